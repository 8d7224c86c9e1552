/- Plain laws of models. No condition. -/
import Derived.Test.YtbifcdaablhljaaDoorMdExactNeededMacros
import Derived.Test.YtbifcdaablhljaaDoorEvTri
namespace Go.Ev
open Go.Mx (KD ED EObj forL forI seqS iterM)
set_option linter.unusedVariables false
set_option linter.unusedSimpArgs false
theorem w64_nat {i:Nat} (h:i<9223372036854775807):w64 ((i:Int)+1)=((i+1:Nat):Int):=by rw[w_id (by omega) (by omega)]; omega
theorem szIntS_evt (sc:List Int) (hs:sc.length≤mxL) (b:Int) (h0:0≤b) (h1:b≤1048576):Evt (fun n=>la_szIntS n sc b) (szR sc.length b):=by
 simp only[la_szIntS,sub_w h0 h1 hs];exact Evt.szA (w2:=0) fun h=>.szZ (by omega)
theorem szForm_evt (f:Form) (hf:okF f) (b:Int) (h0:0≤b) (h1:b≤1048576):Evt (fun n=>la_szForm n f b) (szR (wF f) b):=by
 obtain⟨o1,o2,o3,o4⟩:=(okF_eq f).1 hf;refine .succ ?_;simp only[la_szForm,sub_w h0 h1 o1];rw[wF_eq,show f.name.length+f.scopes.length+f.kids.length+wFs f.kids=f.name.length+(f.scopes.length+((f.kids.length+wFs f.kids)+0)) by omega];refine .szA fun q1=>.szB (szIntS_evt _ o2 _ (by omega) (by omega)) fun q2=>.szB ?_ fun q3=>.szZ (by omega);refine .succ ?_;simp only[la_szFormS];rw[sub_w (by omega) (by omega) o3];refine .szA fun q4=>?_;exact szS_evt (m:=fun n x b=>la_szForm n x b) rfl (fun _ _=>by rw[wFs]) (fun x hx b h0 h1=>szForm_evt x (okFs_iff.1 o4 x hx) b h0 h1) _ (by omega) (by omega)
termination_by SizeOf.sizeOf f
decreasing_by exact szF_lt hx
theorem eqIntS_evt (l:List Int):Evt (fun n=>la_eqIntS n l l) true:=by
 simp only[la_eqIntS,not_true_eq_false,if_false];have:=eqS_evt (e:=fun _ (x y:Int)=>some (decide (x=y))) (xs:=l) (fun x _=>by simpa using Evt.pure true)
 simpa only[Option.bind_some,Bool.not_eq_true',decide_eq_false_iff_not] using this
theorem eqForm_evt (f:Form):Evt (fun n=>la_eqForm n f f) true:=by
 refine .succ ?_;simp only[la_eqForm,not_true_eq_false,if_false];refine .bind (eqIntS_evt _) (.neg (by simp) (.bind (a:=true) ?_ (.neg (by simp) (.pure _))));refine .succ ?_;simp only[la_eqFormS,not_true_eq_false,if_false];exact eqS_evt (e:=fun n x y=>la_eqForm n x y) (fun x hx=>eqForm_evt x)
termination_by SizeOf.sizeOf f
decreasing_by exact szF_lt hx
theorem contS_eq (n:Nat) (l:List (List UInt8)) (x:List UInt8):slices_Contains_string n l x=some (decide (x∈l)):=by
 unfold slices_Contains_string slices_Index_string;have main:∀(l:List (List UInt8)) (i:Nat),∃k:Int,seqS (Mx.forI (fun(_:Unit) (i:Nat) (y:List UInt8)=>((if x=y then some (Sum.inl (i:Int)) else some (Sum.inr ())):Option (Int⊕Unit))) i l ()) (fun _=>some (-1))=some k∧(k≥0↔x∈l):=by
  intro l
  induction l with
  | nil=>intro i; exact⟨-1,rfl,by simp⟩
  | cons y r ih=>
   intro i;by_cases h:x=y
   ·subst h;exact⟨(i:Int),by simp[Mx.forI,Mx.seqS],by simp⟩
   ·obtain⟨k,h1,h2⟩:=ih (i+1);refine⟨k,?_,by rw[h2]; simp[h]⟩;rw[← h1];simp[Mx.forI,h]
 obtain⟨k,h1,h2⟩:=main l 0;rw[h1,Option.bind_some];congr 1;rw[Bool.eq_iff_iff,decide_eq_true_eq,decide_eq_true_eq]; exact h2
theorem contSv_eq (n:Nat) (l:List (List UInt8)) (x:List UInt8):slices_Contains_string_v n l x=some (decide (x∈l)):=contS_eq n l x
mutual
def cF:Form→Nat
 | ⟨_,_,_,_,kids⟩=>1+cFs kids
def cFs:List Form→Nat
 | []=>0
 | x::r=>cF x+cFs r
end
theorem cF_eq (f:Form):cF f=1+cFs f.kids:=by cases f; simp only[cF]
mutual
theorem cF_le:∀f:Form,cF f≤wF f+1
 | ⟨k,nm,n,sc,kids⟩=>by have:=cFs_le kids; simp only[cF,wF]; omega
theorem cFs_le:∀l:List Form,cFs l≤wFs l+l.length
 | []=>by simp[cFs]
 | x::r=>by have:=cF_le x; have:=cFs_le r; simp only[cFs,wFs,List.length_cons]; omega
end
theorem cFs_mem:∀{l:List Form} {x:Form},x∈l→cF x≤cFs l
 | y::r,x,h=>by
  simp only[cFs];rcases List.mem_cons.1 h with rfl | h
  ·omega
  ·have:=cFs_mem h; omega
theorem Ex.sumL {α:Type} {m:Nat→α→Option Int} {c:α→Nat} {cs:List α→Nat} (hn:cs []=0) (hc:∀x r,cs (x::r)=c x+cs r) {xs:List α} {b:Nat} (hb:b+cs xs≤4611686018427387904) (h:∀x∈xs,Evt (fun n=>m n x) (c x:Int)) :
  Evt (fun n=>Mx.forL (fun(s:Int) (_:Nat) (x:α)=>(m n x).bind fun k=>some (w64 (s+k))) 0 xs (b:Int)) ((b+cs xs:Nat):Int):=by
 refine Ex.evt ?_;refine Ex.forL (I:=fun i q s=>∃u:Nat,s=(u:Int)∧u+cs q=b+cs xs∧∀x∈q,x∈xs) ⟨b,rfl,rfl,fun _ h=>h⟩ ?_ ?_
 ·rintro i x q s ⟨u,rfl,h1,h2⟩;refine .bv (h x (h2 x (List.mem_cons_self))) (.pure ⟨u+c x,?_,by rw[hc] at h1; omega,fun y hy=>h2 y (List.mem_cons_of_mem _ hy)⟩);rw[hc] at h1;rw[w_id (by omega) (by omega)]; omega
 ·rintro s ⟨u,rfl,h1,_⟩;rw[hn] at h1;rw[← h1]; rfl
mutual
def hasN:Form→List UInt8→Bool
 | ⟨k,nm,_,_,kids⟩,x=>(decide (k=1)&&decide (nm=x))||hasNs kids x
def hasNs:List Form→List UInt8→Bool
 | [],_=>false
 | f::r,x=>hasN f x||hasNs r x
end
theorem hasN_eq (f:Form) (x:List UInt8):hasN f x=((decide (f.kind=1)&&decide (f.name=x))||hasNs f.kids x):=by cases f; simp only[hasN]
mutual
def cnN:Form→List UInt8→Nat
 | ⟨k,nm,_,_,kids⟩,x=>(if k=1∧nm=x then 1 else 0)+cnNs kids x
def cnNs:List Form→List UInt8→Nat
 | [],_=>0
 | f::r,x=>cnN f x+cnNs r x
end
theorem cnN_eq (f:Form) (x:List UInt8):cnN f x=(if f.kind=1∧f.name=x then 1 else 0)+cnNs f.kids x:=by cases f; simp only[cnN]
mutual
theorem cnN_has:∀(f:Form) (x:List UInt8),(0<cnN f x↔hasN f x=true)∧cnN f x≤cF f
 | ⟨k,nm,n,sc,kids⟩,x=>by
  obtain⟨h1,h2⟩:=cnNs_has kids x;simp only[cnN,hasN,cF,Bool.or_eq_true,Bool.and_eq_true,decide_eq_true_eq];rw[← h1];by_cases h:k=1∧nm=x
  ·rw[if_pos h]; exact⟨⟨fun _=>.inl h,fun _=>by omega⟩,by omega⟩
  ·rw[if_neg h]; exact⟨⟨fun h'=>.inr (by omega),fun h'=>by rcases h' with h' | h'; exact absurd h' h; omega⟩,by omega⟩
theorem cnNs_has:∀(l:List Form) (x:List UInt8),(0<cnNs l x↔hasNs l x=true)∧cnNs l x≤cFs l
 | [],x=>by simp[cnNs,hasNs]
 | f::r,x=>by
  obtain⟨h1,h2⟩:=cnN_has f x;obtain⟨h3,h4⟩:=cnNs_has r x;simp only[cnNs,hasNs,cFs,Bool.or_eq_true];rw[← h1,← h3];exact⟨by omega,by omega⟩
end
theorem cntN_evt (f:Form) (x:List UInt8) (hw:cF f≤1000000000):Evt (fun n=>sp_CountName n f x) (cnN f x:Int):=by
 have hc:=cF_eq f;have hb:=(cnNs_has f.kids x).2;refine .succ ?_;simp only[sp_CountName];rw[cnN_eq];have hk:∀b:Nat,b≤1→Evt (fun n=>Mx.forL (fun(s:Int) (_:Nat) (y:Form)=>(sp_CountName n y x).bind fun k=>some (w64 (s+k))) 0 f.kids (b:Int)) ((b+cnNs f.kids x:Nat):Int):=fun b hb1=>
  Ex.sumL (b:=b) (c:=fun y=>cnN y x) (cs:=fun l=>cnNs l x) rfl (fun _ _=>rfl) (by omega) (fun y hy=>cntN_evt y x (by have:=cFs_mem hy; omega))
 by_cases h1:f.kind=1
 ·rw[if_pos h1];simp only[Option.bind_some];by_cases h2:f.name=x
  ·rw[decide_eq_true h2,if_pos rfl,if_pos ⟨h1,h2⟩];simp only[Option.bind_some];exact .bind (hk 1 (by omega)) (.pure _)
  ·rw[decide_eq_false h2,if_neg (by simp),if_neg (fun h=>h2 h.2)];simp only[Option.bind_some];exact .bind (hk 0 (by omega)) (.pure _)
 ·rw[if_neg h1,if_neg (fun h=>h1 h.1)];simp only[Option.bind_some,Bool.false_eq_true,if_false];exact .bind (hk 0 (by omega)) (.pure _)
termination_by SizeOf.sizeOf f
decreasing_by exact szF_lt hy
theorem eachN_ex (f:Form) (w:List (List UInt8)) (hw:w.length+cF f≤1000000000):Ex (fun n=>im_eachForm__im_NamesOf_1 n f w) (fun r=>(∀x,x∈r↔x∈w∨hasN f x=true)∧r.length≤w.length+cF f):=by
 have hc:=cF_eq f;refine .succ ?_;simp only[im_eachForm__im_NamesOf_1,im_NamesOf_1,contSv_eq,Option.bind_some];refine Ex.bind (P:=fun r=>(∀x,x∈r↔x∈w∨(decide (f.kind=1)&&decide (f.name=x))=true)∧r.length≤w.length+1) ?_ ?_
 ·by_cases h1:f.kind=1
  ·rw[if_pos h1];simp only[Option.bind_some];by_cases h2:f.name∈w
   ·rw[decide_eq_true h2];refine .neg (by simp) (.pure ⟨fun x=>?_,by omega⟩);simp only[h1,decide_true,Bool.true_and,decide_eq_true_eq];exact⟨.inl,fun h=>by rcases h with h | h; exact h; exact h▸h2⟩
   ·rw[decide_eq_false h2];refine .pos rfl (.bp _ (apB_ok (by simp; omega)) (.pure ⟨fun x=>?_,by simp⟩));simp only[h1,decide_true,Bool.true_and,decide_eq_true_eq,List.mem_append,List.mem_singleton];exact⟨fun h=>h.imp id Eq.symm,fun h=>h.imp id Eq.symm⟩
  ·rw[if_neg h1];simp only[Option.bind_some];refine .neg (by simp) (.pure ⟨fun x=>?_,by omega⟩);simp[h1]
 rintro r1 ⟨m1,l1⟩;refine Ex.bind (P:=fun r=>(∀x,x∈r↔x∈w∨hasN f x=true)∧r.length≤w.length+cF f) ?_ (fun r hr=>.pure hr);refine Ex.forL (I:=fun i q s=>(∀x,(x∈s∨hasNs q x=true)↔x∈w∨hasN f x=true)∧s.length+cFs q≤w.length+cF f∧∀y∈q,y∈f.kids) ⟨fun x=>?_,by omega,fun _ h=>h⟩ ?_ ?_
 ·rw[m1,hasN_eq,Bool.or_eq_true,or_assoc]
 ·rintro i y q s ⟨a1,a2,a3⟩;simp only[cFs] at a2;have hy:=a3 y (List.mem_cons_self);refine .bind (eachN_ex y s (by omega)) fun k ⟨b1,b2⟩=>.pure ⟨fun x=>?_,by omega,fun z hz=>a3 z (List.mem_cons_of_mem _ hz)⟩;rw[← a1 x,b1];simp only[hasNs,Bool.or_eq_true,or_assoc]
 ·rintro s ⟨a1,a2,_⟩;simp only[cFs] at a2;exact⟨fun x=>by rw[← a1 x]; simp[hasNs],by omega⟩
termination_by SizeOf.sizeOf f
decreasing_by exact szF_lt hy
theorem namesOf_ex (f:Form) (hw:cF f≤1000000000):Ex (fun n=>im_NamesOf n f) (fun r=>∀x,x∈r↔hasN f x=true):=by
 unfold im_NamesOf;refine .bind (eachN_ex f [] (by simp; omega)) fun r ⟨h,_⟩=>.pure fun x=>by rw[h]; simp
theorem delF_evt (l names:List (List UInt8)) (hl:l.length≤1000000):Evt (fun n=>slices_DeleteFunc_string__im_NeededMacros_1_v n l names) (l.filter fun x=>decide (x∈names)):=by
 unfold slices_DeleteFunc_string__im_NeededMacros_1_v slices_IndexFunc_string__im_NeededMacros_1_v im_NeededMacros_1;simp only[contS_eq,Option.bind_some];have hidx:∀(q:List (List UInt8)) (i:Nat),(∃k:Nat,k<q.length∧seqS (Mx.forI (fun(_:Unit) (i2:Nat) (x5:List UInt8)=>((if(!decide (x5∈names))=true then some (Sum.inl (i2:Int)) else some (Sum.inr ())):Option (Int⊕Unit))) i q ()) (fun _=>some (-1))=some ((i+k:Nat):Int)∧(q.take k).filter (fun x=>decide (x∈names))=q.take k∧(q.take (k+1)).filter (fun x=>decide (x∈names))=q.take k) ∨
   (seqS (Mx.forI (fun(_:Unit) (i2:Nat) (x5:List UInt8)=>((if(!decide (x5∈names))=true then some (Sum.inl (i2:Int)) else some (Sum.inr ())):Option (Int⊕Unit))) i q ()) (fun _=>some (-1))=some (-1)∧q.filter (fun x=>decide (x∈names))=q):=by
  intro q
  induction q with
  | nil=>intro i; exact .inr ⟨rfl,rfl⟩
  | cons x r ih=>
   intro i;by_cases hx:x∈names
   ·rcases ih (i+1) with ⟨k,k1,k2,k3,k4⟩ | ⟨k2,k3⟩
    ·refine .inl ⟨k+1,by simp; omega,?_,?_,?_⟩
     ·simp only[Mx.forI,hx,decide_true,Bool.not_true,Bool.false_eq_true,if_false,Option.bind_some];rw[k2]; congr 2; omega
     ·simp only[List.take_succ_cons,List.filter_cons,hx,decide_true,if_true,k3]
     ·simp only[List.take_succ_cons,List.filter_cons,hx,decide_true,if_true];rw[k4]
    ·refine .inr ⟨?_,?_⟩
     ·simp only[Mx.forI,hx,decide_true,Bool.not_true,Bool.false_eq_true,if_false,Option.bind_some];exact k2
     ·simp only[List.filter_cons,hx,decide_true,if_true,k3]
   ·refine .inl ⟨0,by simp,?_,rfl,?_⟩
    ·simp[Mx.forI,Mx.seqS,hx]
    ·simp[hx]
 refine Ex.evt ?_;rcases hidx l 0 with ⟨k,k1,k2,k3,k4⟩ | ⟨k2,k3⟩
 ·rw[Nat.zero_add] at k2;refine .bp _ k2 (.neg (by omega) ?_);have hw:w64 ((k:Int)+1)=((k+1:Nat):Int):=w64_nat (by omega);rw[hw];refine Ex.iter (fun t=>l.length-t.2.1.toNat) (fun t=>∃i j:Nat,t.1=(i:Int)∧t.2.1=(j:Int)∧i<j∧j≤l.length∧t.2.2.length=l.length∧t.2.2.take i=(l.take j).filter (fun x=>decide (x∈names))∧t.2.2.drop j=l.drop j) _ ⟨k,k+1,rfl,rfl,by omega,by omega,rfl,k4.symm,rfl⟩ ?_;rintro ⟨p,q,s⟩ ⟨i,j,hi,hj,h1,h2,h3,h4,h5⟩;simp only at hi hj h3 h4 h5;subst hi; subst hj;simp only;refine .ite (fun h=>?_) (fun h=>?_)
  ·have hjl:j<l.length:=by omega
   have hjs:j<s.length:=by omega
   have hx:s[j]=l[j]:=by
    have e1:=List.drop_eq_getElem_cons hjs;have e2:=List.drop_eq_getElem_cons hjl;rw[h5,e2] at e1;exact(List.cons.inj e1).1.symm
   have ht:l.take (j+1)=l.take j++[l[j]]:=by rw[List.take_add_one,List.getElem?_eq_getElem hjl]; rfl
   have hd:s.drop (j+1)=l.drop (j+1):=by
    have:=congrArg (List.drop 1) h5
    simpa [List.drop_drop,Nat.add_comm] using this
   refine Ex.bind (P:=fun o=>∃i':Nat,o.1=(i':Int)∧i'<j+1∧o.2.length=l.length∧o.2.take i'=(l.take (j+1)).filter (fun x=>decide (x∈names))∧o.2.drop (j+1)=l.drop (j+1)) ?_ ?_
   ·refine .bp () (inB_ok (by omega) (by simpa using hjs)) (.bp s[j] (by rw[Int.toNat_natCast]; exact List.getElem?_eq_getElem hjs) ?_);by_cases hm:s[j]∈names
    ·rw[decide_eq_true hm];have his:i<s.length:=by omega
     refine .pos rfl (.bp () (inB_ok (by omega) (by simpa using his)) (.bp s[i] (by rw[Int.toNat_natCast]; exact List.getElem?_eq_getElem his) (.pure ?_)));refine⟨i+1,by simp only; rw[w64_nat (by omega)],by omega,by simp; omega,?_,?_⟩
     ·simp only[Int.toNat_natCast];rw[ht,List.filter_append,← h4,List.take_add_one];have a1:(s.set i s[j]).take i=s.take i:=by rw[List.take_set_of_le (by omega)]
      have a2:(s.set i s[j])[i]? = some s[j]:=by simp[his]
      rw[a1,a2,← hx];simp[hm]
     ·simp only[Int.toNat_natCast];rw[List.drop_set_of_lt (by omega)]; exact hd
    ·rw[decide_eq_false hm];refine .neg (by simp) (.pure ⟨i,rfl,by omega,h3,?_,hd⟩);simp only;rw[ht,List.filter_append,← h4,← hx];simp[hm]
   ·rintro ⟨p',s'⟩ ⟨i',hi',q1,q2,q3,q4⟩;simp only at hi' q2 q3 q4;subst hi';refine .pure ⟨fun _ e=>(by cases e),fun t e=>?_⟩;cases e;exact⟨⟨i',j+1,rfl,by simp only; rw[w64_nat (by omega)],q1,by omega,q2,q3,q4⟩,by simp only; rw[w64_nat (by omega)]; simp; omega⟩
  ·have hj:j=l.length:=by omega
   subst hj;rw[List.take_length] at h4;have his:i≤s.length:=by omega
   unfold clI takeI;refine .bp _ (if_pos ⟨by omega,by omega⟩) (.bp _ (if_pos ⟨by omega,by simp; omega⟩) (.pure ⟨fun w e=>?_,fun _ e=>(by cases e)⟩));cases e;rw[← h4];simp[List.take_append_of_le_length,his]
 ·exact .bp _ k2 (.pos rfl (.pure k3.symm))
theorem libN_eq (n:Nat):im_LibraryNames n=some lp0:=by
 unfold im_LibraryNames slices_Clone_string;rw[apB_nil (by decide)]; rfl
theorem needS_evt (f:Form) (hw:cF f≤1000000000):Evt (fun n=>sp_NeededMacros n f) (lp0.filter fun x=>hasN f x):=by
 refine Ex.evt ?_;unfold sp_NeededMacros sp_l11Needed sp_l11Names;refine Ex.bind (P:=fun r=>r=lp0.filter fun x=>hasN f x) (.bp lp0 rfl ?_) (fun r hr=>.pure hr);refine Ex.bind (P:=fun r=>r=lp0.filter fun x=>hasN f x) ?_ (fun r hr=>.pure hr);refine Ex.forL (I:=fun i q s=>s++q.filter (fun x=>hasN f x)=lp0.filter (fun x=>hasN f x)∧s.length+q.length≤7) ⟨rfl,by decide⟩ ?_ ?_
 ·rintro i x q s ⟨h1,h2⟩;simp only[List.length_cons] at h2;refine Ex.bind (P:=fun r=>r++q.filter (fun x=>hasN f x)=lp0.filter (fun x=>hasN f x)∧r.length+q.length≤7) ?_ (fun r hr=>.pure hr);refine .bv (cntN_evt f x hw) ?_;have hc:=(cnN_has f x).1;rw[List.filter_cons] at h1;by_cases h:0<cnN f x
  ·have hh:=hc.1 h;rw[hh,if_pos rfl] at h1;exact .pos (by omega) (.bp _ (apB_ok (by simp; omega)) (.pure ⟨by rw[← h1]; simp,by simp; omega⟩))
  ·have hh:hasN f x=false:=by
    cases hq:hasN f x with
    | false=>rfl
    | true=>exact absurd (hc.2 hq) h
   rw[hh,if_neg (by simp)] at h1;exact .neg (by omega) (.pure ⟨h1,by omega⟩)
 ·rintro s ⟨h1,_⟩
  simpa using h1
theorem ineed_evt (f:Form) (hcf:cF f≤1000000000):Evt (fun n=>im_NeededMacros n f) (lp0.filter fun x=>hasN f x):=by
 refine Ex.evt ?_;unfold im_NeededMacros;refine .bind (namesOf_ex f hcf) fun ns hns=>?_;simp only[libN_eq,Option.bind_some];refine .bv (delF_evt lp0 ns (by decide)) (.pure ?_);congr 1
 funext x
 rw[Bool.eq_iff_iff,decide_eq_true_eq]; exact hns x
theorem eqStringS_evt (xs:List (List UInt8)):Evt (fun n=>la_eqStringS n xs xs) true:=by
 refine Ex.evt ?_;unfold la_eqStringS;refine .neg (by simp) ?_;refine .seqS (P:=fun r=>r=.inr ()) ?_ (fun w h=>by cases h) (fun t h=>.pure rfl);refine .forI (fun i q _=>xs.drop i=q) rfl ?_ (fun s _=>rfl);rintro i x q s h1;obtain⟨g1,g2,g3,g4⟩:=drop_hd h1;refine .bp x (atI_nat g1) ?_;refine .neg (by simp) ?_;refine .fg ?_;exact g2
end Go.Ev
