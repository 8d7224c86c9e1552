/- Plain laws of models. No condition. -/
import Derived.Test.YtbifcdaablhljaaDoorMdExactOpenNames
import Derived.Test.YtbifcdaablhljaaDoorEvTri
namespace Go.Ev
open Go.Mx (KD ED EObj forL forI seqS iterM)
set_option linter.unusedVariables false
set_option linter.unusedSimpArgs false
theorem szIntS_evt (sc:List Int) (hs:sc.length≤mxL) (b:Int) (h0:0≤b) (h1:b≤1048576):Evt (fun n=>la_szIntS n sc b) (szR sc.length b):=by
 simp only[la_szIntS,sub_w h0 h1 hs];exact Evt.szA (w2:=0) fun h=>.szZ (by omega)
theorem szForm_evt (f:Form) (hf:okF f) (b:Int) (h0:0≤b) (h1:b≤1048576):Evt (fun n=>la_szForm n f b) (szR (wF f) b):=by
 obtain⟨o1,o2,o3,o4⟩:=(okF_eq f).1 hf;refine .succ ?_;simp only[la_szForm,sub_w h0 h1 o1];rw[wF_eq,show f.name.length+f.scopes.length+f.kids.length+wFs f.kids=f.name.length+(f.scopes.length+((f.kids.length+wFs f.kids)+0)) by omega];refine .szA fun q1=>.szB (szIntS_evt _ o2 _ (by omega) (by omega)) fun q2=>.szB ?_ fun q3=>.szZ (by omega);refine .succ ?_;simp only[la_szFormS];rw[sub_w (by omega) (by omega) o3];refine .szA fun q4=>?_;exact szS_evt (m:=fun n x b=>la_szForm n x b) rfl (fun _ _=>by rw[wFs]) (fun x hx b h0 h1=>szForm_evt x (okFs_iff.1 o4 x hx) b h0 h1) _ (by omega) (by omega)
termination_by SizeOf.sizeOf f
decreasing_by exact szF_lt hx
theorem szCore_evt (f:Core) (hf:okC f) (b:Int) (h0:0≤b) (h1:b≤1048576):Evt (fun n=>la_szCore n f b) (szR (wC f) b):=by
 obtain⟨o1,o2,od,o3,o4⟩:=(okC_eq f).1 hf;refine .succ ?_;simp only[la_szCore,sub_w h0 h1 o1];rw[wC_eq,show f.name.length+f.ids.length+wF f.data+f.kids.length+wCs f.kids=f.name.length+(f.ids.length+(wF f.data+((f.kids.length+wCs f.kids)+0))) by omega];refine .szA fun q1=>.szB (szIntS_evt _ o2 _ (by omega) (by omega)) fun q2=>.szB (szForm_evt _ od _ (by omega) (by omega)) fun q5=>.szB ?_ fun q3=>.szZ (by omega);refine .succ ?_;simp only[la_szCoreS];rw[sub_w (by omega) (by omega) o3];refine .szA fun q4=>?_;exact szS_evt (m:=fun n x b=>la_szCore n x b) rfl (fun _ _=>by rw[wCs]) (fun x hx b h0 h1=>szCore_evt x (okCs_iff.1 o4 x hx) b h0 h1) _ (by omega) (by omega)
termination_by SizeOf.sizeOf f
decreasing_by exact szC_lt hx
theorem eqIntS_evt (l:List Int):Evt (fun n=>la_eqIntS n l l) true:=by
 simp only[la_eqIntS,not_true_eq_false,if_false];have:=eqS_evt (e:=fun _ (x y:Int)=>some (decide (x=y))) (xs:=l) (fun x _=>by simpa using Evt.pure true)
 simpa only[Option.bind_some,Bool.not_eq_true',decide_eq_false_iff_not] using this
theorem eqForm_evt (f:Form):Evt (fun n=>la_eqForm n f f) true:=by
 refine .succ ?_;simp only[la_eqForm,not_true_eq_false,if_false];refine .bind (eqIntS_evt _) (.neg (by simp) (.bind (a:=true) ?_ (.neg (by simp) (.pure _))));refine .succ ?_;simp only[la_eqFormS,not_true_eq_false,if_false];exact eqS_evt (e:=fun n x y=>la_eqForm n x y) (fun x hx=>eqForm_evt x)
termination_by SizeOf.sizeOf f
decreasing_by exact szF_lt hx
theorem eqCore_evt (f:Core):Evt (fun n=>la_eqCore n f f) true:=by
 refine .succ ?_;simp only[la_eqCore,not_true_eq_false,if_false];refine .bind (eqIntS_evt _) (.neg (by simp) (.bind (eqForm_evt _) (.neg (by simp) (.bind (a:=true) ?_ (.neg (by simp) (.pure _))))));refine .succ ?_;simp only[la_eqCoreS,not_true_eq_false,if_false];exact eqS_evt (e:=fun n x y=>la_eqCore n x y) (fun x hx=>eqCore_evt x)
termination_by SizeOf.sizeOf f
decreasing_by exact szC_lt hx
theorem w64_nat {i:Nat} (h:i<9223372036854775807):w64 ((i:Int)+1)=((i+1:Nat):Int):=by rw[w_id (by omega) (by omega)]; omega
theorem contS_eq (n:Nat) (l:List (List UInt8)) (x:List UInt8):slices_Contains_string n l x=some (decide (x∈l)):=by
 unfold slices_Contains_string slices_Index_string;have main:∀(l:List (List UInt8)) (i:Nat),∃k:Int,seqS (Mx.forI (fun(_:Unit) (i:Nat) (y:List UInt8)=>((if x=y then some (Sum.inl (i:Int)) else some (Sum.inr ())):Option (Int⊕Unit))) i l ()) (fun _=>some (-1))=some k∧(k≥0↔x∈l):=by
  intro l
  induction l with
  | nil=>intro i; exact⟨-1,rfl,by simp⟩
  | cons y r ih=>
   intro i;by_cases h:x=y
   ·subst h;exact⟨(i:Int),by simp[Mx.forI,Mx.seqS],by simp⟩
   ·obtain⟨k,h1,h2⟩:=ih (i+1);refine⟨k,?_,by rw[h2]; simp[h]⟩;rw[← h1];simp[Mx.forI,h]
 obtain⟨k,h1,h2⟩:=main l 0;rw[h1,Option.bind_some];congr 1;rw[Bool.eq_iff_iff,decide_eq_true_eq,decide_eq_true_eq]; exact h2
theorem contSv_eq (n:Nat) (l:List (List UInt8)) (x:List UInt8):slices_Contains_string_v n l x=some (decide (x∈l)):=contS_eq n l x
mutual
def cC:Core→Nat
 | ⟨_,_,_,_,_,_,kids⟩=>1+cCs kids
def cCs:List Core→Nat
 | []=>0
 | x::r=>cC x+cCs r
end
theorem cC_eq (f:Core):cC f=1+cCs f.kids:=by cases f; simp only[cC]
mutual
theorem cC_le:∀f:Core,cC f≤wC f+1
 | ⟨k,id,nm,n,ids,dt,kids⟩=>by have:=cCs_le kids; simp only[cC,wC]; omega
theorem cCs_le:∀l:List Core,cCs l≤wCs l+l.length
 | []=>by simp[cCs]
 | x::r=>by have:=cC_le x; have:=cCs_le r; simp only[cCs,wCs,List.length_cons]; omega
end
theorem delG_evt {α:Type} (l:List α) (del:α→Bool) (d:α) (hl:l.length≤1000000000):Evt (fun n=>(seqS (Mx.forI (fun(_:Unit) (i2:Nat) (x5:α)=>((if del x5=true then some (Sum.inl (i2:Int)) else some (Sum.inr ())):Option (Int⊕Unit))) 0 l ()) (fun _=>some (-1))).bind fun k1=>(if k1=(-1) then some l else iterM n (fun(s3:Int×Int×(List α))=>((if s3.2.1<(s3.2.2.length:Int) then Option.bind ((inB s3.2.1 s3.2.2.length).bind fun u8=>(s3.2.2[(Int.toNat s3.2.1)]?).bind fun e9=>(if(!del e9)=true then(inB s3.1 s3.2.2.length).bind fun u12=>(s3.2.2[(Int.toNat s3.1)]?).bind fun e13=>some ((w64 (s3.1+1)),(s3.2.2.set (Int.toNat s3.1) e9)) else some (s3.1,s3.2.2)):Option (Int×(List α))) (fun(o7:Int×(List α))=>some (Sum.inr (o7.1,(w64 (s3.2.1+1)),o7.2))) else(clI s3.2.2 s3.1 d).bind fun z15=>(takeI z15 s3.1).bind fun z17=>some (Sum.inl z17)):Option ((List α)⊕(Int×Int×(List α))))) (k1,(w64 (k1+1)),l))) (l.filter fun x=>!del x):=by
 have hidx:∀(q:List α) (i:Nat),(∃k:Nat,k<q.length∧seqS (Mx.forI (fun(_:Unit) (i2:Nat) (x5:α)=>((if del x5=true then some (Sum.inl (i2:Int)) else some (Sum.inr ())):Option (Int⊕Unit))) i q ()) (fun _=>some (-1))=some ((i+k:Nat):Int)∧(q.take k).filter (fun x=>!del x)=q.take k∧(q.take (k+1)).filter (fun x=>!del x)=q.take k) ∨
   (seqS (Mx.forI (fun(_:Unit) (i2:Nat) (x5:α)=>((if del x5=true then some (Sum.inl (i2:Int)) else some (Sum.inr ())):Option (Int⊕Unit))) i q ()) (fun _=>some (-1))=some (-1)∧q.filter (fun x=>!del x)=q):=by
  intro q
  induction q with
  | nil=>intro i; exact .inr ⟨rfl,rfl⟩
  | cons x r ih=>
   intro i;cases hx:del x with
   | false=>
    rcases ih (i+1) with ⟨k,k1,k2,k3,k4⟩ | ⟨k2,k3⟩
    ·refine .inl ⟨k+1,by simp; omega,?_,?_,?_⟩
     ·simp only[Mx.forI,hx,Bool.false_eq_true,if_false,Option.bind_some];rw[k2]; congr 2; omega
     ·simp only[List.take_succ_cons,List.filter_cons,hx,Bool.not_false,if_true,k3]
     ·simp only[List.take_succ_cons,List.filter_cons,hx,Bool.not_false,if_true];rw[k4]
    ·refine .inr ⟨?_,?_⟩
     ·simp only[Mx.forI,hx,Bool.false_eq_true,if_false,Option.bind_some];exact k2
     ·simp only[List.filter_cons,hx,Bool.not_false,if_true,k3]
   | true=>
    refine .inl ⟨0,by simp,?_,rfl,?_⟩
    ·simp[Mx.forI,Mx.seqS,hx]
    ·simp[hx]
 refine Ex.evt ?_;rcases hidx l 0 with ⟨k,k1,k2,k3,k4⟩ | ⟨k2,k3⟩
 ·rw[Nat.zero_add] at k2;refine .bp _ k2 (.neg (by omega) ?_);have hw:w64 ((k:Int)+1)=((k+1:Nat):Int):=w64_nat (by omega);rw[hw];refine Ex.iter (fun t=>l.length-t.2.1.toNat) (fun t=>∃i j:Nat,t.1=(i:Int)∧t.2.1=(j:Int)∧i<j∧j≤l.length∧t.2.2.length=l.length∧t.2.2.take i=(l.take j).filter (fun x=>!del x)∧t.2.2.drop j=l.drop j) _ ⟨k,k+1,rfl,rfl,by omega,by omega,rfl,k4.symm,rfl⟩ ?_;rintro ⟨p,q,s⟩ ⟨i,j,hi,hj,h1,h2,h3,h4,h5⟩;simp only at hi hj h3 h4 h5;subst hi; subst hj;simp only;refine .ite (fun h=>?_) (fun h=>?_)
  ·have hjl:j<l.length:=by omega
   have hjs:j<s.length:=by omega
   have hx:s[j]=l[j]:=by
    have e1:=List.drop_eq_getElem_cons hjs;have e2:=List.drop_eq_getElem_cons hjl;rw[h5,e2] at e1;exact(List.cons.inj e1).1.symm
   have ht:l.take (j+1)=l.take j++[l[j]]:=by rw[List.take_add_one,List.getElem?_eq_getElem hjl]; rfl
   have hd:s.drop (j+1)=l.drop (j+1):=by
    have:=congrArg (List.drop 1) h5
    simpa [List.drop_drop,Nat.add_comm] using this
   refine Ex.bind (P:=fun o=>∃i':Nat,o.1=(i':Int)∧i'<j+1∧o.2.length=l.length∧o.2.take i'=(l.take (j+1)).filter (fun x=>!del x)∧o.2.drop (j+1)=l.drop (j+1)) ?_ ?_
   ·refine .bp () (inB_ok (by omega) (by simpa using hjs)) (.bp s[j] (by rw[Int.toNat_natCast]; exact List.getElem?_eq_getElem hjs) ?_);cases hm:del s[j] with
    | false=>
     have his:i<s.length:=by omega
     refine .pos rfl (.bp () (inB_ok (by omega) (by simpa using his)) (.bp s[i] (by rw[Int.toNat_natCast]; exact List.getElem?_eq_getElem his) (.pure ?_)));refine⟨i+1,by simp only; rw[w64_nat (by omega)],by omega,by simp; omega,?_,?_⟩
     ·simp only[Int.toNat_natCast];rw[ht,List.filter_append,← h4,List.take_add_one];have a1:(s.set i s[j]).take i=s.take i:=by rw[List.take_set_of_le (by omega)]
      have a2:(s.set i s[j])[i]? = some s[j]:=by simp[his]
      rw[a1,a2,← hx];simp[hm]
     ·simp only[Int.toNat_natCast];rw[List.drop_set_of_lt (by omega)]; exact hd
    | true=>
     refine .neg (by simp) (.pure ⟨i,rfl,by omega,h3,?_,hd⟩);simp only;rw[ht,List.filter_append,← h4,← hx];simp[hm]
   ·rintro ⟨p',s'⟩ ⟨i',hi',q1,q2,q3,q4⟩;simp only at hi' q2 q3 q4;subst hi';refine .pure ⟨fun _ e=>(by cases e),fun t e=>?_⟩;cases e;exact⟨⟨i',j+1,rfl,by simp only; rw[w64_nat (by omega)],q1,by omega,q2,q3,q4⟩,by simp only; rw[w64_nat (by omega)]; simp; omega⟩
  ·have hj:j=l.length:=by omega
   subst hj;rw[List.take_length] at h4;have his:i≤s.length:=by omega
   unfold clI takeI;refine .bp _ (if_pos ⟨by omega,by omega⟩) (.bp _ (if_pos ⟨by omega,by simp; omega⟩) (.pure ⟨fun w e=>?_,fun _ e=>(by cases e)⟩));cases e;rw[← h4];simp[List.take_append_of_le_length,his]
 ·exact .bp _ k2 (.pos rfl (.pure k3.symm))
def adN (w:List (List UInt8)) (x:List UInt8):List (List UInt8):=if x∈w then w else w++[x]
mutual
def nmC:Core→List (List UInt8)
 | ⟨k,_,nm,_,_,_,kids⟩=>(if k=2 then [nm] else [])++nmCs kids
def nmCs:List Core→List (List UInt8)
 | []=>[]
 | x::r=>nmC x++nmCs r
end
theorem nmC_eq (c:Core):nmC c=(if c.kind=2 then [c.name] else [])++nmCs c.kids:=by cases c; simp only[nmC]
mutual
theorem nmC_le:∀c:Core,(nmC c).length≤cC c
 | ⟨k,_,nm,_,_,_,kids⟩=>by have:=nmCs_le kids; simp only[nmC,cC,List.length_append]; split <;> simp <;> omega
theorem nmCs_le:∀l:List Core,(nmCs l).length≤cCs l
 | []=>by simp[nmCs]
 | x::r=>by have:=nmC_le x; have:=nmCs_le r; simp only[nmCs,cCs,List.length_append]; omega
end
theorem adN_len (w:List (List UInt8)) (x:List UInt8):(adN w x).length≤w.length+1:=by unfold adN; split <;> simp
theorem fold_len:∀(l w:List (List UInt8)),(l.foldl adN w).length≤w.length+l.length
 | [],w=>by simp
 | x::r,w=>by have:=fold_len r (adN w x); have:=adN_len w x; simp only[List.foldl_cons,List.length_cons]; omega
theorem ifree_evt (c:Core) (w:List (List UInt8)) (hw:w.length+cC c≤1000000000):Evt (fun n=>im_freeOf n c w) ((nmC c).foldl adN w):=by
 have hc:=cC_eq c;refine .succ ?_;simp only[im_freeOf,contSv_eq,Option.bind_some];refine Ex.evt ?_;refine Ex.bind (P:=fun o=>o=decide (c.kind=2∧c.name∉w)) ?_ ?_
 ·by_cases h:c.kind=2
  ·exact .pos h (.pure (by simp[h]))
  ·exact .neg h (.pure (by simp[h]))
 rintro o rfl;refine Ex.bind (P:=fun s=>s=(if c.kind=2 then [c.name] else []).foldl adN w) ?_ ?_
 ·by_cases h:c.kind=2∧c.name∉w
  ·exact .pos (by simpa using h) (.bp _ (apB_ok (by simp; omega)) (.pure (by rw[if_pos h.1]; simp[adN,h.2])))
  ·refine .neg (by simpa using h) (.pure ?_);by_cases h1:c.kind=2
   ·have:c.name∈w:=Decidable.byContradiction fun h2=>h ⟨h1,h2⟩;rw[if_pos h1]; simp[adN,this]
   ·rw[if_neg h1]; rfl
 rintro s0 rfl;have hl0:((if c.kind=2 then [c.name] else []).foldl adN w).length≤w.length+1:=by
  have:=fold_len (if c.kind=2 then [c.name] else []) w;have:(if c.kind=2 then [c.name] else []).length≤1:=by split <;> simp
  omega
 refine Ex.bind (P:=fun s=>s=(nmC c).foldl adN w) ?_ (fun s hs=>.pure hs);refine Ex.forL (I:=fun i q s=>(nmCs q).foldl adN s=(nmC c).foldl adN w∧s.length+cCs q≤1000000000∧∀x∈q,x∈c.kids) ⟨by rw[nmC_eq,List.foldl_append],by omega,fun _ h=>h⟩ ?_ ?_
 ·rintro i x q s ⟨h1,h2,h3⟩;have g4:=h3 x List.mem_cons_self;simp only[cCs] at h2;have hx:=nmC_le x;have hf:=fold_len (nmC x) s;refine .bv (ifree_evt x s (by omega)) (.pure ⟨?_,by omega,fun y hy=>h3 y (List.mem_cons_of_mem _ hy)⟩);rw[← h1,nmCs,List.foldl_append]
 ·rintro s ⟨h1,_,_⟩;exact h1
termination_by SizeOf.sizeOf c
decreasing_by exact szC_lt g4
theorem ifreeN_evt (c:Core) (hw:cC c≤1000000000-1):Evt (fun n=>im_FreeOf n c) ((nmC c).foldl adN []):=by
 have h:=ifree_evt c [] (by simp; omega);obtain⟨N,hN⟩:=h;refine⟨N+1,fun n hn=>?_⟩;obtain⟨m,rfl⟩:∃m,n=m+1:=⟨n-1,by omega⟩
 have h1:=hN (m+2) (by omega);have e:im_FreeOf (m+1) c=im_freeOf (m+2) c []:=by
  unfold im_FreeOf im_freeOf_nil;simp only[im_freeOf,contSv_eq,contS_eq,Option.bind_some,Option.bind_fun_some]
 show im_FreeOf (m+1) c=_;rw[e]; exact h1
theorem sin_eq (n:Nat) (l:List (List UInt8)) (x:List UInt8):sp_l1In n l x=some (decide (x∈l)):=by
 obtain⟨N,h⟩:=mem_evt (xs:=l) (y:=x);exact h N (Nat.le_refl N)
theorem sinv_eq (n:Nat) (l:List (List UInt8)) (x:List UInt8):sp_l1In_v n l x=some (decide (x∈l)):=sin_eq n l x
theorem sfree_evt (c:Core) (w:List (List UInt8)) (hw:w.length+cC c≤1000000000):Evt (fun n=>sp_l6Free n w c) ((nmC c).foldl adN w):=by
 have hc:=cC_eq c;refine .succ ?_;simp only[sp_l6Free,sinv_eq,Option.bind_some];refine Ex.evt ?_;refine Ex.bind (P:=fun o=>o=decide (c.kind=2∧c.name∉w)) ?_ ?_
 ·by_cases h:c.kind=2
  ·exact .pos h (.pure (by simp[h]))
  ·exact .neg h (.pure (by simp[h]))
 rintro o rfl;refine Ex.bind (P:=fun s=>s=(if c.kind=2 then [c.name] else []).foldl adN w) ?_ ?_
 ·by_cases h:c.kind=2∧c.name∉w
  ·exact .pos (by simpa using h) (.bp _ (apB_ok (by simp; omega)) (.pure (by rw[if_pos h.1]; simp[adN,h.2])))
  ·refine .neg (by simpa using h) (.pure ?_);by_cases h1:c.kind=2
   ·have:c.name∈w:=Decidable.byContradiction fun h2=>h ⟨h1,h2⟩;rw[if_pos h1]; simp[adN,this]
   ·rw[if_neg h1]; rfl
 rintro s0 rfl;have hl0:((if c.kind=2 then [c.name] else []).foldl adN w).length≤w.length+1:=by
  have:=fold_len (if c.kind=2 then [c.name] else []) w;have:(if c.kind=2 then [c.name] else []).length≤1:=by split <;> simp
  omega
 refine Ex.bind (P:=fun s=>s=(nmC c).foldl adN w) ?_ (fun s hs=>.pure hs);refine Ex.forL (I:=fun i q s=>(nmCs q).foldl adN s=(nmC c).foldl adN w∧s.length+cCs q≤1000000000∧∀x∈q,x∈c.kids) ⟨by rw[nmC_eq,List.foldl_append],by omega,fun _ h=>h⟩ ?_ ?_
 ·rintro i x q s ⟨h1,h2,h3⟩;have g4:=h3 x List.mem_cons_self;simp only[cCs] at h2;have hx:=nmC_le x;have hf:=fold_len (nmC x) s;refine .bv (sfree_evt x s (by omega)) (.pure ⟨?_,by omega,fun y hy=>h3 y (List.mem_cons_of_mem _ hy)⟩);rw[← h1,nmCs,List.foldl_append]
 ·rintro s ⟨h1,_,_⟩;exact h1
termination_by SizeOf.sizeOf c
decreasing_by exact szC_lt g4
def opP (x:List UInt8):Bool:=!decide (x∈lp2)
def opC (c:Core):List (List UInt8):=((nmC c).foldl adN []).filter opP
theorem opC_len (c:Core):(opC c).length≤cC c:=by
 have h1:=List.length_filter_le opP ((nmC c).foldl adN []);have h2:=fold_len (nmC c) [];have h3:=nmC_le c;unfold opC;simp only[List.length_nil] at h2; omega
theorem iopen_evt (c:Core) (hw:cC c≤1000000000-1):Evt (fun n=>im_OpenNames n c) (opC c):=by
 have h2:=fold_len (nmC c) [];have h3:=nmC_le c;simp only[List.length_nil] at h2;unfold im_OpenNames;refine Ex.evt (.bv (ifreeN_evt c hw) (.bv (a:=opC c) ?_ (.pure rfl)));have h:=delG_evt ((nmC c).foldl adN []) (fun x=>decide (x∈lp2)) [] (by omega);unfold slices_DeleteFunc_string__im_OpenNames_1_v slices_IndexFunc_string__im_OpenNames_1_v im_OpenNames_1;simp only[contS_eq,Option.bind_some];exact h
theorem prims_mem (x:List UInt8):decide (x∈([[43],[60],[61],[108,105,115,116],[104,101,97,100],[116,97,105,108]]:List (List UInt8)))=decide (x∈lp2):=by
 simp only[decide_eq_decide];unfold lp2;simp only[List.mem_cons,List.not_mem_nil,or_false];constructor <;> rintro (h | h | h | h | h | h) <;> simp[h]
theorem sopen_evt (c:Core) (hw:cC c≤1000000000-1):Evt (fun n=>sp_OpenNames n c) (opC c):=by
 have h2:=fold_len (nmC c) [];have h3:=nmC_le c;simp only[List.length_nil] at h2;unfold sp_OpenNames sp_FreeOf sp_l8Prims;simp only[sin_eq,prims_mem,Option.bind_some];refine Ex.evt (.bv (a:=(nmC c).foldl adN []) (Ex.evt (.bv (sfree_evt c [] (by simp; omega)) (.pure rfl))) ?_);refine Ex.bind (P:=fun s=>s=opC c) ?_ (fun s hs=>.pure hs);refine Ex.forL (I:=fun i q s=>s++q.filter opP=opC c∧s.length+q.length≤1000000000) ⟨rfl,by simp; omega⟩ ?_ ?_
 ·rintro i x q s ⟨h1,h4⟩;simp only[List.length_cons] at h4;rw[List.filter_cons] at h1;refine Ex.bind (P:=fun s'=>s'++q.filter opP=opC c∧s'.length+q.length≤1000000000) ?_ (fun s hs=>.pure hs);cases hp:decide (x∈lp2) with
  | true=>
   refine .neg (by simp) (.pure ⟨?_,by omega⟩);rw[← h1,if_neg];unfold opP; rw[hp]; simp
  | false=>
   refine .pos rfl (.bp _ (apB_ok (by simp; omega)) (.pure ⟨?_,by simp; omega⟩));rw[← h1,if_pos]
   ·simp
   ·unfold opP; rw[hp]; rfl
 ·rintro s ⟨h1,_⟩
  simpa using h1
theorem eqStringS_evt (xs:List (List UInt8)):Evt (fun n=>la_eqStringS n xs xs) true:=by
 refine Ex.evt ?_;unfold la_eqStringS;refine .neg (by simp) ?_;refine .seqS (P:=fun r=>r=.inr ()) ?_ (fun w h=>by cases h) (fun t h=>.pure rfl);refine .forI (fun i q _=>xs.drop i=q) rfl ?_ (fun s _=>rfl);rintro i x q s h1;obtain⟨g1,g2,g3,g4⟩:=drop_hd h1;refine .bp x (atI_nat g1) ?_;refine .neg (by simp) ?_;refine .fg ?_;exact g2
end Go.Ev
