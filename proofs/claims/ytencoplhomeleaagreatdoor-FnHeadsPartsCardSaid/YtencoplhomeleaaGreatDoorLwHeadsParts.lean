/- Plain laws of models. No condition. -/
import Derived.Test.YtencoplhomeleaaGreatDoorMdHeadsParts
import Derived.Test.YtencoplhomeleaaGreatDoorEvTri
namespace Go.Ev
open Go.Mx (KD ED EObj forL forI seqS iterM)
set_option linter.unusedVariables false
set_option linter.unusedSimpArgs false
theorem Evt.scan {ω:Type} {step:Nat→Int→Option (ω⊕Int)} {p:Nat→Bool} {L:Nat} {no yes:ω} (h1:∀i,i<L→p i=true→Evt (fun n=>step n (i:Int)) (.inr ((i+1:Nat):Int))) (h2:∀i,i<L→p i=false→Evt (fun n=>step n (i:Int)) (.inl no)) (h3:Evt (fun n=>step n (L:Int)) (.inl yes)) :
  Evt (fun n=>iterM n (step n) 0) (if(List.range L).all p=true then yes else no):=by
 obtain⟨w,k1,k2⟩:=iter_ev (step:=step) (fun s=>L-s.toNat) (fun s=>∃i:Nat,i≤L∧s=i∧∀j,j<i→p j=true) (fun w=>w=if(List.range L).all p=true then yes else no) (fun s ⟨i,i1,i2,i3⟩=>by
  subst i2
  rcases Nat.lt_or_ge i L with h | h
  ·cases hp:p i with
   | true=>exact .inr ⟨_,h1 i h hp,⟨i+1,by omega,rfl,fun j hj=>by rcases Nat.lt_or_eq_of_le (Nat.le_of_lt_succ hj) with q | q; exact i3 j q; rw[q]; exact hp⟩,by simp; omega⟩
   | false=>
    refine .inl ⟨_,h2 i h hp,?_⟩
    rw[if_neg]
    intro hall
    rw[List.all_eq_true] at hall
    rw[hall i (List.mem_range.2 h)] at hp; cases hp
  ·have:i=L:=by omega
   subst this
   refine .inl ⟨_,h3,?_⟩
   rw[if_pos]
   rw[List.all_eq_true]
   exact fun j hj=>i3 j (List.mem_range.1 hj)) 0 ⟨0,Nat.zero_le _,rfl,fun j hj=>by omega⟩
 exact k2▸k1
theorem scanI {α ω:Type} {step:Unit→Nat→α→Option (ω⊕Unit)} {p:α→Bool} {no:ω} {f:Unit→Option ω}:∀{xs:List α} {i:Nat},(∀i x,x∈xs→step () i x=if p x=true then some (.inr ()) else some (.inl no))→seqS (Mx.forI step i xs ()) f=if xs.all p=true then f () else some no
 | [],i,_=>by simp[Mx.forI,Mx.seqS]
 | x::r,i,h=>by
  have hx:=h i x (List.mem_cons_self)
  have ih:=scanI (step:=step) (p:=p) (no:=no) (f:=f) (xs:=r) (i:=i+1) (fun i y hy=>h i y (List.mem_cons_of_mem _ hy))
  simp only[Mx.forI,hx,List.all_cons,Bool.and_eq_true]
  cases hp:p x with
  | true=>simpa [hp] using ih
  | false=>simp[Mx.seqS]
theorem w64_nat {i:Nat} (h:i<9223372036854775807):w64 ((i:Int)+1)=((i+1:Nat):Int):=by rw[w_id (by omega) (by omega)]; omega
def chrB (c:UInt8):Bool:=(decide (97≤c.toNat)&&decide (c.toNat≤122))||c==42||c==63||c==61||c==43||c==60
def digB (c:UInt8):Bool:=(decide (48≤c.toNat)&&decide (c.toNat≤57))||c==45
def letB (s:List UInt8) (i:Nat):Bool:=match s[i]? with
 | some c=>chrB c||(!(i==0)&&digB c)
 | none=>false
def nameB (s:List UInt8):Bool:=(decide (s=[46,46,46])||decide (s=[95]))||((List.range s.length).all (letB s)&&(decide (1≤s.length)&&decide (s.length≤12)))
theorem u8_toNat_eq {c d:UInt8}:c=d↔c.toNat=d.toNat:=⟨fun h=>by rw[h],fun h=>UInt8.toNat_inj.1 h⟩
theorem nv_dig (y:UInt8):((if(y.toNat:Int)≥48 then(if(y.toNat:Int)≤57 then some true else some (decide ((y.toNat:Int)=45))) else some (decide ((y.toNat:Int)=45))):Option Bool)=some (digB y):=by
 have e:decide ((y.toNat:Int)=45)=(y==45):=by
  by_cases h:y=45
  ·subst h; rfl
  ·have:¬(y.toNat:Int)=45:=fun h'=>h (u8_toNat_eq.2 (by show y.toNat=45; omega))
   simp[h,this]
 rw[e]
 unfold digB
 by_cases h1:(y.toNat:Int)≥48
 ·rw[if_pos h1]
  by_cases h2:(y.toNat:Int)≤57
  ·rw[if_pos h2]; simp[show 48≤y.toNat by omega,show y.toNat≤57 by omega]
  ·rw[if_neg h2]; simp[show ¬y.toNat≤57 by omega]
 ·rw[if_neg h1]; simp[show ¬48≤y.toNat by omega]
theorem sl_eq (n:Nat) (y:UInt8) (f:Bool):sp_l1Letter n (y.toNat:Int) f=some (chrB y||(!f&&digB y)):=by
 unfold sp_l1Letter
 simp only[nv_dig]
 have q:∀k:Nat,decide ((y.toNat:Int)=(k:Int))=decide (y.toNat=k):=fun k=>by simp only[decide_eq_decide]; omega
 have e:((if(y.toNat:Int)=42 then some true else(if(y.toNat:Int)=63 then some true else(if(y.toNat:Int)=61 then some true else(if(y.toNat:Int)=43 then some true else some (decide ((y.toNat:Int)=60)))))):Option Bool)=some (y==42||y==63||y==61||y==43||y==60):=by
  have w:∀(k:Nat) (d:UInt8),d.toNat=k→((y.toNat:Int)=(k:Int)↔y=d):=fun k d hd=>by rw[u8_toNat_eq,hd]; omega
  have w1:(y.toNat:Int)=42↔y=42:=w 42 42 rfl
  have w2:(y.toNat:Int)=63↔y=63:=w 63 63 rfl
  have w3:(y.toNat:Int)=61↔y=61:=w 61 61 rfl
  have w4:(y.toNat:Int)=43↔y=43:=w 43 43 rfl
  have w5:(y.toNat:Int)=60↔y=60:=w 60 60 rfl
  by_cases h1:y=42
  ·rw[if_pos (w1.2 h1),h1]; rfl
  rw[if_neg (fun h=>h1 (w1.1 h))]
  by_cases h2:y=63
  ·rw[if_pos (w2.2 h2),h2]; rfl
  rw[if_neg (fun h=>h2 (w2.1 h))]
  by_cases h3:y=61
  ·rw[if_pos (w3.2 h3),h3]; rfl
  rw[if_neg (fun h=>h3 (w3.1 h))]
  by_cases h4:y=43
  ·rw[if_pos (w4.2 h4),h4]; rfl
  rw[if_neg (fun h=>h4 (w4.1 h))]
  have:decide ((y.toNat:Int)=60)=(y==60):=by rw[Bool.eq_iff_iff]; simp only[decide_eq_true_eq,beq_iff_eq]; exact w5
  rw[this]
  simp[h1,h2,h3,h4]
 rw[e]
 have e2:((if(y.toNat:Int)≥97 then(if(y.toNat:Int)≤122 then some true else some (y==42||y==63||y==61||y==43||y==60)) else some (y==42||y==63||y==61||y==43||y==60)):Option Bool)=some (chrB y):=by
  unfold chrB
  by_cases h1:(y.toNat:Int)≥97
  ·rw[if_pos h1]
   by_cases h2:(y.toNat:Int)≤122
   ·rw[if_pos h2]; simp[show 97≤y.toNat by omega,show y.toNat≤122 by omega]
   ·rw[if_neg h2]; simp[show ¬y.toNat≤122 by omega]
  ·rw[if_neg h1]; simp[show ¬97≤y.toNat by omega]
 rw[e2]
 cases chrB y <;> cases f <;> simp
theorem snv_evt (s:List UInt8) (hs:s.length≤mxL):Evt (fun n=>sp_NameValid n s) (nameB s):=by
 unfold mxL at hs
 unfold sp_NameValid
 simp only[sl_eq,Option.bind_some]
 by_cases h0:s=[46,46,46]
 ·simp only[h0,if_true,Option.bind_some]; exact .pure _
 rw[if_neg h0]
 simp only[Option.bind_some]
 by_cases h1:s=[95]
 ·simp only[h1,decide_true,if_true]; exact .pure _
 simp only[h1,decide_false,Bool.false_eq_true,if_false]
 have hb:nameB s=if(List.range (min s.length 13)).all (letB s)=true then(decide (1≤s.length)&&decide (s.length≤12)) else false:=by
  unfold nameB; simp only[h0,h1,decide_false,Bool.false_or,Bool.or_self]
  by_cases hl:s.length≤12
  ·rw[Nat.min_eq_left (by omega)]
   cases (List.range s.length).all (letB s) <;> simp
  ·simp[hl]
 rw[hb]
 refine Evt.scan (L:=min s.length 13) (p:=letB s) (fun i hi hp=>?_) (fun i hi hp=>?_) ?_
 ·have hi':i<s.length:=by omega
  have hy:=List.getElem?_eq_getElem hi'
  unfold letB at hp
  rw[hy] at hp
  simp only at hp
  refine Evt.const ?_
  have c1:(i:Int)<(s.length:Int):=by omega
  have c2:decide ((i:Int)≤12)=true:=by simp; omega
  have c3:decide ((i:Int)=0)=(i==0):=by rw[Bool.eq_iff_iff]; simp
  rw[if_pos c1,c2,c3]
  simp only[Option.bind_some,if_true,atI_nat hy,hp,Bool.not_true,Bool.false_eq_true,if_false,w64_nat (i:=i) (by omega)]
 ·have hi':i<s.length:=by omega
  have hy:=List.getElem?_eq_getElem hi'
  unfold letB at hp
  rw[hy] at hp
  simp only at hp
  refine Evt.const ?_
  have c1:(i:Int)<(s.length:Int):=by omega
  have c2:decide ((i:Int)≤12)=true:=by simp; omega
  have c3:decide ((i:Int)=0)=(i==0):=by rw[Bool.eq_iff_iff]; simp
  rw[if_pos c1,c2,c3]
  simp only[Option.bind_some,if_true,atI_nat hy,hp,Bool.not_false]
 ·refine Evt.const ?_
  have e:((if((min s.length 13:Nat):Int)<(s.length:Int) then some (decide (((min s.length 13:Nat):Int)≤12)) else some false):Option Bool)=some false:=by
   by_cases h:((min s.length 13:Nat):Int)<(s.length:Int)
   ·rw[if_pos h]; congr 1; simp; omega
   ·rw[if_neg h]
  rw[e]
  have a1:decide ((s.length:Int)≤12)=decide (s.length≤12):=by simp only[decide_eq_decide]; omega
  by_cases h:(s.length:Int)≥1
  ·simp only[Option.bind_some,Bool.false_eq_true,if_false,if_pos h,a1,show decide (1≤s.length)=true from decide_eq_true (by omega),Bool.true_and]
  ·simp only[Option.bind_some,Bool.false_eq_true,if_false,if_neg h,show decide (1≤s.length)=false from decide_eq_false (by omega),Bool.false_and]
def scP (l:List Int) (i:Nat):Bool:=match l[i]? with
 | some x=>(decide (1≤x)&&decide (x≤99))&&(i==0||(match l[i-1]? with
  | some y=>decide (y<x)
  | none=>false))
 | none=>false
def scB (l:List Int):Bool:=(List.range l.length).all (scP l)&&decide (l.length≤24)
def fmB:Nat→Form→Bool
 | 0,_=>false
 | d+1,f=>if f.kind=1 then nameB f.name&&(decide (f.n=0)&&(scB f.scopes&&decide (f.kids.length=0))) else
   if f.kind=2 then decide (f.name=[])&&((decide (0≤f.n)&&decide (f.n≤999))&&(decide (f.scopes.length=0)&&decide (f.kids.length=0))) else
   if f.kind=3 then decide (f.name=[])&&(decide (f.n=0)&&(decide (f.scopes.length=0)&&f.kids.all (fmB d))) else false
mutual
def cF:Form→Nat
 | ⟨_,_,_,_,kids⟩=>1+cFs kids
def cFs:List Form→Nat
 | []=>0
 | x::r=>cF x+cFs r
end
theorem cF_eq (f:Form):cF f=1+cFs f.kids:=by cases f; simp only[cF]
mutual
theorem cF_le:∀f:Form,cF f≤wF f+1
 | ⟨k,nm,n,sc,kids⟩=>by have:=cFs_le kids; simp only[cF,wF]; omega
theorem cFs_le:∀l:List Form,cFs l≤wFs l+l.length
 | []=>by simp[cFs]
 | x::r=>by have:=cF_le x; have:=cFs_le r; simp only[cFs,wFs,List.length_cons]; omega
end
theorem cFs_mem:∀{l:List Form} {x:Form},x∈l→cF x≤cFs l
 | y::r,x,h=>by
  simp only[cFs]
  rcases List.mem_cons.1 h with rfl | h
  ·omega
  ·have:=cFs_mem h; omega
def validF (f:Form):Bool:=fmB 40 f&&decide (cF f≤400)
mutual
theorem okF_w:∀f:Form,wF f≤1073741824→okF f
 | ⟨k,nm,n,sc,kids⟩,h=>by simp only[wF] at h; simp only[okF,mxL]; exact⟨by omega,by omega,by omega,okFs_w kids (by omega)⟩
theorem okFs_w:∀l:List Form,wFs l≤1073741824→okFs l
 | [],_=>trivial
 | x::r,h=>by simp only[wFs] at h; simp only[okFs]; exact⟨okF_w x (by omega),okFs_w r (by omega)⟩
end
theorem ssc_evt (l:List Int) (hl:l.length≤mxL):Evt (fun n=>sp_l1Scopes n l) (scB l):=by
 unfold mxL at hl
 unfold sp_l1Scopes
 have hb:scB l=if(List.range (min l.length 25)).all (scP l)=true then decide (l.length≤24) else false:=by
  unfold scB
  by_cases h:l.length≤24
  ·rw[Nat.min_eq_left (by omega)]
   cases (List.range l.length).all (scP l) <;> simp
  ·simp[h]
 rw[hb]
 have step:∀i,i<min l.length 25→(Option.bind ((if(i:Int)<(l.length:Int) then some (decide ((i:Int)≤24)) else some false):Option (Bool)) (fun(o3:Bool)=>(if o3=true then Option.bind ((atI l (i:Int)).bind fun e7=>(if e7<1 then some true else(if e7>99 then some true else(if(i:Int)>0 then(atI l (w64 ((i:Int)-1))).bind fun e11=>some (decide (e7≤e11)) else some false))):Option (Bool)) (fun(o5:Bool)=>(if o5=true then some (Sum.inl false) else some (Sum.inr (w64 ((i:Int)+1))))) else some (Sum.inl (decide ((l.length:Int)≤24))))):Option (Bool⊕Int))=if scP l i=true then some (.inr ((i+1:Nat):Int)) else some (.inl false):=fun i hi=>by
  have hi':i<l.length:=by omega
  have hy:=List.getElem?_eq_getElem hi'
  rw[if_pos (by omega),decide_eq_true (by omega:(i:Int)≤24)]
  simp only[Option.bind_some,if_true,atI_nat hy,w64_nat (i:=i) (by omega),scP,hy]
  by_cases h1:l[i]<1
  ·rw[if_pos h1]; simp[show ¬1≤l[i] by omega]
  rw[if_neg h1]
  by_cases h2:l[i]>99
  ·rw[if_pos h2]; simp[show ¬l[i]≤99 by omega]
  rw[if_neg h2]
  by_cases h0:(i:Int)>0
  ·have e:w64 ((i:Int)-1)=((i-1:Nat):Int):=by rw[w_id (by omega) (by omega)]; omega
   have hz:=List.getElem?_eq_getElem (l:=l) (i:=i-1) (by omega)
   have hi0:(i==0)=false:=by simp; omega
   rw[if_pos h0,e,atI_nat hz,hi0]
   simp only[Option.bind_some,hz,Bool.false_or]
   by_cases hlt:l[i-1]<l[i]
   ·simp[hlt,show 1≤l[i] by omega,show l[i]≤99 by omega]
   ·simp[hlt,show l[i]≤l[i-1] by omega]
  ·have hi0:(i==0)=true:=by simp; omega
   rw[if_neg h0,hi0]
   simp[show 1≤l[i] by omega,show l[i]≤99 by omega]
 refine Evt.scan (L:=min l.length 25) (p:=scP l) (fun i hi hp=>.const ?_) (fun i hi hp=>.const ?_) (.const ?_)
 ·rw[step i hi,if_pos hp]
 ·rw[step i hi,if_neg (by simp[hp])]
 ·have e:((if((min l.length 25:Nat):Int)<(l.length:Int) then some (decide (((min l.length 25:Nat):Int)≤24)) else some false):Option Bool)=some false:=by
   by_cases h:((min l.length 25:Nat):Int)<(l.length:Int)
   ·rw[if_pos h]; congr 1; simp; omega
   ·rw[if_neg h]
  have a1:decide ((l.length:Int)≤24)=decide (l.length≤24):=by simp only[decide_eq_decide]; omega
  rw[e,a1]; rfl
theorem Ex.allI {α ω:Type} {m:Nat→α→Option Bool} {p:α→Bool} {no:ω} {xs:List α} {f:Nat→Unit→Option ω} {Q:ω→Prop} (h:∀x∈xs,Evt (fun n=>m n x) (p x)) (hy:xs.all p=true→Ex (fun n=>f n ()) Q) (hn:xs.all p=false→Q no) :
  Ex (fun n=>Mx.seqS (Mx.forI (fun(_:Unit) (_:Nat) (x:α)=>((m n x).bind fun k=>(if(!k)=true then some (Sum.inl no) else some (Sum.inr ())):Option (ω⊕Unit))) 0 xs ()) (f n)) Q:=by
 refine Ex.seqS (P:=fun o=>match o with
  | .inl w=>w=no∧xs.all p=false
  | .inr _=>xs.all p=true) ?_ ?_ ?_
 ·refine Ex.forI (I:=fun i q s=>(∀x∈q,x∈xs)∧xs.all p=q.all p) ⟨fun _ h=>h,rfl⟩ ?_ ?_
  ·rintro i x q s ⟨h1,h2⟩
   refine .bv (h x (h1 x (List.mem_cons_self))) ?_
   cases hp:p x with
   | true=>exact .neg (by simp) (.fg ⟨fun y hy=>h1 y (List.mem_cons_of_mem _ hy),by rw[h2,List.all_cons,hp,Bool.true_and]⟩)
   | false=>exact .pos rfl (.fo ⟨rfl,by rw[h2,List.all_cons,hp,Bool.false_and]⟩)
  ·rintro s ⟨_,h2⟩
   exact h2
 ·rintro w ⟨rfl,h⟩; exact hn h
 ·rintro ⟨⟩ h; exact hy h
theorem sis_evt (f:Form) (hf:okF f) (d:Nat) (hd:d≤40):Evt (fun n=>sp_l1Is n f (d:Int)) (fmB d f):=by
 obtain⟨o1,o2,o3,o4⟩:=(okF_eq f).1 hf
 refine .succ ?_
 simp only[sp_l1Is]
 by_cases hd0:d=0
 ·subst hd0
  exact .pos rfl (.pure _)
 obtain⟨d,rfl⟩:∃e,d=e+1:=⟨d-1,by omega⟩
 refine .neg (by omega) ?_
 have kz:decide ((f.kids.length:Int)=0)=decide (f.kids.length=0):=by simp only[decide_eq_decide]; omega
 simp only[fmB]
 refine Ex.evt ?_
 by_cases k1:f.kind=1
 ·rw[if_pos k1]
  simp only[if_pos k1]
  refine Ex.bind (P:=fun b=>b=(nameB f.name&&(decide (f.n=0)&&(scB f.scopes&&decide (f.kids.length=0))))) ?_ (fun b hb=>.pure hb)
  refine .bv (snv_evt _ o1) ?_
  cases hn:nameB f.name with
  | false=>exact .neg (by simp) (.pure (by simp))
  | true=>
   refine .pos rfl ?_
   by_cases h2:f.n=0
   ·refine .pos h2 (.bv (ssc_evt _ o2) ?_)
    cases hs:scB f.scopes with
    | false=>exact .neg (by simp) (.pure (by simp))
    | true=>exact .pos rfl (.pure (by simp[kz,h2]))
   ·exact .neg h2 (.pure (by simp[h2]))
 rw[if_neg k1]
 simp only[if_neg k1]
 by_cases k2:f.kind=2
 ·rw[if_pos k2]
  simp only[if_pos k2]
  refine Ex.bind (P:=fun b=>b=(decide (f.name=[])&&((decide (0≤f.n)&&decide (f.n≤999))&&(decide (f.scopes.length=0)&&decide (f.kids.length=0))))) ?_ (fun b hb=>.pure hb)
  by_cases h1:f.name=[]
  ·refine .pos h1 ?_
   by_cases h2:f.n≥0
   ·refine .pos h2 ?_
    by_cases h4:f.n≤999
    ·refine .pos h4 ?_
     by_cases h3:f.scopes.length=0
     ·exact .pos (by omega) (.pure (by rw[kz,decide_eq_true h1,decide_eq_true (show 0≤f.n from h2),decide_eq_true h4,decide_eq_true h3]; simp))
     ·exact .neg (by omega) (.pure (by rw[decide_eq_false h3]; simp))
    ·exact .neg h4 (.pure (by rw[decide_eq_false h4]; simp))
   ·exact .neg h2 (.pure (by rw[decide_eq_false (show ¬0≤f.n from h2)]; simp))
  ·exact .neg h1 (.pure (by simp[h1]))
 rw[if_neg k2]
 simp only[if_neg k2]
 by_cases k3:f.kind=3
 ·simp only[k3,not_true_eq_false,if_false,if_true]
  refine Ex.bind (P:=fun b=>b=!(decide (f.name=[])&&(decide (f.n=0)&&decide (f.scopes.length=0)))) ?_ ?_
  ·by_cases h1:f.name=[]
   ·refine .neg (by simp[h1]) ?_
    by_cases h2:f.n=0
    ·refine .neg (by simp[h2]) (.pure ?_)
     by_cases h3:f.scopes.length=0
     ·have h3':¬¬(f.scopes.length:Int)=0:=by omega
      rw[decide_eq_false h3',decide_eq_true h1,decide_eq_true h2,decide_eq_true h3]; rfl
     ·have h3':¬(f.scopes.length:Int)=0:=by omega
      rw[decide_eq_true h3',decide_eq_true h1,decide_eq_true h2,decide_eq_false h3]; rfl
    ·exact .pos h2 (.pure (by simp[h1,h2]))
   ·exact .pos h1 (.pure (by simp[h1]))
  ·rintro b rfl
   have hq':(decide (f.name=[])&&(decide (f.n=0)&&(decide (f.scopes.length=0)&&f.kids.all (fmB d))))=((decide (f.name=[])&&(decide (f.n=0)&&decide (f.scopes.length=0)))&&f.kids.all (fmB d)):=by simp only[Bool.and_assoc]
   rw[hq']
   cases (decide (f.name=[])&&(decide (f.n=0)&&decide (f.scopes.length=0))) with
   | false=>exact .pos rfl (.pure rfl)
   | true=>
    refine .neg (by simp) ?_
    have e2:w64 (((d+1:Nat):Int)-1)=(d:Int):=by rw[w_id (by omega) (by omega)]; omega
    rw[e2]
    exact Ex.allI (m:=fun n x=>sp_l1Is n x (d:Int)) (p:=fmB d) (fun x hx=>sis_evt x (okFs_iff.1 o4 x hx) d (by omega)) (fun h=>.pure (by rw[h]; rfl)) (fun h=>by rw[h]; rfl)
 ·simp only[if_neg k3]
  refine Ex.bind (P:=fun b=>b=true) (.pos k3 (.pure rfl)) ?_
  rintro b rfl
  exact .pos rfl (.pure rfl)
termination_by SizeOf.sizeOf f
decreasing_by exact szF_lt hx
theorem Ex.sumL {α:Type} {m:Nat→α→Option Int} {c:α→Nat} {cs:List α→Nat} (hn:cs []=0) (hc:∀x r,cs (x::r)=c x+cs r) {xs:List α} {b:Nat} (hb:b+cs xs≤4611686018427387904) (h:∀x∈xs,Evt (fun n=>m n x) (c x:Int)) :
  Evt (fun n=>Mx.forL (fun(s:Int) (_:Nat) (x:α)=>(m n x).bind fun k=>some (w64 (s+k))) 0 xs (b:Int)) ((b+cs xs:Nat):Int):=by
 refine Ex.evt ?_
 refine Ex.forL (I:=fun i q s=>∃u:Nat,s=(u:Int)∧u+cs q=b+cs xs∧∀x∈q,x∈xs) ⟨b,rfl,rfl,fun _ h=>h⟩ ?_ ?_
 ·rintro i x q s ⟨u,rfl,h1,h2⟩
  refine .bv (h x (h2 x (List.mem_cons_self))) (.pure ⟨u+c x,?_,by rw[hc] at h1; omega,fun y hy=>h2 y (List.mem_cons_of_mem _ hy)⟩)
  rw[hc] at h1
  rw[w_id (by omega) (by omega)]; omega
 ·rintro s ⟨u,rfl,h1,_⟩
  rw[hn] at h1
  rw[← h1]; rfl
theorem sct_evt (f:Form) (hw:cF f≤4611686018427387904):Evt (fun n=>sp_l1Count n f) (cF f:Int):=by
 have hc:=cF_eq f
 refine .succ ?_
 simp only[sp_l1Count]
 rw[hc]
 refine .bind (a:=((1+cFs f.kids:Nat):Int)) ?_ (.pure _)
 exact Ex.sumL (b:=1) (c:=cF) (cs:=cFs) rfl (fun _ _=>rfl) (by omega) (fun x hx=>sct_evt x (by have:=cFs_mem hx; omega))
termination_by SizeOf.sizeOf f
decreasing_by exact szF_lt hx
theorem sfv_evt (f:Form) (hf:okF f) (hw:cF f≤4611686018427387904):Evt (fun n=>sp_FormValid n f) (validF f):=by
 refine Ex.evt ?_
 unfold sp_FormValid validF
 refine Ex.bind (P:=fun b=>b=(fmB 40 f&&decide (cF f≤400))) ?_ (fun b hb=>.pure hb)
 refine .bv (sis_evt f hf 40 (by omega)) ?_
 cases fmB 40 f with
 | false=>exact .neg (by simp) (.pure rfl)
 | true=>
  refine .pos rfl (.bv (sct_evt f hw) (.pure ?_))
  rw[Bool.true_and]; simp only[decide_eq_decide]; omega
def all2 {α β:Type} (p:α→β→Bool):List α→List β→Bool
 | [],[]=>true
 | x::r,y::s=>p x y&&all2 p r s
 | _,_=>false
theorem Ex.eqI {α:Type} {m:Nat→α→α→Option Bool} {p:α→α→Bool} {xs ys:List α} (hl:xs.length=ys.length) (h:∀x∈xs,∀y,Evt (fun n=>m n x y) (p x y)) :
  Evt (fun n=>Mx.seqS (Mx.forI (fun(_:Unit) (i:Nat) (x:α)=>((atI ys (i:Int)).bind fun e=>(m n x e).bind fun k=>(if(!k)=true then some (Sum.inl false) else some (Sum.inr ())):Option (Bool⊕Unit))) 0 xs ()) (fun _=>some true)) (all2 p xs ys):=by
 refine Ex.evt ?_
 refine Ex.seqS (P:=fun o=>match o with
  | .inl w=>w=false∧all2 p xs ys=false
  | .inr _=>all2 p xs ys=true) ?_ ?_ ?_
 ·refine Ex.forI (I:=fun i q s=>(∀x∈q,x∈xs)∧∃z,ys.drop i=z∧q.length=z.length∧all2 p xs ys=all2 p q z) ⟨fun _ h=>h,ys,rfl,hl,rfl⟩ ?_ ?_
  ·rintro i x q s ⟨h1,z,hz,h3,h2⟩
   cases z with
   | nil=>simp at h3
   | cons y z=>
    obtain⟨g1,g2,_,_⟩:=drop_hd hz
    refine .bp y (atI_nat g1) (.bv (h x (h1 x (List.mem_cons_self)) y) ?_)
    cases hp:p x y with
    | true=>exact .neg (by simp) (.fg ⟨fun w hw=>h1 w (List.mem_cons_of_mem _ hw),z,g2,by simpa using h3,by rw[h2]; simp only[all2,hp,Bool.true_and]⟩)
    | false=>exact .pos rfl (.fo ⟨rfl,by rw[h2]; simp only[all2,hp,Bool.false_and]⟩)
  ·rintro s ⟨_,z,hz,h3,h2⟩
   have:z=[]:=List.eq_nil_of_length_eq_zero (by simpa using h3.symm)
   subst this
   exact h2
 ·rintro w ⟨rfl,h⟩; exact h.symm
 ·rintro ⟨⟩ h; exact .pure h.symm
theorem all2_eq {α:Type} [DecidableEq α]:∀{xs ys:List α},all2 (fun x y=>decide (x=y)) xs ys=decide (xs=ys)
 | [],[]=>rfl
 | x::r,y::s=>by
  simp only[all2,all2_eq (xs:=r) (ys:=s)]
  rw[Bool.eq_iff_iff]; simp
 | [],_::_=>by simp[all2]
 | _::_,[]=>by simp[all2]
theorem eqIntsE {a b:List Int}:Evt (fun(_:Nat)=>(if ¬(a.length:Int)=(b.length:Int) then some false else seqS (forI (fun(s5:Unit) (i4:Nat) (x7:Int)=>((atI b (i4:Int)).bind fun e12=>(if ¬x7=e12 then some (Sum.inl false) else some (Sum.inr ())):Option (Bool⊕Unit))) 0 a ()) (fun(s5:Unit)=>some true))) (decide (a=b)):=by
 by_cases h:a.length=b.length
 ·refine .neg (by omega) ?_
  have:=Ex.eqI (m:=fun _ (x y:Int)=>some (decide (x=y))) (p:=fun x y=>decide (x=y)) h (fun x _ y=>.pure _)
  rw[all2_eq] at this
  simpa only[Option.bind_some,Bool.not_eq_true',decide_eq_false_iff_not] using this
 ·refine .pos (by omega) ?_
  have:¬a=b:=fun e=>h (by rw[e])
  simp only[this,decide_false]; exact .pure _
mutual
def sameF:Form→Form→Bool
 | ⟨k,nm,n,sc,kids⟩,b=>decide (k=b.kind)&&(decide (nm=b.name)&&(decide (n=b.n)&&(decide (sc=b.scopes)&&sameFs kids b.kids)))
def sameFs:List Form→List Form→Bool
 | [],[]=>true
 | x::r,y::s=>sameF x y&&sameFs r s
 | _,_=>false
end
mutual
theorem sameF_iff:∀{a b:Form},sameF a b=true↔a=b
 | ⟨k,nm,n,sc,kids⟩,⟨k',nm',n',sc',kids'⟩=>by
  simp only[sameF,Bool.and_eq_true,decide_eq_true_eq,sameFs_iff,Form.mk.injEq]
theorem sameFs_iff:∀{a b:List Form},sameFs a b=true↔a=b
 | [],[]=>by simp[sameFs]
 | x::r,y::s=>by simp only[sameFs,Bool.and_eq_true,sameF_iff,sameFs_iff,List.cons.injEq]
 | [],_::_=>by simp[sameFs]
 | _::_,[]=>by simp[sameFs]
end
theorem sameFs_all:∀{a b:List Form},sameFs a b=all2 sameF a b
 | [],[]=>by simp[sameFs,all2]
 | x::r,y::s=>by simp only[sameFs,all2,sameFs_all (a:=r)]
 | [],_::_=>by simp[sameFs,all2]
 | _::_,[]=>by simp[sameFs,all2]
theorem sameF_eq (a b:Form):sameF a b=(decide (a.kind=b.kind)&&(decide (a.name=b.name)&&(decide (a.n=b.n)&&(decide (a.scopes=b.scopes)&&sameFs a.kids b.kids)))):=by cases a; simp only[sameF]
theorem sameFs_len {a b:List Form} (h:¬a.length=b.length):sameFs a b=false:=by
 cases hs:sameFs a b with
 | false=>rfl
 | true=>exact absurd (by rw[sameFs_iff.1 hs]) h
theorem seqi_evt (a b:List Int):Evt (fun n=>sp_l1Ints n a b) (decide (a=b)):=eqIntsE
theorem sfs_evt (a b:Form):Evt (fun n=>sp_FormSame n a b) (sameF a b):=by
 refine .succ ?_
 simp only[sp_FormSame]
 rw[sameF_eq]
 refine Ex.evt ?_
 refine Ex.bind (P:=fun o=>o=!(decide (a.kind=b.kind)&&(decide (a.name=b.name)&&(decide (a.n=b.n)&&(decide (a.scopes=b.scopes)&&decide (a.kids.length=b.kids.length)))))) ?_ ?_
 ·by_cases h1:a.kind=b.kind
  ·refine .neg (fun h=>h h1) ?_
   by_cases h2:a.name=b.name
   ·refine .neg (fun h=>h h2) ?_
    by_cases h3:a.n=b.n
    ·refine .neg (fun h=>h h3) (.bv (seqi_evt _ _) ?_)
     rw[decide_eq_true h1,decide_eq_true h2,decide_eq_true h3]
     simp only[Bool.true_and]
     by_cases h4:a.scopes=b.scopes
     ·rw[decide_eq_true h4]
      refine .neg (by simp) (.pure ?_)
      by_cases h5:a.kids.length=b.kids.length
      ·rw[decide_eq_true h5,decide_eq_false (show ¬¬(a.kids.length:Int)=(b.kids.length:Int) by omega)]; rfl
      ·rw[decide_eq_false h5,decide_eq_true (show ¬(a.kids.length:Int)=(b.kids.length:Int) by omega)]; rfl
     ·rw[decide_eq_false h4]
      exact .pos rfl (.pure rfl)
    ·exact .pos h3 (.pure (by rw[decide_eq_false h3]; simp))
   ·exact .pos h2 (.pure (by rw[decide_eq_false h2]; simp))
  ·exact .pos h1 (.pure (by rw[decide_eq_false h1]; rfl))
 ·rintro o rfl
  by_cases h5:a.kids.length=b.kids.length
  ·rw[decide_eq_true h5]
   cases e1:decide (a.kind=b.kind) with
   | false=>exact .pos rfl (.pure rfl)
   | true=>
    cases e2:decide (a.name=b.name) with
    | false=>exact .pos rfl (.pure rfl)
    | true=>
     cases e3:decide (a.n=b.n) with
     | false=>exact .pos rfl (.pure rfl)
     | true=>
      cases e4:decide (a.scopes=b.scopes) with
      | false=>exact .pos rfl (.pure rfl)
      | true=>
       refine .neg (by simp) ?_
       simp only[Bool.true_and]
       rw[sameFs_all]
       exact(Ex.eqI (m:=fun n x e=>sp_FormSame n x e) h5 (fun x hx y=>sfs_evt x y)).ex
  ·rw[decide_eq_false h5,sameFs_len h5]
   refine .pos (by simp) (.pure (by simp))
termination_by SizeOf.sizeOf a
decreasing_by exact szF_lt hx
def zF:Form:=⟨0,[],0,[],[]⟩
mutual
def allSc:Form→List Int
 | ⟨_,_,_,sc,kids⟩=>sc++allScs kids
def allScs:List Form→List Int
 | []=>[]
 | x::r=>allSc x++allScs r
end
mutual
def strF:Form→Form
 | ⟨k,nm,n,_,kids⟩=>⟨k,nm,n,[],strFs kids⟩
def strFs:List Form→List Form
 | []=>[]
 | x::r=>strF x::strFs r
end
def noSc (f:Form):Bool:=decide (allSc f=[])
theorem strF_eq (f:Form):strF f=⟨f.kind,f.name,f.n,[],strFs f.kids⟩:=by cases f; simp only[strF]
theorem strFs_map:∀l:List Form,strFs l=l.map strF
 | []=>rfl
 | x::r=>by simp only[strFs,List.map_cons,strFs_map r]
mutual
theorem str_same:∀f:Form,sameF (strF f) f=noSc f
 | ⟨k,nm,n,sc,kids⟩=>by
  have ih:=str_sames kids
  rw[Bool.eq_iff_iff]
  simp only[strF,sameF,noSc,allSc,ih,decide_true,Bool.true_and,Bool.and_eq_true,decide_eq_true_eq,List.append_eq_nil_iff]
  exact⟨fun⟨a,b⟩=>⟨a.symm,b⟩,fun⟨a,b⟩=>⟨a.symm,b⟩⟩
theorem str_sames:∀l:List Form,sameFs (strFs l) l=decide (allScs l=[])
 | []=>rfl
 | x::r=>by
  have ih:=str_same x
  have ih2:=str_sames r
  rw[Bool.eq_iff_iff]
  simp only[strFs,sameFs,ih,ih2,noSc,allScs,Bool.and_eq_true,decide_eq_true_eq,List.append_eq_nil_iff]
end
def flB (c:Core):Bool:=
 (if c.kind=1 then decide (1≤c.id)&&decide (c.id≤999) else decide (c.id=0)) &&
 ((if c.kind=2 then nameB c.name else decide (c.name=[])) &&
 ((if c.kind=3 then decide (0≤c.n)&&decide (c.n≤999) else decide (c.n=0)) &&
 ((if c.kind=4 then validF c.data&&noSc c.data else sameF c.data zF) &&
 (decide (c.kind=5)||decide (c.ids=[])))))
def kdB (k:Int) (m:Nat):Bool:=if k=1∨k=2∨k=3∨k=4 then decide (m=0) else if k=5 then decide (m=1) else if k=6 then decide (1≤m) else if k=7 then decide (m=3) else false
def adB:List Int→List Int→Option (List Int)
 | sc,[]=>some sc
 | sc,x::r=>if(1≤x∧x≤999)∧x∉sc then adB (sc++[x]) r else none
theorem adB_len:∀{ids sc s:List Int},adB sc ids=some s→s.length=sc.length+ids.length
 | [],sc,s,h=>by cases h; rfl
 | x::r,sc,s,h=>by
  simp only[adB] at h
  split at h
  ·have:=adB_len h; simp at this ⊢; omega
  ·cases h
def crB:Nat→List Int→Core→Bool
 | 0,_,_=>false
 | d+1,sc,c=>kdB c.kind c.kids.length&&(flB c&&((!decide (c.kind=1)||decide (c.id∈sc))&&(match adB sc c.ids with
  | none=>false
  | some s=>c.kids.all (crB d s))))
mutual
def cC:Core→Nat
 | ⟨_,_,_,_,_,_,kids⟩=>1+cCs kids
def cCs:List Core→Nat
 | []=>0
 | x::r=>cC x+cCs r
end
theorem cC_eq (f:Core):cC f=1+cCs f.kids:=by cases f; simp only[cC]
mutual
theorem cC_le:∀f:Core,cC f≤wC f+1
 | ⟨k,id,nm,n,ids,dt,kids⟩=>by have:=cCs_le kids; simp only[cC,wC]; omega
theorem cCs_le:∀l:List Core,cCs l≤wCs l+l.length
 | []=>by simp[cCs]
 | x::r=>by have:=cC_le x; have:=cCs_le r; simp only[cCs,wCs,List.length_cons]; omega
end
theorem cCs_mem:∀{l:List Core} {x:Core},x∈l→cC x≤cCs l
 | y::r,x,h=>by
  simp only[cCs]
  rcases List.mem_cons.1 h with rfl | h
  ·omega
  ·have:=cCs_mem h; omega
def validC (c:Core):Bool:=crB 120 [] c&&decide (cC c≤600)
theorem shas_eq (n:Nat) (l:List Int) (x:Int):sp_l2Has n l x=some (decide (x∈l)):=by
 unfold sp_l2Has
 have:=scanI (step:=fun(_:Unit) (_:Nat) (y:Int)=>((if y=x then some (Sum.inl true) else some (Sum.inr ())):Option (Bool⊕Unit))) (p:=fun y=>!decide (y=x)) (no:=true) (f:=fun _=>some false) (xs:=l) (i:=0) (fun i y _=>by by_cases h:y=x <;> simp[h])
 rw[this]
 by_cases h:x∈l
 ·rw[if_neg]
  ·simp[h]
  ·intro hall
   rw[List.all_eq_true] at hall
   have:=hall x h
   simp at this
 ·rw[if_pos]
  ·simp[h]
  ·rw[List.all_eq_true]
   intro y hy
   have:¬y=x:=fun e=>h (e▸hy)
   simp[this]
theorem strip_evt (f:Form) (hw:wF f≤1073741824):Evt (fun n=>sp_StripForm n f) (strF f):=by
 have he:=wF_eq f
 refine .succ ?_
 simp only[sp_StripForm]
 rw[strF_eq,strFs_map]
 refine Ex.evt ?_
 refine Ex.bind (P:=fun s=>s=f.kids.map strF) ?_ (fun s hs=>.pure (by rw[hs]))
 refine Ex.forL (I:=fun i q s=>s=(f.kids.take i).map strF∧f.kids.drop i=q) ⟨rfl,rfl⟩ ?_ ?_
 ·rintro i x q s ⟨rfl,hd⟩
  obtain⟨g1,g2,g3,g4⟩:=drop_hd hd
  have hm:=wFs_mem g4
  refine .bv (strip_evt x (by omega)) (.bp _ (apB_ok (by simp; omega)) (.pure ⟨?_,g2⟩))
  rw[List.take_add_one,g1]; simp
 ·rintro s ⟨rfl,_⟩; simp
termination_by SizeOf.sizeOf f
decreasing_by exact szF_lt g4
theorem skd_eq (n:Nat) (k:Int) (m:Nat):sp_l6Kids n k (m:Int)=some (kdB k m):=by
 unfold sp_l6Kids kdB
 have a0:decide ((m:Int)=0)=decide (m=0):=by simp only[decide_eq_decide]; omega
 have a1:decide ((m:Int)=1)=decide (m=1):=by simp only[decide_eq_decide]; omega
 have a3:decide ((m:Int)=3)=decide (m=3):=by simp only[decide_eq_decide]; omega
 have a6:decide ((m:Int)≥1)=decide (1≤m):=by simp only[decide_eq_decide]; omega
 rw[a0,a1,a3,a6]
 by_cases h1:k=1
 ·subst h1; rfl
 by_cases h2:k=2
 ·subst h2; rfl
 by_cases h3:k=3
 ·subst h3; rfl
 by_cases h4:k=4
 ·subst h4; rfl
 simp only[h1,h2,h3,h4,if_false,decide_false,Option.bind_some,Bool.false_eq_true,or_self]
 by_cases h5:k=5
 ·subst h5; rfl
 by_cases h6:k=6
 ·subst h6; rfl
 by_cases h7:k=7
 ·subst h7; rfl
 simp only[h5,h6,h7,if_false,Option.bind_some]
theorem sfl_evt (c:Core) (hw:wC c≤1073741824):Evt (fun n=>sp_l6Fields n c) (flB c):=by
 have he:=wC_eq c
 have hn:c.name.length≤mxL:=by unfold mxL; omega
 refine Ex.evt ?_
 unfold sp_l6Fields flB
 refine Ex.bind (P:=fun o=>o=!(if c.kind=1 then decide (1≤c.id)&&decide (c.id≤999) else decide (c.id=0))) ?_ ?_
 ·by_cases k:c.kind=1
  ·simp only[k,if_true,not_true_eq_false,if_false]
   by_cases h1:c.id<1
   ·exact .pos h1 (.pure (by rw[decide_eq_false (show ¬1≤c.id by omega)]; rfl))
   ·refine .neg h1 ?_
    by_cases h2:c.id>999
    ·exact .pos h2 (.pure (by rw[decide_eq_false (show ¬c.id≤999 by omega)]; simp))
    ·exact .neg h2 (.pure (by rw[decide_eq_true (show c.id≤999 by omega),decide_eq_true (show 1≤c.id by omega)]; rfl))
  ·simp only[k,if_false,not_false_eq_true,if_true]
   exact .pure (by simp)
 rintro o rfl
 cases (if c.kind=1 then decide (1≤c.id)&&decide (c.id≤999) else decide (c.id=0)) with
 | false=>exact .pos rfl (.pure rfl)
 | true=>
 refine .neg (by simp) ?_
 simp only[Bool.true_and]
 refine Ex.bind (P:=fun o=>o=!(if c.kind=2 then nameB c.name else decide (c.name=[]))) ?_ ?_
 ·by_cases k:c.kind=2
  ·simp only[k,if_true,not_true_eq_false,if_false]
   refine .bv (snv_evt _ hn) ?_
   cases nameB c.name with
   | false=>exact .pos rfl (.pure rfl)
   | true=>exact .neg (by simp) (.pure rfl)
  ·simp only[k,if_false,not_false_eq_true,if_true]
   exact .pure (by simp)
 rintro o rfl
 cases (if c.kind=2 then nameB c.name else decide (c.name=[])) with
 | false=>exact .pos rfl (.pure rfl)
 | true=>
 refine .neg (by simp) ?_
 simp only[Bool.true_and]
 refine Ex.bind (P:=fun o=>o=!(if c.kind=3 then decide (0≤c.n)&&decide (c.n≤999) else decide (c.n=0))) ?_ ?_
 ·by_cases k:c.kind=3
  ·simp only[k,if_true,not_true_eq_false,if_false]
   by_cases h1:c.n<0
   ·exact .pos h1 (.pure (by rw[decide_eq_false (show ¬0≤c.n by omega)]; rfl))
   ·refine .neg h1 ?_
    by_cases h2:c.n>999
    ·exact .pos h2 (.pure (by rw[decide_eq_false (show ¬c.n≤999 by omega)]; simp))
    ·exact .neg h2 (.pure (by rw[decide_eq_true (show c.n≤999 by omega),decide_eq_true (show 0≤c.n by omega)]; rfl))
  ·simp only[k,if_false,not_false_eq_true,if_true]
   exact .pure (by simp)
 rintro o rfl
 cases (if c.kind=3 then decide (0≤c.n)&&decide (c.n≤999) else decide (c.n=0)) with
 | false=>exact .pos rfl (.pure rfl)
 | true=>
 refine .neg (by simp) ?_
 simp only[Bool.true_and]
 refine Ex.bind (P:=fun o=>o=!(if c.kind=4 then validF c.data&&noSc c.data else sameF c.data zF)) ?_ ?_
 ·by_cases k:c.kind=4
  ·simp only[k,if_true,not_true_eq_false,if_false]
   refine .bv (sfv_evt _ (okF_w _ (by omega)) (by have:=cF_le c.data; omega)) ?_
   cases validF c.data with
   | false=>exact .pos rfl (.pure rfl)
   | true=>
    refine .neg (by simp) (.bv (strip_evt _ (by omega)) (.bv (sfs_evt _ _) ?_))
    rw[str_same]
    cases noSc c.data with
    | false=>exact .pos rfl (.pure rfl)
    | true=>exact .neg (by simp) (.pure rfl)
  ·simp only[k,if_false,not_false_eq_true,if_true]
   exact .bv (sfs_evt _ _) (.pure rfl)
 rintro o rfl
 cases (if c.kind=4 then validF c.data&&noSc c.data else sameF c.data zF) with
 | false=>exact .pos rfl (.pure rfl)
 | true=>
 refine .neg (by simp) ?_
 simp only[Bool.true_and]
 refine Ex.bind (P:=fun o=>o=(decide (c.kind=5)||decide (c.ids=[]))) ?_ (fun o ho=>.pure ho)
 by_cases k:c.kind=5
 ·exact .pos k (.pure (by simp[k]))
 ·refine .neg k (.pure ?_)
  rw[decide_eq_false k,Bool.false_or,Bool.eq_iff_iff]
  simp
theorem s6i_evt (c:Core) (d:Nat) (hd:d≤120) (sc:List Int) (hw:sc.length+wC c≤1073741824):Evt (fun n=>sp_l6Is n c sc (d:Int)) (crB d sc c):=by
 have he:=wC_eq c
 refine .succ ?_
 simp only[sp_l6Is]
 refine Ex.evt ?_
 by_cases hd0:d=0
 ·subst hd0
  simp only[show((0:Nat):Int)=0 from rfl,if_true,Option.bind_some]
  exact .pure rfl
 obtain⟨d,rfl⟩:∃e,d=e+1:=⟨d-1,by omega⟩
 refine Ex.bind (P:=fun o=>o=!(kdB c.kind c.kids.length&&(flB c&&(!decide (c.kind=1)||decide (c.id∈sc))))) ?_ ?_
 ·refine .neg (by omega) ?_
  simp only[skd_eq,Option.bind_some]
  cases kdB c.kind c.kids.length with
  | false=>exact .pos rfl (.pure rfl)
  | true=>
   refine .neg (by simp) (.bv (sfl_evt c (by omega)) ?_)
   cases flB c with
   | false=>exact .pos rfl (.pure rfl)
   | true=>
    refine .neg (by simp) ?_
    by_cases k:c.kind=1
    ·refine .pos k ?_
     simp only[shas_eq,Option.bind_some]
     exact .pure (by simp[k])
    ·exact .neg k (.pure (by simp[k]))
 rintro o rfl
 have hq:crB (d+1) sc c=((kdB c.kind c.kids.length&&(flB c&&(!decide (c.kind=1)||decide (c.id∈sc))))&&(match adB sc c.ids with
  | none=>false
  | some s=>c.kids.all (crB d s))):=by simp only[crB,Bool.and_assoc]
 rw[hq]
 cases (kdB c.kind c.kids.length&&(flB c&&(!decide (c.kind=1)||decide (c.id∈sc)))) with
 | false=>exact .pos rfl (.pure rfl)
 | true=>
 refine .neg (by simp) ?_
 rw[Bool.true_and]
 refine Ex.seqS (P:=fun o=>match o with
  | .inl w=>w=false∧adB sc c.ids=none
  | .inr s=>adB sc c.ids=some s) ?_ ?_ ?_
 ·refine Ex.forI (I:=fun i q s=>adB sc c.ids=adB s q∧s.length+q.length=sc.length+c.ids.length) ⟨rfl,rfl⟩ ?_ ?_
  ·rintro i x q s ⟨h1,h2⟩
   simp only[List.length_cons] at h2
   simp only[adB] at h1
   simp only[shas_eq,Option.bind_some]
   by_cases a1:x<1
   ·simp only[if_pos a1,Option.bind_some,if_true]
    exact .fo ⟨rfl,by rw[h1,if_neg (fun h=>by have:=h.1.1; omega)]⟩
   rw[if_neg a1]
   by_cases a2:x>999
   ·simp only[if_pos a2,Option.bind_some,if_true]
    exact .fo ⟨rfl,by rw[h1,if_neg (fun h=>by have:=h.1.2; omega)]⟩
   rw[if_neg a2]
   by_cases a3:x∈s
   ·simp only[a3,decide_true,Option.bind_some,if_true]
    exact .fo ⟨rfl,by rw[h1,if_neg (fun h=>h.2 a3)]⟩
   ·simp only[a3,decide_false,Option.bind_some,Bool.false_eq_true,if_false]
    refine .bp s (apB_nil (by omega)) (.bp (s++[x]) (apB_ok (by simp; omega)) (.fg ⟨?_,by simp; omega⟩))
    rw[h1,if_pos ⟨⟨by omega,by omega⟩,a3⟩]
  ·rintro s ⟨h1,_⟩
   rw[h1]; rfl
 ·rintro w ⟨rfl,h⟩
  rw[h]
 ·intro s hs
  have hs:adB sc c.ids=some s:=hs
  rw[hs]
  have hl:=adB_len hs
  have e2:w64 (((d+1:Nat):Int)-1)=(d:Int):=by rw[w_id (by omega) (by omega)]; omega
  rw[e2]
  exact Ex.allI (m:=fun n x=>sp_l6Is n x s (d:Int)) (p:=crB d s) (fun x hx=>s6i_evt x d (by omega) s (by have:=wCs_mem hx; omega)) (fun h=>.pure h.symm) (fun h=>h.symm)
termination_by SizeOf.sizeOf c
decreasing_by exact szC_lt hx
theorem s6c_evt (f:Core) (hw:cC f≤4611686018427387904):Evt (fun n=>sp_l6Count n f) (cC f:Int):=by
 have hc:=cC_eq f
 refine .succ ?_
 simp only[sp_l6Count]
 rw[hc]
 refine .bind (a:=((1+cCs f.kids:Nat):Int)) ?_ (.pure _)
 exact Ex.sumL (b:=1) (c:=cC) (cs:=cCs) rfl (fun _ _=>rfl) (by omega) (fun x hx=>s6c_evt x (by have:=cCs_mem hx; omega))
termination_by SizeOf.sizeOf f
decreasing_by exact szC_lt hx
theorem scv_evt (c:Core) (hw:wC c≤1073741824):Evt (fun n=>sp_CoreValid n c) (validC c):=by
 refine Ex.evt ?_
 unfold sp_CoreValid validC
 refine Ex.bind (P:=fun b=>b=(crB 120 [] c&&decide (cC c≤600))) ?_ (fun b hb=>.pure hb)
 refine .bv (s6i_evt c 120 (by omega) [] (by simp; omega)) ?_
 cases crB 120 [] c with
 | false=>exact .neg (by simp) (.pure rfl)
 | true=>
  refine .pos rfl (.bv (s6c_evt c (by have:=cC_le c; omega)) (.pure ?_))
  rw[Bool.true_and]; simp only[decide_eq_decide]; omega
theorem scf_evt (f:Form) (hw:wF f≤1000000000):Evt (fun n=>sp_l1Copy n f) f:=by
 have he:=wF_eq f
 refine .succ ?_
 simp only[sp_l1Copy]
 refine Ex.evt (.bp _ (apB_nil (by omega)) ?_)
 refine .bv (copyA_ev (m:=fun n x=>sp_l1Copy n x) (be:=80) (by omega) (fun x hx=>scf_evt x (by have:=wFs_mem hx; omega))) (.pure (by cases f; rfl))
termination_by SizeOf.sizeOf f
decreasing_by exact szF_lt hx
theorem scc_evt (c:Core) (hw:wC c≤1000000000):Evt (fun n=>sp_l6Copy n c) c:=by
 have he:=wC_eq c
 refine .succ ?_
 simp only[sp_l6Copy]
 refine Ex.evt (.bp _ (apB_nil (by omega)) (.bv (scf_evt c.data (by omega)) ?_))
 refine .bv (copyA_ev (m:=fun n x=>sp_l6Copy n x) (be:=168) (by omega) (fun x hx=>scc_evt x (by have:=wCs_mem hx; omega))) (.pure (by cases c; rfl))
termination_by SizeOf.sizeOf c
decreasing_by exact szC_lt hx
theorem exPick {a:Int} {r:L15Rd} {B:Int} (h:Gd r B) (hB:1≤B):Ex (fun n=>sp_l15Rd_pick n a r) (fun k=>Sp r k.2 1∧(1≤a→0≤k.1∧k.1<a)):=by
 obtain⟨v,r',h1,h2,h3⟩:=pick_ev (a:=a) h hB
 exact⟨(v,r'),h1,h2,h3⟩
theorem exNum {l:List Int} {r:L15Rd} {B:Int} (hl:1≤l.length) (h:Gd r B) (hB:1≤B):Ex (fun n=>sp_l15Rd_num n l r) (fun k=>Sp r k.2 1∧k.1∈l):=by
 obtain⟨v,r',h1,h2,h3⟩:=num_ev hl h hB
 exact⟨(v,r'),h1,h2,h3⟩
theorem exOf {l:List (List UInt8)} {r:L15Rd} {B:Int} (hl:1≤l.length) (h:Gd r B) (hB:1≤B):Ex (fun n=>sp_l15Rd_of n l r) (fun k=>Sp r k.2 1∧k.1∈l):=by
 obtain⟨v,r',h1,h2,h3⟩:=num_ev hl h hB
 exact⟨(v,r'),h1,h2,h3⟩
theorem exOpen (b:List UInt8):Ex (fun n=>sp_l15Open n b) (fun r=>Gd r 1000000000):=by
 unfold sp_l15Open
 by_cases h:(b.length:Int)>2000
 ·have hs:slI b 0 2000=some (b.take 2000):=by
   unfold slI
   rw[if_pos ⟨by omega,by omega,by omega⟩]; simp
  refine Ex.bind (P:=fun o=>o.length≤2000) (.pos h (.bp _ hs (.pure (by simp; omega)))) ?_
  intro o ho
  exact .pure ⟨by show(0:Int)≤0; omega,by show(0:Int)+1000000000≤_; omega,ho⟩
 ·refine Ex.bind (P:=fun o=>o.length≤2000) (.neg h (.pure (by omega))) ?_
  intro o ho
  exact .pure ⟨by show(0:Int)≤0; omega,by show(0:Int)+1000000000≤_; omega,ho⟩
def bF:Nat→Int
 | 0=>3
 | d+1=>3+3*bF d
theorem bF_pos:∀d,3≤bF d
 | 0=>by simp[bF]
 | d+1=>by have:=bF_pos d; simp only[bF]; omega
def drawnF:Nat→Form→Prop
 | 0,f=>(f.kind=1∧f.n=0∧f.scopes=[]∧f.kids=[]∧f.name∈([[97],[98],[120],[121],[102],[105,102],[108,101,116],[43]]:List (List UInt8)))∨(f.kind=2∧f.name=[]∧f.scopes=[]∧f.kids=[]∧f.n∈([0,1,2,7,42,999]:List Int))
 | d+1,f=>((f.kind=1∧f.n=0∧f.scopes=[]∧f.kids=[]∧f.name∈([[97],[98],[120],[121],[102],[105,102],[108,101,116],[43]]:List (List UInt8)))∨(f.kind=2∧f.name=[]∧f.scopes=[]∧f.kids=[]∧f.n∈([0,1,2,7,42,999]:List Int)))∨(f.kind=3∧f.name=[]∧f.n=0∧f.scopes=[]∧f.kids.length≤3∧∀x∈f.kids,drawnF d x)
theorem drawnF_leaf {d:Nat} {f:Form} (h:drawnF 0 f):drawnF d f:=by
 cases d with
 | zero=>exact h
 | succ d=>exact .inl h
theorem exLeafF {r:L15Rd} (h:Gd r 2):Ex (fun n=>(sp_l15Rd_pick n 4 r).bind fun k3=>(if k3.1=0 then(sp_l15Rd_num n [0,1,2,7,42,999] k3.2).bind fun k5=>some ((⟨2,[],k5.1,[],[]⟩:Form),k5.2) else(sp_l15Rd_of n [[97],[98],[120],[121],[102],[105,102],[108,101,116],[43]] k3.2).bind fun k6=>(sp_l1Name n k6.1).bind fun k7=>some (k7,k6.2))) (fun k=>Sp r k.2 2∧drawnF 0 k.1):=by
 refine .bind (exPick h (by omega)) fun k3 ⟨s1,_⟩=>?_
 refine .ite (fun _=>?_) (fun _=>?_)
 ·refine .bind (exNum (by simp) (h.to s1 (D:=1) (by omega)) (by omega)) fun k5 ⟨s2,hm⟩=>.pure ⟨s1.trans s2 (by omega),.inr ⟨rfl,rfl,rfl,rfl,hm⟩⟩
 ·refine .bind (exOf (by simp) (h.to s1 (D:=1) (by omega)) (by omega)) fun k6 ⟨s2,hm⟩=>?_
  unfold sp_l1Name
  exact .pure ⟨s1.trans s2 (by omega),.inl ⟨rfl,rfl,rfl,rfl,hm⟩⟩
theorem exSomeF:∀(d:Nat),d≤10→∀(r:L15Rd),Gd r (bF d)→Ex (fun n=>sp_l1Some n (d:Int) r) (fun k=>Sp r k.2 (bF d)∧drawnF d k.1):=by
 intro d
 induction d with
 | zero=>
  intro _ r h
  have h:Gd r 3:=h
  refine .succ ?_
  simp only[sp_l1Some]
  refine Ex.bind (P:=fun o=>o=(true,r)) (.pos rfl (.pure rfl)) ?_
  rintro o rfl
  exact .pos rfl ((exLeafF (h.to (.refl (Int.le_refl 0)) (D:=2) (by omega))).mono fun k ⟨a,b⟩=>⟨a.mono (by simp[bF]),b⟩)
 | succ d ih=>
  intro hd r h
  have ih:=ih (by omega)
  have hB:=bF_pos d
  have h:Gd r (3+3*bF d):=h
  refine .succ ?_
  simp only[sp_l1Some]
  refine Ex.bind (P:=fun o=>Sp r o.2 1) (.neg (by omega) (.bind (exPick h (by omega)) fun k15 ⟨s1,_⟩=>.pure s1)) ?_
  rintro ⟨b,r1⟩ s1
  have g1:Gd r1 (2+3*bF d):=h.to s1 (by omega)
  refine .ite (fun _=>?_) (fun _=>?_)
  ·exact(exLeafF (g1.to (.refl (Int.le_refl 0)) (D:=2) (by omega))).mono fun k ⟨a,b⟩=>⟨s1.trans a (by simp only[bF]; omega),drawnF_leaf b⟩
  ·refine .bind (exPick g1 (by omega)) fun k8 ⟨s2,hc⟩=>?_
   obtain⟨hc0,hc1⟩:=hc (by omega)
   obtain⟨c,r2⟩:=k8
   simp only at s2 hc0 hc1 ⊢
   have g2:Gd r2 (3*bF d):=g1.to s2 (by omega)
   have e1:w64 (((d+1:Nat):Int)-1)=(d:Int):=by rw[w_id (by omega) (by omega)]; omega
   rw[e1]
   refine Ex.iter (fun s=>s.1.toNat) (fun s=>∃j:Nat,(j:Int)≤c∧s.1=c-j∧Sp r2 ⟨s.2.2.1,s.2.2.2⟩ (j*bF d)∧s.2.1.length=j∧∀x∈s.2.1,drawnF d x) _ ⟨0,by omega,by simp,by simpa using (Sp.refl (r:=r2) (Int.le_refl 0)),rfl,by simp⟩ ?_
   rintro ⟨cnt,l,b,p⟩ ⟨j,j0,j1,j2,j3,j4⟩
   simp only at j1 j2 j3 j4 ⊢
   have hj:j=0∨j=1∨j=2∨j=3:=by omega
   refine .ite (fun hp=>?_) (fun hp=>?_)
   ·have gj:Gd ⟨b,p⟩ (bF d):=g2.to j2 (by rcases hj with rfl | rfl | rfl | rfl <;> simp <;> omega)
    refine .bind (ih _ gj) fun k12 ⟨k2,k3⟩=>?_
    have e2:w64 (cnt-1)=cnt-1:=w_id (by omega) (by omega)
    rw[e2]
    refine .bp _ (apB_ok (by simp; omega)) (Ex.pure ⟨fun _ e=>(by cases e),fun s' e=>?_⟩)
    cases e
    refine⟨⟨j+1,by omega,by simp only; omega,?_,by simp; omega,?_⟩,by simp only; omega⟩
    ·refine j2.trans (D:=((j+1:Nat):Int)*bF d) k2 ?_
     rcases hj with rfl | rfl | rfl | rfl <;> simp <;> omega
    ·intro x hx
     rcases List.mem_append.1 hx with h | h
     ·exact j4 x h
     ·rw[List.mem_singleton.1 h]; exact k3
   ·refine Ex.pure ⟨fun w e=>?_,fun s' e=>(by cases e)⟩
    cases e
    refine⟨?_,.inr ⟨rfl,rfl,rfl,rfl,by simp only; omega,j4⟩⟩
    refine s1.trans (s2.trans (j2.mono (C:=3*bF d) ?_) (D:=1+3*bF d) (by omega)) (by simp only[bF]; omega)
    rcases hj with rfl | rfl | rfl | rfl <;> simp <;> omega
def wD:Nat→Nat
 | 0=>3
 | d+1=>6+3*wD d
theorem wFs_le {w:Nat}:∀{l:List Form},(∀x∈l,wF x≤w)→wFs l≤l.length*w
 | [],_=>by simp[wFs]
 | x::r,h=>by
  have h1:=h x (List.mem_cons_self)
  have h2:=wFs_le (l:=r) (fun y hy=>h y (List.mem_cons_of_mem _ hy))
  simp only[wFs,List.length_cons,Nat.succ_mul]; omega
theorem drawnF0_w {f:Form} (h:drawnF 0 f):wF f≤3:=by
 have hw:=wF_eq f
 rcases h with ⟨h1,h2,h3,h4,h5⟩ | ⟨h1,h2,h3,h4,h5⟩
 ·rw[h3,h4] at hw
  simp only[List.length_nil,wFs,Nat.add_zero] at hw
  simp only[List.mem_cons,List.not_mem_nil,or_false] at h5
  rcases h5 with h | h | h | h | h | h | h | h <;> rw[h] at hw <;> simp at hw <;> omega
 ·rw[h2,h3,h4] at hw
  simp[wFs] at hw; omega
theorem drawnF_w:∀(d:Nat) {f:Form},drawnF d f→wF f≤wD d
 | 0,f,h=>drawnF0_w h
 | d+1,f,h=>by
  rcases h with h | ⟨h1,h2,h3,h4,h5,h6⟩
  ·have:=drawnF0_w (f:=f) h
   simp only[wD]; omega
  ·have hw:=wF_eq f
   have:=wFs_le (fun x hx=>drawnF_w d (h6 x hx))
   have:f.kids.length*wD d≤3*wD d:=Nat.mul_le_mul_right _ h5
   rw[h2,h4] at hw
   simp only[List.length_nil] at hw
   simp only[wD]; omega
def leafC (sc:List Int) (c:Core):Prop:=
 (∃i,i∈sc∧c=⟨1,i,[],0,[],⟨0,[],0,[],[]⟩,[]⟩)∨(∃f,drawnF 1 f∧c=⟨4,0,[],0,[],f,[]⟩)∨(∃s,s∈([[102],[43],[108,105,115,116]]:List (List UInt8))∧c=⟨2,0,s,0,[],⟨0,[],0,[],[]⟩,[]⟩)∨(∃i,i∈([0,1,5,42]:List Int)∧c=⟨3,0,[],i,[],⟨0,[],0,[],[]⟩,[]⟩)
theorem leafC_w {sc:List Int} {c:Core} (h:leafC sc c):wC c≤20:=by
 rcases h with ⟨i,_,rfl⟩ | ⟨f,hf,rfl⟩ | ⟨s,hs,rfl⟩ | ⟨i,_,rfl⟩
 ·simp[wC,wCs,wF,wFs]
 ·have:=drawnF_w 1 hf
  simp only[wD] at this
  simp only[wC,wCs,List.length_nil]; omega
 ·simp only[List.mem_cons,List.not_mem_nil,or_false] at hs
  rcases hs with rfl | rfl | rfl <;> simp[wC,wCs,wF,wFs]
 ·simp[wC,wCs,wF,wFs]
theorem exLeafC {a1:List Int} {a3:Int} {r:L15Rd} (h:Gd r 19):Ex (fun n=>Option.bind ((if(a1.length:Int)>0 then(sp_l15Rd_pick n 3 r).bind fun k15=>some ((decide (k15.1>0)),k15.2) else some (false,r)):Option (Bool×L15Rd)) (fun(o3:Bool×L15Rd)=>(if o3.1=true then(sp_l15Rd_pick n (a1.length:Int) o3.2).bind fun k5=>(atI a1 k5.1).bind fun e6=>some ((⟨1,e6,[],0,[],(⟨0,[],0,[],[]⟩:Form),[]⟩:Core),a3,k5.2) else(sp_l15Rd_pick n 4 o3.2).bind fun k8=>(if k8.1=0 then(sp_l1Some n 1 k8.2).bind fun k10=>some ((⟨4,0,[],0,[],k10.1,[]⟩:Core),a3,k10.2) else(if k8.1=1 then(sp_l15Rd_of n [[102],[43],[108,105,115,116]] k8.2).bind fun k12=>some ((⟨2,0,k12.1,0,[],(⟨0,[],0,[],[]⟩:Form),[]⟩:Core),a3,k12.2) else(sp_l15Rd_num n [0,1,5,42] k8.2).bind fun k13=>some ((⟨3,0,[],k13.1,[],(⟨0,[],0,[],[]⟩:Form),[]⟩:Core),a3,k13.2)))))) (fun k=>Sp r k.2.2 19∧leafC a1 k.1):=by
 refine Ex.bind (P:=fun o=>Sp r o.2 1∧(o.1=true→1≤a1.length)) ?_ ?_
 ·refine .ite (fun hl=>.bind (exPick h (by omega)) fun k15 ⟨s1,_⟩=>.pure ⟨s1,fun _=>by omega⟩) (fun hl=>.pure ⟨.refl (by omega),fun h=>by cases h⟩)
 rintro ⟨b0,r1⟩ ⟨s1,hb⟩
 simp only at s1 hb ⊢
 have g1:Gd r1 18:=h.to s1 (by omega)
 refine .ite (fun hb0=>?_) (fun _=>?_)
 ·have hl:=hb hb0
  refine .bind (exPick g1 (by omega)) fun k5 ⟨s2,hv⟩=>?_
  obtain⟨v0,v1⟩:=hv (by omega)
  obtain⟨x,hx,hm⟩:=elem_ok v0 v1
  exact .bp x hx (.pure ⟨(s1.trans s2 (D:=2) (by omega)).mono (by omega),.inl ⟨x,hm,rfl⟩⟩)
 ·refine .bind (exPick g1 (by omega)) fun k8 ⟨s2,_⟩=>?_
  have g2:Gd k8.2 17:=g1.to s2 (by omega)
  refine .ite (fun _=>?_) (fun _=>.ite (fun _=>?_) (fun _=>?_))
  ·have e34:bF 1=12:=by simp[bF]
   refine .bind (exSomeF 1 (by omega) k8.2 (by rw[e34]; exact⟨g2.1,by have:=g2.2.1; omega,g2.2.2⟩)) fun k10 ⟨s3,hf⟩=>?_
   rw[e34] at s3
   exact .pure ⟨(s1.trans (s2.trans s3 (D:=13) (by omega)) (D:=14) (by omega)).mono (by omega),.inr (.inl ⟨_,hf,rfl⟩)⟩
  ·refine .bind (exOf (by simp) g2 (by omega)) fun k12 ⟨s3,hm⟩=>.pure ⟨(s1.trans (s2.trans s3 (D:=2) (by omega)) (D:=3) (by omega)).mono (by omega),.inr (.inr (.inl ⟨_,hm,rfl⟩))⟩
  ·refine .bind (exNum (by simp) g2 (by omega)) fun k13 ⟨s3,hm⟩=>.pure ⟨(s1.trans (s2.trans s3 (D:=2) (by omega)) (D:=3) (by omega)).mono (by omega),.inr (.inr (.inr ⟨_,hm,rfl⟩))⟩
def bC:Nat→Int
 | 0=>20
 | d+1=>24+3*bC d
def wDC:Nat→Nat
 | 0=>20
 | d+1=>20+3*wDC d
theorem bC_pos:∀d,20≤bC d
 | 0=>by simp[bC]
 | d+1=>by have:=bC_pos d; simp only[bC]; omega
theorem wDC_pos:∀d,20≤wDC d
 | 0=>by simp[wDC]
 | d+1=>by simp only[wDC]; omega
theorem wCs_le {w:Nat}:∀{l:List Core},(∀x∈l,wC x≤w)→wCs l≤l.length*w
 | [],_=>by simp[wCs]
 | x::r,h=>by
  have h1:=h x (List.mem_cons_self)
  have h2:=wCs_le (l:=r) (fun y hy=>h y (List.mem_cons_of_mem _ hy))
  simp only[wCs,List.length_cons,Nat.succ_mul]; omega
theorem exSomeC:∀(d:Nat),d≤10→∀(sc:List Int) (last:Int) (r:L15Rd),sc.length≤1000000-2*d→Gd r (bC d)→Ex (fun n=>sp_l6Some n sc (d:Int) last r) (fun k=>Sp r k.2.2 (bC d)∧wC k.1≤wDC d∧(leafC sc k.1∨k.1.kids≠[])):=by
 intro d
 induction d with
 | zero=>
  intro _ sc last r hl h
  have h:Gd r 20:=h
  refine .succ ?_
  simp only[sp_l6Some]
  refine Ex.bind (P:=fun o=>o=(true,r)) (.pos rfl (.pure rfl)) ?_
  rintro o rfl
  exact .pos rfl ((exLeafC (h.to (.refl (Int.le_refl 0)) (D:=19) (by omega))).mono fun k ⟨a,b⟩=>⟨a.mono (by simp[bC]),leafC_w b,.inl b⟩)
 | succ d ih=>
  intro hd sc last r hl h
  have ih:=ih (by omega)
  have hB:=bC_pos d
  have hW:=wDC_pos d
  have h:Gd r (24+3*bC d):=h
  refine .succ ?_
  simp only[sp_l6Some]
  refine Ex.bind (P:=fun o=>Sp r o.2 1) (.neg (by omega) (.bind (exPick h (by omega)) fun k15 ⟨s1,_⟩=>.pure s1)) ?_
  rintro ⟨b,r1⟩ s1
  have g1:Gd r1 (23+3*bC d):=h.to s1 (by omega)
  refine .ite (fun _=>?_) (fun _=>?_)
  ·exact(exLeafC (g1.to (.refl (Int.le_refl 0)) (D:=19) (by omega))).mono fun k ⟨a,b⟩=>⟨s1.trans a (by simp only[bC]; omega),by have:=leafC_w b; simp only[wDC]; omega,.inl b⟩
  ·refine .bind (exNum (by simp) g1 (by omega)) fun k18 ⟨s2,hk⟩=>?_
   obtain⟨kd,r2⟩:=k18
   simp only at s2 hk ⊢
   have g2:Gd r2 (22+3*bC d):=g1.to s2 (by omega)
   refine Ex.bind (P:=fun o=>Sp r2 ⟨o.2.2.2.2.1,o.2.2.2.2.2⟩ 3∧o.1.length≤sc.length+2∧1≤o.2.2.1∧o.2.2.1≤3∧o.2.2.2.1.length≤2) ?_ ?_
   ·refine .ite (fun _=>?_) (fun _=>.ite (fun _=>?_) (fun _=>?_))
    ·refine .bind (exNum (by simp) g2 (by omega)) fun k26 ⟨s3,hm⟩=>?_
     obtain⟨c,r3⟩:=k26
     simp only at s3 hm ⊢
     have hc:0≤c∧c≤2:=by
      simp only[List.mem_cons,List.not_mem_nil,or_false] at hm
      rcases hm with rfl | rfl | rfl <;> simp
     have g3:Gd r3 2:=g2.to s3 (by omega)
     refine Ex.iter (fun s=>s.2.2.1.toNat) (fun s=>∃j:Nat,(j:Int)≤c∧s.2.2.1=c-j∧Sp r3 ⟨s.2.2.2.2.1,s.2.2.2.2.2⟩ j∧s.2.2.2.1.length=j∧s.1.length=sc.length+j) _ ⟨0,by omega,by simp,by simpa using (Sp.refl (r:=r3) (Int.le_refl 0)),rfl,rfl⟩ ?_
     rintro ⟨l,ct,cnt,nl,b,p⟩ ⟨j,j0,j1,j2,j3,j4⟩
     simp only at j1 j2 j3 j4 ⊢
     refine .ite (fun hp=>?_) (fun hp=>?_)
     ·refine .bind (exNum (B:=1) (by simp) (g3.to j2 (by omega)) (by omega)) fun k30 ⟨s4,_⟩=>?_
      have e2:w64 (cnt-1)=cnt-1:=w_id (by omega) (by omega)
      rw[e2]
      refine .bp _ (apB_ok (by simp; omega)) (.bp _ (apB_nil (by omega)) (.bp _ (apB_ok (by simp; omega)) (Ex.pure ⟨fun _ e=>(by cases e),fun s' e=>?_⟩)))
      cases e
      exact⟨⟨j+1,by omega,by simp only; omega,j2.trans s4 (by omega),by simp; omega,by simp; omega⟩,by simp only; omega⟩
     ·refine Ex.pure ⟨fun w e=>?_,fun s' e=>(by cases e)⟩
      cases e
      exact⟨s3.trans (j2.mono (C:=2) (by omega)) (by omega),by simp only; omega,by simp,by simp,by simp only; omega⟩
    ·refine .bind (exNum (by simp) g2 (by omega)) fun k35 ⟨s3,hm⟩=>?_
     have hc:1≤k35.1∧k35.1≤3:=by
      have hm:=hm
      simp only[List.mem_cons,List.not_mem_nil,or_false] at hm
      rcases hm with h | h | h <;> rw[h] <;> simp
     exact .pure ⟨s3.mono (by omega),by simp,hc.1,hc.2,by simp⟩
    ·exact .pure ⟨.refl (by omega),by simp,by simp,by simp,by simp⟩
   ·rintro ⟨l2,ct2,c,nl,b3,p3⟩ ⟨s3,hl2,hc1,hc3,hnl⟩
    simp only at s3 hl2 hc1 hc3 hnl ⊢
    have g3:Gd ⟨b3,p3⟩ (3*bC d):=g2.to s3 (by omega)
    have e1:w64 (((d+1:Nat):Int)-1)=(d:Int):=by rw[w_id (by omega) (by omega)]; omega
    rw[e1]
    refine Ex.iter (fun s=>(c-s.2.1).toNat) (fun s=>∃j:Nat,(j:Int)≤c∧s.2.1=(j:Int)∧Sp ⟨b3,p3⟩ ⟨s.2.2.2.1,s.2.2.2.2⟩ (j*bC d)∧s.2.2.1.length=j∧∀x∈s.2.2.1,wC x≤wDC d) _ ⟨0,by omega,by simp,by simpa using (Sp.refl (r:=⟨b3,p3⟩) (Int.le_refl 0)),rfl,by simp⟩ ?_
    rintro ⟨ct,cnt,l,b,p⟩ ⟨j,j0,j1,j2,j3,j4⟩
    simp only at j1 j2 j3 j4 ⊢
    have hj:j=0∨j=1∨j=2∨j=3:=by omega
    refine .ite (fun hp=>?_) (fun hp=>?_)
    ·have gj:Gd ⟨b,p⟩ (bC d):=g3.to j2 (by rcases hj with rfl | rfl | rfl | rfl <;> simp <;> omega)
     refine .bind (ih l2 ct _ (by omega) gj) fun k23 ⟨k2,k3,_⟩=>?_
     have e2:w64 (cnt+1)=cnt+1:=w_id (by omega) (by omega)
     rw[e2]
     refine .bp _ (apB_ok (by simp; omega)) (Ex.pure ⟨fun _ e=>(by cases e),fun s' e=>?_⟩)
     cases e
     refine⟨⟨j+1,by omega,by simp only; omega,?_,by simp; omega,?_⟩,by simp only; omega⟩
     ·refine j2.trans (D:=((j+1:Nat):Int)*bC d) k2 ?_
      rcases hj with rfl | rfl | rfl | rfl <;> simp <;> omega
     ·intro x hx
      rcases List.mem_append.1 hx with h | h
      ·exact j4 x h
      ·rw[List.mem_singleton.1 h]; exact k3
    ·refine Ex.pure ⟨fun w e=>?_,fun s' e=>(by cases e)⟩
     cases e
     have hjc:(j:Int)=c:=by omega
     refine⟨?_,?_,.inr ?_⟩
     ·refine s1.trans (s2.trans (s3.trans (j2.mono (C:=3*bC d) ?_) (D:=3+3*bC d) (by omega)) (D:=4+3*bC d) (by omega)) (by simp only[bC]; omega)
      rcases hj with rfl | rfl | rfl | rfl <;> simp <;> omega
     ·have:=wCs_le j4
      have:l.length*wDC d≤3*wDC d:=Nat.mul_le_mul_right _ (by omega)
      simp only[wC,wF,wFs,wDC,List.length_nil]; omega
     ·intro e
      simp only at e
      rw[e] at j3
      simp at j3; omega
theorem Ex.skip {L:Nat} (hL:L≤1000000) {step:Nat→Int→Option (Int⊕Int)} {at_:Nat} (ha:at_≤L) (h1:∀i:Nat,i<L→Ex (fun n=>step n (i:Int)) (fun r=>r=.inr ((i+1:Nat):Int)∨r=.inl (i:Int))) (h2:Ex (fun n=>step n (L:Int)) (fun r=>r=.inl (L:Int))) :
  Ex (fun n=>iterM n (step n) (at_:Int)) (fun r=>∃k:Nat,r=(k:Int)∧at_≤k∧k≤L):=by
 refine Ex.iter (fun s=>L-s.toNat) (fun s=>∃i:Nat,s=(i:Int)∧at_≤i∧i≤L) _ ⟨at_,rfl,Nat.le_refl _,ha⟩ ?_
 rintro s ⟨i,rfl,h3,h4⟩
 rcases Nat.lt_or_ge i L with h | h
 ·refine(h1 i h).mono ?_
  rintro r (rfl | rfl)
  ·exact⟨fun w e=>(by cases e),fun s' e=>by cases e; exact⟨⟨i+1,rfl,by omega,by omega⟩,by simp; omega⟩⟩
  ·exact⟨fun w e=>by cases e; exact⟨i,rfl,h3,h4⟩,fun s' e=>(by cases e)⟩
 ·have:i=L:=by omega
  subst this
  refine h2.mono ?_
  rintro r rfl
  exact⟨fun w e=>by cases e; exact⟨_,rfl,h3,h4⟩,fun s' e=>(by cases e)⟩
theorem exSkip (s:List UInt8) (hs:s.length≤1000000) (a:Nat) (ha:a≤s.length):Ex (fun n=>sp_l1Skip n s (a:Int)) (fun r=>∃k:Nat,r=(k:Int)∧a≤k∧k≤s.length):=by
 unfold sp_l1Skip
 refine Ex.skip hs ha (fun i hi=>?_) ?_
 ·have hy:=List.getElem?_eq_getElem hi
  rw[if_pos (by omega),atI_nat hy]
  simp only[Option.bind_some]
  by_cases h:((s[i].toNat:Int)=32)
  ·rw[decide_eq_true h]; exact .pos rfl (.pure (.inl (by rw[w64_nat (by omega)])))
  ·rw[decide_eq_false h]; exact .neg (by simp) (.pure (.inr rfl))
 ·rw[if_neg (by omega)]; simp only[Option.bind_some]; exact .neg (by simp) (.pure rfl)
theorem exWord (s:List UInt8) (hs:s.length≤1000000) (a:Nat) (ha:a≤s.length):Ex (fun n=>sp_l1Word n s (a:Int)) (fun r=>∃k:Nat,r=(k:Int)∧a≤k∧k≤s.length):=by
 unfold sp_l1Word
 refine Ex.skip hs ha (fun i hi=>?_) ?_
 ·have hy:=List.getElem?_eq_getElem hi
  rw[if_pos (by omega),atI_nat hy]
  simp only[Option.bind_some]
  refine Ex.bind (P:=fun _=>True) (.ite (fun _=>.ite (fun _=>.ite (fun _=>.pure trivial) (fun _=>.pure trivial)) (fun _=>.pure trivial)) (fun _=>.pure trivial)) ?_
  intro b _
  exact .ite (fun _=>.pure (.inl (by rw[w64_nat (by omega)]))) (fun _=>.pure (.inr rfl))
 ·rw[if_neg (by omega)]; simp only[Option.bind_some]; exact .neg (by simp) (.pure rfl)
theorem slI_nat {α:Type} {l:List α} {a b:Nat} (h:a≤b) (hb:b≤l.length):slI l (a:Int) (b:Int)=some ((l.drop a).take (b-a)):=by
 unfold slI
 rw[if_pos ⟨by omega,by omega,by omega⟩]
 simp
theorem exNumT (s:List UInt8) (hs:s.length≤1000000):Ex (fun n=>sp_l15Num n s) (fun r=>r.2=true→s≠[]):=by
 unfold sp_l15Num
 by_cases h0:s=[]
 ·subst h0
  simp only[List.length_nil,Option.bind_some]
  exact .pure (fun h=>by cases h)
 have hl:0<s.length:=List.length_pos_iff.2 h0
 refine Ex.mono (Q:=fun _=>True) ?_ (fun _ _ _=>h0)
 have hy:=List.getElem?_eq_getElem hl
 refine Ex.bind (P:=fun b=>b=decide ((s[0].toNat:Int)=45)) (.pos (by omega) (.bp _ (atI_nat (i:=0) hy) (.pure rfl))) ?_
 rintro o1 rfl
 refine Ex.bind (P:=fun t=>t.length≤1000000) ?_ ?_
 ·refine .ite (fun _=>?_) (fun _=>.pure hs)
  have:=slI_nat (l:=s) (a:=1) (b:=s.length) (by omega) (Nat.le_refl _)
  exact .bp _ this (.pure (by simp; omega))
 intro t ht
 refine Ex.bind (P:=fun b=>b=false→0<t.length) ?_ ?_
 ·refine .ite (fun _=>.pure (fun h=>by cases h)) (fun h1=>.ite (fun _=>.pure (fun h=>by cases h)) (fun _=>?_))
  have ht0:0<t.length:=by omega
  refine .bp _ (atI_nat (i:=0) (List.getElem?_eq_getElem ht0)) ?_
  exact .ite (fun _=>.ite (fun _=>.pure (fun h=>by cases h)) (fun _=>.pure fun _=>ht0)) (fun _=>.pure fun _=>ht0)
 intro o3 ho3
 refine .ite (fun _=>.pure trivial) (fun h3=>?_)
 refine Ex.iter (fun s=>t.length-s.2.toNat) (fun s=>∃i:Nat,s.2=(i:Int)∧i≤t.length) _ ⟨0,rfl,Nat.zero_le _⟩ ?_
 rintro ⟨k,p⟩ ⟨i,hi,hil⟩
 simp only at hi
 subst hi
 simp only
 refine .ite (fun h=>?_) (fun h=>?_)
 ·have hi:i<t.length:=by omega
  have hy:=List.getElem?_eq_getElem hi
  rw[atI_nat hy]
  simp only[Option.bind_some]
  refine Ex.bind (P:=fun _=>True) (.ite (fun _=>.pure trivial) (fun _=>.pure trivial)) ?_
  intro b _
  refine .ite (fun _=>.pure ⟨fun _ _=>trivial,fun _ e=>(by cases e)⟩) (fun _=>.pure ⟨fun _ e=>(by cases e),fun s' e=>?_⟩)
  cases e
  exact⟨⟨i+1,by simp only; rw[w64_nat (by omega)],by omega⟩,by simp only; rw[w64_nat (by omega)]; simp; omega⟩
 ·refine Ex.bind (P:=fun _=>True) (.ite (fun _=>.pure trivial) (fun _=>.pure trivial)) ?_
  intro b _
  exact .pure ⟨fun _ _=>trivial,fun _ e=>(by cases e)⟩
theorem exCut (s:List UInt8) (hs:s.length≤1000000) (c:Int):Ex (fun n=>sp_l15Cut n s c) (fun r=>r.length≤s.length+1∧∀x∈r,x.length≤s.length):=by
 unfold sp_l15Cut
 refine Ex.iter (fun t=>s.length+1-t.2.2.toNat) (fun t=>∃a i:Nat,t.2.1=(a:Int)∧t.2.2=(i:Int)∧a≤i∧i≤s.length+1∧t.1.length≤i∧∀x∈t.1,x.length≤s.length) _ ⟨0,0,rfl,rfl,Nat.le_refl _,by omega,by simp,by simp⟩ ?_
 rintro ⟨l,p,q⟩ ⟨a,i,ha,hi,h1,h2,h3,h4⟩
 simp only at ha hi h3 h4
 subst ha; subst hi
 simp only
 refine .ite (fun h=>?_) (fun h=>.pure ⟨fun w e=>by cases e; exact⟨by omega,h4⟩,fun _ e=>(by cases e)⟩)
 have hil:i≤s.length:=by omega
 refine Ex.bind (P:=fun o=>∃a:Nat,o.2=(a:Int)∧a≤i+1∧o.1.length≤i+1∧∀x∈o.1,x.length≤s.length) ?_ ?_
 ·refine Ex.bind (P:=fun _=>True) ?_ ?_
  ·refine .ite (fun _=>.pure trivial) (fun hne=>?_)
   exact .bp _ (atI_nat (List.getElem?_eq_getElem (by omega))) (.pure trivial)
  intro b _
  refine .ite (fun _=>?_) (fun _=>.pure ⟨a,rfl,by omega,by simp only; omega,h4⟩)
  refine .bp _ (slI_nat h1 hil) (.bp _ (apB_ok (by simp; omega)) (.pure ⟨i+1,by rw[w64_nat (by omega)],Nat.le_refl _,by simp; omega,?_⟩))
  intro x hx
  rcases List.mem_append.1 hx with hx | hx
  ·exact h4 x hx
  ·rw[List.mem_singleton.1 hx]; simp; omega
 rintro ⟨l',p'⟩ ⟨a',ha',h5,h6,h7⟩
 simp only at ha' h6 h7
 subst ha'
 refine .pure ⟨fun _ e=>(by cases e),fun s' e=>?_⟩
 cases e
 exact⟨⟨a',i+1,rfl,by simp only; rw[w64_nat (by omega)],h5,by omega,h6,h7⟩,by simp only; rw[w64_nat (by omega)]; simp; omega⟩
theorem exSets (s:List UInt8) (hs:s.length≤1000000) (a:Nat) (ha:a≤s.length):Ex (fun n=>sp_l1Sets n s (a:Int)) (fun r=>r.1.length≤25∧(r.2=-1∨∃k:Nat,r.2=(k:Int)∧a≤k∧k≤s.length)):=by
 unfold sp_l1Sets
 refine Ex.bind (P:=fun b=>b=false→∃h:a<s.length,(s[a].toNat:Int)=123) ?_ ?_
 ·refine .ite (fun _=>.pure (fun h=>by cases h)) (fun h=>?_)
  refine .bp _ (atI_nat (List.getElem?_eq_getElem (by omega))) (.pure (fun hd=>⟨by omega,?_⟩))
  have:=of_decide_eq_false hd
  exact Classical.not_not.1 this
 intro b hb
 refine .ite (fun _=>.pure ⟨by simp,.inr ⟨a,rfl,Nat.le_refl _,ha⟩⟩) (fun hb1=>?_)
 obtain⟨hal,h123⟩:=hb (by simpa using hb1)
 have hw1:w64 ((a:Int)+1)=((a+1:Nat):Int):=w64_nat (by omega)
 refine Ex.iter (fun t=>s.length-t.toNat) (fun t=>∃i:Nat,t=(i:Int)∧a≤i∧i≤s.length) _ ⟨a,rfl,Nat.le_refl _,by omega⟩ ?_
 rintro t ⟨i,rfl,h1,h2⟩
 refine Ex.bind (P:=fun o=>(o=true→i<s.length)∧(o=false→a+1≤i)) ?_ ?_
 ·refine .ite (fun h=>?_) (fun h=>.pure ⟨fun h=>(by cases h),fun _=>by omega⟩)
  have hi:i<s.length:=by omega
  refine .bp _ (atI_nat (List.getElem?_eq_getElem hi)) (.pure ⟨fun _=>hi,fun hd=>?_⟩)
  have h125:(s[i].toNat:Int)=125:=Classical.not_not.1 (of_decide_eq_false hd)
  rcases Nat.lt_or_eq_of_le h1 with h | h
  ·omega
  ·subst h; rw[h123] at h125; cases h125
 rintro o ⟨o1,o2⟩
 refine .ite (fun h=>.pure ⟨fun _ e=>(by cases e),fun s' e=>?_⟩) (fun h=>?_)
 ·cases e
  have:=o1 h
  exact⟨⟨i+1,by rw[w64_nat (by omega)],by omega,by omega⟩,by rw[w64_nat (by omega)]; simp; omega⟩
 have hai:=o2 (by simpa using h)
 refine .ite (fun _=>.pure ⟨fun w e=>by cases e; exact⟨by simp,.inl rfl⟩,fun _ e=>(by cases e)⟩) (fun hne=>?_)
 have hil:i<s.length:=by omega
 rw[hw1]
 refine .bp _ (slI_nat hai h2) (.bind (exCut _ (by simp; omega) 44) fun parts ⟨p1,p2⟩=>?_)
 have hz:((s.drop (a+1)).take (i-(a+1))).length≤1000000:=by simp; omega
 refine Ex.mono (Q:=fun r:(List Int×Int)⊕Int=>∃w,r=.inl w∧w.1.length≤25∧(w.2=-1∨∃k:Nat,w.2=(k:Int)∧a≤k∧k≤s.length)) ?_ ?_
 ·refine Ex.iter (fun t=>26-t.2.toNat) (fun t=>∃j:Nat,t.2=(j:Int)∧j≤25∧j≤parts.length∧t.1.length≤j) _ ⟨0,rfl,by omega,by omega,by simp⟩ ?_
  rintro ⟨l,q⟩ ⟨j,hj,j1,j2,j3⟩
  simp only at hj j3
  subst hj
  simp only
  refine Ex.bind (P:=fun o=>o=true→j<parts.length∧j≤24) (.ite (fun h=>.pure fun hd=>⟨by omega,by have:=of_decide_eq_true hd; omega⟩) (fun h=>.pure fun h=>by cases h)) ?_
  intro o ho
  refine .ite (fun h=>?_) (fun h=>.pure ⟨fun w e=>by cases e; exact⟨_,rfl,by simp only; omega,.inr ⟨i+1,by simp only; rw[w64_nat (by omega)],by omega,by omega⟩⟩,fun _ e=>(by cases e)⟩)
  obtain⟨hj1,hj2⟩:=ho h
  have hmem:parts[j]∈parts:=List.getElem_mem hj1
  refine .bp _ (atI_nat (List.getElem?_eq_getElem hj1)) (.bind (exNumT _ (by have:=p2 _ hmem; omega)) fun k15 _=>?_)
  refine .ite (fun _=>.pure ⟨fun w e=>by cases e; exact⟨_,rfl,by simp only; omega,.inl rfl⟩,fun _ e=>(by cases e)⟩) (fun _=>?_)
  refine .bp _ (apB_ok (by simp; omega)) (.pure ⟨fun _ e=>(by cases e),fun s' e=>?_⟩)
  cases e
  exact⟨⟨j+1,by simp only; rw[w64_nat (by omega)],by omega,by omega,by simp; omega⟩,by simp only; rw[w64_nat (by omega)]; simp; omega⟩
 ·rintro r ⟨w,rfl,hw⟩
  exact⟨fun w' e=>by cases e; exact hw,fun _ e=>(by cases e)⟩
theorem exAtom (s:List UInt8) (hs:s.length≤1000000) (a:Nat) (ha:a≤s.length):Ex (fun n=>sp_l1Atom n s (a:Int)) (fun r=>r.2=-1∨∃k:Nat,r.2=(k:Int)∧a<k∧k≤s.length∧wF r.1+1≤30*(k-a)):=by
 unfold sp_l1Atom
 refine .bind (exWord s hs a ha) fun k1 ⟨k,hk,h1,h2⟩=>?_
 subst hk
 refine .bp _ (slI_nat h1 h2) (.bind (exNumT _ (by simp; omega)) fun k3 h3=>?_)
 have hlen:((s.drop a).take (k-a)).length=k-a:=by simp; omega
 have hne:((s.drop a).take (k-a))≠[]→a<k:=fun h=>by
  have:=List.length_pos_iff.2 h
  omega
 refine .ite (fun h=>.pure (.inr ⟨k,rfl,hne (h3 h),h2,?_⟩)) (fun _=>.ite (fun _=>.pure (.inl rfl)) (fun h=>?_))
 ·have:=hne (h3 h)
  simp[wF,wFs]; omega
 ·have hak:=hne h
  refine .bind (exSets s hs k h2) fun k6 ⟨q1,q2⟩=>.pure ?_
  rcases q2 with q2 | ⟨m,q2,q3,q4⟩
  ·exact .inl q2
  ·refine .inr ⟨m,q2,by omega,q4,?_⟩
   simp only[wF,wFs,List.length_nil,hlen]; omega
theorem exRead:∀(d:Nat),d≤40→∀(s:List UInt8),s.length≤1000000→∀(a:Nat),a≤s.length→Ex (fun n=>sp_l1Read n s (a:Int) (d:Int)) (fun r=>r.2=-1∨∃k:Nat,r.2=(k:Int)∧a<k∧k≤s.length∧wF r.1+1≤30*(k-a)):=by
 intro d
 induction d with
 | zero=>
  intro _ s hs a ha
  refine .succ ?_
  simp only[sp_l1Read]
  refine .bind (exSkip s hs a ha) fun k1 ⟨k,hk,h1,h2⟩=>?_
  refine Ex.bind (P:=fun b=>b=true) (.ite (fun _=>.pure rfl) (fun _=>.pure rfl)) ?_
  rintro b rfl
  exact .pos rfl (.pure (.inl rfl))
 | succ d ih=>
  intro hd s hs a ha
  have ih:=ih (by omega) s hs
  refine .succ ?_
  simp only[sp_l1Read]
  refine .bind (exSkip s hs a ha) fun k1 ⟨k,hk,h1,h2⟩=>?_
  subst hk
  refine Ex.bind (P:=fun b=>b=false→k<s.length) (.ite (fun _=>.pure (fun h=>by cases h)) (fun _=>.pure (fun _=>by omega))) ?_
  intro b hb
  refine .ite (fun _=>.pure (.inl rfl)) (fun hb1=>?_)
  have hk:=hb (by simpa using hb1)
  refine .bp _ (atI_nat (List.getElem?_eq_getElem hk)) ?_
  refine .ite (fun _=>?_) (fun _=>?_)
  ·refine .bind (exAtom s hs k h2) fun k6 h6=>.pure ?_
   rcases h6 with h6 | ⟨m,q1,q2,q3,q4⟩
   ·exact .inl h6
   ·exact .inr ⟨m,q1,by omega,q3,by simp only; omega⟩
  ·have hw1:w64 ((k:Int)+1)=((k+1:Nat):Int):=w64_nat (by omega)
   have hw2:w64 (((d+1:Nat):Int)-1)=(d:Int):=by rw[w_id (by omega) (by omega)]; omega
   rw[hw1,hw2]
   refine .bind (exSkip s hs (k+1) (by omega)) fun k7 ⟨m,hm,q1,q2⟩=>?_
   subst hm
   refine Ex.iter (fun t=>s.length-t.1.toNat) (fun t=>∃i:Nat,t.1=(i:Int)∧k+1≤i∧i≤s.length∧t.2.length≤400∧wFs t.2+t.2.length≤30*(i-(k+1))) _ ⟨m,rfl,q1,q2,by simp,by simp[wFs]⟩ ?_
   rintro ⟨p,l⟩ ⟨i,hi,i1,i2,i3,i4⟩
   simp only at hi i3 i4
   subst hi
   simp only
   refine Ex.bind (P:=fun o=>o=true→i<s.length∧l.length<400) ?_ ?_
   ·refine .ite (fun h=>?_) (fun _=>.pure fun h=>by cases h)
    refine .bp _ (atI_nat (List.getElem?_eq_getElem (by omega))) ?_
    exact .ite (fun _=>.pure fun hd=>⟨by omega,by have:=of_decide_eq_true hd; omega⟩) (fun _=>.pure fun h=>by cases h)
   intro o ho
   refine .ite (fun h=>?_) (fun h=>?_)
   ·obtain⟨ho1,ho2⟩:=ho h
    refine .bind (ih i i2) fun k12 h12=>?_
    rcases h12 with h12 | ⟨j,r1,r2,r3,r4⟩
    ·rw[h12]
     exact .pos (by omega) (.pure ⟨fun w e=>by cases e; exact .inl rfl,fun _ e=>(by cases e)⟩)
    ·rw[r1]
     refine .neg (by omega) (.bp _ (apB_ok (by simp; omega)) (.bind (exSkip s hs j r3) fun k15 ⟨u,hu,u1,u2⟩=>?_))
     subst hu
     refine .pure ⟨fun _ e=>(by cases e),fun s' e=>?_⟩
     cases e
     refine⟨⟨u,rfl,by omega,u2,by simp; omega,?_⟩,by simp; omega⟩
     have happ:∀(x y:List Form),wFs (x++y)=wFs x+wFs y:=fun x y=>by
      induction x with
      | nil=>simp[wFs]
      | cons z x ih=>simp only[List.cons_append,wFs,ih]; omega
     simp only[happ,wFs,List.length_append,List.length_singleton]
     omega
   ·refine Ex.bind (P:=fun o=>o=false→i<s.length) ?_ ?_
    ·refine .ite (fun _=>.pure (fun h=>by cases h)) (fun h=>?_)
     exact .bp _ (atI_nat (List.getElem?_eq_getElem (by omega))) (.pure fun _=>by omega)
    intro o2 ho2
    refine .ite (fun _=>.pure ⟨fun w e=>by cases e; exact .inl rfl,fun _ e=>(by cases e)⟩) (fun h2'=>?_)
    have hi:=ho2 (by simpa using h2')
    refine .pure ⟨fun w e=>?_,fun _ e=>(by cases e)⟩
    cases e
    refine .inr ⟨i+1,by simp only; rw[w64_nat (by omega)],by omega,by omega,?_⟩
    simp only[wF,List.length_nil]; omega
theorem exParse (s:List UInt8) (hs:s.length≤1000000):Ex (fun n=>sp_l1Parse n s) (fun f=>wF f≤30*s.length):=by
 unfold sp_l1Parse
 refine Ex.bind (P:=fun r=>wF r.1≤30*s.length) ?_ (fun r hr=>.pure hr)
 unfold sp_ParseForm
 refine .bind (exRead 40 (by omega) s hs 0 (Nat.zero_le _)) fun k1 h1=>?_
 refine Ex.bind (P:=fun b=>b=false→wF k1.1≤30*s.length) ?_ ?_
 ·rcases h1 with h1 | ⟨k,q1,q2,q3,q4⟩
  ·rw[h1]; exact .pos (by omega) (.pure fun h=>by cases h)
  ·rw[q1]
   refine .neg (by omega) (.bind (exSkip s hs k q3) fun k5 _=>.ite (fun _=>.pure fun h=>by cases h) (fun _=>?_))
   have hw:wF k1.1≤30*s.length:=by omega
   exact .bv (sfv_evt k1.1 (okF_w _ (by omega)) (by have:=cF_le k1.1; omega)) (.pure fun _=>hw)
 intro b hb
 exact .ite (fun _=>.pure (by simp[wF,wFs])) (fun h=>.pure (hb (by simpa using h)))
def b7:Nat→Int
 | 0=>3
 | d+1=>24+3*b7 d
def w7:Nat→Nat
 | 0=>20
 | d+1=>60+3*w7 d
theorem b7_pos:∀d,3≤b7 d
 | 0=>by simp[b7]
 | d+1=>by have:=b7_pos d; simp only[b7]; omega
theorem w7_pos:∀d,20≤w7 d
 | 0=>by simp[w7]
 | d+1=>by simp only[w7]; omega
theorem exSome7:∀(d:Nat),d≤10→∀(ns:List (List UInt8)) (r:L15Rd),1≤ns.length→ns.length≤1000-d→(∀x∈ns,x.length≤20)→Gd r (b7 d)→Ex (fun n=>sp_l7Some n ns (d:Int) r) (fun k=>Sp r k.2 (b7 d)∧wF k.1≤w7 d):=by
 intro d
 have leaf:∀(ns:List (List UInt8)) (r:L15Rd),1≤ns.length→(∀x∈ns,x.length≤20)→Gd r 2→Ex (fun n=>(sp_l15Rd_pick n 3 r).bind fun k3=>(if k3.1=0 then(sp_l15Rd_num n [0,1,2,7] k3.2).bind fun k5=>some ((⟨2,[],k5.1,[],[]⟩:Form),k5.2) else(sp_l15Rd_pick n (ns.length:Int) k3.2).bind fun k6=>(atI ns k6.1).bind fun e7=>(sp_l1Name n e7).bind fun k8=>some (k8,k6.2))) (fun k=>Sp r k.2 2∧wF k.1≤20):=by
  intro ns r h1 h2 g
  refine .bind (exPick g (by omega)) fun k3 ⟨s1,_⟩=>.ite (fun _=>?_) (fun _=>?_)
  ·refine .bind (exNum (by simp) (g.to s1 (D:=1) (by omega)) (by omega)) fun k5 ⟨s2,_⟩=>.pure ⟨s1.trans s2 (by omega),by simp[wF,wFs]⟩
  ·refine .bind (exPick (g.to s1 (D:=1) (by omega)) (by omega)) fun k6 ⟨s2,hv⟩=>?_
   obtain⟨v0,v1⟩:=hv (by omega)
   obtain⟨x,hx,hm⟩:=elem_ok v0 v1
   unfold sp_l1Name
   exact .bp x hx (.pure ⟨s1.trans s2 (by omega),by have:=h2 x hm; simp[wF,wFs]; omega⟩)
 induction d with
 | zero=>
  intro _ ns r h1 _ h2 g
  have g:Gd r 3:=g
  refine .succ ?_
  simp only[sp_l7Some]
  refine Ex.bind (P:=fun o=>o=(true,r)) (.pos rfl (.pure rfl)) ?_
  rintro o rfl
  exact .pos rfl ((leaf ns r h1 h2 (g.to (.refl (Int.le_refl 0)) (by omega))).mono fun k ⟨a,b⟩=>⟨a.mono (by simp[b7]),b⟩)
 | succ d ih=>
  intro hd ns r h1 hl h2 g
  have ih:=ih (by omega)
  have hB:=b7_pos d
  have hW:=w7_pos d
  have g:Gd r (24+3*b7 d):=g
  refine .succ ?_
  simp only[sp_l7Some]
  refine Ex.bind (P:=fun o=>Sp r o.2 1) (.neg (by omega) (.bind (exPick g (by omega)) fun k15 ⟨s1,_⟩=>.pure s1)) ?_
  rintro ⟨b,r1⟩ s1
  have g1:Gd r1 (23+3*b7 d):=g.to s1 (by omega)
  refine .ite (fun _=>?_) (fun _=>?_)
  ·exact(leaf ns r1 h1 h2 (g1.to (.refl (Int.le_refl 0)) (by omega))).mono fun k ⟨a,b⟩=>⟨s1.trans a (by simp only[b7]; omega),by simp only[w7]; omega⟩
  ·refine .bind (exOf (by simp) g1 (by omega)) fun k10 ⟨s2,hm⟩=>?_
   obtain⟨x,r2⟩:=k10
   simp only at s2 hm ⊢
   have hx:x.length=1:=by
    simp only[List.mem_cons,List.not_mem_nil,or_false] at hm
    rcases hm with rfl | rfl | rfl <;> rfl
   have g2:Gd r2 (22+3*b7 d):=g1.to s2 (by omega)
   refine .bp _ (apB_nil (by omega)) (.bp _ (apB_ok (by simp; omega)) (.bind (exPick g2 (by omega)) fun k13 ⟨s3,_⟩=>?_))
   obtain⟨v,r3⟩:=k13
   simp only at s3 ⊢
   have g3:Gd r3 (21+3*b7 d):=g2.to s3 (by omega)
   have s03:Sp r r3 3:=s1.trans (s2.trans s3 (D:=2) (by omega)) (by omega)
   have e1:w64 (((d+1:Nat):Int)-1)=(d:Int):=by rw[w_id (by omega) (by omega)]; omega
   rw[e1]
   simp only[sp_l1Name,sp_l1List,Option.bind_some]
   have h2':∀y∈ns++[x],y.length≤20:=fun y hy=>by
    rcases List.mem_append.1 hy with hy | hy
    ·exact h2 y hy
    ·rw[List.mem_singleton.1 hy]; omega
   have i1:∀r',Gd r' (b7 d)→_:=fun r' gr=>ih ns r' h1 (by omega) h2 gr
   have i2:∀r',Gd r' (b7 d)→_:=fun r' gr=>ih (ns++[x]) r' (by simp) (by simp; omega) h2' gr
   refine Ex.bind (P:=fun _=>True) (.ite (fun _=>.pure trivial) (fun _=>.pure trivial)) ?_
   intro b1 _
   refine .ite (fun _=>?_) (fun _=>?_)
   ·refine .bind (i2 r3 (g3.to (.refl (Int.le_refl 0)) (by omega))) fun k19 ⟨t1,u1⟩=>.pure ⟨s03.trans t1 (by simp only[b7]; omega),?_⟩
    simp only[wF,wFs,w7,List.length_cons,List.length_nil]; omega
   refine Ex.bind (P:=fun _=>True) (.ite (fun _=>.pure trivial) (fun _=>.pure trivial)) ?_
   intro b2 _
   refine .ite (fun _=>?_) (fun _=>.ite (fun _=>?_) (fun _=>.ite (fun _=>?_) (fun _=>?_)))
   ·refine .bind (i1 r3 (g3.to (.refl (Int.le_refl 0)) (by omega))) fun k24 ⟨t1,u1⟩=>?_
    refine .bind (i2 k24.2 (g3.to t1 (by omega))) fun k28 ⟨t2,u2⟩=>.pure ⟨s03.trans (t1.trans t2 (D:=2*b7 d) (by omega)) (by simp only[b7]; omega),?_⟩
    simp only[wF,wFs,w7,List.length_cons,List.length_nil]; omega
   ·refine .bind (i1 r3 (g3.to (.refl (Int.le_refl 0)) (by omega))) fun k32 ⟨t1,u1⟩=>?_
    refine .bind (i1 k32.2 (g3.to t1 (by omega))) fun k33 ⟨t2,u2⟩=>?_
    have z:Ex (fun n=>sp_l7Some n ns 0 k33.2) (fun k=>Sp k33.2 k.2 3∧wF k.1≤20):=by
     have g4:Gd k33.2 3:=(g3.to t1 (D:=21+2*b7 d) (by omega)).to t2 (by omega)
     refine .succ ?_
     simp only[sp_l7Some]
     refine Ex.bind (P:=fun o=>o=(true,k33.2)) (.pos trivial (.pure rfl)) ?_
     rintro o rfl
     exact .pos rfl ((leaf ns k33.2 h1 h2 (g4.to (.refl (Int.le_refl 0)) (by omega))).mono fun k ⟨a,b⟩=>⟨a.mono (by omega),b⟩)
    refine .bind z fun k34 ⟨t3,u3⟩=>.pure ⟨s03.trans (t1.trans (t2.trans t3 (D:=3+b7 d) (by omega)) (D:=3+2*b7 d) (by omega)) (by simp only[b7]; omega),?_⟩
    simp only[wF,wFs,w7,List.length_cons,List.length_nil]; omega
   ·have e34:bF 1=12:=by simp[bF]
    refine .bind (exSomeF 1 (by omega) r3 (by rw[e34]; exact g3.to (.refl (Int.le_refl 0)) (by omega))) fun k38 ⟨t1,hf⟩=>.pure ⟨s03.trans t1 (by rw[e34]; simp only[b7]; omega),?_⟩
    have:=drawnF_w 1 hf
    simp only[wD] at this
    simp only[wF,wFs,w7,List.length_cons,List.length_nil]; omega
   ·refine .bind (i1 r3 (g3.to (.refl (Int.le_refl 0)) (by omega))) fun k40 ⟨t1,u1⟩=>?_
    refine .bind (i1 k40.2 (g3.to t1 (by omega))) fun k41 ⟨t2,u2⟩=>.pure ⟨s03.trans (t1.trans t2 (D:=2*b7 d) (by omega)) (by simp only[b7]; omega),?_⟩
    simp only[wF,wFs,w7,List.length_cons,List.length_nil]; omega
def t7:List (List UInt8):=[qletx1y2la01a,qlettmp5ze0b0,qletsynta6432,qletsyntaba1c,qletiflis93a4,qletsynta3586,qletsynta4596,qletsynta299d,qletsynta9c06,qletsyntae69a,qlambdaxl5d0d,qletsynta0fb6,qletsyntae5c9,qletsynta7279,qletsyntac7f1]
theorem t7_len:∀x∈t7,x.length≤500:=by decide
theorem exDraw7 (r:L15Rd) (g:Gd r 100000):Ex (fun n=>sp_l7Draw n r) (fun k=>Sp r k.2 100000∧wF k.1≤100000):=by
 unfold sp_l7Draw sp_l7Texts
 refine .bp t7 rfl (.bind (exPick g (by omega)) fun k2 ⟨s1,_⟩=>?_)
 have g1:Gd k2.2 99999:=g.to s1 (by omega)
 refine .ite (fun _=>?_) (fun _=>?_)
 ·refine .bind (exPick g1 (by omega)) fun k4 ⟨s2,hv⟩=>?_
  obtain⟨v0,v1⟩:=hv (by decide)
  obtain⟨x,hx,hm⟩:=elem_ok v0 v1
  have hl:=t7_len x hm
  refine .bp x hx (.bind (exParse x (by omega)) fun k6 hk=>.pure ⟨s1.trans s2 (by omega),by simp only; omega⟩)
 ·refine .bind (exNum (by simp) g1 (by omega)) fun k8 ⟨s2,hm⟩=>?_
  have g2:Gd k8.2 99998:=g1.to s2 (by omega)
  obtain⟨d,hd,hk⟩:∃d:Nat,d≤4∧k8.1=(d:Int):=by
   simp only[List.mem_cons,List.not_mem_nil,or_false] at hm
   rcases hm with h | h | h
   ·exact⟨4,by omega,h⟩
   ·exact⟨3,by omega,h⟩
   ·exact⟨2,by omega,h⟩
  rw[hk]
  have hB:b7 d≤10000∧w7 d≤10000:=by
   have:d=0∨d=1∨d=2∨d=3∨d=4:=by omega
   rcases this with rfl | rfl | rfl | rfl | rfl <;> simp[b7,w7]
  refine .bind (exSome7 d (by omega) [[43],[108,105,115,116],[103]] k8.2 (by simp) (by simp; omega) (by decide) (g2.to (.refl (Int.le_refl 0)) (by omega))) fun k9 ⟨s3,w3⟩=>?_
  have g3:Gd k9.2 80000:=g2.to s3 (by omega)
  refine .bind (exPick g3 (by omega)) fun k10 ⟨s4,_⟩=>?_
  refine Ex.bind (P:=fun f=>wF f≤100000) (.ite (fun _=>?_) (fun _=>.pure (by omega))) ?_
  ·have hl:qrulesabl4b2b.length≤500:=by decide
   refine .bind (exParse _ (by omega)) fun k13 hk=>?_
   have hl2:qletsynta5388.length≤20:=by decide
   simp only[sp_l1Name,sp_l1List,Option.bind_some]
   refine .pure ?_
   simp only[wF,wFs,List.length_cons,List.length_nil]; omega
  ·intro f hf
   exact .pure ⟨s1.trans (s2.trans (s3.trans s4 (D:=10001) (by omega)) (D:=10002) (by omega)) (by omega),hf⟩
theorem Ex.anyI {α ω:Type} {m:Nat→α→Option Bool} {p:α→Bool} {yes:ω} {xs:List α} {f:Nat→Unit→Option ω} {Q:ω→Prop} (h:∀x∈xs,Evt (fun n=>m n x) (p x)) (hy:xs.any p=true→Q yes) (hn:xs.any p=false→Ex (fun n=>f n ()) Q) :
  Ex (fun n=>Mx.seqS (Mx.forI (fun(_:Unit) (_:Nat) (x:α)=>((m n x).bind fun k=>(if k=true then some (Sum.inl yes) else some (Sum.inr ())):Option (ω⊕Unit))) 0 xs ()) (f n)) Q:=by
 refine Ex.seqS (P:=fun o=>match o with
  | .inl w=>w=yes∧xs.any p=true
  | .inr _=>xs.any p=false) ?_ ?_ ?_
 ·refine Ex.forI (I:=fun i q s=>(∀x∈q,x∈xs)∧xs.any p=q.any p) ⟨fun _ h=>h,rfl⟩ ?_ ?_
  ·rintro i x q s ⟨h1,h2⟩
   refine .bv (h x (h1 x (List.mem_cons_self))) ?_
   cases hp:p x with
   | false=>exact .neg (by simp) (.fg ⟨fun y hy=>h1 y (List.mem_cons_of_mem _ hy),by rw[h2,List.any_cons,hp,Bool.false_or]⟩)
   | true=>exact .pos rfl (.fo ⟨rfl,by rw[h2,List.any_cons,hp,Bool.true_or]⟩)
  ·rintro s ⟨_,h2⟩
   exact h2
 ·rintro w ⟨rfl,h⟩; exact hy h
 ·rintro ⟨⟩ h; exact hn h
def rel2 {α β:Type} (R:α→β→Prop):List α→List β→Prop
 | [],[]=>True
 | x::xs,y::ys=>R x y∧rel2 R xs ys
 | _,_=>False
theorem rel2_app {α β:Type} {R:α→β→Prop} {x:α} {y:β} (h:R x y):∀{xs:List α} {ys:List β},rel2 R xs ys→rel2 R (xs++[x]) (ys++[y])
 | [],[],_=>⟨h,trivial⟩
 | a::xs,b::ys,h2=>⟨h2.1,rel2_app h h2.2⟩
theorem rel2_len {α β:Type} {R:α→β→Prop}:∀{xs:List α} {ys:List β},rel2 R xs ys→xs.length=ys.length
 | [],[],_=>rfl
 | _::_,_::_,h=>by simp[rel2_len h.2]
theorem Ex.mapL {α β:Type} {m:Nat→α→Option β} {R:α→β→Prop} {xs:List α} {be:Nat} (hb:xs.length*be≤140737488355328) (h:∀x∈xs,Ex (fun n=>m n x) (R x)) :
  Ex (fun n=>Mx.forL (fun(s:List β) (_:Nat) (x:α)=>(m n x).bind fun k=>(apB be s [k]).bind fun z=>some z) 0 xs []) (rel2 R xs):=by
 refine Ex.forL (I:=fun i q s=>∃p,p++q=xs∧rel2 R p s) ⟨[],rfl,trivial⟩ ?_ ?_
 ·rintro i x q s ⟨p,rfl,hr⟩
  have hl:=rel2_len hr
  refine .bind (h x (by simp)) fun k hk=>.bp _ (apB_ok ?_) (.pure ⟨p++[x],by simp,rel2_app hk hr⟩)
  refine Nat.le_trans (Nat.mul_le_mul_right _ ?_) hb
  simp; omega
 ·rintro s ⟨p,hp,hr⟩
  rw[List.append_nil] at hp; rw[← hp]; exact hr
mutual
def thF (s:Nat):Form→Prop
 | ⟨_,nm,_,sc,kids⟩=>nm.length≤12∧sc.length≤s∧thFs s kids
def thFs (s:Nat):List Form→Prop
 | []=>True
 | x::r=>thF s x∧thFs s r
end
theorem thF_eq {s:Nat} {f:Form}:thF s f↔f.name.length≤12∧f.scopes.length≤s∧thFs s f.kids:=by cases f; simp only[thF]
theorem thFs_iff {s:Nat}:∀{l:List Form},thFs s l↔∀x∈l,thF s x
 | []=>by simp[thFs]
 | x::r=>by simp[thFs,thFs_iff (l:=r)]
theorem thFs_app {s:Nat} {a b:List Form} (h1:thFs s a) (h2:thFs s b):thFs s (a++b):=thFs_iff.2 fun x hx=>(List.mem_append.1 hx).elim (thFs_iff.1 h1 x) (thFs_iff.1 h2 x)
mutual
theorem thF_w (s:Nat):∀f:Form,thF s f→wF f+1≤(13+s)*cF f
 | ⟨k,nm,n,sc,kids⟩,h=>by
  simp only[thF] at h
  have:=thFs_w s kids h.2.2
  simp only[wF,cF,Nat.mul_add]; omega
theorem thFs_w (s:Nat):∀l:List Form,thFs s l→wFs l+l.length≤(13+s)*cFs l
 | [],_=>by simp[wFs]
 | x::r,h=>by
  have:=thF_w s x h.1
  have:=thFs_w s r h.2
  simp only[wFs,cFs,Nat.mul_add,List.length_cons]; omega
end
mutual
theorem thF_mono {s t:Nat} (hs:s≤t):∀f:Form,thF s f→thF t f
 | ⟨k,nm,n,sc,kids⟩,h=>⟨h.1,Nat.le_trans h.2.1 hs,thFs_mono hs kids h.2.2⟩
theorem thFs_mono {s t:Nat} (hs:s≤t):∀l:List Form,thFs s l→thFs t l
 | [],_=>trivial
 | x::r,h=>⟨thF_mono hs x h.1,thFs_mono hs r h.2⟩
end
theorem nameB_len {s:List UInt8} (h:nameB s=true):s.length≤12:=by
 unfold nameB at h
 simp only[Bool.or_eq_true,Bool.and_eq_true,decide_eq_true_eq] at h
 rcases h with (rfl | rfl) | ⟨_,_,h⟩
 ·decide
 ·decide
 ·exact h
theorem scB_len {l:List Int} (h:scB l=true):l.length≤24:=by
 unfold scB at h
 simp only[Bool.and_eq_true,decide_eq_true_eq] at h
 exact h.2
theorem fmB_parts {d:Nat} {f:Form} (h:fmB d f=true):∃e,d=e+1∧f.name.length≤12∧f.scopes.length≤24∧(f.kind=1∨f.kind=2→f.kids=[])∧(f.kind=1∨f.kind=2∨f.kind=3)∧∀x∈f.kids,fmB e x=true:=by
 cases d with
 | zero=>cases h
 | succ e=>
  refine⟨e,rfl,?_⟩
  simp only[fmB] at h
  split at h
  ·rename_i h1
   simp only[Bool.and_eq_true,decide_eq_true_eq] at h
   have h4:=List.eq_nil_of_length_eq_zero h.2.2.2
   exact⟨nameB_len h.1,scB_len h.2.2.1,fun _=>h4,.inl h1,fun x hx=>by rw[h4] at hx; cases hx⟩
  ·split at h
   ·rename_i h1
    simp only[Bool.and_eq_true,decide_eq_true_eq] at h
    have h4:=List.eq_nil_of_length_eq_zero h.2.2.2
    exact⟨by rw[h.1]; decide,by omega,fun _=>h4,.inr (.inl h1),fun x hx=>by rw[h4] at hx; cases hx⟩
   ·split at h
    ·rename_i h1 h2 h3
     simp only[Bool.and_eq_true,decide_eq_true_eq,List.all_eq_true] at h
     exact⟨by rw[h.1]; decide,by omega,fun q=>by rcases q with q | q <;> omega,.inr (.inr h3),h.2.2.2⟩
    ·cases h
theorem fmB_th:∀{d:Nat} {f:Form},fmB d f=true→thF 24 f:=by
 intro d
 induction d with
 | zero=>intro f h; cases h
 | succ d ih=>
  intro f h
  obtain⟨e,he,h1,h2,_,_,h5⟩:=fmB_parts h
  obtain rfl:d=e:=by omega
  exact thF_eq.2 ⟨h1,h2,thFs_iff.2 fun x hx=>ih (h5 x hx)⟩
def smF (f:Form):Prop:=thF 26 f∧cF f≤401
theorem smF.w {f:Form} (h:smF f):wF f≤15638:=by have:=thF_w 26 f h.1; have:=h.2; omega
theorem smF.ok {f:Form} (h:smF f):okF f:=okF_w f (by have:=h.w; omega)
theorem smF.kid {f x:Form} (h:smF f) (hx:x∈f.kids):smF x:=⟨thFs_iff.1 (thF_eq.1 h.1).2.2 x hx,by have:=cFs_mem hx; have:=cF_eq f; have:=h.2; omega⟩
theorem cFs_len:∀l:List Form,l.length≤cFs l
 | []=>by simp
 | x::r=>by have:=cF_eq x; have:=cFs_len r; simp only[cFs,List.length_cons]; omega
theorem smF.len {f:Form} (h:smF f):f.kids.length≤400:=by have:=cFs_len f.kids; have:=cF_eq f; have:=h.2; omega
theorem smF_of {f:Form} (h:validF f=true):smF f∧cF f≤400:=by
 unfold validF at h
 simp only[Bool.and_eq_true,decide_eq_true_eq] at h
 exact⟨⟨thF_mono (by omega) f (fmB_th h.1),by omega⟩,h.2⟩
theorem smZ:smF ⟨0,[],0,[],[]⟩:=⟨by simp[thF,thFs],by simp[cF,cFs]⟩
theorem sfv_sm {f:Form} (h:smF f):Evt (fun n=>sp_FormValid n f) (validF f):=sfv_evt f h.ok (by have:=h.2; omega)
theorem scf_sm {f:Form} (h:smF f):Evt (fun n=>sp_l1Copy n f) f:=scf_evt f (by have:=h.w; omega)
theorem sct_sm {f:Form} (h:smF f):Evt (fun n=>sp_l1Count n f) (cF f:Int):=sct_evt f (by have:=h.2; omega)
theorem l2put_ex (l:List Int) (x:Int) (hl:l.length≤1000000):Ex (fun n=>sp_l2Put n l x) (fun r=>r.length≤l.length+1):=by
 unfold sp_l2Put
 simp only[shas_eq,Option.bind_some]
 refine Ex.bind (P:=fun s=>s.1.length≤l.length+1∧(s.2=false→s.1.length≤l.length)) ?_ ?_
 ·refine Ex.forL (I:=fun i q s=>(i+q.length=l.length)∧s.1.length≤i+1∧(s.2=false→s.1.length≤i)) ⟨by simp,by simp,by simp⟩ ?_ ?_
  ·rintro i y q ⟨s,b⟩ ⟨h1,h2,h3⟩
   simp only[List.length_cons] at h1 h2 h3 ⊢
   refine Ex.bind (P:=fun o=>o=true→b=false) (.ite (fun hb=>.pure fun _=>by simpa using hb) (fun hb=>.pure (by simp))) ?_
   intro o ho
   refine Ex.bind (P:=fun z=>z.1.length≤i+1∧(z.2=false→z.1.length≤i)) ?_ ?_
   ·refine .ite (fun hc=>.bp _ (apB_ok (by simp; omega)) (.pure ⟨?_,by simp⟩)) (fun _=>.pure ⟨h2,h3⟩)
    have:=h3 (ho hc)
    simp; omega
   ·intro z ⟨z1,z2⟩
    refine .bp _ (apB_ok (by simp; omega)) (.pure ⟨by omega,by simp; omega,fun hz=>?_⟩)
    have:=z2 hz
    simp; omega
  ·rintro ⟨s,b⟩ ⟨h1,h2,h3⟩; exact⟨h2,h3⟩
 ·rintro ⟨s,b⟩ ⟨h1,h2⟩
  simp only at h1 h2 ⊢
  refine Ex.bind (P:=fun o=>o.length≤l.length+1) (.ite (fun hb=>.bp _ (apB_ok (by simp; omega)) (.pure ?_)) (fun _=>.pure h1)) (fun o ho=>.pure ho)
  have:=h2 (by simpa using hb)
  simp; omega
theorem l2take_ex (l:List Int) (x:Int) (hl:l.length≤1000000):Ex (fun n=>sp_l2Take n l x) (fun r=>r.length≤l.length):=by
 unfold sp_l2Take
 refine Ex.bind (P:=fun s=>s.length≤l.length) ?_ (fun s hs=>.pure hs)
 refine Ex.forL (I:=fun i q s=>(i+q.length=l.length)∧s.length≤i) ⟨by simp,by simp⟩ ?_ ?_
 ·rintro i y q s ⟨h1,h2⟩
  simp only[List.length_cons] at h1
  exact Ex.bind (P:=fun z=>z.length≤i+1) (.ite (fun _=>.bp _ (apB_ok (by simp; omega)) (.pure (by simp; omega))) (fun _=>.pure (by omega))) (fun o ho=>.pure ⟨by omega,ho⟩)
 ·rintro s ⟨h1,h2⟩; exact h2
theorem rel2_cFs {l m:List Form} {s:Nat}:∀{l m:List Form},rel2 (fun x y=>thF s y∧cF y=cF x∧y.kind=x.kind) l m→thFs s m∧cFs m=cFs l
 | [],[],_=>⟨trivial,rfl⟩
 | x::l,y::m,h=>by
  obtain⟨h1,h2⟩:=rel2_cFs (l:=l) (m:=m) h.2
  exact⟨⟨h.1.1,h1⟩,by simp only[cFs,h2,h.1.2.1]⟩
theorem l2chg_ex (f:Form) (s:Nat) (hs:s≤1000) (ht:thF s f) (hc:cF f≤1000000) (x w:Int):Ex (fun n=>sp_l2Change n f x w) (fun r=>thF (s+1) r∧cF r=cF f∧r.kind=f.kind):=by
 have he:=cF_eq f
 have hl:=cFs_len f.kids
 obtain⟨t1,t2,t3⟩:=thF_eq.1 ht
 refine .succ ?_
 simp only[sp_l2Change]
 refine .bp _ (apB_nil (by omega)) ?_
 refine Ex.bind (P:=fun o=>o.length≤s+1) ?_ ?_
 ·refine .ite (fun _=>?_) (fun _=>.pure (by omega))
  refine Ex.bind (P:=fun _=>True) ?_ ?_
  ·refine .ite (fun _=>.pure trivial) (fun _=>.ite (fun _=>?_) (fun _=>.pure trivial))
   simp only[shas_eq,Option.bind_some]; exact .pure trivial
  ·intro o _
   exact .ite (fun _=>.bind (l2take_ex _ _ (by omega)) fun k hk=>.pure (by omega)) (fun _=>.bind (l2put_ex _ _ (by omega)) fun k hk=>.pure (by omega))
 ·intro o ho
  refine .bind (Ex.mapL (m:=fun n y=>sp_l2Change n y x w) (R:=fun x y=>thF (s+1) y∧cF y=cF x∧y.kind=x.kind) (by omega) (fun y hy=>l2chg_ex y s hs (thFs_iff.1 t3 y hy) (by have:=cFs_mem hy; omega) x w)) fun m hm=>.pure ?_
  obtain⟨m1,m2⟩:=rel2_cFs (l:=f.kids) (m:=m) hm
  exact⟨thF_eq.2 ⟨t1,ho,m1⟩,by rw[cF_eq,cF_eq f,m2],rfl⟩
termination_by SizeOf.sizeOf f
decreasing_by exact szF_lt hy
def dotF (f:Form):Bool:=decide (f.kind=1)&&decide (f.name=[46,46,46])
theorem dots_eq (n:Nat) (f:Form):sp_l4Dots n f=some (dotF f):=by
 unfold sp_l4Dots dotF
 by_cases h:f.kind=1 <;> simp[h]
def inF (ls:List Form) (f:Form):Bool:=ls.any fun x=>sameF x f
theorem in_evt (ls:List Form) (f:Form):Evt (fun n=>sp_l4In n ls f) (inF ls f):=by
 refine Ex.evt ?_
 unfold sp_l4In
 exact Ex.anyI (m:=fun n x=>sp_FormSame n x f) (p:=fun x=>sameF x f) (fun x _=>sfs_evt x f) (fun h=>h.symm) (fun h=>.pure h.symm)
def isV (ls:List Form) (f:Form):Bool:=decide (f.kind=1)&&(decide (¬f.name=[46,46,46])&&(decide (¬f.name=[95])&&!inF ls f))
theorem var_evt (ls:List Form) (f:Form):Evt (fun n=>sp_l4Var n f ls) (isV ls f):=by
 refine Ex.evt ?_
 unfold sp_l4Var isV
 refine Ex.bind (P:=fun b=>b=(decide (f.kind=1)&&(decide (¬f.name=[46,46,46])&&(decide (¬f.name=[95])&&!inF ls f)))) ?_ (fun b hb=>.pure hb)
 refine .ite (fun h1=>?_) (fun h1=>.pure (by simp[h1]))
 refine .ite (fun h2=>?_) (fun h2=>.pure (by simp only[decide_eq_false h2,Bool.and_false,Bool.false_and]))
 refine .ite (fun h3=>?_) (fun h3=>.pure (by simp only[decide_eq_false h3,Bool.and_false,Bool.false_and]))
 exact .bv (in_evt ls f) (.pure (by simp only[decide_eq_true h1,decide_eq_true h2,decide_eq_true h3,Bool.true_and]))
mutual
def vaN (ls:List Form):Form→Nat
 | ⟨k,nm,n,sc,kids⟩=>(if isV ls ⟨k,nm,n,sc,kids⟩=true then 1 else 0)+vaNs ls kids
def vaNs (ls:List Form):List Form→Nat
 | []=>0
 | x::r=>vaN ls x+vaNs ls r
end
theorem vaN_eq (ls:List Form) (f:Form):vaN ls f=(if isV ls f=true then 1 else 0)+vaNs ls f.kids:=by cases f; simp only[vaN]
mutual
theorem vaN_le (ls:List Form):∀f:Form,vaN ls f≤cF f
 | ⟨k,nm,n,sc,kids⟩=>by have:=vaNs_le ls kids; simp only[vaN,cF]; split <;> omega
theorem vaNs_le (ls:List Form):∀l:List Form,vaNs ls l≤cFs l
 | []=>by simp[vaNs]
 | x::r=>by have:=vaN_le ls x; have:=vaNs_le ls r; simp only[vaNs,cFs]; omega
end
theorem vars_ex (ls:List Form) (p:Form) (o:List Form) (h:o.length+cF p≤1000000):Ex (fun n=>sp_l4Vars n o p ls) (fun r=>r.length=o.length+vaN ls p):=by
 have he:=cF_eq p
 refine .succ ?_
 simp only[sp_l4Vars]
 refine .bv (var_evt ls p) ?_
 refine Ex.bind (P:=fun z=>z.length=o.length+(if isV ls p=true then 1 else 0)) ?_ ?_
 ·refine .ite (fun h1=>.bp _ (apB_ok (by simp; omega)) (.pure (by simp[h1]))) (fun h1=>.pure (by simp[h1]))
 intro z hz
 refine Ex.bind (P:=fun s=>s.length=o.length+vaN ls p) ?_ (fun s hs=>.pure hs)
 refine Ex.forL (I:=fun i q s=>s.length+vaNs ls q=o.length+vaN ls p∧s.length+cFs q≤1000000∧∀x∈q,x∈p.kids) ⟨by rw[vaN_eq,hz]; omega,by rw[hz]; split <;> omega,fun _ h=>h⟩ ?_ ?_
 ·rintro i x q s ⟨h1,h2,h3⟩
  simp only[vaNs,cFs] at h1 h2
  have g4:=h3 x (List.mem_cons_self)
  have hv:=vaN_le ls x
  refine .bind (vars_ex ls x s (by omega)) fun k hk=>.pure ⟨by omega,by omega,fun y hy=>h3 y (List.mem_cons_of_mem _ hy)⟩
 ·rintro s ⟨h1,_,_⟩
  simpa [vaNs] using h1
termination_by SizeOf.sizeOf p
decreasing_by exact szF_lt g4
theorem deps_ex (ls:List Form) (p:Form) (o:List Int) (d:Int) (h:o.length+cF p≤1000000):Ex (fun n=>sp_l4Depths n o p ls d) (fun r=>r.length=o.length+vaN ls p):=by
 have he:=cF_eq p
 have hk:=cFs_len p.kids
 refine .succ ?_
 simp only[sp_l4Depths,dots_eq]
 refine .bv (var_evt ls p) ?_
 refine Ex.bind (P:=fun z=>z.length=o.length+(if isV ls p=true then 1 else 0)) ?_ ?_
 ·refine .ite (fun h1=>.bp _ (apB_ok (by simp; omega)) (.pure (by simp[h1]))) (fun h1=>.pure (by simp[h1]))
 intro z hz
 refine Ex.bind (P:=fun s=>s.length=o.length+vaN ls p) ?_ (fun s hs=>.pure hs)
 refine Ex.forL (I:=fun i q s=>s.length+vaNs ls q=o.length+vaN ls p∧s.length+cFs q≤1000000∧p.kids.drop i=q) ⟨by rw[vaN_eq,hz]; omega,by rw[hz]; split <;> omega,rfl⟩ ?_ ?_
 ·rintro i x q s ⟨h1,h2,h3⟩
  simp only[vaNs,cFs] at h1 h2
  obtain⟨_,g2,g3,g4⟩:=drop_hd h3
  have hv:=vaN_le ls x
  refine Ex.bind (P:=fun _=>True) (.ite (fun hc=>?_) (fun _=>.pure trivial)) ?_
  ·obtain⟨y,hy,_⟩:=elem_ok (l:=p.kids) (i:=((i+1:Nat):Int)) (by omega) hc
   exact .bp y hy (.pure trivial)
  intro b _
  refine Ex.bind (P:=fun _=>True) (.ite (fun _=>.pure trivial) (fun _=>.pure trivial)) ?_
  intro d' _
  refine .bind (deps_ex ls x s d' (by omega)) fun k hk=>.pure ⟨by omega,by omega,g2⟩
 ·rintro s ⟨h1,_,_⟩
  simpa [vaNs] using h1
termination_by SizeOf.sizeOf p
decreasing_by exact szF_lt g4
theorem slI_int {α:Type} {l:List α} {i:Int} (h0:0≤i) (h:i≤(l.length:Int)):∃z,slI l 0 i=some z∧∀x∈z,x∈l:=by
 unfold slI
 rw[if_pos (by omega)]
 exact⟨_,rfl,fun x hx=>List.mem_of_mem_drop (List.mem_of_mem_take hx)⟩
theorem w64_1 {i:Int} (h0:0≤i) (h:i≤1000000000):w64 (i+1)=i+1:=w_id (by omega) (by omega)
theorem w64_m {i:Int} (h0:0≤i) (h:i≤1000000000):w64 (i-1)=i-1:=w_id (by omega) (by omega)
def bdOK (b:Bind):Prop:=b.name.length≤12∧b.scopes.length≤26
def bsOK (bs:List Bind):Prop:=bs.length≤61∧∀b∈bs,bdOK b
theorem bval_ex (bs:List Bind) (h:bsOK bs):Ex (fun n=>sp_BindsValid n bs) (fun _=>True):=by
 have hl:=h.1
 unfold sp_BindsValid
 refine Ex.iter (μ:=fun s=>((bs.length:Int)-s).toNat) (I:=fun s=>0≤s∧s≤(bs.length:Int)) 0 ⟨by omega,by omega⟩ ?_
 rintro s ⟨h0,h1⟩
 refine Ex.bind (P:=fun o=>o=true→s<(bs.length:Int)) (.ite (fun h=>.pure fun _=>h) (fun _=>.pure (by simp))) ?_
 intro o ho
 refine .ite (fun hc=>?_) (fun _=>.out trivial)
 have hs:=ho hc
 obtain⟨b,hb,hm⟩:=elem_ok h0 hs
 obtain⟨b1,b2⟩:=h.2 b hm
 refine Ex.bind (P:=fun _=>True) ?_ ?_
 ·exact .bp b hb (.bv (snv_evt _ (by unfold mxL; omega)) (.ite (fun _=>.pure trivial) (fun _=>.bv (ssc_evt _ (by unfold mxL; omega)) (.ite (fun _=>.pure trivial) (fun _=>.ite (fun _=>.pure trivial) (fun _=>.pure trivial))))))
 intro o5 _
 refine .ite (fun _=>.out trivial) (fun _=>?_)
 refine Ex.iter (μ:=fun s7=>(s-s7).toNat) (I:=fun s7=>0≤s7∧s7≤s) 0 ⟨by omega,by omega⟩ ?_
 rintro t ⟨t0,t1⟩
 refine .ite (fun ht=>?_) (fun _=>.out ⟨fun _ _=>trivial,fun s' e=>?_⟩)
 ·obtain⟨c,hc',hm'⟩:=elem_ok t0 (Int.lt_trans ht hs)
  refine Ex.bind (P:=fun _=>True) (.bp c hc' (.bp b hb (.ite (fun _=>.bv (seqi_evt _ _) (.pure trivial)) (fun _=>.pure trivial)))) ?_
  intro o10 _
  exact .ite (fun _=>.out ⟨fun _ _=>trivial,fun s' e=>by cases e⟩) (fun _=>.go (by rw[w64_1 (by omega) (by omega)]; omega) (by rw[w64_1 (by omega) (by omega)]; omega))
 ·cases e
  rw[w64_1 (by omega) (by omega)]; omega
theorem bvalv_ex (bs:List Bind) (h:bsOK bs):Ex (fun n=>sp_BindsValid_v n bs) (fun _=>True):=by
 have hl:=h.1
 unfold sp_BindsValid_v
 refine Ex.iter (μ:=fun s=>((bs.length:Int)-s).toNat) (I:=fun s=>0≤s∧s≤(bs.length:Int)) 0 ⟨by omega,by omega⟩ ?_
 rintro s ⟨h0,h1⟩
 refine Ex.bind (P:=fun o=>o=true→s<(bs.length:Int)) (.ite (fun h=>.pure fun _=>h) (fun _=>.pure (by simp))) ?_
 intro o ho
 refine .ite (fun hc=>?_) (fun _=>.out trivial)
 have hs:=ho hc
 have hv:s.toNat<bs.length:=by omega
 have hb:=List.getElem?_eq_getElem hv
 obtain⟨b1,b2⟩:=h.2 _ (List.getElem_mem hv)
 have hi:=inB_ok (n:=bs.length) h0 hv
 refine Ex.bind (P:=fun _=>True) ?_ ?_
 ·exact .bp () hi (.bp _ hb (.bv (snv_evt _ (by unfold mxL; omega)) (.ite (fun _=>.pure trivial) (fun _=>.bp () hi (.bv (ssc_evt _ (by unfold mxL; omega)) (.ite (fun _=>.pure trivial) (fun _=>.bp () hi (.ite (fun _=>.pure trivial) (fun _=>.bp () hi (.pure trivial))))))))))
 intro o5 _
 refine .ite (fun _=>.out trivial) (fun _=>?_)
 refine Ex.iter (μ:=fun s7=>(s-s7).toNat) (I:=fun s7=>0≤s7∧s7≤s) 0 ⟨by omega,by omega⟩ ?_
 rintro t ⟨t0,t1⟩
 refine .ite (fun ht=>?_) (fun _=>.out ⟨fun _ _=>trivial,fun s' e=>?_⟩)
 ·have hv':t.toNat<bs.length:=by omega
  have hb':=List.getElem?_eq_getElem hv'
  have hi':=inB_ok (n:=bs.length) t0 hv'
  refine Ex.bind (P:=fun _=>True) (.bp () hi' (.bp _ hb' (.bp () hi (.bp _ hb (.ite (fun _=>.bp () hi' (.bp () hi (.bv (seqi_evt _ _) (.pure trivial)))) (fun _=>.pure trivial)))))) ?_
  intro o10 _
  exact .ite (fun _=>.out ⟨fun _ _=>trivial,fun s' e=>by cases e⟩) (fun _=>.go (by rw[w64_1 (by omega) (by omega)]; omega) (by rw[w64_1 (by omega) (by omega)]; omega))
 ·cases e
  rw[w64_1 (by omega) (by omega)]; omega
theorem scw_evt (a b:List Int):Evt (fun n=>sp_ScopesWithin n a b) (a.all fun x=>decide (x∈b)):=by
 refine Ex.evt ?_
 unfold sp_ScopesWithin
 exact Ex.allI (m:=fun n x=>sp_l2Has n b x) (p:=fun x=>decide (x∈b)) (fun x _=>⟨0,fun n _=>shas_eq n b x⟩) (fun h=>.pure h.symm) (fun h=>h.symm)
theorem fit_ex (bs:List Bind) (hl:bs.length≤1000000) (f:Form):Ex (fun n=>sp_l3Fitting n bs f) (fun r=>∀i∈r,0≤i∧i<(bs.length:Int)):=by
 unfold sp_l3Fitting
 refine Ex.bind (P:=fun r=>∀i∈r,0≤i∧i<(bs.length:Int)) ?_ (fun s hs=>.pure hs)
 refine Ex.forL (I:=fun i q s=>(i+q.length=bs.length)∧s.length≤i∧∀j∈s,0≤j∧j<(bs.length:Int)) ⟨by simp,by simp,by simp⟩ ?_ (fun s h=>h.2.2)
 rintro i b q s ⟨h1,h2,h3⟩
 simp only[List.length_cons] at h1
 refine Ex.bind (P:=fun s=>s.length≤i+1∧∀j∈s,0≤j∧j<(bs.length:Int)) ?_ (fun s hs=>.pure ⟨by omega,hs⟩)
 refine Ex.bind (P:=fun _=>True) (.ite (fun _=>.bv (scw_evt _ _) (.pure trivial)) (fun _=>.pure trivial)) ?_
 intro o _
 refine .ite (fun _=>.bp _ (apB_ok (by simp; omega)) (.pure ⟨by simp; omega,fun j hj=>?_⟩)) (fun _=>.pure ⟨by omega,h3⟩)
 rcases List.mem_append.1 hj with hj | hj
 ·exact h3 j hj
 ·rw[List.mem_singleton.1 hj]; omega
theorem find_ex (bs:List Bind) (hl:bs.length≤1000000) (f:Form):Ex (fun n=>sp_l3Find n bs f) (fun r=>r.2=0∨r.2=2∨0≤r.1∧r.1<(bs.length:Int)):=by
 unfold sp_l3Find
 refine .bind (fit_ex bs hl f) fun k hk=>?_
 refine Ex.seqS (P:=fun o=>match o with
  | .inl w=>0≤w.1∧w.1<(bs.length:Int)
  | .inr _=>True) ?_ (fun w h=>.inr (.inr h)) (fun _ _=>.ite (fun _=>.pure (.inr (.inl rfl))) (fun _=>.pure (.inl rfl)))
 refine Ex.forI (I:=fun i q s=>∀x∈q,x∈k) (fun _ h=>h) ?_ (fun _ _=>trivial)
 intro i x q s h
 have hx:=hk x (h x List.mem_cons_self)
 obtain⟨b,hb,_⟩:=elem_ok hx.1 hx.2
 refine Ex.bind (P:=fun _=>True) ?_ (fun o _=>.ite (fun _=>.fo hx) (fun _=>.fg fun y hy=>h y (List.mem_cons_of_mem _ hy)))
 refine Ex.forL (I:=fun i q s=>∀x∈q,x∈k) (fun _ h=>h) ?_ (fun _ _=>trivial)
 intro j y q' s' h'
 have hy:=hk y (h' y List.mem_cons_self)
 obtain⟨c,hc,_⟩:=elem_ok hy.1 hy.2
 exact Ex.bind (P:=fun _=>True) (.ite (fun _=>.bp c hc (.bp b hb (.bv (scw_evt _ _) (.pure trivial)))) (fun _=>.pure trivial)) (fun o _=>.pure fun z hz=>h' z (List.mem_cons_of_mem _ hz))
theorem same3_ex (bs:List Bind) (hl:bs.length≤1000000) (f g:Form):Ex (fun n=>sp_l3Same n bs f g) (fun _=>True):=by
 unfold sp_l3Same
 refine .bind (find_ex bs hl f) fun k1 h1=>.bind (find_ex bs hl g) fun k2 h2=>?_
 refine Ex.bind (P:=fun o=>o=false→k1.2=k2.2∧¬k1.2=2) (.ite (fun h=>.pure (by simp)) (fun h=>.pure fun e=>⟨by simpa using h,by simpa using e⟩)) ?_
 intro o ho
 refine .ite (fun _=>.pure trivial) (fun hc=>.ite (fun _=>.pure trivial) (fun hz=>?_))
 obtain⟨g1,g2⟩:=ho (by simpa using hc)
 have p1:0≤k1.1∧k1.1<(bs.length:Int):=h1.elim (fun h=>absurd h hz) (fun h=>h.elim (fun h=>absurd h g2) id)
 have p2:0≤k2.1∧k2.1<(bs.length:Int):=h2.elim (fun h=>absurd (g1.trans h) hz) (fun h=>h.elim (fun h=>absurd (g1.trans h) g2) id)
 obtain⟨b,hb,_⟩:=elem_ok p1.1 p1.2
 obtain⟨c,hc,_⟩:=elem_ok p2.1 p2.2
 exact .bp b hb (.bp c hc (.pure trivial))
theorem is3_ex (f:Form) (h:smF f):Ex (fun n=>sp_l3Is n f) (fun _=>True):=by
 unfold sp_l3Is
 exact Ex.bind (P:=fun _=>True) (.ite (fun _=>.bv (sfv_sm h) (.pure trivial)) (fun _=>.pure trivial)) (fun o _=>.pure trivial)
theorem copy3_evt (bs:List Bind) (h:bsOK bs):Evt (fun n=>sp_l3Copy n bs) bs:=by
 have hl:=h.1
 refine Ex.evt ?_
 unfold sp_l3Copy
 refine Ex.bind (P:=fun s=>s=bs) ?_ (fun s hs=>.pure hs)
 refine Ex.forL (I:=fun i q s=>s=bs.take i∧bs.drop i=q) ⟨rfl,rfl⟩ ?_ ?_
 ·rintro i x q s ⟨rfl,hd⟩
  obtain⟨g1,g2,g3,g4⟩:=drop_hd hd
  have:=(h.2 x g4).2
  refine .bp _ (apB_nil (by omega)) (.bp _ (apB_ok (by simp; omega)) (.pure ⟨?_,g2⟩))
  rw[List.take_add_one,g1]; cases x; rfl
 ·rintro s ⟨rfl,_⟩; simp
theorem addb_ex (bs:List Bind) (h:bsOK bs) (hl:bs.length<60) (f:Form) (hf:smF f) (id:Int):Ex (fun n=>sp_AddBind n bs f id) (fun r=>r.2=true→bsOK r.1∧r.1.length=bs.length+1):=by
 unfold sp_AddBind
 obtain⟨f1,f2,_⟩:=thF_eq.1 hf.1
 refine Ex.bind (P:=fun _=>True) (.bind (bval_ex bs h) fun k _=>.ite (fun _=>.pure trivial) (fun _=>.bind (is3_ex f hf) fun k _=>.pure trivial)) ?_
 intro o _
 refine .ite (fun _=>.pure (by simp)) (fun _=>.bv (copy3_evt bs h) (.bp _ (apB_nil (by omega)) (.bp _ (apB_ok (by simp; omega)) ?_)))
 have hn:bsOK (bs++[(⟨f.name,f.scopes,id⟩:Bind)]):=⟨by simp; omega,fun b hb=>by
  rcases List.mem_append.1 hb with hb | hb
  ·exact h.2 b hb
  ·rw[List.mem_singleton.1 hb]; exact⟨f1,f2⟩⟩
 exact .bind (bvalv_ex _ hn) fun k _=>.ite (fun _=>.pure (by simp)) (fun _=>.pure fun _=>⟨hn,by simp⟩)
def liOK (ls:List Form):Prop:=ls.length≤1000∧∀x∈ls,smF x
theorem lits_ex (ls:List Form) (h:liOK ls):Ex (fun n=>sp_l4Literals n ls) (fun _=>True):=by
 have hl:=h.1
 unfold sp_l4Literals
 refine Ex.iter (μ:=fun s=>((ls.length:Int)-s).toNat) (I:=fun s=>0≤s∧s≤(ls.length:Int)) 0 ⟨by omega,by omega⟩ ?_
 rintro s ⟨h0,h1⟩
 refine Ex.bind (P:=fun o=>o=true→s<(ls.length:Int)) (.ite (fun h=>.pure fun _=>h) (fun _=>.pure (by simp))) ?_
 intro o ho
 refine .ite (fun hc=>?_) (fun _=>.out trivial)
 have hs:=ho hc
 obtain⟨b,hb,hm⟩:=elem_ok h0 hs
 obtain⟨z,hz,_⟩:=slI_int h0 h1
 refine Ex.bind (P:=fun _=>True) ?_ ?_
 ·exact .bp b hb (.bind (is3_ex b (h.2 b hm)) fun k _=>.ite (fun _=>.pure trivial) (fun _=>.ite (fun _=>.pure trivial) (fun _=>.ite (fun _=>.pure trivial) (fun _=>.bp z hz (.bv (in_evt _ _) (.pure trivial))))))
 intro o5 _
 exact .ite (fun _=>.out trivial) (fun _=>.go (by rw[w64_1 (by omega) (by omega)]; omega) (by rw[w64_1 (by omega) (by omega)]; omega))
mutual
def shP:Form→Prop
 | ⟨k,nm,n,sc,kids⟩=>dotF ⟨k,nm,n,sc,kids⟩=false∧shPs kids∧(∀x,kids.head? = some x→dotF x=false)∧kids.countP dotF≤1
def shPs:List Form→Prop
 | []=>True
 | x::r=>(dotF x=false→shP x)∧shPs r
end
theorem shP_eq {f:Form}:shP f↔dotF f=false∧shPs f.kids∧(∀x,f.kids.head? = some x→dotF x=false)∧f.kids.countP dotF≤1:=by cases f; simp only[shP]
theorem shPs_iff:∀{l:List Form},shPs l↔∀x∈l,dotF x=false→shP x
 | []=>by simp[shPs]
 | x::r=>by simp[shPs,shPs_iff (l:=r)]
theorem shape_ex (f:Form) (hf:smF f):Ex (fun n=>sp_l4Shape n f) (fun r=>r=true→shP f):=by
 have hl:=hf.len
 refine .succ ?_
 simp only[sp_l4Shape,dots_eq,Option.bind_some]
 refine .ite (fun _=>.pure (by simp)) (fun hd=>?_)
 refine Ex.seqS (Q:=fun r=>r=true→shP f) (P:=fun(o:Bool⊕Int)=>match o with
  | .inl w=>w=false
  | .inr s=>s≤1→shP f) ?_ (fun w h=>by have h:w=false:=h; simp[h]) (fun s h=>Ex.pure (v:=decide (s≤1)) fun e=>h (by simpa using e))
 refine Ex.forI (I:=fun i q s=>∃p,p++q=f.kids∧i=p.length∧s=((p.countP dotF:Nat):Int)∧(∀x∈p,dotF x=false→shP x)∧(∀x,p.head? = some x→dotF x=false)) ⟨[],rfl,rfl,rfl,by simp,by simp⟩ ?_ ?_
 ·rintro i x q s ⟨p,hp,rfl,rfl,h3,h4⟩
  have hx:x∈f.kids:=by rw[← hp]; simp
  have hlen:p.length+(q.length+1)=f.kids.length:=by rw[← hp]; simp
  have hc:=List.countP_le_length (p:=dotF) (l:=p)
  have hp':(p++[x])++q=f.kids:=by rw[← hp]; simp
  have tail:∀{R:Bool⊕Int→Prop} {g:Nat→Option ((Bool⊕Int)⊕Int)},Ex g (fun r=>(r=.inl (.inl false)∧R (.inl false))∨∃s,r=.inr s∧R (.inr s))→Ex (fun n=>Mx.seqS (g n) (fun s=>some (.inr s))) R:=fun h=>by
   refine Ex.seqS h (fun w hw=>?_) (fun t ht=>?_)
   ·rcases hw with ⟨e,h⟩ | ⟨s,e,_⟩
    ·cases e; exact h
    ·cases e
   ·rcases ht with ⟨e,_⟩ | ⟨s,e,h⟩
    ·cases e
    ·cases e; exact .pure h
  refine tail ?_
  refine .ite (fun hdx=>?_) (fun hdx=>?_)
  ·refine Ex.bind (P:=fun o=>o=false→0<p.length) (.ite (fun _=>.pure (by simp)) (fun h0=>?_)) ?_
   ·obtain⟨y,hy,_⟩:=elem_ok (l:=f.kids) (i:=(p.length:Int)-1) (by omega) (by omega)
    rw[w64_m (by omega) (by omega)]
    exact .bp y hy (.pure fun _=>by omega)
   ·intro o ho
    refine .ite (fun _=>.pure (.inl ⟨rfl,fun w e=>by cases e; rfl,fun s' e=>by cases e⟩)) (fun hc'=>.pure (.inr ⟨_,rfl,fun w e=>by(cases e),fun s' e=>?_⟩))
    cases e
    have hpos:=ho (by simpa using hc')
    refine⟨p++[x],hp',by simp,?_,?_,?_⟩
    ·rw[w64_1 (by omega) (by omega),List.countP_append]; simp[hdx]
    ·intro y hy hdy
     rcases List.mem_append.1 hy with hy | hy
     ·exact h3 y hy hdy
     ·rw[List.mem_singleton.1 hy,hdx] at hdy; cases hdy
    ·intro y hy
     cases p with
     | nil=>simp at hpos
     | cons a p=>exact h4 y (by simpa using hy)
  ·refine .bind (shape_ex x (hf.kid hx)) fun k hk=>?_
   refine .ite (fun _=>.pure (.inl ⟨rfl,fun w e=>by cases e; rfl,fun s' e=>by cases e⟩)) (fun hc'=>.pure (.inr ⟨_,rfl,fun w e=>by(cases e),fun s' e=>?_⟩))
   cases e
   have hkx:=hk (by simpa using hc')
   refine⟨p++[x],hp',by simp,?_,?_,?_⟩
   ·rw[List.countP_append]; simp[hdx]
   ·intro y hy hdy
    rcases List.mem_append.1 hy with hy | hy
    ·exact h3 y hy hdy
    ·rw[List.mem_singleton.1 hy]; exact hkx
   ·intro y hy
    cases p with
    | nil=>simp at hy; rw[← hy]; simpa using hdx
    | cons a p=>exact h4 y (by simpa using hy)
 ·rintro s ⟨p,hp,_,rfl,h3,h4⟩ hs
  rw[List.append_nil] at hp
  subst hp
  exact shP_eq.2 ⟨by simpa using hd,shPs_iff.2 h3,h4,by omega⟩
termination_by SizeOf.sizeOf f
decreasing_by exact szF_lt hx
theorem is4_ex (f:Form) (hf:smF f) (ls:List Form) (h:liOK ls):Ex (fun n=>sp_l4Is n f ls) (fun r=>r=true→validF f=true∧shP f):=by
 have hc:=hf.2
 have hvl:=vaN_le ls f
 unfold sp_l4Is
 refine Ex.bind (P:=fun o=>o=false→validF f=true∧shP f) ?_ ?_
 ·refine .bv (sfv_sm hf) (.ite (fun _=>.pure (by simp)) (fun h1=>.bind (lits_ex ls h) fun k _=>.ite (fun _=>.pure (by simp)) (fun _=>.bind (shape_ex f hf) fun k hk=>.pure fun e=>⟨by simpa using h1,hk (by simpa using e)⟩)))
 intro o ho
 refine .ite (fun _=>.pure (by simp)) (fun hc'=>?_)
 have hgood:=ho (by simpa using hc')
 refine .bind (vars_ex ls f [] (by simp; omega)) fun k3 hk3=>?_
 refine Ex.seqS (P:=fun _=>True) ?_ (fun _ _ _=>hgood) ?_
 ·refine Ex.forI (I:=fun i q s=>k3.drop i=q) rfl ?_ (fun _ _=>trivial)
  intro i x q s hd
  obtain⟨_,g2,g3,_⟩:=drop_hd hd
  obtain⟨z,hz,_⟩:=slI_int (l:=k3) (i:=(i:Int)) (by omega) (by omega)
  exact .bp z hz (.bv (in_evt _ _) (.ite (fun _=>.fo trivial) (fun _=>.fg g2)))
 intro _ _
 refine .bind (deps_ex ls f [] 0 (by simp; omega)) fun k16 _=>?_
 refine Ex.seqS (P:=fun _=>True) ?_ (fun _ _ _=>hgood) (fun _ _=>.pure fun _=>hgood)
 exact Ex.forI (I:=fun _ _ _=>True) trivial (fun i x q s _=>.ite (fun _=>.fo trivial) (fun _=>.fg trivial)) (fun _ _=>trivial)
theorem find4_ex (hs:List Hit) (f:Form):Ex (fun n=>sp_l4Find n hs f) (fun r=>r=-1∨0≤r∧r<(hs.length:Int)):=by
 unfold sp_l4Find
 refine Ex.seqS (P:=fun o=>match o with
  | .inl w=>0≤w∧w<(hs.length:Int)
  | .inr _=>True) ?_ (fun w h=>.inr h) (fun _ _=>.pure (.inl rfl))
 refine Ex.forI (I:=fun i q s=>hs.drop i=q) rfl ?_ (fun _ _=>trivial)
 intro i x q s hd
 obtain⟨_,g2,g3,_⟩:=drop_hd hd
 exact .bv (sfs_evt _ _) (.ite (fun _=>.fo ⟨by omega,by omega⟩) (fun _=>.fg g2))
theorem depth5_ex (hs:List Hit) (f:Form):Ex (fun n=>sp_l5Depth n hs f) (fun _=>True):=by
 unfold sp_l5Depth
 refine .ite (fun _=>.pure trivial) (fun _=>.bind (find4_ex hs f) fun k hk=>.ite (fun _=>.pure trivial) (fun hn=>?_))
 obtain⟨h,hh,_⟩:=elem_ok (l:=hs) (i:=k) (by omega) (by omega)
 exact .bp h hh (.pure trivial)
theorem less5_ex (hs:List Hit) (h:hs.length≤1000000):Ex (fun n=>sp_l5Less n hs) (fun r=>r.length=hs.length):=by
 unfold sp_l5Less
 refine Ex.bind (P:=fun s=>s.length=hs.length) ?_ (fun s hs=>.pure hs)
 refine Ex.forL (I:=fun i q s=>i+q.length=hs.length∧s.length=i) ⟨by simp,rfl⟩ ?_ (fun s h=>h.2)
 rintro i x q s ⟨h1,h2⟩
 simp only[List.length_cons] at h1
 exact Ex.bind (P:=fun _=>True) (.ite (fun _=>.pure trivial) (fun _=>.pure trivial)) (fun o _=>.bp _ (apB_ok (by simp; omega)) (.pure ⟨by omega,by simp; omega⟩))
theorem rows5_ex (hs:List Hit) (f:Form):Ex (fun n=>sp_l5Rows n hs f) (fun _=>True):=by
 refine .succ ?_
 simp only[sp_l5Rows]
 refine .bind (depth5_ex hs f) fun k _=>.ite (fun _=>.pure trivial) (fun _=>?_)
 refine Ex.seqS (P:=fun _=>True) ?_ (fun _ _=>trivial) (fun _ _=>.pure trivial)
 refine Ex.forI (I:=fun i q s=>∀x∈q,x∈f.kids) (fun _ h=>h) ?_ (fun _ _=>trivial)
 intro i x q s h
 have hx:=h x List.mem_cons_self
 exact .bind (rows5_ex hs x) fun k _=>.ite (fun _=>.fo trivial) (fun _=>.fg fun y hy=>h y (List.mem_cons_of_mem _ hy))
termination_by SizeOf.sizeOf f
decreasing_by exact szF_lt hx
theorem is5_ex (f:Form) (hf:smF f) (hs:List Hit) (h:hs.length≤1000000):Ex (fun n=>sp_l5Is n f hs) (fun _=>True):=by
 have hl:=hf.len
 refine .succ ?_
 simp only[sp_l5Is,dots_eq,Option.bind_some]
 refine Ex.bind (P:=fun _=>True) (.ite (fun _=>.pure trivial) (fun _=>.bind (depth5_ex hs f) fun k _=>.pure trivial)) ?_
 intro o _
 refine .ite (fun _=>.pure trivial) (fun _=>?_)
 refine Ex.seqS (P:=fun _=>True) ?_ (fun _ _=>trivial) (fun _ _=>.pure trivial)
 refine Ex.forI (I:=fun i q s=>f.kids.drop i=q) rfl ?_ (fun _ _=>trivial)
 intro i x q s hd
 obtain⟨_,g2,g3,hx⟩:=drop_hd hd
 refine Ex.seqS (P:=fun o=>∀w,o=.inl w→∃b,w=.inl b) ?_ (fun w hw=>?_) (fun _ _=>.fg g2)
 ·refine .ite (fun _=>?_) (fun _=>?_)
  ·refine Ex.bind (P:=fun _=>True) (.ite (fun _=>.pure trivial) (fun h0=>?_)) (fun o _=>.ite (fun _=>.pure (fun w e=>by cases e; exact⟨_,rfl⟩)) (fun _=>.pure (fun w e=>by cases e)))
   obtain⟨y,hy,_⟩:=elem_ok (l:=f.kids) (i:=(i:Int)-1) (by omega) (by omega)
   rw[w64_m (by omega) (by omega)]
   exact .bp y hy (.pure trivial)
  ·refine Ex.bind (P:=fun _=>True) (.ite (fun hc=>?_) (fun _=>.pure trivial)) ?_
   ·obtain⟨y,hy,_⟩:=elem_ok (l:=f.kids) (i:=((i+1:Nat):Int)) (by omega) hc
    exact .bp y hy (.pure trivial)
   intro o _
   refine .ite (fun _=>?_) (fun _=>?_)
   ·refine Ex.bind (P:=fun _=>True) ?_ (fun o _=>.ite (fun _=>.pure (fun w e=>by cases e; exact⟨_,rfl⟩)) (fun _=>.pure (fun w e=>by cases e)))
    exact .bind (rows5_ex hs x) fun k _=>.ite (fun _=>.pure trivial) (fun _=>.bind (less5_ex hs h) fun k hk=>.bind (is5_ex x (hf.kid hx) k (by omega)) fun k _=>.pure trivial)
   ·exact .bind (is5_ex x (hf.kid hx) hs h) fun k _=>.ite (fun _=>.pure (fun w e=>by cases e; exact⟨_,rfl⟩)) (fun _=>.pure (fun w e=>by cases e))
 ·obtain⟨b,rfl⟩:=hw w rfl
  exact⟨fun _ _=>trivial,fun s' e=>by cases e⟩
termination_by SizeOf.sizeOf f
decreasing_by all_goals exact szF_lt hx
theorem shape5_ex (f:Form) (hf:smF f) (ls:List Form):Ex (fun n=>sp_l5Shape n f ls) (fun r=>r.length≤401):=by
 have hc:=hf.2
 have hvl:=vaN_le ls f
 unfold sp_l5Shape
 refine .bind (vars_ex ls f [] (by simp; omega)) fun k1 h1=>.bind (deps_ex ls f [] 0 (by simp; omega)) fun k2 h2=>?_
 simp only[List.length_nil,Nat.zero_add] at h1 h2
 refine Ex.bind (P:=fun s=>s.length≤401) ?_ (fun s hs=>.pure hs)
 refine Ex.forL (I:=fun i q s=>k1.drop i=q∧s.length=i) ⟨rfl,rfl⟩ ?_ (fun s h=>by have:=h.2; omega)
 rintro i x q s ⟨hd,h3⟩
 obtain⟨_,g2,g3,_⟩:=drop_hd hd
 have hi:i<k2.length:=by omega
 refine .bp () (inB_ok (by omega) (by simpa using hi)) (.bp _ (List.getElem?_eq_getElem hi) ?_)
 exact Ex.bind (P:=fun _=>True) (.ite (fun _=>.pure trivial) (fun _=>.pure trivial)) (fun o _=>.bp _ (apB_ok (by simp; omega)) (.pure ⟨g2,by simp; omega⟩))
def ruOK (r:Rule):Prop:=smF r.pattern∧smF r.template
def ruP (r:Rule):Prop:=validF r.pattern=true∧shP r.pattern∧r.pattern.kind=3
theorem rule_ex (r:Rule) (hr:ruOK r) (ls:List Form) (h:liOK ls):Ex (fun n=>sp_l5Rule n r ls) (fun b=>b=true→ruP r):=by
 unfold sp_l5Rule
 refine Ex.bind (P:=fun b=>b=true→ruP r) ?_ (fun b hb=>.pure hb)
 refine .bind (is4_ex r.pattern hr.1 ls h) fun k hk=>.ite (fun h1=>.ite (fun h2=>.ite (fun _=>.bv (sfv_sm hr.2) (.ite (fun _=>?_) (fun _=>.pure (by simp)))) (fun _=>.pure (by simp))) (fun _=>.pure (by simp))) (fun _=>.pure (by simp))
 exact .bind (shape5_ex r.pattern hr.1 ls) fun k8 h8=>.bind (is5_ex r.template hr.2 k8 (by omega)) fun k9 _=>.pure fun _=>⟨(hk h1).1,(hk h1).2,h2⟩
def rsOK (rs:List Rule):Prop:=rs.length≤1000∧∀r∈rs,ruOK r
theorem rules_ex (rs:List Rule) (hr:rsOK rs) (ls:List Form) (h:liOK ls):Ex (fun n=>sp_l5Rules n rs ls) (fun b=>b=true→∀r∈rs,ruP r):=by
 have hl:=hr.1
 unfold sp_l5Rules
 refine Ex.iter (μ:=fun s=>((rs.length:Int)-s).toNat) (I:=fun s=>0≤s∧s≤(rs.length:Int)∧∀i:Nat,(i:Int)<s→∀r,rs[i]? = some r→ruP r) 0 ⟨by omega,by omega,fun i h=>by omega⟩ ?_
 rintro s ⟨h0,h1,h2⟩
 refine Ex.bind (P:=fun o=>(o=true→s<(rs.length:Int))∧(o=false→s=(rs.length:Int)∨10≤s)) (.ite (fun h=>.pure ⟨fun _=>h,fun e=>.inr (by simpa using e)⟩) (fun h=>.pure ⟨by simp,fun _=>.inl (by omega)⟩)) ?_
 rintro o ⟨ho,ho'⟩
 refine .ite (fun hc=>?_) (fun hc=>?_)
 ·have hs:=ho hc
  obtain⟨b,hb,hm⟩:=elem_ok h0 hs
  refine .bp b hb (.bind (rule_ex b (hr.2 b hm) ls h) fun k hk=>.ite (fun _=>.out (by simp)) (fun hk'=>.go ?_ (by rw[w64_1 (by omega) (by omega)]; omega)))
  rw[w64_1 (by omega) (by omega)]
  refine⟨by omega,by omega,fun i hi r hr'=>?_⟩
  by_cases hlt:(i:Int)<s
  ·exact h2 i hlt r hr'
  ·have e:s=(i:Int):=by omega
   rw[e,atI_nat hr'] at hb
   cases hb
   exact hk (by simpa using hk')
 ·refine Ex.bind (P:=fun b=>b=true→(rs.length:Int)<10) (.ite (fun h3=>.bind (lits_ex ls h) fun k _=>.pure fun _=>h3) (fun _=>.pure (by simp))) (fun o8 h8=>.out fun hb r hr'=>?_)
  have h10:=h8 hb
  have he:s=(rs.length:Int):=by rcases ho' (by simpa using hc) with h | h <;> omega
  obtain⟨i,hi,rfl⟩:=List.mem_iff_getElem.1 hr'
  exact h2 i (by omega) _ (List.getElem?_eq_getElem hi)
theorem Ex.tail {A σ:Type} {R:A⊕σ→Prop} {g:Nat→Option ((A⊕σ)⊕σ)} (h:Ex g (fun r=>(∃a,r=.inl (.inl a)∧R (.inl a))∨∃s,r=.inr s∧R (.inr s))):Ex (fun n=>Mx.seqS (g n) (fun s=>some (.inr s))) R:=by
 refine Ex.seqS h (fun w hw=>?_) (fun t ht=>?_)
 ·rcases hw with ⟨a,e,h⟩ | ⟨s,e,_⟩
  ·cases e; exact h
  ·cases e
 ·rcases ht with ⟨a,e,_⟩ | ⟨s,e,h⟩
  ·cases e
  ·cases e; exact .pure h
mutual
def htP:Hit→Prop
 | ⟨_,_,one,many⟩=>smF one∧many.length≤1000∧htPs many
def htPs:List Hit→Prop
 | []=>True
 | x::r=>htP x∧htPs r
end
theorem htP_eq {h:Hit}:htP h↔smF h.one∧h.many.length≤1000∧htPs h.many:=by cases h; simp only[htP]
theorem htPs_iff:∀{l:List Hit},htPs l↔∀x∈l,htP x
 | []=>by simp[htPs]
 | x::r=>by simp[htPs,htPs_iff (l:=r)]
theorem htPs_app {a b:List Hit} (h1:htPs a) (h2:htPs b):htPs (a++b):=htPs_iff.2 fun x hx=>(List.mem_append.1 hx).elim (htPs_iff.1 h1 x) (htPs_iff.1 h2 x)
theorem row4_ex (p:Form) (hc:cF p≤401) (ls:List Form) (rows:List (List Hit)) (hl:rows.length≤1000) (h:∀r∈rows,r.length=vaN ls p∧htPs r):Ex (fun n=>sp_l4Row n p ls rows) (fun r=>r.length=vaN ls p∧htPs r):=by
 have hvl:=vaN_le ls p
 unfold sp_l4Row
 refine .bind (vars_ex ls p [] (by simp; omega)) fun k1 h1=>.bind (deps_ex ls p [] 0 (by simp; omega)) fun k2 h2=>?_
 simp only[List.length_nil,Nat.zero_add] at h1 h2
 refine Ex.bind (P:=fun r=>r.length=vaN ls p∧htPs r) ?_ (fun s hs=>.pure hs)
 refine Ex.forL (I:=fun i q s=>k1.drop i=q∧s.length=i∧htPs s) ⟨rfl,rfl,trivial⟩ ?_ (fun s h=>⟨by rw[h.2.1,h1],h.2.2⟩)
 rintro i x q s ⟨hd,h3,h4⟩
 obtain⟨_,g2,g3,_⟩:=drop_hd hd
 have hi:i<k2.length:=by omega
 refine .bp () (inB_ok (by omega) (by simpa using hi)) (.bp _ (List.getElem?_eq_getElem hi) ?_)
 refine Ex.bind (P:=fun t=>t.length=rows.length∧htPs t) ?_ ?_
 ·refine Ex.forL (I:=fun j q t=>(∀r∈q,r∈rows)∧j+q.length=rows.length∧t.length=j∧htPs t) ⟨fun _ h=>h,by simp,rfl,trivial⟩ ?_ (fun t h=>⟨h.2.2.1,h.2.2.2⟩)
  rintro j y q' t ⟨t1,t2,t3,t4⟩
  simp only[List.length_cons] at t2
  obtain⟨y1,y2⟩:=h y (t1 y List.mem_cons_self)
  obtain⟨e,he,hm⟩:=elem_ok (l:=y) (i:=(i:Int)) (by omega) (by omega)
  exact .bp e he (.bp _ (apB_ok (by simp; omega)) (.pure ⟨fun r hr=>t1 r (List.mem_cons_of_mem _ hr),by omega,by simp; omega,htPs_app t4 ⟨htPs_iff.1 y2 e hm,trivial⟩⟩))
 ·rintro t ⟨t1,t2⟩
  refine .bp _ (apB_ok (by simp; omega)) (.pure ⟨g2,by simp; omega,htPs_app h4 ⟨htP_eq.2 ⟨smZ,by simp only; omega,t2⟩,trivial⟩⟩)
theorem countP_uniq {p:Form→Bool}:∀{l:List Form},l.countP p≤1→∀{i j:Nat} {x y:Form},l[i]? = some x→l[j]? = some y→p x=true→p y=true→i=j
 | [],_,i,j,x,y,h,_,_,_=>by simp at h
 | a::l,hc,i,j,x,y,hi,hj,hx,hy=>by
  rw[List.countP_cons] at hc
  have z:∀{k:Nat} {z:Form},l[k]? = some z→p z=true→p a=false∧l.countP p≤1:=fun {k z} hk hz=>by
   have:0<l.countP p:=List.countP_pos_iff.2 ⟨z,List.mem_of_getElem? hk,hz⟩
   cases ha:p a with
   | true=>rw[ha,if_pos rfl] at hc; omega
   | false=>exact⟨rfl,by omega⟩
  cases i with
  | zero=>
   cases j with
   | zero=>rfl
   | succ j=>
    simp at hi hj; subst hi
    rw[(z hj hy).1] at hx; cases hx
  | succ i=>
   cases j with
   | zero=>
    simp at hi hj; subst hj
    rw[(z hi hx).1] at hy; cases hy
   | succ j=>
    simp at hi hj
    rw[countP_uniq (z hi hx).2 hi hj hx hy]
def mtR (ls:List Form) (v:Nat) (r:List Hit×Bool):Prop:=r.2=true→r.1.length=v∧htPs r.1
theorem list4_ex (bs:List Bind) (ls:List Form) (ps fs:List Form) (hcs:cFs ps≤400) (hk:∀x∈ps,dotF x=true→x.kids=[]) (hfs:∀x∈fs,smF x) (hfl:fs.length≤400) (hd0:∀x,ps.head? = some x→dotF x=false) (hd1:ps.countP dotF≤1) (hm:∀x∈ps,dotF x=false→∀f,smF f→Ex (fun n=>sp_l4Match n bs x ls f) (mtR ls (vaN ls x))):Ex (fun n=>sp_l4List n bs ps ls fs) (mtR ls (vaNs ls ps)):=by
 have hpl:=cFs_len ps
 refine .succ ?_
 simp only[sp_l4List,dots_eq,Option.bind_some]
 refine Ex.iter (μ:=fun s=>((ps.length:Int)-s.2).toNat) (I:=fun s=>0≤s.2∧s.2≤(ps.length:Int)∧(∃j:Nat,s.2=(j:Int)∧((s.1=-1∧∀k x,k≤j→ps[k]? = some x→dotF x=false)∨∃r:Nat,s.1=(r:Int)∧∃x,ps[r+1]? = some x∧dotF x=true))) ((-1),0) ⟨by simp,by simp,0,rfl,.inl ⟨rfl,fun k x hk hx=>hd0 x ?_⟩⟩ ?_
 ·obtain rfl:k=0:=by omega
  rw[List.head?_eq_getElem?]; exact hx
 rintro ⟨row,i⟩ ⟨h0,h1,j,hj,hrow⟩
 simp only at h0 h1 hj hrow ⊢
 subst hj
 rw[w64_1 (by omega) (by omega)]
 refine .ite (fun hlt=>?_) (fun hge=>?_)
 ·obtain⟨e,he,_⟩:=elem_ok (l:=ps) (i:=(j:Int)+1) (by omega) hlt
  have hg:ps[j+1]? = some e:=by
   have hv:j+1<ps.length:=by omega
   have:=atI_nat (List.getElem?_eq_getElem hv)
   rw[show((j+1:Nat):Int)=(j:Int)+1 by omega,he] at this
   rw[List.getElem?_eq_getElem hv,← Option.some.inj this]
  refine Ex.bind (P:=fun o=>(dotF e=true∧o=(j:Int))∨(dotF e=false∧o=row)) (.bp e he (.ite (fun h=>.pure (.inl ⟨h,rfl⟩)) (fun h=>.pure (.inr ⟨by simpa using h,rfl⟩)))) ?_
  intro o ho
  refine .fg ⟨⟨?_,?_,j+1,?_,?_⟩,?_⟩
  ·try simp only
   omega
  ·try simp only
   omega
  ·try simp only
   omega
  rotate_left
  ·try simp only
   omega
  rcases ho with ⟨hd,rfl⟩ | ⟨hd,rfl⟩
  ·exact .inr ⟨j,rfl,e,hg,hd⟩
  ·rcases hrow with ⟨hr,ha⟩ | hr
   ·refine .inl ⟨hr,fun k x hk hx=>?_⟩
    rcases Nat.lt_or_ge j k with hlt | hle
    ·obtain rfl:k=j+1:=by omega
     rw[hg] at hx; cases hx; exact hd
    ·exact ha k x hle hx
   ·exact .inr hr
 ·refine Ex.bind (P:=fun o=>o=false→(row<0→(ps.length:Int)=(fs.length:Int))∧(row≥0→(fs.length:Int)≥(ps.length:Int)-2)) ?_ ?_
  ·have hw:w64 ((ps.length:Int)-2)=(ps.length:Int)-2:=w_id (by omega) (by omega)
   rw[hw]
   refine .ite (fun hn=>?_) (fun hn=>?_)
   ·refine .ite (fun _=>.pure (by simp)) (fun he=>?_)
    exact .neg (by omega) (.pure fun _=>⟨fun _=>by omega,fun h=>by omega⟩)
   ·exact .pos (by omega) (Ex.pure (v:=decide ((fs.length:Int)<(ps.length:Int)-2)) fun e=>⟨fun h=>by omega,fun _=>by have e:=of_decide_eq_false e; omega⟩)
  intro o9 ho9
  refine .ite (fun _=>.fo (fun h=>by cases h)) (fun hc9=>?_)
  obtain⟨hA,hB⟩:=ho9 (by simpa using hc9)
  have hw:w64 ((ps.length:Int)-2)=(ps.length:Int)-2:=w_id (by omega) (by omega)
  have hw2:w64 ((fs.length:Int)-((ps.length:Int)-2))=(fs.length:Int)-((ps.length:Int)-2):=w_id (by omega) (by omega)
  rw[hw,hw2]
  have hnd:∀k x,ps[k]? = some x→dotF x=true→∃r:Nat,row=(r:Int)∧k=r+1:=by
   intro k x hx hd
   rcases hrow with ⟨hr,ha⟩ | ⟨r,hr,y,hy,hdy⟩
   ·have:k<ps.length:=(List.getElem?_eq_some_iff.1 hx).1
    rw[ha k x (by omega) hx] at hd; cases hd
   ·exact⟨r,hr,countP_uniq hd1 hx hy hd hdy⟩
  have hrr:row<0∨∃r:Nat,row=(r:Int)∧r+1<ps.length∧∃x,ps[r+1]? = some x∧dotF x=true:=by
   rcases hrow with ⟨hr,ha⟩ | ⟨r,hr,y,hy,hdy⟩
   ·exact .inl (by omega)
   ·exact .inr ⟨r,hr,(List.getElem?_eq_some_iff.1 hy).1,y,hy,hdy⟩
  refine Ex.seqS (P:=fun o=>match o with
   | .inl w=>∃h:List Hit,w=.inl (h,false)
   | .inr s=>s.1.length=vaNs ls ps∧htPs s.1) ?_ ?_ ?_
  ·refine Ex.forI (I:=fun i q s=>ps.drop i=q∧s.1.length+vaNs ls q=vaNs ls ps∧htPs s.1∧((row<0→s.2=(i:Int))∧∀r:Nat,row=(r:Int)→(i≤r→s.2=(i:Int))∧(r+2≤i→s.2=(i:Int)-2+((fs.length:Int)-((ps.length:Int)-2)))∧(i=r+1→s.2=(r:Int)+((fs.length:Int)-((ps.length:Int)-2))))) ⟨rfl,by simp,trivial,fun _=>rfl,fun r _=>⟨fun _=>rfl,fun h=>by omega,fun h=>by omega⟩⟩ ?_ (fun s h=>⟨by simpa [vaNs] using h.2.1,h.2.2.1⟩)
   rintro i x q ⟨hs,at_⟩ ⟨hd,s1,s2,s3,s4⟩
   obtain⟨g1,g2,g3,g4⟩:=drop_hd hd
   simp only[vaNs] at s1 s3 s4 ⊢
   have hvs:vaNs ls ps≤400:=Nat.le_trans (vaNs_le ls ps) hcs
   have hcx:=cFs_mem g4
   refine Ex.tail ?_
   refine .ite (fun hdx=>.pure (.inr ⟨_,rfl,fun w e=>by(cases e),fun s' e=>?_⟩)) (fun hdx=>?_)
   ·cases e
    obtain⟨r,hr,hir⟩:=hnd i x g1 hdx
    have hv:vaN ls x=0:=by
     rw[vaN_eq,hk x g4 hdx]
     have:isV ls x=false:=by
      unfold dotF at hdx; unfold isV
      simp only[Bool.and_eq_true,decide_eq_true_eq] at hdx
      simp[hdx.2]
     simp[this,vaNs]
    refine⟨g2,by simp only; omega,s2,fun h=>by omega,fun r' hr'=>⟨fun h=>by omega,fun h=>?_,fun h=>by omega⟩⟩
    have:=(s4 r hr).2.2 hir
    simp only; omega
   have hdx:dotF x=false:=by simpa using hdx
   refine .ite (fun hir=>?_) (fun hir=>?_)
   ·have hat:0≤at_∧at_<(fs.length:Int)∧(row<0→at_=(i:Int)):=by
     refine⟨?_,?_,fun h=>s3 h⟩
     ·rcases hrr with h | ⟨r,hr,hr2,y,hy,hdy⟩
      ·rw[s3 h]; omega
      ·have hB:=hB (by omega)
       obtain⟨a1,a2,a3⟩:=s4 r hr
       rcases Nat.lt_or_ge r i with hlt | hle
       ·rcases Nat.lt_or_ge (r+1) i with hl2 | hl2
        ·rw[a2 hl2]; omega
        ·rw[a3 (by omega)]; omega
       ·rw[a1 hle]; omega
     ·rcases hrr with h | ⟨r,hr,hr2,y,hy,hdy⟩
      ·have:=hA h; rw[s3 h]; omega
      ·have hB:=hB (by omega)
       obtain⟨a1,a2,a3⟩:=s4 r hr
       rcases Nat.lt_or_ge r i with hlt | hle
       ·rcases Nat.lt_or_ge (r+1) i with hl2 | hl2
        ·rw[a2 hl2]; omega
        ·obtain rfl:i=r+1:=by omega
         rw[g1] at hy; cases hy
         rw[hdy] at hdx; cases hdx
       ·rw[a1 hle]; omega
    obtain⟨e,he,hem⟩:=elem_ok hat.1 hat.2.1
    refine .bp e he (.bind (hm x g4 hdx e (hfs e hem)) fun k24 hk24=>?_)
    refine .ite (fun _=>.pure (.inl ⟨_,rfl,fun w e=>by cases e; exact⟨_,rfl⟩,fun s' e=>by cases e⟩)) (fun hk2=>?_)
    obtain⟨m1,m2⟩:=hk24 (by simpa using hk2)
    refine .bp _ (apB_ok (by omega)) (.pure (.inr ⟨_,rfl,fun w e=>by(cases e),fun s' e=>?_⟩))
    cases e
    rw[w64_1 hat.1 (by omega)]
    refine⟨g2,by simp only[List.length_append]; omega,htPs_app s2 m2,fun h=>?_,fun r hr=>?_⟩
    ·have:=s3 h; simp only; omega
    ·obtain⟨a1,a2,a3⟩:=s4 r hr
     have hne:i≠r:=fun e=>hir (by rw[hr,e])
     have hne2:i≠r+1:=fun e=>by
      rcases hrr with h | ⟨r',hr',hr2,y,hy,hdy⟩
      ·omega
      ·obtain rfl:r=r':=by omega
       rw[← e,g1] at hy; cases hy
       rw[hdy] at hdx; cases hdx
     simp only
     exact⟨fun h=>by have:=a1 (by omega); omega,fun h=>by have:=a2 (by omega); omega,fun h=>by omega⟩
   ·have hir:(i:Int)=row:=by simpa using hir
    have ha:=(s4 i hir.symm).1 (Nat.le_refl i)
    have hB:=hB (by omega)
    have hi2:i+1<ps.length:=by
     rcases hrr with h | ⟨r,hr,hr2,y,hy,hdy⟩
     ·omega
     ·omega
    subst ha
    refine Ex.iter (μ:=fun s=>s.2.2.toNat) (I:=fun s=>0≤s.2.2∧s.1+s.2.2=(i:Int)+((fs.length:Int)-((ps.length:Int)-2))∧(i:Int)≤s.1∧(s.2.1.length:Int)=s.1-(i:Int)∧∀r∈s.2.1,r.length=vaN ls x∧htPs r) _ ⟨by simp only; omega,by simp only,by simp only; omega,by simp,by simp⟩ ?_
    rintro ⟨a,rows,c⟩ ⟨c1,c2,c3,c4,c5⟩
    simp only at c1 c2 c3 c4 c5 ⊢
    refine .ite (fun hc=>?_) (fun hc=>?_)
    ·obtain⟨e,he,hem⟩:=elem_ok (l:=fs) (i:=a) (by omega) (by omega)
     refine .bp e he (.bind (hm x g4 hdx e (hfs e hem)) fun k32 hk32=>?_)
     refine .ite (fun _=>.fo (.inl ⟨_,rfl,fun w e=>by cases e; exact⟨_,rfl⟩,fun s' e=>by cases e⟩)) (fun hk2=>?_)
     have hk32:=hk32 (by simpa using hk2)
     refine .bp _ (apB_ok (by simp; omega)) (.fg ⟨?_,by simp only; rw[w64_m (by omega) (by omega)]; omega⟩)
     simp only
     rw[w64_1 (by omega) (by omega),w64_m (by omega) (by omega)]
     refine⟨by omega,by omega,by omega,by simp; omega,fun r hr=>?_⟩
     rcases List.mem_append.1 hr with hr | hr
     ·exact c5 r hr
     ·rw[List.mem_singleton.1 hr]; exact hk32
    ·refine .bind (row4_ex x (by omega) ls rows (by omega) c5) fun k35 hk35=>.bp _ (apB_ok (by omega)) (.fo (.inr ⟨_,rfl,fun w e=>by(cases e),fun s' e=>?_⟩))
     cases e
     refine⟨g2,by simp only[List.length_append]; omega,htPs_app s2 hk35.2,fun h=>by omega,fun r hr=>?_⟩
     obtain rfl:i=r:=by omega
     exact⟨fun h=>by omega,fun h=>by omega,fun _=>by simp only; omega⟩
  ·rintro w ⟨h,rfl⟩
   exact⟨fun w e=>by cases e; simp[mtR],fun s' e=>by cases e⟩
  ·rintro s ⟨h1,h2⟩
   exact .fo fun _=>⟨h1,h2⟩
theorem match4_ex (bs:List Bind) (hb:bs.length≤1000000) (ls:List Form) (p:Form) (hv:∃d,fmB d p=true) (hsh:shP p) (hp:cF p≤401) (f:Form) (hf:smF f):Ex (fun n=>sp_l4Match n bs p ls f) (mtR ls (vaN ls p)):=by
 obtain⟨d,hv⟩:=hv
 obtain⟨e,_,v1,v2,v3,v4,v5⟩:=fmB_parts hv
 obtain⟨q1,q2,q3,q4⟩:=shP_eq.1 hsh
 have he:=cF_eq p
 refine .succ ?_
 simp only[sp_l4Match]
 refine .ite (fun h1=>?_) (fun h1=>?_)
 ·have hkn:=v3 (.inl h1)
  have hva:vaN ls p=if isV ls p=true then 1 else 0:=by rw[vaN_eq,hkn]; simp[vaNs]
  refine .ite (fun h2=>.pure fun _=>⟨?_,trivial⟩) (fun h2=>.bv (in_evt ls p) (.ite (fun h3=>?_) (fun h3=>?_)))
  ·rw[hva]; simp[isV,h2]
  ·exact Ex.bind (P:=fun _=>True) (.ite (fun _=>.bind (same3_ex bs hb p f) fun k _=>.pure trivial) (fun _=>.pure trivial)) (fun o _=>.pure fun _=>⟨by rw[hva]; simp[isV,h3],trivial⟩)
  ·refine .bp _ (apB_ok (by simp)) (.pure fun _=>⟨?_,htP_eq.2 ⟨hf,by simp,trivial⟩,trivial⟩)
   have hn:¬p.name=[46,46,46]:=fun e=>by
    unfold dotF at q1
    simp[h1,e] at q1
   rw[hva]; simp[isV,h1,h2,h3,hn]
 ·have hva:vaN ls p=vaNs ls p.kids:=by rw[vaN_eq]; simp[isV,h1]
  refine .ite (fun h2=>.bv (sfs_evt p f) (.pure fun _=>⟨?_,trivial⟩)) (fun h2=>.ite (fun _=>.pure (by simp[mtR])) (fun _=>?_))
  ·rw[hva,v3 (.inr h2)]; rfl
  ·rw[hva]
   refine .bind (list4_ex bs ls p.kids f.kids (by omega) (fun x hx hd=>?_) (fun x hx=>hf.kid hx) hf.len q3 q4 (fun x hx hd g hg=>match4_ex bs hb ls x ⟨e,v5 x hx⟩ (shPs_iff.1 q2 x hx hd) (by have:=cFs_mem hx; omega) g hg)) fun k hk=>.pure hk
   obtain⟨_,_,_,_,w3,_,_⟩:=fmB_parts (v5 x hx)
   unfold dotF at hd
   simp only[Bool.and_eq_true,decide_eq_true_eq] at hd
   exact w3 (.inl hd.1)
termination_by SizeOf.sizeOf p
decreasing_by exact szF_lt hx
mutual
def usF (v:Form):Form→Bool
 | ⟨k,nm,n,sc,kids⟩=>(decide (k=1)&&sameF ⟨k,nm,n,sc,kids⟩ v)||usFs v kids
def usFs (v:Form):List Form→Bool
 | []=>false
 | x::r=>usF v x||usFs v r
end
theorem usF_eq (v f:Form):usF v f=((decide (f.kind=1)&&sameF f v)||usFs v f.kids):=by cases f; simp only[usF]
theorem usFs_any (v:Form):∀l:List Form,usFs v l=l.any (usF v)
 | []=>rfl
 | x::r=>by simp only[usFs,List.any_cons,usFs_any v r]
theorem uses_evt (f v:Form):Evt (fun n=>sp_l5Uses n f v) (usF v f):=by
 refine .succ ?_
 simp only[sp_l5Uses]
 rw[usF_eq,usFs_any]
 refine Ex.evt ?_
 refine Ex.bind (P:=fun o=>o=(decide (f.kind=1)&&sameF f v)) (.ite (fun h=>.bv (sfs_evt f v) (.pure (by simp[h]))) (fun h=>.pure (by simp[h]))) ?_
 rintro o rfl
 cases (decide (f.kind=1)&&sameF f v) with
 | true=>exact .pos rfl (.pure rfl)
 | false=>
  refine .neg (by simp) ?_
  simp only[Bool.false_or]
  exact Ex.anyI (m:=fun n x=>sp_l5Uses n x v) (p:=usF v) (fun x hx=>uses_evt x v) (fun h=>h.symm) (fun h=>.pure h.symm)
termination_by SizeOf.sizeOf f
decreasing_by exact szF_lt hx
theorem count_ex (f:Form) (hs:List Hit) (hh:htPs hs) (hl:hs.length≤1000):Ex (fun n=>sp_l5Count n f hs) (fun r=>r≤1000∧(0≤r→∀h∈hs,¬h.depth=0→usF h.name f=true→r=(h.many.length:Int))):=by
 unfold sp_l5Count
 refine Ex.iter (μ:=fun s=>((hs.length:Int)-s.2).toNat) (I:=fun s=>0≤s.2∧s.2≤(hs.length:Int)∧-1≤s.1∧s.1≤1000∧∀(j:Nat) h,(j:Int)<s.2→hs[j]? = some h→¬h.depth=0→usF h.name f=true→s.1=(h.many.length:Int)) ((-1),0) ⟨by simp,by simp,by simp,by simp,fun j h hj=>by simp only at hj; omega⟩ ?_
 rintro ⟨c,i⟩ ⟨h0,h1,h2,h3,h4⟩
 simp only at h0 h1 h2 h3 h4 ⊢
 refine .ite (fun hlt=>?_) (fun hge=>?_)
 ·obtain⟨e,he,hem⟩:=elem_ok h0 hlt
  have hml:=(htP_eq.1 (htPs_iff.1 hh e hem)).2.1
  have hg:∀(j:Nat) h,¬(j:Int)<i→(j:Int)<i+1→hs[j]? = some h→h=e:=fun j h hn hj hx=>by
   obtain rfl:i=(j:Int):=by omega
   rw[atI_nat hx] at he; exact Option.some.inj he
  refine Ex.seqS (P:=fun(o:(Int⊕(Int×Int))⊕Int)=>match o with
   | .inl w=>w=.inl (-1)
   | .inr c'=>-1≤c'∧c'≤1000∧∀(j:Nat) h,(j:Int)<i+1→hs[j]? = some h→¬h.depth=0→usF h.name f=true→c'=(h.many.length:Int)) ?_ ?_ ?_
  ·refine Ex.bind (P:=fun o=>o=true↔(e.depth=0∨usF e.name f=false)) (.bp e he (.ite (fun hd=>Ex.pure (v:=true) ⟨fun _=>.inl hd,fun _=>rfl⟩) (fun hd=>.bv (uses_evt f e.name) (Ex.pure (v:=!usF e.name f) ⟨fun h=>.inr (by simpa using h),fun h=>h.elim (fun h=>absurd h hd) (fun h=>by simp[h])⟩)))) ?_
   intro o6 ho6
   refine .ite (fun hc6=>.pure ⟨h2,h3,fun j h hj hx hd hu=>?_⟩) (fun hc6=>?_)
   ·by_cases hji:(j:Int)<i
    ·exact h4 j h hji hx hd hu
    ·obtain rfl:=hg j h hji hj hx
     rcases ho6.1 hc6 with h | h
     ·exact absurd h hd
     ·rw[h] at hu; cases hu
   ·have hn:¬e.depth=0∧usF e.name f=true:=by
     constructor
     ·intro h; exact hc6 (ho6.2 (.inl h))
     ·cases hu:usF e.name f with
      | true=>rfl
      | false=>exact absurd (ho6.2 (.inr hu)) hc6
    refine Ex.bind (P:=fun o=>o=false→c<0∨c=(e.many.length:Int)) (.ite (fun hc0=>.bp e he (Ex.pure (v:=decide (¬c=(e.many.length:Int))) fun h=>.inr (by have h:=of_decide_eq_false h; omega))) (fun hc0=>.pure fun _=>.inl (by omega))) ?_
    intro o8 ho8
    refine .ite (fun _=>.pure rfl) (fun hc8=>.bp e he (.pure ⟨by omega,by omega,fun j h hj hx hd hu=>?_⟩))
    by_cases hji:(j:Int)<i
    ·have:=h4 j h hji hx hd hu
     rcases ho8 (by simpa using hc8) with h | h <;> omega
    ·obtain rfl:=hg j h hji hj hx
     rfl
  ·rintro w rfl
   exact⟨fun w e=>by cases e; exact⟨by omega,fun h=>by omega⟩,fun s' e=>by cases e⟩
  ·rintro c' ⟨q1,q2,q3⟩
   rw[w64_1 h0 (by omega)]
   exact .fg ⟨⟨by simp only; omega,by simp only; omega,q1,q2,q3⟩,by simp only; omega⟩
 ·refine .fo ⟨h3,fun _ h hm=>?_⟩
  obtain⟨j,hj,rfl⟩:=List.mem_iff_getElem.1 hm
  exact h4 j _ (by omega) (List.getElem?_eq_getElem hj)
theorem nth_ex (f:Form) (hs:List Hit) (hh:htPs hs) (hl:hs.length≤1000) (i:Int) (h0:0≤i) (hi:∀h∈hs,h.depth>0→usF h.name f=true→i<(h.many.length:Int)):Ex (fun n=>sp_l5Nth n f hs i) (fun r=>r.length=hs.length∧htPs r):=by
 unfold sp_l5Nth
 refine Ex.iter (μ:=fun s=>((hs.length:Int)-s.2).toNat) (I:=fun s=>0≤s.2∧s.2≤(hs.length:Int)∧(s.1.length:Int)=s.2∧htPs s.1) ([],0) ⟨by simp,by simp,by simp,by simp[htPs]⟩ ?_
 rintro ⟨s,j⟩ ⟨s0,s1,s2,s3⟩
 simp only at s0 s1 s2 s3 ⊢
 refine .ite (fun hlt=>?_) (fun hge=>.fo ⟨by omega,s3⟩)
 obtain⟨e,he,hem⟩:=elem_ok s0 hlt
 have hp:=htPs_iff.1 hh e hem
 refine .bp e he (Ex.bind (P:=fun o=>o=true→e.depth>0∧usF e.name f=true) (.ite (fun hd=>.bv (uses_evt f e.name) (.pure fun h=>⟨hd,h⟩)) (fun _=>.pure (by simp))) fun o6 ho6=>?_)
 refine Ex.bind (P:=fun o=>htP o) (.ite (fun hc=>?_) (fun _=>.pure hp)) fun o7 ho7=>.bp _ (apB_ok (by simp; omega)) (.fg ⟨⟨?_,?_,?_,htPs_app s3 ⟨ho7,trivial⟩⟩,?_⟩)
 ·obtain⟨g1,g2⟩:=ho6 hc
  obtain⟨z,hz,hzm⟩:=elem_ok h0 (hi e hem g1 g2)
  exact .bp z hz (.pure (htPs_iff.1 (htP_eq.1 hp).2.2 z hzm))
 all_goals
  simp only
  rw[w64_1 (by omega) (by omega)]
  try simp only[List.length_append,List.length_cons,List.length_nil]
  omega
theorem cFs_app:∀{a b:List Form},cFs (a++b)=cFs a+cFs b
 | [],b=>by simp[cFs]
 | x::r,b=>by simp only[List.cons_append,cFs,cFs_app (a:=r)]; omega
theorem fill_ex (p:Form) (hp:smF p) (hs:List Hit) (hh:htPs hs) (hl:hs.length≤1000):Ex (fun n=>sp_l5Fill n p hs) (fun r=>smF r.1):=by
 have hlk:=hp.len
 obtain⟨p1,p2,p3⟩:=thF_eq.1 hp.1
 refine .succ ?_
 simp only[sp_l5Fill,dots_eq,Option.bind_some]
 refine Ex.bind (P:=fun o=>o=-1∨0≤o∧o<(hs.length:Int)) (.ite (fun _=>.bind (find4_ex hs p) fun k hk=>.pure hk) (fun _=>.pure (.inl rfl))) ?_
 intro o ho
 refine .ite (fun h0=>?_) (fun _=>.bp _ (apB_nil (by omega)) ?_)
 ·obtain⟨e,he,hem⟩:=elem_ok (l:=hs) (i:=o) h0 (by omega)
  have hone:=(htP_eq.1 (htPs_iff.1 hh e hem)).1
  exact .bp e he (.bv (scf_sm hone) (.pure hone))
 refine Ex.seqS (P:=fun r=>match r with
  | .inl w=>w=(p,false)
  | .inr s=>cFs s.2≤400∧thFs 26 s.2) ?_ (fun w h=>by have h:w=(p,false):=h; rw[h]; exact hp) (fun s h=>.pure ⟨thF_eq.2 ⟨p1,p2,h.2⟩,by have:=h.1; rw[cF_eq]; simp only; omega⟩)
 refine Ex.forI (I:=fun i q s=>p.kids.drop i=q∧s.1=(cFs s.2:Int)∧cFs s.2≤400∧thFs 26 s.2) ⟨rfl,rfl,by simp[cFs],trivial⟩ ?_ (fun s h=>⟨h.2.2.1,h.2.2.2⟩)
 rintro i x q ⟨sum,out⟩ ⟨hd,h1,h2,h3⟩
 simp only at h1 h2 h3 ⊢
 obtain⟨_,g2,g3,hx⟩:=drop_hd hd
 refine Ex.tail ?_
 refine .ite (fun _=>.pure (.inr ⟨_,rfl,fun w e=>by(cases e),fun s' e=>by cases e; exact⟨g2,h1,h2,h3⟩⟩)) (fun _=>?_)
 refine Ex.bind (P:=fun _=>True) (.ite (fun hc=>?_) (fun _=>.pure trivial)) ?_
 ·obtain⟨y,hy,_⟩:=elem_ok (l:=p.kids) (i:=((i+1:Nat):Int)) (by omega) hc
  exact .bp y hy (.pure trivial)
 intro o18 _
 refine Ex.bind (P:=fun c=>c≤1000∧(o18=true→0≤c→∀h∈hs,¬h.depth=0→usF h.name x=true→c=(h.many.length:Int))) (.ite (fun _=>.bind (count_ex x hs hh hl) fun k hk=>.pure ⟨hk.1,fun _=>hk.2⟩) (fun hn=>.pure ⟨by omega,fun h=>absurd h hn⟩)) ?_
 rintro c ⟨c1,c2⟩
 refine .ite (fun _=>.pure (.inl ⟨_,rfl,fun w e=>by cases e; rfl,fun s' e=>by cases e⟩)) (fun hc0=>?_)
 refine Ex.iter (μ:=fun s=>(c-s.2.1).toNat) (I:=fun s=>0≤s.2.1∧s.2.1≤c∧s.1=(cFs s.2.2:Int)∧cFs s.2.2≤400∧thFs 26 s.2.2) _ ⟨by simp,by simp only; omega,h1,h2,h3⟩ ?_
 rintro ⟨t,m,w⟩ ⟨m0,m1,t1,t2,t3⟩
 simp only at m0 m1 t1 t2 t3 ⊢
 refine .ite (fun hlt=>?_) (fun _=>.fo (.inr ⟨_,rfl,fun w e=>by(cases e),fun s' e=>by cases e; exact⟨g2,t1,t2,t3⟩⟩))
 refine Ex.bind (P:=fun r=>r.length=hs.length∧htPs r) (.ite (fun h18=>?_) (fun _=>.pure ⟨rfl,hh⟩)) ?_
 ·exact .bind (nth_ex x hs hh hl m m0 (fun h hm hd hu=>by have:=c2 h18 (by omega) h hm (by omega) hu; omega)) fun k hk=>.pure hk
 rintro hs' ⟨l1,l2⟩
 refine .bind (fill_ex x (hp.kid hx) hs' l2 (by omega)) fun k25 hk25=>.bv (sct_sm hk25) ?_
 have hc25:=hk25.2
 have hwl:=cFs_len w
 rw[t1,w_id (by omega) (by omega)]
 refine Ex.bind (P:=fun o=>o=false→(cFs w:Int)+(cF k25.1:Int)≤400) (.ite (fun _=>.pure (by simp)) (fun _=>.pure fun e=>by have e:=of_decide_eq_false e; omega)) ?_
 intro o27 ho27
 refine .ite (fun _=>.fo (.inl ⟨_,rfl,fun w e=>by cases e; rfl,fun s' e=>by cases e⟩)) (fun hc27=>?_)
 have hle:=ho27 (by simpa using hc27)
 have hap:cFs (w++[k25.1])=cFs w+cF k25.1:=by rw[cFs_app]; simp[cFs]
 rw[w64_1 m0 (by omega)]
 exact .bp _ (apB_ok (by simp; omega)) (.fg ⟨⟨by simp only; omega,by simp only; omega,by simp only[hap]; omega,by simp only[hap]; omega,thFs_app t3 ⟨hk25.1,trivial⟩⟩,by simp only; omega⟩)
termination_by SizeOf.sizeOf p
decreasing_by exact szF_lt hx
theorem own_evt (f:Form) (hw:wF f≤1000000000):Evt (fun n=>sp_l15OwnForm n f) f:=by
 have he:=wF_eq f
 refine .succ ?_
 simp only[sp_l15OwnForm]
 refine Ex.evt (.bp _ (apB_nil (by omega)) (.bv (a:=f.kids) ?_ (.pure (by cases f; rfl))))
 refine .succ ?_
 simp only[sp_l15OwnListForm]
 refine Ex.evt (.bv (copyA_ev (m:=fun n x=>sp_l15OwnForm n x) (be:=80) (by omega) (fun x hx=>own_evt x (by have:=wFs_mem hx; omega))) (.pure rfl))
termination_by SizeOf.sizeOf f
decreasing_by exact szF_lt hx
theorem ownR_evt (rs:List Rule) (h:rsOK rs):Evt (fun n=>sp_l15OwnListRule n rs) rs:=by
 have hl:=h.1
 unfold sp_l15OwnListRule
 refine Ex.evt (.bv (copyA_ev (m:=fun n x=>sp_l15OwnRule n x) (be:=160) (by omega) (fun x hx=>?_)) (.pure rfl))
 obtain⟨h1,h2⟩:=h.2 x hx
 unfold sp_l15OwnRule
 exact Ex.evt (.bv (own_evt _ (by have:=h1.w; omega)) (.bv (own_evt _ (by have:=h2.w; omega)) (.pure rfl)))
theorem first_ex (bs:List Bind) (hb:bsOK bs) (rs:List Rule) (hr:rsOK rs) (ls:List Form) (hl:liOK ls) (f:Form) (hf:smF f):Ex (fun n=>sp_FirstRule n bs rs ls f) (fun r=>r.2=true→0≤r.1∧r.1<(rs.length:Int)∧(∀r∈rs,ruP r)∧∀e,atI rs r.1=some e→∃k,Evt (fun n=>sp_l4Match n bs e.pattern ls f) k∧mtR ls (vaN ls e.pattern) k∧k.2=true):=by
 have hbl:=hb.1
 unfold sp_FirstRule
 refine Ex.bind (P:=fun o=>o=false→∀r∈rs,ruP r) (.bind (bval_ex bs hb) fun k _=>.ite (fun _=>.pure (by simp)) (fun _=>.bind (rules_ex rs hr ls hl) fun k hk=>.ite (fun _=>.pure (by simp)) (fun hk'=>.bv (sfv_sm hf) (.pure fun _=>hk (by simpa using hk'))))) ?_
 intro o ho
 refine .ite (fun _=>.pure (by simp)) (fun hc=>?_)
 have hp:=ho (by simpa using hc)
 refine Ex.seqS (P:=fun o=>match o with
  | .inl w=>0≤w.1∧w.1<(rs.length:Int)∧∀e,atI rs w.1=some e→∃k,Evt (fun n=>sp_l4Match n bs e.pattern ls f) k∧mtR ls (vaN ls e.pattern) k∧k.2=true
  | .inr _=>True) ?_ (fun w h _=>⟨h.1,h.2.1,hp,h.2.2⟩) (fun _ _=>.pure (by simp))
 refine Ex.forI (I:=fun i q s=>rs.drop i=q) rfl ?_ (fun _ _=>trivial)
 intro i x q s hd
 obtain⟨g1,g2,g3,hx⟩:=drop_hd hd
 obtain⟨q1,q2,q3⟩:=hp x hx
 have hv:=smF_of q1
 unfold validF at q1
 rw[Bool.and_eq_true] at q1
 obtain⟨k,k1,k2⟩:=match4_ex bs (by omega) ls x.pattern ⟨40,q1.1⟩ q2 (by have:=hv.2; omega) f hf
 refine .bv k1 (.ite (fun hk=>.fo ⟨by simp only; omega,by simp only; omega,fun e he=>?_⟩) (fun _=>.fg g2))
 rw[atI_nat ‹rs[i]? = some x›] at he
 cases he
 exact⟨k,k1,k2,hk⟩
theorem apply_ex (bs:List Bind) (hb:bsOK bs) (rs:List Rule) (hr:rsOK rs) (ls:List Form) (hl:liOK ls) (f:Form) (hf:smF f):Ex (fun n=>sp_ApplyRules n bs rs ls f) (fun r=>r.2=true→validF r.1=true):=by
 have hbl:=hb.1
 unfold sp_ApplyRules
 refine .bv (ownR_evt rs hr) (.bind (first_ex bs hb rs hr ls hl f hf) fun k2 hk2=>.ite (fun _=>.pure (by simp)) (fun hc=>?_))
 obtain⟨i0,i1,hp,hm⟩:=hk2 (by simpa using hc)
 obtain⟨e,he,hx⟩:=elem_ok i0 i1
 obtain⟨q1,q2,q3⟩:=hp e hx
 obtain⟨k,m1,m2,m3⟩:=hm e he
 obtain⟨m4,m5⟩:=m2 m3
 have hv:=(smF_of q1).2
 have hvl:=vaN_le ls e.pattern
 refine .bp e he (.bv m1 (.bind (fill_ex e.template (hr.2 e hx).2 k.1 m5 (by omega)) fun k6 hk6=>?_))
 refine Ex.bind (P:=fun o=>o=false→validF k6.1=true) (.ite (fun _=>.pure (by simp)) (fun _=>.bv (sfv_sm hk6) (Ex.pure (v:=!validF k6.1) fun h=>by simpa using h))) ?_
 intro o7 ho7
 exact .ite (fun _=>.pure (by simp)) (fun hc7=>.pure fun _=>ho7 (by simpa using hc7))
theorem parse_ex (f:Form) (hf:smF f):Ex (fun n=>sp_ParseRules n f) (fun r=>r.2.2=true→liOK r.1∧rsOK r.2.1):=by
 have hl:=hf.len
 unfold sp_ParseRules
 refine Ex.bind (P:=fun o=>o=false→2≤f.kids.length) (.bv (sfv_sm hf) (.ite (fun _=>.pure (by simp)) (fun _=>.ite (fun _=>.pure (by simp)) (fun _=>.ite (fun _=>.pure (by simp)) (fun h2=>?_))))) ?_
 ·obtain⟨e,he,_⟩:=elem_ok (l:=f.kids) (i:=0) (by omega) (by omega)
  obtain⟨e',he',_⟩:=elem_ok (l:=f.kids) (i:=1) (by omega) (by omega)
  exact .bp e he (.ite (fun _=>.pure (by simp)) (fun _=>.bp e' he' (.pure fun _=>by omega)))
 intro o ho
 refine .ite (fun _=>.pure (by simp)) (fun hc=>?_)
 have h2:=ho (by simpa using hc)
 obtain⟨e1,he1,hm1⟩:=elem_ok (l:=f.kids) (i:=1) (by omega) (by omega)
 have s1:=hf.kid hm1
 have l1:=s1.len
 refine Ex.iter (μ:=fun s=>((e1.kids.length:Int)-s.2).toNat) (I:=fun s=>0≤s.2∧s.2≤(e1.kids.length:Int)∧(s.1.length:Int)=s.2∧∀x∈s.1,smF x) ([],0) ⟨by simp,by simp,by simp,by simp⟩ ?_
 rintro ⟨s,i⟩ ⟨i0,i1,i2,i3⟩
 simp only at i0 i1 i2 i3 ⊢
 refine .bp e1 he1 (.ite (fun hlt=>?_) (fun hge=>?_))
 ·obtain⟨e,he,hem⟩:=elem_ok i0 hlt
  have hse:=s1.kid hem
  refine .bp e he (.bv (scf_sm hse) (.bp _ (apB_ok (by simp; omega)) (.fg ⟨⟨?_,?_,?_,fun x hx=>?_⟩,?_⟩)))
  all_goals try simp only
  all_goals try rw[w64_1 (by omega) (by omega)]
  ·omega
  ·omega
  ·simp; omega
  ·rcases List.mem_append.1 hx with hx | hx
   ·exact i3 x hx
   ·rw[List.mem_singleton.1 hx]; exact hse
  ·omega
 ·have hli:liOK s:=⟨by omega,i3⟩
  refine Ex.iter (μ:=fun s=>((f.kids.length:Int)-s.2).toNat) (I:=fun s=>0≤s.2∧s.2≤(f.kids.length:Int)∧(s.1.length:Int)≤s.2∧∀x∈s.1,ruOK x) ([],2) ⟨by simp,by simp only; omega,by simp,by simp⟩ ?_
  rintro ⟨t,j⟩ ⟨j0,j1,j2,j3⟩
  simp only at j0 j1 j2 j3 ⊢
  refine .ite (fun hlt=>?_) (fun hge=>?_)
  ·obtain⟨e,he,hem⟩:=elem_ok j0 hlt
   have hse:=hf.kid hem
   refine Ex.bind (P:=fun o=>o=false→e.kids.length=2) (.bp e he (.ite (fun _=>.pure (by simp)) (fun _=>.pure (by simp; omega)))) ?_
   intro o15 ho15
   refine .ite (fun _=>.fo ⟨fun w e=>by cases e; simp,fun s' e=>by cases e⟩) (fun hc15=>?_)
   have h22:=ho15 (by simpa using hc15)
   obtain⟨a,ha,ham⟩:=elem_ok (l:=e.kids) (i:=0) (by omega) (by omega)
   obtain⟨b,hb,hbm⟩:=elem_ok (l:=e.kids) (i:=1) (by omega) (by omega)
   have sa:=hse.kid ham
   have sb:=hse.kid hbm
   refine .bp e he (.bp a ha (.bv (scf_sm sa) (.bp b hb (.bv (scf_sm sb) (.bp _ (apB_ok (by simp; omega)) (.fg ⟨⟨?_,?_,?_,fun x hx=>?_⟩,?_⟩))))))
   all_goals try simp only
   all_goals try rw[w64_1 (by omega) (by omega)]
   ·omega
   ·omega
   ·simp; omega
   ·rcases List.mem_append.1 hx with hx | hx
    ·exact j3 x hx
    ·rw[List.mem_singleton.1 hx]; exact⟨sa,sb⟩
   ·omega
  ·have hrs:rsOK t:=⟨by omega,j3⟩
   exact .bind (rules_ex t hrs s hli) fun k _=>.ite (fun _=>.fo ⟨fun w e=>by cases e; simp,fun s' e=>by cases e⟩) (fun _=>.fo ⟨fun w e=>by cases e; exact fun _=>⟨hli,hrs⟩,fun s' e=>by cases e⟩)
def vsF (f:Form):Prop:=thF 24 f∧cF f≤400
theorem vsF.sm {f:Form} (h:vsF f):smF f:=⟨thF_mono (by omega) f h.1,by have:=h.2; omega⟩
theorem vsF.kid {f x:Form} (h:vsF f) (hx:x∈f.kids):vsF x:=⟨thFs_iff.1 (thF_eq.1 h.1).2.2 x hx,by have:=cFs_mem hx; have:=cF_eq f; have:=h.2; omega⟩
theorem vsF_of {f:Form} (h:validF f=true):vsF f:=by
 unfold validF at h
 simp only[Bool.and_eq_true,decide_eq_true_eq] at h
 exact⟨fmB_th h.1,h.2⟩
theorem chg_sm {f:Form} (h:vsF f) (x w:Int):Ex (fun n=>sp_l2Change n f x w) (fun r=>smF r∧cF r=cF f∧r.kind=f.kind):=
 (l2chg_ex f 24 (by omega) h.1 (by have:=h.2; omega) x w).mono fun r ⟨h1,h2,h3⟩=>⟨⟨thF_mono (by omega) r h1,by have:=h.2; omega⟩,h2,h3⟩
theorem atI_0 {α:Type} {l:List α} {x:α} (h:l[0]? = some x):atI l 0=some x:=atI_nat (i:=0) h
theorem atI_1 {α:Type} {l:List α} {x:α} (h:l[1]? = some x):atI l 1=some x:=atI_nat (i:=1) h
theorem atI_2 {α:Type} {l:List α} {x:α} (h:l[2]? = some x):atI l 2=some x:=atI_nat (i:=2) h
def maOK (m:Macro):Prop:=liOK m.literals∧rsOK m.rules
def exOK (e:Expansion):Prop:=bsOK e.binds∧e.binds.length≤60∧e.macros.length≤e.binds.length∧(∀m∈e.macros,maOK m)∧0≤e.steps∧e.steps≤60
theorem strip_ex (f:Form) (hw:wF f≤1000000):Ex (fun n=>sp_StripForm n f) (fun r=>wF r≤wF f):=by
 have he:=wF_eq f
 refine .succ ?_
 simp only[sp_StripForm]
 refine .bind (Ex.mapL (m:=fun n y=>sp_StripForm n y) (R:=fun x y=>wF y≤wF x) (by omega) (fun y hy=>strip_ex y (by have:=wFs_mem hy; omega))) fun m hm=>.pure ?_
 have:∀{l m:List Form},rel2 (fun x y=>wF y≤wF x) l m→wFs m≤wFs l∧m.length=l.length:=by
  intro l
  induction l with
  | nil=>intro m h; cases m with
   | nil=>simp
   | cons _ _=>cases h
  | cons x l ih=>intro m h; cases m with
   | nil=>cases h
   | cons y m=>have:=ih h.2; have:=h.1; simp only[wFs,List.length_cons]; omega
 have:=this hm
 rw[wF_eq]; simp only[List.length_nil]; omega
termination_by SizeOf.sizeOf f
decreasing_by exact szF_lt hy
def macF (ms:List Macro) (id:Int):Option Int:=seqS (forI (fun(s2:Unit) (i1:Nat) (x4:Macro)=>((if x4.id=id then some (Sum.inl (i1:Int)) else some (Sum.inr ())):Option (Int⊕Unit))) 0 ms ()) (fun(s2:Unit)=>some (-1))
theorem mac_eq (n:Nat) (e:Expansion) (id:Int):sp_l7Macro n e id=macF e.macros id:=rfl
theorem mac_in (ms:List Macro) (id:Int):∃k,macF ms id=some k∧(k=-1∨0≤k∧k<(ms.length:Int)):=by
 have:Ex (fun _=>macF ms id) (fun k=>k=-1∨0≤k∧k<(ms.length:Int)):=by
  unfold macF
  refine Ex.seqS (P:=fun o=>match o with
   | .inl w=>0≤w∧w<(ms.length:Int)
   | .inr _=>True) ?_ (fun w h=>.inr h) (fun _ _=>.pure (.inl rfl))
  refine Ex.forI (I:=fun i q s=>ms.drop i=q) rfl ?_ (fun _ _=>trivial)
  intro i x q s hd
  obtain⟨_,g2,g3,_⟩:=drop_hd hd
  exact .ite (fun _=>.fo ⟨by omega,by omega⟩) (fun _=>.fg g2)
 obtain⟨k,⟨N,h⟩,h2⟩:=this
 exact⟨k,h N (Nat.le_refl N),h2⟩
theorem mean_ex (e:Expansion) (h:exOK e) (f:Form):Ex (fun n=>sp_l7Meaning n e f) (fun r=>r.1=2→∃k,macF e.macros r.2=some k∧0≤k∧k<(e.macros.length:Int)):=by
 have hb:=h.1.1
 unfold sp_l7Meaning
 refine .bind (find_ex e.binds (by omega) f) fun k1 hk1=>.ite (fun _=>.pure (by simp)) (fun h0=>.ite (fun _=>.pure (by simp)) (fun h2=>?_))
 have p1:0≤k1.1∧k1.1<(e.binds.length:Int):=hk1.elim (fun h=>absurd h h0) (fun h=>h.elim (fun h=>absurd h h2) id)
 obtain⟨b,hb,_⟩:=elem_ok p1.1 p1.2
 refine .bp b hb (.ite (fun _=>.pure (by simp)) (fun _=>?_))
 obtain⟨k,hk,hk2⟩:=mac_in e.macros b.id
 simp only[mac_eq]
 refine .bp k hk (.ite (fun hk0=>.pure fun _=>⟨k,hk,hk0,by omega⟩) (fun _=>.pure (by simp)))
def xR (e:Expansion) (b:Nat) (r:Expansion×Core×Int):Prop:=exOK r.1∧e.steps≤r.1.steps∧((wC r.2.1:Nat):Int)+1≤20500*(b:Int)+8220500*(r.1.steps-e.steps)
def allR (e:Expansion) (b:Nat) (r:Expansion×List Core×Int):Prop:=exOK r.1∧e.steps≤r.1.steps∧((wCs r.2.1+r.2.1.length:Nat):Int)≤20500*(b:Int)+8220500*(r.1.steps-e.steps)
theorem wzC:wC ⟨0,0,[],0,[],⟨0,[],0,[],[]⟩,[]⟩=0:=by simp[wC,wCs,wF,wFs]
theorem xR.z {e e':Expansion} {b:Nat} {k:Int} (h:exOK e') (hs:e.steps≤e'.steps) (hb:1≤b):xR e b (e',(⟨0,0,[],0,[],⟨0,[],0,[],[]⟩,[]⟩:Core),k):=⟨h,hs,by simp only[wzC]; omega⟩
theorem name_ex (e:Expansion) (h:exOK e) (f:Form) (hf:f.name.length≤12):Ex (fun n=>sp_l7Name n e f) (xR e 1):=by
 unfold sp_l7Name
 refine .bind (mean_ex e h f) fun k _=>.ite (fun _=>.pure ⟨h,by simp,?_⟩) (fun _=>.ite (fun _=>.pure ⟨h,by simp,?_⟩) (fun _=>.ite (fun _=>.pure (.z h (by simp) (by omega))) (fun _=>.pure (.z h (by simp) (by omega)))))
 ·simp[wC,wCs,wF,wFs]; omega
 ·simp[wC,wCs,wF,wFs]
theorem bind_ex (e:Expansion) (h:exOK e) (f:Form) (hf:smF f):Ex (fun n=>sp_l7Bind n e f) (fun r=>exOK r.1∧r.1.steps=e.steps∧(r.2=0→r.1.macros.length<r.1.binds.length)):=by
 obtain⟨h1,h2,h3,h4,h5,h6⟩:=h
 unfold sp_l7Bind
 refine .ite (fun _=>.pure ⟨⟨h1,h2,h3,h4,h5,h6⟩,rfl,by simp⟩) (fun hn=>.bind (addb_ex e.binds h1 (by omega) f hf _) fun k hk=>.ite (fun _=>.pure ⟨⟨h1,h2,h3,h4,h5,h6⟩,rfl,by simp⟩) (fun hc=>?_))
 obtain⟨k1,k2⟩:=hk (by simpa using hc)
 exact .pure ⟨⟨k1,by simp only; omega,by simp only; omega,h4,h5,h6⟩,rfl,fun _=>by simp only; omega⟩
theorem step_ex (e:Expansion) (h:exOK e) (f:Form) (hf:vsF f) (id a3:Int) (ha:a3≤60) (hm:∃k,macF e.macros id=some k∧0≤k∧k<(e.macros.length:Int)):Ex (fun n=>sp_l7Step n e f id a3) (fun r=>exOK r.1∧e.steps≤r.1.steps∧(r.2.2=0→r.1.steps=e.steps+1∧e.steps<a3∧vsF r.2.1)):=by
 obtain⟨h1,h2,h3,h4,h5,h6⟩:=h
 obtain⟨k,hk,k0,k1⟩:=hm
 unfold sp_l7Step sp_l7Scope
 refine .ite (fun _=>.pure ⟨⟨h1,h2,h3,h4,h5,h6⟩,by simp,by simp⟩) (fun hs=>?_)
 simp only[Option.bind_some,mac_eq]
 refine .ite (fun _=>.pure ⟨⟨h1,h2,h3,h4,h5,h6⟩,by simp,by simp⟩) (fun _=>?_)
 obtain⟨m,hmm,hmem⟩:=elem_ok k0 k1
 obtain⟨m1,m2⟩:=h4 m hmem
 have hw:w64 (e.steps+1)=e.steps+1:=w64_1 h5 (by omega)
 simp only[hw]
 have good:exOK ⟨e.binds,e.macros,w64 (e.scope+1),e.id,e.steps+1⟩:=⟨h1,h2,h3,h4,by simp only; omega,by simp only; omega⟩
 refine .bp k hk (.bp m hmm (.bind (chg_sm hf _ _) fun k6 ⟨s6,_,_⟩=>.bv (sfv_sm s6) (.ite (fun _=>.pure ⟨good,by simp only; omega,by simp⟩) (fun _=>.bind (first_ex e.binds h1 m.rules m2 m.literals m1 k6 s6) fun k9 _=>.ite (fun _=>.pure ⟨good,by simp only; omega,by simp⟩) (fun _=>.bind (apply_ex e.binds h1 m.rules m2 m.literals m1 k6 s6) fun k11 hk11=>.ite (fun _=>.pure ⟨good,by simp only; omega,by simp⟩) (fun hc=>?_))))))
 refine .bind (chg_sm (vsF_of (hk11 (by simpa using hc))) _ _) fun k13 ⟨s13,_,_⟩=>.bv (sfv_sm s13) (.ite (fun _=>.pure ⟨good,by simp only; omega,by simp⟩) (fun hv=>.pure ⟨good,by simp only; omega,fun _=>⟨rfl,by omega,vsF_of (by simpa using hv)⟩⟩))
def PX (m c:Nat):Prop:=∀(e:Expansion) (a3:Int) (f:Form),exOK e→a3≤60→(a3-e.steps).toNat≤m→vsF f→cF f≤c→Ex (fun n=>sp_l7Expand n e f a3) (xR e (cF f))
theorem wCs_app:∀{a b:List Core},wCs (a++b)=wCs a+wCs b
 | [],b=>by simp[wCs]
 | x::r,b=>by simp only[List.cons_append,wCs,wCs_app (a:=r)]; omega
theorem all_ex {m c:Nat} (hp:PX m c) (e:Expansion) (h:exOK e) (fs:List Form) (hfs:∀x∈fs,vsF x∧cF x≤c) (hl:fs.length≤400) (a3:Int) (ha:a3≤60) (hm:(a3-e.steps).toNat≤m):Ex (fun n=>sp_l7All n e fs a3) (allR e (cFs fs)):=by
 refine .succ ?_
 simp only[sp_l7All]
 refine Ex.iter (μ:=fun s=>((fs.length:Int)-s.2.1).toNat) (I:=fun s=>∃(j:Nat) (p q:List Form),s.2.1=(j:Int)∧p++q=fs∧p.length=j∧s.1.length=j∧exOK ⟨s.2.2.1,s.2.2.2.1,s.2.2.2.2.1,s.2.2.2.2.2.1,s.2.2.2.2.2.2⟩∧e.steps≤s.2.2.2.2.2.2∧((wCs s.1+s.1.length:Nat):Int)≤20500*(cFs p:Int)+8220500*(s.2.2.2.2.2.2-e.steps)) _ ⟨0,[],fs,rfl,rfl,rfl,rfl,h,by simp,by simp[wCs,cFs]⟩ ?_
 rintro ⟨cs,i,bs,ms,sc,id,st⟩ ⟨j,p,q,i1,i2,i3,i4,i5,i6,i7⟩
 simp only at i1 i2 i3 i4 i5 i6 i7 ⊢
 subst i1
 have hpl:p.length+q.length=fs.length:=by rw[← i2]; simp
 have hsum:cFs fs=cFs p+cFs q:=by rw[← i2,cFs_app]
 refine .ite (fun hlt=>?_) (fun hge=>.fo ⟨i5,i6,by simp only; omega⟩)
 cases q with
 | nil=>simp only[List.length_nil] at hpl; omega
 | cons x q=>
  have hx:fs[j]? = some x:=by rw[← i2,← i3]; simp
  obtain⟨v1,v2⟩:=hfs x (List.mem_of_getElem? hx)
  have hle:=i5.2.2.2.2.2
  have hle0:=i5.2.2.2.2.1
  simp only at hle hle0
  simp only[cFs] at hsum
  refine .bp x (atI_nat hx) (.bind (hp _ a3 x i5 ha (by simp only; omega) v1 v2) fun k ⟨x1,x2,x3⟩=>?_)
  simp only at x2 x3
  refine .ite (fun _=>.fo ⟨x1,by simp only; omega,by simp only; omega⟩) (fun _=>.bp _ (apB_ok (by simp; omega)) (.fg ⟨⟨j+1,p++[x],q,by rw[w64_1 (by omega) (by omega)]; rfl,by rw[← i2]; simp,by simp[i3],by simp[i4],x1,by simp only; omega,?_⟩,?_⟩))
  ·have e1:wCs (cs++[k.2.1])=wCs cs+wC k.2.1:=by rw[wCs_app]; simp[wCs]
   have e2:cFs (p++[x])=cFs p+cF x:=by rw[cFs_app]; simp[cFs]
   simp only[e1,e2,List.length_append,List.length_cons,List.length_nil]
   omega
  ·simp only
   rw[w64_1 (by omega) (by omega)]; omega
theorem fun_ex {m c:Nat} (hp:PX m c) (e:Expansion) (h:exOK e) (ps:List Form) (hps:∀x∈ps,vsF x) (hl:ps.length≤400) (f:Form) (hf:vsF f) (hc:cF f≤c) (a3:Int) (ha:a3≤60) (hm:(a3-e.steps).toNat≤m):Ex (fun n=>sp_l7Fun n e ps f a3) (xR e (1+cF f)):=by
 refine .succ ?_
 simp only[sp_l7Fun,sp_l7Scope,Option.bind_some]
 have h0:exOK ⟨e.binds,e.macros,w64 (e.scope+1),e.id,e.steps⟩:=h
 refine .ite (fun _=>.pure (.z h0 (by simp) (by omega))) (fun _=>?_)
 refine Ex.seqS (P:=fun(o:(Expansion×Core×Int)⊕((List Bind)×(List Macro)×Int×Int×Int×(List Int)))=>match o with
  | .inl w=>xR e (1+cF f) w
  | .inr s=>exOK ⟨s.1,s.2.1,s.2.2.1,s.2.2.2.1,s.2.2.2.2.1⟩∧s.2.2.2.2.1=e.steps∧s.2.2.2.2.2.length≤400) ?_ (fun w h=>h) ?_
 ·refine Ex.forI (I:=fun i q s=>ps.drop i=q∧exOK ⟨s.1,s.2.1,s.2.2.1,s.2.2.2.1,s.2.2.2.2.1⟩∧s.2.2.2.2.1=e.steps∧s.2.2.2.2.2.length=i) ⟨rfl,h0,rfl,rfl⟩ ?_ (fun s h=>⟨h.2.1,h.2.2.1,by rw[h.2.2.2]; exact hl⟩)
  rintro i x q ⟨bs,ms,sc,id,st,ids⟩ ⟨hd,s1,s2,s3⟩
  simp only at s1 s2 s3 ⊢
  obtain⟨_,g2,g3,hx⟩:=drop_hd hd
  refine .ite (fun _=>.fo (.z s1 (by simp only; omega) (by omega))) (fun _=>.bind (chg_sm (hps x hx) _ _) fun k13 ⟨q1,_,_⟩=>.bv (sfv_sm q1) (.ite (fun _=>.fo (.z s1 (by simp only; omega) (by omega))) (fun _=>.bind (bind_ex _ s1 k13 q1) fun k16 ⟨b1,b2,_⟩=>?_)))
  simp only at b2
  exact .ite (fun _=>.fo (.z b1 (by omega) (by omega))) (fun _=>.bp _ (apB_ok (by simp; omega)) (.fg ⟨g2,b1,by simp only; omega,by simp; omega⟩))
 ·rintro ⟨bs,ms,sc,id,st,ids⟩ ⟨s1,s2,s3⟩
  simp only at s1 s2 s3 ⊢
  refine .bind (chg_sm hf _ _) fun k19 ⟨q1,q2,_⟩=>.bv (sfv_sm q1) (.ite (fun _=>.pure (.z s1 (by simp only; omega) (by omega))) (fun hv=>?_))
  refine .bind (hp _ a3 k19 s1 ha (by simp only; omega) (vsF_of (by simpa using hv)) (by omega)) fun k22 ⟨x1,x2,x3⟩=>.pure ⟨x1,by simp only at x2 ⊢; omega,?_⟩
  simp only at x2 x3
  simp only[wC,wCs,wF,wFs,List.length_nil,List.length_cons]
  omega
theorem macros_ex {m c:Nat} (hp:PX m c) (e:Expansion) (h:exOK e) (ps vs:List Form) (hps:∀x∈ps,vsF x) (hvs:∀x∈vs,vsF x) (hl:ps.length≤400) (hlv:vs.length=ps.length) (f:Form) (hf:vsF f) (hc:cF f≤c) (a3:Int) (ha:a3≤60) (hm:(a3-e.steps).toNat≤m):Ex (fun n=>sp_l7Macros n e ps vs f a3) (xR e (1+cF f)):=by
 refine .succ ?_
 simp only[sp_l7Macros,sp_l7Scope,Option.bind_some]
 have h0:exOK ⟨e.binds,e.macros,w64 (e.scope+1),e.id,e.steps⟩:=h
 refine .ite (fun _=>.pure (.z h0 (by simp) (by omega))) (fun _=>?_)
 refine Ex.seqS (P:=fun(o:(Expansion×Core×Int)⊕((List Bind)×(List Macro)×Int×Int×Int))=>match o with
  | .inl w=>xR e (1+cF f) w
  | .inr s=>exOK ⟨s.1,s.2.1,s.2.2.1,s.2.2.2.1,s.2.2.2.2⟩∧s.2.2.2.2=e.steps) ?_ (fun w h=>h) ?_
 ·refine Ex.forI (I:=fun i q s=>ps.drop i=q∧exOK ⟨s.1,s.2.1,s.2.2.1,s.2.2.2.1,s.2.2.2.2⟩∧s.2.2.2.2=e.steps) ⟨rfl,h0,rfl⟩ ?_ (fun s h=>⟨h.2.1,h.2.2⟩)
  rintro i x q ⟨bs,ms,sc,id,st⟩ ⟨hd,s1,s2⟩
  simp only at s1 s2 ⊢
  obtain⟨_,g2,g3,hx⟩:=drop_hd hd
  obtain⟨y,hy,hym⟩:=elem_ok (l:=vs) (i:=(i:Int)) (by omega) (by omega)
  refine .bind (chg_sm (hps x hx) _ _) fun k12 ⟨q1,_,_⟩=>.bp y hy (.bind (chg_sm (hvs y hym) _ _) fun k14 ⟨r1,_,_⟩=>.ite (fun _=>.fo (.z s1 (by simp only; omega) (by omega))) (fun _=>?_))
  refine Ex.bind (P:=fun _=>True) (.bv (sfv_sm q1) (.ite (fun _=>.pure trivial) (fun _=>.bv (sfv_sm r1) (.pure trivial)))) ?_
  intro o _
  refine .ite (fun _=>.fo (.z s1 (by simp only; omega) (by omega))) (fun _=>.bind (parse_ex k14 r1) fun k18 hk18=>.ite (fun _=>.fo (.z s1 (by simp only; omega) (by omega))) (fun hc18=>.bind (bind_ex _ s1 k12 q1) fun k20 ⟨b1,b2,b3⟩=>?_))
  simp only at b2
  refine .ite (fun _=>.fo (.z b1 (by omega) (by omega))) (fun hc20=>?_)
  have b3:=b3 (by simpa using hc20)
  obtain⟨c1,c2,c3,c4,c5,c6⟩:=b1
  have hm18:=hk18 (by simpa using hc18)
  refine .bp _ (apB_nil (by omega)) (.bp _ (apB_ok (by simp; omega)) (.fg ⟨g2,⟨c1,c2,by simp; omega,fun m hm=>?_,c5,c6⟩,by simp only; omega⟩))
  rcases List.mem_append.1 hm with hm | hm
  ·exact c4 m hm
  ·rw[List.mem_singleton.1 hm]; exact hm18
 ·rintro ⟨bs,ms,sc,id,st⟩ ⟨s1,s2⟩
  simp only at s1 s2 ⊢
  refine .bind (chg_sm hf _ _) fun k19 ⟨q1,q2,_⟩=>.bv (sfv_sm q1) (.ite (fun _=>.pure (.z s1 (by simp only; omega) (by omega))) (fun hv=>?_))
  refine .bind (hp _ a3 k19 s1 ha (by simp only; omega) (vsF_of (by simpa using hv)) (by omega)) fun k22 ⟨x1,x2,x3⟩=>.pure ⟨x1,by simp only at x2 ⊢; omega,?_⟩
  simp only at x2 x3 ⊢
  omega
theorem pairs_ex (f:Form) (hf:vsF f):Ex (fun n=>sp_l7Pairs n f) (fun r=>(∀x∈r.1,vsF x)∧(∀x∈r.2.1,vsF x)∧r.1.length≤400∧r.2.1.length=r.1.length∧cFs r.2.1+1≤cF f):=by
 have hl:=hf.sm.len
 have hc:=cF_eq f
 unfold sp_l7Pairs
 have main:Ex (fun n=>Mx.forI (fun(s2:(List Form)×(List Form)) (i1:Nat) (x4:Form)=>(Option.bind ((if ¬x4.kind=3 then some true else some (decide (¬(x4.kids.length:Int)=2))):Option (Bool)) (fun(o10:Bool)=>(if o10=true then some (Sum.inl (s2.1,s2.2,false)) else(atI x4.kids 0).bind fun e12=>(apB 80 s2.1 [e12]).bind fun z13=>(atI x4.kids 1).bind fun e14=>(apB 80 s2.2 [e14]).bind fun z15=>some (Sum.inr (z13,z15)))):Option (((List Form)×(List Form)×Bool)⊕((List Form)×(List Form))))) 0 f.kids ([],[])) (fun o=>match o with
   | .inl r=>(∀x∈r.1,vsF x)∧(∀x∈r.2.1,vsF x)∧r.1.length≤400∧r.2.1.length=r.1.length∧cFs r.2.1+1≤cF f
   | .inr r=>(∀x∈r.1,vsF x)∧(∀x∈r.2,vsF x)∧r.1.length≤400∧r.2.length=r.1.length∧cFs r.2+1≤cF f):=by
  refine Ex.forI (I:=fun i q r=>f.kids.drop i=q∧(∀x∈r.1,vsF x)∧(∀x∈r.2,vsF x)∧r.1.length=i∧r.2.length=i∧cFs r.2+cFs q+1≤cF f) ⟨rfl,by simp,by simp,rfl,rfl,by simp[cFs]; omega⟩ ?_ (fun r h=>⟨h.2.1,h.2.2.1,by rw[h.2.2.2.1]; exact hl,by rw[h.2.2.2.1,h.2.2.2.2.1],by have:=h.2.2.2.2.2; simp only[cFs] at this; omega⟩)
  rintro i x q ⟨a,b⟩ ⟨hd,a1,b1,a2,b2,b3⟩
  simp only[cFs] at a1 b1 a2 b2 b3 ⊢
  obtain⟨_,g2,g3,hx⟩:=drop_hd hd
  have hxv:=hf.kid hx
  refine Ex.bind (P:=fun o=>o=false→x.kids.length=2) (.ite (fun _=>.pure (by simp)) (fun _=>.pure (by simp; omega))) ?_
  intro o ho
  refine .ite (fun _=>.fo ⟨a1,b1,by simp only; omega,by simp only; omega,by simp only; omega⟩) (fun hc'=>?_)
  have h2:=ho (by simpa using hc')
  obtain⟨y,z,hyz⟩:∃y z,x.kids=[y,z]:=by
   match hk:x.kids,h2 with
   | [y,z],_=>exact⟨y,z,rfl⟩
  have hy:=hxv.kid (x:=y) (by simp[hyz])
  have hz:=hxv.kid (x:=z) (by simp[hyz])
  have hcx:cF x=1+(cF y+cF z):=by rw[cF_eq,hyz]; simp[cFs]
  refine .bp y (atI_0 (by simp[hyz])) (.bp _ (apB_ok (by simp; omega)) (.bp z (atI_1 (by simp[hyz])) (.bp _ (apB_ok (by simp; omega)) (.fg ⟨g2,fun w hw=>?_,fun w hw=>?_,by simp; omega,by simp; omega,?_⟩))))
  ·rcases List.mem_append.1 hw with hw | hw
   ·exact a1 w hw
   ·rw[List.mem_singleton.1 hw]; exact hy
  ·rcases List.mem_append.1 hw with hw | hw
   ·exact b1 w hw
   ·rw[List.mem_singleton.1 hw]; exact hz
  ·simp only[cFs_app,cFs]; omega
 exact Ex.seqS main (fun w h=>h) (fun t h=>.pure h)
theorem slI_1 {α:Type} {l:List α} (h:1≤l.length):slI l 1 (l.length:Int)=some (l.drop 1):=by
 unfold slI
 rw[if_pos (by omega)]
 congr 1
 rw[List.take_of_length_le]
 ·rfl
 ·rw[Int.toNat_natCast,List.length_drop]; exact Nat.le_refl _
theorem cFs_drop (l:List Form):cFs (l.drop 1)≤cFs l:=by
 cases l with
 | nil=>simp
 | cons x r=>simp only[List.drop_succ_cons,List.drop_zero,cFs]; omega
theorem ln2 {l:List Form} (h:(l.length:Int)=2):∃a b,l=[a,b]:=by
 match l,h with
 | [a,b],_=>exact⟨a,b,rfl⟩
theorem ln3 {l:List Form} (h:(l.length:Int)=3):∃a b c,l=[a,b,c]:=by
 match l,h with
 | [a,b,c],_=>exact⟨a,b,c,rfl⟩
theorem ar1 {a s:Int} {m:Nat} (h:(a-s).toNat≤m) (h2:s<a):m-1<m:=by omega
theorem ar2 {a s t:Int} {m:Nat} (h:(a-s).toNat≤m) (h2:t=s+1):(a-t).toNat≤m-1:=by omega
theorem form_ex {m c:Nat} (hp:PX m c) (e:Expansion) (h:exOK e) (f:Form) (hf:vsF f) (hc:cF f≤c+1) (k a3:Int) (ha:a3≤60) (hm:(a3-e.steps).toNat≤m):Ex (fun n=>sp_l7Form n e f k a3) (xR e (cF f)):=by
 have he:=cF_eq f
 have hl:=hf.sm.len
 have hkc:∀x∈f.kids,vsF x∧cF x≤c:=fun x hx=>⟨hf.kid hx,by have:=cFs_mem hx; omega⟩
 refine .succ ?_
 simp only[sp_l7Form]
 refine Ex.bind (P:=fun o=>o=true→(f.kids.length:Int)=2) (.ite (fun _=>.pure (by simp)) (fun _=>.pure (by simp))) ?_
 intro o1 ho1
 refine .ite (fun hc1=>?_) (fun _=>?_)
 ·obtain⟨a,b,hab⟩:=ln2 (ho1 hc1)
  have hb:=hf.kid (x:=b) (by simp[hab])
  have hw:=hb.sm.w
  refine .bp b (atI_1 (by simp[hab])) (.bind (strip_ex b (by omega)) fun k4 hk4=>.pure ⟨h,by simp,?_⟩)
  simp only[wC,wCs,List.length_nil]; omega
 refine Ex.bind (P:=fun o=>o=true→(f.kids.length:Int)=4) (.ite (fun _=>.pure (by simp)) (fun _=>.pure (by simp))) ?_
 intro o5 ho5
 refine .ite (fun hc5=>?_) (fun _=>?_)
 ·have h4:=ho5 hc5
  refine .bp _ (slI_1 (by omega)) (.bind (all_ex hp e h _ (fun x hx=>hkc x (List.mem_of_mem_drop hx)) (by simp; omega) a3 ha hm) fun k8 ⟨x1,x2,x3⟩=>.pure ⟨x1,x2,?_⟩)
  have:=cFs_drop f.kids
  simp only[wC,wF,wFs,List.length_nil]; omega
 refine Ex.bind (P:=fun o=>o=true→(f.kids.length:Int)=3) ?_ ?_
 ·refine .ite (fun _=>.ite (fun h3=>?_) (fun _=>.pure (by simp))) (fun _=>.pure (by simp))
  obtain⟨a,b,d,hab⟩:=ln3 h3
  exact .bp b (atI_1 (by simp[hab])) (.pure fun _=>h3)
 intro o9 ho9
 refine .ite (fun hc9=>?_) (fun _=>?_)
 ·obtain⟨a,b,d,hab⟩:=ln3 (ho9 hc9)
  have hb:=hkc b (by simp[hab])
  have hd:=hkc d (by simp[hab])
  have hs:cFs f.kids=cF a+(cF b+cF d):=by rw[hab]; simp[cFs]
  refine .bp b (atI_1 (by simp[hab])) (.bp d (atI_2 (by simp[hab])) (.bind (fun_ex hp e h b.kids (fun x hx=>hb.1.kid hx) hb.1.sm.len d hd.1 hd.2 a3 ha hm) fun k13 ⟨x1,x2,x3⟩=>.pure ⟨x1,x2,?_⟩))
  simp only; omega
 refine Ex.bind (P:=fun o=>o=false→(f.kids.length:Int)=3) ?_ ?_
 ·have:∀{c:Prop} [Decidable c],Ex (fun _=>some (decide (¬(f.kids.length:Int)=3))) (fun o=>o=false→(f.kids.length:Int)=3):=.pure fun e=>by simpa using e
  exact .ite (fun _=>.ite (fun _=>.pure (by simp)) (fun _=>this (c:=True))) (fun _=>this (c:=True))
 intro o14 ho14
 refine .ite (fun _=>.pure (.z h (by simp) (by omega))) (fun hc14=>?_)
 obtain⟨a,b,d,hab⟩:=ln3 (ho14 (by simpa using hc14))
 have hb:=hkc b (by simp[hab])
 have hd:=hkc d (by simp[hab])
 have hs:cFs f.kids=cF a+(cF b+cF d):=by rw[hab]; simp[cFs]
 refine .bp b (atI_1 (by simp[hab])) (.bind (pairs_ex b hb.1) fun k17 ⟨p1,p2,p3,p4,p5⟩=>.ite (fun _=>.pure (.z h (by simp) (by omega))) (fun _=>.ite (fun _=>?_) (fun _=>?_)))
 ·refine .bp d (atI_2 (by simp[hab])) (.bind (macros_ex hp e h k17.1 k17.2.1 p1 p2 p3 p4 d hd.1 hd.2 a3 ha hm) fun k21 ⟨x1,x2,x3⟩=>.pure ⟨x1,x2,?_⟩)
  simp only; omega
 ·refine .bind (all_ex hp e h k17.2.1 (fun x hx=>⟨p2 x hx,by have:=cFs_mem hx; omega⟩) (by omega) a3 ha hm) fun k22 ⟨x1,x2,x3⟩=>?_
  have hst:=x1.2.2.2.2.2
  refine .ite (fun _=>.pure (.z x1 x2 (by omega))) (fun _=>.bp d (atI_2 (by simp[hab])) (.bind (fun_ex hp k22.1 x1 k17.1 p1 p3 d hd.1 hd.2 a3 ha (by omega)) fun k25 ⟨y1,y2,y3⟩=>?_))
  have hst2:=y1.2.2.2.2.2
  have hst3:=h.2.2.2.2.1
  have hf4:=hf.2
  refine .bp _ (apB_ok ?_) (.pure ⟨y1,by simp only; omega,?_⟩)
  ·simp only[List.length_cons,List.length_nil]; omega
  ·simp only[wC,wCs,wF,wFs,List.length_nil,List.length_append,List.length_cons,List.cons_append,List.nil_append]; omega
theorem exp_step (m c:Nat) (ihm:∀m',m'<m→PX m' 400) (ihc:∀c',c'<c→PX m c'):PX m c:=by
 intro e a3 f h ha hm hf hc
 have he:=cF_eq f
 have hl:=hf.sm.len
 obtain⟨t1,t2,t3⟩:=thF_eq.1 hf.1
 have hp:PX m (cF f-1):=ihc _ (by omega)
 refine .succ ?_
 simp only[sp_l7Expand]
 refine .ite (fun _=>.pure ⟨h,by simp,?_⟩) (fun _=>.ite (fun _=>.bind (name_ex e h f t1) fun k ⟨x1,x2,x3⟩=>.pure ⟨x1,x2,?_⟩) (fun _=>.ite (fun _=>.pure (.z h (by simp) (by omega))) (fun hk=>?_)))
 ·simp only[wC,wCs,wF,wFs,List.length_nil]; omega
 ·simp only; omega
 obtain⟨e6,he6,hm6⟩:=elem_ok (l:=f.kids) (i:=0) (by omega) (by omega)
 refine .bp e6 he6 ?_
 refine Ex.seqS (P:=fun(o:(Expansion×Core×Int)⊕Unit)=>match o with
  | .inl w=>xR e (cF f) w
  | .inr _=>True) ?_ (fun w h=>h) (fun _ _=>?_)
 ·refine .ite (fun _=>.bind (mean_ex e h e6) fun k10 hk10=>.ite (fun _=>.pure (.z h (by simp) (by omega))) (fun _=>.ite (fun _=>?_) (fun _=>.ite (fun h2=>?_) (fun _=>.pure trivial)))) (fun _=>.pure trivial)
  ·exact .bind (form_ex hp e h f hf (by omega) k10.2 a3 ha hm) fun k13 hk=>.pure hk
  ·refine .bind (f:=fun n=>sp_l7Apply n e f k10.2 a3) (P:=xR e (cF f)) ?_ (fun k15 hk=>.pure hk)
   refine .succ ?_
   simp only[sp_l7Apply]
   refine .bind (step_ex e h f hf k10.2 a3 ha (hk10 h2)) fun k1 ⟨s1,s2,s3⟩=>.ite (fun _=>.pure (.z s1 s2 (by omega))) (fun hc1=>?_)
   obtain⟨q1,q2,q3⟩:=s3 (by simpa using hc1)
   refine .bind (ihm (m-1) (ar1 hm q2) k1.1 a3 k1.2.1 s1 ha (ar2 hm q1) q3 q3.2) fun k3 ⟨x1,x2,x3⟩=>.pure ⟨x1,by simp only; omega,?_⟩
   have:=q3.2
   simp only; omega
 ·refine .bind (all_ex hp e h f.kids (fun x hx=>⟨hf.kid hx,by have:=cFs_mem hx; omega⟩) hl a3 ha hm) fun k8 ⟨x1,x2,x3⟩=>.pure ⟨x1,x2,?_⟩
  simp only[wC,wF,wFs,List.length_nil]; omega
theorem exp_ex:∀m c,PX m c:=by
 intro m
 induction m using Nat.strongRecOn with
 | ind m ihm=>
  intro c
  induction c using Nat.strongRecOn with
  | ind c ihc=>exact exp_step m c (fun m' h=>ihm m' h 400) (fun c' h=>ihc c' h)
theorem start_ex:Ex (fun n=>sp_StartExpansion n) (fun r=>exOK r∧r.steps=0):=by
 unfold sp_StartExpansion sp_l7Names
 refine .bp _ rfl ?_
 refine Ex.iter (μ:=fun s=>(6-s.1).toNat) (I:=fun s=>1≤s.1∧s.1≤6∧(s.2.length:Int)=s.1-1∧∀b∈s.2,bdOK b) (1,[]) ⟨by simp,by simp,by simp,by simp⟩ ?_
 rintro ⟨i,s⟩ ⟨i0,i1,i2,i3⟩
 simp only at i0 i1 i2 i3 ⊢
 refine .ite (fun hlt=>?_) (fun hge=>?_)
 ·obtain⟨x,hx,hm⟩:=elem_ok (l:=[[],[108,97,109,98,100,97],[105,102],[113,117,111,116,101],[108,101,116],qletsynta5388]) (by omega) hlt
  have hxl:x.length≤12:=(by decide:∀x∈([[],[108,97,109,98,100,97],[105,102],[113,117,111,116,101],[108,101,116],qletsynta5388]:List (List UInt8)),x.length≤12) x hm
  simp only[List.length_cons,List.length_nil] at hlt
  refine .bp x hx (.bp _ (apB_ok (by simp; omega)) (.fg ⟨⟨?_,?_,?_,fun b hb=>?_⟩,?_⟩))
  all_goals try simp only
  all_goals try rw[w64_1 (by omega) (by omega)]
  ·omega
  ·omega
  ·simp; omega
  ·rcases List.mem_append.1 hb with hb | hb
   ·exact i3 b hb
   ·rw[List.mem_singleton.1 hb]; exact⟨hxl,by simp⟩
  ·omega
 ·exact .fo ⟨⟨⟨by simp only; omega,i3⟩,by simp only; omega,by simp,by simp,by simp,by simp⟩,rfl⟩
def zeroC:Core:=⟨0,0,[],0,[],⟨0,[],0,[],[]⟩,[]⟩
def expR (r:Core×Int):Prop:=wC r.1≤600000000∧(r.2=0→validC r.1=true)∧(¬r.2=0→r.1=zeroC)
theorem run_ex (f:Form) (hw:wF f≤1000000000) (b:Int):Ex (fun n=>sp_l7Run n f b) (fun r=>expR r.2):=by
 have hcl:=cF_le f
 have hz:∀k:Int,¬k=0→expR (zeroC,k):=fun k hk=>⟨by rw[show wC zeroC=0 from wzC]; omega,fun h=>absurd h hk,fun _=>rfl⟩
 unfold sp_l7Run
 refine Ex.bind (P:=fun o=>o=false→validF f=true∧0≤b∧b≤60) (.bv (sfv_evt f (okF_w f (by omega)) (by omega)) (.ite (fun _=>.pure (by simp)) (fun hv=>.ite (fun _=>.pure (by simp)) (fun hb=>Ex.pure (v:=decide (b>60)) fun h=>⟨by simpa using hv,by omega,by have h:=of_decide_eq_false h; omega⟩)))) ?_
 intro o ho
 refine .ite (fun _=>.pure (hz 6 (by omega))) (fun hc=>?_)
 obtain⟨hv,hb0,hb1⟩:=ho (by simpa using hc)
 refine .bind start_ex fun k3 ⟨h3,hs⟩=>.bind (exp_ex 100 400 k3 b f h3 hb1 (by omega) (vsF_of hv) (vsF_of hv).2) fun k4 ⟨x1,x2,x3⟩=>?_
 have hst:=x1.2.2.2.2.2
 have hcf:=(vsF_of hv).2
 refine .ite (fun hk=>.pure (hz _ hk)) (fun _=>.bv (scv_evt k4.2.1 (by omega)) (.ite (fun _=>.pure (hz 4 (by omega))) (fun hv4=>.pure ⟨by simp only; omega,fun _=>by simpa using hv4,fun h=>absurd rfl h⟩)))
theorem expand_ex (f:Form) (hw:wF f≤1000000000) (b:Int):Ex (fun n=>sp_ExpandForm n f b) expR:=by
 unfold sp_ExpandForm
 exact .bind (run_ex f hw b) fun k1 hk1=>.bv (scc_evt k1.2.1 (Nat.le_trans hk1.1 (by omega))) (.pure hk1)
theorem wCs_set:∀(l:List Core) (i:Nat) (x y:Core),l[i]? = some x→wCs (l.set i y)+wC x=wCs l+wC y
 | [],i,x,y,h=>by simp at h
 | a::l,0,x,y,h=>by simp at h; subst h; simp only[List.set_cons_zero,wCs]; omega
 | a::l,i+1,x,y,h=>by
  have:=wCs_set l i x y (by simpa using h)
  simp only[List.set_cons_succ,wCs]; omega
theorem exMutC (c:Core) (hw:wC c≤10000000) (r:L15Rd) (h:Gd r (4*((wC c:Int)+1))):Ex (fun n=>sp_l6Mutate n c r) (fun k=>Sp r k.2 (4*((wC c:Int)+1))∧wC k.1≤wC c+2):=by
 have he:=wC_eq c
 refine .succ ?_
 simp only[sp_l6Mutate]
 refine .bv (scc_evt c (by omega)) ?_
 refine Ex.bind (P:=fun o=>Sp r o.2 1∧(o.1=true→1≤c.kids.length)) ?_ ?_
 ·refine .ite (fun hl=>.bind (exPick h (by omega)) fun k15 ⟨s1,_⟩=>.pure ⟨s1,fun _=>by omega⟩) (fun hl=>.pure ⟨.refl (by omega),fun h=>by cases h⟩)
 rintro ⟨b0,r1⟩ ⟨s1,hb⟩
 simp only at s1 hb ⊢
 have g1:Gd r1 (4*((wC c:Int)+1)-1):=h.to s1 (by omega)
 refine .ite (fun hb0=>?_) (fun _=>?_)
 ·have hl:=hb hb0
  refine .bind (exPick g1 (by omega)) fun k4 ⟨s2,hv⟩=>?_
  obtain⟨v0,v1⟩:=hv (by omega)
  have hv:k4.1.toNat<c.kids.length:=by omega
  have hx:=List.getElem?_eq_getElem hv
  have hxm:c.kids[k4.1.toNat]∈c.kids:=List.getElem_mem hv
  have hxw:=wCs_mem hxm
  refine .bp () (inB_ok v0 hv) (.bp _ hx (.bind (exMutC _ (by omega) k4.2 (g1.to s2 (by omega))) fun k8 ⟨s3,w3⟩=>.bp () (inB_ok v0 hv) (.pure ⟨?_,?_⟩)))
  ·exact s1.trans (s2.trans s3 (D:=1+4*((wC (c.kids[k4.1.toNat]):Int)+1)) (by omega)) (by omega)
  ·have:=wCs_set c.kids k4.1.toNat _ k8.1 hx
   simp only[wC,List.length_set]; omega
 ·refine .bind (exPick g1 (by omega)) fun k11 ⟨s2,_⟩=>?_
  have g2:Gd k11.2 1:=g1.to s2 (by omega)
  refine Ex.bind (P:=fun o=>Sp k11.2 o.2.2.2.2 1∧o.2.2.2.1.length+o.2.2.1.length≤c.ids.length+c.name.length+2) ?_ ?_
  ·refine .ite (fun _=>?_) (fun _=>.ite (fun _=>?_) (fun _=>.ite (fun _=>?_) (fun _=>.ite (fun _=>?_) (fun _=>?_))))
   ·refine .bind (exNum (by simp) g2 (by omega)) fun k ⟨s3,_⟩=>.pure ⟨s3,by simp only; omega⟩
   ·refine .bind (exNum (by simp) g2 (by omega)) fun k ⟨s3,_⟩=>.pure ⟨s3,by simp only; omega⟩
   ·refine .bind (exNum (by simp) g2 (by omega)) fun k ⟨s3,_⟩=>.bp _ (apB_ok (by simp; omega)) (.pure ⟨s3,by simp; omega⟩)
   ·refine .bind (exOf (by simp) g2 (by omega)) fun k ⟨s3,hm⟩=>?_
    have:k.1.length≤1:=by
     simp only[List.mem_cons,List.not_mem_nil,or_false] at hm
     rcases hm with h | h | h <;> rw[h] <;> decide
    exact .pure ⟨s3,by simp only; omega⟩
   ·exact .pure ⟨.refl (by omega),by simp only; omega⟩
  ·rintro o ⟨s3,w3⟩
   exact .pure ⟨s1.trans (s2.trans s3 (D:=2) (by omega)) (by omega),by simp only[wC]; omega⟩
termination_by SizeOf.sizeOf c
decreasing_by exact szC_lt hxm
theorem exDraw6 (b:List UInt8):Ex (fun n=>sp_l6Draw n b) (fun c=>wC c≤3000):=by
 unfold sp_l6Draw
 refine .bind (exOpen b) fun k1 g=>.bind (exNum (by simp) g (by omega)) fun k2 ⟨s2,hm⟩=>?_
 have g2:Gd k2.2 900000000:=g.to s2 (by omega)
 obtain⟨d,hd,hk⟩:∃d:Nat,d≤4∧k2.1=(d:Int):=by
  simp only[List.mem_cons,List.not_mem_nil,or_false] at hm
  rcases hm with h | h | h
  ·exact⟨3,by omega,h⟩
  ·exact⟨4,by omega,h⟩
  ·exact⟨2,by omega,h⟩
 rw[hk]
 have hB:bC d≤10000∧wDC d≤2500:=by
  have:d=0∨d=1∨d=2∨d=3∨d=4:=by omega
  rcases this with rfl | rfl | rfl | rfl | rfl <;> simp[bC,wDC]
 refine .bind (exSomeC d (by omega) [] 0 k2.2 (by simp) (g2.to (.refl (Int.le_refl 0)) (by omega))) fun k3 ⟨s3,w3,_⟩=>?_
 have g3:Gd k3.2.2 800000000:=g2.to s3 (by omega)
 refine .bind (exPick g3 (by omega)) fun k4 ⟨s4,_⟩=>.ite (fun _=>?_) (fun _=>.pure (by omega))
 have g4:Gd k4.2 700000000:=g3.to s4 (by omega)
 refine .bind (exMutC k3.1 (by omega) k4.2 (g4.to (.refl (Int.le_refl 0)) (by omega))) fun k6 ⟨s6,w6⟩=>?_
 have g6:Gd k6.2 600000000:=g4.to s6 (by omega)
 exact .bind (exMutC k6.1 (by omega) k6.2 (g6.to (.refl (Int.le_refl 0)) (by omega))) fun k7 ⟨_,w7⟩=>.pure (by omega)
def t8:List (List UInt8):=[qlambdaxy5aae,qletflamba3b8,qif01quot475c,qheadtailad8e,qletsynta8793,qlambdaww84a8,[40,49,32,50,41],qlambdaxx5051,q1listdb38,qletglambf856,qunknownad92,qlist1212696a]
theorem t8_len:∀x∈t8,x.length≤500:=by decide
theorem exDraw8 (r:L15Rd) (g:Gd r 200000):Ex (fun n=>sp_l8Draw n r) (fun k=>Sp r k.2 200000∧wF k.1≤100000):=by
 unfold sp_l8Draw sp_l8Forms
 refine .bp t8 rfl (.bind (exPick g (by omega)) fun k2 ⟨s1,_⟩=>?_)
 have g1:Gd k2.2 150000:=g.to s1 (by omega)
 refine .ite (fun _=>?_) (fun _=>?_)
 ·refine .bind (exPick g1 (by omega)) fun k4 ⟨s2,hv⟩=>?_
  obtain⟨v0,v1⟩:=hv (by decide)
  obtain⟨x,hx,hm⟩:=elem_ok v0 v1
  have hl:=t8_len x hm
  refine .bp x hx (.bind (exParse x (by omega)) fun k6 hk=>.pure ⟨s1.trans s2 (by omega),by simp only; omega⟩)
 ·exact .bind (exDraw7 k2.2 (g1.to (.refl (Int.le_refl 0)) (by omega))) fun k8 ⟨s8,w8⟩=>.pure ⟨s1.trans s8 (by omega),w8⟩
theorem exDrawEval (b:List UInt8):Ex (fun n=>sp_DrawEvalCore n b) (fun k=>wC k.1≤600000000∧(wC k.1≤3000∨validC k.1=true)∧0≤k.2∧k.2≤3001):=by
 unfold sp_DrawEvalCore
 refine .bind (exOpen b) fun k1 g=>.bind (exPick g (by omega)) fun k2 ⟨s2,_⟩=>?_
 have g2:Gd k2.2 900000000:=g.to s2 (by omega)
 refine .ite (fun _=>.bind (exDraw6 b) fun k4 h4=>.pure ⟨by simp only; omega,.inl h4,by simp only; omega,by simp only; omega⟩) (fun _=>?_)
 refine .bind (exDraw8 k2.2 (g2.to (.refl (Int.le_refl 0)) (by omega))) fun k5 ⟨s5,w5⟩=>.bind (expand_ex k5.1 (by omega) 20) fun k6 ⟨e1,e2,_⟩=>?_
 have g5:Gd k5.2 800000000:=g2.to s5 (by omega)
 refine Ex.bind (P:=fun c=>wC c≤600000000∧(wC c≤3000∨validC c=true)) (.ite (fun _=>.bind (exDraw6 b) fun k10 h10=>.pure ⟨by omega,.inl h10⟩) (fun h0=>.pure ⟨e1,.inr (e2 (by simpa using h0))⟩)) ?_
 rintro c ⟨c1,c2⟩
 refine .bind (exNum (by simp) g5 (by omega)) fun k8 ⟨_,hm⟩=>.pure ⟨c1,c2,?_,?_⟩
 all_goals
  simp only[List.mem_cons,List.not_mem_nil,or_false] at hm
  simp only
  omega
theorem exCore12 (b:List UInt8):Ex (fun n=>sp_l12Core n b) (fun c=>wC c≤600000000∧(wC c≤3000∨validC c=true)):=by
 unfold sp_l12Core
 exact .bind (exDrawEval b) fun k h=>.pure ⟨h.1,h.2.1⟩
theorem contS_eq (n:Nat) (l:List (List UInt8)) (x:List UInt8):slices_Contains_string n l x=some (decide (x∈l)):=by
 unfold slices_Contains_string slices_Index_string
 have main:∀(l:List (List UInt8)) (i:Nat),∃k:Int,seqS (Mx.forI (fun(_:Unit) (i:Nat) (y:List UInt8)=>((if x=y then some (Sum.inl (i:Int)) else some (Sum.inr ())):Option (Int⊕Unit))) i l ()) (fun _=>some (-1))=some k∧(k≥0↔x∈l):=by
  intro l
  induction l with
  | nil=>intro i; exact⟨-1,rfl,by simp⟩
  | cons y r ih=>
   intro i
   by_cases h:x=y
   ·subst h
    exact⟨(i:Int),by simp[Mx.forI,Mx.seqS],by simp⟩
   ·obtain⟨k,h1,h2⟩:=ih (i+1)
    refine⟨k,?_,by rw[h2]; simp[h]⟩
    rw[← h1]
    simp[Mx.forI,h]
 obtain⟨k,h1,h2⟩:=main l 0
 rw[h1,Option.bind_some]
 congr 1
 rw[Bool.eq_iff_iff,decide_eq_true_eq,decide_eq_true_eq]; exact h2
def hdK (c:Core):Option Nat:=if c.kind=6 then(match c.kids with
 | []=>none
 | x::_=>some (if x.kind=5 then 0 else if x.kind=2∧x.name∈lp2 then 1 else if x.kind=1 then 2 else 3)) else none
mutual
def hdN (k:Nat):Core→Nat
 | ⟨kd,i,nm,n,ids,dt,kids⟩=>(if hdK ⟨kd,i,nm,n,ids,dt,kids⟩=some k then 1 else 0)+hdNs k kids
def hdNs (k:Nat):List Core→Nat
 | []=>0
 | x::r=>hdN k x+hdNs k r
end
theorem hdN_eq (k:Nat) (c:Core):hdN k c=(if hdK c=some k then 1 else 0)+hdNs k c.kids:=by cases c; simp only[hdN]
mutual
theorem hdN_le (k:Nat):∀c:Core,hdN k c≤cC c
 | ⟨kd,i,nm,n,ids,dt,kids⟩=>by have:=hdNs_le k kids; simp only[hdN,cC]; split <;> omega
theorem hdNs_le (k:Nat):∀l:List Core,hdNs k l≤cCs l
 | []=>by simp[hdNs]
 | x::r=>by have:=hdN_le k x; have:=hdNs_le k r; simp only[hdNs,cCs]; omega
end
def lst (v:Nat→Nat):List Int:=[(v 0:Int),(v 1:Int),(v 2:Int),(v 3:Int)]
theorem lst_len (v:Nat→Nat):(lst v).length=4:=rfl
theorem lst_get {v:Nat→Nat} {k:Nat} (h:k<4):(lst v)[k]? = some (v k:Int):=by
 have:k=0∨k=1∨k=2∨k=3:=by omega
 rcases this with rfl | rfl | rfl | rfl <;> rfl
theorem lst_set {v:Nat→Nat} {k y:Nat} (h:k<4):(lst v).set k (y:Int)=lst (fun j=>if j=k then y else v j):=by
 have:k=0∨k=1∨k=2∨k=3:=by omega
 rcases this with rfl | rfl | rfl | rfl <;> simp[lst]
theorem lst_ext {v w:Nat→Nat} (h:∀k,k<4→v k=w k):lst v=lst w:=by
 unfold lst
 rw[h 0 (by omega),h 1 (by omega),h 2 (by omega),h 3 (by omega)]
theorem lst_up {v:Nat→Nat} {j:Nat} (hj:j<4) (hv:∀k,v k≤1000000000) {o:Option Nat} (ho:o=some j):(lst v).set j (w64 ((v j:Int)+1))=lst (fun k=>v k+if o=some k then 1 else 0):=by
 have:=hv j
 rw[w_id (by omega) (by omega),show((v j:Int)+1)=((v j+1:Nat):Int) by omega,lst_set hj]
 refine lst_ext fun k _=>?_
 subst ho
 by_cases h:k=j
 ·subst h; simp
 ·simp[h,Ne.symm h]
def bmpH (o:Option Nat) (v:Nat→Nat):Nat→Nat:=fun k=>v k+if o=some k then 1 else 0
theorem hdK_cons {c x:Core} {r:List Core} (h6:c.kind=6) (hk:c.kids=x::r):hdK c=some (if x.kind=5 then 0 else if x.kind=2∧x.name∈lp2 then 1 else if x.kind=1 then 2 else 3):=by unfold hdK; rw[if_pos h6,hk]
theorem hdK_nil {c:Core} (hk:c.kids=[]):hdK c=none:=by unfold hdK; rw[hk]; split <;> rfl
theorem hdK_no {c:Core} (h6:¬c.kind=6):hdK c=none:=by unfold hdK; rw[if_neg h6]
theorem hd_step (c:Core) (v:Nat→Nat) (hv:∀k,v k≤1000000000) (n:Nat):im_HeadsOf_1 n c (lst v)=some (lst (bmpH (hdK c) v)):=by
 unfold im_HeadsOf_1 im_isPrimitive
 have z:lst (bmpH none v)=lst v:=lst_ext fun k _=>by simp[bmpH]
 have up:∀j:Nat,j<4→((inB ((j:Nat):Int) (lst v).length).bind fun _=>((lst v)[(Int.toNat ((j:Nat):Int))]?).bind fun e=>(inB ((j:Nat):Int) (lst v).length).bind fun _=>some ((lst v).set (Int.toNat ((j:Nat):Int)) (w64 (e+1))))=some (lst (bmpH (some j) v)):=fun j hj=>by
  have hi:=inB_ok (i:=((j:Nat):Int)) (n:=(lst v).length) (by omega) (by rw[lst_len]; omega)
  rw[hi,Option.bind_some,Int.toNat_natCast,lst_get hj,Option.bind_some,Option.bind_some,lst_up hj hv rfl]
  rfl
 by_cases h6:c.kind=6
 ·rw[if_neg (by simpa using h6)]
  cases hk:c.kids with
  | nil=>rw[hdK_nil hk,z]; rfl
  | cons x r=>
   have h0:atI (x::r) 0=some x:=atI_0 rfl
   have hl:decide (((x::r).length:Int)=0)=false:=by simp; omega
   have hd:=hdK_cons h6 hk
   rw[hl]
   simp only[Option.bind_some,Bool.false_eq_true,if_false,h0,contS_eq]
   by_cases h5:x.kind=5
   ·rw[if_pos h5] at hd
    rw[if_pos h5,hd]; exact up 0 (by omega)
   rw[if_neg h5] at hd
   rw[if_neg h5]
   by_cases h2:x.kind=2
   ·rw[if_pos h2,Option.bind_some]
    by_cases hm:x.name∈lp2
    ·rw[if_pos ⟨h2,hm⟩] at hd
     rw[decide_eq_true hm]
     repeat rw[Option.bind_some]
     rw[if_pos rfl,hd]; exact up 1 (by omega)
    ·have h1:¬x.kind=1:=by omega
     rw[if_neg (fun h=>hm h.2),if_neg h1] at hd
     rw[decide_eq_false hm]
     repeat rw[Option.bind_some]
     rw[if_neg (by simp),if_neg h1,hd]; exact up 3 (by omega)
   ·rw[if_neg (fun h=>h2 h.1)] at hd
    rw[if_neg h2]
    repeat rw[Option.bind_some]
    rw[if_neg (by simp)]
    by_cases h1:x.kind=1
    ·rw[if_pos h1] at hd
     rw[if_pos h1,hd]; exact up 2 (by omega)
    ·rw[if_neg h1] at hd
     rw[if_neg h1,hd]; exact up 3 (by omega)
 ·rw[if_pos h6,hdK_no h6,z]; rfl
theorem ihd_evt (c:Core) (v:Nat→Nat) (hv:∀k,v k+cC c≤1000000000):Evt (fun n=>im_eachCore__im_HeadsOf_1 n c (lst v)) (lst fun k=>v k+hdN k c):=by
 have hc:=cC_eq c
 refine .succ ?_
 simp only[im_eachCore__im_HeadsOf_1]
 refine Ex.evt (.bv ⟨0,fun n _=>hd_step c v (fun k=>by have:=hv k; omega) n⟩ ?_)
 refine Ex.bind (P:=fun s=>s=lst fun k=>v k+hdN k c) ?_ (fun s hs=>.pure hs)
 refine Ex.forL (I:=fun i q s=>∃u:Nat→Nat,s=lst u∧(∀k,u k+hdNs k q=v k+hdN k c)∧(∀k,u k+cCs q≤1000000000)∧∀x∈q,x∈c.kids) ⟨bmpH (hdK c) v,rfl,fun k=>by rw[hdN_eq]; unfold bmpH; omega,fun k=>by have:=hv k; unfold bmpH; split <;> omega,fun _ h=>h⟩ ?_ ?_
 ·rintro i x q s ⟨u,rfl,h1,h2,h3⟩
  have g4:=h3 x List.mem_cons_self
  simp only[hdNs,cCs] at h1 h2
  refine .bv (ihd_evt x u (fun k=>by have:=h2 k; omega)) (.pure ⟨_,rfl,fun k=>by have:=h1 k; omega,fun k=>by have:=h2 k; have:=hdN_le k x; omega,fun y hy=>h3 y (List.mem_cons_of_mem _ hy)⟩)
 ·rintro s ⟨u,rfl,h1,_,_⟩
  exact lst_ext fun k _=>by have:=h1 k; simp only[hdNs] at this; omega
termination_by SizeOf.sizeOf c
decreasing_by exact szC_lt g4
theorem rep4:List.replicate (4:Int).toNat (0:Int)=lst fun _=>0:=rfl
theorem mk84:mkB 8 4=some ():=by decide
theorem ihead_evt (c:Core) (hc:cC c≤1000000000):Evt (fun n=>im_HeadsOf n c) (lst fun k=>hdN k c):=by
 unfold im_HeadsOf
 rw[rep4]
 have h:=ihd_evt c (fun _=>0) (fun k=>by omega)
 simp only[Nat.zero_add] at h
 exact Ex.evt (.bp () mk84 (.bv h (.pure rfl)))
theorem primsH_mem (x:List UInt8):decide (x∈([[43],[60],[61],[108,105,115,116],[104,101,97,100],[116,97,105,108]]:List (List UInt8)))=decide (x∈lp2):=by
 simp only[decide_eq_decide]
 unfold lp2
 simp only[List.mem_cons,List.not_mem_nil,or_false]
 constructor <;> rintro (h | h | h | h | h | h) <;> simp[h]
theorem sinH_eq (n:Nat) (l:List (List UInt8)) (x:List UInt8):sp_l1In n l x=some (decide (x∈l)):=by
 obtain⟨N,h⟩:=mem_evt (xs:=l) (y:=x)
 exact h N (Nat.le_refl N)
theorem shd_evt (c:Core) (v:Nat→Nat) (hv:∀k,v k+cC c≤1000000000):Evt (fun n=>sp_l12Heads n (lst v) c) (lst fun k=>v k+hdN k c):=by
 have hc:=cC_eq c
 refine .succ ?_
 simp only[sp_l12Heads,sp_l8Prims,sinH_eq,primsH_mem,Option.bind_some]
 have z:lst (fun k=>v k+if(none:Option Nat)=some k then 1 else 0)=lst v:=lst_ext fun k _=>by simp
 refine Ex.evt ?_
 refine Ex.bind (P:=fun o=>o=(hdK c).isSome) ?_ ?_
 ·unfold hdK
  by_cases h6:c.kind=6
  ·refine .pos h6 (.pure ?_)
   rw[if_pos h6]
   cases c.kids with
   | nil=>rfl
   | cons x r=>simp
  ·exact .neg h6 (.pure (by rw[if_neg h6]; rfl))
 rintro o rfl
 refine Ex.bind (P:=fun s=>s=lst (fun k=>v k+if hdK c=some k then 1 else 0)) ?_ ?_
 ·cases hk:hdK c with
  | none=>exact .neg (by simp) (.pure z.symm)
  | some j=>
   refine .pos rfl ?_
   have hj:j<4∧∃x r,c.kids=x::r∧j=(if x.kind=5 then 0 else if x.kind=2∧x.name∈lp2 then 1 else if x.kind=1 then 2 else 3):=by
    unfold hdK at hk
    by_cases h6:c.kind=6
    ·rw[if_pos h6] at hk
     cases hkd:c.kids with
     | nil=>rw[hkd] at hk; cases hk
     | cons x r=>
      rw[hkd] at hk
      simp only[Option.some.injEq] at hk
      refine⟨?_,x,r,rfl,hk.symm⟩
      rw[← hk]; split
      ·omega
      ·split
       ·omega
       ·split <;> omega
    ·rw[if_neg h6] at hk; cases hk
   obtain⟨hj4,x,r,hkd,hje⟩:=hj
   rw[hkd]
   refine Ex.bind (P:=fun q=>q=(j:Int)) (.bp x (atI_0 rfl) ?_) ?_
   ·by_cases h5:x.kind=5
    ·exact .pos h5 (.pure (by rw[hje,if_pos h5]; rfl))
    refine .neg h5 ?_
    rw[if_neg h5] at hje
    refine Ex.bind (P:=fun b=>b=decide (x.kind=2∧x.name∈lp2)) ?_ ?_
    ·by_cases h2:x.kind=2
     ·exact .pos h2 (.pure (by simp[h2]))
     ·exact .neg h2 (.pure (by simp[h2]))
    rintro b rfl
    by_cases h2:x.kind=2∧x.name∈lp2
    ·exact .pos (by simpa using h2) (.pure (by rw[hje,if_pos h2]; rfl))
    refine .neg (by simpa using h2) ?_
    rw[if_neg h2] at hje
    by_cases h1:x.kind=1
    ·exact .pos h1 (.pure (by rw[hje,if_pos h1]; rfl))
    ·exact .neg h1 (.pure (by rw[hje,if_neg h1]; rfl))
   ·rintro q rfl
    have hi:=inB_ok (i:=((j:Nat):Int)) (n:=(lst v).length) (by omega) (by rw[lst_len]; omega)
    refine .bp () hi (.bp (v j:Int) (by rw[Int.toNat_natCast]; exact lst_get hj4) (.bp () hi (.pure ?_)))
    rw[Int.toNat_natCast]
    exact lst_up hj4 (fun k=>by have:=hv k; omega) rfl
 rintro s rfl
 refine Ex.bind (P:=fun s=>s=lst fun k=>v k+hdN k c) ?_ (fun s hs=>.pure hs)
 refine Ex.forL (I:=fun i q s=>∃u:Nat→Nat,s=lst u∧(∀k,u k+hdNs k q=v k+hdN k c)∧(∀k,u k+cCs q≤1000000000)∧∀x∈q,x∈c.kids) ⟨bmpH (hdK c) v,rfl,fun k=>by rw[hdN_eq]; unfold bmpH; omega,fun k=>by have:=hv k; unfold bmpH; split <;> omega,fun _ h=>h⟩ ?_ ?_
 ·rintro i x q s ⟨u,rfl,h1,h2,h3⟩
  have g4:=h3 x List.mem_cons_self
  simp only[hdNs,cCs] at h1 h2
  refine .bv (shd_evt x u (fun k=>by have:=h2 k; omega)) (.pure ⟨_,rfl,fun k=>by have:=h1 k; omega,fun k=>by have:=h2 k; have:=hdN_le k x; omega,fun y hy=>h3 y (List.mem_cons_of_mem _ hy)⟩)
 ·rintro s ⟨u,rfl,h1,_,_⟩
  exact lst_ext fun k _=>by have:=h1 k; simp only[hdNs] at this; omega
termination_by SizeOf.sizeOf c
decreasing_by exact szC_lt g4
theorem shead_evt (c:Core) (hc:cC c≤1000000000):Evt (fun n=>sp_HeadsOf n c) (lst fun k=>hdN k c):=by
 unfold sp_HeadsOf
 rw[rep4]
 have h:=shd_evt c (fun _=>0) (fun k=>by omega)
 simp only[Nat.zero_add] at h
 exact Ex.evt (.bp () mk84 (.bv h (.pure rfl)))
theorem mxI_evt (a b:List Int):Evt (fun n=>la_mxInts n a b) (decide (a=b)):=eqIntsE
theorem exFnHeadsParts (b:List UInt8):Evt (fun n=>la_FnHeadsParts n b) true:=by
 refine Ex.evt ?_
 unfold la_FnHeadsParts sp_DrawHeadsOf
 refine .ite (fun _=>.pure rfl) (fun _=>?_)
 refine .bind (P:=fun c=>wC c≤600000000) (.bind (exCore12 b) fun k1 h1=>.pure h1.1) ?_
 intro c hw
 have hcl:=cC_le c
 have hce:=cC_eq c
 refine .bv (ihead_evt c (by omega)) (.bv (shead_evt c (by omega)) (.bv (mxI_evt _ _) (.neg (by simp) ?_)))
 refine Ex.bind (P:=fun s=>s=lst fun k=>hdNs k c.kids) ?_ ?_
 ·refine Ex.forL (I:=fun i q s=>∃u:Nat→Nat,s=lst u∧(∀k,u k+hdNs k q=hdNs k c.kids)∧(∀k,u k+cCs q≤1000000000)∧∀x∈q,x∈c.kids) ⟨fun _=>0,rfl,fun k=>by simp,fun k=>by show 0+cCs c.kids≤_; omega,fun _ h=>h⟩ ?_ ?_
  ·rintro i x q s ⟨u,rfl,h1,h2,h3⟩
   have g4:=h3 x List.mem_cons_self
   have hx:=cCs_mem g4
   simp only[hdNs,cCs] at h1 h2
   refine .bv (ihead_evt x (by omega)) ?_
   refine Ex.iter (μ:=fun t=>(4-t.1).toNat) (I:=fun t=>∃k:Nat,k≤4∧t.1=(k:Int)∧t.2=lst (fun j=>u j+if j<k then hdN j x else 0)) (0,lst u) ⟨0,by omega,rfl,lst_ext fun j _=>by simp⟩ ?_
   rintro ⟨t,w⟩ ⟨k,k4,hk,hw'⟩
   simp only at hk hw'
   subst hk; subst hw'
   refine .ite (fun hlt=>?_) (fun hge=>?_)
   ·have hlt:(k:Int)<4:=hlt
    have hk4:k<4:=by omega
    have hn:=hdN_le k x
    have:=h2 k
    have hi:=inB_ok (i:=((k:Nat):Int)) (n:=(lst (fun j=>u j+if j<k then hdN j x else 0)).length) (by omega) (by rw[lst_len]; omega)
    refine .bp () hi (.bp ((u k:Nat):Int) (by rw[Int.toNat_natCast,lst_get hk4]; simp) (.bp ((hdN k x:Nat):Int) (atI_nat (lst_get hk4)) (.bp () hi (.go ⟨k+1,by omega,w64_nat (by omega),?_⟩ ?_))))
    ·simp only[Int.toNat_natCast]
     rw[w_id (by omega) (by omega),show((u k:Int)+(hdN k x:Int))=((u k+hdN k x:Nat):Int) by omega]
     rw[lst_set hk4]
     refine lst_ext fun j hj=>?_
     by_cases hjk:j=k
     ·subst hjk; simp
     ·rw[if_neg hjk]
      by_cases h:j<k
      ·rw[if_pos h,if_pos (by omega)]
      ·rw[if_neg h,if_neg (by omega)]
    ·simp only
     rw[w64_nat (by omega)]; omega
   ·have hge:¬(k:Int)<4:=hge
    obtain rfl:k=4:=by omega
    refine .out ⟨fun j=>u j+hdN j x,?_,fun k=>?_,fun k=>?_,fun y hy=>h3 y (List.mem_cons_of_mem _ hy)⟩
    ·show lst (fun j=>u j+if j<4 then hdN j x else 0)=_
     exact lst_ext fun j hj=>by rw[if_pos hj]
    ·show u k+hdN k x+hdNs k q=_
     have:=h1 k; omega
    ·show u k+hdN k x+cCs q≤_
     have:=h2 k; have:=hdN_le k x; omega
  ·rintro s ⟨u,rfl,h1,_,_⟩
   exact lst_ext fun k _=>by have:=h1 k; simp only[hdNs] at this; omega
 rintro s rfl
 refine Ex.iter (μ:=fun t=>(4-t.2).toNat) (I:=fun t=>∃k:Nat,k≤4∧t.2=(k:Int)∧t.1=(((match hdK c with | some j=>if j<k then 1 else 0 | none=>0):Nat):Int)) (0,0) ⟨0,by omega,rfl,by cases hdK c <;> simp⟩ ?_
 rintro ⟨t,w⟩ ⟨k,k4,hk,hw'⟩
 simp only at hk hw'
 subst hk
 have h1:(match hdK c with | some j=>if j<k then 1 else 0 | none=>0)≤1:=by
  cases hdK c with
  | none=>simp
  | some j=>simp only; split <;> omega
 refine .ite (fun hlt=>?_) (fun hge=>?_)
 ·have hlt:(k:Int)<4:=hlt
  have hk4:k<4:=by omega
  have hn:=hdN_le k c
  have he:=hdN_eq k c
  have hi:=inB_ok (i:=((k:Nat):Int)) (n:=(lst (fun j=>hdNs j c.kids)).length) (by omega) (by rw[lst_len]; omega)
  refine .bp ((hdN k c:Nat):Int) (atI_nat (lst_get hk4)) (.bp () hi (.bp ((hdNs k c.kids:Nat):Int) (by rw[Int.toNat_natCast]; exact lst_get hk4) (.neg (by omega) (.bp () hi (.go ⟨k+1,by omega,w64_nat (by omega),?_⟩ ?_)))))
  ·have ht:0≤t∧t≤1:=by rw[hw']; omega
   have e1:w64 (t+((hdN k c:Nat):Int))=t+((hdN k c:Nat):Int):=w_id (by omega) (by omega)
   have e2:w64 (t+((hdN k c:Nat):Int)-((hdNs k c.kids:Nat):Int))=t+((hdN k c:Nat):Int)-((hdNs k c.kids:Nat):Int):=w_id (by omega) (by omega)
   simp only
   rw[e1,e2,hw']
   cases hh:hdK c with
   | none=>rw[hh] at he; simp at he ⊢; omega
   | some j=>
    rw[hh] at he
    simp only[Option.some.injEq] at he ⊢
    by_cases e1:j=k
    ·subst e1; simp at he ⊢; omega
    ·rw[if_neg e1] at he
     by_cases e2:j<k
     ·rw[if_pos e2,if_pos (by omega)]; omega
     ·rw[if_neg e2,if_neg (by omega)]; omega
  ·simp only
   rw[w64_nat (by omega)]; omega
 ·exact .out (by simp only; subst hw'; simp only[decide_eq_true_eq]; omega)
theorem lawHeadsParts (l:List Int) (h:l.length≤maxLen∧∀a∈l,(Lit.int .u8 a).wf=true):Mx.ACall X.E 5 [.sl 1 .ro (l.map fun i=>[.v (.int .u8 i)])] [] fun d _=>d=.v (.bool true):=by
 obtain⟨N,hN⟩:=exFnHeadsParts (toB l)
 exact call_true (w_la_FnHeadsParts N (toB l) (hN N (Nat.le_refl _))) (by simp only[ED.DL,ED.D,KD.D,bytes_D h.2]; rfl)
end Go.Ev
