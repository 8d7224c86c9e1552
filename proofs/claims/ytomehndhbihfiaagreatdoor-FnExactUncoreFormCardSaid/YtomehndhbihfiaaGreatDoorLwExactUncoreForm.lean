/- Plain laws of models. No condition. -/
import Derived.Test.YtomehndhbihfiaaGreatDoorMdExactUncoreForm
import Derived.Test.YtomehndhbihfiaaGreatDoorEvTri
import Derived.Test.YtomehndhbihfiaaGreatDoorLinB
import Derived.Test.YtomehndhbihfiaaGreatDoorRawTN
namespace Go.Ev
open Go.Mx (KD ED EObj forL forI seqS iterM)
set_option linter.unusedVariables false
set_option linter.unusedSimpArgs false
theorem Evt.scan {ω:Type} {step:Nat→Int→Option (ω⊕Int)} {p:Nat→Bool} {L:Nat} {no yes:ω} (h1:∀i,i<L→p i=true→Evt (fun n=>step n (i:Int)) (.inr ((i+1:Nat):Int))) (h2:∀i,i<L→p i=false→Evt (fun n=>step n (i:Int)) (.inl no)) (h3:Evt (fun n=>step n (L:Int)) (.inl yes)) :
  Evt (fun n=>iterM n (step n) 0) (if(List.range L).all p=true then yes else no):=by
 obtain⟨w,k1,k2⟩:=iter_ev (step:=step) (fun s=>L-s.toNat) (fun s=>∃i:Nat,i≤L∧s=i∧∀j,j<i→p j=true) (fun w=>w=if(List.range L).all p=true then yes else no) (fun s ⟨i,i1,i2,i3⟩=>by
  subst i2;rcases Nat.lt_or_ge i L with h | h
  ·cases hp:p i with
   | true=>exact .inr ⟨_,h1 i h hp,⟨i+1,by omega,rfl,fun j hj=>by rcases Nat.lt_or_eq_of_le (Nat.le_of_lt_succ hj) with q | q; exact i3 j q; rw[q]; exact hp⟩,by simp; omega⟩
   | false=>
    refine .inl ⟨_,h2 i h hp,?_⟩;rw[if_neg];intro hall;rw[List.all_eq_true] at hall;rw[hall i (List.mem_range.2 h)] at hp; cases hp
  ·have:i=L:=by omega
   subst this;refine .inl ⟨_,h3,?_⟩;rw[if_pos];rw[List.all_eq_true];exact fun j hj=>i3 j (List.mem_range.1 hj)) 0 ⟨0,Nat.zero_le _,rfl,fun j hj=>by omega⟩
 exact k2▸k1
theorem scanI {α ω:Type} {step:Unit→Nat→α→Option (ω⊕Unit)} {p:α→Bool} {no:ω} {f:Unit→Option ω}:∀{xs:List α} {i:Nat},(∀i x,x∈xs→step () i x=if p x=true then some (.inr ()) else some (.inl no))→seqS (Mx.forI step i xs ()) f=if xs.all p=true then f () else some no
 | [],i,_=>by simp[Mx.forI,Mx.seqS]
 | x::r,i,h=>by
  have hx:=h i x (List.mem_cons_self);have ih:=scanI (step:=step) (p:=p) (no:=no) (f:=f) (xs:=r) (i:=i+1) (fun i y hy=>h i y (List.mem_cons_of_mem _ hy));simp only[Mx.forI,hx,List.all_cons,Bool.and_eq_true];cases hp:p x with
  | true=>simpa [hp] using ih
  | false=>simp[Mx.seqS]
theorem w64_nat {i:Nat} (h:i<9223372036854775807):w64 ((i:Int)+1)=((i+1:Nat):Int):=by rw[w_id (by omega) (by omega)]; omega
theorem scanIx {α ω:Type} {step:Unit→Nat→α→Option (ω⊕Unit)} {p:Nat→Bool} {no:ω} {f:Unit→Option ω}:∀{xs:List α} {i:Nat},(∀j x,xs[j]? = some x→step () (i+j) x=if p (i+j)=true then some (.inr ()) else some (.inl no))→seqS (Mx.forI step i xs ()) f=if(List.range xs.length).all (fun j=>p (i+j))=true then f () else some no
 | [],i,_=>by simp[Mx.forI,Mx.seqS]
 | x::r,i,h=>by
  have hx:=h 0 x rfl;have ih:=scanIx (step:=step) (p:=p) (no:=no) (f:=f) (xs:=r) (i:=i+1) (fun j y hy=>by have:=h (j+1) y (by simpa using hy); rwa [show i+(j+1)=i+1+j by omega] at this);simp only[Nat.add_zero] at hx;simp only[Mx.forI,hx,List.length_cons,List.range_succ_eq_map,List.all_cons,List.all_map,Bool.and_eq_true,Nat.add_zero];have e:((fun j=>p (i+j))∘Nat.succ)=fun j=>p (i+1+j):=by funext j; simp only[Function.comp]; congr 1; omega
  rw[e];cases hp:p i with
  | true=>simpa [hp] using ih
  | false=>simp[Mx.seqS]
def chrB (c:UInt8):Bool:=(decide (97≤c.toNat)&&decide (c.toNat≤122))||c==42||c==63||c==61||c==43||c==60
def digB (c:UInt8):Bool:=(decide (48≤c.toNat)&&decide (c.toNat≤57))||c==45
def letB (s:List UInt8) (i:Nat):Bool:=match s[i]? with
 | some c=>chrB c||(!(i==0)&&digB c)
 | none=>false
def nameB (s:List UInt8):Bool:=(decide (s=[46,46,46])||decide (s=[95]))||((List.range s.length).all (letB s)&&(decide (1≤s.length)&&decide (s.length≤12)))
theorem u8_toNat_eq {c d:UInt8}:c=d↔c.toNat=d.toNat:=⟨fun h=>by rw[h],fun h=>UInt8.toNat_inj.1 h⟩
theorem nv_dig (y:UInt8):((if(y.toNat:Int)≥48 then(if(y.toNat:Int)≤57 then some true else some (decide ((y.toNat:Int)=45))) else some (decide ((y.toNat:Int)=45))):Option Bool)=some (digB y):=by
 have e:decide ((y.toNat:Int)=45)=(y==45):=by
  by_cases h:y=45
  ·subst h; rfl
  ·have:¬(y.toNat:Int)=45:=fun h'=>h (u8_toNat_eq.2 (by show y.toNat=45; omega));simp[h,this]
 rw[e];unfold digB;by_cases h1:(y.toNat:Int)≥48
 ·rw[if_pos h1];by_cases h2:(y.toNat:Int)≤57
  ·rw[if_pos h2]; simp[show 48≤y.toNat by omega,show y.toNat≤57 by omega]
  ·rw[if_neg h2]; simp[show ¬y.toNat≤57 by omega]
 ·rw[if_neg h1]; simp[show ¬48≤y.toNat by omega]
theorem iw_eq (n:Nat) (a b c:Int):im_within n a b c=some (decide (b≤a)&&decide (a≤c)):=by
 unfold im_within;by_cases h:a≥b
 ·rw[if_pos h]; simp[show b≤a from h]
 ·rw[if_neg h]; simp[show ¬b≤a from h]
theorem ix_iff:∀(l:List UInt8) (c:UInt8),0≤Lib.indexByte l c↔c∈l
 | [],c=>by simp[Lib.indexByte]
 | b::l,c=>by
  have ih:=ix_iff l c;have hg:=Lib.indexByte_ge l c;unfold Lib.indexByte;by_cases hb:b=c
  ·subst hb; simp
  ·have hb':(b==c)=false:=by simpa using hb
   rw[hb',List.mem_cons,← ih];have hbc:¬c=b:=fun h=>hb h.symm;simp only[Bool.false_eq_true,if_false,hbc,false_or];by_cases h1:Lib.indexByte l c=-1
   ·simp[h1]
   ·simp only[beq_iff_eq,h1,if_false]; omega
theorem ix_mem (l:List UInt8) (c:UInt8):decide (Lib.indexByte l c≥0)=l.contains c:=by
 rw[Bool.eq_iff_iff]; simp only[decide_eq_true_eq,List.contains_iff_mem]; exact ix_iff l c
theorem nv_chr (y:UInt8):((if(y.toNat:Int)≥97 then(if(y.toNat:Int)≤122 then some true else some (decide (Lib.indexByte [42,63,61,43,60] y≥0))) else some (decide (Lib.indexByte [42,63,61,43,60] y≥0))):Option Bool)=some (chrB y):=by
 have e:decide (Lib.indexByte [42,63,61,43,60] y≥0)=(y==42||y==63||y==61||y==43||y==60):=by
  rw[ix_mem]; simp only[List.contains_cons,List.contains_nil,Bool.or_false,Bool.or_assoc]
 rw[e];unfold chrB;by_cases h1:(y.toNat:Int)≥97
 ·rw[if_pos h1];by_cases h2:(y.toNat:Int)≤122
  ·rw[if_pos h2];simp[show 97≤y.toNat by omega,show y.toNat≤122 by omega]
  ·rw[if_neg h2];simp[show ¬y.toNat≤122 by omega]
 ·rw[if_neg h1];simp[show ¬97≤y.toNat by omega]
theorem u8_back (y:UInt8):((y.toNat:Int).toNat).toUInt8=y:=by
 rw[Int.toNat_natCast]; exact UInt8.ofNat_toNat
theorem inv_evt (s:List UInt8) (hs:s.length≤mxL):Evt (fun n=>im_NameValid n s) (nameB s):=by
 unfold mxL at hs;unfold im_NameValid;simp only[strings_IndexByte,u8_back,Option.bind_some,nv_chr,nv_dig];by_cases h0:s=[46,46,46]
 ·simp only[h0,if_true,Option.bind_some]; exact .pure _
 rw[if_neg h0];simp only[Option.bind_some];by_cases h1:s=[95]
 ·simp only[h1,decide_true,if_true]; exact .pure _
 simp only[h1,decide_false,Bool.false_eq_true,if_false];have e:nameB s=if(List.range s.length).all (letB s)=true then(decide (1≤s.length)&&decide (s.length≤12)) else false:=by
  unfold nameB; simp only[h0,h1,decide_false,Bool.false_or,Bool.or_self];cases (List.range s.length).all (letB s) <;> simp
 rw[e];refine Evt.scan (L:=s.length) (p:=letB s) (fun i hi hp=>?_) (fun i hi hp=>?_) ?_
 ·refine .pos (by omega) ?_;have hy:=List.getElem?_eq_getElem hi;unfold letB at hp;rw[hy] at hp;simp only at hp;refine Evt.const ?_;rw[atI_nat hy];simp only[Option.bind_some];cases hc:chrB s[i] with
  | true=>simp only[if_true,Mx.seqS,Option.bind_some,w64_nat (i:=i) (by omega)]
  | false=>
   rw[hc,Bool.false_or,Bool.and_eq_true] at hp;have hi0:(i:Int)>0:=by
    have:i≠0:=by simpa using hp.1
    omega
   simp only[Bool.false_eq_true,if_false,if_pos hi0,nv_dig,hp.2,Option.bind_some,if_true,Mx.seqS,w64_nat (i:=i) (by omega)]
 ·refine .pos (by omega) ?_;have hy:=List.getElem?_eq_getElem hi;unfold letB at hp;rw[hy] at hp;simp only[Bool.or_eq_false_iff] at hp;refine Evt.const ?_;rw[atI_nat hy];simp only[Option.bind_some,hp.1,Bool.false_eq_true,if_false];by_cases hi0:(i:Int)>0
  ·have:(i==0)=false:=by simp; omega
   have hd:digB s[i]=false:=by simpa [this] using hp.2
   simp only[if_pos hi0,nv_dig,hd,Option.bind_some,Bool.false_eq_true,if_false,Mx.seqS]
  ·simp only[if_neg hi0,Option.bind_some,Bool.false_eq_true,if_false,Mx.seqS]
 ·refine .neg (by omega) ?_;simp only[iw_eq,Option.bind_some];refine .const ?_;have a1:decide ((1:Int)≤(s.length:Int))=decide (1≤s.length):=by simp only[decide_eq_decide]; omega
  have a2:decide ((s.length:Int)≤12)=decide (s.length≤12):=by simp only[decide_eq_decide]; omega
  rw[a1,a2]
theorem sl_eq (n:Nat) (y:UInt8) (f:Bool):sp_l1Letter n (y.toNat:Int) f=some (chrB y||(!f&&digB y)):=by
 unfold sp_l1Letter;simp only[nv_dig];have q:∀k:Nat,decide ((y.toNat:Int)=(k:Int))=decide (y.toNat=k):=fun k=>by simp only[decide_eq_decide]; omega
 have e:((if(y.toNat:Int)=42 then some true else(if(y.toNat:Int)=63 then some true else(if(y.toNat:Int)=61 then some true else(if(y.toNat:Int)=43 then some true else some (decide ((y.toNat:Int)=60)))))):Option Bool)=some (y==42||y==63||y==61||y==43||y==60):=by
  have w:∀(k:Nat) (d:UInt8),d.toNat=k→((y.toNat:Int)=(k:Int)↔y=d):=fun k d hd=>by rw[u8_toNat_eq,hd]; omega
  have w1:(y.toNat:Int)=42↔y=42:=w 42 42 rfl;have w2:(y.toNat:Int)=63↔y=63:=w 63 63 rfl;have w3:(y.toNat:Int)=61↔y=61:=w 61 61 rfl;have w4:(y.toNat:Int)=43↔y=43:=w 43 43 rfl;have w5:(y.toNat:Int)=60↔y=60:=w 60 60 rfl;by_cases h1:y=42
  ·rw[if_pos (w1.2 h1),h1]; rfl
  rw[if_neg (fun h=>h1 (w1.1 h))];by_cases h2:y=63
  ·rw[if_pos (w2.2 h2),h2]; rfl
  rw[if_neg (fun h=>h2 (w2.1 h))];by_cases h3:y=61
  ·rw[if_pos (w3.2 h3),h3]; rfl
  rw[if_neg (fun h=>h3 (w3.1 h))];by_cases h4:y=43
  ·rw[if_pos (w4.2 h4),h4]; rfl
  rw[if_neg (fun h=>h4 (w4.1 h))];have:decide ((y.toNat:Int)=60)=(y==60):=by rw[Bool.eq_iff_iff]; simp only[decide_eq_true_eq,beq_iff_eq]; exact w5
  rw[this];simp[h1,h2,h3,h4]
 rw[e];have e2:((if(y.toNat:Int)≥97 then(if(y.toNat:Int)≤122 then some true else some (y==42||y==63||y==61||y==43||y==60)) else some (y==42||y==63||y==61||y==43||y==60)):Option Bool)=some (chrB y):=by
  unfold chrB;by_cases h1:(y.toNat:Int)≥97
  ·rw[if_pos h1];by_cases h2:(y.toNat:Int)≤122
   ·rw[if_pos h2]; simp[show 97≤y.toNat by omega,show y.toNat≤122 by omega]
   ·rw[if_neg h2]; simp[show ¬y.toNat≤122 by omega]
  ·rw[if_neg h1]; simp[show ¬97≤y.toNat by omega]
 rw[e2];cases chrB y <;> cases f <;> simp
theorem snv_evt (s:List UInt8) (hs:s.length≤mxL):Evt (fun n=>sp_NameValid n s) (nameB s):=by
 unfold mxL at hs;unfold sp_NameValid;simp only[sl_eq,Option.bind_some];by_cases h0:s=[46,46,46]
 ·simp only[h0,if_true,Option.bind_some]; exact .pure _
 rw[if_neg h0];simp only[Option.bind_some];by_cases h1:s=[95]
 ·simp only[h1,decide_true,if_true]; exact .pure _
 simp only[h1,decide_false,Bool.false_eq_true,if_false];have hb:nameB s=if(List.range (min s.length 13)).all (letB s)=true then(decide (1≤s.length)&&decide (s.length≤12)) else false:=by
  unfold nameB; simp only[h0,h1,decide_false,Bool.false_or,Bool.or_self];by_cases hl:s.length≤12
  ·rw[Nat.min_eq_left (by omega)];cases (List.range s.length).all (letB s) <;> simp
  ·simp[hl]
 rw[hb];refine Evt.scan (L:=min s.length 13) (p:=letB s) (fun i hi hp=>?_) (fun i hi hp=>?_) ?_
 ·have hi':i<s.length:=by omega
  have hy:=List.getElem?_eq_getElem hi';unfold letB at hp;rw[hy] at hp;simp only at hp;refine Evt.const ?_;have c1:(i:Int)<(s.length:Int):=by omega
  have c2:decide ((i:Int)≤12)=true:=by simp; omega
  have c3:decide ((i:Int)=0)=(i==0):=by rw[Bool.eq_iff_iff]; simp
  rw[if_pos c1,c2,c3];simp only[Option.bind_some,if_true,atI_nat hy,hp,Bool.not_true,Bool.false_eq_true,if_false,w64_nat (i:=i) (by omega)]
 ·have hi':i<s.length:=by omega
  have hy:=List.getElem?_eq_getElem hi';unfold letB at hp;rw[hy] at hp;simp only at hp;refine Evt.const ?_;have c1:(i:Int)<(s.length:Int):=by omega
  have c2:decide ((i:Int)≤12)=true:=by simp; omega
  have c3:decide ((i:Int)=0)=(i==0):=by rw[Bool.eq_iff_iff]; simp
  rw[if_pos c1,c2,c3];simp only[Option.bind_some,if_true,atI_nat hy,hp,Bool.not_false]
 ·refine Evt.const ?_;have e:((if((min s.length 13:Nat):Int)<(s.length:Int) then some (decide (((min s.length 13:Nat):Int)≤12)) else some false):Option Bool)=some false:=by
   by_cases h:((min s.length 13:Nat):Int)<(s.length:Int)
   ·rw[if_pos h]; congr 1; simp; omega
   ·rw[if_neg h]
  rw[e];have a1:decide ((s.length:Int)≤12)=decide (s.length≤12):=by simp only[decide_eq_decide]; omega
  by_cases h:(s.length:Int)≥1
  ·simp only[Option.bind_some,Bool.false_eq_true,if_false,if_pos h,a1,show decide (1≤s.length)=true from decide_eq_true (by omega),Bool.true_and]
  ·simp only[Option.bind_some,Bool.false_eq_true,if_false,if_neg h,show decide (1≤s.length)=false from decide_eq_false (by omega),Bool.false_and]
def scP (l:List Int) (i:Nat):Bool:=match l[i]? with
 | some x=>(decide (1≤x)&&decide (x≤99))&&(i==0||(match l[i-1]? with
  | some y=>decide (y<x)
  | none=>false))
 | none=>false
def scB (l:List Int):Bool:=(List.range l.length).all (scP l)&&decide (l.length≤24)
def fmB:Nat→Form→Bool
 | 0,_=>false
 | d+1,f=>if f.kind=1 then nameB f.name&&(decide (f.n=0)&&(scB f.scopes&&decide (f.kids.length=0))) else
   if f.kind=2 then decide (f.name=[])&&((decide (0≤f.n)&&decide (f.n≤999))&&(decide (f.scopes.length=0)&&decide (f.kids.length=0))) else
   if f.kind=3 then decide (f.name=[])&&(decide (f.n=0)&&(decide (f.scopes.length=0)&&f.kids.all (fmB d))) else false
mutual
def cF:Form→Nat
 | ⟨_,_,_,_,kids⟩=>1+cFs kids
def cFs:List Form→Nat
 | []=>0
 | x::r=>cF x+cFs r
end
theorem cF_eq (f:Form):cF f=1+cFs f.kids:=by cases f; simp only[cF]
mutual
theorem cF_le:∀f:Form,cF f≤wF f+1
 | ⟨k,nm,n,sc,kids⟩=>by have:=cFs_le kids; simp only[cF,wF]; omega
theorem cFs_le:∀l:List Form,cFs l≤wFs l+l.length
 | []=>by simp[cFs]
 | x::r=>by have:=cF_le x; have:=cFs_le r; simp only[cFs,wFs,List.length_cons]; omega
end
theorem cFs_mem:∀{l:List Form} {x:Form},x∈l→cF x≤cFs l
 | y::r,x,h=>by
  simp only[cFs];rcases List.mem_cons.1 h with rfl | h
  ·omega
  ·have:=cFs_mem h; omega
def validF (f:Form):Bool:=fmB 40 f&&decide (cF f≤400)
mutual
theorem okF_w:∀f:Form,wF f≤1073741824→okF f
 | ⟨k,nm,n,sc,kids⟩,h=>by simp only[wF] at h; simp only[okF,mxL]; exact⟨by omega,by omega,by omega,okFs_w kids (by omega)⟩
theorem okFs_w:∀l:List Form,wFs l≤1073741824→okFs l
 | [],_=>trivial
 | x::r,h=>by simp only[wFs] at h; simp only[okFs]; exact⟨okF_w x (by omega),okFs_w r (by omega)⟩
end
theorem isc_eq (n:Nat) (l:List Int) (hl:l.length≤mxL):im_scopesOk n l=some (scB l):=by
 unfold mxL at hl;unfold im_scopesOk;rw[scanIx (p:=scP l) (no:=false)]
 ·simp only[Nat.zero_add];unfold scB;have a2:decide ((l.length:Int)≤24)=decide (l.length≤24):=by simp only[decide_eq_decide]; omega
  show(if(List.range l.length).all (scP l)=true then _ else _)=_;rw[a2];cases (List.range l.length).all (scP l) <;> simp
 ·intro j x hx;simp only[Nat.zero_add];have hj:j<l.length:=(List.getElem?_eq_some_iff.1 hx).1;simp only[iw_eq,Option.bind_some,scP,hx];by_cases h1:(decide (1≤x)&&decide (x≤99))=true
  ·simp only[h1,Bool.not_true,Bool.false_eq_true,if_false,Bool.true_and];by_cases h0:(j:Int)>0
   ·have e:w64 ((j:Int)-1)=((j-1:Nat):Int):=by rw[w_id (by omega) (by omega)]; omega
    have hy:=List.getElem?_eq_getElem (l:=l) (i:=j-1) (by omega);have hj0:(j==0)=false:=by simp; omega
    rw[if_pos h0,e,atI_nat hy,hj0];simp only[Option.bind_some,hy,Bool.false_or];by_cases hlt:l[j-1]<x
    ·simp[hlt]
    ·simp[hlt,show l[j-1]≥x by omega]
   ·have hj0:j=0:=by omega
    subst hj0;simp
  ·have h1':(decide (1≤x)&&decide (x≤99))=false:=by simpa using h1
   simp[h1']
theorem ifo_ex (f:Form) (hf:okF f) (d:Nat) (hd:d≤40) (L:Nat) (hL:L≤400):Ex (fun n=>im_formOk n f ((41-d:Nat):Int) (L:Int)) (fun r=>(r.1=true↔fmB d f=true∧cF f≤L)∧(r.1=true→r.2=((L-cF f:Nat):Int))):=by
 obtain⟨o1,o2,o3,o4⟩:=(okF_eq f).1 hf;have hc:=cF_eq f;refine .succ ?_;simp only[im_formOk];have e1:w64 ((L:Int)-1)=(L:Int)-1:=w_id (by omega) (by omega);rw[e1];by_cases h0:(L:Int)-1<0
 ·simp only[if_pos h0,Option.bind_some,if_true];refine .pure ⟨⟨fun h=>(by cases h),fun h=>(by omega)⟩,fun h=>(by cases h)⟩
 rw[if_neg h0];by_cases hd0:d=0
 ·subst hd0;simp only[show decide (((41-0:Nat):Int)>40)=true from rfl,Option.bind_some,if_true];refine .pure ⟨⟨fun h=>(by cases h),fun h=>(by simp[fmB] at h)⟩,fun h=>(by cases h)⟩
 obtain⟨d,rfl⟩:∃e,d=e+1:=⟨d-1,by omega⟩
 have hdd:decide (((41-(d+1):Nat):Int)>40)=false:=by simp; omega
 simp only[hdd,Option.bind_some,Bool.false_eq_true,if_false,fmB];have kz:decide ((f.kids.length:Int)=0)=decide (f.kids.length=0):=by simp only[decide_eq_decide]; omega
 have sz:decide ((f.scopes.length:Int)=0)=decide (f.scopes.length=0):=by simp only[decide_eq_decide]; omega
 have fin:∀b:Bool,(f.kids.length=0∨b=false)→((b,(L:Int)-1).1=true↔b=true∧cF f≤L)∧((b,(L:Int)-1).1=true→(b,(L:Int)-1).2=((L-cF f:Nat):Int)):=fun b hb=>by
  rcases hb with hb | hb
  ·have hk:f.kids=[]:=List.eq_nil_of_length_eq_zero hb;have hc1:cF f=1:=by rw[hc,hk]; rfl
   exact⟨⟨fun h=>⟨h,by omega⟩,fun h=>h.1⟩,fun _=>by simp only; omega⟩
  ·subst hb;exact⟨⟨fun h=>(by cases h),fun h=>(by cases h.1)⟩,fun h=>(by cases h)⟩
 by_cases k1:f.kind=1
 ·rw[if_pos k1];simp only[if_pos k1];refine Ex.bind (P:=fun b=>b=(nameB f.name&&(decide (f.n=0)&&(scB f.scopes&&decide (f.kids.length=0))))) ?_ ?_
  ·refine .bv (inv_evt _ o1) ?_;cases hn:nameB f.name with
   | false=>exact .neg (by simp) (.pure (by simp))
   | true=>
    refine .pos rfl ?_;by_cases h2:f.n=0
    ·refine .pos h2 ?_;simp only[isc_eq _ _ o2,Option.bind_some];cases hs:scB f.scopes with
     | false=>exact .neg (by simp) (.pure (by simp))
     | true=>exact .pos rfl (.pure (by simp[kz,h2]))
    ·exact .neg h2 (.pure (by simp[h2]))
  ·rintro b rfl;refine .pure (fin _ ?_);by_cases hk:f.kids.length=0
   ·exact .inl hk
   ·exact .inr (by simp[hk])
 rw[if_neg k1];simp only[if_neg k1];by_cases k2:f.kind=2
 ·rw[if_pos k2];simp only[if_pos k2];refine Ex.bind (P:=fun b=>b=(decide (f.name=[])&&((decide (0≤f.n)&&decide (f.n≤999))&&(decide (f.scopes.length=0)&&decide (f.kids.length=0))))) ?_ ?_
  ·by_cases h1:f.name=[]
   ·refine .pos h1 ?_;simp only[iw_eq,Option.bind_some];by_cases h2:(decide (0≤f.n)&&decide (f.n≤999))=true
    ·refine .pos h2 ?_;by_cases h3:f.scopes.length=0
     ·exact .pos (by omega) (.pure (by rw[kz,h2]; simp only[h1,h3,decide_true,Bool.true_and]))
     ·exact .neg (by omega) (.pure (by simp only[h3,decide_false,Bool.false_and,Bool.and_false]))
    ·exact .neg h2 (.pure (by simp only[Bool.not_eq_true] at h2; rw[h2]; simp))
   ·exact .neg h1 (.pure (by simp[h1]))
  ·rintro b rfl;refine .pure (fin _ ?_);by_cases hk:f.kids.length=0
   ·exact .inl hk
   ·exact .inr (by simp[hk])
 rw[if_neg k2];simp only[if_neg k2];by_cases k3:f.kind=3
 ·rw[if_pos k3];simp only[if_pos k3];refine Ex.bind (P:=fun b=>b=!(decide (f.name=[])&&(decide (f.n=0)&&decide (f.scopes.length=0)))) ?_ ?_
  ·by_cases h1:f.name=[]
   ·refine .neg (by simp[h1]) ?_;by_cases h2:f.n=0
    ·refine .neg (by simp[h2]) (.pure ?_);by_cases h3:f.scopes.length=0
     ·have h3':¬(f.scopes.length:Int)>0:=by omega
      rw[decide_eq_false h3',decide_eq_true h1,decide_eq_true h2,decide_eq_true h3]; rfl
     ·have h3':(f.scopes.length:Int)>0:=by omega
      rw[decide_eq_true h3',decide_eq_true h1,decide_eq_true h2,decide_eq_false h3]; rfl
    ·exact .pos h2 (.pure (by simp[h1,h2]))
   ·exact .pos h1 (.pure (by simp[h1]))
  ·rintro b rfl;cases hq:(decide (f.name=[])&&(decide (f.n=0)&&decide (f.scopes.length=0))) with
   | false=>
    refine .pos rfl (.pure ⟨⟨fun h=>(by cases h),fun h=>?_⟩,fun h=>(by cases h)⟩);have:=h.1;simp only[Bool.and_eq_true] at this;rw[this.1,this.2.1,this.2.2.1] at hq; cases hq
   | true=>
    have hq':∀b,(decide (f.name=[])&&(decide (f.n=0)&&(decide (f.scopes.length=0)&&b)))=b:=fun b=>by
     simp only[Bool.and_eq_true] at hq;rw[hq.1,hq.2.1,hq.2.2]; simp
    rw[hq'];refine .neg (by simp) ?_;have e2:w64 (((41-(d+1):Nat):Int)+1)=((41-d:Nat):Int):=by rw[w_id (by omega) (by omega)]; omega
    rw[e2];refine Ex.seqS (P:=fun o=>match o with
     | .inl w=>w.1=false∧¬(f.kids.all (fmB d)=true∧cFs f.kids≤L-1)
     | .inr s=>f.kids.all (fmB d)=true∧cFs f.kids≤L-1∧s=((L-1-cFs f.kids:Nat):Int)) ?_ ?_ ?_
    ·refine Ex.forI (I:=fun i q s=>∃u:Nat,s=(u:Int)∧u≤400∧(f.kids.all (fmB d)=true∧cFs f.kids≤L-1↔q.all (fmB d)=true∧cFs q≤u)∧u+cFs f.kids=L-1+cFs q∧∀x∈q,x∈f.kids) ?_ ?_ ?_
     ·exact⟨L-1,by omega,by omega,Iff.rfl,rfl,fun _ h=>h⟩
     ·rintro i x q s ⟨u,rfl,hu,hiff,hsum,hmem⟩;have hx:=hmem x (List.mem_cons_self);refine Ex.bind (ifo_ex x (okFs_iff.1 o4 x hx) d (by omega) u hu) ?_;rintro ⟨b,s'⟩ ⟨r1,r2⟩;simp only at r1 r2;cases b with
      | false=>
       refine .pos rfl (.fo ⟨rfl,fun h=>?_⟩);have h':=hiff.1 h;simp only[List.all_cons,Bool.and_eq_true,cFs] at h';have:=r1.2 ⟨h'.1.1,by omega⟩;cases this
      | true=>
       obtain⟨q1,q2⟩:=r1.1 rfl;refine .neg (by simp) (.fg ⟨u-cF x,r2 rfl,by omega,?_,by simp only[cFs] at hsum; omega,fun y hy=>hmem y (List.mem_cons_of_mem _ hy)⟩);rw[hiff];simp only[List.all_cons,Bool.and_eq_true,cFs,q1,true_and];constructor <;> intro h <;> exact⟨h.1,by omega⟩
     ·rintro s ⟨u,rfl,hu,hiff,hsum,_⟩;have h:=hiff.2 ⟨rfl,by simp[cFs]⟩;simp only[cFs] at hsum;exact⟨h.1,h.2,by omega⟩
    ·rintro ⟨b,s⟩ ⟨h1,h2⟩;simp only at h1;subst h1;refine⟨⟨fun h=>(by cases h),fun h=>absurd ⟨h.1,by omega⟩ h2⟩,fun h=>(by cases h)⟩
    ·rintro s ⟨h1,h2,h3⟩;exact .pure ⟨⟨fun _=>⟨h1,by omega⟩,fun _=>rfl⟩,fun _=>by simp only; omega⟩
 ·rw[if_neg k3];simp only[if_neg k3];exact .pure ⟨⟨fun h=>(by cases h),fun h=>(by cases h.1)⟩,fun h=>(by cases h)⟩
termination_by SizeOf.sizeOf f
decreasing_by exact szF_lt hx
theorem ifv_evt (f:Form) (hf:okF f):Evt (fun n=>im_FormValid n f) (validF f):=by
 refine Ex.evt ?_;unfold im_FormValid;refine Ex.bind (ifo_ex f hf 40 (by omega) 400 (by omega)) ?_;rintro ⟨b,s⟩ ⟨r1,_⟩;refine .pure ?_;simp only at r1 ⊢;unfold validF;rw[Bool.eq_iff_iff,r1];simp
theorem ssc_evt (l:List Int) (hl:l.length≤mxL):Evt (fun n=>sp_l1Scopes n l) (scB l):=by
 unfold mxL at hl;unfold sp_l1Scopes;have hb:scB l=if(List.range (min l.length 25)).all (scP l)=true then decide (l.length≤24) else false:=by
  unfold scB;by_cases h:l.length≤24
  ·rw[Nat.min_eq_left (by omega)];cases (List.range l.length).all (scP l) <;> simp
  ·simp[h]
 rw[hb];have step:∀i,i<min l.length 25→(Option.bind ((if(i:Int)<(l.length:Int) then some (decide ((i:Int)≤24)) else some false):Option (Bool)) (fun(o3:Bool)=>(if o3=true then Option.bind ((atI l (i:Int)).bind fun e7=>(if e7<1 then some true else(if e7>99 then some true else(if(i:Int)>0 then(atI l (w64 ((i:Int)-1))).bind fun e11=>some (decide (e7≤e11)) else some false))):Option (Bool)) (fun(o5:Bool)=>(if o5=true then some (Sum.inl false) else some (Sum.inr (w64 ((i:Int)+1))))) else some (Sum.inl (decide ((l.length:Int)≤24))))):Option (Bool⊕Int))=if scP l i=true then some (.inr ((i+1:Nat):Int)) else some (.inl false):=fun i hi=>by
  have hi':i<l.length:=by omega
  have hy:=List.getElem?_eq_getElem hi';rw[if_pos (by omega),decide_eq_true (by omega:(i:Int)≤24)];simp only[Option.bind_some,if_true,atI_nat hy,w64_nat (i:=i) (by omega),scP,hy];by_cases h1:l[i]<1
  ·rw[if_pos h1]; simp[show ¬1≤l[i] by omega]
  rw[if_neg h1];by_cases h2:l[i]>99
  ·rw[if_pos h2]; simp[show ¬l[i]≤99 by omega]
  rw[if_neg h2];by_cases h0:(i:Int)>0
  ·have e:w64 ((i:Int)-1)=((i-1:Nat):Int):=by rw[w_id (by omega) (by omega)]; omega
   have hz:=List.getElem?_eq_getElem (l:=l) (i:=i-1) (by omega);have hi0:(i==0)=false:=by simp; omega
   rw[if_pos h0,e,atI_nat hz,hi0];simp only[Option.bind_some,hz,Bool.false_or];by_cases hlt:l[i-1]<l[i]
   ·simp[hlt,show 1≤l[i] by omega,show l[i]≤99 by omega]
   ·simp[hlt,show l[i]≤l[i-1] by omega]
  ·have hi0:(i==0)=true:=by simp; omega
   rw[if_neg h0,hi0];simp[show 1≤l[i] by omega,show l[i]≤99 by omega]
 refine Evt.scan (L:=min l.length 25) (p:=scP l) (fun i hi hp=>.const ?_) (fun i hi hp=>.const ?_) (.const ?_)
 ·rw[step i hi,if_pos hp]
 ·rw[step i hi,if_neg (by simp[hp])]
 ·have e:((if((min l.length 25:Nat):Int)<(l.length:Int) then some (decide (((min l.length 25:Nat):Int)≤24)) else some false):Option Bool)=some false:=by
   by_cases h:((min l.length 25:Nat):Int)<(l.length:Int)
   ·rw[if_pos h]; congr 1; simp; omega
   ·rw[if_neg h]
  have a1:decide ((l.length:Int)≤24)=decide (l.length≤24):=by simp only[decide_eq_decide]; omega
  rw[e,a1]; rfl
theorem Ex.allI {α ω:Type} {m:Nat→α→Option Bool} {p:α→Bool} {no:ω} {xs:List α} {f:Nat→Unit→Option ω} {Q:ω→Prop} (h:∀x∈xs,Evt (fun n=>m n x) (p x)) (hy:xs.all p=true→Ex (fun n=>f n ()) Q) (hn:xs.all p=false→Q no) :
  Ex (fun n=>Mx.seqS (Mx.forI (fun(_:Unit) (_:Nat) (x:α)=>((m n x).bind fun k=>(if(!k)=true then some (Sum.inl no) else some (Sum.inr ())):Option (ω⊕Unit))) 0 xs ()) (f n)) Q:=by
 refine Ex.seqS (P:=fun o=>match o with
  | .inl w=>w=no∧xs.all p=false
  | .inr _=>xs.all p=true) ?_ ?_ ?_
 ·refine Ex.forI (I:=fun i q s=>(∀x∈q,x∈xs)∧xs.all p=q.all p) ⟨fun _ h=>h,rfl⟩ ?_ ?_
  ·rintro i x q s ⟨h1,h2⟩;refine .bv (h x (h1 x (List.mem_cons_self))) ?_;cases hp:p x with
   | true=>exact .neg (by simp) (.fg ⟨fun y hy=>h1 y (List.mem_cons_of_mem _ hy),by rw[h2,List.all_cons,hp,Bool.true_and]⟩)
   | false=>exact .pos rfl (.fo ⟨rfl,by rw[h2,List.all_cons,hp,Bool.false_and]⟩)
  ·rintro s ⟨_,h2⟩;exact h2
 ·rintro w ⟨rfl,h⟩; exact hn h
 ·rintro ⟨⟩ h; exact hy h
theorem sis_evt (f:Form) (hf:okF f) (d:Nat) (hd:d≤40):Evt (fun n=>sp_l1Is n f (d:Int)) (fmB d f):=by
 obtain⟨o1,o2,o3,o4⟩:=(okF_eq f).1 hf;refine .succ ?_;simp only[sp_l1Is];by_cases hd0:d=0
 ·subst hd0;exact .pos rfl (.pure _)
 obtain⟨d,rfl⟩:∃e,d=e+1:=⟨d-1,by omega⟩
 refine .neg (by omega) ?_;have kz:decide ((f.kids.length:Int)=0)=decide (f.kids.length=0):=by simp only[decide_eq_decide]; omega
 simp only[fmB];refine Ex.evt ?_;by_cases k1:f.kind=1
 ·rw[if_pos k1];simp only[if_pos k1];refine Ex.bind (P:=fun b=>b=(nameB f.name&&(decide (f.n=0)&&(scB f.scopes&&decide (f.kids.length=0))))) ?_ (fun b hb=>.pure hb);refine .bv (snv_evt _ o1) ?_;cases hn:nameB f.name with
  | false=>exact .neg (by simp) (.pure (by simp))
  | true=>
   refine .pos rfl ?_;by_cases h2:f.n=0
   ·refine .pos h2 (.bv (ssc_evt _ o2) ?_);cases hs:scB f.scopes with
    | false=>exact .neg (by simp) (.pure (by simp))
    | true=>exact .pos rfl (.pure (by simp[kz,h2]))
   ·exact .neg h2 (.pure (by simp[h2]))
 rw[if_neg k1];simp only[if_neg k1];by_cases k2:f.kind=2
 ·rw[if_pos k2];simp only[if_pos k2];refine Ex.bind (P:=fun b=>b=(decide (f.name=[])&&((decide (0≤f.n)&&decide (f.n≤999))&&(decide (f.scopes.length=0)&&decide (f.kids.length=0))))) ?_ (fun b hb=>.pure hb);by_cases h1:f.name=[]
  ·refine .pos h1 ?_;by_cases h2:f.n≥0
   ·refine .pos h2 ?_;by_cases h4:f.n≤999
    ·refine .pos h4 ?_;by_cases h3:f.scopes.length=0
     ·exact .pos (by omega) (.pure (by rw[kz,decide_eq_true h1,decide_eq_true (show 0≤f.n from h2),decide_eq_true h4,decide_eq_true h3]; simp))
     ·exact .neg (by omega) (.pure (by rw[decide_eq_false h3]; simp))
    ·exact .neg h4 (.pure (by rw[decide_eq_false h4]; simp))
   ·exact .neg h2 (.pure (by rw[decide_eq_false (show ¬0≤f.n from h2)]; simp))
  ·exact .neg h1 (.pure (by simp[h1]))
 rw[if_neg k2];simp only[if_neg k2];by_cases k3:f.kind=3
 ·simp only[k3,not_true_eq_false,if_false,if_true];refine Ex.bind (P:=fun b=>b=!(decide (f.name=[])&&(decide (f.n=0)&&decide (f.scopes.length=0)))) ?_ ?_
  ·by_cases h1:f.name=[]
   ·refine .neg (by simp[h1]) ?_;by_cases h2:f.n=0
    ·refine .neg (by simp[h2]) (.pure ?_);by_cases h3:f.scopes.length=0
     ·have h3':¬¬(f.scopes.length:Int)=0:=by omega
      rw[decide_eq_false h3',decide_eq_true h1,decide_eq_true h2,decide_eq_true h3]; rfl
     ·have h3':¬(f.scopes.length:Int)=0:=by omega
      rw[decide_eq_true h3',decide_eq_true h1,decide_eq_true h2,decide_eq_false h3]; rfl
    ·exact .pos h2 (.pure (by simp[h1,h2]))
   ·exact .pos h1 (.pure (by simp[h1]))
  ·rintro b rfl;have hq':(decide (f.name=[])&&(decide (f.n=0)&&(decide (f.scopes.length=0)&&f.kids.all (fmB d))))=((decide (f.name=[])&&(decide (f.n=0)&&decide (f.scopes.length=0)))&&f.kids.all (fmB d)):=by simp only[Bool.and_assoc]
   rw[hq'];cases (decide (f.name=[])&&(decide (f.n=0)&&decide (f.scopes.length=0))) with
   | false=>exact .pos rfl (.pure rfl)
   | true=>
    refine .neg (by simp) ?_;have e2:w64 (((d+1:Nat):Int)-1)=(d:Int):=by rw[w_id (by omega) (by omega)]; omega
    rw[e2];exact Ex.allI (m:=fun n x=>sp_l1Is n x (d:Int)) (p:=fmB d) (fun x hx=>sis_evt x (okFs_iff.1 o4 x hx) d (by omega)) (fun h=>.pure (by rw[h]; rfl)) (fun h=>by rw[h]; rfl)
 ·simp only[if_neg k3];refine Ex.bind (P:=fun b=>b=true) (.pos k3 (.pure rfl)) ?_;rintro b rfl;exact .pos rfl (.pure rfl)
termination_by SizeOf.sizeOf f
decreasing_by exact szF_lt hx
theorem Ex.sumL {α:Type} {m:Nat→α→Option Int} {c:α→Nat} {cs:List α→Nat} (hn:cs []=0) (hc:∀x r,cs (x::r)=c x+cs r) {xs:List α} {b:Nat} (hb:b+cs xs≤4611686018427387904) (h:∀x∈xs,Evt (fun n=>m n x) (c x:Int)) :
  Evt (fun n=>Mx.forL (fun(s:Int) (_:Nat) (x:α)=>(m n x).bind fun k=>some (w64 (s+k))) 0 xs (b:Int)) ((b+cs xs:Nat):Int):=by
 refine Ex.evt ?_;refine Ex.forL (I:=fun i q s=>∃u:Nat,s=(u:Int)∧u+cs q=b+cs xs∧∀x∈q,x∈xs) ⟨b,rfl,rfl,fun _ h=>h⟩ ?_ ?_
 ·rintro i x q s ⟨u,rfl,h1,h2⟩;refine .bv (h x (h2 x (List.mem_cons_self))) (.pure ⟨u+c x,?_,by rw[hc] at h1; omega,fun y hy=>h2 y (List.mem_cons_of_mem _ hy)⟩);rw[hc] at h1;rw[w_id (by omega) (by omega)]; omega
 ·rintro s ⟨u,rfl,h1,_⟩;rw[hn] at h1;rw[← h1]; rfl
theorem sct_evt (f:Form) (hw:cF f≤4611686018427387904):Evt (fun n=>sp_l1Count n f) (cF f:Int):=by
 have hc:=cF_eq f;refine .succ ?_;simp only[sp_l1Count];rw[hc];refine .bind (a:=((1+cFs f.kids:Nat):Int)) ?_ (.pure _);exact Ex.sumL (b:=1) (c:=cF) (cs:=cFs) rfl (fun _ _=>rfl) (by omega) (fun x hx=>sct_evt x (by have:=cFs_mem hx; omega))
termination_by SizeOf.sizeOf f
decreasing_by exact szF_lt hx
theorem sfv_evt (f:Form) (hf:okF f) (hw:cF f≤4611686018427387904):Evt (fun n=>sp_FormValid n f) (validF f):=by
 refine Ex.evt ?_;unfold sp_FormValid validF;refine Ex.bind (P:=fun b=>b=(fmB 40 f&&decide (cF f≤400))) ?_ (fun b hb=>.pure hb);refine .bv (sis_evt f hf 40 (by omega)) ?_;cases fmB 40 f with
 | false=>exact .neg (by simp) (.pure rfl)
 | true=>
  refine .pos rfl (.bv (sct_evt f hw) (.pure ?_));rw[Bool.true_and]; simp only[decide_eq_decide]; omega
def all2 {α β:Type} (p:α→β→Bool):List α→List β→Bool
 | [],[]=>true
 | x::r,y::s=>p x y&&all2 p r s
 | _,_=>false
theorem Ex.eqI {α:Type} {m:Nat→α→α→Option Bool} {p:α→α→Bool} {xs ys:List α} (hl:xs.length=ys.length) (h:∀x∈xs,∀y,Evt (fun n=>m n x y) (p x y)) :
  Evt (fun n=>Mx.seqS (Mx.forI (fun(_:Unit) (i:Nat) (x:α)=>((atI ys (i:Int)).bind fun e=>(m n x e).bind fun k=>(if(!k)=true then some (Sum.inl false) else some (Sum.inr ())):Option (Bool⊕Unit))) 0 xs ()) (fun _=>some true)) (all2 p xs ys):=by
 refine Ex.evt ?_;refine Ex.seqS (P:=fun o=>match o with
  | .inl w=>w=false∧all2 p xs ys=false
  | .inr _=>all2 p xs ys=true) ?_ ?_ ?_
 ·refine Ex.forI (I:=fun i q s=>(∀x∈q,x∈xs)∧∃z,ys.drop i=z∧q.length=z.length∧all2 p xs ys=all2 p q z) ⟨fun _ h=>h,ys,rfl,hl,rfl⟩ ?_ ?_
  ·rintro i x q s ⟨h1,z,hz,h3,h2⟩;cases z with
   | nil=>simp at h3
   | cons y z=>
    obtain⟨g1,g2,_,_⟩:=drop_hd hz;refine .bp y (atI_nat g1) (.bv (h x (h1 x (List.mem_cons_self)) y) ?_);cases hp:p x y with
    | true=>exact .neg (by simp) (.fg ⟨fun w hw=>h1 w (List.mem_cons_of_mem _ hw),z,g2,by simpa using h3,by rw[h2]; simp only[all2,hp,Bool.true_and]⟩)
    | false=>exact .pos rfl (.fo ⟨rfl,by rw[h2]; simp only[all2,hp,Bool.false_and]⟩)
  ·rintro s ⟨_,z,hz,h3,h2⟩;have:z=[]:=List.eq_nil_of_length_eq_zero (by simpa using h3.symm);subst this;exact h2
 ·rintro w ⟨rfl,h⟩; exact h.symm
 ·rintro ⟨⟩ h; exact .pure h.symm
theorem all2_eq {α:Type} [DecidableEq α]:∀{xs ys:List α},all2 (fun x y=>decide (x=y)) xs ys=decide (xs=ys)
 | [],[]=>rfl
 | x::r,y::s=>by
  simp only[all2,all2_eq (xs:=r) (ys:=s)];rw[Bool.eq_iff_iff]; simp
 | [],_::_=>by simp[all2]
 | _::_,[]=>by simp[all2]
theorem eqIntsE {a b:List Int}:Evt (fun(_:Nat)=>(if ¬(a.length:Int)=(b.length:Int) then some false else seqS (forI (fun(s5:Unit) (i4:Nat) (x7:Int)=>((atI b (i4:Int)).bind fun e12=>(if ¬x7=e12 then some (Sum.inl false) else some (Sum.inr ())):Option (Bool⊕Unit))) 0 a ()) (fun(s5:Unit)=>some true))) (decide (a=b)):=by
 by_cases h:a.length=b.length
 ·refine .neg (by omega) ?_;have:=Ex.eqI (m:=fun _ (x y:Int)=>some (decide (x=y))) (p:=fun x y=>decide (x=y)) h (fun x _ y=>.pure _);rw[all2_eq] at this
  simpa only[Option.bind_some,Bool.not_eq_true',decide_eq_false_iff_not] using this
 ·refine .pos (by omega) ?_;have:¬a=b:=fun e=>h (by rw[e]);simp only[this,decide_false]; exact .pure _
mutual
def sameF:Form→Form→Bool
 | ⟨k,nm,n,sc,kids⟩,b=>decide (k=b.kind)&&(decide (nm=b.name)&&(decide (n=b.n)&&(decide (sc=b.scopes)&&sameFs kids b.kids)))
def sameFs:List Form→List Form→Bool
 | [],[]=>true
 | x::r,y::s=>sameF x y&&sameFs r s
 | _,_=>false
end
mutual
def sameC:Core→Core→Bool
 | ⟨k,id,nm,n,ids,dt,kids⟩,b=>decide (k=b.kind)&&(decide (id=b.id)&&(decide (nm=b.name)&&(decide (n=b.n)&&(decide (ids=b.ids)&&(sameF dt b.data&&sameCs kids b.kids)))))
def sameCs:List Core→List Core→Bool
 | [],[]=>true
 | x::r,y::s=>sameC x y&&sameCs r s
 | _,_=>false
end
mutual
theorem sameF_iff:∀{a b:Form},sameF a b=true↔a=b
 | ⟨k,nm,n,sc,kids⟩,⟨k',nm',n',sc',kids'⟩=>by
  simp only[sameF,Bool.and_eq_true,decide_eq_true_eq,sameFs_iff,Form.mk.injEq]
theorem sameFs_iff:∀{a b:List Form},sameFs a b=true↔a=b
 | [],[]=>by simp[sameFs]
 | x::r,y::s=>by simp only[sameFs,Bool.and_eq_true,sameF_iff,sameFs_iff,List.cons.injEq]
 | [],_::_=>by simp[sameFs]
 | _::_,[]=>by simp[sameFs]
end
mutual
theorem sameC_iff:∀{a b:Core},sameC a b=true↔a=b
 | ⟨k,id,nm,n,ids,dt,kids⟩,⟨k',id',nm',n',ids',dt',kids'⟩=>by
  simp only[sameC,Bool.and_eq_true,decide_eq_true_eq,sameCs_iff,sameF_iff,Core.mk.injEq]
theorem sameCs_iff:∀{a b:List Core},sameCs a b=true↔a=b
 | [],[]=>by simp[sameCs]
 | x::r,y::s=>by simp only[sameCs,Bool.and_eq_true,sameC_iff,sameCs_iff,List.cons.injEq]
 | [],_::_=>by simp[sameCs]
 | _::_,[]=>by simp[sameCs]
end
theorem sameFs_all:∀{a b:List Form},sameFs a b=all2 sameF a b
 | [],[]=>by simp[sameFs,all2]
 | x::r,y::s=>by simp only[sameFs,all2,sameFs_all (a:=r)]
 | [],_::_=>by simp[sameFs,all2]
 | _::_,[]=>by simp[sameFs,all2]
theorem sameCs_all:∀{a b:List Core},sameCs a b=all2 sameC a b
 | [],[]=>by simp[sameCs,all2]
 | x::r,y::s=>by simp only[sameCs,all2,sameCs_all (a:=r)]
 | [],_::_=>by simp[sameCs,all2]
 | _::_,[]=>by simp[sameCs,all2]
theorem sameF_eq (a b:Form):sameF a b=(decide (a.kind=b.kind)&&(decide (a.name=b.name)&&(decide (a.n=b.n)&&(decide (a.scopes=b.scopes)&&sameFs a.kids b.kids)))):=by cases a; simp only[sameF]
theorem sameC_eq (a b:Core):sameC a b=(decide (a.kind=b.kind)&&(decide (a.id=b.id)&&(decide (a.name=b.name)&&(decide (a.n=b.n)&&(decide (a.ids=b.ids)&&(sameF a.data b.data&&sameCs a.kids b.kids)))))):=by cases a; simp only[sameC]
theorem sameFs_len {a b:List Form} (h:¬a.length=b.length):sameFs a b=false:=by
 cases hs:sameFs a b with
 | false=>rfl
 | true=>exact absurd (by rw[sameFs_iff.1 hs]) h
theorem sameCs_len {a b:List Core} (h:¬a.length=b.length):sameCs a b=false:=by
 cases hs:sameCs a b with
 | false=>rfl
 | true=>exact absurd (by rw[sameCs_iff.1 hs]) h
theorem ieqi_evt (a b:List Int):Evt (fun n=>slices_Equal_int n a b) (decide (a=b)):=eqIntsE
theorem ifs_evt (a b:Form):Evt (fun n=>im_FormSame n a b) (sameF a b):=by
 refine .succ ?_;simp only[im_FormSame];rw[sameF_eq];refine Ex.evt ?_;refine Ex.bind (P:=fun o=>o=(decide (a.kind=b.kind)&&(decide (a.name=b.name)&&(decide (a.n=b.n)&&(decide (a.scopes=b.scopes)&&sameFs a.kids b.kids))))) ?_ (fun _ h=>.pure h);by_cases h1:a.kind=b.kind
 ·refine .pos h1 ?_;by_cases h2:a.name=b.name
  ·refine .pos h2 ?_;by_cases h3:a.n=b.n
   ·refine .pos h3 (.bv (ieqi_evt _ _) ?_);rw[decide_eq_true h1,decide_eq_true h2,decide_eq_true h3];simp only[Bool.true_and];by_cases h4:a.scopes=b.scopes
    ·rw[decide_eq_true h4];refine .pos rfl ?_;have hk:Evt (fun n=>slices_EqualFunc_impl_Form__im_FormSame n a.kids b.kids) (sameFs a.kids b.kids):=by
      refine .succ ?_;simp only[slices_EqualFunc_impl_Form__im_FormSame];by_cases hl:a.kids.length=b.kids.length
      ·refine .neg (by omega) ?_;rw[sameFs_all];exact Ex.eqI (m:=fun n x e=>im_FormSame n x e) hl (fun x hx y=>ifs_evt x y)
      ·rw[sameFs_len hl]; exact .pos (by omega) (.pure _)
     exact .bv hk (.pure rfl)
    ·rw[decide_eq_false h4];exact .neg (by simp) (.pure rfl)
   ·exact .neg h3 (.pure (by rw[decide_eq_false h3]; simp))
  ·exact .neg h2 (.pure (by rw[decide_eq_false h2]; simp))
 ·exact .neg h1 (.pure (by rw[decide_eq_false h1]; rfl))
termination_by SizeOf.sizeOf a
decreasing_by exact szF_lt hx
theorem isc_evt (a b:Core):Evt (fun n=>im_sameCore n a b) (sameC a b):=by
 refine .succ ?_;simp only[im_sameCore];rw[sameC_eq];refine Ex.evt ?_;refine Ex.bind (P:=fun o=>o=(decide (a.kind=b.kind)&&(decide (a.id=b.id)&&(decide (a.name=b.name)&&(decide (a.n=b.n)&&(decide (a.ids=b.ids)&&(sameF a.data b.data&&sameCs a.kids b.kids))))))) ?_ (fun _ h=>.pure h);by_cases h1:a.kind=b.kind
 ·refine .pos h1 ?_;by_cases h0:a.id=b.id
  ·refine .pos h0 ?_;by_cases h2:a.name=b.name
   ·refine .pos h2 ?_;by_cases h3:a.n=b.n
    ·refine .pos h3 (.bv (ieqi_evt _ _) ?_);rw[decide_eq_true h1,decide_eq_true h2,decide_eq_true h3,decide_eq_true h0];simp only[Bool.true_and];by_cases h4:a.ids=b.ids
     ·rw[decide_eq_true h4];refine .pos rfl (.bv (ifs_evt _ _) ?_);cases hd:sameF a.data b.data with
      | false=>exact .neg (by simp) (.pure rfl)
      | true=>
       refine .pos rfl ?_;have hk:Evt (fun n=>slices_EqualFunc_impl_Core__im_sameCore n a.kids b.kids) (sameCs a.kids b.kids):=by
        refine .succ ?_;simp only[slices_EqualFunc_impl_Core__im_sameCore];by_cases hl:a.kids.length=b.kids.length
        ·refine .neg (by omega) ?_;rw[sameCs_all];exact Ex.eqI (m:=fun n x e=>im_sameCore n x e) hl (fun x hx y=>isc_evt x y)
        ·rw[sameCs_len hl]; exact .pos (by omega) (.pure _)
       exact .bv hk (.pure rfl)
     ·rw[decide_eq_false h4];exact .neg (by simp) (.pure rfl)
    ·exact .neg h3 (.pure (by rw[decide_eq_false h3]; simp))
   ·exact .neg h2 (.pure (by rw[decide_eq_false h2]; simp))
  ·exact .neg h0 (.pure (by rw[decide_eq_false h0]; simp))
 ·exact .neg h1 (.pure (by rw[decide_eq_false h1]; rfl))
termination_by SizeOf.sizeOf a
decreasing_by exact szC_lt hx
theorem seqi_evt (a b:List Int):Evt (fun n=>sp_l1Ints n a b) (decide (a=b)):=eqIntsE
theorem sfs_evt (a b:Form):Evt (fun n=>sp_FormSame n a b) (sameF a b):=by
 refine .succ ?_;simp only[sp_FormSame];rw[sameF_eq];refine Ex.evt ?_;refine Ex.bind (P:=fun o=>o=!(decide (a.kind=b.kind)&&(decide (a.name=b.name)&&(decide (a.n=b.n)&&(decide (a.scopes=b.scopes)&&decide (a.kids.length=b.kids.length)))))) ?_ ?_
 ·by_cases h1:a.kind=b.kind
  ·refine .neg (fun h=>h h1) ?_;by_cases h2:a.name=b.name
   ·refine .neg (fun h=>h h2) ?_;by_cases h3:a.n=b.n
    ·refine .neg (fun h=>h h3) (.bv (seqi_evt _ _) ?_);rw[decide_eq_true h1,decide_eq_true h2,decide_eq_true h3];simp only[Bool.true_and];by_cases h4:a.scopes=b.scopes
     ·rw[decide_eq_true h4];refine .neg (by simp) (.pure ?_);by_cases h5:a.kids.length=b.kids.length
      ·rw[decide_eq_true h5,decide_eq_false (show ¬¬(a.kids.length:Int)=(b.kids.length:Int) by omega)]; rfl
      ·rw[decide_eq_false h5,decide_eq_true (show ¬(a.kids.length:Int)=(b.kids.length:Int) by omega)]; rfl
     ·rw[decide_eq_false h4];exact .pos rfl (.pure rfl)
    ·exact .pos h3 (.pure (by rw[decide_eq_false h3]; simp))
   ·exact .pos h2 (.pure (by rw[decide_eq_false h2]; simp))
  ·exact .pos h1 (.pure (by rw[decide_eq_false h1]; rfl))
 ·rintro o rfl;by_cases h5:a.kids.length=b.kids.length
  ·rw[decide_eq_true h5];cases e1:decide (a.kind=b.kind) with
   | false=>exact .pos rfl (.pure rfl)
   | true=>
    cases e2:decide (a.name=b.name) with
    | false=>exact .pos rfl (.pure rfl)
    | true=>
     cases e3:decide (a.n=b.n) with
     | false=>exact .pos rfl (.pure rfl)
     | true=>
      cases e4:decide (a.scopes=b.scopes) with
      | false=>exact .pos rfl (.pure rfl)
      | true=>
       refine .neg (by simp) ?_;simp only[Bool.true_and];rw[sameFs_all];exact(Ex.eqI (m:=fun n x e=>sp_FormSame n x e) h5 (fun x hx y=>sfs_evt x y)).ex
  ·rw[decide_eq_false h5,sameFs_len h5];refine .pos (by simp) (.pure (by simp))
termination_by SizeOf.sizeOf a
decreasing_by exact szF_lt hx
def zF:Form:=⟨0,[],0,[],[]⟩
mutual
def allSc:Form→List Int
 | ⟨_,_,_,sc,kids⟩=>sc++allScs kids
def allScs:List Form→List Int
 | []=>[]
 | x::r=>allSc x++allScs r
end
mutual
def strF:Form→Form
 | ⟨k,nm,n,_,kids⟩=>⟨k,nm,n,[],strFs kids⟩
def strFs:List Form→List Form
 | []=>[]
 | x::r=>strF x::strFs r
end
def noSc (f:Form):Bool:=decide (allSc f=[])
theorem allSc_eq (f:Form):allSc f=f.scopes++allScs f.kids:=by cases f; simp only[allSc]
theorem strF_eq (f:Form):strF f=⟨f.kind,f.name,f.n,[],strFs f.kids⟩:=by cases f; simp only[strF]
theorem strFs_map:∀l:List Form,strFs l=l.map strF
 | []=>rfl
 | x::r=>by simp only[strFs,List.map_cons,strFs_map r]
mutual
theorem allSc_le:∀f:Form,(allSc f).length≤wF f
 | ⟨k,nm,n,sc,kids⟩=>by have:=allScs_le kids; simp only[allSc,wF,List.length_append]; omega
theorem allScs_le:∀l:List Form,(allScs l).length≤wFs l
 | []=>by simp[allScs]
 | x::r=>by have:=allSc_le x; have:=allScs_le r; simp only[allScs,wFs,List.length_append]; omega
end
mutual
theorem str_same:∀f:Form,sameF (strF f) f=noSc f
 | ⟨k,nm,n,sc,kids⟩=>by
  have ih:=str_sames kids;rw[Bool.eq_iff_iff];simp only[strF,sameF,noSc,allSc,ih,decide_true,Bool.true_and,Bool.and_eq_true,decide_eq_true_eq,List.append_eq_nil_iff];exact⟨fun⟨a,b⟩=>⟨a.symm,b⟩,fun⟨a,b⟩=>⟨a.symm,b⟩⟩
theorem str_sames:∀l:List Form,sameFs (strFs l) l=decide (allScs l=[])
 | []=>rfl
 | x::r=>by
  have ih:=str_same x;have ih2:=str_sames r;rw[Bool.eq_iff_iff];simp only[strFs,sameFs,ih,ih2,noSc,allScs,Bool.and_eq_true,decide_eq_true_eq,List.append_eq_nil_iff]
end
def flB (c:Core):Bool:=
 (if c.kind=1 then decide (1≤c.id)&&decide (c.id≤999) else decide (c.id=0)) &&
 ((if c.kind=2 then nameB c.name else decide (c.name=[])) &&
 ((if c.kind=3 then decide (0≤c.n)&&decide (c.n≤999) else decide (c.n=0)) &&
 ((if c.kind=4 then validF c.data&&noSc c.data else sameF c.data zF) &&
 (decide (c.kind=5)||decide (c.ids=[])))))
def kdB (k:Int) (m:Nat):Bool:=if k=1∨k=2∨k=3∨k=4 then decide (m=0) else if k=5 then decide (m=1) else if k=6 then decide (1≤m) else if k=7 then decide (m=3) else false
def adB:List Int→List Int→Option (List Int)
 | sc,[]=>some sc
 | sc,x::r=>if(1≤x∧x≤999)∧x∉sc then adB (sc++[x]) r else none
theorem adB_len:∀{ids sc s:List Int},adB sc ids=some s→s.length=sc.length+ids.length
 | [],sc,s,h=>by cases h; rfl
 | x::r,sc,s,h=>by
  simp only[adB] at h;split at h
  ·have:=adB_len h; simp at this ⊢; omega
  ·cases h
def crB:Nat→List Int→Core→Bool
 | 0,_,_=>false
 | d+1,sc,c=>kdB c.kind c.kids.length&&(flB c&&((!decide (c.kind=1)||decide (c.id∈sc))&&(match adB sc c.ids with
  | none=>false
  | some s=>c.kids.all (crB d s))))
mutual
def cC:Core→Nat
 | ⟨_,_,_,_,_,_,kids⟩=>1+cCs kids
def cCs:List Core→Nat
 | []=>0
 | x::r=>cC x+cCs r
end
theorem cC_eq (f:Core):cC f=1+cCs f.kids:=by cases f; simp only[cC]
mutual
theorem cC_le:∀f:Core,cC f≤wC f+1
 | ⟨k,id,nm,n,ids,dt,kids⟩=>by have:=cCs_le kids; simp only[cC,wC]; omega
theorem cCs_le:∀l:List Core,cCs l≤wCs l+l.length
 | []=>by simp[cCs]
 | x::r=>by have:=cC_le x; have:=cCs_le r; simp only[cCs,wCs,List.length_cons]; omega
end
theorem cCs_mem:∀{l:List Core} {x:Core},x∈l→cC x≤cCs l
 | y::r,x,h=>by
  simp only[cCs];rcases List.mem_cons.1 h with rfl | h
  ·omega
  ·have:=cCs_mem h; omega
def validC (c:Core):Bool:=crB 120 [] c&&decide (cC c≤600)
theorem icon_eq (n:Nat) (l:List Int) (x:Int):slices_Contains_int n l x=some (decide (x∈l)):=by
 unfold slices_Contains_int slices_Index_int;have main:∀(l:List Int) (i:Nat),∃k:Int,seqS (Mx.forI (fun(_:Unit) (i:Nat) (y:Int)=>((if x=y then some (Sum.inl (i:Int)) else some (Sum.inr ())):Option (Int⊕Unit))) i l ()) (fun _=>some (-1))=some k∧(k≥0↔x∈l):=by
  intro l
  induction l with
  | nil=>intro i; exact⟨-1,rfl,by simp⟩
  | cons y r ih=>
   intro i;by_cases h:x=y
   ·subst h;exact⟨(i:Int),by simp[Mx.forI,Mx.seqS],by simp⟩
   ·obtain⟨k,h1,h2⟩:=ih (i+1);refine⟨k,?_,by rw[h2]; simp[h]⟩;rw[← h1];simp[Mx.forI,h]
 obtain⟨k,h1,h2⟩:=main l 0;rw[h1,Option.bind_some];congr 1;rw[Bool.eq_iff_iff,decide_eq_true_eq,decide_eq_true_eq]; exact h2
theorem iconv_eq (n:Nat) (l:List Int) (x:Int):slices_Contains_int_v n l x=some (decide (x∈l)):=icon_eq n l x
theorem ies_evt (f:Form) (w:List Int) (hw:w.length+wF f≤1073741824):Evt (fun n=>im_eachForm__im_ScopesOf_1 n f w) (w++allSc f):=by
 have he:=wF_eq f;refine .succ ?_;simp only[im_eachForm__im_ScopesOf_1,im_ScopesOf_1];refine Ex.evt ?_;rw[apB_ok (by omega)];simp only[Option.bind_some];refine Ex.bind (P:=fun s=>s=w++allSc f) ?_ (fun s hs=>.pure hs);refine Ex.forL (I:=fun i q s=>s++allScs q=w++allSc f∧s.length+wFs q+q.length≤1073741824∧∀x∈q,x∈f.kids) ⟨by rw[allSc_eq,List.append_assoc],by simp; omega,fun _ h=>h⟩ ?_ ?_
 ·rintro i x q s ⟨h1,h2,h3⟩;simp only[wFs,List.length_cons] at h2;have g4:=h3 x (List.mem_cons_self);refine .bv (ies_evt x s (by omega)) (.pure ⟨?_,?_,fun y hy=>h3 y (List.mem_cons_of_mem _ hy)⟩)
  ·rw[← h1]; simp only[allScs,List.append_assoc]
  ·have:=allSc_le x;simp only[List.length_append]; omega
 ·rintro s ⟨h1,_,_⟩
  simpa [allScs] using h1
termination_by SizeOf.sizeOf f
decreasing_by exact szF_lt g4
theorem compact_nil {l:List Int}:(Lib.compact l).length=0↔l=[]:=by
 constructor
 ·intro h;cases l with
  | nil=>rfl
  | cons x r=>
   exfalso;have h:Lib.compact (x::r)=[]:=List.eq_nil_of_length_eq_zero h;unfold Lib.compact Lib.compactUpTo at h;rw[List.map_eq_nil_iff,List.filter_eq_nil_iff] at h;exact h 0 (by simp) (by simp[Lib.keeps])
 ·rintro rfl; rfl
theorem iso_evt (f:Form) (hw:wF f≤1073741824) (hv:validF f=true):Ex (fun n=>im_ScopesOf n f) (fun r=>decide ((r.length:Int)>0)=!noSc f):=by
 unfold im_ScopesOf;refine .bv (ifv_evt f (okF_w f hw)) ?_;rw[hv];refine .neg (by simp) (.bv (ies_evt f [] (by simp; omega)) ?_);have hl:=allSc_le f;rw[List.nil_append];unfold slices_Sort_int_v slices_Compact_int_v;refine .bp _ (if_pos (by omega)) (.bp () (lenB_of (by simp)) (.bp _ rfl (.pure ?_)));unfold noSc;generalize hs:(allSc f).mergeSort (fun x y=>decide (x≤y))=s;have hsl:s.length=(allSc f).length:=by rw[← hs]; simp
 by_cases h:allSc f=[]
 ·have:s=[]:=List.eq_nil_of_length_eq_zero (by rw[hsl,h]; rfl);rw[this,h]; rfl
 ·have h1:s≠[]:=fun e=>h (List.eq_nil_of_length_eq_zero (by rw[← hsl,e]; rfl));have h2:(Lib.compact s).length≠0:=fun e=>h1 (compact_nil.1 e);rw[decide_eq_true (by omega),decide_eq_false h]; rfl
theorem iad_ex (sc ids:List Int) (hl:sc.length+ids.length≤1073741824) {ω:Type} (no:ω) (N:Nat):Mx.forI (fun(s41:List Int) (i40:Nat) (x43:Int)=>(Option.bind ((im_within N x43 1 999).bind fun k51=>(if(!k51)=true then some true else(slices_Contains_int_v N s41 x43).bind fun k53=>some k53):Option (Bool)) (fun(o48:Bool)=>(if o48=true then some (Sum.inl no) else(apB 8 s41 [x43]).bind fun z50=>some (Sum.inr z50))):Option (ω⊕(List Int)))) 0 ids sc=some (match adB sc ids with
  | none=>.inl no
  | some s=>.inr s):=by
 have main:∀(ids sc:List Int) (i:Nat),sc.length+ids.length≤1073741824→Mx.forI (fun(s41:List Int) (i40:Nat) (x43:Int)=>(Option.bind ((im_within N x43 1 999).bind fun k51=>(if(!k51)=true then some true else(slices_Contains_int_v N s41 x43).bind fun k53=>some k53):Option (Bool)) (fun(o48:Bool)=>(if o48=true then some (Sum.inl no) else(apB 8 s41 [x43]).bind fun z50=>some (Sum.inr z50))):Option (ω⊕(List Int)))) i ids sc=some (match adB sc ids with
  | none=>.inl no
  | some s=>.inr s):=by
  simp only[iw_eq,iconv_eq,Option.bind_some];intro ids
  induction ids with
  | nil=>intro sc i _; rfl
  | cons x r ih=>
   intro sc i hb;simp only[List.length_cons] at hb;simp only[Mx.forI,adB];by_cases h1:1≤x∧x≤999
   ·simp only[h1.1,h1.2,decide_true,Bool.and_self,Bool.not_true,Bool.false_eq_true,if_false,Option.bind_some,true_and,and_self];by_cases h2:x∈sc
    ·simp only[h2,decide_true,if_true,Option.bind_some,not_true_eq_false,if_false]
    ·simp only[h2,decide_false,Bool.false_eq_true,if_false,not_false_eq_true,if_true];rw[apB_ok (by simp; omega)];simp only[Option.bind_some];exact ih (sc++[x]) (i+1) (by simp; omega)
   ·have h1':(decide (1≤x)&&decide (x≤999))=false:=by
     rw[Bool.eq_false_iff]; simpa using h1
    simp only[h1',Bool.not_false,if_true,Option.bind_some,h1,false_and,if_false]
 exact main ids sc 0 hl
def fl4 (c:Core):Bool:=
 (if c.kind=1 then decide (1≤c.id)&&decide (c.id≤999) else decide (c.id=0)) &&
 ((if c.kind=2 then nameB c.name else decide (c.name=[])) &&
 ((if c.kind=3 then decide (0≤c.n)&&decide (c.n≤999) else decide (c.n=0)) &&
 (if c.kind=4 then validF c.data&&noSc c.data else sameF c.data zF)))
theorem flB_eq (c:Core):flB c=(fl4 c&&(decide (c.kind=5)||decide (c.ids=[]))):=by simp only[flB,fl4,Bool.and_assoc]
theorem crB_no5 {c:Core} (h:c.kind≠5) (d:Nat) (sc:List Int):crB (d+1) sc c=(kdB c.kind c.kids.length&&(fl4 c&&((!decide (c.kind=1)||decide (c.id∈sc))&&(decide (c.ids=[])&&c.kids.all (crB d sc))))):=by
 simp only[crB,flB_eq,decide_eq_false h,Bool.false_or];by_cases hi:c.ids=[]
 ·rw[hi];simp only[adB,decide_true,Bool.and_true,Bool.true_and]
 ·rw[decide_eq_false hi]; simp
theorem bare_eq (c:Core) (a:Int) (b:List UInt8) (e:Int) (g:List Int) (dt:Form):sameC c ⟨c.kind,a,b,e,g,dt,c.kids⟩=(decide (c.id=a)&&(decide (c.name=b)&&(decide (c.n=e)&&(decide (c.ids=g)&&sameF c.data dt)))):=by
 rw[sameC_eq];simp only[decide_true,Bool.true_and,sameCs_iff.2,Bool.and_true]
theorem kd1 (m:Nat):kdB 1 m=decide (m=0):=by simp[kdB]
theorem kd2 (m:Nat):kdB 2 m=decide (m=0):=by simp[kdB]
theorem kd3 (m:Nat):kdB 3 m=decide (m=0):=by simp[kdB]
theorem kd4 (m:Nat):kdB 4 m=decide (m=0):=by simp[kdB]
theorem kd5 (m:Nat):kdB 5 m=decide (m=1):=by simp[kdB]
theorem kd6 (m:Nat):kdB 6 m=decide (1≤m):=by simp[kdB]
theorem kd7 (m:Nat):kdB 7 m=decide (m=3):=by simp[kdB]
theorem len_dec (c:Core) (k:Nat):decide ((c.kids.length:Int)=(k:Int))=decide (c.kids.length=k):=by simp only[decide_eq_decide]; omega
theorem ico_ex (c:Core) (d:Nat) (hd:d≤120) (sc:List Int) (hw:sc.length+wC c≤1073741824) (L:Nat) (hL:L≤600):Ex (fun n=>im_coreOk n c sc ((121-d:Nat):Int) (L:Int)) (fun r=>(r.1=true↔crB d sc c=true∧cC c≤L)∧(r.1=true→r.2=((L-cC c:Nat):Int))):=by
 have he:=wC_eq c;have hc:=cC_eq c;refine .succ ?_;simp only[im_coreOk];have e1:w64 ((L:Int)-1)=(L:Int)-1:=w_id (by omega) (by omega);rw[e1];by_cases h0:(L:Int)-1<0
 ·simp only[if_pos h0,Option.bind_some,if_true];refine .pure ⟨⟨fun h=>(by cases h),fun h=>(by omega)⟩,fun h=>(by cases h)⟩
 rw[if_neg h0];by_cases hd0:d=0
 ·subst hd0;simp only[show decide (((121-0:Nat):Int)>120)=true from rfl,Option.bind_some,if_true];refine .pure ⟨⟨fun h=>(by cases h),fun h=>(by simp[crB] at h)⟩,fun h=>(by cases h)⟩
 obtain⟨d,rfl⟩:∃e,d=e+1:=⟨d-1,by omega⟩
 have hdd:decide (((121-(d+1):Nat):Int)>120)=false:=by simp; omega
 simp only[hdd,Option.bind_some,Bool.false_eq_true,if_false];have l0:decide ((c.kids.length:Int)=0)=decide (c.kids.length=0):=len_dec c 0;have l1:decide ((c.kids.length:Int)=1)=decide (c.kids.length=1):=len_dec c 1;have l3:decide ((c.kids.length:Int)=3)=decide (c.kids.length=3):=len_dec c 3;refine Ex.seqS (P:=fun o=>match o with
  | .inl w=>w=(false,(L:Int)-1)∧crB (d+1) sc c=false
  | .inr t=>crB (d+1) sc c=(decide ((c.kids.length:Int)=t.1)&&(sameC c ⟨c.kind,t.2.2.1,t.2.2.2.1,t.2.2.2.2.1,t.2.2.2.2.2.1,⟨t.2.2.2.2.2.2.1,t.2.2.2.2.2.2.2.1,t.2.2.2.2.2.2.2.2.1,t.2.2.2.2.2.2.2.2.2.1,t.2.2.2.2.2.2.2.2.2.2⟩,c.kids⟩&&c.kids.all (crB d t.2.1)))∧t.2.1.length≤sc.length+c.ids.length) ?_ ?_ ?_
 ·by_cases k1:c.kind=1
  ·refine .pos k1 ?_;have hcr:=crB_no5 (c:=c) (by omega) d sc;simp only[iw_eq,icon_eq,Option.bind_some];rw[k1] at hcr;simp only[decide_true,Bool.not_true,Bool.false_or] at hcr;refine Ex.bind (P:=fun o=>o=!((decide (1≤c.id)&&decide (c.id≤999))&&decide (c.id∈sc))) ?_ ?_
   ·cases (decide (1≤c.id)&&decide (c.id≤999)) with
    | false=>exact .pos rfl (.pure rfl)
    | true=>exact .neg (by simp) (.pure (by simp))
   ·rintro o rfl;have hf:fl4 c=((decide (1≤c.id)&&decide (c.id≤999))&&(decide (c.name=[])&&(decide (c.n=0)&&sameF c.data zF))):=by unfold fl4; simp[k1]
    rw[hf] at hcr;cases hq:((decide (1≤c.id)&&decide (c.id≤999))&&decide (c.id∈sc)) with
    | false=>
     refine .pos rfl (.pure ⟨rfl,?_⟩);rw[hcr];rcases Bool.and_eq_false_iff.1 hq with h | h <;> rw[h] <;> simp
    | true=>
     obtain⟨h1,h2⟩:=(Bool.and_eq_true _ _▸hq:_∧_)
     refine .neg (by simp) (.pure ⟨?_,by simp⟩);rw[hcr,bare_eq,h1,h2];simp only[decide_true,Bool.true_and,l0,l1,l3,kd1,kd2,kd3,kd4,kd6,kd7,zF]
     ac_rfl
  refine .neg k1 ?_;by_cases k2:c.kind=2
  ·refine .pos k2 (.bv (inv_evt _ (by unfold mxL; omega)) ?_);have hcr:=crB_no5 (c:=c) (by omega) d sc;have hf:fl4 c=(decide (c.id=0)&&(nameB c.name&&(decide (c.n=0)&&sameF c.data zF))):=by unfold fl4; simp[k2]
   rw[hf,k2] at hcr;cases hq:nameB c.name with
   | false=>exact .pos rfl (.pure ⟨rfl,by rw[hcr,hq]; simp⟩)
   | true=>
    refine .neg (by simp) (.pure ⟨?_,by simp⟩);rw[hcr,bare_eq,hq];simp only[decide_true,Bool.true_and,l0,l1,l3,kd1,kd2,kd3,kd4,kd6,kd7,zF,show decide ((2:Int)=1)=false from rfl,Bool.not_false,Bool.true_or]
    ac_rfl
  refine .neg k2 ?_;by_cases k3:c.kind=3
  ·refine .pos k3 ?_;have hcr:=crB_no5 (c:=c) (by omega) d sc;have hf:fl4 c=(decide (c.id=0)&&(decide (c.name=[])&&((decide (0≤c.n)&&decide (c.n≤999))&&sameF c.data zF))):=by unfold fl4; simp[k3]
   rw[hf,k3] at hcr;simp only[iw_eq,Option.bind_some];cases hq:(decide (0≤c.n)&&decide (c.n≤999)) with
   | false=>exact .pos rfl (.pure ⟨rfl,by rw[hcr,hq]; simp⟩)
   | true=>
    refine .neg (by simp) (.pure ⟨?_,by simp⟩);rw[hcr,bare_eq,hq];simp only[decide_true,Bool.true_and,l0,l1,l3,kd1,kd2,kd3,kd4,kd6,kd7,zF,show decide ((3:Int)=1)=false from rfl,Bool.not_false,Bool.true_or]
    ac_rfl
  refine .neg k3 ?_;by_cases k4:c.kind=4
  ·refine .pos k4 ?_;have hcr:=crB_no5 (c:=c) (by omega) d sc;have hf:fl4 c=(decide (c.id=0)&&(decide (c.name=[])&&(decide (c.n=0)&&(validF c.data&&noSc c.data)))):=by unfold fl4; simp[k4]
   rw[hf,k4] at hcr;refine Ex.bind (P:=fun o=>o=!(validF c.data&&noSc c.data)) ?_ ?_
   ·refine .bv (ifv_evt _ (okF_w _ (by omega))) ?_;cases hv:validF c.data with
    | false=>exact .pos rfl (.pure rfl)
    | true=>
     refine .neg (by simp) (Ex.bind (iso_evt _ (by omega) hv) ?_);intro r hr;exact .pure (by rw[hr,Bool.true_and])
   ·rintro o rfl;cases hq:(validF c.data&&noSc c.data) with
    | false=>exact .pos rfl (.pure ⟨rfl,by rw[hcr,hq]; simp⟩)
    | true=>
     refine .neg (by simp) (.pure ⟨?_,by simp⟩);have hd0:sameF c.data ⟨c.data.kind,c.data.name,c.data.n,c.data.scopes,c.data.kids⟩=true:=sameF_iff.2 (by cases c.data; rfl);rw[hcr,bare_eq,hq];simp only[];rw[hd0];simp only[decide_true,Bool.true_and,l0,l1,l3,kd1,kd2,kd3,kd4,kd6,kd7,show decide ((4:Int)=1)=false from rfl,Bool.not_false,Bool.true_or,Bool.and_true]
     ac_rfl
  refine .neg k4 ?_;by_cases k5:c.kind=5
  ·refine .pos k5 ?_;unfold slices_Clone_int;rw[apB_nil (by omega)];simp only[Option.bind_some];have hf:flB c=(decide (c.id=0)&&(decide (c.name=[])&&(decide (c.n=0)&&sameF c.data zF))):=by unfold flB; simp[k5]
   have hcr:crB (d+1) sc c=(decide (c.kids.length=1)&&((decide (c.id=0)&&(decide (c.name=[])&&(decide (c.n=0)&&sameF c.data zF)))&&(match adB sc c.ids with
    | none=>false
    | some s=>c.kids.all (crB d s)))):=by
    simp only[crB,hf,k5,kd5,show decide ((5:Int)=1)=false from rfl,Bool.not_false,Bool.true_or,Bool.true_and]
   simp only[iad_ex sc c.ids (by omega)];cases hq:adB sc c.ids with
   | none=>exact .pure ⟨rfl,by rw[hcr,hq]; simp⟩
   | some s=>
    refine .pure ⟨?_,by rw[adB_len hq]; exact Nat.le_refl _⟩;rw[hcr,hq,bare_eq];simp only[decide_true,Bool.true_and,l1,zF]
  refine .neg k5 ?_;have hcr:=crB_no5 (c:=c) k5 d sc;have hf:fl4 c=(decide (c.id=0)&&(decide (c.name=[])&&(decide (c.n=0)&&sameF c.data zF))):=by unfold fl4; simp[k1,k2,k3,k4]
  rw[hf,decide_eq_false k1] at hcr;by_cases k6:c.kind=6
  ·refine .pos k6 (.pure ⟨?_,by simp⟩);have hm:decide ((c.kids.length:Int)=(if(c.kids.length:Int)>1 then(c.kids.length:Int) else 1))=decide (1≤c.kids.length):=by
    rw[Bool.eq_iff_iff,decide_eq_true_eq,decide_eq_true_eq];split <;> constructor <;> intro h <;> omega
   rw[hcr,bare_eq];simp only[];rw[hm,k6];simp only[decide_true,Bool.true_and,l0,l1,l3,kd1,kd2,kd3,kd4,kd6,kd7,zF,Bool.not_false,Bool.true_or]
   ac_rfl
  refine .neg k6 ?_;by_cases k7:c.kind=7
  ·refine .pos k7 (.pure ⟨?_,by simp⟩);rw[hcr,bare_eq,k7];simp only[decide_true,Bool.true_and,l0,l1,l3,kd1,kd2,kd3,kd4,kd6,kd7,zF,Bool.not_false,Bool.true_or]
   ac_rfl
  ·refine .neg k7 (.pure ⟨rfl,?_⟩);rw[hcr];have:kdB c.kind c.kids.length=false:=by unfold kdB; simp[k1,k2,k3,k4,k5,k6,k7]
   rw[this]; rfl
 ·rintro w ⟨rfl,h⟩;exact⟨⟨fun h=>(by cases h),fun h'=>by rw[h] at h'; cases h'.1⟩,fun h=>(by cases h)⟩
 ·rintro ⟨m,s,a,b,e,g,dk,dn,dm,ds,dl⟩ ⟨hcr,hsl⟩;simp only at hcr hsl ⊢;refine Ex.bind (P:=fun o=>o=!(decide ((c.kids.length:Int)=m)&&sameC c ⟨c.kind,a,b,e,g,⟨dk,dn,dm,ds,dl⟩,c.kids⟩)) ?_ ?_
  ·by_cases hm:(c.kids.length:Int)=m
   ·refine .neg (fun h=>h hm) (.bv (isc_evt _ _) (.pure ?_));rw[decide_eq_true hm,Bool.true_and]
   ·refine .pos hm (.pure ?_);rw[decide_eq_false hm]; rfl
  ·rintro o rfl;rw[← Bool.and_assoc] at hcr;cases hq:(decide ((c.kids.length:Int)=m)&&sameC c ⟨c.kind,a,b,e,g,⟨dk,dn,dm,ds,dl⟩,c.kids⟩) with
   | false=>
    rw[hq,Bool.false_and] at hcr;exact .pos rfl (.pure ⟨⟨fun h=>(by cases h),fun h'=>by rw[hcr] at h'; cases h'.1⟩,fun h=>(by cases h)⟩)
   | true=>
    rw[hq,Bool.true_and] at hcr;refine .neg (by simp) ?_;have e2:w64 (((121-(d+1):Nat):Int)+1)=((121-d:Nat):Int):=by rw[w_id (by omega) (by omega)]; omega
    rw[e2];refine Ex.seqS (P:=fun o=>match o with
     | .inl w=>w.1=false∧¬(c.kids.all (crB d s)=true∧cCs c.kids≤L-1)
     | .inr t=>c.kids.all (crB d s)=true∧cCs c.kids≤L-1∧t=((L-1-cCs c.kids:Nat):Int)) ?_ ?_ ?_
    ·refine Ex.forI (I:=fun i q t=>∃u:Nat,t=(u:Int)∧u≤600∧(c.kids.all (crB d s)=true∧cCs c.kids≤L-1↔q.all (crB d s)=true∧cCs q≤u)∧u+cCs c.kids=L-1+cCs q∧∀x∈q,x∈c.kids) ?_ ?_ ?_
     ·exact⟨L-1,by omega,by omega,Iff.rfl,rfl,fun _ h=>h⟩
     ·rintro i x q t ⟨u,rfl,hu,hiff,hsum,hmem⟩;have hx:=hmem x (List.mem_cons_self);refine Ex.bind (ico_ex x d (by omega) s (by have:=wCs_mem hx; omega) u hu) ?_;rintro ⟨b,s'⟩ ⟨r1,r2⟩;simp only at r1 r2;cases b with
      | false=>
       refine .pos rfl (.fo ⟨rfl,fun h=>?_⟩);have h':=hiff.1 h;simp only[List.all_cons,Bool.and_eq_true,cCs] at h';have:=r1.2 ⟨h'.1.1,by omega⟩;cases this
      | true=>
       obtain⟨q1,q2⟩:=r1.1 rfl;refine .neg (by simp) (.fg ⟨u-cC x,r2 rfl,by omega,?_,by simp only[cCs] at hsum; omega,fun y hy=>hmem y (List.mem_cons_of_mem _ hy)⟩);rw[hiff];simp only[List.all_cons,Bool.and_eq_true,cCs,q1,true_and];constructor <;> intro h <;> exact⟨h.1,by omega⟩
     ·rintro t ⟨u,rfl,hu,hiff,hsum,_⟩;have h:=hiff.2 ⟨rfl,by simp[cCs]⟩;simp only[cCs] at hsum;exact⟨h.1,h.2,by omega⟩
    ·rintro ⟨b,t⟩ ⟨h1,h2⟩;simp only at h1;subst h1;refine⟨⟨fun h=>(by cases h),fun h=>absurd ⟨hcr▸h.1,by omega⟩ h2⟩,fun h=>(by cases h)⟩
    ·rintro t ⟨h1,h2,h3⟩;exact .pure ⟨⟨fun _=>⟨hcr.trans h1,by omega⟩,fun _=>rfl⟩,fun _=>by simp only; omega⟩
termination_by SizeOf.sizeOf c
decreasing_by exact szC_lt hx
theorem icv_evt (c:Core) (hw:wC c≤1073741824):Evt (fun n=>im_CoreValid n c) (validC c):=by
 refine Ex.evt ?_;unfold im_CoreValid;refine Ex.bind (ico_ex c 120 (by omega) [] (by simp; omega) 600 (by omega)) ?_;rintro ⟨b,s⟩ ⟨r1,_⟩;refine .pure ?_;simp only at r1 ⊢;unfold validC;rw[Bool.eq_iff_iff,r1];simp
theorem shas_eq (n:Nat) (l:List Int) (x:Int):sp_l2Has n l x=some (decide (x∈l)):=by
 unfold sp_l2Has;have:=scanI (step:=fun(_:Unit) (_:Nat) (y:Int)=>((if y=x then some (Sum.inl true) else some (Sum.inr ())):Option (Bool⊕Unit))) (p:=fun y=>!decide (y=x)) (no:=true) (f:=fun _=>some false) (xs:=l) (i:=0) (fun i y _=>by by_cases h:y=x <;> simp[h]);rw[this];by_cases h:x∈l
 ·rw[if_neg]
  ·simp[h]
  ·intro hall;rw[List.all_eq_true] at hall;have:=hall x h;simp at this
 ·rw[if_pos]
  ·simp[h]
  ·rw[List.all_eq_true];intro y hy;have:¬y=x:=fun e=>h (e▸hy);simp[this]
theorem strip_evt (f:Form) (hw:wF f≤1073741824):Evt (fun n=>sp_StripForm n f) (strF f):=by
 have he:=wF_eq f;refine .succ ?_;simp only[sp_StripForm];rw[strF_eq,strFs_map];refine Ex.evt ?_;refine Ex.bind (P:=fun s=>s=f.kids.map strF) ?_ (fun s hs=>.pure (by rw[hs]));refine Ex.forL (I:=fun i q s=>s=(f.kids.take i).map strF∧f.kids.drop i=q) ⟨rfl,rfl⟩ ?_ ?_
 ·rintro i x q s ⟨rfl,hd⟩;obtain⟨g1,g2,g3,g4⟩:=drop_hd hd;have hm:=wFs_mem g4;refine .bv (strip_evt x (by omega)) (.bp _ (apB_ok (by simp; omega)) (.pure ⟨?_,g2⟩));rw[List.take_add_one,g1]; simp
 ·rintro s ⟨rfl,_⟩; simp
termination_by SizeOf.sizeOf f
decreasing_by exact szF_lt g4
theorem skd_eq (n:Nat) (k:Int) (m:Nat):sp_l6Kids n k (m:Int)=some (kdB k m):=by
 unfold sp_l6Kids kdB;have a0:decide ((m:Int)=0)=decide (m=0):=by simp only[decide_eq_decide]; omega
 have a1:decide ((m:Int)=1)=decide (m=1):=by simp only[decide_eq_decide]; omega
 have a3:decide ((m:Int)=3)=decide (m=3):=by simp only[decide_eq_decide]; omega
 have a6:decide ((m:Int)≥1)=decide (1≤m):=by simp only[decide_eq_decide]; omega
 rw[a0,a1,a3,a6];by_cases h1:k=1
 ·subst h1; rfl
 by_cases h2:k=2
 ·subst h2; rfl
 by_cases h3:k=3
 ·subst h3; rfl
 by_cases h4:k=4
 ·subst h4; rfl
 simp only[h1,h2,h3,h4,if_false,decide_false,Option.bind_some,Bool.false_eq_true,or_self];by_cases h5:k=5
 ·subst h5; rfl
 by_cases h6:k=6
 ·subst h6; rfl
 by_cases h7:k=7
 ·subst h7; rfl
 simp only[h5,h6,h7,if_false,Option.bind_some]
theorem sfl_evt (c:Core) (hw:wC c≤1073741824):Evt (fun n=>sp_l6Fields n c) (flB c):=by
 have he:=wC_eq c;have hn:c.name.length≤mxL:=by unfold mxL; omega
 refine Ex.evt ?_;unfold sp_l6Fields flB;refine Ex.bind (P:=fun o=>o=!(if c.kind=1 then decide (1≤c.id)&&decide (c.id≤999) else decide (c.id=0))) ?_ ?_
 ·by_cases k:c.kind=1
  ·simp only[k,if_true,not_true_eq_false,if_false];by_cases h1:c.id<1
   ·exact .pos h1 (.pure (by rw[decide_eq_false (show ¬1≤c.id by omega)]; rfl))
   ·refine .neg h1 ?_;by_cases h2:c.id>999
    ·exact .pos h2 (.pure (by rw[decide_eq_false (show ¬c.id≤999 by omega)]; simp))
    ·exact .neg h2 (.pure (by rw[decide_eq_true (show c.id≤999 by omega),decide_eq_true (show 1≤c.id by omega)]; rfl))
  ·simp only[k,if_false,not_false_eq_true,if_true];exact .pure (by simp)
 rintro o rfl;cases (if c.kind=1 then decide (1≤c.id)&&decide (c.id≤999) else decide (c.id=0)) with
 | false=>exact .pos rfl (.pure rfl)
 | true=>
 refine .neg (by simp) ?_;simp only[Bool.true_and];refine Ex.bind (P:=fun o=>o=!(if c.kind=2 then nameB c.name else decide (c.name=[]))) ?_ ?_
 ·by_cases k:c.kind=2
  ·simp only[k,if_true,not_true_eq_false,if_false];refine .bv (snv_evt _ hn) ?_;cases nameB c.name with
   | false=>exact .pos rfl (.pure rfl)
   | true=>exact .neg (by simp) (.pure rfl)
  ·simp only[k,if_false,not_false_eq_true,if_true];exact .pure (by simp)
 rintro o rfl;cases (if c.kind=2 then nameB c.name else decide (c.name=[])) with
 | false=>exact .pos rfl (.pure rfl)
 | true=>
 refine .neg (by simp) ?_;simp only[Bool.true_and];refine Ex.bind (P:=fun o=>o=!(if c.kind=3 then decide (0≤c.n)&&decide (c.n≤999) else decide (c.n=0))) ?_ ?_
 ·by_cases k:c.kind=3
  ·simp only[k,if_true,not_true_eq_false,if_false];by_cases h1:c.n<0
   ·exact .pos h1 (.pure (by rw[decide_eq_false (show ¬0≤c.n by omega)]; rfl))
   ·refine .neg h1 ?_;by_cases h2:c.n>999
    ·exact .pos h2 (.pure (by rw[decide_eq_false (show ¬c.n≤999 by omega)]; simp))
    ·exact .neg h2 (.pure (by rw[decide_eq_true (show c.n≤999 by omega),decide_eq_true (show 0≤c.n by omega)]; rfl))
  ·simp only[k,if_false,not_false_eq_true,if_true];exact .pure (by simp)
 rintro o rfl;cases (if c.kind=3 then decide (0≤c.n)&&decide (c.n≤999) else decide (c.n=0)) with
 | false=>exact .pos rfl (.pure rfl)
 | true=>
 refine .neg (by simp) ?_;simp only[Bool.true_and];refine Ex.bind (P:=fun o=>o=!(if c.kind=4 then validF c.data&&noSc c.data else sameF c.data zF)) ?_ ?_
 ·by_cases k:c.kind=4
  ·simp only[k,if_true,not_true_eq_false,if_false];refine .bv (sfv_evt _ (okF_w _ (by omega)) (by have:=cF_le c.data; omega)) ?_;cases validF c.data with
   | false=>exact .pos rfl (.pure rfl)
   | true=>
    refine .neg (by simp) (.bv (strip_evt _ (by omega)) (.bv (sfs_evt _ _) ?_));rw[str_same];cases noSc c.data with
    | false=>exact .pos rfl (.pure rfl)
    | true=>exact .neg (by simp) (.pure rfl)
  ·simp only[k,if_false,not_false_eq_true,if_true];exact .bv (sfs_evt _ _) (.pure rfl)
 rintro o rfl;cases (if c.kind=4 then validF c.data&&noSc c.data else sameF c.data zF) with
 | false=>exact .pos rfl (.pure rfl)
 | true=>
 refine .neg (by simp) ?_;simp only[Bool.true_and];refine Ex.bind (P:=fun o=>o=(decide (c.kind=5)||decide (c.ids=[]))) ?_ (fun o ho=>.pure ho);by_cases k:c.kind=5
 ·exact .pos k (.pure (by simp[k]))
 ·refine .neg k (.pure ?_);rw[decide_eq_false k,Bool.false_or,Bool.eq_iff_iff];simp
theorem s6i_evt (c:Core) (d:Nat) (hd:d≤120) (sc:List Int) (hw:sc.length+wC c≤1073741824):Evt (fun n=>sp_l6Is n c sc (d:Int)) (crB d sc c):=by
 have he:=wC_eq c;refine .succ ?_;simp only[sp_l6Is];refine Ex.evt ?_;by_cases hd0:d=0
 ·subst hd0;simp only[show((0:Nat):Int)=0 from rfl,if_true,Option.bind_some];exact .pure rfl
 obtain⟨d,rfl⟩:∃e,d=e+1:=⟨d-1,by omega⟩
 refine Ex.bind (P:=fun o=>o=!(kdB c.kind c.kids.length&&(flB c&&(!decide (c.kind=1)||decide (c.id∈sc))))) ?_ ?_
 ·refine .neg (by omega) ?_;simp only[skd_eq,Option.bind_some];cases kdB c.kind c.kids.length with
  | false=>exact .pos rfl (.pure rfl)
  | true=>
   refine .neg (by simp) (.bv (sfl_evt c (by omega)) ?_);cases flB c with
   | false=>exact .pos rfl (.pure rfl)
   | true=>
    refine .neg (by simp) ?_;by_cases k:c.kind=1
    ·refine .pos k ?_;simp only[shas_eq,Option.bind_some];exact .pure (by simp[k])
    ·exact .neg k (.pure (by simp[k]))
 rintro o rfl;have hq:crB (d+1) sc c=((kdB c.kind c.kids.length&&(flB c&&(!decide (c.kind=1)||decide (c.id∈sc))))&&(match adB sc c.ids with
  | none=>false
  | some s=>c.kids.all (crB d s))):=by simp only[crB,Bool.and_assoc]
 rw[hq];cases (kdB c.kind c.kids.length&&(flB c&&(!decide (c.kind=1)||decide (c.id∈sc)))) with
 | false=>exact .pos rfl (.pure rfl)
 | true=>
 refine .neg (by simp) ?_;rw[Bool.true_and];refine Ex.seqS (P:=fun o=>match o with
  | .inl w=>w=false∧adB sc c.ids=none
  | .inr s=>adB sc c.ids=some s) ?_ ?_ ?_
 ·refine Ex.forI (I:=fun i q s=>adB sc c.ids=adB s q∧s.length+q.length=sc.length+c.ids.length) ⟨rfl,rfl⟩ ?_ ?_
  ·rintro i x q s ⟨h1,h2⟩;simp only[List.length_cons] at h2;simp only[adB] at h1;simp only[shas_eq,Option.bind_some];by_cases a1:x<1
   ·simp only[if_pos a1,Option.bind_some,if_true];exact .fo ⟨rfl,by rw[h1,if_neg (fun h=>by have:=h.1.1; omega)]⟩
   rw[if_neg a1];by_cases a2:x>999
   ·simp only[if_pos a2,Option.bind_some,if_true];exact .fo ⟨rfl,by rw[h1,if_neg (fun h=>by have:=h.1.2; omega)]⟩
   rw[if_neg a2];by_cases a3:x∈s
   ·simp only[a3,decide_true,Option.bind_some,if_true];exact .fo ⟨rfl,by rw[h1,if_neg (fun h=>h.2 a3)]⟩
   ·simp only[a3,decide_false,Option.bind_some,Bool.false_eq_true,if_false];refine .bp s (apB_nil (by omega)) (.bp (s++[x]) (apB_ok (by simp; omega)) (.fg ⟨?_,by simp; omega⟩));rw[h1,if_pos ⟨⟨by omega,by omega⟩,a3⟩]
  ·rintro s ⟨h1,_⟩;rw[h1]; rfl
 ·rintro w ⟨rfl,h⟩;rw[h]
 ·intro s hs;have hs:adB sc c.ids=some s:=hs;rw[hs];have hl:=adB_len hs;have e2:w64 (((d+1:Nat):Int)-1)=(d:Int):=by rw[w_id (by omega) (by omega)]; omega
  rw[e2];exact Ex.allI (m:=fun n x=>sp_l6Is n x s (d:Int)) (p:=crB d s) (fun x hx=>s6i_evt x d (by omega) s (by have:=wCs_mem hx; omega)) (fun h=>.pure h.symm) (fun h=>h.symm)
termination_by SizeOf.sizeOf c
decreasing_by exact szC_lt hx
theorem s6c_evt (f:Core) (hw:cC f≤4611686018427387904):Evt (fun n=>sp_l6Count n f) (cC f:Int):=by
 have hc:=cC_eq f;refine .succ ?_;simp only[sp_l6Count];rw[hc];refine .bind (a:=((1+cCs f.kids:Nat):Int)) ?_ (.pure _);exact Ex.sumL (b:=1) (c:=cC) (cs:=cCs) rfl (fun _ _=>rfl) (by omega) (fun x hx=>s6c_evt x (by have:=cCs_mem hx; omega))
termination_by SizeOf.sizeOf f
decreasing_by exact szC_lt hx
theorem scv_evt (c:Core) (hw:wC c≤1073741824):Evt (fun n=>sp_CoreValid n c) (validC c):=by
 refine Ex.evt ?_;unfold sp_CoreValid validC;refine Ex.bind (P:=fun b=>b=(crB 120 [] c&&decide (cC c≤600))) ?_ (fun b hb=>.pure hb);refine .bv (s6i_evt c 120 (by omega) [] (by simp; omega)) ?_;cases crB 120 [] c with
 | false=>exact .neg (by simp) (.pure rfl)
 | true=>
  refine .pos rfl (.bv (s6c_evt c (by have:=cC_le c; omega)) (.pure ?_));rw[Bool.true_and]; simp only[decide_eq_decide]; omega
theorem atI_0 {α:Type} {l:List α} {x:α} (h:l[0]? = some x):atI l 0=some x:=atI_nat (i:=0) h
theorem scf_evt (f:Form) (hw:wF f≤1000000000):Evt (fun n=>sp_l1Copy n f) f:=by
 have he:=wF_eq f;refine .succ ?_;simp only[sp_l1Copy];refine Ex.evt (.bp _ (apB_nil (by omega)) ?_);refine .bv (copyA_ev (m:=fun n x=>sp_l1Copy n x) (be:=80) (by omega) (fun x hx=>scf_evt x (by have:=wFs_mem hx; omega))) (.pure (by cases f; rfl))
termination_by SizeOf.sizeOf f
decreasing_by exact szF_lt hx
theorem iclo_eq {n:Nat} {l:List Int} (h:l.length≤1000000000000):slices_Clone_int n l=some l:=by
 unfold slices_Clone_int;rw[apB_ok (by simp; omega)]; simp
theorem iclo_ev {l:List Int} (h:l.length≤1000000000000):Evt (fun n=>slices_Clone_int n l) l:=⟨0,fun n _=>iclo_eq h⟩
theorem icf_evt (f:Form) (hw:wF f≤1000000000):Evt (fun n=>im_copyForm n f) f:=by
 have he:=wF_eq f;refine .succ ?_;simp only[im_copyForm];refine Ex.evt (.bv (iclo_ev (by omega)) ?_);refine .bv (copyA_ev (m:=fun n x=>im_copyForm n x) (be:=80) (by omega) (fun x hx=>icf_evt x (by have:=wFs_mem hx; omega))) (.pure (by cases f; rfl))
termination_by SizeOf.sizeOf f
decreasing_by exact szF_lt hx
theorem contS_eq (n:Nat) (l:List (List UInt8)) (x:List UInt8):slices_Contains_string n l x=some (decide (x∈l)):=by
 unfold slices_Contains_string slices_Index_string;have main:∀(l:List (List UInt8)) (i:Nat),∃k:Int,seqS (Mx.forI (fun(_:Unit) (i:Nat) (y:List UInt8)=>((if x=y then some (Sum.inl (i:Int)) else some (Sum.inr ())):Option (Int⊕Unit))) i l ()) (fun _=>some (-1))=some k∧(k≥0↔x∈l):=by
  intro l
  induction l with
  | nil=>intro i; exact⟨-1,rfl,by simp⟩
  | cons y r ih=>
   intro i;by_cases h:x=y
   ·subst h;exact⟨(i:Int),by simp[Mx.forI,Mx.seqS],by simp⟩
   ·obtain⟨k,h1,h2⟩:=ih (i+1);refine⟨k,?_,by rw[h2]; simp[h]⟩;rw[← h1];simp[Mx.forI,h]
 obtain⟨k,h1,h2⟩:=main l 0;rw[h1,Option.bind_some];congr 1;rw[Bool.eq_iff_iff,decide_eq_true_eq,decide_eq_true_eq]; exact h2
theorem contSv_eq (n:Nat) (l:List (List UInt8)) (x:List UInt8):slices_Contains_string_v n l x=some (decide (x∈l)):=contS_eq n l x
def adN (w:List (List UInt8)) (x:List UInt8):List (List UInt8):=if x∈w then w else w++[x]
mutual
def nmC:Core→List (List UInt8)
 | ⟨k,_,nm,_,_,_,kids⟩=>(if k=2 then [nm] else [])++nmCs kids
def nmCs:List Core→List (List UInt8)
 | []=>[]
 | x::r=>nmC x++nmCs r
end
theorem nmC_eq (c:Core):nmC c=(if c.kind=2 then [c.name] else [])++nmCs c.kids:=by cases c; simp only[nmC]
mutual
theorem nmC_le:∀c:Core,(nmC c).length≤cC c
 | ⟨k,_,nm,_,_,_,kids⟩=>by have:=nmCs_le kids; simp only[nmC,cC,List.length_append]; split <;> simp <;> omega
theorem nmCs_le:∀l:List Core,(nmCs l).length≤cCs l
 | []=>by simp[nmCs]
 | x::r=>by have:=nmC_le x; have:=nmCs_le r; simp only[nmCs,cCs,List.length_append]; omega
end
theorem adN_len (w:List (List UInt8)) (x:List UInt8):(adN w x).length≤w.length+1:=by unfold adN; split <;> simp
theorem fold_len:∀(l w:List (List UInt8)),(l.foldl adN w).length≤w.length+l.length
 | [],w=>by simp
 | x::r,w=>by have:=fold_len r (adN w x); have:=adN_len w x; simp only[List.foldl_cons,List.length_cons]; omega
theorem ifree_evt (c:Core) (w:List (List UInt8)) (hw:w.length+cC c≤1000000000):Evt (fun n=>im_freeOf n c w) ((nmC c).foldl adN w):=by
 have hc:=cC_eq c;refine .succ ?_;simp only[im_freeOf,contSv_eq,Option.bind_some];refine Ex.evt ?_;refine Ex.bind (P:=fun o=>o=decide (c.kind=2∧c.name∉w)) ?_ ?_
 ·by_cases h:c.kind=2
  ·exact .pos h (.pure (by simp[h]))
  ·exact .neg h (.pure (by simp[h]))
 rintro o rfl;refine Ex.bind (P:=fun s=>s=(if c.kind=2 then [c.name] else []).foldl adN w) ?_ ?_
 ·by_cases h:c.kind=2∧c.name∉w
  ·exact .pos (by simpa using h) (.bp _ (apB_ok (by simp; omega)) (.pure (by rw[if_pos h.1]; simp[adN,h.2])))
  ·refine .neg (by simpa using h) (.pure ?_);by_cases h1:c.kind=2
   ·have:c.name∈w:=Decidable.byContradiction fun h2=>h ⟨h1,h2⟩;rw[if_pos h1]; simp[adN,this]
   ·rw[if_neg h1]; rfl
 rintro s0 rfl;have hl0:((if c.kind=2 then [c.name] else []).foldl adN w).length≤w.length+1:=by
  have:=fold_len (if c.kind=2 then [c.name] else []) w;have:(if c.kind=2 then [c.name] else []).length≤1:=by split <;> simp
  omega
 refine Ex.bind (P:=fun s=>s=(nmC c).foldl adN w) ?_ (fun s hs=>.pure hs);refine Ex.forL (I:=fun i q s=>(nmCs q).foldl adN s=(nmC c).foldl adN w∧s.length+cCs q≤1000000000∧∀x∈q,x∈c.kids) ⟨by rw[nmC_eq,List.foldl_append],by omega,fun _ h=>h⟩ ?_ ?_
 ·rintro i x q s ⟨h1,h2,h3⟩;have g4:=h3 x List.mem_cons_self;simp only[cCs] at h2;have hx:=nmC_le x;have hf:=fold_len (nmC x) s;refine .bv (ifree_evt x s (by omega)) (.pure ⟨?_,by omega,fun y hy=>h3 y (List.mem_cons_of_mem _ hy)⟩);rw[← h1,nmCs,List.foldl_append]
 ·rintro s ⟨h1,_,_⟩;exact h1
termination_by SizeOf.sizeOf c
decreasing_by exact szC_lt g4
theorem ifreeN_evt (c:Core) (hw:cC c≤1000000000-1):Evt (fun n=>im_FreeOf n c) ((nmC c).foldl adN []):=by
 have h:=ifree_evt c [] (by simp; omega);obtain⟨N,hN⟩:=h;refine⟨N+1,fun n hn=>?_⟩;obtain⟨m,rfl⟩:∃m,n=m+1:=⟨n-1,by omega⟩
 have h1:=hN (m+2) (by omega);have e:im_FreeOf (m+1) c=im_freeOf (m+2) c []:=by
  unfold im_FreeOf im_freeOf_nil;simp only[im_freeOf,contSv_eq,contS_eq,Option.bind_some,Option.bind_fun_some]
 show im_FreeOf (m+1) c=_;rw[e]; exact h1
theorem sin_eq (n:Nat) (l:List (List UInt8)) (x:List UInt8):sp_l1In n l x=some (decide (x∈l)):=by
 obtain⟨N,h⟩:=mem_evt (xs:=l) (y:=x);exact h N (Nat.le_refl N)
theorem sinv_eq (n:Nat) (l:List (List UInt8)) (x:List UInt8):sp_l1In_v n l x=some (decide (x∈l)):=sin_eq n l x
theorem sfree_evt (c:Core) (w:List (List UInt8)) (hw:w.length+cC c≤1000000000):Evt (fun n=>sp_l6Free n w c) ((nmC c).foldl adN w):=by
 have hc:=cC_eq c;refine .succ ?_;simp only[sp_l6Free,sinv_eq,Option.bind_some];refine Ex.evt ?_;refine Ex.bind (P:=fun o=>o=decide (c.kind=2∧c.name∉w)) ?_ ?_
 ·by_cases h:c.kind=2
  ·exact .pos h (.pure (by simp[h]))
  ·exact .neg h (.pure (by simp[h]))
 rintro o rfl;refine Ex.bind (P:=fun s=>s=(if c.kind=2 then [c.name] else []).foldl adN w) ?_ ?_
 ·by_cases h:c.kind=2∧c.name∉w
  ·exact .pos (by simpa using h) (.bp _ (apB_ok (by simp; omega)) (.pure (by rw[if_pos h.1]; simp[adN,h.2])))
  ·refine .neg (by simpa using h) (.pure ?_);by_cases h1:c.kind=2
   ·have:c.name∈w:=Decidable.byContradiction fun h2=>h ⟨h1,h2⟩;rw[if_pos h1]; simp[adN,this]
   ·rw[if_neg h1]; rfl
 rintro s0 rfl;have hl0:((if c.kind=2 then [c.name] else []).foldl adN w).length≤w.length+1:=by
  have:=fold_len (if c.kind=2 then [c.name] else []) w;have:(if c.kind=2 then [c.name] else []).length≤1:=by split <;> simp
  omega
 refine Ex.bind (P:=fun s=>s=(nmC c).foldl adN w) ?_ (fun s hs=>.pure hs);refine Ex.forL (I:=fun i q s=>(nmCs q).foldl adN s=(nmC c).foldl adN w∧s.length+cCs q≤1000000000∧∀x∈q,x∈c.kids) ⟨by rw[nmC_eq,List.foldl_append],by omega,fun _ h=>h⟩ ?_ ?_
 ·rintro i x q s ⟨h1,h2,h3⟩;have g4:=h3 x List.mem_cons_self;simp only[cCs] at h2;have hx:=nmC_le x;have hf:=fold_len (nmC x) s;refine .bv (sfree_evt x s (by omega)) (.pure ⟨?_,by omega,fun y hy=>h3 y (List.mem_cons_of_mem _ hy)⟩);rw[← h1,nmCs,List.foldl_append]
 ·rintro s ⟨h1,_,_⟩;exact h1
termination_by SizeOf.sizeOf c
decreasing_by exact szC_lt g4
theorem crB_parts {d:Nat} {sc:List Int} {c:Core} (h:crB d sc c=true):∃e s,d=e+1∧kdB c.kind c.kids.length=true∧flB c=true∧(c.kind=1→c.id∈sc)∧adB sc c.ids=some s∧∀x∈c.kids,crB e s x=true:=by
 cases d with
 | zero=>cases h
 | succ e=>
  simp only[crB,Bool.and_eq_true] at h;obtain⟨h1,h2,h3,h4⟩:=h;split at h4
  ·cases h4
  ·rename_i s hs;refine⟨e,s,rfl,h1,h2,?_,hs,List.all_eq_true.1 h4⟩;intro hk
   simpa [hk] using h3
theorem cfV_eq (n:Nat) (l:List (List UInt8)) (w:Int) (hl:∀x∈l,x.length≤18):slices_ContainsFunc_string__im_VarPrefix_1 n l w=some (l.any fun x=>numB x (Mx.rn w)):=by
 unfold slices_ContainsFunc_string__im_VarPrefix_1 slices_IndexFunc_string__im_VarPrefix_1;have e:∀x:List UInt8,x.length≤18→im_VarPrefix_1 n x w=some (numB x (Mx.rn w)):=fun x hx=>by
  unfold im_VarPrefix_1 im_numbered;rw[if_pos (by omega)]; rfl
 have main:∀(l:List (List UInt8)) (i:Nat),(∀x∈l,x.length≤18)→∃k:Int,seqS (Mx.forI (fun(_:Unit) (i:Nat) (y:List UInt8)=>((im_VarPrefix_1 n y w).bind fun k=>(if k=true then some (Sum.inl (i:Int)) else some (Sum.inr ())):Option (Int⊕Unit))) i l ()) (fun _=>some (-1))=some k∧(k≥0↔(l.any fun x=>numB x (Mx.rn w))=true):=by
  intro l
  induction l with
  | nil=>intro i _; exact⟨-1,rfl,by simp⟩
  | cons y r ih=>
   intro i hl;have ey:=e y (hl y List.mem_cons_self);cases h:numB y (Mx.rn w) with
   | true=>exact⟨(i:Int),by simp[Mx.forI,Mx.seqS,ey,h],by simp[h]⟩
   | false=>
    obtain⟨k,h1,h2⟩:=ih (i+1) (fun x hx=>hl x (List.mem_cons_of_mem _ hx));refine⟨k,?_,by rw[h2]; simp[h]⟩;rw[← h1];simp[Mx.forI,ey,h]
 obtain⟨k,h1,h2⟩:=main l 0 hl;rw[h1,Option.bind_some];congr 1;rw[Bool.eq_iff_iff,decide_eq_true_eq]; exact h2
theorem slN {α:Type} {l:List α} {a b:Nat} (h:a≤b) (hb:b≤l.length):slI l (a:Int) (b:Int)=some ((l.drop a).take (b-a)):=by
 unfold slI;rw[if_pos ⟨by omega,by omega,by omega⟩];simp
theorem can_all {b:UInt8} {r:List UInt8}:canB (b::r)=true↔(b::r).all dgB=true∧¬(b=48∧r≠[]):=by
 simp only[canB,Bool.and_eq_true,Bool.or_eq_true,decide_eq_true_eq,List.all_cons,List.isEmpty_iff];constructor
 ·rintro ⟨⟨h1,h2⟩,h3⟩;refine⟨⟨h1,h2⟩,fun⟨a,c⟩=>?_⟩;rcases h3 with h3 | h3
  ·exact h3 a
  ·exact c h3
 ·rintro ⟨⟨h1,h2⟩,h3⟩;refine⟨⟨h1,h2⟩,?_⟩;by_cases h:b=48
  ·exact .inr (Classical.byContradiction fun c=>h3 ⟨h,c⟩)
  ·exact .inl h
theorem u8_48 (b:UInt8):(b.toNat:Int)=48↔b=48:=by
 rw[← UInt8.toNat_inj,show(48:UInt8).toNat=48 from rfl]; omega
theorem u8_45 (b:UInt8):(b.toNat:Int)=45↔b=45:=by
 rw[← UInt8.toNat_inj,show(45:UInt8).toNat=45 from rfl]; omega
theorem exNumS (s:List UInt8) (hs:s.length≤17):Ex (fun n=>sp_l15Num n s) (fun r=>(r.2=true→s≠[])∧(s.head?≠some 45→(r.2=true↔canB s=true))):=by
 unfold sp_l15Num;cases s with
 | nil=>
  simp only[List.length_nil,Option.bind_some];exact .pure ⟨fun h=>(by cases h),fun _=>⟨fun h=>(by cases h),fun h=>(by cases h)⟩⟩
 | cons b r=>
 have hl:0<(b::r).length:=by simp
 have hne:b::r≠[]:=by simp
 have hy:(b::r)[0]? = some b:=rfl;refine Ex.bind (P:=fun o=>o=decide (b=45)) (.pos (by omega) (.bp _ (atI_nat (i:=0) hy) (.pure (by simp only[u8_45])))) ?_;rintro o1 rfl;refine Ex.mono (Q:=fun r'=>b≠45→(r'.2=true↔canB (b::r)=true)) ?_ (fun v hv=>⟨fun _=>hne,fun h=>hv (by simpa using h)⟩);refine Ex.bind (P:=fun t=>t.length≤17∧(b≠45→t=b::r)) ?_ ?_
 ·refine .ite (fun h=>?_) (fun _=>.pure ⟨hs,fun _=>rfl⟩);have:=slN (l:=b::r) (a:=1) (b:=(b::r).length) (by omega) (Nat.le_refl _);exact .bp _ this (.pure ⟨by simp at hs ⊢; omega,fun h'=>absurd (by simpa using h) h'⟩)
 rintro t ⟨ht,hts⟩;refine Ex.bind (P:=fun o=>(o=false→t≠[])∧(b≠45→(o=true↔b=48∧r≠[]))) ?_ ?_
 ·refine .ite (fun h=>.pure ⟨fun h=>(by cases h),fun h'=>?_⟩) (fun h1=>.ite (fun h=>by omega) (fun _=>?_))
  ·rw[hts h'] at h; simp at h; omega
  cases t with
  | nil=>simp at h1
  | cons y q=>
  refine .bp _ (atI_nat (i:=0) (x:=y) rfl) ?_;refine .ite (fun h2=>.ite (fun h3=>.pure ⟨fun _=>(by simp),fun h'=>?_⟩) (fun h3=>.pure ⟨fun _=>(by simp),fun h'=>?_⟩)) (fun h2=>.pure ⟨fun _=>(by simp),fun h'=>?_⟩)
  ·obtain⟨rfl,rfl⟩:=List.cons.inj (hts h');have:q≠[]:=fun e=>by rw[e] at h3; simp at h3
   simp[(u8_48 y).1 h2,this]
  ·obtain⟨rfl,rfl⟩:=List.cons.inj (hts h');have:q=[]:=by
    cases q with
    | nil=>rfl
    | cons a c=>exact absurd (by simp; omega) h3
   simp[this,h']
  ·obtain⟨rfl,rfl⟩:=List.cons.inj (hts h');have:y≠48:=fun e=>h2 ((u8_48 y).2 e);simp[this]
 rintro o3 ⟨g1,g2⟩;refine .ite (fun h3=>.pure fun h'=>?_) (fun h3=>?_)
 ·rw[can_all];exact⟨fun h=>(by cases h),fun h=>absurd ((g2 h').1 h3) h.2⟩
 have h3':o3=false:=by simpa using h3
 have fin:∀v:Int×Bool,v.2=t.all dgB→b≠45→(v.2=true↔canB (b::r)=true):=fun v hv h'=>by
  have h4:¬(b=48∧r≠[]):=fun h=>h3 ((g2 h').2 h);rw[can_all,hv,hts h'];exact⟨fun h=>⟨h,h4⟩,fun h=>h.1⟩
 refine Ex.mono (Q:=fun r'=>r'.2=t.all dgB) ?_ fin;refine Ex.iter (fun s=>t.length-s.2.toNat) (fun s=>∃i:Nat,s.2=(i:Int)∧i≤t.length∧(t.take i).all dgB=true) _ ⟨0,rfl,Nat.zero_le _,rfl⟩ ?_;rintro ⟨k,p⟩ ⟨i,hi,hil,hall⟩;simp only at hi;subst hi;simp only;refine .ite (fun h=>?_) (fun h=>?_)
 ·have hi:i<t.length:=by omega
  have hy:=List.getElem?_eq_getElem hi;rw[atI_nat hy];simp only[Option.bind_some];refine Ex.bind (P:=fun o=>o=!dgB t[i]) ?_ ?_
  ·refine .ite (fun h1=>.pure ?_) (fun h1=>.pure ?_)
   ·unfold dgB; simp; omega
   ·unfold dgB;by_cases h2:(t[i].toNat:Int)>57
    ·simp[h2]; omega
    ·simp[h2]; omega
  rintro o rfl;refine .ite (fun h1=>.pure ⟨fun w e=>?_,fun _ e=>(by cases e)⟩) (fun h1=>.pure ⟨fun _ e=>(by cases e),fun s' e=>?_⟩)
  ·cases e
   symm
   rw[Bool.eq_false_iff];intro h2;have:=List.all_eq_true.1 h2 _ (List.getElem_mem hi);rw[this] at h1; cases h1
  ·cases e;refine⟨⟨i+1,by simp only; rw[w64_nat (by omega)],by omega,?_⟩,by simp only; rw[w64_nat (by omega)]; simp; omega⟩;rw[List.take_add_one,hy,List.all_append,hall]
   simpa using h1
 ·have:i=t.length:=by omega
  subst this;rw[List.take_length] at hall;refine Ex.bind (P:=fun _=>True) (.ite (fun _=>.pure trivial) (fun _=>.pure trivial)) ?_;intro o _;exact .pure ⟨fun w e=>by cases e; exact hall.symm,fun _ e=>(by cases e)⟩
theorem rn_ltr:∀i:Nat,i<26→Mx.rn ((97+i:Nat):Int)=[UInt8.ofNat (97+i)]:=by decide +kernel
theorem exClash (x:List UInt8) (h1:1≤x.length) (h2:x.length≤18) (i:Nat) (hi:i<26):Ex (fun n=>sp_l13Clashes n x ((97+i:Nat):Int)) (fun r=>r=numB x (Mx.rn ((97+i:Nat):Int))):=by
 unfold sp_l13Clashes;cases x with
 | nil=>simp at h1
 | cons b r=>
 have e:=slN (l:=b::r) (a:=1) (b:=(b::r).length) (by simp) (Nat.le_refl _);have e2:((b::r).drop 1).take ((b::r).length-1)=r:=by simp
 rw[e2] at e;refine .bp _ e (.bind (exNumS r (by simp at h2; omega)) ?_);rintro k ⟨k1,k2⟩;rw[rn_ltr i hi];have hn:numB (b::r) [UInt8.ofNat (97+i)]=(decide ((b.toNat:Int)=((97+i:Nat):Int))&&canB r):=by
  have hb:decide ((b::r).take 1=[UInt8.ofNat (97+i)])=decide ((b.toNat:Int)=((97+i:Nat):Int)):=by
   simp only[decide_eq_decide,List.take_succ_cons,List.take_zero,List.cons.injEq,and_true];constructor
   ·rintro rfl; simp[UInt8.toNat_ofNat']; omega
   ·intro h;rw[← UInt8.toNat_inj,UInt8.toNat_ofNat'];omega
  unfold numB;rw[hb,decide_eq_true h2];cases r with
  | nil=>simp[canB]
  | cons y q=>simp
 rw[hn];refine Ex.bind (P:=fun o=>o=(decide ((b.toNat:Int)=((97+i:Nat):Int))&&canB r)) ?_ (fun o ho=>.pure ho);refine .bp _ (atI_nat (i:=0) (x:=b) rfl) ?_;refine .ite (fun hb=>?_) (fun hb=>.pure (by rw[decide_eq_false hb]; rfl));rw[decide_eq_true hb,Bool.true_and];cases r with
 | nil=>exact .neg (fun h=>k1 h rfl) (.pure rfl)
 | cons y q=>
 refine .ite (fun hk=>.bp y (by unfold atI; rfl) (.pure ?_)) (fun hk=>.pure ?_)
 ·by_cases hy:y=45
  ·subst hy; rfl
  ·rw[(k2 (by simpa using hy)).1 hk];have:¬(y.toNat:Int)=45:=fun h=>hy ((u8_45 y).1 h);simp[this]
 ·by_cases hy:y=45
  ·subst hy; rfl
  ·symm
   rw[Bool.eq_false_iff];exact fun h=>hk ((k2 (by simpa using hy)).2 h)
def pL (l:List (List UInt8)) (i:Nat):Bool:=l.any fun x=>numB x (Mx.rn ((97+i:Nat):Int))
def LtrQ (l:List (List UInt8)) (r:List UInt8×Bool):Prop:=
 (∃i,i<26∧r=(Mx.rn ((97+i:Nat):Int),true)∧pL l i=false∧∀j,j<i→pL l j=true)∨(r=([],false)∧∀j,j<26→pL l j=true)
theorem LtrQ.uniq {l:List (List UInt8)} {r r':List UInt8×Bool} (h:LtrQ l r) (h':LtrQ l r'):r=r':=by
 rcases h with ⟨i,hi,rfl,h1,h2⟩ | ⟨rfl,h2⟩ <;> rcases h' with ⟨k,hk,rfl,k1,k2⟩ | ⟨rfl,k2⟩
 ·have:i=k:=by
   rcases Nat.lt_trichotomy i k with h | h | h
   ·rw[k2 i h] at h1; cases h1
   ·exact h
   ·rw[h2 k h] at k1; cases k1
  subst this; rfl
 ·rw[k2 i hi] at h1; cases h1
 ·rw[h2 k hk] at k1; cases k1
 ·rfl
theorem exLtr {l:List (List UInt8)} {step:Nat→Int→Option ((List UInt8×Bool)⊕Int)} (h1:∀i:Nat,i<26→Ex (fun n=>step n ((97+i:Nat):Int)) (fun r=>r=if pL l i=false then .inl (Mx.rn ((97+i:Nat):Int),true) else .inr ((97+(i+1):Nat):Int))) (h2:Ex (fun n=>step n ((97+26:Nat):Int)) (fun r=>r=.inl ([],false))) :
  Ex (fun n=>iterM n (step n) 97) (LtrQ l):=by
 refine Ex.iter (fun s=>123-s.toNat) (fun s=>∃i:Nat,s=((97+i:Nat):Int)∧i≤26∧∀j,j<i→pL l j=true) _ ⟨0,rfl,by omega,fun j h=>by omega⟩ ?_;rintro s ⟨i,rfl,hi,hp⟩;rcases Nat.lt_or_ge i 26 with h | h
 ·refine(h1 i h).mono ?_;rintro r rfl;cases hq:pL l i with
  | false=>
   rw[if_pos rfl];exact⟨fun w e=>by rw[← Sum.inl.inj e]; exact .inl ⟨i,h,rfl,hq,hp⟩,fun s' e=>(by cases e)⟩
  | true=>
   refine⟨fun w e=>by simp at e,fun s' e=>?_⟩;simp only[Bool.true_eq_false,if_false,Sum.inr.injEq] at e;subst e;refine⟨⟨i+1,rfl,by omega,fun j hj=>?_⟩,by simp only[Int.toNat_natCast]; omega⟩;rcases Nat.lt_or_eq_of_le (Nat.le_of_lt_succ hj) with h' | h'
   ·exact hp j h'
   ·subst h'; exact hq
 ·have:i=26:=by omega
  subst this;refine h2.mono ?_;rintro r rfl;exact⟨fun w e=>by cases e; exact .inr ⟨rfl,hp⟩,fun s' e=>(by cases e)⟩
theorem wr_i32:∀i:Nat,i<26→IntKind.i32.wrap (((97+i:Nat):Int)+1)=((97+(i+1):Nat):Int):=by decide +kernel
theorem wr_u8:∀i:Nat,i<26→IntKind.u8.wrap (((97+i:Nat):Int)+1)=((97+(i+1):Nat):Int):=by decide +kernel
theorem fold_mem:∀(l w:List (List UInt8)) {x:List UInt8},x∈l.foldl adN w→x∈w∨x∈l
 | [],w,x,h=>.inl h
 | y::r,w,x,h=>by
  rw[List.foldl_cons] at h;rcases fold_mem r (adN w y) h with h | h
  ·unfold adN at h;split at h
   ·exact .inl h
   ·rcases List.mem_append.1 h with h | h
    ·exact .inl h
    ·exact .inr (by rw[List.mem_singleton.1 h]; exact List.mem_cons_self)
  ·exact .inr (List.mem_cons_of_mem _ h)
theorem nameB_12 {s:List UInt8} (h:nameB s=true):1≤s.length∧s.length≤12:=by
 unfold nameB at h;simp only[Bool.or_eq_true,Bool.and_eq_true,decide_eq_true_eq] at h;rcases h with (h | h) | h
 ·subst h; decide
 ·subst h; decide
 ·exact h.2
theorem nmCs_mem:∀{l:List Core} {x:List UInt8},x∈nmCs l→∃c∈l,x∈nmC c
 | c::r,x,h=>by
  simp only[nmCs,List.mem_append] at h;rcases h with h | h
  ·exact⟨c,List.mem_cons_self,h⟩
  ·obtain⟨d,h1,h2⟩:=nmCs_mem h;exact⟨d,List.mem_cons_of_mem _ h1,h2⟩
 | [],x,h=>by simp[nmCs] at h
theorem nm_valid:∀(d:Nat) (sc:List Int) (c:Core),crB d sc c=true→∀x∈nmC c,nameB x=true
 | 0,sc,c,h=>by cases h
 | d+1,sc,c,h=>by
  intro x hx;obtain⟨e,s,he,h1,h2,h3,h4,h5⟩:=crB_parts h;cases he;rw[nmC_eq,List.mem_append] at hx;rcases hx with hx | hx
  ·split at hx
   ·rename_i hk;rw[List.mem_singleton.1 hx];unfold flB at h2;rw[hk] at h2;simp at h2;exact h2.2.1
   ·simp at hx
  ·obtain⟨y,hy,hx⟩:=nmCs_mem hx;exact nm_valid d s y (h5 y hy) x hx
theorem valid_names {c:Core} (h:validC c=true):∀x∈(nmC c).foldl adN [],1≤x.length∧x.length≤18:=by
 intro x hx;unfold validC at h;rw[Bool.and_eq_true] at h;rcases fold_mem _ _ hx with h' | h'
 ·simp at h'
 ·have:=nameB_12 (nm_valid _ _ _ h.1 x h');omega
def VpQ (c:Core) (r:List UInt8×Bool):Prop:=if validC c=true then LtrQ ((nmC c).foldl adN []) r else r=([],false)
theorem VpQ.uniq {c:Core} {r r':List UInt8×Bool} (h:VpQ c r) (h':VpQ c r'):r=r':=by
 unfold VpQ at h h';split at h
 ·rename_i hv; rw[if_pos hv] at h'; exact h.uniq h'
 ·rename_i hv; rw[if_neg hv] at h'; rw[h,h']
theorem ivp_ex (c:Core) (hw:wC c≤700000000):Ex (fun n=>im_VarPrefix n c) (VpQ c):=by
 unfold im_VarPrefix VpQ;have hcl:=cC_le c;refine .bv (icv_evt c (by omega)) ?_;cases hv:validC c with
 | false=>exact .pos rfl (.pure (by simp))
 | true=>
  refine .neg (by simp) (.bv (ifreeN_evt c (by omega)) ?_);have hn:=valid_names hv;simp only[if_true];generalize (nmC c).foldl adN []=l at hn ⊢;have hcf:∀(n:Nat) (w:Int),slices_ContainsFunc_string__im_VarPrefix_1 n l w=some (l.any fun x=>numB x (Mx.rn w)):=fun n w=>cfV_eq n l w fun x hx=>(hn x hx).2;simp only[hcf];refine exLtr (fun i hi=>?_) ?_
  ·refine .pos (by omega) ?_;show Ex (fun n=>(if(!pL l i)=true then some (Sum.inl (Mx.rn ((97+i:Nat):Int),true)) else some (Sum.inr (IntKind.i32.wrap (((97+i:Nat):Int)+1)))) ) _;cases hp:pL l i with
   | false=>exact .pos rfl (.pure rfl)
   | true=>
    refine .neg (by simp) (.pure ?_);rw[if_neg (by simp)];congr 1;exact wr_i32 i hi
  ·exact .neg (by decide) (.pure rfl)
theorem svp_ex (c:Core) (hw:wC c≤700000000):Ex (fun n=>sp_VarPrefix n c) (VpQ c):=by
 unfold sp_VarPrefix VpQ sp_FreeOf;have hcl:=cC_le c;refine .bv (scv_evt c (by omega)) ?_;cases hv:validC c with
 | false=>exact .pos rfl (.pure (by simp))
 | true=>
  refine .neg (by simp) (.bv (a:=(nmC c).foldl adN []) (Ex.evt (.bv (sfree_evt c [] (by simp; omega)) (.pure rfl))) ?_);simp only[if_true];have hn:=valid_names hv;generalize (nmC c).foldl adN []=l at hn ⊢;refine exLtr (fun i hi=>?_) ?_
  ·refine .pos (by omega) ?_;refine Ex.bind (P:=fun o=>o=pL l i) ?_ ?_
   ·refine Ex.forL (I:=fun k q s=>(∀x∈q,x∈l)∧(s||q.any fun x=>numB x (Mx.rn ((97+i:Nat):Int)))=pL l i) ⟨fun _ h=>h,by simp[pL]⟩ ?_ ?_
    ·rintro k x q s ⟨h1,h2⟩;have hx:=hn x (h1 x List.mem_cons_self);refine Ex.bind (P:=fun o=>o=(s||numB x (Mx.rn ((97+i:Nat):Int)))) ?_ ?_
     ·refine .ite (fun h=>.pure (by simp[h])) (fun h=>.bind (exClash x hx.1 hx.2 i hi) fun r hr=>.pure ?_);have:s=false:=by simpa using h
      rw[hr,this]; rfl
     ·rintro o rfl;refine .pure ⟨fun y hy=>h1 y (List.mem_cons_of_mem _ hy),?_⟩;rw[← h2,List.any_cons,Bool.or_assoc]
    ·rintro s ⟨_,h2⟩
     simpa using h2
   ·rintro o rfl;cases hp:pL l i with
    | false=>
     refine .pos rfl (.bp _ (u8B_of (by omega) (by omega)) (.pure ?_));rw[if_pos rfl,rn_ltr i hi]; rfl
    | true=>
     refine .neg (by simp) (.pure ?_);rw[if_neg (by simp)];congr 1;exact wr_u8 i hi
  ·exact .neg (by decide) (.pure rfl)
theorem adB_app:∀{ids sc s:List Int},adB sc ids=some s→s=sc++ids∧∀i∈ids,1≤i∧i≤999
 | [],sc,s,h=>by cases h; simp
 | x::r,sc,s,h=>by
  simp only[adB] at h;split at h
  ·rename_i hx;obtain⟨h1,h2⟩:=adB_app h;refine⟨by rw[h1]; simp,fun i hi=>?_⟩;rcases List.mem_cons.1 hi with rfl | hi
   ·exact hx.1
   ·exact h2 i hi
  ·cases h
def nmF (s:List UInt8):Form:=⟨1,s,0,[],[]⟩
def lsF (l:List Form):Form:=⟨3,[],0,[],l⟩
def bQuo:List UInt8:=[113,117,111,116,101]
def bLam:List UInt8:=[108,97,109,98,100,97]
def bIf:List UInt8:=[105,102]
mutual
def ucF (p:List UInt8):Core→Form
 | ⟨k,id,nm,n,ids,dt,kids⟩=>if k=1 then nmF (p++Lib.itoa id) else if k=2 then nmF nm else if k=3 then⟨2,[],n,[],[]⟩ else if k=4 then lsF [nmF bQuo,dt] else
   lsF ((if k=7 then [nmF bIf] else [])++((if k=5 then [nmF bLam,lsF (ids.map fun i=>nmF (p++Lib.itoa i))] else [])++ucFs p kids))
def ucFs (p:List UInt8):List Core→List Form
 | []=>[]
 | x::r=>ucF p x::ucFs p r
end
theorem ucF_eq (p:List UInt8) (c:Core):ucF p c=if c.kind=1 then nmF (p++Lib.itoa c.id) else if c.kind=2 then nmF c.name else if c.kind=3 then⟨2,[],c.n,[],[]⟩ else if c.kind=4 then lsF [nmF bQuo,c.data] else
   lsF ((if c.kind=7 then [nmF bIf] else [])++((if c.kind=5 then [nmF bLam,lsF (c.ids.map fun i=>nmF (p++Lib.itoa i))] else [])++ucFs p c.kids)):=by cases c; simp only[ucF]
theorem ucFs_len (p:List UInt8):∀l:List Core,(ucFs p l).length=l.length
 | []=>rfl
 | x::r=>by simp only[ucFs,List.length_cons,ucFs_len p r]
theorem dec_len:∀(k m:Nat),m<10 ^ (k+1)→(Lib.decDigits m).length≤k+1
 | 0,m,h=>by rw[Lib.decDigits,dif_pos (by simpa using h)]; simp
 | k+1,m,h=>by
  rw[Lib.decDigits];split
  ·simp
  ·have:=dec_len k (m / 10) (by rw[Nat.pow_succ] at h; omega);simp; omega
theorem itoa_nat (m:Nat):Lib.itoa (m:Int)=Lib.decDigits m:=by
 unfold Lib.itoa; rw[if_neg (by omega),Int.toNat_natCast]
theorem itoa_len {i:Int} (h:1≤i∧i≤999):(Lib.itoa i).length≤3:=by
 obtain⟨m,rfl⟩:∃m:Nat,i=m:=⟨i.toNat,by omega⟩
 rw[itoa_nat]; exact dec_len 2 m (by omega)
theorem u8d:∀k:Nat,k<10→u8B (IntKind.u8.wrap (w64 (48+(k:Int))))=some (UInt8.ofNat (48+k)):=by decide +kernel
theorem remI_n (m:Nat):remI (m:Int) 10=some ((m % 10:Nat):Int):=rem_some (by decide)
theorem quoI_n (m:Nat) (h:m<1000000):quoI (m:Int) 10=some ((m / 10:Nat):Int):=by
 rw[quo_some (by decide)];have e:(m:Int).tdiv 10=((m / 10:Nat):Int):=rfl;rw[e,w_id (by omega) (by omega)]
theorem sdec_evt {i:Int} (h:1≤i∧i≤999):Evt (fun n=>sp_l15Dec n i) (Lib.itoa i):=by
 obtain⟨m0,rfl⟩:∃m:Nat,i=m:=⟨i.toNat,by omega⟩
 rw[itoa_nat];refine .succ ?_;simp only[sp_l15Dec];refine Ex.evt (.neg (by omega) (.neg (by omega) ?_));refine Ex.iter (fun(s:Int×List UInt8)=>s.1.toNat) (fun(s:Int×List UInt8)=>∃m:Nat,s.1=(m:Int)∧m<1000∧Lib.decDigits m++s.2=Lib.decDigits m0) ((m0:Int),[]) ⟨m0,rfl,by omega,by simp⟩ ?_;rintro ⟨a,s⟩ ⟨m,hm,h1,h2⟩;simp only at hm h2 ⊢;subst hm;have hs:s.length≤3:=by
  have h3:=congrArg List.length h2;have h4:=dec_len 2 m0 (by omega);simp only[List.length_append] at h3;omega
 refine .ite (fun hgt=>?_) (fun hle=>?_)
 ·have hm10:¬m<10:=by omega
  refine .bp _ (remI_n m) (.bp _ (u8d (m % 10) (by omega)) (.bp _ (catS_ok (by simp; omega)) (.bp _ (quoI_n m (by omega)) (.pure ⟨fun _ e=>(by cases e),fun s' e=>?_⟩))));cases e;refine⟨⟨m / 10,rfl,by omega,?_⟩,by simp only[Int.toNat_natCast]; omega⟩;rw[← h2]
  conv=>rhs; rw[Lib.decDigits,dif_neg hm10]
  simp
 ·refine .bp _ (u8d m (by omega)) (.bp _ (catS_ok (by simp; omega)) (.pure ⟨fun w e=>?_,fun _ e=>(by cases e)⟩));cases e;rw[← h2,Lib.decDigits,dif_pos (by omega)]
theorem ev0 {α:Type} {f:Nat→Option α} {a:α} (h:∀n,f n=some a):Evt f a:=⟨0,fun n _=>h n⟩
theorem iname_eq (n:Nat) (s:List UInt8):im_nameForm n s []=some (nmF s):=by
 unfold im_nameForm;rw[iclo_eq (by simp)]; rfl
theorem iunm_eq (n:Nat) (p:List UInt8) (hp:p.length≤1) {i:Int} (h:1≤i∧i≤999):im_uncore_1 n i p=some (nmF (p++Lib.itoa i)):=by
 have:=itoa_len h;unfold im_uncore_1 strconv_Itoa;rw[if_pos (by omega),Option.bind_some,catS_ok (by omega),Option.bind_some,iname_eq]; rfl
theorem fl_id {c:Core} (h:flB c=true) (hk:c.kind=1):1≤c.id∧c.id≤999:=by
 unfold flB at h;simp only[hk,if_true,Bool.and_eq_true,decide_eq_true_eq] at h;exact h.1
theorem kd_one {c:Core} (h:kdB c.kind c.kids.length=true) (hk:c.kind=5):∃x,c.kids=[x]:=by
 unfold kdB at h;rw[if_neg (by omega),if_pos hk,decide_eq_true_eq] at h;exact List.length_eq_one_iff.1 h
theorem iuc_evt (p:List UInt8) (hp:p.length≤1):∀(d:Nat) (sc:List Int) (c:Core),wC c≤1000000000→crB d sc c=true→Evt (fun n=>im_uncore n c p) (ucF p c)
 | 0,sc,c,_,h=>by cases h
 | d+1,sc,c,hw,h=>by
  obtain⟨e,s,he,h1,h2,h3,h4,h5⟩:=crB_parts h;cases he;have hwe:=wC_eq c;obtain⟨rfl,hids⟩:=adB_app h4;refine .succ ?_;simp only[im_uncore];refine Ex.evt ?_;refine Ex.bind (P:=fun s=>s=ucFs p c.kids) ?_ ?_
  ·refine Ex.forL (I:=fun i q s=>s++ucFs p q=ucFs p c.kids∧s.length+q.length≤c.kids.length∧∀y∈q,y∈c.kids) ⟨rfl,by simp,fun _ h=>h⟩ ?_ (fun s ⟨h,_⟩=>by simpa [ucFs] using h);rintro i x q s ⟨g1,g2,g3⟩;have hx:=g3 x List.mem_cons_self;simp only[List.length_cons] at g2;exact .bv (iuc_evt p hp d _ x (by have:=wCs_mem hx; omega) (h5 x hx)) (.bp _ (apB_ok (by simp only[List.length_cons,List.length_nil]; omega)) (.pure ⟨by rw[← g1]; simp[ucFs],by simp only[List.length_append,List.length_cons,List.length_nil]; omega,fun y hy=>g3 y (List.mem_cons_of_mem _ hy)⟩))
  rintro s rfl;refine Ex.seqS (P:=fun o=>match o with
   | .inl w=>w=ucF p c
   | .inr l=>lsF l=ucF p c) ?_ (fun w hw=>hw) (fun t ht=>.bv (a:=lsF t) (ev0 fun _=>rfl) (.pure ht))
  rw[ucF_eq];refine .ite (fun k1=>.bv (ev0 fun n=>iunm_eq n p hp (fl_id h2 k1)) (.pure (by rw[if_pos k1]))) (fun k1=>?_);refine .ite (fun k2=>.bv (ev0 fun n=>iname_eq n _) (.pure (by rw[if_neg k1,if_pos k2]))) (fun k2=>?_);refine .ite (fun k3=>.pure (by rw[if_neg k1,if_neg k2,if_pos k3])) (fun k3=>?_);refine .ite (fun k4=>.bv (ev0 fun n=>iname_eq n _) (.bv (icf_evt c.data (by omega)) (.bv (ev0 fun _=>rfl) (.pure (by rw[if_neg k1,if_neg k2,if_neg k3,if_pos k4]; rfl))))) (fun k4=>?_);rw[if_neg k1,if_neg k2,if_neg k3,if_neg k4];refine .ite (fun k5=>?_) (fun k5=>?_)
  ·obtain⟨x,hx⟩:=kd_one h1 k5;refine Ex.bind (P:=fun s=>s=c.ids.map fun i=>nmF (p++Lib.itoa i)) ?_ ?_
   ·refine Ex.forL (I:=fun i q s=>s++(q.map fun i=>nmF (p++Lib.itoa i))=(c.ids.map fun i=>nmF (p++Lib.itoa i))∧s.length+q.length≤c.ids.length∧∀y∈q,y∈c.ids) ⟨rfl,by simp,fun _ h=>h⟩ ?_ (fun s ⟨h,_⟩=>by simpa using h);rintro i y q s ⟨g1,g2,g3⟩;simp only[List.length_cons] at g2;exact .bv (ev0 fun n=>iunm_eq n p hp (hids y (g3 y List.mem_cons_self))) (.bp _ (apB_ok (by simp only[List.length_cons,List.length_nil]; omega)) (.pure ⟨by rw[← g1]; simp,by simp only[List.length_append,List.length_cons,List.length_nil]; omega,fun z hz=>g3 z (List.mem_cons_of_mem _ hz)⟩))
   rintro s rfl;rw[hx];refine .bv (ev0 fun n=>iname_eq n _) (.bp (ucF p x) (atI_0 rfl) (.bv (ev0 fun _=>rfl) (.pure ?_)));rw[if_neg (by omega),if_pos k5]; rfl
  ·rw[if_neg k5];refine .ite (fun k7=>.bv (ev0 fun n=>iname_eq n _) (.bp _ (apB_ok (by rw[ucFs_len]; simp only[List.length_cons,List.length_nil]; omega)) (.pure ?_))) (fun k7=>.pure ?_)
   ·rw[if_pos k7]; rfl
   ·rw[if_neg k7]; rfl
theorem suc_evt (p:List UInt8) (hp:p.length≤1):∀(d:Nat) (sc:List Int) (c:Core),wC c≤1000000000→crB d sc c=true→Evt (fun n=>sp_l13Form n c p) (ucF p c)
 | 0,sc,c,_,h=>by cases h
 | d+1,sc,c,hw,h=>by
  obtain⟨e,s,he,h1,h2,h3,h4,h5⟩:=crB_parts h;cases he;have hwe:=wC_eq c;obtain⟨rfl,hids⟩:=adB_app h4;refine .succ ?_;simp only[sp_l13Form];refine Ex.evt ?_;rw[ucF_eq];refine .ite (fun k1=>.bv (sdec_evt (fl_id h2 k1)) (.bp _ (catS_ok (by have:=itoa_len (fl_id h2 k1); omega)) (.bv (ev0 fun _=>rfl) (.pure (by rw[if_pos k1]; rfl))))) (fun k1=>?_);refine .ite (fun k2=>.bv (ev0 fun _=>rfl) (.pure (by rw[if_neg k1,if_pos k2]; rfl))) (fun k2=>?_);refine .ite (fun k3=>.pure (by rw[if_neg k1,if_neg k2,if_pos k3])) (fun k3=>?_);refine .ite (fun k4=>.bv (ev0 fun _=>rfl) (.bv (scf_evt c.data (by omega)) (.bv (ev0 fun _=>rfl) (.pure (by rw[if_neg k1,if_neg k2,if_neg k3,if_pos k4]; rfl))))) (fun k4=>?_);rw[if_neg k1,if_neg k2,if_neg k3,if_neg k4];refine Ex.bind (P:=fun s=>s=if c.kind=7 then [nmF bIf] else []) ?_ ?_
  ·refine .ite (fun k7=>.bv (ev0 fun _=>rfl) (.bp _ (apB_ok (by simp)) (.pure (by rw[if_pos k7]; rfl)))) (fun k7=>.pure (by rw[if_neg k7]))
  rintro s rfl;have l7:(if c.kind=7 then [nmF bIf] else []).length≤1:=by split <;> simp
  generalize (if c.kind=7 then [nmF bIf] else [])=a7 at l7 ⊢;refine Ex.bind (P:=fun s=>s=a7++(if c.kind=5 then [nmF bLam,lsF (c.ids.map fun i=>nmF (p++Lib.itoa i))] else [])) ?_ ?_
  ·refine .ite (fun k5=>?_) (fun k5=>.pure (by rw[if_neg k5]; simp));refine Ex.bind (P:=fun s=>s=c.ids.map fun i=>nmF (p++Lib.itoa i)) ?_ ?_
   ·refine Ex.forL (I:=fun i q s=>s++(q.map fun i=>nmF (p++Lib.itoa i))=(c.ids.map fun i=>nmF (p++Lib.itoa i))∧s.length+q.length≤c.ids.length∧∀y∈q,y∈c.ids) ⟨rfl,by simp,fun _ h=>h⟩ ?_ (fun s ⟨h,_⟩=>by simpa using h);rintro i y q s ⟨g1,g2,g3⟩;simp only[List.length_cons] at g2;have hy:=hids y (g3 y List.mem_cons_self);exact .bv (sdec_evt hy) (.bp _ (catS_ok (by have:=itoa_len hy; omega)) (.bv (ev0 fun _=>rfl) (.bp _ (apB_ok (by simp only[List.length_cons,List.length_nil]; omega)) (.pure ⟨by rw[← g1]; simp[nmF],by simp only[List.length_append,List.length_cons,List.length_nil]; omega,fun z hz=>g3 z (List.mem_cons_of_mem _ hz)⟩))))
   rintro s rfl;refine .bv (ev0 fun _=>rfl) (.bv (ev0 fun _=>rfl) (.bp _ (apB_ok (by simp only[List.length_cons,List.length_nil]; omega)) (.pure (by rw[if_pos k5]; rfl))))
  rintro s rfl;have l5:(if c.kind=5 then [nmF bLam,lsF (c.ids.map fun i=>nmF (p++Lib.itoa i))] else []).length≤2:=by split <;> simp
  generalize (if c.kind=5 then [nmF bLam,lsF (c.ids.map fun i=>nmF (p++Lib.itoa i))] else [])=a5 at l5 ⊢;refine Ex.bind (P:=fun s=>s=a7++a5++ucFs p c.kids) ?_ (fun s hs=>.bv (ev0 fun _=>rfl) (.pure (by rw[hs,List.append_assoc]; rfl)));refine Ex.forL (I:=fun i q s=>s++ucFs p q=a7++a5++ucFs p c.kids∧s.length+q.length≤3+c.kids.length∧∀y∈q,y∈c.kids) ⟨rfl,by simp only[List.length_append]; omega,fun _ h=>h⟩ ?_ (fun s ⟨h,_⟩=>by simpa [ucFs] using h);rintro i x q s ⟨g1,g2,g3⟩;have hx:=g3 x List.mem_cons_self;simp only[List.length_cons] at g2;exact .bv (suc_evt p hp d _ x (by have:=wCs_mem hx; omega) (h5 x hx)) (.bp _ (apB_ok (by simp only[List.length_cons,List.length_nil]; omega)) (.pure ⟨by rw[← g1]; simp[ucFs],by simp only[List.length_append,List.length_cons,List.length_nil]; omega,fun y hy=>g3 y (List.mem_cons_of_mem _ hy)⟩))
theorem ok_nm {s:List UInt8} (h:s.length≤1000):okF (nmF s):=by simp only[nmF,okF,okFs,mxL]; exact⟨by omega,by simp,by simp,trivial⟩
theorem okFs_of:∀{l:List Form},(∀x∈l,okF x)→okFs l
 | [],_=>trivial
 | x::r,h=>by simp only[okFs]; exact⟨h x List.mem_cons_self,okFs_of fun y hy=>h y (List.mem_cons_of_mem _ hy)⟩
theorem ok_ls {l:List Form} (hl:l.length≤1000000100) (h:∀x∈l,okF x):okF (lsF l):=by simp only[lsF,okF,mxL]; exact⟨by simp,by simp,by omega,okFs_of h⟩
theorem ucFs_mem {p:List UInt8}:∀{l:List Core} {y:Form},y∈ucFs p l→∃x∈l,y=ucF p x
 | x::r,y,h=>by
  simp only[ucFs,List.mem_cons] at h;rcases h with h | h
  ·exact⟨x,by simp,h⟩
  ·obtain⟨z,h1,h2⟩:=ucFs_mem h; exact⟨z,List.mem_cons_of_mem _ h1,h2⟩
theorem uc_ok (p:List UInt8) (hp:p.length≤1):∀(d:Nat) (sc:List Int) (c:Core),wC c≤1000000000→crB d sc c=true→okF (ucF p c)
 | 0,sc,c,_,h=>by cases h
 | d+1,sc,c,hw,h=>by
  obtain⟨e,s,he,h1,h2,h3,h4,h5⟩:=crB_parts h;cases he;have hwe:=wC_eq c;obtain⟨rfl,hids⟩:=adB_app h4;rw[ucF_eq];have hn:∀i,1≤i∧i≤999→okF (nmF (p++Lib.itoa i)):=fun i hi=>ok_nm (by have:=itoa_len hi; simp; omega);split
  ·rename_i k1; exact hn _ (fl_id h2 k1)
  split
  ·rename_i k2;refine ok_nm ?_;unfold flB at h2;simp only[k2,if_true,Bool.and_eq_true] at h2;have:=nameB_12 h2.2.1; omega
  split
  ·simp[okF,okFs,mxL]
  split
  ·refine ok_ls (by simp) fun x hx=>?_;simp only[List.mem_cons,List.not_mem_nil,or_false] at hx;rcases hx with rfl | rfl
   ·exact ok_nm (by decide)
   ·exact okF_w _ (by omega)
  ·refine ok_ls ?_ fun x hx=>?_
   ·have l7:(if c.kind=7 then [nmF bIf] else []).length≤1:=by split <;> simp
    have l5:(if c.kind=5 then [nmF bLam,lsF (c.ids.map fun i=>nmF (p++Lib.itoa i))] else []).length≤2:=by split <;> simp
    simp only[List.length_append,ucFs_len]; omega
   ·rcases List.mem_append.1 hx with hx | hx
    ·split at hx
     ·rw[List.mem_singleton.1 hx]; exact ok_nm (by decide)
     ·cases hx
    rcases List.mem_append.1 hx with hx | hx
    ·split at hx
     ·simp only[List.mem_cons,List.not_mem_nil,or_false] at hx;rcases hx with rfl | rfl
      ·exact ok_nm (by decide)
      ·refine ok_ls (by rw[List.length_map]; omega) fun y hy=>?_;obtain⟨i,hi,rfl⟩:=List.mem_map.1 hy;exact hn i (hids i hi)
     ·cases hx
    ·obtain⟨y,hy,rfl⟩:=ucFs_mem hx;exact uc_ok p hp d _ y (by have:=wCs_mem hy; omega) (h5 y hy)
theorem cFs_ap2:∀a b:List Form,cFs (a++b)=cFs a+cFs b
 | [],b=>by simp[cFs]
 | x::a,b=>by simp only[List.cons_append,cFs,cFs_ap2 a b]; omega
theorem cF_nm (s:List UInt8):cF (nmF s)=1:=by simp[nmF,cF,cFs]
theorem cF_ls (l:List Form):cF (lsF l)=1+cFs l:=by simp[lsF,cF]
theorem cFs_nm {α:Type} (g:α→List UInt8):∀l:List α,cFs (l.map fun i=>nmF (g i))=l.length
 | []=>rfl
 | x::r=>by
  show cF (nmF (g x))+cFs (r.map fun i=>nmF (g i))=_;rw[cF_nm,cFs_nm g r,List.length_cons]; omega
mutual
theorem uc_cF (p:List UInt8):∀c:Core,cF (ucF p c)≤wC c+4*cC c
 | ⟨k,id,nm,n,ids,dt,kids⟩=>by
  have hk:=ucs_cF p kids;have hd:=cF_le dt;simp only[ucF,wC,cC];split
  ·rw[cF_nm]; omega
  split
  ·rw[cF_nm]; omega
  split
  ·simp only[cF,cFs]; omega
  split
  ·simp only[cF_ls,cFs,cF_nm]; omega
  ·have e7:cFs (if k=7 then [nmF bIf] else [])≤1:=by split <;> simp[cFs,cF_nm]
   have e5:cFs (if k=5 then [nmF bLam,lsF (ids.map fun i=>nmF (p++Lib.itoa i))] else [])≤2+ids.length:=by
    split
    ·simp only[cFs,cF_ls,cFs_nm,cF_nm]; omega
    ·simp[cFs]
   rw[cF_ls,cFs_ap2,cFs_ap2]; omega
theorem ucs_cF (p:List UInt8):∀l:List Core,cFs (ucFs p l)≤wCs l+4*cCs l
 | []=>by simp[ucFs,cFs]
 | x::r=>by have:=uc_cF p x; have:=ucs_cF p r; simp only[ucFs,cFs,wCs,cCs]; omega
end
theorem fm_w:∀(d:Nat) (f:Form),fmB d f=true→wF f+1≤40*cF f
 | 0,f,h=>by cases h
 | d+1,f,h=>by
  have e1:=wF_eq f;have e2:=cF_eq f;have hk:∀l:List Form,(∀x∈l,fmB d x=true)→wFs l+l.length≤40*cFs l:=by
   intro l
   induction l with
   | nil=>intro _; simp[wFs]
   | cons x r ih=>
    intro hx;have h1:=fm_w d x (hx x (by simp));have h2:=ih fun y hy=>hx y (List.mem_cons_of_mem _ hy);simp only[wFs,cFs,List.length_cons]; omega
  unfold fmB at h;split at h
  ·simp only[Bool.and_eq_true,decide_eq_true_eq] at h;obtain⟨h1,_,h2,h3⟩:=h;have h1:=nameB_12 h1;unfold scB at h2;simp only[Bool.and_eq_true,decide_eq_true_eq] at h2;rw[List.eq_nil_of_length_eq_zero h3] at e1;simp only[wFs,List.length_nil] at e1;omega
  split at h
  ·simp only[Bool.and_eq_true,decide_eq_true_eq] at h;obtain⟨h1,_,h2,h3⟩:=h;rw[h1,List.eq_nil_of_length_eq_zero h2,List.eq_nil_of_length_eq_zero h3] at e1;simp only[wFs,List.length_nil] at e1;omega
  split at h
  ·simp only[Bool.and_eq_true,decide_eq_true_eq,List.all_eq_true] at h;obtain⟨h1,_,h2,h3⟩:=h;have:=hk f.kids h3;rw[h1,List.eq_nil_of_length_eq_zero h2] at e1;simp only[List.length_nil] at e1;omega
  ·cases h
theorem valid_wF {f:Form} (h:validF f=true):wF f≤16000:=by
 unfold validF at h;rw[Bool.and_eq_true,decide_eq_true_eq] at h;have:=fm_w 40 f h.1;omega
theorem cfU_eq (n:Nat) (l:List (List UInt8)):slices_ContainsFunc_string__im_UncoreForm_1 n l=some (l.any fun x=>decide (x∈lp0)):=by
 unfold slices_ContainsFunc_string__im_UncoreForm_1 slices_IndexFunc_string__im_UncoreForm_1;have e:∀x:List UInt8,im_UncoreForm_1 n x=some (decide (x∈lp0)):=fun x=>by
  unfold im_UncoreForm_1;rw[contS_eq]; rfl
 have main:∀(l:List (List UInt8)) (i:Nat),∃k:Int,seqS (Mx.forI (fun(_:Unit) (i:Nat) (y:List UInt8)=>((im_UncoreForm_1 n y).bind fun k=>(if k=true then some (Sum.inl (i:Int)) else some (Sum.inr ())):Option (Int⊕Unit))) i l ()) (fun _=>some (-1))=some k∧(k≥0↔(l.any fun x=>decide (x∈lp0))=true):=by
  intro l
  induction l with
  | nil=>intro i; exact⟨-1,rfl,by simp⟩
  | cons y r ih=>
   intro i;have ey:=e y;cases h:decide (y∈lp0) with
   | true=>rw[h] at ey; exact⟨(i:Int),by simp[Mx.forI,Mx.seqS,ey],by rw[List.any_cons,h,Bool.true_or]; exact⟨fun _=>rfl,fun _=>by omega⟩⟩
   | false=>
    rw[h] at ey;obtain⟨k,h1,h2⟩:=ih (i+1);refine⟨k,?_,by rw[h2]; simp[h]⟩;rw[← h1];simp[Mx.forI,ey]
 obtain⟨k,h1,h2⟩:=main l 0;rw[h1,Option.bind_some];congr 1;rw[Bool.eq_iff_iff,decide_eq_true_eq]; exact h2
theorem res_eq (n:Nat) (x:List UInt8) (hx:1≤x.length):sp_l13Reserved n x=some (decide (x∈lp0)):=by
 unfold sp_l13Reserved sp_l7Names;rw[Option.bind_some,sin_eq,Option.bind_some];congr 1;rw[Bool.eq_iff_iff,decide_eq_true_eq,decide_eq_true_eq];have hne:x≠[]:=fun e=>by rw[e] at hx; simp at hx
 show x∈[]::lp0↔_;simp[hne]
def unR (c:Core) (r:List UInt8×Bool):Form×Bool:=if r.2=true then(if((nmC c).foldl adN []).any (fun x=>decide (x∈lp0))=true then(zF,false) else if validF (ucF r.1 c)=true then(ucF r.1 c,true) else(zF,false)) else(zF,false)
theorem vp_valid {c:Core} {r:List UInt8×Bool} (hr:VpQ c r) (h2:r.2=true):validC c=true∧r.1.length≤1:=by
 unfold VpQ at hr;split at hr
 ·rename_i hv;refine⟨hv,?_⟩;rcases hr with ⟨i,hi,rfl,_⟩ | ⟨rfl,_⟩
  ·rw[rn_ltr i hi]; simp
  ·cases h2
 ·subst hr; cases h2
theorem sun_ev (c:Core) (hw:wC c≤700000000) {r:List UInt8×Bool} (hr:VpQ c r):Evt (fun n=>sp_UncoreForm n c) (unR c r):=by
 have hcl:=cC_le c;unfold sp_UncoreForm unR;refine Ex.evt (.bind (svp_ex c hw) fun r' hr'=>?_);obtain rfl:=hr.uniq hr';cases h2:r.2 with
 | false=>exact .pos rfl (.pure (by simp[zF]))
 | true=>
  obtain⟨hv,hp⟩:=vp_valid hr h2;have hcr:crB 120 [] c=true:=by unfold validC at hv; rw[Bool.and_eq_true] at hv; exact hv.1
  have hvn:=valid_names hv;refine .neg (by simp) ?_;have hfr:Evt (fun n=>sp_FreeOf n c) ((nmC c).foldl adN []):=by
   unfold sp_FreeOf;exact Ex.evt (.bv (sfree_evt c [] (by simp; omega)) (.pure rfl))
  refine .bv hfr ?_;rw[if_pos rfl];generalize hL:(nmC c).foldl adN []=L at hvn ⊢;refine Ex.seqS (P:=fun o=>match o with
   | .inl w=>w=(zF,false)∧L.any (fun x=>decide (x∈lp0))=true
   | .inr _=>L.any (fun x=>decide (x∈lp0))=false) ?_ ?_ ?_
  ·refine Ex.forI (I:=fun i q s=>(L.any (fun x=>decide (x∈lp0))=q.any (fun x=>decide (x∈lp0)))∧∀y∈q,y∈L) ⟨rfl,fun _ h=>h⟩ ?_ ?_
   ·rintro i y q s ⟨h1,h3⟩;refine .bv (ev0 fun n=>res_eq n y (hvn y (h3 y List.mem_cons_self)).1) ?_;simp only[List.any_cons] at h1;cases hy:decide (y∈lp0) with
    | true=>exact .pos rfl (.fo ⟨rfl,by rw[h1,hy]; rfl⟩)
    | false=>exact .neg (by simp) (.fg ⟨by rw[h1,hy]; rfl,fun z hz=>h3 z (List.mem_cons_of_mem _ hz)⟩)
   ·rintro s ⟨h1,_⟩
    simpa using h1
  ·rintro w ⟨rfl,h1⟩; rw[if_pos h1]
  ·rintro ⟨⟩ h1;have h1:L.any (fun x=>decide (x∈lp0))=false:=h1;rw[if_neg (by simp[h1])];have hcu:=uc_cF r.1 c;refine .bv (suc_evt r.1 hp 120 [] c (by omega) hcr) (.bv (sfv_evt _ (uc_ok r.1 hp 120 [] c (by omega) hcr) (by omega)) ?_);cases hvf:validF (ucF r.1 c) with
   | false=>exact .pos rfl (.pure rfl)
   | true=>exact .neg (by simp) (.pure rfl)
theorem heldIntS_evt (k:Int) (m:Nat) (hk:0≤k) (hb:k+m<4611686018427387904):Evt (fun n=>la_heldIntS n ((List.range m).map fun j:Nat=>k+(j:Int)) k) (k+m):=by
 simp only[la_heldIntS];refine Evt.seqR (t:=k+m) ?_ (.pure _);have:=Evt.forI (step:=fun(_:Nat) (s2:Int) (_:Nat) (x4:Int)=>(if ¬x4=s2 then some (Sum.inl (-1)) else some (Sum.inr (w64 (s2+1))):Option (Int⊕Int)))
  (fun i q s=>s=k+i∧i+q.length=m∧q=((List.range m).map fun j:Nat=>k+(j:Int)).drop i) (fun _=>False) (fun i x q s ⟨h1,h2,h3⟩=>.inr ⟨k+(i+1:Nat),?_,?_,?_,?_⟩) ((List.range m).map fun j:Nat=>k+(j:Int)) 0 k ⟨by simp,by simp,by simp⟩
 ·rcases this with ⟨w,_,h⟩ | ⟨s,h1,h2,h3,_⟩
  ·exact h.elim
  ·simp at h2 h3; rw[h2] at h1; exact h1
 ·simp at h2;have hx:((List.range m).map fun j:Nat=>k+(j:Int))[i]? = some x:=by
   have:(x::q)[0]? = some x:=rfl;rw[h3,List.getElem?_drop] at this; simpa using this
  rw[List.getElem?_map,List.getElem?_range (by omega)] at hx;simp at hx;refine .neg (by rw[h1,← hx]; simp) (.const ?_);rw[h1,w_id (by omega) (by omega)];congr 2; omega
 ·rfl
 ·simp at h2 ⊢; omega
 ·have:=congrArg List.tail h3
  simpa [List.tail_drop] using this
theorem szIntS_evt (sc:List Int) (hs:sc.length≤mxL) (b:Int) (h0:0≤b) (h1:b≤1048576):Evt (fun n=>la_szIntS n sc b) (szR sc.length b):=by
 simp only[la_szIntS,sub_w h0 h1 hs];exact Evt.szA (w2:=0) fun h=>.szZ (by omega)
theorem szForm_evt (f:Form) (hf:okF f) (b:Int) (h0:0≤b) (h1:b≤1048576):Evt (fun n=>la_szForm n f b) (szR (wF f) b):=by
 obtain⟨o1,o2,o3,o4⟩:=(okF_eq f).1 hf;refine .succ ?_;simp only[la_szForm,sub_w h0 h1 o1];rw[wF_eq,show f.name.length+f.scopes.length+f.kids.length+wFs f.kids=f.name.length+(f.scopes.length+((f.kids.length+wFs f.kids)+0)) by omega];refine .szA fun q1=>.szB (szIntS_evt _ o2 _ (by omega) (by omega)) fun q2=>.szB ?_ fun q3=>.szZ (by omega);refine .succ ?_;simp only[la_szFormS];rw[sub_w (by omega) (by omega) o3];refine .szA fun q4=>?_;exact szS_evt (m:=fun n x b=>la_szForm n x b) rfl (fun _ _=>by rw[wFs]) (fun x hx b h0 h1=>szForm_evt x (okFs_iff.1 o4 x hx) b h0 h1) _ (by omega) (by omega)
termination_by SizeOf.sizeOf f
decreasing_by exact szF_lt hx
theorem szCore_evt (f:Core) (hf:okC f) (b:Int) (h0:0≤b) (h1:b≤1048576):Evt (fun n=>la_szCore n f b) (szR (wC f) b):=by
 obtain⟨o1,o2,od,o3,o4⟩:=(okC_eq f).1 hf;refine .succ ?_;simp only[la_szCore,sub_w h0 h1 o1];rw[wC_eq,show f.name.length+f.ids.length+wF f.data+f.kids.length+wCs f.kids=f.name.length+(f.ids.length+(wF f.data+((f.kids.length+wCs f.kids)+0))) by omega];refine .szA fun q1=>.szB (szIntS_evt _ o2 _ (by omega) (by omega)) fun q2=>.szB (szForm_evt _ od _ (by omega) (by omega)) fun q5=>.szB ?_ fun q3=>.szZ (by omega);refine .succ ?_;simp only[la_szCoreS];rw[sub_w (by omega) (by omega) o3];refine .szA fun q4=>?_;exact szS_evt (m:=fun n x b=>la_szCore n x b) rfl (fun _ _=>by rw[wCs]) (fun x hx b h0 h1=>szCore_evt x (okCs_iff.1 o4 x hx) b h0 h1) _ (by omega) (by omega)
termination_by SizeOf.sizeOf f
decreasing_by exact szC_lt hx
theorem eqIntS_evt (l:List Int):Evt (fun n=>la_eqIntS n l l) true:=by
 simp only[la_eqIntS,not_true_eq_false,if_false];have:=eqS_evt (e:=fun _ (x y:Int)=>some (decide (x=y))) (xs:=l) (fun x _=>by simpa using Evt.pure true)
 simpa only[Option.bind_some,Bool.not_eq_true',decide_eq_false_iff_not] using this
theorem eqForm_evt (f:Form):Evt (fun n=>la_eqForm n f f) true:=by
 refine .succ ?_;simp only[la_eqForm,not_true_eq_false,if_false];refine .bind (eqIntS_evt _) (.neg (by simp) (.bind (a:=true) ?_ (.neg (by simp) (.pure _))));refine .succ ?_;simp only[la_eqFormS,not_true_eq_false,if_false];exact eqS_evt (e:=fun n x y=>la_eqForm n x y) (fun x hx=>eqForm_evt x)
termination_by SizeOf.sizeOf f
decreasing_by exact szF_lt hx
theorem eqCore_evt (f:Core):Evt (fun n=>la_eqCore n f f) true:=by
 refine .succ ?_;simp only[la_eqCore,not_true_eq_false,if_false];refine .bind (eqIntS_evt _) (.neg (by simp) (.bind (eqForm_evt _) (.neg (by simp) (.bind (a:=true) ?_ (.neg (by simp) (.pure _))))));refine .succ ?_;simp only[la_eqCoreS,not_true_eq_false,if_false];exact eqS_evt (e:=fun n x y=>la_eqCore n x y) (fun x hx=>eqCore_evt x)
termination_by SizeOf.sizeOf f
decreasing_by exact szC_lt hx
mutual
def ofF:Form→Mx.Form
 | ⟨k,nm,n,sc,kids⟩=>⟨k,Mx.mkS nm,n,sc,ofFs kids⟩
def ofFs:List Form→List Mx.Form
 | []=>[]
 | f::r=>ofF f::ofFs r
end
theorem toS_mkS (l:List UInt8):toS (Mx.mkS l)=l:=by simp[toS,Mx.mkS]
mutual
theorem toF_ofF:∀f:Form,toF (ofF f)=f
 | ⟨k,nm,n,sc,kids⟩=>by simp only[ofF,toF,toS_mkS,toFs_ofFs kids]
theorem toFs_ofFs:∀l:List Form,toFs (ofFs l)=l
 | []=>rfl
 | f::r=>by simp only[ofFs,toFs,toF_ofF f,toFs_ofFs r]
end
def eT (k:Nat):ByteArray:=Raw.mT k
theorem mk_dig:∀d:Nat,d<10→UInt8.ofNat (48+d)=48+UInt8.ofNat d:=by decide +kernel
theorem mkS_cons (y:UInt8) (t:List UInt8):Mx.mkS ([y]++t)=(⟨#[y]⟩:ByteArray)++Mx.mkS t:=by
 apply ByteArray.ext;simp[Mx.mkS]
theorem mTr_evt (k:Nat) (hk:k<4611686018427387904):Evt (fun n=>la_markText n (k:Int)) (toS (eT k)):=by
 unfold la_markText eT Raw.mT;refine Ex.evt (.ite (fun h=>.pure ?_) (fun h=>?_))
 ·rw[if_pos (by omega)]; rfl
 ·rw[if_neg (by omega)];refine .iter (fun(s:Int×List UInt8)=>s.1.toNat) (fun(s:Int×List UInt8)=>∃i:Nat,s.1=(i:Int)∧s.2.length+i≤k∧Raw.mtx i (Mx.mkS s.2)=Raw.mtx k ⟨#[]⟩) ((k:Int),[]) ⟨k,rfl,by simp,rfl⟩ ?_;rintro ⟨x,t⟩ ⟨i,hi,h2,h3⟩;simp only at hi h2 h3 ⊢;subst hi;refine .ite (fun h=>?_) (fun h=>?_)
  ·have hq:quoI (i:Int) 10=some ((i / 10:Nat):Int):=by
    rw[quo_some (by decide)];have e:(i:Int).tdiv 10=((i / 10:Nat):Int):=rfl;rw[e,w_id (by omega) (by omega)]
   refine .bp _ (remI_n i) (.bp _ (u8d (i % 10) (by omega)) (.bp _ (catS_ok (by simp; omega)) (.bp _ hq (.pure ⟨fun _ e=>(by cases e),fun s' e=>?_⟩))));cases e;refine⟨⟨i / 10,rfl,by simp only[List.length_append,List.length_singleton]; omega,?_⟩,by simp only[Int.toNat_natCast]; omega⟩;rw[← h3,mkS_cons,mk_dig _ (by omega)]
   conv=>rhs; rw[Raw.mtx]
   rw[dif_neg (by omega)]
  ·refine .bp _ (catS_ok (by simp; omega)) (.pure ⟨fun w e=>?_,fun _ e=>(by cases e)⟩);cases e;have h0:i=0:=by omega
   subst h0;rw[Raw.mtx,dif_pos rfl] at h3;rw[← h3];simp[toS,Mx.mkS]
theorem held_marks (k m:Nat) (hb:k+m<4611686018427387904):Evt (fun n=>la_heldIntS n (Raw.marks (k:Int) m) (k:Int)) ((k+m:Nat):Int):=by
 have h:=heldIntS_evt (k:Int) m (by omega) (by omega);rw[show((k+m:Nat):Int)=(k:Int)+m by omega];exact h
theorem heldFs_evt:∀(N:Nat) (fs:List Mx.Form) (k:Nat),Raw.cntFs fs<N→k+Raw.cntFs fs<4611686018427387904→Evt (fun n=>la_heldFormS n (toFs (Raw.mkFs eT k fs)) (k:Int)) ((k+Raw.cntFs fs:Nat):Int)
 | 0,_,_,h,_=>by omega
 | N+1,fs,k,hN,hk=>by
  refine .succ ?_;simp only[la_heldFormS];refine Ex.evt ?_;refine Ex.seqS (P:=fun o=>match o with
   | .inl w=>False
   | .inr s=>s=((k+Raw.cntFs fs:Nat):Int)) ?_ (fun w hw=>hw.elim) (fun s hs=>.pure hs)
  refine Ex.forI (I:=fun i q s=>∃(m:Nat) (r:List Mx.Form),s=(m:Int)∧q=toFs (Raw.mkFs eT m r)∧m+Raw.cntFs r=k+Raw.cntFs fs∧Raw.cntFs r≤Raw.cntFs fs) ⟨k,fs,rfl,rfl,rfl,Nat.le_refl _⟩ ?_ ?_
  ·rintro i x q s ⟨m,r,rfl,h2,h3,h4⟩;cases r with
   | nil=>simp[Raw.mkFs,toFs] at h2
   | cons f r=>
    obtain⟨kd,nm,nn,sc,kids⟩:=f;simp only[Raw.mkFs,Raw.mkF,toFs,toF,List.cons.injEq,Raw.cntFs,Raw.cntF] at h2 h3 h4;obtain⟨rfl,rfl⟩:=h2;have e1:w64 ((m:Int)+1)=((m+1:Nat):Int):=by rw[w_id (by omega) (by omega)]; omega
    have e2:w64 (((m+1:Nat):Int)+1)=((m+1+1:Nat):Int):=by rw[w_id (by omega) (by omega)]; omega
    have e3:w64 (((m+1+1:Nat):Int)+1)=((m+1+1+1:Nat):Int):=by rw[w_id (by omega) (by omega)]; omega
    simp only[e1,e2,e3];refine .neg (by simp) (.bv (mTr_evt (m+1) (by omega)) (.neg (by simp) (.neg (by simp) (.bv (held_marks (m+1+1+1) sc.length (by omega)) (.neg (by omega) ?_)))));have e4:m+3+sc.length=m+1+1+1+sc.length:=by omega
    rw[e4];refine .bv (heldFs_evt N kids (m+1+1+1+sc.length) (by omega) (by omega)) (.neg (by omega) (.fg ⟨m+3+(sc.length+Raw.cntFs kids),r,by omega,rfl,by omega,by omega⟩))
  ·rintro s ⟨m,r,rfl,h2,h3,h4⟩;cases r with
   | nil=>simp only[Raw.cntFs] at h3; show(m:Int)=_; omega
   | cons f r=>simp[Raw.mkFs,toFs] at h2
theorem heldF_evt (f:Mx.Form) (k:Nat) (hk:k+Raw.cntF f<4611686018427387904):Evt (fun n=>la_heldForm n (toF (Raw.mkT eT k f)) (k:Int)) ((k+Raw.cntF f:Nat):Int):=by
 obtain⟨kd,nm,nn,sc,kids⟩:=f;simp only[Raw.cntF] at hk ⊢;unfold la_heldForm;simp only[Raw.mkT,toF];refine Ex.evt (.bv (held_marks k sc.length (by omega)) (.neg (by omega) (.bv (heldFs_evt _ kids (k+sc.length) (Nat.lt_succ_self _) (by omega)) (.neg (by omega) (.pure (by omega))))))
end Go.Ev
