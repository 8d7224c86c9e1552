/- Plain laws of models. No condition. -/
import Derived.Test.YtacfeklhbbdghaaGreatMdUnusedKept
import Derived.Test.YtacfeklhbbdghaaGreatEvTri
namespace Go.Ev
open Go.Mx (KD ED aB dS cO bK iterM)
set_option linter.unusedVariables false
set_option linter.unusedSimpArgs false
theorem fU.scan {ω:Type} {step:Nat→Int→Option (ω⊕Int)} {p:Nat→Bool} {L:Nat} {no yes:ω} (h1:∀i,i<L→p i=true→fU (fun n=>step n (i:Int)) (.inr ((i+1:Nat):Int))) (h2:∀i,i<L→p i=false→fU (fun n=>step n (i:Int)) (.inl no)) (h3:fU (fun n=>step n (L:Int)) (.inl yes)) :
  fU (fun n=>iterM n (step n) 0) (if(List.range L).all p=true then yes else no):=by
 obtain⟨w,k1,k2⟩:=Uw (step:=step) (fun s=>L-s.toNat) (fun s=>∃i:Nat,i≤L∧s=i∧∀j,j<i→p j=true) (fun w=>w=if(List.range L).all p=true then yes else no) (fun s ⟨i,i1,i2,i3⟩=>by
  subst i2;rcases Nat.lt_or_ge i L with h | h
  ·cases hp:p i with
   | true=>exact .inr ⟨_,h1 i h hp,⟨i+1,by omega,rfl,fun j hj=>by rcases Nat.lt_or_eq_of_le (Nat.le_of_lt_succ hj) with q | q; exact i3 j q; rw[q]; exact hp⟩,by simp; omega⟩
   | false=>
    refine .inl ⟨_,h2 i h hp,?_⟩;rw[if_neg];intro hall;rw[List.all_eq_true] at hall;rw[hall i (List.mem_range.2 h)] at hp; cases hp
  ·have:i=L:=by omega
   subst this;refine .inl ⟨_,h3,?_⟩;rw[if_pos];rw[List.all_eq_true];exact fun j hj=>i3 j (List.mem_range.1 hj)) 0 ⟨0,Nat.zero_le _,rfl,fun j hj=>by omega⟩
 exact k2▸k1
theorem abL {α ω:Type} {step:Unit→Nat→α→Option (ω⊕Unit)} {p:α→Bool} {no:ω} {f:Unit→Option ω}:∀{xs:List α} {i:Nat},(∀i x,x∈xs→step () i x=if p x=true then some (.inr ()) else some (.inl no))→bK (Mx.cO step i xs ()) f=if xs.all p=true then f () else some no
 | [],i,_=>by simp[Mx.cO,Mx.bK]
 | x::r,i,h=>by
  have hx:=h i x (List.mem_cons_self);have ih:=abL (step:=step) (p:=p) (no:=no) (f:=f) (xs:=r) (i:=i+1) (fun i y hy=>h i y (List.mem_cons_of_mem _ hy));simp only[Mx.cO,hx,List.all_cons,Bool.and_eq_true];cases hp:p x with
  | true=>simpa [hp] using ih
  | false=>simp[Mx.bK]
theorem ig {i:Nat} (h:i<9223372036854775807):aY ((i:Int)+1)=((i+1:Nat):Int):=by rw[jS (by omega) (by omega)]; omega
theorem YL {α ω:Type} {step:Unit→Nat→α→Option (ω⊕Unit)} {p:Nat→Bool} {no:ω} {f:Unit→Option ω}:∀{xs:List α} {i:Nat},(∀j x,xs[j]? = some x→step () (i+j) x=if p (i+j)=true then some (.inr ()) else some (.inl no))→bK (Mx.cO step i xs ()) f=if(List.range xs.length).all (fun j=>p (i+j))=true then f () else some no
 | [],i,_=>by simp[Mx.cO,Mx.bK]
 | x::r,i,h=>by
  have hx:=h 0 x rfl;have ih:=YL (step:=step) (p:=p) (no:=no) (f:=f) (xs:=r) (i:=i+1) (fun j y hy=>by have:=h (j+1) y (by simpa using hy); rwa [show i+(j+1)=i+1+j by omega] at this);simp only[Nat.add_zero] at hx;simp only[Mx.cO,hx,List.length_cons,List.range_succ_eq_map,List.all_cons,List.all_map,Bool.and_eq_true,Nat.add_zero];have e:((fun j=>p (i+j))∘Nat.succ)=fun j=>p (i+1+j):=by funext j; simp only[Function.comp]; congr 1; omega
  rw[e];cases hp:p i with
  | true=>simpa [hp] using ih
  | false=>simp[Mx.bK]
def P9 (c:UInt8):Bool:=(decide (97≤c.toNat)&&decide (c.toNat≤122))||c==42||c==63||c==61||c==43||c==60
def YM (c:UInt8):Bool:=(decide (48≤c.toNat)&&decide (c.toNat≤57))||c==45
def Jg (s:List UInt8) (i:Nat):Bool:=match s[i]? with
 | some c=>P9 c||(!(i==0)&&YM c)
 | none=>false
def nameB (s:List UInt8):Bool:=(decide (s=[46,46,46])||decide (s=[95]))||((List.range s.length).all (Jg s)&&(decide (1≤s.length)&&decide (s.length≤12)))
theorem F6 {c d:UInt8}:c=d↔c.toNat=d.toNat:=⟨fun h=>by rw[h],fun h=>UInt8.toNat_inj.1 h⟩
theorem Nu (y:UInt8):((if(y.toNat:Int)≥48 then(if(y.toNat:Int)≤57 then some true else some (decide ((y.toNat:Int)=45))) else some (decide ((y.toNat:Int)=45))):Option Bool)=some (YM y):=by
 have e:decide ((y.toNat:Int)=45)=(y==45):=by
  by_cases h:y=45
  ·subst h; rfl
  ·have:¬(y.toNat:Int)=45:=fun h'=>h (F6.2 (by show y.toNat=45; omega));simp[h,this]
 rw[e];unfold YM;by_cases h1:(y.toNat:Int)≥48
 ·rw[if_pos h1];by_cases h2:(y.toNat:Int)≤57
  ·rw[if_pos h2]; simp[show 48≤y.toNat by omega,show y.toNat≤57 by omega]
  ·rw[if_neg h2]; simp[show ¬y.toNat≤57 by omega]
 ·rw[if_neg h1]; simp[show ¬48≤y.toNat by omega]
theorem Lh (n:Nat) (a b c:Int):iZ n a b c=some (decide (b≤a)&&decide (a≤c)):=by
 unfold iZ;by_cases h:a≥b
 ·rw[if_pos h]; simp[show b≤a from h]
 ·rw[if_neg h]; simp[show ¬b≤a from h]
theorem YN:∀(l:List UInt8) (c:UInt8),0≤Lib.indexByte l c↔c∈l
 | [],c=>by simp[Lib.indexByte]
 | b::l,c=>by
  have ih:=YN l c;have hg:=Lib.indexByte_ge l c;unfold Lib.indexByte;by_cases hb:b=c
  ·subst hb; simp
  ·have hb':(b==c)=false:=by simpa using hb
   rw[hb',List.mem_cons,← ih];have hbc:¬c=b:=fun h=>hb h.symm;simp only[Bool.false_eq_true,if_false,hbc,false_or];by_cases h1:Lib.indexByte l c=-1
   ·simp[h1]
   ·simp only[beq_iff_eq,h1,if_false]; omega
theorem ac4 (l:List UInt8) (c:UInt8):decide (Lib.indexByte l c≥0)=l.contains c:=by
 rw[Bool.eq_iff_iff]; simp only[decide_eq_true_eq,List.contains_iff_mem]; exact YN l c
theorem ac5 (y:UInt8):((if(y.toNat:Int)≥97 then(if(y.toNat:Int)≤122 then some true else some (decide (Lib.indexByte [42,63,61,43,60] y≥0))) else some (decide (Lib.indexByte [42,63,61,43,60] y≥0))):Option Bool)=some (P9 y):=by
 have e:decide (Lib.indexByte [42,63,61,43,60] y≥0)=(y==42||y==63||y==61||y==43||y==60):=by
  rw[ac4]; simp only[List.contains_cons,List.contains_nil,Bool.or_false,Bool.or_assoc]
 rw[e];unfold P9;by_cases h1:(y.toNat:Int)≥97
 ·rw[if_pos h1];by_cases h2:(y.toNat:Int)≤122
  ·rw[if_pos h2];simp[show 97≤y.toNat by omega,show y.toNat≤122 by omega]
  ·rw[if_neg h2];simp[show ¬y.toNat≤122 by omega]
 ·rw[if_neg h1];simp[show ¬97≤y.toNat by omega]
theorem aaW (y:UInt8):((y.toNat:Int).toNat).toUInt8=y:=by
 rw[Int.toNat_natCast]; exact UInt8.ofNat_toNat
theorem UL (s:List UInt8) (hs:s.length≤JB):fU (fun n=>lV n s) (nameB s):=by
 unfold JB at hs;unfold lV;simp only[strings_IndexByte,aaW,Option.bind_some,ac5,Nu];by_cases h0:s=[46,46,46]
 ·simp only[h0,if_true,Option.bind_some]; exact .pure _
 rw[if_neg h0];simp only[Option.bind_some];by_cases h1:s=[95]
 ·simp only[h1,decide_true,if_true]; exact .pure _
 simp only[h1,decide_false,Bool.false_eq_true,if_false];have e:nameB s=if(List.range s.length).all (Jg s)=true then(decide (1≤s.length)&&decide (s.length≤12)) else false:=by
  unfold nameB; simp only[h0,h1,decide_false,Bool.false_or,Bool.or_self];cases (List.range s.length).all (Jg s) <;> simp
 rw[e];refine fU.scan (L:=s.length) (p:=Jg s) (fun i hi hp=>?_) (fun i hi hp=>?_) ?_
 ·refine .pos (by omega) ?_;have hy:=List.getElem?_eq_getElem hi;unfold Jg at hp;rw[hy] at hp;simp only at hp;refine fU.const ?_;rw[dX hy];simp only[Option.bind_some];cases hc:P9 s[i] with
  | true=>simp only[if_true,Mx.bK,Option.bind_some,ig (i:=i) (by omega)]
  | false=>
   rw[hc,Bool.false_or,Bool.and_eq_true] at hp;have hi0:(i:Int)>0:=by
    have:i≠0:=by simpa using hp.1
    omega
   simp only[Bool.false_eq_true,if_false,if_pos hi0,Nu,hp.2,Option.bind_some,if_true,Mx.bK,ig (i:=i) (by omega)]
 ·refine .pos (by omega) ?_;have hy:=List.getElem?_eq_getElem hi;unfold Jg at hp;rw[hy] at hp;simp only[Bool.or_eq_false_iff] at hp;refine fU.const ?_;rw[dX hy];simp only[Option.bind_some,hp.1,Bool.false_eq_true,if_false];by_cases hi0:(i:Int)>0
  ·have:(i==0)=false:=by simp; omega
   have hd:YM s[i]=false:=by simpa [this] using hp.2
   simp only[if_pos hi0,Nu,hd,Option.bind_some,Bool.false_eq_true,if_false,Mx.bK]
  ·simp only[if_neg hi0,Option.bind_some,Bool.false_eq_true,if_false,Mx.bK]
 ·refine .neg (by omega) ?_;simp only[Lh,Option.bind_some];refine .const ?_;have a1:decide ((1:Int)≤(s.length:Int))=decide (1≤s.length):=by simp only[decide_eq_decide]; omega
  have a2:decide ((s.length:Int)≤12)=decide (s.length≤12):=by simp only[decide_eq_decide]; omega
  rw[a1,a2]
theorem aeZ (n:Nat) (y:UInt8) (f:Bool):rZ n (y.toNat:Int) f=some (P9 y||(!f&&YM y)):=by
 unfold rZ;simp only[Nu];have q:∀k:Nat,decide ((y.toNat:Int)=(k:Int))=decide (y.toNat=k):=fun k=>by simp only[decide_eq_decide]; omega
 have e:((if(y.toNat:Int)=42 then some true else(if(y.toNat:Int)=63 then some true else(if(y.toNat:Int)=61 then some true else(if(y.toNat:Int)=43 then some true else some (decide ((y.toNat:Int)=60)))))):Option Bool)=some (y==42||y==63||y==61||y==43||y==60):=by
  have w:∀(k:Nat) (d:UInt8),d.toNat=k→((y.toNat:Int)=(k:Int)↔y=d):=fun k d hd=>by rw[F6,hd]; omega
  have w1:(y.toNat:Int)=42↔y=42:=w 42 42 rfl;have w2:(y.toNat:Int)=63↔y=63:=w 63 63 rfl;have w3:(y.toNat:Int)=61↔y=61:=w 61 61 rfl;have w4:(y.toNat:Int)=43↔y=43:=w 43 43 rfl;have w5:(y.toNat:Int)=60↔y=60:=w 60 60 rfl;by_cases h1:y=42
  ·rw[if_pos (w1.2 h1),h1]; rfl
  rw[if_neg (fun h=>h1 (w1.1 h))];by_cases h2:y=63
  ·rw[if_pos (w2.2 h2),h2]; rfl
  rw[if_neg (fun h=>h2 (w2.1 h))];by_cases h3:y=61
  ·rw[if_pos (w3.2 h3),h3]; rfl
  rw[if_neg (fun h=>h3 (w3.1 h))];by_cases h4:y=43
  ·rw[if_pos (w4.2 h4),h4]; rfl
  rw[if_neg (fun h=>h4 (w4.1 h))];have:decide ((y.toNat:Int)=60)=(y==60):=by rw[Bool.eq_iff_iff]; simp only[decide_eq_true_eq,beq_iff_eq]; exact w5
  rw[this];simp[h1,h2,h3,h4]
 rw[e];have e2:((if(y.toNat:Int)≥97 then(if(y.toNat:Int)≤122 then some true else some (y==42||y==63||y==61||y==43||y==60)) else some (y==42||y==63||y==61||y==43||y==60)):Option Bool)=some (P9 y):=by
  unfold P9;by_cases h1:(y.toNat:Int)≥97
  ·rw[if_pos h1];by_cases h2:(y.toNat:Int)≤122
   ·rw[if_pos h2]; simp[show 97≤y.toNat by omega,show y.toNat≤122 by omega]
   ·rw[if_neg h2]; simp[show ¬y.toNat≤122 by omega]
  ·rw[if_neg h1]; simp[show ¬97≤y.toNat by omega]
 rw[e2];cases P9 y <;> cases f <;> simp
theorem GY (s:List UInt8) (hs:s.length≤JB):fU (fun n=>ji n s) (nameB s):=by
 unfold JB at hs;unfold ji;simp only[aeZ,Option.bind_some];by_cases h0:s=[46,46,46]
 ·simp only[h0,if_true,Option.bind_some]; exact .pure _
 rw[if_neg h0];simp only[Option.bind_some];by_cases h1:s=[95]
 ·simp only[h1,decide_true,if_true]; exact .pure _
 simp only[h1,decide_false,Bool.false_eq_true,if_false];have hb:nameB s=if(List.range (min s.length 13)).all (Jg s)=true then(decide (1≤s.length)&&decide (s.length≤12)) else false:=by
  unfold nameB; simp only[h0,h1,decide_false,Bool.false_or,Bool.or_self];by_cases hl:s.length≤12
  ·rw[Nat.min_eq_left (by omega)];cases (List.range s.length).all (Jg s) <;> simp
  ·simp[hl]
 rw[hb];refine fU.scan (L:=min s.length 13) (p:=Jg s) (fun i hi hp=>?_) (fun i hi hp=>?_) ?_
 ·have hi':i<s.length:=by omega
  have hy:=List.getElem?_eq_getElem hi';unfold Jg at hp;rw[hy] at hp;simp only at hp;refine fU.const ?_;have c1:(i:Int)<(s.length:Int):=by omega
  have c2:decide ((i:Int)≤12)=true:=by simp; omega
  have c3:decide ((i:Int)=0)=(i==0):=by rw[Bool.eq_iff_iff]; simp
  rw[if_pos c1,c2,c3];simp only[Option.bind_some,if_true,dX hy,hp,Bool.not_true,Bool.false_eq_true,if_false,ig (i:=i) (by omega)]
 ·have hi':i<s.length:=by omega
  have hy:=List.getElem?_eq_getElem hi';unfold Jg at hp;rw[hy] at hp;simp only at hp;refine fU.const ?_;have c1:(i:Int)<(s.length:Int):=by omega
  have c2:decide ((i:Int)≤12)=true:=by simp; omega
  have c3:decide ((i:Int)=0)=(i==0):=by rw[Bool.eq_iff_iff]; simp
  rw[if_pos c1,c2,c3];simp only[Option.bind_some,if_true,dX hy,hp,Bool.not_false]
 ·refine fU.const ?_;have e:((if((min s.length 13:Nat):Int)<(s.length:Int) then some (decide (((min s.length 13:Nat):Int)≤12)) else some false):Option Bool)=some false:=by
   by_cases h:((min s.length 13:Nat):Int)<(s.length:Int)
   ·rw[if_pos h]; congr 1; simp; omega
   ·rw[if_neg h]
  rw[e];have a1:decide ((s.length:Int)≤12)=decide (s.length≤12):=by simp only[decide_eq_decide]; omega
  by_cases h:(s.length:Int)≥1
  ·simp only[Option.bind_some,Bool.false_eq_true,if_false,if_pos h,a1,show decide (1≤s.length)=true from decide_eq_true (by omega),Bool.true_and]
  ·simp only[Option.bind_some,Bool.false_eq_true,if_false,if_neg h,show decide (1≤s.length)=false from decide_eq_false (by omega),Bool.false_and]
def ZJ (l:List Int) (i:Nat):Bool:=match l[i]? with
 | some x=>(decide (1≤x)&&decide (x≤99))&&(i==0||(match l[i-1]? with
  | some y=>decide (y<x)
  | none=>false))
 | none=>false
def WH (l:List Int):Bool:=(List.range l.length).all (ZJ l)&&decide (l.length≤24)
def J8:Nat→Form→Bool
 | 0,_=>false
 | d+1,f=>if f.kind=1 then nameB f.name&&(decide (f.n=0)&&(WH f.scopes&&decide (f.kids.length=0))) else
   if f.kind=2 then decide (f.name=[])&&((decide (0≤f.n)&&decide (f.n≤999))&&(decide (f.scopes.length=0)&&decide (f.kids.length=0))) else
   if f.kind=3 then decide (f.name=[])&&(decide (f.n=0)&&(decide (f.scopes.length=0)&&f.kids.all (J8 d))) else false
mutual
def cF:Form→Nat
 | ⟨_,_,_,_,kids⟩=>1+jV kids
def jV:List Form→Nat
 | []=>0
 | x::r=>cF x+jV r
end
theorem sG (f:Form):cF f=1+jV f.kids:=by cases f; simp only[cF]
mutual
theorem UM:∀f:Form,cF f≤wF f+1
 | ⟨k,nm,n,sc,kids⟩=>by have:=YO kids; simp only[cF,wF]; omega
theorem YO:∀l:List Form,jV l≤qg l+l.length
 | []=>by simp[jV]
 | x::r=>by have:=UM x; have:=YO r; simp only[jV,qg,List.length_cons]; omega
end
theorem rJ:∀{l:List Form} {x:Form},x∈l→cF x≤jV l
 | y::r,x,h=>by
  simp only[jV];rcases List.mem_cons.1 h with rfl | h
  ·omega
  ·have:=rJ h; omega
def gU (f:Form):Bool:=J8 40 f&&decide (cF f≤400)
mutual
theorem Jh:∀f:Form,wF f≤1073741824→okF f
 | ⟨k,nm,n,sc,kids⟩,h=>by simp only[wF] at h; simp only[okF,JB]; exact⟨by omega,by omega,by omega,YP kids (by omega)⟩
theorem YP:∀l:List Form,qg l≤1073741824→O4 l
 | [],_=>trivial
 | x::r,h=>by simp only[qg] at h; simp only[O4]; exact⟨Jh x (by omega),YP r (by omega)⟩
end
theorem ac6 (n:Nat) (l:List Int) (hl:l.length≤JB):rX n l=some (WH l):=by
 unfold JB at hl;unfold rX;rw[YL (p:=ZJ l) (no:=false)]
 ·simp only[Nat.zero_add];unfold WH;have a2:decide ((l.length:Int)≤24)=decide (l.length≤24):=by simp only[decide_eq_decide]; omega
  show(if(List.range l.length).all (ZJ l)=true then _ else _)=_;rw[a2];cases (List.range l.length).all (ZJ l) <;> simp
 ·intro j x hx;simp only[Nat.zero_add];have hj:j<l.length:=(List.getElem?_eq_some_iff.1 hx).1;simp only[Lh,Option.bind_some,ZJ,hx];by_cases h1:(decide (1≤x)&&decide (x≤99))=true
  ·simp only[h1,Bool.not_true,Bool.false_eq_true,if_false,Bool.true_and];by_cases h0:(j:Int)>0
   ·have e:aY ((j:Int)-1)=((j-1:Nat):Int):=by rw[jS (by omega) (by omega)]; omega
    have hy:=List.getElem?_eq_getElem (l:=l) (i:=j-1) (by omega);have hj0:(j==0)=false:=by simp; omega
    rw[if_pos h0,e,dX hy,hj0];simp only[Option.bind_some,hy,Bool.false_or];by_cases hlt:l[j-1]<x
    ·simp[hlt]
    ·simp[hlt,show l[j-1]≥x by omega]
   ·have hj0:j=0:=by omega
    subst hj0;simp
  ·have h1':(decide (1≤x)&&decide (x≤99))=false:=by simpa using h1
   simp[h1']
theorem YQ (f:Form) (hf:okF f) (d:Nat) (hd:d≤40) (L:Nat) (hL:L≤400):Ex (fun n=>uh n f ((41-d:Nat):Int) (L:Int)) (fun r=>(r.1=true↔J8 d f=true∧cF f≤L)∧(r.1=true→r.2=((L-cF f:Nat):Int))):=by
 obtain⟨o1,o2,o3,o4⟩:=(okF_eq f).1 hf;have hc:=sG f;refine .succ ?_;simp only[uh];have e1:aY ((L:Int)-1)=(L:Int)-1:=jS (by omega) (by omega);rw[e1];by_cases h0:(L:Int)-1<0
 ·simp only[if_pos h0,Option.bind_some,if_true];refine .pure ⟨⟨fun h=>(by cases h),fun h=>(by omega)⟩,fun h=>(by cases h)⟩
 rw[if_neg h0];by_cases hd0:d=0
 ·subst hd0;simp only[show decide (((41-0:Nat):Int)>40)=true from rfl,Option.bind_some,if_true];refine .pure ⟨⟨fun h=>(by cases h),fun h=>(by simp[J8] at h)⟩,fun h=>(by cases h)⟩
 obtain⟨d,rfl⟩:∃e,d=e+1:=⟨d-1,by omega⟩
 have hdd:decide (((41-(d+1):Nat):Int)>40)=false:=by simp; omega
 simp only[hdd,Option.bind_some,Bool.false_eq_true,if_false,J8];have kz:decide ((f.kids.length:Int)=0)=decide (f.kids.length=0):=by simp only[decide_eq_decide]; omega
 have sz:decide ((f.scopes.length:Int)=0)=decide (f.scopes.length=0):=by simp only[decide_eq_decide]; omega
 have fin:∀b:Bool,(f.kids.length=0∨b=false)→((b,(L:Int)-1).1=true↔b=true∧cF f≤L)∧((b,(L:Int)-1).1=true→(b,(L:Int)-1).2=((L-cF f:Nat):Int)):=fun b hb=>by
  rcases hb with hb | hb
  ·have hk:f.kids=[]:=List.eq_nil_of_length_eq_zero hb;have hc1:cF f=1:=by rw[hc,hk]; rfl
   exact⟨⟨fun h=>⟨h,by omega⟩,fun h=>h.1⟩,fun _=>by simp only; omega⟩
  ·subst hb;exact⟨⟨fun h=>(by cases h),fun h=>(by cases h.1)⟩,fun h=>(by cases h)⟩
 by_cases k1:f.kind=1
 ·rw[if_pos k1];simp only[if_pos k1];refine Ex.bind (P:=fun b=>b=(nameB f.name&&(decide (f.n=0)&&(WH f.scopes&&decide (f.kids.length=0))))) ?_ ?_
  ·refine .bv (UL _ o1) ?_;cases hn:nameB f.name with
   | false=>exact .neg (by simp) (.pure (by simp))
   | true=>
    refine .pos rfl ?_;by_cases h2:f.n=0
    ·refine .pos h2 ?_;simp only[ac6 _ _ o2,Option.bind_some];cases hs:WH f.scopes with
     | false=>exact .neg (by simp) (.pure (by simp))
     | true=>exact .pos rfl (.pure (by simp[kz,h2]))
    ·exact .neg h2 (.pure (by simp[h2]))
  ·rintro b rfl;refine .pure (fin _ ?_);by_cases hk:f.kids.length=0
   ·exact .inl hk
   ·exact .inr (by simp[hk])
 rw[if_neg k1];simp only[if_neg k1];by_cases k2:f.kind=2
 ·rw[if_pos k2];simp only[if_pos k2];refine Ex.bind (P:=fun b=>b=(decide (f.name=[])&&((decide (0≤f.n)&&decide (f.n≤999))&&(decide (f.scopes.length=0)&&decide (f.kids.length=0))))) ?_ ?_
  ·by_cases h1:f.name=[]
   ·refine .pos h1 ?_;simp only[Lh,Option.bind_some];by_cases h2:(decide (0≤f.n)&&decide (f.n≤999))=true
    ·refine .pos h2 ?_;by_cases h3:f.scopes.length=0
     ·exact .pos (by omega) (.pure (by rw[kz,h2]; simp only[h1,h3,decide_true,Bool.true_and]))
     ·exact .neg (by omega) (.pure (by simp only[h3,decide_false,Bool.false_and,Bool.and_false]))
    ·exact .neg h2 (.pure (by simp only[Bool.not_eq_true] at h2; rw[h2]; simp))
   ·exact .neg h1 (.pure (by simp[h1]))
  ·rintro b rfl;refine .pure (fin _ ?_);by_cases hk:f.kids.length=0
   ·exact .inl hk
   ·exact .inr (by simp[hk])
 rw[if_neg k2];simp only[if_neg k2];by_cases k3:f.kind=3
 ·rw[if_pos k3];simp only[if_pos k3];refine Ex.bind (P:=fun b=>b=!(decide (f.name=[])&&(decide (f.n=0)&&decide (f.scopes.length=0)))) ?_ ?_
  ·by_cases h1:f.name=[]
   ·refine .neg (by simp[h1]) ?_;by_cases h2:f.n=0
    ·refine .neg (by simp[h2]) (.pure ?_);by_cases h3:f.scopes.length=0
     ·have h3':¬(f.scopes.length:Int)>0:=by omega
      rw[decide_eq_false h3',decide_eq_true h1,decide_eq_true h2,decide_eq_true h3]; rfl
     ·have h3':(f.scopes.length:Int)>0:=by omega
      rw[decide_eq_true h3',decide_eq_true h1,decide_eq_true h2,decide_eq_false h3]; rfl
    ·exact .pos h2 (.pure (by simp[h1,h2]))
   ·exact .pos h1 (.pure (by simp[h1]))
  ·rintro b rfl;cases hq:(decide (f.name=[])&&(decide (f.n=0)&&decide (f.scopes.length=0))) with
   | false=>
    refine .pos rfl (.pure ⟨⟨fun h=>(by cases h),fun h=>?_⟩,fun h=>(by cases h)⟩);have:=h.1;simp only[Bool.and_eq_true] at this;rw[this.1,this.2.1,this.2.2.1] at hq; cases hq
   | true=>
    have hq':∀b,(decide (f.name=[])&&(decide (f.n=0)&&(decide (f.scopes.length=0)&&b)))=b:=fun b=>by
     simp only[Bool.and_eq_true] at hq;rw[hq.1,hq.2.1,hq.2.2]; simp
    rw[hq'];refine .neg (by simp) ?_;have e2:aY (((41-(d+1):Nat):Int)+1)=((41-d:Nat):Int):=by rw[jS (by omega) (by omega)]; omega
    rw[e2];refine Ex.bK (P:=fun o=>match o with
     | .inl w=>w.1=false∧¬(f.kids.all (J8 d)=true∧jV f.kids≤L-1)
     | .inr s=>f.kids.all (J8 d)=true∧jV f.kids≤L-1∧s=((L-1-jV f.kids:Nat):Int)) ?_ ?_ ?_
    ·refine Ex.cO (I:=fun i q s=>∃u:Nat,s=(u:Int)∧u≤400∧(f.kids.all (J8 d)=true∧jV f.kids≤L-1↔q.all (J8 d)=true∧jV q≤u)∧u+jV f.kids=L-1+jV q∧∀x∈q,x∈f.kids) ?_ ?_ ?_
     ·exact⟨L-1,by omega,by omega,Iff.rfl,rfl,fun _ h=>h⟩
     ·rintro i x q s ⟨u,rfl,hu,hiff,hsum,hmem⟩;have hx:=hmem x (List.mem_cons_self);refine Ex.bind (YQ x (IK.1 o4 x hx) d (by omega) u hu) ?_;rintro ⟨b,s'⟩ ⟨r1,r2⟩;simp only at r1 r2;cases b with
      | false=>
       refine .pos rfl (.fo ⟨rfl,fun h=>?_⟩);have h':=hiff.1 h;simp only[List.all_cons,Bool.and_eq_true,jV] at h';have:=r1.2 ⟨h'.1.1,by omega⟩;cases this
      | true=>
       obtain⟨q1,q2⟩:=r1.1 rfl;refine .neg (by simp) (.fg ⟨u-cF x,r2 rfl,by omega,?_,by simp only[jV] at hsum; omega,fun y hy=>hmem y (List.mem_cons_of_mem _ hy)⟩);rw[hiff];simp only[List.all_cons,Bool.and_eq_true,jV,q1,true_and];constructor <;> intro h <;> exact⟨h.1,by omega⟩
     ·rintro s ⟨u,rfl,hu,hiff,hsum,_⟩;have h:=hiff.2 ⟨rfl,by simp[jV]⟩;simp only[jV] at hsum;exact⟨h.1,h.2,by omega⟩
    ·rintro ⟨b,s⟩ ⟨h1,h2⟩;simp only at h1;subst h1;refine⟨⟨fun h=>(by cases h),fun h=>absurd ⟨h.1,by omega⟩ h2⟩,fun h=>(by cases h)⟩
    ·rintro s ⟨h1,h2,h3⟩;exact .pure ⟨⟨fun _=>⟨h1,by omega⟩,fun _=>rfl⟩,fun _=>by simp only; omega⟩
 ·rw[if_neg k3];simp only[if_neg k3];exact .pure ⟨⟨fun h=>(by cases h),fun h=>(by cases h.1)⟩,fun h=>(by cases h)⟩
termination_by SizeOf.sizeOf f
decreasing_by exact jR hx
theorem UN (f:Form) (hf:okF f):fU (fun n=>lX n f) (gU f):=by
 refine Ex.zL ?_;unfold lX;refine Ex.bind (YQ f hf 40 (by omega) 400 (by omega)) ?_;rintro ⟨b,s⟩ ⟨r1,_⟩;refine .pure ?_;simp only at r1 ⊢;unfold gU;rw[Bool.eq_iff_iff,r1];simp
theorem Nv (l:List Int) (hl:l.length≤JB):fU (fun n=>lJ n l) (WH l):=by
 unfold JB at hl;unfold lJ;have hb:WH l=if(List.range (min l.length 25)).all (ZJ l)=true then decide (l.length≤24) else false:=by
  unfold WH;by_cases h:l.length≤24
  ·rw[Nat.min_eq_left (by omega)];cases (List.range l.length).all (ZJ l) <;> simp
  ·simp[h]
 rw[hb];have step:∀i,i<min l.length 25→(Option.bind ((if(i:Int)<(l.length:Int) then some (decide ((i:Int)≤24)) else some false):Option (Bool)) (fun(o3:Bool)=>(if o3=true then Option.bind ((gG l (i:Int)).bind fun e7=>(if e7<1 then some true else(if e7>99 then some true else(if(i:Int)>0 then(gG l (aY ((i:Int)-1))).bind fun e11=>some (decide (e7≤e11)) else some false))):Option (Bool)) (fun(o5:Bool)=>(if o5=true then some (Sum.inl false) else some (Sum.inr (aY ((i:Int)+1))))) else some (Sum.inl (decide ((l.length:Int)≤24))))):Option (Bool⊕Int))=if ZJ l i=true then some (.inr ((i+1:Nat):Int)) else some (.inl false):=fun i hi=>by
  have hi':i<l.length:=by omega
  have hy:=List.getElem?_eq_getElem hi';rw[if_pos (by omega),decide_eq_true (by omega:(i:Int)≤24)];simp only[Option.bind_some,if_true,dX hy,ig (i:=i) (by omega),ZJ,hy];by_cases h1:l[i]<1
  ·rw[if_pos h1]; simp[show ¬1≤l[i] by omega]
  rw[if_neg h1];by_cases h2:l[i]>99
  ·rw[if_pos h2]; simp[show ¬l[i]≤99 by omega]
  rw[if_neg h2];by_cases h0:(i:Int)>0
  ·have e:aY ((i:Int)-1)=((i-1:Nat):Int):=by rw[jS (by omega) (by omega)]; omega
   have hz:=List.getElem?_eq_getElem (l:=l) (i:=i-1) (by omega);have hi0:(i==0)=false:=by simp; omega
   rw[if_pos h0,e,dX hz,hi0];simp only[Option.bind_some,hz,Bool.false_or];by_cases hlt:l[i-1]<l[i]
   ·simp[hlt,show 1≤l[i] by omega,show l[i]≤99 by omega]
   ·simp[hlt,show l[i]≤l[i-1] by omega]
  ·have hi0:(i==0)=true:=by simp; omega
   rw[if_neg h0,hi0];simp[show 1≤l[i] by omega,show l[i]≤99 by omega]
 refine fU.scan (L:=min l.length 25) (p:=ZJ l) (fun i hi hp=>.const ?_) (fun i hi hp=>.const ?_) (.const ?_)
 ·rw[step i hi,if_pos hp]
 ·rw[step i hi,if_neg (by simp[hp])]
 ·have e:((if((min l.length 25:Nat):Int)<(l.length:Int) then some (decide (((min l.length 25:Nat):Int)≤24)) else some false):Option Bool)=some false:=by
   by_cases h:((min l.length 25:Nat):Int)<(l.length:Int)
   ·rw[if_pos h]; congr 1; simp; omega
   ·rw[if_neg h]
  have a1:decide ((l.length:Int)≤24)=decide (l.length≤24):=by simp only[decide_eq_decide]; omega
  rw[e,a1]; rfl
theorem Ex.allI {α ω:Type} {m:Nat→α→Option Bool} {p:α→Bool} {no:ω} {xs:List α} {f:Nat→Unit→Option ω} {Q:ω→Prop} (h:∀x∈xs,fU (fun n=>m n x) (p x)) (hy:xs.all p=true→Ex (fun n=>f n ()) Q) (hn:xs.all p=false→Q no) :
  Ex (fun n=>Mx.bK (Mx.cO (fun(_:Unit) (_:Nat) (x:α)=>((m n x).bind fun k=>(if(!k)=true then some (Sum.inl no) else some (Sum.inr ())):Option (ω⊕Unit))) 0 xs ()) (f n)) Q:=by
 refine Ex.bK (P:=fun o=>match o with
  | .inl w=>w=no∧xs.all p=false
  | .inr _=>xs.all p=true) ?_ ?_ ?_
 ·refine Ex.cO (I:=fun i q s=>(∀x∈q,x∈xs)∧xs.all p=q.all p) ⟨fun _ h=>h,rfl⟩ ?_ ?_
  ·rintro i x q s ⟨h1,h2⟩;refine .bv (h x (h1 x (List.mem_cons_self))) ?_;cases hp:p x with
   | true=>exact .neg (by simp) (.fg ⟨fun y hy=>h1 y (List.mem_cons_of_mem _ hy),by rw[h2,List.all_cons,hp,Bool.true_and]⟩)
   | false=>exact .pos rfl (.fo ⟨rfl,by rw[h2,List.all_cons,hp,Bool.false_and]⟩)
  ·rintro s ⟨_,h2⟩;exact h2
 ·rintro w ⟨rfl,h⟩; exact hn h
 ·rintro ⟨⟩ h; exact hy h
theorem UO (f:Form) (hf:okF f) (d:Nat) (hd:d≤40):fU (fun n=>yN n f (d:Int)) (J8 d f):=by
 obtain⟨o1,o2,o3,o4⟩:=(okF_eq f).1 hf;refine .succ ?_;simp only[yN];by_cases hd0:d=0
 ·subst hd0;exact .pos rfl (.pure _)
 obtain⟨d,rfl⟩:∃e,d=e+1:=⟨d-1,by omega⟩
 refine .neg (by omega) ?_;have kz:decide ((f.kids.length:Int)=0)=decide (f.kids.length=0):=by simp only[decide_eq_decide]; omega
 simp only[J8];refine Ex.zL ?_;by_cases k1:f.kind=1
 ·rw[if_pos k1];simp only[if_pos k1];refine Ex.bind (P:=fun b=>b=(nameB f.name&&(decide (f.n=0)&&(WH f.scopes&&decide (f.kids.length=0))))) ?_ (fun b hb=>.pure hb);refine .bv (GY _ o1) ?_;cases hn:nameB f.name with
  | false=>exact .neg (by simp) (.pure (by simp))
  | true=>
   refine .pos rfl ?_;by_cases h2:f.n=0
   ·refine .pos h2 (.bv (Nv _ o2) ?_);cases hs:WH f.scopes with
    | false=>exact .neg (by simp) (.pure (by simp))
    | true=>exact .pos rfl (.pure (by simp[kz,h2]))
   ·exact .neg h2 (.pure (by simp[h2]))
 rw[if_neg k1];simp only[if_neg k1];by_cases k2:f.kind=2
 ·rw[if_pos k2];simp only[if_pos k2];refine Ex.bind (P:=fun b=>b=(decide (f.name=[])&&((decide (0≤f.n)&&decide (f.n≤999))&&(decide (f.scopes.length=0)&&decide (f.kids.length=0))))) ?_ (fun b hb=>.pure hb);by_cases h1:f.name=[]
  ·refine .pos h1 ?_;by_cases h2:f.n≥0
   ·refine .pos h2 ?_;by_cases h4:f.n≤999
    ·refine .pos h4 ?_;by_cases h3:f.scopes.length=0
     ·exact .pos (by omega) (.pure (by rw[kz,decide_eq_true h1,decide_eq_true (show 0≤f.n from h2),decide_eq_true h4,decide_eq_true h3]; simp))
     ·exact .neg (by omega) (.pure (by rw[decide_eq_false h3]; simp))
    ·exact .neg h4 (.pure (by rw[decide_eq_false h4]; simp))
   ·exact .neg h2 (.pure (by rw[decide_eq_false (show ¬0≤f.n from h2)]; simp))
  ·exact .neg h1 (.pure (by simp[h1]))
 rw[if_neg k2];simp only[if_neg k2];by_cases k3:f.kind=3
 ·simp only[k3,not_true_eq_false,if_false,if_true];refine Ex.bind (P:=fun b=>b=!(decide (f.name=[])&&(decide (f.n=0)&&decide (f.scopes.length=0)))) ?_ ?_
  ·by_cases h1:f.name=[]
   ·refine .neg (by simp[h1]) ?_;by_cases h2:f.n=0
    ·refine .neg (by simp[h2]) (.pure ?_);by_cases h3:f.scopes.length=0
     ·have h3':¬¬(f.scopes.length:Int)=0:=by omega
      rw[decide_eq_false h3',decide_eq_true h1,decide_eq_true h2,decide_eq_true h3]; rfl
     ·have h3':¬(f.scopes.length:Int)=0:=by omega
      rw[decide_eq_true h3',decide_eq_true h1,decide_eq_true h2,decide_eq_false h3]; rfl
    ·exact .pos h2 (.pure (by simp[h1,h2]))
   ·exact .pos h1 (.pure (by simp[h1]))
  ·rintro b rfl;have hq':(decide (f.name=[])&&(decide (f.n=0)&&(decide (f.scopes.length=0)&&f.kids.all (J8 d))))=((decide (f.name=[])&&(decide (f.n=0)&&decide (f.scopes.length=0)))&&f.kids.all (J8 d)):=by simp only[Bool.and_assoc]
   rw[hq'];cases (decide (f.name=[])&&(decide (f.n=0)&&decide (f.scopes.length=0))) with
   | false=>exact .pos rfl (.pure rfl)
   | true=>
    refine .neg (by simp) ?_;have e2:aY (((d+1:Nat):Int)-1)=(d:Int):=by rw[jS (by omega) (by omega)]; omega
    rw[e2];exact Ex.allI (m:=fun n x=>yN n x (d:Int)) (p:=J8 d) (fun x hx=>UO x (IK.1 o4 x hx) d (by omega)) (fun h=>.pure (by rw[h]; rfl)) (fun h=>by rw[h]; rfl)
 ·simp only[if_neg k3];refine Ex.bind (P:=fun b=>b=true) (.pos k3 (.pure rfl)) ?_;rintro b rfl;exact .pos rfl (.pure rfl)
termination_by SizeOf.sizeOf f
decreasing_by exact jR hx
theorem Ex.aaX {α:Type} {m:Nat→α→Option Int} {c:α→Nat} {cs:List α→Nat} (hn:cs []=0) (hc:∀x r,cs (x::r)=c x+cs r) {xs:List α} {b:Nat} (hb:b+cs xs≤4611686018427387904) (h:∀x∈xs,fU (fun n=>m n x) (c x:Int)) :
  fU (fun n=>Mx.dS (fun(s:Int) (_:Nat) (x:α)=>(m n x).bind fun k=>some (aY (s+k))) 0 xs (b:Int)) ((b+cs xs:Nat):Int):=by
 refine Ex.zL ?_;refine Ex.dS (I:=fun i q s=>∃u:Nat,s=(u:Int)∧u+cs q=b+cs xs∧∀x∈q,x∈xs) ⟨b,rfl,rfl,fun _ h=>h⟩ ?_ ?_
 ·rintro i x q s ⟨u,rfl,h1,h2⟩;refine .bv (h x (h2 x (List.mem_cons_self))) (.pure ⟨u+c x,?_,by rw[hc] at h1; omega,fun y hy=>h2 y (List.mem_cons_of_mem _ hy)⟩);rw[hc] at h1;rw[jS (by omega) (by omega)]; omega
 ·rintro s ⟨u,rfl,h1,_⟩;rw[hn] at h1;rw[← h1]; rfl
theorem Nw (f:Form) (hw:cF f≤4611686018427387904):fU (fun n=>lH n f) (cF f:Int):=by
 have hc:=sG f;refine .succ ?_;simp only[lH];rw[hc];refine .bind (a:=((1+jV f.kids:Nat):Int)) ?_ (.pure _);exact Ex.aaX (b:=1) (c:=cF) (cs:=jV) rfl (fun _ _=>rfl) (by omega) (fun x hx=>Nw x (by have:=rJ hx; omega))
termination_by SizeOf.sizeOf f
decreasing_by exact jR hx
theorem GZ (f:Form) (hf:okF f) (hw:cF f≤4611686018427387904):fU (fun n=>bQ n f) (gU f):=by
 refine Ex.zL ?_;unfold bQ gU;refine Ex.bind (P:=fun b=>b=(J8 40 f&&decide (cF f≤400))) ?_ (fun b hb=>.pure hb);refine .bv (UO f hf 40 (by omega)) ?_;cases J8 40 f with
 | false=>exact .neg (by simp) (.pure rfl)
 | true=>
  refine .pos rfl (.bv (Nw f hw) (.pure ?_));rw[Bool.true_and]; simp only[decide_eq_decide]; omega
def all2 {α β:Type} (p:α→β→Bool):List α→List β→Bool
 | [],[]=>true
 | x::r,y::s=>p x y&&all2 p r s
 | _,_=>false
theorem Ex.eqI {α:Type} {m:Nat→α→α→Option Bool} {p:α→α→Bool} {xs ys:List α} (hl:xs.length=ys.length) (h:∀x∈xs,∀y,fU (fun n=>m n x y) (p x y)) :
  fU (fun n=>Mx.bK (Mx.cO (fun(_:Unit) (i:Nat) (x:α)=>((gG ys (i:Int)).bind fun e=>(m n x e).bind fun k=>(if(!k)=true then some (Sum.inl false) else some (Sum.inr ())):Option (Bool⊕Unit))) 0 xs ()) (fun _=>some true)) (all2 p xs ys):=by
 refine Ex.zL ?_;refine Ex.bK (P:=fun o=>match o with
  | .inl w=>w=false∧all2 p xs ys=false
  | .inr _=>all2 p xs ys=true) ?_ ?_ ?_
 ·refine Ex.cO (I:=fun i q s=>(∀x∈q,x∈xs)∧∃z,ys.drop i=z∧q.length=z.length∧all2 p xs ys=all2 p q z) ⟨fun _ h=>h,ys,rfl,hl,rfl⟩ ?_ ?_
  ·rintro i x q s ⟨h1,z,hz,h3,h2⟩;cases z with
   | nil=>simp at h3
   | cons y z=>
    obtain⟨g1,g2,_,_⟩:=jC hz;refine .bp y (dX g1) (.bv (h x (h1 x (List.mem_cons_self)) y) ?_);cases hp:p x y with
    | true=>exact .neg (by simp) (.fg ⟨fun w hw=>h1 w (List.mem_cons_of_mem _ hw),z,g2,by simpa using h3,by rw[h2]; simp only[all2,hp,Bool.true_and]⟩)
    | false=>exact .pos rfl (.fo ⟨rfl,by rw[h2]; simp only[all2,hp,Bool.false_and]⟩)
  ·rintro s ⟨_,z,hz,h3,h2⟩;have:z=[]:=List.eq_nil_of_length_eq_zero (by simpa using h3.symm);subst this;exact h2
 ·rintro w ⟨rfl,h⟩; exact h.symm
 ·rintro ⟨⟩ h; exact .pure h.symm
theorem UQ {α:Type} [DecidableEq α]:∀{xs ys:List α},all2 (fun x y=>decide (x=y)) xs ys=decide (xs=ys)
 | [],[]=>rfl
 | x::r,y::s=>by
  simp only[all2,UQ (xs:=r) (ys:=s)];rw[Bool.eq_iff_iff]; simp
 | [],_::_=>by simp[all2]
 | _::_,[]=>by simp[all2]
theorem Ny {a b:List Int}:fU (fun(_:Nat)=>(if ¬(a.length:Int)=(b.length:Int) then some false else bK (cO (fun(s5:Unit) (i4:Nat) (x7:Int)=>((gG b (i4:Int)).bind fun e12=>(if ¬x7=e12 then some (Sum.inl false) else some (Sum.inr ())):Option (Bool⊕Unit))) 0 a ()) (fun(s5:Unit)=>some true))) (decide (a=b)):=by
 by_cases h:a.length=b.length
 ·refine .neg (by omega) ?_;have:=Ex.eqI (m:=fun _ (x y:Int)=>some (decide (x=y))) (p:=fun x y=>decide (x=y)) h (fun x _ y=>.pure _);rw[UQ] at this
  simpa only[Option.bind_some,Bool.not_eq_true',decide_eq_false_iff_not] using this
 ·refine .pos (by omega) ?_;have:¬a=b:=fun e=>h (by rw[e]);simp only[this,decide_false]; exact .pure _
mutual
def iC:Form→Form→Bool
 | ⟨k,nm,n,sc,kids⟩,b=>decide (k=b.kind)&&(decide (nm=b.name)&&(decide (n=b.n)&&(decide (sc=b.scopes)&&iW kids b.kids)))
def iW:List Form→List Form→Bool
 | [],[]=>true
 | x::r,y::s=>iC x y&&iW r s
 | _,_=>false
end
mutual
def AP:Core→Core→Bool
 | ⟨k,id,nm,n,ids,dt,kids⟩,b=>decide (k=b.kind)&&(decide (id=b.id)&&(decide (nm=b.name)&&(decide (n=b.n)&&(decide (ids=b.ids)&&(iC dt b.data&&lN kids b.kids)))))
def lN:List Core→List Core→Bool
 | [],[]=>true
 | x::r,y::s=>AP x y&&lN r s
 | _,_=>false
end
mutual
theorem EY:∀{a b:Form},iC a b=true↔a=b
 | ⟨k,nm,n,sc,kids⟩,⟨k',nm',n',sc',ae0⟩=>by
  simp only[iC,Bool.and_eq_true,decide_eq_true_eq,Dh,Form.mk.injEq]
theorem Dh:∀{a b:List Form},iW a b=true↔a=b
 | [],[]=>by simp[iW]
 | x::r,y::s=>by simp only[iW,Bool.and_eq_true,EY,Dh,List.cons.injEq]
 | [],_::_=>by simp[iW]
 | _::_,[]=>by simp[iW]
end
mutual
theorem Wh:∀{a b:Core},AP a b=true↔a=b
 | ⟨k,id,nm,n,ids,dt,kids⟩,⟨k',id',nm',n',ai6,dt',ae0⟩=>by
  simp only[AP,Bool.and_eq_true,decide_eq_true_eq,yZ,EY,Core.mk.injEq]
theorem yZ:∀{a b:List Core},lN a b=true↔a=b
 | [],[]=>by simp[lN]
 | x::r,y::s=>by simp only[lN,Bool.and_eq_true,Wh,yZ,List.cons.injEq]
 | [],_::_=>by simp[lN]
 | _::_,[]=>by simp[lN]
end
theorem Di:∀{a b:List Form},iW a b=all2 iC a b
 | [],[]=>by simp[iW,all2]
 | x::r,y::s=>by simp only[iW,all2,Di (a:=r)]
 | [],_::_=>by simp[iW,all2]
 | _::_,[]=>by simp[iW,all2]
theorem Ji:∀{a b:List Core},lN a b=all2 AP a b
 | [],[]=>by simp[lN,all2]
 | x::r,y::s=>by simp only[lN,all2,Ji (a:=r)]
 | [],_::_=>by simp[lN,all2]
 | _::_,[]=>by simp[lN,all2]
theorem Qa (a b:Form):iC a b=(decide (a.kind=b.kind)&&(decide (a.name=b.name)&&(decide (a.n=b.n)&&(decide (a.scopes=b.scopes)&&iW a.kids b.kids)))):=by cases a; simp only[iC]
theorem Qb (a b:Core):AP a b=(decide (a.kind=b.kind)&&(decide (a.id=b.id)&&(decide (a.name=b.name)&&(decide (a.n=b.n)&&(decide (a.ids=b.ids)&&(iC a.data b.data&&lN a.kids b.kids)))))):=by cases a; simp only[AP]
theorem Jj {a b:List Form} (h:¬a.length=b.length):iW a b=false:=by
 cases hs:iW a b with
 | false=>rfl
 | true=>exact absurd (by rw[Dh.1 hs]) h
theorem SQ {a b:List Core} (h:¬a.length=b.length):lN a b=false:=by
 cases hs:lN a b with
 | false=>rfl
 | true=>exact absurd (by rw[yZ.1 hs]) h
theorem Qc (a b:List Int):fU (fun n=>slices_Equal_int n a b) (decide (a=b)):=Ny
theorem Nz (a b:Form):fU (fun n=>iJ n a b) (iC a b):=by
 refine .succ ?_;simp only[iJ];rw[Qa];refine Ex.zL ?_;refine Ex.bind (P:=fun o=>o=(decide (a.kind=b.kind)&&(decide (a.name=b.name)&&(decide (a.n=b.n)&&(decide (a.scopes=b.scopes)&&iW a.kids b.kids))))) ?_ (fun _ h=>.pure h);by_cases h1:a.kind=b.kind
 ·refine .pos h1 ?_;by_cases h2:a.name=b.name
  ·refine .pos h2 ?_;by_cases h3:a.n=b.n
   ·refine .pos h3 (.bv (Qc _ _) ?_);rw[decide_eq_true h1,decide_eq_true h2,decide_eq_true h3];simp only[Bool.true_and];by_cases h4:a.scopes=b.scopes
    ·rw[decide_eq_true h4];refine .pos rfl ?_;have hk:fU (fun n=>bg n a.kids b.kids) (iW a.kids b.kids):=by
      refine .succ ?_;simp only[bg];by_cases hl:a.kids.length=b.kids.length
      ·refine .neg (by omega) ?_;rw[Di];exact Ex.eqI (m:=fun n x e=>iJ n x e) hl (fun x hx y=>Nz x y)
      ·rw[Jj hl]; exact .pos (by omega) (.pure _)
     exact .bv hk (.pure rfl)
    ·rw[decide_eq_false h4];exact .neg (by simp) (.pure rfl)
   ·exact .neg h3 (.pure (by rw[decide_eq_false h3]; simp))
  ·exact .neg h2 (.pure (by rw[decide_eq_false h2]; simp))
 ·exact .neg h1 (.pure (by rw[decide_eq_false h1]; rfl))
termination_by SizeOf.sizeOf a
decreasing_by exact jR hx
theorem UR (a b:Core):fU (fun n=>jJ n a b) (AP a b):=by
 refine .succ ?_;simp only[jJ];rw[Qb];refine Ex.zL ?_;refine Ex.bind (P:=fun o=>o=(decide (a.kind=b.kind)&&(decide (a.id=b.id)&&(decide (a.name=b.name)&&(decide (a.n=b.n)&&(decide (a.ids=b.ids)&&(iC a.data b.data&&lN a.kids b.kids))))))) ?_ (fun _ h=>.pure h);by_cases h1:a.kind=b.kind
 ·refine .pos h1 ?_;by_cases h0:a.id=b.id
  ·refine .pos h0 ?_;by_cases h2:a.name=b.name
   ·refine .pos h2 ?_;by_cases h3:a.n=b.n
    ·refine .pos h3 (.bv (Qc _ _) ?_);rw[decide_eq_true h1,decide_eq_true h2,decide_eq_true h3,decide_eq_true h0];simp only[Bool.true_and];by_cases h4:a.ids=b.ids
     ·rw[decide_eq_true h4];refine .pos rfl (.bv (Nz _ _) ?_);cases hd:iC a.data b.data with
      | false=>exact .neg (by simp) (.pure rfl)
      | true=>
       refine .pos rfl ?_;have hk:fU (fun n=>bn n a.kids b.kids) (lN a.kids b.kids):=by
        refine .succ ?_;simp only[bn];by_cases hl:a.kids.length=b.kids.length
        ·refine .neg (by omega) ?_;rw[Ji];exact Ex.eqI (m:=fun n x e=>jJ n x e) hl (fun x hx y=>UR x y)
        ·rw[SQ hl]; exact .pos (by omega) (.pure _)
       exact .bv hk (.pure rfl)
     ·rw[decide_eq_false h4];exact .neg (by simp) (.pure rfl)
    ·exact .neg h3 (.pure (by rw[decide_eq_false h3]; simp))
   ·exact .neg h2 (.pure (by rw[decide_eq_false h2]; simp))
  ·exact .neg h0 (.pure (by rw[decide_eq_false h0]; simp))
 ·exact .neg h1 (.pure (by rw[decide_eq_false h1]; rfl))
termination_by SizeOf.sizeOf a
decreasing_by exact qL hx
theorem Jk (a b:List Int):fU (fun n=>uo n a b) (decide (a=b)):=Ny
theorem y9 (a b:Form):fU (fun n=>eY n a b) (iC a b):=by
 refine .succ ?_;simp only[eY];rw[Qa];refine Ex.zL ?_;refine Ex.bind (P:=fun o=>o=!(decide (a.kind=b.kind)&&(decide (a.name=b.name)&&(decide (a.n=b.n)&&(decide (a.scopes=b.scopes)&&decide (a.kids.length=b.kids.length)))))) ?_ ?_
 ·by_cases h1:a.kind=b.kind
  ·refine .neg (fun h=>h h1) ?_;by_cases h2:a.name=b.name
   ·refine .neg (fun h=>h h2) ?_;by_cases h3:a.n=b.n
    ·refine .neg (fun h=>h h3) (.bv (Jk _ _) ?_);rw[decide_eq_true h1,decide_eq_true h2,decide_eq_true h3];simp only[Bool.true_and];by_cases h4:a.scopes=b.scopes
     ·rw[decide_eq_true h4];refine .neg (by simp) (.pure ?_);by_cases h5:a.kids.length=b.kids.length
      ·rw[decide_eq_true h5,decide_eq_false (show ¬¬(a.kids.length:Int)=(b.kids.length:Int) by omega)]; rfl
      ·rw[decide_eq_false h5,decide_eq_true (show ¬(a.kids.length:Int)=(b.kids.length:Int) by omega)]; rfl
     ·rw[decide_eq_false h4];exact .pos rfl (.pure rfl)
    ·exact .pos h3 (.pure (by rw[decide_eq_false h3]; simp))
   ·exact .pos h2 (.pure (by rw[decide_eq_false h2]; simp))
  ·exact .pos h1 (.pure (by rw[decide_eq_false h1]; rfl))
 ·rintro o rfl;by_cases h5:a.kids.length=b.kids.length
  ·rw[decide_eq_true h5];cases e1:decide (a.kind=b.kind) with
   | false=>exact .pos rfl (.pure rfl)
   | true=>
    cases e2:decide (a.name=b.name) with
    | false=>exact .pos rfl (.pure rfl)
    | true=>
     cases e3:decide (a.n=b.n) with
     | false=>exact .pos rfl (.pure rfl)
     | true=>
      cases e4:decide (a.scopes=b.scopes) with
      | false=>exact .pos rfl (.pure rfl)
      | true=>
       refine .neg (by simp) ?_;simp only[Bool.true_and];rw[Di];exact(Ex.eqI (m:=fun n x e=>eY n x e) h5 (fun x hx y=>y9 x y)).ex
  ·rw[decide_eq_false h5,Jj h5];refine .pos (by simp) (.pure (by simp))
termination_by SizeOf.sizeOf a
decreasing_by exact jR hx
def zF:Form:=⟨0,[],0,[],[]⟩
mutual
def xZ:Form→List Int
 | ⟨_,_,_,sc,kids⟩=>sc++vH kids
def vH:List Form→List Int
 | []=>[]
 | x::r=>xZ x++vH r
end
mutual
def NC:Form→Form
 | ⟨k,nm,n,_,kids⟩=>⟨k,nm,n,[],Jl kids⟩
def Jl:List Form→List Form
 | []=>[]
 | x::r=>NC x::Jl r
end
def EZ (f:Form):Bool:=decide (xZ f=[])
theorem YR (f:Form):xZ f=f.scopes++vH f.kids:=by cases f; simp only[xZ]
theorem aaY (f:Form):NC f=⟨f.kind,f.name,f.n,[],Jl f.kids⟩:=by cases f; simp only[NC]
theorem Lj:∀l:List Form,Jl l=l.map NC
 | []=>rfl
 | x::r=>by simp only[Jl,List.map_cons,Lj r]
mutual
theorem Jm:∀f:Form,(xZ f).length≤wF f
 | ⟨k,nm,n,sc,kids⟩=>by have:=Ll kids; simp only[xZ,wF,List.length_append]; omega
theorem Ll:∀l:List Form,(vH l).length≤qg l
 | []=>by simp[vH]
 | x::r=>by have:=Jm x; have:=Ll r; simp only[vH,qg,List.length_append]; omega
end
mutual
theorem Qd:∀f:Form,iC (NC f) f=EZ f
 | ⟨k,nm,n,sc,kids⟩=>by
  have ih:=Lm kids;rw[Bool.eq_iff_iff];simp only[NC,iC,EZ,xZ,ih,decide_true,Bool.true_and,Bool.and_eq_true,decide_eq_true_eq,List.append_eq_nil_iff];exact⟨fun⟨a,b⟩=>⟨a.symm,b⟩,fun⟨a,b⟩=>⟨a.symm,b⟩⟩
theorem Lm:∀l:List Form,iW (Jl l) l=decide (vH l=[])
 | []=>rfl
 | x::r=>by
  have ih:=Qd x;have ih2:=Lm r;rw[Bool.eq_iff_iff];simp only[Jl,iW,ih,ih2,EZ,vH,Bool.and_eq_true,decide_eq_true_eq,List.append_eq_nil_iff]
end
def SS (c:Core):Bool:=
 (if c.kind=1 then decide (1≤c.id)&&decide (c.id≤999) else decide (c.id=0)) &&
 ((if c.kind=2 then nameB c.name else decide (c.name=[])) &&
 ((if c.kind=3 then decide (0≤c.n)&&decide (c.n≤999) else decide (c.n=0)) &&
 ((if c.kind=4 then gU c.data&&EZ c.data else iC c.data zF) &&
 (decide (c.kind=5)||decide (c.ids=[])))))
def Ey (k:Int) (m:Nat):Bool:=if k=1∨k=2∨k=3∨k=4 then decide (m=0) else if k=5 then decide (m=1) else if k=6 then decide (1≤m) else if k=7 then decide (m=3) else false
def Gw:List Int→List Int→Option (List Int)
 | sc,[]=>some sc
 | sc,x::r=>if(1≤x∧x≤999)∧x∉sc then Gw (sc++[x]) r else none
theorem ND:∀{ids sc s:List Int},Gw sc ids=some s→s.length=sc.length+ids.length
 | [],sc,s,h=>by cases h; rfl
 | x::r,sc,s,h=>by
  simp only[Gw] at h;split at h
  ·have:=ND h; simp at this ⊢; omega
  ·cases h
def wJ:Nat→List Int→Core→Bool
 | 0,_,_=>false
 | d+1,sc,c=>Ey c.kind c.kids.length&&(SS c&&((!decide (c.kind=1)||decide (c.id∈sc))&&(match Gw sc c.ids with
  | none=>false
  | some s=>c.kids.all (wJ d s))))
mutual
def cC:Core→Nat
 | ⟨_,_,_,_,_,_,kids⟩=>1+Cm kids
def Cm:List Core→Nat
 | []=>0
 | x::r=>cC x+Cm r
end
theorem F7 (f:Core):cC f=1+Cm f.kids:=by cases f; simp only[cC]
mutual
theorem Qe:∀f:Core,cC f≤wC f+1
 | ⟨k,id,nm,n,ids,dt,kids⟩=>by have:=YS kids; simp only[cC,wC]; omega
theorem YS:∀l:List Core,Cm l≤vJ l+l.length
 | []=>by simp[Cm]
 | x::r=>by have:=Qe x; have:=YS r; simp only[Cm,vJ,List.length_cons]; omega
end
theorem zf:∀{l:List Core} {x:Core},x∈l→cC x≤Cm l
 | y::r,x,h=>by
  simp only[Cm];rcases List.mem_cons.1 h with rfl | h
  ·omega
  ·have:=zf h; omega
def iV (c:Core):Bool:=wJ 120 [] c&&decide (cC c≤600)
theorem UU (n:Nat) (l:List Int) (x:Int):slices_Contains_int n l x=some (decide (x∈l)):=by
 unfold slices_Contains_int slices_Index_int;have main:∀(l:List Int) (i:Nat),∃k:Int,bK (Mx.cO (fun(_:Unit) (i:Nat) (y:Int)=>((if x=y then some (Sum.inl (i:Int)) else some (Sum.inr ())):Option (Int⊕Unit))) i l ()) (fun _=>some (-1))=some k∧(k≥0↔x∈l):=by
  intro l
  induction l with
  | nil=>intro i; exact⟨-1,rfl,by simp⟩
  | cons y r ih=>
   intro i;by_cases h:x=y
   ·subst h;exact⟨(i:Int),by simp[Mx.cO,Mx.bK],by simp⟩
   ·obtain⟨k,h1,h2⟩:=ih (i+1);refine⟨k,?_,by rw[h2]; simp[h]⟩;rw[← h1];simp[Mx.cO,h]
 obtain⟨k,h1,h2⟩:=main l 0;rw[h1,Option.bind_some];congr 1;rw[Bool.eq_iff_iff,decide_eq_true_eq,decide_eq_true_eq]; exact h2
theorem YT (n:Nat) (l:List Int) (x:Int):fC n l x=some (decide (x∈l)):=UU n l x
theorem UW (f:Form) (w:List Int) (hw:w.length+wF f≤1073741824):fU (fun n=>dN n f w) (w++xZ f):=by
 have he:=FI f;refine .succ ?_;simp only[dN,rG];refine Ex.zL ?_;rw[dK (by omega)];simp only[Option.bind_some];refine Ex.bind (P:=fun s=>s=w++xZ f) ?_ (fun s hs=>.pure hs);refine Ex.dS (I:=fun i q s=>s++vH q=w++xZ f∧s.length+qg q+q.length≤1073741824∧∀x∈q,x∈f.kids) ⟨by rw[YR,List.append_assoc],by simp; omega,fun _ h=>h⟩ ?_ ?_
 ·rintro i x q s ⟨h1,h2,h3⟩;simp only[qg,List.length_cons] at h2;have g4:=h3 x (List.mem_cons_self);refine .bv (UW x s (by omega)) (.pure ⟨?_,?_,fun y hy=>h3 y (List.mem_cons_of_mem _ hy)⟩)
  ·rw[← h1]; simp only[vH,List.append_assoc]
  ·have:=Jm x;simp only[List.length_append]; omega
 ·rintro s ⟨h1,_,_⟩
  simpa [vH] using h1
termination_by SizeOf.sizeOf f
decreasing_by exact jR g4
theorem Qg {l:List Int}:(Lib.compact l).length=0↔l=[]:=by
 constructor
 ·intro h;cases l with
  | nil=>rfl
  | cons x r=>
   exfalso;have h:Lib.compact (x::r)=[]:=List.eq_nil_of_length_eq_zero h;unfold Lib.compact Lib.compactUpTo at h;rw[List.map_eq_nil_iff,List.filter_eq_nil_iff] at h;exact h 0 (by simp) (by simp[Lib.keeps])
 ·rintro rfl; rfl
theorem aaZ (f:Form) (hw:wF f≤1073741824) (hv:gU f=true):Ex (fun n=>rY n f) (fun r=>decide ((r.length:Int)>0)=!EZ f):=by
 unfold rY;refine .bv (UN f (Jh f hw)) ?_;rw[hv];refine .neg (by simp) (.bv (UW f [] (by simp; omega)) ?_);have hl:=Jm f;rw[List.nil_append];unfold kN lC;refine .bp _ (if_pos (by omega)) (.bp () (aaz (by simp)) (.bp _ rfl (.pure ?_)));unfold EZ;generalize hs:(xZ f).mergeSort (fun x y=>decide (x≤y))=s;have hsl:s.length=(xZ f).length:=by rw[← hs]; simp
 by_cases h:xZ f=[]
 ·have:s=[]:=List.eq_nil_of_length_eq_zero (by rw[hsl,h]; rfl);rw[this,h]; rfl
 ·have h1:s≠[]:=fun e=>h (List.eq_nil_of_length_eq_zero (by rw[← hsl,e]; rfl));have h2:(Lib.compact s).length≠0:=fun e=>h1 (Qg.1 e);rw[decide_eq_true (by omega),decide_eq_false h]; rfl
theorem ac7 (sc ids:List Int) (hl:sc.length+ids.length≤1073741824) {ω:Type} (no:ω) (N:Nat):Mx.cO (fun(JY:List Int) (i40:Nat) (x43:Int)=>(Option.bind ((iZ N x43 1 999).bind fun k51=>(if(!k51)=true then some true else(fC N JY x43).bind fun k53=>some k53):Option (Bool)) (fun(o48:Bool)=>(if o48=true then some (Sum.inl no) else(jQ 8 JY [x43]).bind fun z50=>some (Sum.inr z50))):Option (ω⊕(List Int)))) 0 ids sc=some (match Gw sc ids with
  | none=>.inl no
  | some s=>.inr s):=by
 have main:∀(ids sc:List Int) (i:Nat),sc.length+ids.length≤1073741824→Mx.cO (fun(JY:List Int) (i40:Nat) (x43:Int)=>(Option.bind ((iZ N x43 1 999).bind fun k51=>(if(!k51)=true then some true else(fC N JY x43).bind fun k53=>some k53):Option (Bool)) (fun(o48:Bool)=>(if o48=true then some (Sum.inl no) else(jQ 8 JY [x43]).bind fun z50=>some (Sum.inr z50))):Option (ω⊕(List Int)))) i ids sc=some (match Gw sc ids with
  | none=>.inl no
  | some s=>.inr s):=by
  simp only[Lh,YT,Option.bind_some];intro ids
  induction ids with
  | nil=>intro sc i _; rfl
  | cons x r ih=>
   intro sc i hb;simp only[List.length_cons] at hb;simp only[Mx.cO,Gw];by_cases h1:1≤x∧x≤999
   ·simp only[h1.1,h1.2,decide_true,Bool.and_self,Bool.not_true,Bool.false_eq_true,if_false,Option.bind_some,true_and,and_self];by_cases h2:x∈sc
    ·simp only[h2,decide_true,if_true,Option.bind_some,not_true_eq_false,if_false]
    ·simp only[h2,decide_false,Bool.false_eq_true,if_false,not_false_eq_true,if_true];rw[dK (by simp; omega)];simp only[Option.bind_some];exact ih (sc++[x]) (i+1) (by simp; omega)
   ·have h1':(decide (1≤x)&&decide (x≤999))=false:=by
     rw[Bool.eq_false_iff]; simpa using h1
    simp only[h1',Bool.not_false,if_true,Option.bind_some,h1,false_and,if_false]
 exact main ids sc 0 hl
def Wi (c:Core):Bool:=
 (if c.kind=1 then decide (1≤c.id)&&decide (c.id≤999) else decide (c.id=0)) &&
 ((if c.kind=2 then nameB c.name else decide (c.name=[])) &&
 ((if c.kind=3 then decide (0≤c.n)&&decide (c.n≤999) else decide (c.n=0)) &&
 (if c.kind=4 then gU c.data&&EZ c.data else iC c.data zF)))
theorem ac8 (c:Core):SS c=(Wi c&&(decide (c.kind=5)||decide (c.ids=[]))):=by simp only[SS,Wi,Bool.and_assoc]
theorem Ej {c:Core} (h:c.kind≠5) (d:Nat) (sc:List Int):wJ (d+1) sc c=(Ey c.kind c.kids.length&&(Wi c&&((!decide (c.kind=1)||decide (c.id∈sc))&&(decide (c.ids=[])&&c.kids.all (wJ d sc))))):=by
 simp only[wJ,ac8,decide_eq_false h,Bool.false_or];by_cases hi:c.ids=[]
 ·rw[hi];simp only[Gw,decide_true,Bool.and_true,Bool.true_and]
 ·rw[decide_eq_false hi]; simp
theorem bare_eq (c:Core) (a:Int) (b:List UInt8) (e:Int) (g:List Int) (dt:Form):AP c ⟨c.kind,a,b,e,g,dt,c.kids⟩=(decide (c.id=a)&&(decide (c.name=b)&&(decide (c.n=e)&&(decide (c.ids=g)&&iC c.data dt)))):=by
 rw[Qb];simp only[decide_true,Bool.true_and,yZ.2,Bool.and_true]
theorem kd1 (m:Nat):Ey 1 m=decide (m=0):=by simp[Ey]
theorem kd2 (m:Nat):Ey 2 m=decide (m=0):=by simp[Ey]
theorem kd3 (m:Nat):Ey 3 m=decide (m=0):=by simp[Ey]
theorem kd4 (m:Nat):Ey 4 m=decide (m=0):=by simp[Ey]
theorem kd5 (m:Nat):Ey 5 m=decide (m=1):=by simp[Ey]
theorem kd6 (m:Nat):Ey 6 m=decide (1≤m):=by simp[Ey]
theorem kd7 (m:Nat):Ey 7 m=decide (m=3):=by simp[Ey]
theorem NG (c:Core) (k:Nat):decide ((c.kids.length:Int)=(k:Int))=decide (c.kids.length=k):=by simp only[decide_eq_decide]; omega
theorem YU (c:Core) (d:Nat) (hd:d≤120) (sc:List Int) (hw:sc.length+wC c≤1073741824) (L:Nat) (hL:L≤600):Ex (fun n=>uj n c sc ((121-d:Nat):Int) (L:Int)) (fun r=>(r.1=true↔wJ d sc c=true∧cC c≤L)∧(r.1=true→r.2=((L-cC c:Nat):Int))):=by
 have he:=DY c;have hc:=F7 c;refine .succ ?_;simp only[uj];have e1:aY ((L:Int)-1)=(L:Int)-1:=jS (by omega) (by omega);rw[e1];by_cases h0:(L:Int)-1<0
 ·simp only[if_pos h0,Option.bind_some,if_true];refine .pure ⟨⟨fun h=>(by cases h),fun h=>(by omega)⟩,fun h=>(by cases h)⟩
 rw[if_neg h0];by_cases hd0:d=0
 ·subst hd0;simp only[show decide (((121-0:Nat):Int)>120)=true from rfl,Option.bind_some,if_true];refine .pure ⟨⟨fun h=>(by cases h),fun h=>(by simp[wJ] at h)⟩,fun h=>(by cases h)⟩
 obtain⟨d,rfl⟩:∃e,d=e+1:=⟨d-1,by omega⟩
 have hdd:decide (((121-(d+1):Nat):Int)>120)=false:=by simp; omega
 simp only[hdd,Option.bind_some,Bool.false_eq_true,if_false];have l0:decide ((c.kids.length:Int)=0)=decide (c.kids.length=0):=NG c 0;have l1:decide ((c.kids.length:Int)=1)=decide (c.kids.length=1):=NG c 1;have l3:decide ((c.kids.length:Int)=3)=decide (c.kids.length=3):=NG c 3;refine Ex.bK (P:=fun o=>match o with
  | .inl w=>w=(false,(L:Int)-1)∧wJ (d+1) sc c=false
  | .inr t=>wJ (d+1) sc c=(decide ((c.kids.length:Int)=t.1)&&(AP c ⟨c.kind,t.2.2.1,t.2.2.2.1,t.2.2.2.2.1,t.2.2.2.2.2.1,⟨t.2.2.2.2.2.2.1,t.2.2.2.2.2.2.2.1,t.2.2.2.2.2.2.2.2.1,t.2.2.2.2.2.2.2.2.2.1,t.2.2.2.2.2.2.2.2.2.2⟩,c.kids⟩&&c.kids.all (wJ d t.2.1)))∧t.2.1.length≤sc.length+c.ids.length) ?_ ?_ ?_
 ·by_cases k1:c.kind=1
  ·refine .pos k1 ?_;have hcr:=Ej (c:=c) (by omega) d sc;simp only[Lh,UU,Option.bind_some];rw[k1] at hcr;simp only[decide_true,Bool.not_true,Bool.false_or] at hcr;refine Ex.bind (P:=fun o=>o=!((decide (1≤c.id)&&decide (c.id≤999))&&decide (c.id∈sc))) ?_ ?_
   ·cases (decide (1≤c.id)&&decide (c.id≤999)) with
    | false=>exact .pos rfl (.pure rfl)
    | true=>exact .neg (by simp) (.pure (by simp))
   ·rintro o rfl;have hf:Wi c=((decide (1≤c.id)&&decide (c.id≤999))&&(decide (c.name=[])&&(decide (c.n=0)&&iC c.data zF))):=by unfold Wi; simp[k1]
    rw[hf] at hcr;cases hq:((decide (1≤c.id)&&decide (c.id≤999))&&decide (c.id∈sc)) with
    | false=>
     refine .pos rfl (.pure ⟨rfl,?_⟩);rw[hcr];rcases Bool.and_eq_false_iff.1 hq with h | h <;> rw[h] <;> simp
    | true=>
     obtain⟨h1,h2⟩:=(Bool.and_eq_true _ _▸hq:_∧_)
     refine .neg (by simp) (.pure ⟨?_,by simp⟩);rw[hcr,bare_eq,h1,h2];simp only[decide_true,Bool.true_and,l0,l1,l3,kd1,kd2,kd3,kd4,kd6,kd7,zF]
     ac_rfl
  refine .neg k1 ?_;by_cases k2:c.kind=2
  ·refine .pos k2 (.bv (UL _ (by unfold JB; omega)) ?_);have hcr:=Ej (c:=c) (by omega) d sc;have hf:Wi c=(decide (c.id=0)&&(nameB c.name&&(decide (c.n=0)&&iC c.data zF))):=by unfold Wi; simp[k2]
   rw[hf,k2] at hcr;cases hq:nameB c.name with
   | false=>exact .pos rfl (.pure ⟨rfl,by rw[hcr,hq]; simp⟩)
   | true=>
    refine .neg (by simp) (.pure ⟨?_,by simp⟩);rw[hcr,bare_eq,hq];simp only[decide_true,Bool.true_and,l0,l1,l3,kd1,kd2,kd3,kd4,kd6,kd7,zF,show decide ((2:Int)=1)=false from rfl,Bool.not_false,Bool.true_or]
    ac_rfl
  refine .neg k2 ?_;by_cases k3:c.kind=3
  ·refine .pos k3 ?_;have hcr:=Ej (c:=c) (by omega) d sc;have hf:Wi c=(decide (c.id=0)&&(decide (c.name=[])&&((decide (0≤c.n)&&decide (c.n≤999))&&iC c.data zF))):=by unfold Wi; simp[k3]
   rw[hf,k3] at hcr;simp only[Lh,Option.bind_some];cases hq:(decide (0≤c.n)&&decide (c.n≤999)) with
   | false=>exact .pos rfl (.pure ⟨rfl,by rw[hcr,hq]; simp⟩)
   | true=>
    refine .neg (by simp) (.pure ⟨?_,by simp⟩);rw[hcr,bare_eq,hq];simp only[decide_true,Bool.true_and,l0,l1,l3,kd1,kd2,kd3,kd4,kd6,kd7,zF,show decide ((3:Int)=1)=false from rfl,Bool.not_false,Bool.true_or]
    ac_rfl
  refine .neg k3 ?_;by_cases k4:c.kind=4
  ·refine .pos k4 ?_;have hcr:=Ej (c:=c) (by omega) d sc;have hf:Wi c=(decide (c.id=0)&&(decide (c.name=[])&&(decide (c.n=0)&&(gU c.data&&EZ c.data)))):=by unfold Wi; simp[k4]
   rw[hf,k4] at hcr;refine Ex.bind (P:=fun o=>o=!(gU c.data&&EZ c.data)) ?_ ?_
   ·refine .bv (UN _ (Jh _ (by omega))) ?_;cases hv:gU c.data with
    | false=>exact .pos rfl (.pure rfl)
    | true=>
     refine .neg (by simp) (Ex.bind (aaZ _ (by omega) hv) ?_);intro r hr;exact .pure (by rw[hr,Bool.true_and])
   ·rintro o rfl;cases hq:(gU c.data&&EZ c.data) with
    | false=>exact .pos rfl (.pure ⟨rfl,by rw[hcr,hq]; simp⟩)
    | true=>
     refine .neg (by simp) (.pure ⟨?_,by simp⟩);have hd0:iC c.data ⟨c.data.kind,c.data.name,c.data.n,c.data.scopes,c.data.kids⟩=true:=EY.2 (by cases c.data; rfl);rw[hcr,bare_eq,hq];simp only[];rw[hd0];simp only[decide_true,Bool.true_and,l0,l1,l3,kd1,kd2,kd3,kd4,kd6,kd7,show decide ((4:Int)=1)=false from rfl,Bool.not_false,Bool.true_or,Bool.and_true]
     ac_rfl
  refine .neg k4 ?_;by_cases k5:c.kind=5
  ·refine .pos k5 ?_;unfold slices_Clone_int;rw[oD (by omega)];simp only[Option.bind_some];have hf:SS c=(decide (c.id=0)&&(decide (c.name=[])&&(decide (c.n=0)&&iC c.data zF))):=by unfold SS; simp[k5]
   have hcr:wJ (d+1) sc c=(decide (c.kids.length=1)&&((decide (c.id=0)&&(decide (c.name=[])&&(decide (c.n=0)&&iC c.data zF)))&&(match Gw sc c.ids with
    | none=>false
    | some s=>c.kids.all (wJ d s)))):=by
    simp only[wJ,hf,k5,kd5,show decide ((5:Int)=1)=false from rfl,Bool.not_false,Bool.true_or,Bool.true_and]
   simp only[ac7 sc c.ids (by omega)];cases hq:Gw sc c.ids with
   | none=>exact .pure ⟨rfl,by rw[hcr,hq]; simp⟩
   | some s=>
    refine .pure ⟨?_,by rw[ND hq]; exact Nat.le_refl _⟩;rw[hcr,hq,bare_eq];simp only[decide_true,Bool.true_and,l1,zF]
  refine .neg k5 ?_;have hcr:=Ej (c:=c) k5 d sc;have hf:Wi c=(decide (c.id=0)&&(decide (c.name=[])&&(decide (c.n=0)&&iC c.data zF))):=by unfold Wi; simp[k1,k2,k3,k4]
  rw[hf,decide_eq_false k1] at hcr;by_cases k6:c.kind=6
  ·refine .pos k6 (.pure ⟨?_,by simp⟩);have hm:decide ((c.kids.length:Int)=(if(c.kids.length:Int)>1 then(c.kids.length:Int) else 1))=decide (1≤c.kids.length):=by
    rw[Bool.eq_iff_iff,decide_eq_true_eq,decide_eq_true_eq];split <;> constructor <;> intro h <;> omega
   rw[hcr,bare_eq];simp only[];rw[hm,k6];simp only[decide_true,Bool.true_and,l0,l1,l3,kd1,kd2,kd3,kd4,kd6,kd7,zF,Bool.not_false,Bool.true_or]
   ac_rfl
  refine .neg k6 ?_;by_cases k7:c.kind=7
  ·refine .pos k7 (.pure ⟨?_,by simp⟩);rw[hcr,bare_eq,k7];simp only[decide_true,Bool.true_and,l0,l1,l3,kd1,kd2,kd3,kd4,kd6,kd7,zF,Bool.not_false,Bool.true_or]
   ac_rfl
  ·refine .neg k7 (.pure ⟨rfl,?_⟩);rw[hcr];have:Ey c.kind c.kids.length=false:=by unfold Ey; simp[k1,k2,k3,k4,k5,k6,k7]
   rw[this]; rfl
 ·rintro w ⟨rfl,h⟩;exact⟨⟨fun h=>(by cases h),fun h'=>by rw[h] at h'; cases h'.1⟩,fun h=>(by cases h)⟩
 ·rintro ⟨m,s,a,b,e,g,dk,dn,dm,ds,dl⟩ ⟨hcr,hsl⟩;simp only at hcr hsl ⊢;refine Ex.bind (P:=fun o=>o=!(decide ((c.kids.length:Int)=m)&&AP c ⟨c.kind,a,b,e,g,⟨dk,dn,dm,ds,dl⟩,c.kids⟩)) ?_ ?_
  ·by_cases hm:(c.kids.length:Int)=m
   ·refine .neg (fun h=>h hm) (.bv (UR _ _) (.pure ?_));rw[decide_eq_true hm,Bool.true_and]
   ·refine .pos hm (.pure ?_);rw[decide_eq_false hm]; rfl
  ·rintro o rfl;rw[← Bool.and_assoc] at hcr;cases hq:(decide ((c.kids.length:Int)=m)&&AP c ⟨c.kind,a,b,e,g,⟨dk,dn,dm,ds,dl⟩,c.kids⟩) with
   | false=>
    rw[hq,Bool.false_and] at hcr;exact .pos rfl (.pure ⟨⟨fun h=>(by cases h),fun h'=>by rw[hcr] at h'; cases h'.1⟩,fun h=>(by cases h)⟩)
   | true=>
    rw[hq,Bool.true_and] at hcr;refine .neg (by simp) ?_;have e2:aY (((121-(d+1):Nat):Int)+1)=((121-d:Nat):Int):=by rw[jS (by omega) (by omega)]; omega
    rw[e2];refine Ex.bK (P:=fun o=>match o with
     | .inl w=>w.1=false∧¬(c.kids.all (wJ d s)=true∧Cm c.kids≤L-1)
     | .inr t=>c.kids.all (wJ d s)=true∧Cm c.kids≤L-1∧t=((L-1-Cm c.kids:Nat):Int)) ?_ ?_ ?_
    ·refine Ex.cO (I:=fun i q t=>∃u:Nat,t=(u:Int)∧u≤600∧(c.kids.all (wJ d s)=true∧Cm c.kids≤L-1↔q.all (wJ d s)=true∧Cm q≤u)∧u+Cm c.kids=L-1+Cm q∧∀x∈q,x∈c.kids) ?_ ?_ ?_
     ·exact⟨L-1,by omega,by omega,Iff.rfl,rfl,fun _ h=>h⟩
     ·rintro i x q t ⟨u,rfl,hu,hiff,hsum,hmem⟩;have hx:=hmem x (List.mem_cons_self);refine Ex.bind (YU x d (by omega) s (by have:=yE hx; omega) u hu) ?_;rintro ⟨b,s'⟩ ⟨r1,r2⟩;simp only at r1 r2;cases b with
      | false=>
       refine .pos rfl (.fo ⟨rfl,fun h=>?_⟩);have h':=hiff.1 h;simp only[List.all_cons,Bool.and_eq_true,Cm] at h';have:=r1.2 ⟨h'.1.1,by omega⟩;cases this
      | true=>
       obtain⟨q1,q2⟩:=r1.1 rfl;refine .neg (by simp) (.fg ⟨u-cC x,r2 rfl,by omega,?_,by simp only[Cm] at hsum; omega,fun y hy=>hmem y (List.mem_cons_of_mem _ hy)⟩);rw[hiff];simp only[List.all_cons,Bool.and_eq_true,Cm,q1,true_and];constructor <;> intro h <;> exact⟨h.1,by omega⟩
     ·rintro t ⟨u,rfl,hu,hiff,hsum,_⟩;have h:=hiff.2 ⟨rfl,by simp[Cm]⟩;simp only[Cm] at hsum;exact⟨h.1,h.2,by omega⟩
    ·rintro ⟨b,t⟩ ⟨h1,h2⟩;simp only at h1;subst h1;refine⟨⟨fun h=>(by cases h),fun h=>absurd ⟨hcr▸h.1,by omega⟩ h2⟩,fun h=>(by cases h)⟩
    ·rintro t ⟨h1,h2,h3⟩;exact .pure ⟨⟨fun _=>⟨hcr.trans h1,by omega⟩,fun _=>rfl⟩,fun _=>by simp only; omega⟩
termination_by SizeOf.sizeOf c
decreasing_by exact qL hx
theorem G5 (c:Core) (hw:wC c≤1073741824):fU (fun n=>jh n c) (iV c):=by
 refine Ex.zL ?_;unfold jh;refine Ex.bind (YU c 120 (by omega) [] (by simp; omega) 600 (by omega)) ?_;rintro ⟨b,s⟩ ⟨r1,_⟩;refine .pure ?_;simp only at r1 ⊢;unfold iV;rw[Bool.eq_iff_iff,r1];simp
theorem BF (n:Nat) (l:List Int) (x:Int):nZ n l x=some (decide (x∈l)):=by
 unfold nZ;have:=abL (step:=fun(_:Unit) (_:Nat) (y:Int)=>((if y=x then some (Sum.inl true) else some (Sum.inr ())):Option (Bool⊕Unit))) (p:=fun y=>!decide (y=x)) (no:=true) (f:=fun _=>some false) (xs:=l) (i:=0) (fun i y _=>by by_cases h:y=x <;> simp[h]);rw[this];by_cases h:x∈l
 ·rw[if_neg]
  ·simp[h]
  ·intro hall;rw[List.all_eq_true] at hall;have:=hall x h;simp at this
 ·rw[if_pos]
  ·simp[h]
  ·rw[List.all_eq_true];intro y hy;have:¬y=x:=fun e=>h (e▸hy);simp[this]
theorem Lp (f:Form) (hw:wF f≤1073741824):fU (fun n=>gY n f) (NC f):=by
 have he:=FI f;refine .succ ?_;simp only[gY];rw[aaY,Lj];refine Ex.zL ?_;refine Ex.bind (P:=fun s=>s=f.kids.map NC) ?_ (fun s hs=>.pure (by rw[hs]));refine Ex.dS (I:=fun i q s=>s=(f.kids.take i).map NC∧f.kids.drop i=q) ⟨rfl,rfl⟩ ?_ ?_
 ·rintro i x q s ⟨rfl,hd⟩;obtain⟨g1,g2,g3,g4⟩:=jC hd;have hm:=DX g4;refine .bv (Lp x (by omega)) (.bp _ (dK (by simp; omega)) (.pure ⟨?_,g2⟩));rw[List.take_add_one,g1]; simp
 ·rintro s ⟨rfl,_⟩; simp
termination_by SizeOf.sizeOf f
decreasing_by exact jR g4
theorem ac9 (n:Nat) (k:Int) (m:Nat):xA n k (m:Int)=some (Ey k m):=by
 unfold xA Ey;have a0:decide ((m:Int)=0)=decide (m=0):=by simp only[decide_eq_decide]; omega
 have a1:decide ((m:Int)=1)=decide (m=1):=by simp only[decide_eq_decide]; omega
 have a3:decide ((m:Int)=3)=decide (m=3):=by simp only[decide_eq_decide]; omega
 have a6:decide ((m:Int)≥1)=decide (1≤m):=by simp only[decide_eq_decide]; omega
 rw[a0,a1,a3,a6];by_cases h1:k=1
 ·subst h1; rfl
 by_cases h2:k=2
 ·subst h2; rfl
 by_cases h3:k=3
 ·subst h3; rfl
 by_cases h4:k=4
 ·subst h4; rfl
 simp only[h1,h2,h3,h4,if_false,decide_false,Option.bind_some,Bool.false_eq_true,or_self];by_cases h5:k=5
 ·subst h5; rfl
 by_cases h6:k=6
 ·subst h6; rfl
 by_cases h7:k=7
 ·subst h7; rfl
 simp only[h5,h6,h7,if_false,Option.bind_some]
theorem aa0 (c:Core) (hw:wC c≤1073741824):fU (fun n=>su n c) (SS c):=by
 have he:=DY c;have hn:c.name.length≤JB:=by unfold JB; omega
 refine Ex.zL ?_;unfold su SS;refine Ex.bind (P:=fun o=>o=!(if c.kind=1 then decide (1≤c.id)&&decide (c.id≤999) else decide (c.id=0))) ?_ ?_
 ·by_cases k:c.kind=1
  ·simp only[k,if_true,not_true_eq_false,if_false];by_cases h1:c.id<1
   ·exact .pos h1 (.pure (by rw[decide_eq_false (show ¬1≤c.id by omega)]; rfl))
   ·refine .neg h1 ?_;by_cases h2:c.id>999
    ·exact .pos h2 (.pure (by rw[decide_eq_false (show ¬c.id≤999 by omega)]; simp))
    ·exact .neg h2 (.pure (by rw[decide_eq_true (show c.id≤999 by omega),decide_eq_true (show 1≤c.id by omega)]; rfl))
  ·simp only[k,if_false,not_false_eq_true,if_true];exact .pure (by simp)
 rintro o rfl;cases (if c.kind=1 then decide (1≤c.id)&&decide (c.id≤999) else decide (c.id=0)) with
 | false=>exact .pos rfl (.pure rfl)
 | true=>
 refine .neg (by simp) ?_;simp only[Bool.true_and];refine Ex.bind (P:=fun o=>o=!(if c.kind=2 then nameB c.name else decide (c.name=[]))) ?_ ?_
 ·by_cases k:c.kind=2
  ·simp only[k,if_true,not_true_eq_false,if_false];refine .bv (GY _ hn) ?_;cases nameB c.name with
   | false=>exact .pos rfl (.pure rfl)
   | true=>exact .neg (by simp) (.pure rfl)
  ·simp only[k,if_false,not_false_eq_true,if_true];exact .pure (by simp)
 rintro o rfl;cases (if c.kind=2 then nameB c.name else decide (c.name=[])) with
 | false=>exact .pos rfl (.pure rfl)
 | true=>
 refine .neg (by simp) ?_;simp only[Bool.true_and];refine Ex.bind (P:=fun o=>o=!(if c.kind=3 then decide (0≤c.n)&&decide (c.n≤999) else decide (c.n=0))) ?_ ?_
 ·by_cases k:c.kind=3
  ·simp only[k,if_true,not_true_eq_false,if_false];by_cases h1:c.n<0
   ·exact .pos h1 (.pure (by rw[decide_eq_false (show ¬0≤c.n by omega)]; rfl))
   ·refine .neg h1 ?_;by_cases h2:c.n>999
    ·exact .pos h2 (.pure (by rw[decide_eq_false (show ¬c.n≤999 by omega)]; simp))
    ·exact .neg h2 (.pure (by rw[decide_eq_true (show c.n≤999 by omega),decide_eq_true (show 0≤c.n by omega)]; rfl))
  ·simp only[k,if_false,not_false_eq_true,if_true];exact .pure (by simp)
 rintro o rfl;cases (if c.kind=3 then decide (0≤c.n)&&decide (c.n≤999) else decide (c.n=0)) with
 | false=>exact .pos rfl (.pure rfl)
 | true=>
 refine .neg (by simp) ?_;simp only[Bool.true_and];refine Ex.bind (P:=fun o=>o=!(if c.kind=4 then gU c.data&&EZ c.data else iC c.data zF)) ?_ ?_
 ·by_cases k:c.kind=4
  ·simp only[k,if_true,not_true_eq_false,if_false];refine .bv (GZ _ (Jh _ (by omega)) (by have:=UM c.data; omega)) ?_;cases gU c.data with
   | false=>exact .pos rfl (.pure rfl)
   | true=>
    refine .neg (by simp) (.bv (Lp _ (by omega)) (.bv (y9 _ _) ?_));rw[Qd];cases EZ c.data with
    | false=>exact .pos rfl (.pure rfl)
    | true=>exact .neg (by simp) (.pure rfl)
  ·simp only[k,if_false,not_false_eq_true,if_true];exact .bv (y9 _ _) (.pure rfl)
 rintro o rfl;cases (if c.kind=4 then gU c.data&&EZ c.data else iC c.data zF) with
 | false=>exact .pos rfl (.pure rfl)
 | true=>
 refine .neg (by simp) ?_;simp only[Bool.true_and];refine Ex.bind (P:=fun o=>o=(decide (c.kind=5)||decide (c.ids=[]))) ?_ (fun o ho=>.pure ho);by_cases k:c.kind=5
 ·exact .pos k (.pure (by simp[k]))
 ·refine .neg k (.pure ?_);rw[decide_eq_false k,Bool.false_or,Bool.eq_iff_iff];simp
theorem UY (c:Core) (d:Nat) (hd:d≤120) (sc:List Int) (hw:sc.length+wC c≤1073741824):fU (fun n=>yP n c sc (d:Int)) (wJ d sc c):=by
 have he:=DY c;refine .succ ?_;simp only[yP];refine Ex.zL ?_;by_cases hd0:d=0
 ·subst hd0;simp only[show((0:Nat):Int)=0 from rfl,if_true,Option.bind_some];exact .pure rfl
 obtain⟨d,rfl⟩:∃e,d=e+1:=⟨d-1,by omega⟩
 refine Ex.bind (P:=fun o=>o=!(Ey c.kind c.kids.length&&(SS c&&(!decide (c.kind=1)||decide (c.id∈sc))))) ?_ ?_
 ·refine .neg (by omega) ?_;simp only[ac9,Option.bind_some];cases Ey c.kind c.kids.length with
  | false=>exact .pos rfl (.pure rfl)
  | true=>
   refine .neg (by simp) (.bv (aa0 c (by omega)) ?_);cases SS c with
   | false=>exact .pos rfl (.pure rfl)
   | true=>
    refine .neg (by simp) ?_;by_cases k:c.kind=1
    ·refine .pos k ?_;simp only[BF,Option.bind_some];exact .pure (by simp[k])
    ·exact .neg k (.pure (by simp[k]))
 rintro o rfl;have hq:wJ (d+1) sc c=((Ey c.kind c.kids.length&&(SS c&&(!decide (c.kind=1)||decide (c.id∈sc))))&&(match Gw sc c.ids with
  | none=>false
  | some s=>c.kids.all (wJ d s))):=by simp only[wJ,Bool.and_assoc]
 rw[hq];cases (Ey c.kind c.kids.length&&(SS c&&(!decide (c.kind=1)||decide (c.id∈sc)))) with
 | false=>exact .pos rfl (.pure rfl)
 | true=>
 refine .neg (by simp) ?_;rw[Bool.true_and];refine Ex.bK (P:=fun o=>match o with
  | .inl w=>w=false∧Gw sc c.ids=none
  | .inr s=>Gw sc c.ids=some s) ?_ ?_ ?_
 ·refine Ex.cO (I:=fun i q s=>Gw sc c.ids=Gw s q∧s.length+q.length=sc.length+c.ids.length) ⟨rfl,rfl⟩ ?_ ?_
  ·rintro i x q s ⟨h1,h2⟩;simp only[List.length_cons] at h2;simp only[Gw] at h1;simp only[BF,Option.bind_some];by_cases a1:x<1
   ·simp only[if_pos a1,Option.bind_some,if_true];exact .fo ⟨rfl,by rw[h1,if_neg (fun h=>by have:=h.1.1; omega)]⟩
   rw[if_neg a1];by_cases a2:x>999
   ·simp only[if_pos a2,Option.bind_some,if_true];exact .fo ⟨rfl,by rw[h1,if_neg (fun h=>by have:=h.1.2; omega)]⟩
   rw[if_neg a2];by_cases a3:x∈s
   ·simp only[a3,decide_true,Option.bind_some,if_true];exact .fo ⟨rfl,by rw[h1,if_neg (fun h=>h.2 a3)]⟩
   ·simp only[a3,decide_false,Option.bind_some,Bool.false_eq_true,if_false];refine .bp s (oD (by omega)) (.bp (s++[x]) (dK (by simp; omega)) (.fg ⟨?_,by simp; omega⟩));rw[h1,if_pos ⟨⟨by omega,by omega⟩,a3⟩]
  ·rintro s ⟨h1,_⟩;rw[h1]; rfl
 ·rintro w ⟨rfl,h⟩;rw[h]
 ·intro s hs;have hs:Gw sc c.ids=some s:=hs;rw[hs];have hl:=ND hs;have e2:aY (((d+1:Nat):Int)-1)=(d:Int):=by rw[jS (by omega) (by omega)]; omega
  rw[e2];exact Ex.allI (m:=fun n x=>yP n x s (d:Int)) (p:=wJ d s) (fun x hx=>UY x d (by omega) s (by have:=yE hx; omega)) (fun h=>.pure h.symm) (fun h=>h.symm)
termination_by SizeOf.sizeOf c
decreasing_by exact qL hx
theorem UZ (f:Core) (hw:cC f≤4611686018427387904):fU (fun n=>qN n f) (cC f:Int):=by
 have hc:=F7 f;refine .succ ?_;simp only[qN];rw[hc];refine .bind (a:=((1+Cm f.kids:Nat):Int)) ?_ (.pure _);exact Ex.aaX (b:=1) (c:=cC) (cs:=Cm) rfl (fun _ _=>rfl) (by omega) (fun x hx=>UZ x (by have:=zf hx; omega))
termination_by SizeOf.sizeOf f
decreasing_by exact qL hx
theorem U0 (c:Core) (hw:wC c≤1073741824):fU (fun n=>lY n c) (iV c):=by
 refine Ex.zL ?_;unfold lY iV;refine Ex.bind (P:=fun b=>b=(wJ 120 [] c&&decide (cC c≤600))) ?_ (fun b hb=>.pure hb);refine .bv (UY c 120 (by omega) [] (by simp; omega)) ?_;cases wJ 120 [] c with
 | false=>exact .neg (by simp) (.pure rfl)
 | true=>
  refine .pos rfl (.bv (UZ c (by have:=Qe c; omega)) (.pure ?_));rw[Bool.true_and]; simp only[decide_eq_decide]; omega
theorem NH (f:Form) (hw:wF f≤1000000000):fU (fun n=>jc n f) f:=by
 have he:=FI f;refine .succ ?_;simp only[jc];refine Ex.zL (.bp _ (oD (by omega)) ?_);refine .bv (DZ (m:=fun n x=>jc n x) (be:=80) (by omega) (fun x hx=>NH x (by have:=DX hx; omega))) (.pure (by cases f; rfl))
termination_by SizeOf.sizeOf f
decreasing_by exact jR hx
theorem NI (c:Core) (hw:wC c≤1000000000):fU (fun n=>kG n c) c:=by
 have he:=DY c;refine .succ ?_;simp only[kG];refine Ex.zL (.bp _ (oD (by omega)) (.bv (NH c.data (by omega)) ?_));refine .bv (DZ (m:=fun n x=>kG n x) (be:=168) (by omega) (fun x hx=>NI x (by have:=yE hx; omega))) (.pure (by cases c; rfl))
termination_by SizeOf.sizeOf c
decreasing_by exact qL hx
theorem iY {a:Int} {r:aZ} {B:Int} (h:Gd r B) (hB:1≤B):Ex (fun n=>aO n a r) (fun k=>Sp r k.2 1∧(1≤a→0≤k.1∧k.1<a)):=by
 obtain⟨v,r',h1,h2,h3⟩:=Ux (a:=a) h hB;exact⟨(v,r'),h1,h2,h3⟩
theorem yc {l:List Int} {r:aZ} {B:Int} (hl:1≤l.length) (h:Gd r B) (hB:1≤B):Ex (fun n=>dh n l r) (fun k=>Sp r k.2 1∧k.1∈l):=by
 obtain⟨v,r',h1,h2,h3⟩:=Yg hl h hB;exact⟨(v,r'),h1,h2,h3⟩
theorem aa1 {l:List (List UInt8)} {r:aZ} {B:Int} (hl:1≤l.length) (h:Gd r B) (hB:1≤B):Ex (fun n=>jo n l r) (fun k=>Sp r k.2 1∧k.1∈l):=by
 obtain⟨v,r',h1,h2,h3⟩:=Yg hl h hB;exact⟨(v,r'),h1,h2,h3⟩
theorem SV (b:List UInt8):Ex (fun n=>oM n b) (fun r=>Gd r 1000000000):=by
 unfold oM;by_cases h:(b.length:Int)>2000
 ·have hs:JR b 0 2000=some (b.take 2000):=by
   unfold JR;rw[if_pos ⟨by omega,by omega,by omega⟩]; simp
  refine Ex.bind (P:=fun o=>o.length≤2000) (.pos h (.bp _ hs (.pure (by simp; omega)))) ?_;intro o ho;exact .pure ⟨by show(0:Int)≤0; omega,by show(0:Int)+1000000000≤_; omega,ho⟩
 ·refine Ex.bind (P:=fun o=>o.length≤2000) (.neg h (.pure (by omega))) ?_;intro o ho;exact .pure ⟨by show(0:Int)≤0; omega,by show(0:Int)+1000000000≤_; omega,ho⟩
def bF:Nat→Int
 | 0=>3
 | d+1=>3+3*bF d
theorem YV:∀d,3≤bF d
 | 0=>by simp[bF]
 | d+1=>by have:=YV d; simp only[bF]; omega
def zh:Nat→Form→Prop
 | 0,f=>(f.kind=1∧f.n=0∧f.scopes=[]∧f.kids=[]∧f.name∈([[97],[98],[120],[121],[102],[105,102],[108,101,116],[43]]:List (List UInt8)))∨(f.kind=2∧f.name=[]∧f.scopes=[]∧f.kids=[]∧f.n∈([0,1,2,7,42,999]:List Int))
 | d+1,f=>((f.kind=1∧f.n=0∧f.scopes=[]∧f.kids=[]∧f.name∈([[97],[98],[120],[121],[102],[105,102],[108,101,116],[43]]:List (List UInt8)))∨(f.kind=2∧f.name=[]∧f.scopes=[]∧f.kids=[]∧f.n∈([0,1,2,7,42,999]:List Int)))∨(f.kind=3∧f.name=[]∧f.n=0∧f.scopes=[]∧f.kids.length≤3∧∀x∈f.kids,zh d x)
theorem Qh {d:Nat} {f:Form} (h:zh 0 f):zh d f:=by
 cases d with
 | zero=>exact h
 | succ d=>exact .inl h
theorem U1 {r:aZ} (h:Gd r 2):Ex (fun n=>(aO n 4 r).bind fun k3=>(if k3.1=0 then(dh n [0,1,2,7,42,999] k3.2).bind fun k5=>some ((⟨2,[],k5.1,[],[]⟩:Form),k5.2) else(jo n [[97],[98],[120],[121],[102],[105,102],[108,101,116],[43]] k3.2).bind fun k6=>(fD n k6.1).bind fun k7=>some (k7,k6.2))) (fun k=>Sp r k.2 2∧zh 0 k.1):=by
 refine .bind (iY h (by omega)) fun k3 ⟨s1,_⟩=>?_;refine .ite (fun _=>?_) (fun _=>?_)
 ·refine .bind (yc (by simp) (h.to s1 (D:=1) (by omega)) (by omega)) fun k5 ⟨s2,hm⟩=>.pure ⟨s1.trans s2 (by omega),.inr ⟨rfl,rfl,rfl,rfl,hm⟩⟩
 ·refine .bind (aa1 (by simp) (h.to s1 (D:=1) (by omega)) (by omega)) fun k6 ⟨s2,hm⟩=>?_;unfold fD;exact .pure ⟨s1.trans s2 (by omega),.inl ⟨rfl,rfl,rfl,rfl,hm⟩⟩
theorem U2:∀(d:Nat),d≤10→∀(r:aZ),Gd r (bF d)→Ex (fun n=>mg n (d:Int) r) (fun k=>Sp r k.2 (bF d)∧zh d k.1):=by
 intro d
 induction d with
 | zero=>
  intro _ r h;have h:Gd r 3:=h;refine .succ ?_;simp only[mg];refine Ex.bind (P:=fun o=>o=(true,r)) (.pos rfl (.pure rfl)) ?_;rintro o rfl;exact .pos rfl ((U1 (h.to (.refl (Int.le_refl 0)) (D:=2) (by omega))).mono fun k ⟨a,b⟩=>⟨a.mono (by simp[bF]),b⟩)
 | succ d ih=>
  intro hd r h;have ih:=ih (by omega);have hB:=YV d;have h:Gd r (3+3*bF d):=h;refine .succ ?_;simp only[mg];refine Ex.bind (P:=fun o=>Sp r o.2 1) (.neg (by omega) (.bind (iY h (by omega)) fun k15 ⟨s1,_⟩=>.pure s1)) ?_;rintro ⟨b,r1⟩ s1;have g1:Gd r1 (2+3*bF d):=h.to s1 (by omega);refine .ite (fun _=>?_) (fun _=>?_)
  ·exact(U1 (g1.to (.refl (Int.le_refl 0)) (D:=2) (by omega))).mono fun k ⟨a,b⟩=>⟨s1.trans a (by simp only[bF]; omega),Qh b⟩
  ·refine .bind (iY g1 (by omega)) fun k8 ⟨s2,hc⟩=>?_;obtain⟨hc0,hc1⟩:=hc (by omega);obtain⟨c,r2⟩:=k8;simp only at s2 hc0 hc1 ⊢;have g2:Gd r2 (3*bF d):=g1.to s2 (by omega);have e1:aY (((d+1:Nat):Int)-1)=(d:Int):=by rw[jS (by omega) (by omega)]; omega
   rw[e1];refine Ex.iter (fun s=>s.1.toNat) (fun s=>∃j:Nat,(j:Int)≤c∧s.1=c-j∧Sp r2 ⟨s.2.2.1,s.2.2.2⟩ (j*bF d)∧s.2.1.length=j∧∀x∈s.2.1,zh d x) _ ⟨0,by omega,by simp,by simpa using (Sp.refl (r:=r2) (Int.le_refl 0)),rfl,by simp⟩ ?_;rintro ⟨cnt,l,b,p⟩ ⟨j,j0,j1,j2,j3,j4⟩;simp only at j1 j2 j3 j4 ⊢;have hj:j=0∨j=1∨j=2∨j=3:=by omega
   refine .ite (fun hp=>?_) (fun hp=>?_)
   ·have gj:Gd ⟨b,p⟩ (bF d):=g2.to j2 (by rcases hj with rfl | rfl | rfl | rfl <;> simp <;> omega);refine .bind (ih _ gj) fun k12 ⟨k2,k3⟩=>?_;have e2:aY (cnt-1)=cnt-1:=jS (by omega) (by omega);rw[e2];refine .bp _ (dK (by simp; omega)) (Ex.pure ⟨fun _ e=>(by cases e),fun s' e=>?_⟩);cases e;refine⟨⟨j+1,by omega,by simp only; omega,?_,by simp; omega,?_⟩,by simp only; omega⟩
    ·refine j2.trans (D:=((j+1:Nat):Int)*bF d) k2 ?_;rcases hj with rfl | rfl | rfl | rfl <;> simp <;> omega
    ·intro x hx;rcases List.mem_append.1 hx with h | h
     ·exact j4 x h
     ·rw[List.mem_singleton.1 h]; exact k3
   ·refine Ex.pure ⟨fun w e=>?_,fun s' e=>(by cases e)⟩;cases e;refine⟨?_,.inr ⟨rfl,rfl,rfl,rfl,by simp only; omega,j4⟩⟩;refine s1.trans (s2.trans (j2.mono (C:=3*bF d) ?_) (D:=1+3*bF d) (by omega)) (by simp only[bF]; omega);rcases hj with rfl | rfl | rfl | rfl <;> simp <;> omega
def wD:Nat→Nat
 | 0=>3
 | d+1=>6+3*wD d
theorem YW {w:Nat}:∀{l:List Form},(∀x∈l,wF x≤w)→qg l≤l.length*w
 | [],_=>by simp[qg]
 | x::r,h=>by
  have h1:=h x (List.mem_cons_self);have h2:=YW (l:=r) (fun y hy=>h y (List.mem_cons_of_mem _ hy));simp only[qg,List.length_cons,Nat.succ_mul]; omega
theorem Lr {f:Form} (h:zh 0 f):wF f≤3:=by
 have hw:=FI f;rcases h with ⟨h1,h2,h3,h4,h5⟩ | ⟨h1,h2,h3,h4,h5⟩
 ·rw[h3,h4] at hw;simp only[List.length_nil,qg,Nat.add_zero] at hw;simp only[List.mem_cons,List.not_mem_nil,or_false] at h5;rcases h5 with h | h | h | h | h | h | h | h <;> rw[h] at hw <;> simp at hw <;> omega
 ·rw[h2,h3,h4] at hw;simp[qg] at hw; omega
theorem Jo:∀(d:Nat) {f:Form},zh d f→wF f≤wD d
 | 0,f,h=>Lr h
 | d+1,f,h=>by
  rcases h with h | ⟨h1,h2,h3,h4,h5,h6⟩
  ·have:=Lr (f:=f) h;simp only[wD]; omega
  ·have hw:=FI f;have:=YW (fun x hx=>Jo d (h6 x hx));have:f.kids.length*wD d≤3*wD d:=Nat.mul_le_mul_right _ h5;rw[h2,h4] at hw;simp only[List.length_nil] at hw;simp only[wD]; omega
def YX (sc:List Int) (c:Core):Prop:=
 (∃i,i∈sc∧c=⟨1,i,[],0,[],⟨0,[],0,[],[]⟩,[]⟩)∨(∃f,zh 1 f∧c=⟨4,0,[],0,[],f,[]⟩)∨(∃s,s∈([[102],[43],[108,105,115,116]]:List (List UInt8))∧c=⟨2,0,s,0,[],⟨0,[],0,[],[]⟩,[]⟩)∨(∃i,i∈([0,1,5,42]:List Int)∧c=⟨3,0,[],i,[],⟨0,[],0,[],[]⟩,[]⟩)
theorem U3 {sc:List Int} {c:Core} (h:YX sc c):wC c≤20:=by
 rcases h with ⟨i,_,rfl⟩ | ⟨f,hf,rfl⟩ | ⟨s,hs,rfl⟩ | ⟨i,_,rfl⟩
 ·simp[wC,vJ,wF,qg]
 ·have:=Jo 1 hf;simp only[wD] at this;simp only[wC,vJ,List.length_nil]; omega
 ·simp only[List.mem_cons,List.not_mem_nil,or_false] at hs;rcases hs with rfl | rfl | rfl <;> simp[wC,vJ,wF,qg]
 ·simp[wC,vJ,wF,qg]
theorem U4 {a1:List Int} {a3:Int} {r:aZ} (h:Gd r 19):Ex (fun n=>Option.bind ((if(a1.length:Int)>0 then(aO n 3 r).bind fun k15=>some ((decide (k15.1>0)),k15.2) else some (false,r)):Option (Bool×aZ)) (fun(o3:Bool×aZ)=>(if o3.1=true then(aO n (a1.length:Int) o3.2).bind fun k5=>(gG a1 k5.1).bind fun e6=>some ((⟨1,e6,[],0,[],(⟨0,[],0,[],[]⟩:Form),[]⟩:Core),a3,k5.2) else(aO n 4 o3.2).bind fun k8=>(if k8.1=0 then(mg n 1 k8.2).bind fun k10=>some ((⟨4,0,[],0,[],k10.1,[]⟩:Core),a3,k10.2) else(if k8.1=1 then(jo n [[102],[43],[108,105,115,116]] k8.2).bind fun k12=>some ((⟨2,0,k12.1,0,[],(⟨0,[],0,[],[]⟩:Form),[]⟩:Core),a3,k12.2) else(dh n [0,1,5,42] k8.2).bind fun k13=>some ((⟨3,0,[],k13.1,[],(⟨0,[],0,[],[]⟩:Form),[]⟩:Core),a3,k13.2)))))) (fun k=>Sp r k.2.2 19∧YX a1 k.1):=by
 refine Ex.bind (P:=fun o=>Sp r o.2 1∧(o.1=true→1≤a1.length)) ?_ ?_
 ·refine .ite (fun hl=>.bind (iY h (by omega)) fun k15 ⟨s1,_⟩=>.pure ⟨s1,fun _=>by omega⟩) (fun hl=>.pure ⟨.refl (by omega),fun h=>by cases h⟩)
 rintro ⟨b0,r1⟩ ⟨s1,hb⟩;simp only at s1 hb ⊢;have g1:Gd r1 18:=h.to s1 (by omega);refine .ite (fun hb0=>?_) (fun _=>?_)
 ·have hl:=hb hb0;refine .bind (iY g1 (by omega)) fun k5 ⟨s2,hv⟩=>?_;obtain⟨v0,v1⟩:=hv (by omega);obtain⟨x,hx,hm⟩:=cZ v0 v1;exact .bp x hx (.pure ⟨(s1.trans s2 (D:=2) (by omega)).mono (by omega),.inl ⟨x,hm,rfl⟩⟩)
 ·refine .bind (iY g1 (by omega)) fun k8 ⟨s2,_⟩=>?_;have g2:Gd k8.2 17:=g1.to s2 (by omega);refine .ite (fun _=>?_) (fun _=>.ite (fun _=>?_) (fun _=>?_))
  ·have e34:bF 1=12:=by simp[bF]
   refine .bind (U2 1 (by omega) k8.2 (by rw[e34]; exact⟨g2.1,by have:=g2.2.1; omega,g2.2.2⟩)) fun k10 ⟨s3,hf⟩=>?_;rw[e34] at s3;exact .pure ⟨(s1.trans (s2.trans s3 (D:=13) (by omega)) (D:=14) (by omega)).mono (by omega),.inr (.inl ⟨_,hf,rfl⟩)⟩
  ·refine .bind (aa1 (by simp) g2 (by omega)) fun k12 ⟨s3,hm⟩=>.pure ⟨(s1.trans (s2.trans s3 (D:=2) (by omega)) (D:=3) (by omega)).mono (by omega),.inr (.inr (.inl ⟨_,hm,rfl⟩))⟩
  ·refine .bind (yc (by simp) g2 (by omega)) fun k13 ⟨s3,hm⟩=>.pure ⟨(s1.trans (s2.trans s3 (D:=2) (by omega)) (D:=3) (by omega)).mono (by omega),.inr (.inr (.inr ⟨_,hm,rfl⟩))⟩
def bC:Nat→Int
 | 0=>20
 | d+1=>24+3*bC d
def WI:Nat→Nat
 | 0=>20
 | d+1=>20+3*WI d
theorem YZ:∀d,20≤bC d
 | 0=>by simp[bC]
 | d+1=>by have:=YZ d; simp only[bC]; omega
theorem aa2:∀d,20≤WI d
 | 0=>by simp[WI]
 | d+1=>by simp only[WI]; omega
theorem Y0 {w:Nat}:∀{l:List Core},(∀x∈l,wC x≤w)→vJ l≤l.length*w
 | [],_=>by simp[vJ]
 | x::r,h=>by
  have h1:=h x (List.mem_cons_self);have h2:=Y0 (l:=r) (fun y hy=>h y (List.mem_cons_of_mem _ hy));simp only[vJ,List.length_cons,Nat.succ_mul]; omega
theorem aa3:∀(d:Nat),d≤10→∀(sc:List Int) (last:Int) (r:aZ),sc.length≤1000000-2*d→Gd r (bC d)→Ex (fun n=>qX n sc (d:Int) last r) (fun k=>Sp r k.2.2 (bC d)∧wC k.1≤WI d∧(YX sc k.1∨k.1.kids≠[])):=by
 intro d
 induction d with
 | zero=>
  intro _ sc last r hl h;have h:Gd r 20:=h;refine .succ ?_;simp only[qX];refine Ex.bind (P:=fun o=>o=(true,r)) (.pos rfl (.pure rfl)) ?_;rintro o rfl;exact .pos rfl ((U4 (h.to (.refl (Int.le_refl 0)) (D:=19) (by omega))).mono fun k ⟨a,b⟩=>⟨a.mono (by simp[bC]),U3 b,.inl b⟩)
 | succ d ih=>
  intro hd sc last r hl h;have ih:=ih (by omega);have hB:=YZ d;have hW:=aa2 d;have h:Gd r (24+3*bC d):=h;refine .succ ?_;simp only[qX];refine Ex.bind (P:=fun o=>Sp r o.2 1) (.neg (by omega) (.bind (iY h (by omega)) fun k15 ⟨s1,_⟩=>.pure s1)) ?_;rintro ⟨b,r1⟩ s1;have g1:Gd r1 (23+3*bC d):=h.to s1 (by omega);refine .ite (fun _=>?_) (fun _=>?_)
  ·exact(U4 (g1.to (.refl (Int.le_refl 0)) (D:=19) (by omega))).mono fun k ⟨a,b⟩=>⟨s1.trans a (by simp only[bC]; omega),by have:=U3 b; simp only[WI]; omega,.inl b⟩
  ·refine .bind (yc (by simp) g1 (by omega)) fun k18 ⟨s2,hk⟩=>?_;obtain⟨kd,r2⟩:=k18;simp only at s2 hk ⊢;have g2:Gd r2 (22+3*bC d):=g1.to s2 (by omega);refine Ex.bind (P:=fun o=>Sp r2 ⟨o.2.2.2.2.1,o.2.2.2.2.2⟩ 3∧o.1.length≤sc.length+2∧1≤o.2.2.1∧o.2.2.1≤3∧o.2.2.2.1.length≤2) ?_ ?_
   ·refine .ite (fun _=>?_) (fun _=>.ite (fun _=>?_) (fun _=>?_))
    ·refine .bind (yc (by simp) g2 (by omega)) fun k26 ⟨s3,hm⟩=>?_;obtain⟨c,r3⟩:=k26;simp only at s3 hm ⊢;have hc:0≤c∧c≤2:=by
      simp only[List.mem_cons,List.not_mem_nil,or_false] at hm;rcases hm with rfl | rfl | rfl <;> simp
     have g3:Gd r3 2:=g2.to s3 (by omega);refine Ex.iter (fun s=>s.2.2.1.toNat) (fun s=>∃j:Nat,(j:Int)≤c∧s.2.2.1=c-j∧Sp r3 ⟨s.2.2.2.2.1,s.2.2.2.2.2⟩ j∧s.2.2.2.1.length=j∧s.1.length=sc.length+j) _ ⟨0,by omega,by simp,by simpa using (Sp.refl (r:=r3) (Int.le_refl 0)),rfl,rfl⟩ ?_;rintro ⟨l,ct,cnt,nl,b,p⟩ ⟨j,j0,j1,j2,j3,j4⟩;simp only at j1 j2 j3 j4 ⊢;refine .ite (fun hp=>?_) (fun hp=>?_)
     ·refine .bind (yc (B:=1) (by simp) (g3.to j2 (by omega)) (by omega)) fun k30 ⟨s4,_⟩=>?_;have e2:aY (cnt-1)=cnt-1:=jS (by omega) (by omega);rw[e2];refine .bp _ (dK (by simp; omega)) (.bp _ (oD (by omega)) (.bp _ (dK (by simp; omega)) (Ex.pure ⟨fun _ e=>(by cases e),fun s' e=>?_⟩)));cases e;exact⟨⟨j+1,by omega,by simp only; omega,j2.trans s4 (by omega),by simp; omega,by simp; omega⟩,by simp only; omega⟩
     ·refine Ex.pure ⟨fun w e=>?_,fun s' e=>(by cases e)⟩;cases e;exact⟨s3.trans (j2.mono (C:=2) (by omega)) (by omega),by simp only; omega,by simp,by simp,by simp only; omega⟩
    ·refine .bind (yc (by simp) g2 (by omega)) fun FQ ⟨s3,hm⟩=>?_;have hc:1≤FQ.1∧FQ.1≤3:=by
      have hm:=hm;simp only[List.mem_cons,List.not_mem_nil,or_false] at hm;rcases hm with h | h | h <;> rw[h] <;> simp
     exact .pure ⟨s3.mono (by omega),by simp,hc.1,hc.2,by simp⟩
    ·exact .pure ⟨.refl (by omega),by simp,by simp,by simp,by simp⟩
   ·rintro ⟨l2,ct2,c,nl,b3,p3⟩ ⟨s3,hl2,hc1,hc3,hnl⟩;simp only at s3 hl2 hc1 hc3 hnl ⊢;have g3:Gd ⟨b3,p3⟩ (3*bC d):=g2.to s3 (by omega);have e1:aY (((d+1:Nat):Int)-1)=(d:Int):=by rw[jS (by omega) (by omega)]; omega
    rw[e1];refine Ex.iter (fun s=>(c-s.2.1).toNat) (fun s=>∃j:Nat,(j:Int)≤c∧s.2.1=(j:Int)∧Sp ⟨b3,p3⟩ ⟨s.2.2.2.1,s.2.2.2.2⟩ (j*bC d)∧s.2.2.1.length=j∧∀x∈s.2.2.1,wC x≤WI d) _ ⟨0,by omega,by simp,by simpa using (Sp.refl (r:=⟨b3,p3⟩) (Int.le_refl 0)),rfl,by simp⟩ ?_;rintro ⟨ct,cnt,l,b,p⟩ ⟨j,j0,j1,j2,j3,j4⟩;simp only at j1 j2 j3 j4 ⊢;have hj:j=0∨j=1∨j=2∨j=3:=by omega
    refine .ite (fun hp=>?_) (fun hp=>?_)
    ·have gj:Gd ⟨b,p⟩ (bC d):=g3.to j2 (by rcases hj with rfl | rfl | rfl | rfl <;> simp <;> omega);refine .bind (ih l2 ct _ (by omega) gj) fun k23 ⟨k2,k3,_⟩=>?_;have e2:aY (cnt+1)=cnt+1:=jS (by omega) (by omega);rw[e2];refine .bp _ (dK (by simp; omega)) (Ex.pure ⟨fun _ e=>(by cases e),fun s' e=>?_⟩);cases e;refine⟨⟨j+1,by omega,by simp only; omega,?_,by simp; omega,?_⟩,by simp only; omega⟩
     ·refine j2.trans (D:=((j+1:Nat):Int)*bC d) k2 ?_;rcases hj with rfl | rfl | rfl | rfl <;> simp <;> omega
     ·intro x hx;rcases List.mem_append.1 hx with h | h
      ·exact j4 x h
      ·rw[List.mem_singleton.1 h]; exact k3
    ·refine Ex.pure ⟨fun w e=>?_,fun s' e=>(by cases e)⟩;cases e;have hjc:(j:Int)=c:=by omega
     refine⟨?_,?_,.inr ?_⟩
     ·refine s1.trans (s2.trans (s3.trans (j2.mono (C:=3*bC d) ?_) (D:=3+3*bC d) (by omega)) (D:=4+3*bC d) (by omega)) (by simp only[bC]; omega);rcases hj with rfl | rfl | rfl | rfl <;> simp <;> omega
     ·have:=Y0 j4;have:l.length*WI d≤3*WI d:=Nat.mul_le_mul_right _ (by omega);simp only[wC,wF,qg,WI,List.length_nil]; omega
     ·intro e;simp only at e;rw[e] at j3;simp at j3; omega
theorem Ex.skip {L:Nat} (hL:L≤1000000) {step:Nat→Int→Option (Int⊕Int)} {at_:Nat} (ha:at_≤L) (h1:∀i:Nat,i<L→Ex (fun n=>step n (i:Int)) (fun r=>r=.inr ((i+1:Nat):Int)∨r=.inl (i:Int))) (h2:Ex (fun n=>step n (L:Int)) (fun r=>r=.inl (L:Int))) :
  Ex (fun n=>iterM n (step n) (at_:Int)) (fun r=>∃k:Nat,r=(k:Int)∧at_≤k∧k≤L):=by
 refine Ex.iter (fun s=>L-s.toNat) (fun s=>∃i:Nat,s=(i:Int)∧at_≤i∧i≤L) _ ⟨at_,rfl,Nat.le_refl _,ha⟩ ?_;rintro s ⟨i,rfl,h3,h4⟩;rcases Nat.lt_or_ge i L with h | h
 ·refine(h1 i h).mono ?_;rintro r (rfl | rfl)
  ·exact⟨fun w e=>(by cases e),fun s' e=>by cases e; exact⟨⟨i+1,rfl,by omega,by omega⟩,by simp; omega⟩⟩
  ·exact⟨fun w e=>by cases e; exact⟨i,rfl,h3,h4⟩,fun s' e=>(by cases e)⟩
 ·have:i=L:=by omega
  subst this;refine h2.mono ?_;rintro r rfl;exact⟨fun w e=>by cases e; exact⟨_,rfl,h3,h4⟩,fun s' e=>(by cases e)⟩
theorem Jp (s:List UInt8) (hs:s.length≤1000000) (a:Nat) (ha:a≤s.length):Ex (fun n=>pO n s (a:Int)) (fun r=>∃k:Nat,r=(k:Int)∧a≤k∧k≤s.length):=by
 unfold pO;refine Ex.skip hs ha (fun i hi=>?_) ?_
 ·have hy:=List.getElem?_eq_getElem hi;rw[if_pos (by omega),dX hy];simp only[Option.bind_some];by_cases h:((s[i].toNat:Int)=32)
  ·rw[decide_eq_true h]; exact .pos rfl (.pure (.inl (by rw[ig (by omega)])))
  ·rw[decide_eq_false h]; exact .neg (by simp) (.pure (.inr rfl))
 ·rw[if_neg (by omega)]; simp only[Option.bind_some]; exact .neg (by simp) (.pure rfl)
theorem ada (s:List UInt8) (hs:s.length≤1000000) (a:Nat) (ha:a≤s.length):Ex (fun n=>xU n s (a:Int)) (fun r=>∃k:Nat,r=(k:Int)∧a≤k∧k≤s.length):=by
 unfold xU;refine Ex.skip hs ha (fun i hi=>?_) ?_
 ·have hy:=List.getElem?_eq_getElem hi;rw[if_pos (by omega),dX hy];simp only[Option.bind_some];refine Ex.bind (P:=fun _=>True) (.ite (fun _=>.ite (fun _=>.ite (fun _=>.pure trivial) (fun _=>.pure trivial)) (fun _=>.pure trivial)) (fun _=>.pure trivial)) ?_;intro b _;exact .ite (fun _=>.pure (.inl (by rw[ig (by omega)]))) (fun _=>.pure (.inr rfl))
 ·rw[if_neg (by omega)]; simp only[Option.bind_some]; exact .neg (by simp) (.pure rfl)
theorem G6 {α:Type} {l:List α} {a b:Nat} (h:a≤b) (hb:b≤l.length):JR l (a:Int) (b:Int)=some ((l.drop a).take (b-a)):=by
 unfold JR;rw[if_pos ⟨by omega,by omega,by omega⟩];simp
theorem Y1 (s:List UInt8) (hs:s.length≤1000000):Ex (fun n=>uG n s) (fun r=>r.2=true→s≠[]):=by
 unfold uG;by_cases h0:s=[]
 ·subst h0;simp only[List.length_nil,Option.bind_some];exact .pure (fun h=>by cases h)
 have hl:0<s.length:=List.length_pos_iff.2 h0;refine Ex.mono (Q:=fun _=>True) ?_ (fun _ _ _=>h0);have hy:=List.getElem?_eq_getElem hl;refine Ex.bind (P:=fun b=>b=decide ((s[0].toNat:Int)=45)) (.pos (by omega) (.bp _ (dX (i:=0) hy) (.pure rfl))) ?_;rintro o1 rfl;refine Ex.bind (P:=fun t=>t.length≤1000000) ?_ ?_
 ·refine .ite (fun _=>?_) (fun _=>.pure hs);have:=G6 (l:=s) (a:=1) (b:=s.length) (by omega) (Nat.le_refl _);exact .bp _ this (.pure (by simp; omega))
 intro t ht;refine Ex.bind (P:=fun b=>b=false→0<t.length) ?_ ?_
 ·refine .ite (fun _=>.pure (fun h=>by cases h)) (fun h1=>.ite (fun _=>.pure (fun h=>by cases h)) (fun _=>?_));have ht0:0<t.length:=by omega
  refine .bp _ (dX (i:=0) (List.getElem?_eq_getElem ht0)) ?_;exact .ite (fun _=>.ite (fun _=>.pure (fun h=>by cases h)) (fun _=>.pure fun _=>ht0)) (fun _=>.pure fun _=>ht0)
 intro o3 ho3;refine .ite (fun _=>.pure trivial) (fun h3=>?_);refine Ex.iter (fun s=>t.length-s.2.toNat) (fun s=>∃i:Nat,s.2=(i:Int)∧i≤t.length) _ ⟨0,rfl,Nat.zero_le _⟩ ?_;rintro ⟨k,p⟩ ⟨i,hi,hil⟩;simp only at hi;subst hi;simp only;refine .ite (fun h=>?_) (fun h=>?_)
 ·have hi:i<t.length:=by omega
  have hy:=List.getElem?_eq_getElem hi;rw[dX hy];simp only[Option.bind_some];refine Ex.bind (P:=fun _=>True) (.ite (fun _=>.pure trivial) (fun _=>.pure trivial)) ?_;intro b _;refine .ite (fun _=>.pure ⟨fun _ _=>trivial,fun _ e=>(by cases e)⟩) (fun _=>.pure ⟨fun _ e=>(by cases e),fun s' e=>?_⟩);cases e;exact⟨⟨i+1,by simp only; rw[ig (by omega)],by omega⟩,by simp only; rw[ig (by omega)]; simp; omega⟩
 ·refine Ex.bind (P:=fun _=>True) (.ite (fun _=>.pure trivial) (fun _=>.pure trivial)) ?_;intro b _;exact .pure ⟨fun _ _=>trivial,fun _ e=>(by cases e)⟩
theorem ae1 (s:List UInt8) (hs:s.length≤1000000) (c:Int):Ex (fun n=>xP n s c) (fun r=>r.length≤s.length+1∧∀x∈r,x.length≤s.length):=by
 unfold xP;refine Ex.iter (fun t=>s.length+1-t.2.2.toNat) (fun t=>∃a i:Nat,t.2.1=(a:Int)∧t.2.2=(i:Int)∧a≤i∧i≤s.length+1∧t.1.length≤i∧∀x∈t.1,x.length≤s.length) _ ⟨0,0,rfl,rfl,Nat.le_refl _,by omega,by simp,by simp⟩ ?_;rintro ⟨l,p,q⟩ ⟨a,i,ha,hi,h1,h2,h3,h4⟩;simp only at ha hi h3 h4;subst ha; subst hi;simp only;refine .ite (fun h=>?_) (fun h=>.pure ⟨fun w e=>by cases e; exact⟨by omega,h4⟩,fun _ e=>(by cases e)⟩);have hil:i≤s.length:=by omega
 refine Ex.bind (P:=fun o=>∃a:Nat,o.2=(a:Int)∧a≤i+1∧o.1.length≤i+1∧∀x∈o.1,x.length≤s.length) ?_ ?_
 ·refine Ex.bind (P:=fun _=>True) ?_ ?_
  ·refine .ite (fun _=>.pure trivial) (fun hne=>?_);exact .bp _ (dX (List.getElem?_eq_getElem (by omega))) (.pure trivial)
  intro b _;refine .ite (fun _=>?_) (fun _=>.pure ⟨a,rfl,by omega,by simp only; omega,h4⟩);refine .bp _ (G6 h1 hil) (.bp _ (dK (by simp; omega)) (.pure ⟨i+1,by rw[ig (by omega)],Nat.le_refl _,by simp; omega,?_⟩));intro x hx;rcases List.mem_append.1 hx with hx | hx
  ·exact h4 x hx
  ·rw[List.mem_singleton.1 hx]; simp; omega
 rintro ⟨l',p'⟩ ⟨a',ha',h5,h6,h7⟩;simp only at ha' h6 h7;subst ha';refine .pure ⟨fun _ e=>(by cases e),fun s' e=>?_⟩;cases e;exact⟨⟨a',i+1,rfl,by simp only; rw[ig (by omega)],h5,by omega,h6,h7⟩,by simp only; rw[ig (by omega)]; simp; omega⟩
theorem adb (s:List UInt8) (hs:s.length≤1000000) (a:Nat) (ha:a≤s.length):Ex (fun n=>xQ n s (a:Int)) (fun r=>r.1.length≤25∧(r.2=-1∨∃k:Nat,r.2=(k:Int)∧a≤k∧k≤s.length)):=by
 unfold xQ;refine Ex.bind (P:=fun b=>b=false→∃h:a<s.length,(s[a].toNat:Int)=123) ?_ ?_
 ·refine .ite (fun _=>.pure (fun h=>by cases h)) (fun h=>?_);refine .bp _ (dX (List.getElem?_eq_getElem (by omega))) (.pure (fun hd=>⟨by omega,?_⟩));have:=of_decide_eq_false hd;exact Classical.not_not.1 this
 intro b hb;refine .ite (fun _=>.pure ⟨by simp,.inr ⟨a,rfl,Nat.le_refl _,ha⟩⟩) (fun hb1=>?_);obtain⟨hal,ahg⟩:=hb (by simpa using hb1);have hw1:aY ((a:Int)+1)=((a+1:Nat):Int):=ig (by omega);refine Ex.iter (fun t=>s.length-t.toNat) (fun t=>∃i:Nat,t=(i:Int)∧a≤i∧i≤s.length) _ ⟨a,rfl,Nat.le_refl _,by omega⟩ ?_;rintro t ⟨i,rfl,h1,h2⟩;refine Ex.bind (P:=fun o=>(o=true→i<s.length)∧(o=false→a+1≤i)) ?_ ?_
 ·refine .ite (fun h=>?_) (fun h=>.pure ⟨fun h=>(by cases h),fun _=>by omega⟩);have hi:i<s.length:=by omega
  refine .bp _ (dX (List.getElem?_eq_getElem hi)) (.pure ⟨fun _=>hi,fun hd=>?_⟩);have ae2:(s[i].toNat:Int)=125:=Classical.not_not.1 (of_decide_eq_false hd);rcases Nat.lt_or_eq_of_le h1 with h | h
  ·omega
  ·subst h; rw[ahg] at ae2; cases ae2
 rintro o ⟨o1,o2⟩;refine .ite (fun h=>.pure ⟨fun _ e=>(by cases e),fun s' e=>?_⟩) (fun h=>?_)
 ·cases e;have:=o1 h;exact⟨⟨i+1,by rw[ig (by omega)],by omega,by omega⟩,by rw[ig (by omega)]; simp; omega⟩
 have hai:=o2 (by simpa using h);refine .ite (fun _=>.pure ⟨fun w e=>by cases e; exact⟨by simp,.inl rfl⟩,fun _ e=>(by cases e)⟩) (fun hne=>?_);have hil:i<s.length:=by omega
 rw[hw1];refine .bp _ (G6 hai h2) (.bind (ae1 _ (by simp; omega) 44) fun parts ⟨p1,p2⟩=>?_);have hz:((s.drop (a+1)).take (i-(a+1))).length≤1000000:=by simp; omega
 refine Ex.mono (Q:=fun r:(List Int×Int)⊕Int=>∃w,r=.inl w∧w.1.length≤25∧(w.2=-1∨∃k:Nat,w.2=(k:Int)∧a≤k∧k≤s.length)) ?_ ?_
 ·refine Ex.iter (fun t=>26-t.2.toNat) (fun t=>∃j:Nat,t.2=(j:Int)∧j≤25∧j≤parts.length∧t.1.length≤j) _ ⟨0,rfl,by omega,by omega,by simp⟩ ?_;rintro ⟨l,q⟩ ⟨j,hj,j1,j2,j3⟩;simp only at hj j3;subst hj;simp only;refine Ex.bind (P:=fun o=>o=true→j<parts.length∧j≤24) (.ite (fun h=>.pure fun hd=>⟨by omega,by have:=of_decide_eq_true hd; omega⟩) (fun h=>.pure fun h=>by cases h)) ?_;intro o ho;refine .ite (fun h=>?_) (fun h=>.pure ⟨fun w e=>by cases e; exact⟨_,rfl,by simp only; omega,.inr ⟨i+1,by simp only; rw[ig (by omega)],by omega,by omega⟩⟩,fun _ e=>(by cases e)⟩);obtain⟨hj1,hj2⟩:=ho h;have hmem:parts[j]∈parts:=List.getElem_mem hj1;refine .bp _ (dX (List.getElem?_eq_getElem hj1)) (.bind (Y1 _ (by have:=p2 _ hmem; omega)) fun k15 _=>?_);refine .ite (fun _=>.pure ⟨fun w e=>by cases e; exact⟨_,rfl,by simp only; omega,.inl rfl⟩,fun _ e=>(by cases e)⟩) (fun _=>?_);refine .bp _ (dK (by simp; omega)) (.pure ⟨fun _ e=>(by cases e),fun s' e=>?_⟩);cases e;exact⟨⟨j+1,by simp only; rw[ig (by omega)],by omega,by omega,by simp; omega⟩,by simp only; rw[ig (by omega)]; simp; omega⟩
 ·rintro r ⟨w,rfl,hw⟩;exact⟨fun w' e=>by cases e; exact hw,fun _ e=>(by cases e)⟩
theorem ade (s:List UInt8) (hs:s.length≤1000000) (a:Nat) (ha:a≤s.length):Ex (fun n=>xW n s (a:Int)) (fun r=>r.2=-1∨∃k:Nat,r.2=(k:Int)∧a<k∧k≤s.length∧wF r.1+1≤30*(k-a)):=by
 unfold xW;refine .bind (ada s hs a ha) fun k1 ⟨k,hk,h1,h2⟩=>?_;subst hk;refine .bp _ (G6 h1 h2) (.bind (Y1 _ (by simp; omega)) fun k3 h3=>?_);have hlen:((s.drop a).take (k-a)).length=k-a:=by simp; omega
 have hne:((s.drop a).take (k-a))≠[]→a<k:=fun h=>by
  have:=List.length_pos_iff.2 h;omega
 refine .ite (fun h=>.pure (.inr ⟨k,rfl,hne (h3 h),h2,?_⟩)) (fun _=>.ite (fun _=>.pure (.inl rfl)) (fun h=>?_))
 ·have:=hne (h3 h);simp[wF,qg]; omega
 ·have hak:=hne h;refine .bind (adb s hs k h2) fun k6 ⟨q1,q2⟩=>.pure ?_;rcases q2 with q2 | ⟨m,q2,q3,q4⟩
  ·exact .inl q2
  ·refine .inr ⟨m,q2,by omega,q4,?_⟩;simp only[wF,qg,List.length_nil,hlen]; omega
theorem adf:∀(d:Nat),d≤40→∀(s:List UInt8),s.length≤1000000→∀(a:Nat),a≤s.length→Ex (fun n=>qZ n s (a:Int) (d:Int)) (fun r=>r.2=-1∨∃k:Nat,r.2=(k:Int)∧a<k∧k≤s.length∧wF r.1+1≤30*(k-a)):=by
 intro d
 induction d with
 | zero=>
  intro _ s hs a ha;refine .succ ?_;simp only[qZ];refine .bind (Jp s hs a ha) fun k1 ⟨k,hk,h1,h2⟩=>?_;refine Ex.bind (P:=fun b=>b=true) (.ite (fun _=>.pure rfl) (fun _=>.pure rfl)) ?_;rintro b rfl;exact .pos rfl (.pure (.inl rfl))
 | succ d ih=>
  intro hd s hs a ha;have ih:=ih (by omega) s hs;refine .succ ?_;simp only[qZ];refine .bind (Jp s hs a ha) fun k1 ⟨k,hk,h1,h2⟩=>?_;subst hk;refine Ex.bind (P:=fun b=>b=false→k<s.length) (.ite (fun _=>.pure (fun h=>by cases h)) (fun _=>.pure (fun _=>by omega))) ?_;intro b hb;refine .ite (fun _=>.pure (.inl rfl)) (fun hb1=>?_);have hk:=hb (by simpa using hb1);refine .bp _ (dX (List.getElem?_eq_getElem hk)) ?_;refine .ite (fun _=>?_) (fun _=>?_)
  ·refine .bind (ade s hs k h2) fun k6 h6=>.pure ?_;rcases h6 with h6 | ⟨m,q1,q2,q3,q4⟩
   ·exact .inl h6
   ·exact .inr ⟨m,q1,by omega,q3,by simp only; omega⟩
  ·have hw1:aY ((k:Int)+1)=((k+1:Nat):Int):=ig (by omega);have hw2:aY (((d+1:Nat):Int)-1)=(d:Int):=by rw[jS (by omega) (by omega)]; omega
   rw[hw1,hw2];refine .bind (Jp s hs (k+1) (by omega)) fun k7 ⟨m,hm,q1,q2⟩=>?_;subst hm;refine Ex.iter (fun t=>s.length-t.1.toNat) (fun t=>∃i:Nat,t.1=(i:Int)∧k+1≤i∧i≤s.length∧t.2.length≤400∧qg t.2+t.2.length≤30*(i-(k+1))) _ ⟨m,rfl,q1,q2,by simp,by simp[qg]⟩ ?_;rintro ⟨p,l⟩ ⟨i,hi,i1,i2,i3,i4⟩;simp only at hi i3 i4;subst hi;simp only;refine Ex.bind (P:=fun o=>o=true→i<s.length∧l.length<400) ?_ ?_
   ·refine .ite (fun h=>?_) (fun _=>.pure fun h=>by cases h);refine .bp _ (dX (List.getElem?_eq_getElem (by omega))) ?_;exact .ite (fun _=>.pure fun hd=>⟨by omega,by have:=of_decide_eq_true hd; omega⟩) (fun _=>.pure fun h=>by cases h)
   intro o ho;refine .ite (fun h=>?_) (fun h=>?_)
   ·obtain⟨ho1,ho2⟩:=ho h;refine .bind (ih i i2) fun k12 h12=>?_;rcases h12 with h12 | ⟨j,r1,r2,r3,r4⟩
    ·rw[h12];exact .pos (by omega) (.pure ⟨fun w e=>by cases e; exact .inl rfl,fun _ e=>(by cases e)⟩)
    ·rw[r1];refine .neg (by omega) (.bp _ (dK (by simp; omega)) (.bind (Jp s hs j r3) fun k15 ⟨u,hu,u1,u2⟩=>?_));subst hu;refine .pure ⟨fun _ e=>(by cases e),fun s' e=>?_⟩;cases e;refine⟨⟨u,rfl,by omega,u2,by simp; omega,?_⟩,by simp; omega⟩;have happ:∀(x y:List Form),qg (x++y)=qg x+qg y:=fun x y=>by
      induction x with
      | nil=>simp[qg]
      | cons z x ih=>simp only[List.cons_append,qg,ih]; omega
     simp only[happ,qg,List.length_append,List.length_singleton];omega
   ·refine Ex.bind (P:=fun o=>o=false→i<s.length) ?_ ?_
    ·refine .ite (fun _=>.pure (fun h=>by cases h)) (fun h=>?_);exact .bp _ (dX (List.getElem?_eq_getElem (by omega))) (.pure fun _=>by omega)
    intro o2 ho2;refine .ite (fun _=>.pure ⟨fun w e=>by cases e; exact .inl rfl,fun _ e=>(by cases e)⟩) (fun h2'=>?_);have hi:=ho2 (by simpa using h2');refine .pure ⟨fun w e=>?_,fun _ e=>(by cases e)⟩;cases e;refine .inr ⟨i+1,by simp only; rw[ig (by omega)],by omega,by omega,?_⟩;simp only[wF,List.length_nil]; omega
theorem NJ (s:List UInt8) (hs:s.length≤1000000):Ex (fun n=>oN n s) (fun f=>wF f≤30*s.length):=by
 unfold oN;refine Ex.bind (P:=fun r=>wF r.1≤30*s.length) ?_ (fun r hr=>.pure hr);unfold tY;refine .bind (adf 40 (by omega) s hs 0 (Nat.zero_le _)) fun k1 h1=>?_;refine Ex.bind (P:=fun b=>b=false→wF k1.1≤30*s.length) ?_ ?_
 ·rcases h1 with h1 | ⟨k,q1,q2,q3,q4⟩
  ·rw[h1]; exact .pos (by omega) (.pure fun h=>by cases h)
  ·rw[q1];refine .neg (by omega) (.bind (Jp s hs k q3) fun k5 _=>.ite (fun _=>.pure fun h=>by cases h) (fun _=>?_));have hw:wF k1.1≤30*s.length:=by omega
   exact .bv (GZ k1.1 (Jh _ (by omega)) (by have:=UM k1.1; omega)) (.pure fun _=>hw)
 intro b hb;exact .ite (fun _=>.pure (by simp[wF,qg])) (fun h=>.pure (hb (by simpa using h)))
def b7:Nat→Int
 | 0=>3
 | d+1=>24+3*b7 d
def w7:Nat→Nat
 | 0=>20
 | d+1=>60+3*w7 d
theorem Y2:∀d,3≤b7 d
 | 0=>by simp[b7]
 | d+1=>by have:=Y2 d; simp only[b7]; omega
theorem adg:∀d,20≤w7 d
 | 0=>by simp[w7]
 | d+1=>by simp only[w7]; omega
theorem aa4:∀(d:Nat),d≤10→∀(ns:List (List UInt8)) (r:aZ),1≤ns.length→ns.length≤1000-d→(∀x∈ns,x.length≤20)→Gd r (b7 d)→Ex (fun n=>gu n ns (d:Int) r) (fun k=>Sp r k.2 (b7 d)∧wF k.1≤w7 d):=by
 intro d;have leaf:∀(ns:List (List UInt8)) (r:aZ),1≤ns.length→(∀x∈ns,x.length≤20)→Gd r 2→Ex (fun n=>(aO n 3 r).bind fun k3=>(if k3.1=0 then(dh n [0,1,2,7] k3.2).bind fun k5=>some ((⟨2,[],k5.1,[],[]⟩:Form),k5.2) else(aO n (ns.length:Int) k3.2).bind fun k6=>(gG ns k6.1).bind fun e7=>(fD n e7).bind fun k8=>some (k8,k6.2))) (fun k=>Sp r k.2 2∧wF k.1≤20):=by
  intro ns r h1 h2 g;refine .bind (iY g (by omega)) fun k3 ⟨s1,_⟩=>.ite (fun _=>?_) (fun _=>?_)
  ·refine .bind (yc (by simp) (g.to s1 (D:=1) (by omega)) (by omega)) fun k5 ⟨s2,_⟩=>.pure ⟨s1.trans s2 (by omega),by simp[wF,qg]⟩
  ·refine .bind (iY (g.to s1 (D:=1) (by omega)) (by omega)) fun k6 ⟨s2,hv⟩=>?_;obtain⟨v0,v1⟩:=hv (by omega);obtain⟨x,hx,hm⟩:=cZ v0 v1;unfold fD;exact .bp x hx (.pure ⟨s1.trans s2 (by omega),by have:=h2 x hm; simp[wF,qg]; omega⟩)
 induction d with
 | zero=>
  intro _ ns r h1 _ h2 g;have g:Gd r 3:=g;refine .succ ?_;simp only[gu];refine Ex.bind (P:=fun o=>o=(true,r)) (.pos rfl (.pure rfl)) ?_;rintro o rfl;exact .pos rfl ((leaf ns r h1 h2 (g.to (.refl (Int.le_refl 0)) (by omega))).mono fun k ⟨a,b⟩=>⟨a.mono (by simp[b7]),b⟩)
 | succ d ih=>
  intro hd ns r h1 hl h2 g;have ih:=ih (by omega);have hB:=Y2 d;have hW:=adg d;have g:Gd r (24+3*b7 d):=g;refine .succ ?_;simp only[gu];refine Ex.bind (P:=fun o=>Sp r o.2 1) (.neg (by omega) (.bind (iY g (by omega)) fun k15 ⟨s1,_⟩=>.pure s1)) ?_;rintro ⟨b,r1⟩ s1;have g1:Gd r1 (23+3*b7 d):=g.to s1 (by omega);refine .ite (fun _=>?_) (fun _=>?_)
  ·exact(leaf ns r1 h1 h2 (g1.to (.refl (Int.le_refl 0)) (by omega))).mono fun k ⟨a,b⟩=>⟨s1.trans a (by simp only[b7]; omega),by simp only[w7]; omega⟩
  ·refine .bind (aa1 (by simp) g1 (by omega)) fun k10 ⟨s2,hm⟩=>?_;obtain⟨x,r2⟩:=k10;simp only at s2 hm ⊢;have hx:x.length=1:=by
    simp only[List.mem_cons,List.not_mem_nil,or_false] at hm;rcases hm with rfl | rfl | rfl <;> rfl
   have g2:Gd r2 (22+3*b7 d):=g1.to s2 (by omega);refine .bp _ (oD (by omega)) (.bp _ (dK (by simp; omega)) (.bind (iY g2 (by omega)) fun k13 ⟨s3,_⟩=>?_));obtain⟨v,r3⟩:=k13;simp only at s3 ⊢;have g3:Gd r3 (21+3*b7 d):=g2.to s3 (by omega);have s03:Sp r r3 3:=s1.trans (s2.trans s3 (D:=2) (by omega)) (by omega);have e1:aY (((d+1:Nat):Int)-1)=(d:Int):=by rw[jS (by omega) (by omega)]; omega
   rw[e1];simp only[fD,gQ,Option.bind_some];have h2':∀y∈ns++[x],y.length≤20:=fun y hy=>by
    rcases List.mem_append.1 hy with hy | hy
    ·exact h2 y hy
    ·rw[List.mem_singleton.1 hy]; omega
   have i1:∀r',Gd r' (b7 d)→_:=fun r' gr=>ih ns r' h1 (by omega) h2 gr;have i2:∀r',Gd r' (b7 d)→_:=fun r' gr=>ih (ns++[x]) r' (by simp) (by simp; omega) h2' gr;refine Ex.bind (P:=fun _=>True) (.ite (fun _=>.pure trivial) (fun _=>.pure trivial)) ?_;intro b1 _;refine .ite (fun _=>?_) (fun _=>?_)
   ·refine .bind (i2 r3 (g3.to (.refl (Int.le_refl 0)) (by omega))) fun k19 ⟨t1,u1⟩=>.pure ⟨s03.trans t1 (by simp only[b7]; omega),?_⟩;simp only[wF,qg,w7,List.length_cons,List.length_nil]; omega
   refine Ex.bind (P:=fun _=>True) (.ite (fun _=>.pure trivial) (fun _=>.pure trivial)) ?_;intro b2 _;refine .ite (fun _=>?_) (fun _=>.ite (fun _=>?_) (fun _=>.ite (fun _=>?_) (fun _=>?_)))
   ·refine .bind (i1 r3 (g3.to (.refl (Int.le_refl 0)) (by omega))) fun k24 ⟨t1,u1⟩=>?_;refine .bind (i2 k24.2 (g3.to t1 (by omega))) fun k28 ⟨t2,u2⟩=>.pure ⟨s03.trans (t1.trans t2 (D:=2*b7 d) (by omega)) (by simp only[b7]; omega),?_⟩;simp only[wF,qg,w7,List.length_cons,List.length_nil]; omega
   ·refine .bind (i1 r3 (g3.to (.refl (Int.le_refl 0)) (by omega))) fun k32 ⟨t1,u1⟩=>?_;refine .bind (i1 k32.2 (g3.to t1 (by omega))) fun k33 ⟨t2,u2⟩=>?_;have z:Ex (fun n=>gu n ns 0 k33.2) (fun k=>Sp k33.2 k.2 3∧wF k.1≤20):=by
     have g4:Gd k33.2 3:=(g3.to t1 (D:=21+2*b7 d) (by omega)).to t2 (by omega);refine .succ ?_;simp only[gu];refine Ex.bind (P:=fun o=>o=(true,k33.2)) (.pos trivial (.pure rfl)) ?_;rintro o rfl;exact .pos rfl ((leaf ns k33.2 h1 h2 (g4.to (.refl (Int.le_refl 0)) (by omega))).mono fun k ⟨a,b⟩=>⟨a.mono (by omega),b⟩)
    refine .bind z fun k34 ⟨t3,u3⟩=>.pure ⟨s03.trans (t1.trans (t2.trans t3 (D:=3+b7 d) (by omega)) (D:=3+2*b7 d) (by omega)) (by simp only[b7]; omega),?_⟩;simp only[wF,qg,w7,List.length_cons,List.length_nil]; omega
   ·have e34:bF 1=12:=by simp[bF]
    refine .bind (U2 1 (by omega) r3 (by rw[e34]; exact g3.to (.refl (Int.le_refl 0)) (by omega))) fun k38 ⟨t1,hf⟩=>.pure ⟨s03.trans t1 (by rw[e34]; simp only[b7]; omega),?_⟩;have:=Jo 1 hf;simp only[wD] at this;simp only[wF,qg,w7,List.length_cons,List.length_nil]; omega
   ·refine .bind (i1 r3 (g3.to (.refl (Int.le_refl 0)) (by omega))) fun k40 ⟨t1,u1⟩=>?_;refine .bind (i1 k40.2 (g3.to t1 (by omega))) fun k41 ⟨t2,u2⟩=>.pure ⟨s03.trans (t1.trans t2 (D:=2*b7 d) (by omega)) (by simp only[b7]; omega),?_⟩;simp only[wF,qg,w7,List.length_cons,List.length_nil]; omega
def t7:List (List UInt8):=[nX,nV,nM,nR,nD,nJ,nK,nH,nP,nU,mZ,nG,nT,nN,nS]
theorem adh:∀x∈t7,x.length≤500:=by decide
theorem aa5 (r:aZ) (g:Gd r 100000):Ex (fun n=>xX n r) (fun k=>Sp r k.2 100000∧wF k.1≤100000):=by
 unfold xX yX;refine .bp t7 rfl (.bind (iY g (by omega)) fun k2 ⟨s1,_⟩=>?_);have g1:Gd k2.2 99999:=g.to s1 (by omega);refine .ite (fun _=>?_) (fun _=>?_)
 ·refine .bind (iY g1 (by omega)) fun k4 ⟨s2,hv⟩=>?_;obtain⟨v0,v1⟩:=hv (by decide);obtain⟨x,hx,hm⟩:=cZ v0 v1;have hl:=adh x hm;refine .bp x hx (.bind (NJ x (by omega)) fun k6 hk=>.pure ⟨s1.trans s2 (by omega),by simp only; omega⟩)
 ·refine .bind (yc (by simp) g1 (by omega)) fun k8 ⟨s2,hm⟩=>?_;have g2:Gd k8.2 99998:=g1.to s2 (by omega);obtain⟨d,hd,hk⟩:∃d:Nat,d≤4∧k8.1=(d:Int):=by
   simp only[List.mem_cons,List.not_mem_nil,or_false] at hm;rcases hm with h | h | h
   ·exact⟨4,by omega,h⟩
   ·exact⟨3,by omega,h⟩
   ·exact⟨2,by omega,h⟩
  rw[hk];have hB:b7 d≤10000∧w7 d≤10000:=by
   have:d=0∨d=1∨d=2∨d=3∨d=4:=by omega
   rcases this with rfl | rfl | rfl | rfl | rfl <;> simp[b7,w7]
  refine .bind (aa4 d (by omega) [[43],[108,105,115,116],[103]] k8.2 (by simp) (by simp; omega) (by decide) (g2.to (.refl (Int.le_refl 0)) (by omega))) fun k9 ⟨s3,w3⟩=>?_;have g3:Gd k9.2 80000:=g2.to s3 (by omega);refine .bind (iY g3 (by omega)) fun k10 ⟨s4,_⟩=>?_;refine Ex.bind (P:=fun f=>wF f≤100000) (.ite (fun _=>?_) (fun _=>.pure (by omega))) ?_
  ·have hl:Cb.length≤500:=by decide
   refine .bind (NJ _ (by omega)) fun k13 hk=>?_;have hl2:iI.length≤20:=by decide
   simp only[fD,gQ,Option.bind_some];refine .pure ?_;simp only[wF,qg,List.length_cons,List.length_nil]; omega
  ·intro f hf;exact .pure ⟨s1.trans (s2.trans (s3.trans s4 (D:=10001) (by omega)) (D:=10002) (by omega)) (by omega),hf⟩
theorem Ex.anyI {α ω:Type} {m:Nat→α→Option Bool} {p:α→Bool} {yes:ω} {xs:List α} {f:Nat→Unit→Option ω} {Q:ω→Prop} (h:∀x∈xs,fU (fun n=>m n x) (p x)) (hy:xs.any p=true→Q yes) (hn:xs.any p=false→Ex (fun n=>f n ()) Q) :
  Ex (fun n=>Mx.bK (Mx.cO (fun(_:Unit) (_:Nat) (x:α)=>((m n x).bind fun k=>(if k=true then some (Sum.inl yes) else some (Sum.inr ())):Option (ω⊕Unit))) 0 xs ()) (f n)) Q:=by
 refine Ex.bK (P:=fun o=>match o with
  | .inl w=>w=yes∧xs.any p=true
  | .inr _=>xs.any p=false) ?_ ?_ ?_
 ·refine Ex.cO (I:=fun i q s=>(∀x∈q,x∈xs)∧xs.any p=q.any p) ⟨fun _ h=>h,rfl⟩ ?_ ?_
  ·rintro i x q s ⟨h1,h2⟩;refine .bv (h x (h1 x (List.mem_cons_self))) ?_;cases hp:p x with
   | false=>exact .neg (by simp) (.fg ⟨fun y hy=>h1 y (List.mem_cons_of_mem _ hy),by rw[h2,List.any_cons,hp,Bool.false_or]⟩)
   | true=>exact .pos rfl (.fo ⟨rfl,by rw[h2,List.any_cons,hp,Bool.true_or]⟩)
  ·rintro s ⟨_,h2⟩;exact h2
 ·rintro w ⟨rfl,h⟩; exact hy h
 ·rintro ⟨⟩ h; exact hn h
def Qi {α β:Type} (R:α→β→Prop):List α→List β→Prop
 | [],[]=>True
 | x::xs,y::ys=>R x y∧Qi R xs ys
 | _,_=>False
theorem Qj {α β:Type} {R:α→β→Prop} {x:α} {y:β} (h:R x y):∀{xs:List α} {ys:List β},Qi R xs ys→Qi R (xs++[x]) (ys++[y])
 | [],[],_=>⟨h,trivial⟩
 | a::xs,b::ys,h2=>⟨h2.1,Qj h h2.2⟩
theorem Qk {α β:Type} {R:α→β→Prop}:∀{xs:List α} {ys:List β},Qi R xs ys→xs.length=ys.length
 | [],[],_=>rfl
 | _::_,_::_,h=>by simp[Qk h.2]
theorem Ex.ae4 {α β:Type} {m:Nat→α→Option β} {R:α→β→Prop} {xs:List α} {be:Nat} (hb:xs.length*be≤140737488355328) (h:∀x∈xs,Ex (fun n=>m n x) (R x)) :
  Ex (fun n=>Mx.dS (fun(s:List β) (_:Nat) (x:α)=>(m n x).bind fun k=>(jQ be s [k]).bind fun z=>some z) 0 xs []) (Qi R xs):=by
 refine Ex.dS (I:=fun i q s=>∃p,p++q=xs∧Qi R p s) ⟨[],rfl,trivial⟩ ?_ ?_
 ·rintro i x q s ⟨p,rfl,hr⟩;have hl:=Qk hr;refine .bind (h x (by simp)) fun k hk=>.bp _ (dK ?_) (.pure ⟨p++[x],by simp,Qj hk hr⟩);refine Nat.le_trans (Nat.mul_le_mul_right _ ?_) hb;simp; omega
 ·rintro s ⟨p,hp,hr⟩;rw[List.append_nil] at hp; rw[← hp]; exact hr
mutual
def QM (s:Nat):Form→Prop
 | ⟨_,nm,_,sc,kids⟩=>nm.length≤12∧sc.length≤s∧AQ s kids
def AQ (s:Nat):List Form→Prop
 | []=>True
 | x::r=>QM s x∧AQ s r
end
theorem zi {s:Nat} {f:Form}:QM s f↔f.name.length≤12∧f.scopes.length≤s∧AQ s f.kids:=by cases f; simp only[QM]
theorem sH {s:Nat}:∀{l:List Form},AQ s l↔∀x∈l,QM s x
 | []=>by simp[AQ]
 | x::r=>by simp[AQ,sH (l:=r)]
theorem Y3 {s:Nat} {a b:List Form} (h1:AQ s a) (h2:AQ s b):AQ s (a++b):=sH.2 fun x hx=>(List.mem_append.1 hx).elim (sH.1 h1 x) (sH.1 h2 x)
mutual
theorem abM (s:Nat):∀f:Form,QM s f→wF f+1≤(13+s)*cF f
 | ⟨k,nm,n,sc,kids⟩,h=>by
  simp only[QM] at h;have:=Y4 s kids h.2.2;simp only[wF,cF,Nat.mul_add]; omega
theorem Y4 (s:Nat):∀l:List Form,AQ s l→qg l+l.length≤(13+s)*jV l
 | [],_=>by simp[qg]
 | x::r,h=>by
  have:=abM s x h.1;have:=Y4 s r h.2;simp only[qg,jV,Nat.mul_add,List.length_cons]; omega
end
mutual
theorem Em {s t:Nat} (hs:s≤t):∀f:Form,QM s f→QM t f
 | ⟨k,nm,n,sc,kids⟩,h=>⟨h.1,Nat.le_trans h.2.1 hs,Ls hs kids h.2.2⟩
theorem Ls {s t:Nat} (hs:s≤t):∀l:List Form,AQ s l→AQ t l
 | [],_=>trivial
 | x::r,h=>⟨Em hs x h.1,Ls hs r h.2⟩
end
theorem Wj {s:List UInt8} (h:nameB s=true):s.length≤12:=by
 unfold nameB at h;simp only[Bool.or_eq_true,Bool.and_eq_true,decide_eq_true_eq] at h;rcases h with (rfl | rfl) | ⟨_,_,h⟩
 ·decide
 ·decide
 ·exact h
theorem aa6 {l:List Int} (h:WH l=true):l.length≤24:=by
 unfold WH at h;simp only[Bool.and_eq_true,decide_eq_true_eq] at h;exact h.2
theorem E5 {d:Nat} {f:Form} (h:J8 d f=true):∃e,d=e+1∧f.name.length≤12∧f.scopes.length≤24∧(f.kind=1∨f.kind=2→f.kids=[])∧(f.kind=1∨f.kind=2∨f.kind=3)∧∀x∈f.kids,J8 e x=true:=by
 cases d with
 | zero=>cases h
 | succ e=>
  refine⟨e,rfl,?_⟩;simp only[J8] at h;split at h
  ·rename_i h1;simp only[Bool.and_eq_true,decide_eq_true_eq] at h;have h4:=List.eq_nil_of_length_eq_zero h.2.2.2;exact⟨Wj h.1,aa6 h.2.2.1,fun _=>h4,.inl h1,fun x hx=>by rw[h4] at hx; cases hx⟩
  ·split at h
   ·rename_i h1;simp only[Bool.and_eq_true,decide_eq_true_eq] at h;have h4:=List.eq_nil_of_length_eq_zero h.2.2.2;exact⟨by rw[h.1]; decide,by omega,fun _=>h4,.inr (.inl h1),fun x hx=>by rw[h4] at hx; cases hx⟩
   ·split at h
    ·rename_i h1 h2 h3;simp only[Bool.and_eq_true,decide_eq_true_eq,List.all_eq_true] at h;exact⟨by rw[h.1]; decide,by omega,fun q=>by rcases q with q | q <;> omega,.inr (.inr h3),h.2.2.2⟩
    ·cases h
theorem Y5:∀{d:Nat} {f:Form},J8 d f=true→QM 24 f:=by
 intro d
 induction d with
 | zero=>intro f h; cases h
 | succ d ih=>
  intro f h;obtain⟨e,he,h1,h2,_,_,h5⟩:=E5 h;obtain rfl:d=e:=by omega
  exact zi.2 ⟨h1,h2,sH.2 fun x hx=>ih (h5 x hx)⟩
def zK (f:Form):Prop:=QM 26 f∧cF f≤401
theorem zK.w {f:Form} (h:zK f):wF f≤15638:=by have:=abM 26 f h.1; have:=h.2; omega
theorem zK.ok {f:Form} (h:zK f):okF f:=Jh f (by have:=h.w; omega)
theorem zK.kid {f x:Form} (h:zK f) (hx:x∈f.kids):zK x:=⟨sH.1 (zi.1 h.1).2.2 x hx,by have:=rJ hx; have:=sG f; have:=h.2; omega⟩
theorem BG:∀l:List Form,l.length≤jV l
 | []=>by simp
 | x::r=>by have:=sG x; have:=BG r; simp only[jV,List.length_cons]; omega
theorem zK.len {f:Form} (h:zK f):f.kids.length≤400:=by have:=BG f.kids; have:=sG f; have:=h.2; omega
theorem Y6 {f:Form} (h:gU f=true):zK f∧cF f≤400:=by
 unfold gU at h;simp only[Bool.and_eq_true,decide_eq_true_eq] at h;exact⟨⟨Em (by omega) f (Y5 h.1),by omega⟩,h.2⟩
theorem smZ:zK ⟨0,[],0,[],[]⟩:=⟨by simp[QM,AQ],by simp[cF,jV]⟩
theorem ru {f:Form} (h:zK f):fU (fun n=>bQ n f) (gU f):=GZ f h.ok (by have:=h.2; omega)
theorem NK {f:Form} (h:zK f):fU (fun n=>jc n f) f:=NH f (by have:=h.w; omega)
theorem adi {f:Form} (h:zK f):fU (fun n=>lH n f) (cF f:Int):=Nw f (by have:=h.2; omega)
theorem Y7 (l:List Int) (x:Int) (hl:l.length≤1000000):Ex (fun n=>AA n l x) (fun r=>r.length≤l.length+1):=by
 unfold AA;simp only[BF,Option.bind_some];refine Ex.bind (P:=fun s=>s.1.length≤l.length+1∧(s.2=false→s.1.length≤l.length)) ?_ ?_
 ·refine Ex.dS (I:=fun i q s=>(i+q.length=l.length)∧s.1.length≤i+1∧(s.2=false→s.1.length≤i)) ⟨by simp,by simp,by simp⟩ ?_ ?_
  ·rintro i y q ⟨s,b⟩ ⟨h1,h2,h3⟩;simp only[List.length_cons] at h1 h2 h3 ⊢;refine Ex.bind (P:=fun o=>o=true→b=false) (.ite (fun hb=>.pure fun _=>by simpa using hb) (fun hb=>.pure (by simp))) ?_;intro o ho;refine Ex.bind (P:=fun z=>z.1.length≤i+1∧(z.2=false→z.1.length≤i)) ?_ ?_
   ·refine .ite (fun hc=>.bp _ (dK (by simp; omega)) (.pure ⟨?_,by simp⟩)) (fun _=>.pure ⟨h2,h3⟩);have:=h3 (ho hc);simp; omega
   ·intro z ⟨z1,z2⟩;refine .bp _ (dK (by simp; omega)) (.pure ⟨by omega,by simp; omega,fun hz=>?_⟩);have:=z2 hz;simp; omega
  ·rintro ⟨s,b⟩ ⟨h1,h2,h3⟩; exact⟨h2,h3⟩
 ·rintro ⟨s,b⟩ ⟨h1,h2⟩;simp only at h1 h2 ⊢;refine Ex.bind (P:=fun o=>o.length≤l.length+1) (.ite (fun hb=>.bp _ (dK (by simp; omega)) (.pure ?_)) (fun _=>.pure h1)) (fun o ho=>.pure ho);have:=h2 (by simpa using hb);simp; omega
theorem Wn (l:List Int) (x:Int) (hl:l.length≤1000000):Ex (fun n=>xK n l x) (fun r=>r.length≤l.length):=by
 unfold xK;refine Ex.bind (P:=fun s=>s.length≤l.length) ?_ (fun s hs=>.pure hs);refine Ex.dS (I:=fun i q s=>(i+q.length=l.length)∧s.length≤i) ⟨by simp,by simp⟩ ?_ ?_
 ·rintro i y q s ⟨h1,h2⟩;simp only[List.length_cons] at h1;exact Ex.bind (P:=fun z=>z.length≤i+1) (.ite (fun _=>.bp _ (dK (by simp; omega)) (.pure (by simp; omega))) (fun _=>.pure (by omega))) (fun o ho=>.pure ⟨by omega,ho⟩)
 ·rintro s ⟨h1,h2⟩; exact h2
theorem Ql {l m:List Form} {s:Nat}:∀{l m:List Form},Qi (fun x y=>QM s y∧cF y=cF x∧y.kind=x.kind) l m→AQ s m∧jV m=jV l
 | [],[],_=>⟨trivial,rfl⟩
 | x::l,y::m,h=>by
  obtain⟨h1,h2⟩:=Ql (l:=l) (m:=m) h.2;exact⟨⟨h.1.1,h1⟩,by simp only[jV,h2,h.1.2.1]⟩
theorem Qm (f:Form) (s:Nat) (hs:s≤1000) (ht:QM s f) (hc:cF f≤1000000) (x w:Int):Ex (fun n=>fB n f x w) (fun r=>QM (s+1) r∧cF r=cF f∧r.kind=f.kind):=by
 have he:=sG f;have hl:=BG f.kids;obtain⟨t1,t2,t3⟩:=zi.1 ht;refine .succ ?_;simp only[fB];refine .bp _ (oD (by omega)) ?_;refine Ex.bind (P:=fun o=>o.length≤s+1) ?_ ?_
 ·refine .ite (fun _=>?_) (fun _=>.pure (by omega));refine Ex.bind (P:=fun _=>True) ?_ ?_
  ·refine .ite (fun _=>.pure trivial) (fun _=>.ite (fun _=>?_) (fun _=>.pure trivial));simp only[BF,Option.bind_some]; exact .pure trivial
  ·intro o _;exact .ite (fun _=>.bind (Wn _ _ (by omega)) fun k hk=>.pure (by omega)) (fun _=>.bind (Y7 _ _ (by omega)) fun k hk=>.pure (by omega))
 ·intro o ho;refine .bind (Ex.ae4 (m:=fun n y=>fB n y x w) (R:=fun x y=>QM (s+1) y∧cF y=cF x∧y.kind=x.kind) (by omega) (fun y hy=>Qm y s hs (sH.1 t3 y hy) (by have:=rJ hy; omega) x w)) fun m hm=>.pure ?_;obtain⟨m1,m2⟩:=Ql (l:=f.kids) (m:=m) hm;exact⟨zi.2 ⟨t1,ho,m1⟩,by rw[sG,sG f,m2],rfl⟩
termination_by SizeOf.sizeOf f
decreasing_by exact jR hy
def qx (f:Form):Bool:=decide (f.kind=1)&&decide (f.name=[46,46,46])
theorem En (n:Nat) (f:Form):gq n f=some (qx f):=by
 unfold gq qx;by_cases h:f.kind=1 <;> simp[h]
def inF (ls:List Form) (f:Form):Bool:=ls.any fun x=>iC x f
theorem NM (ls:List Form) (f:Form):fU (fun n=>vZ n ls f) (inF ls f):=by
 refine Ex.zL ?_;unfold vZ;exact Ex.anyI (m:=fun n x=>eY n x f) (p:=fun x=>iC x f) (fun x _=>y9 x f) (fun h=>h.symm) (fun h=>.pure h.symm)
def Wp (ls:List Form) (f:Form):Bool:=decide (f.kind=1)&&(decide (¬f.name=[46,46,46])&&(decide (¬f.name=[95])&&!inF ls f))
theorem U5 (ls:List Form) (f:Form):fU (fun n=>xB n f ls) (Wp ls f):=by
 refine Ex.zL ?_;unfold xB Wp;refine Ex.bind (P:=fun b=>b=(decide (f.kind=1)&&(decide (¬f.name=[46,46,46])&&(decide (¬f.name=[95])&&!inF ls f)))) ?_ (fun b hb=>.pure hb);refine .ite (fun h1=>?_) (fun h1=>.pure (by simp[h1]));refine .ite (fun h2=>?_) (fun h2=>.pure (by simp only[decide_eq_false h2,Bool.and_false,Bool.false_and]));refine .ite (fun h3=>?_) (fun h3=>.pure (by simp only[decide_eq_false h3,Bool.and_false,Bool.false_and]));exact .bv (NM ls f) (.pure (by simp only[decide_eq_true h1,decide_eq_true h2,decide_eq_true h3,Bool.true_and]))
mutual
def JF (ls:List Form):Form→Nat
 | ⟨k,nm,n,sc,kids⟩=>(if Wp ls ⟨k,nm,n,sc,kids⟩=true then 1 else 0)+vM ls kids
def vM (ls:List Form):List Form→Nat
 | []=>0
 | x::r=>JF ls x+vM ls r
end
theorem Jq (ls:List Form) (f:Form):JF ls f=(if Wp ls f=true then 1 else 0)+vM ls f.kids:=by cases f; simp only[JF]
mutual
theorem Dj (ls:List Form):∀f:Form,JF ls f≤cF f
 | ⟨k,nm,n,sc,kids⟩=>by have:=NP ls kids; simp only[JF,cF]; split <;> omega
theorem NP (ls:List Form):∀l:List Form,vM ls l≤jV l
 | []=>by simp[vM]
 | x::r=>by have:=Dj ls x; have:=NP ls r; simp only[vM,jV]; omega
end
theorem G7 (ls:List Form) (p:Form) (o:List Form) (h:o.length+cF p≤1000000):Ex (fun n=>pI n o p ls) (fun r=>r.length=o.length+JF ls p):=by
 have he:=sG p;refine .succ ?_;simp only[pI];refine .bv (U5 ls p) ?_;refine Ex.bind (P:=fun z=>z.length=o.length+(if Wp ls p=true then 1 else 0)) ?_ ?_
 ·refine .ite (fun h1=>.bp _ (dK (by simp; omega)) (.pure (by simp[h1]))) (fun h1=>.pure (by simp[h1]))
 intro z hz;refine Ex.bind (P:=fun s=>s.length=o.length+JF ls p) ?_ (fun s hs=>.pure hs);refine Ex.dS (I:=fun i q s=>s.length+vM ls q=o.length+JF ls p∧s.length+jV q≤1000000∧∀x∈q,x∈p.kids) ⟨by rw[Jq,hz]; omega,by rw[hz]; split <;> omega,fun _ h=>h⟩ ?_ ?_
 ·rintro i x q s ⟨h1,h2,h3⟩;simp only[vM,jV] at h1 h2;have g4:=h3 x (List.mem_cons_self);have hv:=Dj ls x;refine .bind (G7 ls x s (by omega)) fun k hk=>.pure ⟨by omega,by omega,fun y hy=>h3 y (List.mem_cons_of_mem _ hy)⟩
 ·rintro s ⟨h1,_,_⟩
  simpa [vM] using h1
termination_by SizeOf.sizeOf p
decreasing_by exact jR g4
theorem G8 (ls:List Form) (p:Form) (o:List Int) (d:Int) (h:o.length+cF p≤1000000):Ex (fun n=>jK n o p ls d) (fun r=>r.length=o.length+JF ls p):=by
 have he:=sG p;have hk:=BG p.kids;refine .succ ?_;simp only[jK,En];refine .bv (U5 ls p) ?_;refine Ex.bind (P:=fun z=>z.length=o.length+(if Wp ls p=true then 1 else 0)) ?_ ?_
 ·refine .ite (fun h1=>.bp _ (dK (by simp; omega)) (.pure (by simp[h1]))) (fun h1=>.pure (by simp[h1]))
 intro z hz;refine Ex.bind (P:=fun s=>s.length=o.length+JF ls p) ?_ (fun s hs=>.pure hs);refine Ex.dS (I:=fun i q s=>s.length+vM ls q=o.length+JF ls p∧s.length+jV q≤1000000∧p.kids.drop i=q) ⟨by rw[Jq,hz]; omega,by rw[hz]; split <;> omega,rfl⟩ ?_ ?_
 ·rintro i x q s ⟨h1,h2,h3⟩;simp only[vM,jV] at h1 h2;obtain⟨_,g2,g3,g4⟩:=jC h3;have hv:=Dj ls x;refine Ex.bind (P:=fun _=>True) (.ite (fun hc=>?_) (fun _=>.pure trivial)) ?_
  ·obtain⟨y,hy,_⟩:=cZ (l:=p.kids) (i:=((i+1:Nat):Int)) (by omega) hc;exact .bp y hy (.pure trivial)
  intro b _;refine Ex.bind (P:=fun _=>True) (.ite (fun _=>.pure trivial) (fun _=>.pure trivial)) ?_;intro d' _;refine .bind (G8 ls x s d' (by omega)) fun k hk=>.pure ⟨by omega,by omega,g2⟩
 ·rintro s ⟨h1,_,_⟩
  simpa [vM] using h1
termination_by SizeOf.sizeOf p
decreasing_by exact jR g4
theorem U6 {α:Type} {l:List α} {i:Int} (h0:0≤i) (h:i≤(l.length:Int)):∃z,JR l 0 i=some z∧∀x∈z,x∈l:=by
 unfold JR;rw[if_pos (by omega)];exact⟨_,rfl,fun x hx=>List.mem_of_mem_drop (List.mem_of_mem_take hx)⟩
theorem lQ {i:Int} (h0:0≤i) (h:i≤1000000000):aY (i+1)=i+1:=jS (by omega) (by omega)
theorem U7 {i:Int} (h0:0≤i) (h:i≤1000000000):aY (i-1)=i-1:=jS (by omega) (by omega)
def ae5 (b:Bind):Prop:=b.name.length≤12∧b.scopes.length≤26
def NQ (bs:List Bind):Prop:=bs.length≤61∧∀b∈bs,ae5 b
theorem U8 (bs:List Bind) (h:NQ bs):Ex (fun n=>kH n bs) (fun _=>True):=by
 have hl:=h.1;unfold kH;refine Ex.iter (μ:=fun s=>((bs.length:Int)-s).toNat) (I:=fun s=>0≤s∧s≤(bs.length:Int)) 0 ⟨by omega,by omega⟩ ?_;rintro s ⟨h0,h1⟩;refine Ex.bind (P:=fun o=>o=true→s<(bs.length:Int)) (.ite (fun h=>.pure fun _=>h) (fun _=>.pure (by simp))) ?_;intro o ho;refine .ite (fun hc=>?_) (fun _=>.out trivial);have hs:=ho hc;obtain⟨b,hb,hm⟩:=cZ h0 hs;obtain⟨b1,b2⟩:=h.2 b hm;refine Ex.bind (P:=fun _=>True) ?_ ?_
 ·exact .bp b hb (.bv (GY _ (by unfold JB; omega)) (.ite (fun _=>.pure trivial) (fun _=>.bv (Nv _ (by unfold JB; omega)) (.ite (fun _=>.pure trivial) (fun _=>.ite (fun _=>.pure trivial) (fun _=>.pure trivial))))))
 intro o5 _;refine .ite (fun _=>.out trivial) (fun _=>?_);refine Ex.iter (μ:=fun s7=>(s-s7).toNat) (I:=fun s7=>0≤s7∧s7≤s) 0 ⟨by omega,by omega⟩ ?_;rintro t ⟨t0,t1⟩;refine .ite (fun ht=>?_) (fun _=>.out ⟨fun _ _=>trivial,fun s' e=>?_⟩)
 ·obtain⟨c,hc',hm'⟩:=cZ t0 (Int.lt_trans ht hs);refine Ex.bind (P:=fun _=>True) (.bp c hc' (.bp b hb (.ite (fun _=>.bv (Jk _ _) (.pure trivial)) (fun _=>.pure trivial)))) ?_;intro jI _;exact .ite (fun _=>.out ⟨fun _ _=>trivial,fun s' e=>by cases e⟩) (fun _=>.go (by rw[lQ (by omega) (by omega)]; omega) (by rw[lQ (by omega) (by omega)]; omega))
 ·cases e;rw[lQ (by omega) (by omega)]; omega
theorem Y8 (bs:List Bind) (h:NQ bs):Ex (fun n=>kC n bs) (fun _=>True):=by
 have hl:=h.1;unfold kC;refine Ex.iter (μ:=fun s=>((bs.length:Int)-s).toNat) (I:=fun s=>0≤s∧s≤(bs.length:Int)) 0 ⟨by omega,by omega⟩ ?_;rintro s ⟨h0,h1⟩;refine Ex.bind (P:=fun o=>o=true→s<(bs.length:Int)) (.ite (fun h=>.pure fun _=>h) (fun _=>.pure (by simp))) ?_;intro o ho;refine .ite (fun hc=>?_) (fun _=>.out trivial);have hs:=ho hc;have hv:s.toNat<bs.length:=by omega
 have hb:=List.getElem?_eq_getElem hv;obtain⟨b1,b2⟩:=h.2 _ (List.getElem_mem hv);have hi:=ER (n:=bs.length) h0 hv;refine Ex.bind (P:=fun _=>True) ?_ ?_
 ·exact .bp () hi (.bp _ hb (.bv (GY _ (by unfold JB; omega)) (.ite (fun _=>.pure trivial) (fun _=>.bp () hi (.bv (Nv _ (by unfold JB; omega)) (.ite (fun _=>.pure trivial) (fun _=>.bp () hi (.ite (fun _=>.pure trivial) (fun _=>.bp () hi (.pure trivial))))))))))
 intro o5 _;refine .ite (fun _=>.out trivial) (fun _=>?_);refine Ex.iter (μ:=fun s7=>(s-s7).toNat) (I:=fun s7=>0≤s7∧s7≤s) 0 ⟨by omega,by omega⟩ ?_;rintro t ⟨t0,t1⟩;refine .ite (fun ht=>?_) (fun _=>.out ⟨fun _ _=>trivial,fun s' e=>?_⟩)
 ·have hv':t.toNat<bs.length:=by omega
  have hb':=List.getElem?_eq_getElem hv';have hi':=ER (n:=bs.length) t0 hv';refine Ex.bind (P:=fun _=>True) (.bp () hi' (.bp _ hb' (.bp () hi (.bp _ hb (.ite (fun _=>.bp () hi' (.bp () hi (.bv (Jk _ _) (.pure trivial)))) (fun _=>.pure trivial)))))) ?_;intro jI _;exact .ite (fun _=>.out ⟨fun _ _=>trivial,fun s' e=>by cases e⟩) (fun _=>.go (by rw[lQ (by omega) (by omega)]; omega) (by rw[lQ (by omega) (by omega)]; omega))
 ·cases e;rw[lQ (by omega) (by omega)]; omega
theorem U9 (a b:List Int):fU (fun n=>jd n a b) (a.all fun x=>decide (x∈b)):=by
 refine Ex.zL ?_;unfold jd;exact Ex.allI (m:=fun n x=>nZ n b x) (p:=fun x=>decide (x∈b)) (fun x _=>⟨0,fun n _=>BF n b x⟩) (fun h=>.pure h.symm) (fun h=>h.symm)
theorem adk (bs:List Bind) (hl:bs.length≤1000000) (f:Form):Ex (fun n=>qp n bs f) (fun r=>∀i∈r,0≤i∧i<(bs.length:Int)):=by
 unfold qp;refine Ex.bind (P:=fun r=>∀i∈r,0≤i∧i<(bs.length:Int)) ?_ (fun s hs=>.pure hs);refine Ex.dS (I:=fun i q s=>(i+q.length=bs.length)∧s.length≤i∧∀j∈s,0≤j∧j<(bs.length:Int)) ⟨by simp,by simp,by simp⟩ ?_ (fun s h=>h.2.2);rintro i b q s ⟨h1,h2,h3⟩;simp only[List.length_cons] at h1;refine Ex.bind (P:=fun s=>s.length≤i+1∧∀j∈s,0≤j∧j<(bs.length:Int)) ?_ (fun s hs=>.pure ⟨by omega,hs⟩);refine Ex.bind (P:=fun _=>True) (.ite (fun _=>.bv (U9 _ _) (.pure trivial)) (fun _=>.pure trivial)) ?_;intro o _;refine .ite (fun _=>.bp _ (dK (by simp; omega)) (.pure ⟨by simp; omega,fun j hj=>?_⟩)) (fun _=>.pure ⟨by omega,h3⟩);rcases List.mem_append.1 hj with hj | hj
 ·exact h3 j hj
 ·rw[List.mem_singleton.1 hj]; omega
theorem NR (bs:List Bind) (hl:bs.length≤1000000) (f:Form):Ex (fun n=>qO n bs f) (fun r=>r.2=0∨r.2=2∨0≤r.1∧r.1<(bs.length:Int)):=by
 unfold qO;refine .bind (adk bs hl f) fun k hk=>?_;refine Ex.bK (P:=fun o=>match o with
  | .inl w=>0≤w.1∧w.1<(bs.length:Int)
  | .inr _=>True) ?_ (fun w h=>.inr (.inr h)) (fun _ _=>.ite (fun _=>.pure (.inr (.inl rfl))) (fun _=>.pure (.inl rfl)))
 refine Ex.cO (I:=fun i q s=>∀x∈q,x∈k) (fun _ h=>h) ?_ (fun _ _=>trivial);intro i x q s h;have hx:=hk x (h x List.mem_cons_self);obtain⟨b,hb,_⟩:=cZ hx.1 hx.2;refine Ex.bind (P:=fun _=>True) ?_ (fun o _=>.ite (fun _=>.fo hx) (fun _=>.fg fun y hy=>h y (List.mem_cons_of_mem _ hy)));refine Ex.dS (I:=fun i q s=>∀x∈q,x∈k) (fun _ h=>h) ?_ (fun _ _=>trivial);intro j y q' s' h';have hy:=hk y (h' y List.mem_cons_self);obtain⟨c,hc,_⟩:=cZ hy.1 hy.2;exact Ex.bind (P:=fun _=>True) (.ite (fun _=>.bp c hc (.bp b hb (.bv (U9 _ _) (.pure trivial)))) (fun _=>.pure trivial)) (fun o _=>.pure fun z hz=>h' z (List.mem_cons_of_mem _ hz))
theorem Y9 (bs:List Bind) (hl:bs.length≤1000000) (f g:Form):Ex (fun n=>xE n bs f g) (fun _=>True):=by
 unfold xE;refine .bind (NR bs hl f) fun k1 h1=>.bind (NR bs hl g) fun k2 h2=>?_;refine Ex.bind (P:=fun o=>o=false→k1.2=k2.2∧¬k1.2=2) (.ite (fun h=>.pure (by simp)) (fun h=>.pure fun e=>⟨by simpa using h,by simpa using e⟩)) ?_;intro o ho;refine .ite (fun _=>.pure trivial) (fun hc=>.ite (fun _=>.pure trivial) (fun hz=>?_));obtain⟨g1,g2⟩:=ho (by simpa using hc);have p1:0≤k1.1∧k1.1<(bs.length:Int):=h1.elim (fun h=>absurd h hz) (fun h=>h.elim (fun h=>absurd h g2) id);have p2:0≤k2.1∧k2.1<(bs.length:Int):=h2.elim (fun h=>absurd (g1.trans h) hz) (fun h=>h.elim (fun h=>absurd (g1.trans h) g2) id);obtain⟨b,hb,_⟩:=cZ p1.1 p1.2;obtain⟨c,hc,_⟩:=cZ p2.1 p2.2;exact .bp b hb (.bp c hc (.pure trivial))
theorem Za (f:Form) (h:zK f):Ex (fun n=>BA n f) (fun _=>True):=by
 unfold BA;exact Ex.bind (P:=fun _=>True) (.ite (fun _=>.bv (ru h) (.pure trivial)) (fun _=>.pure trivial)) (fun o _=>.pure trivial)
theorem Wq (bs:List Bind) (h:NQ bs):fU (fun n=>qU n bs) bs:=by
 have hl:=h.1;refine Ex.zL ?_;unfold qU;refine Ex.bind (P:=fun s=>s=bs) ?_ (fun s hs=>.pure hs);refine Ex.dS (I:=fun i q s=>s=bs.take i∧bs.drop i=q) ⟨rfl,rfl⟩ ?_ ?_
 ·rintro i x q s ⟨rfl,hd⟩;obtain⟨g1,g2,g3,g4⟩:=jC hd;have:=(h.2 x g4).2;refine .bp _ (oD (by omega)) (.bp _ (dK (by simp; omega)) (.pure ⟨?_,g2⟩));rw[List.take_add_one,g1]; cases x; rfl
 ·rintro s ⟨rfl,_⟩; simp
theorem aa7 (bs:List Bind) (h:NQ bs) (hl:bs.length<60) (f:Form) (hf:zK f) (id:Int):Ex (fun n=>vC n bs f id) (fun r=>r.2=true→NQ r.1∧r.1.length=bs.length+1):=by
 unfold vC;obtain⟨f1,f2,_⟩:=zi.1 hf.1;refine Ex.bind (P:=fun _=>True) (.bind (U8 bs h) fun k _=>.ite (fun _=>.pure trivial) (fun _=>.bind (Za f hf) fun k _=>.pure trivial)) ?_;intro o _;refine .ite (fun _=>.pure (by simp)) (fun _=>.bv (Wq bs h) (.bp _ (oD (by omega)) (.bp _ (dK (by simp; omega)) ?_)));have hn:NQ (bs++[(⟨f.name,f.scopes,id⟩:Bind)]):=⟨by simp; omega,fun b hb=>by
  rcases List.mem_append.1 hb with hb | hb
  ·exact h.2 b hb
  ·rw[List.mem_singleton.1 hb]; exact⟨f1,f2⟩⟩
 exact .bind (Y8 _ hn) fun k _=>.ite (fun _=>.pure (by simp)) (fun _=>.pure fun _=>⟨hn,by simp⟩)
def NS (ls:List Form):Prop:=ls.length≤1000∧∀x∈ls,zK x
theorem Va (ls:List Form) (h:NS ls):Ex (fun n=>kJ n ls) (fun _=>True):=by
 have hl:=h.1;unfold kJ;refine Ex.iter (μ:=fun s=>((ls.length:Int)-s).toNat) (I:=fun s=>0≤s∧s≤(ls.length:Int)) 0 ⟨by omega,by omega⟩ ?_;rintro s ⟨h0,h1⟩;refine Ex.bind (P:=fun o=>o=true→s<(ls.length:Int)) (.ite (fun h=>.pure fun _=>h) (fun _=>.pure (by simp))) ?_;intro o ho;refine .ite (fun hc=>?_) (fun _=>.out trivial);have hs:=ho hc;obtain⟨b,hb,hm⟩:=cZ h0 hs;obtain⟨z,hz,_⟩:=U6 h0 h1;refine Ex.bind (P:=fun _=>True) ?_ ?_
 ·exact .bp b hb (.bind (Za b (h.2 b hm)) fun k _=>.ite (fun _=>.pure trivial) (fun _=>.ite (fun _=>.pure trivial) (fun _=>.ite (fun _=>.pure trivial) (fun _=>.bp z hz (.bv (NM _ _) (.pure trivial))))))
 intro o5 _;exact .ite (fun _=>.out trivial) (fun _=>.go (by rw[lQ (by omega) (by omega)]; omega) (by rw[lQ (by omega) (by omega)]; omega))
mutual
def WJ:Form→Prop
 | ⟨k,nm,n,sc,kids⟩=>qx ⟨k,nm,n,sc,kids⟩=false∧Ws kids∧(∀x,kids.head? = some x→qx x=false)∧kids.countP qx≤1
def Ws:List Form→Prop
 | []=>True
 | x::r=>(qx x=false→WJ x)∧Ws r
end
theorem Zb {f:Form}:WJ f↔qx f=false∧Ws f.kids∧(∀x,f.kids.head? = some x→qx x=false)∧f.kids.countP qx≤1:=by cases f; simp only[WJ]
theorem Jr:∀{l:List Form},Ws l↔∀x∈l,qx x=false→WJ x
 | []=>by simp[Ws]
 | x::r=>by simp[Ws,Jr (l:=r)]
theorem Qn (f:Form) (hf:zK f):Ex (fun n=>qP n f) (fun r=>r=true→WJ f):=by
 have hl:=hf.len;refine .succ ?_;simp only[qP,En,Option.bind_some];refine .ite (fun _=>.pure (by simp)) (fun hd=>?_);refine Ex.bK (Q:=fun r=>r=true→WJ f) (P:=fun(o:Bool⊕Int)=>match o with
  | .inl w=>w=false
  | .inr s=>s≤1→WJ f) ?_ (fun w h=>by have h:w=false:=h; simp[h]) (fun s h=>Ex.pure (v:=decide (s≤1)) fun e=>h (by simpa using e))
 refine Ex.cO (I:=fun i q s=>∃p,p++q=f.kids∧i=p.length∧s=((p.countP qx:Nat):Int)∧(∀x∈p,qx x=false→WJ x)∧(∀x,p.head? = some x→qx x=false)) ⟨[],rfl,rfl,rfl,by simp,by simp⟩ ?_ ?_
 ·rintro i x q s ⟨p,hp,rfl,rfl,h3,h4⟩;have hx:x∈f.kids:=by rw[← hp]; simp
  have hlen:p.length+(q.length+1)=f.kids.length:=by rw[← hp]; simp
  have hc:=List.countP_le_length (p:=qx) (l:=p);have hp':(p++[x])++q=f.kids:=by rw[← hp]; simp
  have tail:∀{R:Bool⊕Int→Prop} {g:Nat→Option ((Bool⊕Int)⊕Int)},Ex g (fun r=>(r=.inl (.inl false)∧R (.inl false))∨∃s,r=.inr s∧R (.inr s))→Ex (fun n=>Mx.bK (g n) (fun s=>some (.inr s))) R:=fun h=>by
   refine Ex.bK h (fun w hw=>?_) (fun t ht=>?_)
   ·rcases hw with ⟨e,h⟩ | ⟨s,e,_⟩
    ·cases e; exact h
    ·cases e
   ·rcases ht with ⟨e,_⟩ | ⟨s,e,h⟩
    ·cases e
    ·cases e; exact .pure h
  refine tail ?_;refine .ite (fun Lu=>?_) (fun Lu=>?_)
  ·refine Ex.bind (P:=fun o=>o=false→0<p.length) (.ite (fun _=>.pure (by simp)) (fun h0=>?_)) ?_
   ·obtain⟨y,hy,_⟩:=cZ (l:=f.kids) (i:=(p.length:Int)-1) (by omega) (by omega);rw[U7 (by omega) (by omega)];exact .bp y hy (.pure fun _=>by omega)
   ·intro o ho;refine .ite (fun _=>.pure (.inl ⟨rfl,fun w e=>by cases e; rfl,fun s' e=>by cases e⟩)) (fun hc'=>.pure (.inr ⟨_,rfl,fun w e=>by(cases e),fun s' e=>?_⟩));cases e;have hpos:=ho (by simpa using hc');refine⟨p++[x],hp',by simp,?_,?_,?_⟩
    ·rw[lQ (by omega) (by omega),List.countP_append]; simp[Lu]
    ·intro y hy hdy;rcases List.mem_append.1 hy with hy | hy
     ·exact h3 y hy hdy
     ·rw[List.mem_singleton.1 hy,Lu] at hdy; cases hdy
    ·intro y hy;cases p with
     | nil=>simp at hpos
     | cons a p=>exact h4 y (by simpa using hy)
  ·refine .bind (Qn x (hf.kid hx)) fun k hk=>?_;refine .ite (fun _=>.pure (.inl ⟨rfl,fun w e=>by cases e; rfl,fun s' e=>by cases e⟩)) (fun hc'=>.pure (.inr ⟨_,rfl,fun w e=>by(cases e),fun s' e=>?_⟩));cases e;have hkx:=hk (by simpa using hc');refine⟨p++[x],hp',by simp,?_,?_,?_⟩
   ·rw[List.countP_append]; simp[Lu]
   ·intro y hy hdy;rcases List.mem_append.1 hy with hy | hy
    ·exact h3 y hy hdy
    ·rw[List.mem_singleton.1 hy]; exact hkx
   ·intro y hy;cases p with
    | nil=>simp at hy; rw[← hy]; simpa using Lu
    | cons a p=>exact h4 y (by simpa using hy)
 ·rintro s ⟨p,hp,_,rfl,h3,h4⟩ hs;rw[List.append_nil] at hp;subst hp;exact Zb.2 ⟨by simpa using hd,Jr.2 h3,h4,by omega⟩
termination_by SizeOf.sizeOf f
decreasing_by exact jR hx
theorem adl (f:Form) (hf:zK f) (ls:List Form) (h:NS ls):Ex (fun n=>Ec n f ls) (fun r=>r=true→gU f=true∧WJ f):=by
 have hc:=hf.2;have hvl:=Dj ls f;unfold Ec;refine Ex.bind (P:=fun o=>o=false→gU f=true∧WJ f) ?_ ?_
 ·refine .bv (ru hf) (.ite (fun _=>.pure (by simp)) (fun h1=>.bind (Va ls h) fun k _=>.ite (fun _=>.pure (by simp)) (fun _=>.bind (Qn f hf) fun k hk=>.pure fun e=>⟨by simpa using h1,hk (by simpa using e)⟩)))
 intro o ho;refine .ite (fun _=>.pure (by simp)) (fun hc'=>?_);have hgood:=ho (by simpa using hc');refine .bind (G7 ls f [] (by simp; omega)) fun k3 hk3=>?_;refine Ex.bK (P:=fun _=>True) ?_ (fun _ _ _=>hgood) ?_
 ·refine Ex.cO (I:=fun i q s=>k3.drop i=q) rfl ?_ (fun _ _=>trivial);intro i x q s hd;obtain⟨_,g2,g3,_⟩:=jC hd;obtain⟨z,hz,_⟩:=U6 (l:=k3) (i:=(i:Int)) (by omega) (by omega);exact .bp z hz (.bv (NM _ _) (.ite (fun _=>.fo trivial) (fun _=>.fg g2)))
 intro _ _;refine .bind (G8 ls f [] 0 (by simp; omega)) fun k16 _=>?_;refine Ex.bK (P:=fun _=>True) ?_ (fun _ _ _=>hgood) (fun _ _=>.pure fun _=>hgood);exact Ex.cO (I:=fun _ _ _=>True) trivial (fun i x q s _=>.ite (fun _=>.fo trivial) (fun _=>.fg trivial)) (fun _ _=>trivial)
theorem Qo (hs:List iH) (f:Form):Ex (fun n=>uw n hs f) (fun r=>r=-1∨0≤r∧r<(hs.length:Int)):=by
 unfold uw;refine Ex.bK (P:=fun o=>match o with
  | .inl w=>0≤w∧w<(hs.length:Int)
  | .inr _=>True) ?_ (fun w h=>.inr h) (fun _ _=>.pure (.inl rfl))
 refine Ex.cO (I:=fun i q s=>hs.drop i=q) rfl ?_ (fun _ _=>trivial);intro i x q s hd;obtain⟨_,g2,g3,_⟩:=jC hd;exact .bv (y9 _ _) (.ite (fun _=>.fo ⟨by omega,by omega⟩) (fun _=>.fg g2))
theorem LC (hs:List iH) (f:Form):Ex (fun n=>qQ n hs f) (fun _=>True):=by
 unfold qQ;refine .ite (fun _=>.pure trivial) (fun _=>.bind (Qo hs f) fun k hk=>.ite (fun _=>.pure trivial) (fun hn=>?_));obtain⟨h,hh,_⟩:=cZ (l:=hs) (i:=k) (by omega) (by omega);exact .bp h hh (.pure trivial)
theorem Zc (hs:List iH) (h:hs.length≤1000000):Ex (fun n=>xI n hs) (fun r=>r.length=hs.length):=by
 unfold xI;refine Ex.bind (P:=fun s=>s.length=hs.length) ?_ (fun s hs=>.pure hs);refine Ex.dS (I:=fun i q s=>i+q.length=hs.length∧s.length=i) ⟨by simp,rfl⟩ ?_ (fun s h=>h.2);rintro i x q s ⟨h1,h2⟩;simp only[List.length_cons] at h1;exact Ex.bind (P:=fun _=>True) (.ite (fun _=>.pure trivial) (fun _=>.pure trivial)) (fun o _=>.bp _ (dK (by simp; omega)) (.pure ⟨by omega,by simp; omega⟩))
theorem Qp (hs:List iH) (f:Form):Ex (fun n=>uy n hs f) (fun _=>True):=by
 refine .succ ?_;simp only[uy];refine .bind (LC hs f) fun k _=>.ite (fun _=>.pure trivial) (fun _=>?_);refine Ex.bK (P:=fun _=>True) ?_ (fun _ _=>trivial) (fun _ _=>.pure trivial);refine Ex.cO (I:=fun i q s=>∀x∈q,x∈f.kids) (fun _ h=>h) ?_ (fun _ _=>trivial);intro i x q s h;have hx:=h x List.mem_cons_self;exact .bind (Qp hs x) fun k _=>.ite (fun _=>.fo trivial) (fun _=>.fg fun y hy=>h y (List.mem_cons_of_mem _ hy))
termination_by SizeOf.sizeOf f
decreasing_by exact jR hx
theorem SX (f:Form) (hf:zK f) (hs:List iH) (h:hs.length≤1000000):Ex (fun n=>yR n f hs) (fun _=>True):=by
 have hl:=hf.len;refine .succ ?_;simp only[yR,En,Option.bind_some];refine Ex.bind (P:=fun _=>True) (.ite (fun _=>.pure trivial) (fun _=>.bind (LC hs f) fun k _=>.pure trivial)) ?_;intro o _;refine .ite (fun _=>.pure trivial) (fun _=>?_);refine Ex.bK (P:=fun _=>True) ?_ (fun _ _=>trivial) (fun _ _=>.pure trivial);refine Ex.cO (I:=fun i q s=>f.kids.drop i=q) rfl ?_ (fun _ _=>trivial);intro i x q s hd;obtain⟨_,g2,g3,hx⟩:=jC hd;refine Ex.bK (P:=fun o=>∀w,o=.inl w→∃b,w=.inl b) ?_ (fun w hw=>?_) (fun _ _=>.fg g2)
 ·refine .ite (fun _=>?_) (fun _=>?_)
  ·refine Ex.bind (P:=fun _=>True) (.ite (fun _=>.pure trivial) (fun h0=>?_)) (fun o _=>.ite (fun _=>.pure (fun w e=>by cases e; exact⟨_,rfl⟩)) (fun _=>.pure (fun w e=>by cases e)));obtain⟨y,hy,_⟩:=cZ (l:=f.kids) (i:=(i:Int)-1) (by omega) (by omega);rw[U7 (by omega) (by omega)];exact .bp y hy (.pure trivial)
  ·refine Ex.bind (P:=fun _=>True) (.ite (fun hc=>?_) (fun _=>.pure trivial)) ?_
   ·obtain⟨y,hy,_⟩:=cZ (l:=f.kids) (i:=((i+1:Nat):Int)) (by omega) hc;exact .bp y hy (.pure trivial)
   intro o _;refine .ite (fun _=>?_) (fun _=>?_)
   ·refine Ex.bind (P:=fun _=>True) ?_ (fun o _=>.ite (fun _=>.pure (fun w e=>by cases e; exact⟨_,rfl⟩)) (fun _=>.pure (fun w e=>by cases e)));exact .bind (Qp hs x) fun k _=>.ite (fun _=>.pure trivial) (fun _=>.bind (Zc hs h) fun k hk=>.bind (SX x (hf.kid hx) k (by omega)) fun k _=>.pure trivial)
   ·exact .bind (SX x (hf.kid hx) hs h) fun k _=>.ite (fun _=>.pure (fun w e=>by cases e; exact⟨_,rfl⟩)) (fun _=>.pure (fun w e=>by cases e))
 ·obtain⟨b,rfl⟩:=hw w rfl;exact⟨fun _ _=>trivial,fun s' e=>by cases e⟩
termination_by SizeOf.sizeOf f
decreasing_by all_goals exact jR hx
theorem Wu (f:Form) (hf:zK f) (ls:List Form):Ex (fun n=>uZ n f ls) (fun r=>r.length≤401):=by
 have hc:=hf.2;have hvl:=Dj ls f;unfold uZ;refine .bind (G7 ls f [] (by simp; omega)) fun k1 h1=>.bind (G8 ls f [] 0 (by simp; omega)) fun k2 h2=>?_;simp only[List.length_nil,Nat.zero_add] at h1 h2;refine Ex.bind (P:=fun s=>s.length≤401) ?_ (fun s hs=>.pure hs);refine Ex.dS (I:=fun i q s=>k1.drop i=q∧s.length=i) ⟨rfl,rfl⟩ ?_ (fun s h=>by have:=h.2; omega);rintro i x q s ⟨hd,h3⟩;obtain⟨_,g2,g3,_⟩:=jC hd;have hi:i<k2.length:=by omega
 refine .bp () (ER (by omega) (by simpa using hi)) (.bp _ (List.getElem?_eq_getElem hi) ?_);exact Ex.bind (P:=fun _=>True) (.ite (fun _=>.pure trivial) (fun _=>.pure trivial)) (fun o _=>.bp _ (dK (by simp; omega)) (.pure ⟨g2,by simp; omega⟩))
def adn (r:Rule):Prop:=zK r.pattern∧zK r.template
def ruP (r:Rule):Prop:=gU r.pattern=true∧WJ r.pattern∧r.pattern.kind=3
theorem aa8 (r:Rule) (hr:adn r) (ls:List Form) (h:NS ls):Ex (fun n=>xJ n r ls) (fun b=>b=true→ruP r):=by
 unfold xJ;refine Ex.bind (P:=fun b=>b=true→ruP r) ?_ (fun b hb=>.pure hb);refine .bind (adl r.pattern hr.1 ls h) fun k hk=>.ite (fun h1=>.ite (fun h2=>.ite (fun _=>.bv (ru hr.2) (.ite (fun _=>?_) (fun _=>.pure (by simp)))) (fun _=>.pure (by simp))) (fun _=>.pure (by simp))) (fun _=>.pure (by simp));exact .bind (Wu r.pattern hr.1 ls) fun k8 h8=>.bind (SX r.template hr.2 k8 (by omega)) fun k9 _=>.pure fun _=>⟨(hk h1).1,(hk h1).2,h2⟩
def SY (rs:List Rule):Prop:=rs.length≤1000∧∀r∈rs,adn r
theorem Qq (rs:List Rule) (hr:SY rs) (ls:List Form) (h:NS ls):Ex (fun n=>qR n rs ls) (fun b=>b=true→∀r∈rs,ruP r):=by
 have hl:=hr.1;unfold qR;refine Ex.iter (μ:=fun s=>((rs.length:Int)-s).toNat) (I:=fun s=>0≤s∧s≤(rs.length:Int)∧∀i:Nat,(i:Int)<s→∀r,rs[i]? = some r→ruP r) 0 ⟨by omega,by omega,fun i h=>by omega⟩ ?_;rintro s ⟨h0,h1,h2⟩;refine Ex.bind (P:=fun o=>(o=true→s<(rs.length:Int))∧(o=false→s=(rs.length:Int)∨10≤s)) (.ite (fun h=>.pure ⟨fun _=>h,fun e=>.inr (by simpa using e)⟩) (fun h=>.pure ⟨by simp,fun _=>.inl (by omega)⟩)) ?_;rintro o ⟨ho,ho'⟩;refine .ite (fun hc=>?_) (fun hc=>?_)
 ·have hs:=ho hc;obtain⟨b,hb,hm⟩:=cZ h0 hs;refine .bp b hb (.bind (aa8 b (hr.2 b hm) ls h) fun k hk=>.ite (fun _=>.out (by simp)) (fun hk'=>.go ?_ (by rw[lQ (by omega) (by omega)]; omega)));rw[lQ (by omega) (by omega)];refine⟨by omega,by omega,fun i hi r hr'=>?_⟩;by_cases hlt:(i:Int)<s
  ·exact h2 i hlt r hr'
  ·have e:s=(i:Int):=by omega
   rw[e,dX hr'] at hb;cases hb;exact hk (by simpa using hk')
 ·refine Ex.bind (P:=fun b=>b=true→(rs.length:Int)<10) (.ite (fun h3=>.bind (Va ls h) fun k _=>.pure fun _=>h3) (fun _=>.pure (by simp))) (fun o8 h8=>.out fun hb r hr'=>?_);have h10:=h8 hb;have he:s=(rs.length:Int):=by rcases ho' (by simpa using hc) with h | h <;> omega
  obtain⟨i,hi,rfl⟩:=List.mem_iff_getElem.1 hr';exact h2 i (by omega) _ (List.getElem?_eq_getElem hi)
theorem Ex.tail {A σ:Type} {R:A⊕σ→Prop} {g:Nat→Option ((A⊕σ)⊕σ)} (h:Ex g (fun r=>(∃a,r=.inl (.inl a)∧R (.inl a))∨∃s,r=.inr s∧R (.inr s))):Ex (fun n=>Mx.bK (g n) (fun s=>some (.inr s))) R:=by
 refine Ex.bK h (fun w hw=>?_) (fun t ht=>?_)
 ·rcases hw with ⟨a,e,h⟩ | ⟨s,e,_⟩
  ·cases e; exact h
  ·cases e
 ·rcases ht with ⟨a,e,_⟩ | ⟨s,e,h⟩
  ·cases e
  ·cases e; exact .pure h
mutual
def htP:iH→Prop
 | ⟨_,_,one,many⟩=>zK one∧many.length≤1000∧sJ many
def sJ:List iH→Prop
 | []=>True
 | x::r=>htP x∧sJ r
end
theorem Js {h:iH}:htP h↔zK h.one∧h.many.length≤1000∧sJ h.many:=by cases h; simp only[htP]
theorem qw:∀{l:List iH},sJ l↔∀x∈l,htP x
 | []=>by simp[sJ]
 | x::r=>by simp[sJ,qw (l:=r)]
theorem AU {a b:List iH} (h1:sJ a) (h2:sJ b):sJ (a++b):=qw.2 fun x hx=>(List.mem_append.1 hx).elim (qw.1 h1 x) (qw.1 h2 x)
theorem aa9 (p:Form) (hc:cF p≤401) (ls:List Form) (rows:List (List iH)) (hl:rows.length≤1000) (h:∀r∈rows,r.length=JF ls p∧sJ r):Ex (fun n=>Ar n p ls rows) (fun r=>r.length=JF ls p∧sJ r):=by
 have hvl:=Dj ls p;unfold Ar;refine .bind (G7 ls p [] (by simp; omega)) fun k1 h1=>.bind (G8 ls p [] 0 (by simp; omega)) fun k2 h2=>?_;simp only[List.length_nil,Nat.zero_add] at h1 h2;refine Ex.bind (P:=fun r=>r.length=JF ls p∧sJ r) ?_ (fun s hs=>.pure hs);refine Ex.dS (I:=fun i q s=>k1.drop i=q∧s.length=i∧sJ s) ⟨rfl,rfl,trivial⟩ ?_ (fun s h=>⟨by rw[h.2.1,h1],h.2.2⟩);rintro i x q s ⟨hd,h3,h4⟩;obtain⟨_,g2,g3,_⟩:=jC hd;have hi:i<k2.length:=by omega
 refine .bp () (ER (by omega) (by simpa using hi)) (.bp _ (List.getElem?_eq_getElem hi) ?_);refine Ex.bind (P:=fun t=>t.length=rows.length∧sJ t) ?_ ?_
 ·refine Ex.dS (I:=fun j q t=>(∀r∈q,r∈rows)∧j+q.length=rows.length∧t.length=j∧sJ t) ⟨fun _ h=>h,by simp,rfl,trivial⟩ ?_ (fun t h=>⟨h.2.2.1,h.2.2.2⟩);rintro j y q' t ⟨t1,t2,t3,t4⟩;simp only[List.length_cons] at t2;obtain⟨y1,y2⟩:=h y (t1 y List.mem_cons_self);obtain⟨e,he,hm⟩:=cZ (l:=y) (i:=(i:Int)) (by omega) (by omega);exact .bp e he (.bp _ (dK (by simp; omega)) (.pure ⟨fun r hr=>t1 r (List.mem_cons_of_mem _ hr),by omega,by simp; omega,AU t4 ⟨qw.1 y2 e hm,trivial⟩⟩))
 ·rintro t ⟨t1,t2⟩;refine .bp _ (dK (by simp; omega)) (.pure ⟨g2,by simp; omega,AU h4 ⟨Js.2 ⟨smZ,by simp only; omega,t2⟩,trivial⟩⟩)
theorem F8 {p:Form→Bool}:∀{l:List Form},l.countP p≤1→∀{i j:Nat} {x y:Form},l[i]? = some x→l[j]? = some y→p x=true→p y=true→i=j
 | [],_,i,j,x,y,h,_,_,_=>by simp at h
 | a::l,hc,i,j,x,y,hi,hj,hx,hy=>by
  rw[List.countP_cons] at hc;have z:∀{k:Nat} {z:Form},l[k]? = some z→p z=true→p a=false∧l.countP p≤1:=fun {k z} hk hz=>by
   have:0<l.countP p:=List.countP_pos_iff.2 ⟨z,List.mem_of_getElem? hk,hz⟩;cases ha:p a with
   | true=>rw[ha,if_pos rfl] at hc; omega
   | false=>exact⟨rfl,by omega⟩
  cases i with
  | zero=>
   cases j with
   | zero=>rfl
   | succ j=>
    simp at hi hj; subst hi;rw[(z hj hy).1] at hx; cases hx
  | succ i=>
   cases j with
   | zero=>
    simp at hi hj; subst hj;rw[(z hi hx).1] at hy; cases hy
   | succ j=>
    simp at hi hj;rw[F8 (z hi hx).2 hi hj hx hy]
def mtR (ls:List Form) (v:Nat) (r:List iH×Bool):Prop:=r.2=true→r.1.length=v∧sJ r.1
theorem Zd (bs:List Bind) (ls:List Form) (ps fs:List Form) (hcs:jV ps≤400) (hk:∀x∈ps,qx x=true→x.kids=[]) (hfs:∀x∈fs,zK x) (hfl:fs.length≤400) (hd0:∀x,ps.head? = some x→qx x=false) (hd1:ps.countP qx≤1) (hm:∀x∈ps,qx x=false→∀f,zK f→Ex (fun n=>iD n bs x ls f) (mtR ls (JF ls x))):Ex (fun n=>uq n bs ps ls fs) (mtR ls (vM ls ps)):=by
 have hpl:=BG ps;refine .succ ?_;simp only[uq,En,Option.bind_some];refine Ex.iter (μ:=fun s=>((ps.length:Int)-s.2).toNat) (I:=fun s=>0≤s.2∧s.2≤(ps.length:Int)∧(∃j:Nat,s.2=(j:Int)∧((s.1=-1∧∀k x,k≤j→ps[k]? = some x→qx x=false)∨∃r:Nat,s.1=(r:Int)∧∃x,ps[r+1]? = some x∧qx x=true))) ((-1),0) ⟨by simp,by simp,0,rfl,.inl ⟨rfl,fun k x hk hx=>hd0 x ?_⟩⟩ ?_
 ·obtain rfl:k=0:=by omega
  rw[List.head?_eq_getElem?]; exact hx
 rintro ⟨row,i⟩ ⟨h0,h1,j,hj,hrow⟩;simp only at h0 h1 hj hrow ⊢;subst hj;rw[lQ (by omega) (by omega)];refine .ite (fun hlt=>?_) (fun hge=>?_)
 ·obtain⟨e,he,_⟩:=cZ (l:=ps) (i:=(j:Int)+1) (by omega) hlt;have hg:ps[j+1]? = some e:=by
   have hv:j+1<ps.length:=by omega
   have:=dX (List.getElem?_eq_getElem hv);rw[show((j+1:Nat):Int)=(j:Int)+1 by omega,he] at this;rw[List.getElem?_eq_getElem hv,← Option.some.inj this]
  refine Ex.bind (P:=fun o=>(qx e=true∧o=(j:Int))∨(qx e=false∧o=row)) (.bp e he (.ite (fun h=>.pure (.inl ⟨h,rfl⟩)) (fun h=>.pure (.inr ⟨by simpa using h,rfl⟩)))) ?_;intro o ho;refine .fg ⟨⟨?_,?_,j+1,?_,?_⟩,?_⟩
  ·try simp only
   omega
  ·try simp only
   omega
  ·try simp only
   omega
  rotate_left
  ·try simp only
   omega
  rcases ho with ⟨hd,rfl⟩ | ⟨hd,rfl⟩
  ·exact .inr ⟨j,rfl,e,hg,hd⟩
  ·rcases hrow with ⟨hr,ha⟩ | hr
   ·refine .inl ⟨hr,fun k x hk hx=>?_⟩;rcases Nat.lt_or_ge j k with hlt | hle
    ·obtain rfl:k=j+1:=by omega
     rw[hg] at hx; cases hx; exact hd
    ·exact ha k x hle hx
   ·exact .inr hr
 ·refine Ex.bind (P:=fun o=>o=false→(row<0→(ps.length:Int)=(fs.length:Int))∧(row≥0→(fs.length:Int)≥(ps.length:Int)-2)) ?_ ?_
  ·have hw:aY ((ps.length:Int)-2)=(ps.length:Int)-2:=jS (by omega) (by omega);rw[hw];refine .ite (fun hn=>?_) (fun hn=>?_)
   ·refine .ite (fun _=>.pure (by simp)) (fun he=>?_);exact .neg (by omega) (.pure fun _=>⟨fun _=>by omega,fun h=>by omega⟩)
   ·exact .pos (by omega) (Ex.pure (v:=decide ((fs.length:Int)<(ps.length:Int)-2)) fun e=>⟨fun h=>by omega,fun _=>by have e:=of_decide_eq_false e; omega⟩)
  intro o9 ho9;refine .ite (fun _=>.fo (fun h=>by cases h)) (fun fV=>?_);obtain⟨hA,hB⟩:=ho9 (by simpa using fV);have hw:aY ((ps.length:Int)-2)=(ps.length:Int)-2:=jS (by omega) (by omega);have hw2:aY ((fs.length:Int)-((ps.length:Int)-2))=(fs.length:Int)-((ps.length:Int)-2):=jS (by omega) (by omega);rw[hw,hw2];have hnd:∀k x,ps[k]? = some x→qx x=true→∃r:Nat,row=(r:Int)∧k=r+1:=by
   intro k x hx hd;rcases hrow with ⟨hr,ha⟩ | ⟨r,hr,y,hy,hdy⟩
   ·have:k<ps.length:=(List.getElem?_eq_some_iff.1 hx).1;rw[ha k x (by omega) hx] at hd; cases hd
   ·exact⟨r,hr,F8 hd1 hx hy hd hdy⟩
  have hrr:row<0∨∃r:Nat,row=(r:Int)∧r+1<ps.length∧∃x,ps[r+1]? = some x∧qx x=true:=by
   rcases hrow with ⟨hr,ha⟩ | ⟨r,hr,y,hy,hdy⟩
   ·exact .inl (by omega)
   ·exact .inr ⟨r,hr,(List.getElem?_eq_some_iff.1 hy).1,y,hy,hdy⟩
  refine Ex.bK (P:=fun o=>match o with
   | .inl w=>∃h:List iH,w=.inl (h,false)
   | .inr s=>s.1.length=vM ls ps∧sJ s.1) ?_ ?_ ?_
  ·refine Ex.cO (I:=fun i q s=>ps.drop i=q∧s.1.length+vM ls q=vM ls ps∧sJ s.1∧((row<0→s.2=(i:Int))∧∀r:Nat,row=(r:Int)→(i≤r→s.2=(i:Int))∧(r+2≤i→s.2=(i:Int)-2+((fs.length:Int)-((ps.length:Int)-2)))∧(i=r+1→s.2=(r:Int)+((fs.length:Int)-((ps.length:Int)-2))))) ⟨rfl,by simp,trivial,fun _=>rfl,fun r _=>⟨fun _=>rfl,fun h=>by omega,fun h=>by omega⟩⟩ ?_ (fun s h=>⟨by simpa [vM] using h.2.1,h.2.2.1⟩);rintro i x q ⟨hs,at_⟩ ⟨hd,s1,s2,s3,s4⟩;obtain⟨g1,g2,g3,g4⟩:=jC hd;simp only[vM] at s1 s3 s4 ⊢;have hvs:vM ls ps≤400:=Nat.le_trans (NP ls ps) hcs;have hcx:=rJ g4;refine Ex.tail ?_;refine .ite (fun Lu=>.pure (.inr ⟨_,rfl,fun w e=>by(cases e),fun s' e=>?_⟩)) (fun Lu=>?_)
   ·cases e;obtain⟨r,hr,hir⟩:=hnd i x g1 Lu;have hv:JF ls x=0:=by
     rw[Jq,hk x g4 Lu];have:Wp ls x=false:=by
      unfold qx at Lu; unfold Wp;simp only[Bool.and_eq_true,decide_eq_true_eq] at Lu;simp[Lu.2]
     simp[this,vM]
    refine⟨g2,by simp only; omega,s2,fun h=>by omega,fun r' hr'=>⟨fun h=>by omega,fun h=>?_,fun h=>by omega⟩⟩;have:=(s4 r hr).2.2 hir;simp only; omega
   have Lu:qx x=false:=by simpa using Lu
   refine .ite (fun hir=>?_) (fun hir=>?_)
   ·have hat:0≤at_∧at_<(fs.length:Int)∧(row<0→at_=(i:Int)):=by
     refine⟨?_,?_,fun h=>s3 h⟩
     ·rcases hrr with h | ⟨r,hr,hr2,y,hy,hdy⟩
      ·rw[s3 h]; omega
      ·have hB:=hB (by omega);obtain⟨a1,a2,a3⟩:=s4 r hr;rcases Nat.lt_or_ge r i with hlt | hle
       ·rcases Nat.lt_or_ge (r+1) i with hl2 | hl2
        ·rw[a2 hl2]; omega
        ·rw[a3 (by omega)]; omega
       ·rw[a1 hle]; omega
     ·rcases hrr with h | ⟨r,hr,hr2,y,hy,hdy⟩
      ·have:=hA h; rw[s3 h]; omega
      ·have hB:=hB (by omega);obtain⟨a1,a2,a3⟩:=s4 r hr;rcases Nat.lt_or_ge r i with hlt | hle
       ·rcases Nat.lt_or_ge (r+1) i with hl2 | hl2
        ·rw[a2 hl2]; omega
        ·obtain rfl:i=r+1:=by omega
         rw[g1] at hy; cases hy;rw[hdy] at Lu; cases Lu
       ·rw[a1 hle]; omega
    obtain⟨e,he,hem⟩:=cZ hat.1 hat.2.1;refine .bp e he (.bind (hm x g4 Lu e (hfs e hem)) fun k24 BK=>?_);refine .ite (fun _=>.pure (.inl ⟨_,rfl,fun w e=>by cases e; exact⟨_,rfl⟩,fun s' e=>by cases e⟩)) (fun hk2=>?_);obtain⟨m1,m2⟩:=BK (by simpa using hk2);refine .bp _ (dK (by omega)) (.pure (.inr ⟨_,rfl,fun w e=>by(cases e),fun s' e=>?_⟩));cases e;rw[lQ hat.1 (by omega)];refine⟨g2,by simp only[List.length_append]; omega,AU s2 m2,fun h=>?_,fun r hr=>?_⟩
    ·have:=s3 h; simp only; omega
    ·obtain⟨a1,a2,a3⟩:=s4 r hr;have hne:i≠r:=fun e=>hir (by rw[hr,e]);have hne2:i≠r+1:=fun e=>by
      rcases hrr with h | ⟨r',hr',hr2,y,hy,hdy⟩
      ·omega
      ·obtain rfl:r=r':=by omega
       rw[← e,g1] at hy; cases hy;rw[hdy] at Lu; cases Lu
     simp only;exact⟨fun h=>by have:=a1 (by omega); omega,fun h=>by have:=a2 (by omega); omega,fun h=>by omega⟩
   ·have hir:(i:Int)=row:=by simpa using hir
    have ha:=(s4 i hir.symm).1 (Nat.le_refl i);have hB:=hB (by omega);have hi2:i+1<ps.length:=by
     rcases hrr with h | ⟨r,hr,hr2,y,hy,hdy⟩
     ·omega
     ·omega
    subst ha;refine Ex.iter (μ:=fun s=>s.2.2.toNat) (I:=fun s=>0≤s.2.2∧s.1+s.2.2=(i:Int)+((fs.length:Int)-((ps.length:Int)-2))∧(i:Int)≤s.1∧(s.2.1.length:Int)=s.1-(i:Int)∧∀r∈s.2.1,r.length=JF ls x∧sJ r) _ ⟨by simp only; omega,by simp only,by simp only; omega,by simp,by simp⟩ ?_;rintro ⟨a,rows,c⟩ ⟨c1,c2,c3,c4,c5⟩;simp only at c1 c2 c3 c4 c5 ⊢;refine .ite (fun hc=>?_) (fun hc=>?_)
    ·obtain⟨e,he,hem⟩:=cZ (l:=fs) (i:=a) (by omega) (by omega);refine .bp e he (.bind (hm x g4 Lu e (hfs e hem)) fun k32 Jd=>?_);refine .ite (fun _=>.fo (.inl ⟨_,rfl,fun w e=>by cases e; exact⟨_,rfl⟩,fun s' e=>by cases e⟩)) (fun hk2=>?_);have Jd:=Jd (by simpa using hk2);refine .bp _ (dK (by simp; omega)) (.fg ⟨?_,by simp only; rw[U7 (by omega) (by omega)]; omega⟩);simp only;rw[lQ (by omega) (by omega),U7 (by omega) (by omega)];refine⟨by omega,by omega,by omega,by simp; omega,fun r hr=>?_⟩;rcases List.mem_append.1 hr with hr | hr
     ·exact c5 r hr
     ·rw[List.mem_singleton.1 hr]; exact Jd
    ·refine .bind (aa9 x (by omega) ls rows (by omega) c5) fun FQ MZ=>.bp _ (dK (by omega)) (.fo (.inr ⟨_,rfl,fun w e=>by(cases e),fun s' e=>?_⟩));cases e;refine⟨g2,by simp only[List.length_append]; omega,AU s2 MZ.2,fun h=>by omega,fun r hr=>?_⟩;obtain rfl:i=r:=by omega
     exact⟨fun h=>by omega,fun h=>by omega,fun _=>by simp only; omega⟩
  ·rintro w ⟨h,rfl⟩;exact⟨fun w e=>by cases e; simp[mtR],fun s' e=>by cases e⟩
  ·rintro s ⟨h1,h2⟩;exact .fo fun _=>⟨h1,h2⟩
theorem LD (bs:List Bind) (hb:bs.length≤1000000) (ls:List Form) (p:Form) (hv:∃d,J8 d p=true) (hsh:WJ p) (hp:cF p≤401) (f:Form) (hf:zK f):Ex (fun n=>iD n bs p ls f) (mtR ls (JF ls p)):=by
 obtain⟨d,hv⟩:=hv;obtain⟨e,_,v1,v2,v3,v4,v5⟩:=E5 hv;obtain⟨q1,q2,q3,q4⟩:=Zb.1 hsh;have he:=sG p;refine .succ ?_;simp only[iD];refine .ite (fun h1=>?_) (fun h1=>?_)
 ·have hkn:=v3 (.inl h1);have hva:JF ls p=if Wp ls p=true then 1 else 0:=by rw[Jq,hkn]; simp[vM]
  refine .ite (fun h2=>.pure fun _=>⟨?_,trivial⟩) (fun h2=>.bv (NM ls p) (.ite (fun h3=>?_) (fun h3=>?_)))
  ·rw[hva]; simp[Wp,h2]
  ·exact Ex.bind (P:=fun _=>True) (.ite (fun _=>.bind (Y9 bs hb p f) fun k _=>.pure trivial) (fun _=>.pure trivial)) (fun o _=>.pure fun _=>⟨by rw[hva]; simp[Wp,h3],trivial⟩)
  ·refine .bp _ (dK (by simp)) (.pure fun _=>⟨?_,Js.2 ⟨hf,by simp,trivial⟩,trivial⟩);have hn:¬p.name=[46,46,46]:=fun e=>by
    unfold qx at q1;simp[h1,e] at q1
   rw[hva]; simp[Wp,h1,h2,h3,hn]
 ·have hva:JF ls p=vM ls p.kids:=by rw[Jq]; simp[Wp,h1]
  refine .ite (fun h2=>.bv (y9 p f) (.pure fun _=>⟨?_,trivial⟩)) (fun h2=>.ite (fun _=>.pure (by simp[mtR])) (fun _=>?_))
  ·rw[hva,v3 (.inr h2)]; rfl
  ·rw[hva];refine .bind (Zd bs ls p.kids f.kids (by omega) (fun x hx hd=>?_) (fun x hx=>hf.kid hx) hf.len q3 q4 (fun x hx hd g hg=>LD bs hb ls x ⟨e,v5 x hx⟩ (Jr.1 q2 x hx hd) (by have:=rJ hx; omega) g hg)) fun k hk=>.pure hk;obtain⟨_,_,_,_,w3,_,_⟩:=E5 (v5 x hx);unfold qx at hd;simp only[Bool.and_eq_true,decide_eq_true_eq] at hd;exact w3 (.inl hd.1)
termination_by SizeOf.sizeOf p
decreasing_by exact jR hx
mutual
def QN (v:Form):Form→Bool
 | ⟨k,nm,n,sc,kids⟩=>(decide (k=1)&&iC ⟨k,nm,n,sc,kids⟩ v)||Ze v kids
def Ze (v:Form):List Form→Bool
 | []=>false
 | x::r=>QN v x||Ze v r
end
theorem adp (v f:Form):QN v f=((decide (f.kind=1)&&iC f v)||Ze v f.kids):=by cases f; simp only[QN]
theorem Qr (v:Form):∀l:List Form,Ze v l=l.any (QN v)
 | []=>rfl
 | x::r=>by simp only[Ze,List.any_cons,Qr v r]
theorem Jt (f v:Form):fU (fun n=>pJ n f v) (QN v f):=by
 refine .succ ?_;simp only[pJ];rw[adp,Qr];refine Ex.zL ?_;refine Ex.bind (P:=fun o=>o=(decide (f.kind=1)&&iC f v)) (.ite (fun h=>.bv (y9 f v) (.pure (by simp[h]))) (fun h=>.pure (by simp[h]))) ?_;rintro o rfl;cases (decide (f.kind=1)&&iC f v) with
 | true=>exact .pos rfl (.pure rfl)
 | false=>
  refine .neg (by simp) ?_;simp only[Bool.false_or];exact Ex.anyI (m:=fun n x=>pJ n x v) (p:=QN v) (fun x hx=>Jt x v) (fun h=>h.symm) (fun h=>.pure h.symm)
termination_by SizeOf.sizeOf f
decreasing_by exact jR hx
theorem Zf (f:Form) (hs:List iH) (hh:sJ hs) (hl:hs.length≤1000):Ex (fun n=>vg n f hs) (fun r=>r≤1000∧(0≤r→∀h∈hs,¬h.depth=0→QN h.name f=true→r=(h.many.length:Int))):=by
 unfold vg;refine Ex.iter (μ:=fun s=>((hs.length:Int)-s.2).toNat) (I:=fun s=>0≤s.2∧s.2≤(hs.length:Int)∧-1≤s.1∧s.1≤1000∧∀(j:Nat) h,(j:Int)<s.2→hs[j]? = some h→¬h.depth=0→QN h.name f=true→s.1=(h.many.length:Int)) ((-1),0) ⟨by simp,by simp,by simp,by simp,fun j h hj=>by simp only at hj; omega⟩ ?_;rintro ⟨c,i⟩ ⟨h0,h1,h2,h3,h4⟩;simp only at h0 h1 h2 h3 h4 ⊢;refine .ite (fun hlt=>?_) (fun hge=>?_)
 ·obtain⟨e,he,hem⟩:=cZ h0 hlt;have hml:=(Js.1 (qw.1 hh e hem)).2.1;have hg:∀(j:Nat) h,¬(j:Int)<i→(j:Int)<i+1→hs[j]? = some h→h=e:=fun j h hn hj hx=>by
   obtain rfl:i=(j:Int):=by omega
   rw[dX hx] at he; exact Option.some.inj he
  refine Ex.bK (P:=fun(o:(Int⊕(Int×Int))⊕Int)=>match o with
   | .inl w=>w=.inl (-1)
   | .inr c'=>-1≤c'∧c'≤1000∧∀(j:Nat) h,(j:Int)<i+1→hs[j]? = some h→¬h.depth=0→QN h.name f=true→c'=(h.many.length:Int)) ?_ ?_ ?_
  ·refine Ex.bind (P:=fun o=>o=true↔(e.depth=0∨QN e.name f=false)) (.bp e he (.ite (fun hd=>Ex.pure (v:=true) ⟨fun _=>.inl hd,fun _=>rfl⟩) (fun hd=>.bv (Jt f e.name) (Ex.pure (v:=!QN e.name f) ⟨fun h=>.inr (by simpa using h),fun h=>h.elim (fun h=>absurd h hd) (fun h=>by simp[h])⟩)))) ?_;intro o6 ho6;refine .ite (fun hc6=>.pure ⟨h2,h3,fun j h hj hx hd hu=>?_⟩) (fun hc6=>?_)
   ·by_cases hji:(j:Int)<i
    ·exact h4 j h hji hx hd hu
    ·obtain rfl:=hg j h hji hj hx;rcases ho6.1 hc6 with h | h
     ·exact absurd h hd
     ·rw[h] at hu; cases hu
   ·have hn:¬e.depth=0∧QN e.name f=true:=by
     constructor
     ·intro h; exact hc6 (ho6.2 (.inl h))
     ·cases hu:QN e.name f with
      | true=>rfl
      | false=>exact absurd (ho6.2 (.inr hu)) hc6
    refine Ex.bind (P:=fun o=>o=false→c<0∨c=(e.many.length:Int)) (.ite (fun hc0=>.bp e he (Ex.pure (v:=decide (¬c=(e.many.length:Int))) fun h=>.inr (by have h:=of_decide_eq_false h; omega))) (fun hc0=>.pure fun _=>.inl (by omega))) ?_;intro o8 ho8;refine .ite (fun _=>.pure rfl) (fun hc8=>.bp e he (.pure ⟨by omega,by omega,fun j h hj hx hd hu=>?_⟩));by_cases hji:(j:Int)<i
    ·have:=h4 j h hji hx hd hu;rcases ho8 (by simpa using hc8) with h | h <;> omega
    ·obtain rfl:=hg j h hji hj hx;rfl
  ·rintro w rfl;exact⟨fun w e=>by cases e; exact⟨by omega,fun h=>by omega⟩,fun s' e=>by cases e⟩
  ·rintro c' ⟨q1,q2,q3⟩;rw[lQ h0 (by omega)];exact .fg ⟨⟨by simp only; omega,by simp only; omega,q1,q2,q3⟩,by simp only; omega⟩
 ·refine .fo ⟨h3,fun _ h hm=>?_⟩;obtain⟨j,hj,rfl⟩:=List.mem_iff_getElem.1 hm;exact h4 j _ (by omega) (List.getElem?_eq_getElem hj)
theorem adq (f:Form) (hs:List iH) (hh:sJ hs) (hl:hs.length≤1000) (i:Int) (h0:0≤i) (hi:∀h∈hs,h.depth>0→QN h.name f=true→i<(h.many.length:Int)):Ex (fun n=>Az n f hs i) (fun r=>r.length=hs.length∧sJ r):=by
 unfold Az;refine Ex.iter (μ:=fun s=>((hs.length:Int)-s.2).toNat) (I:=fun s=>0≤s.2∧s.2≤(hs.length:Int)∧(s.1.length:Int)=s.2∧sJ s.1) ([],0) ⟨by simp,by simp,by simp,by simp[sJ]⟩ ?_;rintro ⟨s,j⟩ ⟨s0,s1,s2,s3⟩;simp only at s0 s1 s2 s3 ⊢;refine .ite (fun hlt=>?_) (fun hge=>.fo ⟨by omega,s3⟩);obtain⟨e,he,hem⟩:=cZ s0 hlt;have hp:=qw.1 hh e hem;refine .bp e he (Ex.bind (P:=fun o=>o=true→e.depth>0∧QN e.name f=true) (.ite (fun hd=>.bv (Jt f e.name) (.pure fun h=>⟨hd,h⟩)) (fun _=>.pure (by simp))) fun o6 ho6=>?_);refine Ex.bind (P:=fun o=>htP o) (.ite (fun hc=>?_) (fun _=>.pure hp)) fun o7 ho7=>.bp _ (dK (by simp; omega)) (.fg ⟨⟨?_,?_,?_,AU s3 ⟨ho7,trivial⟩⟩,?_⟩)
 ·obtain⟨g1,g2⟩:=ho6 hc;obtain⟨z,hz,hzm⟩:=cZ h0 (hi e hem g1 g2);exact .bp z hz (.pure (qw.1 (Js.1 hp).2.2 z hzm))
 all_goals
  simp only;rw[lQ (by omega) (by omega)]
  try simp only[List.length_append,List.length_cons,List.length_nil]
  omega
theorem Eo:∀{a b:List Form},jV (a++b)=jV a+jV b
 | [],b=>by simp[jV]
 | x::r,b=>by simp only[List.cons_append,jV,Eo (a:=r)]; omega
theorem Vb (p:Form) (hp:zK p) (hs:List iH) (hh:sJ hs) (hl:hs.length≤1000):Ex (fun n=>uz n p hs) (fun r=>zK r.1):=by
 have hlk:=hp.len;obtain⟨p1,p2,p3⟩:=zi.1 hp.1;refine .succ ?_;simp only[uz,En,Option.bind_some];refine Ex.bind (P:=fun o=>o=-1∨0≤o∧o<(hs.length:Int)) (.ite (fun _=>.bind (Qo hs p) fun k hk=>.pure hk) (fun _=>.pure (.inl rfl))) ?_;intro o ho;refine .ite (fun h0=>?_) (fun _=>.bp _ (oD (by omega)) ?_)
 ·obtain⟨e,he,hem⟩:=cZ (l:=hs) (i:=o) h0 (by omega);have hone:=(Js.1 (qw.1 hh e hem)).1;exact .bp e he (.bv (NK hone) (.pure hone))
 refine Ex.bK (P:=fun r=>match r with
  | .inl w=>w=(p,false)
  | .inr s=>jV s.2≤400∧AQ 26 s.2) ?_ (fun w h=>by have h:w=(p,false):=h; rw[h]; exact hp) (fun s h=>.pure ⟨zi.2 ⟨p1,p2,h.2⟩,by have:=h.1; rw[sG]; simp only; omega⟩)
 refine Ex.cO (I:=fun i q s=>p.kids.drop i=q∧s.1=(jV s.2:Int)∧jV s.2≤400∧AQ 26 s.2) ⟨rfl,rfl,by simp[jV],trivial⟩ ?_ (fun s h=>⟨h.2.2.1,h.2.2.2⟩);rintro i x q ⟨sum,out⟩ ⟨hd,h1,h2,h3⟩;simp only at h1 h2 h3 ⊢;obtain⟨_,g2,g3,hx⟩:=jC hd;refine Ex.tail ?_;refine .ite (fun _=>.pure (.inr ⟨_,rfl,fun w e=>by(cases e),fun s' e=>by cases e; exact⟨g2,h1,h2,h3⟩⟩)) (fun _=>?_);refine Ex.bind (P:=fun _=>True) (.ite (fun hc=>?_) (fun _=>.pure trivial)) ?_
 ·obtain⟨y,hy,_⟩:=cZ (l:=p.kids) (i:=((i+1:Nat):Int)) (by omega) hc;exact .bp y hy (.pure trivial)
 intro o18 _;refine Ex.bind (P:=fun c=>c≤1000∧(o18=true→0≤c→∀h∈hs,¬h.depth=0→QN h.name x=true→c=(h.many.length:Int))) (.ite (fun _=>.bind (Zf x hs hh hl) fun k hk=>.pure ⟨hk.1,fun _=>hk.2⟩) (fun hn=>.pure ⟨by omega,fun h=>absurd h hn⟩)) ?_;rintro c ⟨c1,c2⟩;refine .ite (fun _=>.pure (.inl ⟨_,rfl,fun w e=>by cases e; rfl,fun s' e=>by cases e⟩)) (fun hc0=>?_);refine Ex.iter (μ:=fun s=>(c-s.2.1).toNat) (I:=fun s=>0≤s.2.1∧s.2.1≤c∧s.1=(jV s.2.2:Int)∧jV s.2.2≤400∧AQ 26 s.2.2) _ ⟨by simp,by simp only; omega,h1,h2,h3⟩ ?_;rintro ⟨t,m,w⟩ ⟨m0,m1,t1,t2,t3⟩;simp only at m0 m1 t1 t2 t3 ⊢;refine .ite (fun hlt=>?_) (fun _=>.fo (.inr ⟨_,rfl,fun w e=>by(cases e),fun s' e=>by cases e; exact⟨g2,t1,t2,t3⟩⟩));refine Ex.bind (P:=fun r=>r.length=hs.length∧sJ r) (.ite (fun h18=>?_) (fun _=>.pure ⟨rfl,hh⟩)) ?_
 ·exact .bind (adq x hs hh hl m m0 (fun h hm hd hu=>by have:=c2 h18 (by omega) h hm (by omega) hu; omega)) fun k hk=>.pure hk
 rintro hs' ⟨l1,l2⟩;refine .bind (Vb x (hp.kid hx) hs' l2 (by omega)) fun k25 Df=>.bv (adi Df) ?_;have hc25:=Df.2;have hwl:=BG w;rw[t1,jS (by omega) (by omega)];refine Ex.bind (P:=fun o=>o=false→(jV w:Int)+(cF k25.1:Int)≤400) (.ite (fun _=>.pure (by simp)) (fun _=>.pure fun e=>by have e:=of_decide_eq_false e; omega)) ?_;intro o27 ahk;refine .ite (fun _=>.fo (.inl ⟨_,rfl,fun w e=>by cases e; rfl,fun s' e=>by cases e⟩)) (fun hc27=>?_);have hle:=ahk (by simpa using hc27);have hap:jV (w++[k25.1])=jV w+cF k25.1:=by rw[Eo]; simp[jV]
 rw[lQ m0 (by omega)];exact .bp _ (dK (by simp; omega)) (.fg ⟨⟨by simp only; omega,by simp only; omega,by simp only[hap]; omega,by simp only[hap]; omega,Y3 t3 ⟨Df.1,trivial⟩⟩,by simp only; omega⟩)
termination_by SizeOf.sizeOf p
decreasing_by exact jR hx
theorem NT (f:Form) (hw:wF f≤1000000000):fU (fun n=>gZ n f) f:=by
 have he:=FI f;refine .succ ?_;simp only[gZ];refine Ex.zL (.bp _ (oD (by omega)) (.bv (a:=f.kids) ?_ (.pure (by cases f; rfl))));refine .succ ?_;simp only[jl];refine Ex.zL (.bv (DZ (m:=fun n x=>gZ n x) (be:=80) (by omega) (fun x hx=>NT x (by have:=DX hx; omega))) (.pure rfl))
termination_by SizeOf.sizeOf f
decreasing_by exact jR hx
theorem Zg (rs:List Rule) (h:SY rs):fU (fun n=>jm n rs) rs:=by
 have hl:=h.1;unfold jm;refine Ex.zL (.bv (DZ (m:=fun n x=>og n x) (be:=160) (by omega) (fun x hx=>?_)) (.pure rfl));obtain⟨h1,h2⟩:=h.2 x hx;unfold og;exact Ex.zL (.bv (NT _ (by have:=h1.w; omega)) (.bv (NT _ (by have:=h2.w; omega)) (.pure rfl)))
theorem Qs (bs:List Bind) (hb:NQ bs) (rs:List Rule) (hr:SY rs) (ls:List Form) (hl:NS ls) (f:Form) (hf:zK f):Ex (fun n=>lZ n bs rs ls f) (fun r=>r.2=true→0≤r.1∧r.1<(rs.length:Int)∧(∀r∈rs,ruP r)∧∀e,gG rs r.1=some e→∃k,fU (fun n=>iD n bs e.pattern ls f) k∧mtR ls (JF ls e.pattern) k∧k.2=true):=by
 have hbl:=hb.1;unfold lZ;refine Ex.bind (P:=fun o=>o=false→∀r∈rs,ruP r) (.bind (U8 bs hb) fun k _=>.ite (fun _=>.pure (by simp)) (fun _=>.bind (Qq rs hr ls hl) fun k hk=>.ite (fun _=>.pure (by simp)) (fun hk'=>.bv (ru hf) (.pure fun _=>hk (by simpa using hk'))))) ?_;intro o ho;refine .ite (fun _=>.pure (by simp)) (fun hc=>?_);have hp:=ho (by simpa using hc);refine Ex.bK (P:=fun o=>match o with
  | .inl w=>0≤w.1∧w.1<(rs.length:Int)∧∀e,gG rs w.1=some e→∃k,fU (fun n=>iD n bs e.pattern ls f) k∧mtR ls (JF ls e.pattern) k∧k.2=true
  | .inr _=>True) ?_ (fun w h _=>⟨h.1,h.2.1,hp,h.2.2⟩) (fun _ _=>.pure (by simp))
 refine Ex.cO (I:=fun i q s=>rs.drop i=q) rfl ?_ (fun _ _=>trivial);intro i x q s hd;obtain⟨g1,g2,g3,hx⟩:=jC hd;obtain⟨q1,q2,q3⟩:=hp x hx;have hv:=Y6 q1;unfold gU at q1;rw[Bool.and_eq_true] at q1;obtain⟨k,k1,k2⟩:=LD bs (by omega) ls x.pattern ⟨40,q1.1⟩ q2 (by have:=hv.2; omega) f hf;refine .bv k1 (.ite (fun hk=>.fo ⟨by simp only; omega,by simp only; omega,fun e he=>?_⟩) (fun _=>.fg g2));rw[dX ‹rs[i]? = some x›] at he;cases he;exact⟨k,k1,k2,hk⟩
theorem Zh (bs:List Bind) (hb:NQ bs) (rs:List Rule) (hr:SY rs) (ls:List Form) (hl:NS ls) (f:Form) (hf:zK f):Ex (fun n=>oq n bs rs ls f) (fun r=>r.2=true→gU r.1=true):=by
 have hbl:=hb.1;unfold oq;refine .bv (Zg rs hr) (.bind (Qs bs hb rs hr ls hl f hf) fun k2 hk2=>.ite (fun _=>.pure (by simp)) (fun hc=>?_));obtain⟨i0,i1,hp,hm⟩:=hk2 (by simpa using hc);obtain⟨e,he,hx⟩:=cZ i0 i1;obtain⟨q1,q2,q3⟩:=hp e hx;obtain⟨k,m1,m2,m3⟩:=hm e he;obtain⟨m4,m5⟩:=m2 m3;have hv:=(Y6 q1).2;have hvl:=Dj ls e.pattern;refine .bp e he (.bv m1 (.bind (Vb e.template (hr.2 e hx).2 k.1 m5 (by omega)) fun k6 hk6=>?_));refine Ex.bind (P:=fun o=>o=false→gU k6.1=true) (.ite (fun _=>.pure (by simp)) (fun _=>.bv (ru hk6) (Ex.pure (v:=!gU k6.1) fun h=>by simpa using h))) ?_;intro o7 ho7;exact .ite (fun _=>.pure (by simp)) (fun J4=>.pure fun _=>ho7 (by simpa using J4))
theorem Zi (f:Form) (hf:zK f):Ex (fun n=>ou n f) (fun r=>r.2.2=true→NS r.1∧SY r.2.1):=by
 have hl:=hf.len;unfold ou;refine Ex.bind (P:=fun o=>o=false→2≤f.kids.length) (.bv (ru hf) (.ite (fun _=>.pure (by simp)) (fun _=>.ite (fun _=>.pure (by simp)) (fun _=>.ite (fun _=>.pure (by simp)) (fun h2=>?_))))) ?_
 ·obtain⟨e,he,_⟩:=cZ (l:=f.kids) (i:=0) (by omega) (by omega);obtain⟨e',he',_⟩:=cZ (l:=f.kids) (i:=1) (by omega) (by omega);exact .bp e he (.ite (fun _=>.pure (by simp)) (fun _=>.bp e' he' (.pure fun _=>by omega)))
 intro o ho;refine .ite (fun _=>.pure (by simp)) (fun hc=>?_);have h2:=ho (by simpa using hc);obtain⟨e1,he1,hm1⟩:=cZ (l:=f.kids) (i:=1) (by omega) (by omega);have s1:=hf.kid hm1;have l1:=s1.len;refine Ex.iter (μ:=fun s=>((e1.kids.length:Int)-s.2).toNat) (I:=fun s=>0≤s.2∧s.2≤(e1.kids.length:Int)∧(s.1.length:Int)=s.2∧∀x∈s.1,zK x) ([],0) ⟨by simp,by simp,by simp,by simp⟩ ?_;rintro ⟨s,i⟩ ⟨i0,i1,i2,i3⟩;simp only at i0 i1 i2 i3 ⊢;refine .bp e1 he1 (.ite (fun hlt=>?_) (fun hge=>?_))
 ·obtain⟨e,he,hem⟩:=cZ i0 hlt;have hse:=s1.kid hem;refine .bp e he (.bv (NK hse) (.bp _ (dK (by simp; omega)) (.fg ⟨⟨?_,?_,?_,fun x hx=>?_⟩,?_⟩)))
  all_goals try simp only
  all_goals try rw[lQ (by omega) (by omega)]
  ·omega
  ·omega
  ·simp; omega
  ·rcases List.mem_append.1 hx with hx | hx
   ·exact i3 x hx
   ·rw[List.mem_singleton.1 hx]; exact hse
  ·omega
 ·have hli:NS s:=⟨by omega,i3⟩
  refine Ex.iter (μ:=fun s=>((f.kids.length:Int)-s.2).toNat) (I:=fun s=>0≤s.2∧s.2≤(f.kids.length:Int)∧(s.1.length:Int)≤s.2∧∀x∈s.1,adn x) ([],2) ⟨by simp,by simp only; omega,by simp,by simp⟩ ?_;rintro ⟨t,j⟩ ⟨j0,j1,j2,j3⟩;simp only at j0 j1 j2 j3 ⊢;refine .ite (fun hlt=>?_) (fun hge=>?_)
  ·obtain⟨e,he,hem⟩:=cZ j0 hlt;have hse:=hf.kid hem;refine Ex.bind (P:=fun o=>o=false→e.kids.length=2) (.bp e he (.ite (fun _=>.pure (by simp)) (fun _=>.pure (by simp; omega)))) ?_;intro Bv ahl;refine .ite (fun _=>.fo ⟨fun w e=>by cases e; simp,fun s' e=>by cases e⟩) (fun Ap=>?_);have h22:=ahl (by simpa using Ap);obtain⟨a,ha,ham⟩:=cZ (l:=e.kids) (i:=0) (by omega) (by omega);obtain⟨b,hb,hbm⟩:=cZ (l:=e.kids) (i:=1) (by omega) (by omega);have sa:=hse.kid ham;have sb:=hse.kid hbm;refine .bp e he (.bp a ha (.bv (NK sa) (.bp b hb (.bv (NK sb) (.bp _ (dK (by simp; omega)) (.fg ⟨⟨?_,?_,?_,fun x hx=>?_⟩,?_⟩))))))
   all_goals try simp only
   all_goals try rw[lQ (by omega) (by omega)]
   ·omega
   ·omega
   ·simp; omega
   ·rcases List.mem_append.1 hx with hx | hx
    ·exact j3 x hx
    ·rw[List.mem_singleton.1 hx]; exact⟨sa,sb⟩
   ·omega
  ·have hrs:SY t:=⟨by omega,j3⟩
   exact .bind (Qq t hrs s hli) fun k _=>.ite (fun _=>.fo ⟨fun w e=>by cases e; simp,fun s' e=>by cases e⟩) (fun _=>.fo ⟨fun w e=>by cases e; exact fun _=>⟨hli,hrs⟩,fun s' e=>by cases e⟩)
def E8 (f:Form):Prop:=QM 24 f∧cF f≤400
theorem E8.sm {f:Form} (h:E8 f):zK f:=⟨Em (by omega) f h.1,by have:=h.2; omega⟩
theorem E8.kid {f x:Form} (h:E8 f) (hx:x∈f.kids):E8 x:=⟨sH.1 (zi.1 h.1).2.2 x hx,by have:=rJ hx; have:=sG f; have:=h.2; omega⟩
theorem Dk {f:Form} (h:gU f=true):E8 f:=by
 unfold gU at h;simp only[Bool.and_eq_true,decide_eq_true_eq] at h;exact⟨Y5 h.1,h.2⟩
theorem Dn {f:Form} (h:E8 f) (x w:Int):Ex (fun n=>fB n f x w) (fun r=>zK r∧cF r=cF f∧r.kind=f.kind):=
 (Qm f 24 (by omega) h.1 (by have:=h.2; omega) x w).mono fun r ⟨h1,h2,h3⟩=>⟨⟨Em (by omega) r h1,by have:=h.2; omega⟩,h2,h3⟩
theorem Zj {α:Type} {l:List α} {x:α} (h:l[0]? = some x):gG l 0=some x:=dX (i:=0) h
theorem Qu {α:Type} {l:List α} {x:α} (h:l[1]? = some x):gG l 1=some x:=dX (i:=1) h
theorem Zk {α:Type} {l:List α} {x:α} (h:l[2]? = some x):gG l 2=some x:=dX (i:=2) h
def ahm (m:Macro):Prop:=NS m.literals∧SY m.rules
def vI (e:Expansion):Prop:=NQ e.binds∧e.binds.length≤60∧e.macros.length≤e.binds.length∧(∀m∈e.macros,ahm m)∧0≤e.steps∧e.steps≤60
theorem Qv (f:Form) (hw:wF f≤1000000):Ex (fun n=>gY n f) (fun r=>wF r≤wF f):=by
 have he:=FI f;refine .succ ?_;simp only[gY];refine .bind (Ex.ae4 (m:=fun n y=>gY n y) (R:=fun x y=>wF y≤wF x) (by omega) (fun y hy=>Qv y (by have:=DX hy; omega))) fun m hm=>.pure ?_;have:∀{l m:List Form},Qi (fun x y=>wF y≤wF x) l m→qg m≤qg l∧m.length=l.length:=by
  intro l
  induction l with
  | nil=>intro m h; cases m with
   | nil=>simp
   | cons _ _=>cases h
  | cons x l ih=>intro m h; cases m with
   | nil=>cases h
   | cons y m=>have:=ih h.2; have:=h.1; simp only[qg,List.length_cons]; omega
 have:=this hm;rw[FI]; simp only[List.length_nil]; omega
termination_by SizeOf.sizeOf f
decreasing_by exact jR hy
def Wv (ms:List Macro) (id:Int):Option Int:=bK (cO (fun(s2:Unit) (i1:Nat) (x4:Macro)=>((if x4.id=id then some (Sum.inl (i1:Int)) else some (Sum.inr ())):Option (Int⊕Unit))) 0 ms ()) (fun(s2:Unit)=>some (-1))
theorem Zl (n:Nat) (e:Expansion) (id:Int):vk n e id=Wv e.macros id:=rfl
theorem adr (ms:List Macro) (id:Int):∃k,Wv ms id=some k∧(k=-1∨0≤k∧k<(ms.length:Int)):=by
 have:Ex (fun _=>Wv ms id) (fun k=>k=-1∨0≤k∧k<(ms.length:Int)):=by
  unfold Wv;refine Ex.bK (P:=fun o=>match o with
   | .inl w=>0≤w∧w<(ms.length:Int)
   | .inr _=>True) ?_ (fun w h=>.inr h) (fun _ _=>.pure (.inl rfl))
  refine Ex.cO (I:=fun i q s=>ms.drop i=q) rfl ?_ (fun _ _=>trivial);intro i x q s hd;obtain⟨_,g2,g3,_⟩:=jC hd;exact .ite (fun _=>.fo ⟨by omega,by omega⟩) (fun _=>.fg g2)
 obtain⟨k,⟨N,h⟩,h2⟩:=this;exact⟨k,h N (Nat.le_refl N),h2⟩
theorem Vd (e:Expansion) (h:vI e) (f:Form):Ex (fun n=>l9 n e f) (fun r=>r.1=2→∃k,Wv e.macros r.2=some k∧0≤k∧k<(e.macros.length:Int)):=by
 have hb:=h.1.1;unfold l9;refine .bind (NR e.binds (by omega) f) fun k1 hk1=>.ite (fun _=>.pure (by simp)) (fun h0=>.ite (fun _=>.pure (by simp)) (fun h2=>?_));have p1:0≤k1.1∧k1.1<(e.binds.length:Int):=hk1.elim (fun h=>absurd h h0) (fun h=>h.elim (fun h=>absurd h h2) id);obtain⟨b,hb,_⟩:=cZ p1.1 p1.2;refine .bp b hb (.ite (fun _=>.pure (by simp)) (fun _=>?_));obtain⟨k,hk,hk2⟩:=adr e.macros b.id;simp only[Zl];refine .bp k hk (.ite (fun hk0=>.pure fun _=>⟨k,hk,hk0,by omega⟩) (fun _=>.pure (by simp)))
def xR (e:Expansion) (b:Nat) (r:Expansion×Core×Int):Prop:=vI r.1∧e.steps≤r.1.steps∧((wC r.2.1:Nat):Int)+1≤20500*(b:Int)+8220500*(r.1.steps-e.steps)
def ahn (e:Expansion) (b:Nat) (r:Expansion×List Core×Int):Prop:=vI r.1∧e.steps≤r.1.steps∧((vJ r.2.1+r.2.1.length:Nat):Int)≤20500*(b:Int)+8220500*(r.1.steps-e.steps)
theorem wzC:wC ⟨0,0,[],0,[],⟨0,[],0,[],[]⟩,[]⟩=0:=by simp[wC,vJ,wF,qg]
theorem xR.z {e e':Expansion} {b:Nat} {k:Int} (h:vI e') (hs:e.steps≤e'.steps) (hb:1≤b):xR e b (e',(⟨0,0,[],0,[],⟨0,[],0,[],[]⟩,[]⟩:Core),k):=⟨h,hs,by simp only[wzC]; omega⟩
theorem abb (e:Expansion) (h:vI e) (f:Form) (hf:f.name.length≤12):Ex (fun n=>xO n e f) (xR e 1):=by
 unfold xO;refine .bind (Vd e h f) fun k _=>.ite (fun _=>.pure ⟨h,by simp,?_⟩) (fun _=>.ite (fun _=>.pure ⟨h,by simp,?_⟩) (fun _=>.ite (fun _=>.pure (.z h (by simp) (by omega))) (fun _=>.pure (.z h (by simp) (by omega)))))
 ·simp[wC,vJ,wF,qg]; omega
 ·simp[wC,vJ,wF,qg]
theorem Ve (e:Expansion) (h:vI e) (f:Form) (hf:zK f):Ex (fun n=>uD n e f) (fun r=>vI r.1∧r.1.steps=e.steps∧(r.2=0→r.1.macros.length<r.1.binds.length)):=by
 obtain⟨h1,h2,h3,h4,h5,h6⟩:=h;unfold uD;refine .ite (fun _=>.pure ⟨⟨h1,h2,h3,h4,h5,h6⟩,rfl,by simp⟩) (fun hn=>.bind (aa7 e.binds h1 (by omega) f hf _) fun k hk=>.ite (fun _=>.pure ⟨⟨h1,h2,h3,h4,h5,h6⟩,rfl,by simp⟩) (fun hc=>?_));obtain⟨k1,k2⟩:=hk (by simpa using hc);exact .pure ⟨⟨k1,by simp only; omega,by simp only; omega,h4,h5,h6⟩,rfl,fun _=>by simp only; omega⟩
theorem abd (e:Expansion) (h:vI e) (f:Form) (hf:E8 f) (id a3:Int) (ha:a3≤60) (hm:∃k,Wv e.macros id=some k∧0≤k∧k<(e.macros.length:Int)):Ex (fun n=>xM n e f id a3) (fun r=>vI r.1∧e.steps≤r.1.steps∧(r.2.2=0→r.1.steps=e.steps+1∧e.steps<a3∧E8 r.2.1)):=by
 obtain⟨h1,h2,h3,h4,h5,h6⟩:=h;obtain⟨k,hk,k0,k1⟩:=hm;unfold xM lK;refine .ite (fun _=>.pure ⟨⟨h1,h2,h3,h4,h5,h6⟩,by simp,by simp⟩) (fun hs=>?_);simp only[Option.bind_some,Zl];refine .ite (fun _=>.pure ⟨⟨h1,h2,h3,h4,h5,h6⟩,by simp,by simp⟩) (fun _=>?_);obtain⟨m,hmm,hmem⟩:=cZ k0 k1;obtain⟨m1,m2⟩:=h4 m hmem;have hw:aY (e.steps+1)=e.steps+1:=lQ h5 (by omega);simp only[hw];have good:vI ⟨e.binds,e.macros,aY (e.scope+1),e.id,e.steps+1⟩:=⟨h1,h2,h3,h4,by simp only; omega,by simp only; omega⟩
 refine .bp k hk (.bp m hmm (.bind (Dn hf _ _) fun k6 ⟨s6,_,_⟩=>.bv (ru s6) (.ite (fun _=>.pure ⟨good,by simp only; omega,by simp⟩) (fun _=>.bind (Qs e.binds h1 m.rules m2 m.literals m1 k6 s6) fun k9 _=>.ite (fun _=>.pure ⟨good,by simp only; omega,by simp⟩) (fun _=>.bind (Zh e.binds h1 m.rules m2 m.literals m1 k6 s6) fun k11 yK=>.ite (fun _=>.pure ⟨good,by simp only; omega,by simp⟩) (fun hc=>?_))))));refine .bind (Dn (Dk (yK (by simpa using hc))) _ _) fun k13 ⟨s13,_,_⟩=>.bv (ru s13) (.ite (fun _=>.pure ⟨good,by simp only; omega,by simp⟩) (fun hv=>.pure ⟨good,by simp only; omega,fun _=>⟨rfl,by omega,Dk (by simpa using hv)⟩⟩))
def PX (m c:Nat):Prop:=∀(e:Expansion) (a3:Int) (f:Form),vI e→a3≤60→(a3-e.steps).toNat≤m→E8 f→cF f≤c→Ex (fun n=>iL n e f a3) (xR e (cF f))
theorem Vf:∀{a b:List Core},vJ (a++b)=vJ a+vJ b
 | [],b=>by simp[vJ]
 | x::r,b=>by simp only[List.cons_append,vJ,Vf (a:=r)]; omega
theorem S9 {m c:Nat} (hp:PX m c) (e:Expansion) (h:vI e) (fs:List Form) (hfs:∀x∈fs,E8 x∧cF x≤c) (hl:fs.length≤400) (a3:Int) (ha:a3≤60) (hm:(a3-e.steps).toNat≤m):Ex (fun n=>sD n e fs a3) (ahn e (jV fs)):=by
 refine .succ ?_;simp only[sD];refine Ex.iter (μ:=fun s=>((fs.length:Int)-s.2.1).toNat) (I:=fun s=>∃(j:Nat) (p q:List Form),s.2.1=(j:Int)∧p++q=fs∧p.length=j∧s.1.length=j∧vI ⟨s.2.2.1,s.2.2.2.1,s.2.2.2.2.1,s.2.2.2.2.2.1,s.2.2.2.2.2.2⟩∧e.steps≤s.2.2.2.2.2.2∧((vJ s.1+s.1.length:Nat):Int)≤20500*(jV p:Int)+8220500*(s.2.2.2.2.2.2-e.steps)) _ ⟨0,[],fs,rfl,rfl,rfl,rfl,h,by simp,by simp[vJ,jV]⟩ ?_;rintro ⟨cs,i,bs,ms,sc,id,st⟩ ⟨j,p,q,i1,i2,i3,i4,i5,i6,i7⟩;simp only at i1 i2 i3 i4 i5 i6 i7 ⊢;subst i1;have hpl:p.length+q.length=fs.length:=by rw[← i2]; simp
 have hsum:jV fs=jV p+jV q:=by rw[← i2,Eo]
 refine .ite (fun hlt=>?_) (fun hge=>.fo ⟨i5,i6,by simp only; omega⟩);cases q with
 | nil=>simp only[List.length_nil] at hpl; omega
 | cons x q=>
  have hx:fs[j]? = some x:=by rw[← i2,← i3]; simp
  obtain⟨v1,v2⟩:=hfs x (List.mem_of_getElem? hx);have hle:=i5.2.2.2.2.2;have hle0:=i5.2.2.2.2.1;simp only at hle hle0;simp only[jV] at hsum;refine .bp x (dX hx) (.bind (hp _ a3 x i5 ha (by simp only; omega) v1 v2) fun k ⟨x1,x2,x3⟩=>?_);simp only at x2 x3;refine .ite (fun _=>.fo ⟨x1,by simp only; omega,by simp only; omega⟩) (fun _=>.bp _ (dK (by simp; omega)) (.fg ⟨⟨j+1,p++[x],q,by rw[lQ (by omega) (by omega)]; rfl,by rw[← i2]; simp,by simp[i3],by simp[i4],x1,by simp only; omega,?_⟩,?_⟩))
  ·have e1:vJ (cs++[k.2.1])=vJ cs+wC k.2.1:=by rw[Vf]; simp[vJ]
   have e2:jV (p++[x])=jV p+cF x:=by rw[Eo]; simp[jV]
   simp only[e1,e2,List.length_append,List.length_cons,List.length_nil];omega
  ·simp only;rw[lQ (by omega) (by omega)]; omega
theorem Zm {m c:Nat} (hp:PX m c) (e:Expansion) (h:vI e) (ps:List Form) (hps:∀x∈ps,E8 x) (hl:ps.length≤400) (f:Form) (hf:E8 f) (hc:cF f≤c) (a3:Int) (ha:a3≤60) (hm:(a3-e.steps).toNat≤m):Ex (fun n=>vF n e ps f a3) (xR e (1+cF f)):=by
 refine .succ ?_;simp only[vF,lK,Option.bind_some];have h0:vI ⟨e.binds,e.macros,aY (e.scope+1),e.id,e.steps⟩:=h;refine .ite (fun _=>.pure (.z h0 (by simp) (by omega))) (fun _=>?_);refine Ex.bK (P:=fun(o:(Expansion×Core×Int)⊕((List Bind)×(List Macro)×Int×Int×Int×(List Int)))=>match o with
  | .inl w=>xR e (1+cF f) w
  | .inr s=>vI ⟨s.1,s.2.1,s.2.2.1,s.2.2.2.1,s.2.2.2.2.1⟩∧s.2.2.2.2.1=e.steps∧s.2.2.2.2.2.length≤400) ?_ (fun w h=>h) ?_
 ·refine Ex.cO (I:=fun i q s=>ps.drop i=q∧vI ⟨s.1,s.2.1,s.2.2.1,s.2.2.2.1,s.2.2.2.2.1⟩∧s.2.2.2.2.1=e.steps∧s.2.2.2.2.2.length=i) ⟨rfl,h0,rfl,rfl⟩ ?_ (fun s h=>⟨h.2.1,h.2.2.1,by rw[h.2.2.2]; exact hl⟩);rintro i x q ⟨bs,ms,sc,id,st,ids⟩ ⟨hd,s1,s2,s3⟩;simp only at s1 s2 s3 ⊢;obtain⟨_,g2,g3,hx⟩:=jC hd;refine .ite (fun _=>.fo (.z s1 (by simp only; omega) (by omega))) (fun _=>.bind (Dn (hps x hx) _ _) fun k13 ⟨q1,_,_⟩=>.bv (ru q1) (.ite (fun _=>.fo (.z s1 (by simp only; omega) (by omega))) (fun _=>.bind (Ve _ s1 k13 q1) fun k16 ⟨b1,b2,_⟩=>?_)));simp only at b2;exact .ite (fun _=>.fo (.z b1 (by omega) (by omega))) (fun _=>.bp _ (dK (by simp; omega)) (.fg ⟨g2,b1,by simp only; omega,by simp; omega⟩))
 ·rintro ⟨bs,ms,sc,id,st,ids⟩ ⟨s1,s2,s3⟩;simp only at s1 s2 s3 ⊢;refine .bind (Dn hf _ _) fun k19 ⟨q1,q2,_⟩=>.bv (ru q1) (.ite (fun _=>.pure (.z s1 (by simp only; omega) (by omega))) (fun hv=>?_));refine .bind (hp _ a3 k19 s1 ha (by simp only; omega) (Dk (by simpa using hv)) (by omega)) fun k22 ⟨x1,x2,x3⟩=>.pure ⟨x1,by simp only at x2 ⊢; omega,?_⟩;simp only at x2 x3;simp only[wC,vJ,wF,qg,List.length_nil,List.length_cons];omega
theorem Wx {m c:Nat} (hp:PX m c) (e:Expansion) (h:vI e) (ps vs:List Form) (hps:∀x∈ps,E8 x) (hvs:∀x∈vs,E8 x) (hl:ps.length≤400) (hlv:vs.length=ps.length) (f:Form) (hf:E8 f) (hc:cF f≤c) (a3:Int) (ha:a3≤60) (hm:(a3-e.steps).toNat≤m):Ex (fun n=>pK n e ps vs f a3) (xR e (1+cF f)):=by
 refine .succ ?_;simp only[pK,lK,Option.bind_some];have h0:vI ⟨e.binds,e.macros,aY (e.scope+1),e.id,e.steps⟩:=h;refine .ite (fun _=>.pure (.z h0 (by simp) (by omega))) (fun _=>?_);refine Ex.bK (P:=fun(o:(Expansion×Core×Int)⊕((List Bind)×(List Macro)×Int×Int×Int))=>match o with
  | .inl w=>xR e (1+cF f) w
  | .inr s=>vI ⟨s.1,s.2.1,s.2.2.1,s.2.2.2.1,s.2.2.2.2⟩∧s.2.2.2.2=e.steps) ?_ (fun w h=>h) ?_
 ·refine Ex.cO (I:=fun i q s=>ps.drop i=q∧vI ⟨s.1,s.2.1,s.2.2.1,s.2.2.2.1,s.2.2.2.2⟩∧s.2.2.2.2=e.steps) ⟨rfl,h0,rfl⟩ ?_ (fun s h=>⟨h.2.1,h.2.2⟩);rintro i x q ⟨bs,ms,sc,id,st⟩ ⟨hd,s1,s2⟩;simp only at s1 s2 ⊢;obtain⟨_,g2,g3,hx⟩:=jC hd;obtain⟨y,hy,hym⟩:=cZ (l:=vs) (i:=(i:Int)) (by omega) (by omega);refine .bind (Dn (hps x hx) _ _) fun k12 ⟨q1,_,_⟩=>.bp y hy (.bind (Dn (hvs y hym) _ _) fun k14 ⟨r1,_,_⟩=>.ite (fun _=>.fo (.z s1 (by simp only; omega) (by omega))) (fun _=>?_));refine Ex.bind (P:=fun _=>True) (.bv (ru q1) (.ite (fun _=>.pure trivial) (fun _=>.bv (ru r1) (.pure trivial)))) ?_;intro o _;refine .ite (fun _=>.fo (.z s1 (by simp only; omega) (by omega))) (fun _=>.bind (Zi k14 r1) fun k18 lW=>.ite (fun _=>.fo (.z s1 (by simp only; omega) (by omega))) (fun hc18=>.bind (Ve _ s1 k12 q1) fun k20 ⟨b1,b2,b3⟩=>?_));simp only at b2;refine .ite (fun _=>.fo (.z b1 (by omega) (by omega))) (fun SH=>?_);have b3:=b3 (by simpa using SH);obtain⟨c1,c2,c3,c4,c5,c6⟩:=b1;have hm18:=lW (by simpa using hc18);refine .bp _ (oD (by omega)) (.bp _ (dK (by simp; omega)) (.fg ⟨g2,⟨c1,c2,by simp; omega,fun m hm=>?_,c5,c6⟩,by simp only; omega⟩));rcases List.mem_append.1 hm with hm | hm
  ·exact c4 m hm
  ·rw[List.mem_singleton.1 hm]; exact hm18
 ·rintro ⟨bs,ms,sc,id,st⟩ ⟨s1,s2⟩;simp only at s1 s2 ⊢;refine .bind (Dn hf _ _) fun k19 ⟨q1,q2,_⟩=>.bv (ru q1) (.ite (fun _=>.pure (.z s1 (by simp only; omega) (by omega))) (fun hv=>?_));refine .bind (hp _ a3 k19 s1 ha (by simp only; omega) (Dk (by simpa using hv)) (by omega)) fun k22 ⟨x1,x2,x3⟩=>.pure ⟨x1,by simp only at x2 ⊢; omega,?_⟩;simp only at x2 x3 ⊢;omega
theorem Zn (f:Form) (hf:E8 f):Ex (fun n=>vw n f) (fun r=>(∀x∈r.1,E8 x)∧(∀x∈r.2.1,E8 x)∧r.1.length≤400∧r.2.1.length=r.1.length∧jV r.2.1+1≤cF f):=by
 have hl:=hf.sm.len;have hc:=sG f;unfold vw;have main:Ex (fun n=>Mx.cO (fun(s2:(List Form)×(List Form)) (i1:Nat) (x4:Form)=>(Option.bind ((if ¬x4.kind=3 then some true else some (decide (¬(x4.kids.length:Int)=2))):Option (Bool)) (fun(jI:Bool)=>(if jI=true then some (Sum.inl (s2.1,s2.2,false)) else(gG x4.kids 0).bind fun e12=>(jQ 80 s2.1 [e12]).bind fun z13=>(gG x4.kids 1).bind fun e14=>(jQ 80 s2.2 [e14]).bind fun Et=>some (Sum.inr (z13,Et)))):Option (((List Form)×(List Form)×Bool)⊕((List Form)×(List Form))))) 0 f.kids ([],[])) (fun o=>match o with
   | .inl r=>(∀x∈r.1,E8 x)∧(∀x∈r.2.1,E8 x)∧r.1.length≤400∧r.2.1.length=r.1.length∧jV r.2.1+1≤cF f
   | .inr r=>(∀x∈r.1,E8 x)∧(∀x∈r.2,E8 x)∧r.1.length≤400∧r.2.length=r.1.length∧jV r.2+1≤cF f):=by
  refine Ex.cO (I:=fun i q r=>f.kids.drop i=q∧(∀x∈r.1,E8 x)∧(∀x∈r.2,E8 x)∧r.1.length=i∧r.2.length=i∧jV r.2+jV q+1≤cF f) ⟨rfl,by simp,by simp,rfl,rfl,by simp[jV]; omega⟩ ?_ (fun r h=>⟨h.2.1,h.2.2.1,by rw[h.2.2.2.1]; exact hl,by rw[h.2.2.2.1,h.2.2.2.2.1],by have:=h.2.2.2.2.2; simp only[jV] at this; omega⟩);rintro i x q ⟨a,b⟩ ⟨hd,a1,b1,a2,b2,b3⟩;simp only[jV] at a1 b1 a2 b2 b3 ⊢;obtain⟨_,g2,g3,hx⟩:=jC hd;have hxv:=hf.kid hx;refine Ex.bind (P:=fun o=>o=false→x.kids.length=2) (.ite (fun _=>.pure (by simp)) (fun _=>.pure (by simp; omega))) ?_;intro o ho;refine .ite (fun _=>.fo ⟨a1,b1,by simp only; omega,by simp only; omega,by simp only; omega⟩) (fun hc'=>?_);have h2:=ho (by simpa using hc');obtain⟨y,z,hyz⟩:∃y z,x.kids=[y,z]:=by
   match hk:x.kids,h2 with
   | [y,z],_=>exact⟨y,z,rfl⟩
  have hy:=hxv.kid (x:=y) (by simp[hyz]);have hz:=hxv.kid (x:=z) (by simp[hyz]);have hcx:cF x=1+(cF y+cF z):=by rw[sG,hyz]; simp[jV]
  refine .bp y (Zj (by simp[hyz])) (.bp _ (dK (by simp; omega)) (.bp z (Qu (by simp[hyz])) (.bp _ (dK (by simp; omega)) (.fg ⟨g2,fun w hw=>?_,fun w hw=>?_,by simp; omega,by simp; omega,?_⟩))))
  ·rcases List.mem_append.1 hw with hw | hw
   ·exact a1 w hw
   ·rw[List.mem_singleton.1 hw]; exact hy
  ·rcases List.mem_append.1 hw with hw | hw
   ·exact b1 w hw
   ·rw[List.mem_singleton.1 hw]; exact hz
  ·simp only[Eo,jV]; omega
 exact Ex.bK main (fun w h=>h) (fun t h=>.pure h)
theorem ae8 {α:Type} {l:List α} (h:1≤l.length):JR l 1 (l.length:Int)=some (l.drop 1):=by
 unfold JR;rw[if_pos (by omega)];congr 1;rw[List.take_of_length_le]
 ·rfl
 ·rw[Int.toNat_natCast,List.length_drop]; exact Nat.le_refl _
theorem Zo (l:List Form):jV (l.drop 1)≤jV l:=by
 cases l with
 | nil=>simp
 | cons x r=>simp only[List.drop_succ_cons,List.drop_zero,jV]; omega
theorem ln2 {l:List Form} (h:(l.length:Int)=2):∃a b,l=[a,b]:=by
 match l,h with
 | [a,b],_=>exact⟨a,b,rfl⟩
theorem ln3 {l:List Form} (h:(l.length:Int)=3):∃a b c,l=[a,b,c]:=by
 match l,h with
 | [a,b,c],_=>exact⟨a,b,c,rfl⟩
theorem ar1 {a s:Int} {m:Nat} (h:(a-s).toNat≤m) (h2:s<a):m-1<m:=by omega
theorem ar2 {a s t:Int} {m:Nat} (h:(a-s).toNat≤m) (h2:t=s+1):(a-t).toNat≤m-1:=by omega
theorem abe {m c:Nat} (hp:PX m c) (e:Expansion) (h:vI e) (f:Form) (hf:E8 f) (hc:cF f≤c+1) (k a3:Int) (ha:a3≤60) (hm:(a3-e.steps).toNat≤m):Ex (fun n=>uF n e f k a3) (xR e (cF f)):=by
 have he:=sG f;have hl:=hf.sm.len;have hkc:∀x∈f.kids,E8 x∧cF x≤c:=fun x hx=>⟨hf.kid hx,by have:=rJ hx; omega⟩
 refine .succ ?_;simp only[uF];refine Ex.bind (P:=fun o=>o=true→(f.kids.length:Int)=2) (.ite (fun _=>.pure (by simp)) (fun _=>.pure (by simp))) ?_;intro o1 ho1;refine .ite (fun hc1=>?_) (fun _=>?_)
 ·obtain⟨a,b,hab⟩:=ln2 (ho1 hc1);have hb:=hf.kid (x:=b) (by simp[hab]);have hw:=hb.sm.w;refine .bp b (Qu (by simp[hab])) (.bind (Qv b (by omega)) fun k4 hk4=>.pure ⟨h,by simp,?_⟩);simp only[wC,vJ,List.length_nil]; omega
 refine Ex.bind (P:=fun o=>o=true→(f.kids.length:Int)=4) (.ite (fun _=>.pure (by simp)) (fun _=>.pure (by simp))) ?_;intro o5 ho5;refine .ite (fun hc5=>?_) (fun _=>?_)
 ·have h4:=ho5 hc5;refine .bp _ (ae8 (by omega)) (.bind (S9 hp e h _ (fun x hx=>hkc x (List.mem_of_mem_drop hx)) (by simp; omega) a3 ha hm) fun k8 ⟨x1,x2,x3⟩=>.pure ⟨x1,x2,?_⟩);have:=Zo f.kids;simp only[wC,wF,qg,List.length_nil]; omega
 refine Ex.bind (P:=fun o=>o=true→(f.kids.length:Int)=3) ?_ ?_
 ·refine .ite (fun _=>.ite (fun h3=>?_) (fun _=>.pure (by simp))) (fun _=>.pure (by simp));obtain⟨a,b,d,hab⟩:=ln3 h3;exact .bp b (Qu (by simp[hab])) (.pure fun _=>h3)
 intro o9 ho9;refine .ite (fun fV=>?_) (fun _=>?_)
 ·obtain⟨a,b,d,hab⟩:=ln3 (ho9 fV);have hb:=hkc b (by simp[hab]);have hd:=hkc d (by simp[hab]);have hs:jV f.kids=cF a+(cF b+cF d):=by rw[hab]; simp[jV]
  refine .bp b (Qu (by simp[hab])) (.bp d (Zk (by simp[hab])) (.bind (Zm hp e h b.kids (fun x hx=>hb.1.kid hx) hb.1.sm.len d hd.1 hd.2 a3 ha hm) fun k13 ⟨x1,x2,x3⟩=>.pure ⟨x1,x2,?_⟩));simp only; omega
 refine Ex.bind (P:=fun o=>o=false→(f.kids.length:Int)=3) ?_ ?_
 ·have:∀{c:Prop} [Decidable c],Ex (fun _=>some (decide (¬(f.kids.length:Int)=3))) (fun o=>o=false→(f.kids.length:Int)=3):=.pure fun e=>by simpa using e
  exact .ite (fun _=>.ite (fun _=>.pure (by simp)) (fun _=>this (c:=True))) (fun _=>this (c:=True))
 intro BD ahp;refine .ite (fun _=>.pure (.z h (by simp) (by omega))) (fun ql=>?_);obtain⟨a,b,d,hab⟩:=ln3 (ahp (by simpa using ql));have hb:=hkc b (by simp[hab]);have hd:=hkc d (by simp[hab]);have hs:jV f.kids=cF a+(cF b+cF d):=by rw[hab]; simp[jV]
 refine .bp b (Qu (by simp[hab])) (.bind (Zn b hb.1) fun k17 ⟨p1,p2,p3,p4,p5⟩=>.ite (fun _=>.pure (.z h (by simp) (by omega))) (fun _=>.ite (fun _=>?_) (fun _=>?_)))
 ·refine .bp d (Zk (by simp[hab])) (.bind (Wx hp e h k17.1 k17.2.1 p1 p2 p3 p4 d hd.1 hd.2 a3 ha hm) fun k21 ⟨x1,x2,x3⟩=>.pure ⟨x1,x2,?_⟩);simp only; omega
 ·refine .bind (S9 hp e h k17.2.1 (fun x hx=>⟨p2 x hx,by have:=rJ hx; omega⟩) (by omega) a3 ha hm) fun k22 ⟨x1,x2,x3⟩=>?_;have hst:=x1.2.2.2.2.2;refine .ite (fun _=>.pure (.z x1 x2 (by omega))) (fun _=>.bp d (Zk (by simp[hab])) (.bind (Zm hp k22.1 x1 k17.1 p1 p3 d hd.1 hd.2 a3 ha (by omega)) fun k25 ⟨y1,y2,y3⟩=>?_));have hst2:=y1.2.2.2.2.2;have hst3:=h.2.2.2.2.1;have hf4:=hf.2;refine .bp _ (dK ?_) (.pure ⟨y1,by simp only; omega,?_⟩)
  ·simp only[List.length_cons,List.length_nil]; omega
  ·simp only[wC,vJ,wF,qg,List.length_nil,List.length_append,List.length_cons,List.cons_append,List.nil_append]; omega
theorem Zp (m c:Nat) (ihm:∀m',m'<m→PX m' 400) (ihc:∀c',c'<c→PX m c'):PX m c:=by
 intro e a3 f h ha hm hf hc;have he:=sG f;have hl:=hf.sm.len;obtain⟨t1,t2,t3⟩:=zi.1 hf.1;have hp:PX m (cF f-1):=ihc _ (by omega);refine .succ ?_;simp only[iL];refine .ite (fun _=>.pure ⟨h,by simp,?_⟩) (fun _=>.ite (fun _=>.bind (abb e h f t1) fun k ⟨x1,x2,x3⟩=>.pure ⟨x1,x2,?_⟩) (fun _=>.ite (fun _=>.pure (.z h (by simp) (by omega))) (fun hk=>?_)))
 ·simp only[wC,vJ,wF,qg,List.length_nil]; omega
 ·simp only; omega
 obtain⟨e6,UK,hm6⟩:=cZ (l:=f.kids) (i:=0) (by omega) (by omega);refine .bp e6 UK ?_;refine Ex.bK (P:=fun(o:(Expansion×Core×Int)⊕Unit)=>match o with
  | .inl w=>xR e (cF f) w
  | .inr _=>True) ?_ (fun w h=>h) (fun _ _=>?_)
 ·refine .ite (fun _=>.bind (Vd e h e6) fun k10 hk10=>.ite (fun _=>.pure (.z h (by simp) (by omega))) (fun _=>.ite (fun _=>?_) (fun _=>.ite (fun h2=>?_) (fun _=>.pure trivial)))) (fun _=>.pure trivial)
  ·exact .bind (abe hp e h f hf (by omega) k10.2 a3 ha hm) fun k13 hk=>.pure hk
  ·refine .bind (f:=fun n=>qV n e f k10.2 a3) (P:=xR e (cF f)) ?_ (fun k15 hk=>.pure hk);refine .succ ?_;simp only[qV];refine .bind (abd e h f hf k10.2 a3 ha (hk10 h2)) fun k1 ⟨s1,s2,s3⟩=>.ite (fun _=>.pure (.z s1 s2 (by omega))) (fun hc1=>?_);obtain⟨q1,q2,q3⟩:=s3 (by simpa using hc1);refine .bind (ihm (m-1) (ar1 hm q2) k1.1 a3 k1.2.1 s1 ha (ar2 hm q1) q3 q3.2) fun k3 ⟨x1,x2,x3⟩=>.pure ⟨x1,by simp only; omega,?_⟩;have:=q3.2;simp only; omega
 ·refine .bind (S9 hp e h f.kids (fun x hx=>⟨hf.kid hx,by have:=rJ hx; omega⟩) hl a3 ha hm) fun k8 ⟨x1,x2,x3⟩=>.pure ⟨x1,x2,?_⟩;simp only[wC,wF,qg,List.length_nil]; omega
theorem ads:∀m c,PX m c:=by
 intro m
 induction m using Nat.strongRecOn with
 | ind m ihm=>
  intro c
  induction c using Nat.strongRecOn with
  | ind c ihc=>exact Zp m c (fun m' h=>ihm m' h 400) (fun c' h=>ihc c' h)
theorem Zq:Ex (fun n=>jk n) (fun r=>vI r∧r.steps=0):=by
 unfold jk yQ;refine .bp _ rfl ?_;refine Ex.iter (μ:=fun s=>(6-s.1).toNat) (I:=fun s=>1≤s.1∧s.1≤6∧(s.2.length:Int)=s.1-1∧∀b∈s.2,ae5 b) (1,[]) ⟨by simp,by simp,by simp,by simp⟩ ?_;rintro ⟨i,s⟩ ⟨i0,i1,i2,i3⟩;simp only at i0 i1 i2 i3 ⊢;refine .ite (fun hlt=>?_) (fun hge=>?_)
 ·obtain⟨x,hx,hm⟩:=cZ (l:=[[],[108,97,109,98,100,97],[105,102],[113,117,111,116,101],[108,101,116],iI]) (by omega) hlt;have hxl:x.length≤12:=(by decide:∀x∈([[],[108,97,109,98,100,97],[105,102],[113,117,111,116,101],[108,101,116],iI]:List (List UInt8)),x.length≤12) x hm;simp only[List.length_cons,List.length_nil] at hlt;refine .bp x hx (.bp _ (dK (by simp; omega)) (.fg ⟨⟨?_,?_,?_,fun b hb=>?_⟩,?_⟩))
  all_goals try simp only
  all_goals try rw[lQ (by omega) (by omega)]
  ·omega
  ·omega
  ·simp; omega
  ·rcases List.mem_append.1 hb with hb | hb
   ·exact i3 b hb
   ·rw[List.mem_singleton.1 hb]; exact⟨hxl,by simp⟩
  ·omega
 ·exact .fo ⟨⟨⟨by simp only; omega,i3⟩,by simp only; omega,by simp,by simp,by simp,by simp⟩,rfl⟩
def Zr:Core:=⟨0,0,[],0,[],⟨0,[],0,[],[]⟩,[]⟩
def adt (r:Core×Int):Prop:=wC r.1≤600000000∧(r.2=0→iV r.1=true)∧(¬r.2=0→r.1=Zr)
theorem adu (f:Form) (hw:wF f≤1000000000) (b:Int):Ex (fun n=>AL n f b) (fun r=>adt r.2):=by
 have hcl:=UM f;have hz:∀k:Int,¬k=0→adt (Zr,k):=fun k hk=>⟨by rw[show wC Zr=0 from wzC]; omega,fun h=>absurd h hk,fun _=>rfl⟩
 unfold AL;refine Ex.bind (P:=fun o=>o=false→gU f=true∧0≤b∧b≤60) (.bv (GZ f (Jh f (by omega)) (by omega)) (.ite (fun _=>.pure (by simp)) (fun hv=>.ite (fun _=>.pure (by simp)) (fun hb=>Ex.pure (v:=decide (b>60)) fun h=>⟨by simpa using hv,by omega,by have h:=of_decide_eq_false h; omega⟩)))) ?_;intro o ho;refine .ite (fun _=>.pure (hz 6 (by omega))) (fun hc=>?_);obtain⟨hv,hb0,hb1⟩:=ho (by simpa using hc);refine .bind Zq fun k3 ⟨h3,hs⟩=>.bind (ads 100 400 k3 b f h3 hb1 (by omega) (Dk hv) (Dk hv).2) fun k4 ⟨x1,x2,x3⟩=>?_;have hst:=x1.2.2.2.2.2;have hcf:=(Dk hv).2;refine .ite (fun hk=>.pure (hz _ hk)) (fun _=>.bv (U0 k4.2.1 (by omega)) (.ite (fun _=>.pure (hz 4 (by omega))) (fun hv4=>.pure ⟨by simp only; omega,fun _=>by simpa using hv4,fun h=>absurd rfl h⟩)))
theorem Wy (f:Form) (hw:wF f≤1000000000) (b:Int):Ex (fun n=>oC n f b) adt:=by
 unfold oC;exact .bind (adu f hw b) fun k1 hk1=>.bv (NI k1.2.1 (Nat.le_trans hk1.1 (by omega))) (.pure hk1)
theorem Vg:∀(l:List Core) (i:Nat) (x y:Core),l[i]? = some x→vJ (l.set i y)+wC x=vJ l+wC y
 | [],i,x,y,h=>by simp at h
 | a::l,0,x,y,h=>by simp at h; subst h; simp only[List.set_cons_zero,vJ]; omega
 | a::l,i+1,x,y,h=>by
  have:=Vg l i x y (by simpa using h);simp only[List.set_cons_succ,vJ]; omega
theorem Tc (c:Core) (hw:wC c≤10000000) (r:aZ) (h:Gd r (4*((wC c:Int)+1))):Ex (fun n=>lM n c r) (fun k=>Sp r k.2 (4*((wC c:Int)+1))∧wC k.1≤wC c+2):=by
 have he:=DY c;refine .succ ?_;simp only[lM];refine .bv (NI c (by omega)) ?_;refine Ex.bind (P:=fun o=>Sp r o.2 1∧(o.1=true→1≤c.kids.length)) ?_ ?_
 ·refine .ite (fun hl=>.bind (iY h (by omega)) fun k15 ⟨s1,_⟩=>.pure ⟨s1,fun _=>by omega⟩) (fun hl=>.pure ⟨.refl (by omega),fun h=>by cases h⟩)
 rintro ⟨b0,r1⟩ ⟨s1,hb⟩;simp only at s1 hb ⊢;have g1:Gd r1 (4*((wC c:Int)+1)-1):=h.to s1 (by omega);refine .ite (fun hb0=>?_) (fun _=>?_)
 ·have hl:=hb hb0;refine .bind (iY g1 (by omega)) fun k4 ⟨s2,hv⟩=>?_;obtain⟨v0,v1⟩:=hv (by omega);have hv:k4.1.toNat<c.kids.length:=by omega
  have hx:=List.getElem?_eq_getElem hv;have hxm:c.kids[k4.1.toNat]∈c.kids:=List.getElem_mem hv;have hxw:=yE hxm;refine .bp () (ER v0 hv) (.bp _ hx (.bind (Tc _ (by omega) k4.2 (g1.to s2 (by omega))) fun k8 ⟨s3,w3⟩=>.bp () (ER v0 hv) (.pure ⟨?_,?_⟩)))
  ·exact s1.trans (s2.trans s3 (D:=1+4*((wC (c.kids[k4.1.toNat]):Int)+1)) (by omega)) (by omega)
  ·have:=Vg c.kids k4.1.toNat _ k8.1 hx;simp only[wC,List.length_set]; omega
 ·refine .bind (iY g1 (by omega)) fun k11 ⟨s2,_⟩=>?_;have g2:Gd k11.2 1:=g1.to s2 (by omega);refine Ex.bind (P:=fun o=>Sp k11.2 o.2.2.2.2 1∧o.2.2.2.1.length+o.2.2.1.length≤c.ids.length+c.name.length+2) ?_ ?_
  ·refine .ite (fun _=>?_) (fun _=>.ite (fun _=>?_) (fun _=>.ite (fun _=>?_) (fun _=>.ite (fun _=>?_) (fun _=>?_))))
   ·refine .bind (yc (by simp) g2 (by omega)) fun k ⟨s3,_⟩=>.pure ⟨s3,by simp only; omega⟩
   ·refine .bind (yc (by simp) g2 (by omega)) fun k ⟨s3,_⟩=>.pure ⟨s3,by simp only; omega⟩
   ·refine .bind (yc (by simp) g2 (by omega)) fun k ⟨s3,_⟩=>.bp _ (dK (by simp; omega)) (.pure ⟨s3,by simp; omega⟩)
   ·refine .bind (aa1 (by simp) g2 (by omega)) fun k ⟨s3,hm⟩=>?_;have:k.1.length≤1:=by
     simp only[List.mem_cons,List.not_mem_nil,or_false] at hm;rcases hm with h | h | h <;> rw[h] <;> decide
    exact .pure ⟨s3,by simp only; omega⟩
   ·exact .pure ⟨.refl (by omega),by simp only; omega⟩
  ·rintro o ⟨s3,w3⟩;exact .pure ⟨s1.trans (s2.trans s3 (D:=2) (by omega)) (by omega),by simp only[wC]; omega⟩
termination_by SizeOf.sizeOf c
decreasing_by exact qL hxm
theorem NU (b:List UInt8):Ex (fun n=>qY n b) (fun c=>wC c≤3000):=by
 unfold qY;refine .bind (SV b) fun k1 g=>.bind (yc (by simp) g (by omega)) fun k2 ⟨s2,hm⟩=>?_;have g2:Gd k2.2 900000000:=g.to s2 (by omega);obtain⟨d,hd,hk⟩:∃d:Nat,d≤4∧k2.1=(d:Int):=by
  simp only[List.mem_cons,List.not_mem_nil,or_false] at hm;rcases hm with h | h | h
  ·exact⟨3,by omega,h⟩
  ·exact⟨4,by omega,h⟩
  ·exact⟨2,by omega,h⟩
 rw[hk];have hB:bC d≤10000∧WI d≤2500:=by
  have:d=0∨d=1∨d=2∨d=3∨d=4:=by omega
  rcases this with rfl | rfl | rfl | rfl | rfl <;> simp[bC,WI]
 refine .bind (aa3 d (by omega) [] 0 k2.2 (by simp) (g2.to (.refl (Int.le_refl 0)) (by omega))) fun k3 ⟨s3,w3,_⟩=>?_;have g3:Gd k3.2.2 800000000:=g2.to s3 (by omega);refine .bind (iY g3 (by omega)) fun k4 ⟨s4,_⟩=>.ite (fun _=>?_) (fun _=>.pure (by omega));have g4:Gd k4.2 700000000:=g3.to s4 (by omega);refine .bind (Tc k3.1 (by omega) k4.2 (g4.to (.refl (Int.le_refl 0)) (by omega))) fun k6 ⟨s6,w6⟩=>?_;have g6:Gd k6.2 600000000:=g4.to s6 (by omega);exact .bind (Tc k6.1 (by omega) k6.2 (g6.to (.refl (Int.le_refl 0)) (by omega))) fun k7 ⟨_,w7⟩=>.pure (by omega)
def t8:List (List UInt8):=[ni,ny,mX,mW,nO,mY,[40,49,32,50,41],ng,uT,nC,qh,nY]
theorem adv:∀x∈t8,x.length≤500:=by decide
theorem abf (r:aZ) (g:Gd r 200000):Ex (fun n=>xY n r) (fun k=>Sp r k.2 200000∧wF k.1≤100000):=by
 unfold xY yY;refine .bp t8 rfl (.bind (iY g (by omega)) fun k2 ⟨s1,_⟩=>?_);have g1:Gd k2.2 150000:=g.to s1 (by omega);refine .ite (fun _=>?_) (fun _=>?_)
 ·refine .bind (iY g1 (by omega)) fun k4 ⟨s2,hv⟩=>?_;obtain⟨v0,v1⟩:=hv (by decide);obtain⟨x,hx,hm⟩:=cZ v0 v1;have hl:=adv x hm;refine .bp x hx (.bind (NJ x (by omega)) fun k6 hk=>.pure ⟨s1.trans s2 (by omega),by simp only; omega⟩)
 ·exact .bind (aa5 k2.2 (g1.to (.refl (Int.le_refl 0)) (by omega))) fun k8 ⟨s8,w8⟩=>.pure ⟨s1.trans s8 (by omega),w8⟩
theorem Td (b:List UInt8):Ex (fun n=>kD n b) (fun k=>wC k.1≤600000000∧(wC k.1≤3000∨iV k.1=true)∧0≤k.2∧k.2≤3001):=by
 unfold kD;refine .bind (SV b) fun k1 g=>.bind (iY g (by omega)) fun k2 ⟨s2,_⟩=>?_;have g2:Gd k2.2 900000000:=g.to s2 (by omega);refine .ite (fun _=>.bind (NU b) fun k4 h4=>.pure ⟨by simp only; omega,.inl h4,by simp only; omega,by simp only; omega⟩) (fun _=>?_);refine .bind (abf k2.2 (g2.to (.refl (Int.le_refl 0)) (by omega))) fun k5 ⟨s5,w5⟩=>.bind (Wy k5.1 (by omega) 20) fun k6 ⟨e1,e2,_⟩=>?_;have g5:Gd k5.2 800000000:=g2.to s5 (by omega);refine Ex.bind (P:=fun c=>wC c≤600000000∧(wC c≤3000∨iV c=true)) (.ite (fun _=>.bind (NU b) fun k10 h10=>.pure ⟨by omega,.inl h10⟩) (fun h0=>.pure ⟨e1,.inr (e2 (by simpa using h0))⟩)) ?_;rintro c ⟨c1,c2⟩;refine .bind (yc (by simp) g5 (by omega)) fun k8 ⟨_,hm⟩=>.pure ⟨c1,c2,?_,?_⟩
 all_goals
  simp only[List.mem_cons,List.not_mem_nil,or_false] at hm;simp only;omega
theorem Zt (b:List UInt8):Ex (fun n=>vG n b) (fun c=>wC c≤600000000∧(wC c≤3000∨iV c=true)):=by
 unfold vG;exact .bind (Td b) fun k h=>.pure ⟨h.1,h.2.1⟩
mutual
def Qw (id:Int):Core→Nat
 | ⟨k,i,_,_,_,_,kids⟩=>(if k=1∧i=id then 1 else 0)+Gx id kids
def Gx (id:Int):List Core→Nat
 | []=>0
 | x::r=>Qw id x+Gx id r
end
theorem Tf (id:Int) (c:Core):Qw id c=(if c.kind=1∧c.id=id then 1 else 0)+Gx id c.kids:=by cases c; simp only[Qw]
mutual
theorem Ti (id:Int):∀c:Core,Qw id c≤cC c
 | ⟨k,i,nm,n,ids,dt,kids⟩=>by have:=NV id kids; simp only[Qw,cC]; split <;> omega
theorem NV (id:Int):∀l:List Core,Gx id l≤Cm l
 | []=>by simp[Gx]
 | x::r=>by have:=Ti id x; have:=NV id r; simp only[Gx,Cm]; omega
end
theorem Qx (id:Int) (c:Core) (w:Nat) (hw:w+cC c≤1000000000):fU (fun n=>dQ n c id (w:Int)) ((w+Qw id c:Nat):Int):=by
 have hc:=F7 c;have hu:=Ti id c;refine .succ ?_;simp only[dQ,tV];refine Ex.zL ?_;refine Ex.bind (P:=fun s=>s=((w+(if c.kind=1∧c.id=id then 1 else 0):Nat):Int)) ?_ ?_
 ·refine Ex.bind (P:=fun o=>o=decide (c.kind=1∧c.id=id)) ?_ ?_
  ·by_cases h:c.kind=1
   ·exact .pos h (.pure (by simp[h]))
   ·exact .neg h (.pure (by simp[h]))
  rintro o rfl;by_cases h:c.kind=1∧c.id=id
  ·refine .pos (by simpa using h) (.pure ?_);rw[if_pos h,jS (by omega) (by omega)]; omega
  ·refine .neg (by simpa using h) (.pure ?_);rw[if_neg h]; rfl
 rintro s rfl;refine Ex.bind (P:=fun s=>s=((w+Qw id c:Nat):Int)) ?_ (fun s hs=>.pure hs);refine Ex.dS (I:=fun i q s=>∃v:Nat,s=(v:Int)∧v+Gx id q=w+Qw id c∧v+Cm q≤1000000000∧∀x∈q,x∈c.kids) ⟨_,rfl,by rw[Tf]; omega,by split <;> omega,fun _ h=>h⟩ ?_ ?_
 ·rintro i x q s ⟨v,rfl,h1,h2,h3⟩;have g4:=h3 x (List.mem_cons_self);have hx:=Ti id x;simp only[Gx,Cm] at h1 h2;exact .bv (Qx id x v (by omega)) (.pure ⟨_,rfl,by omega,by omega,fun y hy=>h3 y (List.mem_cons_of_mem _ hy)⟩)
 ·rintro s ⟨v,rfl,h1,_,_⟩;simp only[Gx] at h1;rw[← h1]; rfl
termination_by SizeOf.sizeOf c
decreasing_by exact qL g4
theorem abg (id:Int) (c:Core) (hw:cC c≤1000000000):fU (fun n=>yM n c id) (Qw id c:Int):=by
 have h:=Qx id c 0 (by omega);rw[Nat.zero_add] at h;exact Ex.zL (.bv h (.pure rfl))
theorem Vh (id:Int) (c:Core) (hw:cC c≤1000000000):fU (fun n=>oO n c id) (Qw id c:Int):=by
 have hc:=F7 c;have hu:=NV id c.kids;refine .succ ?_;simp only[oO];refine Ex.zL ?_;refine Ex.bind (P:=fun o=>o=decide (c.kind=1∧c.id=id)) ?_ ?_
 ·by_cases h:c.kind=1
  ·exact .pos h (.pure (by simp[h]))
  ·exact .neg h (.pure (by simp[h]))
 rintro o rfl;refine Ex.bind (P:=fun s=>s=(((if c.kind=1∧c.id=id then 1 else 0):Nat):Int)) ?_ ?_
 ·by_cases h:c.kind=1∧c.id=id
  ·exact .pos (by simpa using h) (.pure (by rw[if_pos h]; rfl))
  ·exact .neg (by simpa using h) (.pure (by rw[if_neg h]; rfl))
 rintro s rfl;rw[Tf];refine .bv (Ex.aaX (m:=fun n x=>oO n x id) (c:=Qw id) (cs:=Gx id) rfl (fun _ _=>rfl) (by split <;> omega) (fun x hx=>Vh id x (by have:=zf hx; omega))) (.pure rfl)
termination_by SizeOf.sizeOf c
decreasing_by exact qL hx
def Oc (ids:List Int) (kids:List Core):List Int:=match kids with
 | []=>[]
 | x::_=>ids.filter fun i=>decide (Qw i x=0)
mutual
def WL:Core→List Int
 | ⟨_,_,_,_,ids,_,kids⟩=>Oc ids kids++Fa kids
def Fa:List Core→List Int
 | []=>[]
 | x::r=>WL x++Fa r
end
theorem Tj (c:Core):WL c=Oc c.ids c.kids++Fa c.kids:=by cases c; simp only[WL]
theorem Tn (ids:List Int) (kids:List Core):(Oc ids kids).length≤ids.length:=by
 unfold Oc;split
 ·simp
 ·exact List.length_filter_le _ _
mutual
theorem NW:∀c:Core,(WL c).length≤wC c
 | ⟨k,id,nm,n,ids,dt,kids⟩=>by have:=Tn ids kids; have:=Vj kids; simp only[WL,wC,List.length_append]; omega
theorem Vj:∀l:List Core,(Fa l).length≤vJ l
 | []=>by simp[Fa]
 | x::r=>by have:=NW x; have:=Vj r; simp only[Fa,vJ,List.length_append]; omega
end
def Zu (c:Core):Prop:=c.ids=[]∨∃x r,c.kids=x::r
theorem Ju {d:Nat} {sc:List Int} {c:Core} (h:wJ d sc c=true):Zu c∧∀x∈c.kids,∃d' sc',wJ d' sc' x=true:=by
 cases d with
 | zero=>simp[wJ] at h
 | succ d=>
  simp only[wJ,Bool.and_eq_true] at h;obtain⟨h1,h2,h3,h4⟩:=h;constructor
  ·unfold SS at h2;simp only[Bool.and_eq_true,Bool.or_eq_true,decide_eq_true_eq] at h2;rcases h2.2.2.2.2 with h5 | h5
   ·right;unfold Ey at h1;rw[if_neg (by omega),if_pos h5,decide_eq_true_eq] at h1;cases hk:c.kids with
    | nil=>rw[hk] at h1; simp at h1
    | cons x r=>exact⟨x,r,rfl⟩
   ·exact .inl h5
  ·intro x hx;cases ha:Gw sc c.ids with
   | none=>rw[ha] at h4; simp at h4
   | some s=>rw[ha] at h4; simp only[List.all_eq_true] at h4; exact⟨d,s,h4 x hx⟩
theorem Zv (c:Core) (w:List Int) (hb:Zu c) (hw:w.length+wC c≤900000000):fU (fun n=>jZ n c w) (w++Oc c.ids c.kids):=by
 have hc:=DY c;unfold jZ;refine Ex.zL ?_;refine Ex.bind (P:=fun s=>s=w++Oc c.ids c.kids) ?_ (fun s hs=>.pure hs);rcases hb with hb | ⟨y,r,hk⟩
 ·rw[hb];refine .pure ?_;unfold Oc; split <;> simp
 ·have hy:cC y≤900000001:=by
   have h1:=Qe c; have h2:=F7 c; have h3:=zf (l:=c.kids) (x:=y) (by rw[hk]; simp); omega
  rw[hk];refine Ex.dS (I:=fun i q s=>s++q.filter (fun i=>decide (Qw i y=0))=w++Oc c.ids (y::r)∧s.length+q.length≤w.length+c.ids.length) ⟨rfl,by omega⟩ ?_ (fun s ⟨h,_⟩=>by simpa using h);rintro i x q s ⟨h1,h2⟩;simp only[List.length_cons] at h2;rw[List.filter_cons] at h1;refine Ex.bind (P:=fun t=>t++q.filter (fun i=>decide (Qw i y=0))=w++Oc c.ids (y::r)∧t.length+q.length≤w.length+c.ids.length) ?_ (fun t ht=>.pure ht);refine .bp y (Zj rfl) (.bv (abg x y (by omega)) ?_);by_cases h0:Qw x y=0
  ·rw[if_pos (by simpa using h0)] at h1;exact .pos (by omega) (.bp _ (dK (by simp; omega)) (.pure ⟨by rw[← h1]; simp,by simp; omega⟩))
  ·rw[if_neg (by simpa using h0)] at h1;exact .neg (by omega) (.pure ⟨h1,by omega⟩)
theorem Vk (c:Core) (w:List Int) (hv:∃d sc,wJ d sc c=true) (hw:w.length+wC c≤900000000):fU (fun n=>dH n c w) (w++WL c):=by
 obtain⟨d,sc,hv⟩:=hv;obtain⟨hb,hv⟩:=Ju hv;have hc:=DY c;have hu:=Tn c.ids c.kids;refine .succ ?_;simp only[dH];refine Ex.zL (.bv (Zv c w hb hw) ?_);refine Ex.bind (P:=fun s=>s=w++WL c) ?_ (fun s hs=>.pure hs);refine Ex.dS (I:=fun i q s=>s++Fa q=w++WL c∧s.length+vJ q≤900000000∧∀x∈q,x∈c.kids) ⟨by rw[Tj,List.append_assoc],by simp; omega,fun _ h=>h⟩ ?_ (fun s ⟨h,_⟩=>by simpa [Fa] using h);rintro i x q s ⟨h1,h2,h3⟩;have g4:=h3 x List.mem_cons_self;have hx:=NW x;simp only[Fa,vJ] at h1 h2;exact .bv (Vk x s (hv x g4) (by omega)) (.pure ⟨by rw[List.append_assoc]; exact h1,by simp; omega,fun y hy=>h3 y (List.mem_cons_of_mem _ hy)⟩)
termination_by SizeOf.sizeOf c
decreasing_by exact qL g4
theorem Vl (c:Core) (w:List Int) (hv:∃d sc,wJ d sc c=true) (hw:w.length+wC c≤900000000):fU (fun n=>mD n w c) (w++WL c):=by
 obtain⟨d,sc,hv⟩:=hv;obtain⟨hb,hv⟩:=Ju hv;have hc:=DY c;have hu:=Tn c.ids c.kids;refine .succ ?_;simp only[mD];refine Ex.zL ?_;refine .iter (fun(s:Int×List Int)=>c.ids.length-s.1.toNat) (fun(s:Int×List Int)=>∃m:Nat,s.1=(m:Int)∧m≤c.ids.length∧s.2++Oc (c.ids.drop m) c.kids=w++Oc c.ids c.kids∧s.2.length+(c.ids.drop m).length≤w.length+c.ids.length) (0,w) ⟨0,rfl,by omega,rfl,by simp⟩ ?_;rintro ⟨i,s⟩ ⟨m,hm,h1,h2,h3⟩;simp only at hm h2 h3 ⊢;subst hm;refine .ite (fun hlt=>?_) (fun hge=>?_)
 ·have hlt':m<c.ids.length:=by omega
  obtain⟨y,r,hk⟩:∃y r,c.kids=y::r:=by
   rcases hb with hb | hb
   ·rw[hb] at hlt'; simp at hlt'
   ·exact hb
  have hy:cC y≤900000001:=by
   have h1:=Qe c; have h2:=F7 c; have h3:=zf (l:=c.kids) (x:=y) (by rw[hk]; simp); omega
  have hd:c.ids.drop m=c.ids[m]::c.ids.drop (m+1):=List.drop_eq_getElem_cons hlt';rw[hd] at h2 h3;simp only[List.length_cons] at h3;rw[hk] at h2 ⊢;simp only[Oc,List.filter_cons] at h2;have hbd:(c.ids.drop (m+1)).length=c.ids.length-(m+1):=by simp
  refine Ex.bind (P:=fun t=>t++Oc (c.ids.drop (m+1)) (y::r)=w++Oc c.ids (y::r)∧t.length+(c.ids.drop (m+1)).length≤w.length+c.ids.length) ?_ ?_
  ·refine .bp y (Zj rfl) (.bp c.ids[m] (dX (List.getElem?_eq_getElem hlt')) (.bv (Vh c.ids[m] y (by omega)) ?_));by_cases h0:Qw c.ids[m] y=0
   ·rw[if_pos (by simpa using h0)] at h2;exact .pos (by omega) (.bp _ (dK (by simp; omega)) (.pure ⟨by simp only[Oc]; rw[← h2]; simp,by simp only[List.length_append,List.length_singleton]; omega⟩))
   ·rw[if_neg (by simpa using h0)] at h2;exact .neg (by omega) (.pure ⟨h2,by omega⟩)
  ·rintro t ⟨g1,g2⟩;refine .pure ⟨fun _ e=>by(cases e),fun s' e=>?_⟩;cases e;refine⟨⟨m+1,ig (by omega),by omega,by first | exact g1 | (rw[hk]; exact g1),g2⟩,?_⟩;show c.ids.length-(aY _).toNat<_;rw[ig (by omega)]; simp only[Int.toNat_natCast]; omega
 ·have hm:m=c.ids.length:=by omega
  subst hm;have e:s=w++Oc c.ids c.kids:=by
   rw[List.drop_length] at h2;rw[← h2]; unfold Oc; split <;> simp
  subst e;refine Ex.bind (P:=fun s=>s=w++WL c) ?_ (fun s hs=>.pure ⟨fun _ e=>by cases e; exact hs,fun _ e=>by(cases e)⟩);refine Ex.dS (I:=fun i q s=>s++Fa q=w++WL c∧s.length+vJ q≤900000000∧∀x∈q,x∈c.kids) ⟨by rw[Tj,List.append_assoc],by simp; omega,fun _ h=>h⟩ ?_ (fun s ⟨h,_⟩=>by simpa [Fa] using h);rintro i x q s ⟨h1,h2,h3⟩;have g4:=h3 x List.mem_cons_self;have hx:=NW x;simp only[Fa,vJ] at h1 h2;exact .bv (Vl x s (hv x g4) (by omega)) (.pure ⟨by rw[List.append_assoc]; exact h1,by simp; omega,fun y hy=>h3 y (List.mem_cons_of_mem _ hy)⟩)
termination_by SizeOf.sizeOf c
decreasing_by exact qL g4
def unV (c:Core):List Int:=if iV c=true then WL c else []
theorem Qy (c:Core) (hw:wC c≤900000000):fU (fun n=>kF n c) (unV c):=by
 unfold kF unV;refine Ex.zL (.bv (G5 c (by omega)) ?_);cases hv:iV c with
 | false=>exact .pos rfl (.pure rfl)
 | true=>
  have h:wJ 120 [] c=true:=by unfold iV at hv; simp only[Bool.and_eq_true] at hv; exact hv.1
  exact .neg (by simp) (.bv (Vk c [] ⟨_,_,h⟩ (by simpa using hw)) (.pure rfl))
theorem Qz (c:Core) (hw:wC c≤900000000):fU (fun n=>kK n c) (unV c):=by
 unfold kK unV;refine Ex.zL (.bv (U0 c (by omega)) ?_);cases hv:iV c with
 | false=>exact .pos rfl (.pure rfl)
 | true=>
  have h:wJ 120 [] c=true:=by unfold iV at hv; simp only[Bool.and_eq_true] at hv; exact hv.1
  exact .neg (by simp) (.bv (Vl c [] ⟨_,_,h⟩ (by simpa using hw)) (.pure rfl))
theorem adw (c:Core):(unV c).length≤wC c:=by
 unfold unV; split
 ·exact NW c
 ·simp
theorem Vm (f:Core) (hw:cC f≤4611686018427387904):fU (fun n=>lF n f) (cC f:Int):=by
 have hc:=F7 f;refine .succ ?_;simp only[lF];rw[hc];refine .bind (a:=((1+Cm f.kids:Nat):Int)) ?_ (.pure _);exact Ex.aaX (b:=1) (c:=cC) (cs:=Cm) rfl (fun _ _=>rfl) (by omega) (fun x hx=>Vm x (by have:=zf hx; omega))
termination_by SizeOf.sizeOf f
decreasing_by exact qL hx
theorem Fb {d:Nat} {sc:List Int} {c:Core} (h:wJ d sc c=true):∃e s,d=e+1∧Ey c.kind c.kids.length=true∧SS c=true∧(c.kind=1→c.id∈sc)∧Gw sc c.ids=some s∧∀x∈c.kids,wJ e s x=true:=by
 cases d with
 | zero=>cases h
 | succ e=>
  simp only[wJ,Bool.and_eq_true] at h;obtain⟨h1,h2,h3,h4⟩:=h;split at h4
  ·cases h4
  ·rename_i s hs;refine⟨e,s,rfl,h1,h2,?_,hs,List.all_eq_true.1 h4⟩;intro hk
   simpa [hk] using h3
mutual
def ofF:Form→Mx.Form
 | ⟨k,nm,n,sc,kids⟩=>⟨k,Mx.mkS nm,n,sc,abj kids⟩
def abj:List Form→List Mx.Form
 | []=>[]
 | f::r=>ofF f::abj r
end
mutual
def QA:Core→Mx.Core
 | ⟨k,id,nm,n,ids,dt,kids⟩=>⟨k,id,Mx.mkS nm,n,ids,ofF dt,WA kids⟩
def WA:List Core→List Mx.Core
 | []=>[]
 | f::r=>QA f::WA r
end
theorem Vo (l:List UInt8):toS (Mx.mkS l)=l:=by simp[toS,Mx.mkS]
mutual
theorem NY:∀f:Form,Si (ofF f)=f
 | ⟨k,nm,n,sc,kids⟩=>by simp only[ofF,Si,Vo,LG kids]
theorem LG:∀l:List Form,IQ (abj l)=l
 | []=>rfl
 | f::r=>by simp only[abj,IQ,NY f,LG r]
end
mutual
theorem G9:∀f:Core,toC (QA f)=f
 | ⟨k,id,nm,n,ids,dt,kids⟩=>by simp only[QA,toC,Vo,NY dt,LH kids]
theorem LH:∀l:List Core,IU (WA l)=l
 | []=>rfl
 | f::r=>by simp only[WA,IU,G9 f,LH r]
end
theorem QB:∀l:List Core,WA l=l.map QA
 | []=>rfl
 | f::r=>by simp only[WA,List.map_cons,QB r]
theorem Tq {i:Int} (h:1≤i∧i≤999):(Lit.int .i64 i).wf=true:=by
 have e1:IntKind.i64.min=-9223372036854775808:=rfl;have e2:IntKind.i64.max=9223372036854775807:=rfl;simp[Lit.wf,e1,e2]; omega
theorem NZ:∀{ids sc s:List Int},Gw sc ids=some s→s=sc++ids∧∀i∈ids,1≤i∧i≤999
 | [],sc,s,h=>by cases h; simp
 | x::r,sc,s,h=>by
  simp only[Gw] at h;split at h
  ·rename_i hx;obtain⟨h1,h2⟩:=NZ h;refine⟨by rw[h1]; simp,fun i hi=>?_⟩;rcases List.mem_cons.1 hi with rfl | hi
   ·exact hx.1
   ·exact h2 i hi
  ·cases h
mutual
theorem Jv:∀f:Form,iC f f=true
 | ⟨k,nm,n,sc,kids⟩=>by simp[iC,F9 kids]
theorem F9:∀l:List Form,iW l l=true
 | []=>rfl
 | f::r=>by simp[iW,Jv f,F9 r]
end
theorem N7:∀(d:Nat) (sc:List Int) (c:Core),wC c≤1000000000→wJ d sc c=true→Raw.Good (fun f=>∃n,iJ n (Si f) (Si f)=some true) (QA c) sc
 | 0,sc,c,_,h=>by cases h
 | d+1,sc,c,hw,h=>by
  obtain⟨e,s,he,h1,h2,h3,h4,h5⟩:=Fb h;cases he;have hwe:=DY c;have hcc:(QA c).kids=c.kids.map QA:=by cases c; simp only[QA,QB]
  have hck:(QA c).kind=c.kind:=by cases c; rfl
  have hci:(QA c).ids=c.ids:=by cases c; rfl
  have hcd:(QA c).id=c.id:=by cases c; rfl
  have hdt:(QA c).data=ofF c.data:=by cases c; rfl
  obtain⟨rfl,ahs⟩:=NZ h4;by_cases k1:c.kind=1
  ·exact .var (by rw[hck]; exact k1) (by rw[hcd]; exact h3 k1)
  by_cases k5:c.kind=5
  ·unfold Ey at h1;rw[if_neg (by omega),if_pos k5,decide_eq_true_eq] at h1;obtain⟨x,hx⟩:=List.length_eq_one_iff.1 h1;refine .fn (x:=QA x) (by rw[hck]; exact k5) (by rw[hcc,hx]; rfl) (by rw[hci]; exact fun i hi=>Tq (ahs i hi)) ?_;rw[hci];exact N7 d _ x (by have:=yE (l:=c.kids) (x:=x) (by rw[hx]; simp); omega) (h5 x (by rw[hx]; simp))
  ·refine .other (by rw[hck]; exact k1) (by rw[hck]; exact k5) ?_ ?_
   ·rw[hdt];obtain⟨N,hN⟩:=Nz c.data c.data;have h6:=hN N (Nat.le_refl _);rw[Jv] at h6;exact⟨N,by rw[NY]; exact h6⟩
   ·intro y hy;rw[hcc,List.mem_map] at hy;obtain⟨x,hx,rfl⟩:=hy;have hi:c.ids=[]:=by
     unfold SS at h2;simp only[Bool.and_eq_true,Bool.or_eq_true,decide_eq_true_eq] at h2;rcases h2.2.2.2.2 with h | h
     ·exact absurd h k5
     ·exact h
    have h6:=h5 x hx;rw[hi,List.append_nil] at h6;exact N7 d _ x (by have:=yE hx; omega) h6
mutual
def QO:Core→List Int
 | ⟨_,_,_,_,ids,_,kids⟩=>ids++QC kids
def QC:List Core→List Int
 | []=>[]
 | x::r=>QO x++QC r
end
theorem N8 (c:Core):QO c=c.ids++QC c.kids:=by cases c; simp only[QO]
theorem Jw:∀{l:List Core} {x:Core} {i:Int},x∈l→i∈QO x→i∈QC l
 | y::r,x,i,h,hi=>by
  simp only[QC,List.mem_append];rcases List.mem_cons.1 h with rfl | h
  ·exact .inl hi
  ·exact .inr (Jw h hi)
theorem abk (n:Nat) (l:List Int) (x:Int):GX n l x=some (decide (x∈l)):=BF n l x
theorem Fe (x:Int) (c:Core):fU (fun n=>jU n c x) (decide (x∈QO c)):=by
 refine .succ ?_;simp only[jU,abk,Option.bind_some];refine Ex.zL ?_;by_cases h:x∈c.ids
 ·exact .pos (by simpa using h) (.pure (by simp[N8,h]))
 ·refine .neg (by simpa using h) ?_;refine Ex.bK (P:=fun o=>match o with
   | .inl w=>w=true∧x∈QO c
   | .inr _=>x∉QO c) ?_ ?_ ?_
  ·refine Ex.cO (I:=fun i q s=>(x∈QO c↔x∈QC q)∧∀y∈q,y∈c.kids) ⟨by rw[N8]; simp[h],fun _ h=>h⟩ ?_ ?_
   ·rintro i y q s ⟨h1,h3⟩;have g4:=h3 y (List.mem_cons_self);refine .bv (Fe x y) ?_;simp only[QC,List.mem_append] at h1;by_cases hy:x∈QO y
    ·exact .pos (by simpa using hy) (.fo ⟨rfl,h1.2 (.inl hy)⟩)
    ·exact .neg (by simpa using hy) (.fg ⟨by rw[h1]; simp[hy],fun z hz=>h3 z (List.mem_cons_of_mem _ hz)⟩)
   ·rintro s ⟨h1,_⟩
    simpa [QC] using h1
  ·rintro w ⟨rfl,h1⟩; simp[h1]
  ·rintro ⟨⟩ h1;have h1:x∉QO c:=h1;exact .pure (by simp[h1])
termination_by SizeOf.sizeOf c
decreasing_by exact qL g4
mutual
def WM:Core→Nat
 | ⟨_,_,_,_,_,_,kids⟩=>Dp kids+1
def Dp:List Core→Nat
 | []=>0
 | x::r=>max (WM x) (Dp r)
end
theorem Zw (c:Core):WM c=Dp c.kids+1:=by cases c; simp only[WM]
theorem QD:∀{l:List Core} {x:Core},x∈l→WM x≤Dp l
 | y::r,x,h=>by
  simp only[Dp];rcases List.mem_cons.1 h with rfl | h
  ·omega
  ·have:=QD h; omega
mutual
theorem adx:∀c:Core,WM c≤cC c
 | ⟨k,i,nm,n,ids,dt,kids⟩=>by have:=N9 kids; simp only[WM,cC]; omega
theorem N9:∀l:List Core,Dp l≤Cm l
 | []=>by simp[Dp,Cm]
 | x::r=>by have:=adx x; have:=N9 r; simp only[Dp,Cm]; omega
end
theorem Jy (c:Core) (hw:cC c≤1000000000):fU (fun n=>um n c) (WM c:Int):=by
 have hc:=F7 c;have hd:=N9 c.kids;refine .succ ?_;simp only[um];refine Ex.zL ?_;refine Ex.bind (P:=fun s=>s=(Dp c.kids:Int)) ?_ ?_
 ·refine Ex.dS (I:=fun i q s=>∃m:Nat,s=(m:Int)∧max m (Dp q)=Dp c.kids∧∀y∈q,y∈c.kids) ⟨0,rfl,by omega,fun _ h=>h⟩ ?_ ?_
  ·rintro i y q s ⟨m,rfl,h1,h3⟩;have g4:=h3 y List.mem_cons_self;have hy:=zf g4;simp only[Dp] at h1;refine Ex.bind (P:=fun s=>∃m:Nat,s=(m:Int)∧max m (Dp q)=Dp c.kids) (.bv (Jy y (by omega)) ?_) ?_
   ·by_cases hlt:(WM y:Int)>m
    ·exact .pos hlt (.pure ⟨WM y,rfl,by omega⟩)
    ·exact .neg hlt (.pure ⟨m,rfl,by omega⟩)
   ·rintro o ⟨m',rfl,h2⟩;exact .pure ⟨m',rfl,h2,fun z hz=>h3 z (List.mem_cons_of_mem _ hz)⟩
  ·rintro s ⟨m,rfl,h1,_⟩;simp only[Dp] at h1;omega
 ·rintro s rfl;refine .pure ?_;rw[jS (by omega) (by omega),Zw]; omega
termination_by SizeOf.sizeOf c
decreasing_by exact qL g4
theorem QE {i:Int}:∀{ids sc sc' s:List Int},Gw sc ids=some s→i∉ids→(∀j,j∈sc'↔j=i∨j∈sc)→∃s',Gw sc' ids=some s'∧∀j,j∈s'↔j=i∨j∈s
 | [],sc,sc',s,h,_,hr=>by cases h; exact⟨sc',rfl,hr⟩
 | x::r,sc,sc',s,h,hi,hr=>by
  simp only[Gw] at h ⊢;simp only[List.mem_cons,not_or] at hi;split at h
  ·rename_i hx;rw[if_pos ⟨hx.1,fun h'=>by
    rcases(hr x).1 h' with e | h'
    ·exact hi.1 e.symm
    ·exact hx.2 h'⟩]
   refine QE h hi.2 fun j=>?_;simp only[List.mem_append,List.mem_singleton,hr j];constructor
   ·rintro ((h | h) | h)
    ·exact .inl h
    ·exact .inr (.inl h)
    ·exact .inr (.inr h)
   ·rintro (h | h | h)
    ·exact .inl (.inl h)
    ·exact .inl (.inr h)
    ·exact .inr h
  ·cases h
theorem QF {i:Int}:∀(d:Nat) (sc sc':List Int) (c:Core) (e:Nat),wJ d sc c=true→WM c≤e→i∉QO c→(∀j,j∈sc'↔j=i∨j∈sc)→wJ e sc' c=true
 | 0,sc,sc',c,e,h,_,_,_=>by cases h
 | d+1,sc,sc',c,e,h,hd,hi,hr=>by
  obtain⟨d',s,he,h1,h2,h3,h4,h5⟩:=Fb h;cases he;rw[Zw] at hd;obtain⟨e',rfl⟩:∃e',e=e'+1:=⟨e-1,by omega⟩
  rw[N8,List.mem_append,not_or] at hi;obtain⟨s',g1,g2⟩:=QE h4 hi.1 hr;simp only[wJ,h1,h2,g1,Bool.true_and,Bool.and_eq_true,Bool.or_eq_true,Bool.not_eq_true',decide_eq_false_iff_not,decide_eq_true_eq,List.all_eq_true];refine⟨?_,fun x hx=>QF d s s' x e' (h5 x hx) (by have:=QD hx; omega) (fun h'=>hi.2 (Jw hx h')) g2⟩;by_cases hk:c.kind=1
  ·exact .inr ((hr _).2 (.inr (h3 hk)))
  ·exact .inl hk
theorem Vp {i:Int}:∀(d:Nat) (sc:List Int) (c:Core),wJ d sc c=true→i∉sc→i∉QO c→Qw i c=0
 | 0,sc,c,h,_,_=>by cases h
 | d+1,sc,c,h,hs,hi=>by
  obtain⟨d',s,he,h1,h2,h3,h4,h5⟩:=Fb h;cases he;rw[N8,List.mem_append,not_or] at hi;obtain⟨rfl,_⟩:=NZ h4;have hk:∀l:List Core,(∀x∈l,x∈c.kids)→Gx i l=0:=by
   intro l
   induction l with
   | nil=>intro _; rfl
   | cons x r ih=>
    intro hm;have hx:=hm x List.mem_cons_self;simp only[Gx];rw[Vp d _ x (h5 x hx) (by simp only[List.mem_append,not_or]; exact⟨hs,hi.1⟩) (fun h'=>hi.2 (Jw hx h')),ih fun y hy=>hm y (List.mem_cons_of_mem _ hy)]
  rw[Tf,hk _ fun _ h=>h,if_neg];rintro ⟨k1,k2⟩;exact hs (k2▸h3 k1)
def qC (i:Int) (c:Core):Core:=⟨5,0,[],0,[i],(⟨0,[],0,[],[]⟩:Form),[c]⟩
theorem abl {i:Int} {c:Core} {e:Nat} (hi:1≤i∧i≤999) (h:wJ e [i] c=true):wJ (e+1) [] (qC i c)=true:=by
 simp[wJ,qC,Ey,SS,Gw,hi,h,zF,iC,iW]
theorem Jz {i:Int} {c:Core} (hi:1≤i∧i≤999) (hv:iV c=true) (hd:WM c≤100) (hs:cC c≤590) (hn:i∉QO c):iV (qC i c)=true:=by
 unfold iV at hv ⊢;rw[Bool.and_eq_true] at hv ⊢;refine⟨?_,by simp[qC,cC,Cm]; omega⟩;have h:=QF 120 [] [i] c 119 hv.1 (by omega) hn (by simp);exact abl hi h
theorem QG {i:Int} {c:Core} (h1:iV (qC i c)=true) (hv:iV c=true) (hn:i∉QO c):unV (qC i c)=i::unV c:=by
 unfold unV;rw[if_pos h1,if_pos hv];unfold iV at hv;rw[Bool.and_eq_true] at hv;have h0:=Vp 120 [] c hv.1 (by simp) hn;simp[Tj,qC,Oc,Fa,h0]
theorem Zx {i j:Int} {c:Core} (hi:1≤i∧i≤999) (hj:1≤j∧j≤999) (hw:wC c≤900000000) (hv:iV c=true):aeL (qC i c) (qC j c):=by
 unfold iV at hv;rw[Bool.and_eq_true] at hv;have hc:=Raw.Yq (QA c);rw[G9] at hc;exact⟨QA (qC i c),QA (qC j c),QA c,i,j,(G9 _).symm,(G9 _).symm,rfl,rfl,rfl,rfl,rfl,rfl,Tq hi,Tq hj,by omega,N7 120 [] c (by omega) hv.1⟩
theorem Vq (a b:List Int):fU (fun n=>xw n a b) (decide (a=b)):=Ny
theorem Zy (b:List UInt8):Ex (fun n=>jq n b) (fun c=>wC c≤600000000):=by
 unfold jq;refine .bind (SV b) fun k1 g=>.bind (iY g (by omega)) fun k2 _=>?_;exact .ite (fun _=>.bind (NU b) fun k4 h4=>.pure (by omega)) (fun _=>.bind (Zt b) fun k5 h5=>.pure h5.1)
theorem JA (b:List UInt8):fU (fun n=>oG n b) true:=by
 refine Ex.zL ?_;unfold oG;refine .ite (fun _=>.pure rfl) (fun _=>.bind (Zy b) fun c hw=>?_);have hcl:=Qe c;have hcs:fU (fun n=>lF n c) (cC c:Int):=Vm c (by omega);have hdp:=Jy c (by omega);refine .bv (Qy c (by omega)) ?_;refine Ex.bind (P:=fun o=>o=true∨(o=false∧iV c=true∧(996:Int)∉QO c∧(997:Int)∉QO c∧WM c≤100∧cC c≤590)) ?_ ?_
 ·refine .bv (Qz c (by omega)) (.bv (Vq _ _) (.neg (by simp) (.bv (G5 c (by omega)) ?_)));cases hv:iV c with
  | false=>exact .pos rfl (.pure (.inl rfl))
  | true=>
   refine .neg (by simp) (.bv (Fe 996 c) (.ite (fun _=>.pure (.inl rfl)) (fun h1=>.bv (Fe 997 c) (.ite (fun _=>.pure (.inl rfl)) (fun h2=>.bv hdp (.ite (fun _=>.pure (.inl rfl)) (fun h3=>.bv hcs (.pure ?_))))))));by_cases h4:(cC c:Int)>590
   ·exact .inl (by simpa using h4)
   ·exact .inr ⟨by simpa using h4,rfl,by simpa using h1,by simpa using h2,by omega,by omega⟩
 rintro o (rfl | ⟨rfl,hv,n1,n2,hd,hs⟩)
 ·exact .pos rfl (.bv (Qz c (by omega)) (.bv (Vq _ _) (.pure (by simp))))
 refine .neg (by simp) ?_;have v1:=Jz (i:=996) (by omega) hv hd hs n1;have v2:=Jz (i:=997) (by omega) hv hd hs n2;have hww:∀i,wC (qC i c)≤600000010:=fun i=>by simp only[qC,wC,vJ,wF,qg,List.length_cons,List.length_nil]; omega
 have hu:=Qy (qC 996 c) (by have:=hww 996; omega);rw[QG v1 hv n1] at hu;have hal:fU (fun n=>qm n (qC 996 c) (qC 997 c)) true:=by
  have e1:=G5 (qC 996 c) (by have:=hww 996; omega);have e2:=G5 (qC 997 c) (by have:=hww 997; omega);rw[v1] at e1;rw[v2] at e2;unfold qm;refine .bind e1 (.bind e2 (.const ?_));rw[if_pos ⟨rfl,rfl,Zx (by omega) (by omega) (by omega) hv⟩]
 refine .bv hu ?_;have hul:=adw c;refine Ex.bind (P:=fun o=>o=true) (.bv hal (.pos rfl (.pos ?_ (.bp 996 (by unfold gG; rfl) (.pure (by simp)))))) (fun o ho=>.pure ho);rw[jS (by omega) (by omega)]; simp
theorem J9 (l:List Int) (h:l.length≤maxLen∧∀a∈l,(Lit.int .u8 a).wf=true):Mx.pU X.E 4 [.sl 1 .ro (l.map fun i=>[.v (.int .u8 i)])] [] fun d _=>d=.v (.bool true):=by
 obtain⟨N,hN⟩:=JA (toB l);exact VW (Ei N (toB l) (hN N (Nat.le_refl _))) (by simp only[ED.DL,ED.D,KD.D,aav h.2]; rfl)
end Go.Ev
