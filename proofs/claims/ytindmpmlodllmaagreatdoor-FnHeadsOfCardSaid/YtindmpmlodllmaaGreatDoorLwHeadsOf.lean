/- Plain laws of models. No condition. -/
import Derived.Test.YtindmpmlodllmaaGreatDoorMdHeadsOf
import Derived.Test.YtindmpmlodllmaaGreatDoorEvTri
namespace Go.Ev
open Go.Mx (KD ED aB dR bM bG iterM)
set_option linter.unusedVariables false
set_option linter.unusedSimpArgs false
theorem fV.scan {ω:Type} {step:Nat→Int→Option (ω⊕Int)} {p:Nat→Bool} {L:Nat} {no yes:ω} (h1:∀i,i<L→p i=true→fV (fun n=>step n (i:Int)) (.inr ((i+1:Nat):Int))) (h2:∀i,i<L→p i=false→fV (fun n=>step n (i:Int)) (.inl no)) (h3:fV (fun n=>step n (L:Int)) (.inl yes)) :
  fV (fun n=>iterM n (step n) 0) (if(List.range L).all p=true then yes else no):=by
 obtain⟨w,k1,k2⟩:=RG (step:=step) (fun s=>L-s.toNat) (fun s=>∃i:Nat,i≤L∧s=i∧∀j,j<i→p j=true) (fun w=>w=if(List.range L).all p=true then yes else no) (fun s ⟨i,i1,i2,i3⟩=>by
  subst i2;rcases Nat.lt_or_ge i L with h | h
  ·cases hp:p i with
   | true=>exact .inr ⟨_,h1 i h hp,⟨i+1,by omega,rfl,fun j hj=>by rcases Nat.lt_or_eq_of_le (Nat.le_of_lt_succ hj) with q | q; exact i3 j q; rw[q]; exact hp⟩,by simp; omega⟩
   | false=>
    refine .inl ⟨_,h2 i h hp,?_⟩;rw[if_neg];intro hall;rw[List.all_eq_true] at hall;rw[hall i (List.mem_range.2 h)] at hp; cases hp
  ·have:i=L:=by omega
   subst this;refine .inl ⟨_,h3,?_⟩;rw[if_pos];rw[List.all_eq_true];exact fun j hj=>i3 j (List.mem_range.1 hj)) 0 ⟨0,Nat.zero_le _,rfl,fun j hj=>by omega⟩
 exact k2▸k1
theorem ZP {α ω:Type} {step:Unit→Nat→α→Option (ω⊕Unit)} {p:α→Bool} {no:ω} {f:Unit→Option ω}:∀{xs:List α} {i:Nat},(∀i x,x∈xs→step () i x=if p x=true then some (.inr ()) else some (.inl no))→bG (Mx.bM step i xs ()) f=if xs.all p=true then f () else some no
 | [],i,_=>by simp[Mx.bM,Mx.bG]
 | x::r,i,h=>by
  have hx:=h i x (List.mem_cons_self);have ih:=ZP (step:=step) (p:=p) (no:=no) (f:=f) (xs:=r) (i:=i+1) (fun i y hy=>h i y (List.mem_cons_of_mem _ hy));simp only[Mx.bM,hx,List.all_cons,Bool.and_eq_true];cases hp:p x with
  | true=>simpa [hp] using ih
  | false=>simp[Mx.bG]
theorem iq {i:Nat} (h:i<9223372036854775807):aT ((i:Int)+1)=((i+1:Nat):Int):=by rw[iV (by omega) (by omega)]; omega
theorem WV {α ω:Type} {step:Unit→Nat→α→Option (ω⊕Unit)} {p:Nat→Bool} {no:ω} {f:Unit→Option ω}:∀{xs:List α} {i:Nat},(∀j x,xs[j]? = some x→step () (i+j) x=if p (i+j)=true then some (.inr ()) else some (.inl no))→bG (Mx.bM step i xs ()) f=if(List.range xs.length).all (fun j=>p (i+j))=true then f () else some no
 | [],i,_=>by simp[Mx.bM,Mx.bG]
 | x::r,i,h=>by
  have hx:=h 0 x rfl;have ih:=WV (step:=step) (p:=p) (no:=no) (f:=f) (xs:=r) (i:=i+1) (fun j y hy=>by have:=h (j+1) y (by simpa using hy); rwa [show i+(j+1)=i+1+j by omega] at this);simp only[Nat.add_zero] at hx;simp only[Mx.bM,hx,List.length_cons,List.range_succ_eq_map,List.all_cons,List.all_map,Bool.and_eq_true,Nat.add_zero];have e:((fun j=>p (i+j))∘Nat.succ)=fun j=>p (i+1+j):=by funext j; simp only[Function.comp]; congr 1; omega
  rw[e];cases hp:p i with
  | true=>simpa [hp] using ih
  | false=>simp[Mx.bG]
def Ox (c:UInt8):Bool:=(decide (97≤c.toNat)&&decide (c.toNat≤122))||c==42||c==63||c==61||c==43||c==60
def WW (c:UInt8):Bool:=(decide (48≤c.toNat)&&decide (c.toNat≤57))||c==45
def Ig (s:List UInt8) (i:Nat):Bool:=match s[i]? with
 | some c=>Ox c||(!(i==0)&&WW c)
 | none=>false
def nameB (s:List UInt8):Bool:=(decide (s=[46,46,46])||decide (s=[95]))||((List.range s.length).all (Ig s)&&(decide (1≤s.length)&&decide (s.length≤12)))
theorem Fe {c d:UInt8}:c=d↔c.toNat=d.toNat:=⟨fun h=>by rw[h],fun h=>UInt8.toNat_inj.1 h⟩
theorem LC (y:UInt8):((if(y.toNat:Int)≥48 then(if(y.toNat:Int)≤57 then some true else some (decide ((y.toNat:Int)=45))) else some (decide ((y.toNat:Int)=45))):Option Bool)=some (WW y):=by
 have e:decide ((y.toNat:Int)=45)=(y==45):=by
  by_cases h:y=45
  ·subst h; rfl
  ·have:¬(y.toNat:Int)=45:=fun h'=>h (Fe.2 (by show y.toNat=45; omega));simp[h,this]
 rw[e];unfold WW;by_cases h1:(y.toNat:Int)≥48
 ·rw[if_pos h1];by_cases h2:(y.toNat:Int)≤57
  ·rw[if_pos h2]; simp[show 48≤y.toNat by omega,show y.toNat≤57 by omega]
  ·rw[if_neg h2]; simp[show ¬y.toNat≤57 by omega]
 ·rw[if_neg h1]; simp[show ¬48≤y.toNat by omega]
theorem JQ (n:Nat) (a b c:Int):iO n a b c=some (decide (b≤a)&&decide (a≤c)):=by
 unfold iO;by_cases h:a≥b
 ·rw[if_pos h]; simp[show b≤a from h]
 ·rw[if_neg h]; simp[show ¬b≤a from h]
theorem WX:∀(l:List UInt8) (c:UInt8),0≤Lib.indexByte l c↔c∈l
 | [],c=>by simp[Lib.indexByte]
 | b::l,c=>by
  have ih:=WX l c;have hg:=Lib.indexByte_ge l c;unfold Lib.indexByte;by_cases hb:b=c
  ·subst hb; simp
  ·have hb':(b==c)=false:=by simpa using hb
   rw[hb',List.mem_cons,← ih];have hbc:¬c=b:=fun h=>hb h.symm;simp only[Bool.false_eq_true,if_false,hbc,false_or];by_cases h1:Lib.indexByte l c=-1
   ·simp[h1]
   ·simp only[beq_iff_eq,h1,if_false]; omega
theorem abh (l:List UInt8) (c:UInt8):decide (Lib.indexByte l c≥0)=l.contains c:=by
 rw[Bool.eq_iff_iff]; simp only[decide_eq_true_eq,List.contains_iff_mem]; exact WX l c
theorem abj (y:UInt8):((if(y.toNat:Int)≥97 then(if(y.toNat:Int)≤122 then some true else some (decide (Lib.indexByte [42,63,61,43,60] y≥0))) else some (decide (Lib.indexByte [42,63,61,43,60] y≥0))):Option Bool)=some (Ox y):=by
 have e:decide (Lib.indexByte [42,63,61,43,60] y≥0)=(y==42||y==63||y==61||y==43||y==60):=by
  rw[abh]; simp only[List.contains_cons,List.contains_nil,Bool.or_false,Bool.or_assoc]
 rw[e];unfold Ox;by_cases h1:(y.toNat:Int)≥97
 ·rw[if_pos h1];by_cases h2:(y.toNat:Int)≤122
  ·rw[if_pos h2];simp[show 97≤y.toNat by omega,show y.toNat≤122 by omega]
  ·rw[if_neg h2];simp[show ¬y.toNat≤122 by omega]
 ·rw[if_neg h1];simp[show ¬97≤y.toNat by omega]
theorem Y3 (y:UInt8):((y.toNat:Int).toNat).toUInt8=y:=by
 rw[Int.toNat_natCast]; exact UInt8.ofNat_toNat
theorem RQ (s:List UInt8) (hs:s.length≤IC):fV (fun n=>kX n s) (nameB s):=by
 unfold IC at hs;unfold kX;simp only[strings_IndexByte,Y3,Option.bind_some,abj,LC];by_cases h0:s=[46,46,46]
 ·simp only[h0,if_true,Option.bind_some]; exact .pure _
 rw[if_neg h0];simp only[Option.bind_some];by_cases h1:s=[95]
 ·simp only[h1,decide_true,if_true]; exact .pure _
 simp only[h1,decide_false,Bool.false_eq_true,if_false];have e:nameB s=if(List.range s.length).all (Ig s)=true then(decide (1≤s.length)&&decide (s.length≤12)) else false:=by
  unfold nameB; simp only[h0,h1,decide_false,Bool.false_or,Bool.or_self];cases (List.range s.length).all (Ig s) <;> simp
 rw[e];refine fV.scan (L:=s.length) (p:=Ig s) (fun i hi hp=>?_) (fun i hi hp=>?_) ?_
 ·refine .pos (by omega) ?_;have hy:=List.getElem?_eq_getElem hi;unfold Ig at hp;rw[hy] at hp;simp only at hp;refine fV.const ?_;rw[dV hy];simp only[Option.bind_some];cases hc:Ox s[i] with
  | true=>simp only[if_true,Mx.bG,Option.bind_some,iq (i:=i) (by omega)]
  | false=>
   rw[hc,Bool.false_or,Bool.and_eq_true] at hp;have hi0:(i:Int)>0:=by
    have:i≠0:=by simpa using hp.1
    omega
   simp only[Bool.false_eq_true,if_false,if_pos hi0,LC,hp.2,Option.bind_some,if_true,Mx.bG,iq (i:=i) (by omega)]
 ·refine .pos (by omega) ?_;have hy:=List.getElem?_eq_getElem hi;unfold Ig at hp;rw[hy] at hp;simp only[Bool.or_eq_false_iff] at hp;refine fV.const ?_;rw[dV hy];simp only[Option.bind_some,hp.1,Bool.false_eq_true,if_false];by_cases hi0:(i:Int)>0
  ·have:(i==0)=false:=by simp; omega
   have hd:WW s[i]=false:=by simpa [this] using hp.2
   simp only[if_pos hi0,LC,hd,Option.bind_some,Bool.false_eq_true,if_false,Mx.bG]
  ·simp only[if_neg hi0,Option.bind_some,Bool.false_eq_true,if_false,Mx.bG]
 ·refine .neg (by omega) ?_;simp only[JQ,Option.bind_some];refine .const ?_;have a1:decide ((1:Int)≤(s.length:Int))=decide (1≤s.length):=by simp only[decide_eq_decide]; omega
  have a2:decide ((s.length:Int)≤12)=decide (s.length≤12):=by simp only[decide_eq_decide]; omega
  rw[a1,a2]
theorem adb (n:Nat) (y:UInt8) (f:Bool):qM n (y.toNat:Int) f=some (Ox y||(!f&&WW y)):=by
 unfold qM;simp only[LC];have q:∀k:Nat,decide ((y.toNat:Int)=(k:Int))=decide (y.toNat=k):=fun k=>by simp only[decide_eq_decide]; omega
 have e:((if(y.toNat:Int)=42 then some true else(if(y.toNat:Int)=63 then some true else(if(y.toNat:Int)=61 then some true else(if(y.toNat:Int)=43 then some true else some (decide ((y.toNat:Int)=60)))))):Option Bool)=some (y==42||y==63||y==61||y==43||y==60):=by
  have w:∀(k:Nat) (d:UInt8),d.toNat=k→((y.toNat:Int)=(k:Int)↔y=d):=fun k d hd=>by rw[Fe,hd]; omega
  have w1:(y.toNat:Int)=42↔y=42:=w 42 42 rfl;have w2:(y.toNat:Int)=63↔y=63:=w 63 63 rfl;have w3:(y.toNat:Int)=61↔y=61:=w 61 61 rfl;have w4:(y.toNat:Int)=43↔y=43:=w 43 43 rfl;have w5:(y.toNat:Int)=60↔y=60:=w 60 60 rfl;by_cases h1:y=42
  ·rw[if_pos (w1.2 h1),h1]; rfl
  rw[if_neg (fun h=>h1 (w1.1 h))];by_cases h2:y=63
  ·rw[if_pos (w2.2 h2),h2]; rfl
  rw[if_neg (fun h=>h2 (w2.1 h))];by_cases h3:y=61
  ·rw[if_pos (w3.2 h3),h3]; rfl
  rw[if_neg (fun h=>h3 (w3.1 h))];by_cases h4:y=43
  ·rw[if_pos (w4.2 h4),h4]; rfl
  rw[if_neg (fun h=>h4 (w4.1 h))];have:decide ((y.toNat:Int)=60)=(y==60):=by rw[Bool.eq_iff_iff]; simp only[decide_eq_true_eq,beq_iff_eq]; exact w5
  rw[this];simp[h1,h2,h3,h4]
 rw[e];have e2:((if(y.toNat:Int)≥97 then(if(y.toNat:Int)≤122 then some true else some (y==42||y==63||y==61||y==43||y==60)) else some (y==42||y==63||y==61||y==43||y==60)):Option Bool)=some (Ox y):=by
  unfold Ox;by_cases h1:(y.toNat:Int)≥97
  ·rw[if_pos h1];by_cases h2:(y.toNat:Int)≤122
   ·rw[if_pos h2]; simp[show 97≤y.toNat by omega,show y.toNat≤122 by omega]
   ·rw[if_neg h2]; simp[show ¬y.toNat≤122 by omega]
  ·rw[if_neg h1]; simp[show ¬97≤y.toNat by omega]
 rw[e2];cases Ox y <;> cases f <;> simp
theorem F7 (s:List UInt8) (hs:s.length≤IC):fV (fun n=>iW n s) (nameB s):=by
 unfold IC at hs;unfold iW;simp only[adb,Option.bind_some];by_cases h0:s=[46,46,46]
 ·simp only[h0,if_true,Option.bind_some]; exact .pure _
 rw[if_neg h0];simp only[Option.bind_some];by_cases h1:s=[95]
 ·simp only[h1,decide_true,if_true]; exact .pure _
 simp only[h1,decide_false,Bool.false_eq_true,if_false];have hb:nameB s=if(List.range (min s.length 13)).all (Ig s)=true then(decide (1≤s.length)&&decide (s.length≤12)) else false:=by
  unfold nameB; simp only[h0,h1,decide_false,Bool.false_or,Bool.or_self];by_cases hl:s.length≤12
  ·rw[Nat.min_eq_left (by omega)];cases (List.range s.length).all (Ig s) <;> simp
  ·simp[hl]
 rw[hb];refine fV.scan (L:=min s.length 13) (p:=Ig s) (fun i hi hp=>?_) (fun i hi hp=>?_) ?_
 ·have hi':i<s.length:=by omega
  have hy:=List.getElem?_eq_getElem hi';unfold Ig at hp;rw[hy] at hp;simp only at hp;refine fV.const ?_;have c1:(i:Int)<(s.length:Int):=by omega
  have c2:decide ((i:Int)≤12)=true:=by simp; omega
  have c3:decide ((i:Int)=0)=(i==0):=by rw[Bool.eq_iff_iff]; simp
  rw[if_pos c1,c2,c3];simp only[Option.bind_some,if_true,dV hy,hp,Bool.not_true,Bool.false_eq_true,if_false,iq (i:=i) (by omega)]
 ·have hi':i<s.length:=by omega
  have hy:=List.getElem?_eq_getElem hi';unfold Ig at hp;rw[hy] at hp;simp only at hp;refine fV.const ?_;have c1:(i:Int)<(s.length:Int):=by omega
  have c2:decide ((i:Int)≤12)=true:=by simp; omega
  have c3:decide ((i:Int)=0)=(i==0):=by rw[Bool.eq_iff_iff]; simp
  rw[if_pos c1,c2,c3];simp only[Option.bind_some,if_true,dV hy,hp,Bool.not_false]
 ·refine fV.const ?_;have e:((if((min s.length 13:Nat):Int)<(s.length:Int) then some (decide (((min s.length 13:Nat):Int)≤12)) else some false):Option Bool)=some false:=by
   by_cases h:((min s.length 13:Nat):Int)<(s.length:Int)
   ·rw[if_pos h]; congr 1; simp; omega
   ·rw[if_neg h]
  rw[e];have a1:decide ((s.length:Int)≤12)=decide (s.length≤12):=by simp only[decide_eq_decide]; omega
  by_cases h:(s.length:Int)≥1
  ·simp only[Option.bind_some,Bool.false_eq_true,if_false,if_pos h,a1,show decide (1≤s.length)=true from decide_eq_true (by omega),Bool.true_and]
  ·simp only[Option.bind_some,Bool.false_eq_true,if_false,if_neg h,show decide (1≤s.length)=false from decide_eq_false (by omega),Bool.false_and]
def X6 (l:List Int) (i:Nat):Bool:=match l[i]? with
 | some x=>(decide (1≤x)&&decide (x≤99))&&(i==0||(match l[i-1]? with
  | some y=>decide (y<x)
  | none=>false))
 | none=>false
def UH (l:List Int):Bool:=(List.range l.length).all (X6 l)&&decide (l.length≤24)
def Jf:Nat→Form→Bool
 | 0,_=>false
 | d+1,f=>if f.kind=1 then nameB f.name&&(decide (f.n=0)&&(UH f.scopes&&decide (f.kids.length=0))) else
   if f.kind=2 then decide (f.name=[])&&((decide (0≤f.n)&&decide (f.n≤999))&&(decide (f.scopes.length=0)&&decide (f.kids.length=0))) else
   if f.kind=3 then decide (f.name=[])&&(decide (f.n=0)&&(decide (f.scopes.length=0)&&f.kids.all (Jf d))) else false
mutual
def cF:Form→Nat
 | ⟨_,_,_,_,kids⟩=>1+jD kids
def jD:List Form→Nat
 | []=>0
 | x::r=>cF x+jD r
end
theorem qQ (f:Form):cF f=1+jD f.kids:=by cases f; simp only[cF]
mutual
theorem RS:∀f:Form,cF f≤wF f+1
 | ⟨k,nm,n,sc,kids⟩=>by have:=WY kids; simp only[cF,wF]; omega
theorem WY:∀l:List Form,jD l≤pq l+l.length
 | []=>by simp[jD]
 | x::r=>by have:=RS x; have:=WY r; simp only[jD,pq,List.length_cons]; omega
end
theorem qA:∀{l:List Form} {x:Form},x∈l→cF x≤jD l
 | y::r,x,h=>by
  simp only[jD];rcases List.mem_cons.1 h with rfl | h
  ·omega
  ·have:=qA h; omega
def gK (f:Form):Bool:=Jf 40 f&&decide (cF f≤400)
mutual
theorem Ih:∀f:Form,wF f≤1073741824→okF f
 | ⟨k,nm,n,sc,kids⟩,h=>by simp only[wF] at h; simp only[okF,IC]; exact⟨by omega,by omega,by omega,WZ kids (by omega)⟩
theorem WZ:∀l:List Form,pq l≤1073741824→NJ l
 | [],_=>trivial
 | x::r,h=>by simp only[pq] at h; simp only[NJ]; exact⟨Ih x (by omega),WZ r (by omega)⟩
end
theorem abk (n:Nat) (l:List Int) (hl:l.length≤IC):qK n l=some (UH l):=by
 unfold IC at hl;unfold qK;rw[WV (p:=X6 l) (no:=false)]
 ·simp only[Nat.zero_add];unfold UH;have a2:decide ((l.length:Int)≤24)=decide (l.length≤24):=by simp only[decide_eq_decide]; omega
  show(if(List.range l.length).all (X6 l)=true then _ else _)=_;rw[a2];cases (List.range l.length).all (X6 l) <;> simp
 ·intro j x hx;simp only[Nat.zero_add];have hj:j<l.length:=(List.getElem?_eq_some_iff.1 hx).1;simp only[JQ,Option.bind_some,X6,hx];by_cases h1:(decide (1≤x)&&decide (x≤99))=true
  ·simp only[h1,Bool.not_true,Bool.false_eq_true,if_false,Bool.true_and];by_cases h0:(j:Int)>0
   ·have e:aT ((j:Int)-1)=((j-1:Nat):Int):=by rw[iV (by omega) (by omega)]; omega
    have hy:=List.getElem?_eq_getElem (l:=l) (i:=j-1) (by omega);have hj0:(j==0)=false:=by simp; omega
    rw[if_pos h0,e,dV hy,hj0];simp only[Option.bind_some,hy,Bool.false_or];by_cases hlt:l[j-1]<x
    ·simp[hlt]
    ·simp[hlt,show l[j-1]≥x by omega]
   ·have hj0:j=0:=by omega
    subst hj0;simp
  ·have h1':(decide (1≤x)&&decide (x≤99))=false:=by simpa using h1
   simp[h1']
theorem W9 (f:Form) (hf:okF f) (d:Nat) (hd:d≤40) (L:Nat) (hL:L≤400):Ex (fun n=>rV n f ((41-d:Nat):Int) (L:Int)) (fun r=>(r.1=true↔Jf d f=true∧cF f≤L)∧(r.1=true→r.2=((L-cF f:Nat):Int))):=by
 obtain⟨o1,o2,o3,o4⟩:=(okF_eq f).1 hf;have hc:=qQ f;refine .succ ?_;simp only[rV];have e1:aT ((L:Int)-1)=(L:Int)-1:=iV (by omega) (by omega);rw[e1];by_cases h0:(L:Int)-1<0
 ·simp only[if_pos h0,Option.bind_some,if_true];refine .pure ⟨⟨fun h=>(by cases h),fun h=>(by omega)⟩,fun h=>(by cases h)⟩
 rw[if_neg h0];by_cases hd0:d=0
 ·subst hd0;simp only[show decide (((41-0:Nat):Int)>40)=true from rfl,Option.bind_some,if_true];refine .pure ⟨⟨fun h=>(by cases h),fun h=>(by simp[Jf] at h)⟩,fun h=>(by cases h)⟩
 obtain⟨d,rfl⟩:∃e,d=e+1:=⟨d-1,by omega⟩
 have hdd:decide (((41-(d+1):Nat):Int)>40)=false:=by simp; omega
 simp only[hdd,Option.bind_some,Bool.false_eq_true,if_false,Jf];have kz:decide ((f.kids.length:Int)=0)=decide (f.kids.length=0):=by simp only[decide_eq_decide]; omega
 have sz:decide ((f.scopes.length:Int)=0)=decide (f.scopes.length=0):=by simp only[decide_eq_decide]; omega
 have fin:∀b:Bool,(f.kids.length=0∨b=false)→((b,(L:Int)-1).1=true↔b=true∧cF f≤L)∧((b,(L:Int)-1).1=true→(b,(L:Int)-1).2=((L-cF f:Nat):Int)):=fun b hb=>by
  rcases hb with hb | hb
  ·have hk:f.kids=[]:=List.eq_nil_of_length_eq_zero hb;have hc1:cF f=1:=by rw[hc,hk]; rfl
   exact⟨⟨fun h=>⟨h,by omega⟩,fun h=>h.1⟩,fun _=>by simp only; omega⟩
  ·subst hb;exact⟨⟨fun h=>(by cases h),fun h=>(by cases h.1)⟩,fun h=>(by cases h)⟩
 by_cases k1:f.kind=1
 ·rw[if_pos k1];simp only[if_pos k1];refine Ex.bind (P:=fun b=>b=(nameB f.name&&(decide (f.n=0)&&(UH f.scopes&&decide (f.kids.length=0))))) ?_ ?_
  ·refine .bv (RQ _ o1) ?_;cases hn:nameB f.name with
   | false=>exact .neg (by simp) (.pure (by simp))
   | true=>
    refine .pos rfl ?_;by_cases h2:f.n=0
    ·refine .pos h2 ?_;simp only[abk _ _ o2,Option.bind_some];cases hs:UH f.scopes with
     | false=>exact .neg (by simp) (.pure (by simp))
     | true=>exact .pos rfl (.pure (by simp[kz,h2]))
    ·exact .neg h2 (.pure (by simp[h2]))
  ·rintro b rfl;refine .pure (fin _ ?_);by_cases hk:f.kids.length=0
   ·exact .inl hk
   ·exact .inr (by simp[hk])
 rw[if_neg k1];simp only[if_neg k1];by_cases k2:f.kind=2
 ·rw[if_pos k2];simp only[if_pos k2];refine Ex.bind (P:=fun b=>b=(decide (f.name=[])&&((decide (0≤f.n)&&decide (f.n≤999))&&(decide (f.scopes.length=0)&&decide (f.kids.length=0))))) ?_ ?_
  ·by_cases h1:f.name=[]
   ·refine .pos h1 ?_;simp only[JQ,Option.bind_some];by_cases h2:(decide (0≤f.n)&&decide (f.n≤999))=true
    ·refine .pos h2 ?_;by_cases h3:f.scopes.length=0
     ·exact .pos (by omega) (.pure (by rw[kz,h2]; simp only[h1,h3,decide_true,Bool.true_and]))
     ·exact .neg (by omega) (.pure (by simp only[h3,decide_false,Bool.false_and,Bool.and_false]))
    ·exact .neg h2 (.pure (by simp only[Bool.not_eq_true] at h2; rw[h2]; simp))
   ·exact .neg h1 (.pure (by simp[h1]))
  ·rintro b rfl;refine .pure (fin _ ?_);by_cases hk:f.kids.length=0
   ·exact .inl hk
   ·exact .inr (by simp[hk])
 rw[if_neg k2];simp only[if_neg k2];by_cases k3:f.kind=3
 ·rw[if_pos k3];simp only[if_pos k3];refine Ex.bind (P:=fun b=>b=!(decide (f.name=[])&&(decide (f.n=0)&&decide (f.scopes.length=0)))) ?_ ?_
  ·by_cases h1:f.name=[]
   ·refine .neg (by simp[h1]) ?_;by_cases h2:f.n=0
    ·refine .neg (by simp[h2]) (.pure ?_);by_cases h3:f.scopes.length=0
     ·have h3':¬(f.scopes.length:Int)>0:=by omega
      rw[decide_eq_false h3',decide_eq_true h1,decide_eq_true h2,decide_eq_true h3]; rfl
     ·have h3':(f.scopes.length:Int)>0:=by omega
      rw[decide_eq_true h3',decide_eq_true h1,decide_eq_true h2,decide_eq_false h3]; rfl
    ·exact .pos h2 (.pure (by simp[h1,h2]))
   ·exact .pos h1 (.pure (by simp[h1]))
  ·rintro b rfl;cases hq:(decide (f.name=[])&&(decide (f.n=0)&&decide (f.scopes.length=0))) with
   | false=>
    refine .pos rfl (.pure ⟨⟨fun h=>(by cases h),fun h=>?_⟩,fun h=>(by cases h)⟩);have:=h.1;simp only[Bool.and_eq_true] at this;rw[this.1,this.2.1,this.2.2.1] at hq; cases hq
   | true=>
    have hq':∀b,(decide (f.name=[])&&(decide (f.n=0)&&(decide (f.scopes.length=0)&&b)))=b:=fun b=>by
     simp only[Bool.and_eq_true] at hq;rw[hq.1,hq.2.1,hq.2.2]; simp
    rw[hq'];refine .neg (by simp) ?_;have e2:aT (((41-(d+1):Nat):Int)+1)=((41-d:Nat):Int):=by rw[iV (by omega) (by omega)]; omega
    rw[e2];refine Ex.bG (P:=fun o=>match o with
     | .inl w=>w.1=false∧¬(f.kids.all (Jf d)=true∧jD f.kids≤L-1)
     | .inr s=>f.kids.all (Jf d)=true∧jD f.kids≤L-1∧s=((L-1-jD f.kids:Nat):Int)) ?_ ?_ ?_
    ·refine Ex.bM (I:=fun i q s=>∃u:Nat,s=(u:Int)∧u≤400∧(f.kids.all (Jf d)=true∧jD f.kids≤L-1↔q.all (Jf d)=true∧jD q≤u)∧u+jD f.kids=L-1+jD q∧∀x∈q,x∈f.kids) ?_ ?_ ?_
     ·exact⟨L-1,by omega,by omega,Iff.rfl,rfl,fun _ h=>h⟩
     ·rintro i x q s ⟨u,rfl,hu,hiff,hsum,hmem⟩;have hx:=hmem x (List.mem_cons_self);refine Ex.bind (W9 x (Ht.1 o4 x hx) d (by omega) u hu) ?_;rintro ⟨b,s'⟩ ⟨r1,r2⟩;simp only at r1 r2;cases b with
      | false=>
       refine .pos rfl (.fo ⟨rfl,fun h=>?_⟩);have h':=hiff.1 h;simp only[List.all_cons,Bool.and_eq_true,jD] at h';have:=r1.2 ⟨h'.1.1,by omega⟩;cases this
      | true=>
       obtain⟨q1,q2⟩:=r1.1 rfl;refine .neg (by simp) (.fg ⟨u-cF x,r2 rfl,by omega,?_,by simp only[jD] at hsum; omega,fun y hy=>hmem y (List.mem_cons_of_mem _ hy)⟩);rw[hiff];simp only[List.all_cons,Bool.and_eq_true,jD,q1,true_and];constructor <;> intro h <;> exact⟨h.1,by omega⟩
     ·rintro s ⟨u,rfl,hu,hiff,hsum,_⟩;have h:=hiff.2 ⟨rfl,by simp[jD]⟩;simp only[jD] at hsum;exact⟨h.1,h.2,by omega⟩
    ·rintro ⟨b,s⟩ ⟨h1,h2⟩;simp only at h1;subst h1;refine⟨⟨fun h=>(by cases h),fun h=>absurd ⟨h.1,by omega⟩ h2⟩,fun h=>(by cases h)⟩
    ·rintro s ⟨h1,h2,h3⟩;exact .pure ⟨⟨fun _=>⟨h1,by omega⟩,fun _=>rfl⟩,fun _=>by simp only; omega⟩
 ·rw[if_neg k3];simp only[if_neg k3];exact .pure ⟨⟨fun h=>(by cases h),fun h=>(by cases h.1)⟩,fun h=>(by cases h)⟩
termination_by SizeOf.sizeOf f
decreasing_by exact jB hx
theorem RU (f:Form) (hf:okF f):fV (fun n=>kY n f) (gK f):=by
 refine Ex.AQ ?_;unfold kY;refine Ex.bind (W9 f hf 40 (by omega) 400 (by omega)) ?_;rintro ⟨b,s⟩ ⟨r1,_⟩;refine .pure ?_;simp only at r1 ⊢;unfold gK;rw[Bool.eq_iff_iff,r1];simp
theorem LD (l:List Int) (hl:l.length≤IC):fV (fun n=>kL n l) (UH l):=by
 unfold IC at hl;unfold kL;have hb:UH l=if(List.range (min l.length 25)).all (X6 l)=true then decide (l.length≤24) else false:=by
  unfold UH;by_cases h:l.length≤24
  ·rw[Nat.min_eq_left (by omega)];cases (List.range l.length).all (X6 l) <;> simp
  ·simp[h]
 rw[hb];have step:∀i,i<min l.length 25→(Option.bind ((if(i:Int)<(l.length:Int) then some (decide ((i:Int)≤24)) else some false):Option (Bool)) (fun(o3:Bool)=>(if o3=true then Option.bind ((gG l (i:Int)).bind fun e7=>(if e7<1 then some true else(if e7>99 then some true else(if(i:Int)>0 then(gG l (aT ((i:Int)-1))).bind fun e11=>some (decide (e7≤e11)) else some false))):Option (Bool)) (fun(o5:Bool)=>(if o5=true then some (Sum.inl false) else some (Sum.inr (aT ((i:Int)+1))))) else some (Sum.inl (decide ((l.length:Int)≤24))))):Option (Bool⊕Int))=if X6 l i=true then some (.inr ((i+1:Nat):Int)) else some (.inl false):=fun i hi=>by
  have hi':i<l.length:=by omega
  have hy:=List.getElem?_eq_getElem hi';rw[if_pos (by omega),decide_eq_true (by omega:(i:Int)≤24)];simp only[Option.bind_some,if_true,dV hy,iq (i:=i) (by omega),X6,hy];by_cases h1:l[i]<1
  ·rw[if_pos h1]; simp[show ¬1≤l[i] by omega]
  rw[if_neg h1];by_cases h2:l[i]>99
  ·rw[if_pos h2]; simp[show ¬l[i]≤99 by omega]
  rw[if_neg h2];by_cases h0:(i:Int)>0
  ·have e:aT ((i:Int)-1)=((i-1:Nat):Int):=by rw[iV (by omega) (by omega)]; omega
   have hz:=List.getElem?_eq_getElem (l:=l) (i:=i-1) (by omega);have hi0:(i==0)=false:=by simp; omega
   rw[if_pos h0,e,dV hz,hi0];simp only[Option.bind_some,hz,Bool.false_or];by_cases hlt:l[i-1]<l[i]
   ·simp[hlt,show 1≤l[i] by omega,show l[i]≤99 by omega]
   ·simp[hlt,show l[i]≤l[i-1] by omega]
  ·have hi0:(i==0)=true:=by simp; omega
   rw[if_neg h0,hi0];simp[show 1≤l[i] by omega,show l[i]≤99 by omega]
 refine fV.scan (L:=min l.length 25) (p:=X6 l) (fun i hi hp=>.const ?_) (fun i hi hp=>.const ?_) (.const ?_)
 ·rw[step i hi,if_pos hp]
 ·rw[step i hi,if_neg (by simp[hp])]
 ·have e:((if((min l.length 25:Nat):Int)<(l.length:Int) then some (decide (((min l.length 25:Nat):Int)≤24)) else some false):Option Bool)=some false:=by
   by_cases h:((min l.length 25:Nat):Int)<(l.length:Int)
   ·rw[if_pos h]; congr 1; simp; omega
   ·rw[if_neg h]
  have a1:decide ((l.length:Int)≤24)=decide (l.length≤24):=by simp only[decide_eq_decide]; omega
  rw[e,a1]; rfl
theorem Ex.allI {α ω:Type} {m:Nat→α→Option Bool} {p:α→Bool} {no:ω} {xs:List α} {f:Nat→Unit→Option ω} {Q:ω→Prop} (h:∀x∈xs,fV (fun n=>m n x) (p x)) (hy:xs.all p=true→Ex (fun n=>f n ()) Q) (hn:xs.all p=false→Q no) :
  Ex (fun n=>Mx.bG (Mx.bM (fun(_:Unit) (_:Nat) (x:α)=>((m n x).bind fun k=>(if(!k)=true then some (Sum.inl no) else some (Sum.inr ())):Option (ω⊕Unit))) 0 xs ()) (f n)) Q:=by
 refine Ex.bG (P:=fun o=>match o with
  | .inl w=>w=no∧xs.all p=false
  | .inr _=>xs.all p=true) ?_ ?_ ?_
 ·refine Ex.bM (I:=fun i q s=>(∀x∈q,x∈xs)∧xs.all p=q.all p) ⟨fun _ h=>h,rfl⟩ ?_ ?_
  ·rintro i x q s ⟨h1,h2⟩;refine .bv (h x (h1 x (List.mem_cons_self))) ?_;cases hp:p x with
   | true=>exact .neg (by simp) (.fg ⟨fun y hy=>h1 y (List.mem_cons_of_mem _ hy),by rw[h2,List.all_cons,hp,Bool.true_and]⟩)
   | false=>exact .pos rfl (.fo ⟨rfl,by rw[h2,List.all_cons,hp,Bool.false_and]⟩)
  ·rintro s ⟨_,h2⟩;exact h2
 ·rintro w ⟨rfl,h⟩; exact hn h
 ·rintro ⟨⟩ h; exact hy h
theorem RV (f:Form) (hf:okF f) (d:Nat) (hd:d≤40):fV (fun n=>xU n f (d:Int)) (Jf d f):=by
 obtain⟨o1,o2,o3,o4⟩:=(okF_eq f).1 hf;refine .succ ?_;simp only[xU];by_cases hd0:d=0
 ·subst hd0;exact .pos rfl (.pure _)
 obtain⟨d,rfl⟩:∃e,d=e+1:=⟨d-1,by omega⟩
 refine .neg (by omega) ?_;have kz:decide ((f.kids.length:Int)=0)=decide (f.kids.length=0):=by simp only[decide_eq_decide]; omega
 simp only[Jf];refine Ex.AQ ?_;by_cases k1:f.kind=1
 ·rw[if_pos k1];simp only[if_pos k1];refine Ex.bind (P:=fun b=>b=(nameB f.name&&(decide (f.n=0)&&(UH f.scopes&&decide (f.kids.length=0))))) ?_ (fun b hb=>.pure hb);refine .bv (F7 _ o1) ?_;cases hn:nameB f.name with
  | false=>exact .neg (by simp) (.pure (by simp))
  | true=>
   refine .pos rfl ?_;by_cases h2:f.n=0
   ·refine .pos h2 (.bv (LD _ o2) ?_);cases hs:UH f.scopes with
    | false=>exact .neg (by simp) (.pure (by simp))
    | true=>exact .pos rfl (.pure (by simp[kz,h2]))
   ·exact .neg h2 (.pure (by simp[h2]))
 rw[if_neg k1];simp only[if_neg k1];by_cases k2:f.kind=2
 ·rw[if_pos k2];simp only[if_pos k2];refine Ex.bind (P:=fun b=>b=(decide (f.name=[])&&((decide (0≤f.n)&&decide (f.n≤999))&&(decide (f.scopes.length=0)&&decide (f.kids.length=0))))) ?_ (fun b hb=>.pure hb);by_cases h1:f.name=[]
  ·refine .pos h1 ?_;by_cases h2:f.n≥0
   ·refine .pos h2 ?_;by_cases h4:f.n≤999
    ·refine .pos h4 ?_;by_cases h3:f.scopes.length=0
     ·exact .pos (by omega) (.pure (by rw[kz,decide_eq_true h1,decide_eq_true (show 0≤f.n from h2),decide_eq_true h4,decide_eq_true h3]; simp))
     ·exact .neg (by omega) (.pure (by rw[decide_eq_false h3]; simp))
    ·exact .neg h4 (.pure (by rw[decide_eq_false h4]; simp))
   ·exact .neg h2 (.pure (by rw[decide_eq_false (show ¬0≤f.n from h2)]; simp))
  ·exact .neg h1 (.pure (by simp[h1]))
 rw[if_neg k2];simp only[if_neg k2];by_cases k3:f.kind=3
 ·simp only[k3,not_true_eq_false,if_false,if_true];refine Ex.bind (P:=fun b=>b=!(decide (f.name=[])&&(decide (f.n=0)&&decide (f.scopes.length=0)))) ?_ ?_
  ·by_cases h1:f.name=[]
   ·refine .neg (by simp[h1]) ?_;by_cases h2:f.n=0
    ·refine .neg (by simp[h2]) (.pure ?_);by_cases h3:f.scopes.length=0
     ·have h3':¬¬(f.scopes.length:Int)=0:=by omega
      rw[decide_eq_false h3',decide_eq_true h1,decide_eq_true h2,decide_eq_true h3]; rfl
     ·have h3':¬(f.scopes.length:Int)=0:=by omega
      rw[decide_eq_true h3',decide_eq_true h1,decide_eq_true h2,decide_eq_false h3]; rfl
    ·exact .pos h2 (.pure (by simp[h1,h2]))
   ·exact .pos h1 (.pure (by simp[h1]))
  ·rintro b rfl;have hq':(decide (f.name=[])&&(decide (f.n=0)&&(decide (f.scopes.length=0)&&f.kids.all (Jf d))))=((decide (f.name=[])&&(decide (f.n=0)&&decide (f.scopes.length=0)))&&f.kids.all (Jf d)):=by simp only[Bool.and_assoc]
   rw[hq'];cases (decide (f.name=[])&&(decide (f.n=0)&&decide (f.scopes.length=0))) with
   | false=>exact .pos rfl (.pure rfl)
   | true=>
    refine .neg (by simp) ?_;have e2:aT (((d+1:Nat):Int)-1)=(d:Int):=by rw[iV (by omega) (by omega)]; omega
    rw[e2];exact Ex.allI (m:=fun n x=>xU n x (d:Int)) (p:=Jf d) (fun x hx=>RV x (Ht.1 o4 x hx) d (by omega)) (fun h=>.pure (by rw[h]; rfl)) (fun h=>by rw[h]; rfl)
 ·simp only[if_neg k3];refine Ex.bind (P:=fun b=>b=true) (.pos k3 (.pure rfl)) ?_;rintro b rfl;exact .pos rfl (.pure rfl)
termination_by SizeOf.sizeOf f
decreasing_by exact jB hx
theorem Ex.abl {α:Type} {m:Nat→α→Option Int} {c:α→Nat} {cs:List α→Nat} (hn:cs []=0) (hc:∀x r,cs (x::r)=c x+cs r) {xs:List α} {b:Nat} (hb:b+cs xs≤4611686018427387904) (h:∀x∈xs,fV (fun n=>m n x) (c x:Int)) :
  fV (fun n=>Mx.dR (fun(s:Int) (_:Nat) (x:α)=>(m n x).bind fun k=>some (aT (s+k))) 0 xs (b:Int)) ((b+cs xs:Nat):Int):=by
 refine Ex.AQ ?_;refine Ex.dR (I:=fun i q s=>∃u:Nat,s=(u:Int)∧u+cs q=b+cs xs∧∀x∈q,x∈xs) ⟨b,rfl,rfl,fun _ h=>h⟩ ?_ ?_
 ·rintro i x q s ⟨u,rfl,h1,h2⟩;refine .bv (h x (h2 x (List.mem_cons_self))) (.pure ⟨u+c x,?_,by rw[hc] at h1; omega,fun y hy=>h2 y (List.mem_cons_of_mem _ hy)⟩);rw[hc] at h1;rw[iV (by omega) (by omega)]; omega
 ·rintro s ⟨u,rfl,h1,_⟩;rw[hn] at h1;rw[← h1]; rfl
theorem LG (f:Form) (hw:cF f≤4611686018427387904):fV (fun n=>kK n f) (cF f:Int):=by
 have hc:=qQ f;refine .succ ?_;simp only[kK];rw[hc];refine .bind (a:=((1+jD f.kids:Nat):Int)) ?_ (.pure _);exact Ex.abl (b:=1) (c:=cF) (cs:=jD) rfl (fun _ _=>rfl) (by omega) (fun x hx=>LG x (by have:=qA hx; omega))
termination_by SizeOf.sizeOf f
decreasing_by exact jB hx
theorem F8 (f:Form) (hf:okF f) (hw:cF f≤4611686018427387904):fV (fun n=>bQ n f) (gK f):=by
 refine Ex.AQ ?_;unfold bQ gK;refine Ex.bind (P:=fun b=>b=(Jf 40 f&&decide (cF f≤400))) ?_ (fun b hb=>.pure hb);refine .bv (RV f hf 40 (by omega)) ?_;cases Jf 40 f with
 | false=>exact .neg (by simp) (.pure rfl)
 | true=>
  refine .pos rfl (.bv (LG f hw) (.pure ?_));rw[Bool.true_and]; simp only[decide_eq_decide]; omega
def all2 {α β:Type} (p:α→β→Bool):List α→List β→Bool
 | [],[]=>true
 | x::r,y::s=>p x y&&all2 p r s
 | _,_=>false
theorem Ex.eqI {α:Type} {m:Nat→α→α→Option Bool} {p:α→α→Bool} {xs ys:List α} (hl:xs.length=ys.length) (h:∀x∈xs,∀y,fV (fun n=>m n x y) (p x y)) :
  fV (fun n=>Mx.bG (Mx.bM (fun(_:Unit) (i:Nat) (x:α)=>((gG ys (i:Int)).bind fun e=>(m n x e).bind fun k=>(if(!k)=true then some (Sum.inl false) else some (Sum.inr ())):Option (Bool⊕Unit))) 0 xs ()) (fun _=>some true)) (all2 p xs ys):=by
 refine Ex.AQ ?_;refine Ex.bG (P:=fun o=>match o with
  | .inl w=>w=false∧all2 p xs ys=false
  | .inr _=>all2 p xs ys=true) ?_ ?_ ?_
 ·refine Ex.bM (I:=fun i q s=>(∀x∈q,x∈xs)∧∃z,ys.drop i=z∧q.length=z.length∧all2 p xs ys=all2 p q z) ⟨fun _ h=>h,ys,rfl,hl,rfl⟩ ?_ ?_
  ·rintro i x q s ⟨h1,z,hz,h3,h2⟩;cases z with
   | nil=>simp at h3
   | cons y z=>
    obtain⟨g1,g2,_,_⟩:=jk hz;refine .bp y (dV g1) (.bv (h x (h1 x (List.mem_cons_self)) y) ?_);cases hp:p x y with
    | true=>exact .neg (by simp) (.fg ⟨fun w hw=>h1 w (List.mem_cons_of_mem _ hw),z,g2,by simpa using h3,by rw[h2]; simp only[all2,hp,Bool.true_and]⟩)
    | false=>exact .pos rfl (.fo ⟨rfl,by rw[h2]; simp only[all2,hp,Bool.false_and]⟩)
  ·rintro s ⟨_,z,hz,h3,h2⟩;have:z=[]:=List.eq_nil_of_length_eq_zero (by simpa using h3.symm);subst this;exact h2
 ·rintro w ⟨rfl,h⟩; exact h.symm
 ·rintro ⟨⟩ h; exact .pure h.symm
theorem RX {α:Type} [DecidableEq α]:∀{xs ys:List α},all2 (fun x y=>decide (x=y)) xs ys=decide (xs=ys)
 | [],[]=>rfl
 | x::r,y::s=>by
  simp only[all2,RX (xs:=r) (ys:=s)];rw[Bool.eq_iff_iff]; simp
 | [],_::_=>by simp[all2]
 | _::_,[]=>by simp[all2]
theorem LH {a b:List Int}:fV (fun(_:Nat)=>(if ¬(a.length:Int)=(b.length:Int) then some false else bG (bM (fun(s5:Unit) (i4:Nat) (x7:Int)=>((gG b (i4:Int)).bind fun e12=>(if ¬x7=e12 then some (Sum.inl false) else some (Sum.inr ())):Option (Bool⊕Unit))) 0 a ()) (fun(s5:Unit)=>some true))) (decide (a=b)):=by
 by_cases h:a.length=b.length
 ·refine .neg (by omega) ?_;have:=Ex.eqI (m:=fun _ (x y:Int)=>some (decide (x=y))) (p:=fun x y=>decide (x=y)) h (fun x _ y=>.pure _);rw[RX] at this
  simpa only[Option.bind_some,Bool.not_eq_true',decide_eq_false_iff_not] using this
 ·refine .pos (by omega) ?_;have:¬a=b:=fun e=>h (by rw[e]);simp only[this,decide_false]; exact .pure _
mutual
def iF:Form→Form→Bool
 | ⟨k,nm,n,sc,kids⟩,b=>decide (k=b.kind)&&(decide (nm=b.name)&&(decide (n=b.n)&&(decide (sc=b.scopes)&&jF kids b.kids)))
def jF:List Form→List Form→Bool
 | [],[]=>true
 | x::r,y::s=>iF x y&&jF r s
 | _,_=>false
end
mutual
def zV:Core→Core→Bool
 | ⟨k,id,nm,n,ids,dt,kids⟩,b=>decide (k=b.kind)&&(decide (id=b.id)&&(decide (nm=b.name)&&(decide (n=b.n)&&(decide (ids=b.ids)&&(iF dt b.data&&kP kids b.kids)))))
def kP:List Core→List Core→Bool
 | [],[]=>true
 | x::r,y::s=>zV x y&&kP r s
 | _,_=>false
end
mutual
theorem Ep:∀{a b:Form},iF a b=true↔a=b
 | ⟨k,nm,n,sc,kids⟩,⟨k',nm',n',sc',ade⟩=>by
  simp only[iF,Bool.and_eq_true,decide_eq_true_eq,BZ,Form.mk.injEq]
theorem BZ:∀{a b:List Form},jF a b=true↔a=b
 | [],[]=>by simp[jF]
 | x::r,y::s=>by simp only[jF,Bool.and_eq_true,Ep,BZ,List.cons.injEq]
 | [],_::_=>by simp[jF]
 | _::_,[]=>by simp[jF]
end
mutual
theorem Ul:∀{a b:Core},zV a b=true↔a=b
 | ⟨k,id,nm,n,ids,dt,kids⟩,⟨k',id',nm',n',ag0,dt',ade⟩=>by
  simp only[zV,Bool.and_eq_true,decide_eq_true_eq,yw,Ep,Core.mk.injEq]
theorem yw:∀{a b:List Core},kP a b=true↔a=b
 | [],[]=>by simp[kP]
 | x::r,y::s=>by simp only[kP,Bool.and_eq_true,Ul,yw,List.cons.injEq]
 | [],_::_=>by simp[kP]
 | _::_,[]=>by simp[kP]
end
theorem Cb:∀{a b:List Form},jF a b=all2 iF a b
 | [],[]=>by simp[jF,all2]
 | x::r,y::s=>by simp only[jF,all2,Cb (a:=r)]
 | [],_::_=>by simp[jF,all2]
 | _::_,[]=>by simp[jF,all2]
theorem Ii:∀{a b:List Core},kP a b=all2 zV a b
 | [],[]=>by simp[kP,all2]
 | x::r,y::s=>by simp only[kP,all2,Ii (a:=r)]
 | [],_::_=>by simp[kP,all2]
 | _::_,[]=>by simp[kP,all2]
theorem Oy (a b:Form):iF a b=(decide (a.kind=b.kind)&&(decide (a.name=b.name)&&(decide (a.n=b.n)&&(decide (a.scopes=b.scopes)&&jF a.kids b.kids)))):=by cases a; simp only[iF]
theorem Oz (a b:Core):zV a b=(decide (a.kind=b.kind)&&(decide (a.id=b.id)&&(decide (a.name=b.name)&&(decide (a.n=b.n)&&(decide (a.ids=b.ids)&&(iF a.data b.data&&kP a.kids b.kids)))))):=by cases a; simp only[zV]
theorem Ij {a b:List Form} (h:¬a.length=b.length):jF a b=false:=by
 cases hs:jF a b with
 | false=>rfl
 | true=>exact absurd (by rw[BZ.1 hs]) h
theorem QB {a b:List Core} (h:¬a.length=b.length):kP a b=false:=by
 cases hs:kP a b with
 | false=>rfl
 | true=>exact absurd (by rw[yw.1 hs]) h
theorem OA (a b:List Int):fV (fun n=>slices_Equal_int n a b) (decide (a=b)):=LH
theorem RY (a b:Form):fV (fun n=>jq n a b) (iF a b):=by
 refine .succ ?_;simp only[jq];rw[Oy];refine Ex.AQ ?_;refine Ex.bind (P:=fun o=>o=(decide (a.kind=b.kind)&&(decide (a.name=b.name)&&(decide (a.n=b.n)&&(decide (a.scopes=b.scopes)&&jF a.kids b.kids))))) ?_ (fun _ h=>.pure h);by_cases h1:a.kind=b.kind
 ·refine .pos h1 ?_;by_cases h2:a.name=b.name
  ·refine .pos h2 ?_;by_cases h3:a.n=b.n
   ·refine .pos h3 (.bv (OA _ _) ?_);rw[decide_eq_true h1,decide_eq_true h2,decide_eq_true h3];simp only[Bool.true_and];by_cases h4:a.scopes=b.scopes
    ·rw[decide_eq_true h4];refine .pos rfl ?_;have hk:fV (fun n=>bf n a.kids b.kids) (jF a.kids b.kids):=by
      refine .succ ?_;simp only[bf];by_cases hl:a.kids.length=b.kids.length
      ·refine .neg (by omega) ?_;rw[Cb];exact Ex.eqI (m:=fun n x e=>jq n x e) hl (fun x hx y=>RY x y)
      ·rw[Ij hl]; exact .pos (by omega) (.pure _)
     exact .bv hk (.pure rfl)
    ·rw[decide_eq_false h4];exact .neg (by simp) (.pure rfl)
   ·exact .neg h3 (.pure (by rw[decide_eq_false h3]; simp))
  ·exact .neg h2 (.pure (by rw[decide_eq_false h2]; simp))
 ·exact .neg h1 (.pure (by rw[decide_eq_false h1]; rfl))
termination_by SizeOf.sizeOf a
decreasing_by exact jB hx
theorem RZ (a b:Core):fV (fun n=>jr n a b) (zV a b):=by
 refine .succ ?_;simp only[jr];rw[Oz];refine Ex.AQ ?_;refine Ex.bind (P:=fun o=>o=(decide (a.kind=b.kind)&&(decide (a.id=b.id)&&(decide (a.name=b.name)&&(decide (a.n=b.n)&&(decide (a.ids=b.ids)&&(iF a.data b.data&&kP a.kids b.kids))))))) ?_ (fun _ h=>.pure h);by_cases h1:a.kind=b.kind
 ·refine .pos h1 ?_;by_cases h0:a.id=b.id
  ·refine .pos h0 ?_;by_cases h2:a.name=b.name
   ·refine .pos h2 ?_;by_cases h3:a.n=b.n
    ·refine .pos h3 (.bv (OA _ _) ?_);rw[decide_eq_true h1,decide_eq_true h2,decide_eq_true h3,decide_eq_true h0];simp only[Bool.true_and];by_cases h4:a.ids=b.ids
     ·rw[decide_eq_true h4];refine .pos rfl (.bv (RY _ _) ?_);cases hd:iF a.data b.data with
      | false=>exact .neg (by simp) (.pure rfl)
      | true=>
       refine .pos rfl ?_;have hk:fV (fun n=>bg n a.kids b.kids) (kP a.kids b.kids):=by
        refine .succ ?_;simp only[bg];by_cases hl:a.kids.length=b.kids.length
        ·refine .neg (by omega) ?_;rw[Ii];exact Ex.eqI (m:=fun n x e=>jr n x e) hl (fun x hx y=>RZ x y)
        ·rw[QB hl]; exact .pos (by omega) (.pure _)
       exact .bv hk (.pure rfl)
     ·rw[decide_eq_false h4];exact .neg (by simp) (.pure rfl)
    ·exact .neg h3 (.pure (by rw[decide_eq_false h3]; simp))
   ·exact .neg h2 (.pure (by rw[decide_eq_false h2]; simp))
  ·exact .neg h0 (.pure (by rw[decide_eq_false h0]; simp))
 ·exact .neg h1 (.pure (by rw[decide_eq_false h1]; rfl))
termination_by SizeOf.sizeOf a
decreasing_by exact tH hx
theorem Ik (a b:List Int):fV (fun n=>rX n a b) (decide (a=b)):=LH
theorem yx (a b:Form):fV (fun n=>eP n a b) (iF a b):=by
 refine .succ ?_;simp only[eP];rw[Oy];refine Ex.AQ ?_;refine Ex.bind (P:=fun o=>o=!(decide (a.kind=b.kind)&&(decide (a.name=b.name)&&(decide (a.n=b.n)&&(decide (a.scopes=b.scopes)&&decide (a.kids.length=b.kids.length)))))) ?_ ?_
 ·by_cases h1:a.kind=b.kind
  ·refine .neg (fun h=>h h1) ?_;by_cases h2:a.name=b.name
   ·refine .neg (fun h=>h h2) ?_;by_cases h3:a.n=b.n
    ·refine .neg (fun h=>h h3) (.bv (Ik _ _) ?_);rw[decide_eq_true h1,decide_eq_true h2,decide_eq_true h3];simp only[Bool.true_and];by_cases h4:a.scopes=b.scopes
     ·rw[decide_eq_true h4];refine .neg (by simp) (.pure ?_);by_cases h5:a.kids.length=b.kids.length
      ·rw[decide_eq_true h5,decide_eq_false (show ¬¬(a.kids.length:Int)=(b.kids.length:Int) by omega)]; rfl
      ·rw[decide_eq_false h5,decide_eq_true (show ¬(a.kids.length:Int)=(b.kids.length:Int) by omega)]; rfl
     ·rw[decide_eq_false h4];exact .pos rfl (.pure rfl)
    ·exact .pos h3 (.pure (by rw[decide_eq_false h3]; simp))
   ·exact .pos h2 (.pure (by rw[decide_eq_false h2]; simp))
  ·exact .pos h1 (.pure (by rw[decide_eq_false h1]; rfl))
 ·rintro o rfl;by_cases h5:a.kids.length=b.kids.length
  ·rw[decide_eq_true h5];cases e1:decide (a.kind=b.kind) with
   | false=>exact .pos rfl (.pure rfl)
   | true=>
    cases e2:decide (a.name=b.name) with
    | false=>exact .pos rfl (.pure rfl)
    | true=>
     cases e3:decide (a.n=b.n) with
     | false=>exact .pos rfl (.pure rfl)
     | true=>
      cases e4:decide (a.scopes=b.scopes) with
      | false=>exact .pos rfl (.pure rfl)
      | true=>
       refine .neg (by simp) ?_;simp only[Bool.true_and];rw[Cb];exact(Ex.eqI (m:=fun n x e=>eP n x e) h5 (fun x hx y=>yx x y)).ex
  ·rw[decide_eq_false h5,Ij h5];refine .pos (by simp) (.pure (by simp))
termination_by SizeOf.sizeOf a
decreasing_by exact jB hx
def zF:Form:=⟨0,[],0,[],[]⟩
mutual
def xu:Form→List Int
 | ⟨_,_,_,sc,kids⟩=>sc++uy kids
def uy:List Form→List Int
 | []=>[]
 | x::r=>xu x++uy r
end
mutual
def LJ:Form→Form
 | ⟨k,nm,n,_,kids⟩=>⟨k,nm,n,[],Il kids⟩
def Il:List Form→List Form
 | []=>[]
 | x::r=>LJ x::Il r
end
def Es (f:Form):Bool:=decide (xu f=[])
theorem Xa (f:Form):xu f=f.scopes++uy f.kids:=by cases f; simp only[xu]
theorem Y4 (f:Form):LJ f=⟨f.kind,f.name,f.n,[],Il f.kids⟩:=by cases f; simp only[LJ]
theorem JR:∀l:List Form,Il l=l.map LJ
 | []=>rfl
 | x::r=>by simp only[Il,List.map_cons,JR r]
mutual
theorem Io:∀f:Form,(xu f).length≤wF f
 | ⟨k,nm,n,sc,kids⟩=>by have:=JU kids; simp only[xu,wF,List.length_append]; omega
theorem JU:∀l:List Form,(uy l).length≤pq l
 | []=>by simp[uy]
 | x::r=>by have:=Io x; have:=JU r; simp only[uy,pq,List.length_append]; omega
end
mutual
theorem OB:∀f:Form,iF (LJ f) f=Es f
 | ⟨k,nm,n,sc,kids⟩=>by
  have ih:=JV kids;rw[Bool.eq_iff_iff];simp only[LJ,iF,Es,xu,ih,decide_true,Bool.true_and,Bool.and_eq_true,decide_eq_true_eq,List.append_eq_nil_iff];exact⟨fun⟨a,b⟩=>⟨a.symm,b⟩,fun⟨a,b⟩=>⟨a.symm,b⟩⟩
theorem JV:∀l:List Form,jF (Il l) l=decide (uy l=[])
 | []=>rfl
 | x::r=>by
  have ih:=OB x;have ih2:=JV r;rw[Bool.eq_iff_iff];simp only[Il,jF,ih,ih2,Es,uy,Bool.and_eq_true,decide_eq_true_eq,List.append_eq_nil_iff]
end
def UJ (c:Core):Bool:=
 (if c.kind=1 then decide (1≤c.id)&&decide (c.id≤999) else decide (c.id=0)) &&
 ((if c.kind=2 then nameB c.name else decide (c.name=[])) &&
 ((if c.kind=3 then decide (0≤c.n)&&decide (c.n≤999) else decide (c.n=0)) &&
 ((if c.kind=4 then gK c.data&&Es c.data else iF c.data zF) &&
 (decide (c.kind=5)||decide (c.ids=[])))))
def Fg (k:Int) (m:Nat):Bool:=if k=1∨k=2∨k=3∨k=4 then decide (m=0) else if k=5 then decide (m=1) else if k=6 then decide (1≤m) else if k=7 then decide (m=3) else false
def MC:List Int→List Int→Option (List Int)
 | sc,[]=>some sc
 | sc,x::r=>if(1≤x∧x≤999)∧x∉sc then MC (sc++[x]) r else none
theorem LK:∀{ids sc s:List Int},MC sc ids=some s→s.length=sc.length+ids.length
 | [],sc,s,h=>by cases h; rfl
 | x::r,sc,s,h=>by
  simp only[MC] at h;split at h
  ·have:=LK h; simp at this ⊢; omega
  ·cases h
def DX:Nat→List Int→Core→Bool
 | 0,_,_=>false
 | d+1,sc,c=>Fg c.kind c.kids.length&&(UJ c&&((!decide (c.kind=1)||decide (c.id∈sc))&&(match MC sc c.ids with
  | none=>false
  | some s=>c.kids.all (DX d s))))
mutual
def cC:Core→Nat
 | ⟨_,_,_,_,_,_,kids⟩=>1+Bc kids
def Bc:List Core→Nat
 | []=>0
 | x::r=>cC x+Bc r
end
theorem Fh (f:Core):cC f=1+Bc f.kids:=by cases f; simp only[cC]
mutual
theorem Xb:∀f:Core,cC f≤wC f+1
 | ⟨k,id,nm,n,ids,dt,kids⟩=>by have:=Xc kids; simp only[cC,wC]; omega
theorem Xc:∀l:List Core,Bc l≤yO l+l.length
 | []=>by simp[Bc]
 | x::r=>by have:=Xb x; have:=Xc r; simp only[Bc,yO,List.length_cons]; omega
end
theorem DC:∀{l:List Core} {x:Core},x∈l→cC x≤Bc l
 | y::r,x,h=>by
  simp only[Bc];rcases List.mem_cons.1 h with rfl | h
  ·omega
  ·have:=DC h; omega
def vJ (c:Core):Bool:=DX 120 [] c&&decide (cC c≤600)
theorem Si (n:Nat) (l:List Int) (x:Int):slices_Contains_int n l x=some (decide (x∈l)):=by
 unfold slices_Contains_int slices_Index_int;have main:∀(l:List Int) (i:Nat),∃k:Int,bG (Mx.bM (fun(_:Unit) (i:Nat) (y:Int)=>((if x=y then some (Sum.inl (i:Int)) else some (Sum.inr ())):Option (Int⊕Unit))) i l ()) (fun _=>some (-1))=some k∧(k≥0↔x∈l):=by
  intro l
  induction l with
  | nil=>intro i; exact⟨-1,rfl,by simp⟩
  | cons y r ih=>
   intro i;by_cases h:x=y
   ·subst h;exact⟨(i:Int),by simp[Mx.bM,Mx.bG],by simp⟩
   ·obtain⟨k,h1,h2⟩:=ih (i+1);refine⟨k,?_,by rw[h2]; simp[h]⟩;rw[← h1];simp[Mx.bM,h]
 obtain⟨k,h1,h2⟩:=main l 0;rw[h1,Option.bind_some];congr 1;rw[Bool.eq_iff_iff,decide_eq_true_eq,decide_eq_true_eq]; exact h2
theorem Xd (n:Nat) (l:List Int) (x:Int):eX n l x=some (decide (x∈l)):=Si n l x
theorem Sj (f:Form) (w:List Int) (hw:w.length+wF f≤1073741824):fV (fun n=>dL n f w) (w++xu f):=by
 have he:=EN f;refine .succ ?_;simp only[dL,qx];refine Ex.AQ ?_;rw[dI (by omega)];simp only[Option.bind_some];refine Ex.bind (P:=fun s=>s=w++xu f) ?_ (fun s hs=>.pure hs);refine Ex.dR (I:=fun i q s=>s++uy q=w++xu f∧s.length+pq q+q.length≤1073741824∧∀x∈q,x∈f.kids) ⟨by rw[Xa,List.append_assoc],by simp; omega,fun _ h=>h⟩ ?_ ?_
 ·rintro i x q s ⟨h1,h2,h3⟩;simp only[pq,List.length_cons] at h2;have g4:=h3 x (List.mem_cons_self);refine .bv (Sj x s (by omega)) (.pure ⟨?_,?_,fun y hy=>h3 y (List.mem_cons_of_mem _ hy)⟩)
  ·rw[← h1]; simp only[uy,List.append_assoc]
  ·have:=Io x;simp only[List.length_append]; omega
 ·rintro s ⟨h1,_,_⟩
  simpa [uy] using h1
termination_by SizeOf.sizeOf f
decreasing_by exact jB g4
theorem OC {l:List Int}:(Lib.compact l).length=0↔l=[]:=by
 constructor
 ·intro h;cases l with
  | nil=>rfl
  | cons x r=>
   exfalso;have h:Lib.compact (x::r)=[]:=List.eq_nil_of_length_eq_zero h;unfold Lib.compact Lib.compactUpTo at h;rw[List.map_eq_nil_iff,List.filter_eq_nil_iff] at h;exact h 0 (by simp) (by simp[Lib.keeps])
 ·rintro rfl; rfl
theorem Y5 (f:Form) (hw:wF f≤1073741824) (hv:gK f=true):Ex (fun n=>qL n f) (fun r=>decide ((r.length:Int)>0)=!Es f):=by
 unfold qL;refine .bv (RU f (Ih f hw)) ?_;rw[hv];refine .neg (by simp) (.bv (Sj f [] (by simp; omega)) ?_);have hl:=Io f;rw[List.nil_append];unfold jW kH;refine .bp _ (if_pos (by omega)) (.bp () (YO (by simp)) (.bp _ rfl (.pure ?_)));unfold Es;generalize hs:(xu f).mergeSort (fun x y=>decide (x≤y))=s;have hsl:s.length=(xu f).length:=by rw[← hs]; simp
 by_cases h:xu f=[]
 ·have:s=[]:=List.eq_nil_of_length_eq_zero (by rw[hsl,h]; rfl);rw[this,h]; rfl
 ·have h1:s≠[]:=fun e=>h (List.eq_nil_of_length_eq_zero (by rw[← hsl,e]; rfl));have h2:(Lib.compact s).length≠0:=fun e=>h1 (OC.1 e);rw[decide_eq_true (by omega),decide_eq_false h]; rfl
theorem abm (sc ids:List Int) (hl:sc.length+ids.length≤1073741824) {ω:Type} (no:ω) (N:Nat):Mx.bM (fun(I8:List Int) (i40:Nat) (x43:Int)=>(Option.bind ((iO N x43 1 999).bind fun YR=>(if(!YR)=true then some true else(eX N I8 x43).bind fun ZI=>some ZI):Option (Bool)) (fun(ZJ:Bool)=>(if ZJ=true then some (Sum.inl no) else(jJ 8 I8 [x43]).bind fun z50=>some (Sum.inr z50))):Option (ω⊕(List Int)))) 0 ids sc=some (match MC sc ids with
  | none=>.inl no
  | some s=>.inr s):=by
 have main:∀(ids sc:List Int) (i:Nat),sc.length+ids.length≤1073741824→Mx.bM (fun(I8:List Int) (i40:Nat) (x43:Int)=>(Option.bind ((iO N x43 1 999).bind fun YR=>(if(!YR)=true then some true else(eX N I8 x43).bind fun ZI=>some ZI):Option (Bool)) (fun(ZJ:Bool)=>(if ZJ=true then some (Sum.inl no) else(jJ 8 I8 [x43]).bind fun z50=>some (Sum.inr z50))):Option (ω⊕(List Int)))) i ids sc=some (match MC sc ids with
  | none=>.inl no
  | some s=>.inr s):=by
  simp only[JQ,Xd,Option.bind_some];intro ids
  induction ids with
  | nil=>intro sc i _; rfl
  | cons x r ih=>
   intro sc i hb;simp only[List.length_cons] at hb;simp only[Mx.bM,MC];by_cases h1:1≤x∧x≤999
   ·simp only[h1.1,h1.2,decide_true,Bool.and_self,Bool.not_true,Bool.false_eq_true,if_false,Option.bind_some,true_and,and_self];by_cases h2:x∈sc
    ·simp only[h2,decide_true,if_true,Option.bind_some,not_true_eq_false,if_false]
    ·simp only[h2,decide_false,Bool.false_eq_true,if_false,not_false_eq_true,if_true];rw[dI (by simp; omega)];simp only[Option.bind_some];exact ih (sc++[x]) (i+1) (by simp; omega)
   ·have h1':(decide (1≤x)&&decide (x≤999))=false:=by
     rw[Bool.eq_false_iff]; simpa using h1
    simp only[h1',Bool.not_false,if_true,Option.bind_some,h1,false_and,if_false]
 exact main ids sc 0 hl
def Um (c:Core):Bool:=
 (if c.kind=1 then decide (1≤c.id)&&decide (c.id≤999) else decide (c.id=0)) &&
 ((if c.kind=2 then nameB c.name else decide (c.name=[])) &&
 ((if c.kind=3 then decide (0≤c.n)&&decide (c.n≤999) else decide (c.n=0)) &&
 (if c.kind=4 then gK c.data&&Es c.data else iF c.data zF)))
theorem abn (c:Core):UJ c=(Um c&&(decide (c.kind=5)||decide (c.ids=[]))):=by simp only[UJ,Um,Bool.and_assoc]
theorem DF {c:Core} (h:c.kind≠5) (d:Nat) (sc:List Int):DX (d+1) sc c=(Fg c.kind c.kids.length&&(Um c&&((!decide (c.kind=1)||decide (c.id∈sc))&&(decide (c.ids=[])&&c.kids.all (DX d sc))))):=by
 simp only[DX,abn,decide_eq_false h,Bool.false_or];by_cases hi:c.ids=[]
 ·rw[hi];simp only[MC,decide_true,Bool.and_true,Bool.true_and]
 ·rw[decide_eq_false hi]; simp
theorem bare_eq (c:Core) (a:Int) (b:List UInt8) (e:Int) (g:List Int) (dt:Form):zV c ⟨c.kind,a,b,e,g,dt,c.kids⟩=(decide (c.id=a)&&(decide (c.name=b)&&(decide (c.n=e)&&(decide (c.ids=g)&&iF c.data dt)))):=by
 rw[Oz];simp only[decide_true,Bool.true_and,yw.2,Bool.and_true]
theorem kd1 (m:Nat):Fg 1 m=decide (m=0):=by simp[Fg]
theorem kd2 (m:Nat):Fg 2 m=decide (m=0):=by simp[Fg]
theorem kd3 (m:Nat):Fg 3 m=decide (m=0):=by simp[Fg]
theorem kd4 (m:Nat):Fg 4 m=decide (m=0):=by simp[Fg]
theorem kd5 (m:Nat):Fg 5 m=decide (m=1):=by simp[Fg]
theorem kd6 (m:Nat):Fg 6 m=decide (1≤m):=by simp[Fg]
theorem kd7 (m:Nat):Fg 7 m=decide (m=3):=by simp[Fg]
theorem LM (c:Core) (k:Nat):decide ((c.kids.length:Int)=(k:Int))=decide (c.kids.length=k):=by simp only[decide_eq_decide]; omega
theorem Xe (c:Core) (d:Nat) (hd:d≤120) (sc:List Int) (hw:sc.length+wC c≤1073741824) (L:Nat) (hL:L≤600):Ex (fun n=>rW n c sc ((121-d:Nat):Int) (L:Int)) (fun r=>(r.1=true↔DX d sc c=true∧cC c≤L)∧(r.1=true→r.2=((L-cC c:Nat):Int))):=by
 have he:=NK c;have hc:=Fh c;refine .succ ?_;simp only[rW];have e1:aT ((L:Int)-1)=(L:Int)-1:=iV (by omega) (by omega);rw[e1];by_cases h0:(L:Int)-1<0
 ·simp only[if_pos h0,Option.bind_some,if_true];refine .pure ⟨⟨fun h=>(by cases h),fun h=>(by omega)⟩,fun h=>(by cases h)⟩
 rw[if_neg h0];by_cases hd0:d=0
 ·subst hd0;simp only[show decide (((121-0:Nat):Int)>120)=true from rfl,Option.bind_some,if_true];refine .pure ⟨⟨fun h=>(by cases h),fun h=>(by simp[DX] at h)⟩,fun h=>(by cases h)⟩
 obtain⟨d,rfl⟩:∃e,d=e+1:=⟨d-1,by omega⟩
 have hdd:decide (((121-(d+1):Nat):Int)>120)=false:=by simp; omega
 simp only[hdd,Option.bind_some,Bool.false_eq_true,if_false];have l0:decide ((c.kids.length:Int)=0)=decide (c.kids.length=0):=LM c 0;have l1:decide ((c.kids.length:Int)=1)=decide (c.kids.length=1):=LM c 1;have l3:decide ((c.kids.length:Int)=3)=decide (c.kids.length=3):=LM c 3;refine Ex.bG (P:=fun o=>match o with
  | .inl w=>w=(false,(L:Int)-1)∧DX (d+1) sc c=false
  | .inr t=>DX (d+1) sc c=(decide ((c.kids.length:Int)=t.1)&&(zV c ⟨c.kind,t.2.2.1,t.2.2.2.1,t.2.2.2.2.1,t.2.2.2.2.2.1,⟨t.2.2.2.2.2.2.1,t.2.2.2.2.2.2.2.1,t.2.2.2.2.2.2.2.2.1,t.2.2.2.2.2.2.2.2.2.1,t.2.2.2.2.2.2.2.2.2.2⟩,c.kids⟩&&c.kids.all (DX d t.2.1)))∧t.2.1.length≤sc.length+c.ids.length) ?_ ?_ ?_
 ·by_cases k1:c.kind=1
  ·refine .pos k1 ?_;have hcr:=DF (c:=c) (by omega) d sc;simp only[JQ,Si,Option.bind_some];rw[k1] at hcr;simp only[decide_true,Bool.not_true,Bool.false_or] at hcr;refine Ex.bind (P:=fun o=>o=!((decide (1≤c.id)&&decide (c.id≤999))&&decide (c.id∈sc))) ?_ ?_
   ·cases (decide (1≤c.id)&&decide (c.id≤999)) with
    | false=>exact .pos rfl (.pure rfl)
    | true=>exact .neg (by simp) (.pure (by simp))
   ·rintro o rfl;have hf:Um c=((decide (1≤c.id)&&decide (c.id≤999))&&(decide (c.name=[])&&(decide (c.n=0)&&iF c.data zF))):=by unfold Um; simp[k1]
    rw[hf] at hcr;cases hq:((decide (1≤c.id)&&decide (c.id≤999))&&decide (c.id∈sc)) with
    | false=>
     refine .pos rfl (.pure ⟨rfl,?_⟩);rw[hcr];rcases Bool.and_eq_false_iff.1 hq with h | h <;> rw[h] <;> simp
    | true=>
     obtain⟨h1,h2⟩:=(Bool.and_eq_true _ _▸hq:_∧_)
     refine .neg (by simp) (.pure ⟨?_,by simp⟩);rw[hcr,bare_eq,h1,h2];simp only[decide_true,Bool.true_and,l0,l1,l3,kd1,kd2,kd3,kd4,kd6,kd7,zF]
     ac_rfl
  refine .neg k1 ?_;by_cases k2:c.kind=2
  ·refine .pos k2 (.bv (RQ _ (by unfold IC; omega)) ?_);have hcr:=DF (c:=c) (by omega) d sc;have hf:Um c=(decide (c.id=0)&&(nameB c.name&&(decide (c.n=0)&&iF c.data zF))):=by unfold Um; simp[k2]
   rw[hf,k2] at hcr;cases hq:nameB c.name with
   | false=>exact .pos rfl (.pure ⟨rfl,by rw[hcr,hq]; simp⟩)
   | true=>
    refine .neg (by simp) (.pure ⟨?_,by simp⟩);rw[hcr,bare_eq,hq];simp only[decide_true,Bool.true_and,l0,l1,l3,kd1,kd2,kd3,kd4,kd6,kd7,zF,show decide ((2:Int)=1)=false from rfl,Bool.not_false,Bool.true_or]
    ac_rfl
  refine .neg k2 ?_;by_cases k3:c.kind=3
  ·refine .pos k3 ?_;have hcr:=DF (c:=c) (by omega) d sc;have hf:Um c=(decide (c.id=0)&&(decide (c.name=[])&&((decide (0≤c.n)&&decide (c.n≤999))&&iF c.data zF))):=by unfold Um; simp[k3]
   rw[hf,k3] at hcr;simp only[JQ,Option.bind_some];cases hq:(decide (0≤c.n)&&decide (c.n≤999)) with
   | false=>exact .pos rfl (.pure ⟨rfl,by rw[hcr,hq]; simp⟩)
   | true=>
    refine .neg (by simp) (.pure ⟨?_,by simp⟩);rw[hcr,bare_eq,hq];simp only[decide_true,Bool.true_and,l0,l1,l3,kd1,kd2,kd3,kd4,kd6,kd7,zF,show decide ((3:Int)=1)=false from rfl,Bool.not_false,Bool.true_or]
    ac_rfl
  refine .neg k3 ?_;by_cases k4:c.kind=4
  ·refine .pos k4 ?_;have hcr:=DF (c:=c) (by omega) d sc;have hf:Um c=(decide (c.id=0)&&(decide (c.name=[])&&(decide (c.n=0)&&(gK c.data&&Es c.data)))):=by unfold Um; simp[k4]
   rw[hf,k4] at hcr;refine Ex.bind (P:=fun o=>o=!(gK c.data&&Es c.data)) ?_ ?_
   ·refine .bv (RU _ (Ih _ (by omega))) ?_;cases hv:gK c.data with
    | false=>exact .pos rfl (.pure rfl)
    | true=>
     refine .neg (by simp) (Ex.bind (Y5 _ (by omega) hv) ?_);intro r hr;exact .pure (by rw[hr,Bool.true_and])
   ·rintro o rfl;cases hq:(gK c.data&&Es c.data) with
    | false=>exact .pos rfl (.pure ⟨rfl,by rw[hcr,hq]; simp⟩)
    | true=>
     refine .neg (by simp) (.pure ⟨?_,by simp⟩);have hd0:iF c.data ⟨c.data.kind,c.data.name,c.data.n,c.data.scopes,c.data.kids⟩=true:=Ep.2 (by cases c.data; rfl);rw[hcr,bare_eq,hq];simp only[];rw[hd0];simp only[decide_true,Bool.true_and,l0,l1,l3,kd1,kd2,kd3,kd4,kd6,kd7,show decide ((4:Int)=1)=false from rfl,Bool.not_false,Bool.true_or,Bool.and_true]
     ac_rfl
  refine .neg k4 ?_;by_cases k5:c.kind=5
  ·refine .pos k5 ?_;unfold slices_Clone_int;rw[nC (by omega)];simp only[Option.bind_some];have hf:UJ c=(decide (c.id=0)&&(decide (c.name=[])&&(decide (c.n=0)&&iF c.data zF))):=by unfold UJ; simp[k5]
   have hcr:DX (d+1) sc c=(decide (c.kids.length=1)&&((decide (c.id=0)&&(decide (c.name=[])&&(decide (c.n=0)&&iF c.data zF)))&&(match MC sc c.ids with
    | none=>false
    | some s=>c.kids.all (DX d s)))):=by
    simp only[DX,hf,k5,kd5,show decide ((5:Int)=1)=false from rfl,Bool.not_false,Bool.true_or,Bool.true_and]
   simp only[abm sc c.ids (by omega)];cases hq:MC sc c.ids with
   | none=>exact .pure ⟨rfl,by rw[hcr,hq]; simp⟩
   | some s=>
    refine .pure ⟨?_,by rw[LK hq]; exact Nat.le_refl _⟩;rw[hcr,hq,bare_eq];simp only[decide_true,Bool.true_and,l1,zF]
  refine .neg k5 ?_;have hcr:=DF (c:=c) k5 d sc;have hf:Um c=(decide (c.id=0)&&(decide (c.name=[])&&(decide (c.n=0)&&iF c.data zF))):=by unfold Um; simp[k1,k2,k3,k4]
  rw[hf,decide_eq_false k1] at hcr;by_cases k6:c.kind=6
  ·refine .pos k6 (.pure ⟨?_,by simp⟩);have hm:decide ((c.kids.length:Int)=(if(c.kids.length:Int)>1 then(c.kids.length:Int) else 1))=decide (1≤c.kids.length):=by
    rw[Bool.eq_iff_iff,decide_eq_true_eq,decide_eq_true_eq];split <;> constructor <;> intro h <;> omega
   rw[hcr,bare_eq];simp only[];rw[hm,k6];simp only[decide_true,Bool.true_and,l0,l1,l3,kd1,kd2,kd3,kd4,kd6,kd7,zF,Bool.not_false,Bool.true_or]
   ac_rfl
  refine .neg k6 ?_;by_cases k7:c.kind=7
  ·refine .pos k7 (.pure ⟨?_,by simp⟩);rw[hcr,bare_eq,k7];simp only[decide_true,Bool.true_and,l0,l1,l3,kd1,kd2,kd3,kd4,kd6,kd7,zF,Bool.not_false,Bool.true_or]
   ac_rfl
  ·refine .neg k7 (.pure ⟨rfl,?_⟩);rw[hcr];have:Fg c.kind c.kids.length=false:=by unfold Fg; simp[k1,k2,k3,k4,k5,k6,k7]
   rw[this]; rfl
 ·rintro w ⟨rfl,h⟩;exact⟨⟨fun h=>(by cases h),fun h'=>by rw[h] at h'; cases h'.1⟩,fun h=>(by cases h)⟩
 ·rintro ⟨m,s,a,b,e,g,dk,dn,dm,ds,dl⟩ ⟨hcr,hsl⟩;simp only at hcr hsl ⊢;refine Ex.bind (P:=fun o=>o=!(decide ((c.kids.length:Int)=m)&&zV c ⟨c.kind,a,b,e,g,⟨dk,dn,dm,ds,dl⟩,c.kids⟩)) ?_ ?_
  ·by_cases hm:(c.kids.length:Int)=m
   ·refine .neg (fun h=>h hm) (.bv (RZ _ _) (.pure ?_));rw[decide_eq_true hm,Bool.true_and]
   ·refine .pos hm (.pure ?_);rw[decide_eq_false hm]; rfl
  ·rintro o rfl;rw[← Bool.and_assoc] at hcr;cases hq:(decide ((c.kids.length:Int)=m)&&zV c ⟨c.kind,a,b,e,g,⟨dk,dn,dm,ds,dl⟩,c.kids⟩) with
   | false=>
    rw[hq,Bool.false_and] at hcr;exact .pos rfl (.pure ⟨⟨fun h=>(by cases h),fun h'=>by rw[hcr] at h'; cases h'.1⟩,fun h=>(by cases h)⟩)
   | true=>
    rw[hq,Bool.true_and] at hcr;refine .neg (by simp) ?_;have e2:aT (((121-(d+1):Nat):Int)+1)=((121-d:Nat):Int):=by rw[iV (by omega) (by omega)]; omega
    rw[e2];refine Ex.bG (P:=fun o=>match o with
     | .inl w=>w.1=false∧¬(c.kids.all (DX d s)=true∧Bc c.kids≤L-1)
     | .inr t=>c.kids.all (DX d s)=true∧Bc c.kids≤L-1∧t=((L-1-Bc c.kids:Nat):Int)) ?_ ?_ ?_
    ·refine Ex.bM (I:=fun i q t=>∃u:Nat,t=(u:Int)∧u≤600∧(c.kids.all (DX d s)=true∧Bc c.kids≤L-1↔q.all (DX d s)=true∧Bc q≤u)∧u+Bc c.kids=L-1+Bc q∧∀x∈q,x∈c.kids) ?_ ?_ ?_
     ·exact⟨L-1,by omega,by omega,Iff.rfl,rfl,fun _ h=>h⟩
     ·rintro i x q t ⟨u,rfl,hu,hiff,hsum,hmem⟩;have hx:=hmem x (List.mem_cons_self);refine Ex.bind (Xe x d (by omega) s (by have:=Df hx; omega) u hu) ?_;rintro ⟨b,s'⟩ ⟨r1,r2⟩;simp only at r1 r2;cases b with
      | false=>
       refine .pos rfl (.fo ⟨rfl,fun h=>?_⟩);have h':=hiff.1 h;simp only[List.all_cons,Bool.and_eq_true,Bc] at h';have:=r1.2 ⟨h'.1.1,by omega⟩;cases this
      | true=>
       obtain⟨q1,q2⟩:=r1.1 rfl;refine .neg (by simp) (.fg ⟨u-cC x,r2 rfl,by omega,?_,by simp only[Bc] at hsum; omega,fun y hy=>hmem y (List.mem_cons_of_mem _ hy)⟩);rw[hiff];simp only[List.all_cons,Bool.and_eq_true,Bc,q1,true_and];constructor <;> intro h <;> exact⟨h.1,by omega⟩
     ·rintro t ⟨u,rfl,hu,hiff,hsum,_⟩;have h:=hiff.2 ⟨rfl,by simp[Bc]⟩;simp only[Bc] at hsum;exact⟨h.1,h.2,by omega⟩
    ·rintro ⟨b,t⟩ ⟨h1,h2⟩;simp only at h1;subst h1;refine⟨⟨fun h=>(by cases h),fun h=>absurd ⟨hcr▸h.1,by omega⟩ h2⟩,fun h=>(by cases h)⟩
    ·rintro t ⟨h1,h2,h3⟩;exact .pure ⟨⟨fun _=>⟨hcr.trans h1,by omega⟩,fun _=>rfl⟩,fun _=>by simp only; omega⟩
termination_by SizeOf.sizeOf c
decreasing_by exact tH hx
theorem Y6 (c:Core) (hw:wC c≤1073741824):fV (fun n=>oJ n c) (vJ c):=by
 refine Ex.AQ ?_;unfold oJ;refine Ex.bind (Xe c 120 (by omega) [] (by simp; omega) 600 (by omega)) ?_;rintro ⟨b,s⟩ ⟨r1,_⟩;refine .pure ?_;simp only at r1 ⊢;unfold vJ;rw[Bool.eq_iff_iff,r1];simp
theorem DI (n:Nat) (l:List Int) (x:Int):mY n l x=some (decide (x∈l)):=by
 unfold mY;have:=ZP (step:=fun(_:Unit) (_:Nat) (y:Int)=>((if y=x then some (Sum.inl true) else some (Sum.inr ())):Option (Bool⊕Unit))) (p:=fun y=>!decide (y=x)) (no:=true) (f:=fun _=>some false) (xs:=l) (i:=0) (fun i y _=>by by_cases h:y=x <;> simp[h]);rw[this];by_cases h:x∈l
 ·rw[if_neg]
  ·simp[h]
  ·intro hall;rw[List.all_eq_true] at hall;have:=hall x h;simp at this
 ·rw[if_pos]
  ·simp[h]
  ·rw[List.all_eq_true];intro y hy;have:¬y=x:=fun e=>h (e▸hy);simp[this]
theorem JW (f:Form) (hw:wF f≤1073741824):fV (fun n=>gV n f) (LJ f):=by
 have he:=EN f;refine .succ ?_;simp only[gV];rw[Y4,JR];refine Ex.AQ ?_;refine Ex.bind (P:=fun s=>s=f.kids.map LJ) ?_ (fun s hs=>.pure (by rw[hs]));refine Ex.dR (I:=fun i q s=>s=(f.kids.take i).map LJ∧f.kids.drop i=q) ⟨rfl,rfl⟩ ?_ ?_
 ·rintro i x q s ⟨rfl,hd⟩;obtain⟨g1,g2,g3,g4⟩:=jk hd;have hm:=Dc g4;refine .bv (JW x (by omega)) (.bp _ (dI (by simp; omega)) (.pure ⟨?_,g2⟩));rw[List.take_add_one,g1]; simp
 ·rintro s ⟨rfl,_⟩; simp
termination_by SizeOf.sizeOf f
decreasing_by exact jB g4
theorem abo (n:Nat) (k:Int) (m:Nat):wK n k (m:Int)=some (Fg k m):=by
 unfold wK Fg;have a0:decide ((m:Int)=0)=decide (m=0):=by simp only[decide_eq_decide]; omega
 have a1:decide ((m:Int)=1)=decide (m=1):=by simp only[decide_eq_decide]; omega
 have a3:decide ((m:Int)=3)=decide (m=3):=by simp only[decide_eq_decide]; omega
 have a6:decide ((m:Int)≥1)=decide (1≤m):=by simp only[decide_eq_decide]; omega
 rw[a0,a1,a3,a6];by_cases h1:k=1
 ·subst h1; rfl
 by_cases h2:k=2
 ·subst h2; rfl
 by_cases h3:k=3
 ·subst h3; rfl
 by_cases h4:k=4
 ·subst h4; rfl
 simp only[h1,h2,h3,h4,if_false,decide_false,Option.bind_some,Bool.false_eq_true,or_self];by_cases h5:k=5
 ·subst h5; rfl
 by_cases h6:k=6
 ·subst h6; rfl
 by_cases h7:k=7
 ·subst h7; rfl
 simp only[h5,h6,h7,if_false,Option.bind_some]
theorem Y7 (c:Core) (hw:wC c≤1073741824):fV (fun n=>qN n c) (UJ c):=by
 have he:=NK c;have hn:c.name.length≤IC:=by unfold IC; omega
 refine Ex.AQ ?_;unfold qN UJ;refine Ex.bind (P:=fun o=>o=!(if c.kind=1 then decide (1≤c.id)&&decide (c.id≤999) else decide (c.id=0))) ?_ ?_
 ·by_cases k:c.kind=1
  ·simp only[k,if_true,not_true_eq_false,if_false];by_cases h1:c.id<1
   ·exact .pos h1 (.pure (by rw[decide_eq_false (show ¬1≤c.id by omega)]; rfl))
   ·refine .neg h1 ?_;by_cases h2:c.id>999
    ·exact .pos h2 (.pure (by rw[decide_eq_false (show ¬c.id≤999 by omega)]; simp))
    ·exact .neg h2 (.pure (by rw[decide_eq_true (show c.id≤999 by omega),decide_eq_true (show 1≤c.id by omega)]; rfl))
  ·simp only[k,if_false,not_false_eq_true,if_true];exact .pure (by simp)
 rintro o rfl;cases (if c.kind=1 then decide (1≤c.id)&&decide (c.id≤999) else decide (c.id=0)) with
 | false=>exact .pos rfl (.pure rfl)
 | true=>
 refine .neg (by simp) ?_;simp only[Bool.true_and];refine Ex.bind (P:=fun o=>o=!(if c.kind=2 then nameB c.name else decide (c.name=[]))) ?_ ?_
 ·by_cases k:c.kind=2
  ·simp only[k,if_true,not_true_eq_false,if_false];refine .bv (F7 _ hn) ?_;cases nameB c.name with
   | false=>exact .pos rfl (.pure rfl)
   | true=>exact .neg (by simp) (.pure rfl)
  ·simp only[k,if_false,not_false_eq_true,if_true];exact .pure (by simp)
 rintro o rfl;cases (if c.kind=2 then nameB c.name else decide (c.name=[])) with
 | false=>exact .pos rfl (.pure rfl)
 | true=>
 refine .neg (by simp) ?_;simp only[Bool.true_and];refine Ex.bind (P:=fun o=>o=!(if c.kind=3 then decide (0≤c.n)&&decide (c.n≤999) else decide (c.n=0))) ?_ ?_
 ·by_cases k:c.kind=3
  ·simp only[k,if_true,not_true_eq_false,if_false];by_cases h1:c.n<0
   ·exact .pos h1 (.pure (by rw[decide_eq_false (show ¬0≤c.n by omega)]; rfl))
   ·refine .neg h1 ?_;by_cases h2:c.n>999
    ·exact .pos h2 (.pure (by rw[decide_eq_false (show ¬c.n≤999 by omega)]; simp))
    ·exact .neg h2 (.pure (by rw[decide_eq_true (show c.n≤999 by omega),decide_eq_true (show 0≤c.n by omega)]; rfl))
  ·simp only[k,if_false,not_false_eq_true,if_true];exact .pure (by simp)
 rintro o rfl;cases (if c.kind=3 then decide (0≤c.n)&&decide (c.n≤999) else decide (c.n=0)) with
 | false=>exact .pos rfl (.pure rfl)
 | true=>
 refine .neg (by simp) ?_;simp only[Bool.true_and];refine Ex.bind (P:=fun o=>o=!(if c.kind=4 then gK c.data&&Es c.data else iF c.data zF)) ?_ ?_
 ·by_cases k:c.kind=4
  ·simp only[k,if_true,not_true_eq_false,if_false];refine .bv (F8 _ (Ih _ (by omega)) (by have:=RS c.data; omega)) ?_;cases gK c.data with
   | false=>exact .pos rfl (.pure rfl)
   | true=>
    refine .neg (by simp) (.bv (JW _ (by omega)) (.bv (yx _ _) ?_));rw[OB];cases Es c.data with
    | false=>exact .pos rfl (.pure rfl)
    | true=>exact .neg (by simp) (.pure rfl)
  ·simp only[k,if_false,not_false_eq_true,if_true];exact .bv (yx _ _) (.pure rfl)
 rintro o rfl;cases (if c.kind=4 then gK c.data&&Es c.data else iF c.data zF) with
 | false=>exact .pos rfl (.pure rfl)
 | true=>
 refine .neg (by simp) ?_;simp only[Bool.true_and];refine Ex.bind (P:=fun o=>o=(decide (c.kind=5)||decide (c.ids=[]))) ?_ (fun o ho=>.pure ho);by_cases k:c.kind=5
 ·exact .pos k (.pure (by simp[k]))
 ·refine .neg k (.pure ?_);rw[decide_eq_false k,Bool.false_or,Bool.eq_iff_iff];simp
theorem Sl (c:Core) (d:Nat) (hd:d≤120) (sc:List Int) (hw:sc.length+wC c≤1073741824):fV (fun n=>xW n c sc (d:Int)) (DX d sc c):=by
 have he:=NK c;refine .succ ?_;simp only[xW];refine Ex.AQ ?_;by_cases hd0:d=0
 ·subst hd0;simp only[show((0:Nat):Int)=0 from rfl,if_true,Option.bind_some];exact .pure rfl
 obtain⟨d,rfl⟩:∃e,d=e+1:=⟨d-1,by omega⟩
 refine Ex.bind (P:=fun o=>o=!(Fg c.kind c.kids.length&&(UJ c&&(!decide (c.kind=1)||decide (c.id∈sc))))) ?_ ?_
 ·refine .neg (by omega) ?_;simp only[abo,Option.bind_some];cases Fg c.kind c.kids.length with
  | false=>exact .pos rfl (.pure rfl)
  | true=>
   refine .neg (by simp) (.bv (Y7 c (by omega)) ?_);cases UJ c with
   | false=>exact .pos rfl (.pure rfl)
   | true=>
    refine .neg (by simp) ?_;by_cases k:c.kind=1
    ·refine .pos k ?_;simp only[DI,Option.bind_some];exact .pure (by simp[k])
    ·exact .neg k (.pure (by simp[k]))
 rintro o rfl;have hq:DX (d+1) sc c=((Fg c.kind c.kids.length&&(UJ c&&(!decide (c.kind=1)||decide (c.id∈sc))))&&(match MC sc c.ids with
  | none=>false
  | some s=>c.kids.all (DX d s))):=by simp only[DX,Bool.and_assoc]
 rw[hq];cases (Fg c.kind c.kids.length&&(UJ c&&(!decide (c.kind=1)||decide (c.id∈sc)))) with
 | false=>exact .pos rfl (.pure rfl)
 | true=>
 refine .neg (by simp) ?_;rw[Bool.true_and];refine Ex.bG (P:=fun o=>match o with
  | .inl w=>w=false∧MC sc c.ids=none
  | .inr s=>MC sc c.ids=some s) ?_ ?_ ?_
 ·refine Ex.bM (I:=fun i q s=>MC sc c.ids=MC s q∧s.length+q.length=sc.length+c.ids.length) ⟨rfl,rfl⟩ ?_ ?_
  ·rintro i x q s ⟨h1,h2⟩;simp only[List.length_cons] at h2;simp only[MC] at h1;simp only[DI,Option.bind_some];by_cases a1:x<1
   ·simp only[if_pos a1,Option.bind_some,if_true];exact .fo ⟨rfl,by rw[h1,if_neg (fun h=>by have:=h.1.1; omega)]⟩
   rw[if_neg a1];by_cases a2:x>999
   ·simp only[if_pos a2,Option.bind_some,if_true];exact .fo ⟨rfl,by rw[h1,if_neg (fun h=>by have:=h.1.2; omega)]⟩
   rw[if_neg a2];by_cases a3:x∈s
   ·simp only[a3,decide_true,Option.bind_some,if_true];exact .fo ⟨rfl,by rw[h1,if_neg (fun h=>h.2 a3)]⟩
   ·simp only[a3,decide_false,Option.bind_some,Bool.false_eq_true,if_false];refine .bp s (nC (by omega)) (.bp (s++[x]) (dI (by simp; omega)) (.fg ⟨?_,by simp; omega⟩));rw[h1,if_pos ⟨⟨by omega,by omega⟩,a3⟩]
  ·rintro s ⟨h1,_⟩;rw[h1]; rfl
 ·rintro w ⟨rfl,h⟩;rw[h]
 ·intro s hs;have hs:MC sc c.ids=some s:=hs;rw[hs];have hl:=LK hs;have e2:aT (((d+1:Nat):Int)-1)=(d:Int):=by rw[iV (by omega) (by omega)]; omega
  rw[e2];exact Ex.allI (m:=fun n x=>xW n x s (d:Int)) (p:=DX d s) (fun x hx=>Sl x d (by omega) s (by have:=Df hx; omega)) (fun h=>.pure h.symm) (fun h=>h.symm)
termination_by SizeOf.sizeOf c
decreasing_by exact tH hx
theorem Sm (f:Core) (hw:cC f≤4611686018427387904):fV (fun n=>pK n f) (cC f:Int):=by
 have hc:=Fh f;refine .succ ?_;simp only[pK];rw[hc];refine .bind (a:=((1+Bc f.kids:Nat):Int)) ?_ (.pure _);exact Ex.abl (b:=1) (c:=cC) (cs:=Bc) rfl (fun _ _=>rfl) (by omega) (fun x hx=>Sm x (by have:=DC hx; omega))
termination_by SizeOf.sizeOf f
decreasing_by exact tH hx
theorem Y8 (c:Core) (hw:wC c≤1073741824):fV (fun n=>oO n c) (vJ c):=by
 refine Ex.AQ ?_;unfold oO vJ;refine Ex.bind (P:=fun b=>b=(DX 120 [] c&&decide (cC c≤600))) ?_ (fun b hb=>.pure hb);refine .bv (Sl c 120 (by omega) [] (by simp; omega)) ?_;cases DX 120 [] c with
 | false=>exact .neg (by simp) (.pure rfl)
 | true=>
  refine .pos rfl (.bv (Sm c (by have:=Xb c; omega)) (.pure ?_));rw[Bool.true_and]; simp only[decide_eq_decide]; omega
theorem LP (f:Form) (hw:wF f≤1000000000):fV (fun n=>iP n f) f:=by
 have he:=EN f;refine .succ ?_;simp only[iP];refine Ex.AQ (.bp _ (nC (by omega)) ?_);refine .bv (Dh (m:=fun n x=>iP n x) (be:=80) (by omega) (fun x hx=>LP x (by have:=Dc hx; omega))) (.pure (by cases f; rfl))
termination_by SizeOf.sizeOf f
decreasing_by exact jB hx
theorem LQ (c:Core) (hw:wC c≤1000000000):fV (fun n=>jO n c) c:=by
 have he:=NK c;refine .succ ?_;simp only[jO];refine Ex.AQ (.bp _ (nC (by omega)) (.bv (LP c.data (by omega)) ?_));refine .bv (Dh (m:=fun n x=>jO n x) (be:=168) (by omega) (fun x hx=>LQ x (by have:=Df hx; omega))) (.pure (by cases c; rfl))
termination_by SizeOf.sizeOf c
decreasing_by exact tH hx
theorem jh {a:Int} {r:aY} {B:Int} (h:Gd r B) (hB:1≤B):Ex (fun n=>aP n a r) (fun k=>Sp r k.2 1∧(1≤a→0≤k.1∧k.1<a)):=by
 obtain⟨v,r',h1,h2,h3⟩:=RH (a:=a) h hB;exact⟨(v,r'),h1,h2,h3⟩
theorem xw {l:List Int} {r:aY} {B:Int} (hl:1≤l.length) (h:Gd r B) (hB:1≤B):Ex (fun n=>cZ n l r) (fun k=>Sp r k.2 1∧k.1∈l):=by
 obtain⟨v,r',h1,h2,h3⟩:=V9 hl h hB;exact⟨(v,r'),h1,h2,h3⟩
theorem Y9 {l:List (List UInt8)} {r:aY} {B:Int} (hl:1≤l.length) (h:Gd r B) (hB:1≤B):Ex (fun n=>jd n l r) (fun k=>Sp r k.2 1∧k.1∈l):=by
 obtain⟨v,r',h1,h2,h3⟩:=V9 hl h hB;exact⟨(v,r'),h1,h2,h3⟩
theorem Xf (b:List UInt8):Ex (fun n=>qc n b) (fun r=>Gd r 1000000000):=by
 unfold qc;by_cases h:(b.length:Int)>2000
 ·have hs:IZ b 0 2000=some (b.take 2000):=by
   unfold IZ;rw[if_pos ⟨by omega,by omega,by omega⟩]; simp
  refine Ex.bind (P:=fun o=>o.length≤2000) (.pos h (.bp _ hs (.pure (by simp; omega)))) ?_;intro o ho;exact .pure ⟨by show(0:Int)≤0; omega,by show(0:Int)+1000000000≤_; omega,ho⟩
 ·refine Ex.bind (P:=fun o=>o.length≤2000) (.neg h (.pure (by omega))) ?_;intro o ho;exact .pure ⟨by show(0:Int)≤0; omega,by show(0:Int)+1000000000≤_; omega,ho⟩
def bF:Nat→Int
 | 0=>3
 | d+1=>3+3*bF d
theorem Xg:∀d,3≤bF d
 | 0=>by simp[bF]
 | d+1=>by have:=Xg d; simp only[bF]; omega
def yA:Nat→Form→Prop
 | 0,f=>(f.kind=1∧f.n=0∧f.scopes=[]∧f.kids=[]∧f.name∈([[97],[98],[120],[121],[102],[105,102],[108,101,116],[43]]:List (List UInt8)))∨(f.kind=2∧f.name=[]∧f.scopes=[]∧f.kids=[]∧f.n∈([0,1,2,7,42,999]:List Int))
 | d+1,f=>((f.kind=1∧f.n=0∧f.scopes=[]∧f.kids=[]∧f.name∈([[97],[98],[120],[121],[102],[105,102],[108,101,116],[43]]:List (List UInt8)))∨(f.kind=2∧f.name=[]∧f.scopes=[]∧f.kids=[]∧f.n∈([0,1,2,7,42,999]:List Int)))∨(f.kind=3∧f.name=[]∧f.n=0∧f.scopes=[]∧f.kids.length≤3∧∀x∈f.kids,yA d x)
theorem OD {d:Nat} {f:Form} (h:yA 0 f):yA d f:=by
 cases d with
 | zero=>exact h
 | succ d=>exact .inl h
theorem Sr {r:aY} (h:Gd r 2):Ex (fun n=>(aP n 4 r).bind fun k3=>(if k3.1=0 then(cZ n [0,1,2,7,42,999] k3.2).bind fun k5=>some ((⟨2,[],k5.1,[],[]⟩:Form),k5.2) else(jd n [[97],[98],[120],[121],[102],[105,102],[108,101,116],[43]] k3.2).bind fun k6=>(eY n k6.1).bind fun k7=>some (k7,k6.2))) (fun k=>Sp r k.2 2∧yA 0 k.1):=by
 refine .bind (jh h (by omega)) fun k3 ⟨s1,_⟩=>?_;refine .ite (fun _=>?_) (fun _=>?_)
 ·refine .bind (xw (by simp) (h.to s1 (D:=1) (by omega)) (by omega)) fun k5 ⟨s2,hm⟩=>.pure ⟨s1.trans s2 (by omega),.inr ⟨rfl,rfl,rfl,rfl,hm⟩⟩
 ·refine .bind (Y9 (by simp) (h.to s1 (D:=1) (by omega)) (by omega)) fun k6 ⟨s2,hm⟩=>?_;unfold eY;exact .pure ⟨s1.trans s2 (by omega),.inl ⟨rfl,rfl,rfl,rfl,hm⟩⟩
theorem Sv:∀(d:Nat),d≤10→∀(r:aY),Gd r (bF d)→Ex (fun n=>lu n (d:Int) r) (fun k=>Sp r k.2 (bF d)∧yA d k.1):=by
 intro d
 induction d with
 | zero=>
  intro _ r h;have h:Gd r 3:=h;refine .succ ?_;simp only[lu];refine Ex.bind (P:=fun o=>o=(true,r)) (.pos rfl (.pure rfl)) ?_;rintro o rfl;exact .pos rfl ((Sr (h.to (.refl (Int.le_refl 0)) (D:=2) (by omega))).mono fun k ⟨a,b⟩=>⟨a.mono (by simp[bF]),b⟩)
 | succ d ih=>
  intro hd r h;have ih:=ih (by omega);have hB:=Xg d;have h:Gd r (3+3*bF d):=h;refine .succ ?_;simp only[lu];refine Ex.bind (P:=fun o=>Sp r o.2 1) (.neg (by omega) (.bind (jh h (by omega)) fun k15 ⟨s1,_⟩=>.pure s1)) ?_;rintro ⟨b,r1⟩ s1;have g1:Gd r1 (2+3*bF d):=h.to s1 (by omega);refine .ite (fun _=>?_) (fun _=>?_)
  ·exact(Sr (g1.to (.refl (Int.le_refl 0)) (D:=2) (by omega))).mono fun k ⟨a,b⟩=>⟨s1.trans a (by simp only[bF]; omega),OD b⟩
  ·refine .bind (jh g1 (by omega)) fun k8 ⟨s2,hc⟩=>?_;obtain⟨hc0,hc1⟩:=hc (by omega);obtain⟨c,r2⟩:=k8;simp only at s2 hc0 hc1 ⊢;have g2:Gd r2 (3*bF d):=g1.to s2 (by omega);have e1:aT (((d+1:Nat):Int)-1)=(d:Int):=by rw[iV (by omega) (by omega)]; omega
   rw[e1];refine Ex.iter (fun s=>s.1.toNat) (fun s=>∃j:Nat,(j:Int)≤c∧s.1=c-j∧Sp r2 ⟨s.2.2.1,s.2.2.2⟩ (j*bF d)∧s.2.1.length=j∧∀x∈s.2.1,yA d x) _ ⟨0,by omega,by simp,by simpa using (Sp.refl (r:=r2) (Int.le_refl 0)),rfl,by simp⟩ ?_;rintro ⟨cnt,l,b,p⟩ ⟨j,j0,j1,j2,j3,j4⟩;simp only at j1 j2 j3 j4 ⊢;have hj:j=0∨j=1∨j=2∨j=3:=by omega
   refine .ite (fun hp=>?_) (fun hp=>?_)
   ·have gj:Gd ⟨b,p⟩ (bF d):=g2.to j2 (by rcases hj with rfl | rfl | rfl | rfl <;> simp <;> omega);refine .bind (ih _ gj) fun k12 ⟨k2,k3⟩=>?_;have e2:aT (cnt-1)=cnt-1:=iV (by omega) (by omega);rw[e2];refine .bp _ (dI (by simp; omega)) (Ex.pure ⟨fun _ e=>(by cases e),fun s' e=>?_⟩);cases e;refine⟨⟨j+1,by omega,by simp only; omega,?_,by simp; omega,?_⟩,by simp only; omega⟩
    ·refine j2.trans (D:=((j+1:Nat):Int)*bF d) k2 ?_;rcases hj with rfl | rfl | rfl | rfl <;> simp <;> omega
    ·intro x hx;rcases List.mem_append.1 hx with h | h
     ·exact j4 x h
     ·rw[List.mem_singleton.1 h]; exact k3
   ·refine Ex.pure ⟨fun w e=>?_,fun s' e=>(by cases e)⟩;cases e;refine⟨?_,.inr ⟨rfl,rfl,rfl,rfl,by simp only; omega,j4⟩⟩;refine s1.trans (s2.trans (j2.mono (C:=3*bF d) ?_) (D:=1+3*bF d) (by omega)) (by simp only[bF]; omega);rcases hj with rfl | rfl | rfl | rfl <;> simp <;> omega
def wD:Nat→Nat
 | 0=>3
 | d+1=>6+3*wD d
theorem Xh {w:Nat}:∀{l:List Form},(∀x∈l,wF x≤w)→pq l≤l.length*w
 | [],_=>by simp[pq]
 | x::r,h=>by
  have h1:=h x (List.mem_cons_self);have h2:=Xh (l:=r) (fun y hy=>h y (List.mem_cons_of_mem _ hy));simp only[pq,List.length_cons,Nat.succ_mul]; omega
theorem JX {f:Form} (h:yA 0 f):wF f≤3:=by
 have hw:=EN f;rcases h with ⟨h1,h2,h3,h4,h5⟩ | ⟨h1,h2,h3,h4,h5⟩
 ·rw[h3,h4] at hw;simp only[List.length_nil,pq,Nat.add_zero] at hw;simp only[List.mem_cons,List.not_mem_nil,or_false] at h5;rcases h5 with h | h | h | h | h | h | h | h <;> rw[h] at hw <;> simp at hw <;> omega
 ·rw[h2,h3,h4] at hw;simp[pq] at hw; omega
theorem Ip:∀(d:Nat) {f:Form},yA d f→wF f≤wD d
 | 0,f,h=>JX h
 | d+1,f,h=>by
  rcases h with h | ⟨h1,h2,h3,h4,h5,h6⟩
  ·have:=JX (f:=f) h;simp only[wD]; omega
  ·have hw:=EN f;have:=Xh (fun x hx=>Ip d (h6 x hx));have:f.kids.length*wD d≤3*wD d:=Nat.mul_le_mul_right _ h5;rw[h2,h4] at hw;simp only[List.length_nil] at hw;simp only[wD]; omega
def Xi (sc:List Int) (c:Core):Prop:=
 (∃i,i∈sc∧c=⟨1,i,[],0,[],⟨0,[],0,[],[]⟩,[]⟩)∨(∃f,yA 1 f∧c=⟨4,0,[],0,[],f,[]⟩)∨(∃s,s∈([[102],[43],[108,105,115,116]]:List (List UInt8))∧c=⟨2,0,s,0,[],⟨0,[],0,[],[]⟩,[]⟩)∨(∃i,i∈([0,1,5,42]:List Int)∧c=⟨3,0,[],i,[],⟨0,[],0,[],[]⟩,[]⟩)
theorem Sz {sc:List Int} {c:Core} (h:Xi sc c):wC c≤20:=by
 rcases h with ⟨i,_,rfl⟩ | ⟨f,hf,rfl⟩ | ⟨s,hs,rfl⟩ | ⟨i,_,rfl⟩
 ·simp[wC,yO,wF,pq]
 ·have:=Ip 1 hf;simp only[wD] at this;simp only[wC,yO,List.length_nil]; omega
 ·simp only[List.mem_cons,List.not_mem_nil,or_false] at hs;rcases hs with rfl | rfl | rfl <;> simp[wC,yO,wF,pq]
 ·simp[wC,yO,wF,pq]
theorem SA {a1:List Int} {a3:Int} {r:aY} (h:Gd r 19):Ex (fun n=>Option.bind ((if(a1.length:Int)>0 then(aP n 3 r).bind fun k15=>some ((decide (k15.1>0)),k15.2) else some (false,r)):Option (Bool×aY)) (fun(o3:Bool×aY)=>(if o3.1=true then(aP n (a1.length:Int) o3.2).bind fun k5=>(gG a1 k5.1).bind fun e6=>some ((⟨1,e6,[],0,[],(⟨0,[],0,[],[]⟩:Form),[]⟩:Core),a3,k5.2) else(aP n 4 o3.2).bind fun k8=>(if k8.1=0 then(lu n 1 k8.2).bind fun k10=>some ((⟨4,0,[],0,[],k10.1,[]⟩:Core),a3,k10.2) else(if k8.1=1 then(jd n [[102],[43],[108,105,115,116]] k8.2).bind fun k12=>some ((⟨2,0,k12.1,0,[],(⟨0,[],0,[],[]⟩:Form),[]⟩:Core),a3,k12.2) else(cZ n [0,1,5,42] k8.2).bind fun k13=>some ((⟨3,0,[],k13.1,[],(⟨0,[],0,[],[]⟩:Form),[]⟩:Core),a3,k13.2)))))) (fun k=>Sp r k.2.2 19∧Xi a1 k.1):=by
 refine Ex.bind (P:=fun o=>Sp r o.2 1∧(o.1=true→1≤a1.length)) ?_ ?_
 ·refine .ite (fun hl=>.bind (jh h (by omega)) fun k15 ⟨s1,_⟩=>.pure ⟨s1,fun _=>by omega⟩) (fun hl=>.pure ⟨.refl (by omega),fun h=>by cases h⟩)
 rintro ⟨b0,r1⟩ ⟨s1,hb⟩;simp only at s1 hb ⊢;have g1:Gd r1 18:=h.to s1 (by omega);refine .ite (fun hb0=>?_) (fun _=>?_)
 ·have hl:=hb hb0;refine .bind (jh g1 (by omega)) fun k5 ⟨s2,hv⟩=>?_;obtain⟨v0,v1⟩:=hv (by omega);obtain⟨x,hx,hm⟩:=bY v0 v1;exact .bp x hx (.pure ⟨(s1.trans s2 (D:=2) (by omega)).mono (by omega),.inl ⟨x,hm,rfl⟩⟩)
 ·refine .bind (jh g1 (by omega)) fun k8 ⟨s2,_⟩=>?_;have g2:Gd k8.2 17:=g1.to s2 (by omega);refine .ite (fun _=>?_) (fun _=>.ite (fun _=>?_) (fun _=>?_))
  ·have e34:bF 1=12:=by simp[bF]
   refine .bind (Sv 1 (by omega) k8.2 (by rw[e34]; exact⟨g2.1,by have:=g2.2.1; omega,g2.2.2⟩)) fun k10 ⟨s3,hf⟩=>?_;rw[e34] at s3;exact .pure ⟨(s1.trans (s2.trans s3 (D:=13) (by omega)) (D:=14) (by omega)).mono (by omega),.inr (.inl ⟨_,hf,rfl⟩)⟩
  ·refine .bind (Y9 (by simp) g2 (by omega)) fun k12 ⟨s3,hm⟩=>.pure ⟨(s1.trans (s2.trans s3 (D:=2) (by omega)) (D:=3) (by omega)).mono (by omega),.inr (.inr (.inl ⟨_,hm,rfl⟩))⟩
  ·refine .bind (xw (by simp) g2 (by omega)) fun k13 ⟨s3,hm⟩=>.pure ⟨(s1.trans (s2.trans s3 (D:=2) (by omega)) (D:=3) (by omega)).mono (by omega),.inr (.inr (.inr ⟨_,hm,rfl⟩))⟩
def bC:Nat→Int
 | 0=>20
 | d+1=>24+3*bC d
def UK:Nat→Nat
 | 0=>20
 | d+1=>20+3*UK d
theorem Xj:∀d,20≤bC d
 | 0=>by simp[bC]
 | d+1=>by have:=Xj d; simp only[bC]; omega
theorem Za:∀d,20≤UK d
 | 0=>by simp[UK]
 | d+1=>by simp only[UK]; omega
theorem Xk {w:Nat}:∀{l:List Core},(∀x∈l,wC x≤w)→yO l≤l.length*w
 | [],_=>by simp[yO]
 | x::r,h=>by
  have h1:=h x (List.mem_cons_self);have h2:=Xk (l:=r) (fun y hy=>h y (List.mem_cons_of_mem _ hy));simp only[yO,List.length_cons,Nat.succ_mul]; omega
theorem Zb:∀(d:Nat),d≤10→∀(sc:List Int) (last:Int) (r:aY),sc.length≤1000000-2*d→Gd r (bC d)→Ex (fun n=>qg n sc (d:Int) last r) (fun k=>Sp r k.2.2 (bC d)∧wC k.1≤UK d∧(Xi sc k.1∨k.1.kids≠[])):=by
 intro d
 induction d with
 | zero=>
  intro _ sc last r hl h;have h:Gd r 20:=h;refine .succ ?_;simp only[qg];refine Ex.bind (P:=fun o=>o=(true,r)) (.pos rfl (.pure rfl)) ?_;rintro o rfl;exact .pos rfl ((SA (h.to (.refl (Int.le_refl 0)) (D:=19) (by omega))).mono fun k ⟨a,b⟩=>⟨a.mono (by simp[bC]),Sz b,.inl b⟩)
 | succ d ih=>
  intro hd sc last r hl h;have ih:=ih (by omega);have hB:=Xj d;have hW:=Za d;have h:Gd r (24+3*bC d):=h;refine .succ ?_;simp only[qg];refine Ex.bind (P:=fun o=>Sp r o.2 1) (.neg (by omega) (.bind (jh h (by omega)) fun k15 ⟨s1,_⟩=>.pure s1)) ?_;rintro ⟨b,r1⟩ s1;have g1:Gd r1 (23+3*bC d):=h.to s1 (by omega);refine .ite (fun _=>?_) (fun _=>?_)
  ·exact(SA (g1.to (.refl (Int.le_refl 0)) (D:=19) (by omega))).mono fun k ⟨a,b⟩=>⟨s1.trans a (by simp only[bC]; omega),by have:=Sz b; simp only[UK]; omega,.inl b⟩
  ·refine .bind (xw (by simp) g1 (by omega)) fun k18 ⟨s2,hk⟩=>?_;obtain⟨kd,r2⟩:=k18;simp only at s2 hk ⊢;have g2:Gd r2 (22+3*bC d):=g1.to s2 (by omega);refine Ex.bind (P:=fun o=>Sp r2 ⟨o.2.2.2.2.1,o.2.2.2.2.2⟩ 3∧o.1.length≤sc.length+2∧1≤o.2.2.1∧o.2.2.1≤3∧o.2.2.2.1.length≤2) ?_ ?_
   ·refine .ite (fun _=>?_) (fun _=>.ite (fun _=>?_) (fun _=>?_))
    ·refine .bind (xw (by simp) g2 (by omega)) fun k26 ⟨s3,hm⟩=>?_;obtain⟨c,r3⟩:=k26;simp only at s3 hm ⊢;have hc:0≤c∧c≤2:=by
      simp only[List.mem_cons,List.not_mem_nil,or_false] at hm;rcases hm with rfl | rfl | rfl <;> simp
     have g3:Gd r3 2:=g2.to s3 (by omega);refine Ex.iter (fun s=>s.2.2.1.toNat) (fun s=>∃j:Nat,(j:Int)≤c∧s.2.2.1=c-j∧Sp r3 ⟨s.2.2.2.2.1,s.2.2.2.2.2⟩ j∧s.2.2.2.1.length=j∧s.1.length=sc.length+j) _ ⟨0,by omega,by simp,by simpa using (Sp.refl (r:=r3) (Int.le_refl 0)),rfl,rfl⟩ ?_;rintro ⟨l,ct,cnt,nl,b,p⟩ ⟨j,j0,j1,j2,j3,j4⟩;simp only at j1 j2 j3 j4 ⊢;refine .ite (fun hp=>?_) (fun hp=>?_)
     ·refine .bind (xw (B:=1) (by simp) (g3.to j2 (by omega)) (by omega)) fun k30 ⟨s4,_⟩=>?_;have e2:aT (cnt-1)=cnt-1:=iV (by omega) (by omega);rw[e2];refine .bp _ (dI (by simp; omega)) (.bp _ (nC (by omega)) (.bp _ (dI (by simp; omega)) (Ex.pure ⟨fun _ e=>(by cases e),fun s' e=>?_⟩)));cases e;exact⟨⟨j+1,by omega,by simp only; omega,j2.trans s4 (by omega),by simp; omega,by simp; omega⟩,by simp only; omega⟩
     ·refine Ex.pure ⟨fun w e=>?_,fun s' e=>(by cases e)⟩;cases e;exact⟨s3.trans (j2.mono (C:=2) (by omega)) (by omega),by simp only; omega,by simp,by simp,by simp only; omega⟩
    ·refine .bind (xw (by simp) g2 (by omega)) fun EU ⟨s3,hm⟩=>?_;have hc:1≤EU.1∧EU.1≤3:=by
      have hm:=hm;simp only[List.mem_cons,List.not_mem_nil,or_false] at hm;rcases hm with h | h | h <;> rw[h] <;> simp
     exact .pure ⟨s3.mono (by omega),by simp,hc.1,hc.2,by simp⟩
    ·exact .pure ⟨.refl (by omega),by simp,by simp,by simp,by simp⟩
   ·rintro ⟨l2,ct2,c,nl,b3,p3⟩ ⟨s3,hl2,hc1,hc3,hnl⟩;simp only at s3 hl2 hc1 hc3 hnl ⊢;have g3:Gd ⟨b3,p3⟩ (3*bC d):=g2.to s3 (by omega);have e1:aT (((d+1:Nat):Int)-1)=(d:Int):=by rw[iV (by omega) (by omega)]; omega
    rw[e1];refine Ex.iter (fun s=>(c-s.2.1).toNat) (fun s=>∃j:Nat,(j:Int)≤c∧s.2.1=(j:Int)∧Sp ⟨b3,p3⟩ ⟨s.2.2.2.1,s.2.2.2.2⟩ (j*bC d)∧s.2.2.1.length=j∧∀x∈s.2.2.1,wC x≤UK d) _ ⟨0,by omega,by simp,by simpa using (Sp.refl (r:=⟨b3,p3⟩) (Int.le_refl 0)),rfl,by simp⟩ ?_;rintro ⟨ct,cnt,l,b,p⟩ ⟨j,j0,j1,j2,j3,j4⟩;simp only at j1 j2 j3 j4 ⊢;have hj:j=0∨j=1∨j=2∨j=3:=by omega
    refine .ite (fun hp=>?_) (fun hp=>?_)
    ·have gj:Gd ⟨b,p⟩ (bC d):=g3.to j2 (by rcases hj with rfl | rfl | rfl | rfl <;> simp <;> omega);refine .bind (ih l2 ct _ (by omega) gj) fun k23 ⟨k2,k3,_⟩=>?_;have e2:aT (cnt+1)=cnt+1:=iV (by omega) (by omega);rw[e2];refine .bp _ (dI (by simp; omega)) (Ex.pure ⟨fun _ e=>(by cases e),fun s' e=>?_⟩);cases e;refine⟨⟨j+1,by omega,by simp only; omega,?_,by simp; omega,?_⟩,by simp only; omega⟩
     ·refine j2.trans (D:=((j+1:Nat):Int)*bC d) k2 ?_;rcases hj with rfl | rfl | rfl | rfl <;> simp <;> omega
     ·intro x hx;rcases List.mem_append.1 hx with h | h
      ·exact j4 x h
      ·rw[List.mem_singleton.1 h]; exact k3
    ·refine Ex.pure ⟨fun w e=>?_,fun s' e=>(by cases e)⟩;cases e;have hjc:(j:Int)=c:=by omega
     refine⟨?_,?_,.inr ?_⟩
     ·refine s1.trans (s2.trans (s3.trans (j2.mono (C:=3*bC d) ?_) (D:=3+3*bC d) (by omega)) (D:=4+3*bC d) (by omega)) (by simp only[bC]; omega);rcases hj with rfl | rfl | rfl | rfl <;> simp <;> omega
     ·have:=Xk j4;have:l.length*UK d≤3*UK d:=Nat.mul_le_mul_right _ (by omega);simp only[wC,wF,pq,UK,List.length_nil]; omega
     ·intro e;simp only at e;rw[e] at j3;simp at j3; omega
theorem Ex.skip {L:Nat} (hL:L≤1000000) {step:Nat→Int→Option (Int⊕Int)} {at_:Nat} (ha:at_≤L) (h1:∀i:Nat,i<L→Ex (fun n=>step n (i:Int)) (fun r=>r=.inr ((i+1:Nat):Int)∨r=.inl (i:Int))) (h2:Ex (fun n=>step n (L:Int)) (fun r=>r=.inl (L:Int))) :
  Ex (fun n=>iterM n (step n) (at_:Int)) (fun r=>∃k:Nat,r=(k:Int)∧at_≤k∧k≤L):=by
 refine Ex.iter (fun s=>L-s.toNat) (fun s=>∃i:Nat,s=(i:Int)∧at_≤i∧i≤L) _ ⟨at_,rfl,Nat.le_refl _,ha⟩ ?_;rintro s ⟨i,rfl,h3,h4⟩;rcases Nat.lt_or_ge i L with h | h
 ·refine(h1 i h).mono ?_;rintro r (rfl | rfl)
  ·exact⟨fun w e=>(by cases e),fun s' e=>by cases e; exact⟨⟨i+1,rfl,by omega,by omega⟩,by simp; omega⟩⟩
  ·exact⟨fun w e=>by cases e; exact⟨i,rfl,h3,h4⟩,fun s' e=>(by cases e)⟩
 ·have:i=L:=by omega
  subst this;refine h2.mono ?_;rintro r rfl;exact⟨fun w e=>by cases e; exact⟨_,rfl,h3,h4⟩,fun s' e=>(by cases e)⟩
theorem Iq (s:List UInt8) (hs:s.length≤1000000) (a:Nat) (ha:a≤s.length):Ex (fun n=>nZ n s (a:Int)) (fun r=>∃k:Nat,r=(k:Int)∧a≤k∧k≤s.length):=by
 unfold nZ;refine Ex.skip hs ha (fun i hi=>?_) ?_
 ·have hy:=List.getElem?_eq_getElem hi;rw[if_pos (by omega),dV hy];simp only[Option.bind_some];by_cases h:((s[i].toNat:Int)=32)
  ·rw[decide_eq_true h]; exact .pos rfl (.pure (.inl (by rw[iq (by omega)])))
  ·rw[decide_eq_false h]; exact .neg (by simp) (.pure (.inr rfl))
 ·rw[if_neg (by omega)]; simp only[Option.bind_some]; exact .neg (by simp) (.pure rfl)
theorem abp (s:List UInt8) (hs:s.length≤1000000) (a:Nat) (ha:a≤s.length):Ex (fun n=>wZ n s (a:Int)) (fun r=>∃k:Nat,r=(k:Int)∧a≤k∧k≤s.length):=by
 unfold wZ;refine Ex.skip hs ha (fun i hi=>?_) ?_
 ·have hy:=List.getElem?_eq_getElem hi;rw[if_pos (by omega),dV hy];simp only[Option.bind_some];refine Ex.bind (P:=fun _=>True) (.ite (fun _=>.ite (fun _=>.ite (fun _=>.pure trivial) (fun _=>.pure trivial)) (fun _=>.pure trivial)) (fun _=>.pure trivial)) ?_;intro b _;exact .ite (fun _=>.pure (.inl (by rw[iq (by omega)]))) (fun _=>.pure (.inr rfl))
 ·rw[if_neg (by omega)]; simp only[Option.bind_some]; exact .neg (by simp) (.pure rfl)
theorem F9 {α:Type} {l:List α} {a b:Nat} (h:a≤b) (hb:b≤l.length):IZ l (a:Int) (b:Int)=some ((l.drop a).take (b-a)):=by
 unfold IZ;rw[if_pos ⟨by omega,by omega,by omega⟩];simp
theorem Xl (s:List UInt8) (hs:s.length≤1000000):Ex (fun n=>sJ n s) (fun r=>r.2=true→s≠[]):=by
 unfold sJ;by_cases h0:s=[]
 ·subst h0;simp only[List.length_nil,Option.bind_some];exact .pure (fun h=>by cases h)
 have hl:0<s.length:=List.length_pos_iff.2 h0;refine Ex.mono (Q:=fun _=>True) ?_ (fun _ _ _=>h0);have hy:=List.getElem?_eq_getElem hl;refine Ex.bind (P:=fun b=>b=decide ((s[0].toNat:Int)=45)) (.pos (by omega) (.bp _ (dV (i:=0) hy) (.pure rfl))) ?_;rintro o1 rfl;refine Ex.bind (P:=fun t=>t.length≤1000000) ?_ ?_
 ·refine .ite (fun _=>?_) (fun _=>.pure hs);have:=F9 (l:=s) (a:=1) (b:=s.length) (by omega) (Nat.le_refl _);exact .bp _ this (.pure (by simp; omega))
 intro t ht;refine Ex.bind (P:=fun b=>b=false→0<t.length) ?_ ?_
 ·refine .ite (fun _=>.pure (fun h=>by cases h)) (fun h1=>.ite (fun _=>.pure (fun h=>by cases h)) (fun _=>?_));have ht0:0<t.length:=by omega
  refine .bp _ (dV (i:=0) (List.getElem?_eq_getElem ht0)) ?_;exact .ite (fun _=>.ite (fun _=>.pure (fun h=>by cases h)) (fun _=>.pure fun _=>ht0)) (fun _=>.pure fun _=>ht0)
 intro o3 ho3;refine .ite (fun _=>.pure trivial) (fun h3=>?_);refine Ex.iter (fun s=>t.length-s.2.toNat) (fun s=>∃i:Nat,s.2=(i:Int)∧i≤t.length) _ ⟨0,rfl,Nat.zero_le _⟩ ?_;rintro ⟨k,p⟩ ⟨i,hi,hil⟩;simp only at hi;subst hi;simp only;refine .ite (fun h=>?_) (fun h=>?_)
 ·have hi:i<t.length:=by omega
  have hy:=List.getElem?_eq_getElem hi;rw[dV hy];simp only[Option.bind_some];refine Ex.bind (P:=fun _=>True) (.ite (fun _=>.pure trivial) (fun _=>.pure trivial)) ?_;intro b _;refine .ite (fun _=>.pure ⟨fun _ _=>trivial,fun _ e=>(by cases e)⟩) (fun _=>.pure ⟨fun _ e=>(by cases e),fun s' e=>?_⟩);cases e;exact⟨⟨i+1,by simp only; rw[iq (by omega)],by omega⟩,by simp only; rw[iq (by omega)]; simp; omega⟩
 ·refine Ex.bind (P:=fun _=>True) (.ite (fun _=>.pure trivial) (fun _=>.pure trivial)) ?_;intro b _;exact .pure ⟨fun _ _=>trivial,fun _ e=>(by cases e)⟩
theorem adf (s:List UInt8) (hs:s.length≤1000000) (c:Int):Ex (fun n=>wX n s c) (fun r=>r.length≤s.length+1∧∀x∈r,x.length≤s.length):=by
 unfold wX;refine Ex.iter (fun t=>s.length+1-t.2.2.toNat) (fun t=>∃a i:Nat,t.2.1=(a:Int)∧t.2.2=(i:Int)∧a≤i∧i≤s.length+1∧t.1.length≤i∧∀x∈t.1,x.length≤s.length) _ ⟨0,0,rfl,rfl,Nat.le_refl _,by omega,by simp,by simp⟩ ?_;rintro ⟨l,p,q⟩ ⟨a,i,ha,hi,h1,h2,h3,h4⟩;simp only at ha hi h3 h4;subst ha; subst hi;simp only;refine .ite (fun h=>?_) (fun h=>.pure ⟨fun w e=>by cases e; exact⟨by omega,h4⟩,fun _ e=>(by cases e)⟩);have hil:i≤s.length:=by omega
 refine Ex.bind (P:=fun o=>∃a:Nat,o.2=(a:Int)∧a≤i+1∧o.1.length≤i+1∧∀x∈o.1,x.length≤s.length) ?_ ?_
 ·refine Ex.bind (P:=fun _=>True) ?_ ?_
  ·refine .ite (fun _=>.pure trivial) (fun hne=>?_);exact .bp _ (dV (List.getElem?_eq_getElem (by omega))) (.pure trivial)
  intro b _;refine .ite (fun _=>?_) (fun _=>.pure ⟨a,rfl,by omega,by simp only; omega,h4⟩);refine .bp _ (F9 h1 hil) (.bp _ (dI (by simp; omega)) (.pure ⟨i+1,by rw[iq (by omega)],Nat.le_refl _,by simp; omega,?_⟩));intro x hx;rcases List.mem_append.1 hx with hx | hx
  ·exact h4 x hx
  ·rw[List.mem_singleton.1 hx]; simp; omega
 rintro ⟨l',p'⟩ ⟨a',ha',h5,h6,h7⟩;simp only at ha' h6 h7;subst ha';refine .pure ⟨fun _ e=>(by cases e),fun s' e=>?_⟩;cases e;exact⟨⟨a',i+1,rfl,by simp only; rw[iq (by omega)],h5,by omega,h6,h7⟩,by simp only; rw[iq (by omega)]; simp; omega⟩
theorem abq (s:List UInt8) (hs:s.length≤1000000) (a:Nat) (ha:a≤s.length):Ex (fun n=>wY n s (a:Int)) (fun r=>r.1.length≤25∧(r.2=-1∨∃k:Nat,r.2=(k:Int)∧a≤k∧k≤s.length)):=by
 unfold wY;refine Ex.bind (P:=fun b=>b=false→∃h:a<s.length,(s[a].toNat:Int)=123) ?_ ?_
 ·refine .ite (fun _=>.pure (fun h=>by cases h)) (fun h=>?_);refine .bp _ (dV (List.getElem?_eq_getElem (by omega))) (.pure (fun hd=>⟨by omega,?_⟩));have:=of_decide_eq_false hd;exact Classical.not_not.1 this
 intro b hb;refine .ite (fun _=>.pure ⟨by simp,.inr ⟨a,rfl,Nat.le_refl _,ha⟩⟩) (fun hb1=>?_);obtain⟨hal,afp⟩:=hb (by simpa using hb1);have hw1:aT ((a:Int)+1)=((a+1:Nat):Int):=iq (by omega);refine Ex.iter (fun t=>s.length-t.toNat) (fun t=>∃i:Nat,t=(i:Int)∧a≤i∧i≤s.length) _ ⟨a,rfl,Nat.le_refl _,by omega⟩ ?_;rintro t ⟨i,rfl,h1,h2⟩;refine Ex.bind (P:=fun o=>(o=true→i<s.length)∧(o=false→a+1≤i)) ?_ ?_
 ·refine .ite (fun h=>?_) (fun h=>.pure ⟨fun h=>(by cases h),fun _=>by omega⟩);have hi:i<s.length:=by omega
  refine .bp _ (dV (List.getElem?_eq_getElem hi)) (.pure ⟨fun _=>hi,fun hd=>?_⟩);have adg:(s[i].toNat:Int)=125:=Classical.not_not.1 (of_decide_eq_false hd);rcases Nat.lt_or_eq_of_le h1 with h | h
  ·omega
  ·subst h; rw[afp] at adg; cases adg
 rintro o ⟨o1,o2⟩;refine .ite (fun h=>.pure ⟨fun _ e=>(by cases e),fun s' e=>?_⟩) (fun h=>?_)
 ·cases e;have:=o1 h;exact⟨⟨i+1,by rw[iq (by omega)],by omega,by omega⟩,by rw[iq (by omega)]; simp; omega⟩
 have hai:=o2 (by simpa using h);refine .ite (fun _=>.pure ⟨fun w e=>by cases e; exact⟨by simp,.inl rfl⟩,fun _ e=>(by cases e)⟩) (fun hne=>?_);have hil:i<s.length:=by omega
 rw[hw1];refine .bp _ (F9 hai h2) (.bind (adf _ (by simp; omega) 44) fun parts ⟨p1,p2⟩=>?_);have hz:((s.drop (a+1)).take (i-(a+1))).length≤1000000:=by simp; omega
 refine Ex.mono (Q:=fun r:(List Int×Int)⊕Int=>∃w,r=.inl w∧w.1.length≤25∧(w.2=-1∨∃k:Nat,w.2=(k:Int)∧a≤k∧k≤s.length)) ?_ ?_
 ·refine Ex.iter (fun t=>26-t.2.toNat) (fun t=>∃j:Nat,t.2=(j:Int)∧j≤25∧j≤parts.length∧t.1.length≤j) _ ⟨0,rfl,by omega,by omega,by simp⟩ ?_;rintro ⟨l,q⟩ ⟨j,hj,j1,j2,j3⟩;simp only at hj j3;subst hj;simp only;refine Ex.bind (P:=fun o=>o=true→j<parts.length∧j≤24) (.ite (fun h=>.pure fun hd=>⟨by omega,by have:=of_decide_eq_true hd; omega⟩) (fun h=>.pure fun h=>by cases h)) ?_;intro o ho;refine .ite (fun h=>?_) (fun h=>.pure ⟨fun w e=>by cases e; exact⟨_,rfl,by simp only; omega,.inr ⟨i+1,by simp only; rw[iq (by omega)],by omega,by omega⟩⟩,fun _ e=>(by cases e)⟩);obtain⟨hj1,hj2⟩:=ho h;have hmem:parts[j]∈parts:=List.getElem_mem hj1;refine .bp _ (dV (List.getElem?_eq_getElem hj1)) (.bind (Xl _ (by have:=p2 _ hmem; omega)) fun k15 _=>?_);refine .ite (fun _=>.pure ⟨fun w e=>by cases e; exact⟨_,rfl,by simp only; omega,.inl rfl⟩,fun _ e=>(by cases e)⟩) (fun _=>?_);refine .bp _ (dI (by simp; omega)) (.pure ⟨fun _ e=>(by cases e),fun s' e=>?_⟩);cases e;exact⟨⟨j+1,by simp only; rw[iq (by omega)],by omega,by omega,by simp; omega⟩,by simp only; rw[iq (by omega)]; simp; omega⟩
 ·rintro r ⟨w,rfl,hw⟩;exact⟨fun w' e=>by cases e; exact hw,fun _ e=>(by cases e)⟩
theorem abr (s:List UInt8) (hs:s.length≤1000000) (a:Nat) (ha:a≤s.length):Ex (fun n=>xg n s (a:Int)) (fun r=>r.2=-1∨∃k:Nat,r.2=(k:Int)∧a<k∧k≤s.length∧wF r.1+1≤30*(k-a)):=by
 unfold xg;refine .bind (abp s hs a ha) fun k1 ⟨k,hk,h1,h2⟩=>?_;subst hk;refine .bp _ (F9 h1 h2) (.bind (Xl _ (by simp; omega)) fun k3 h3=>?_);have hlen:((s.drop a).take (k-a)).length=k-a:=by simp; omega
 have hne:((s.drop a).take (k-a))≠[]→a<k:=fun h=>by
  have:=List.length_pos_iff.2 h;omega
 refine .ite (fun h=>.pure (.inr ⟨k,rfl,hne (h3 h),h2,?_⟩)) (fun _=>.ite (fun _=>.pure (.inl rfl)) (fun h=>?_))
 ·have:=hne (h3 h);simp[wF,pq]; omega
 ·have hak:=hne h;refine .bind (abq s hs k h2) fun k6 ⟨q1,q2⟩=>.pure ?_;rcases q2 with q2 | ⟨m,q2,q3,q4⟩
  ·exact .inl q2
  ·refine .inr ⟨m,q2,by omega,q4,?_⟩;simp only[wF,pq,List.length_nil,hlen]; omega
theorem abt:∀(d:Nat),d≤40→∀(s:List UInt8),s.length≤1000000→∀(a:Nat),a≤s.length→Ex (fun n=>qh n s (a:Int) (d:Int)) (fun r=>r.2=-1∨∃k:Nat,r.2=(k:Int)∧a<k∧k≤s.length∧wF r.1+1≤30*(k-a)):=by
 intro d
 induction d with
 | zero=>
  intro _ s hs a ha;refine .succ ?_;simp only[qh];refine .bind (Iq s hs a ha) fun k1 ⟨k,hk,h1,h2⟩=>?_;refine Ex.bind (P:=fun b=>b=true) (.ite (fun _=>.pure rfl) (fun _=>.pure rfl)) ?_;rintro b rfl;exact .pos rfl (.pure (.inl rfl))
 | succ d ih=>
  intro hd s hs a ha;have ih:=ih (by omega) s hs;refine .succ ?_;simp only[qh];refine .bind (Iq s hs a ha) fun k1 ⟨k,hk,h1,h2⟩=>?_;subst hk;refine Ex.bind (P:=fun b=>b=false→k<s.length) (.ite (fun _=>.pure (fun h=>by cases h)) (fun _=>.pure (fun _=>by omega))) ?_;intro b hb;refine .ite (fun _=>.pure (.inl rfl)) (fun hb1=>?_);have hk:=hb (by simpa using hb1);refine .bp _ (dV (List.getElem?_eq_getElem hk)) ?_;refine .ite (fun _=>?_) (fun _=>?_)
  ·refine .bind (abr s hs k h2) fun k6 h6=>.pure ?_;rcases h6 with h6 | ⟨m,q1,q2,q3,q4⟩
   ·exact .inl h6
   ·exact .inr ⟨m,q1,by omega,q3,by simp only; omega⟩
  ·have hw1:aT ((k:Int)+1)=((k+1:Nat):Int):=iq (by omega);have hw2:aT (((d+1:Nat):Int)-1)=(d:Int):=by rw[iV (by omega) (by omega)]; omega
   rw[hw1,hw2];refine .bind (Iq s hs (k+1) (by omega)) fun k7 ⟨m,hm,q1,q2⟩=>?_;subst hm;refine Ex.iter (fun t=>s.length-t.1.toNat) (fun t=>∃i:Nat,t.1=(i:Int)∧k+1≤i∧i≤s.length∧t.2.length≤400∧pq t.2+t.2.length≤30*(i-(k+1))) _ ⟨m,rfl,q1,q2,by simp,by simp[pq]⟩ ?_;rintro ⟨p,l⟩ ⟨i,hi,i1,i2,i3,i4⟩;simp only at hi i3 i4;subst hi;simp only;refine Ex.bind (P:=fun o=>o=true→i<s.length∧l.length<400) ?_ ?_
   ·refine .ite (fun h=>?_) (fun _=>.pure fun h=>by cases h);refine .bp _ (dV (List.getElem?_eq_getElem (by omega))) ?_;exact .ite (fun _=>.pure fun hd=>⟨by omega,by have:=of_decide_eq_true hd; omega⟩) (fun _=>.pure fun h=>by cases h)
   intro o ho;refine .ite (fun h=>?_) (fun h=>?_)
   ·obtain⟨ho1,ho2⟩:=ho h;refine .bind (ih i i2) fun k12 h12=>?_;rcases h12 with h12 | ⟨j,r1,r2,r3,r4⟩
    ·rw[h12];exact .pos (by omega) (.pure ⟨fun w e=>by cases e; exact .inl rfl,fun _ e=>(by cases e)⟩)
    ·rw[r1];refine .neg (by omega) (.bp _ (dI (by simp; omega)) (.bind (Iq s hs j r3) fun k15 ⟨u,hu,u1,u2⟩=>?_));subst hu;refine .pure ⟨fun _ e=>(by cases e),fun s' e=>?_⟩;cases e;refine⟨⟨u,rfl,by omega,u2,by simp; omega,?_⟩,by simp; omega⟩;have happ:∀(x y:List Form),pq (x++y)=pq x+pq y:=fun x y=>by
      induction x with
      | nil=>simp[pq]
      | cons z x ih=>simp only[List.cons_append,pq,ih]; omega
     simp only[happ,pq,List.length_append,List.length_singleton];omega
   ·refine Ex.bind (P:=fun o=>o=false→i<s.length) ?_ ?_
    ·refine .ite (fun _=>.pure (fun h=>by cases h)) (fun h=>?_);exact .bp _ (dV (List.getElem?_eq_getElem (by omega))) (.pure fun _=>by omega)
    intro o2 ho2;refine .ite (fun _=>.pure ⟨fun w e=>by cases e; exact .inl rfl,fun _ e=>(by cases e)⟩) (fun h2'=>?_);have hi:=ho2 (by simpa using h2');refine .pure ⟨fun w e=>?_,fun _ e=>(by cases e)⟩;cases e;refine .inr ⟨i+1,by simp only; rw[iq (by omega)],by omega,by omega,?_⟩;simp only[wF,List.length_nil]; omega
theorem LU (s:List UInt8) (hs:s.length≤1000000):Ex (fun n=>nN n s) (fun f=>wF f≤30*s.length):=by
 unfold nN;refine Ex.bind (P:=fun r=>wF r.1≤30*s.length) ?_ (fun r hr=>.pure hr);unfold rO;refine .bind (abt 40 (by omega) s hs 0 (Nat.zero_le _)) fun k1 h1=>?_;refine Ex.bind (P:=fun b=>b=false→wF k1.1≤30*s.length) ?_ ?_
 ·rcases h1 with h1 | ⟨k,q1,q2,q3,q4⟩
  ·rw[h1]; exact .pos (by omega) (.pure fun h=>by cases h)
  ·rw[q1];refine .neg (by omega) (.bind (Iq s hs k q3) fun k5 _=>.ite (fun _=>.pure fun h=>by cases h) (fun _=>?_));have hw:wF k1.1≤30*s.length:=by omega
   exact .bv (F8 k1.1 (Ih _ (by omega)) (by have:=RS k1.1; omega)) (.pure fun _=>hw)
 intro b hb;exact .ite (fun _=>.pure (by simp[wF,pq])) (fun h=>.pure (hb (by simpa using h)))
def b7:Nat→Int
 | 0=>3
 | d+1=>24+3*b7 d
def w7:Nat→Nat
 | 0=>20
 | d+1=>60+3*w7 d
theorem Xm:∀d,3≤b7 d
 | 0=>by simp[b7]
 | d+1=>by have:=Xm d; simp only[b7]; omega
theorem abu:∀d,20≤w7 d
 | 0=>by simp[w7]
 | d+1=>by simp only[w7]; omega
theorem Zc:∀(d:Nat),d≤10→∀(ns:List (List UInt8)) (r:aY),1≤ns.length→ns.length≤1000-d→(∀x∈ns,x.length≤20)→Gd r (b7 d)→Ex (fun n=>gq n ns (d:Int) r) (fun k=>Sp r k.2 (b7 d)∧wF k.1≤w7 d):=by
 intro d;have leaf:∀(ns:List (List UInt8)) (r:aY),1≤ns.length→(∀x∈ns,x.length≤20)→Gd r 2→Ex (fun n=>(aP n 3 r).bind fun k3=>(if k3.1=0 then(cZ n [0,1,2,7] k3.2).bind fun k5=>some ((⟨2,[],k5.1,[],[]⟩:Form),k5.2) else(aP n (ns.length:Int) k3.2).bind fun k6=>(gG ns k6.1).bind fun e7=>(eY n e7).bind fun k8=>some (k8,k6.2))) (fun k=>Sp r k.2 2∧wF k.1≤20):=by
  intro ns r h1 h2 g;refine .bind (jh g (by omega)) fun k3 ⟨s1,_⟩=>.ite (fun _=>?_) (fun _=>?_)
  ·refine .bind (xw (by simp) (g.to s1 (D:=1) (by omega)) (by omega)) fun k5 ⟨s2,_⟩=>.pure ⟨s1.trans s2 (by omega),by simp[wF,pq]⟩
  ·refine .bind (jh (g.to s1 (D:=1) (by omega)) (by omega)) fun k6 ⟨s2,hv⟩=>?_;obtain⟨v0,v1⟩:=hv (by omega);obtain⟨x,hx,hm⟩:=bY v0 v1;unfold eY;exact .bp x hx (.pure ⟨s1.trans s2 (by omega),by have:=h2 x hm; simp[wF,pq]; omega⟩)
 induction d with
 | zero=>
  intro _ ns r h1 _ h2 g;have g:Gd r 3:=g;refine .succ ?_;simp only[gq];refine Ex.bind (P:=fun o=>o=(true,r)) (.pos rfl (.pure rfl)) ?_;rintro o rfl;exact .pos rfl ((leaf ns r h1 h2 (g.to (.refl (Int.le_refl 0)) (by omega))).mono fun k ⟨a,b⟩=>⟨a.mono (by simp[b7]),b⟩)
 | succ d ih=>
  intro hd ns r h1 hl h2 g;have ih:=ih (by omega);have hB:=Xm d;have hW:=abu d;have g:Gd r (24+3*b7 d):=g;refine .succ ?_;simp only[gq];refine Ex.bind (P:=fun o=>Sp r o.2 1) (.neg (by omega) (.bind (jh g (by omega)) fun k15 ⟨s1,_⟩=>.pure s1)) ?_;rintro ⟨b,r1⟩ s1;have g1:Gd r1 (23+3*b7 d):=g.to s1 (by omega);refine .ite (fun _=>?_) (fun _=>?_)
  ·exact(leaf ns r1 h1 h2 (g1.to (.refl (Int.le_refl 0)) (by omega))).mono fun k ⟨a,b⟩=>⟨s1.trans a (by simp only[b7]; omega),by simp only[w7]; omega⟩
  ·refine .bind (Y9 (by simp) g1 (by omega)) fun k10 ⟨s2,hm⟩=>?_;obtain⟨x,r2⟩:=k10;simp only at s2 hm ⊢;have hx:x.length=1:=by
    simp only[List.mem_cons,List.not_mem_nil,or_false] at hm;rcases hm with rfl | rfl | rfl <;> rfl
   have g2:Gd r2 (22+3*b7 d):=g1.to s2 (by omega);refine .bp _ (nC (by omega)) (.bp _ (dI (by simp; omega)) (.bind (jh g2 (by omega)) fun k13 ⟨s3,_⟩=>?_));obtain⟨v,r3⟩:=k13;simp only at s3 ⊢;have g3:Gd r3 (21+3*b7 d):=g2.to s3 (by omega);have s03:Sp r r3 3:=s1.trans (s2.trans s3 (D:=2) (by omega)) (by omega);have e1:aT (((d+1:Nat):Int)-1)=(d:Int):=by rw[iV (by omega) (by omega)]; omega
   rw[e1];simp only[eY,gJ,Option.bind_some];have h2':∀y∈ns++[x],y.length≤20:=fun y hy=>by
    rcases List.mem_append.1 hy with hy | hy
    ·exact h2 y hy
    ·rw[List.mem_singleton.1 hy]; omega
   have i1:∀r',Gd r' (b7 d)→_:=fun r' gr=>ih ns r' h1 (by omega) h2 gr;have i2:∀r',Gd r' (b7 d)→_:=fun r' gr=>ih (ns++[x]) r' (by simp) (by simp; omega) h2' gr;refine Ex.bind (P:=fun _=>True) (.ite (fun _=>.pure trivial) (fun _=>.pure trivial)) ?_;intro b1 _;refine .ite (fun _=>?_) (fun _=>?_)
   ·refine .bind (i2 r3 (g3.to (.refl (Int.le_refl 0)) (by omega))) fun k19 ⟨t1,u1⟩=>.pure ⟨s03.trans t1 (by simp only[b7]; omega),?_⟩;simp only[wF,pq,w7,List.length_cons,List.length_nil]; omega
   refine Ex.bind (P:=fun _=>True) (.ite (fun _=>.pure trivial) (fun _=>.pure trivial)) ?_;intro b2 _;refine .ite (fun _=>?_) (fun _=>.ite (fun _=>?_) (fun _=>.ite (fun _=>?_) (fun _=>?_)))
   ·refine .bind (i1 r3 (g3.to (.refl (Int.le_refl 0)) (by omega))) fun k24 ⟨t1,u1⟩=>?_;refine .bind (i2 k24.2 (g3.to t1 (by omega))) fun k28 ⟨t2,u2⟩=>.pure ⟨s03.trans (t1.trans t2 (D:=2*b7 d) (by omega)) (by simp only[b7]; omega),?_⟩;simp only[wF,pq,w7,List.length_cons,List.length_nil]; omega
   ·refine .bind (i1 r3 (g3.to (.refl (Int.le_refl 0)) (by omega))) fun k32 ⟨t1,u1⟩=>?_;refine .bind (i1 k32.2 (g3.to t1 (by omega))) fun k33 ⟨t2,u2⟩=>?_;have z:Ex (fun n=>gq n ns 0 k33.2) (fun k=>Sp k33.2 k.2 3∧wF k.1≤20):=by
     have g4:Gd k33.2 3:=(g3.to t1 (D:=21+2*b7 d) (by omega)).to t2 (by omega);refine .succ ?_;simp only[gq];refine Ex.bind (P:=fun o=>o=(true,k33.2)) (.pos trivial (.pure rfl)) ?_;rintro o rfl;exact .pos rfl ((leaf ns k33.2 h1 h2 (g4.to (.refl (Int.le_refl 0)) (by omega))).mono fun k ⟨a,b⟩=>⟨a.mono (by omega),b⟩)
    refine .bind z fun k34 ⟨t3,u3⟩=>.pure ⟨s03.trans (t1.trans (t2.trans t3 (D:=3+b7 d) (by omega)) (D:=3+2*b7 d) (by omega)) (by simp only[b7]; omega),?_⟩;simp only[wF,pq,w7,List.length_cons,List.length_nil]; omega
   ·have e34:bF 1=12:=by simp[bF]
    refine .bind (Sv 1 (by omega) r3 (by rw[e34]; exact g3.to (.refl (Int.le_refl 0)) (by omega))) fun k38 ⟨t1,hf⟩=>.pure ⟨s03.trans t1 (by rw[e34]; simp only[b7]; omega),?_⟩;have:=Ip 1 hf;simp only[wD] at this;simp only[wF,pq,w7,List.length_cons,List.length_nil]; omega
   ·refine .bind (i1 r3 (g3.to (.refl (Int.le_refl 0)) (by omega))) fun Y1 ⟨t1,u1⟩=>?_;refine .bind (i1 Y1.2 (g3.to t1 (by omega))) fun Y2 ⟨t2,u2⟩=>.pure ⟨s03.trans (t1.trans t2 (D:=2*b7 d) (by omega)) (by simp only[b7]; omega),?_⟩;simp only[wF,pq,w7,List.length_cons,List.length_nil]; omega
def t7:List (List UInt8):=[mW,mV,mD,mM,lY,l9,mg,l7,mJ,mQ,lT,lZ,mP,mF,mO]
theorem abv:∀x∈t7,x.length≤500:=by decide
theorem Zd (r:aY) (g:Gd r 100000):Ex (fun n=>xk n r) (fun k=>Sp r k.2 100000∧wF k.1≤100000):=by
 unfold xk yh;refine .bp t7 rfl (.bind (jh g (by omega)) fun k2 ⟨s1,_⟩=>?_);have g1:Gd k2.2 99999:=g.to s1 (by omega);refine .ite (fun _=>?_) (fun _=>?_)
 ·refine .bind (jh g1 (by omega)) fun k4 ⟨s2,hv⟩=>?_;obtain⟨v0,v1⟩:=hv (by decide);obtain⟨x,hx,hm⟩:=bY v0 v1;have hl:=abv x hm;refine .bp x hx (.bind (LU x (by omega)) fun k6 hk=>.pure ⟨s1.trans s2 (by omega),by simp only; omega⟩)
 ·refine .bind (xw (by simp) g1 (by omega)) fun k8 ⟨s2,hm⟩=>?_;have g2:Gd k8.2 99998:=g1.to s2 (by omega);obtain⟨d,hd,hk⟩:∃d:Nat,d≤4∧k8.1=(d:Int):=by
   simp only[List.mem_cons,List.not_mem_nil,or_false] at hm;rcases hm with h | h | h
   ·exact⟨4,by omega,h⟩
   ·exact⟨3,by omega,h⟩
   ·exact⟨2,by omega,h⟩
  rw[hk];have hB:b7 d≤10000∧w7 d≤10000:=by
   have:d=0∨d=1∨d=2∨d=3∨d=4:=by omega
   rcases this with rfl | rfl | rfl | rfl | rfl <;> simp[b7,w7]
  refine .bind (Zc d (by omega) [[43],[108,105,115,116],[103]] k8.2 (by simp) (by simp; omega) (by decide) (g2.to (.refl (Int.le_refl 0)) (by omega))) fun k9 ⟨s3,w3⟩=>?_;have g3:Gd k9.2 80000:=g2.to s3 (by omega);refine .bind (jh g3 (by omega)) fun k10 ⟨s4,_⟩=>?_;refine Ex.bind (P:=fun f=>wF f≤100000) (.ite (fun _=>?_) (fun _=>.pure (by omega))) ?_
  ·have hl:Bl.length≤500:=by decide
   refine .bind (LU _ (by omega)) fun k13 hk=>?_;have hl2:iw.length≤20:=by decide
   simp only[eY,gJ,Option.bind_some];refine .pure ?_;simp only[wF,pq,List.length_cons,List.length_nil]; omega
  ·intro f hf;exact .pure ⟨s1.trans (s2.trans (s3.trans s4 (D:=10001) (by omega)) (D:=10002) (by omega)) (by omega),hf⟩
theorem Ex.anyI {α ω:Type} {m:Nat→α→Option Bool} {p:α→Bool} {yes:ω} {xs:List α} {f:Nat→Unit→Option ω} {Q:ω→Prop} (h:∀x∈xs,fV (fun n=>m n x) (p x)) (hy:xs.any p=true→Q yes) (hn:xs.any p=false→Ex (fun n=>f n ()) Q) :
  Ex (fun n=>Mx.bG (Mx.bM (fun(_:Unit) (_:Nat) (x:α)=>((m n x).bind fun k=>(if k=true then some (Sum.inl yes) else some (Sum.inr ())):Option (ω⊕Unit))) 0 xs ()) (f n)) Q:=by
 refine Ex.bG (P:=fun o=>match o with
  | .inl w=>w=yes∧xs.any p=true
  | .inr _=>xs.any p=false) ?_ ?_ ?_
 ·refine Ex.bM (I:=fun i q s=>(∀x∈q,x∈xs)∧xs.any p=q.any p) ⟨fun _ h=>h,rfl⟩ ?_ ?_
  ·rintro i x q s ⟨h1,h2⟩;refine .bv (h x (h1 x (List.mem_cons_self))) ?_;cases hp:p x with
   | false=>exact .neg (by simp) (.fg ⟨fun y hy=>h1 y (List.mem_cons_of_mem _ hy),by rw[h2,List.any_cons,hp,Bool.false_or]⟩)
   | true=>exact .pos rfl (.fo ⟨rfl,by rw[h2,List.any_cons,hp,Bool.true_or]⟩)
  ·rintro s ⟨_,h2⟩;exact h2
 ·rintro w ⟨rfl,h⟩; exact hy h
 ·rintro ⟨⟩ h; exact hn h
def OE {α β:Type} (R:α→β→Prop):List α→List β→Prop
 | [],[]=>True
 | x::xs,y::ys=>R x y∧OE R xs ys
 | _,_=>False
theorem OG {α β:Type} {R:α→β→Prop} {x:α} {y:β} (h:R x y):∀{xs:List α} {ys:List β},OE R xs ys→OE R (xs++[x]) (ys++[y])
 | [],[],_=>⟨h,trivial⟩
 | a::xs,b::ys,h2=>⟨h2.1,OG h h2.2⟩
theorem OH {α β:Type} {R:α→β→Prop}:∀{xs:List α} {ys:List β},OE R xs ys→xs.length=ys.length
 | [],[],_=>rfl
 | _::_,_::_,h=>by simp[OH h.2]
theorem Ex.adi {α β:Type} {m:Nat→α→Option β} {R:α→β→Prop} {xs:List α} {be:Nat} (hb:xs.length*be≤140737488355328) (h:∀x∈xs,Ex (fun n=>m n x) (R x)) :
  Ex (fun n=>Mx.dR (fun(s:List β) (_:Nat) (x:α)=>(m n x).bind fun k=>(jJ be s [k]).bind fun z=>some z) 0 xs []) (OE R xs):=by
 refine Ex.dR (I:=fun i q s=>∃p,p++q=xs∧OE R p s) ⟨[],rfl,trivial⟩ ?_ ?_
 ·rintro i x q s ⟨p,rfl,hr⟩;have hl:=OH hr;refine .bind (h x (by simp)) fun k hk=>.bp _ (dI ?_) (.pure ⟨p++[x],by simp,OG hk hr⟩);refine Nat.le_trans (Nat.mul_le_mul_right _ ?_) hb;simp; omega
 ·rintro s ⟨p,hp,hr⟩;rw[List.append_nil] at hp; rw[← hp]; exact hr
mutual
def O6 (s:Nat):Form→Prop
 | ⟨_,nm,_,sc,kids⟩=>nm.length≤12∧sc.length≤s∧zW s kids
def zW (s:Nat):List Form→Prop
 | []=>True
 | x::r=>O6 s x∧zW s r
end
theorem yB {s:Nat} {f:Form}:O6 s f↔f.name.length≤12∧f.scopes.length≤s∧zW s f.kids:=by cases f; simp only[O6]
theorem qR {s:Nat}:∀{l:List Form},zW s l↔∀x∈l,O6 s x
 | []=>by simp[zW]
 | x::r=>by simp[zW,qR (l:=r)]
theorem Xn {s:Nat} {a b:List Form} (h1:zW s a) (h2:zW s b):zW s (a++b):=qR.2 fun x hx=>(List.mem_append.1 hx).elim (qR.1 h1 x) (qR.1 h2 x)
mutual
theorem ZQ (s:Nat):∀f:Form,O6 s f→wF f+1≤(13+s)*cF f
 | ⟨k,nm,n,sc,kids⟩,h=>by
  simp only[O6] at h;have:=Xo s kids h.2.2;simp only[wF,cF,Nat.mul_add]; omega
theorem Xo (s:Nat):∀l:List Form,zW s l→pq l+l.length≤(13+s)*jD l
 | [],_=>by simp[pq]
 | x::r,h=>by
  have:=ZQ s x h.1;have:=Xo s r h.2;simp only[pq,jD,Nat.mul_add,List.length_cons]; omega
end
mutual
theorem DJ {s t:Nat} (hs:s≤t):∀f:Form,O6 s f→O6 t f
 | ⟨k,nm,n,sc,kids⟩,h=>⟨h.1,Nat.le_trans h.2.1 hs,JY hs kids h.2.2⟩
theorem JY {s t:Nat} (hs:s≤t):∀l:List Form,zW s l→zW t l
 | [],_=>trivial
 | x::r,h=>⟨DJ hs x h.1,JY hs r h.2⟩
end
theorem Un {s:List UInt8} (h:nameB s=true):s.length≤12:=by
 unfold nameB at h;simp only[Bool.or_eq_true,Bool.and_eq_true,decide_eq_true_eq] at h;rcases h with (rfl | rfl) | ⟨_,_,h⟩
 ·decide
 ·decide
 ·exact h
theorem Ze {l:List Int} (h:UH l=true):l.length≤24:=by
 unfold UH at h;simp only[Bool.and_eq_true,decide_eq_true_eq] at h;exact h.2
theorem Et {d:Nat} {f:Form} (h:Jf d f=true):∃e,d=e+1∧f.name.length≤12∧f.scopes.length≤24∧(f.kind=1∨f.kind=2→f.kids=[])∧(f.kind=1∨f.kind=2∨f.kind=3)∧∀x∈f.kids,Jf e x=true:=by
 cases d with
 | zero=>cases h
 | succ e=>
  refine⟨e,rfl,?_⟩;simp only[Jf] at h;split at h
  ·rename_i h1;simp only[Bool.and_eq_true,decide_eq_true_eq] at h;have h4:=List.eq_nil_of_length_eq_zero h.2.2.2;exact⟨Un h.1,Ze h.2.2.1,fun _=>h4,.inl h1,fun x hx=>by rw[h4] at hx; cases hx⟩
  ·split at h
   ·rename_i h1;simp only[Bool.and_eq_true,decide_eq_true_eq] at h;have h4:=List.eq_nil_of_length_eq_zero h.2.2.2;exact⟨by rw[h.1]; decide,by omega,fun _=>h4,.inr (.inl h1),fun x hx=>by rw[h4] at hx; cases hx⟩
   ·split at h
    ·rename_i h1 h2 h3;simp only[Bool.and_eq_true,decide_eq_true_eq,List.all_eq_true] at h;exact⟨by rw[h.1]; decide,by omega,fun q=>by rcases q with q | q <;> omega,.inr (.inr h3),h.2.2.2⟩
    ·cases h
theorem Xp:∀{d:Nat} {f:Form},Jf d f=true→O6 24 f:=by
 intro d
 induction d with
 | zero=>intro f h; cases h
 | succ d ih=>
  intro f h;obtain⟨e,he,h1,h2,_,_,h5⟩:=Et h;obtain rfl:d=e:=by omega
  exact yB.2 ⟨h1,h2,qR.2 fun x hx=>ih (h5 x hx)⟩
def yT (f:Form):Prop:=O6 26 f∧cF f≤401
theorem yT.w {f:Form} (h:yT f):wF f≤15638:=by have:=ZQ 26 f h.1; have:=h.2; omega
theorem yT.ok {f:Form} (h:yT f):okF f:=Ih f (by have:=h.w; omega)
theorem yT.kid {f x:Form} (h:yT f) (hx:x∈f.kids):yT x:=⟨qR.1 (yB.1 h.1).2.2 x hx,by have:=qA hx; have:=qQ f; have:=h.2; omega⟩
theorem AL:∀l:List Form,l.length≤jD l
 | []=>by simp
 | x::r=>by have:=qQ x; have:=AL r; simp only[jD,List.length_cons]; omega
theorem yT.len {f:Form} (h:yT f):f.kids.length≤400:=by have:=AL f.kids; have:=qQ f; have:=h.2; omega
theorem Xq {f:Form} (h:gK f=true):yT f∧cF f≤400:=by
 unfold gK at h;simp only[Bool.and_eq_true,decide_eq_true_eq] at h;exact⟨⟨DJ (by omega) f (Xp h.1),by omega⟩,h.2⟩
theorem smZ:yT ⟨0,[],0,[],[]⟩:=⟨by simp[O6,zW],by simp[cF,jD]⟩
theorem qj {f:Form} (h:yT f):fV (fun n=>bQ n f) (gK f):=F8 f h.ok (by have:=h.2; omega)
theorem LV {f:Form} (h:yT f):fV (fun n=>iP n f) f:=LP f (by have:=h.w; omega)
theorem abw {f:Form} (h:yT f):fV (fun n=>kK n f) (cF f:Int):=LG f (by have:=h.2; omega)
theorem Xr (l:List Int) (x:Int) (hl:l.length≤1000000):Ex (fun n=>zS n l x) (fun r=>r.length≤l.length+1):=by
 unfold zS;simp only[DI,Option.bind_some];refine Ex.bind (P:=fun s=>s.1.length≤l.length+1∧(s.2=false→s.1.length≤l.length)) ?_ ?_
 ·refine Ex.dR (I:=fun i q s=>(i+q.length=l.length)∧s.1.length≤i+1∧(s.2=false→s.1.length≤i)) ⟨by simp,by simp,by simp⟩ ?_ ?_
  ·rintro i y q ⟨s,b⟩ ⟨h1,h2,h3⟩;simp only[List.length_cons] at h1 h2 h3 ⊢;refine Ex.bind (P:=fun o=>o=true→b=false) (.ite (fun hb=>.pure fun _=>by simpa using hb) (fun hb=>.pure (by simp))) ?_;intro o ho;refine Ex.bind (P:=fun z=>z.1.length≤i+1∧(z.2=false→z.1.length≤i)) ?_ ?_
   ·refine .ite (fun hc=>.bp _ (dI (by simp; omega)) (.pure ⟨?_,by simp⟩)) (fun _=>.pure ⟨h2,h3⟩);have:=h3 (ho hc);simp; omega
   ·intro z ⟨z1,z2⟩;refine .bp _ (dI (by simp; omega)) (.pure ⟨by omega,by simp; omega,fun hz=>?_⟩);have:=z2 hz;simp; omega
  ·rintro ⟨s,b⟩ ⟨h1,h2,h3⟩; exact⟨h2,h3⟩
 ·rintro ⟨s,b⟩ ⟨h1,h2⟩;simp only at h1 h2 ⊢;refine Ex.bind (P:=fun o=>o.length≤l.length+1) (.ite (fun hb=>.bp _ (dI (by simp; omega)) (.pure ?_)) (fun _=>.pure h1)) (fun o ho=>.pure ho);have:=h2 (by simpa using hb);simp; omega
theorem Uo (l:List Int) (x:Int) (hl:l.length≤1000000):Ex (fun n=>wU n l x) (fun r=>r.length≤l.length):=by
 unfold wU;refine Ex.bind (P:=fun s=>s.length≤l.length) ?_ (fun s hs=>.pure hs);refine Ex.dR (I:=fun i q s=>(i+q.length=l.length)∧s.length≤i) ⟨by simp,by simp⟩ ?_ ?_
 ·rintro i y q s ⟨h1,h2⟩;simp only[List.length_cons] at h1;exact Ex.bind (P:=fun z=>z.length≤i+1) (.ite (fun _=>.bp _ (dI (by simp; omega)) (.pure (by simp; omega))) (fun _=>.pure (by omega))) (fun o ho=>.pure ⟨by omega,ho⟩)
 ·rintro s ⟨h1,h2⟩; exact h2
theorem OI {l m:List Form} {s:Nat}:∀{l m:List Form},OE (fun x y=>O6 s y∧cF y=cF x∧y.kind=x.kind) l m→zW s m∧jD m=jD l
 | [],[],_=>⟨trivial,rfl⟩
 | x::l,y::m,h=>by
  obtain⟨h1,h2⟩:=OI (l:=l) (m:=m) h.2;exact⟨⟨h.1.1,h1⟩,by simp only[jD,h2,h.1.2.1]⟩
theorem OJ (f:Form) (s:Nat) (hs:s≤1000) (ht:O6 s f) (hc:cF f≤1000000) (x w:Int):Ex (fun n=>eU n f x w) (fun r=>O6 (s+1) r∧cF r=cF f∧r.kind=f.kind):=by
 have he:=qQ f;have hl:=AL f.kids;obtain⟨t1,t2,t3⟩:=yB.1 ht;refine .succ ?_;simp only[eU];refine .bp _ (nC (by omega)) ?_;refine Ex.bind (P:=fun o=>o.length≤s+1) ?_ ?_
 ·refine .ite (fun _=>?_) (fun _=>.pure (by omega));refine Ex.bind (P:=fun _=>True) ?_ ?_
  ·refine .ite (fun _=>.pure trivial) (fun _=>.ite (fun _=>?_) (fun _=>.pure trivial));simp only[DI,Option.bind_some]; exact .pure trivial
  ·intro o _;exact .ite (fun _=>.bind (Uo _ _ (by omega)) fun k hk=>.pure (by omega)) (fun _=>.bind (Xr _ _ (by omega)) fun k hk=>.pure (by omega))
 ·intro o ho;refine .bind (Ex.adi (m:=fun n y=>eU n y x w) (R:=fun x y=>O6 (s+1) y∧cF y=cF x∧y.kind=x.kind) (by omega) (fun y hy=>OJ y s hs (qR.1 t3 y hy) (by have:=qA hy; omega) x w)) fun m hm=>.pure ?_;obtain⟨m1,m2⟩:=OI (l:=f.kids) (m:=m) hm;exact⟨yB.2 ⟨t1,ho,m1⟩,by rw[qQ,qQ f,m2],rfl⟩
termination_by SizeOf.sizeOf f
decreasing_by exact jB hy
def oW (f:Form):Bool:=decide (f.kind=1)&&decide (f.name=[46,46,46])
theorem DK (n:Nat) (f:Form):fZ n f=some (oW f):=by
 unfold fZ oW;by_cases h:f.kind=1 <;> simp[h]
def inF (ls:List Form) (f:Form):Bool:=ls.any fun x=>iF x f
theorem LW (ls:List Form) (f:Form):fV (fun n=>uY n ls f) (inF ls f):=by
 refine Ex.AQ ?_;unfold uY;exact Ex.anyI (m:=fun n x=>eP n x f) (p:=fun x=>iF x f) (fun x _=>yx x f) (fun h=>h.symm) (fun h=>.pure h.symm)
def Ur (ls:List Form) (f:Form):Bool:=decide (f.kind=1)&&(decide (¬f.name=[46,46,46])&&(decide (¬f.name=[95])&&!inF ls f))
theorem SB (ls:List Form) (f:Form):fV (fun n=>wL n f ls) (Ur ls f):=by
 refine Ex.AQ ?_;unfold wL Ur;refine Ex.bind (P:=fun b=>b=(decide (f.kind=1)&&(decide (¬f.name=[46,46,46])&&(decide (¬f.name=[95])&&!inF ls f)))) ?_ (fun b hb=>.pure hb);refine .ite (fun h1=>?_) (fun h1=>.pure (by simp[h1]));refine .ite (fun h2=>?_) (fun h2=>.pure (by simp only[decide_eq_false h2,Bool.and_false,Bool.false_and]));refine .ite (fun h3=>?_) (fun h3=>.pure (by simp only[decide_eq_false h3,Bool.and_false,Bool.false_and]));exact .bv (LW ls f) (.pure (by simp only[decide_eq_true h1,decide_eq_true h2,decide_eq_true h3,Bool.true_and]))
mutual
def IE (ls:List Form):Form→Nat
 | ⟨k,nm,n,sc,kids⟩=>(if Ur ls ⟨k,nm,n,sc,kids⟩=true then 1 else 0)+uI ls kids
def uI (ls:List Form):List Form→Nat
 | []=>0
 | x::r=>IE ls x+uI ls r
end
theorem Ir (ls:List Form) (f:Form):IE ls f=(if Ur ls f=true then 1 else 0)+uI ls f.kids:=by cases f; simp only[IE]
mutual
theorem Cc (ls:List Form):∀f:Form,IE ls f≤cF f
 | ⟨k,nm,n,sc,kids⟩=>by have:=LX ls kids; simp only[IE,cF]; split <;> omega
theorem LX (ls:List Form):∀l:List Form,uI ls l≤jD l
 | []=>by simp[uI]
 | x::r=>by have:=Cc ls x; have:=LX ls r; simp only[uI,jD]; omega
end
theorem Gf (ls:List Form) (p:Form) (o:List Form) (h:o.length+cF p≤1000000):Ex (fun n=>nV n o p ls) (fun r=>r.length=o.length+IE ls p):=by
 have he:=qQ p;refine .succ ?_;simp only[nV];refine .bv (SB ls p) ?_;refine Ex.bind (P:=fun z=>z.length=o.length+(if Ur ls p=true then 1 else 0)) ?_ ?_
 ·refine .ite (fun h1=>.bp _ (dI (by simp; omega)) (.pure (by simp[h1]))) (fun h1=>.pure (by simp[h1]))
 intro z hz;refine Ex.bind (P:=fun s=>s.length=o.length+IE ls p) ?_ (fun s hs=>.pure hs);refine Ex.dR (I:=fun i q s=>s.length+uI ls q=o.length+IE ls p∧s.length+jD q≤1000000∧∀x∈q,x∈p.kids) ⟨by rw[Ir,hz]; omega,by rw[hz]; split <;> omega,fun _ h=>h⟩ ?_ ?_
 ·rintro i x q s ⟨h1,h2,h3⟩;simp only[uI,jD] at h1 h2;have g4:=h3 x (List.mem_cons_self);have hv:=Cc ls x;refine .bind (Gf ls x s (by omega)) fun k hk=>.pure ⟨by omega,by omega,fun y hy=>h3 y (List.mem_cons_of_mem _ hy)⟩
 ·rintro s ⟨h1,_,_⟩
  simpa [uI] using h1
termination_by SizeOf.sizeOf p
decreasing_by exact jB g4
theorem Gg (ls:List Form) (p:Form) (o:List Int) (d:Int) (h:o.length+cF p≤1000000):Ex (fun n=>jv n o p ls d) (fun r=>r.length=o.length+IE ls p):=by
 have he:=qQ p;have hk:=AL p.kids;refine .succ ?_;simp only[jv,DK];refine .bv (SB ls p) ?_;refine Ex.bind (P:=fun z=>z.length=o.length+(if Ur ls p=true then 1 else 0)) ?_ ?_
 ·refine .ite (fun h1=>.bp _ (dI (by simp; omega)) (.pure (by simp[h1]))) (fun h1=>.pure (by simp[h1]))
 intro z hz;refine Ex.bind (P:=fun s=>s.length=o.length+IE ls p) ?_ (fun s hs=>.pure hs);refine Ex.dR (I:=fun i q s=>s.length+uI ls q=o.length+IE ls p∧s.length+jD q≤1000000∧p.kids.drop i=q) ⟨by rw[Ir,hz]; omega,by rw[hz]; split <;> omega,rfl⟩ ?_ ?_
 ·rintro i x q s ⟨h1,h2,h3⟩;simp only[uI,jD] at h1 h2;obtain⟨_,g2,g3,g4⟩:=jk h3;have hv:=Cc ls x;refine Ex.bind (P:=fun _=>True) (.ite (fun hc=>?_) (fun _=>.pure trivial)) ?_
  ·obtain⟨y,hy,_⟩:=bY (l:=p.kids) (i:=((i+1:Nat):Int)) (by omega) hc;exact .bp y hy (.pure trivial)
  intro b _;refine Ex.bind (P:=fun _=>True) (.ite (fun _=>.pure trivial) (fun _=>.pure trivial)) ?_;intro d' _;refine .bind (Gg ls x s d' (by omega)) fun k hk=>.pure ⟨by omega,by omega,g2⟩
 ·rintro s ⟨h1,_,_⟩
  simpa [uI] using h1
termination_by SizeOf.sizeOf p
decreasing_by exact jB g4
theorem SC {α:Type} {l:List α} {i:Int} (h0:0≤i) (h:i≤(l.length:Int)):∃z,IZ l 0 i=some z∧∀x∈z,x∈l:=by
 unfold IZ;rw[if_pos (by omega)];exact⟨_,rfl,fun x hx=>List.mem_of_mem_drop (List.mem_of_mem_take hx)⟩
theorem kQ {i:Int} (h0:0≤i) (h:i≤1000000000):aT (i+1)=i+1:=iV (by omega) (by omega)
theorem SE {i:Int} (h0:0≤i) (h:i≤1000000000):aT (i-1)=i-1:=iV (by omega) (by omega)
def adk (b:Bind):Prop:=b.name.length≤12∧b.scopes.length≤26
def LY (bs:List Bind):Prop:=bs.length≤61∧∀b∈bs,adk b
theorem SG (bs:List Bind) (h:LY bs):Ex (fun n=>jQ n bs) (fun _=>True):=by
 have hl:=h.1;unfold jQ;refine Ex.iter (μ:=fun s=>((bs.length:Int)-s).toNat) (I:=fun s=>0≤s∧s≤(bs.length:Int)) 0 ⟨by omega,by omega⟩ ?_;rintro s ⟨h0,h1⟩;refine Ex.bind (P:=fun o=>o=true→s<(bs.length:Int)) (.ite (fun h=>.pure fun _=>h) (fun _=>.pure (by simp))) ?_;intro o ho;refine .ite (fun hc=>?_) (fun _=>.out trivial);have hs:=ho hc;obtain⟨b,hb,hm⟩:=bY h0 hs;obtain⟨b1,b2⟩:=h.2 b hm;refine Ex.bind (P:=fun _=>True) ?_ ?_
 ·exact .bp b hb (.bv (F7 _ (by unfold IC; omega)) (.ite (fun _=>.pure trivial) (fun _=>.bv (LD _ (by unfold IC; omega)) (.ite (fun _=>.pure trivial) (fun _=>.ite (fun _=>.pure trivial) (fun _=>.pure trivial))))))
 intro o5 _;refine .ite (fun _=>.out trivial) (fun _=>?_);refine Ex.iter (μ:=fun s7=>(s-s7).toNat) (I:=fun s7=>0≤s7∧s7≤s) 0 ⟨by omega,by omega⟩ ?_;rintro t ⟨t0,t1⟩;refine .ite (fun ht=>?_) (fun _=>.out ⟨fun _ _=>trivial,fun s' e=>?_⟩)
 ·obtain⟨c,hc',hm'⟩:=bY t0 (Int.lt_trans ht hs);refine Ex.bind (P:=fun _=>True) (.bp c hc' (.bp b hb (.ite (fun _=>.bv (Ik _ _) (.pure trivial)) (fun _=>.pure trivial)))) ?_;intro kS _;exact .ite (fun _=>.out ⟨fun _ _=>trivial,fun s' e=>by cases e⟩) (fun _=>.go (by rw[kQ (by omega) (by omega)]; omega) (by rw[kQ (by omega) (by omega)]; omega))
 ·cases e;rw[kQ (by omega) (by omega)]; omega
theorem Xt (bs:List Bind) (h:LY bs):Ex (fun n=>jL n bs) (fun _=>True):=by
 have hl:=h.1;unfold jL;refine Ex.iter (μ:=fun s=>((bs.length:Int)-s).toNat) (I:=fun s=>0≤s∧s≤(bs.length:Int)) 0 ⟨by omega,by omega⟩ ?_;rintro s ⟨h0,h1⟩;refine Ex.bind (P:=fun o=>o=true→s<(bs.length:Int)) (.ite (fun h=>.pure fun _=>h) (fun _=>.pure (by simp))) ?_;intro o ho;refine .ite (fun hc=>?_) (fun _=>.out trivial);have hs:=ho hc;have hv:s.toNat<bs.length:=by omega
 have hb:=List.getElem?_eq_getElem hv;obtain⟨b1,b2⟩:=h.2 _ (List.getElem_mem hv);have hi:=zB (n:=bs.length) h0 hv;refine Ex.bind (P:=fun _=>True) ?_ ?_
 ·exact .bp () hi (.bp _ hb (.bv (F7 _ (by unfold IC; omega)) (.ite (fun _=>.pure trivial) (fun _=>.bp () hi (.bv (LD _ (by unfold IC; omega)) (.ite (fun _=>.pure trivial) (fun _=>.bp () hi (.ite (fun _=>.pure trivial) (fun _=>.bp () hi (.pure trivial))))))))))
 intro o5 _;refine .ite (fun _=>.out trivial) (fun _=>?_);refine Ex.iter (μ:=fun s7=>(s-s7).toNat) (I:=fun s7=>0≤s7∧s7≤s) 0 ⟨by omega,by omega⟩ ?_;rintro t ⟨t0,t1⟩;refine .ite (fun ht=>?_) (fun _=>.out ⟨fun _ _=>trivial,fun s' e=>?_⟩)
 ·have hv':t.toNat<bs.length:=by omega
  have hb':=List.getElem?_eq_getElem hv';have hi':=zB (n:=bs.length) t0 hv';refine Ex.bind (P:=fun _=>True) (.bp () hi' (.bp _ hb' (.bp () hi (.bp _ hb (.ite (fun _=>.bp () hi' (.bp () hi (.bv (Ik _ _) (.pure trivial)))) (fun _=>.pure trivial)))))) ?_;intro kS _;exact .ite (fun _=>.out ⟨fun _ _=>trivial,fun s' e=>by cases e⟩) (fun _=>.go (by rw[kQ (by omega) (by omega)]; omega) (by rw[kQ (by omega) (by omega)]; omega))
 ·cases e;rw[kQ (by omega) (by omega)]; omega
theorem SH (a b:List Int):fV (fun n=>iQ n a b) (a.all fun x=>decide (x∈b)):=by
 refine Ex.AQ ?_;unfold iQ;exact Ex.allI (m:=fun n x=>mY n b x) (p:=fun x=>decide (x∈b)) (fun x _=>⟨0,fun n _=>DI n b x⟩) (fun h=>.pure h.symm) (fun h=>h.symm)
theorem abx (bs:List Bind) (hl:bs.length≤1000000) (f:Form):Ex (fun n=>oP n bs f) (fun r=>∀i∈r,0≤i∧i<(bs.length:Int)):=by
 unfold oP;refine Ex.bind (P:=fun r=>∀i∈r,0≤i∧i<(bs.length:Int)) ?_ (fun s hs=>.pure hs);refine Ex.dR (I:=fun i q s=>(i+q.length=bs.length)∧s.length≤i∧∀j∈s,0≤j∧j<(bs.length:Int)) ⟨by simp,by simp,by simp⟩ ?_ (fun s h=>h.2.2);rintro i b q s ⟨h1,h2,h3⟩;simp only[List.length_cons] at h1;refine Ex.bind (P:=fun s=>s.length≤i+1∧∀j∈s,0≤j∧j<(bs.length:Int)) ?_ (fun s hs=>.pure ⟨by omega,hs⟩);refine Ex.bind (P:=fun _=>True) (.ite (fun _=>.bv (SH _ _) (.pure trivial)) (fun _=>.pure trivial)) ?_;intro o _;refine .ite (fun _=>.bp _ (dI (by simp; omega)) (.pure ⟨by simp; omega,fun j hj=>?_⟩)) (fun _=>.pure ⟨by omega,h3⟩);rcases List.mem_append.1 hj with hj | hj
 ·exact h3 j hj
 ·rw[List.mem_singleton.1 hj]; omega
theorem LZ (bs:List Bind) (hl:bs.length≤1000000) (f:Form):Ex (fun n=>pO n bs f) (fun r=>r.2=0∨r.2=2∨0≤r.1∧r.1<(bs.length:Int)):=by
 unfold pO;refine .bind (abx bs hl f) fun k hk=>?_;refine Ex.bG (P:=fun o=>match o with
  | .inl w=>0≤w.1∧w.1<(bs.length:Int)
  | .inr _=>True) ?_ (fun w h=>.inr (.inr h)) (fun _ _=>.ite (fun _=>.pure (.inr (.inl rfl))) (fun _=>.pure (.inl rfl)))
 refine Ex.bM (I:=fun i q s=>∀x∈q,x∈k) (fun _ h=>h) ?_ (fun _ _=>trivial);intro i x q s h;have hx:=hk x (h x List.mem_cons_self);obtain⟨b,hb,_⟩:=bY hx.1 hx.2;refine Ex.bind (P:=fun _=>True) ?_ (fun o _=>.ite (fun _=>.fo hx) (fun _=>.fg fun y hy=>h y (List.mem_cons_of_mem _ hy)));refine Ex.dR (I:=fun i q s=>∀x∈q,x∈k) (fun _ h=>h) ?_ (fun _ _=>trivial);intro j y q' s' h';have hy:=hk y (h' y List.mem_cons_self);obtain⟨c,hc,_⟩:=bY hy.1 hy.2;exact Ex.bind (P:=fun _=>True) (.ite (fun _=>.bp c hc (.bp b hb (.bv (SH _ _) (.pure trivial)))) (fun _=>.pure trivial)) (fun o _=>.pure fun z hz=>h' z (List.mem_cons_of_mem _ hz))
theorem Xu (bs:List Bind) (hl:bs.length≤1000000) (f g:Form):Ex (fun n=>wO n bs f g) (fun _=>True):=by
 unfold wO;refine .bind (LZ bs hl f) fun k1 h1=>.bind (LZ bs hl g) fun k2 h2=>?_;refine Ex.bind (P:=fun o=>o=false→k1.2=k2.2∧¬k1.2=2) (.ite (fun h=>.pure (by simp)) (fun h=>.pure fun e=>⟨by simpa using h,by simpa using e⟩)) ?_;intro o ho;refine .ite (fun _=>.pure trivial) (fun hc=>.ite (fun _=>.pure trivial) (fun hz=>?_));obtain⟨g1,g2⟩:=ho (by simpa using hc);have p1:0≤k1.1∧k1.1<(bs.length:Int):=h1.elim (fun h=>absurd h hz) (fun h=>h.elim (fun h=>absurd h g2) id);have p2:0≤k2.1∧k2.1<(bs.length:Int):=h2.elim (fun h=>absurd (g1.trans h) hz) (fun h=>h.elim (fun h=>absurd (g1.trans h) g2) id);obtain⟨b,hb,_⟩:=bY p1.1 p1.2;obtain⟨c,hc,_⟩:=bY p2.1 p2.2;exact .bp b hb (.bp c hc (.pure trivial))
theorem Xv (f:Form) (h:yT f):Ex (fun n=>AB n f) (fun _=>True):=by
 unfold AB;exact Ex.bind (P:=fun _=>True) (.ite (fun _=>.bv (qj h) (.pure trivial)) (fun _=>.pure trivial)) (fun o _=>.pure trivial)
theorem Us (bs:List Bind) (h:LY bs):fV (fun n=>pW n bs) bs:=by
 have hl:=h.1;refine Ex.AQ ?_;unfold pW;refine Ex.bind (P:=fun s=>s=bs) ?_ (fun s hs=>.pure hs);refine Ex.dR (I:=fun i q s=>s=bs.take i∧bs.drop i=q) ⟨rfl,rfl⟩ ?_ ?_
 ·rintro i x q s ⟨rfl,hd⟩;obtain⟨g1,g2,g3,g4⟩:=jk hd;have:=(h.2 x g4).2;refine .bp _ (nC (by omega)) (.bp _ (dI (by simp; omega)) (.pure ⟨?_,g2⟩));rw[List.take_add_one,g1]; cases x; rfl
 ·rintro s ⟨rfl,_⟩; simp
theorem Zf (bs:List Bind) (h:LY bs) (hl:bs.length<60) (f:Form) (hf:yT f) (id:Int):Ex (fun n=>um n bs f id) (fun r=>r.2=true→LY r.1∧r.1.length=bs.length+1):=by
 unfold um;obtain⟨f1,f2,_⟩:=yB.1 hf.1;refine Ex.bind (P:=fun _=>True) (.bind (SG bs h) fun k _=>.ite (fun _=>.pure trivial) (fun _=>.bind (Xv f hf) fun k _=>.pure trivial)) ?_;intro o _;refine .ite (fun _=>.pure (by simp)) (fun _=>.bv (Us bs h) (.bp _ (nC (by omega)) (.bp _ (dI (by simp; omega)) ?_)));have hn:LY (bs++[(⟨f.name,f.scopes,id⟩:Bind)]):=⟨by simp; omega,fun b hb=>by
  rcases List.mem_append.1 hb with hb | hb
  ·exact h.2 b hb
  ·rw[List.mem_singleton.1 hb]; exact⟨f1,f2⟩⟩
 exact .bind (Xt _ hn) fun k _=>.ite (fun _=>.pure (by simp)) (fun _=>.pure fun _=>⟨hn,by simp⟩)
def L6 (ls:List Form):Prop:=ls.length≤1000∧∀x∈ls,yT x
theorem SI (ls:List Form) (h:L6 ls):Ex (fun n=>jR n ls) (fun _=>True):=by
 have hl:=h.1;unfold jR;refine Ex.iter (μ:=fun s=>((ls.length:Int)-s).toNat) (I:=fun s=>0≤s∧s≤(ls.length:Int)) 0 ⟨by omega,by omega⟩ ?_;rintro s ⟨h0,h1⟩;refine Ex.bind (P:=fun o=>o=true→s<(ls.length:Int)) (.ite (fun h=>.pure fun _=>h) (fun _=>.pure (by simp))) ?_;intro o ho;refine .ite (fun hc=>?_) (fun _=>.out trivial);have hs:=ho hc;obtain⟨b,hb,hm⟩:=bY h0 hs;obtain⟨z,hz,_⟩:=SC h0 h1;refine Ex.bind (P:=fun _=>True) ?_ ?_
 ·exact .bp b hb (.bind (Xv b (h.2 b hm)) fun k _=>.ite (fun _=>.pure trivial) (fun _=>.ite (fun _=>.pure trivial) (fun _=>.ite (fun _=>.pure trivial) (fun _=>.bp z hz (.bv (LW _ _) (.pure trivial))))))
 intro o5 _;exact .ite (fun _=>.out trivial) (fun _=>.go (by rw[kQ (by omega) (by omega)]; omega) (by rw[kQ (by omega) (by omega)]; omega))
mutual
def UL:Form→Prop
 | ⟨k,nm,n,sc,kids⟩=>oW ⟨k,nm,n,sc,kids⟩=false∧Ut kids∧(∀x,kids.head? = some x→oW x=false)∧kids.countP oW≤1
def Ut:List Form→Prop
 | []=>True
 | x::r=>(oW x=false→UL x)∧Ut r
end
theorem Xw {f:Form}:UL f↔oW f=false∧Ut f.kids∧(∀x,f.kids.head? = some x→oW x=false)∧f.kids.countP oW≤1:=by cases f; simp only[UL]
theorem Iu:∀{l:List Form},Ut l↔∀x∈l,oW x=false→UL x
 | []=>by simp[Ut]
 | x::r=>by simp[Ut,Iu (l:=r)]
theorem OL (f:Form) (hf:yT f):Ex (fun n=>pR n f) (fun r=>r=true→UL f):=by
 have hl:=hf.len;refine .succ ?_;simp only[pR,DK,Option.bind_some];refine .ite (fun _=>.pure (by simp)) (fun hd=>?_);refine Ex.bG (Q:=fun r=>r=true→UL f) (P:=fun(o:Bool⊕Int)=>match o with
  | .inl w=>w=false
  | .inr s=>s≤1→UL f) ?_ (fun w h=>by have h:w=false:=h; simp[h]) (fun s h=>Ex.pure (v:=decide (s≤1)) fun e=>h (by simpa using e))
 refine Ex.bM (I:=fun i q s=>∃p,p++q=f.kids∧i=p.length∧s=((p.countP oW:Nat):Int)∧(∀x∈p,oW x=false→UL x)∧(∀x,p.head? = some x→oW x=false)) ⟨[],rfl,rfl,rfl,by simp,by simp⟩ ?_ ?_
 ·rintro i x q s ⟨p,hp,rfl,rfl,h3,h4⟩;have hx:x∈f.kids:=by rw[← hp]; simp
  have hlen:p.length+(q.length+1)=f.kids.length:=by rw[← hp]; simp
  have hc:=List.countP_le_length (p:=oW) (l:=p);have hp':(p++[x])++q=f.kids:=by rw[← hp]; simp
  have tail:∀{R:Bool⊕Int→Prop} {g:Nat→Option ((Bool⊕Int)⊕Int)},Ex g (fun r=>(r=.inl (.inl false)∧R (.inl false))∨∃s,r=.inr s∧R (.inr s))→Ex (fun n=>Mx.bG (g n) (fun s=>some (.inr s))) R:=fun h=>by
   refine Ex.bG h (fun w hw=>?_) (fun t ht=>?_)
   ·rcases hw with ⟨e,h⟩ | ⟨s,e,_⟩
    ·cases e; exact h
    ·cases e
   ·rcases ht with ⟨e,_⟩ | ⟨s,e,h⟩
    ·cases e
    ·cases e; exact .pure h
  refine tail ?_;refine .ite (fun JZ=>?_) (fun JZ=>?_)
  ·refine Ex.bind (P:=fun o=>o=false→0<p.length) (.ite (fun _=>.pure (by simp)) (fun h0=>?_)) ?_
   ·obtain⟨y,hy,_⟩:=bY (l:=f.kids) (i:=(p.length:Int)-1) (by omega) (by omega);rw[SE (by omega) (by omega)];exact .bp y hy (.pure fun _=>by omega)
   ·intro o ho;refine .ite (fun _=>.pure (.inl ⟨rfl,fun w e=>by cases e; rfl,fun s' e=>by cases e⟩)) (fun hc'=>.pure (.inr ⟨_,rfl,fun w e=>by(cases e),fun s' e=>?_⟩));cases e;have hpos:=ho (by simpa using hc');refine⟨p++[x],hp',by simp,?_,?_,?_⟩
    ·rw[kQ (by omega) (by omega),List.countP_append]; simp[JZ]
    ·intro y hy hdy;rcases List.mem_append.1 hy with hy | hy
     ·exact h3 y hy hdy
     ·rw[List.mem_singleton.1 hy,JZ] at hdy; cases hdy
    ·intro y hy;cases p with
     | nil=>simp at hpos
     | cons a p=>exact h4 y (by simpa using hy)
  ·refine .bind (OL x (hf.kid hx)) fun k hk=>?_;refine .ite (fun _=>.pure (.inl ⟨rfl,fun w e=>by cases e; rfl,fun s' e=>by cases e⟩)) (fun hc'=>.pure (.inr ⟨_,rfl,fun w e=>by(cases e),fun s' e=>?_⟩));cases e;have hkx:=hk (by simpa using hc');refine⟨p++[x],hp',by simp,?_,?_,?_⟩
   ·rw[List.countP_append]; simp[JZ]
   ·intro y hy hdy;rcases List.mem_append.1 hy with hy | hy
    ·exact h3 y hy hdy
    ·rw[List.mem_singleton.1 hy]; exact hkx
   ·intro y hy;cases p with
    | nil=>simp at hy; rw[← hy]; simpa using JZ
    | cons a p=>exact h4 y (by simpa using hy)
 ·rintro s ⟨p,hp,_,rfl,h3,h4⟩ hs;rw[List.append_nil] at hp;subst hp;exact Xw.2 ⟨by simpa using hd,Iu.2 h3,h4,by omega⟩
termination_by SizeOf.sizeOf f
decreasing_by exact jB hx
theorem aby (f:Form) (hf:yT f) (ls:List Form) (h:L6 ls):Ex (fun n=>Dt n f ls) (fun r=>r=true→gK f=true∧UL f):=by
 have hc:=hf.2;have hvl:=Cc ls f;unfold Dt;refine Ex.bind (P:=fun o=>o=false→gK f=true∧UL f) ?_ ?_
 ·refine .bv (qj hf) (.ite (fun _=>.pure (by simp)) (fun h1=>.bind (SI ls h) fun k _=>.ite (fun _=>.pure (by simp)) (fun _=>.bind (OL f hf) fun k hk=>.pure fun e=>⟨by simpa using h1,hk (by simpa using e)⟩)))
 intro o ho;refine .ite (fun _=>.pure (by simp)) (fun hc'=>?_);have hgood:=ho (by simpa using hc');refine .bind (Gf ls f [] (by simp; omega)) fun k3 hk3=>?_;refine Ex.bG (P:=fun _=>True) ?_ (fun _ _ _=>hgood) ?_
 ·refine Ex.bM (I:=fun i q s=>k3.drop i=q) rfl ?_ (fun _ _=>trivial);intro i x q s hd;obtain⟨_,g2,g3,_⟩:=jk hd;obtain⟨z,hz,_⟩:=SC (l:=k3) (i:=(i:Int)) (by omega) (by omega);exact .bp z hz (.bv (LW _ _) (.ite (fun _=>.fo trivial) (fun _=>.fg g2)))
 intro _ _;refine .bind (Gg ls f [] 0 (by simp; omega)) fun k16 _=>?_;refine Ex.bG (P:=fun _=>True) ?_ (fun _ _ _=>hgood) (fun _ _=>.pure fun _=>hgood);exact Ex.bM (I:=fun _ _ _=>True) trivial (fun i x q s _=>.ite (fun _=>.fo trivial) (fun _=>.fg trivial)) (fun _ _=>trivial)
theorem OM (hs:List ig) (f:Form):Ex (fun n=>rZ n hs f) (fun r=>r=-1∨0≤r∧r<(hs.length:Int)):=by
 unfold rZ;refine Ex.bG (P:=fun o=>match o with
  | .inl w=>0≤w∧w<(hs.length:Int)
  | .inr _=>True) ?_ (fun w h=>.inr h) (fun _ _=>.pure (.inl rfl))
 refine Ex.bM (I:=fun i q s=>hs.drop i=q) rfl ?_ (fun _ _=>trivial);intro i x q s hd;obtain⟨_,g2,g3,_⟩:=jk hd;exact .bv (yx _ _) (.ite (fun _=>.fo ⟨by omega,by omega⟩) (fun _=>.fg g2))
theorem J3 (hs:List ig) (f:Form):Ex (fun n=>pU n hs f) (fun _=>True):=by
 unfold pU;refine .ite (fun _=>.pure trivial) (fun _=>.bind (OM hs f) fun k hk=>.ite (fun _=>.pure trivial) (fun hn=>?_));obtain⟨h,hh,_⟩:=bY (l:=hs) (i:=k) (by omega) (by omega);exact .bp h hh (.pure trivial)
theorem Xx (hs:List ig) (h:hs.length≤1000000):Ex (fun n=>wR n hs) (fun r=>r.length=hs.length):=by
 unfold wR;refine Ex.bind (P:=fun s=>s.length=hs.length) ?_ (fun s hs=>.pure hs);refine Ex.dR (I:=fun i q s=>i+q.length=hs.length∧s.length=i) ⟨by simp,rfl⟩ ?_ (fun s h=>h.2);rintro i x q s ⟨h1,h2⟩;simp only[List.length_cons] at h1;exact Ex.bind (P:=fun _=>True) (.ite (fun _=>.pure trivial) (fun _=>.pure trivial)) (fun o _=>.bp _ (dI (by simp; omega)) (.pure ⟨by omega,by simp; omega⟩))
theorem OO (hs:List ig) (f:Form):Ex (fun n=>su n hs f) (fun _=>True):=by
 refine .succ ?_;simp only[su];refine .bind (J3 hs f) fun k _=>.ite (fun _=>.pure trivial) (fun _=>?_);refine Ex.bG (P:=fun _=>True) ?_ (fun _ _=>trivial) (fun _ _=>.pure trivial);refine Ex.bM (I:=fun i q s=>∀x∈q,x∈f.kids) (fun _ h=>h) ?_ (fun _ _=>trivial);intro i x q s h;have hx:=h x List.mem_cons_self;exact .bind (OO hs x) fun k _=>.ite (fun _=>.fo trivial) (fun _=>.fg fun y hy=>h y (List.mem_cons_of_mem _ hy))
termination_by SizeOf.sizeOf f
decreasing_by exact jB hx
theorem QC (f:Form) (hf:yT f) (hs:List ig) (h:hs.length≤1000000):Ex (fun n=>xY n f hs) (fun _=>True):=by
 have hl:=hf.len;refine .succ ?_;simp only[xY,DK,Option.bind_some];refine Ex.bind (P:=fun _=>True) (.ite (fun _=>.pure trivial) (fun _=>.bind (J3 hs f) fun k _=>.pure trivial)) ?_;intro o _;refine .ite (fun _=>.pure trivial) (fun _=>?_);refine Ex.bG (P:=fun _=>True) ?_ (fun _ _=>trivial) (fun _ _=>.pure trivial);refine Ex.bM (I:=fun i q s=>f.kids.drop i=q) rfl ?_ (fun _ _=>trivial);intro i x q s hd;obtain⟨_,g2,g3,hx⟩:=jk hd;refine Ex.bG (P:=fun o=>∀w,o=.inl w→∃b,w=.inl b) ?_ (fun w hw=>?_) (fun _ _=>.fg g2)
 ·refine .ite (fun _=>?_) (fun _=>?_)
  ·refine Ex.bind (P:=fun _=>True) (.ite (fun _=>.pure trivial) (fun h0=>?_)) (fun o _=>.ite (fun _=>.pure (fun w e=>by cases e; exact⟨_,rfl⟩)) (fun _=>.pure (fun w e=>by cases e)));obtain⟨y,hy,_⟩:=bY (l:=f.kids) (i:=(i:Int)-1) (by omega) (by omega);rw[SE (by omega) (by omega)];exact .bp y hy (.pure trivial)
  ·refine Ex.bind (P:=fun _=>True) (.ite (fun hc=>?_) (fun _=>.pure trivial)) ?_
   ·obtain⟨y,hy,_⟩:=bY (l:=f.kids) (i:=((i+1:Nat):Int)) (by omega) hc;exact .bp y hy (.pure trivial)
   intro o _;refine .ite (fun _=>?_) (fun _=>?_)
   ·refine Ex.bind (P:=fun _=>True) ?_ (fun o _=>.ite (fun _=>.pure (fun w e=>by cases e; exact⟨_,rfl⟩)) (fun _=>.pure (fun w e=>by cases e)));exact .bind (OO hs x) fun k _=>.ite (fun _=>.pure trivial) (fun _=>.bind (Xx hs h) fun k hk=>.bind (QC x (hf.kid hx) k (by omega)) fun k _=>.pure trivial)
   ·exact .bind (QC x (hf.kid hx) hs h) fun k _=>.ite (fun _=>.pure (fun w e=>by cases e; exact⟨_,rfl⟩)) (fun _=>.pure (fun w e=>by cases e))
 ·obtain⟨b,rfl⟩:=hw w rfl;exact⟨fun _ _=>trivial,fun s' e=>by cases e⟩
termination_by SizeOf.sizeOf f
decreasing_by all_goals exact jB hx
theorem Uu (f:Form) (hf:yT f) (ls:List Form):Ex (fun n=>uf n f ls) (fun r=>r.length≤401):=by
 have hc:=hf.2;have hvl:=Cc ls f;unfold uf;refine .bind (Gf ls f [] (by simp; omega)) fun k1 h1=>.bind (Gg ls f [] 0 (by simp; omega)) fun k2 h2=>?_;simp only[List.length_nil,Nat.zero_add] at h1 h2;refine Ex.bind (P:=fun s=>s.length≤401) ?_ (fun s hs=>.pure hs);refine Ex.dR (I:=fun i q s=>k1.drop i=q∧s.length=i) ⟨rfl,rfl⟩ ?_ (fun s h=>by have:=h.2; omega);rintro i x q s ⟨hd,h3⟩;obtain⟨_,g2,g3,_⟩:=jk hd;have hi:i<k2.length:=by omega
 refine .bp () (zB (by omega) (by simpa using hi)) (.bp _ (List.getElem?_eq_getElem hi) ?_);exact Ex.bind (P:=fun _=>True) (.ite (fun _=>.pure trivial) (fun _=>.pure trivial)) (fun o _=>.bp _ (dI (by simp; omega)) (.pure ⟨g2,by simp; omega⟩))
def abz (r:Rule):Prop:=yT r.pattern∧yT r.template
def ruP (r:Rule):Prop:=gK r.pattern=true∧UL r.pattern∧r.pattern.kind=3
theorem Zg (r:Rule) (hr:abz r) (ls:List Form) (h:L6 ls):Ex (fun n=>wS n r ls) (fun b=>b=true→ruP r):=by
 unfold wS;refine Ex.bind (P:=fun b=>b=true→ruP r) ?_ (fun b hb=>.pure hb);refine .bind (aby r.pattern hr.1 ls h) fun k hk=>.ite (fun h1=>.ite (fun h2=>.ite (fun _=>.bv (qj hr.2) (.ite (fun _=>?_) (fun _=>.pure (by simp)))) (fun _=>.pure (by simp))) (fun _=>.pure (by simp))) (fun _=>.pure (by simp));exact .bind (Uu r.pattern hr.1 ls) fun k8 h8=>.bind (QC r.template hr.2 k8 (by omega)) fun k9 _=>.pure fun _=>⟨(hk h1).1,(hk h1).2,h2⟩
def QD (rs:List Rule):Prop:=rs.length≤1000∧∀r∈rs,abz r
theorem OQ (rs:List Rule) (hr:QD rs) (ls:List Form) (h:L6 ls):Ex (fun n=>pV n rs ls) (fun b=>b=true→∀r∈rs,ruP r):=by
 have hl:=hr.1;unfold pV;refine Ex.iter (μ:=fun s=>((rs.length:Int)-s).toNat) (I:=fun s=>0≤s∧s≤(rs.length:Int)∧∀i:Nat,(i:Int)<s→∀r,rs[i]? = some r→ruP r) 0 ⟨by omega,by omega,fun i h=>by omega⟩ ?_;rintro s ⟨h0,h1,h2⟩;refine Ex.bind (P:=fun o=>(o=true→s<(rs.length:Int))∧(o=false→s=(rs.length:Int)∨10≤s)) (.ite (fun h=>.pure ⟨fun _=>h,fun e=>.inr (by simpa using e)⟩) (fun h=>.pure ⟨by simp,fun _=>.inl (by omega)⟩)) ?_;rintro o ⟨ho,ho'⟩;refine .ite (fun hc=>?_) (fun hc=>?_)
 ·have hs:=ho hc;obtain⟨b,hb,hm⟩:=bY h0 hs;refine .bp b hb (.bind (Zg b (hr.2 b hm) ls h) fun k hk=>.ite (fun _=>.out (by simp)) (fun hk'=>.go ?_ (by rw[kQ (by omega) (by omega)]; omega)));rw[kQ (by omega) (by omega)];refine⟨by omega,by omega,fun i hi r hr'=>?_⟩;by_cases hlt:(i:Int)<s
  ·exact h2 i hlt r hr'
  ·have e:s=(i:Int):=by omega
   rw[e,dV hr'] at hb;cases hb;exact hk (by simpa using hk')
 ·refine Ex.bind (P:=fun b=>b=true→(rs.length:Int)<10) (.ite (fun h3=>.bind (SI ls h) fun k _=>.pure fun _=>h3) (fun _=>.pure (by simp))) (fun o8 h8=>.out fun hb r hr'=>?_);have h10:=h8 hb;have he:s=(rs.length:Int):=by rcases ho' (by simpa using hc) with h | h <;> omega
  obtain⟨i,hi,rfl⟩:=List.mem_iff_getElem.1 hr';exact h2 i (by omega) _ (List.getElem?_eq_getElem hi)
theorem Ex.tail {A σ:Type} {R:A⊕σ→Prop} {g:Nat→Option ((A⊕σ)⊕σ)} (h:Ex g (fun r=>(∃a,r=.inl (.inl a)∧R (.inl a))∨∃s,r=.inr s∧R (.inr s))):Ex (fun n=>Mx.bG (g n) (fun s=>some (.inr s))) R:=by
 refine Ex.bG h (fun w hw=>?_) (fun t ht=>?_)
 ·rcases hw with ⟨a,e,h⟩ | ⟨s,e,_⟩
  ·cases e; exact h
  ·cases e
 ·rcases ht with ⟨a,e,_⟩ | ⟨s,e,h⟩
  ·cases e
  ·cases e; exact .pure h
mutual
def htP:ig→Prop
 | ⟨_,_,one,many⟩=>yT one∧many.length≤1000∧qU many
def qU:List ig→Prop
 | []=>True
 | x::r=>htP x∧qU r
end
theorem Iw {h:ig}:htP h↔yT h.one∧h.many.length≤1000∧qU h.many:=by cases h; simp only[htP]
theorem oU:∀{l:List ig},qU l↔∀x∈l,htP x
 | []=>by simp[qU]
 | x::r=>by simp[qU,oU (l:=r)]
theorem zX {a b:List ig} (h1:qU a) (h2:qU b):qU (a++b):=oU.2 fun x hx=>(List.mem_append.1 hx).elim (oU.1 h1 x) (oU.1 h2 x)
theorem Zh (p:Form) (hc:cF p≤401) (ls:List Form) (rows:List (List ig)) (hl:rows.length≤1000) (h:∀r∈rows,r.length=IE ls p∧qU r):Ex (fun n=>zL n p ls rows) (fun r=>r.length=IE ls p∧qU r):=by
 have hvl:=Cc ls p;unfold zL;refine .bind (Gf ls p [] (by simp; omega)) fun k1 h1=>.bind (Gg ls p [] 0 (by simp; omega)) fun k2 h2=>?_;simp only[List.length_nil,Nat.zero_add] at h1 h2;refine Ex.bind (P:=fun r=>r.length=IE ls p∧qU r) ?_ (fun s hs=>.pure hs);refine Ex.dR (I:=fun i q s=>k1.drop i=q∧s.length=i∧qU s) ⟨rfl,rfl,trivial⟩ ?_ (fun s h=>⟨by rw[h.2.1,h1],h.2.2⟩);rintro i x q s ⟨hd,h3,h4⟩;obtain⟨_,g2,g3,_⟩:=jk hd;have hi:i<k2.length:=by omega
 refine .bp () (zB (by omega) (by simpa using hi)) (.bp _ (List.getElem?_eq_getElem hi) ?_);refine Ex.bind (P:=fun t=>t.length=rows.length∧qU t) ?_ ?_
 ·refine Ex.dR (I:=fun j q t=>(∀r∈q,r∈rows)∧j+q.length=rows.length∧t.length=j∧qU t) ⟨fun _ h=>h,by simp,rfl,trivial⟩ ?_ (fun t h=>⟨h.2.2.1,h.2.2.2⟩);rintro j y q' t ⟨t1,t2,t3,t4⟩;simp only[List.length_cons] at t2;obtain⟨y1,y2⟩:=h y (t1 y List.mem_cons_self);obtain⟨e,he,hm⟩:=bY (l:=y) (i:=(i:Int)) (by omega) (by omega);exact .bp e he (.bp _ (dI (by simp; omega)) (.pure ⟨fun r hr=>t1 r (List.mem_cons_of_mem _ hr),by omega,by simp; omega,zX t4 ⟨oU.1 y2 e hm,trivial⟩⟩))
 ·rintro t ⟨t1,t2⟩;refine .bp _ (dI (by simp; omega)) (.pure ⟨g2,by simp; omega,zX h4 ⟨Iw.2 ⟨smZ,by simp only; omega,t2⟩,trivial⟩⟩)
theorem Fj {p:Form→Bool}:∀{l:List Form},l.countP p≤1→∀{i j:Nat} {x y:Form},l[i]? = some x→l[j]? = some y→p x=true→p y=true→i=j
 | [],_,i,j,x,y,h,_,_,_=>by simp at h
 | a::l,hc,i,j,x,y,hi,hj,hx,hy=>by
  rw[List.countP_cons] at hc;have z:∀{k:Nat} {z:Form},l[k]? = some z→p z=true→p a=false∧l.countP p≤1:=fun {k z} hk hz=>by
   have:0<l.countP p:=List.countP_pos_iff.2 ⟨z,List.mem_of_getElem? hk,hz⟩;cases ha:p a with
   | true=>rw[ha,if_pos rfl] at hc; omega
   | false=>exact⟨rfl,by omega⟩
  cases i with
  | zero=>
   cases j with
   | zero=>rfl
   | succ j=>
    simp at hi hj; subst hi;rw[(z hj hy).1] at hx; cases hx
  | succ i=>
   cases j with
   | zero=>
    simp at hi hj; subst hj;rw[(z hi hx).1] at hy; cases hy
   | succ j=>
    simp at hi hj;rw[Fj (z hi hx).2 hi hj hx hy]
def mtR (ls:List Form) (v:Nat) (r:List ig×Bool):Prop:=r.2=true→r.1.length=v∧qU r.1
theorem Xy (bs:List Bind) (ls:List Form) (ps fs:List Form) (hcs:jD ps≤400) (hk:∀x∈ps,oW x=true→x.kids=[]) (hfs:∀x∈fs,yT x) (hfl:fs.length≤400) (hd0:∀x,ps.head? = some x→oW x=false) (hd1:ps.countP oW≤1) (hm:∀x∈ps,oW x=false→∀f,yT f→Ex (fun n=>gZ n bs x ls f) (mtR ls (IE ls x))):Ex (fun n=>rY n bs ps ls fs) (mtR ls (uI ls ps)):=by
 have hpl:=AL ps;refine .succ ?_;simp only[rY,DK,Option.bind_some];refine Ex.iter (μ:=fun s=>((ps.length:Int)-s.2).toNat) (I:=fun s=>0≤s.2∧s.2≤(ps.length:Int)∧(∃j:Nat,s.2=(j:Int)∧((s.1=-1∧∀k x,k≤j→ps[k]? = some x→oW x=false)∨∃r:Nat,s.1=(r:Int)∧∃x,ps[r+1]? = some x∧oW x=true))) ((-1),0) ⟨by simp,by simp,0,rfl,.inl ⟨rfl,fun k x hk hx=>hd0 x ?_⟩⟩ ?_
 ·obtain rfl:k=0:=by omega
  rw[List.head?_eq_getElem?]; exact hx
 rintro ⟨row,i⟩ ⟨h0,h1,j,hj,hrow⟩;simp only at h0 h1 hj hrow ⊢;subst hj;rw[kQ (by omega) (by omega)];refine .ite (fun hlt=>?_) (fun hge=>?_)
 ·obtain⟨e,he,_⟩:=bY (l:=ps) (i:=(j:Int)+1) (by omega) hlt;have hg:ps[j+1]? = some e:=by
   have hv:j+1<ps.length:=by omega
   have:=dV (List.getElem?_eq_getElem hv);rw[show((j+1:Nat):Int)=(j:Int)+1 by omega,he] at this;rw[List.getElem?_eq_getElem hv,← Option.some.inj this]
  refine Ex.bind (P:=fun o=>(oW e=true∧o=(j:Int))∨(oW e=false∧o=row)) (.bp e he (.ite (fun h=>.pure (.inl ⟨h,rfl⟩)) (fun h=>.pure (.inr ⟨by simpa using h,rfl⟩)))) ?_;intro o ho;refine .fg ⟨⟨?_,?_,j+1,?_,?_⟩,?_⟩
  ·try simp only
   omega
  ·try simp only
   omega
  ·try simp only
   omega
  rotate_left
  ·try simp only
   omega
  rcases ho with ⟨hd,rfl⟩ | ⟨hd,rfl⟩
  ·exact .inr ⟨j,rfl,e,hg,hd⟩
  ·rcases hrow with ⟨hr,ha⟩ | hr
   ·refine .inl ⟨hr,fun k x hk hx=>?_⟩;rcases Nat.lt_or_ge j k with hlt | hle
    ·obtain rfl:k=j+1:=by omega
     rw[hg] at hx; cases hx; exact hd
    ·exact ha k x hle hx
   ·exact .inr hr
 ·refine Ex.bind (P:=fun o=>o=false→(row<0→(ps.length:Int)=(fs.length:Int))∧(row≥0→(fs.length:Int)≥(ps.length:Int)-2)) ?_ ?_
  ·have hw:aT ((ps.length:Int)-2)=(ps.length:Int)-2:=iV (by omega) (by omega);rw[hw];refine .ite (fun hn=>?_) (fun hn=>?_)
   ·refine .ite (fun _=>.pure (by simp)) (fun he=>?_);exact .neg (by omega) (.pure fun _=>⟨fun _=>by omega,fun h=>by omega⟩)
   ·exact .pos (by omega) (Ex.pure (v:=decide ((fs.length:Int)<(ps.length:Int)-2)) fun e=>⟨fun h=>by omega,fun _=>by have e:=of_decide_eq_false e; omega⟩)
  intro o9 ho9;refine .ite (fun _=>.fo (fun h=>by cases h)) (fun fU=>?_);obtain⟨hA,hB⟩:=ho9 (by simpa using fU);have hw:aT ((ps.length:Int)-2)=(ps.length:Int)-2:=iV (by omega) (by omega);have hw2:aT ((fs.length:Int)-((ps.length:Int)-2))=(fs.length:Int)-((ps.length:Int)-2):=iV (by omega) (by omega);rw[hw,hw2];have hnd:∀k x,ps[k]? = some x→oW x=true→∃r:Nat,row=(r:Int)∧k=r+1:=by
   intro k x hx hd;rcases hrow with ⟨hr,ha⟩ | ⟨r,hr,y,hy,hdy⟩
   ·have:k<ps.length:=(List.getElem?_eq_some_iff.1 hx).1;rw[ha k x (by omega) hx] at hd; cases hd
   ·exact⟨r,hr,Fj hd1 hx hy hd hdy⟩
  have hrr:row<0∨∃r:Nat,row=(r:Int)∧r+1<ps.length∧∃x,ps[r+1]? = some x∧oW x=true:=by
   rcases hrow with ⟨hr,ha⟩ | ⟨r,hr,y,hy,hdy⟩
   ·exact .inl (by omega)
   ·exact .inr ⟨r,hr,(List.getElem?_eq_some_iff.1 hy).1,y,hy,hdy⟩
  refine Ex.bG (P:=fun o=>match o with
   | .inl w=>∃h:List ig,w=.inl (h,false)
   | .inr s=>s.1.length=uI ls ps∧qU s.1) ?_ ?_ ?_
  ·refine Ex.bM (I:=fun i q s=>ps.drop i=q∧s.1.length+uI ls q=uI ls ps∧qU s.1∧((row<0→s.2=(i:Int))∧∀r:Nat,row=(r:Int)→(i≤r→s.2=(i:Int))∧(r+2≤i→s.2=(i:Int)-2+((fs.length:Int)-((ps.length:Int)-2)))∧(i=r+1→s.2=(r:Int)+((fs.length:Int)-((ps.length:Int)-2))))) ⟨rfl,by simp,trivial,fun _=>rfl,fun r _=>⟨fun _=>rfl,fun h=>by omega,fun h=>by omega⟩⟩ ?_ (fun s h=>⟨by simpa [uI] using h.2.1,h.2.2.1⟩);rintro i x q ⟨hs,at_⟩ ⟨hd,s1,s2,s3,s4⟩;obtain⟨g1,g2,g3,g4⟩:=jk hd;simp only[uI] at s1 s3 s4 ⊢;have hvs:uI ls ps≤400:=Nat.le_trans (LX ls ps) hcs;have hcx:=qA g4;refine Ex.tail ?_;refine .ite (fun JZ=>.pure (.inr ⟨_,rfl,fun w e=>by(cases e),fun s' e=>?_⟩)) (fun JZ=>?_)
   ·cases e;obtain⟨r,hr,hir⟩:=hnd i x g1 JZ;have hv:IE ls x=0:=by
     rw[Ir,hk x g4 JZ];have:Ur ls x=false:=by
      unfold oW at JZ; unfold Ur;simp only[Bool.and_eq_true,decide_eq_true_eq] at JZ;simp[JZ.2]
     simp[this,uI]
    refine⟨g2,by simp only; omega,s2,fun h=>by omega,fun r' hr'=>⟨fun h=>by omega,fun h=>?_,fun h=>by omega⟩⟩;have:=(s4 r hr).2.2 hir;simp only; omega
   have JZ:oW x=false:=by simpa using JZ
   refine .ite (fun hir=>?_) (fun hir=>?_)
   ·have hat:0≤at_∧at_<(fs.length:Int)∧(row<0→at_=(i:Int)):=by
     refine⟨?_,?_,fun h=>s3 h⟩
     ·rcases hrr with h | ⟨r,hr,hr2,y,hy,hdy⟩
      ·rw[s3 h]; omega
      ·have hB:=hB (by omega);obtain⟨a1,a2,a3⟩:=s4 r hr;rcases Nat.lt_or_ge r i with hlt | hle
       ·rcases Nat.lt_or_ge (r+1) i with hl2 | hl2
        ·rw[a2 hl2]; omega
        ·rw[a3 (by omega)]; omega
       ·rw[a1 hle]; omega
     ·rcases hrr with h | ⟨r,hr,hr2,y,hy,hdy⟩
      ·have:=hA h; rw[s3 h]; omega
      ·have hB:=hB (by omega);obtain⟨a1,a2,a3⟩:=s4 r hr;rcases Nat.lt_or_ge r i with hlt | hle
       ·rcases Nat.lt_or_ge (r+1) i with hl2 | hl2
        ·rw[a2 hl2]; omega
        ·obtain rfl:i=r+1:=by omega
         rw[g1] at hy; cases hy;rw[hdy] at JZ; cases JZ
       ·rw[a1 hle]; omega
    obtain⟨e,he,hem⟩:=bY hat.1 hat.2.1;refine .bp e he (.bind (hm x g4 JZ e (hfs e hem)) fun k24 zG=>?_);refine .ite (fun _=>.pure (.inl ⟨_,rfl,fun w e=>by cases e; exact⟨_,rfl⟩,fun s' e=>by cases e⟩)) (fun hk2=>?_);obtain⟨m1,m2⟩:=zG (by simpa using hk2);refine .bp _ (dI (by omega)) (.pure (.inr ⟨_,rfl,fun w e=>by(cases e),fun s' e=>?_⟩));cases e;rw[kQ hat.1 (by omega)];refine⟨g2,by simp only[List.length_append]; omega,zX s2 m2,fun h=>?_,fun r hr=>?_⟩
    ·have:=s3 h; simp only; omega
    ·obtain⟨a1,a2,a3⟩:=s4 r hr;have hne:i≠r:=fun e=>hir (by rw[hr,e]);have hne2:i≠r+1:=fun e=>by
      rcases hrr with h | ⟨r',hr',hr2,y,hy,hdy⟩
      ·omega
      ·obtain rfl:r=r':=by omega
       rw[← e,g1] at hy; cases hy;rw[hdy] at JZ; cases JZ
     simp only;exact⟨fun h=>by have:=a1 (by omega); omega,fun h=>by have:=a2 (by omega); omega,fun h=>by omega⟩
   ·have hir:(i:Int)=row:=by simpa using hir
    have ha:=(s4 i hir.symm).1 (Nat.le_refl i);have hB:=hB (by omega);have hi2:i+1<ps.length:=by
     rcases hrr with h | ⟨r,hr,hr2,y,hy,hdy⟩
     ·omega
     ·omega
    subst ha;refine Ex.iter (μ:=fun s=>s.2.2.toNat) (I:=fun s=>0≤s.2.2∧s.1+s.2.2=(i:Int)+((fs.length:Int)-((ps.length:Int)-2))∧(i:Int)≤s.1∧(s.2.1.length:Int)=s.1-(i:Int)∧∀r∈s.2.1,r.length=IE ls x∧qU r) _ ⟨by simp only; omega,by simp only,by simp only; omega,by simp,by simp⟩ ?_;rintro ⟨a,rows,c⟩ ⟨c1,c2,c3,c4,c5⟩;simp only at c1 c2 c3 c4 c5 ⊢;refine .ite (fun hc=>?_) (fun hc=>?_)
    ·obtain⟨e,he,hem⟩:=bY (l:=fs) (i:=a) (by omega) (by omega);refine .bp e he (.bind (hm x g4 JZ e (hfs e hem)) fun k32 Dp=>?_);refine .ite (fun _=>.fo (.inl ⟨_,rfl,fun w e=>by cases e; exact⟨_,rfl⟩,fun s' e=>by cases e⟩)) (fun hk2=>?_);have Dp:=Dp (by simpa using hk2);refine .bp _ (dI (by simp; omega)) (.fg ⟨?_,by simp only; rw[SE (by omega) (by omega)]; omega⟩);simp only;rw[kQ (by omega) (by omega),SE (by omega) (by omega)];refine⟨by omega,by omega,by omega,by simp; omega,fun r hr=>?_⟩;rcases List.mem_append.1 hr with hr | hr
     ·exact c5 r hr
     ·rw[List.mem_singleton.1 hr]; exact Dp
    ·refine .bind (Zh x (by omega) ls rows (by omega) c5) fun EU La=>.bp _ (dI (by omega)) (.fo (.inr ⟨_,rfl,fun w e=>by(cases e),fun s' e=>?_⟩));cases e;refine⟨g2,by simp only[List.length_append]; omega,zX s2 La.2,fun h=>by omega,fun r hr=>?_⟩;obtain rfl:i=r:=by omega
     exact⟨fun h=>by omega,fun h=>by omega,fun _=>by simp only; omega⟩
  ·rintro w ⟨h,rfl⟩;exact⟨fun w e=>by cases e; simp[mtR],fun s' e=>by cases e⟩
  ·rintro s ⟨h1,h2⟩;exact .fo fun _=>⟨h1,h2⟩
theorem J4 (bs:List Bind) (hb:bs.length≤1000000) (ls:List Form) (p:Form) (hv:∃d,Jf d p=true) (hsh:UL p) (hp:cF p≤401) (f:Form) (hf:yT f):Ex (fun n=>gZ n bs p ls f) (mtR ls (IE ls p)):=by
 obtain⟨d,hv⟩:=hv;obtain⟨e,_,v1,v2,v3,v4,v5⟩:=Et hv;obtain⟨q1,q2,q3,q4⟩:=Xw.1 hsh;have he:=qQ p;refine .succ ?_;simp only[gZ];refine .ite (fun h1=>?_) (fun h1=>?_)
 ·have hkn:=v3 (.inl h1);have hva:IE ls p=if Ur ls p=true then 1 else 0:=by rw[Ir,hkn]; simp[uI]
  refine .ite (fun h2=>.pure fun _=>⟨?_,trivial⟩) (fun h2=>.bv (LW ls p) (.ite (fun h3=>?_) (fun h3=>?_)))
  ·rw[hva]; simp[Ur,h2]
  ·exact Ex.bind (P:=fun _=>True) (.ite (fun _=>.bind (Xu bs hb p f) fun k _=>.pure trivial) (fun _=>.pure trivial)) (fun o _=>.pure fun _=>⟨by rw[hva]; simp[Ur,h3],trivial⟩)
  ·refine .bp _ (dI (by simp)) (.pure fun _=>⟨?_,Iw.2 ⟨hf,by simp,trivial⟩,trivial⟩);have hn:¬p.name=[46,46,46]:=fun e=>by
    unfold oW at q1;simp[h1,e] at q1
   rw[hva]; simp[Ur,h1,h2,h3,hn]
 ·have hva:IE ls p=uI ls p.kids:=by rw[Ir]; simp[Ur,h1]
  refine .ite (fun h2=>.bv (yx p f) (.pure fun _=>⟨?_,trivial⟩)) (fun h2=>.ite (fun _=>.pure (by simp[mtR])) (fun _=>?_))
  ·rw[hva,v3 (.inr h2)]; rfl
  ·rw[hva];refine .bind (Xy bs ls p.kids f.kids (by omega) (fun x hx hd=>?_) (fun x hx=>hf.kid hx) hf.len q3 q4 (fun x hx hd g hg=>J4 bs hb ls x ⟨e,v5 x hx⟩ (Iu.1 q2 x hx hd) (by have:=qA hx; omega) g hg)) fun k hk=>.pure hk;obtain⟨_,_,_,_,w3,_,_⟩:=Et (v5 x hx);unfold oW at hd;simp only[Bool.and_eq_true,decide_eq_true_eq] at hd;exact w3 (.inl hd.1)
termination_by SizeOf.sizeOf p
decreasing_by exact jB hx
mutual
def O7 (v:Form):Form→Bool
 | ⟨k,nm,n,sc,kids⟩=>(decide (k=1)&&iF ⟨k,nm,n,sc,kids⟩ v)||Xz v kids
def Xz (v:Form):List Form→Bool
 | []=>false
 | x::r=>O7 v x||Xz v r
end
theorem abB (v f:Form):O7 v f=((decide (f.kind=1)&&iF f v)||Xz v f.kids):=by cases f; simp only[O7]
theorem OT (v:Form):∀l:List Form,Xz v l=l.any (O7 v)
 | []=>rfl
 | x::r=>by simp only[Xz,List.any_cons,OT v r]
theorem Iy (f v:Form):fV (fun n=>nX n f v) (O7 v f):=by
 refine .succ ?_;simp only[nX];rw[abB,OT];refine Ex.AQ ?_;refine Ex.bind (P:=fun o=>o=(decide (f.kind=1)&&iF f v)) (.ite (fun h=>.bv (yx f v) (.pure (by simp[h]))) (fun h=>.pure (by simp[h]))) ?_;rintro o rfl;cases (decide (f.kind=1)&&iF f v) with
 | true=>exact .pos rfl (.pure rfl)
 | false=>
  refine .neg (by simp) ?_;simp only[Bool.false_or];exact Ex.anyI (m:=fun n x=>nX n x v) (p:=O7 v) (fun x hx=>Iy x v) (fun h=>h.symm) (fun h=>.pure h.symm)
termination_by SizeOf.sizeOf f
decreasing_by exact jB hx
theorem XA (f:Form) (hs:List ig) (hh:qU hs) (hl:hs.length≤1000):Ex (fun n=>ug n f hs) (fun r=>r≤1000∧(0≤r→∀h∈hs,¬h.depth=0→O7 h.name f=true→r=(h.many.length:Int))):=by
 unfold ug;refine Ex.iter (μ:=fun s=>((hs.length:Int)-s.2).toNat) (I:=fun s=>0≤s.2∧s.2≤(hs.length:Int)∧-1≤s.1∧s.1≤1000∧∀(j:Nat) h,(j:Int)<s.2→hs[j]? = some h→¬h.depth=0→O7 h.name f=true→s.1=(h.many.length:Int)) ((-1),0) ⟨by simp,by simp,by simp,by simp,fun j h hj=>by simp only at hj; omega⟩ ?_;rintro ⟨c,i⟩ ⟨h0,h1,h2,h3,h4⟩;simp only at h0 h1 h2 h3 h4 ⊢;refine .ite (fun hlt=>?_) (fun hge=>?_)
 ·obtain⟨e,he,hem⟩:=bY h0 hlt;have hml:=(Iw.1 (oU.1 hh e hem)).2.1;have hg:∀(j:Nat) h,¬(j:Int)<i→(j:Int)<i+1→hs[j]? = some h→h=e:=fun j h hn hj hx=>by
   obtain rfl:i=(j:Int):=by omega
   rw[dV hx] at he; exact Option.some.inj he
  refine Ex.bG (P:=fun(o:(Int⊕(Int×Int))⊕Int)=>match o with
   | .inl w=>w=.inl (-1)
   | .inr c'=>-1≤c'∧c'≤1000∧∀(j:Nat) h,(j:Int)<i+1→hs[j]? = some h→¬h.depth=0→O7 h.name f=true→c'=(h.many.length:Int)) ?_ ?_ ?_
  ·refine Ex.bind (P:=fun o=>o=true↔(e.depth=0∨O7 e.name f=false)) (.bp e he (.ite (fun hd=>Ex.pure (v:=true) ⟨fun _=>.inl hd,fun _=>rfl⟩) (fun hd=>.bv (Iy f e.name) (Ex.pure (v:=!O7 e.name f) ⟨fun h=>.inr (by simpa using h),fun h=>h.elim (fun h=>absurd h hd) (fun h=>by simp[h])⟩)))) ?_;intro o6 ho6;refine .ite (fun hc6=>.pure ⟨h2,h3,fun j h hj hx hd hu=>?_⟩) (fun hc6=>?_)
   ·by_cases hji:(j:Int)<i
    ·exact h4 j h hji hx hd hu
    ·obtain rfl:=hg j h hji hj hx;rcases ho6.1 hc6 with h | h
     ·exact absurd h hd
     ·rw[h] at hu; cases hu
   ·have hn:¬e.depth=0∧O7 e.name f=true:=by
     constructor
     ·intro h; exact hc6 (ho6.2 (.inl h))
     ·cases hu:O7 e.name f with
      | true=>rfl
      | false=>exact absurd (ho6.2 (.inr hu)) hc6
    refine Ex.bind (P:=fun o=>o=false→c<0∨c=(e.many.length:Int)) (.ite (fun hc0=>.bp e he (Ex.pure (v:=decide (¬c=(e.many.length:Int))) fun h=>.inr (by have h:=of_decide_eq_false h; omega))) (fun hc0=>.pure fun _=>.inl (by omega))) ?_;intro o8 ho8;refine .ite (fun _=>.pure rfl) (fun hc8=>.bp e he (.pure ⟨by omega,by omega,fun j h hj hx hd hu=>?_⟩));by_cases hji:(j:Int)<i
    ·have:=h4 j h hji hx hd hu;rcases ho8 (by simpa using hc8) with h | h <;> omega
    ·obtain rfl:=hg j h hji hj hx;rfl
  ·rintro w rfl;exact⟨fun w e=>by cases e; exact⟨by omega,fun h=>by omega⟩,fun s' e=>by cases e⟩
  ·rintro c' ⟨q1,q2,q3⟩;rw[kQ h0 (by omega)];exact .fg ⟨⟨by simp only; omega,by simp only; omega,q1,q2,q3⟩,by simp only; omega⟩
 ·refine .fo ⟨h3,fun _ h hm=>?_⟩;obtain⟨j,hj,rfl⟩:=List.mem_iff_getElem.1 hm;exact h4 j _ (by omega) (List.getElem?_eq_getElem hj)
theorem abC (f:Form) (hs:List ig) (hh:qU hs) (hl:hs.length≤1000) (i:Int) (h0:0≤i) (hi:∀h∈hs,h.depth>0→O7 h.name f=true→i<(h.many.length:Int)):Ex (fun n=>zO n f hs i) (fun r=>r.length=hs.length∧qU r):=by
 unfold zO;refine Ex.iter (μ:=fun s=>((hs.length:Int)-s.2).toNat) (I:=fun s=>0≤s.2∧s.2≤(hs.length:Int)∧(s.1.length:Int)=s.2∧qU s.1) ([],0) ⟨by simp,by simp,by simp,by simp[qU]⟩ ?_;rintro ⟨s,j⟩ ⟨s0,s1,s2,s3⟩;simp only at s0 s1 s2 s3 ⊢;refine .ite (fun hlt=>?_) (fun hge=>.fo ⟨by omega,s3⟩);obtain⟨e,he,hem⟩:=bY s0 hlt;have hp:=oU.1 hh e hem;refine .bp e he (Ex.bind (P:=fun o=>o=true→e.depth>0∧O7 e.name f=true) (.ite (fun hd=>.bv (Iy f e.name) (.pure fun h=>⟨hd,h⟩)) (fun _=>.pure (by simp))) fun o6 ho6=>?_);refine Ex.bind (P:=fun o=>htP o) (.ite (fun hc=>?_) (fun _=>.pure hp)) fun o7 ho7=>.bp _ (dI (by simp; omega)) (.fg ⟨⟨?_,?_,?_,zX s3 ⟨ho7,trivial⟩⟩,?_⟩)
 ·obtain⟨g1,g2⟩:=ho6 hc;obtain⟨z,hz,hzm⟩:=bY h0 (hi e hem g1 g2);exact .bp z hz (.pure (oU.1 (Iw.1 hp).2.2 z hzm))
 all_goals
  simp only;rw[kQ (by omega) (by omega)]
  try simp only[List.length_append,List.length_cons,List.length_nil]
  omega
theorem DN:∀{a b:List Form},jD (a++b)=jD a+jD b
 | [],b=>by simp[jD]
 | x::r,b=>by simp only[List.cons_append,jD,DN (a:=r)]; omega
theorem SK (p:Form) (hp:yT p) (hs:List ig) (hh:qU hs) (hl:hs.length≤1000):Ex (fun n=>sD n p hs) (fun r=>yT r.1):=by
 have hlk:=hp.len;obtain⟨p1,p2,p3⟩:=yB.1 hp.1;refine .succ ?_;simp only[sD,DK,Option.bind_some];refine Ex.bind (P:=fun o=>o=-1∨0≤o∧o<(hs.length:Int)) (.ite (fun _=>.bind (OM hs p) fun k hk=>.pure hk) (fun _=>.pure (.inl rfl))) ?_;intro o ho;refine .ite (fun h0=>?_) (fun _=>.bp _ (nC (by omega)) ?_)
 ·obtain⟨e,he,hem⟩:=bY (l:=hs) (i:=o) h0 (by omega);have hone:=(Iw.1 (oU.1 hh e hem)).1;exact .bp e he (.bv (LV hone) (.pure hone))
 refine Ex.bG (P:=fun r=>match r with
  | .inl w=>w=(p,false)
  | .inr s=>jD s.2≤400∧zW 26 s.2) ?_ (fun w h=>by have h:w=(p,false):=h; rw[h]; exact hp) (fun s h=>.pure ⟨yB.2 ⟨p1,p2,h.2⟩,by have:=h.1; rw[qQ]; simp only; omega⟩)
 refine Ex.bM (I:=fun i q s=>p.kids.drop i=q∧s.1=(jD s.2:Int)∧jD s.2≤400∧zW 26 s.2) ⟨rfl,rfl,by simp[jD],trivial⟩ ?_ (fun s h=>⟨h.2.2.1,h.2.2.2⟩);rintro i x q ⟨sum,out⟩ ⟨hd,h1,h2,h3⟩;simp only at h1 h2 h3 ⊢;obtain⟨_,g2,g3,hx⟩:=jk hd;refine Ex.tail ?_;refine .ite (fun _=>.pure (.inr ⟨_,rfl,fun w e=>by(cases e),fun s' e=>by cases e; exact⟨g2,h1,h2,h3⟩⟩)) (fun _=>?_);refine Ex.bind (P:=fun _=>True) (.ite (fun hc=>?_) (fun _=>.pure trivial)) ?_
 ·obtain⟨y,hy,_⟩:=bY (l:=p.kids) (i:=((i+1:Nat):Int)) (by omega) hc;exact .bp y hy (.pure trivial)
 intro YW _;refine Ex.bind (P:=fun c=>c≤1000∧(YW=true→0≤c→∀h∈hs,¬h.depth=0→O7 h.name x=true→c=(h.many.length:Int))) (.ite (fun _=>.bind (XA x hs hh hl) fun k hk=>.pure ⟨hk.1,fun _=>hk.2⟩) (fun hn=>.pure ⟨by omega,fun h=>absurd h hn⟩)) ?_;rintro c ⟨c1,c2⟩;refine .ite (fun _=>.pure (.inl ⟨_,rfl,fun w e=>by cases e; rfl,fun s' e=>by cases e⟩)) (fun hc0=>?_);refine Ex.iter (μ:=fun s=>(c-s.2.1).toNat) (I:=fun s=>0≤s.2.1∧s.2.1≤c∧s.1=(jD s.2.2:Int)∧jD s.2.2≤400∧zW 26 s.2.2) _ ⟨by simp,by simp only; omega,h1,h2,h3⟩ ?_;rintro ⟨t,m,w⟩ ⟨m0,m1,t1,t2,t3⟩;simp only at m0 m1 t1 t2 t3 ⊢;refine .ite (fun hlt=>?_) (fun _=>.fo (.inr ⟨_,rfl,fun w e=>by(cases e),fun s' e=>by cases e; exact⟨g2,t1,t2,t3⟩⟩));refine Ex.bind (P:=fun r=>r.length=hs.length∧qU r) (.ite (fun h18=>?_) (fun _=>.pure ⟨rfl,hh⟩)) ?_
 ·exact .bind (abC x hs hh hl m m0 (fun h hm hd hu=>by have:=c2 h18 (by omega) h hm (by omega) hu; omega)) fun k hk=>.pure hk
 rintro hs' ⟨l1,l2⟩;refine .bind (SK x (hp.kid hx) hs' l2 (by omega)) fun k25 zQ=>.bv (abw zQ) ?_;have hc25:=zQ.2;have hwl:=AL w;rw[t1,iV (by omega) (by omega)];refine Ex.bind (P:=fun o=>o=false→(jD w:Int)+(cF k25.1:Int)≤400) (.ite (fun _=>.pure (by simp)) (fun _=>.pure fun e=>by have e:=of_decide_eq_false e; omega)) ?_;intro o27 aft;refine .ite (fun _=>.fo (.inl ⟨_,rfl,fun w e=>by cases e; rfl,fun s' e=>by cases e⟩)) (fun hc27=>?_);have hle:=aft (by simpa using hc27);have hap:jD (w++[k25.1])=jD w+cF k25.1:=by rw[DN]; simp[jD]
 rw[kQ m0 (by omega)];exact .bp _ (dI (by simp; omega)) (.fg ⟨⟨by simp only; omega,by simp only; omega,by simp only[hap]; omega,by simp only[hap]; omega,Xn t3 ⟨zQ.1,trivial⟩⟩,by simp only; omega⟩)
termination_by SizeOf.sizeOf p
decreasing_by exact jB hx
theorem L8 (f:Form) (hw:wF f≤1000000000):fV (fun n=>gW n f) f:=by
 have he:=EN f;refine .succ ?_;simp only[gW];refine Ex.AQ (.bp _ (nC (by omega)) (.bv (a:=f.kids) ?_ (.pure (by cases f; rfl))));refine .succ ?_;simp only[iZ];refine Ex.AQ (.bv (Dh (m:=fun n x=>gW n x) (be:=80) (by omega) (fun x hx=>L8 x (by have:=Dc hx; omega))) (.pure rfl))
termination_by SizeOf.sizeOf f
decreasing_by exact jB hx
theorem XB (rs:List Rule) (h:QD rs):fV (fun n=>jc n rs) rs:=by
 have hl:=h.1;unfold jc;refine Ex.AQ (.bv (Dh (m:=fun n x=>mZ n x) (be:=160) (by omega) (fun x hx=>?_)) (.pure rfl));obtain⟨h1,h2⟩:=h.2 x hx;unfold mZ;exact Ex.AQ (.bv (L8 _ (by have:=h1.w; omega)) (.bv (L8 _ (by have:=h2.w; omega)) (.pure rfl)))
theorem OU (bs:List Bind) (hb:LY bs) (rs:List Rule) (hr:QD rs) (ls:List Form) (hl:L6 ls) (f:Form) (hf:yT f):Ex (fun n=>kZ n bs rs ls f) (fun r=>r.2=true→0≤r.1∧r.1<(rs.length:Int)∧(∀r∈rs,ruP r)∧∀e,gG rs r.1=some e→∃k,fV (fun n=>gZ n bs e.pattern ls f) k∧mtR ls (IE ls e.pattern) k∧k.2=true):=by
 have hbl:=hb.1;unfold kZ;refine Ex.bind (P:=fun o=>o=false→∀r∈rs,ruP r) (.bind (SG bs hb) fun k _=>.ite (fun _=>.pure (by simp)) (fun _=>.bind (OQ rs hr ls hl) fun k hk=>.ite (fun _=>.pure (by simp)) (fun hk'=>.bv (qj hf) (.pure fun _=>hk (by simpa using hk'))))) ?_;intro o ho;refine .ite (fun _=>.pure (by simp)) (fun hc=>?_);have hp:=ho (by simpa using hc);refine Ex.bG (P:=fun o=>match o with
  | .inl w=>0≤w.1∧w.1<(rs.length:Int)∧∀e,gG rs w.1=some e→∃k,fV (fun n=>gZ n bs e.pattern ls f) k∧mtR ls (IE ls e.pattern) k∧k.2=true
  | .inr _=>True) ?_ (fun w h _=>⟨h.1,h.2.1,hp,h.2.2⟩) (fun _ _=>.pure (by simp))
 refine Ex.bM (I:=fun i q s=>rs.drop i=q) rfl ?_ (fun _ _=>trivial);intro i x q s hd;obtain⟨g1,g2,g3,hx⟩:=jk hd;obtain⟨q1,q2,q3⟩:=hp x hx;have hv:=Xq q1;unfold gK at q1;rw[Bool.and_eq_true] at q1;obtain⟨k,k1,k2⟩:=J4 bs (by omega) ls x.pattern ⟨40,q1.1⟩ q2 (by have:=hv.2; omega) f hf;refine .bv k1 (.ite (fun hk=>.fo ⟨by simp only; omega,by simp only; omega,fun e he=>?_⟩) (fun _=>.fg g2));rw[dV ‹rs[i]? = some x›] at he;cases he;exact⟨k,k1,k2,hk⟩
theorem XC (bs:List Bind) (hb:LY bs) (rs:List Rule) (hr:QD rs) (ls:List Form) (hl:L6 ls) (f:Form) (hf:yT f):Ex (fun n=>ng n bs rs ls f) (fun r=>r.2=true→gK r.1=true):=by
 have hbl:=hb.1;unfold ng;refine .bv (XB rs hr) (.bind (OU bs hb rs hr ls hl f hf) fun k2 hk2=>.ite (fun _=>.pure (by simp)) (fun hc=>?_));obtain⟨i0,i1,hp,hm⟩:=hk2 (by simpa using hc);obtain⟨e,he,hx⟩:=bY i0 i1;obtain⟨q1,q2,q3⟩:=hp e hx;obtain⟨k,m1,m2,m3⟩:=hm e he;obtain⟨m4,m5⟩:=m2 m3;have hv:=(Xq q1).2;have hvl:=Cc ls e.pattern;refine .bp e he (.bv m1 (.bind (SK e.template (hr.2 e hx).2 k.1 m5 (by omega)) fun k6 hk6=>?_));refine Ex.bind (P:=fun o=>o=false→gK k6.1=true) (.ite (fun _=>.pure (by simp)) (fun _=>.bv (qj hk6) (Ex.pure (v:=!gK k6.1) fun h=>by simpa using h))) ?_;intro o7 ho7;exact .ite (fun _=>.pure (by simp)) (fun Ja=>.pure fun _=>ho7 (by simpa using Ja))
theorem XD (f:Form) (hf:yT f):Ex (fun n=>ni n f) (fun r=>r.2.2=true→L6 r.1∧QD r.2.1):=by
 have hl:=hf.len;unfold ni;refine Ex.bind (P:=fun o=>o=false→2≤f.kids.length) (.bv (qj hf) (.ite (fun _=>.pure (by simp)) (fun _=>.ite (fun _=>.pure (by simp)) (fun _=>.ite (fun _=>.pure (by simp)) (fun h2=>?_))))) ?_
 ·obtain⟨e,he,_⟩:=bY (l:=f.kids) (i:=0) (by omega) (by omega);obtain⟨e',he',_⟩:=bY (l:=f.kids) (i:=1) (by omega) (by omega);exact .bp e he (.ite (fun _=>.pure (by simp)) (fun _=>.bp e' he' (.pure fun _=>by omega)))
 intro o ho;refine .ite (fun _=>.pure (by simp)) (fun hc=>?_);have h2:=ho (by simpa using hc);obtain⟨e1,he1,hm1⟩:=bY (l:=f.kids) (i:=1) (by omega) (by omega);have s1:=hf.kid hm1;have l1:=s1.len;refine Ex.iter (μ:=fun s=>((e1.kids.length:Int)-s.2).toNat) (I:=fun s=>0≤s.2∧s.2≤(e1.kids.length:Int)∧(s.1.length:Int)=s.2∧∀x∈s.1,yT x) ([],0) ⟨by simp,by simp,by simp,by simp⟩ ?_;rintro ⟨s,i⟩ ⟨i0,i1,i2,i3⟩;simp only at i0 i1 i2 i3 ⊢;refine .bp e1 he1 (.ite (fun hlt=>?_) (fun hge=>?_))
 ·obtain⟨e,he,hem⟩:=bY i0 hlt;have hse:=s1.kid hem;refine .bp e he (.bv (LV hse) (.bp _ (dI (by simp; omega)) (.fg ⟨⟨?_,?_,?_,fun x hx=>?_⟩,?_⟩)))
  all_goals try simp only
  all_goals try rw[kQ (by omega) (by omega)]
  ·omega
  ·omega
  ·simp; omega
  ·rcases List.mem_append.1 hx with hx | hx
   ·exact i3 x hx
   ·rw[List.mem_singleton.1 hx]; exact hse
  ·omega
 ·have hli:L6 s:=⟨by omega,i3⟩
  refine Ex.iter (μ:=fun s=>((f.kids.length:Int)-s.2).toNat) (I:=fun s=>0≤s.2∧s.2≤(f.kids.length:Int)∧(s.1.length:Int)≤s.2∧∀x∈s.1,abz x) ([],2) ⟨by simp,by simp only; omega,by simp,by simp⟩ ?_;rintro ⟨t,j⟩ ⟨j0,j1,j2,j3⟩;simp only at j0 j1 j2 j3 ⊢;refine .ite (fun hlt=>?_) (fun hge=>?_)
  ·obtain⟨e,he,hem⟩:=bY j0 hlt;have hse:=hf.kid hem;refine Ex.bind (P:=fun o=>o=false→e.kids.length=2) (.bp e he (.ite (fun _=>.pure (by simp)) (fun _=>.pure (by simp; omega)))) ?_;intro Az afu;refine .ite (fun _=>.fo ⟨fun w e=>by cases e; simp,fun s' e=>by cases e⟩) (fun tV=>?_);have h22:=afu (by simpa using tV);obtain⟨a,ha,ham⟩:=bY (l:=e.kids) (i:=0) (by omega) (by omega);obtain⟨b,hb,hbm⟩:=bY (l:=e.kids) (i:=1) (by omega) (by omega);have sa:=hse.kid ham;have sb:=hse.kid hbm;refine .bp e he (.bp a ha (.bv (LV sa) (.bp b hb (.bv (LV sb) (.bp _ (dI (by simp; omega)) (.fg ⟨⟨?_,?_,?_,fun x hx=>?_⟩,?_⟩))))))
   all_goals try simp only
   all_goals try rw[kQ (by omega) (by omega)]
   ·omega
   ·omega
   ·simp; omega
   ·rcases List.mem_append.1 hx with hx | hx
    ·exact j3 x hx
    ·rw[List.mem_singleton.1 hx]; exact⟨sa,sb⟩
   ·omega
  ·have hrs:QD t:=⟨by omega,j3⟩
   exact .bind (OQ t hrs s hli) fun k _=>.ite (fun _=>.fo ⟨fun w e=>by cases e; simp,fun s' e=>by cases e⟩) (fun _=>.fo ⟨fun w e=>by cases e; exact fun _=>⟨hli,hrs⟩,fun s' e=>by cases e⟩)
def Eu (f:Form):Prop:=O6 24 f∧cF f≤400
theorem Eu.sm {f:Form} (h:Eu f):yT f:=⟨DJ (by omega) f h.1,by have:=h.2; omega⟩
theorem Eu.kid {f x:Form} (h:Eu f) (hx:x∈f.kids):Eu x:=⟨qR.1 (yB.1 h.1).2.2 x hx,by have:=qA hx; have:=qQ f; have:=h.2; omega⟩
theorem Ce {f:Form} (h:gK f=true):Eu f:=by
 unfold gK at h;simp only[Bool.and_eq_true,decide_eq_true_eq] at h;exact⟨Xp h.1,h.2⟩
theorem Ci {f:Form} (h:Eu f) (x w:Int):Ex (fun n=>eU n f x w) (fun r=>yT r∧cF r=cF f∧r.kind=f.kind):=
 (OJ f 24 (by omega) h.1 (by have:=h.2; omega) x w).mono fun r ⟨h1,h2,h3⟩=>⟨⟨DJ (by omega) r h1,by have:=h.2; omega⟩,h2,h3⟩
theorem XE {α:Type} {l:List α} {x:α} (h:l[0]? = some x):gG l 0=some x:=dV (i:=0) h
theorem OV {α:Type} {l:List α} {x:α} (h:l[1]? = some x):gG l 1=some x:=dV (i:=1) h
theorem XF {α:Type} {l:List α} {x:α} (h:l[2]? = some x):gG l 2=some x:=dV (i:=2) h
def afv (m:Macro):Prop:=L6 m.literals∧QD m.rules
def uz (e:Expansion):Prop:=LY e.binds∧e.binds.length≤60∧e.macros.length≤e.binds.length∧(∀m∈e.macros,afv m)∧0≤e.steps∧e.steps≤60
theorem OW (f:Form) (hw:wF f≤1000000):Ex (fun n=>gV n f) (fun r=>wF r≤wF f):=by
 have he:=EN f;refine .succ ?_;simp only[gV];refine .bind (Ex.adi (m:=fun n y=>gV n y) (R:=fun x y=>wF y≤wF x) (by omega) (fun y hy=>OW y (by have:=Dc hy; omega))) fun m hm=>.pure ?_;have:∀{l m:List Form},OE (fun x y=>wF y≤wF x) l m→pq m≤pq l∧m.length=l.length:=by
  intro l
  induction l with
  | nil=>intro m h; cases m with
   | nil=>simp
   | cons _ _=>cases h
  | cons x l ih=>intro m h; cases m with
   | nil=>cases h
   | cons y m=>have:=ih h.2; have:=h.1; simp only[pq,List.length_cons]; omega
 have:=this hm;rw[EN]; simp only[List.length_nil]; omega
termination_by SizeOf.sizeOf f
decreasing_by exact jB hy
def Uw (ms:List Macro) (id:Int):Option Int:=bG (bM (fun(s2:Unit) (i1:Nat) (x4:Macro)=>((if x4.id=id then some (Sum.inl (i1:Int)) else some (Sum.inr ())):Option (Int⊕Unit))) 0 ms ()) (fun(s2:Unit)=>some (-1))
theorem XG (n:Nat) (e:Expansion) (id:Int):uh n e id=Uw e.macros id:=rfl
theorem abD (ms:List Macro) (id:Int):∃k,Uw ms id=some k∧(k=-1∨0≤k∧k<(ms.length:Int)):=by
 have:Ex (fun _=>Uw ms id) (fun k=>k=-1∨0≤k∧k<(ms.length:Int)):=by
  unfold Uw;refine Ex.bG (P:=fun o=>match o with
   | .inl w=>0≤w∧w<(ms.length:Int)
   | .inr _=>True) ?_ (fun w h=>.inr h) (fun _ _=>.pure (.inl rfl))
  refine Ex.bM (I:=fun i q s=>ms.drop i=q) rfl ?_ (fun _ _=>trivial);intro i x q s hd;obtain⟨_,g2,g3,_⟩:=jk hd;exact .ite (fun _=>.fo ⟨by omega,by omega⟩) (fun _=>.fg g2)
 obtain⟨k,⟨N,h⟩,h2⟩:=this;exact⟨k,h N (Nat.le_refl N),h2⟩
theorem SL (e:Expansion) (h:uz e) (f:Form):Ex (fun n=>lq n e f) (fun r=>r.1=2→∃k,Uw e.macros r.2=some k∧0≤k∧k<(e.macros.length:Int)):=by
 have hb:=h.1.1;unfold lq;refine .bind (LZ e.binds (by omega) f) fun k1 hk1=>.ite (fun _=>.pure (by simp)) (fun h0=>.ite (fun _=>.pure (by simp)) (fun h2=>?_));have p1:0≤k1.1∧k1.1<(e.binds.length:Int):=hk1.elim (fun h=>absurd h h0) (fun h=>h.elim (fun h=>absurd h h2) id);obtain⟨b,hb,_⟩:=bY p1.1 p1.2;refine .bp b hb (.ite (fun _=>.pure (by simp)) (fun _=>?_));obtain⟨k,hk,hk2⟩:=abD e.macros b.id;simp only[XG];refine .bp k hk (.ite (fun hk0=>.pure fun _=>⟨k,hk,hk0,by omega⟩) (fun _=>.pure (by simp)))
def xR (e:Expansion) (b:Nat) (r:Expansion×Core×Int):Prop:=uz r.1∧e.steps≤r.1.steps∧((wC r.2.1:Nat):Int)+1≤20500*(b:Int)+8220500*(r.1.steps-e.steps)
def afw (e:Expansion) (b:Nat) (r:Expansion×List Core×Int):Prop:=uz r.1∧e.steps≤r.1.steps∧((yO r.2.1+r.2.1.length:Nat):Int)≤20500*(b:Int)+8220500*(r.1.steps-e.steps)
theorem wzC:wC ⟨0,0,[],0,[],⟨0,[],0,[],[]⟩,[]⟩=0:=by simp[wC,yO,wF,pq]
theorem xR.z {e e':Expansion} {b:Nat} {k:Int} (h:uz e') (hs:e.steps≤e'.steps) (hb:1≤b):xR e b (e',(⟨0,0,[],0,[],⟨0,[],0,[],[]⟩,[]⟩:Core),k):=⟨h,hs,by simp only[wzC]; omega⟩
theorem Zi (e:Expansion) (h:uz e) (f:Form) (hf:f.name.length≤12):Ex (fun n=>wW n e f) (xR e 1):=by
 unfold wW;refine .bind (SL e h f) fun k _=>.ite (fun _=>.pure ⟨h,by simp,?_⟩) (fun _=>.ite (fun _=>.pure ⟨h,by simp,?_⟩) (fun _=>.ite (fun _=>.pure (.z h (by simp) (by omega))) (fun _=>.pure (.z h (by simp) (by omega)))))
 ·simp[wC,yO,wF,pq]; omega
 ·simp[wC,yO,wF,pq]
theorem SN (e:Expansion) (h:uz e) (f:Form) (hf:yT f):Ex (fun n=>sF n e f) (fun r=>uz r.1∧r.1.steps=e.steps∧(r.2=0→r.1.macros.length<r.1.binds.length)):=by
 obtain⟨h1,h2,h3,h4,h5,h6⟩:=h;unfold sF;refine .ite (fun _=>.pure ⟨⟨h1,h2,h3,h4,h5,h6⟩,rfl,by simp⟩) (fun hn=>.bind (Zf e.binds h1 (by omega) f hf _) fun k hk=>.ite (fun _=>.pure ⟨⟨h1,h2,h3,h4,h5,h6⟩,rfl,by simp⟩) (fun hc=>?_));obtain⟨k1,k2⟩:=hk (by simpa using hc);exact .pure ⟨⟨k1,by simp only; omega,by simp only; omega,h4,h5,h6⟩,rfl,fun _=>by simp only; omega⟩
theorem Zj (e:Expansion) (h:uz e) (f:Form) (hf:Eu f) (id a3:Int) (ha:a3≤60) (hm:∃k,Uw e.macros id=some k∧0≤k∧k<(e.macros.length:Int)):Ex (fun n=>wV n e f id a3) (fun r=>uz r.1∧e.steps≤r.1.steps∧(r.2.2=0→r.1.steps=e.steps+1∧e.steps<a3∧Eu r.2.1)):=by
 obtain⟨h1,h2,h3,h4,h5,h6⟩:=h;obtain⟨k,hk,k0,k1⟩:=hm;unfold wV kM;refine .ite (fun _=>.pure ⟨⟨h1,h2,h3,h4,h5,h6⟩,by simp,by simp⟩) (fun hs=>?_);simp only[Option.bind_some,XG];refine .ite (fun _=>.pure ⟨⟨h1,h2,h3,h4,h5,h6⟩,by simp,by simp⟩) (fun _=>?_);obtain⟨m,hmm,hmem⟩:=bY k0 k1;obtain⟨m1,m2⟩:=h4 m hmem;have hw:aT (e.steps+1)=e.steps+1:=kQ h5 (by omega);simp only[hw];have good:uz ⟨e.binds,e.macros,aT (e.scope+1),e.id,e.steps+1⟩:=⟨h1,h2,h3,h4,by simp only; omega,by simp only; omega⟩
 refine .bp k hk (.bp m hmm (.bind (Ci hf _ _) fun k6 ⟨s6,_,_⟩=>.bv (qj s6) (.ite (fun _=>.pure ⟨good,by simp only; omega,by simp⟩) (fun _=>.bind (OU e.binds h1 m.rules m2 m.literals m1 k6 s6) fun k9 _=>.ite (fun _=>.pure ⟨good,by simp only; omega,by simp⟩) (fun _=>.bind (XC e.binds h1 m.rules m2 m.literals m1 k6 s6) fun k11 BO=>.ite (fun _=>.pure ⟨good,by simp only; omega,by simp⟩) (fun hc=>?_))))));refine .bind (Ci (Ce (BO (by simpa using hc))) _ _) fun k13 ⟨s13,_,_⟩=>.bv (qj s13) (.ite (fun _=>.pure ⟨good,by simp only; omega,by simp⟩) (fun hv=>.pure ⟨good,by simp only; omega,fun _=>⟨rfl,by omega,Ce (by simpa using hv)⟩⟩))
def PX (m c:Nat):Prop:=∀(e:Expansion) (a3:Int) (f:Form),uz e→a3≤60→(a3-e.steps).toNat≤m→Eu f→cF f≤c→Ex (fun n=>iC n e f a3) (xR e (cF f))
theorem SQ:∀{a b:List Core},yO (a++b)=yO a+yO b
 | [],b=>by simp[yO]
 | x::r,b=>by simp only[List.cons_append,yO,SQ (a:=r)]; omega
theorem QE {m c:Nat} (hp:PX m c) (e:Expansion) (h:uz e) (fs:List Form) (hfs:∀x∈fs,Eu x∧cF x≤c) (hl:fs.length≤400) (a3:Int) (ha:a3≤60) (hm:(a3-e.steps).toNat≤m):Ex (fun n=>qO n e fs a3) (afw e (jD fs)):=by
 refine .succ ?_;simp only[qO];refine Ex.iter (μ:=fun s=>((fs.length:Int)-s.2.1).toNat) (I:=fun s=>∃(j:Nat) (p q:List Form),s.2.1=(j:Int)∧p++q=fs∧p.length=j∧s.1.length=j∧uz ⟨s.2.2.1,s.2.2.2.1,s.2.2.2.2.1,s.2.2.2.2.2.1,s.2.2.2.2.2.2⟩∧e.steps≤s.2.2.2.2.2.2∧((yO s.1+s.1.length:Nat):Int)≤20500*(jD p:Int)+8220500*(s.2.2.2.2.2.2-e.steps)) _ ⟨0,[],fs,rfl,rfl,rfl,rfl,h,by simp,by simp[yO,jD]⟩ ?_;rintro ⟨cs,i,bs,ms,sc,id,st⟩ ⟨j,p,q,i1,i2,i3,i4,i5,i6,i7⟩;simp only at i1 i2 i3 i4 i5 i6 i7 ⊢;subst i1;have hpl:p.length+q.length=fs.length:=by rw[← i2]; simp
 have hsum:jD fs=jD p+jD q:=by rw[← i2,DN]
 refine .ite (fun hlt=>?_) (fun hge=>.fo ⟨i5,i6,by simp only; omega⟩);cases q with
 | nil=>simp only[List.length_nil] at hpl; omega
 | cons x q=>
  have hx:fs[j]? = some x:=by rw[← i2,← i3]; simp
  obtain⟨v1,v2⟩:=hfs x (List.mem_of_getElem? hx);have hle:=i5.2.2.2.2.2;have hle0:=i5.2.2.2.2.1;simp only at hle hle0;simp only[jD] at hsum;refine .bp x (dV hx) (.bind (hp _ a3 x i5 ha (by simp only; omega) v1 v2) fun k ⟨x1,x2,x3⟩=>?_);simp only at x2 x3;refine .ite (fun _=>.fo ⟨x1,by simp only; omega,by simp only; omega⟩) (fun _=>.bp _ (dI (by simp; omega)) (.fg ⟨⟨j+1,p++[x],q,by rw[kQ (by omega) (by omega)]; rfl,by rw[← i2]; simp,by simp[i3],by simp[i4],x1,by simp only; omega,?_⟩,?_⟩))
  ·have e1:yO (cs++[k.2.1])=yO cs+wC k.2.1:=by rw[SQ]; simp[yO]
   have e2:jD (p++[x])=jD p+cF x:=by rw[DN]; simp[jD]
   simp only[e1,e2,List.length_append,List.length_cons,List.length_nil];omega
  ·simp only;rw[kQ (by omega) (by omega)]; omega
theorem XH {m c:Nat} (hp:PX m c) (e:Expansion) (h:uz e) (ps:List Form) (hps:∀x∈ps,Eu x) (hl:ps.length≤400) (f:Form) (hf:Eu f) (hc:cF f≤c) (a3:Int) (ha:a3≤60) (hm:(a3-e.steps).toNat≤m):Ex (fun n=>uo n e ps f a3) (xR e (1+cF f)):=by
 refine .succ ?_;simp only[uo,kM,Option.bind_some];have h0:uz ⟨e.binds,e.macros,aT (e.scope+1),e.id,e.steps⟩:=h;refine .ite (fun _=>.pure (.z h0 (by simp) (by omega))) (fun _=>?_);refine Ex.bG (P:=fun(o:(Expansion×Core×Int)⊕((List Bind)×(List Macro)×Int×Int×Int×(List Int)))=>match o with
  | .inl w=>xR e (1+cF f) w
  | .inr s=>uz ⟨s.1,s.2.1,s.2.2.1,s.2.2.2.1,s.2.2.2.2.1⟩∧s.2.2.2.2.1=e.steps∧s.2.2.2.2.2.length≤400) ?_ (fun w h=>h) ?_
 ·refine Ex.bM (I:=fun i q s=>ps.drop i=q∧uz ⟨s.1,s.2.1,s.2.2.1,s.2.2.2.1,s.2.2.2.2.1⟩∧s.2.2.2.2.1=e.steps∧s.2.2.2.2.2.length=i) ⟨rfl,h0,rfl,rfl⟩ ?_ (fun s h=>⟨h.2.1,h.2.2.1,by rw[h.2.2.2]; exact hl⟩);rintro i x q ⟨bs,ms,sc,id,st,ids⟩ ⟨hd,s1,s2,s3⟩;simp only at s1 s2 s3 ⊢;obtain⟨_,g2,g3,hx⟩:=jk hd;refine .ite (fun _=>.fo (.z s1 (by simp only; omega) (by omega))) (fun _=>.bind (Ci (hps x hx) _ _) fun k13 ⟨q1,_,_⟩=>.bv (qj q1) (.ite (fun _=>.fo (.z s1 (by simp only; omega) (by omega))) (fun _=>.bind (SN _ s1 k13 q1) fun k16 ⟨b1,b2,_⟩=>?_)));simp only at b2;exact .ite (fun _=>.fo (.z b1 (by omega) (by omega))) (fun _=>.bp _ (dI (by simp; omega)) (.fg ⟨g2,b1,by simp only; omega,by simp; omega⟩))
 ·rintro ⟨bs,ms,sc,id,st,ids⟩ ⟨s1,s2,s3⟩;simp only at s1 s2 s3 ⊢;refine .bind (Ci hf _ _) fun k19 ⟨q1,q2,_⟩=>.bv (qj q1) (.ite (fun _=>.pure (.z s1 (by simp only; omega) (by omega))) (fun hv=>?_));refine .bind (hp _ a3 k19 s1 ha (by simp only; omega) (Ce (by simpa using hv)) (by omega)) fun k22 ⟨x1,x2,x3⟩=>.pure ⟨x1,by simp only at x2 ⊢; omega,?_⟩;simp only at x2 x3;simp only[wC,yO,wF,pq,List.length_nil,List.length_cons];omega
theorem Ux {m c:Nat} (hp:PX m c) (e:Expansion) (h:uz e) (ps vs:List Form) (hps:∀x∈ps,Eu x) (hvs:∀x∈vs,Eu x) (hl:ps.length≤400) (hlv:vs.length=ps.length) (f:Form) (hf:Eu f) (hc:cF f≤c) (a3:Int) (ha:a3≤60) (hm:(a3-e.steps).toNat≤m):Ex (fun n=>nY n e ps vs f a3) (xR e (1+cF f)):=by
 refine .succ ?_;simp only[nY,kM,Option.bind_some];have h0:uz ⟨e.binds,e.macros,aT (e.scope+1),e.id,e.steps⟩:=h;refine .ite (fun _=>.pure (.z h0 (by simp) (by omega))) (fun _=>?_);refine Ex.bG (P:=fun(o:(Expansion×Core×Int)⊕((List Bind)×(List Macro)×Int×Int×Int))=>match o with
  | .inl w=>xR e (1+cF f) w
  | .inr s=>uz ⟨s.1,s.2.1,s.2.2.1,s.2.2.2.1,s.2.2.2.2⟩∧s.2.2.2.2=e.steps) ?_ (fun w h=>h) ?_
 ·refine Ex.bM (I:=fun i q s=>ps.drop i=q∧uz ⟨s.1,s.2.1,s.2.2.1,s.2.2.2.1,s.2.2.2.2⟩∧s.2.2.2.2=e.steps) ⟨rfl,h0,rfl⟩ ?_ (fun s h=>⟨h.2.1,h.2.2⟩);rintro i x q ⟨bs,ms,sc,id,st⟩ ⟨hd,s1,s2⟩;simp only at s1 s2 ⊢;obtain⟨_,g2,g3,hx⟩:=jk hd;obtain⟨y,hy,hym⟩:=bY (l:=vs) (i:=(i:Int)) (by omega) (by omega);refine .bind (Ci (hps x hx) _ _) fun k12 ⟨q1,_,_⟩=>.bp y hy (.bind (Ci (hvs y hym) _ _) fun k14 ⟨r1,_,_⟩=>.ite (fun _=>.fo (.z s1 (by simp only; omega) (by omega))) (fun _=>?_));refine Ex.bind (P:=fun _=>True) (.bv (qj q1) (.ite (fun _=>.pure trivial) (fun _=>.bv (qj r1) (.pure trivial)))) ?_;intro o _;refine .ite (fun _=>.fo (.z s1 (by simp only; omega) (by omega))) (fun _=>.bind (XD k14 r1) fun k18 oV=>.ite (fun _=>.fo (.z s1 (by simp only; omega) (by omega))) (fun hc18=>.bind (SN _ s1 k12 q1) fun k20 ⟨b1,b2,b3⟩=>?_));simp only at b2;refine .ite (fun _=>.fo (.z b1 (by omega) (by omega))) (fun Lj=>?_);have b3:=b3 (by simpa using Lj);obtain⟨c1,c2,c3,c4,c5,c6⟩:=b1;have hm18:=oV (by simpa using hc18);refine .bp _ (nC (by omega)) (.bp _ (dI (by simp; omega)) (.fg ⟨g2,⟨c1,c2,by simp; omega,fun m hm=>?_,c5,c6⟩,by simp only; omega⟩));rcases List.mem_append.1 hm with hm | hm
  ·exact c4 m hm
  ·rw[List.mem_singleton.1 hm]; exact hm18
 ·rintro ⟨bs,ms,sc,id,st⟩ ⟨s1,s2⟩;simp only at s1 s2 ⊢;refine .bind (Ci hf _ _) fun k19 ⟨q1,q2,_⟩=>.bv (qj q1) (.ite (fun _=>.pure (.z s1 (by simp only; omega) (by omega))) (fun hv=>?_));refine .bind (hp _ a3 k19 s1 ha (by simp only; omega) (Ce (by simpa using hv)) (by omega)) fun k22 ⟨x1,x2,x3⟩=>.pure ⟨x1,by simp only at x2 ⊢; omega,?_⟩;simp only at x2 x3 ⊢;omega
theorem XI (f:Form) (hf:Eu f):Ex (fun n=>uj n f) (fun r=>(∀x∈r.1,Eu x)∧(∀x∈r.2.1,Eu x)∧r.1.length≤400∧r.2.1.length=r.1.length∧jD r.2.1+1≤cF f):=by
 have hl:=hf.sm.len;have hc:=qQ f;unfold uj;have main:Ex (fun n=>Mx.bM (fun(s2:(List Form)×(List Form)) (i1:Nat) (x4:Form)=>(Option.bind ((if ¬x4.kind=3 then some true else some (decide (¬(x4.kids.length:Int)=2))):Option (Bool)) (fun(kS:Bool)=>(if kS=true then some (Sum.inl (s2.1,s2.2,false)) else(gG x4.kids 0).bind fun e12=>(jJ 80 s2.1 [e12]).bind fun z13=>(gG x4.kids 1).bind fun e14=>(jJ 80 s2.2 [e14]).bind fun FC=>some (Sum.inr (z13,FC)))):Option (((List Form)×(List Form)×Bool)⊕((List Form)×(List Form))))) 0 f.kids ([],[])) (fun o=>match o with
   | .inl r=>(∀x∈r.1,Eu x)∧(∀x∈r.2.1,Eu x)∧r.1.length≤400∧r.2.1.length=r.1.length∧jD r.2.1+1≤cF f
   | .inr r=>(∀x∈r.1,Eu x)∧(∀x∈r.2,Eu x)∧r.1.length≤400∧r.2.length=r.1.length∧jD r.2+1≤cF f):=by
  refine Ex.bM (I:=fun i q r=>f.kids.drop i=q∧(∀x∈r.1,Eu x)∧(∀x∈r.2,Eu x)∧r.1.length=i∧r.2.length=i∧jD r.2+jD q+1≤cF f) ⟨rfl,by simp,by simp,rfl,rfl,by simp[jD]; omega⟩ ?_ (fun r h=>⟨h.2.1,h.2.2.1,by rw[h.2.2.2.1]; exact hl,by rw[h.2.2.2.1,h.2.2.2.2.1],by have:=h.2.2.2.2.2; simp only[jD] at this; omega⟩);rintro i x q ⟨a,b⟩ ⟨hd,a1,b1,a2,b2,b3⟩;simp only[jD] at a1 b1 a2 b2 b3 ⊢;obtain⟨_,g2,g3,hx⟩:=jk hd;have hxv:=hf.kid hx;refine Ex.bind (P:=fun o=>o=false→x.kids.length=2) (.ite (fun _=>.pure (by simp)) (fun _=>.pure (by simp; omega))) ?_;intro o ho;refine .ite (fun _=>.fo ⟨a1,b1,by simp only; omega,by simp only; omega,by simp only; omega⟩) (fun hc'=>?_);have h2:=ho (by simpa using hc');obtain⟨y,z,hyz⟩:∃y z,x.kids=[y,z]:=by
   match hk:x.kids,h2 with
   | [y,z],_=>exact⟨y,z,rfl⟩
  have hy:=hxv.kid (x:=y) (by simp[hyz]);have hz:=hxv.kid (x:=z) (by simp[hyz]);have hcx:cF x=1+(cF y+cF z):=by rw[qQ,hyz]; simp[jD]
  refine .bp y (XE (by simp[hyz])) (.bp _ (dI (by simp; omega)) (.bp z (OV (by simp[hyz])) (.bp _ (dI (by simp; omega)) (.fg ⟨g2,fun w hw=>?_,fun w hw=>?_,by simp; omega,by simp; omega,?_⟩))))
  ·rcases List.mem_append.1 hw with hw | hw
   ·exact a1 w hw
   ·rw[List.mem_singleton.1 hw]; exact hy
  ·rcases List.mem_append.1 hw with hw | hw
   ·exact b1 w hw
   ·rw[List.mem_singleton.1 hw]; exact hz
  ·simp only[DN,jD]; omega
 exact Ex.bG main (fun w h=>h) (fun t h=>.pure h)
theorem ado {α:Type} {l:List α} (h:1≤l.length):IZ l 1 (l.length:Int)=some (l.drop 1):=by
 unfold IZ;rw[if_pos (by omega)];congr 1;rw[List.take_of_length_le]
 ·rfl
 ·rw[Int.toNat_natCast,List.length_drop]; exact Nat.le_refl _
theorem XJ (l:List Form):jD (l.drop 1)≤jD l:=by
 cases l with
 | nil=>simp
 | cons x r=>simp only[List.drop_succ_cons,List.drop_zero,jD]; omega
theorem ln2 {l:List Form} (h:(l.length:Int)=2):∃a b,l=[a,b]:=by
 match l,h with
 | [a,b],_=>exact⟨a,b,rfl⟩
theorem ln3 {l:List Form} (h:(l.length:Int)=3):∃a b c,l=[a,b,c]:=by
 match l,h with
 | [a,b,c],_=>exact⟨a,b,c,rfl⟩
theorem ar1 {a s:Int} {m:Nat} (h:(a-s).toNat≤m) (h2:s<a):m-1<m:=by omega
theorem ar2 {a s t:Int} {m:Nat} (h:(a-s).toNat≤m) (h2:t=s+1):(a-t).toNat≤m-1:=by omega
theorem Zk {m c:Nat} (hp:PX m c) (e:Expansion) (h:uz e) (f:Form) (hf:Eu f) (hc:cF f≤c+1) (k a3:Int) (ha:a3≤60) (hm:(a3-e.steps).toNat≤m):Ex (fun n=>sG n e f k a3) (xR e (cF f)):=by
 have he:=qQ f;have hl:=hf.sm.len;have hkc:∀x∈f.kids,Eu x∧cF x≤c:=fun x hx=>⟨hf.kid hx,by have:=qA hx; omega⟩
 refine .succ ?_;simp only[sG];refine Ex.bind (P:=fun o=>o=true→(f.kids.length:Int)=2) (.ite (fun _=>.pure (by simp)) (fun _=>.pure (by simp))) ?_;intro o1 ho1;refine .ite (fun hc1=>?_) (fun _=>?_)
 ·obtain⟨a,b,hab⟩:=ln2 (ho1 hc1);have hb:=hf.kid (x:=b) (by simp[hab]);have hw:=hb.sm.w;refine .bp b (OV (by simp[hab])) (.bind (OW b (by omega)) fun k4 hk4=>.pure ⟨h,by simp,?_⟩);simp only[wC,yO,List.length_nil]; omega
 refine Ex.bind (P:=fun o=>o=true→(f.kids.length:Int)=4) (.ite (fun _=>.pure (by simp)) (fun _=>.pure (by simp))) ?_;intro o5 ho5;refine .ite (fun hc5=>?_) (fun _=>?_)
 ·have h4:=ho5 hc5;refine .bp _ (ado (by omega)) (.bind (QE hp e h _ (fun x hx=>hkc x (List.mem_of_mem_drop hx)) (by simp; omega) a3 ha hm) fun k8 ⟨x1,x2,x3⟩=>.pure ⟨x1,x2,?_⟩);have:=XJ f.kids;simp only[wC,wF,pq,List.length_nil]; omega
 refine Ex.bind (P:=fun o=>o=true→(f.kids.length:Int)=3) ?_ ?_
 ·refine .ite (fun _=>.ite (fun h3=>?_) (fun _=>.pure (by simp))) (fun _=>.pure (by simp));obtain⟨a,b,d,hab⟩:=ln3 h3;exact .bp b (OV (by simp[hab])) (.pure fun _=>h3)
 intro o9 ho9;refine .ite (fun fU=>?_) (fun _=>?_)
 ·obtain⟨a,b,d,hab⟩:=ln3 (ho9 fU);have hb:=hkc b (by simp[hab]);have hd:=hkc d (by simp[hab]);have hs:jD f.kids=cF a+(cF b+cF d):=by rw[hab]; simp[jD]
  refine .bp b (OV (by simp[hab])) (.bp d (XF (by simp[hab])) (.bind (XH hp e h b.kids (fun x hx=>hb.1.kid hx) hb.1.sm.len d hd.1 hd.2 a3 ha hm) fun k13 ⟨x1,x2,x3⟩=>.pure ⟨x1,x2,?_⟩));simp only; omega
 refine Ex.bind (P:=fun o=>o=false→(f.kids.length:Int)=3) ?_ ?_
 ·have:∀{c:Prop} [Decidable c],Ex (fun _=>some (decide (¬(f.kids.length:Int)=3))) (fun o=>o=false→(f.kids.length:Int)=3):=.pure fun e=>by simpa using e
  exact .ite (fun _=>.ite (fun _=>.pure (by simp)) (fun _=>this (c:=True))) (fun _=>this (c:=True))
 intro uF afy;refine .ite (fun _=>.pure (.z h (by simp) (by omega))) (fun oI=>?_);obtain⟨a,b,d,hab⟩:=ln3 (afy (by simpa using oI));have hb:=hkc b (by simp[hab]);have hd:=hkc d (by simp[hab]);have hs:jD f.kids=cF a+(cF b+cF d):=by rw[hab]; simp[jD]
 refine .bp b (OV (by simp[hab])) (.bind (XI b hb.1) fun k17 ⟨p1,p2,p3,p4,p5⟩=>.ite (fun _=>.pure (.z h (by simp) (by omega))) (fun _=>.ite (fun _=>?_) (fun _=>?_)))
 ·refine .bp d (XF (by simp[hab])) (.bind (Ux hp e h k17.1 k17.2.1 p1 p2 p3 p4 d hd.1 hd.2 a3 ha hm) fun k21 ⟨x1,x2,x3⟩=>.pure ⟨x1,x2,?_⟩);simp only; omega
 ·refine .bind (QE hp e h k17.2.1 (fun x hx=>⟨p2 x hx,by have:=qA hx; omega⟩) (by omega) a3 ha hm) fun k22 ⟨x1,x2,x3⟩=>?_;have hst:=x1.2.2.2.2.2;refine .ite (fun _=>.pure (.z x1 x2 (by omega))) (fun _=>.bp d (XF (by simp[hab])) (.bind (XH hp k22.1 x1 k17.1 p1 p3 d hd.1 hd.2 a3 ha (by omega)) fun k25 ⟨y1,y2,y3⟩=>?_));have hst2:=y1.2.2.2.2.2;have hst3:=h.2.2.2.2.1;have hf4:=hf.2;refine .bp _ (dI ?_) (.pure ⟨y1,by simp only; omega,?_⟩)
  ·simp only[List.length_cons,List.length_nil]; omega
  ·simp only[wC,yO,wF,pq,List.length_nil,List.length_append,List.length_cons,List.cons_append,List.nil_append]; omega
theorem XK (m c:Nat) (ihm:∀m',m'<m→PX m' 400) (ihc:∀c',c'<c→PX m c'):PX m c:=by
 intro e a3 f h ha hm hf hc;have he:=qQ f;have hl:=hf.sm.len;obtain⟨t1,t2,t3⟩:=yB.1 hf.1;have hp:PX m (cF f-1):=ihc _ (by omega);refine .succ ?_;simp only[iC];refine .ite (fun _=>.pure ⟨h,by simp,?_⟩) (fun _=>.ite (fun _=>.bind (Zi e h f t1) fun k ⟨x1,x2,x3⟩=>.pure ⟨x1,x2,?_⟩) (fun _=>.ite (fun _=>.pure (.z h (by simp) (by omega))) (fun hk=>?_)))
 ·simp only[wC,yO,wF,pq,List.length_nil]; omega
 ·simp only; omega
 obtain⟨e6,Qo,hm6⟩:=bY (l:=f.kids) (i:=0) (by omega) (by omega);refine .bp e6 Qo ?_;refine Ex.bG (P:=fun(o:(Expansion×Core×Int)⊕Unit)=>match o with
  | .inl w=>xR e (cF f) w
  | .inr _=>True) ?_ (fun w h=>h) (fun _ _=>?_)
 ·refine .ite (fun _=>.bind (SL e h e6) fun k10 hk10=>.ite (fun _=>.pure (.z h (by simp) (by omega))) (fun _=>.ite (fun _=>?_) (fun _=>.ite (fun h2=>?_) (fun _=>.pure trivial)))) (fun _=>.pure trivial)
  ·exact .bind (Zk hp e h f hf (by omega) k10.2 a3 ha hm) fun k13 hk=>.pure hk
  ·refine .bind (f:=fun n=>pX n e f k10.2 a3) (P:=xR e (cF f)) ?_ (fun k15 hk=>.pure hk);refine .succ ?_;simp only[pX];refine .bind (Zj e h f hf k10.2 a3 ha (hk10 h2)) fun k1 ⟨s1,s2,s3⟩=>.ite (fun _=>.pure (.z s1 s2 (by omega))) (fun hc1=>?_);obtain⟨q1,q2,q3⟩:=s3 (by simpa using hc1);refine .bind (ihm (m-1) (ar1 hm q2) k1.1 a3 k1.2.1 s1 ha (ar2 hm q1) q3 q3.2) fun k3 ⟨x1,x2,x3⟩=>.pure ⟨x1,by simp only; omega,?_⟩;have:=q3.2;simp only; omega
 ·refine .bind (QE hp e h f.kids (fun x hx=>⟨hf.kid hx,by have:=qA hx; omega⟩) hl a3 ha hm) fun k8 ⟨x1,x2,x3⟩=>.pure ⟨x1,x2,?_⟩;simp only[wC,wF,pq,List.length_nil]; omega
theorem abE:∀m c,PX m c:=by
 intro m
 induction m using Nat.strongRecOn with
 | ind m ihm=>
  intro c
  induction c using Nat.strongRecOn with
  | ind c ihc=>exact XK m c (fun m' h=>ihm m' h 400) (fun c' h=>ihc c' h)
theorem XL:Ex (fun n=>iY n) (fun r=>uz r∧r.steps=0):=by
 unfold iY xX;refine .bp _ rfl ?_;refine Ex.iter (μ:=fun s=>(6-s.1).toNat) (I:=fun s=>1≤s.1∧s.1≤6∧(s.2.length:Int)=s.1-1∧∀b∈s.2,adk b) (1,[]) ⟨by simp,by simp,by simp,by simp⟩ ?_;rintro ⟨i,s⟩ ⟨i0,i1,i2,i3⟩;simp only at i0 i1 i2 i3 ⊢;refine .ite (fun hlt=>?_) (fun hge=>?_)
 ·obtain⟨x,hx,hm⟩:=bY (l:=[[],[108,97,109,98,100,97],[105,102],[113,117,111,116,101],[108,101,116],iw]) (by omega) hlt;have hxl:x.length≤12:=(by decide:∀x∈([[],[108,97,109,98,100,97],[105,102],[113,117,111,116,101],[108,101,116],iw]:List (List UInt8)),x.length≤12) x hm;simp only[List.length_cons,List.length_nil] at hlt;refine .bp x hx (.bp _ (dI (by simp; omega)) (.fg ⟨⟨?_,?_,?_,fun b hb=>?_⟩,?_⟩))
  all_goals try simp only
  all_goals try rw[kQ (by omega) (by omega)]
  ·omega
  ·omega
  ·simp; omega
  ·rcases List.mem_append.1 hb with hb | hb
   ·exact i3 b hb
   ·rw[List.mem_singleton.1 hb]; exact⟨hxl,by simp⟩
  ·omega
 ·exact .fo ⟨⟨⟨by simp only; omega,i3⟩,by simp only; omega,by simp,by simp,by simp,by simp⟩,rfl⟩
def XM:Core:=⟨0,0,[],0,[],⟨0,[],0,[],[]⟩,[]⟩
def abG (r:Core×Int):Prop:=wC r.1≤600000000∧(r.2=0→vJ r.1=true)∧(¬r.2=0→r.1=XM)
theorem abH (f:Form) (hw:wF f≤1000000000) (b:Int):Ex (fun n=>zU n f b) (fun r=>abG r.2):=by
 have hcl:=RS f;have hz:∀k:Int,¬k=0→abG (XM,k):=fun k hk=>⟨by rw[show wC XM=0 from wzC]; omega,fun h=>absurd h hk,fun _=>rfl⟩
 unfold zU;refine Ex.bind (P:=fun o=>o=false→gK f=true∧0≤b∧b≤60) (.bv (F8 f (Ih f (by omega)) (by omega)) (.ite (fun _=>.pure (by simp)) (fun hv=>.ite (fun _=>.pure (by simp)) (fun hb=>Ex.pure (v:=decide (b>60)) fun h=>⟨by simpa using hv,by omega,by have h:=of_decide_eq_false h; omega⟩)))) ?_;intro o ho;refine .ite (fun _=>.pure (hz 6 (by omega))) (fun hc=>?_);obtain⟨hv,hb0,hb1⟩:=ho (by simpa using hc);refine .bind XL fun k3 ⟨h3,hs⟩=>.bind (abE 100 400 k3 b f h3 hb1 (by omega) (Ce hv) (Ce hv).2) fun k4 ⟨x1,x2,x3⟩=>?_;have hst:=x1.2.2.2.2.2;have hcf:=(Ce hv).2;refine .ite (fun hk=>.pure (hz _ hk)) (fun _=>.bv (Y8 k4.2.1 (by omega)) (.ite (fun _=>.pure (hz 4 (by omega))) (fun hv4=>.pure ⟨by simp only; omega,fun _=>by simpa using hv4,fun h=>absurd rfl h⟩)))
theorem Uy (f:Form) (hw:wF f≤1000000000) (b:Int):Ex (fun n=>ny n f b) abG:=by
 unfold ny;exact .bind (abH f hw b) fun k1 hk1=>.bv (LQ k1.2.1 (Nat.le_trans hk1.1 (by omega))) (.pure hk1)
theorem SS:∀(l:List Core) (i:Nat) (x y:Core),l[i]? = some x→yO (l.set i y)+wC x=yO l+wC y
 | [],i,x,y,h=>by simp at h
 | a::l,0,x,y,h=>by simp at h; subst h; simp only[List.set_cons_zero,yO]; omega
 | a::l,i+1,x,y,h=>by
  have:=SS l i x y (by simpa using h);simp only[List.set_cons_succ,yO]; omega
theorem QF (c:Core) (hw:wC c≤10000000) (r:aY) (h:Gd r (4*((wC c:Int)+1))):Ex (fun n=>kN n c r) (fun k=>Sp r k.2 (4*((wC c:Int)+1))∧wC k.1≤wC c+2):=by
 have he:=NK c;refine .succ ?_;simp only[kN];refine .bv (LQ c (by omega)) ?_;refine Ex.bind (P:=fun o=>Sp r o.2 1∧(o.1=true→1≤c.kids.length)) ?_ ?_
 ·refine .ite (fun hl=>.bind (jh h (by omega)) fun k15 ⟨s1,_⟩=>.pure ⟨s1,fun _=>by omega⟩) (fun hl=>.pure ⟨.refl (by omega),fun h=>by cases h⟩)
 rintro ⟨b0,r1⟩ ⟨s1,hb⟩;simp only at s1 hb ⊢;have g1:Gd r1 (4*((wC c:Int)+1)-1):=h.to s1 (by omega);refine .ite (fun hb0=>?_) (fun _=>?_)
 ·have hl:=hb hb0;refine .bind (jh g1 (by omega)) fun k4 ⟨s2,hv⟩=>?_;obtain⟨v0,v1⟩:=hv (by omega);have hv:k4.1.toNat<c.kids.length:=by omega
  have hx:=List.getElem?_eq_getElem hv;have hxm:c.kids[k4.1.toNat]∈c.kids:=List.getElem_mem hv;have hxw:=Df hxm;refine .bp () (zB v0 hv) (.bp _ hx (.bind (QF _ (by omega) k4.2 (g1.to s2 (by omega))) fun k8 ⟨s3,w3⟩=>.bp () (zB v0 hv) (.pure ⟨?_,?_⟩)))
  ·exact s1.trans (s2.trans s3 (D:=1+4*((wC (c.kids[k4.1.toNat]):Int)+1)) (by omega)) (by omega)
  ·have:=SS c.kids k4.1.toNat _ k8.1 hx;simp only[wC,List.length_set]; omega
 ·refine .bind (jh g1 (by omega)) fun k11 ⟨s2,_⟩=>?_;have g2:Gd k11.2 1:=g1.to s2 (by omega);refine Ex.bind (P:=fun o=>Sp k11.2 o.2.2.2.2 1∧o.2.2.2.1.length+o.2.2.1.length≤c.ids.length+c.name.length+2) ?_ ?_
  ·refine .ite (fun _=>?_) (fun _=>.ite (fun _=>?_) (fun _=>.ite (fun _=>?_) (fun _=>.ite (fun _=>?_) (fun _=>?_))))
   ·refine .bind (xw (by simp) g2 (by omega)) fun k ⟨s3,_⟩=>.pure ⟨s3,by simp only; omega⟩
   ·refine .bind (xw (by simp) g2 (by omega)) fun k ⟨s3,_⟩=>.pure ⟨s3,by simp only; omega⟩
   ·refine .bind (xw (by simp) g2 (by omega)) fun k ⟨s3,_⟩=>.bp _ (dI (by simp; omega)) (.pure ⟨s3,by simp; omega⟩)
   ·refine .bind (Y9 (by simp) g2 (by omega)) fun k ⟨s3,hm⟩=>?_;have:k.1.length≤1:=by
     simp only[List.mem_cons,List.not_mem_nil,or_false] at hm;rcases hm with h | h | h <;> rw[h] <;> decide
    exact .pure ⟨s3,by simp only; omega⟩
   ·exact .pure ⟨.refl (by omega),by simp only; omega⟩
  ·rintro o ⟨s3,w3⟩;exact .pure ⟨s1.trans (s2.trans s3 (D:=2) (by omega)) (by omega),by simp only[wC]; omega⟩
termination_by SizeOf.sizeOf c
decreasing_by exact tH hxm
theorem SV (b:List UInt8):Ex (fun n=>sH n b) (fun c=>wC c≤3000):=by
 unfold sH;refine .bind (Xf b) fun k1 g=>.bind (xw (by simp) g (by omega)) fun k2 ⟨s2,hm⟩=>?_;have g2:Gd k2.2 900000000:=g.to s2 (by omega);obtain⟨d,hd,hk⟩:∃d:Nat,d≤4∧k2.1=(d:Int):=by
  simp only[List.mem_cons,List.not_mem_nil,or_false] at hm;rcases hm with h | h | h
  ·exact⟨3,by omega,h⟩
  ·exact⟨4,by omega,h⟩
  ·exact⟨2,by omega,h⟩
 rw[hk];have hB:bC d≤10000∧UK d≤2500:=by
  have:d=0∨d=1∨d=2∨d=3∨d=4:=by omega
  rcases this with rfl | rfl | rfl | rfl | rfl <;> simp[bC,UK]
 refine .bind (Zb d (by omega) [] 0 k2.2 (by simp) (g2.to (.refl (Int.le_refl 0)) (by omega))) fun k3 ⟨s3,w3,_⟩=>?_;have g3:Gd k3.2.2 800000000:=g2.to s3 (by omega);refine .bind (jh g3 (by omega)) fun k4 ⟨s4,_⟩=>.ite (fun _=>?_) (fun _=>.pure (by omega));have g4:Gd k4.2 700000000:=g3.to s4 (by omega);refine .bind (QF k3.1 (by omega) k4.2 (g4.to (.refl (Int.le_refl 0)) (by omega))) fun k6 ⟨s6,w6⟩=>?_;have g6:Gd k6.2 600000000:=g4.to s6 (by omega);exact .bind (QF k6.1 (by omega) k6.2 (g6.to (.refl (Int.le_refl 0)) (by omega))) fun k7 ⟨_,w7⟩=>.pure (by omega)
def t8:List (List UInt8):=[lV,lW,lQ,lN,mG,lS,[40,49,32,50,41],lU,tJ,lX,oG,mX]
theorem abI:∀x∈t8,x.length≤500:=by decide
theorem Zl (r:aY) (g:Gd r 200000):Ex (fun n=>xq n r) (fun k=>Sp r k.2 200000∧wF k.1≤100000):=by
 unfold xq yj;refine .bp t8 rfl (.bind (jh g (by omega)) fun k2 ⟨s1,_⟩=>?_);have g1:Gd k2.2 150000:=g.to s1 (by omega);refine .ite (fun _=>?_) (fun _=>?_)
 ·refine .bind (jh g1 (by omega)) fun k4 ⟨s2,hv⟩=>?_;obtain⟨v0,v1⟩:=hv (by decide);obtain⟨x,hx,hm⟩:=bY v0 v1;have hl:=abI x hm;refine .bp x hx (.bind (LU x (by omega)) fun k6 hk=>.pure ⟨s1.trans s2 (by omega),by simp only; omega⟩)
 ·exact .bind (Zd k2.2 (g1.to (.refl (Int.le_refl 0)) (by omega))) fun k8 ⟨s8,w8⟩=>.pure ⟨s1.trans s8 (by omega),w8⟩
theorem QG (b:List UInt8):Ex (fun n=>jM n b) (fun k=>wC k.1≤600000000∧(wC k.1≤3000∨vJ k.1=true)∧0≤k.2∧k.2≤3001):=by
 unfold jM;refine .bind (Xf b) fun k1 g=>.bind (jh g (by omega)) fun k2 ⟨s2,_⟩=>?_;have g2:Gd k2.2 900000000:=g.to s2 (by omega);refine .ite (fun _=>.bind (SV b) fun k4 h4=>.pure ⟨by simp only; omega,.inl h4,by simp only; omega,by simp only; omega⟩) (fun _=>?_);refine .bind (Zl k2.2 (g2.to (.refl (Int.le_refl 0)) (by omega))) fun k5 ⟨s5,w5⟩=>.bind (Uy k5.1 (by omega) 20) fun k6 ⟨e1,e2,_⟩=>?_;have g5:Gd k5.2 800000000:=g2.to s5 (by omega);refine Ex.bind (P:=fun c=>wC c≤600000000∧(wC c≤3000∨vJ c=true)) (.ite (fun _=>.bind (SV b) fun k10 h10=>.pure ⟨by omega,.inl h10⟩) (fun h0=>.pure ⟨e1,.inr (e2 (by simpa using h0))⟩)) ?_;rintro c ⟨c1,c2⟩;refine .bind (xw (by simp) g5 (by omega)) fun k8 ⟨_,hm⟩=>.pure ⟨c1,c2,?_,?_⟩
 all_goals
  simp only[List.mem_cons,List.not_mem_nil,or_false] at hm;simp only;omega
theorem XO (b:List UInt8):Ex (fun n=>uq n b) (fun c=>wC c≤600000000∧(wC c≤3000∨vJ c=true)):=by
 unfold uq;exact .bind (QG b) fun k h=>.pure ⟨h.1,h.2.1⟩
theorem XP (n:Nat) (l:List (List UInt8)) (x:List UInt8):slices_Contains_string n l x=some (decide (x∈l)):=by
 unfold slices_Contains_string slices_Index_string;have main:∀(l:List (List UInt8)) (i:Nat),∃k:Int,bG (Mx.bM (fun(_:Unit) (i:Nat) (y:List UInt8)=>((if x=y then some (Sum.inl (i:Int)) else some (Sum.inr ())):Option (Int⊕Unit))) i l ()) (fun _=>some (-1))=some k∧(k≥0↔x∈l):=by
  intro l
  induction l with
  | nil=>intro i; exact⟨-1,rfl,by simp⟩
  | cons y r ih=>
   intro i;by_cases h:x=y
   ·subst h;exact⟨(i:Int),by simp[Mx.bM,Mx.bG],by simp⟩
   ·obtain⟨k,h1,h2⟩:=ih (i+1);refine⟨k,?_,by rw[h2]; simp[h]⟩;rw[← h1];simp[Mx.bM,h]
 obtain⟨k,h1,h2⟩:=main l 0;rw[h1,Option.bind_some];congr 1;rw[Bool.eq_iff_iff,decide_eq_true_eq,decide_eq_true_eq]; exact h2
def MF (c:Core):Option Nat:=if c.kind=6 then(match c.kids with
 | []=>none
 | x::_=>some (if x.kind=5 then 0 else if x.kind=2∧x.name∈XY then 1 else if x.kind=1 then 2 else 3)) else none
mutual
def hdN (k:Nat):Core→Nat
 | ⟨kd,i,nm,n,ids,dt,kids⟩=>(if MF ⟨kd,i,nm,n,ids,dt,kids⟩=some k then 1 else 0)+uJ k kids
def uJ (k:Nat):List Core→Nat
 | []=>0
 | x::r=>hdN k x+uJ k r
end
theorem Ew (k:Nat) (c:Core):hdN k c=(if MF c=some k then 1 else 0)+uJ k c.kids:=by cases c; simp only[hdN]
mutual
theorem Cj (k:Nat):∀c:Core,hdN k c≤cC c
 | ⟨kd,i,nm,n,ids,dt,kids⟩=>by have:=SX k kids; simp only[hdN,cC]; split <;> omega
theorem SX (k:Nat):∀l:List Core,uJ k l≤Bc l
 | []=>by simp[uJ]
 | x::r=>by have:=Cj k x; have:=SX k r; simp only[uJ,Bc]; omega
end
def lst (v:Nat→Nat):List Int:=[(v 0:Int),(v 1:Int),(v 2:Int),(v 3:Int)]
theorem L9 (v:Nat→Nat):(lst v).length=4:=rfl
theorem SY {v:Nat→Nat} {k:Nat} (h:k<4):(lst v)[k]? = some (v k:Int):=by
 have:k=0∨k=1∨k=2∨k=3:=by omega
 rcases this with rfl | rfl | rfl | rfl <;> rfl
theorem Zm {v:Nat→Nat} {k y:Nat} (h:k<4):(lst v).set k (y:Int)=lst (fun j=>if j=k then y else v j):=by
 have:k=0∨k=1∨k=2∨k=3:=by omega
 rcases this with rfl | rfl | rfl | rfl <;> simp[lst]
theorem DR {v w:Nat→Nat} (h:∀k,k<4→v k=w k):lst v=lst w:=by
 unfold lst;rw[h 0 (by omega),h 1 (by omega),h 2 (by omega),h 3 (by omega)]
theorem XQ {v:Nat→Nat} {j:Nat} (hj:j<4) (hv:∀k,v k≤1000000000) {o:Option Nat} (ho:o=some j):(lst v).set j (aT ((v j:Int)+1))=lst (fun k=>v k+if o=some k then 1 else 0):=by
 have:=hv j;rw[iV (by omega) (by omega),show((v j:Int)+1)=((v j+1:Nat):Int) by omega,Zm hj];refine DR fun k _=>?_;subst ho;by_cases h:k=j
 ·subst h; simp
 ·simp[h,Ne.symm h]
def Jg (o:Option Nat) (v:Nat→Nat):Nat→Nat:=fun k=>v k+if o=some k then 1 else 0
theorem OX {c x:Core} {r:List Core} (h6:c.kind=6) (hk:c.kids=x::r):MF c=some (if x.kind=5 then 0 else if x.kind=2∧x.name∈XY then 1 else if x.kind=1 then 2 else 3):=by unfold MF; rw[if_pos h6,hk]
theorem Zn {c:Core} (hk:c.kids=[]):MF c=none:=by unfold MF; rw[hk]; split <;> rfl
theorem XR {c:Core} (h6:¬c.kind=6):MF c=none:=by unfold MF; rw[if_neg h6]
theorem Zo (c:Core) (v:Nat→Nat) (hv:∀k,v k≤1000000000) (n:Nat):oL n c (lst v)=some (lst (Jg (MF c) v)):=by
 unfold oL oK;have z:lst (Jg none v)=lst v:=DR fun k _=>by simp[Jg]
 have up:∀j:Nat,j<4→((inB ((j:Nat):Int) (lst v).length).bind fun _=>((lst v)[(Int.toNat ((j:Nat):Int))]?).bind fun e=>(inB ((j:Nat):Int) (lst v).length).bind fun _=>some ((lst v).set (Int.toNat ((j:Nat):Int)) (aT (e+1))))=some (lst (Jg (some j) v)):=fun j hj=>by
  have hi:=zB (i:=((j:Nat):Int)) (n:=(lst v).length) (by omega) (by rw[L9]; omega);rw[hi,Option.bind_some,Int.toNat_natCast,SY hj,Option.bind_some,Option.bind_some,XQ hj hv rfl];rfl
 by_cases h6:c.kind=6
 ·rw[if_neg (by simpa using h6)];cases hk:c.kids with
  | nil=>rw[Zn hk,z]; rfl
  | cons x r=>
   have h0:gG (x::r) 0=some x:=XE rfl;have hl:decide (((x::r).length:Int)=0)=false:=by simp; omega
   have hd:=OX h6 hk;rw[hl];simp only[Option.bind_some,Bool.false_eq_true,if_false,h0,XP];by_cases h5:x.kind=5
   ·rw[if_pos h5] at hd;rw[if_pos h5,hd]; exact up 0 (by omega)
   rw[if_neg h5] at hd;rw[if_neg h5];by_cases h2:x.kind=2
   ·rw[if_pos h2,Option.bind_some];by_cases hm:x.name∈XY
    ·rw[if_pos ⟨h2,hm⟩] at hd;rw[decide_eq_true hm]
     repeat rw[Option.bind_some]
     rw[if_pos rfl,hd]; exact up 1 (by omega)
    ·have h1:¬x.kind=1:=by omega
     rw[if_neg (fun h=>hm h.2),if_neg h1] at hd;rw[decide_eq_false hm]
     repeat rw[Option.bind_some]
     rw[if_neg (by simp),if_neg h1,hd]; exact up 3 (by omega)
   ·rw[if_neg (fun h=>h2 h.1)] at hd;rw[if_neg h2]
    repeat rw[Option.bind_some]
    rw[if_neg (by simp)];by_cases h1:x.kind=1
    ·rw[if_pos h1] at hd;rw[if_pos h1,hd]; exact up 2 (by omega)
    ·rw[if_neg h1] at hd;rw[if_neg h1,hd]; exact up 3 (by omega)
 ·rw[if_pos h6,XR h6,z]; rfl
theorem S9 (c:Core) (v:Nat→Nat) (hv:∀k,v k+cC c≤1000000000):fV (fun n=>dO n c (lst v)) (lst fun k=>v k+hdN k c):=by
 have hc:=Fh c;refine .succ ?_;simp only[dO];refine Ex.AQ (.bv ⟨0,fun n _=>Zo c v (fun k=>by have:=hv k; omega) n⟩ ?_);refine Ex.bind (P:=fun s=>s=lst fun k=>v k+hdN k c) ?_ (fun s hs=>.pure hs);refine Ex.dR (I:=fun i q s=>∃u:Nat→Nat,s=lst u∧(∀k,u k+uJ k q=v k+hdN k c)∧(∀k,u k+Bc q≤1000000000)∧∀x∈q,x∈c.kids) ⟨Jg (MF c) v,rfl,fun k=>by rw[Ew]; unfold Jg; omega,fun k=>by have:=hv k; unfold Jg; split <;> omega,fun _ h=>h⟩ ?_ ?_
 ·rintro i x q s ⟨u,rfl,h1,h2,h3⟩;have g4:=h3 x List.mem_cons_self;simp only[uJ,Bc] at h1 h2;refine .bv (S9 x u (fun k=>by have:=h2 k; omega)) (.pure ⟨_,rfl,fun k=>by have:=h1 k; omega,fun k=>by have:=h2 k; have:=Cj k x; omega,fun y hy=>h3 y (List.mem_cons_of_mem _ hy)⟩)
 ·rintro s ⟨u,rfl,h1,_,_⟩;exact DR fun k _=>by have:=h1 k; simp only[uJ] at this; omega
termination_by SizeOf.sizeOf c
decreasing_by exact tH g4
theorem adp:List.replicate (4:Int).toNat (0:Int)=lst fun _=>0:=rfl
theorem adq:mkB 8 4=some ():=by decide
theorem Uz (c:Core) (hc:cC c≤1000000000):fV (fun n=>tX n c) (lst fun k=>hdN k c):=by
 unfold tX;rw[adp];have h:=S9 c (fun _=>0) (fun k=>by omega);simp only[Nat.zero_add] at h;exact Ex.AQ (.bp () adq (.bv h (.pure rfl)))
theorem QH (x:List UInt8):decide (x∈([[43],[60],[61],[108,105,115,116],[104,101,97,100],[116,97,105,108]]:List (List UInt8)))=decide (x∈XY):=by
 simp only[decide_eq_decide];unfold XY;simp only[List.mem_cons,List.not_mem_nil,or_false];constructor <;> rintro (h | h | h | h | h | h) <;> simp[h]
theorem Zp (n:Nat) (l:List (List UInt8)) (x:List UInt8):F6 n l x=some (decide (x∈l)):=by
 obtain⟨N,h⟩:=YH (xs:=l) (y:=x);exact h N (Nat.le_refl N)
theorem Tc (c:Core) (v:Nat→Nat) (hv:∀k,v k+cC c≤1000000000):fV (fun n=>og n (lst v) c) (lst fun k=>v k+hdN k c):=by
 have hc:=Fh c;refine .succ ?_;simp only[og,yu,Zp,QH,Option.bind_some];have z:lst (fun k=>v k+if(none:Option Nat)=some k then 1 else 0)=lst v:=DR fun k _=>by simp
 refine Ex.AQ ?_;refine Ex.bind (P:=fun o=>o=(MF c).isSome) ?_ ?_
 ·unfold MF;by_cases h6:c.kind=6
  ·refine .pos h6 (.pure ?_);rw[if_pos h6];cases c.kids with
   | nil=>rfl
   | cons x r=>simp
  ·exact .neg h6 (.pure (by rw[if_neg h6]; rfl))
 rintro o rfl;refine Ex.bind (P:=fun s=>s=lst (fun k=>v k+if MF c=some k then 1 else 0)) ?_ ?_
 ·cases hk:MF c with
  | none=>exact .neg (by simp) (.pure z.symm)
  | some j=>
   refine .pos rfl ?_;have hj:j<4∧∃x r,c.kids=x::r∧j=(if x.kind=5 then 0 else if x.kind=2∧x.name∈XY then 1 else if x.kind=1 then 2 else 3):=by
    unfold MF at hk;by_cases h6:c.kind=6
    ·rw[if_pos h6] at hk;cases hkd:c.kids with
     | nil=>rw[hkd] at hk; cases hk
     | cons x r=>
      rw[hkd] at hk;simp only[Option.some.injEq] at hk;refine⟨?_,x,r,rfl,hk.symm⟩;rw[← hk]; split
      ·omega
      ·split
       ·omega
       ·split <;> omega
    ·rw[if_neg h6] at hk; cases hk
   obtain⟨ZL,x,r,hkd,hje⟩:=hj;rw[hkd];refine Ex.bind (P:=fun q=>q=(j:Int)) (.bp x (XE rfl) ?_) ?_
   ·by_cases h5:x.kind=5
    ·exact .pos h5 (.pure (by rw[hje,if_pos h5]; rfl))
    refine .neg h5 ?_;rw[if_neg h5] at hje;refine Ex.bind (P:=fun b=>b=decide (x.kind=2∧x.name∈XY)) ?_ ?_
    ·by_cases h2:x.kind=2
     ·exact .pos h2 (.pure (by simp[h2]))
     ·exact .neg h2 (.pure (by simp[h2]))
    rintro b rfl;by_cases h2:x.kind=2∧x.name∈XY
    ·exact .pos (by simpa using h2) (.pure (by rw[hje,if_pos h2]; rfl))
    refine .neg (by simpa using h2) ?_;rw[if_neg h2] at hje;by_cases h1:x.kind=1
    ·exact .pos h1 (.pure (by rw[hje,if_pos h1]; rfl))
    ·exact .neg h1 (.pure (by rw[hje,if_neg h1]; rfl))
   ·rintro q rfl;have hi:=zB (i:=((j:Nat):Int)) (n:=(lst v).length) (by omega) (by rw[L9]; omega);refine .bp () hi (.bp (v j:Int) (by rw[Int.toNat_natCast]; exact SY ZL) (.bp () hi (.pure ?_)));rw[Int.toNat_natCast];exact XQ ZL (fun k=>by have:=hv k; omega) rfl
 rintro s rfl;refine Ex.bind (P:=fun s=>s=lst fun k=>v k+hdN k c) ?_ (fun s hs=>.pure hs);refine Ex.dR (I:=fun i q s=>∃u:Nat→Nat,s=lst u∧(∀k,u k+uJ k q=v k+hdN k c)∧(∀k,u k+Bc q≤1000000000)∧∀x∈q,x∈c.kids) ⟨Jg (MF c) v,rfl,fun k=>by rw[Ew]; unfold Jg; omega,fun k=>by have:=hv k; unfold Jg; split <;> omega,fun _ h=>h⟩ ?_ ?_
 ·rintro i x q s ⟨u,rfl,h1,h2,h3⟩;have g4:=h3 x List.mem_cons_self;simp only[uJ,Bc] at h1 h2;refine .bv (Tc x u (fun k=>by have:=h2 k; omega)) (.pure ⟨_,rfl,fun k=>by have:=h1 k; omega,fun k=>by have:=h2 k; have:=Cj k x; omega,fun y hy=>h3 y (List.mem_cons_of_mem _ hy)⟩)
 ·rintro s ⟨u,rfl,h1,_,_⟩;exact DR fun k _=>by have:=h1 k; simp only[uJ] at this; omega
termination_by SizeOf.sizeOf c
decreasing_by exact tH g4
theorem UA (c:Core) (hc:cC c≤1000000000):fV (fun n=>uw n c) (lst fun k=>hdN k c):=by
 unfold uw;rw[adp];have h:=Tc c (fun _=>0) (fun k=>by omega);simp only[Nat.zero_add] at h;exact Ex.AQ (.bp () adq (.bv h (.pure rfl)))
theorem UC {d:Nat} {sc:List Int} {c:Core} (h:DX d sc c=true):∃e s,d=e+1∧Fg c.kind c.kids.length=true∧UJ c=true∧(c.kind=1→c.id∈sc)∧MC sc c.ids=some s∧∀x∈c.kids,DX e s x=true:=by
 cases d with
 | zero=>cases h
 | succ e=>
  simp only[DX,Bool.and_eq_true] at h;obtain⟨h1,h2,h3,h4⟩:=h;split at h4
  ·cases h4
  ·rename_i s hs;refine⟨e,s,rfl,h1,h2,?_,hs,List.all_eq_true.1 h4⟩;intro hk
   simpa [hk] using h3
mutual
def Zq:Core→Nat
 | ⟨kd,_,_,_,_,_,kids⟩=>(if kd=6 then 1 else 0)+Jh kids
def Jh:List Core→Nat
 | []=>0
 | x::r=>Zq x+Jh r
end
theorem XT (c:Core):Zq c=(if c.kind=6 then 1 else 0)+Jh c.kids:=by cases c; simp only[Zq]
mutual
theorem abJ:∀c:Core,Zq c≤cC c
 | ⟨kd,i,nm,n,ids,dt,kids⟩=>by have:=Mc kids; simp only[Zq,cC]; split <;> omega
theorem Mc:∀l:List Core,Jh l≤Bc l
 | []=>by simp[Jh]
 | x::r=>by have:=abJ x; have:=Mc r; simp only[Jh,Bc]; omega
end
def hd4 (c:Core):Nat:=hdN 0 c+hdN 1 c+hdN 2 c+hdN 3 c
theorem abK {c:Core} {j:Nat} (h:MF c=some j):j<4:=by
 unfold MF at h;split at h
 ·split at h
  ·cases h
  ·simp only[Option.some.injEq] at h;subst h;split
   ·omega
   ·split
    ·omega
    ·split <;> omega
 ·cases h
theorem abL (c:Core) (hk:c.kind=6→1≤c.kids.length):hd4 c=(if c.kind=6 then 1 else 0)+(uJ 0 c.kids+uJ 1 c.kids+uJ 2 c.kids+uJ 3 c.kids):=by
 unfold hd4;rw[Ew 0,Ew 1,Ew 2,Ew 3];by_cases h6:c.kind=6
 ·have hl:=hk h6;obtain⟨x,r,hkd⟩:∃x r,c.kids=x::r:=by
   cases hkk:c.kids with
   | nil=>rw[hkk] at hl; simp at hl
   | cons x r=>exact⟨x,r,rfl⟩
  have hd:=OX h6 hkd;generalize (if x.kind=5 then 0 else if x.kind=2∧x.name∈XY then 1 else if x.kind=1 then 2 else 3)=j at hd;have hj:=abK hd;rw[hd,if_pos h6];have:j=0∨j=1∨j=2∨j=3:=by omega
  rcases this with rfl | rfl | rfl | rfl <;> simp <;> omega
 ·rw[XR h6,if_neg h6]; simp
theorem Td:∀{l:List Core},(∀x∈l,hd4 x=Zq x)→uJ 0 l+uJ 1 l+uJ 2 l+uJ 3 l=Jh l
 | [],_=>by simp[uJ,Jh]
 | x::r,h=>by
  have h1:=h x List.mem_cons_self;have h2:=Td (l:=r) fun y hy=>h y (List.mem_cons_of_mem _ hy);unfold hd4 at h1;simp only[uJ,Jh]; omega
theorem UD:∀{d:Nat} {sc:List Int} {c:Core},DX d sc c=true→hd4 c=Zq c:=by
 intro d
 induction d with
 | zero=>intro sc c h; cases h
 | succ d ih=>
  intro sc c h;obtain⟨e,s,he,h1,_,_,_,h6⟩:=UC h;obtain rfl:d=e:=by omega
  rw[abL c (fun hk=>by rw[hk] at h1; simpa [Fg] using h1),Td fun x hx=>ih (h6 x hx),XT]
mutual
def O8:Core→Nat
 | ⟨kd,_,_,_,_,_,kids⟩=>(if kd=5 then 1 else 0)+zY kids
def zY:List Core→Nat
 | []=>0
 | x::r=>max (O8 x) (zY r)
end
theorem QI (c:Core):O8 c=(if c.kind=5 then 1 else 0)+zY c.kids:=by cases c; simp only[O8]
mutual
theorem XU:∀c:Core,O8 c≤cC c
 | ⟨kd,i,nm,n,ids,dt,kids⟩=>by have:=Gh kids; simp only[O8,cC]; split <;> omega
theorem Gh:∀l:List Core,zY l≤Bc l
 | []=>by simp[zY]
 | x::r=>by have:=XU x; have:=Gh r; simp only[zY,Bc]; omega
end
theorem Iz (c:Core) (hw:cC c≤1000000000):fV (fun n=>fJ n c) (O8 c:Int):=by
 have hc:=Fh c;have hd:=Gh c.kids;refine .succ ?_;simp only[fJ];refine Ex.AQ ?_;refine Ex.bind (P:=fun s=>s=(zY c.kids:Int)) ?_ ?_
 ·refine Ex.dR (I:=fun i q s=>∃u:Nat,s=(u:Int)∧max u (zY q)=zY c.kids∧∀x∈q,x∈c.kids) ⟨0,rfl,by omega,fun _ h=>h⟩ ?_ ?_
  ·rintro i x q s ⟨u,rfl,h1,h3⟩;have g4:=h3 x List.mem_cons_self;simp only[zY] at h1;refine .bv (Iz x (by have:=DC g4; omega)) (.pure ⟨max u (O8 x),?_,by omega,fun y hy=>h3 y (List.mem_cons_of_mem _ hy)⟩);split <;> omega
  ·rintro s ⟨u,rfl,h1,_⟩;simp only[zY] at h1;rw[← h1]; congr 1; omega
 ·rintro s rfl;refine Ex.bind (P:=fun s=>s=(O8 c:Int)) ?_ (fun s hs=>.pure hs);rw[QI];by_cases h:c.kind=5
  ·exact .pos h (.pure (by rw[if_pos h,iV (by omega) (by omega)]; omega))
  ·exact .neg h (.pure (by rw[if_neg h]; omega))
termination_by SizeOf.sizeOf c
decreasing_by exact tH g4
theorem IB (c:Core) (hw:cC c≤1000000000):fV (fun n=>jC n c) (O8 c:Int):=by
 have hc:=Fh c;have hd:=Gh c.kids;refine .succ ?_;simp only[jC];refine Ex.AQ ?_;refine Ex.bind (P:=fun s=>s=(zY c.kids:Int)) ?_ ?_
 ·refine Ex.dR (I:=fun i q s=>∃u:Nat,s=(u:Int)∧max u (zY q)=zY c.kids∧∀x∈q,x∈c.kids) ⟨0,rfl,by omega,fun _ h=>h⟩ ?_ ?_
  ·rintro i x q s ⟨u,rfl,h1,h3⟩;have g4:=h3 x List.mem_cons_self;simp only[zY] at h1;refine Ex.bind (P:=fun s=>s=((max u (O8 x):Nat):Int)) (.bv (IB x (by have:=DC g4; omega)) ?_) (fun s hs=>.pure ⟨max u (O8 x),hs,by omega,fun y hy=>h3 y (List.mem_cons_of_mem _ hy)⟩);exact .ite (fun h=>.pure (by omega)) (fun h=>.pure (by omega))
  ·rintro s ⟨u,rfl,h1,_⟩;simp only[zY] at h1;rw[← h1]; congr 1; omega
 ·rintro s rfl;rw[QI];by_cases h:c.kind=5
  ·exact .pos h (.pure (by rw[if_pos h,iV (by omega) (by omega)]; omega))
  ·exact .neg h (.pure (by rw[if_neg h]; omega))
termination_by SizeOf.sizeOf c
decreasing_by exact tH g4
theorem Tf (c:Core) (hw:cC c≤1000000000):fV (fun n=>nK n c) (Zq c:Int):=by
 have hc:=Fh c;have hu:=Mc c.kids;refine .succ ?_;simp only[nK];refine Ex.AQ ?_;refine Ex.bind (P:=fun s=>s=(((if c.kind=6 then 1 else 0):Nat):Int)) ?_ ?_
 ·by_cases h:c.kind=6
  ·exact .pos h (.pure (by rw[if_pos h]; rfl))
  ·exact .neg h (.pure (by rw[if_neg h]; rfl))
 rintro s rfl;rw[XT];refine .bv (Ex.abl (m:=fun n x=>nK n x) (c:=Zq) (cs:=Jh) rfl (fun _ _=>rfl) (by split <;> omega) (fun x hx=>Tf x (by have:=DC hx; omega))) (.pure rfl)
termination_by SizeOf.sizeOf c
decreasing_by exact tH hx
theorem Zr (a b:List Int):fV (fun n=>Aw n a b) (decide (a=b)):=LH
theorem OY (b:List UInt8):fV (fun n=>rP n b) true:=by
 refine Ex.AQ ?_;unfold rP oQ;refine .ite (fun _=>.pure rfl) (fun _=>?_);refine .bind (P:=fun c=>wC c≤600000000) (.bind (XO b) fun k1 h1=>.pure h1.1) ?_;intro c hw;have hcl:=Xb c;have hce:=Fh c;have hdl:=XU c;refine .bv (Uz c (by omega)) ?_;refine Ex.bind (P:=fun o=>o=false) (.bv (UA c (by omega)) (.bv (Zr _ _) (.neg (by simp) (.pure (by simp[L9]))))) ?_;rintro o rfl;refine .neg (by simp) ?_;refine Ex.bind (P:=fun s=>s=(hd4 c:Int)) ?_ ?_
 ·have e0:=Cj 0 c;have e1:=Cj 1 c;have e2:=Cj 2 c;have e3:=Cj 3 c;refine Ex.aej _ ?_ rfl;simp only[lst,Mx.dR,Option.bind_some,hd4];rw[iV (x:=(0:Int)+(hdN 0 c:Int)) (by omega) (by omega),iV (x:=(0:Int)+(hdN 0 c:Int)+(hdN 1 c:Int)) (by omega) (by omega),iV (x:=(0:Int)+(hdN 0 c:Int)+(hdN 1 c:Int)+(hdN 2 c:Int)) (by omega) (by omega),iV (by omega) (by omega)];congr 1; omega
 rintro s rfl;have hdp:fV (fun n=>fJ n (⟨5,0,[],0,[999],(⟨0,[],0,[],[]⟩:Form),[c]⟩:Core)) ((O8 c+1:Nat):Int):=by
  have:=Iz (⟨5,0,[],0,[999],(⟨0,[],0,[],[]⟩:Form),[c]⟩:Core) (by simp only[cC,Bc]; omega)
  rwa [show O8 (⟨5,0,[],0,[999],(⟨0,[],0,[],[]⟩:Form),[c]⟩:Core)=O8 c+1 by rw[QI,if_pos rfl]; simp only[zY]; omega] at this
 have h1:=Iz c (by omega);refine Ex.bind (P:=fun o=>o=true) ?_ (fun o ho=>.pure ho);have hw1:((O8 c+1:Nat):Int)=aT ((O8 c:Int)+1):=by rw[iV (by omega) (by omega)]; omega
 refine .bv (Y6 c (by omega)) ?_;cases hv:vJ c with
 | false=>exact .pos rfl (.bv hdp (.bv h1 (.pos hw1 (.bv h1 (.bv (IB c (by omega)) (.pure (by simp)))))))
 | true=>
  unfold vJ at hv;rw[Bool.and_eq_true] at hv;exact .neg (by simp) (.bv (Tf c (by omega)) (.pos (by rw[UD hv.1]) (.bv hdp (.bv h1 (.pos hw1 (.bv h1 (.bv (IB c (by omega)) (.pure (by simp)))))))))
theorem QJ (l:List Int) (h:l.length≤maxLen∧∀a∈l,(Lit.int .u8 a).wf=true):Mx.oq X.E 3 [.sl 1 .ro (l.map fun i=>[.v (.int .u8 i)])] [] fun d _=>d=.v (.bool true):=by
 obtain⟨N,hN⟩:=OY (toB l);exact Uc (Ie N (toB l) (hN N (Nat.le_refl _))) (by simp only[ED.DL,ED.D,KD.D,YL h.2]; rfl)
end Go.Ev
