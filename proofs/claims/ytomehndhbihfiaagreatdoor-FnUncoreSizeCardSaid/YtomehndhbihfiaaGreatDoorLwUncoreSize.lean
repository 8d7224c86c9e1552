/- Plain laws of models. No condition. -/
import Derived.Test.YtomehndhbihfiaaGreatDoorMdUncoreSize
import Derived.Test.YtomehndhbihfiaaGreatDoorEvTri
namespace Go.Ev
open Go.Mx (KD ED aB dV bI bn iterM)
set_option linter.unusedVariables false
set_option linter.unusedSimpArgs false
theorem gB.scan {ω:Type} {step:Nat→Int→Option (ω⊕Int)} {p:Nat→Bool} {L:Nat} {no yes:ω} (h1:∀i,i<L→p i=true→gB (fun n=>step n (i:Int)) (.inr ((i+1:Nat):Int))) (h2:∀i,i<L→p i=false→gB (fun n=>step n (i:Int)) (.inl no)) (h3:gB (fun n=>step n (L:Int)) (.inl yes)) :
  gB (fun n=>iterM n (step n) 0) (if(List.range L).all p=true then yes else no):=by
 obtain⟨w,k1,k2⟩:=UZ (step:=step) (fun s=>L-s.toNat) (fun s=>∃i:Nat,i≤L∧s=i∧∀j,j<i→p j=true) (fun w=>w=if(List.range L).all p=true then yes else no) (fun s ⟨i,i1,i2,i3⟩=>by
  subst i2;rcases Nat.lt_or_ge i L with h | h
  ·cases hp:p i with
   | true=>exact .inr ⟨_,h1 i h hp,⟨i+1,by omega,rfl,fun j hj=>by rcases Nat.lt_or_eq_of_le (Nat.le_of_lt_succ hj) with q | q; exact i3 j q; rw[q]; exact hp⟩,by simp; omega⟩
   | false=>
    refine .inl ⟨_,h2 i h hp,?_⟩;rw[if_neg];intro hall;rw[List.all_eq_true] at hall;rw[hall i (List.mem_range.2 h)] at hp; cases hp
  ·have:i=L:=by omega
   subst this;refine .inl ⟨_,h3,?_⟩;rw[if_pos];rw[List.all_eq_true];exact fun j hj=>i3 j (List.mem_range.1 hj)) 0 ⟨0,Nat.zero_le _,rfl,fun j hj=>by omega⟩
 exact k2▸k1
theorem abW {α ω:Type} {step:Unit→Nat→α→Option (ω⊕Unit)} {p:α→Bool} {no:ω} {f:Unit→Option ω}:∀{xs:List α} {i:Nat},(∀i x,x∈xs→step () i x=if p x=true then some (.inr ()) else some (.inl no))→bn (Mx.bI step i xs ()) f=if xs.all p=true then f () else some no
 | [],i,_=>by simp[Mx.bI,Mx.bn]
 | x::r,i,h=>by
  have hx:=h i x (List.mem_cons_self);have ih:=abW (step:=step) (p:=p) (no:=no) (f:=f) (xs:=r) (i:=i+1) (fun i y hy=>h i y (List.mem_cons_of_mem _ hy));simp only[Mx.bI,hx,List.all_cons,Bool.and_eq_true];cases hp:p x with
  | true=>simpa [hp] using ih
  | false=>simp[Mx.bn]
theorem iC {i:Nat} (h:i<9223372036854775807):aX ((i:Int)+1)=((i+1:Nat):Int):=by rw[jW (by omega) (by omega)]; omega
theorem Y9 {α ω:Type} {step:Unit→Nat→α→Option (ω⊕Unit)} {p:Nat→Bool} {no:ω} {f:Unit→Option ω}:∀{xs:List α} {i:Nat},(∀j x,xs[j]? = some x→step () (i+j) x=if p (i+j)=true then some (.inr ()) else some (.inl no))→bn (Mx.bI step i xs ()) f=if(List.range xs.length).all (fun j=>p (i+j))=true then f () else some no
 | [],i,_=>by simp[Mx.bI,Mx.bn]
 | x::r,i,h=>by
  have hx:=h 0 x rfl;have ih:=Y9 (step:=step) (p:=p) (no:=no) (f:=f) (xs:=r) (i:=i+1) (fun j y hy=>by have:=h (j+1) y (by simpa using hy); rwa [show i+(j+1)=i+1+j by omega] at this);simp only[Nat.add_zero] at hx;simp only[Mx.bI,hx,List.length_cons,List.range_succ_eq_map,List.all_cons,List.all_map,Bool.and_eq_true,Nat.add_zero];have e:((fun j=>p (i+j))∘Nat.succ)=fun j=>p (i+1+j):=by funext j; simp only[Function.comp]; congr 1; omega
  rw[e];cases hp:p i with
  | true=>simpa [hp] using ih
  | false=>simp[Mx.bn]
def QK (c:UInt8):Bool:=(decide (97≤c.toNat)&&decide (c.toNat≤122))||c==42||c==63||c==61||c==43||c==60
def Za (c:UInt8):Bool:=(decide (48≤c.toNat)&&decide (c.toNat≤57))||c==45
def Ko (s:List UInt8) (i:Nat):Bool:=match s[i]? with
 | some c=>QK c||(!(i==0)&&Za c)
 | none=>false
def nameB (s:List UInt8):Bool:=(decide (s=[46,46,46])||decide (s=[95]))||((List.range s.length).all (Ko s)&&(decide (1≤s.length)&&decide (s.length≤12)))
theorem G8 {c d:UInt8}:c=d↔c.toNat=d.toNat:=⟨fun h=>by rw[h],fun h=>UInt8.toNat_inj.1 h⟩
theorem Ov (y:UInt8):((if(y.toNat:Int)≥48 then(if(y.toNat:Int)≤57 then some true else some (decide ((y.toNat:Int)=45))) else some (decide ((y.toNat:Int)=45))):Option Bool)=some (Za y):=by
 have e:decide ((y.toNat:Int)=45)=(y==45):=by
  by_cases h:y=45
  ·subst h; rfl
  ·have:¬(y.toNat:Int)=45:=fun h'=>h (G8.2 (by show y.toNat=45; omega));simp[h,this]
 rw[e];unfold Za;by_cases h1:(y.toNat:Int)≥48
 ·rw[if_pos h1];by_cases h2:(y.toNat:Int)≤57
  ·rw[if_pos h2]; simp[show 48≤y.toNat by omega,show y.toNat≤57 by omega]
  ·rw[if_neg h2]; simp[show ¬y.toNat≤57 by omega]
 ·rw[if_neg h1]; simp[show ¬48≤y.toNat by omega]
theorem MX (n:Nat) (a b c:Int):iY n a b c=some (decide (b≤a)&&decide (a≤c)):=by
 unfold iY;by_cases h:a≥b
 ·rw[if_pos h]; simp[show b≤a from h]
 ·rw[if_neg h]; simp[show ¬b≤a from h]
theorem Zb:∀(l:List UInt8) (c:UInt8),0≤Lib.indexByte l c↔c∈l
 | [],c=>by simp[Lib.indexByte]
 | b::l,c=>by
  have ih:=Zb l c;have hg:=Lib.indexByte_ge l c;unfold Lib.indexByte;by_cases hb:b=c
  ·subst hb; simp
  ·have hb':(b==c)=false:=by simpa using hb
   rw[hb',List.mem_cons,← ih];have hbc:¬c=b:=fun h=>hb h.symm;simp only[Bool.false_eq_true,if_false,hbc,false_or];by_cases h1:Lib.indexByte l c=-1
   ·simp[h1]
   ·simp only[beq_iff_eq,h1,if_false]; omega
theorem adt (l:List UInt8) (c:UInt8):decide (Lib.indexByte l c≥0)=l.contains c:=by
 rw[Bool.eq_iff_iff]; simp only[decide_eq_true_eq,List.contains_iff_mem]; exact Zb l c
theorem adu (y:UInt8):((if(y.toNat:Int)≥97 then(if(y.toNat:Int)≤122 then some true else some (decide (Lib.indexByte [42,63,61,43,60] y≥0))) else some (decide (Lib.indexByte [42,63,61,43,60] y≥0))):Option Bool)=some (QK y):=by
 have e:decide (Lib.indexByte [42,63,61,43,60] y≥0)=(y==42||y==63||y==61||y==43||y==60):=by
  rw[adt]; simp only[List.contains_cons,List.contains_nil,Bool.or_false,Bool.or_assoc]
 rw[e];unfold QK;by_cases h1:(y.toNat:Int)≥97
 ·rw[if_pos h1];by_cases h2:(y.toNat:Int)≤122
  ·rw[if_pos h2];simp[show 97≤y.toNat by omega,show y.toNat≤122 by omega]
  ·rw[if_neg h2];simp[show ¬y.toNat≤122 by omega]
 ·rw[if_neg h1];simp[show ¬97≤y.toNat by omega]
theorem abg (y:UInt8):((y.toNat:Int).toNat).toUInt8=y:=by
 rw[Int.toNat_natCast]; exact UInt8.ofNat_toNat
theorem U8 (s:List UInt8) (hs:s.length≤Ht):gB (fun n=>lT n s) (nameB s):=by
 unfold Ht at hs;unfold lT;simp only[strings_IndexByte,abg,Option.bind_some,adu,Ov];by_cases h0:s=[46,46,46]
 ·simp only[h0,if_true,Option.bind_some]; exact .pure _
 rw[if_neg h0];simp only[Option.bind_some];by_cases h1:s=[95]
 ·simp only[h1,decide_true,if_true]; exact .pure _
 simp only[h1,decide_false,Bool.false_eq_true,if_false];have e:nameB s=if(List.range s.length).all (Ko s)=true then(decide (1≤s.length)&&decide (s.length≤12)) else false:=by
  unfold nameB; simp only[h0,h1,decide_false,Bool.false_or,Bool.or_self];cases (List.range s.length).all (Ko s) <;> simp
 rw[e];refine gB.scan (L:=s.length) (p:=Ko s) (fun i hi hp=>?_) (fun i hi hp=>?_) ?_
 ·refine .pos (by omega) ?_;have hy:=List.getElem?_eq_getElem hi;unfold Ko at hp;rw[hy] at hp;simp only at hp;refine gB.const ?_;rw[dW hy];simp only[Option.bind_some];cases hc:QK s[i] with
  | true=>simp only[if_true,Mx.bn,Option.bind_some,iC (i:=i) (by omega)]
  | false=>
   rw[hc,Bool.false_or,Bool.and_eq_true] at hp;have hi0:(i:Int)>0:=by
    have:i≠0:=by simpa using hp.1
    omega
   simp only[Bool.false_eq_true,if_false,if_pos hi0,Ov,hp.2,Option.bind_some,if_true,Mx.bn,iC (i:=i) (by omega)]
 ·refine .pos (by omega) ?_;have hy:=List.getElem?_eq_getElem hi;unfold Ko at hp;rw[hy] at hp;simp only[Bool.or_eq_false_iff] at hp;refine gB.const ?_;rw[dW hy];simp only[Option.bind_some,hp.1,Bool.false_eq_true,if_false];by_cases hi0:(i:Int)>0
  ·have:(i==0)=false:=by simp; omega
   have hd:Za s[i]=false:=by simpa [this] using hp.2
   simp only[if_pos hi0,Ov,hd,Option.bind_some,Bool.false_eq_true,if_false,Mx.bn]
  ·simp only[if_neg hi0,Option.bind_some,Bool.false_eq_true,if_false,Mx.bn]
 ·refine .neg (by omega) ?_;simp only[MX,Option.bind_some];refine .const ?_;have a1:decide ((1:Int)≤(s.length:Int))=decide (1≤s.length):=by simp only[decide_eq_decide]; omega
  have a2:decide ((s.length:Int)≤12)=decide (s.length≤12):=by simp only[decide_eq_decide]; omega
  rw[a1,a2]
theorem afy (n:Nat) (y:UInt8) (f:Bool):su n (y.toNat:Int) f=some (QK y||(!f&&Za y)):=by
 unfold su;simp only[Ov];have q:∀k:Nat,decide ((y.toNat:Int)=(k:Int))=decide (y.toNat=k):=fun k=>by simp only[decide_eq_decide]; omega
 have e:((if(y.toNat:Int)=42 then some true else(if(y.toNat:Int)=63 then some true else(if(y.toNat:Int)=61 then some true else(if(y.toNat:Int)=43 then some true else some (decide ((y.toNat:Int)=60)))))):Option Bool)=some (y==42||y==63||y==61||y==43||y==60):=by
  have w:∀(k:Nat) (d:UInt8),d.toNat=k→((y.toNat:Int)=(k:Int)↔y=d):=fun k d hd=>by rw[G8,hd]; omega
  have w1:(y.toNat:Int)=42↔y=42:=w 42 42 rfl;have w2:(y.toNat:Int)=63↔y=63:=w 63 63 rfl;have w3:(y.toNat:Int)=61↔y=61:=w 61 61 rfl;have w4:(y.toNat:Int)=43↔y=43:=w 43 43 rfl;have w5:(y.toNat:Int)=60↔y=60:=w 60 60 rfl;by_cases h1:y=42
  ·rw[if_pos (w1.2 h1),h1]; rfl
  rw[if_neg (fun h=>h1 (w1.1 h))];by_cases h2:y=63
  ·rw[if_pos (w2.2 h2),h2]; rfl
  rw[if_neg (fun h=>h2 (w2.1 h))];by_cases h3:y=61
  ·rw[if_pos (w3.2 h3),h3]; rfl
  rw[if_neg (fun h=>h3 (w3.1 h))];by_cases h4:y=43
  ·rw[if_pos (w4.2 h4),h4]; rfl
  rw[if_neg (fun h=>h4 (w4.1 h))];have:decide ((y.toNat:Int)=60)=(y==60):=by rw[Bool.eq_iff_iff]; simp only[decide_eq_true_eq,beq_iff_eq]; exact w5
  rw[this];simp[h1,h2,h3,h4]
 rw[e];have e2:((if(y.toNat:Int)≥97 then(if(y.toNat:Int)≤122 then some true else some (y==42||y==63||y==61||y==43||y==60)) else some (y==42||y==63||y==61||y==43||y==60)):Option Bool)=some (QK y):=by
  unfold QK;by_cases h1:(y.toNat:Int)≥97
  ·rw[if_pos h1];by_cases h2:(y.toNat:Int)≤122
   ·rw[if_pos h2]; simp[show 97≤y.toNat by omega,show y.toNat≤122 by omega]
   ·rw[if_neg h2]; simp[show ¬y.toNat≤122 by omega]
  ·rw[if_neg h1]; simp[show ¬97≤y.toNat by omega]
 rw[e2];cases QK y <;> cases f <;> simp
theorem IK (s:List UInt8) (hs:s.length≤Ht):gB (fun n=>jh n s) (nameB s):=by
 unfold Ht at hs;unfold jh;simp only[afy,Option.bind_some];by_cases h0:s=[46,46,46]
 ·simp only[h0,if_true,Option.bind_some]; exact .pure _
 rw[if_neg h0];simp only[Option.bind_some];by_cases h1:s=[95]
 ·simp only[h1,decide_true,if_true]; exact .pure _
 simp only[h1,decide_false,Bool.false_eq_true,if_false];have hb:nameB s=if(List.range (min s.length 13)).all (Ko s)=true then(decide (1≤s.length)&&decide (s.length≤12)) else false:=by
  unfold nameB; simp only[h0,h1,decide_false,Bool.false_or,Bool.or_self];by_cases hl:s.length≤12
  ·rw[Nat.min_eq_left (by omega)];cases (List.range s.length).all (Ko s) <;> simp
  ·simp[hl]
 rw[hb];refine gB.scan (L:=min s.length 13) (p:=Ko s) (fun i hi hp=>?_) (fun i hi hp=>?_) ?_
 ·have hi':i<s.length:=by omega
  have hy:=List.getElem?_eq_getElem hi';unfold Ko at hp;rw[hy] at hp;simp only at hp;refine gB.const ?_;have c1:(i:Int)<(s.length:Int):=by omega
  have c2:decide ((i:Int)≤12)=true:=by simp; omega
  have c3:decide ((i:Int)=0)=(i==0):=by rw[Bool.eq_iff_iff]; simp
  rw[if_pos c1,c2,c3];simp only[Option.bind_some,if_true,dW hy,hp,Bool.not_true,Bool.false_eq_true,if_false,iC (i:=i) (by omega)]
 ·have hi':i<s.length:=by omega
  have hy:=List.getElem?_eq_getElem hi';unfold Ko at hp;rw[hy] at hp;simp only at hp;refine gB.const ?_;have c1:(i:Int)<(s.length:Int):=by omega
  have c2:decide ((i:Int)≤12)=true:=by simp; omega
  have c3:decide ((i:Int)=0)=(i==0):=by rw[Bool.eq_iff_iff]; simp
  rw[if_pos c1,c2,c3];simp only[Option.bind_some,if_true,dW hy,hp,Bool.not_false]
 ·refine gB.const ?_;have e:((if((min s.length 13:Nat):Int)<(s.length:Int) then some (decide (((min s.length 13:Nat):Int)≤12)) else some false):Option Bool)=some false:=by
   by_cases h:((min s.length 13:Nat):Int)<(s.length:Int)
   ·rw[if_pos h]; congr 1; simp; omega
   ·rw[if_neg h]
  rw[e];have a1:decide ((s.length:Int)≤12)=decide (s.length≤12):=by simp only[decide_eq_decide]; omega
  by_cases h:(s.length:Int)≥1
  ·simp only[Option.bind_some,Bool.false_eq_true,if_false,if_pos h,a1,show decide (1≤s.length)=true from decide_eq_true (by omega),Bool.true_and]
  ·simp only[Option.bind_some,Bool.false_eq_true,if_false,if_neg h,show decide (1≤s.length)=false from decide_eq_false (by omega),Bool.false_and]
def scP (l:List Int) (i:Nat):Bool:=match l[i]? with
 | some x=>(decide (1≤x)&&decide (x≤99))&&(i==0||(match l[i-1]? with
  | some y=>decide (y<x)
  | none=>false))
 | none=>false
def WW (l:List Int):Bool:=(List.range l.length).all (scP l)&&decide (l.length≤24)
def IQ:Nat→Form→Bool
 | 0,_=>false
 | d+1,f=>if f.kind=1 then nameB f.name&&(decide (f.n=0)&&(WW f.scopes&&decide (f.kids.length=0))) else
   if f.kind=2 then decide (f.name=[])&&((decide (0≤f.n)&&decide (f.n≤999))&&(decide (f.scopes.length=0)&&decide (f.kids.length=0))) else
   if f.kind=3 then decide (f.name=[])&&(decide (f.n=0)&&(decide (f.scopes.length=0)&&f.kids.all (IQ d))) else false
mutual
def cF:Form→Nat
 | ⟨_,_,_,_,kids⟩=>1+iG kids
def iG:List Form→Nat
 | []=>0
 | x::r=>cF x+iG r
end
theorem qC (f:Form):cF f=1+iG f.kids:=by cases f; simp only[cF]
mutual
theorem Kq:∀f:Form,cF f≤wF f+1
 | ⟨k,nm,n,sc,kids⟩=>by have:=Zc kids; simp only[cF,wF]; omega
theorem Zc:∀l:List Form,iG l≤oQ l+l.length
 | []=>by simp[iG]
 | x::r=>by have:=Kq x; have:=Zc r; simp only[iG,oQ,List.length_cons]; omega
end
theorem rJ:∀{l:List Form} {x:Form},x∈l→cF x≤iG l
 | y::r,x,h=>by
  simp only[iG];rcases List.mem_cons.1 h with rfl | h
  ·omega
  ·have:=rJ h; omega
def eP (f:Form):Bool:=IQ 40 f&&decide (cF f≤400)
mutual
theorem G9:∀f:Form,wF f≤1073741824→okF f
 | ⟨k,nm,n,sc,kids⟩,h=>by simp only[wF] at h; simp only[okF,Ht]; exact⟨by omega,by omega,by omega,Zd kids (by omega)⟩
theorem Zd:∀l:List Form,oQ l≤1073741824→Hu l
 | [],_=>trivial
 | x::r,h=>by simp only[oQ] at h; simp only[Hu]; exact⟨G9 x (by omega),Zd r (by omega)⟩
end
theorem adv (n:Nat) (l:List Int) (hl:l.length≤Ht):rY n l=some (WW l):=by
 unfold Ht at hl;unfold rY;rw[Y9 (p:=scP l) (no:=false)]
 ·simp only[Nat.zero_add];unfold WW;have a2:decide ((l.length:Int)≤24)=decide (l.length≤24):=by simp only[decide_eq_decide]; omega
  show(if(List.range l.length).all (scP l)=true then _ else _)=_;rw[a2];cases (List.range l.length).all (scP l) <;> simp
 ·intro j x hx;simp only[Nat.zero_add];have hj:j<l.length:=(List.getElem?_eq_some_iff.1 hx).1;simp only[MX,Option.bind_some,scP,hx];by_cases h1:(decide (1≤x)&&decide (x≤99))=true
  ·simp only[h1,Bool.not_true,Bool.false_eq_true,if_false,Bool.true_and];by_cases h0:(j:Int)>0
   ·have e:aX ((j:Int)-1)=((j-1:Nat):Int):=by rw[jW (by omega) (by omega)]; omega
    have hy:=List.getElem?_eq_getElem (l:=l) (i:=j-1) (by omega);have hj0:(j==0)=false:=by simp; omega
    rw[if_pos h0,e,dW hy,hj0];simp only[Option.bind_some,hy,Bool.false_or];by_cases hlt:l[j-1]<x
    ·simp[hlt]
    ·simp[hlt,show l[j-1]≥x by omega]
   ·have hj0:j=0:=by omega
    subst hj0;simp
  ·have h1':(decide (1≤x)&&decide (x≤99))=false:=by simpa using h1
   simp[h1']
theorem Ze (f:Form) (hf:okF f) (d:Nat) (hd:d≤40) (L:Nat) (hL:L≤400):Ex (fun n=>uq n f ((41-d:Nat):Int) (L:Int)) (fun r=>(r.1=true↔IQ d f=true∧cF f≤L)∧(r.1=true→r.2=((L-cF f:Nat):Int))):=by
 obtain⟨o1,o2,o3,o4⟩:=(okF_eq f).1 hf;have hc:=qC f;refine .succ ?_;simp only[uq];have e1:aX ((L:Int)-1)=(L:Int)-1:=jW (by omega) (by omega);rw[e1];by_cases h0:(L:Int)-1<0
 ·simp only[if_pos h0,Option.bind_some,if_true];refine .pure ⟨⟨fun h=>(by cases h),fun h=>(by omega)⟩,fun h=>(by cases h)⟩
 rw[if_neg h0];by_cases hd0:d=0
 ·subst hd0;simp only[show decide (((41-0:Nat):Int)>40)=true from rfl,Option.bind_some,if_true];refine .pure ⟨⟨fun h=>(by cases h),fun h=>(by simp[IQ] at h)⟩,fun h=>(by cases h)⟩
 obtain⟨d,rfl⟩:∃e,d=e+1:=⟨d-1,by omega⟩
 have hdd:decide (((41-(d+1):Nat):Int)>40)=false:=by simp; omega
 simp only[hdd,Option.bind_some,Bool.false_eq_true,if_false,IQ];have kz:decide ((f.kids.length:Int)=0)=decide (f.kids.length=0):=by simp only[decide_eq_decide]; omega
 have sz:decide ((f.scopes.length:Int)=0)=decide (f.scopes.length=0):=by simp only[decide_eq_decide]; omega
 have fin:∀b:Bool,(f.kids.length=0∨b=false)→((b,(L:Int)-1).1=true↔b=true∧cF f≤L)∧((b,(L:Int)-1).1=true→(b,(L:Int)-1).2=((L-cF f:Nat):Int)):=fun b hb=>by
  rcases hb with hb | hb
  ·have hk:f.kids=[]:=List.eq_nil_of_length_eq_zero hb;have hc1:cF f=1:=by rw[hc,hk]; rfl
   exact⟨⟨fun h=>⟨h,by omega⟩,fun h=>h.1⟩,fun _=>by simp only; omega⟩
  ·subst hb;exact⟨⟨fun h=>(by cases h),fun h=>(by cases h.1)⟩,fun h=>(by cases h)⟩
 by_cases k1:f.kind=1
 ·rw[if_pos k1];simp only[if_pos k1];refine Ex.bind (P:=fun b=>b=(nameB f.name&&(decide (f.n=0)&&(WW f.scopes&&decide (f.kids.length=0))))) ?_ ?_
  ·refine .bv (U8 _ o1) ?_;cases hn:nameB f.name with
   | false=>exact .neg (by simp) (.pure (by simp))
   | true=>
    refine .pos rfl ?_;by_cases h2:f.n=0
    ·refine .pos h2 ?_;simp only[adv _ _ o2,Option.bind_some];cases hs:WW f.scopes with
     | false=>exact .neg (by simp) (.pure (by simp))
     | true=>exact .pos rfl (.pure (by simp[kz,h2]))
    ·exact .neg h2 (.pure (by simp[h2]))
  ·rintro b rfl;refine .pure (fin _ ?_);by_cases hk:f.kids.length=0
   ·exact .inl hk
   ·exact .inr (by simp[hk])
 rw[if_neg k1];simp only[if_neg k1];by_cases k2:f.kind=2
 ·rw[if_pos k2];simp only[if_pos k2];refine Ex.bind (P:=fun b=>b=(decide (f.name=[])&&((decide (0≤f.n)&&decide (f.n≤999))&&(decide (f.scopes.length=0)&&decide (f.kids.length=0))))) ?_ ?_
  ·by_cases h1:f.name=[]
   ·refine .pos h1 ?_;simp only[MX,Option.bind_some];by_cases h2:(decide (0≤f.n)&&decide (f.n≤999))=true
    ·refine .pos h2 ?_;by_cases h3:f.scopes.length=0
     ·exact .pos (by omega) (.pure (by rw[kz,h2]; simp only[h1,h3,decide_true,Bool.true_and]))
     ·exact .neg (by omega) (.pure (by simp only[h3,decide_false,Bool.false_and,Bool.and_false]))
    ·exact .neg h2 (.pure (by simp only[Bool.not_eq_true] at h2; rw[h2]; simp))
   ·exact .neg h1 (.pure (by simp[h1]))
  ·rintro b rfl;refine .pure (fin _ ?_);by_cases hk:f.kids.length=0
   ·exact .inl hk
   ·exact .inr (by simp[hk])
 rw[if_neg k2];simp only[if_neg k2];by_cases k3:f.kind=3
 ·rw[if_pos k3];simp only[if_pos k3];refine Ex.bind (P:=fun b=>b=!(decide (f.name=[])&&(decide (f.n=0)&&decide (f.scopes.length=0)))) ?_ ?_
  ·by_cases h1:f.name=[]
   ·refine .neg (by simp[h1]) ?_;by_cases h2:f.n=0
    ·refine .neg (by simp[h2]) (.pure ?_);by_cases h3:f.scopes.length=0
     ·have h3':¬(f.scopes.length:Int)>0:=by omega
      rw[decide_eq_false h3',decide_eq_true h1,decide_eq_true h2,decide_eq_true h3]; rfl
     ·have h3':(f.scopes.length:Int)>0:=by omega
      rw[decide_eq_true h3',decide_eq_true h1,decide_eq_true h2,decide_eq_false h3]; rfl
    ·exact .pos h2 (.pure (by simp[h1,h2]))
   ·exact .pos h1 (.pure (by simp[h1]))
  ·rintro b rfl;cases hq:(decide (f.name=[])&&(decide (f.n=0)&&decide (f.scopes.length=0))) with
   | false=>
    refine .pos rfl (.pure ⟨⟨fun h=>(by cases h),fun h=>?_⟩,fun h=>(by cases h)⟩);have:=h.1;simp only[Bool.and_eq_true] at this;rw[this.1,this.2.1,this.2.2.1] at hq; cases hq
   | true=>
    have hq':∀b,(decide (f.name=[])&&(decide (f.n=0)&&(decide (f.scopes.length=0)&&b)))=b:=fun b=>by
     simp only[Bool.and_eq_true] at hq;rw[hq.1,hq.2.1,hq.2.2]; simp
    rw[hq'];refine .neg (by simp) ?_;have e2:aX (((41-(d+1):Nat):Int)+1)=((41-d:Nat):Int):=by rw[jW (by omega) (by omega)]; omega
    rw[e2];refine Ex.bn (P:=fun o=>match o with
     | .inl w=>w.1=false∧¬(f.kids.all (IQ d)=true∧iG f.kids≤L-1)
     | .inr s=>f.kids.all (IQ d)=true∧iG f.kids≤L-1∧s=((L-1-iG f.kids:Nat):Int)) ?_ ?_ ?_
    ·refine Ex.bI (I:=fun i q s=>∃u:Nat,s=(u:Int)∧u≤400∧(f.kids.all (IQ d)=true∧iG f.kids≤L-1↔q.all (IQ d)=true∧iG q≤u)∧u+iG f.kids=L-1+iG q∧∀x∈q,x∈f.kids) ?_ ?_ ?_
     ·exact⟨L-1,by omega,by omega,Iff.rfl,rfl,fun _ h=>h⟩
     ·rintro i x q s ⟨u,rfl,hu,hiff,hsum,hmem⟩;have hx:=hmem x (List.mem_cons_self);refine Ex.bind (Ze x (JJ.1 o4 x hx) d (by omega) u hu) ?_;rintro ⟨b,s'⟩ ⟨r1,r2⟩;simp only at r1 r2;cases b with
      | false=>
       refine .pos rfl (.fo ⟨rfl,fun h=>?_⟩);have h':=hiff.1 h;simp only[List.all_cons,Bool.and_eq_true,iG] at h';have:=r1.2 ⟨h'.1.1,by omega⟩;cases this
      | true=>
       obtain⟨q1,q2⟩:=r1.1 rfl;refine .neg (by simp) (.fg ⟨u-cF x,r2 rfl,by omega,?_,by simp only[iG] at hsum; omega,fun y hy=>hmem y (List.mem_cons_of_mem _ hy)⟩);rw[hiff];simp only[List.all_cons,Bool.and_eq_true,iG,q1,true_and];constructor <;> intro h <;> exact⟨h.1,by omega⟩
     ·rintro s ⟨u,rfl,hu,hiff,hsum,_⟩;have h:=hiff.2 ⟨rfl,by simp[iG]⟩;simp only[iG] at hsum;exact⟨h.1,h.2,by omega⟩
    ·rintro ⟨b,s⟩ ⟨h1,h2⟩;simp only at h1;subst h1;refine⟨⟨fun h=>(by cases h),fun h=>absurd ⟨h.1,by omega⟩ h2⟩,fun h=>(by cases h)⟩
    ·rintro s ⟨h1,h2,h3⟩;exact .pure ⟨⟨fun _=>⟨h1,by omega⟩,fun _=>rfl⟩,fun _=>by simp only; omega⟩
 ·rw[if_neg k3];simp only[if_neg k3];exact .pure ⟨⟨fun h=>(by cases h),fun h=>(by cases h.1)⟩,fun h=>(by cases h)⟩
termination_by SizeOf.sizeOf f
decreasing_by exact jo hx
theorem Ox (f:Form) (hf:okF f):gB (fun n=>jO n f) (eP f):=by
 refine Ex.yV ?_;unfold jO;refine Ex.bind (Ze f hf 40 (by omega) 400 (by omega)) ?_;rintro ⟨b,s⟩ ⟨r1,_⟩;refine .pure ?_;simp only at r1 ⊢;unfold eP;rw[Bool.eq_iff_iff,r1];simp
theorem Oy (l:List Int) (hl:l.length≤Ht):gB (fun n=>kZ n l) (WW l):=by
 unfold Ht at hl;unfold kZ;have hb:WW l=if(List.range (min l.length 25)).all (scP l)=true then decide (l.length≤24) else false:=by
  unfold WW;by_cases h:l.length≤24
  ·rw[Nat.min_eq_left (by omega)];cases (List.range l.length).all (scP l) <;> simp
  ·simp[h]
 rw[hb];have step:∀i,i<min l.length 25→(Option.bind ((if(i:Int)<(l.length:Int) then some (decide ((i:Int)≤24)) else some false):Option (Bool)) (fun(o3:Bool)=>(if o3=true then Option.bind ((gW l (i:Int)).bind fun e7=>(if e7<1 then some true else(if e7>99 then some true else(if(i:Int)>0 then(gW l (aX ((i:Int)-1))).bind fun e11=>some (decide (e7≤e11)) else some false))):Option (Bool)) (fun(o5:Bool)=>(if o5=true then some (Sum.inl false) else some (Sum.inr (aX ((i:Int)+1))))) else some (Sum.inl (decide ((l.length:Int)≤24))))):Option (Bool⊕Int))=if scP l i=true then some (.inr ((i+1:Nat):Int)) else some (.inl false):=fun i hi=>by
  have hi':i<l.length:=by omega
  have hy:=List.getElem?_eq_getElem hi';rw[if_pos (by omega),decide_eq_true (by omega:(i:Int)≤24)];simp only[Option.bind_some,if_true,dW hy,iC (i:=i) (by omega),scP,hy];by_cases h1:l[i]<1
  ·rw[if_pos h1]; simp[show ¬1≤l[i] by omega]
  rw[if_neg h1];by_cases h2:l[i]>99
  ·rw[if_pos h2]; simp[show ¬l[i]≤99 by omega]
  rw[if_neg h2];by_cases h0:(i:Int)>0
  ·have e:aX ((i:Int)-1)=((i-1:Nat):Int):=by rw[jW (by omega) (by omega)]; omega
   have hz:=List.getElem?_eq_getElem (l:=l) (i:=i-1) (by omega);have hi0:(i==0)=false:=by simp; omega
   rw[if_pos h0,e,dW hz,hi0];simp only[Option.bind_some,hz,Bool.false_or];by_cases hlt:l[i-1]<l[i]
   ·simp[hlt,show 1≤l[i] by omega,show l[i]≤99 by omega]
   ·simp[hlt,show l[i]≤l[i-1] by omega]
  ·have hi0:(i==0)=true:=by simp; omega
   rw[if_neg h0,hi0];simp[show 1≤l[i] by omega,show l[i]≤99 by omega]
 refine gB.scan (L:=min l.length 25) (p:=scP l) (fun i hi hp=>.const ?_) (fun i hi hp=>.const ?_) (.const ?_)
 ·rw[step i hi,if_pos hp]
 ·rw[step i hi,if_neg (by simp[hp])]
 ·have e:((if((min l.length 25:Nat):Int)<(l.length:Int) then some (decide (((min l.length 25:Nat):Int)≤24)) else some false):Option Bool)=some false:=by
   by_cases h:((min l.length 25:Nat):Int)<(l.length:Int)
   ·rw[if_pos h]; congr 1; simp; omega
   ·rw[if_neg h]
  have a1:decide ((l.length:Int)≤24)=decide (l.length≤24):=by simp only[decide_eq_decide]; omega
  rw[e,a1]; rfl
theorem Ex.allI {α ω:Type} {m:Nat→α→Option Bool} {p:α→Bool} {no:ω} {xs:List α} {f:Nat→Unit→Option ω} {Q:ω→Prop} (h:∀x∈xs,gB (fun n=>m n x) (p x)) (hy:xs.all p=true→Ex (fun n=>f n ()) Q) (hn:xs.all p=false→Q no) :
  Ex (fun n=>Mx.bn (Mx.bI (fun(_:Unit) (_:Nat) (x:α)=>((m n x).bind fun k=>(if(!k)=true then some (Sum.inl no) else some (Sum.inr ())):Option (ω⊕Unit))) 0 xs ()) (f n)) Q:=by
 refine Ex.bn (P:=fun o=>match o with
  | .inl w=>w=no∧xs.all p=false
  | .inr _=>xs.all p=true) ?_ ?_ ?_
 ·refine Ex.bI (I:=fun i q s=>(∀x∈q,x∈xs)∧xs.all p=q.all p) ⟨fun _ h=>h,rfl⟩ ?_ ?_
  ·rintro i x q s ⟨h1,h2⟩;refine .bv (h x (h1 x (List.mem_cons_self))) ?_;cases hp:p x with
   | true=>exact .neg (by simp) (.fg ⟨fun y hy=>h1 y (List.mem_cons_of_mem _ hy),by rw[h2,List.all_cons,hp,Bool.true_and]⟩)
   | false=>exact .pos rfl (.fo ⟨rfl,by rw[h2,List.all_cons,hp,Bool.false_and]⟩)
  ·rintro s ⟨_,h2⟩;exact h2
 ·rintro w ⟨rfl,h⟩; exact hn h
 ·rintro ⟨⟩ h; exact hy h
theorem U9 (f:Form) (hf:okF f) (d:Nat) (hd:d≤40):gB (fun n=>yZ n f (d:Int)) (IQ d f):=by
 obtain⟨o1,o2,o3,o4⟩:=(okF_eq f).1 hf;refine .succ ?_;simp only[yZ];by_cases hd0:d=0
 ·subst hd0;exact .pos rfl (.pure _)
 obtain⟨d,rfl⟩:∃e,d=e+1:=⟨d-1,by omega⟩
 refine .neg (by omega) ?_;have kz:decide ((f.kids.length:Int)=0)=decide (f.kids.length=0):=by simp only[decide_eq_decide]; omega
 simp only[IQ];refine Ex.yV ?_;by_cases k1:f.kind=1
 ·rw[if_pos k1];simp only[if_pos k1];refine Ex.bind (P:=fun b=>b=(nameB f.name&&(decide (f.n=0)&&(WW f.scopes&&decide (f.kids.length=0))))) ?_ (fun b hb=>.pure hb);refine .bv (IK _ o1) ?_;cases hn:nameB f.name with
  | false=>exact .neg (by simp) (.pure (by simp))
  | true=>
   refine .pos rfl ?_;by_cases h2:f.n=0
   ·refine .pos h2 (.bv (Oy _ o2) ?_);cases hs:WW f.scopes with
    | false=>exact .neg (by simp) (.pure (by simp))
    | true=>exact .pos rfl (.pure (by simp[kz,h2]))
   ·exact .neg h2 (.pure (by simp[h2]))
 rw[if_neg k1];simp only[if_neg k1];by_cases k2:f.kind=2
 ·rw[if_pos k2];simp only[if_pos k2];refine Ex.bind (P:=fun b=>b=(decide (f.name=[])&&((decide (0≤f.n)&&decide (f.n≤999))&&(decide (f.scopes.length=0)&&decide (f.kids.length=0))))) ?_ (fun b hb=>.pure hb);by_cases h1:f.name=[]
  ·refine .pos h1 ?_;by_cases h2:f.n≥0
   ·refine .pos h2 ?_;by_cases h4:f.n≤999
    ·refine .pos h4 ?_;by_cases h3:f.scopes.length=0
     ·exact .pos (by omega) (.pure (by rw[kz,decide_eq_true h1,decide_eq_true (show 0≤f.n from h2),decide_eq_true h4,decide_eq_true h3]; simp))
     ·exact .neg (by omega) (.pure (by rw[decide_eq_false h3]; simp))
    ·exact .neg h4 (.pure (by rw[decide_eq_false h4]; simp))
   ·exact .neg h2 (.pure (by rw[decide_eq_false (show ¬0≤f.n from h2)]; simp))
  ·exact .neg h1 (.pure (by simp[h1]))
 rw[if_neg k2];simp only[if_neg k2];by_cases k3:f.kind=3
 ·simp only[k3,not_true_eq_false,if_false,if_true];refine Ex.bind (P:=fun b=>b=!(decide (f.name=[])&&(decide (f.n=0)&&decide (f.scopes.length=0)))) ?_ ?_
  ·by_cases h1:f.name=[]
   ·refine .neg (by simp[h1]) ?_;by_cases h2:f.n=0
    ·refine .neg (by simp[h2]) (.pure ?_);by_cases h3:f.scopes.length=0
     ·have h3':¬¬(f.scopes.length:Int)=0:=by omega
      rw[decide_eq_false h3',decide_eq_true h1,decide_eq_true h2,decide_eq_true h3]; rfl
     ·have h3':¬(f.scopes.length:Int)=0:=by omega
      rw[decide_eq_true h3',decide_eq_true h1,decide_eq_true h2,decide_eq_false h3]; rfl
    ·exact .pos h2 (.pure (by simp[h1,h2]))
   ·exact .pos h1 (.pure (by simp[h1]))
  ·rintro b rfl;have hq':(decide (f.name=[])&&(decide (f.n=0)&&(decide (f.scopes.length=0)&&f.kids.all (IQ d))))=((decide (f.name=[])&&(decide (f.n=0)&&decide (f.scopes.length=0)))&&f.kids.all (IQ d)):=by simp only[Bool.and_assoc]
   rw[hq'];cases (decide (f.name=[])&&(decide (f.n=0)&&decide (f.scopes.length=0))) with
   | false=>exact .pos rfl (.pure rfl)
   | true=>
    refine .neg (by simp) ?_;have e2:aX (((d+1:Nat):Int)-1)=(d:Int):=by rw[jW (by omega) (by omega)]; omega
    rw[e2];exact Ex.allI (m:=fun n x=>yZ n x (d:Int)) (p:=IQ d) (fun x hx=>U9 x (JJ.1 o4 x hx) d (by omega)) (fun h=>.pure (by rw[h]; rfl)) (fun h=>by rw[h]; rfl)
 ·simp only[if_neg k3];refine Ex.bind (P:=fun b=>b=true) (.pos k3 (.pure rfl)) ?_;rintro b rfl;exact .pos rfl (.pure rfl)
termination_by SizeOf.sizeOf f
decreasing_by exact jo hx
theorem Ex.afz {α:Type} {m:Nat→α→Option Int} {c:α→Nat} {cs:List α→Nat} (hn:cs []=0) (hc:∀x r,cs (x::r)=c x+cs r) {xs:List α} {b:Nat} (hb:b+cs xs≤4611686018427387904) (h:∀x∈xs,gB (fun n=>m n x) (c x:Int)) :
  gB (fun n=>Mx.dV (fun(s:Int) (_:Nat) (x:α)=>(m n x).bind fun k=>some (aX (s+k))) 0 xs (b:Int)) ((b+cs xs:Nat):Int):=by
 refine Ex.yV ?_;refine Ex.dV (I:=fun i q s=>∃u:Nat,s=(u:Int)∧u+cs q=b+cs xs∧∀x∈q,x∈xs) ⟨b,rfl,rfl,fun _ h=>h⟩ ?_ ?_
 ·rintro i x q s ⟨u,rfl,h1,h2⟩;refine .bv (h x (h2 x (List.mem_cons_self))) (.pure ⟨u+c x,?_,by rw[hc] at h1; omega,fun y hy=>h2 y (List.mem_cons_of_mem _ hy)⟩);rw[hc] at h1;rw[jW (by omega) (by omega)]; omega
 ·rintro s ⟨u,rfl,h1,_⟩;rw[hn] at h1;rw[← h1]; rfl
theorem Oz (f:Form) (hw:cF f≤4611686018427387904):gB (fun n=>kY n f) (cF f:Int):=by
 have hc:=qC f;refine .succ ?_;simp only[kY];rw[hc];refine .bind (a:=((1+iG f.kids:Nat):Int)) ?_ (.pure _);exact Ex.afz (b:=1) (c:=cF) (cs:=iG) rfl (fun _ _=>rfl) (by omega) (fun x hx=>Oz x (by have:=rJ hx; omega))
termination_by SizeOf.sizeOf f
decreasing_by exact jo hx
theorem EZ (f:Form) (hf:okF f) (hw:cF f≤4611686018427387904):gB (fun n=>bQ n f) (eP f):=by
 refine Ex.yV ?_;unfold bQ eP;refine Ex.bind (P:=fun b=>b=(IQ 40 f&&decide (cF f≤400))) ?_ (fun b hb=>.pure hb);refine .bv (U9 f hf 40 (by omega)) ?_;cases IQ 40 f with
 | false=>exact .neg (by simp) (.pure rfl)
 | true=>
  refine .pos rfl (.bv (Oz f hw) (.pure ?_));rw[Bool.true_and]; simp only[decide_eq_decide]; omega
def all2 {α β:Type} (p:α→β→Bool):List α→List β→Bool
 | [],[]=>true
 | x::r,y::s=>p x y&&all2 p r s
 | _,_=>false
theorem Ex.eqI {α:Type} {m:Nat→α→α→Option Bool} {p:α→α→Bool} {xs ys:List α} (hl:xs.length=ys.length) (h:∀x∈xs,∀y,gB (fun n=>m n x y) (p x y)) :
  gB (fun n=>Mx.bn (Mx.bI (fun(_:Unit) (i:Nat) (x:α)=>((gW ys (i:Int)).bind fun e=>(m n x e).bind fun k=>(if(!k)=true then some (Sum.inl false) else some (Sum.inr ())):Option (Bool⊕Unit))) 0 xs ()) (fun _=>some true)) (all2 p xs ys):=by
 refine Ex.yV ?_;refine Ex.bn (P:=fun o=>match o with
  | .inl w=>w=false∧all2 p xs ys=false
  | .inr _=>all2 p xs ys=true) ?_ ?_ ?_
 ·refine Ex.bI (I:=fun i q s=>(∀x∈q,x∈xs)∧∃z,ys.drop i=z∧q.length=z.length∧all2 p xs ys=all2 p q z) ⟨fun _ h=>h,ys,rfl,hl,rfl⟩ ?_ ?_
  ·rintro i x q s ⟨h1,z,hz,h3,h2⟩;cases z with
   | nil=>simp at h3
   | cons y z=>
    obtain⟨g1,g2,_,_⟩:=jC hz;refine .bp y (dW g1) (.bv (h x (h1 x (List.mem_cons_self)) y) ?_);cases hp:p x y with
    | true=>exact .neg (by simp) (.fg ⟨fun w hw=>h1 w (List.mem_cons_of_mem _ hw),z,g2,by simpa using h3,by rw[h2]; simp only[all2,hp,Bool.true_and]⟩)
    | false=>exact .pos rfl (.fo ⟨rfl,by rw[h2]; simp only[all2,hp,Bool.false_and]⟩)
  ·rintro s ⟨_,z,hz,h3,h2⟩;have:z=[]:=List.eq_nil_of_length_eq_zero (by simpa using h3.symm);subst this;exact h2
 ·rintro w ⟨rfl,h⟩; exact h.symm
 ·rintro ⟨⟩ h; exact .pure h.symm
theorem Va {α:Type} [DecidableEq α]:∀{xs ys:List α},all2 (fun x y=>decide (x=y)) xs ys=decide (xs=ys)
 | [],[]=>rfl
 | x::r,y::s=>by
  simp only[all2,Va (xs:=r) (ys:=s)];rw[Bool.eq_iff_iff]; simp
 | [],_::_=>by simp[all2]
 | _::_,[]=>by simp[all2]
theorem Vb {a b:List Int}:gB (fun(_:Nat)=>(if ¬(a.length:Int)=(b.length:Int) then some false else bn (bI (fun(s5:Unit) (i4:Nat) (x7:Int)=>((gW b (i4:Int)).bind fun e12=>(if ¬x7=e12 then some (Sum.inl false) else some (Sum.inr ())):Option (Bool⊕Unit))) 0 a ()) (fun(s5:Unit)=>some true))) (decide (a=b)):=by
 by_cases h:a.length=b.length
 ·refine .neg (by omega) ?_;have:=Ex.eqI (m:=fun _ (x y:Int)=>some (decide (x=y))) (p:=fun x y=>decide (x=y)) h (fun x _ y=>.pure _);rw[Va] at this
  simpa only[Option.bind_some,Bool.not_eq_true',decide_eq_false_iff_not] using this
 ·refine .pos (by omega) ?_;have:¬a=b:=fun e=>h (by rw[e]);simp only[this,decide_false]; exact .pure _
mutual
def iH:Form→Form→Bool
 | ⟨k,nm,n,sc,kids⟩,b=>decide (k=b.kind)&&(decide (nm=b.name)&&(decide (n=b.n)&&(decide (sc=b.scopes)&&jv kids b.kids)))
def jv:List Form→List Form→Bool
 | [],[]=>true
 | x::r,y::s=>iH x y&&jv r s
 | _,_=>false
end
mutual
def Ba:Core→Core→Bool
 | ⟨k,id,nm,n,ids,dt,kids⟩,b=>decide (k=b.kind)&&(decide (id=b.id)&&(decide (nm=b.name)&&(decide (n=b.n)&&(decide (ids=b.ids)&&(iH dt b.data&&lG kids b.kids)))))
def lG:List Core→List Core→Bool
 | [],[]=>true
 | x::r,y::s=>Ba x y&&lG r s
 | _,_=>false
end
mutual
theorem Gl:∀{a b:Form},iH a b=true↔a=b
 | ⟨k,nm,n,sc,kids⟩,⟨k',nm',n',sc',afA⟩=>by
  simp only[iH,Bool.and_eq_true,decide_eq_true_eq,D5,Form.mk.injEq]
theorem D5:∀{a b:List Form},jv a b=true↔a=b
 | [],[]=>by simp[jv]
 | x::r,y::s=>by simp only[jv,Bool.and_eq_true,Gl,D5,List.cons.injEq]
 | [],_::_=>by simp[jv]
 | _::_,[]=>by simp[jv]
end
mutual
theorem WX:∀{a b:Core},Ba a b=true↔a=b
 | ⟨k,id,nm,n,ids,dt,kids⟩,⟨k',id',nm',n',ajp,dt',afA⟩=>by
  simp only[Ba,Bool.and_eq_true,decide_eq_true_eq,zq,Gl,Core.mk.injEq]
theorem zq:∀{a b:List Core},lG a b=true↔a=b
 | [],[]=>by simp[lG]
 | x::r,y::s=>by simp only[lG,Bool.and_eq_true,WX,zq,List.cons.injEq]
 | [],_::_=>by simp[lG]
 | _::_,[]=>by simp[lG]
end
theorem D6:∀{a b:List Form},jv a b=all2 iH a b
 | [],[]=>by simp[jv,all2]
 | x::r,y::s=>by simp only[jv,all2,D6 (a:=r)]
 | [],_::_=>by simp[jv,all2]
 | _::_,[]=>by simp[jv,all2]
theorem Kr:∀{a b:List Core},lG a b=all2 Ba a b
 | [],[]=>by simp[lG,all2]
 | x::r,y::s=>by simp only[lG,all2,Kr (a:=r)]
 | [],_::_=>by simp[lG,all2]
 | _::_,[]=>by simp[lG,all2]
theorem QL (a b:Form):iH a b=(decide (a.kind=b.kind)&&(decide (a.name=b.name)&&(decide (a.n=b.n)&&(decide (a.scopes=b.scopes)&&jv a.kids b.kids)))):=by cases a; simp only[iH]
theorem QM (a b:Core):Ba a b=(decide (a.kind=b.kind)&&(decide (a.id=b.id)&&(decide (a.name=b.name)&&(decide (a.n=b.n)&&(decide (a.ids=b.ids)&&(iH a.data b.data&&lG a.kids b.kids)))))):=by cases a; simp only[Ba]
theorem Kt {a b:List Form} (h:¬a.length=b.length):jv a b=false:=by
 cases hs:jv a b with
 | false=>rfl
 | true=>exact absurd (by rw[D5.1 hs]) h
theorem Ub {a b:List Core} (h:¬a.length=b.length):lG a b=false:=by
 cases hs:lG a b with
 | false=>rfl
 | true=>exact absurd (by rw[zq.1 hs]) h
theorem QN (a b:List Int):gB (fun n=>slices_Equal_int n a b) (decide (a=b)):=Vb
theorem OA (a b:Form):gB (fun n=>iF n a b) (iH a b):=by
 refine .succ ?_;simp only[iF];rw[QL];refine Ex.yV ?_;refine Ex.bind (P:=fun o=>o=(decide (a.kind=b.kind)&&(decide (a.name=b.name)&&(decide (a.n=b.n)&&(decide (a.scopes=b.scopes)&&jv a.kids b.kids))))) ?_ (fun _ h=>.pure h);by_cases h1:a.kind=b.kind
 ·refine .pos h1 ?_;by_cases h2:a.name=b.name
  ·refine .pos h2 ?_;by_cases h3:a.n=b.n
   ·refine .pos h3 (.bv (QN _ _) ?_);rw[decide_eq_true h1,decide_eq_true h2,decide_eq_true h3];simp only[Bool.true_and];by_cases h4:a.scopes=b.scopes
    ·rw[decide_eq_true h4];refine .pos rfl ?_;have hk:gB (fun n=>bW n a.kids b.kids) (jv a.kids b.kids):=by
      refine .succ ?_;simp only[bW];by_cases hl:a.kids.length=b.kids.length
      ·refine .neg (by omega) ?_;rw[D6];exact Ex.eqI (m:=fun n x e=>iF n x e) hl (fun x hx y=>OA x y)
      ·rw[Kt hl]; exact .pos (by omega) (.pure _)
     exact .bv hk (.pure rfl)
    ·rw[decide_eq_false h4];exact .neg (by simp) (.pure rfl)
   ·exact .neg h3 (.pure (by rw[decide_eq_false h3]; simp))
  ·exact .neg h2 (.pure (by rw[decide_eq_false h2]; simp))
 ·exact .neg h1 (.pure (by rw[decide_eq_false h1]; rfl))
termination_by SizeOf.sizeOf a
decreasing_by exact jo hx
theorem Vd (a b:Core):gB (fun n=>jK n a b) (Ba a b):=by
 refine .succ ?_;simp only[jK];rw[QM];refine Ex.yV ?_;refine Ex.bind (P:=fun o=>o=(decide (a.kind=b.kind)&&(decide (a.id=b.id)&&(decide (a.name=b.name)&&(decide (a.n=b.n)&&(decide (a.ids=b.ids)&&(iH a.data b.data&&lG a.kids b.kids))))))) ?_ (fun _ h=>.pure h);by_cases h1:a.kind=b.kind
 ·refine .pos h1 ?_;by_cases h0:a.id=b.id
  ·refine .pos h0 ?_;by_cases h2:a.name=b.name
   ·refine .pos h2 ?_;by_cases h3:a.n=b.n
    ·refine .pos h3 (.bv (QN _ _) ?_);rw[decide_eq_true h1,decide_eq_true h2,decide_eq_true h3,decide_eq_true h0];simp only[Bool.true_and];by_cases h4:a.ids=b.ids
     ·rw[decide_eq_true h4];refine .pos rfl (.bv (OA _ _) ?_);cases hd:iH a.data b.data with
      | false=>exact .neg (by simp) (.pure rfl)
      | true=>
       refine .pos rfl ?_;have hk:gB (fun n=>bY n a.kids b.kids) (lG a.kids b.kids):=by
        refine .succ ?_;simp only[bY];by_cases hl:a.kids.length=b.kids.length
        ·refine .neg (by omega) ?_;rw[Kr];exact Ex.eqI (m:=fun n x e=>jK n x e) hl (fun x hx y=>Vd x y)
        ·rw[Ub hl]; exact .pos (by omega) (.pure _)
       exact .bv hk (.pure rfl)
     ·rw[decide_eq_false h4];exact .neg (by simp) (.pure rfl)
    ·exact .neg h3 (.pure (by rw[decide_eq_false h3]; simp))
   ·exact .neg h2 (.pure (by rw[decide_eq_false h2]; simp))
  ·exact .neg h0 (.pure (by rw[decide_eq_false h0]; simp))
 ·exact .neg h1 (.pure (by rw[decide_eq_false h1]; rfl))
termination_by SizeOf.sizeOf a
decreasing_by exact yT hx
theorem Ku (a b:List Int):gB (fun n=>uz n a b) (decide (a=b)):=Vb
theorem zu (a b:Form):gB (fun n=>fC n a b) (iH a b):=by
 refine .succ ?_;simp only[fC];rw[QL];refine Ex.yV ?_;refine Ex.bind (P:=fun o=>o=!(decide (a.kind=b.kind)&&(decide (a.name=b.name)&&(decide (a.n=b.n)&&(decide (a.scopes=b.scopes)&&decide (a.kids.length=b.kids.length)))))) ?_ ?_
 ·by_cases h1:a.kind=b.kind
  ·refine .neg (fun h=>h h1) ?_;by_cases h2:a.name=b.name
   ·refine .neg (fun h=>h h2) ?_;by_cases h3:a.n=b.n
    ·refine .neg (fun h=>h h3) (.bv (Ku _ _) ?_);rw[decide_eq_true h1,decide_eq_true h2,decide_eq_true h3];simp only[Bool.true_and];by_cases h4:a.scopes=b.scopes
     ·rw[decide_eq_true h4];refine .neg (by simp) (.pure ?_);by_cases h5:a.kids.length=b.kids.length
      ·rw[decide_eq_true h5,decide_eq_false (show ¬¬(a.kids.length:Int)=(b.kids.length:Int) by omega)]; rfl
      ·rw[decide_eq_false h5,decide_eq_true (show ¬(a.kids.length:Int)=(b.kids.length:Int) by omega)]; rfl
     ·rw[decide_eq_false h4];exact .pos rfl (.pure rfl)
    ·exact .pos h3 (.pure (by rw[decide_eq_false h3]; simp))
   ·exact .pos h2 (.pure (by rw[decide_eq_false h2]; simp))
  ·exact .pos h1 (.pure (by rw[decide_eq_false h1]; rfl))
 ·rintro o rfl;by_cases h5:a.kids.length=b.kids.length
  ·rw[decide_eq_true h5];cases e1:decide (a.kind=b.kind) with
   | false=>exact .pos rfl (.pure rfl)
   | true=>
    cases e2:decide (a.name=b.name) with
    | false=>exact .pos rfl (.pure rfl)
    | true=>
     cases e3:decide (a.n=b.n) with
     | false=>exact .pos rfl (.pure rfl)
     | true=>
      cases e4:decide (a.scopes=b.scopes) with
      | false=>exact .pos rfl (.pure rfl)
      | true=>
       refine .neg (by simp) ?_;simp only[Bool.true_and];rw[D6];exact(Ex.eqI (m:=fun n x e=>fC n x e) h5 (fun x hx y=>zu x y)).ex
  ·rw[decide_eq_false h5,Kt h5];refine .pos (by simp) (.pure (by simp))
termination_by SizeOf.sizeOf a
decreasing_by exact jo hx
def zF:Form:=⟨0,[],0,[],[]⟩
mutual
def yD:Form→List Int
 | ⟨_,_,_,sc,kids⟩=>sc++vK kids
def vK:List Form→List Int
 | []=>[]
 | x::r=>yD x++vK r
end
mutual
def OB:Form→Form
 | ⟨k,nm,n,_,kids⟩=>⟨k,nm,n,[],Kv kids⟩
def Kv:List Form→List Form
 | []=>[]
 | x::r=>OB x::Kv r
end
def Gm (f:Form):Bool:=decide (yD f=[])
theorem Zf (f:Form):yD f=f.scopes++vK f.kids:=by cases f; simp only[yD]
theorem abh (f:Form):OB f=⟨f.kind,f.name,f.n,[],Kv f.kids⟩:=by cases f; simp only[OB]
theorem MZ:∀l:List Form,Kv l=l.map OB
 | []=>rfl
 | x::r=>by simp only[Kv,List.map_cons,MZ r]
mutual
theorem Kw:∀f:Form,(yD f).length≤wF f
 | ⟨k,nm,n,sc,kids⟩=>by have:=Na kids; simp only[yD,wF,List.length_append]; omega
theorem Na:∀l:List Form,(vK l).length≤oQ l
 | []=>by simp[vK]
 | x::r=>by have:=Kw x; have:=Na r; simp only[vK,oQ,List.length_append]; omega
end
mutual
theorem QO:∀f:Form,iH (OB f) f=Gm f
 | ⟨k,nm,n,sc,kids⟩=>by
  have ih:=Nb kids;rw[Bool.eq_iff_iff];simp only[OB,iH,Gm,yD,ih,decide_true,Bool.true_and,Bool.and_eq_true,decide_eq_true_eq,List.append_eq_nil_iff];exact⟨fun⟨a,b⟩=>⟨a.symm,b⟩,fun⟨a,b⟩=>⟨a.symm,b⟩⟩
theorem Nb:∀l:List Form,jv (Kv l) l=decide (vK l=[])
 | []=>rfl
 | x::r=>by
  have ih:=QO x;have ih2:=Nb r;rw[Bool.eq_iff_iff];simp only[Kv,jv,ih,ih2,Gm,vK,Bool.and_eq_true,decide_eq_true_eq,List.append_eq_nil_iff]
end
def RJ (c:Core):Bool:=
 (if c.kind=1 then decide (1≤c.id)&&decide (c.id≤999) else decide (c.id=0)) &&
 ((if c.kind=2 then nameB c.name else decide (c.name=[])) &&
 ((if c.kind=3 then decide (0≤c.n)&&decide (c.n≤999) else decide (c.n=0)) &&
 ((if c.kind=4 then eP c.data&&Gm c.data else iH c.data zF) &&
 (decide (c.kind=5)||decide (c.ids=[])))))
def E5 (k:Int) (m:Nat):Bool:=if k=1∨k=2∨k=3∨k=4 then decide (m=0) else if k=5 then decide (m=1) else if k=6 then decide (1≤m) else if k=7 then decide (m=3) else false
def Nc:List Int→List Int→Option (List Int)
 | sc,[]=>some sc
 | sc,x::r=>if(1≤x∧x≤999)∧x∉sc then Nc (sc++[x]) r else none
theorem OC:∀{ids sc s:List Int},Nc sc ids=some s→s.length=sc.length+ids.length
 | [],sc,s,h=>by cases h; rfl
 | x::r,sc,s,h=>by
  simp only[Nc] at h;split at h
  ·have:=OC h; simp at this ⊢; omega
  ·cases h
def zM:Nat→List Int→Core→Bool
 | 0,_,_=>false
 | d+1,sc,c=>E5 c.kind c.kids.length&&(RJ c&&((!decide (c.kind=1)||decide (c.id∈sc))&&(match Nc sc c.ids with
  | none=>false
  | some s=>c.kids.all (zM d s))))
mutual
def cC:Core→Nat
 | ⟨_,_,_,_,_,_,kids⟩=>1+Ed kids
def Ed:List Core→Nat
 | []=>0
 | x::r=>cC x+Ed r
end
theorem Ve (f:Core):cC f=1+Ed f.kids:=by cases f; simp only[cC]
mutual
theorem Ky:∀f:Core,cC f≤wC f+1
 | ⟨k,id,nm,n,ids,dt,kids⟩=>by have:=Zg kids; simp only[cC,wC]; omega
theorem Zg:∀l:List Core,Ed l≤xE l+l.length
 | []=>by simp[Ed]
 | x::r=>by have:=Ky x; have:=Zg r; simp only[Ed,xE,List.length_cons]; omega
end
theorem Vf:∀{l:List Core} {x:Core},x∈l→cC x≤Ed l
 | y::r,x,h=>by
  simp only[Ed];rcases List.mem_cons.1 h with rfl | h
  ·omega
  ·have:=Vf h; omega
def lH (c:Core):Bool:=zM 120 [] c&&decide (cC c≤600)
theorem Vg (n:Nat) (l:List Int) (x:Int):slices_Contains_int n l x=some (decide (x∈l)):=by
 unfold slices_Contains_int slices_Index_int;have main:∀(l:List Int) (i:Nat),∃k:Int,bn (Mx.bI (fun(_:Unit) (i:Nat) (y:Int)=>((if x=y then some (Sum.inl (i:Int)) else some (Sum.inr ())):Option (Int⊕Unit))) i l ()) (fun _=>some (-1))=some k∧(k≥0↔x∈l):=by
  intro l
  induction l with
  | nil=>intro i; exact⟨-1,rfl,by simp⟩
  | cons y r ih=>
   intro i;by_cases h:x=y
   ·subst h;exact⟨(i:Int),by simp[Mx.bI,Mx.bn],by simp⟩
   ·obtain⟨k,h1,h2⟩:=ih (i+1);refine⟨k,?_,by rw[h2]; simp[h]⟩;rw[← h1];simp[Mx.bI,h]
 obtain⟨k,h1,h2⟩:=main l 0;rw[h1,Option.bind_some];congr 1;rw[Bool.eq_iff_iff,decide_eq_true_eq,decide_eq_true_eq]; exact h2
theorem Zh (n:Nat) (l:List Int) (x:Int):fG n l x=some (decide (x∈l)):=Vg n l x
theorem Vh (f:Form) (w:List Int) (hw:w.length+wF f≤1073741824):gB (fun n=>dR n f w) (w++yD f):=by
 have he:=Dh f;refine .succ ?_;simp only[dR,rH];refine Ex.yV ?_;rw[cZ (by omega)];simp only[Option.bind_some];refine Ex.bind (P:=fun s=>s=w++yD f) ?_ (fun s hs=>.pure hs);refine Ex.dV (I:=fun i q s=>s++vK q=w++yD f∧s.length+oQ q+q.length≤1073741824∧∀x∈q,x∈f.kids) ⟨by rw[Zf,List.append_assoc],by simp; omega,fun _ h=>h⟩ ?_ ?_
 ·rintro i x q s ⟨h1,h2,h3⟩;simp only[oQ,List.length_cons] at h2;have g4:=h3 x (List.mem_cons_self);refine .bv (Vh x s (by omega)) (.pure ⟨?_,?_,fun y hy=>h3 y (List.mem_cons_of_mem _ hy)⟩)
  ·rw[← h1]; simp only[vK,List.append_assoc]
  ·have:=Kw x;simp only[List.length_append]; omega
 ·rintro s ⟨h1,_,_⟩
  simpa [vK] using h1
termination_by SizeOf.sizeOf f
decreasing_by exact jo g4
theorem QS {l:List Int}:(Lib.compact l).length=0↔l=[]:=by
 constructor
 ·intro h;cases l with
  | nil=>rfl
  | cons x r=>
   exfalso;have h:Lib.compact (x::r)=[]:=List.eq_nil_of_length_eq_zero h;unfold Lib.compact Lib.compactUpTo at h;rw[List.map_eq_nil_iff,List.filter_eq_nil_iff] at h;exact h 0 (by simp) (by simp[Lib.keeps])
 ·rintro rfl; rfl
theorem abj (f:Form) (hw:wF f≤1073741824) (hv:eP f=true):Ex (fun n=>rZ n f) (fun r=>decide ((r.length:Int)>0)=!Gm f):=by
 unfold rZ;refine .bv (Ox f (G9 f hw)) ?_;rw[hv];refine .neg (by simp) (.bv (Vh f [] (by simp; omega)) ?_);have hl:=Kw f;rw[List.nil_append];unfold kK kW;refine .bp _ (if_pos (by omega)) (.bp () (aa2 (by simp)) (.bp _ rfl (.pure ?_)));unfold Gm;generalize hs:(yD f).mergeSort (fun x y=>decide (x≤y))=s;have hsl:s.length=(yD f).length:=by rw[← hs]; simp
 by_cases h:yD f=[]
 ·have:s=[]:=List.eq_nil_of_length_eq_zero (by rw[hsl,h]; rfl);rw[this,h]; rfl
 ·have h1:s≠[]:=fun e=>h (List.eq_nil_of_length_eq_zero (by rw[← hsl,e]; rfl));have h2:(Lib.compact s).length≠0:=fun e=>h1 (QS.1 e);rw[decide_eq_true (by omega),decide_eq_false h]; rfl
theorem adw (sc ids:List Int) (hl:sc.length+ids.length≤1073741824) {ω:Type} (no:ω) (N:Nat):Mx.bI (fun(LC:List Int) (i40:Nat) (x43:Int)=>(Option.bind ((iY N x43 1 999).bind fun k51=>(if(!k51)=true then some true else(fG N LC x43).bind fun k53=>some k53):Option (Bool)) (fun(o48:Bool)=>(if o48=true then some (Sum.inl no) else(jm 8 LC [x43]).bind fun z50=>some (Sum.inr z50))):Option (ω⊕(List Int)))) 0 ids sc=some (match Nc sc ids with
  | none=>.inl no
  | some s=>.inr s):=by
 have main:∀(ids sc:List Int) (i:Nat),sc.length+ids.length≤1073741824→Mx.bI (fun(LC:List Int) (i40:Nat) (x43:Int)=>(Option.bind ((iY N x43 1 999).bind fun k51=>(if(!k51)=true then some true else(fG N LC x43).bind fun k53=>some k53):Option (Bool)) (fun(o48:Bool)=>(if o48=true then some (Sum.inl no) else(jm 8 LC [x43]).bind fun z50=>some (Sum.inr z50))):Option (ω⊕(List Int)))) i ids sc=some (match Nc sc ids with
  | none=>.inl no
  | some s=>.inr s):=by
  simp only[MX,Zh,Option.bind_some];intro ids
  induction ids with
  | nil=>intro sc i _; rfl
  | cons x r ih=>
   intro sc i hb;simp only[List.length_cons] at hb;simp only[Mx.bI,Nc];by_cases h1:1≤x∧x≤999
   ·simp only[h1.1,h1.2,decide_true,Bool.and_self,Bool.not_true,Bool.false_eq_true,if_false,Option.bind_some,true_and,and_self];by_cases h2:x∈sc
    ·simp only[h2,decide_true,if_true,Option.bind_some,not_true_eq_false,if_false]
    ·simp only[h2,decide_false,Bool.false_eq_true,if_false,not_false_eq_true,if_true];rw[cZ (by simp; omega)];simp only[Option.bind_some];exact ih (sc++[x]) (i+1) (by simp; omega)
   ·have h1':(decide (1≤x)&&decide (x≤999))=false:=by
     rw[Bool.eq_false_iff]; simpa using h1
    simp only[h1',Bool.not_false,if_true,Option.bind_some,h1,false_and,if_false]
 exact main ids sc 0 hl
def WY (c:Core):Bool:=
 (if c.kind=1 then decide (1≤c.id)&&decide (c.id≤999) else decide (c.id=0)) &&
 ((if c.kind=2 then nameB c.name else decide (c.name=[])) &&
 ((if c.kind=3 then decide (0≤c.n)&&decide (c.n≤999) else decide (c.n=0)) &&
 (if c.kind=4 then eP c.data&&Gm c.data else iH c.data zF)))
theorem adx (c:Core):RJ c=(WY c&&(decide (c.kind=5)||decide (c.ids=[]))):=by simp only[RJ,WY,Bool.and_assoc]
theorem E8 {c:Core} (h:c.kind≠5) (d:Nat) (sc:List Int):zM (d+1) sc c=(E5 c.kind c.kids.length&&(WY c&&((!decide (c.kind=1)||decide (c.id∈sc))&&(decide (c.ids=[])&&c.kids.all (zM d sc))))):=by
 simp only[zM,adx,decide_eq_false h,Bool.false_or];by_cases hi:c.ids=[]
 ·rw[hi];simp only[Nc,decide_true,Bool.and_true,Bool.true_and]
 ·rw[decide_eq_false hi]; simp
theorem bare_eq (c:Core) (a:Int) (b:List UInt8) (e:Int) (g:List Int) (dt:Form):Ba c ⟨c.kind,a,b,e,g,dt,c.kids⟩=(decide (c.id=a)&&(decide (c.name=b)&&(decide (c.n=e)&&(decide (c.ids=g)&&iH c.data dt)))):=by
 rw[QM];simp only[decide_true,Bool.true_and,zq.2,Bool.and_true]
theorem kd1 (m:Nat):E5 1 m=decide (m=0):=by simp[E5]
theorem kd2 (m:Nat):E5 2 m=decide (m=0):=by simp[E5]
theorem kd3 (m:Nat):E5 3 m=decide (m=0):=by simp[E5]
theorem kd4 (m:Nat):E5 4 m=decide (m=0):=by simp[E5]
theorem kd5 (m:Nat):E5 5 m=decide (m=1):=by simp[E5]
theorem kd6 (m:Nat):E5 6 m=decide (1≤m):=by simp[E5]
theorem kd7 (m:Nat):E5 7 m=decide (m=3):=by simp[E5]
theorem OD (c:Core) (k:Nat):decide ((c.kids.length:Int)=(k:Int))=decide (c.kids.length=k):=by simp only[decide_eq_decide]; omega
theorem Zi (c:Core) (d:Nat) (hd:d≤120) (sc:List Int) (hw:sc.length+wC c≤1073741824) (L:Nat) (hL:L≤600):Ex (fun n=>uw n c sc ((121-d:Nat):Int) (L:Int)) (fun r=>(r.1=true↔zM d sc c=true∧cC c≤L)∧(r.1=true→r.2=((L-cC c:Nat):Int))):=by
 have he:=EG c;have hc:=Ve c;refine .succ ?_;simp only[uw];have e1:aX ((L:Int)-1)=(L:Int)-1:=jW (by omega) (by omega);rw[e1];by_cases h0:(L:Int)-1<0
 ·simp only[if_pos h0,Option.bind_some,if_true];refine .pure ⟨⟨fun h=>(by cases h),fun h=>(by omega)⟩,fun h=>(by cases h)⟩
 rw[if_neg h0];by_cases hd0:d=0
 ·subst hd0;simp only[show decide (((121-0:Nat):Int)>120)=true from rfl,Option.bind_some,if_true];refine .pure ⟨⟨fun h=>(by cases h),fun h=>(by simp[zM] at h)⟩,fun h=>(by cases h)⟩
 obtain⟨d,rfl⟩:∃e,d=e+1:=⟨d-1,by omega⟩
 have hdd:decide (((121-(d+1):Nat):Int)>120)=false:=by simp; omega
 simp only[hdd,Option.bind_some,Bool.false_eq_true,if_false];have l0:decide ((c.kids.length:Int)=0)=decide (c.kids.length=0):=OD c 0;have l1:decide ((c.kids.length:Int)=1)=decide (c.kids.length=1):=OD c 1;have l3:decide ((c.kids.length:Int)=3)=decide (c.kids.length=3):=OD c 3;refine Ex.bn (P:=fun o=>match o with
  | .inl w=>w=(false,(L:Int)-1)∧zM (d+1) sc c=false
  | .inr t=>zM (d+1) sc c=(decide ((c.kids.length:Int)=t.1)&&(Ba c ⟨c.kind,t.2.2.1,t.2.2.2.1,t.2.2.2.2.1,t.2.2.2.2.2.1,⟨t.2.2.2.2.2.2.1,t.2.2.2.2.2.2.2.1,t.2.2.2.2.2.2.2.2.1,t.2.2.2.2.2.2.2.2.2.1,t.2.2.2.2.2.2.2.2.2.2⟩,c.kids⟩&&c.kids.all (zM d t.2.1)))∧t.2.1.length≤sc.length+c.ids.length) ?_ ?_ ?_
 ·by_cases k1:c.kind=1
  ·refine .pos k1 ?_;have hcr:=E8 (c:=c) (by omega) d sc;simp only[MX,Vg,Option.bind_some];rw[k1] at hcr;simp only[decide_true,Bool.not_true,Bool.false_or] at hcr;refine Ex.bind (P:=fun o=>o=!((decide (1≤c.id)&&decide (c.id≤999))&&decide (c.id∈sc))) ?_ ?_
   ·cases (decide (1≤c.id)&&decide (c.id≤999)) with
    | false=>exact .pos rfl (.pure rfl)
    | true=>exact .neg (by simp) (.pure (by simp))
   ·rintro o rfl;have hf:WY c=((decide (1≤c.id)&&decide (c.id≤999))&&(decide (c.name=[])&&(decide (c.n=0)&&iH c.data zF))):=by unfold WY; simp[k1]
    rw[hf] at hcr;cases hq:((decide (1≤c.id)&&decide (c.id≤999))&&decide (c.id∈sc)) with
    | false=>
     refine .pos rfl (.pure ⟨rfl,?_⟩);rw[hcr];rcases Bool.and_eq_false_iff.1 hq with h | h <;> rw[h] <;> simp
    | true=>
     obtain⟨h1,h2⟩:=(Bool.and_eq_true _ _▸hq:_∧_)
     refine .neg (by simp) (.pure ⟨?_,by simp⟩);rw[hcr,bare_eq,h1,h2];simp only[decide_true,Bool.true_and,l0,l1,l3,kd1,kd2,kd3,kd4,kd6,kd7,zF]
     ac_rfl
  refine .neg k1 ?_;by_cases k2:c.kind=2
  ·refine .pos k2 (.bv (U8 _ (by unfold Ht; omega)) ?_);have hcr:=E8 (c:=c) (by omega) d sc;have hf:WY c=(decide (c.id=0)&&(nameB c.name&&(decide (c.n=0)&&iH c.data zF))):=by unfold WY; simp[k2]
   rw[hf,k2] at hcr;cases hq:nameB c.name with
   | false=>exact .pos rfl (.pure ⟨rfl,by rw[hcr,hq]; simp⟩)
   | true=>
    refine .neg (by simp) (.pure ⟨?_,by simp⟩);rw[hcr,bare_eq,hq];simp only[decide_true,Bool.true_and,l0,l1,l3,kd1,kd2,kd3,kd4,kd6,kd7,zF,show decide ((2:Int)=1)=false from rfl,Bool.not_false,Bool.true_or]
    ac_rfl
  refine .neg k2 ?_;by_cases k3:c.kind=3
  ·refine .pos k3 ?_;have hcr:=E8 (c:=c) (by omega) d sc;have hf:WY c=(decide (c.id=0)&&(decide (c.name=[])&&((decide (0≤c.n)&&decide (c.n≤999))&&iH c.data zF))):=by unfold WY; simp[k3]
   rw[hf,k3] at hcr;simp only[MX,Option.bind_some];cases hq:(decide (0≤c.n)&&decide (c.n≤999)) with
   | false=>exact .pos rfl (.pure ⟨rfl,by rw[hcr,hq]; simp⟩)
   | true=>
    refine .neg (by simp) (.pure ⟨?_,by simp⟩);rw[hcr,bare_eq,hq];simp only[decide_true,Bool.true_and,l0,l1,l3,kd1,kd2,kd3,kd4,kd6,kd7,zF,show decide ((3:Int)=1)=false from rfl,Bool.not_false,Bool.true_or]
    ac_rfl
  refine .neg k3 ?_;by_cases k4:c.kind=4
  ·refine .pos k4 ?_;have hcr:=E8 (c:=c) (by omega) d sc;have hf:WY c=(decide (c.id=0)&&(decide (c.name=[])&&(decide (c.n=0)&&(eP c.data&&Gm c.data)))):=by unfold WY; simp[k4]
   rw[hf,k4] at hcr;refine Ex.bind (P:=fun o=>o=!(eP c.data&&Gm c.data)) ?_ ?_
   ·refine .bv (Ox _ (G9 _ (by omega))) ?_;cases hv:eP c.data with
    | false=>exact .pos rfl (.pure rfl)
    | true=>
     refine .neg (by simp) (Ex.bind (abj _ (by omega) hv) ?_);intro r hr;exact .pure (by rw[hr,Bool.true_and])
   ·rintro o rfl;cases hq:(eP c.data&&Gm c.data) with
    | false=>exact .pos rfl (.pure ⟨rfl,by rw[hcr,hq]; simp⟩)
    | true=>
     refine .neg (by simp) (.pure ⟨?_,by simp⟩);have hd0:iH c.data ⟨c.data.kind,c.data.name,c.data.n,c.data.scopes,c.data.kids⟩=true:=Gl.2 (by cases c.data; rfl);rw[hcr,bare_eq,hq];simp only[];rw[hd0];simp only[decide_true,Bool.true_and,l0,l1,l3,kd1,kd2,kd3,kd4,kd6,kd7,show decide ((4:Int)=1)=false from rfl,Bool.not_false,Bool.true_or,Bool.and_true]
     ac_rfl
  refine .neg k4 ?_;by_cases k5:c.kind=5
  ·refine .pos k5 ?_;unfold slices_Clone_int;rw[oL (by omega)];simp only[Option.bind_some];have hf:RJ c=(decide (c.id=0)&&(decide (c.name=[])&&(decide (c.n=0)&&iH c.data zF))):=by unfold RJ; simp[k5]
   have hcr:zM (d+1) sc c=(decide (c.kids.length=1)&&((decide (c.id=0)&&(decide (c.name=[])&&(decide (c.n=0)&&iH c.data zF)))&&(match Nc sc c.ids with
    | none=>false
    | some s=>c.kids.all (zM d s)))):=by
    simp only[zM,hf,k5,kd5,show decide ((5:Int)=1)=false from rfl,Bool.not_false,Bool.true_or,Bool.true_and]
   simp only[adw sc c.ids (by omega)];cases hq:Nc sc c.ids with
   | none=>exact .pure ⟨rfl,by rw[hcr,hq]; simp⟩
   | some s=>
    refine .pure ⟨?_,by rw[OC hq]; exact Nat.le_refl _⟩;rw[hcr,hq,bare_eq];simp only[decide_true,Bool.true_and,l1,zF]
  refine .neg k5 ?_;have hcr:=E8 (c:=c) k5 d sc;have hf:WY c=(decide (c.id=0)&&(decide (c.name=[])&&(decide (c.n=0)&&iH c.data zF))):=by unfold WY; simp[k1,k2,k3,k4]
  rw[hf,decide_eq_false k1] at hcr;by_cases k6:c.kind=6
  ·refine .pos k6 (.pure ⟨?_,by simp⟩);have hm:decide ((c.kids.length:Int)=(if(c.kids.length:Int)>1 then(c.kids.length:Int) else 1))=decide (1≤c.kids.length):=by
    rw[Bool.eq_iff_iff,decide_eq_true_eq,decide_eq_true_eq];split <;> constructor <;> intro h <;> omega
   rw[hcr,bare_eq];simp only[];rw[hm,k6];simp only[decide_true,Bool.true_and,l0,l1,l3,kd1,kd2,kd3,kd4,kd6,kd7,zF,Bool.not_false,Bool.true_or]
   ac_rfl
  refine .neg k6 ?_;by_cases k7:c.kind=7
  ·refine .pos k7 (.pure ⟨?_,by simp⟩);rw[hcr,bare_eq,k7];simp only[decide_true,Bool.true_and,l0,l1,l3,kd1,kd2,kd3,kd4,kd6,kd7,zF,Bool.not_false,Bool.true_or]
   ac_rfl
  ·refine .neg k7 (.pure ⟨rfl,?_⟩);rw[hcr];have:E5 c.kind c.kids.length=false:=by unfold E5; simp[k1,k2,k3,k4,k5,k6,k7]
   rw[this]; rfl
 ·rintro w ⟨rfl,h⟩;exact⟨⟨fun h=>(by cases h),fun h'=>by rw[h] at h'; cases h'.1⟩,fun h=>(by cases h)⟩
 ·rintro ⟨m,s,a,b,e,g,dk,dn,dm,ds,dl⟩ ⟨hcr,hsl⟩;simp only at hcr hsl ⊢;refine Ex.bind (P:=fun o=>o=!(decide ((c.kids.length:Int)=m)&&Ba c ⟨c.kind,a,b,e,g,⟨dk,dn,dm,ds,dl⟩,c.kids⟩)) ?_ ?_
  ·by_cases hm:(c.kids.length:Int)=m
   ·refine .neg (fun h=>h hm) (.bv (Vd _ _) (.pure ?_));rw[decide_eq_true hm,Bool.true_and]
   ·refine .pos hm (.pure ?_);rw[decide_eq_false hm]; rfl
  ·rintro o rfl;rw[← Bool.and_assoc] at hcr;cases hq:(decide ((c.kids.length:Int)=m)&&Ba c ⟨c.kind,a,b,e,g,⟨dk,dn,dm,ds,dl⟩,c.kids⟩) with
   | false=>
    rw[hq,Bool.false_and] at hcr;exact .pos rfl (.pure ⟨⟨fun h=>(by cases h),fun h'=>by rw[hcr] at h'; cases h'.1⟩,fun h=>(by cases h)⟩)
   | true=>
    rw[hq,Bool.true_and] at hcr;refine .neg (by simp) ?_;have e2:aX (((121-(d+1):Nat):Int)+1)=((121-d:Nat):Int):=by rw[jW (by omega) (by omega)]; omega
    rw[e2];refine Ex.bn (P:=fun o=>match o with
     | .inl w=>w.1=false∧¬(c.kids.all (zM d s)=true∧Ed c.kids≤L-1)
     | .inr t=>c.kids.all (zM d s)=true∧Ed c.kids≤L-1∧t=((L-1-Ed c.kids:Nat):Int)) ?_ ?_ ?_
    ·refine Ex.bI (I:=fun i q t=>∃u:Nat,t=(u:Int)∧u≤600∧(c.kids.all (zM d s)=true∧Ed c.kids≤L-1↔q.all (zM d s)=true∧Ed q≤u)∧u+Ed c.kids=L-1+Ed q∧∀x∈q,x∈c.kids) ?_ ?_ ?_
     ·exact⟨L-1,by omega,by omega,Iff.rfl,rfl,fun _ h=>h⟩
     ·rintro i x q t ⟨u,rfl,hu,hiff,hsum,hmem⟩;have hx:=hmem x (List.mem_cons_self);refine Ex.bind (Zi x d (by omega) s (by have:=tY hx; omega) u hu) ?_;rintro ⟨b,s'⟩ ⟨r1,r2⟩;simp only at r1 r2;cases b with
      | false=>
       refine .pos rfl (.fo ⟨rfl,fun h=>?_⟩);have h':=hiff.1 h;simp only[List.all_cons,Bool.and_eq_true,Ed] at h';have:=r1.2 ⟨h'.1.1,by omega⟩;cases this
      | true=>
       obtain⟨q1,q2⟩:=r1.1 rfl;refine .neg (by simp) (.fg ⟨u-cC x,r2 rfl,by omega,?_,by simp only[Ed] at hsum; omega,fun y hy=>hmem y (List.mem_cons_of_mem _ hy)⟩);rw[hiff];simp only[List.all_cons,Bool.and_eq_true,Ed,q1,true_and];constructor <;> intro h <;> exact⟨h.1,by omega⟩
     ·rintro t ⟨u,rfl,hu,hiff,hsum,_⟩;have h:=hiff.2 ⟨rfl,by simp[Ed]⟩;simp only[Ed] at hsum;exact⟨h.1,h.2,by omega⟩
    ·rintro ⟨b,t⟩ ⟨h1,h2⟩;simp only at h1;subst h1;refine⟨⟨fun h=>(by cases h),fun h=>absurd ⟨hcr▸h.1,by omega⟩ h2⟩,fun h=>(by cases h)⟩
    ·rintro t ⟨h1,h2,h3⟩;exact .pure ⟨⟨fun _=>⟨hcr.trans h1,by omega⟩,fun _=>rfl⟩,fun _=>by simp only; omega⟩
termination_by SizeOf.sizeOf c
decreasing_by exact yT hx
theorem abk (c:Core) (hw:wC c≤1073741824):gB (fun n=>qp n c) (lH c):=by
 refine Ex.yV ?_;unfold qp;refine Ex.bind (Zi c 120 (by omega) [] (by simp; omega) 600 (by omega)) ?_;rintro ⟨b,s⟩ ⟨r1,_⟩;refine .pure ?_;simp only at r1 ⊢;unfold lH;rw[Bool.eq_iff_iff,r1];simp
theorem Fa (n:Nat) (l:List Int) (x:Int):ou n l x=some (decide (x∈l)):=by
 unfold ou;have:=abW (step:=fun(_:Unit) (_:Nat) (y:Int)=>((if y=x then some (Sum.inl true) else some (Sum.inr ())):Option (Bool⊕Unit))) (p:=fun y=>!decide (y=x)) (no:=true) (f:=fun _=>some false) (xs:=l) (i:=0) (fun i y _=>by by_cases h:y=x <;> simp[h]);rw[this];by_cases h:x∈l
 ·rw[if_neg]
  ·simp[h]
  ·intro hall;rw[List.all_eq_true] at hall;have:=hall x h;simp at this
 ·rw[if_pos]
  ·simp[h]
  ·rw[List.all_eq_true];intro y hy;have:¬y=x:=fun e=>h (e▸hy);simp[this]
theorem Nh (f:Form) (hw:wF f≤1073741824):gB (fun n=>iw n f) (OB f):=by
 have he:=Dh f;refine .succ ?_;simp only[iw];rw[abh,MZ];refine Ex.yV ?_;refine Ex.bind (P:=fun s=>s=f.kids.map OB) ?_ (fun s hs=>.pure (by rw[hs]));refine Ex.dV (I:=fun i q s=>s=(f.kids.take i).map OB∧f.kids.drop i=q) ⟨rfl,rfl⟩ ?_ ?_
 ·rintro i x q s ⟨rfl,hd⟩;obtain⟨g1,g2,g3,g4⟩:=jC hd;have hm:=BQ g4;refine .bv (Nh x (by omega)) (.bp _ (cZ (by simp; omega)) (.pure ⟨?_,g2⟩));rw[List.take_add_one,g1]; simp
 ·rintro s ⟨rfl,_⟩; simp
termination_by SizeOf.sizeOf f
decreasing_by exact jo g4
theorem ady (n:Nat) (k:Int) (m:Nat):xJ n k (m:Int)=some (E5 k m):=by
 unfold xJ E5;have a0:decide ((m:Int)=0)=decide (m=0):=by simp only[decide_eq_decide]; omega
 have a1:decide ((m:Int)=1)=decide (m=1):=by simp only[decide_eq_decide]; omega
 have a3:decide ((m:Int)=3)=decide (m=3):=by simp only[decide_eq_decide]; omega
 have a6:decide ((m:Int)≥1)=decide (1≤m):=by simp only[decide_eq_decide]; omega
 rw[a0,a1,a3,a6];by_cases h1:k=1
 ·subst h1; rfl
 by_cases h2:k=2
 ·subst h2; rfl
 by_cases h3:k=3
 ·subst h3; rfl
 by_cases h4:k=4
 ·subst h4; rfl
 simp only[h1,h2,h3,h4,if_false,decide_false,Option.bind_some,Bool.false_eq_true,or_self];by_cases h5:k=5
 ·subst h5; rfl
 by_cases h6:k=6
 ·subst h6; rfl
 by_cases h7:k=7
 ·subst h7; rfl
 simp only[h5,h6,h7,if_false,Option.bind_some]
theorem abl (c:Core) (hw:wC c≤1073741824):gB (fun n=>sD n c) (RJ c):=by
 have he:=EG c;have hn:c.name.length≤Ht:=by unfold Ht; omega
 refine Ex.yV ?_;unfold sD RJ;refine Ex.bind (P:=fun o=>o=!(if c.kind=1 then decide (1≤c.id)&&decide (c.id≤999) else decide (c.id=0))) ?_ ?_
 ·by_cases k:c.kind=1
  ·simp only[k,if_true,not_true_eq_false,if_false];by_cases h1:c.id<1
   ·exact .pos h1 (.pure (by rw[decide_eq_false (show ¬1≤c.id by omega)]; rfl))
   ·refine .neg h1 ?_;by_cases h2:c.id>999
    ·exact .pos h2 (.pure (by rw[decide_eq_false (show ¬c.id≤999 by omega)]; simp))
    ·exact .neg h2 (.pure (by rw[decide_eq_true (show c.id≤999 by omega),decide_eq_true (show 1≤c.id by omega)]; rfl))
  ·simp only[k,if_false,not_false_eq_true,if_true];exact .pure (by simp)
 rintro o rfl;cases (if c.kind=1 then decide (1≤c.id)&&decide (c.id≤999) else decide (c.id=0)) with
 | false=>exact .pos rfl (.pure rfl)
 | true=>
 refine .neg (by simp) ?_;simp only[Bool.true_and];refine Ex.bind (P:=fun o=>o=!(if c.kind=2 then nameB c.name else decide (c.name=[]))) ?_ ?_
 ·by_cases k:c.kind=2
  ·simp only[k,if_true,not_true_eq_false,if_false];refine .bv (IK _ hn) ?_;cases nameB c.name with
   | false=>exact .pos rfl (.pure rfl)
   | true=>exact .neg (by simp) (.pure rfl)
  ·simp only[k,if_false,not_false_eq_true,if_true];exact .pure (by simp)
 rintro o rfl;cases (if c.kind=2 then nameB c.name else decide (c.name=[])) with
 | false=>exact .pos rfl (.pure rfl)
 | true=>
 refine .neg (by simp) ?_;simp only[Bool.true_and];refine Ex.bind (P:=fun o=>o=!(if c.kind=3 then decide (0≤c.n)&&decide (c.n≤999) else decide (c.n=0))) ?_ ?_
 ·by_cases k:c.kind=3
  ·simp only[k,if_true,not_true_eq_false,if_false];by_cases h1:c.n<0
   ·exact .pos h1 (.pure (by rw[decide_eq_false (show ¬0≤c.n by omega)]; rfl))
   ·refine .neg h1 ?_;by_cases h2:c.n>999
    ·exact .pos h2 (.pure (by rw[decide_eq_false (show ¬c.n≤999 by omega)]; simp))
    ·exact .neg h2 (.pure (by rw[decide_eq_true (show c.n≤999 by omega),decide_eq_true (show 0≤c.n by omega)]; rfl))
  ·simp only[k,if_false,not_false_eq_true,if_true];exact .pure (by simp)
 rintro o rfl;cases (if c.kind=3 then decide (0≤c.n)&&decide (c.n≤999) else decide (c.n=0)) with
 | false=>exact .pos rfl (.pure rfl)
 | true=>
 refine .neg (by simp) ?_;simp only[Bool.true_and];refine Ex.bind (P:=fun o=>o=!(if c.kind=4 then eP c.data&&Gm c.data else iH c.data zF)) ?_ ?_
 ·by_cases k:c.kind=4
  ·simp only[k,if_true,not_true_eq_false,if_false];refine .bv (EZ _ (G9 _ (by omega)) (by have:=Kq c.data; omega)) ?_;cases eP c.data with
   | false=>exact .pos rfl (.pure rfl)
   | true=>
    refine .neg (by simp) (.bv (Nh _ (by omega)) (.bv (zu _ _) ?_));rw[QO];cases Gm c.data with
    | false=>exact .pos rfl (.pure rfl)
    | true=>exact .neg (by simp) (.pure rfl)
  ·simp only[k,if_false,not_false_eq_true,if_true];exact .bv (zu _ _) (.pure rfl)
 rintro o rfl;cases (if c.kind=4 then eP c.data&&Gm c.data else iH c.data zF) with
 | false=>exact .pos rfl (.pure rfl)
 | true=>
 refine .neg (by simp) ?_;simp only[Bool.true_and];refine Ex.bind (P:=fun o=>o=(decide (c.kind=5)||decide (c.ids=[]))) ?_ (fun o ho=>.pure ho);by_cases k:c.kind=5
 ·exact .pos k (.pure (by simp[k]))
 ·refine .neg k (.pure ?_);rw[decide_eq_false k,Bool.false_or,Bool.eq_iff_iff];simp
theorem Vj (c:Core) (d:Nat) (hd:d≤120) (sc:List Int) (hw:sc.length+wC c≤1073741824):gB (fun n=>y5 n c sc (d:Int)) (zM d sc c):=by
 have he:=EG c;refine .succ ?_;simp only[y5];refine Ex.yV ?_;by_cases hd0:d=0
 ·subst hd0;simp only[show((0:Nat):Int)=0 from rfl,if_true,Option.bind_some];exact .pure rfl
 obtain⟨d,rfl⟩:∃e,d=e+1:=⟨d-1,by omega⟩
 refine Ex.bind (P:=fun o=>o=!(E5 c.kind c.kids.length&&(RJ c&&(!decide (c.kind=1)||decide (c.id∈sc))))) ?_ ?_
 ·refine .neg (by omega) ?_;simp only[ady,Option.bind_some];cases E5 c.kind c.kids.length with
  | false=>exact .pos rfl (.pure rfl)
  | true=>
   refine .neg (by simp) (.bv (abl c (by omega)) ?_);cases RJ c with
   | false=>exact .pos rfl (.pure rfl)
   | true=>
    refine .neg (by simp) ?_;by_cases k:c.kind=1
    ·refine .pos k ?_;simp only[Fa,Option.bind_some];exact .pure (by simp[k])
    ·exact .neg k (.pure (by simp[k]))
 rintro o rfl;have hq:zM (d+1) sc c=((E5 c.kind c.kids.length&&(RJ c&&(!decide (c.kind=1)||decide (c.id∈sc))))&&(match Nc sc c.ids with
  | none=>false
  | some s=>c.kids.all (zM d s))):=by simp only[zM,Bool.and_assoc]
 rw[hq];cases (E5 c.kind c.kids.length&&(RJ c&&(!decide (c.kind=1)||decide (c.id∈sc)))) with
 | false=>exact .pos rfl (.pure rfl)
 | true=>
 refine .neg (by simp) ?_;rw[Bool.true_and];refine Ex.bn (P:=fun o=>match o with
  | .inl w=>w=false∧Nc sc c.ids=none
  | .inr s=>Nc sc c.ids=some s) ?_ ?_ ?_
 ·refine Ex.bI (I:=fun i q s=>Nc sc c.ids=Nc s q∧s.length+q.length=sc.length+c.ids.length) ⟨rfl,rfl⟩ ?_ ?_
  ·rintro i x q s ⟨h1,h2⟩;simp only[List.length_cons] at h2;simp only[Nc] at h1;simp only[Fa,Option.bind_some];by_cases a1:x<1
   ·simp only[if_pos a1,Option.bind_some,if_true];exact .fo ⟨rfl,by rw[h1,if_neg (fun h=>by have:=h.1.1; omega)]⟩
   rw[if_neg a1];by_cases a2:x>999
   ·simp only[if_pos a2,Option.bind_some,if_true];exact .fo ⟨rfl,by rw[h1,if_neg (fun h=>by have:=h.1.2; omega)]⟩
   rw[if_neg a2];by_cases a3:x∈s
   ·simp only[a3,decide_true,Option.bind_some,if_true];exact .fo ⟨rfl,by rw[h1,if_neg (fun h=>h.2 a3)]⟩
   ·simp only[a3,decide_false,Option.bind_some,Bool.false_eq_true,if_false];refine .bp s (oL (by omega)) (.bp (s++[x]) (cZ (by simp; omega)) (.fg ⟨?_,by simp; omega⟩));rw[h1,if_pos ⟨⟨by omega,by omega⟩,a3⟩]
  ·rintro s ⟨h1,_⟩;rw[h1]; rfl
 ·rintro w ⟨rfl,h⟩;rw[h]
 ·intro s hs;have hs:Nc sc c.ids=some s:=hs;rw[hs];have hl:=OC hs;have e2:aX (((d+1:Nat):Int)-1)=(d:Int):=by rw[jW (by omega) (by omega)]; omega
  rw[e2];exact Ex.allI (m:=fun n x=>y5 n x s (d:Int)) (p:=zM d s) (fun x hx=>Vj x d (by omega) s (by have:=tY hx; omega)) (fun h=>.pure h.symm) (fun h=>h.symm)
termination_by SizeOf.sizeOf c
decreasing_by exact yT hx
theorem Vk (f:Core) (hw:cC f≤4611686018427387904):gB (fun n=>qN n f) (cC f:Int):=by
 have hc:=Ve f;refine .succ ?_;simp only[qN];rw[hc];refine .bind (a:=((1+Ed f.kids:Nat):Int)) ?_ (.pure _);exact Ex.afz (b:=1) (c:=cC) (cs:=Ed) rfl (fun _ _=>rfl) (by omega) (fun x hx=>Vk x (by have:=Vf hx; omega))
termination_by SizeOf.sizeOf f
decreasing_by exact yT hx
theorem Vl (c:Core) (hw:wC c≤1073741824):gB (fun n=>lU n c) (lH c):=by
 refine Ex.yV ?_;unfold lU lH;refine Ex.bind (P:=fun b=>b=(zM 120 [] c&&decide (cC c≤600))) ?_ (fun b hb=>.pure hb);refine .bv (Vj c 120 (by omega) [] (by simp; omega)) ?_;cases zM 120 [] c with
 | false=>exact .neg (by simp) (.pure rfl)
 | true=>
  refine .pos rfl (.bv (Vk c (by have:=Ky c; omega)) (.pure ?_));rw[Bool.true_and]; simp only[decide_eq_decide]; omega
theorem IU (f:Form) (hw:wF f≤1000000000):gB (fun n=>iO n f) f:=by
 have he:=Dh f;refine .succ ?_;simp only[iO];refine Ex.yV (.bp _ (oL (by omega)) ?_);refine .bv (Ag (m:=fun n x=>iO n x) (be:=80) (by omega) (fun x hx=>IU x (by have:=BQ hx; omega))) (.pure (by cases f; rfl))
termination_by SizeOf.sizeOf f
decreasing_by exact jo hx
theorem OE (c:Core) (hw:wC c≤1000000000):gB (fun n=>kD n c) c:=by
 have he:=EG c;refine .succ ?_;simp only[kD];refine Ex.yV (.bp _ (oL (by omega)) (.bv (IU c.data (by omega)) ?_));refine .bv (Ag (m:=fun n x=>kD n x) (be:=168) (by omega) (fun x hx=>OE x (by have:=tY hx; omega))) (.pure (by cases c; rfl))
termination_by SizeOf.sizeOf c
decreasing_by exact yT hx
theorem Vm {n:Nat} {l:List Int} (h:l.length≤1000000000000):slices_Clone_int n l=some l:=by
 unfold slices_Clone_int;rw[cZ (by simp; omega)]; simp
theorem abm {l:List Int} (h:l.length≤1000000000000):gB (fun n=>slices_Clone_int n l) l:=⟨0,fun n _=>Vm h⟩
theorem OG (f:Form) (hw:wF f≤1000000000):gB (fun n=>jL n f) f:=by
 have he:=Dh f;refine .succ ?_;simp only[jL];refine Ex.yV (.bv (abm (by omega)) ?_);refine .bv (Ag (m:=fun n x=>jL n x) (be:=80) (by omega) (fun x hx=>OG x (by have:=BQ hx; omega))) (.pure (by cases f; rfl))
termination_by SizeOf.sizeOf f
decreasing_by exact jo hx
theorem iU {a:Int} {r:bg} {B:Int} (h:Gd r B) (hB:1≤B):Ex (fun n=>aP n a r) (fun k=>Sp r k.2 1∧(1≤a→0≤k.1∧k.1<a)):=by
 obtain⟨v,r',h1,h2,h3⟩:=U0 (a:=a) h hB;exact⟨(v,r'),h1,h2,h3⟩
theorem yE {l:List Int} {r:bg} {B:Int} (hl:1≤l.length) (h:Gd r B) (hB:1≤B):Ex (fun n=>dA n l r) (fun k=>Sp r k.2 1∧k.1∈l):=by
 obtain⟨v,r',h1,h2,h3⟩:=YA hl h hB;exact⟨(v,r'),h1,h2,h3⟩
theorem Zj {l:List (List UInt8)} {r:bg} {B:Int} (hl:1≤l.length) (h:Gd r B) (hB:1≤B):Ex (fun n=>iM n l r) (fun k=>Sp r k.2 1∧k.1∈l):=by
 obtain⟨v,r',h1,h2,h3⟩:=YA hl h hB;exact⟨(v,r'),h1,h2,h3⟩
theorem OH (b:List UInt8):Ex (fun n=>lu n b) (fun r=>Gd r 1000000000):=by
 unfold lu;by_cases h:(b.length:Int)>2000
 ·have hs:IC b 0 2000=some (b.take 2000):=by
   unfold IC;rw[if_pos ⟨by omega,by omega,by omega⟩]; simp
  refine Ex.bind (P:=fun o=>o.length≤2000) (.pos h (.bp _ hs (.pure (by simp; omega)))) ?_;intro o ho;exact .pure ⟨by show(0:Int)≤0; omega,by show(0:Int)+1000000000≤_; omega,ho⟩
 ·refine Ex.bind (P:=fun o=>o.length≤2000) (.neg h (.pure (by omega))) ?_;intro o ho;exact .pure ⟨by show(0:Int)≤0; omega,by show(0:Int)+1000000000≤_; omega,ho⟩
def bF:Nat→Int
 | 0=>3
 | d+1=>3+3*bF d
theorem Zk:∀d,3≤bF d
 | 0=>by simp[bF]
 | d+1=>by have:=Zk d; simp only[bF]; omega
def zx:Nat→Form→Prop
 | 0,f=>(f.kind=1∧f.n=0∧f.scopes=[]∧f.kids=[]∧f.name∈([[97],[98],[120],[121],[102],[105,102],[108,101,116],[43]]:List (List UInt8)))∨(f.kind=2∧f.name=[]∧f.scopes=[]∧f.kids=[]∧f.n∈([0,1,2,7,42,999]:List Int))
 | d+1,f=>((f.kind=1∧f.n=0∧f.scopes=[]∧f.kids=[]∧f.name∈([[97],[98],[120],[121],[102],[105,102],[108,101,116],[43]]:List (List UInt8)))∨(f.kind=2∧f.name=[]∧f.scopes=[]∧f.kids=[]∧f.n∈([0,1,2,7,42,999]:List Int)))∨(f.kind=3∧f.name=[]∧f.n=0∧f.scopes=[]∧f.kids.length≤3∧∀x∈f.kids,zx d x)
theorem QT {d:Nat} {f:Form} (h:zx 0 f):zx d f:=by
 cases d with
 | zero=>exact h
 | succ d=>exact .inl h
theorem Vo {r:bg} (h:Gd r 2):Ex (fun n=>(aP n 4 r).bind fun k3=>(if k3.1=0 then(dA n [0,1,2,7,42,999] k3.2).bind fun k5=>some ((⟨2,[],k5.1,[],[]⟩:Form),k5.2) else(iM n [[97],[98],[120],[121],[102],[105,102],[108,101,116],[43]] k3.2).bind fun k6=>(dO n k6.1).bind fun k7=>some (k7,k6.2))) (fun k=>Sp r k.2 2∧zx 0 k.1):=by
 refine .bind (iU h (by omega)) fun k3 ⟨s1,_⟩=>?_;refine .ite (fun _=>?_) (fun _=>?_)
 ·refine .bind (yE (by simp) (h.to s1 (D:=1) (by omega)) (by omega)) fun k5 ⟨s2,hm⟩=>.pure ⟨s1.trans s2 (by omega),.inr ⟨rfl,rfl,rfl,rfl,hm⟩⟩
 ·refine .bind (Zj (by simp) (h.to s1 (D:=1) (by omega)) (by omega)) fun k6 ⟨s2,hm⟩=>?_;unfold dO;exact .pure ⟨s1.trans s2 (by omega),.inl ⟨rfl,rfl,rfl,rfl,hm⟩⟩
theorem Vp:∀(d:Nat),d≤10→∀(r:bg),Gd r (bF d)→Ex (fun n=>lX n (d:Int) r) (fun k=>Sp r k.2 (bF d)∧zx d k.1):=by
 intro d
 induction d with
 | zero=>
  intro _ r h;have h:Gd r 3:=h;refine .succ ?_;simp only[lX];refine Ex.bind (P:=fun o=>o=(true,r)) (.pos rfl (.pure rfl)) ?_;rintro o rfl;exact .pos rfl ((Vo (h.to (.refl (Int.le_refl 0)) (D:=2) (by omega))).mono fun k ⟨a,b⟩=>⟨a.mono (by simp[bF]),b⟩)
 | succ d ih=>
  intro hd r h;have ih:=ih (by omega);have hB:=Zk d;have h:Gd r (3+3*bF d):=h;refine .succ ?_;simp only[lX];refine Ex.bind (P:=fun o=>Sp r o.2 1) (.neg (by omega) (.bind (iU h (by omega)) fun k15 ⟨s1,_⟩=>.pure s1)) ?_;rintro ⟨b,r1⟩ s1;have g1:Gd r1 (2+3*bF d):=h.to s1 (by omega);refine .ite (fun _=>?_) (fun _=>?_)
  ·exact(Vo (g1.to (.refl (Int.le_refl 0)) (D:=2) (by omega))).mono fun k ⟨a,b⟩=>⟨s1.trans a (by simp only[bF]; omega),QT b⟩
  ·refine .bind (iU g1 (by omega)) fun k8 ⟨s2,hc⟩=>?_;obtain⟨hc0,hc1⟩:=hc (by omega);obtain⟨c,r2⟩:=k8;simp only at s2 hc0 hc1 ⊢;have g2:Gd r2 (3*bF d):=g1.to s2 (by omega);have e1:aX (((d+1:Nat):Int)-1)=(d:Int):=by rw[jW (by omega) (by omega)]; omega
   rw[e1];refine Ex.iter (fun s=>s.1.toNat) (fun s=>∃j:Nat,(j:Int)≤c∧s.1=c-j∧Sp r2 ⟨s.2.2.1,s.2.2.2⟩ (j*bF d)∧s.2.1.length=j∧∀x∈s.2.1,zx d x) _ ⟨0,by omega,by simp,by simpa using (Sp.refl (r:=r2) (Int.le_refl 0)),rfl,by simp⟩ ?_;rintro ⟨cnt,l,b,p⟩ ⟨j,j0,j1,j2,j3,j4⟩;simp only at j1 j2 j3 j4 ⊢;have hj:j=0∨j=1∨j=2∨j=3:=by omega
   refine .ite (fun hp=>?_) (fun hp=>?_)
   ·have gj:Gd ⟨b,p⟩ (bF d):=g2.to j2 (by rcases hj with rfl | rfl | rfl | rfl <;> simp <;> omega);refine .bind (ih _ gj) fun k12 ⟨k2,k3⟩=>?_;have e2:aX (cnt-1)=cnt-1:=jW (by omega) (by omega);rw[e2];refine .bp _ (cZ (by simp; omega)) (Ex.pure ⟨fun _ e=>(by cases e),fun s' e=>?_⟩);cases e;refine⟨⟨j+1,by omega,by simp only; omega,?_,by simp; omega,?_⟩,by simp only; omega⟩
    ·refine j2.trans (D:=((j+1:Nat):Int)*bF d) k2 ?_;rcases hj with rfl | rfl | rfl | rfl <;> simp <;> omega
    ·intro x hx;rcases List.mem_append.1 hx with h | h
     ·exact j4 x h
     ·rw[List.mem_singleton.1 h]; exact k3
   ·refine Ex.pure ⟨fun w e=>?_,fun s' e=>(by cases e)⟩;cases e;refine⟨?_,.inr ⟨rfl,rfl,rfl,rfl,by simp only; omega,j4⟩⟩;refine s1.trans (s2.trans (j2.mono (C:=3*bF d) ?_) (D:=1+3*bF d) (by omega)) (by simp only[bF]; omega);rcases hj with rfl | rfl | rfl | rfl <;> simp <;> omega
def wD:Nat→Nat
 | 0=>3
 | d+1=>6+3*wD d
theorem Zl {w:Nat}:∀{l:List Form},(∀x∈l,wF x≤w)→oQ l≤l.length*w
 | [],_=>by simp[oQ]
 | x::r,h=>by
  have h1:=h x (List.mem_cons_self);have h2:=Zl (l:=r) (fun y hy=>h y (List.mem_cons_of_mem _ hy));simp only[oQ,List.length_cons,Nat.succ_mul]; omega
theorem Nj {f:Form} (h:zx 0 f):wF f≤3:=by
 have hw:=Dh f;rcases h with ⟨h1,h2,h3,h4,h5⟩ | ⟨h1,h2,h3,h4,h5⟩
 ·rw[h3,h4] at hw;simp only[List.length_nil,oQ,Nat.add_zero] at hw;simp only[List.mem_cons,List.not_mem_nil,or_false] at h5;rcases h5 with h | h | h | h | h | h | h | h <;> rw[h] at hw <;> simp at hw <;> omega
 ·rw[h2,h3,h4] at hw;simp[oQ] at hw; omega
theorem Kz:∀(d:Nat) {f:Form},zx d f→wF f≤wD d
 | 0,f,h=>Nj h
 | d+1,f,h=>by
  rcases h with h | ⟨h1,h2,h3,h4,h5,h6⟩
  ·have:=Nj (f:=f) h;simp only[wD]; omega
  ·have hw:=Dh f;have:=Zl (fun x hx=>Kz d (h6 x hx));have:f.kids.length*wD d≤3*wD d:=Nat.mul_le_mul_right _ h5;rw[h2,h4] at hw;simp only[List.length_nil] at hw;simp only[wD]; omega
def Zm (sc:List Int) (c:Core):Prop:=
 (∃i,i∈sc∧c=⟨1,i,[],0,[],⟨0,[],0,[],[]⟩,[]⟩)∨(∃f,zx 1 f∧c=⟨4,0,[],0,[],f,[]⟩)∨(∃s,s∈([[102],[43],[108,105,115,116]]:List (List UInt8))∧c=⟨2,0,s,0,[],⟨0,[],0,[],[]⟩,[]⟩)∨(∃i,i∈([0,1,5,42]:List Int)∧c=⟨3,0,[],i,[],⟨0,[],0,[],[]⟩,[]⟩)
theorem Vq {sc:List Int} {c:Core} (h:Zm sc c):wC c≤20:=by
 rcases h with ⟨i,_,rfl⟩ | ⟨f,hf,rfl⟩ | ⟨s,hs,rfl⟩ | ⟨i,_,rfl⟩
 ·simp[wC,xE,wF,oQ]
 ·have:=Kz 1 hf;simp only[wD] at this;simp only[wC,xE,List.length_nil]; omega
 ·simp only[List.mem_cons,List.not_mem_nil,or_false] at hs;rcases hs with rfl | rfl | rfl <;> simp[wC,xE,wF,oQ]
 ·simp[wC,xE,wF,oQ]
theorem Vr {a1:List Int} {a3:Int} {r:bg} (h:Gd r 19):Ex (fun n=>Option.bind ((if(a1.length:Int)>0 then(aP n 3 r).bind fun k15=>some ((decide (k15.1>0)),k15.2) else some (false,r)):Option (Bool×bg)) (fun(o3:Bool×bg)=>(if o3.1=true then(aP n (a1.length:Int) o3.2).bind fun k5=>(gW a1 k5.1).bind fun e6=>some ((⟨1,e6,[],0,[],(⟨0,[],0,[],[]⟩:Form),[]⟩:Core),a3,k5.2) else(aP n 4 o3.2).bind fun k8=>(if k8.1=0 then(lX n 1 k8.2).bind fun k10=>some ((⟨4,0,[],0,[],k10.1,[]⟩:Core),a3,k10.2) else(if k8.1=1 then(iM n [[102],[43],[108,105,115,116]] k8.2).bind fun k12=>some ((⟨2,0,k12.1,0,[],(⟨0,[],0,[],[]⟩:Form),[]⟩:Core),a3,k12.2) else(dA n [0,1,5,42] k8.2).bind fun k13=>some ((⟨3,0,[],k13.1,[],(⟨0,[],0,[],[]⟩:Form),[]⟩:Core),a3,k13.2)))))) (fun k=>Sp r k.2.2 19∧Zm a1 k.1):=by
 refine Ex.bind (P:=fun o=>Sp r o.2 1∧(o.1=true→1≤a1.length)) ?_ ?_
 ·refine .ite (fun hl=>.bind (iU h (by omega)) fun k15 ⟨s1,_⟩=>.pure ⟨s1,fun _=>by omega⟩) (fun hl=>.pure ⟨.refl (by omega),fun h=>by cases h⟩)
 rintro ⟨b0,r1⟩ ⟨s1,hb⟩;simp only at s1 hb ⊢;have g1:Gd r1 18:=h.to s1 (by omega);refine .ite (fun hb0=>?_) (fun _=>?_)
 ·have hl:=hb hb0;refine .bind (iU g1 (by omega)) fun k5 ⟨s2,hv⟩=>?_;obtain⟨v0,v1⟩:=hv (by omega);obtain⟨x,hx,hm⟩:=dh v0 v1;exact .bp x hx (.pure ⟨(s1.trans s2 (D:=2) (by omega)).mono (by omega),.inl ⟨x,hm,rfl⟩⟩)
 ·refine .bind (iU g1 (by omega)) fun k8 ⟨s2,_⟩=>?_;have g2:Gd k8.2 17:=g1.to s2 (by omega);refine .ite (fun _=>?_) (fun _=>.ite (fun _=>?_) (fun _=>?_))
  ·have e34:bF 1=12:=by simp[bF]
   refine .bind (Vp 1 (by omega) k8.2 (by rw[e34]; exact⟨g2.1,by have:=g2.2.1; omega,g2.2.2⟩)) fun k10 ⟨s3,hf⟩=>?_;rw[e34] at s3;exact .pure ⟨(s1.trans (s2.trans s3 (D:=13) (by omega)) (D:=14) (by omega)).mono (by omega),.inr (.inl ⟨_,hf,rfl⟩)⟩
  ·refine .bind (Zj (by simp) g2 (by omega)) fun k12 ⟨s3,hm⟩=>.pure ⟨(s1.trans (s2.trans s3 (D:=2) (by omega)) (D:=3) (by omega)).mono (by omega),.inr (.inr (.inl ⟨_,hm,rfl⟩))⟩
  ·refine .bind (yE (by simp) g2 (by omega)) fun k13 ⟨s3,hm⟩=>.pure ⟨(s1.trans (s2.trans s3 (D:=2) (by omega)) (D:=3) (by omega)).mono (by omega),.inr (.inr (.inr ⟨_,hm,rfl⟩))⟩
def bC:Nat→Int
 | 0=>20
 | d+1=>24+3*bC d
def Xl:Nat→Nat
 | 0=>20
 | d+1=>20+3*Xl d
theorem Zn:∀d,20≤bC d
 | 0=>by simp[bC]
 | d+1=>by have:=Zn d; simp only[bC]; omega
theorem abn:∀d,20≤Xl d
 | 0=>by simp[Xl]
 | d+1=>by simp only[Xl]; omega
theorem Zo {w:Nat}:∀{l:List Core},(∀x∈l,wC x≤w)→xE l≤l.length*w
 | [],_=>by simp[xE]
 | x::r,h=>by
  have h1:=h x (List.mem_cons_self);have h2:=Zo (l:=r) (fun y hy=>h y (List.mem_cons_of_mem _ hy));simp only[xE,List.length_cons,Nat.succ_mul]; omega
theorem abo:∀(d:Nat),d≤10→∀(sc:List Int) (last:Int) (r:bg),sc.length≤1000000-2*d→Gd r (bC d)→Ex (fun n=>qV n sc (d:Int) last r) (fun k=>Sp r k.2.2 (bC d)∧wC k.1≤Xl d∧(Zm sc k.1∨k.1.kids≠[])):=by
 intro d
 induction d with
 | zero=>
  intro _ sc last r hl h;have h:Gd r 20:=h;refine .succ ?_;simp only[qV];refine Ex.bind (P:=fun o=>o=(true,r)) (.pos rfl (.pure rfl)) ?_;rintro o rfl;exact .pos rfl ((Vr (h.to (.refl (Int.le_refl 0)) (D:=19) (by omega))).mono fun k ⟨a,b⟩=>⟨a.mono (by simp[bC]),Vq b,.inl b⟩)
 | succ d ih=>
  intro hd sc last r hl h;have ih:=ih (by omega);have hB:=Zn d;have hW:=abn d;have h:Gd r (24+3*bC d):=h;refine .succ ?_;simp only[qV];refine Ex.bind (P:=fun o=>Sp r o.2 1) (.neg (by omega) (.bind (iU h (by omega)) fun k15 ⟨s1,_⟩=>.pure s1)) ?_;rintro ⟨b,r1⟩ s1;have g1:Gd r1 (23+3*bC d):=h.to s1 (by omega);refine .ite (fun _=>?_) (fun _=>?_)
  ·exact(Vr (g1.to (.refl (Int.le_refl 0)) (D:=19) (by omega))).mono fun k ⟨a,b⟩=>⟨s1.trans a (by simp only[bC]; omega),by have:=Vq b; simp only[Xl]; omega,.inl b⟩
  ·refine .bind (yE (by simp) g1 (by omega)) fun k18 ⟨s2,hk⟩=>?_;obtain⟨kd,r2⟩:=k18;simp only at s2 hk ⊢;have g2:Gd r2 (22+3*bC d):=g1.to s2 (by omega);refine Ex.bind (P:=fun o=>Sp r2 ⟨o.2.2.2.2.1,o.2.2.2.2.2⟩ 3∧o.1.length≤sc.length+2∧1≤o.2.2.1∧o.2.2.1≤3∧o.2.2.2.1.length≤2) ?_ ?_
   ·refine .ite (fun _=>?_) (fun _=>.ite (fun _=>?_) (fun _=>?_))
    ·refine .bind (yE (by simp) g2 (by omega)) fun k26 ⟨s3,hm⟩=>?_;obtain⟨c,r3⟩:=k26;simp only at s3 hm ⊢;have hc:0≤c∧c≤2:=by
      simp only[List.mem_cons,List.not_mem_nil,or_false] at hm;rcases hm with rfl | rfl | rfl <;> simp
     have g3:Gd r3 2:=g2.to s3 (by omega);refine Ex.iter (fun s=>s.2.2.1.toNat) (fun s=>∃j:Nat,(j:Int)≤c∧s.2.2.1=c-j∧Sp r3 ⟨s.2.2.2.2.1,s.2.2.2.2.2⟩ j∧s.2.2.2.1.length=j∧s.1.length=sc.length+j) _ ⟨0,by omega,by simp,by simpa using (Sp.refl (r:=r3) (Int.le_refl 0)),rfl,rfl⟩ ?_;rintro ⟨l,ct,cnt,nl,b,p⟩ ⟨j,j0,j1,j2,j3,j4⟩;simp only at j1 j2 j3 j4 ⊢;refine .ite (fun hp=>?_) (fun hp=>?_)
     ·refine .bind (yE (B:=1) (by simp) (g3.to j2 (by omega)) (by omega)) fun k30 ⟨s4,_⟩=>?_;have e2:aX (cnt-1)=cnt-1:=jW (by omega) (by omega);rw[e2];refine .bp _ (cZ (by simp; omega)) (.bp _ (oL (by omega)) (.bp _ (cZ (by simp; omega)) (Ex.pure ⟨fun _ e=>(by cases e),fun s' e=>?_⟩)));cases e;exact⟨⟨j+1,by omega,by simp only; omega,j2.trans s4 (by omega),by simp; omega,by simp; omega⟩,by simp only; omega⟩
     ·refine Ex.pure ⟨fun w e=>?_,fun s' e=>(by cases e)⟩;cases e;exact⟨s3.trans (j2.mono (C:=2) (by omega)) (by omega),by simp only; omega,by simp,by simp,by simp only; omega⟩
    ·refine .bind (yE (by simp) g2 (by omega)) fun Du ⟨s3,hm⟩=>?_;have hc:1≤Du.1∧Du.1≤3:=by
      have hm:=hm;simp only[List.mem_cons,List.not_mem_nil,or_false] at hm;rcases hm with h | h | h <;> rw[h] <;> simp
     exact .pure ⟨s3.mono (by omega),by simp,hc.1,hc.2,by simp⟩
    ·exact .pure ⟨.refl (by omega),by simp,by simp,by simp,by simp⟩
   ·rintro ⟨l2,ct2,c,nl,b3,p3⟩ ⟨s3,hl2,hc1,hc3,hnl⟩;simp only at s3 hl2 hc1 hc3 hnl ⊢;have g3:Gd ⟨b3,p3⟩ (3*bC d):=g2.to s3 (by omega);have e1:aX (((d+1:Nat):Int)-1)=(d:Int):=by rw[jW (by omega) (by omega)]; omega
    rw[e1];refine Ex.iter (fun s=>(c-s.2.1).toNat) (fun s=>∃j:Nat,(j:Int)≤c∧s.2.1=(j:Int)∧Sp ⟨b3,p3⟩ ⟨s.2.2.2.1,s.2.2.2.2⟩ (j*bC d)∧s.2.2.1.length=j∧∀x∈s.2.2.1,wC x≤Xl d) _ ⟨0,by omega,by simp,by simpa using (Sp.refl (r:=⟨b3,p3⟩) (Int.le_refl 0)),rfl,by simp⟩ ?_;rintro ⟨ct,cnt,l,b,p⟩ ⟨j,j0,j1,j2,j3,j4⟩;simp only at j1 j2 j3 j4 ⊢;have hj:j=0∨j=1∨j=2∨j=3:=by omega
    refine .ite (fun hp=>?_) (fun hp=>?_)
    ·have gj:Gd ⟨b,p⟩ (bC d):=g3.to j2 (by rcases hj with rfl | rfl | rfl | rfl <;> simp <;> omega);refine .bind (ih l2 ct _ (by omega) gj) fun k23 ⟨k2,k3,_⟩=>?_;have e2:aX (cnt+1)=cnt+1:=jW (by omega) (by omega);rw[e2];refine .bp _ (cZ (by simp; omega)) (Ex.pure ⟨fun _ e=>(by cases e),fun s' e=>?_⟩);cases e;refine⟨⟨j+1,by omega,by simp only; omega,?_,by simp; omega,?_⟩,by simp only; omega⟩
     ·refine j2.trans (D:=((j+1:Nat):Int)*bC d) k2 ?_;rcases hj with rfl | rfl | rfl | rfl <;> simp <;> omega
     ·intro x hx;rcases List.mem_append.1 hx with h | h
      ·exact j4 x h
      ·rw[List.mem_singleton.1 h]; exact k3
    ·refine Ex.pure ⟨fun w e=>?_,fun s' e=>(by cases e)⟩;cases e;have hjc:(j:Int)=c:=by omega
     refine⟨?_,?_,.inr ?_⟩
     ·refine s1.trans (s2.trans (s3.trans (j2.mono (C:=3*bC d) ?_) (D:=3+3*bC d) (by omega)) (D:=4+3*bC d) (by omega)) (by simp only[bC]; omega);rcases hj with rfl | rfl | rfl | rfl <;> simp <;> omega
     ·have:=Zo j4;have:l.length*Xl d≤3*Xl d:=Nat.mul_le_mul_right _ (by omega);simp only[wC,wF,oQ,Xl,List.length_nil]; omega
     ·intro e;simp only at e;rw[e] at j3;simp at j3; omega
theorem Ex.skip {L:Nat} (hL:L≤1000000) {step:Nat→Int→Option (Int⊕Int)} {at_:Nat} (ha:at_≤L) (h1:∀i:Nat,i<L→Ex (fun n=>step n (i:Int)) (fun r=>r=.inr ((i+1:Nat):Int)∨r=.inl (i:Int))) (h2:Ex (fun n=>step n (L:Int)) (fun r=>r=.inl (L:Int))) :
  Ex (fun n=>iterM n (step n) (at_:Int)) (fun r=>∃k:Nat,r=(k:Int)∧at_≤k∧k≤L):=by
 refine Ex.iter (fun s=>L-s.toNat) (fun s=>∃i:Nat,s=(i:Int)∧at_≤i∧i≤L) _ ⟨at_,rfl,Nat.le_refl _,ha⟩ ?_;rintro s ⟨i,rfl,h3,h4⟩;rcases Nat.lt_or_ge i L with h | h
 ·refine(h1 i h).mono ?_;rintro r (rfl | rfl)
  ·exact⟨fun w e=>(by cases e),fun s' e=>by cases e; exact⟨⟨i+1,rfl,by omega,by omega⟩,by simp; omega⟩⟩
  ·exact⟨fun w e=>by cases e; exact⟨i,rfl,h3,h4⟩,fun s' e=>(by cases e)⟩
 ·have:i=L:=by omega
  subst this;refine h2.mono ?_;rintro r rfl;exact⟨fun w e=>by cases e; exact⟨_,rfl,h3,h4⟩,fun s' e=>(by cases e)⟩
theorem KA (s:List UInt8) (hs:s.length≤1000000) (a:Nat) (ha:a≤s.length):Ex (fun n=>pX n s (a:Int)) (fun r=>∃k:Nat,r=(k:Int)∧a≤k∧k≤s.length):=by
 unfold pX;refine Ex.skip hs ha (fun i hi=>?_) ?_
 ·have hy:=List.getElem?_eq_getElem hi;rw[if_pos (by omega),dW hy];simp only[Option.bind_some];by_cases h:((s[i].toNat:Int)=32)
  ·rw[decide_eq_true h]; exact .pos rfl (.pure (.inl (by rw[iC (by omega)])))
  ·rw[decide_eq_false h]; exact .neg (by simp) (.pure (.inr rfl))
 ·rw[if_neg (by omega)]; simp only[Option.bind_some]; exact .neg (by simp) (.pure rfl)
theorem adz (s:List UInt8) (hs:s.length≤1000000) (a:Nat) (ha:a≤s.length):Ex (fun n=>yx n s (a:Int)) (fun r=>∃k:Nat,r=(k:Int)∧a≤k∧k≤s.length):=by
 unfold yx;refine Ex.skip hs ha (fun i hi=>?_) ?_
 ·have hy:=List.getElem?_eq_getElem hi;rw[if_pos (by omega),dW hy];simp only[Option.bind_some];refine Ex.bind (P:=fun _=>True) (.ite (fun _=>.ite (fun _=>.ite (fun _=>.pure trivial) (fun _=>.pure trivial)) (fun _=>.pure trivial)) (fun _=>.pure trivial)) ?_;intro b _;exact .ite (fun _=>.pure (.inl (by rw[iC (by omega)]))) (fun _=>.pure (.inr rfl))
 ·rw[if_neg (by omega)]; simp only[Option.bind_some]; exact .neg (by simp) (.pure rfl)
theorem IV {α:Type} {l:List α} {a b:Nat} (h:a≤b) (hb:b≤l.length):IC l (a:Int) (b:Int)=some ((l.drop a).take (b-a)):=by
 unfold IC;rw[if_pos ⟨by omega,by omega,by omega⟩];simp
theorem Zp (s:List UInt8) (hs:s.length≤1000000):Ex (fun n=>lY n s) (fun r=>r.2=true→s≠[]):=by
 unfold lY;by_cases h0:s=[]
 ·subst h0;simp only[List.length_nil,Option.bind_some];exact .pure (fun h=>by cases h)
 have hl:0<s.length:=List.length_pos_iff.2 h0;refine Ex.mono (Q:=fun _=>True) ?_ (fun _ _ _=>h0);have hy:=List.getElem?_eq_getElem hl;refine Ex.bind (P:=fun b=>b=decide ((s[0].toNat:Int)=45)) (.pos (by omega) (.bp _ (dW (i:=0) hy) (.pure rfl))) ?_;rintro o1 rfl;refine Ex.bind (P:=fun t=>t.length≤1000000) ?_ ?_
 ·refine .ite (fun _=>?_) (fun _=>.pure hs);have:=IV (l:=s) (a:=1) (b:=s.length) (by omega) (Nat.le_refl _);exact .bp _ this (.pure (by simp; omega))
 intro t ht;refine Ex.bind (P:=fun b=>b=false→0<t.length) ?_ ?_
 ·refine .ite (fun _=>.pure (fun h=>by cases h)) (fun h1=>.ite (fun _=>.pure (fun h=>by cases h)) (fun _=>?_));have ht0:0<t.length:=by omega
  refine .bp _ (dW (i:=0) (List.getElem?_eq_getElem ht0)) ?_;exact .ite (fun _=>.ite (fun _=>.pure (fun h=>by cases h)) (fun _=>.pure fun _=>ht0)) (fun _=>.pure fun _=>ht0)
 intro o3 ho3;refine .ite (fun _=>.pure trivial) (fun h3=>?_);refine Ex.iter (fun s=>t.length-s.2.toNat) (fun s=>∃i:Nat,s.2=(i:Int)∧i≤t.length) _ ⟨0,rfl,Nat.zero_le _⟩ ?_;rintro ⟨k,p⟩ ⟨i,hi,hil⟩;simp only at hi;subst hi;simp only;refine .ite (fun h=>?_) (fun h=>?_)
 ·have hi:i<t.length:=by omega
  have hy:=List.getElem?_eq_getElem hi;rw[dW hy];simp only[Option.bind_some];refine Ex.bind (P:=fun _=>True) (.ite (fun _=>.pure trivial) (fun _=>.pure trivial)) ?_;intro b _;refine .ite (fun _=>.pure ⟨fun _ _=>trivial,fun _ e=>(by cases e)⟩) (fun _=>.pure ⟨fun _ e=>(by cases e),fun s' e=>?_⟩);cases e;exact⟨⟨i+1,by simp only; rw[iC (by omega)],by omega⟩,by simp only; rw[iC (by omega)]; simp; omega⟩
 ·refine Ex.bind (P:=fun _=>True) (.ite (fun _=>.pure trivial) (fun _=>.pure trivial)) ?_;intro b _;exact .pure ⟨fun _ _=>trivial,fun _ e=>(by cases e)⟩
theorem afB (s:List UInt8) (hs:s.length≤1000000) (c:Int):Ex (fun n=>yu n s c) (fun r=>r.length≤s.length+1∧∀x∈r,x.length≤s.length):=by
 unfold yu;refine Ex.iter (fun t=>s.length+1-t.2.2.toNat) (fun t=>∃a i:Nat,t.2.1=(a:Int)∧t.2.2=(i:Int)∧a≤i∧i≤s.length+1∧t.1.length≤i∧∀x∈t.1,x.length≤s.length) _ ⟨0,0,rfl,rfl,Nat.le_refl _,by omega,by simp,by simp⟩ ?_;rintro ⟨l,p,q⟩ ⟨a,i,ha,hi,h1,h2,h3,h4⟩;simp only at ha hi h3 h4;subst ha; subst hi;simp only;refine .ite (fun h=>?_) (fun h=>.pure ⟨fun w e=>by cases e; exact⟨by omega,h4⟩,fun _ e=>(by cases e)⟩);have hil:i≤s.length:=by omega
 refine Ex.bind (P:=fun o=>∃a:Nat,o.2=(a:Int)∧a≤i+1∧o.1.length≤i+1∧∀x∈o.1,x.length≤s.length) ?_ ?_
 ·refine Ex.bind (P:=fun _=>True) ?_ ?_
  ·refine .ite (fun _=>.pure trivial) (fun hne=>?_);exact .bp _ (dW (List.getElem?_eq_getElem (by omega))) (.pure trivial)
  intro b _;refine .ite (fun _=>?_) (fun _=>.pure ⟨a,rfl,by omega,by simp only; omega,h4⟩);refine .bp _ (IV h1 hil) (.bp _ (cZ (by simp; omega)) (.pure ⟨i+1,by rw[iC (by omega)],Nat.le_refl _,by simp; omega,?_⟩));intro x hx;rcases List.mem_append.1 hx with hx | hx
  ·exact h4 x hx
  ·rw[List.mem_singleton.1 hx]; simp; omega
 rintro ⟨l',p'⟩ ⟨a',ha',h5,h6,h7⟩;simp only at ha' h6 h7;subst ha';refine .pure ⟨fun _ e=>(by cases e),fun s' e=>?_⟩;cases e;exact⟨⟨a',i+1,rfl,by simp only; rw[iC (by omega)],h5,by omega,h6,h7⟩,by simp only; rw[iC (by omega)]; simp; omega⟩
theorem adA (s:List UInt8) (hs:s.length≤1000000) (a:Nat) (ha:a≤s.length):Ex (fun n=>yw n s (a:Int)) (fun r=>r.1.length≤25∧(r.2=-1∨∃k:Nat,r.2=(k:Int)∧a≤k∧k≤s.length)):=by
 unfold yw;refine Ex.bind (P:=fun b=>b=false→∃h:a<s.length,(s[a].toNat:Int)=123) ?_ ?_
 ·refine .ite (fun _=>.pure (fun h=>by cases h)) (fun h=>?_);refine .bp _ (dW (List.getElem?_eq_getElem (by omega))) (.pure (fun hd=>⟨by omega,?_⟩));have:=of_decide_eq_false hd;exact Classical.not_not.1 this
 intro b hb;refine .ite (fun _=>.pure ⟨by simp,.inr ⟨a,rfl,Nat.le_refl _,ha⟩⟩) (fun hb1=>?_);obtain⟨hal,ahK⟩:=hb (by simpa using hb1);have hw1:aX ((a:Int)+1)=((a+1:Nat):Int):=iC (by omega);refine Ex.iter (fun t=>s.length-t.toNat) (fun t=>∃i:Nat,t=(i:Int)∧a≤i∧i≤s.length) _ ⟨a,rfl,Nat.le_refl _,by omega⟩ ?_;rintro t ⟨i,rfl,h1,h2⟩;refine Ex.bind (P:=fun o=>(o=true→i<s.length)∧(o=false→a+1≤i)) ?_ ?_
 ·refine .ite (fun h=>?_) (fun h=>.pure ⟨fun h=>(by cases h),fun _=>by omega⟩);have hi:i<s.length:=by omega
  refine .bp _ (dW (List.getElem?_eq_getElem hi)) (.pure ⟨fun _=>hi,fun hd=>?_⟩);have afC:(s[i].toNat:Int)=125:=Classical.not_not.1 (of_decide_eq_false hd);rcases Nat.lt_or_eq_of_le h1 with h | h
  ·omega
  ·subst h; rw[ahK] at afC; cases afC
 rintro o ⟨o1,o2⟩;refine .ite (fun h=>.pure ⟨fun _ e=>(by cases e),fun s' e=>?_⟩) (fun h=>?_)
 ·cases e;have:=o1 h;exact⟨⟨i+1,by rw[iC (by omega)],by omega,by omega⟩,by rw[iC (by omega)]; simp; omega⟩
 have hai:=o2 (by simpa using h);refine .ite (fun _=>.pure ⟨fun w e=>by cases e; exact⟨by simp,.inl rfl⟩,fun _ e=>(by cases e)⟩) (fun hne=>?_);have hil:i<s.length:=by omega
 rw[hw1];refine .bp _ (IV hai h2) (.bind (afB _ (by simp; omega) 44) fun parts ⟨p1,p2⟩=>?_);have hz:((s.drop (a+1)).take (i-(a+1))).length≤1000000:=by simp; omega
 refine Ex.mono (Q:=fun r:(List Int×Int)⊕Int=>∃w,r=.inl w∧w.1.length≤25∧(w.2=-1∨∃k:Nat,w.2=(k:Int)∧a≤k∧k≤s.length)) ?_ ?_
 ·refine Ex.iter (fun t=>26-t.2.toNat) (fun t=>∃j:Nat,t.2=(j:Int)∧j≤25∧j≤parts.length∧t.1.length≤j) _ ⟨0,rfl,by omega,by omega,by simp⟩ ?_;rintro ⟨l,q⟩ ⟨j,hj,j1,j2,j3⟩;simp only at hj j3;subst hj;simp only;refine Ex.bind (P:=fun o=>o=true→j<parts.length∧j≤24) (.ite (fun h=>.pure fun hd=>⟨by omega,by have:=of_decide_eq_true hd; omega⟩) (fun h=>.pure fun h=>by cases h)) ?_;intro o ho;refine .ite (fun h=>?_) (fun h=>.pure ⟨fun w e=>by cases e; exact⟨_,rfl,by simp only; omega,.inr ⟨i+1,by simp only; rw[iC (by omega)],by omega,by omega⟩⟩,fun _ e=>(by cases e)⟩);obtain⟨hj1,hj2⟩:=ho h;have hmem:parts[j]∈parts:=List.getElem_mem hj1;refine .bp _ (dW (List.getElem?_eq_getElem hj1)) (.bind (Zp _ (by have:=p2 _ hmem; omega)) fun k15 _=>?_);refine .ite (fun _=>.pure ⟨fun w e=>by cases e; exact⟨_,rfl,by simp only; omega,.inl rfl⟩,fun _ e=>(by cases e)⟩) (fun _=>?_);refine .bp _ (cZ (by simp; omega)) (.pure ⟨fun _ e=>(by cases e),fun s' e=>?_⟩);cases e;exact⟨⟨j+1,by simp only; rw[iC (by omega)],by omega,by omega,by simp; omega⟩,by simp only; rw[iC (by omega)]; simp; omega⟩
 ·rintro r ⟨w,rfl,hw⟩;exact⟨fun w' e=>by cases e; exact hw,fun _ e=>(by cases e)⟩
theorem adC (s:List UInt8) (hs:s.length≤1000000) (a:Nat) (ha:a≤s.length):Ex (fun n=>yA n s (a:Int)) (fun r=>r.2=-1∨∃k:Nat,r.2=(k:Int)∧a<k∧k≤s.length∧wF r.1+1≤30*(k-a)):=by
 unfold yA;refine .bind (adz s hs a ha) fun k1 ⟨k,hk,h1,h2⟩=>?_;subst hk;refine .bp _ (IV h1 h2) (.bind (Zp _ (by simp; omega)) fun k3 h3=>?_);have hlen:((s.drop a).take (k-a)).length=k-a:=by simp; omega
 have hne:((s.drop a).take (k-a))≠[]→a<k:=fun h=>by
  have:=List.length_pos_iff.2 h;omega
 refine .ite (fun h=>.pure (.inr ⟨k,rfl,hne (h3 h),h2,?_⟩)) (fun _=>.ite (fun _=>.pure (.inl rfl)) (fun h=>?_))
 ·have:=hne (h3 h);simp[wF,oQ]; omega
 ·have hak:=hne h;refine .bind (adA s hs k h2) fun k6 ⟨q1,q2⟩=>.pure ?_;rcases q2 with q2 | ⟨m,q2,q3,q4⟩
  ·exact .inl q2
  ·refine .inr ⟨m,q2,by omega,q4,?_⟩;simp only[wF,oQ,List.length_nil,hlen]; omega
theorem adD:∀(d:Nat),d≤40→∀(s:List UInt8),s.length≤1000000→∀(a:Nat),a≤s.length→Ex (fun n=>qW n s (a:Int) (d:Int)) (fun r=>r.2=-1∨∃k:Nat,r.2=(k:Int)∧a<k∧k≤s.length∧wF r.1+1≤30*(k-a)):=by
 intro d
 induction d with
 | zero=>
  intro _ s hs a ha;refine .succ ?_;simp only[qW];refine .bind (KA s hs a ha) fun k1 ⟨k,hk,h1,h2⟩=>?_;refine Ex.bind (P:=fun b=>b=true) (.ite (fun _=>.pure rfl) (fun _=>.pure rfl)) ?_;rintro b rfl;exact .pos rfl (.pure (.inl rfl))
 | succ d ih=>
  intro hd s hs a ha;have ih:=ih (by omega) s hs;refine .succ ?_;simp only[qW];refine .bind (KA s hs a ha) fun k1 ⟨k,hk,h1,h2⟩=>?_;subst hk;refine Ex.bind (P:=fun b=>b=false→k<s.length) (.ite (fun _=>.pure (fun h=>by cases h)) (fun _=>.pure (fun _=>by omega))) ?_;intro b hb;refine .ite (fun _=>.pure (.inl rfl)) (fun hb1=>?_);have hk:=hb (by simpa using hb1);refine .bp _ (dW (List.getElem?_eq_getElem hk)) ?_;refine .ite (fun _=>?_) (fun _=>?_)
  ·refine .bind (adC s hs k h2) fun k6 h6=>.pure ?_;rcases h6 with h6 | ⟨m,q1,q2,q3,q4⟩
   ·exact .inl h6
   ·exact .inr ⟨m,q1,by omega,q3,by simp only; omega⟩
  ·have hw1:aX ((k:Int)+1)=((k+1:Nat):Int):=iC (by omega);have hw2:aX (((d+1:Nat):Int)-1)=(d:Int):=by rw[jW (by omega) (by omega)]; omega
   rw[hw1,hw2];refine .bind (KA s hs (k+1) (by omega)) fun k7 ⟨m,hm,q1,q2⟩=>?_;subst hm;refine Ex.iter (fun t=>s.length-t.1.toNat) (fun t=>∃i:Nat,t.1=(i:Int)∧k+1≤i∧i≤s.length∧t.2.length≤400∧oQ t.2+t.2.length≤30*(i-(k+1))) _ ⟨m,rfl,q1,q2,by simp,by simp[oQ]⟩ ?_;rintro ⟨p,l⟩ ⟨i,hi,i1,i2,i3,i4⟩;simp only at hi i3 i4;subst hi;simp only;refine Ex.bind (P:=fun o=>o=true→i<s.length∧l.length<400) ?_ ?_
   ·refine .ite (fun h=>?_) (fun _=>.pure fun h=>by cases h);refine .bp _ (dW (List.getElem?_eq_getElem (by omega))) ?_;exact .ite (fun _=>.pure fun hd=>⟨by omega,by have:=of_decide_eq_true hd; omega⟩) (fun _=>.pure fun h=>by cases h)
   intro o ho;refine .ite (fun h=>?_) (fun h=>?_)
   ·obtain⟨ho1,ho2⟩:=ho h;refine .bind (ih i i2) fun k12 h12=>?_;rcases h12 with h12 | ⟨j,r1,r2,r3,r4⟩
    ·rw[h12];exact .pos (by omega) (.pure ⟨fun w e=>by cases e; exact .inl rfl,fun _ e=>(by cases e)⟩)
    ·rw[r1];refine .neg (by omega) (.bp _ (cZ (by simp; omega)) (.bind (KA s hs j r3) fun k15 ⟨u,hu,u1,u2⟩=>?_));subst hu;refine .pure ⟨fun _ e=>(by cases e),fun s' e=>?_⟩;cases e;refine⟨⟨u,rfl,by omega,u2,by simp; omega,?_⟩,by simp; omega⟩;have happ:∀(x y:List Form),oQ (x++y)=oQ x+oQ y:=fun x y=>by
      induction x with
      | nil=>simp[oQ]
      | cons z x ih=>simp only[List.cons_append,oQ,ih]; omega
     simp only[happ,oQ,List.length_append,List.length_singleton];omega
   ·refine Ex.bind (P:=fun o=>o=false→i<s.length) ?_ ?_
    ·refine .ite (fun _=>.pure (fun h=>by cases h)) (fun h=>?_);exact .bp _ (dW (List.getElem?_eq_getElem (by omega))) (.pure fun _=>by omega)
    intro o2 ho2;refine .ite (fun _=>.pure ⟨fun w e=>by cases e; exact .inl rfl,fun _ e=>(by cases e)⟩) (fun h2'=>?_);have hi:=ho2 (by simpa using h2');refine .pure ⟨fun w e=>?_,fun _ e=>(by cases e)⟩;cases e;refine .inr ⟨i+1,by simp only; rw[iC (by omega)],by omega,by omega,?_⟩;simp only[wF,List.length_nil]; omega
theorem OI (s:List UInt8) (hs:s.length≤1000000):Ex (fun n=>oV n s) (fun f=>wF f≤30*s.length):=by
 unfold oV;refine Ex.bind (P:=fun r=>wF r.1≤30*s.length) ?_ (fun r hr=>.pure hr);unfold uh;refine .bind (adD 40 (by omega) s hs 0 (Nat.zero_le _)) fun k1 h1=>?_;refine Ex.bind (P:=fun b=>b=false→wF k1.1≤30*s.length) ?_ ?_
 ·rcases h1 with h1 | ⟨k,q1,q2,q3,q4⟩
  ·rw[h1]; exact .pos (by omega) (.pure fun h=>by cases h)
  ·rw[q1];refine .neg (by omega) (.bind (KA s hs k q3) fun k5 _=>.ite (fun _=>.pure fun h=>by cases h) (fun _=>?_));have hw:wF k1.1≤30*s.length:=by omega
   exact .bv (EZ k1.1 (G9 _ (by omega)) (by have:=Kq k1.1; omega)) (.pure fun _=>hw)
 intro b hb;exact .ite (fun _=>.pure (by simp[wF,oQ])) (fun h=>.pure (hb (by simpa using h)))
def b7:Nat→Int
 | 0=>3
 | d+1=>24+3*b7 d
def w7:Nat→Nat
 | 0=>20
 | d+1=>60+3*w7 d
theorem Zq:∀d,3≤b7 d
 | 0=>by simp[b7]
 | d+1=>by have:=Zq d; simp only[b7]; omega
theorem adE:∀d,20≤w7 d
 | 0=>by simp[w7]
 | d+1=>by simp only[w7]; omega
theorem abp:∀(d:Nat),d≤10→∀(ns:List (List UInt8)) (r:bg),1≤ns.length→ns.length≤1000-d→(∀x∈ns,x.length≤20)→Gd r (b7 d)→Ex (fun n=>gQ n ns (d:Int) r) (fun k=>Sp r k.2 (b7 d)∧wF k.1≤w7 d):=by
 intro d;have leaf:∀(ns:List (List UInt8)) (r:bg),1≤ns.length→(∀x∈ns,x.length≤20)→Gd r 2→Ex (fun n=>(aP n 3 r).bind fun k3=>(if k3.1=0 then(dA n [0,1,2,7] k3.2).bind fun k5=>some ((⟨2,[],k5.1,[],[]⟩:Form),k5.2) else(aP n (ns.length:Int) k3.2).bind fun k6=>(gW ns k6.1).bind fun e7=>(dO n e7).bind fun k8=>some (k8,k6.2))) (fun k=>Sp r k.2 2∧wF k.1≤20):=by
  intro ns r h1 h2 g;refine .bind (iU g (by omega)) fun k3 ⟨s1,_⟩=>.ite (fun _=>?_) (fun _=>?_)
  ·refine .bind (yE (by simp) (g.to s1 (D:=1) (by omega)) (by omega)) fun k5 ⟨s2,_⟩=>.pure ⟨s1.trans s2 (by omega),by simp[wF,oQ]⟩
  ·refine .bind (iU (g.to s1 (D:=1) (by omega)) (by omega)) fun k6 ⟨s2,hv⟩=>?_;obtain⟨v0,v1⟩:=hv (by omega);obtain⟨x,hx,hm⟩:=dh v0 v1;unfold dO;exact .bp x hx (.pure ⟨s1.trans s2 (by omega),by have:=h2 x hm; simp[wF,oQ]; omega⟩)
 induction d with
 | zero=>
  intro _ ns r h1 _ h2 g;have g:Gd r 3:=g;refine .succ ?_;simp only[gQ];refine Ex.bind (P:=fun o=>o=(true,r)) (.pos rfl (.pure rfl)) ?_;rintro o rfl;exact .pos rfl ((leaf ns r h1 h2 (g.to (.refl (Int.le_refl 0)) (by omega))).mono fun k ⟨a,b⟩=>⟨a.mono (by simp[b7]),b⟩)
 | succ d ih=>
  intro hd ns r h1 hl h2 g;have ih:=ih (by omega);have hB:=Zq d;have hW:=adE d;have g:Gd r (24+3*b7 d):=g;refine .succ ?_;simp only[gQ];refine Ex.bind (P:=fun o=>Sp r o.2 1) (.neg (by omega) (.bind (iU g (by omega)) fun k15 ⟨s1,_⟩=>.pure s1)) ?_;rintro ⟨b,r1⟩ s1;have g1:Gd r1 (23+3*b7 d):=g.to s1 (by omega);refine .ite (fun _=>?_) (fun _=>?_)
  ·exact(leaf ns r1 h1 h2 (g1.to (.refl (Int.le_refl 0)) (by omega))).mono fun k ⟨a,b⟩=>⟨s1.trans a (by simp only[b7]; omega),by simp only[w7]; omega⟩
  ·refine .bind (Zj (by simp) g1 (by omega)) fun k10 ⟨s2,hm⟩=>?_;obtain⟨x,r2⟩:=k10;simp only at s2 hm ⊢;have hx:x.length=1:=by
    simp only[List.mem_cons,List.not_mem_nil,or_false] at hm;rcases hm with rfl | rfl | rfl <;> rfl
   have g2:Gd r2 (22+3*b7 d):=g1.to s2 (by omega);refine .bp _ (oL (by omega)) (.bp _ (cZ (by simp; omega)) (.bind (iU g2 (by omega)) fun k13 ⟨s3,_⟩=>?_));obtain⟨v,r3⟩:=k13;simp only at s3 ⊢;have g3:Gd r3 (21+3*b7 d):=g2.to s3 (by omega);have s03:Sp r r3 3:=s1.trans (s2.trans s3 (D:=2) (by omega)) (by omega);have e1:aX (((d+1:Nat):Int)-1)=(d:Int):=by rw[jW (by omega) (by omega)]; omega
   rw[e1];simp only[dO,fH,Option.bind_some];have h2':∀y∈ns++[x],y.length≤20:=fun y hy=>by
    rcases List.mem_append.1 hy with hy | hy
    ·exact h2 y hy
    ·rw[List.mem_singleton.1 hy]; omega
   have i1:∀r',Gd r' (b7 d)→_:=fun r' gr=>ih ns r' h1 (by omega) h2 gr;have i2:∀r',Gd r' (b7 d)→_:=fun r' gr=>ih (ns++[x]) r' (by simp) (by simp; omega) h2' gr;refine Ex.bind (P:=fun _=>True) (.ite (fun _=>.pure trivial) (fun _=>.pure trivial)) ?_;intro b1 _;refine .ite (fun _=>?_) (fun _=>?_)
   ·refine .bind (i2 r3 (g3.to (.refl (Int.le_refl 0)) (by omega))) fun k19 ⟨t1,u1⟩=>.pure ⟨s03.trans t1 (by simp only[b7]; omega),?_⟩;simp only[wF,oQ,w7,List.length_cons,List.length_nil]; omega
   refine Ex.bind (P:=fun _=>True) (.ite (fun _=>.pure trivial) (fun _=>.pure trivial)) ?_;intro b2 _;refine .ite (fun _=>?_) (fun _=>.ite (fun _=>?_) (fun _=>.ite (fun _=>?_) (fun _=>?_)))
   ·refine .bind (i1 r3 (g3.to (.refl (Int.le_refl 0)) (by omega))) fun k24 ⟨t1,u1⟩=>?_;refine .bind (i2 k24.2 (g3.to t1 (by omega))) fun k28 ⟨t2,u2⟩=>.pure ⟨s03.trans (t1.trans t2 (D:=2*b7 d) (by omega)) (by simp only[b7]; omega),?_⟩;simp only[wF,oQ,w7,List.length_cons,List.length_nil]; omega
   ·refine .bind (i1 r3 (g3.to (.refl (Int.le_refl 0)) (by omega))) fun k32 ⟨t1,u1⟩=>?_;refine .bind (i1 k32.2 (g3.to t1 (by omega))) fun k33 ⟨t2,u2⟩=>?_;have z:Ex (fun n=>gQ n ns 0 k33.2) (fun k=>Sp k33.2 k.2 3∧wF k.1≤20):=by
     have g4:Gd k33.2 3:=(g3.to t1 (D:=21+2*b7 d) (by omega)).to t2 (by omega);refine .succ ?_;simp only[gQ];refine Ex.bind (P:=fun o=>o=(true,k33.2)) (.pos trivial (.pure rfl)) ?_;rintro o rfl;exact .pos rfl ((leaf ns k33.2 h1 h2 (g4.to (.refl (Int.le_refl 0)) (by omega))).mono fun k ⟨a,b⟩=>⟨a.mono (by omega),b⟩)
    refine .bind z fun k34 ⟨t3,u3⟩=>.pure ⟨s03.trans (t1.trans (t2.trans t3 (D:=3+b7 d) (by omega)) (D:=3+2*b7 d) (by omega)) (by simp only[b7]; omega),?_⟩;simp only[wF,oQ,w7,List.length_cons,List.length_nil]; omega
   ·have e34:bF 1=12:=by simp[bF]
    refine .bind (Vp 1 (by omega) r3 (by rw[e34]; exact g3.to (.refl (Int.le_refl 0)) (by omega))) fun k38 ⟨t1,hf⟩=>.pure ⟨s03.trans t1 (by rw[e34]; simp only[b7]; omega),?_⟩;have:=Kz 1 hf;simp only[wD] at this;simp only[wF,oQ,w7,List.length_cons,List.length_nil]; omega
   ·refine .bind (i1 r3 (g3.to (.refl (Int.le_refl 0)) (by omega))) fun TY ⟨t1,u1⟩=>?_;refine .bind (i1 TY.2 (g3.to t1 (by omega))) fun Ua ⟨t2,u2⟩=>.pure ⟨s03.trans (t1.trans t2 (D:=2*b7 d) (by omega)) (by simp only[b7]; omega),?_⟩;simp only[wF,oQ,w7,List.length_cons,List.length_nil]; omega
def t7:List (List UInt8):=[nV,nU,nK,nP,nC,nH,nJ,nG,nO,nT,mY,nD,nS,nM,nR]
theorem adF:∀x∈t7,x.length≤500:=by decide
theorem abq (r:bg) (g:Gd r 100000):Ex (fun n=>yB n r) (fun k=>Sp r k.2 100000∧wF k.1≤100000):=by
 unfold yB zn;refine .bp t7 rfl (.bind (iU g (by omega)) fun k2 ⟨s1,_⟩=>?_);have g1:Gd k2.2 99999:=g.to s1 (by omega);refine .ite (fun _=>?_) (fun _=>?_)
 ·refine .bind (iU g1 (by omega)) fun k4 ⟨s2,hv⟩=>?_;obtain⟨v0,v1⟩:=hv (by decide);obtain⟨x,hx,hm⟩:=dh v0 v1;have hl:=adF x hm;refine .bp x hx (.bind (OI x (by omega)) fun k6 hk=>.pure ⟨s1.trans s2 (by omega),by simp only; omega⟩)
 ·refine .bind (yE (by simp) g1 (by omega)) fun k8 ⟨s2,hm⟩=>?_;have g2:Gd k8.2 99998:=g1.to s2 (by omega);obtain⟨d,hd,hk⟩:∃d:Nat,d≤4∧k8.1=(d:Int):=by
   simp only[List.mem_cons,List.not_mem_nil,or_false] at hm;rcases hm with h | h | h
   ·exact⟨4,by omega,h⟩
   ·exact⟨3,by omega,h⟩
   ·exact⟨2,by omega,h⟩
  rw[hk];have hB:b7 d≤10000∧w7 d≤10000:=by
   have:d=0∨d=1∨d=2∨d=3∨d=4:=by omega
   rcases this with rfl | rfl | rfl | rfl | rfl <;> simp[b7,w7]
  refine .bind (abp d (by omega) [[43],[108,105,115,116],[103]] k8.2 (by simp) (by simp; omega) (by decide) (g2.to (.refl (Int.le_refl 0)) (by omega))) fun k9 ⟨s3,w3⟩=>?_;have g3:Gd k9.2 80000:=g2.to s3 (by omega);refine .bind (iU g3 (by omega)) fun k10 ⟨s4,_⟩=>?_;refine Ex.bind (P:=fun f=>wF f≤100000) (.ite (fun _=>?_) (fun _=>.pure (by omega))) ?_
  ·have hl:Dn.length≤500:=by decide
   refine .bind (OI _ (by omega)) fun k13 hk=>?_;have hl2:fP.length≤20:=by decide
   simp only[dO,fH,Option.bind_some];refine .pure ?_;simp only[wF,oQ,List.length_cons,List.length_nil]; omega
  ·intro f hf;exact .pure ⟨s1.trans (s2.trans (s3.trans s4 (D:=10001) (by omega)) (D:=10002) (by omega)) (by omega),hf⟩
theorem Ex.anyI {α ω:Type} {m:Nat→α→Option Bool} {p:α→Bool} {yes:ω} {xs:List α} {f:Nat→Unit→Option ω} {Q:ω→Prop} (h:∀x∈xs,gB (fun n=>m n x) (p x)) (hy:xs.any p=true→Q yes) (hn:xs.any p=false→Ex (fun n=>f n ()) Q) :
  Ex (fun n=>Mx.bn (Mx.bI (fun(_:Unit) (_:Nat) (x:α)=>((m n x).bind fun k=>(if k=true then some (Sum.inl yes) else some (Sum.inr ())):Option (ω⊕Unit))) 0 xs ()) (f n)) Q:=by
 refine Ex.bn (P:=fun o=>match o with
  | .inl w=>w=yes∧xs.any p=true
  | .inr _=>xs.any p=false) ?_ ?_ ?_
 ·refine Ex.bI (I:=fun i q s=>(∀x∈q,x∈xs)∧xs.any p=q.any p) ⟨fun _ h=>h,rfl⟩ ?_ ?_
  ·rintro i x q s ⟨h1,h2⟩;refine .bv (h x (h1 x (List.mem_cons_self))) ?_;cases hp:p x with
   | false=>exact .neg (by simp) (.fg ⟨fun y hy=>h1 y (List.mem_cons_of_mem _ hy),by rw[h2,List.any_cons,hp,Bool.false_or]⟩)
   | true=>exact .pos rfl (.fo ⟨rfl,by rw[h2,List.any_cons,hp,Bool.true_or]⟩)
  ·rintro s ⟨_,h2⟩;exact h2
 ·rintro w ⟨rfl,h⟩; exact hy h
 ·rintro ⟨⟩ h; exact hn h
def QU {α β:Type} (R:α→β→Prop):List α→List β→Prop
 | [],[]=>True
 | x::xs,y::ys=>R x y∧QU R xs ys
 | _,_=>False
theorem QV {α β:Type} {R:α→β→Prop} {x:α} {y:β} (h:R x y):∀{xs:List α} {ys:List β},QU R xs ys→QU R (xs++[x]) (ys++[y])
 | [],[],_=>⟨h,trivial⟩
 | a::xs,b::ys,h2=>⟨h2.1,QV h h2.2⟩
theorem QW {α β:Type} {R:α→β→Prop}:∀{xs:List α} {ys:List β},QU R xs ys→xs.length=ys.length
 | [],[],_=>rfl
 | _::_,_::_,h=>by simp[QW h.2]
theorem Ex.afE {α β:Type} {m:Nat→α→Option β} {R:α→β→Prop} {xs:List α} {be:Nat} (hb:xs.length*be≤140737488355328) (h:∀x∈xs,Ex (fun n=>m n x) (R x)) :
  Ex (fun n=>Mx.dV (fun(s:List β) (_:Nat) (x:α)=>(m n x).bind fun k=>(jm be s [k]).bind fun z=>some z) 0 xs []) (QU R xs):=by
 refine Ex.dV (I:=fun i q s=>∃p,p++q=xs∧QU R p s) ⟨[],rfl,trivial⟩ ?_ ?_
 ·rintro i x q s ⟨p,rfl,hr⟩;have hl:=QW hr;refine .bind (h x (by simp)) fun k hk=>.bp _ (cZ ?_) (.pure ⟨p++[x],by simp,QV hk hr⟩);refine Nat.le_trans (Nat.mul_le_mul_right _ ?_) hb;simp; omega
 ·rintro s ⟨p,hp,hr⟩;rw[List.append_nil] at hp; rw[← hp]; exact hr
mutual
def RN (s:Nat):Form→Prop
 | ⟨_,nm,_,sc,kids⟩=>nm.length≤12∧sc.length≤s∧Bc s kids
def Bc (s:Nat):List Form→Prop
 | []=>True
 | x::r=>RN s x∧Bc s r
end
theorem zy {s:Nat} {f:Form}:RN s f↔f.name.length≤12∧f.scopes.length≤s∧Bc s f.kids:=by cases f; simp only[RN]
theorem sH {s:Nat}:∀{l:List Form},Bc s l↔∀x∈l,RN s x
 | []=>by simp[Bc]
 | x::r=>by simp[Bc,sH (l:=r)]
theorem Zr {s:Nat} {a b:List Form} (h1:Bc s a) (h2:Bc s b):Bc s (a++b):=sH.2 fun x hx=>(List.mem_append.1 hx).elim (sH.1 h1 x) (sH.1 h2 x)
mutual
theorem abX (s:Nat):∀f:Form,RN s f→wF f+1≤(13+s)*cF f
 | ⟨k,nm,n,sc,kids⟩,h=>by
  simp only[RN] at h;have:=Zt s kids h.2.2;simp only[wF,cF,Nat.mul_add]; omega
theorem Zt (s:Nat):∀l:List Form,Bc s l→oQ l+l.length≤(13+s)*iG l
 | [],_=>by simp[oQ]
 | x::r,h=>by
  have:=abX s x h.1;have:=Zt s r h.2;simp only[oQ,iG,Nat.mul_add,List.length_cons]; omega
end
mutual
theorem Fb {s t:Nat} (hs:s≤t):∀f:Form,RN s f→RN t f
 | ⟨k,nm,n,sc,kids⟩,h=>⟨h.1,Nat.le_trans h.2.1 hs,Nk hs kids h.2.2⟩
theorem Nk {s t:Nat} (hs:s≤t):∀l:List Form,Bc s l→Bc t l
 | [],_=>trivial
 | x::r,h=>⟨Fb hs x h.1,Nk hs r h.2⟩
end
theorem WZ {s:List UInt8} (h:nameB s=true):s.length≤12:=by
 unfold nameB at h;simp only[Bool.or_eq_true,Bool.and_eq_true,decide_eq_true_eq] at h;rcases h with (rfl | rfl) | ⟨_,_,h⟩
 ·decide
 ·decide
 ·exact h
theorem abr {l:List Int} (h:WW l=true):l.length≤24:=by
 unfold WW at h;simp only[Bool.and_eq_true,decide_eq_true_eq] at h;exact h.2
theorem Gn {d:Nat} {f:Form} (h:IQ d f=true):∃e,d=e+1∧f.name.length≤12∧f.scopes.length≤24∧(f.kind=1∨f.kind=2→f.kids=[])∧(f.kind=1∨f.kind=2∨f.kind=3)∧∀x∈f.kids,IQ e x=true:=by
 cases d with
 | zero=>cases h
 | succ e=>
  refine⟨e,rfl,?_⟩;simp only[IQ] at h;split at h
  ·rename_i h1;simp only[Bool.and_eq_true,decide_eq_true_eq] at h;have h4:=List.eq_nil_of_length_eq_zero h.2.2.2;exact⟨WZ h.1,abr h.2.2.1,fun _=>h4,.inl h1,fun x hx=>by rw[h4] at hx; cases hx⟩
  ·split at h
   ·rename_i h1;simp only[Bool.and_eq_true,decide_eq_true_eq] at h;have h4:=List.eq_nil_of_length_eq_zero h.2.2.2;exact⟨by rw[h.1]; decide,by omega,fun _=>h4,.inr (.inl h1),fun x hx=>by rw[h4] at hx; cases hx⟩
   ·split at h
    ·rename_i h1 h2 h3;simp only[Bool.and_eq_true,decide_eq_true_eq,List.all_eq_true] at h;exact⟨by rw[h.1]; decide,by omega,fun q=>by rcases q with q | q <;> omega,.inr (.inr h3),h.2.2.2⟩
    ·cases h
theorem Zu:∀{d:Nat} {f:Form},IQ d f=true→RN 24 f:=by
 intro d
 induction d with
 | zero=>intro f h; cases h
 | succ d ih=>
  intro f h;obtain⟨e,he,h1,h2,_,_,h5⟩:=Gn h;obtain rfl:d=e:=by omega
  exact zy.2 ⟨h1,h2,sH.2 fun x hx=>ih (h5 x hx)⟩
def zL (f:Form):Prop:=RN 26 f∧cF f≤401
theorem zL.w {f:Form} (h:zL f):wF f≤15638:=by have:=abX 26 f h.1; have:=h.2; omega
theorem zL.ok {f:Form} (h:zL f):okF f:=G9 f (by have:=h.w; omega)
theorem zL.kid {f x:Form} (h:zL f) (hx:x∈f.kids):zL x:=⟨sH.1 (zy.1 h.1).2.2 x hx,by have:=rJ hx; have:=qC f; have:=h.2; omega⟩
theorem Ci:∀l:List Form,l.length≤iG l
 | []=>by simp
 | x::r=>by have:=qC x; have:=Ci r; simp only[iG,List.length_cons]; omega
theorem zL.len {f:Form} (h:zL f):f.kids.length≤400:=by have:=Ci f.kids; have:=qC f; have:=h.2; omega
theorem Zv {f:Form} (h:eP f=true):zL f∧cF f≤400:=by
 unfold eP at h;simp only[Bool.and_eq_true,decide_eq_true_eq] at h;exact⟨⟨Fb (by omega) f (Zu h.1),by omega⟩,h.2⟩
theorem smZ:zL ⟨0,[],0,[],[]⟩:=⟨by simp[RN,Bc],by simp[cF,iG]⟩
theorem ru {f:Form} (h:zL f):gB (fun n=>bQ n f) (eP f):=EZ f h.ok (by have:=h.2; omega)
theorem OJ {f:Form} (h:zL f):gB (fun n=>iO n f) f:=IU f (by have:=h.w; omega)
theorem adG {f:Form} (h:zL f):gB (fun n=>kY n f) (cF f:Int):=Oz f (by have:=h.2; omega)
theorem Zw (l:List Int) (x:Int) (hl:l.length≤1000000):Ex (fun n=>AX n l x) (fun r=>r.length≤l.length+1):=by
 unfold AX;simp only[Fa,Option.bind_some];refine Ex.bind (P:=fun s=>s.1.length≤l.length+1∧(s.2=false→s.1.length≤l.length)) ?_ ?_
 ·refine Ex.dV (I:=fun i q s=>(i+q.length=l.length)∧s.1.length≤i+1∧(s.2=false→s.1.length≤i)) ⟨by simp,by simp,by simp⟩ ?_ ?_
  ·rintro i y q ⟨s,b⟩ ⟨h1,h2,h3⟩;simp only[List.length_cons] at h1 h2 h3 ⊢;refine Ex.bind (P:=fun o=>o=true→b=false) (.ite (fun hb=>.pure fun _=>by simpa using hb) (fun hb=>.pure (by simp))) ?_;intro o ho;refine Ex.bind (P:=fun z=>z.1.length≤i+1∧(z.2=false→z.1.length≤i)) ?_ ?_
   ·refine .ite (fun hc=>.bp _ (cZ (by simp; omega)) (.pure ⟨?_,by simp⟩)) (fun _=>.pure ⟨h2,h3⟩);have:=h3 (ho hc);simp; omega
   ·intro z ⟨z1,z2⟩;refine .bp _ (cZ (by simp; omega)) (.pure ⟨by omega,by simp; omega,fun hz=>?_⟩);have:=z2 hz;simp; omega
  ·rintro ⟨s,b⟩ ⟨h1,h2,h3⟩; exact⟨h2,h3⟩
 ·rintro ⟨s,b⟩ ⟨h1,h2⟩;simp only at h1 h2 ⊢;refine Ex.bind (P:=fun o=>o.length≤l.length+1) (.ite (fun hb=>.bp _ (cZ (by simp; omega)) (.pure ?_)) (fun _=>.pure h1)) (fun o ho=>.pure ho);have:=h2 (by simpa using hb);simp; omega
theorem W9 (l:List Int) (x:Int) (hl:l.length≤1000000):Ex (fun n=>xY n l x) (fun r=>r.length≤l.length):=by
 unfold xY;refine Ex.bind (P:=fun s=>s.length≤l.length) ?_ (fun s hs=>.pure hs);refine Ex.dV (I:=fun i q s=>(i+q.length=l.length)∧s.length≤i) ⟨by simp,by simp⟩ ?_ ?_
 ·rintro i y q s ⟨h1,h2⟩;simp only[List.length_cons] at h1;exact Ex.bind (P:=fun z=>z.length≤i+1) (.ite (fun _=>.bp _ (cZ (by simp; omega)) (.pure (by simp; omega))) (fun _=>.pure (by omega))) (fun o ho=>.pure ⟨by omega,ho⟩)
 ·rintro s ⟨h1,h2⟩; exact h2
theorem QX {l m:List Form} {s:Nat}:∀{l m:List Form},QU (fun x y=>RN s y∧cF y=cF x∧y.kind=x.kind) l m→Bc s m∧iG m=iG l
 | [],[],_=>⟨trivial,rfl⟩
 | x::l,y::m,h=>by
  obtain⟨h1,h2⟩:=QX (l:=l) (m:=m) h.2;exact⟨⟨h.1.1,h1⟩,by simp only[iG,h2,h.1.2.1]⟩
theorem QY (f:Form) (s:Nat) (hs:s≤1000) (ht:RN s f) (hc:cF f≤1000000) (x w:Int):Ex (fun n=>fD n f x w) (fun r=>RN (s+1) r∧cF r=cF f∧r.kind=f.kind):=by
 have he:=qC f;have hl:=Ci f.kids;obtain⟨t1,t2,t3⟩:=zy.1 ht;refine .succ ?_;simp only[fD];refine .bp _ (oL (by omega)) ?_;refine Ex.bind (P:=fun o=>o.length≤s+1) ?_ ?_
 ·refine .ite (fun _=>?_) (fun _=>.pure (by omega));refine Ex.bind (P:=fun _=>True) ?_ ?_
  ·refine .ite (fun _=>.pure trivial) (fun _=>.ite (fun _=>?_) (fun _=>.pure trivial));simp only[Fa,Option.bind_some]; exact .pure trivial
  ·intro o _;exact .ite (fun _=>.bind (W9 _ _ (by omega)) fun k hk=>.pure (by omega)) (fun _=>.bind (Zw _ _ (by omega)) fun k hk=>.pure (by omega))
 ·intro o ho;refine .bind (Ex.afE (m:=fun n y=>fD n y x w) (R:=fun x y=>RN (s+1) y∧cF y=cF x∧y.kind=x.kind) (by omega) (fun y hy=>QY y s hs (sH.1 t3 y hy) (by have:=rJ hy; omega) x w)) fun m hm=>.pure ?_;obtain⟨m1,m2⟩:=QX (l:=f.kids) (m:=m) hm;exact⟨zy.2 ⟨t1,ho,m1⟩,by rw[qC,qC f,m2],rfl⟩
termination_by SizeOf.sizeOf f
decreasing_by exact jo hy
def qF (f:Form):Bool:=decide (f.kind=1)&&decide (f.name=[46,46,46])
theorem Fe (n:Nat) (f:Form):gK n f=some (qF f):=by
 unfold gK qF;by_cases h:f.kind=1 <;> simp[h]
def inF (ls:List Form) (f:Form):Bool:=ls.any fun x=>iH x f
theorem OL (ls:List Form) (f:Form):gB (fun n=>wE n ls f) (inF ls f):=by
 refine Ex.yV ?_;unfold wE;exact Ex.anyI (m:=fun n x=>fC n x f) (p:=fun x=>iH x f) (fun x _=>zu x f) (fun h=>h.symm) (fun h=>.pure h.symm)
def Xa (ls:List Form) (f:Form):Bool:=decide (f.kind=1)&&(decide (¬f.name=[46,46,46])&&(decide (¬f.name=[95])&&!inF ls f))
theorem Vs (ls:List Form) (f:Form):gB (fun n=>xK n f ls) (Xa ls f):=by
 refine Ex.yV ?_;unfold xK Xa;refine Ex.bind (P:=fun b=>b=(decide (f.kind=1)&&(decide (¬f.name=[46,46,46])&&(decide (¬f.name=[95])&&!inF ls f)))) ?_ (fun b hb=>.pure hb);refine .ite (fun h1=>?_) (fun h1=>.pure (by simp[h1]));refine .ite (fun h2=>?_) (fun h2=>.pure (by simp only[decide_eq_false h2,Bool.and_false,Bool.false_and]));refine .ite (fun h3=>?_) (fun h3=>.pure (by simp only[decide_eq_false h3,Bool.and_false,Bool.false_and]));exact .bv (OL ls f) (.pure (by simp only[decide_eq_true h1,decide_eq_true h2,decide_eq_true h3,Bool.true_and]))
mutual
def KW (ls:List Form):Form→Nat
 | ⟨k,nm,n,sc,kids⟩=>(if Xa ls ⟨k,nm,n,sc,kids⟩=true then 1 else 0)+vS ls kids
def vS (ls:List Form):List Form→Nat
 | []=>0
 | x::r=>KW ls x+vS ls r
end
theorem KC (ls:List Form) (f:Form):KW ls f=(if Xa ls f=true then 1 else 0)+vS ls f.kids:=by cases f; simp only[KW]
mutual
theorem D7 (ls:List Form):∀f:Form,KW ls f≤cF f
 | ⟨k,nm,n,sc,kids⟩=>by have:=OM ls kids; simp only[KW,cF]; split <;> omega
theorem OM (ls:List Form):∀l:List Form,vS ls l≤iG l
 | []=>by simp[vS]
 | x::r=>by have:=D7 ls x; have:=OM ls r; simp only[vS,iG]; omega
end
theorem IW (ls:List Form) (p:Form) (o:List Form) (h:o.length+cF p≤1000000):Ex (fun n=>pV n o p ls) (fun r=>r.length=o.length+KW ls p):=by
 have he:=qC p;refine .succ ?_;simp only[pV];refine .bv (Vs ls p) ?_;refine Ex.bind (P:=fun z=>z.length=o.length+(if Xa ls p=true then 1 else 0)) ?_ ?_
 ·refine .ite (fun h1=>.bp _ (cZ (by simp; omega)) (.pure (by simp[h1]))) (fun h1=>.pure (by simp[h1]))
 intro z hz;refine Ex.bind (P:=fun s=>s.length=o.length+KW ls p) ?_ (fun s hs=>.pure hs);refine Ex.dV (I:=fun i q s=>s.length+vS ls q=o.length+KW ls p∧s.length+iG q≤1000000∧∀x∈q,x∈p.kids) ⟨by rw[KC,hz]; omega,by rw[hz]; split <;> omega,fun _ h=>h⟩ ?_ ?_
 ·rintro i x q s ⟨h1,h2,h3⟩;simp only[vS,iG] at h1 h2;have g4:=h3 x (List.mem_cons_self);have hv:=D7 ls x;refine .bind (IW ls x s (by omega)) fun k hk=>.pure ⟨by omega,by omega,fun y hy=>h3 y (List.mem_cons_of_mem _ hy)⟩
 ·rintro s ⟨h1,_,_⟩
  simpa [vS] using h1
termination_by SizeOf.sizeOf p
decreasing_by exact jo g4
theorem IX (ls:List Form) (p:Form) (o:List Int) (d:Int) (h:o.length+cF p≤1000000):Ex (fun n=>jM n o p ls d) (fun r=>r.length=o.length+KW ls p):=by
 have he:=qC p;have hk:=Ci p.kids;refine .succ ?_;simp only[jM,Fe];refine .bv (Vs ls p) ?_;refine Ex.bind (P:=fun z=>z.length=o.length+(if Xa ls p=true then 1 else 0)) ?_ ?_
 ·refine .ite (fun h1=>.bp _ (cZ (by simp; omega)) (.pure (by simp[h1]))) (fun h1=>.pure (by simp[h1]))
 intro z hz;refine Ex.bind (P:=fun s=>s.length=o.length+KW ls p) ?_ (fun s hs=>.pure hs);refine Ex.dV (I:=fun i q s=>s.length+vS ls q=o.length+KW ls p∧s.length+iG q≤1000000∧p.kids.drop i=q) ⟨by rw[KC,hz]; omega,by rw[hz]; split <;> omega,rfl⟩ ?_ ?_
 ·rintro i x q s ⟨h1,h2,h3⟩;simp only[vS,iG] at h1 h2;obtain⟨_,g2,g3,g4⟩:=jC h3;have hv:=D7 ls x;refine Ex.bind (P:=fun _=>True) (.ite (fun hc=>?_) (fun _=>.pure trivial)) ?_
  ·obtain⟨y,hy,_⟩:=dh (l:=p.kids) (i:=((i+1:Nat):Int)) (by omega) hc;exact .bp y hy (.pure trivial)
  intro b _;refine Ex.bind (P:=fun _=>True) (.ite (fun _=>.pure trivial) (fun _=>.pure trivial)) ?_;intro d' _;refine .bind (IX ls x s d' (by omega)) fun k hk=>.pure ⟨by omega,by omega,g2⟩
 ·rintro s ⟨h1,_,_⟩
  simpa [vS] using h1
termination_by SizeOf.sizeOf p
decreasing_by exact jo g4
theorem Vt {α:Type} {l:List α} {i:Int} (h0:0≤i) (h:i≤(l.length:Int)):∃z,IC l 0 i=some z∧∀x∈z,x∈l:=by
 unfold IC;rw[if_pos (by omega)];exact⟨_,rfl,fun x hx=>List.mem_of_mem_drop (List.mem_of_mem_take hx)⟩
theorem lJ {i:Int} (h0:0≤i) (h:i≤1000000000):aX (i+1)=i+1:=jW (by omega) (by omega)
theorem Vu {i:Int} (h0:0≤i) (h:i≤1000000000):aX (i-1)=i-1:=jW (by omega) (by omega)
def afF (b:Bind):Prop:=b.name.length≤12∧b.scopes.length≤26
def OO (bs:List Bind):Prop:=bs.length≤61∧∀b∈bs,afF b
theorem Vw (bs:List Bind) (h:OO bs):Ex (fun n=>kE n bs) (fun _=>True):=by
 have hl:=h.1;unfold kE;refine Ex.iter (μ:=fun s=>((bs.length:Int)-s).toNat) (I:=fun s=>0≤s∧s≤(bs.length:Int)) 0 ⟨by omega,by omega⟩ ?_;rintro s ⟨h0,h1⟩;refine Ex.bind (P:=fun o=>o=true→s<(bs.length:Int)) (.ite (fun h=>.pure fun _=>h) (fun _=>.pure (by simp))) ?_;intro o ho;refine .ite (fun hc=>?_) (fun _=>.out trivial);have hs:=ho hc;obtain⟨b,hb,hm⟩:=dh h0 hs;obtain⟨b1,b2⟩:=h.2 b hm;refine Ex.bind (P:=fun _=>True) ?_ ?_
 ·exact .bp b hb (.bv (IK _ (by unfold Ht; omega)) (.ite (fun _=>.pure trivial) (fun _=>.bv (Oy _ (by unfold Ht; omega)) (.ite (fun _=>.pure trivial) (fun _=>.ite (fun _=>.pure trivial) (fun _=>.pure trivial))))))
 intro o5 _;refine .ite (fun _=>.out trivial) (fun _=>?_);refine Ex.iter (μ:=fun s7=>(s-s7).toNat) (I:=fun s7=>0≤s7∧s7≤s) 0 ⟨by omega,by omega⟩ ?_;rintro t ⟨t0,t1⟩;refine .ite (fun ht=>?_) (fun _=>.out ⟨fun _ _=>trivial,fun s' e=>?_⟩)
 ·obtain⟨c,hc',hm'⟩:=dh t0 (Int.lt_trans ht hs);refine Ex.bind (P:=fun _=>True) (.bp c hc' (.bp b hb (.ite (fun _=>.bv (Ku _ _) (.pure trivial)) (fun _=>.pure trivial)))) ?_;intro nZ _;exact .ite (fun _=>.out ⟨fun _ _=>trivial,fun s' e=>by cases e⟩) (fun _=>.go (by rw[lJ (by omega) (by omega)]; omega) (by rw[lJ (by omega) (by omega)]; omega))
 ·cases e;rw[lJ (by omega) (by omega)]; omega
theorem Zx (bs:List Bind) (h:OO bs):Ex (fun n=>jZ n bs) (fun _=>True):=by
 have hl:=h.1;unfold jZ;refine Ex.iter (μ:=fun s=>((bs.length:Int)-s).toNat) (I:=fun s=>0≤s∧s≤(bs.length:Int)) 0 ⟨by omega,by omega⟩ ?_;rintro s ⟨h0,h1⟩;refine Ex.bind (P:=fun o=>o=true→s<(bs.length:Int)) (.ite (fun h=>.pure fun _=>h) (fun _=>.pure (by simp))) ?_;intro o ho;refine .ite (fun hc=>?_) (fun _=>.out trivial);have hs:=ho hc;have hv:s.toNat<bs.length:=by omega
 have hb:=List.getElem?_eq_getElem hv;obtain⟨b1,b2⟩:=h.2 _ (List.getElem_mem hv);have hi:=F5 (n:=bs.length) h0 hv;refine Ex.bind (P:=fun _=>True) ?_ ?_
 ·exact .bp () hi (.bp _ hb (.bv (IK _ (by unfold Ht; omega)) (.ite (fun _=>.pure trivial) (fun _=>.bp () hi (.bv (Oy _ (by unfold Ht; omega)) (.ite (fun _=>.pure trivial) (fun _=>.bp () hi (.ite (fun _=>.pure trivial) (fun _=>.bp () hi (.pure trivial))))))))))
 intro o5 _;refine .ite (fun _=>.out trivial) (fun _=>?_);refine Ex.iter (μ:=fun s7=>(s-s7).toNat) (I:=fun s7=>0≤s7∧s7≤s) 0 ⟨by omega,by omega⟩ ?_;rintro t ⟨t0,t1⟩;refine .ite (fun ht=>?_) (fun _=>.out ⟨fun _ _=>trivial,fun s' e=>?_⟩)
 ·have hv':t.toNat<bs.length:=by omega
  have hb':=List.getElem?_eq_getElem hv';have hi':=F5 (n:=bs.length) t0 hv';refine Ex.bind (P:=fun _=>True) (.bp () hi' (.bp _ hb' (.bp () hi (.bp _ hb (.ite (fun _=>.bp () hi' (.bp () hi (.bv (Ku _ _) (.pure trivial)))) (fun _=>.pure trivial)))))) ?_;intro nZ _;exact .ite (fun _=>.out ⟨fun _ _=>trivial,fun s' e=>by cases e⟩) (fun _=>.go (by rw[lJ (by omega) (by omega)]; omega) (by rw[lJ (by omega) (by omega)]; omega))
 ·cases e;rw[lJ (by omega) (by omega)]; omega
theorem Vx (a b:List Int):gB (fun n=>jc n a b) (a.all fun x=>decide (x∈b)):=by
 refine Ex.yV ?_;unfold jc;exact Ex.allI (m:=fun n x=>ou n b x) (p:=fun x=>decide (x∈b)) (fun x _=>⟨0,fun n _=>Fa n b x⟩) (fun h=>.pure h.symm) (fun h=>h.symm)
theorem adH (bs:List Bind) (hl:bs.length≤1000000) (f:Form):Ex (fun n=>qA n bs f) (fun r=>∀i∈r,0≤i∧i<(bs.length:Int)):=by
 unfold qA;refine Ex.bind (P:=fun r=>∀i∈r,0≤i∧i<(bs.length:Int)) ?_ (fun s hs=>.pure hs);refine Ex.dV (I:=fun i q s=>(i+q.length=bs.length)∧s.length≤i∧∀j∈s,0≤j∧j<(bs.length:Int)) ⟨by simp,by simp,by simp⟩ ?_ (fun s h=>h.2.2);rintro i b q s ⟨h1,h2,h3⟩;simp only[List.length_cons] at h1;refine Ex.bind (P:=fun s=>s.length≤i+1∧∀j∈s,0≤j∧j<(bs.length:Int)) ?_ (fun s hs=>.pure ⟨by omega,hs⟩);refine Ex.bind (P:=fun _=>True) (.ite (fun _=>.bv (Vx _ _) (.pure trivial)) (fun _=>.pure trivial)) ?_;intro o _;refine .ite (fun _=>.bp _ (cZ (by simp; omega)) (.pure ⟨by simp; omega,fun j hj=>?_⟩)) (fun _=>.pure ⟨by omega,h3⟩);rcases List.mem_append.1 hj with hj | hj
 ·exact h3 j hj
 ·rw[List.mem_singleton.1 hj]; omega
theorem OQ (bs:List Bind) (hl:bs.length≤1000000) (f:Form):Ex (fun n=>qP n bs f) (fun r=>r.2=0∨r.2=2∨0≤r.1∧r.1<(bs.length:Int)):=by
 unfold qP;refine .bind (adH bs hl f) fun k hk=>?_;refine Ex.bn (P:=fun o=>match o with
  | .inl w=>0≤w.1∧w.1<(bs.length:Int)
  | .inr _=>True) ?_ (fun w h=>.inr (.inr h)) (fun _ _=>.ite (fun _=>.pure (.inr (.inl rfl))) (fun _=>.pure (.inl rfl)))
 refine Ex.bI (I:=fun i q s=>∀x∈q,x∈k) (fun _ h=>h) ?_ (fun _ _=>trivial);intro i x q s h;have hx:=hk x (h x List.mem_cons_self);obtain⟨b,hb,_⟩:=dh hx.1 hx.2;refine Ex.bind (P:=fun _=>True) ?_ (fun o _=>.ite (fun _=>.fo hx) (fun _=>.fg fun y hy=>h y (List.mem_cons_of_mem _ hy)));refine Ex.dV (I:=fun i q s=>∀x∈q,x∈k) (fun _ h=>h) ?_ (fun _ _=>trivial);intro j y q' s' h';have hy:=hk y (h' y List.mem_cons_self);obtain⟨c,hc,_⟩:=dh hy.1 hy.2;exact Ex.bind (P:=fun _=>True) (.ite (fun _=>.bp c hc (.bp b hb (.bv (Vx _ _) (.pure trivial)))) (fun _=>.pure trivial)) (fun o _=>.pure fun z hz=>h' z (List.mem_cons_of_mem _ hz))
theorem Zy (bs:List Bind) (hl:bs.length≤1000000) (f g:Form):Ex (fun n=>xO n bs f g) (fun _=>True):=by
 unfold xO;refine .bind (OQ bs hl f) fun k1 h1=>.bind (OQ bs hl g) fun k2 h2=>?_;refine Ex.bind (P:=fun o=>o=false→k1.2=k2.2∧¬k1.2=2) (.ite (fun h=>.pure (by simp)) (fun h=>.pure fun e=>⟨by simpa using h,by simpa using e⟩)) ?_;intro o ho;refine .ite (fun _=>.pure trivial) (fun hc=>.ite (fun _=>.pure trivial) (fun hz=>?_));obtain⟨g1,g2⟩:=ho (by simpa using hc);have p1:0≤k1.1∧k1.1<(bs.length:Int):=h1.elim (fun h=>absurd h hz) (fun h=>h.elim (fun h=>absurd h g2) id);have p2:0≤k2.1∧k2.1<(bs.length:Int):=h2.elim (fun h=>absurd (g1.trans h) hz) (fun h=>h.elim (fun h=>absurd (g1.trans h) g2) id);obtain⟨b,hb,_⟩:=dh p1.1 p1.2;obtain⟨c,hc,_⟩:=dh p2.1 p2.2;exact .bp b hb (.bp c hc (.pure trivial))
theorem Zz (f:Form) (h:zL f):Ex (fun n=>Cb n f) (fun _=>True):=by
 unfold Cb;exact Ex.bind (P:=fun _=>True) (.ite (fun _=>.bv (ru h) (.pure trivial)) (fun _=>.pure trivial)) (fun o _=>.pure trivial)
theorem Xb (bs:List Bind) (h:OO bs):gB (fun n=>yg n bs) bs:=by
 have hl:=h.1;refine Ex.yV ?_;unfold yg;refine Ex.bind (P:=fun s=>s=bs) ?_ (fun s hs=>.pure hs);refine Ex.dV (I:=fun i q s=>s=bs.take i∧bs.drop i=q) ⟨rfl,rfl⟩ ?_ ?_
 ·rintro i x q s ⟨rfl,hd⟩;obtain⟨g1,g2,g3,g4⟩:=jC hd;have:=(h.2 x g4).2;refine .bp _ (oL (by omega)) (.bp _ (cZ (by simp; omega)) (.pure ⟨?_,g2⟩));rw[List.take_add_one,g1]; cases x; rfl
 ·rintro s ⟨rfl,_⟩; simp
theorem abt (bs:List Bind) (h:OO bs) (hl:bs.length<60) (f:Form) (hf:zL f) (id:Int):Ex (fun n=>vG n bs f id) (fun r=>r.2=true→OO r.1∧r.1.length=bs.length+1):=by
 unfold vG;obtain⟨f1,f2,_⟩:=zy.1 hf.1;refine Ex.bind (P:=fun _=>True) (.bind (Vw bs h) fun k _=>.ite (fun _=>.pure trivial) (fun _=>.bind (Zz f hf) fun k _=>.pure trivial)) ?_;intro o _;refine .ite (fun _=>.pure (by simp)) (fun _=>.bv (Xb bs h) (.bp _ (oL (by omega)) (.bp _ (cZ (by simp; omega)) ?_)));have hn:OO (bs++[(⟨f.name,f.scopes,id⟩:Bind)]):=⟨by simp; omega,fun b hb=>by
  rcases List.mem_append.1 hb with hb | hb
  ·exact h.2 b hb
  ·rw[List.mem_singleton.1 hb]; exact⟨f1,f2⟩⟩
 exact .bind (Zx _ hn) fun k _=>.ite (fun _=>.pure (by simp)) (fun _=>.pure fun _=>⟨hn,by simp⟩)
def OT (ls:List Form):Prop:=ls.length≤1000∧∀x∈ls,zL x
theorem Vy (ls:List Form) (h:OT ls):Ex (fun n=>kF n ls) (fun _=>True):=by
 have hl:=h.1;unfold kF;refine Ex.iter (μ:=fun s=>((ls.length:Int)-s).toNat) (I:=fun s=>0≤s∧s≤(ls.length:Int)) 0 ⟨by omega,by omega⟩ ?_;rintro s ⟨h0,h1⟩;refine Ex.bind (P:=fun o=>o=true→s<(ls.length:Int)) (.ite (fun h=>.pure fun _=>h) (fun _=>.pure (by simp))) ?_;intro o ho;refine .ite (fun hc=>?_) (fun _=>.out trivial);have hs:=ho hc;obtain⟨b,hb,hm⟩:=dh h0 hs;obtain⟨z,hz,_⟩:=Vt h0 h1;refine Ex.bind (P:=fun _=>True) ?_ ?_
 ·exact .bp b hb (.bind (Zz b (h.2 b hm)) fun k _=>.ite (fun _=>.pure trivial) (fun _=>.ite (fun _=>.pure trivial) (fun _=>.ite (fun _=>.pure trivial) (fun _=>.bp z hz (.bv (OL _ _) (.pure trivial))))))
 intro o5 _;exact .ite (fun _=>.out trivial) (fun _=>.go (by rw[lJ (by omega) (by omega)]; omega) (by rw[lJ (by omega) (by omega)]; omega))
mutual
def Xm:Form→Prop
 | ⟨k,nm,n,sc,kids⟩=>qF ⟨k,nm,n,sc,kids⟩=false∧Xc kids∧(∀x,kids.head? = some x→qF x=false)∧kids.countP qF≤1
def Xc:List Form→Prop
 | []=>True
 | x::r=>(qF x=false→Xm x)∧Xc r
end
theorem ZA {f:Form}:Xm f↔qF f=false∧Xc f.kids∧(∀x,f.kids.head? = some x→qF x=false)∧f.kids.countP qF≤1:=by cases f; simp only[Xm]
theorem KE:∀{l:List Form},Xc l↔∀x∈l,qF x=false→Xm x
 | []=>by simp[Xc]
 | x::r=>by simp[Xc,KE (l:=r)]
theorem QZ (f:Form) (hf:zL f):Ex (fun n=>qQ n f) (fun r=>r=true→Xm f):=by
 have hl:=hf.len;refine .succ ?_;simp only[qQ,Fe,Option.bind_some];refine .ite (fun _=>.pure (by simp)) (fun hd=>?_);refine Ex.bn (Q:=fun r=>r=true→Xm f) (P:=fun(o:Bool⊕Int)=>match o with
  | .inl w=>w=false
  | .inr s=>s≤1→Xm f) ?_ (fun w h=>by have h:w=false:=h; simp[h]) (fun s h=>Ex.pure (v:=decide (s≤1)) fun e=>h (by simpa using e))
 refine Ex.bI (I:=fun i q s=>∃p,p++q=f.kids∧i=p.length∧s=((p.countP qF:Nat):Int)∧(∀x∈p,qF x=false→Xm x)∧(∀x,p.head? = some x→qF x=false)) ⟨[],rfl,rfl,rfl,by simp,by simp⟩ ?_ ?_
 ·rintro i x q s ⟨p,hp,rfl,rfl,h3,h4⟩;have hx:x∈f.kids:=by rw[← hp]; simp
  have hlen:p.length+(q.length+1)=f.kids.length:=by rw[← hp]; simp
  have hc:=List.countP_le_length (p:=qF) (l:=p);have hp':(p++[x])++q=f.kids:=by rw[← hp]; simp
  have tail:∀{R:Bool⊕Int→Prop} {g:Nat→Option ((Bool⊕Int)⊕Int)},Ex g (fun r=>(r=.inl (.inl false)∧R (.inl false))∨∃s,r=.inr s∧R (.inr s))→Ex (fun n=>Mx.bn (g n) (fun s=>some (.inr s))) R:=fun h=>by
   refine Ex.bn h (fun w hw=>?_) (fun t ht=>?_)
   ·rcases hw with ⟨e,h⟩ | ⟨s,e,_⟩
    ·cases e; exact h
    ·cases e
   ·rcases ht with ⟨e,_⟩ | ⟨s,e,h⟩
    ·cases e
    ·cases e; exact .pure h
  refine tail ?_;refine .ite (fun Nl=>?_) (fun Nl=>?_)
  ·refine Ex.bind (P:=fun o=>o=false→0<p.length) (.ite (fun _=>.pure (by simp)) (fun h0=>?_)) ?_
   ·obtain⟨y,hy,_⟩:=dh (l:=f.kids) (i:=(p.length:Int)-1) (by omega) (by omega);rw[Vu (by omega) (by omega)];exact .bp y hy (.pure fun _=>by omega)
   ·intro o ho;refine .ite (fun _=>.pure (.inl ⟨rfl,fun w e=>by cases e; rfl,fun s' e=>by cases e⟩)) (fun hc'=>.pure (.inr ⟨_,rfl,fun w e=>by(cases e),fun s' e=>?_⟩));cases e;have hpos:=ho (by simpa using hc');refine⟨p++[x],hp',by simp,?_,?_,?_⟩
    ·rw[lJ (by omega) (by omega),List.countP_append]; simp[Nl]
    ·intro y hy hdy;rcases List.mem_append.1 hy with hy | hy
     ·exact h3 y hy hdy
     ·rw[List.mem_singleton.1 hy,Nl] at hdy; cases hdy
    ·intro y hy;cases p with
     | nil=>simp at hpos
     | cons a p=>exact h4 y (by simpa using hy)
  ·refine .bind (QZ x (hf.kid hx)) fun k hk=>?_;refine .ite (fun _=>.pure (.inl ⟨rfl,fun w e=>by cases e; rfl,fun s' e=>by cases e⟩)) (fun hc'=>.pure (.inr ⟨_,rfl,fun w e=>by(cases e),fun s' e=>?_⟩));cases e;have hkx:=hk (by simpa using hc');refine⟨p++[x],hp',by simp,?_,?_,?_⟩
   ·rw[List.countP_append]; simp[Nl]
   ·intro y hy hdy;rcases List.mem_append.1 hy with hy | hy
    ·exact h3 y hy hdy
    ·rw[List.mem_singleton.1 hy]; exact hkx
   ·intro y hy;cases p with
    | nil=>simp at hy; rw[← hy]; simpa using Nl
    | cons a p=>exact h4 y (by simpa using hy)
 ·rintro s ⟨p,hp,_,rfl,h3,h4⟩ hs;rw[List.append_nil] at hp;subst hp;exact ZA.2 ⟨by simpa using hd,KE.2 h3,h4,by omega⟩
termination_by SizeOf.sizeOf f
decreasing_by exact jo hx
theorem adI (f:Form) (hf:zL f) (ls:List Form) (h:OT ls):Ex (fun n=>ER n f ls) (fun r=>r=true→eP f=true∧Xm f):=by
 have hc:=hf.2;have hvl:=D7 ls f;unfold ER;refine Ex.bind (P:=fun o=>o=false→eP f=true∧Xm f) ?_ ?_
 ·refine .bv (ru hf) (.ite (fun _=>.pure (by simp)) (fun h1=>.bind (Vy ls h) fun k _=>.ite (fun _=>.pure (by simp)) (fun _=>.bind (QZ f hf) fun k hk=>.pure fun e=>⟨by simpa using h1,hk (by simpa using e)⟩)))
 intro o ho;refine .ite (fun _=>.pure (by simp)) (fun hc'=>?_);have hgood:=ho (by simpa using hc');refine .bind (IW ls f [] (by simp; omega)) fun k3 hk3=>?_;refine Ex.bn (P:=fun _=>True) ?_ (fun _ _ _=>hgood) ?_
 ·refine Ex.bI (I:=fun i q s=>k3.drop i=q) rfl ?_ (fun _ _=>trivial);intro i x q s hd;obtain⟨_,g2,g3,_⟩:=jC hd;obtain⟨z,hz,_⟩:=Vt (l:=k3) (i:=(i:Int)) (by omega) (by omega);exact .bp z hz (.bv (OL _ _) (.ite (fun _=>.fo trivial) (fun _=>.fg g2)))
 intro _ _;refine .bind (IX ls f [] 0 (by simp; omega)) fun k16 _=>?_;refine Ex.bn (P:=fun _=>True) ?_ (fun _ _ _=>hgood) (fun _ _=>.pure fun _=>hgood);exact Ex.bI (I:=fun _ _ _=>True) trivial (fun i x q s _=>.ite (fun _=>.fo trivial) (fun _=>.fg trivial)) (fun _ _=>trivial)
theorem Q5 (hs:List iJ) (f:Form):Ex (fun n=>uD n hs f) (fun r=>r=-1∨0≤r∧r<(hs.length:Int)):=by
 unfold uD;refine Ex.bn (P:=fun o=>match o with
  | .inl w=>0≤w∧w<(hs.length:Int)
  | .inr _=>True) ?_ (fun w h=>.inr h) (fun _ _=>.pure (.inl rfl))
 refine Ex.bI (I:=fun i q s=>hs.drop i=q) rfl ?_ (fun _ _=>trivial);intro i x q s hd;obtain⟨_,g2,g3,_⟩:=jC hd;exact .bv (zu _ _) (.ite (fun _=>.fo ⟨by omega,by omega⟩) (fun _=>.fg g2))
theorem Np (hs:List iJ) (f:Form):Ex (fun n=>qR n hs f) (fun _=>True):=by
 unfold qR;refine .ite (fun _=>.pure trivial) (fun _=>.bind (Q5 hs f) fun k hk=>.ite (fun _=>.pure trivial) (fun hn=>?_));obtain⟨h,hh,_⟩:=dh (l:=hs) (i:=k) (by omega) (by omega);exact .bp h hh (.pure trivial)
theorem ZB (hs:List iJ) (h:hs.length≤1000000):Ex (fun n=>xW n hs) (fun r=>r.length=hs.length):=by
 unfold xW;refine Ex.bind (P:=fun s=>s.length=hs.length) ?_ (fun s hs=>.pure hs);refine Ex.dV (I:=fun i q s=>i+q.length=hs.length∧s.length=i) ⟨by simp,rfl⟩ ?_ (fun s h=>h.2);rintro i x q s ⟨h1,h2⟩;simp only[List.length_cons] at h1;exact Ex.bind (P:=fun _=>True) (.ite (fun _=>.pure trivial) (fun _=>.pure trivial)) (fun o _=>.bp _ (cZ (by simp; omega)) (.pure ⟨by omega,by simp; omega⟩))
theorem Q7 (hs:List iJ) (f:Form):Ex (fun n=>uF n hs f) (fun _=>True):=by
 refine .succ ?_;simp only[uF];refine .bind (Np hs f) fun k _=>.ite (fun _=>.pure trivial) (fun _=>?_);refine Ex.bn (P:=fun _=>True) ?_ (fun _ _=>trivial) (fun _ _=>.pure trivial);refine Ex.bI (I:=fun i q s=>∀x∈q,x∈f.kids) (fun _ h=>h) ?_ (fun _ _=>trivial);intro i x q s h;have hx:=h x List.mem_cons_self;exact .bind (Q7 hs x) fun k _=>.ite (fun _=>.fo trivial) (fun _=>.fg fun y hy=>h y (List.mem_cons_of_mem _ hy))
termination_by SizeOf.sizeOf f
decreasing_by exact jo hx
theorem Uc (f:Form) (hf:zL f) (hs:List iJ) (h:hs.length≤1000000):Ex (fun n=>zf n f hs) (fun _=>True):=by
 have hl:=hf.len;refine .succ ?_;simp only[zf,Fe,Option.bind_some];refine Ex.bind (P:=fun _=>True) (.ite (fun _=>.pure trivial) (fun _=>.bind (Np hs f) fun k _=>.pure trivial)) ?_;intro o _;refine .ite (fun _=>.pure trivial) (fun _=>?_);refine Ex.bn (P:=fun _=>True) ?_ (fun _ _=>trivial) (fun _ _=>.pure trivial);refine Ex.bI (I:=fun i q s=>f.kids.drop i=q) rfl ?_ (fun _ _=>trivial);intro i x q s hd;obtain⟨_,g2,g3,hx⟩:=jC hd;refine Ex.bn (P:=fun o=>∀w,o=.inl w→∃b,w=.inl b) ?_ (fun w hw=>?_) (fun _ _=>.fg g2)
 ·refine .ite (fun _=>?_) (fun _=>?_)
  ·refine Ex.bind (P:=fun _=>True) (.ite (fun _=>.pure trivial) (fun h0=>?_)) (fun o _=>.ite (fun _=>.pure (fun w e=>by cases e; exact⟨_,rfl⟩)) (fun _=>.pure (fun w e=>by cases e)));obtain⟨y,hy,_⟩:=dh (l:=f.kids) (i:=(i:Int)-1) (by omega) (by omega);rw[Vu (by omega) (by omega)];exact .bp y hy (.pure trivial)
  ·refine Ex.bind (P:=fun _=>True) (.ite (fun hc=>?_) (fun _=>.pure trivial)) ?_
   ·obtain⟨y,hy,_⟩:=dh (l:=f.kids) (i:=((i+1:Nat):Int)) (by omega) hc;exact .bp y hy (.pure trivial)
   intro o _;refine .ite (fun _=>?_) (fun _=>?_)
   ·refine Ex.bind (P:=fun _=>True) ?_ (fun o _=>.ite (fun _=>.pure (fun w e=>by cases e; exact⟨_,rfl⟩)) (fun _=>.pure (fun w e=>by cases e)));exact .bind (Q7 hs x) fun k _=>.ite (fun _=>.pure trivial) (fun _=>.bind (ZB hs h) fun k hk=>.bind (Uc x (hf.kid hx) k (by omega)) fun k _=>.pure trivial)
   ·exact .bind (Uc x (hf.kid hx) hs h) fun k _=>.ite (fun _=>.pure (fun w e=>by cases e; exact⟨_,rfl⟩)) (fun _=>.pure (fun w e=>by cases e))
 ·obtain⟨b,rfl⟩:=hw w rfl;exact⟨fun _ _=>trivial,fun s' e=>by cases e⟩
termination_by SizeOf.sizeOf f
decreasing_by all_goals exact jo hx
theorem Xd (f:Form) (hf:zL f) (ls:List Form):Ex (fun n=>vk n f ls) (fun r=>r.length≤401):=by
 have hc:=hf.2;have hvl:=D7 ls f;unfold vk;refine .bind (IW ls f [] (by simp; omega)) fun k1 h1=>.bind (IX ls f [] 0 (by simp; omega)) fun k2 h2=>?_;simp only[List.length_nil,Nat.zero_add] at h1 h2;refine Ex.bind (P:=fun s=>s.length≤401) ?_ (fun s hs=>.pure hs);refine Ex.dV (I:=fun i q s=>k1.drop i=q∧s.length=i) ⟨rfl,rfl⟩ ?_ (fun s h=>by have:=h.2; omega);rintro i x q s ⟨hd,h3⟩;obtain⟨_,g2,g3,_⟩:=jC hd;have hi:i<k2.length:=by omega
 refine .bp () (F5 (by omega) (by simpa using hi)) (.bp _ (List.getElem?_eq_getElem hi) ?_);exact Ex.bind (P:=fun _=>True) (.ite (fun _=>.pure trivial) (fun _=>.pure trivial)) (fun o _=>.bp _ (cZ (by simp; omega)) (.pure ⟨g2,by simp; omega⟩))
def adJ (r:Rule):Prop:=zL r.pattern∧zL r.template
def ruP (r:Rule):Prop:=eP r.pattern=true∧Xm r.pattern∧r.pattern.kind=3
theorem abu (r:Rule) (hr:adJ r) (ls:List Form) (h:OT ls):Ex (fun n=>xX n r ls) (fun b=>b=true→ruP r):=by
 unfold xX;refine Ex.bind (P:=fun b=>b=true→ruP r) ?_ (fun b hb=>.pure hb);refine .bind (adI r.pattern hr.1 ls h) fun k hk=>.ite (fun h1=>.ite (fun h2=>.ite (fun _=>.bv (ru hr.2) (.ite (fun _=>?_) (fun _=>.pure (by simp)))) (fun _=>.pure (by simp))) (fun _=>.pure (by simp))) (fun _=>.pure (by simp));exact .bind (Xd r.pattern hr.1 ls) fun k8 h8=>.bind (Uc r.template hr.2 k8 (by omega)) fun k9 _=>.pure fun _=>⟨(hk h1).1,(hk h1).2,h2⟩
def Ud (rs:List Rule):Prop:=rs.length≤1000∧∀r∈rs,adJ r
theorem Q8 (rs:List Rule) (hr:Ud rs) (ls:List Form) (h:OT ls):Ex (fun n=>qU n rs ls) (fun b=>b=true→∀r∈rs,ruP r):=by
 have hl:=hr.1;unfold qU;refine Ex.iter (μ:=fun s=>((rs.length:Int)-s).toNat) (I:=fun s=>0≤s∧s≤(rs.length:Int)∧∀i:Nat,(i:Int)<s→∀r,rs[i]? = some r→ruP r) 0 ⟨by omega,by omega,fun i h=>by omega⟩ ?_;rintro s ⟨h0,h1,h2⟩;refine Ex.bind (P:=fun o=>(o=true→s<(rs.length:Int))∧(o=false→s=(rs.length:Int)∨10≤s)) (.ite (fun h=>.pure ⟨fun _=>h,fun e=>.inr (by simpa using e)⟩) (fun h=>.pure ⟨by simp,fun _=>.inl (by omega)⟩)) ?_;rintro o ⟨ho,ho'⟩;refine .ite (fun hc=>?_) (fun hc=>?_)
 ·have hs:=ho hc;obtain⟨b,hb,hm⟩:=dh h0 hs;refine .bp b hb (.bind (abu b (hr.2 b hm) ls h) fun k hk=>.ite (fun _=>.out (by simp)) (fun hk'=>.go ?_ (by rw[lJ (by omega) (by omega)]; omega)));rw[lJ (by omega) (by omega)];refine⟨by omega,by omega,fun i hi r hr'=>?_⟩;by_cases hlt:(i:Int)<s
  ·exact h2 i hlt r hr'
  ·have e:s=(i:Int):=by omega
   rw[e,dW hr'] at hb;cases hb;exact hk (by simpa using hk')
 ·refine Ex.bind (P:=fun b=>b=true→(rs.length:Int)<10) (.ite (fun h3=>.bind (Vy ls h) fun k _=>.pure fun _=>h3) (fun _=>.pure (by simp))) (fun o8 h8=>.out fun hb r hr'=>?_);have h10:=h8 hb;have he:s=(rs.length:Int):=by rcases ho' (by simpa using hc) with h | h <;> omega
  obtain⟨i,hi,rfl⟩:=List.mem_iff_getElem.1 hr';exact h2 i (by omega) _ (List.getElem?_eq_getElem hi)
theorem Ex.tail {A σ:Type} {R:A⊕σ→Prop} {g:Nat→Option ((A⊕σ)⊕σ)} (h:Ex g (fun r=>(∃a,r=.inl (.inl a)∧R (.inl a))∨∃s,r=.inr s∧R (.inr s))):Ex (fun n=>Mx.bn (g n) (fun s=>some (.inr s))) R:=by
 refine Ex.bn h (fun w hw=>?_) (fun t ht=>?_)
 ·rcases hw with ⟨a,e,h⟩ | ⟨s,e,_⟩
  ·cases e; exact h
  ·cases e
 ·rcases ht with ⟨a,e,_⟩ | ⟨s,e,h⟩
  ·cases e
  ·cases e; exact .pure h
mutual
def htP:iJ→Prop
 | ⟨_,_,one,many⟩=>zL one∧many.length≤1000∧sJ many
def sJ:List iJ→Prop
 | []=>True
 | x::r=>htP x∧sJ r
end
theorem KF {h:iJ}:htP h↔zL h.one∧h.many.length≤1000∧sJ h.many:=by cases h; simp only[htP]
theorem qE:∀{l:List iJ},sJ l↔∀x∈l,htP x
 | []=>by simp[sJ]
 | x::r=>by simp[sJ,qE (l:=r)]
theorem Bd {a b:List iJ} (h1:sJ a) (h2:sJ b):sJ (a++b):=qE.2 fun x hx=>(List.mem_append.1 hx).elim (qE.1 h1 x) (qE.1 h2 x)
theorem abv (p:Form) (hc:cF p≤401) (ls:List Form) (rows:List (List iJ)) (hl:rows.length≤1000) (h:∀r∈rows,r.length=KW ls p∧sJ r):Ex (fun n=>AO n p ls rows) (fun r=>r.length=KW ls p∧sJ r):=by
 have hvl:=D7 ls p;unfold AO;refine .bind (IW ls p [] (by simp; omega)) fun k1 h1=>.bind (IX ls p [] 0 (by simp; omega)) fun k2 h2=>?_;simp only[List.length_nil,Nat.zero_add] at h1 h2;refine Ex.bind (P:=fun r=>r.length=KW ls p∧sJ r) ?_ (fun s hs=>.pure hs);refine Ex.dV (I:=fun i q s=>k1.drop i=q∧s.length=i∧sJ s) ⟨rfl,rfl,trivial⟩ ?_ (fun s h=>⟨by rw[h.2.1,h1],h.2.2⟩);rintro i x q s ⟨hd,h3,h4⟩;obtain⟨_,g2,g3,_⟩:=jC hd;have hi:i<k2.length:=by omega
 refine .bp () (F5 (by omega) (by simpa using hi)) (.bp _ (List.getElem?_eq_getElem hi) ?_);refine Ex.bind (P:=fun t=>t.length=rows.length∧sJ t) ?_ ?_
 ·refine Ex.dV (I:=fun j q t=>(∀r∈q,r∈rows)∧j+q.length=rows.length∧t.length=j∧sJ t) ⟨fun _ h=>h,by simp,rfl,trivial⟩ ?_ (fun t h=>⟨h.2.2.1,h.2.2.2⟩);rintro j y q' t ⟨t1,t2,t3,t4⟩;simp only[List.length_cons] at t2;obtain⟨y1,y2⟩:=h y (t1 y List.mem_cons_self);obtain⟨e,he,hm⟩:=dh (l:=y) (i:=(i:Int)) (by omega) (by omega);exact .bp e he (.bp _ (cZ (by simp; omega)) (.pure ⟨fun r hr=>t1 r (List.mem_cons_of_mem _ hr),by omega,by simp; omega,Bd t4 ⟨qE.1 y2 e hm,trivial⟩⟩))
 ·rintro t ⟨t1,t2⟩;refine .bp _ (cZ (by simp; omega)) (.pure ⟨g2,by simp; omega,Bd h4 ⟨KF.2 ⟨smZ,by simp only; omega,t2⟩,trivial⟩⟩)
theorem He {p:Form→Bool}:∀{l:List Form},l.countP p≤1→∀{i j:Nat} {x y:Form},l[i]? = some x→l[j]? = some y→p x=true→p y=true→i=j
 | [],_,i,j,x,y,h,_,_,_=>by simp at h
 | a::l,hc,i,j,x,y,hi,hj,hx,hy=>by
  rw[List.countP_cons] at hc;have z:∀{k:Nat} {z:Form},l[k]? = some z→p z=true→p a=false∧l.countP p≤1:=fun {k z} hk hz=>by
   have:0<l.countP p:=List.countP_pos_iff.2 ⟨z,List.mem_of_getElem? hk,hz⟩;cases ha:p a with
   | true=>rw[ha,if_pos rfl] at hc; omega
   | false=>exact⟨rfl,by omega⟩
  cases i with
  | zero=>
   cases j with
   | zero=>rfl
   | succ j=>
    simp at hi hj; subst hi;rw[(z hj hy).1] at hx; cases hx
  | succ i=>
   cases j with
   | zero=>
    simp at hi hj; subst hj;rw[(z hi hx).1] at hy; cases hy
   | succ j=>
    simp at hi hj;rw[He (z hi hx).2 hi hj hx hy]
def mtR (ls:List Form) (v:Nat) (r:List iJ×Bool):Prop:=r.2=true→r.1.length=v∧sJ r.1
theorem ZC (bs:List Bind) (ls:List Form) (ps fs:List Form) (hcs:iG ps≤400) (hk:∀x∈ps,qF x=true→x.kids=[]) (hfs:∀x∈fs,zL x) (hfl:fs.length≤400) (hd0:∀x,ps.head? = some x→qF x=false) (hd1:ps.countP qF≤1) (hm:∀x∈ps,qF x=false→∀f,zL f→Ex (fun n=>iI n bs x ls f) (mtR ls (KW ls x))):Ex (fun n=>xP n bs ps ls fs) (mtR ls (vS ls ps)):=by
 have hpl:=Ci ps;refine .succ ?_;simp only[xP,Fe,Option.bind_some];refine Ex.iter (μ:=fun s=>((ps.length:Int)-s.2).toNat) (I:=fun s=>0≤s.2∧s.2≤(ps.length:Int)∧(∃j:Nat,s.2=(j:Int)∧((s.1=-1∧∀k x,k≤j→ps[k]? = some x→qF x=false)∨∃r:Nat,s.1=(r:Int)∧∃x,ps[r+1]? = some x∧qF x=true))) ((-1),0) ⟨by simp,by simp,0,rfl,.inl ⟨rfl,fun k x hk hx=>hd0 x ?_⟩⟩ ?_
 ·obtain rfl:k=0:=by omega
  rw[List.head?_eq_getElem?]; exact hx
 rintro ⟨row,i⟩ ⟨h0,h1,j,hj,hrow⟩;simp only at h0 h1 hj hrow ⊢;subst hj;rw[lJ (by omega) (by omega)];refine .ite (fun hlt=>?_) (fun hge=>?_)
 ·obtain⟨e,he,_⟩:=dh (l:=ps) (i:=(j:Int)+1) (by omega) hlt;have hg:ps[j+1]? = some e:=by
   have hv:j+1<ps.length:=by omega
   have:=dW (List.getElem?_eq_getElem hv);rw[show((j+1:Nat):Int)=(j:Int)+1 by omega,he] at this;rw[List.getElem?_eq_getElem hv,← Option.some.inj this]
  refine Ex.bind (P:=fun o=>(qF e=true∧o=(j:Int))∨(qF e=false∧o=row)) (.bp e he (.ite (fun h=>.pure (.inl ⟨h,rfl⟩)) (fun h=>.pure (.inr ⟨by simpa using h,rfl⟩)))) ?_;intro o ho;refine .fg ⟨⟨?_,?_,j+1,?_,?_⟩,?_⟩
  ·try simp only
   omega
  ·try simp only
   omega
  ·try simp only
   omega
  rotate_left
  ·try simp only
   omega
  rcases ho with ⟨hd,rfl⟩ | ⟨hd,rfl⟩
  ·exact .inr ⟨j,rfl,e,hg,hd⟩
  ·rcases hrow with ⟨hr,ha⟩ | hr
   ·refine .inl ⟨hr,fun k x hk hx=>?_⟩;rcases Nat.lt_or_ge j k with hlt | hle
    ·obtain rfl:k=j+1:=by omega
     rw[hg] at hx; cases hx; exact hd
    ·exact ha k x hle hx
   ·exact .inr hr
 ·refine Ex.bind (P:=fun o=>o=false→(row<0→(ps.length:Int)=(fs.length:Int))∧(row≥0→(fs.length:Int)≥(ps.length:Int)-2)) ?_ ?_
  ·have hw:aX ((ps.length:Int)-2)=(ps.length:Int)-2:=jW (by omega) (by omega);rw[hw];refine .ite (fun hn=>?_) (fun hn=>?_)
   ·refine .ite (fun _=>.pure (by simp)) (fun he=>?_);exact .neg (by omega) (.pure fun _=>⟨fun _=>by omega,fun h=>by omega⟩)
   ·exact .pos (by omega) (Ex.pure (v:=decide ((fs.length:Int)<(ps.length:Int)-2)) fun e=>⟨fun h=>by omega,fun _=>by have e:=of_decide_eq_false e; omega⟩)
  intro o9 ho9;refine .ite (fun _=>.fo (fun h=>by cases h)) (fun fQ=>?_);obtain⟨hA,hB⟩:=ho9 (by simpa using fQ);have hw:aX ((ps.length:Int)-2)=(ps.length:Int)-2:=jW (by omega) (by omega);have hw2:aX ((fs.length:Int)-((ps.length:Int)-2))=(fs.length:Int)-((ps.length:Int)-2):=jW (by omega) (by omega);rw[hw,hw2];have hnd:∀k x,ps[k]? = some x→qF x=true→∃r:Nat,row=(r:Int)∧k=r+1:=by
   intro k x hx hd;rcases hrow with ⟨hr,ha⟩ | ⟨r,hr,y,hy,hdy⟩
   ·have:k<ps.length:=(List.getElem?_eq_some_iff.1 hx).1;rw[ha k x (by omega) hx] at hd; cases hd
   ·exact⟨r,hr,He hd1 hx hy hd hdy⟩
  have hrr:row<0∨∃r:Nat,row=(r:Int)∧r+1<ps.length∧∃x,ps[r+1]? = some x∧qF x=true:=by
   rcases hrow with ⟨hr,ha⟩ | ⟨r,hr,y,hy,hdy⟩
   ·exact .inl (by omega)
   ·exact .inr ⟨r,hr,(List.getElem?_eq_some_iff.1 hy).1,y,hy,hdy⟩
  refine Ex.bn (P:=fun o=>match o with
   | .inl w=>∃h:List iJ,w=.inl (h,false)
   | .inr s=>s.1.length=vS ls ps∧sJ s.1) ?_ ?_ ?_
  ·refine Ex.bI (I:=fun i q s=>ps.drop i=q∧s.1.length+vS ls q=vS ls ps∧sJ s.1∧((row<0→s.2=(i:Int))∧∀r:Nat,row=(r:Int)→(i≤r→s.2=(i:Int))∧(r+2≤i→s.2=(i:Int)-2+((fs.length:Int)-((ps.length:Int)-2)))∧(i=r+1→s.2=(r:Int)+((fs.length:Int)-((ps.length:Int)-2))))) ⟨rfl,by simp,trivial,fun _=>rfl,fun r _=>⟨fun _=>rfl,fun h=>by omega,fun h=>by omega⟩⟩ ?_ (fun s h=>⟨by simpa [vS] using h.2.1,h.2.2.1⟩);rintro i x q ⟨hs,at_⟩ ⟨hd,s1,s2,s3,s4⟩;obtain⟨g1,g2,g3,g4⟩:=jC hd;simp only[vS] at s1 s3 s4 ⊢;have hvs:vS ls ps≤400:=Nat.le_trans (OM ls ps) hcs;have hcx:=rJ g4;refine Ex.tail ?_;refine .ite (fun Nl=>.pure (.inr ⟨_,rfl,fun w e=>by(cases e),fun s' e=>?_⟩)) (fun Nl=>?_)
   ·cases e;obtain⟨r,hr,hir⟩:=hnd i x g1 Nl;have hv:KW ls x=0:=by
     rw[KC,hk x g4 Nl];have:Xa ls x=false:=by
      unfold qF at Nl; unfold Xa;simp only[Bool.and_eq_true,decide_eq_true_eq] at Nl;simp[Nl.2]
     simp[this,vS]
    refine⟨g2,by simp only; omega,s2,fun h=>by omega,fun r' hr'=>⟨fun h=>by omega,fun h=>?_,fun h=>by omega⟩⟩;have:=(s4 r hr).2.2 hir;simp only; omega
   have Nl:qF x=false:=by simpa using Nl
   refine .ite (fun hir=>?_) (fun hir=>?_)
   ·have hat:0≤at_∧at_<(fs.length:Int)∧(row<0→at_=(i:Int)):=by
     refine⟨?_,?_,fun h=>s3 h⟩
     ·rcases hrr with h | ⟨r,hr,hr2,y,hy,hdy⟩
      ·rw[s3 h]; omega
      ·have hB:=hB (by omega);obtain⟨a1,a2,a3⟩:=s4 r hr;rcases Nat.lt_or_ge r i with hlt | hle
       ·rcases Nat.lt_or_ge (r+1) i with hl2 | hl2
        ·rw[a2 hl2]; omega
        ·rw[a3 (by omega)]; omega
       ·rw[a1 hle]; omega
     ·rcases hrr with h | ⟨r,hr,hr2,y,hy,hdy⟩
      ·have:=hA h; rw[s3 h]; omega
      ·have hB:=hB (by omega);obtain⟨a1,a2,a3⟩:=s4 r hr;rcases Nat.lt_or_ge r i with hlt | hle
       ·rcases Nat.lt_or_ge (r+1) i with hl2 | hl2
        ·rw[a2 hl2]; omega
        ·obtain rfl:i=r+1:=by omega
         rw[g1] at hy; cases hy;rw[hdy] at Nl; cases Nl
       ·rw[a1 hle]; omega
    obtain⟨e,he,hem⟩:=dh hat.1 hat.2.1;refine .bp e he (.bind (hm x g4 Nl e (hfs e hem)) fun k24 CP=>?_);refine .ite (fun _=>.pure (.inl ⟨_,rfl,fun w e=>by cases e; exact⟨_,rfl⟩,fun s' e=>by cases e⟩)) (fun hk2=>?_);obtain⟨m1,m2⟩:=CP (by simpa using hk2);refine .bp _ (cZ (by omega)) (.pure (.inr ⟨_,rfl,fun w e=>by(cases e),fun s' e=>?_⟩));cases e;rw[lJ hat.1 (by omega)];refine⟨g2,by simp only[List.length_append]; omega,Bd s2 m2,fun h=>?_,fun r hr=>?_⟩
    ·have:=s3 h; simp only; omega
    ·obtain⟨a1,a2,a3⟩:=s4 r hr;have hne:i≠r:=fun e=>hir (by rw[hr,e]);have hne2:i≠r+1:=fun e=>by
      rcases hrr with h | ⟨r',hr',hr2,y,hy,hdy⟩
      ·omega
      ·obtain rfl:r=r':=by omega
       rw[← e,g1] at hy; cases hy;rw[hdy] at Nl; cases Nl
     simp only;exact⟨fun h=>by have:=a1 (by omega); omega,fun h=>by have:=a2 (by omega); omega,fun h=>by omega⟩
   ·have hir:(i:Int)=row:=by simpa using hir
    have ha:=(s4 i hir.symm).1 (Nat.le_refl i);have hB:=hB (by omega);have hi2:i+1<ps.length:=by
     rcases hrr with h | ⟨r,hr,hr2,y,hy,hdy⟩
     ·omega
     ·omega
    subst ha;refine Ex.iter (μ:=fun s=>s.2.2.toNat) (I:=fun s=>0≤s.2.2∧s.1+s.2.2=(i:Int)+((fs.length:Int)-((ps.length:Int)-2))∧(i:Int)≤s.1∧(s.2.1.length:Int)=s.1-(i:Int)∧∀r∈s.2.1,r.length=KW ls x∧sJ r) _ ⟨by simp only; omega,by simp only,by simp only; omega,by simp,by simp⟩ ?_;rintro ⟨a,rows,c⟩ ⟨c1,c2,c3,c4,c5⟩;simp only at c1 c2 c3 c4 c5 ⊢;refine .ite (fun hc=>?_) (fun hc=>?_)
    ·obtain⟨e,he,hem⟩:=dh (l:=fs) (i:=a) (by omega) (by omega);refine .bp e he (.bind (hm x g4 Nl e (hfs e hem)) fun k32 J6=>?_);refine .ite (fun _=>.fo (.inl ⟨_,rfl,fun w e=>by cases e; exact⟨_,rfl⟩,fun s' e=>by cases e⟩)) (fun hk2=>?_);have J6:=J6 (by simpa using hk2);refine .bp _ (cZ (by simp; omega)) (.fg ⟨?_,by simp only; rw[Vu (by omega) (by omega)]; omega⟩);simp only;rw[lJ (by omega) (by omega),Vu (by omega) (by omega)];refine⟨by omega,by omega,by omega,by simp; omega,fun r hr=>?_⟩;rcases List.mem_append.1 hr with hr | hr
     ·exact c5 r hr
     ·rw[List.mem_singleton.1 hr]; exact J6
    ·refine .bind (abv x (by omega) ls rows (by omega) c5) fun Du JZ=>.bp _ (cZ (by omega)) (.fo (.inr ⟨_,rfl,fun w e=>by(cases e),fun s' e=>?_⟩));cases e;refine⟨g2,by simp only[List.length_append]; omega,Bd s2 JZ.2,fun h=>by omega,fun r hr=>?_⟩;obtain rfl:i=r:=by omega
     exact⟨fun h=>by omega,fun h=>by omega,fun _=>by simp only; omega⟩
  ·rintro w ⟨h,rfl⟩;exact⟨fun w e=>by cases e; simp[mtR],fun s' e=>by cases e⟩
  ·rintro s ⟨h1,h2⟩;exact .fo fun _=>⟨h1,h2⟩
theorem Nq (bs:List Bind) (hb:bs.length≤1000000) (ls:List Form) (p:Form) (hv:∃d,IQ d p=true) (hsh:Xm p) (hp:cF p≤401) (f:Form) (hf:zL f):Ex (fun n=>iI n bs p ls f) (mtR ls (KW ls p)):=by
 obtain⟨d,hv⟩:=hv;obtain⟨e,_,v1,v2,v3,v4,v5⟩:=Gn hv;obtain⟨q1,q2,q3,q4⟩:=ZA.1 hsh;have he:=qC p;refine .succ ?_;simp only[iI];refine .ite (fun h1=>?_) (fun h1=>?_)
 ·have hkn:=v3 (.inl h1);have hva:KW ls p=if Xa ls p=true then 1 else 0:=by rw[KC,hkn]; simp[vS]
  refine .ite (fun h2=>.pure fun _=>⟨?_,trivial⟩) (fun h2=>.bv (OL ls p) (.ite (fun h3=>?_) (fun h3=>?_)))
  ·rw[hva]; simp[Xa,h2]
  ·exact Ex.bind (P:=fun _=>True) (.ite (fun _=>.bind (Zy bs hb p f) fun k _=>.pure trivial) (fun _=>.pure trivial)) (fun o _=>.pure fun _=>⟨by rw[hva]; simp[Xa,h3],trivial⟩)
  ·refine .bp _ (cZ (by simp)) (.pure fun _=>⟨?_,KF.2 ⟨hf,by simp,trivial⟩,trivial⟩);have hn:¬p.name=[46,46,46]:=fun e=>by
    unfold qF at q1;simp[h1,e] at q1
   rw[hva]; simp[Xa,h1,h2,h3,hn]
 ·have hva:KW ls p=vS ls p.kids:=by rw[KC]; simp[Xa,h1]
  refine .ite (fun h2=>.bv (zu p f) (.pure fun _=>⟨?_,trivial⟩)) (fun h2=>.ite (fun _=>.pure (by simp[mtR])) (fun _=>?_))
  ·rw[hva,v3 (.inr h2)]; rfl
  ·rw[hva];refine .bind (ZC bs ls p.kids f.kids (by omega) (fun x hx hd=>?_) (fun x hx=>hf.kid hx) hf.len q3 q4 (fun x hx hd g hg=>Nq bs hb ls x ⟨e,v5 x hx⟩ (KE.1 q2 x hx hd) (by have:=rJ hx; omega) g hg)) fun k hk=>.pure hk;obtain⟨_,_,_,_,w3,_,_⟩:=Gn (v5 x hx);unfold qF at hd;simp only[Bool.and_eq_true,decide_eq_true_eq] at hd;exact w3 (.inl hd.1)
termination_by SizeOf.sizeOf p
decreasing_by exact jo hx
mutual
def RP (v:Form):Form→Bool
 | ⟨k,nm,n,sc,kids⟩=>(decide (k=1)&&iH ⟨k,nm,n,sc,kids⟩ v)||ZE v kids
def ZE (v:Form):List Form→Bool
 | []=>false
 | x::r=>RP v x||ZE v r
end
theorem adL (v f:Form):RP v f=((decide (f.kind=1)&&iH f v)||ZE v f.kids):=by cases f; simp only[RP]
theorem Q9 (v:Form):∀l:List Form,ZE v l=l.any (RP v)
 | []=>rfl
 | x::r=>by simp only[ZE,List.any_cons,Q9 v r]
theorem KG (f v:Form):gB (fun n=>pW n f v) (RP v f):=by
 refine .succ ?_;simp only[pW];rw[adL,Q9];refine Ex.yV ?_;refine Ex.bind (P:=fun o=>o=(decide (f.kind=1)&&iH f v)) (.ite (fun h=>.bv (zu f v) (.pure (by simp[h]))) (fun h=>.pure (by simp[h]))) ?_;rintro o rfl;cases (decide (f.kind=1)&&iH f v) with
 | true=>exact .pos rfl (.pure rfl)
 | false=>
  refine .neg (by simp) ?_;simp only[Bool.false_or];exact Ex.anyI (m:=fun n x=>pW n x v) (p:=RP v) (fun x hx=>KG x v) (fun h=>h.symm) (fun h=>.pure h.symm)
termination_by SizeOf.sizeOf f
decreasing_by exact jo hx
theorem ZF (f:Form) (hs:List iJ) (hh:sJ hs) (hl:hs.length≤1000):Ex (fun n=>vw n f hs) (fun r=>r≤1000∧(0≤r→∀h∈hs,¬h.depth=0→RP h.name f=true→r=(h.many.length:Int))):=by
 unfold vw;refine Ex.iter (μ:=fun s=>((hs.length:Int)-s.2).toNat) (I:=fun s=>0≤s.2∧s.2≤(hs.length:Int)∧-1≤s.1∧s.1≤1000∧∀(j:Nat) h,(j:Int)<s.2→hs[j]? = some h→¬h.depth=0→RP h.name f=true→s.1=(h.many.length:Int)) ((-1),0) ⟨by simp,by simp,by simp,by simp,fun j h hj=>by simp only at hj; omega⟩ ?_;rintro ⟨c,i⟩ ⟨h0,h1,h2,h3,h4⟩;simp only at h0 h1 h2 h3 h4 ⊢;refine .ite (fun hlt=>?_) (fun hge=>?_)
 ·obtain⟨e,he,hem⟩:=dh h0 hlt;have hml:=(KF.1 (qE.1 hh e hem)).2.1;have hg:∀(j:Nat) h,¬(j:Int)<i→(j:Int)<i+1→hs[j]? = some h→h=e:=fun j h hn hj hx=>by
   obtain rfl:i=(j:Int):=by omega
   rw[dW hx] at he; exact Option.some.inj he
  refine Ex.bn (P:=fun(o:(Int⊕(Int×Int))⊕Int)=>match o with
   | .inl w=>w=.inl (-1)
   | .inr c'=>-1≤c'∧c'≤1000∧∀(j:Nat) h,(j:Int)<i+1→hs[j]? = some h→¬h.depth=0→RP h.name f=true→c'=(h.many.length:Int)) ?_ ?_ ?_
  ·refine Ex.bind (P:=fun o=>o=true↔(e.depth=0∨RP e.name f=false)) (.bp e he (.ite (fun hd=>Ex.pure (v:=true) ⟨fun _=>.inl hd,fun _=>rfl⟩) (fun hd=>.bv (KG f e.name) (Ex.pure (v:=!RP e.name f) ⟨fun h=>.inr (by simpa using h),fun h=>h.elim (fun h=>absurd h hd) (fun h=>by simp[h])⟩)))) ?_;intro o6 ho6;refine .ite (fun hc6=>.pure ⟨h2,h3,fun j h hj hx hd hu=>?_⟩) (fun hc6=>?_)
   ·by_cases hji:(j:Int)<i
    ·exact h4 j h hji hx hd hu
    ·obtain rfl:=hg j h hji hj hx;rcases ho6.1 hc6 with h | h
     ·exact absurd h hd
     ·rw[h] at hu; cases hu
   ·have hn:¬e.depth=0∧RP e.name f=true:=by
     constructor
     ·intro h; exact hc6 (ho6.2 (.inl h))
     ·cases hu:RP e.name f with
      | true=>rfl
      | false=>exact absurd (ho6.2 (.inr hu)) hc6
    refine Ex.bind (P:=fun o=>o=false→c<0∨c=(e.many.length:Int)) (.ite (fun hc0=>.bp e he (Ex.pure (v:=decide (¬c=(e.many.length:Int))) fun h=>.inr (by have h:=of_decide_eq_false h; omega))) (fun hc0=>.pure fun _=>.inl (by omega))) ?_;intro o8 ho8;refine .ite (fun _=>.pure rfl) (fun hc8=>.bp e he (.pure ⟨by omega,by omega,fun j h hj hx hd hu=>?_⟩));by_cases hji:(j:Int)<i
    ·have:=h4 j h hji hx hd hu;rcases ho8 (by simpa using hc8) with h | h <;> omega
    ·obtain rfl:=hg j h hji hj hx;rfl
  ·rintro w rfl;exact⟨fun w e=>by cases e; exact⟨by omega,fun h=>by omega⟩,fun s' e=>by cases e⟩
  ·rintro c' ⟨q1,q2,q3⟩;rw[lJ h0 (by omega)];exact .fg ⟨⟨by simp only; omega,by simp only; omega,q1,q2,q3⟩,by simp only; omega⟩
 ·refine .fo ⟨h3,fun _ h hm=>?_⟩;obtain⟨j,hj,rfl⟩:=List.mem_iff_getElem.1 hm;exact h4 j _ (by omega) (List.getElem?_eq_getElem hj)
theorem adM (f:Form) (hs:List iJ) (hh:sJ hs) (hl:hs.length≤1000) (i:Int) (h0:0≤i) (hi:∀h∈hs,h.depth>0→RP h.name f=true→i<(h.many.length:Int)):Ex (fun n=>AU n f hs i) (fun r=>r.length=hs.length∧sJ r):=by
 unfold AU;refine Ex.iter (μ:=fun s=>((hs.length:Int)-s.2).toNat) (I:=fun s=>0≤s.2∧s.2≤(hs.length:Int)∧(s.1.length:Int)=s.2∧sJ s.1) ([],0) ⟨by simp,by simp,by simp,by simp[sJ]⟩ ?_;rintro ⟨s,j⟩ ⟨s0,s1,s2,s3⟩;simp only at s0 s1 s2 s3 ⊢;refine .ite (fun hlt=>?_) (fun hge=>.fo ⟨by omega,s3⟩);obtain⟨e,he,hem⟩:=dh s0 hlt;have hp:=qE.1 hh e hem;refine .bp e he (Ex.bind (P:=fun o=>o=true→e.depth>0∧RP e.name f=true) (.ite (fun hd=>.bv (KG f e.name) (.pure fun h=>⟨hd,h⟩)) (fun _=>.pure (by simp))) fun o6 ho6=>?_);refine Ex.bind (P:=fun o=>htP o) (.ite (fun hc=>?_) (fun _=>.pure hp)) fun o7 ho7=>.bp _ (cZ (by simp; omega)) (.fg ⟨⟨?_,?_,?_,Bd s3 ⟨ho7,trivial⟩⟩,?_⟩)
 ·obtain⟨g1,g2⟩:=ho6 hc;obtain⟨z,hz,hzm⟩:=dh h0 (hi e hem g1 g2);exact .bp z hz (.pure (qE.1 (KF.1 hp).2.2 z hzm))
 all_goals
  simp only;rw[lJ (by omega) (by omega)]
  try simp only[List.length_append,List.length_cons,List.length_nil]
  omega
theorem Fg:∀{a b:List Form},iG (a++b)=iG a+iG b
 | [],b=>by simp[iG]
 | x::r,b=>by simp only[List.cons_append,iG,Fg (a:=r)]; omega
theorem Vz (p:Form) (hp:zL p) (hs:List iJ) (hh:sJ hs) (hl:hs.length≤1000):Ex (fun n=>uG n p hs) (fun r=>zL r.1):=by
 have hlk:=hp.len;obtain⟨p1,p2,p3⟩:=zy.1 hp.1;refine .succ ?_;simp only[uG,Fe,Option.bind_some];refine Ex.bind (P:=fun o=>o=-1∨0≤o∧o<(hs.length:Int)) (.ite (fun _=>.bind (Q5 hs p) fun k hk=>.pure hk) (fun _=>.pure (.inl rfl))) ?_;intro o ho;refine .ite (fun h0=>?_) (fun _=>.bp _ (oL (by omega)) ?_)
 ·obtain⟨e,he,hem⟩:=dh (l:=hs) (i:=o) h0 (by omega);have hone:=(KF.1 (qE.1 hh e hem)).1;exact .bp e he (.bv (OJ hone) (.pure hone))
 refine Ex.bn (P:=fun r=>match r with
  | .inl w=>w=(p,false)
  | .inr s=>iG s.2≤400∧Bc 26 s.2) ?_ (fun w h=>by have h:w=(p,false):=h; rw[h]; exact hp) (fun s h=>.pure ⟨zy.2 ⟨p1,p2,h.2⟩,by have:=h.1; rw[qC]; simp only; omega⟩)
 refine Ex.bI (I:=fun i q s=>p.kids.drop i=q∧s.1=(iG s.2:Int)∧iG s.2≤400∧Bc 26 s.2) ⟨rfl,rfl,by simp[iG],trivial⟩ ?_ (fun s h=>⟨h.2.2.1,h.2.2.2⟩);rintro i x q ⟨sum,out⟩ ⟨hd,h1,h2,h3⟩;simp only at h1 h2 h3 ⊢;obtain⟨_,g2,g3,hx⟩:=jC hd;refine Ex.tail ?_;refine .ite (fun _=>.pure (.inr ⟨_,rfl,fun w e=>by(cases e),fun s' e=>by cases e; exact⟨g2,h1,h2,h3⟩⟩)) (fun _=>?_);refine Ex.bind (P:=fun _=>True) (.ite (fun hc=>?_) (fun _=>.pure trivial)) ?_
 ·obtain⟨y,hy,_⟩:=dh (l:=p.kids) (i:=((i+1:Nat):Int)) (by omega) hc;exact .bp y hy (.pure trivial)
 intro o18 _;refine Ex.bind (P:=fun c=>c≤1000∧(o18=true→0≤c→∀h∈hs,¬h.depth=0→RP h.name x=true→c=(h.many.length:Int))) (.ite (fun _=>.bind (ZF x hs hh hl) fun k hk=>.pure ⟨hk.1,fun _=>hk.2⟩) (fun hn=>.pure ⟨by omega,fun h=>absurd h hn⟩)) ?_;rintro c ⟨c1,c2⟩;refine .ite (fun _=>.pure (.inl ⟨_,rfl,fun w e=>by cases e; rfl,fun s' e=>by cases e⟩)) (fun hc0=>?_);refine Ex.iter (μ:=fun s=>(c-s.2.1).toNat) (I:=fun s=>0≤s.2.1∧s.2.1≤c∧s.1=(iG s.2.2:Int)∧iG s.2.2≤400∧Bc 26 s.2.2) _ ⟨by simp,by simp only; omega,h1,h2,h3⟩ ?_;rintro ⟨t,m,w⟩ ⟨m0,m1,t1,t2,t3⟩;simp only at m0 m1 t1 t2 t3 ⊢;refine .ite (fun hlt=>?_) (fun _=>.fo (.inr ⟨_,rfl,fun w e=>by(cases e),fun s' e=>by cases e; exact⟨g2,t1,t2,t3⟩⟩));refine Ex.bind (P:=fun r=>r.length=hs.length∧sJ r) (.ite (fun h18=>?_) (fun _=>.pure ⟨rfl,hh⟩)) ?_
 ·exact .bind (adM x hs hh hl m m0 (fun h hm hd hu=>by have:=c2 h18 (by omega) h hm (by omega) hu; omega)) fun k hk=>.pure hk
 rintro hs' ⟨l1,l2⟩;refine .bind (Vz x (hp.kid hx) hs' l2 (by omega)) fun k25 AV=>.bv (adG AV) ?_;have hc25:=AV.2;have hwl:=Ci w;rw[t1,jW (by omega) (by omega)];refine Ex.bind (P:=fun o=>o=false→(iG w:Int)+(cF k25.1:Int)≤400) (.ite (fun _=>.pure (by simp)) (fun _=>.pure fun e=>by have e:=of_decide_eq_false e; omega)) ?_;intro o27 ahO;refine .ite (fun _=>.fo (.inl ⟨_,rfl,fun w e=>by cases e; rfl,fun s' e=>by cases e⟩)) (fun hc27=>?_);have hle:=ahO (by simpa using hc27);have hap:iG (w++[k25.1])=iG w+cF k25.1:=by rw[Fg]; simp[iG]
 rw[lJ m0 (by omega)];exact .bp _ (cZ (by simp; omega)) (.fg ⟨⟨by simp only; omega,by simp only; omega,by simp only[hap]; omega,by simp only[hap]; omega,Zr t3 ⟨AV.1,trivial⟩⟩,by simp only; omega⟩)
termination_by SizeOf.sizeOf p
decreasing_by exact jo hx
theorem OU (f:Form) (hw:wF f≤1000000000):gB (fun n=>iy n f) f:=by
 have he:=Dh f;refine .succ ?_;simp only[iy];refine Ex.yV (.bp _ (oL (by omega)) (.bv (a:=f.kids) ?_ (.pure (by cases f; rfl))));refine .succ ?_;simp only[kL];refine Ex.yV (.bv (Ag (m:=fun n x=>iy n x) (be:=80) (by omega) (fun x hx=>OU x (by have:=BQ hx; omega))) (.pure rfl))
termination_by SizeOf.sizeOf f
decreasing_by exact jo hx
theorem ZG (rs:List Rule) (h:Ud rs):gB (fun n=>jk n rs) rs:=by
 have hl:=h.1;unfold jk;refine Ex.yV (.bv (Ag (m:=fun n x=>oC n x) (be:=160) (by omega) (fun x hx=>?_)) (.pure rfl));obtain⟨h1,h2⟩:=h.2 x hx;unfold oC;exact Ex.yV (.bv (OU _ (by have:=h1.w; omega)) (.bv (OU _ (by have:=h2.w; omega)) (.pure rfl)))
theorem Rf (bs:List Bind) (hb:OO bs) (rs:List Rule) (hr:Ud rs) (ls:List Form) (hl:OT ls) (f:Form) (hf:zL f):Ex (fun n=>lV n bs rs ls f) (fun r=>r.2=true→0≤r.1∧r.1<(rs.length:Int)∧(∀r∈rs,ruP r)∧∀e,gW rs r.1=some e→∃k,gB (fun n=>iI n bs e.pattern ls f) k∧mtR ls (KW ls e.pattern) k∧k.2=true):=by
 have hbl:=hb.1;unfold lV;refine Ex.bind (P:=fun o=>o=false→∀r∈rs,ruP r) (.bind (Vw bs hb) fun k _=>.ite (fun _=>.pure (by simp)) (fun _=>.bind (Q8 rs hr ls hl) fun k hk=>.ite (fun _=>.pure (by simp)) (fun hk'=>.bv (ru hf) (.pure fun _=>hk (by simpa using hk'))))) ?_;intro o ho;refine .ite (fun _=>.pure (by simp)) (fun hc=>?_);have hp:=ho (by simpa using hc);refine Ex.bn (P:=fun o=>match o with
  | .inl w=>0≤w.1∧w.1<(rs.length:Int)∧∀e,gW rs w.1=some e→∃k,gB (fun n=>iI n bs e.pattern ls f) k∧mtR ls (KW ls e.pattern) k∧k.2=true
  | .inr _=>True) ?_ (fun w h _=>⟨h.1,h.2.1,hp,h.2.2⟩) (fun _ _=>.pure (by simp))
 refine Ex.bI (I:=fun i q s=>rs.drop i=q) rfl ?_ (fun _ _=>trivial);intro i x q s hd;obtain⟨g1,g2,g3,hx⟩:=jC hd;obtain⟨q1,q2,q3⟩:=hp x hx;have hv:=Zv q1;unfold eP at q1;rw[Bool.and_eq_true] at q1;obtain⟨k,k1,k2⟩:=Nq bs (by omega) ls x.pattern ⟨40,q1.1⟩ q2 (by have:=hv.2; omega) f hf;refine .bv k1 (.ite (fun hk=>.fo ⟨by simp only; omega,by simp only; omega,fun e he=>?_⟩) (fun _=>.fg g2));rw[dW ‹rs[i]? = some x›] at he;cases he;exact⟨k,k1,k2,hk⟩
theorem ZH (bs:List Bind) (hb:OO bs) (rs:List Rule) (hr:Ud rs) (ls:List Form) (hl:OT ls) (f:Form) (hf:zL f):Ex (fun n=>oD n bs rs ls f) (fun r=>r.2=true→eP r.1=true):=by
 have hbl:=hb.1;unfold oD;refine .bv (ZG rs hr) (.bind (Rf bs hb rs hr ls hl f hf) fun k2 hk2=>.ite (fun _=>.pure (by simp)) (fun hc=>?_));obtain⟨i0,i1,hp,hm⟩:=hk2 (by simpa using hc);obtain⟨e,he,hx⟩:=dh i0 i1;obtain⟨q1,q2,q3⟩:=hp e hx;obtain⟨k,m1,m2,m3⟩:=hm e he;obtain⟨m4,m5⟩:=m2 m3;have hv:=(Zv q1).2;have hvl:=D7 ls e.pattern;refine .bp e he (.bv m1 (.bind (Vz e.template (hr.2 e hx).2 k.1 m5 (by omega)) fun k6 hk6=>?_));refine Ex.bind (P:=fun o=>o=false→eP k6.1=true) (.ite (fun _=>.pure (by simp)) (fun _=>.bv (ru hk6) (Ex.pure (v:=!eP k6.1) fun h=>by simpa using h))) ?_;intro o7 ho7;exact .ite (fun _=>.pure (by simp)) (fun Gi=>.pure fun _=>ho7 (by simpa using Gi))
theorem ZI (f:Form) (hf:zL f):Ex (fun n=>oG n f) (fun r=>r.2.2=true→OT r.1∧Ud r.2.1):=by
 have hl:=hf.len;unfold oG;refine Ex.bind (P:=fun o=>o=false→2≤f.kids.length) (.bv (ru hf) (.ite (fun _=>.pure (by simp)) (fun _=>.ite (fun _=>.pure (by simp)) (fun _=>.ite (fun _=>.pure (by simp)) (fun h2=>?_))))) ?_
 ·obtain⟨e,he,_⟩:=dh (l:=f.kids) (i:=0) (by omega) (by omega);obtain⟨e',he',_⟩:=dh (l:=f.kids) (i:=1) (by omega) (by omega);exact .bp e he (.ite (fun _=>.pure (by simp)) (fun _=>.bp e' he' (.pure fun _=>by omega)))
 intro o ho;refine .ite (fun _=>.pure (by simp)) (fun hc=>?_);have h2:=ho (by simpa using hc);obtain⟨e1,he1,hm1⟩:=dh (l:=f.kids) (i:=1) (by omega) (by omega);have s1:=hf.kid hm1;have l1:=s1.len;refine Ex.iter (μ:=fun s=>((e1.kids.length:Int)-s.2).toNat) (I:=fun s=>0≤s.2∧s.2≤(e1.kids.length:Int)∧(s.1.length:Int)=s.2∧∀x∈s.1,zL x) ([],0) ⟨by simp,by simp,by simp,by simp⟩ ?_;rintro ⟨s,i⟩ ⟨i0,i1,i2,i3⟩;simp only at i0 i1 i2 i3 ⊢;refine .bp e1 he1 (.ite (fun hlt=>?_) (fun hge=>?_))
 ·obtain⟨e,he,hem⟩:=dh i0 hlt;have hse:=s1.kid hem;refine .bp e he (.bv (OJ hse) (.bp _ (cZ (by simp; omega)) (.fg ⟨⟨?_,?_,?_,fun x hx=>?_⟩,?_⟩)))
  all_goals try simp only
  all_goals try rw[lJ (by omega) (by omega)]
  ·omega
  ·omega
  ·simp; omega
  ·rcases List.mem_append.1 hx with hx | hx
   ·exact i3 x hx
   ·rw[List.mem_singleton.1 hx]; exact hse
  ·omega
 ·have hli:OT s:=⟨by omega,i3⟩
  refine Ex.iter (μ:=fun s=>((f.kids.length:Int)-s.2).toNat) (I:=fun s=>0≤s.2∧s.2≤(f.kids.length:Int)∧(s.1.length:Int)≤s.2∧∀x∈s.1,adJ x) ([],2) ⟨by simp,by simp only; omega,by simp,by simp⟩ ?_;rintro ⟨t,j⟩ ⟨j0,j1,j2,j3⟩;simp only at j0 j1 j2 j3 ⊢;refine .ite (fun hlt=>?_) (fun hge=>?_)
  ·obtain⟨e,he,hem⟩:=dh j0 hlt;have hse:=hf.kid hem;refine Ex.bind (P:=fun o=>o=false→e.kids.length=2) (.bp e he (.ite (fun _=>.pure (by simp)) (fun _=>.pure (by simp; omega)))) ?_;intro BX ahP;refine .ite (fun _=>.fo ⟨fun w e=>by cases e; simp,fun s' e=>by cases e⟩) (fun wO=>?_);have h22:=ahP (by simpa using wO);obtain⟨a,ha,ham⟩:=dh (l:=e.kids) (i:=0) (by omega) (by omega);obtain⟨b,hb,hbm⟩:=dh (l:=e.kids) (i:=1) (by omega) (by omega);have sa:=hse.kid ham;have sb:=hse.kid hbm;refine .bp e he (.bp a ha (.bv (OJ sa) (.bp b hb (.bv (OJ sb) (.bp _ (cZ (by simp; omega)) (.fg ⟨⟨?_,?_,?_,fun x hx=>?_⟩,?_⟩))))))
   all_goals try simp only
   all_goals try rw[lJ (by omega) (by omega)]
   ·omega
   ·omega
   ·simp; omega
   ·rcases List.mem_append.1 hx with hx | hx
    ·exact j3 x hx
    ·rw[List.mem_singleton.1 hx]; exact⟨sa,sb⟩
   ·omega
  ·have hrs:Ud t:=⟨by omega,j3⟩
   exact .bind (Q8 t hrs s hli) fun k _=>.ite (fun _=>.fo ⟨fun w e=>by cases e; simp,fun s' e=>by cases e⟩) (fun _=>.fo ⟨fun w e=>by cases e; exact fun _=>⟨hli,hrs⟩,fun s' e=>by cases e⟩)
def Gp (f:Form):Prop:=RN 24 f∧cF f≤400
theorem Gp.sm {f:Form} (h:Gp f):zL f:=⟨Fb (by omega) f h.1,by have:=h.2; omega⟩
theorem Gp.kid {f x:Form} (h:Gp f) (hx:x∈f.kids):Gp x:=⟨sH.1 (zy.1 h.1).2.2 x hx,by have:=rJ hx; have:=qC f; have:=h.2; omega⟩
theorem D8 {f:Form} (h:eP f=true):Gp f:=by
 unfold eP at h;simp only[Bool.and_eq_true,decide_eq_true_eq] at h;exact⟨Zu h.1,h.2⟩
theorem D9 {f:Form} (h:Gp f) (x w:Int):Ex (fun n=>fD n f x w) (fun r=>zL r∧cF r=cF f∧r.kind=f.kind):=
 (QY f 24 (by omega) h.1 (by have:=h.2; omega) x w).mono fun r ⟨h1,h2,h3⟩=>⟨⟨Fb (by omega) r h1,by have:=h.2; omega⟩,h2,h3⟩
theorem abY {α:Type} {l:List α} {x:α} (h:l[0]? = some x):gW l 0=some x:=dW (i:=0) h
theorem Rh {α:Type} {l:List α} {x:α} (h:l[1]? = some x):gW l 1=some x:=dW (i:=1) h
theorem ZJ {α:Type} {l:List α} {x:α} (h:l[2]? = some x):gW l 2=some x:=dW (i:=2) h
def ahQ (m:Macro):Prop:=OT m.literals∧Ud m.rules
def vM (e:Expansion):Prop:=OO e.binds∧e.binds.length≤60∧e.macros.length≤e.binds.length∧(∀m∈e.macros,ahQ m)∧0≤e.steps∧e.steps≤60
theorem Ri (f:Form) (hw:wF f≤1000000):Ex (fun n=>iw n f) (fun r=>wF r≤wF f):=by
 have he:=Dh f;refine .succ ?_;simp only[iw];refine .bind (Ex.afE (m:=fun n y=>iw n y) (R:=fun x y=>wF y≤wF x) (by omega) (fun y hy=>Ri y (by have:=BQ hy; omega))) fun m hm=>.pure ?_;have:∀{l m:List Form},QU (fun x y=>wF y≤wF x) l m→oQ m≤oQ l∧m.length=l.length:=by
  intro l
  induction l with
  | nil=>intro m h; cases m with
   | nil=>simp
   | cons _ _=>cases h
  | cons x l ih=>intro m h; cases m with
   | nil=>cases h
   | cons y m=>have:=ih h.2; have:=h.1; simp only[oQ,List.length_cons]; omega
 have:=this hm;rw[Dh]; simp only[List.length_nil]; omega
termination_by SizeOf.sizeOf f
decreasing_by exact jo hy
def Xe (ms:List Macro) (id:Int):Option Int:=bn (bI (fun(s2:Unit) (i1:Nat) (x4:Macro)=>((if x4.id=id then some (Sum.inl (i1:Int)) else some (Sum.inr ())):Option (Int⊕Unit))) 0 ms ()) (fun(s2:Unit)=>some (-1))
theorem ZK (n:Nat) (e:Expansion) (id:Int):vC n e id=Xe e.macros id:=rfl
theorem adO (ms:List Macro) (id:Int):∃k,Xe ms id=some k∧(k=-1∨0≤k∧k<(ms.length:Int)):=by
 have:Ex (fun _=>Xe ms id) (fun k=>k=-1∨0≤k∧k<(ms.length:Int)):=by
  unfold Xe;refine Ex.bn (P:=fun o=>match o with
   | .inl w=>0≤w∧w<(ms.length:Int)
   | .inr _=>True) ?_ (fun w h=>.inr h) (fun _ _=>.pure (.inl rfl))
  refine Ex.bI (I:=fun i q s=>ms.drop i=q) rfl ?_ (fun _ _=>trivial);intro i x q s hd;obtain⟨_,g2,g3,_⟩:=jC hd;exact .ite (fun _=>.fo ⟨by omega,by omega⟩) (fun _=>.fg g2)
 obtain⟨k,⟨N,h⟩,h2⟩:=this;exact⟨k,h N (Nat.le_refl N),h2⟩
theorem VA (e:Expansion) (h:vM e) (f:Form):Ex (fun n=>lW n e f) (fun r=>r.1=2→∃k,Xe e.macros r.2=some k∧0≤k∧k<(e.macros.length:Int)):=by
 have hb:=h.1.1;unfold lW;refine .bind (OQ e.binds (by omega) f) fun k1 hk1=>.ite (fun _=>.pure (by simp)) (fun h0=>.ite (fun _=>.pure (by simp)) (fun h2=>?_));have p1:0≤k1.1∧k1.1<(e.binds.length:Int):=hk1.elim (fun h=>absurd h h0) (fun h=>h.elim (fun h=>absurd h h2) id);obtain⟨b,hb,_⟩:=dh p1.1 p1.2;refine .bp b hb (.ite (fun _=>.pure (by simp)) (fun _=>?_));obtain⟨k,hk,hk2⟩:=adO e.macros b.id;simp only[ZK];refine .bp k hk (.ite (fun hk0=>.pure fun _=>⟨k,hk,hk0,by omega⟩) (fun _=>.pure (by simp)))
def xR (e:Expansion) (b:Nat) (r:Expansion×Core×Int):Prop:=vM r.1∧e.steps≤r.1.steps∧((wC r.2.1:Nat):Int)+1≤20500*(b:Int)+8220500*(r.1.steps-e.steps)
def ahR (e:Expansion) (b:Nat) (r:Expansion×List Core×Int):Prop:=vM r.1∧e.steps≤r.1.steps∧((xE r.2.1+r.2.1.length:Nat):Int)≤20500*(b:Int)+8220500*(r.1.steps-e.steps)
theorem wzC:wC ⟨0,0,[],0,[],⟨0,[],0,[],[]⟩,[]⟩=0:=by simp[wC,xE,wF,oQ]
theorem xR.z {e e':Expansion} {b:Nat} {k:Int} (h:vM e') (hs:e.steps≤e'.steps) (hb:1≤b):xR e b (e',(⟨0,0,[],0,[],⟨0,[],0,[],[]⟩,[]⟩:Core),k):=⟨h,hs,by simp only[wzC]; omega⟩
theorem abw (e:Expansion) (h:vM e) (f:Form) (hf:f.name.length≤12):Ex (fun n=>yc n e f) (xR e 1):=by
 unfold yc;refine .bind (VA e h f) fun k _=>.ite (fun _=>.pure ⟨h,by simp,?_⟩) (fun _=>.ite (fun _=>.pure ⟨h,by simp,?_⟩) (fun _=>.ite (fun _=>.pure (.z h (by simp) (by omega))) (fun _=>.pure (.z h (by simp) (by omega)))))
 ·simp[wC,xE,wF,oQ]; omega
 ·simp[wC,xE,wF,oQ]
theorem VB (e:Expansion) (h:vM e) (f:Form) (hf:zL f):Ex (fun n=>uH n e f) (fun r=>vM r.1∧r.1.steps=e.steps∧(r.2=0→r.1.macros.length<r.1.binds.length)):=by
 obtain⟨h1,h2,h3,h4,h5,h6⟩:=h;unfold uH;refine .ite (fun _=>.pure ⟨⟨h1,h2,h3,h4,h5,h6⟩,rfl,by simp⟩) (fun hn=>.bind (abt e.binds h1 (by omega) f hf _) fun k hk=>.ite (fun _=>.pure ⟨⟨h1,h2,h3,h4,h5,h6⟩,rfl,by simp⟩) (fun hc=>?_));obtain⟨k1,k2⟩:=hk (by simpa using hc);exact .pure ⟨⟨k1,by simp only; omega,by simp only; omega,h4,h5,h6⟩,rfl,fun _=>by simp only; omega⟩
theorem abx (e:Expansion) (h:vM e) (f:Form) (hf:Gp f) (id a3:Int) (ha:a3≤60) (hm:∃k,Xe e.macros id=some k∧0≤k∧k<(e.macros.length:Int)):Ex (fun n=>xZ n e f id a3) (fun r=>vM r.1∧e.steps≤r.1.steps∧(r.2.2=0→r.1.steps=e.steps+1∧e.steps<a3∧Gp r.2.1)):=by
 obtain⟨h1,h2,h3,h4,h5,h6⟩:=h;obtain⟨k,hk,k0,k1⟩:=hm;unfold xZ lq;refine .ite (fun _=>.pure ⟨⟨h1,h2,h3,h4,h5,h6⟩,by simp,by simp⟩) (fun hs=>?_);simp only[Option.bind_some,ZK];refine .ite (fun _=>.pure ⟨⟨h1,h2,h3,h4,h5,h6⟩,by simp,by simp⟩) (fun _=>?_);obtain⟨m,hmm,hmem⟩:=dh k0 k1;obtain⟨m1,m2⟩:=h4 m hmem;have hw:aX (e.steps+1)=e.steps+1:=lJ h5 (by omega);simp only[hw];have good:vM ⟨e.binds,e.macros,aX (e.scope+1),e.id,e.steps+1⟩:=⟨h1,h2,h3,h4,by simp only; omega,by simp only; omega⟩
 refine .bp k hk (.bp m hmm (.bind (D9 hf _ _) fun k6 ⟨s6,_,_⟩=>.bv (ru s6) (.ite (fun _=>.pure ⟨good,by simp only; omega,by simp⟩) (fun _=>.bind (Rf e.binds h1 m.rules m2 m.literals m1 k6 s6) fun k9 _=>.ite (fun _=>.pure ⟨good,by simp only; omega,by simp⟩) (fun _=>.bind (ZH e.binds h1 m.rules m2 m.literals m1 k6 s6) fun k11 Am=>.ite (fun _=>.pure ⟨good,by simp only; omega,by simp⟩) (fun hc=>?_))))));refine .bind (D9 (D8 (Am (by simpa using hc))) _ _) fun k13 ⟨s13,_,_⟩=>.bv (ru s13) (.ite (fun _=>.pure ⟨good,by simp only; omega,by simp⟩) (fun hv=>.pure ⟨good,by simp only; omega,fun _=>⟨rfl,by omega,D8 (by simpa using hv)⟩⟩))
def PX (m c:Nat):Prop:=∀(e:Expansion) (a3:Int) (f:Form),vM e→a3≤60→(a3-e.steps).toNat≤m→Gp f→cF f≤c→Ex (fun n=>iL n e f a3) (xR e (cF f))
theorem VD:∀{a b:List Core},xE (a++b)=xE a+xE b
 | [],b=>by simp[xE]
 | x::r,b=>by simp only[List.cons_append,xE,VD (a:=r)]; omega
theorem Ue {m c:Nat} (hp:PX m c) (e:Expansion) (h:vM e) (fs:List Form) (hfs:∀x∈fs,Gp x∧cF x≤c) (hl:fs.length≤400) (a3:Int) (ha:a3≤60) (hm:(a3-e.steps).toNat≤m):Ex (fun n=>vH n e fs a3) (ahR e (iG fs)):=by
 refine .succ ?_;simp only[vH];refine Ex.iter (μ:=fun s=>((fs.length:Int)-s.2.1).toNat) (I:=fun s=>∃(j:Nat) (p q:List Form),s.2.1=(j:Int)∧p++q=fs∧p.length=j∧s.1.length=j∧vM ⟨s.2.2.1,s.2.2.2.1,s.2.2.2.2.1,s.2.2.2.2.2.1,s.2.2.2.2.2.2⟩∧e.steps≤s.2.2.2.2.2.2∧((xE s.1+s.1.length:Nat):Int)≤20500*(iG p:Int)+8220500*(s.2.2.2.2.2.2-e.steps)) _ ⟨0,[],fs,rfl,rfl,rfl,rfl,h,by simp,by simp[xE,iG]⟩ ?_;rintro ⟨cs,i,bs,ms,sc,id,st⟩ ⟨j,p,q,i1,i2,i3,i4,i5,i6,i7⟩;simp only at i1 i2 i3 i4 i5 i6 i7 ⊢;subst i1;have hpl:p.length+q.length=fs.length:=by rw[← i2]; simp
 have hsum:iG fs=iG p+iG q:=by rw[← i2,Fg]
 refine .ite (fun hlt=>?_) (fun hge=>.fo ⟨i5,i6,by simp only; omega⟩);cases q with
 | nil=>simp only[List.length_nil] at hpl; omega
 | cons x q=>
  have hx:fs[j]? = some x:=by rw[← i2,← i3]; simp
  obtain⟨v1,v2⟩:=hfs x (List.mem_of_getElem? hx);have hle:=i5.2.2.2.2.2;have hle0:=i5.2.2.2.2.1;simp only at hle hle0;simp only[iG] at hsum;refine .bp x (dW hx) (.bind (hp _ a3 x i5 ha (by simp only; omega) v1 v2) fun k ⟨x1,x2,x3⟩=>?_);simp only at x2 x3;refine .ite (fun _=>.fo ⟨x1,by simp only; omega,by simp only; omega⟩) (fun _=>.bp _ (cZ (by simp; omega)) (.fg ⟨⟨j+1,p++[x],q,by rw[lJ (by omega) (by omega)]; rfl,by rw[← i2]; simp,by simp[i3],by simp[i4],x1,by simp only; omega,?_⟩,?_⟩))
  ·have e1:xE (cs++[k.2.1])=xE cs+wC k.2.1:=by rw[VD]; simp[xE]
   have e2:iG (p++[x])=iG p+cF x:=by rw[Fg]; simp[iG]
   simp only[e1,e2,List.length_append,List.length_cons,List.length_nil];omega
  ·simp only;rw[lJ (by omega) (by omega)]; omega
theorem ZL {m c:Nat} (hp:PX m c) (e:Expansion) (h:vM e) (ps:List Form) (hps:∀x∈ps,Gp x) (hl:ps.length≤400) (f:Form) (hf:Gp f) (hc:cF f≤c) (a3:Int) (ha:a3≤60) (hm:(a3-e.steps).toNat≤m):Ex (fun n=>yj n e ps f a3) (xR e (1+cF f)):=by
 refine .succ ?_;simp only[yj,lq,Option.bind_some];have h0:vM ⟨e.binds,e.macros,aX (e.scope+1),e.id,e.steps⟩:=h;refine .ite (fun _=>.pure (.z h0 (by simp) (by omega))) (fun _=>?_);refine Ex.bn (P:=fun(o:(Expansion×Core×Int)⊕((List Bind)×(List Macro)×Int×Int×Int×(List Int)))=>match o with
  | .inl w=>xR e (1+cF f) w
  | .inr s=>vM ⟨s.1,s.2.1,s.2.2.1,s.2.2.2.1,s.2.2.2.2.1⟩∧s.2.2.2.2.1=e.steps∧s.2.2.2.2.2.length≤400) ?_ (fun w h=>h) ?_
 ·refine Ex.bI (I:=fun i q s=>ps.drop i=q∧vM ⟨s.1,s.2.1,s.2.2.1,s.2.2.2.1,s.2.2.2.2.1⟩∧s.2.2.2.2.1=e.steps∧s.2.2.2.2.2.length=i) ⟨rfl,h0,rfl,rfl⟩ ?_ (fun s h=>⟨h.2.1,h.2.2.1,by rw[h.2.2.2]; exact hl⟩);rintro i x q ⟨bs,ms,sc,id,st,ids⟩ ⟨hd,s1,s2,s3⟩;simp only at s1 s2 s3 ⊢;obtain⟨_,g2,g3,hx⟩:=jC hd;refine .ite (fun _=>.fo (.z s1 (by simp only; omega) (by omega))) (fun _=>.bind (D9 (hps x hx) _ _) fun k13 ⟨q1,_,_⟩=>.bv (ru q1) (.ite (fun _=>.fo (.z s1 (by simp only; omega) (by omega))) (fun _=>.bind (VB _ s1 k13 q1) fun k16 ⟨b1,b2,_⟩=>?_)));simp only at b2;exact .ite (fun _=>.fo (.z b1 (by omega) (by omega))) (fun _=>.bp _ (cZ (by simp; omega)) (.fg ⟨g2,b1,by simp only; omega,by simp; omega⟩))
 ·rintro ⟨bs,ms,sc,id,st,ids⟩ ⟨s1,s2,s3⟩;simp only at s1 s2 s3 ⊢;refine .bind (D9 hf _ _) fun k19 ⟨q1,q2,_⟩=>.bv (ru q1) (.ite (fun _=>.pure (.z s1 (by simp only; omega) (by omega))) (fun hv=>?_));refine .bind (hp _ a3 k19 s1 ha (by simp only; omega) (D8 (by simpa using hv)) (by omega)) fun k22 ⟨x1,x2,x3⟩=>.pure ⟨x1,by simp only at x2 ⊢; omega,?_⟩;simp only at x2 x3;simp only[wC,xE,wF,oQ,List.length_nil,List.length_cons];omega
theorem Xf {m c:Nat} (hp:PX m c) (e:Expansion) (h:vM e) (ps vs:List Form) (hps:∀x∈ps,Gp x) (hvs:∀x∈vs,Gp x) (hl:ps.length≤400) (hlv:vs.length=ps.length) (f:Form) (hf:Gp f) (hc:cF f≤c) (a3:Int) (ha:a3≤60) (hm:(a3-e.steps).toNat≤m):Ex (fun n=>sF n e ps vs f a3) (xR e (1+cF f)):=by
 refine .succ ?_;simp only[sF,lq,Option.bind_some];have h0:vM ⟨e.binds,e.macros,aX (e.scope+1),e.id,e.steps⟩:=h;refine .ite (fun _=>.pure (.z h0 (by simp) (by omega))) (fun _=>?_);refine Ex.bn (P:=fun(o:(Expansion×Core×Int)⊕((List Bind)×(List Macro)×Int×Int×Int))=>match o with
  | .inl w=>xR e (1+cF f) w
  | .inr s=>vM ⟨s.1,s.2.1,s.2.2.1,s.2.2.2.1,s.2.2.2.2⟩∧s.2.2.2.2=e.steps) ?_ (fun w h=>h) ?_
 ·refine Ex.bI (I:=fun i q s=>ps.drop i=q∧vM ⟨s.1,s.2.1,s.2.2.1,s.2.2.2.1,s.2.2.2.2⟩∧s.2.2.2.2=e.steps) ⟨rfl,h0,rfl⟩ ?_ (fun s h=>⟨h.2.1,h.2.2⟩);rintro i x q ⟨bs,ms,sc,id,st⟩ ⟨hd,s1,s2⟩;simp only at s1 s2 ⊢;obtain⟨_,g2,g3,hx⟩:=jC hd;obtain⟨y,hy,hym⟩:=dh (l:=vs) (i:=(i:Int)) (by omega) (by omega);refine .bind (D9 (hps x hx) _ _) fun k12 ⟨q1,_,_⟩=>.bp y hy (.bind (D9 (hvs y hym) _ _) fun k14 ⟨r1,_,_⟩=>.ite (fun _=>.fo (.z s1 (by simp only; omega) (by omega))) (fun _=>?_));refine Ex.bind (P:=fun _=>True) (.bv (ru q1) (.ite (fun _=>.pure trivial) (fun _=>.bv (ru r1) (.pure trivial)))) ?_;intro o _;refine .ite (fun _=>.fo (.z s1 (by simp only; omega) (by omega))) (fun _=>.bind (ZI k14 r1) fun k18 pY=>.ite (fun _=>.fo (.z s1 (by simp only; omega) (by omega))) (fun hc18=>.bind (VB _ s1 k12 q1) fun k20 ⟨b1,b2,b3⟩=>?_));simp only at b2;refine .ite (fun _=>.fo (.z b1 (by omega) (by omega))) (fun J7=>?_);have b3:=b3 (by simpa using J7);obtain⟨c1,c2,c3,c4,c5,c6⟩:=b1;have hm18:=pY (by simpa using hc18);refine .bp _ (oL (by omega)) (.bp _ (cZ (by simp; omega)) (.fg ⟨g2,⟨c1,c2,by simp; omega,fun m hm=>?_,c5,c6⟩,by simp only; omega⟩));rcases List.mem_append.1 hm with hm | hm
  ·exact c4 m hm
  ·rw[List.mem_singleton.1 hm]; exact hm18
 ·rintro ⟨bs,ms,sc,id,st⟩ ⟨s1,s2⟩;simp only at s1 s2 ⊢;refine .bind (D9 hf _ _) fun k19 ⟨q1,q2,_⟩=>.bv (ru q1) (.ite (fun _=>.pure (.z s1 (by simp only; omega) (by omega))) (fun hv=>?_));refine .bind (hp _ a3 k19 s1 ha (by simp only; omega) (D8 (by simpa using hv)) (by omega)) fun k22 ⟨x1,x2,x3⟩=>.pure ⟨x1,by simp only at x2 ⊢; omega,?_⟩;simp only at x2 x3 ⊢;omega
theorem ZM (f:Form) (hf:Gp f):Ex (fun n=>vF n f) (fun r=>(∀x∈r.1,Gp x)∧(∀x∈r.2.1,Gp x)∧r.1.length≤400∧r.2.1.length=r.1.length∧iG r.2.1+1≤cF f):=by
 have hl:=hf.sm.len;have hc:=qC f;unfold vF;have main:Ex (fun n=>Mx.bI (fun(s2:(List Form)×(List Form)) (i1:Nat) (x4:Form)=>(Option.bind ((if ¬x4.kind=3 then some true else some (decide (¬(x4.kids.length:Int)=2))):Option (Bool)) (fun(nZ:Bool)=>(if nZ=true then some (Sum.inl (s2.1,s2.2,false)) else(gW x4.kids 0).bind fun e12=>(jm 80 s2.1 [e12]).bind fun z13=>(gW x4.kids 1).bind fun e14=>(jm 80 s2.2 [e14]).bind fun HY=>some (Sum.inr (z13,HY)))):Option (((List Form)×(List Form)×Bool)⊕((List Form)×(List Form))))) 0 f.kids ([],[])) (fun o=>match o with
   | .inl r=>(∀x∈r.1,Gp x)∧(∀x∈r.2.1,Gp x)∧r.1.length≤400∧r.2.1.length=r.1.length∧iG r.2.1+1≤cF f
   | .inr r=>(∀x∈r.1,Gp x)∧(∀x∈r.2,Gp x)∧r.1.length≤400∧r.2.length=r.1.length∧iG r.2+1≤cF f):=by
  refine Ex.bI (I:=fun i q r=>f.kids.drop i=q∧(∀x∈r.1,Gp x)∧(∀x∈r.2,Gp x)∧r.1.length=i∧r.2.length=i∧iG r.2+iG q+1≤cF f) ⟨rfl,by simp,by simp,rfl,rfl,by simp[iG]; omega⟩ ?_ (fun r h=>⟨h.2.1,h.2.2.1,by rw[h.2.2.2.1]; exact hl,by rw[h.2.2.2.1,h.2.2.2.2.1],by have:=h.2.2.2.2.2; simp only[iG] at this; omega⟩);rintro i x q ⟨a,b⟩ ⟨hd,a1,b1,a2,b2,b3⟩;simp only[iG] at a1 b1 a2 b2 b3 ⊢;obtain⟨_,g2,g3,hx⟩:=jC hd;have hxv:=hf.kid hx;refine Ex.bind (P:=fun o=>o=false→x.kids.length=2) (.ite (fun _=>.pure (by simp)) (fun _=>.pure (by simp; omega))) ?_;intro o ho;refine .ite (fun _=>.fo ⟨a1,b1,by simp only; omega,by simp only; omega,by simp only; omega⟩) (fun hc'=>?_);have h2:=ho (by simpa using hc');obtain⟨y,z,hyz⟩:∃y z,x.kids=[y,z]:=by
   match hk:x.kids,h2 with
   | [y,z],_=>exact⟨y,z,rfl⟩
  have hy:=hxv.kid (x:=y) (by simp[hyz]);have hz:=hxv.kid (x:=z) (by simp[hyz]);have hcx:cF x=1+(cF y+cF z):=by rw[qC,hyz]; simp[iG]
  refine .bp y (abY (by simp[hyz])) (.bp _ (cZ (by simp; omega)) (.bp z (Rh (by simp[hyz])) (.bp _ (cZ (by simp; omega)) (.fg ⟨g2,fun w hw=>?_,fun w hw=>?_,by simp; omega,by simp; omega,?_⟩))))
  ·rcases List.mem_append.1 hw with hw | hw
   ·exact a1 w hw
   ·rw[List.mem_singleton.1 hw]; exact hy
  ·rcases List.mem_append.1 hw with hw | hw
   ·exact b1 w hw
   ·rw[List.mem_singleton.1 hw]; exact hz
  ·simp only[Fg,iG]; omega
 exact Ex.bn main (fun w h=>h) (fun t h=>.pure h)
theorem afI {α:Type} {l:List α} (h:1≤l.length):IC l 1 (l.length:Int)=some (l.drop 1):=by
 unfold IC;rw[if_pos (by omega)];congr 1;rw[List.take_of_length_le]
 ·rfl
 ·rw[Int.toNat_natCast,List.length_drop]; exact Nat.le_refl _
theorem ZN (l:List Form):iG (l.drop 1)≤iG l:=by
 cases l with
 | nil=>simp
 | cons x r=>simp only[List.drop_succ_cons,List.drop_zero,iG]; omega
theorem ln2 {l:List Form} (h:(l.length:Int)=2):∃a b,l=[a,b]:=by
 match l,h with
 | [a,b],_=>exact⟨a,b,rfl⟩
theorem ln3 {l:List Form} (h:(l.length:Int)=3):∃a b c,l=[a,b,c]:=by
 match l,h with
 | [a,b,c],_=>exact⟨a,b,c,rfl⟩
theorem ar1 {a s:Int} {m:Nat} (h:(a-s).toNat≤m) (h2:s<a):m-1<m:=by omega
theorem ar2 {a s t:Int} {m:Nat} (h:(a-s).toNat≤m) (h2:t=s+1):(a-t).toNat≤m-1:=by omega
theorem aby {m c:Nat} (hp:PX m c) (e:Expansion) (h:vM e) (f:Form) (hf:Gp f) (hc:cF f≤c+1) (k a3:Int) (ha:a3≤60) (hm:(a3-e.steps).toNat≤m):Ex (fun n=>yh n e f k a3) (xR e (cF f)):=by
 have he:=qC f;have hl:=hf.sm.len;have hkc:∀x∈f.kids,Gp x∧cF x≤c:=fun x hx=>⟨hf.kid hx,by have:=rJ hx; omega⟩
 refine .succ ?_;simp only[yh];refine Ex.bind (P:=fun o=>o=true→(f.kids.length:Int)=2) (.ite (fun _=>.pure (by simp)) (fun _=>.pure (by simp))) ?_;intro o1 ho1;refine .ite (fun hc1=>?_) (fun _=>?_)
 ·obtain⟨a,b,hab⟩:=ln2 (ho1 hc1);have hb:=hf.kid (x:=b) (by simp[hab]);have hw:=hb.sm.w;refine .bp b (Rh (by simp[hab])) (.bind (Ri b (by omega)) fun k4 hk4=>.pure ⟨h,by simp,?_⟩);simp only[wC,xE,List.length_nil]; omega
 refine Ex.bind (P:=fun o=>o=true→(f.kids.length:Int)=4) (.ite (fun _=>.pure (by simp)) (fun _=>.pure (by simp))) ?_;intro o5 ho5;refine .ite (fun hc5=>?_) (fun _=>?_)
 ·have h4:=ho5 hc5;refine .bp _ (afI (by omega)) (.bind (Ue hp e h _ (fun x hx=>hkc x (List.mem_of_mem_drop hx)) (by simp; omega) a3 ha hm) fun k8 ⟨x1,x2,x3⟩=>.pure ⟨x1,x2,?_⟩);have:=ZN f.kids;simp only[wC,wF,oQ,List.length_nil]; omega
 refine Ex.bind (P:=fun o=>o=true→(f.kids.length:Int)=3) ?_ ?_
 ·refine .ite (fun _=>.ite (fun h3=>?_) (fun _=>.pure (by simp))) (fun _=>.pure (by simp));obtain⟨a,b,d,hab⟩:=ln3 h3;exact .bp b (Rh (by simp[hab])) (.pure fun _=>h3)
 intro o9 ho9;refine .ite (fun fQ=>?_) (fun _=>?_)
 ·obtain⟨a,b,d,hab⟩:=ln3 (ho9 fQ);have hb:=hkc b (by simp[hab]);have hd:=hkc d (by simp[hab]);have hs:iG f.kids=cF a+(cF b+cF d):=by rw[hab]; simp[iG]
  refine .bp b (Rh (by simp[hab])) (.bp d (ZJ (by simp[hab])) (.bind (ZL hp e h b.kids (fun x hx=>hb.1.kid hx) hb.1.sm.len d hd.1 hd.2 a3 ha hm) fun k13 ⟨x1,x2,x3⟩=>.pure ⟨x1,x2,?_⟩));simp only; omega
 refine Ex.bind (P:=fun o=>o=false→(f.kids.length:Int)=3) ?_ ?_
 ·have:∀{c:Prop} [Decidable c],Ex (fun _=>some (decide (¬(f.kids.length:Int)=3))) (fun o=>o=false→(f.kids.length:Int)=3):=.pure fun e=>by simpa using e
  exact .ite (fun _=>.ite (fun _=>.pure (by simp)) (fun _=>this (c:=True))) (fun _=>this (c:=True))
 intro Cc ahT;refine .ite (fun _=>.pure (.z h (by simp) (by omega))) (fun mG=>?_);obtain⟨a,b,d,hab⟩:=ln3 (ahT (by simpa using mG));have hb:=hkc b (by simp[hab]);have hd:=hkc d (by simp[hab]);have hs:iG f.kids=cF a+(cF b+cF d):=by rw[hab]; simp[iG]
 refine .bp b (Rh (by simp[hab])) (.bind (ZM b hb.1) fun k17 ⟨p1,p2,p3,p4,p5⟩=>.ite (fun _=>.pure (.z h (by simp) (by omega))) (fun _=>.ite (fun _=>?_) (fun _=>?_)))
 ·refine .bp d (ZJ (by simp[hab])) (.bind (Xf hp e h k17.1 k17.2.1 p1 p2 p3 p4 d hd.1 hd.2 a3 ha hm) fun k21 ⟨x1,x2,x3⟩=>.pure ⟨x1,x2,?_⟩);simp only; omega
 ·refine .bind (Ue hp e h k17.2.1 (fun x hx=>⟨p2 x hx,by have:=rJ hx; omega⟩) (by omega) a3 ha hm) fun k22 ⟨x1,x2,x3⟩=>?_;have hst:=x1.2.2.2.2.2;refine .ite (fun _=>.pure (.z x1 x2 (by omega))) (fun _=>.bp d (ZJ (by simp[hab])) (.bind (ZL hp k22.1 x1 k17.1 p1 p3 d hd.1 hd.2 a3 ha (by omega)) fun k25 ⟨y1,y2,y3⟩=>?_));have hst2:=y1.2.2.2.2.2;have hst3:=h.2.2.2.2.1;have hf4:=hf.2;refine .bp _ (cZ ?_) (.pure ⟨y1,by simp only; omega,?_⟩)
  ·simp only[List.length_cons,List.length_nil]; omega
  ·simp only[wC,xE,wF,oQ,List.length_nil,List.length_append,List.length_cons,List.cons_append,List.nil_append]; omega
theorem ZO (m c:Nat) (ihm:∀m',m'<m→PX m' 400) (ihc:∀c',c'<c→PX m c'):PX m c:=by
 intro e a3 f h ha hm hf hc;have he:=qC f;have hl:=hf.sm.len;obtain⟨t1,t2,t3⟩:=zy.1 hf.1;have hp:PX m (cF f-1):=ihc _ (by omega);refine .succ ?_;simp only[iL];refine .ite (fun _=>.pure ⟨h,by simp,?_⟩) (fun _=>.ite (fun _=>.bind (abw e h f t1) fun k ⟨x1,x2,x3⟩=>.pure ⟨x1,x2,?_⟩) (fun _=>.ite (fun _=>.pure (.z h (by simp) (by omega))) (fun hk=>?_)))
 ·simp only[wC,xE,wF,oQ,List.length_nil]; omega
 ·simp only; omega
 obtain⟨e6,Xj,hm6⟩:=dh (l:=f.kids) (i:=0) (by omega) (by omega);refine .bp e6 Xj ?_;refine Ex.bn (P:=fun(o:(Expansion×Core×Int)⊕Unit)=>match o with
  | .inl w=>xR e (cF f) w
  | .inr _=>True) ?_ (fun w h=>h) (fun _ _=>?_)
 ·refine .ite (fun _=>.bind (VA e h e6) fun k10 hk10=>.ite (fun _=>.pure (.z h (by simp) (by omega))) (fun _=>.ite (fun _=>?_) (fun _=>.ite (fun h2=>?_) (fun _=>.pure trivial)))) (fun _=>.pure trivial)
  ·exact .bind (aby hp e h f hf (by omega) k10.2 a3 ha hm) fun k13 hk=>.pure hk
  ·refine .bind (f:=fun n=>vI n e f k10.2 a3) (P:=xR e (cF f)) ?_ (fun k15 hk=>.pure hk);refine .succ ?_;simp only[vI];refine .bind (abx e h f hf k10.2 a3 ha (hk10 h2)) fun k1 ⟨s1,s2,s3⟩=>.ite (fun _=>.pure (.z s1 s2 (by omega))) (fun hc1=>?_);obtain⟨q1,q2,q3⟩:=s3 (by simpa using hc1);refine .bind (ihm (m-1) (ar1 hm q2) k1.1 a3 k1.2.1 s1 ha (ar2 hm q1) q3 q3.2) fun k3 ⟨x1,x2,x3⟩=>.pure ⟨x1,by simp only; omega,?_⟩;have:=q3.2;simp only; omega
 ·refine .bind (Ue hp e h f.kids (fun x hx=>⟨hf.kid hx,by have:=rJ hx; omega⟩) hl a3 ha hm) fun k8 ⟨x1,x2,x3⟩=>.pure ⟨x1,x2,?_⟩;simp only[wC,wF,oQ,List.length_nil]; omega
theorem adP:∀m c,PX m c:=by
 intro m
 induction m using Nat.strongRecOn with
 | ind m ihm=>
  intro c
  induction c using Nat.strongRecOn with
  | ind c ihc=>exact ZO m c (fun m' h=>ihm m' h 400) (fun c' h=>ihc c' h)
theorem ZP:Ex (fun n=>ji n) (fun r=>vM r∧r.steps=0):=by
 unfold ji qO;refine .bp _ rfl ?_;refine Ex.iter (μ:=fun s=>(6-s.1).toNat) (I:=fun s=>1≤s.1∧s.1≤6∧(s.2.length:Int)=s.1-1∧∀b∈s.2,afF b) (1,[]) ⟨by simp,by simp,by simp,by simp⟩ ?_;rintro ⟨i,s⟩ ⟨i0,i1,i2,i3⟩;simp only at i0 i1 i2 i3 ⊢;refine .ite (fun hlt=>?_) (fun hge=>?_)
 ·obtain⟨x,hx,hm⟩:=dh (l:=[[],[108,97,109,98,100,97],[105,102],[113,117,111,116,101],[108,101,116],fP]) (by omega) hlt;have hxl:x.length≤12:=(by decide:∀x∈([[],[108,97,109,98,100,97],[105,102],[113,117,111,116,101],[108,101,116],fP]:List (List UInt8)),x.length≤12) x hm;simp only[List.length_cons,List.length_nil] at hlt;refine .bp x hx (.bp _ (cZ (by simp; omega)) (.fg ⟨⟨?_,?_,?_,fun b hb=>?_⟩,?_⟩))
  all_goals try simp only
  all_goals try rw[lJ (by omega) (by omega)]
  ·omega
  ·omega
  ·simp; omega
  ·rcases List.mem_append.1 hb with hb | hb
   ·exact i3 b hb
   ·rw[List.mem_singleton.1 hb]; exact⟨hxl,by simp⟩
  ·omega
 ·exact .fo ⟨⟨⟨by simp only; omega,i3⟩,by simp only; omega,by simp,by simp,by simp,by simp⟩,rfl⟩
def ZQ:Core:=⟨0,0,[],0,[],⟨0,[],0,[],[]⟩,[]⟩
def adQ (r:Core×Int):Prop:=wC r.1≤600000000∧(r.2=0→lH r.1=true)∧(¬r.2=0→r.1=ZQ)
theorem adR (f:Form) (hw:wF f≤1000000000) (b:Int):Ex (fun n=>AZ n f b) (fun r=>adQ r.2):=by
 have hcl:=Kq f;have hz:∀k:Int,¬k=0→adQ (ZQ,k):=fun k hk=>⟨by rw[show wC ZQ=0 from wzC]; omega,fun h=>absurd h hk,fun _=>rfl⟩
 unfold AZ;refine Ex.bind (P:=fun o=>o=false→eP f=true∧0≤b∧b≤60) (.bv (EZ f (G9 f (by omega)) (by omega)) (.ite (fun _=>.pure (by simp)) (fun hv=>.ite (fun _=>.pure (by simp)) (fun hb=>Ex.pure (v:=decide (b>60)) fun h=>⟨by simpa using hv,by omega,by have h:=of_decide_eq_false h; omega⟩)))) ?_;intro o ho;refine .ite (fun _=>.pure (hz 6 (by omega))) (fun hc=>?_);obtain⟨hv,hb0,hb1⟩:=ho (by simpa using hc);refine .bind ZP fun k3 ⟨h3,hs⟩=>.bind (adP 100 400 k3 b f h3 hb1 (by omega) (D8 hv) (D8 hv).2) fun k4 ⟨x1,x2,x3⟩=>?_;have hst:=x1.2.2.2.2.2;have hcf:=(D8 hv).2;refine .ite (fun hk=>.pure (hz _ hk)) (fun _=>.bv (Vl k4.2.1 (by omega)) (.ite (fun _=>.pure (hz 4 (by omega))) (fun hv4=>.pure ⟨by simp only; omega,fun _=>by simpa using hv4,fun h=>absurd rfl h⟩)))
theorem Xg (f:Form) (hw:wF f≤1000000000) (b:Int):Ex (fun n=>oH n f b) adQ:=by
 unfold oH;exact .bind (adR f hw b) fun k1 hk1=>.bv (OE k1.2.1 (Nat.le_trans hk1.1 (by omega))) (.pure hk1)
theorem VE:∀(l:List Core) (i:Nat) (x y:Core),l[i]? = some x→xE (l.set i y)+wC x=xE l+wC y
 | [],i,x,y,h=>by simp at h
 | a::l,0,x,y,h=>by simp at h; subst h; simp only[List.set_cons_zero,xE]; omega
 | a::l,i+1,x,y,h=>by
  have:=VE l i x y (by simpa using h);simp only[List.set_cons_succ,xE]; omega
theorem Uf (c:Core) (hw:wC c≤10000000) (r:bg) (h:Gd r (4*((wC c:Int)+1))):Ex (fun n=>lC n c r) (fun k=>Sp r k.2 (4*((wC c:Int)+1))∧wC k.1≤wC c+2):=by
 have he:=EG c;refine .succ ?_;simp only[lC];refine .bv (OE c (by omega)) ?_;refine Ex.bind (P:=fun o=>Sp r o.2 1∧(o.1=true→1≤c.kids.length)) ?_ ?_
 ·refine .ite (fun hl=>.bind (iU h (by omega)) fun k15 ⟨s1,_⟩=>.pure ⟨s1,fun _=>by omega⟩) (fun hl=>.pure ⟨.refl (by omega),fun h=>by cases h⟩)
 rintro ⟨b0,r1⟩ ⟨s1,hb⟩;simp only at s1 hb ⊢;have g1:Gd r1 (4*((wC c:Int)+1)-1):=h.to s1 (by omega);refine .ite (fun hb0=>?_) (fun _=>?_)
 ·have hl:=hb hb0;refine .bind (iU g1 (by omega)) fun k4 ⟨s2,hv⟩=>?_;obtain⟨v0,v1⟩:=hv (by omega);have hv:k4.1.toNat<c.kids.length:=by omega
  have hx:=List.getElem?_eq_getElem hv;have hxm:c.kids[k4.1.toNat]∈c.kids:=List.getElem_mem hv;have hxw:=tY hxm;refine .bp () (F5 v0 hv) (.bp _ hx (.bind (Uf _ (by omega) k4.2 (g1.to s2 (by omega))) fun k8 ⟨s3,w3⟩=>.bp () (F5 v0 hv) (.pure ⟨?_,?_⟩)))
  ·exact s1.trans (s2.trans s3 (D:=1+4*((wC (c.kids[k4.1.toNat]):Int)+1)) (by omega)) (by omega)
  ·have:=VE c.kids k4.1.toNat _ k8.1 hx;simp only[wC,List.length_set]; omega
 ·refine .bind (iU g1 (by omega)) fun k11 ⟨s2,_⟩=>?_;have g2:Gd k11.2 1:=g1.to s2 (by omega);refine Ex.bind (P:=fun o=>Sp k11.2 o.2.2.2.2 1∧o.2.2.2.1.length+o.2.2.1.length≤c.ids.length+c.name.length+2) ?_ ?_
  ·refine .ite (fun _=>?_) (fun _=>.ite (fun _=>?_) (fun _=>.ite (fun _=>?_) (fun _=>.ite (fun _=>?_) (fun _=>?_))))
   ·refine .bind (yE (by simp) g2 (by omega)) fun k ⟨s3,_⟩=>.pure ⟨s3,by simp only; omega⟩
   ·refine .bind (yE (by simp) g2 (by omega)) fun k ⟨s3,_⟩=>.pure ⟨s3,by simp only; omega⟩
   ·refine .bind (yE (by simp) g2 (by omega)) fun k ⟨s3,_⟩=>.bp _ (cZ (by simp; omega)) (.pure ⟨s3,by simp; omega⟩)
   ·refine .bind (Zj (by simp) g2 (by omega)) fun k ⟨s3,hm⟩=>?_;have:k.1.length≤1:=by
     simp only[List.mem_cons,List.not_mem_nil,or_false] at hm;rcases hm with h | h | h <;> rw[h] <;> decide
    exact .pure ⟨s3,by simp only; omega⟩
   ·exact .pure ⟨.refl (by omega),by simp only; omega⟩
  ·rintro o ⟨s3,w3⟩;exact .pure ⟨s1.trans (s2.trans s3 (D:=2) (by omega)) (by omega),by simp only[wC]; omega⟩
termination_by SizeOf.sizeOf c
decreasing_by exact yT hxm
theorem VF (b:List UInt8):Ex (fun n=>uI n b) (fun c=>wC c≤3000):=by
 unfold uI;refine .bind (OH b) fun k1 g=>.bind (yE (by simp) g (by omega)) fun k2 ⟨s2,hm⟩=>?_;have g2:Gd k2.2 900000000:=g.to s2 (by omega);obtain⟨d,hd,hk⟩:∃d:Nat,d≤4∧k2.1=(d:Int):=by
  simp only[List.mem_cons,List.not_mem_nil,or_false] at hm;rcases hm with h | h | h
  ·exact⟨3,by omega,h⟩
  ·exact⟨4,by omega,h⟩
  ·exact⟨2,by omega,h⟩
 rw[hk];have hB:bC d≤10000∧Xl d≤2500:=by
  have:d=0∨d=1∨d=2∨d=3∨d=4:=by omega
  rcases this with rfl | rfl | rfl | rfl | rfl <;> simp[bC,Xl]
 refine .bind (abo d (by omega) [] 0 k2.2 (by simp) (g2.to (.refl (Int.le_refl 0)) (by omega))) fun k3 ⟨s3,w3,_⟩=>?_;have g3:Gd k3.2.2 800000000:=g2.to s3 (by omega);refine .bind (iU g3 (by omega)) fun k4 ⟨s4,_⟩=>.ite (fun _=>?_) (fun _=>.pure (by omega));have g4:Gd k4.2 700000000:=g3.to s4 (by omega);refine .bind (Uf k3.1 (by omega) k4.2 (g4.to (.refl (Int.le_refl 0)) (by omega))) fun k6 ⟨s6,w6⟩=>?_;have g6:Gd k6.2 600000000:=g4.to s6 (by omega);exact .bind (Uf k6.1 (by omega) k6.2 (g6.to (.refl (Int.le_refl 0)) (by omega))) fun k7 ⟨_,w7⟩=>.pure (by omega)
def t8:List (List UInt8):=[ng,ni,mW,mV,nN,mX,[40,49,32,50,41],mZ,uV,ny,qh,nX]
theorem adS:∀x∈t8,x.length≤500:=by decide
theorem abz (r:bg) (g:Gd r 200000):Ex (fun n=>yC n r) (fun k=>Sp r k.2 200000∧wF k.1≤100000):=by
 unfold yC zo;refine .bp t8 rfl (.bind (iU g (by omega)) fun k2 ⟨s1,_⟩=>?_);have g1:Gd k2.2 150000:=g.to s1 (by omega);refine .ite (fun _=>?_) (fun _=>?_)
 ·refine .bind (iU g1 (by omega)) fun k4 ⟨s2,hv⟩=>?_;obtain⟨v0,v1⟩:=hv (by decide);obtain⟨x,hx,hm⟩:=dh v0 v1;have hl:=adS x hm;refine .bp x hx (.bind (OI x (by omega)) fun k6 hk=>.pure ⟨s1.trans s2 (by omega),by simp only; omega⟩)
 ·exact .bind (abq k2.2 (g1.to (.refl (Int.le_refl 0)) (by omega))) fun k8 ⟨s8,w8⟩=>.pure ⟨s1.trans s8 (by omega),w8⟩
theorem Ug (b:List UInt8):Ex (fun n=>ku n b) (fun k=>wC k.1≤600000000∧(wC k.1≤3000∨lH k.1=true)∧0≤k.2∧k.2≤3001):=by
 unfold ku;refine .bind (OH b) fun k1 g=>.bind (iU g (by omega)) fun k2 ⟨s2,_⟩=>?_;have g2:Gd k2.2 900000000:=g.to s2 (by omega);refine .ite (fun _=>.bind (VF b) fun k4 h4=>.pure ⟨by simp only; omega,.inl h4,by simp only; omega,by simp only; omega⟩) (fun _=>?_);refine .bind (abz k2.2 (g2.to (.refl (Int.le_refl 0)) (by omega))) fun k5 ⟨s5,w5⟩=>.bind (Xg k5.1 (by omega) 20) fun k6 ⟨e1,e2,_⟩=>?_;have g5:Gd k5.2 800000000:=g2.to s5 (by omega);refine Ex.bind (P:=fun c=>wC c≤600000000∧(wC c≤3000∨lH c=true)) (.ite (fun _=>.bind (VF b) fun k10 h10=>.pure ⟨by omega,.inl h10⟩) (fun h0=>.pure ⟨e1,.inr (e2 (by simpa using h0))⟩)) ?_;rintro c ⟨c1,c2⟩;refine .bind (yE (by simp) g5 (by omega)) fun k8 ⟨_,hm⟩=>.pure ⟨c1,c2,?_,?_⟩
 all_goals
  simp only[List.mem_cons,List.not_mem_nil,or_false] at hm;simp only;omega
theorem ZR (b:List UInt8):Ex (fun n=>vJ n b) (fun c=>wC c≤600000000∧(wC c≤3000∨lH c=true)):=by
 unfold vJ;exact .bind (Ug b) fun k h=>.pure ⟨h.1,h.2.1⟩
theorem KH (n:Nat) (l:List (List UInt8)) (x:List UInt8):slices_Contains_string n l x=some (decide (x∈l)):=by
 unfold slices_Contains_string slices_Index_string;have main:∀(l:List (List UInt8)) (i:Nat),∃k:Int,bn (Mx.bI (fun(_:Unit) (i:Nat) (y:List UInt8)=>((if x=y then some (Sum.inl (i:Int)) else some (Sum.inr ())):Option (Int⊕Unit))) i l ()) (fun _=>some (-1))=some k∧(k≥0↔x∈l):=by
  intro l
  induction l with
  | nil=>intro i; exact⟨-1,rfl,by simp⟩
  | cons y r ih=>
   intro i;by_cases h:x=y
   ·subst h;exact⟨(i:Int),by simp[Mx.bI,Mx.bn],by simp⟩
   ·obtain⟨k,h1,h2⟩:=ih (i+1);refine⟨k,?_,by rw[h2]; simp[h]⟩;rw[← h1];simp[Mx.bI,h]
 obtain⟨k,h1,h2⟩:=main l 0;rw[h1,Option.bind_some];congr 1;rw[Bool.eq_iff_iff,decide_eq_true_eq,decide_eq_true_eq]; exact h2
theorem Nr (n:Nat) (l:List (List UInt8)) (x:List UInt8):ig n l x=some (decide (x∈l)):=KH n l x
def zH (w:List (List UInt8)) (x:List UInt8):List (List UInt8):=if x∈w then w else w++[x]
mutual
def Fh:Core→List (List UInt8)
 | ⟨k,_,nm,_,_,_,kids⟩=>(if k=2 then [nm] else [])++wP kids
def wP:List Core→List (List UInt8)
 | []=>[]
 | x::r=>Fh x++wP r
end
theorem KJ (c:Core):Fh c=(if c.kind=2 then [c.name] else [])++wP c.kids:=by cases c; simp only[Fh]
mutual
theorem Uh:∀c:Core,(Fh c).length≤cC c
 | ⟨k,_,nm,_,_,_,kids⟩=>by have:=VG kids; simp only[Fh,cC,List.length_append]; split <;> simp <;> omega
theorem VG:∀l:List Core,(wP l).length≤Ed l
 | []=>by simp[wP]
 | x::r=>by have:=Uh x; have:=VG r; simp only[wP,Ed,List.length_append]; omega
end
theorem abA (w:List (List UInt8)) (x:List UInt8):(zH w x).length≤w.length+1:=by unfold zH; split <;> simp
theorem Bf:∀(l w:List (List UInt8)),(l.foldl zH w).length≤w.length+l.length
 | [],w=>by simp
 | x::r,w=>by have:=Bf r (zH w x); have:=abA w x; simp only[List.foldl_cons,List.length_cons]; omega
theorem Ns (c:Core) (w:List (List UInt8)) (hw:w.length+cC c≤1000000000):gB (fun n=>pO n c w) ((Fh c).foldl zH w):=by
 have hc:=Ve c;refine .succ ?_;simp only[pO,Nr,Option.bind_some];refine Ex.yV ?_;refine Ex.bind (P:=fun o=>o=decide (c.kind=2∧c.name∉w)) ?_ ?_
 ·by_cases h:c.kind=2
  ·exact .pos h (.pure (by simp[h]))
  ·exact .neg h (.pure (by simp[h]))
 rintro o rfl;refine Ex.bind (P:=fun s=>s=(if c.kind=2 then [c.name] else []).foldl zH w) ?_ ?_
 ·by_cases h:c.kind=2∧c.name∉w
  ·exact .pos (by simpa using h) (.bp _ (cZ (by simp; omega)) (.pure (by rw[if_pos h.1]; simp[zH,h.2])))
  ·refine .neg (by simpa using h) (.pure ?_);by_cases h1:c.kind=2
   ·have:c.name∈w:=Decidable.byContradiction fun h2=>h ⟨h1,h2⟩;rw[if_pos h1]; simp[zH,this]
   ·rw[if_neg h1]; rfl
 rintro s0 rfl;have hl0:((if c.kind=2 then [c.name] else []).foldl zH w).length≤w.length+1:=by
  have:=Bf (if c.kind=2 then [c.name] else []) w;have:(if c.kind=2 then [c.name] else []).length≤1:=by split <;> simp
  omega
 refine Ex.bind (P:=fun s=>s=(Fh c).foldl zH w) ?_ (fun s hs=>.pure hs);refine Ex.dV (I:=fun i q s=>(wP q).foldl zH s=(Fh c).foldl zH w∧s.length+Ed q≤1000000000∧∀x∈q,x∈c.kids) ⟨by rw[KJ,List.foldl_append],by omega,fun _ h=>h⟩ ?_ ?_
 ·rintro i x q s ⟨h1,h2,h3⟩;have g4:=h3 x List.mem_cons_self;simp only[Ed] at h2;have hx:=Uh x;have hf:=Bf (Fh x) s;refine .bv (Ns x s (by omega)) (.pure ⟨?_,by omega,fun y hy=>h3 y (List.mem_cons_of_mem _ hy)⟩);rw[← h1,wP,List.foldl_append]
 ·rintro s ⟨h1,_,_⟩;exact h1
termination_by SizeOf.sizeOf c
decreasing_by exact yT g4
theorem Ea (c:Core) (hw:cC c≤1000000000-1):gB (fun n=>lS n c) ((Fh c).foldl zH []):=by
 have h:=Ns c [] (by simp; omega);obtain⟨N,hN⟩:=h;refine⟨N+1,fun n hn=>?_⟩;obtain⟨m,rfl⟩:∃m,n=m+1:=⟨n-1,by omega⟩
 have h1:=hN (m+2) (by omega);have e:lS (m+1) c=pO (m+2) c []:=by
  unfold lS rG;simp only[pO,Nr,KH,Option.bind_some,Option.bind_fun_some]
 show lS (m+1) c=_;rw[e]; exact h1
theorem ZT (n:Nat) (l:List (List UInt8)) (x:List UInt8):IJ n l x=some (decide (x∈l)):=by
 obtain⟨N,h⟩:=aaU (xs:=l) (y:=x);exact h N (Nat.le_refl N)
theorem abB (n:Nat) (l:List (List UInt8)) (x:List UInt8):Ce n l x=some (decide (x∈l)):=ZT n l x
theorem Gq (c:Core) (w:List (List UInt8)) (hw:w.length+cC c≤1000000000):gB (fun n=>uJ n w c) ((Fh c).foldl zH w):=by
 have hc:=Ve c;refine .succ ?_;simp only[uJ,abB,Option.bind_some];refine Ex.yV ?_;refine Ex.bind (P:=fun o=>o=decide (c.kind=2∧c.name∉w)) ?_ ?_
 ·by_cases h:c.kind=2
  ·exact .pos h (.pure (by simp[h]))
  ·exact .neg h (.pure (by simp[h]))
 rintro o rfl;refine Ex.bind (P:=fun s=>s=(if c.kind=2 then [c.name] else []).foldl zH w) ?_ ?_
 ·by_cases h:c.kind=2∧c.name∉w
  ·exact .pos (by simpa using h) (.bp _ (cZ (by simp; omega)) (.pure (by rw[if_pos h.1]; simp[zH,h.2])))
  ·refine .neg (by simpa using h) (.pure ?_);by_cases h1:c.kind=2
   ·have:c.name∈w:=Decidable.byContradiction fun h2=>h ⟨h1,h2⟩;rw[if_pos h1]; simp[zH,this]
   ·rw[if_neg h1]; rfl
 rintro s0 rfl;have hl0:((if c.kind=2 then [c.name] else []).foldl zH w).length≤w.length+1:=by
  have:=Bf (if c.kind=2 then [c.name] else []) w;have:(if c.kind=2 then [c.name] else []).length≤1:=by split <;> simp
  omega
 refine Ex.bind (P:=fun s=>s=(Fh c).foldl zH w) ?_ (fun s hs=>.pure hs);refine Ex.dV (I:=fun i q s=>(wP q).foldl zH s=(Fh c).foldl zH w∧s.length+Ed q≤1000000000∧∀x∈q,x∈c.kids) ⟨by rw[KJ,List.foldl_append],by omega,fun _ h=>h⟩ ?_ ?_
 ·rintro i x q s ⟨h1,h2,h3⟩;have g4:=h3 x List.mem_cons_self;simp only[Ed] at h2;have hx:=Uh x;have hf:=Bf (Fh x) s;refine .bv (Gq x s (by omega)) (.pure ⟨?_,by omega,fun y hy=>h3 y (List.mem_cons_of_mem _ hy)⟩);rw[← h1,wP,List.foldl_append]
 ·rintro s ⟨h1,_,_⟩;exact h1
termination_by SizeOf.sizeOf c
decreasing_by exact yT g4
theorem uK {d:Nat} {sc:List Int} {c:Core} (h:zM d sc c=true):∃e s,d=e+1∧E5 c.kind c.kids.length=true∧RJ c=true∧(c.kind=1→c.id∈sc)∧Nc sc c.ids=some s∧∀x∈c.kids,zM e s x=true:=by
 cases d with
 | zero=>cases h
 | succ e=>
  simp only[zM,Bool.and_eq_true] at h;obtain⟨h1,h2,h3,h4⟩:=h;split at h4
  ·cases h4
  ·rename_i s hs;refine⟨e,s,rfl,h1,h2,?_,hs,List.all_eq_true.1 h4⟩;intro hk
   simpa [hk] using h3
theorem adT (n:Nat) (l:List (List UInt8)) (w:Int) (hl:∀x∈l,x.length≤18):bf n l w=some (l.any fun x=>vP x (Mx.rn w)):=by
 unfold bf dJ;have e:∀x:List UInt8,x.length≤18→jH n x w=some (vP x (Mx.rn w)):=fun x hx=>by
  unfold jH wu;rw[if_pos (by omega)]; rfl
 have main:∀(l:List (List UInt8)) (i:Nat),(∀x∈l,x.length≤18)→∃k:Int,bn (Mx.bI (fun(_:Unit) (i:Nat) (y:List UInt8)=>((jH n y w).bind fun k=>(if k=true then some (Sum.inl (i:Int)) else some (Sum.inr ())):Option (Int⊕Unit))) i l ()) (fun _=>some (-1))=some k∧(k≥0↔(l.any fun x=>vP x (Mx.rn w))=true):=by
  intro l
  induction l with
  | nil=>intro i _; exact⟨-1,rfl,by simp⟩
  | cons y r ih=>
   intro i hl;have ey:=e y (hl y List.mem_cons_self);cases h:vP y (Mx.rn w) with
   | true=>exact⟨(i:Int),by simp[Mx.bI,Mx.bn,ey,h],by simp[h]⟩
   | false=>
    obtain⟨k,h1,h2⟩:=ih (i+1) (fun x hx=>hl x (List.mem_cons_of_mem _ hx));refine⟨k,?_,by rw[h2]; simp[h]⟩;rw[← h1];simp[Mx.bI,ey,h]
 obtain⟨k,h1,h2⟩:=main l 0 hl;rw[h1,Option.bind_some];congr 1;rw[Bool.eq_iff_iff,decide_eq_true_eq]; exact h2
theorem slN {α:Type} {l:List α} {a b:Nat} (h:a≤b) (hb:b≤l.length):IC l (a:Int) (b:Int)=some ((l.drop a).take (b-a)):=by
 unfold IC;rw[if_pos ⟨by omega,by omega,by omega⟩];simp
theorem VH {b:UInt8} {r:List UInt8}:CG (b::r)=true↔(b::r).all Ll=true∧¬(b=48∧r≠[]):=by
 simp only[CG,Bool.and_eq_true,Bool.or_eq_true,decide_eq_true_eq,List.all_cons,List.isEmpty_iff];constructor
 ·rintro ⟨⟨h1,h2⟩,h3⟩;refine⟨⟨h1,h2⟩,fun⟨a,c⟩=>?_⟩;rcases h3 with h3 | h3
  ·exact h3 a
  ·exact c h3
 ·rintro ⟨⟨h1,h2⟩,h3⟩;refine⟨⟨h1,h2⟩,?_⟩;by_cases h:b=48
  ·exact .inr (Classical.byContradiction fun c=>h3 ⟨h,c⟩)
  ·exact .inl h
theorem abZ (b:UInt8):(b.toNat:Int)=48↔b=48:=by
 rw[← UInt8.toNat_inj,show(48:UInt8).toNat=48 from rfl]; omega
theorem ab1 (b:UInt8):(b.toNat:Int)=45↔b=45:=by
 rw[← UInt8.toNat_inj,show(45:UInt8).toNat=45 from rfl]; omega
theorem adU (s:List UInt8) (hs:s.length≤17):Ex (fun n=>lY n s) (fun r=>(r.2=true→s≠[])∧(s.head?≠some 45→(r.2=true↔CG s=true))):=by
 unfold lY;cases s with
 | nil=>
  simp only[List.length_nil,Option.bind_some];exact .pure ⟨fun h=>(by cases h),fun _=>⟨fun h=>(by cases h),fun h=>(by cases h)⟩⟩
 | cons b r=>
 have hl:0<(b::r).length:=by simp
 have hne:b::r≠[]:=by simp
 have hy:(b::r)[0]? = some b:=rfl;refine Ex.bind (P:=fun o=>o=decide (b=45)) (.pos (by omega) (.bp _ (dW (i:=0) hy) (.pure (by simp only[ab1])))) ?_;rintro o1 rfl;refine Ex.mono (Q:=fun r'=>b≠45→(r'.2=true↔CG (b::r)=true)) ?_ (fun v hv=>⟨fun _=>hne,fun h=>hv (by simpa using h)⟩);refine Ex.bind (P:=fun t=>t.length≤17∧(b≠45→t=b::r)) ?_ ?_
 ·refine .ite (fun h=>?_) (fun _=>.pure ⟨hs,fun _=>rfl⟩);have:=slN (l:=b::r) (a:=1) (b:=(b::r).length) (by omega) (Nat.le_refl _);exact .bp _ this (.pure ⟨by simp at hs ⊢; omega,fun h'=>absurd (by simpa using h) h'⟩)
 rintro t ⟨ht,hts⟩;refine Ex.bind (P:=fun o=>(o=false→t≠[])∧(b≠45→(o=true↔b=48∧r≠[]))) ?_ ?_
 ·refine .ite (fun h=>.pure ⟨fun h=>(by cases h),fun h'=>?_⟩) (fun h1=>.ite (fun h=>by omega) (fun _=>?_))
  ·rw[hts h'] at h; simp at h; omega
  cases t with
  | nil=>simp at h1
  | cons y q=>
  refine .bp _ (dW (i:=0) (x:=y) rfl) ?_;refine .ite (fun h2=>.ite (fun h3=>.pure ⟨fun _=>(by simp),fun h'=>?_⟩) (fun h3=>.pure ⟨fun _=>(by simp),fun h'=>?_⟩)) (fun h2=>.pure ⟨fun _=>(by simp),fun h'=>?_⟩)
  ·obtain⟨rfl,rfl⟩:=List.cons.inj (hts h');have:q≠[]:=fun e=>by rw[e] at h3; simp at h3
   simp[(abZ y).1 h2,this]
  ·obtain⟨rfl,rfl⟩:=List.cons.inj (hts h');have:q=[]:=by
    cases q with
    | nil=>rfl
    | cons a c=>exact absurd (by simp; omega) h3
   simp[this,h']
  ·obtain⟨rfl,rfl⟩:=List.cons.inj (hts h');have:y≠48:=fun e=>h2 ((abZ y).2 e);simp[this]
 rintro o3 ⟨g1,g2⟩;refine .ite (fun h3=>.pure fun h'=>?_) (fun h3=>?_)
 ·rw[VH];exact⟨fun h=>(by cases h),fun h=>absurd ((g2 h').1 h3) h.2⟩
 have h3':o3=false:=by simpa using h3
 have fin:∀v:Int×Bool,v.2=t.all Ll→b≠45→(v.2=true↔CG (b::r)=true):=fun v hv h'=>by
  have h4:¬(b=48∧r≠[]):=fun h=>h3 ((g2 h').2 h);rw[VH,hv,hts h'];exact⟨fun h=>⟨h,h4⟩,fun h=>h.1⟩
 refine Ex.mono (Q:=fun r'=>r'.2=t.all Ll) ?_ fin;refine Ex.iter (fun s=>t.length-s.2.toNat) (fun s=>∃i:Nat,s.2=(i:Int)∧i≤t.length∧(t.take i).all Ll=true) _ ⟨0,rfl,Nat.zero_le _,rfl⟩ ?_;rintro ⟨k,p⟩ ⟨i,hi,hil,hall⟩;simp only at hi;subst hi;simp only;refine .ite (fun h=>?_) (fun h=>?_)
 ·have hi:i<t.length:=by omega
  have hy:=List.getElem?_eq_getElem hi;rw[dW hy];simp only[Option.bind_some];refine Ex.bind (P:=fun o=>o=!Ll t[i]) ?_ ?_
  ·refine .ite (fun h1=>.pure ?_) (fun h1=>.pure ?_)
   ·unfold Ll; simp; omega
   ·unfold Ll;by_cases h2:(t[i].toNat:Int)>57
    ·simp[h2]; omega
    ·simp[h2]; omega
  rintro o rfl;refine .ite (fun h1=>.pure ⟨fun w e=>?_,fun _ e=>(by cases e)⟩) (fun h1=>.pure ⟨fun _ e=>(by cases e),fun s' e=>?_⟩)
  ·cases e
   symm
   rw[Bool.eq_false_iff];intro h2;have:=List.all_eq_true.1 h2 _ (List.getElem_mem hi);rw[this] at h1; cases h1
  ·cases e;refine⟨⟨i+1,by simp only; rw[iC (by omega)],by omega,?_⟩,by simp only; rw[iC (by omega)]; simp; omega⟩;rw[List.take_add_one,hy,List.all_append,hall]
   simpa using h1
 ·have:i=t.length:=by omega
  subst this;rw[List.take_length] at hall;refine Ex.bind (P:=fun _=>True) (.ite (fun _=>.pure trivial) (fun _=>.pure trivial)) ?_;intro o _;exact .pure ⟨fun w e=>by cases e; exact hall.symm,fun _ e=>(by cases e)⟩
theorem Ui:∀i:Nat,i<26→Mx.rn ((97+i:Nat):Int)=[UInt8.ofNat (97+i)]:=by decide +kernel
theorem abC (x:List UInt8) (h1:1≤x.length) (h2:x.length≤18) (i:Nat) (hi:i<26):Ex (fun n=>oJ n x ((97+i:Nat):Int)) (fun r=>r=vP x (Mx.rn ((97+i:Nat):Int))):=by
 unfold oJ;cases x with
 | nil=>simp at h1
 | cons b r=>
 have e:=slN (l:=b::r) (a:=1) (b:=(b::r).length) (by simp) (Nat.le_refl _);have e2:((b::r).drop 1).take ((b::r).length-1)=r:=by simp
 rw[e2] at e;refine .bp _ e (.bind (adU r (by simp at h2; omega)) ?_);rintro k ⟨k1,k2⟩;rw[Ui i hi];have hn:vP (b::r) [UInt8.ofNat (97+i)]=(decide ((b.toNat:Int)=((97+i:Nat):Int))&&CG r):=by
  have hb:decide ((b::r).take 1=[UInt8.ofNat (97+i)])=decide ((b.toNat:Int)=((97+i:Nat):Int)):=by
   simp only[decide_eq_decide,List.take_succ_cons,List.take_zero,List.cons.injEq,and_true];constructor
   ·rintro rfl; simp[UInt8.toNat_ofNat']; omega
   ·intro h;rw[← UInt8.toNat_inj,UInt8.toNat_ofNat'];omega
  unfold vP;rw[hb,decide_eq_true h2];cases r with
  | nil=>simp[CG]
  | cons y q=>simp
 rw[hn];refine Ex.bind (P:=fun o=>o=(decide ((b.toNat:Int)=((97+i:Nat):Int))&&CG r)) ?_ (fun o ho=>.pure ho);refine .bp _ (dW (i:=0) (x:=b) rfl) ?_;refine .ite (fun hb=>?_) (fun hb=>.pure (by rw[decide_eq_false hb]; rfl));rw[decide_eq_true hb,Bool.true_and];cases r with
 | nil=>exact .neg (fun h=>k1 h rfl) (.pure rfl)
 | cons y q=>
 refine .ite (fun hk=>.bp y (by unfold gW; rfl) (.pure ?_)) (fun hk=>.pure ?_)
 ·by_cases hy:y=45
  ·subst hy; rfl
  ·rw[(k2 (by simpa using hy)).1 hk];have:¬(y.toNat:Int)=45:=fun h=>hy ((ab1 y).1 h);simp[this]
 ·by_cases hy:y=45
  ·subst hy; rfl
  ·symm
   rw[Bool.eq_false_iff];exact fun h=>hk ((k2 (by simpa using hy)).2 h)
def pL (l:List (List UInt8)) (i:Nat):Bool:=l.any fun x=>vP x (Mx.rn ((97+i:Nat):Int))
def ZU (l:List (List UInt8)) (r:List UInt8×Bool):Prop:=
 (∃i,i<26∧r=(Mx.rn ((97+i:Nat):Int),true)∧pL l i=false∧∀j,j<i→pL l j=true)∨(r=([],false)∧∀j,j<26→pL l j=true)
theorem ZU.uniq {l:List (List UInt8)} {r r':List UInt8×Bool} (h:ZU l r) (h':ZU l r'):r=r':=by
 rcases h with ⟨i,hi,rfl,h1,h2⟩ | ⟨rfl,h2⟩ <;> rcases h' with ⟨k,hk,rfl,k1,k2⟩ | ⟨rfl,k2⟩
 ·have:i=k:=by
   rcases Nat.lt_trichotomy i k with h | h | h
   ·rw[k2 i h] at h1; cases h1
   ·exact h
   ·rw[h2 k h] at k1; cases k1
  subst this; rfl
 ·rw[k2 i hi] at h1; cases h1
 ·rw[h2 k hk] at k1; cases k1
 ·rfl
theorem ab2 {l:List (List UInt8)} {step:Nat→Int→Option ((List UInt8×Bool)⊕Int)} (h1:∀i:Nat,i<26→Ex (fun n=>step n ((97+i:Nat):Int)) (fun r=>r=if pL l i=false then .inl (Mx.rn ((97+i:Nat):Int),true) else .inr ((97+(i+1):Nat):Int))) (h2:Ex (fun n=>step n ((97+26:Nat):Int)) (fun r=>r=.inl ([],false))) :
  Ex (fun n=>iterM n (step n) 97) (ZU l):=by
 refine Ex.iter (fun s=>123-s.toNat) (fun s=>∃i:Nat,s=((97+i:Nat):Int)∧i≤26∧∀j,j<i→pL l j=true) _ ⟨0,rfl,by omega,fun j h=>by omega⟩ ?_;rintro s ⟨i,rfl,hi,hp⟩;rcases Nat.lt_or_ge i 26 with h | h
 ·refine(h1 i h).mono ?_;rintro r rfl;cases hq:pL l i with
  | false=>
   rw[if_pos rfl];exact⟨fun w e=>by rw[← Sum.inl.inj e]; exact .inl ⟨i,h,rfl,hq,hp⟩,fun s' e=>(by cases e)⟩
  | true=>
   refine⟨fun w e=>by simp at e,fun s' e=>?_⟩;simp only[Bool.true_eq_false,if_false,Sum.inr.injEq] at e;subst e;refine⟨⟨i+1,rfl,by omega,fun j hj=>?_⟩,by simp only[Int.toNat_natCast]; omega⟩;rcases Nat.lt_or_eq_of_le (Nat.le_of_lt_succ hj) with h' | h'
   ·exact hp j h'
   ·subst h'; exact hq
 ·have:i=26:=by omega
  subst this;refine h2.mono ?_;rintro r rfl;exact⟨fun w e=>by cases e; exact .inr ⟨rfl,hp⟩,fun s' e=>(by cases e)⟩
theorem adV:∀i:Nat,i<26→IntKind.i32.wrap (((97+i:Nat):Int)+1)=((97+(i+1):Nat):Int):=by decide +kernel
theorem afJ:∀i:Nat,i<26→IntKind.u8.wrap (((97+i:Nat):Int)+1)=((97+(i+1):Nat):Int):=by decide +kernel
theorem KL:∀(l w:List (List UInt8)) {x:List UInt8},x∈l.foldl zH w→x∈w∨x∈l
 | [],w,x,h=>.inl h
 | y::r,w,x,h=>by
  rw[List.foldl_cons] at h;rcases KL r (zH w y) h with h | h
  ·unfold zH at h;split at h
   ·exact .inl h
   ·rcases List.mem_append.1 h with h | h
    ·exact .inl h
    ·exact .inr (by rw[List.mem_singleton.1 h]; exact List.mem_cons_self)
  ·exact .inr (List.mem_cons_of_mem _ h)
theorem KN {s:List UInt8} (h:nameB s=true):1≤s.length∧s.length≤12:=by
 unfold nameB at h;simp only[Bool.or_eq_true,Bool.and_eq_true,decide_eq_true_eq] at h;rcases h with (h | h) | h
 ·subst h; decide
 ·subst h; decide
 ·exact h.2
theorem Rj:∀{l:List Core} {x:List UInt8},x∈wP l→∃c∈l,x∈Fh c
 | c::r,x,h=>by
  simp only[wP,List.mem_append] at h;rcases h with h | h
  ·exact⟨c,List.mem_cons_self,h⟩
  ·obtain⟨d,h1,h2⟩:=Rj h;exact⟨d,List.mem_cons_of_mem _ h1,h2⟩
 | [],x,h=>by simp[wP] at h
theorem Rk:∀(d:Nat) (sc:List Int) (c:Core),zM d sc c=true→∀x∈Fh c,nameB x=true
 | 0,sc,c,h=>by cases h
 | d+1,sc,c,h=>by
  intro x hx;obtain⟨e,s,he,h1,h2,h3,h4,h5⟩:=uK h;cases he;rw[KJ,List.mem_append] at hx;rcases hx with hx | hx
  ·split at hx
   ·rename_i hk;rw[List.mem_singleton.1 hx];unfold RJ at h2;rw[hk] at h2;simp at h2;exact h2.2.1
   ·simp at hx
  ·obtain⟨y,hy,hx⟩:=Rj hx;exact Rk d s y (h5 y hy) x hx
theorem Bg {c:Core} (h:lH c=true):∀x∈(Fh c).foldl zH [],1≤x.length∧x.length≤18:=by
 intro x hx;unfold lH at h;rw[Bool.and_eq_true] at h;rcases KL _ _ hx with h' | h'
 ·simp at h'
 ·have:=KN (Rk _ _ _ h.1 x h');omega
def Xn (c:Core) (r:List UInt8×Bool):Prop:=if lH c=true then ZU ((Fh c).foldl zH []) r else r=([],false)
theorem Xn.uniq {c:Core} {r r':List UInt8×Bool} (h:Xn c r) (h':Xn c r'):r=r':=by
 unfold Xn at h h';split at h
 ·rename_i hv; rw[if_pos hv] at h'; exact h.uniq h'
 ·rename_i hv; rw[if_neg hv] at h'; rw[h,h']
theorem ZV (c:Core) (hw:wC c≤700000000):Ex (fun n=>qw n c) (Xn c):=by
 unfold qw Xn;have hcl:=Ky c;refine .bv (abk c (by omega)) ?_;cases hv:lH c with
 | false=>exact .pos rfl (.pure (by simp))
 | true=>
  refine .neg (by simp) (.bv (Ea c (by omega)) ?_);have hn:=Bg hv;simp only[if_true];generalize (Fh c).foldl zH []=l at hn ⊢;have hcf:∀(n:Nat) (w:Int),bf n l w=some (l.any fun x=>vP x (Mx.rn w)):=fun n w=>adT n l w fun x hx=>(hn x hx).2;simp only[hcf];refine ab2 (fun i hi=>?_) ?_
  ·refine .pos (by omega) ?_;show Ex (fun n=>(if(!pL l i)=true then some (Sum.inl (Mx.rn ((97+i:Nat):Int),true)) else some (Sum.inr (IntKind.i32.wrap (((97+i:Nat):Int)+1)))) ) _;cases hp:pL l i with
   | false=>exact .pos rfl (.pure rfl)
   | true=>
    refine .neg (by simp) (.pure ?_);rw[if_neg (by simp)];congr 1;exact adV i hi
  ·exact .neg (by decide) (.pure rfl)
theorem adW (c:Core) (hw:wC c≤700000000):Ex (fun n=>qB n c) (Xn c):=by
 unfold qB Xn qX;have hcl:=Ky c;refine .bv (Vl c (by omega)) ?_;cases hv:lH c with
 | false=>exact .pos rfl (.pure (by simp))
 | true=>
  refine .neg (by simp) (.bv (a:=(Fh c).foldl zH []) (Ex.yV (.bv (Gq c [] (by simp; omega)) (.pure rfl))) ?_);simp only[if_true];have hn:=Bg hv;generalize (Fh c).foldl zH []=l at hn ⊢;refine ab2 (fun i hi=>?_) ?_
  ·refine .pos (by omega) ?_;refine Ex.bind (P:=fun o=>o=pL l i) ?_ ?_
   ·refine Ex.dV (I:=fun k q s=>(∀x∈q,x∈l)∧(s||q.any fun x=>vP x (Mx.rn ((97+i:Nat):Int)))=pL l i) ⟨fun _ h=>h,by simp[pL]⟩ ?_ ?_
    ·rintro k x q s ⟨h1,h2⟩;have hx:=hn x (h1 x List.mem_cons_self);refine Ex.bind (P:=fun o=>o=(s||vP x (Mx.rn ((97+i:Nat):Int)))) ?_ ?_
     ·refine .ite (fun h=>.pure (by simp[h])) (fun h=>.bind (abC x hx.1 hx.2 i hi) fun r hr=>.pure ?_);have:s=false:=by simpa using h
      rw[hr,this]; rfl
     ·rintro o rfl;refine .pure ⟨fun y hy=>h1 y (List.mem_cons_of_mem _ hy),?_⟩;rw[← h2,List.any_cons,Bool.or_assoc]
    ·rintro s ⟨_,h2⟩
     simpa using h2
   ·rintro o rfl;cases hp:pL l i with
    | false=>
     refine .pos rfl (.bp _ (acU (by omega) (by omega)) (.pure ?_));rw[if_pos rfl,Ui i hi]; rfl
    | true=>
     refine .neg (by simp) (.pure ?_);rw[if_neg (by simp)];congr 1;exact afJ i hi
  ·exact .neg (by decide) (.pure rfl)
theorem ZW (b:List UInt8):Ex (fun n=>jJ n b) (fun c=>wC c≤600000100):=by
 unfold jJ;refine .bind (ZR b) fun k1 h1=>.bind (OH b) fun k2 g=>.bind (iU g (by omega)) fun k3 h3=>?_;refine .ite (fun _=>?_) (fun _=>.pure (by have:=h1.1; omega));refine .bind (Zj (by simp) (g.to h3.1 (by omega:(1:Int)+1≤1000000000)) (by omega)) fun k5 h5=>.pure ?_;have h6:k5.1.length≤2:=by
  have:=h5.2;simp only[List.mem_cons,List.not_mem_nil,or_false] at this;rcases this with h | h | h | h <;> rw[h] <;> simp
 have:=h1.1;simp only[wC,xE,wF,oQ,List.length_cons,List.length_nil];omega
mutual
def Fj:Form→List UInt8→Bool
 | ⟨k,nm,_,_,kids⟩,x=>(decide (k=1)&&decide (nm=x))||kC kids x
def kC:List Form→List UInt8→Bool
 | [],_=>false
 | f::r,x=>Fj f x||kC r x
end
mutual
def cnN:Form→List UInt8→Nat
 | ⟨k,nm,_,_,kids⟩,x=>(if k=1∧nm=x then 1 else 0)+LU kids x
def LU:List Form→List UInt8→Nat
 | [],_=>0
 | f::r,x=>cnN f x+LU r x
end
theorem adX (f:Form) (x:List UInt8):cnN f x=(if f.kind=1∧f.name=x then 1 else 0)+LU f.kids x:=by cases f; simp only[cnN]
mutual
theorem Cj:∀(f:Form) (x:List UInt8),(0<cnN f x↔Fj f x=true)∧cnN f x≤cF f
 | ⟨k,nm,n,sc,kids⟩,x=>by
  obtain⟨h1,h2⟩:=Rl kids x;simp only[cnN,Fj,cF,Bool.or_eq_true,Bool.and_eq_true,decide_eq_true_eq];rw[← h1];by_cases h:k=1∧nm=x
  ·rw[if_pos h]; exact⟨⟨fun _=>.inl h,fun _=>by omega⟩,by omega⟩
  ·rw[if_neg h]; exact⟨⟨fun h'=>.inr (by omega),fun h'=>by rcases h' with h' | h'; exact absurd h' h; omega⟩,by omega⟩
theorem Rl:∀(l:List Form) (x:List UInt8),(0<LU l x↔kC l x=true)∧LU l x≤iG l
 | [],x=>by simp[LU,kC]
 | f::r,x=>by
  obtain⟨h1,h2⟩:=Cj f x;obtain⟨h3,h4⟩:=Rl r x;simp only[LU,kC,iG,Bool.or_eq_true];rw[← h1,← h3];exact⟨by omega,by omega⟩
end
theorem Fp:∀{ids sc s:List Int},Nc sc ids=some s→s=sc++ids∧∀i∈ids,1≤i∧i≤999
 | [],sc,s,h=>by cases h; simp
 | x::r,sc,s,h=>by
  simp only[Nc] at h;split at h
  ·rename_i hx;obtain⟨h1,h2⟩:=Fp h;refine⟨by rw[h1]; simp,fun i hi=>?_⟩;rcases List.mem_cons.1 hi with rfl | hi
   ·exact hx.1
   ·exact h2 i hi
  ·cases h
mutual
theorem KO:∀f:Form,iH f f=true
 | ⟨k,nm,n,sc,kids⟩=>by simp[iH,Hf kids]
theorem Hf:∀l:List Form,jv l l=true
 | []=>rfl
 | f::r=>by simp[jv,KO f,Hf r]
end
def vN (s:List UInt8):Form:=⟨1,s,0,[],[]⟩
def OV (l:List Form):Form:=⟨3,[],0,[],l⟩
def adY:List UInt8:=[113,117,111,116,101]
def Rn:List UInt8:=[108,97,109,98,100,97]
def bIf:List UInt8:=[105,102]
mutual
def Ih (p:List UInt8):Core→Form
 | ⟨k,id,nm,n,ids,dt,kids⟩=>if k=1 then vN (p++Lib.itoa id) else if k=2 then vN nm else if k=3 then⟨2,[],n,[],[]⟩ else if k=4 then OV [vN adY,dt] else
   OV ((if k=7 then [vN bIf] else [])++((if k=5 then [vN Rn,OV (ids.map fun i=>vN (p++Lib.itoa i))] else [])++tu p kids))
def tu (p:List UInt8):List Core→List Form
 | []=>[]
 | x::r=>Ih p x::tu p r
end
theorem KP (p:List UInt8) (c:Core):Ih p c=if c.kind=1 then vN (p++Lib.itoa c.id) else if c.kind=2 then vN c.name else if c.kind=3 then⟨2,[],c.n,[],[]⟩ else if c.kind=4 then OV [vN adY,c.data] else
   OV ((if c.kind=7 then [vN bIf] else [])++((if c.kind=5 then [vN Rn,OV (c.ids.map fun i=>vN (p++Lib.itoa i))] else [])++tu p c.kids)):=by cases c; simp only[Ih]
theorem KQ (p:List UInt8):∀l:List Core,(tu p l).length=l.length
 | []=>rfl
 | x::r=>by simp only[tu,List.length_cons,KQ p r]
theorem OW:∀(k m:Nat),m<10 ^ (k+1)→(Lib.decDigits m).length≤k+1
 | 0,m,h=>by rw[Lib.decDigits,dif_pos (by simpa using h)]; simp
 | k+1,m,h=>by
  rw[Lib.decDigits];split
  ·simp
  ·have:=OW k (m / 10) (by rw[Nat.pow_succ] at h; omega);simp; omega
theorem Ro (m:Nat):Lib.itoa (m:Int)=Lib.decDigits m:=by
 unfold Lib.itoa; rw[if_neg (by omega),Int.toNat_natCast]
theorem Bh {i:Int} (h:1≤i∧i≤999):(Lib.itoa i).length≤3:=by
 obtain⟨m,rfl⟩:∃m:Nat,i=m:=⟨i.toNat,by omega⟩
 rw[Ro]; exact OW 2 m (by omega)
theorem u8d:∀k:Nat,k<10→u8B (IntKind.u8.wrap (aX (48+(k:Int))))=some (UInt8.ofNat (48+k)):=by decide +kernel
theorem adZ (m:Nat):yS (m:Int) 10=some ((m % 10:Nat):Int):=YG (by decide)
theorem ad1 (m:Nat) (h:m<1000000):Hr (m:Int) 10=some ((m / 10:Nat):Int):=by
 rw[YH (by decide)];have e:(m:Int).tdiv 10=((m / 10:Nat):Int):=rfl;rw[e,jW (by omega) (by omega)]
theorem Rq {i:Int} (h:1≤i∧i≤999):gB (fun n=>qY n i) (Lib.itoa i):=by
 obtain⟨m0,rfl⟩:∃m:Nat,i=m:=⟨i.toNat,by omega⟩
 rw[Ro];refine .succ ?_;simp only[qY];refine Ex.yV (.neg (by omega) (.neg (by omega) ?_));refine Ex.iter (fun(s:Int×List UInt8)=>s.1.toNat) (fun(s:Int×List UInt8)=>∃m:Nat,s.1=(m:Int)∧m<1000∧Lib.decDigits m++s.2=Lib.decDigits m0) ((m0:Int),[]) ⟨m0,rfl,by omega,by simp⟩ ?_;rintro ⟨a,s⟩ ⟨m,hm,h1,h2⟩;simp only at hm h2 ⊢;subst hm;have hs:s.length≤3:=by
  have h3:=congrArg List.length h2;have h4:=OW 2 m0 (by omega);simp only[List.length_append] at h3;omega
 refine .ite (fun hgt=>?_) (fun hle=>?_)
 ·have ahW:¬m<10:=by omega
  refine .bp _ (adZ m) (.bp _ (u8d (m % 10) (by omega)) (.bp _ (EI (by simp; omega)) (.bp _ (ad1 m (by omega)) (.pure ⟨fun _ e=>(by cases e),fun s' e=>?_⟩))));cases e;refine⟨⟨m / 10,rfl,by omega,?_⟩,by simp only[Int.toNat_natCast]; omega⟩;rw[← h2]
  conv=>rhs; rw[Lib.decDigits,dif_neg ahW]
  simp
 ·refine .bp _ (u8d m (by omega)) (.bp _ (EI (by simp; omega)) (.pure ⟨fun w e=>?_,fun _ e=>(by cases e)⟩));cases e;rw[← h2,Lib.decDigits,dif_pos (by omega)]
theorem ev0 {α:Type} {f:Nat→Option α} {a:α} (h:∀n,f n=some a):gB f a:=⟨0,fun n _=>h n⟩
theorem Bj (n:Nat) (s:List UInt8):jg n s []=some (vN s):=by
 unfold jg;rw[Vm (by simp)]; rfl
theorem VI (n:Nat) (p:List UInt8) (hp:p.length≤1) {i:Int} (h:1≤i∧i≤999):pR n i p=some (vN (p++Lib.itoa i)):=by
 have:=Bh h;unfold pR strconv_Itoa;rw[if_pos (by omega),Option.bind_some,EI (by omega),Option.bind_some,Bj]; rfl
theorem Rt {c:Core} (h:RJ c=true) (hk:c.kind=1):1≤c.id∧c.id≤999:=by
 unfold RJ at h;simp only[hk,if_true,Bool.and_eq_true,decide_eq_true_eq] at h;exact h.1
theorem ZX {c:Core} (h:E5 c.kind c.kids.length=true) (hk:c.kind=1∨c.kind=2∨c.kind=3∨c.kind=4):c.kids=[]:=by
 unfold E5 at h;rw[if_pos hk,decide_eq_true_eq] at h;exact List.eq_nil_of_length_eq_zero h
theorem ad2 {c:Core} (h:E5 c.kind c.kids.length=true) (hk:c.kind=5):∃x,c.kids=[x]:=by
 unfold E5 at h;rw[if_neg (by omega),if_pos hk,decide_eq_true_eq] at h;exact List.length_eq_one_iff.1 h
theorem VJ (p:List UInt8) (hp:p.length≤1):∀(d:Nat) (sc:List Int) (c:Core),wC c≤1000000000→zM d sc c=true→gB (fun n=>uy n c p) (Ih p c)
 | 0,sc,c,_,h=>by cases h
 | d+1,sc,c,hw,h=>by
  obtain⟨e,s,he,h1,h2,h3,h4,h5⟩:=uK h;cases he;have hwe:=EG c;obtain⟨rfl,Uj⟩:=Fp h4;refine .succ ?_;simp only[uy];refine Ex.yV ?_;refine Ex.bind (P:=fun s=>s=tu p c.kids) ?_ ?_
  ·refine Ex.dV (I:=fun i q s=>s++tu p q=tu p c.kids∧s.length+q.length≤c.kids.length∧∀y∈q,y∈c.kids) ⟨rfl,by simp,fun _ h=>h⟩ ?_ (fun s ⟨h,_⟩=>by simpa [tu] using h);rintro i x q s ⟨g1,g2,g3⟩;have hx:=g3 x List.mem_cons_self;simp only[List.length_cons] at g2;exact .bv (VJ p hp d _ x (by have:=tY hx; omega) (h5 x hx)) (.bp _ (cZ (by simp only[List.length_cons,List.length_nil]; omega)) (.pure ⟨by rw[← g1]; simp[tu],by simp only[List.length_append,List.length_cons,List.length_nil]; omega,fun y hy=>g3 y (List.mem_cons_of_mem _ hy)⟩))
  rintro s rfl;refine Ex.bn (P:=fun o=>match o with
   | .inl w=>w=Ih p c
   | .inr l=>OV l=Ih p c) ?_ (fun w hw=>hw) (fun t ht=>.bv (a:=OV t) (ev0 fun _=>rfl) (.pure ht))
  rw[KP];refine .ite (fun k1=>.bv (ev0 fun n=>VI n p hp (Rt h2 k1)) (.pure (by rw[if_pos k1]))) (fun k1=>?_);refine .ite (fun k2=>.bv (ev0 fun n=>Bj n _) (.pure (by rw[if_neg k1,if_pos k2]))) (fun k2=>?_);refine .ite (fun k3=>.pure (by rw[if_neg k1,if_neg k2,if_pos k3])) (fun k3=>?_);refine .ite (fun k4=>.bv (ev0 fun n=>Bj n _) (.bv (OG c.data (by omega)) (.bv (ev0 fun _=>rfl) (.pure (by rw[if_neg k1,if_neg k2,if_neg k3,if_pos k4]; rfl))))) (fun k4=>?_);rw[if_neg k1,if_neg k2,if_neg k3,if_neg k4];refine .ite (fun k5=>?_) (fun k5=>?_)
  ·obtain⟨x,hx⟩:=ad2 h1 k5;refine Ex.bind (P:=fun s=>s=c.ids.map fun i=>vN (p++Lib.itoa i)) ?_ ?_
   ·refine Ex.dV (I:=fun i q s=>s++(q.map fun i=>vN (p++Lib.itoa i))=(c.ids.map fun i=>vN (p++Lib.itoa i))∧s.length+q.length≤c.ids.length∧∀y∈q,y∈c.ids) ⟨rfl,by simp,fun _ h=>h⟩ ?_ (fun s ⟨h,_⟩=>by simpa using h);rintro i y q s ⟨g1,g2,g3⟩;simp only[List.length_cons] at g2;exact .bv (ev0 fun n=>VI n p hp (Uj y (g3 y List.mem_cons_self))) (.bp _ (cZ (by simp only[List.length_cons,List.length_nil]; omega)) (.pure ⟨by rw[← g1]; simp,by simp only[List.length_append,List.length_cons,List.length_nil]; omega,fun z hz=>g3 z (List.mem_cons_of_mem _ hz)⟩))
   rintro s rfl;rw[hx];refine .bv (ev0 fun n=>Bj n _) (.bp (Ih p x) (abY rfl) (.bv (ev0 fun _=>rfl) (.pure ?_)));rw[if_neg (by omega),if_pos k5]; rfl
  ·rw[if_neg k5];refine .ite (fun k7=>.bv (ev0 fun n=>Bj n _) (.bp _ (cZ (by rw[KQ]; simp only[List.length_cons,List.length_nil]; omega)) (.pure ?_))) (fun k7=>.pure ?_)
   ·rw[if_pos k7]; rfl
   ·rw[if_neg k7]; rfl
theorem VK (p:List UInt8) (hp:p.length≤1):∀(d:Nat) (sc:List Int) (c:Core),wC c≤1000000000→zM d sc c=true→gB (fun n=>qZ n c p) (Ih p c)
 | 0,sc,c,_,h=>by cases h
 | d+1,sc,c,hw,h=>by
  obtain⟨e,s,he,h1,h2,h3,h4,h5⟩:=uK h;cases he;have hwe:=EG c;obtain⟨rfl,Uj⟩:=Fp h4;refine .succ ?_;simp only[qZ];refine Ex.yV ?_;rw[KP];refine .ite (fun k1=>.bv (Rq (Rt h2 k1)) (.bp _ (EI (by have:=Bh (Rt h2 k1); omega)) (.bv (ev0 fun _=>rfl) (.pure (by rw[if_pos k1]; rfl))))) (fun k1=>?_);refine .ite (fun k2=>.bv (ev0 fun _=>rfl) (.pure (by rw[if_neg k1,if_pos k2]; rfl))) (fun k2=>?_);refine .ite (fun k3=>.pure (by rw[if_neg k1,if_neg k2,if_pos k3])) (fun k3=>?_);refine .ite (fun k4=>.bv (ev0 fun _=>rfl) (.bv (IU c.data (by omega)) (.bv (ev0 fun _=>rfl) (.pure (by rw[if_neg k1,if_neg k2,if_neg k3,if_pos k4]; rfl))))) (fun k4=>?_);rw[if_neg k1,if_neg k2,if_neg k3,if_neg k4];refine Ex.bind (P:=fun s=>s=if c.kind=7 then [vN bIf] else []) ?_ ?_
  ·refine .ite (fun k7=>.bv (ev0 fun _=>rfl) (.bp _ (cZ (by simp)) (.pure (by rw[if_pos k7]; rfl)))) (fun k7=>.pure (by rw[if_neg k7]))
  rintro s rfl;have l7:(if c.kind=7 then [vN bIf] else []).length≤1:=by split <;> simp
  generalize (if c.kind=7 then [vN bIf] else [])=a7 at l7 ⊢;refine Ex.bind (P:=fun s=>s=a7++(if c.kind=5 then [vN Rn,OV (c.ids.map fun i=>vN (p++Lib.itoa i))] else [])) ?_ ?_
  ·refine .ite (fun k5=>?_) (fun k5=>.pure (by rw[if_neg k5]; simp));refine Ex.bind (P:=fun s=>s=c.ids.map fun i=>vN (p++Lib.itoa i)) ?_ ?_
   ·refine Ex.dV (I:=fun i q s=>s++(q.map fun i=>vN (p++Lib.itoa i))=(c.ids.map fun i=>vN (p++Lib.itoa i))∧s.length+q.length≤c.ids.length∧∀y∈q,y∈c.ids) ⟨rfl,by simp,fun _ h=>h⟩ ?_ (fun s ⟨h,_⟩=>by simpa using h);rintro i y q s ⟨g1,g2,g3⟩;simp only[List.length_cons] at g2;have hy:=Uj y (g3 y List.mem_cons_self);exact .bv (Rq hy) (.bp _ (EI (by have:=Bh hy; omega)) (.bv (ev0 fun _=>rfl) (.bp _ (cZ (by simp only[List.length_cons,List.length_nil]; omega)) (.pure ⟨by rw[← g1]; simp[vN],by simp only[List.length_append,List.length_cons,List.length_nil]; omega,fun z hz=>g3 z (List.mem_cons_of_mem _ hz)⟩))))
   rintro s rfl;refine .bv (ev0 fun _=>rfl) (.bv (ev0 fun _=>rfl) (.bp _ (cZ (by simp only[List.length_cons,List.length_nil]; omega)) (.pure (by rw[if_pos k5]; rfl))))
  rintro s rfl;have l5:(if c.kind=5 then [vN Rn,OV (c.ids.map fun i=>vN (p++Lib.itoa i))] else []).length≤2:=by split <;> simp
  generalize (if c.kind=5 then [vN Rn,OV (c.ids.map fun i=>vN (p++Lib.itoa i))] else [])=a5 at l5 ⊢;refine Ex.bind (P:=fun s=>s=a7++a5++tu p c.kids) ?_ (fun s hs=>.bv (ev0 fun _=>rfl) (.pure (by rw[hs,List.append_assoc]; rfl)));refine Ex.dV (I:=fun i q s=>s++tu p q=a7++a5++tu p c.kids∧s.length+q.length≤3+c.kids.length∧∀y∈q,y∈c.kids) ⟨rfl,by simp only[List.length_append]; omega,fun _ h=>h⟩ ?_ (fun s ⟨h,_⟩=>by simpa [tu] using h);rintro i x q s ⟨g1,g2,g3⟩;have hx:=g3 x List.mem_cons_self;simp only[List.length_cons] at g2;exact .bv (VK p hp d _ x (by have:=tY hx; omega) (h5 x hx)) (.bp _ (cZ (by simp only[List.length_cons,List.length_nil]; omega)) (.pure ⟨by rw[← g1]; simp[tu],by simp only[List.length_append,List.length_cons,List.length_nil]; omega,fun y hy=>g3 y (List.mem_cons_of_mem _ hy)⟩))
theorem Ru {s:List UInt8} (h:s.length≤1000):okF (vN s):=by simp only[vN,okF,Hu,Ht]; exact⟨by omega,by simp,by simp,trivial⟩
theorem VL:∀{l:List Form},(∀x∈l,okF x)→Hu l
 | [],_=>trivial
 | x::r,h=>by simp only[Hu]; exact⟨h x List.mem_cons_self,VL fun y hy=>h y (List.mem_cons_of_mem _ hy)⟩
theorem ZY {l:List Form} (hl:l.length≤1000000100) (h:∀x∈l,okF x):okF (OV l):=by simp only[OV,okF,Ht]; exact⟨by simp,by simp,by omega,VL h⟩
theorem Rw {p:List UInt8}:∀{l:List Core} {y:Form},y∈tu p l→∃x∈l,y=Ih p x
 | x::r,y,h=>by
  simp only[tu,List.mem_cons] at h;rcases h with h | h
  ·exact⟨x,by simp,h⟩
  ·obtain⟨z,h1,h2⟩:=Rw h; exact⟨z,List.mem_cons_of_mem _ h1,h2⟩
theorem Z4 (p:List UInt8) (hp:p.length≤1):∀(d:Nat) (sc:List Int) (c:Core),wC c≤1000000000→zM d sc c=true→okF (Ih p c)
 | 0,sc,c,_,h=>by cases h
 | d+1,sc,c,hw,h=>by
  obtain⟨e,s,he,h1,h2,h3,h4,h5⟩:=uK h;cases he;have hwe:=EG c;obtain⟨rfl,Uj⟩:=Fp h4;rw[KP];have hn:∀i,1≤i∧i≤999→okF (vN (p++Lib.itoa i)):=fun i hi=>Ru (by have:=Bh hi; simp; omega);split
  ·rename_i k1; exact hn _ (Rt h2 k1)
  split
  ·rename_i k2;refine Ru ?_;unfold RJ at h2;simp only[k2,if_true,Bool.and_eq_true] at h2;have:=KN h2.2.1; omega
  split
  ·simp[okF,Hu,Ht]
  split
  ·refine ZY (by simp) fun x hx=>?_;simp only[List.mem_cons,List.not_mem_nil,or_false] at hx;rcases hx with rfl | rfl
   ·exact Ru (by decide)
   ·exact G9 _ (by omega)
  ·refine ZY ?_ fun x hx=>?_
   ·have l7:(if c.kind=7 then [vN bIf] else []).length≤1:=by split <;> simp
    have l5:(if c.kind=5 then [vN Rn,OV (c.ids.map fun i=>vN (p++Lib.itoa i))] else []).length≤2:=by split <;> simp
    simp only[List.length_append,KQ]; omega
   ·rcases List.mem_append.1 hx with hx | hx
    ·split at hx
     ·rw[List.mem_singleton.1 hx]; exact Ru (by decide)
     ·cases hx
    rcases List.mem_append.1 hx with hx | hx
    ·split at hx
     ·simp only[List.mem_cons,List.not_mem_nil,or_false] at hx;rcases hx with rfl | rfl
      ·exact Ru (by decide)
      ·refine ZY (by rw[List.length_map]; omega) fun y hy=>?_;obtain⟨i,hi,rfl⟩:=List.mem_map.1 hy;exact hn i (Uj i hi)
     ·cases hx
    ·obtain⟨y,hy,rfl⟩:=Rw hx;exact Z4 p hp d _ y (by have:=tY hy; omega) (h5 y hy)
theorem OX:∀a b:List Form,iG (a++b)=iG a+iG b
 | [],b=>by simp[iG]
 | x::a,b=>by simp only[List.cons_append,iG,OX a b]; omega
theorem Nu (s:List UInt8):cF (vN s)=1:=by simp[vN,cF,iG]
theorem Z5 (l:List Form):cF (OV l)=1+iG l:=by simp[OV,cF]
theorem Z7 {α:Type} (g:α→List UInt8):∀l:List α,iG (l.map fun i=>vN (g i))=l.length
 | []=>rfl
 | x::r=>by
  show cF (vN (g x))+iG (r.map fun i=>vN (g i))=_;rw[Nu,Z7 g r,List.length_cons]; omega
mutual
theorem ab4 (p:List UInt8):∀c:Core,cF (Ih p c)≤wC c+4*cC c
 | ⟨k,id,nm,n,ids,dt,kids⟩=>by
  have hk:=Z8 p kids;have hd:=Kq dt;simp only[Ih,wC,cC];split
  ·rw[Nu]; omega
  split
  ·rw[Nu]; omega
  split
  ·simp only[cF,iG]; omega
  split
  ·simp only[Z5,iG,Nu]; omega
  ·have e7:iG (if k=7 then [vN bIf] else [])≤1:=by split <;> simp[iG,Nu]
   have e5:iG (if k=5 then [vN Rn,OV (ids.map fun i=>vN (p++Lib.itoa i))] else [])≤2+ids.length:=by
    split
    ·simp only[iG,Z5,Z7,Nu]; omega
    ·simp[iG]
   rw[Z5,OX,OX]; omega
theorem Z8 (p:List UInt8):∀l:List Core,iG (tu p l)≤xE l+4*Ed l
 | []=>by simp[tu,iG]
 | x::r=>by have:=ab4 p x; have:=Z8 p r; simp only[tu,iG,xE,Ed]; omega
end
theorem afK:∀(d:Nat) (f:Form),IQ d f=true→wF f+1≤40*cF f
 | 0,f,h=>by cases h
 | d+1,f,h=>by
  have e1:=Dh f;have e2:=qC f;have hk:∀l:List Form,(∀x∈l,IQ d x=true)→oQ l+l.length≤40*iG l:=by
   intro l
   induction l with
   | nil=>intro _; simp[oQ]
   | cons x r ih=>
    intro hx;have h1:=afK d x (hx x (by simp));have h2:=ih fun y hy=>hx y (List.mem_cons_of_mem _ hy);simp only[oQ,iG,List.length_cons]; omega
  unfold IQ at h;split at h
  ·simp only[Bool.and_eq_true,decide_eq_true_eq] at h;obtain⟨h1,_,h2,h3⟩:=h;have h1:=KN h1;unfold WW at h2;simp only[Bool.and_eq_true,decide_eq_true_eq] at h2;rw[List.eq_nil_of_length_eq_zero h3] at e1;simp only[oQ,List.length_nil] at e1;omega
  split at h
  ·simp only[Bool.and_eq_true,decide_eq_true_eq] at h;obtain⟨h1,_,h2,h3⟩:=h;rw[h1,List.eq_nil_of_length_eq_zero h2,List.eq_nil_of_length_eq_zero h3] at e1;simp only[oQ,List.length_nil] at e1;omega
  split at h
  ·simp only[Bool.and_eq_true,decide_eq_true_eq,List.all_eq_true] at h;obtain⟨h1,_,h2,h3⟩:=h;have:=hk f.kids h3;rw[h1,List.eq_nil_of_length_eq_zero h2] at e1;simp only[List.length_nil] at e1;omega
  ·cases h
theorem Rx {f:Form} (h:eP f=true):wF f≤16000:=by
 unfold eP at h;rw[Bool.and_eq_true,decide_eq_true_eq] at h;have:=afK 40 f h.1;omega
theorem yF (x:List UInt8):∀a b:List Form,kC (a++b) x=(kC a x||kC b x)
 | [],b=>by simp[kC]
 | y::a,b=>by simp only[List.cons_append,kC,yF x a b,Bool.or_assoc]
theorem Eb (s x:List UInt8):Fj (vN s) x=decide (s=x):=by simp[vN,Fj,kC]
theorem OY (l:List Form) (x:List UInt8):Fj (OV l) x=kC l x:=by simp[OV,Fj]
mutual
def qtB (s:List UInt8):Core→Bool
 | ⟨k,_,_,_,_,dt,kids⟩=>(decide (k=4)&&Fj dt s)||Ii s kids
def Ii (s:List UInt8):List Core→Bool
 | []=>false
 | x::r=>qtB s x||Ii s r
end
theorem Z9 (s:List UInt8) (c:Core):qtB s c=((decide (c.kind=4)&&Fj c.data s)||Ii s c.kids):=by cases c; simp only[qtB]
theorem aac (p:List UInt8) (x:List UInt8):∀(d:Nat) (sc:List Int) (c:Core),zM d sc c=true→x∈Fh c→Fj (Ih p c) x=true
 | 0,sc,c,h,_=>by cases h
 | d+1,sc,c,h,hx=>by
  obtain⟨e,s,he,h1,h2,h3,h4,h5⟩:=uK h;cases he;rw[KJ,List.mem_append] at hx;rw[KP];by_cases k2:c.kind=2
  ·rw[if_neg (by omega),if_pos k2,Eb,decide_eq_true_eq];rw[if_pos k2,ZX h1 (by omega)] at hx;have hx:x=c.name:=by simpa [wP] using hx
   exact hx.symm
  ·rw[if_neg k2] at hx;have hx:x∈wP c.kids:=by simpa using hx
   by_cases kk:c.kind=1∨c.kind=2∨c.kind=3∨c.kind=4
   ·rw[ZX h1 kk] at hx; simp[wP] at hx
   ·rw[if_neg (by omega),if_neg k2,if_neg (by omega),if_neg (by omega),OY,yF,yF];have hk:∀l:List Core,(∀y∈l,y∈c.kids)→x∈wP l→kC (tu p l) x=true:=by
     intro l
     induction l with
     | nil=>intro _ h; simp[wP] at h
     | cons y r ih=>
      intro hl h;simp only[wP,List.mem_append] at h;simp only[tu,kC,Bool.or_eq_true];rcases h with h | h
      ·exact .inl (aac p x d _ y (h5 y (hl y (by simp))) h)
      ·exact .inr (ih (fun z hz=>hl z (List.mem_cons_of_mem _ hz)) h)
    rw[hk _ (fun _ h=>h) hx]; simp
theorem aad (p:List UInt8) (hp:p.length≤1) (x:List UInt8) (hx:5≤x.length) (h6:x≠adY∧x≠Rn∧x≠bIf):∀(d:Nat) (sc:List Int) (c:Core),zM d sc c=true→x∉Fh c→Fj (Ih p c) x=true→qtB x c=true
 | 0,sc,c,h,_,_=>by cases h
 | d+1,sc,c,h,hn,hh=>by
  obtain⟨e,s,he,h1,h2,h3,h4,h5⟩:=uK h;cases he;obtain⟨rfl,Uj⟩:=Fp h4;rw[KJ,List.mem_append,not_or] at hn;rw[KP] at hh;rw[Z9];have hno:∀i,1≤i∧i≤999→¬(p++Lib.itoa i=x):=fun i hi e=>by
   have:=Bh hi;rw[← e,List.length_append] at hx; omega
  split at hh
  ·rename_i k1;rw[Eb,decide_eq_true_eq] at hh;exact absurd hh (hno _ (Rt h2 k1))
  split at hh
  ·rename_i k2;rw[Eb,decide_eq_true_eq] at hh;rw[if_pos k2] at hn;exact absurd (by simp[hh]) hn.1
  split at hh
  ·simp[Fj,kC] at hh
  split at hh
  ·rename_i k4;rw[OY] at hh;simp only[kC,Eb,Bool.or_eq_true,decide_eq_true_eq,Bool.or_false] at hh;rcases hh with hh | hh
   ·exact absurd hh.symm h6.1
   ·simp[k4,hh]
  ·rw[OY,yF,yF,Bool.or_eq_true,Bool.or_eq_true] at hh;rw[Bool.or_eq_true];right;rcases hh with hh | hh | hh
   ·split at hh
    ·simp only[kC,Eb,Bool.or_false,decide_eq_true_eq] at hh;exact absurd hh.symm h6.2.2
    ·simp[kC] at hh
   ·split at hh
    ·simp only[kC,Eb,OY,Bool.or_false,Bool.or_eq_true,decide_eq_true_eq] at hh;rcases hh with hh | hh
     ·exact absurd hh.symm h6.2.1
     ·exfalso;have hq:∀l:List Int,(∀i∈l,i∈c.ids)→kC (l.map fun i=>vN (p++Lib.itoa i)) x=false:=by
       intro l
       induction l with
       | nil=>intro _; rfl
       | cons i r ih=>
        intro hl;simp only[List.map_cons,kC,Eb];rw[ih fun z hz=>hl z (List.mem_cons_of_mem _ hz),decide_eq_false (hno i (Uj i (hl i (by simp))))]; rfl
      rw[hq _ fun _ h=>h] at hh; cases hh
    ·simp[kC] at hh
   ·have hk:∀l:List Core,(∀y∈l,y∈c.kids)→x∉wP l→kC (tu p l) x=true→Ii x l=true:=by
     intro l
     induction l with
     | nil=>intro _ _ h; simp[tu,kC] at h
     | cons y r ih=>
      intro hl hm h;simp only[wP,List.mem_append,not_or] at hm;simp only[tu,kC,Bool.or_eq_true] at h;simp only[Ii,Bool.or_eq_true];rcases h with h | h
      ·exact .inl (aad p hp x hx h6 d _ y (h5 y (hl y (by simp))) hm.1 h)
      ·exact .inr (ih (fun z hz=>hl z (List.mem_cons_of_mem _ hz)) hm.2 h)
    exact hk _ (fun _ h=>h) hn.2 hh
theorem VN (x:List UInt8) (f:Form) (w:Nat) (hw:w+cF f≤1000000000):gB (fun n=>dN n f x (w:Int)) ((w+cnN f x:Nat):Int):=by
 have hc:=qC f;have hu:=(Cj f x).2;refine .succ ?_;simp only[dN,qj,EK];refine Ex.yV ?_;refine Ex.bind (P:=fun s=>s=((w+(if f.kind=1∧f.name=x then 1 else 0):Nat):Int)) ?_ ?_
 ·refine Ex.bind (P:=fun o=>o=decide (f.kind=1∧f.name=x)) ?_ ?_
  ·refine Ex.bind (P:=fun o=>o=decide (f.kind=1∧f.name=x)) ?_ (fun o ho=>.pure ho);by_cases h:f.kind=1
   ·exact .pos h (.pure (by simp[h]))
   ·exact .neg h (.pure (by simp[h]))
  rintro o rfl;by_cases h:f.kind=1∧f.name=x
  ·refine .pos (by simpa using h) (.pure ?_);rw[if_pos h,jW (by omega) (by omega)]; omega
  ·refine .neg (by simpa using h) (.pure ?_);rw[if_neg h]; rfl
 rintro s rfl;refine Ex.bind (P:=fun s=>s=((w+cnN f x:Nat):Int)) ?_ (fun s hs=>.pure hs);refine Ex.dV (I:=fun i q s=>∃v:Nat,s=(v:Int)∧v+LU q x=w+cnN f x∧v+iG q≤1000000000∧∀y∈q,y∈f.kids) ⟨_,rfl,by rw[adX]; omega,by split <;> omega,fun _ h=>h⟩ ?_ ?_
 ·rintro i y q s ⟨v,rfl,h1,h2,h3⟩;have g4:=h3 y (List.mem_cons_self);have hx:=(Cj y x).2;simp only[LU,iG] at h1 h2;exact .bv (VN x y v (by omega)) (.pure ⟨_,rfl,by omega,by omega,fun z hz=>h3 z (List.mem_cons_of_mem _ hz)⟩)
 ·rintro s ⟨v,rfl,h1,_,_⟩;simp only[LU] at h1;rw[← h1]; rfl
termination_by SizeOf.sizeOf f
decreasing_by exact jo g4
theorem KR (x:List UInt8) (f:Form) (hw:cF f≤1000000000):gB (fun n=>lQ n f x) (cnN f x:Int):=by
 have h:=VN x f 0 (by omega);rw[Nat.zero_add] at h;exact Ex.yV (.bv h (.pure rfl))
theorem VO (x:List UInt8) (c:Core) (hw:wC c≤900000000):gB (fun n=>pU n c x) (qtB x c):=by
 have hwe:=EG c;have hcd:=Kq c.data;refine .succ ?_;simp only[pU];refine Ex.yV ?_;refine Ex.bind (P:=fun o=>o=(decide (c.kind=4)&&Fj c.data x)) ?_ ?_
 ·refine .ite (fun k4=>.bv (KR x c.data (by omega)) (.pure ?_)) (fun k4=>.pure (by simp[k4]));have h:=(Cj c.data x).1;rw[Bool.eq_iff_iff];simp only[decide_eq_true_eq,k4,decide_true,Bool.true_and];rw[← h]; omega
 rintro o rfl;rw[Z9];cases ho:(decide (c.kind=4)&&Fj c.data x) with
 | true=>exact .pos rfl (.pure (by simp))
 | false=>
  refine .neg (by simp) ?_;refine Ex.bn (P:=fun o=>match o with
   | .inl w=>w=true∧Ii x c.kids=true
   | .inr _=>Ii x c.kids=false) ?_ ?_ ?_
  ·refine Ex.bI (I:=fun i q s=>(Ii x c.kids=Ii x q)∧∀y∈q,y∈c.kids) ⟨rfl,fun _ h=>h⟩ ?_ ?_
   ·rintro i y q s ⟨h1,h3⟩;have g4:=h3 y (List.mem_cons_self);refine .bv (VO x y (by have:=tY g4; omega)) ?_;simp only[Ii] at h1;cases hy:qtB x y with
    | true=>exact .pos rfl (.fo ⟨rfl,by rw[h1,hy]; rfl⟩)
    | false=>exact .neg (by simp) (.fg ⟨by rw[h1,hy]; rfl,fun z hz=>h3 z (List.mem_cons_of_mem _ hz)⟩)
   ·rintro s ⟨h1,_⟩
    simpa [Ii] using h1
  ·rintro w ⟨rfl,h1⟩; simp[h1]
  ·rintro ⟨⟩ h1;have h1:Ii x c.kids=false:=h1;exact .pure (by simp[h1])
termination_by SizeOf.sizeOf c
decreasing_by exact yT g4
theorem ad3 (n:Nat) (l:List (List UInt8)):bJ n l=some (l.any fun x=>decide (x∈RG)):=by
 unfold bJ dH;have e:∀x:List UInt8,iZ n x=some (decide (x∈RG)):=fun x=>by
  unfold iZ;rw[KH]; rfl
 have main:∀(l:List (List UInt8)) (i:Nat),∃k:Int,bn (Mx.bI (fun(_:Unit) (i:Nat) (y:List UInt8)=>((iZ n y).bind fun k=>(if k=true then some (Sum.inl (i:Int)) else some (Sum.inr ())):Option (Int⊕Unit))) i l ()) (fun _=>some (-1))=some k∧(k≥0↔(l.any fun x=>decide (x∈RG))=true):=by
  intro l
  induction l with
  | nil=>intro i; exact⟨-1,rfl,by simp⟩
  | cons y r ih=>
   intro i;have ey:=e y;cases h:decide (y∈RG) with
   | true=>rw[h] at ey; exact⟨(i:Int),by simp[Mx.bI,Mx.bn,ey],by rw[List.any_cons,h,Bool.true_or]; exact⟨fun _=>rfl,fun _=>by omega⟩⟩
   | false=>
    rw[h] at ey;obtain⟨k,h1,h2⟩:=ih (i+1);refine⟨k,?_,by rw[h2]; simp[h]⟩;rw[← h1];simp[Mx.bI,ey]
 obtain⟨k,h1,h2⟩:=main l 0;rw[h1,Option.bind_some];congr 1;rw[Bool.eq_iff_iff,decide_eq_true_eq]; exact h2
theorem ad4 (n:Nat) (x:List UInt8) (hx:1≤x.length):lF n x=some (decide (x∈RG)):=by
 unfold lF qO;rw[Option.bind_some,ZT,Option.bind_some];congr 1;rw[Bool.eq_iff_iff,decide_eq_true_eq,decide_eq_true_eq];have hne:x≠[]:=fun e=>by rw[e] at hx; simp at hx
 show x∈[]::RG↔_;simp[hne]
def Xo (c:Core) (r:List UInt8×Bool):Form×Bool:=if r.2=true then(if((Fh c).foldl zH []).any (fun x=>decide (x∈RG))=true then(zF,false) else if eP (Ih r.1 c)=true then(Ih r.1 c,true) else(zF,false)) else(zF,false)
theorem KT {c:Core} {r:List UInt8×Bool} (hr:Xn c r) (h2:r.2=true):lH c=true∧r.1.length≤1:=by
 unfold Xn at hr;split at hr
 ·rename_i hv;refine⟨hv,?_⟩;rcases hr with ⟨i,hi,rfl,_⟩ | ⟨rfl,_⟩
  ·rw[Ui i hi]; simp
  ·cases h2
 ·subst hr; cases h2
theorem ad5 (c:Core) (hw:wC c≤700000000) {r:List UInt8×Bool} (hr:Xn c r):gB (fun n=>oq n c) (Xo c r):=by
 have hcl:=Ky c;unfold oq Xo;refine Ex.yV (.bind (ZV c hw) fun r' hr'=>?_);obtain rfl:=hr.uniq hr';cases h2:r.2 with
 | false=>exact .bv (a:=true) (.pos rfl (.const rfl)) (.pos rfl (.pure (by simp[zF])))
 | true=>
  obtain⟨hv,hp⟩:=KT hr h2;have hcr:zM 120 [] c=true:=by unfold lH at hv; rw[Bool.and_eq_true] at hv; exact hv.1
  refine .bind (P:=fun o=>o=((Fh c).foldl zH []).any (fun x=>decide (x∈RG))) (.neg (by simp) (.bv (Ea c (by omega)) (.bv (ev0 fun n=>ad3 n _) (.pure rfl)))) ?_;rintro o rfl;rw[if_pos rfl];refine .ite (fun h=>.pure (by rw[if_pos h]; rfl)) (fun h=>?_);rw[if_neg h];refine .bv (VJ r.1 hp 120 [] c (by omega) hcr) ?_;unfold BU;refine Ex.bind (P:=fun q=>q=if eP (Ih r.1 c)=true then(Ih r.1 c,true) else(zF,false)) ?_ (fun q hq=>.pure (by rw[hq]));refine .bv (Ox _ (Z4 r.1 hp 120 [] c (by omega) hcr)) ?_;cases hvf:eP (Ih r.1 c) with
  | false=>exact .pos rfl (.pure rfl)
  | true=>exact .neg (by simp) (.bv (OG _ (by have:=Rx hvf; omega)) (.pure rfl))
theorem ad6 (c:Core) (hw:wC c≤700000000) {r:List UInt8×Bool} (hr:Xn c r):gB (fun n=>oK n c) (Xo c r):=by
 have hcl:=Ky c;unfold oK Xo;refine Ex.yV (.bind (adW c hw) fun r' hr'=>?_);obtain rfl:=hr.uniq hr';cases h2:r.2 with
 | false=>exact .pos rfl (.pure (by simp[zF]))
 | true=>
  obtain⟨hv,hp⟩:=KT hr h2;have hcr:zM 120 [] c=true:=by unfold lH at hv; rw[Bool.and_eq_true] at hv; exact hv.1
  have hvn:=Bg hv;refine .neg (by simp) ?_;have hfr:gB (fun n=>qX n c) ((Fh c).foldl zH []):=by
   unfold qX;exact Ex.yV (.bv (Gq c [] (by simp; omega)) (.pure rfl))
  refine .bv hfr ?_;rw[if_pos rfl];generalize hL:(Fh c).foldl zH []=L at hvn ⊢;refine Ex.bn (P:=fun o=>match o with
   | .inl w=>w=(zF,false)∧L.any (fun x=>decide (x∈RG))=true
   | .inr _=>L.any (fun x=>decide (x∈RG))=false) ?_ ?_ ?_
  ·refine Ex.bI (I:=fun i q s=>(L.any (fun x=>decide (x∈RG))=q.any (fun x=>decide (x∈RG)))∧∀y∈q,y∈L) ⟨rfl,fun _ h=>h⟩ ?_ ?_
   ·rintro i y q s ⟨h1,h3⟩;refine .bv (ev0 fun n=>ad4 n y (hvn y (h3 y List.mem_cons_self)).1) ?_;simp only[List.any_cons] at h1;cases hy:decide (y∈RG) with
    | true=>exact .pos rfl (.fo ⟨rfl,by rw[h1,hy]; rfl⟩)
    | false=>exact .neg (by simp) (.fg ⟨by rw[h1,hy]; rfl,fun z hz=>h3 z (List.mem_cons_of_mem _ hz)⟩)
   ·rintro s ⟨h1,_⟩
    simpa using h1
  ·rintro w ⟨rfl,h1⟩; rw[if_pos h1]
  ·rintro ⟨⟩ h1;have h1:L.any (fun x=>decide (x∈RG))=false:=h1;rw[if_neg (by simp[h1])];have hcu:=ab4 r.1 c;refine .bv (VK r.1 hp 120 [] c (by omega) hcr) (.bv (EZ _ (Z4 r.1 hp 120 [] c (by omega) hcr) (by omega)) ?_);cases hvf:eP (Ih r.1 c) with
   | false=>exact .pos rfl (.pure rfl)
   | true=>exact .neg (by simp) (.pure rfl)
theorem Ry:∀(l w:List (List UInt8)) {x:List UInt8},x∈w→x∈l.foldl zH w
 | [],w,x,h=>h
 | y::r,w,x,h=>by
  rw[List.foldl_cons];refine Ry r _ ?_;unfold zH; split
  ·exact h
  ·exact List.mem_append.2 (.inl h)
theorem Rz:∀{l w:List (List UInt8)} {x:List UInt8},x∈l→x∈l.foldl zH w
 | y::r,w,x,h=>by
  rw[List.foldl_cons];rcases List.mem_cons.1 h with rfl | h
  ·refine Ry r _ ?_;unfold zH; split
   ·assumption
   ·simp
  ·exact Rz h
theorem aae (b:List UInt8):Ex (fun n=>jl n b) (fun c=>wC c≤600000200):=by
 unfold jl;refine .bind (ZW b) fun k1 h1=>.bind (OH b) fun k2 g=>.bind (iU g (by omega)) fun k3 h3=>?_;refine .ite (fun _=>.pure ?_) (fun _=>.pure (by omega));simp only[wC,xE,wF,oQ,List.length_cons,List.length_nil];omega
theorem KU (b:List UInt8):gB (fun n=>oM n b) true:=by
 refine Ex.yV ?_;unfold oM;refine .ite (fun _=>.pure rfl) (fun _=>.bind (aae b) fun c hw=>?_);have hcl:=Ky c;obtain⟨r,_,hr⟩:=ZV c (by omega);refine .bv (ad5 c (by omega) hr) (.bv (ad6 c (by omega) hr) ?_);have hs:gB (fun n=>iF n (Xo c r).1 (Xo c r).1) true:=by
  have:=OA (Xo c r).1 (Xo c r).1;rw[KO] at this; exact this
 refine Ex.bind (P:=fun o=>o=!(Xo c r).2) (.bv hs (.neg (by simp) (.neg (by simp) (.pure rfl)))) ?_;rintro o rfl;cases h2:(Xo c r).2 with
 | false=>exact .pos rfl (Ex.bind (P:=fun o=>o=true) (.bv hs (.pos rfl (.pure (by simp)))) fun o ho=>.pure ho)
 | true=>
  refine .neg (by simp) (.bv (Ea c (by omega)) ?_);obtain⟨hr2,hl,hvf,e⟩:r.2=true∧((Fh c).foldl zH []).any (fun x=>decide (x∈RG))=false∧eP (Ih r.1 c)=true∧(Xo c r).1=Ih r.1 c:=by
   unfold Xo at h2 ⊢;split at h2
   ·rename_i g1;split at h2
    ·cases h2
    ·rename_i g2;split at h2
     ·rename_i g3; exact⟨g1,by simpa using g2,g3,by rw[if_pos g1,if_neg g2,if_pos g3]⟩
     ·cases h2
   ·cases h2
  obtain⟨hv,hp⟩:=KT hr hr2;have hcr:zM 120 [] c=true:=by unfold lH at hv; rw[Bool.and_eq_true] at hv; exact hv.1
  rw[e];have hcf:cF (Ih r.1 c)≤1000000000:=by have:=Kq (Ih r.1 c); have:=Rx hvf; omega
  refine Ex.bn (P:=fun o=>match o with
   | .inl w=>False
   | .inr _=>True) ?_ ?_ ?_
  ·refine Ex.bI (I:=fun i q s=>∀y∈q,y∈Fh c) (fun y hy=>(KL _ _ hy).resolve_left (by simp)) ?_ (fun _ _=>trivial);rintro i x q s h3;refine .bv (KR x _ hcf) (.neg ?_ (.fg fun y hy=>h3 y (List.mem_cons_of_mem _ hy)));have:=(Cj (Ih r.1 c) x).1.2 (aac r.1 x 120 [] c hcr (h3 x List.mem_cons_self));omega
  ·intro w hw; exact hw.elim
  ·rintro ⟨⟩ _;refine Ex.bind (P:=fun o=>o=true) (.bv (KR _ _ hcf) (.ite (fun _=>.pure rfl) (fun hne=>.bv (VO _ c (by omega)) (.pure ?_)))) (fun o ho=>.pure ho);refine aad r.1 hp fP (by decide) (by decide) 120 [] c hcr (fun hm=>?_) ((Cj _ _).1.1 (by omega));rw[List.any_eq_false] at hl;exact hl _ (Rz hm) (by decide)
theorem LV (l:List Int) (h:l.length≤maxLen∧∀a∈l,(Lit.int .u8 a).wf=true):Mx.vT X.E 4 [.sl 1 .ro (l.map fun i=>[.v (.int .u8 i)])] [] fun d _=>d=.v (.bool true):=by
 obtain⟨N,hN⟩:=KU (toB l);exact WH (EY N (toB l) (hN N (Nat.le_refl _))) (by simp only[ED.DL,ED.D,KD.D,aaY h.2]; rfl)
end Go.Ev
