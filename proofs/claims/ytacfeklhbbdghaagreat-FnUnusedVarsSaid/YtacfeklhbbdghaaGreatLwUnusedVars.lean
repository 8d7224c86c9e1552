/- Plain laws of models. No condition. -/
import Derived.Test.YtacfeklhbbdghaaGreatMdUnusedVars
import Derived.Test.YtacfeklhbbdghaaGreatEvTri
namespace Go.Ev
open Go.Mx (KD ED aB dY bV bH iterM)
set_option linter.unusedVariables false
set_option linter.unusedSimpArgs false
theorem gG.scan {ω:Type} {step:Nat→Int→Option (ω⊕Int)} {p:Nat→Bool} {L:Nat} {no yes:ω} (h1:∀i,i<L→p i=true→gG (fun n=>step n (i:Int)) (.inr ((i+1:Nat):Int))) (h2:∀i,i<L→p i=false→gG (fun n=>step n (i:Int)) (.inl no)) (h3:gG (fun n=>step n (L:Int)) (.inl yes)) :
  gG (fun n=>iterM n (step n) 0) (if(List.range L).all p=true then yes else no):=by
 obtain⟨w,k1,k2⟩:=Vm (step:=step) (fun s=>L-s.toNat) (fun s=>∃i:Nat,i≤L∧s=i∧∀j,j<i→p j=true) (fun w=>w=if(List.range L).all p=true then yes else no) (fun s ⟨i,i1,i2,i3⟩=>by
  subst i2;rcases Nat.lt_or_ge i L with h | h
  ·cases hp:p i with
   | true=>exact .inr ⟨_,h1 i h hp,⟨i+1,by omega,rfl,fun j hj=>by rcases Nat.lt_or_eq_of_le (Nat.le_of_lt_succ hj) with q | q; exact i3 j q; rw[q]; exact hp⟩,by simp; omega⟩
   | false=>
    refine .inl ⟨_,h2 i h hp,?_⟩;rw[if_neg];intro hall;rw[List.all_eq_true] at hall;rw[hall i (List.mem_range.2 h)] at hp; cases hp
  ·have:i=L:=by omega
   subst this;refine .inl ⟨_,h3,?_⟩;rw[if_pos];rw[List.all_eq_true];exact fun j hj=>i3 j (List.mem_range.1 hj)) 0 ⟨0,Nat.zero_le _,rfl,fun j hj=>by omega⟩
 exact k2▸k1
theorem adf {α ω:Type} {step:Unit→Nat→α→Option (ω⊕Unit)} {p:α→Bool} {no:ω} {f:Unit→Option ω}:∀{xs:List α} {i:Nat},(∀i x,x∈xs→step () i x=if p x=true then some (.inr ()) else some (.inl no))→bH (Mx.bV step i xs ()) f=if xs.all p=true then f () else some no
 | [],i,_=>by simp[Mx.bV,Mx.bH]
 | x::r,i,h=>by
  have hx:=h i x (List.mem_cons_self);have ih:=adf (step:=step) (p:=p) (no:=no) (f:=f) (xs:=r) (i:=i+1) (fun i y hy=>h i y (List.mem_cons_of_mem _ hy));simp only[Mx.bV,hx,List.all_cons,Bool.and_eq_true];cases hp:p x with
  | true=>simpa [hp] using ih
  | false=>simp[Mx.bH]
theorem ig {i:Nat} (h:i<9223372036854775807):aY ((i:Int)+1)=((i+1:Nat):Int):=by rw[kK (by omega) (by omega)]; omega
theorem ZR {α ω:Type} {step:Unit→Nat→α→Option (ω⊕Unit)} {p:Nat→Bool} {no:ω} {f:Unit→Option ω}:∀{xs:List α} {i:Nat},(∀j x,xs[j]? = some x→step () (i+j) x=if p (i+j)=true then some (.inr ()) else some (.inl no))→bH (Mx.bV step i xs ()) f=if(List.range xs.length).all (fun j=>p (i+j))=true then f () else some no
 | [],i,_=>by simp[Mx.bV,Mx.bH]
 | x::r,i,h=>by
  have hx:=h 0 x rfl;have ih:=ZR (step:=step) (p:=p) (no:=no) (f:=f) (xs:=r) (i:=i+1) (fun j y hy=>by have:=h (j+1) y (by simpa using hy); rwa [show i+(j+1)=i+1+j by omega] at this);simp only[Nat.add_zero] at hx;simp only[Mx.bV,hx,List.length_cons,List.range_succ_eq_map,List.all_cons,List.all_map,Bool.and_eq_true,Nat.add_zero];have e:((fun j=>p (i+j))∘Nat.succ)=fun j=>p (i+1+j):=by funext j; simp only[Function.comp]; congr 1; omega
  rw[e];cases hp:p i with
  | true=>simpa [hp] using ih
  | false=>simp[Mx.bH]
def Q5 (c:UInt8):Bool:=(decide (97≤c.toNat)&&decide (c.toNat≤122))||c==42||c==63||c==61||c==43||c==60
def ZT (c:UInt8):Bool:=(decide (48≤c.toNat)&&decide (c.toNat≤57))||c==45
def JR (s:List UInt8) (i:Nat):Bool:=match s[i]? with
 | some c=>Q5 c||(!(i==0)&&ZT c)
 | none=>false
def nameB (s:List UInt8):Bool:=(decide (s=[46,46,46])||decide (s=[95]))||((List.range s.length).all (JR s)&&(decide (1≤s.length)&&decide (s.length≤12)))
theorem Gw {c d:UInt8}:c=d↔c.toNat=d.toNat:=⟨fun h=>by rw[h],fun h=>UInt8.toNat_inj.1 h⟩
theorem Oy (y:UInt8):((if(y.toNat:Int)≥48 then(if(y.toNat:Int)≤57 then some true else some (decide ((y.toNat:Int)=45))) else some (decide ((y.toNat:Int)=45))):Option Bool)=some (ZT y):=by
 have e:decide ((y.toNat:Int)=45)=(y==45):=by
  by_cases h:y=45
  ·subst h; rfl
  ·have:¬(y.toNat:Int)=45:=fun h'=>h (Gw.2 (by show y.toNat=45; omega));simp[h,this]
 rw[e];unfold ZT;by_cases h1:(y.toNat:Int)≥48
 ·rw[if_pos h1];by_cases h2:(y.toNat:Int)≤57
  ·rw[if_pos h2]; simp[show 48≤y.toNat by omega,show y.toNat≤57 by omega]
  ·rw[if_neg h2]; simp[show ¬y.toNat≤57 by omega]
 ·rw[if_neg h1]; simp[show ¬48≤y.toNat by omega]
theorem MN (n:Nat) (a b c:Int):iV n a b c=some (decide (b≤a)&&decide (a≤c)):=by
 unfold iV;by_cases h:a≥b
 ·rw[if_pos h]; simp[show b≤a from h]
 ·rw[if_neg h]; simp[show ¬b≤a from h]
theorem ZU:∀(l:List UInt8) (c:UInt8),0≤Lib.indexByte l c↔c∈l
 | [],c=>by simp[Lib.indexByte]
 | b::l,c=>by
  have ih:=ZU l c;have hg:=Lib.indexByte_ge l c;unfold Lib.indexByte;by_cases hb:b=c
  ·subst hb; simp
  ·have hb':(b==c)=false:=by simpa using hb
   rw[hb',List.mem_cons,← ih];have hbc:¬c=b:=fun h=>hb h.symm;simp only[Bool.false_eq_true,if_false,hbc,false_or];by_cases h1:Lib.indexByte l c=-1
   ·simp[h1]
   ·simp only[beq_iff_eq,h1,if_false]; omega
theorem aeP (l:List UInt8) (c:UInt8):decide (Lib.indexByte l c≥0)=l.contains c:=by
 rw[Bool.eq_iff_iff]; simp only[decide_eq_true_eq,List.contains_iff_mem]; exact ZU l c
theorem aeQ (y:UInt8):((if(y.toNat:Int)≥97 then(if(y.toNat:Int)≤122 then some true else some (decide (Lib.indexByte [42,63,61,43,60] y≥0))) else some (decide (Lib.indexByte [42,63,61,43,60] y≥0))):Option Bool)=some (Q5 y):=by
 have e:decide (Lib.indexByte [42,63,61,43,60] y≥0)=(y==42||y==63||y==61||y==43||y==60):=by
  rw[aeP]; simp only[List.contains_cons,List.contains_nil,Bool.or_false,Bool.or_assoc]
 rw[e];unfold Q5;by_cases h1:(y.toNat:Int)≥97
 ·rw[if_pos h1];by_cases h2:(y.toNat:Int)≤122
  ·rw[if_pos h2];simp[show 97≤y.toNat by omega,show y.toNat≤122 by omega]
  ·rw[if_neg h2];simp[show ¬y.toNat≤122 by omega]
 ·rw[if_neg h1];simp[show ¬97≤y.toNat by omega]
theorem acp (y:UInt8):((y.toNat:Int).toNat).toUInt8=y:=by
 rw[Int.toNat_natCast]; exact UInt8.ofNat_toNat
theorem VF (s:List UInt8) (hs:s.length≤Kt):gG (fun n=>lN n s) (nameB s):=by
 unfold Kt at hs;unfold lN;simp only[strings_IndexByte,acp,Option.bind_some,aeQ,Oy];by_cases h0:s=[46,46,46]
 ·simp only[h0,if_true,Option.bind_some]; exact .pure _
 rw[if_neg h0];simp only[Option.bind_some];by_cases h1:s=[95]
 ·simp only[h1,decide_true,if_true]; exact .pure _
 simp only[h1,decide_false,Bool.false_eq_true,if_false];have e:nameB s=if(List.range s.length).all (JR s)=true then(decide (1≤s.length)&&decide (s.length≤12)) else false:=by
  unfold nameB; simp only[h0,h1,decide_false,Bool.false_or,Bool.or_self];cases (List.range s.length).all (JR s) <;> simp
 rw[e];refine gG.scan (L:=s.length) (p:=JR s) (fun i hi hp=>?_) (fun i hi hp=>?_) ?_
 ·refine .pos (by omega) ?_;have hy:=List.getElem?_eq_getElem hi;unfold JR at hp;rw[hy] at hp;simp only at hp;refine gG.const ?_;rw[dZ hy];simp only[Option.bind_some];cases hc:Q5 s[i] with
  | true=>simp only[if_true,Mx.bH,Option.bind_some,ig (i:=i) (by omega)]
  | false=>
   rw[hc,Bool.false_or,Bool.and_eq_true] at hp;have hi0:(i:Int)>0:=by
    have:i≠0:=by simpa using hp.1
    omega
   simp only[Bool.false_eq_true,if_false,if_pos hi0,Oy,hp.2,Option.bind_some,if_true,Mx.bH,ig (i:=i) (by omega)]
 ·refine .pos (by omega) ?_;have hy:=List.getElem?_eq_getElem hi;unfold JR at hp;rw[hy] at hp;simp only[Bool.or_eq_false_iff] at hp;refine gG.const ?_;rw[dZ hy];simp only[Option.bind_some,hp.1,Bool.false_eq_true,if_false];by_cases hi0:(i:Int)>0
  ·have:(i==0)=false:=by simp; omega
   have hd:ZT s[i]=false:=by simpa [this] using hp.2
   simp only[if_pos hi0,Oy,hd,Option.bind_some,Bool.false_eq_true,if_false,Mx.bH]
  ·simp only[if_neg hi0,Option.bind_some,Bool.false_eq_true,if_false,Mx.bH]
 ·refine .neg (by omega) ?_;simp only[MN,Option.bind_some];refine .const ?_;have a1:decide ((1:Int)≤(s.length:Int))=decide (1≤s.length):=by simp only[decide_eq_decide]; omega
  have a2:decide ((s.length:Int)≤12)=decide (s.length≤12):=by simp only[decide_eq_decide]; omega
  rw[a1,a2]
theorem agZ (n:Nat) (y:UInt8) (f:Bool):rJ n (y.toNat:Int) f=some (Q5 y||(!f&&ZT y)):=by
 unfold rJ;simp only[Oy];have q:∀k:Nat,decide ((y.toNat:Int)=(k:Int))=decide (y.toNat=k):=fun k=>by simp only[decide_eq_decide]; omega
 have e:((if(y.toNat:Int)=42 then some true else(if(y.toNat:Int)=63 then some true else(if(y.toNat:Int)=61 then some true else(if(y.toNat:Int)=43 then some true else some (decide ((y.toNat:Int)=60)))))):Option Bool)=some (y==42||y==63||y==61||y==43||y==60):=by
  have w:∀(k:Nat) (d:UInt8),d.toNat=k→((y.toNat:Int)=(k:Int)↔y=d):=fun k d hd=>by rw[Gw,hd]; omega
  have w1:(y.toNat:Int)=42↔y=42:=w 42 42 rfl;have w2:(y.toNat:Int)=63↔y=63:=w 63 63 rfl;have w3:(y.toNat:Int)=61↔y=61:=w 61 61 rfl;have w4:(y.toNat:Int)=43↔y=43:=w 43 43 rfl;have w5:(y.toNat:Int)=60↔y=60:=w 60 60 rfl;by_cases h1:y=42
  ·rw[if_pos (w1.2 h1),h1]; rfl
  rw[if_neg (fun h=>h1 (w1.1 h))];by_cases h2:y=63
  ·rw[if_pos (w2.2 h2),h2]; rfl
  rw[if_neg (fun h=>h2 (w2.1 h))];by_cases h3:y=61
  ·rw[if_pos (w3.2 h3),h3]; rfl
  rw[if_neg (fun h=>h3 (w3.1 h))];by_cases h4:y=43
  ·rw[if_pos (w4.2 h4),h4]; rfl
  rw[if_neg (fun h=>h4 (w4.1 h))];have:decide ((y.toNat:Int)=60)=(y==60):=by rw[Bool.eq_iff_iff]; simp only[decide_eq_true_eq,beq_iff_eq]; exact w5
  rw[this];simp[h1,h2,h3,h4]
 rw[e];have e2:((if(y.toNat:Int)≥97 then(if(y.toNat:Int)≤122 then some true else some (y==42||y==63||y==61||y==43||y==60)) else some (y==42||y==63||y==61||y==43||y==60)):Option Bool)=some (Q5 y):=by
  unfold Q5;by_cases h1:(y.toNat:Int)≥97
  ·rw[if_pos h1];by_cases h2:(y.toNat:Int)≤122
   ·rw[if_pos h2]; simp[show 97≤y.toNat by omega,show y.toNat≤122 by omega]
   ·rw[if_neg h2]; simp[show ¬y.toNat≤122 by omega]
  ·rw[if_neg h1]; simp[show ¬97≤y.toNat by omega]
 rw[e2];cases Q5 y <;> cases f <;> simp
theorem Hz (s:List UInt8) (hs:s.length≤Kt):gG (fun n=>jf n s) (nameB s):=by
 unfold Kt at hs;unfold jf;simp only[agZ,Option.bind_some];by_cases h0:s=[46,46,46]
 ·simp only[h0,if_true,Option.bind_some]; exact .pure _
 rw[if_neg h0];simp only[Option.bind_some];by_cases h1:s=[95]
 ·simp only[h1,decide_true,if_true]; exact .pure _
 simp only[h1,decide_false,Bool.false_eq_true,if_false];have hb:nameB s=if(List.range (min s.length 13)).all (JR s)=true then(decide (1≤s.length)&&decide (s.length≤12)) else false:=by
  unfold nameB; simp only[h0,h1,decide_false,Bool.false_or,Bool.or_self];by_cases hl:s.length≤12
  ·rw[Nat.min_eq_left (by omega)];cases (List.range s.length).all (JR s) <;> simp
  ·simp[hl]
 rw[hb];refine gG.scan (L:=min s.length 13) (p:=JR s) (fun i hi hp=>?_) (fun i hi hp=>?_) ?_
 ·have hi':i<s.length:=by omega
  have hy:=List.getElem?_eq_getElem hi';unfold JR at hp;rw[hy] at hp;simp only at hp;refine gG.const ?_;have c1:(i:Int)<(s.length:Int):=by omega
  have c2:decide ((i:Int)≤12)=true:=by simp; omega
  have c3:decide ((i:Int)=0)=(i==0):=by rw[Bool.eq_iff_iff]; simp
  rw[if_pos c1,c2,c3];simp only[Option.bind_some,if_true,dZ hy,hp,Bool.not_true,Bool.false_eq_true,if_false,ig (i:=i) (by omega)]
 ·have hi':i<s.length:=by omega
  have hy:=List.getElem?_eq_getElem hi';unfold JR at hp;rw[hy] at hp;simp only at hp;refine gG.const ?_;have c1:(i:Int)<(s.length:Int):=by omega
  have c2:decide ((i:Int)≤12)=true:=by simp; omega
  have c3:decide ((i:Int)=0)=(i==0):=by rw[Bool.eq_iff_iff]; simp
  rw[if_pos c1,c2,c3];simp only[Option.bind_some,if_true,dZ hy,hp,Bool.not_false]
 ·refine gG.const ?_;have e:((if((min s.length 13:Nat):Int)<(s.length:Int) then some (decide (((min s.length 13:Nat):Int)≤12)) else some false):Option Bool)=some false:=by
   by_cases h:((min s.length 13:Nat):Int)<(s.length:Int)
   ·rw[if_pos h]; congr 1; simp; omega
   ·rw[if_neg h]
  rw[e];have a1:decide ((s.length:Int)≤12)=decide (s.length≤12):=by simp only[decide_eq_decide]; omega
  by_cases h:(s.length:Int)≥1
  ·simp only[Option.bind_some,Bool.false_eq_true,if_false,if_pos h,a1,show decide (1≤s.length)=true from decide_eq_true (by omega),Bool.true_and]
  ·simp only[Option.bind_some,Bool.false_eq_true,if_false,if_neg h,show decide (1≤s.length)=false from decide_eq_false (by omega),Bool.false_and]
def scP (l:List Int) (i:Nat):Bool:=match l[i]? with
 | some x=>(decide (1≤x)&&decide (x≤99))&&(i==0||(match l[i-1]? with
  | some y=>decide (y<x)
  | none=>false))
 | none=>false
def XY (l:List Int):Bool:=(List.range l.length).all (scP l)&&decide (l.length≤24)
def Le:Nat→Form→Bool
 | 0,_=>false
 | d+1,f=>if f.kind=1 then nameB f.name&&(decide (f.n=0)&&(XY f.scopes&&decide (f.kids.length=0))) else
   if f.kind=2 then decide (f.name=[])&&((decide (0≤f.n)&&decide (f.n≤999))&&(decide (f.scopes.length=0)&&decide (f.kids.length=0))) else
   if f.kind=3 then decide (f.name=[])&&(decide (f.n=0)&&(decide (f.scopes.length=0)&&f.kids.all (Le d))) else false
mutual
def cF:Form→Nat
 | ⟨_,_,_,_,kids⟩=>1+jO kids
def jO:List Form→Nat
 | []=>0
 | x::r=>cF x+jO r
end
theorem rQ (f:Form):cF f=1+jO f.kids:=by cases f; simp only[cF]
mutual
theorem VG:∀f:Form,cF f≤wF f+1
 | ⟨k,nm,n,sc,kids⟩=>by have:=ZV kids; simp only[cF,wF]; omega
theorem ZV:∀l:List Form,jO l≤qj l+l.length
 | []=>by simp[jO]
 | x::r=>by have:=VG x; have:=ZV r; simp only[jO,qj,List.length_cons]; omega
end
theorem qX:∀{l:List Form} {x:Form},x∈l→cF x≤jO l
 | y::r,x,h=>by
  simp only[jO];rcases List.mem_cons.1 h with rfl | h
  ·omega
  ·have:=qX h; omega
def gW (f:Form):Bool:=Le 40 f&&decide (cF f≤400)
mutual
theorem JU:∀f:Form,wF f≤1073741824→okF f
 | ⟨k,nm,n,sc,kids⟩,h=>by simp only[wF] at h; simp only[okF,Kt]; exact⟨by omega,by omega,by omega,ZW kids (by omega)⟩
theorem ZW:∀l:List Form,qj l≤1073741824→Qi l
 | [],_=>trivial
 | x::r,h=>by simp only[qj] at h; simp only[Qi]; exact⟨JU x (by omega),ZW r (by omega)⟩
end
theorem aeR (n:Nat) (l:List Int) (hl:l.length≤Kt):rF n l=some (XY l):=by
 unfold Kt at hl;unfold rF;rw[ZR (p:=scP l) (no:=false)]
 ·simp only[Nat.zero_add];unfold XY;have a2:decide ((l.length:Int)≤24)=decide (l.length≤24):=by simp only[decide_eq_decide]; omega
  show(if(List.range l.length).all (scP l)=true then _ else _)=_;rw[a2];cases (List.range l.length).all (scP l) <;> simp
 ·intro j x hx;simp only[Nat.zero_add];have hj:j<l.length:=(List.getElem?_eq_some_iff.1 hx).1;simp only[MN,Option.bind_some,scP,hx];by_cases h1:(decide (1≤x)&&decide (x≤99))=true
  ·simp only[h1,Bool.not_true,Bool.false_eq_true,if_false,Bool.true_and];by_cases h0:(j:Int)>0
   ·have e:aY ((j:Int)-1)=((j-1:Nat):Int):=by rw[kK (by omega) (by omega)]; omega
    have hy:=List.getElem?_eq_getElem (l:=l) (i:=j-1) (by omega);have hj0:(j==0)=false:=by simp; omega
    rw[if_pos h0,e,dZ hy,hj0];simp only[Option.bind_some,hy,Bool.false_or];by_cases hlt:l[j-1]<x
    ·simp[hlt]
    ·simp[hlt,show l[j-1]≥x by omega]
   ·have hj0:j=0:=by omega
    subst hj0;simp
  ·have h1':(decide (1≤x)&&decide (x≤99))=false:=by simpa using h1
   simp[h1']
theorem ZX (f:Form) (hf:okF f) (d:Nat) (hd:d≤40) (L:Nat) (hL:L≤400):Ex (fun n=>tN n f ((41-d:Nat):Int) (L:Int)) (fun r=>(r.1=true↔Le d f=true∧cF f≤L)∧(r.1=true→r.2=((L-cF f:Nat):Int))):=by
 obtain⟨o1,o2,o3,o4⟩:=(okF_eq f).1 hf;have hc:=rQ f;refine .succ ?_;simp only[tN];have e1:aY ((L:Int)-1)=(L:Int)-1:=kK (by omega) (by omega);rw[e1];by_cases h0:(L:Int)-1<0
 ·simp only[if_pos h0,Option.bind_some,if_true];refine .pure ⟨⟨fun h=>(by cases h),fun h=>(by omega)⟩,fun h=>(by cases h)⟩
 rw[if_neg h0];by_cases hd0:d=0
 ·subst hd0;simp only[show decide (((41-0:Nat):Int)>40)=true from rfl,Option.bind_some,if_true];refine .pure ⟨⟨fun h=>(by cases h),fun h=>(by simp[Le] at h)⟩,fun h=>(by cases h)⟩
 obtain⟨d,rfl⟩:∃e,d=e+1:=⟨d-1,by omega⟩
 have hdd:decide (((41-(d+1):Nat):Int)>40)=false:=by simp; omega
 simp only[hdd,Option.bind_some,Bool.false_eq_true,if_false,Le];have kz:decide ((f.kids.length:Int)=0)=decide (f.kids.length=0):=by simp only[decide_eq_decide]; omega
 have sz:decide ((f.scopes.length:Int)=0)=decide (f.scopes.length=0):=by simp only[decide_eq_decide]; omega
 have fin:∀b:Bool,(f.kids.length=0∨b=false)→((b,(L:Int)-1).1=true↔b=true∧cF f≤L)∧((b,(L:Int)-1).1=true→(b,(L:Int)-1).2=((L-cF f:Nat):Int)):=fun b hb=>by
  rcases hb with hb | hb
  ·have hk:f.kids=[]:=List.eq_nil_of_length_eq_zero hb;have hc1:cF f=1:=by rw[hc,hk]; rfl
   exact⟨⟨fun h=>⟨h,by omega⟩,fun h=>h.1⟩,fun _=>by simp only; omega⟩
  ·subst hb;exact⟨⟨fun h=>(by cases h),fun h=>(by cases h.1)⟩,fun h=>(by cases h)⟩
 by_cases k1:f.kind=1
 ·rw[if_pos k1];simp only[if_pos k1];refine Ex.bind (P:=fun b=>b=(nameB f.name&&(decide (f.n=0)&&(XY f.scopes&&decide (f.kids.length=0))))) ?_ ?_
  ·refine .bv (VF _ o1) ?_;cases hn:nameB f.name with
   | false=>exact .neg (by simp) (.pure (by simp))
   | true=>
    refine .pos rfl ?_;by_cases h2:f.n=0
    ·refine .pos h2 ?_;simp only[aeR _ _ o2,Option.bind_some];cases hs:XY f.scopes with
     | false=>exact .neg (by simp) (.pure (by simp))
     | true=>exact .pos rfl (.pure (by simp[kz,h2]))
    ·exact .neg h2 (.pure (by simp[h2]))
  ·rintro b rfl;refine .pure (fin _ ?_);by_cases hk:f.kids.length=0
   ·exact .inl hk
   ·exact .inr (by simp[hk])
 rw[if_neg k1];simp only[if_neg k1];by_cases k2:f.kind=2
 ·rw[if_pos k2];simp only[if_pos k2];refine Ex.bind (P:=fun b=>b=(decide (f.name=[])&&((decide (0≤f.n)&&decide (f.n≤999))&&(decide (f.scopes.length=0)&&decide (f.kids.length=0))))) ?_ ?_
  ·by_cases h1:f.name=[]
   ·refine .pos h1 ?_;simp only[MN,Option.bind_some];by_cases h2:(decide (0≤f.n)&&decide (f.n≤999))=true
    ·refine .pos h2 ?_;by_cases h3:f.scopes.length=0
     ·exact .pos (by omega) (.pure (by rw[kz,h2]; simp only[h1,h3,decide_true,Bool.true_and]))
     ·exact .neg (by omega) (.pure (by simp only[h3,decide_false,Bool.false_and,Bool.and_false]))
    ·exact .neg h2 (.pure (by simp only[Bool.not_eq_true] at h2; rw[h2]; simp))
   ·exact .neg h1 (.pure (by simp[h1]))
  ·rintro b rfl;refine .pure (fin _ ?_);by_cases hk:f.kids.length=0
   ·exact .inl hk
   ·exact .inr (by simp[hk])
 rw[if_neg k2];simp only[if_neg k2];by_cases k3:f.kind=3
 ·rw[if_pos k3];simp only[if_pos k3];refine Ex.bind (P:=fun b=>b=!(decide (f.name=[])&&(decide (f.n=0)&&decide (f.scopes.length=0)))) ?_ ?_
  ·by_cases h1:f.name=[]
   ·refine .neg (by simp[h1]) ?_;by_cases h2:f.n=0
    ·refine .neg (by simp[h2]) (.pure ?_);by_cases h3:f.scopes.length=0
     ·have h3':¬(f.scopes.length:Int)>0:=by omega
      rw[decide_eq_false h3',decide_eq_true h1,decide_eq_true h2,decide_eq_true h3]; rfl
     ·have h3':(f.scopes.length:Int)>0:=by omega
      rw[decide_eq_true h3',decide_eq_true h1,decide_eq_true h2,decide_eq_false h3]; rfl
    ·exact .pos h2 (.pure (by simp[h1,h2]))
   ·exact .pos h1 (.pure (by simp[h1]))
  ·rintro b rfl;cases hq:(decide (f.name=[])&&(decide (f.n=0)&&decide (f.scopes.length=0))) with
   | false=>
    refine .pos rfl (.pure ⟨⟨fun h=>(by cases h),fun h=>?_⟩,fun h=>(by cases h)⟩);have:=h.1;simp only[Bool.and_eq_true] at this;rw[this.1,this.2.1,this.2.2.1] at hq; cases hq
   | true=>
    have hq':∀b,(decide (f.name=[])&&(decide (f.n=0)&&(decide (f.scopes.length=0)&&b)))=b:=fun b=>by
     simp only[Bool.and_eq_true] at hq;rw[hq.1,hq.2.1,hq.2.2]; simp
    rw[hq'];refine .neg (by simp) ?_;have e2:aY (((41-(d+1):Nat):Int)+1)=((41-d:Nat):Int):=by rw[kK (by omega) (by omega)]; omega
    rw[e2];refine Ex.bH (P:=fun o=>match o with
     | .inl w=>w.1=false∧¬(f.kids.all (Le d)=true∧jO f.kids≤L-1)
     | .inr s=>f.kids.all (Le d)=true∧jO f.kids≤L-1∧s=((L-1-jO f.kids:Nat):Int)) ?_ ?_ ?_
    ·refine Ex.bV (I:=fun i q s=>∃u:Nat,s=(u:Int)∧u≤400∧(f.kids.all (Le d)=true∧jO f.kids≤L-1↔q.all (Le d)=true∧jO q≤u)∧u+jO f.kids=L-1+jO q∧∀x∈q,x∈f.kids) ?_ ?_ ?_
     ·exact⟨L-1,by omega,by omega,Iff.rfl,rfl,fun _ h=>h⟩
     ·rintro i x q s ⟨u,rfl,hu,hiff,hsum,hmem⟩;have hx:=hmem x (List.mem_cons_self);refine Ex.bind (ZX x (Jh.1 o4 x hx) d (by omega) u hu) ?_;rintro ⟨b,s'⟩ ⟨r1,r2⟩;simp only at r1 r2;cases b with
      | false=>
       refine .pos rfl (.fo ⟨rfl,fun h=>?_⟩);have h':=hiff.1 h;simp only[List.all_cons,Bool.and_eq_true,jO] at h';have:=r1.2 ⟨h'.1.1,by omega⟩;cases this
      | true=>
       obtain⟨q1,q2⟩:=r1.1 rfl;refine .neg (by simp) (.fg ⟨u-cF x,r2 rfl,by omega,?_,by simp only[jO] at hsum; omega,fun y hy=>hmem y (List.mem_cons_of_mem _ hy)⟩);rw[hiff];simp only[List.all_cons,Bool.and_eq_true,jO,q1,true_and];constructor <;> intro h <;> exact⟨h.1,by omega⟩
     ·rintro s ⟨u,rfl,hu,hiff,hsum,_⟩;have h:=hiff.2 ⟨rfl,by simp[jO]⟩;simp only[jO] at hsum;exact⟨h.1,h.2,by omega⟩
    ·rintro ⟨b,s⟩ ⟨h1,h2⟩;simp only at h1;subst h1;refine⟨⟨fun h=>(by cases h),fun h=>absurd ⟨h.1,by omega⟩ h2⟩,fun h=>(by cases h)⟩
    ·rintro s ⟨h1,h2,h3⟩;exact .pure ⟨⟨fun _=>⟨h1,by omega⟩,fun _=>rfl⟩,fun _=>by simp only; omega⟩
 ·rw[if_neg k3];simp only[if_neg k3];exact .pure ⟨⟨fun h=>(by cases h),fun h=>(by cases h.1)⟩,fun h=>(by cases h)⟩
termination_by SizeOf.sizeOf f
decreasing_by exact jG hx
theorem VH (f:Form) (hf:okF f):gG (fun n=>lQ n f) (gW f):=by
 refine Ex.Ai ?_;unfold lQ;refine Ex.bind (ZX f hf 40 (by omega) 400 (by omega)) ?_;rintro ⟨b,s⟩ ⟨r1,_⟩;refine .pure ?_;simp only at r1 ⊢;unfold gW;rw[Bool.eq_iff_iff,r1];simp
theorem Oz (l:List Int) (hl:l.length≤Kt):gG (fun n=>lu n l) (XY l):=by
 unfold Kt at hl;unfold lu;have hb:XY l=if(List.range (min l.length 25)).all (scP l)=true then decide (l.length≤24) else false:=by
  unfold XY;by_cases h:l.length≤24
  ·rw[Nat.min_eq_left (by omega)];cases (List.range l.length).all (scP l) <;> simp
  ·simp[h]
 rw[hb];have step:∀i,i<min l.length 25→(Option.bind ((if(i:Int)<(l.length:Int) then some (decide ((i:Int)≤24)) else some false):Option (Bool)) (fun(o3:Bool)=>(if o3=true then Option.bind ((gQ l (i:Int)).bind fun e7=>(if e7<1 then some true else(if e7>99 then some true else(if(i:Int)>0 then(gQ l (aY ((i:Int)-1))).bind fun e11=>some (decide (e7≤e11)) else some false))):Option (Bool)) (fun(o5:Bool)=>(if o5=true then some (Sum.inl false) else some (Sum.inr (aY ((i:Int)+1))))) else some (Sum.inl (decide ((l.length:Int)≤24))))):Option (Bool⊕Int))=if scP l i=true then some (.inr ((i+1:Nat):Int)) else some (.inl false):=fun i hi=>by
  have hi':i<l.length:=by omega
  have hy:=List.getElem?_eq_getElem hi';rw[if_pos (by omega),decide_eq_true (by omega:(i:Int)≤24)];simp only[Option.bind_some,if_true,dZ hy,ig (i:=i) (by omega),scP,hy];by_cases h1:l[i]<1
  ·rw[if_pos h1]; simp[show ¬1≤l[i] by omega]
  rw[if_neg h1];by_cases h2:l[i]>99
  ·rw[if_pos h2]; simp[show ¬l[i]≤99 by omega]
  rw[if_neg h2];by_cases h0:(i:Int)>0
  ·have e:aY ((i:Int)-1)=((i-1:Nat):Int):=by rw[kK (by omega) (by omega)]; omega
   have hz:=List.getElem?_eq_getElem (l:=l) (i:=i-1) (by omega);have hi0:(i==0)=false:=by simp; omega
   rw[if_pos h0,e,dZ hz,hi0];simp only[Option.bind_some,hz,Bool.false_or];by_cases hlt:l[i-1]<l[i]
   ·simp[hlt,show 1≤l[i] by omega,show l[i]≤99 by omega]
   ·simp[hlt,show l[i]≤l[i-1] by omega]
  ·have hi0:(i==0)=true:=by simp; omega
   rw[if_neg h0,hi0];simp[show 1≤l[i] by omega,show l[i]≤99 by omega]
 refine gG.scan (L:=min l.length 25) (p:=scP l) (fun i hi hp=>.const ?_) (fun i hi hp=>.const ?_) (.const ?_)
 ·rw[step i hi,if_pos hp]
 ·rw[step i hi,if_neg (by simp[hp])]
 ·have e:((if((min l.length 25:Nat):Int)<(l.length:Int) then some (decide (((min l.length 25:Nat):Int)≤24)) else some false):Option Bool)=some false:=by
   by_cases h:((min l.length 25:Nat):Int)<(l.length:Int)
   ·rw[if_pos h]; congr 1; simp; omega
   ·rw[if_neg h]
  have a1:decide ((l.length:Int)≤24)=decide (l.length≤24):=by simp only[decide_eq_decide]; omega
  rw[e,a1]; rfl
theorem Ex.allI {α ω:Type} {m:Nat→α→Option Bool} {p:α→Bool} {no:ω} {xs:List α} {f:Nat→Unit→Option ω} {Q:ω→Prop} (h:∀x∈xs,gG (fun n=>m n x) (p x)) (hy:xs.all p=true→Ex (fun n=>f n ()) Q) (hn:xs.all p=false→Q no) :
  Ex (fun n=>Mx.bH (Mx.bV (fun(_:Unit) (_:Nat) (x:α)=>((m n x).bind fun k=>(if(!k)=true then some (Sum.inl no) else some (Sum.inr ())):Option (ω⊕Unit))) 0 xs ()) (f n)) Q:=by
 refine Ex.bH (P:=fun o=>match o with
  | .inl w=>w=no∧xs.all p=false
  | .inr _=>xs.all p=true) ?_ ?_ ?_
 ·refine Ex.bV (I:=fun i q s=>(∀x∈q,x∈xs)∧xs.all p=q.all p) ⟨fun _ h=>h,rfl⟩ ?_ ?_
  ·rintro i x q s ⟨h1,h2⟩;refine .bv (h x (h1 x (List.mem_cons_self))) ?_;cases hp:p x with
   | true=>exact .neg (by simp) (.fg ⟨fun y hy=>h1 y (List.mem_cons_of_mem _ hy),by rw[h2,List.all_cons,hp,Bool.true_and]⟩)
   | false=>exact .pos rfl (.fo ⟨rfl,by rw[h2,List.all_cons,hp,Bool.false_and]⟩)
  ·rintro s ⟨_,h2⟩;exact h2
 ·rintro w ⟨rfl,h⟩; exact hn h
 ·rintro ⟨⟩ h; exact hy h
theorem VI (f:Form) (hf:okF f) (d:Nat) (hd:d≤40):gG (fun n=>yM n f (d:Int)) (Le d f):=by
 obtain⟨o1,o2,o3,o4⟩:=(okF_eq f).1 hf;refine .succ ?_;simp only[yM];by_cases hd0:d=0
 ·subst hd0;exact .pos rfl (.pure _)
 obtain⟨d,rfl⟩:∃e,d=e+1:=⟨d-1,by omega⟩
 refine .neg (by omega) ?_;have kz:decide ((f.kids.length:Int)=0)=decide (f.kids.length=0):=by simp only[decide_eq_decide]; omega
 simp only[Le];refine Ex.Ai ?_;by_cases k1:f.kind=1
 ·rw[if_pos k1];simp only[if_pos k1];refine Ex.bind (P:=fun b=>b=(nameB f.name&&(decide (f.n=0)&&(XY f.scopes&&decide (f.kids.length=0))))) ?_ (fun b hb=>.pure hb);refine .bv (Hz _ o1) ?_;cases hn:nameB f.name with
  | false=>exact .neg (by simp) (.pure (by simp))
  | true=>
   refine .pos rfl ?_;by_cases h2:f.n=0
   ·refine .pos h2 (.bv (Oz _ o2) ?_);cases hs:XY f.scopes with
    | false=>exact .neg (by simp) (.pure (by simp))
    | true=>exact .pos rfl (.pure (by simp[kz,h2]))
   ·exact .neg h2 (.pure (by simp[h2]))
 rw[if_neg k1];simp only[if_neg k1];by_cases k2:f.kind=2
 ·rw[if_pos k2];simp only[if_pos k2];refine Ex.bind (P:=fun b=>b=(decide (f.name=[])&&((decide (0≤f.n)&&decide (f.n≤999))&&(decide (f.scopes.length=0)&&decide (f.kids.length=0))))) ?_ (fun b hb=>.pure hb);by_cases h1:f.name=[]
  ·refine .pos h1 ?_;by_cases h2:f.n≥0
   ·refine .pos h2 ?_;by_cases h4:f.n≤999
    ·refine .pos h4 ?_;by_cases h3:f.scopes.length=0
     ·exact .pos (by omega) (.pure (by rw[kz,decide_eq_true h1,decide_eq_true (show 0≤f.n from h2),decide_eq_true h4,decide_eq_true h3]; simp))
     ·exact .neg (by omega) (.pure (by rw[decide_eq_false h3]; simp))
    ·exact .neg h4 (.pure (by rw[decide_eq_false h4]; simp))
   ·exact .neg h2 (.pure (by rw[decide_eq_false (show ¬0≤f.n from h2)]; simp))
  ·exact .neg h1 (.pure (by simp[h1]))
 rw[if_neg k2];simp only[if_neg k2];by_cases k3:f.kind=3
 ·simp only[k3,not_true_eq_false,if_false,if_true];refine Ex.bind (P:=fun b=>b=!(decide (f.name=[])&&(decide (f.n=0)&&decide (f.scopes.length=0)))) ?_ ?_
  ·by_cases h1:f.name=[]
   ·refine .neg (by simp[h1]) ?_;by_cases h2:f.n=0
    ·refine .neg (by simp[h2]) (.pure ?_);by_cases h3:f.scopes.length=0
     ·have h3':¬¬(f.scopes.length:Int)=0:=by omega
      rw[decide_eq_false h3',decide_eq_true h1,decide_eq_true h2,decide_eq_true h3]; rfl
     ·have h3':¬(f.scopes.length:Int)=0:=by omega
      rw[decide_eq_true h3',decide_eq_true h1,decide_eq_true h2,decide_eq_false h3]; rfl
    ·exact .pos h2 (.pure (by simp[h1,h2]))
   ·exact .pos h1 (.pure (by simp[h1]))
  ·rintro b rfl;have hq':(decide (f.name=[])&&(decide (f.n=0)&&(decide (f.scopes.length=0)&&f.kids.all (Le d))))=((decide (f.name=[])&&(decide (f.n=0)&&decide (f.scopes.length=0)))&&f.kids.all (Le d)):=by simp only[Bool.and_assoc]
   rw[hq'];cases (decide (f.name=[])&&(decide (f.n=0)&&decide (f.scopes.length=0))) with
   | false=>exact .pos rfl (.pure rfl)
   | true=>
    refine .neg (by simp) ?_;have e2:aY (((d+1:Nat):Int)-1)=(d:Int):=by rw[kK (by omega) (by omega)]; omega
    rw[e2];exact Ex.allI (m:=fun n x=>yM n x (d:Int)) (p:=Le d) (fun x hx=>VI x (Jh.1 o4 x hx) d (by omega)) (fun h=>.pure (by rw[h]; rfl)) (fun h=>by rw[h]; rfl)
 ·simp only[if_neg k3];refine Ex.bind (P:=fun b=>b=true) (.pos k3 (.pure rfl)) ?_;rintro b rfl;exact .pos rfl (.pure rfl)
termination_by SizeOf.sizeOf f
decreasing_by exact jG hx
theorem Ex.aeS {α:Type} {m:Nat→α→Option Int} {c:α→Nat} {cs:List α→Nat} (hn:cs []=0) (hc:∀x r,cs (x::r)=c x+cs r) {xs:List α} {b:Nat} (hb:b+cs xs≤4611686018427387904) (h:∀x∈xs,gG (fun n=>m n x) (c x:Int)) :
  gG (fun n=>Mx.dY (fun(s:Int) (_:Nat) (x:α)=>(m n x).bind fun k=>some (aY (s+k))) 0 xs (b:Int)) ((b+cs xs:Nat):Int):=by
 refine Ex.Ai ?_;refine Ex.dY (I:=fun i q s=>∃u:Nat,s=(u:Int)∧u+cs q=b+cs xs∧∀x∈q,x∈xs) ⟨b,rfl,rfl,fun _ h=>h⟩ ?_ ?_
 ·rintro i x q s ⟨u,rfl,h1,h2⟩;refine .bv (h x (h2 x (List.mem_cons_self))) (.pure ⟨u+c x,?_,by rw[hc] at h1; omega,fun y hy=>h2 y (List.mem_cons_of_mem _ hy)⟩);rw[hc] at h1;rw[kK (by omega) (by omega)]; omega
 ·rintro s ⟨u,rfl,h1,_⟩;rw[hn] at h1;rw[← h1]; rfl
theorem OA (f:Form) (hw:cF f≤4611686018427387904):gG (fun n=>lq n f) (cF f:Int):=by
 have hc:=rQ f;refine .succ ?_;simp only[lq];rw[hc];refine .bind (a:=((1+jO f.kids:Nat):Int)) ?_ (.pure _);exact Ex.aeS (b:=1) (c:=cF) (cs:=jO) rfl (fun _ _=>rfl) (by omega) (fun x hx=>OA x (by have:=qX hx; omega))
termination_by SizeOf.sizeOf f
decreasing_by exact jG hx
theorem HY (f:Form) (hf:okF f) (hw:cF f≤4611686018427387904):gG (fun n=>bT n f) (gW f):=by
 refine Ex.Ai ?_;unfold bT gW;refine Ex.bind (P:=fun b=>b=(Le 40 f&&decide (cF f≤400))) ?_ (fun b hb=>.pure hb);refine .bv (VI f hf 40 (by omega)) ?_;cases Le 40 f with
 | false=>exact .neg (by simp) (.pure rfl)
 | true=>
  refine .pos rfl (.bv (OA f hw) (.pure ?_));rw[Bool.true_and]; simp only[decide_eq_decide]; omega
def all2 {α β:Type} (p:α→β→Bool):List α→List β→Bool
 | [],[]=>true
 | x::r,y::s=>p x y&&all2 p r s
 | _,_=>false
theorem Ex.eqI {α:Type} {m:Nat→α→α→Option Bool} {p:α→α→Bool} {xs ys:List α} (hl:xs.length=ys.length) (h:∀x∈xs,∀y,gG (fun n=>m n x y) (p x y)) :
  gG (fun n=>Mx.bH (Mx.bV (fun(_:Unit) (i:Nat) (x:α)=>((gQ ys (i:Int)).bind fun e=>(m n x e).bind fun k=>(if(!k)=true then some (Sum.inl false) else some (Sum.inr ())):Option (Bool⊕Unit))) 0 xs ()) (fun _=>some true)) (all2 p xs ys):=by
 refine Ex.Ai ?_;refine Ex.bH (P:=fun o=>match o with
  | .inl w=>w=false∧all2 p xs ys=false
  | .inr _=>all2 p xs ys=true) ?_ ?_ ?_
 ·refine Ex.bV (I:=fun i q s=>(∀x∈q,x∈xs)∧∃z,ys.drop i=z∧q.length=z.length∧all2 p xs ys=all2 p q z) ⟨fun _ h=>h,ys,rfl,hl,rfl⟩ ?_ ?_
  ·rintro i x q s ⟨h1,z,hz,h3,h2⟩;cases z with
   | nil=>simp at h3
   | cons y z=>
    obtain⟨g1,g2,_,_⟩:=jA hz;refine .bp y (dZ g1) (.bv (h x (h1 x (List.mem_cons_self)) y) ?_);cases hp:p x y with
    | true=>exact .neg (by simp) (.fg ⟨fun w hw=>h1 w (List.mem_cons_of_mem _ hw),z,g2,by simpa using h3,by rw[h2]; simp only[all2,hp,Bool.true_and]⟩)
    | false=>exact .pos rfl (.fo ⟨rfl,by rw[h2]; simp only[all2,hp,Bool.false_and]⟩)
  ·rintro s ⟨_,z,hz,h3,h2⟩;have:z=[]:=List.eq_nil_of_length_eq_zero (by simpa using h3.symm);subst this;exact h2
 ·rintro w ⟨rfl,h⟩; exact h.symm
 ·rintro ⟨⟩ h; exact .pure h.symm
theorem VJ {α:Type} [DecidableEq α]:∀{xs ys:List α},all2 (fun x y=>decide (x=y)) xs ys=decide (xs=ys)
 | [],[]=>rfl
 | x::r,y::s=>by
  simp only[all2,VJ (xs:=r) (ys:=s)];rw[Bool.eq_iff_iff]; simp
 | [],_::_=>by simp[all2]
 | _::_,[]=>by simp[all2]
theorem OB {a b:List Int}:gG (fun(_:Nat)=>(if ¬(a.length:Int)=(b.length:Int) then some false else bH (bV (fun(s5:Unit) (i4:Nat) (x7:Int)=>((gQ b (i4:Int)).bind fun e12=>(if ¬x7=e12 then some (Sum.inl false) else some (Sum.inr ())):Option (Bool⊕Unit))) 0 a ()) (fun(s5:Unit)=>some true))) (decide (a=b)):=by
 by_cases h:a.length=b.length
 ·refine .neg (by omega) ?_;have:=Ex.eqI (m:=fun _ (x y:Int)=>some (decide (x=y))) (p:=fun x y=>decide (x=y)) h (fun x _ y=>.pure _);rw[VJ] at this
  simpa only[Option.bind_some,Bool.not_eq_true',decide_eq_false_iff_not] using this
 ·refine .pos (by omega) ?_;have:¬a=b:=fun e=>h (by rw[e]);simp only[this,decide_false]; exact .pure _
mutual
def iK:Form→Form→Bool
 | ⟨k,nm,n,sc,kids⟩,b=>decide (k=b.kind)&&(decide (nm=b.name)&&(decide (n=b.n)&&(decide (sc=b.scopes)&&jQ kids b.kids)))
def jQ:List Form→List Form→Bool
 | [],[]=>true
 | x::r,y::s=>iK x y&&jQ r s
 | _,_=>false
end
mutual
def A8:Core→Core→Bool
 | ⟨k,id,nm,n,ids,dt,kids⟩,b=>decide (k=b.kind)&&(decide (id=b.id)&&(decide (nm=b.name)&&(decide (n=b.n)&&(decide (ids=b.ids)&&(iK dt b.data&&lG kids b.kids)))))
def lG:List Core→List Core→Bool
 | [],[]=>true
 | x::r,y::s=>A8 x y&&lG r s
 | _,_=>false
end
mutual
theorem FM:∀{a b:Form},iK a b=true↔a=b
 | ⟨k,nm,n,sc,kids⟩,⟨k',nm',n',sc',ag0⟩=>by
  simp only[iK,Bool.and_eq_true,decide_eq_true_eq,DR,Form.mk.injEq]
theorem DR:∀{a b:List Form},jQ a b=true↔a=b
 | [],[]=>by simp[jQ]
 | x::r,y::s=>by simp only[jQ,Bool.and_eq_true,FM,DR,List.cons.injEq]
 | [],_::_=>by simp[jQ]
 | _::_,[]=>by simp[jQ]
end
mutual
theorem XE:∀{a b:Core},A8 a b=true↔a=b
 | ⟨k,id,nm,n,ids,dt,kids⟩,⟨k',id',nm',n',amk,dt',ag0⟩=>by
  simp only[A8,Bool.and_eq_true,decide_eq_true_eq,yX,FM,Core.mk.injEq]
theorem yX:∀{a b:List Core},lG a b=true↔a=b
 | [],[]=>by simp[lG]
 | x::r,y::s=>by simp only[lG,Bool.and_eq_true,XE,yX,List.cons.injEq]
 | [],_::_=>by simp[lG]
 | _::_,[]=>by simp[lG]
end
theorem DT:∀{a b:List Form},jQ a b=all2 iK a b
 | [],[]=>by simp[jQ,all2]
 | x::r,y::s=>by simp only[jQ,all2,DT (a:=r)]
 | [],_::_=>by simp[jQ,all2]
 | _::_,[]=>by simp[jQ,all2]
theorem JV:∀{a b:List Core},lG a b=all2 A8 a b
 | [],[]=>by simp[lG,all2]
 | x::r,y::s=>by simp only[lG,all2,JV (a:=r)]
 | [],_::_=>by simp[lG,all2]
 | _::_,[]=>by simp[lG,all2]
theorem Q7 (a b:Form):iK a b=(decide (a.kind=b.kind)&&(decide (a.name=b.name)&&(decide (a.n=b.n)&&(decide (a.scopes=b.scopes)&&jQ a.kids b.kids)))):=by cases a; simp only[iK]
theorem Q8 (a b:Core):A8 a b=(decide (a.kind=b.kind)&&(decide (a.id=b.id)&&(decide (a.name=b.name)&&(decide (a.n=b.n)&&(decide (a.ids=b.ids)&&(iK a.data b.data&&lG a.kids b.kids)))))):=by cases a; simp only[A8]
theorem JW {a b:List Form} (h:¬a.length=b.length):jQ a b=false:=by
 cases hs:jQ a b with
 | false=>rfl
 | true=>exact absurd (by rw[DR.1 hs]) h
theorem Um {a b:List Core} (h:¬a.length=b.length):lG a b=false:=by
 cases hs:lG a b with
 | false=>rfl
 | true=>exact absurd (by rw[yX.1 hs]) h
theorem Q9 (a b:List Int):gG (fun n=>slices_Equal_int n a b) (decide (a=b)):=OB
theorem VK (a b:Form):gG (fun n=>jI n a b) (iK a b):=by
 refine .succ ?_;simp only[jI];rw[Q7];refine Ex.Ai ?_;refine Ex.bind (P:=fun o=>o=(decide (a.kind=b.kind)&&(decide (a.name=b.name)&&(decide (a.n=b.n)&&(decide (a.scopes=b.scopes)&&jQ a.kids b.kids))))) ?_ (fun _ h=>.pure h);by_cases h1:a.kind=b.kind
 ·refine .pos h1 ?_;by_cases h2:a.name=b.name
  ·refine .pos h2 ?_;by_cases h3:a.n=b.n
   ·refine .pos h3 (.bv (Q9 _ _) ?_);rw[decide_eq_true h1,decide_eq_true h2,decide_eq_true h3];simp only[Bool.true_and];by_cases h4:a.scopes=b.scopes
    ·rw[decide_eq_true h4];refine .pos rfl ?_;have hk:gG (fun n=>bg n a.kids b.kids) (jQ a.kids b.kids):=by
      refine .succ ?_;simp only[bg];by_cases hl:a.kids.length=b.kids.length
      ·refine .neg (by omega) ?_;rw[DT];exact Ex.eqI (m:=fun n x e=>jI n x e) hl (fun x hx y=>VK x y)
      ·rw[JW hl]; exact .pos (by omega) (.pure _)
     exact .bv hk (.pure rfl)
    ·rw[decide_eq_false h4];exact .neg (by simp) (.pure rfl)
   ·exact .neg h3 (.pure (by rw[decide_eq_false h3]; simp))
  ·exact .neg h2 (.pure (by rw[decide_eq_false h2]; simp))
 ·exact .neg h1 (.pure (by rw[decide_eq_false h1]; rfl))
termination_by SizeOf.sizeOf a
decreasing_by exact jG hx
theorem VL (a b:Core):gG (fun n=>jJ n a b) (A8 a b):=by
 refine .succ ?_;simp only[jJ];rw[Q8];refine Ex.Ai ?_;refine Ex.bind (P:=fun o=>o=(decide (a.kind=b.kind)&&(decide (a.id=b.id)&&(decide (a.name=b.name)&&(decide (a.n=b.n)&&(decide (a.ids=b.ids)&&(iK a.data b.data&&lG a.kids b.kids))))))) ?_ (fun _ h=>.pure h);by_cases h1:a.kind=b.kind
 ·refine .pos h1 ?_;by_cases h0:a.id=b.id
  ·refine .pos h0 ?_;by_cases h2:a.name=b.name
   ·refine .pos h2 ?_;by_cases h3:a.n=b.n
    ·refine .pos h3 (.bv (Q9 _ _) ?_);rw[decide_eq_true h1,decide_eq_true h2,decide_eq_true h3,decide_eq_true h0];simp only[Bool.true_and];by_cases h4:a.ids=b.ids
     ·rw[decide_eq_true h4];refine .pos rfl (.bv (VK _ _) ?_);cases hd:iK a.data b.data with
      | false=>exact .neg (by simp) (.pure rfl)
      | true=>
       refine .pos rfl ?_;have hk:gG (fun n=>bn n a.kids b.kids) (lG a.kids b.kids):=by
        refine .succ ?_;simp only[bn];by_cases hl:a.kids.length=b.kids.length
        ·refine .neg (by omega) ?_;rw[JV];exact Ex.eqI (m:=fun n x e=>jJ n x e) hl (fun x hx y=>VL x y)
        ·rw[Um hl]; exact .pos (by omega) (.pure _)
       exact .bv hk (.pure rfl)
     ·rw[decide_eq_false h4];exact .neg (by simp) (.pure rfl)
    ·exact .neg h3 (.pure (by rw[decide_eq_false h3]; simp))
   ·exact .neg h2 (.pure (by rw[decide_eq_false h2]; simp))
  ·exact .neg h0 (.pure (by rw[decide_eq_false h0]; simp))
 ·exact .neg h1 (.pure (by rw[decide_eq_false h1]; rfl))
termination_by SizeOf.sizeOf a
decreasing_by exact uK hx
theorem JX (a b:List Int):gG (fun n=>tX n a b) (decide (a=b)):=OB
theorem yY (a b:Form):gG (fun n=>fD n a b) (iK a b):=by
 refine .succ ?_;simp only[fD];rw[Q7];refine Ex.Ai ?_;refine Ex.bind (P:=fun o=>o=!(decide (a.kind=b.kind)&&(decide (a.name=b.name)&&(decide (a.n=b.n)&&(decide (a.scopes=b.scopes)&&decide (a.kids.length=b.kids.length)))))) ?_ ?_
 ·by_cases h1:a.kind=b.kind
  ·refine .neg (fun h=>h h1) ?_;by_cases h2:a.name=b.name
   ·refine .neg (fun h=>h h2) ?_;by_cases h3:a.n=b.n
    ·refine .neg (fun h=>h h3) (.bv (JX _ _) ?_);rw[decide_eq_true h1,decide_eq_true h2,decide_eq_true h3];simp only[Bool.true_and];by_cases h4:a.scopes=b.scopes
     ·rw[decide_eq_true h4];refine .neg (by simp) (.pure ?_);by_cases h5:a.kids.length=b.kids.length
      ·rw[decide_eq_true h5,decide_eq_false (show ¬¬(a.kids.length:Int)=(b.kids.length:Int) by omega)]; rfl
      ·rw[decide_eq_false h5,decide_eq_true (show ¬(a.kids.length:Int)=(b.kids.length:Int) by omega)]; rfl
     ·rw[decide_eq_false h4];exact .pos rfl (.pure rfl)
    ·exact .pos h3 (.pure (by rw[decide_eq_false h3]; simp))
   ·exact .pos h2 (.pure (by rw[decide_eq_false h2]; simp))
  ·exact .pos h1 (.pure (by rw[decide_eq_false h1]; rfl))
 ·rintro o rfl;by_cases h5:a.kids.length=b.kids.length
  ·rw[decide_eq_true h5];cases e1:decide (a.kind=b.kind) with
   | false=>exact .pos rfl (.pure rfl)
   | true=>
    cases e2:decide (a.name=b.name) with
    | false=>exact .pos rfl (.pure rfl)
    | true=>
     cases e3:decide (a.n=b.n) with
     | false=>exact .pos rfl (.pure rfl)
     | true=>
      cases e4:decide (a.scopes=b.scopes) with
      | false=>exact .pos rfl (.pure rfl)
      | true=>
       refine .neg (by simp) ?_;simp only[Bool.true_and];rw[DT];exact(Ex.eqI (m:=fun n x e=>fD n x e) h5 (fun x hx y=>yY x y)).ex
  ·rw[decide_eq_false h5,JW h5];refine .pos (by simp) (.pure (by simp))
termination_by SizeOf.sizeOf a
decreasing_by exact jG hx
def zF:Form:=⟨0,[],0,[],[]⟩
mutual
def xZ:Form→List Int
 | ⟨_,_,_,sc,kids⟩=>sc++vw kids
def vw:List Form→List Int
 | []=>[]
 | x::r=>xZ x++vw r
end
mutual
def OC:Form→Form
 | ⟨k,nm,n,_,kids⟩=>⟨k,nm,n,[],JY kids⟩
def JY:List Form→List Form
 | []=>[]
 | x::r=>OC x::JY r
end
def FN (f:Form):Bool:=decide (xZ f=[])
theorem ZY (f:Form):xZ f=f.scopes++vw f.kids:=by cases f; simp only[xZ]
theorem acr (f:Form):OC f=⟨f.kind,f.name,f.n,[],JY f.kids⟩:=by cases f; simp only[OC]
theorem MO:∀l:List Form,JY l=l.map OC
 | []=>rfl
 | x::r=>by simp only[JY,List.map_cons,MO r]
mutual
theorem JZ:∀f:Form,(xZ f).length≤wF f
 | ⟨k,nm,n,sc,kids⟩=>by have:=MQ kids; simp only[xZ,wF,List.length_append]; omega
theorem MQ:∀l:List Form,(vw l).length≤qj l
 | []=>by simp[vw]
 | x::r=>by have:=JZ x; have:=MQ r; simp only[vw,qj,List.length_append]; omega
end
mutual
theorem Rf:∀f:Form,iK (OC f) f=FN f
 | ⟨k,nm,n,sc,kids⟩=>by
  have ih:=MR kids;rw[Bool.eq_iff_iff];simp only[OC,iK,FN,xZ,ih,decide_true,Bool.true_and,Bool.and_eq_true,decide_eq_true_eq,List.append_eq_nil_iff];exact⟨fun⟨a,b⟩=>⟨a.symm,b⟩,fun⟨a,b⟩=>⟨a.symm,b⟩⟩
theorem MR:∀l:List Form,jQ (JY l) l=decide (vw l=[])
 | []=>rfl
 | x::r=>by
  have ih:=Rf x;have ih2:=MR r;rw[Bool.eq_iff_iff];simp only[JY,jQ,ih,ih2,FN,vw,Bool.and_eq_true,decide_eq_true_eq,List.append_eq_nil_iff]
end
def RZ (c:Core):Bool:=
 (if c.kind=1 then decide (1≤c.id)&&decide (c.id≤999) else decide (c.id=0)) &&
 ((if c.kind=2 then nameB c.name else decide (c.name=[])) &&
 ((if c.kind=3 then decide (0≤c.n)&&decide (c.n≤999) else decide (c.n=0)) &&
 ((if c.kind=4 then gW c.data&&FN c.data else iK c.data zF) &&
 (decide (c.kind=5)||decide (c.ids=[])))))
def FP (k:Int) (m:Nat):Bool:=if k=1∨k=2∨k=3∨k=4 then decide (m=0) else if k=5 then decide (m=1) else if k=6 then decide (1≤m) else if k=7 then decide (m=3) else false
def FQ:List Int→List Int→Option (List Int)
 | sc,[]=>some sc
 | sc,x::r=>if(1≤x∧x≤999)∧x∉sc then FQ (sc++[x]) r else none
theorem OD:∀{ids sc s:List Int},FQ sc ids=some s→s.length=sc.length+ids.length
 | [],sc,s,h=>by cases h; rfl
 | x::r,sc,s,h=>by
  simp only[FQ] at h;split at h
  ·have:=OD h; simp at this ⊢; omega
  ·cases h
def wG:Nat→List Int→Core→Bool
 | 0,_,_=>false
 | d+1,sc,c=>FP c.kind c.kids.length&&(RZ c&&((!decide (c.kind=1)||decide (c.id∈sc))&&(match FQ sc c.ids with
  | none=>false
  | some s=>c.kids.all (wG d s))))
mutual
def cC:Core→Nat
 | ⟨_,_,_,_,_,_,kids⟩=>1+EM kids
def EM:List Core→Nat
 | []=>0
 | x::r=>cC x+EM r
end
theorem MS (f:Core):cC f=1+EM f.kids:=by cases f; simp only[cC]
mutual
theorem MV:∀f:Core,cC f≤wC f+1
 | ⟨k,id,nm,n,ids,dt,kids⟩=>by have:=Z4 kids; simp only[cC,wC]; omega
theorem Z4:∀l:List Core,EM l≤tK l+l.length
 | []=>by simp[EM]
 | x::r=>by have:=MV x; have:=Z4 r; simp only[EM,tK,List.length_cons]; omega
end
theorem EN:∀{l:List Core} {x:Core},x∈l→cC x≤EM l
 | y::r,x,h=>by
  simp only[EM];rcases List.mem_cons.1 h with rfl | h
  ·omega
  ·have:=EN h; omega
def jr (c:Core):Bool:=wG 120 [] c&&decide (cC c≤600)
theorem VN (n:Nat) (l:List Int) (x:Int):slices_Contains_int n l x=some (decide (x∈l)):=by
 unfold slices_Contains_int slices_Index_int;have main:∀(l:List Int) (i:Nat),∃k:Int,bH (Mx.bV (fun(_:Unit) (i:Nat) (y:Int)=>((if x=y then some (Sum.inl (i:Int)) else some (Sum.inr ())):Option (Int⊕Unit))) i l ()) (fun _=>some (-1))=some k∧(k≥0↔x∈l):=by
  intro l
  induction l with
  | nil=>intro i; exact⟨-1,rfl,by simp⟩
  | cons y r ih=>
   intro i;by_cases h:x=y
   ·subst h;exact⟨(i:Int),by simp[Mx.bV,Mx.bH],by simp⟩
   ·obtain⟨k,h1,h2⟩:=ih (i+1);refine⟨k,?_,by rw[h2]; simp[h]⟩;rw[← h1];simp[Mx.bV,h]
 obtain⟨k,h1,h2⟩:=main l 0;rw[h1,Option.bind_some];congr 1;rw[Bool.eq_iff_iff,decide_eq_true_eq,decide_eq_true_eq]; exact h2
theorem Z5 (n:Nat) (l:List Int) (x:Int):fG n l x=some (decide (x∈l)):=VN n l x
theorem VO (f:Form) (w:List Int) (hw:w.length+wF f≤1073741824):gG (fun n=>dR n f w) (w++xZ f):=by
 have he:=En f;refine .succ ?_;simp only[dR,qV];refine Ex.Ai ?_;rw[dJ (by omega)];simp only[Option.bind_some];refine Ex.bind (P:=fun s=>s=w++xZ f) ?_ (fun s hs=>.pure hs);refine Ex.dY (I:=fun i q s=>s++vw q=w++xZ f∧s.length+qj q+q.length≤1073741824∧∀x∈q,x∈f.kids) ⟨by rw[ZY,List.append_assoc],by simp; omega,fun _ h=>h⟩ ?_ ?_
 ·rintro i x q s ⟨h1,h2,h3⟩;simp only[qj,List.length_cons] at h2;have g4:=h3 x (List.mem_cons_self);refine .bv (VO x s (by omega)) (.pure ⟨?_,?_,fun y hy=>h3 y (List.mem_cons_of_mem _ hy)⟩)
  ·rw[← h1]; simp only[vw,List.append_assoc]
  ·have:=JZ x;simp only[List.length_append]; omega
 ·rintro s ⟨h1,_,_⟩
  simpa [vw] using h1
termination_by SizeOf.sizeOf f
decreasing_by exact jG g4
theorem Rh {l:List Int}:(Lib.compact l).length=0↔l=[]:=by
 constructor
 ·intro h;cases l with
  | nil=>rfl
  | cons x r=>
   exfalso;have h:Lib.compact (x::r)=[]:=List.eq_nil_of_length_eq_zero h;unfold Lib.compact Lib.compactUpTo at h;rw[List.map_eq_nil_iff,List.filter_eq_nil_iff] at h;exact h 0 (by simp) (by simp[Lib.keeps])
 ·rintro rfl; rfl
theorem acs (f:Form) (hw:wF f≤1073741824) (hv:gW f=true):Ex (fun n=>rG n f) (fun r=>decide ((r.length:Int)>0)=!FN f):=by
 unfold rG;refine .bv (VH f (JU f hw)) ?_;rw[hv];refine .neg (by simp) (.bv (VO f [] (by simp; omega)) ?_);have hl:=JZ f;rw[List.nil_append];unfold kL kZ;refine .bp _ (if_pos (by omega)) (.bp () (abS (by simp)) (.bp _ rfl (.pure ?_)));unfold FN;generalize hs:(xZ f).mergeSort (fun x y=>decide (x≤y))=s;have hsl:s.length=(xZ f).length:=by rw[← hs]; simp
 by_cases h:xZ f=[]
 ·have:s=[]:=List.eq_nil_of_length_eq_zero (by rw[hsl,h]; rfl);rw[this,h]; rfl
 ·have h1:s≠[]:=fun e=>h (List.eq_nil_of_length_eq_zero (by rw[← hsl,e]; rfl));have h2:(Lib.compact s).length≠0:=fun e=>h1 (Rh.1 e);rw[decide_eq_true (by omega),decide_eq_false h]; rfl
theorem aeT (sc ids:List Int) (hl:sc.length+ids.length≤1073741824) {ω:Type} (no:ω) (N:Nat):Mx.bV (fun(KX:List Int) (i40:Nat) (x43:Int)=>(Option.bind ((iV N x43 1 999).bind fun k51=>(if(!k51)=true then some true else(fG N KX x43).bind fun k53=>some k53):Option (Bool)) (fun(o48:Bool)=>(if o48=true then some (Sum.inl no) else(jH 8 KX [x43]).bind fun z50=>some (Sum.inr z50))):Option (ω⊕(List Int)))) 0 ids sc=some (match FQ sc ids with
  | none=>.inl no
  | some s=>.inr s):=by
 have main:∀(ids sc:List Int) (i:Nat),sc.length+ids.length≤1073741824→Mx.bV (fun(KX:List Int) (i40:Nat) (x43:Int)=>(Option.bind ((iV N x43 1 999).bind fun k51=>(if(!k51)=true then some true else(fG N KX x43).bind fun k53=>some k53):Option (Bool)) (fun(o48:Bool)=>(if o48=true then some (Sum.inl no) else(jH 8 KX [x43]).bind fun z50=>some (Sum.inr z50))):Option (ω⊕(List Int)))) i ids sc=some (match FQ sc ids with
  | none=>.inl no
  | some s=>.inr s):=by
  simp only[MN,Z5,Option.bind_some];intro ids
  induction ids with
  | nil=>intro sc i _; rfl
  | cons x r ih=>
   intro sc i hb;simp only[List.length_cons] at hb;simp only[Mx.bV,FQ];by_cases h1:1≤x∧x≤999
   ·simp only[h1.1,h1.2,decide_true,Bool.and_self,Bool.not_true,Bool.false_eq_true,if_false,Option.bind_some,true_and,and_self];by_cases h2:x∈sc
    ·simp only[h2,decide_true,if_true,Option.bind_some,not_true_eq_false,if_false]
    ·simp only[h2,decide_false,Bool.false_eq_true,if_false,not_false_eq_true,if_true];rw[dJ (by simp; omega)];simp only[Option.bind_some];exact ih (sc++[x]) (i+1) (by simp; omega)
   ·have h1':(decide (1≤x)&&decide (x≤999))=false:=by
     rw[Bool.eq_false_iff]; simpa using h1
    simp only[h1',Bool.not_false,if_true,Option.bind_some,h1,false_and,if_false]
 exact main ids sc 0 hl
def XF (c:Core):Bool:=
 (if c.kind=1 then decide (1≤c.id)&&decide (c.id≤999) else decide (c.id=0)) &&
 ((if c.kind=2 then nameB c.name else decide (c.name=[])) &&
 ((if c.kind=3 then decide (0≤c.n)&&decide (c.n≤999) else decide (c.n=0)) &&
 (if c.kind=4 then gW c.data&&FN c.data else iK c.data zF)))
theorem aeU (c:Core):RZ c=(XF c&&(decide (c.kind=5)||decide (c.ids=[]))):=by simp only[RZ,XF,Bool.and_assoc]
theorem EO {c:Core} (h:c.kind≠5) (d:Nat) (sc:List Int):wG (d+1) sc c=(FP c.kind c.kids.length&&(XF c&&((!decide (c.kind=1)||decide (c.id∈sc))&&(decide (c.ids=[])&&c.kids.all (wG d sc))))):=by
 simp only[wG,aeU,decide_eq_false h,Bool.false_or];by_cases hi:c.ids=[]
 ·rw[hi];simp only[FQ,decide_true,Bool.and_true,Bool.true_and]
 ·rw[decide_eq_false hi]; simp
theorem bare_eq (c:Core) (a:Int) (b:List UInt8) (e:Int) (g:List Int) (dt:Form):A8 c ⟨c.kind,a,b,e,g,dt,c.kids⟩=(decide (c.id=a)&&(decide (c.name=b)&&(decide (c.n=e)&&(decide (c.ids=g)&&iK c.data dt)))):=by
 rw[Q8];simp only[decide_true,Bool.true_and,yX.2,Bool.and_true]
theorem kd1 (m:Nat):FP 1 m=decide (m=0):=by simp[FP]
theorem kd2 (m:Nat):FP 2 m=decide (m=0):=by simp[FP]
theorem kd3 (m:Nat):FP 3 m=decide (m=0):=by simp[FP]
theorem kd4 (m:Nat):FP 4 m=decide (m=0):=by simp[FP]
theorem kd5 (m:Nat):FP 5 m=decide (m=1):=by simp[FP]
theorem kd6 (m:Nat):FP 6 m=decide (1≤m):=by simp[FP]
theorem kd7 (m:Nat):FP 7 m=decide (m=3):=by simp[FP]
theorem OE (c:Core) (k:Nat):decide ((c.kids.length:Int)=(k:Int))=decide (c.kids.length=k):=by simp only[decide_eq_decide]; omega
theorem Z7 (c:Core) (d:Nat) (hd:d≤120) (sc:List Int) (hw:sc.length+wC c≤1073741824) (L:Nat) (hL:L≤600):Ex (fun n=>tV n c sc ((121-d:Nat):Int) (L:Int)) (fun r=>(r.1=true↔wG d sc c=true∧cC c≤L)∧(r.1=true→r.2=((L-cC c:Nat):Int))):=by
 have he:=Eo c;have hc:=MS c;refine .succ ?_;simp only[tV];have e1:aY ((L:Int)-1)=(L:Int)-1:=kK (by omega) (by omega);rw[e1];by_cases h0:(L:Int)-1<0
 ·simp only[if_pos h0,Option.bind_some,if_true];refine .pure ⟨⟨fun h=>(by cases h),fun h=>(by omega)⟩,fun h=>(by cases h)⟩
 rw[if_neg h0];by_cases hd0:d=0
 ·subst hd0;simp only[show decide (((121-0:Nat):Int)>120)=true from rfl,Option.bind_some,if_true];refine .pure ⟨⟨fun h=>(by cases h),fun h=>(by simp[wG] at h)⟩,fun h=>(by cases h)⟩
 obtain⟨d,rfl⟩:∃e,d=e+1:=⟨d-1,by omega⟩
 have hdd:decide (((121-(d+1):Nat):Int)>120)=false:=by simp; omega
 simp only[hdd,Option.bind_some,Bool.false_eq_true,if_false];have l0:decide ((c.kids.length:Int)=0)=decide (c.kids.length=0):=OE c 0;have l1:decide ((c.kids.length:Int)=1)=decide (c.kids.length=1):=OE c 1;have l3:decide ((c.kids.length:Int)=3)=decide (c.kids.length=3):=OE c 3;refine Ex.bH (P:=fun o=>match o with
  | .inl w=>w=(false,(L:Int)-1)∧wG (d+1) sc c=false
  | .inr t=>wG (d+1) sc c=(decide ((c.kids.length:Int)=t.1)&&(A8 c ⟨c.kind,t.2.2.1,t.2.2.2.1,t.2.2.2.2.1,t.2.2.2.2.2.1,⟨t.2.2.2.2.2.2.1,t.2.2.2.2.2.2.2.1,t.2.2.2.2.2.2.2.2.1,t.2.2.2.2.2.2.2.2.2.1,t.2.2.2.2.2.2.2.2.2.2⟩,c.kids⟩&&c.kids.all (wG d t.2.1)))∧t.2.1.length≤sc.length+c.ids.length) ?_ ?_ ?_
 ·by_cases k1:c.kind=1
  ·refine .pos k1 ?_;have hcr:=EO (c:=c) (by omega) d sc;simp only[MN,VN,Option.bind_some];rw[k1] at hcr;simp only[decide_true,Bool.not_true,Bool.false_or] at hcr;refine Ex.bind (P:=fun o=>o=!((decide (1≤c.id)&&decide (c.id≤999))&&decide (c.id∈sc))) ?_ ?_
   ·cases (decide (1≤c.id)&&decide (c.id≤999)) with
    | false=>exact .pos rfl (.pure rfl)
    | true=>exact .neg (by simp) (.pure (by simp))
   ·rintro o rfl;have hf:XF c=((decide (1≤c.id)&&decide (c.id≤999))&&(decide (c.name=[])&&(decide (c.n=0)&&iK c.data zF))):=by unfold XF; simp[k1]
    rw[hf] at hcr;cases hq:((decide (1≤c.id)&&decide (c.id≤999))&&decide (c.id∈sc)) with
    | false=>
     refine .pos rfl (.pure ⟨rfl,?_⟩);rw[hcr];rcases Bool.and_eq_false_iff.1 hq with h | h <;> rw[h] <;> simp
    | true=>
     obtain⟨h1,h2⟩:=(Bool.and_eq_true _ _▸hq:_∧_)
     refine .neg (by simp) (.pure ⟨?_,by simp⟩);rw[hcr,bare_eq,h1,h2];simp only[decide_true,Bool.true_and,l0,l1,l3,kd1,kd2,kd3,kd4,kd6,kd7,zF]
     ac_rfl
  refine .neg k1 ?_;by_cases k2:c.kind=2
  ·refine .pos k2 (.bv (VF _ (by unfold Kt; omega)) ?_);have hcr:=EO (c:=c) (by omega) d sc;have hf:XF c=(decide (c.id=0)&&(nameB c.name&&(decide (c.n=0)&&iK c.data zF))):=by unfold XF; simp[k2]
   rw[hf,k2] at hcr;cases hq:nameB c.name with
   | false=>exact .pos rfl (.pure ⟨rfl,by rw[hcr,hq]; simp⟩)
   | true=>
    refine .neg (by simp) (.pure ⟨?_,by simp⟩);rw[hcr,bare_eq,hq];simp only[decide_true,Bool.true_and,l0,l1,l3,kd1,kd2,kd3,kd4,kd6,kd7,zF,show decide ((2:Int)=1)=false from rfl,Bool.not_false,Bool.true_or]
    ac_rfl
  refine .neg k2 ?_;by_cases k3:c.kind=3
  ·refine .pos k3 ?_;have hcr:=EO (c:=c) (by omega) d sc;have hf:XF c=(decide (c.id=0)&&(decide (c.name=[])&&((decide (0≤c.n)&&decide (c.n≤999))&&iK c.data zF))):=by unfold XF; simp[k3]
   rw[hf,k3] at hcr;simp only[MN,Option.bind_some];cases hq:(decide (0≤c.n)&&decide (c.n≤999)) with
   | false=>exact .pos rfl (.pure ⟨rfl,by rw[hcr,hq]; simp⟩)
   | true=>
    refine .neg (by simp) (.pure ⟨?_,by simp⟩);rw[hcr,bare_eq,hq];simp only[decide_true,Bool.true_and,l0,l1,l3,kd1,kd2,kd3,kd4,kd6,kd7,zF,show decide ((3:Int)=1)=false from rfl,Bool.not_false,Bool.true_or]
    ac_rfl
  refine .neg k3 ?_;by_cases k4:c.kind=4
  ·refine .pos k4 ?_;have hcr:=EO (c:=c) (by omega) d sc;have hf:XF c=(decide (c.id=0)&&(decide (c.name=[])&&(decide (c.n=0)&&(gW c.data&&FN c.data)))):=by unfold XF; simp[k4]
   rw[hf,k4] at hcr;refine Ex.bind (P:=fun o=>o=!(gW c.data&&FN c.data)) ?_ ?_
   ·refine .bv (VH _ (JU _ (by omega))) ?_;cases hv:gW c.data with
    | false=>exact .pos rfl (.pure rfl)
    | true=>
     refine .neg (by simp) (Ex.bind (acs _ (by omega) hv) ?_);intro r hr;exact .pure (by rw[hr,Bool.true_and])
   ·rintro o rfl;cases hq:(gW c.data&&FN c.data) with
    | false=>exact .pos rfl (.pure ⟨rfl,by rw[hcr,hq]; simp⟩)
    | true=>
     refine .neg (by simp) (.pure ⟨?_,by simp⟩);have hd0:iK c.data ⟨c.data.kind,c.data.name,c.data.n,c.data.scopes,c.data.kids⟩=true:=FM.2 (by cases c.data; rfl);rw[hcr,bare_eq,hq];simp only[];rw[hd0];simp only[decide_true,Bool.true_and,l0,l1,l3,kd1,kd2,kd3,kd4,kd6,kd7,show decide ((4:Int)=1)=false from rfl,Bool.not_false,Bool.true_or,Bool.and_true]
     ac_rfl
  refine .neg k4 ?_;by_cases k5:c.kind=5
  ·refine .pos k5 ?_;unfold slices_Clone_int;rw[nZ (by omega)];simp only[Option.bind_some];have hf:RZ c=(decide (c.id=0)&&(decide (c.name=[])&&(decide (c.n=0)&&iK c.data zF))):=by unfold RZ; simp[k5]
   have hcr:wG (d+1) sc c=(decide (c.kids.length=1)&&((decide (c.id=0)&&(decide (c.name=[])&&(decide (c.n=0)&&iK c.data zF)))&&(match FQ sc c.ids with
    | none=>false
    | some s=>c.kids.all (wG d s)))):=by
    simp only[wG,hf,k5,kd5,show decide ((5:Int)=1)=false from rfl,Bool.not_false,Bool.true_or,Bool.true_and]
   simp only[aeT sc c.ids (by omega)];cases hq:FQ sc c.ids with
   | none=>exact .pure ⟨rfl,by rw[hcr,hq]; simp⟩
   | some s=>
    refine .pure ⟨?_,by rw[OD hq]; exact Nat.le_refl _⟩;rw[hcr,hq,bare_eq];simp only[decide_true,Bool.true_and,l1,zF]
  refine .neg k5 ?_;have hcr:=EO (c:=c) k5 d sc;have hf:XF c=(decide (c.id=0)&&(decide (c.name=[])&&(decide (c.n=0)&&iK c.data zF))):=by unfold XF; simp[k1,k2,k3,k4]
  rw[hf,decide_eq_false k1] at hcr;by_cases k6:c.kind=6
  ·refine .pos k6 (.pure ⟨?_,by simp⟩);have hm:decide ((c.kids.length:Int)=(if(c.kids.length:Int)>1 then(c.kids.length:Int) else 1))=decide (1≤c.kids.length):=by
    rw[Bool.eq_iff_iff,decide_eq_true_eq,decide_eq_true_eq];split <;> constructor <;> intro h <;> omega
   rw[hcr,bare_eq];simp only[];rw[hm,k6];simp only[decide_true,Bool.true_and,l0,l1,l3,kd1,kd2,kd3,kd4,kd6,kd7,zF,Bool.not_false,Bool.true_or]
   ac_rfl
  refine .neg k6 ?_;by_cases k7:c.kind=7
  ·refine .pos k7 (.pure ⟨?_,by simp⟩);rw[hcr,bare_eq,k7];simp only[decide_true,Bool.true_and,l0,l1,l3,kd1,kd2,kd3,kd4,kd6,kd7,zF,Bool.not_false,Bool.true_or]
   ac_rfl
  ·refine .neg k7 (.pure ⟨rfl,?_⟩);rw[hcr];have:FP c.kind c.kids.length=false:=by unfold FP; simp[k1,k2,k3,k4,k5,k6,k7]
   rw[this]; rfl
 ·rintro w ⟨rfl,h⟩;exact⟨⟨fun h=>(by cases h),fun h'=>by rw[h] at h'; cases h'.1⟩,fun h=>(by cases h)⟩
 ·rintro ⟨m,s,a,b,e,g,dk,dn,dm,ds,dl⟩ ⟨hcr,hsl⟩;simp only at hcr hsl ⊢;refine Ex.bind (P:=fun o=>o=!(decide ((c.kids.length:Int)=m)&&A8 c ⟨c.kind,a,b,e,g,⟨dk,dn,dm,ds,dl⟩,c.kids⟩)) ?_ ?_
  ·by_cases hm:(c.kids.length:Int)=m
   ·refine .neg (fun h=>h hm) (.bv (VL _ _) (.pure ?_));rw[decide_eq_true hm,Bool.true_and]
   ·refine .pos hm (.pure ?_);rw[decide_eq_false hm]; rfl
  ·rintro o rfl;rw[← Bool.and_assoc] at hcr;cases hq:(decide ((c.kids.length:Int)=m)&&A8 c ⟨c.kind,a,b,e,g,⟨dk,dn,dm,ds,dl⟩,c.kids⟩) with
   | false=>
    rw[hq,Bool.false_and] at hcr;exact .pos rfl (.pure ⟨⟨fun h=>(by cases h),fun h'=>by rw[hcr] at h'; cases h'.1⟩,fun h=>(by cases h)⟩)
   | true=>
    rw[hq,Bool.true_and] at hcr;refine .neg (by simp) ?_;have e2:aY (((121-(d+1):Nat):Int)+1)=((121-d:Nat):Int):=by rw[kK (by omega) (by omega)]; omega
    rw[e2];refine Ex.bH (P:=fun o=>match o with
     | .inl w=>w.1=false∧¬(c.kids.all (wG d s)=true∧EM c.kids≤L-1)
     | .inr t=>c.kids.all (wG d s)=true∧EM c.kids≤L-1∧t=((L-1-EM c.kids:Nat):Int)) ?_ ?_ ?_
    ·refine Ex.bV (I:=fun i q t=>∃u:Nat,t=(u:Int)∧u≤600∧(c.kids.all (wG d s)=true∧EM c.kids≤L-1↔q.all (wG d s)=true∧EM q≤u)∧u+EM c.kids=L-1+EM q∧∀x∈q,x∈c.kids) ?_ ?_ ?_
     ·exact⟨L-1,by omega,by omega,Iff.rfl,rfl,fun _ h=>h⟩
     ·rintro i x q t ⟨u,rfl,hu,hiff,hsum,hmem⟩;have hx:=hmem x (List.mem_cons_self);refine Ex.bind (Z7 x d (by omega) s (by have:=BL hx; omega) u hu) ?_;rintro ⟨b,s'⟩ ⟨r1,r2⟩;simp only at r1 r2;cases b with
      | false=>
       refine .pos rfl (.fo ⟨rfl,fun h=>?_⟩);have h':=hiff.1 h;simp only[List.all_cons,Bool.and_eq_true,EM] at h';have:=r1.2 ⟨h'.1.1,by omega⟩;cases this
      | true=>
       obtain⟨q1,q2⟩:=r1.1 rfl;refine .neg (by simp) (.fg ⟨u-cC x,r2 rfl,by omega,?_,by simp only[EM] at hsum; omega,fun y hy=>hmem y (List.mem_cons_of_mem _ hy)⟩);rw[hiff];simp only[List.all_cons,Bool.and_eq_true,EM,q1,true_and];constructor <;> intro h <;> exact⟨h.1,by omega⟩
     ·rintro t ⟨u,rfl,hu,hiff,hsum,_⟩;have h:=hiff.2 ⟨rfl,by simp[EM]⟩;simp only[EM] at hsum;exact⟨h.1,h.2,by omega⟩
    ·rintro ⟨b,t⟩ ⟨h1,h2⟩;simp only at h1;subst h1;refine⟨⟨fun h=>(by cases h),fun h=>absurd ⟨hcr▸h.1,by omega⟩ h2⟩,fun h=>(by cases h)⟩
    ·rintro t ⟨h1,h2,h3⟩;exact .pure ⟨⟨fun _=>⟨hcr.trans h1,by omega⟩,fun _=>rfl⟩,fun _=>by simp only; omega⟩
termination_by SizeOf.sizeOf c
decreasing_by exact uK hx
theorem H6 (c:Core) (hw:wC c≤1073741824):gG (fun n=>jM n c) (jr c):=by
 refine Ex.Ai ?_;unfold jM;refine Ex.bind (Z7 c 120 (by omega) [] (by simp; omega) 600 (by omega)) ?_;rintro ⟨b,s⟩ ⟨r1,_⟩;refine .pure ?_;simp only at r1 ⊢;unfold jr;rw[Bool.eq_iff_iff,r1];simp
theorem BQ (n:Nat) (l:List Int) (x:Int):nT n l x=some (decide (x∈l)):=by
 unfold nT;have:=adf (step:=fun(_:Unit) (_:Nat) (y:Int)=>((if y=x then some (Sum.inl true) else some (Sum.inr ())):Option (Bool⊕Unit))) (p:=fun y=>!decide (y=x)) (no:=true) (f:=fun _=>some false) (xs:=l) (i:=0) (fun i y _=>by by_cases h:y=x <;> simp[h]);rw[this];by_cases h:x∈l
 ·rw[if_neg]
  ·simp[h]
  ·intro hall;rw[List.all_eq_true] at hall;have:=hall x h;simp at this
 ·rw[if_pos]
  ·simp[h]
  ·rw[List.all_eq_true];intro y hy;have:¬y=x:=fun e=>h (e▸hy);simp[this]
theorem MW (f:Form) (hw:wF f≤1073741824):gG (fun n=>gY n f) (OC f):=by
 have he:=En f;refine .succ ?_;simp only[gY];rw[acr,MO];refine Ex.Ai ?_;refine Ex.bind (P:=fun s=>s=f.kids.map OC) ?_ (fun s hs=>.pure (by rw[hs]));refine Ex.dY (I:=fun i q s=>s=(f.kids.take i).map OC∧f.kids.drop i=q) ⟨rfl,rfl⟩ ?_ ?_
 ·rintro i x q s ⟨rfl,hd⟩;obtain⟨g1,g2,g3,g4⟩:=jA hd;have hm:=BK g4;refine .bv (MW x (by omega)) (.bp _ (dJ (by simp; omega)) (.pure ⟨?_,g2⟩));rw[List.take_add_one,g1]; simp
 ·rintro s ⟨rfl,_⟩; simp
termination_by SizeOf.sizeOf f
decreasing_by exact jG g4
theorem aeV (n:Nat) (k:Int) (m:Nat):xA n k (m:Int)=some (FP k m):=by
 unfold xA FP;have a0:decide ((m:Int)=0)=decide (m=0):=by simp only[decide_eq_decide]; omega
 have a1:decide ((m:Int)=1)=decide (m=1):=by simp only[decide_eq_decide]; omega
 have a3:decide ((m:Int)=3)=decide (m=3):=by simp only[decide_eq_decide]; omega
 have a6:decide ((m:Int)≥1)=decide (1≤m):=by simp only[decide_eq_decide]; omega
 rw[a0,a1,a3,a6];by_cases h1:k=1
 ·subst h1; rfl
 by_cases h2:k=2
 ·subst h2; rfl
 by_cases h3:k=3
 ·subst h3; rfl
 by_cases h4:k=4
 ·subst h4; rfl
 simp only[h1,h2,h3,h4,if_false,decide_false,Option.bind_some,Bool.false_eq_true,or_self];by_cases h5:k=5
 ·subst h5; rfl
 by_cases h6:k=6
 ·subst h6; rfl
 by_cases h7:k=7
 ·subst h7; rfl
 simp only[h5,h6,h7,if_false,Option.bind_some]
theorem acu (c:Core) (hw:wC c≤1073741824):gG (fun n=>rM n c) (RZ c):=by
 have he:=Eo c;have hn:c.name.length≤Kt:=by unfold Kt; omega
 refine Ex.Ai ?_;unfold rM RZ;refine Ex.bind (P:=fun o=>o=!(if c.kind=1 then decide (1≤c.id)&&decide (c.id≤999) else decide (c.id=0))) ?_ ?_
 ·by_cases k:c.kind=1
  ·simp only[k,if_true,not_true_eq_false,if_false];by_cases h1:c.id<1
   ·exact .pos h1 (.pure (by rw[decide_eq_false (show ¬1≤c.id by omega)]; rfl))
   ·refine .neg h1 ?_;by_cases h2:c.id>999
    ·exact .pos h2 (.pure (by rw[decide_eq_false (show ¬c.id≤999 by omega)]; simp))
    ·exact .neg h2 (.pure (by rw[decide_eq_true (show c.id≤999 by omega),decide_eq_true (show 1≤c.id by omega)]; rfl))
  ·simp only[k,if_false,not_false_eq_true,if_true];exact .pure (by simp)
 rintro o rfl;cases (if c.kind=1 then decide (1≤c.id)&&decide (c.id≤999) else decide (c.id=0)) with
 | false=>exact .pos rfl (.pure rfl)
 | true=>
 refine .neg (by simp) ?_;simp only[Bool.true_and];refine Ex.bind (P:=fun o=>o=!(if c.kind=2 then nameB c.name else decide (c.name=[]))) ?_ ?_
 ·by_cases k:c.kind=2
  ·simp only[k,if_true,not_true_eq_false,if_false];refine .bv (Hz _ hn) ?_;cases nameB c.name with
   | false=>exact .pos rfl (.pure rfl)
   | true=>exact .neg (by simp) (.pure rfl)
  ·simp only[k,if_false,not_false_eq_true,if_true];exact .pure (by simp)
 rintro o rfl;cases (if c.kind=2 then nameB c.name else decide (c.name=[])) with
 | false=>exact .pos rfl (.pure rfl)
 | true=>
 refine .neg (by simp) ?_;simp only[Bool.true_and];refine Ex.bind (P:=fun o=>o=!(if c.kind=3 then decide (0≤c.n)&&decide (c.n≤999) else decide (c.n=0))) ?_ ?_
 ·by_cases k:c.kind=3
  ·simp only[k,if_true,not_true_eq_false,if_false];by_cases h1:c.n<0
   ·exact .pos h1 (.pure (by rw[decide_eq_false (show ¬0≤c.n by omega)]; rfl))
   ·refine .neg h1 ?_;by_cases h2:c.n>999
    ·exact .pos h2 (.pure (by rw[decide_eq_false (show ¬c.n≤999 by omega)]; simp))
    ·exact .neg h2 (.pure (by rw[decide_eq_true (show c.n≤999 by omega),decide_eq_true (show 0≤c.n by omega)]; rfl))
  ·simp only[k,if_false,not_false_eq_true,if_true];exact .pure (by simp)
 rintro o rfl;cases (if c.kind=3 then decide (0≤c.n)&&decide (c.n≤999) else decide (c.n=0)) with
 | false=>exact .pos rfl (.pure rfl)
 | true=>
 refine .neg (by simp) ?_;simp only[Bool.true_and];refine Ex.bind (P:=fun o=>o=!(if c.kind=4 then gW c.data&&FN c.data else iK c.data zF)) ?_ ?_
 ·by_cases k:c.kind=4
  ·simp only[k,if_true,not_true_eq_false,if_false];refine .bv (HY _ (JU _ (by omega)) (by have:=VG c.data; omega)) ?_;cases gW c.data with
   | false=>exact .pos rfl (.pure rfl)
   | true=>
    refine .neg (by simp) (.bv (MW _ (by omega)) (.bv (yY _ _) ?_));rw[Rf];cases FN c.data with
    | false=>exact .pos rfl (.pure rfl)
    | true=>exact .neg (by simp) (.pure rfl)
  ·simp only[k,if_false,not_false_eq_true,if_true];exact .bv (yY _ _) (.pure rfl)
 rintro o rfl;cases (if c.kind=4 then gW c.data&&FN c.data else iK c.data zF) with
 | false=>exact .pos rfl (.pure rfl)
 | true=>
 refine .neg (by simp) ?_;simp only[Bool.true_and];refine Ex.bind (P:=fun o=>o=(decide (c.kind=5)||decide (c.ids=[]))) ?_ (fun o ho=>.pure ho);by_cases k:c.kind=5
 ·exact .pos k (.pure (by simp[k]))
 ·refine .neg k (.pure ?_);rw[decide_eq_false k,Bool.false_or,Bool.eq_iff_iff];simp
theorem VP (c:Core) (d:Nat) (hd:d≤120) (sc:List Int) (hw:sc.length+wC c≤1073741824):gG (fun n=>yN n c sc (d:Int)) (wG d sc c):=by
 have he:=Eo c;refine .succ ?_;simp only[yN];refine Ex.Ai ?_;by_cases hd0:d=0
 ·subst hd0;simp only[show((0:Nat):Int)=0 from rfl,if_true,Option.bind_some];exact .pure rfl
 obtain⟨d,rfl⟩:∃e,d=e+1:=⟨d-1,by omega⟩
 refine Ex.bind (P:=fun o=>o=!(FP c.kind c.kids.length&&(RZ c&&(!decide (c.kind=1)||decide (c.id∈sc))))) ?_ ?_
 ·refine .neg (by omega) ?_;simp only[aeV,Option.bind_some];cases FP c.kind c.kids.length with
  | false=>exact .pos rfl (.pure rfl)
  | true=>
   refine .neg (by simp) (.bv (acu c (by omega)) ?_);cases RZ c with
   | false=>exact .pos rfl (.pure rfl)
   | true=>
    refine .neg (by simp) ?_;by_cases k:c.kind=1
    ·refine .pos k ?_;simp only[BQ,Option.bind_some];exact .pure (by simp[k])
    ·exact .neg k (.pure (by simp[k]))
 rintro o rfl;have hq:wG (d+1) sc c=((FP c.kind c.kids.length&&(RZ c&&(!decide (c.kind=1)||decide (c.id∈sc))))&&(match FQ sc c.ids with
  | none=>false
  | some s=>c.kids.all (wG d s))):=by simp only[wG,Bool.and_assoc]
 rw[hq];cases (FP c.kind c.kids.length&&(RZ c&&(!decide (c.kind=1)||decide (c.id∈sc)))) with
 | false=>exact .pos rfl (.pure rfl)
 | true=>
 refine .neg (by simp) ?_;rw[Bool.true_and];refine Ex.bH (P:=fun o=>match o with
  | .inl w=>w=false∧FQ sc c.ids=none
  | .inr s=>FQ sc c.ids=some s) ?_ ?_ ?_
 ·refine Ex.bV (I:=fun i q s=>FQ sc c.ids=FQ s q∧s.length+q.length=sc.length+c.ids.length) ⟨rfl,rfl⟩ ?_ ?_
  ·rintro i x q s ⟨h1,h2⟩;simp only[List.length_cons] at h2;simp only[FQ] at h1;simp only[BQ,Option.bind_some];by_cases a1:x<1
   ·simp only[if_pos a1,Option.bind_some,if_true];exact .fo ⟨rfl,by rw[h1,if_neg (fun h=>by have:=h.1.1; omega)]⟩
   rw[if_neg a1];by_cases a2:x>999
   ·simp only[if_pos a2,Option.bind_some,if_true];exact .fo ⟨rfl,by rw[h1,if_neg (fun h=>by have:=h.1.2; omega)]⟩
   rw[if_neg a2];by_cases a3:x∈s
   ·simp only[a3,decide_true,Option.bind_some,if_true];exact .fo ⟨rfl,by rw[h1,if_neg (fun h=>h.2 a3)]⟩
   ·simp only[a3,decide_false,Option.bind_some,Bool.false_eq_true,if_false];refine .bp s (nZ (by omega)) (.bp (s++[x]) (dJ (by simp; omega)) (.fg ⟨?_,by simp; omega⟩));rw[h1,if_pos ⟨⟨by omega,by omega⟩,a3⟩]
  ·rintro s ⟨h1,_⟩;rw[h1]; rfl
 ·rintro w ⟨rfl,h⟩;rw[h]
 ·intro s hs;have hs:FQ sc c.ids=some s:=hs;rw[hs];have hl:=OD hs;have e2:aY (((d+1:Nat):Int)-1)=(d:Int):=by rw[kK (by omega) (by omega)]; omega
  rw[e2];exact Ex.allI (m:=fun n x=>yN n x s (d:Int)) (p:=wG d s) (fun x hx=>VP x d (by omega) s (by have:=BL hx; omega)) (fun h=>.pure h.symm) (fun h=>h.symm)
termination_by SizeOf.sizeOf c
decreasing_by exact uK hx
theorem VQ (f:Core) (hw:cC f≤4611686018427387904):gG (fun n=>qC n f) (cC f:Int):=by
 have hc:=MS f;refine .succ ?_;simp only[qC];rw[hc];refine .bind (a:=((1+EM f.kids:Nat):Int)) ?_ (.pure _);exact Ex.aeS (b:=1) (c:=cC) (cs:=EM) rfl (fun _ _=>rfl) (by omega) (fun x hx=>VQ x (by have:=EN hx; omega))
termination_by SizeOf.sizeOf f
decreasing_by exact uK hx
theorem VR (c:Core) (hw:wC c≤1073741824):gG (fun n=>lT n c) (jr c):=by
 refine Ex.Ai ?_;unfold lT jr;refine Ex.bind (P:=fun b=>b=(wG 120 [] c&&decide (cC c≤600))) ?_ (fun b hb=>.pure hb);refine .bv (VP c 120 (by omega) [] (by simp; omega)) ?_;cases wG 120 [] c with
 | false=>exact .neg (by simp) (.pure rfl)
 | true=>
  refine .pos rfl (.bv (VQ c (by have:=MV c; omega)) (.pure ?_));rw[Bool.true_and]; simp only[decide_eq_decide]; omega
theorem OG (f:Form) (hw:wF f≤1000000000):gG (fun n=>iW n f) f:=by
 have he:=En f;refine .succ ?_;simp only[iW];refine Ex.Ai (.bp _ (nZ (by omega)) ?_);refine .bv (Ep (m:=fun n x=>iW n x) (be:=80) (by omega) (fun x hx=>OG x (by have:=BK hx; omega))) (.pure (by cases f; rfl))
termination_by SizeOf.sizeOf f
decreasing_by exact jG hx
theorem OH (c:Core) (hw:wC c≤1000000000):gG (fun n=>kD n c) c:=by
 have he:=Eo c;refine .succ ?_;simp only[kD];refine Ex.Ai (.bp _ (nZ (by omega)) (.bv (OG c.data (by omega)) ?_));refine .bv (Ep (m:=fun n x=>kD n x) (be:=168) (by omega) (fun x hx=>OH x (by have:=BL hx; omega))) (.pure (by cases c; rfl))
termination_by SizeOf.sizeOf c
decreasing_by exact uK hx
theorem iR {a:Int} {r:aZ} {B:Int} (h:Gd r B) (hB:1≤B):Ex (fun n=>aO n a r) (fun k=>Sp r k.2 1∧(1≤a→0≤k.1∧k.1<a)):=by
 obtain⟨v,r',h1,h2,h3⟩:=Vo (a:=a) h hB;exact⟨(v,r'),h1,h2,h3⟩
theorem yc {l:List Int} {r:aZ} {B:Int} (hl:1≤l.length) (h:Gd r B) (hB:1≤B):Ex (fun n=>dw n l r) (fun k=>Sp r k.2 1∧k.1∈l):=by
 obtain⟨v,r',h1,h2,h3⟩:=Za hl h hB;exact⟨(v,r'),h1,h2,h3⟩
theorem acv {l:List (List UInt8)} {r:aZ} {B:Int} (hl:1≤l.length) (h:Gd r B) (hB:1≤B):Ex (fun n=>jk n l r) (fun k=>Sp r k.2 1∧k.1∈l):=by
 obtain⟨v,r',h1,h2,h3⟩:=Za hl h hB;exact⟨(v,r'),h1,h2,h3⟩
theorem Un (b:List UInt8):Ex (fun n=>oI n b) (fun r=>Gd r 1000000000):=by
 unfold oI;by_cases h:(b.length:Int)>2000
 ·have hs:KL b 0 2000=some (b.take 2000):=by
   unfold KL;rw[if_pos ⟨by omega,by omega,by omega⟩]; simp
  refine Ex.bind (P:=fun o=>o.length≤2000) (.pos h (.bp _ hs (.pure (by simp; omega)))) ?_;intro o ho;exact .pure ⟨by show(0:Int)≤0; omega,by show(0:Int)+1000000000≤_; omega,ho⟩
 ·refine Ex.bind (P:=fun o=>o.length≤2000) (.neg h (.pure (by omega))) ?_;intro o ho;exact .pure ⟨by show(0:Int)≤0; omega,by show(0:Int)+1000000000≤_; omega,ho⟩
def bF:Nat→Int
 | 0=>3
 | d+1=>3+3*bF d
theorem Z8:∀d,3≤bF d
 | 0=>by simp[bF]
 | d+1=>by have:=Z8 d; simp only[bF]; omega
def yZ:Nat→Form→Prop
 | 0,f=>(f.kind=1∧f.n=0∧f.scopes=[]∧f.kids=[]∧f.name∈([[97],[98],[120],[121],[102],[105,102],[108,101,116],[43]]:List (List UInt8)))∨(f.kind=2∧f.name=[]∧f.scopes=[]∧f.kids=[]∧f.n∈([0,1,2,7,42,999]:List Int))
 | d+1,f=>((f.kind=1∧f.n=0∧f.scopes=[]∧f.kids=[]∧f.name∈([[97],[98],[120],[121],[102],[105,102],[108,101,116],[43]]:List (List UInt8)))∨(f.kind=2∧f.name=[]∧f.scopes=[]∧f.kids=[]∧f.n∈([0,1,2,7,42,999]:List Int)))∨(f.kind=3∧f.name=[]∧f.n=0∧f.scopes=[]∧f.kids.length≤3∧∀x∈f.kids,yZ d x)
theorem Ri {d:Nat} {f:Form} (h:yZ 0 f):yZ d f:=by
 cases d with
 | zero=>exact h
 | succ d=>exact .inl h
theorem VT {r:aZ} (h:Gd r 2):Ex (fun n=>(aO n 4 r).bind fun k3=>(if k3.1=0 then(dw n [0,1,2,7,42,999] k3.2).bind fun k5=>some ((⟨2,[],k5.1,[],[]⟩:Form),k5.2) else(jk n [[97],[98],[120],[121],[102],[105,102],[108,101,116],[43]] k3.2).bind fun k6=>(fH n k6.1).bind fun k7=>some (k7,k6.2))) (fun k=>Sp r k.2 2∧yZ 0 k.1):=by
 refine .bind (iR h (by omega)) fun k3 ⟨s1,_⟩=>?_;refine .ite (fun _=>?_) (fun _=>?_)
 ·refine .bind (yc (by simp) (h.to s1 (D:=1) (by omega)) (by omega)) fun k5 ⟨s2,hm⟩=>.pure ⟨s1.trans s2 (by omega),.inr ⟨rfl,rfl,rfl,rfl,hm⟩⟩
 ·refine .bind (acv (by simp) (h.to s1 (D:=1) (by omega)) (by omega)) fun k6 ⟨s2,hm⟩=>?_;unfold fH;exact .pure ⟨s1.trans s2 (by omega),.inl ⟨rfl,rfl,rfl,rfl,hm⟩⟩
theorem VU:∀(d:Nat),d≤10→∀(r:aZ),Gd r (bF d)→Ex (fun n=>lW n (d:Int) r) (fun k=>Sp r k.2 (bF d)∧yZ d k.1):=by
 intro d
 induction d with
 | zero=>
  intro _ r h;have h:Gd r 3:=h;refine .succ ?_;simp only[lW];refine Ex.bind (P:=fun o=>o=(true,r)) (.pos rfl (.pure rfl)) ?_;rintro o rfl;exact .pos rfl ((VT (h.to (.refl (Int.le_refl 0)) (D:=2) (by omega))).mono fun k ⟨a,b⟩=>⟨a.mono (by simp[bF]),b⟩)
 | succ d ih=>
  intro hd r h;have ih:=ih (by omega);have hB:=Z8 d;have h:Gd r (3+3*bF d):=h;refine .succ ?_;simp only[lW];refine Ex.bind (P:=fun o=>Sp r o.2 1) (.neg (by omega) (.bind (iR h (by omega)) fun k15 ⟨s1,_⟩=>.pure s1)) ?_;rintro ⟨b,r1⟩ s1;have g1:Gd r1 (2+3*bF d):=h.to s1 (by omega);refine .ite (fun _=>?_) (fun _=>?_)
  ·exact(VT (g1.to (.refl (Int.le_refl 0)) (D:=2) (by omega))).mono fun k ⟨a,b⟩=>⟨s1.trans a (by simp only[bF]; omega),Ri b⟩
  ·refine .bind (iR g1 (by omega)) fun k8 ⟨s2,hc⟩=>?_;obtain⟨hc0,hc1⟩:=hc (by omega);obtain⟨c,r2⟩:=k8;simp only at s2 hc0 hc1 ⊢;have g2:Gd r2 (3*bF d):=g1.to s2 (by omega);have e1:aY (((d+1:Nat):Int)-1)=(d:Int):=by rw[kK (by omega) (by omega)]; omega
   rw[e1];refine Ex.iter (fun s=>s.1.toNat) (fun s=>∃j:Nat,(j:Int)≤c∧s.1=c-j∧Sp r2 ⟨s.2.2.1,s.2.2.2⟩ (j*bF d)∧s.2.1.length=j∧∀x∈s.2.1,yZ d x) _ ⟨0,by omega,by simp,by simpa using (Sp.refl (r:=r2) (Int.le_refl 0)),rfl,by simp⟩ ?_;rintro ⟨cnt,l,b,p⟩ ⟨j,j0,j1,j2,j3,j4⟩;simp only at j1 j2 j3 j4 ⊢;have hj:j=0∨j=1∨j=2∨j=3:=by omega
   refine .ite (fun hp=>?_) (fun hp=>?_)
   ·have gj:Gd ⟨b,p⟩ (bF d):=g2.to j2 (by rcases hj with rfl | rfl | rfl | rfl <;> simp <;> omega);refine .bind (ih _ gj) fun k12 ⟨k2,k3⟩=>?_;have e2:aY (cnt-1)=cnt-1:=kK (by omega) (by omega);rw[e2];refine .bp _ (dJ (by simp; omega)) (Ex.pure ⟨fun _ e=>(by cases e),fun s' e=>?_⟩);cases e;refine⟨⟨j+1,by omega,by simp only; omega,?_,by simp; omega,?_⟩,by simp only; omega⟩
    ·refine j2.trans (D:=((j+1:Nat):Int)*bF d) k2 ?_;rcases hj with rfl | rfl | rfl | rfl <;> simp <;> omega
    ·intro x hx;rcases List.mem_append.1 hx with h | h
     ·exact j4 x h
     ·rw[List.mem_singleton.1 h]; exact k3
   ·refine Ex.pure ⟨fun w e=>?_,fun s' e=>(by cases e)⟩;cases e;refine⟨?_,.inr ⟨rfl,rfl,rfl,rfl,by simp only; omega,j4⟩⟩;refine s1.trans (s2.trans (j2.mono (C:=3*bF d) ?_) (D:=1+3*bF d) (by omega)) (by simp only[bF]; omega);rcases hj with rfl | rfl | rfl | rfl <;> simp <;> omega
def wD:Nat→Nat
 | 0=>3
 | d+1=>6+3*wD d
theorem Z9 {w:Nat}:∀{l:List Form},(∀x∈l,wF x≤w)→qj l≤l.length*w
 | [],_=>by simp[qj]
 | x::r,h=>by
  have h1:=h x (List.mem_cons_self);have h2:=Z9 (l:=r) (fun y hy=>h y (List.mem_cons_of_mem _ hy));simp only[qj,List.length_cons,Nat.succ_mul]; omega
theorem MX {f:Form} (h:yZ 0 f):wF f≤3:=by
 have hw:=En f;rcases h with ⟨h1,h2,h3,h4,h5⟩ | ⟨h1,h2,h3,h4,h5⟩
 ·rw[h3,h4] at hw;simp only[List.length_nil,qj,Nat.add_zero] at hw;simp only[List.mem_cons,List.not_mem_nil,or_false] at h5;rcases h5 with h | h | h | h | h | h | h | h <;> rw[h] at hw <;> simp at hw <;> omega
 ·rw[h2,h3,h4] at hw;simp[qj] at hw; omega
theorem J3:∀(d:Nat) {f:Form},yZ d f→wF f≤wD d
 | 0,f,h=>MX h
 | d+1,f,h=>by
  rcases h with h | ⟨h1,h2,h3,h4,h5,h6⟩
  ·have:=MX (f:=f) h;simp only[wD]; omega
  ·have hw:=En f;have:=Z9 (fun x hx=>J3 d (h6 x hx));have:f.kids.length*wD d≤3*wD d:=Nat.mul_le_mul_right _ h5;rw[h2,h4] at hw;simp only[List.length_nil] at hw;simp only[wD]; omega
def aac (sc:List Int) (c:Core):Prop:=
 (∃i,i∈sc∧c=⟨1,i,[],0,[],⟨0,[],0,[],[]⟩,[]⟩)∨(∃f,yZ 1 f∧c=⟨4,0,[],0,[],f,[]⟩)∨(∃s,s∈([[102],[43],[108,105,115,116]]:List (List UInt8))∧c=⟨2,0,s,0,[],⟨0,[],0,[],[]⟩,[]⟩)∨(∃i,i∈([0,1,5,42]:List Int)∧c=⟨3,0,[],i,[],⟨0,[],0,[],[]⟩,[]⟩)
theorem VW {sc:List Int} {c:Core} (h:aac sc c):wC c≤20:=by
 rcases h with ⟨i,_,rfl⟩ | ⟨f,hf,rfl⟩ | ⟨s,hs,rfl⟩ | ⟨i,_,rfl⟩
 ·simp[wC,tK,wF,qj]
 ·have:=J3 1 hf;simp only[wD] at this;simp only[wC,tK,List.length_nil]; omega
 ·simp only[List.mem_cons,List.not_mem_nil,or_false] at hs;rcases hs with rfl | rfl | rfl <;> simp[wC,tK,wF,qj]
 ·simp[wC,tK,wF,qj]
theorem VX {a1:List Int} {a3:Int} {r:aZ} (h:Gd r 19):Ex (fun n=>Option.bind ((if(a1.length:Int)>0 then(aO n 3 r).bind fun k15=>some ((decide (k15.1>0)),k15.2) else some (false,r)):Option (Bool×aZ)) (fun(o3:Bool×aZ)=>(if o3.1=true then(aO n (a1.length:Int) o3.2).bind fun k5=>(gQ a1 k5.1).bind fun e6=>some ((⟨1,e6,[],0,[],(⟨0,[],0,[],[]⟩:Form),[]⟩:Core),a3,k5.2) else(aO n 4 o3.2).bind fun k8=>(if k8.1=0 then(lW n 1 k8.2).bind fun k10=>some ((⟨4,0,[],0,[],k10.1,[]⟩:Core),a3,k10.2) else(if k8.1=1 then(jk n [[102],[43],[108,105,115,116]] k8.2).bind fun k12=>some ((⟨2,0,k12.1,0,[],(⟨0,[],0,[],[]⟩:Form),[]⟩:Core),a3,k12.2) else(dw n [0,1,5,42] k8.2).bind fun k13=>some ((⟨3,0,[],k13.1,[],(⟨0,[],0,[],[]⟩:Form),[]⟩:Core),a3,k13.2)))))) (fun k=>Sp r k.2.2 19∧aac a1 k.1):=by
 refine Ex.bind (P:=fun o=>Sp r o.2 1∧(o.1=true→1≤a1.length)) ?_ ?_
 ·refine .ite (fun hl=>.bind (iR h (by omega)) fun k15 ⟨s1,_⟩=>.pure ⟨s1,fun _=>by omega⟩) (fun hl=>.pure ⟨.refl (by omega),fun h=>by cases h⟩)
 rintro ⟨b0,r1⟩ ⟨s1,hb⟩;simp only at s1 hb ⊢;have g1:Gd r1 18:=h.to s1 (by omega);refine .ite (fun hb0=>?_) (fun _=>?_)
 ·have hl:=hb hb0;refine .bind (iR g1 (by omega)) fun k5 ⟨s2,hv⟩=>?_;obtain⟨v0,v1⟩:=hv (by omega);obtain⟨x,hx,hm⟩:=bY v0 v1;exact .bp x hx (.pure ⟨(s1.trans s2 (D:=2) (by omega)).mono (by omega),.inl ⟨x,hm,rfl⟩⟩)
 ·refine .bind (iR g1 (by omega)) fun k8 ⟨s2,_⟩=>?_;have g2:Gd k8.2 17:=g1.to s2 (by omega);refine .ite (fun _=>?_) (fun _=>.ite (fun _=>?_) (fun _=>?_))
  ·have e34:bF 1=12:=by simp[bF]
   refine .bind (VU 1 (by omega) k8.2 (by rw[e34]; exact⟨g2.1,by have:=g2.2.1; omega,g2.2.2⟩)) fun k10 ⟨s3,hf⟩=>?_;rw[e34] at s3;exact .pure ⟨(s1.trans (s2.trans s3 (D:=13) (by omega)) (D:=14) (by omega)).mono (by omega),.inr (.inl ⟨_,hf,rfl⟩)⟩
  ·refine .bind (acv (by simp) g2 (by omega)) fun k12 ⟨s3,hm⟩=>.pure ⟨(s1.trans (s2.trans s3 (D:=2) (by omega)) (D:=3) (by omega)).mono (by omega),.inr (.inr (.inl ⟨_,hm,rfl⟩))⟩
  ·refine .bind (yc (by simp) g2 (by omega)) fun k13 ⟨s3,hm⟩=>.pure ⟨(s1.trans (s2.trans s3 (D:=2) (by omega)) (D:=3) (by omega)).mono (by omega),.inr (.inr (.inr ⟨_,hm,rfl⟩))⟩
def bC:Nat→Int
 | 0=>20
 | d+1=>24+3*bC d
def XZ:Nat→Nat
 | 0=>20
 | d+1=>20+3*XZ d
theorem aad:∀d,20≤bC d
 | 0=>by simp[bC]
 | d+1=>by have:=aad d; simp only[bC]; omega
theorem acw:∀d,20≤XZ d
 | 0=>by simp[XZ]
 | d+1=>by simp only[XZ]; omega
theorem aae {w:Nat}:∀{l:List Core},(∀x∈l,wC x≤w)→tK l≤l.length*w
 | [],_=>by simp[tK]
 | x::r,h=>by
  have h1:=h x (List.mem_cons_self);have h2:=aae (l:=r) (fun y hy=>h y (List.mem_cons_of_mem _ hy));simp only[tK,List.length_cons,Nat.succ_mul]; omega
theorem acy:∀(d:Nat),d≤10→∀(sc:List Int) (last:Int) (r:aZ),sc.length≤1000000-2*d→Gd r (bC d)→Ex (fun n=>qL n sc (d:Int) last r) (fun k=>Sp r k.2.2 (bC d)∧wC k.1≤XZ d∧(aac sc k.1∨k.1.kids≠[])):=by
 intro d
 induction d with
 | zero=>
  intro _ sc last r hl h;have h:Gd r 20:=h;refine .succ ?_;simp only[qL];refine Ex.bind (P:=fun o=>o=(true,r)) (.pos rfl (.pure rfl)) ?_;rintro o rfl;exact .pos rfl ((VX (h.to (.refl (Int.le_refl 0)) (D:=19) (by omega))).mono fun k ⟨a,b⟩=>⟨a.mono (by simp[bC]),VW b,.inl b⟩)
 | succ d ih=>
  intro hd sc last r hl h;have ih:=ih (by omega);have hB:=aad d;have hW:=acw d;have h:Gd r (24+3*bC d):=h;refine .succ ?_;simp only[qL];refine Ex.bind (P:=fun o=>Sp r o.2 1) (.neg (by omega) (.bind (iR h (by omega)) fun k15 ⟨s1,_⟩=>.pure s1)) ?_;rintro ⟨b,r1⟩ s1;have g1:Gd r1 (23+3*bC d):=h.to s1 (by omega);refine .ite (fun _=>?_) (fun _=>?_)
  ·exact(VX (g1.to (.refl (Int.le_refl 0)) (D:=19) (by omega))).mono fun k ⟨a,b⟩=>⟨s1.trans a (by simp only[bC]; omega),by have:=VW b; simp only[XZ]; omega,.inl b⟩
  ·refine .bind (yc (by simp) g1 (by omega)) fun k18 ⟨s2,hk⟩=>?_;obtain⟨kd,r2⟩:=k18;simp only at s2 hk ⊢;have g2:Gd r2 (22+3*bC d):=g1.to s2 (by omega);refine Ex.bind (P:=fun o=>Sp r2 ⟨o.2.2.2.2.1,o.2.2.2.2.2⟩ 3∧o.1.length≤sc.length+2∧1≤o.2.2.1∧o.2.2.1≤3∧o.2.2.2.1.length≤2) ?_ ?_
   ·refine .ite (fun _=>?_) (fun _=>.ite (fun _=>?_) (fun _=>?_))
    ·refine .bind (yc (by simp) g2 (by omega)) fun k26 ⟨s3,hm⟩=>?_;obtain⟨c,r3⟩:=k26;simp only at s3 hm ⊢;have hc:0≤c∧c≤2:=by
      simp only[List.mem_cons,List.not_mem_nil,or_false] at hm;rcases hm with rfl | rfl | rfl <;> simp
     have g3:Gd r3 2:=g2.to s3 (by omega);refine Ex.iter (fun s=>s.2.2.1.toNat) (fun s=>∃j:Nat,(j:Int)≤c∧s.2.2.1=c-j∧Sp r3 ⟨s.2.2.2.2.1,s.2.2.2.2.2⟩ j∧s.2.2.2.1.length=j∧s.1.length=sc.length+j) _ ⟨0,by omega,by simp,by simpa using (Sp.refl (r:=r3) (Int.le_refl 0)),rfl,rfl⟩ ?_;rintro ⟨l,ct,cnt,nl,b,p⟩ ⟨j,j0,j1,j2,j3,j4⟩;simp only at j1 j2 j3 j4 ⊢;refine .ite (fun hp=>?_) (fun hp=>?_)
     ·refine .bind (yc (B:=1) (by simp) (g3.to j2 (by omega)) (by omega)) fun k30 ⟨s4,_⟩=>?_;have e2:aY (cnt-1)=cnt-1:=kK (by omega) (by omega);rw[e2];refine .bp _ (dJ (by simp; omega)) (.bp _ (nZ (by omega)) (.bp _ (dJ (by simp; omega)) (Ex.pure ⟨fun _ e=>(by cases e),fun s' e=>?_⟩)));cases e;exact⟨⟨j+1,by omega,by simp only; omega,j2.trans s4 (by omega),by simp; omega,by simp; omega⟩,by simp only; omega⟩
     ·refine Ex.pure ⟨fun w e=>?_,fun s' e=>(by cases e)⟩;cases e;exact⟨s3.trans (j2.mono (C:=2) (by omega)) (by omega),by simp only; omega,by simp,by simp,by simp only; omega⟩
    ·refine .bind (yc (by simp) g2 (by omega)) fun Gl ⟨s3,hm⟩=>?_;have hc:1≤Gl.1∧Gl.1≤3:=by
      have hm:=hm;simp only[List.mem_cons,List.not_mem_nil,or_false] at hm;rcases hm with h | h | h <;> rw[h] <;> simp
     exact .pure ⟨s3.mono (by omega),by simp,hc.1,hc.2,by simp⟩
    ·exact .pure ⟨.refl (by omega),by simp,by simp,by simp,by simp⟩
   ·rintro ⟨l2,ct2,c,nl,b3,p3⟩ ⟨s3,hl2,hc1,hc3,hnl⟩;simp only at s3 hl2 hc1 hc3 hnl ⊢;have g3:Gd ⟨b3,p3⟩ (3*bC d):=g2.to s3 (by omega);have e1:aY (((d+1:Nat):Int)-1)=(d:Int):=by rw[kK (by omega) (by omega)]; omega
    rw[e1];refine Ex.iter (fun s=>(c-s.2.1).toNat) (fun s=>∃j:Nat,(j:Int)≤c∧s.2.1=(j:Int)∧Sp ⟨b3,p3⟩ ⟨s.2.2.2.1,s.2.2.2.2⟩ (j*bC d)∧s.2.2.1.length=j∧∀x∈s.2.2.1,wC x≤XZ d) _ ⟨0,by omega,by simp,by simpa using (Sp.refl (r:=⟨b3,p3⟩) (Int.le_refl 0)),rfl,by simp⟩ ?_;rintro ⟨ct,cnt,l,b,p⟩ ⟨j,j0,j1,j2,j3,j4⟩;simp only at j1 j2 j3 j4 ⊢;have hj:j=0∨j=1∨j=2∨j=3:=by omega
    refine .ite (fun hp=>?_) (fun hp=>?_)
    ·have gj:Gd ⟨b,p⟩ (bC d):=g3.to j2 (by rcases hj with rfl | rfl | rfl | rfl <;> simp <;> omega);refine .bind (ih l2 ct _ (by omega) gj) fun k23 ⟨k2,k3,_⟩=>?_;have e2:aY (cnt+1)=cnt+1:=kK (by omega) (by omega);rw[e2];refine .bp _ (dJ (by simp; omega)) (Ex.pure ⟨fun _ e=>(by cases e),fun s' e=>?_⟩);cases e;refine⟨⟨j+1,by omega,by simp only; omega,?_,by simp; omega,?_⟩,by simp only; omega⟩
     ·refine j2.trans (D:=((j+1:Nat):Int)*bC d) k2 ?_;rcases hj with rfl | rfl | rfl | rfl <;> simp <;> omega
     ·intro x hx;rcases List.mem_append.1 hx with h | h
      ·exact j4 x h
      ·rw[List.mem_singleton.1 h]; exact k3
    ·refine Ex.pure ⟨fun w e=>?_,fun s' e=>(by cases e)⟩;cases e;have hjc:(j:Int)=c:=by omega
     refine⟨?_,?_,.inr ?_⟩
     ·refine s1.trans (s2.trans (s3.trans (j2.mono (C:=3*bC d) ?_) (D:=3+3*bC d) (by omega)) (D:=4+3*bC d) (by omega)) (by simp only[bC]; omega);rcases hj with rfl | rfl | rfl | rfl <;> simp <;> omega
     ·have:=aae j4;have:l.length*XZ d≤3*XZ d:=Nat.mul_le_mul_right _ (by omega);simp only[wC,wF,qj,XZ,List.length_nil]; omega
     ·intro e;simp only at e;rw[e] at j3;simp at j3; omega
theorem Ex.skip {L:Nat} (hL:L≤1000000) {step:Nat→Int→Option (Int⊕Int)} {at_:Nat} (ha:at_≤L) (h1:∀i:Nat,i<L→Ex (fun n=>step n (i:Int)) (fun r=>r=.inr ((i+1:Nat):Int)∨r=.inl (i:Int))) (h2:Ex (fun n=>step n (L:Int)) (fun r=>r=.inl (L:Int))) :
  Ex (fun n=>iterM n (step n) (at_:Int)) (fun r=>∃k:Nat,r=(k:Int)∧at_≤k∧k≤L):=by
 refine Ex.iter (fun s=>L-s.toNat) (fun s=>∃i:Nat,s=(i:Int)∧at_≤i∧i≤L) _ ⟨at_,rfl,Nat.le_refl _,ha⟩ ?_;rintro s ⟨i,rfl,h3,h4⟩;rcases Nat.lt_or_ge i L with h | h
 ·refine(h1 i h).mono ?_;rintro r (rfl | rfl)
  ·exact⟨fun w e=>(by cases e),fun s' e=>by cases e; exact⟨⟨i+1,rfl,by omega,by omega⟩,by simp; omega⟩⟩
  ·exact⟨fun w e=>by cases e; exact⟨i,rfl,h3,h4⟩,fun s' e=>(by cases e)⟩
 ·have:i=L:=by omega
  subst this;refine h2.mono ?_;rintro r rfl;exact⟨fun w e=>by cases e; exact⟨_,rfl,h3,h4⟩,fun s' e=>(by cases e)⟩
theorem J4 (s:List UInt8) (hs:s.length≤1000000) (a:Nat) (ha:a≤s.length):Ex (fun n=>pI n s (a:Int)) (fun r=>∃k:Nat,r=(k:Int)∧a≤k∧k≤s.length):=by
 unfold pI;refine Ex.skip hs ha (fun i hi=>?_) ?_
 ·have hy:=List.getElem?_eq_getElem hi;rw[if_pos (by omega),dZ hy];simp only[Option.bind_some];by_cases h:((s[i].toNat:Int)=32)
  ·rw[decide_eq_true h]; exact .pos rfl (.pure (.inl (by rw[ig (by omega)])))
  ·rw[decide_eq_false h]; exact .neg (by simp) (.pure (.inr rfl))
 ·rw[if_neg (by omega)]; simp only[Option.bind_some]; exact .neg (by simp) (.pure rfl)
theorem aeW (s:List UInt8) (hs:s.length≤1000000) (a:Nat) (ha:a≤s.length):Ex (fun n=>xU n s (a:Int)) (fun r=>∃k:Nat,r=(k:Int)∧a≤k∧k≤s.length):=by
 unfold xU;refine Ex.skip hs ha (fun i hi=>?_) ?_
 ·have hy:=List.getElem?_eq_getElem hi;rw[if_pos (by omega),dZ hy];simp only[Option.bind_some];refine Ex.bind (P:=fun _=>True) (.ite (fun _=>.ite (fun _=>.ite (fun _=>.pure trivial) (fun _=>.pure trivial)) (fun _=>.pure trivial)) (fun _=>.pure trivial)) ?_;intro b _;exact .ite (fun _=>.pure (.inl (by rw[ig (by omega)]))) (fun _=>.pure (.inr rfl))
 ·rw[if_neg (by omega)]; simp only[Option.bind_some]; exact .neg (by simp) (.pure rfl)
theorem H7 {α:Type} {l:List α} {a b:Nat} (h:a≤b) (hb:b≤l.length):KL l (a:Int) (b:Int)=some ((l.drop a).take (b-a)):=by
 unfold KL;rw[if_pos ⟨by omega,by omega,by omega⟩];simp
theorem aaf (s:List UInt8) (hs:s.length≤1000000):Ex (fun n=>uo n s) (fun r=>r.2=true→s≠[]):=by
 unfold uo;by_cases h0:s=[]
 ·subst h0;simp only[List.length_nil,Option.bind_some];exact .pure (fun h=>by cases h)
 have hl:0<s.length:=List.length_pos_iff.2 h0;refine Ex.mono (Q:=fun _=>True) ?_ (fun _ _ _=>h0);have hy:=List.getElem?_eq_getElem hl;refine Ex.bind (P:=fun b=>b=decide ((s[0].toNat:Int)=45)) (.pos (by omega) (.bp _ (dZ (i:=0) hy) (.pure rfl))) ?_;rintro o1 rfl;refine Ex.bind (P:=fun t=>t.length≤1000000) ?_ ?_
 ·refine .ite (fun _=>?_) (fun _=>.pure hs);have:=H7 (l:=s) (a:=1) (b:=s.length) (by omega) (Nat.le_refl _);exact .bp _ this (.pure (by simp; omega))
 intro t ht;refine Ex.bind (P:=fun b=>b=false→0<t.length) ?_ ?_
 ·refine .ite (fun _=>.pure (fun h=>by cases h)) (fun h1=>.ite (fun _=>.pure (fun h=>by cases h)) (fun _=>?_));have ht0:0<t.length:=by omega
  refine .bp _ (dZ (i:=0) (List.getElem?_eq_getElem ht0)) ?_;exact .ite (fun _=>.ite (fun _=>.pure (fun h=>by cases h)) (fun _=>.pure fun _=>ht0)) (fun _=>.pure fun _=>ht0)
 intro o3 ho3;refine .ite (fun _=>.pure trivial) (fun h3=>?_);refine Ex.iter (fun s=>t.length-s.2.toNat) (fun s=>∃i:Nat,s.2=(i:Int)∧i≤t.length) _ ⟨0,rfl,Nat.zero_le _⟩ ?_;rintro ⟨k,p⟩ ⟨i,hi,hil⟩;simp only at hi;subst hi;simp only;refine .ite (fun h=>?_) (fun h=>?_)
 ·have hi:i<t.length:=by omega
  have hy:=List.getElem?_eq_getElem hi;rw[dZ hy];simp only[Option.bind_some];refine Ex.bind (P:=fun _=>True) (.ite (fun _=>.pure trivial) (fun _=>.pure trivial)) ?_;intro b _;refine .ite (fun _=>.pure ⟨fun _ _=>trivial,fun _ e=>(by cases e)⟩) (fun _=>.pure ⟨fun _ e=>(by cases e),fun s' e=>?_⟩);cases e;exact⟨⟨i+1,by simp only; rw[ig (by omega)],by omega⟩,by simp only; rw[ig (by omega)]; simp; omega⟩
 ·refine Ex.bind (P:=fun _=>True) (.ite (fun _=>.pure trivial) (fun _=>.pure trivial)) ?_;intro b _;exact .pure ⟨fun _ _=>trivial,fun _ e=>(by cases e)⟩
theorem ag1 (s:List UInt8) (hs:s.length≤1000000) (c:Int):Ex (fun n=>xP n s c) (fun r=>r.length≤s.length+1∧∀x∈r,x.length≤s.length):=by
 unfold xP;refine Ex.iter (fun t=>s.length+1-t.2.2.toNat) (fun t=>∃a i:Nat,t.2.1=(a:Int)∧t.2.2=(i:Int)∧a≤i∧i≤s.length+1∧t.1.length≤i∧∀x∈t.1,x.length≤s.length) _ ⟨0,0,rfl,rfl,Nat.le_refl _,by omega,by simp,by simp⟩ ?_;rintro ⟨l,p,q⟩ ⟨a,i,ha,hi,h1,h2,h3,h4⟩;simp only at ha hi h3 h4;subst ha; subst hi;simp only;refine .ite (fun h=>?_) (fun h=>.pure ⟨fun w e=>by cases e; exact⟨by omega,h4⟩,fun _ e=>(by cases e)⟩);have hil:i≤s.length:=by omega
 refine Ex.bind (P:=fun o=>∃a:Nat,o.2=(a:Int)∧a≤i+1∧o.1.length≤i+1∧∀x∈o.1,x.length≤s.length) ?_ ?_
 ·refine Ex.bind (P:=fun _=>True) ?_ ?_
  ·refine .ite (fun _=>.pure trivial) (fun hne=>?_);exact .bp _ (dZ (List.getElem?_eq_getElem (by omega))) (.pure trivial)
  intro b _;refine .ite (fun _=>?_) (fun _=>.pure ⟨a,rfl,by omega,by simp only; omega,h4⟩);refine .bp _ (H7 h1 hil) (.bp _ (dJ (by simp; omega)) (.pure ⟨i+1,by rw[ig (by omega)],Nat.le_refl _,by simp; omega,?_⟩));intro x hx;rcases List.mem_append.1 hx with hx | hx
  ·exact h4 x hx
  ·rw[List.mem_singleton.1 hx]; simp; omega
 rintro ⟨l',p'⟩ ⟨a',ha',h5,h6,h7⟩;simp only at ha' h6 h7;subst ha';refine .pure ⟨fun _ e=>(by cases e),fun s' e=>?_⟩;cases e;exact⟨⟨a',i+1,rfl,by simp only; rw[ig (by omega)],h5,by omega,h6,h7⟩,by simp only; rw[ig (by omega)]; simp; omega⟩
theorem aeX (s:List UInt8) (hs:s.length≤1000000) (a:Nat) (ha:a≤s.length):Ex (fun n=>xQ n s (a:Int)) (fun r=>r.1.length≤25∧(r.2=-1∨∃k:Nat,r.2=(k:Int)∧a≤k∧k≤s.length)):=by
 unfold xQ;refine Ex.bind (P:=fun b=>b=false→∃h:a<s.length,(s[a].toNat:Int)=123) ?_ ?_
 ·refine .ite (fun _=>.pure (fun h=>by cases h)) (fun h=>?_);refine .bp _ (dZ (List.getElem?_eq_getElem (by omega))) (.pure (fun hd=>⟨by omega,?_⟩));have:=of_decide_eq_false hd;exact Classical.not_not.1 this
 intro b hb;refine .ite (fun _=>.pure ⟨by simp,.inr ⟨a,rfl,Nat.le_refl _,ha⟩⟩) (fun hb1=>?_);obtain⟨hal,aj0⟩:=hb (by simpa using hb1);have hw1:aY ((a:Int)+1)=((a+1:Nat):Int):=ig (by omega);refine Ex.iter (fun t=>s.length-t.toNat) (fun t=>∃i:Nat,t=(i:Int)∧a≤i∧i≤s.length) _ ⟨a,rfl,Nat.le_refl _,by omega⟩ ?_;rintro t ⟨i,rfl,h1,h2⟩;refine Ex.bind (P:=fun o=>(o=true→i<s.length)∧(o=false→a+1≤i)) ?_ ?_
 ·refine .ite (fun h=>?_) (fun h=>.pure ⟨fun h=>(by cases h),fun _=>by omega⟩);have hi:i<s.length:=by omega
  refine .bp _ (dZ (List.getElem?_eq_getElem hi)) (.pure ⟨fun _=>hi,fun hd=>?_⟩);have ag2:(s[i].toNat:Int)=125:=Classical.not_not.1 (of_decide_eq_false hd);rcases Nat.lt_or_eq_of_le h1 with h | h
  ·omega
  ·subst h; rw[aj0] at ag2; cases ag2
 rintro o ⟨o1,o2⟩;refine .ite (fun h=>.pure ⟨fun _ e=>(by cases e),fun s' e=>?_⟩) (fun h=>?_)
 ·cases e;have:=o1 h;exact⟨⟨i+1,by rw[ig (by omega)],by omega,by omega⟩,by rw[ig (by omega)]; simp; omega⟩
 have hai:=o2 (by simpa using h);refine .ite (fun _=>.pure ⟨fun w e=>by cases e; exact⟨by simp,.inl rfl⟩,fun _ e=>(by cases e)⟩) (fun hne=>?_);have hil:i<s.length:=by omega
 rw[hw1];refine .bp _ (H7 hai h2) (.bind (ag1 _ (by simp; omega) 44) fun parts ⟨p1,p2⟩=>?_);have hz:((s.drop (a+1)).take (i-(a+1))).length≤1000000:=by simp; omega
 refine Ex.mono (Q:=fun r:(List Int×Int)⊕Int=>∃w,r=.inl w∧w.1.length≤25∧(w.2=-1∨∃k:Nat,w.2=(k:Int)∧a≤k∧k≤s.length)) ?_ ?_
 ·refine Ex.iter (fun t=>26-t.2.toNat) (fun t=>∃j:Nat,t.2=(j:Int)∧j≤25∧j≤parts.length∧t.1.length≤j) _ ⟨0,rfl,by omega,by omega,by simp⟩ ?_;rintro ⟨l,q⟩ ⟨j,hj,j1,j2,j3⟩;simp only at hj j3;subst hj;simp only;refine Ex.bind (P:=fun o=>o=true→j<parts.length∧j≤24) (.ite (fun h=>.pure fun hd=>⟨by omega,by have:=of_decide_eq_true hd; omega⟩) (fun h=>.pure fun h=>by cases h)) ?_;intro o ho;refine .ite (fun h=>?_) (fun h=>.pure ⟨fun w e=>by cases e; exact⟨_,rfl,by simp only; omega,.inr ⟨i+1,by simp only; rw[ig (by omega)],by omega,by omega⟩⟩,fun _ e=>(by cases e)⟩);obtain⟨hj1,hj2⟩:=ho h;have hmem:parts[j]∈parts:=List.getElem_mem hj1;refine .bp _ (dZ (List.getElem?_eq_getElem hj1)) (.bind (aaf _ (by have:=p2 _ hmem; omega)) fun k15 _=>?_);refine .ite (fun _=>.pure ⟨fun w e=>by cases e; exact⟨_,rfl,by simp only; omega,.inl rfl⟩,fun _ e=>(by cases e)⟩) (fun _=>?_);refine .bp _ (dJ (by simp; omega)) (.pure ⟨fun _ e=>(by cases e),fun s' e=>?_⟩);cases e;exact⟨⟨j+1,by simp only; rw[ig (by omega)],by omega,by omega,by simp; omega⟩,by simp only; rw[ig (by omega)]; simp; omega⟩
 ·rintro r ⟨w,rfl,hw⟩;exact⟨fun w' e=>by cases e; exact hw,fun _ e=>(by cases e)⟩
theorem aeY (s:List UInt8) (hs:s.length≤1000000) (a:Nat) (ha:a≤s.length):Ex (fun n=>xW n s (a:Int)) (fun r=>r.2=-1∨∃k:Nat,r.2=(k:Int)∧a<k∧k≤s.length∧wF r.1+1≤30*(k-a)):=by
 unfold xW;refine .bind (aeW s hs a ha) fun k1 ⟨k,hk,h1,h2⟩=>?_;subst hk;refine .bp _ (H7 h1 h2) (.bind (aaf _ (by simp; omega)) fun k3 h3=>?_);have hlen:((s.drop a).take (k-a)).length=k-a:=by simp; omega
 have hne:((s.drop a).take (k-a))≠[]→a<k:=fun h=>by
  have:=List.length_pos_iff.2 h;omega
 refine .ite (fun h=>.pure (.inr ⟨k,rfl,hne (h3 h),h2,?_⟩)) (fun _=>.ite (fun _=>.pure (.inl rfl)) (fun h=>?_))
 ·have:=hne (h3 h);simp[wF,qj]; omega
 ·have hak:=hne h;refine .bind (aeX s hs k h2) fun k6 ⟨q1,q2⟩=>.pure ?_;rcases q2 with q2 | ⟨m,q2,q3,q4⟩
  ·exact .inl q2
  ·refine .inr ⟨m,q2,by omega,q4,?_⟩;simp only[wF,qj,List.length_nil,hlen]; omega
theorem aeZ:∀(d:Nat),d≤40→∀(s:List UInt8),s.length≤1000000→∀(a:Nat),a≤s.length→Ex (fun n=>qN n s (a:Int) (d:Int)) (fun r=>r.2=-1∨∃k:Nat,r.2=(k:Int)∧a<k∧k≤s.length∧wF r.1+1≤30*(k-a)):=by
 intro d
 induction d with
 | zero=>
  intro _ s hs a ha;refine .succ ?_;simp only[qN];refine .bind (J4 s hs a ha) fun k1 ⟨k,hk,h1,h2⟩=>?_;refine Ex.bind (P:=fun b=>b=true) (.ite (fun _=>.pure rfl) (fun _=>.pure rfl)) ?_;rintro b rfl;exact .pos rfl (.pure (.inl rfl))
 | succ d ih=>
  intro hd s hs a ha;have ih:=ih (by omega) s hs;refine .succ ?_;simp only[qN];refine .bind (J4 s hs a ha) fun k1 ⟨k,hk,h1,h2⟩=>?_;subst hk;refine Ex.bind (P:=fun b=>b=false→k<s.length) (.ite (fun _=>.pure (fun h=>by cases h)) (fun _=>.pure (fun _=>by omega))) ?_;intro b hb;refine .ite (fun _=>.pure (.inl rfl)) (fun hb1=>?_);have hk:=hb (by simpa using hb1);refine .bp _ (dZ (List.getElem?_eq_getElem hk)) ?_;refine .ite (fun _=>?_) (fun _=>?_)
  ·refine .bind (aeY s hs k h2) fun k6 h6=>.pure ?_;rcases h6 with h6 | ⟨m,q1,q2,q3,q4⟩
   ·exact .inl h6
   ·exact .inr ⟨m,q1,by omega,q3,by simp only; omega⟩
  ·have hw1:aY ((k:Int)+1)=((k+1:Nat):Int):=ig (by omega);have hw2:aY (((d+1:Nat):Int)-1)=(d:Int):=by rw[kK (by omega) (by omega)]; omega
   rw[hw1,hw2];refine .bind (J4 s hs (k+1) (by omega)) fun k7 ⟨m,hm,q1,q2⟩=>?_;subst hm;refine Ex.iter (fun t=>s.length-t.1.toNat) (fun t=>∃i:Nat,t.1=(i:Int)∧k+1≤i∧i≤s.length∧t.2.length≤400∧qj t.2+t.2.length≤30*(i-(k+1))) _ ⟨m,rfl,q1,q2,by simp,by simp[qj]⟩ ?_;rintro ⟨p,l⟩ ⟨i,hi,i1,i2,i3,i4⟩;simp only at hi i3 i4;subst hi;simp only;refine Ex.bind (P:=fun o=>o=true→i<s.length∧l.length<400) ?_ ?_
   ·refine .ite (fun h=>?_) (fun _=>.pure fun h=>by cases h);refine .bp _ (dZ (List.getElem?_eq_getElem (by omega))) ?_;exact .ite (fun _=>.pure fun hd=>⟨by omega,by have:=of_decide_eq_true hd; omega⟩) (fun _=>.pure fun h=>by cases h)
   intro o ho;refine .ite (fun h=>?_) (fun h=>?_)
   ·obtain⟨ho1,ho2⟩:=ho h;refine .bind (ih i i2) fun k12 h12=>?_;rcases h12 with h12 | ⟨j,r1,r2,r3,r4⟩
    ·rw[h12];exact .pos (by omega) (.pure ⟨fun w e=>by cases e; exact .inl rfl,fun _ e=>(by cases e)⟩)
    ·rw[r1];refine .neg (by omega) (.bp _ (dJ (by simp; omega)) (.bind (J4 s hs j r3) fun k15 ⟨u,hu,u1,u2⟩=>?_));subst hu;refine .pure ⟨fun _ e=>(by cases e),fun s' e=>?_⟩;cases e;refine⟨⟨u,rfl,by omega,u2,by simp; omega,?_⟩,by simp; omega⟩;have happ:∀(x y:List Form),qj (x++y)=qj x+qj y:=fun x y=>by
      induction x with
      | nil=>simp[qj]
      | cons z x ih=>simp only[List.cons_append,qj,ih]; omega
     simp only[happ,qj,List.length_append,List.length_singleton];omega
   ·refine Ex.bind (P:=fun o=>o=false→i<s.length) ?_ ?_
    ·refine .ite (fun _=>.pure (fun h=>by cases h)) (fun h=>?_);exact .bp _ (dZ (List.getElem?_eq_getElem (by omega))) (.pure fun _=>by omega)
    intro o2 ho2;refine .ite (fun _=>.pure ⟨fun w e=>by cases e; exact .inl rfl,fun _ e=>(by cases e)⟩) (fun h2'=>?_);have hi:=ho2 (by simpa using h2');refine .pure ⟨fun w e=>?_,fun _ e=>(by cases e)⟩;cases e;refine .inr ⟨i+1,by simp only; rw[ig (by omega)],by omega,by omega,?_⟩;simp only[wF,List.length_nil]; omega
theorem OI (s:List UInt8) (hs:s.length≤1000000):Ex (fun n=>oJ n s) (fun f=>wF f≤30*s.length):=by
 unfold oJ;refine Ex.bind (P:=fun r=>wF r.1≤30*s.length) ?_ (fun r hr=>.pure hr);unfold tu;refine .bind (aeZ 40 (by omega) s hs 0 (Nat.zero_le _)) fun k1 h1=>?_;refine Ex.bind (P:=fun b=>b=false→wF k1.1≤30*s.length) ?_ ?_
 ·rcases h1 with h1 | ⟨k,q1,q2,q3,q4⟩
  ·rw[h1]; exact .pos (by omega) (.pure fun h=>by cases h)
  ·rw[q1];refine .neg (by omega) (.bind (J4 s hs k q3) fun k5 _=>.ite (fun _=>.pure fun h=>by cases h) (fun _=>?_));have hw:wF k1.1≤30*s.length:=by omega
   exact .bv (HY k1.1 (JU _ (by omega)) (by have:=VG k1.1; omega)) (.pure fun _=>hw)
 intro b hb;exact .ite (fun _=>.pure (by simp[wF,qj])) (fun h=>.pure (hb (by simpa using h)))
def b7:Nat→Int
 | 0=>3
 | d+1=>24+3*b7 d
def w7:Nat→Nat
 | 0=>20
 | d+1=>60+3*w7 d
theorem aag:∀d,3≤b7 d
 | 0=>by simp[b7]
 | d+1=>by have:=aag d; simp only[b7]; omega
theorem ae0:∀d,20≤w7 d
 | 0=>by simp[w7]
 | d+1=>by simp only[w7]; omega
theorem acz:∀(d:Nat),d≤10→∀(ns:List (List UInt8)) (r:aZ),1≤ns.length→ns.length≤1000-d→(∀x∈ns,x.length≤20)→Gd r (b7 d)→Ex (fun n=>gu n ns (d:Int) r) (fun k=>Sp r k.2 (b7 d)∧wF k.1≤w7 d):=by
 intro d;have leaf:∀(ns:List (List UInt8)) (r:aZ),1≤ns.length→(∀x∈ns,x.length≤20)→Gd r 2→Ex (fun n=>(aO n 3 r).bind fun k3=>(if k3.1=0 then(dw n [0,1,2,7] k3.2).bind fun k5=>some ((⟨2,[],k5.1,[],[]⟩:Form),k5.2) else(aO n (ns.length:Int) k3.2).bind fun k6=>(gQ ns k6.1).bind fun e7=>(fH n e7).bind fun k8=>some (k8,k6.2))) (fun k=>Sp r k.2 2∧wF k.1≤20):=by
  intro ns r h1 h2 g;refine .bind (iR g (by omega)) fun k3 ⟨s1,_⟩=>.ite (fun _=>?_) (fun _=>?_)
  ·refine .bind (yc (by simp) (g.to s1 (D:=1) (by omega)) (by omega)) fun k5 ⟨s2,_⟩=>.pure ⟨s1.trans s2 (by omega),by simp[wF,qj]⟩
  ·refine .bind (iR (g.to s1 (D:=1) (by omega)) (by omega)) fun k6 ⟨s2,hv⟩=>?_;obtain⟨v0,v1⟩:=hv (by omega);obtain⟨x,hx,hm⟩:=bY v0 v1;unfold fH;exact .bp x hx (.pure ⟨s1.trans s2 (by omega),by have:=h2 x hm; simp[wF,qj]; omega⟩)
 induction d with
 | zero=>
  intro _ ns r h1 _ h2 g;have g:Gd r 3:=g;refine .succ ?_;simp only[gu];refine Ex.bind (P:=fun o=>o=(true,r)) (.pos rfl (.pure rfl)) ?_;rintro o rfl;exact .pos rfl ((leaf ns r h1 h2 (g.to (.refl (Int.le_refl 0)) (by omega))).mono fun k ⟨a,b⟩=>⟨a.mono (by simp[b7]),b⟩)
 | succ d ih=>
  intro hd ns r h1 hl h2 g;have ih:=ih (by omega);have hB:=aag d;have hW:=ae0 d;have g:Gd r (24+3*b7 d):=g;refine .succ ?_;simp only[gu];refine Ex.bind (P:=fun o=>Sp r o.2 1) (.neg (by omega) (.bind (iR g (by omega)) fun k15 ⟨s1,_⟩=>.pure s1)) ?_;rintro ⟨b,r1⟩ s1;have g1:Gd r1 (23+3*b7 d):=g.to s1 (by omega);refine .ite (fun _=>?_) (fun _=>?_)
  ·exact(leaf ns r1 h1 h2 (g1.to (.refl (Int.le_refl 0)) (by omega))).mono fun k ⟨a,b⟩=>⟨s1.trans a (by simp only[b7]; omega),by simp only[w7]; omega⟩
  ·refine .bind (acv (by simp) g1 (by omega)) fun k10 ⟨s2,hm⟩=>?_;obtain⟨x,r2⟩:=k10;simp only at s2 hm ⊢;have hx:x.length=1:=by
    simp only[List.mem_cons,List.not_mem_nil,or_false] at hm;rcases hm with rfl | rfl | rfl <;> rfl
   have g2:Gd r2 (22+3*b7 d):=g1.to s2 (by omega);refine .bp _ (nZ (by omega)) (.bp _ (dJ (by simp; omega)) (.bind (iR g2 (by omega)) fun k13 ⟨s3,_⟩=>?_));obtain⟨v,r3⟩:=k13;simp only at s3 ⊢;have g3:Gd r3 (21+3*b7 d):=g2.to s3 (by omega);have s03:Sp r r3 3:=s1.trans (s2.trans s3 (D:=2) (by omega)) (by omega);have e1:aY (((d+1:Nat):Int)-1)=(d:Int):=by rw[kK (by omega) (by omega)]; omega
   rw[e1];simp only[fH,gV,Option.bind_some];have h2':∀y∈ns++[x],y.length≤20:=fun y hy=>by
    rcases List.mem_append.1 hy with hy | hy
    ·exact h2 y hy
    ·rw[List.mem_singleton.1 hy]; omega
   have i1:∀r',Gd r' (b7 d)→_:=fun r' gr=>ih ns r' h1 (by omega) h2 gr;have i2:∀r',Gd r' (b7 d)→_:=fun r' gr=>ih (ns++[x]) r' (by simp) (by simp; omega) h2' gr;refine Ex.bind (P:=fun _=>True) (.ite (fun _=>.pure trivial) (fun _=>.pure trivial)) ?_;intro b1 _;refine .ite (fun _=>?_) (fun _=>?_)
   ·refine .bind (i2 r3 (g3.to (.refl (Int.le_refl 0)) (by omega))) fun k19 ⟨t1,u1⟩=>.pure ⟨s03.trans t1 (by simp only[b7]; omega),?_⟩;simp only[wF,qj,w7,List.length_cons,List.length_nil]; omega
   refine Ex.bind (P:=fun _=>True) (.ite (fun _=>.pure trivial) (fun _=>.pure trivial)) ?_;intro b2 _;refine .ite (fun _=>?_) (fun _=>.ite (fun _=>?_) (fun _=>.ite (fun _=>?_) (fun _=>?_)))
   ·refine .bind (i1 r3 (g3.to (.refl (Int.le_refl 0)) (by omega))) fun k24 ⟨t1,u1⟩=>?_;refine .bind (i2 k24.2 (g3.to t1 (by omega))) fun k28 ⟨t2,u2⟩=>.pure ⟨s03.trans (t1.trans t2 (D:=2*b7 d) (by omega)) (by simp only[b7]; omega),?_⟩;simp only[wF,qj,w7,List.length_cons,List.length_nil]; omega
   ·refine .bind (i1 r3 (g3.to (.refl (Int.le_refl 0)) (by omega))) fun k32 ⟨t1,u1⟩=>?_;refine .bind (i1 k32.2 (g3.to t1 (by omega))) fun k33 ⟨t2,u2⟩=>?_;have z:Ex (fun n=>gu n ns 0 k33.2) (fun k=>Sp k33.2 k.2 3∧wF k.1≤20):=by
     have g4:Gd k33.2 3:=(g3.to t1 (D:=21+2*b7 d) (by omega)).to t2 (by omega);refine .succ ?_;simp only[gu];refine Ex.bind (P:=fun o=>o=(true,k33.2)) (.pos trivial (.pure rfl)) ?_;rintro o rfl;exact .pos rfl ((leaf ns k33.2 h1 h2 (g4.to (.refl (Int.le_refl 0)) (by omega))).mono fun k ⟨a,b⟩=>⟨a.mono (by omega),b⟩)
    refine .bind z fun k34 ⟨t3,u3⟩=>.pure ⟨s03.trans (t1.trans (t2.trans t3 (D:=3+b7 d) (by omega)) (D:=3+2*b7 d) (by omega)) (by simp only[b7]; omega),?_⟩;simp only[wF,qj,w7,List.length_cons,List.length_nil]; omega
   ·have e34:bF 1=12:=by simp[bF]
    refine .bind (VU 1 (by omega) r3 (by rw[e34]; exact g3.to (.refl (Int.le_refl 0)) (by omega))) fun k38 ⟨t1,hf⟩=>.pure ⟨s03.trans t1 (by rw[e34]; simp only[b7]; omega),?_⟩;have:=J3 1 hf;simp only[wD] at this;simp only[wF,qj,w7,List.length_cons,List.length_nil]; omega
   ·refine .bind (i1 r3 (g3.to (.refl (Int.le_refl 0)) (by omega))) fun k40 ⟨t1,u1⟩=>?_;refine .bind (i1 k40.2 (g3.to t1 (by omega))) fun k41 ⟨t2,u2⟩=>.pure ⟨s03.trans (t1.trans t2 (D:=2*b7 d) (by omega)) (by simp only[b7]; omega),?_⟩;simp only[wF,qj,w7,List.length_cons,List.length_nil]; omega
def t7:List (List UInt8):=[nP,nO,nC,nJ,mY,ni,ny,ng,nH,nN,mP,mZ,nM,nD,nK]
theorem ae1:∀x∈t7,x.length≤500:=by decide
theorem acA (r:aZ) (g:Gd r 100000):Ex (fun n=>xX n r) (fun k=>Sp r k.2 100000∧wF k.1≤100000):=by
 unfold xX yU;refine .bp t7 rfl (.bind (iR g (by omega)) fun k2 ⟨s1,_⟩=>?_);have g1:Gd k2.2 99999:=g.to s1 (by omega);refine .ite (fun _=>?_) (fun _=>?_)
 ·refine .bind (iR g1 (by omega)) fun k4 ⟨s2,hv⟩=>?_;obtain⟨v0,v1⟩:=hv (by decide);obtain⟨x,hx,hm⟩:=bY v0 v1;have hl:=ae1 x hm;refine .bp x hx (.bind (OI x (by omega)) fun k6 hk=>.pure ⟨s1.trans s2 (by omega),by simp only; omega⟩)
 ·refine .bind (yc (by simp) g1 (by omega)) fun k8 ⟨s2,hm⟩=>?_;have g2:Gd k8.2 99998:=g1.to s2 (by omega);obtain⟨d,hd,hk⟩:∃d:Nat,d≤4∧k8.1=(d:Int):=by
   simp only[List.mem_cons,List.not_mem_nil,or_false] at hm;rcases hm with h | h | h
   ·exact⟨4,by omega,h⟩
   ·exact⟨3,by omega,h⟩
   ·exact⟨2,by omega,h⟩
  rw[hk];have hB:b7 d≤10000∧w7 d≤10000:=by
   have:d=0∨d=1∨d=2∨d=3∨d=4:=by omega
   rcases this with rfl | rfl | rfl | rfl | rfl <;> simp[b7,w7]
  refine .bind (acz d (by omega) [[43],[108,105,115,116],[103]] k8.2 (by simp) (by simp; omega) (by decide) (g2.to (.refl (Int.le_refl 0)) (by omega))) fun k9 ⟨s3,w3⟩=>?_;have g3:Gd k9.2 80000:=g2.to s3 (by omega);refine .bind (iR g3 (by omega)) fun k10 ⟨s4,_⟩=>?_;refine Ex.bind (P:=fun f=>wF f≤100000) (.ite (fun _=>?_) (fun _=>.pure (by omega))) ?_
  ·have hl:CY.length≤500:=by decide
   refine .bind (OI _ (by omega)) fun k13 hk=>?_;have hl2:iG.length≤20:=by decide
   simp only[fH,gV,Option.bind_some];refine .pure ?_;simp only[wF,qj,List.length_cons,List.length_nil]; omega
  ·intro f hf;exact .pure ⟨s1.trans (s2.trans (s3.trans s4 (D:=10001) (by omega)) (D:=10002) (by omega)) (by omega),hf⟩
theorem Ex.anyI {α ω:Type} {m:Nat→α→Option Bool} {p:α→Bool} {yes:ω} {xs:List α} {f:Nat→Unit→Option ω} {Q:ω→Prop} (h:∀x∈xs,gG (fun n=>m n x) (p x)) (hy:xs.any p=true→Q yes) (hn:xs.any p=false→Ex (fun n=>f n ()) Q) :
  Ex (fun n=>Mx.bH (Mx.bV (fun(_:Unit) (_:Nat) (x:α)=>((m n x).bind fun k=>(if k=true then some (Sum.inl yes) else some (Sum.inr ())):Option (ω⊕Unit))) 0 xs ()) (f n)) Q:=by
 refine Ex.bH (P:=fun o=>match o with
  | .inl w=>w=yes∧xs.any p=true
  | .inr _=>xs.any p=false) ?_ ?_ ?_
 ·refine Ex.bV (I:=fun i q s=>(∀x∈q,x∈xs)∧xs.any p=q.any p) ⟨fun _ h=>h,rfl⟩ ?_ ?_
  ·rintro i x q s ⟨h1,h2⟩;refine .bv (h x (h1 x (List.mem_cons_self))) ?_;cases hp:p x with
   | false=>exact .neg (by simp) (.fg ⟨fun y hy=>h1 y (List.mem_cons_of_mem _ hy),by rw[h2,List.any_cons,hp,Bool.false_or]⟩)
   | true=>exact .pos rfl (.fo ⟨rfl,by rw[h2,List.any_cons,hp,Bool.true_or]⟩)
  ·rintro s ⟨_,h2⟩;exact h2
 ·rintro w ⟨rfl,h⟩; exact hy h
 ·rintro ⟨⟩ h; exact hn h
def Rj {α β:Type} (R:α→β→Prop):List α→List β→Prop
 | [],[]=>True
 | x::xs,y::ys=>R x y∧Rj R xs ys
 | _,_=>False
theorem Rk {α β:Type} {R:α→β→Prop} {x:α} {y:β} (h:R x y):∀{xs:List α} {ys:List β},Rj R xs ys→Rj R (xs++[x]) (ys++[y])
 | [],[],_=>⟨h,trivial⟩
 | a::xs,b::ys,h2=>⟨h2.1,Rk h h2.2⟩
theorem Rl {α β:Type} {R:α→β→Prop}:∀{xs:List α} {ys:List β},Rj R xs ys→xs.length=ys.length
 | [],[],_=>rfl
 | _::_,_::_,h=>by simp[Rl h.2]
theorem Ex.ag4 {α β:Type} {m:Nat→α→Option β} {R:α→β→Prop} {xs:List α} {be:Nat} (hb:xs.length*be≤140737488355328) (h:∀x∈xs,Ex (fun n=>m n x) (R x)) :
  Ex (fun n=>Mx.dY (fun(s:List β) (_:Nat) (x:α)=>(m n x).bind fun k=>(jH be s [k]).bind fun z=>some z) 0 xs []) (Rj R xs):=by
 refine Ex.dY (I:=fun i q s=>∃p,p++q=xs∧Rj R p s) ⟨[],rfl,trivial⟩ ?_ ?_
 ·rintro i x q s ⟨p,rfl,hr⟩;have hl:=Rl hr;refine .bind (h x (by simp)) fun k hk=>.bp _ (dJ ?_) (.pure ⟨p++[x],by simp,Rk hk hr⟩);refine Nat.le_trans (Nat.mul_le_mul_right _ ?_) hb;simp; omega
 ·rintro s ⟨p,hp,hr⟩;rw[List.append_nil] at hp; rw[← hp]; exact hr
mutual
def Si (s:Nat):Form→Prop
 | ⟨_,nm,_,sc,kids⟩=>nm.length≤12∧sc.length≤s∧Ba s kids
def Ba (s:Nat):List Form→Prop
 | []=>True
 | x::r=>Si s x∧Ba s r
end
theorem zf {s:Nat} {f:Form}:Si s f↔f.name.length≤12∧f.scopes.length≤s∧Ba s f.kids:=by cases f; simp only[Si]
theorem rU {s:Nat}:∀{l:List Form},Ba s l↔∀x∈l,Si s x
 | []=>by simp[Ba]
 | x::r=>by simp[Ba,rU (l:=r)]
theorem aah {s:Nat} {a b:List Form} (h1:Ba s a) (h2:Ba s b):Ba s (a++b):=rU.2 fun x hx=>(List.mem_append.1 hx).elim (rU.1 h1 x) (rU.1 h2 x)
mutual
theorem adg (s:Nat):∀f:Form,Si s f→wF f+1≤(13+s)*cF f
 | ⟨k,nm,n,sc,kids⟩,h=>by
  simp only[Si] at h;have:=aai s kids h.2.2;simp only[wF,cF,Nat.mul_add]; omega
theorem aai (s:Nat):∀l:List Form,Ba s l→qj l+l.length≤(13+s)*jO l
 | [],_=>by simp[qj]
 | x::r,h=>by
  have:=adg s x h.1;have:=aai s r h.2;simp only[qj,jO,Nat.mul_add,List.length_cons]; omega
end
mutual
theorem EP {s t:Nat} (hs:s≤t):∀f:Form,Si s f→Si t f
 | ⟨k,nm,n,sc,kids⟩,h=>⟨h.1,Nat.le_trans h.2.1 hs,MZ hs kids h.2.2⟩
theorem MZ {s t:Nat} (hs:s≤t):∀l:List Form,Ba s l→Ba t l
 | [],_=>trivial
 | x::r,h=>⟨EP hs x h.1,MZ hs r h.2⟩
end
theorem XG {s:List UInt8} (h:nameB s=true):s.length≤12:=by
 unfold nameB at h;simp only[Bool.or_eq_true,Bool.and_eq_true,decide_eq_true_eq] at h;rcases h with (rfl | rfl) | ⟨_,_,h⟩
 ·decide
 ·decide
 ·exact h
theorem acB {l:List Int} (h:XY l=true):l.length≤24:=by
 unfold XY at h;simp only[Bool.and_eq_true,decide_eq_true_eq] at h;exact h.2
theorem FT {d:Nat} {f:Form} (h:Le d f=true):∃e,d=e+1∧f.name.length≤12∧f.scopes.length≤24∧(f.kind=1∨f.kind=2→f.kids=[])∧(f.kind=1∨f.kind=2∨f.kind=3)∧∀x∈f.kids,Le e x=true:=by
 cases d with
 | zero=>cases h
 | succ e=>
  refine⟨e,rfl,?_⟩;simp only[Le] at h;split at h
  ·rename_i h1;simp only[Bool.and_eq_true,decide_eq_true_eq] at h;have h4:=List.eq_nil_of_length_eq_zero h.2.2.2;exact⟨XG h.1,acB h.2.2.1,fun _=>h4,.inl h1,fun x hx=>by rw[h4] at hx; cases hx⟩
  ·split at h
   ·rename_i h1;simp only[Bool.and_eq_true,decide_eq_true_eq] at h;have h4:=List.eq_nil_of_length_eq_zero h.2.2.2;exact⟨by rw[h.1]; decide,by omega,fun _=>h4,.inr (.inl h1),fun x hx=>by rw[h4] at hx; cases hx⟩
   ·split at h
    ·rename_i h1 h2 h3;simp only[Bool.and_eq_true,decide_eq_true_eq,List.all_eq_true] at h;exact⟨by rw[h.1]; decide,by omega,fun q=>by rcases q with q | q <;> omega,.inr (.inr h3),h.2.2.2⟩
    ·cases h
theorem aaj:∀{d:Nat} {f:Form},Le d f=true→Si 24 f:=by
 intro d
 induction d with
 | zero=>intro f h; cases h
 | succ d ih=>
  intro f h;obtain⟨e,he,h1,h2,_,_,h5⟩:=FT h;obtain rfl:d=e:=by omega
  exact zf.2 ⟨h1,h2,rU.2 fun x hx=>ih (h5 x hx)⟩
def zL (f:Form):Prop:=Si 26 f∧cF f≤401
theorem zL.w {f:Form} (h:zL f):wF f≤15638:=by have:=adg 26 f h.1; have:=h.2; omega
theorem zL.ok {f:Form} (h:zL f):okF f:=JU f (by have:=h.w; omega)
theorem zL.kid {f x:Form} (h:zL f) (hx:x∈f.kids):zL x:=⟨rU.1 (zf.1 h.1).2.2 x hx,by have:=qX hx; have:=rQ f; have:=h.2; omega⟩
theorem BR:∀l:List Form,l.length≤jO l
 | []=>by simp
 | x::r=>by have:=rQ x; have:=BR r; simp only[jO,List.length_cons]; omega
theorem zL.len {f:Form} (h:zL f):f.kids.length≤400:=by have:=BR f.kids; have:=rQ f; have:=h.2; omega
theorem aak {f:Form} (h:gW f=true):zL f∧cF f≤400:=by
 unfold gW at h;simp only[Bool.and_eq_true,decide_eq_true_eq] at h;exact⟨⟨EP (by omega) f (aaj h.1),by omega⟩,h.2⟩
theorem smZ:zL ⟨0,[],0,[],[]⟩:=⟨by simp[Si,Ba],by simp[cF,jO]⟩
theorem qO {f:Form} (h:zL f):gG (fun n=>bT n f) (gW f):=HY f h.ok (by have:=h.2; omega)
theorem OJ {f:Form} (h:zL f):gG (fun n=>iW n f) f:=OG f (by have:=h.w; omega)
theorem ae2 {f:Form} (h:zL f):gG (fun n=>lq n f) (cF f:Int):=OA f (by have:=h.2; omega)
theorem aal (l:List Int) (x:Int) (hl:l.length≤1000000):Ex (fun n=>AV n l x) (fun r=>r.length≤l.length+1):=by
 unfold AV;simp only[BQ,Option.bind_some];refine Ex.bind (P:=fun s=>s.1.length≤l.length+1∧(s.2=false→s.1.length≤l.length)) ?_ ?_
 ·refine Ex.dY (I:=fun i q s=>(i+q.length=l.length)∧s.1.length≤i+1∧(s.2=false→s.1.length≤i)) ⟨by simp,by simp,by simp⟩ ?_ ?_
  ·rintro i y q ⟨s,b⟩ ⟨h1,h2,h3⟩;simp only[List.length_cons] at h1 h2 h3 ⊢;refine Ex.bind (P:=fun o=>o=true→b=false) (.ite (fun hb=>.pure fun _=>by simpa using hb) (fun hb=>.pure (by simp))) ?_;intro o ho;refine Ex.bind (P:=fun z=>z.1.length≤i+1∧(z.2=false→z.1.length≤i)) ?_ ?_
   ·refine .ite (fun hc=>.bp _ (dJ (by simp; omega)) (.pure ⟨?_,by simp⟩)) (fun _=>.pure ⟨h2,h3⟩);have:=h3 (ho hc);simp; omega
   ·intro z ⟨z1,z2⟩;refine .bp _ (dJ (by simp; omega)) (.pure ⟨by omega,by simp; omega,fun hz=>?_⟩);have:=z2 hz;simp; omega
  ·rintro ⟨s,b⟩ ⟨h1,h2,h3⟩; exact⟨h2,h3⟩
 ·rintro ⟨s,b⟩ ⟨h1,h2⟩;simp only at h1 h2 ⊢;refine Ex.bind (P:=fun o=>o.length≤l.length+1) (.ite (fun hb=>.bp _ (dJ (by simp; omega)) (.pure ?_)) (fun _=>.pure h1)) (fun o ho=>.pure ho);have:=h2 (by simpa using hb);simp; omega
theorem XH (l:List Int) (x:Int) (hl:l.length≤1000000):Ex (fun n=>xK n l x) (fun r=>r.length≤l.length):=by
 unfold xK;refine Ex.bind (P:=fun s=>s.length≤l.length) ?_ (fun s hs=>.pure hs);refine Ex.dY (I:=fun i q s=>(i+q.length=l.length)∧s.length≤i) ⟨by simp,by simp⟩ ?_ ?_
 ·rintro i y q s ⟨h1,h2⟩;simp only[List.length_cons] at h1;exact Ex.bind (P:=fun z=>z.length≤i+1) (.ite (fun _=>.bp _ (dJ (by simp; omega)) (.pure (by simp; omega))) (fun _=>.pure (by omega))) (fun o ho=>.pure ⟨by omega,ho⟩)
 ·rintro s ⟨h1,h2⟩; exact h2
theorem Rn {l m:List Form} {s:Nat}:∀{l m:List Form},Rj (fun x y=>Si s y∧cF y=cF x∧y.kind=x.kind) l m→Ba s m∧jO m=jO l
 | [],[],_=>⟨trivial,rfl⟩
 | x::l,y::m,h=>by
  obtain⟨h1,h2⟩:=Rn (l:=l) (m:=m) h.2;exact⟨⟨h.1.1,h1⟩,by simp only[jO,h2,h.1.2.1]⟩
theorem Ro (f:Form) (s:Nat) (hs:s≤1000) (ht:Si s f) (hc:cF f≤1000000) (x w:Int):Ex (fun n=>fF n f x w) (fun r=>Si (s+1) r∧cF r=cF f∧r.kind=f.kind):=by
 have he:=rQ f;have hl:=BR f.kids;obtain⟨t1,t2,t3⟩:=zf.1 ht;refine .succ ?_;simp only[fF];refine .bp _ (nZ (by omega)) ?_;refine Ex.bind (P:=fun o=>o.length≤s+1) ?_ ?_
 ·refine .ite (fun _=>?_) (fun _=>.pure (by omega));refine Ex.bind (P:=fun _=>True) ?_ ?_
  ·refine .ite (fun _=>.pure trivial) (fun _=>.ite (fun _=>?_) (fun _=>.pure trivial));simp only[BQ,Option.bind_some]; exact .pure trivial
  ·intro o _;exact .ite (fun _=>.bind (XH _ _ (by omega)) fun k hk=>.pure (by omega)) (fun _=>.bind (aal _ _ (by omega)) fun k hk=>.pure (by omega))
 ·intro o ho;refine .bind (Ex.ag4 (m:=fun n y=>fF n y x w) (R:=fun x y=>Si (s+1) y∧cF y=cF x∧y.kind=x.kind) (by omega) (fun y hy=>Ro y s hs (rU.1 t3 y hy) (by have:=qX hy; omega) x w)) fun m hm=>.pure ?_;obtain⟨m1,m2⟩:=Rn (l:=f.kids) (m:=m) hm;exact⟨zf.2 ⟨t1,ho,m1⟩,by rw[rQ,rQ f,m2],rfl⟩
termination_by SizeOf.sizeOf f
decreasing_by exact jG hy
def qm (f:Form):Bool:=decide (f.kind=1)&&decide (f.name=[46,46,46])
theorem ER (n:Nat) (f:Form):gq n f=some (qm f):=by
 unfold gq qm;by_cases h:f.kind=1 <;> simp[h]
def inF (ls:List Form) (f:Form):Bool:=ls.any fun x=>iK x f
theorem OL (ls:List Form) (f:Form):gG (fun n=>vU n ls f) (inF ls f):=by
 refine Ex.Ai ?_;unfold vU;exact Ex.anyI (m:=fun n x=>fD n x f) (p:=fun x=>iK x f) (fun x _=>yY x f) (fun h=>h.symm) (fun h=>.pure h.symm)
def XI (ls:List Form) (f:Form):Bool:=decide (f.kind=1)&&(decide (¬f.name=[46,46,46])&&(decide (¬f.name=[95])&&!inF ls f))
theorem VY (ls:List Form) (f:Form):gG (fun n=>xB n f ls) (XI ls f):=by
 refine Ex.Ai ?_;unfold xB XI;refine Ex.bind (P:=fun b=>b=(decide (f.kind=1)&&(decide (¬f.name=[46,46,46])&&(decide (¬f.name=[95])&&!inF ls f)))) ?_ (fun b hb=>.pure hb);refine .ite (fun h1=>?_) (fun h1=>.pure (by simp[h1]));refine .ite (fun h2=>?_) (fun h2=>.pure (by simp only[decide_eq_false h2,Bool.and_false,Bool.false_and]));refine .ite (fun h3=>?_) (fun h3=>.pure (by simp only[decide_eq_false h3,Bool.and_false,Bool.false_and]));exact .bv (OL ls f) (.pure (by simp only[decide_eq_true h1,decide_eq_true h2,decide_eq_true h3,Bool.true_and]))
mutual
def Ky (ls:List Form):Form→Nat
 | ⟨k,nm,n,sc,kids⟩=>(if XI ls ⟨k,nm,n,sc,kids⟩=true then 1 else 0)+vG ls kids
def vG (ls:List Form):List Form→Nat
 | []=>0
 | x::r=>Ky ls x+vG ls r
end
theorem J5 (ls:List Form) (f:Form):Ky ls f=(if XI ls f=true then 1 else 0)+vG ls f.kids:=by cases f; simp only[Ky]
mutual
theorem DU (ls:List Form):∀f:Form,Ky ls f≤cF f
 | ⟨k,nm,n,sc,kids⟩=>by have:=OM ls kids; simp only[Ky,cF]; split <;> omega
theorem OM (ls:List Form):∀l:List Form,vG ls l≤jO l
 | []=>by simp[vG]
 | x::r=>by have:=DU ls x; have:=OM ls r; simp only[vG,jO]; omega
end
theorem H8 (ls:List Form) (p:Form) (o:List Form) (h:o.length+cF p≤1000000):Ex (fun n=>pz n o p ls) (fun r=>r.length=o.length+Ky ls p):=by
 have he:=rQ p;refine .succ ?_;simp only[pz];refine .bv (VY ls p) ?_;refine Ex.bind (P:=fun z=>z.length=o.length+(if XI ls p=true then 1 else 0)) ?_ ?_
 ·refine .ite (fun h1=>.bp _ (dJ (by simp; omega)) (.pure (by simp[h1]))) (fun h1=>.pure (by simp[h1]))
 intro z hz;refine Ex.bind (P:=fun s=>s.length=o.length+Ky ls p) ?_ (fun s hs=>.pure hs);refine Ex.dY (I:=fun i q s=>s.length+vG ls q=o.length+Ky ls p∧s.length+jO q≤1000000∧∀x∈q,x∈p.kids) ⟨by rw[J5,hz]; omega,by rw[hz]; split <;> omega,fun _ h=>h⟩ ?_ ?_
 ·rintro i x q s ⟨h1,h2,h3⟩;simp only[vG,jO] at h1 h2;have g4:=h3 x (List.mem_cons_self);have hv:=DU ls x;refine .bind (H8 ls x s (by omega)) fun k hk=>.pure ⟨by omega,by omega,fun y hy=>h3 y (List.mem_cons_of_mem _ hy)⟩
 ·rintro s ⟨h1,_,_⟩
  simpa [vG] using h1
termination_by SizeOf.sizeOf p
decreasing_by exact jG g4
theorem H9 (ls:List Form) (p:Form) (o:List Int) (d:Int) (h:o.length+cF p≤1000000):Ex (fun n=>jK n o p ls d) (fun r=>r.length=o.length+Ky ls p):=by
 have he:=rQ p;have hk:=BR p.kids;refine .succ ?_;simp only[jK,ER];refine .bv (VY ls p) ?_;refine Ex.bind (P:=fun z=>z.length=o.length+(if XI ls p=true then 1 else 0)) ?_ ?_
 ·refine .ite (fun h1=>.bp _ (dJ (by simp; omega)) (.pure (by simp[h1]))) (fun h1=>.pure (by simp[h1]))
 intro z hz;refine Ex.bind (P:=fun s=>s.length=o.length+Ky ls p) ?_ (fun s hs=>.pure hs);refine Ex.dY (I:=fun i q s=>s.length+vG ls q=o.length+Ky ls p∧s.length+jO q≤1000000∧p.kids.drop i=q) ⟨by rw[J5,hz]; omega,by rw[hz]; split <;> omega,rfl⟩ ?_ ?_
 ·rintro i x q s ⟨h1,h2,h3⟩;simp only[vG,jO] at h1 h2;obtain⟨_,g2,g3,g4⟩:=jA h3;have hv:=DU ls x;refine Ex.bind (P:=fun _=>True) (.ite (fun hc=>?_) (fun _=>.pure trivial)) ?_
  ·obtain⟨y,hy,_⟩:=bY (l:=p.kids) (i:=((i+1:Nat):Int)) (by omega) hc;exact .bp y hy (.pure trivial)
  intro b _;refine Ex.bind (P:=fun _=>True) (.ite (fun _=>.pure trivial) (fun _=>.pure trivial)) ?_;intro d' _;refine .bind (H9 ls x s d' (by omega)) fun k hk=>.pure ⟨by omega,by omega,g2⟩
 ·rintro s ⟨h1,_,_⟩
  simpa [vG] using h1
termination_by SizeOf.sizeOf p
decreasing_by exact jG g4
theorem VZ {α:Type} {l:List α} {i:Int} (h0:0≤i) (h:i≤(l.length:Int)):∃z,KL l 0 i=some z∧∀x∈z,x∈l:=by
 unfold KL;rw[if_pos (by omega)];exact⟨_,rfl,fun x hx=>List.mem_of_mem_drop (List.mem_of_mem_take hx)⟩
theorem lH {i:Int} (h0:0≤i) (h:i≤1000000000):aY (i+1)=i+1:=kK (by omega) (by omega)
theorem V3 {i:Int} (h0:0≤i) (h:i≤1000000000):aY (i-1)=i-1:=kK (by omega) (by omega)
def ag5 (b:Bind):Prop:=b.name.length≤12∧b.scopes.length≤26
def OO (bs:List Bind):Prop:=bs.length≤61∧∀b∈bs,ag5 b
theorem V4 (bs:List Bind) (h:OO bs):Ex (fun n=>kE n bs) (fun _=>True):=by
 have hl:=h.1;unfold kE;refine Ex.iter (μ:=fun s=>((bs.length:Int)-s).toNat) (I:=fun s=>0≤s∧s≤(bs.length:Int)) 0 ⟨by omega,by omega⟩ ?_;rintro s ⟨h0,h1⟩;refine Ex.bind (P:=fun o=>o=true→s<(bs.length:Int)) (.ite (fun h=>.pure fun _=>h) (fun _=>.pure (by simp))) ?_;intro o ho;refine .ite (fun hc=>?_) (fun _=>.out trivial);have hs:=ho hc;obtain⟨b,hb,hm⟩:=bY h0 hs;obtain⟨b1,b2⟩:=h.2 b hm;refine Ex.bind (P:=fun _=>True) ?_ ?_
 ·exact .bp b hb (.bv (Hz _ (by unfold Kt; omega)) (.ite (fun _=>.pure trivial) (fun _=>.bv (Oz _ (by unfold Kt; omega)) (.ite (fun _=>.pure trivial) (fun _=>.ite (fun _=>.pure trivial) (fun _=>.pure trivial))))))
 intro o5 _;refine .ite (fun _=>.out trivial) (fun _=>?_);refine Ex.iter (μ:=fun s7=>(s-s7).toNat) (I:=fun s7=>0≤s7∧s7≤s) 0 ⟨by omega,by omega⟩ ?_;rintro t ⟨t0,t1⟩;refine .ite (fun ht=>?_) (fun _=>.out ⟨fun _ _=>trivial,fun s' e=>?_⟩)
 ·obtain⟨c,hc',hm'⟩:=bY t0 (Int.lt_trans ht hs);refine Ex.bind (P:=fun _=>True) (.bp c hc' (.bp b hb (.ite (fun _=>.bv (JX _ _) (.pure trivial)) (fun _=>.pure trivial)))) ?_;intro kM _;exact .ite (fun _=>.out ⟨fun _ _=>trivial,fun s' e=>by cases e⟩) (fun _=>.go (by rw[lH (by omega) (by omega)]; omega) (by rw[lH (by omega) (by omega)]; omega))
 ·cases e;rw[lH (by omega) (by omega)]; omega
theorem aam (bs:List Bind) (h:OO bs):Ex (fun n=>jZ n bs) (fun _=>True):=by
 have hl:=h.1;unfold jZ;refine Ex.iter (μ:=fun s=>((bs.length:Int)-s).toNat) (I:=fun s=>0≤s∧s≤(bs.length:Int)) 0 ⟨by omega,by omega⟩ ?_;rintro s ⟨h0,h1⟩;refine Ex.bind (P:=fun o=>o=true→s<(bs.length:Int)) (.ite (fun h=>.pure fun _=>h) (fun _=>.pure (by simp))) ?_;intro o ho;refine .ite (fun hc=>?_) (fun _=>.out trivial);have hs:=ho hc;have hv:s.toNat<bs.length:=by omega
 have hb:=List.getElem?_eq_getElem hv;obtain⟨b1,b2⟩:=h.2 _ (List.getElem_mem hv);have hi:=Fq (n:=bs.length) h0 hv;refine Ex.bind (P:=fun _=>True) ?_ ?_
 ·exact .bp () hi (.bp _ hb (.bv (Hz _ (by unfold Kt; omega)) (.ite (fun _=>.pure trivial) (fun _=>.bp () hi (.bv (Oz _ (by unfold Kt; omega)) (.ite (fun _=>.pure trivial) (fun _=>.bp () hi (.ite (fun _=>.pure trivial) (fun _=>.bp () hi (.pure trivial))))))))))
 intro o5 _;refine .ite (fun _=>.out trivial) (fun _=>?_);refine Ex.iter (μ:=fun s7=>(s-s7).toNat) (I:=fun s7=>0≤s7∧s7≤s) 0 ⟨by omega,by omega⟩ ?_;rintro t ⟨t0,t1⟩;refine .ite (fun ht=>?_) (fun _=>.out ⟨fun _ _=>trivial,fun s' e=>?_⟩)
 ·have hv':t.toNat<bs.length:=by omega
  have hb':=List.getElem?_eq_getElem hv';have hi':=Fq (n:=bs.length) t0 hv';refine Ex.bind (P:=fun _=>True) (.bp () hi' (.bp _ hb' (.bp () hi (.bp _ hb (.ite (fun _=>.bp () hi' (.bp () hi (.bv (JX _ _) (.pure trivial)))) (fun _=>.pure trivial)))))) ?_;intro kM _;exact .ite (fun _=>.out ⟨fun _ _=>trivial,fun s' e=>by cases e⟩) (fun _=>.go (by rw[lH (by omega) (by omega)]; omega) (by rw[lH (by omega) (by omega)]; omega))
 ·cases e;rw[lH (by omega) (by omega)]; omega
theorem V5 (a b:List Int):gG (fun n=>iY n a b) (a.all fun x=>decide (x∈b)):=by
 refine Ex.Ai ?_;unfold iY;exact Ex.allI (m:=fun n x=>nT n b x) (p:=fun x=>decide (x∈b)) (fun x _=>⟨0,fun n _=>BQ n b x⟩) (fun h=>.pure h.symm) (fun h=>h.symm)
theorem ae3 (bs:List Bind) (hl:bs.length≤1000000) (f:Form):Ex (fun n=>qc n bs f) (fun r=>∀i∈r,0≤i∧i<(bs.length:Int)):=by
 unfold qc;refine Ex.bind (P:=fun r=>∀i∈r,0≤i∧i<(bs.length:Int)) ?_ (fun s hs=>.pure hs);refine Ex.dY (I:=fun i q s=>(i+q.length=bs.length)∧s.length≤i∧∀j∈s,0≤j∧j<(bs.length:Int)) ⟨by simp,by simp,by simp⟩ ?_ (fun s h=>h.2.2);rintro i b q s ⟨h1,h2,h3⟩;simp only[List.length_cons] at h1;refine Ex.bind (P:=fun s=>s.length≤i+1∧∀j∈s,0≤j∧j<(bs.length:Int)) ?_ (fun s hs=>.pure ⟨by omega,hs⟩);refine Ex.bind (P:=fun _=>True) (.ite (fun _=>.bv (V5 _ _) (.pure trivial)) (fun _=>.pure trivial)) ?_;intro o _;refine .ite (fun _=>.bp _ (dJ (by simp; omega)) (.pure ⟨by simp; omega,fun j hj=>?_⟩)) (fun _=>.pure ⟨by omega,h3⟩);rcases List.mem_append.1 hj with hj | hj
 ·exact h3 j hj
 ·rw[List.mem_singleton.1 hj]; omega
theorem OQ (bs:List Bind) (hl:bs.length≤1000000) (f:Form):Ex (fun n=>qE n bs f) (fun r=>r.2=0∨r.2=2∨0≤r.1∧r.1<(bs.length:Int)):=by
 unfold qE;refine .bind (ae3 bs hl f) fun k hk=>?_;refine Ex.bH (P:=fun o=>match o with
  | .inl w=>0≤w.1∧w.1<(bs.length:Int)
  | .inr _=>True) ?_ (fun w h=>.inr (.inr h)) (fun _ _=>.ite (fun _=>.pure (.inr (.inl rfl))) (fun _=>.pure (.inl rfl)))
 refine Ex.bV (I:=fun i q s=>∀x∈q,x∈k) (fun _ h=>h) ?_ (fun _ _=>trivial);intro i x q s h;have hx:=hk x (h x List.mem_cons_self);obtain⟨b,hb,_⟩:=bY hx.1 hx.2;refine Ex.bind (P:=fun _=>True) ?_ (fun o _=>.ite (fun _=>.fo hx) (fun _=>.fg fun y hy=>h y (List.mem_cons_of_mem _ hy)));refine Ex.dY (I:=fun i q s=>∀x∈q,x∈k) (fun _ h=>h) ?_ (fun _ _=>trivial);intro j y q' s' h';have hy:=hk y (h' y List.mem_cons_self);obtain⟨c,hc,_⟩:=bY hy.1 hy.2;exact Ex.bind (P:=fun _=>True) (.ite (fun _=>.bp c hc (.bp b hb (.bv (V5 _ _) (.pure trivial)))) (fun _=>.pure trivial)) (fun o _=>.pure fun z hz=>h' z (List.mem_cons_of_mem _ hz))
theorem aan (bs:List Bind) (hl:bs.length≤1000000) (f g:Form):Ex (fun n=>xE n bs f g) (fun _=>True):=by
 unfold xE;refine .bind (OQ bs hl f) fun k1 h1=>.bind (OQ bs hl g) fun k2 h2=>?_;refine Ex.bind (P:=fun o=>o=false→k1.2=k2.2∧¬k1.2=2) (.ite (fun h=>.pure (by simp)) (fun h=>.pure fun e=>⟨by simpa using h,by simpa using e⟩)) ?_;intro o ho;refine .ite (fun _=>.pure trivial) (fun hc=>.ite (fun _=>.pure trivial) (fun hz=>?_));obtain⟨g1,g2⟩:=ho (by simpa using hc);have p1:0≤k1.1∧k1.1<(bs.length:Int):=h1.elim (fun h=>absurd h hz) (fun h=>h.elim (fun h=>absurd h g2) id);have p2:0≤k2.1∧k2.1<(bs.length:Int):=h2.elim (fun h=>absurd (g1.trans h) hz) (fun h=>h.elim (fun h=>absurd (g1.trans h) g2) id);obtain⟨b,hb,_⟩:=bY p1.1 p1.2;obtain⟨c,hc,_⟩:=bY p2.1 p2.2;exact .bp b hb (.bp c hc (.pure trivial))
theorem aao (f:Form) (h:zL f):Ex (fun n=>BO n f) (fun _=>True):=by
 unfold BO;exact Ex.bind (P:=fun _=>True) (.ite (fun _=>.bv (qO h) (.pure trivial)) (fun _=>.pure trivial)) (fun o _=>.pure trivial)
theorem XJ (bs:List Bind) (h:OO bs):gG (fun n=>qI n bs) bs:=by
 have hl:=h.1;refine Ex.Ai ?_;unfold qI;refine Ex.bind (P:=fun s=>s=bs) ?_ (fun s hs=>.pure hs);refine Ex.dY (I:=fun i q s=>s=bs.take i∧bs.drop i=q) ⟨rfl,rfl⟩ ?_ ?_
 ·rintro i x q s ⟨rfl,hd⟩;obtain⟨g1,g2,g3,g4⟩:=jA hd;have:=(h.2 x g4).2;refine .bp _ (nZ (by omega)) (.bp _ (dJ (by simp; omega)) (.pure ⟨?_,g2⟩));rw[List.take_add_one,g1]; cases x; rfl
 ·rintro s ⟨rfl,_⟩; simp
theorem acC (bs:List Bind) (h:OO bs) (hl:bs.length<60) (f:Form) (hf:zL f) (id:Int):Ex (fun n=>uZ n bs f id) (fun r=>r.2=true→OO r.1∧r.1.length=bs.length+1):=by
 unfold uZ;obtain⟨f1,f2,_⟩:=zf.1 hf.1;refine Ex.bind (P:=fun _=>True) (.bind (V4 bs h) fun k _=>.ite (fun _=>.pure trivial) (fun _=>.bind (aao f hf) fun k _=>.pure trivial)) ?_;intro o _;refine .ite (fun _=>.pure (by simp)) (fun _=>.bv (XJ bs h) (.bp _ (nZ (by omega)) (.bp _ (dJ (by simp; omega)) ?_)));have hn:OO (bs++[(⟨f.name,f.scopes,id⟩:Bind)]):=⟨by simp; omega,fun b hb=>by
  rcases List.mem_append.1 hb with hb | hb
  ·exact h.2 b hb
  ·rw[List.mem_singleton.1 hb]; exact⟨f1,f2⟩⟩
 exact .bind (aam _ hn) fun k _=>.ite (fun _=>.pure (by simp)) (fun _=>.pure fun _=>⟨hn,by simp⟩)
def OT (ls:List Form):Prop:=ls.length≤1000∧∀x∈ls,zL x
theorem V6 (ls:List Form) (h:OT ls):Ex (fun n=>kF n ls) (fun _=>True):=by
 have hl:=h.1;unfold kF;refine Ex.iter (μ:=fun s=>((ls.length:Int)-s).toNat) (I:=fun s=>0≤s∧s≤(ls.length:Int)) 0 ⟨by omega,by omega⟩ ?_;rintro s ⟨h0,h1⟩;refine Ex.bind (P:=fun o=>o=true→s<(ls.length:Int)) (.ite (fun h=>.pure fun _=>h) (fun _=>.pure (by simp))) ?_;intro o ho;refine .ite (fun hc=>?_) (fun _=>.out trivial);have hs:=ho hc;obtain⟨b,hb,hm⟩:=bY h0 hs;obtain⟨z,hz,_⟩:=VZ h0 h1;refine Ex.bind (P:=fun _=>True) ?_ ?_
 ·exact .bp b hb (.bind (aao b (h.2 b hm)) fun k _=>.ite (fun _=>.pure trivial) (fun _=>.ite (fun _=>.pure trivial) (fun _=>.ite (fun _=>.pure trivial) (fun _=>.bp z hz (.bv (OL _ _) (.pure trivial))))))
 intro o5 _;exact .ite (fun _=>.out trivial) (fun _=>.go (by rw[lH (by omega) (by omega)]; omega) (by rw[lH (by omega) (by omega)]; omega))
mutual
def X0:Form→Prop
 | ⟨k,nm,n,sc,kids⟩=>qm ⟨k,nm,n,sc,kids⟩=false∧XK kids∧(∀x,kids.head? = some x→qm x=false)∧kids.countP qm≤1
def XK:List Form→Prop
 | []=>True
 | x::r=>(qm x=false→X0 x)∧XK r
end
theorem aap {f:Form}:X0 f↔qm f=false∧XK f.kids∧(∀x,f.kids.head? = some x→qm x=false)∧f.kids.countP qm≤1:=by cases f; simp only[X0]
theorem J6:∀{l:List Form},XK l↔∀x∈l,qm x=false→X0 x
 | []=>by simp[XK]
 | x::r=>by simp[XK,J6 (l:=r)]
theorem Rq (f:Form) (hf:zL f):Ex (fun n=>qF n f) (fun r=>r=true→X0 f):=by
 have hl:=hf.len;refine .succ ?_;simp only[qF,ER,Option.bind_some];refine .ite (fun _=>.pure (by simp)) (fun hd=>?_);refine Ex.bH (Q:=fun r=>r=true→X0 f) (P:=fun(o:Bool⊕Int)=>match o with
  | .inl w=>w=false
  | .inr s=>s≤1→X0 f) ?_ (fun w h=>by have h:w=false:=h; simp[h]) (fun s h=>Ex.pure (v:=decide (s≤1)) fun e=>h (by simpa using e))
 refine Ex.bV (I:=fun i q s=>∃p,p++q=f.kids∧i=p.length∧s=((p.countP qm:Nat):Int)∧(∀x∈p,qm x=false→X0 x)∧(∀x,p.head? = some x→qm x=false)) ⟨[],rfl,rfl,rfl,by simp,by simp⟩ ?_ ?_
 ·rintro i x q s ⟨p,hp,rfl,rfl,h3,h4⟩;have hx:x∈f.kids:=by rw[← hp]; simp
  have hlen:p.length+(q.length+1)=f.kids.length:=by rw[← hp]; simp
  have hc:=List.countP_le_length (p:=qm) (l:=p);have hp':(p++[x])++q=f.kids:=by rw[← hp]; simp
  have tail:∀{R:Bool⊕Int→Prop} {g:Nat→Option ((Bool⊕Int)⊕Int)},Ex g (fun r=>(r=.inl (.inl false)∧R (.inl false))∨∃s,r=.inr s∧R (.inr s))→Ex (fun n=>Mx.bH (g n) (fun s=>some (.inr s))) R:=fun h=>by
   refine Ex.bH h (fun w hw=>?_) (fun t ht=>?_)
   ·rcases hw with ⟨e,h⟩ | ⟨s,e,_⟩
    ·cases e; exact h
    ·cases e
   ·rcases ht with ⟨e,_⟩ | ⟨s,e,h⟩
    ·cases e
    ·cases e; exact .pure h
  refine tail ?_;refine .ite (fun Na=>?_) (fun Na=>?_)
  ·refine Ex.bind (P:=fun o=>o=false→0<p.length) (.ite (fun _=>.pure (by simp)) (fun h0=>?_)) ?_
   ·obtain⟨y,hy,_⟩:=bY (l:=f.kids) (i:=(p.length:Int)-1) (by omega) (by omega);rw[V3 (by omega) (by omega)];exact .bp y hy (.pure fun _=>by omega)
   ·intro o ho;refine .ite (fun _=>.pure (.inl ⟨rfl,fun w e=>by cases e; rfl,fun s' e=>by cases e⟩)) (fun hc'=>.pure (.inr ⟨_,rfl,fun w e=>by(cases e),fun s' e=>?_⟩));cases e;have hpos:=ho (by simpa using hc');refine⟨p++[x],hp',by simp,?_,?_,?_⟩
    ·rw[lH (by omega) (by omega),List.countP_append]; simp[Na]
    ·intro y hy hdy;rcases List.mem_append.1 hy with hy | hy
     ·exact h3 y hy hdy
     ·rw[List.mem_singleton.1 hy,Na] at hdy; cases hdy
    ·intro y hy;cases p with
     | nil=>simp at hpos
     | cons a p=>exact h4 y (by simpa using hy)
  ·refine .bind (Rq x (hf.kid hx)) fun k hk=>?_;refine .ite (fun _=>.pure (.inl ⟨rfl,fun w e=>by cases e; rfl,fun s' e=>by cases e⟩)) (fun hc'=>.pure (.inr ⟨_,rfl,fun w e=>by(cases e),fun s' e=>?_⟩));cases e;have hkx:=hk (by simpa using hc');refine⟨p++[x],hp',by simp,?_,?_,?_⟩
   ·rw[List.countP_append]; simp[Na]
   ·intro y hy hdy;rcases List.mem_append.1 hy with hy | hy
    ·exact h3 y hy hdy
    ·rw[List.mem_singleton.1 hy]; exact hkx
   ·intro y hy;cases p with
    | nil=>simp at hy; rw[← hy]; simpa using Na
    | cons a p=>exact h4 y (by simpa using hy)
 ·rintro s ⟨p,hp,_,rfl,h3,h4⟩ hs;rw[List.append_nil] at hp;subst hp;exact aap.2 ⟨by simpa using hd,J6.2 h3,h4,by omega⟩
termination_by SizeOf.sizeOf f
decreasing_by exact jG hx
theorem ae4 (f:Form) (hf:zL f) (ls:List Form) (h:OT ls):Ex (fun n=>EG n f ls) (fun r=>r=true→gW f=true∧X0 f):=by
 have hc:=hf.2;have hvl:=DU ls f;unfold EG;refine Ex.bind (P:=fun o=>o=false→gW f=true∧X0 f) ?_ ?_
 ·refine .bv (qO hf) (.ite (fun _=>.pure (by simp)) (fun h1=>.bind (V6 ls h) fun k _=>.ite (fun _=>.pure (by simp)) (fun _=>.bind (Rq f hf) fun k hk=>.pure fun e=>⟨by simpa using h1,hk (by simpa using e)⟩)))
 intro o ho;refine .ite (fun _=>.pure (by simp)) (fun hc'=>?_);have hgood:=ho (by simpa using hc');refine .bind (H8 ls f [] (by simp; omega)) fun k3 hk3=>?_;refine Ex.bH (P:=fun _=>True) ?_ (fun _ _ _=>hgood) ?_
 ·refine Ex.bV (I:=fun i q s=>k3.drop i=q) rfl ?_ (fun _ _=>trivial);intro i x q s hd;obtain⟨_,g2,g3,_⟩:=jA hd;obtain⟨z,hz,_⟩:=VZ (l:=k3) (i:=(i:Int)) (by omega) (by omega);exact .bp z hz (.bv (OL _ _) (.ite (fun _=>.fo trivial) (fun _=>.fg g2)))
 intro _ _;refine .bind (H9 ls f [] 0 (by simp; omega)) fun k16 _=>?_;refine Ex.bH (P:=fun _=>True) ?_ (fun _ _ _=>hgood) (fun _ _=>.pure fun _=>hgood);exact Ex.bV (I:=fun _ _ _=>True) trivial (fun i x q s _=>.ite (fun _=>.fo trivial) (fun _=>.fg trivial)) (fun _ _=>trivial)
theorem Rt (hs:List iF) (f:Form):Ex (fun n=>uf n hs f) (fun r=>r=-1∨0≤r∧r<(hs.length:Int)):=by
 unfold uf;refine Ex.bH (P:=fun o=>match o with
  | .inl w=>0≤w∧w<(hs.length:Int)
  | .inr _=>True) ?_ (fun w h=>.inr h) (fun _ _=>.pure (.inl rfl))
 refine Ex.bV (I:=fun i q s=>hs.drop i=q) rfl ?_ (fun _ _=>trivial);intro i x q s hd;obtain⟨_,g2,g3,_⟩:=jA hd;exact .bv (yY _ _) (.ite (fun _=>.fo ⟨by omega,by omega⟩) (fun _=>.fg g2))
theorem Nb (hs:List iF) (f:Form):Ex (fun n=>qG n hs f) (fun _=>True):=by
 unfold qG;refine .ite (fun _=>.pure trivial) (fun _=>.bind (Rt hs f) fun k hk=>.ite (fun _=>.pure trivial) (fun hn=>?_));obtain⟨h,hh,_⟩:=bY (l:=hs) (i:=k) (by omega) (by omega);exact .bp h hh (.pure trivial)
theorem aaq (hs:List iF) (h:hs.length≤1000000):Ex (fun n=>xI n hs) (fun r=>r.length=hs.length):=by
 unfold xI;refine Ex.bind (P:=fun s=>s.length=hs.length) ?_ (fun s hs=>.pure hs);refine Ex.dY (I:=fun i q s=>i+q.length=hs.length∧s.length=i) ⟨by simp,rfl⟩ ?_ (fun s h=>h.2);rintro i x q s ⟨h1,h2⟩;simp only[List.length_cons] at h1;exact Ex.bind (P:=fun _=>True) (.ite (fun _=>.pure trivial) (fun _=>.pure trivial)) (fun o _=>.bp _ (dJ (by simp; omega)) (.pure ⟨by omega,by simp; omega⟩))
theorem Ru (hs:List iF) (f:Form):Ex (fun n=>ug n hs f) (fun _=>True):=by
 refine .succ ?_;simp only[ug];refine .bind (Nb hs f) fun k _=>.ite (fun _=>.pure trivial) (fun _=>?_);refine Ex.bH (P:=fun _=>True) ?_ (fun _ _=>trivial) (fun _ _=>.pure trivial);refine Ex.bV (I:=fun i q s=>∀x∈q,x∈f.kids) (fun _ h=>h) ?_ (fun _ _=>trivial);intro i x q s h;have hx:=h x List.mem_cons_self;exact .bind (Ru hs x) fun k _=>.ite (fun _=>.fo trivial) (fun _=>.fg fun y hy=>h y (List.mem_cons_of_mem _ hy))
termination_by SizeOf.sizeOf f
decreasing_by exact jG hx
theorem Uo (f:Form) (hf:zL f) (hs:List iF) (h:hs.length≤1000000):Ex (fun n=>yP n f hs) (fun _=>True):=by
 have hl:=hf.len;refine .succ ?_;simp only[yP,ER,Option.bind_some];refine Ex.bind (P:=fun _=>True) (.ite (fun _=>.pure trivial) (fun _=>.bind (Nb hs f) fun k _=>.pure trivial)) ?_;intro o _;refine .ite (fun _=>.pure trivial) (fun _=>?_);refine Ex.bH (P:=fun _=>True) ?_ (fun _ _=>trivial) (fun _ _=>.pure trivial);refine Ex.bV (I:=fun i q s=>f.kids.drop i=q) rfl ?_ (fun _ _=>trivial);intro i x q s hd;obtain⟨_,g2,g3,hx⟩:=jA hd;refine Ex.bH (P:=fun o=>∀w,o=.inl w→∃b,w=.inl b) ?_ (fun w hw=>?_) (fun _ _=>.fg g2)
 ·refine .ite (fun _=>?_) (fun _=>?_)
  ·refine Ex.bind (P:=fun _=>True) (.ite (fun _=>.pure trivial) (fun h0=>?_)) (fun o _=>.ite (fun _=>.pure (fun w e=>by cases e; exact⟨_,rfl⟩)) (fun _=>.pure (fun w e=>by cases e)));obtain⟨y,hy,_⟩:=bY (l:=f.kids) (i:=(i:Int)-1) (by omega) (by omega);rw[V3 (by omega) (by omega)];exact .bp y hy (.pure trivial)
  ·refine Ex.bind (P:=fun _=>True) (.ite (fun hc=>?_) (fun _=>.pure trivial)) ?_
   ·obtain⟨y,hy,_⟩:=bY (l:=f.kids) (i:=((i+1:Nat):Int)) (by omega) hc;exact .bp y hy (.pure trivial)
   intro o _;refine .ite (fun _=>?_) (fun _=>?_)
   ·refine Ex.bind (P:=fun _=>True) ?_ (fun o _=>.ite (fun _=>.pure (fun w e=>by cases e; exact⟨_,rfl⟩)) (fun _=>.pure (fun w e=>by cases e)));exact .bind (Ru hs x) fun k _=>.ite (fun _=>.pure trivial) (fun _=>.bind (aaq hs h) fun k hk=>.bind (Uo x (hf.kid hx) k (by omega)) fun k _=>.pure trivial)
   ·exact .bind (Uo x (hf.kid hx) hs h) fun k _=>.ite (fun _=>.pure (fun w e=>by cases e; exact⟨_,rfl⟩)) (fun _=>.pure (fun w e=>by cases e))
 ·obtain⟨b,rfl⟩:=hw w rfl;exact⟨fun _ _=>trivial,fun s' e=>by cases e⟩
termination_by SizeOf.sizeOf f
decreasing_by all_goals exact jG hx
theorem XL (f:Form) (hf:zL f) (ls:List Form):Ex (fun n=>uU n f ls) (fun r=>r.length≤401):=by
 have hc:=hf.2;have hvl:=DU ls f;unfold uU;refine .bind (H8 ls f [] (by simp; omega)) fun k1 h1=>.bind (H9 ls f [] 0 (by simp; omega)) fun k2 h2=>?_;simp only[List.length_nil,Nat.zero_add] at h1 h2;refine Ex.bind (P:=fun s=>s.length≤401) ?_ (fun s hs=>.pure hs);refine Ex.dY (I:=fun i q s=>k1.drop i=q∧s.length=i) ⟨rfl,rfl⟩ ?_ (fun s h=>by have:=h.2; omega);rintro i x q s ⟨hd,h3⟩;obtain⟨_,g2,g3,_⟩:=jA hd;have hi:i<k2.length:=by omega
 refine .bp () (Fq (by omega) (by simpa using hi)) (.bp _ (List.getElem?_eq_getElem hi) ?_);exact Ex.bind (P:=fun _=>True) (.ite (fun _=>.pure trivial) (fun _=>.pure trivial)) (fun o _=>.bp _ (dJ (by simp; omega)) (.pure ⟨g2,by simp; omega⟩))
def ae5 (r:Rule):Prop:=zL r.pattern∧zL r.template
def ruP (r:Rule):Prop:=gW r.pattern=true∧X0 r.pattern∧r.pattern.kind=3
theorem acD (r:Rule) (hr:ae5 r) (ls:List Form) (h:OT ls):Ex (fun n=>xJ n r ls) (fun b=>b=true→ruP r):=by
 unfold xJ;refine Ex.bind (P:=fun b=>b=true→ruP r) ?_ (fun b hb=>.pure hb);refine .bind (ae4 r.pattern hr.1 ls h) fun k hk=>.ite (fun h1=>.ite (fun h2=>.ite (fun _=>.bv (qO hr.2) (.ite (fun _=>?_) (fun _=>.pure (by simp)))) (fun _=>.pure (by simp))) (fun _=>.pure (by simp))) (fun _=>.pure (by simp));exact .bind (XL r.pattern hr.1 ls) fun k8 h8=>.bind (Uo r.template hr.2 k8 (by omega)) fun k9 _=>.pure fun _=>⟨(hk h1).1,(hk h1).2,h2⟩
def Ur (rs:List Rule):Prop:=rs.length≤1000∧∀r∈rs,ae5 r
theorem Rw (rs:List Rule) (hr:Ur rs) (ls:List Form) (h:OT ls):Ex (fun n=>qH n rs ls) (fun b=>b=true→∀r∈rs,ruP r):=by
 have hl:=hr.1;unfold qH;refine Ex.iter (μ:=fun s=>((rs.length:Int)-s).toNat) (I:=fun s=>0≤s∧s≤(rs.length:Int)∧∀i:Nat,(i:Int)<s→∀r,rs[i]? = some r→ruP r) 0 ⟨by omega,by omega,fun i h=>by omega⟩ ?_;rintro s ⟨h0,h1,h2⟩;refine Ex.bind (P:=fun o=>(o=true→s<(rs.length:Int))∧(o=false→s=(rs.length:Int)∨10≤s)) (.ite (fun h=>.pure ⟨fun _=>h,fun e=>.inr (by simpa using e)⟩) (fun h=>.pure ⟨by simp,fun _=>.inl (by omega)⟩)) ?_;rintro o ⟨ho,ho'⟩;refine .ite (fun hc=>?_) (fun hc=>?_)
 ·have hs:=ho hc;obtain⟨b,hb,hm⟩:=bY h0 hs;refine .bp b hb (.bind (acD b (hr.2 b hm) ls h) fun k hk=>.ite (fun _=>.out (by simp)) (fun hk'=>.go ?_ (by rw[lH (by omega) (by omega)]; omega)));rw[lH (by omega) (by omega)];refine⟨by omega,by omega,fun i hi r hr'=>?_⟩;by_cases hlt:(i:Int)<s
  ·exact h2 i hlt r hr'
  ·have e:s=(i:Int):=by omega
   rw[e,dZ hr'] at hb;cases hb;exact hk (by simpa using hk')
 ·refine Ex.bind (P:=fun b=>b=true→(rs.length:Int)<10) (.ite (fun h3=>.bind (V6 ls h) fun k _=>.pure fun _=>h3) (fun _=>.pure (by simp))) (fun o8 h8=>.out fun hb r hr'=>?_);have h10:=h8 hb;have he:s=(rs.length:Int):=by rcases ho' (by simpa using hc) with h | h <;> omega
  obtain⟨i,hi,rfl⟩:=List.mem_iff_getElem.1 hr';exact h2 i (by omega) _ (List.getElem?_eq_getElem hi)
theorem Ex.tail {A σ:Type} {R:A⊕σ→Prop} {g:Nat→Option ((A⊕σ)⊕σ)} (h:Ex g (fun r=>(∃a,r=.inl (.inl a)∧R (.inl a))∨∃s,r=.inr s∧R (.inr s))):Ex (fun n=>Mx.bH (g n) (fun s=>some (.inr s))) R:=by
 refine Ex.bH h (fun w hw=>?_) (fun t ht=>?_)
 ·rcases hw with ⟨a,e,h⟩ | ⟨s,e,_⟩
  ·cases e; exact h
  ·cases e
 ·rcases ht with ⟨a,e,_⟩ | ⟨s,e,h⟩
  ·cases e
  ·cases e; exact .pure h
mutual
def htP:iF→Prop
 | ⟨_,_,one,many⟩=>zL one∧many.length≤1000∧rV many
def rV:List iF→Prop
 | []=>True
 | x::r=>htP x∧rV r
end
theorem J7 {h:iF}:htP h↔zL h.one∧h.many.length≤1000∧rV h.many:=by cases h; simp only[htP]
theorem qg:∀{l:List iF},rV l↔∀x∈l,htP x
 | []=>by simp[rV]
 | x::r=>by simp[rV,qg (l:=r)]
theorem Bc {a b:List iF} (h1:rV a) (h2:rV b):rV (a++b):=qg.2 fun x hx=>(List.mem_append.1 hx).elim (qg.1 h1 x) (qg.1 h2 x)
theorem acE (p:Form) (hc:cF p≤401) (ls:List Form) (rows:List (List iF)) (hl:rows.length≤1000) (h:∀r∈rows,r.length=Ky ls p∧rV r):Ex (fun n=>AO n p ls rows) (fun r=>r.length=Ky ls p∧rV r):=by
 have hvl:=DU ls p;unfold AO;refine .bind (H8 ls p [] (by simp; omega)) fun k1 h1=>.bind (H9 ls p [] 0 (by simp; omega)) fun k2 h2=>?_;simp only[List.length_nil,Nat.zero_add] at h1 h2;refine Ex.bind (P:=fun r=>r.length=Ky ls p∧rV r) ?_ (fun s hs=>.pure hs);refine Ex.dY (I:=fun i q s=>k1.drop i=q∧s.length=i∧rV s) ⟨rfl,rfl,trivial⟩ ?_ (fun s h=>⟨by rw[h.2.1,h1],h.2.2⟩);rintro i x q s ⟨hd,h3,h4⟩;obtain⟨_,g2,g3,_⟩:=jA hd;have hi:i<k2.length:=by omega
 refine .bp () (Fq (by omega) (by simpa using hi)) (.bp _ (List.getElem?_eq_getElem hi) ?_);refine Ex.bind (P:=fun t=>t.length=rows.length∧rV t) ?_ ?_
 ·refine Ex.dY (I:=fun j q t=>(∀r∈q,r∈rows)∧j+q.length=rows.length∧t.length=j∧rV t) ⟨fun _ h=>h,by simp,rfl,trivial⟩ ?_ (fun t h=>⟨h.2.2.1,h.2.2.2⟩);rintro j y q' t ⟨t1,t2,t3,t4⟩;simp only[List.length_cons] at t2;obtain⟨y1,y2⟩:=h y (t1 y List.mem_cons_self);obtain⟨e,he,hm⟩:=bY (l:=y) (i:=(i:Int)) (by omega) (by omega);exact .bp e he (.bp _ (dJ (by simp; omega)) (.pure ⟨fun r hr=>t1 r (List.mem_cons_of_mem _ hr),by omega,by simp; omega,Bc t4 ⟨qg.1 y2 e hm,trivial⟩⟩))
 ·rintro t ⟨t1,t2⟩;refine .bp _ (dJ (by simp; omega)) (.pure ⟨g2,by simp; omega,Bc h4 ⟨J7.2 ⟨smZ,by simp only; omega,t2⟩,trivial⟩⟩)
theorem Gx {p:Form→Bool}:∀{l:List Form},l.countP p≤1→∀{i j:Nat} {x y:Form},l[i]? = some x→l[j]? = some y→p x=true→p y=true→i=j
 | [],_,i,j,x,y,h,_,_,_=>by simp at h
 | a::l,hc,i,j,x,y,hi,hj,hx,hy=>by
  rw[List.countP_cons] at hc;have z:∀{k:Nat} {z:Form},l[k]? = some z→p z=true→p a=false∧l.countP p≤1:=fun {k z} hk hz=>by
   have:0<l.countP p:=List.countP_pos_iff.2 ⟨z,List.mem_of_getElem? hk,hz⟩;cases ha:p a with
   | true=>rw[ha,if_pos rfl] at hc; omega
   | false=>exact⟨rfl,by omega⟩
  cases i with
  | zero=>
   cases j with
   | zero=>rfl
   | succ j=>
    simp at hi hj; subst hi;rw[(z hj hy).1] at hx; cases hx
  | succ i=>
   cases j with
   | zero=>
    simp at hi hj; subst hj;rw[(z hi hx).1] at hy; cases hy
   | succ j=>
    simp at hi hj;rw[Gx (z hi hx).2 hi hj hx hy]
def mtR (ls:List Form) (v:Nat) (r:List iF×Bool):Prop:=r.2=true→r.1.length=v∧rV r.1
theorem aar (bs:List Bind) (ls:List Form) (ps fs:List Form) (hcs:jO ps≤400) (hk:∀x∈ps,qm x=true→x.kids=[]) (hfs:∀x∈fs,zL x) (hfl:fs.length≤400) (hd0:∀x,ps.head? = some x→qm x=false) (hd1:ps.countP qm≤1) (hm:∀x∈ps,qm x=false→∀f,zL f→Ex (fun n=>iC n bs x ls f) (mtR ls (Ky ls x))):Ex (fun n=>tY n bs ps ls fs) (mtR ls (vG ls ps)):=by
 have hpl:=BR ps;refine .succ ?_;simp only[tY,ER,Option.bind_some];refine Ex.iter (μ:=fun s=>((ps.length:Int)-s.2).toNat) (I:=fun s=>0≤s.2∧s.2≤(ps.length:Int)∧(∃j:Nat,s.2=(j:Int)∧((s.1=-1∧∀k x,k≤j→ps[k]? = some x→qm x=false)∨∃r:Nat,s.1=(r:Int)∧∃x,ps[r+1]? = some x∧qm x=true))) ((-1),0) ⟨by simp,by simp,0,rfl,.inl ⟨rfl,fun k x hk hx=>hd0 x ?_⟩⟩ ?_
 ·obtain rfl:k=0:=by omega
  rw[List.head?_eq_getElem?]; exact hx
 rintro ⟨row,i⟩ ⟨h0,h1,j,hj,hrow⟩;simp only at h0 h1 hj hrow ⊢;subst hj;rw[lH (by omega) (by omega)];refine .ite (fun hlt=>?_) (fun hge=>?_)
 ·obtain⟨e,he,_⟩:=bY (l:=ps) (i:=(j:Int)+1) (by omega) hlt;have hg:ps[j+1]? = some e:=by
   have hv:j+1<ps.length:=by omega
   have:=dZ (List.getElem?_eq_getElem hv);rw[show((j+1:Nat):Int)=(j:Int)+1 by omega,he] at this;rw[List.getElem?_eq_getElem hv,← Option.some.inj this]
  refine Ex.bind (P:=fun o=>(qm e=true∧o=(j:Int))∨(qm e=false∧o=row)) (.bp e he (.ite (fun h=>.pure (.inl ⟨h,rfl⟩)) (fun h=>.pure (.inr ⟨by simpa using h,rfl⟩)))) ?_;intro o ho;refine .fg ⟨⟨?_,?_,j+1,?_,?_⟩,?_⟩
  ·try simp only
   omega
  ·try simp only
   omega
  ·try simp only
   omega
  rotate_left
  ·try simp only
   omega
  rcases ho with ⟨hd,rfl⟩ | ⟨hd,rfl⟩
  ·exact .inr ⟨j,rfl,e,hg,hd⟩
  ·rcases hrow with ⟨hr,ha⟩ | hr
   ·refine .inl ⟨hr,fun k x hk hx=>?_⟩;rcases Nat.lt_or_ge j k with hlt | hle
    ·obtain rfl:k=j+1:=by omega
     rw[hg] at hx; cases hx; exact hd
    ·exact ha k x hle hx
   ·exact .inr hr
 ·refine Ex.bind (P:=fun o=>o=false→(row<0→(ps.length:Int)=(fs.length:Int))∧(row≥0→(fs.length:Int)≥(ps.length:Int)-2)) ?_ ?_
  ·have hw:aY ((ps.length:Int)-2)=(ps.length:Int)-2:=kK (by omega) (by omega);rw[hw];refine .ite (fun hn=>?_) (fun hn=>?_)
   ·refine .ite (fun _=>.pure (by simp)) (fun he=>?_);exact .neg (by omega) (.pure fun _=>⟨fun _=>by omega,fun h=>by omega⟩)
   ·exact .pos (by omega) (Ex.pure (v:=decide ((fs.length:Int)<(ps.length:Int)-2)) fun e=>⟨fun h=>by omega,fun _=>by have e:=of_decide_eq_false e; omega⟩)
  intro o9 ho9;refine .ite (fun _=>.fo (fun h=>by cases h)) (fun gJ=>?_);obtain⟨hA,hB⟩:=ho9 (by simpa using gJ);have hw:aY ((ps.length:Int)-2)=(ps.length:Int)-2:=kK (by omega) (by omega);have hw2:aY ((fs.length:Int)-((ps.length:Int)-2))=(fs.length:Int)-((ps.length:Int)-2):=kK (by omega) (by omega);rw[hw,hw2];have hnd:∀k x,ps[k]? = some x→qm x=true→∃r:Nat,row=(r:Int)∧k=r+1:=by
   intro k x hx hd;rcases hrow with ⟨hr,ha⟩ | ⟨r,hr,y,hy,hdy⟩
   ·have:k<ps.length:=(List.getElem?_eq_some_iff.1 hx).1;rw[ha k x (by omega) hx] at hd; cases hd
   ·exact⟨r,hr,Gx hd1 hx hy hd hdy⟩
  have hrr:row<0∨∃r:Nat,row=(r:Int)∧r+1<ps.length∧∃x,ps[r+1]? = some x∧qm x=true:=by
   rcases hrow with ⟨hr,ha⟩ | ⟨r,hr,y,hy,hdy⟩
   ·exact .inl (by omega)
   ·exact .inr ⟨r,hr,(List.getElem?_eq_some_iff.1 hy).1,y,hy,hdy⟩
  refine Ex.bH (P:=fun o=>match o with
   | .inl w=>∃h:List iF,w=.inl (h,false)
   | .inr s=>s.1.length=vG ls ps∧rV s.1) ?_ ?_ ?_
  ·refine Ex.bV (I:=fun i q s=>ps.drop i=q∧s.1.length+vG ls q=vG ls ps∧rV s.1∧((row<0→s.2=(i:Int))∧∀r:Nat,row=(r:Int)→(i≤r→s.2=(i:Int))∧(r+2≤i→s.2=(i:Int)-2+((fs.length:Int)-((ps.length:Int)-2)))∧(i=r+1→s.2=(r:Int)+((fs.length:Int)-((ps.length:Int)-2))))) ⟨rfl,by simp,trivial,fun _=>rfl,fun r _=>⟨fun _=>rfl,fun h=>by omega,fun h=>by omega⟩⟩ ?_ (fun s h=>⟨by simpa [vG] using h.2.1,h.2.2.1⟩);rintro i x q ⟨hs,at_⟩ ⟨hd,s1,s2,s3,s4⟩;obtain⟨g1,g2,g3,g4⟩:=jA hd;simp only[vG] at s1 s3 s4 ⊢;have hvs:vG ls ps≤400:=Nat.le_trans (OM ls ps) hcs;have hcx:=qX g4;refine Ex.tail ?_;refine .ite (fun Na=>.pure (.inr ⟨_,rfl,fun w e=>by(cases e),fun s' e=>?_⟩)) (fun Na=>?_)
   ·cases e;obtain⟨r,hr,hir⟩:=hnd i x g1 Na;have hv:Ky ls x=0:=by
     rw[J5,hk x g4 Na];have:XI ls x=false:=by
      unfold qm at Na; unfold XI;simp only[Bool.and_eq_true,decide_eq_true_eq] at Na;simp[Na.2]
     simp[this,vG]
    refine⟨g2,by simp only; omega,s2,fun h=>by omega,fun r' hr'=>⟨fun h=>by omega,fun h=>?_,fun h=>by omega⟩⟩;have:=(s4 r hr).2.2 hir;simp only; omega
   have Na:qm x=false:=by simpa using Na
   refine .ite (fun hir=>?_) (fun hir=>?_)
   ·have hat:0≤at_∧at_<(fs.length:Int)∧(row<0→at_=(i:Int)):=by
     refine⟨?_,?_,fun h=>s3 h⟩
     ·rcases hrr with h | ⟨r,hr,hr2,y,hy,hdy⟩
      ·rw[s3 h]; omega
      ·have hB:=hB (by omega);obtain⟨a1,a2,a3⟩:=s4 r hr;rcases Nat.lt_or_ge r i with hlt | hle
       ·rcases Nat.lt_or_ge (r+1) i with hl2 | hl2
        ·rw[a2 hl2]; omega
        ·rw[a3 (by omega)]; omega
       ·rw[a1 hle]; omega
     ·rcases hrr with h | ⟨r,hr,hr2,y,hy,hdy⟩
      ·have:=hA h; rw[s3 h]; omega
      ·have hB:=hB (by omega);obtain⟨a1,a2,a3⟩:=s4 r hr;rcases Nat.lt_or_ge r i with hlt | hle
       ·rcases Nat.lt_or_ge (r+1) i with hl2 | hl2
        ·rw[a2 hl2]; omega
        ·obtain rfl:i=r+1:=by omega
         rw[g1] at hy; cases hy;rw[hdy] at Na; cases Na
       ·rw[a1 hle]; omega
    obtain⟨e,he,hem⟩:=bY hat.1 hat.2.1;refine .bp e he (.bind (hm x g4 Na e (hfs e hem)) fun k24 FD=>?_);refine .ite (fun _=>.pure (.inl ⟨_,rfl,fun w e=>by cases e; exact⟨_,rfl⟩,fun s' e=>by cases e⟩)) (fun hk2=>?_);obtain⟨m1,m2⟩:=FD (by simpa using hk2);refine .bp _ (dJ (by omega)) (.pure (.inr ⟨_,rfl,fun w e=>by(cases e),fun s' e=>?_⟩));cases e;rw[lH hat.1 (by omega)];refine⟨g2,by simp only[List.length_append]; omega,Bc s2 m2,fun h=>?_,fun r hr=>?_⟩
    ·have:=s3 h; simp only; omega
    ·obtain⟨a1,a2,a3⟩:=s4 r hr;have hne:i≠r:=fun e=>hir (by rw[hr,e]);have hne2:i≠r+1:=fun e=>by
      rcases hrr with h | ⟨r',hr',hr2,y,hy,hdy⟩
      ·omega
      ·obtain rfl:r=r':=by omega
       rw[← e,g1] at hy; cases hy;rw[hdy] at Na; cases Na
     simp only;exact⟨fun h=>by have:=a1 (by omega); omega,fun h=>by have:=a2 (by omega); omega,fun h=>by omega⟩
   ·have hir:(i:Int)=row:=by simpa using hir
    have ha:=(s4 i hir.symm).1 (Nat.le_refl i);have hB:=hB (by omega);have hi2:i+1<ps.length:=by
     rcases hrr with h | ⟨r,hr,hr2,y,hy,hdy⟩
     ·omega
     ·omega
    subst ha;refine Ex.iter (μ:=fun s=>s.2.2.toNat) (I:=fun s=>0≤s.2.2∧s.1+s.2.2=(i:Int)+((fs.length:Int)-((ps.length:Int)-2))∧(i:Int)≤s.1∧(s.2.1.length:Int)=s.1-(i:Int)∧∀r∈s.2.1,r.length=Ky ls x∧rV r) _ ⟨by simp only; omega,by simp only,by simp only; omega,by simp,by simp⟩ ?_;rintro ⟨a,rows,c⟩ ⟨c1,c2,c3,c4,c5⟩;simp only at c1 c2 c3 c4 c5 ⊢;refine .ite (fun hc=>?_) (fun hc=>?_)
    ·obtain⟨e,he,hem⟩:=bY (l:=fs) (i:=a) (by omega) (by omega);refine .bp e he (.bind (hm x g4 Na e (hfs e hem)) fun k32 FK=>?_);refine .ite (fun _=>.fo (.inl ⟨_,rfl,fun w e=>by cases e; exact⟨_,rfl⟩,fun s' e=>by cases e⟩)) (fun hk2=>?_);have FK:=FK (by simpa using hk2);refine .bp _ (dJ (by simp; omega)) (.fg ⟨?_,by simp only; rw[V3 (by omega) (by omega)]; omega⟩);simp only;rw[lH (by omega) (by omega),V3 (by omega) (by omega)];refine⟨by omega,by omega,by omega,by simp; omega,fun r hr=>?_⟩;rcases List.mem_append.1 hr with hr | hr
     ·exact c5 r hr
     ·rw[List.mem_singleton.1 hr]; exact FK
    ·refine .bind (acE x (by omega) ls rows (by omega) c5) fun Gl Oh=>.bp _ (dJ (by omega)) (.fo (.inr ⟨_,rfl,fun w e=>by(cases e),fun s' e=>?_⟩));cases e;refine⟨g2,by simp only[List.length_append]; omega,Bc s2 Oh.2,fun h=>by omega,fun r hr=>?_⟩;obtain rfl:i=r:=by omega
     exact⟨fun h=>by omega,fun h=>by omega,fun _=>by simp only; omega⟩
  ·rintro w ⟨h,rfl⟩;exact⟨fun w e=>by cases e; simp[mtR],fun s' e=>by cases e⟩
  ·rintro s ⟨h1,h2⟩;exact .fo fun _=>⟨h1,h2⟩
theorem Nc (bs:List Bind) (hb:bs.length≤1000000) (ls:List Form) (p:Form) (hv:∃d,Le d p=true) (hsh:X0 p) (hp:cF p≤401) (f:Form) (hf:zL f):Ex (fun n=>iC n bs p ls f) (mtR ls (Ky ls p)):=by
 obtain⟨d,hv⟩:=hv;obtain⟨e,_,v1,v2,v3,v4,v5⟩:=FT hv;obtain⟨q1,q2,q3,q4⟩:=aap.1 hsh;have he:=rQ p;refine .succ ?_;simp only[iC];refine .ite (fun h1=>?_) (fun h1=>?_)
 ·have hkn:=v3 (.inl h1);have hva:Ky ls p=if XI ls p=true then 1 else 0:=by rw[J5,hkn]; simp[vG]
  refine .ite (fun h2=>.pure fun _=>⟨?_,trivial⟩) (fun h2=>.bv (OL ls p) (.ite (fun h3=>?_) (fun h3=>?_)))
  ·rw[hva]; simp[XI,h2]
  ·exact Ex.bind (P:=fun _=>True) (.ite (fun _=>.bind (aan bs hb p f) fun k _=>.pure trivial) (fun _=>.pure trivial)) (fun o _=>.pure fun _=>⟨by rw[hva]; simp[XI,h3],trivial⟩)
  ·refine .bp _ (dJ (by simp)) (.pure fun _=>⟨?_,J7.2 ⟨hf,by simp,trivial⟩,trivial⟩);have hn:¬p.name=[46,46,46]:=fun e=>by
    unfold qm at q1;simp[h1,e] at q1
   rw[hva]; simp[XI,h1,h2,h3,hn]
 ·have hva:Ky ls p=vG ls p.kids:=by rw[J5]; simp[XI,h1]
  refine .ite (fun h2=>.bv (yY p f) (.pure fun _=>⟨?_,trivial⟩)) (fun h2=>.ite (fun _=>.pure (by simp[mtR])) (fun _=>?_))
  ·rw[hva,v3 (.inr h2)]; rfl
  ·rw[hva];refine .bind (aar bs ls p.kids f.kids (by omega) (fun x hx hd=>?_) (fun x hx=>hf.kid hx) hf.len q3 q4 (fun x hx hd g hg=>Nc bs hb ls x ⟨e,v5 x hx⟩ (J6.1 q2 x hx hd) (by have:=qX hx; omega) g hg)) fun k hk=>.pure hk;obtain⟨_,_,_,_,w3,_,_⟩:=FT (v5 x hx);unfold qm at hd;simp only[Bool.and_eq_true,decide_eq_true_eq] at hd;exact w3 (.inl hd.1)
termination_by SizeOf.sizeOf p
decreasing_by exact jG hx
mutual
def Sj (v:Form):Form→Bool
 | ⟨k,nm,n,sc,kids⟩=>(decide (k=1)&&iK ⟨k,nm,n,sc,kids⟩ v)||aas v kids
def aas (v:Form):List Form→Bool
 | []=>false
 | x::r=>Sj v x||aas v r
end
theorem ae7 (v f:Form):Sj v f=((decide (f.kind=1)&&iK f v)||aas v f.kids):=by cases f; simp only[Sj]
theorem Rx (v:Form):∀l:List Form,aas v l=l.any (Sj v)
 | []=>rfl
 | x::r=>by simp only[aas,List.any_cons,Rx v r]
theorem J8 (f v:Form):gG (fun n=>pF n f v) (Sj v f):=by
 refine .succ ?_;simp only[pF];rw[ae7,Rx];refine Ex.Ai ?_;refine Ex.bind (P:=fun o=>o=(decide (f.kind=1)&&iK f v)) (.ite (fun h=>.bv (yY f v) (.pure (by simp[h]))) (fun h=>.pure (by simp[h]))) ?_;rintro o rfl;cases (decide (f.kind=1)&&iK f v) with
 | true=>exact .pos rfl (.pure rfl)
 | false=>
  refine .neg (by simp) ?_;simp only[Bool.false_or];exact Ex.anyI (m:=fun n x=>pF n x v) (p:=Sj v) (fun x hx=>J8 x v) (fun h=>h.symm) (fun h=>.pure h.symm)
termination_by SizeOf.sizeOf f
decreasing_by exact jG hx
theorem aat (f:Form) (hs:List iF) (hh:rV hs) (hl:hs.length≤1000):Ex (fun n=>uV n f hs) (fun r=>r≤1000∧(0≤r→∀h∈hs,¬h.depth=0→Sj h.name f=true→r=(h.many.length:Int))):=by
 unfold uV;refine Ex.iter (μ:=fun s=>((hs.length:Int)-s.2).toNat) (I:=fun s=>0≤s.2∧s.2≤(hs.length:Int)∧-1≤s.1∧s.1≤1000∧∀(j:Nat) h,(j:Int)<s.2→hs[j]? = some h→¬h.depth=0→Sj h.name f=true→s.1=(h.many.length:Int)) ((-1),0) ⟨by simp,by simp,by simp,by simp,fun j h hj=>by simp only at hj; omega⟩ ?_;rintro ⟨c,i⟩ ⟨h0,h1,h2,h3,h4⟩;simp only at h0 h1 h2 h3 h4 ⊢;refine .ite (fun hlt=>?_) (fun hge=>?_)
 ·obtain⟨e,he,hem⟩:=bY h0 hlt;have hml:=(J7.1 (qg.1 hh e hem)).2.1;have hg:∀(j:Nat) h,¬(j:Int)<i→(j:Int)<i+1→hs[j]? = some h→h=e:=fun j h hn hj hx=>by
   obtain rfl:i=(j:Int):=by omega
   rw[dZ hx] at he; exact Option.some.inj he
  refine Ex.bH (P:=fun(o:(Int⊕(Int×Int))⊕Int)=>match o with
   | .inl w=>w=.inl (-1)
   | .inr c'=>-1≤c'∧c'≤1000∧∀(j:Nat) h,(j:Int)<i+1→hs[j]? = some h→¬h.depth=0→Sj h.name f=true→c'=(h.many.length:Int)) ?_ ?_ ?_
  ·refine Ex.bind (P:=fun o=>o=true↔(e.depth=0∨Sj e.name f=false)) (.bp e he (.ite (fun hd=>Ex.pure (v:=true) ⟨fun _=>.inl hd,fun _=>rfl⟩) (fun hd=>.bv (J8 f e.name) (Ex.pure (v:=!Sj e.name f) ⟨fun h=>.inr (by simpa using h),fun h=>h.elim (fun h=>absurd h hd) (fun h=>by simp[h])⟩)))) ?_;intro o6 ho6;refine .ite (fun hc6=>.pure ⟨h2,h3,fun j h hj hx hd hu=>?_⟩) (fun hc6=>?_)
   ·by_cases hji:(j:Int)<i
    ·exact h4 j h hji hx hd hu
    ·obtain rfl:=hg j h hji hj hx;rcases ho6.1 hc6 with h | h
     ·exact absurd h hd
     ·rw[h] at hu; cases hu
   ·have hn:¬e.depth=0∧Sj e.name f=true:=by
     constructor
     ·intro h; exact hc6 (ho6.2 (.inl h))
     ·cases hu:Sj e.name f with
      | true=>rfl
      | false=>exact absurd (ho6.2 (.inr hu)) hc6
    refine Ex.bind (P:=fun o=>o=false→c<0∨c=(e.many.length:Int)) (.ite (fun hc0=>.bp e he (Ex.pure (v:=decide (¬c=(e.many.length:Int))) fun h=>.inr (by have h:=of_decide_eq_false h; omega))) (fun hc0=>.pure fun _=>.inl (by omega))) ?_;intro o8 ho8;refine .ite (fun _=>.pure rfl) (fun hc8=>.bp e he (.pure ⟨by omega,by omega,fun j h hj hx hd hu=>?_⟩));by_cases hji:(j:Int)<i
    ·have:=h4 j h hji hx hd hu;rcases ho8 (by simpa using hc8) with h | h <;> omega
    ·obtain rfl:=hg j h hji hj hx;rfl
  ·rintro w rfl;exact⟨fun w e=>by cases e; exact⟨by omega,fun h=>by omega⟩,fun s' e=>by cases e⟩
  ·rintro c' ⟨q1,q2,q3⟩;rw[lH h0 (by omega)];exact .fg ⟨⟨by simp only; omega,by simp only; omega,q1,q2,q3⟩,by simp only; omega⟩
 ·refine .fo ⟨h3,fun _ h hm=>?_⟩;obtain⟨j,hj,rfl⟩:=List.mem_iff_getElem.1 hm;exact h4 j _ (by omega) (List.getElem?_eq_getElem hj)
theorem ae8 (f:Form) (hs:List iF) (hh:rV hs) (hl:hs.length≤1000) (i:Int) (h0:0≤i) (hi:∀h∈hs,h.depth>0→Sj h.name f=true→i<(h.many.length:Int)):Ex (fun n=>AU n f hs i) (fun r=>r.length=hs.length∧rV r):=by
 unfold AU;refine Ex.iter (μ:=fun s=>((hs.length:Int)-s.2).toNat) (I:=fun s=>0≤s.2∧s.2≤(hs.length:Int)∧(s.1.length:Int)=s.2∧rV s.1) ([],0) ⟨by simp,by simp,by simp,by simp[rV]⟩ ?_;rintro ⟨s,j⟩ ⟨s0,s1,s2,s3⟩;simp only at s0 s1 s2 s3 ⊢;refine .ite (fun hlt=>?_) (fun hge=>.fo ⟨by omega,s3⟩);obtain⟨e,he,hem⟩:=bY s0 hlt;have hp:=qg.1 hh e hem;refine .bp e he (Ex.bind (P:=fun o=>o=true→e.depth>0∧Sj e.name f=true) (.ite (fun hd=>.bv (J8 f e.name) (.pure fun h=>⟨hd,h⟩)) (fun _=>.pure (by simp))) fun o6 ho6=>?_);refine Ex.bind (P:=fun o=>htP o) (.ite (fun hc=>?_) (fun _=>.pure hp)) fun o7 ho7=>.bp _ (dJ (by simp; omega)) (.fg ⟨⟨?_,?_,?_,Bc s3 ⟨ho7,trivial⟩⟩,?_⟩)
 ·obtain⟨g1,g2⟩:=ho6 hc;obtain⟨z,hz,hzm⟩:=bY h0 (hi e hem g1 g2);exact .bp z hz (.pure (qg.1 (J7.1 hp).2.2 z hzm))
 all_goals
  simp only;rw[lH (by omega) (by omega)]
  try simp only[List.length_append,List.length_cons,List.length_nil]
  omega
theorem ET:∀{a b:List Form},jO (a++b)=jO a+jO b
 | [],b=>by simp[jO]
 | x::r,b=>by simp only[List.cons_append,jO,ET (a:=r)]; omega
theorem V7 (p:Form) (hp:zL p) (hs:List iF) (hh:rV hs) (hl:hs.length≤1000):Ex (fun n=>uh n p hs) (fun r=>zL r.1):=by
 have hlk:=hp.len;obtain⟨p1,p2,p3⟩:=zf.1 hp.1;refine .succ ?_;simp only[uh,ER,Option.bind_some];refine Ex.bind (P:=fun o=>o=-1∨0≤o∧o<(hs.length:Int)) (.ite (fun _=>.bind (Rt hs p) fun k hk=>.pure hk) (fun _=>.pure (.inl rfl))) ?_;intro o ho;refine .ite (fun h0=>?_) (fun _=>.bp _ (nZ (by omega)) ?_)
 ·obtain⟨e,he,hem⟩:=bY (l:=hs) (i:=o) h0 (by omega);have hone:=(J7.1 (qg.1 hh e hem)).1;exact .bp e he (.bv (OJ hone) (.pure hone))
 refine Ex.bH (P:=fun r=>match r with
  | .inl w=>w=(p,false)
  | .inr s=>jO s.2≤400∧Ba 26 s.2) ?_ (fun w h=>by have h:w=(p,false):=h; rw[h]; exact hp) (fun s h=>.pure ⟨zf.2 ⟨p1,p2,h.2⟩,by have:=h.1; rw[rQ]; simp only; omega⟩)
 refine Ex.bV (I:=fun i q s=>p.kids.drop i=q∧s.1=(jO s.2:Int)∧jO s.2≤400∧Ba 26 s.2) ⟨rfl,rfl,by simp[jO],trivial⟩ ?_ (fun s h=>⟨h.2.2.1,h.2.2.2⟩);rintro i x q ⟨sum,out⟩ ⟨hd,h1,h2,h3⟩;simp only at h1 h2 h3 ⊢;obtain⟨_,g2,g3,hx⟩:=jA hd;refine Ex.tail ?_;refine .ite (fun _=>.pure (.inr ⟨_,rfl,fun w e=>by(cases e),fun s' e=>by cases e; exact⟨g2,h1,h2,h3⟩⟩)) (fun _=>?_);refine Ex.bind (P:=fun _=>True) (.ite (fun hc=>?_) (fun _=>.pure trivial)) ?_
 ·obtain⟨y,hy,_⟩:=bY (l:=p.kids) (i:=((i+1:Nat):Int)) (by omega) hc;exact .bp y hy (.pure trivial)
 intro o18 _;refine Ex.bind (P:=fun c=>c≤1000∧(o18=true→0≤c→∀h∈hs,¬h.depth=0→Sj h.name x=true→c=(h.many.length:Int))) (.ite (fun _=>.bind (aat x hs hh hl) fun k hk=>.pure ⟨hk.1,fun _=>hk.2⟩) (fun hn=>.pure ⟨by omega,fun h=>absurd h hn⟩)) ?_;rintro c ⟨c1,c2⟩;refine .ite (fun _=>.pure (.inl ⟨_,rfl,fun w e=>by cases e; rfl,fun s' e=>by cases e⟩)) (fun hc0=>?_);refine Ex.iter (μ:=fun s=>(c-s.2.1).toNat) (I:=fun s=>0≤s.2.1∧s.2.1≤c∧s.1=(jO s.2.2:Int)∧jO s.2.2≤400∧Ba 26 s.2.2) _ ⟨by simp,by simp only; omega,h1,h2,h3⟩ ?_;rintro ⟨t,m,w⟩ ⟨m0,m1,t1,t2,t3⟩;simp only at m0 m1 t1 t2 t3 ⊢;refine .ite (fun hlt=>?_) (fun _=>.fo (.inr ⟨_,rfl,fun w e=>by(cases e),fun s' e=>by cases e; exact⟨g2,t1,t2,t3⟩⟩));refine Ex.bind (P:=fun r=>r.length=hs.length∧rV r) (.ite (fun h18=>?_) (fun _=>.pure ⟨rfl,hh⟩)) ?_
 ·exact .bind (ae8 x hs hh hl m m0 (fun h hm hd hu=>by have:=c2 h18 (by omega) h hm (by omega) hu; omega)) fun k hk=>.pure hk
 rintro hs' ⟨l1,l2⟩;refine .bind (V7 x (hp.kid hx) hs' l2 (by omega)) fun k25 zK=>.bv (ae2 zK) ?_;have hc25:=zK.2;have hwl:=BR w;rw[t1,kK (by omega) (by omega)];refine Ex.bind (P:=fun o=>o=false→(jO w:Int)+(cF k25.1:Int)≤400) (.ite (fun _=>.pure (by simp)) (fun _=>.pure fun e=>by have e:=of_decide_eq_false e; omega)) ?_;intro o27 aj6;refine .ite (fun _=>.fo (.inl ⟨_,rfl,fun w e=>by cases e; rfl,fun s' e=>by cases e⟩)) (fun hc27=>?_);have hle:=aj6 (by simpa using hc27);have hap:jO (w++[k25.1])=jO w+cF k25.1:=by rw[ET]; simp[jO]
 rw[lH m0 (by omega)];exact .bp _ (dJ (by simp; omega)) (.fg ⟨⟨by simp only; omega,by simp only; omega,by simp only[hap]; omega,by simp only[hap]; omega,aah t3 ⟨zK.1,trivial⟩⟩,by simp only; omega⟩)
termination_by SizeOf.sizeOf p
decreasing_by exact jG hx
theorem OU (f:Form) (hw:wF f≤1000000000):gG (fun n=>gZ n f) f:=by
 have he:=En f;refine .succ ?_;simp only[gZ];refine Ex.Ai (.bp _ (nZ (by omega)) (.bv (a:=f.kids) ?_ (.pure (by cases f; rfl))));refine .succ ?_;simp only[jh];refine Ex.Ai (.bv (Ep (m:=fun n x=>gZ n x) (be:=80) (by omega) (fun x hx=>OU x (by have:=BK hx; omega))) (.pure rfl))
termination_by SizeOf.sizeOf f
decreasing_by exact jG hx
theorem aau (rs:List Rule) (h:Ur rs):gG (fun n=>ji n rs) rs:=by
 have hl:=h.1;unfold ji;refine Ex.Ai (.bv (Ep (m:=fun n x=>nU n x) (be:=160) (by omega) (fun x hx=>?_)) (.pure rfl));obtain⟨h1,h2⟩:=h.2 x hx;unfold nU;exact Ex.Ai (.bv (OU _ (by have:=h1.w; omega)) (.bv (OU _ (by have:=h2.w; omega)) (.pure rfl)))
theorem Ry (bs:List Bind) (hb:OO bs) (rs:List Rule) (hr:Ur rs) (ls:List Form) (hl:OT ls) (f:Form) (hf:zL f):Ex (fun n=>lU n bs rs ls f) (fun r=>r.2=true→0≤r.1∧r.1<(rs.length:Int)∧(∀r∈rs,ruP r)∧∀e,gQ rs r.1=some e→∃k,gG (fun n=>iC n bs e.pattern ls f) k∧mtR ls (Ky ls e.pattern) k∧k.2=true):=by
 have hbl:=hb.1;unfold lU;refine Ex.bind (P:=fun o=>o=false→∀r∈rs,ruP r) (.bind (V4 bs hb) fun k _=>.ite (fun _=>.pure (by simp)) (fun _=>.bind (Rw rs hr ls hl) fun k hk=>.ite (fun _=>.pure (by simp)) (fun hk'=>.bv (qO hf) (.pure fun _=>hk (by simpa using hk'))))) ?_;intro o ho;refine .ite (fun _=>.pure (by simp)) (fun hc=>?_);have hp:=ho (by simpa using hc);refine Ex.bH (P:=fun o=>match o with
  | .inl w=>0≤w.1∧w.1<(rs.length:Int)∧∀e,gQ rs w.1=some e→∃k,gG (fun n=>iC n bs e.pattern ls f) k∧mtR ls (Ky ls e.pattern) k∧k.2=true
  | .inr _=>True) ?_ (fun w h _=>⟨h.1,h.2.1,hp,h.2.2⟩) (fun _ _=>.pure (by simp))
 refine Ex.bV (I:=fun i q s=>rs.drop i=q) rfl ?_ (fun _ _=>trivial);intro i x q s hd;obtain⟨g1,g2,g3,hx⟩:=jA hd;obtain⟨q1,q2,q3⟩:=hp x hx;have hv:=aak q1;unfold gW at q1;rw[Bool.and_eq_true] at q1;obtain⟨k,k1,k2⟩:=Nc bs (by omega) ls x.pattern ⟨40,q1.1⟩ q2 (by have:=hv.2; omega) f hf;refine .bv k1 (.ite (fun hk=>.fo ⟨by simp only; omega,by simp only; omega,fun e he=>?_⟩) (fun _=>.fg g2));rw[dZ ‹rs[i]? = some x›] at he;cases he;exact⟨k,k1,k2,hk⟩
theorem aav (bs:List Bind) (hb:OO bs) (rs:List Rule) (hr:Ur rs) (ls:List Form) (hl:OT ls) (f:Form) (hf:zL f):Ex (fun n=>nV n bs rs ls f) (fun r=>r.2=true→gW r.1=true):=by
 have hbl:=hb.1;unfold nV;refine .bv (aau rs hr) (.bind (Ry bs hb rs hr ls hl f hf) fun k2 hk2=>.ite (fun _=>.pure (by simp)) (fun hc=>?_));obtain⟨i0,i1,hp,hm⟩:=hk2 (by simpa using hc);obtain⟨e,he,hx⟩:=bY i0 i1;obtain⟨q1,q2,q3⟩:=hp e hx;obtain⟨k,m1,m2,m3⟩:=hm e he;obtain⟨m4,m5⟩:=m2 m3;have hv:=(aak q1).2;have hvl:=DU ls e.pattern;refine .bp e he (.bv m1 (.bind (V7 e.template (hr.2 e hx).2 k.1 m5 (by omega)) fun k6 hk6=>?_));refine Ex.bind (P:=fun o=>o=false→gW k6.1=true) (.ite (fun _=>.pure (by simp)) (fun _=>.bv (qO hk6) (Ex.pure (v:=!gW k6.1) fun h=>by simpa using h))) ?_;intro o7 ho7;exact .ite (fun _=>.pure (by simp)) (fun KZ=>.pure fun _=>ho7 (by simpa using KZ))
theorem aaw (f:Form) (hf:zL f):Ex (fun n=>nX n f) (fun r=>r.2.2=true→OT r.1∧Ur r.2.1):=by
 have hl:=hf.len;unfold nX;refine Ex.bind (P:=fun o=>o=false→2≤f.kids.length) (.bv (qO hf) (.ite (fun _=>.pure (by simp)) (fun _=>.ite (fun _=>.pure (by simp)) (fun _=>.ite (fun _=>.pure (by simp)) (fun h2=>?_))))) ?_
 ·obtain⟨e,he,_⟩:=bY (l:=f.kids) (i:=0) (by omega) (by omega);obtain⟨e',he',_⟩:=bY (l:=f.kids) (i:=1) (by omega) (by omega);exact .bp e he (.ite (fun _=>.pure (by simp)) (fun _=>.bp e' he' (.pure fun _=>by omega)))
 intro o ho;refine .ite (fun _=>.pure (by simp)) (fun hc=>?_);have h2:=ho (by simpa using hc);obtain⟨e1,he1,hm1⟩:=bY (l:=f.kids) (i:=1) (by omega) (by omega);have s1:=hf.kid hm1;have l1:=s1.len;refine Ex.iter (μ:=fun s=>((e1.kids.length:Int)-s.2).toNat) (I:=fun s=>0≤s.2∧s.2≤(e1.kids.length:Int)∧(s.1.length:Int)=s.2∧∀x∈s.1,zL x) ([],0) ⟨by simp,by simp,by simp,by simp⟩ ?_;rintro ⟨s,i⟩ ⟨i0,i1,i2,i3⟩;simp only at i0 i1 i2 i3 ⊢;refine .bp e1 he1 (.ite (fun hlt=>?_) (fun hge=>?_))
 ·obtain⟨e,he,hem⟩:=bY i0 hlt;have hse:=s1.kid hem;refine .bp e he (.bv (OJ hse) (.bp _ (dJ (by simp; omega)) (.fg ⟨⟨?_,?_,?_,fun x hx=>?_⟩,?_⟩)))
  all_goals try simp only
  all_goals try rw[lH (by omega) (by omega)]
  ·omega
  ·omega
  ·simp; omega
  ·rcases List.mem_append.1 hx with hx | hx
   ·exact i3 x hx
   ·rw[List.mem_singleton.1 hx]; exact hse
  ·omega
 ·have hli:OT s:=⟨by omega,i3⟩
  refine Ex.iter (μ:=fun s=>((f.kids.length:Int)-s.2).toNat) (I:=fun s=>0≤s.2∧s.2≤(f.kids.length:Int)∧(s.1.length:Int)≤s.2∧∀x∈s.1,ae5 x) ([],2) ⟨by simp,by simp only; omega,by simp,by simp⟩ ?_;rintro ⟨t,j⟩ ⟨j0,j1,j2,j3⟩;simp only at j0 j1 j2 j3 ⊢;refine .ite (fun hlt=>?_) (fun hge=>?_)
  ·obtain⟨e,he,hem⟩:=bY j0 hlt;have hse:=hf.kid hem;refine Ex.bind (P:=fun o=>o=false→e.kids.length=2) (.bp e he (.ite (fun _=>.pure (by simp)) (fun _=>.pure (by simp; omega)))) ?_;intro BM aj7;refine .ite (fun _=>.fo ⟨fun w e=>by cases e; simp,fun s' e=>by cases e⟩) (fun AB=>?_);have h22:=aj7 (by simpa using AB);obtain⟨a,ha,ham⟩:=bY (l:=e.kids) (i:=0) (by omega) (by omega);obtain⟨b,hb,hbm⟩:=bY (l:=e.kids) (i:=1) (by omega) (by omega);have sa:=hse.kid ham;have sb:=hse.kid hbm;refine .bp e he (.bp a ha (.bv (OJ sa) (.bp b hb (.bv (OJ sb) (.bp _ (dJ (by simp; omega)) (.fg ⟨⟨?_,?_,?_,fun x hx=>?_⟩,?_⟩))))))
   all_goals try simp only
   all_goals try rw[lH (by omega) (by omega)]
   ·omega
   ·omega
   ·simp; omega
   ·rcases List.mem_append.1 hx with hx | hx
    ·exact j3 x hx
    ·rw[List.mem_singleton.1 hx]; exact⟨sa,sb⟩
   ·omega
  ·have hrs:Ur t:=⟨by omega,j3⟩
   exact .bind (Rw t hrs s hli) fun k _=>.ite (fun _=>.fo ⟨fun w e=>by cases e; simp,fun s' e=>by cases e⟩) (fun _=>.fo ⟨fun w e=>by cases e; exact fun _=>⟨hli,hrs⟩,fun s' e=>by cases e⟩)
def FV (f:Form):Prop:=Si 24 f∧cF f≤400
theorem FV.sm {f:Form} (h:FV f):zL f:=⟨EP (by omega) f h.1,by have:=h.2; omega⟩
theorem FV.kid {f x:Form} (h:FV f) (hx:x∈f.kids):FV x:=⟨rU.1 (zf.1 h.1).2.2 x hx,by have:=qX hx; have:=rQ f; have:=h.2; omega⟩
theorem DV {f:Form} (h:gW f=true):FV f:=by
 unfold gW at h;simp only[Bool.and_eq_true,decide_eq_true_eq] at h;exact⟨aaj h.1,h.2⟩
theorem DW {f:Form} (h:FV f) (x w:Int):Ex (fun n=>fF n f x w) (fun r=>zL r∧cF r=cF f∧r.kind=f.kind):=
 (Ro f 24 (by omega) h.1 (by have:=h.2; omega) x w).mono fun r ⟨h1,h2,h3⟩=>⟨⟨EP (by omega) r h1,by have:=h.2; omega⟩,h2,h3⟩
theorem aax {α:Type} {l:List α} {x:α} (h:l[0]? = some x):gQ l 0=some x:=dZ (i:=0) h
theorem Rz {α:Type} {l:List α} {x:α} (h:l[1]? = some x):gQ l 1=some x:=dZ (i:=1) h
theorem aay {α:Type} {l:List α} {x:α} (h:l[2]? = some x):gQ l 2=some x:=dZ (i:=2) h
def aj8 (m:Macro):Prop:=OT m.literals∧Ur m.rules
def vC (e:Expansion):Prop:=OO e.binds∧e.binds.length≤60∧e.macros.length≤e.binds.length∧(∀m∈e.macros,aj8 m)∧0≤e.steps∧e.steps≤60
theorem RD (f:Form) (hw:wF f≤1000000):Ex (fun n=>gY n f) (fun r=>wF r≤wF f):=by
 have he:=En f;refine .succ ?_;simp only[gY];refine .bind (Ex.ag4 (m:=fun n y=>gY n y) (R:=fun x y=>wF y≤wF x) (by omega) (fun y hy=>RD y (by have:=BK hy; omega))) fun m hm=>.pure ?_;have:∀{l m:List Form},Rj (fun x y=>wF y≤wF x) l m→qj m≤qj l∧m.length=l.length:=by
  intro l
  induction l with
  | nil=>intro m h; cases m with
   | nil=>simp
   | cons _ _=>cases h
  | cons x l ih=>intro m h; cases m with
   | nil=>cases h
   | cons y m=>have:=ih h.2; have:=h.1; simp only[qj,List.length_cons]; omega
 have:=this hm;rw[En]; simp only[List.length_nil]; omega
termination_by SizeOf.sizeOf f
decreasing_by exact jG hy
def XM (ms:List Macro) (id:Int):Option Int:=bH (bV (fun(s2:Unit) (i1:Nat) (x4:Macro)=>((if x4.id=id then some (Sum.inl (i1:Int)) else some (Sum.inr ())):Option (Int⊕Unit))) 0 ms ()) (fun(s2:Unit)=>some (-1))
theorem aaz (n:Nat) (e:Expansion) (id:Int):uX n e id=XM e.macros id:=rfl
theorem ae9 (ms:List Macro) (id:Int):∃k,XM ms id=some k∧(k=-1∨0≤k∧k<(ms.length:Int)):=by
 have:Ex (fun _=>XM ms id) (fun k=>k=-1∨0≤k∧k<(ms.length:Int)):=by
  unfold XM;refine Ex.bH (P:=fun o=>match o with
   | .inl w=>0≤w∧w<(ms.length:Int)
   | .inr _=>True) ?_ (fun w h=>.inr h) (fun _ _=>.pure (.inl rfl))
  refine Ex.bV (I:=fun i q s=>ms.drop i=q) rfl ?_ (fun _ _=>trivial);intro i x q s hd;obtain⟨_,g2,g3,_⟩:=jA hd;exact .ite (fun _=>.fo ⟨by omega,by omega⟩) (fun _=>.fg g2)
 obtain⟨k,⟨N,h⟩,h2⟩:=this;exact⟨k,h N (Nat.le_refl N),h2⟩
theorem V8 (e:Expansion) (h:vC e) (f:Form):Ex (fun n=>lV n e f) (fun r=>r.1=2→∃k,XM e.macros r.2=some k∧0≤k∧k<(e.macros.length:Int)):=by
 have hb:=h.1.1;unfold lV;refine .bind (OQ e.binds (by omega) f) fun k1 hk1=>.ite (fun _=>.pure (by simp)) (fun h0=>.ite (fun _=>.pure (by simp)) (fun h2=>?_));have p1:0≤k1.1∧k1.1<(e.binds.length:Int):=hk1.elim (fun h=>absurd h h0) (fun h=>h.elim (fun h=>absurd h h2) id);obtain⟨b,hb,_⟩:=bY p1.1 p1.2;refine .bp b hb (.ite (fun _=>.pure (by simp)) (fun _=>?_));obtain⟨k,hk,hk2⟩:=ae9 e.macros b.id;simp only[aaz];refine .bp k hk (.ite (fun hk0=>.pure fun _=>⟨k,hk,hk0,by omega⟩) (fun _=>.pure (by simp)))
def xR (e:Expansion) (b:Nat) (r:Expansion×Core×Int):Prop:=vC r.1∧e.steps≤r.1.steps∧((wC r.2.1:Nat):Int)+1≤20500*(b:Int)+8220500*(r.1.steps-e.steps)
def aj9 (e:Expansion) (b:Nat) (r:Expansion×List Core×Int):Prop:=vC r.1∧e.steps≤r.1.steps∧((tK r.2.1+r.2.1.length:Nat):Int)≤20500*(b:Int)+8220500*(r.1.steps-e.steps)
theorem wzC:wC ⟨0,0,[],0,[],⟨0,[],0,[],[]⟩,[]⟩=0:=by simp[wC,tK,wF,qj]
theorem xR.z {e e':Expansion} {b:Nat} {k:Int} (h:vC e') (hs:e.steps≤e'.steps) (hb:1≤b):xR e b (e',(⟨0,0,[],0,[],⟨0,[],0,[],[]⟩,[]⟩:Core),k):=⟨h,hs,by simp only[wzC]; omega⟩
theorem acF (e:Expansion) (h:vC e) (f:Form) (hf:f.name.length≤12):Ex (fun n=>xO n e f) (xR e 1):=by
 unfold xO;refine .bind (V8 e h f) fun k _=>.ite (fun _=>.pure ⟨h,by simp,?_⟩) (fun _=>.ite (fun _=>.pure ⟨h,by simp,?_⟩) (fun _=>.ite (fun _=>.pure (.z h (by simp) (by omega))) (fun _=>.pure (.z h (by simp) (by omega)))))
 ·simp[wC,tK,wF,qj]; omega
 ·simp[wC,tK,wF,qj]
theorem V9 (e:Expansion) (h:vC e) (f:Form) (hf:zL f):Ex (fun n=>uj n e f) (fun r=>vC r.1∧r.1.steps=e.steps∧(r.2=0→r.1.macros.length<r.1.binds.length)):=by
 obtain⟨h1,h2,h3,h4,h5,h6⟩:=h;unfold uj;refine .ite (fun _=>.pure ⟨⟨h1,h2,h3,h4,h5,h6⟩,rfl,by simp⟩) (fun hn=>.bind (acC e.binds h1 (by omega) f hf _) fun k hk=>.ite (fun _=>.pure ⟨⟨h1,h2,h3,h4,h5,h6⟩,rfl,by simp⟩) (fun hc=>?_));obtain⟨k1,k2⟩:=hk (by simpa using hc);exact .pure ⟨⟨k1,by simp only; omega,by simp only; omega,h4,h5,h6⟩,rfl,fun _=>by simp only; omega⟩
theorem acG (e:Expansion) (h:vC e) (f:Form) (hf:FV f) (id a3:Int) (ha:a3≤60) (hm:∃k,XM e.macros id=some k∧0≤k∧k<(e.macros.length:Int)):Ex (fun n=>xM n e f id a3) (fun r=>vC r.1∧e.steps≤r.1.steps∧(r.2.2=0→r.1.steps=e.steps+1∧e.steps<a3∧FV r.2.1)):=by
 obtain⟨h1,h2,h3,h4,h5,h6⟩:=h;obtain⟨k,hk,k0,k1⟩:=hm;unfold xM lC;refine .ite (fun _=>.pure ⟨⟨h1,h2,h3,h4,h5,h6⟩,by simp,by simp⟩) (fun hs=>?_);simp only[Option.bind_some,aaz];refine .ite (fun _=>.pure ⟨⟨h1,h2,h3,h4,h5,h6⟩,by simp,by simp⟩) (fun _=>?_);obtain⟨m,hmm,hmem⟩:=bY k0 k1;obtain⟨m1,m2⟩:=h4 m hmem;have hw:aY (e.steps+1)=e.steps+1:=lH h5 (by omega);simp only[hw];have good:vC ⟨e.binds,e.macros,aY (e.scope+1),e.id,e.steps+1⟩:=⟨h1,h2,h3,h4,by simp only; omega,by simp only; omega⟩
 refine .bp k hk (.bp m hmm (.bind (DW hf _ _) fun k6 ⟨s6,_,_⟩=>.bv (qO s6) (.ite (fun _=>.pure ⟨good,by simp only; omega,by simp⟩) (fun _=>.bind (Ry e.binds h1 m.rules m2 m.literals m1 k6 s6) fun k9 _=>.ite (fun _=>.pure ⟨good,by simp only; omega,by simp⟩) (fun _=>.bind (aav e.binds h1 m.rules m2 m.literals m1 k6 s6) fun k11 Ap=>.ite (fun _=>.pure ⟨good,by simp only; omega,by simp⟩) (fun hc=>?_))))));refine .bind (DW (DV (Ap (by simpa using hc))) _ _) fun k13 ⟨s13,_,_⟩=>.bv (qO s13) (.ite (fun _=>.pure ⟨good,by simp only; omega,by simp⟩) (fun hv=>.pure ⟨good,by simp only; omega,fun _=>⟨rfl,by omega,DV (by simpa using hv)⟩⟩))
def PX (m c:Nat):Prop:=∀(e:Expansion) (a3:Int) (f:Form),vC e→a3≤60→(a3-e.steps).toNat≤m→FV f→cF f≤c→Ex (fun n=>iI n e f a3) (xR e (cF f))
theorem Wh:∀{a b:List Core},tK (a++b)=tK a+tK b
 | [],b=>by simp[tK]
 | x::r,b=>by simp only[List.cons_append,tK,Wh (a:=r)]; omega
theorem Us {m c:Nat} (hp:PX m c) (e:Expansion) (h:vC e) (fs:List Form) (hfs:∀x∈fs,FV x∧cF x≤c) (hl:fs.length≤400) (a3:Int) (ha:a3≤60) (hm:(a3-e.steps).toNat≤m):Ex (fun n=>rO n e fs a3) (aj9 e (jO fs)):=by
 refine .succ ?_;simp only[rO];refine Ex.iter (μ:=fun s=>((fs.length:Int)-s.2.1).toNat) (I:=fun s=>∃(j:Nat) (p q:List Form),s.2.1=(j:Int)∧p++q=fs∧p.length=j∧s.1.length=j∧vC ⟨s.2.2.1,s.2.2.2.1,s.2.2.2.2.1,s.2.2.2.2.2.1,s.2.2.2.2.2.2⟩∧e.steps≤s.2.2.2.2.2.2∧((tK s.1+s.1.length:Nat):Int)≤20500*(jO p:Int)+8220500*(s.2.2.2.2.2.2-e.steps)) _ ⟨0,[],fs,rfl,rfl,rfl,rfl,h,by simp,by simp[tK,jO]⟩ ?_;rintro ⟨cs,i,bs,ms,sc,id,st⟩ ⟨j,p,q,i1,i2,i3,i4,i5,i6,i7⟩;simp only at i1 i2 i3 i4 i5 i6 i7 ⊢;subst i1;have hpl:p.length+q.length=fs.length:=by rw[← i2]; simp
 have hsum:jO fs=jO p+jO q:=by rw[← i2,ET]
 refine .ite (fun hlt=>?_) (fun hge=>.fo ⟨i5,i6,by simp only; omega⟩);cases q with
 | nil=>simp only[List.length_nil] at hpl; omega
 | cons x q=>
  have hx:fs[j]? = some x:=by rw[← i2,← i3]; simp
  obtain⟨v1,v2⟩:=hfs x (List.mem_of_getElem? hx);have hle:=i5.2.2.2.2.2;have hle0:=i5.2.2.2.2.1;simp only at hle hle0;simp only[jO] at hsum;refine .bp x (dZ hx) (.bind (hp _ a3 x i5 ha (by simp only; omega) v1 v2) fun k ⟨x1,x2,x3⟩=>?_);simp only at x2 x3;refine .ite (fun _=>.fo ⟨x1,by simp only; omega,by simp only; omega⟩) (fun _=>.bp _ (dJ (by simp; omega)) (.fg ⟨⟨j+1,p++[x],q,by rw[lH (by omega) (by omega)]; rfl,by rw[← i2]; simp,by simp[i3],by simp[i4],x1,by simp only; omega,?_⟩,?_⟩))
  ·have e1:tK (cs++[k.2.1])=tK cs+wC k.2.1:=by rw[Wh]; simp[tK]
   have e2:jO (p++[x])=jO p+cF x:=by rw[ET]; simp[jO]
   simp only[e1,e2,List.length_append,List.length_cons,List.length_nil];omega
  ·simp only;rw[lH (by omega) (by omega)]; omega
theorem aaA {m c:Nat} (hp:PX m c) (e:Expansion) (h:vC e) (ps:List Form) (hps:∀x∈ps,FV x) (hl:ps.length≤400) (f:Form) (hf:FV f) (hc:cF f≤c) (a3:Int) (ha:a3≤60) (hm:(a3-e.steps).toNat≤m):Ex (fun n=>vg n e ps f a3) (xR e (1+cF f)):=by
 refine .succ ?_;simp only[vg,lC,Option.bind_some];have h0:vC ⟨e.binds,e.macros,aY (e.scope+1),e.id,e.steps⟩:=h;refine .ite (fun _=>.pure (.z h0 (by simp) (by omega))) (fun _=>?_);refine Ex.bH (P:=fun(o:(Expansion×Core×Int)⊕((List Bind)×(List Macro)×Int×Int×Int×(List Int)))=>match o with
  | .inl w=>xR e (1+cF f) w
  | .inr s=>vC ⟨s.1,s.2.1,s.2.2.1,s.2.2.2.1,s.2.2.2.2.1⟩∧s.2.2.2.2.1=e.steps∧s.2.2.2.2.2.length≤400) ?_ (fun w h=>h) ?_
 ·refine Ex.bV (I:=fun i q s=>ps.drop i=q∧vC ⟨s.1,s.2.1,s.2.2.1,s.2.2.2.1,s.2.2.2.2.1⟩∧s.2.2.2.2.1=e.steps∧s.2.2.2.2.2.length=i) ⟨rfl,h0,rfl,rfl⟩ ?_ (fun s h=>⟨h.2.1,h.2.2.1,by rw[h.2.2.2]; exact hl⟩);rintro i x q ⟨bs,ms,sc,id,st,ids⟩ ⟨hd,s1,s2,s3⟩;simp only at s1 s2 s3 ⊢;obtain⟨_,g2,g3,hx⟩:=jA hd;refine .ite (fun _=>.fo (.z s1 (by simp only; omega) (by omega))) (fun _=>.bind (DW (hps x hx) _ _) fun k13 ⟨q1,_,_⟩=>.bv (qO q1) (.ite (fun _=>.fo (.z s1 (by simp only; omega) (by omega))) (fun _=>.bind (V9 _ s1 k13 q1) fun k16 ⟨b1,b2,_⟩=>?_)));simp only at b2;exact .ite (fun _=>.fo (.z b1 (by omega) (by omega))) (fun _=>.bp _ (dJ (by simp; omega)) (.fg ⟨g2,b1,by simp only; omega,by simp; omega⟩))
 ·rintro ⟨bs,ms,sc,id,st,ids⟩ ⟨s1,s2,s3⟩;simp only at s1 s2 s3 ⊢;refine .bind (DW hf _ _) fun k19 ⟨q1,q2,_⟩=>.bv (qO q1) (.ite (fun _=>.pure (.z s1 (by simp only; omega) (by omega))) (fun hv=>?_));refine .bind (hp _ a3 k19 s1 ha (by simp only; omega) (DV (by simpa using hv)) (by omega)) fun k22 ⟨x1,x2,x3⟩=>.pure ⟨x1,by simp only at x2 ⊢; omega,?_⟩;simp only at x2 x3;simp only[wC,tK,wF,qj,List.length_nil,List.length_cons];omega
theorem XO {m c:Nat} (hp:PX m c) (e:Expansion) (h:vC e) (ps vs:List Form) (hps:∀x∈ps,FV x) (hvs:∀x∈vs,FV x) (hl:ps.length≤400) (hlv:vs.length=ps.length) (f:Form) (hf:FV f) (hc:cF f≤c) (a3:Int) (ha:a3≤60) (hm:(a3-e.steps).toNat≤m):Ex (fun n=>pG n e ps vs f a3) (xR e (1+cF f)):=by
 refine .succ ?_;simp only[pG,lC,Option.bind_some];have h0:vC ⟨e.binds,e.macros,aY (e.scope+1),e.id,e.steps⟩:=h;refine .ite (fun _=>.pure (.z h0 (by simp) (by omega))) (fun _=>?_);refine Ex.bH (P:=fun(o:(Expansion×Core×Int)⊕((List Bind)×(List Macro)×Int×Int×Int))=>match o with
  | .inl w=>xR e (1+cF f) w
  | .inr s=>vC ⟨s.1,s.2.1,s.2.2.1,s.2.2.2.1,s.2.2.2.2⟩∧s.2.2.2.2=e.steps) ?_ (fun w h=>h) ?_
 ·refine Ex.bV (I:=fun i q s=>ps.drop i=q∧vC ⟨s.1,s.2.1,s.2.2.1,s.2.2.2.1,s.2.2.2.2⟩∧s.2.2.2.2=e.steps) ⟨rfl,h0,rfl⟩ ?_ (fun s h=>⟨h.2.1,h.2.2⟩);rintro i x q ⟨bs,ms,sc,id,st⟩ ⟨hd,s1,s2⟩;simp only at s1 s2 ⊢;obtain⟨_,g2,g3,hx⟩:=jA hd;obtain⟨y,hy,hym⟩:=bY (l:=vs) (i:=(i:Int)) (by omega) (by omega);refine .bind (DW (hps x hx) _ _) fun k12 ⟨q1,_,_⟩=>.bp y hy (.bind (DW (hvs y hym) _ _) fun k14 ⟨r1,_,_⟩=>.ite (fun _=>.fo (.z s1 (by simp only; omega) (by omega))) (fun _=>?_));refine Ex.bind (P:=fun _=>True) (.bv (qO q1) (.ite (fun _=>.pure trivial) (fun _=>.bv (qO r1) (.pure trivial)))) ?_;intro o _;refine .ite (fun _=>.fo (.z s1 (by simp only; omega) (by omega))) (fun _=>.bind (aaw k14 r1) fun k18 ql=>.ite (fun _=>.fo (.z s1 (by simp only; omega) (by omega))) (fun hc18=>.bind (V9 _ s1 k12 q1) fun k20 ⟨b1,b2,b3⟩=>?_));simp only at b2;refine .ite (fun _=>.fo (.z b1 (by omega) (by omega))) (fun Uh=>?_);have b3:=b3 (by simpa using Uh);obtain⟨c1,c2,c3,c4,c5,c6⟩:=b1;have hm18:=ql (by simpa using hc18);refine .bp _ (nZ (by omega)) (.bp _ (dJ (by simp; omega)) (.fg ⟨g2,⟨c1,c2,by simp; omega,fun m hm=>?_,c5,c6⟩,by simp only; omega⟩));rcases List.mem_append.1 hm with hm | hm
  ·exact c4 m hm
  ·rw[List.mem_singleton.1 hm]; exact hm18
 ·rintro ⟨bs,ms,sc,id,st⟩ ⟨s1,s2⟩;simp only at s1 s2 ⊢;refine .bind (DW hf _ _) fun k19 ⟨q1,q2,_⟩=>.bv (qO q1) (.ite (fun _=>.pure (.z s1 (by simp only; omega) (by omega))) (fun hv=>?_));refine .bind (hp _ a3 k19 s1 ha (by simp only; omega) (DV (by simpa using hv)) (by omega)) fun k22 ⟨x1,x2,x3⟩=>.pure ⟨x1,by simp only at x2 ⊢; omega,?_⟩;simp only at x2 x3 ⊢;omega
theorem aaB (f:Form) (hf:FV f):Ex (fun n=>uY n f) (fun r=>(∀x∈r.1,FV x)∧(∀x∈r.2.1,FV x)∧r.1.length≤400∧r.2.1.length=r.1.length∧jO r.2.1+1≤cF f):=by
 have hl:=hf.sm.len;have hc:=rQ f;unfold uY;have main:Ex (fun n=>Mx.bV (fun(s2:(List Form)×(List Form)) (i1:Nat) (x4:Form)=>(Option.bind ((if ¬x4.kind=3 then some true else some (decide (¬(x4.kids.length:Int)=2))):Option (Bool)) (fun(kM:Bool)=>(if kM=true then some (Sum.inl (s2.1,s2.2,false)) else(gQ x4.kids 0).bind fun e12=>(jH 80 s2.1 [e12]).bind fun z13=>(gQ x4.kids 1).bind fun e14=>(jH 80 s2.2 [e14]).bind fun GU=>some (Sum.inr (z13,GU)))):Option (((List Form)×(List Form)×Bool)⊕((List Form)×(List Form))))) 0 f.kids ([],[])) (fun o=>match o with
   | .inl r=>(∀x∈r.1,FV x)∧(∀x∈r.2.1,FV x)∧r.1.length≤400∧r.2.1.length=r.1.length∧jO r.2.1+1≤cF f
   | .inr r=>(∀x∈r.1,FV x)∧(∀x∈r.2,FV x)∧r.1.length≤400∧r.2.length=r.1.length∧jO r.2+1≤cF f):=by
  refine Ex.bV (I:=fun i q r=>f.kids.drop i=q∧(∀x∈r.1,FV x)∧(∀x∈r.2,FV x)∧r.1.length=i∧r.2.length=i∧jO r.2+jO q+1≤cF f) ⟨rfl,by simp,by simp,rfl,rfl,by simp[jO]; omega⟩ ?_ (fun r h=>⟨h.2.1,h.2.2.1,by rw[h.2.2.2.1]; exact hl,by rw[h.2.2.2.1,h.2.2.2.2.1],by have:=h.2.2.2.2.2; simp only[jO] at this; omega⟩);rintro i x q ⟨a,b⟩ ⟨hd,a1,b1,a2,b2,b3⟩;simp only[jO] at a1 b1 a2 b2 b3 ⊢;obtain⟨_,g2,g3,hx⟩:=jA hd;have hxv:=hf.kid hx;refine Ex.bind (P:=fun o=>o=false→x.kids.length=2) (.ite (fun _=>.pure (by simp)) (fun _=>.pure (by simp; omega))) ?_;intro o ho;refine .ite (fun _=>.fo ⟨a1,b1,by simp only; omega,by simp only; omega,by simp only; omega⟩) (fun hc'=>?_);have h2:=ho (by simpa using hc');obtain⟨y,z,hyz⟩:∃y z,x.kids=[y,z]:=by
   match hk:x.kids,h2 with
   | [y,z],_=>exact⟨y,z,rfl⟩
  have hy:=hxv.kid (x:=y) (by simp[hyz]);have hz:=hxv.kid (x:=z) (by simp[hyz]);have hcx:cF x=1+(cF y+cF z):=by rw[rQ,hyz]; simp[jO]
  refine .bp y (aax (by simp[hyz])) (.bp _ (dJ (by simp; omega)) (.bp z (Rz (by simp[hyz])) (.bp _ (dJ (by simp; omega)) (.fg ⟨g2,fun w hw=>?_,fun w hw=>?_,by simp; omega,by simp; omega,?_⟩))))
  ·rcases List.mem_append.1 hw with hw | hw
   ·exact a1 w hw
   ·rw[List.mem_singleton.1 hw]; exact hy
  ·rcases List.mem_append.1 hw with hw | hw
   ·exact b1 w hw
   ·rw[List.mem_singleton.1 hw]; exact hz
  ·simp only[ET,jO]; omega
 exact Ex.bH main (fun w h=>h) (fun t h=>.pure h)
theorem ag8 {α:Type} {l:List α} (h:1≤l.length):KL l 1 (l.length:Int)=some (l.drop 1):=by
 unfold KL;rw[if_pos (by omega)];congr 1;rw[List.take_of_length_le]
 ·rfl
 ·rw[Int.toNat_natCast,List.length_drop]; exact Nat.le_refl _
theorem aaC (l:List Form):jO (l.drop 1)≤jO l:=by
 cases l with
 | nil=>simp
 | cons x r=>simp only[List.drop_succ_cons,List.drop_zero,jO]; omega
theorem ln2 {l:List Form} (h:(l.length:Int)=2):∃a b,l=[a,b]:=by
 match l,h with
 | [a,b],_=>exact⟨a,b,rfl⟩
theorem ln3 {l:List Form} (h:(l.length:Int)=3):∃a b c,l=[a,b,c]:=by
 match l,h with
 | [a,b,c],_=>exact⟨a,b,c,rfl⟩
theorem ar1 {a s:Int} {m:Nat} (h:(a-s).toNat≤m) (h2:s<a):m-1<m:=by omega
theorem ar2 {a s t:Int} {m:Nat} (h:(a-s).toNat≤m) (h2:t=s+1):(a-t).toNat≤m-1:=by omega
theorem acH {m c:Nat} (hp:PX m c) (e:Expansion) (h:vC e) (f:Form) (hf:FV f) (hc:cF f≤c+1) (k a3:Int) (ha:a3≤60) (hm:(a3-e.steps).toNat≤m):Ex (fun n=>um n e f k a3) (xR e (cF f)):=by
 have he:=rQ f;have hl:=hf.sm.len;have hkc:∀x∈f.kids,FV x∧cF x≤c:=fun x hx=>⟨hf.kid hx,by have:=qX hx; omega⟩
 refine .succ ?_;simp only[um];refine Ex.bind (P:=fun o=>o=true→(f.kids.length:Int)=2) (.ite (fun _=>.pure (by simp)) (fun _=>.pure (by simp))) ?_;intro o1 ho1;refine .ite (fun hc1=>?_) (fun _=>?_)
 ·obtain⟨a,b,hab⟩:=ln2 (ho1 hc1);have hb:=hf.kid (x:=b) (by simp[hab]);have hw:=hb.sm.w;refine .bp b (Rz (by simp[hab])) (.bind (RD b (by omega)) fun k4 hk4=>.pure ⟨h,by simp,?_⟩);simp only[wC,tK,List.length_nil]; omega
 refine Ex.bind (P:=fun o=>o=true→(f.kids.length:Int)=4) (.ite (fun _=>.pure (by simp)) (fun _=>.pure (by simp))) ?_;intro o5 ho5;refine .ite (fun hc5=>?_) (fun _=>?_)
 ·have h4:=ho5 hc5;refine .bp _ (ag8 (by omega)) (.bind (Us hp e h _ (fun x hx=>hkc x (List.mem_of_mem_drop hx)) (by simp; omega) a3 ha hm) fun k8 ⟨x1,x2,x3⟩=>.pure ⟨x1,x2,?_⟩);have:=aaC f.kids;simp only[wC,wF,qj,List.length_nil]; omega
 refine Ex.bind (P:=fun o=>o=true→(f.kids.length:Int)=3) ?_ ?_
 ·refine .ite (fun _=>.ite (fun h3=>?_) (fun _=>.pure (by simp))) (fun _=>.pure (by simp));obtain⟨a,b,d,hab⟩:=ln3 h3;exact .bp b (Rz (by simp[hab])) (.pure fun _=>h3)
 intro o9 ho9;refine .ite (fun gJ=>?_) (fun _=>?_)
 ·obtain⟨a,b,d,hab⟩:=ln3 (ho9 gJ);have hb:=hkc b (by simp[hab]);have hd:=hkc d (by simp[hab]);have hs:jO f.kids=cF a+(cF b+cF d):=by rw[hab]; simp[jO]
  refine .bp b (Rz (by simp[hab])) (.bp d (aay (by simp[hab])) (.bind (aaA hp e h b.kids (fun x hx=>hb.1.kid hx) hb.1.sm.len d hd.1 hd.2 a3 ha hm) fun k13 ⟨x1,x2,x3⟩=>.pure ⟨x1,x2,?_⟩));simp only; omega
 refine Ex.bind (P:=fun o=>o=false→(f.kids.length:Int)=3) ?_ ?_
 ·have:∀{c:Prop} [Decidable c],Ex (fun _=>some (decide (¬(f.kids.length:Int)=3))) (fun o=>o=false→(f.kids.length:Int)=3):=.pure fun e=>by simpa using e
  exact .ite (fun _=>.ite (fun _=>.pure (by simp)) (fun _=>this (c:=True))) (fun _=>this (c:=True))
 intro BP akc;refine .ite (fun _=>.pure (.z h (by simp) (by omega))) (fun pW=>?_);obtain⟨a,b,d,hab⟩:=ln3 (akc (by simpa using pW));have hb:=hkc b (by simp[hab]);have hd:=hkc d (by simp[hab]);have hs:jO f.kids=cF a+(cF b+cF d):=by rw[hab]; simp[jO]
 refine .bp b (Rz (by simp[hab])) (.bind (aaB b hb.1) fun k17 ⟨p1,p2,p3,p4,p5⟩=>.ite (fun _=>.pure (.z h (by simp) (by omega))) (fun _=>.ite (fun _=>?_) (fun _=>?_)))
 ·refine .bp d (aay (by simp[hab])) (.bind (XO hp e h k17.1 k17.2.1 p1 p2 p3 p4 d hd.1 hd.2 a3 ha hm) fun k21 ⟨x1,x2,x3⟩=>.pure ⟨x1,x2,?_⟩);simp only; omega
 ·refine .bind (Us hp e h k17.2.1 (fun x hx=>⟨p2 x hx,by have:=qX hx; omega⟩) (by omega) a3 ha hm) fun k22 ⟨x1,x2,x3⟩=>?_;have hst:=x1.2.2.2.2.2;refine .ite (fun _=>.pure (.z x1 x2 (by omega))) (fun _=>.bp d (aay (by simp[hab])) (.bind (aaA hp k22.1 x1 k17.1 p1 p3 d hd.1 hd.2 a3 ha (by omega)) fun k25 ⟨y1,y2,y3⟩=>?_));have hst2:=y1.2.2.2.2.2;have hst3:=h.2.2.2.2.1;have hf4:=hf.2;refine .bp _ (dJ ?_) (.pure ⟨y1,by simp only; omega,?_⟩)
  ·simp only[List.length_cons,List.length_nil]; omega
  ·simp only[wC,tK,wF,qj,List.length_nil,List.length_append,List.length_cons,List.cons_append,List.nil_append]; omega
theorem aaD (m c:Nat) (ihm:∀m',m'<m→PX m' 400) (ihc:∀c',c'<c→PX m c'):PX m c:=by
 intro e a3 f h ha hm hf hc;have he:=rQ f;have hl:=hf.sm.len;obtain⟨t1,t2,t3⟩:=zf.1 hf.1;have hp:PX m (cF f-1):=ihc _ (by omega);refine .succ ?_;simp only[iI];refine .ite (fun _=>.pure ⟨h,by simp,?_⟩) (fun _=>.ite (fun _=>.bind (acF e h f t1) fun k ⟨x1,x2,x3⟩=>.pure ⟨x1,x2,?_⟩) (fun _=>.ite (fun _=>.pure (.z h (by simp) (by omega))) (fun hk=>?_)))
 ·simp only[wC,tK,wF,qj,List.length_nil]; omega
 ·simp only; omega
 obtain⟨e6,VE,hm6⟩:=bY (l:=f.kids) (i:=0) (by omega) (by omega);refine .bp e6 VE ?_;refine Ex.bH (P:=fun(o:(Expansion×Core×Int)⊕Unit)=>match o with
  | .inl w=>xR e (cF f) w
  | .inr _=>True) ?_ (fun w h=>h) (fun _ _=>?_)
 ·refine .ite (fun _=>.bind (V8 e h e6) fun k10 hk10=>.ite (fun _=>.pure (.z h (by simp) (by omega))) (fun _=>.ite (fun _=>?_) (fun _=>.ite (fun h2=>?_) (fun _=>.pure trivial)))) (fun _=>.pure trivial)
  ·exact .bind (acH hp e h f hf (by omega) k10.2 a3 ha hm) fun k13 hk=>.pure hk
  ·refine .bind (f:=fun n=>qJ n e f k10.2 a3) (P:=xR e (cF f)) ?_ (fun k15 hk=>.pure hk);refine .succ ?_;simp only[qJ];refine .bind (acG e h f hf k10.2 a3 ha (hk10 h2)) fun k1 ⟨s1,s2,s3⟩=>.ite (fun _=>.pure (.z s1 s2 (by omega))) (fun hc1=>?_);obtain⟨q1,q2,q3⟩:=s3 (by simpa using hc1);refine .bind (ihm (m-1) (ar1 hm q2) k1.1 a3 k1.2.1 s1 ha (ar2 hm q1) q3 q3.2) fun k3 ⟨x1,x2,x3⟩=>.pure ⟨x1,by simp only; omega,?_⟩;have:=q3.2;simp only; omega
 ·refine .bind (Us hp e h f.kids (fun x hx=>⟨hf.kid hx,by have:=qX hx; omega⟩) hl a3 ha hm) fun k8 ⟨x1,x2,x3⟩=>.pure ⟨x1,x2,?_⟩;simp only[wC,wF,qj,List.length_nil]; omega
theorem afa:∀m c,PX m c:=by
 intro m
 induction m using Nat.strongRecOn with
 | ind m ihm=>
  intro c
  induction c using Nat.strongRecOn with
  | ind c ihc=>exact aaD m c (fun m' h=>ihm m' h 400) (fun c' h=>ihc c' h)
theorem aaE:Ex (fun n=>jg n) (fun r=>vC r∧r.steps=0):=by
 unfold jg yO;refine .bp _ rfl ?_;refine Ex.iter (μ:=fun s=>(6-s.1).toNat) (I:=fun s=>1≤s.1∧s.1≤6∧(s.2.length:Int)=s.1-1∧∀b∈s.2,ag5 b) (1,[]) ⟨by simp,by simp,by simp,by simp⟩ ?_;rintro ⟨i,s⟩ ⟨i0,i1,i2,i3⟩;simp only at i0 i1 i2 i3 ⊢;refine .ite (fun hlt=>?_) (fun hge=>?_)
 ·obtain⟨x,hx,hm⟩:=bY (l:=[[],[108,97,109,98,100,97],[105,102],[113,117,111,116,101],[108,101,116],iG]) (by omega) hlt;have hxl:x.length≤12:=(by decide:∀x∈([[],[108,97,109,98,100,97],[105,102],[113,117,111,116,101],[108,101,116],iG]:List (List UInt8)),x.length≤12) x hm;simp only[List.length_cons,List.length_nil] at hlt;refine .bp x hx (.bp _ (dJ (by simp; omega)) (.fg ⟨⟨?_,?_,?_,fun b hb=>?_⟩,?_⟩))
  all_goals try simp only
  all_goals try rw[lH (by omega) (by omega)]
  ·omega
  ·omega
  ·simp; omega
  ·rcases List.mem_append.1 hb with hb | hb
   ·exact i3 b hb
   ·rw[List.mem_singleton.1 hb]; exact⟨hxl,by simp⟩
  ·omega
 ·exact .fo ⟨⟨⟨by simp only; omega,i3⟩,by simp only; omega,by simp,by simp,by simp,by simp⟩,rfl⟩
def aaF:Core:=⟨0,0,[],0,[],⟨0,[],0,[],[]⟩,[]⟩
def afb (r:Core×Int):Prop:=wC r.1≤600000000∧(r.2=0→jr r.1=true)∧(¬r.2=0→r.1=aaF)
theorem afc (f:Form) (hw:wF f≤1000000000) (b:Int):Ex (fun n=>AY n f b) (fun r=>afb r.2):=by
 have hcl:=VG f;have hz:∀k:Int,¬k=0→afb (aaF,k):=fun k hk=>⟨by rw[show wC aaF=0 from wzC]; omega,fun h=>absurd h hk,fun _=>rfl⟩
 unfold AY;refine Ex.bind (P:=fun o=>o=false→gW f=true∧0≤b∧b≤60) (.bv (HY f (JU f (by omega)) (by omega)) (.ite (fun _=>.pure (by simp)) (fun hv=>.ite (fun _=>.pure (by simp)) (fun hb=>Ex.pure (v:=decide (b>60)) fun h=>⟨by simpa using hv,by omega,by have h:=of_decide_eq_false h; omega⟩)))) ?_;intro o ho;refine .ite (fun _=>.pure (hz 6 (by omega))) (fun hc=>?_);obtain⟨hv,hb0,hb1⟩:=ho (by simpa using hc);refine .bind aaE fun k3 ⟨h3,hs⟩=>.bind (afa 100 400 k3 b f h3 hb1 (by omega) (DV hv) (DV hv).2) fun k4 ⟨x1,x2,x3⟩=>?_;have hst:=x1.2.2.2.2.2;have hcf:=(DV hv).2;refine .ite (fun hk=>.pure (hz _ hk)) (fun _=>.bv (VR k4.2.1 (by omega)) (.ite (fun _=>.pure (hz 4 (by omega))) (fun hv4=>.pure ⟨by simp only; omega,fun _=>by simpa using hv4,fun h=>absurd rfl h⟩)))
theorem XP (f:Form) (hw:wF f≤1000000000) (b:Int):Ex (fun n=>nY n f b) afb:=by
 unfold nY;exact .bind (afc f hw b) fun k1 hk1=>.bv (OH k1.2.1 (Nat.le_trans hk1.1 (by omega))) (.pure hk1)
theorem Wi:∀(l:List Core) (i:Nat) (x y:Core),l[i]? = some x→tK (l.set i y)+wC x=tK l+wC y
 | [],i,x,y,h=>by simp at h
 | a::l,0,x,y,h=>by simp at h; subst h; simp only[List.set_cons_zero,tK]; omega
 | a::l,i+1,x,y,h=>by
  have:=Wi l i x y (by simpa using h);simp only[List.set_cons_succ,tK]; omega
theorem Ut (c:Core) (hw:wC c≤10000000) (r:aZ) (h:Gd r (4*((wC c:Int)+1))):Ex (fun n=>lF n c r) (fun k=>Sp r k.2 (4*((wC c:Int)+1))∧wC k.1≤wC c+2):=by
 have he:=Eo c;refine .succ ?_;simp only[lF];refine .bv (OH c (by omega)) ?_;refine Ex.bind (P:=fun o=>Sp r o.2 1∧(o.1=true→1≤c.kids.length)) ?_ ?_
 ·refine .ite (fun hl=>.bind (iR h (by omega)) fun k15 ⟨s1,_⟩=>.pure ⟨s1,fun _=>by omega⟩) (fun hl=>.pure ⟨.refl (by omega),fun h=>by cases h⟩)
 rintro ⟨b0,r1⟩ ⟨s1,hb⟩;simp only at s1 hb ⊢;have g1:Gd r1 (4*((wC c:Int)+1)-1):=h.to s1 (by omega);refine .ite (fun hb0=>?_) (fun _=>?_)
 ·have hl:=hb hb0;refine .bind (iR g1 (by omega)) fun k4 ⟨s2,hv⟩=>?_;obtain⟨v0,v1⟩:=hv (by omega);have hv:k4.1.toNat<c.kids.length:=by omega
  have hx:=List.getElem?_eq_getElem hv;have hxm:c.kids[k4.1.toNat]∈c.kids:=List.getElem_mem hv;have hxw:=BL hxm;refine .bp () (Fq v0 hv) (.bp _ hx (.bind (Ut _ (by omega) k4.2 (g1.to s2 (by omega))) fun k8 ⟨s3,w3⟩=>.bp () (Fq v0 hv) (.pure ⟨?_,?_⟩)))
  ·exact s1.trans (s2.trans s3 (D:=1+4*((wC (c.kids[k4.1.toNat]):Int)+1)) (by omega)) (by omega)
  ·have:=Wi c.kids k4.1.toNat _ k8.1 hx;simp only[wC,List.length_set]; omega
 ·refine .bind (iR g1 (by omega)) fun k11 ⟨s2,_⟩=>?_;have g2:Gd k11.2 1:=g1.to s2 (by omega);refine Ex.bind (P:=fun o=>Sp k11.2 o.2.2.2.2 1∧o.2.2.2.1.length+o.2.2.1.length≤c.ids.length+c.name.length+2) ?_ ?_
  ·refine .ite (fun _=>?_) (fun _=>.ite (fun _=>?_) (fun _=>.ite (fun _=>?_) (fun _=>.ite (fun _=>?_) (fun _=>?_))))
   ·refine .bind (yc (by simp) g2 (by omega)) fun k ⟨s3,_⟩=>.pure ⟨s3,by simp only; omega⟩
   ·refine .bind (yc (by simp) g2 (by omega)) fun k ⟨s3,_⟩=>.pure ⟨s3,by simp only; omega⟩
   ·refine .bind (yc (by simp) g2 (by omega)) fun k ⟨s3,_⟩=>.bp _ (dJ (by simp; omega)) (.pure ⟨s3,by simp; omega⟩)
   ·refine .bind (acv (by simp) g2 (by omega)) fun k ⟨s3,hm⟩=>?_;have:k.1.length≤1:=by
     simp only[List.mem_cons,List.not_mem_nil,or_false] at hm;rcases hm with h | h | h <;> rw[h] <;> decide
    exact .pure ⟨s3,by simp only; omega⟩
   ·exact .pure ⟨.refl (by omega),by simp only; omega⟩
  ·rintro o ⟨s3,w3⟩;exact .pure ⟨s1.trans (s2.trans s3 (D:=2) (by omega)) (by omega),by simp only[wC]; omega⟩
termination_by SizeOf.sizeOf c
decreasing_by exact uK hxm
theorem OV (b:List UInt8):Ex (fun n=>qM n b) (fun c=>wC c≤3000):=by
 unfold qM;refine .bind (Un b) fun k1 g=>.bind (yc (by simp) g (by omega)) fun k2 ⟨s2,hm⟩=>?_;have g2:Gd k2.2 900000000:=g.to s2 (by omega);obtain⟨d,hd,hk⟩:∃d:Nat,d≤4∧k2.1=(d:Int):=by
  simp only[List.mem_cons,List.not_mem_nil,or_false] at hm;rcases hm with h | h | h
  ·exact⟨3,by omega,h⟩
  ·exact⟨4,by omega,h⟩
  ·exact⟨2,by omega,h⟩
 rw[hk];have hB:bC d≤10000∧XZ d≤2500:=by
  have:d=0∨d=1∨d=2∨d=3∨d=4:=by omega
  rcases this with rfl | rfl | rfl | rfl | rfl <;> simp[bC,XZ]
 refine .bind (acy d (by omega) [] 0 k2.2 (by simp) (g2.to (.refl (Int.le_refl 0)) (by omega))) fun k3 ⟨s3,w3,_⟩=>?_;have g3:Gd k3.2.2 800000000:=g2.to s3 (by omega);refine .bind (iR g3 (by omega)) fun k4 ⟨s4,_⟩=>.ite (fun _=>?_) (fun _=>.pure (by omega));have g4:Gd k4.2 700000000:=g3.to s4 (by omega);refine .bind (Ut k3.1 (by omega) k4.2 (g4.to (.refl (Int.le_refl 0)) (by omega))) fun k6 ⟨s6,w6⟩=>?_;have g6:Gd k6.2 600000000:=g4.to s6 (by omega);exact .bind (Ut k6.1 (by omega) k6.2 (g6.to (.refl (Int.le_refl 0)) (by omega))) fun k7 ⟨_,w7⟩=>.pure (by omega)
def t8:List (List UInt8):=[mV,mW,mM,mJ,nG,mO,[40,49,32,50,41],mQ,uN,mX,pV,nR]
theorem afd:∀x∈t8,x.length≤500:=by decide
theorem acI (r:aZ) (g:Gd r 200000):Ex (fun n=>xY n r) (fun k=>Sp r k.2 200000∧wF k.1≤100000):=by
 unfold xY yV;refine .bp t8 rfl (.bind (iR g (by omega)) fun k2 ⟨s1,_⟩=>?_);have g1:Gd k2.2 150000:=g.to s1 (by omega);refine .ite (fun _=>?_) (fun _=>?_)
 ·refine .bind (iR g1 (by omega)) fun k4 ⟨s2,hv⟩=>?_;obtain⟨v0,v1⟩:=hv (by decide);obtain⟨x,hx,hm⟩:=bY v0 v1;have hl:=afd x hm;refine .bp x hx (.bind (OI x (by omega)) fun k6 hk=>.pure ⟨s1.trans s2 (by omega),by simp only; omega⟩)
 ·exact .bind (acA k2.2 (g1.to (.refl (Int.le_refl 0)) (by omega))) fun k8 ⟨s8,w8⟩=>.pure ⟨s1.trans s8 (by omega),w8⟩
theorem Uu (b:List UInt8):Ex (fun n=>ku n b) (fun k=>wC k.1≤600000000∧(wC k.1≤3000∨jr k.1=true)∧0≤k.2∧k.2≤3001):=by
 unfold ku;refine .bind (Un b) fun k1 g=>.bind (iR g (by omega)) fun k2 ⟨s2,_⟩=>?_;have g2:Gd k2.2 900000000:=g.to s2 (by omega);refine .ite (fun _=>.bind (OV b) fun k4 h4=>.pure ⟨by simp only; omega,.inl h4,by simp only; omega,by simp only; omega⟩) (fun _=>?_);refine .bind (acI k2.2 (g2.to (.refl (Int.le_refl 0)) (by omega))) fun k5 ⟨s5,w5⟩=>.bind (XP k5.1 (by omega) 20) fun k6 ⟨e1,e2,_⟩=>?_;have g5:Gd k5.2 800000000:=g2.to s5 (by omega);refine Ex.bind (P:=fun c=>wC c≤600000000∧(wC c≤3000∨jr c=true)) (.ite (fun _=>.bind (OV b) fun k10 h10=>.pure ⟨by omega,.inl h10⟩) (fun h0=>.pure ⟨e1,.inr (e2 (by simpa using h0))⟩)) ?_;rintro c ⟨c1,c2⟩;refine .bind (yc (by simp) g5 (by omega)) fun k8 ⟨_,hm⟩=>.pure ⟨c1,c2,?_,?_⟩
 all_goals
  simp only[List.mem_cons,List.not_mem_nil,or_false] at hm;simp only;omega
theorem aaG (b:List UInt8):Ex (fun n=>vk n b) (fun c=>wC c≤600000000∧(wC c≤3000∨jr c=true)):=by
 unfold vk;exact .bind (Uu b) fun k h=>.pure ⟨h.1,h.2.1⟩
mutual
def Lh (id:Int):Core→Nat
 | ⟨k,i,_,_,_,_,kids⟩=>(if k=1∧i=id then 1 else 0)+yg id kids
def yg (id:Int):List Core→Nat
 | []=>0
 | x::r=>Lh id x+yg id r
end
theorem FW (id:Int) (c:Core):Lh id c=(if c.kind=1∧c.id=id then 1 else 0)+yg id c.kids:=by cases c; simp only[Lh]
mutual
theorem Uw (id:Int):∀c:Core,Lh id c≤cC c
 | ⟨k,i,nm,n,ids,dt,kids⟩=>by have:=OW id kids; simp only[Lh,cC]; split <;> omega
theorem OW (id:Int):∀l:List Core,yg id l≤EM l
 | []=>by simp[yg]
 | x::r=>by have:=Uw id x; have:=OW id r; simp only[yg,EM]; omega
end
theorem RF (id:Int) (c:Core) (w:Nat) (hw:w+cC c≤1000000000):gG (fun n=>dU n c id (w:Int)) ((w+Lh id c:Nat):Int):=by
 have hc:=MS c;have hu:=Uw id c;refine .succ ?_;simp only[dU,sZ];refine Ex.Ai ?_;refine Ex.bind (P:=fun s=>s=((w+(if c.kind=1∧c.id=id then 1 else 0):Nat):Int)) ?_ ?_
 ·refine Ex.bind (P:=fun o=>o=decide (c.kind=1∧c.id=id)) ?_ ?_
  ·by_cases h:c.kind=1
   ·exact .pos h (.pure (by simp[h]))
   ·exact .neg h (.pure (by simp[h]))
  rintro o rfl;by_cases h:c.kind=1∧c.id=id
  ·refine .pos (by simpa using h) (.pure ?_);rw[if_pos h,kK (by omega) (by omega)]; omega
  ·refine .neg (by simpa using h) (.pure ?_);rw[if_neg h]; rfl
 rintro s rfl;refine Ex.bind (P:=fun s=>s=((w+Lh id c:Nat):Int)) ?_ (fun s hs=>.pure hs);refine Ex.dY (I:=fun i q s=>∃v:Nat,s=(v:Int)∧v+yg id q=w+Lh id c∧v+EM q≤1000000000∧∀x∈q,x∈c.kids) ⟨_,rfl,by rw[FW]; omega,by split <;> omega,fun _ h=>h⟩ ?_ ?_
 ·rintro i x q s ⟨v,rfl,h1,h2,h3⟩;have g4:=h3 x (List.mem_cons_self);have hx:=Uw id x;simp only[yg,EM] at h1 h2;exact .bv (RF id x v (by omega)) (.pure ⟨_,rfl,by omega,by omega,fun y hy=>h3 y (List.mem_cons_of_mem _ hy)⟩)
 ·rintro s ⟨v,rfl,h1,_,_⟩;simp only[yg] at h1;rw[← h1]; rfl
termination_by SizeOf.sizeOf c
decreasing_by exact uK g4
theorem Wj (id:Int) (c:Core) (hw:cC c≤1000000000):gG (fun n=>uS n c id) (Lh id c:Int):=by
 have h:=RF id c 0 (by omega);rw[Nat.zero_add] at h;exact Ex.Ai (.bv h (.pure rfl))
theorem Wn (id:Int) (c:Core) (hw:cC c≤1000000000):gG (fun n=>oK n c id) (Lh id c:Int):=by
 have hc:=MS c;have hu:=OW id c.kids;refine .succ ?_;simp only[oK];refine Ex.Ai ?_;refine Ex.bind (P:=fun o=>o=decide (c.kind=1∧c.id=id)) ?_ ?_
 ·by_cases h:c.kind=1
  ·exact .pos h (.pure (by simp[h]))
  ·exact .neg h (.pure (by simp[h]))
 rintro o rfl;refine Ex.bind (P:=fun s=>s=(((if c.kind=1∧c.id=id then 1 else 0):Nat):Int)) ?_ ?_
 ·by_cases h:c.kind=1∧c.id=id
  ·exact .pos (by simpa using h) (.pure (by rw[if_pos h]; rfl))
  ·exact .neg (by simpa using h) (.pure (by rw[if_neg h]; rfl))
 rintro s rfl;rw[FW];refine .bv (Ex.aeS (m:=fun n x=>oK n x id) (c:=Lh id) (cs:=yg id) rfl (fun _ _=>rfl) (by split <;> omega) (fun x hx=>Wn id x (by have:=EN hx; omega))) (.pure rfl)
termination_by SizeOf.sizeOf c
decreasing_by exact uK hx
def Nh (ids:List Int) (kids:List Core):List Int:=match kids with
 | []=>[]
 | x::_=>ids.filter fun i=>decide (Lh i x=0)
mutual
def RG:Core→List Int
 | ⟨_,_,_,_,ids,_,kids⟩=>Nh ids kids++yh kids
def yh:List Core→List Int
 | []=>[]
 | x::r=>RG x++yh r
end
theorem J9 (c:Core):RG c=Nh c.ids c.kids++yh c.kids:=by cases c; simp only[RG]
theorem Ux (ids:List Int) (kids:List Core):(Nh ids kids).length≤ids.length:=by
 unfold Nh;split
 ·simp
 ·exact List.length_filter_le _ _
mutual
theorem Uy:∀c:Core,(RG c).length≤wC c
 | ⟨k,id,nm,n,ids,dt,kids⟩=>by have:=Ux ids kids; have:=Wp kids; simp only[RG,wC,List.length_append]; omega
theorem Wp:∀l:List Core,(yh l).length≤tK l
 | []=>by simp[yh]
 | x::r=>by have:=Uy x; have:=Wp r; simp only[yh,tK,List.length_append]; omega
end
def aaH (c:Core):Prop:=c.ids=[]∨∃x r,c.kids=x::r
theorem Ko {d:Nat} {sc:List Int} {c:Core} (h:wG d sc c=true):aaH c∧∀x∈c.kids,∃d' sc',wG d' sc' x=true:=by
 cases d with
 | zero=>simp[wG] at h
 | succ d=>
  simp only[wG,Bool.and_eq_true] at h;obtain⟨h1,h2,h3,h4⟩:=h;constructor
  ·unfold RZ at h2;simp only[Bool.and_eq_true,Bool.or_eq_true,decide_eq_true_eq] at h2;rcases h2.2.2.2.2 with h5 | h5
   ·right;unfold FP at h1;rw[if_neg (by omega),if_pos h5,decide_eq_true_eq] at h1;cases hk:c.kids with
    | nil=>rw[hk] at h1; simp at h1
    | cons x r=>exact⟨x,r,rfl⟩
   ·exact .inl h5
  ·intro x hx;cases ha:FQ sc c.ids with
   | none=>rw[ha] at h4; simp at h4
   | some s=>rw[ha] at h4; simp only[List.all_eq_true] at h4; exact⟨d,s,h4 x hx⟩
theorem aaI (c:Core) (w:List Int) (hb:aaH c) (hw:w.length+wC c≤900000000):gG (fun n=>jX n c w) (w++Nh c.ids c.kids):=by
 have hc:=Eo c;unfold jX;refine Ex.Ai ?_;refine Ex.bind (P:=fun s=>s=w++Nh c.ids c.kids) ?_ (fun s hs=>.pure hs);rcases hb with hb | ⟨y,r,hk⟩
 ·rw[hb];refine .pure ?_;unfold Nh; split <;> simp
 ·have hy:cC y≤900000001:=by
   have h1:=MV c; have h2:=MS c; have h3:=EN (l:=c.kids) (x:=y) (by rw[hk]; simp); omega
  rw[hk];refine Ex.dY (I:=fun i q s=>s++q.filter (fun i=>decide (Lh i y=0))=w++Nh c.ids (y::r)∧s.length+q.length≤w.length+c.ids.length) ⟨rfl,by omega⟩ ?_ (fun s ⟨h,_⟩=>by simpa using h);rintro i x q s ⟨h1,h2⟩;simp only[List.length_cons] at h2;rw[List.filter_cons] at h1;refine Ex.bind (P:=fun t=>t++q.filter (fun i=>decide (Lh i y=0))=w++Nh c.ids (y::r)∧t.length+q.length≤w.length+c.ids.length) ?_ (fun t ht=>.pure ht);refine .bp y (aax rfl) (.bv (Wj x y (by omega)) ?_);by_cases h0:Lh x y=0
  ·rw[if_pos (by simpa using h0)] at h1;exact .pos (by omega) (.bp _ (dJ (by simp; omega)) (.pure ⟨by rw[← h1]; simp,by simp; omega⟩))
  ·rw[if_neg (by simpa using h0)] at h1;exact .neg (by omega) (.pure ⟨h1,by omega⟩)
theorem Wq (c:Core) (w:List Int) (hv:∃d sc,wG d sc c=true) (hw:w.length+wC c≤900000000):gG (fun n=>dK n c w) (w++RG c):=by
 obtain⟨d,sc,hv⟩:=hv;obtain⟨hb,hv⟩:=Ko hv;have hc:=Eo c;have hu:=Ux c.ids c.kids;refine .succ ?_;simp only[dK];refine Ex.Ai (.bv (aaI c w hb hw) ?_);refine Ex.bind (P:=fun s=>s=w++RG c) ?_ (fun s hs=>.pure hs);refine Ex.dY (I:=fun i q s=>s++yh q=w++RG c∧s.length+tK q≤900000000∧∀x∈q,x∈c.kids) ⟨by rw[J9,List.append_assoc],by simp; omega,fun _ h=>h⟩ ?_ (fun s ⟨h,_⟩=>by simpa [yh] using h);rintro i x q s ⟨h1,h2,h3⟩;have g4:=h3 x List.mem_cons_self;have hx:=Uy x;simp only[yh,tK] at h1 h2;exact .bv (Wq x s (hv x g4) (by omega)) (.pure ⟨by rw[List.append_assoc]; exact h1,by simp; omega,fun y hy=>h3 y (List.mem_cons_of_mem _ hy)⟩)
termination_by SizeOf.sizeOf c
decreasing_by exact uK g4
theorem Ws (c:Core) (w:List Int) (hv:∃d sc,wG d sc c=true) (hw:w.length+wC c≤900000000):gG (fun n=>lX n w c) (w++RG c):=by
 obtain⟨d,sc,hv⟩:=hv;obtain⟨hb,hv⟩:=Ko hv;have hc:=Eo c;have hu:=Ux c.ids c.kids;refine .succ ?_;simp only[lX];refine Ex.Ai ?_;refine .iter (fun(s:Int×List Int)=>c.ids.length-s.1.toNat) (fun(s:Int×List Int)=>∃m:Nat,s.1=(m:Int)∧m≤c.ids.length∧s.2++Nh (c.ids.drop m) c.kids=w++Nh c.ids c.kids∧s.2.length+(c.ids.drop m).length≤w.length+c.ids.length) (0,w) ⟨0,rfl,by omega,rfl,by simp⟩ ?_;rintro ⟨i,s⟩ ⟨m,hm,h1,h2,h3⟩;simp only at hm h2 h3 ⊢;subst hm;refine .ite (fun hlt=>?_) (fun hge=>?_)
 ·have hlt':m<c.ids.length:=by omega
  obtain⟨y,r,hk⟩:∃y r,c.kids=y::r:=by
   rcases hb with hb | hb
   ·rw[hb] at hlt'; simp at hlt'
   ·exact hb
  have hy:cC y≤900000001:=by
   have h1:=MV c; have h2:=MS c; have h3:=EN (l:=c.kids) (x:=y) (by rw[hk]; simp); omega
  have hd:c.ids.drop m=c.ids[m]::c.ids.drop (m+1):=List.drop_eq_getElem_cons hlt';rw[hd] at h2 h3;simp only[List.length_cons] at h3;rw[hk] at h2 ⊢;simp only[Nh,List.filter_cons] at h2;have hbd:(c.ids.drop (m+1)).length=c.ids.length-(m+1):=by simp
  refine Ex.bind (P:=fun t=>t++Nh (c.ids.drop (m+1)) (y::r)=w++Nh c.ids (y::r)∧t.length+(c.ids.drop (m+1)).length≤w.length+c.ids.length) ?_ ?_
  ·refine .bp y (aax rfl) (.bp c.ids[m] (dZ (List.getElem?_eq_getElem hlt')) (.bv (Wn c.ids[m] y (by omega)) ?_));by_cases h0:Lh c.ids[m] y=0
   ·rw[if_pos (by simpa using h0)] at h2;exact .pos (by omega) (.bp _ (dJ (by simp; omega)) (.pure ⟨by simp only[Nh]; rw[← h2]; simp,by simp only[List.length_append,List.length_singleton]; omega⟩))
   ·rw[if_neg (by simpa using h0)] at h2;exact .neg (by omega) (.pure ⟨h2,by omega⟩)
  ·rintro t ⟨g1,g2⟩;refine .pure ⟨fun _ e=>by(cases e),fun s' e=>?_⟩;cases e;refine⟨⟨m+1,ig (by omega),by omega,by first | exact g1 | (rw[hk]; exact g1),g2⟩,?_⟩;show c.ids.length-(aY _).toNat<_;rw[ig (by omega)]; simp only[Int.toNat_natCast]; omega
 ·have hm:m=c.ids.length:=by omega
  subst hm;have e:s=w++Nh c.ids c.kids:=by
   rw[List.drop_length] at h2;rw[← h2]; unfold Nh; split <;> simp
  subst e;refine Ex.bind (P:=fun s=>s=w++RG c) ?_ (fun s hs=>.pure ⟨fun _ e=>by cases e; exact hs,fun _ e=>by(cases e)⟩);refine Ex.dY (I:=fun i q s=>s++yh q=w++RG c∧s.length+tK q≤900000000∧∀x∈q,x∈c.kids) ⟨by rw[J9,List.append_assoc],by simp; omega,fun _ h=>h⟩ ?_ (fun s ⟨h,_⟩=>by simpa [yh] using h);rintro i x q s ⟨h1,h2,h3⟩;have g4:=h3 x List.mem_cons_self;have hx:=Uy x;simp only[yh,tK] at h1 h2;exact .bv (Ws x s (hv x g4) (by omega)) (.pure ⟨by rw[List.append_assoc]; exact h1,by simp; omega,fun y hy=>h3 y (List.mem_cons_of_mem _ hy)⟩)
termination_by SizeOf.sizeOf c
decreasing_by exact uK g4
def unV (c:Core):List Int:=if jr c=true then RG c else []
theorem RH (c:Core) (hw:wC c≤900000000):gG (fun n=>kC n c) (unV c):=by
 unfold kC unV;refine Ex.Ai (.bv (H6 c (by omega)) ?_);cases hv:jr c with
 | false=>exact .pos rfl (.pure rfl)
 | true=>
  have h:wG 120 [] c=true:=by unfold jr at hv; simp only[Bool.and_eq_true] at hv; exact hv.1
  exact .neg (by simp) (.bv (Wq c [] ⟨_,_,h⟩ (by simpa using hw)) (.pure rfl))
theorem Kq (c:Core) (hw:wC c≤900000000):gG (fun n=>kG n c) (unV c):=by
 unfold kG unV;refine Ex.Ai (.bv (VR c (by omega)) ?_);cases hv:jr c with
 | false=>exact .pos rfl (.pure rfl)
 | true=>
  have h:wG 120 [] c=true:=by unfold jr at hv; simp only[Bool.and_eq_true] at hv; exact hv.1
  exact .neg (by simp) (.bv (Ws c [] ⟨_,_,h⟩ (by simpa using hw)) (.pure rfl))
theorem uq {d:Nat} {sc:List Int} {c:Core} (h:wG d sc c=true):∃e s,d=e+1∧FP c.kind c.kids.length=true∧RZ c=true∧(c.kind=1→c.id∈sc)∧FQ sc c.ids=some s∧∀x∈c.kids,wG e s x=true:=by
 cases d with
 | zero=>cases h
 | succ e=>
  simp only[wG,Bool.and_eq_true] at h;obtain⟨h1,h2,h3,h4⟩:=h;split at h4
  ·cases h4
  ·rename_i s hs;refine⟨e,s,rfl,h1,h2,?_,hs,List.all_eq_true.1 h4⟩;intro hk
   simpa [hk] using h3
mutual
def ofF:Form→Mx.Form
 | ⟨k,nm,n,sc,kids⟩=>⟨k,Mx.mkS nm,n,sc,Uz kids⟩
def Uz:List Form→List Mx.Form
 | []=>[]
 | f::r=>ofF f::Uz r
end
mutual
def Wu:Core→Mx.Core
 | ⟨k,id,nm,n,ids,dt,kids⟩=>⟨k,id,Mx.mkS nm,n,ids,ofF dt,XQ kids⟩
def XQ:List Core→List Mx.Core
 | []=>[]
 | f::r=>Wu f::XQ r
end
theorem Wv (l:List UInt8):toS (Mx.mkS l)=l:=by simp[toS,Mx.mkS]
mutual
theorem OX:∀f:Form,toF (ofF f)=f
 | ⟨k,nm,n,sc,kids⟩=>by simp only[ofF,toF,Wv,Nj kids]
theorem Nj:∀l:List Form,Ji (Uz l)=l
 | []=>rfl
 | f::r=>by simp only[Uz,Ji,OX f,Nj r]
end
mutual
theorem OY:∀f:Core,toC (Wu f)=f
 | ⟨k,id,nm,n,ids,dt,kids⟩=>by simp only[Wu,toC,Wv,OX dt,Nk kids]
theorem Nk:∀l:List Core,BZ (XQ l)=l
 | []=>rfl
 | f::r=>by simp only[XQ,BZ,OY f,Nk r]
end
theorem RI:∀l:List Core,XQ l=l.map Wu
 | []=>rfl
 | f::r=>by simp only[XQ,List.map_cons,RI r]
theorem afe {i:Int} (h:1≤i∧i≤999):(Lit.int .i64 i).wf=true:=by
 have e1:IntKind.i64.min=-9223372036854775808:=rfl;have e2:IntKind.i64.max=9223372036854775807:=rfl;simp[Lit.wf,e1,e2]; omega
theorem zh:∀{ids sc s:List Int},FQ sc ids=some s→s=sc++ids∧∀i∈ids,1≤i∧i≤999
 | [],sc,s,h=>by cases h; simp
 | x::r,sc,s,h=>by
  simp only[FQ] at h;split at h
  ·rename_i hx;obtain⟨h1,h2⟩:=zh h;refine⟨by rw[h1]; simp,fun i hi=>?_⟩;rcases List.mem_cons.1 hi with rfl | hi
   ·exact hx.1
   ·exact h2 i hi
  ·cases h
mutual
def RJ:Core→List Int
 | ⟨_,_,_,_,ids,_,kids⟩=>ids++CG kids
def CG:List Core→List Int
 | []=>[]
 | x::r=>RJ x++CG r
end
theorem OZ (c:Core):RJ c=c.ids++CG c.kids:=by cases c; simp only[RJ]
theorem RN:∀{l:List Core} {x:Core} {i:Int},x∈l→i∈RJ x→i∈CG l
 | y::r,x,i,h,hi=>by
  simp only[CG,List.mem_append];rcases List.mem_cons.1 h with rfl | h
  ·exact .inl hi
  ·exact .inr (RN h hi)
theorem acJ (n:Nat) (l:List Int) (x:Int):Hy n l x=some (decide (x∈l)):=BQ n l x
theorem Nl (x:Int) (c:Core):gG (fun n=>lS n c x) (decide (x∈RJ c)):=by
 refine .succ ?_;simp only[lS,acJ,Option.bind_some];refine Ex.Ai ?_;by_cases h:x∈c.ids
 ·exact .pos (by simpa using h) (.pure (by simp[OZ,h]))
 ·refine .neg (by simpa using h) ?_;refine Ex.bH (P:=fun o=>match o with
   | .inl w=>w=true∧x∈RJ c
   | .inr _=>x∉RJ c) ?_ ?_ ?_
  ·refine Ex.bV (I:=fun i q s=>(x∈RJ c↔x∈CG q)∧∀y∈q,y∈c.kids) ⟨by rw[OZ]; simp[h],fun _ h=>h⟩ ?_ ?_
   ·rintro i y q s ⟨h1,h3⟩;have g4:=h3 y (List.mem_cons_self);refine .bv (Nl x y) ?_;simp only[CG,List.mem_append] at h1;by_cases hy:x∈RJ y
    ·exact .pos (by simpa using hy) (.fo ⟨rfl,h1.2 (.inl hy)⟩)
    ·exact .neg (by simpa using hy) (.fg ⟨by rw[h1]; simp[hy],fun z hz=>h3 z (List.mem_cons_of_mem _ hz)⟩)
   ·rintro s ⟨h1,_⟩
    simpa [CG] using h1
  ·rintro w ⟨rfl,h1⟩; simp[h1]
  ·rintro ⟨⟩ h1;have h1:x∉RJ c:=h1;exact .pure (by simp[h1])
termination_by SizeOf.sizeOf c
decreasing_by exact uK g4
theorem O1 {i:Int}:∀(d:Nat) (sc:List Int) (c:Core),wG d sc c=true→i∉sc→i∉RJ c→Lh i c=0
 | 0,sc,c,h,_,_=>by cases h
 | d+1,sc,c,h,hs,hi=>by
  obtain⟨d',s,he,h1,h2,h3,h4,h5⟩:=uq h;cases he;rw[OZ,List.mem_append,not_or] at hi;obtain⟨rfl,_⟩:=zh h4;have hk:∀l:List Core,(∀x∈l,x∈c.kids)→yg i l=0:=by
   intro l
   induction l with
   | nil=>intro _; rfl
   | cons x r ih=>
    intro hm;have hx:=hm x List.mem_cons_self;simp only[yg];rw[O1 d _ x (h5 x hx) (by simp only[List.mem_append,not_or]; exact⟨hs,hi.1⟩) (fun h'=>hi.2 (RN hx h')),ih fun y hy=>hm y (List.mem_cons_of_mem _ hy)]
  rw[FW,hk _ fun _ h=>h,if_neg];rintro ⟨k1,k2⟩;exact hs (k2▸h3 k1)
theorem O4 (a b:List Int):gG (fun n=>xw n a b) (decide (a=b)):=OB
theorem aaK (b:List UInt8):Ex (fun n=>jl n b) (fun c=>wC c≤600000000):=by
 unfold jl;refine .bind (Un b) fun k1 g=>.bind (iR g (by omega)) fun k2 _=>?_;exact .ite (fun _=>.bind (OV b) fun k4 h4=>.pure (by omega)) (fun _=>.bind (aaG b) fun k5 h5=>.pure h5.1)
theorem DX (env:Int→Int) (n:Nat) (c:Core):DF env n c=⟨c.kind,if c.kind=1 then env c.id else c.id,c.name,c.n,Raw.pU n c.ids.length,c.data,wo (Raw.dh c.ids n env) (n+c.ids.length) c.kids⟩:=by cases c; simp only[DF]
theorem aff (c:Core):O8 c=c.ids.length+KQ c.kids:=by cases c; simp only[O8]
theorem acK (n k:Nat):(Raw.pU n k).length=k:=by simp[Raw.pU]
theorem Ia {n k:Nat} {i:Int}:i∈Raw.pU n k↔∃m:Nat,i=(m:Int)∧n<m∧m≤n+k:=by
 unfold Raw.pU;rw[List.mem_map];constructor
 ·rintro ⟨q,hq,rfl⟩;rw[List.mem_range] at hq;exact⟨n+q+1,rfl,by omega,by omega⟩
 ·rintro ⟨m,rfl,h1,h2⟩;exact⟨m-n-1,List.mem_range.2 (by omega),by omega⟩
theorem O5 (n a b:Nat):Raw.pU n a++Raw.pU (n+a) b=Raw.pU n (a+b):=by
 unfold Raw.pU;rw[List.range_add,List.map_append,List.map_map];congr 1;apply List.map_congr_left;intro x _;show((n+a+x+1:Nat):Int)=((n+(a+x)+1:Nat):Int)
 rw[Nat.add_assoc n a x]
theorem Np (n k:Nat):(Raw.pU n k).Nodup:=by
 unfold Raw.pU;exact List.Pairwise.map _ (fun a b h e=>h (by omega)) List.nodup_range
theorem qh {i:Int}:∀{l:List Int} {n:Nat} {env:Int→Int},i∉l→Raw.dh l n env i=env i
 | [],_,_,_=>rfl
 | x::r,n,env,h=>by
  rw[List.mem_cons,not_or] at h;rw[Raw.dh,qh h.2,if_neg h.1]
theorem FX {i:Int}:∀{l:List Int} {n:Nat} {env:Int→Int},l.Nodup→i∈l→∃m:Nat,Raw.dh l n env i=(m:Int)∧n<m∧m≤n+l.length
 | x::r,n,env,hn,h=>by
  rw[List.nodup_cons] at hn;rcases List.mem_cons.1 h with rfl | h
  ·exact⟨n+1,by rw[Raw.dh,qh hn.1,if_pos rfl],by omega,by simp⟩
  ·obtain⟨m,h1,h2,h3⟩:=FX (n:=n+1) (env:=fun j=>if j=x then((n+1:Nat):Int) else env j) hn.2 h;exact⟨m,by rw[Raw.dh]; exact h1,by omega,by simp; omega⟩
theorem Wx {i j:Int}:∀{l:List Int} {n:Nat} {env:Int→Int},l.Nodup→i∈l→j∈l→Raw.dh l n env i=Raw.dh l n env j→i=j
 | x::r,n,env,hn,hi,hj,h=>by
  rw[List.nodup_cons] at hn;rw[Raw.dh] at h;by_cases ei:i=x
  ·by_cases ej:j=x
   ·rw[ei,ej]
   ·obtain⟨m,h1,h2,_⟩:=FX (n:=n+1) (env:=fun j=>if j=x then((n+1:Nat):Int) else env j) hn.2 ((List.mem_cons.1 hj).resolve_left ej);rw[ei,qh hn.1,if_pos rfl,h1] at h; omega
  ·by_cases ej:j=x
   ·obtain⟨m,h1,h2,_⟩:=FX (n:=n+1) (env:=fun j=>if j=x then((n+1:Nat):Int) else env j) hn.2 ((List.mem_cons.1 hi).resolve_left ei);rw[ej,qh hn.1,if_pos rfl,h1] at h; omega
   ·exact Wx hn.2 ((List.mem_cons.1 hi).resolve_left ei) ((List.mem_cons.1 hj).resolve_left ej) h
theorem Wy:∀{l:List Int} {n:Nat} {env:Int→Int},l.Nodup→l.map (Raw.dh l n env)=Raw.pU n l.length
 | [],_,_,_=>rfl
 | x::r,n,env,hn=>by
  rw[List.nodup_cons] at hn;rw[List.map_cons,Raw.dh,qh hn.1,if_pos rfl,Wy hn.2,List.length_cons,Nat.add_comm r.length 1,← O5];rfl
structure Sc (sc sc':List Int) (env:Int→Int) (n:Nat):Prop where
 img:∀i∈sc,env i∈sc'
 le:∀j∈sc',∃m:Nat,j=(m:Int)∧1≤m∧m≤n
 inj:∀i∈sc,∀j∈sc,env i=env j→i=j
theorem Sc.more {sc sc':List Int} {env:Int→Int} {n n':Nat} (h:Sc sc sc' env n) (hn:n≤n'):Sc sc sc' env n':=
 ⟨h.img,fun j hj=>by obtain⟨m,h1,h2,h3⟩:=h.le j hj; exact⟨m,h1,h2,by omega⟩,h.inj⟩
theorem Sc.ids {sc sc' ids:List Int} {env:Int→Int} {n:Nat} (h:Sc sc sc' env n) (hn:ids.Nodup) (hd:∀i∈ids,i∉sc):Sc (sc++ids) (sc'++Raw.pU n ids.length) (Raw.dh ids n env) (n+ids.length) where
 img i hi:=by
  by_cases hm:i∈ids
  ·exact List.mem_append.2 (.inr (Ia.2 (FX hn hm)))
  ·rw[qh hm];exact List.mem_append.2 (.inl (h.img i ((List.mem_append.1 hi).resolve_right hm)))
 le j hj:=by
  rcases List.mem_append.1 hj with hj | hj
  ·obtain⟨m,h1,h2,h3⟩:=h.le j hj; exact⟨m,h1,h2,by omega⟩
  ·obtain⟨m,h1,h2,h3⟩:=Ia.1 hj; exact⟨m,h1,by omega,h3⟩
 inj i hi j hj e:=by
  by_cases hm:i∈ids <;> by_cases hm':j∈ids
  ·exact Wx hn hm hm' e
  ·obtain⟨m,h1,h2,_⟩:=FX (n:=n) (env:=env) hn hm;obtain⟨m',g1,_,g2⟩:=h.le _ (h.img j ((List.mem_append.1 hj).resolve_right hm'));rw[qh hm',h1,g1] at e; omega
  ·obtain⟨m,h1,h2,_⟩:=FX (n:=n) (env:=env) hn hm';obtain⟨m',g1,_,g2⟩:=h.le _ (h.img i ((List.mem_append.1 hi).resolve_right hm));rw[qh hm,h1,g1] at e; omega
  ·rw[qh hm,qh hm'] at e;exact h.inj i ((List.mem_append.1 hi).resolve_right hm) j ((List.mem_append.1 hj).resolve_right hm') e
theorem O6:∀{ids sc s:List Int},FQ sc ids=some s→ids.Nodup∧∀i∈ids,i∉sc
 | [],_,_,_=>⟨List.nodup_nil,by simp⟩
 | x::r,sc,s,h=>by
  simp only[FQ] at h;split at h
  ·rename_i hx;obtain⟨h1,h2⟩:=O6 h;refine⟨List.nodup_cons.2 ⟨fun hm=>h2 x hm (by simp),h1⟩,fun i hi=>?_⟩;rcases List.mem_cons.1 hi with rfl | hi
   ·exact hx.2
   ·exact fun hs=>h2 i hi (List.mem_append.2 (.inl hs))
  ·cases h
theorem aaL:∀{ids sc:List Int},ids.Nodup→(∀i∈ids,i∉sc)→(∀i∈ids,1≤i∧i≤999)→FQ sc ids=some (sc++ids)
 | [],sc,_,_,_=>by simp[FQ]
 | x::r,sc,hn,h1,h2=>by
  rw[List.nodup_cons] at hn;simp only[FQ];rw[if_pos ⟨h2 x (by simp),h1 x (by simp)⟩,aaL hn.2 (fun i hi=>?_) (fun i hi=>h2 i (List.mem_cons_of_mem _ hi)),List.append_assoc]
  ·rfl
  ·rw[List.mem_append,List.mem_singleton,not_or];exact⟨h1 i (List.mem_cons_of_mem _ hi),fun e=>hn.1 (e▸hi)⟩
theorem O7 (env:Int→Int):∀(l:List Core) (n:Nat),(wo env n l).length=l.length
 | [],_=>rfl
 | x::r,n=>by rw[wo,List.length_cons,List.length_cons,O7 env r]
theorem WA {env:Int→Int}:∀{l:List Core} {n:Nat} {y:Core},y∈wo env n l→∃x∈l,∃m,y=DF env m x∧n≤m∧m+O8 x≤n+KQ l
 | x::r,n,y,h=>by
  rw[wo] at h;rcases List.mem_cons.1 h with rfl | h
  ·exact⟨x,by simp,n,rfl,Nat.le_refl _,by simp only[KQ]; omega⟩
  ·obtain⟨z,h1,m,h2,h3,h4⟩:=WA h;exact⟨z,List.mem_cons_of_mem _ h1,m,h2,by omega,by simp only[KQ]; omega⟩
mutual
theorem adh:∀(c:Core) (env:Int→Int) (n:Nat),cC (DF env n c)=cC c
 | ⟨k,id,nm,v,ids,dt,kids⟩,env,n=>by simp only[DF,cC,aaM kids]
theorem aaM:∀(l:List Core) (env:Int→Int) (n:Nat),EM (wo env n l)=EM l
 | [],_,_=>rfl
 | x::r,env,n=>by simp only[wo,EM,adh x,aaM r]
end
mutual
theorem adi:∀(c:Core) (env:Int→Int) (n:Nat),wC (DF env n c)=wC c
 | ⟨k,id,nm,v,ids,dt,kids⟩,env,n=>by simp only[DF,wC,aaN kids,acK,O7]
theorem aaN:∀(l:List Core) (env:Int→Int) (n:Nat),tK (wo env n l)=tK l
 | [],_,_=>rfl
 | x::r,env,n=>by simp only[wo,tK,adi x,aaN r]
end
mutual
theorem aaO:∀(c:Core) (env:Int→Int) (n:Nat),RJ (DF env n c)=Raw.pU n (O8 c)
 | ⟨k,id,nm,v,ids,dt,kids⟩,env,n=>by simp only[DF,RJ,WB kids,O8,O5]
theorem WB:∀(l:List Core) (env:Int→Int) (n:Nat),CG (wo env n l)=Raw.pU n (KQ l)
 | [],_,_=>rfl
 | x::r,env,n=>by simp only[wo,CG,aaO x,WB r,KQ,O5]
end
theorem aaP:∀(d:Nat) {sc sc':List Int} {env:Int→Int} {n:Nat} {c:Core},wG d sc c=true→Sc sc sc' env n→n+O8 c≤999→wG d sc' (DF env n c)=true
 | 0,_,_,_,_,_,h,_,_=>by cases h
 | d+1,sc,sc',env,n,c,h,hs,hn=>by
  obtain⟨e,s,he,h1,h2,h3,h4,h5⟩:=uq h;cases he;obtain⟨rfl,aaQ⟩:=zh h4;obtain⟨hnd,hdj⟩:=O6 h4;have h6:=hs.ids hnd hdj;rw[aff] at hn;have g1:FQ sc' (Raw.pU n c.ids.length)=some (sc'++Raw.pU n c.ids.length):=aaL (Np _ _) (fun i hi hm=>by
   obtain⟨m,q1,q2,q3⟩:=Ia.1 hi;obtain⟨m',r1,_,r2⟩:=hs.le i hm;omega) (fun i hi=>by
   obtain⟨m,q1,q2,q3⟩:=Ia.1 hi;omega)
  have g2:RZ (DF env n c)=true:=by
   rw[DX];unfold RZ at h2 ⊢;simp only[Bool.and_eq_true] at h2 ⊢;obtain⟨a1,a2,a3,a4,a5⟩:=h2;refine⟨?_,a2,a3,a4,?_⟩
   ·by_cases k1:c.kind=1
    ·obtain⟨m,q1,q2,q3⟩:=hs.le _ (hs.img _ (h3 k1));simp only[k1,if_true,q1,Bool.and_eq_true,decide_eq_true_eq];omega
    ·simp only[k1,if_false] at a1 ⊢; exact a1
   ·simp only[Bool.or_eq_true,decide_eq_true_eq] at a5 ⊢;rcases a5 with a5 | a5
    ·exact .inl a5
    ·exact .inr (by rw[a5]; rfl)
  have e1:(DF env n c).kids=wo (Raw.dh c.ids n env) (n+c.ids.length) c.kids:=by rw[DX]
  have e2:(DF env n c).ids=Raw.pU n c.ids.length:=by rw[DX]
  have e3:(DF env n c).kind=c.kind:=by rw[DX]
  have e4:(DF env n c).id=if c.kind=1 then env c.id else c.id:=by rw[DX]
  rw[wG,g2,e1,e2,e3,e4,O7,h1,g1];simp only[Bool.true_and,Bool.and_eq_true,Bool.or_eq_true,Bool.not_eq_true',decide_eq_false_iff_not,decide_eq_true_eq,List.all_eq_true];refine⟨?_,fun y hy=>?_⟩
  ·by_cases k1:c.kind=1
   ·rw[if_pos k1]; exact .inr (hs.img _ (h3 k1))
   ·exact .inl k1
  ·obtain⟨x,hx,m,rfl,q1,q2⟩:=WA hy;exact aaP d (h5 x hx) (h6.more q1) (by omega)
theorem adk:∀(d:Nat) {sc sc':List Int} {env:Int→Int} {n:Nat} {c:Core} {i:Int},wG d sc c=true→Sc sc sc' env n→i∈sc→Lh (env i) (DF env n c)=Lh i c
 | 0,_,_,_,_,_,_,h,_,_=>by cases h
 | d+1,sc,sc',env,n,c,i,h,hs,hi=>by
  obtain⟨e,s,he,h1,h2,h3,h4,h5⟩:=uq h;cases he;obtain⟨rfl,aaQ⟩:=zh h4;obtain⟨hnd,hdj⟩:=O6 h4;have h6:=hs.ids hnd hdj;have ho:Raw.dh c.ids n env i=env i:=qh fun hm=>hdj i hm hi;have hk:∀(l:List Core) (m:Nat),n+c.ids.length≤m→(∀x∈l,x∈c.kids)→yg (env i) (wo (Raw.dh c.ids n env) m l)=yg i l:=by
   intro l
   induction l with
   | nil=>intros; rfl
   | cons x r ih=>
    intro m hm hx;have:=adk d (i:=i) (h5 x (hx x (by simp))) (h6.more hm) (List.mem_append.2 (.inl hi));rw[ho] at this;simp only[wo,yg];rw[ih _ (by omega) fun y hy=>hx y (List.mem_cons_of_mem _ hy),this]
  rw[FW,FW i c,DX];simp only[];rw[hk _ _ (Nat.le_refl _) fun _ h=>h];congr 1;by_cases k1:c.kind=1
  ·have:env c.id=env i↔c.id=i:=⟨fun e=>hs.inj _ (h3 k1) _ hi e,fun e=>by rw[e]⟩
   simp only[k1,if_true,true_and,this]
  ·simp only[k1,false_and]
theorem aaR:∀(d:Nat) {sc sc':List Int} {env:Int→Int} {n:Nat} {c:Core},wG d sc c=true→Sc sc sc' env n→(RG (DF env n c)).length=(RG c).length
 | 0,_,_,_,_,_,h,_=>by cases h
 | d+1,sc,sc',env,n,c,h,hs=>by
  obtain⟨e,s,he,h1,h2,h3,h4,h5⟩:=uq h;cases he;obtain⟨rfl,aaQ⟩:=zh h4;obtain⟨hnd,hdj⟩:=O6 h4;have h6:=hs.ids hnd hdj;have hk:∀(l:List Core) (m:Nat),n+c.ids.length≤m→(∀x∈l,x∈c.kids)→(yh (wo (Raw.dh c.ids n env) m l)).length=(yh l).length:=by
   intro l
   induction l with
   | nil=>intros; rfl
   | cons x r ih=>
    intro m hm hx;simp only[wo,yh,List.length_append];rw[ih _ (by omega) fun y hy=>hx y (List.mem_cons_of_mem _ hy),aaR d (h5 x (hx x (by simp))) (h6.more hm)]
  rw[J9,J9 c,DX];simp only[List.length_append];rw[hk _ _ (Nat.le_refl _) fun _ h=>h];congr 1;cases hkk:c.kids with
  | nil=>rfl
  | cons x r=>
   simp only[wo,Nh];rw[← Wy (env:=env) hnd,List.filter_map,List.length_map];congr 1;apply List.filter_congr;intro i hi;simp only[Function.comp];rw[adk d (h5 x (by rw[hkk]; simp)) h6 (List.mem_append.2 (.inr hi))]
mutual
theorem UA {i:Int}:∀c:Core,i∈RG c→i∈RJ c
 | ⟨k,id,nm,v,ids,dt,kids⟩,h=>by
  simp only[RG,RJ,List.mem_append] at h ⊢;rcases h with h | h
  ·left;unfold Nh at h;split at h
   ·simp at h
   ·exact(List.mem_filter.1 h).1
  ·exact .inr (Ib kids h)
theorem Ib {i:Int}:∀l:List Core,i∈yh l→i∈CG l
 | [],h=>by simp[yh] at h
 | x::r,h=>by
  simp only[yh,CG,List.mem_append] at h ⊢;exact h.imp (UA x) (Ib r)
end
theorem WC:∀(d:Nat) {sc:List Int} {c:Core} {i:Int},wG d sc c=true→(RJ c).Nodup→i∉sc→i∈RG c→Lh i c=0
 | 0,_,_,_,h,_,_,_=>by cases h
 | d+1,sc,c,i,h,hn,hs,hi=>by
  obtain⟨e,s,he,h1,h2,h3,h4,h5⟩:=uq h;cases he;obtain⟨rfl,aaQ⟩:=zh h4;rw[OZ,List.nodup_append] at hn;obtain⟨n1,n2,n3⟩:=hn;rw[J9] at hi;have h0:¬(c.kind=1∧c.id=i):=fun⟨k1,k2⟩=>hs (k2▸h3 k1);rw[FW,if_neg h0,Nat.zero_add];rcases List.mem_append.1 hi with hi | hi
  ·unfold Nh at hi;split at hi
   ·simp at hi
   ·rename_i x r hk;rw[List.mem_filter,decide_eq_true_eq] at hi;obtain⟨hi,hu⟩:=hi;have k5:c.kind=5:=by
     unfold RZ at h2;simp only[Bool.and_eq_true,Bool.or_eq_true,decide_eq_true_eq] at h2;rcases h2.2.2.2.2 with h | h
     ·exact h
     ·rw[h] at hi; simp at hi
    unfold FP at h1;rw[if_neg (by omega),if_pos k5,decide_eq_true_eq,hk] at h1;have:r=[]:=List.eq_nil_of_length_eq_zero (by simpa using h1);rw[hk,this];simp[yg,hu]
  ·have hni:i∉c.ids:=fun hm=>n3 i hm i (Ib _ hi) rfl;have hsi:i∉sc++c.ids:=by rw[List.mem_append,not_or]; exact⟨hs,hni⟩
   have hz:∀l:List Core,(∀x∈l,x∈c.kids)→i∉CG l→yg i l=0:=by
    intro l
    induction l with
    | nil=>intros; rfl
    | cons x r ih=>
     intro hx hm;simp only[CG,List.mem_append,not_or] at hm;simp only[yg];rw[O1 d _ x (h5 x (hx x (by simp))) hsi hm.1,ih (fun y hy=>hx y (List.mem_cons_of_mem _ hy)) hm.2]
   have hk:∀l:List Core,(∀x∈l,x∈c.kids)→(CG l).Nodup→i∈yh l→yg i l=0:=by
    intro l
    induction l with
    | nil=>intros; rfl
    | cons x r ih=>
     intro hx hnd hm;simp only[CG,List.nodup_append] at hnd;obtain⟨m1,m2,m3⟩:=hnd;simp only[yh,List.mem_append] at hm;simp only[yg];rcases hm with hm | hm
     ·rw[WC d (h5 x (hx x (by simp))) m1 hsi hm,hz r (fun y hy=>hx y (List.mem_cons_of_mem _ hy)) fun h'=>m3 i (UA x hm) i h' rfl]
     ·rw[ih (fun y hy=>hx y (List.mem_cons_of_mem _ hy)) m2 hm,O1 d _ x (h5 x (hx x (by simp))) hsi fun h'=>m3 i h' i (Ib r hm) rfl]
   exact hk _ (fun _ h=>h) n2 hi
theorem aaS:Sc [] [] (fun _=>0) 0:=⟨by simp,by simp,by simp⟩
theorem aaT {c:Core} (hv:jr c=true) (hn:O8 c≤999):jr (DF (fun _=>0) 0 c)=true:=by
 unfold jr at hv ⊢;rw[Bool.and_eq_true] at hv ⊢;exact⟨aaP 120 hv.1 aaS (by omega),by rw[adh]; exact hv.2⟩
theorem afg {c:Core} (hv:jr c=true) (hn:O8 c≤999):(unV (DF (fun _=>0) 0 c)).length=(unV c).length∧∀i∈unV (DF (fun _=>0) 0 c),i∈RJ (DF (fun _=>0) 0 c)∧Lh i (DF (fun _=>0) 0 c)=0:=by
 have h1:=aaT hv hn;unfold unV;rw[if_pos hv,if_pos h1];unfold jr at hv h1;rw[Bool.and_eq_true] at hv h1;refine⟨aaR 120 hv.1 aaS,fun i hi=>⟨UA _ hi,WC 120 h1.1 (by rw[aaO]; exact Np _ _) (by simp) hi⟩⟩
theorem acL {n:Nat} {l:List Int} (h:l.length≤1000000000000):slices_Clone_int n l=some l:=by
 unfold slices_Clone_int;rw[dJ (by simp; omega)]; simp
theorem RP:∀{l:List Form} {y:Mx.Form},y∈Uz l→∃x∈l,y=ofF x
 | x::r,y,h=>by
  rw[Uz] at h;rcases List.mem_cons.1 h with h | h
  ·exact⟨x,by simp,h⟩
  ·obtain⟨z,h1,h2⟩:=RP h;exact⟨z,List.mem_cons_of_mem _ h1,h2⟩
theorem RQ (f:Form) (hw:wF f≤1000000000):Raw.Qz (fun l=>∃n,slices_Clone_int n l=some l) (ofF f):=by
 have hwe:=En f;have h1:(ofF f).scopes=f.scopes:=by cases f; rfl
 have h2:(ofF f).kids=Uz f.kids:=by cases f; rfl
 have hc:=Raw.TP (ofF f);rw[OX] at hc;refine .mk ⟨0,by rw[h1]; exact acL (by omega)⟩ (by omega) fun y hy=>?_;rw[h2] at hy;obtain⟨x,hx,rfl⟩:=RP hy;exact RQ x (by have:=BK hx; omega)
termination_by SizeOf.sizeOf f
decreasing_by exact jG hx
theorem RS:∀(d:Nat) (sc:List Int) (c:Core),wC c≤1000000000→wG d sc c=true→Raw.JB (fun l=>∃n,slices_Clone_int n l=some l) (Wu c) sc
 | 0,sc,c,_,h=>by cases h
 | d+1,sc,c,hw,h=>by
  obtain⟨e,s,he,h1,h2,h3,h4,h5⟩:=uq h;cases he;have hwe:=Eo c;have hcc:(Wu c).kids=c.kids.map Wu:=by cases c; simp only[Wu,RI]
  have hck:(Wu c).kind=c.kind:=by cases c; rfl
  have hci:(Wu c).ids=c.ids:=by cases c; rfl
  have hcd:(Wu c).id=c.id:=by cases c; rfl
  have hdt:(Wu c).data=ofF c.data:=by cases c; rfl
  obtain⟨rfl,aaQ⟩:=zh h4;refine .mk (by rw[hck,hcd]; exact h3) (by rw[hci]; exact fun i hi=>afe (aaQ i hi)) (by rw[hdt]; exact RQ _ (by omega)) fun y hy=>?_;rw[hcc,List.mem_map] at hy;obtain⟨x,hx,rfl⟩:=hy;rw[hci];exact RS d _ x (by have:=BL hx; omega) (h5 x hx)
theorem acM {c:Core} (hw:wC c≤600000000) (hv:jr c=true):agM c:=by
 unfold jr at hv;rw[Bool.and_eq_true] at hv;have hc:=Raw.Zj (Wu c);rw[OY] at hc;exact⟨Wu c,(OY c).symm,RS 120 [] c (by omega) hv.1,by omega⟩
theorem Kr (b:List UInt8):gG (fun n=>oq n b) true:=by
 refine Ex.Ai ?_;unfold oq;refine .ite (fun _=>.pure rfl) (fun _=>.bind (aaK b) fun c hw=>?_);have hcl:=MV c;refine .bv (RH c (by omega)) ?_;cases hv:jr c with
 | false=>
  have e:unV c=[]:=by unfold unV; rw[hv]; rfl
  refine Ex.bind (P:=fun o=>o=true) (.bv (Kq c (by omega)) (.bv (O4 _ _) (.neg (by simp) (.bv (H6 c (by omega)) (.pure (by rw[hv]; rfl)))))) ?_;rintro o rfl;exact .pos rfl (Ex.bind (P:=fun o=>o=true) (.bv (Kq c (by omega)) (.bv (O4 _ _) (.pos (by simp) (.pure (by rw[e]; rfl))))) fun o ho=>.pure ho)
 | true=>
  refine Ex.bind (P:=fun o=>o=false) (.bv (Kq c (by omega)) (.bv (O4 _ _) (.neg (by simp) (.bv (H6 c (by omega)) (.pure (by rw[hv]; rfl)))))) ?_;rintro o rfl;refine .neg (by simp) ?_;have hic:=H6 c (by omega);rw[hv] at hic;have hnum:gG (fun n=>nS n c) (if O8 c≤999 then DF (fun _=>0) 0 c else(⟨0,0,[],0,[],⟨0,[],0,[],[]⟩,[]⟩:Core),decide (O8 c≤999)):=by
   unfold nS;refine .bind hic (.const ?_);rw[if_pos ⟨rfl,acM hw hv⟩]
  refine .bv hnum ?_;by_cases hn:O8 c≤999
  ·obtain⟨g1,g2⟩:=afg hv hn;have hwr:wC (DF (fun _=>0) 0 c)≤600000000:=by rw[adi]; exact hw
   have hcr:=MV (DF (fun _=>0) 0 c);refine .neg (by simp[hn]) ?_;simp only[if_pos hn];refine .bv (RH _ (by omega)) ?_;generalize DF (fun _=>0) 0 c=c' at *;refine Ex.bH (P:=fun o=>match o with
    | .inl w=>False
    | .inr _=>True) ?_ ?_ ?_
   ·refine Ex.bV (I:=fun i q s=>∀y∈q,y∈unV c') (fun _ h=>h) ?_ (fun _ _=>trivial);rintro i x q s h3;obtain⟨k1,k2⟩:=g2 x (h3 x List.mem_cons_self);refine Ex.bind (P:=fun o=>o=false) (.bv (Wj x c' (by omega)) ?_) ?_
    ·exact .neg (by rw[k2]; simp) (.bv (Nl x c') (.pure (by simp[k1])))
    ·rintro o rfl;exact .neg (by simp) (.fg fun y hy=>h3 y (List.mem_cons_of_mem _ hy))
   ·intro w hw; exact hw.elim
   ·rintro ⟨⟩ _;exact .pure (by rw[g1]; simp)
  ·exact .pos (by simp[hn]) (.pure rfl)
theorem Lj (l:List Int) (h:l.length≤maxLen∧∀a∈l,(Lit.int .u8 a).wf=true):Mx.vH X.E 3 [.sl 1 .ro (l.map fun i=>[.v (.int .u8 i)])] [] fun d _=>d=.v (.bool true):=by
 obtain⟨N,hN⟩:=Kr (toB l);exact Xn (EL N (toB l) (hN N (Nat.le_refl _))) (by simp only[ED.DL,ED.D,KD.D,abO h.2]; rfl)
end Go.Ev
