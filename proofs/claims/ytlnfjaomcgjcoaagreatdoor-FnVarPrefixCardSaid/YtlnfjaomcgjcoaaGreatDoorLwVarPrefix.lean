/- Plain laws of models. No condition. -/
import Derived.Test.YtlnfjaomcgjcoaaGreatDoorMdVarPrefix
import Derived.Test.YtlnfjaomcgjcoaaGreatDoorEvTri
namespace Go.Ev
open Go.Mx (KD ED aB dX bQ bI iterM)
set_option linter.unusedVariables false
set_option linter.unusedSimpArgs false
theorem gG.scan {ω:Type} {step:Nat→Int→Option (ω⊕Int)} {p:Nat→Bool} {L:Nat} {no yes:ω} (h1:∀i,i<L→p i=true→gG (fun n=>step n (i:Int)) (.inr ((i+1:Nat):Int))) (h2:∀i,i<L→p i=false→gG (fun n=>step n (i:Int)) (.inl no)) (h3:gG (fun n=>step n (L:Int)) (.inl yes)) :
  gG (fun n=>iterM n (step n) 0) (if(List.range L).all p=true then yes else no):=by
 obtain⟨w,k1,k2⟩:=SH (step:=step) (fun s=>L-s.toNat) (fun s=>∃i:Nat,i≤L∧s=i∧∀j,j<i→p j=true) (fun w=>w=if(List.range L).all p=true then yes else no) (fun s ⟨i,i1,i2,i3⟩=>by
  subst i2;rcases Nat.lt_or_ge i L with h | h
  ·cases hp:p i with
   | true=>exact .inr ⟨_,h1 i h hp,⟨i+1,by omega,rfl,fun j hj=>by rcases Nat.lt_or_eq_of_le (Nat.le_of_lt_succ hj) with q | q; exact i3 j q; rw[q]; exact hp⟩,by simp; omega⟩
   | false=>
    refine .inl ⟨_,h2 i h hp,?_⟩;rw[if_neg];intro hall;rw[List.all_eq_true] at hall;rw[hall i (List.mem_range.2 h)] at hp; cases hp
  ·have:i=L:=by omega
   subst this;refine .inl ⟨_,h3,?_⟩;rw[if_pos];rw[List.all_eq_true];exact fun j hj=>i3 j (List.mem_range.1 hj)) 0 ⟨0,Nat.zero_le _,rfl,fun j hj=>by omega⟩
 exact k2▸k1
theorem aae {α ω:Type} {step:Unit→Nat→α→Option (ω⊕Unit)} {p:α→Bool} {no:ω} {f:Unit→Option ω}:∀{xs:List α} {i:Nat},(∀i x,x∈xs→step () i x=if p x=true then some (.inr ()) else some (.inl no))→bI (Mx.bQ step i xs ()) f=if xs.all p=true then f () else some no
 | [],i,_=>by simp[Mx.bQ,Mx.bI]
 | x::r,i,h=>by
  have hx:=h i x (List.mem_cons_self);have ih:=aae (step:=step) (p:=p) (no:=no) (f:=f) (xs:=r) (i:=i+1) (fun i y hy=>h i y (List.mem_cons_of_mem _ hy));simp only[Mx.bQ,hx,List.all_cons,Bool.and_eq_true];cases hp:p x with
  | true=>simpa [hp] using ih
  | false=>simp[Mx.bI]
theorem fV {i:Nat} (h:i<9223372036854775807):aY ((i:Int)+1)=((i+1:Nat):Int):=by rw[ku (by omega) (by omega)]; omega
theorem Xo {α ω:Type} {step:Unit→Nat→α→Option (ω⊕Unit)} {p:Nat→Bool} {no:ω} {f:Unit→Option ω}:∀{xs:List α} {i:Nat},(∀j x,xs[j]? = some x→step () (i+j) x=if p (i+j)=true then some (.inr ()) else some (.inl no))→bI (Mx.bQ step i xs ()) f=if(List.range xs.length).all (fun j=>p (i+j))=true then f () else some no
 | [],i,_=>by simp[Mx.bQ,Mx.bI]
 | x::r,i,h=>by
  have hx:=h 0 x rfl;have ih:=Xo (step:=step) (p:=p) (no:=no) (f:=f) (xs:=r) (i:=i+1) (fun j y hy=>by have:=h (j+1) y (by simpa using hy); rwa [show i+(j+1)=i+1+j by omega] at this);simp only[Nat.add_zero] at hx;simp only[Mx.bQ,hx,List.length_cons,List.range_succ_eq_map,List.all_cons,List.all_map,Bool.and_eq_true,Nat.add_zero];have e:((fun j=>p (i+j))∘Nat.succ)=fun j=>p (i+1+j):=by funext j; simp only[Function.comp]; congr 1; omega
  rw[e];cases hp:p i with
  | true=>simpa [hp] using ih
  | false=>simp[Mx.bI]
def O1 (c:UInt8):Bool:=(decide (97≤c.toNat)&&decide (c.toNat≤122))||c==42||c==63||c==61||c==43||c==60
def Xp (c:UInt8):Bool:=(decide (48≤c.toNat)&&decide (c.toNat≤57))||c==45
def II (s:List UInt8) (i:Nat):Bool:=match s[i]? with
 | some c=>O1 c||(!(i==0)&&Xp c)
 | none=>false
def nameB (s:List UInt8):Bool:=(decide (s=[46,46,46])||decide (s=[95]))||((List.range s.length).all (II s)&&(decide (1≤s.length)&&decide (s.length≤12)))
theorem Fz {c d:UInt8}:c=d↔c.toNat=d.toNat:=⟨fun h=>by rw[h],fun h=>UInt8.toNat_inj.1 h⟩
theorem Mc (y:UInt8):((if(y.toNat:Int)≥48 then(if(y.toNat:Int)≤57 then some true else some (decide ((y.toNat:Int)=45))) else some (decide ((y.toNat:Int)=45))):Option Bool)=some (Xp y):=by
 have e:decide ((y.toNat:Int)=45)=(y==45):=by
  by_cases h:y=45
  ·subst h; rfl
  ·have:¬(y.toNat:Int)=45:=fun h'=>h (Fz.2 (by show y.toNat=45; omega));simp[h,this]
 rw[e];unfold Xp;by_cases h1:(y.toNat:Int)≥48
 ·rw[if_pos h1];by_cases h2:(y.toNat:Int)≤57
  ·rw[if_pos h2]; simp[show 48≤y.toNat by omega,show y.toNat≤57 by omega]
  ·rw[if_neg h2]; simp[show ¬y.toNat≤57 by omega]
 ·rw[if_neg h1]; simp[show ¬48≤y.toNat by omega]
theorem Kr (n:Nat) (a b c:Int):iR n a b c=some (decide (b≤a)&&decide (a≤c)):=by
 unfold iR;by_cases h:a≥b
 ·rw[if_pos h]; simp[show b≤a from h]
 ·rw[if_neg h]; simp[show ¬b≤a from h]
theorem Xq:∀(l:List UInt8) (c:UInt8),0≤Lib.indexByte l c↔c∈l
 | [],c=>by simp[Lib.indexByte]
 | b::l,c=>by
  have ih:=Xq l c;have hg:=Lib.indexByte_ge l c;unfold Lib.indexByte;by_cases hb:b=c
  ·subst hb; simp
  ·have hb':(b==c)=false:=by simpa using hb
   rw[hb',List.mem_cons,← ih];have hbc:¬c=b:=fun h=>hb h.symm;simp only[Bool.false_eq_true,if_false,hbc,false_or];by_cases h1:Lib.indexByte l c=-1
   ·simp[h1]
   ·simp only[beq_iff_eq,h1,if_false]; omega
theorem abD (l:List UInt8) (c:UInt8):decide (Lib.indexByte l c≥0)=l.contains c:=by
 rw[Bool.eq_iff_iff]; simp only[decide_eq_true_eq,List.contains_iff_mem]; exact Xq l c
theorem abE (y:UInt8):((if(y.toNat:Int)≥97 then(if(y.toNat:Int)≤122 then some true else some (decide (Lib.indexByte [42,63,61,43,60] y≥0))) else some (decide (Lib.indexByte [42,63,61,43,60] y≥0))):Option Bool)=some (O1 y):=by
 have e:decide (Lib.indexByte [42,63,61,43,60] y≥0)=(y==42||y==63||y==61||y==43||y==60):=by
  rw[abD]; simp only[List.contains_cons,List.contains_nil,Bool.or_false,Bool.or_assoc]
 rw[e];unfold O1;by_cases h1:(y.toNat:Int)≥97
 ·rw[if_pos h1];by_cases h2:(y.toNat:Int)≤122
  ·rw[if_pos h2];simp[show 97≤y.toNat by omega,show y.toNat≤122 by omega]
  ·rw[if_neg h2];simp[show ¬y.toNat≤122 by omega]
 ·rw[if_neg h1];simp[show ¬97≤y.toNat by omega]
theorem Zp (y:UInt8):((y.toNat:Int).toNat).toUInt8=y:=by
 rw[Int.toNat_natCast]; exact UInt8.ofNat_toNat
theorem SV (s:List UInt8) (hs:s.length≤I9):gG (fun n=>lq n s) (nameB s):=by
 unfold I9 at hs;unfold lq;simp only[strings_IndexByte,Zp,Option.bind_some,abE,Mc];by_cases h0:s=[46,46,46]
 ·simp only[h0,if_true,Option.bind_some]; exact .pure _
 rw[if_neg h0];simp only[Option.bind_some];by_cases h1:s=[95]
 ·simp only[h1,decide_true,if_true]; exact .pure _
 simp only[h1,decide_false,Bool.false_eq_true,if_false];have e:nameB s=if(List.range s.length).all (II s)=true then(decide (1≤s.length)&&decide (s.length≤12)) else false:=by
  unfold nameB; simp only[h0,h1,decide_false,Bool.false_or,Bool.or_self];cases (List.range s.length).all (II s) <;> simp
 rw[e];refine gG.scan (L:=s.length) (p:=II s) (fun i hi hp=>?_) (fun i hi hp=>?_) ?_
 ·refine .pos (by omega) ?_;have hy:=List.getElem?_eq_getElem hi;unfold II at hp;rw[hy] at hp;simp only at hp;refine gG.const ?_;rw[dP hy];simp only[Option.bind_some];cases hc:O1 s[i] with
  | true=>simp only[if_true,Mx.bI,Option.bind_some,fV (i:=i) (by omega)]
  | false=>
   rw[hc,Bool.false_or,Bool.and_eq_true] at hp;have hi0:(i:Int)>0:=by
    have:i≠0:=by simpa using hp.1
    omega
   simp only[Bool.false_eq_true,if_false,if_pos hi0,Mc,hp.2,Option.bind_some,if_true,Mx.bI,fV (i:=i) (by omega)]
 ·refine .pos (by omega) ?_;have hy:=List.getElem?_eq_getElem hi;unfold II at hp;rw[hy] at hp;simp only[Bool.or_eq_false_iff] at hp;refine gG.const ?_;rw[dP hy];simp only[Option.bind_some,hp.1,Bool.false_eq_true,if_false];by_cases hi0:(i:Int)>0
  ·have:(i==0)=false:=by simp; omega
   have hd:Xp s[i]=false:=by simpa [this] using hp.2
   simp only[if_pos hi0,Mc,hd,Option.bind_some,Bool.false_eq_true,if_false,Mx.bI]
  ·simp only[if_neg hi0,Option.bind_some,Bool.false_eq_true,if_false,Mx.bI]
 ·refine .neg (by omega) ?_;simp only[Kr,Option.bind_some];refine .const ?_;have a1:decide ((1:Int)≤(s.length:Int))=decide (1≤s.length):=by simp only[decide_eq_decide]; omega
  have a2:decide ((s.length:Int)≤12)=decide (s.length≤12):=by simp only[decide_eq_decide]; omega
  rw[a1,a2]
theorem adJ (n:Nat) (y:UInt8) (f:Bool):qZ n (y.toNat:Int) f=some (O1 y||(!f&&Xp y)):=by
 unfold qZ;simp only[Mc];have q:∀k:Nat,decide ((y.toNat:Int)=(k:Int))=decide (y.toNat=k):=fun k=>by simp only[decide_eq_decide]; omega
 have e:((if(y.toNat:Int)=42 then some true else(if(y.toNat:Int)=63 then some true else(if(y.toNat:Int)=61 then some true else(if(y.toNat:Int)=43 then some true else some (decide ((y.toNat:Int)=60)))))):Option Bool)=some (y==42||y==63||y==61||y==43||y==60):=by
  have w:∀(k:Nat) (d:UInt8),d.toNat=k→((y.toNat:Int)=(k:Int)↔y=d):=fun k d hd=>by rw[Fz,hd]; omega
  have w1:(y.toNat:Int)=42↔y=42:=w 42 42 rfl;have w2:(y.toNat:Int)=63↔y=63:=w 63 63 rfl;have w3:(y.toNat:Int)=61↔y=61:=w 61 61 rfl;have w4:(y.toNat:Int)=43↔y=43:=w 43 43 rfl;have w5:(y.toNat:Int)=60↔y=60:=w 60 60 rfl;by_cases h1:y=42
  ·rw[if_pos (w1.2 h1),h1]; rfl
  rw[if_neg (fun h=>h1 (w1.1 h))];by_cases h2:y=63
  ·rw[if_pos (w2.2 h2),h2]; rfl
  rw[if_neg (fun h=>h2 (w2.1 h))];by_cases h3:y=61
  ·rw[if_pos (w3.2 h3),h3]; rfl
  rw[if_neg (fun h=>h3 (w3.1 h))];by_cases h4:y=43
  ·rw[if_pos (w4.2 h4),h4]; rfl
  rw[if_neg (fun h=>h4 (w4.1 h))];have:decide ((y.toNat:Int)=60)=(y==60):=by rw[Bool.eq_iff_iff]; simp only[decide_eq_true_eq,beq_iff_eq]; exact w5
  rw[this];simp[h1,h2,h3,h4]
 rw[e];have e2:((if(y.toNat:Int)≥97 then(if(y.toNat:Int)≤122 then some true else some (y==42||y==63||y==61||y==43||y==60)) else some (y==42||y==63||y==61||y==43||y==60)):Option Bool)=some (O1 y):=by
  unfold O1;by_cases h1:(y.toNat:Int)≥97
  ·rw[if_pos h1];by_cases h2:(y.toNat:Int)≤122
   ·rw[if_pos h2]; simp[show 97≤y.toNat by omega,show y.toNat≤122 by omega]
   ·rw[if_neg h2]; simp[show ¬y.toNat≤122 by omega]
  ·rw[if_neg h1]; simp[show ¬97≤y.toNat by omega]
 rw[e2];cases O1 y <;> cases f <;> simp
theorem Gq (s:List UInt8) (hs:s.length≤I9):gG (fun n=>jc n s) (nameB s):=by
 unfold I9 at hs;unfold jc;simp only[adJ,Option.bind_some];by_cases h0:s=[46,46,46]
 ·simp only[h0,if_true,Option.bind_some]; exact .pure _
 rw[if_neg h0];simp only[Option.bind_some];by_cases h1:s=[95]
 ·simp only[h1,decide_true,if_true]; exact .pure _
 simp only[h1,decide_false,Bool.false_eq_true,if_false];have hb:nameB s=if(List.range (min s.length 13)).all (II s)=true then(decide (1≤s.length)&&decide (s.length≤12)) else false:=by
  unfold nameB; simp only[h0,h1,decide_false,Bool.false_or,Bool.or_self];by_cases hl:s.length≤12
  ·rw[Nat.min_eq_left (by omega)];cases (List.range s.length).all (II s) <;> simp
  ·simp[hl]
 rw[hb];refine gG.scan (L:=min s.length 13) (p:=II s) (fun i hi hp=>?_) (fun i hi hp=>?_) ?_
 ·have hi':i<s.length:=by omega
  have hy:=List.getElem?_eq_getElem hi';unfold II at hp;rw[hy] at hp;simp only at hp;refine gG.const ?_;have c1:(i:Int)<(s.length:Int):=by omega
  have c2:decide ((i:Int)≤12)=true:=by simp; omega
  have c3:decide ((i:Int)=0)=(i==0):=by rw[Bool.eq_iff_iff]; simp
  rw[if_pos c1,c2,c3];simp only[Option.bind_some,if_true,dP hy,hp,Bool.not_true,Bool.false_eq_true,if_false,fV (i:=i) (by omega)]
 ·have hi':i<s.length:=by omega
  have hy:=List.getElem?_eq_getElem hi';unfold II at hp;rw[hy] at hp;simp only at hp;refine gG.const ?_;have c1:(i:Int)<(s.length:Int):=by omega
  have c2:decide ((i:Int)≤12)=true:=by simp; omega
  have c3:decide ((i:Int)=0)=(i==0):=by rw[Bool.eq_iff_iff]; simp
  rw[if_pos c1,c2,c3];simp only[Option.bind_some,if_true,dP hy,hp,Bool.not_false]
 ·refine gG.const ?_;have e:((if((min s.length 13:Nat):Int)<(s.length:Int) then some (decide (((min s.length 13:Nat):Int)≤12)) else some false):Option Bool)=some false:=by
   by_cases h:((min s.length 13:Nat):Int)<(s.length:Int)
   ·rw[if_pos h]; congr 1; simp; omega
   ·rw[if_neg h]
  rw[e];have a1:decide ((s.length:Int)≤12)=decide (s.length≤12):=by simp only[decide_eq_decide]; omega
  by_cases h:(s.length:Int)≥1
  ·simp only[Option.bind_some,Bool.false_eq_true,if_false,if_pos h,a1,show decide (1≤s.length)=true from decide_eq_true (by omega),Bool.true_and]
  ·simp only[Option.bind_some,Bool.false_eq_true,if_false,if_neg h,show decide (1≤s.length)=false from decide_eq_false (by omega),Bool.false_and]
def Yn (l:List Int) (i:Nat):Bool:=match l[i]? with
 | some x=>(decide (1≤x)&&decide (x≤99))&&(i==0||(match l[i-1]? with
  | some y=>decide (y<x)
  | none=>false))
 | none=>false
def U6 (l:List Int):Bool:=(List.range l.length).all (Yn l)&&decide (l.length≤24)
def Jb:Nat→Form→Bool
 | 0,_=>false
 | d+1,f=>if f.kind=1 then nameB f.name&&(decide (f.n=0)&&(U6 f.scopes&&decide (f.kids.length=0))) else
   if f.kind=2 then decide (f.name=[])&&((decide (0≤f.n)&&decide (f.n≤999))&&(decide (f.scopes.length=0)&&decide (f.kids.length=0))) else
   if f.kind=3 then decide (f.name=[])&&(decide (f.n=0)&&(decide (f.scopes.length=0)&&f.kids.all (Jb d))) else false
mutual
def cF:Form→Nat
 | ⟨_,_,_,_,kids⟩=>1+jD kids
def jD:List Form→Nat
 | []=>0
 | x::r=>cF x+jD r
end
theorem rE (f:Form):cF f=1+jD f.kids:=by cases f; simp only[cF]
mutual
theorem SX:∀f:Form,cF f≤wF f+1
 | ⟨k,nm,n,sc,kids⟩=>by have:=Xr kids; simp only[cF,wF]; omega
theorem Xr:∀l:List Form,jD l≤pV l+l.length
 | []=>by simp[jD]
 | x::r=>by have:=SX x; have:=Xr r; simp only[jD,pV,List.length_cons]; omega
end
theorem qN:∀{l:List Form} {x:Form},x∈l→cF x≤jD l
 | y::r,x,h=>by
  simp only[jD];rcases List.mem_cons.1 h with rfl | h
  ·omega
  ·have:=qN h; omega
def fZ (f:Form):Bool:=Jb 40 f&&decide (cF f≤400)
mutual
theorem FB:∀f:Form,wF f≤1073741824→okF f
 | ⟨k,nm,n,sc,kids⟩,h=>by simp only[wF] at h; simp only[okF,I9]; exact⟨by omega,by omega,by omega,Xt kids (by omega)⟩
theorem Xt:∀l:List Form,pV l≤1073741824→N9 l
 | [],_=>trivial
 | x::r,h=>by simp only[pV] at h; simp only[N9]; exact⟨FB x (by omega),Xt r (by omega)⟩
end
theorem abG (n:Nat) (l:List Int) (hl:l.length≤I9):qX n l=some (U6 l):=by
 unfold I9 at hl;unfold qX;rw[Xo (p:=Yn l) (no:=false)]
 ·simp only[Nat.zero_add];unfold U6;have a2:decide ((l.length:Int)≤24)=decide (l.length≤24):=by simp only[decide_eq_decide]; omega
  show(if(List.range l.length).all (Yn l)=true then _ else _)=_;rw[a2];cases (List.range l.length).all (Yn l) <;> simp
 ·intro j x hx;simp only[Nat.zero_add];have hj:j<l.length:=(List.getElem?_eq_some_iff.1 hx).1;simp only[Kr,Option.bind_some,Yn,hx];by_cases h1:(decide (1≤x)&&decide (x≤99))=true
  ·simp only[h1,Bool.not_true,Bool.false_eq_true,if_false,Bool.true_and];by_cases h0:(j:Int)>0
   ·have e:aY ((j:Int)-1)=((j-1:Nat):Int):=by rw[ku (by omega) (by omega)]; omega
    have hy:=List.getElem?_eq_getElem (l:=l) (i:=j-1) (by omega);have hj0:(j==0)=false:=by simp; omega
    rw[if_pos h0,e,dP hy,hj0];simp only[Option.bind_some,hy,Bool.false_or];by_cases hlt:l[j-1]<x
    ·simp[hlt]
    ·simp[hlt,show l[j-1]≥x by omega]
   ·have hj0:j=0:=by omega
    subst hj0;simp
  ·have h1':(decide (1≤x)&&decide (x≤99))=false:=by simpa using h1
   simp[h1']
theorem Xu (f:Form) (hf:okF f) (d:Nat) (hd:d≤40) (L:Nat) (hL:L≤400):Ex (fun n=>sQ n f ((41-d:Nat):Int) (L:Int)) (fun r=>(r.1=true↔Jb d f=true∧cF f≤L)∧(r.1=true→r.2=((L-cF f:Nat):Int))):=by
 obtain⟨o1,o2,o3,o4⟩:=(okF_eq f).1 hf;have hc:=rE f;refine .succ ?_;simp only[sQ];have e1:aY ((L:Int)-1)=(L:Int)-1:=ku (by omega) (by omega);rw[e1];by_cases h0:(L:Int)-1<0
 ·simp only[if_pos h0,Option.bind_some,if_true];refine .pure ⟨⟨fun h=>(by cases h),fun h=>(by omega)⟩,fun h=>(by cases h)⟩
 rw[if_neg h0];by_cases hd0:d=0
 ·subst hd0;simp only[show decide (((41-0:Nat):Int)>40)=true from rfl,Option.bind_some,if_true];refine .pure ⟨⟨fun h=>(by cases h),fun h=>(by simp[Jb] at h)⟩,fun h=>(by cases h)⟩
 obtain⟨d,rfl⟩:∃e,d=e+1:=⟨d-1,by omega⟩
 have hdd:decide (((41-(d+1):Nat):Int)>40)=false:=by simp; omega
 simp only[hdd,Option.bind_some,Bool.false_eq_true,if_false,Jb];have kz:decide ((f.kids.length:Int)=0)=decide (f.kids.length=0):=by simp only[decide_eq_decide]; omega
 have sz:decide ((f.scopes.length:Int)=0)=decide (f.scopes.length=0):=by simp only[decide_eq_decide]; omega
 have fin:∀b:Bool,(f.kids.length=0∨b=false)→((b,(L:Int)-1).1=true↔b=true∧cF f≤L)∧((b,(L:Int)-1).1=true→(b,(L:Int)-1).2=((L-cF f:Nat):Int)):=fun b hb=>by
  rcases hb with hb | hb
  ·have hk:f.kids=[]:=List.eq_nil_of_length_eq_zero hb;have hc1:cF f=1:=by rw[hc,hk]; rfl
   exact⟨⟨fun h=>⟨h,by omega⟩,fun h=>h.1⟩,fun _=>by simp only; omega⟩
  ·subst hb;exact⟨⟨fun h=>(by cases h),fun h=>(by cases h.1)⟩,fun h=>(by cases h)⟩
 by_cases k1:f.kind=1
 ·rw[if_pos k1];simp only[if_pos k1];refine Ex.bind (P:=fun b=>b=(nameB f.name&&(decide (f.n=0)&&(U6 f.scopes&&decide (f.kids.length=0))))) ?_ ?_
  ·refine .bv (SV _ o1) ?_;cases hn:nameB f.name with
   | false=>exact .neg (by simp) (.pure (by simp))
   | true=>
    refine .pos rfl ?_;by_cases h2:f.n=0
    ·refine .pos h2 ?_;simp only[abG _ _ o2,Option.bind_some];cases hs:U6 f.scopes with
     | false=>exact .neg (by simp) (.pure (by simp))
     | true=>exact .pos rfl (.pure (by simp[kz,h2]))
    ·exact .neg h2 (.pure (by simp[h2]))
  ·rintro b rfl;refine .pure (fin _ ?_);by_cases hk:f.kids.length=0
   ·exact .inl hk
   ·exact .inr (by simp[hk])
 rw[if_neg k1];simp only[if_neg k1];by_cases k2:f.kind=2
 ·rw[if_pos k2];simp only[if_pos k2];refine Ex.bind (P:=fun b=>b=(decide (f.name=[])&&((decide (0≤f.n)&&decide (f.n≤999))&&(decide (f.scopes.length=0)&&decide (f.kids.length=0))))) ?_ ?_
  ·by_cases h1:f.name=[]
   ·refine .pos h1 ?_;simp only[Kr,Option.bind_some];by_cases h2:(decide (0≤f.n)&&decide (f.n≤999))=true
    ·refine .pos h2 ?_;by_cases h3:f.scopes.length=0
     ·exact .pos (by omega) (.pure (by rw[kz,h2]; simp only[h1,h3,decide_true,Bool.true_and]))
     ·exact .neg (by omega) (.pure (by simp only[h3,decide_false,Bool.false_and,Bool.and_false]))
    ·exact .neg h2 (.pure (by simp only[Bool.not_eq_true] at h2; rw[h2]; simp))
   ·exact .neg h1 (.pure (by simp[h1]))
  ·rintro b rfl;refine .pure (fin _ ?_);by_cases hk:f.kids.length=0
   ·exact .inl hk
   ·exact .inr (by simp[hk])
 rw[if_neg k2];simp only[if_neg k2];by_cases k3:f.kind=3
 ·rw[if_pos k3];simp only[if_pos k3];refine Ex.bind (P:=fun b=>b=!(decide (f.name=[])&&(decide (f.n=0)&&decide (f.scopes.length=0)))) ?_ ?_
  ·by_cases h1:f.name=[]
   ·refine .neg (by simp[h1]) ?_;by_cases h2:f.n=0
    ·refine .neg (by simp[h2]) (.pure ?_);by_cases h3:f.scopes.length=0
     ·have h3':¬(f.scopes.length:Int)>0:=by omega
      rw[decide_eq_false h3',decide_eq_true h1,decide_eq_true h2,decide_eq_true h3]; rfl
     ·have h3':(f.scopes.length:Int)>0:=by omega
      rw[decide_eq_true h3',decide_eq_true h1,decide_eq_true h2,decide_eq_false h3]; rfl
    ·exact .pos h2 (.pure (by simp[h1,h2]))
   ·exact .pos h1 (.pure (by simp[h1]))
  ·rintro b rfl;cases hq:(decide (f.name=[])&&(decide (f.n=0)&&decide (f.scopes.length=0))) with
   | false=>
    refine .pos rfl (.pure ⟨⟨fun h=>(by cases h),fun h=>?_⟩,fun h=>(by cases h)⟩);have:=h.1;simp only[Bool.and_eq_true] at this;rw[this.1,this.2.1,this.2.2.1] at hq; cases hq
   | true=>
    have hq':∀b,(decide (f.name=[])&&(decide (f.n=0)&&(decide (f.scopes.length=0)&&b)))=b:=fun b=>by
     simp only[Bool.and_eq_true] at hq;rw[hq.1,hq.2.1,hq.2.2]; simp
    rw[hq'];refine .neg (by simp) ?_;have e2:aY (((41-(d+1):Nat):Int)+1)=((41-d:Nat):Int):=by rw[ku (by omega) (by omega)]; omega
    rw[e2];refine Ex.bI (P:=fun o=>match o with
     | .inl w=>w.1=false∧¬(f.kids.all (Jb d)=true∧jD f.kids≤L-1)
     | .inr s=>f.kids.all (Jb d)=true∧jD f.kids≤L-1∧s=((L-1-jD f.kids:Nat):Int)) ?_ ?_ ?_
    ·refine Ex.bQ (I:=fun i q s=>∃u:Nat,s=(u:Int)∧u≤400∧(f.kids.all (Jb d)=true∧jD f.kids≤L-1↔q.all (Jb d)=true∧jD q≤u)∧u+jD f.kids=L-1+jD q∧∀x∈q,x∈f.kids) ?_ ?_ ?_
     ·exact⟨L-1,by omega,by omega,Iff.rfl,rfl,fun _ h=>h⟩
     ·rintro i x q s ⟨u,rfl,hu,hiff,hsum,hmem⟩;have hx:=hmem x (List.mem_cons_self);refine Ex.bind (Xu x (Ic.1 o4 x hx) d (by omega) u hu) ?_;rintro ⟨b,s'⟩ ⟨r1,r2⟩;simp only at r1 r2;cases b with
      | false=>
       refine .pos rfl (.fo ⟨rfl,fun h=>?_⟩);have h':=hiff.1 h;simp only[List.all_cons,Bool.and_eq_true,jD] at h';have:=r1.2 ⟨h'.1.1,by omega⟩;cases this
      | true=>
       obtain⟨q1,q2⟩:=r1.1 rfl;refine .neg (by simp) (.fg ⟨u-cF x,r2 rfl,by omega,?_,by simp only[jD] at hsum; omega,fun y hy=>hmem y (List.mem_cons_of_mem _ hy)⟩);rw[hiff];simp only[List.all_cons,Bool.and_eq_true,jD,q1,true_and];constructor <;> intro h <;> exact⟨h.1,by omega⟩
     ·rintro s ⟨u,rfl,hu,hiff,hsum,_⟩;have h:=hiff.2 ⟨rfl,by simp[jD]⟩;simp only[jD] at hsum;exact⟨h.1,h.2,by omega⟩
    ·rintro ⟨b,s⟩ ⟨h1,h2⟩;simp only at h1;subst h1;refine⟨⟨fun h=>(by cases h),fun h=>absurd ⟨h.1,by omega⟩ h2⟩,fun h=>(by cases h)⟩
    ·rintro s ⟨h1,h2,h3⟩;exact .pure ⟨⟨fun _=>⟨h1,by omega⟩,fun _=>rfl⟩,fun _=>by simp only; omega⟩
 ·rw[if_neg k3];simp only[if_neg k3];exact .pure ⟨⟨fun h=>(by cases h),fun h=>(by cases h.1)⟩,fun h=>(by cases h)⟩
termination_by SizeOf.sizeOf f
decreasing_by exact jH hx
theorem Md (f:Form) (hf:okF f):gG (fun n=>iZ n f) (fZ f):=by
 refine Ex.CQ ?_;unfold iZ;refine Ex.bind (Xu f hf 40 (by omega) 400 (by omega)) ?_;rintro ⟨b,s⟩ ⟨r1,_⟩;refine .pure ?_;simp only at r1 ⊢;unfold fZ;rw[Bool.eq_iff_iff,r1];simp
theorem Me (l:List Int) (hl:l.length≤I9):gG (fun n=>kR n l) (U6 l):=by
 unfold I9 at hl;unfold kR;have hb:U6 l=if(List.range (min l.length 25)).all (Yn l)=true then decide (l.length≤24) else false:=by
  unfold U6;by_cases h:l.length≤24
  ·rw[Nat.min_eq_left (by omega)];cases (List.range l.length).all (Yn l) <;> simp
  ·simp[h]
 rw[hb];have step:∀i,i<min l.length 25→(Option.bind ((if(i:Int)<(l.length:Int) then some (decide ((i:Int)≤24)) else some false):Option (Bool)) (fun(o3:Bool)=>(if o3=true then Option.bind ((gQ l (i:Int)).bind fun e7=>(if e7<1 then some true else(if e7>99 then some true else(if(i:Int)>0 then(gQ l (aY ((i:Int)-1))).bind fun e11=>some (decide (e7≤e11)) else some false))):Option (Bool)) (fun(o5:Bool)=>(if o5=true then some (Sum.inl false) else some (Sum.inr (aY ((i:Int)+1))))) else some (Sum.inl (decide ((l.length:Int)≤24))))):Option (Bool⊕Int))=if Yn l i=true then some (.inr ((i+1:Nat):Int)) else some (.inl false):=fun i hi=>by
  have hi':i<l.length:=by omega
  have hy:=List.getElem?_eq_getElem hi';rw[if_pos (by omega),decide_eq_true (by omega:(i:Int)≤24)];simp only[Option.bind_some,if_true,dP hy,fV (i:=i) (by omega),Yn,hy];by_cases h1:l[i]<1
  ·rw[if_pos h1]; simp[show ¬1≤l[i] by omega]
  rw[if_neg h1];by_cases h2:l[i]>99
  ·rw[if_pos h2]; simp[show ¬l[i]≤99 by omega]
  rw[if_neg h2];by_cases h0:(i:Int)>0
  ·have e:aY ((i:Int)-1)=((i-1:Nat):Int):=by rw[ku (by omega) (by omega)]; omega
   have hz:=List.getElem?_eq_getElem (l:=l) (i:=i-1) (by omega);have hi0:(i==0)=false:=by simp; omega
   rw[if_pos h0,e,dP hz,hi0];simp only[Option.bind_some,hz,Bool.false_or];by_cases hlt:l[i-1]<l[i]
   ·simp[hlt,show 1≤l[i] by omega,show l[i]≤99 by omega]
   ·simp[hlt,show l[i]≤l[i-1] by omega]
  ·have hi0:(i==0)=true:=by simp; omega
   rw[if_neg h0,hi0];simp[show 1≤l[i] by omega,show l[i]≤99 by omega]
 refine gG.scan (L:=min l.length 25) (p:=Yn l) (fun i hi hp=>.const ?_) (fun i hi hp=>.const ?_) (.const ?_)
 ·rw[step i hi,if_pos hp]
 ·rw[step i hi,if_neg (by simp[hp])]
 ·have e:((if((min l.length 25:Nat):Int)<(l.length:Int) then some (decide (((min l.length 25:Nat):Int)≤24)) else some false):Option Bool)=some false:=by
   by_cases h:((min l.length 25:Nat):Int)<(l.length:Int)
   ·rw[if_pos h]; congr 1; simp; omega
   ·rw[if_neg h]
  have a1:decide ((l.length:Int)≤24)=decide (l.length≤24):=by simp only[decide_eq_decide]; omega
  rw[e,a1]; rfl
theorem Ex.allI {α ω:Type} {m:Nat→α→Option Bool} {p:α→Bool} {no:ω} {xs:List α} {f:Nat→Unit→Option ω} {Q:ω→Prop} (h:∀x∈xs,gG (fun n=>m n x) (p x)) (hy:xs.all p=true→Ex (fun n=>f n ()) Q) (hn:xs.all p=false→Q no) :
  Ex (fun n=>Mx.bI (Mx.bQ (fun(_:Unit) (_:Nat) (x:α)=>((m n x).bind fun k=>(if(!k)=true then some (Sum.inl no) else some (Sum.inr ())):Option (ω⊕Unit))) 0 xs ()) (f n)) Q:=by
 refine Ex.bI (P:=fun o=>match o with
  | .inl w=>w=no∧xs.all p=false
  | .inr _=>xs.all p=true) ?_ ?_ ?_
 ·refine Ex.bQ (I:=fun i q s=>(∀x∈q,x∈xs)∧xs.all p=q.all p) ⟨fun _ h=>h,rfl⟩ ?_ ?_
  ·rintro i x q s ⟨h1,h2⟩;refine .bv (h x (h1 x (List.mem_cons_self))) ?_;cases hp:p x with
   | true=>exact .neg (by simp) (.fg ⟨fun y hy=>h1 y (List.mem_cons_of_mem _ hy),by rw[h2,List.all_cons,hp,Bool.true_and]⟩)
   | false=>exact .pos rfl (.fo ⟨rfl,by rw[h2,List.all_cons,hp,Bool.false_and]⟩)
  ·rintro s ⟨_,h2⟩;exact h2
 ·rintro w ⟨rfl,h⟩; exact hn h
 ·rintro ⟨⟩ h; exact hy h
theorem SY (f:Form) (hf:okF f) (d:Nat) (hd:d≤40):gG (fun n=>xX n f (d:Int)) (Jb d f):=by
 obtain⟨o1,o2,o3,o4⟩:=(okF_eq f).1 hf;refine .succ ?_;simp only[xX];by_cases hd0:d=0
 ·subst hd0;exact .pos rfl (.pure _)
 obtain⟨d,rfl⟩:∃e,d=e+1:=⟨d-1,by omega⟩
 refine .neg (by omega) ?_;have kz:decide ((f.kids.length:Int)=0)=decide (f.kids.length=0):=by simp only[decide_eq_decide]; omega
 simp only[Jb];refine Ex.CQ ?_;by_cases k1:f.kind=1
 ·rw[if_pos k1];simp only[if_pos k1];refine Ex.bind (P:=fun b=>b=(nameB f.name&&(decide (f.n=0)&&(U6 f.scopes&&decide (f.kids.length=0))))) ?_ (fun b hb=>.pure hb);refine .bv (Gq _ o1) ?_;cases hn:nameB f.name with
  | false=>exact .neg (by simp) (.pure (by simp))
  | true=>
   refine .pos rfl ?_;by_cases h2:f.n=0
   ·refine .pos h2 (.bv (Me _ o2) ?_);cases hs:U6 f.scopes with
    | false=>exact .neg (by simp) (.pure (by simp))
    | true=>exact .pos rfl (.pure (by simp[kz,h2]))
   ·exact .neg h2 (.pure (by simp[h2]))
 rw[if_neg k1];simp only[if_neg k1];by_cases k2:f.kind=2
 ·rw[if_pos k2];simp only[if_pos k2];refine Ex.bind (P:=fun b=>b=(decide (f.name=[])&&((decide (0≤f.n)&&decide (f.n≤999))&&(decide (f.scopes.length=0)&&decide (f.kids.length=0))))) ?_ (fun b hb=>.pure hb);by_cases h1:f.name=[]
  ·refine .pos h1 ?_;by_cases h2:f.n≥0
   ·refine .pos h2 ?_;by_cases h4:f.n≤999
    ·refine .pos h4 ?_;by_cases h3:f.scopes.length=0
     ·exact .pos (by omega) (.pure (by rw[kz,decide_eq_true h1,decide_eq_true (show 0≤f.n from h2),decide_eq_true h4,decide_eq_true h3]; simp))
     ·exact .neg (by omega) (.pure (by rw[decide_eq_false h3]; simp))
    ·exact .neg h4 (.pure (by rw[decide_eq_false h4]; simp))
   ·exact .neg h2 (.pure (by rw[decide_eq_false (show ¬0≤f.n from h2)]; simp))
  ·exact .neg h1 (.pure (by simp[h1]))
 rw[if_neg k2];simp only[if_neg k2];by_cases k3:f.kind=3
 ·simp only[k3,not_true_eq_false,if_false,if_true];refine Ex.bind (P:=fun b=>b=!(decide (f.name=[])&&(decide (f.n=0)&&decide (f.scopes.length=0)))) ?_ ?_
  ·by_cases h1:f.name=[]
   ·refine .neg (by simp[h1]) ?_;by_cases h2:f.n=0
    ·refine .neg (by simp[h2]) (.pure ?_);by_cases h3:f.scopes.length=0
     ·have h3':¬¬(f.scopes.length:Int)=0:=by omega
      rw[decide_eq_false h3',decide_eq_true h1,decide_eq_true h2,decide_eq_true h3]; rfl
     ·have h3':¬(f.scopes.length:Int)=0:=by omega
      rw[decide_eq_true h3',decide_eq_true h1,decide_eq_true h2,decide_eq_false h3]; rfl
    ·exact .pos h2 (.pure (by simp[h1,h2]))
   ·exact .pos h1 (.pure (by simp[h1]))
  ·rintro b rfl;have hq':(decide (f.name=[])&&(decide (f.n=0)&&(decide (f.scopes.length=0)&&f.kids.all (Jb d))))=((decide (f.name=[])&&(decide (f.n=0)&&decide (f.scopes.length=0)))&&f.kids.all (Jb d)):=by simp only[Bool.and_assoc]
   rw[hq'];cases (decide (f.name=[])&&(decide (f.n=0)&&decide (f.scopes.length=0))) with
   | false=>exact .pos rfl (.pure rfl)
   | true=>
    refine .neg (by simp) ?_;have e2:aY (((d+1:Nat):Int)-1)=(d:Int):=by rw[ku (by omega) (by omega)]; omega
    rw[e2];exact Ex.allI (m:=fun n x=>xX n x (d:Int)) (p:=Jb d) (fun x hx=>SY x (Ic.1 o4 x hx) d (by omega)) (fun h=>.pure (by rw[h]; rfl)) (fun h=>by rw[h]; rfl)
 ·simp only[if_neg k3];refine Ex.bind (P:=fun b=>b=true) (.pos k3 (.pure rfl)) ?_;rintro b rfl;exact .pos rfl (.pure rfl)
termination_by SizeOf.sizeOf f
decreasing_by exact jH hx
theorem Ex.adK {α:Type} {m:Nat→α→Option Int} {c:α→Nat} {cs:List α→Nat} (hn:cs []=0) (hc:∀x r,cs (x::r)=c x+cs r) {xs:List α} {b:Nat} (hb:b+cs xs≤4611686018427387904) (h:∀x∈xs,gG (fun n=>m n x) (c x:Int)) :
  gG (fun n=>Mx.dX (fun(s:Int) (_:Nat) (x:α)=>(m n x).bind fun k=>some (aY (s+k))) 0 xs (b:Int)) ((b+cs xs:Nat):Int):=by
 refine Ex.CQ ?_;refine Ex.dX (I:=fun i q s=>∃u:Nat,s=(u:Int)∧u+cs q=b+cs xs∧∀x∈q,x∈xs) ⟨b,rfl,rfl,fun _ h=>h⟩ ?_ ?_
 ·rintro i x q s ⟨u,rfl,h1,h2⟩;refine .bv (h x (h2 x (List.mem_cons_self))) (.pure ⟨u+c x,?_,by rw[hc] at h1; omega,fun y hy=>h2 y (List.mem_cons_of_mem _ hy)⟩);rw[hc] at h1;rw[ku (by omega) (by omega)]; omega
 ·rintro s ⟨u,rfl,h1,_⟩;rw[hn] at h1;rw[← h1]; rfl
theorem MB (f:Form) (hw:cF f≤4611686018427387904):gG (fun n=>kQ n f) (cF f:Int):=by
 have hc:=rE f;refine .succ ?_;simp only[kQ];rw[hc];refine .bind (a:=((1+jD f.kids:Nat):Int)) ?_ (.pure _);exact Ex.adK (b:=1) (c:=cF) (cs:=jD) rfl (fun _ _=>rfl) (by omega) (fun x hx=>MB x (by have:=qN hx; omega))
termination_by SizeOf.sizeOf f
decreasing_by exact jH hx
theorem Gs (f:Form) (hf:okF f) (hw:cF f≤4611686018427387904):gG (fun n=>bV n f) (fZ f):=by
 refine Ex.CQ ?_;unfold bV fZ;refine Ex.bind (P:=fun b=>b=(Jb 40 f&&decide (cF f≤400))) ?_ (fun b hb=>.pure hb);refine .bv (SY f hf 40 (by omega)) ?_;cases Jb 40 f with
 | false=>exact .neg (by simp) (.pure rfl)
 | true=>
  refine .pos rfl (.bv (MB f hw) (.pure ?_));rw[Bool.true_and]; simp only[decide_eq_decide]; omega
def all2 {α β:Type} (p:α→β→Bool):List α→List β→Bool
 | [],[]=>true
 | x::r,y::s=>p x y&&all2 p r s
 | _,_=>false
theorem Ex.eqI {α:Type} {m:Nat→α→α→Option Bool} {p:α→α→Bool} {xs ys:List α} (hl:xs.length=ys.length) (h:∀x∈xs,∀y,gG (fun n=>m n x y) (p x y)) :
  gG (fun n=>Mx.bI (Mx.bQ (fun(_:Unit) (i:Nat) (x:α)=>((gQ ys (i:Int)).bind fun e=>(m n x e).bind fun k=>(if(!k)=true then some (Sum.inl false) else some (Sum.inr ())):Option (Bool⊕Unit))) 0 xs ()) (fun _=>some true)) (all2 p xs ys):=by
 refine Ex.CQ ?_;refine Ex.bI (P:=fun o=>match o with
  | .inl w=>w=false∧all2 p xs ys=false
  | .inr _=>all2 p xs ys=true) ?_ ?_ ?_
 ·refine Ex.bQ (I:=fun i q s=>(∀x∈q,x∈xs)∧∃z,ys.drop i=z∧q.length=z.length∧all2 p xs ys=all2 p q z) ⟨fun _ h=>h,ys,rfl,hl,rfl⟩ ?_ ?_
  ·rintro i x q s ⟨h1,z,hz,h3,h2⟩;cases z with
   | nil=>simp at h3
   | cons y z=>
    obtain⟨g1,g2,_,_⟩:=jk hz;refine .bp y (dP g1) (.bv (h x (h1 x (List.mem_cons_self)) y) ?_);cases hp:p x y with
    | true=>exact .neg (by simp) (.fg ⟨fun w hw=>h1 w (List.mem_cons_of_mem _ hw),z,g2,by simpa using h3,by rw[h2]; simp only[all2,hp,Bool.true_and]⟩)
    | false=>exact .pos rfl (.fo ⟨rfl,by rw[h2]; simp only[all2,hp,Bool.false_and]⟩)
  ·rintro s ⟨_,z,hz,h3,h2⟩;have:z=[]:=List.eq_nil_of_length_eq_zero (by simpa using h3.symm);subst this;exact h2
 ·rintro w ⟨rfl,h⟩; exact h.symm
 ·rintro ⟨⟩ h; exact .pure h.symm
theorem S9 {α:Type} [DecidableEq α]:∀{xs ys:List α},all2 (fun x y=>decide (x=y)) xs ys=decide (xs=ys)
 | [],[]=>rfl
 | x::r,y::s=>by
  simp only[all2,S9 (xs:=r) (ys:=s)];rw[Bool.eq_iff_iff]; simp
 | [],_::_=>by simp[all2]
 | _::_,[]=>by simp[all2]
theorem Tc {a b:List Int}:gG (fun(_:Nat)=>(if ¬(a.length:Int)=(b.length:Int) then some false else bI (bQ (fun(s5:Unit) (i4:Nat) (x7:Int)=>((gQ b (i4:Int)).bind fun e12=>(if ¬x7=e12 then some (Sum.inl false) else some (Sum.inr ())):Option (Bool⊕Unit))) 0 a ()) (fun(s5:Unit)=>some true))) (decide (a=b)):=by
 by_cases h:a.length=b.length
 ·refine .neg (by omega) ?_;have:=Ex.eqI (m:=fun _ (x y:Int)=>some (decide (x=y))) (p:=fun x y=>decide (x=y)) h (fun x _ y=>.pure _);rw[S9] at this
  simpa only[Option.bind_some,Bool.not_eq_true',decide_eq_false_iff_not] using this
 ·refine .pos (by omega) ?_;have:¬a=b:=fun e=>h (by rw[e]);simp only[this,decide_false]; exact .pure _
mutual
def iI:Form→Form→Bool
 | ⟨k,nm,n,sc,kids⟩,b=>decide (k=b.kind)&&(decide (nm=b.name)&&(decide (n=b.n)&&(decide (sc=b.scopes)&&jI kids b.kids)))
def jI:List Form→List Form→Bool
 | [],[]=>true
 | x::r,y::s=>iI x y&&jI r s
 | _,_=>false
end
mutual
def zY:Core→Core→Bool
 | ⟨k,id,nm,n,ids,dt,kids⟩,b=>decide (k=b.kind)&&(decide (id=b.id)&&(decide (nm=b.name)&&(decide (n=b.n)&&(decide (ids=b.ids)&&(iI dt b.data&&kU kids b.kids)))))
def kU:List Core→List Core→Bool
 | [],[]=>true
 | x::r,y::s=>zY x y&&kU r s
 | _,_=>false
end
mutual
theorem Ez:∀{a b:Form},iI a b=true↔a=b
 | ⟨k,nm,n,sc,kids⟩,⟨k',nm',n',sc',adL⟩=>by
  simp only[iI,Bool.and_eq_true,decide_eq_true_eq,Cm,Form.mk.injEq]
theorem Cm:∀{a b:List Form},jI a b=true↔a=b
 | [],[]=>by simp[jI]
 | x::r,y::s=>by simp only[jI,Bool.and_eq_true,Ez,Cm,List.cons.injEq]
 | [],_::_=>by simp[jI]
 | _::_,[]=>by simp[jI]
end
mutual
theorem UL:∀{a b:Core},zY a b=true↔a=b
 | ⟨k,id,nm,n,ids,dt,kids⟩,⟨k',id',nm',n',ahy,dt',adL⟩=>by
  simp only[zY,Bool.and_eq_true,decide_eq_true_eq,yB,Ez,Core.mk.injEq]
theorem yB:∀{a b:List Core},kU a b=true↔a=b
 | [],[]=>by simp[kU]
 | x::r,y::s=>by simp only[kU,Bool.and_eq_true,UL,yB,List.cons.injEq]
 | [],_::_=>by simp[kU]
 | _::_,[]=>by simp[kU]
end
theorem CB:∀{a b:List Form},jI a b=all2 iI a b
 | [],[]=>by simp[jI,all2]
 | x::r,y::s=>by simp only[jI,all2,CB (a:=r)]
 | [],_::_=>by simp[jI,all2]
 | _::_,[]=>by simp[jI,all2]
theorem IJ:∀{a b:List Core},kU a b=all2 zY a b
 | [],[]=>by simp[kU,all2]
 | x::r,y::s=>by simp only[kU,all2,IJ (a:=r)]
 | [],_::_=>by simp[kU,all2]
 | _::_,[]=>by simp[kU,all2]
theorem O4 (a b:Form):iI a b=(decide (a.kind=b.kind)&&(decide (a.name=b.name)&&(decide (a.n=b.n)&&(decide (a.scopes=b.scopes)&&jI a.kids b.kids)))):=by cases a; simp only[iI]
theorem O5 (a b:Core):zY a b=(decide (a.kind=b.kind)&&(decide (a.id=b.id)&&(decide (a.name=b.name)&&(decide (a.n=b.n)&&(decide (a.ids=b.ids)&&(iI a.data b.data&&kU a.kids b.kids)))))):=by cases a; simp only[zY]
theorem IK {a b:List Form} (h:¬a.length=b.length):jI a b=false:=by
 cases hs:jI a b with
 | false=>rfl
 | true=>exact absurd (by rw[Cm.1 hs]) h
theorem Rf {a b:List Core} (h:¬a.length=b.length):kU a b=false:=by
 cases hs:kU a b with
 | false=>rfl
 | true=>exact absurd (by rw[yB.1 hs]) h
theorem O6 (a b:List Int):gG (fun n=>slices_Equal_int n a b) (decide (a=b)):=Tc
theorem Td (a b:Form):gG (fun n=>jA n a b) (iI a b):=by
 refine .succ ?_;simp only[jA];rw[O4];refine Ex.CQ ?_;refine Ex.bind (P:=fun o=>o=(decide (a.kind=b.kind)&&(decide (a.name=b.name)&&(decide (a.n=b.n)&&(decide (a.scopes=b.scopes)&&jI a.kids b.kids))))) ?_ (fun _ h=>.pure h);by_cases h1:a.kind=b.kind
 ·refine .pos h1 ?_;by_cases h2:a.name=b.name
  ·refine .pos h2 ?_;by_cases h3:a.n=b.n
   ·refine .pos h3 (.bv (O6 _ _) ?_);rw[decide_eq_true h1,decide_eq_true h2,decide_eq_true h3];simp only[Bool.true_and];by_cases h4:a.scopes=b.scopes
    ·rw[decide_eq_true h4];refine .pos rfl ?_;have hk:gG (fun n=>bD n a.kids b.kids) (jI a.kids b.kids):=by
      refine .succ ?_;simp only[bD];by_cases hl:a.kids.length=b.kids.length
      ·refine .neg (by omega) ?_;rw[CB];exact Ex.eqI (m:=fun n x e=>jA n x e) hl (fun x hx y=>Td x y)
      ·rw[IK hl]; exact .pos (by omega) (.pure _)
     exact .bv hk (.pure rfl)
    ·rw[decide_eq_false h4];exact .neg (by simp) (.pure rfl)
   ·exact .neg h3 (.pure (by rw[decide_eq_false h3]; simp))
  ·exact .neg h2 (.pure (by rw[decide_eq_false h2]; simp))
 ·exact .neg h1 (.pure (by rw[decide_eq_false h1]; rfl))
termination_by SizeOf.sizeOf a
decreasing_by exact jH hx
theorem Tf (a b:Core):gG (fun n=>jB n a b) (zY a b):=by
 refine .succ ?_;simp only[jB];rw[O5];refine Ex.CQ ?_;refine Ex.bind (P:=fun o=>o=(decide (a.kind=b.kind)&&(decide (a.id=b.id)&&(decide (a.name=b.name)&&(decide (a.n=b.n)&&(decide (a.ids=b.ids)&&(iI a.data b.data&&kU a.kids b.kids))))))) ?_ (fun _ h=>.pure h);by_cases h1:a.kind=b.kind
 ·refine .pos h1 ?_;by_cases h0:a.id=b.id
  ·refine .pos h0 ?_;by_cases h2:a.name=b.name
   ·refine .pos h2 ?_;by_cases h3:a.n=b.n
    ·refine .pos h3 (.bv (O6 _ _) ?_);rw[decide_eq_true h1,decide_eq_true h2,decide_eq_true h3,decide_eq_true h0];simp only[Bool.true_and];by_cases h4:a.ids=b.ids
     ·rw[decide_eq_true h4];refine .pos rfl (.bv (Td _ _) ?_);cases hd:iI a.data b.data with
      | false=>exact .neg (by simp) (.pure rfl)
      | true=>
       refine .pos rfl ?_;have hk:gG (fun n=>bG n a.kids b.kids) (kU a.kids b.kids):=by
        refine .succ ?_;simp only[bG];by_cases hl:a.kids.length=b.kids.length
        ·refine .neg (by omega) ?_;rw[IJ];exact Ex.eqI (m:=fun n x e=>jB n x e) hl (fun x hx y=>Tf x y)
        ·rw[Rf hl]; exact .pos (by omega) (.pure _)
       exact .bv hk (.pure rfl)
     ·rw[decide_eq_false h4];exact .neg (by simp) (.pure rfl)
    ·exact .neg h3 (.pure (by rw[decide_eq_false h3]; simp))
   ·exact .neg h2 (.pure (by rw[decide_eq_false h2]; simp))
  ·exact .neg h0 (.pure (by rw[decide_eq_false h0]; simp))
 ·exact .neg h1 (.pure (by rw[decide_eq_false h1]; rfl))
termination_by SizeOf.sizeOf a
decreasing_by exact zy hx
theorem IQ (a b:List Int):gG (fun n=>sV n a b) (decide (a=b)):=Tc
theorem yC (a b:Form):gG (fun n=>eX n a b) (iI a b):=by
 refine .succ ?_;simp only[eX];rw[O4];refine Ex.CQ ?_;refine Ex.bind (P:=fun o=>o=!(decide (a.kind=b.kind)&&(decide (a.name=b.name)&&(decide (a.n=b.n)&&(decide (a.scopes=b.scopes)&&decide (a.kids.length=b.kids.length)))))) ?_ ?_
 ·by_cases h1:a.kind=b.kind
  ·refine .neg (fun h=>h h1) ?_;by_cases h2:a.name=b.name
   ·refine .neg (fun h=>h h2) ?_;by_cases h3:a.n=b.n
    ·refine .neg (fun h=>h h3) (.bv (IQ _ _) ?_);rw[decide_eq_true h1,decide_eq_true h2,decide_eq_true h3];simp only[Bool.true_and];by_cases h4:a.scopes=b.scopes
     ·rw[decide_eq_true h4];refine .neg (by simp) (.pure ?_);by_cases h5:a.kids.length=b.kids.length
      ·rw[decide_eq_true h5,decide_eq_false (show ¬¬(a.kids.length:Int)=(b.kids.length:Int) by omega)]; rfl
      ·rw[decide_eq_false h5,decide_eq_true (show ¬(a.kids.length:Int)=(b.kids.length:Int) by omega)]; rfl
     ·rw[decide_eq_false h4];exact .pos rfl (.pure rfl)
    ·exact .pos h3 (.pure (by rw[decide_eq_false h3]; simp))
   ·exact .pos h2 (.pure (by rw[decide_eq_false h2]; simp))
  ·exact .pos h1 (.pure (by rw[decide_eq_false h1]; rfl))
 ·rintro o rfl;by_cases h5:a.kids.length=b.kids.length
  ·rw[decide_eq_true h5];cases e1:decide (a.kind=b.kind) with
   | false=>exact .pos rfl (.pure rfl)
   | true=>
    cases e2:decide (a.name=b.name) with
    | false=>exact .pos rfl (.pure rfl)
    | true=>
     cases e3:decide (a.n=b.n) with
     | false=>exact .pos rfl (.pure rfl)
     | true=>
      cases e4:decide (a.scopes=b.scopes) with
      | false=>exact .pos rfl (.pure rfl)
      | true=>
       refine .neg (by simp) ?_;simp only[Bool.true_and];rw[CB];exact(Ex.eqI (m:=fun n x e=>eX n x e) h5 (fun x hx y=>yC x y)).ex
  ·rw[decide_eq_false h5,IK h5];refine .pos (by simp) (.pure (by simp))
termination_by SizeOf.sizeOf a
decreasing_by exact jH hx
def zF:Form:=⟨0,[],0,[],[]⟩
mutual
def xA:Form→List Int
 | ⟨_,_,_,sc,kids⟩=>sc++uK kids
def uK:List Form→List Int
 | []=>[]
 | x::r=>xA x++uK r
end
mutual
def MC:Form→Form
 | ⟨k,nm,n,_,kids⟩=>⟨k,nm,n,[],IU kids⟩
def IU:List Form→List Form
 | []=>[]
 | x::r=>MC x::IU r
end
def EC (f:Form):Bool:=decide (xA f=[])
theorem Xv (f:Form):xA f=f.scopes++uK f.kids:=by cases f; simp only[xA]
theorem Zq (f:Form):MC f=⟨f.kind,f.name,f.n,[],IU f.kids⟩:=by cases f; simp only[MC]
theorem Kt:∀l:List Form,IU l=l.map MC
 | []=>rfl
 | x::r=>by simp only[IU,List.map_cons,Kt r]
mutual
theorem IV:∀f:Form,(xA f).length≤wF f
 | ⟨k,nm,n,sc,kids⟩=>by have:=Ku kids; simp only[xA,wF,List.length_append]; omega
theorem Ku:∀l:List Form,(uK l).length≤pV l
 | []=>by simp[uK]
 | x::r=>by have:=IV x; have:=Ku r; simp only[uK,pV,List.length_append]; omega
end
mutual
theorem O7:∀f:Form,iI (MC f) f=EC f
 | ⟨k,nm,n,sc,kids⟩=>by
  have ih:=Kv kids;rw[Bool.eq_iff_iff];simp only[MC,iI,EC,xA,ih,decide_true,Bool.true_and,Bool.and_eq_true,decide_eq_true_eq,List.append_eq_nil_iff];exact⟨fun⟨a,b⟩=>⟨a.symm,b⟩,fun⟨a,b⟩=>⟨a.symm,b⟩⟩
theorem Kv:∀l:List Form,jI (IU l) l=decide (uK l=[])
 | []=>rfl
 | x::r=>by
  have ih:=O7 x;have ih2:=Kv r;rw[Bool.eq_iff_iff];simp only[IU,jI,ih,ih2,EC,uK,Bool.and_eq_true,decide_eq_true_eq,List.append_eq_nil_iff]
end
def UM (c:Core):Bool:=
 (if c.kind=1 then decide (1≤c.id)&&decide (c.id≤999) else decide (c.id=0)) &&
 ((if c.kind=2 then nameB c.name else decide (c.name=[])) &&
 ((if c.kind=3 then decide (0≤c.n)&&decide (c.n≤999) else decide (c.n=0)) &&
 ((if c.kind=4 then fZ c.data&&EC c.data else iI c.data zF) &&
 (decide (c.kind=5)||decide (c.ids=[])))))
def F7 (k:Int) (m:Nat):Bool:=if k=1∨k=2∨k=3∨k=4 then decide (m=0) else if k=5 then decide (m=1) else if k=6 then decide (1≤m) else if k=7 then decide (m=3) else false
def MZ:List Int→List Int→Option (List Int)
 | sc,[]=>some sc
 | sc,x::r=>if(1≤x∧x≤999)∧x∉sc then MZ (sc++[x]) r else none
theorem MF:∀{ids sc s:List Int},MZ sc ids=some s→s.length=sc.length+ids.length
 | [],sc,s,h=>by cases h; rfl
 | x::r,sc,s,h=>by
  simp only[MZ] at h;split at h
  ·have:=MF h; simp at this ⊢; omega
  ·cases h
def D5:Nat→List Int→Core→Bool
 | 0,_,_=>false
 | d+1,sc,c=>F7 c.kind c.kids.length&&(UM c&&((!decide (c.kind=1)||decide (c.id∈sc))&&(match MZ sc c.ids with
  | none=>false
  | some s=>c.kids.all (D5 d s))))
mutual
def cC:Core→Nat
 | ⟨_,_,_,_,_,_,kids⟩=>1+D6 kids
def D6:List Core→Nat
 | []=>0
 | x::r=>cC x+D6 r
end
theorem Ti (f:Core):cC f=1+D6 f.kids:=by cases f; simp only[cC]
mutual
theorem O8:∀f:Core,cC f≤wC f+1
 | ⟨k,id,nm,n,ids,dt,kids⟩=>by have:=Xw kids; simp only[cC,wC]; omega
theorem Xw:∀l:List Core,D6 l≤yK l+l.length
 | []=>by simp[D6]
 | x::r=>by have:=O8 x; have:=Xw r; simp only[D6,yK,List.length_cons]; omega
end
theorem Tj:∀{l:List Core} {x:Core},x∈l→cC x≤D6 l
 | y::r,x,h=>by
  simp only[D6];rcases List.mem_cons.1 h with rfl | h
  ·omega
  ·have:=Tj h; omega
def pR (c:Core):Bool:=D5 120 [] c&&decide (cC c≤600)
theorem Tn (n:Nat) (l:List Int) (x:Int):slices_Contains_int n l x=some (decide (x∈l)):=by
 unfold slices_Contains_int slices_Index_int;have main:∀(l:List Int) (i:Nat),∃k:Int,bI (Mx.bQ (fun(_:Unit) (i:Nat) (y:Int)=>((if x=y then some (Sum.inl (i:Int)) else some (Sum.inr ())):Option (Int⊕Unit))) i l ()) (fun _=>some (-1))=some k∧(k≥0↔x∈l):=by
  intro l
  induction l with
  | nil=>intro i; exact⟨-1,rfl,by simp⟩
  | cons y r ih=>
   intro i;by_cases h:x=y
   ·subst h;exact⟨(i:Int),by simp[Mx.bQ,Mx.bI],by simp⟩
   ·obtain⟨k,h1,h2⟩:=ih (i+1);refine⟨k,?_,by rw[h2]; simp[h]⟩;rw[← h1];simp[Mx.bQ,h]
 obtain⟨k,h1,h2⟩:=main l 0;rw[h1,Option.bind_some];congr 1;rw[Bool.eq_iff_iff,decide_eq_true_eq,decide_eq_true_eq]; exact h2
theorem Xx (n:Nat) (l:List Int) (x:Int):fB n l x=some (decide (x∈l)):=Tn n l x
theorem Tq (f:Form) (w:List Int) (hw:w.length+wF f≤1073741824):gG (fun n=>dN n f w) (w++xA f):=by
 have he:=EW f;refine .succ ?_;simp only[dN,qM];refine Ex.CQ ?_;rw[dJ (by omega)];simp only[Option.bind_some];refine Ex.bind (P:=fun s=>s=w++xA f) ?_ (fun s hs=>.pure hs);refine Ex.dX (I:=fun i q s=>s++uK q=w++xA f∧s.length+pV q+q.length≤1073741824∧∀x∈q,x∈f.kids) ⟨by rw[Xv,List.append_assoc],by simp; omega,fun _ h=>h⟩ ?_ ?_
 ·rintro i x q s ⟨h1,h2,h3⟩;simp only[pV,List.length_cons] at h2;have g4:=h3 x (List.mem_cons_self);refine .bv (Tq x s (by omega)) (.pure ⟨?_,?_,fun y hy=>h3 y (List.mem_cons_of_mem _ hy)⟩)
  ·rw[← h1]; simp only[uK,List.append_assoc]
  ·have:=IV x;simp only[List.length_append]; omega
 ·rintro s ⟨h1,_,_⟩
  simpa [uK] using h1
termination_by SizeOf.sizeOf f
decreasing_by exact jH g4
theorem O9 {l:List Int}:(Lib.compact l).length=0↔l=[]:=by
 constructor
 ·intro h;cases l with
  | nil=>rfl
  | cons x r=>
   exfalso;have h:Lib.compact (x::r)=[]:=List.eq_nil_of_length_eq_zero h;unfold Lib.compact Lib.compactUpTo at h;rw[List.map_eq_nil_iff,List.filter_eq_nil_iff] at h;exact h 0 (by simp) (by simp[Lib.keeps])
 ·rintro rfl; rfl
theorem Zr (f:Form) (hw:wF f≤1073741824) (hv:fZ f=true):Ex (fun n=>qY n f) (fun r=>decide ((r.length:Int)>0)=!EC f):=by
 unfold qY;refine .bv (Md f (FB f hw)) ?_;rw[hv];refine .neg (by simp) (.bv (Tq f [] (by simp; omega)) ?_);have hl:=IV f;rw[List.nil_append];unfold jZ kP;refine .bp _ (if_pos (by omega)) (.bp () (Y7 (by simp)) (.bp _ rfl (.pure ?_)));unfold EC;generalize hs:(xA f).mergeSort (fun x y=>decide (x≤y))=s;have hsl:s.length=(xA f).length:=by rw[← hs]; simp
 by_cases h:xA f=[]
 ·have:s=[]:=List.eq_nil_of_length_eq_zero (by rw[hsl,h]; rfl);rw[this,h]; rfl
 ·have h1:s≠[]:=fun e=>h (List.eq_nil_of_length_eq_zero (by rw[← hsl,e]; rfl));have h2:(Lib.compact s).length≠0:=fun e=>h1 (O9.1 e);rw[decide_eq_true (by omega),decide_eq_false h]; rfl
theorem abH (sc ids:List Int) (hl:sc.length+ids.length≤1073741824) {ω:Type} (no:ω) (N:Nat):Mx.bQ (fun(Ju:List Int) (i40:Nat) (x43:Int)=>(Option.bind ((iR N x43 1 999).bind fun Zd=>(if(!Zd)=true then some true else(fB N Ju x43).bind fun Z5=>some Z5):Option (Bool)) (fun(Z7:Bool)=>(if Z7=true then some (Sum.inl no) else(jy 8 Ju [x43]).bind fun z50=>some (Sum.inr z50))):Option (ω⊕(List Int)))) 0 ids sc=some (match MZ sc ids with
  | none=>.inl no
  | some s=>.inr s):=by
 have main:∀(ids sc:List Int) (i:Nat),sc.length+ids.length≤1073741824→Mx.bQ (fun(Ju:List Int) (i40:Nat) (x43:Int)=>(Option.bind ((iR N x43 1 999).bind fun Zd=>(if(!Zd)=true then some true else(fB N Ju x43).bind fun Z5=>some Z5):Option (Bool)) (fun(Z7:Bool)=>(if Z7=true then some (Sum.inl no) else(jy 8 Ju [x43]).bind fun z50=>some (Sum.inr z50))):Option (ω⊕(List Int)))) i ids sc=some (match MZ sc ids with
  | none=>.inl no
  | some s=>.inr s):=by
  simp only[Kr,Xx,Option.bind_some];intro ids
  induction ids with
  | nil=>intro sc i _; rfl
  | cons x r ih=>
   intro sc i hb;simp only[List.length_cons] at hb;simp only[Mx.bQ,MZ];by_cases h1:1≤x∧x≤999
   ·simp only[h1.1,h1.2,decide_true,Bool.and_self,Bool.not_true,Bool.false_eq_true,if_false,Option.bind_some,true_and,and_self];by_cases h2:x∈sc
    ·simp only[h2,decide_true,if_true,Option.bind_some,not_true_eq_false,if_false]
    ·simp only[h2,decide_false,Bool.false_eq_true,if_false,not_false_eq_true,if_true];rw[dJ (by simp; omega)];simp only[Option.bind_some];exact ih (sc++[x]) (i+1) (by simp; omega)
   ·have h1':(decide (1≤x)&&decide (x≤999))=false:=by
     rw[Bool.eq_false_iff]; simpa using h1
    simp only[h1',Bool.not_false,if_true,Option.bind_some,h1,false_and,if_false]
 exact main ids sc 0 hl
def UN (c:Core):Bool:=
 (if c.kind=1 then decide (1≤c.id)&&decide (c.id≤999) else decide (c.id=0)) &&
 ((if c.kind=2 then nameB c.name else decide (c.name=[])) &&
 ((if c.kind=3 then decide (0≤c.n)&&decide (c.n≤999) else decide (c.n=0)) &&
 (if c.kind=4 then fZ c.data&&EC c.data else iI c.data zF)))
theorem abI (c:Core):UM c=(UN c&&(decide (c.kind=5)||decide (c.ids=[]))):=by simp only[UM,UN,Bool.and_assoc]
theorem DR {c:Core} (h:c.kind≠5) (d:Nat) (sc:List Int):D5 (d+1) sc c=(F7 c.kind c.kids.length&&(UN c&&((!decide (c.kind=1)||decide (c.id∈sc))&&(decide (c.ids=[])&&c.kids.all (D5 d sc))))):=by
 simp only[D5,abI,decide_eq_false h,Bool.false_or];by_cases hi:c.ids=[]
 ·rw[hi];simp only[MZ,decide_true,Bool.and_true,Bool.true_and]
 ·rw[decide_eq_false hi]; simp
theorem bare_eq (c:Core) (a:Int) (b:List UInt8) (e:Int) (g:List Int) (dt:Form):zY c ⟨c.kind,a,b,e,g,dt,c.kids⟩=(decide (c.id=a)&&(decide (c.name=b)&&(decide (c.n=e)&&(decide (c.ids=g)&&iI c.data dt)))):=by
 rw[O5];simp only[decide_true,Bool.true_and,yB.2,Bool.and_true]
theorem kd1 (m:Nat):F7 1 m=decide (m=0):=by simp[F7]
theorem kd2 (m:Nat):F7 2 m=decide (m=0):=by simp[F7]
theorem kd3 (m:Nat):F7 3 m=decide (m=0):=by simp[F7]
theorem kd4 (m:Nat):F7 4 m=decide (m=0):=by simp[F7]
theorem kd5 (m:Nat):F7 5 m=decide (m=1):=by simp[F7]
theorem kd6 (m:Nat):F7 6 m=decide (1≤m):=by simp[F7]
theorem kd7 (m:Nat):F7 7 m=decide (m=3):=by simp[F7]
theorem MG (c:Core) (k:Nat):decide ((c.kids.length:Int)=(k:Int))=decide (c.kids.length=k):=by simp only[decide_eq_decide]; omega
theorem Xy (c:Core) (d:Nat) (hd:d≤120) (sc:List Int) (hw:sc.length+wC c≤1073741824) (L:Nat) (hL:L≤600):Ex (fun n=>sS n c sc ((121-d:Nat):Int) (L:Int)) (fun r=>(r.1=true↔D5 d sc c=true∧cC c≤L)∧(r.1=true→r.2=((L-cC c:Nat):Int))):=by
 have he:=Oa c;have hc:=Ti c;refine .succ ?_;simp only[sS];have e1:aY ((L:Int)-1)=(L:Int)-1:=ku (by omega) (by omega);rw[e1];by_cases h0:(L:Int)-1<0
 ·simp only[if_pos h0,Option.bind_some,if_true];refine .pure ⟨⟨fun h=>(by cases h),fun h=>(by omega)⟩,fun h=>(by cases h)⟩
 rw[if_neg h0];by_cases hd0:d=0
 ·subst hd0;simp only[show decide (((121-0:Nat):Int)>120)=true from rfl,Option.bind_some,if_true];refine .pure ⟨⟨fun h=>(by cases h),fun h=>(by simp[D5] at h)⟩,fun h=>(by cases h)⟩
 obtain⟨d,rfl⟩:∃e,d=e+1:=⟨d-1,by omega⟩
 have hdd:decide (((121-(d+1):Nat):Int)>120)=false:=by simp; omega
 simp only[hdd,Option.bind_some,Bool.false_eq_true,if_false];have l0:decide ((c.kids.length:Int)=0)=decide (c.kids.length=0):=MG c 0;have l1:decide ((c.kids.length:Int)=1)=decide (c.kids.length=1):=MG c 1;have l3:decide ((c.kids.length:Int)=3)=decide (c.kids.length=3):=MG c 3;refine Ex.bI (P:=fun o=>match o with
  | .inl w=>w=(false,(L:Int)-1)∧D5 (d+1) sc c=false
  | .inr t=>D5 (d+1) sc c=(decide ((c.kids.length:Int)=t.1)&&(zY c ⟨c.kind,t.2.2.1,t.2.2.2.1,t.2.2.2.2.1,t.2.2.2.2.2.1,⟨t.2.2.2.2.2.2.1,t.2.2.2.2.2.2.2.1,t.2.2.2.2.2.2.2.2.1,t.2.2.2.2.2.2.2.2.2.1,t.2.2.2.2.2.2.2.2.2.2⟩,c.kids⟩&&c.kids.all (D5 d t.2.1)))∧t.2.1.length≤sc.length+c.ids.length) ?_ ?_ ?_
 ·by_cases k1:c.kind=1
  ·refine .pos k1 ?_;have hcr:=DR (c:=c) (by omega) d sc;simp only[Kr,Tn,Option.bind_some];rw[k1] at hcr;simp only[decide_true,Bool.not_true,Bool.false_or] at hcr;refine Ex.bind (P:=fun o=>o=!((decide (1≤c.id)&&decide (c.id≤999))&&decide (c.id∈sc))) ?_ ?_
   ·cases (decide (1≤c.id)&&decide (c.id≤999)) with
    | false=>exact .pos rfl (.pure rfl)
    | true=>exact .neg (by simp) (.pure (by simp))
   ·rintro o rfl;have hf:UN c=((decide (1≤c.id)&&decide (c.id≤999))&&(decide (c.name=[])&&(decide (c.n=0)&&iI c.data zF))):=by unfold UN; simp[k1]
    rw[hf] at hcr;cases hq:((decide (1≤c.id)&&decide (c.id≤999))&&decide (c.id∈sc)) with
    | false=>
     refine .pos rfl (.pure ⟨rfl,?_⟩);rw[hcr];rcases Bool.and_eq_false_iff.1 hq with h | h <;> rw[h] <;> simp
    | true=>
     obtain⟨h1,h2⟩:=(Bool.and_eq_true _ _▸hq:_∧_)
     refine .neg (by simp) (.pure ⟨?_,by simp⟩);rw[hcr,bare_eq,h1,h2];simp only[decide_true,Bool.true_and,l0,l1,l3,kd1,kd2,kd3,kd4,kd6,kd7,zF]
     ac_rfl
  refine .neg k1 ?_;by_cases k2:c.kind=2
  ·refine .pos k2 (.bv (SV _ (by unfold I9; omega)) ?_);have hcr:=DR (c:=c) (by omega) d sc;have hf:UN c=(decide (c.id=0)&&(nameB c.name&&(decide (c.n=0)&&iI c.data zF))):=by unfold UN; simp[k2]
   rw[hf,k2] at hcr;cases hq:nameB c.name with
   | false=>exact .pos rfl (.pure ⟨rfl,by rw[hcr,hq]; simp⟩)
   | true=>
    refine .neg (by simp) (.pure ⟨?_,by simp⟩);rw[hcr,bare_eq,hq];simp only[decide_true,Bool.true_and,l0,l1,l3,kd1,kd2,kd3,kd4,kd6,kd7,zF,show decide ((2:Int)=1)=false from rfl,Bool.not_false,Bool.true_or]
    ac_rfl
  refine .neg k2 ?_;by_cases k3:c.kind=3
  ·refine .pos k3 ?_;have hcr:=DR (c:=c) (by omega) d sc;have hf:UN c=(decide (c.id=0)&&(decide (c.name=[])&&((decide (0≤c.n)&&decide (c.n≤999))&&iI c.data zF))):=by unfold UN; simp[k3]
   rw[hf,k3] at hcr;simp only[Kr,Option.bind_some];cases hq:(decide (0≤c.n)&&decide (c.n≤999)) with
   | false=>exact .pos rfl (.pure ⟨rfl,by rw[hcr,hq]; simp⟩)
   | true=>
    refine .neg (by simp) (.pure ⟨?_,by simp⟩);rw[hcr,bare_eq,hq];simp only[decide_true,Bool.true_and,l0,l1,l3,kd1,kd2,kd3,kd4,kd6,kd7,zF,show decide ((3:Int)=1)=false from rfl,Bool.not_false,Bool.true_or]
    ac_rfl
  refine .neg k3 ?_;by_cases k4:c.kind=4
  ·refine .pos k4 ?_;have hcr:=DR (c:=c) (by omega) d sc;have hf:UN c=(decide (c.id=0)&&(decide (c.name=[])&&(decide (c.n=0)&&(fZ c.data&&EC c.data)))):=by unfold UN; simp[k4]
   rw[hf,k4] at hcr;refine Ex.bind (P:=fun o=>o=!(fZ c.data&&EC c.data)) ?_ ?_
   ·refine .bv (Md _ (FB _ (by omega))) ?_;cases hv:fZ c.data with
    | false=>exact .pos rfl (.pure rfl)
    | true=>
     refine .neg (by simp) (Ex.bind (Zr _ (by omega) hv) ?_);intro r hr;exact .pure (by rw[hr,Bool.true_and])
   ·rintro o rfl;cases hq:(fZ c.data&&EC c.data) with
    | false=>exact .pos rfl (.pure ⟨rfl,by rw[hcr,hq]; simp⟩)
    | true=>
     refine .neg (by simp) (.pure ⟨?_,by simp⟩);have hd0:iI c.data ⟨c.data.kind,c.data.name,c.data.n,c.data.scopes,c.data.kids⟩=true:=Ez.2 (by cases c.data; rfl);rw[hcr,bare_eq,hq];simp only[];rw[hd0];simp only[decide_true,Bool.true_and,l0,l1,l3,kd1,kd2,kd3,kd4,kd6,kd7,show decide ((4:Int)=1)=false from rfl,Bool.not_false,Bool.true_or,Bool.and_true]
     ac_rfl
  refine .neg k4 ?_;by_cases k5:c.kind=5
  ·refine .pos k5 ?_;unfold slices_Clone_int;rw[nR (by omega)];simp only[Option.bind_some];have hf:UM c=(decide (c.id=0)&&(decide (c.name=[])&&(decide (c.n=0)&&iI c.data zF))):=by unfold UM; simp[k5]
   have hcr:D5 (d+1) sc c=(decide (c.kids.length=1)&&((decide (c.id=0)&&(decide (c.name=[])&&(decide (c.n=0)&&iI c.data zF)))&&(match MZ sc c.ids with
    | none=>false
    | some s=>c.kids.all (D5 d s)))):=by
    simp only[D5,hf,k5,kd5,show decide ((5:Int)=1)=false from rfl,Bool.not_false,Bool.true_or,Bool.true_and]
   simp only[abH sc c.ids (by omega)];cases hq:MZ sc c.ids with
   | none=>exact .pure ⟨rfl,by rw[hcr,hq]; simp⟩
   | some s=>
    refine .pure ⟨?_,by rw[MF hq]; exact Nat.le_refl _⟩;rw[hcr,hq,bare_eq];simp only[decide_true,Bool.true_and,l1,zF]
  refine .neg k5 ?_;have hcr:=DR (c:=c) k5 d sc;have hf:UN c=(decide (c.id=0)&&(decide (c.name=[])&&(decide (c.n=0)&&iI c.data zF))):=by unfold UN; simp[k1,k2,k3,k4]
  rw[hf,decide_eq_false k1] at hcr;by_cases k6:c.kind=6
  ·refine .pos k6 (.pure ⟨?_,by simp⟩);have hm:decide ((c.kids.length:Int)=(if(c.kids.length:Int)>1 then(c.kids.length:Int) else 1))=decide (1≤c.kids.length):=by
    rw[Bool.eq_iff_iff,decide_eq_true_eq,decide_eq_true_eq];split <;> constructor <;> intro h <;> omega
   rw[hcr,bare_eq];simp only[];rw[hm,k6];simp only[decide_true,Bool.true_and,l0,l1,l3,kd1,kd2,kd3,kd4,kd6,kd7,zF,Bool.not_false,Bool.true_or]
   ac_rfl
  refine .neg k6 ?_;by_cases k7:c.kind=7
  ·refine .pos k7 (.pure ⟨?_,by simp⟩);rw[hcr,bare_eq,k7];simp only[decide_true,Bool.true_and,l0,l1,l3,kd1,kd2,kd3,kd4,kd6,kd7,zF,Bool.not_false,Bool.true_or]
   ac_rfl
  ·refine .neg k7 (.pure ⟨rfl,?_⟩);rw[hcr];have:F7 c.kind c.kids.length=false:=by unfold F7; simp[k1,k2,k3,k4,k5,k6,k7]
   rw[this]; rfl
 ·rintro w ⟨rfl,h⟩;exact⟨⟨fun h=>(by cases h),fun h'=>by rw[h] at h'; cases h'.1⟩,fun h=>(by cases h)⟩
 ·rintro ⟨m,s,a,b,e,g,dk,dn,dm,ds,dl⟩ ⟨hcr,hsl⟩;simp only at hcr hsl ⊢;refine Ex.bind (P:=fun o=>o=!(decide ((c.kids.length:Int)=m)&&zY c ⟨c.kind,a,b,e,g,⟨dk,dn,dm,ds,dl⟩,c.kids⟩)) ?_ ?_
  ·by_cases hm:(c.kids.length:Int)=m
   ·refine .neg (fun h=>h hm) (.bv (Tf _ _) (.pure ?_));rw[decide_eq_true hm,Bool.true_and]
   ·refine .pos hm (.pure ?_);rw[decide_eq_false hm]; rfl
  ·rintro o rfl;rw[← Bool.and_assoc] at hcr;cases hq:(decide ((c.kids.length:Int)=m)&&zY c ⟨c.kind,a,b,e,g,⟨dk,dn,dm,ds,dl⟩,c.kids⟩) with
   | false=>
    rw[hq,Bool.false_and] at hcr;exact .pos rfl (.pure ⟨⟨fun h=>(by cases h),fun h'=>by rw[hcr] at h'; cases h'.1⟩,fun h=>(by cases h)⟩)
   | true=>
    rw[hq,Bool.true_and] at hcr;refine .neg (by simp) ?_;have e2:aY (((121-(d+1):Nat):Int)+1)=((121-d:Nat):Int):=by rw[ku (by omega) (by omega)]; omega
    rw[e2];refine Ex.bI (P:=fun o=>match o with
     | .inl w=>w.1=false∧¬(c.kids.all (D5 d s)=true∧D6 c.kids≤L-1)
     | .inr t=>c.kids.all (D5 d s)=true∧D6 c.kids≤L-1∧t=((L-1-D6 c.kids:Nat):Int)) ?_ ?_ ?_
    ·refine Ex.bQ (I:=fun i q t=>∃u:Nat,t=(u:Int)∧u≤600∧(c.kids.all (D5 d s)=true∧D6 c.kids≤L-1↔q.all (D5 d s)=true∧D6 q≤u)∧u+D6 c.kids=L-1+D6 q∧∀x∈q,x∈c.kids) ?_ ?_ ?_
     ·exact⟨L-1,by omega,by omega,Iff.rfl,rfl,fun _ h=>h⟩
     ·rintro i x q t ⟨u,rfl,hu,hiff,hsum,hmem⟩;have hx:=hmem x (List.mem_cons_self);refine Ex.bind (Xy x d (by omega) s (by have:=Dt hx; omega) u hu) ?_;rintro ⟨b,s'⟩ ⟨r1,r2⟩;simp only at r1 r2;cases b with
      | false=>
       refine .pos rfl (.fo ⟨rfl,fun h=>?_⟩);have h':=hiff.1 h;simp only[List.all_cons,Bool.and_eq_true,D6] at h';have:=r1.2 ⟨h'.1.1,by omega⟩;cases this
      | true=>
       obtain⟨q1,q2⟩:=r1.1 rfl;refine .neg (by simp) (.fg ⟨u-cC x,r2 rfl,by omega,?_,by simp only[D6] at hsum; omega,fun y hy=>hmem y (List.mem_cons_of_mem _ hy)⟩);rw[hiff];simp only[List.all_cons,Bool.and_eq_true,D6,q1,true_and];constructor <;> intro h <;> exact⟨h.1,by omega⟩
     ·rintro t ⟨u,rfl,hu,hiff,hsum,_⟩;have h:=hiff.2 ⟨rfl,by simp[D6]⟩;simp only[D6] at hsum;exact⟨h.1,h.2,by omega⟩
    ·rintro ⟨b,t⟩ ⟨h1,h2⟩;simp only at h1;subst h1;refine⟨⟨fun h=>(by cases h),fun h=>absurd ⟨hcr▸h.1,by omega⟩ h2⟩,fun h=>(by cases h)⟩
    ·rintro t ⟨h1,h2,h3⟩;exact .pure ⟨⟨fun _=>⟨hcr.trans h1,by omega⟩,fun _=>rfl⟩,fun _=>by simp only; omega⟩
termination_by SizeOf.sizeOf c
decreasing_by exact zy hx
theorem Zt (c:Core) (hw:wC c≤1073741824):gG (fun n=>pF n c) (pR c):=by
 refine Ex.CQ ?_;unfold pF;refine Ex.bind (Xy c 120 (by omega) [] (by simp; omega) 600 (by omega)) ?_;rintro ⟨b,s⟩ ⟨r1,_⟩;refine .pure ?_;simp only at r1 ⊢;unfold pR;rw[Bool.eq_iff_iff,r1];simp
theorem DT (n:Nat) (l:List Int) (x:Int):nH n l x=some (decide (x∈l)):=by
 unfold nH;have:=aae (step:=fun(_:Unit) (_:Nat) (y:Int)=>((if y=x then some (Sum.inl true) else some (Sum.inr ())):Option (Bool⊕Unit))) (p:=fun y=>!decide (y=x)) (no:=true) (f:=fun _=>some false) (xs:=l) (i:=0) (fun i y _=>by by_cases h:y=x <;> simp[h]);rw[this];by_cases h:x∈l
 ·rw[if_neg]
  ·simp[h]
  ·intro hall;rw[List.all_eq_true] at hall;have:=hall x h;simp at this
 ·rw[if_pos]
  ·simp[h]
  ·rw[List.all_eq_true];intro y hy;have:¬y=x:=fun e=>h (e▸hy);simp[this]
theorem Kw (f:Form) (hw:wF f≤1073741824):gG (fun n=>gX n f) (MC f):=by
 have he:=EW f;refine .succ ?_;simp only[gX];rw[Zq,Kt];refine Ex.CQ ?_;refine Ex.bind (P:=fun s=>s=f.kids.map MC) ?_ (fun s hs=>.pure (by rw[hs]));refine Ex.dX (I:=fun i q s=>s=(f.kids.take i).map MC∧f.kids.drop i=q) ⟨rfl,rfl⟩ ?_ ?_
 ·rintro i x q s ⟨rfl,hd⟩;obtain⟨g1,g2,g3,g4⟩:=jk hd;have hm:=Dq g4;refine .bv (Kw x (by omega)) (.bp _ (dJ (by simp; omega)) (.pure ⟨?_,g2⟩));rw[List.take_add_one,g1]; simp
 ·rintro s ⟨rfl,_⟩; simp
termination_by SizeOf.sizeOf f
decreasing_by exact jH g4
theorem abJ (n:Nat) (k:Int) (m:Nat):wM n k (m:Int)=some (F7 k m):=by
 unfold wM F7;have a0:decide ((m:Int)=0)=decide (m=0):=by simp only[decide_eq_decide]; omega
 have a1:decide ((m:Int)=1)=decide (m=1):=by simp only[decide_eq_decide]; omega
 have a3:decide ((m:Int)=3)=decide (m=3):=by simp only[decide_eq_decide]; omega
 have a6:decide ((m:Int)≥1)=decide (1≤m):=by simp only[decide_eq_decide]; omega
 rw[a0,a1,a3,a6];by_cases h1:k=1
 ·subst h1; rfl
 by_cases h2:k=2
 ·subst h2; rfl
 by_cases h3:k=3
 ·subst h3; rfl
 by_cases h4:k=4
 ·subst h4; rfl
 simp only[h1,h2,h3,h4,if_false,decide_false,Option.bind_some,Bool.false_eq_true,or_self];by_cases h5:k=5
 ·subst h5; rfl
 by_cases h6:k=6
 ·subst h6; rfl
 by_cases h7:k=7
 ·subst h7; rfl
 simp only[h5,h6,h7,if_false,Option.bind_some]
theorem Zu (c:Core) (hw:wC c≤1073741824):gG (fun n=>ru n c) (UM c):=by
 have he:=Oa c;have hn:c.name.length≤I9:=by unfold I9; omega
 refine Ex.CQ ?_;unfold ru UM;refine Ex.bind (P:=fun o=>o=!(if c.kind=1 then decide (1≤c.id)&&decide (c.id≤999) else decide (c.id=0))) ?_ ?_
 ·by_cases k:c.kind=1
  ·simp only[k,if_true,not_true_eq_false,if_false];by_cases h1:c.id<1
   ·exact .pos h1 (.pure (by rw[decide_eq_false (show ¬1≤c.id by omega)]; rfl))
   ·refine .neg h1 ?_;by_cases h2:c.id>999
    ·exact .pos h2 (.pure (by rw[decide_eq_false (show ¬c.id≤999 by omega)]; simp))
    ·exact .neg h2 (.pure (by rw[decide_eq_true (show c.id≤999 by omega),decide_eq_true (show 1≤c.id by omega)]; rfl))
  ·simp only[k,if_false,not_false_eq_true,if_true];exact .pure (by simp)
 rintro o rfl;cases (if c.kind=1 then decide (1≤c.id)&&decide (c.id≤999) else decide (c.id=0)) with
 | false=>exact .pos rfl (.pure rfl)
 | true=>
 refine .neg (by simp) ?_;simp only[Bool.true_and];refine Ex.bind (P:=fun o=>o=!(if c.kind=2 then nameB c.name else decide (c.name=[]))) ?_ ?_
 ·by_cases k:c.kind=2
  ·simp only[k,if_true,not_true_eq_false,if_false];refine .bv (Gq _ hn) ?_;cases nameB c.name with
   | false=>exact .pos rfl (.pure rfl)
   | true=>exact .neg (by simp) (.pure rfl)
  ·simp only[k,if_false,not_false_eq_true,if_true];exact .pure (by simp)
 rintro o rfl;cases (if c.kind=2 then nameB c.name else decide (c.name=[])) with
 | false=>exact .pos rfl (.pure rfl)
 | true=>
 refine .neg (by simp) ?_;simp only[Bool.true_and];refine Ex.bind (P:=fun o=>o=!(if c.kind=3 then decide (0≤c.n)&&decide (c.n≤999) else decide (c.n=0))) ?_ ?_
 ·by_cases k:c.kind=3
  ·simp only[k,if_true,not_true_eq_false,if_false];by_cases h1:c.n<0
   ·exact .pos h1 (.pure (by rw[decide_eq_false (show ¬0≤c.n by omega)]; rfl))
   ·refine .neg h1 ?_;by_cases h2:c.n>999
    ·exact .pos h2 (.pure (by rw[decide_eq_false (show ¬c.n≤999 by omega)]; simp))
    ·exact .neg h2 (.pure (by rw[decide_eq_true (show c.n≤999 by omega),decide_eq_true (show 0≤c.n by omega)]; rfl))
  ·simp only[k,if_false,not_false_eq_true,if_true];exact .pure (by simp)
 rintro o rfl;cases (if c.kind=3 then decide (0≤c.n)&&decide (c.n≤999) else decide (c.n=0)) with
 | false=>exact .pos rfl (.pure rfl)
 | true=>
 refine .neg (by simp) ?_;simp only[Bool.true_and];refine Ex.bind (P:=fun o=>o=!(if c.kind=4 then fZ c.data&&EC c.data else iI c.data zF)) ?_ ?_
 ·by_cases k:c.kind=4
  ·simp only[k,if_true,not_true_eq_false,if_false];refine .bv (Gs _ (FB _ (by omega)) (by have:=SX c.data; omega)) ?_;cases fZ c.data with
   | false=>exact .pos rfl (.pure rfl)
   | true=>
    refine .neg (by simp) (.bv (Kw _ (by omega)) (.bv (yC _ _) ?_));rw[O7];cases EC c.data with
    | false=>exact .pos rfl (.pure rfl)
    | true=>exact .neg (by simp) (.pure rfl)
  ·simp only[k,if_false,not_false_eq_true,if_true];exact .bv (yC _ _) (.pure rfl)
 rintro o rfl;cases (if c.kind=4 then fZ c.data&&EC c.data else iI c.data zF) with
 | false=>exact .pos rfl (.pure rfl)
 | true=>
 refine .neg (by simp) ?_;simp only[Bool.true_and];refine Ex.bind (P:=fun o=>o=(decide (c.kind=5)||decide (c.ids=[]))) ?_ (fun o ho=>.pure ho);by_cases k:c.kind=5
 ·exact .pos k (.pure (by simp[k]))
 ·refine .neg k (.pure ?_);rw[decide_eq_false k,Bool.false_or,Bool.eq_iff_iff];simp
theorem Tt (c:Core) (d:Nat) (hd:d≤120) (sc:List Int) (hw:sc.length+wC c≤1073741824):gG (fun n=>xZ n c sc (d:Int)) (D5 d sc c):=by
 have he:=Oa c;refine .succ ?_;simp only[xZ];refine Ex.CQ ?_;by_cases hd0:d=0
 ·subst hd0;simp only[show((0:Nat):Int)=0 from rfl,if_true,Option.bind_some];exact .pure rfl
 obtain⟨d,rfl⟩:∃e,d=e+1:=⟨d-1,by omega⟩
 refine Ex.bind (P:=fun o=>o=!(F7 c.kind c.kids.length&&(UM c&&(!decide (c.kind=1)||decide (c.id∈sc))))) ?_ ?_
 ·refine .neg (by omega) ?_;simp only[abJ,Option.bind_some];cases F7 c.kind c.kids.length with
  | false=>exact .pos rfl (.pure rfl)
  | true=>
   refine .neg (by simp) (.bv (Zu c (by omega)) ?_);cases UM c with
   | false=>exact .pos rfl (.pure rfl)
   | true=>
    refine .neg (by simp) ?_;by_cases k:c.kind=1
    ·refine .pos k ?_;simp only[DT,Option.bind_some];exact .pure (by simp[k])
    ·exact .neg k (.pure (by simp[k]))
 rintro o rfl;have hq:D5 (d+1) sc c=((F7 c.kind c.kids.length&&(UM c&&(!decide (c.kind=1)||decide (c.id∈sc))))&&(match MZ sc c.ids with
  | none=>false
  | some s=>c.kids.all (D5 d s))):=by simp only[D5,Bool.and_assoc]
 rw[hq];cases (F7 c.kind c.kids.length&&(UM c&&(!decide (c.kind=1)||decide (c.id∈sc)))) with
 | false=>exact .pos rfl (.pure rfl)
 | true=>
 refine .neg (by simp) ?_;rw[Bool.true_and];refine Ex.bI (P:=fun o=>match o with
  | .inl w=>w=false∧MZ sc c.ids=none
  | .inr s=>MZ sc c.ids=some s) ?_ ?_ ?_
 ·refine Ex.bQ (I:=fun i q s=>MZ sc c.ids=MZ s q∧s.length+q.length=sc.length+c.ids.length) ⟨rfl,rfl⟩ ?_ ?_
  ·rintro i x q s ⟨h1,h2⟩;simp only[List.length_cons] at h2;simp only[MZ] at h1;simp only[DT,Option.bind_some];by_cases a1:x<1
   ·simp only[if_pos a1,Option.bind_some,if_true];exact .fo ⟨rfl,by rw[h1,if_neg (fun h=>by have:=h.1.1; omega)]⟩
   rw[if_neg a1];by_cases a2:x>999
   ·simp only[if_pos a2,Option.bind_some,if_true];exact .fo ⟨rfl,by rw[h1,if_neg (fun h=>by have:=h.1.2; omega)]⟩
   rw[if_neg a2];by_cases a3:x∈s
   ·simp only[a3,decide_true,Option.bind_some,if_true];exact .fo ⟨rfl,by rw[h1,if_neg (fun h=>h.2 a3)]⟩
   ·simp only[a3,decide_false,Option.bind_some,Bool.false_eq_true,if_false];refine .bp s (nR (by omega)) (.bp (s++[x]) (dJ (by simp; omega)) (.fg ⟨?_,by simp; omega⟩));rw[h1,if_pos ⟨⟨by omega,by omega⟩,a3⟩]
  ·rintro s ⟨h1,_⟩;rw[h1]; rfl
 ·rintro w ⟨rfl,h⟩;rw[h]
 ·intro s hs;have hs:MZ sc c.ids=some s:=hs;rw[hs];have hl:=MF hs;have e2:aY (((d+1:Nat):Int)-1)=(d:Int):=by rw[ku (by omega) (by omega)]; omega
  rw[e2];exact Ex.allI (m:=fun n x=>xZ n x s (d:Int)) (p:=D5 d s) (fun x hx=>Tt x d (by omega) s (by have:=Dt hx; omega)) (fun h=>.pure h.symm) (fun h=>h.symm)
termination_by SizeOf.sizeOf c
decreasing_by exact zy hx
theorem Tv (f:Core) (hw:cC f≤4611686018427387904):gG (fun n=>qm n f) (cC f:Int):=by
 have hc:=Ti f;refine .succ ?_;simp only[qm];rw[hc];refine .bind (a:=((1+D6 f.kids:Nat):Int)) ?_ (.pure _);exact Ex.adK (b:=1) (c:=cC) (cs:=D6) rfl (fun _ _=>rfl) (by omega) (fun x hx=>Tv x (by have:=Tj hx; omega))
termination_by SizeOf.sizeOf f
decreasing_by exact zy hx
theorem Tz (c:Core) (hw:wC c≤1073741824):gG (fun n=>lu n c) (pR c):=by
 refine Ex.CQ ?_;unfold lu pR;refine Ex.bind (P:=fun b=>b=(D5 120 [] c&&decide (cC c≤600))) ?_ (fun b hb=>.pure hb);refine .bv (Tt c 120 (by omega) [] (by simp; omega)) ?_;cases D5 120 [] c with
 | false=>exact .neg (by simp) (.pure rfl)
 | true=>
  refine .pos rfl (.bv (Tv c (by have:=O8 c; omega)) (.pure ?_));rw[Bool.true_and]; simp only[decide_eq_decide]; omega
theorem MH (f:Form) (hw:wF f≤1000000000):gG (fun n=>iT n f) f:=by
 have he:=EW f;refine .succ ?_;simp only[iT];refine Ex.CQ (.bp _ (nR (by omega)) ?_);refine .bv (Du (m:=fun n x=>iT n x) (be:=80) (by omega) (fun x hx=>MH x (by have:=Dq hx; omega))) (.pure (by cases f; rfl))
termination_by SizeOf.sizeOf f
decreasing_by exact jH hx
theorem MI (c:Core) (hw:wC c≤1000000000):gG (fun n=>jS n c) c:=by
 have he:=Oa c;refine .succ ?_;simp only[jS];refine Ex.CQ (.bp _ (nR (by omega)) (.bv (MH c.data (by omega)) ?_));refine .bv (Du (m:=fun n x=>jS n x) (be:=168) (by omega) (fun x hx=>MI x (by have:=Dt hx; omega))) (.pure (by cases c; rfl))
termination_by SizeOf.sizeOf c
decreasing_by exact zy hx
theorem iQ {a:Int} {r:bf} {B:Int} (h:Gd r B) (hB:1≤B):Ex (fun n=>aP n a r) (fun k=>Sp r k.2 1∧(1≤a→0≤k.1∧k.1<a)):=by
 obtain⟨v,r',h1,h2,h3⟩:=SI (a:=a) h hB;exact⟨(v,r'),h1,h2,h3⟩
theorem xB {l:List Int} {r:bf} {B:Int} (hl:1≤l.length) (h:Gd r B) (hB:1≤B):Ex (fun n=>dw n l r) (fun k=>Sp r k.2 1∧k.1∈l):=by
 obtain⟨v,r',h1,h2,h3⟩:=WJ hl h hB;exact⟨(v,r'),h1,h2,h3⟩
theorem Xz {l:List (List UInt8)} {r:bf} {B:Int} (hl:1≤l.length) (h:Gd r B) (hB:1≤B):Ex (fun n=>iG n l r) (fun k=>Sp r k.2 1∧k.1∈l):=by
 obtain⟨v,r',h1,h2,h3⟩:=WJ hl h hB;exact⟨(v,r'),h1,h2,h3⟩
theorem Rh (b:List UInt8):Ex (fun n=>nY n b) (fun r=>Gd r 1000000000):=by
 unfold nY;by_cases h:(b.length:Int)>2000
 ·have hs:Gm b 0 2000=some (b.take 2000):=by
   unfold Gm;rw[if_pos ⟨by omega,by omega,by omega⟩]; simp
  refine Ex.bind (P:=fun o=>o.length≤2000) (.pos h (.bp _ hs (.pure (by simp; omega)))) ?_;intro o ho;exact .pure ⟨by show(0:Int)≤0; omega,by show(0:Int)+1000000000≤_; omega,ho⟩
 ·refine Ex.bind (P:=fun o=>o.length≤2000) (.neg h (.pure (by omega))) ?_;intro o ho;exact .pure ⟨by show(0:Int)≤0; omega,by show(0:Int)+1000000000≤_; omega,ho⟩
def bF:Nat→Int
 | 0=>3
 | d+1=>3+3*bF d
theorem XA:∀d,3≤bF d
 | 0=>by simp[bF]
 | d+1=>by have:=XA d; simp only[bF]; omega
def yD:Nat→Form→Prop
 | 0,f=>(f.kind=1∧f.n=0∧f.scopes=[]∧f.kids=[]∧f.name∈([[97],[98],[120],[121],[102],[105,102],[108,101,116],[43]]:List (List UInt8)))∨(f.kind=2∧f.name=[]∧f.scopes=[]∧f.kids=[]∧f.n∈([0,1,2,7,42,999]:List Int))
 | d+1,f=>((f.kind=1∧f.n=0∧f.scopes=[]∧f.kids=[]∧f.name∈([[97],[98],[120],[121],[102],[105,102],[108,101,116],[43]]:List (List UInt8)))∨(f.kind=2∧f.name=[]∧f.scopes=[]∧f.kids=[]∧f.n∈([0,1,2,7,42,999]:List Int)))∨(f.kind=3∧f.name=[]∧f.n=0∧f.scopes=[]∧f.kids.length≤3∧∀x∈f.kids,yD d x)
theorem Pg {d:Nat} {f:Form} (h:yD 0 f):yD d f:=by
 cases d with
 | zero=>exact h
 | succ d=>exact .inl h
theorem TA {r:bf} (h:Gd r 2):Ex (fun n=>(aP n 4 r).bind fun k3=>(if k3.1=0 then(dw n [0,1,2,7,42,999] k3.2).bind fun k5=>some ((⟨2,[],k5.1,[],[]⟩:Form),k5.2) else(iG n [[97],[98],[120],[121],[102],[105,102],[108,101,116],[43]] k3.2).bind fun k6=>(fC n k6.1).bind fun k7=>some (k7,k6.2))) (fun k=>Sp r k.2 2∧yD 0 k.1):=by
 refine .bind (iQ h (by omega)) fun k3 ⟨s1,_⟩=>?_;refine .ite (fun _=>?_) (fun _=>?_)
 ·refine .bind (xB (by simp) (h.to s1 (D:=1) (by omega)) (by omega)) fun k5 ⟨s2,hm⟩=>.pure ⟨s1.trans s2 (by omega),.inr ⟨rfl,rfl,rfl,rfl,hm⟩⟩
 ·refine .bind (Xz (by simp) (h.to s1 (D:=1) (by omega)) (by omega)) fun k6 ⟨s2,hm⟩=>?_;unfold fC;exact .pure ⟨s1.trans s2 (by omega),.inl ⟨rfl,rfl,rfl,rfl,hm⟩⟩
theorem TB:∀(d:Nat),d≤10→∀(r:bf),Gd r (bF d)→Ex (fun n=>lG n (d:Int) r) (fun k=>Sp r k.2 (bF d)∧yD d k.1):=by
 intro d
 induction d with
 | zero=>
  intro _ r h;have h:Gd r 3:=h;refine .succ ?_;simp only[lG];refine Ex.bind (P:=fun o=>o=(true,r)) (.pos rfl (.pure rfl)) ?_;rintro o rfl;exact .pos rfl ((TA (h.to (.refl (Int.le_refl 0)) (D:=2) (by omega))).mono fun k ⟨a,b⟩=>⟨a.mono (by simp[bF]),b⟩)
 | succ d ih=>
  intro hd r h;have ih:=ih (by omega);have hB:=XA d;have h:Gd r (3+3*bF d):=h;refine .succ ?_;simp only[lG];refine Ex.bind (P:=fun o=>Sp r o.2 1) (.neg (by omega) (.bind (iQ h (by omega)) fun k15 ⟨s1,_⟩=>.pure s1)) ?_;rintro ⟨b,r1⟩ s1;have g1:Gd r1 (2+3*bF d):=h.to s1 (by omega);refine .ite (fun _=>?_) (fun _=>?_)
  ·exact(TA (g1.to (.refl (Int.le_refl 0)) (D:=2) (by omega))).mono fun k ⟨a,b⟩=>⟨s1.trans a (by simp only[bF]; omega),Pg b⟩
  ·refine .bind (iQ g1 (by omega)) fun k8 ⟨s2,hc⟩=>?_;obtain⟨hc0,hc1⟩:=hc (by omega);obtain⟨c,r2⟩:=k8;simp only at s2 hc0 hc1 ⊢;have g2:Gd r2 (3*bF d):=g1.to s2 (by omega);have e1:aY (((d+1:Nat):Int)-1)=(d:Int):=by rw[ku (by omega) (by omega)]; omega
   rw[e1];refine Ex.iter (fun s=>s.1.toNat) (fun s=>∃j:Nat,(j:Int)≤c∧s.1=c-j∧Sp r2 ⟨s.2.2.1,s.2.2.2⟩ (j*bF d)∧s.2.1.length=j∧∀x∈s.2.1,yD d x) _ ⟨0,by omega,by simp,by simpa using (Sp.refl (r:=r2) (Int.le_refl 0)),rfl,by simp⟩ ?_;rintro ⟨cnt,l,b,p⟩ ⟨j,j0,j1,j2,j3,j4⟩;simp only at j1 j2 j3 j4 ⊢;have hj:j=0∨j=1∨j=2∨j=3:=by omega
   refine .ite (fun hp=>?_) (fun hp=>?_)
   ·have gj:Gd ⟨b,p⟩ (bF d):=g2.to j2 (by rcases hj with rfl | rfl | rfl | rfl <;> simp <;> omega);refine .bind (ih _ gj) fun k12 ⟨k2,k3⟩=>?_;have e2:aY (cnt-1)=cnt-1:=ku (by omega) (by omega);rw[e2];refine .bp _ (dJ (by simp; omega)) (Ex.pure ⟨fun _ e=>(by cases e),fun s' e=>?_⟩);cases e;refine⟨⟨j+1,by omega,by simp only; omega,?_,by simp; omega,?_⟩,by simp only; omega⟩
    ·refine j2.trans (D:=((j+1:Nat):Int)*bF d) k2 ?_;rcases hj with rfl | rfl | rfl | rfl <;> simp <;> omega
    ·intro x hx;rcases List.mem_append.1 hx with h | h
     ·exact j4 x h
     ·rw[List.mem_singleton.1 h]; exact k3
   ·refine Ex.pure ⟨fun w e=>?_,fun s' e=>(by cases e)⟩;cases e;refine⟨?_,.inr ⟨rfl,rfl,rfl,rfl,by simp only; omega,j4⟩⟩;refine s1.trans (s2.trans (j2.mono (C:=3*bF d) ?_) (D:=1+3*bF d) (by omega)) (by simp only[bF]; omega);rcases hj with rfl | rfl | rfl | rfl <;> simp <;> omega
def wD:Nat→Nat
 | 0=>3
 | d+1=>6+3*wD d
theorem XB {w:Nat}:∀{l:List Form},(∀x∈l,wF x≤w)→pV l≤l.length*w
 | [],_=>by simp[pV]
 | x::r,h=>by
  have h1:=h x (List.mem_cons_self);have h2:=XB (l:=r) (fun y hy=>h y (List.mem_cons_of_mem _ hy));simp only[pV,List.length_cons,Nat.succ_mul]; omega
theorem Ky {f:Form} (h:yD 0 f):wF f≤3:=by
 have hw:=EW f;rcases h with ⟨h1,h2,h3,h4,h5⟩ | ⟨h1,h2,h3,h4,h5⟩
 ·rw[h3,h4] at hw;simp only[List.length_nil,pV,Nat.add_zero] at hw;simp only[List.mem_cons,List.not_mem_nil,or_false] at h5;rcases h5 with h | h | h | h | h | h | h | h <;> rw[h] at hw <;> simp at hw <;> omega
 ·rw[h2,h3,h4] at hw;simp[pV] at hw; omega
theorem IW:∀(d:Nat) {f:Form},yD d f→wF f≤wD d
 | 0,f,h=>Ky h
 | d+1,f,h=>by
  rcases h with h | ⟨h1,h2,h3,h4,h5,h6⟩
  ·have:=Ky (f:=f) h;simp only[wD]; omega
  ·have hw:=EW f;have:=XB (fun x hx=>IW d (h6 x hx));have:f.kids.length*wD d≤3*wD d:=Nat.mul_le_mul_right _ h5;rw[h2,h4] at hw;simp only[List.length_nil] at hw;simp only[wD]; omega
def XC (sc:List Int) (c:Core):Prop:=
 (∃i,i∈sc∧c=⟨1,i,[],0,[],⟨0,[],0,[],[]⟩,[]⟩)∨(∃f,yD 1 f∧c=⟨4,0,[],0,[],f,[]⟩)∨(∃s,s∈([[102],[43],[108,105,115,116]]:List (List UInt8))∧c=⟨2,0,s,0,[],⟨0,[],0,[],[]⟩,[]⟩)∨(∃i,i∈([0,1,5,42]:List Int)∧c=⟨3,0,[],i,[],⟨0,[],0,[],[]⟩,[]⟩)
theorem TD {sc:List Int} {c:Core} (h:XC sc c):wC c≤20:=by
 rcases h with ⟨i,_,rfl⟩ | ⟨f,hf,rfl⟩ | ⟨s,hs,rfl⟩ | ⟨i,_,rfl⟩
 ·simp[wC,yK,wF,pV]
 ·have:=IW 1 hf;simp only[wD] at this;simp only[wC,yK,List.length_nil]; omega
 ·simp only[List.mem_cons,List.not_mem_nil,or_false] at hs;rcases hs with rfl | rfl | rfl <;> simp[wC,yK,wF,pV]
 ·simp[wC,yK,wF,pV]
theorem TF {a1:List Int} {a3:Int} {r:bf} (h:Gd r 19):Ex (fun n=>Option.bind ((if(a1.length:Int)>0 then(aP n 3 r).bind fun k15=>some ((decide (k15.1>0)),k15.2) else some (false,r)):Option (Bool×bf)) (fun(o3:Bool×bf)=>(if o3.1=true then(aP n (a1.length:Int) o3.2).bind fun k5=>(gQ a1 k5.1).bind fun e6=>some ((⟨1,e6,[],0,[],(⟨0,[],0,[],[]⟩:Form),[]⟩:Core),a3,k5.2) else(aP n 4 o3.2).bind fun k8=>(if k8.1=0 then(lG n 1 k8.2).bind fun k10=>some ((⟨4,0,[],0,[],k10.1,[]⟩:Core),a3,k10.2) else(if k8.1=1 then(iG n [[102],[43],[108,105,115,116]] k8.2).bind fun k12=>some ((⟨2,0,k12.1,0,[],(⟨0,[],0,[],[]⟩:Form),[]⟩:Core),a3,k12.2) else(dw n [0,1,5,42] k8.2).bind fun k13=>some ((⟨3,0,[],k13.1,[],(⟨0,[],0,[],[]⟩:Form),[]⟩:Core),a3,k13.2)))))) (fun k=>Sp r k.2.2 19∧XC a1 k.1):=by
 refine Ex.bind (P:=fun o=>Sp r o.2 1∧(o.1=true→1≤a1.length)) ?_ ?_
 ·refine .ite (fun hl=>.bind (iQ h (by omega)) fun k15 ⟨s1,_⟩=>.pure ⟨s1,fun _=>by omega⟩) (fun hl=>.pure ⟨.refl (by omega),fun h=>by cases h⟩)
 rintro ⟨b0,r1⟩ ⟨s1,hb⟩;simp only at s1 hb ⊢;have g1:Gd r1 18:=h.to s1 (by omega);refine .ite (fun hb0=>?_) (fun _=>?_)
 ·have hl:=hb hb0;refine .bind (iQ g1 (by omega)) fun k5 ⟨s2,hv⟩=>?_;obtain⟨v0,v1⟩:=hv (by omega);obtain⟨x,hx,hm⟩:=cZ v0 v1;exact .bp x hx (.pure ⟨(s1.trans s2 (D:=2) (by omega)).mono (by omega),.inl ⟨x,hm,rfl⟩⟩)
 ·refine .bind (iQ g1 (by omega)) fun k8 ⟨s2,_⟩=>?_;have g2:Gd k8.2 17:=g1.to s2 (by omega);refine .ite (fun _=>?_) (fun _=>.ite (fun _=>?_) (fun _=>?_))
  ·have e34:bF 1=12:=by simp[bF]
   refine .bind (TB 1 (by omega) k8.2 (by rw[e34]; exact⟨g2.1,by have:=g2.2.1; omega,g2.2.2⟩)) fun k10 ⟨s3,hf⟩=>?_;rw[e34] at s3;exact .pure ⟨(s1.trans (s2.trans s3 (D:=13) (by omega)) (D:=14) (by omega)).mono (by omega),.inr (.inl ⟨_,hf,rfl⟩)⟩
  ·refine .bind (Xz (by simp) g2 (by omega)) fun k12 ⟨s3,hm⟩=>.pure ⟨(s1.trans (s2.trans s3 (D:=2) (by omega)) (D:=3) (by omega)).mono (by omega),.inr (.inr (.inl ⟨_,hm,rfl⟩))⟩
  ·refine .bind (xB (by simp) g2 (by omega)) fun k13 ⟨s3,hm⟩=>.pure ⟨(s1.trans (s2.trans s3 (D:=2) (by omega)) (D:=3) (by omega)).mono (by omega),.inr (.inr (.inr ⟨_,hm,rfl⟩))⟩
def bC:Nat→Int
 | 0=>20
 | d+1=>24+3*bC d
def U7:Nat→Nat
 | 0=>20
 | d+1=>20+3*U7 d
theorem XD:∀d,20≤bC d
 | 0=>by simp[bC]
 | d+1=>by have:=XD d; simp only[bC]; omega
theorem Zv:∀d,20≤U7 d
 | 0=>by simp[U7]
 | d+1=>by simp only[U7]; omega
theorem XE {w:Nat}:∀{l:List Core},(∀x∈l,wC x≤w)→yK l≤l.length*w
 | [],_=>by simp[yK]
 | x::r,h=>by
  have h1:=h x (List.mem_cons_self);have h2:=XE (l:=r) (fun y hy=>h y (List.mem_cons_of_mem _ hy));simp only[yK,List.length_cons,Nat.succ_mul]; omega
theorem Zw:∀(d:Nat),d≤10→∀(sc:List Int) (last:Int) (r:bf),sc.length≤1000000-2*d→Gd r (bC d)→Ex (fun n=>qC n sc (d:Int) last r) (fun k=>Sp r k.2.2 (bC d)∧wC k.1≤U7 d∧(XC sc k.1∨k.1.kids≠[])):=by
 intro d
 induction d with
 | zero=>
  intro _ sc last r hl h;have h:Gd r 20:=h;refine .succ ?_;simp only[qC];refine Ex.bind (P:=fun o=>o=(true,r)) (.pos rfl (.pure rfl)) ?_;rintro o rfl;exact .pos rfl ((TF (h.to (.refl (Int.le_refl 0)) (D:=19) (by omega))).mono fun k ⟨a,b⟩=>⟨a.mono (by simp[bC]),TD b,.inl b⟩)
 | succ d ih=>
  intro hd sc last r hl h;have ih:=ih (by omega);have hB:=XD d;have hW:=Zv d;have h:Gd r (24+3*bC d):=h;refine .succ ?_;simp only[qC];refine Ex.bind (P:=fun o=>Sp r o.2 1) (.neg (by omega) (.bind (iQ h (by omega)) fun k15 ⟨s1,_⟩=>.pure s1)) ?_;rintro ⟨b,r1⟩ s1;have g1:Gd r1 (23+3*bC d):=h.to s1 (by omega);refine .ite (fun _=>?_) (fun _=>?_)
  ·exact(TF (g1.to (.refl (Int.le_refl 0)) (D:=19) (by omega))).mono fun k ⟨a,b⟩=>⟨s1.trans a (by simp only[bC]; omega),by have:=TD b; simp only[U7]; omega,.inl b⟩
  ·refine .bind (xB (by simp) g1 (by omega)) fun k18 ⟨s2,hk⟩=>?_;obtain⟨kd,r2⟩:=k18;simp only at s2 hk ⊢;have g2:Gd r2 (22+3*bC d):=g1.to s2 (by omega);refine Ex.bind (P:=fun o=>Sp r2 ⟨o.2.2.2.2.1,o.2.2.2.2.2⟩ 3∧o.1.length≤sc.length+2∧1≤o.2.2.1∧o.2.2.1≤3∧o.2.2.2.1.length≤2) ?_ ?_
   ·refine .ite (fun _=>?_) (fun _=>.ite (fun _=>?_) (fun _=>?_))
    ·refine .bind (xB (by simp) g2 (by omega)) fun k26 ⟨s3,hm⟩=>?_;obtain⟨c,r3⟩:=k26;simp only at s3 hm ⊢;have hc:0≤c∧c≤2:=by
      simp only[List.mem_cons,List.not_mem_nil,or_false] at hm;rcases hm with rfl | rfl | rfl <;> simp
     have g3:Gd r3 2:=g2.to s3 (by omega);refine Ex.iter (fun s=>s.2.2.1.toNat) (fun s=>∃j:Nat,(j:Int)≤c∧s.2.2.1=c-j∧Sp r3 ⟨s.2.2.2.2.1,s.2.2.2.2.2⟩ j∧s.2.2.2.1.length=j∧s.1.length=sc.length+j) _ ⟨0,by omega,by simp,by simpa using (Sp.refl (r:=r3) (Int.le_refl 0)),rfl,rfl⟩ ?_;rintro ⟨l,ct,cnt,nl,b,p⟩ ⟨j,j0,j1,j2,j3,j4⟩;simp only at j1 j2 j3 j4 ⊢;refine .ite (fun hp=>?_) (fun hp=>?_)
     ·refine .bind (xB (B:=1) (by simp) (g3.to j2 (by omega)) (by omega)) fun k30 ⟨s4,_⟩=>?_;have e2:aY (cnt-1)=cnt-1:=ku (by omega) (by omega);rw[e2];refine .bp _ (dJ (by simp; omega)) (.bp _ (nR (by omega)) (.bp _ (dJ (by simp; omega)) (Ex.pure ⟨fun _ e=>(by cases e),fun s' e=>?_⟩)));cases e;exact⟨⟨j+1,by omega,by simp only; omega,j2.trans s4 (by omega),by simp; omega,by simp; omega⟩,by simp only; omega⟩
     ·refine Ex.pure ⟨fun w e=>?_,fun s' e=>(by cases e)⟩;cases e;exact⟨s3.trans (j2.mono (C:=2) (by omega)) (by omega),by simp only; omega,by simp,by simp,by simp only; omega⟩
    ·refine .bind (xB (by simp) g2 (by omega)) fun Fb ⟨s3,hm⟩=>?_;have hc:1≤Fb.1∧Fb.1≤3:=by
      have hm:=hm;simp only[List.mem_cons,List.not_mem_nil,or_false] at hm;rcases hm with h | h | h <;> rw[h] <;> simp
     exact .pure ⟨s3.mono (by omega),by simp,hc.1,hc.2,by simp⟩
    ·exact .pure ⟨.refl (by omega),by simp,by simp,by simp,by simp⟩
   ·rintro ⟨l2,ct2,c,nl,b3,p3⟩ ⟨s3,hl2,hc1,hc3,hnl⟩;simp only at s3 hl2 hc1 hc3 hnl ⊢;have g3:Gd ⟨b3,p3⟩ (3*bC d):=g2.to s3 (by omega);have e1:aY (((d+1:Nat):Int)-1)=(d:Int):=by rw[ku (by omega) (by omega)]; omega
    rw[e1];refine Ex.iter (fun s=>(c-s.2.1).toNat) (fun s=>∃j:Nat,(j:Int)≤c∧s.2.1=(j:Int)∧Sp ⟨b3,p3⟩ ⟨s.2.2.2.1,s.2.2.2.2⟩ (j*bC d)∧s.2.2.1.length=j∧∀x∈s.2.2.1,wC x≤U7 d) _ ⟨0,by omega,by simp,by simpa using (Sp.refl (r:=⟨b3,p3⟩) (Int.le_refl 0)),rfl,by simp⟩ ?_;rintro ⟨ct,cnt,l,b,p⟩ ⟨j,j0,j1,j2,j3,j4⟩;simp only at j1 j2 j3 j4 ⊢;have hj:j=0∨j=1∨j=2∨j=3:=by omega
    refine .ite (fun hp=>?_) (fun hp=>?_)
    ·have gj:Gd ⟨b,p⟩ (bC d):=g3.to j2 (by rcases hj with rfl | rfl | rfl | rfl <;> simp <;> omega);refine .bind (ih l2 ct _ (by omega) gj) fun k23 ⟨k2,k3,_⟩=>?_;have e2:aY (cnt+1)=cnt+1:=ku (by omega) (by omega);rw[e2];refine .bp _ (dJ (by simp; omega)) (Ex.pure ⟨fun _ e=>(by cases e),fun s' e=>?_⟩);cases e;refine⟨⟨j+1,by omega,by simp only; omega,?_,by simp; omega,?_⟩,by simp only; omega⟩
     ·refine j2.trans (D:=((j+1:Nat):Int)*bC d) k2 ?_;rcases hj with rfl | rfl | rfl | rfl <;> simp <;> omega
     ·intro x hx;rcases List.mem_append.1 hx with h | h
      ·exact j4 x h
      ·rw[List.mem_singleton.1 h]; exact k3
    ·refine Ex.pure ⟨fun w e=>?_,fun s' e=>(by cases e)⟩;cases e;have hjc:(j:Int)=c:=by omega
     refine⟨?_,?_,.inr ?_⟩
     ·refine s1.trans (s2.trans (s3.trans (j2.mono (C:=3*bC d) ?_) (D:=3+3*bC d) (by omega)) (D:=4+3*bC d) (by omega)) (by simp only[bC]; omega);rcases hj with rfl | rfl | rfl | rfl <;> simp <;> omega
     ·have:=XE j4;have:l.length*U7 d≤3*U7 d:=Nat.mul_le_mul_right _ (by omega);simp only[wC,wF,pV,U7,List.length_nil]; omega
     ·intro e;simp only at e;rw[e] at j3;simp at j3; omega
theorem Ex.skip {L:Nat} (hL:L≤1000000) {step:Nat→Int→Option (Int⊕Int)} {at_:Nat} (ha:at_≤L) (h1:∀i:Nat,i<L→Ex (fun n=>step n (i:Int)) (fun r=>r=.inr ((i+1:Nat):Int)∨r=.inl (i:Int))) (h2:Ex (fun n=>step n (L:Int)) (fun r=>r=.inl (L:Int))) :
  Ex (fun n=>iterM n (step n) (at_:Int)) (fun r=>∃k:Nat,r=(k:Int)∧at_≤k∧k≤L):=by
 refine Ex.iter (fun s=>L-s.toNat) (fun s=>∃i:Nat,s=(i:Int)∧at_≤i∧i≤L) _ ⟨at_,rfl,Nat.le_refl _,ha⟩ ?_;rintro s ⟨i,rfl,h3,h4⟩;rcases Nat.lt_or_ge i L with h | h
 ·refine(h1 i h).mono ?_;rintro r (rfl | rfl)
  ·exact⟨fun w e=>(by cases e),fun s' e=>by cases e; exact⟨⟨i+1,rfl,by omega,by omega⟩,by simp; omega⟩⟩
  ·exact⟨fun w e=>by cases e; exact⟨i,rfl,h3,h4⟩,fun s' e=>(by cases e)⟩
 ·have:i=L:=by omega
  subst this;refine h2.mono ?_;rintro r rfl;exact⟨fun w e=>by cases e; exact⟨_,rfl,h3,h4⟩,fun s' e=>(by cases e)⟩
theorem IX (s:List UInt8) (hs:s.length≤1000000) (a:Nat) (ha:a≤s.length):Ex (fun n=>oO n s (a:Int)) (fun r=>∃k:Nat,r=(k:Int)∧a≤k∧k≤s.length):=by
 unfold oO;refine Ex.skip hs ha (fun i hi=>?_) ?_
 ·have hy:=List.getElem?_eq_getElem hi;rw[if_pos (by omega),dP hy];simp only[Option.bind_some];by_cases h:((s[i].toNat:Int)=32)
  ·rw[decide_eq_true h]; exact .pos rfl (.pure (.inl (by rw[fV (by omega)])))
  ·rw[decide_eq_false h]; exact .neg (by simp) (.pure (.inr rfl))
 ·rw[if_neg (by omega)]; simp only[Option.bind_some]; exact .neg (by simp) (.pure rfl)
theorem abK (s:List UInt8) (hs:s.length≤1000000) (a:Nat) (ha:a≤s.length):Ex (fun n=>xk n s (a:Int)) (fun r=>∃k:Nat,r=(k:Int)∧a≤k∧k≤s.length):=by
 unfold xk;refine Ex.skip hs ha (fun i hi=>?_) ?_
 ·have hy:=List.getElem?_eq_getElem hi;rw[if_pos (by omega),dP hy];simp only[Option.bind_some];refine Ex.bind (P:=fun _=>True) (.ite (fun _=>.ite (fun _=>.ite (fun _=>.pure trivial) (fun _=>.pure trivial)) (fun _=>.pure trivial)) (fun _=>.pure trivial)) ?_;intro b _;exact .ite (fun _=>.pure (.inl (by rw[fV (by omega)]))) (fun _=>.pure (.inr rfl))
 ·rw[if_neg (by omega)]; simp only[Option.bind_some]; exact .neg (by simp) (.pure rfl)
theorem Gt {α:Type} {l:List α} {a b:Nat} (h:a≤b) (hb:b≤l.length):Gm l (a:Int) (b:Int)=some ((l.drop a).take (b-a)):=by
 unfold Gm;rw[if_pos ⟨by omega,by omega,by omega⟩];simp
theorem XF (s:List UInt8) (hs:s.length≤1000000):Ex (fun n=>lH n s) (fun r=>r.2=true→s≠[]):=by
 unfold lH;by_cases h0:s=[]
 ·subst h0;simp only[List.length_nil,Option.bind_some];exact .pure (fun h=>by cases h)
 have hl:0<s.length:=List.length_pos_iff.2 h0;refine Ex.mono (Q:=fun _=>True) ?_ (fun _ _ _=>h0);have hy:=List.getElem?_eq_getElem hl;refine Ex.bind (P:=fun b=>b=decide ((s[0].toNat:Int)=45)) (.pos (by omega) (.bp _ (dP (i:=0) hy) (.pure rfl))) ?_;rintro o1 rfl;refine Ex.bind (P:=fun t=>t.length≤1000000) ?_ ?_
 ·refine .ite (fun _=>?_) (fun _=>.pure hs);have:=Gt (l:=s) (a:=1) (b:=s.length) (by omega) (Nat.le_refl _);exact .bp _ this (.pure (by simp; omega))
 intro t ht;refine Ex.bind (P:=fun b=>b=false→0<t.length) ?_ ?_
 ·refine .ite (fun _=>.pure (fun h=>by cases h)) (fun h1=>.ite (fun _=>.pure (fun h=>by cases h)) (fun _=>?_));have ht0:0<t.length:=by omega
  refine .bp _ (dP (i:=0) (List.getElem?_eq_getElem ht0)) ?_;exact .ite (fun _=>.ite (fun _=>.pure (fun h=>by cases h)) (fun _=>.pure fun _=>ht0)) (fun _=>.pure fun _=>ht0)
 intro o3 ho3;refine .ite (fun _=>.pure trivial) (fun h3=>?_);refine Ex.iter (fun s=>t.length-s.2.toNat) (fun s=>∃i:Nat,s.2=(i:Int)∧i≤t.length) _ ⟨0,rfl,Nat.zero_le _⟩ ?_;rintro ⟨k,p⟩ ⟨i,hi,hil⟩;simp only at hi;subst hi;simp only;refine .ite (fun h=>?_) (fun h=>?_)
 ·have hi:i<t.length:=by omega
  have hy:=List.getElem?_eq_getElem hi;rw[dP hy];simp only[Option.bind_some];refine Ex.bind (P:=fun _=>True) (.ite (fun _=>.pure trivial) (fun _=>.pure trivial)) ?_;intro b _;refine .ite (fun _=>.pure ⟨fun _ _=>trivial,fun _ e=>(by cases e)⟩) (fun _=>.pure ⟨fun _ e=>(by cases e),fun s' e=>?_⟩);cases e;exact⟨⟨i+1,by simp only; rw[fV (by omega)],by omega⟩,by simp only; rw[fV (by omega)]; simp; omega⟩
 ·refine Ex.bind (P:=fun _=>True) (.ite (fun _=>.pure trivial) (fun _=>.pure trivial)) ?_;intro b _;exact .pure ⟨fun _ _=>trivial,fun _ e=>(by cases e)⟩
theorem adM (s:List UInt8) (hs:s.length≤1000000) (c:Int):Ex (fun n=>wZ n s c) (fun r=>r.length≤s.length+1∧∀x∈r,x.length≤s.length):=by
 unfold wZ;refine Ex.iter (fun t=>s.length+1-t.2.2.toNat) (fun t=>∃a i:Nat,t.2.1=(a:Int)∧t.2.2=(i:Int)∧a≤i∧i≤s.length+1∧t.1.length≤i∧∀x∈t.1,x.length≤s.length) _ ⟨0,0,rfl,rfl,Nat.le_refl _,by omega,by simp,by simp⟩ ?_;rintro ⟨l,p,q⟩ ⟨a,i,ha,hi,h1,h2,h3,h4⟩;simp only at ha hi h3 h4;subst ha; subst hi;simp only;refine .ite (fun h=>?_) (fun h=>.pure ⟨fun w e=>by cases e; exact⟨by omega,h4⟩,fun _ e=>(by cases e)⟩);have hil:i≤s.length:=by omega
 refine Ex.bind (P:=fun o=>∃a:Nat,o.2=(a:Int)∧a≤i+1∧o.1.length≤i+1∧∀x∈o.1,x.length≤s.length) ?_ ?_
 ·refine Ex.bind (P:=fun _=>True) ?_ ?_
  ·refine .ite (fun _=>.pure trivial) (fun hne=>?_);exact .bp _ (dP (List.getElem?_eq_getElem (by omega))) (.pure trivial)
  intro b _;refine .ite (fun _=>?_) (fun _=>.pure ⟨a,rfl,by omega,by simp only; omega,h4⟩);refine .bp _ (Gt h1 hil) (.bp _ (dJ (by simp; omega)) (.pure ⟨i+1,by rw[fV (by omega)],Nat.le_refl _,by simp; omega,?_⟩));intro x hx;rcases List.mem_append.1 hx with hx | hx
  ·exact h4 x hx
  ·rw[List.mem_singleton.1 hx]; simp; omega
 rintro ⟨l',p'⟩ ⟨a',ha',h5,h6,h7⟩;simp only at ha' h6 h7;subst ha';refine .pure ⟨fun _ e=>(by cases e),fun s' e=>?_⟩;cases e;exact⟨⟨a',i+1,rfl,by simp only; rw[fV (by omega)],h5,by omega,h6,h7⟩,by simp only; rw[fV (by omega)]; simp; omega⟩
theorem abL (s:List UInt8) (hs:s.length≤1000000) (a:Nat) (ha:a≤s.length):Ex (fun n=>xg n s (a:Int)) (fun r=>r.1.length≤25∧(r.2=-1∨∃k:Nat,r.2=(k:Int)∧a≤k∧k≤s.length)):=by
 unfold xg;refine Ex.bind (P:=fun b=>b=false→∃h:a<s.length,(s[a].toNat:Int)=123) ?_ ?_
 ·refine .ite (fun _=>.pure (fun h=>by cases h)) (fun h=>?_);refine .bp _ (dP (List.getElem?_eq_getElem (by omega))) (.pure (fun hd=>⟨by omega,?_⟩));have:=of_decide_eq_false hd;exact Classical.not_not.1 this
 intro b hb;refine .ite (fun _=>.pure ⟨by simp,.inr ⟨a,rfl,Nat.le_refl _,ha⟩⟩) (fun hb1=>?_);obtain⟨hal,afR⟩:=hb (by simpa using hb1);have hw1:aY ((a:Int)+1)=((a+1:Nat):Int):=fV (by omega);refine Ex.iter (fun t=>s.length-t.toNat) (fun t=>∃i:Nat,t=(i:Int)∧a≤i∧i≤s.length) _ ⟨a,rfl,Nat.le_refl _,by omega⟩ ?_;rintro t ⟨i,rfl,h1,h2⟩;refine Ex.bind (P:=fun o=>(o=true→i<s.length)∧(o=false→a+1≤i)) ?_ ?_
 ·refine .ite (fun h=>?_) (fun h=>.pure ⟨fun h=>(by cases h),fun _=>by omega⟩);have hi:i<s.length:=by omega
  refine .bp _ (dP (List.getElem?_eq_getElem hi)) (.pure ⟨fun _=>hi,fun hd=>?_⟩);have adO:(s[i].toNat:Int)=125:=Classical.not_not.1 (of_decide_eq_false hd);rcases Nat.lt_or_eq_of_le h1 with h | h
  ·omega
  ·subst h; rw[afR] at adO; cases adO
 rintro o ⟨o1,o2⟩;refine .ite (fun h=>.pure ⟨fun _ e=>(by cases e),fun s' e=>?_⟩) (fun h=>?_)
 ·cases e;have:=o1 h;exact⟨⟨i+1,by rw[fV (by omega)],by omega,by omega⟩,by rw[fV (by omega)]; simp; omega⟩
 have hai:=o2 (by simpa using h);refine .ite (fun _=>.pure ⟨fun w e=>by cases e; exact⟨by simp,.inl rfl⟩,fun _ e=>(by cases e)⟩) (fun hne=>?_);have hil:i<s.length:=by omega
 rw[hw1];refine .bp _ (Gt hai h2) (.bind (adM _ (by simp; omega) 44) fun parts ⟨p1,p2⟩=>?_);have hz:((s.drop (a+1)).take (i-(a+1))).length≤1000000:=by simp; omega
 refine Ex.mono (Q:=fun r:(List Int×Int)⊕Int=>∃w,r=.inl w∧w.1.length≤25∧(w.2=-1∨∃k:Nat,w.2=(k:Int)∧a≤k∧k≤s.length)) ?_ ?_
 ·refine Ex.iter (fun t=>26-t.2.toNat) (fun t=>∃j:Nat,t.2=(j:Int)∧j≤25∧j≤parts.length∧t.1.length≤j) _ ⟨0,rfl,by omega,by omega,by simp⟩ ?_;rintro ⟨l,q⟩ ⟨j,hj,j1,j2,j3⟩;simp only at hj j3;subst hj;simp only;refine Ex.bind (P:=fun o=>o=true→j<parts.length∧j≤24) (.ite (fun h=>.pure fun hd=>⟨by omega,by have:=of_decide_eq_true hd; omega⟩) (fun h=>.pure fun h=>by cases h)) ?_;intro o ho;refine .ite (fun h=>?_) (fun h=>.pure ⟨fun w e=>by cases e; exact⟨_,rfl,by simp only; omega,.inr ⟨i+1,by simp only; rw[fV (by omega)],by omega,by omega⟩⟩,fun _ e=>(by cases e)⟩);obtain⟨hj1,hj2⟩:=ho h;have hmem:parts[j]∈parts:=List.getElem_mem hj1;refine .bp _ (dP (List.getElem?_eq_getElem hj1)) (.bind (XF _ (by have:=p2 _ hmem; omega)) fun k15 _=>?_);refine .ite (fun _=>.pure ⟨fun w e=>by cases e; exact⟨_,rfl,by simp only; omega,.inl rfl⟩,fun _ e=>(by cases e)⟩) (fun _=>?_);refine .bp _ (dJ (by simp; omega)) (.pure ⟨fun _ e=>(by cases e),fun s' e=>?_⟩);cases e;exact⟨⟨j+1,by simp only; rw[fV (by omega)],by omega,by omega,by simp; omega⟩,by simp only; rw[fV (by omega)]; simp; omega⟩
 ·rintro r ⟨w,rfl,hw⟩;exact⟨fun w' e=>by cases e; exact hw,fun _ e=>(by cases e)⟩
theorem abM (s:List UInt8) (hs:s.length≤1000000) (a:Nat) (ha:a≤s.length):Ex (fun n=>xq n s (a:Int)) (fun r=>r.2=-1∨∃k:Nat,r.2=(k:Int)∧a<k∧k≤s.length∧wF r.1+1≤30*(k-a)):=by
 unfold xq;refine .bind (abK s hs a ha) fun k1 ⟨k,hk,h1,h2⟩=>?_;subst hk;refine .bp _ (Gt h1 h2) (.bind (XF _ (by simp; omega)) fun k3 h3=>?_);have hlen:((s.drop a).take (k-a)).length=k-a:=by simp; omega
 have hne:((s.drop a).take (k-a))≠[]→a<k:=fun h=>by
  have:=List.length_pos_iff.2 h;omega
 refine .ite (fun h=>.pure (.inr ⟨k,rfl,hne (h3 h),h2,?_⟩)) (fun _=>.ite (fun _=>.pure (.inl rfl)) (fun h=>?_))
 ·have:=hne (h3 h);simp[wF,pV]; omega
 ·have hak:=hne h;refine .bind (abL s hs k h2) fun k6 ⟨q1,q2⟩=>.pure ?_;rcases q2 with q2 | ⟨m,q2,q3,q4⟩
  ·exact .inl q2
  ·refine .inr ⟨m,q2,by omega,q4,?_⟩;simp only[wF,pV,List.length_nil,hlen]; omega
theorem abN:∀(d:Nat),d≤40→∀(s:List UInt8),s.length≤1000000→∀(a:Nat),a≤s.length→Ex (fun n=>qE n s (a:Int) (d:Int)) (fun r=>r.2=-1∨∃k:Nat,r.2=(k:Int)∧a<k∧k≤s.length∧wF r.1+1≤30*(k-a)):=by
 intro d
 induction d with
 | zero=>
  intro _ s hs a ha;refine .succ ?_;simp only[qE];refine .bind (IX s hs a ha) fun k1 ⟨k,hk,h1,h2⟩=>?_;refine Ex.bind (P:=fun b=>b=true) (.ite (fun _=>.pure rfl) (fun _=>.pure rfl)) ?_;rintro b rfl;exact .pos rfl (.pure (.inl rfl))
 | succ d ih=>
  intro hd s hs a ha;have ih:=ih (by omega) s hs;refine .succ ?_;simp only[qE];refine .bind (IX s hs a ha) fun k1 ⟨k,hk,h1,h2⟩=>?_;subst hk;refine Ex.bind (P:=fun b=>b=false→k<s.length) (.ite (fun _=>.pure (fun h=>by cases h)) (fun _=>.pure (fun _=>by omega))) ?_;intro b hb;refine .ite (fun _=>.pure (.inl rfl)) (fun hb1=>?_);have hk:=hb (by simpa using hb1);refine .bp _ (dP (List.getElem?_eq_getElem hk)) ?_;refine .ite (fun _=>?_) (fun _=>?_)
  ·refine .bind (abM s hs k h2) fun k6 h6=>.pure ?_;rcases h6 with h6 | ⟨m,q1,q2,q3,q4⟩
   ·exact .inl h6
   ·exact .inr ⟨m,q1,by omega,q3,by simp only; omega⟩
  ·have hw1:aY ((k:Int)+1)=((k+1:Nat):Int):=fV (by omega);have hw2:aY (((d+1:Nat):Int)-1)=(d:Int):=by rw[ku (by omega) (by omega)]; omega
   rw[hw1,hw2];refine .bind (IX s hs (k+1) (by omega)) fun k7 ⟨m,hm,q1,q2⟩=>?_;subst hm;refine Ex.iter (fun t=>s.length-t.1.toNat) (fun t=>∃i:Nat,t.1=(i:Int)∧k+1≤i∧i≤s.length∧t.2.length≤400∧pV t.2+t.2.length≤30*(i-(k+1))) _ ⟨m,rfl,q1,q2,by simp,by simp[pV]⟩ ?_;rintro ⟨p,l⟩ ⟨i,hi,i1,i2,i3,i4⟩;simp only at hi i3 i4;subst hi;simp only;refine Ex.bind (P:=fun o=>o=true→i<s.length∧l.length<400) ?_ ?_
   ·refine .ite (fun h=>?_) (fun _=>.pure fun h=>by cases h);refine .bp _ (dP (List.getElem?_eq_getElem (by omega))) ?_;exact .ite (fun _=>.pure fun hd=>⟨by omega,by have:=of_decide_eq_true hd; omega⟩) (fun _=>.pure fun h=>by cases h)
   intro o ho;refine .ite (fun h=>?_) (fun h=>?_)
   ·obtain⟨ho1,ho2⟩:=ho h;refine .bind (ih i i2) fun k12 h12=>?_;rcases h12 with h12 | ⟨j,r1,r2,r3,r4⟩
    ·rw[h12];exact .pos (by omega) (.pure ⟨fun w e=>by cases e; exact .inl rfl,fun _ e=>(by cases e)⟩)
    ·rw[r1];refine .neg (by omega) (.bp _ (dJ (by simp; omega)) (.bind (IX s hs j r3) fun k15 ⟨u,hu,u1,u2⟩=>?_));subst hu;refine .pure ⟨fun _ e=>(by cases e),fun s' e=>?_⟩;cases e;refine⟨⟨u,rfl,by omega,u2,by simp; omega,?_⟩,by simp; omega⟩;have happ:∀(x y:List Form),pV (x++y)=pV x+pV y:=fun x y=>by
      induction x with
      | nil=>simp[pV]
      | cons z x ih=>simp only[List.cons_append,pV,ih]; omega
     simp only[happ,pV,List.length_append,List.length_singleton];omega
   ·refine Ex.bind (P:=fun o=>o=false→i<s.length) ?_ ?_
    ·refine .ite (fun _=>.pure (fun h=>by cases h)) (fun h=>?_);exact .bp _ (dP (List.getElem?_eq_getElem (by omega))) (.pure fun _=>by omega)
    intro o2 ho2;refine .ite (fun _=>.pure ⟨fun w e=>by cases e; exact .inl rfl,fun _ e=>(by cases e)⟩) (fun h2'=>?_);have hi:=ho2 (by simpa using h2');refine .pure ⟨fun w e=>?_,fun _ e=>(by cases e)⟩;cases e;refine .inr ⟨i+1,by simp only; rw[fV (by omega)],by omega,by omega,?_⟩;simp only[wF,List.length_nil]; omega
theorem MJ (s:List UInt8) (hs:s.length≤1000000):Ex (fun n=>nZ n s) (fun f=>wF f≤30*s.length):=by
 unfold nZ;refine Ex.bind (P:=fun r=>wF r.1≤30*s.length) ?_ (fun r hr=>.pure hr);unfold sK;refine .bind (abN 40 (by omega) s hs 0 (Nat.zero_le _)) fun k1 h1=>?_;refine Ex.bind (P:=fun b=>b=false→wF k1.1≤30*s.length) ?_ ?_
 ·rcases h1 with h1 | ⟨k,q1,q2,q3,q4⟩
  ·rw[h1]; exact .pos (by omega) (.pure fun h=>by cases h)
  ·rw[q1];refine .neg (by omega) (.bind (IX s hs k q3) fun k5 _=>.ite (fun _=>.pure fun h=>by cases h) (fun _=>?_));have hw:wF k1.1≤30*s.length:=by omega
   exact .bv (Gs k1.1 (FB _ (by omega)) (by have:=SX k1.1; omega)) (.pure fun _=>hw)
 intro b hb;exact .ite (fun _=>.pure (by simp[wF,pV])) (fun h=>.pure (hb (by simpa using h)))
def b7:Nat→Int
 | 0=>3
 | d+1=>24+3*b7 d
def w7:Nat→Nat
 | 0=>20
 | d+1=>60+3*w7 d
theorem XG:∀d,3≤b7 d
 | 0=>by simp[b7]
 | d+1=>by have:=XG d; simp only[b7]; omega
theorem abO:∀d,20≤w7 d
 | 0=>by simp[w7]
 | d+1=>by simp only[w7]; omega
theorem Zx:∀(d:Nat),d≤10→∀(ns:List (List UInt8)) (r:bf),1≤ns.length→ns.length≤1000-d→(∀x∈ns,x.length≤20)→Gd r (b7 d)→Ex (fun n=>gu n ns (d:Int) r) (fun k=>Sp r k.2 (b7 d)∧wF k.1≤w7 d):=by
 intro d;have leaf:∀(ns:List (List UInt8)) (r:bf),1≤ns.length→(∀x∈ns,x.length≤20)→Gd r 2→Ex (fun n=>(aP n 3 r).bind fun k3=>(if k3.1=0 then(dw n [0,1,2,7] k3.2).bind fun k5=>some ((⟨2,[],k5.1,[],[]⟩:Form),k5.2) else(aP n (ns.length:Int) k3.2).bind fun k6=>(gQ ns k6.1).bind fun e7=>(fC n e7).bind fun k8=>some (k8,k6.2))) (fun k=>Sp r k.2 2∧wF k.1≤20):=by
  intro ns r h1 h2 g;refine .bind (iQ g (by omega)) fun k3 ⟨s1,_⟩=>.ite (fun _=>?_) (fun _=>?_)
  ·refine .bind (xB (by simp) (g.to s1 (D:=1) (by omega)) (by omega)) fun k5 ⟨s2,_⟩=>.pure ⟨s1.trans s2 (by omega),by simp[wF,pV]⟩
  ·refine .bind (iQ (g.to s1 (D:=1) (by omega)) (by omega)) fun k6 ⟨s2,hv⟩=>?_;obtain⟨v0,v1⟩:=hv (by omega);obtain⟨x,hx,hm⟩:=cZ v0 v1;unfold fC;exact .bp x hx (.pure ⟨s1.trans s2 (by omega),by have:=h2 x hm; simp[wF,pV]; omega⟩)
 induction d with
 | zero=>
  intro _ ns r h1 _ h2 g;have g:Gd r 3:=g;refine .succ ?_;simp only[gu];refine Ex.bind (P:=fun o=>o=(true,r)) (.pos rfl (.pure rfl)) ?_;rintro o rfl;exact .pos rfl ((leaf ns r h1 h2 (g.to (.refl (Int.le_refl 0)) (by omega))).mono fun k ⟨a,b⟩=>⟨a.mono (by simp[b7]),b⟩)
 | succ d ih=>
  intro hd ns r h1 hl h2 g;have ih:=ih (by omega);have hB:=XG d;have hW:=abO d;have g:Gd r (24+3*b7 d):=g;refine .succ ?_;simp only[gu];refine Ex.bind (P:=fun o=>Sp r o.2 1) (.neg (by omega) (.bind (iQ g (by omega)) fun k15 ⟨s1,_⟩=>.pure s1)) ?_;rintro ⟨b,r1⟩ s1;have g1:Gd r1 (23+3*b7 d):=g.to s1 (by omega);refine .ite (fun _=>?_) (fun _=>?_)
  ·exact(leaf ns r1 h1 h2 (g1.to (.refl (Int.le_refl 0)) (by omega))).mono fun k ⟨a,b⟩=>⟨s1.trans a (by simp only[b7]; omega),by simp only[w7]; omega⟩
  ·refine .bind (Xz (by simp) g1 (by omega)) fun k10 ⟨s2,hm⟩=>?_;obtain⟨x,r2⟩:=k10;simp only at s2 hm ⊢;have hx:x.length=1:=by
    simp only[List.mem_cons,List.not_mem_nil,or_false] at hm;rcases hm with rfl | rfl | rfl <;> rfl
   have g2:Gd r2 (22+3*b7 d):=g1.to s2 (by omega);refine .bp _ (nR (by omega)) (.bp _ (dJ (by simp; omega)) (.bind (iQ g2 (by omega)) fun k13 ⟨s3,_⟩=>?_));obtain⟨v,r3⟩:=k13;simp only at s3 ⊢;have g3:Gd r3 (21+3*b7 d):=g2.to s3 (by omega);have s03:Sp r r3 3:=s1.trans (s2.trans s3 (D:=2) (by omega)) (by omega);have e1:aY (((d+1:Nat):Int)-1)=(d:Int):=by rw[ku (by omega) (by omega)]; omega
   rw[e1];simp only[fC,gU,Option.bind_some];have h2':∀y∈ns++[x],y.length≤20:=fun y hy=>by
    rcases List.mem_append.1 hy with hy | hy
    ·exact h2 y hy
    ·rw[List.mem_singleton.1 hy]; omega
   have i1:∀r',Gd r' (b7 d)→_:=fun r' gr=>ih ns r' h1 (by omega) h2 gr;have i2:∀r',Gd r' (b7 d)→_:=fun r' gr=>ih (ns++[x]) r' (by simp) (by simp; omega) h2' gr;refine Ex.bind (P:=fun _=>True) (.ite (fun _=>.pure trivial) (fun _=>.pure trivial)) ?_;intro b1 _;refine .ite (fun _=>?_) (fun _=>?_)
   ·refine .bind (i2 r3 (g3.to (.refl (Int.le_refl 0)) (by omega))) fun k19 ⟨t1,u1⟩=>.pure ⟨s03.trans t1 (by simp only[b7]; omega),?_⟩;simp only[wF,pV,w7,List.length_cons,List.length_nil]; omega
   refine Ex.bind (P:=fun _=>True) (.ite (fun _=>.pure trivial) (fun _=>.pure trivial)) ?_;intro b2 _;refine .ite (fun _=>?_) (fun _=>.ite (fun _=>?_) (fun _=>.ite (fun _=>?_) (fun _=>?_)))
   ·refine .bind (i1 r3 (g3.to (.refl (Int.le_refl 0)) (by omega))) fun k24 ⟨t1,u1⟩=>?_;refine .bind (i2 k24.2 (g3.to t1 (by omega))) fun k28 ⟨t2,u2⟩=>.pure ⟨s03.trans (t1.trans t2 (D:=2*b7 d) (by omega)) (by simp only[b7]; omega),?_⟩;simp only[wF,pV,w7,List.length_cons,List.length_nil]; omega
   ·refine .bind (i1 r3 (g3.to (.refl (Int.le_refl 0)) (by omega))) fun k32 ⟨t1,u1⟩=>?_;refine .bind (i1 k32.2 (g3.to t1 (by omega))) fun k33 ⟨t2,u2⟩=>?_;have z:Ex (fun n=>gu n ns 0 k33.2) (fun k=>Sp k33.2 k.2 3∧wF k.1≤20):=by
     have g4:Gd k33.2 3:=(g3.to t1 (D:=21+2*b7 d) (by omega)).to t2 (by omega);refine .succ ?_;simp only[gu];refine Ex.bind (P:=fun o=>o=(true,k33.2)) (.pos trivial (.pure rfl)) ?_;rintro o rfl;exact .pos rfl ((leaf ns k33.2 h1 h2 (g4.to (.refl (Int.le_refl 0)) (by omega))).mono fun k ⟨a,b⟩=>⟨a.mono (by omega),b⟩)
    refine .bind z fun k34 ⟨t3,u3⟩=>.pure ⟨s03.trans (t1.trans (t2.trans t3 (D:=3+b7 d) (by omega)) (D:=3+2*b7 d) (by omega)) (by simp only[b7]; omega),?_⟩;simp only[wF,pV,w7,List.length_cons,List.length_nil]; omega
   ·have e34:bF 1=12:=by simp[bF]
    refine .bind (TB 1 (by omega) r3 (by rw[e34]; exact g3.to (.refl (Int.le_refl 0)) (by omega))) fun k38 ⟨t1,hf⟩=>.pure ⟨s03.trans t1 (by rw[e34]; simp only[b7]; omega),?_⟩;have:=IW 1 hf;simp only[wD] at this;simp only[wF,pV,w7,List.length_cons,List.length_nil]; omega
   ·refine .bind (i1 r3 (g3.to (.refl (Int.le_refl 0)) (by omega))) fun Zn ⟨t1,u1⟩=>?_;refine .bind (i1 Zn.2 (g3.to t1 (by omega))) fun Zo ⟨t2,u2⟩=>.pure ⟨s03.trans (t1.trans t2 (D:=2*b7 d) (by omega)) (by simp only[b7]; omega),?_⟩;simp only[wF,pV,w7,List.length_cons,List.length_nil]; omega
def t7:List (List UInt8):=[ny,ni,mP,mX,mF,mM,mO,mJ,mW,ng,lZ,mG,mZ,mQ,mY]
theorem abP:∀x∈t7,x.length≤500:=by decide
theorem Zy (r:bf) (g:Gd r 100000):Ex (fun n=>xu n r) (fun k=>Sp r k.2 100000∧wF k.1≤100000):=by
 unfold xu yx;refine .bp t7 rfl (.bind (iQ g (by omega)) fun k2 ⟨s1,_⟩=>?_);have g1:Gd k2.2 99999:=g.to s1 (by omega);refine .ite (fun _=>?_) (fun _=>?_)
 ·refine .bind (iQ g1 (by omega)) fun k4 ⟨s2,hv⟩=>?_;obtain⟨v0,v1⟩:=hv (by decide);obtain⟨x,hx,hm⟩:=cZ v0 v1;have hl:=abP x hm;refine .bp x hx (.bind (MJ x (by omega)) fun k6 hk=>.pure ⟨s1.trans s2 (by omega),by simp only; omega⟩)
 ·refine .bind (xB (by simp) g1 (by omega)) fun k8 ⟨s2,hm⟩=>?_;have g2:Gd k8.2 99998:=g1.to s2 (by omega);obtain⟨d,hd,hk⟩:∃d:Nat,d≤4∧k8.1=(d:Int):=by
   simp only[List.mem_cons,List.not_mem_nil,or_false] at hm;rcases hm with h | h | h
   ·exact⟨4,by omega,h⟩
   ·exact⟨3,by omega,h⟩
   ·exact⟨2,by omega,h⟩
  rw[hk];have hB:b7 d≤10000∧w7 d≤10000:=by
   have:d=0∨d=1∨d=2∨d=3∨d=4:=by omega
   rcases this with rfl | rfl | rfl | rfl | rfl <;> simp[b7,w7]
  refine .bind (Zx d (by omega) [[43],[108,105,115,116],[103]] k8.2 (by simp) (by simp; omega) (by decide) (g2.to (.refl (Int.le_refl 0)) (by omega))) fun k9 ⟨s3,w3⟩=>?_;have g3:Gd k9.2 80000:=g2.to s3 (by omega);refine .bind (iQ g3 (by omega)) fun k10 ⟨s4,_⟩=>?_;refine Ex.bind (P:=fun f=>wF f≤100000) (.ite (fun _=>?_) (fun _=>.pure (by omega))) ?_
  ·have hl:BD.length≤500:=by decide
   refine .bind (MJ _ (by omega)) fun k13 hk=>?_;have hl2:iC.length≤20:=by decide
   simp only[fC,gU,Option.bind_some];refine .pure ?_;simp only[wF,pV,List.length_cons,List.length_nil]; omega
  ·intro f hf;exact .pure ⟨s1.trans (s2.trans (s3.trans s4 (D:=10001) (by omega)) (D:=10002) (by omega)) (by omega),hf⟩
theorem Ex.anyI {α ω:Type} {m:Nat→α→Option Bool} {p:α→Bool} {yes:ω} {xs:List α} {f:Nat→Unit→Option ω} {Q:ω→Prop} (h:∀x∈xs,gG (fun n=>m n x) (p x)) (hy:xs.any p=true→Q yes) (hn:xs.any p=false→Ex (fun n=>f n ()) Q) :
  Ex (fun n=>Mx.bI (Mx.bQ (fun(_:Unit) (_:Nat) (x:α)=>((m n x).bind fun k=>(if k=true then some (Sum.inl yes) else some (Sum.inr ())):Option (ω⊕Unit))) 0 xs ()) (f n)) Q:=by
 refine Ex.bI (P:=fun o=>match o with
  | .inl w=>w=yes∧xs.any p=true
  | .inr _=>xs.any p=false) ?_ ?_ ?_
 ·refine Ex.bQ (I:=fun i q s=>(∀x∈q,x∈xs)∧xs.any p=q.any p) ⟨fun _ h=>h,rfl⟩ ?_ ?_
  ·rintro i x q s ⟨h1,h2⟩;refine .bv (h x (h1 x (List.mem_cons_self))) ?_;cases hp:p x with
   | false=>exact .neg (by simp) (.fg ⟨fun y hy=>h1 y (List.mem_cons_of_mem _ hy),by rw[h2,List.any_cons,hp,Bool.false_or]⟩)
   | true=>exact .pos rfl (.fo ⟨rfl,by rw[h2,List.any_cons,hp,Bool.true_or]⟩)
  ·rintro s ⟨_,h2⟩;exact h2
 ·rintro w ⟨rfl,h⟩; exact hy h
 ·rintro ⟨⟩ h; exact hn h
def Ph {α β:Type} (R:α→β→Prop):List α→List β→Prop
 | [],[]=>True
 | x::xs,y::ys=>R x y∧Ph R xs ys
 | _,_=>False
theorem Pj {α β:Type} {R:α→β→Prop} {x:α} {y:β} (h:R x y):∀{xs:List α} {ys:List β},Ph R xs ys→Ph R (xs++[x]) (ys++[y])
 | [],[],_=>⟨h,trivial⟩
 | a::xs,b::ys,h2=>⟨h2.1,Pj h h2.2⟩
theorem Pm {α β:Type} {R:α→β→Prop}:∀{xs:List α} {ys:List β},Ph R xs ys→xs.length=ys.length
 | [],[],_=>rfl
 | _::_,_::_,h=>by simp[Pm h.2]
theorem Ex.adQ {α β:Type} {m:Nat→α→Option β} {R:α→β→Prop} {xs:List α} {be:Nat} (hb:xs.length*be≤140737488355328) (h:∀x∈xs,Ex (fun n=>m n x) (R x)) :
  Ex (fun n=>Mx.dX (fun(s:List β) (_:Nat) (x:α)=>(m n x).bind fun k=>(jy be s [k]).bind fun z=>some z) 0 xs []) (Ph R xs):=by
 refine Ex.dX (I:=fun i q s=>∃p,p++q=xs∧Ph R p s) ⟨[],rfl,trivial⟩ ?_ ?_
 ·rintro i x q s ⟨p,rfl,hr⟩;have hl:=Pm hr;refine .bind (h x (by simp)) fun k hk=>.bp _ (dJ ?_) (.pure ⟨p++[x],by simp,Pj hk hr⟩);refine Nat.le_trans (Nat.mul_le_mul_right _ ?_) hb;simp; omega
 ·rintro s ⟨p,hp,hr⟩;rw[List.append_nil] at hp; rw[← hp]; exact hr
mutual
def PY (s:Nat):Form→Prop
 | ⟨_,nm,_,sc,kids⟩=>nm.length≤12∧sc.length≤s∧zZ s kids
def zZ (s:Nat):List Form→Prop
 | []=>True
 | x::r=>PY s x∧zZ s r
end
theorem yE {s:Nat} {f:Form}:PY s f↔f.name.length≤12∧f.scopes.length≤s∧zZ s f.kids:=by cases f; simp only[PY]
theorem rF {s:Nat}:∀{l:List Form},zZ s l↔∀x∈l,PY s x
 | []=>by simp[zZ]
 | x::r=>by simp[zZ,rF (l:=r)]
theorem XH {s:Nat} {a b:List Form} (h1:zZ s a) (h2:zZ s b):zZ s (a++b):=rF.2 fun x hx=>(List.mem_append.1 hx).elim (rF.1 h1 x) (rF.1 h2 x)
mutual
theorem aaf (s:Nat):∀f:Form,PY s f→wF f+1≤(13+s)*cF f
 | ⟨k,nm,n,sc,kids⟩,h=>by
  simp only[PY] at h;have:=XI s kids h.2.2;simp only[wF,cF,Nat.mul_add]; omega
theorem XI (s:Nat):∀l:List Form,zZ s l→pV l+l.length≤(13+s)*jD l
 | [],_=>by simp[pV]
 | x::r,h=>by
  have:=aaf s x h.1;have:=XI s r h.2;simp only[pV,jD,Nat.mul_add,List.length_cons]; omega
end
mutual
theorem DU {s t:Nat} (hs:s≤t):∀f:Form,PY s f→PY t f
 | ⟨k,nm,n,sc,kids⟩,h=>⟨h.1,Nat.le_trans h.2.1 hs,Kz hs kids h.2.2⟩
theorem Kz {s t:Nat} (hs:s≤t):∀l:List Form,zZ s l→zZ t l
 | [],_=>trivial
 | x::r,h=>⟨DU hs x h.1,Kz hs r h.2⟩
end
theorem UO {s:List UInt8} (h:nameB s=true):s.length≤12:=by
 unfold nameB at h;simp only[Bool.or_eq_true,Bool.and_eq_true,decide_eq_true_eq] at h;rcases h with (rfl | rfl) | ⟨_,_,h⟩
 ·decide
 ·decide
 ·exact h
theorem Zz {l:List Int} (h:U6 l=true):l.length≤24:=by
 unfold U6 at h;simp only[Bool.and_eq_true,decide_eq_true_eq] at h;exact h.2
theorem EF {d:Nat} {f:Form} (h:Jb d f=true):∃e,d=e+1∧f.name.length≤12∧f.scopes.length≤24∧(f.kind=1∨f.kind=2→f.kids=[])∧(f.kind=1∨f.kind=2∨f.kind=3)∧∀x∈f.kids,Jb e x=true:=by
 cases d with
 | zero=>cases h
 | succ e=>
  refine⟨e,rfl,?_⟩;simp only[Jb] at h;split at h
  ·rename_i h1;simp only[Bool.and_eq_true,decide_eq_true_eq] at h;have h4:=List.eq_nil_of_length_eq_zero h.2.2.2;exact⟨UO h.1,Zz h.2.2.1,fun _=>h4,.inl h1,fun x hx=>by rw[h4] at hx; cases hx⟩
  ·split at h
   ·rename_i h1;simp only[Bool.and_eq_true,decide_eq_true_eq] at h;have h4:=List.eq_nil_of_length_eq_zero h.2.2.2;exact⟨by rw[h.1]; decide,by omega,fun _=>h4,.inr (.inl h1),fun x hx=>by rw[h4] at hx; cases hx⟩
   ·split at h
    ·rename_i h1 h2 h3;simp only[Bool.and_eq_true,decide_eq_true_eq,List.all_eq_true] at h;exact⟨by rw[h.1]; decide,by omega,fun q=>by rcases q with q | q <;> omega,.inr (.inr h3),h.2.2.2⟩
    ·cases h
theorem XJ:∀{d:Nat} {f:Form},Jb d f=true→PY 24 f:=by
 intro d
 induction d with
 | zero=>intro f h; cases h
 | succ d ih=>
  intro f h;obtain⟨e,he,h1,h2,_,_,h5⟩:=EF h;obtain rfl:d=e:=by omega
  exact yE.2 ⟨h1,h2,rF.2 fun x hx=>ih (h5 x hx)⟩
def yU (f:Form):Prop:=PY 26 f∧cF f≤401
theorem yU.w {f:Form} (h:yU f):wF f≤15638:=by have:=aaf 26 f h.1; have:=h.2; omega
theorem yU.ok {f:Form} (h:yU f):okF f:=FB f (by have:=h.w; omega)
theorem yU.kid {f x:Form} (h:yU f) (hx:x∈f.kids):yU x:=⟨rF.1 (yE.1 h.1).2.2 x hx,by have:=qN hx; have:=rE f; have:=h.2; omega⟩
theorem AX:∀l:List Form,l.length≤jD l
 | []=>by simp
 | x::r=>by have:=rE x; have:=AX r; simp only[jD,List.length_cons]; omega
theorem yU.len {f:Form} (h:yU f):f.kids.length≤400:=by have:=AX f.kids; have:=rE f; have:=h.2; omega
theorem XK {f:Form} (h:fZ f=true):yU f∧cF f≤400:=by
 unfold fZ at h;simp only[Bool.and_eq_true,decide_eq_true_eq] at h;exact⟨⟨DU (by omega) f (XJ h.1),by omega⟩,h.2⟩
theorem smZ:yU ⟨0,[],0,[],[]⟩:=⟨by simp[PY,zZ],by simp[cF,jD]⟩
theorem qF {f:Form} (h:yU f):gG (fun n=>bV n f) (fZ f):=Gs f h.ok (by have:=h.2; omega)
theorem MK {f:Form} (h:yU f):gG (fun n=>iT n f) f:=MH f (by have:=h.w; omega)
theorem abQ {f:Form} (h:yU f):gG (fun n=>kQ n f) (cF f:Int):=MB f (by have:=h.2; omega)
theorem XL (l:List Int) (x:Int) (hl:l.length≤1000000):Ex (fun n=>zU n l x) (fun r=>r.length≤l.length+1):=by
 unfold zU;simp only[DT,Option.bind_some];refine Ex.bind (P:=fun s=>s.1.length≤l.length+1∧(s.2=false→s.1.length≤l.length)) ?_ ?_
 ·refine Ex.dX (I:=fun i q s=>(i+q.length=l.length)∧s.1.length≤i+1∧(s.2=false→s.1.length≤i)) ⟨by simp,by simp,by simp⟩ ?_ ?_
  ·rintro i y q ⟨s,b⟩ ⟨h1,h2,h3⟩;simp only[List.length_cons] at h1 h2 h3 ⊢;refine Ex.bind (P:=fun o=>o=true→b=false) (.ite (fun hb=>.pure fun _=>by simpa using hb) (fun hb=>.pure (by simp))) ?_;intro o ho;refine Ex.bind (P:=fun z=>z.1.length≤i+1∧(z.2=false→z.1.length≤i)) ?_ ?_
   ·refine .ite (fun hc=>.bp _ (dJ (by simp; omega)) (.pure ⟨?_,by simp⟩)) (fun _=>.pure ⟨h2,h3⟩);have:=h3 (ho hc);simp; omega
   ·intro z ⟨z1,z2⟩;refine .bp _ (dJ (by simp; omega)) (.pure ⟨by omega,by simp; omega,fun hz=>?_⟩);have:=z2 hz;simp; omega
  ·rintro ⟨s,b⟩ ⟨h1,h2,h3⟩; exact⟨h2,h3⟩
 ·rintro ⟨s,b⟩ ⟨h1,h2⟩;simp only at h1 h2 ⊢;refine Ex.bind (P:=fun o=>o.length≤l.length+1) (.ite (fun hb=>.bp _ (dJ (by simp; omega)) (.pure ?_)) (fun _=>.pure h1)) (fun o ho=>.pure ho);have:=h2 (by simpa using hb);simp; omega
theorem UQ (l:List Int) (x:Int) (hl:l.length≤1000000):Ex (fun n=>wW n l x) (fun r=>r.length≤l.length):=by
 unfold wW;refine Ex.bind (P:=fun s=>s.length≤l.length) ?_ (fun s hs=>.pure hs);refine Ex.dX (I:=fun i q s=>(i+q.length=l.length)∧s.length≤i) ⟨by simp,by simp⟩ ?_ ?_
 ·rintro i y q s ⟨h1,h2⟩;simp only[List.length_cons] at h1;exact Ex.bind (P:=fun z=>z.length≤i+1) (.ite (fun _=>.bp _ (dJ (by simp; omega)) (.pure (by simp; omega))) (fun _=>.pure (by omega))) (fun o ho=>.pure ⟨by omega,ho⟩)
 ·rintro s ⟨h1,h2⟩; exact h2
theorem Pn {l m:List Form} {s:Nat}:∀{l m:List Form},Ph (fun x y=>PY s y∧cF y=cF x∧y.kind=x.kind) l m→zZ s m∧jD m=jD l
 | [],[],_=>⟨trivial,rfl⟩
 | x::l,y::m,h=>by
  obtain⟨h1,h2⟩:=Pn (l:=l) (m:=m) h.2;exact⟨⟨h.1.1,h1⟩,by simp only[jD,h2,h.1.2.1]⟩
theorem Po (f:Form) (s:Nat) (hs:s≤1000) (ht:PY s f) (hc:cF f≤1000000) (x w:Int):Ex (fun n=>eY n f x w) (fun r=>PY (s+1) r∧cF r=cF f∧r.kind=f.kind):=by
 have he:=rE f;have hl:=AX f.kids;obtain⟨t1,t2,t3⟩:=yE.1 ht;refine .succ ?_;simp only[eY];refine .bp _ (nR (by omega)) ?_;refine Ex.bind (P:=fun o=>o.length≤s+1) ?_ ?_
 ·refine .ite (fun _=>?_) (fun _=>.pure (by omega));refine Ex.bind (P:=fun _=>True) ?_ ?_
  ·refine .ite (fun _=>.pure trivial) (fun _=>.ite (fun _=>?_) (fun _=>.pure trivial));simp only[DT,Option.bind_some]; exact .pure trivial
  ·intro o _;exact .ite (fun _=>.bind (UQ _ _ (by omega)) fun k hk=>.pure (by omega)) (fun _=>.bind (XL _ _ (by omega)) fun k hk=>.pure (by omega))
 ·intro o ho;refine .bind (Ex.adQ (m:=fun n y=>eY n y x w) (R:=fun x y=>PY (s+1) y∧cF y=cF x∧y.kind=x.kind) (by omega) (fun y hy=>Po y s hs (rF.1 t3 y hy) (by have:=qN hy; omega) x w)) fun m hm=>.pure ?_;obtain⟨m1,m2⟩:=Pn (l:=f.kids) (m:=m) hm;exact⟨yE.2 ⟨t1,ho,m1⟩,by rw[rE,rE f,m2],rfl⟩
termination_by SizeOf.sizeOf f
decreasing_by exact jH hy
def pW (f:Form):Bool:=decide (f.kind=1)&&decide (f.name=[46,46,46])
theorem DV (n:Nat) (f:Form):gq n f=some (pW f):=by
 unfold gq pW;by_cases h:f.kind=1 <;> simp[h]
def inF (ls:List Form) (f:Form):Bool:=ls.any fun x=>iI x f
theorem ML (ls:List Form) (f:Form):gG (fun n=>vw n ls f) (inF ls f):=by
 refine Ex.CQ ?_;unfold vw;exact Ex.anyI (m:=fun n x=>eX n x f) (p:=fun x=>iI x f) (fun x _=>yC x f) (fun h=>h.symm) (fun h=>.pure h.symm)
def UR (ls:List Form) (f:Form):Bool:=decide (f.kind=1)&&(decide (¬f.name=[46,46,46])&&(decide (¬f.name=[95])&&!inF ls f))
theorem TG (ls:List Form) (f:Form):gG (fun n=>wO n f ls) (UR ls f):=by
 refine Ex.CQ ?_;unfold wO UR;refine Ex.bind (P:=fun b=>b=(decide (f.kind=1)&&(decide (¬f.name=[46,46,46])&&(decide (¬f.name=[95])&&!inF ls f)))) ?_ (fun b hb=>.pure hb);refine .ite (fun h1=>?_) (fun h1=>.pure (by simp[h1]));refine .ite (fun h2=>?_) (fun h2=>.pure (by simp only[decide_eq_false h2,Bool.and_false,Bool.false_and]));refine .ite (fun h3=>?_) (fun h3=>.pure (by simp only[decide_eq_false h3,Bool.and_false,Bool.false_and]));exact .bv (ML ls f) (.pure (by simp only[decide_eq_true h1,decide_eq_true h2,decide_eq_true h3,Bool.true_and]))
mutual
def Jc (ls:List Form):Form→Nat
 | ⟨k,nm,n,sc,kids⟩=>(if UR ls ⟨k,nm,n,sc,kids⟩=true then 1 else 0)+uN ls kids
def uN (ls:List Form):List Form→Nat
 | []=>0
 | x::r=>Jc ls x+uN ls r
end
theorem IY (ls:List Form) (f:Form):Jc ls f=(if UR ls f=true then 1 else 0)+uN ls f.kids:=by cases f; simp only[Jc]
mutual
theorem CG (ls:List Form):∀f:Form,Jc ls f≤cF f
 | ⟨k,nm,n,sc,kids⟩=>by have:=MN ls kids; simp only[Jc,cF]; split <;> omega
theorem MN (ls:List Form):∀l:List Form,uN ls l≤jD l
 | []=>by simp[uN]
 | x::r=>by have:=CG ls x; have:=MN ls r; simp only[uN,jD]; omega
end
theorem Gu (ls:List Form) (p:Form) (o:List Form) (h:o.length+cF p≤1000000):Ex (fun n=>oL n o p ls) (fun r=>r.length=o.length+Jc ls p):=by
 have he:=rE p;refine .succ ?_;simp only[oL];refine .bv (TG ls p) ?_;refine Ex.bind (P:=fun z=>z.length=o.length+(if UR ls p=true then 1 else 0)) ?_ ?_
 ·refine .ite (fun h1=>.bp _ (dJ (by simp; omega)) (.pure (by simp[h1]))) (fun h1=>.pure (by simp[h1]))
 intro z hz;refine Ex.bind (P:=fun s=>s.length=o.length+Jc ls p) ?_ (fun s hs=>.pure hs);refine Ex.dX (I:=fun i q s=>s.length+uN ls q=o.length+Jc ls p∧s.length+jD q≤1000000∧∀x∈q,x∈p.kids) ⟨by rw[IY,hz]; omega,by rw[hz]; split <;> omega,fun _ h=>h⟩ ?_ ?_
 ·rintro i x q s ⟨h1,h2,h3⟩;simp only[uN,jD] at h1 h2;have g4:=h3 x (List.mem_cons_self);have hv:=CG ls x;refine .bind (Gu ls x s (by omega)) fun k hk=>.pure ⟨by omega,by omega,fun y hy=>h3 y (List.mem_cons_of_mem _ hy)⟩
 ·rintro s ⟨h1,_,_⟩
  simpa [uN] using h1
termination_by SizeOf.sizeOf p
decreasing_by exact jH g4
theorem Gv (ls:List Form) (p:Form) (o:List Int) (d:Int) (h:o.length+cF p≤1000000):Ex (fun n=>jC n o p ls d) (fun r=>r.length=o.length+Jc ls p):=by
 have he:=rE p;have hk:=AX p.kids;refine .succ ?_;simp only[jC,DV];refine .bv (TG ls p) ?_;refine Ex.bind (P:=fun z=>z.length=o.length+(if UR ls p=true then 1 else 0)) ?_ ?_
 ·refine .ite (fun h1=>.bp _ (dJ (by simp; omega)) (.pure (by simp[h1]))) (fun h1=>.pure (by simp[h1]))
 intro z hz;refine Ex.bind (P:=fun s=>s.length=o.length+Jc ls p) ?_ (fun s hs=>.pure hs);refine Ex.dX (I:=fun i q s=>s.length+uN ls q=o.length+Jc ls p∧s.length+jD q≤1000000∧p.kids.drop i=q) ⟨by rw[IY,hz]; omega,by rw[hz]; split <;> omega,rfl⟩ ?_ ?_
 ·rintro i x q s ⟨h1,h2,h3⟩;simp only[uN,jD] at h1 h2;obtain⟨_,g2,g3,g4⟩:=jk h3;have hv:=CG ls x;refine Ex.bind (P:=fun _=>True) (.ite (fun hc=>?_) (fun _=>.pure trivial)) ?_
  ·obtain⟨y,hy,_⟩:=cZ (l:=p.kids) (i:=((i+1:Nat):Int)) (by omega) hc;exact .bp y hy (.pure trivial)
  intro b _;refine Ex.bind (P:=fun _=>True) (.ite (fun _=>.pure trivial) (fun _=>.pure trivial)) ?_;intro d' _;refine .bind (Gv ls x s d' (by omega)) fun k hk=>.pure ⟨by omega,by omega,g2⟩
 ·rintro s ⟨h1,_,_⟩
  simpa [uN] using h1
termination_by SizeOf.sizeOf p
decreasing_by exact jH g4
theorem TI {α:Type} {l:List α} {i:Int} (h0:0≤i) (h:i≤(l.length:Int)):∃z,Gm l 0 i=some z∧∀x∈z,x∈l:=by
 unfold Gm;rw[if_pos (by omega)];exact⟨_,rfl,fun x hx=>List.mem_of_mem_drop (List.mem_of_mem_take hx)⟩
theorem kV {i:Int} (h0:0≤i) (h:i≤1000000000):aY (i+1)=i+1:=ku (by omega) (by omega)
theorem TJ {i:Int} (h0:0≤i) (h:i≤1000000000):aY (i-1)=i-1:=ku (by omega) (by omega)
def adR (b:Bind):Prop:=b.name.length≤12∧b.scopes.length≤26
def MO (bs:List Bind):Prop:=bs.length≤61∧∀b∈bs,adR b
theorem TK (bs:List Bind) (h:MO bs):Ex (fun n=>jU n bs) (fun _=>True):=by
 have hl:=h.1;unfold jU;refine Ex.iter (μ:=fun s=>((bs.length:Int)-s).toNat) (I:=fun s=>0≤s∧s≤(bs.length:Int)) 0 ⟨by omega,by omega⟩ ?_;rintro s ⟨h0,h1⟩;refine Ex.bind (P:=fun o=>o=true→s<(bs.length:Int)) (.ite (fun h=>.pure fun _=>h) (fun _=>.pure (by simp))) ?_;intro o ho;refine .ite (fun hc=>?_) (fun _=>.out trivial);have hs:=ho hc;obtain⟨b,hb,hm⟩:=cZ h0 hs;obtain⟨b1,b2⟩:=h.2 b hm;refine Ex.bind (P:=fun _=>True) ?_ ?_
 ·exact .bp b hb (.bv (Gq _ (by unfold I9; omega)) (.ite (fun _=>.pure trivial) (fun _=>.bv (Me _ (by unfold I9; omega)) (.ite (fun _=>.pure trivial) (fun _=>.ite (fun _=>.pure trivial) (fun _=>.pure trivial))))))
 intro o5 _;refine .ite (fun _=>.out trivial) (fun _=>?_);refine Ex.iter (μ:=fun s7=>(s-s7).toNat) (I:=fun s7=>0≤s7∧s7≤s) 0 ⟨by omega,by omega⟩ ?_;rintro t ⟨t0,t1⟩;refine .ite (fun ht=>?_) (fun _=>.out ⟨fun _ _=>trivial,fun s' e=>?_⟩)
 ·obtain⟨c,hc',hm'⟩:=cZ t0 (Int.lt_trans ht hs);refine Ex.bind (P:=fun _=>True) (.bp c hc' (.bp b hb (.ite (fun _=>.bv (IQ _ _) (.pure trivial)) (fun _=>.pure trivial)))) ?_;intro nD _;exact .ite (fun _=>.out ⟨fun _ _=>trivial,fun s' e=>by cases e⟩) (fun _=>.go (by rw[kV (by omega) (by omega)]; omega) (by rw[kV (by omega) (by omega)]; omega))
 ·cases e;rw[kV (by omega) (by omega)]; omega
theorem XM (bs:List Bind) (h:MO bs):Ex (fun n=>jQ n bs) (fun _=>True):=by
 have hl:=h.1;unfold jQ;refine Ex.iter (μ:=fun s=>((bs.length:Int)-s).toNat) (I:=fun s=>0≤s∧s≤(bs.length:Int)) 0 ⟨by omega,by omega⟩ ?_;rintro s ⟨h0,h1⟩;refine Ex.bind (P:=fun o=>o=true→s<(bs.length:Int)) (.ite (fun h=>.pure fun _=>h) (fun _=>.pure (by simp))) ?_;intro o ho;refine .ite (fun hc=>?_) (fun _=>.out trivial);have hs:=ho hc;have hv:s.toNat<bs.length:=by omega
 have hb:=List.getElem?_eq_getElem hv;obtain⟨b1,b2⟩:=h.2 _ (List.getElem_mem hv);have hi:=Eo (n:=bs.length) h0 hv;refine Ex.bind (P:=fun _=>True) ?_ ?_
 ·exact .bp () hi (.bp _ hb (.bv (Gq _ (by unfold I9; omega)) (.ite (fun _=>.pure trivial) (fun _=>.bp () hi (.bv (Me _ (by unfold I9; omega)) (.ite (fun _=>.pure trivial) (fun _=>.bp () hi (.ite (fun _=>.pure trivial) (fun _=>.bp () hi (.pure trivial))))))))))
 intro o5 _;refine .ite (fun _=>.out trivial) (fun _=>?_);refine Ex.iter (μ:=fun s7=>(s-s7).toNat) (I:=fun s7=>0≤s7∧s7≤s) 0 ⟨by omega,by omega⟩ ?_;rintro t ⟨t0,t1⟩;refine .ite (fun ht=>?_) (fun _=>.out ⟨fun _ _=>trivial,fun s' e=>?_⟩)
 ·have hv':t.toNat<bs.length:=by omega
  have hb':=List.getElem?_eq_getElem hv';have hi':=Eo (n:=bs.length) t0 hv';refine Ex.bind (P:=fun _=>True) (.bp () hi' (.bp _ hb' (.bp () hi (.bp _ hb (.ite (fun _=>.bp () hi' (.bp () hi (.bv (IQ _ _) (.pure trivial)))) (fun _=>.pure trivial)))))) ?_;intro nD _;exact .ite (fun _=>.out ⟨fun _ _=>trivial,fun s' e=>by cases e⟩) (fun _=>.go (by rw[kV (by omega) (by omega)]; omega) (by rw[kV (by omega) (by omega)]; omega))
 ·cases e;rw[kV (by omega) (by omega)]; omega
theorem TL (a b:List Int):gG (fun n=>iU n a b) (a.all fun x=>decide (x∈b)):=by
 refine Ex.CQ ?_;unfold iU;exact Ex.allI (m:=fun n x=>nH n b x) (p:=fun x=>decide (x∈b)) (fun x _=>⟨0,fun n _=>DT n b x⟩) (fun h=>.pure h.symm) (fun h=>h.symm)
theorem abR (bs:List Bind) (hl:bs.length≤1000000) (f:Form):Ex (fun n=>pJ n bs f) (fun r=>∀i∈r,0≤i∧i<(bs.length:Int)):=by
 unfold pJ;refine Ex.bind (P:=fun r=>∀i∈r,0≤i∧i<(bs.length:Int)) ?_ (fun s hs=>.pure hs);refine Ex.dX (I:=fun i q s=>(i+q.length=bs.length)∧s.length≤i∧∀j∈s,0≤j∧j<(bs.length:Int)) ⟨by simp,by simp,by simp⟩ ?_ (fun s h=>h.2.2);rintro i b q s ⟨h1,h2,h3⟩;simp only[List.length_cons] at h1;refine Ex.bind (P:=fun s=>s.length≤i+1∧∀j∈s,0≤j∧j<(bs.length:Int)) ?_ (fun s hs=>.pure ⟨by omega,hs⟩);refine Ex.bind (P:=fun _=>True) (.ite (fun _=>.bv (TL _ _) (.pure trivial)) (fun _=>.pure trivial)) ?_;intro o _;refine .ite (fun _=>.bp _ (dJ (by simp; omega)) (.pure ⟨by simp; omega,fun j hj=>?_⟩)) (fun _=>.pure ⟨by omega,h3⟩);rcases List.mem_append.1 hj with hj | hj
 ·exact h3 j hj
 ·rw[List.mem_singleton.1 hj]; omega
theorem MP (bs:List Bind) (hl:bs.length≤1000000) (f:Form):Ex (fun n=>qo n bs f) (fun r=>r.2=0∨r.2=2∨0≤r.1∧r.1<(bs.length:Int)):=by
 unfold qo;refine .bind (abR bs hl f) fun k hk=>?_;refine Ex.bI (P:=fun o=>match o with
  | .inl w=>0≤w.1∧w.1<(bs.length:Int)
  | .inr _=>True) ?_ (fun w h=>.inr (.inr h)) (fun _ _=>.ite (fun _=>.pure (.inr (.inl rfl))) (fun _=>.pure (.inl rfl)))
 refine Ex.bQ (I:=fun i q s=>∀x∈q,x∈k) (fun _ h=>h) ?_ (fun _ _=>trivial);intro i x q s h;have hx:=hk x (h x List.mem_cons_self);obtain⟨b,hb,_⟩:=cZ hx.1 hx.2;refine Ex.bind (P:=fun _=>True) ?_ (fun o _=>.ite (fun _=>.fo hx) (fun _=>.fg fun y hy=>h y (List.mem_cons_of_mem _ hy)));refine Ex.dX (I:=fun i q s=>∀x∈q,x∈k) (fun _ h=>h) ?_ (fun _ _=>trivial);intro j y q' s' h';have hy:=hk y (h' y List.mem_cons_self);obtain⟨c,hc,_⟩:=cZ hy.1 hy.2;exact Ex.bind (P:=fun _=>True) (.ite (fun _=>.bp c hc (.bp b hb (.bv (TL _ _) (.pure trivial)))) (fun _=>.pure trivial)) (fun o _=>.pure fun z hz=>h' z (List.mem_cons_of_mem _ hz))
theorem XO (bs:List Bind) (hl:bs.length≤1000000) (f g:Form):Ex (fun n=>wQ n bs f g) (fun _=>True):=by
 unfold wQ;refine .bind (MP bs hl f) fun k1 h1=>.bind (MP bs hl g) fun k2 h2=>?_;refine Ex.bind (P:=fun o=>o=false→k1.2=k2.2∧¬k1.2=2) (.ite (fun h=>.pure (by simp)) (fun h=>.pure fun e=>⟨by simpa using h,by simpa using e⟩)) ?_;intro o ho;refine .ite (fun _=>.pure trivial) (fun hc=>.ite (fun _=>.pure trivial) (fun hz=>?_));obtain⟨g1,g2⟩:=ho (by simpa using hc);have p1:0≤k1.1∧k1.1<(bs.length:Int):=h1.elim (fun h=>absurd h hz) (fun h=>h.elim (fun h=>absurd h g2) id);have p2:0≤k2.1∧k2.1<(bs.length:Int):=h2.elim (fun h=>absurd (g1.trans h) hz) (fun h=>h.elim (fun h=>absurd (g1.trans h) g2) id);obtain⟨b,hb,_⟩:=cZ p1.1 p1.2;obtain⟨c,hc,_⟩:=cZ p2.1 p2.2;exact .bp b hb (.bp c hc (.pure trivial))
theorem XP (f:Form) (h:yU f):Ex (fun n=>AP n f) (fun _=>True):=by
 unfold AP;exact Ex.bind (P:=fun _=>True) (.ite (fun _=>.bv (qF h) (.pure trivial)) (fun _=>.pure trivial)) (fun o _=>.pure trivial)
theorem UU (bs:List Bind) (h:MO bs):gG (fun n=>qy n bs) bs:=by
 have hl:=h.1;refine Ex.CQ ?_;unfold qy;refine Ex.bind (P:=fun s=>s=bs) ?_ (fun s hs=>.pure hs);refine Ex.dX (I:=fun i q s=>s=bs.take i∧bs.drop i=q) ⟨rfl,rfl⟩ ?_ ?_
 ·rintro i x q s ⟨rfl,hd⟩;obtain⟨g1,g2,g3,g4⟩:=jk hd;have:=(h.2 x g4).2;refine .bp _ (nR (by omega)) (.bp _ (dJ (by simp; omega)) (.pure ⟨?_,g2⟩));rw[List.take_add_one,g1]; cases x; rfl
 ·rintro s ⟨rfl,_⟩; simp
theorem ZA (bs:List Bind) (h:MO bs) (hl:bs.length<60) (f:Form) (hf:yU f) (id:Int):Ex (fun n=>uH n bs f id) (fun r=>r.2=true→MO r.1∧r.1.length=bs.length+1):=by
 unfold uH;obtain⟨f1,f2,_⟩:=yE.1 hf.1;refine Ex.bind (P:=fun _=>True) (.bind (TK bs h) fun k _=>.ite (fun _=>.pure trivial) (fun _=>.bind (XP f hf) fun k _=>.pure trivial)) ?_;intro o _;refine .ite (fun _=>.pure (by simp)) (fun _=>.bv (UU bs h) (.bp _ (nR (by omega)) (.bp _ (dJ (by simp; omega)) ?_)));have hn:MO (bs++[(⟨f.name,f.scopes,id⟩:Bind)]):=⟨by simp; omega,fun b hb=>by
  rcases List.mem_append.1 hb with hb | hb
  ·exact h.2 b hb
  ·rw[List.mem_singleton.1 hb]; exact⟨f1,f2⟩⟩
 exact .bind (XM _ hn) fun k _=>.ite (fun _=>.pure (by simp)) (fun _=>.pure fun _=>⟨hn,by simp⟩)
def MQ (ls:List Form):Prop:=ls.length≤1000∧∀x∈ls,yU x
theorem TM (ls:List Form) (h:MQ ls):Ex (fun n=>jV n ls) (fun _=>True):=by
 have hl:=h.1;unfold jV;refine Ex.iter (μ:=fun s=>((ls.length:Int)-s).toNat) (I:=fun s=>0≤s∧s≤(ls.length:Int)) 0 ⟨by omega,by omega⟩ ?_;rintro s ⟨h0,h1⟩;refine Ex.bind (P:=fun o=>o=true→s<(ls.length:Int)) (.ite (fun h=>.pure fun _=>h) (fun _=>.pure (by simp))) ?_;intro o ho;refine .ite (fun hc=>?_) (fun _=>.out trivial);have hs:=ho hc;obtain⟨b,hb,hm⟩:=cZ h0 hs;obtain⟨z,hz,_⟩:=TI h0 h1;refine Ex.bind (P:=fun _=>True) ?_ ?_
 ·exact .bp b hb (.bind (XP b (h.2 b hm)) fun k _=>.ite (fun _=>.pure trivial) (fun _=>.ite (fun _=>.pure trivial) (fun _=>.ite (fun _=>.pure trivial) (fun _=>.bp z hz (.bv (ML _ _) (.pure trivial))))))
 intro o5 _;exact .ite (fun _=>.out trivial) (fun _=>.go (by rw[kV (by omega) (by omega)]; omega) (by rw[kV (by omega) (by omega)]; omega))
mutual
def U8:Form→Prop
 | ⟨k,nm,n,sc,kids⟩=>pW ⟨k,nm,n,sc,kids⟩=false∧UW kids∧(∀x,kids.head? = some x→pW x=false)∧kids.countP pW≤1
def UW:List Form→Prop
 | []=>True
 | x::r=>(pW x=false→U8 x)∧UW r
end
theorem XQ {f:Form}:U8 f↔pW f=false∧UW f.kids∧(∀x,f.kids.head? = some x→pW x=false)∧f.kids.countP pW≤1:=by cases f; simp only[U8]
theorem IZ:∀{l:List Form},UW l↔∀x∈l,pW x=false→U8 x
 | []=>by simp[UW]
 | x::r=>by simp[UW,IZ (l:=r)]
theorem Pq (f:Form) (hf:yU f):Ex (fun n=>qp n f) (fun r=>r=true→U8 f):=by
 have hl:=hf.len;refine .succ ?_;simp only[qp,DV,Option.bind_some];refine .ite (fun _=>.pure (by simp)) (fun hd=>?_);refine Ex.bI (Q:=fun r=>r=true→U8 f) (P:=fun(o:Bool⊕Int)=>match o with
  | .inl w=>w=false
  | .inr s=>s≤1→U8 f) ?_ (fun w h=>by have h:w=false:=h; simp[h]) (fun s h=>Ex.pure (v:=decide (s≤1)) fun e=>h (by simpa using e))
 refine Ex.bQ (I:=fun i q s=>∃p,p++q=f.kids∧i=p.length∧s=((p.countP pW:Nat):Int)∧(∀x∈p,pW x=false→U8 x)∧(∀x,p.head? = some x→pW x=false)) ⟨[],rfl,rfl,rfl,by simp,by simp⟩ ?_ ?_
 ·rintro i x q s ⟨p,hp,rfl,rfl,h3,h4⟩;have hx:x∈f.kids:=by rw[← hp]; simp
  have hlen:p.length+(q.length+1)=f.kids.length:=by rw[← hp]; simp
  have hc:=List.countP_le_length (p:=pW) (l:=p);have hp':(p++[x])++q=f.kids:=by rw[← hp]; simp
  have tail:∀{R:Bool⊕Int→Prop} {g:Nat→Option ((Bool⊕Int)⊕Int)},Ex g (fun r=>(r=.inl (.inl false)∧R (.inl false))∨∃s,r=.inr s∧R (.inr s))→Ex (fun n=>Mx.bI (g n) (fun s=>some (.inr s))) R:=fun h=>by
   refine Ex.bI h (fun w hw=>?_) (fun t ht=>?_)
   ·rcases hw with ⟨e,h⟩ | ⟨s,e,_⟩
    ·cases e; exact h
    ·cases e
   ·rcases ht with ⟨e,_⟩ | ⟨s,e,h⟩
    ·cases e
    ·cases e; exact .pure h
  refine tail ?_;refine .ite (fun KA=>?_) (fun KA=>?_)
  ·refine Ex.bind (P:=fun o=>o=false→0<p.length) (.ite (fun _=>.pure (by simp)) (fun h0=>?_)) ?_
   ·obtain⟨y,hy,_⟩:=cZ (l:=f.kids) (i:=(p.length:Int)-1) (by omega) (by omega);rw[TJ (by omega) (by omega)];exact .bp y hy (.pure fun _=>by omega)
   ·intro o ho;refine .ite (fun _=>.pure (.inl ⟨rfl,fun w e=>by cases e; rfl,fun s' e=>by cases e⟩)) (fun hc'=>.pure (.inr ⟨_,rfl,fun w e=>by(cases e),fun s' e=>?_⟩));cases e;have hpos:=ho (by simpa using hc');refine⟨p++[x],hp',by simp,?_,?_,?_⟩
    ·rw[kV (by omega) (by omega),List.countP_append]; simp[KA]
    ·intro y hy hdy;rcases List.mem_append.1 hy with hy | hy
     ·exact h3 y hy hdy
     ·rw[List.mem_singleton.1 hy,KA] at hdy; cases hdy
    ·intro y hy;cases p with
     | nil=>simp at hpos
     | cons a p=>exact h4 y (by simpa using hy)
  ·refine .bind (Pq x (hf.kid hx)) fun k hk=>?_;refine .ite (fun _=>.pure (.inl ⟨rfl,fun w e=>by cases e; rfl,fun s' e=>by cases e⟩)) (fun hc'=>.pure (.inr ⟨_,rfl,fun w e=>by(cases e),fun s' e=>?_⟩));cases e;have hkx:=hk (by simpa using hc');refine⟨p++[x],hp',by simp,?_,?_,?_⟩
   ·rw[List.countP_append]; simp[KA]
   ·intro y hy hdy;rcases List.mem_append.1 hy with hy | hy
    ·exact h3 y hy hdy
    ·rw[List.mem_singleton.1 hy]; exact hkx
   ·intro y hy;cases p with
    | nil=>simp at hy; rw[← hy]; simpa using KA
    | cons a p=>exact h4 y (by simpa using hy)
 ·rintro s ⟨p,hp,_,rfl,h3,h4⟩ hs;rw[List.append_nil] at hp;subst hp;exact XQ.2 ⟨by simpa using hd,IZ.2 h3,h4,by omega⟩
termination_by SizeOf.sizeOf f
decreasing_by exact jH hx
theorem abS (f:Form) (hf:yU f) (ls:List Form) (h:MQ ls):Ex (fun n=>DF n f ls) (fun r=>r=true→fZ f=true∧U8 f):=by
 have hc:=hf.2;have hvl:=CG ls f;unfold DF;refine Ex.bind (P:=fun o=>o=false→fZ f=true∧U8 f) ?_ ?_
 ·refine .bv (qF hf) (.ite (fun _=>.pure (by simp)) (fun h1=>.bind (TM ls h) fun k _=>.ite (fun _=>.pure (by simp)) (fun _=>.bind (Pq f hf) fun k hk=>.pure fun e=>⟨by simpa using h1,hk (by simpa using e)⟩)))
 intro o ho;refine .ite (fun _=>.pure (by simp)) (fun hc'=>?_);have hgood:=ho (by simpa using hc');refine .bind (Gu ls f [] (by simp; omega)) fun k3 hk3=>?_;refine Ex.bI (P:=fun _=>True) ?_ (fun _ _ _=>hgood) ?_
 ·refine Ex.bQ (I:=fun i q s=>k3.drop i=q) rfl ?_ (fun _ _=>trivial);intro i x q s hd;obtain⟨_,g2,g3,_⟩:=jk hd;obtain⟨z,hz,_⟩:=TI (l:=k3) (i:=(i:Int)) (by omega) (by omega);exact .bp z hz (.bv (ML _ _) (.ite (fun _=>.fo trivial) (fun _=>.fg g2)))
 intro _ _;refine .bind (Gv ls f [] 0 (by simp; omega)) fun k16 _=>?_;refine Ex.bI (P:=fun _=>True) ?_ (fun _ _ _=>hgood) (fun _ _=>.pure fun _=>hgood);exact Ex.bQ (I:=fun _ _ _=>True) trivial (fun i x q s _=>.ite (fun _=>.fo trivial) (fun _=>.fg trivial)) (fun _ _=>trivial)
theorem Pv (hs:List iw) (f:Form):Ex (fun n=>sZ n hs f) (fun r=>r=-1∨0≤r∧r<(hs.length:Int)):=by
 unfold sZ;refine Ex.bI (P:=fun o=>match o with
  | .inl w=>0≤w∧w<(hs.length:Int)
  | .inr _=>True) ?_ (fun w h=>.inr h) (fun _ _=>.pure (.inl rfl))
 refine Ex.bQ (I:=fun i q s=>hs.drop i=q) rfl ?_ (fun _ _=>trivial);intro i x q s hd;obtain⟨_,g2,g3,_⟩:=jk hd;exact .bv (yC _ _) (.ite (fun _=>.fo ⟨by omega,by omega⟩) (fun _=>.fg g2))
theorem KC (hs:List iw) (f:Form):Ex (fun n=>qw n hs f) (fun _=>True):=by
 unfold qw;refine .ite (fun _=>.pure trivial) (fun _=>.bind (Pv hs f) fun k hk=>.ite (fun _=>.pure trivial) (fun hn=>?_));obtain⟨h,hh,_⟩:=cZ (l:=hs) (i:=k) (by omega) (by omega);exact .bp h hh (.pure trivial)
theorem XR (hs:List iw) (h:hs.length≤1000000):Ex (fun n=>wU n hs) (fun r=>r.length=hs.length):=by
 unfold wU;refine Ex.bind (P:=fun s=>s.length=hs.length) ?_ (fun s hs=>.pure hs);refine Ex.dX (I:=fun i q s=>i+q.length=hs.length∧s.length=i) ⟨by simp,rfl⟩ ?_ (fun s h=>h.2);rintro i x q s ⟨h1,h2⟩;simp only[List.length_cons] at h1;exact Ex.bind (P:=fun _=>True) (.ite (fun _=>.pure trivial) (fun _=>.pure trivial)) (fun o _=>.bp _ (dJ (by simp; omega)) (.pure ⟨by omega,by simp; omega⟩))
theorem Px (hs:List iw) (f:Form):Ex (fun n=>tq n hs f) (fun _=>True):=by
 refine .succ ?_;simp only[tq];refine .bind (KC hs f) fun k _=>.ite (fun _=>.pure trivial) (fun _=>?_);refine Ex.bI (P:=fun _=>True) ?_ (fun _ _=>trivial) (fun _ _=>.pure trivial);refine Ex.bQ (I:=fun i q s=>∀x∈q,x∈f.kids) (fun _ h=>h) ?_ (fun _ _=>trivial);intro i x q s h;have hx:=h x List.mem_cons_self;exact .bind (Px hs x) fun k _=>.ite (fun _=>.fo trivial) (fun _=>.fg fun y hy=>h y (List.mem_cons_of_mem _ hy))
termination_by SizeOf.sizeOf f
decreasing_by exact jH hx
theorem Ri (f:Form) (hf:yU f) (hs:List iw) (h:hs.length≤1000000):Ex (fun n=>yg n f hs) (fun _=>True):=by
 have hl:=hf.len;refine .succ ?_;simp only[yg,DV,Option.bind_some];refine Ex.bind (P:=fun _=>True) (.ite (fun _=>.pure trivial) (fun _=>.bind (KC hs f) fun k _=>.pure trivial)) ?_;intro o _;refine .ite (fun _=>.pure trivial) (fun _=>?_);refine Ex.bI (P:=fun _=>True) ?_ (fun _ _=>trivial) (fun _ _=>.pure trivial);refine Ex.bQ (I:=fun i q s=>f.kids.drop i=q) rfl ?_ (fun _ _=>trivial);intro i x q s hd;obtain⟨_,g2,g3,hx⟩:=jk hd;refine Ex.bI (P:=fun o=>∀w,o=.inl w→∃b,w=.inl b) ?_ (fun w hw=>?_) (fun _ _=>.fg g2)
 ·refine .ite (fun _=>?_) (fun _=>?_)
  ·refine Ex.bind (P:=fun _=>True) (.ite (fun _=>.pure trivial) (fun h0=>?_)) (fun o _=>.ite (fun _=>.pure (fun w e=>by cases e; exact⟨_,rfl⟩)) (fun _=>.pure (fun w e=>by cases e)));obtain⟨y,hy,_⟩:=cZ (l:=f.kids) (i:=(i:Int)-1) (by omega) (by omega);rw[TJ (by omega) (by omega)];exact .bp y hy (.pure trivial)
  ·refine Ex.bind (P:=fun _=>True) (.ite (fun hc=>?_) (fun _=>.pure trivial)) ?_
   ·obtain⟨y,hy,_⟩:=cZ (l:=f.kids) (i:=((i+1:Nat):Int)) (by omega) hc;exact .bp y hy (.pure trivial)
   intro o _;refine .ite (fun _=>?_) (fun _=>?_)
   ·refine Ex.bind (P:=fun _=>True) ?_ (fun o _=>.ite (fun _=>.pure (fun w e=>by cases e; exact⟨_,rfl⟩)) (fun _=>.pure (fun w e=>by cases e)));exact .bind (Px hs x) fun k _=>.ite (fun _=>.pure trivial) (fun _=>.bind (XR hs h) fun k hk=>.bind (Ri x (hf.kid hx) k (by omega)) fun k _=>.pure trivial)
   ·exact .bind (Ri x (hf.kid hx) hs h) fun k _=>.ite (fun _=>.pure (fun w e=>by cases e; exact⟨_,rfl⟩)) (fun _=>.pure (fun w e=>by cases e))
 ·obtain⟨b,rfl⟩:=hw w rfl;exact⟨fun _ _=>trivial,fun s' e=>by cases e⟩
termination_by SizeOf.sizeOf f
decreasing_by all_goals exact jH hx
theorem UY (f:Form) (hf:yU f) (ls:List Form):Ex (fun n=>uz n f ls) (fun r=>r.length≤401):=by
 have hc:=hf.2;have hvl:=CG ls f;unfold uz;refine .bind (Gu ls f [] (by simp; omega)) fun k1 h1=>.bind (Gv ls f [] 0 (by simp; omega)) fun k2 h2=>?_;simp only[List.length_nil,Nat.zero_add] at h1 h2;refine Ex.bind (P:=fun s=>s.length≤401) ?_ (fun s hs=>.pure hs);refine Ex.dX (I:=fun i q s=>k1.drop i=q∧s.length=i) ⟨rfl,rfl⟩ ?_ (fun s h=>by have:=h.2; omega);rintro i x q s ⟨hd,h3⟩;obtain⟨_,g2,g3,_⟩:=jk hd;have hi:i<k2.length:=by omega
 refine .bp () (Eo (by omega) (by simpa using hi)) (.bp _ (List.getElem?_eq_getElem hi) ?_);exact Ex.bind (P:=fun _=>True) (.ite (fun _=>.pure trivial) (fun _=>.pure trivial)) (fun o _=>.bp _ (dJ (by simp; omega)) (.pure ⟨g2,by simp; omega⟩))
def abT (r:Rule):Prop:=yU r.pattern∧yU r.template
def ruP (r:Rule):Prop:=fZ r.pattern=true∧U8 r.pattern∧r.pattern.kind=3
theorem ZB (r:Rule) (hr:abT r) (ls:List Form) (h:MQ ls):Ex (fun n=>wV n r ls) (fun b=>b=true→ruP r):=by
 unfold wV;refine Ex.bind (P:=fun b=>b=true→ruP r) ?_ (fun b hb=>.pure hb);refine .bind (abS r.pattern hr.1 ls h) fun k hk=>.ite (fun h1=>.ite (fun h2=>.ite (fun _=>.bv (qF hr.2) (.ite (fun _=>?_) (fun _=>.pure (by simp)))) (fun _=>.pure (by simp))) (fun _=>.pure (by simp))) (fun _=>.pure (by simp));exact .bind (UY r.pattern hr.1 ls) fun k8 h8=>.bind (Ri r.template hr.2 k8 (by omega)) fun k9 _=>.pure fun _=>⟨(hk h1).1,(hk h1).2,h2⟩
def Rj (rs:List Rule):Prop:=rs.length≤1000∧∀r∈rs,abT r
theorem Py (rs:List Rule) (hr:Rj rs) (ls:List Form) (h:MQ ls):Ex (fun n=>qx n rs ls) (fun b=>b=true→∀r∈rs,ruP r):=by
 have hl:=hr.1;unfold qx;refine Ex.iter (μ:=fun s=>((rs.length:Int)-s).toNat) (I:=fun s=>0≤s∧s≤(rs.length:Int)∧∀i:Nat,(i:Int)<s→∀r,rs[i]? = some r→ruP r) 0 ⟨by omega,by omega,fun i h=>by omega⟩ ?_;rintro s ⟨h0,h1,h2⟩;refine Ex.bind (P:=fun o=>(o=true→s<(rs.length:Int))∧(o=false→s=(rs.length:Int)∨10≤s)) (.ite (fun h=>.pure ⟨fun _=>h,fun e=>.inr (by simpa using e)⟩) (fun h=>.pure ⟨by simp,fun _=>.inl (by omega)⟩)) ?_;rintro o ⟨ho,ho'⟩;refine .ite (fun hc=>?_) (fun hc=>?_)
 ·have hs:=ho hc;obtain⟨b,hb,hm⟩:=cZ h0 hs;refine .bp b hb (.bind (ZB b (hr.2 b hm) ls h) fun k hk=>.ite (fun _=>.out (by simp)) (fun hk'=>.go ?_ (by rw[kV (by omega) (by omega)]; omega)));rw[kV (by omega) (by omega)];refine⟨by omega,by omega,fun i hi r hr'=>?_⟩;by_cases hlt:(i:Int)<s
  ·exact h2 i hlt r hr'
  ·have e:s=(i:Int):=by omega
   rw[e,dP hr'] at hb;cases hb;exact hk (by simpa using hk')
 ·refine Ex.bind (P:=fun b=>b=true→(rs.length:Int)<10) (.ite (fun h3=>.bind (TM ls h) fun k _=>.pure fun _=>h3) (fun _=>.pure (by simp))) (fun o8 h8=>.out fun hb r hr'=>?_);have h10:=h8 hb;have he:s=(rs.length:Int):=by rcases ho' (by simpa using hc) with h | h <;> omega
  obtain⟨i,hi,rfl⟩:=List.mem_iff_getElem.1 hr';exact h2 i (by omega) _ (List.getElem?_eq_getElem hi)
theorem Ex.tail {A σ:Type} {R:A⊕σ→Prop} {g:Nat→Option ((A⊕σ)⊕σ)} (h:Ex g (fun r=>(∃a,r=.inl (.inl a)∧R (.inl a))∨∃s,r=.inr s∧R (.inr s))):Ex (fun n=>Mx.bI (g n) (fun s=>some (.inr s))) R:=by
 refine Ex.bI h (fun w hw=>?_) (fun t ht=>?_)
 ·rcases hw with ⟨a,e,h⟩ | ⟨s,e,_⟩
  ·cases e; exact h
  ·cases e
 ·rcases ht with ⟨a,e,_⟩ | ⟨s,e,h⟩
  ·cases e
  ·cases e; exact .pure h
mutual
def htP:iw→Prop
 | ⟨_,_,one,many⟩=>yU one∧many.length≤1000∧rG many
def rG:List iw→Prop
 | []=>True
 | x::r=>htP x∧rG r
end
theorem I4 {h:iw}:htP h↔yU h.one∧h.many.length≤1000∧rG h.many:=by cases h; simp only[htP]
theorem pU:∀{l:List iw},rG l↔∀x∈l,htP x
 | []=>by simp[rG]
 | x::r=>by simp[rG,pU (l:=r)]
theorem Aa {a b:List iw} (h1:rG a) (h2:rG b):rG (a++b):=pU.2 fun x hx=>(List.mem_append.1 hx).elim (pU.1 h1 x) (pU.1 h2 x)
theorem ZC (p:Form) (hc:cF p≤401) (ls:List Form) (rows:List (List iw)) (hl:rows.length≤1000) (h:∀r∈rows,r.length=Jc ls p∧rG r):Ex (fun n=>zO n p ls rows) (fun r=>r.length=Jc ls p∧rG r):=by
 have hvl:=CG ls p;unfold zO;refine .bind (Gu ls p [] (by simp; omega)) fun k1 h1=>.bind (Gv ls p [] 0 (by simp; omega)) fun k2 h2=>?_;simp only[List.length_nil,Nat.zero_add] at h1 h2;refine Ex.bind (P:=fun r=>r.length=Jc ls p∧rG r) ?_ (fun s hs=>.pure hs);refine Ex.dX (I:=fun i q s=>k1.drop i=q∧s.length=i∧rG s) ⟨rfl,rfl,trivial⟩ ?_ (fun s h=>⟨by rw[h.2.1,h1],h.2.2⟩);rintro i x q s ⟨hd,h3,h4⟩;obtain⟨_,g2,g3,_⟩:=jk hd;have hi:i<k2.length:=by omega
 refine .bp () (Eo (by omega) (by simpa using hi)) (.bp _ (List.getElem?_eq_getElem hi) ?_);refine Ex.bind (P:=fun t=>t.length=rows.length∧rG t) ?_ ?_
 ·refine Ex.dX (I:=fun j q t=>(∀r∈q,r∈rows)∧j+q.length=rows.length∧t.length=j∧rG t) ⟨fun _ h=>h,by simp,rfl,trivial⟩ ?_ (fun t h=>⟨h.2.2.1,h.2.2.2⟩);rintro j y q' t ⟨t1,t2,t3,t4⟩;simp only[List.length_cons] at t2;obtain⟨y1,y2⟩:=h y (t1 y List.mem_cons_self);obtain⟨e,he,hm⟩:=cZ (l:=y) (i:=(i:Int)) (by omega) (by omega);exact .bp e he (.bp _ (dJ (by simp; omega)) (.pure ⟨fun r hr=>t1 r (List.mem_cons_of_mem _ hr),by omega,by simp; omega,Aa t4 ⟨pU.1 y2 e hm,trivial⟩⟩))
 ·rintro t ⟨t1,t2⟩;refine .bp _ (dJ (by simp; omega)) (.pure ⟨g2,by simp; omega,Aa h4 ⟨I4.2 ⟨smZ,by simp only; omega,t2⟩,trivial⟩⟩)
theorem FC {p:Form→Bool}:∀{l:List Form},l.countP p≤1→∀{i j:Nat} {x y:Form},l[i]? = some x→l[j]? = some y→p x=true→p y=true→i=j
 | [],_,i,j,x,y,h,_,_,_=>by simp at h
 | a::l,hc,i,j,x,y,hi,hj,hx,hy=>by
  rw[List.countP_cons] at hc;have z:∀{k:Nat} {z:Form},l[k]? = some z→p z=true→p a=false∧l.countP p≤1:=fun {k z} hk hz=>by
   have:0<l.countP p:=List.countP_pos_iff.2 ⟨z,List.mem_of_getElem? hk,hz⟩;cases ha:p a with
   | true=>rw[ha,if_pos rfl] at hc; omega
   | false=>exact⟨rfl,by omega⟩
  cases i with
  | zero=>
   cases j with
   | zero=>rfl
   | succ j=>
    simp at hi hj; subst hi;rw[(z hj hy).1] at hx; cases hx
  | succ i=>
   cases j with
   | zero=>
    simp at hi hj; subst hj;rw[(z hi hx).1] at hy; cases hy
   | succ j=>
    simp at hi hj;rw[FC (z hi hx).2 hi hj hx hy]
def mtR (ls:List Form) (v:Nat) (r:List iw×Bool):Prop:=r.2=true→r.1.length=v∧rG r.1
theorem XT (bs:List Bind) (ls:List Form) (ps fs:List Form) (hcs:jD ps≤400) (hk:∀x∈ps,pW x=true→x.kids=[]) (hfs:∀x∈fs,yU x) (hfl:fs.length≤400) (hd0:∀x,ps.head? = some x→pW x=false) (hd1:ps.countP pW≤1) (hm:∀x∈ps,pW x=false→∀f,yU f→Ex (fun n=>iq n bs x ls f) (mtR ls (Jc ls x))):Ex (fun n=>sW n bs ps ls fs) (mtR ls (uN ls ps)):=by
 have hpl:=AX ps;refine .succ ?_;simp only[sW,DV,Option.bind_some];refine Ex.iter (μ:=fun s=>((ps.length:Int)-s.2).toNat) (I:=fun s=>0≤s.2∧s.2≤(ps.length:Int)∧(∃j:Nat,s.2=(j:Int)∧((s.1=-1∧∀k x,k≤j→ps[k]? = some x→pW x=false)∨∃r:Nat,s.1=(r:Int)∧∃x,ps[r+1]? = some x∧pW x=true))) ((-1),0) ⟨by simp,by simp,0,rfl,.inl ⟨rfl,fun k x hk hx=>hd0 x ?_⟩⟩ ?_
 ·obtain rfl:k=0:=by omega
  rw[List.head?_eq_getElem?]; exact hx
 rintro ⟨row,i⟩ ⟨h0,h1,j,hj,hrow⟩;simp only at h0 h1 hj hrow ⊢;subst hj;rw[kV (by omega) (by omega)];refine .ite (fun hlt=>?_) (fun hge=>?_)
 ·obtain⟨e,he,_⟩:=cZ (l:=ps) (i:=(j:Int)+1) (by omega) hlt;have hg:ps[j+1]? = some e:=by
   have hv:j+1<ps.length:=by omega
   have:=dP (List.getElem?_eq_getElem hv);rw[show((j+1:Nat):Int)=(j:Int)+1 by omega,he] at this;rw[List.getElem?_eq_getElem hv,← Option.some.inj this]
  refine Ex.bind (P:=fun o=>(pW e=true∧o=(j:Int))∨(pW e=false∧o=row)) (.bp e he (.ite (fun h=>.pure (.inl ⟨h,rfl⟩)) (fun h=>.pure (.inr ⟨by simpa using h,rfl⟩)))) ?_;intro o ho;refine .fg ⟨⟨?_,?_,j+1,?_,?_⟩,?_⟩
  ·try simp only
   omega
  ·try simp only
   omega
  ·try simp only
   omega
  rotate_left
  ·try simp only
   omega
  rcases ho with ⟨hd,rfl⟩ | ⟨hd,rfl⟩
  ·exact .inr ⟨j,rfl,e,hg,hd⟩
  ·rcases hrow with ⟨hr,ha⟩ | hr
   ·refine .inl ⟨hr,fun k x hk hx=>?_⟩;rcases Nat.lt_or_ge j k with hlt | hle
    ·obtain rfl:k=j+1:=by omega
     rw[hg] at hx; cases hx; exact hd
    ·exact ha k x hle hx
   ·exact .inr hr
 ·refine Ex.bind (P:=fun o=>o=false→(row<0→(ps.length:Int)=(fs.length:Int))∧(row≥0→(fs.length:Int)≥(ps.length:Int)-2)) ?_ ?_
  ·have hw:aY ((ps.length:Int)-2)=(ps.length:Int)-2:=ku (by omega) (by omega);rw[hw];refine .ite (fun hn=>?_) (fun hn=>?_)
   ·refine .ite (fun _=>.pure (by simp)) (fun he=>?_);exact .neg (by omega) (.pure fun _=>⟨fun _=>by omega,fun h=>by omega⟩)
   ·exact .pos (by omega) (Ex.pure (v:=decide ((fs.length:Int)<(ps.length:Int)-2)) fun e=>⟨fun h=>by omega,fun _=>by have e:=of_decide_eq_false e; omega⟩)
  intro o9 ho9;refine .ite (fun _=>.fo (fun h=>by cases h)) (fun fK=>?_);obtain⟨hA,hB⟩:=ho9 (by simpa using fK);have hw:aY ((ps.length:Int)-2)=(ps.length:Int)-2:=ku (by omega) (by omega);have hw2:aY ((fs.length:Int)-((ps.length:Int)-2))=(fs.length:Int)-((ps.length:Int)-2):=ku (by omega) (by omega);rw[hw,hw2];have hnd:∀k x,ps[k]? = some x→pW x=true→∃r:Nat,row=(r:Int)∧k=r+1:=by
   intro k x hx hd;rcases hrow with ⟨hr,ha⟩ | ⟨r,hr,y,hy,hdy⟩
   ·have:k<ps.length:=(List.getElem?_eq_some_iff.1 hx).1;rw[ha k x (by omega) hx] at hd; cases hd
   ·exact⟨r,hr,FC hd1 hx hy hd hdy⟩
  have hrr:row<0∨∃r:Nat,row=(r:Int)∧r+1<ps.length∧∃x,ps[r+1]? = some x∧pW x=true:=by
   rcases hrow with ⟨hr,ha⟩ | ⟨r,hr,y,hy,hdy⟩
   ·exact .inl (by omega)
   ·exact .inr ⟨r,hr,(List.getElem?_eq_some_iff.1 hy).1,y,hy,hdy⟩
  refine Ex.bI (P:=fun o=>match o with
   | .inl w=>∃h:List iw,w=.inl (h,false)
   | .inr s=>s.1.length=uN ls ps∧rG s.1) ?_ ?_ ?_
  ·refine Ex.bQ (I:=fun i q s=>ps.drop i=q∧s.1.length+uN ls q=uN ls ps∧rG s.1∧((row<0→s.2=(i:Int))∧∀r:Nat,row=(r:Int)→(i≤r→s.2=(i:Int))∧(r+2≤i→s.2=(i:Int)-2+((fs.length:Int)-((ps.length:Int)-2)))∧(i=r+1→s.2=(r:Int)+((fs.length:Int)-((ps.length:Int)-2))))) ⟨rfl,by simp,trivial,fun _=>rfl,fun r _=>⟨fun _=>rfl,fun h=>by omega,fun h=>by omega⟩⟩ ?_ (fun s h=>⟨by simpa [uN] using h.2.1,h.2.2.1⟩);rintro i x q ⟨hs,at_⟩ ⟨hd,s1,s2,s3,s4⟩;obtain⟨g1,g2,g3,g4⟩:=jk hd;simp only[uN] at s1 s3 s4 ⊢;have hvs:uN ls ps≤400:=Nat.le_trans (MN ls ps) hcs;have hcx:=qN g4;refine Ex.tail ?_;refine .ite (fun KA=>.pure (.inr ⟨_,rfl,fun w e=>by(cases e),fun s' e=>?_⟩)) (fun KA=>?_)
   ·cases e;obtain⟨r,hr,hir⟩:=hnd i x g1 KA;have hv:Jc ls x=0:=by
     rw[IY,hk x g4 KA];have:UR ls x=false:=by
      unfold pW at KA; unfold UR;simp only[Bool.and_eq_true,decide_eq_true_eq] at KA;simp[KA.2]
     simp[this,uN]
    refine⟨g2,by simp only; omega,s2,fun h=>by omega,fun r' hr'=>⟨fun h=>by omega,fun h=>?_,fun h=>by omega⟩⟩;have:=(s4 r hr).2.2 hir;simp only; omega
   have KA:pW x=false:=by simpa using KA
   refine .ite (fun hir=>?_) (fun hir=>?_)
   ·have hat:0≤at_∧at_<(fs.length:Int)∧(row<0→at_=(i:Int)):=by
     refine⟨?_,?_,fun h=>s3 h⟩
     ·rcases hrr with h | ⟨r,hr,hr2,y,hy,hdy⟩
      ·rw[s3 h]; omega
      ·have hB:=hB (by omega);obtain⟨a1,a2,a3⟩:=s4 r hr;rcases Nat.lt_or_ge r i with hlt | hle
       ·rcases Nat.lt_or_ge (r+1) i with hl2 | hl2
        ·rw[a2 hl2]; omega
        ·rw[a3 (by omega)]; omega
       ·rw[a1 hle]; omega
     ·rcases hrr with h | ⟨r,hr,hr2,y,hy,hdy⟩
      ·have:=hA h; rw[s3 h]; omega
      ·have hB:=hB (by omega);obtain⟨a1,a2,a3⟩:=s4 r hr;rcases Nat.lt_or_ge r i with hlt | hle
       ·rcases Nat.lt_or_ge (r+1) i with hl2 | hl2
        ·rw[a2 hl2]; omega
        ·obtain rfl:i=r+1:=by omega
         rw[g1] at hy; cases hy;rw[hdy] at KA; cases KA
       ·rw[a1 hle]; omega
    obtain⟨e,he,hem⟩:=cZ hat.1 hat.2.1;refine .bp e he (.bind (hm x g4 KA e (hfs e hem)) fun k24 Es=>?_);refine .ite (fun _=>.pure (.inl ⟨_,rfl,fun w e=>by cases e; exact⟨_,rfl⟩,fun s' e=>by cases e⟩)) (fun hk2=>?_);obtain⟨m1,m2⟩:=Es (by simpa using hk2);refine .bp _ (dJ (by omega)) (.pure (.inr ⟨_,rfl,fun w e=>by(cases e),fun s' e=>?_⟩));cases e;rw[kV hat.1 (by omega)];refine⟨g2,by simp only[List.length_append]; omega,Aa s2 m2,fun h=>?_,fun r hr=>?_⟩
    ·have:=s3 h; simp only; omega
    ·obtain⟨a1,a2,a3⟩:=s4 r hr;have hne:i≠r:=fun e=>hir (by rw[hr,e]);have hne2:i≠r+1:=fun e=>by
      rcases hrr with h | ⟨r',hr',hr2,y,hy,hdy⟩
      ·omega
      ·obtain rfl:r=r':=by omega
       rw[← e,g1] at hy; cases hy;rw[hdy] at KA; cases KA
     simp only;exact⟨fun h=>by have:=a1 (by omega); omega,fun h=>by have:=a2 (by omega); omega,fun h=>by omega⟩
   ·have hir:(i:Int)=row:=by simpa using hir
    have ha:=(s4 i hir.symm).1 (Nat.le_refl i);have hB:=hB (by omega);have hi2:i+1<ps.length:=by
     rcases hrr with h | ⟨r,hr,hr2,y,hy,hdy⟩
     ·omega
     ·omega
    subst ha;refine Ex.iter (μ:=fun s=>s.2.2.toNat) (I:=fun s=>0≤s.2.2∧s.1+s.2.2=(i:Int)+((fs.length:Int)-((ps.length:Int)-2))∧(i:Int)≤s.1∧(s.2.1.length:Int)=s.1-(i:Int)∧∀r∈s.2.1,r.length=Jc ls x∧rG r) _ ⟨by simp only; omega,by simp only,by simp only; omega,by simp,by simp⟩ ?_;rintro ⟨a,rows,c⟩ ⟨c1,c2,c3,c4,c5⟩;simp only at c1 c2 c3 c4 c5 ⊢;refine .ite (fun hc=>?_) (fun hc=>?_)
    ·obtain⟨e,he,hem⟩:=cZ (l:=fs) (i:=a) (by omega) (by omega);refine .bp e he (.bind (hm x g4 KA e (hfs e hem)) fun k32 IC=>?_);refine .ite (fun _=>.fo (.inl ⟨_,rfl,fun w e=>by cases e; exact⟨_,rfl⟩,fun s' e=>by cases e⟩)) (fun hk2=>?_);have IC:=IC (by simpa using hk2);refine .bp _ (dJ (by simp; omega)) (.fg ⟨?_,by simp only; rw[TJ (by omega) (by omega)]; omega⟩);simp only;rw[kV (by omega) (by omega),TJ (by omega) (by omega)];refine⟨by omega,by omega,by omega,by simp; omega,fun r hr=>?_⟩;rcases List.mem_append.1 hr with hr | hr
     ·exact c5 r hr
     ·rw[List.mem_singleton.1 hr]; exact IC
    ·refine .bind (ZC x (by omega) ls rows (by omega) c5) fun Fb LP=>.bp _ (dJ (by omega)) (.fo (.inr ⟨_,rfl,fun w e=>by(cases e),fun s' e=>?_⟩));cases e;refine⟨g2,by simp only[List.length_append]; omega,Aa s2 LP.2,fun h=>by omega,fun r hr=>?_⟩;obtain rfl:i=r:=by omega
     exact⟨fun h=>by omega,fun h=>by omega,fun _=>by simp only; omega⟩
  ·rintro w ⟨h,rfl⟩;exact⟨fun w e=>by cases e; simp[mtR],fun s' e=>by cases e⟩
  ·rintro s ⟨h1,h2⟩;exact .fo fun _=>⟨h1,h2⟩
theorem KE (bs:List Bind) (hb:bs.length≤1000000) (ls:List Form) (p:Form) (hv:∃d,Jb d p=true) (hsh:U8 p) (hp:cF p≤401) (f:Form) (hf:yU f):Ex (fun n=>iq n bs p ls f) (mtR ls (Jc ls p)):=by
 obtain⟨d,hv⟩:=hv;obtain⟨e,_,v1,v2,v3,v4,v5⟩:=EF hv;obtain⟨q1,q2,q3,q4⟩:=XQ.1 hsh;have he:=rE p;refine .succ ?_;simp only[iq];refine .ite (fun h1=>?_) (fun h1=>?_)
 ·have hkn:=v3 (.inl h1);have hva:Jc ls p=if UR ls p=true then 1 else 0:=by rw[IY,hkn]; simp[uN]
  refine .ite (fun h2=>.pure fun _=>⟨?_,trivial⟩) (fun h2=>.bv (ML ls p) (.ite (fun h3=>?_) (fun h3=>?_)))
  ·rw[hva]; simp[UR,h2]
  ·exact Ex.bind (P:=fun _=>True) (.ite (fun _=>.bind (XO bs hb p f) fun k _=>.pure trivial) (fun _=>.pure trivial)) (fun o _=>.pure fun _=>⟨by rw[hva]; simp[UR,h3],trivial⟩)
  ·refine .bp _ (dJ (by simp)) (.pure fun _=>⟨?_,I4.2 ⟨hf,by simp,trivial⟩,trivial⟩);have hn:¬p.name=[46,46,46]:=fun e=>by
    unfold pW at q1;simp[h1,e] at q1
   rw[hva]; simp[UR,h1,h2,h3,hn]
 ·have hva:Jc ls p=uN ls p.kids:=by rw[IY]; simp[UR,h1]
  refine .ite (fun h2=>.bv (yC p f) (.pure fun _=>⟨?_,trivial⟩)) (fun h2=>.ite (fun _=>.pure (by simp[mtR])) (fun _=>?_))
  ·rw[hva,v3 (.inr h2)]; rfl
  ·rw[hva];refine .bind (XT bs ls p.kids f.kids (by omega) (fun x hx hd=>?_) (fun x hx=>hf.kid hx) hf.len q3 q4 (fun x hx hd g hg=>KE bs hb ls x ⟨e,v5 x hx⟩ (IZ.1 q2 x hx hd) (by have:=qN hx; omega) g hg)) fun k hk=>.pure hk;obtain⟨_,_,_,_,w3,_,_⟩:=EF (v5 x hx);unfold pW at hd;simp only[Bool.and_eq_true,decide_eq_true_eq] at hd;exact w3 (.inl hd.1)
termination_by SizeOf.sizeOf p
decreasing_by exact jH hx
mutual
def PZ (v:Form):Form→Bool
 | ⟨k,nm,n,sc,kids⟩=>(decide (k=1)&&iI ⟨k,nm,n,sc,kids⟩ v)||XU v kids
def XU (v:Form):List Form→Bool
 | []=>false
 | x::r=>PZ v x||XU v r
end
theorem abV (v f:Form):PZ v f=((decide (f.kind=1)&&iI f v)||XU v f.kids):=by cases f; simp only[PZ]
theorem Pz (v:Form):∀l:List Form,XU v l=l.any (PZ v)
 | []=>rfl
 | x::r=>by simp only[XU,List.any_cons,Pz v r]
theorem I5 (f v:Form):gG (fun n=>oM n f v) (PZ v f):=by
 refine .succ ?_;simp only[oM];rw[abV,Pz];refine Ex.CQ ?_;refine Ex.bind (P:=fun o=>o=(decide (f.kind=1)&&iI f v)) (.ite (fun h=>.bv (yC f v) (.pure (by simp[h]))) (fun h=>.pure (by simp[h]))) ?_;rintro o rfl;cases (decide (f.kind=1)&&iI f v) with
 | true=>exact .pos rfl (.pure rfl)
 | false=>
  refine .neg (by simp) ?_;simp only[Bool.false_or];exact Ex.anyI (m:=fun n x=>oM n x v) (p:=PZ v) (fun x hx=>I5 x v) (fun h=>h.symm) (fun h=>.pure h.symm)
termination_by SizeOf.sizeOf f
decreasing_by exact jH hx
theorem XV (f:Form) (hs:List iw) (hh:rG hs) (hl:hs.length≤1000):Ex (fun n=>uD n f hs) (fun r=>r≤1000∧(0≤r→∀h∈hs,¬h.depth=0→PZ h.name f=true→r=(h.many.length:Int))):=by
 unfold uD;refine Ex.iter (μ:=fun s=>((hs.length:Int)-s.2).toNat) (I:=fun s=>0≤s.2∧s.2≤(hs.length:Int)∧-1≤s.1∧s.1≤1000∧∀(j:Nat) h,(j:Int)<s.2→hs[j]? = some h→¬h.depth=0→PZ h.name f=true→s.1=(h.many.length:Int)) ((-1),0) ⟨by simp,by simp,by simp,by simp,fun j h hj=>by simp only at hj; omega⟩ ?_;rintro ⟨c,i⟩ ⟨h0,h1,h2,h3,h4⟩;simp only at h0 h1 h2 h3 h4 ⊢;refine .ite (fun hlt=>?_) (fun hge=>?_)
 ·obtain⟨e,he,hem⟩:=cZ h0 hlt;have hml:=(I4.1 (pU.1 hh e hem)).2.1;have hg:∀(j:Nat) h,¬(j:Int)<i→(j:Int)<i+1→hs[j]? = some h→h=e:=fun j h hn hj hx=>by
   obtain rfl:i=(j:Int):=by omega
   rw[dP hx] at he; exact Option.some.inj he
  refine Ex.bI (P:=fun(o:(Int⊕(Int×Int))⊕Int)=>match o with
   | .inl w=>w=.inl (-1)
   | .inr c'=>-1≤c'∧c'≤1000∧∀(j:Nat) h,(j:Int)<i+1→hs[j]? = some h→¬h.depth=0→PZ h.name f=true→c'=(h.many.length:Int)) ?_ ?_ ?_
  ·refine Ex.bind (P:=fun o=>o=true↔(e.depth=0∨PZ e.name f=false)) (.bp e he (.ite (fun hd=>Ex.pure (v:=true) ⟨fun _=>.inl hd,fun _=>rfl⟩) (fun hd=>.bv (I5 f e.name) (Ex.pure (v:=!PZ e.name f) ⟨fun h=>.inr (by simpa using h),fun h=>h.elim (fun h=>absurd h hd) (fun h=>by simp[h])⟩)))) ?_;intro o6 ho6;refine .ite (fun hc6=>.pure ⟨h2,h3,fun j h hj hx hd hu=>?_⟩) (fun hc6=>?_)
   ·by_cases hji:(j:Int)<i
    ·exact h4 j h hji hx hd hu
    ·obtain rfl:=hg j h hji hj hx;rcases ho6.1 hc6 with h | h
     ·exact absurd h hd
     ·rw[h] at hu; cases hu
   ·have hn:¬e.depth=0∧PZ e.name f=true:=by
     constructor
     ·intro h; exact hc6 (ho6.2 (.inl h))
     ·cases hu:PZ e.name f with
      | true=>rfl
      | false=>exact absurd (ho6.2 (.inr hu)) hc6
    refine Ex.bind (P:=fun o=>o=false→c<0∨c=(e.many.length:Int)) (.ite (fun hc0=>.bp e he (Ex.pure (v:=decide (¬c=(e.many.length:Int))) fun h=>.inr (by have h:=of_decide_eq_false h; omega))) (fun hc0=>.pure fun _=>.inl (by omega))) ?_;intro o8 ho8;refine .ite (fun _=>.pure rfl) (fun hc8=>.bp e he (.pure ⟨by omega,by omega,fun j h hj hx hd hu=>?_⟩));by_cases hji:(j:Int)<i
    ·have:=h4 j h hji hx hd hu;rcases ho8 (by simpa using hc8) with h | h <;> omega
    ·obtain rfl:=hg j h hji hj hx;rfl
  ·rintro w rfl;exact⟨fun w e=>by cases e; exact⟨by omega,fun h=>by omega⟩,fun s' e=>by cases e⟩
  ·rintro c' ⟨q1,q2,q3⟩;rw[kV h0 (by omega)];exact .fg ⟨⟨by simp only; omega,by simp only; omega,q1,q2,q3⟩,by simp only; omega⟩
 ·refine .fo ⟨h3,fun _ h hm=>?_⟩;obtain⟨j,hj,rfl⟩:=List.mem_iff_getElem.1 hm;exact h4 j _ (by omega) (List.getElem?_eq_getElem hj)
theorem abW (f:Form) (hs:List iw) (hh:rG hs) (hl:hs.length≤1000) (i:Int) (h0:0≤i) (hi:∀h∈hs,h.depth>0→PZ h.name f=true→i<(h.many.length:Int)):Ex (fun n=>zT n f hs i) (fun r=>r.length=hs.length∧rG r):=by
 unfold zT;refine Ex.iter (μ:=fun s=>((hs.length:Int)-s.2).toNat) (I:=fun s=>0≤s.2∧s.2≤(hs.length:Int)∧(s.1.length:Int)=s.2∧rG s.1) ([],0) ⟨by simp,by simp,by simp,by simp[rG]⟩ ?_;rintro ⟨s,j⟩ ⟨s0,s1,s2,s3⟩;simp only at s0 s1 s2 s3 ⊢;refine .ite (fun hlt=>?_) (fun hge=>.fo ⟨by omega,s3⟩);obtain⟨e,he,hem⟩:=cZ s0 hlt;have hp:=pU.1 hh e hem;refine .bp e he (Ex.bind (P:=fun o=>o=true→e.depth>0∧PZ e.name f=true) (.ite (fun hd=>.bv (I5 f e.name) (.pure fun h=>⟨hd,h⟩)) (fun _=>.pure (by simp))) fun o6 ho6=>?_);refine Ex.bind (P:=fun o=>htP o) (.ite (fun hc=>?_) (fun _=>.pure hp)) fun o7 ho7=>.bp _ (dJ (by simp; omega)) (.fg ⟨⟨?_,?_,?_,Aa s3 ⟨ho7,trivial⟩⟩,?_⟩)
 ·obtain⟨g1,g2⟩:=ho6 hc;obtain⟨z,hz,hzm⟩:=cZ h0 (hi e hem g1 g2);exact .bp z hz (.pure (pU.1 (I4.1 hp).2.2 z hzm))
 all_goals
  simp only;rw[kV (by omega) (by omega)]
  try simp only[List.length_append,List.length_cons,List.length_nil]
  omega
theorem DW:∀{a b:List Form},jD (a++b)=jD a+jD b
 | [],b=>by simp[jD]
 | x::r,b=>by simp only[List.cons_append,jD,DW (a:=r)]; omega
theorem TN (p:Form) (hp:yU p) (hs:List iw) (hh:rG hs) (hl:hs.length≤1000):Ex (fun n=>tu n p hs) (fun r=>yU r.1):=by
 have hlk:=hp.len;obtain⟨p1,p2,p3⟩:=yE.1 hp.1;refine .succ ?_;simp only[tu,DV,Option.bind_some];refine Ex.bind (P:=fun o=>o=-1∨0≤o∧o<(hs.length:Int)) (.ite (fun _=>.bind (Pv hs p) fun k hk=>.pure hk) (fun _=>.pure (.inl rfl))) ?_;intro o ho;refine .ite (fun h0=>?_) (fun _=>.bp _ (nR (by omega)) ?_)
 ·obtain⟨e,he,hem⟩:=cZ (l:=hs) (i:=o) h0 (by omega);have hone:=(I4.1 (pU.1 hh e hem)).1;exact .bp e he (.bv (MK hone) (.pure hone))
 refine Ex.bI (P:=fun r=>match r with
  | .inl w=>w=(p,false)
  | .inr s=>jD s.2≤400∧zZ 26 s.2) ?_ (fun w h=>by have h:w=(p,false):=h; rw[h]; exact hp) (fun s h=>.pure ⟨yE.2 ⟨p1,p2,h.2⟩,by have:=h.1; rw[rE]; simp only; omega⟩)
 refine Ex.bQ (I:=fun i q s=>p.kids.drop i=q∧s.1=(jD s.2:Int)∧jD s.2≤400∧zZ 26 s.2) ⟨rfl,rfl,by simp[jD],trivial⟩ ?_ (fun s h=>⟨h.2.2.1,h.2.2.2⟩);rintro i x q ⟨sum,out⟩ ⟨hd,h1,h2,h3⟩;simp only at h1 h2 h3 ⊢;obtain⟨_,g2,g3,hx⟩:=jk hd;refine Ex.tail ?_;refine .ite (fun _=>.pure (.inr ⟨_,rfl,fun w e=>by(cases e),fun s' e=>by cases e; exact⟨g2,h1,h2,h3⟩⟩)) (fun _=>?_);refine Ex.bind (P:=fun _=>True) (.ite (fun hc=>?_) (fun _=>.pure trivial)) ?_
 ·obtain⟨y,hy,_⟩:=cZ (l:=p.kids) (i:=((i+1:Nat):Int)) (by omega) hc;exact .bp y hy (.pure trivial)
 intro Zj _;refine Ex.bind (P:=fun c=>c≤1000∧(Zj=true→0≤c→∀h∈hs,¬h.depth=0→PZ h.name x=true→c=(h.many.length:Int))) (.ite (fun _=>.bind (XV x hs hh hl) fun k hk=>.pure ⟨hk.1,fun _=>hk.2⟩) (fun hn=>.pure ⟨by omega,fun h=>absurd h hn⟩)) ?_;rintro c ⟨c1,c2⟩;refine .ite (fun _=>.pure (.inl ⟨_,rfl,fun w e=>by cases e; rfl,fun s' e=>by cases e⟩)) (fun hc0=>?_);refine Ex.iter (μ:=fun s=>(c-s.2.1).toNat) (I:=fun s=>0≤s.2.1∧s.2.1≤c∧s.1=(jD s.2.2:Int)∧jD s.2.2≤400∧zZ 26 s.2.2) _ ⟨by simp,by simp only; omega,h1,h2,h3⟩ ?_;rintro ⟨t,m,w⟩ ⟨m0,m1,t1,t2,t3⟩;simp only at m0 m1 t1 t2 t3 ⊢;refine .ite (fun hlt=>?_) (fun _=>.fo (.inr ⟨_,rfl,fun w e=>by(cases e),fun s' e=>by cases e; exact⟨g2,t1,t2,t3⟩⟩));refine Ex.bind (P:=fun r=>r.length=hs.length∧rG r) (.ite (fun h18=>?_) (fun _=>.pure ⟨rfl,hh⟩)) ?_
 ·exact .bind (abW x hs hh hl m m0 (fun h hm hd hu=>by have:=c2 h18 (by omega) h hm (by omega) hu; omega)) fun k hk=>.pure hk
 rintro hs' ⟨l1,l2⟩;refine .bind (TN x (hp.kid hx) hs' l2 (by omega)) fun k25 Ci=>.bv (abQ Ci) ?_;have hc25:=Ci.2;have hwl:=AX w;rw[t1,ku (by omega) (by omega)];refine Ex.bind (P:=fun o=>o=false→(jD w:Int)+(cF k25.1:Int)≤400) (.ite (fun _=>.pure (by simp)) (fun _=>.pure fun e=>by have e:=of_decide_eq_false e; omega)) ?_;intro o27 afV;refine .ite (fun _=>.fo (.inl ⟨_,rfl,fun w e=>by cases e; rfl,fun s' e=>by cases e⟩)) (fun hc27=>?_);have hle:=afV (by simpa using hc27);have hap:jD (w++[k25.1])=jD w+cF k25.1:=by rw[DW]; simp[jD]
 rw[kV m0 (by omega)];exact .bp _ (dJ (by simp; omega)) (.fg ⟨⟨by simp only; omega,by simp only; omega,by simp only[hap]; omega,by simp only[hap]; omega,XH t3 ⟨Ci.1,trivial⟩⟩,by simp only; omega⟩)
termination_by SizeOf.sizeOf p
decreasing_by exact jH hx
theorem MR (f:Form) (hw:wF f≤1000000000):gG (fun n=>gY n f) f:=by
 have he:=EW f;refine .succ ?_;simp only[gY];refine Ex.CQ (.bp _ (nR (by omega)) (.bv (a:=f.kids) ?_ (.pure (by cases f; rfl))));refine .succ ?_;simp only[je];refine Ex.CQ (.bv (Du (m:=fun n x=>gY n x) (be:=80) (by omega) (fun x hx=>MR x (by have:=Dq hx; omega))) (.pure rfl))
termination_by SizeOf.sizeOf f
decreasing_by exact jH hx
theorem XW (rs:List Rule) (h:Rj rs):gG (fun n=>jf n rs) rs:=by
 have hl:=h.1;unfold jf;refine Ex.CQ (.bv (Du (m:=fun n x=>nJ n x) (be:=160) (by omega) (fun x hx=>?_)) (.pure rfl));obtain⟨h1,h2⟩:=h.2 x hx;unfold nJ;exact Ex.CQ (.bv (MR _ (by have:=h1.w; omega)) (.bv (MR _ (by have:=h2.w; omega)) (.pure rfl)))
theorem PD (bs:List Bind) (hb:MO bs) (rs:List Rule) (hr:Rj rs) (ls:List Form) (hl:MQ ls) (f:Form) (hf:yU f):Ex (fun n=>lC n bs rs ls f) (fun r=>r.2=true→0≤r.1∧r.1<(rs.length:Int)∧(∀r∈rs,ruP r)∧∀e,gQ rs r.1=some e→∃k,gG (fun n=>iq n bs e.pattern ls f) k∧mtR ls (Jc ls e.pattern) k∧k.2=true):=by
 have hbl:=hb.1;unfold lC;refine Ex.bind (P:=fun o=>o=false→∀r∈rs,ruP r) (.bind (TK bs hb) fun k _=>.ite (fun _=>.pure (by simp)) (fun _=>.bind (Py rs hr ls hl) fun k hk=>.ite (fun _=>.pure (by simp)) (fun hk'=>.bv (qF hf) (.pure fun _=>hk (by simpa using hk'))))) ?_;intro o ho;refine .ite (fun _=>.pure (by simp)) (fun hc=>?_);have hp:=ho (by simpa using hc);refine Ex.bI (P:=fun o=>match o with
  | .inl w=>0≤w.1∧w.1<(rs.length:Int)∧∀e,gQ rs w.1=some e→∃k,gG (fun n=>iq n bs e.pattern ls f) k∧mtR ls (Jc ls e.pattern) k∧k.2=true
  | .inr _=>True) ?_ (fun w h _=>⟨h.1,h.2.1,hp,h.2.2⟩) (fun _ _=>.pure (by simp))
 refine Ex.bQ (I:=fun i q s=>rs.drop i=q) rfl ?_ (fun _ _=>trivial);intro i x q s hd;obtain⟨g1,g2,g3,hx⟩:=jk hd;obtain⟨q1,q2,q3⟩:=hp x hx;have hv:=XK q1;unfold fZ at q1;rw[Bool.and_eq_true] at q1;obtain⟨k,k1,k2⟩:=KE bs (by omega) ls x.pattern ⟨40,q1.1⟩ q2 (by have:=hv.2; omega) f hf;refine .bv k1 (.ite (fun hk=>.fo ⟨by simp only; omega,by simp only; omega,fun e he=>?_⟩) (fun _=>.fg g2));rw[dP ‹rs[i]? = some x›] at he;cases he;exact⟨k,k1,k2,hk⟩
theorem XY (bs:List Bind) (hb:MO bs) (rs:List Rule) (hr:Rj rs) (ls:List Form) (hl:MQ ls) (f:Form) (hf:yU f):Ex (fun n=>nK n bs rs ls f) (fun r=>r.2=true→fZ r.1=true):=by
 have hbl:=hb.1;unfold nK;refine .bv (XW rs hr) (.bind (PD bs hb rs hr ls hl f hf) fun k2 hk2=>.ite (fun _=>.pure (by simp)) (fun hc=>?_));obtain⟨i0,i1,hp,hm⟩:=hk2 (by simpa using hc);obtain⟨e,he,hx⟩:=cZ i0 i1;obtain⟨q1,q2,q3⟩:=hp e hx;obtain⟨k,m1,m2,m3⟩:=hm e he;obtain⟨m4,m5⟩:=m2 m3;have hv:=(XK q1).2;have hvl:=CG ls e.pattern;refine .bp e he (.bv m1 (.bind (TN e.template (hr.2 e hx).2 k.1 m5 (by omega)) fun k6 hk6=>?_));refine Ex.bind (P:=fun o=>o=false→fZ k6.1=true) (.ite (fun _=>.pure (by simp)) (fun _=>.bv (qF hk6) (Ex.pure (v:=!fZ k6.1) fun h=>by simpa using h))) ?_;intro o7 ho7;exact .ite (fun _=>.pure (by simp)) (fun Iy=>.pure fun _=>ho7 (by simpa using Iy))
theorem XZ (f:Form) (hf:yU f):Ex (fun n=>nM n f) (fun r=>r.2.2=true→MQ r.1∧Rj r.2.1):=by
 have hl:=hf.len;unfold nM;refine Ex.bind (P:=fun o=>o=false→2≤f.kids.length) (.bv (qF hf) (.ite (fun _=>.pure (by simp)) (fun _=>.ite (fun _=>.pure (by simp)) (fun _=>.ite (fun _=>.pure (by simp)) (fun h2=>?_))))) ?_
 ·obtain⟨e,he,_⟩:=cZ (l:=f.kids) (i:=0) (by omega) (by omega);obtain⟨e',he',_⟩:=cZ (l:=f.kids) (i:=1) (by omega) (by omega);exact .bp e he (.ite (fun _=>.pure (by simp)) (fun _=>.bp e' he' (.pure fun _=>by omega)))
 intro o ho;refine .ite (fun _=>.pure (by simp)) (fun hc=>?_);have h2:=ho (by simpa using hc);obtain⟨e1,he1,hm1⟩:=cZ (l:=f.kids) (i:=1) (by omega) (by omega);have s1:=hf.kid hm1;have l1:=s1.len;refine Ex.iter (μ:=fun s=>((e1.kids.length:Int)-s.2).toNat) (I:=fun s=>0≤s.2∧s.2≤(e1.kids.length:Int)∧(s.1.length:Int)=s.2∧∀x∈s.1,yU x) ([],0) ⟨by simp,by simp,by simp,by simp⟩ ?_;rintro ⟨s,i⟩ ⟨i0,i1,i2,i3⟩;simp only at i0 i1 i2 i3 ⊢;refine .bp e1 he1 (.ite (fun hlt=>?_) (fun hge=>?_))
 ·obtain⟨e,he,hem⟩:=cZ i0 hlt;have hse:=s1.kid hem;refine .bp e he (.bv (MK hse) (.bp _ (dJ (by simp; omega)) (.fg ⟨⟨?_,?_,?_,fun x hx=>?_⟩,?_⟩)))
  all_goals try simp only
  all_goals try rw[kV (by omega) (by omega)]
  ·omega
  ·omega
  ·simp; omega
  ·rcases List.mem_append.1 hx with hx | hx
   ·exact i3 x hx
   ·rw[List.mem_singleton.1 hx]; exact hse
  ·omega
 ·have hli:MQ s:=⟨by omega,i3⟩
  refine Ex.iter (μ:=fun s=>((f.kids.length:Int)-s.2).toNat) (I:=fun s=>0≤s.2∧s.2≤(f.kids.length:Int)∧(s.1.length:Int)≤s.2∧∀x∈s.1,abT x) ([],2) ⟨by simp,by simp only; omega,by simp,by simp⟩ ?_;rintro ⟨t,j⟩ ⟨j0,j1,j2,j3⟩;simp only at j0 j1 j2 j3 ⊢;refine .ite (fun hlt=>?_) (fun hge=>?_)
  ·obtain⟨e,he,hem⟩:=cZ j0 hlt;have hse:=hf.kid hem;refine Ex.bind (P:=fun o=>o=false→e.kids.length=2) (.bp e he (.ite (fun _=>.pure (by simp)) (fun _=>.pure (by simp; omega)))) ?_;intro AL afW;refine .ite (fun _=>.fo ⟨fun w e=>by cases e; simp,fun s' e=>by cases e⟩) (fun vO=>?_);have h22:=afW (by simpa using vO);obtain⟨a,ha,ham⟩:=cZ (l:=e.kids) (i:=0) (by omega) (by omega);obtain⟨b,hb,hbm⟩:=cZ (l:=e.kids) (i:=1) (by omega) (by omega);have sa:=hse.kid ham;have sb:=hse.kid hbm;refine .bp e he (.bp a ha (.bv (MK sa) (.bp b hb (.bv (MK sb) (.bp _ (dJ (by simp; omega)) (.fg ⟨⟨?_,?_,?_,fun x hx=>?_⟩,?_⟩))))))
   all_goals try simp only
   all_goals try rw[kV (by omega) (by omega)]
   ·omega
   ·omega
   ·simp; omega
   ·rcases List.mem_append.1 hx with hx | hx
    ·exact j3 x hx
    ·rw[List.mem_singleton.1 hx]; exact⟨sa,sb⟩
   ·omega
  ·have hrs:Rj t:=⟨by omega,j3⟩
   exact .bind (Py t hrs s hli) fun k _=>.ite (fun _=>.fo ⟨fun w e=>by cases e; simp,fun s' e=>by cases e⟩) (fun _=>.fo ⟨fun w e=>by cases e; exact fun _=>⟨hli,hrs⟩,fun s' e=>by cases e⟩)
def EG (f:Form):Prop:=PY 24 f∧cF f≤400
theorem EG.sm {f:Form} (h:EG f):yU f:=⟨DU (by omega) f h.1,by have:=h.2; omega⟩
theorem EG.kid {f x:Form} (h:EG f) (hx:x∈f.kids):EG x:=⟨rF.1 (yE.1 h.1).2.2 x hx,by have:=qN hx; have:=rE f; have:=h.2; omega⟩
theorem CJ {f:Form} (h:fZ f=true):EG f:=by
 unfold fZ at h;simp only[Bool.and_eq_true,decide_eq_true_eq] at h;exact⟨XJ h.1,h.2⟩
theorem CO {f:Form} (h:EG f) (x w:Int):Ex (fun n=>eY n f x w) (fun r=>yU r∧cF r=cF f∧r.kind=f.kind):=
 (Po f 24 (by omega) h.1 (by have:=h.2; omega) x w).mono fun r ⟨h1,h2,h3⟩=>⟨⟨DU (by omega) r h1,by have:=h.2; omega⟩,h2,h3⟩
theorem adU {α:Type} {l:List α} {x:α} (h:l[0]? = some x):gQ l 0=some x:=dP (i:=0) h
theorem PE {α:Type} {l:List α} {x:α} (h:l[1]? = some x):gQ l 1=some x:=dP (i:=1) h
theorem X0 {α:Type} {l:List α} {x:α} (h:l[2]? = some x):gQ l 2=some x:=dP (i:=2) h
def afX (m:Macro):Prop:=MQ m.literals∧Rj m.rules
def uM (e:Expansion):Prop:=MO e.binds∧e.binds.length≤60∧e.macros.length≤e.binds.length∧(∀m∈e.macros,afX m)∧0≤e.steps∧e.steps≤60
theorem PG (f:Form) (hw:wF f≤1000000):Ex (fun n=>gX n f) (fun r=>wF r≤wF f):=by
 have he:=EW f;refine .succ ?_;simp only[gX];refine .bind (Ex.adQ (m:=fun n y=>gX n y) (R:=fun x y=>wF y≤wF x) (by omega) (fun y hy=>PG y (by have:=Dq hy; omega))) fun m hm=>.pure ?_;have:∀{l m:List Form},Ph (fun x y=>wF y≤wF x) l m→pV m≤pV l∧m.length=l.length:=by
  intro l
  induction l with
  | nil=>intro m h; cases m with
   | nil=>simp
   | cons _ _=>cases h
  | cons x l ih=>intro m h; cases m with
   | nil=>cases h
   | cons y m=>have:=ih h.2; have:=h.1; simp only[pV,List.length_cons]; omega
 have:=this hm;rw[EW]; simp only[List.length_nil]; omega
termination_by SizeOf.sizeOf f
decreasing_by exact jH hy
def UZ (ms:List Macro) (id:Int):Option Int:=bI (bQ (fun(s2:Unit) (i1:Nat) (x4:Macro)=>((if x4.id=id then some (Sum.inl (i1:Int)) else some (Sum.inr ())):Option (Int⊕Unit))) 0 ms ()) (fun(s2:Unit)=>some (-1))
theorem X3 (n:Nat) (e:Expansion) (id:Int):uF n e id=UZ e.macros id:=rfl
theorem abX (ms:List Macro) (id:Int):∃k,UZ ms id=some k∧(k=-1∨0≤k∧k<(ms.length:Int)):=by
 have:Ex (fun _=>UZ ms id) (fun k=>k=-1∨0≤k∧k<(ms.length:Int)):=by
  unfold UZ;refine Ex.bI (P:=fun o=>match o with
   | .inl w=>0≤w∧w<(ms.length:Int)
   | .inr _=>True) ?_ (fun w h=>.inr h) (fun _ _=>.pure (.inl rfl))
  refine Ex.bQ (I:=fun i q s=>ms.drop i=q) rfl ?_ (fun _ _=>trivial);intro i x q s hd;obtain⟨_,g2,g3,_⟩:=jk hd;exact .ite (fun _=>.fo ⟨by omega,by omega⟩) (fun _=>.fg g2)
 obtain⟨k,⟨N,h⟩,h2⟩:=this;exact⟨k,h N (Nat.le_refl N),h2⟩
theorem TP (e:Expansion) (h:uM e) (f:Form):Ex (fun n=>lF n e f) (fun r=>r.1=2→∃k,UZ e.macros r.2=some k∧0≤k∧k<(e.macros.length:Int)):=by
 have hb:=h.1.1;unfold lF;refine .bind (MP e.binds (by omega) f) fun k1 hk1=>.ite (fun _=>.pure (by simp)) (fun h0=>.ite (fun _=>.pure (by simp)) (fun h2=>?_));have p1:0≤k1.1∧k1.1<(e.binds.length:Int):=hk1.elim (fun h=>absurd h h0) (fun h=>h.elim (fun h=>absurd h h2) id);obtain⟨b,hb,_⟩:=cZ p1.1 p1.2;refine .bp b hb (.ite (fun _=>.pure (by simp)) (fun _=>?_));obtain⟨k,hk,hk2⟩:=abX e.macros b.id;simp only[X3];refine .bp k hk (.ite (fun hk0=>.pure fun _=>⟨k,hk,hk0,by omega⟩) (fun _=>.pure (by simp)))
def xR (e:Expansion) (b:Nat) (r:Expansion×Core×Int):Prop:=uM r.1∧e.steps≤r.1.steps∧((wC r.2.1:Nat):Int)+1≤20500*(b:Int)+8220500*(r.1.steps-e.steps)
def afY (e:Expansion) (b:Nat) (r:Expansion×List Core×Int):Prop:=uM r.1∧e.steps≤r.1.steps∧((yK r.2.1+r.2.1.length:Nat):Int)≤20500*(b:Int)+8220500*(r.1.steps-e.steps)
theorem wzC:wC ⟨0,0,[],0,[],⟨0,[],0,[],[]⟩,[]⟩=0:=by simp[wC,yK,wF,pV]
theorem xR.z {e e':Expansion} {b:Nat} {k:Int} (h:uM e') (hs:e.steps≤e'.steps) (hb:1≤b):xR e b (e',(⟨0,0,[],0,[],⟨0,[],0,[],[]⟩,[]⟩:Core),k):=⟨h,hs,by simp only[wzC]; omega⟩
theorem ZE (e:Expansion) (h:uM e) (f:Form) (hf:f.name.length≤12):Ex (fun n=>wY n e f) (xR e 1):=by
 unfold wY;refine .bind (TP e h f) fun k _=>.ite (fun _=>.pure ⟨h,by simp,?_⟩) (fun _=>.ite (fun _=>.pure ⟨h,by simp,?_⟩) (fun _=>.ite (fun _=>.pure (.z h (by simp) (by omega))) (fun _=>.pure (.z h (by simp) (by omega)))))
 ·simp[wC,yK,wF,pV]; omega
 ·simp[wC,yK,wF,pV]
theorem TQ (e:Expansion) (h:uM e) (f:Form) (hf:yU f):Ex (fun n=>tC n e f) (fun r=>uM r.1∧r.1.steps=e.steps∧(r.2=0→r.1.macros.length<r.1.binds.length)):=by
 obtain⟨h1,h2,h3,h4,h5,h6⟩:=h;unfold tC;refine .ite (fun _=>.pure ⟨⟨h1,h2,h3,h4,h5,h6⟩,rfl,by simp⟩) (fun hn=>.bind (ZA e.binds h1 (by omega) f hf _) fun k hk=>.ite (fun _=>.pure ⟨⟨h1,h2,h3,h4,h5,h6⟩,rfl,by simp⟩) (fun hc=>?_));obtain⟨k1,k2⟩:=hk (by simpa using hc);exact .pure ⟨⟨k1,by simp only; omega,by simp only; omega,h4,h5,h6⟩,rfl,fun _=>by simp only; omega⟩
theorem ZF (e:Expansion) (h:uM e) (f:Form) (hf:EG f) (id a3:Int) (ha:a3≤60) (hm:∃k,UZ e.macros id=some k∧0≤k∧k<(e.macros.length:Int)):Ex (fun n=>wX n e f id a3) (fun r=>uM r.1∧e.steps≤r.1.steps∧(r.2.2=0→r.1.steps=e.steps+1∧e.steps<a3∧EG r.2.1)):=by
 obtain⟨h1,h2,h3,h4,h5,h6⟩:=h;obtain⟨k,hk,k0,k1⟩:=hm;unfold wX kS;refine .ite (fun _=>.pure ⟨⟨h1,h2,h3,h4,h5,h6⟩,by simp,by simp⟩) (fun hs=>?_);simp only[Option.bind_some,X3];refine .ite (fun _=>.pure ⟨⟨h1,h2,h3,h4,h5,h6⟩,by simp,by simp⟩) (fun _=>?_);obtain⟨m,hmm,hmem⟩:=cZ k0 k1;obtain⟨m1,m2⟩:=h4 m hmem;have hw:aY (e.steps+1)=e.steps+1:=kV h5 (by omega);simp only[hw];have good:uM ⟨e.binds,e.macros,aY (e.scope+1),e.id,e.steps+1⟩:=⟨h1,h2,h3,h4,by simp only; omega,by simp only; omega⟩
 refine .bp k hk (.bp m hmm (.bind (CO hf _ _) fun k6 ⟨s6,_,_⟩=>.bv (qF s6) (.ite (fun _=>.pure ⟨good,by simp only; omega,by simp⟩) (fun _=>.bind (PD e.binds h1 m.rules m2 m.literals m1 k6 s6) fun k9 _=>.ite (fun _=>.pure ⟨good,by simp only; omega,by simp⟩) (fun _=>.bind (XY e.binds h1 m.rules m2 m.literals m1 k6 s6) fun k11 Il=>.ite (fun _=>.pure ⟨good,by simp only; omega,by simp⟩) (fun hc=>?_))))));refine .bind (CO (CJ (Il (by simpa using hc))) _ _) fun k13 ⟨s13,_,_⟩=>.bv (qF s13) (.ite (fun _=>.pure ⟨good,by simp only; omega,by simp⟩) (fun hv=>.pure ⟨good,by simp only; omega,fun _=>⟨rfl,by omega,CJ (by simpa using hv)⟩⟩))
def PX (m c:Nat):Prop:=∀(e:Expansion) (a3:Int) (f:Form),uM e→a3≤60→(a3-e.steps).toNat≤m→EG f→cF f≤c→Ex (fun n=>iF n e f a3) (xR e (cF f))
theorem TR:∀{a b:List Core},yK (a++b)=yK a+yK b
 | [],b=>by simp[yK]
 | x::r,b=>by simp only[List.cons_append,yK,TR (a:=r)]; omega
theorem Rk {m c:Nat} (hp:PX m c) (e:Expansion) (h:uM e) (fs:List Form) (hfs:∀x∈fs,EG x∧cF x≤c) (hl:fs.length≤400) (a3:Int) (ha:a3≤60) (hm:(a3-e.steps).toNat≤m):Ex (fun n=>rC n e fs a3) (afY e (jD fs)):=by
 refine .succ ?_;simp only[rC];refine Ex.iter (μ:=fun s=>((fs.length:Int)-s.2.1).toNat) (I:=fun s=>∃(j:Nat) (p q:List Form),s.2.1=(j:Int)∧p++q=fs∧p.length=j∧s.1.length=j∧uM ⟨s.2.2.1,s.2.2.2.1,s.2.2.2.2.1,s.2.2.2.2.2.1,s.2.2.2.2.2.2⟩∧e.steps≤s.2.2.2.2.2.2∧((yK s.1+s.1.length:Nat):Int)≤20500*(jD p:Int)+8220500*(s.2.2.2.2.2.2-e.steps)) _ ⟨0,[],fs,rfl,rfl,rfl,rfl,h,by simp,by simp[yK,jD]⟩ ?_;rintro ⟨cs,i,bs,ms,sc,id,st⟩ ⟨j,p,q,i1,i2,i3,i4,i5,i6,i7⟩;simp only at i1 i2 i3 i4 i5 i6 i7 ⊢;subst i1;have hpl:p.length+q.length=fs.length:=by rw[← i2]; simp
 have hsum:jD fs=jD p+jD q:=by rw[← i2,DW]
 refine .ite (fun hlt=>?_) (fun hge=>.fo ⟨i5,i6,by simp only; omega⟩);cases q with
 | nil=>simp only[List.length_nil] at hpl; omega
 | cons x q=>
  have hx:fs[j]? = some x:=by rw[← i2,← i3]; simp
  obtain⟨v1,v2⟩:=hfs x (List.mem_of_getElem? hx);have hle:=i5.2.2.2.2.2;have hle0:=i5.2.2.2.2.1;simp only at hle hle0;simp only[jD] at hsum;refine .bp x (dP hx) (.bind (hp _ a3 x i5 ha (by simp only; omega) v1 v2) fun k ⟨x1,x2,x3⟩=>?_);simp only at x2 x3;refine .ite (fun _=>.fo ⟨x1,by simp only; omega,by simp only; omega⟩) (fun _=>.bp _ (dJ (by simp; omega)) (.fg ⟨⟨j+1,p++[x],q,by rw[kV (by omega) (by omega)]; rfl,by rw[← i2]; simp,by simp[i3],by simp[i4],x1,by simp only; omega,?_⟩,?_⟩))
  ·have e1:yK (cs++[k.2.1])=yK cs+wC k.2.1:=by rw[TR]; simp[yK]
   have e2:jD (p++[x])=jD p+cF x:=by rw[DW]; simp[jD]
   simp only[e1,e2,List.length_append,List.length_cons,List.length_nil];omega
  ·simp only;rw[kV (by omega) (by omega)]; omega
theorem X4 {m c:Nat} (hp:PX m c) (e:Expansion) (h:uM e) (ps:List Form) (hps:∀x∈ps,EG x) (hl:ps.length≤400) (f:Form) (hf:EG f) (hc:cF f≤c) (a3:Int) (ha:a3≤60) (hm:(a3-e.steps).toNat≤m):Ex (fun n=>uI n e ps f a3) (xR e (1+cF f)):=by
 refine .succ ?_;simp only[uI,kS,Option.bind_some];have h0:uM ⟨e.binds,e.macros,aY (e.scope+1),e.id,e.steps⟩:=h;refine .ite (fun _=>.pure (.z h0 (by simp) (by omega))) (fun _=>?_);refine Ex.bI (P:=fun(o:(Expansion×Core×Int)⊕((List Bind)×(List Macro)×Int×Int×Int×(List Int)))=>match o with
  | .inl w=>xR e (1+cF f) w
  | .inr s=>uM ⟨s.1,s.2.1,s.2.2.1,s.2.2.2.1,s.2.2.2.2.1⟩∧s.2.2.2.2.1=e.steps∧s.2.2.2.2.2.length≤400) ?_ (fun w h=>h) ?_
 ·refine Ex.bQ (I:=fun i q s=>ps.drop i=q∧uM ⟨s.1,s.2.1,s.2.2.1,s.2.2.2.1,s.2.2.2.2.1⟩∧s.2.2.2.2.1=e.steps∧s.2.2.2.2.2.length=i) ⟨rfl,h0,rfl,rfl⟩ ?_ (fun s h=>⟨h.2.1,h.2.2.1,by rw[h.2.2.2]; exact hl⟩);rintro i x q ⟨bs,ms,sc,id,st,ids⟩ ⟨hd,s1,s2,s3⟩;simp only at s1 s2 s3 ⊢;obtain⟨_,g2,g3,hx⟩:=jk hd;refine .ite (fun _=>.fo (.z s1 (by simp only; omega) (by omega))) (fun _=>.bind (CO (hps x hx) _ _) fun k13 ⟨q1,_,_⟩=>.bv (qF q1) (.ite (fun _=>.fo (.z s1 (by simp only; omega) (by omega))) (fun _=>.bind (TQ _ s1 k13 q1) fun k16 ⟨b1,b2,_⟩=>?_)));simp only at b2;exact .ite (fun _=>.fo (.z b1 (by omega) (by omega))) (fun _=>.bp _ (dJ (by simp; omega)) (.fg ⟨g2,b1,by simp only; omega,by simp; omega⟩))
 ·rintro ⟨bs,ms,sc,id,st,ids⟩ ⟨s1,s2,s3⟩;simp only at s1 s2 s3 ⊢;refine .bind (CO hf _ _) fun k19 ⟨q1,q2,_⟩=>.bv (qF q1) (.ite (fun _=>.pure (.z s1 (by simp only; omega) (by omega))) (fun hv=>?_));refine .bind (hp _ a3 k19 s1 ha (by simp only; omega) (CJ (by simpa using hv)) (by omega)) fun k22 ⟨x1,x2,x3⟩=>.pure ⟨x1,by simp only at x2 ⊢; omega,?_⟩;simp only at x2 x3;simp only[wC,yK,wF,pV,List.length_nil,List.length_cons];omega
theorem U0 {m c:Nat} (hp:PX m c) (e:Expansion) (h:uM e) (ps vs:List Form) (hps:∀x∈ps,EG x) (hvs:∀x∈vs,EG x) (hl:ps.length≤400) (hlv:vs.length=ps.length) (f:Form) (hf:EG f) (hc:cF f≤c) (a3:Int) (ha:a3≤60) (hm:(a3-e.steps).toNat≤m):Ex (fun n=>oN n e ps vs f a3) (xR e (1+cF f)):=by
 refine .succ ?_;simp only[oN,kS,Option.bind_some];have h0:uM ⟨e.binds,e.macros,aY (e.scope+1),e.id,e.steps⟩:=h;refine .ite (fun _=>.pure (.z h0 (by simp) (by omega))) (fun _=>?_);refine Ex.bI (P:=fun(o:(Expansion×Core×Int)⊕((List Bind)×(List Macro)×Int×Int×Int))=>match o with
  | .inl w=>xR e (1+cF f) w
  | .inr s=>uM ⟨s.1,s.2.1,s.2.2.1,s.2.2.2.1,s.2.2.2.2⟩∧s.2.2.2.2=e.steps) ?_ (fun w h=>h) ?_
 ·refine Ex.bQ (I:=fun i q s=>ps.drop i=q∧uM ⟨s.1,s.2.1,s.2.2.1,s.2.2.2.1,s.2.2.2.2⟩∧s.2.2.2.2=e.steps) ⟨rfl,h0,rfl⟩ ?_ (fun s h=>⟨h.2.1,h.2.2⟩);rintro i x q ⟨bs,ms,sc,id,st⟩ ⟨hd,s1,s2⟩;simp only at s1 s2 ⊢;obtain⟨_,g2,g3,hx⟩:=jk hd;obtain⟨y,hy,hym⟩:=cZ (l:=vs) (i:=(i:Int)) (by omega) (by omega);refine .bind (CO (hps x hx) _ _) fun k12 ⟨q1,_,_⟩=>.bp y hy (.bind (CO (hvs y hym) _ _) fun k14 ⟨r1,_,_⟩=>.ite (fun _=>.fo (.z s1 (by simp only; omega) (by omega))) (fun _=>?_));refine Ex.bind (P:=fun _=>True) (.bv (qF q1) (.ite (fun _=>.pure trivial) (fun _=>.bv (qF r1) (.pure trivial)))) ?_;intro o _;refine .ite (fun _=>.fo (.z s1 (by simp only; omega) (by omega))) (fun _=>.bind (XZ k14 r1) fun k18 nG=>.ite (fun _=>.fo (.z s1 (by simp only; omega) (by omega))) (fun hc18=>.bind (TQ _ s1 k12 q1) fun k20 ⟨b1,b2,b3⟩=>?_));simp only at b2;refine .ite (fun _=>.fo (.z b1 (by omega) (by omega))) (fun Q5=>?_);have b3:=b3 (by simpa using Q5);obtain⟨c1,c2,c3,c4,c5,c6⟩:=b1;have hm18:=nG (by simpa using hc18);refine .bp _ (nR (by omega)) (.bp _ (dJ (by simp; omega)) (.fg ⟨g2,⟨c1,c2,by simp; omega,fun m hm=>?_,c5,c6⟩,by simp only; omega⟩));rcases List.mem_append.1 hm with hm | hm
  ·exact c4 m hm
  ·rw[List.mem_singleton.1 hm]; exact hm18
 ·rintro ⟨bs,ms,sc,id,st⟩ ⟨s1,s2⟩;simp only at s1 s2 ⊢;refine .bind (CO hf _ _) fun k19 ⟨q1,q2,_⟩=>.bv (qF q1) (.ite (fun _=>.pure (.z s1 (by simp only; omega) (by omega))) (fun hv=>?_));refine .bind (hp _ a3 k19 s1 ha (by simp only; omega) (CJ (by simpa using hv)) (by omega)) fun k22 ⟨x1,x2,x3⟩=>.pure ⟨x1,by simp only at x2 ⊢; omega,?_⟩;simp only at x2 x3 ⊢;omega
theorem X5 (f:Form) (hf:EG f):Ex (fun n=>uG n f) (fun r=>(∀x∈r.1,EG x)∧(∀x∈r.2.1,EG x)∧r.1.length≤400∧r.2.1.length=r.1.length∧jD r.2.1+1≤cF f):=by
 have hl:=hf.sm.len;have hc:=rE f;unfold uG;have main:Ex (fun n=>Mx.bQ (fun(s2:(List Form)×(List Form)) (i1:Nat) (x4:Form)=>(Option.bind ((if ¬x4.kind=3 then some true else some (decide (¬(x4.kids.length:Int)=2))):Option (Bool)) (fun(nD:Bool)=>(if nD=true then some (Sum.inl (s2.1,s2.2,false)) else(gQ x4.kids 0).bind fun e12=>(jy 80 s2.1 [e12]).bind fun z13=>(gQ x4.kids 1).bind fun e14=>(jy 80 s2.2 [e14]).bind fun FT=>some (Sum.inr (z13,FT)))):Option (((List Form)×(List Form)×Bool)⊕((List Form)×(List Form))))) 0 f.kids ([],[])) (fun o=>match o with
   | .inl r=>(∀x∈r.1,EG x)∧(∀x∈r.2.1,EG x)∧r.1.length≤400∧r.2.1.length=r.1.length∧jD r.2.1+1≤cF f
   | .inr r=>(∀x∈r.1,EG x)∧(∀x∈r.2,EG x)∧r.1.length≤400∧r.2.length=r.1.length∧jD r.2+1≤cF f):=by
  refine Ex.bQ (I:=fun i q r=>f.kids.drop i=q∧(∀x∈r.1,EG x)∧(∀x∈r.2,EG x)∧r.1.length=i∧r.2.length=i∧jD r.2+jD q+1≤cF f) ⟨rfl,by simp,by simp,rfl,rfl,by simp[jD]; omega⟩ ?_ (fun r h=>⟨h.2.1,h.2.2.1,by rw[h.2.2.2.1]; exact hl,by rw[h.2.2.2.1,h.2.2.2.2.1],by have:=h.2.2.2.2.2; simp only[jD] at this; omega⟩);rintro i x q ⟨a,b⟩ ⟨hd,a1,b1,a2,b2,b3⟩;simp only[jD] at a1 b1 a2 b2 b3 ⊢;obtain⟨_,g2,g3,hx⟩:=jk hd;have hxv:=hf.kid hx;refine Ex.bind (P:=fun o=>o=false→x.kids.length=2) (.ite (fun _=>.pure (by simp)) (fun _=>.pure (by simp; omega))) ?_;intro o ho;refine .ite (fun _=>.fo ⟨a1,b1,by simp only; omega,by simp only; omega,by simp only; omega⟩) (fun hc'=>?_);have h2:=ho (by simpa using hc');obtain⟨y,z,hyz⟩:∃y z,x.kids=[y,z]:=by
   match hk:x.kids,h2 with
   | [y,z],_=>exact⟨y,z,rfl⟩
  have hy:=hxv.kid (x:=y) (by simp[hyz]);have hz:=hxv.kid (x:=z) (by simp[hyz]);have hcx:cF x=1+(cF y+cF z):=by rw[rE,hyz]; simp[jD]
  refine .bp y (adU (by simp[hyz])) (.bp _ (dJ (by simp; omega)) (.bp z (PE (by simp[hyz])) (.bp _ (dJ (by simp; omega)) (.fg ⟨g2,fun w hw=>?_,fun w hw=>?_,by simp; omega,by simp; omega,?_⟩))))
  ·rcases List.mem_append.1 hw with hw | hw
   ·exact a1 w hw
   ·rw[List.mem_singleton.1 hw]; exact hy
  ·rcases List.mem_append.1 hw with hw | hw
   ·exact b1 w hw
   ·rw[List.mem_singleton.1 hw]; exact hz
  ·simp only[DW,jD]; omega
 exact Ex.bI main (fun w h=>h) (fun t h=>.pure h)
theorem adV {α:Type} {l:List α} (h:1≤l.length):Gm l 1 (l.length:Int)=some (l.drop 1):=by
 unfold Gm;rw[if_pos (by omega)];congr 1;rw[List.take_of_length_le]
 ·rfl
 ·rw[Int.toNat_natCast,List.length_drop]; exact Nat.le_refl _
theorem X6 (l:List Form):jD (l.drop 1)≤jD l:=by
 cases l with
 | nil=>simp
 | cons x r=>simp only[List.drop_succ_cons,List.drop_zero,jD]; omega
theorem ln2 {l:List Form} (h:(l.length:Int)=2):∃a b,l=[a,b]:=by
 match l,h with
 | [a,b],_=>exact⟨a,b,rfl⟩
theorem ln3 {l:List Form} (h:(l.length:Int)=3):∃a b c,l=[a,b,c]:=by
 match l,h with
 | [a,b,c],_=>exact⟨a,b,c,rfl⟩
theorem ar1 {a s:Int} {m:Nat} (h:(a-s).toNat≤m) (h2:s<a):m-1<m:=by omega
theorem ar2 {a s t:Int} {m:Nat} (h:(a-s).toNat≤m) (h2:t=s+1):(a-t).toNat≤m-1:=by omega
theorem ZG {m c:Nat} (hp:PX m c) (e:Expansion) (h:uM e) (f:Form) (hf:EG f) (hc:cF f≤c+1) (k a3:Int) (ha:a3≤60) (hm:(a3-e.steps).toNat≤m):Ex (fun n=>tH n e f k a3) (xR e (cF f)):=by
 have he:=rE f;have hl:=hf.sm.len;have hkc:∀x∈f.kids,EG x∧cF x≤c:=fun x hx=>⟨hf.kid hx,by have:=qN hx; omega⟩
 refine .succ ?_;simp only[tH];refine Ex.bind (P:=fun o=>o=true→(f.kids.length:Int)=2) (.ite (fun _=>.pure (by simp)) (fun _=>.pure (by simp))) ?_;intro o1 ho1;refine .ite (fun hc1=>?_) (fun _=>?_)
 ·obtain⟨a,b,hab⟩:=ln2 (ho1 hc1);have hb:=hf.kid (x:=b) (by simp[hab]);have hw:=hb.sm.w;refine .bp b (PE (by simp[hab])) (.bind (PG b (by omega)) fun k4 hk4=>.pure ⟨h,by simp,?_⟩);simp only[wC,yK,List.length_nil]; omega
 refine Ex.bind (P:=fun o=>o=true→(f.kids.length:Int)=4) (.ite (fun _=>.pure (by simp)) (fun _=>.pure (by simp))) ?_;intro o5 ho5;refine .ite (fun hc5=>?_) (fun _=>?_)
 ·have h4:=ho5 hc5;refine .bp _ (adV (by omega)) (.bind (Rk hp e h _ (fun x hx=>hkc x (List.mem_of_mem_drop hx)) (by simp; omega) a3 ha hm) fun k8 ⟨x1,x2,x3⟩=>.pure ⟨x1,x2,?_⟩);have:=X6 f.kids;simp only[wC,wF,pV,List.length_nil]; omega
 refine Ex.bind (P:=fun o=>o=true→(f.kids.length:Int)=3) ?_ ?_
 ·refine .ite (fun _=>.ite (fun h3=>?_) (fun _=>.pure (by simp))) (fun _=>.pure (by simp));obtain⟨a,b,d,hab⟩:=ln3 h3;exact .bp b (PE (by simp[hab])) (.pure fun _=>h3)
 intro o9 ho9;refine .ite (fun fK=>?_) (fun _=>?_)
 ·obtain⟨a,b,d,hab⟩:=ln3 (ho9 fK);have hb:=hkc b (by simp[hab]);have hd:=hkc d (by simp[hab]);have hs:jD f.kids=cF a+(cF b+cF d):=by rw[hab]; simp[jD]
  refine .bp b (PE (by simp[hab])) (.bp d (X0 (by simp[hab])) (.bind (X4 hp e h b.kids (fun x hx=>hb.1.kid hx) hb.1.sm.len d hd.1 hd.2 a3 ha hm) fun k13 ⟨x1,x2,x3⟩=>.pure ⟨x1,x2,?_⟩));simp only; omega
 refine Ex.bind (P:=fun o=>o=false→(f.kids.length:Int)=3) ?_ ?_
 ·have:∀{c:Prop} [Decidable c],Ex (fun _=>some (decide (¬(f.kids.length:Int)=3))) (fun o=>o=false→(f.kids.length:Int)=3):=.pure fun e=>by simpa using e
  exact .ite (fun _=>.ite (fun _=>.pure (by simp)) (fun _=>this (c:=True))) (fun _=>this (c:=True))
 intro AQ af0;refine .ite (fun _=>.pure (.z h (by simp) (by omega))) (fun nV=>?_);obtain⟨a,b,d,hab⟩:=ln3 (af0 (by simpa using nV));have hb:=hkc b (by simp[hab]);have hd:=hkc d (by simp[hab]);have hs:jD f.kids=cF a+(cF b+cF d):=by rw[hab]; simp[jD]
 refine .bp b (PE (by simp[hab])) (.bind (X5 b hb.1) fun k17 ⟨p1,p2,p3,p4,p5⟩=>.ite (fun _=>.pure (.z h (by simp) (by omega))) (fun _=>.ite (fun _=>?_) (fun _=>?_)))
 ·refine .bp d (X0 (by simp[hab])) (.bind (U0 hp e h k17.1 k17.2.1 p1 p2 p3 p4 d hd.1 hd.2 a3 ha hm) fun k21 ⟨x1,x2,x3⟩=>.pure ⟨x1,x2,?_⟩);simp only; omega
 ·refine .bind (Rk hp e h k17.2.1 (fun x hx=>⟨p2 x hx,by have:=qN hx; omega⟩) (by omega) a3 ha hm) fun k22 ⟨x1,x2,x3⟩=>?_;have hst:=x1.2.2.2.2.2;refine .ite (fun _=>.pure (.z x1 x2 (by omega))) (fun _=>.bp d (X0 (by simp[hab])) (.bind (X4 hp k22.1 x1 k17.1 p1 p3 d hd.1 hd.2 a3 ha (by omega)) fun k25 ⟨y1,y2,y3⟩=>?_));have hst2:=y1.2.2.2.2.2;have hst3:=h.2.2.2.2.1;have hf4:=hf.2;refine .bp _ (dJ ?_) (.pure ⟨y1,by simp only; omega,?_⟩)
  ·simp only[List.length_cons,List.length_nil]; omega
  ·simp only[wC,yK,wF,pV,List.length_nil,List.length_append,List.length_cons,List.cons_append,List.nil_append]; omega
theorem X7 (m c:Nat) (ihm:∀m',m'<m→PX m' 400) (ihc:∀c',c'<c→PX m c'):PX m c:=by
 intro e a3 f h ha hm hf hc;have he:=rE f;have hl:=hf.sm.len;obtain⟨t1,t2,t3⟩:=yE.1 hf.1;have hp:PX m (cF f-1):=ihc _ (by omega);refine .succ ?_;simp only[iF];refine .ite (fun _=>.pure ⟨h,by simp,?_⟩) (fun _=>.ite (fun _=>.bind (ZE e h f t1) fun k ⟨x1,x2,x3⟩=>.pure ⟨x1,x2,?_⟩) (fun _=>.ite (fun _=>.pure (.z h (by simp) (by omega))) (fun hk=>?_)))
 ·simp only[wC,yK,wF,pV,List.length_nil]; omega
 ·simp only; omega
 obtain⟨e6,U4,hm6⟩:=cZ (l:=f.kids) (i:=0) (by omega) (by omega);refine .bp e6 U4 ?_;refine Ex.bI (P:=fun(o:(Expansion×Core×Int)⊕Unit)=>match o with
  | .inl w=>xR e (cF f) w
  | .inr _=>True) ?_ (fun w h=>h) (fun _ _=>?_)
 ·refine .ite (fun _=>.bind (TP e h e6) fun k10 hk10=>.ite (fun _=>.pure (.z h (by simp) (by omega))) (fun _=>.ite (fun _=>?_) (fun _=>.ite (fun h2=>?_) (fun _=>.pure trivial)))) (fun _=>.pure trivial)
  ·exact .bind (ZG hp e h f hf (by omega) k10.2 a3 ha hm) fun k13 hk=>.pure hk
  ·refine .bind (f:=fun n=>qA n e f k10.2 a3) (P:=xR e (cF f)) ?_ (fun k15 hk=>.pure hk);refine .succ ?_;simp only[qA];refine .bind (ZF e h f hf k10.2 a3 ha (hk10 h2)) fun k1 ⟨s1,s2,s3⟩=>.ite (fun _=>.pure (.z s1 s2 (by omega))) (fun hc1=>?_);obtain⟨q1,q2,q3⟩:=s3 (by simpa using hc1);refine .bind (ihm (m-1) (ar1 hm q2) k1.1 a3 k1.2.1 s1 ha (ar2 hm q1) q3 q3.2) fun k3 ⟨x1,x2,x3⟩=>.pure ⟨x1,by simp only; omega,?_⟩;have:=q3.2;simp only; omega
 ·refine .bind (Rk hp e h f.kids (fun x hx=>⟨hf.kid hx,by have:=qN hx; omega⟩) hl a3 ha hm) fun k8 ⟨x1,x2,x3⟩=>.pure ⟨x1,x2,?_⟩;simp only[wC,wF,pV,List.length_nil]; omega
theorem abY:∀m c,PX m c:=by
 intro m
 induction m using Nat.strongRecOn with
 | ind m ihm=>
  intro c
  induction c using Nat.strongRecOn with
  | ind c ihc=>exact X7 m c (fun m' h=>ihm m' h 400) (fun c' h=>ihc c' h)
theorem X8:Ex (fun n=>jd n) (fun r=>uM r∧r.steps=0):=by
 unfold jd yc;refine .bp _ rfl ?_;refine Ex.iter (μ:=fun s=>(6-s.1).toNat) (I:=fun s=>1≤s.1∧s.1≤6∧(s.2.length:Int)=s.1-1∧∀b∈s.2,adR b) (1,[]) ⟨by simp,by simp,by simp,by simp⟩ ?_;rintro ⟨i,s⟩ ⟨i0,i1,i2,i3⟩;simp only at i0 i1 i2 i3 ⊢;refine .ite (fun hlt=>?_) (fun hge=>?_)
 ·obtain⟨x,hx,hm⟩:=cZ (l:=[[],[108,97,109,98,100,97],[105,102],[113,117,111,116,101],[108,101,116],iC]) (by omega) hlt;have hxl:x.length≤12:=(by decide:∀x∈([[],[108,97,109,98,100,97],[105,102],[113,117,111,116,101],[108,101,116],iC]:List (List UInt8)),x.length≤12) x hm;simp only[List.length_cons,List.length_nil] at hlt;refine .bp x hx (.bp _ (dJ (by simp; omega)) (.fg ⟨⟨?_,?_,?_,fun b hb=>?_⟩,?_⟩))
  all_goals try simp only
  all_goals try rw[kV (by omega) (by omega)]
  ·omega
  ·omega
  ·simp; omega
  ·rcases List.mem_append.1 hb with hb | hb
   ·exact i3 b hb
   ·rw[List.mem_singleton.1 hb]; exact⟨hxl,by simp⟩
  ·omega
 ·exact .fo ⟨⟨⟨by simp only; omega,i3⟩,by simp only; omega,by simp,by simp,by simp,by simp⟩,rfl⟩
def X9:Core:=⟨0,0,[],0,[],⟨0,[],0,[],[]⟩,[]⟩
def abZ (r:Core×Int):Prop:=wC r.1≤600000000∧(r.2=0→pR r.1=true)∧(¬r.2=0→r.1=X9)
theorem ab1 (f:Form) (hw:wF f≤1000000000) (b:Int):Ex (fun n=>zW n f b) (fun r=>abZ r.2):=by
 have hcl:=SX f;have hz:∀k:Int,¬k=0→abZ (X9,k):=fun k hk=>⟨by rw[show wC X9=0 from wzC]; omega,fun h=>absurd h hk,fun _=>rfl⟩
 unfold zW;refine Ex.bind (P:=fun o=>o=false→fZ f=true∧0≤b∧b≤60) (.bv (Gs f (FB f (by omega)) (by omega)) (.ite (fun _=>.pure (by simp)) (fun hv=>.ite (fun _=>.pure (by simp)) (fun hb=>Ex.pure (v:=decide (b>60)) fun h=>⟨by simpa using hv,by omega,by have h:=of_decide_eq_false h; omega⟩)))) ?_;intro o ho;refine .ite (fun _=>.pure (hz 6 (by omega))) (fun hc=>?_);obtain⟨hv,hb0,hb1⟩:=ho (by simpa using hc);refine .bind X8 fun k3 ⟨h3,hs⟩=>.bind (abY 100 400 k3 b f h3 hb1 (by omega) (CJ hv) (CJ hv).2) fun k4 ⟨x1,x2,x3⟩=>?_;have hst:=x1.2.2.2.2.2;have hcf:=(CJ hv).2;refine .ite (fun hk=>.pure (hz _ hk)) (fun _=>.bv (Tz k4.2.1 (by omega)) (.ite (fun _=>.pure (hz 4 (by omega))) (fun hv4=>.pure ⟨by simp only; omega,fun _=>by simpa using hv4,fun h=>absurd rfl h⟩)))
theorem U1 (f:Form) (hw:wF f≤1000000000) (b:Int):Ex (fun n=>nN n f b) abZ:=by
 unfold nN;exact .bind (ab1 f hw b) fun k1 hk1=>.bv (MI k1.2.1 (Nat.le_trans hk1.1 (by omega))) (.pure hk1)
theorem TS:∀(l:List Core) (i:Nat) (x y:Core),l[i]? = some x→yK (l.set i y)+wC x=yK l+wC y
 | [],i,x,y,h=>by simp at h
 | a::l,0,x,y,h=>by simp at h; subst h; simp only[List.set_cons_zero,yK]; omega
 | a::l,i+1,x,y,h=>by
  have:=TS l i x y (by simpa using h);simp only[List.set_cons_succ,yK]; omega
theorem Rl (c:Core) (hw:wC c≤10000000) (r:bf) (h:Gd r (4*((wC c:Int)+1))):Ex (fun n=>kT n c r) (fun k=>Sp r k.2 (4*((wC c:Int)+1))∧wC k.1≤wC c+2):=by
 have he:=Oa c;refine .succ ?_;simp only[kT];refine .bv (MI c (by omega)) ?_;refine Ex.bind (P:=fun o=>Sp r o.2 1∧(o.1=true→1≤c.kids.length)) ?_ ?_
 ·refine .ite (fun hl=>.bind (iQ h (by omega)) fun k15 ⟨s1,_⟩=>.pure ⟨s1,fun _=>by omega⟩) (fun hl=>.pure ⟨.refl (by omega),fun h=>by cases h⟩)
 rintro ⟨b0,r1⟩ ⟨s1,hb⟩;simp only at s1 hb ⊢;have g1:Gd r1 (4*((wC c:Int)+1)-1):=h.to s1 (by omega);refine .ite (fun hb0=>?_) (fun _=>?_)
 ·have hl:=hb hb0;refine .bind (iQ g1 (by omega)) fun k4 ⟨s2,hv⟩=>?_;obtain⟨v0,v1⟩:=hv (by omega);have hv:k4.1.toNat<c.kids.length:=by omega
  have hx:=List.getElem?_eq_getElem hv;have hxm:c.kids[k4.1.toNat]∈c.kids:=List.getElem_mem hv;have hxw:=Dt hxm;refine .bp () (Eo v0 hv) (.bp _ hx (.bind (Rl _ (by omega) k4.2 (g1.to s2 (by omega))) fun k8 ⟨s3,w3⟩=>.bp () (Eo v0 hv) (.pure ⟨?_,?_⟩)))
  ·exact s1.trans (s2.trans s3 (D:=1+4*((wC (c.kids[k4.1.toNat]):Int)+1)) (by omega)) (by omega)
  ·have:=TS c.kids k4.1.toNat _ k8.1 hx;simp only[wC,List.length_set]; omega
 ·refine .bind (iQ g1 (by omega)) fun k11 ⟨s2,_⟩=>?_;have g2:Gd k11.2 1:=g1.to s2 (by omega);refine Ex.bind (P:=fun o=>Sp k11.2 o.2.2.2.2 1∧o.2.2.2.1.length+o.2.2.1.length≤c.ids.length+c.name.length+2) ?_ ?_
  ·refine .ite (fun _=>?_) (fun _=>.ite (fun _=>?_) (fun _=>.ite (fun _=>?_) (fun _=>.ite (fun _=>?_) (fun _=>?_))))
   ·refine .bind (xB (by simp) g2 (by omega)) fun k ⟨s3,_⟩=>.pure ⟨s3,by simp only; omega⟩
   ·refine .bind (xB (by simp) g2 (by omega)) fun k ⟨s3,_⟩=>.pure ⟨s3,by simp only; omega⟩
   ·refine .bind (xB (by simp) g2 (by omega)) fun k ⟨s3,_⟩=>.bp _ (dJ (by simp; omega)) (.pure ⟨s3,by simp; omega⟩)
   ·refine .bind (Xz (by simp) g2 (by omega)) fun k ⟨s3,hm⟩=>?_;have:k.1.length≤1:=by
     simp only[List.mem_cons,List.not_mem_nil,or_false] at hm;rcases hm with h | h | h <;> rw[h] <;> decide
    exact .pure ⟨s3,by simp only; omega⟩
   ·exact .pure ⟨.refl (by omega),by simp only; omega⟩
  ·rintro o ⟨s3,w3⟩;exact .pure ⟨s1.trans (s2.trans s3 (D:=2) (by omega)) (by omega),by simp only[wC]; omega⟩
termination_by SizeOf.sizeOf c
decreasing_by exact zy hxm
theorem TT (b:List UInt8):Ex (fun n=>tJ n b) (fun c=>wC c≤3000):=by
 unfold tJ;refine .bind (Rh b) fun k1 g=>.bind (xB (by simp) g (by omega)) fun k2 ⟨s2,hm⟩=>?_;have g2:Gd k2.2 900000000:=g.to s2 (by omega);obtain⟨d,hd,hk⟩:∃d:Nat,d≤4∧k2.1=(d:Int):=by
  simp only[List.mem_cons,List.not_mem_nil,or_false] at hm;rcases hm with h | h | h
  ·exact⟨3,by omega,h⟩
  ·exact⟨4,by omega,h⟩
  ·exact⟨2,by omega,h⟩
 rw[hk];have hB:bC d≤10000∧U7 d≤2500:=by
  have:d=0∨d=1∨d=2∨d=3∨d=4:=by omega
  rcases this with rfl | rfl | rfl | rfl | rfl <;> simp[bC,U7]
 refine .bind (Zw d (by omega) [] 0 k2.2 (by simp) (g2.to (.refl (Int.le_refl 0)) (by omega))) fun k3 ⟨s3,w3,_⟩=>?_;have g3:Gd k3.2.2 800000000:=g2.to s3 (by omega);refine .bind (iQ g3 (by omega)) fun k4 ⟨s4,_⟩=>.ite (fun _=>?_) (fun _=>.pure (by omega));have g4:Gd k4.2 700000000:=g3.to s4 (by omega);refine .bind (Rl k3.1 (by omega) k4.2 (g4.to (.refl (Int.le_refl 0)) (by omega))) fun k6 ⟨s6,w6⟩=>?_;have g6:Gd k6.2 600000000:=g4.to s6 (by omega);exact .bind (Rl k6.1 (by omega) k6.2 (g6.to (.refl (Int.le_refl 0)) (by omega))) fun k7 ⟨_,w7⟩=>.pure (by omega)
def t8:List (List UInt8):=[l9,mg,lX,lW,mV,lY,[40,49,32,50,41],l7,uq,mD,oZ,nC]
theorem ab2:∀x∈t8,x.length≤500:=by decide
theorem ZH (r:bf) (g:Gd r 200000):Ex (fun n=>xw n r) (fun k=>Sp r k.2 200000∧wF k.1≤100000):=by
 unfold xw yA;refine .bp t8 rfl (.bind (iQ g (by omega)) fun k2 ⟨s1,_⟩=>?_);have g1:Gd k2.2 150000:=g.to s1 (by omega);refine .ite (fun _=>?_) (fun _=>?_)
 ·refine .bind (iQ g1 (by omega)) fun k4 ⟨s2,hv⟩=>?_;obtain⟨v0,v1⟩:=hv (by decide);obtain⟨x,hx,hm⟩:=cZ v0 v1;have hl:=ab2 x hm;refine .bp x hx (.bind (MJ x (by omega)) fun k6 hk=>.pure ⟨s1.trans s2 (by omega),by simp only; omega⟩)
 ·exact .bind (Zy k2.2 (g1.to (.refl (Int.le_refl 0)) (by omega))) fun k8 ⟨s8,w8⟩=>.pure ⟨s1.trans s8 (by omega),w8⟩
theorem Rn (b:List UInt8):Ex (fun n=>jR n b) (fun k=>wC k.1≤600000000∧(wC k.1≤3000∨pR k.1=true)∧0≤k.2∧k.2≤3001):=by
 unfold jR;refine .bind (Rh b) fun k1 g=>.bind (iQ g (by omega)) fun k2 ⟨s2,_⟩=>?_;have g2:Gd k2.2 900000000:=g.to s2 (by omega);refine .ite (fun _=>.bind (TT b) fun k4 h4=>.pure ⟨by simp only; omega,.inl h4,by simp only; omega,by simp only; omega⟩) (fun _=>?_);refine .bind (ZH k2.2 (g2.to (.refl (Int.le_refl 0)) (by omega))) fun k5 ⟨s5,w5⟩=>.bind (U1 k5.1 (by omega) 20) fun k6 ⟨e1,e2,_⟩=>?_;have g5:Gd k5.2 800000000:=g2.to s5 (by omega);refine Ex.bind (P:=fun c=>wC c≤600000000∧(wC c≤3000∨pR c=true)) (.ite (fun _=>.bind (TT b) fun k10 h10=>.pure ⟨by omega,.inl h10⟩) (fun h0=>.pure ⟨e1,.inr (e2 (by simpa using h0))⟩)) ?_;rintro c ⟨c1,c2⟩;refine .bind (xB (by simp) g5 (by omega)) fun k8 ⟨_,hm⟩=>.pure ⟨c1,c2,?_,?_⟩
 all_goals
  simp only[List.mem_cons,List.not_mem_nil,or_false] at hm;simp only;omega
theorem Ya (b:List UInt8):Ex (fun n=>uJ n b) (fun c=>wC c≤600000000∧(wC c≤3000∨pR c=true)):=by
 unfold uJ;exact .bind (Rn b) fun k h=>.pure ⟨h.1,h.2.1⟩
theorem PI (n:Nat) (l:List (List UInt8)) (x:List UInt8):slices_Contains_string n l x=some (decide (x∈l)):=by
 unfold slices_Contains_string slices_Index_string;have main:∀(l:List (List UInt8)) (i:Nat),∃k:Int,bI (Mx.bQ (fun(_:Unit) (i:Nat) (y:List UInt8)=>((if x=y then some (Sum.inl (i:Int)) else some (Sum.inr ())):Option (Int⊕Unit))) i l ()) (fun _=>some (-1))=some k∧(k≥0↔x∈l):=by
  intro l
  induction l with
  | nil=>intro i; exact⟨-1,rfl,by simp⟩
  | cons y r ih=>
   intro i;by_cases h:x=y
   ·subst h;exact⟨(i:Int),by simp[Mx.bQ,Mx.bI],by simp⟩
   ·obtain⟨k,h1,h2⟩:=ih (i+1);refine⟨k,?_,by rw[h2]; simp[h]⟩;rw[← h1];simp[Mx.bQ,h]
 obtain⟨k,h1,h2⟩:=main l 0;rw[h1,Option.bind_some];congr 1;rw[Bool.eq_iff_iff,decide_eq_true_eq,decide_eq_true_eq]; exact h2
theorem KF (n:Nat) (l:List (List UInt8)) (x:List UInt8):gV n l x=some (decide (x∈l)):=PI n l x
def CP (w:List (List UInt8)) (x:List UInt8):List (List UInt8):=if x∈w then w else w++[x]
mutual
def I7:Core→List (List UInt8)
 | ⟨k,_,nm,_,_,_,kids⟩=>(if k=2 then [nm] else [])++EH kids
def EH:List Core→List (List UInt8)
 | []=>[]
 | x::r=>I7 x++EH r
end
theorem Ro (c:Core):I7 c=(if c.kind=2 then [c.name] else [])++EH c.kids:=by cases c; simp only[I7]
mutual
theorem Rq:∀c:Core,(I7 c).length≤cC c
 | ⟨k,_,nm,_,_,_,kids⟩=>by have:=TU kids; simp only[I7,cC,List.length_append]; split <;> simp <;> omega
theorem TU:∀l:List Core,(EH l).length≤D6 l
 | []=>by simp[EH]
 | x::r=>by have:=Rq x; have:=TU r; simp only[EH,D6,List.length_append]; omega
end
theorem ZI (w:List (List UInt8)) (x:List UInt8):(CP w x).length≤w.length+1:=by unfold CP; split <;> simp
theorem Ac:∀(l w:List (List UInt8)),(l.foldl CP w).length≤w.length+l.length
 | [],w=>by simp
 | x::r,w=>by have:=Ac r (CP w x); have:=ZI w x; simp only[List.foldl_cons,List.length_cons]; omega
theorem KG (c:Core) (w:List (List UInt8)) (hw:w.length+cC c≤1000000000):gG (fun n=>oI n c w) ((I7 c).foldl CP w):=by
 have hc:=Ti c;refine .succ ?_;simp only[oI,KF,Option.bind_some];refine Ex.CQ ?_;refine Ex.bind (P:=fun o=>o=decide (c.kind=2∧c.name∉w)) ?_ ?_
 ·by_cases h:c.kind=2
  ·exact .pos h (.pure (by simp[h]))
  ·exact .neg h (.pure (by simp[h]))
 rintro o rfl;refine Ex.bind (P:=fun s=>s=(if c.kind=2 then [c.name] else []).foldl CP w) ?_ ?_
 ·by_cases h:c.kind=2∧c.name∉w
  ·exact .pos (by simpa using h) (.bp _ (dJ (by simp; omega)) (.pure (by rw[if_pos h.1]; simp[CP,h.2])))
  ·refine .neg (by simpa using h) (.pure ?_);by_cases h1:c.kind=2
   ·have:c.name∈w:=Decidable.byContradiction fun h2=>h ⟨h1,h2⟩;rw[if_pos h1]; simp[CP,this]
   ·rw[if_neg h1]; rfl
 rintro s0 rfl;have hl0:((if c.kind=2 then [c.name] else []).foldl CP w).length≤w.length+1:=by
  have:=Ac (if c.kind=2 then [c.name] else []) w;have:(if c.kind=2 then [c.name] else []).length≤1:=by split <;> simp
  omega
 refine Ex.bind (P:=fun s=>s=(I7 c).foldl CP w) ?_ (fun s hs=>.pure hs);refine Ex.dX (I:=fun i q s=>(EH q).foldl CP s=(I7 c).foldl CP w∧s.length+D6 q≤1000000000∧∀x∈q,x∈c.kids) ⟨by rw[Ro,List.foldl_append],by omega,fun _ h=>h⟩ ?_ ?_
 ·rintro i x q s ⟨h1,h2,h3⟩;have g4:=h3 x List.mem_cons_self;simp only[D6] at h2;have hx:=Rq x;have hf:=Ac (I7 x) s;refine .bv (KG x s (by omega)) (.pure ⟨?_,by omega,fun y hy=>h3 y (List.mem_cons_of_mem _ hy)⟩);rw[← h1,EH,List.foldl_append]
 ·rintro s ⟨h1,_,_⟩;exact h1
termination_by SizeOf.sizeOf c
decreasing_by exact zy g4
theorem I8 (c:Core) (hw:cC c≤1000000000-1):gG (fun n=>oJ n c) ((I7 c).foldl CP []):=by
 have h:=KG c [] (by simp; omega);obtain⟨N,hN⟩:=h;refine⟨N+1,fun n hn=>?_⟩;obtain⟨m,rfl⟩:∃m,n=m+1:=⟨n-1,by omega⟩
 have h1:=hN (m+2) (by omega);have e:oJ (m+1) c=oI (m+2) c []:=by
  unfold oJ qL;simp only[oI,KF,PI,Option.bind_some,Option.bind_fun_some]
 show oJ (m+1) c=_;rw[e]; exact h1
theorem ab3 (n:Nat) (l:List (List UInt8)) (x:List UInt8):L9 n l x=some (decide (x∈l)):=by
 obtain⟨N,h⟩:=SC (xs:=l) (y:=x);exact h N (Nat.le_refl N)
theorem ZJ (n:Nat) (l:List (List UInt8)) (x:List UInt8):AU n l x=some (decide (x∈l)):=ab3 n l x
theorem KH (c:Core) (w:List (List UInt8)) (hw:w.length+cC c≤1000000000):gG (fun n=>tK n w c) ((I7 c).foldl CP w):=by
 have hc:=Ti c;refine .succ ?_;simp only[tK,ZJ,Option.bind_some];refine Ex.CQ ?_;refine Ex.bind (P:=fun o=>o=decide (c.kind=2∧c.name∉w)) ?_ ?_
 ·by_cases h:c.kind=2
  ·exact .pos h (.pure (by simp[h]))
  ·exact .neg h (.pure (by simp[h]))
 rintro o rfl;refine Ex.bind (P:=fun s=>s=(if c.kind=2 then [c.name] else []).foldl CP w) ?_ ?_
 ·by_cases h:c.kind=2∧c.name∉w
  ·exact .pos (by simpa using h) (.bp _ (dJ (by simp; omega)) (.pure (by rw[if_pos h.1]; simp[CP,h.2])))
  ·refine .neg (by simpa using h) (.pure ?_);by_cases h1:c.kind=2
   ·have:c.name∈w:=Decidable.byContradiction fun h2=>h ⟨h1,h2⟩;rw[if_pos h1]; simp[CP,this]
   ·rw[if_neg h1]; rfl
 rintro s0 rfl;have hl0:((if c.kind=2 then [c.name] else []).foldl CP w).length≤w.length+1:=by
  have:=Ac (if c.kind=2 then [c.name] else []) w;have:(if c.kind=2 then [c.name] else []).length≤1:=by split <;> simp
  omega
 refine Ex.bind (P:=fun s=>s=(I7 c).foldl CP w) ?_ (fun s hs=>.pure hs);refine Ex.dX (I:=fun i q s=>(EH q).foldl CP s=(I7 c).foldl CP w∧s.length+D6 q≤1000000000∧∀x∈q,x∈c.kids) ⟨by rw[Ro,List.foldl_append],by omega,fun _ h=>h⟩ ?_ ?_
 ·rintro i x q s ⟨h1,h2,h3⟩;have g4:=h3 x List.mem_cons_self;simp only[D6] at h2;have hx:=Rq x;have hf:=Ac (I7 x) s;refine .bv (KH x s (by omega)) (.pure ⟨?_,by omega,fun y hy=>h3 y (List.mem_cons_of_mem _ hy)⟩);rw[← h1,EH,List.foldl_append]
 ·rintro s ⟨h1,_,_⟩;exact h1
termination_by SizeOf.sizeOf c
decreasing_by exact zy g4
theorem U2 {d:Nat} {sc:List Int} {c:Core} (h:D5 d sc c=true):∃e s,d=e+1∧F7 c.kind c.kids.length=true∧UM c=true∧(c.kind=1→c.id∈sc)∧MZ sc c.ids=some s∧∀x∈c.kids,D5 e s x=true:=by
 cases d with
 | zero=>cases h
 | succ e=>
  simp only[D5,Bool.and_eq_true] at h;obtain⟨h1,h2,h3,h4⟩:=h;split at h4
  ·cases h4
  ·rename_i s hs;refine⟨e,s,rfl,h1,h2,?_,hs,List.all_eq_true.1 h4⟩;intro hk
   simpa [hk] using h3
theorem ab4 (n:Nat) (l:List (List UInt8)) (w:Int) (hl:∀x∈l,x.length≤18):aZ n l w=some (l.any fun x=>uo x (Mx.rn w)):=by
 unfold aZ dI;have e:∀x:List UInt8,x.length≤18→jq n x w=some (uo x (Mx.rn w)):=fun x hx=>by
  unfold jq uZ;rw[if_pos (by omega)]; rfl
 have main:∀(l:List (List UInt8)) (i:Nat),(∀x∈l,x.length≤18)→∃k:Int,bI (Mx.bQ (fun(_:Unit) (i:Nat) (y:List UInt8)=>((jq n y w).bind fun k=>(if k=true then some (Sum.inl (i:Int)) else some (Sum.inr ())):Option (Int⊕Unit))) i l ()) (fun _=>some (-1))=some k∧(k≥0↔(l.any fun x=>uo x (Mx.rn w))=true):=by
  intro l
  induction l with
  | nil=>intro i _; exact⟨-1,rfl,by simp⟩
  | cons y r ih=>
   intro i hl;have ey:=e y (hl y List.mem_cons_self);cases h:uo y (Mx.rn w) with
   | true=>exact⟨(i:Int),by simp[Mx.bQ,Mx.bI,ey,h],by simp[h]⟩
   | false=>
    obtain⟨k,h1,h2⟩:=ih (i+1) (fun x hx=>hl x (List.mem_cons_of_mem _ hx));refine⟨k,?_,by rw[h2]; simp[h]⟩;rw[← h1];simp[Mx.bQ,ey,h]
 obtain⟨k,h1,h2⟩:=main l 0 hl;rw[h1,Option.bind_some];congr 1;rw[Bool.eq_iff_iff,decide_eq_true_eq]; exact h2
theorem slN {α:Type} {l:List α} {a b:Nat} (h:a≤b) (hb:b≤l.length):Gm l (a:Int) (b:Int)=some ((l.drop a).take (b-a)):=by
 unfold Gm;rw[if_pos ⟨by omega,by omega,by omega⟩];simp
theorem TV {b:UInt8} {r:List UInt8}:xU (b::r)=true↔(b::r).all Jo=true∧¬(b=48∧r≠[]):=by
 simp only[xU,Bool.and_eq_true,Bool.or_eq_true,decide_eq_true_eq,List.all_cons,List.isEmpty_iff];constructor
 ·rintro ⟨⟨h1,h2⟩,h3⟩;refine⟨⟨h1,h2⟩,fun⟨a,c⟩=>?_⟩;rcases h3 with h3 | h3
  ·exact h3 a
  ·exact c h3
 ·rintro ⟨⟨h1,h2⟩,h3⟩;refine⟨⟨h1,h2⟩,?_⟩;by_cases h:b=48
  ·exact .inr (Classical.byContradiction fun c=>h3 ⟨h,c⟩)
  ·exact .inl h
theorem aag (b:UInt8):(b.toNat:Int)=48↔b=48:=by
 rw[← UInt8.toNat_inj,show(48:UInt8).toNat=48 from rfl]; omega
theorem aah (b:UInt8):(b.toNat:Int)=45↔b=45:=by
 rw[← UInt8.toNat_inj,show(45:UInt8).toNat=45 from rfl]; omega
theorem ab5 (s:List UInt8) (hs:s.length≤17):Ex (fun n=>lH n s) (fun r=>(r.2=true→s≠[])∧(s.head?≠some 45→(r.2=true↔xU s=true))):=by
 unfold lH;cases s with
 | nil=>
  simp only[List.length_nil,Option.bind_some];exact .pure ⟨fun h=>(by cases h),fun _=>⟨fun h=>(by cases h),fun h=>(by cases h)⟩⟩
 | cons b r=>
 have hl:0<(b::r).length:=by simp
 have hne:b::r≠[]:=by simp
 have hy:(b::r)[0]? = some b:=rfl;refine Ex.bind (P:=fun o=>o=decide (b=45)) (.pos (by omega) (.bp _ (dP (i:=0) hy) (.pure (by simp only[aah])))) ?_;rintro o1 rfl;refine Ex.mono (Q:=fun r'=>b≠45→(r'.2=true↔xU (b::r)=true)) ?_ (fun v hv=>⟨fun _=>hne,fun h=>hv (by simpa using h)⟩);refine Ex.bind (P:=fun t=>t.length≤17∧(b≠45→t=b::r)) ?_ ?_
 ·refine .ite (fun h=>?_) (fun _=>.pure ⟨hs,fun _=>rfl⟩);have:=slN (l:=b::r) (a:=1) (b:=(b::r).length) (by omega) (Nat.le_refl _);exact .bp _ this (.pure ⟨by simp at hs ⊢; omega,fun h'=>absurd (by simpa using h) h'⟩)
 rintro t ⟨ht,hts⟩;refine Ex.bind (P:=fun o=>(o=false→t≠[])∧(b≠45→(o=true↔b=48∧r≠[]))) ?_ ?_
 ·refine .ite (fun h=>.pure ⟨fun h=>(by cases h),fun h'=>?_⟩) (fun h1=>.ite (fun h=>by omega) (fun _=>?_))
  ·rw[hts h'] at h; simp at h; omega
  cases t with
  | nil=>simp at h1
  | cons y q=>
  refine .bp _ (dP (i:=0) (x:=y) rfl) ?_;refine .ite (fun h2=>.ite (fun h3=>.pure ⟨fun _=>(by simp),fun h'=>?_⟩) (fun h3=>.pure ⟨fun _=>(by simp),fun h'=>?_⟩)) (fun h2=>.pure ⟨fun _=>(by simp),fun h'=>?_⟩)
  ·obtain⟨rfl,rfl⟩:=List.cons.inj (hts h');have:q≠[]:=fun e=>by rw[e] at h3; simp at h3
   simp[(aag y).1 h2,this]
  ·obtain⟨rfl,rfl⟩:=List.cons.inj (hts h');have:q=[]:=by
    cases q with
    | nil=>rfl
    | cons a c=>exact absurd (by simp; omega) h3
   simp[this,h']
  ·obtain⟨rfl,rfl⟩:=List.cons.inj (hts h');have:y≠48:=fun e=>h2 ((aag y).2 e);simp[this]
 rintro o3 ⟨g1,g2⟩;refine .ite (fun h3=>.pure fun h'=>?_) (fun h3=>?_)
 ·rw[TV];exact⟨fun h=>(by cases h),fun h=>absurd ((g2 h').1 h3) h.2⟩
 have h3':o3=false:=by simpa using h3
 have fin:∀v:Int×Bool,v.2=t.all Jo→b≠45→(v.2=true↔xU (b::r)=true):=fun v hv h'=>by
  have h4:¬(b=48∧r≠[]):=fun h=>h3 ((g2 h').2 h);rw[TV,hv,hts h'];exact⟨fun h=>⟨h,h4⟩,fun h=>h.1⟩
 refine Ex.mono (Q:=fun r'=>r'.2=t.all Jo) ?_ fin;refine Ex.iter (fun s=>t.length-s.2.toNat) (fun s=>∃i:Nat,s.2=(i:Int)∧i≤t.length∧(t.take i).all Jo=true) _ ⟨0,rfl,Nat.zero_le _,rfl⟩ ?_;rintro ⟨k,p⟩ ⟨i,hi,hil,hall⟩;simp only at hi;subst hi;simp only;refine .ite (fun h=>?_) (fun h=>?_)
 ·have hi:i<t.length:=by omega
  have hy:=List.getElem?_eq_getElem hi;rw[dP hy];simp only[Option.bind_some];refine Ex.bind (P:=fun o=>o=!Jo t[i]) ?_ ?_
  ·refine .ite (fun h1=>.pure ?_) (fun h1=>.pure ?_)
   ·unfold Jo; simp; omega
   ·unfold Jo;by_cases h2:(t[i].toNat:Int)>57
    ·simp[h2]; omega
    ·simp[h2]; omega
  rintro o rfl;refine .ite (fun h1=>.pure ⟨fun w e=>?_,fun _ e=>(by cases e)⟩) (fun h1=>.pure ⟨fun _ e=>(by cases e),fun s' e=>?_⟩)
  ·cases e
   symm
   rw[Bool.eq_false_iff];intro h2;have:=List.all_eq_true.1 h2 _ (List.getElem_mem hi);rw[this] at h1; cases h1
  ·cases e;refine⟨⟨i+1,by simp only; rw[fV (by omega)],by omega,?_⟩,by simp only; rw[fV (by omega)]; simp; omega⟩;rw[List.take_add_one,hy,List.all_append,hall]
   simpa using h1
 ·have:i=t.length:=by omega
  subst this;rw[List.take_length] at hall;refine Ex.bind (P:=fun _=>True) (.ite (fun _=>.pure trivial) (fun _=>.pure trivial)) ?_;intro o _;exact .pure ⟨fun w e=>by cases e; exact hall.symm,fun _ e=>(by cases e)⟩
theorem MS:∀i:Nat,i<26→Mx.rn ((97+i:Nat):Int)=[UInt8.ofNat (97+i)]:=by decide +kernel
theorem ZK (x:List UInt8) (h1:1≤x.length) (h2:x.length≤18) (i:Nat) (hi:i<26):Ex (fun n=>nP n x ((97+i:Nat):Int)) (fun r=>r=uo x (Mx.rn ((97+i:Nat):Int))):=by
 unfold nP;cases x with
 | nil=>simp at h1
 | cons b r=>
 have e:=slN (l:=b::r) (a:=1) (b:=(b::r).length) (by simp) (Nat.le_refl _);have e2:((b::r).drop 1).take ((b::r).length-1)=r:=by simp
 rw[e2] at e;refine .bp _ e (.bind (ab5 r (by simp at h2; omega)) ?_);rintro k ⟨k1,k2⟩;rw[MS i hi];have hn:uo (b::r) [UInt8.ofNat (97+i)]=(decide ((b.toNat:Int)=((97+i:Nat):Int))&&xU r):=by
  have hb:decide ((b::r).take 1=[UInt8.ofNat (97+i)])=decide ((b.toNat:Int)=((97+i:Nat):Int)):=by
   simp only[decide_eq_decide,List.take_succ_cons,List.take_zero,List.cons.injEq,and_true];constructor
   ·rintro rfl; simp[UInt8.toNat_ofNat']; omega
   ·intro h;rw[← UInt8.toNat_inj,UInt8.toNat_ofNat'];omega
  unfold uo;rw[hb,decide_eq_true h2];cases r with
  | nil=>simp[xU]
  | cons y q=>simp
 rw[hn];refine Ex.bind (P:=fun o=>o=(decide ((b.toNat:Int)=((97+i:Nat):Int))&&xU r)) ?_ (fun o ho=>.pure ho);refine .bp _ (dP (i:=0) (x:=b) rfl) ?_;refine .ite (fun hb=>?_) (fun hb=>.pure (by rw[decide_eq_false hb]; rfl));rw[decide_eq_true hb,Bool.true_and];cases r with
 | nil=>exact .neg (fun h=>k1 h rfl) (.pure rfl)
 | cons y q=>
 refine .ite (fun hk=>.bp y (by unfold gQ; rfl) (.pure ?_)) (fun hk=>.pure ?_)
 ·by_cases hy:y=45
  ·subst hy; rfl
  ·rw[(k2 (by simpa using hy)).1 hk];have:¬(y.toNat:Int)=45:=fun h=>hy ((aah y).1 h);simp[this]
 ·by_cases hy:y=45
  ·subst hy; rfl
  ·symm
   rw[Bool.eq_false_iff];exact fun h=>hk ((k2 (by simpa using hy)).2 h)
def pL (l:List (List UInt8)) (i:Nat):Bool:=l.any fun x=>uo x (Mx.rn ((97+i:Nat):Int))
def Yb (l:List (List UInt8)) (r:List UInt8×Bool):Prop:=
 (∃i,i<26∧r=(Mx.rn ((97+i:Nat):Int),true)∧pL l i=false∧∀j,j<i→pL l j=true)∨(r=([],false)∧∀j,j<26→pL l j=true)
theorem Yb.uniq {l:List (List UInt8)} {r r':List UInt8×Bool} (h:Yb l r) (h':Yb l r'):r=r':=by
 rcases h with ⟨i,hi,rfl,h1,h2⟩ | ⟨rfl,h2⟩ <;> rcases h' with ⟨k,hk,rfl,k1,k2⟩ | ⟨rfl,k2⟩
 ·have:i=k:=by
   rcases Nat.lt_trichotomy i k with h | h | h
   ·rw[k2 i h] at h1; cases h1
   ·exact h
   ·rw[h2 k h] at k1; cases k1
  subst this; rfl
 ·rw[k2 i hi] at h1; cases h1
 ·rw[h2 k hk] at k1; cases k1
 ·rfl
theorem aai {l:List (List UInt8)} {step:Nat→Int→Option ((List UInt8×Bool)⊕Int)} (h1:∀i:Nat,i<26→Ex (fun n=>step n ((97+i:Nat):Int)) (fun r=>r=if pL l i=false then .inl (Mx.rn ((97+i:Nat):Int),true) else .inr ((97+(i+1):Nat):Int))) (h2:Ex (fun n=>step n ((97+26:Nat):Int)) (fun r=>r=.inl ([],false))) :
  Ex (fun n=>iterM n (step n) 97) (Yb l):=by
 refine Ex.iter (fun s=>123-s.toNat) (fun s=>∃i:Nat,s=((97+i:Nat):Int)∧i≤26∧∀j,j<i→pL l j=true) _ ⟨0,rfl,by omega,fun j h=>by omega⟩ ?_;rintro s ⟨i,rfl,hi,hp⟩;rcases Nat.lt_or_ge i 26 with h | h
 ·refine(h1 i h).mono ?_;rintro r rfl;cases hq:pL l i with
  | false=>
   rw[if_pos rfl];exact⟨fun w e=>by rw[← Sum.inl.inj e]; exact .inl ⟨i,h,rfl,hq,hp⟩,fun s' e=>(by cases e)⟩
  | true=>
   refine⟨fun w e=>by simp at e,fun s' e=>?_⟩;simp only[Bool.true_eq_false,if_false,Sum.inr.injEq] at e;subst e;refine⟨⟨i+1,rfl,by omega,fun j hj=>?_⟩,by simp only[Int.toNat_natCast]; omega⟩;rcases Nat.lt_or_eq_of_le (Nat.le_of_lt_succ hj) with h' | h'
   ·exact hp j h'
   ·subst h'; exact hq
 ·have:i=26:=by omega
  subst this;refine h2.mono ?_;rintro r rfl;exact⟨fun w e=>by cases e; exact .inr ⟨rfl,hp⟩,fun s' e=>(by cases e)⟩
theorem ab6:∀i:Nat,i<26→IntKind.i32.wrap (((97+i:Nat):Int)+1)=((97+(i+1):Nat):Int):=by decide +kernel
theorem adW:∀i:Nat,i<26→IntKind.u8.wrap (((97+i:Nat):Int)+1)=((97+(i+1):Nat):Int):=by decide +kernel
theorem PK:∀(l w:List (List UInt8)) {x:List UInt8},x∈l.foldl CP w→x∈w∨x∈l
 | [],w,x,h=>.inl h
 | y::r,w,x,h=>by
  rw[List.foldl_cons] at h;rcases PK r (CP w y) h with h | h
  ·unfold CP at h;split at h
   ·exact .inl h
   ·rcases List.mem_append.1 h with h | h
    ·exact .inl h
    ·exact .inr (by rw[List.mem_singleton.1 h]; exact List.mem_cons_self)
  ·exact .inr (List.mem_cons_of_mem _ h)
theorem Yc {s:List UInt8} (h:nameB s=true):1≤s.length∧s.length≤12:=by
 unfold nameB at h;simp only[Bool.or_eq_true,Bool.and_eq_true,decide_eq_true_eq] at h;rcases h with (h | h) | h
 ·subst h; decide
 ·subst h; decide
 ·exact h.2
theorem PL:∀{l:List Core} {x:List UInt8},x∈EH l→∃c∈l,x∈I7 c
 | c::r,x,h=>by
  simp only[EH,List.mem_append] at h;rcases h with h | h
  ·exact⟨c,List.mem_cons_self,h⟩
  ·obtain⟨d,h1,h2⟩:=PL h;exact⟨d,List.mem_cons_of_mem _ h1,h2⟩
 | [],x,h=>by simp[EH] at h
theorem PN:∀(d:Nat) (sc:List Int) (c:Core),D5 d sc c=true→∀x∈I7 c,nameB x=true
 | 0,sc,c,h=>by cases h
 | d+1,sc,c,h=>by
  intro x hx;obtain⟨e,s,he,h1,h2,h3,h4,h5⟩:=U2 h;cases he;rw[Ro,List.mem_append] at hx;rcases hx with hx | hx
  ·split at hx
   ·rename_i hk;rw[List.mem_singleton.1 hx];unfold UM at h2;rw[hk] at h2;simp at h2;exact h2.2.1
   ·simp at hx
  ·obtain⟨y,hy,hx⟩:=PL hx;exact PN d s y (h5 y hy) x hx
theorem FD {c:Core} (h:pR c=true):∀x∈(I7 c).foldl CP [],1≤x.length∧x.length≤18:=by
 intro x hx;unfold pR at h;rw[Bool.and_eq_true] at h;rcases PK _ _ hx with h' | h'
 ·simp at h'
 ·have:=Yc (PN _ _ _ h.1 x h');omega
def Yd (c:Core) (r:List UInt8×Bool):Prop:=if pR c=true then Yb ((I7 c).foldl CP []) r else r=([],false)
theorem Yd.uniq {c:Core} {r r':List UInt8×Bool} (h:Yd c r) (h':Yd c r'):r=r':=by
 unfold Yd at h h';split at h
 ·rename_i hv; rw[if_pos hv] at h'; exact h.uniq h'
 ·rename_i hv; rw[if_neg hv] at h'; rw[h,h']
theorem ab7 (c:Core) (hw:wC c≤700000000):Ex (fun n=>pG n c) (Yd c):=by
 unfold pG Yd;have hcl:=O8 c;refine .bv (Zt c (by omega)) ?_;cases hv:pR c with
 | false=>exact .pos rfl (.pure (by simp))
 | true=>
  refine .neg (by simp) (.bv (I8 c (by omega)) ?_);have hn:=FD hv;simp only[if_true];generalize (I7 c).foldl CP []=l at hn ⊢;have hcf:∀(n:Nat) (w:Int),aZ n l w=some (l.any fun x=>uo x (Mx.rn w)):=fun n w=>ab4 n l w fun x hx=>(hn x hx).2;simp only[hcf];refine aai (fun i hi=>?_) ?_
  ·refine .pos (by omega) ?_;show Ex (fun n=>(if(!pL l i)=true then some (Sum.inl (Mx.rn ((97+i:Nat):Int),true)) else some (Sum.inr (IntKind.i32.wrap (((97+i:Nat):Int)+1)))) ) _;cases hp:pL l i with
   | false=>exact .pos rfl (.pure rfl)
   | true=>
    refine .neg (by simp) (.pure ?_);rw[if_neg (by simp)];congr 1;exact ab6 i hi
  ·exact .neg (by decide) (.pure rfl)
theorem ab8 (c:Core) (hw:wC c≤700000000):Ex (fun n=>pK n c) (Yd c):=by
 unfold pK Yd AV;have hcl:=O8 c;refine .bv (Tz c (by omega)) ?_;cases hv:pR c with
 | false=>exact .pos rfl (.pure (by simp))
 | true=>
  refine .neg (by simp) (.bv (a:=(I7 c).foldl CP []) (Ex.CQ (.bv (KH c [] (by simp; omega)) (.pure rfl))) ?_);simp only[if_true];have hn:=FD hv;generalize (I7 c).foldl CP []=l at hn ⊢;refine aai (fun i hi=>?_) ?_
  ·refine .pos (by omega) ?_;refine Ex.bind (P:=fun o=>o=pL l i) ?_ ?_
   ·refine Ex.dX (I:=fun k q s=>(∀x∈q,x∈l)∧(s||q.any fun x=>uo x (Mx.rn ((97+i:Nat):Int)))=pL l i) ⟨fun _ h=>h,by simp[pL]⟩ ?_ ?_
    ·rintro k x q s ⟨h1,h2⟩;have hx:=hn x (h1 x List.mem_cons_self);refine Ex.bind (P:=fun o=>o=(s||uo x (Mx.rn ((97+i:Nat):Int)))) ?_ ?_
     ·refine .ite (fun h=>.pure (by simp[h])) (fun h=>.bind (ZK x hx.1 hx.2 i hi) fun r hr=>.pure ?_);have:s=false:=by simpa using h
      rw[hr,this]; rfl
     ·rintro o rfl;refine .pure ⟨fun y hy=>h1 y (List.mem_cons_of_mem _ hy),?_⟩;rw[← h2,List.any_cons,Bool.or_assoc]
    ·rintro s ⟨_,h2⟩
     simpa using h2
   ·rintro o rfl;cases hp:pL l i with
    | false=>
     refine .pos rfl (.bp _ (aa5 (by omega) (by omega)) (.pure ?_));rw[if_pos rfl,MS i hi]; rfl
    | true=>
     refine .neg (by simp) (.pure ?_);rw[if_neg (by simp)];congr 1;exact adW i hi
  ·exact .neg (by decide) (.pure rfl)
theorem Ye (b:List UInt8):Ex (fun n=>jv n b) (fun c=>wC c≤600000100):=by
 unfold jv;refine .bind (Ya b) fun k1 h1=>.bind (Rh b) fun k2 g=>.bind (iQ g (by omega)) fun k3 h3=>?_;refine .ite (fun _=>?_) (fun _=>.pure (by have:=h1.1; omega));refine .bind (Xz (by simp) (g.to h3.1 (by omega:(1:Int)+1≤1000000000)) (by omega)) fun k5 h5=>.pure ?_;have h6:k5.1.length≤2:=by
  have:=h5.2;simp only[List.mem_cons,List.not_mem_nil,or_false] at this;rcases this with h | h | h | h <;> rw[h] <;> simp
 have:=h1.1;simp only[wC,yK,wF,pV,List.length_cons,List.length_nil];omega
theorem ab9 (n:Nat) (l:List (List UInt8)) (x:List UInt8):sU n l x=some (decide (x∈l)):=by
 obtain⟨N,h⟩:=SC (xs:=l) (y:=x);exact h N (Nat.le_refl N)
theorem ZL:∀m:Nat,m<20→xU (Lib.decDigits m)=true∧(Lib.decDigits m).length≤2∧Lib.decDigits m≠[]:=by
 intro m hm;rcases Nat.lt_or_ge m 10 with h | h
 ·rw[Lib.decDigits,dif_pos h];have:∀m,m<10→xU [UInt8.ofNat (48+m)]=true∧[UInt8.ofNat (48+m)].length≤2∧[UInt8.ofNat (48+m)]≠[]:=by decide
  exact this m h
 ·rw[Lib.decDigits,dif_neg (by omega),Lib.decDigits,dif_pos (by omega)];obtain⟨k,rfl⟩:∃k,m=10+k:=⟨m-10,by omega⟩
  have:∀k,k<10→xU ([UInt8.ofNat (48+(10+k) / 10)]++[UInt8.ofNat (48+(10+k) % 10)])=true∧([UInt8.ofNat (48+(10+k) / 10)]++[UInt8.ofNat (48+(10+k) % 10)]).length≤2∧([UInt8.ofNat (48+(10+k) / 10)]++[UInt8.ofNat (48+(10+k) % 10)])≠[]:=by decide
  exact this k (by omega)
theorem adX (i:Nat) (hi:i≤999):fZ ⟨2,[],(i:Int),[],[]⟩=true:=by
 unfold fZ;simp[Jb,cF,jD];omega
theorem JC (b:List UInt8):gG (fun n=>pO n b) true:=by
 refine Ex.CQ ?_;unfold pO;refine .ite (fun _=>.pure rfl) (fun _=>.bind (Ye b) fun c hw=>?_);have hcl:=O8 c;refine .bind (ab7 c (by omega)) fun r hr=>.bind (ab8 c (by omega)) fun r' hr'=>?_;obtain rfl:=hr.uniq hr';refine Ex.bind (P:=fun o=>o=!r.2) (.neg (by simp) (.neg (by simp) (.pure rfl))) ?_;rintro o rfl;cases h2:r.2 with
 | false=>
  have e:r=([],false):=by
   unfold Yd at hr;split at hr
   ·rcases hr with ⟨i,_,rfl,_⟩ | ⟨h,_⟩
    ·cases h2
    ·exact h
   ·exact hr
  subst e;exact .pos rfl (.bv (a:=true) (.pos rfl (.pos (by simp) (.const (by simp)))) (.pure rfl))
 | true=>
  have hv:pR c=true:=by
   unfold Yd at hr;split at hr
   ·assumption
   ·subst hr; cases h2
  unfold Yd at hr;rw[if_pos hv] at hr;obtain⟨i,hi,rfl,hp⟩:∃i,i<26∧r=(Mx.rn ((97+i:Nat):Int),true)∧pL ((I7 c).foldl CP []) i=false:=by
   rcases hr with ⟨i,hi,hr,hp,_⟩ | ⟨rfl,_⟩
   ·exact⟨i,hi,hr,hp⟩
   ·cases h2
  refine .neg (by simp) (.bv (I8 c (by omega)) ?_);generalize (I7 c).foldl CP []=l at hp;rw[MS i hi];refine Ex.iter (fun s=>20-s.toNat) (fun s=>∃m:Nat,s=(m:Int)∧m≤20) _ ⟨0,rfl,by omega⟩ ?_;rintro s ⟨m,rfl,hm⟩;refine .ite (fun h=>?_) (fun h=>.pure ⟨fun w e=>by cases e; simp,fun _ e=>(by cases e)⟩);have hm':m<20:=by omega
  obtain⟨d1,d2,d3⟩:=ZL m hm';unfold Dy qK uY;have hfm:gG (fun n=>(iZ n (⟨2,[],(m:Int),[],[]⟩:Form)).bind fun k1=>(if(!k1)=true then some [] else(if(⟨2,[],(m:Int),[],[]⟩:Form).kind=2∧0≤(⟨2,[],(m:Int),[],[]⟩:Form).n∧(⟨2,[],(m:Int),[],[]⟩:Form).n<100 then some (Lib.decDigits (⟨2,[],(m:Int),[],[]⟩:Form).n.toNat) else none).bind fun k3=>some k3)) (Lib.decDigits m):=by
   refine Ex.CQ (.bv (Md _ (FB _ (by simp[wF,pV]))) ?_);rw[adX m (by omega)];exact .neg (by simp) (.bp (Lib.decDigits m) (by rw[if_pos ⟨rfl,by simp only; omega,by simp only; omega⟩]; simp) (.pure rfl))
  refine .bp _ rfl (.bv hfm ?_);have hnot:[UInt8.ofNat (97+i)]++Lib.decDigits m∉l:=fun hmem=>by
   unfold pL at hp;rw[List.any_eq_false] at hp;refine hp _ hmem ?_;rw[MS i hi];unfold uo;have:1≤(Lib.decDigits m).length:=List.length_pos_iff.2 d3;simp[d1];omega
  have hmx:gG (fun n=>sU n l ([UInt8.ofNat (97+i)]++Lib.decDigits m)) false:=⟨0,fun n _=>by show sU n l _=_; rw[ab9,decide_eq_false hnot]⟩
  refine .bp _ (Y6 (by simp; omega)) (.bv hmx (.neg (by simp) (.pure ⟨fun _ e=>(by cases e),fun s' e=>?_⟩)));cases e;exact⟨⟨m+1,by rw[fV (by omega)],by omega⟩,by rw[fV (by omega)]; simp; omega⟩
theorem MV (l:List Int) (h:l.length≤maxLen∧∀a∈l,(Lit.int .u8 a).wf=true):Mx.oP X.E 5 [.sl 1 .ro (l.map fun i=>[.v (.int .u8 i)])] [] fun d _=>d=.v (.bool true):=by
 obtain⟨N,hN⟩:=JC (toB l);exact UA (Ey N (toB l) (hN N (Nat.le_refl _))) (by simp only[ED.DL,ED.D,KD.D,Y3 h.2]; rfl)
end Go.Ev
