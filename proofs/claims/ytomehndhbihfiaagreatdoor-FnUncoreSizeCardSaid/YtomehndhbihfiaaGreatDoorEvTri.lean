/- An evaluator over the abstract state, third part. No condition. -/
import Derived.Test.YtomehndhbihfiaaGreatDoorEvTwo
import Derived.KernelRfl
import Derived.Lib.Strings
import Derived.Lib.Slices
import Derived.Lib.Walk
import Derived.Lib.Bytealg
import Derived.Sort.Row
import Derived.Sort.Grow
import Derived.Lib.SlicesCompact
import Derived.Lib.RowBridge
set_option linter.unusedVariables false
set_option linter.unusedSimpArgs false
namespace Go.Ev
open Go.Mx (KD ED aB dV bI bn iterM)
set_option linter.unusedVariables false
set_option linter.unusedSimpArgs false
def gB {α:Type} (f:Nat→Option α) (v:α):Prop:=∃N,∀n,N≤n→f n=some v
section
variable {α β σ ω τ : Type}
theorem gB.const {x:Option α} {v:α} (h:x=some v):gB (fun _=>x) v:=⟨0,fun _ _=>h⟩
theorem gB.pure (v:α):gB (fun _=>some v) v:=.const rfl
theorem gB.succ {f:Nat→Option α} {v:α} (h:gB (fun n=>f (n+1)) v):gB f v:=by
 obtain⟨N,h⟩:=h;refine⟨N+1,fun n hn=>?_⟩;obtain⟨m,rfl⟩:∃m,n=m+1:=⟨n-1,by omega⟩
 exact h m (by omega)
theorem gB.bind {f:Nat→Option α} {g:Nat→α→Option β} {a:α} {b:β} (hf:gB f a) (hg:gB (fun n=>g n a) b):gB (fun n=>(f n).bind (g n)) b:=by
 obtain⟨N,h⟩:=hf;obtain⟨M,k⟩:=hg;exact⟨max N M,fun n hn=>by show(f n).bind (g n)=some b; rw[h n (by omega)]; exact k n (by omega)⟩
theorem gB.agy {f:Nat→Option (ω⊕τ)} {g:Nat→τ→Option ω} {t:τ} {w:ω} (hf:gB f (.inr t)) (hg:gB (fun n=>g n t) w):gB (fun n=>bn (f n) (g n)) w:=by
 unfold bn;exact hf.bind (g:=fun n o=>match o with | .inl w=>some w | .inr t=>g n t) hg
theorem gB.agz {f:Nat→Option (ω⊕τ)} {g:Nat→τ→Option ω} {w:ω} (hf:gB f (.inl w)):gB (fun n=>bn (f n) (g n)) w:=by
 unfold bn;exact hf.bind (g:=fun n o=>match o with | .inl w=>some w | .inr t=>g n t) (.pure w)
theorem gB.pos {c:Prop} [Decidable c] {f g:Nat→Option α} {v:α} (hc:c) (h:gB f v):gB (fun n=>if c then f n else g n) v:=by simpa only[hc,if_true] using h
theorem gB.neg {c:Prop} [Decidable c] {f g:Nat→Option α} {v:α} (hc:¬c) (h:gB g v):gB (fun n=>if c then f n else g n) v:=by simpa only[hc,if_false] using h
theorem gB.dV {step:Nat→σ→Nat→α→Option σ} (I:Nat→List α→σ→Prop) (hs:∀i x q s,I i (x::q) s→∃s',gB (fun n=>step n s i x) s'∧I (i+1) q s') :
  ∀xs i s,I i xs s→∃s',gB (fun n=>Mx.dV (step n) i xs s) s'∧I (i+xs.length) [] s'
 | [],i,s,h=>⟨s,.pure s,h⟩
 | x::q,i,s,h=>by
  obtain⟨s1,h1,h2⟩:=hs i x q s h;obtain⟨s2,h3,h4⟩:=gB.dV I hs q (i+1) s1 h2;refine⟨s2,?_,by rw[List.length_cons,show i+(q.length+1)=i+1+q.length by omega]; exact h4⟩;exact h1.bind (g:=fun n s'=>Mx.dV (step n) (i+1) q s') h3
theorem gB.bI {step:Nat→σ→Nat→α→Option (ω⊕σ)} (I:Nat→List α→σ→Prop) (Q:ω→Prop) (hs:∀i x q s,I i (x::q) s→(∃w,gB (fun n=>step n s i x) (.inl w)∧Q w)∨(∃s',gB (fun n=>step n s i x) (.inr s')∧I (i+1) q s')) :
  ∀xs i s,I i xs s→(∃w,gB (fun n=>Mx.bI (step n) i xs s) (.inl w)∧Q w)∨(∃s',gB (fun n=>Mx.bI (step n) i xs s) (.inr s')∧I (i+xs.length) [] s')
 | [],i,s,h=>.inr ⟨s,.pure _,h⟩
 | x::q,i,s,h=>by
  rcases hs i x q s h with ⟨w,h1,h2⟩ | ⟨s1,h1,h2⟩
  ·refine .inl ⟨w,?_,h2⟩;exact h1.bind (g:=fun n y=>match y with | .inl r=>some (.inl r) | .inr s'=>Mx.bI (step n) (i+1) q s') (.pure _)
  ·rcases gB.bI I Q hs q (i+1) s1 h2 with ⟨w,h3,h4⟩ | ⟨s2,h3,h4⟩
   ·refine .inl ⟨w,?_,h4⟩;exact h1.bind (g:=fun n y=>match y with | .inl r=>some (.inl r) | .inr s'=>Mx.bI (step n) (i+1) q s') h3
   ·refine .inr ⟨s2,?_,by rw[List.length_cons,show i+(q.length+1)=i+1+q.length by omega]; exact h4⟩;exact h1.bind (g:=fun n y=>match y with | .inl r=>some (.inl r) | .inr s'=>Mx.bI (step n) (i+1) q s') h3
end
def Ht:Nat:=9223372036854775807
mutual
def okF:Form→Prop
 | ⟨_,nm,_,sc,kids⟩=>nm.length≤Ht∧sc.length≤Ht∧kids.length≤Ht∧Hu kids
def Hu:List Form→Prop
 | []=>True
 | f::r=>okF f∧Hu r
end
theorem okF_eq (f:Form):okF f↔f.name.length≤Ht∧f.scopes.length≤Ht∧f.kids.length≤Ht∧Hu f.kids:=by cases f; simp only[okF]
theorem JJ:∀{l:List Form},Hu l↔∀x∈l,okF x
 | []=>by simp[Hu]
 | f::r=>by simp only[Hu,JJ (l:=r),List.forall_mem_cons]
mutual
def wF:Form→Nat
 | ⟨_,nm,_,sc,kids⟩=>nm.length+sc.length+kids.length+oQ kids
def oQ:List Form→Nat
 | []=>0
 | f::r=>wF f+oQ r
end
theorem Dh (f:Form):wF f=f.name.length+f.scopes.length+f.kids.length+oQ f.kids:=by cases f; simp only[wF]
theorem BQ:∀{l:List Form} {x:Form},x∈l→wF x≤oQ l
 | f::r,x,h=>by
  rcases List.mem_cons.1 h with rfl | h
  ·simp only[oQ]; omega
  ·have:=BQ h; simp only[oQ]; omega
mutual
def wC:Core→Nat
 | ⟨_,_,nm,_,ids,dt,kids⟩=>nm.length+ids.length+wF dt+kids.length+xE kids
def xE:List Core→Nat
 | []=>0
 | f::r=>wC f+xE r
end
theorem EG (f:Core):wC f=f.name.length+f.ids.length+wF f.data+f.kids.length+xE f.kids:=by cases f; simp only[wC]
theorem tY:∀{l:List Core} {x:Core},x∈l→wC x≤xE l
 | f::r,x,h=>by
  rcases List.mem_cons.1 h with rfl | h
  ·simp only[xE]; omega
  ·have:=tY h; simp only[xE]; omega
theorem aaU {xs:List (List UInt8)} {y:List UInt8}:gB (fun _=>bn (Mx.bI (fun(_:Unit) (_:Nat) (x:List UInt8)=>((if x=y then some (Sum.inl true) else some (Sum.inr ())):Option (Bool⊕Unit))) 0 xs ()) (fun _=>some false)) (decide (y∈xs)):=by
 refine .const ?_;suffices ∀i,bn (Mx.bI (fun(_:Unit) (_:Nat) (x:List UInt8)=>((if x=y then some (Sum.inl true) else some (Sum.inr ())):Option (Bool⊕Unit))) i xs ()) (fun _=>some false)=some (decide (y∈xs)) from this 0
 induction xs with
 | nil=>intro i; rfl
 | cons x r ih=>
  intro i;by_cases hxy:x=y
  ·subst hxy; simp[Mx.bI,bn]
  ·have:=ih (i+1);simp only[Mx.bI,if_neg hxy,Option.bind_some];simp only[List.mem_cons,show ¬y=x from fun e=>hxy e.symm,false_or];exact this
end Go.Ev
namespace Go.Ev
open Go.Mx (KD ED aB dV bI bn iterM)
theorem jo {f x:Form} (h:x∈f.kids):SizeOf.sizeOf x<SizeOf.sizeOf f:=by
 have:=List.sizeOf_lt_of_mem h;cases f; simp at this ⊢; omega
theorem yT {f x:Core} (h:x∈f.kids):SizeOf.sizeOf x<SizeOf.sizeOf f:=by
 have:=List.sizeOf_lt_of_mem h;cases f; simp at this ⊢; omega
end Go.Ev
namespace Go.Ev
open Go.Mx (KD ED aB D Rd RD Cx Tq vT Setting mkS)
set_option linter.unusedVariables false
set_option linter.unusedSimpArgs false
theorem WH {E:Setting} {g:Nat} {args:List ED} {ds:List D} (h:Mx.aC E g args [] (.d (.v (.bool true))) []) (he:ED.DL (Mx.aT 0 []) args=ds):vT E g ds [] fun d _=>d=.v (.bool true):=by
 have:=h.2 [] (fun _=>[]) (fun d _=>d=.v (.bool true)) ⟨fun os _ i k h=>by simp at h,fun os _ i k o h=>by simp at h,fun os i k h=>by simp at h,fun _ _=>rfl⟩ rfl rfl;rw[he] at this;exact this
end Go.Ev
namespace Go.Ev
open Go.Mx (KD ED aB dV bI bn iterM tH)
set_option linter.unusedVariables false
set_option linter.unusedSimpArgs false
def UW (a1:Int) (o0:bg):Option (Int×bg):=
 Option.bind ((if a1<1 then some true else some (decide ((o0.b.length:Int)=0))):Option (Bool)) (fun(o1:Bool)=>(if o1=true then some (0,(⟨o0.b,(aX (o0.p+1))⟩:bg)) else(if(aX ((aX (o0.p+1))-1))<(o0.b.length:Int) then(gW o0.b (aX ((aX (o0.p+1))-1))).bind fun e5=>(yS (IntKind.i64.wrap (e5.toNat:Int)) a1).bind fun z6=>some (z6,(⟨o0.b,(aX (o0.p+1))⟩:bg)) else(yS (aX ((aX (o0.p+1))-1)) (o0.b.length:Int)).bind fun z7=>(gW o0.b z7).bind fun e8=>(yS (aX ((aX ((aX ((aX (o0.p+1))-1))*7))+3)) (o0.b.length:Int)).bind fun z9=>(gW o0.b z9).bind fun e10=>(Hr (aX ((aX (o0.p+1))-1)) (o0.b.length:Int)).bind fun z11=>(Hr (aX ((aX ((aX ((aX ((IntKind.i64.wrap (e8.toNat:Int))*131))+(aX ((IntKind.i64.wrap (e10.toNat:Int))*1117))))+(aX ((aX ((aX (o0.p+1))-1))*29))))+(aX (z11*53)))) 64).bind fun z12=>(yS (tH .xor .i64 (aX ((aX ((aX ((aX ((IntKind.i64.wrap (e8.toNat:Int))*131))+(aX ((IntKind.i64.wrap (e10.toNat:Int))*1117))))+(aX ((aX ((aX (o0.p+1))-1))*29))))+(aX (z11*53)))) z12) a1).bind fun z13=>some (z13,(⟨o0.b,(aX (o0.p+1))⟩:bg)))))
theorem jW {x:Int} (h:-9223372036854775808≤x) (h':x≤9223372036854775807):aX x=x:=by
 unfold aX; rw[IntKind.wrap_i64]; omega
theorem acQ {a b:Int} (ha:0≤a) (ha':a<9223372036854775808) (hb:0≤b) (hb':b<9223372036854775808):0≤tH .xor .i64 a b:=by
 unfold tH;obtain⟨x,rfl⟩:∃x:Nat,a=x:=⟨a.toNat,by omega⟩
 obtain⟨y,rfl⟩:∃y:Nat,b=y:=⟨b.toNat,by omega⟩
 simp only;have e1:(BitVec.ofInt IntKind.i64.bits (x:Int)).toNat=x:=by
  show(BitVec.ofInt 64 (x:Int)).toNat=x;rw[BitVec.ofInt_natCast,BitVec.toNat_ofNat]; omega
 have e2:(BitVec.ofInt IntKind.i64.bits (y:Int)).toNat=y:=by
  show(BitVec.ofInt 64 (y:Int)).toNat=y;rw[BitVec.ofInt_natCast,BitVec.toNat_ofNat]; omega
 rw[BitVec.toNat_xor,e1,e2];have h:x ^^^ y<2 ^ 63:=Nat.xor_lt_two_pow (by omega) (by omega);rw[IntKind.wrap_i64]; omega
theorem Yz {p n:Int} (h0:0≤p) (h1:p<9223372036854775808) (hn:0≤n) (h:n≠0):Hr p n=some (p.tdiv n)∧0≤p.tdiv n∧p.tdiv n≤p:=by
 have a1:0≤p.tdiv n:=Int.tdiv_nonneg h0 hn;have a2:p.tdiv n≤p:=Int.tdiv_le_self _ h0;refine⟨?_,a1,a2⟩;unfold Hr;rw[if_pos h,jW (by omega) (by omega)]
theorem aaV {a b p q:Int} (ha:0≤a) (ha':a≤255) (hb:0≤b) (hb':b≤255) (hp:0≤p) (hp':p≤1099511627776) (hq:0≤q) (hq':q≤p) :
  aX (aX (aX (aX (a*131)+aX (b*1117))+aX (p*29))+aX (q*53))=a*131+b*1117+p*29+q*53:=by
 rw[jW (x:=a*131) (by omega) (by omega),jW (x:=b*1117) (by omega) (by omega),jW (x:=p*29) (by omega) (by omega),jW (x:=q*53) (by omega) (by omega),jW (x:=a*131+b*1117) (by omega) (by omega),jW (x:=a*131+b*1117+p*29) (by omega) (by omega),jW (by omega) (by omega)]
theorem aaW {s a:Int} (hs0:0≤s) (hs1:s<9223372036854775808) (ha:1≤a) (r':bg):∃v,((Hr s 64).bind fun z12=>(yS (tH .xor .i64 s z12) a).bind fun z13=>some (z13,r'))=some (v,r')∧0≤v∧v<a:=by
 obtain⟨hq2,c1,c2⟩:=Yz (n:=64) hs0 hs1 (by omega) (by omega);rw[hq2];simp only[Option.bind_some];unfold yS;rw[if_pos (by omega)];exact⟨_,rfl,Int.tmod_nonneg _ (acQ hs0 hs1 c1 (by omega)),Int.tmod_lt_of_pos _ (by omega)⟩
theorem acR {a b p q:Int} (ha:0≤a) (ha':a≤255) (hb:0≤b) (hb':b≤255) (hp:0≤p) (hp':p≤1099511627776) (hq:0≤q) (hq':q≤p):0≤a*131+b*1117+p*29+q*53∧a*131+b*1117+p*29+q*53<9223372036854775808:=by omega
theorem wo (y:UInt8):0≤(y.toNat:Int)∧(y.toNat:Int)≤255:=by
 have:=y.toNat_lt;omega
theorem Di {α β:Type} {x:Option α} {a:α} (hx:x=some a) {f:α→Option β} {b:Option β} (h:f a=b):x.bind f=b:=by subst hx; exact h
theorem aaX {a:Int} {r:bg} (h0:0≤r.p) (h1:r.p≤1099511627776) (h2:r.b.length≤2000):∃v,UW a r=some (v,⟨r.b,r.p+1⟩)∧(1≤a→0≤v∧v<a):=by
 have e1:aX (r.p+1)=r.p+1:=jW (by omega) (by omega);have e2:aX (r.p+1-1)=r.p:=by rw[jW (by omega) (by omega)]; omega
 unfold UW;simp only[e1,e2];by_cases ha:a<1
 ·rw[if_pos ha];exact⟨0,rfl,fun h=>by omega⟩
 ·rw[if_neg ha];simp only[Option.bind_some];by_cases hl:(r.b.length:Int)=0
  ·simp only[hl,decide_true,if_true];exact⟨0,rfl,fun h=>by omega⟩
  ·simp only[hl,decide_false,Bool.false_eq_true,if_false];have hb:∀i:Int,0≤i→i<r.b.length→∃y,gW r.b i=some y:=fun i hi hlt=>by
    unfold gW;rw[if_pos hi];exact⟨_,List.getElem?_eq_getElem (by omega)⟩
   have agA:∀x:Int,0≤x→∃z,yS x a=some z∧0≤z∧z<a:=fun x hx=>by
    unfold yS;rw[if_pos (by omega)];exact⟨_,rfl,Int.tmod_nonneg _ hx,Int.tmod_lt_of_pos _ (by omega)⟩
   have abP:∀x:Int,0≤x→∃z,yS x (r.b.length:Int)=some z∧0≤z∧z<r.b.length:=fun x hx=>by
    unfold yS;rw[if_pos hl];exact⟨_,rfl,Int.tmod_nonneg _ hx,Int.tmod_lt_of_pos _ (by omega)⟩
   have hby:∀y:UInt8,IntKind.i64.wrap (y.toNat:Int)=y.toNat:=fun y=>by
    have:=y.toNat_lt;exact jW (by omega) (by omega)
   by_cases hp:r.p<(r.b.length:Int)
   ·rw[if_pos hp];obtain⟨y,hy⟩:=hb r.p h0 hp;rw[hy];simp only[Option.bind_some,hby];obtain⟨z,hz,hz1,hz2⟩:=agA (y.toNat:Int) (by omega);rw[hz];exact⟨z,rfl,fun _=>⟨hz1,hz2⟩⟩
   ·rw[if_neg hp];obtain⟨z7,h7,h71,h72⟩:=abP r.p h0;obtain⟨y8,h8⟩:=hb z7 h71 h72;have e3:aX (aX (r.p*7)+3)=r.p*7+3:=by rw[jW (x:=r.p*7) (by omega) (by omega)]; exact jW (by omega) (by omega)
    obtain⟨z9,h9,h91,h92⟩:=abP (r.p*7+3) (by omega);obtain⟨UY,h10⟩:=hb z9 h91 h92;obtain⟨hq,a1,a2⟩:=Yz (n:=(r.b.length:Int)) h0 (by omega) (by omega) hl;obtain⟨s0,s1⟩:=acR (wo y8).1 (wo y8).2 (wo UY).1 (wo UY).2 h0 h1 a1 a2;obtain⟨v,hv,hv1,hv2⟩:=aaW s0 s1 (by omega:1≤a) ⟨r.b,r.p+1⟩;refine⟨v,Di h7 (Di h8 ?_),fun _=>⟨hv1,hv2⟩⟩;rw[e3];refine Di h9 (Di h10 (Di hq ?_));rw[hby,hby,aaV (wo y8).1 (wo y8).2 (wo UY).1 (wo UY).2 h0 h1 a1 a2];exact hv
theorem UZ {σ ω:Type} {step:Nat→σ→Option (ω⊕σ)} (μ:σ→Nat) (I:σ→Prop) (Q:ω→Prop) (hs:∀s,I s→(∃w,gB (fun n=>step n s) (.inl w)∧Q w)∨(∃s',gB (fun n=>step n s) (.inr s')∧I s'∧μ s'<μ s)) :
  ∀s,I s→∃w,gB (fun n=>iterM n (step n) s) w∧Q w:=by
 have main:∀m s,μ s≤m→I s→∃w K,Q w∧∀n,K≤n→∀fuel,m+1≤fuel→iterM fuel (step n) s=some w:=by
  intro m
  induction m with
  | zero=>
   intro s hm hi;rcases hs s hi with ⟨w,⟨N,h⟩,hq⟩ | ⟨s',_,_,h3⟩
   ·refine⟨w,N,hq,fun n hn fuel hf=>?_⟩;obtain⟨k,rfl⟩:∃k,fuel=k+1:=⟨fuel-1,by omega⟩
    simp only[iterM];exact Di (h n hn) rfl
   ·omega
  | succ m ih=>
   intro s hm hi;rcases hs s hi with ⟨w,⟨N,h⟩,hq⟩ | ⟨s',⟨N,h⟩,h2,h3⟩
   ·refine⟨w,N,hq,fun n hn fuel hf=>?_⟩;obtain⟨k,rfl⟩:∃k,fuel=k+1:=⟨fuel-1,by omega⟩
    simp only[iterM];exact Di (h n hn) rfl
   ·obtain⟨w,K,hq,hk⟩:=ih s' (by omega) h2;refine⟨w,max N K,hq,fun n hn fuel hf=>?_⟩;obtain⟨k,rfl⟩:∃k,fuel=k+1:=⟨fuel-1,by omega⟩
    simp only[iterM];exact Di (h n (by omega)) (hk n (by omega) k (by omega))
 intro s hi;obtain⟨w,K,hq,hk⟩:=main (μ s) s (Nat.le_refl _) hi;exact⟨w,⟨max K (μ s+1),fun n hn=>hk n (by omega) n (by omega)⟩,hq⟩
def Gd (r:bg) (B:Int):Prop:=0≤r.p∧r.p+B≤1099511627776∧r.b.length≤2000
def Sp (r r':bg) (B:Int):Prop:=r'.b=r.b∧r.p≤r'.p∧r'.p≤r.p+B
theorem Gd.to {r r':bg} {B C D:Int} (h:Gd r B) (hs:Sp r r' C) (hd:C+D≤B):Gd r' D:=by
 obtain⟨h0,h1,h2⟩:=h;obtain⟨s0,s1,s2⟩:=hs;exact⟨by omega,by omega,by rw[s0]; exact h2⟩
theorem Sp.trans {r r' r'':bg} {B C D:Int} (h:Sp r r' B) (k:Sp r' r'' C) (hd:B+C≤D):Sp r r'' D:=by
 obtain⟨h0,h1,h2⟩:=h;obtain⟨s0,s1,s2⟩:=k;exact⟨s0.trans h0,by omega,by omega⟩
theorem Sp.refl {r:bg} {B:Int} (h:0≤B):Sp r r B:=⟨rfl,Int.le_refl _,by omega⟩
theorem Sp.mono {r r':bg} {B C:Int} (h:Sp r r' B) (hc:B≤C):Sp r r' C:=⟨h.1,h.2.1,by have:=h.2.2; omega⟩
theorem U0 {a:Int} {r:bg} {B:Int} (h:Gd r B) (hB:1≤B):∃v r',gB (fun _=>UW a r) (v,r')∧Sp r r' 1∧(1≤a→0≤v∧v<a):=by
 obtain⟨h0,h1,h2⟩:=h;obtain⟨v,hv,hr⟩:=aaX (a:=a) h0 (by omega) h2;exact⟨v,_,.const hv,⟨rfl,by show r.p≤r.p+1; omega,by show r.p+1≤r.p+1; omega⟩,hr⟩
theorem dh {α:Type} {l:List α} {i:Int} (h0:0≤i) (h1:i<(l.length:Int)):∃x,gW l i=some x∧x∈l:=by
 unfold gW;rw[if_pos h0];have:i.toNat<l.length:=by omega
 exact⟨_,List.getElem?_eq_getElem this,List.getElem_mem this⟩
theorem YA {α:Type} {l:List α} {r:bg} {B:Int} (hl:1≤l.length) (h:Gd r B) (hB:1≤B):∃x r',gB (fun _=>(UW (l.length:Int) r).bind fun k=>(gW l k.1).bind fun e=>some (e,k.2)) (x,r')∧Sp r r' 1∧x∈l:=by
 obtain⟨v,r',hv,hs,hr⟩:=U0 (a:=(l.length:Int)) h hB;obtain⟨h0,h1⟩:=hr (by omega);obtain⟨x,hx,hm⟩:=dh h0 h1;exact⟨x,r',hv.bind (g:=fun _ k=>(gW l k.1).bind fun e=>some (e,k.2)) (.const (Di (f:=fun e=>some (e,r')) hx rfl)),hs,hm⟩
end Go.Ev
namespace Go.Ev
open Go.Mx (KD ED aB dV bI bn iterM)
theorem Ag {α:Type} {m:Nat→α→Option α} {xs:List α} {be:Nat} (hb:xs.length*be≤140737488355328) (h:∀x∈xs,gB (fun n=>m n x) x) :
  gB (fun n=>Mx.dV (fun(s:List α) (_:Nat) (x:α)=>(m n x).bind fun k=>(jm be s [k]).bind fun z=>some z) 0 xs []) xs:=by
 obtain⟨s,h1,h2,h3⟩:=gB.dV (step:=fun n (s:List α) (_:Nat) (x:α)=>(m n x).bind fun k=>(jm be s [k]).bind fun z=>some z)
  (fun i q s=>xs.drop i=q∧s=xs.take i) (fun i x q s ⟨g1,g2⟩=>by
   have hi:i<xs.length:=by
    rcases Nat.lt_or_ge i xs.length with h | h
    ·exact h
    ·rw[List.drop_eq_nil_of_le h] at g1; cases g1
   have hx:xs[i]=x∧xs.drop (i+1)=q:=by
    rw[List.drop_eq_getElem_cons hi] at g1;exact List.cons.inj g1
   have hmem:x∈xs:=hx.1▸List.getElem_mem hi;subst g2;have hap:jm be (xs.take i) [x]=some (xs.take i++[x]):=by
    unfold jm;rw[if_pos];have:((xs.take i).length+[x].length)*be≤xs.length*be:=Nat.mul_le_mul_right _ (by simp; omega);omega
   refine⟨xs.take i++[x],(h x hmem).bind (g:=fun _ k=>(jm be (xs.take i) [k]).bind fun z=>some z) (.const (Di (f:=fun z=>some z) hap rfl)),hx.2,?_⟩;rw[List.take_add_one,List.getElem?_eq_getElem hi,hx.1]; rfl) xs 0 [] ⟨rfl,rfl⟩
 have e:s=xs:=by simpa using h3
 subst e;exact h1
theorem oL {α:Type} {be:Nat} {l:List α} (h:l.length*be≤140737488355328):jm be [] l=some l:=by
 unfold jm;rw[if_pos (by simpa using h)]; rfl
end Go.Ev
namespace Go.Ev
open Go.Mx (KD ED aB D Rd RD Cx)
set_option linter.unusedVariables false
def toB (l:List Int):List UInt8:=l.map fun i=>UInt8.ofNat i.toNat
theorem wf_u8 {i:Int} (h:(Lit.int .u8 i).wf=true):0≤i∧i<256:=by
 simp[Lit.wf,IntKind.min,IntKind.max,IntKind.signed,IntKind.bits] at h;omega
theorem aaY {l:List Int} (h:∀a∈l,(Lit.int .u8 a).wf=true):KD.DLL (gJ (toB l))=l.map fun i=>[Mx.D.v (.int .u8 i)]:=by
 rw[KD.gq];simp only[gJ,toB,List.map_map];refine List.map_congr_left fun i hi=>?_;obtain⟨h0,h1⟩:=wf_u8 (h i hi);simp only[Function.comp,Yt,List.map_cons,List.map_nil,KD.D];have:(UInt8.ofNat i.toNat).toNat=i.toNat:=by simp[UInt8.toNat_ofNat']; omega
 rw[this,Int.toNat_of_nonneg h0]
end Go.Ev
namespace Go.Mx
set_option linter.unusedVariables false
set_option linter.unusedSimpArgs false
abbrev iE (x:Int):ED:=.d (.v (.int .i64 x))
abbrev bE (x:Bool):ED:=.d (.v (.bool x))
abbrev dE (p:Prop) [Decidable p]:ED:=.d (.v (.bool (decide p)))
abbrev sE (x:List UInt8):ED:=.d (.s x)
abbrev lE (z:Nat) (xs:List (List KD)):ED:=.d (.sl z false xs)
abbrev nE:ED:=.d (.v (.slice none 0 0))
abbrev fE (z:Nat) (xs:List (List KD)):ED:=.d (.sl z true xs)
abbrev aE (cs:List KD):ED:=.d (.agg cs)
abbrev pw (u:Nat):ED:=.ptr (.own u) 0
abbrev pl (u:Nat):ED:=.ptr (.low u) 0
theorem A {p q:Prop} (h:p) (k:q):p∧q:=⟨h,k⟩
abbrev T:=True.intro
def inL (t:Nat):List Nat→Bool
 | []=>false
 | u::r=>match Nat.beq t u with
  | true=>true
  | false=>inL t r
theorem FY {t:Nat}:∀{l:List Nat},inL t l=false→t∉l
 | [],_=>by simp
 | u::r,h=>by
  unfold inL at h;split at h
  ·cases h
  ·rename_i hb;intro hm;cases hm with
   | head=>rw[Nat.beq_refl] at hb; cases hb
   | tail _ hm=>exact FY h hm
def okW (c old:List Nat):List Oper→Bool
 | []=>true
 | o::r=>match o.dst with
  | none=>okW c old r
  | some t=>match inL t c with
   | true=>okW c old r
   | false=>match inL t old with
    | true=>false
    | false=>okW c old r
theorem P9 {c old:List Nat}:∀{ops:List Oper},okW c old ops=true→∀t,t∉c→t∈old→∀o∈ops,o.dst≠some t
 | [],_,t,_,_,o,ho=>by cases ho
 | a::r,h,t,h1,h2,o,ho=>by
  unfold okW at h;have hr:okW c old r=true:=by
   split at h
   ·exact h
   ·split at h
    ·exact h
    ·split at h
     ·cases h
     ·exact h
  cases ho with
  | tail _ ho=>exact P9 hr t h1 h2 o ho
  | head=>
   intro e;rw[e] at h;simp only at h;split at h
   ·rename_i hc;apply h1;clear h hr
    induction c with
    | nil=>cases hc
    | cons u c ih=>
     unfold inL at hc;split at hc
     ·rename_i hb; rw[Nat.eq_of_beq_eq_true hb]; exact List.mem_cons_self
     ·exact List.mem_cons_of_mem _ (ih (fun hm=>h1 (List.mem_cons_of_mem _ hm)) hc)
   ·split at h
    ·cases h
    ·rename_i hb; exact FY hb h2
theorem Qa {s:ES} {dst:Option Nat} {δ:Dl} {t:Nat} (h:dst≠some t):(s.app dst δ).ρ t=s.ρ t:=by
 cases dst with
 | none=>rfl
 | some u=>
  simp only[ES.app,zI,qM];cases hb:Nat.beq t u with
  | false=>rfl
  | true=>exact absurd (by rw[Nat.eq_of_beq_eq_true hb]) h
theorem JK {X:Ctx} {N:Nat} {all:Array Oper} {t:Nat}:∀{ops:List Oper} {s s':ES} {hs:List Hint} {ob:Prop} {qs:List (Int×Int)},Ju X N all ops s hs=some (s',ob,qs)→(∀o∈ops,o.dst≠some t)→s'.ρ t=s.ρ t
 | [],s,s',hs,ob,qs,h,_=>by cases h; rfl
 | o::r,s,s',hs,ob,qs,h,hd=>by
  simp only[Ju] at h;split at h
  ·cases h
  ·rename_i δ q hg;split at h
   ·cases h
   ·rename_i s2 ob2 qs2 hr;cases h;rw[JK hr fun o ho=>hd o (List.mem_cons_of_mem _ ho)];exact Qa (hd o List.mem_cons_self)
theorem GI {X:Ctx} {N:Nat} {all:Array Oper} {hq:List (Nat×List Hint)} {t:Nat}:∀{i:Nat} {ops:List Oper} {s e:ES} {R:List Stp},Ad X N all hq i ops s=some (R,e)→(∀o∈ops,o.dst≠some t)→e.ρ t=s.ρ t
 | i,[],s,e,R,h,_=>by cases h; rfl
 | i,o::r,s,e,R,h,hd=>by
  simp only[Ad] at h;split at h
  ·cases h
  ·rename_i δ q hg;split at h
   ·cases h
   ·rename_i R' e' hr;cases h;rw[GI hr fun o ho=>hd o (List.mem_cons_of_mem _ ho)];exact Qa (hd o List.mem_cons_self)
theorem U1 {c l:List (Nat×ED)} (t:Nat):gY (c++l) t=(match inL t (c.map Prod.fst) with | true=>gY c t | false=>gY l t):=by
 induction c with
 | nil=>rfl
 | cons p r ih=>
  obtain⟨u,e⟩:=p;simp only[List.cons_append,gY,qM,List.map_cons,inL];cases hb:Nat.beq t u with
  | true=>rfl
  | false=>exact ih
theorem YB {l:List (Nat×ED)} {t:Nat} (h:t∉l.map Prod.fst):gY l t=.d .any:=by
 induction l with
 | nil=>rfl
 | cons p r ih=>
  obtain⟨u,e⟩:=p;simp only[List.map_cons,List.mem_cons,not_or] at h;simp only[gY,qM];cases hb:Nat.beq t u with
  | true=>exact absurd (Nat.eq_of_beq_eq_true hb) h.1
  | false=>exact ih h.2
theorem U2 {κ:Pl→Key} {c l:List (Nat×ED)} {ops:List Oper} {ρ:Nat→ED} (hc:(c.map Prod.fst).map ρ=c.map Prod.snd) (hw:okW (c.map Prod.fst) (l.map Prod.fst) ops=true)
  (hk:∀t,(∀o∈ops,o.dst≠some t)→ρ t=gY l t) (t:Nat):Wk ((ρ t).D κ) ((gY (c++l) t).D κ):=by
 rw[U1];split
 ·exact BN hc t
 ·rename_i hb;have hb:=FY hb;by_cases hm:t∈l.map Prod.fst
  ·rw[hk t (P9 hw t hb hm)]; exact Wk.refl _
  ·rw[YB hm]; exact Wk.any _
inductive FU where
 | c (u j:Nat) (v:ED)
 | o (u:Nat) (ob:aB)
 | x (u:Nat)
def wQ:List FU→List (Nat×aB)→List (Nat×aB)
 | [],f=>f
 | .c u j v::r,f=>match gu f u with
  | some (.cells cs)=>wQ r (dw f u (.cells (cs.set j v)))
  | _=>wQ r f
 | .o u ob::r,f=>wQ r (dw f u ob)
 | .x u::r,f=>wQ r (fV f u)
def wR:List FU→List (Option aB)→List (Option aB)
 | [],f=>f
 | .c u j v::r,f=>match (f[u]?).getD none with
  | some (.cells cs)=>wR r (f.set u (some (.cells (cs.set j v))))
  | _=>wR r f
 | .o u ob::r,f=>wR r (f.set u (some ob))
 | .x u::r,f=>wR r (f.set u none)
def jE (lv:List Nat) (c l:List (Nat×ED)):List (Nat×ED):=c++lv.map fun t=>(t,gY l t)
def yU (X:Ctx) (N:Nat) (c:List Nat) (ops:Array Oper) (l:List (Nat×ED)) (f:List (Nat×aB)) (os:List (Option aB)) (hs:List Hint):Option (List ED×List (Nat×aB)×List (Option aB)×Prop×List (Int×Int)):=
 match okW c (l.map Prod.fst) ops.toList with
 | true=>abL X N c ops ⟨gY l,f,os⟩ hs
 | false=>none
def YC (X:Ctx) (N:Nat) (c:List Nat) (ops:Array Oper) (l:List (Nat×ED)) (f:List (Nat×aB)) (os:List (Option aB)) (hq:List (Nat×List Hint)):Option (List ED×List (Nat×aB)×List (Option aB)×Prop×List (Int×Int)):=
 match okW c (l.map Prod.fst) ops.toList with
 | true=>aeS X N c ops ⟨gY l,f,os⟩ hq
 | false=>none
section
variable {W : Wd} {k k' : List KI} {l : List (Nat × ED)} {f : List (Nat × aB)} {os : List (Option aB)} {τ ω ρ σ α : Type}
theorem WG.rq {id:Nat} {ops:Array Oper} (hs:List Hint) (qs:List Int) {ob:Prop} (ho:ob) (c:List (Nat×ED)) (cf co:List FU) (hf:flatK 64 k=.code (.region id ops false)::k')
  (he:yU W.X W.N (c.map Prod.fst) ops l f os hs=some (c.map Prod.snd,wQ cf f,wR co os,ob,qs.map fun x=>(x,x))) (hk:WG W k' (c++l) (wQ cf f) (wR co os)):WG W k l f os:=by
 refine WS.flat (n:=64) ?_;rw[hf];unfold yU at he;split at he
 ·rename_i hw;unfold abL at he;split at he
  ·rename_i s' ob' qs' hseq;simp only[Option.some.injEq,Prod.mk.injEq] at he;obtain⟨e1,e2,e3,e4,e5⟩:=he;subst e4; subst e5;have hlast:WS W (.ops ops []::k') s':=fun hlen=>AW.RQ (AW.weak (U2 (l:=l) e1 hw fun t ht=>JK hseq ht) (by
    have:=hk;rw[← e2,← e3] at this;exact this hlen))
   exact fun hlen=>AW.region (Gy hseq ho (Jv _) hlast hlen)
  ·cases he
 ·cases he
theorem WG.r {id:Nat} {ops:Array Oper} (hs:List Hint) {ob:Prop} (ho:ob) (c:List (Nat×ED)) (hf:flatK 64 k=.code (.region id ops false)::k')
  (he:yU W.X W.N (c.map Prod.fst) ops l f os hs=some (c.map Prod.snd,f,os,ob,[])) (hk:WG W k' (c++l) f os):WG W k l f os:=
 WG.rq hs [] ho c [] [] hf he hk
theorem WG.rf {id:Nat} {ops:Array Oper} (hs:List Hint) {ob:Prop} (ho:ob) (c:List (Nat×ED)) (cf:List FU) (hf:flatK 64 k=.code (.region id ops false)::k')
  (he:yU W.X W.N (c.map Prod.fst) ops l f os hs=some (c.map Prod.snd,wQ cf f,os,ob,[])) (hk:WG W k' (c++l) (wQ cf f) os):WG W k l f os:=
 WG.rq hs [] ho c cf [] hf he hk
theorem WG.ro {id:Nat} {ops:Array Oper} (hs:List Hint) {ob:Prop} (ho:ob) (c:List (Nat×ED)) (co:List FU) (hf:flatK 64 k=.code (.region id ops false)::k')
  (he:yU W.X W.N (c.map Prod.fst) ops l f os hs=some (c.map Prod.snd,f,wR co os,ob,[])) (hk:WG W k' (c++l) f (wR co os)):WG W k l f os:=
 WG.rq hs [] ho c [] co hf he hk
theorem WG.rd {id:Nat} {ops:Array Oper} (hm:W.X.E.P.follows .mixedOrders=true) (hq:List (Nat×List Hint)) (qs:List Int) {ob:Prop} (ho:ob) (c:List (Nat×ED)) (cf co:List FU) (hf:flatK 64 k=.code (.region id ops true)::k')
  (he:YC W.X W.N (c.map Prod.fst) ops l f os hq=some (c.map Prod.snd,wQ cf f,wR co os,ob,qs.map fun x=>(x,x))) (hk:WG W k' (c++l) (wQ cf f) (wR co os)):WG W k l f os:=by
 refine WS.flat (n:=64) ?_;rw[hf];unfold YC at he;split at he
 ·rename_i hw;unfold aeS at he;split at he
  ·rename_i R e hst;split at he
   ·rename_i acS;simp only[Option.some.injEq,Prod.mk.injEq] at he;obtain⟨e1,e2,e3,e4,e5⟩:=he;subst e4;have hend:WS W k' e:=fun hlen=>AW.weak (U2 (l:=l) e1 hw fun t ht=>GI hst ht) (by
     have:=hk;rw[← e2,← e3] at this;exact this hlen)
    obtain⟨h1,h2,h3,h4⟩:=UH hst;obtain⟨p1,p2⟩:=MN acS;have ae6:Plan ops (Array.replicate ops.size false) R:=by
     refine⟨fun j hj=>?_,fun a ha=>?_,p2,?_,fun j o _ hj=>(by simp[Array.getElem?_replicate] at hj; split at hj <;> simp at hj),UJ ho (by rw[e5]; exact Jv _)⟩
     ·have:=getD_lt hj;obtain⟨a,ha,hi⟩:=h3 j (by simpa using this);exact⟨a,ha,by omega⟩
     ·obtain⟨g1,g2⟩:=h2 a ha;rw[Nat.sub_zero] at g2;have hlt:a.i<ops.size:=by have:=(List.getElem?_eq_some_iff.1 g2).1; simpa using this
      exact⟨by simp[hlt],by rw[← Array.getElem?_toList]; exact g2⟩
     ·have:=List.pairwise_and_iff.2 ⟨h4,p1⟩;exact this
    intro hlen B cx a w hB hl hex hrel;obtain⟨hr',he'⟩:=hrel.drawn;refine wp_region_any hm ?_;exact Gz hend (fun _ _=>trivial) ops.size _ R _ (by rw[h1]; simp) (by simp) ae6 (P5 hst) hlen B cx a _ hB hl (hex.trans (he'.weaken fun _ _=>rfl)) hr'
   ·cases he
  ·cases he
 ·cases he
theorem WG.cP {p:Prop} [Decidable p] {x y:Option ρ} {r:ρ} (h:(if p then x else y)=some r) {c:Operand} {a b:Code} (hf:flatK 64 k=.code (.cond c a b)::k') (hc:eY W.X.G (gY l) c=.d (.v (.bool (decide p))))
  (h1:p→x=some r→WG W (.code a::k') l f os) (h2:¬p→y=some r→WG W (.code b::k') l f os):WG W k l f os:=
 WG.abN hf hc (fun hp=>h1 hp (aJ hp h)) (fun hp=>h2 hp (aK hp h))
theorem WG.cT {v:Bool} {x y:Option ρ} {r:ρ} (h:(if v=true then x else y)=some r) {c:Operand} {a b:Code} (hf:flatK 64 k=.code (.cond c a b)::k') (hc:eY W.X.G (gY l) c=.d (.v (.bool v)))
  (h1:v=true→x=some r→WG W (.code a::k') l f os) (h2:¬v=true→y=some r→WG W (.code b::k') l f os):WG W k l f os:=
 WG.cond hf hc (fun hp=>h1 hp (aJ hp h)) (fun hp=>h2 (by rw[hp]; decide) (aK (by rw[hp]; decide) h))
theorem WG.cB (v:Bool) {c:Operand} {a b:Code} (hf:flatK 64 k=.code (.cond c a b)::k') (hc:eY W.X.G (gY l) c=.d (.v (.bool v)))
  (h:WG W (.code (match v with | true=>a | false=>b)::k') l f os):WG W k l f os:=
 WG.cond hf hc (fun hp=>by subst hp; exact h) (fun hp=>by subst hp; exact h)
theorem WG.bP {X:Option τ} {R:τ→Option ρ} {r:ρ} (h:X.bind R=some r) {c:Code} (hf:flatK 64 k=.code c::k') (lv:List Nat) (ce:τ→List (Nat×ED)) (cf co:τ→List FU)
  (jp:∀t,R t=some r→WG W (flatK 64 k') (jE lv (ce t) l) (wQ (cf t) f) (wR (co t) os)) (body:∀t,X=some t→WG W (flatK 64 k') (jE lv (ce t) l) (wQ (cf t) f) (wR (co t) os)→WG W (.code c::k') l f os):WG W k l f os:=
 WG.ae1 h hf _ (fun t=>wQ (cf t) f) (fun t=>wR (co t) os) jp body
theorem WG.bS {X:Option (ω⊕τ)} {R:τ→Option ω} {r:ω} (h:bn X R=some r) {c:Code} (hf:flatK 64 k=.code c::k') (lv:List Nat) (ce:τ→List (Nat×ED)) (cf co:τ→List FU)
  (jp:∀t,R t=some r→WG W (flatK 64 k') (jE lv (ce t) l) (wQ (cf t) f) (wR (co t) os)) (body:∀o,X=some o→(∀t,o=.inr t→WG W (flatK 64 k') (jE lv (ce t) l) (wQ (cf t) f) (wR (co t) os))→(∀w,o=.inl w→w=r)→WG W (.code c::k') l f os):WG W k l f os:=
 WG.ae2 h hf _ (fun t=>wQ (cf t) f) (fun t=>wR (co t) os) jp body
theorem WG.bPB {X:Option τ} {R:τ→Option ρ} {r:ρ} (h:X.bind R=some r) {c:Code} (hf:Mx.pI 64 k=.code c::k') (lv:List Nat) (ce:τ→List (Nat×ED)) (cf co:τ→List FU)
  (jp:∀t,R t=some r→WG W (flatK 64 k') (jE lv (ce t) l) (wQ (cf t) f) (wR (co t) os)) (body:∀t,X=some t→WG W (flatK 64 k') (jE lv (ce t) l) (wQ (cf t) f) (wR (co t) os)→WG W (.code c::k') l f os):WG W k l f os:=
 WG.acN h hf _ (fun t=>wQ (cf t) f) (fun t=>wR (co t) os) jp body
theorem WG.bSB {X:Option (ω⊕τ)} {R:τ→Option ω} {r:ω} (h:bn X R=some r) {c:Code} (hf:Mx.pI 64 k=.code c::k') (lv:List Nat) (ce:τ→List (Nat×ED)) (cf co:τ→List FU)
  (jp:∀t,R t=some r→WG W (flatK 64 k') (jE lv (ce t) l) (wQ (cf t) f) (wR (co t) os)) (body:∀o,X=some o→(∀t,o=.inr t→WG W (flatK 64 k') (jE lv (ce t) l) (wQ (cf t) f) (wR (co t) os))→(∀w,o=.inl w→w=r)→WG W (.code c::k') l f os):WG W k l f os:=
 WG.acO h hf _ (fun t=>wQ (cf t) f) (fun t=>wR (co t) os) jp body
abbrev n1:τ→List FU:=fun _=>[]
abbrev n2:Nat→τ→List FU:=fun _ _=>[]
theorem WG.lf {l':List (Nat×ED)} {f':List (Nat×aB)} {os':List (Option aB)} (hj:WG W k' l' f' os') (hf:flatK 64 k=k') (gI:List Nat) (he:(pF gI (gY l) (l'.map Prod.fst),f,os)=(l'.map Prod.snd,f',os')):WG W k l f os:=by
 simp only[Prod.mk.injEq] at he;exact WG.leaf hj hf gI he.1 he.2.1 he.2.2
theorem WG.lL {c:Code} {xs:List α} {s0:σ} {step:σ→Nat→α→Option σ} {R:σ→Option ρ} {r:ρ} (h:(dV step 0 xs s0).bind R=some r) (hf:flatK 64 k=.code (.loop c)::k') (lv:List Nat) (ce:Nat→σ→List (Nat×ED)) (cf co:Nat→σ→List FU) (gI:List Nat)
  (he:(pF gI (gY l) ((jE lv (ce 0 s0) l).map Prod.fst),f,os)=((jE lv (ce 0 s0) l).map Prod.snd,wQ (cf 0 s0) f,wR (co 0 s0) os))
  (round:∀i s q,xs.drop i=q→i≤xs.length→(dV step i q s).bind R=some r→WG W (.code c::.goal (JI W (fun i s=>jE lv (ce i s) l) (fun i s=>wQ (cf i s) f) (fun i s=>wR (co i s) os) xs (fun i q s=>(dV step i q s).bind R=some r) q.length)::k') (jE lv (ce i s) l) (wQ (cf i s) f) (wR (co i s) os)):WG W k l f os:=by
 simp only[Prod.mk.injEq] at he;exact WG.ae3 h hf (fun i s=>jE lv (ce i s) l) (fun i s=>wQ (cf i s) f) (fun i s=>wR (co i s) os) gI he.1 he.2.1 he.2.2 round
theorem WG.lI {c:Code} {xs:List α} {s0:σ} {step:σ→Nat→α→Option (ρ⊕σ)} {R:σ→Option ρ} {r:ρ} (h:bn (bI step 0 xs s0) R=some r) (hf:flatK 64 k=.code (.loop c)::k') (lv:List Nat) (ce:Nat→σ→List (Nat×ED)) (cf co:Nat→σ→List FU) (gI:List Nat)
  (he:(pF gI (gY l) ((jE lv (ce 0 s0) l).map Prod.fst),f,os)=((jE lv (ce 0 s0) l).map Prod.snd,wQ (cf 0 s0) f,wR (co 0 s0) os))
  (round:∀i s q,xs.drop i=q→i≤xs.length→bn (bI step i q s) R=some r→WG W (.code c::.goal (JI W (fun i s=>jE lv (ce i s) l) (fun i s=>wQ (cf i s) f) (fun i s=>wR (co i s) os) xs (fun i q s=>bn (bI step i q s) R=some r) q.length)::k') (jE lv (ce i s) l) (wQ (cf i s) f) (wR (co i s) os)):WG W k l f os:=by
 simp only[Prod.mk.injEq] at he;exact WG.ae4 h hf (fun i s=>jE lv (ce i s) l) (fun i s=>wQ (cf i s) f) (fun i s=>wR (co i s) os) gI he.1 he.2.1 he.2.2 round
theorem WG.nL {env:Nat→σ→List (Nat×ED)} {fr:Nat→σ→List (Nat×aB)} {low:Nat→σ→List (Option aB)} {xs:List α} {run:Nat→List α→σ→Prop} {x:α} {q:List α} (hf:flatK 64 k=.goal (JI W env fr low xs run (x::q).length)::k') (i:Nat) (s:σ) (hd:xs.drop i=q) (hi:i≤xs.length) (hr:run i q s) (gI:List Nat)
  (he:(pF gI (gY l) ((env i s).map Prod.fst),f,os)=((env i s).map Prod.snd,fr i s,low i s)):WG W k l f os:=by
 simp only[Prod.mk.injEq] at he;exact WG.nextL hf i s hd hi hr gI he.1 he.2.1 he.2.2
theorem WG.it {c:Code} {step:σ→Option (ρ⊕σ)} {n:Nat} {s0:σ} {o:ρ} (h:iterM n step s0=some o) (hf:flatK 64 k=.code (.loop c)::k') (lv:List Nat) (ce:σ→List (Nat×ED)) (cf co:σ→List FU) (gI:List Nat)
  (he:(pF gI (gY l) ((jE lv (ce s0) l).map Prod.fst),f,os)=((jE lv (ce s0) l).map Prod.snd,wQ (cf s0) f,wR (co s0) os))
  (round:∀n s,iterM (n+1) step s=some o→WG W (.code c::.goal (UU W (fun s=>jE lv (ce s) l) (fun s=>wQ (cf s) f) (fun s=>wR (co s) os) step o (n+1))::k') (jE lv (ce s) l) (wQ (cf s) f) (wR (co s) os)):WG W k l f os:=by
 simp only[Prod.mk.injEq] at he;exact WG.iter h hf (fun s=>jE lv (ce s) l) (fun s=>wQ (cf s) f) (fun s=>wR (co s) os) gI he.1 he.2.1 he.2.2 round
theorem WG.nI {env:σ→List (Nat×ED)} {fr:σ→List (Nat×aB)} {low:σ→List (Option aB)} {step:σ→Option (ρ⊕σ)} {o:ρ} {n:Nat} (hf:flatK 64 k=.goal (UU W env fr low step o (n+1))::k') (s:σ) (hr:iterM n step s=some o) (gI:List Nat)
  (he:(pF gI (gY l) ((env s).map Prod.fst),f,os)=((env s).map Prod.snd,fr s,low s)):WG W k l f os:=by
 simp only[Prod.mk.injEq] at he;exact WG.aeZ hf s hr gI he.1 he.2.1 he.2.2
theorem WG.lc {xs q:List α} {i:Nat} (hd:xs.drop i=q) {c:Operand} {a b:Code} (hf:flatK 64 k=.code (.cond c a b)::k') (hc:eY W.X.G (gY l) c=.d (.v (.bool (decide ((i:Int)<(xs.length:Int))))))
  (h1:∀x q',q=x::q'→xs[i]? = some x→xs.drop (i+1)=q'→i+1≤xs.length→WG W (.code a::k') l f os) (h2:q=[]→WG W (.code b::k') l f os):WG W k l f os:=
 WG.abN hf hc (fun h=>by
  obtain⟨x,r,g1,g2,g3⟩:=Tn hd (by omega);exact h1 x r g1 g2 g3 (by omega)) (fun h=>h2 (drop_nil' hd (by omega)))
theorem WG.kp (lv gI:List Nat) (hk:WG W k (lv.map fun t=>(t,UK gI t (gY l t))) f os):WG W k l f os:=by
 refine WG.less gI _ ?_ hk;simp[pF]
theorem WG.sn (t:Nat) {ke:α→List KD} {ks:List α→List (List KD)} {sz:Nat} (K:Go.Ev.Kd ke ks sz) (xs:List α) (h:(Uu (gY l t)).map Prod.snd=some (ks xs)) (hk:xs.length≤9223372036854775807→WG W k l f os):WG W k l f os:=by
 cases hs:Uu (gY l t) with
 | none=>rw[hs] at h; cases h
 | some p=>
  obtain⟨z,ys⟩:=p;rw[hs] at h;simp only[Option.map_some,Option.some.injEq] at h;subst h;exact WG.Xt t hs fun hb=>hk (by rw[K.length] at hb; exact hb)
end
def lA:Nat→List ED→List (Nat×ED)
 | _,[]=>[]
 | i,a::r=>(i,a)::lA (i+1) r
theorem YD:∀(r p:List ED),(lA p.length r).map (fun q=>(p++r)[q.1]?)=(lA p.length r).map fun q=>some q.2
 | [],p=>rfl
 | a::r,p=>by
  simp only[lA,List.map_cons];have ih:=YD r (p++[a]);simp only[List.length_append,List.length_singleton,List.append_assoc,List.singleton_append] at ih;rw[ih];simp
theorem aC.m {X : Ctx} {g : Nat} {fn : Func} {c : Code} {N : Nat} {args : List ED} {ins : List (Option aB)} {d : ED} {outs : List aB} (hf : X.E.P.funcs[g]? = some fn) (hb : fn.body = some c) (hn : (fn.name == "runtime.NumGoroutine") = false) (hN : fn.ntmps = N)
  (hle:(Nat.ble args.length N&&wJ ins.length none args&&JF ins.length (ins.filterMap id))=true)
  (h:∀(L:Nat) (ks:List Key) (low:List (Option dD)→St) (K:D→St→Prop) (hl:Low ks low) (hL:∀os,(low os).length=L),ks.length=ins.length→K (d.D (aT 0 ks)) (low (gG (aT 0 ks) (outs.map some)))→WG ⟨X,fn,L,N,ks,low,K,hl,hL⟩ [.code c] (lA 0 args) [] ins):aC X.E g args ins d outs:=by
 simp only[Bool.and_eq_true] at hle;exact aC.mk hf hb hn hN hle.1.1 (lA 0 args) (YD args []) hle.1.2 hle.2 h
end Go.Mx
namespace Go.Mx
section
variable {W : Wd} {k k' : List KI} {l : List (Nat × ED)} {f : List (Nat × aB)} {os : List (Option aB)}
theorem WG.ow (t u:Nat) (e:TypeId) (lv:List Nat) {z:Nat} {xs:List (List KD)} (ht:gY l t=.d (.sl z true xs)) (hu:gu f u=none)
  (he:((jE lv [(t,.gs (.own u) z xs)] l).map Prod.fst).map (qM (gY l) t (.gs (.own u) z xs))=(jE lv [(t,.gs (.own u) z xs)] l).map Prod.snd)
  (hk:WG W k (jE lv [(t,.gs (.own u) z xs)] l) (dw f u (.tok xs.length e)) os):WG W k l f os:=
 WG.own t u e ht hu _ he hk
end
end Go.Mx
namespace Go.Mx
def ocF (f:List (Nat×aB)) (u j v:Nat) (e:TypeId):Option (List (Nat×aB)):=
 match gu f u with
 | some (.cells cs)=>match cs[j]? with
  | some (.d (.sl z true xs))=>match gu f v with
   | none=>match Nat.beq u v with
    | false=>some (dw (dw f v (.tok xs.length e)) u (.cells (cs.set j (.gs (.own v) z xs))))
    | true=>none
   | _=>none
  | _=>none
 | _=>none
def ocV (f:List (Nat×aB)) (u j v:Nat) (e:TypeId):Option (List (Nat×aB)):=
 match gu f u with
 | some (.cells cs)=>match cs[j]? with
  | some (.d (.sl z true []))=>match gu f v with
   | none=>match Nat.beq u v with
    | false=>some (dw (dw f v (.vec e z [])) u (.cells (cs.set j (.vs (.own v) z 0))))
    | true=>none
   | _=>none
  | _=>none
 | _=>none
theorem Ah {α:Type} {f:List (Nat×α)} {u:Nat} {o:α}:gu (dw f u o) u=some o:=by
 induction f with
 | nil=>simp[dw,gu]
 | cons p r ih=>
  obtain⟨w,q⟩:=p;simp only[dw];by_cases h:Nat.beq w u=true
  ·rw[if_pos h]; simp only[gu]; rw[if_pos h]
  ·rw[if_neg h]; simp only[gu]; rw[if_neg h]; exact ih
theorem Ai {α:Type} {f:List (Nat×α)} {u v:Nat} (h:Nat.beq u v=false):gu (fV f v) u=gu f u:=by
 induction f with
 | nil=>rfl
 | cons p r ih=>
  obtain⟨w,q⟩:=p;simp only[fV];cases hw:Nat.beq w v with
  | true=>
   simp only[gu];have:=Nat.eq_of_beq_eq_true hw;subst this;have:¬Nat.beq w u=true:=fun h'=>by rw[← Nat.eq_of_beq_eq_true h',Nat.beq_refl] at h; cases h
   rw[if_neg this]; exact ih
  | false=>
   simp only[gu];by_cases h':Nat.beq w u=true
   ·rw[if_pos h',if_pos h']
   ·rw[if_neg h',if_neg h']; exact ih
def mcV (n:Nat) (l:List (Nat×ED)) (f:List (Nat×aB)) (os:List (Option aB)) (u j v i:Nat):Option (List (Nat×aB)×List (Option aB)):=
 match gu f u with
 | some (.cells cs)=>match cs[j]? with
  | some (.vs (.own v') z n')=>match gu f v with
   | some (.vec e z' xs)=>match Nat.beq v' v,Nat.beq z z',Nat.beq u v,os[i]?,DR n (some v) l,CB n (some v) (fV (dw f u (.cells (cs.set j (.d .any)))) v) with
    | true,true,false,some none,true,true=>some (dw (fV (dw f u (.cells (cs.set j (.d .any)))) v) u (.cells (cs.set j (.vs (.low i) z n'))),os.set i (some (.vec e z xs)))
    | _,_,_,_,_,_=>none
   | _=>none
  | _=>none
 | _=>none
def mcT (n:Nat) (l:List (Nat×ED)) (f:List (Nat×aB)) (os:List (Option aB)) (u j v i:Nat):Option (List (Nat×aB)×List (Option aB)):=
 match gu f u with
 | some (.cells cs)=>match cs[j]? with
  | some (.gs (.own v') z xs)=>match gu f v with
   | some (.tok n' e)=>match Nat.beq v' v,Nat.beq u v,os[i]?,DR n (some v) l,CB n (some v) (fV (dw f u (.cells (cs.set j (.d .any)))) v) with
    | true,false,some none,true,true=>some (dw (fV (dw f u (.cells (cs.set j (.d .any)))) v) u (.cells (cs.set j (.gs (.low i) z xs))),os.set i (some (.tok n' e)))
    | _,_,_,_,_=>none
   | _=>none
  | _=>none
 | _=>none
def fcV (n:Nat) (l:List (Nat×ED)) (f:List (Nat×aB)) (u j v:Nat):Option (List (Nat×aB)×Nat×Nat×List (List KD)):=
 match gu f u with
 | some (.cells cs)=>match cs[j]? with
  | some (.vs (.own v') z n')=>match gu f v with
   | some (.vec e z' xs)=>match Nat.beq v' v,Nat.beq z z',Nat.beq u v,DR n (some v) l,CB n (some v) (fV (dw f u (.cells (cs.set j (.d .any)))) v) with
    | true,true,false,true,true=>some (dw (fV (dw f u (.cells (cs.set j (.d .any)))) v) u (.cells (cs.set j (.d (.sl z false xs)))),n',z,xs)
    | _,_,_,_,_=>none
   | _=>none
  | _=>none
 | _=>none
section
variable {W : Wd} {k k' : List KI} {l : List (Nat × ED)} {f : List (Nat × aB)} {os : List (Option aB)}
theorem WG.oc (u j v:Nat) (e:TypeId) (h:(ocF f u j v e).isSome=true) (hk:WG W k l ((ocF f u j v e).getD []) os):WG W k l f os:=by
 unfold ocF at h hk;split at h
 ·rename_i cs hu;split at h
  ·rename_i z xs hj;split at h
   ·rename_i hv;split at h
    ·rename_i hne;simp only[hu,hj,hv,hne,Option.getD_some] at hk;exact WG.aaS u j v e hu hj hv hne _ rfl hk
    ·cases h
   ·cases h
  ·cases h
 ·cases h
theorem WG.ov (u j v:Nat) (e:TypeId) (h:(ocV f u j v e).isSome=true) (hk:WG W k l ((ocV f u j v e).getD []) os):WG W k l f os:=by
 unfold ocV at h hk;split at h
 ·rename_i cs hu;split at h
  ·rename_i z hj;split at h
   ·rename_i hv;split at h
    ·rename_i hne;simp only[hu,hj,hv,hne,Option.getD_some] at hk;exact WG.Yv u j v e hu hj hv hne _ rfl hk
    ·cases h
   ·cases h
  ·cases h
 ·cases h
theorem WG.mc (u j v i:Nat) (h:(mcV os.length l f os u j v i).isSome=true) (hk:WG W k l ((mcV os.length l f os u j v i).getD ([],[])).1 ((mcV os.length l f os u j v i).getD ([],[])).2):WG W k l f os:=by
 unfold mcV at h hk;split at h
 ·rename_i cs hu;split at h
  ·rename_i v' z n' hj;split at h
   ·rename_i e z' xs hv;split at h
    ·rename_i h1 h2 h3 h4 h5 h6;simp only[hu,hj,hv,h1,h2,h3,h4,h5,h6,Option.getD_some] at hk;have h1:=Nat.eq_of_beq_eq_true h1;have h2:=Nat.eq_of_beq_eq_true h2;subst h1; subst h2;exact WG.Yy u j v' i hu hj hv h3 h4 h5 h6 _ rfl (by rw[Ai h3,Ah]) hk
    ·cases h
   ·cases h
  ·cases h
 ·cases h
theorem WG.mt (u j v i:Nat) (h:(mcT os.length l f os u j v i).isSome=true) (hk:WG W k l ((mcT os.length l f os u j v i).getD ([],[])).1 ((mcT os.length l f os u j v i).getD ([],[])).2):WG W k l f os:=by
 unfold mcT at h hk;split at h
 ·rename_i cs hu;split at h
  ·rename_i v' z n' hj;split at h
   ·rename_i e z' hv;split at h
    ·rename_i h1 h3 h4 h5 h6;simp only[hu,hj,hv,h1,h3,h4,h5,h6,Option.getD_some] at hk;have h1:=Nat.eq_of_beq_eq_true h1;subst h1;exact WG.WE u j v' i hu hj hv h3 h4 h5 h6 _ rfl (by rw[Ai h3,Ah]) hk
    ·cases h
   ·cases h
  ·cases h
 ·cases h
theorem WG.fc {α:Type} {ke:α→List KD} {ks:List α→List (List KD)} {sz:Nat} (u j v:Nat) (K:Go.Ev.Kd ke ks sz) (xs:List α) {n:Nat} (hn:(ks xs).length=n) (h:(fcV os.length l f u j v).map (fun p=>(p.2.1,p.2.2))=some (n,sz,ks xs))
  (hk:WG W k l ((fcV os.length l f u j v).getD ([],0,0,[])).1 os):WG W k l f os:=by
 unfold fcV at h hk;split at h
 ·rename_i cs hu;split at h
  ·rename_i v' z n' hj;split at h
   ·rename_i e z' ys hv;split at h
    ·rename_i h1 h2 h3 h5 h6;simp only[hu,hj,hv,h1,h2,h3,h5,h6,Option.getD_some] at hk;have h1:=Nat.eq_of_beq_eq_true h1;have h2:=Nat.eq_of_beq_eq_true h2;subst h1; subst h2;simp only[Option.map_some,Option.some.injEq,Prod.mk.injEq] at h;obtain⟨rfl,rfl,rfl⟩:=h;exact WG.TA u j v' hu hj hv hn (K.rows xs) h3 h5 h6 _ rfl (by rw[Ai h3,Ah]) hk
    ·cases h
   ·cases h
  ·cases h
 ·cases h
theorem WG.dr (u:Nat) (h:(DR os.length (some u) l&&CB os.length (some u) (fV f u))=true) (hk:WG W k l (fV f u) os):WG W k l f os:=by
 simp only[Bool.and_eq_true] at h;exact WG.drop u h.1 h.2 hk
end
end Go.Mx
namespace Go.Mx
set_option linter.unusedVariables false
set_option linter.unusedSimpArgs false
theorem JL {κ:Pl→Key} {l l0:List (Nat×ED)} (h:(l0.map Prod.fst).map (gY l)=l0.map Prod.snd) (t:Nat):Wk ((gY l t).D κ) ((gY l0 t).D κ):=BN h t
section
variable {W : Wd} {k k' : List KI} {l : List (Nat × ED)} {f : List (Nat × aB)} {os : List (Option aB)}
theorem WG.ae7 (t v i:Nat) (l0:List (Nat×ED)) {e:TypeId} {z n:Nat} {xs:List (List KD)} (ht:gY l t=.vs (.own v) z n) (hv:gu f v=some (.vec e z xs)) (hi:os[i]? = some none) (h0:(l0.map Prod.fst).map (gY l)=l0.map Prod.snd)
  (h1:DR os.length (some v) l0=true) (h2:CB os.length (some v) (fV f v)=true) (hk:WG W k ((t,.vs (.low i) z n)::l0) (fV f v) (os.set i (some (.vec e z xs)))):WG W k l f os:=fun hlen=>by
 have hlen:os.length=W.ks.length:=hlen;have hp:∀p:Pl,p.vW os.length (some v)=true→notKey W.L v (W.κ p)=true:=fun p hp=>yR W.hl W.hL hlen hp;have hL:=W.hL (gG W.κ os);have hio:i<os.length:=by
  rcases Nat.lt_or_ge i os.length with h | h
  ·exact h
  ·rw[List.getElem?_eq_none h] at hi; cases hi
 have hik:W.ks[i]? = some (W.ks[i]'(by omega)):=List.getElem?_eq_getElem (by omega);have hq:W.κ (.low i)=W.ks[i]'(by omega):=je hik;have hlen':(os.set i (some (aB.vec e z xs))).length=W.ks.length:=by rw[List.length_set]; exact hlen
 intro B cx a w hB hl' hex hr;have r0:Rel W.X.E cx (bT W.κ W.low f os) w:=hr.rel;obtain⟨v1,v2⟩:=eG (ks:=W.ks) (p:=.own v) W.hl hL hlen hv;have v1:(bT W.κ W.low f os).get (W.L,v)=some (.vec xs.length e z (KD.DLL xs).flatten):=v1;have DT:∀f,(bT W.κ W.low f os).length=W.L+1:=fun f=>by simp[bT,hL]
 have hlow:=W.hl.get (gG W.κ os) (by rw[rF]; exact hlen) i _ hik;have yL:=W.hl.lt (gG W.κ os) i _ hik;rw[hL] at yL;have hgq:(bT W.κ W.low f os).get (W.κ (.low i))=none:=by
  rw[hq];show St.get (_::W.low (gG W.κ os)) _=none;rw[St.kM (by rw[hL]; exact yL),hlow,yM,hi]; rfl
 have hok:=rW hp _ h2;obtain⟨bK,r2,hext,Sv,hbq⟩:=r0.Yx (k0:=(W.L,v)) (q:=W.κ (.low i)) (n:=xs.length) (e:=e) rfl v1 hgq (by rw[DT]; simp) (by rw[DT,hq]; omega) (by
   show allL _ (KD.DLL xs).flatten=true;rw[rQ]; exact KD.iP _ _) (fun key c hne' hg=>by
   have h2:=r0.FB hg;by_cases h1:key.1=W.L
   ·have hg2:jA (fA W.κ (fV f v)) key.2=some c:=by
     rw[sV,← jU,Fr.upd_ne _ _ _ _ (fun e=>hne' (Prod.ext h1 e))];have:St.get (jA (fA W.κ f)::W.low (gG W.κ os)) key=some c:=hg;simp only[St.get,h1,hL,if_true] at this;exact this
    refine(dI (fun q hq=>gX.2 ?_)).2.1 _ (jd.ok hok key.2 c hg2);exact dL.1 hq
   ·have h3:key.1<W.L:=by
     rcases Nat.lt_or_ge key.1 (bT W.κ W.low f os).length with h | h
     ·rw[DT] at h; omega
     ·rw[St.wH h] at hg; cases hg
    refine(dI (fun q hq=>gX.2 (fun e=>?_))).2.1 _ h2;simp only[lv,decide_eq_true_eq,e] at hq;omega)
 have e2:(bT W.κ W.low f os).set (W.L,v) none=bT W.κ W.low (fV f v) os:=IE hL;rw[e2] at r2;have e3:(bT W.κ W.low (fV f v) os).set (W.κ (.low i)) (some (.vec xs.length e z (KD.DLL xs).flatten))=bT W.κ W.low (fV f v) (os.set i (some (.vec e z xs))):=
  fO (p:=.low i) (o':=.vec e z xs) W.hl hL hlen (Nat.ble_eq_true_of_le hio)
 rw[e3] at r2;have hok1:=uT hp _ h1;refine hk hlen' B bK a w hB (by show(bT W.κ W.low _ _).length=W.L+1; simp[bT,W.hL]) (hex.trans (hext.weaken fun key hk=>gX.2 (fun e=>?_))) ⟨r2,hr.size,fun u=>?_,hr.defers⟩
 ·have hB:B.L=W.L:=hB;simp only[lv,decide_eq_true_eq,e,hB] at hk;omega
 ·show Rd bK w ((qM (gY l0) t (.vs (.low i) z n) u).D W.κ) _;have hu:=hr.tmps u;unfold qM;cases hb:Nat.beq u t with
  | true=>
   have:=Nat.eq_of_beq_eq_true hb;subst this;have hu:Rd cx w ((gY l u).D W.κ) (a.tmps.getD u undef):=hu;rw[ht] at hu;have hu:Rd cx w (.vs (W.L,v) z n) (a.tmps.getD u undef):=hu;generalize a.tmps.getD u undef=x at hu;cases hu with
   | vs q1 q2 q3=>
    obtain⟨n',e',tl,t1,t2,t3⟩:=q3;exact .vs q1 q2 ⟨n',e',tl,Sv.trans t1,t2,t3⟩
  | false=>
   have hu:Rd cx w ((gY l u).D W.κ) (a.tmps.getD u undef):=hu;have hu:=JL h0 u cx w _ hu;refine hu.mono hext ?_;have:=wX hok1 u;rw[← vX] at this;exact(dI (fun q hq=>gX.2 (dL.1 hq))).1 _ this
def mvV (n:Nat) (l:List (Nat×ED)) (f:List (Nat×aB)) (os:List (Option aB)) (t v i:Nat) (lv:List Nat):Option (ED×aB):=
 match gY l t with
 | .vs (.own v') z n'=>match gu f v with
  | some (.vec e z' xs)=>match Nat.beq v' v,Nat.beq z z',os[i]?,DR n (some v) (lv.map fun t=>(t,gY l t)),CB n (some v) (fV f v) with
   | true,true,some none,true,true=>some (.vs (.low i) z n',.vec e z xs)
   | _,_,_,_,_=>none
  | _=>none
 | _=>none
theorem Qb {l:List (Nat×ED)}:∀lv:List Nat,((lv.map fun t=>(t,gY l t)).map Prod.fst).map (gY l)=(lv.map fun t=>(t,gY l t)).map Prod.snd:=fun lv=>by simp
theorem WG.mv (t v i:Nat) (lv:List Nat) (h:(mvV os.length l f os t v i lv).isSome=true)
  (hk:WG W k (jE lv [(t,((mvV os.length l f os t v i lv).getD (.d .any,.tok 0 0)).1)] l) (fV f v) (os.set i (some ((mvV os.length l f os t v i lv).getD (.d .any,.tok 0 0)).2))):WG W k l f os:=by
 unfold mvV at h hk;split at h
 ·rename_i v' z n' ht;split at h
  ·rename_i e z' xs hv;split at h
   ·rename_i h1 h2 h3 h4 h5;simp only[ht,hv,h1,h2,h3,h4,h5,Option.getD_some] at hk;have h1:=Nat.eq_of_beq_eq_true h1;have h2:=Nat.eq_of_beq_eq_true h2;subst h1; subst h2;exact WG.ae7 t v' i _ ht hv h3 (Qb lv) h4 h5 hk
   ·cases h
  ·cases h
 ·cases h
theorem WG.aa0 (t v:Nat) (l0:List (Nat×ED)) {e:TypeId} {z n:Nat} {xs:List (List KD)} (ht:gY l t=.vs (.own v) z n) (hv:gu f v=some (.vec e z xs)) (hn:xs.length=n) (hz:kH z xs) (h0:(l0.map Prod.fst).map (gY l)=l0.map Prod.snd)
  (h1:DR os.length (some v) l0=true) (h2:CB os.length (some v) (fV f v)=true) (hk:WG W k ((t,.d (.sl z false xs))::l0) (fV f v) os):WG W k l f os:=fun hlen=>by
 have hlen:os.length=W.ks.length:=hlen;have hp:∀p:Pl,p.vW os.length (some v)=true→notKey W.L v (W.κ p)=true:=fun p hp=>yR W.hl W.hL hlen hp;have hL:=W.hL (gG W.κ os);subst hn;intro B cx a w hB hl' hex hr;have r0:Rel W.X.E cx (bT W.κ W.low f os) w:=hr.rel;obtain⟨v1,v2⟩:=eG (ks:=W.ks) (p:=.own v) W.hl hL hlen hv;have v1:(bT W.κ W.low f os).get (W.L,v)=some (.vec xs.length e z (KD.DLL xs).flatten):=v1;have hrj:Rd cx w ((gY l t).D W.κ) (a.tmps.getD t undef):=hr.tmps t;rw[ht] at hrj;have hrj:Rd cx w (.vs (W.L,v) z xs.length) (a.tmps.getD t undef):=hrj;obtain⟨ad,cap,tl,hval,q1,q2,htk,q3⟩:=r0.Jb v1 hrj;obtain⟨_,_,_,hcont⟩:=r0.vec _ _ _ _ _ v1;have Yw:=jd.ok (rW hp _ h2);rw[sV,← jU,← hL] at Yw;have r1:Rel W.X.E cx (jA (fA W.κ f)::W.low (gG W.κ os)) w:=r0;obtain⟨bK,r2,hext,hM,_⟩:=r1.abH (u:=v) Yw;have hLk:(List.length (W.low (gG W.κ os)),v)=(W.L,v):=by rw[hL]
 rw[jU,← sV] at r2;have r2:Rel W.X.E bK (bT W.κ W.low (fV f v) os) w:=r2;have hrow:Rd bK w (.sl z .ro (KD.DLL xs)) (.slice ad xs.length cap):=by
  have TB:∀g c,tl=some (g,c,z)→∀i,i<xs.length*z→¬bK.M g i:=fun g c ht i hi=>by
   refine hM g i (.inr ⟨.vec xs.length e z (KD.DLL xs).flatten,xs.length,e,c,z,⟨?_,rfl⟩,?_,Nat.zero_le _,?_⟩)
   ·rw[hLk]; exact v1
   ·rw[hLk,htk,ht]
   ·obtain⟨tl',t1,t2⟩:=r0.tok _ _ _ _ ⟨v1,rfl⟩;rw[htk] at t1; cases t1;rw[ht] at t2;exact Nat.lt_of_lt_of_le hi (Nat.mul_le_mul_right _ t2.1)
  have hlenx:(KD.DLL xs).length=xs.length:=dK _;cases tl with
  | none=>
   obtain⟨rfl,h0⟩:=q3;have hx0:xs=[]:=List.eq_nil_of_length_eq_zero h0;subst hx0;exact .sl (xs:=[]) (0,0) (fun _ _=>undef) (Nat.zero_le _) q2 (by simp) (by simp) (by simp) (by simp) trivial
  | some gl=>
   obtain⟨g,c,z'⟩:=gl;obtain⟨rfl,rfl,rfl⟩:=q3;have hcont:=(hcont g c z' htk).2;have key:∀(i jj:Nat) r d,(KD.DLL xs)[i]? = some r→r[jj]? = some d→∃x,w.cell? ⟨g,i*z'+jj,none⟩=some x∧Rd bK w d x∧i*z'+jj<xs.length*z':=fun i jj r d hi hjj=>by
    have hfl:=flat_get (qL hz) hi hjj;obtain⟨x,hx,hrd⟩:=hcont _ d hfl;refine⟨x,hx,hrd.mono hext ?_,?_⟩
    ·have:d.all (notKey (List.length (W.low (gG W.κ os))) v)=true:=dX (Bl (KD.iW _ xs) hi) hjj;exact this
    ·have:=(List.getElem?_eq_some_iff.1 hfl).1
     rwa [iD (qL hz),hlenx] at this
   have:=Rd.sl (cx:=bK) (w:=w) (sz:=z') (tok:=.ro) (xs:=KD.DLL xs) (a:=some ⟨g,0,none⟩) (cap:=c) (g,0) (fun i jj=>(w.cell? ⟨g,i*z'+jj,none⟩).getD undef) (by rw[hlenx]; exact q1) q2 (fun i r hi=>qL hz r (List.mem_of_getElem? hi)) (fun _=>rfl) (fun i jj r d hi hjj=>by
    obtain⟨x,hx,_,hlt⟩:=key i jj r d hi hjj;rw[Nat.zero_add,hx];exact⟨rfl,TB g c rfl _ hlt⟩) (fun i jj r d hi hjj=>by
    obtain⟨x,hx,hrd,_⟩:=key i jj r d hi hjj;simp only[hx,Option.getD_some]; exact hrd) trivial
   rw[hlenx] at this;exact this
 have hok1:=uT hp _ h1;refine hk hlen B bK a w hB (by show(bT W.κ W.low _ _).length=W.L+1; simp[bT,W.hL]) (hex.trans (hext.weaken fun key hk=>dL.2 (fun e=>?_))) ⟨r2,hr.size,fun u=>?_,hr.defers⟩
 ·have hB:B.L=W.L:=hB;rw[hLk] at e;simp only[lv,decide_eq_true_eq,e,hB] at hk;omega
 ·show Rd bK w ((qM (gY l0) t (.d (.sl z false xs)) u).D W.κ) _;have hu:=hr.tmps u;unfold qM;cases hb:Nat.beq u t with
  | true=>
   have:=Nat.eq_of_beq_eq_true hb;subst this;show Rd bK w (.sl z .ro (KD.DLL xs)) _;rw[hval]; exact hrow
  | false=>
   have hu:Rd cx w ((gY l u).D W.κ) (a.tmps.getD u undef):=hu;have hu:=JL h0 u cx w _ hu;refine hu.mono hext ?_;have:=wX hok1 u;rw[← vX] at this;rw[hL]; exact this
def ftV (n:Nat) (l:List (Nat×ED)) (f:List (Nat×aB)) (t v:Nat) (lv:List Nat):Option (Nat×Nat×List (List KD)):=
 match gY l t with
 | .vs (.own v') z n'=>match gu f v with
  | some (.vec e z' xs)=>match Nat.beq v' v,Nat.beq z z',DR n (some v) (lv.map fun t=>(t,gY l t)),CB n (some v) (fV f v) with
   | true,true,true,true=>some (n',z,xs)
   | _,_,_,_=>none
  | _=>none
 | _=>none
theorem WG.ft {α:Type} {ke:α→List KD} {ks:List α→List (List KD)} {sz:Nat} (t v:Nat) (lv:List Nat) (K:Go.Ev.Kd ke ks sz) (xs:List α) {n:Nat} (hn:(ks xs).length=n) (h:ftV os.length l f t v lv=some (n,sz,ks xs))
  (hk:WG W k (jE lv [(t,.d (.sl sz false (ks xs)))] l) (fV f v) os):WG W k l f os:=by
 unfold ftV at h;split at h
 ·rename_i v' z n' ht;split at h
  ·rename_i e z' ys hv;split at h
   ·rename_i h1 h2 h3 h4;have h1:=Nat.eq_of_beq_eq_true h1;have h2:=Nat.eq_of_beq_eq_true h2;subst h1; subst h2;simp only[Option.some.injEq,Prod.mk.injEq] at h;obtain⟨rfl,rfl,rfl⟩:=h;exact WG.aa0 t v' _ ht hv hn (K.rows xs) (Qb lv) h3 h4 hk
   ·cases h
  ·cases h
 ·cases h
theorem WG.rn {n n':Nat} (hn:n=n') (ce:Nat→List (Nat×ED)) (cf co:Nat→List FU) (h:(((ce n).map Prod.fst).map (gY l),wQ (cf n) f,wR (co n) os)=((ce n).map Prod.snd,f,os))
  (hk:WG W k (ce n'++l) (wQ (cf n') f) (wR (co n') os)):WG W k l f os:=by
 subst hn;simp only[Prod.mk.injEq] at h;obtain⟨h1,h2,h3⟩:=h;rw[h2,h3] at hk;refine fun hlen=>AW.weak (fun t=>?_) (hk hlen);show Wk ((gY l t).D W.κ) ((gY (ce n++l) t).D W.κ);rw[U1];split
 ·exact BN h1 t
 ·exact Wk.refl _
end
theorem Lj {P:Program} {xt:TypeId} {n b:Nat} {e:TypeId} (h:aV P xt=some (n,b,.slice e)) (a:Option Addr) (m c:Nat) (w:World):(Op.equal xt (.slice a m c) (.slice none 0 0)).run P w=.ok a.isNone w:=by
 obtain⟨inf,u,hi,hu,g1,g2,g3⟩:=aN h;cases u <;> simp only[jy,reduceCtorEq] at g3;unfold Op.equal;rw[show Op.maxDepth=9999+1 from rfl,Op.equalIn];rw[Sem.run_bind,run_underlying hu];cases a <;> rfl
theorem AW.agE {E:Setting} {U:tN} {F:D→St→Prop} {k:List KI} {ρ:Env} {st:St} {all:Array Oper} {rest:List Oper} {t:Nat} {ty:TypeId} {pos:String} {af:Array Edge} {xt yt e:TypeId} {n b z:Nat} {x:Operand} {tok:Tok} {xs:List (List D)}
  (ht:Nat.blt t U.N=true) (hT:aV E.P xt=some (n,b,.slice e)) (hx:ev E ρ x=.sl z tok xs)
  (h1:xs=[]→AW E U (.ops all rest::k) F (upd ρ t (.v (.bool true))) st) (h2:AW E U (.ops all rest::k) F (upd ρ t (.v (.bool false))) st) :
  AW E U (.ops all (⟨some t,.binOp .eql xt x (.const (.slice none 0 0)) yt,ty,pos,af,none⟩::rest)::k) F ρ st:=by
 intro B cx a w hB hlen hext hr;have hv:=hr.eval x;rw[hx] at hv;obtain⟨ad,cap,hval,p1,p2,p3,p4,A,p5,p6⟩:=hr.LX hx;have hc:a.eval (.const (.slice none 0 0))=.slice none 0 0:=rfl;have hrun:(execOp a.eval ⟨some t,.binOp .eql xt x (.const (.slice none 0 0)) yt,ty,pos,af,none⟩).run E.P w=.ok (.value (.bool ad.isNone)) w:=by
  simp only[execOp,hval,hc];simp[eqGuard,binOp,Lj hT]
 have hnext:AW E U (.ops all rest::k) F (upd ρ t (.v (.bool ad.isNone))) st:=by
  cases ad with
  | some q=>exact h2
  | none=>
   exact h1 (Classical.byContradiction fun hne=>by have:=p5 hne; cases this)
 have hk':=hnext B cx (a.put (some t) (.bool ad.isNone)) w hB hlen hext (kN hr ht (.v _));suffices goal:wpList E.P all (rO E.P (Gc E U.N B) k (Fin E U.fn F B)) ((⟨some t,.binOp .eql xt x (.const (.slice none 0 0)) yt,ty,pos,af,none⟩:Oper)::rest) a w from goal
 unfold wpList;rw[if_pos (by simp[Region.wanted])];left;unfold Oper.wp;rw[hrun];exact hk'
section
variable {W : Wd} {k k' : List KI} {l : List (Nat × ED)} {f : List (Nat × aB)} {os : List (Option aB)}
theorem EH {κ:Pl→Key} {t:Nat} {e:ED} {l:List (Nat×ED)}:dP κ (gY ((t,e)::l))=upd (dP κ (gY l)) t (e.D κ):=sU
theorem WG.nq {id a b:Nat} {x:Operand} {ty1 ty2 xt yt el:TypeId} {pos1 pos2:String} {af1 af2:Array Edge} {z n m:Nat} {fl:Bool} {xs:List (List KD)} (hf:flatK 64 k=.code (.region id #[⟨some a,.move x,ty1,pos1,af1,none⟩,⟨some b,.binOp .eql xt (.tmp a) (.const (.slice none 0 0)) yt,ty2,pos2,af2,none⟩] false)::k')
  (hab:(Nat.blt a W.N&&Nat.blt b W.N)=true) (hT:W.X.T.t xt=some (n,m,.slice el)) (hx:eY W.X.G (gY l) x=.d (.sl z fl xs))
  (h1:xs=[]→WG W k' ((b,bE true)::(a,.d (.sl z fl xs))::l) f os) (h2:WG W k' ((b,bE false)::(a,.d (.sl z fl xs))::l) f os):WG W k l f os:=by
 simp only[Bool.and_eq_true] at hab;refine WG.flat hf fun hlen=>AW.region ?_;have hx':ev W.X.E (dP W.κ (gY l)) x=.sl z (XH fl) (KD.DLL xs):=by rw[dB W.X.hG,hx]; rfl
 have ae8:Pq W.X.E W.U (dP W.κ (gY l)) (bT W.κ W.low f os) ⟨some a,.move x,ty1,pos1,af1,none⟩ (upd (dP W.κ (gY l)) a (.sl z (XH fl) (KD.DLL xs))) (bT W.κ W.low f os):=
  mO.Uo hab.1 (fun cx a' w hr=>⟨a'.eval x,fun w'=>rfl,by have:=hr.eval x; rw[hx'] at this; exact this⟩)
 refine AW.op1 rfl ae8 ?_;refine AW.agE (z:=z) (tok:=XH fl) (xs:=KD.DLL xs) hab.2 (W.X.T.ht _ _ hT) (by show upd _ _ _ _=_; exact upd_same _ _ _) (fun he=>?_) ?_
 ·have he:xs=[]:=by cases xs with
   | nil=>rfl
   | cons c r=>cases he
  have:=h1 he hlen;have e1:dP W.κ (gY ((b,bE true)::(a,.d (.sl z fl xs))::l))=upd (upd (dP W.κ (gY l)) a (.sl z (XH fl) (KD.DLL xs))) b (.v (.bool true)):=by rw[EH,EH]; rfl
  rw[← e1];exact AW.RQ this
 ·have:=h2 hlen;have e1:dP W.κ (gY ((b,bE false)::(a,.d (.sl z fl xs))::l))=upd (upd (dP W.κ (gY l)) a (.sl z (XH fl) (KD.DLL xs))) b (.v (.bool false)):=by rw[EH,EH]; rfl
  rw[← e1];exact AW.RQ this
end
end Go.Mx
namespace Go.Mx
section
variable {W : Wd} {k k' : List KI} {l : List (Nat × ED)} {f : List (Nat × aB)} {os : List (Option aB)}
theorem WG.owV (t u:Nat) (e:TypeId) (lv:List Nat) {z:Nat} (ht:gY l t=.d (.sl z true [])) (hu:gu f u=none)
  (he:((jE lv [(t,.vs (.own u) z 0)] l).map Prod.fst).map (qM (gY l) t (.vs (.own u) z 0))=(jE lv [(t,.vs (.own u) z 0)] l).map Prod.snd)
  (hk:WG W k (jE lv [(t,.vs (.own u) z 0)] l) (dw f u (.vec e z [])) os):WG W k l f os:=fun hlen=>by
 have hL:=W.hL (gG W.κ os);intro B cx a w hB hl' hex hr;have hg:=oZ (ks:=W.ks) (low:=W.low) (os:=os) W.hl hL hu;have hkey:(W.L,u).1<(bT W.κ W.low f os).length:=by simp[bT,hL]
 obtain⟨bK,r1,r2,r3⟩:=hr.rel.NH (key:=(W.L,u)) hkey hg e z;have hst:(bT W.κ W.low f os).set (W.L,u) (some (.vec 0 e z []))=bT W.κ W.low (dw f u (.vec e z [])) os:=fO (p:=.own u) (o':=.vec e z []) W.hl hL hlen rfl;have r1:Rel W.X.E bK ((bT W.κ W.low f os).set (W.L,u) (some (dD.vec 0 e z []))) w:=r1;rw[hst] at r1;have hlen2:(bT W.κ W.low (dw f u (.vec e z [])) os).length=(bT W.κ W.low f os).length:=by simp[bT]
 refine hk hlen B bK a w hB (by show(bT _ _ _ _).length=_; rw[hlen2]; exact hl') (hex.trans (r2.weaken fun _ _=>rfl)) ⟨r1,hr.size,fun v=>?_,hr.defers⟩;refine BN he v _ _ _ ?_;have hv:=(hr.tmps v).mono r2 (eU.ext.all_true _);unfold qM;cases hb:Nat.beq v t with
 | false=>exact hv
 | true=>
  have:=Nat.eq_of_beq_eq_true hb;subst this;have hv:Rd bK w ((gY l v).D W.κ) (a.tmps.getD v undef):=hv;rw[ht] at hv;exact Rd.aao (e:=e) hv r3
end
end Go.Mx
namespace Go.Mx
end Go.Mx
namespace Go.Ev
open Go.Mx (KD Jg kH)
end Go.Ev
namespace Go.Ev
open Go.Mx (KD KZ)
theorem Kd.ap0 {α:Type} {k:α→List KD} {ks:List α→List (List KD)} {sz:Nat} (h:Kd k ks sz) {be:Nat} {ys zs:List α} (hx:jm be [] ys=some zs):KZ be 0 (ks ys)∧ks ys=ks zs:=by
 unfold jm at hx;split at hx
 ·rename_i hb;cases hx;refine⟨⟨fun cs hc=>?_,by rw[h.length]; simpa using hb⟩,by simp⟩;rw[h.eq] at hc;obtain⟨x,_,rfl⟩:=List.mem_map.1 hc;exact h.one x
 ·cases hx
end Go.Ev
namespace Go.Ev
open Go.Mx (KD)
theorem cvB (t:List UInt8):gJ t=t.map fun b=>[KD.v (.int .u8 b.toNat)]:=rfl
def u8B (x:Int):Option UInt8:=if 0≤x∧x<256 then some (UInt8.ofNat x.toNat) else none
theorem TD {x:Int} {y:UInt8} (h:u8B x=some y):x=(y.toNat:Int):=by
 unfold u8B at h;split at h
 ·rename_i hb;cases h;rw[UInt8.toNat_ofNat'];omega
 ·cases h
end Go.Ev
namespace Go.Ev
theorem aa1 {α:Type} {l:List α} {n:Nat} {u:Unit} (h:VX l n=some u):l.length=n:=by
 unfold VX at h;split at h
 ·assumption
 ·cases h
end Go.Ev
namespace Go.Ev
theorem DU {α:Type} {l:List α} {i:Nat} {x:α} (h:l[i]? = some x):inB (i:Int) l.length=some ():=by
 have:=(List.getElem?_eq_some_iff.1 h).1;unfold inB;rw[if_pos ⟨by omega,by simpa using this⟩]
end Go.Ev
namespace Go.Mx
def vsN:ED→Option Nat
 | .vs _ _ n=>some n
 | _=>none
theorem WG.snV {W:Wd} {k:List KI} {l:List (Nat×ED)} {f:List (Nat×aB)} {os:List (Option aB)} {α:Type} (t:Nat) {ke:α→List KD} {ks:List α→List (List KD)} {sz:Nat} (K:Go.Ev.Kd ke ks sz) (xs:List α) (h:vsN (gY l t)=some (ks xs).length)
  (hk:xs.length≤9223372036854775807→WG W k l f os):WG W k l f os:=fun hlen B cx a w hB hl' hex hr=>by
 have hv:Rd cx w ((gY l t).D W.κ) (a.tmps.getD t undef):=hr.tmps t;cases he:gY l t with
 | vs p z n=>
  rw[he] at h hv;simp only[vsN,Option.some.injEq] at h;subst h;have hv:Rd cx w (.vs (W.κ p) z (ks xs).length) (a.tmps.getD t undef):=hv;generalize a.tmps.getD t undef=v at hv;have hb:(ks xs).length≤9223372036854775807:=by
   cases hv with
   | vs h1 h2 h3=>unfold maxLen at h2; omega
  rw[K.length] at hb;exact hk hb hlen B cx a w hB hl' hex hr
 | _=>rw[he] at h; cases h
end Go.Mx
namespace Go.Mx
set_option linter.unusedVariables false
set_option linter.unusedSimpArgs false
theorem Rel.JM {E:Setting} {cx:Cx} {st:St} {w:World} (r:Rel E cx st w) {key:Key} {cs cs':List D} (hlt:key.1<st.length) (hs:st.get key=some (.cells cs)) (hl:cs'.length=cs.length) (jD:allL (lv (key.1+1)) cs=true→allL (lv (key.1+1)) cs'=true)
  (hw:∀(j:Nat) d',cs'[j]? = some d'→∃d,cs[j]? = some d∧Wk d d'):Rel E cx (st.set key (some (.cells cs'))) w:=by
 have hg:∀k o,(st.set key (some (.cells cs'))).get k=some o→(k=key∧o=.cells cs')∨(k≠key∧st.get k=some o):=fun k o h=>by
  rw[St.bZ hlt] at h;by_cases hk:k=key
  ·rw[if_pos hk] at h; cases h; exact .inl ⟨hk,rfl⟩
  ·rw[if_neg hk] at h; exact .inr ⟨hk,h⟩
 have hrow:∀k ob n e,(st.set key (some (.cells cs'))).get k=some ob∧ob.row=some (n,e)→st.get k=some ob∧ob.row=some (n,e):=fun k ob n e h=>by
  rcases hg k ob h.1 with ⟨_,rfl⟩ | ⟨_,g⟩
  ·cases h.2
  ·exact⟨g,h.2⟩
 have bD:∀k b o,Mx.foot cx (st.set key (some (.cells cs'))) k b o→Mx.foot cx st k b o:=fun k b o h=>by
  rcases h with ⟨ds,o0,h1,h2⟩ | ⟨ob,n,e,c,z,h1,h2⟩
  ·rcases hg _ _ h1 with ⟨rfl,h⟩ | ⟨_,g⟩
   ·cases h; rw[hl] at h2; exact .inl ⟨cs,o0,hs,h2⟩
   ·exact .inl ⟨ds,o0,g,h2⟩
  ·exact .inr ⟨ob,n,e,c,z,hrow _ _ _ _ h1,h2⟩
 have hback:∀k,(∃ds,st.get k=some (.cells ds))→∃ds,(st.set key (some (.cells cs'))).get k=some (.cells ds):=fun k ⟨ds,h⟩=>by
  rw[St.bZ hlt];by_cases hk:k=key
  ·rw[if_pos hk]; exact⟨_,rfl⟩
  ·rw[if_neg hk]; exact⟨_,h⟩
 exact {
  cells:=fun k ds h=>by
   rcases hg _ _ h with ⟨rfl,h'⟩ | ⟨_,g⟩
   ·cases h';obtain⟨h1,b,o,h2,h3⟩:=r.cells k cs hs;refine⟨jD h1,b,o,h2,fun j d hj=>?_⟩;obtain⟨d0,hd0,hwk⟩:=hw j d hj;obtain⟨x,hx,hr⟩:=h3 j d0 hd0;exact⟨x,hx,hwk cx w x hr⟩
   ·exact r.cells k ds g
  vec:=fun k n e z ds h=>by
   rcases hg _ _ h with ⟨rfl,h'⟩ | ⟨_,g⟩
   ·cases h'
   ·exact r.vec k n e z ds g
  tok:=fun k ob n e h=>r.tok k ob n e (hrow _ _ _ _ h)
  foot:=fun k b o h=>r.foot k b o (bD k b o h)
  sep:=fun k k' b o h h'=>r.sep k k' b o (bD _ _ _ h) (bD _ _ _ h')
  qI:=fun k l h=>hback k (r.qI k l h)
  mD:=fun k l h=>by
   obtain⟨ob,n,e,h1,h2⟩:=r.mD k l h;refine⟨ob,n,e,?_,h2⟩;rw[St.bZ hlt,if_neg,h1];rintro rfl;rw[hs] at h1; cases h1; cases h2
  mlt:=r.mlt
  nz:=fun k b o h=>r.nz k b o (bD k b o h)
  zm:=r.zm
  tK:=r.tK
  apart:=r.apart
  rows:=r.rows
  glob:=r.glob }
theorem AW.JM {E:Setting} {U:tN} {F:D→St→Prop} {k:List KI} {ρ:Env} {st:St} {key:Key} {cs cs':List D} (hlt:key.1<st.length) (hs:st.get key=some (.cells cs)) (hl:cs'.length=cs.length) (jD:allL (lv (key.1+1)) cs=true→allL (lv (key.1+1)) cs'=true)
  (hw:∀(j:Nat) d',cs'[j]? = some d'→∃d,cs[j]? = some d∧Wk d d') (hk:AW E U k F ρ (st.set key (some (.cells cs')))):AW E U k F ρ st:=
 fun B cx a w hB hlen hex hr=>hk B cx a w hB (by rw[St.length_set]; exact hlen) hex ⟨hr.rel.JM hlt hs hl jD hw,hr.size,hr.tmps,hr.defers⟩
def Qc:ED→ED
 | .d (.sl z true xs)=>.d (.sl z false xs)
 | .gs p z xs=>.d (.sl z false xs)
 | e=>e
def FZ (js:List Nat):Nat→List ED→List ED
 | _,[]=>[]
 | i,e::r=>(match inL i js with
  | true=>Qc e
  | false=>e)::FZ js (i+1) r
def fgF (f:List (Nat×aB)) (u:Nat) (js:List Nat):List (Nat×aB):=
 match gu f u with
 | some (.cells cs)=>dw f u (.cells (FZ js 0 cs))
 | _=>f
theorem YE (κ:Pl→Key) (e:ED):Wk (e.D κ) ((Qc e).D κ):=by
 unfold Qc;split
 ·exact .Um rfl
 ·exact .Um rfl
 ·exact .refl _
theorem WI (κ:Pl→Key) (p:Key→Bool) (e:ED) (h:(e.D κ).all p=true):((Qc e).D κ).all p=true:=by
 unfold Qc;split
 ·exact KD.lK p _
 ·exact KD.lK p (.sl _ false _)
 ·exact h
theorem Qd (js:List Nat):∀(i:Nat) (l:List ED),(FZ js i l).length=l.length
 | _,[]=>rfl
 | i,e::r=>by simp only[FZ,List.length_cons,Qd js (i+1) r]
theorem Qe (κ:Pl→Key) (p:Key→Bool) (js:List Nat):∀(i:Nat) (l:List ED),allL p (ED.DL κ l)=true→allL p (ED.DL κ (FZ js i l))=true
 | _,[],h=>h
 | i,e::r,h=>by
  simp only[ED.DL,allL,Bool.and_eq_true,FZ] at h ⊢;refine⟨?_,Qe κ p js (i+1) r h.2⟩;split
  ·exact WI κ p e h.1
  ·exact h.1
theorem U3 (κ:Pl→Key) (js:List Nat):∀(i:Nat) (l:List ED) (j:Nat) (d':D),(ED.DL κ (FZ js i l))[j]? = some d'→∃d,(ED.DL κ l)[j]? = some d∧Wk d d'
 | _,[],j,d',h=>by simp[FZ,ED.DL] at h
 | i,e::r,0,d',h=>by
  simp only[FZ,ED.DL,List.getElem?_cons_zero,Option.some.injEq] at h ⊢;refine⟨_,rfl,?_⟩;subst h;split
  ·exact YE κ e
  ·exact .refl _
 | i,e::r,j+1,d',h=>by
  simp only[FZ,ED.DL,List.getElem?_cons_succ] at h ⊢;exact U3 κ js (i+1) r j d' h
theorem WG.fg {W:Wd} {k:List KI} {l:List (Nat×ED)} {f:List (Nat×aB)} {os:List (Option aB)} (u:Nat) (js:List Nat) (hk:WG W k l (fgF f u js) os):WG W k l f os:=by
 unfold fgF at hk;split at hk
 ·rename_i cs hu;intro hlen;have h:=hk hlen;have hL:(W.low (gG W.κ os)).length=W.L:=W.hL _;have hget:=(eG (f:=f) (os:=os) (L:=W.L) W.hl hL hlen (p:=.own u) hu).1;have hlt:=(eG (f:=f) (os:=os) (L:=W.L) W.hl hL hlen (p:=.own u) hu).2;have hput:=Bq (f:=f) (os:=os) (L:=W.L) W.hl hL hlen (p:=.own u) (o':=.cells (FZ js 0 cs)) hu;refine AW.JM hlt hget ?_ (Qe _ _ js 0 cs) (U3 _ js 0 cs) ?_
  ·rw[ED.fK,ED.fK,List.length_map,List.length_map,Qd]
  ·have e:dD.cells (ED.DL (aT W.L W.ks) (FZ js 0 cs))=(aB.cells (FZ js 0 cs)).A (aT W.L W.ks):=rfl;rw[e];show AW W.X.E W.U k W.F (dP W.κ (gY l)) ((bT (aT W.L W.ks) W.low f os).set (aT W.L W.ks (.own u)) _);rw[hput];exact h
 ·exact hk
def YF (T:TypeId→Option (Nat×Nat×fJ)) (rs:List ResultVar) (ρ:Nat→ED) (f:List (Nat×aB)) (os:List (Option aB)):Option (ED×List aB):=
 match JE T ρ f os rs with
 | some ds=>match wJ os.length none ds,unO os with
  | true,some outs=>match JF os.length outs with
   | true=>some (resE ds,outs)
   | false=>none
  | _,_=>none
 | none=>none
theorem WG.agG {W:Wd} {k k':List KI} {l:List (Nat×ED)} {f:List (Nat×aB)} {os:List (Option aB)} {rs:List ResultVar} {d:ED} {outs:List aB} (hf:flatK 64 k=.code .ret::k') (hr:W.fn.results.toList=rs) (he:YF W.X.T.t rs (gY l) f os=some (d,outs))
  (hK:W.F (d.D (aT 0 W.ks)) (W.low (gG (aT 0 W.ks) (outs.map some)))):WG W k l f os:=WG.flat hf fun hlen=>by
 unfold YF at he;split at he
 ·rename_i ds hds;split at he
  ·rename_i xq w3 hu;split at he
   ·rename_i hok;cases he;have hos:=EF hu;have hp:∀p:Pl,p.vW os.length none=true→W.κ p=aT 0 W.ks p:=fun p hp=>(FQ W.hl W.hL hlen hp).2;have hp2:∀p:Pl,p.vW os.length none=true→lv W.L (W.κ p)=true:=fun p hp=>(FQ W.hl W.hL hlen hp).1;have hres:=EC (T:=W.X.T) W.hl W.hL hlen hds;have hL:=W.hL (gG W.κ os);refine AW.aew (U:=W.U) (F:=W.F) (d':=(resE ds).D W.κ) (by rw[show W.U.fn.results.toList=rs from hr]; exact hres) (UR rfl fun j a b ha hb=>by rw[ha] at hb; cases hb; exact Wk.refl _) ?_ ?_
    ·rw[hL]; exact Iy hp2 _ (IB w3)
    ·have e1:(resE ds).D W.κ=(resE ds).D (aT 0 W.ks):=JC hp _ (IB w3);have e2:gG W.κ os=gG (aT 0 W.ks) (outs.map some):=by
      rw[hos] at hok hp ⊢;exact BO hp hok
     rw[e1,e2]; exact hK
   ·cases he
  ·cases he
 ·cases he
end Go.Mx
namespace Go.Ev
open Go.Mx (KD)
end Go.Ev
namespace Go.Mx
set_option linter.unusedVariables false
set_option linter.unusedSimpArgs false
def rb:Nat→Bool→List Hint→List Hint
 | 0,_,l=>l
 | n+1,b,l=>.b b::rb n b l
def qb:Nat→Nat→Bool→List (Nat×List Hint)→List (Nat×List Hint)
 | _,0,_,l=>l
 | i,n+1,b,l=>(i,[.b b])::qb (i+1) n b l
def Rp:Nat→Prop→Prop→Prop
 | 0,_,q=>q
 | n+1,p,q=>p∧Rp n p q
theorem R {p q:Prop}:∀(n:Nat),p→q→Rp n p q
 | 0,_,k=>k
 | n+1,h,k=>⟨h,R n h k⟩
theorem dt {p:Prop} [Decidable p] (h:p):decide p=true:=decide_eq_true h
theorem df {p:Prop} [Decidable p] (h:¬p):decide p=false:=decide_eq_false h
theorem B1:true=true:=rfl
theorem B0:false=false:=rfl
section
variable {W : Wd} {k k' : List KI} {l : List (Nat × ED)} {f : List (Nat × aB)} {os : List (Option aB)} {τ ω ρ σ α : Type}
theorem WG.a {id:Nat} {ops:Array Oper} (hs:List Hint) {ob:Prop} (ho:ob) (c:List (Nat×ED)) (hk:WG W k' (c++l) f os) (hf:flatK 64 k=.code (.region id ops false)::k':=by exact rfl)
  (he:yU W.X W.N (c.map Prod.fst) ops l f os hs=some (c.map Prod.snd,f,os,ob,[]):=by kernel_rfl):WG W k l f os:=WG.r hs ho c hf he hk
theorem WG.af {id:Nat} {ops:Array Oper} (hs:List Hint) {ob:Prop} (ho:ob) (c:List (Nat×ED)) (cf:List FU) (hk:WG W k' (c++l) (wQ cf f) os) (hf:flatK 64 k=.code (.region id ops false)::k':=by exact rfl)
  (he:yU W.X W.N (c.map Prod.fst) ops l f os hs=some (c.map Prod.snd,wQ cf f,os,ob,[]):=by kernel_rfl):WG W k l f os:=WG.rf hs ho c cf hf he hk
theorem WG.ao {id:Nat} {ops:Array Oper} (hs:List Hint) {ob:Prop} (ho:ob) (c:List (Nat×ED)) (co:List FU) (hk:WG W k' (c++l) f (wR co os)) (hf:flatK 64 k=.code (.region id ops false)::k':=by exact rfl)
  (he:yU W.X W.N (c.map Prod.fst) ops l f os hs=some (c.map Prod.snd,f,wR co os,ob,[]):=by kernel_rfl):WG W k l f os:=WG.ro hs ho c co hf he hk
theorem WG.aq {id:Nat} {ops:Array Oper} (hs:List Hint) (qs:List Int) {ob:Prop} (ho:ob) (c:List (Nat×ED)) (cf co:List FU) (hk:WG W k' (c++l) (wQ cf f) (wR co os)) (hf:flatK 64 k=.code (.region id ops false)::k':=by exact rfl)
  (he:yU W.X W.N (c.map Prod.fst) ops l f os hs=some (c.map Prod.snd,wQ cf f,wR co os,ob,qs.map fun x=>(x,x)):=by kernel_rfl):WG W k l f os:=WG.rq hs qs ho c cf co hf he hk
theorem WG.ad {id:Nat} {ops:Array Oper} (hm:W.X.E.P.follows .mixedOrders=true) (hq:List (Nat×List Hint)) (qs:List Int) {ob:Prop} (ho:ob) (c:List (Nat×ED)) (cf co:List FU) (hk:WG W k' (c++l) (wQ cf f) (wR co os)) (hf:flatK 64 k=.code (.region id ops true)::k':=by exact rfl)
  (he:YC W.X W.N (c.map Prod.fst) ops l f os hq=some (c.map Prod.snd,wQ cf f,wR co os,ob,qs.map fun x=>(x,x)):=by kernel_rfl):WG W k l f os:=WG.rd hm hq qs ho c cf co hf he hk
theorem WG.nl (t z:Nat) (ht:gY l t=.d (.v (.slice none 0 0))) (hk:WG W k ((t,.d (.sl z true []))::l) f os):WG W k l f os:=fun hlen=>by
 refine AW.weak (fun u=>?_) (hk hlen);by_cases hu:u=t
 ·subst hu;have e1:dP W.κ (gY l) u=(ED.d (.v (.slice none 0 0))).D W.κ:=by unfold dP; rw[ht]
  have e2:dP W.κ (gY ((u,.d (.sl z true []))::l)) u=(ED.d (.sl z true [])).D W.κ:=by unfold dP; congr 1; simp[gY,qM]
  rw[e1,e2];exact Wk.nil (b:=true)
 ·have e2:gY ((t,.d (.sl z true []))::l) u=gY l u:=by
   show qM (gY l) t _ u=_;unfold qM;cases hb:Nat.beq u t with
   | false=>rfl
   | true=>exact absurd (Nat.eq_of_beq_eq_true hb) hu
  have e3:dP W.κ (gY ((t,.d (.sl z true []))::l)) u=dP W.κ (gY l) u:=by unfold dP; rw[e2]
  rw[e3]; exact Wk.refl _
theorem WG.jP {p:Prop} [Decidable p] {x y:Option ρ} {r:ρ} (h:(if p then x else y)=some r) {c:Operand} {a b:Code}
  (h1:p→x=some r→WG W (.code a::k') l f os) (h2:¬p→y=some r→WG W (.code b::k') l f os) (hf:flatK 64 k=.code (.cond c a b)::k':=by exact rfl) (hc:eY W.X.G (gY l) c=.d (.v (.bool (decide p))):=by kernel_rfl):WG W k l f os:=WG.cP h hf hc h1 h2
theorem WG.jT {v:Bool} {x y:Option ρ} {r:ρ} (h:(if v=true then x else y)=some r) {c:Operand} {a b:Code}
  (h1:v=true→x=some r→WG W (.code a::k') l f os) (h2:¬v=true→y=some r→WG W (.code b::k') l f os) (hf:flatK 64 k=.code (.cond c a b)::k':=by exact rfl) (hc:eY W.X.G (gY l) c=.d (.v (.bool v)):=by kernel_rfl):WG W k l f os:=WG.cT h hf hc h1 h2
theorem WG.lg {l':List (Nat×ED)} {f':List (Nat×aB)} {os':List (Option aB)} (hj:WG W k' l' f' os') (gI:List Nat) (hf:flatK 64 k=k':=by exact rfl) (he:(pF gI (gY l) (l'.map Prod.fst),f,os)=(l'.map Prod.snd,f',os'):=by kernel_rfl):WG W k l f os:=WG.lf hj hf gI he
theorem WG.rt {rs:List ResultVar} {d:ED} {outs:List aB} (hK:W.F (d.D (aT 0 W.ks)) (W.low (gG (aT 0 W.ks) (outs.map some)))) (hf:flatK 64 k=.code .ret::k':=by exact rfl) (hr:W.fn.results.toList=rs:=by exact rfl) (he:Yr W.X.T.t rs (gY l) f os=some (d,outs):=by kernel_rfl):WG W k l f os:=WG.ret hf hr he hK
end
theorem aC.n {X:Ctx} {g:Nat} {fn:Func} {c:Code} {N:Nat} {args:List ED} {ins:List (Option aB)} {d:ED} {outs:List aB} (hf:X.E.P.funcs[g]? = some fn)
  (h:∀(L:Nat) (ks:List Key) (low:List (Option dD)→St) (K:D→St→Prop) (hl:Low ks low) (hL:∀os,(low os).length=L),ks.length=ins.length→K (d.D (aT 0 ks)) (low (gG (aT 0 ks) (outs.map some)))→WG ⟨X,fn,L,N,ks,low,K,hl,hL⟩ [.code c] (lA 0 args) [] ins)
  (hb : fn.body = some c := by exact rfl) (hn : (fn.name == "runtime.NumGoroutine") = false := by exact rfl) (hN : fn.ntmps = N := by exact rfl) (hle : (Nat.ble args.length N && wJ ins.length none args && JF ins.length (ins.filterMap id)) = true := by kernel_rfl) : aC X.E g args ins d outs := aC.m hf hb hn hN hle h
end Go.Mx
namespace Go.Ev
open Go.Mx
end Go.Ev
namespace Go.Mx
set_option linter.unusedVariables false
set_option linter.unusedSimpArgs false
end Go.Mx
namespace Go.Ev
open Go.Mx (KD ED aB dV bI bn iterM)
set_option linter.unusedVariables false
set_option linter.unusedSimpArgs false
def Ex {α:Type} (f:Nat→Option α) (Q:α→Prop):Prop:=∃v,gB f v∧Q v
section
variable {α β σ ω τ : Type}
theorem Ex.yV {f:Nat→Option α} {v:α} (h:Ex f (· = v)):gB f v:=by obtain⟨w,h1,rfl⟩:=h; exact h1
theorem gB.ex {f:Nat→Option α} {v:α} (h:gB f v):Ex f (· = v):=⟨v,h,rfl⟩
theorem Ex.mono {f:Nat→Option α} {Q R:α→Prop} (h:Ex f Q) (hr:∀v,Q v→R v):Ex f R:=by obtain⟨w,h1,h2⟩:=h; exact⟨w,h1,hr w h2⟩
theorem Ex.pure {v:α} {Q:α→Prop} (h:Q v):Ex (fun _=>some v) Q:=⟨v,.pure v,h⟩
theorem Ex.succ {f:Nat→Option α} {Q:α→Prop} (h:Ex (fun n=>f (n+1)) Q):Ex f Q:=by obtain⟨w,h1,h2⟩:=h; exact⟨w,.succ h1,h2⟩
theorem Ex.bind {f:Nat→Option α} {g:Nat→α→Option β} {P:α→Prop} {Q:β→Prop} (hf:Ex f P) (hg:∀a,P a→Ex (fun n=>g n a) Q):Ex (fun n=>(f n).bind (g n)) Q:=by
 obtain⟨a,h1,h2⟩:=hf;obtain⟨b,k1,k2⟩:=hg a h2;exact⟨b,h1.bind k1,k2⟩
theorem Ex.bp {x:Option α} {g:Nat→α→Option β} {Q:β→Prop} (a:α) (h:x=some a) (hg:Ex (fun n=>g n a) Q):Ex (fun n=>x.bind (g n)) Q:=by
 obtain⟨b,k1,k2⟩:=hg;exact⟨b,gB.bind (f:=fun _=>x) (.const h) k1,k2⟩
theorem Ex.bv {f:Nat→Option α} {g:Nat→α→Option β} {a:α} {Q:β→Prop} (h:gB f a) (hg:Ex (fun n=>g n a) Q):Ex (fun n=>(f n).bind (g n)) Q:=by
 obtain⟨b,k1,k2⟩:=hg;exact⟨b,h.bind k1,k2⟩
theorem Ex.pos {c:Prop} [Decidable c] {f g:Nat→Option α} {Q:α→Prop} (hc:c) (h:Ex f Q):Ex (fun n=>if c then f n else g n) Q:=by obtain⟨v,h1,h2⟩:=h; exact⟨v,.pos hc h1,h2⟩
theorem Ex.neg {c:Prop} [Decidable c] {f g:Nat→Option α} {Q:α→Prop} (hc:¬c) (h:Ex g Q):Ex (fun n=>if c then f n else g n) Q:=by obtain⟨v,h1,h2⟩:=h; exact⟨v,.neg hc h1,h2⟩
theorem Ex.ite {c:Prop} [Decidable c] {f g:Nat→Option α} {Q:α→Prop} (h1:c→Ex f Q) (h2:¬c→Ex g Q):Ex (fun n=>if c then f n else g n) Q:=by
 by_cases hc:c
 ·exact .pos hc (h1 hc)
 ·exact .neg hc (h2 hc)
theorem Ex.bn {f:Nat→Option (ω⊕τ)} {g:Nat→τ→Option ω} {P:ω⊕τ→Prop} {Q:ω→Prop} (hf:Ex f P) (hl:∀w,P (.inl w)→Q w) (hg:∀t,P (.inr t)→Ex (fun n=>g n t) Q):Ex (fun n=>Mx.bn (f n) (g n)) Q:=by
 obtain⟨a,h1,h2⟩:=hf;cases a with
 | inl w=>exact⟨w,h1.agz,hl w h2⟩
 | inr t=>obtain⟨b,k1,k2⟩:=hg t h2; exact⟨b,h1.agy k1,k2⟩
theorem Ex.iter {step:Nat→σ→Option (ω⊕σ)} {Q:ω→Prop} (μ:σ→Nat) (I:σ→Prop) (s0:σ) (h0:I s0) (hs:∀s,I s→Ex (fun n=>step n s) (fun r=>(∀w,r=.inl w→Q w)∧∀s',r=.inr s'→I s'∧μ s'<μ s)):Ex (fun n=>iterM n (step n) s0) Q:=by
 obtain⟨w,h1,h2⟩:=UZ (step:=step) μ I Q (fun s hi=>by
  obtain⟨r,k1,k2,k3⟩:=hs s hi;cases r with
  | inl w=>exact .inl ⟨w,k1,k2 w rfl⟩
  | inr s'=>obtain⟨q1,q2⟩:=k3 s' rfl; exact .inr ⟨s',k1,q1,q2⟩) s0 h0
 exact⟨w,h1,h2⟩
theorem Ex.out {w:ω} {Q:ω→Prop} {I:σ→Prop} {μ:σ→Nat} {s:σ} (h:Q w):Ex (fun _=>some (Sum.inl w:ω⊕σ)) (fun r=>(∀w,r=.inl w→Q w)∧∀s',r=.inr s'→I s'∧μ s'<μ s):=
 .pure ⟨fun _ e=>by cases e; exact h,fun _ e=>by cases e⟩
theorem Ex.go {s':σ} {Q:ω→Prop} {I:σ→Prop} {μ:σ→Nat} {s:σ} (h:I s') (hm:μ s'<μ s):Ex (fun _=>some (Sum.inr s':ω⊕σ)) (fun r=>(∀w,r=.inl w→Q w)∧∀s',r=.inr s'→I s'∧μ s'<μ s):=
 .pure ⟨fun _ e=>by(cases e),fun _ e=>by cases e; exact⟨h,hm⟩⟩
theorem Ex.dV {step:Nat→σ→Nat→α→Option σ} {xs:List α} {s0:σ} {Q:σ→Prop} (I:Nat→List α→σ→Prop) (h0:I 0 xs s0) (hs:∀i x q s,I i (x::q) s→Ex (fun n=>step n s i x) (I (i+1) q)) (hq:∀s,I xs.length [] s→Q s):Ex (fun n=>Mx.dV (step n) 0 xs s0) Q:=by
 obtain⟨s',h1,h2⟩:=gB.dV (step:=step) I (fun i x q s h=>by obtain⟨v,k1,k2⟩:=hs i x q s h; exact⟨v,k1,k2⟩) xs 0 s0 h0;exact⟨s',h1,hq s' (by simpa using h2)⟩
theorem Ex.bI {step:Nat→σ→Nat→α→Option (ω⊕σ)} {xs:List α} {s0:σ} {Q:ω⊕σ→Prop} (I:Nat→List α→σ→Prop) (h0:I 0 xs s0) (hs:∀i x q s,I i (x::q) s→Ex (fun n=>step n s i x) (fun r=>(∀w,r=.inl w→Q (.inl w))∧∀s',r=.inr s'→I (i+1) q s')) (hq:∀s,I xs.length [] s→Q (.inr s)):Ex (fun n=>Mx.bI (step n) 0 xs s0) Q:=by
 rcases gB.bI (step:=step) I (fun w=>Q (.inl w)) (fun i x q s h=>by
  obtain⟨r,k1,k2,k3⟩:=hs i x q s h;cases r with
  | inl w=>exact .inl ⟨w,k1,k2 w rfl⟩
  | inr s'=>exact .inr ⟨s',k1,k3 s' rfl⟩) xs 0 s0 h0 with ⟨w,h1,h2⟩ | ⟨s',h1,h2⟩
 ·exact⟨_,h1,h2⟩
 ·exact⟨_,h1,hq s' (by simpa using h2)⟩
theorem Ex.fo {w:ω} {P:ω→Prop} {I:σ→Prop} (h:P w):Ex (fun _=>some (Sum.inl w:ω⊕σ)) (fun r=>(∀w,r=.inl w→P w)∧∀s',r=.inr s'→I s'):=
 .pure ⟨fun _ e=>by cases e; exact h,fun _ e=>by cases e⟩
theorem Ex.fg {s':σ} {P:ω→Prop} {I:σ→Prop} (h:I s'):Ex (fun _=>some (Sum.inr s':ω⊕σ)) (fun r=>(∀w,r=.inl w→P w)∧∀s',r=.inr s'→I s'):=
 .pure ⟨fun _ e=>by(cases e),fun _ e=>by cases e; exact h⟩
end
theorem EI {a b:List UInt8} (h:a.length+b.length≤9223372036854775807):N8 a b=some (a++b):=if_pos h
theorem cZ {α:Type} {be:Nat} {l ys:List α} (h:(l.length+ys.length)*be≤140737488355328):jm be l ys=some (l++ys):=if_pos h
theorem dW {α:Type} {l:List α} {i:Nat} {x:α} (h:l[i]? = some x):gW l (i:Int)=some x:=by unfold gW; rw[if_pos (by omega),Int.toNat_natCast]; exact h
theorem F5 {i:Int} {n:Nat} (h0:0≤i) (h:i.toNat<n):inB i n=some ():=if_pos ⟨h0,h⟩
theorem aa2 {α:Type} {l:List α} {n:Nat} (h:l.length=n):VX l n=some ():=if_pos h
theorem acU {x:Int} (h0:0≤x) (h:x<256):u8B x=some (UInt8.ofNat x.toNat):=if_pos ⟨h0,h⟩
theorem YG {a b:Int} (hb:b≠0):yS a b=some (a.tmod b):=if_pos hb
theorem YH {a b:Int} (hb:b≠0):Hr a b=some (aX (a.tdiv b)):=if_pos hb
theorem jC {α:Type} {xs q:List α} {x:α} {i:Nat} (h:xs.drop i=x::q):xs[i]? = some x∧xs.drop (i+1)=q∧i<xs.length∧x∈xs:=by
 have hi:i<xs.length:=by
  rcases Nat.lt_or_ge i xs.length with h' | h'
  ·exact h'
  ·rw[List.drop_eq_nil_of_le h'] at h; cases h
 rw[List.drop_eq_getElem_cons hi] at h;obtain⟨rfl,rfl⟩:=List.cons.inj h;exact⟨List.getElem?_eq_getElem hi,rfl,hi,List.getElem_mem hi⟩
end Go.Ev
namespace Go.Mx
set_option linter.unusedVariables false
theorem aC.YI {E : Setting} {g : Nat} {fn : Func} {c : Code} {args : List ED} {d : ED} {vs : List Value} {v : Value} (hf : E.P.funcs[g]? = some fn) (hb : fn.body = some c) (hn : (fn.name == "runtime.NumGoroutine") = false)
  (hd:∀κ,d.D κ=.v v) (ha:∀κ,ED.DL κ args=vs.map D.v) (h:∀w,Calls E.P g vs.toArray w fun e w'=>e=.returned v∧w'=w):aC E g args [] d []:=by
 refine⟨⟨fn,c,hf,hb,hn⟩,fun ks low K hl hk hK=>?_⟩;rw[ha];rw[hd] at hK;intro cx w xs hr hx;have:xs=vs:=by
  obtain⟨h1,h2⟩:=hx;rw[List.length_map] at h1;apply List.ext_getElem?;intro i;rcases Nat.lt_or_ge i xs.length with hi | hi
  ·have hi':i<vs.length:=by omega
   have:=h2 i (.v vs[i]) xs[i] (by simp[hi']) (by simp[hi]);generalize hy:xs[i]=y at this;cases this;simp[hi,hi',hy]
  ·rw[List.getElem?_eq_none hi,List.getElem?_eq_none (by omega)]
 subst this;refine(h w).mono ?_;rintro e w' ⟨rfl,rfl⟩;exact⟨.v v,_,cx,v,rfl,hK,rfl,hr,.v v,Ext.refl _ _ _⟩
structure xG (w w':World) (g:Nat) (zs:List Int):Prop where
 os:w'.os=w.os
 tape:w'.tape=w.tape
 output:w'.output=w.output
 size:w.heap.size≤w'.heap.size
 other:∀b,b<w.heap.size→b≠g→w'.heap[b]? = w.heap[b]?
 row:∀cur e,w.heap[g]? = some (.cells cur e (0,0))→∃cur',w'.heap[g]? = some (.cells cur' e (0,0))∧cur'.size=cur.size∧∀(i:Nat) x,zs[i]? = some x→i<cur.size→cur'[i]? = some (.int .i64 x)
theorem xG.YJ (w:World) (q g:Nat) (zs:List Int) (os:Array Obj) (hg:g<w.heap.size):xG w (Go.Sort.grow (Go.Sort.putRow (Value.int .i64) (Go.Sort.ahead w q) g 0 zs.toArray) os) g zs where
 os:=rfl
 tape:=rfl
 output:=rfl
 size:=by simp[Go.Sort.grow,Go.Sort.putRow,Go.Sort.mapBlock,Go.Sort.ahead]
 other b hb hne:=by
  rw[Go.Sort.heap_grow_old _ _ (by simpa [Go.Sort.putRow,Go.Sort.mapBlock,Go.Sort.ahead] using hb)];simp[Go.Sort.putRow,Go.Sort.mapBlock,Go.Sort.ahead,Array.getElem?_modify,Ne.symm hne]
 row cur e hc:=by
  rw[Go.Sort.heap_grow_old _ _ (by simpa [Go.Sort.putRow,Go.Sort.mapBlock,Go.Sort.ahead] using hg)];refine⟨Go.Sort.putCells (Value.int .i64) 0 zs.toArray cur,by simp[Go.Sort.putRow,Go.Sort.mapBlock,Go.Sort.ahead,Array.getElem?_modify,hc,Go.Sort.onCells],by simp[Go.Sort.putCells],fun i x hx hi=>?_⟩;have hl:i<zs.length:=(List.getElem?_eq_some_iff.1 hx).1;have hx':zs[i]=x:=(List.getElem?_eq_some_iff.1 hx).2;simp[Go.Sort.putCells,hi,hl,hx']
theorem xG.aa3 (w:World) (q g:Nat) (zs:List Int) (hg:g<w.heap.size):xG w (Go.Sort.putRow (Value.int .i64) (Go.Sort.ahead w q) g 0 zs.toArray) g zs:=by
 have:=xG.YJ w q g zs #[] hg
 rwa [Go.Sort.grow_empty] at this
def mg (zs:List Int):List D:=zs.map fun x=>.v (.int .i64 x)
theorem TF (zs:List Int):(KD.DLL (Go.Ev.aj zs)).flatten=mg zs:=by
 rw[KD.gq]
 induction zs with
 | nil=>rfl
 | cons x r ih=>simp only[Go.Ev.aj,List.map_cons,List.flatten_cons,mg] at ih ⊢; rw[ih]; rfl
theorem F6 (zs:List Int):(Go.Ev.aj zs).length=zs.length:=by simp[Go.Ev.aj]
theorem YK {p:Key→Bool} (zs:List Int):allL p (mg zs)=true:=by
 induction zs with
 | nil=>rfl
 | cons x r ih=>simp only[mg,List.map_cons,allL,D.all,Bool.true_and]; exact ih
theorem pJ {w w':World} {b o:Nat} (h:w'.heap[b]? = w.heap[b]?):w'.cell? ⟨b,o,none⟩=w.cell? ⟨b,o,none⟩:=by simp only[World.cell?,h]
theorem pK {w w':World} {b o:Nat} (h:w'.heap[b]? = w.heap[b]?):w'.frozen? ⟨b,o,none⟩=w.frozen? ⟨b,o,none⟩:=by simp only[World.frozen?,h]
theorem IG {E:Setting} {cx:Cx} {st:St} {w:World} (r:Rel E cx st w) {k:Key} {b o:Nat} (h:foot cx st k b o):b<w.heap.size:=by
 obtain⟨⟨x,hx⟩,_⟩:=r.foot k b o h;exact cell_lt hx
theorem Rel.EJ {E:Setting} {cx:Cx} {st:St} {w:World} (r:Rel E cx st w) {key:Key} {n:Nat} {e:TypeId} {zs:List Int} (hs:st.get key=some (.vec n e 1 (mg zs))) {g c:Nat} {z:Nat} (htk:cx.tk key=some (n,e,some (g,c,z))) :
  n=zs.length∧z=1∧g<w.heap.size∧n≤c∧c≤maxLen∧(∃cur,w.heap[g]? = some (.cells cur e (0,0))∧cur.size=c)∧(∀o,o<c→Mx.foot cx st key g o)∧∀(j:Nat) x,zs[j]? = some x→w.cell? ⟨g,j,none⟩=some (.int .i64 x):=by
 obtain⟨v1,v2,v3,v4⟩:=r.vec key n e 1 _ hs;obtain⟨rfl,v5⟩:=v4 g c z htk;obtain⟨tl,t1,t2⟩:=r.tok key _ n e ⟨hs,rfl⟩;rw[htk] at t1; cases t1;obtain⟨t3,t4,cur,t5,t6⟩:=t2;have hn:n=zs.length:=by simpa [mg] using v2.symm
 refine⟨hn,rfl,(Array.getElem?_eq_some_iff.1 t5).1,t3,t4,⟨cur,t5,by rw[t6,Nat.mul_one]⟩,fun o ho=>.inr ⟨_,n,e,c,1,⟨hs,rfl⟩,htk,Nat.zero_le _,by omega⟩,fun j x hj=>?_⟩;obtain⟨y,hy,hr⟩:=v5 j (.v (.int .i64 x)) (by simp[mg,hj]);cases hr;exact hy
theorem Rel.onRow {E:Setting} {cx:Cx} {st:St} {w w':World} (r:Rel E cx st w) {key:Key} (hlt:key.1<st.length) {n:Nat} {e:TypeId} {zs ys:List Int} (hs:st.get key=some (.vec n e 1 (mg zs))) {g c:Nat} {z:Nat} (htk:cx.tk key=some (n,e,some (g,c,z)))
  (hl:ys.length=n) (ho:xG w w' g ys) :
  ∃bK,Rel E bK (st.set key (some (.vec n e 1 (mg ys)))) w'∧Ext (fun _=>true) cx w bK w':=by
 obtain⟨rfl,rfl,hg,hnc,hcm,⟨cur,hcur,hsz⟩,bD,hcell⟩:=r.EJ hs htk;obtain⟨cur',zC,hsz',hin⟩:=ho.row cur e hcur;have hne:∀k b o,k≠key→Mx.foot cx st k b o→b≠g:=fun k b o hk hf he=>by
  subst he;rcases hf with ⟨cs,o0,g1,g2,_⟩ | ⟨_,n0,e0,c0,z0,g1,g2,_⟩
  ·exact r.apart _ _ _ _ _ _ _ _ _ g2 htk rfl
  ·exact hk (r.rows _ _ _ _ _ _ _ _ _ _ _ g2 htk)
 obtain⟨h1,h2⟩:=r.rE (key:=key) hlt (fun cs h=>by rw[hs] at h; cases h) (n:=zs.length) (e:=e) (tl:=some (g,c,1)) (o':=.vec zs.length e 1 (mg ys)) rfl (w':=w') (M':=cx.M)
  (fun n0 l0 h=>by rw[htk] at h; cases h; exact⟨Nat.le_refl _,fun _=>rfl⟩)
  ho.os ho.tape ho.output ho.size
  (fun b hb hm=>by
   by_cases hbg:b=g
   ·subst hbg;rcases Nat.eq_zero_or_pos c with h0 | h0
    ·obtain⟨q1,q2⟩:=Array.getElem?_eq_some_iff.1 hcur;have hc0:cur=#[]:=Array.eq_empty_of_size_eq_zero (by omega);have hc0':cur'=#[]:=Array.eq_empty_of_size_eq_zero (by omega);rw[zC,hcur,hc0,hc0']
    ·exact absurd (r.foot _ _ _ (bD 0 h0)).2.2 (hm 0)
   ·exact ho.other b hb hbg)
  (fun b o hb hm=>by
   by_cases hbg:b=g
   ·subst hbg;rcases Nat.lt_or_ge o c with h0 | h0
    ·have hf:=bD o h0;exact absurd (hm (r.foot _ _ _ hf).2.2) (r.nz _ _ _ hf)
    ·simp only[World.cell?,hcur,zC];rw[Array.getElem?_eq_none (by omega),Array.getElem?_eq_none (by omega)]
   ·exact pJ (ho.other b hb hbg))
  (fun b o h=>.inl h) (fun b o h=>Nat.lt_of_lt_of_le (r.mlt b o h) ho.size) (fun b o h=>r.zm b o h)
  (fun b o hb=>by
   by_cases hbg:b=g
   ·subst hbg; simp only[World.frozen?,hcur,zC]
   ·exact pK (ho.other b hb hbg))
  (fun g' c' z0 ht _=>by cases ht; exact⟨_,_,_,_,_,htk⟩)
  (fun k b o hk hf=>⟨pJ (ho.other b (IG r hf) (hne k b o hk hf)),pK (ho.other b (IG r hf) (hne k b o hk hf)),(r.foot k b o hf).2.2⟩)
  (fun k n' e' g' c' z0 hk h=>by
   obtain⟨ob,n1,e1,q1,q2⟩:=r.mD k _ h;obtain⟨tl,t1,t2⟩:=r.tok k ob n1 e1 ⟨q1,q2⟩;rw[h] at t1; cases t1;obtain⟨_,_,cu,t5,_⟩:=t2;exact ho.other g' (Array.getElem?_eq_some_iff.1 t5).1 (fun he=>by subst he; exact hk (r.rows _ _ _ _ _ _ _ _ _ _ _ h htk)))
  (fun g' c' z0 ht=>by
   cases ht;exact⟨hnc,hcm,⟨cur',zC,by rw[hsz',hsz,Nat.mul_one]⟩,fun o _ h2=>⟨(r.foot key _ _ (bD o (by omega))).2.2,r.nz key _ o (bD o (by omega))⟩,
    fun k n' e' c' z' hk h=>hk (r.rows _ _ _ _ _ _ _ _ _ _ _ h htk),fun k b o h=>r.apart _ _ _ _ _ _ _ _ _ h htk⟩)
  (fun z' cs h=>by
   cases h;refine⟨YK _,by simp[mg,hl],fun h=>by(cases h),fun g' c' z' h=>?_⟩;cases h;refine⟨rfl,fun j d hj=>?_⟩;simp only[mg,List.getElem?_map,Option.map_eq_some_iff] at hj;obtain⟨x,hx,rfl⟩:=hj;have hjl:j<ys.length:=(List.getElem?_eq_some_iff.1 hx).1;refine⟨.int .i64 x,?_,.v _⟩;simp only[World.cell?,zC,Option.isSome_none,Bool.false_eq_true,if_false];exact hin j x hx (by omega))
 exact⟨_,h1,h2⟩
theorem Rel.Qg {E:Setting} {cx:Cx} {st:St} {w w':World} (r:Rel E cx st w) {key:Key} (hlt:key.1<st.length) {n:Nat} {e:TypeId} {zs ys:List Int} (hs:st.get key=some (.vec n e 1 (mg zs))) {g c:Nat} {z:Nat} (htk:cx.tk key=some (n,e,some (g,c,z)))
  (hl:ys.length≤n) (ho:xG w w' g ys) :
  ∃bK,Rel E bK (st.set key (some (.tok 9223372036854775808 e))) w'∧Ext (fun _=>true) cx w bK w'∧Rd bK w' (.sl 1 .ro (ys.map fun x=>[.v (.int .i64 x)])) (.slice (some ⟨g,0,none⟩) ys.length c):=by
 obtain⟨rfl,rfl,hg,hnc,hcm,⟨cur,hcur,hsz⟩,bD,hcell⟩:=r.EJ hs htk;obtain⟨cur',zC,hsz',hin⟩:=ho.row cur e hcur;have hne:∀k b o,k≠key→Mx.foot cx st k b o→b≠g:=fun k b o hk hf he=>by
  subst he;rcases hf with ⟨cs,o0,g1,g2,_⟩ | ⟨_,n0,e0,c0,z0,g1,g2,_⟩
  ·exact r.apart _ _ _ _ _ _ _ _ _ g2 htk rfl
  ·exact hk (r.rows _ _ _ _ _ _ _ _ _ _ _ g2 htk)
 obtain⟨h1,h2⟩:=r.rE (key:=key) hlt (fun cs h=>by rw[hs] at h; cases h) (n:=9223372036854775808) (e:=e) (tl:=none) (o':=.tok 9223372036854775808 e) rfl (w':=w') (M':=fun b o=>cx.M b o∧¬(b=g∧o<c))
  (fun n0 l0 h=>by rw[htk] at h; cases h; unfold maxLen at hcm; exact⟨by omega,fun h=>by omega⟩)
  ho.os ho.tape ho.output ho.size
  (fun b hb hm=>by
   by_cases hbg:b=g
   ·subst hbg;rcases Nat.eq_zero_or_pos c with h0 | h0
    ·have hc0:cur=#[]:=Array.eq_empty_of_size_eq_zero (by omega);have hc0':cur'=#[]:=Array.eq_empty_of_size_eq_zero (by omega);rw[zC,hcur,hc0,hc0']
    ·exact absurd (r.foot _ _ _ (bD 0 h0)).2.2 (hm 0)
   ·exact ho.other b hb hbg)
  (fun b o hb hm=>by
   by_cases hbg:b=g
   ·subst hbg;rcases Nat.lt_or_ge o c with h0 | h0
    ·have hf:=bD o h0;exact absurd (hm (r.foot _ _ _ hf).2.2) (r.nz _ _ _ hf)
    ·simp only[World.cell?,hcur,zC];rw[Array.getElem?_eq_none (by omega),Array.getElem?_eq_none (by omega)]
   ·exact pJ (ho.other b hb hbg))
  (fun b o h=>.inl h.1) (fun b o h=>Nat.lt_of_lt_of_le (r.mlt b o h.1) ho.size) (fun b o h=>⟨r.zm b o h,fun hx=>by obtain⟨rfl,h0⟩:=hx; exact r.nz _ _ _ (bD o h0) h⟩)
  (fun b o hb=>by
   by_cases hbg:b=g
   ·subst hbg; simp only[World.frozen?,hcur,zC]
   ·exact pK (ho.other b hb hbg))
  (fun g' c' z0 ht _=>by cases ht)
  (fun k b o hk hf=>⟨pJ (ho.other b (IG r hf) (hne k b o hk hf)),pK (ho.other b (IG r hf) (hne k b o hk hf)),(r.foot k b o hf).2.2,fun hx=>hne k b o hk hf hx.1⟩)
  (fun k n' e' g' c' z0 hk h=>by
   obtain⟨ob,n1,e1,q1,q2⟩:=r.mD k _ h;obtain⟨tl,t1,t2⟩:=r.tok k ob n1 e1 ⟨q1,q2⟩;rw[h] at t1; cases t1;obtain⟨_,_,cu,t5,_⟩:=t2;exact ho.other g' (Array.getElem?_eq_some_iff.1 t5).1 (fun he=>by subst he; exact hk (r.rows _ _ _ _ _ _ _ _ _ _ _ h htk)))
  (fun g' c' z0 ht=>by cases ht)
  (fun z' cs h=>by cases h)
 refine⟨_,h1,h2,?_⟩;have hlen:ys.length=(ys.map fun x=>[D.v (.int .i64 x)]).length:=by simp
 rw[hlen];refine .sl (g,0) (fun i _=>.int .i64 (ys.getD i 0)) (by rw[← hlen]; omega) hcm (fun i cs hi=>?_) (fun _=>rfl) (fun i j cs d hi hj=>?_) (fun i j cs d hi hj=>?_) trivial
 ·simp only[List.getElem?_map,Option.map_eq_some_iff] at hi;obtain⟨x,_,rfl⟩:=hi; rfl
 ·simp only[List.getElem?_map,Option.map_eq_some_iff] at hi;obtain⟨x,hx,rfl⟩:=hi;have hil:i<ys.length:=(List.getElem?_eq_some_iff.1 hx).1;have hj0:j=0:=by have:=(List.getElem?_eq_some_iff.1 hj).1; simpa using this
  subst hj0;have hgd:ys.getD i 0=x:=by simp[List.getD,hx]
  refine⟨?_,fun hM=>hM.2 ⟨rfl,by simp only; omega⟩⟩;simp only[World.cell?,zC,Option.isSome_none,Bool.false_eq_true,if_false,hgd,Nat.zero_add,Nat.mul_one,Nat.add_zero];exact hin i x hx (by omega)
 ·simp only[List.getElem?_map,Option.map_eq_some_iff] at hi;obtain⟨x,hx,rfl⟩:=hi;have hj0:j=0:=by have:=(List.getElem?_eq_some_iff.1 hj).1; simpa using this
  subst hj0;simp only[List.getElem?_cons_zero,Option.some.injEq] at hj;subst hj;have hgd:ys.getD i 0=x:=by simp[List.getD,hx]
  rw[hgd];exact .v _
theorem WJ (ys:List Int):KD.DLL (Go.Ev.aj ys)=ys.map fun x=>[D.v (.int .i64 x)]:=by
 rw[KD.gq]; simp only[Go.Ev.aj,List.map_map]; rfl
theorem Qh {κ:Pl→Key} {e:TypeId} (zs:List Int):aB.A κ (.vec e 1 (Go.Ev.aj zs))=.vec zs.length e 1 (mg zs):=by
 simp only[aB.A,TF,F6]
theorem aC.row {E : Setting} {g : Nat} {fn : Func} {c : Code} {e : TypeId} {zs ys : List Int} (hf : E.P.funcs[g]? = some fn) (hb : fn.body = some c) (hn : (fn.name == "runtime.NumGoroutine") = false) (hl : ys.length = zs.length)
  (h0:zs=[]→∀p cap w,Calls E.P g #[.slice p 0 cap] w fun e w'=>e=.returned (.tuple #[])∧w'=w)
  (h1:∀b cap w,zs.length≤cap→Go.Sort.Holds (Value.int .i64) w b 0 zs.toArray→b<w.heap.size→Calls E.P g #[.slice (some ⟨b,0,none⟩) zs.length cap] w fun e w'=>e=.returned (.tuple #[])∧xG w w' b ys) :
  aC E g [.vs (.low 0) 1 (Go.Ev.aj zs).length] [some (.vec e 1 (Go.Ev.aj zs))] (.dU []) [.vec e 1 (Go.Ev.aj ys)]:=by
 refine⟨⟨fn,c,hf,hb,hn⟩,fun ks low K hlow hk hK=>?_⟩;intro cx w vs hr hd;obtain⟨key,hkey⟩:∃key,ks[0]? = some key:=⟨ks[0]'(by rw[hk]; exact Nat.zero_lt_one),List.getElem?_eq_getElem _⟩
 have hκ:aT 0 ks (.low 0)=key:=je hkey;simp only[gG,List.map_cons,List.map_nil,Option.map_some,Qh] at hr hK;have hget:=hlow.get [some (dD.vec zs.length e 1 (mg zs))] (by rw[hk]; rfl) 0 key hkey;have hset:=hlow.set [some (dD.vec zs.length e 1 (mg zs))] (by rw[hk]; rfl) 0 key (some (.vec ys.length e 1 (mg ys))) hkey;simp only[List.getElem?_cons_zero,Option.getD_some,List.set_cons_zero] at hget hset;have hlt:=hlow.lt [some (dD.vec zs.length e 1 (mg zs))] 0 key hkey;obtain⟨hd1,hd2⟩:=hd;simp only[ED.DL,ED.D,List.length_cons,List.length_nil,F6,hκ] at hd1 hd2;obtain⟨v,rfl⟩:∃v,vs=[v]:=List.length_eq_one_iff.1 hd1.symm;have hv:=hd2 0 _ v rfl rfl;obtain⟨a,cap,tl,rfl,p1,p2,p3,p4⟩:=hr.Jb hget hv;rcases List.eq_nil_or_concat zs with hz | ⟨q,x,hz⟩
 ·subst hz;have hy:ys=[]:=List.eq_nil_of_length_eq_zero hl;subst hy;refine(h0 rfl a cap w).mono ?_;rintro en w' ⟨rfl,rfl⟩;exact⟨.dU [],_,cx,.tuple #[],rfl,hK,rfl,hr,.dU (vs:=[]) rfl (by simp),Ext.refl _ _ _⟩
 ·have hne:0<zs.length:=by rw[hz]; simp
  cases tl with
  | none=>obtain⟨_,h⟩:=p4; omega
  | some l=>
   obtain⟨b,cc,z⟩:=l;obtain⟨rfl,rfl,rfl⟩:=p4;obtain⟨_,_,hg,_,_,_,bD,hcell⟩:=hr.EJ hget p3;refine(h1 b cc w p1 (fun j hj=>?_) hg).mono ?_
   ·have hj':j<zs.length:=by simpa using hj
    refine⟨?_,by rw[Nat.zero_add]; exact(hr.foot _ _ _ (bD j (by omega))).2.1⟩;rw[Nat.zero_add,hcell j zs[j] (List.getElem?_eq_getElem hj')];simp[hj']
   ·rintro en w' ⟨rfl,ho⟩;obtain⟨bK,r1,r2⟩:=hr.onRow hlt hget p3 hl ho;rw[hl] at hset hK;rw[hset] at r1;exact⟨.dU [],_,bK,.tuple #[],rfl,hK,hlow.len _ _,r1,.dU (vs:=[]) rfl (by simp),r2⟩
theorem aC.acV {E : Setting} {g : Nat} {fn : Func} {c : Code} {e : TypeId} {zs ys : List Int} (hf : E.P.funcs[g]? = some fn) (hb : fn.body = some c) (hn : (fn.name == "runtime.NumGoroutine") = false) (hl : ys.length ≤ zs.length)
  (h0:zs=[]→∀p cap w,Calls E.P g #[.slice p 0 cap] w fun e w'=>e=.returned (.slice p 0 cap)∧w'=w)
  (h1:∀b cap w,zs.length≤cap→zs.length≤maxLen→Go.Sort.Holds (Value.int .i64) w b 0 zs.toArray→b<w.heap.size→Calls E.P g #[.slice (some ⟨b,0,none⟩) zs.length cap] w fun e w'=>e=.returned (.slice (some ⟨b,0,none⟩) ys.length cap)∧xG w w' b ys) :
  aC E g [.vs (.low 0) 1 (Go.Ev.aj zs).length] [some (.vec e 1 (Go.Ev.aj zs))] (.d (.sl 1 false (Go.Ev.aj ys))) [.tok 9223372036854775808 e]:=by
 refine⟨⟨fn,c,hf,hb,hn⟩,fun ks low K hlow hk hK=>?_⟩;intro cx w vs hr hd;obtain⟨key,hkey⟩:∃key,ks[0]? = some key:=⟨ks[0]'(by rw[hk]; exact Nat.zero_lt_one),List.getElem?_eq_getElem _⟩
 have hκ:aT 0 ks (.low 0)=key:=je hkey;simp only[gG,List.map_cons,List.map_nil,Option.map_some,Qh] at hr hK;simp only[aB.A,ED.D,KD.D,XH,WJ] at hK;have hget:=hlow.get [some (dD.vec zs.length e 1 (mg zs))] (by rw[hk]; rfl) 0 key hkey;have hset:=hlow.set [some (dD.vec zs.length e 1 (mg zs))] (by rw[hk]; rfl) 0 key (some (.tok 9223372036854775808 e)) hkey;simp only[List.getElem?_cons_zero,Option.getD_some,List.set_cons_zero] at hget hset;have hlt:=hlow.lt [some (dD.vec zs.length e 1 (mg zs))] 0 key hkey;obtain⟨hd1,hd2⟩:=hd;simp only[ED.DL,ED.D,List.length_cons,List.length_nil,F6,hκ] at hd1 hd2;obtain⟨v,rfl⟩:∃v,vs=[v]:=List.length_eq_one_iff.1 hd1.symm;have hv:=hd2 0 _ v rfl rfl;obtain⟨a,cap,tl,rfl,p1,p2,p3,p4⟩:=hr.Jb hget hv;have key2:∀w' v',(∃bK,Rel E bK ((low [some (dD.vec zs.length e 1 (mg zs))]).set key (some (.tok 9223372036854775808 e))) w'∧Ext (fun _=>true) cx w bK w'∧Rd bK w' (.sl 1 .ro (ys.map fun x=>[.v (.int .i64 x)])) v') →
   ∃d st' bK v,Ending.returned v'=.returned v∧K d st'∧st'.length=(low (gG (aT 0 ks) [some (.vec e 1 (Go.Ev.aj zs))])).length∧Rel E bK st' w'∧Rd bK w' d v∧Ext (fun _=>true) cx w bK w':=by
  rintro w' v' ⟨bK,r1,r2,r3⟩;rw[hset] at r1;exact⟨_,_,bK,v',rfl,hK,hlow.len _ _,r1,r3,r2⟩
 rcases List.eq_nil_or_concat zs with hz | ⟨q,x,hz⟩
 ·subst hz;have hy:ys=[]:=List.eq_nil_of_length_eq_zero (by simpa using hl);subst hy;refine(h0 rfl a cap w).mono ?_;rintro en w' ⟨rfl,rfl⟩;refine key2 _ _ ?_;cases tl with
  | some l=>
   obtain⟨b,cc,z⟩:=l;obtain⟨rfl,rfl,rfl⟩:=p4;obtain⟨_,_,hg,_,_,_,bD,hcell⟩:=hr.EJ hget p3;exact hr.Qg hlt hget p3 (Nat.le_refl _) ⟨rfl,rfl,rfl,Nat.le_refl _,fun _ _ _=>rfl,fun cur e h=>⟨cur,h,rfl,fun i x hx=>by simp at hx⟩⟩
  | none=>
   obtain⟨r1,r2⟩:=hr.rE (key:=key) hlt (fun cs h=>by rw[hget] at h; cases h) (n:=9223372036854775808) (e:=e) (tl:=none) (o':=.tok 9223372036854775808 e) rfl (w':=w') (M':=cx.M)
    (fun n0 l0 h=>by rw[p3] at h; cases h; exact⟨by simp,fun h=>by simp at h⟩)
    rfl rfl rfl (Nat.le_refl _) (fun _ _ _=>rfl) (fun _ _ _ _=>rfl) (fun _ _ h=>.inl h) (fun b o h=>hr.mlt b o h) (fun b o h=>hr.zm b o h) (fun _ _ _=>rfl) (fun g' c' z0 ht _=>by cases ht)
    (fun k b o hk hf=>⟨rfl,rfl,(hr.foot k b o hf).2.2⟩) (fun _ _ _ _ _ _ _ _=>rfl) (fun g' c' z0 ht=>by cases ht) (fun z' cs h=>by cases h)
   refine⟨_,r1,r2,?_⟩;exact .sl (xs:=[]) (0,0) (fun _ _=>.int .i64 0) (Nat.zero_le _) p2 (fun i cs h=>by simp at h) (fun h=>absurd rfl h) (fun i j cs d h=>by simp at h) (fun i j cs d h=>by simp at h) trivial
 ·have hne:0<zs.length:=by rw[hz]; simp
  cases tl with
  | none=>obtain⟨_,h⟩:=p4; omega
  | some l=>
   obtain⟨b,cc,z⟩:=l;obtain⟨rfl,rfl,rfl⟩:=p4;obtain⟨_,_,hg,_,_,_,bD,hcell⟩:=hr.EJ hget p3;refine(h1 b cc w p1 (by omega) (fun j hj=>?_) hg).mono ?_
   ·have hj':j<zs.length:=by simpa using hj
    refine⟨?_,by rw[Nat.zero_add]; exact(hr.foot _ _ _ (bD j (by omega))).2.1⟩;rw[Nat.zero_add,hcell j zs[j] (List.getElem?_eq_getElem hj')];simp[hj']
   ·rintro en w' ⟨rfl,ho⟩;exact key2 _ _ (hr.Qg hlt hget p3 hl ho)
theorem xG.pre {w w':World} {g:Nat} {ys t:List Int} (h:xG w w' g (ys++t)):xG w w' g ys:=
 ⟨h.os,h.tape,h.output,h.size,h.other,fun cur e hc=>by
  obtain⟨cur',h1,h2,h3⟩:=h.row cur e hc;exact⟨cur',h1,h2,fun i x hx hi=>h3 i x (by rw[List.getElem?_append_left (List.getElem?_eq_some_iff.1 hx).1]; exact hx) hi⟩⟩
end Go.Mx
namespace Go.Mx
open Go.RowKit
set_option linter.unusedVariables false
theorem Rel.below {E:Setting} {cx:Cx} {st:St} {w w':World} (r:Rel E cx st w) (hb:Below w.heap.size w w'):Rel E cx st w'∧Ext (fun _=>true) cx w cx w':=by
 have hh:∀{b:Nat},b<w.heap.size→w'.heap[b]? = w.heap[b]?:=fun h=>hb.block _ h;have he:Ext (fun _=>true) cx w cx w':=
  ⟨hb.os,hb.tape,hb.output,hb.size,fun b h _=>hh h,fun b q h _=>pJ (hh h),fun _ _ _ h=>h,fun _ _ _ h=>h,fun k n l _ h=>⟨n,l,h,Nat.le_refl _,fun _=>rfl⟩,rfl,fun k n e g c z h _=>⟨k,n,e,c,z,h⟩,fun b q h=>pK (hh h)⟩
 refine⟨⟨fun k cs h=>?_,fun k n e z cs h=>r.qc h rfl (fun g c z' j x _ _ hx=>by rw[pJ (hh (cell_lt hx))]; exact hx) (fun j d x _ hr=>hr.mono he (eU.ext.all_true _)),fun k ob n e h=>?_,fun k b q h=>?_,r.sep,r.qI,r.mD,fun b q h=>Nat.lt_of_lt_of_le (r.mlt b q h) he.size,r.nz,r.zm,fun k b q h=>Nat.lt_of_lt_of_le (r.tK k b q h) he.size,r.apart,r.rows,fun g=>(r.glob g).mono he (eU.ext.all_true _)⟩,he⟩
 ·obtain⟨h1,b,q,h2,h3⟩:=r.cells k cs h;refine⟨h1,b,q,h2,fun j d hj=>?_⟩;obtain⟨x,hx,hrd⟩:=h3 j d hj;exact⟨x,by rw[pJ (hh (cell_lt hx))]; exact hx,hrd.mono he (eU.ext.all_true _)⟩
 ·obtain⟨tl,t1,t2⟩:=r.tok k ob n e h;refine⟨tl,t1,?_⟩;cases tl with
  | none=>trivial
  | some l=>
   obtain⟨g,c,z⟩:=l;obtain⟨a1,a2,cur,a3,a4⟩:=t2;exact⟨a1,a2,cur,by rw[hh (Array.getElem?_eq_some_iff.1 a3).1]; exact a3,a4⟩
 ·obtain⟨⟨x,hx⟩,h2,h3⟩:=r.foot k b q h;exact⟨⟨x,by rw[pJ (hh (cell_lt hx))]; exact hx⟩,by rw[pK (hh (cell_lt hx))]; exact h2,h3⟩
theorem aC.YL {E : Setting} {g : Nat} {fn : Func} {c : Code} {args : List ED} {d : ED} {v : Value} (hf : E.P.funcs[g]? = some fn) (hb : fn.body = some c) (hn : (fn.name == "runtime.NumGoroutine") = false)
  (hd:∀κ,d.D κ=.v v) (h:∀κ cx st w vs,Rel E cx st w→RD cx w (ED.DL κ args) vs→Calls E.P g vs.toArray w fun e w'=>e=.returned v∧Below w.heap.size w w'):aC E g args [] d []:=by
 refine⟨⟨fn,c,hf,hb,hn⟩,fun ks low K hl hk hK=>?_⟩;rw[hd] at hK;intro cx w xs hr hx;refine(h _ _ _ w xs hr hx).mono ?_;rintro e w' ⟨rfl,hb'⟩;obtain⟨r1,r2⟩:=hr.below hb';exact⟨.v v,_,cx,v,rfl,hK,rfl,r1,.v v,r2⟩
theorem YM {cx:Cx} {w:World} {vs xs:List Value} (h:RD cx w (vs.map D.v) xs):xs=vs:=by
 obtain⟨h1,h2⟩:=h;rw[List.length_map] at h1;apply List.ext_getElem?;intro i;rcases Nat.lt_or_ge i xs.length with hi | hi
 ·have hi':i<vs.length:=by omega
  have:=h2 i (.v vs[i]) xs[i] (by simp[hi']) (by simp[hi]);generalize hy:xs[i]=y at this;cases this;simp[hi,hi',hy]
 ·rw[List.getElem?_eq_none hi,List.getElem?_eq_none (by omega)]
theorem aC.U4 {E : Setting} {g : Nat} {fn : Func} {c : Code} {args : List ED} {d : ED} {vs : List Value} {v : Value} (hf : E.P.funcs[g]? = some fn) (hb : fn.body = some c) (hn : (fn.name == "runtime.NumGoroutine") = false)
  (hd:∀κ,d.D κ=.v v) (ha:∀κ,ED.DL κ args=vs.map D.v) (h:∀cx st w,Rel E cx st w→Calls E.P g vs.toArray w fun e w'=>e=.returned v∧Below w.heap.size w w'):aC E g args [] d []:=
 .YL hf hb hn hd fun κ cx st w xs hr hx=>by
  rw[ha] at hx;rw[YM hx];exact h cx st w hr
theorem Rel.TG {E:Setting} {cx:Cx} {st:St} {w:World} (r:Rel E cx st w) {g:Nat} {p:Array Value→Prop} (hg:E.G g=.gb p):∃vs e fz,w.heap[g]? = some (.cells vs e fz)∧p vs:=by
 have h:=r.glob g;rw[hg] at h;cases h with
 | gb hb hm hp=>exact⟨_,_,_,hb,hp⟩
theorem MR {P:Program} {W:World} {n:String} {g:Nat} {cs:Array Value} {p:Array Value→Prop} (hg:P.globalNamed n=some g) (h:W.var? P n=some cs) (hp:p cs):Rd Tq W (.gb p) (.pointer (some ⟨g,0,none⟩)):=by
 unfold World.var? at h;rw[hg,Option.bind_some] at h;split at h
 ·rename_i c e z hh;cases h;exact .gb hh (fun _ hm=>hm) hp
 ·cases h
end Go.Mx
