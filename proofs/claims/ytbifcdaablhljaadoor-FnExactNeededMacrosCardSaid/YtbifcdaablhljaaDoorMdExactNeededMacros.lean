/- Models of functions. No condition. -/
import Derived.Test.YtbifcdaablhljaaDoorEvTri
import Derived.Test.YtbifcdaablhljaaDoorProg
import Derived.KernelRfl
namespace Go.Ev
open Go.Proofs Go.Mx
set_option linter.unusedVariables false
set_option maxRecDepth 10000
def tT:List (Nat×(Nat×Nat×Shp)):=[(3,(1,8,.int .i64)),(9,(1,16,.str)),(25,(1,24,.slice 9)),(30,(1,24,.slice 3)),(31,(1,24,.slice 33)),(33,(5,80,.struct [(0,1),(1,1),(2,1),(3,1),(4,1)])),(39,(1,24,.slice 41)),(41,(5,80,.struct [(0,1),(1,1),(2,1),(3,1),(4,1)])),(64,(7,112,.array 7 9))]
def tZ:List (Nat×List KD):=[(9,[.s []]),(25,[.sl 1 true (ksStr [])]),(41,[.v (.int .i64 0),.s [],.v (.int .i64 0),.sl 1 true (ksInt []),.sl 5 true (ksForm [])])]
theorem tT_ok:allT (fun i x=>tShape Tryd.prog i=some x) tT:=by
 refine⟨?_,?_,?_,?_,?_,?_,?_,?_,?_,trivial⟩ <;> (show tShape _ _=_; kernel_rfl)
theorem tZ_ok:allT (fun i x=>∃zs,tZero Tryd.prog i=some zs∧ZeroL (KD.DL x) zs) tZ:=
 ⟨⟨_,(by kernel_rfl:tZero Tryd.prog 9=some [.string (mkS [])]),(.v .nil)⟩,⟨_,(by kernel_rfl:tZero Tryd.prog 25=some [.slice none 0 0]),(.sl .nil)⟩,⟨_,(by kernel_rfl:tZero Tryd.prog 41=some [.int .i64 0,.string (mkS []),.int .i64 0,.slice none 0 0,.slice none 0 0]),(.v (.v (.v (.sl (.sl .nil)))))⟩,trivial⟩
def lp0:List (List UInt8):=[[97,110,100],[111,114],[110,111,116],[119,104,101,110],[99,111,110,100],[108,101,116,42],[115,119,97,112]]
def gp0:List KD:=[.s [97,110,100],.s [111,114],.s [110,111,116],.s [119,104,101,110],.s [99,111,110,100],.s [108,101,116,42],.s [115,119,97,112]]
def globK:Nat→KD
 | 0=>.ro gp0
 | _=>.any
noncomputable def E0:Setting:=⟨Tryd.prog,fun g=>(globK g).D,fun g=>KD.keyless _ _⟩
noncomputable def X:Ctx:=⟨E0,globK,fun _=>rfl,⟨lkT tT,lkT tZ,lk_all tT_ok,lk_all tZ_ok⟩⟩
theorem mixed:X.E.P.follows .mixedOrders=true:=by kernel_rfl
def la_szIntS (n:Nat) (a0:List Int) (a1:Int):Option (Int):=
 (if(w64 (a1-(a0.length:Int)))<0 then some (-1) else some (w64 (a1-(a0.length:Int))))
theorem w_la_szIntS (n:Nat):∀(a0:List Int) (a1:Int) {r:Int},la_szIntS n a0 a1=some r→SCall X.E 45 [lE 1 (ksInt a0),iE a1] [] (iE r) []:=by
 intro a0 a1 r h0;rw[la_szIntS] at h0;refine .n Tryd.func45 (fun L ks low K hl hL hlen hK=>?_);refine .a [] T [] ?_;refine .a [.v (a0.length:Int),.pl] (A (dInt.len' a0) T) [(1,iE (w64 (a1-(a0.length:Int))))] ?_;refine .sn 0 dInt a0 (by kernel_rfl) (fun hb1=>?_);refine .a [] T [(10,dE ((w64 (a1-(a0.length:Int)))<0))] ?_;refine .jP h0 (fun hc2 h0=>?_) (fun hc2 h0=>?_)
 ·refine .a [] T [(4,iE (-1))] ?_;cases h0;exact .rt hK
 ·refine .a [] T [(4,iE (w64 (a1-(a0.length:Int))))] ?_;cases h0;exact .rt hK
mutual
def la_szForm:Nat→Form→Int→Option (Int)
 | 0,_,_=>none
 | n+1,a0,a1=>(if(w64 (a1-(a0.name.length:Int)))<0 then some (-1) else(la_szIntS n a0.scopes (w64 (a1-(a0.name.length:Int)))).bind fun k2=>(if k2<0 then some (-1) else(la_szFormS n a0.kids k2).bind fun k4=>(if k4<0 then some (-1) else some k4)))
def la_szFormS:Nat→(List Form)→Int→Option (Int)
 | 0,_,_=>none
 | n+1,a0,a1=>(if(w64 (a1-(a0.length:Int)))<0 then some (-1) else seqS (forI (fun(s4:Int) (i3:Nat) (x6:Form)=>((la_szForm n x6 s4).bind fun k11=>(if k11<0 then some (Sum.inl (-1)) else some (Sum.inr k11)):Option (Int⊕Int))) 0 a0 (w64 (a1-(a0.length:Int)))) (fun(s4:Int)=>some s4))
end
theorem g_la_szForm (n:Nat):(∀(a0:Form) (a1:Int) {r:Int},la_szForm n a0 a1=some r→SCall X.E 22 [aE (kForm a0),iE a1] [] (iE r) [])∧(∀(a0:List Form) (a1:Int) {r:Int},la_szFormS n a0 a1=some r→SCall X.E 52 [lE 5 (ksForm a0),iE a1] [] (iE r) []):=by
 induction n with
 | zero=>exact⟨(by intros; rename_i h; cases h),(by intros; rename_i h; cases h)⟩
 | succ n ih=>
  refine⟨?_,?_⟩
  ·intro a0 a1 r h0;rw[la_szForm] at h0;refine .n Tryd.func22 (fun L ks low K hl hL hlen hK=>?_);refine .af [] T [(2,pw 2)] [.o 2 (.cells ((kForm a0).map .d))] ?_;refine .a [.pl] T [(1,iE (w64 (a1-(a0.name.length:Int))))] ?_;refine .a [] T [(11,dE ((w64 (a1-(a0.name.length:Int)))<0))] ?_;refine .jP h0 (fun hc1 h0=>?_) (fun hc1 h0=>?_)
   ·refine .a [] T [(4,iE (-1))] ?_;cases h0;exact .rt hK
   ·obtain⟨k2,hk2,h0⟩:=bnd h0;refine .a [.call [] (iE k2) []] (A (w_la_szIntS n _ _ hk2) T) [(1,iE k2)] ?_;refine .a [] T [(17,dE (k2<0))] ?_;refine .jP h0 (fun hc3 h0=>?_) (fun hc3 h0=>?_)
    ·refine .a [] T [(4,iE (-1))] ?_;cases h0;exact .rt hK
    ·obtain⟨k4,hk4,h0⟩:=bnd h0;refine .a [.call [] (iE k4) []] (A (ih.2 _ _ hk4) T) [(1,iE k4)] ?_;refine .a [] T [(23,dE (k4<0))] ?_;refine .jP h0 (fun hc5 h0=>?_) (fun hc5 h0=>?_)
     ·refine .a [] T [(4,iE (-1))] ?_;cases h0;exact .rt hK
     ·refine .a [] T [(4,iE k4)] ?_;cases h0;exact .rt hK
  ·intro a0 a1 r h0;rw[la_szFormS] at h0;refine .n Tryd.func52 (fun L ks low K hl hL hlen hK=>?_);refine .a [] T [] ?_;refine .a [.v (a0.length:Int),.pl] (A (dForm.len' a0) T) [(1,iE (w64 (a1-(a0.length:Int))))] ?_;refine .sn 0 dForm a0 (by kernel_rfl) (fun hb1=>?_);refine .a [] T [(11,dE ((w64 (a1-(a0.length:Int)))<0))] ?_;refine .jP h0 (fun hc2 h0=>?_) (fun hc2 h0=>?_)
   ·refine .a [] T [(4,iE (-1))] ?_;cases h0;exact .rt hK
   ·refine .a [] T [(5,iE 0)] ?_;refine .lI h0 rfl [0] (fun i3 s4=>[(1,iE s4),(5,iE (i3:Int))]) n2 n2 [] (by kernel_rfl) (fun i3 s4 q5 hd7 hi9 h0=>?_);refine .a [.v (a0.length:Int)] (A (dForm.len' a0) T) [(15,dE ((i3:Int)<(a0.length:Int)))] ?_;refine .lc hd7 rfl (by kernel_rfl) (fun x6 q52 hc10 hx6 hd8 hd8l=>?_) (fun hc10=>?_)
    ·subst hc10;obtain⟨y1,h1,hw1,hn1⟩:=forI_cons h0;obtain⟨k11,hk11,h1⟩:=bnd h1;refine .a [.cs (kForm x6),.call [] (iE k11) []] (A (dForm.idn hx6) (A (ih.1 _ _ hk11) T)) [(1,iE k11)] ?_;refine .a [] T [(25,dE (k11<0))] ?_;refine .jP h1 (fun hc12 h1=>?_) (fun hc12 h1=>?_)
     ·refine .a [] T [(4,iE (-1))] ?_;cases h1;cases hw1 _ rfl;exact .rt hK
     ·refine .a [.v ((i3+1:Nat):Int)] (A (wn (i:=i3) (by omega)) T) [(5,iE ((i3+1:Nat):Int))] ?_;cases h1;exact .nL rfl (i3+1) _ hd8 hd8l (hn1 _ rfl) [] (by kernel_rfl)
    ·subst hc10;have h0:=forI_nil h0;refine .a [] T [(4,iE s4)] ?_;cases h0;exact .rt hK
theorem w_la_szForm (n:Nat):∀(a0:Form) (a1:Int) {r:Int},la_szForm n a0 a1=some r→SCall X.E 22 [aE (kForm a0),iE a1] [] (iE r) []:=(g_la_szForm n).1
theorem w_la_szFormS (n:Nat):∀(a0:List Form) (a1:Int) {r:Int},la_szFormS n a0 a1=some r→SCall X.E 52 [lE 5 (ksForm a0),iE a1] [] (iE r) []:=(g_la_szForm n).2
def sp_CountName:Nat→Form→(List UInt8)→Option (Int)
 | 0,_,_=>none
 | n+1,a0,a1=>Option.bind ((if a0.kind=1 then some (decide (a0.name=a1)) else some false):Option (Bool)) (fun(o1:Bool)=>Option.bind ((if o1=true then some 1 else some 0):Option (Int)) (fun(o2:Int)=>Option.bind (forL (fun(s4:Int) (i3:Nat) (x6:Form)=>(sp_CountName n x6 a1).bind fun k12=>some (w64 (s4+k12))) 0 a0.kids o2) (fun(s4:Int)=>some s4)))
theorem w_sp_CountName (n:Nat):∀(a0:Form) (a1:List UInt8) {r:Int},sp_CountName n a0 a1=some r→SCall X.E 73 [aE (kForm a0),sE a1] [] (iE r) []:=by
 induction n with
 | zero=>intro a0 a1 r h; cases h
 | succ n ih=>
  intro a0 a1 r h0;rw[sp_CountName] at h0;refine .n Tryd.func73 (fun L ks low K hl hL hlen hK=>?_);refine .af [] T [(2,pw 2)] [.o 2 (.cells ((kForm a0).map .d))] ?_;refine .a [] T [(5,iE 0)] ?_;refine .bP h0 rfl [1,2,5] (fun o1=>[(15,bE o1)]) n1 n1 (fun o1 h0=>?_) (fun y1 h1 hj1=>?_)
  ·refine .bP h0 rfl [1,2] (fun o2=>[(5,iE o2)]) n1 n1 (fun o2 h0=>?_) (fun y1 h1 hj1=>?_)
   ·refine .a [] T [(6,iE 0)] ?_;refine .lL h0 rfl [1,2] (fun i3 s4=>[(5,iE s4),(6,iE (i3:Int))]) n2 n2 [] (by kernel_rfl) (fun i3 s4 q5 hd7 hi9 h0=>?_);refine .a [.v (a0.kids.length:Int)] (A (dForm.len' a0.kids) T) [(18,lE 5 (ksForm a0.kids)),(20,dE ((i3:Int)<(a0.kids.length:Int)))] ?_;refine .sn 18 dForm a0.kids (by kernel_rfl) (fun hb10=>?_);refine .lc hd7 rfl (by kernel_rfl) (fun x6 q52 hc11 hx6 hd8 hd8l=>?_) (fun hc11=>?_)
    ·subst hc11;obtain⟨y1,h1,hn1⟩:=forL_cons h0;obtain⟨k12,hk12,h1⟩:=bnd h1;refine .a [.cs (kForm x6),.call [] (iE k12) [],.pl] (A (dForm.idn hx6) (A (ih _ _ hk12) T)) [(5,iE (w64 (s4+k12)))] ?_;refine .a [.v ((i3+1:Nat):Int)] (A (wn (i:=i3) (by omega)) T) [(6,iE ((i3+1:Nat):Int))] ?_;cases h1;exact .nL rfl (i3+1) _ hd8 hd8l hn1 [] (by kernel_rfl)
    ·subst hc11;have h0:=forL_nil h0;refine .a [] T [(4,iE s4)] ?_;cases h0;exact .rt hK
   ·refine .jT h1 (fun hc13 h1=>?_) (fun hc13 h1=>?_)
    ·refine .a [] T [(5,iE 1)] ?_;cases h1;exact .lg hj1 []
    ·cases h1;exact .lg hj1 []
  ·by_cases g14:a0.kind=1
   ·have h1:=iteP g14 h1;refine .a (rb 5 true []) (R 5 (dt g14) T) [(15,dE (a0.name=a1))] ?_;cases h1;exact .lg hj1 []
   ·have h1:=iteN g14 h1;refine .a (rb 5 false []) (R 5 (df g14) T) [(15,bE false)] ?_;cases h1;exact .lg hj1 []
def sp_l11Names (n:Nat)  : Option (List (List UInt8)):=
 some [[97,110,100],[111,114],[110,111,116],[119,104,101,110],[99,111,110,100],[108,101,116,42],[115,119,97,112]]
theorem w_sp_l11Names (n:Nat):∀{r:List (List UInt8)},sp_l11Names n  = some r→SCall X.E 40 [] [] (lE 1 (ksStr r)) []:=by
 intro r h0;rw[sp_l11Names] at h0;refine .n Tryd.func40 (fun L ks low K hl hL hlen hK=>?_);refine .a [] T [] ?_;refine .a [.sv (ksStr [[97,110,100],[111,114],[110,111,116],[119,104,101,110],[99,111,110,100],[108,101,116,42],[115,119,97,112]])] (A (dStr.lit [[97,110,100],[111,114],[110,111,116],[119,104,101,110],[99,111,110,100],[108,101,116,42],[115,119,97,112]]) T) [(0,fE 1 (ksStr [[97,110,100],[111,114],[110,111,116],[119,104,101,110],[99,111,110,100],[108,101,116,42],[115,119,97,112]]))] ?_;cases h0;exact .rt hK
def sp_l11Needed (n:Nat) (a0:Form):Option (List (List UInt8)):=
 (sp_l11Names n).bind fun k1=>Option.bind (forL (fun(s3:List (List UInt8)) (i2:Nat) (x5:List UInt8)=>Option.bind ((sp_CountName n a0 x5).bind fun k12=>(if k12>0 then(apB 16 s3 [x5]).bind fun z14=>some z14 else some s3):Option (List (List UInt8))) (fun(o11:List (List UInt8))=>some o11)) 0 k1 []) (fun(s3:List (List UInt8))=>some s3)
theorem w_sp_l11Needed (n:Nat):∀(a0:Form) {r:List (List UInt8)},sp_l11Needed n a0=some r→SCall X.E 53 [aE (kForm a0)] [] (lE 1 (ksStr r)) []:=by
 intro a0 r h0;rw[sp_l11Needed] at h0;refine .n Tryd.func53 (fun L ks low K hl hL hlen hK=>?_);refine .af [] T [(1,pw 1)] [.o 1 (.cells ((kForm a0).map .d))] ?_;refine .a [.sv (ksStr [])] (A (dStr.lit []) T) [(3,fE 1 (ksStr []))] ?_;obtain⟨k1,hk1,h0⟩:=bnd h0;refine .a [.call [] (lE 1 (ksStr k1)) []] (A (w_sp_l11Names n  hk1) T) [(4,lE 1 (ksStr k1))] ?_;refine .a [] T [(5,iE 0)] ?_;refine .ow 3 100027 9 [1,4,5] rfl rfl (by kernel_rfl) ?_;refine .lL h0 rfl [1,4] (fun i2 s3=>[(3,.gs (.own 100027) 1 (ksStr s3)),(5,iE (i2:Int))]) (fun i2 s3=>[.o 100027 (.tok (ksStr s3).length 9)]) n2 [] (by kernel_rfl) (fun i2 s3 q4 hd6 hi8 h0=>?_);refine .a [.v (k1.length:Int)] (A (dStr.len' k1) T) [(11,dE ((i2:Int)<(k1.length:Int)))] ?_;refine .sn 4 dStr k1 (by kernel_rfl) (fun hb9=>?_);refine .lc hd6 rfl (by kernel_rfl) (fun x5 q42 hc10 hx5 hd7 hd7l=>?_) (fun hc10=>?_)
 ·subst hc10;obtain⟨y1,h1,hn1⟩:=forL_cons h0;refine .bPB h1 rfl [1,4,5] (fun o11=>[(3,.gs (.own 100027) 1 (ksStr o11))]) (fun o11=>[.o 100027 (.tok (ksStr o11).length 9)]) n1 (fun o11 h1=>?_) (fun y2 h2 hj2=>?_)
  ·refine .a [.v ((i2+1:Nat):Int)] (A (wn (i:=i2) (by omega)) T) [(5,iE ((i2+1:Nat):Int))] ?_;cases h1;exact .nL rfl (i2+1) _ hd7 hd7l hn1 [] (by kernel_rfl)
  ·obtain⟨k12,hk12,h2⟩:=bnd h2;refine .ad mixed [(3,[.cs [.s x5]]),(5,[.call [] (iE k12) []])] [] (A (dStr.idn hx5) (A (w_sp_CountName n _ _ hk12) T)) [(20,dE (k12>0))] [] [] ?_;refine .jP h2 (fun hc13 h2=>?_) (fun hc13 h2=>?_)
   ·obtain⟨z14,hz14,h2⟩:=bnd h2;refine .aq [.cs [.s x5],.sv (ksStr [x5]),.sv (ksStr z14)] [((ksStr s3).length:Int)] (A (dStr.idn hx5) (A (dStr.lit [x5]) (A (dStr.ap hz14) T))) [(3,.gs (.own 100027) 1 (ksStr z14))] [.o 100027 (.tok (ksStr z14).length 9)] [] ?_;cases h2;exact .lg hj2 []
   ·cases h2;exact .lg hj2 []
 ·subst hc10;have h0:=forL_nil h0;refine .a [] T [(2,.gs (.own 100027) 1 (ksStr s3))] ?_;cases h0;exact .rt hK
def sp_NeededMacros (n:Nat) (a0:Form):Option (List (List UInt8)):=
 (sp_l11Needed n a0).bind fun k1=>some k1
theorem w_sp_NeededMacros (n:Nat):∀(a0:Form) {r:List (List UInt8)},sp_NeededMacros n a0=some r→SCall X.E 23 [aE (kForm a0)] [] (lE 1 (ksStr r)) []:=by
 intro a0 r h0;rw[sp_NeededMacros] at h0;refine .n Tryd.func23 (fun L ks low K hl hL hlen hK=>?_);refine .af [] T [(1,pw 1)] [.o 1 (.cells ((kForm a0).map .d))] ?_;obtain⟨k1,hk1,h0⟩:=bnd h0;refine .a [.call [] (lE 1 (ksStr k1)) []] (A (w_sp_l11Needed n _ hk1) T) [(2,lE 1 (ksStr k1))] ?_;cases h0;exact .rt hK
def la_eqStringS (n:Nat) (a0:List (List UInt8)) (a1:List (List UInt8)):Option (Bool):=
 (if ¬(a0.length:Int)=(a1.length:Int) then some false else seqS (forI (fun(s5:Unit) (i4:Nat) (x7:List UInt8)=>((atI a1 (i4:Int)).bind fun e12=>(if ¬x7=e12 then some (Sum.inl false) else some (Sum.inr ())):Option (Bool⊕Unit))) 0 a0 ()) (fun(s5:Unit)=>some true))
theorem w_la_eqStringS (n:Nat):∀(a0:List (List UInt8)) (a1:List (List UInt8)) {r:Bool},la_eqStringS n a0 a1=some r→SCall X.E 14 [lE 1 (ksStr a0),lE 1 (ksStr a1)] [] (bE r) []:=by
 intro a0 a1 r h0;rw[la_eqStringS] at h0;refine .n Tryd.func14 (fun L ks low K hl hL hlen hK=>?_);refine .a [] T [] ?_;refine .a [.v (a0.length:Int),.v (a1.length:Int)] (A (dStr.len' a0) (A (dStr.len' a1) T)) [(10,dE (¬(a0.length:Int)=(a1.length:Int)))] ?_;refine .sn 0 dStr a0 (by kernel_rfl) (fun hb1=>?_);refine .sn 1 dStr a1 (by kernel_rfl) (fun hb2=>?_);refine .jP h0 (fun hc3 h0=>?_) (fun hc3 h0=>?_)
 ·refine .a [] T [(4,bE false)] ?_;cases h0;exact .rt hK
 ·refine .a [] T [(5,iE 0)] ?_;refine .lI h0 rfl [0,1] (fun i4 s5=>[(5,iE (i4:Int))]) n2 n2 [] (by kernel_rfl) (fun i4 s5 q6 hd8 hi10 h0=>?_);refine .a [.v (a0.length:Int)] (A (dStr.len' a0) T) [(14,dE ((i4:Int)<(a0.length:Int)))] ?_;refine .lc hd8 rfl (by kernel_rfl) (fun x7 q62 hc11 hx7 hd9 hd9l=>?_) (fun hc11=>?_)
  ·subst hc11;obtain⟨y1,h1,hw1,hn1⟩:=forI_cons h0;obtain⟨e12,he12,h1⟩:=bnd h1;refine .ad mixed [(2,[.cs [.s x7]]),(6,[.cs [.s e12]])] [] (A (dStr.idn hx7) (A (dStr.idx he12) T)) [(25,dE (¬x7=e12))] [] [] ?_;refine .jP h1 (fun hc13 h1=>?_) (fun hc13 h1=>?_)
   ·refine .a [] T [(4,bE false)] ?_;cases h1;cases hw1 _ rfl;exact .rt hK
   ·refine .a [.v ((i4+1:Nat):Int)] (A (wn (i:=i4) (by omega)) T) [(5,iE ((i4+1:Nat):Int))] ?_;cases h1;exact .nL rfl (i4+1) _ hd9 hd9l (hn1 _ rfl) [] (by kernel_rfl)
  ·subst hc11;have h0:=forI_nil h0;refine .a [] T [(4,bE true)] ?_;cases h0;exact .rt hK
def la_eqIntS (n:Nat) (a0:List Int) (a1:List Int):Option (Bool):=
 (if ¬(a0.length:Int)=(a1.length:Int) then some false else seqS (forI (fun(s5:Unit) (i4:Nat) (x7:Int)=>((atI a1 (i4:Int)).bind fun e12=>(if ¬x7=e12 then some (Sum.inl false) else some (Sum.inr ())):Option (Bool⊕Unit))) 0 a0 ()) (fun(s5:Unit)=>some true))
theorem w_la_eqIntS (n:Nat):∀(a0:List Int) (a1:List Int) {r:Bool},la_eqIntS n a0 a1=some r→SCall X.E 30 [lE 1 (ksInt a0),lE 1 (ksInt a1)] [] (bE r) []:=by
 intro a0 a1 r h0;rw[la_eqIntS] at h0;refine .n Tryd.func30 (fun L ks low K hl hL hlen hK=>?_);refine .a [] T [] ?_;refine .a [.v (a0.length:Int),.v (a1.length:Int)] (A (dInt.len' a0) (A (dInt.len' a1) T)) [(10,dE (¬(a0.length:Int)=(a1.length:Int)))] ?_;refine .sn 0 dInt a0 (by kernel_rfl) (fun hb1=>?_);refine .sn 1 dInt a1 (by kernel_rfl) (fun hb2=>?_);refine .jP h0 (fun hc3 h0=>?_) (fun hc3 h0=>?_)
 ·refine .a [] T [(4,bE false)] ?_;cases h0;exact .rt hK
 ·refine .a [] T [(5,iE 0)] ?_;refine .lI h0 rfl [0,1] (fun i4 s5=>[(5,iE (i4:Int))]) n2 n2 [] (by kernel_rfl) (fun i4 s5 q6 hd8 hi10 h0=>?_);refine .a [.v (a0.length:Int)] (A (dInt.len' a0) T) [(14,dE ((i4:Int)<(a0.length:Int)))] ?_;refine .lc hd8 rfl (by kernel_rfl) (fun x7 q62 hc11 hx7 hd9 hd9l=>?_) (fun hc11=>?_)
  ·subst hc11;obtain⟨y1,h1,hw1,hn1⟩:=forI_cons h0;obtain⟨e12,he12,h1⟩:=bnd h1;refine .ad mixed [(2,[.cs [.v (.int .i64 x7)]]),(6,[.cs [.v (.int .i64 e12)]])] [] (A (dInt.idn hx7) (A (dInt.idx he12) T)) [(25,dE (¬x7=e12))] [] [] ?_;refine .jP h1 (fun hc13 h1=>?_) (fun hc13 h1=>?_)
   ·refine .a [] T [(4,bE false)] ?_;cases h1;cases hw1 _ rfl;exact .rt hK
   ·refine .a [.v ((i4+1:Nat):Int)] (A (wn (i:=i4) (by omega)) T) [(5,iE ((i4+1:Nat):Int))] ?_;cases h1;exact .nL rfl (i4+1) _ hd9 hd9l (hn1 _ rfl) [] (by kernel_rfl)
  ·subst hc11;have h0:=forI_nil h0;refine .a [] T [(4,bE true)] ?_;cases h0;exact .rt hK
mutual
def la_eqForm:Nat→Form→Form→Option (Bool)
 | 0,_,_=>none
 | n+1,a0,a1=>(if ¬a0.kind=a1.kind then some false else(if ¬a0.name=a1.name then some false else(if ¬a0.n=a1.n then some false else(la_eqIntS n a0.scopes a1.scopes).bind fun k4=>(if(!k4)=true then some false else(la_eqFormS n a0.kids a1.kids).bind fun k6=>(if(!k6)=true then some false else some true)))))
def la_eqFormS:Nat→(List Form)→(List Form)→Option (Bool)
 | 0,_,_=>none
 | n+1,a0,a1=>(if ¬(a0.length:Int)=(a1.length:Int) then some false else seqS (forI (fun(s5:Unit) (i4:Nat) (x7:Form)=>((atI a1 (i4:Int)).bind fun e12=>(la_eqForm n x7 e12).bind fun k13=>(if(!k13)=true then some (Sum.inl false) else some (Sum.inr ())):Option (Bool⊕Unit))) 0 a0 ()) (fun(s5:Unit)=>some true))
end
theorem g_la_eqForm (n:Nat):(∀(a0:Form) (a1:Form) {r:Bool},la_eqForm n a0 a1=some r→SCall X.E 26 [aE (kForm a0),aE (kForm a1)] [] (bE r) [])∧(∀(a0:List Form) (a1:List Form) {r:Bool},la_eqFormS n a0 a1=some r→SCall X.E 58 [lE 5 (ksForm a0),lE 5 (ksForm a1)] [] (bE r) []):=by
 induction n with
 | zero=>exact⟨(by intros; rename_i h; cases h),(by intros; rename_i h; cases h)⟩
 | succ n ih=>
  refine⟨?_,?_⟩
  ·intro a0 a1 r h0;rw[la_eqForm] at h0;refine .n Tryd.func26 (fun L ks low K hl hL hlen hK=>?_);refine .af [] T [(2,pw 2),(3,pw 3)] [.o 2 (.cells ((kForm a0).map .d)),.o 3 (.cells ((kForm a1).map .d))] ?_;refine .a [] T [(9,dE (¬a0.kind=a1.kind))] ?_;refine .jP h0 (fun hc1 h0=>?_) (fun hc1 h0=>?_)
   ·refine .a [] T [(4,bE false)] ?_;cases h0;exact .rt hK
   ·refine .a [] T [(14,dE (¬a0.name=a1.name))] ?_;refine .jP h0 (fun hc2 h0=>?_) (fun hc2 h0=>?_)
    ·refine .a [] T [(4,bE false)] ?_;cases h0;exact .rt hK
    ·refine .a [] T [(19,dE (¬a0.n=a1.n))] ?_;refine .jP h0 (fun hc3 h0=>?_) (fun hc3 h0=>?_)
     ·refine .a [] T [(4,bE false)] ?_;cases h0;exact .rt hK
     ·obtain⟨k4,hk4,h0⟩:=bnd h0;refine .a [.call [] (bE k4) []] (A (w_la_eqIntS n _ _ hk4) T) [(25,bE (!k4))] ?_;refine .jT h0 (fun hc5 h0=>?_) (fun hc5 h0=>?_)
      ·refine .a [] T [(4,bE false)] ?_;cases h0;exact .rt hK
      ·obtain⟨k6,hk6,h0⟩:=bnd h0;refine .a [.call [] (bE k6) []] (A (ih.2 _ _ hk6) T) [(31,bE (!k6))] ?_;refine .jT h0 (fun hc7 h0=>?_) (fun hc7 h0=>?_)
       ·refine .a [] T [(4,bE false)] ?_;cases h0;exact .rt hK
       ·refine .a [] T [(4,bE true)] ?_;cases h0;exact .rt hK
  ·intro a0 a1 r h0;rw[la_eqFormS] at h0;refine .n Tryd.func58 (fun L ks low K hl hL hlen hK=>?_);refine .a [] T [] ?_;refine .a [.v (a0.length:Int),.v (a1.length:Int)] (A (dForm.len' a0) (A (dForm.len' a1) T)) [(10,dE (¬(a0.length:Int)=(a1.length:Int)))] ?_;refine .sn 0 dForm a0 (by kernel_rfl) (fun hb1=>?_);refine .sn 1 dForm a1 (by kernel_rfl) (fun hb2=>?_);refine .jP h0 (fun hc3 h0=>?_) (fun hc3 h0=>?_)
   ·refine .a [] T [(4,bE false)] ?_;cases h0;exact .rt hK
   ·refine .a [] T [(5,iE 0)] ?_;refine .lI h0 rfl [0,1] (fun i4 s5=>[(5,iE (i4:Int))]) n2 n2 [] (by kernel_rfl) (fun i4 s5 q6 hd8 hi10 h0=>?_);refine .a [.v (a0.length:Int)] (A (dForm.len' a0) T) [(14,dE ((i4:Int)<(a0.length:Int)))] ?_;refine .lc hd8 rfl (by kernel_rfl) (fun x7 q62 hc11 hx7 hd9 hd9l=>?_) (fun hc11=>?_)
    ·subst hc11;obtain⟨y1,h1,hw1,hn1⟩:=forI_cons h0;obtain⟨e12,he12,h1⟩:=bnd h1;obtain⟨k13,hk13,h1⟩:=bnd h1;refine .ad mixed [(2,[.cs (kForm x7)]),(6,[.cs (kForm e12)]),(8,[.call [] (bE k13) []])] [] (A (dForm.idn hx7) (A (dForm.idx he12) (A (ih.1 _ _ hk13) T))) [(26,bE (!k13))] [] [] ?_;refine .jT h1 (fun hc14 h1=>?_) (fun hc14 h1=>?_)
     ·refine .a [] T [(4,bE false)] ?_;cases h1;cases hw1 _ rfl;exact .rt hK
     ·refine .a [.v ((i4+1:Nat):Int)] (A (wn (i:=i4) (by omega)) T) [(5,iE ((i4+1:Nat):Int))] ?_;cases h1;exact .nL rfl (i4+1) _ hd9 hd9l (hn1 _ rfl) [] (by kernel_rfl)
    ·subst hc11;have h0:=forI_nil h0;refine .a [] T [(4,bE true)] ?_;cases h0;exact .rt hK
theorem w_la_eqForm (n:Nat):∀(a0:Form) (a1:Form) {r:Bool},la_eqForm n a0 a1=some r→SCall X.E 26 [aE (kForm a0),aE (kForm a1)] [] (bE r) []:=(g_la_eqForm n).1
theorem w_la_eqFormS (n:Nat):∀(a0:List Form) (a1:List Form) {r:Bool},la_eqFormS n a0 a1=some r→SCall X.E 58 [lE 5 (ksForm a0),lE 5 (ksForm a1)] [] (bE r) []:=(g_la_eqForm n).2
def slices_Clone_string (n:Nat) (a0:List (List UInt8)):Option (List (List UInt8)):=
 (apB 16 [] a0).bind fun z1=>some z1
theorem w_slices_Clone_string (n:Nat):∀(a0:List (List UInt8)) {r:List (List UInt8)},slices_Clone_string n a0=some r→SCall X.E 43 [lE 1 (ksStr a0)] [] (lE 1 (ksStr r)) []:=by
 intro a0 r h0;rw[slices_Clone_string] at h0;refine .m Tryd.func43 rfl rfl rfl (by kernel_rfl) (fun L ks low K hl hL hlen hK=>?_);refine .r [] T [] rfl (by kernel_rfl) ?_;refine .nq rfl (by kernel_rfl) rfl rfl (fun e=>?_) ?_
 ·have e:a0=[]:=by cases a0 with
   | nil=>rfl
   | cons x q=>rw[dStr.eq] at e; cases e
  subst e;have e:r=[]:=by simp[apB] at h0; exact h0
  subst e;refine .cB true rfl (by kernel_rfl) ?_;refine .r [] T [(2,fE 1 (ksStr []))] rfl (by kernel_rfl) ?_;refine .kp [2] [] ?_;refine .owV 2 400002 9 [] rfl rfl (by kernel_rfl) ?_;refine .ft 2 400002 [] dStr [] rfl (by kernel_rfl) ?_;exact .ret rfl rfl (by kernel_rfl) hK
 ·refine .cB false rfl (by kernel_rfl) ?_;obtain⟨z1,hz1,h0⟩:=bnd h0;refine .rf [.sv (ksStr []),.mv 7,.sv (ksStr z1)] (A (dStr.lit []) (A (dStr.ap0 hz1) T)) [(2,.vs (.own 100007) 1 (ksStr z1).length)] [.o 100007 (.vec 9 1 (ksStr z1))] rfl (by kernel_rfl) ?_;refine .kp [2] [] ?_;cases h0;refine .ft 2 100007 [] dStr r rfl (by kernel_rfl) ?_;exact .ret rfl rfl (by kernel_rfl) hK
def im_LibraryNames (n:Nat)  : Option (List (List UInt8)):=
 (slices_Clone_string n lp0).bind fun k1=>some k1
theorem w_im_LibraryNames (n:Nat):∀{r:List (List UInt8)},im_LibraryNames n  = some r→SCall X.E 13 [] [] (lE 1 (ksStr r)) []:=by
 intro r h0;rw[im_LibraryNames] at h0;refine .n Tryd.func13 (fun L ks low K hl hL hlen hK=>?_);refine .a [] T [] ?_;obtain⟨k1,hk1,h0⟩:=bnd h0;refine .a [.call [] (lE 1 (ksStr k1)) []] (A (w_slices_Clone_string n _ hk1) T) [(0,lE 1 (ksStr k1))] ?_;cases h0;exact .rt hK
def slices_Index_string (n:Nat) (a0:List (List UInt8)) (a1:List UInt8):Option (Int):=
 seqS (forI (fun(s3:Unit) (i2:Nat) (x5:List UInt8)=>((if a1=x5 then some (Sum.inl (i2:Int)) else some (Sum.inr ())):Option (Int⊕Unit))) 0 a0 ()) (fun(s3:Unit)=>some (-1))
theorem w_slices_Index_string (n:Nat):∀(a0:List (List UInt8)) (a1:List UInt8) {r:Int},slices_Index_string n a0 a1=some r→SCall X.E 42 [lE 1 (ksStr a0),sE a1] [] (iE r) []:=by
 intro a0 a1 r h0;rw[slices_Index_string] at h0;refine .n Tryd.func42 (fun L ks low K hl hL hlen hK=>?_);refine .a [] T [] ?_;refine .a [.v (a0.length:Int)] (A (dStr.len' a0) T) [(7,iE (a0.length:Int)),(8,iE 0)] ?_;refine .sn 0 dStr a0 (by kernel_rfl) (fun hb1=>?_);refine .lI h0 rfl [0,1,7] (fun i2 s3=>[(8,iE (i2:Int))]) n2 n2 [] (by kernel_rfl) (fun i2 s3 q4 hd6 hi8 h0=>?_);refine .a [] T [(9,dE ((i2:Int)<(a0.length:Int)))] ?_;refine .lc hd6 rfl (by kernel_rfl) (fun x5 q42 hc9 hx5 hd7 hd7l=>?_) (fun hc9=>?_)
 ·subst hc9;obtain⟨y1,h1,hw1,hn1⟩:=forI_cons h0;refine .a [] T [(5,iE (i2:Int))] ?_;refine .a [.cs [.s x5]] (A (dStr.idn hx5) T) [(16,dE (a1=x5))] ?_;refine .jP h1 (fun hc10 h1=>?_) (fun hc10 h1=>?_)
  ·refine .a [] T [(4,iE (i2:Int))] ?_;cases h1;cases hw1 _ rfl;exact .rt hK
  ·refine .a [.v ((i2+1:Nat):Int)] (A (wn (i:=i2) (by omega)) T) [(8,iE ((i2+1:Nat):Int))] ?_;cases h1;exact .nL rfl (i2+1) _ hd7 hd7l (hn1 _ rfl) [] (by kernel_rfl)
 ·subst hc9;have h0:=forI_nil h0;refine .a [] T [(4,iE (-1))] ?_;cases h0;exact .rt hK
def slices_Contains_string (n:Nat) (a0:List (List UInt8)) (a1:List UInt8):Option (Bool):=
 (slices_Index_string n a0 a1).bind fun k1=>some (decide (k1≥0))
theorem w_slices_Contains_string (n:Nat):∀(a0:List (List UInt8)) (a1:List UInt8) {r:Bool},slices_Contains_string n a0 a1=some r→SCall X.E 57 [lE 1 (ksStr a0),sE a1] [] (bE r) []:=by
 intro a0 a1 r h0;rw[slices_Contains_string] at h0;refine .n Tryd.func57 (fun L ks low K hl hL hlen hK=>?_);refine .a [] T [] ?_;obtain⟨k1,hk1,h0⟩:=bnd h0;refine .a [.call [] (iE k1) []] (A (w_slices_Index_string n _ _ hk1) T) [(4,dE (k1≥0))] ?_;cases h0;exact .rt hK
def slices_Index_string_v (n:Nat) (a0:List (List UInt8)) (a1:List UInt8):Option (Int):=
 seqS (forI (fun(s3:Unit) (i2:Nat) (x5:List UInt8)=>((if a1=x5 then some (Sum.inl (i2:Int)) else some (Sum.inr ())):Option (Int⊕Unit))) 0 a0 ()) (fun(s3:Unit)=>some (-1))
theorem w_slices_Index_string_v (n:Nat):∀(a0:List (List UInt8)) (a1:List UInt8) {r:Int},slices_Index_string_v n a0 a1=some r→SCall X.E 42 [.vs (.low 0) 1 ((ksStr a0).length),sE a1] [some (.vec 9 1 (ksStr a0))] (iE r) [.vec 9 1 (ksStr a0)]:=by
 intro a0 a1 r h0;rw[slices_Index_string_v] at h0;refine .n Tryd.func42 (fun L ks low K hl hL hlen hK=>?_);refine .a [] T [] ?_;refine .a [.v (a0.length:Int)] (A (dStr.len' a0) T) [(7,iE (a0.length:Int)),(8,iE 0)] ?_;refine .snV 0 dStr a0 (by kernel_rfl) (fun hb1=>?_);refine .lI h0 rfl [0,1,7] (fun i2 s3=>[(8,iE (i2:Int))]) n2 n2 [] (by kernel_rfl) (fun i2 s3 q4 hd6 hi8 h0=>?_);refine .a [] T [(9,dE ((i2:Int)<(a0.length:Int)))] ?_;refine .lc hd6 rfl (by kernel_rfl) (fun x5 q42 hc9 hx5 hd7 hd7l=>?_) (fun hc9=>?_)
 ·subst hc9;obtain⟨y1,h1,hw1,hn1⟩:=forI_cons h0;refine .a [] T [(5,iE (i2:Int))] ?_;refine .a [.cs [.s x5]] (A (A (dStr.inv (inB_of hx5) (rfl:(ksStr a0).length=(ksStr a0).length)) (rfl:(ksStr a0).length=(ksStr a0).length)) (A (A (A (dStr.rows a0) (dStr.ixr hx5)) (rfl:(ksStr a0).length=(ksStr a0).length)) T)) [(16,dE (a1=x5))] ?_;refine .jP h1 (fun hc10 h1=>?_) (fun hc10 h1=>?_)
  ·refine .a [] T [(4,iE (i2:Int))] ?_;cases h1;cases hw1 _ rfl;exact .rt hK
  ·refine .a [.v ((i2+1:Nat):Int)] (A (wn (i:=i2) (by omega)) T) [(8,iE ((i2+1:Nat):Int))] ?_;cases h1;exact .nL rfl (i2+1) _ hd7 hd7l (hn1 _ rfl) [] (by kernel_rfl)
 ·subst hc9;have h0:=forI_nil h0;refine .a [] T [(4,iE (-1))] ?_;cases h0;exact .rt hK
def slices_Contains_string_v (n:Nat) (a0:List (List UInt8)) (a1:List UInt8):Option (Bool):=
 (slices_Index_string_v n a0 a1).bind fun k1=>some (decide (k1≥0))
theorem w_slices_Contains_string_v (n:Nat):∀(a0:List (List UInt8)) (a1:List UInt8) {r:Bool},slices_Contains_string_v n a0 a1=some r→SCall X.E 57 [.vs (.low 0) 1 ((ksStr a0).length),sE a1] [some (.vec 9 1 (ksStr a0))] (bE r) [.vec 9 1 (ksStr a0)]:=by
 intro a0 a1 r h0;rw[slices_Contains_string_v] at h0;refine .n Tryd.func57 (fun L ks low K hl hL hlen hK=>?_);refine .a [] T [] ?_;obtain⟨k1,hk1,h0⟩:=bnd h0;refine .a [.call [.low 0] (iE k1) [.vec 9 1 (ksStr a0)]] (A (w_slices_Index_string_v n _ _ hk1) T) [(4,dE (k1≥0))] ?_;cases h0;exact .rt hK
def im_NamesOf_1 (n:Nat) (a0:Form) (w0:List (List UInt8)):Option (List (List UInt8)):=
 Option.bind ((if a0.kind=1 then(slices_Contains_string_v n w0 a0.name).bind fun k5=>some (!k5) else some false):Option (Bool)) (fun(o1:Bool)=>(if o1=true then(apB 16 w0 [a0.name]).bind fun z3=>some z3 else some w0))
theorem w_im_NamesOf_1 (n:Nat):∀(a0:Form) (w0:List (List UInt8)) {r:List (List UInt8)},im_NamesOf_1 n a0 w0=some r→SCall X.E 72 [aE (kForm a0),pl 0] [some (.cells [.vs (.low 1) 1 ((ksStr w0).length)]),some (.vec 9 1 (ksStr w0))] (.tup []) [.cells [.vs (.low 1) 1 ((ksStr r).length)],.vec 9 1 (ksStr r)]:=by
 intro a0 w0 r h0;rw[im_NamesOf_1] at h0;refine .n Tryd.func72 (fun L ks low K hl hL hlen hK=>?_);refine .af [] T [(2,pw 2)] [.o 2 (.cells ((kForm a0).map .d))] ?_;refine .bP h0 rfl [1,2] (fun o1=>[(12,bE o1)]) n1 n1 (fun o1 h0=>?_) (fun y1 h1 hj1=>?_)
 ·refine .jT h0 (fun hc2 h0=>?_) (fun hc2 h0=>?_)
  ·obtain⟨z3,hz3,h0⟩:=bnd h0;refine .ao [.sv (ksStr [a0.name]),.sv (ksStr z3)] (A (dStr.lit [a0.name]) (A (A (dStr.ap hz3) (rfl:(ksStr w0).length=(ksStr w0).length)) T)) [] [.c 0 0 (.vs (.low 1) 1 ((ksStr z3).length)),.o 1 (.vec 9 1 (ksStr z3))] ?_;cases h0;exact .fin rfl rfl rfl rfl hK
  ·cases h0;exact .fin rfl rfl rfl rfl hK
 ·by_cases g4:a0.kind=1
  ·have h1:=iteP g4 h1;obtain⟨k5,hk5,h1⟩:=bnd h1;refine .a (rb 4 true [.call [.low 1] (bE k5) [.vec 9 1 (ksStr w0)],.b true,.b true]) (R 3 (dt g4) (A (A (dt g4) (w_slices_Contains_string_v n _ _ hk5)) (R 2 (dt g4) T))) [(12,bE (!k5))] ?_;cases h1;exact .lg hj1 []
  ·have h1:=iteN g4 h1;refine .a (rb 6 false []) (R 6 (df g4) T) [(12,bE false)] ?_;cases h1;exact .lg hj1 []
def im_eachForm__im_NamesOf_1:Nat→Form→(List (List UInt8))→Option (List (List UInt8))
 | 0,_,_=>none
 | n+1,a0,w0=>(im_NamesOf_1 n a0 w0).bind fun k1=>Option.bind (forL (fun(s4:List (List UInt8)) (i3:Nat) (x6:Form)=>(im_eachForm__im_NamesOf_1 n x6 s4).bind fun k11=>some k11) 0 a0.kids k1) (fun(s4:List (List UInt8))=>some s4)
theorem w_im_eachForm__im_NamesOf_1 (n:Nat):∀(a0:Form) (w0:List (List UInt8)) {r:List (List UInt8)},im_eachForm__im_NamesOf_1 n a0 w0=some r→SCall X.E 71 [aE (kForm a0),.clo 72 [] [pl 0]] [some (.cells [.vs (.low 1) 1 ((ksStr w0).length)]),some (.vec 9 1 (ksStr w0))] (.tup []) [.cells [.vs (.low 1) 1 ((ksStr r).length)],.vec 9 1 (ksStr r)]:=by
 induction n with
 | zero=>intro a0 w0 r h; cases h
 | succ n ih=>
  intro a0 w0 r h0;rw[im_eachForm__im_NamesOf_1] at h0;refine .n Tryd.func71 (fun L ks low K hl hL hlen hK=>?_);refine .af [] T [(2,pw 2)] [.o 2 (.cells ((kForm a0).map .d))] ?_;obtain⟨k1,hk1,h0⟩:=bnd h0;refine .ao [.call [.low 0,.low 1] (.tup []) [.cells [.vs (.low 1) 1 ((ksStr k1).length)],.vec 9 1 (ksStr k1)]] (A (w_im_NamesOf_1 n _ _ hk1) T) [] [.c 0 0 (.vs (.low 1) 1 ((ksStr k1).length)),.o 1 (.vec 9 1 (ksStr k1))] ?_;refine .a [.v (a0.kids.length:Int)] (A (dForm.len' a0.kids) T) [(10,lE 5 (ksForm a0.kids)),(11,iE (a0.kids.length:Int)),(12,iE 0)] ?_;refine .sn 10 dForm a0.kids (by kernel_rfl) (fun hb2=>?_);refine .lL h0 rfl [1,10,11] (fun i3 s4=>[(12,iE (i3:Int))]) n2 (fun i3 s4=>[.c 0 0 (.vs (.low 1) 1 ((ksStr s4).length)),.o 1 (.vec 9 1 (ksStr s4))]) [] (by kernel_rfl) (fun i3 s4 q5 hd7 hi9 h0=>?_);refine .a [] T [(13,dE ((i3:Int)<(a0.kids.length:Int)))] ?_;refine .lc hd7 rfl (by kernel_rfl) (fun x6 q52 hc10 hx6 hd8 hd8l=>?_) (fun hc10=>?_)
  ·subst hc10;obtain⟨y1,h1,hn1⟩:=forL_cons h0;refine .af [.cs (kForm x6)] (A (dForm.idn hx6) T) [(5,pw 5)] [.o 5 (.cells ((kForm x6).map .d))] ?_;obtain⟨k11,hk11,h1⟩:=bnd h1;refine .ao [.call [.low 0,.low 1] (.tup []) [.cells [.vs (.low 1) 1 ((ksStr k11).length)],.vec 9 1 (ksStr k11)]] (A (ih _ _ hk11) T) [] [.c 0 0 (.vs (.low 1) 1 ((ksStr k11).length)),.o 1 (.vec 9 1 (ksStr k11))] ?_;refine .a [.v ((i3+1:Nat):Int)] (A (wn (i:=i3) (by omega)) T) [(12,iE ((i3+1:Nat):Int))] ?_;cases h1;refine .kp [1,10,11,12] [] ?_;refine .dr 5 (by kernel_rfl) ?_;exact .nL rfl (i3+1) _ hd8 hd8l hn1 [] (by kernel_rfl)
  ·subst hc10;have h0:=forL_nil h0;cases h0;exact .fin rfl rfl rfl rfl hK
def im_NamesOf (n:Nat) (a0:Form):Option (List (List UInt8)):=
 (im_eachForm__im_NamesOf_1 n a0 []).bind fun k1=>some k1
theorem w_im_NamesOf (n:Nat):∀(a0:Form) {r:List (List UInt8)},im_NamesOf n a0=some r→SCall X.E 38 [aE (kForm a0)] [] (lE 1 (ksStr r)) []:=by
 intro a0 r h0;rw[im_NamesOf] at h0;refine .n Tryd.func38 (fun L ks low K hl hL hlen hK=>?_);refine .af [] T [(1,pw 1)] [.o 1 (.cells ((kForm a0).map .d))] ?_;refine .af [.sv (ksStr [])] (A (dStr.lit []) T) [(3,pw 3)] [.o 3 (.cells [fE 1 (ksStr [])])] ?_;refine .ov 3 0 400300 9 (by kernel_rfl) ?_;obtain⟨k1,hk1,h0⟩:=bnd h0;refine .af [.call [.own 3,.own 400300] (.tup []) [.cells [.vs (.low 1) 1 ((ksStr k1).length)],.vec 9 1 (ksStr k1)]] (A (w_im_eachForm__im_NamesOf_1 n _ _ hk1) T) [] [.c 3 0 (.vs (.own 400300) 1 ((ksStr k1).length)),.o 400300 (.vec 9 1 (ksStr k1))] ?_;refine .a [] T [(2,.vs (.own 400300) 1 ((ksStr k1).length))] ?_;refine .kp [2] [] ?_;refine .dr 1 (by kernel_rfl) ?_;refine .dr 3 (by kernel_rfl) ?_;refine .ft 2 400300 [] dStr k1 (rfl:(ksStr k1).length=(ksStr k1).length) (by kernel_rfl) ?_;cases h0;exact .rt hK
def im_NeededMacros_1 (n:Nat) (a0:List UInt8) (w0:List (List UInt8)):Option (Bool):=
 (slices_Contains_string n w0 a0).bind fun k1=>some (!k1)
theorem w_im_NeededMacros_1 (n:Nat):∀(a0:List UInt8) (w0:List (List UInt8)) {r:Bool},im_NeededMacros_1 n a0 w0=some r→SCall X.E 56 [sE a0,pl 0] [some (.cells [lE 1 (ksStr w0)])] (bE r) [.cells [lE 1 (ksStr w0)]]:=by
 intro a0 w0 r h0;rw[im_NeededMacros_1] at h0;refine .n Tryd.func56 (fun L ks low K hl hL hlen hK=>?_);refine .a [] T [] ?_;obtain⟨k1,hk1,h0⟩:=bnd h0;refine .a [.call [] (bE k1) []] (A (w_slices_Contains_string n _ _ hk1) T) [(3,bE (!k1))] ?_;cases h0;exact .rt hK
def slices_IndexFunc_string__im_NeededMacros_1 (n:Nat) (a0:List (List UInt8)) (w0:List (List UInt8)):Option (Int):=
 seqS (forI (fun(s3:Unit) (i2:Nat) (x5:List UInt8)=>((im_NeededMacros_1 n x5 w0).bind fun k10=>(if k10=true then some (Sum.inl (i2:Int)) else some (Sum.inr ())):Option (Int⊕Unit))) 0 a0 ()) (fun(s3:Unit)=>some (-1))
theorem w_slices_IndexFunc_string__im_NeededMacros_1 (n:Nat):∀(a0:List (List UInt8)) (w0:List (List UInt8)) {r:Int},slices_IndexFunc_string__im_NeededMacros_1 n a0 w0=some r→SCall X.E 74 [lE 1 (ksStr a0),.clo 56 [] [pl 0]] [some (.cells [lE 1 (ksStr w0)])] (iE r) [.cells [lE 1 (ksStr w0)]]:=by
 intro a0 w0 r h0;rw[slices_IndexFunc_string__im_NeededMacros_1] at h0;refine .n Tryd.func74 (fun L ks low K hl hL hlen hK=>?_);refine .a [] T [] ?_;refine .a [.v (a0.length:Int)] (A (dStr.len' a0) T) [(7,iE (a0.length:Int)),(8,iE 0)] ?_;refine .sn 0 dStr a0 (by kernel_rfl) (fun hb1=>?_);refine .lI h0 rfl [0,1,7] (fun i2 s3=>[(8,iE (i2:Int))]) n2 n2 [] (by kernel_rfl) (fun i2 s3 q4 hd6 hi8 h0=>?_);refine .a [] T [(9,dE ((i2:Int)<(a0.length:Int)))] ?_;refine .lc hd6 rfl (by kernel_rfl) (fun x5 q42 hc9 hx5 hd7 hd7l=>?_) (fun hc9=>?_)
 ·subst hc9;obtain⟨y1,h1,hw1,hn1⟩:=forI_cons h0;refine .a [] T [(5,iE (i2:Int))] ?_;obtain⟨k10,hk10,h1⟩:=bnd h1;refine .a [.cs [.s x5],.call [.low 0] (bE k10) [.cells [lE 1 (ksStr w0)]]] (A (dStr.idn hx5) (A (w_im_NeededMacros_1 n _ _ hk10) T)) [(16,bE k10)] ?_;refine .jT h1 (fun hc11 h1=>?_) (fun hc11 h1=>?_)
  ·refine .a [] T [(4,iE (i2:Int))] ?_;cases h1;cases hw1 _ rfl;exact .rt hK
  ·refine .a [.v ((i2+1:Nat):Int)] (A (wn (i:=i2) (by omega)) T) [(8,iE ((i2+1:Nat):Int))] ?_;cases h1;exact .nL rfl (i2+1) _ hd7 hd7l (hn1 _ rfl) [] (by kernel_rfl)
 ·subst hc9;have h0:=forI_nil h0;refine .a [] T [(4,iE (-1))] ?_;cases h0;exact .rt hK
def slices_IndexFunc_string__im_NeededMacros_1_v (n:Nat) (a0:List (List UInt8)) (w0:List (List UInt8)):Option (Int):=
 seqS (forI (fun(s3:Unit) (i2:Nat) (x5:List UInt8)=>((im_NeededMacros_1 n x5 w0).bind fun k10=>(if k10=true then some (Sum.inl (i2:Int)) else some (Sum.inr ())):Option (Int⊕Unit))) 0 a0 ()) (fun(s3:Unit)=>some (-1))
theorem w_slices_IndexFunc_string__im_NeededMacros_1_v (n:Nat):∀(a0:List (List UInt8)) (w0:List (List UInt8)) {r:Int},slices_IndexFunc_string__im_NeededMacros_1_v n a0 w0=some r→SCall X.E 74 [.vs (.low 1) 1 ((ksStr a0).length),.clo 56 [] [pl 0]] [some (.cells [lE 1 (ksStr w0)]),some (.vec 9 1 (ksStr a0))] (iE r) [.cells [lE 1 (ksStr w0)],.vec 9 1 (ksStr a0)]:=by
 intro a0 w0 r h0;rw[slices_IndexFunc_string__im_NeededMacros_1_v] at h0;refine .n Tryd.func74 (fun L ks low K hl hL hlen hK=>?_);refine .a [] T [] ?_;refine .a [.v (a0.length:Int)] (A (dStr.len' a0) T) [(7,iE (a0.length:Int)),(8,iE 0)] ?_;refine .snV 0 dStr a0 (by kernel_rfl) (fun hb1=>?_);refine .lI h0 rfl [0,1,7] (fun i2 s3=>[(8,iE (i2:Int))]) n2 n2 [] (by kernel_rfl) (fun i2 s3 q4 hd6 hi8 h0=>?_);refine .a [] T [(9,dE ((i2:Int)<(a0.length:Int)))] ?_;refine .lc hd6 rfl (by kernel_rfl) (fun x5 q42 hc9 hx5 hd7 hd7l=>?_) (fun hc9=>?_)
 ·subst hc9;obtain⟨y1,h1,hw1,hn1⟩:=forI_cons h0;refine .a [] T [(5,iE (i2:Int))] ?_;obtain⟨k10,hk10,h1⟩:=bnd h1;refine .a [.cs [.s x5],.call [.low 0] (bE k10) [.cells [lE 1 (ksStr w0)]]] (A (A (dStr.inv (inB_of hx5) (rfl:(ksStr a0).length=(ksStr a0).length)) (rfl:(ksStr a0).length=(ksStr a0).length)) (A (A (A (dStr.rows a0) (dStr.ixr hx5)) (rfl:(ksStr a0).length=(ksStr a0).length)) (A (w_im_NeededMacros_1 n _ _ hk10) T))) [(16,bE k10)] ?_;refine .jT h1 (fun hc11 h1=>?_) (fun hc11 h1=>?_)
  ·refine .a [] T [(4,iE (i2:Int))] ?_;cases h1;cases hw1 _ rfl;exact .rt hK
  ·refine .a [.v ((i2+1:Nat):Int)] (A (wn (i:=i2) (by omega)) T) [(8,iE ((i2+1:Nat):Int))] ?_;cases h1;exact .nL rfl (i2+1) _ hd7 hd7l (hn1 _ rfl) [] (by kernel_rfl)
 ·subst hc9;have h0:=forI_nil h0;refine .a [] T [(4,iE (-1))] ?_;cases h0;exact .rt hK
def slices_DeleteFunc_string__im_NeededMacros_1 (n:Nat) (a0:List (List UInt8)) (w0:List (List UInt8)):Option (List (List UInt8)):=
 (slices_IndexFunc_string__im_NeededMacros_1_v n a0 w0).bind fun k1=>(if k1=(-1) then some a0 else iterM n (fun(s3:Int×Int×(List (List UInt8)))=>((if s3.2.1<(s3.2.2.length:Int) then Option.bind ((inB s3.2.1 s3.2.2.length).bind fun u8=>(s3.2.2[(Int.toNat s3.2.1)]?).bind fun e9=>(im_NeededMacros_1 n e9 w0).bind fun k10=>(if(!k10)=true then(inB s3.1 s3.2.2.length).bind fun u12=>(s3.2.2[(Int.toNat s3.1)]?).bind fun e13=>some ((w64 (s3.1+1)),(s3.2.2.set (Int.toNat s3.1) e9)) else some (s3.1,s3.2.2)):Option (Int×(List (List UInt8)))) (fun(o7:Int×(List (List UInt8)))=>some (Sum.inr (o7.1,(w64 (s3.2.1+1)),o7.2))) else(clI s3.2.2 s3.1 []).bind fun z15=>(takeI z15 s3.1).bind fun z17=>some (Sum.inl z17)):Option ((List (List UInt8))⊕(Int×Int×(List (List UInt8)))))) (k1,(w64 (k1+1)),a0))
theorem w_slices_DeleteFunc_string__im_NeededMacros_1 (n:Nat):∀(a0:List (List UInt8)) (w0:List (List UInt8)) {r:List (List UInt8)},slices_DeleteFunc_string__im_NeededMacros_1 n a0 w0=some r→SCall X.E 55 [.vs (.low 1) 1 ((ksStr a0).length),.clo 56 [] [pl 0]] [some (.cells [lE 1 (ksStr w0)]),some (.vec 9 1 (ksStr a0))] (lE 1 (ksStr r)) [.cells [lE 1 (ksStr w0)],.tok 9223372036854775808 9]:=by
 intro a0 w0 r h0;rw[slices_DeleteFunc_string__im_NeededMacros_1] at h0;refine .n Tryd.func55 (fun L ks low K hl hL hlen hK=>?_);refine .a [] T [] ?_;obtain⟨k1,hk1,h0⟩:=bnd h0;refine .a [.call [.low 0,.low 1] (iE k1) [.cells [lE 1 (ksStr w0)],.vec 9 1 (ksStr a0)]] (A (w_slices_IndexFunc_string__im_NeededMacros_1_v n _ _ hk1) T) [(5,iE k1)] ?_;refine .a [] T [(12,dE (k1=(-1)))] ?_;refine .jP h0 (fun hc2 h0=>?_) (fun hc2 h0=>?_)
 ·refine .a [] T [(4,.vs (.low 1) 1 ((ksStr a0).length))] ?_;refine .kp [4] [] ?_;refine .ct 4 1 500004 [] (rfl:(ksStr a0).length=(ksStr a0).length) (by kernel_rfl) ?_;refine .ft 4 500004 [] dStr a0 (rfl:(ksStr a0).length=(ksStr a0).length) (by kernel_rfl) ?_;cases h0;exact .rt hK
 ·refine .a [.pl] T [(6,iE (w64 (k1+1)))] ?_;refine .it h0 rfl [1] (fun s3=>[(0,.vs (.low 1) 1 ((ksStr s3.2.2).length)),(5,iE s3.1),(6,iE s3.2.1)]) n1 (fun s3=>[.o 1 (.vec 9 1 (ksStr s3.2.2))]) [] (by kernel_rfl) (fun nk4 s3 h0=>?_);obtain⟨y1,h1,hw1,hn1⟩:=iter_cons h0;refine .a [.v (s3.2.2.length:Int)] (A (dStr.len' s3.2.2) T) [(19,dE (s3.2.1<(s3.2.2.length:Int)))] ?_;refine .snV 0 dStr s3.2.2 (by kernel_rfl) (fun hb5=>?_);refine .jP h1 (fun hc6 h1=>?_) (fun hc6 h1=>?_)
  ·refine .bPB h1 rfl [1,6] (fun o7=>[(0,.vs (.low 1) 1 ((ksStr o7.2).length)),(5,iE o7.1)]) n1 (fun o7=>[.o 1 (.vec 9 1 (ksStr o7.2))]) (fun o7 h1=>?_) (fun y2 h2 hj2=>?_)
   ·refine .a [.pl] T [(6,iE (w64 (s3.2.1+1)))] ?_;cases h1;exact .nI rfl _ (hn1 _ rfl) [] (by kernel_rfl)
   ·obtain⟨u8,hu8,h2⟩:=bnd h2;obtain⟨e9,he9,h2⟩:=bnd h2;refine .a [.cs [.s e9]] (A (A (dStr.inv hu8 (rfl:(ksStr s3.2.2).length=(ksStr s3.2.2).length)) (rfl:(ksStr s3.2.2).length=(ksStr s3.2.2).length)) (A (A (A (dStr.rows s3.2.2) (dStr.ixr he9)) (rfl:(ksStr s3.2.2).length=(ksStr s3.2.2).length)) T)) [(7,sE e9)] ?_;obtain⟨k10,hk10,h2⟩:=bnd h2;refine .a [.call [.low 0] (bE k10) [.cells [lE 1 (ksStr w0)]]] (A (w_im_NeededMacros_1 n _ _ hk10) T) [(29,bE (!k10))] ?_;refine .jT h2 (fun hc11 h2=>?_) (fun hc11 h2=>?_)
    ·obtain⟨u12,hu12,h2⟩:=bnd h2;obtain⟨e13,he13,h2⟩:=bnd h2;refine .ao [.cs [.s e13],.sv (ksStr (s3.2.2.set (Int.toNat s3.1) e9))] (A (A (dStr.inv hu12 (rfl:(ksStr s3.2.2).length=(ksStr s3.2.2).length)) (rfl:(ksStr s3.2.2).length=(ksStr s3.2.2).length)) (A (A (A (A (dStr.rows s3.2.2) (dStr.ixr he13)) (rfl:(ksStr s3.2.2).length=(ksStr s3.2.2).length)) (dStr.seti s3.2.2 (Int.toNat s3.1) e9)) T)) [(0,.vs (.low 1) 1 ((ksStr s3.2.2).length))] [.o 1 (.vec 9 1 (ksStr (s3.2.2.set (Int.toNat s3.1) e9)))] ?_;refine .rn (by simp only[dStr.length,List.length_set]:(ksStr s3.2.2).length=(ksStr (s3.2.2.set (Int.toNat s3.1) e9)).length) (fun nk14=>[(0,.vs (.low 1) 1 nk14)]) (fun nk14=>[]) (fun nk14=>[]) (by kernel_rfl) ?_;refine .a [.pl] T [(5,iE (w64 (s3.1+1)))] ?_;cases h2;exact .lg hj2 []
    ·cases h2;exact .lg hj2 []
  ·obtain⟨z15,hz15,h1⟩:=bnd h1;refine .clr (xs:=ksStr s3.2.2) rfl rfl rfl rfl rfl rfl rfl rfl (dStr.cl1 hz15 (rfl:(ksStr s3.2.2).length=(ksStr s3.2.2).length)) (rfl:(ksStr s3.2.2).length=(ksStr s3.2.2).length) (dStr.rows _) (ksStr z15) (dStr.cl2 hz15 (rfl:(ksStr s3.2.2).length=(ksStr s3.2.2).length)) ?_;refine .rn (by rw[dStr.length,dStr.length,clI_len hz15]:(ksStr s3.2.2).length=(ksStr z15).length) (fun nk16=>[(0,.vs (.low 1) 1 nk16)]) (fun nk16=>[]) (fun nk16=>[]) (by kernel_rfl) ?_;obtain⟨z17,hz17,h1⟩:=bnd h1;refine .aq [.sv (ksStr z17)] [] (A (dStr.tk hz17 (rfl:(ksStr z15).length=(ksStr z15).length)) T) [(4,.vs (.own 100041) 1 ((ksStr z17).length))] [.o 100041 (.vec 9 1 (ksStr z17))] [.o 1 (.tok 9223372036854775808 9)] ?_;refine .kp [4] [] ?_;refine .ft 4 100041 [] dStr z17 (rfl:(ksStr z17).length=(ksStr z17).length) (by kernel_rfl) ?_;cases h1;cases hw1 _ rfl;exact .rt hK
def slices_DeleteFunc_string__im_NeededMacros_1_v (n:Nat) (a0:List (List UInt8)) (w0:List (List UInt8)):Option (List (List UInt8)):=
 (slices_IndexFunc_string__im_NeededMacros_1_v n a0 w0).bind fun k1=>(if k1=(-1) then some a0 else iterM n (fun(s3:Int×Int×(List (List UInt8)))=>((if s3.2.1<(s3.2.2.length:Int) then Option.bind ((inB s3.2.1 s3.2.2.length).bind fun u8=>(s3.2.2[(Int.toNat s3.2.1)]?).bind fun e9=>(im_NeededMacros_1 n e9 w0).bind fun k10=>(if(!k10)=true then(inB s3.1 s3.2.2.length).bind fun u12=>(s3.2.2[(Int.toNat s3.1)]?).bind fun e13=>some ((w64 (s3.1+1)),(s3.2.2.set (Int.toNat s3.1) e9)) else some (s3.1,s3.2.2)):Option (Int×(List (List UInt8)))) (fun(o7:Int×(List (List UInt8)))=>some (Sum.inr (o7.1,(w64 (s3.2.1+1)),o7.2))) else(clI s3.2.2 s3.1 []).bind fun z15=>(takeI z15 s3.1).bind fun z17=>some (Sum.inl z17)):Option ((List (List UInt8))⊕(Int×Int×(List (List UInt8)))))) (k1,(w64 (k1+1)),a0))
theorem w_slices_DeleteFunc_string__im_NeededMacros_1_v (n:Nat):∀(a0:List (List UInt8)) (w0:List (List UInt8)) {r:List (List UInt8)},slices_DeleteFunc_string__im_NeededMacros_1_v n a0 w0=some r→SCall X.E 55 [.vs (.low 1) 1 ((ksStr a0).length),.clo 56 [] [pl 0]] [some (.cells [lE 1 (ksStr w0)]),some (.vec 9 1 (ksStr a0))] (lE 1 (ksStr r)) [.cells [lE 1 (ksStr w0)],.tok 9223372036854775808 9]:=by
 intro a0 w0 r h0;rw[slices_DeleteFunc_string__im_NeededMacros_1_v] at h0;refine .n Tryd.func55 (fun L ks low K hl hL hlen hK=>?_);refine .a [] T [] ?_;obtain⟨k1,hk1,h0⟩:=bnd h0;refine .a [.call [.low 0,.low 1] (iE k1) [.cells [lE 1 (ksStr w0)],.vec 9 1 (ksStr a0)]] (A (w_slices_IndexFunc_string__im_NeededMacros_1_v n _ _ hk1) T) [(5,iE k1)] ?_;refine .a [] T [(12,dE (k1=(-1)))] ?_;refine .jP h0 (fun hc2 h0=>?_) (fun hc2 h0=>?_)
 ·refine .a [] T [(4,.vs (.low 1) 1 ((ksStr a0).length))] ?_;refine .kp [4] [] ?_;refine .ct 4 1 500004 [] (rfl:(ksStr a0).length=(ksStr a0).length) (by kernel_rfl) ?_;refine .ft 4 500004 [] dStr a0 (rfl:(ksStr a0).length=(ksStr a0).length) (by kernel_rfl) ?_;cases h0;exact .rt hK
 ·refine .a [.pl] T [(6,iE (w64 (k1+1)))] ?_;refine .it h0 rfl [1] (fun s3=>[(0,.vs (.low 1) 1 ((ksStr s3.2.2).length)),(5,iE s3.1),(6,iE s3.2.1)]) n1 (fun s3=>[.o 1 (.vec 9 1 (ksStr s3.2.2))]) [] (by kernel_rfl) (fun nk4 s3 h0=>?_);obtain⟨y1,h1,hw1,hn1⟩:=iter_cons h0;refine .a [.v (s3.2.2.length:Int)] (A (dStr.len' s3.2.2) T) [(19,dE (s3.2.1<(s3.2.2.length:Int)))] ?_;refine .snV 0 dStr s3.2.2 (by kernel_rfl) (fun hb5=>?_);refine .jP h1 (fun hc6 h1=>?_) (fun hc6 h1=>?_)
  ·refine .bPB h1 rfl [1,6] (fun o7=>[(0,.vs (.low 1) 1 ((ksStr o7.2).length)),(5,iE o7.1)]) n1 (fun o7=>[.o 1 (.vec 9 1 (ksStr o7.2))]) (fun o7 h1=>?_) (fun y2 h2 hj2=>?_)
   ·refine .a [.pl] T [(6,iE (w64 (s3.2.1+1)))] ?_;cases h1;exact .nI rfl _ (hn1 _ rfl) [] (by kernel_rfl)
   ·obtain⟨u8,hu8,h2⟩:=bnd h2;obtain⟨e9,he9,h2⟩:=bnd h2;refine .a [.cs [.s e9]] (A (A (dStr.inv hu8 (rfl:(ksStr s3.2.2).length=(ksStr s3.2.2).length)) (rfl:(ksStr s3.2.2).length=(ksStr s3.2.2).length)) (A (A (A (dStr.rows s3.2.2) (dStr.ixr he9)) (rfl:(ksStr s3.2.2).length=(ksStr s3.2.2).length)) T)) [(7,sE e9)] ?_;obtain⟨k10,hk10,h2⟩:=bnd h2;refine .a [.call [.low 0] (bE k10) [.cells [lE 1 (ksStr w0)]]] (A (w_im_NeededMacros_1 n _ _ hk10) T) [(29,bE (!k10))] ?_;refine .jT h2 (fun hc11 h2=>?_) (fun hc11 h2=>?_)
    ·obtain⟨u12,hu12,h2⟩:=bnd h2;obtain⟨e13,he13,h2⟩:=bnd h2;refine .ao [.cs [.s e13],.sv (ksStr (s3.2.2.set (Int.toNat s3.1) e9))] (A (A (dStr.inv hu12 (rfl:(ksStr s3.2.2).length=(ksStr s3.2.2).length)) (rfl:(ksStr s3.2.2).length=(ksStr s3.2.2).length)) (A (A (A (A (dStr.rows s3.2.2) (dStr.ixr he13)) (rfl:(ksStr s3.2.2).length=(ksStr s3.2.2).length)) (dStr.seti s3.2.2 (Int.toNat s3.1) e9)) T)) [(0,.vs (.low 1) 1 ((ksStr s3.2.2).length))] [.o 1 (.vec 9 1 (ksStr (s3.2.2.set (Int.toNat s3.1) e9)))] ?_;refine .rn (by simp only[dStr.length,List.length_set]:(ksStr s3.2.2).length=(ksStr (s3.2.2.set (Int.toNat s3.1) e9)).length) (fun nk14=>[(0,.vs (.low 1) 1 nk14)]) (fun nk14=>[]) (fun nk14=>[]) (by kernel_rfl) ?_;refine .a [.pl] T [(5,iE (w64 (s3.1+1)))] ?_;cases h2;exact .lg hj2 []
    ·cases h2;exact .lg hj2 []
  ·obtain⟨z15,hz15,h1⟩:=bnd h1;refine .clr (xs:=ksStr s3.2.2) rfl rfl rfl rfl rfl rfl rfl rfl (dStr.cl1 hz15 (rfl:(ksStr s3.2.2).length=(ksStr s3.2.2).length)) (rfl:(ksStr s3.2.2).length=(ksStr s3.2.2).length) (dStr.rows _) (ksStr z15) (dStr.cl2 hz15 (rfl:(ksStr s3.2.2).length=(ksStr s3.2.2).length)) ?_;refine .rn (by rw[dStr.length,dStr.length,clI_len hz15]:(ksStr s3.2.2).length=(ksStr z15).length) (fun nk16=>[(0,.vs (.low 1) 1 nk16)]) (fun nk16=>[]) (fun nk16=>[]) (by kernel_rfl) ?_;obtain⟨z17,hz17,h1⟩:=bnd h1;refine .aq [.sv (ksStr z17)] [] (A (dStr.tk hz17 (rfl:(ksStr z15).length=(ksStr z15).length)) T) [(4,.vs (.own 100041) 1 ((ksStr z17).length))] [.o 100041 (.vec 9 1 (ksStr z17))] [.o 1 (.tok 9223372036854775808 9)] ?_;refine .kp [4] [] ?_;refine .ft 4 100041 [] dStr z17 (rfl:(ksStr z17).length=(ksStr z17).length) (by kernel_rfl) ?_;cases h1;cases hw1 _ rfl;exact .rt hK
theorem w_slices_Clone_string_o (n:Nat):∀(a0:List (List UInt8)) {r:List (List UInt8)},slices_Clone_string n a0=some r→SCall X.E 43 [lE 1 (ksStr a0)] [none] (.vs (.low 0) 1 ((ksStr r).length)) [.vec 9 1 (ksStr r)]:=by
 intro a0 r h0;rw[slices_Clone_string] at h0;refine .m Tryd.func43 rfl rfl rfl (by kernel_rfl) (fun L ks low K hl hL hlen hK=>?_);refine .r [] T [] rfl (by kernel_rfl) ?_;refine .nq rfl (by kernel_rfl) rfl rfl (fun e=>?_) ?_
 ·have e:a0=[]:=by cases a0 with
   | nil=>rfl
   | cons x q=>rw[dStr.eq] at e; cases e
  subst e;have e:r=[]:=by simp[apB] at h0; exact h0
  subst e;refine .cB true rfl (by kernel_rfl) ?_;refine .r [] T [(2,fE 1 (ksStr []))] rfl (by kernel_rfl) ?_;refine .kp [2] [] ?_;refine .owV 2 400002 9 [] rfl rfl (by kernel_rfl) ?_;refine .mv 2 400002 0 [] (by kernel_rfl) ?_;exact .ret rfl rfl (by kernel_rfl) hK
 ·refine .cB false rfl (by kernel_rfl) ?_;obtain⟨z1,hz1,h0⟩:=bnd h0;refine .rf [.sv (ksStr []),.mv 7,.sv (ksStr z1)] (A (dStr.lit []) (A (dStr.ap0 hz1) T)) [(2,.vs (.own 100007) 1 (ksStr z1).length)] [.o 100007 (.vec 9 1 (ksStr z1))] rfl (by kernel_rfl) ?_;refine .kp [2] [] ?_;cases h0;refine .mv 2 100007 0 [] (by kernel_rfl) ?_;exact .ret rfl rfl (by kernel_rfl) hK
theorem w_im_LibraryNames_o (n:Nat):∀{r:List (List UInt8)},im_LibraryNames n  = some r→SCall X.E 13 [] [none] (.vs (.low 0) 1 ((ksStr r).length)) [.vec 9 1 (ksStr r)]:=by
 intro  r h0;rw[im_LibraryNames] at h0;refine .n Tryd.func13 (fun L ks low K hl hL hlen hK=>?_);refine .a [] T [] ?_;obtain⟨k1,hk1,h0⟩:=bnd h0;refine .af [.call [.own 300020] (.vs (.low 0) 1 ((ksStr k1).length)) [.vec 9 1 (ksStr k1)]] (A (w_slices_Clone_string_o n _ hk1) T) [(0,.vs (.own 300020) 1 ((ksStr k1).length))] [.o 300020 (.vec 9 1 (ksStr k1))] ?_;refine .kp [0] [] ?_;refine .mv 0 300020 0 [] (by kernel_rfl) ?_;cases h0;exact .rt hK
def im_NeededMacros (n:Nat) (a0:Form):Option (List (List UInt8)):=
 (im_NamesOf n a0).bind fun k1=>(im_LibraryNames n).bind fun k2=>(slices_DeleteFunc_string__im_NeededMacros_1_v n k2 k1).bind fun k3=>some k3
theorem w_im_NeededMacros (n:Nat):∀(a0:Form) {r:List (List UInt8)},im_NeededMacros n a0=some r→SCall X.E 25 [aE (kForm a0)] [] (lE 1 (ksStr r)) []:=by
 intro a0 r h0;rw[im_NeededMacros] at h0;refine .n Tryd.func25 (fun L ks low K hl hL hlen hK=>?_);refine .af [] T [(1,pw 1)] [.o 1 (.cells ((kForm a0).map .d))] ?_;obtain⟨k1,hk1,h0⟩:=bnd h0;refine .af [.call [] (lE 1 (ksStr k1)) []] (A (w_im_NamesOf n _ hk1) T) [(3,pw 3)] [.o 3 (.cells [lE 1 (ksStr k1)])] ?_;obtain⟨k2,hk2,h0⟩:=bnd h0;obtain⟨k3,hk3,h0⟩:=bnd h0;refine .af [.call [.own 300060] (.vs (.low 0) 1 ((ksStr k2).length)) [.vec 9 1 (ksStr k2)],.call [.own 3,.own 300060] (lE 1 (ksStr k3)) [.cells [lE 1 (ksStr k1)],.tok 9223372036854775808 9]] (A (w_im_LibraryNames_o n  hk2) (A (w_slices_DeleteFunc_string__im_NeededMacros_1_v n _ _ hk3) T)) [(2,lE 1 (ksStr k3))] [.o 300060 (.tok 9223372036854775808 9)] ?_;cases h0;exact .rt hK
theorem w_slices_DeleteFunc_string__im_NeededMacros_1_v_o (n:Nat):∀(a0:List (List UInt8)) (w0:List (List UInt8)) {r:List (List UInt8)},slices_DeleteFunc_string__im_NeededMacros_1_v n a0 w0=some r→SCall X.E 55 [.vs (.low 1) 1 ((ksStr a0).length),.clo 56 [] [pl 0]] [some (.cells [lE 1 (ksStr w0)]),some (.vec 9 1 (ksStr a0)),none] (.vs (.low 2) 1 ((ksStr r).length)) [.cells [lE 1 (ksStr w0)],.tok 9223372036854775808 9,.vec 9 1 (ksStr r)]:=by
 intro a0 w0 r h0;rw[slices_DeleteFunc_string__im_NeededMacros_1_v] at h0;refine .n Tryd.func55 (fun L ks low K hl hL hlen hK=>?_);refine .a [] T [] ?_;obtain⟨k1,hk1,h0⟩:=bnd h0;refine .a [.call [.low 0,.low 1] (iE k1) [.cells [lE 1 (ksStr w0)],.vec 9 1 (ksStr a0)]] (A (w_slices_IndexFunc_string__im_NeededMacros_1_v n _ _ hk1) T) [(5,iE k1)] ?_;refine .a [] T [(12,dE (k1=(-1)))] ?_;refine .jP h0 (fun hc2 h0=>?_) (fun hc2 h0=>?_)
 ·refine .a [] T [(4,.vs (.low 1) 1 ((ksStr a0).length))] ?_;refine .kp [4] [] ?_;refine .ct 4 1 500004 [] (rfl:(ksStr a0).length=(ksStr a0).length) (by kernel_rfl) ?_;refine .mv 4 500004 2 [] (by kernel_rfl) ?_;cases h0;exact .rt hK
 ·refine .a [.pl] T [(6,iE (w64 (k1+1)))] ?_;refine .it h0 rfl [1] (fun s3=>[(0,.vs (.low 1) 1 ((ksStr s3.2.2).length)),(5,iE s3.1),(6,iE s3.2.1)]) n1 (fun s3=>[.o 1 (.vec 9 1 (ksStr s3.2.2))]) [] (by kernel_rfl) (fun nk4 s3 h0=>?_);obtain⟨y1,h1,hw1,hn1⟩:=iter_cons h0;refine .a [.v (s3.2.2.length:Int)] (A (dStr.len' s3.2.2) T) [(19,dE (s3.2.1<(s3.2.2.length:Int)))] ?_;refine .snV 0 dStr s3.2.2 (by kernel_rfl) (fun hb5=>?_);refine .jP h1 (fun hc6 h1=>?_) (fun hc6 h1=>?_)
  ·refine .bPB h1 rfl [1,6] (fun o7=>[(0,.vs (.low 1) 1 ((ksStr o7.2).length)),(5,iE o7.1)]) n1 (fun o7=>[.o 1 (.vec 9 1 (ksStr o7.2))]) (fun o7 h1=>?_) (fun y2 h2 hj2=>?_)
   ·refine .a [.pl] T [(6,iE (w64 (s3.2.1+1)))] ?_;cases h1;exact .nI rfl _ (hn1 _ rfl) [] (by kernel_rfl)
   ·obtain⟨u8,hu8,h2⟩:=bnd h2;obtain⟨e9,he9,h2⟩:=bnd h2;refine .a [.cs [.s e9]] (A (A (dStr.inv hu8 (rfl:(ksStr s3.2.2).length=(ksStr s3.2.2).length)) (rfl:(ksStr s3.2.2).length=(ksStr s3.2.2).length)) (A (A (A (dStr.rows s3.2.2) (dStr.ixr he9)) (rfl:(ksStr s3.2.2).length=(ksStr s3.2.2).length)) T)) [(7,sE e9)] ?_;obtain⟨k10,hk10,h2⟩:=bnd h2;refine .a [.call [.low 0] (bE k10) [.cells [lE 1 (ksStr w0)]]] (A (w_im_NeededMacros_1 n _ _ hk10) T) [(29,bE (!k10))] ?_;refine .jT h2 (fun hc11 h2=>?_) (fun hc11 h2=>?_)
    ·obtain⟨u12,hu12,h2⟩:=bnd h2;obtain⟨e13,he13,h2⟩:=bnd h2;refine .ao [.cs [.s e13],.sv (ksStr (s3.2.2.set (Int.toNat s3.1) e9))] (A (A (dStr.inv hu12 (rfl:(ksStr s3.2.2).length=(ksStr s3.2.2).length)) (rfl:(ksStr s3.2.2).length=(ksStr s3.2.2).length)) (A (A (A (A (dStr.rows s3.2.2) (dStr.ixr he13)) (rfl:(ksStr s3.2.2).length=(ksStr s3.2.2).length)) (dStr.seti s3.2.2 (Int.toNat s3.1) e9)) T)) [(0,.vs (.low 1) 1 ((ksStr s3.2.2).length))] [.o 1 (.vec 9 1 (ksStr (s3.2.2.set (Int.toNat s3.1) e9)))] ?_;refine .rn (by simp only[dStr.length,List.length_set]:(ksStr s3.2.2).length=(ksStr (s3.2.2.set (Int.toNat s3.1) e9)).length) (fun nk14=>[(0,.vs (.low 1) 1 nk14)]) (fun nk14=>[]) (fun nk14=>[]) (by kernel_rfl) ?_;refine .a [.pl] T [(5,iE (w64 (s3.1+1)))] ?_;cases h2;exact .lg hj2 []
    ·cases h2;exact .lg hj2 []
  ·obtain⟨z15,hz15,h1⟩:=bnd h1;refine .clr (xs:=ksStr s3.2.2) rfl rfl rfl rfl rfl rfl rfl rfl (dStr.cl1 hz15 (rfl:(ksStr s3.2.2).length=(ksStr s3.2.2).length)) (rfl:(ksStr s3.2.2).length=(ksStr s3.2.2).length) (dStr.rows _) (ksStr z15) (dStr.cl2 hz15 (rfl:(ksStr s3.2.2).length=(ksStr s3.2.2).length)) ?_;refine .rn (by rw[dStr.length,dStr.length,clI_len hz15]:(ksStr s3.2.2).length=(ksStr z15).length) (fun nk16=>[(0,.vs (.low 1) 1 nk16)]) (fun nk16=>[]) (fun nk16=>[]) (by kernel_rfl) ?_;obtain⟨z17,hz17,h1⟩:=bnd h1;refine .aq [.sv (ksStr z17)] [] (A (dStr.tk hz17 (rfl:(ksStr z15).length=(ksStr z15).length)) T) [(4,.vs (.own 100041) 1 ((ksStr z17).length))] [.o 100041 (.vec 9 1 (ksStr z17))] [.o 1 (.tok 9223372036854775808 9)] ?_;refine .kp [4] [] ?_;refine .mv 4 100041 2 [] (by kernel_rfl) ?_;cases h1;cases hw1 _ rfl;exact .rt hK
theorem w_im_NeededMacros_o (n:Nat):∀(a0:Form) {r:List (List UInt8)},im_NeededMacros n a0=some r→SCall X.E 25 [aE (kForm a0)] [none] (.vs (.low 0) 1 ((ksStr r).length)) [.vec 9 1 (ksStr r)]:=by
 intro a0 r h0;rw[im_NeededMacros] at h0;refine .n Tryd.func25 (fun L ks low K hl hL hlen hK=>?_);refine .af [] T [(1,pw 1)] [.o 1 (.cells ((kForm a0).map .d))] ?_;obtain⟨k1,hk1,h0⟩:=bnd h0;refine .af [.call [] (lE 1 (ksStr k1)) []] (A (w_im_NamesOf n _ hk1) T) [(3,pw 3)] [.o 3 (.cells [lE 1 (ksStr k1)])] ?_;obtain⟨k2,hk2,h0⟩:=bnd h0;obtain⟨k3,hk3,h0⟩:=bnd h0;refine .af [.call [.own 300060] (.vs (.low 0) 1 ((ksStr k2).length)) [.vec 9 1 (ksStr k2)],.call [.own 3,.own 300060,.own 300080] (.vs (.low 2) 1 ((ksStr k3).length)) [.cells [lE 1 (ksStr k1)],.tok 9223372036854775808 9,.vec 9 1 (ksStr k3)]] (A (w_im_LibraryNames_o n  hk2) (A (w_slices_DeleteFunc_string__im_NeededMacros_1_v_o n _ _ hk3) T)) [(2,.vs (.own 300080) 1 ((ksStr k3).length))] [.o 300060 (.tok 9223372036854775808 9),.o 300080 (.vec 9 1 (ksStr k3))] ?_;refine .kp [2] [] ?_;refine .dr 1 (by kernel_rfl) ?_;refine .dr 3 (by kernel_rfl) ?_;refine .dr 300060 (by kernel_rfl) ?_;refine .mv 2 300080 0 [] (by kernel_rfl) ?_;cases h0;exact .rt hK
end Go.Ev
