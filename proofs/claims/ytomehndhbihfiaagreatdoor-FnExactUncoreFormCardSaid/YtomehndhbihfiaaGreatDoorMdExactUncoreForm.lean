/- Models of functions. No condition. -/
import Derived.Test.YtomehndhbihfiaaGreatDoorEvTri
import Derived.Test.YtomehndhbihfiaaGreatDoorNumP
import Derived.Test.YtomehndhbihfiaaGreatDoorNumR9
import Derived.Test.YtomehndhbihfiaaGreatDoorProg
import Derived.KernelRfl
import Derived.Test.YtomehndhbihfiaaGreatDoorShR9
namespace Go.Ev
open Go.Proofs Go.Mx
set_option linter.unusedVariables false
set_option maxRecDepth 10000
def tT:List (Nat×(Nat×Nat×Shp)):=[(3,(1,8,.int .i64)),(5,(1,1,.int .u8)),(9,(1,16,.str)),(21,(1,4,.int .i32)),(22,(1,24,.slice 3)),(23,(1,24,.slice 25)),(25,(5,80,.struct [(0,1),(1,1),(2,1),(3,1),(4,1)])),(26,(1,24,.slice 28)),(28,(11,168,.struct [(0,1),(1,1),(2,1),(3,1),(4,1),(5,5),(10,1)])),(30,(1,24,.slice 32)),(32,(5,80,.struct [(0,1),(1,1),(2,1),(3,1),(4,1)])),(35,(1,24,.slice 37)),(37,(11,168,.struct [(0,1),(1,1),(2,1),(3,1),(4,1),(5,5),(10,1)])),(44,(1,24,.slice 5)),(46,(1,24,.slice 9)),(64,(5,80,.array 5 9))]
def tZ:List (Nat×List KD):=[(3,[.v (.int .i64 0)]),(5,[.v (.int .u8 0)]),(9,[.s []]),(21,[.v (.int .i32 0)]),(22,[.sl 1 true (ksInt [])]),(32,[.v (.int .i64 0),.s [],.v (.int .i64 0),.sl 1 true (ksInt []),.sl 5 true (ksForm [])]),(37,[.v (.int .i64 0),.v (.int .i64 0),.s [],.v (.int .i64 0),.sl 1 true (ksInt []),.v (.int .i64 0),.s [],.v (.int .i64 0),.sl 1 true (ksInt []),.sl 5 true (ksForm []),.sl 11 true (ksCore [])])]
theorem tT_ok:allT (fun i x=>tShape Tryz.prog i=some x) tT:=by
 refine⟨?_,?_,?_,?_,?_,?_,?_,?_,?_,?_,?_,?_,?_,?_,?_,?_,trivial⟩ <;> (show tShape _ _=_; kernel_rfl)
theorem tZ_ok:allT (fun i x=>∃zs,tZero Tryz.prog i=some zs∧ZeroL (KD.DL x) zs) tZ:=
 ⟨⟨_,(by kernel_rfl:tZero Tryz.prog 3=some [.int .i64 0]),(.v .nil)⟩,⟨_,(by kernel_rfl:tZero Tryz.prog 5=some [.int .u8 0]),(.v .nil)⟩,⟨_,(by kernel_rfl:tZero Tryz.prog 9=some [.string (mkS [])]),(.v .nil)⟩,⟨_,(by kernel_rfl:tZero Tryz.prog 21=some [.int .i32 0]),(.v .nil)⟩,⟨_,(by kernel_rfl:tZero Tryz.prog 22=some [.slice none 0 0]),(.sl .nil)⟩,⟨_,(by kernel_rfl:tZero Tryz.prog 32=some [.int .i64 0,.string (mkS []),.int .i64 0,.slice none 0 0,.slice none 0 0]),(.v (.v (.v (.sl (.sl .nil)))))⟩,⟨_,(by kernel_rfl:tZero Tryz.prog 37=some [.int .i64 0,.int .i64 0,.string (mkS []),.int .i64 0,.slice none 0 0,.int .i64 0,.string (mkS []),.int .i64 0,.slice none 0 0,.slice none 0 0,.slice none 0 0]),(.v (.v (.v (.v (.sl (.v (.v (.v (.sl (.sl (.sl .nil)))))))))))⟩,trivial⟩
def lp0:List (List UInt8):=[[108,97,109,98,100,97],[105,102],[113,117,111,116,101],[108,101,116],[108,101,116,45,115,121,110,116,97,120]]
def gp0:List KD:=[.s [108,97,109,98,100,97],.s [105,102],.s [113,117,111,116,101],.s [108,101,116],.s [108,101,116,45,115,121,110,116,97,120]]
def globK:Nat→KD
 | 0=>.ro gp0
 | 1=>.gb fun vs=>∃tp x,vs[0]? = some (.iface tp x)
 | 3=>.gb fun vs=>vs=(Lib.pow10Tab.map fun z=>Go.Value.int .u64 z).toArray
 | _=>.any
noncomputable def E0:Setting:=⟨Tryz.prog,fun g=>(globK g).D,fun g=>KD.keyless _ _⟩
noncomputable def X:Ctx:=⟨E0,globK,fun _=>rfl,⟨lkT tT,lkT tZ,lk_all tT_ok,lk_all tZ_ok⟩⟩
theorem mixed:X.E.P.follows .mixedOrders=true:=by kernel_rfl
def q92233720e12c:List UInt8:=[45,57,50,50,51,51,55,50,48,51,54,56,53,52,55,55,53,56,48,56]
def qletsynta5388:List UInt8:=[108,101,116,45,115,121,110,116,97,120]
def la_szIntS (n:Nat) (a0:List Int) (a1:Int):Option (Int):=
 (if(w64 (a1-(a0.length:Int)))<0 then some (-1) else some (w64 (a1-(a0.length:Int))))
theorem w_la_szIntS (n:Nat):∀(a0:List Int) (a1:Int) {r:Int},la_szIntS n a0 a1=some r→SCall X.E 19 [lE 1 (ksInt a0),iE a1] [] (iE r) []:=by
 intro a0 a1 r h0;rw[la_szIntS] at h0;refine .n Tryz.func19 (fun L ks low K hl hL hlen hK=>?_);refine .a [] T [] ?_;refine .a [.v (a0.length:Int),.pl] (A (dInt.len' a0) T) [(1,iE (w64 (a1-(a0.length:Int))))] ?_;refine .sn 0 dInt a0 (by kernel_rfl) (fun hb1=>?_);refine .a [] T [(10,dE ((w64 (a1-(a0.length:Int)))<0))] ?_;refine .jP h0 (fun hc2 h0=>?_) (fun hc2 h0=>?_)
 ·refine .a [] T [(4,iE (-1))] ?_;cases h0;exact .rt hK
 ·refine .a [] T [(4,iE (w64 (a1-(a0.length:Int))))] ?_;cases h0;exact .rt hK
mutual
def la_szForm:Nat→Form→Int→Option (Int)
 | 0,_,_=>none
 | n+1,a0,a1=>(if(w64 (a1-(a0.name.length:Int)))<0 then some (-1) else(la_szIntS n a0.scopes (w64 (a1-(a0.name.length:Int)))).bind fun k2=>(if k2<0 then some (-1) else(la_szFormS n a0.kids k2).bind fun k4=>(if k4<0 then some (-1) else some k4)))
def la_szFormS:Nat→(List Form)→Int→Option (Int)
 | 0,_,_=>none
 | n+1,a0,a1=>(if(w64 (a1-(a0.length:Int)))<0 then some (-1) else seqS (forI (fun(s4:Int) (i3:Nat) (x6:Form)=>((la_szForm n x6 s4).bind fun k11=>(if k11<0 then some (Sum.inl (-1)) else some (Sum.inr k11)):Option (Int⊕Int))) 0 a0 (w64 (a1-(a0.length:Int)))) (fun(s4:Int)=>some s4))
end
theorem g_la_szForm (n:Nat):(∀(a0:Form) (a1:Int) {r:Int},la_szForm n a0 a1=some r→SCall X.E 20 [aE (kForm a0),iE a1] [] (iE r) [])∧(∀(a0:List Form) (a1:Int) {r:Int},la_szFormS n a0 a1=some r→SCall X.E 53 [lE 5 (ksForm a0),iE a1] [] (iE r) []):=by
 induction n with
 | zero=>exact⟨(by intros; rename_i h; cases h),(by intros; rename_i h; cases h)⟩
 | succ n ih=>
  refine⟨?_,?_⟩
  ·intro a0 a1 r h0;rw[la_szForm] at h0;refine .n Tryz.func20 (fun L ks low K hl hL hlen hK=>?_);refine .af [] T [(2,pw 2)] [.o 2 (.cells ((kForm a0).map .d))] ?_;refine .a [.pl] T [(1,iE (w64 (a1-(a0.name.length:Int))))] ?_;refine .a [] T [(11,dE ((w64 (a1-(a0.name.length:Int)))<0))] ?_;refine .jP h0 (fun hc1 h0=>?_) (fun hc1 h0=>?_)
   ·refine .a [] T [(4,iE (-1))] ?_;cases h0;exact .rt hK
   ·obtain⟨k2,hk2,h0⟩:=bnd h0;refine .a [.call [] (iE k2) []] (A (w_la_szIntS n _ _ hk2) T) [(1,iE k2)] ?_;refine .a [] T [(17,dE (k2<0))] ?_;refine .jP h0 (fun hc3 h0=>?_) (fun hc3 h0=>?_)
    ·refine .a [] T [(4,iE (-1))] ?_;cases h0;exact .rt hK
    ·obtain⟨k4,hk4,h0⟩:=bnd h0;refine .a [.call [] (iE k4) []] (A (ih.2 _ _ hk4) T) [(1,iE k4)] ?_;refine .a [] T [(23,dE (k4<0))] ?_;refine .jP h0 (fun hc5 h0=>?_) (fun hc5 h0=>?_)
     ·refine .a [] T [(4,iE (-1))] ?_;cases h0;exact .rt hK
     ·refine .a [] T [(4,iE k4)] ?_;cases h0;exact .rt hK
  ·intro a0 a1 r h0;rw[la_szFormS] at h0;refine .n Tryz.func53 (fun L ks low K hl hL hlen hK=>?_);refine .a [] T [] ?_;refine .a [.v (a0.length:Int),.pl] (A (dForm.len' a0) T) [(1,iE (w64 (a1-(a0.length:Int))))] ?_;refine .sn 0 dForm a0 (by kernel_rfl) (fun hb1=>?_);refine .a [] T [(11,dE ((w64 (a1-(a0.length:Int)))<0))] ?_;refine .jP h0 (fun hc2 h0=>?_) (fun hc2 h0=>?_)
   ·refine .a [] T [(4,iE (-1))] ?_;cases h0;exact .rt hK
   ·refine .a [] T [(5,iE 0)] ?_;refine .lI h0 rfl [0] (fun i3 s4=>[(1,iE s4),(5,iE (i3:Int))]) n2 n2 [] (by kernel_rfl) (fun i3 s4 q5 hd7 hi9 h0=>?_);refine .a [.v (a0.length:Int)] (A (dForm.len' a0) T) [(15,dE ((i3:Int)<(a0.length:Int)))] ?_;refine .lc hd7 rfl (by kernel_rfl) (fun x6 q52 hc10 hx6 hd8 hd8l=>?_) (fun hc10=>?_)
    ·subst hc10;obtain⟨y1,h1,hw1,hn1⟩:=forI_cons h0;obtain⟨k11,hk11,h1⟩:=bnd h1;refine .a [.cs (kForm x6),.call [] (iE k11) []] (A (dForm.idn hx6) (A (ih.1 _ _ hk11) T)) [(1,iE k11)] ?_;refine .a [] T [(25,dE (k11<0))] ?_;refine .jP h1 (fun hc12 h1=>?_) (fun hc12 h1=>?_)
     ·refine .a [] T [(4,iE (-1))] ?_;cases h1;cases hw1 _ rfl;exact .rt hK
     ·refine .a [.v ((i3+1:Nat):Int)] (A (wn (i:=i3) (by omega)) T) [(5,iE ((i3+1:Nat):Int))] ?_;cases h1;exact .nL rfl (i3+1) _ hd8 hd8l (hn1 _ rfl) [] (by kernel_rfl)
    ·subst hc10;have h0:=forI_nil h0;refine .a [] T [(4,iE s4)] ?_;cases h0;exact .rt hK
theorem w_la_szForm (n:Nat):∀(a0:Form) (a1:Int) {r:Int},la_szForm n a0 a1=some r→SCall X.E 20 [aE (kForm a0),iE a1] [] (iE r) []:=(g_la_szForm n).1
theorem w_la_szFormS (n:Nat):∀(a0:List Form) (a1:Int) {r:Int},la_szFormS n a0 a1=some r→SCall X.E 53 [lE 5 (ksForm a0),iE a1] [] (iE r) []:=(g_la_szForm n).2
mutual
def la_szCore:Nat→Core→Int→Option (Int)
 | 0,_,_=>none
 | n+1,a0,a1=>(if(w64 (a1-(a0.name.length:Int)))<0 then some (-1) else(la_szIntS n a0.ids (w64 (a1-(a0.name.length:Int)))).bind fun k2=>(if k2<0 then some (-1) else(la_szForm n a0.data k2).bind fun k4=>(if k4<0 then some (-1) else(la_szCoreS n a0.kids k4).bind fun k6=>(if k6<0 then some (-1) else some k6))))
def la_szCoreS:Nat→(List Core)→Int→Option (Int)
 | 0,_,_=>none
 | n+1,a0,a1=>(if(w64 (a1-(a0.length:Int)))<0 then some (-1) else seqS (forI (fun(s4:Int) (i3:Nat) (x6:Core)=>((la_szCore n x6 s4).bind fun k11=>(if k11<0 then some (Sum.inl (-1)) else some (Sum.inr k11)):Option (Int⊕Int))) 0 a0 (w64 (a1-(a0.length:Int)))) (fun(s4:Int)=>some s4))
end
theorem g_la_szCore (n:Nat):(∀(a0:Core) (a1:Int) {r:Int},la_szCore n a0 a1=some r→SCall X.E 5 [aE (kCore a0),iE a1] [] (iE r) [])∧(∀(a0:List Core) (a1:Int) {r:Int},la_szCoreS n a0 a1=some r→SCall X.E 21 [lE 11 (ksCore a0),iE a1] [] (iE r) []):=by
 induction n with
 | zero=>exact⟨(by intros; rename_i h; cases h),(by intros; rename_i h; cases h)⟩
 | succ n ih=>
  refine⟨?_,?_⟩
  ·intro a0 a1 r h0;rw[la_szCore] at h0;refine .n Tryz.func5 (fun L ks low K hl hL hlen hK=>?_);refine .af [] T [(2,pw 2)] [.o 2 (.cells ((kCore a0).map .d))] ?_;refine .a [.pl] T [(1,iE (w64 (a1-(a0.name.length:Int))))] ?_;refine .a [] T [(11,dE ((w64 (a1-(a0.name.length:Int)))<0))] ?_;refine .jP h0 (fun hc1 h0=>?_) (fun hc1 h0=>?_)
   ·refine .a [] T [(4,iE (-1))] ?_;cases h0;exact .rt hK
   ·obtain⟨k2,hk2,h0⟩:=bnd h0;refine .a [.call [] (iE k2) []] (A (w_la_szIntS n _ _ hk2) T) [(1,iE k2)] ?_;refine .a [] T [(17,dE (k2<0))] ?_;refine .jP h0 (fun hc3 h0=>?_) (fun hc3 h0=>?_)
    ·refine .a [] T [(4,iE (-1))] ?_;cases h0;exact .rt hK
    ·obtain⟨k4,hk4,h0⟩:=bnd h0;refine .a [.call [] (iE k4) []] (A (w_la_szForm n _ _ hk4) T) [(1,iE k4)] ?_;refine .a [] T [(23,dE (k4<0))] ?_;refine .jP h0 (fun hc5 h0=>?_) (fun hc5 h0=>?_)
     ·refine .a [] T [(4,iE (-1))] ?_;cases h0;exact .rt hK
     ·obtain⟨k6,hk6,h0⟩:=bnd h0;refine .a [.call [] (iE k6) []] (A (ih.2 _ _ hk6) T) [(1,iE k6)] ?_;refine .a [] T [(29,dE (k6<0))] ?_;refine .jP h0 (fun hc7 h0=>?_) (fun hc7 h0=>?_)
      ·refine .a [] T [(4,iE (-1))] ?_;cases h0;exact .rt hK
      ·refine .a [] T [(4,iE k6)] ?_;cases h0;exact .rt hK
  ·intro a0 a1 r h0;rw[la_szCoreS] at h0;refine .n Tryz.func21 (fun L ks low K hl hL hlen hK=>?_);refine .a [] T [] ?_;refine .a [.v (a0.length:Int),.pl] (A (dCore.len' a0) T) [(1,iE (w64 (a1-(a0.length:Int))))] ?_;refine .sn 0 dCore a0 (by kernel_rfl) (fun hb1=>?_);refine .a [] T [(11,dE ((w64 (a1-(a0.length:Int)))<0))] ?_;refine .jP h0 (fun hc2 h0=>?_) (fun hc2 h0=>?_)
   ·refine .a [] T [(4,iE (-1))] ?_;cases h0;exact .rt hK
   ·refine .a [] T [(5,iE 0)] ?_;refine .lI h0 rfl [0] (fun i3 s4=>[(1,iE s4),(5,iE (i3:Int))]) n2 n2 [] (by kernel_rfl) (fun i3 s4 q5 hd7 hi9 h0=>?_);refine .a [.v (a0.length:Int)] (A (dCore.len' a0) T) [(15,dE ((i3:Int)<(a0.length:Int)))] ?_;refine .lc hd7 rfl (by kernel_rfl) (fun x6 q52 hc10 hx6 hd8 hd8l=>?_) (fun hc10=>?_)
    ·subst hc10;obtain⟨y1,h1,hw1,hn1⟩:=forI_cons h0;obtain⟨k11,hk11,h1⟩:=bnd h1;refine .a [.cs (kCore x6),.call [] (iE k11) []] (A (dCore.idn hx6) (A (ih.1 _ _ hk11) T)) [(1,iE k11)] ?_;refine .a [] T [(25,dE (k11<0))] ?_;refine .jP h1 (fun hc12 h1=>?_) (fun hc12 h1=>?_)
     ·refine .a [] T [(4,iE (-1))] ?_;cases h1;cases hw1 _ rfl;exact .rt hK
     ·refine .a [.v ((i3+1:Nat):Int)] (A (wn (i:=i3) (by omega)) T) [(5,iE ((i3+1:Nat):Int))] ?_;cases h1;exact .nL rfl (i3+1) _ hd8 hd8l (hn1 _ rfl) [] (by kernel_rfl)
    ·subst hc10;have h0:=forI_nil h0;refine .a [] T [(4,iE s4)] ?_;cases h0;exact .rt hK
theorem w_la_szCore (n:Nat):∀(a0:Core) (a1:Int) {r:Int},la_szCore n a0 a1=some r→SCall X.E 5 [aE (kCore a0),iE a1] [] (iE r) []:=(g_la_szCore n).1
theorem w_la_szCoreS (n:Nat):∀(a0:List Core) (a1:Int) {r:Int},la_szCoreS n a0 a1=some r→SCall X.E 21 [lE 11 (ksCore a0),iE a1] [] (iE r) []:=(g_la_szCore n).2
def sp_l1Count:Nat→Form→Option (Int)
 | 0,_=>none
 | n+1,a0=>Option.bind (forL (fun(s2:Int) (i1:Nat) (x4:Form)=>(sp_l1Count n x4).bind fun k10=>some (w64 (s2+k10))) 0 a0.kids 1) (fun(s2:Int)=>some s2)
theorem w_sp_l1Count (n:Nat):∀(a0:Form) {r:Int},sp_l1Count n a0=some r→SCall X.E 64 [aE (kForm a0)] [] (iE r) []:=by
 induction n with
 | zero=>intro a0 r h; cases h
 | succ n ih=>
  intro a0 r h0;rw[sp_l1Count] at h0;refine .n Tryz.func64 (fun L ks low K hl hL hlen hK=>?_);refine .af [] T [(1,pw 1)] [.o 1 (.cells ((kForm a0).map .d))] ?_;refine .a [] T [(3,iE 1)] ?_;refine .a [] T [(4,iE 0)] ?_;refine .lL h0 rfl [1] (fun i1 s2=>[(3,iE s2),(4,iE (i1:Int))]) n2 n2 [] (by kernel_rfl) (fun i1 s2 q3 hd5 hi7 h0=>?_);refine .a [.v (a0.kids.length:Int)] (A (dForm.len' a0.kids) T) [(7,lE 5 (ksForm a0.kids)),(9,dE ((i1:Int)<(a0.kids.length:Int)))] ?_;refine .sn 7 dForm a0.kids (by kernel_rfl) (fun hb8=>?_);refine .lc hd5 rfl (by kernel_rfl) (fun x4 q32 hc9 hx4 hd6 hd6l=>?_) (fun hc9=>?_)
  ·subst hc9;obtain⟨y1,h1,hn1⟩:=forL_cons h0;obtain⟨k10,hk10,h1⟩:=bnd h1;refine .a [.cs (kForm x4),.call [] (iE k10) [],.pl] (A (dForm.idn hx4) (A (ih _ hk10) T)) [(3,iE (w64 (s2+k10)))] ?_;refine .a [.v ((i1+1:Nat):Int)] (A (wn (i:=i1) (by omega)) T) [(4,iE ((i1+1:Nat):Int))] ?_;cases h1;exact .nL rfl (i1+1) _ hd6 hd6l hn1 [] (by kernel_rfl)
  ·subst hc9;have h0:=forL_nil h0;refine .a [] T [(2,iE s2)] ?_;cases h0;exact .rt hK
def sp_l1Letter (n:Nat) (a0:Int) (a1:Bool):Option (Bool):=
 Option.bind ((if a0≥97 then(if a0≤122 then some true else(if a0=42 then some true else(if a0=63 then some true else(if a0=61 then some true else(if a0=43 then some true else some (decide (a0=60))))))) else(if a0=42 then some true else(if a0=63 then some true else(if a0=61 then some true else(if a0=43 then some true else some (decide (a0=60))))))):Option (Bool)) (fun(o1:Bool)=>(if o1=true then some true else Option.bind ((if(!a1)=true then(if a0≥48 then(if a0≤57 then some true else some (decide (a0=45))) else some (decide (a0=45))) else some false):Option (Bool)) (fun(o3:Bool)=>some o3)))
theorem w_sp_l1Letter (n:Nat):∀(a0:Int) (a1:Bool) {r:Bool},sp_l1Letter n a0 a1=some r→SCall X.E 94 [.d (.v (.int .u8 a0)),bE a1] [] (bE r) []:=by
 intro a0 a1 r h0;rw[sp_l1Letter] at h0;refine .n Tryz.func94 (fun L ks low K hl hL hlen hK=>?_);refine .a [] T [] ?_;refine .bP h0 rfl [0,1] (fun o1=>[(30,bE o1)]) n1 n1 (fun o1 h0=>?_) (fun y1 h1 hj1=>?_)
 ·refine .jT h0 (fun hc2 h0=>?_) (fun hc2 h0=>?_)
  ·refine .a [] T [(4,bE true)] ?_;cases h0;exact .rt hK
  ·refine .bP h0 rfl [] (fun o3=>[(4,bE o3)]) n1 n1 (fun o3 h0=>?_) (fun y1 h1 hj1=>?_)
   ·cases h0;exact .rt hK
   ·by_cases g4:(!a1)=true
    ·have h1:=iteP g4 h1;by_cases g5:a0≥48
     ·have h1:=iteP g5 h1;by_cases g6:a0≤57
      ·have h1:=iteP g6 h1;refine .a (rb 13 true []) (R 3 g4 (R 2 (dt g5) (A (A g4 (dt g5)) (A g4 (R 2 (dt g6) (A (A g4 (dt g6)) (A g4 T))))))) [(4,bE true)] ?_;cases h1;exact .lg hj1 []
      ·have h1:=iteN g6 h1;refine .a (rb 8 true [.b false,.b false,.b true,.b false,.b true]) (R 3 g4 (R 2 (dt g5) (A (A g4 (dt g5)) (A g4 (R 2 (df g6) (A (A g4 (df g6)) (A g4 T))))))) [(4,dE (a0=45))] ?_;cases h1;exact .lg hj1 []
     ·have h1:=iteN g5 h1;refine .a (rb 3 true [.b false,.b false,.b true,.b false,.b true,.b false,.b false,.b true,.b false,.b true]) (R 3 g4 (R 2 (df g5) (A (A g4 (df g5)) (A g4 (R 2 B0 (A (A g4 B0) (A g4 T))))))) [(4,dE (a0=45))] ?_;cases h1;exact .lg hj1 []
    ·have h1:=iteN g4 h1;refine .a (rb 7 false []) (R 7 (Bool.eq_false_iff.2 g4) T) [(4,bE false)] ?_;cases h1;exact .lg hj1 []
 ·by_cases g7:a0≥97
  ·have h1:=iteP g7 h1;by_cases g8:a0≤122
   ·have h1:=iteP g8 h1;refine .a (rb 18 true []) (R 3 (dt g7) (R 3 (dt g8) (R 12 B1 T))) [(30,bE true)] ?_;cases h1;exact .lg hj1 []
   ·have h1:=iteN g8 h1;by_cases g9:a0=42
    ·have h1:=iteP g9 h1;refine .a (rb 3 true (rb 3 false (rb 12 true []))) (R 3 (dt g7) (R 3 (df g8) (R 3 (dt g9) (R 9 B1 T)))) [(30,bE true)] ?_;cases h1;exact .lg hj1 []
    ·have h1:=iteN g9 h1;by_cases g10:a0=63
     ·have h1:=iteP g10 h1;refine .a (rb 3 true (rb 6 false (rb 9 true []))) (R 3 (dt g7) (R 3 (df g8) (R 3 (df g9) (R 3 (dt g10) (R 6 B1 T))))) [(30,bE true)] ?_;cases h1;exact .lg hj1 []
     ·have h1:=iteN g10 h1;by_cases g11:a0=61
      ·have h1:=iteP g11 h1;refine .a (rb 3 true (rb 9 false (rb 6 true []))) (R 3 (dt g7) (R 3 (df g8) (R 3 (df g9) (R 3 (df g10) (R 3 (dt g11) (R 3 B1 T)))))) [(30,bE true)] ?_;cases h1;exact .lg hj1 []
      ·have h1:=iteN g11 h1;by_cases g12:a0=43
       ·have h1:=iteP g12 h1;refine .a (rb 3 true (rb 12 false (rb 3 true []))) (R 3 (dt g7) (R 3 (df g8) (R 3 (df g9) (R 3 (df g10) (R 3 (df g11) (R 3 (dt g12) T)))))) [(30,bE true)] ?_;cases h1;exact .lg hj1 []
       ·have h1:=iteN g12 h1;refine .a (rb 3 true (rb 15 false [])) (R 3 (dt g7) (R 3 (df g8) (R 3 (df g9) (R 3 (df g10) (R 3 (df g11) (R 3 (df g12) T)))))) [(30,dE (a0=60))] ?_;cases h1;exact .lg hj1 []
  ·have h1:=iteN g7 h1;by_cases g13:a0=42
   ·have h1:=iteP g13 h1;refine .a (rb 6 false (rb 12 true [])) (R 3 (df g7) (R 3 B0 (R 3 (dt g13) (R 9 B1 T)))) [(30,bE true)] ?_;cases h1;exact .lg hj1 []
   ·have h1:=iteN g13 h1;by_cases g14:a0=63
    ·have h1:=iteP g14 h1;refine .a (rb 9 false (rb 9 true [])) (R 3 (df g7) (R 3 B0 (R 3 (df g13) (R 3 (dt g14) (R 6 B1 T))))) [(30,bE true)] ?_;cases h1;exact .lg hj1 []
    ·have h1:=iteN g14 h1;by_cases g15:a0=61
     ·have h1:=iteP g15 h1;refine .a (rb 12 false (rb 6 true [])) (R 3 (df g7) (R 3 B0 (R 3 (df g13) (R 3 (df g14) (R 3 (dt g15) (R 3 B1 T)))))) [(30,bE true)] ?_;cases h1;exact .lg hj1 []
     ·have h1:=iteN g15 h1;by_cases g16:a0=43
      ·have h1:=iteP g16 h1;refine .a (rb 15 false (rb 3 true [])) (R 3 (df g7) (R 3 B0 (R 3 (df g13) (R 3 (df g14) (R 3 (df g15) (R 3 (dt g16) T)))))) [(30,bE true)] ?_;cases h1;exact .lg hj1 []
      ·have h1:=iteN g16 h1;refine .a (rb 18 false []) (R 3 (df g7) (R 3 B0 (R 3 (df g13) (R 3 (df g14) (R 3 (df g15) (R 3 (df g16) T)))))) [(30,dE (a0=60))] ?_;cases h1;exact .lg hj1 []
def sp_NameValid (n:Nat) (a0:List UInt8):Option (Bool):=
 Option.bind ((if a0=[46,46,46] then some true else some (decide (a0=[95]))):Option (Bool)) (fun(o1:Bool)=>(if o1=true then some true else iterM n (fun(s3:Int)=>(Option.bind ((if s3<(a0.length:Int) then some (decide (s3≤12)) else some false):Option (Bool)) (fun(o5:Bool)=>(if o5=true then(atI a0 s3).bind fun y7=>(sp_l1Letter n (y7.toNat:Int) (decide (s3=0))).bind fun k8=>(if(!k8)=true then some (Sum.inl false) else some (Sum.inr (w64 (s3+1)))) else Option.bind ((if(a0.length:Int)≥1 then some (decide ((a0.length:Int)≤12)) else some false):Option (Bool)) (fun(o10:Bool)=>some (Sum.inl o10)))):Option (Bool⊕Int))) 0))
theorem w_sp_NameValid (n:Nat):∀(a0:List UInt8) {r:Bool},sp_NameValid n a0=some r→SCall X.E 83 [sE a0] [] (bE r) []:=by
 intro a0 r h0;rw[sp_NameValid] at h0;refine .n Tryz.func83 (fun L ks low K hl hL hlen hK=>?_);refine .a [] T [] ?_;refine .bP h0 rfl [0] (fun o1=>[(9,bE o1)]) n1 n1 (fun o1 h0=>?_) (fun y1 h1 hj1=>?_)
 ·refine .jT h0 (fun hc2 h0=>?_) (fun hc2 h0=>?_)
  ·refine .a [] T [(2,bE true)] ?_;cases h0;exact .rt hK
  ·refine .a [] T [(3,iE 0)] ?_;refine .it h0 rfl [0] (fun s3=>[(3,iE s3)]) n1 n1 [] (by kernel_rfl) (fun nk4 s3 h0=>?_);obtain⟨y1,h1,hw1,hn1⟩:=iter_cons h0;refine .bP h1 rfl [0,3] (fun o5=>[(17,bE o5)]) n1 n1 (fun o5 h1=>?_) (fun y2 h2 hj2=>?_)
   ·refine .jT h1 (fun hc6 h1=>?_) (fun hc6 h1=>?_)
    ·obtain⟨y7,hy7,h1⟩:=bnd h1;obtain⟨k8,hk8,h1⟩:=bnd h1;refine .a [.by_ y7,.call [] (bE k8) []] (A (idy hy7) (A (w_sp_l1Letter n _ _ hk8) T)) [(26,bE (!k8))] ?_;refine .jT h1 (fun hc9 h1=>?_) (fun hc9 h1=>?_)
     ·refine .a [] T [(2,bE false)] ?_;cases h1;cases hw1 _ rfl;exact .rt hK
     ·refine .a [.pl] T [(3,iE (w64 (s3+1)))] ?_;cases h1;exact .nI rfl _ (hn1 _ rfl) [] (by kernel_rfl)
    ·refine .bP h1 rfl [] (fun o10=>[(2,bE o10)]) n1 n1 (fun o10 h1=>?_) (fun y2 h2 hj2=>?_)
     ·cases h1;cases hw1 _ rfl;exact .rt hK
     ·by_cases g11:(a0.length:Int)≥1
      ·have h2:=iteP g11 h2;refine .a (rb 4 true []) (R 4 (dt g11) T) [(2,dE ((a0.length:Int)≤12))] ?_;cases h2;exact .lg hj2 []
      ·have h2:=iteN g11 h2;refine .a (rb 4 false []) (R 4 (df g11) T) [(2,bE false)] ?_;cases h2;exact .lg hj2 []
   ·by_cases g12:s3<(a0.length:Int)
    ·have h2:=iteP g12 h2;refine .a (rb 3 true []) (R 3 (dt g12) T) [(17,dE (s3≤12))] ?_;cases h2;exact .lg hj2 []
    ·have h2:=iteN g12 h2;refine .a (rb 3 false []) (R 3 (df g12) T) [(17,bE false)] ?_;cases h2;exact .lg hj2 []
 ·by_cases g13:a0=[46,46,46]
  ·have h1:=iteP g13 h1;refine .a (rb 3 true []) (R 3 (dt g13) T) [(9,bE true)] ?_;cases h1;exact .lg hj1 []
  ·have h1:=iteN g13 h1;refine .a (rb 3 false []) (R 3 (df g13) T) [(9,dE (a0=[95]))] ?_;cases h1;exact .lg hj1 []
def sp_l1Scopes (n:Nat) (a0:List Int):Option (Bool):=
 iterM n (fun(s1:Int)=>(Option.bind ((if s1<(a0.length:Int) then some (decide (s1≤24)) else some false):Option (Bool)) (fun(o3:Bool)=>(if o3=true then Option.bind ((atI a0 s1).bind fun e7=>(if e7<1 then some true else(if e7>99 then some true else(if s1>0 then(atI a0 (w64 (s1-1))).bind fun e11=>some (decide (e7≤e11)) else some false))):Option (Bool)) (fun(o5:Bool)=>(if o5=true then some (Sum.inl false) else some (Sum.inr (w64 (s1+1))))) else some (Sum.inl (decide ((a0.length:Int)≤24))))):Option (Bool⊕Int))) 0
theorem w_sp_l1Scopes (n:Nat):∀(a0:List Int) {r:Bool},sp_l1Scopes n a0=some r→SCall X.E 84 [lE 1 (ksInt a0)] [] (bE r) []:=by
 intro a0 r h0;rw[sp_l1Scopes] at h0;refine .n Tryz.func84 (fun L ks low K hl hL hlen hK=>?_);refine .a [] T [] ?_;refine .a [] T [(3,iE 0)] ?_;refine .it h0 rfl [0] (fun s1=>[(3,iE s1)]) n1 n1 [] (by kernel_rfl) (fun nk2 s1 h0=>?_);obtain⟨y1,h1,hw1,hn1⟩:=iter_cons h0;refine .bP h1 rfl [0,3] (fun o3=>[(11,bE o3)]) n1 n1 (fun o3 h1=>?_) (fun y2 h2 hj2=>?_)
 ·refine .jT h1 (fun hc4 h1=>?_) (fun hc4 h1=>?_)
  ·refine .bP h1 rfl [0,3] (fun o5=>[(41,bE o5)]) n1 n1 (fun o5 h1=>?_) (fun y2 h2 hj2=>?_)
   ·refine .jT h1 (fun hc6 h1=>?_) (fun hc6 h1=>?_)
    ·refine .a [] T [(2,bE false)] ?_;cases h1;cases hw1 _ rfl;exact .rt hK
    ·refine .a [.pl] T [(3,iE (w64 (s1+1)))] ?_;cases h1;exact .nI rfl _ (hn1 _ rfl) [] (by kernel_rfl)
   ·obtain⟨e7,he7,h2⟩:=bnd h2;by_cases g8:e7<1
    ·have h2:=iteP g8 h2;refine .ad mixed ((2,[.cs [.v (.int .i64 e7)]])::(qb 6 6 true (qb 13 3 true (qb 26 2 true [])))) [] (A (dInt.idx he7) (R 6 (dt g8) (R 5 B1 T))) [(41,bE true)] [] [] ?_;cases h2;exact .lg hj2 []
    ·have h2:=iteN g8 h2;by_cases g9:e7>99
     ·have h2:=iteP g9 h2;refine .ad mixed ((2,[.cs [.v (.int .i64 e7)]])::(qb 6 2 false ((8,[.b false,.cs [.v (.int .i64 e7)]])::(qb 9 3 false (qb 13 3 true (qb 26 2 true [])))))) [] (A (dInt.idx he7) (R 2 (df g8) (A (A (df g8) (dInt.idx he7)) (R 3 (df g8) (R 5 (dt g9) T))))) [(41,bE true)] [] [] ?_;cases h2;exact .lg hj2 []
     ·have h2:=iteN g9 h2;by_cases g10:s1>0
      ·have h2:=iteP g10 h2;obtain⟨e11,he11,h2⟩:=bnd h2;refine .ad mixed ((2,[.cs [.v (.int .i64 e7)]])::(qb 6 2 false ((8,[.b false,.cs [.v (.int .i64 e7)]])::(qb 9 3 false (qb 13 3 false (qb 16 2 true ((18,[.b true,.cs [.v (.int .i64 e7)]])::(qb 19 3 true ((22,[.b true,.pl])::((23,[.b true,.cs [.v (.int .i64 e11)]])::(qb 24 2 true [(26,[.b false,.b true]),(27,[.b false])]))))))))))) [] (A (dInt.idx he7) (R 2 (df g8) (A (A (df g8) (dInt.idx he7)) (R 3 (df g8) (R 3 (df g9) (R 2 (dt g10) (A (A (dt g10) (dInt.idx he7)) (R 4 (dt g10) (A (A (dt g10) (dInt.idx he11)) (R 2 (dt g10) (A (A (df g9) (dt g10)) (A (df g9) T)))))))))))) [(41,dE (e7≤e11))] [] [] ?_;cases h2;exact .lg hj2 []
      ·have h2:=iteN g10 h2;refine .ad mixed ((2,[.cs [.v (.int .i64 e7)]])::(qb 6 2 false ((8,[.b false,.cs [.v (.int .i64 e7)]])::(qb 9 3 false (qb 13 13 false [(26,[.b false,.b false]),(27,[.b false])]))))) [] (A (dInt.idx he7) (R 2 (df g8) (A (A (df g8) (dInt.idx he7)) (R 3 (df g8) (R 3 (df g9) (R 10 (df g10) (A (A (df g9) (df g10)) (A (df g9) T)))))))) [(41,bE false)] [] [] ?_;cases h2;exact .lg hj2 []
  ·refine .a [.v (a0.length:Int)] (A (dInt.len' a0) T) [(2,dE ((a0.length:Int)≤24))] ?_;refine .sn 0 dInt a0 (by kernel_rfl) (fun hb12=>?_);cases h1;cases hw1 _ rfl;exact .rt hK
 ·by_cases g13:s1<(a0.length:Int)
  ·have h2:=iteP g13 h2;refine .a (.v (a0.length:Int)::(rb 3 true [])) (A (dInt.len' a0) (R 3 (dt g13) T)) [(11,dE (s1≤24))] ?_;refine .sn 0 dInt a0 (by kernel_rfl) (fun hb14=>?_);cases h2;exact .lg hj2 []
  ·have h2:=iteN g13 h2;refine .a (.v (a0.length:Int)::(rb 3 false [])) (A (dInt.len' a0) (R 3 (df g13) T)) [(11,bE false)] ?_;refine .sn 0 dInt a0 (by kernel_rfl) (fun hb15=>?_);cases h2;exact .lg hj2 []
def sp_l1Is:Nat→Form→Int→Option (Bool)
 | 0,_,_=>none
 | n+1,a0,a1=>(if a1=0 then some false else(if a0.kind=1 then Option.bind ((sp_NameValid n a0.name).bind fun k4=>(if k4=true then(if a0.n=0 then(sp_l1Scopes n a0.scopes).bind fun k7=>(if k7=true then some (decide ((a0.kids.length:Int)=0)) else some false) else some false) else some false):Option (Bool)) (fun(o3:Bool)=>some o3) else(if a0.kind=2 then Option.bind ((if a0.name=[] then(if a0.n≥0 then(if a0.n≤999 then(if(a0.scopes.length:Int)=0 then some (decide ((a0.kids.length:Int)=0)) else some false) else some false) else some false) else some false):Option (Bool)) (fun(o10:Bool)=>some o10) else Option.bind ((if ¬a0.kind=3 then some true else(if ¬a0.name=[] then some true else(if ¬a0.n=0 then some true else some (decide (¬(a0.scopes.length:Int)=0))))):Option (Bool)) (fun(o15:Bool)=>(if o15=true then some false else seqS (forI (fun(s18:Unit) (i17:Nat) (x20:Form)=>((sp_l1Is n x20 (w64 (a1-1))).bind fun k26=>(if(!k26)=true then some (Sum.inl false) else some (Sum.inr ())):Option (Bool⊕Unit))) 0 a0.kids ()) (fun(s18:Unit)=>some true))))))
theorem w_sp_l1Is (n:Nat):∀(a0:Form) (a1:Int) {r:Bool},sp_l1Is n a0 a1=some r→SCall X.E 63 [aE (kForm a0),iE a1] [] (bE r) []:=by
 induction n with
 | zero=>intro a0 a1 r h; cases h
 | succ n ih=>
  intro a0 a1 r h0;rw[sp_l1Is] at h0;refine .n Tryz.func63 (fun L ks low K hl hL hlen hK=>?_);refine .af [] T [(2,pw 2)] [.o 2 (.cells ((kForm a0).map .d))] ?_;refine .a [] T [(7,dE (a1=0))] ?_;refine .jP h0 (fun hc1 h0=>?_) (fun hc1 h0=>?_)
  ·refine .a [] T [(4,bE false)] ?_;cases h0;exact .rt hK
  ·refine .a [] T [(9,iE a0.kind)] ?_;refine .a [] T [(10,dE (a0.kind=1))] ?_;refine .jP h0 (fun hc2 h0=>?_) (fun hc2 h0=>?_)
   ·refine .bP h0 rfl [] (fun o3=>[(4,bE o3)]) n1 n1 (fun o3 h0=>?_) (fun y1 h1 hj1=>?_)
    ·cases h0;exact .rt hK
    ·obtain⟨k4,hk4,h1⟩:=bnd h1;by_cases g5:k4=true
     ·have h1:=iteP g5 h1;by_cases g6:a0.n=0
      ·have h1:=iteP g6 h1;obtain⟨k7,hk7,h1⟩:=bnd h1;by_cases g8:k7=true
       ·have h1:=iteP g8 h1;refine .a (.call [] (bE k4) []::(rb 7 true (.call [] (bE k7) []::(rb 4 true [.v (a0.kids.length:Int),.b true,.b true])))) (A (w_sp_NameValid n _ hk4) (R 4 g5 (R 2 (dt g6) (A (A (dt g6) (w_sp_l1Scopes n _ hk7)) (A (dt g6) (R 2 g8 (A (A g8 (dForm.len' a0.kids)) (R 2 g8 T)))))))) [(4,dE ((a0.kids.length:Int)=0))] ?_;cases h1;exact .lg hj1 []
       ·have h1:=iteN g8 h1;refine .a (.call [] (bE k4) []::(rb 7 true (.call [] (bE k7) []::(.b true::(rb 5 false []))))) (A (w_sp_NameValid n _ hk4) (R 4 g5 (R 2 (dt g6) (A (A (dt g6) (w_sp_l1Scopes n _ hk7)) (A (dt g6) (R 5 (Bool.eq_false_iff.2 g8) T)))))) [(4,bE false)] ?_;cases h1;exact .lg hj1 []
      ·have h1:=iteN g6 h1;refine .a (.call [] (bE k4) []::(rb 4 true (rb 9 false []))) (A (w_sp_NameValid n _ hk4) (R 4 g5 (R 4 (df g6) (R 5 B0 T)))) [(4,bE false)] ?_;cases h1;exact .lg hj1 []
     ·have h1:=iteN g5 h1;refine .a (.call [] (bE k4) []::(rb 13 false [])) (A (w_sp_NameValid n _ hk4) (R 4 (Bool.eq_false_iff.2 g5) (R 9 B0 T))) [(4,bE false)] ?_;cases h1;exact .lg hj1 []
   ·refine .a [] T [(31,dE (a0.kind=2))] ?_;refine .jP h0 (fun hc9 h0=>?_) (fun hc9 h0=>?_)
    ·refine .bP h0 rfl [] (fun o10=>[(4,bE o10)]) n1 n1 (fun o10 h0=>?_) (fun y1 h1 hj1=>?_)
     ·cases h0;exact .rt hK
     ·by_cases g11:a0.name=[]
      ·have h1:=iteP g11 h1;by_cases g12:a0.n≥0
       ·have h1:=iteP g12 h1;by_cases g13:a0.n≤999
        ·have h1:=iteP g13 h1;by_cases g14:(a0.scopes.length:Int)=0
         ·have h1:=iteP g14 h1;refine .a (rb 11 true (.v (a0.scopes.length:Int)::(rb 5 true [.v (a0.kids.length:Int),.b true,.b true]))) (R 4 (dt g11) (R 4 (dt g12) (R 2 (dt g13) (A (A (dt g13) (dInt.len' a0.scopes)) (R 2 (dt g13) (R 2 (dt g14) (A (A (dt g14) (dForm.len' a0.kids)) (R 2 (dt g14) T)))))))) [(4,dE ((a0.kids.length:Int)=0))] ?_;cases h1;exact .lg hj1 []
         ·have h1:=iteN g14 h1;refine .a (rb 11 true (.v (a0.scopes.length:Int)::(.b true::(.b true::(rb 5 false []))))) (R 4 (dt g11) (R 4 (dt g12) (R 2 (dt g13) (A (A (dt g13) (dInt.len' a0.scopes)) (R 2 (dt g13) (R 5 (df g14) T)))))) [(4,bE false)] ?_;cases h1;exact .lg hj1 []
        ·have h1:=iteN g13 h1;refine .a (rb 8 true (rb 10 false [])) (R 4 (dt g11) (R 4 (dt g12) (R 5 (df g13) (R 5 B0 T)))) [(4,bE false)] ?_;cases h1;exact .lg hj1 []
       ·have h1:=iteN g12 h1;refine .a (rb 4 true (rb 14 false [])) (R 4 (dt g11) (R 4 (df g12) (R 10 B0 T))) [(4,bE false)] ?_;cases h1;exact .lg hj1 []
      ·have h1:=iteN g11 h1;refine .a (rb 18 false []) (R 4 (df g11) (R 14 B0 T)) [(4,bE false)] ?_;cases h1;exact .lg hj1 []
    ·refine .bP h0 rfl [1,2] (fun o15=>[(76,bE o15)]) n1 n1 (fun o15 h0=>?_) (fun y1 h1 hj1=>?_)
     ·refine .jT h0 (fun hc16 h0=>?_) (fun hc16 h0=>?_)
      ·refine .a [] T [(4,bE false)] ?_;cases h0;exact .rt hK
      ·refine .a [] T [(5,iE 0)] ?_;refine .lI h0 rfl [1,2] (fun i17 s18=>[(5,iE (i17:Int))]) n2 n2 [] (by kernel_rfl) (fun i17 s18 q19 hd21 hi23 h0=>?_);refine .a [.v (a0.kids.length:Int)] (A (dForm.len' a0.kids) T) [(79,lE 5 (ksForm a0.kids)),(81,dE ((i17:Int)<(a0.kids.length:Int)))] ?_;refine .sn 79 dForm a0.kids (by kernel_rfl) (fun hb24=>?_);refine .lc hd21 rfl (by kernel_rfl) (fun x20 q192 hc25 hx20 hd22 hd22l=>?_) (fun hc25=>?_)
       ·subst hc25;obtain⟨y1,h1,hw1,hn1⟩:=forI_cons h0;obtain⟨k26,hk26,h1⟩:=bnd h1;refine .a [.cs (kForm x20),.pl,.call [] (bE k26) []] (A (dForm.idn hx20) (A (ih _ _ hk26) T)) [(92,bE (!k26))] ?_;refine .jT h1 (fun hc27 h1=>?_) (fun hc27 h1=>?_)
        ·refine .a [] T [(4,bE false)] ?_;cases h1;cases hw1 _ rfl;exact .rt hK
        ·refine .a [.v ((i17+1:Nat):Int)] (A (wn (i:=i17) (by omega)) T) [(5,iE ((i17+1:Nat):Int))] ?_;cases h1;exact .nL rfl (i17+1) _ hd22 hd22l (hn1 _ rfl) [] (by kernel_rfl)
       ·subst hc25;have h0:=forI_nil h0;refine .a [] T [(4,bE true)] ?_;cases h0;exact .rt hK
     ·by_cases g28:¬a0.kind=3
      ·have h1:=iteP g28 h1;refine .a (rb 13 true []) (R 4 (dt g28) (R 9 B1 T)) [(76,bE true)] ?_;cases h1;exact .lg hj1 []
      ·have h1:=iteN g28 h1;by_cases g29:¬a0.name=[]
       ·have h1:=iteP g29 h1;refine .a (rb 4 false (rb 9 true [])) (R 4 (df g28) (R 4 (dt g29) (R 5 B1 T))) [(76,bE true)] ?_;cases h1;exact .lg hj1 []
       ·have h1:=iteN g29 h1;by_cases g30:¬a0.n=0
        ·have h1:=iteP g30 h1;refine .a (rb 8 false (rb 5 true [])) (R 4 (df g28) (R 4 (df g29) (R 5 (dt g30) T))) [(76,bE true)] ?_;cases h1;exact .lg hj1 []
        ·have h1:=iteN g30 h1;refine .a (rb 11 false [.v (a0.scopes.length:Int),.b false,.b false]) (R 4 (df g28) (R 4 (df g29) (R 2 (df g30) (A (A (df g30) (dInt.len' a0.scopes)) (R 2 (df g30) T))))) [(76,dE (¬(a0.scopes.length:Int)=0))] ?_;cases h1;exact .lg hj1 []
def sp_FormValid (n:Nat) (a0:Form):Option (Bool):=
 Option.bind ((sp_l1Is n a0 40).bind fun k2=>(if k2=true then(sp_l1Count n a0).bind fun k4=>some (decide (k4≤400)) else some false):Option (Bool)) (fun(o1:Bool)=>some o1)
theorem w_sp_FormValid (n:Nat):∀(a0:Form) {r:Bool},sp_FormValid n a0=some r→SCall X.E 26 [aE (kForm a0)] [] (bE r) []:=by
 intro a0 r h0;rw[sp_FormValid] at h0;refine .n Tryz.func26 (fun L ks low K hl hL hlen hK=>?_);refine .af [] T [(1,pw 1)] [.o 1 (.cells ((kForm a0).map .d))] ?_;refine .bP h0 rfl [] (fun o1=>[(2,bE o1)]) n1 n1 (fun o1 h0=>?_) (fun y1 h1 hj1=>?_)
 ·cases h0;exact .rt hK
 ·obtain⟨k2,hk2,h1⟩:=bnd h1;by_cases g3:k2=true
  ·have h1:=iteP g3 h1;obtain⟨k4,hk4,h1⟩:=bnd h1;refine .a [.call [] (bE k2) [],.b true,.b true,.call [] (iE k4) [],.b true,.b true] (A (w_sp_l1Is n _ _ hk2) (A g3 (A (A g3 (w_sp_l1Count n _ hk4)) (R 2 g3 T)))) [(2,dE (k4≤400))] ?_;cases h1;exact .lg hj1 []
  ·have h1:=iteN g3 h1;refine .a (.call [] (bE k2) []::(rb 4 false [])) (A (w_sp_l1Is n _ _ hk2) (R 4 (Bool.eq_false_iff.2 g3) T)) [(2,bE false)] ?_;cases h1;exact .lg hj1 []
def sp_l1In (n:Nat) (a0:List (List UInt8)) (a1:List UInt8):Option (Bool):=
 seqS (forI (fun(s2:Unit) (i1:Nat) (x4:List UInt8)=>((if x4=a1 then some (Sum.inl true) else some (Sum.inr ())):Option (Bool⊕Unit))) 0 a0 ()) (fun(s2:Unit)=>some false)
theorem w_sp_l1In (n:Nat):∀(a0:List (List UInt8)) (a1:List UInt8) {r:Bool},sp_l1In n a0 a1=some r→SCall X.E 57 [lE 1 (ksStr a0),sE a1] [] (bE r) []:=by
 intro a0 a1 r h0;rw[sp_l1In] at h0;refine .n Tryz.func57 (fun L ks low K hl hL hlen hK=>?_);refine .a [] T [] ?_;refine .a [] T [(5,iE 0)] ?_;refine .lI h0 rfl [0,1] (fun i1 s2=>[(5,iE (i1:Int))]) n2 n2 [] (by kernel_rfl) (fun i1 s2 q3 hd5 hi7 h0=>?_);refine .a [.v (a0.length:Int)] (A (dStr.len' a0) T) [(9,dE ((i1:Int)<(a0.length:Int)))] ?_;refine .sn 0 dStr a0 (by kernel_rfl) (fun hb8=>?_);refine .lc hd5 rfl (by kernel_rfl) (fun x4 q32 hc9 hx4 hd6 hd6l=>?_) (fun hc9=>?_)
 ·subst hc9;obtain⟨y1,h1,hw1,hn1⟩:=forI_cons h0;refine .a [.cs [.s x4]] (A (dStr.idn hx4) T) [(17,dE (x4=a1))] ?_;refine .jP h1 (fun hc10 h1=>?_) (fun hc10 h1=>?_)
  ·refine .a [] T [(4,bE true)] ?_;cases h1;cases hw1 _ rfl;exact .rt hK
  ·refine .a [.v ((i1+1:Nat):Int)] (A (wn (i:=i1) (by omega)) T) [(5,iE ((i1+1:Nat):Int))] ?_;cases h1;exact .nL rfl (i1+1) _ hd6 hd6l (hn1 _ rfl) [] (by kernel_rfl)
 ·subst hc9;have h0:=forI_nil h0;refine .a [] T [(4,bE false)] ?_;cases h0;exact .rt hK
def sp_l1In_v (n:Nat) (a0:List (List UInt8)) (a1:List UInt8):Option (Bool):=
 seqS (forI (fun(s2:Unit) (i1:Nat) (x4:List UInt8)=>((if x4=a1 then some (Sum.inl true) else some (Sum.inr ())):Option (Bool⊕Unit))) 0 a0 ()) (fun(s2:Unit)=>some false)
theorem w_sp_l1In_v (n:Nat):∀(a0:List (List UInt8)) (a1:List UInt8) {r:Bool},sp_l1In_v n a0 a1=some r→SCall X.E 57 [.vs (.low 0) 1 ((ksStr a0).length),sE a1] [some (.vec 9 1 (ksStr a0))] (bE r) [.vec 9 1 (ksStr a0)]:=by
 intro a0 a1 r h0;rw[sp_l1In_v] at h0;refine .n Tryz.func57 (fun L ks low K hl hL hlen hK=>?_);refine .a [] T [] ?_;refine .a [] T [(5,iE 0)] ?_;refine .lI h0 rfl [0,1] (fun i1 s2=>[(5,iE (i1:Int))]) n2 n2 [] (by kernel_rfl) (fun i1 s2 q3 hd5 hi7 h0=>?_);refine .a [.v (a0.length:Int)] (A (dStr.len' a0) T) [(9,dE ((i1:Int)<(a0.length:Int)))] ?_;refine .snV 0 dStr a0 (by kernel_rfl) (fun hb8=>?_);refine .lc hd5 rfl (by kernel_rfl) (fun x4 q32 hc9 hx4 hd6 hd6l=>?_) (fun hc9=>?_)
 ·subst hc9;obtain⟨y1,h1,hw1,hn1⟩:=forI_cons h0;refine .a [.cs [.s x4]] (A (A (dStr.inv (inB_of hx4) (rfl:(ksStr a0).length=(ksStr a0).length)) (rfl:(ksStr a0).length=(ksStr a0).length)) (A (A (A (dStr.rows a0) (dStr.ixr hx4)) (rfl:(ksStr a0).length=(ksStr a0).length)) T)) [(17,dE (x4=a1))] ?_;refine .jP h1 (fun hc10 h1=>?_) (fun hc10 h1=>?_)
  ·refine .a [] T [(4,bE true)] ?_;cases h1;cases hw1 _ rfl;exact .rt hK
  ·refine .a [.v ((i1+1:Nat):Int)] (A (wn (i:=i1) (by omega)) T) [(5,iE ((i1+1:Nat):Int))] ?_;cases h1;exact .nL rfl (i1+1) _ hd6 hd6l (hn1 _ rfl) [] (by kernel_rfl)
 ·subst hc9;have h0:=forI_nil h0;refine .a [] T [(4,bE false)] ?_;cases h0;exact .rt hK
def sp_l6Free:Nat→(List (List UInt8))→Core→Option (List (List UInt8))
 | 0,_,_=>none
 | n+1,a0,a1=>Option.bind ((if a1.kind=2 then(sp_l1In_v n a0 a1.name).bind fun k16=>some (!k16) else some false):Option (Bool)) (fun(o1:Bool)=>Option.bind ((if o1=true then(apB 16 a0 [a1.name]).bind fun z14=>some z14 else some a0):Option (List (List UInt8))) (fun(o2:List (List UInt8))=>Option.bind (forL (fun(s4:List (List UInt8)) (i3:Nat) (x6:Core)=>(sp_l6Free n s4 x6).bind fun k12=>some k12) 0 a1.kids o2) (fun(s4:List (List UInt8))=>some s4)))
theorem w_sp_l6Free (n:Nat):∀(a0:List (List UInt8)) (a1:Core) {r:List (List UInt8)},sp_l6Free n a0 a1=some r→SCall X.E 56 [.vs (.low 0) 1 ((ksStr a0).length),aE (kCore a1)] [some (.vec 9 1 (ksStr a0))] (.vs (.low 0) 1 ((ksStr r).length)) [.vec 9 1 (ksStr r)]:=by
 induction n with
 | zero=>intro a0 a1 r h; cases h
 | succ n ih=>
  intro a0 a1 r h0;rw[sp_l6Free] at h0;refine .n Tryz.func56 (fun L ks low K hl hL hlen hK=>?_);refine .af [] T [(3,pw 3)] [.o 3 (.cells ((kCore a1).map .d))] ?_;refine .bP h0 rfl [0,3] (fun o1=>[(15,bE o1)]) n1 n1 (fun o1 h0=>?_) (fun y1 h1 hj1=>?_)
  ·refine .bP h0 rfl [3] (fun o2=>[(0,.vs (.low 0) 1 ((ksStr o2).length))]) n1 (fun o2=>[.o 0 (.vec 9 1 (ksStr o2))]) (fun o2 h0=>?_) (fun y1 h1 hj1=>?_)
   ·refine .a [] T [(5,iE 0)] ?_;refine .lL h0 rfl [3] (fun i3 s4=>[(0,.vs (.low 0) 1 ((ksStr s4).length)),(5,iE (i3:Int))]) n2 (fun i3 s4=>[.o 0 (.vec 9 1 (ksStr s4))]) [] (by kernel_rfl) (fun i3 s4 q5 hd7 hi9 h0=>?_);refine .a [.v (a1.kids.length:Int)] (A (dCore.len' a1.kids) T) [(23,lE 11 (ksCore a1.kids)),(25,dE ((i3:Int)<(a1.kids.length:Int)))] ?_;refine .sn 23 dCore a1.kids (by kernel_rfl) (fun hb10=>?_);refine .lc hd7 rfl (by kernel_rfl) (fun x6 q52 hc11 hx6 hd8 hd8l=>?_) (fun hc11=>?_)
    ·subst hc11;obtain⟨y1,h1,hn1⟩:=forL_cons h0;obtain⟨k12,hk12,h1⟩:=bnd h1;refine .ao [.cs (kCore x6),.call [.low 0] (.vs (.low 0) 1 ((ksStr k12).length)) [.vec 9 1 (ksStr k12)]] (A (dCore.idn hx6) (A (ih _ _ hk12) T)) [(0,.vs (.low 0) 1 ((ksStr k12).length))] [.o 0 (.vec 9 1 (ksStr k12))] ?_;refine .a [.v ((i3+1:Nat):Int)] (A (wn (i:=i3) (by omega)) T) [(5,iE ((i3+1:Nat):Int))] ?_;cases h1;exact .nL rfl (i3+1) _ hd8 hd8l hn1 [] (by kernel_rfl)
    ·subst hc11;have h0:=forL_nil h0;refine .a [] T [(4,.vs (.low 0) 1 ((ksStr s4).length))] ?_;refine .kp [4] [] ?_;refine .dr 3 (by kernel_rfl) ?_;cases h0;exact .rt hK
   ·refine .jT h1 (fun hc13 h1=>?_) (fun hc13 h1=>?_)
    ·obtain⟨z14,hz14,h1⟩:=bnd h1;refine .ao [.sv (ksStr [a1.name]),.sv (ksStr z14)] (A (dStr.lit [a1.name]) (A (A (dStr.ap hz14) (rfl:(ksStr a0).length=(ksStr a0).length)) T)) [(0,.vs (.low 0) 1 ((ksStr z14).length))] [.o 0 (.vec 9 1 (ksStr z14))] ?_;cases h1;exact .lg hj1 []
    ·cases h1;exact .lg hj1 []
  ·by_cases g15:a1.kind=2
   ·have h1:=iteP g15 h1;obtain⟨k16,hk16,h1⟩:=bnd h1;refine .a (rb 4 true [.call [.low 0] (bE k16) [.vec 9 1 (ksStr a0)],.b true,.b true]) (R 3 (dt g15) (A (A (dt g15) (w_sp_l1In_v n _ _ hk16)) (R 2 (dt g15) T))) [(15,bE (!k16))] ?_;cases h1;exact .lg hj1 []
   ·have h1:=iteN g15 h1;refine .a (rb 6 false []) (R 6 (df g15) T) [(15,bE false)] ?_;cases h1;exact .lg hj1 []
def sp_FreeOf (n:Nat) (a0:Core):Option (List (List UInt8)):=
 (sp_l6Free n [] a0).bind fun k1=>some k1
theorem w_sp_FreeOf (n:Nat):∀(a0:Core) {r:List (List UInt8)},sp_FreeOf n a0=some r→SCall X.E 23 [aE (kCore a0)] [] (lE 1 (ksStr r)) []:=by
 intro a0 r h0;rw[sp_FreeOf] at h0;refine .n Tryz.func23 (fun L ks low K hl hL hlen hK=>?_);refine .af [] T [(1,pw 1)] [.o 1 (.cells ((kCore a0).map .d))] ?_;obtain⟨k1,hk1,h0⟩:=bnd h0;refine .af [.gv 3,.sv (ksStr []),.call [.own 100003] (.vs (.low 0) 1 ((ksStr k1).length)) [.vec 9 1 (ksStr k1)]] (A (dStr.lit []) (A (w_sp_l6Free n _ _ hk1) T)) [(2,.vs (.own 100003) 1 ((ksStr k1).length))] [.o 100003 (.vec 9 1 (ksStr k1))] ?_;refine .kp [2] [] ?_;refine .dr 1 (by kernel_rfl) ?_;refine .ft 2 100003 [] dStr k1 (rfl:(ksStr k1).length=(ksStr k1).length) (by kernel_rfl) ?_;cases h0;exact .rt hK
def sp_l6Count:Nat→Core→Option (Int)
 | 0,_=>none
 | n+1,a0=>Option.bind (forL (fun(s2:Int) (i1:Nat) (x4:Core)=>(sp_l6Count n x4).bind fun k10=>some (w64 (s2+k10))) 0 a0.kids 1) (fun(s2:Int)=>some s2)
theorem w_sp_l6Count (n:Nat):∀(a0:Core) {r:Int},sp_l6Count n a0=some r→SCall X.E 81 [aE (kCore a0)] [] (iE r) []:=by
 induction n with
 | zero=>intro a0 r h; cases h
 | succ n ih=>
  intro a0 r h0;rw[sp_l6Count] at h0;refine .n Tryz.func81 (fun L ks low K hl hL hlen hK=>?_);refine .af [] T [(1,pw 1)] [.o 1 (.cells ((kCore a0).map .d))] ?_;refine .a [] T [(3,iE 1)] ?_;refine .a [] T [(4,iE 0)] ?_;refine .lL h0 rfl [1] (fun i1 s2=>[(3,iE s2),(4,iE (i1:Int))]) n2 n2 [] (by kernel_rfl) (fun i1 s2 q3 hd5 hi7 h0=>?_);refine .a [.v (a0.kids.length:Int)] (A (dCore.len' a0.kids) T) [(7,lE 11 (ksCore a0.kids)),(9,dE ((i1:Int)<(a0.kids.length:Int)))] ?_;refine .sn 7 dCore a0.kids (by kernel_rfl) (fun hb8=>?_);refine .lc hd5 rfl (by kernel_rfl) (fun x4 q32 hc9 hx4 hd6 hd6l=>?_) (fun hc9=>?_)
  ·subst hc9;obtain⟨y1,h1,hn1⟩:=forL_cons h0;obtain⟨k10,hk10,h1⟩:=bnd h1;refine .a [.cs (kCore x4),.call [] (iE k10) [],.pl] (A (dCore.idn hx4) (A (ih _ hk10) T)) [(3,iE (w64 (s2+k10)))] ?_;refine .a [.v ((i1+1:Nat):Int)] (A (wn (i:=i1) (by omega)) T) [(4,iE ((i1+1:Nat):Int))] ?_;cases h1;exact .nL rfl (i1+1) _ hd6 hd6l hn1 [] (by kernel_rfl)
  ·subst hc9;have h0:=forL_nil h0;refine .a [] T [(2,iE s2)] ?_;cases h0;exact .rt hK
def sp_l2Has (n:Nat) (a0:List Int) (a1:Int):Option (Bool):=
 seqS (forI (fun(s2:Unit) (i1:Nat) (x4:Int)=>((if x4=a1 then some (Sum.inl true) else some (Sum.inr ())):Option (Bool⊕Unit))) 0 a0 ()) (fun(s2:Unit)=>some false)
theorem w_sp_l2Has (n:Nat):∀(a0:List Int) (a1:Int) {r:Bool},sp_l2Has n a0 a1=some r→SCall X.E 93 [lE 1 (ksInt a0),iE a1] [] (bE r) []:=by
 intro a0 a1 r h0;rw[sp_l2Has] at h0;refine .n Tryz.func93 (fun L ks low K hl hL hlen hK=>?_);refine .a [] T [] ?_;refine .a [] T [(5,iE 0)] ?_;refine .lI h0 rfl [0,1] (fun i1 s2=>[(5,iE (i1:Int))]) n2 n2 [] (by kernel_rfl) (fun i1 s2 q3 hd5 hi7 h0=>?_);refine .a [.v (a0.length:Int)] (A (dInt.len' a0) T) [(9,dE ((i1:Int)<(a0.length:Int)))] ?_;refine .sn 0 dInt a0 (by kernel_rfl) (fun hb8=>?_);refine .lc hd5 rfl (by kernel_rfl) (fun x4 q32 hc9 hx4 hd6 hd6l=>?_) (fun hc9=>?_)
 ·subst hc9;obtain⟨y1,h1,hw1,hn1⟩:=forI_cons h0;refine .a [.cs [.v (.int .i64 x4)]] (A (dInt.idn hx4) T) [(17,dE (x4=a1))] ?_;refine .jP h1 (fun hc10 h1=>?_) (fun hc10 h1=>?_)
  ·refine .a [] T [(4,bE true)] ?_;cases h1;cases hw1 _ rfl;exact .rt hK
  ·refine .a [.v ((i1+1:Nat):Int)] (A (wn (i:=i1) (by omega)) T) [(5,iE ((i1+1:Nat):Int))] ?_;cases h1;exact .nL rfl (i1+1) _ hd6 hd6l (hn1 _ rfl) [] (by kernel_rfl)
 ·subst hc9;have h0:=forI_nil h0;refine .a [] T [(4,bE false)] ?_;cases h0;exact .rt hK
def sp_l1Ints (n:Nat) (a0:List Int) (a1:List Int):Option (Bool):=
 (if ¬(a0.length:Int)=(a1.length:Int) then some false else seqS (forI (fun(s5:Unit) (i4:Nat) (x7:Int)=>((atI a1 (i4:Int)).bind fun e12=>(if ¬x7=e12 then some (Sum.inl false) else some (Sum.inr ())):Option (Bool⊕Unit))) 0 a0 ()) (fun(s5:Unit)=>some true))
theorem w_sp_l1Ints (n:Nat):∀(a0:List Int) (a1:List Int) {r:Bool},sp_l1Ints n a0 a1=some r→SCall X.E 132 [lE 1 (ksInt a0),lE 1 (ksInt a1)] [] (bE r) []:=by
 intro a0 a1 r h0;rw[sp_l1Ints] at h0;refine .n Tryz.func132 (fun L ks low K hl hL hlen hK=>?_);refine .a [] T [] ?_;refine .a [.v (a0.length:Int),.v (a1.length:Int)] (A (dInt.len' a0) (A (dInt.len' a1) T)) [(10,dE (¬(a0.length:Int)=(a1.length:Int)))] ?_;refine .sn 0 dInt a0 (by kernel_rfl) (fun hb1=>?_);refine .sn 1 dInt a1 (by kernel_rfl) (fun hb2=>?_);refine .jP h0 (fun hc3 h0=>?_) (fun hc3 h0=>?_)
 ·refine .a [] T [(4,bE false)] ?_;cases h0;exact .rt hK
 ·refine .a [] T [(5,iE 0)] ?_;refine .lI h0 rfl [0,1] (fun i4 s5=>[(5,iE (i4:Int))]) n2 n2 [] (by kernel_rfl) (fun i4 s5 q6 hd8 hi10 h0=>?_);refine .a [.v (a0.length:Int)] (A (dInt.len' a0) T) [(14,dE ((i4:Int)<(a0.length:Int)))] ?_;refine .lc hd8 rfl (by kernel_rfl) (fun x7 q62 hc11 hx7 hd9 hd9l=>?_) (fun hc11=>?_)
  ·subst hc11;obtain⟨y1,h1,hw1,hn1⟩:=forI_cons h0;obtain⟨e12,he12,h1⟩:=bnd h1;refine .ad mixed [(2,[.cs [.v (.int .i64 x7)]]),(6,[.cs [.v (.int .i64 e12)]])] [] (A (dInt.idn hx7) (A (dInt.idx he12) T)) [(25,dE (¬x7=e12))] [] [] ?_;refine .jP h1 (fun hc13 h1=>?_) (fun hc13 h1=>?_)
   ·refine .a [] T [(4,bE false)] ?_;cases h1;cases hw1 _ rfl;exact .rt hK
   ·refine .a [.v ((i4+1:Nat):Int)] (A (wn (i:=i4) (by omega)) T) [(5,iE ((i4+1:Nat):Int))] ?_;cases h1;exact .nL rfl (i4+1) _ hd9 hd9l (hn1 _ rfl) [] (by kernel_rfl)
  ·subst hc11;have h0:=forI_nil h0;refine .a [] T [(4,bE true)] ?_;cases h0;exact .rt hK
def sp_FormSame:Nat→Form→Form→Option (Bool)
 | 0,_,_=>none
 | n+1,a0,a1=>Option.bind ((if ¬a0.kind=a1.kind then some true else(if ¬a0.name=a1.name then some true else(if ¬a0.n=a1.n then some true else(sp_l1Ints n a0.scopes a1.scopes).bind fun k18=>(if(!k18)=true then some true else some (decide (¬(a0.kids.length:Int)=(a1.kids.length:Int))))))):Option (Bool)) (fun(o1:Bool)=>(if o1=true then some false else seqS (forI (fun(s4:Unit) (i3:Nat) (x6:Form)=>((atI a1.kids (i3:Int)).bind fun e12=>(sp_FormSame n x6 e12).bind fun k13=>(if(!k13)=true then some (Sum.inl false) else some (Sum.inr ())):Option (Bool⊕Unit))) 0 a0.kids ()) (fun(s4:Unit)=>some true)))
theorem w_sp_FormSame (n:Nat):∀(a0:Form) (a1:Form) {r:Bool},sp_FormSame n a0 a1=some r→SCall X.E 108 [aE (kForm a0),aE (kForm a1)] [] (bE r) []:=by
 induction n with
 | zero=>intro a0 a1 r h; cases h
 | succ n ih=>
  intro a0 a1 r h0;rw[sp_FormSame] at h0;refine .n Tryz.func108 (fun L ks low K hl hL hlen hK=>?_);refine .af [] T [(2,pw 2),(3,pw 3)] [.o 2 (.cells ((kForm a0).map .d)),.o 3 (.cells ((kForm a1).map .d))] ?_;refine .bP h0 rfl [2,3] (fun o1=>[(41,bE o1)]) n1 n1 (fun o1 h0=>?_) (fun y1 h1 hj1=>?_)
  ·refine .jT h0 (fun hc2 h0=>?_) (fun hc2 h0=>?_)
   ·refine .a [] T [(4,bE false)] ?_;cases h0;exact .rt hK
   ·refine .a [] T [(5,iE 0)] ?_;refine .lI h0 rfl [2,3] (fun i3 s4=>[(5,iE (i3:Int))]) n2 n2 [] (by kernel_rfl) (fun i3 s4 q5 hd7 hi9 h0=>?_);refine .a [.v (a0.kids.length:Int)] (A (dForm.len' a0.kids) T) [(44,lE 5 (ksForm a0.kids)),(46,dE ((i3:Int)<(a0.kids.length:Int)))] ?_;refine .sn 44 dForm a0.kids (by kernel_rfl) (fun hb10=>?_);refine .lc hd7 rfl (by kernel_rfl) (fun x6 q52 hc11 hx6 hd8 hd8l=>?_) (fun hc11=>?_)
    ·subst hc11;obtain⟨y1,h1,hw1,hn1⟩:=forI_cons h0;obtain⟨e12,he12,h1⟩:=bnd h1;obtain⟨k13,hk13,h1⟩:=bnd h1;refine .ad mixed [(3,[.cs (kForm x6)]),(8,[.cs (kForm e12)]),(10,[.call [] (bE k13) []])] [] (A (dForm.idn hx6) (A (dForm.idx he12) (A (ih _ _ hk13) T))) [(60,bE (!k13))] [] [] ?_;refine .jT h1 (fun hc14 h1=>?_) (fun hc14 h1=>?_)
     ·refine .a [] T [(4,bE false)] ?_;cases h1;cases hw1 _ rfl;exact .rt hK
     ·refine .a [.v ((i3+1:Nat):Int)] (A (wn (i:=i3) (by omega)) T) [(5,iE ((i3+1:Nat):Int))] ?_;cases h1;exact .nL rfl (i3+1) _ hd8 hd8l (hn1 _ rfl) [] (by kernel_rfl)
    ·subst hc11;have h0:=forI_nil h0;refine .a [] T [(4,bE true)] ?_;cases h0;exact .rt hK
  ·by_cases g15:¬a0.kind=a1.kind
   ·have h1:=iteP g15 h1;refine .a (rb 27 true []) (R 6 (dt g15) (R 21 B1 T)) [(41,bE true)] ?_;cases h1;exact .lg hj1 []
   ·have h1:=iteN g15 h1;by_cases g16:¬a0.name=a1.name
    ·have h1:=iteP g16 h1;refine .a (rb 6 false (rb 21 true [])) (R 6 (df g15) (R 6 (dt g16) (R 15 B1 T))) [(41,bE true)] ?_;cases h1;exact .lg hj1 []
    ·have h1:=iteN g16 h1;by_cases g17:¬a0.n=a1.n
     ·have h1:=iteP g17 h1;refine .a (rb 12 false (rb 15 true [])) (R 6 (df g15) (R 6 (df g16) (R 7 (dt g17) (R 8 B1 T)))) [(41,bE true)] ?_;cases h1;exact .lg hj1 []
     ·have h1:=iteN g17 h1;obtain⟨k18,hk18,h1⟩:=bnd h1;by_cases g19:(!k18)=true
      ·have h1:=iteP g19 h1;refine .a (rb 17 false (.call [] (bE k18) []::(.b false::(.b false::(rb 8 true []))))) (R 6 (df g15) (R 6 (df g16) (R 4 (df g17) (A (A (df g17) (w_sp_l1Ints n _ _ hk18)) (R 2 (df g17) (R 8 g19 T)))))) [(41,bE true)] ?_;cases h1;exact .lg hj1 []
      ·have h1:=iteN g19 h1;refine .a (rb 17 false (.call [] (bE k18) []::(rb 5 false (.v (a0.kids.length:Int)::(rb 3 false [.v (a1.kids.length:Int),.b false,.b false]))))) (R 6 (df g15) (R 6 (df g16) (R 4 (df g17) (A (A (df g17) (w_sp_l1Ints n _ _ hk18)) (R 2 (df g17) (R 2 (Bool.eq_false_iff.2 g19) (A (A (Bool.eq_false_iff.2 g19) (dForm.len' a0.kids)) (R 2 (Bool.eq_false_iff.2 g19) (A (A (Bool.eq_false_iff.2 g19) (dForm.len' a1.kids)) (R 2 (Bool.eq_false_iff.2 g19) T)))))))))) [(41,dE (¬(a0.kids.length:Int)=(a1.kids.length:Int)))] ?_;cases h1;exact .lg hj1 []
def sp_StripForm:Nat→Form→Option (Form)
 | 0,_=>none
 | n+1,a0=>Option.bind (forL (fun(s2:List Form) (i1:Nat) (x4:Form)=>(sp_StripForm n x4).bind fun k10=>(apB 80 s2 [k10]).bind fun z11=>some z11) 0 a0.kids []) (fun(s2:List Form)=>some (⟨a0.kind,a0.name,a0.n,[],s2⟩:Form))
theorem w_sp_StripForm (n:Nat):∀(a0:Form) {r:Form},sp_StripForm n a0=some r→SCall X.E 109 [aE (kForm a0)] [] (aE (kForm r)) []:=by
 induction n with
 | zero=>intro a0 r h; cases h
 | succ n ih=>
  intro a0 r h0;rw[sp_StripForm] at h0;refine .n Tryz.func109 (fun L ks low K hl hL hlen hK=>?_);refine .af [] T [(1,pw 1),(2,pw 2)] [.o 1 (.cells ((kForm a0).map .d)),.o 2 (.cells [iE 0,sE [],iE 0,fE 1 (ksInt []),fE 5 (ksForm [])])] ?_;refine .af [] T [(3,pw 3)] [.o 3 (.cells [iE a0.kind,sE a0.name,iE a0.n,fE 1 (ksInt []),fE 5 (ksForm [])])] ?_;refine .a [] T [(4,iE 0)] ?_;refine .oc 3 4 100028 32 (by kernel_rfl) ?_;refine .lL h0 rfl [1,2,3] (fun i1 s2=>[(4,iE (i1:Int))]) (fun i1 s2=>[.c 3 4 (.gs (.own 100028) 5 (ksForm s2)),.o 100028 (.tok (ksForm s2).length 32)]) n2 [] (by kernel_rfl) (fun i1 s2 q3 hd5 hi7 h0=>?_);refine .a [.v (a0.kids.length:Int)] (A (dForm.len' a0.kids) T) [(14,lE 5 (ksForm a0.kids)),(16,dE ((i1:Int)<(a0.kids.length:Int)))] ?_;refine .sn 14 dForm a0.kids (by kernel_rfl) (fun hb8=>?_);refine .lc hd5 rfl (by kernel_rfl) (fun x4 q32 hc9 hx4 hd6 hd6l=>?_) (fun hc9=>?_)
  ·subst hc9;obtain⟨y1,h1,hn1⟩:=forL_cons h0;obtain⟨k10,hk10,h1⟩:=bnd h1;obtain⟨z11,hz11,h1⟩:=bnd h1;refine .ad mixed [(5,[.cs (kForm x4)]),(7,[.call [] (aE (kForm k10)) []]),(8,[.sv (ksForm [k10])]),(9,[.sv (ksForm z11)])] [((ksForm s2).length:Int)] (A (dForm.idn hx4) (A (ih _ hk10) (A (dForm.lit [k10]) (A (dForm.ap hz11) T)))) [] [.c 3 4 (.gs (.own 100028) 5 (ksForm z11)),.o 100028 (.tok (ksForm z11).length 32)] [] ?_;refine .a [.v ((i1+1:Nat):Int)] (A (wn (i:=i1) (by omega)) T) [(4,iE ((i1+1:Nat):Int))] ?_;cases h1;exact .nL rfl (i1+1) _ hd6 hd6l hn1 [] (by kernel_rfl)
  ·subst hc9;have h0:=forL_nil h0;refine .af [] T [] [.c 2 0 (iE a0.kind),.c 2 1 (sE a0.name),.c 2 2 (iE a0.n),.c 2 4 (.gs (.own 100028) 5 (ksForm s2))] ?_;cases h0;exact .rt hK
def sp_l6Fields (n:Nat) (a0:Core):Option (Bool):=
 Option.bind ((if a0.kind=1 then(if a0.id<1 then some true else(if a0.id>999 then some true else(if ¬a0.kind=1 then some (decide (¬a0.id=0)) else some false))) else(if ¬a0.kind=1 then some (decide (¬a0.id=0)) else some false)):Option (Bool)) (fun(o1:Bool)=>(if o1=true then some false else Option.bind ((if a0.kind=2 then(sp_NameValid n a0.name).bind fun k27=>(if(!k27)=true then some true else(if ¬a0.kind=2 then some (decide (¬a0.name=[])) else some false)) else(if ¬a0.kind=2 then some (decide (¬a0.name=[])) else some false)):Option (Bool)) (fun(o3:Bool)=>(if o3=true then some false else Option.bind ((if a0.kind=3 then(if a0.n<0 then some true else(if a0.n>999 then some true else(if ¬a0.kind=3 then some (decide (¬a0.n=0)) else some false))) else(if ¬a0.kind=3 then some (decide (¬a0.n=0)) else some false)):Option (Bool)) (fun(o5:Bool)=>(if o5=true then some false else Option.bind ((if a0.kind=4 then(sp_FormValid n a0.data).bind fun k12=>(if(!k12)=true then some true else(sp_StripForm n a0.data).bind fun k14=>(sp_FormSame n k14 a0.data).bind fun k15=>(if(!k15)=true then some true else(if ¬a0.kind=4 then(sp_FormSame n a0.data (⟨0,[],0,[],[]⟩:Form)).bind fun k18=>some (!k18) else some false))) else(if ¬a0.kind=4 then(sp_FormSame n a0.data (⟨0,[],0,[],[]⟩:Form)).bind fun k20=>some (!k20) else some false)):Option (Bool)) (fun(o7:Bool)=>(if o7=true then some false else Option.bind ((if a0.kind=5 then some true else some (decide ((a0.ids.length:Int)=0))):Option (Bool)) (fun(o9:Bool)=>some o9)))))))))
theorem w_sp_l6Fields (n:Nat):∀(a0:Core) {r:Bool},sp_l6Fields n a0=some r→SCall X.E 92 [aE (kCore a0)] [] (bE r) []:=by
 intro a0 r h0;rw[sp_l6Fields] at h0;refine .n Tryz.func92 (fun L ks low K hl hL hlen hK=>?_);refine .af [] T [(1,pw 1)] [.o 1 (.cells ((kCore a0).map .d))] ?_;refine .bP h0 rfl [1] (fun o1=>[(25,bE o1)]) n1 n1 (fun o1 h0=>?_) (fun y1 h1 hj1=>?_)
 ·refine .jT h0 (fun hc2 h0=>?_) (fun hc2 h0=>?_)
  ·refine .a [] T [(2,bE false)] ?_;cases h0;exact .rt hK
  ·refine .bP h0 rfl [1] (fun o3=>[(44,bE o3)]) n1 n1 (fun o3 h0=>?_) (fun y1 h1 hj1=>?_)
   ·refine .jT h0 (fun hc4 h0=>?_) (fun hc4 h0=>?_)
    ·refine .a [] T [(2,bE false)] ?_;cases h0;exact .rt hK
    ·refine .bP h0 rfl [1] (fun o5=>[(67,bE o5)]) n1 n1 (fun o5 h0=>?_) (fun y1 h1 hj1=>?_)
     ·refine .jT h0 (fun hc6 h0=>?_) (fun hc6 h0=>?_)
      ·refine .a [] T [(2,bE false)] ?_;cases h0;exact .rt hK
      ·refine .bP h0 rfl [1] (fun o7=>[(97,bE o7)]) n1 n1 (fun o7 h0=>?_) (fun y1 h1 hj1=>?_)
       ·refine .jT h0 (fun hc8 h0=>?_) (fun hc8 h0=>?_)
        ·refine .a [] T [(2,bE false)] ?_;cases h0;exact .rt hK
        ·refine .bP h0 rfl [] (fun o9=>[(2,bE o9)]) n1 n1 (fun o9 h0=>?_) (fun y1 h1 hj1=>?_)
         ·cases h0;exact .rt hK
         ·by_cases g10:a0.kind=5
          ·have h1:=iteP g10 h1;refine .a (rb 5 true []) (R 5 (dt g10) T) [(2,bE true)] ?_;cases h1;exact .lg hj1 []
          ·have h1:=iteN g10 h1;refine .a (rb 3 false [.v (a0.ids.length:Int),.b false,.b false]) (R 2 (df g10) (A (A (df g10) (dInt.len' a0.ids)) (R 2 (df g10) T))) [(2,dE ((a0.ids.length:Int)=0))] ?_;cases h1;exact .lg hj1 []
       ·by_cases g11:a0.kind=4
        ·have h1:=iteP g11 h1;obtain⟨k12,hk12,h1⟩:=bnd h1;by_cases g13:(!k12)=true
         ·have h1:=iteP g13 h1;refine .ad mixed (qb 4 2 true ((6,[.b true,.call [] (bE k12) []])::(qb 7 9 true ((16,[.b true,.b true])::((17,[.b true])::(qb 19 4 true (qb 28 2 true []))))))) [] (R 2 (dt g11) (A (A (dt g11) (w_sp_FormValid n _ hk12)) (R 2 (dt g11) (R 7 g13 (A (A (dt g11) g13) (A (dt g11) (R 6 B1 T))))))) [(97,bE true)] [] [] ?_;cases h1;exact .lg hj1 []
         ·have h1:=iteN g13 h1;obtain⟨k14,hk14,h1⟩:=bnd h1;obtain⟨k15,hk15,h1⟩:=bnd h1;by_cases g16:(!k15)=true
          ·have h1:=iteP g16 h1;refine .ad mixed (qb 4 2 true ((6,[.b true,.call [] (bE k12) []])::(qb 7 2 true (qb 9 2 false ((11,[.b false,.call [] (aE (kForm k14)) []])::(qb 12 2 false ((14,[.b false,.call [] (bE k15) []])::((15,[.b false])::((16,[.b true,.b false])::((17,[.b true])::(qb 19 4 true (qb 28 2 true [])))))))))))) [] (R 2 (dt g11) (A (A (dt g11) (w_sp_FormValid n _ hk12)) (R 2 (dt g11) (R 2 (Bool.eq_false_iff.2 g13) (A (A (Bool.eq_false_iff.2 g13) (w_sp_StripForm n _ hk14)) (R 2 (Bool.eq_false_iff.2 g13) (A (A (Bool.eq_false_iff.2 g13) (w_sp_FormSame n _ _ hk15)) (A (Bool.eq_false_iff.2 g13) (A (A (dt g11) (Bool.eq_false_iff.2 g13)) (A (dt g11) (R 6 g16 T))))))))))) [(97,bE true)] [] [] ?_;cases h1;exact .lg hj1 []
          ·have h1:=iteN g16 h1;by_cases g17:¬a0.kind=4
           ·have h1:=iteP g17 h1;obtain⟨k18,hk18,h1⟩:=bnd h1;refine .ad mixed (qb 4 2 true ((6,[.b true,.call [] (bE k12) []])::(qb 7 2 true (qb 9 2 false ((11,[.b false,.call [] (aE (kForm k14)) []])::(qb 12 2 false ((14,[.b false,.call [] (bE k15) []])::((15,[.b false])::((16,[.b true,.b false])::((17,[.b true])::(qb 19 4 false (qb 23 3 true [(26,[.b true,.call [] (bE k18) []]),(27,[.b true]),(28,[.b false,.b true]),(29,[.b false])])))))))))))) [] (R 2 (dt g11) (A (A (dt g11) (w_sp_FormValid n _ hk12)) (R 2 (dt g11) (R 2 (Bool.eq_false_iff.2 g13) (A (A (Bool.eq_false_iff.2 g13) (w_sp_StripForm n _ hk14)) (R 2 (Bool.eq_false_iff.2 g13) (A (A (Bool.eq_false_iff.2 g13) (w_sp_FormSame n _ _ hk15)) (A (Bool.eq_false_iff.2 g13) (A (A (dt g11) (Bool.eq_false_iff.2 g13)) (A (dt g11) (R 4 (Bool.eq_false_iff.2 g16) (R 3 (dt g17) (A (A (dt g17) (w_sp_FormSame n _ _ hk18)) (A (dt g17) (A (A (Bool.eq_false_iff.2 g16) (dt g17)) (A (Bool.eq_false_iff.2 g16) T)))))))))))))))) [(97,bE (!k18))] [] [] ?_;cases h1;exact .lg hj1 []
           ·have h1:=iteN g17 h1;refine .ad mixed (qb 4 2 true ((6,[.b true,.call [] (bE k12) []])::(qb 7 2 true (qb 9 2 false ((11,[.b false,.call [] (aE (kForm k14)) []])::(qb 12 2 false ((14,[.b false,.call [] (bE k15) []])::((15,[.b false])::((16,[.b true,.b false])::((17,[.b true])::(qb 19 9 false [(28,[.b false,.b false]),(29,[.b false])]))))))))))) [] (R 2 (dt g11) (A (A (dt g11) (w_sp_FormValid n _ hk12)) (R 2 (dt g11) (R 2 (Bool.eq_false_iff.2 g13) (A (A (Bool.eq_false_iff.2 g13) (w_sp_StripForm n _ hk14)) (R 2 (Bool.eq_false_iff.2 g13) (A (A (Bool.eq_false_iff.2 g13) (w_sp_FormSame n _ _ hk15)) (A (Bool.eq_false_iff.2 g13) (A (A (dt g11) (Bool.eq_false_iff.2 g13)) (A (dt g11) (R 4 (Bool.eq_false_iff.2 g16) (R 5 (df g17) (A (A (Bool.eq_false_iff.2 g16) (df g17)) (A (Bool.eq_false_iff.2 g16) T)))))))))))))) [(97,bE false)] [] [] ?_;cases h1;exact .lg hj1 []
        ·have h1:=iteN g11 h1;by_cases g19:¬a0.kind=4
         ·have h1:=iteP g19 h1;obtain⟨k20,hk20,h1⟩:=bnd h1;refine .ad mixed (qb 4 5 false (qb 16 2 false (qb 19 4 false (qb 23 3 true [(26,[.b true,.call [] (bE k20) []]),(27,[.b true]),(28,[.b false,.b true]),(29,[.b false])])))) [] (R 7 (df g11) (R 4 B0 (R 3 (dt g19) (A (A (dt g19) (w_sp_FormSame n _ _ hk20)) (A (dt g19) (A (A B0 (dt g19)) (A B0 T))))))) [(97,bE (!k20))] [] [] ?_;cases h1;exact .lg hj1 []
         ·have h1:=iteN g19 h1;refine .ad mixed (qb 4 5 false (qb 16 2 false (qb 19 9 false [(28,[.b false,.b false]),(29,[.b false])]))) [] (R 7 (df g11) (R 4 B0 (R 5 (df g19) (A (A B0 (df g19)) (A B0 T))))) [(97,bE false)] [] [] ?_;cases h1;exact .lg hj1 []
     ·by_cases g21:a0.kind=3
      ·have h1:=iteP g21 h1;by_cases g22:a0.n<0
       ·have h1:=iteP g22 h1;refine .a (rb 16 true []) (R 4 (dt g21) (R 3 (dt g22) (A (A (dt g21) (dt g22)) (A (dt g21) (R 6 B1 T))))) [(67,bE true)] ?_;cases h1;exact .lg hj1 []
       ·have h1:=iteN g22 h1;by_cases g23:a0.n>999
        ·have h1:=iteP g23 h1;refine .a (rb 4 true (rb 3 false (.b true::(.b false::(rb 7 true []))))) (R 4 (dt g21) (R 3 (df g22) (A (A (dt g21) (df g22)) (A (dt g21) (R 6 (dt g23) T))))) [(67,bE true)] ?_;cases h1;exact .lg hj1 []
        ·have h1:=iteN g23 h1;by_cases g24:¬a0.kind=3
         ·have h1:=iteP g24 h1;refine .a (rb 4 true (rb 3 false (.b true::(.b false::(.b true::(rb 4 false (rb 3 true [.b false,.b true,.b false]))))))) (R 4 (dt g21) (R 3 (df g22) (A (A (dt g21) (df g22)) (A (dt g21) (R 4 (df g23) (R 3 (dt g24) (A (A (df g23) (dt g24)) (A (df g23) T)))))))) [(67,dE (¬a0.n=0))] ?_;cases h1;exact .lg hj1 []
         ·have h1:=iteN g24 h1;refine .a (rb 4 true (rb 3 false (.b true::(.b false::(.b true::(rb 10 false [])))))) (R 4 (dt g21) (R 3 (df g22) (A (A (dt g21) (df g22)) (A (dt g21) (R 4 (df g23) (R 3 (df g24) (A (A (df g23) (df g24)) (A (df g23) T)))))))) [(67,bE false)] ?_;cases h1;exact .lg hj1 []
      ·have h1:=iteN g21 h1;by_cases g25:¬a0.kind=3
       ·have h1:=iteP g25 h1;refine .a (rb 10 false (rb 3 true [.b false,.b true,.b false])) (R 6 (df g21) (R 4 B0 (R 3 (dt g25) (A (A B0 (dt g25)) (A B0 T))))) [(67,dE (¬a0.n=0))] ?_;cases h1;exact .lg hj1 []
       ·have h1:=iteN g25 h1;refine .a (rb 16 false []) (R 6 (df g21) (R 4 B0 (R 3 (df g25) (A (A B0 (df g25)) (A B0 T))))) [(67,bE false)] ?_;cases h1;exact .lg hj1 []
   ·by_cases g26:a0.kind=2
    ·have h1:=iteP g26 h1;obtain⟨k27,hk27,h1⟩:=bnd h1;by_cases g28:(!k27)=true
     ·have h1:=iteP g28 h1;refine .a (rb 3 true (.call [] (bE k27) []::(rb 8 true []))) (R 2 (dt g26) (A (A (dt g26) (w_sp_NameValid n _ hk27)) (R 2 (dt g26) (R 6 g28 T)))) [(44,bE true)] ?_;cases h1;exact .lg hj1 []
     ·have h1:=iteN g28 h1;by_cases g29:¬a0.kind=2
      ·have h1:=iteP g29 h1;refine .a (rb 3 true (.call [] (bE k27) []::(.b true::(.b true::(rb 4 false (rb 3 true [.b false,.b true,.b false])))))) (R 2 (dt g26) (A (A (dt g26) (w_sp_NameValid n _ hk27)) (R 2 (dt g26) (R 4 (Bool.eq_false_iff.2 g28) (R 3 (dt g29) (A (A (Bool.eq_false_iff.2 g28) (dt g29)) (A (Bool.eq_false_iff.2 g28) T))))))) [(44,dE (¬a0.name=[]))] ?_;cases h1;exact .lg hj1 []
      ·have h1:=iteN g29 h1;refine .a (rb 3 true (.call [] (bE k27) []::(.b true::(.b true::(rb 10 false []))))) (R 2 (dt g26) (A (A (dt g26) (w_sp_NameValid n _ hk27)) (R 2 (dt g26) (R 4 (Bool.eq_false_iff.2 g28) (R 3 (df g29) (A (A (Bool.eq_false_iff.2 g28) (df g29)) (A (Bool.eq_false_iff.2 g28) T))))))) [(44,bE false)] ?_;cases h1;exact .lg hj1 []
    ·have h1:=iteN g26 h1;by_cases g30:¬a0.kind=2
     ·have h1:=iteP g30 h1;refine .a (rb 9 false (rb 3 true [.b false,.b true,.b false])) (R 5 (df g26) (R 4 B0 (R 3 (dt g30) (A (A B0 (dt g30)) (A B0 T))))) [(44,dE (¬a0.name=[]))] ?_;cases h1;exact .lg hj1 []
     ·have h1:=iteN g30 h1;refine .a (rb 15 false []) (R 5 (df g26) (R 4 B0 (R 3 (df g30) (A (A B0 (df g30)) (A B0 T))))) [(44,bE false)] ?_;cases h1;exact .lg hj1 []
 ·by_cases g31:a0.kind=1
  ·have h1:=iteP g31 h1;by_cases g32:a0.id<1
   ·have h1:=iteP g32 h1;refine .a (rb 16 true []) (R 4 (dt g31) (R 3 (dt g32) (A (A (dt g31) (dt g32)) (A (dt g31) (R 6 B1 T))))) [(25,bE true)] ?_;cases h1;exact .lg hj1 []
   ·have h1:=iteN g32 h1;by_cases g33:a0.id>999
    ·have h1:=iteP g33 h1;refine .a (rb 4 true (rb 3 false (.b true::(.b false::(rb 7 true []))))) (R 4 (dt g31) (R 3 (df g32) (A (A (dt g31) (df g32)) (A (dt g31) (R 6 (dt g33) T))))) [(25,bE true)] ?_;cases h1;exact .lg hj1 []
    ·have h1:=iteN g33 h1;by_cases g34:¬a0.kind=1
     ·have h1:=iteP g34 h1;refine .a (rb 4 true (rb 3 false (.b true::(.b false::(.b true::(rb 4 false (rb 3 true [.b false,.b true,.b false]))))))) (R 4 (dt g31) (R 3 (df g32) (A (A (dt g31) (df g32)) (A (dt g31) (R 4 (df g33) (R 3 (dt g34) (A (A (df g33) (dt g34)) (A (df g33) T)))))))) [(25,dE (¬a0.id=0))] ?_;cases h1;exact .lg hj1 []
     ·have h1:=iteN g34 h1;refine .a (rb 4 true (rb 3 false (.b true::(.b false::(.b true::(rb 10 false [])))))) (R 4 (dt g31) (R 3 (df g32) (A (A (dt g31) (df g32)) (A (dt g31) (R 4 (df g33) (R 3 (df g34) (A (A (df g33) (df g34)) (A (df g33) T)))))))) [(25,bE false)] ?_;cases h1;exact .lg hj1 []
  ·have h1:=iteN g31 h1;by_cases g35:¬a0.kind=1
   ·have h1:=iteP g35 h1;refine .a (rb 10 false (rb 3 true [.b false,.b true,.b false])) (R 6 (df g31) (R 4 B0 (R 3 (dt g35) (A (A B0 (dt g35)) (A B0 T))))) [(25,dE (¬a0.id=0))] ?_;cases h1;exact .lg hj1 []
   ·have h1:=iteN g35 h1;refine .a (rb 16 false []) (R 6 (df g31) (R 4 B0 (R 3 (df g35) (A (A B0 (df g35)) (A B0 T))))) [(25,bE false)] ?_;cases h1;exact .lg hj1 []
def sp_l6Kids (n:Nat) (a0:Int) (a1:Int):Option (Bool):=
 Option.bind ((if a0=1 then some (decide (a0=1)) else(if a0=2 then some (decide (a0=2)) else(if a0=3 then some (decide (a0=3)) else some (decide (a0=4))))):Option (Bool)) (fun(o1:Bool)=>(if o1=true then some (decide (a1=0)) else(if a0=5 then some (decide (a1=1)) else(if a0=6 then some (decide (a1≥1)) else Option.bind ((if a0=7 then some (decide (a1=3)) else some false):Option (Bool)) (fun(o5:Bool)=>some o5)))))
theorem w_sp_l6Kids (n:Nat):∀(a0:Int) (a1:Int) {r:Bool},sp_l6Kids n a0 a1=some r→SCall X.E 91 [iE a0,iE a1] [] (bE r) []:=by
 intro a0 a1 r h0;rw[sp_l6Kids] at h0;refine .n Tryz.func91 (fun L ks low K hl hL hlen hK=>?_);refine .a [] T [] ?_;refine .a [] T [(5,iE a0)] ?_;refine .a [] T [(6,dE (a0=1))] ?_;refine .bP h0 rfl [0,1,5] (fun o1=>[(6,bE o1)]) n1 n1 (fun o1 h0=>?_) (fun y1 h1 hj1=>?_)
 ·refine .jT h0 (fun hc2 h0=>?_) (fun hc2 h0=>?_)
  ·refine .a [] T [(4,dE (a1=0))] ?_;cases h0;exact .rt hK
  ·refine .a [] T [(13,dE (a0=5))] ?_;refine .jP h0 (fun hc3 h0=>?_) (fun hc3 h0=>?_)
   ·refine .a [] T [(4,dE (a1=1))] ?_;cases h0;exact .rt hK
   ·refine .a [] T [(17,dE (a0=6))] ?_;refine .jP h0 (fun hc4 h0=>?_) (fun hc4 h0=>?_)
    ·refine .a [] T [(4,dE (a1≥1))] ?_;cases h0;exact .rt hK
    ·refine .bP h0 rfl [] (fun o5=>[(4,bE o5)]) n1 n1 (fun o5 h0=>?_) (fun y1 h1 hj1=>?_)
     ·cases h0;exact .rt hK
     ·by_cases g6:a0=7
      ·have h1:=iteP g6 h1;refine .a (rb 3 true []) (R 3 (dt g6) T) [(4,dE (a1=3))] ?_;cases h1;exact .lg hj1 []
      ·have h1:=iteN g6 h1;refine .a (rb 3 false []) (R 3 (df g6) T) [(4,bE false)] ?_;cases h1;exact .lg hj1 []
 ·refine .jP h1 (fun hc7 h1=>?_) (fun hc7 h1=>?_)
  ·cases h1;exact .lg hj1 []
  ·refine .a [] T [(6,dE (a0=2))] ?_;refine .jP h1 (fun hc8 h1=>?_) (fun hc8 h1=>?_)
   ·cases h1;exact .lg hj1 []
   ·refine .a [] T [(6,dE (a0=3))] ?_;refine .jP h1 (fun hc9 h1=>?_) (fun hc9 h1=>?_)
    ·cases h1;exact .lg hj1 []
    ·refine .a [] T [(6,dE (a0=4))] ?_;cases h1;exact .lg hj1 []
def sp_l6Is:Nat→Core→(List Int)→Int→Option (Bool)
 | 0,_,_,_=>none
 | n+1,a0,a1,a2=>Option.bind ((if a2=0 then some true else(sp_l6Kids n a0.kind (a0.kids.length:Int)).bind fun k31=>(if(!k31)=true then some true else(sp_l6Fields n a0).bind fun k33=>(if(!k33)=true then some true else(if a0.kind=1 then(sp_l2Has n a1 a0.id).bind fun k36=>some (!k36) else some false)))):Option (Bool)) (fun(o1:Bool)=>(if o1=true then some false else seqS (forI (fun(s4:List Int) (i3:Nat) (x6:Int)=>(Option.bind ((if x6<1 then some true else(if x6>999 then some true else(sp_l2Has n s4 x6).bind fun k18=>some k18)):Option (Bool)) (fun(o12:Bool)=>(if o12=true then some (Sum.inl false) else(apB 8 [] s4).bind fun z14=>(apB 8 z14 [x6]).bind fun z15=>some (Sum.inr z15))):Option (Bool⊕(List Int)))) 0 a0.ids a1) (fun(s4:List Int)=>seqS (forI (fun(s20:Unit) (i19:Nat) (x22:Core)=>((sp_l6Is n x22 s4 (w64 (a2-1))).bind fun k28=>(if(!k28)=true then some (Sum.inl false) else some (Sum.inr ())):Option (Bool⊕Unit))) 0 a0.kids ()) (fun(s20:Unit)=>some true))))
theorem w_sp_l6Is (n:Nat):∀(a0:Core) (a1:List Int) (a2:Int) {r:Bool},sp_l6Is n a0 a1 a2=some r→SCall X.E 80 [aE (kCore a0),lE 1 (ksInt a1),iE a2] [] (bE r) []:=by
 induction n with
 | zero=>intro a0 a1 a2 r h; cases h
 | succ n ih=>
  intro a0 a1 a2 r h0;rw[sp_l6Is] at h0;refine .n Tryz.func80 (fun L ks low K hl hL hlen hK=>?_);refine .af [] T [(3,pw 3)] [.o 3 (.cells ((kCore a0).map .d))] ?_;refine .bP h0 rfl [1,2,3] (fun o1=>[(37,bE o1)]) n1 n1 (fun o1 h0=>?_) (fun y1 h1 hj1=>?_)
  ·refine .jT h0 (fun hc2 h0=>?_) (fun hc2 h0=>?_)
   ·refine .a [] T [(6,bE false)] ?_;cases h0;exact .rt hK
   ·refine .a [] T [(7,lE 1 (ksInt a1))] ?_;refine .a [] T [(8,iE 0)] ?_;refine .lI h0 rfl [2,3] (fun i3 s4=>[(7,lE 1 (ksInt s4)),(8,iE (i3:Int))]) n2 n2 [] (by kernel_rfl) (fun i3 s4 q5 hd7 hi9 h0=>?_);refine .a [.v (a0.ids.length:Int)] (A (dInt.len' a0.ids) T) [(41,lE 1 (ksInt a0.ids)),(43,dE ((i3:Int)<(a0.ids.length:Int)))] ?_;refine .sn 41 dInt a0.ids (by kernel_rfl) (fun hb10=>?_);refine .lc hd7 rfl (by kernel_rfl) (fun x6 q52 hc11 hx6 hd8 hd8l=>?_) (fun hc11=>?_)
    ·subst hc11;obtain⟨y1,h1,hw1,hn1⟩:=forI_cons h0;refine .bP h1 rfl [2,3,7,8] (fun o12=>[(68,bE o12)]) n1 n1 (fun o12 h1=>?_) (fun y2 h2 hj2=>?_)
     ·refine .jT h1 (fun hc13 h1=>?_) (fun hc13 h1=>?_)
      ·refine .a [] T [(6,bE false)] ?_;cases h1;cases hw1 _ rfl;exact .rt hK
      ·obtain⟨z14,hz14,h1⟩:=bnd h1;obtain⟨z15,hz15,h1⟩:=bnd h1;refine .ad mixed [(0,[.sv (ksInt [])]),(2,[.sv (ksInt z14)]),(6,[.cs [.v (.int .i64 x6)]]),(8,[.sv (ksInt [x6])]),(9,[.sv (ksInt z15)])] [((ksInt z14).length:Int)] (A (dInt.lit []) (A (dInt.ap hz14) (A (dInt.idn hx6) (A (dInt.lit [x6]) (A (dInt.ap hz15) T))))) [(7,.gs (.own 100071) 1 (ksInt z15))] [.o 100071 (.tok (ksInt z15).length 3)] [] ?_;refine .a [.v ((i3+1:Nat):Int)] (A (wn (i:=i3) (by omega)) T) [(8,iE ((i3+1:Nat):Int))] ?_;cases h1;refine .kp [2,3,7,8] [7] ?_;refine .dr 100071 (by kernel_rfl) ?_;exact .nL rfl (i3+1) _ hd8 hd8l (hn1 _ rfl) [] (by kernel_rfl)
     ·by_cases g16:x6<1
      ·have h2:=iteP g16 h2;refine .a (.cs [.v (.int .i64 x6)]::(rb 15 true [])) (A (dInt.idn hx6) (R 7 (dt g16) (R 8 B1 T))) [(68,bE true)] ?_;cases h2;exact .lg hj2 []
      ·have h2:=iteN g16 h2;by_cases g17:x6>999
       ·have h2:=iteP g17 h2;refine .a (.cs [.v (.int .i64 x6)]::(rb 4 false (.cs [.v (.int .i64 x6)]::(rb 3 false (rb 8 true []))))) (A (dInt.idn hx6) (R 3 (df g16) (A (A (df g16) (dInt.idn hx6)) (R 3 (df g16) (R 8 (dt g17) T))))) [(68,bE true)] ?_;cases h2;exact .lg hj2 []
       ·have h2:=iteN g17 h2;obtain⟨k18,hk18,h2⟩:=bnd h2;refine .a (.cs [.v (.int .i64 x6)]::(rb 4 false (.cs [.v (.int .i64 x6)]::(rb 8 false [.cs [.v (.int .i64 x6)],.b false,.b false,.call [] (bE k18) [],.b false])))) (A (dInt.idn hx6) (R 3 (df g16) (A (A (df g16) (dInt.idn hx6)) (R 3 (df g16) (R 4 (df g17) (A (A (df g17) (dInt.idn hx6)) (A (df g17) (A (A (df g17) (w_sp_l2Has n _ _ hk18)) (A (df g17) T))))))))) [(68,bE k18)] ?_;cases h2;exact .lg hj2 []
    ·subst hc11;have h0:=forI_nil h0;refine .a [] T [(9,iE 0)] ?_;refine .lI h0 rfl [2,3,7] (fun i19 s20=>[(9,iE (i19:Int))]) n2 n2 [] (by kernel_rfl) (fun i19 s20 q21 hd23 hi25 h0=>?_);refine .a [.v (a0.kids.length:Int)] (A (dCore.len' a0.kids) T) [(81,lE 11 (ksCore a0.kids)),(83,dE ((i19:Int)<(a0.kids.length:Int)))] ?_;refine .sn 81 dCore a0.kids (by kernel_rfl) (fun hb26=>?_);refine .lc hd23 rfl (by kernel_rfl) (fun x22 q212 hc27 hx22 hd24 hd24l=>?_) (fun hc27=>?_)
     ·subst hc27;obtain⟨y1,h1,hw1,hn1⟩:=forI_cons h0;obtain⟨k28,hk28,h1⟩:=bnd h1;refine .a [.cs (kCore x22),.pl,.call [] (bE k28) []] (A (dCore.idn hx22) (A (ih _ _ _ hk28) T)) [(95,bE (!k28))] ?_;refine .jT h1 (fun hc29 h1=>?_) (fun hc29 h1=>?_)
      ·refine .a [] T [(6,bE false)] ?_;cases h1;cases hw1 _ rfl;exact .rt hK
      ·refine .a [.v ((i19+1:Nat):Int)] (A (wn (i:=i19) (by omega)) T) [(9,iE ((i19+1:Nat):Int))] ?_;cases h1;exact .nL rfl (i19+1) _ hd24 hd24l (hn1 _ rfl) [] (by kernel_rfl)
     ·subst hc27;have h0:=forI_nil h0;refine .a [] T [(6,bE true)] ?_;cases h0;exact .rt hK
  ·by_cases g30:a2=0
   ·have h1:=iteP g30 h1;refine .a (rb 18 true []) (R 8 (dt g30) (R 10 B1 T)) [(37,bE true)] ?_;cases h1;exact .lg hj1 []
   ·have h1:=iteN g30 h1;obtain⟨k31,hk31,h1⟩:=bnd h1;by_cases g32:(!k31)=true
    ·have h1:=iteP g32 h1;refine .a (rb 5 false (.v (a0.kids.length:Int)::(.b false::(.call [] (bE k31) []::(.b false::(.b false::(rb 10 true []))))))) (R 4 (df g30) (A (A (df g30) (dCore.len' a0.kids)) (A (A (df g30) (w_sp_l6Kids n _ _ hk31)) (R 2 (df g30) (R 4 g32 (R 6 B1 T)))))) [(37,bE true)] ?_;cases h1;exact .lg hj1 []
    ·have h1:=iteN g32 h1;obtain⟨k33,hk33,h1⟩:=bnd h1;by_cases g34:(!k33)=true
     ·have h1:=iteP g34 h1;refine .a (rb 5 false (.v (a0.kids.length:Int)::(.b false::(.call [] (bE k31) []::(rb 4 false (.call [] (bE k33) []::(.b false::(.b false::(rb 6 true []))))))))) (R 4 (df g30) (A (A (df g30) (dCore.len' a0.kids)) (A (A (df g30) (w_sp_l6Kids n _ _ hk31)) (R 2 (df g30) (A (Bool.eq_false_iff.2 g32) (A (A (Bool.eq_false_iff.2 g32) (w_sp_l6Fields n _ hk33)) (R 2 (Bool.eq_false_iff.2 g32) (R 6 g34 T)))))))) [(37,bE true)] ?_;cases h1;exact .lg hj1 []
     ·have h1:=iteN g34 h1;by_cases g35:a0.kind=1
      ·have h1:=iteP g35 h1;obtain⟨k36,hk36,h1⟩:=bnd h1;refine .a (rb 5 false (.v (a0.kids.length:Int)::(.b false::(.call [] (bE k31) []::(rb 4 false (.call [] (bE k33) []::(rb 6 false (rb 4 true [.call [] (bE k36) [],.b true,.b false,.b true,.b false])))))))) (R 4 (df g30) (A (A (df g30) (dCore.len' a0.kids)) (A (A (df g30) (w_sp_l6Kids n _ _ hk31)) (R 2 (df g30) (A (Bool.eq_false_iff.2 g32) (A (A (Bool.eq_false_iff.2 g32) (w_sp_l6Fields n _ hk33)) (R 2 (Bool.eq_false_iff.2 g32) (R 4 (Bool.eq_false_iff.2 g34) (R 3 (dt g35) (A (A (dt g35) (w_sp_l2Has n _ _ hk36)) (A (dt g35) (A (A (Bool.eq_false_iff.2 g34) (dt g35)) (A (Bool.eq_false_iff.2 g34) T))))))))))))) [(37,bE (!k36))] ?_;cases h1;exact .lg hj1 []
      ·have h1:=iteN g35 h1;refine .a (rb 5 false (.v (a0.kids.length:Int)::(.b false::(.call [] (bE k31) []::(rb 4 false (.call [] (bE k33) []::(rb 14 false []))))))) (R 4 (df g30) (A (A (df g30) (dCore.len' a0.kids)) (A (A (df g30) (w_sp_l6Kids n _ _ hk31)) (R 2 (df g30) (A (Bool.eq_false_iff.2 g32) (A (A (Bool.eq_false_iff.2 g32) (w_sp_l6Fields n _ hk33)) (R 2 (Bool.eq_false_iff.2 g32) (R 4 (Bool.eq_false_iff.2 g34) (R 5 (df g35) (A (A (Bool.eq_false_iff.2 g34) (df g35)) (A (Bool.eq_false_iff.2 g34) T))))))))))) [(37,bE false)] ?_;cases h1;exact .lg hj1 []
def sp_CoreValid (n:Nat) (a0:Core):Option (Bool):=
 Option.bind ((sp_l6Is n a0 [] 120).bind fun k2=>(if k2=true then(sp_l6Count n a0).bind fun k4=>some (decide (k4≤600)) else some false):Option (Bool)) (fun(o1:Bool)=>some o1)
theorem w_sp_CoreValid (n:Nat):∀(a0:Core) {r:Bool},sp_CoreValid n a0=some r→SCall X.E 54 [aE (kCore a0)] [] (bE r) []:=by
 intro a0 r h0;rw[sp_CoreValid] at h0;refine .n Tryz.func54 (fun L ks low K hl hL hlen hK=>?_);refine .af [] T [(1,pw 1)] [.o 1 (.cells ((kCore a0).map .d))] ?_;refine .bP h0 rfl [] (fun o1=>[(2,bE o1)]) n1 n1 (fun o1 h0=>?_) (fun y1 h1 hj1=>?_)
 ·cases h0;exact .rt hK
 ·obtain⟨k2,hk2,h1⟩:=bnd h1;by_cases g3:k2=true
  ·have h1:=iteP g3 h1;obtain⟨k4,hk4,h1⟩:=bnd h1;refine .a [.sv (ksInt []),.call [] (bE k2) [],.b true,.b true,.call [] (iE k4) [],.b true,.b true] (A (dInt.lit []) (A (w_sp_l6Is n _ _ _ hk2) (A g3 (A (A g3 (w_sp_l6Count n _ hk4)) (R 2 g3 T))))) [(2,dE (k4≤600))] ?_;cases h1;exact .lg hj1 []
  ·have h1:=iteN g3 h1;refine .a (.sv (ksInt [])::(.call [] (bE k2) []::(rb 4 false []))) (A (dInt.lit []) (A (w_sp_l6Is n _ _ _ hk2) (R 4 (Bool.eq_false_iff.2 g3) T))) [(2,bE false)] ?_;cases h1;exact .lg hj1 []
def sp_l15Num (n:Nat) (a0:List UInt8):Option (Int×Bool):=
 Option.bind ((if(a0.length:Int)>0 then(atI a0 0).bind fun y23=>some (decide ((y23.toNat:Int)=45)) else some false):Option (Bool)) (fun(o1:Bool)=>Option.bind ((if o1=true then(slI a0 1 (a0.length:Int)).bind fun z21=>some z21 else some a0):Option (List UInt8)) (fun(o2:List UInt8)=>Option.bind ((if(o2.length:Int)=0 then some true else(if(o2.length:Int)>17 then some true else(atI o2 0).bind fun y17=>(if(y17.toNat:Int)=48 then(if(o2.length:Int)>1 then some true else some o1) else some false))):Option (Bool)) (fun(o3:Bool)=>(if o3=true then some (0,false) else iterM n (fun(s5:Int×Int)=>((if s5.2<(o2.length:Int) then Option.bind ((atI o2 s5.2).bind fun y11=>(if(y11.toNat:Int)<48 then some true else some (decide ((y11.toNat:Int)>57))):Option (Bool)) (fun(o8:Bool)=>(if o8=true then some (Sum.inl (0,false)) else(atI o2 s5.2).bind fun y10=>some (Sum.inr ((w64 ((w64 (s5.1*10))+(IntKind.i64.wrap (IntKind.u8.wrap ((y10.toNat:Int)-48))))),(w64 (s5.2+1)))))) else Option.bind ((if o1=true then some (IntKind.i64.wrap (0-s5.1)) else some s5.1):Option (Int)) (fun(o13:Int)=>some (Sum.inl (o13,true)))):Option ((Int×Bool)⊕(Int×Int)))) (0,0)))))
theorem w_sp_l15Num (n:Nat):∀(a0:List UInt8) {r:Int×Bool},sp_l15Num n a0=some r→SCall X.E 82 [sE a0] [] (.tup [iE r.1,bE r.2]) []:=by
 intro a0 r h0;rw[sp_l15Num] at h0;refine .n Tryz.func82 (fun L ks low K hl hL hlen hK=>?_);refine .a [] T [] ?_;refine .bP h0 rfl [0] (fun o1=>[(4,bE o1)]) n1 n1 (fun o1 h0=>?_) (fun y1 h1 hj1=>?_)
 ·refine .a [] T [(15,bE o1)] ?_;refine .bP h0 rfl [4] (fun o2=>[(0,sE o2)]) n1 n1 (fun o2 h0=>?_) (fun y1 h1 hj1=>?_)
  ·refine .bP h0 rfl [0,4] (fun o3=>[(38,bE o3)]) n1 n1 (fun o3 h0=>?_) (fun y1 h1 hj1=>?_)
   ·refine .jT h0 (fun hc4 h0=>?_) (fun hc4 h0=>?_)
    ·refine .a [] T [(2,iE 0),(3,bE false)] ?_;cases h0;exact .rt hK
    ·refine .a [] T [(5,iE 0)] ?_;refine .a [] T [(6,iE 0)] ?_;refine .it h0 rfl [0,4] (fun s5=>[(5,iE s5.1),(6,iE s5.2)]) n1 n1 [] (by kernel_rfl) (fun nk6 s5 h0=>?_);obtain⟨y1,h1,hw1,hn1⟩:=iter_cons h0;refine .a [] T [(42,dE (s5.2<(o2.length:Int)))] ?_;refine .jP h1 (fun hc7 h1=>?_) (fun hc7 h1=>?_)
     ·refine .bP h1 rfl [0,4,5,6] (fun o8=>[(54,bE o8)]) n1 n1 (fun o8 h1=>?_) (fun y2 h2 hj2=>?_)
      ·refine .jT h1 (fun hc9 h1=>?_) (fun hc9 h1=>?_)
       ·refine .a [] T [(2,iE 0),(3,bE false)] ?_;cases h1;cases hw1 _ rfl;exact .rt hK
       ·obtain⟨y10,hy10,h1⟩:=bnd h1;refine .a [.pl,.by_ y10,.pl,.pl,.pl] (A (idy hy10) T) [(5,iE (w64 ((w64 (s5.1*10))+(IntKind.i64.wrap (IntKind.u8.wrap ((y10.toNat:Int)-48))))))] ?_;refine .a [.pl] T [(6,iE (w64 (s5.2+1)))] ?_;cases h1;exact .nI rfl _ (hn1 _ rfl) [] (by kernel_rfl)
      ·obtain⟨y11,hy11,h2⟩:=bnd h2;by_cases g12:(y11.toNat:Int)<48
       ·have h2:=iteP g12 h2;refine .a (.by_ y11::(rb 5 true [])) (A (idy hy11) (R 5 (dt g12) T)) [(54,bE true)] ?_;cases h2;exact .lg hj2 []
       ·have h2:=iteN g12 h2;refine .a (.by_ y11::(rb 3 false [.by_ y11,.b false,.b false])) (A (idy hy11) (R 2 (df g12) (A (A (df g12) (idy hy11)) (R 2 (df g12) T)))) [(54,dE ((y11.toNat:Int)>57))] ?_;cases h2;exact .lg hj2 []
     ·refine .a [] T [(63,bE o1)] ?_;refine .bP h1 rfl [] (fun o13=>[(5,iE o13)]) n1 n1 (fun o13 h1=>?_) (fun y2 h2 hj2=>?_)
      ·refine .a [] T [(2,iE o13),(3,bE true)] ?_;cases h1;cases hw1 _ rfl;exact .rt hK
      ·refine .jT h2 (fun hc14 h2=>?_) (fun hc14 h2=>?_)
       ·refine .a [] T [(5,iE (IntKind.i64.wrap (0-s5.1)))] ?_;cases h2;exact .lg hj2 []
       ·cases h2;exact .lg hj2 []
   ·by_cases g15:(o2.length:Int)=0
    ·have h1:=iteP g15 h1;refine .a (rb 10 true []) (R 4 (dt g15) (R 6 B1 T)) [(38,bE true)] ?_;cases h1;exact .lg hj1 []
    ·have h1:=iteN g15 h1;by_cases g16:(o2.length:Int)>17
     ·have h1:=iteP g16 h1;refine .a (rb 4 false (rb 6 true [])) (R 4 (df g15) (R 6 (dt g16) T)) [(38,bE true)] ?_;cases h1;exact .lg hj1 []
     ·have h1:=iteN g16 h1;obtain⟨y17,hy17,h1⟩:=bnd h1;by_cases g18:(y17.toNat:Int)=48
      ·have h1:=iteP g18 h1;by_cases g19:(o2.length:Int)>1
       ·have h1:=iteP g19 h1;refine .a (rb 6 false (.by_ y17::(.b false::(.b false::(rb 7 true [.b false,.b true,.b false]))))) (R 4 (df g15) (A (df g16) (A (A (df g16) (idy hy17)) (R 2 (df g16) (R 4 (dt g18) (A (dt g19) (A (A (dt g18) (dt g19)) (A (A (df g16) (dt g18)) (A (df g16) T))))))))) [(38,bE true)] ?_;cases h1;exact .lg hj1 []
       ·have h1:=iteN g19 h1;refine .a (rb 6 false (.by_ y17::(.b false::(.b false::(rb 4 true [.b false,.b true,.b false,.b false,.b true,.b false]))))) (R 4 (df g15) (A (df g16) (A (A (df g16) (idy hy17)) (R 2 (df g16) (R 4 (dt g18) (A (df g19) (A (A (dt g18) (df g19)) (A (A (df g16) (dt g18)) (A (df g16) T))))))))) [(38,bE o1)] ?_;cases h1;exact .lg hj1 []
      ·have h1:=iteN g18 h1;refine .a (rb 6 false (.by_ y17::(rb 10 false []))) (R 4 (df g15) (A (df g16) (A (A (df g16) (idy hy17)) (R 2 (df g16) (R 5 (df g18) (A (A (df g16) (df g18)) (A (df g16) T))))))) [(38,bE false)] ?_;cases h1;exact .lg hj1 []
  ·refine .jT h1 (fun hc20 h1=>?_) (fun hc20 h1=>?_)
   ·obtain⟨z21,hz21,h1⟩:=bnd h1;refine .a [.st z21] (A (slS hz21) T) [(0,sE z21)] ?_;cases h1;exact .lg hj1 []
   ·cases h1;exact .lg hj1 []
 ·by_cases g22:(a0.length:Int)>0
  ·have h1:=iteP g22 h1;obtain⟨y23,hy23,h1⟩:=bnd h1;refine .a [.b true,.b true,.by_ y23,.b true,.b true] (A (dt g22) (A (A (dt g22) (idy hy23)) (R 2 (dt g22) T))) [(4,dE ((y23.toNat:Int)=45))] ?_;cases h1;exact .lg hj1 []
  ·have h1:=iteN g22 h1;refine .a (rb 4 false []) (R 4 (df g22) T) [(4,bE false)] ?_;cases h1;exact .lg hj1 []
def sp_l13Clashes (n:Nat) (a0:List UInt8) (a1:Int):Option (Bool):=
 (slI a0 1 (a0.length:Int)).bind fun z1=>(sp_l15Num n z1).bind fun k2=>Option.bind ((atI a0 0).bind fun y4=>(if(y4.toNat:Int)=a1 then(if k2.2=true then(atI a0 1).bind fun y7=>some (decide (¬(y7.toNat:Int)=45)) else some false) else some false):Option (Bool)) (fun(o3:Bool)=>some o3)
theorem w_sp_l13Clashes (n:Nat):∀(a0:List UInt8) (a1:Int) {r:Bool},sp_l13Clashes n a0 a1=some r→SCall X.E 55 [sE a0,.d (.v (.int .u8 a1))] [] (bE r) []:=by
 intro a0 a1 r h0;rw[sp_l13Clashes] at h0;refine .n Tryz.func55 (fun L ks low K hl hL hlen hK=>?_);refine .a [] T [] ?_;obtain⟨z1,hz1,h0⟩:=bnd h0;obtain⟨k2,hk2,h0⟩:=bnd h0;refine .a [.st z1,.call [] (.tup [iE k2.1,bE k2.2]) []] (A (slS hz1) (A (w_sp_l15Num n _ hk2) T)) [(6,bE k2.2)] ?_;refine .bP h0 rfl [] (fun o3=>[(4,bE o3)]) n1 n1 (fun o3 h0=>?_) (fun y1 h1 hj1=>?_)
 ·cases h0;exact .rt hK
 ·obtain⟨y4,hy4,h1⟩:=bnd h1;by_cases g5:(y4.toNat:Int)=a1
  ·have h1:=iteP g5 h1;by_cases g6:k2.2=true
   ·have h1:=iteP g6 h1;obtain⟨y7,hy7,h1⟩:=bnd h1;refine .a (.by_ y4::(rb 4 true [.by_ y7,.b true,.b true])) (A (idy hy4) (R 2 (dt g5) (A g6 (A (A g6 (idy hy7)) (R 2 g6 T))))) [(4,dE (¬(y7.toNat:Int)=45))] ?_;cases h1;exact .lg hj1 []
   ·have h1:=iteN g6 h1;refine .a (.by_ y4::(.b true::(.b true::(rb 4 false [])))) (A (idy hy4) (R 2 (dt g5) (R 4 (Bool.eq_false_iff.2 g6) T))) [(4,bE false)] ?_;cases h1;exact .lg hj1 []
  ·have h1:=iteN g5 h1;refine .a (.by_ y4::(rb 6 false [])) (A (idy hy4) (R 2 (df g5) (R 4 B0 T))) [(4,bE false)] ?_;cases h1;exact .lg hj1 []
def sp_VarPrefix (n:Nat) (a0:Core):Option ((List UInt8)×Bool):=
 (sp_CoreValid n a0).bind fun k1=>(if(!k1)=true then some ([],false) else(sp_FreeOf n a0).bind fun k3=>iterM n (fun(s4:Int)=>((if s4≤122 then Option.bind (forL (fun(s8:Bool) (i7:Nat) (x10:List UInt8)=>Option.bind ((if s8=true then some true else(sp_l13Clashes n x10 s4).bind fun k18=>some k18):Option (Bool)) (fun(o16:Bool)=>some o16)) 0 k3 false) (fun(s8:Bool)=>(if(!s8)=true then(u8B s4).bind fun y20=>some (Sum.inl ([y20],true)) else some (Sum.inr (IntKind.u8.wrap (s4+1))))) else some (Sum.inl ([],false))):Option (((List UInt8)×Bool)⊕Int))) 97)
theorem w_sp_VarPrefix (n:Nat):∀(a0:Core) {r:(List UInt8)×Bool},sp_VarPrefix n a0=some r→SCall X.E 22 [aE (kCore a0)] [] (.tup [sE r.1,bE r.2]) []:=by
 intro a0 r h0;rw[sp_VarPrefix] at h0;refine .n Tryz.func22 (fun L ks low K hl hL hlen hK=>?_);refine .af [] T [(1,pw 1)] [.o 1 (.cells ((kCore a0).map .d))] ?_;obtain⟨k1,hk1,h0⟩:=bnd h0;refine .a [.call [] (bE k1) []] (A (w_sp_CoreValid n _ hk1) T) [(10,bE (!k1))] ?_;refine .jT h0 (fun hc2 h0=>?_) (fun hc2 h0=>?_)
 ·refine .a [] T [(2,sE []),(3,bE false)] ?_;cases h0;exact .rt hK
 ·obtain⟨k3,hk3,h0⟩:=bnd h0;refine .a [.call [] (lE 1 (ksStr k3)) []] (A (w_sp_FreeOf n _ hk3) T) [(4,lE 1 (ksStr k3))] ?_;refine .a [] T [(5,.d (.v (.int .u8 97)))] ?_;refine .it h0 rfl [4] (fun s4=>[(5,.d (.v (.int .u8 s4)))]) n1 n1 [] (by kernel_rfl) (fun nk5 s4 h0=>?_);obtain⟨y1,h1,hw1,hn1⟩:=iter_cons h0;refine .a [] T [(14,dE (s4≤122))] ?_;refine .jP h1 (fun hc6 h1=>?_) (fun hc6 h1=>?_)
  ·refine .a [] T [(6,bE false)] ?_;refine .a [] T [(7,iE 0)] ?_;refine .lL h1 rfl [4,5] (fun i7 s8=>[(6,bE s8),(7,iE (i7:Int))]) n2 n2 [] (by kernel_rfl) (fun i7 s8 q9 hd11 hi13 h1=>?_);refine .a [.v (k3.length:Int)] (A (dStr.len' k3) T) [(20,dE ((i7:Int)<(k3.length:Int)))] ?_;refine .sn 4 dStr k3 (by kernel_rfl) (fun hb14=>?_);refine .lc hd11 rfl (by kernel_rfl) (fun x10 q92 hc15 hx10 hd12 hd12l=>?_) (fun hc15=>?_)
   ·subst hc15;obtain⟨y2,h2,hn2⟩:=forL_cons h1;refine .bP h2 rfl [4,5,7] (fun o16=>[(6,bE o16)]) n1 n1 (fun o16 h2=>?_) (fun y3 h3 hj3=>?_)
    ·refine .a [.v ((i7+1:Nat):Int)] (A (wn (i:=i7) (by omega)) T) [(7,iE ((i7+1:Nat):Int))] ?_;cases h2;exact .nL rfl (i7+1) _ hd12 hd12l hn2 [] (by kernel_rfl)
    ·by_cases g17:s8=true
     ·have h3:=iteP g17 h3;refine .a (rb 7 true []) (R 7 g17 T) [(6,bE true)] ?_;cases h3;exact .lg hj3 []
     ·have h3:=iteN g17 h3;obtain⟨k18,hk18,h3⟩:=bnd h3;refine .a (rb 3 false (.cs [.s x10]::(rb 3 false [.call [] (bE k18) [],.b false]))) (R 2 (Bool.eq_false_iff.2 g17) (A (A (Bool.eq_false_iff.2 g17) (dStr.idn hx10)) (R 2 (Bool.eq_false_iff.2 g17) (A (A (Bool.eq_false_iff.2 g17) (w_sp_l13Clashes n _ _ hk18)) (A (Bool.eq_false_iff.2 g17) T))))) [(6,bE k18)] ?_;cases h3;exact .lg hj3 []
   ·subst hc15;have h1:=forL_nil h1;refine .a [] T [(33,bE (!s8))] ?_;refine .jT h1 (fun hc19 h1=>?_) (fun hc19 h1=>?_)
    ·obtain⟨y20,hy20,h1⟩:=bnd h1;refine .a [.sv (ksByte [y20]),.st [y20]] (A (by rw[u8B_ok hy20]; rfl:[[KD.v (.int .u8 s4)]]=ksByte [y20]) (A (cvB [y20]) T)) [(2,sE [y20]),(3,bE true)] ?_;cases h1;cases hw1 _ rfl;exact .rt hK
    ·refine .a [.pl] T [(5,.d (.v (.int .u8 (IntKind.u8.wrap (s4+1)))))] ?_;cases h1;exact .nI rfl _ (hn1 _ rfl) [] (by kernel_rfl)
  ·refine .a [] T [(2,sE []),(3,bE false)] ?_;cases h1;cases hw1 _ rfl;exact .rt hK
def sp_l15Dec:Nat→Int→Option (List UInt8)
 | 0,_=>none
 | n+1,a0=>(if a0<(-9223372036854775807) then some q92233720e12c else(if a0<0 then(sp_l15Dec n (IntKind.i64.wrap (0-a0))).bind fun k3=>(catS [45] k3).bind fun z4=>some z4 else iterM n (fun(s5:Int×(List UInt8))=>((if s5.1>9 then(remI s5.1 10).bind fun z8=>(u8B (IntKind.u8.wrap (w64 (48+z8)))).bind fun y9=>(catS [y9] s5.2).bind fun z10=>(quoI s5.1 10).bind fun z11=>some (Sum.inr (z11,z10)) else(u8B (IntKind.u8.wrap (w64 (48+s5.1)))).bind fun y12=>(catS [y12] s5.2).bind fun z13=>some (Sum.inl z13)):Option ((List UInt8)⊕(Int×(List UInt8))))) (a0,[])))
theorem w_sp_l15Dec (n:Nat):∀(a0:Int) {r:List UInt8},sp_l15Dec n a0=some r→SCall X.E 60 [iE a0] [] (sE r) []:=by
 induction n with
 | zero=>intro a0 r h; cases h
 | succ n ih=>
  intro a0 r h0;rw[sp_l15Dec] at h0;refine .n Tryz.func60 (fun L ks low K hl hL hlen hK=>?_);refine .a [] T [] ?_;refine .a [] T [(5,dE (a0<(-9223372036854775807)))] ?_;refine .jP h0 (fun hc1 h0=>?_) (fun hc1 h0=>?_)
  ·refine .a [] T [(2,sE q92233720e12c)] ?_;cases h0;exact .rt hK
  ·refine .a [] T [(7,dE (a0<0))] ?_;refine .jP h0 (fun hc2 h0=>?_) (fun hc2 h0=>?_)
   ·obtain⟨k3,hk3,h0⟩:=bnd h0;obtain⟨z4,hz4,h0⟩:=bnd h0;refine .a [.call [] (sE k3) [],.st z4] (A (ih _ hk3) (A (cat_ok hz4) T)) [(2,sE z4)] ?_;cases h0;exact .rt hK
   ·refine .a [] T [(3,sE [])] ?_;refine .it h0 rfl [] (fun s5=>[(0,iE s5.1),(3,sE s5.2)]) n1 n1 [] (by kernel_rfl) (fun nk6 s5 h0=>?_);obtain⟨y1,h1,hw1,hn1⟩:=iter_cons h0;refine .a [] T [(13,dE (s5.1>9))] ?_;refine .jP h1 (fun hc7 h1=>?_) (fun hc7 h1=>?_)
    ·obtain⟨z8,hz8,h1⟩:=bnd h1;obtain⟨y9,hy9,h1⟩:=bnd h1;obtain⟨z10,hz10,h1⟩:=bnd h1;refine .a [.v z8,.pl,.pl,.sv (ksByte [y9]),.st [y9],.st z10] (A (rem_ok hz8) (A (by rw[u8B_ok hy9]; rfl:[[KD.v (.int .u8 (IntKind.u8.wrap (w64 (48+z8))))]]=ksByte [y9]) (A (cvB [y9]) (A (cat_ok hz10) T)))) [(3,sE z10)] ?_;obtain⟨z11,hz11,h1⟩:=bnd h1;refine .a [.v z11] (A (quo_ok hz11) T) [(0,iE z11)] ?_;cases h1;exact .nI rfl _ (hn1 _ rfl) [] (by kernel_rfl)
    ·obtain⟨y12,hy12,h1⟩:=bnd h1;obtain⟨z13,hz13,h1⟩:=bnd h1;refine .a [.pl,.pl,.sv (ksByte [y12]),.st [y12],.st z13] (A (by rw[u8B_ok hy12]; rfl:[[KD.v (.int .u8 (IntKind.u8.wrap (w64 (48+s5.1))))]]=ksByte [y12]) (A (cvB [y12]) (A (cat_ok hz13) T))) [(2,sE z13)] ?_;cases h1;cases hw1 _ rfl;exact .rt hK
def sp_l1Copy:Nat→Form→Option (Form)
 | 0,_=>none
 | n+1,a0=>(apB 8 [] a0.scopes).bind fun z1=>Option.bind (forL (fun(s3:List Form) (i2:Nat) (x5:Form)=>(sp_l1Copy n x5).bind fun k11=>(apB 80 s3 [k11]).bind fun z12=>some z12) 0 a0.kids []) (fun(s3:List Form)=>some (⟨a0.kind,a0.name,a0.n,z1,s3⟩:Form))
theorem w_sp_l1Copy (n:Nat):∀(a0:Form) {r:Form},sp_l1Copy n a0=some r→SCall X.E 62 [aE (kForm a0)] [] (aE (kForm r)) []:=by
 induction n with
 | zero=>intro a0 r h; cases h
 | succ n ih=>
  intro a0 r h0;rw[sp_l1Copy] at h0;refine .n Tryz.func62 (fun L ks low K hl hL hlen hK=>?_);refine .af [] T [(1,pw 1),(2,pw 2)] [.o 1 (.cells ((kForm a0).map .d)),.o 2 (.cells [iE 0,sE [],iE 0,fE 1 (ksInt []),fE 5 (ksForm [])])] ?_;obtain⟨z1,hz1,h0⟩:=bnd h0;refine .ad mixed [(6,[.sv (ksInt [])]),(9,[.sv (ksInt z1)])] [] (A (dInt.lit []) (A (dInt.ap hz1) T)) [(3,pw 3)] [.o 100014 (.tok (ksInt z1).length 3),.o 3 (.cells [iE a0.kind,sE a0.name,iE a0.n,.gs (.own 100014) 1 (ksInt z1),fE 5 (ksForm [])])] [] ?_;refine .a [] T [(4,iE 0)] ?_;refine .oc 3 4 100032 32 (by kernel_rfl) ?_;refine .lL h0 rfl [1,2,3] (fun i2 s3=>[(4,iE (i2:Int))]) (fun i2 s3=>[.c 3 4 (.gs (.own 100032) 5 (ksForm s3)),.o 100032 (.tok (ksForm s3).length 32)]) n2 [] (by kernel_rfl) (fun i2 s3 q4 hd6 hi8 h0=>?_);refine .a [.v (a0.kids.length:Int)] (A (dForm.len' a0.kids) T) [(18,lE 5 (ksForm a0.kids)),(20,dE ((i2:Int)<(a0.kids.length:Int)))] ?_;refine .sn 18 dForm a0.kids (by kernel_rfl) (fun hb9=>?_);refine .lc hd6 rfl (by kernel_rfl) (fun x5 q42 hc10 hx5 hd7 hd7l=>?_) (fun hc10=>?_)
  ·subst hc10;obtain⟨y1,h1,hn1⟩:=forL_cons h0;obtain⟨k11,hk11,h1⟩:=bnd h1;obtain⟨z12,hz12,h1⟩:=bnd h1;refine .ad mixed [(5,[.cs (kForm x5)]),(7,[.call [] (aE (kForm k11)) []]),(8,[.sv (ksForm [k11])]),(9,[.sv (ksForm z12)])] [((ksForm s3).length:Int)] (A (dForm.idn hx5) (A (ih _ hk11) (A (dForm.lit [k11]) (A (dForm.ap hz12) T)))) [] [.c 3 4 (.gs (.own 100032) 5 (ksForm z12)),.o 100032 (.tok (ksForm z12).length 32)] [] ?_;refine .a [.v ((i2+1:Nat):Int)] (A (wn (i:=i2) (by omega)) T) [(4,iE ((i2+1:Nat):Int))] ?_;cases h1;exact .nL rfl (i2+1) _ hd7 hd7l hn1 [] (by kernel_rfl)
  ·subst hc10;have h0:=forL_nil h0;refine .af [] T [] [.o 2 (.cells [iE a0.kind,sE a0.name,iE a0.n,.gs (.own 100014) 1 (ksInt z1),.gs (.own 100032) 5 (ksForm s3)])] ?_;cases h0;exact .rt hK
def sp_l1List (n:Nat) (a0:List Form):Option (Form):=
 some (⟨3,[],0,[],a0⟩:Form)
theorem w_sp_l1List (n:Nat):∀(a0:List Form) {r:Form},sp_l1List n a0=some r→SCall X.E 61 [lE 5 (ksForm a0)] [] (aE (kForm r)) []:=by
 intro a0 r h0;rw[sp_l1List] at h0;refine .n Tryz.func61 (fun L ks low K hl hL hlen hK=>?_);refine .af [] T [(2,pw 2)] [.o 2 (.cells [iE 0,sE [],iE 0,fE 1 (ksInt []),fE 5 (ksForm [])])] ?_;refine .af [] T [] [.c 2 0 (iE 3),.c 2 4 (lE 5 (ksForm a0))] ?_;cases h0;exact .rt hK
def sp_l1Name (n:Nat) (a0:List UInt8):Option (Form):=
 some (⟨1,a0,0,[],[]⟩:Form)
theorem w_sp_l1Name (n:Nat):∀(a0:List UInt8) {r:Form},sp_l1Name n a0=some r→SCall X.E 59 [sE a0] [] (aE (kForm r)) []:=by
 intro a0 r h0;rw[sp_l1Name] at h0;refine .n Tryz.func59 (fun L ks low K hl hL hlen hK=>?_);refine .af [] T [(2,pw 2)] [.o 2 (.cells [iE 0,sE [],iE 0,fE 1 (ksInt []),fE 5 (ksForm [])])] ?_;refine .af [] T [] [.c 2 0 (iE 1),.c 2 1 (sE a0)] ?_;cases h0;exact .rt hK
def sp_l13Form:Nat→Core→(List UInt8)→Option (Form)
 | 0,_,_=>none
 | n+1,a0,a1=>(if a0.kind=1 then(sp_l15Dec n a0.id).bind fun k2=>(catS a1 k2).bind fun z3=>(sp_l1Name n z3).bind fun k4=>some k4 else(if a0.kind=2 then(sp_l1Name n a0.name).bind fun k6=>some k6 else(if a0.kind=3 then some (⟨2,[],a0.n,[],[]⟩:Form) else(if a0.kind=4 then(sp_l1Name n [113,117,111,116,101]).bind fun k9=>(sp_l1Copy n a0.data).bind fun k10=>(sp_l1List n [k9,k10]).bind fun k11=>some k11 else Option.bind ((if a0.kind=7 then(sp_l1Name n [105,102]).bind fun k44=>(apB 80 [] [k44]).bind fun z45=>some z45 else some []):Option (List Form)) (fun(o12:List Form)=>Option.bind ((if a0.kind=5 then Option.bind (forL (fun(s28:List Form) (i27:Nat) (x30:Int)=>(sp_l15Dec n x30).bind fun k36=>(catS a1 k36).bind fun z37=>(sp_l1Name n z37).bind fun k38=>(apB 80 s28 [k38]).bind fun z39=>some z39) 0 a0.ids []) (fun(s28:List Form)=>(sp_l1Name n [108,97,109,98,100,97]).bind fun k40=>(sp_l1List n s28).bind fun k41=>(apB 80 o12 [k40,k41]).bind fun z42=>some z42) else some o12):Option (List Form)) (fun(o13:List Form)=>Option.bind (forL (fun(s15:List Form) (i14:Nat) (x17:Core)=>(sp_l13Form n x17 a1).bind fun k23=>(apB 80 s15 [k23]).bind fun z24=>some z24) 0 a0.kids o13) (fun(s15:List Form)=>(sp_l1List n s15).bind fun k25=>some k25)))))))
theorem w_sp_l13Form (n:Nat):∀(a0:Core) (a1:List UInt8) {r:Form},sp_l13Form n a0 a1=some r→SCall X.E 25 [aE (kCore a0),sE a1] [] (aE (kForm r)) []:=by
 induction n with
 | zero=>intro a0 a1 r h; cases h
 | succ n ih=>
  intro a0 a1 r h0;rw[sp_l13Form] at h0;refine .n Tryz.func25 (fun L ks low K hl hL hlen hK=>?_);refine .af [] T [(2,pw 2),(4,pw 4)] [.o 2 (.cells ((kCore a0).map .d)),.o 4 (.cells [iE 0,sE [],iE 0,fE 1 (ksInt []),fE 5 (ksForm [])])] ?_;refine .a [] T [(10,iE a0.kind)] ?_;refine .a [] T [(11,dE (a0.kind=1))] ?_;refine .jP h0 (fun hc1 h0=>?_) (fun hc1 h0=>?_)
  ·obtain⟨k2,hk2,h0⟩:=bnd h0;obtain⟨z3,hz3,h0⟩:=bnd h0;obtain⟨k4,hk4,h0⟩:=bnd h0;refine .af [.call [] (sE k2) [],.st z3,.call [] (aE (kForm k4)) []] (A (w_sp_l15Dec n _ hk2) (A (cat_ok hz3) (A (w_sp_l1Name n _ hk4) T))) [] [.o 4 (.cells ((kForm k4).map .d))] ?_;cases h0;exact .rt hK
  ·refine .a [] T [(19,dE (a0.kind=2))] ?_;refine .jP h0 (fun hc5 h0=>?_) (fun hc5 h0=>?_)
   ·obtain⟨k6,hk6,h0⟩:=bnd h0;refine .af [.call [] (aE (kForm k6)) []] (A (w_sp_l1Name n _ hk6) T) [] [.o 4 (.cells ((kForm k6).map .d))] ?_;cases h0;exact .rt hK
   ·refine .a [] T [(24,dE (a0.kind=3))] ?_;refine .jP h0 (fun hc7 h0=>?_) (fun hc7 h0=>?_)
    ·refine .af [] T [] [.c 4 0 (iE 2),.c 4 2 (iE a0.n)] ?_;cases h0;exact .rt hK
    ·refine .a [] T [(29,dE (a0.kind=4))] ?_;refine .jP h0 (fun hc8 h0=>?_) (fun hc8 h0=>?_)
     ·obtain⟨k9,hk9,h0⟩:=bnd h0;obtain⟨k10,hk10,h0⟩:=bnd h0;obtain⟨k11,hk11,h0⟩:=bnd h0;refine .ad mixed [(0,[.call [] (aE (kForm k9)) []]),(3,[.call [] (aE (kForm k10)) []]),(4,[.sv (ksForm [k9,k10])]),(5,[.call [] (aE (kForm k11)) []])] [] (A (w_sp_l1Name n _ hk9) (A (w_sp_l1Copy n _ hk10) (A (dForm.lit [k9,k10]) (A (w_sp_l1List n _ hk11) T)))) [] [.o 4 (.cells ((kForm k11).map .d))] [] ?_;cases h0;exact .rt hK
     ·refine .a [.sv (ksForm [])] (A (dForm.lit []) T) [(5,fE 5 (ksForm []))] ?_;refine .a [] T [(40,dE (a0.kind=7))] ?_;refine .ow 5 100044 32 [1,2,4,40] rfl rfl (by kernel_rfl) ?_;refine .bP h0 rfl [1,2,4] (fun o12=>[(5,.gs (.own 100044) 5 (ksForm o12))]) (fun o12=>[.o 100044 (.tok (ksForm o12).length 32)]) n1 (fun o12 h0=>?_) (fun y1 h1 hj1=>?_)
      ·refine .a [] T [(47,dE (a0.kind=5))] ?_;refine .bP h0 rfl [1,2,4] (fun o13=>[(5,.gs (.own 100044) 5 (ksForm o13))]) (fun o13=>[.o 100044 (.tok (ksForm o13).length 32)]) n1 (fun o13 h0=>?_) (fun y1 h1 hj1=>?_)
       ·refine .a [] T [(8,iE 0)] ?_;refine .lL h0 rfl [1,2,4] (fun i14 s15=>[(5,.gs (.own 100044) 5 (ksForm s15)),(8,iE (i14:Int))]) (fun i14 s15=>[.o 100044 (.tok (ksForm s15).length 32)]) n2 [] (by kernel_rfl) (fun i14 s15 q16 hd18 hi20 h0=>?_);refine .a [.v (a0.kids.length:Int)] (A (dCore.len' a0.kids) T) [(76,lE 11 (ksCore a0.kids)),(78,dE ((i14:Int)<(a0.kids.length:Int)))] ?_;refine .sn 76 dCore a0.kids (by kernel_rfl) (fun hb21=>?_);refine .lc hd18 rfl (by kernel_rfl) (fun x17 q162 hc22 hx17 hd19 hd19l=>?_) (fun hc22=>?_)
        ·subst hc22;obtain⟨y1,h1,hn1⟩:=forL_cons h0;obtain⟨k23,hk23,h1⟩:=bnd h1;obtain⟨z24,hz24,h1⟩:=bnd h1;refine .aq [.cs (kCore x17),.call [] (aE (kForm k23)) [],.sv (ksForm [k23]),.sv (ksForm z24)] [((ksForm s15).length:Int)] (A (dCore.idn hx17) (A (ih _ _ hk23) (A (dForm.lit [k23]) (A (dForm.ap hz24) T)))) [(5,.gs (.own 100044) 5 (ksForm z24))] [.o 100044 (.tok (ksForm z24).length 32)] [] ?_;refine .a [.v ((i14+1:Nat):Int)] (A (wn (i:=i14) (by omega)) T) [(8,iE ((i14+1:Nat):Int))] ?_;cases h1;exact .nL rfl (i14+1) _ hd19 hd19l hn1 [] (by kernel_rfl)
        ·subst hc22;have h0:=forL_nil h0;obtain⟨k25,hk25,h0⟩:=bnd h0;refine .af [.call [] (aE (kForm k25)) []] (A (w_sp_l1List n _ hk25) T) [] [.o 4 (.cells ((kForm k25).map .d))] ?_;cases h0;exact .rt hK
       ·refine .jP h1 (fun hc26 h1=>?_) (fun hc26 h1=>?_)
        ·refine .a [.sv (ksForm [])] (A (dForm.lit []) T) [(6,fE 5 (ksForm []))] ?_;refine .a [] T [(7,iE 0)] ?_;refine .ow 6 100067 32 [1,2,4,5,7] rfl rfl (by kernel_rfl) ?_;refine .lL h1 rfl [1,2,4,5] (fun i27 s28=>[(6,.gs (.own 100067) 5 (ksForm s28)),(7,iE (i27:Int))]) (fun i27 s28=>[.o 100067 (.tok (ksForm s28).length 32)]) n2 [] (by kernel_rfl) (fun i27 s28 q29 hd31 hi33 h1=>?_);refine .a [.v (a0.ids.length:Int)] (A (dInt.len' a0.ids) T) [(51,lE 1 (ksInt a0.ids)),(53,dE ((i27:Int)<(a0.ids.length:Int)))] ?_;refine .sn 51 dInt a0.ids (by kernel_rfl) (fun hb34=>?_);refine .lc hd31 rfl (by kernel_rfl) (fun x30 q292 hc35 hx30 hd32 hd32l=>?_) (fun hc35=>?_)
         ·subst hc35;obtain⟨y2,h2,hn2⟩:=forL_cons h1;obtain⟨k36,hk36,h2⟩:=bnd h2;obtain⟨z37,hz37,h2⟩:=bnd h2;obtain⟨k38,hk38,h2⟩:=bnd h2;obtain⟨z39,hz39,h2⟩:=bnd h2;refine .aq [.cs [.v (.int .i64 x30)],.call [] (sE k36) [],.st z37,.call [] (aE (kForm k38)) [],.sv (ksForm [k38]),.sv (ksForm z39)] [((ksForm s28).length:Int)] (A (dInt.idn hx30) (A (w_sp_l15Dec n _ hk36) (A (cat_ok hz37) (A (w_sp_l1Name n _ hk38) (A (dForm.lit [k38]) (A (dForm.ap hz39) T)))))) [(6,.gs (.own 100067) 5 (ksForm z39))] [.o 100067 (.tok (ksForm z39).length 32)] [] ?_;refine .a [.v ((i27+1:Nat):Int)] (A (wn (i:=i27) (by omega)) T) [(7,iE ((i27+1:Nat):Int))] ?_;cases h2;exact .nL rfl (i27+1) _ hd32 hd32l hn2 [] (by kernel_rfl)
         ·subst hc35;have h1:=forL_nil h1;obtain⟨k40,hk40,h1⟩:=bnd h1;obtain⟨k41,hk41,h1⟩:=bnd h1;obtain⟨z42,hz42,h1⟩:=bnd h1;refine .aq [.call [] (aE (kForm k40)) [],.call [] (aE (kForm k41)) [],.sv (ksForm [k40,k41]),.sv (ksForm z42)] [((ksForm o12).length:Int)] (A (w_sp_l1Name n _ hk40) (A (w_sp_l1List n _ hk41) (A (dForm.lit [k40,k41]) (A (dForm.ap hz42) T)))) [(5,.gs (.own 100044) 5 (ksForm z42))] [.o 100044 (.tok (ksForm z42).length 32)] [] ?_;cases h1;refine .kp [1,2,4,5] [] ?_;refine .dr 100067 (by kernel_rfl) ?_;exact .lg hj1 []
        ·cases h1;exact .lg hj1 []
      ·refine .jP h1 (fun hc43 h1=>?_) (fun hc43 h1=>?_)
       ·obtain⟨k44,hk44,h1⟩:=bnd h1;obtain⟨z45,hz45,h1⟩:=bnd h1;refine .aq [.call [] (aE (kForm k44)) [],.sv (ksForm [k44]),.sv (ksForm z45)] [((ksForm []).length:Int)] (A (w_sp_l1Name n _ hk44) (A (dForm.lit [k44]) (A (dForm.ap hz45) T))) [(5,.gs (.own 100044) 5 (ksForm z45))] [.o 100044 (.tok (ksForm z45).length 32)] [] ?_;cases h1;exact .lg hj1 []
       ·cases h1;exact .lg hj1 []
def sp_l7Names (n:Nat)  : Option (List (List UInt8)):=
 some [[],[108,97,109,98,100,97],[105,102],[113,117,111,116,101],[108,101,116],qletsynta5388]
theorem w_sp_l7Names (n:Nat):∀{r:List (List UInt8)},sp_l7Names n  = some r→SCall X.E 58 [] [] (lE 1 (ksStr r)) []:=by
 intro r h0;rw[sp_l7Names] at h0;refine .n Tryz.func58 (fun L ks low K hl hL hlen hK=>?_);refine .a [] T [] ?_;refine .a [.sv (ksStr [[],[108,97,109,98,100,97],[105,102],[113,117,111,116,101],[108,101,116],qletsynta5388])] (A (dStr.lit [[],[108,97,109,98,100,97],[105,102],[113,117,111,116,101],[108,101,116],qletsynta5388]) T) [(0,fE 1 (ksStr [[],[108,97,109,98,100,97],[105,102],[113,117,111,116,101],[108,101,116],qletsynta5388]))] ?_;cases h0;exact .rt hK
def sp_l13Reserved (n:Nat) (a0:List UInt8):Option (Bool):=
 (sp_l7Names n).bind fun k1=>(sp_l1In n k1 a0).bind fun k2=>some k2
theorem w_sp_l13Reserved (n:Nat):∀(a0:List UInt8) {r:Bool},sp_l13Reserved n a0=some r→SCall X.E 24 [sE a0] [] (bE r) []:=by
 intro a0 r h0;rw[sp_l13Reserved] at h0;refine .n Tryz.func24 (fun L ks low K hl hL hlen hK=>?_);refine .a [] T [] ?_;obtain⟨k1,hk1,h0⟩:=bnd h0;obtain⟨k2,hk2,h0⟩:=bnd h0;refine .a [.call [] (lE 1 (ksStr k1)) [],.call [] (bE k2) []] (A (w_sp_l7Names n  hk1) (A (w_sp_l1In n _ _ hk2) T)) [(2,bE k2)] ?_;cases h0;exact .rt hK
def sp_UncoreForm (n:Nat) (a0:Core):Option (Form×Bool):=
 (sp_VarPrefix n a0).bind fun k1=>(if(!k1.2)=true then some ((⟨0,[],0,[],[]⟩:Form),false) else(sp_FreeOf n a0).bind fun k3=>seqS (forI (fun(s5:Unit) (i4:Nat) (x7:List UInt8)=>((sp_l13Reserved n x7).bind fun k13=>(if k13=true then some (Sum.inl ((⟨0,[],0,[],[]⟩:Form),false)) else some (Sum.inr ())):Option ((Form×Bool)⊕Unit))) 0 k3 ()) (fun(s5:Unit)=>(sp_l13Form n a0 k1.1).bind fun k15=>(sp_FormValid n k15).bind fun k16=>(if(!k16)=true then some ((⟨0,[],0,[],[]⟩:Form),false) else some (k15,true))))
theorem w_sp_UncoreForm (n:Nat):∀(a0:Core) {r:Form×Bool},sp_UncoreForm n a0=some r→SCall X.E 6 [aE (kCore a0)] [] (.tup [aE (kForm r.1),bE r.2]) []:=by
 intro a0 r h0;rw[sp_UncoreForm] at h0;refine .n Tryz.func6 (fun L ks low K hl hL hlen hK=>?_);refine .af [] T [(1,pw 1),(2,pw 2)] [.o 1 (.cells ((kCore a0).map .d)),.o 2 (.cells [iE 0,sE [],iE 0,fE 1 (ksInt []),fE 5 (ksForm [])])] ?_;obtain⟨k1,hk1,h0⟩:=bnd h0;refine .a [.call [] (.tup [sE k1.1,bE k1.2]) []] (A (w_sp_VarPrefix n _ hk1) T) [(4,sE k1.1),(5,bE k1.2)] ?_;refine .a [] T [(15,bE (!k1.2))] ?_;refine .jT h0 (fun hc2 h0=>?_) (fun hc2 h0=>?_)
 ·refine .a [] T [(3,bE false)] ?_;cases h0;exact .rt hK
 ·obtain⟨k3,hk3,h0⟩:=bnd h0;refine .a [.call [] (lE 1 (ksStr k3)) []] (A (w_sp_FreeOf n _ hk3) T) [(6,lE 1 (ksStr k3))] ?_;refine .a [] T [(7,iE 0)] ?_;refine .lI h0 rfl [1,2,4,6] (fun i4 s5=>[(7,iE (i4:Int))]) n2 n2 [] (by kernel_rfl) (fun i4 s5 q6 hd8 hi10 h0=>?_);refine .a [.v (k3.length:Int)] (A (dStr.len' k3) T) [(22,dE ((i4:Int)<(k3.length:Int)))] ?_;refine .sn 6 dStr k3 (by kernel_rfl) (fun hb11=>?_);refine .lc hd8 rfl (by kernel_rfl) (fun x7 q62 hc12 hx7 hd9 hd9l=>?_) (fun hc12=>?_)
  ·subst hc12;obtain⟨y1,h1,hw1,hn1⟩:=forI_cons h0;obtain⟨k13,hk13,h1⟩:=bnd h1;refine .a [.cs [.s x7],.call [] (bE k13) []] (A (dStr.idn hx7) (A (w_sp_l13Reserved n _ hk13) T)) [(29,bE k13)] ?_;refine .jT h1 (fun hc14 h1=>?_) (fun hc14 h1=>?_)
   ·refine .a [] T [(3,bE false)] ?_;cases h1;cases hw1 _ rfl;exact .rt hK
   ·refine .a [.v ((i4+1:Nat):Int)] (A (wn (i:=i4) (by omega)) T) [(7,iE ((i4+1:Nat):Int))] ?_;cases h1;exact .nL rfl (i4+1) _ hd9 hd9l (hn1 _ rfl) [] (by kernel_rfl)
  ·subst hc12;have h0:=forI_nil h0;obtain⟨k15,hk15,h0⟩:=bnd h0;refine .af [.call [] (aE (kForm k15)) []] (A (w_sp_l13Form n _ _ hk15) T) [(8,pw 8)] [.o 8 (.cells ((kForm k15).map .d))] ?_;obtain⟨k16,hk16,h0⟩:=bnd h0;refine .a [.call [] (bE k16) []] (A (w_sp_FormValid n _ hk16) T) [(36,bE (!k16))] ?_;refine .jT h0 (fun hc17 h0=>?_) (fun hc17 h0=>?_)
   ·refine .a [] T [(3,bE false)] ?_;cases h0;exact .rt hK
   ·refine .af [] T [(3,bE true)] [.o 2 (.cells ((kForm k15).map .d))] ?_;cases h0;exact .rt hK
def la_eqIntS (n:Nat) (a0:List Int) (a1:List Int):Option (Bool):=
 (if ¬(a0.length:Int)=(a1.length:Int) then some false else seqS (forI (fun(s5:Unit) (i4:Nat) (x7:Int)=>((atI a1 (i4:Int)).bind fun e12=>(if ¬x7=e12 then some (Sum.inl false) else some (Sum.inr ())):Option (Bool⊕Unit))) 0 a0 ()) (fun(s5:Unit)=>some true))
theorem w_la_eqIntS (n:Nat):∀(a0:List Int) (a1:List Int) {r:Bool},la_eqIntS n a0 a1=some r→SCall X.E 36 [lE 1 (ksInt a0),lE 1 (ksInt a1)] [] (bE r) []:=by
 intro a0 a1 r h0;rw[la_eqIntS] at h0;refine .n Tryz.func36 (fun L ks low K hl hL hlen hK=>?_);refine .a [] T [] ?_;refine .a [.v (a0.length:Int),.v (a1.length:Int)] (A (dInt.len' a0) (A (dInt.len' a1) T)) [(10,dE (¬(a0.length:Int)=(a1.length:Int)))] ?_;refine .sn 0 dInt a0 (by kernel_rfl) (fun hb1=>?_);refine .sn 1 dInt a1 (by kernel_rfl) (fun hb2=>?_);refine .jP h0 (fun hc3 h0=>?_) (fun hc3 h0=>?_)
 ·refine .a [] T [(4,bE false)] ?_;cases h0;exact .rt hK
 ·refine .a [] T [(5,iE 0)] ?_;refine .lI h0 rfl [0,1] (fun i4 s5=>[(5,iE (i4:Int))]) n2 n2 [] (by kernel_rfl) (fun i4 s5 q6 hd8 hi10 h0=>?_);refine .a [.v (a0.length:Int)] (A (dInt.len' a0) T) [(14,dE ((i4:Int)<(a0.length:Int)))] ?_;refine .lc hd8 rfl (by kernel_rfl) (fun x7 q62 hc11 hx7 hd9 hd9l=>?_) (fun hc11=>?_)
  ·subst hc11;obtain⟨y1,h1,hw1,hn1⟩:=forI_cons h0;obtain⟨e12,he12,h1⟩:=bnd h1;refine .ad mixed [(2,[.cs [.v (.int .i64 x7)]]),(6,[.cs [.v (.int .i64 e12)]])] [] (A (dInt.idn hx7) (A (dInt.idx he12) T)) [(25,dE (¬x7=e12))] [] [] ?_;refine .jP h1 (fun hc13 h1=>?_) (fun hc13 h1=>?_)
   ·refine .a [] T [(4,bE false)] ?_;cases h1;cases hw1 _ rfl;exact .rt hK
   ·refine .a [.v ((i4+1:Nat):Int)] (A (wn (i:=i4) (by omega)) T) [(5,iE ((i4+1:Nat):Int))] ?_;cases h1;exact .nL rfl (i4+1) _ hd9 hd9l (hn1 _ rfl) [] (by kernel_rfl)
  ·subst hc11;have h0:=forI_nil h0;refine .a [] T [(4,bE true)] ?_;cases h0;exact .rt hK
mutual
def la_eqForm:Nat→Form→Form→Option (Bool)
 | 0,_,_=>none
 | n+1,a0,a1=>(if ¬a0.kind=a1.kind then some false else(if ¬a0.name=a1.name then some false else(if ¬a0.n=a1.n then some false else(la_eqIntS n a0.scopes a1.scopes).bind fun k4=>(if(!k4)=true then some false else(la_eqFormS n a0.kids a1.kids).bind fun k6=>(if(!k6)=true then some false else some true)))))
def la_eqFormS:Nat→(List Form)→(List Form)→Option (Bool)
 | 0,_,_=>none
 | n+1,a0,a1=>(if ¬(a0.length:Int)=(a1.length:Int) then some false else seqS (forI (fun(s5:Unit) (i4:Nat) (x7:Form)=>((atI a1 (i4:Int)).bind fun e12=>(la_eqForm n x7 e12).bind fun k13=>(if(!k13)=true then some (Sum.inl false) else some (Sum.inr ())):Option (Bool⊕Unit))) 0 a0 ()) (fun(s5:Unit)=>some true))
end
theorem g_la_eqForm (n:Nat):(∀(a0:Form) (a1:Form) {r:Bool},la_eqForm n a0 a1=some r→SCall X.E 9 [aE (kForm a0),aE (kForm a1)] [] (bE r) [])∧(∀(a0:List Form) (a1:List Form) {r:Bool},la_eqFormS n a0 a1=some r→SCall X.E 37 [lE 5 (ksForm a0),lE 5 (ksForm a1)] [] (bE r) []):=by
 induction n with
 | zero=>exact⟨(by intros; rename_i h; cases h),(by intros; rename_i h; cases h)⟩
 | succ n ih=>
  refine⟨?_,?_⟩
  ·intro a0 a1 r h0;rw[la_eqForm] at h0;refine .n Tryz.func9 (fun L ks low K hl hL hlen hK=>?_);refine .af [] T [(2,pw 2),(3,pw 3)] [.o 2 (.cells ((kForm a0).map .d)),.o 3 (.cells ((kForm a1).map .d))] ?_;refine .a [] T [(9,dE (¬a0.kind=a1.kind))] ?_;refine .jP h0 (fun hc1 h0=>?_) (fun hc1 h0=>?_)
   ·refine .a [] T [(4,bE false)] ?_;cases h0;exact .rt hK
   ·refine .a [] T [(14,dE (¬a0.name=a1.name))] ?_;refine .jP h0 (fun hc2 h0=>?_) (fun hc2 h0=>?_)
    ·refine .a [] T [(4,bE false)] ?_;cases h0;exact .rt hK
    ·refine .a [] T [(19,dE (¬a0.n=a1.n))] ?_;refine .jP h0 (fun hc3 h0=>?_) (fun hc3 h0=>?_)
     ·refine .a [] T [(4,bE false)] ?_;cases h0;exact .rt hK
     ·obtain⟨k4,hk4,h0⟩:=bnd h0;refine .a [.call [] (bE k4) []] (A (w_la_eqIntS n _ _ hk4) T) [(25,bE (!k4))] ?_;refine .jT h0 (fun hc5 h0=>?_) (fun hc5 h0=>?_)
      ·refine .a [] T [(4,bE false)] ?_;cases h0;exact .rt hK
      ·obtain⟨k6,hk6,h0⟩:=bnd h0;refine .a [.call [] (bE k6) []] (A (ih.2 _ _ hk6) T) [(31,bE (!k6))] ?_;refine .jT h0 (fun hc7 h0=>?_) (fun hc7 h0=>?_)
       ·refine .a [] T [(4,bE false)] ?_;cases h0;exact .rt hK
       ·refine .a [] T [(4,bE true)] ?_;cases h0;exact .rt hK
  ·intro a0 a1 r h0;rw[la_eqFormS] at h0;refine .n Tryz.func37 (fun L ks low K hl hL hlen hK=>?_);refine .a [] T [] ?_;refine .a [.v (a0.length:Int),.v (a1.length:Int)] (A (dForm.len' a0) (A (dForm.len' a1) T)) [(10,dE (¬(a0.length:Int)=(a1.length:Int)))] ?_;refine .sn 0 dForm a0 (by kernel_rfl) (fun hb1=>?_);refine .sn 1 dForm a1 (by kernel_rfl) (fun hb2=>?_);refine .jP h0 (fun hc3 h0=>?_) (fun hc3 h0=>?_)
   ·refine .a [] T [(4,bE false)] ?_;cases h0;exact .rt hK
   ·refine .a [] T [(5,iE 0)] ?_;refine .lI h0 rfl [0,1] (fun i4 s5=>[(5,iE (i4:Int))]) n2 n2 [] (by kernel_rfl) (fun i4 s5 q6 hd8 hi10 h0=>?_);refine .a [.v (a0.length:Int)] (A (dForm.len' a0) T) [(14,dE ((i4:Int)<(a0.length:Int)))] ?_;refine .lc hd8 rfl (by kernel_rfl) (fun x7 q62 hc11 hx7 hd9 hd9l=>?_) (fun hc11=>?_)
    ·subst hc11;obtain⟨y1,h1,hw1,hn1⟩:=forI_cons h0;obtain⟨e12,he12,h1⟩:=bnd h1;obtain⟨k13,hk13,h1⟩:=bnd h1;refine .ad mixed [(2,[.cs (kForm x7)]),(6,[.cs (kForm e12)]),(8,[.call [] (bE k13) []])] [] (A (dForm.idn hx7) (A (dForm.idx he12) (A (ih.1 _ _ hk13) T))) [(26,bE (!k13))] [] [] ?_;refine .jT h1 (fun hc14 h1=>?_) (fun hc14 h1=>?_)
     ·refine .a [] T [(4,bE false)] ?_;cases h1;cases hw1 _ rfl;exact .rt hK
     ·refine .a [.v ((i4+1:Nat):Int)] (A (wn (i:=i4) (by omega)) T) [(5,iE ((i4+1:Nat):Int))] ?_;cases h1;exact .nL rfl (i4+1) _ hd9 hd9l (hn1 _ rfl) [] (by kernel_rfl)
    ·subst hc11;have h0:=forI_nil h0;refine .a [] T [(4,bE true)] ?_;cases h0;exact .rt hK
theorem w_la_eqForm (n:Nat):∀(a0:Form) (a1:Form) {r:Bool},la_eqForm n a0 a1=some r→SCall X.E 9 [aE (kForm a0),aE (kForm a1)] [] (bE r) []:=(g_la_eqForm n).1
theorem w_la_eqFormS (n:Nat):∀(a0:List Form) (a1:List Form) {r:Bool},la_eqFormS n a0 a1=some r→SCall X.E 37 [lE 5 (ksForm a0),lE 5 (ksForm a1)] [] (bE r) []:=(g_la_eqForm n).2
mutual
def la_eqCore:Nat→Core→Core→Option (Bool)
 | 0,_,_=>none
 | n+1,a0,a1=>(if ¬a0.kind=a1.kind then some false else(if ¬a0.id=a1.id then some false else(if ¬a0.name=a1.name then some false else(if ¬a0.n=a1.n then some false else(la_eqIntS n a0.ids a1.ids).bind fun k5=>(if(!k5)=true then some false else(la_eqForm n a0.data a1.data).bind fun k7=>(if(!k7)=true then some false else(la_eqCoreS n a0.kids a1.kids).bind fun k9=>(if(!k9)=true then some false else some true)))))))
def la_eqCoreS:Nat→(List Core)→(List Core)→Option (Bool)
 | 0,_,_=>none
 | n+1,a0,a1=>(if ¬(a0.length:Int)=(a1.length:Int) then some false else seqS (forI (fun(s5:Unit) (i4:Nat) (x7:Core)=>((atI a1 (i4:Int)).bind fun e12=>(la_eqCore n x7 e12).bind fun k13=>(if(!k13)=true then some (Sum.inl false) else some (Sum.inr ())):Option (Bool⊕Unit))) 0 a0 ()) (fun(s5:Unit)=>some true))
end
theorem g_la_eqCore (n:Nat):(∀(a0:Core) (a1:Core) {r:Bool},la_eqCore n a0 a1=some r→SCall X.E 10 [aE (kCore a0),aE (kCore a1)] [] (bE r) [])∧(∀(a0:List Core) (a1:List Core) {r:Bool},la_eqCoreS n a0 a1=some r→SCall X.E 38 [lE 11 (ksCore a0),lE 11 (ksCore a1)] [] (bE r) []):=by
 induction n with
 | zero=>exact⟨(by intros; rename_i h; cases h),(by intros; rename_i h; cases h)⟩
 | succ n ih=>
  refine⟨?_,?_⟩
  ·intro a0 a1 r h0;rw[la_eqCore] at h0;refine .n Tryz.func10 (fun L ks low K hl hL hlen hK=>?_);refine .af [] T [(2,pw 2),(3,pw 3)] [.o 2 (.cells ((kCore a0).map .d)),.o 3 (.cells ((kCore a1).map .d))] ?_;refine .a [] T [(9,dE (¬a0.kind=a1.kind))] ?_;refine .jP h0 (fun hc1 h0=>?_) (fun hc1 h0=>?_)
   ·refine .a [] T [(4,bE false)] ?_;cases h0;exact .rt hK
   ·refine .a [] T [(14,dE (¬a0.id=a1.id))] ?_;refine .jP h0 (fun hc2 h0=>?_) (fun hc2 h0=>?_)
    ·refine .a [] T [(4,bE false)] ?_;cases h0;exact .rt hK
    ·refine .a [] T [(19,dE (¬a0.name=a1.name))] ?_;refine .jP h0 (fun hc3 h0=>?_) (fun hc3 h0=>?_)
     ·refine .a [] T [(4,bE false)] ?_;cases h0;exact .rt hK
     ·refine .a [] T [(24,dE (¬a0.n=a1.n))] ?_;refine .jP h0 (fun hc4 h0=>?_) (fun hc4 h0=>?_)
      ·refine .a [] T [(4,bE false)] ?_;cases h0;exact .rt hK
      ·obtain⟨k5,hk5,h0⟩:=bnd h0;refine .a [.call [] (bE k5) []] (A (w_la_eqIntS n _ _ hk5) T) [(30,bE (!k5))] ?_;refine .jT h0 (fun hc6 h0=>?_) (fun hc6 h0=>?_)
       ·refine .a [] T [(4,bE false)] ?_;cases h0;exact .rt hK
       ·obtain⟨k7,hk7,h0⟩:=bnd h0;refine .a [.call [] (bE k7) []] (A (w_la_eqForm n _ _ hk7) T) [(36,bE (!k7))] ?_;refine .jT h0 (fun hc8 h0=>?_) (fun hc8 h0=>?_)
        ·refine .a [] T [(4,bE false)] ?_;cases h0;exact .rt hK
        ·obtain⟨k9,hk9,h0⟩:=bnd h0;refine .a [.call [] (bE k9) []] (A (ih.2 _ _ hk9) T) [(42,bE (!k9))] ?_;refine .jT h0 (fun hc10 h0=>?_) (fun hc10 h0=>?_)
         ·refine .a [] T [(4,bE false)] ?_;cases h0;exact .rt hK
         ·refine .a [] T [(4,bE true)] ?_;cases h0;exact .rt hK
  ·intro a0 a1 r h0;rw[la_eqCoreS] at h0;refine .n Tryz.func38 (fun L ks low K hl hL hlen hK=>?_);refine .a [] T [] ?_;refine .a [.v (a0.length:Int),.v (a1.length:Int)] (A (dCore.len' a0) (A (dCore.len' a1) T)) [(10,dE (¬(a0.length:Int)=(a1.length:Int)))] ?_;refine .sn 0 dCore a0 (by kernel_rfl) (fun hb1=>?_);refine .sn 1 dCore a1 (by kernel_rfl) (fun hb2=>?_);refine .jP h0 (fun hc3 h0=>?_) (fun hc3 h0=>?_)
   ·refine .a [] T [(4,bE false)] ?_;cases h0;exact .rt hK
   ·refine .a [] T [(5,iE 0)] ?_;refine .lI h0 rfl [0,1] (fun i4 s5=>[(5,iE (i4:Int))]) n2 n2 [] (by kernel_rfl) (fun i4 s5 q6 hd8 hi10 h0=>?_);refine .a [.v (a0.length:Int)] (A (dCore.len' a0) T) [(14,dE ((i4:Int)<(a0.length:Int)))] ?_;refine .lc hd8 rfl (by kernel_rfl) (fun x7 q62 hc11 hx7 hd9 hd9l=>?_) (fun hc11=>?_)
    ·subst hc11;obtain⟨y1,h1,hw1,hn1⟩:=forI_cons h0;obtain⟨e12,he12,h1⟩:=bnd h1;obtain⟨k13,hk13,h1⟩:=bnd h1;refine .ad mixed [(2,[.cs (kCore x7)]),(6,[.cs (kCore e12)]),(8,[.call [] (bE k13) []])] [] (A (dCore.idn hx7) (A (dCore.idx he12) (A (ih.1 _ _ hk13) T))) [(26,bE (!k13))] [] [] ?_;refine .jT h1 (fun hc14 h1=>?_) (fun hc14 h1=>?_)
     ·refine .a [] T [(4,bE false)] ?_;cases h1;cases hw1 _ rfl;exact .rt hK
     ·refine .a [.v ((i4+1:Nat):Int)] (A (wn (i:=i4) (by omega)) T) [(5,iE ((i4+1:Nat):Int))] ?_;cases h1;exact .nL rfl (i4+1) _ hd9 hd9l (hn1 _ rfl) [] (by kernel_rfl)
    ·subst hc11;have h0:=forI_nil h0;refine .a [] T [(4,bE true)] ?_;cases h0;exact .rt hK
theorem w_la_eqCore (n:Nat):∀(a0:Core) (a1:Core) {r:Bool},la_eqCore n a0 a1=some r→SCall X.E 10 [aE (kCore a0),aE (kCore a1)] [] (bE r) []:=(g_la_eqCore n).1
theorem w_la_eqCoreS (n:Nat):∀(a0:List Core) (a1:List Core) {r:Bool},la_eqCoreS n a0 a1=some r→SCall X.E 38 [lE 11 (ksCore a0),lE 11 (ksCore a1)] [] (bE r) []:=(g_la_eqCore n).2
def la_heldIntS (n:Nat) (a0:List Int) (a1:Int):Option (Int):=
 seqS (forI (fun(s2:Int) (i1:Nat) (x4:Int)=>((if ¬x4=s2 then some (Sum.inl (-1)) else some (Sum.inr (w64 (s2+1)))):Option (Int⊕Int))) 0 a0 a1) (fun(s2:Int)=>some s2)
theorem w_la_heldIntS (n:Nat):∀(a0:List Int) (a1:Int) {r:Int},la_heldIntS n a0 a1=some r→SCall X.E 42 [lE 1 (ksInt a0),iE a1] [] (iE r) []:=by
 intro a0 a1 r h0;rw[la_heldIntS] at h0;refine .n Tryz.func42 (fun L ks low K hl hL hlen hK=>?_);refine .a [] T [] ?_;refine .a [] T [(5,iE 0)] ?_;refine .lI h0 rfl [0] (fun i1 s2=>[(1,iE s2),(5,iE (i1:Int))]) n2 n2 [] (by kernel_rfl) (fun i1 s2 q3 hd5 hi7 h0=>?_);refine .a [.v (a0.length:Int)] (A (dInt.len' a0) T) [(9,dE ((i1:Int)<(a0.length:Int)))] ?_;refine .sn 0 dInt a0 (by kernel_rfl) (fun hb8=>?_);refine .lc hd5 rfl (by kernel_rfl) (fun x4 q32 hc9 hx4 hd6 hd6l=>?_) (fun hc9=>?_)
 ·subst hc9;obtain⟨y1,h1,hw1,hn1⟩:=forI_cons h0;refine .a [.cs [.v (.int .i64 x4)]] (A (dInt.idn hx4) T) [(17,dE (¬x4=s2))] ?_;refine .jP h1 (fun hc10 h1=>?_) (fun hc10 h1=>?_)
  ·refine .a [] T [(4,iE (-1))] ?_;cases h1;cases hw1 _ rfl;exact .rt hK
  ·refine .a [.pl] T [(1,iE (w64 (s2+1)))] ?_;refine .a [.v ((i1+1:Nat):Int)] (A (wn (i:=i1) (by omega)) T) [(5,iE ((i1+1:Nat):Int))] ?_;cases h1;exact .nL rfl (i1+1) _ hd6 hd6l (hn1 _ rfl) [] (by kernel_rfl)
 ·subst hc9;have h0:=forI_nil h0;refine .a [] T [(4,iE s2)] ?_;cases h0;exact .rt hK
def la_markText (n:Nat) (a0:Int):Option (List UInt8):=
 (if a0≤0 then some [109,48] else iterM n (fun(s2:Int×(List UInt8))=>((if s2.1>0 then(remI s2.1 10).bind fun z5=>(u8B (IntKind.u8.wrap (w64 (48+z5)))).bind fun y6=>(catS [y6] s2.2).bind fun z7=>(quoI s2.1 10).bind fun z8=>some (Sum.inr (z8,z7)) else(catS [109] s2.2).bind fun z9=>some (Sum.inl z9)):Option ((List UInt8)⊕(Int×(List UInt8))))) (a0,[]))
theorem w_la_markText (n:Nat):∀(a0:Int) {r:List UInt8},la_markText n a0=some r→SCall X.E 77 [iE a0] [] (sE r) []:=by
 intro a0 r h0;rw[la_markText] at h0;refine .n Tryz.func77 (fun L ks low K hl hL hlen hK=>?_);refine .a [] T [] ?_;refine .a [] T [(5,dE (a0≤0))] ?_;refine .jP h0 (fun hc1 h0=>?_) (fun hc1 h0=>?_)
 ·refine .a [] T [(2,sE [109,48])] ?_;cases h0;exact .rt hK
 ·refine .a [] T [(3,sE [])] ?_;refine .it h0 rfl [] (fun s2=>[(0,iE s2.1),(3,sE s2.2)]) n1 n1 [] (by kernel_rfl) (fun nk3 s2 h0=>?_);obtain⟨y1,h1,hw1,hn1⟩:=iter_cons h0;refine .a [] T [(7,dE (s2.1>0))] ?_;refine .jP h1 (fun hc4 h1=>?_) (fun hc4 h1=>?_)
  ·obtain⟨z5,hz5,h1⟩:=bnd h1;obtain⟨y6,hy6,h1⟩:=bnd h1;obtain⟨z7,hz7,h1⟩:=bnd h1;refine .a [.v z5,.pl,.pl,.sv (ksByte [y6]),.st [y6],.st z7] (A (rem_ok hz5) (A (by rw[u8B_ok hy6]; rfl:[[KD.v (.int .u8 (IntKind.u8.wrap (w64 (48+z5))))]]=ksByte [y6]) (A (cvB [y6]) (A (cat_ok hz7) T)))) [(3,sE z7)] ?_;obtain⟨z8,hz8,h1⟩:=bnd h1;refine .a [.v z8] (A (quo_ok hz8) T) [(0,iE z8)] ?_;cases h1;exact .nI rfl _ (hn1 _ rfl) [] (by kernel_rfl)
  ·obtain⟨z9,hz9,h1⟩:=bnd h1;refine .a [.st z9] (A (cat_ok hz9) T) [(2,sE z9)] ?_;cases h1;cases hw1 _ rfl;exact .rt hK
def la_heldFormS:Nat→(List Form)→Int→Option (Int)
 | 0,_,_=>none
 | n+1,a0,a1=>seqS (forI (fun(s2:Int) (i1:Nat) (x4:Form)=>((if ¬x4.kind=s2 then some (Sum.inl (-1)) else(la_markText n (w64 (s2+1))).bind fun k11=>(if ¬x4.name=k11 then some (Sum.inl (-1)) else(if ¬x4.n=(w64 ((w64 (s2+1))+1)) then some (Sum.inl (-1)) else(la_heldIntS n x4.scopes (w64 ((w64 ((w64 (s2+1))+1))+1))).bind fun k14=>(if k14<0 then some (Sum.inl (-1)) else(la_heldFormS n x4.kids k14).bind fun k16=>(if k16<0 then some (Sum.inl (-1)) else some (Sum.inr k16)))))):Option (Int⊕Int))) 0 a0 a1) (fun(s2:Int)=>some s2)
theorem w_la_heldFormS (n:Nat):∀(a0:List Form) (a1:Int) {r:Int},la_heldFormS n a0 a1=some r→SCall X.E 43 [lE 5 (ksForm a0),iE a1] [] (iE r) []:=by
 induction n with
 | zero=>intro a0 a1 r h; cases h
 | succ n ih=>
  intro a0 a1 r h0;rw[la_heldFormS] at h0;refine .n Tryz.func43 (fun L ks low K hl hL hlen hK=>?_);refine .a [] T [] ?_;refine .a [] T [(5,iE 0)] ?_;refine .lI h0 rfl [0] (fun i1 s2=>[(1,iE s2),(5,iE (i1:Int))]) n2 n2 [] (by kernel_rfl) (fun i1 s2 q3 hd5 hi7 h0=>?_);refine .a [.v (a0.length:Int)] (A (dForm.len' a0) T) [(9,dE ((i1:Int)<(a0.length:Int)))] ?_;refine .sn 0 dForm a0 (by kernel_rfl) (fun hb8=>?_);refine .lc hd5 rfl (by kernel_rfl) (fun x4 q32 hc9 hx4 hd6 hd6l=>?_) (fun hc9=>?_)
  ·subst hc9;obtain⟨y1,h1,hw1,hn1⟩:=forI_cons h0;refine .a [.cs (kForm x4)] (A (dForm.idn hx4) T) [(18,dE (¬x4.kind=s2))] ?_;refine .jP h1 (fun hc10 h1=>?_) (fun hc10 h1=>?_)
   ·refine .a [] T [(4,iE (-1))] ?_;cases h1;cases hw1 _ rfl;exact .rt hK
   ·refine .a [.pl] T [(1,iE (w64 (s2+1)))] ?_;obtain⟨k11,hk11,h1⟩:=bnd h1;refine .ad mixed [(2,[.cs (kForm x4)]),(6,[.call [] (sE k11) []])] [] (A (dForm.idn hx4) (A (w_la_markText n _ hk11) T)) [(28,dE (¬x4.name=k11))] [] [] ?_;refine .jP h1 (fun hc12 h1=>?_) (fun hc12 h1=>?_)
    ·refine .a [] T [(4,iE (-1))] ?_;cases h1;cases hw1 _ rfl;exact .rt hK
    ·refine .a [.pl] T [(1,iE (w64 ((w64 (s2+1))+1)))] ?_;refine .a [.cs (kForm x4)] (A (dForm.idn hx4) T) [(37,dE (¬x4.n=(w64 ((w64 (s2+1))+1))))] ?_;refine .jP h1 (fun hc13 h1=>?_) (fun hc13 h1=>?_)
     ·refine .a [] T [(4,iE (-1))] ?_;cases h1;cases hw1 _ rfl;exact .rt hK
     ·refine .a [.pl] T [(1,iE (w64 ((w64 ((w64 (s2+1))+1))+1)))] ?_;obtain⟨k14,hk14,h1⟩:=bnd h1;refine .a [.cs (kForm x4),.call [] (iE k14) []] (A (dForm.idn hx4) (A (w_la_heldIntS n _ _ hk14) T)) [(1,iE k14)] ?_;refine .a [] T [(48,dE (k14<0))] ?_;refine .jP h1 (fun hc15 h1=>?_) (fun hc15 h1=>?_)
      ·refine .a [] T [(4,iE (-1))] ?_;cases h1;cases hw1 _ rfl;exact .rt hK
      ·obtain⟨k16,hk16,h1⟩:=bnd h1;refine .a [.cs (kForm x4),.call [] (iE k16) []] (A (dForm.idn hx4) (A (ih _ _ hk16) T)) [(1,iE k16)] ?_;refine .a [] T [(57,dE (k16<0))] ?_;refine .jP h1 (fun hc17 h1=>?_) (fun hc17 h1=>?_)
       ·refine .a [] T [(4,iE (-1))] ?_;cases h1;cases hw1 _ rfl;exact .rt hK
       ·refine .a [.v ((i1+1:Nat):Int)] (A (wn (i:=i1) (by omega)) T) [(5,iE ((i1+1:Nat):Int))] ?_;cases h1;exact .nL rfl (i1+1) _ hd6 hd6l (hn1 _ rfl) [] (by kernel_rfl)
  ·subst hc9;have h0:=forI_nil h0;refine .a [] T [(4,iE s2)] ?_;cases h0;exact .rt hK
def la_heldForm (n:Nat) (a0:Form) (a1:Int):Option (Int):=
 (la_heldIntS n a0.scopes a1).bind fun k1=>(if k1<0 then some (-1) else(la_heldFormS n a0.kids k1).bind fun k3=>(if k3<0 then some (-1) else some k3))
theorem w_la_heldForm (n:Nat):∀(a0:Form) (a1:Int) {r:Int},la_heldForm n a0 a1=some r→SCall X.E 13 [aE (kForm a0),iE a1] [] (iE r) []:=by
 intro a0 a1 r h0;rw[la_heldForm] at h0;refine .n Tryz.func13 (fun L ks low K hl hL hlen hK=>?_);refine .af [] T [(2,pw 2)] [.o 2 (.cells ((kForm a0).map .d))] ?_;obtain⟨k1,hk1,h0⟩:=bnd h0;refine .a [.call [] (iE k1) []] (A (w_la_heldIntS n _ _ hk1) T) [(1,iE k1)] ?_;refine .a [] T [(10,dE (k1<0))] ?_;refine .jP h0 (fun hc2 h0=>?_) (fun hc2 h0=>?_)
 ·refine .a [] T [(4,iE (-1))] ?_;cases h0;exact .rt hK
 ·obtain⟨k3,hk3,h0⟩:=bnd h0;refine .a [.call [] (iE k3) []] (A (w_la_heldFormS n _ _ hk3) T) [(1,iE k3)] ?_;refine .a [] T [(16,dE (k3<0))] ?_;refine .jP h0 (fun hc4 h0=>?_) (fun hc4 h0=>?_)
  ·refine .a [] T [(4,iE (-1))] ?_;cases h0;exact .rt hK
  ·refine .a [] T [(4,iE k3)] ?_;cases h0;exact .rt hK
def slices_Index_string (n:Nat) (a0:List (List UInt8)) (a1:List UInt8):Option (Int):=
 seqS (forI (fun(s3:Unit) (i2:Nat) (x5:List UInt8)=>((if a1=x5 then some (Sum.inl (i2:Int)) else some (Sum.inr ())):Option (Int⊕Unit))) 0 a0 ()) (fun(s3:Unit)=>some (-1))
theorem w_slices_Index_string (n:Nat):∀(a0:List (List UInt8)) (a1:List UInt8) {r:Int},slices_Index_string n a0 a1=some r→SCall X.E 70 [lE 1 (ksStr a0),sE a1] [] (iE r) []:=by
 intro a0 a1 r h0;rw[slices_Index_string] at h0;refine .n Tryz.func70 (fun L ks low K hl hL hlen hK=>?_);refine .a [] T [] ?_;refine .a [.v (a0.length:Int)] (A (dStr.len' a0) T) [(7,iE (a0.length:Int)),(8,iE 0)] ?_;refine .sn 0 dStr a0 (by kernel_rfl) (fun hb1=>?_);refine .lI h0 rfl [0,1,7] (fun i2 s3=>[(8,iE (i2:Int))]) n2 n2 [] (by kernel_rfl) (fun i2 s3 q4 hd6 hi8 h0=>?_);refine .a [] T [(9,dE ((i2:Int)<(a0.length:Int)))] ?_;refine .lc hd6 rfl (by kernel_rfl) (fun x5 q42 hc9 hx5 hd7 hd7l=>?_) (fun hc9=>?_)
 ·subst hc9;obtain⟨y1,h1,hw1,hn1⟩:=forI_cons h0;refine .a [] T [(5,iE (i2:Int))] ?_;refine .a [.cs [.s x5]] (A (dStr.idn hx5) T) [(16,dE (a1=x5))] ?_;refine .jP h1 (fun hc10 h1=>?_) (fun hc10 h1=>?_)
  ·refine .a [] T [(4,iE (i2:Int))] ?_;cases h1;cases hw1 _ rfl;exact .rt hK
  ·refine .a [.v ((i2+1:Nat):Int)] (A (wn (i:=i2) (by omega)) T) [(8,iE ((i2+1:Nat):Int))] ?_;cases h1;exact .nL rfl (i2+1) _ hd7 hd7l (hn1 _ rfl) [] (by kernel_rfl)
 ·subst hc9;have h0:=forI_nil h0;refine .a [] T [(4,iE (-1))] ?_;cases h0;exact .rt hK
def slices_Contains_string (n:Nat) (a0:List (List UInt8)) (a1:List UInt8):Option (Bool):=
 (slices_Index_string n a0 a1).bind fun k1=>some (decide (k1≥0))
theorem w_slices_Contains_string (n:Nat):∀(a0:List (List UInt8)) (a1:List UInt8) {r:Bool},slices_Contains_string n a0 a1=some r→SCall X.E 33 [lE 1 (ksStr a0),sE a1] [] (bE r) []:=by
 intro a0 a1 r h0;rw[slices_Contains_string] at h0;refine .n Tryz.func33 (fun L ks low K hl hL hlen hK=>?_);refine .a [] T [] ?_;obtain⟨k1,hk1,h0⟩:=bnd h0;refine .a [.call [] (iE k1) []] (A (w_slices_Index_string n _ _ hk1) T) [(4,dE (k1≥0))] ?_;cases h0;exact .rt hK
def slices_Index_string_v (n:Nat) (a0:List (List UInt8)) (a1:List UInt8):Option (Int):=
 seqS (forI (fun(s3:Unit) (i2:Nat) (x5:List UInt8)=>((if a1=x5 then some (Sum.inl (i2:Int)) else some (Sum.inr ())):Option (Int⊕Unit))) 0 a0 ()) (fun(s3:Unit)=>some (-1))
theorem w_slices_Index_string_v (n:Nat):∀(a0:List (List UInt8)) (a1:List UInt8) {r:Int},slices_Index_string_v n a0 a1=some r→SCall X.E 70 [.vs (.low 0) 1 ((ksStr a0).length),sE a1] [some (.vec 9 1 (ksStr a0))] (iE r) [.vec 9 1 (ksStr a0)]:=by
 intro a0 a1 r h0;rw[slices_Index_string_v] at h0;refine .n Tryz.func70 (fun L ks low K hl hL hlen hK=>?_);refine .a [] T [] ?_;refine .a [.v (a0.length:Int)] (A (dStr.len' a0) T) [(7,iE (a0.length:Int)),(8,iE 0)] ?_;refine .snV 0 dStr a0 (by kernel_rfl) (fun hb1=>?_);refine .lI h0 rfl [0,1,7] (fun i2 s3=>[(8,iE (i2:Int))]) n2 n2 [] (by kernel_rfl) (fun i2 s3 q4 hd6 hi8 h0=>?_);refine .a [] T [(9,dE ((i2:Int)<(a0.length:Int)))] ?_;refine .lc hd6 rfl (by kernel_rfl) (fun x5 q42 hc9 hx5 hd7 hd7l=>?_) (fun hc9=>?_)
 ·subst hc9;obtain⟨y1,h1,hw1,hn1⟩:=forI_cons h0;refine .a [] T [(5,iE (i2:Int))] ?_;refine .a [.cs [.s x5]] (A (A (dStr.inv (inB_of hx5) (rfl:(ksStr a0).length=(ksStr a0).length)) (rfl:(ksStr a0).length=(ksStr a0).length)) (A (A (A (dStr.rows a0) (dStr.ixr hx5)) (rfl:(ksStr a0).length=(ksStr a0).length)) T)) [(16,dE (a1=x5))] ?_;refine .jP h1 (fun hc10 h1=>?_) (fun hc10 h1=>?_)
  ·refine .a [] T [(4,iE (i2:Int))] ?_;cases h1;cases hw1 _ rfl;exact .rt hK
  ·refine .a [.v ((i2+1:Nat):Int)] (A (wn (i:=i2) (by omega)) T) [(8,iE ((i2+1:Nat):Int))] ?_;cases h1;exact .nL rfl (i2+1) _ hd7 hd7l (hn1 _ rfl) [] (by kernel_rfl)
 ·subst hc9;have h0:=forI_nil h0;refine .a [] T [(4,iE (-1))] ?_;cases h0;exact .rt hK
def slices_Contains_string_v (n:Nat) (a0:List (List UInt8)) (a1:List UInt8):Option (Bool):=
 (slices_Index_string_v n a0 a1).bind fun k1=>some (decide (k1≥0))
theorem w_slices_Contains_string_v (n:Nat):∀(a0:List (List UInt8)) (a1:List UInt8) {r:Bool},slices_Contains_string_v n a0 a1=some r→SCall X.E 33 [.vs (.low 0) 1 ((ksStr a0).length),sE a1] [some (.vec 9 1 (ksStr a0))] (bE r) [.vec 9 1 (ksStr a0)]:=by
 intro a0 a1 r h0;rw[slices_Contains_string_v] at h0;refine .n Tryz.func33 (fun L ks low K hl hL hlen hK=>?_);refine .a [] T [] ?_;obtain⟨k1,hk1,h0⟩:=bnd h0;refine .a [.call [.low 0] (iE k1) [.vec 9 1 (ksStr a0)]] (A (w_slices_Index_string_v n _ _ hk1) T) [(4,dE (k1≥0))] ?_;cases h0;exact .rt hK
def im_freeOf:Nat→Core→(List (List UInt8))→Option (List (List UInt8))
 | 0,_,_=>none
 | n+1,a0,a1=>Option.bind ((if a0.kind=2 then(slices_Contains_string_v n a1 a0.name).bind fun k16=>some (!k16) else some false):Option (Bool)) (fun(o1:Bool)=>Option.bind ((if o1=true then(apB 16 a1 [a0.name]).bind fun z14=>some z14 else some a1):Option (List (List UInt8))) (fun(o2:List (List UInt8))=>Option.bind (forL (fun(s5:List (List UInt8)) (i4:Nat) (x7:Core)=>(im_freeOf n x7 s5).bind fun k12=>some k12) 0 a0.kids o2) (fun(s5:List (List UInt8))=>some s5)))
theorem w_im_freeOf (n:Nat):∀(a0:Core) (a1:List (List UInt8)) {r:List (List UInt8)},im_freeOf n a0 a1=some r→SCall X.E 49 [aE (kCore a0),.vs (.low 0) 1 ((ksStr a1).length)] [some (.vec 9 1 (ksStr a1))] (.vs (.low 0) 1 ((ksStr r).length)) [.vec 9 1 (ksStr r)]:=by
 induction n with
 | zero=>intro a0 a1 r h; cases h
 | succ n ih=>
  intro a0 a1 r h0;rw[im_freeOf] at h0;refine .n Tryz.func49 (fun L ks low K hl hL hlen hK=>?_);refine .af [] T [(2,pw 2)] [.o 2 (.cells ((kCore a0).map .d))] ?_;refine .bP h0 rfl [1,2] (fun o1=>[(16,bE o1)]) n1 n1 (fun o1 h0=>?_) (fun y1 h1 hj1=>?_)
  ·refine .bP h0 rfl [2] (fun o2=>[(1,.vs (.low 0) 1 ((ksStr o2).length))]) n1 (fun o2=>[.o 0 (.vec 9 1 (ksStr o2))]) (fun o2 h0=>?_) (fun y1 h1 hj1=>?_)
   ·refine .a [.v (a0.kids.length:Int)] (A (dCore.len' a0.kids) T) [(23,lE 11 (ksCore a0.kids)),(24,iE (a0.kids.length:Int)),(25,iE 0)] ?_;refine .sn 23 dCore a0.kids (by kernel_rfl) (fun hb3=>?_);refine .lL h0 rfl [23,24] (fun i4 s5=>[(1,.vs (.low 0) 1 ((ksStr s5).length)),(25,iE (i4:Int))]) n2 (fun i4 s5=>[.o 0 (.vec 9 1 (ksStr s5))]) [] (by kernel_rfl) (fun i4 s5 q6 hd8 hi10 h0=>?_);refine .a [] T [(26,dE ((i4:Int)<(a0.kids.length:Int)))] ?_;refine .lc hd8 rfl (by kernel_rfl) (fun x7 q62 hc11 hx7 hd9 hd9l=>?_) (fun hc11=>?_)
    ·subst hc11;obtain⟨y1,h1,hn1⟩:=forL_cons h0;refine .af [.cs (kCore x7)] (A (dCore.idn hx7) T) [(6,pw 6)] [.o 6 (.cells ((kCore x7).map .d))] ?_;obtain⟨k12,hk12,h1⟩:=bnd h1;refine .ao [.call [.low 0] (.vs (.low 0) 1 ((ksStr k12).length)) [.vec 9 1 (ksStr k12)]] (A (ih _ _ hk12) T) [(1,.vs (.low 0) 1 ((ksStr k12).length))] [.o 0 (.vec 9 1 (ksStr k12))] ?_;refine .a [.v ((i4+1:Nat):Int)] (A (wn (i:=i4) (by omega)) T) [(25,iE ((i4+1:Nat):Int))] ?_;cases h1;refine .kp [1,23,24,25] [] ?_;refine .dr 6 (by kernel_rfl) ?_;exact .nL rfl (i4+1) _ hd9 hd9l hn1 [] (by kernel_rfl)
    ·subst hc11;have h0:=forL_nil h0;refine .a [] T [(4,.vs (.low 0) 1 ((ksStr s5).length))] ?_;refine .kp [4] [] ?_;refine .dr 2 (by kernel_rfl) ?_;cases h0;exact .rt hK
   ·refine .jT h1 (fun hc13 h1=>?_) (fun hc13 h1=>?_)
    ·obtain⟨z14,hz14,h1⟩:=bnd h1;refine .ao [.sv (ksStr [a0.name]),.sv (ksStr z14)] (A (dStr.lit [a0.name]) (A (A (dStr.ap hz14) (rfl:(ksStr a1).length=(ksStr a1).length)) T)) [(1,.vs (.low 0) 1 ((ksStr z14).length))] [.o 0 (.vec 9 1 (ksStr z14))] ?_;cases h1;exact .lg hj1 []
    ·cases h1;exact .lg hj1 []
  ·by_cases g15:a0.kind=2
   ·have h1:=iteP g15 h1;obtain⟨k16,hk16,h1⟩:=bnd h1;refine .a (rb 4 true [.call [.low 0] (bE k16) [.vec 9 1 (ksStr a1)],.b true,.b true]) (R 3 (dt g15) (A (A (dt g15) (w_slices_Contains_string_v n _ _ hk16)) (R 2 (dt g15) T))) [(16,bE (!k16))] ?_;cases h1;exact .lg hj1 []
   ·have h1:=iteN g15 h1;refine .a (rb 6 false []) (R 6 (df g15) T) [(16,bE false)] ?_;cases h1;exact .lg hj1 []
def im_freeOf_nil (n:Nat) (a0:Core):Option (List (List UInt8)):=
 Option.bind ((if a0.kind=2 then(slices_Contains_string n [] a0.name).bind fun k16=>some (!k16) else some false):Option (Bool)) (fun(o1:Bool)=>Option.bind ((if o1=true then(apB 16 [] [a0.name]).bind fun z14=>some z14 else some []):Option (List (List UInt8))) (fun(o2:List (List UInt8))=>Option.bind (forL (fun(s5:List (List UInt8)) (i4:Nat) (x7:Core)=>(im_freeOf n x7 s5).bind fun k12=>some k12) 0 a0.kids o2) (fun(s5:List (List UInt8))=>some s5)))
theorem w_im_freeOf_nil (n:Nat):∀(a0:Core) {r:List (List UInt8)},im_freeOf_nil n a0=some r→SCall X.E 49 [aE (kCore a0),nE] [] (lE 1 (ksStr r)) []:=by
 intro a0 r h0;rw[im_freeOf_nil] at h0;refine .n Tryz.func49 (fun L ks low K hl hL hlen hK=>?_);refine .nl 1 1 rfl ?_;refine .af [] T [(2,pw 2)] [.o 2 (.cells ((kCore a0).map .d))] ?_;refine .bP h0 rfl [1,2] (fun o1=>[(16,bE o1)]) n1 n1 (fun o1 h0=>?_) (fun y1 h1 hj1=>?_)
 ·refine .owV 1 100021 9 [2,16] rfl rfl (by kernel_rfl) ?_;refine .bP h0 rfl [2] (fun o2=>[(1,.vs (.own 100021) 1 ((ksStr o2).length))]) (fun o2=>[.o 100021 (.vec 9 1 (ksStr o2))]) n1 (fun o2 h0=>?_) (fun y1 h1 hj1=>?_)
  ·refine .a [.v (a0.kids.length:Int)] (A (dCore.len' a0.kids) T) [(23,lE 11 (ksCore a0.kids)),(24,iE (a0.kids.length:Int)),(25,iE 0)] ?_;refine .sn 23 dCore a0.kids (by kernel_rfl) (fun hb3=>?_);refine .lL h0 rfl [23,24] (fun i4 s5=>[(1,.vs (.own 100021) 1 ((ksStr s5).length)),(25,iE (i4:Int))]) (fun i4 s5=>[.o 100021 (.vec 9 1 (ksStr s5))]) n2 [] (by kernel_rfl) (fun i4 s5 q6 hd8 hi10 h0=>?_);refine .a [] T [(26,dE ((i4:Int)<(a0.kids.length:Int)))] ?_;refine .lc hd8 rfl (by kernel_rfl) (fun x7 q62 hc11 hx7 hd9 hd9l=>?_) (fun hc11=>?_)
   ·subst hc11;obtain⟨y1,h1,hn1⟩:=forL_cons h0;refine .af [.cs (kCore x7)] (A (dCore.idn hx7) T) [(6,pw 6)] [.o 6 (.cells ((kCore x7).map .d))] ?_;obtain⟨k12,hk12,h1⟩:=bnd h1;refine .af [.call [.own 100021] (.vs (.low 0) 1 ((ksStr k12).length)) [.vec 9 1 (ksStr k12)]] (A (w_im_freeOf n _ _ hk12) T) [(1,.vs (.own 100021) 1 ((ksStr k12).length))] [.o 100021 (.vec 9 1 (ksStr k12))] ?_;refine .a [.v ((i4+1:Nat):Int)] (A (wn (i:=i4) (by omega)) T) [(25,iE ((i4+1:Nat):Int))] ?_;cases h1;refine .kp [1,23,24,25] [] ?_;refine .dr 6 (by kernel_rfl) ?_;exact .nL rfl (i4+1) _ hd9 hd9l hn1 [] (by kernel_rfl)
   ·subst hc11;have h0:=forL_nil h0;refine .a [] T [(4,.vs (.own 100021) 1 ((ksStr s5).length))] ?_;refine .kp [4] [] ?_;refine .dr 2 (by kernel_rfl) ?_;refine .ft 4 100021 [] dStr s5 (rfl:(ksStr s5).length=(ksStr s5).length) (by kernel_rfl) ?_;cases h0;exact .rt hK
  ·refine .jT h1 (fun hc13 h1=>?_) (fun hc13 h1=>?_)
   ·obtain⟨z14,hz14,h1⟩:=bnd h1;refine .af [.sv (ksStr [a0.name]),.sv (ksStr z14)] (A (dStr.lit [a0.name]) (A (A (dStr.ap hz14) (rfl:(ksStr []).length=0)) T)) [(1,.vs (.own 100021) 1 ((ksStr z14).length))] [.o 100021 (.vec 9 1 (ksStr z14))] ?_;cases h1;exact .lg hj1 []
   ·cases h1;exact .lg hj1 []
 ·by_cases g15:a0.kind=2
  ·have h1:=iteP g15 h1;obtain⟨k16,hk16,h1⟩:=bnd h1;refine .a (rb 4 true [.call [] (bE k16) [],.b true,.b true]) (R 3 (dt g15) (A (A (dt g15) (w_slices_Contains_string n _ _ hk16)) (R 2 (dt g15) T))) [(16,bE (!k16))] ?_;cases h1;exact .lg hj1 []
  ·have h1:=iteN g15 h1;refine .a (rb 6 false []) (R 6 (df g15) T) [(16,bE false)] ?_;cases h1;exact .lg hj1 []
def im_FreeOf (n:Nat) (a0:Core):Option (List (List UInt8)):=
 (im_freeOf_nil n a0).bind fun k1=>some k1
theorem w_im_FreeOf (n:Nat):∀(a0:Core) {r:List (List UInt8)},im_FreeOf n a0=some r→SCall X.E 16 [aE (kCore a0)] [] (lE 1 (ksStr r)) []:=by
 intro a0 r h0;rw[im_FreeOf] at h0;refine .n Tryz.func16 (fun L ks low K hl hL hlen hK=>?_);refine .af [] T [(1,pw 1)] [.o 1 (.cells ((kCore a0).map .d))] ?_;obtain⟨k1,hk1,h0⟩:=bnd h0;refine .a [.b true,.call [] (lE 1 (ksStr k1)) []] (A (w_im_freeOf_nil n _ hk1) T) [(2,lE 1 (ksStr k1))] ?_;cases h0;exact .rt hK
def im_within (n:Nat) (a0:Int) (a1:Int) (a2:Int):Option (Bool):=
 Option.bind ((if a0≥a1 then some (decide (a0≤a2)) else some false):Option (Bool)) (fun(o1:Bool)=>some o1)
theorem w_im_within (n:Nat):∀(a0:Int) (a1:Int) (a2:Int) {r:Bool},im_within n a0 a1 a2=some r→SCall X.E 95 [iE a0,iE a1,iE a2] [] (bE r) []:=by
 intro a0 a1 a2 r h0;rw[im_within] at h0;refine .n Tryz.func95 (fun L ks low K hl hL hlen hK=>?_);refine .a [] T [] ?_;refine .bP h0 rfl [] (fun o1=>[(6,bE o1)]) n1 n1 (fun o1 h0=>?_) (fun y1 h1 hj1=>?_)
 ·cases h0;exact .rt hK
 ·by_cases g2:a0≥a1
  ·have h1:=iteP g2 h1;refine .a (rb 4 true []) (R 4 (dt g2) T) [(6,dE (a0≤a2))] ?_;cases h1;exact .lg hj1 []
  ·have h1:=iteN g2 h1;refine .a (rb 4 false []) (R 4 (df g2) T) [(6,bE false)] ?_;cases h1;exact .lg hj1 []
def strings_IndexByte (n:Nat) (a0:List UInt8) (a1:Int):Option Int:=some (Lib.indexByte a0 a1.toNat.toUInt8)
theorem w_strings_IndexByte (n:Nat):∀(a0:List UInt8) (a1:Int) {r:Int},strings_IndexByte n a0 a1=some r→SCall X.E 111 [sE a0,.d (.v (.int .u8 a1))] [] (iE r) []:=by
 intro a0 a1 r h0;cases h0;exact SCall.of_calls Tryz.func111 rfl rfl (fun _=>rfl) (fun _=>rfl) (fun w=>Tryz.strings_IndexByte (mkS a0) a1 w)
def im_NameValid (n:Nat) (a0:List UInt8):Option (Bool):=
 Option.bind ((if a0=[46,46,46] then some true else some (decide (a0=[95]))):Option (Bool)) (fun(o1:Bool)=>(if o1=true then some true else iterM n (fun(s3:Int)=>((if s3<(a0.length:Int) then seqS ((atI a0 s3).bind fun y7=>Option.bind ((if(y7.toNat:Int)≥97 then(if(y7.toNat:Int)≤122 then some true else(strings_IndexByte n [42,63,61,43,60] (y7.toNat:Int)).bind fun k17=>some (decide (k17≥0))) else(strings_IndexByte n [42,63,61,43,60] (y7.toNat:Int)).bind fun k18=>some (decide (k18≥0))):Option (Bool)) (fun(o8:Bool)=>(if o8=true then some (Sum.inr ()) else Option.bind ((if s3>0 then(if(y7.toNat:Int)≥48 then(if(y7.toNat:Int)≤57 then some true else some (decide ((y7.toNat:Int)=45))) else some (decide ((y7.toNat:Int)=45))) else some false):Option (Bool)) (fun(o10:Bool)=>(if o10=true then some (Sum.inr ()) else some (Sum.inl (Sum.inl false)))))):Option ((Bool⊕Int)⊕Unit)) (fun(o6:Unit)=>some (Sum.inr (w64 (s3+1)))) else(im_within n (a0.length:Int) 1 12).bind fun k19=>some (Sum.inl k19)):Option (Bool⊕Int))) 0))
theorem w_im_NameValid (n:Nat):∀(a0:List UInt8) {r:Bool},im_NameValid n a0=some r→SCall X.E 97 [sE a0] [] (bE r) []:=by
 intro a0 r h0;rw[im_NameValid] at h0;refine .n Tryz.func97 (fun L ks low K hl hL hlen hK=>?_);refine .a [] T [] ?_;refine .bP h0 rfl [0] (fun o1=>[(10,bE o1)]) n1 n1 (fun o1 h0=>?_) (fun y1 h1 hj1=>?_)
 ·refine .jT h0 (fun hc2 h0=>?_) (fun hc2 h0=>?_)
  ·refine .a [] T [(2,bE true)] ?_;cases h0;exact .rt hK
  ·refine .a [] T [(3,iE 0)] ?_;refine .it h0 rfl [0] (fun s3=>[(3,iE s3)]) n1 n1 [] (by kernel_rfl) (fun nk4 s3 h0=>?_);obtain⟨y1,h1,hw1,hn1⟩:=iter_cons h0;refine .a [] T [(14,dE (s3<(a0.length:Int)))] ?_;refine .jP h1 (fun hc5 h1=>?_) (fun hc5 h1=>?_)
   ·refine .bSB h1 rfl [0,3] (fun o6=>[]) n1 n1 (fun o6 h1=>?_) (fun y2 h2 hj2 hw2=>?_)
    ·refine .a [.pl] T [(3,iE (w64 (s3+1)))] ?_;cases h1;exact .nI rfl _ (hn1 _ rfl) [] (by kernel_rfl)
    ·obtain⟨y7,hy7,h2⟩:=bnd h2;refine .a [.by_ y7] (A (idy hy7) T) [(4,.d (.v (.int .u8 (y7.toNat:Int))))] ?_;refine .bP h2 rfl [0,3,4] (fun o8=>[(20,bE o8)]) n1 n1 (fun o8 h2=>?_) (fun y3 h3 hj3=>?_)
     ·refine .jT h2 (fun hc9 h2=>?_) (fun hc9 h2=>?_)
      ·cases h2;exact .lg (hj2 _ rfl) []
      ·refine .bP h2 rfl [0,3] (fun o10=>[(32,bE o10)]) n1 n1 (fun o10 h2=>?_) (fun y3 h3 hj3=>?_)
       ·refine .jT h2 (fun hc11 h2=>?_) (fun hc11 h2=>?_)
        ·cases h2;exact .lg (hj2 _ rfl) []
        ·refine .a [] T [(2,bE false)] ?_;cases h2;cases hw2 _ rfl;cases hw1 _ rfl;exact .rt hK
       ·by_cases g12:s3>0
        ·have h3:=iteP g12 h3;by_cases g13:(y7.toNat:Int)≥48
         ·have h3:=iteP g13 h3;by_cases g14:(y7.toNat:Int)≤57
          ·have h3:=iteP g14 h3;refine .a (rb 13 true []) (R 3 (dt g12) (R 2 (dt g13) (A (A (dt g12) (dt g13)) (A (dt g12) (R 2 (dt g14) (A (A (dt g12) (dt g14)) (A (dt g12) T))))))) [(32,bE true)] ?_;cases h3;exact .lg hj3 []
          ·have h3:=iteN g14 h3;refine .a (rb 8 true [.b false,.b false,.b true,.b false,.b true]) (R 3 (dt g12) (R 2 (dt g13) (A (A (dt g12) (dt g13)) (A (dt g12) (R 2 (df g14) (A (A (dt g12) (df g14)) (A (dt g12) T))))))) [(32,dE ((y7.toNat:Int)=45))] ?_;cases h3;exact .lg hj3 []
         ·have h3:=iteN g13 h3;refine .a (rb 3 true [.b false,.b false,.b true,.b false,.b true,.b false,.b false,.b true,.b false,.b true]) (R 3 (dt g12) (R 2 (df g13) (A (A (dt g12) (df g13)) (A (dt g12) (R 2 B0 (A (A (dt g12) B0) (A (dt g12) T))))))) [(32,dE ((y7.toNat:Int)=45))] ?_;cases h3;exact .lg hj3 []
        ·have h3:=iteN g12 h3;refine .a (rb 7 false []) (R 7 (df g12) T) [(32,bE false)] ?_;cases h3;exact .lg hj3 []
     ·by_cases g15:(y7.toNat:Int)≥97
      ·have h3:=iteP g15 h3;by_cases g16:(y7.toNat:Int)≤122
       ·have h3:=iteP g16 h3;refine .a (rb 7 true []) (R 3 (dt g15) (R 4 (dt g16) T)) [(20,bE true)] ?_;cases h3;exact .lg hj3 []
       ·have h3:=iteN g16 h3;obtain⟨k17,hk17,h3⟩:=bnd h3;refine .a (rb 3 true [.b false,.b false,.call [] (iE k17) [],.b false,.b false]) (R 3 (dt g15) (A (df g16) (A (A (df g16) (w_strings_IndexByte n _ _ hk17)) (R 2 (df g16) T)))) [(20,dE (k17≥0))] ?_;cases h3;exact .lg hj3 []
      ·have h3:=iteN g15 h3;obtain⟨k18,hk18,h3⟩:=bnd h3;refine .a (rb 5 false [.call [] (iE k18) [],.b false,.b false]) (R 3 (df g15) (A B0 (A (A B0 (w_strings_IndexByte n _ _ hk18)) (R 2 B0 T)))) [(20,dE (k18≥0))] ?_;cases h3;exact .lg hj3 []
   ·obtain⟨k19,hk19,h1⟩:=bnd h1;refine .a [.call [] (bE k19) []] (A (w_im_within n _ _ _ hk19) T) [(2,bE k19)] ?_;cases h1;cases hw1 _ rfl;exact .rt hK
 ·by_cases g20:a0=[46,46,46]
  ·have h1:=iteP g20 h1;refine .a (rb 3 true []) (R 3 (dt g20) T) [(10,bE true)] ?_;cases h1;exact .lg hj1 []
  ·have h1:=iteN g20 h1;refine .a (rb 3 false []) (R 3 (df g20) T) [(10,dE (a0=[95]))] ?_;cases h1;exact .lg hj1 []
def im_scopesOk (n:Nat) (a0:List Int):Option (Bool):=
 seqS (forI (fun(s3:Unit) (i2:Nat) (x5:Int)=>(Option.bind ((im_within n x5 1 99).bind fun k12=>(if(!k12)=true then some true else(if(i2:Int)>0 then(atI a0 (w64 ((i2:Int)-1))).bind fun e15=>some (decide (e15≥x5)) else some false)):Option (Bool)) (fun(o10:Bool)=>(if o10=true then some (Sum.inl false) else some (Sum.inr ()))):Option (Bool⊕Unit))) 0 a0 ()) (fun(s3:Unit)=>some (decide ((a0.length:Int)≤24)))
theorem w_im_scopesOk (n:Nat):∀(a0:List Int) {r:Bool},im_scopesOk n a0=some r→SCall X.E 102 [lE 1 (ksInt a0)] [] (bE r) []:=by
 intro a0 r h0;rw[im_scopesOk] at h0;refine .n Tryz.func102 (fun L ks low K hl hL hlen hK=>?_);refine .a [] T [] ?_;refine .a [.v (a0.length:Int)] (A (dInt.len' a0) T) [(5,lE 1 (ksInt a0)),(6,iE (a0.length:Int)),(7,iE 0)] ?_;refine .sn 0 dInt a0 (by kernel_rfl) (fun hb1=>?_);refine .lI h0 rfl [0,5,6] (fun i2 s3=>[(7,iE (i2:Int))]) n2 n2 [] (by kernel_rfl) (fun i2 s3 q4 hd6 hi8 h0=>?_);refine .a [] T [(8,dE ((i2:Int)<(a0.length:Int)))] ?_;refine .lc hd6 rfl (by kernel_rfl) (fun x5 q42 hc9 hx5 hd7 hd7l=>?_) (fun hc9=>?_)
 ·subst hc9;obtain⟨y1,h1,hw1,hn1⟩:=forI_cons h0;refine .a [.cs [.v (.int .i64 x5)]] (A (dInt.idn hx5) T) [(3,iE (i2:Int)),(4,iE x5)] ?_;refine .bP h1 rfl [0,5,6,7] (fun o10=>[(27,bE o10)]) n1 n1 (fun o10 h1=>?_) (fun y2 h2 hj2=>?_)
  ·refine .jT h1 (fun hc11 h1=>?_) (fun hc11 h1=>?_)
   ·refine .a [] T [(2,bE false)] ?_;cases h1;cases hw1 _ rfl;exact .rt hK
   ·refine .a [.v ((i2+1:Nat):Int)] (A (wn (i:=i2) (by omega)) T) [(7,iE ((i2+1:Nat):Int))] ?_;cases h1;exact .nL rfl (i2+1) _ hd7 hd7l (hn1 _ rfl) [] (by kernel_rfl)
  ·obtain⟨k12,hk12,h2⟩:=bnd h2;by_cases g13:(!k12)=true
   ·have h2:=iteP g13 h2;refine .a (.call [] (bE k12) []::(rb 5 true [])) (A (w_im_within n _ _ _ hk12) (R 5 g13 T)) [(27,bE true)] ?_;cases h2;exact .lg hj2 []
   ·have h2:=iteN g13 h2;by_cases g14:(i2:Int)>0
    ·have h2:=iteP g14 h2;obtain⟨e15,he15,h2⟩:=bnd h2;refine .a (.call [] (bE k12) []::(rb 3 false (rb 3 true (.pl::(.b true::(.cs [.v (.int .i64 e15)]::(rb 3 true [.b false,.b true,.b false]))))))) (A (w_im_within n _ _ _ hk12) (R 3 (Bool.eq_false_iff.2 g13) (R 3 (dt g14) (A (A (dt g14) (dInt.idx he15)) (R 3 (dt g14) (A (A (Bool.eq_false_iff.2 g13) (dt g14)) (A (Bool.eq_false_iff.2 g13) T))))))) [(27,dE (e15≥x5))] ?_;cases h2;exact .lg hj2 []
    ·have h2:=iteN g14 h2;refine .a (.call [] (bE k12) []::(rb 13 false [])) (A (w_im_within n _ _ _ hk12) (R 3 (Bool.eq_false_iff.2 g13) (R 7 (df g14) (A (A (Bool.eq_false_iff.2 g13) (df g14)) (A (Bool.eq_false_iff.2 g13) T))))) [(27,bE false)] ?_;cases h2;exact .lg hj2 []
 ·subst hc9;have h0:=forI_nil h0;refine .a [.v (a0.length:Int)] (A (dInt.len' a0) T) [(2,dE ((a0.length:Int)≤24))] ?_;cases h0;exact .rt hK
def im_formOk:Nat→Form→Int→Int→Option (Bool×Int)
 | 0,_,_,_=>none
 | n+1,a0,a1,w0=>Option.bind ((if(w64 (w0-1))<0 then some true else some (decide (a1>40))):Option (Bool)) (fun(o1:Bool)=>(if o1=true then some (false,(w64 (w0-1))) else(if a0.kind=1 then Option.bind ((im_NameValid n a0.name).bind fun k5=>(if k5=true then(if a0.n=0 then(im_scopesOk n a0.scopes).bind fun k8=>(if k8=true then some (decide ((a0.kids.length:Int)=0)) else some false) else some false) else some false):Option (Bool)) (fun(o4:Bool)=>some (o4,(w64 (w0-1)))) else(if a0.kind=2 then Option.bind ((if a0.name=[] then(im_within n a0.n 0 999).bind fun k13=>(if k13=true then(if(a0.scopes.length:Int)=0 then some (decide ((a0.kids.length:Int)=0)) else some false) else some false) else some false):Option (Bool)) (fun(o11:Bool)=>some (o11,(w64 (w0-1)))) else(if a0.kind=3 then Option.bind ((if ¬a0.name=[] then some true else(if ¬a0.n=0 then some true else some (decide ((a0.scopes.length:Int)>0)))):Option (Bool)) (fun(o17:Bool)=>(if o17=true then some (false,(w64 (w0-1))) else seqS (forI (fun(s21:Int) (i20:Nat) (x23:Form)=>((im_formOk n x23 (w64 (a1+1)) s21).bind fun k28=>(if(!k28.1)=true then some (Sum.inl (false,k28.2)) else some (Sum.inr k28.2)):Option ((Bool×Int)⊕Int))) 0 a0.kids (w64 (w0-1))) (fun(s21:Int)=>some (true,s21)))) else some (false,(w64 (w0-1))))))))
theorem w_im_formOk (n:Nat):∀(a0:Form) (a1:Int) (w0:Int) {r:Bool×Int},im_formOk n a0 a1 w0=some r→SCall X.E 87 [aE (kForm a0),iE a1,pl 0] [some (.cells [iE w0])] (bE r.1) [.cells [iE r.2]]:=by
 induction n with
 | zero=>intro a0 a1 w0 r h; cases h
 | succ n ih=>
  intro a0 a1 w0 r h0;rw[im_formOk] at h0;refine .n Tryz.func87 (fun L ks low K hl hL hlen hK=>?_);refine .af [] T [(3,pw 3)] [.o 3 (.cells ((kForm a0).map .d))] ?_;refine .ao [.pl] T [] [.c 0 0 (iE (w64 (w0-1)))] ?_;refine .bP h0 rfl [1,2,3] (fun o1=>[(21,bE o1)]) n1 n1 (fun o1 h0=>?_) (fun y1 h1 hj1=>?_)
  ·refine .jT h0 (fun hc2 h0=>?_) (fun hc2 h0=>?_)
   ·refine .a [] T [(6,bE false)] ?_;cases h0;exact .rt hK
   ·refine .a [] T [(23,iE a0.kind)] ?_;refine .a [] T [(24,dE (a0.kind=1))] ?_;refine .jP h0 (fun hc3 h0=>?_) (fun hc3 h0=>?_)
    ·refine .bP h0 rfl [] (fun o4=>[(6,bE o4)]) n1 n1 (fun o4 h0=>?_) (fun y1 h1 hj1=>?_)
     ·cases h0;exact .rt hK
     ·obtain⟨k5,hk5,h1⟩:=bnd h1;by_cases g6:k5=true
      ·have h1:=iteP g6 h1;by_cases g7:a0.n=0
       ·have h1:=iteP g7 h1;obtain⟨k8,hk8,h1⟩:=bnd h1;by_cases g9:k8=true
        ·have h1:=iteP g9 h1;refine .a (.call [] (bE k5) []::(rb 7 true (.call [] (bE k8) []::(rb 4 true [.v (a0.kids.length:Int),.b true,.b true])))) (A (w_im_NameValid n _ hk5) (R 4 g6 (R 2 (dt g7) (A (A (dt g7) (w_im_scopesOk n _ hk8)) (A (dt g7) (R 2 g9 (A (A g9 (dForm.len' a0.kids)) (R 2 g9 T)))))))) [(6,dE ((a0.kids.length:Int)=0))] ?_;cases h1;exact .lg hj1 []
        ·have h1:=iteN g9 h1;refine .a (.call [] (bE k5) []::(rb 7 true (.call [] (bE k8) []::(.b true::(rb 5 false []))))) (A (w_im_NameValid n _ hk5) (R 4 g6 (R 2 (dt g7) (A (A (dt g7) (w_im_scopesOk n _ hk8)) (A (dt g7) (R 5 (Bool.eq_false_iff.2 g9) T)))))) [(6,bE false)] ?_;cases h1;exact .lg hj1 []
       ·have h1:=iteN g7 h1;refine .a (.call [] (bE k5) []::(rb 4 true (rb 9 false []))) (A (w_im_NameValid n _ hk5) (R 4 g6 (R 4 (df g7) (R 5 B0 T)))) [(6,bE false)] ?_;cases h1;exact .lg hj1 []
      ·have h1:=iteN g6 h1;refine .a (.call [] (bE k5) []::(rb 13 false [])) (A (w_im_NameValid n _ hk5) (R 4 (Bool.eq_false_iff.2 g6) (R 9 B0 T))) [(6,bE false)] ?_;cases h1;exact .lg hj1 []
    ·refine .a [] T [(45,dE (a0.kind=2))] ?_;refine .jP h0 (fun hc10 h0=>?_) (fun hc10 h0=>?_)
     ·refine .bP h0 rfl [] (fun o11=>[(6,bE o11)]) n1 n1 (fun o11 h0=>?_) (fun y1 h1 hj1=>?_)
      ·cases h0;exact .rt hK
      ·by_cases g12:a0.name=[]
       ·have h1:=iteP g12 h1;obtain⟨k13,hk13,h1⟩:=bnd h1;by_cases g14:k13=true
        ·have h1:=iteP g14 h1;by_cases g15:(a0.scopes.length:Int)=0
         ·have h1:=iteP g15 h1;refine .a (rb 3 true (.call [] (bE k13) []::(rb 4 true (.v (a0.scopes.length:Int)::(rb 5 true [.v (a0.kids.length:Int),.b true,.b true]))))) (R 2 (dt g12) (A (A (dt g12) (w_im_within n _ _ _ hk13)) (A (dt g12) (R 2 g14 (A (A g14 (dInt.len' a0.scopes)) (R 2 g14 (R 2 (dt g15) (A (A (dt g15) (dForm.len' a0.kids)) (R 2 (dt g15) T))))))))) [(6,dE ((a0.kids.length:Int)=0))] ?_;cases h1;exact .lg hj1 []
         ·have h1:=iteN g15 h1;refine .a (rb 3 true (.call [] (bE k13) []::(rb 4 true (.v (a0.scopes.length:Int)::(.b true::(.b true::(rb 5 false []))))))) (R 2 (dt g12) (A (A (dt g12) (w_im_within n _ _ _ hk13)) (A (dt g12) (R 2 g14 (A (A g14 (dInt.len' a0.scopes)) (R 2 g14 (R 5 (df g15) T))))))) [(6,bE false)] ?_;cases h1;exact .lg hj1 []
        ·have h1:=iteN g14 h1;refine .a (rb 3 true (.call [] (bE k13) []::(.b true::(rb 10 false [])))) (R 2 (dt g12) (A (A (dt g12) (w_im_within n _ _ _ hk13)) (A (dt g12) (R 5 (Bool.eq_false_iff.2 g14) (R 5 B0 T))))) [(6,bE false)] ?_;cases h1;exact .lg hj1 []
       ·have h1:=iteN g12 h1;refine .a (rb 14 false []) (R 4 (df g12) (R 10 B0 T)) [(6,bE false)] ?_;cases h1;exact .lg hj1 []
     ·refine .a [] T [(67,dE (a0.kind=3))] ?_;refine .jP h0 (fun hc16 h0=>?_) (fun hc16 h0=>?_)
      ·refine .bP h0 rfl [1,2,3] (fun o17=>[(82,bE o17)]) n1 n1 (fun o17 h0=>?_) (fun y1 h1 hj1=>?_)
       ·refine .jT h0 (fun hc18 h0=>?_) (fun hc18 h0=>?_)
        ·refine .a [] T [(6,bE false)] ?_;cases h0;exact .rt hK
        ·refine .a [.v (a0.kids.length:Int)] (A (dForm.len' a0.kids) T) [(84,lE 5 (ksForm a0.kids)),(85,iE (a0.kids.length:Int)),(86,iE 0)] ?_;refine .sn 84 dForm a0.kids (by kernel_rfl) (fun hb19=>?_);refine .lI h0 rfl [1,2,84,85] (fun i20 s21=>[(86,iE (i20:Int))]) n2 (fun i20 s21=>[.c 0 0 (iE s21)]) [] (by kernel_rfl) (fun i20 s21 q22 hd24 hi26 h0=>?_);refine .a [] T [(87,dE ((i20:Int)<(a0.kids.length:Int)))] ?_;refine .lc hd24 rfl (by kernel_rfl) (fun x23 q222 hc27 hx23 hd25 hd25l=>?_) (fun hc27=>?_)
         ·subst hc27;obtain⟨y1,h1,hw1,hn1⟩:=forI_cons h0;refine .af [.cs (kForm x23)] (A (dForm.idn hx23) T) [(8,pw 8)] [.o 8 (.cells ((kForm x23).map .d))] ?_;obtain⟨k28,hk28,h1⟩:=bnd h1;refine .ao [.pl,.call [.low 0] (bE k28.1) [.cells [iE k28.2]]] (A (ih _ _ _ hk28) T) [(95,bE (!k28.1))] [.c 0 0 (iE k28.2)] ?_;refine .jT h1 (fun hc29 h1=>?_) (fun hc29 h1=>?_)
          ·refine .a [] T [(6,bE false)] ?_;cases h1;cases hw1 _ rfl;exact .rt hK
          ·refine .a [.v ((i20+1:Nat):Int)] (A (wn (i:=i20) (by omega)) T) [(86,iE ((i20+1:Nat):Int))] ?_;cases h1;refine .kp [1,2,84,85,86] [] ?_;refine .dr 8 (by kernel_rfl) ?_;exact .nL rfl (i20+1) _ hd25 hd25l (hn1 _ rfl) [] (by kernel_rfl)
         ·subst hc27;have h0:=forI_nil h0;refine .a [] T [(6,bE true)] ?_;cases h0;exact .rt hK
       ·by_cases g30:¬a0.name=[]
        ·have h1:=iteP g30 h1;refine .a (rb 9 true []) (R 4 (dt g30) (R 5 B1 T)) [(82,bE true)] ?_;cases h1;exact .lg hj1 []
        ·have h1:=iteN g30 h1;by_cases g31:¬a0.n=0
         ·have h1:=iteP g31 h1;refine .a (rb 4 false (rb 5 true [])) (R 4 (df g30) (R 5 (dt g31) T)) [(82,bE true)] ?_;cases h1;exact .lg hj1 []
         ·have h1:=iteN g31 h1;refine .a (rb 7 false [.v (a0.scopes.length:Int),.b false,.b false]) (R 4 (df g30) (R 2 (df g31) (A (A (df g31) (dInt.len' a0.scopes)) (R 2 (df g31) T)))) [(82,dE ((a0.scopes.length:Int)>0))] ?_;cases h1;exact .lg hj1 []
      ·refine .a [] T [(6,bE false)] ?_;cases h0;exact .rt hK
  ·by_cases g32:(w64 (w0-1))<0
   ·have h1:=iteP g32 h1;refine .a (rb 3 true []) (R 3 (dt g32) T) [(21,bE true)] ?_;cases h1;exact .lg hj1 []
   ·have h1:=iteN g32 h1;refine .a (rb 3 false []) (R 3 (df g32) T) [(21,dE (a1>40))] ?_;cases h1;exact .lg hj1 []
def im_FormValid (n:Nat) (a0:Form):Option (Bool):=
 (im_formOk n a0 1 400).bind fun k1=>some k1.1
theorem w_im_FormValid (n:Nat):∀(a0:Form) {r:Bool},im_FormValid n a0=some r→SCall X.E 71 [aE (kForm a0)] [] (bE r) []:=by
 intro a0 r h0;rw[im_FormValid] at h0;refine .n Tryz.func71 (fun L ks low K hl hL hlen hK=>?_);refine .af [] T [(1,pw 1)] [.o 1 (.cells ((kForm a0).map .d))] ?_;refine .af [] T [(3,pw 3)] [.o 3 (.cells [iE 400])] ?_;obtain⟨k1,hk1,h0⟩:=bnd h0;refine .af [.call [.own 3] (bE k1.1) [.cells [iE k1.2]]] (A (w_im_formOk n _ _ _ hk1) T) [(2,bE k1.1)] [.c 3 0 (iE k1.2)] ?_;cases h0;exact .rt hK
def im_ScopesOf_1 (n:Nat) (a0:Form) (w0:List Int):Option (List Int):=
 (apB 8 w0 a0.scopes).bind fun z1=>some z1
theorem w_im_ScopesOf_1 (n:Nat):∀(a0:Form) (w0:List Int) {r:List Int},im_ScopesOf_1 n a0 w0=some r→SCall X.E 112 [aE (kForm a0),pl 0] [some (.cells [.vs (.low 1) 1 ((ksInt w0).length)]),some (.vec 3 1 (ksInt w0))] (.tup []) [.cells [.vs (.low 1) 1 ((ksInt r).length)],.vec 3 1 (ksInt r)]:=by
 intro a0 w0 r h0;rw[im_ScopesOf_1] at h0;refine .n Tryz.func112 (fun L ks low K hl hL hlen hK=>?_);refine .af [] T [(2,pw 2)] [.o 2 (.cells ((kForm a0).map .d))] ?_;obtain⟨z1,hz1,h0⟩:=bnd h0;refine .ao [.sv (ksInt z1)] (A (A (dInt.ap hz1) (rfl:(ksInt w0).length=(ksInt w0).length)) T) [] [.c 0 0 (.vs (.low 1) 1 ((ksInt z1).length)),.o 1 (.vec 3 1 (ksInt z1))] ?_;cases h0;exact .fin rfl rfl rfl rfl hK
def im_eachForm__im_ScopesOf_1:Nat→Form→(List Int)→Option (List Int)
 | 0,_,_=>none
 | n+1,a0,w0=>(im_ScopesOf_1 n a0 w0).bind fun k1=>Option.bind (forL (fun(s4:List Int) (i3:Nat) (x6:Form)=>(im_eachForm__im_ScopesOf_1 n x6 s4).bind fun k11=>some k11) 0 a0.kids k1) (fun(s4:List Int)=>some s4)
theorem w_im_eachForm__im_ScopesOf_1 (n:Nat):∀(a0:Form) (w0:List Int) {r:List Int},im_eachForm__im_ScopesOf_1 n a0 w0=some r→SCall X.E 50 [aE (kForm a0),.clo 112 [] [pl 0]] [some (.cells [.vs (.low 1) 1 ((ksInt w0).length)]),some (.vec 3 1 (ksInt w0))] (.tup []) [.cells [.vs (.low 1) 1 ((ksInt r).length)],.vec 3 1 (ksInt r)]:=by
 induction n with
 | zero=>intro a0 w0 r h; cases h
 | succ n ih=>
  intro a0 w0 r h0;rw[im_eachForm__im_ScopesOf_1] at h0;refine .n Tryz.func50 (fun L ks low K hl hL hlen hK=>?_);refine .af [] T [(2,pw 2)] [.o 2 (.cells ((kForm a0).map .d))] ?_;obtain⟨k1,hk1,h0⟩:=bnd h0;refine .ao [.call [.low 0,.low 1] (.tup []) [.cells [.vs (.low 1) 1 ((ksInt k1).length)],.vec 3 1 (ksInt k1)]] (A (w_im_ScopesOf_1 n _ _ hk1) T) [] [.c 0 0 (.vs (.low 1) 1 ((ksInt k1).length)),.o 1 (.vec 3 1 (ksInt k1))] ?_;refine .a [.v (a0.kids.length:Int)] (A (dForm.len' a0.kids) T) [(10,lE 5 (ksForm a0.kids)),(11,iE (a0.kids.length:Int)),(12,iE 0)] ?_;refine .sn 10 dForm a0.kids (by kernel_rfl) (fun hb2=>?_);refine .lL h0 rfl [1,10,11] (fun i3 s4=>[(12,iE (i3:Int))]) n2 (fun i3 s4=>[.c 0 0 (.vs (.low 1) 1 ((ksInt s4).length)),.o 1 (.vec 3 1 (ksInt s4))]) [] (by kernel_rfl) (fun i3 s4 q5 hd7 hi9 h0=>?_);refine .a [] T [(13,dE ((i3:Int)<(a0.kids.length:Int)))] ?_;refine .lc hd7 rfl (by kernel_rfl) (fun x6 q52 hc10 hx6 hd8 hd8l=>?_) (fun hc10=>?_)
  ·subst hc10;obtain⟨y1,h1,hn1⟩:=forL_cons h0;refine .af [.cs (kForm x6)] (A (dForm.idn hx6) T) [(5,pw 5)] [.o 5 (.cells ((kForm x6).map .d))] ?_;obtain⟨k11,hk11,h1⟩:=bnd h1;refine .ao [.call [.low 0,.low 1] (.tup []) [.cells [.vs (.low 1) 1 ((ksInt k11).length)],.vec 3 1 (ksInt k11)]] (A (ih _ _ hk11) T) [] [.c 0 0 (.vs (.low 1) 1 ((ksInt k11).length)),.o 1 (.vec 3 1 (ksInt k11))] ?_;refine .a [.v ((i3+1:Nat):Int)] (A (wn (i:=i3) (by omega)) T) [(12,iE ((i3+1:Nat):Int))] ?_;cases h1;refine .kp [1,10,11,12] [] ?_;refine .dr 5 (by kernel_rfl) ?_;exact .nL rfl (i3+1) _ hd8 hd8l hn1 [] (by kernel_rfl)
  ·subst hc10;have h0:=forL_nil h0;cases h0;exact .fin rfl rfl rfl rfl hK
def slices_Compact_int_v (n:Nat) (a0:List Int):Option (List Int):=some (Lib.compact a0)
theorem w_slices_Compact_int_v (n:Nat):∀(a0:List Int) {r:List Int},slices_Compact_int_v n a0=some r→SCall X.E 114 [.vs (.low 0) 1 ((ksInt a0).length)] [some (.vec 3 1 (ksInt a0))] (lE 1 (ksInt r)) [.tok 9223372036854775808 3]:=by
 intro a0 r h0;cases h0;exact SCall.rowCut Tryz.func114 rfl rfl (Lib.compact_length_le a0) (fun _ p cap w=>Tryz.slices_Compact_int_empty p cap w) (fun b cap w hc hm hH hb=>(Tryz.slices_Compact_int b 0 cap a0 w hH hm hc).mono (by rintro e w' ⟨rfl,q,rfl⟩; exact⟨rfl,OnRow.pre (.of_put0 w q b _ hb)⟩))
def slices_Sort_int_v (n:Nat) (a0:List Int):Option (List Int):=if a0.length<4611686018427387904 then some (a0.mergeSort fun x y=>decide (x≤y)) else none
theorem w_slices_Sort_int_v (n:Nat):∀(a0:List Int) {r:List Int},slices_Sort_int_v n a0=some r→SCall X.E 113 [.vs (.low 0) 1 ((ksInt a0).length)] [some (.vec 3 1 (ksInt a0))] (.tup []) [.vec 3 1 (ksInt r)]:=by
 intro a0 r h0;rw[slices_Sort_int_v] at h0;split at h0
 ·rename_i hlt; cases h0; exact SCall.row Tryz.func113 rfl rfl (by simp) (fun _ p cap w=>Tryz.slices_Sort_int_none p cap w) (fun b cap w _ hH hb=>(Tryz.slices_Sort_int b 0 cap a0 w hH hb hlt).mono (by rintro e w' ⟨rfl,n,os,rfl⟩; exact⟨rfl,.of_put w n b _ os hb⟩))
 ·cases h0
def im_ScopesOf (n:Nat) (a0:Form):Option (List Int):=
 (im_FormValid n a0).bind fun k1=>(if(!k1)=true then some [] else(im_eachForm__im_ScopesOf_1 n a0 []).bind fun k3=>(slices_Sort_int_v n k3).bind fun k4=>(lenB k4 k3.length).bind fun u5=>(slices_Compact_int_v n k4).bind fun k7=>some k7)
theorem w_im_ScopesOf (n:Nat):∀(a0:Form) {r:List Int},im_ScopesOf n a0=some r→SCall X.E 98 [aE (kForm a0)] [] (lE 1 (ksInt r)) []:=by
 intro a0 r h0;rw[im_ScopesOf] at h0;refine .n Tryz.func98 (fun L ks low K hl hL hlen hK=>?_);refine .af [] T [(1,pw 1)] [.o 1 (.cells ((kForm a0).map .d))] ?_;refine .af [.sv (ksInt [])] (A (dInt.lit []) T) [(3,pw 3)] [.o 3 (.cells [fE 1 (ksInt [])])] ?_;obtain⟨k1,hk1,h0⟩:=bnd h0;refine .a [.call [] (bE k1) []] (A (w_im_FormValid n _ hk1) T) [(7,bE (!k1))] ?_;refine .jT h0 (fun hc2 h0=>?_) (fun hc2 h0=>?_)
 ·refine .a [] T [(2,fE 1 (ksInt []))] ?_;cases h0;exact .rt hK
 ·refine .ov 3 0 400300 3 (by kernel_rfl) ?_;obtain⟨k3,hk3,h0⟩:=bnd h0;refine .af [.call [.own 3,.own 400300] (.tup []) [.cells [.vs (.low 1) 1 ((ksInt k3).length)],.vec 3 1 (ksInt k3)]] (A (w_im_eachForm__im_ScopesOf_1 n _ _ hk3) T) [] [.c 3 0 (.vs (.own 400300) 1 ((ksInt k3).length)),.o 400300 (.vec 3 1 (ksInt k3))] ?_;obtain⟨k4,hk4,h0⟩:=bnd h0;obtain⟨u5,hu5,h0⟩:=bnd h0;refine .af [.call [.own 400300] (.tup []) [.vec 3 1 (ksInt k4)]] (A (w_slices_Sort_int_v n _ hk4) T) [] [.c 3 0 (.vs (.own 400300) 1 ((ksInt k3).length)),.o 400300 (.vec 3 1 (ksInt k4))] ?_;refine .rn (by rw[dInt.length,dInt.length]; exact(lenB_ok hu5).symm:(ksInt k3).length=(ksInt k4).length) (fun nk6=>[]) (fun nk6=>[.c 3 0 (.vs (.own 400300) 1 nk6)]) (fun nk6=>[]) (by kernel_rfl) ?_;obtain⟨k7,hk7,h0⟩:=bnd h0;refine .af [.call [.own 400300] (lE 1 (ksInt k7)) [.tok 9223372036854775808 3]] (A (w_slices_Compact_int_v n _ hk7) T) [(2,lE 1 (ksInt k7))] [.o 400300 (.tok 9223372036854775808 3)] ?_;cases h0;exact .rt hK
def slices_Equal_int (n:Nat) (a0:List Int) (a1:List Int):Option (Bool):=
 (if ¬(a0.length:Int)=(a1.length:Int) then some false else seqS (forI (fun(s5:Unit) (i4:Nat) (x7:Int)=>((atI a1 (i4:Int)).bind fun e12=>(if ¬x7=e12 then some (Sum.inl false) else some (Sum.inr ())):Option (Bool⊕Unit))) 0 a0 ()) (fun(s5:Unit)=>some true))
theorem w_slices_Equal_int (n:Nat):∀(a0:List Int) (a1:List Int) {r:Bool},slices_Equal_int n a0 a1=some r→SCall X.E 47 [lE 1 (ksInt a0),lE 1 (ksInt a1)] [] (bE r) []:=by
 intro a0 a1 r h0;rw[slices_Equal_int] at h0;refine .n Tryz.func47 (fun L ks low K hl hL hlen hK=>?_);refine .a [] T [] ?_;refine .a [.v (a0.length:Int),.v (a1.length:Int)] (A (dInt.len' a0) (A (dInt.len' a1) T)) [(10,dE (¬(a0.length:Int)=(a1.length:Int)))] ?_;refine .sn 0 dInt a0 (by kernel_rfl) (fun hb1=>?_);refine .sn 1 dInt a1 (by kernel_rfl) (fun hb2=>?_);refine .jP h0 (fun hc3 h0=>?_) (fun hc3 h0=>?_)
 ·refine .a [] T [(4,bE false)] ?_;cases h0;exact .rt hK
 ·refine .a [.v (a0.length:Int)] (A (dInt.len' a0) T) [(12,iE (a0.length:Int)),(13,iE 0)] ?_;refine .lI h0 rfl [0,1,12] (fun i4 s5=>[(13,iE (i4:Int))]) n2 n2 [] (by kernel_rfl) (fun i4 s5 q6 hd8 hi10 h0=>?_);refine .a [] T [(14,dE ((i4:Int)<(a0.length:Int)))] ?_;refine .lc hd8 rfl (by kernel_rfl) (fun x7 q62 hc11 hx7 hd9 hd9l=>?_) (fun hc11=>?_)
  ·subst hc11;obtain⟨y1,h1,hw1,hn1⟩:=forI_cons h0;refine .a [] T [(5,iE (i4:Int))] ?_;obtain⟨e12,he12,h1⟩:=bnd h1;refine .ad mixed [(2,[.cs [.v (.int .i64 x7)]]),(6,[.cs [.v (.int .i64 e12)]])] [] (A (dInt.idn hx7) (A (dInt.idx he12) T)) [(24,dE (¬x7=e12))] [] [] ?_;refine .jP h1 (fun hc13 h1=>?_) (fun hc13 h1=>?_)
   ·refine .a [] T [(4,bE false)] ?_;cases h1;cases hw1 _ rfl;exact .rt hK
   ·refine .a [.v ((i4+1:Nat):Int)] (A (wn (i:=i4) (by omega)) T) [(13,iE ((i4+1:Nat):Int))] ?_;cases h1;exact .nL rfl (i4+1) _ hd9 hd9l (hn1 _ rfl) [] (by kernel_rfl)
  ·subst hc11;have h0:=forI_nil h0;refine .a [] T [(4,bE true)] ?_;cases h0;exact .rt hK
mutual
def im_FormSame:Nat→Form→Form→Option (Bool)
 | 0,_,_=>none
 | n+1,a0,a1=>Option.bind ((if a0.kind=a1.kind then(if a0.name=a1.name then(if a0.n=a1.n then(slices_Equal_int n a0.scopes a1.scopes).bind fun k5=>(if k5=true then(slices_EqualFunc_impl_Form__im_FormSame n a0.kids a1.kids).bind fun k7=>some k7 else some false) else some false) else some false) else some false):Option (Bool)) (fun(o1:Bool)=>some o1)
def slices_EqualFunc_impl_Form__im_FormSame:Nat→(List Form)→(List Form)→Option (Bool)
 | 0,_,_=>none
 | n+1,a0,a1=>(if ¬(a0.length:Int)=(a1.length:Int) then some false else seqS (forI (fun(s5:Unit) (i4:Nat) (x7:Form)=>((atI a1 (i4:Int)).bind fun e12=>(im_FormSame n x7 e12).bind fun k13=>(if(!k13)=true then some (Sum.inl false) else some (Sum.inr ())):Option (Bool⊕Unit))) 0 a0 ()) (fun(s5:Unit)=>some true))
end
theorem g_im_FormSame (n:Nat):(∀(a0:Form) (a1:Form) {r:Bool},im_FormSame n a0 a1=some r→SCall X.E 15 [aE (kForm a0),aE (kForm a1)] [] (bE r) [])∧(∀(a0:List Form) (a1:List Form) {r:Bool},slices_EqualFunc_impl_Form__im_FormSame n a0 a1=some r→SCall X.E 48 [lE 5 (ksForm a0),lE 5 (ksForm a1),.clo 15 [] []] [] (bE r) []):=by
 induction n with
 | zero=>exact⟨(by intros; rename_i h; cases h),(by intros; rename_i h; cases h)⟩
 | succ n ih=>
  refine⟨?_,?_⟩
  ·intro a0 a1 r h0;rw[im_FormSame] at h0;refine .n Tryz.func15 (fun L ks low K hl hL hlen hK=>?_);refine .af [] T [(2,pw 2),(3,pw 3)] [.o 2 (.cells ((kForm a0).map .d)),.o 3 (.cells ((kForm a1).map .d))] ?_;refine .bP h0 rfl [] (fun o1=>[(4,bE o1)]) n1 n1 (fun o1 h0=>?_) (fun y1 h1 hj1=>?_)
   ·cases h0;exact .rt hK
   ·by_cases g2:a0.kind=a1.kind
    ·have h1:=iteP g2 h1;by_cases g3:a0.name=a1.name
     ·have h1:=iteP g3 h1;by_cases g4:a0.n=a1.n
      ·have h1:=iteP g4 h1;obtain⟨k5,hk5,h1⟩:=bnd h1;by_cases g6:k5=true
       ·have h1:=iteP g6 h1;obtain⟨k7,hk7,h1⟩:=bnd h1;refine .a (rb 17 true (.call [] (bE k5) []::(rb 6 true [.call [] (bE k7) [],.b true]))) (R 6 (dt g2) (R 6 (dt g3) (R 4 (dt g4) (A (A (dt g4) (w_slices_Equal_int n _ _ hk5)) (A (dt g4) (R 4 g6 (A (A g6 (ih.2 _ _ hk7)) (A g6 T)))))))) [(4,bE k7)] ?_;cases h1;exact .lg hj1 []
       ·have h1:=iteN g6 h1;refine .a (rb 17 true (.call [] (bE k5) []::(.b true::(rb 6 false [])))) (R 6 (dt g2) (R 6 (dt g3) (R 4 (dt g4) (A (A (dt g4) (w_slices_Equal_int n _ _ hk5)) (A (dt g4) (R 6 (Bool.eq_false_iff.2 g6) T)))))) [(4,bE false)] ?_;cases h1;exact .lg hj1 []
      ·have h1:=iteN g4 h1;refine .a (rb 12 true (rb 12 false [])) (R 6 (dt g2) (R 6 (dt g3) (R 6 (df g4) (R 6 B0 T)))) [(4,bE false)] ?_;cases h1;exact .lg hj1 []
     ·have h1:=iteN g3 h1;refine .a (rb 6 true (rb 18 false [])) (R 6 (dt g2) (R 6 (df g3) (R 12 B0 T))) [(4,bE false)] ?_;cases h1;exact .lg hj1 []
    ·have h1:=iteN g2 h1;refine .a (rb 24 false []) (R 6 (df g2) (R 18 B0 T)) [(4,bE false)] ?_;cases h1;exact .lg hj1 []
  ·intro a0 a1 r h0;rw[slices_EqualFunc_impl_Form__im_FormSame] at h0;refine .n Tryz.func48 (fun L ks low K hl hL hlen hK=>?_);refine .a [] T [] ?_;refine .a [.v (a0.length:Int),.v (a1.length:Int)] (A (dForm.len' a0) (A (dForm.len' a1) T)) [(14,dE (¬(a0.length:Int)=(a1.length:Int)))] ?_;refine .sn 0 dForm a0 (by kernel_rfl) (fun hb1=>?_);refine .sn 1 dForm a1 (by kernel_rfl) (fun hb2=>?_);refine .jP h0 (fun hc3 h0=>?_) (fun hc3 h0=>?_)
   ·refine .a [] T [(6,bE false)] ?_;cases h0;exact .rt hK
   ·refine .a [.v (a0.length:Int)] (A (dForm.len' a0) T) [(15,lE 5 (ksForm a0)),(16,iE (a0.length:Int)),(17,iE 0)] ?_;refine .lI h0 rfl [1,2,15,16] (fun i4 s5=>[(17,iE (i4:Int))]) n2 n2 [] (by kernel_rfl) (fun i4 s5 q6 hd8 hi10 h0=>?_);refine .a [] T [(18,dE ((i4:Int)<(a0.length:Int)))] ?_;refine .lc hd8 rfl (by kernel_rfl) (fun x7 q62 hc11 hx7 hd9 hd9l=>?_) (fun hc11=>?_)
    ·subst hc11;obtain⟨y1,h1,hw1,hn1⟩:=forI_cons h0;refine .af [.cs (kForm x7)] (A (dForm.idn hx7) T) [(7,iE (i4:Int)),(8,pw 8)] [.o 8 (.cells ((kForm x7).map .d))] ?_;obtain⟨e12,he12,h1⟩:=bnd h1;refine .af [.cs (kForm e12)] (A (dForm.idx he12) T) [(9,pw 9)] [.o 9 (.cells ((kForm e12).map .d))] ?_;obtain⟨k13,hk13,h1⟩:=bnd h1;refine .a [.call [] (bE k13) []] (A (ih.1 _ _ hk13) T) [(30,bE (!k13))] ?_;refine .jT h1 (fun hc14 h1=>?_) (fun hc14 h1=>?_)
     ·refine .a [] T [(6,bE false)] ?_;cases h1;cases hw1 _ rfl;exact .rt hK
     ·refine .a [.v ((i4+1:Nat):Int)] (A (wn (i:=i4) (by omega)) T) [(17,iE ((i4+1:Nat):Int))] ?_;cases h1;refine .kp [1,2,15,16,17] [] ?_;refine .dr 8 (by kernel_rfl) ?_;refine .dr 9 (by kernel_rfl) ?_;exact .nL rfl (i4+1) _ hd9 hd9l (hn1 _ rfl) [] (by kernel_rfl)
    ·subst hc11;have h0:=forI_nil h0;refine .a [] T [(6,bE true)] ?_;cases h0;exact .rt hK
theorem w_im_FormSame (n:Nat):∀(a0:Form) (a1:Form) {r:Bool},im_FormSame n a0 a1=some r→SCall X.E 15 [aE (kForm a0),aE (kForm a1)] [] (bE r) []:=(g_im_FormSame n).1
theorem w_slices_EqualFunc_impl_Form__im_FormSame (n:Nat):∀(a0:List Form) (a1:List Form) {r:Bool},slices_EqualFunc_impl_Form__im_FormSame n a0 a1=some r→SCall X.E 48 [lE 5 (ksForm a0),lE 5 (ksForm a1),.clo 15 [] []] [] (bE r) []:=(g_im_FormSame n).2
mutual
def im_sameCore:Nat→Core→Core→Option (Bool)
 | 0,_,_=>none
 | n+1,a0,a1=>Option.bind ((if a0.kind=a1.kind then(if a0.id=a1.id then(if a0.name=a1.name then(if a0.n=a1.n then(slices_Equal_int n a0.ids a1.ids).bind fun k6=>(if k6=true then(im_FormSame n a0.data a1.data).bind fun k8=>(if k8=true then(slices_EqualFunc_impl_Core__im_sameCore n a0.kids a1.kids).bind fun k10=>some k10 else some false) else some false) else some false) else some false) else some false) else some false):Option (Bool)) (fun(o1:Bool)=>some o1)
def slices_EqualFunc_impl_Core__im_sameCore:Nat→(List Core)→(List Core)→Option (Bool)
 | 0,_,_=>none
 | n+1,a0,a1=>(if ¬(a0.length:Int)=(a1.length:Int) then some false else seqS (forI (fun(s5:Unit) (i4:Nat) (x7:Core)=>((atI a1 (i4:Int)).bind fun e12=>(im_sameCore n x7 e12).bind fun k13=>(if(!k13)=true then some (Sum.inl false) else some (Sum.inr ())):Option (Bool⊕Unit))) 0 a0 ()) (fun(s5:Unit)=>some true))
end
theorem g_im_sameCore (n:Nat):(∀(a0:Core) (a1:Core) {r:Bool},im_sameCore n a0 a1=some r→SCall X.E 99 [aE (kCore a0),aE (kCore a1)] [] (bE r) [])∧(∀(a0:List Core) (a1:List Core) {r:Bool},slices_EqualFunc_impl_Core__im_sameCore n a0 a1=some r→SCall X.E 115 [lE 11 (ksCore a0),lE 11 (ksCore a1),.clo 99 [] []] [] (bE r) []):=by
 induction n with
 | zero=>exact⟨(by intros; rename_i h; cases h),(by intros; rename_i h; cases h)⟩
 | succ n ih=>
  refine⟨?_,?_⟩
  ·intro a0 a1 r h0;rw[im_sameCore] at h0;refine .n Tryz.func99 (fun L ks low K hl hL hlen hK=>?_);refine .af [] T [(2,pw 2),(3,pw 3)] [.o 2 (.cells ((kCore a0).map .d)),.o 3 (.cells ((kCore a1).map .d))] ?_;refine .bP h0 rfl [] (fun o1=>[(4,bE o1)]) n1 n1 (fun o1 h0=>?_) (fun y1 h1 hj1=>?_)
   ·cases h0;exact .rt hK
   ·by_cases g2:a0.kind=a1.kind
    ·have h1:=iteP g2 h1;by_cases g3:a0.id=a1.id
     ·have h1:=iteP g3 h1;by_cases g4:a0.name=a1.name
      ·have h1:=iteP g4 h1;by_cases g5:a0.n=a1.n
       ·have h1:=iteP g5 h1;obtain⟨k6,hk6,h1⟩:=bnd h1;by_cases g7:k6=true
        ·have h1:=iteP g7 h1;obtain⟨k8,hk8,h1⟩:=bnd h1;by_cases g9:k8=true
         ·have h1:=iteP g9 h1;obtain⟨k10,hk10,h1⟩:=bnd h1;refine .a (rb 23 true (.call [] (bE k6) []::(rb 6 true (.call [] (bE k8) []::(rb 6 true [.call [] (bE k10) [],.b true]))))) (R 6 (dt g2) (R 6 (dt g3) (R 6 (dt g4) (R 4 (dt g5) (A (A (dt g5) (w_slices_Equal_int n _ _ hk6)) (A (dt g5) (R 4 g7 (A (A g7 (w_im_FormSame n _ _ hk8)) (A g7 (R 4 g9 (A (A g9 (ih.2 _ _ hk10)) (A g9 T)))))))))))) [(4,bE k10)] ?_;cases h1;exact .lg hj1 []
         ·have h1:=iteN g9 h1;refine .a (rb 23 true (.call [] (bE k6) []::(rb 6 true (.call [] (bE k8) []::(.b true::(rb 6 false [])))))) (R 6 (dt g2) (R 6 (dt g3) (R 6 (dt g4) (R 4 (dt g5) (A (A (dt g5) (w_slices_Equal_int n _ _ hk6)) (A (dt g5) (R 4 g7 (A (A g7 (w_im_FormSame n _ _ hk8)) (A g7 (R 6 (Bool.eq_false_iff.2 g9) T)))))))))) [(4,bE false)] ?_;cases h1;exact .lg hj1 []
        ·have h1:=iteN g7 h1;refine .a (rb 23 true (.call [] (bE k6) []::(.b true::(rb 12 false [])))) (R 6 (dt g2) (R 6 (dt g3) (R 6 (dt g4) (R 4 (dt g5) (A (A (dt g5) (w_slices_Equal_int n _ _ hk6)) (A (dt g5) (R 6 (Bool.eq_false_iff.2 g7) (R 6 B0 T)))))))) [(4,bE false)] ?_;cases h1;exact .lg hj1 []
       ·have h1:=iteN g5 h1;refine .a (rb 18 true (rb 18 false [])) (R 6 (dt g2) (R 6 (dt g3) (R 6 (dt g4) (R 6 (df g5) (R 12 B0 T))))) [(4,bE false)] ?_;cases h1;exact .lg hj1 []
      ·have h1:=iteN g4 h1;refine .a (rb 12 true (rb 24 false [])) (R 6 (dt g2) (R 6 (dt g3) (R 6 (df g4) (R 18 B0 T)))) [(4,bE false)] ?_;cases h1;exact .lg hj1 []
     ·have h1:=iteN g3 h1;refine .a (rb 6 true (rb 30 false [])) (R 6 (dt g2) (R 6 (df g3) (R 24 B0 T))) [(4,bE false)] ?_;cases h1;exact .lg hj1 []
    ·have h1:=iteN g2 h1;refine .a (rb 36 false []) (R 6 (df g2) (R 30 B0 T)) [(4,bE false)] ?_;cases h1;exact .lg hj1 []
  ·intro a0 a1 r h0;rw[slices_EqualFunc_impl_Core__im_sameCore] at h0;refine .n Tryz.func115 (fun L ks low K hl hL hlen hK=>?_);refine .a [] T [] ?_;refine .a [.v (a0.length:Int),.v (a1.length:Int)] (A (dCore.len' a0) (A (dCore.len' a1) T)) [(14,dE (¬(a0.length:Int)=(a1.length:Int)))] ?_;refine .sn 0 dCore a0 (by kernel_rfl) (fun hb1=>?_);refine .sn 1 dCore a1 (by kernel_rfl) (fun hb2=>?_);refine .jP h0 (fun hc3 h0=>?_) (fun hc3 h0=>?_)
   ·refine .a [] T [(6,bE false)] ?_;cases h0;exact .rt hK
   ·refine .a [.v (a0.length:Int)] (A (dCore.len' a0) T) [(15,lE 11 (ksCore a0)),(16,iE (a0.length:Int)),(17,iE 0)] ?_;refine .lI h0 rfl [1,2,15,16] (fun i4 s5=>[(17,iE (i4:Int))]) n2 n2 [] (by kernel_rfl) (fun i4 s5 q6 hd8 hi10 h0=>?_);refine .a [] T [(18,dE ((i4:Int)<(a0.length:Int)))] ?_;refine .lc hd8 rfl (by kernel_rfl) (fun x7 q62 hc11 hx7 hd9 hd9l=>?_) (fun hc11=>?_)
    ·subst hc11;obtain⟨y1,h1,hw1,hn1⟩:=forI_cons h0;refine .af [.cs (kCore x7)] (A (dCore.idn hx7) T) [(7,iE (i4:Int)),(8,pw 8)] [.o 8 (.cells ((kCore x7).map .d))] ?_;obtain⟨e12,he12,h1⟩:=bnd h1;refine .af [.cs (kCore e12)] (A (dCore.idx he12) T) [(9,pw 9)] [.o 9 (.cells ((kCore e12).map .d))] ?_;obtain⟨k13,hk13,h1⟩:=bnd h1;refine .a [.call [] (bE k13) []] (A (ih.1 _ _ hk13) T) [(30,bE (!k13))] ?_;refine .jT h1 (fun hc14 h1=>?_) (fun hc14 h1=>?_)
     ·refine .a [] T [(6,bE false)] ?_;cases h1;cases hw1 _ rfl;exact .rt hK
     ·refine .a [.v ((i4+1:Nat):Int)] (A (wn (i:=i4) (by omega)) T) [(17,iE ((i4+1:Nat):Int))] ?_;cases h1;refine .kp [1,2,15,16,17] [] ?_;refine .dr 8 (by kernel_rfl) ?_;refine .dr 9 (by kernel_rfl) ?_;exact .nL rfl (i4+1) _ hd9 hd9l (hn1 _ rfl) [] (by kernel_rfl)
    ·subst hc11;have h0:=forI_nil h0;refine .a [] T [(6,bE true)] ?_;cases h0;exact .rt hK
theorem w_im_sameCore (n:Nat):∀(a0:Core) (a1:Core) {r:Bool},im_sameCore n a0 a1=some r→SCall X.E 99 [aE (kCore a0),aE (kCore a1)] [] (bE r) []:=(g_im_sameCore n).1
theorem w_slices_EqualFunc_impl_Core__im_sameCore (n:Nat):∀(a0:List Core) (a1:List Core) {r:Bool},slices_EqualFunc_impl_Core__im_sameCore n a0 a1=some r→SCall X.E 115 [lE 11 (ksCore a0),lE 11 (ksCore a1),.clo 99 [] []] [] (bE r) []:=(g_im_sameCore n).2
def slices_Clone_int (n:Nat) (a0:List Int):Option (List Int):=
 (apB 8 [] a0).bind fun z1=>some z1
theorem w_slices_Clone_int (n:Nat):∀(a0:List Int) {r:List Int},slices_Clone_int n a0=some r→SCall X.E 88 [lE 1 (ksInt a0)] [] (lE 1 (ksInt r)) []:=by
 intro a0 r h0;rw[slices_Clone_int] at h0;refine .m Tryz.func88 rfl rfl rfl (by kernel_rfl) (fun L ks low K hl hL hlen hK=>?_);refine .r [] T [] rfl (by kernel_rfl) ?_;refine .nq rfl (by kernel_rfl) rfl rfl (fun e=>?_) ?_
 ·have e:a0=[]:=by cases a0 with
   | nil=>rfl
   | cons x q=>rw[dInt.eq] at e; cases e
  subst e;have e:r=[]:=by simp[apB] at h0; exact h0
  subst e;refine .cB true rfl (by kernel_rfl) ?_;refine .r [] T [(2,fE 1 (ksInt []))] rfl (by kernel_rfl) ?_;refine .kp [2] [] ?_;refine .owV 2 400002 3 [] rfl rfl (by kernel_rfl) ?_;refine .ft 2 400002 [] dInt [] rfl (by kernel_rfl) ?_;exact .ret rfl rfl (by kernel_rfl) hK
 ·refine .cB false rfl (by kernel_rfl) ?_;obtain⟨z1,hz1,h0⟩:=bnd h0;refine .rf [.sv (ksInt []),.mv 7,.sv (ksInt z1)] (A (dInt.lit []) (A (dInt.ap0 hz1) T)) [(2,.vs (.own 100007) 1 (ksInt z1).length)] [.o 100007 (.vec 3 1 (ksInt z1))] rfl (by kernel_rfl) ?_;refine .kp [2] [] ?_;cases h0;refine .ft 2 100007 [] dInt r rfl (by kernel_rfl) ?_;exact .ret rfl rfl (by kernel_rfl) hK
def slices_Index_int (n:Nat) (a0:List Int) (a1:Int):Option (Int):=
 seqS (forI (fun(s3:Unit) (i2:Nat) (x5:Int)=>((if a1=x5 then some (Sum.inl (i2:Int)) else some (Sum.inr ())):Option (Int⊕Unit))) 0 a0 ()) (fun(s3:Unit)=>some (-1))
theorem w_slices_Index_int (n:Nat):∀(a0:List Int) (a1:Int) {r:Int},slices_Index_int n a0 a1=some r→SCall X.E 110 [lE 1 (ksInt a0),iE a1] [] (iE r) []:=by
 intro a0 a1 r h0;rw[slices_Index_int] at h0;refine .n Tryz.func110 (fun L ks low K hl hL hlen hK=>?_);refine .a [] T [] ?_;refine .a [.v (a0.length:Int)] (A (dInt.len' a0) T) [(7,iE (a0.length:Int)),(8,iE 0)] ?_;refine .sn 0 dInt a0 (by kernel_rfl) (fun hb1=>?_);refine .lI h0 rfl [0,1,7] (fun i2 s3=>[(8,iE (i2:Int))]) n2 n2 [] (by kernel_rfl) (fun i2 s3 q4 hd6 hi8 h0=>?_);refine .a [] T [(9,dE ((i2:Int)<(a0.length:Int)))] ?_;refine .lc hd6 rfl (by kernel_rfl) (fun x5 q42 hc9 hx5 hd7 hd7l=>?_) (fun hc9=>?_)
 ·subst hc9;obtain⟨y1,h1,hw1,hn1⟩:=forI_cons h0;refine .a [] T [(5,iE (i2:Int))] ?_;refine .a [.cs [.v (.int .i64 x5)]] (A (dInt.idn hx5) T) [(16,dE (a1=x5))] ?_;refine .jP h1 (fun hc10 h1=>?_) (fun hc10 h1=>?_)
  ·refine .a [] T [(4,iE (i2:Int))] ?_;cases h1;cases hw1 _ rfl;exact .rt hK
  ·refine .a [.v ((i2+1:Nat):Int)] (A (wn (i:=i2) (by omega)) T) [(8,iE ((i2+1:Nat):Int))] ?_;cases h1;exact .nL rfl (i2+1) _ hd7 hd7l (hn1 _ rfl) [] (by kernel_rfl)
 ·subst hc9;have h0:=forI_nil h0;refine .a [] T [(4,iE (-1))] ?_;cases h0;exact .rt hK
def slices_Contains_int (n:Nat) (a0:List Int) (a1:Int):Option (Bool):=
 (slices_Index_int n a0 a1).bind fun k1=>some (decide (k1≥0))
theorem w_slices_Contains_int (n:Nat):∀(a0:List Int) (a1:Int) {r:Bool},slices_Contains_int n a0 a1=some r→SCall X.E 96 [lE 1 (ksInt a0),iE a1] [] (bE r) []:=by
 intro a0 a1 r h0;rw[slices_Contains_int] at h0;refine .n Tryz.func96 (fun L ks low K hl hL hlen hK=>?_);refine .a [] T [] ?_;obtain⟨k1,hk1,h0⟩:=bnd h0;refine .a [.call [] (iE k1) []] (A (w_slices_Index_int n _ _ hk1) T) [(4,dE (k1≥0))] ?_;cases h0;exact .rt hK
def slices_Index_int_v (n:Nat) (a0:List Int) (a1:Int):Option (Int):=
 seqS (forI (fun(s3:Unit) (i2:Nat) (x5:Int)=>((if a1=x5 then some (Sum.inl (i2:Int)) else some (Sum.inr ())):Option (Int⊕Unit))) 0 a0 ()) (fun(s3:Unit)=>some (-1))
theorem w_slices_Index_int_v (n:Nat):∀(a0:List Int) (a1:Int) {r:Int},slices_Index_int_v n a0 a1=some r→SCall X.E 110 [.vs (.low 0) 1 ((ksInt a0).length),iE a1] [some (.vec 3 1 (ksInt a0))] (iE r) [.vec 3 1 (ksInt a0)]:=by
 intro a0 a1 r h0;rw[slices_Index_int_v] at h0;refine .n Tryz.func110 (fun L ks low K hl hL hlen hK=>?_);refine .a [] T [] ?_;refine .a [.v (a0.length:Int)] (A (dInt.len' a0) T) [(7,iE (a0.length:Int)),(8,iE 0)] ?_;refine .snV 0 dInt a0 (by kernel_rfl) (fun hb1=>?_);refine .lI h0 rfl [0,1,7] (fun i2 s3=>[(8,iE (i2:Int))]) n2 n2 [] (by kernel_rfl) (fun i2 s3 q4 hd6 hi8 h0=>?_);refine .a [] T [(9,dE ((i2:Int)<(a0.length:Int)))] ?_;refine .lc hd6 rfl (by kernel_rfl) (fun x5 q42 hc9 hx5 hd7 hd7l=>?_) (fun hc9=>?_)
 ·subst hc9;obtain⟨y1,h1,hw1,hn1⟩:=forI_cons h0;refine .a [] T [(5,iE (i2:Int))] ?_;refine .a [.cs [.v (.int .i64 x5)]] (A (A (dInt.inv (inB_of hx5) (rfl:(ksInt a0).length=(ksInt a0).length)) (rfl:(ksInt a0).length=(ksInt a0).length)) (A (A (A (dInt.rows a0) (dInt.ixr hx5)) (rfl:(ksInt a0).length=(ksInt a0).length)) T)) [(16,dE (a1=x5))] ?_;refine .jP h1 (fun hc10 h1=>?_) (fun hc10 h1=>?_)
  ·refine .a [] T [(4,iE (i2:Int))] ?_;cases h1;cases hw1 _ rfl;exact .rt hK
  ·refine .a [.v ((i2+1:Nat):Int)] (A (wn (i:=i2) (by omega)) T) [(8,iE ((i2+1:Nat):Int))] ?_;cases h1;exact .nL rfl (i2+1) _ hd7 hd7l (hn1 _ rfl) [] (by kernel_rfl)
 ·subst hc9;have h0:=forI_nil h0;refine .a [] T [(4,iE (-1))] ?_;cases h0;exact .rt hK
def slices_Contains_int_v (n:Nat) (a0:List Int) (a1:Int):Option (Bool):=
 (slices_Index_int_v n a0 a1).bind fun k1=>some (decide (k1≥0))
theorem w_slices_Contains_int_v (n:Nat):∀(a0:List Int) (a1:Int) {r:Bool},slices_Contains_int_v n a0 a1=some r→SCall X.E 96 [.vs (.low 0) 1 ((ksInt a0).length),iE a1] [some (.vec 3 1 (ksInt a0))] (bE r) [.vec 3 1 (ksInt a0)]:=by
 intro a0 a1 r h0;rw[slices_Contains_int_v] at h0;refine .n Tryz.func96 (fun L ks low K hl hL hlen hK=>?_);refine .a [] T [] ?_;obtain⟨k1,hk1,h0⟩:=bnd h0;refine .a [.call [.low 0] (iE k1) [.vec 3 1 (ksInt a0)]] (A (w_slices_Index_int_v n _ _ hk1) T) [(4,dE (k1≥0))] ?_;cases h0;exact .rt hK
theorem w_slices_Clone_int_o (n:Nat):∀(a0:List Int) {r:List Int},slices_Clone_int n a0=some r→SCall X.E 88 [lE 1 (ksInt a0)] [none] (.vs (.low 0) 1 ((ksInt r).length)) [.vec 3 1 (ksInt r)]:=by
 intro a0 r h0;rw[slices_Clone_int] at h0;refine .m Tryz.func88 rfl rfl rfl (by kernel_rfl) (fun L ks low K hl hL hlen hK=>?_);refine .r [] T [] rfl (by kernel_rfl) ?_;refine .nq rfl (by kernel_rfl) rfl rfl (fun e=>?_) ?_
 ·have e:a0=[]:=by cases a0 with
   | nil=>rfl
   | cons x q=>rw[dInt.eq] at e; cases e
  subst e;have e:r=[]:=by simp[apB] at h0; exact h0
  subst e;refine .cB true rfl (by kernel_rfl) ?_;refine .r [] T [(2,fE 1 (ksInt []))] rfl (by kernel_rfl) ?_;refine .kp [2] [] ?_;refine .owV 2 400002 3 [] rfl rfl (by kernel_rfl) ?_;refine .mv 2 400002 0 [] (by kernel_rfl) ?_;exact .ret rfl rfl (by kernel_rfl) hK
 ·refine .cB false rfl (by kernel_rfl) ?_;obtain⟨z1,hz1,h0⟩:=bnd h0;refine .rf [.sv (ksInt []),.mv 7,.sv (ksInt z1)] (A (dInt.lit []) (A (dInt.ap0 hz1) T)) [(2,.vs (.own 100007) 1 (ksInt z1).length)] [.o 100007 (.vec 3 1 (ksInt z1))] rfl (by kernel_rfl) ?_;refine .kp [2] [] ?_;cases h0;refine .mv 2 100007 0 [] (by kernel_rfl) ?_;exact .ret rfl rfl (by kernel_rfl) hK
def im_coreOk:Nat→Core→(List Int)→Int→Int→Option (Bool×Int)
 | 0,_,_,_,_=>none
 | n+1,a0,a1,a2,w0=>Option.bind ((if(w64 (w0-1))<0 then some true else some (decide (a2>120))):Option (Bool)) (fun(o1:Bool)=>(if o1=true then some (false,(w64 (w0-1))) else seqS ((if a0.kind=1 then Option.bind ((im_within n a0.id 1 999).bind fun k22=>(if(!k22)=true then some true else(slices_Contains_int n a1 a0.id).bind fun k24=>some (!k24)):Option (Bool)) (fun(o20:Bool)=>(if o20=true then some (Sum.inl (false,(w64 (w0-1)))) else some (Sum.inr (0,a1,a0.id,[],0,[],0,[],0,[],[])))) else(if a0.kind=2 then(im_NameValid n a0.name).bind fun k26=>(if(!k26)=true then some (Sum.inl (false,(w64 (w0-1)))) else some (Sum.inr (0,a1,0,a0.name,0,[],0,[],0,[],[]))) else(if a0.kind=3 then(im_within n a0.n 0 999).bind fun k29=>(if(!k29)=true then some (Sum.inl (false,(w64 (w0-1)))) else some (Sum.inr (0,a1,0,[],a0.n,[],0,[],0,[],[]))) else(if a0.kind=4 then Option.bind ((im_FormValid n a0.data).bind fun k34=>(if(!k34)=true then some true else(im_ScopesOf n a0.data).bind fun k36=>some (decide ((k36.length:Int)>0))):Option (Bool)) (fun(o32:Bool)=>(if o32=true then some (Sum.inl (false,(w64 (w0-1)))) else some (Sum.inr (0,a1,0,[],0,[],a0.data.kind,a0.data.name,a0.data.n,a0.data.scopes,a0.data.kids)))) else(if a0.kind=5 then(slices_Clone_int n a1).bind fun k38=>seqS (forI (fun(s41:List Int) (i40:Nat) (x43:Int)=>(Option.bind ((im_within n x43 1 999).bind fun k51=>(if(!k51)=true then some true else(slices_Contains_int_v n s41 x43).bind fun k53=>some k53):Option (Bool)) (fun(o48:Bool)=>(if o48=true then some (Sum.inl (Sum.inl (false,(w64 (w0-1))))) else(apB 8 s41 [x43]).bind fun z50=>some (Sum.inr z50))):Option (((Bool×Int)⊕(Int×(List Int)×Int×(List UInt8)×Int×(List Int)×Int×(List UInt8)×Int×(List Int)×(List Form)))⊕(List Int)))) 0 a0.ids k38) (fun(s41:List Int)=>some (Sum.inr (1,s41,0,[],0,a0.ids,0,[],0,[],[]))) else(if a0.kind=6 then some (Sum.inr ((if(a0.kids.length:Int)>1 then(a0.kids.length:Int) else 1),a1,0,[],0,[],0,[],0,[],[])) else(if a0.kind=7 then some (Sum.inr (3,a1,0,[],0,[],0,[],0,[],[])) else some (Sum.inl (false,(w64 (w0-1))))))))))):Option ((Bool×Int)⊕(Int×(List Int)×Int×(List UInt8)×Int×(List Int)×Int×(List UInt8)×Int×(List Int)×(List Form)))) (fun(o3:Int×(List Int)×Int×(List UInt8)×Int×(List Int)×Int×(List UInt8)×Int×(List Int)×(List Form))=>Option.bind ((if ¬(a0.kids.length:Int)=o3.1 then some true else(im_sameCore n a0 (⟨a0.kind,o3.2.2.1,o3.2.2.2.1,o3.2.2.2.2.1,o3.2.2.2.2.2.1,(⟨o3.2.2.2.2.2.2.1,o3.2.2.2.2.2.2.2.1,o3.2.2.2.2.2.2.2.2.1,o3.2.2.2.2.2.2.2.2.2.1,o3.2.2.2.2.2.2.2.2.2.2⟩:Form),a0.kids⟩:Core)).bind fun k18=>some (!k18)):Option (Bool)) (fun(o4:Bool)=>(if o4=true then some (false,(w64 (w0-1))) else seqS (forI (fun(s8:Int) (i7:Nat) (x10:Core)=>((im_coreOk n x10 o3.2.1 (w64 (a2+1)) s8).bind fun k15=>(if(!k15.1)=true then some (Sum.inl (false,k15.2)) else some (Sum.inr k15.2)):Option ((Bool×Int)⊕Int))) 0 a0.kids (w64 (w0-1))) (fun(s8:Int)=>some (true,s8)))))))
theorem w_im_coreOk (n:Nat):∀(a0:Core) (a1:List Int) (a2:Int) (w0:Int) {r:Bool×Int},im_coreOk n a0 a1 a2 w0=some r→SCall X.E 85 [aE (kCore a0),lE 1 (ksInt a1),iE a2,pl 0] [some (.cells [iE w0])] (bE r.1) [.cells [iE r.2]]:=by
 induction n with
 | zero=>intro a0 a1 a2 w0 r h; cases h
 | succ n ih=>
  intro a0 a1 a2 w0 r h0;rw[im_coreOk] at h0;refine .n Tryz.func85 (fun L ks low K hl hL hlen hK=>?_);refine .af [] T [(4,pw 4)] [.o 4 (.cells ((kCore a0).map .d))] ?_;refine .ao [.pl] T [] [.c 0 0 (iE (w64 (w0-1)))] ?_;refine .bP h0 rfl [1,2,3,4] (fun o1=>[(28,bE o1)]) n1 n1 (fun o1 h0=>?_) (fun y1 h1 hj1=>?_)
  ·refine .jT h0 (fun hc2 h0=>?_) (fun hc2 h0=>?_)
   ·refine .a [] T [(8,bE false)] ?_;cases h0;exact .rt hK
   ·refine .af [] T [(9,pw 9),(10,iE 0),(11,lE 1 (ksInt a1))] [.o 9 (.cells [iE a0.kind,iE 0,sE [],iE 0,fE 1 (ksInt []),iE 0,sE [],iE 0,fE 1 (ksInt []),fE 5 (ksForm []),lE 11 (ksCore a0.kids)])] ?_;refine .a [] T [(36,iE a0.kind)] ?_;refine .bSB h0 rfl [2,3,4,9] (fun o3=>[(10,iE o3.1),(11,lE 1 (ksInt o3.2.1))]) (fun o3=>[.o 9 (.cells [iE a0.kind,iE o3.2.2.1,sE o3.2.2.2.1,iE o3.2.2.2.2.1,lE 1 (ksInt o3.2.2.2.2.2.1),iE o3.2.2.2.2.2.2.1,sE o3.2.2.2.2.2.2.2.1,iE o3.2.2.2.2.2.2.2.2.1,lE 1 (ksInt o3.2.2.2.2.2.2.2.2.2.1),lE 5 (ksForm o3.2.2.2.2.2.2.2.2.2.2),lE 11 (ksCore a0.kids)])]) n1 (fun o3 h0=>?_) (fun y1 h1 hj1 hw1=>?_)
    ·refine .bP h0 rfl [2,3,4,11] (fun o4=>[(132,bE o4)]) n1 n1 (fun o4 h0=>?_) (fun y1 h1 hj1=>?_)
     ·refine .jT h0 (fun hc5 h0=>?_) (fun hc5 h0=>?_)
      ·refine .a [] T [(8,bE false)] ?_;cases h0;exact .rt hK
      ·refine .a [.v (a0.kids.length:Int)] (A (dCore.len' a0.kids) T) [(134,lE 11 (ksCore a0.kids)),(135,iE (a0.kids.length:Int)),(136,iE 0)] ?_;refine .sn 134 dCore a0.kids (by kernel_rfl) (fun hb6=>?_);refine .lI h0 rfl [2,3,11,134,135] (fun i7 s8=>[(136,iE (i7:Int))]) n2 (fun i7 s8=>[.c 0 0 (iE s8)]) [] (by kernel_rfl) (fun i7 s8 q9 hd11 hi13 h0=>?_);refine .a [] T [(137,dE ((i7:Int)<(a0.kids.length:Int)))] ?_;refine .lc hd11 rfl (by kernel_rfl) (fun x10 q92 hc14 hx10 hd12 hd12l=>?_) (fun hc14=>?_)
       ·subst hc14;obtain⟨y1,h1,hw1,hn1⟩:=forI_cons h0;refine .af [.cs (kCore x10)] (A (dCore.idn hx10) T) [(15,pw 15)] [.o 15 (.cells ((kCore x10).map .d))] ?_;obtain⟨k15,hk15,h1⟩:=bnd h1;refine .ao [.pl,.call [.low 0] (bE k15.1) [.cells [iE k15.2]]] (A (ih _ _ _ _ hk15) T) [(146,bE (!k15.1))] [.c 0 0 (iE k15.2)] ?_;refine .jT h1 (fun hc16 h1=>?_) (fun hc16 h1=>?_)
        ·refine .a [] T [(8,bE false)] ?_;cases h1;cases hw1 _ rfl;exact .rt hK
        ·refine .a [.v ((i7+1:Nat):Int)] (A (wn (i:=i7) (by omega)) T) [(136,iE ((i7+1:Nat):Int))] ?_;cases h1;refine .kp [2,3,11,134,135,136] [] ?_;refine .dr 15 (by kernel_rfl) ?_;exact .nL rfl (i7+1) _ hd12 hd12l (hn1 _ rfl) [] (by kernel_rfl)
       ·subst hc14;have h0:=forI_nil h0;refine .a [] T [(8,bE true)] ?_;cases h0;exact .rt hK
     ·by_cases g17:¬(a0.kids.length:Int)=o3.1
      ·have h1:=iteP g17 h1;refine .a (.v (a0.kids.length:Int)::(rb 5 true [])) (A (dCore.len' a0.kids) (R 5 (dt g17) T)) [(132,bE true)] ?_;cases h1;exact .lg hj1 []
      ·have h1:=iteN g17 h1;obtain⟨k18,hk18,h1⟩:=bnd h1;refine .a (.v (a0.kids.length:Int)::(rb 3 false [.call [] (bE k18) [],.b false,.b false])) (A (dCore.len' a0.kids) (R 2 (df g17) (A (A (df g17) (w_im_sameCore n _ _ hk18)) (R 2 (df g17) T)))) [(132,bE (!k18))] ?_;cases h1;exact .lg hj1 []
    ·refine .a [] T [(37,dE (a0.kind=1))] ?_;refine .jP h1 (fun hc19 h1=>?_) (fun hc19 h1=>?_)
     ·refine .af [] T [] [.c 9 1 (iE a0.id)] ?_;refine .bP h1 rfl [2,3,4,9,10,11] (fun o20=>[(52,bE o20)]) n1 n1 (fun o20 h1=>?_) (fun y2 h2 hj2=>?_)
      ·refine .jT h1 (fun hc21 h1=>?_) (fun hc21 h1=>?_)
       ·refine .a [] T [(8,bE false)] ?_;cases h1;cases hw1 _ rfl;exact .rt hK
       ·cases h1;refine .fg 9 [4,8,9] ?_;exact .lg (hj1 _ rfl) []
      ·obtain⟨k22,hk22,h2⟩:=bnd h2;by_cases g23:(!k22)=true
       ·have h2:=iteP g23 h2;refine .a (.call [] (bE k22) []::(rb 6 true [])) (A (w_im_within n _ _ _ hk22) (R 6 g23 T)) [(52,bE true)] ?_;cases h2;exact .lg hj2 []
       ·have h2:=iteN g23 h2;obtain⟨k24,hk24,h2⟩:=bnd h2;refine .a (.call [] (bE k22) []::(rb 4 false [.call [] (bE k24) [],.b false,.b false])) (A (w_im_within n _ _ _ hk22) (R 3 (Bool.eq_false_iff.2 g23) (A (A (Bool.eq_false_iff.2 g23) (w_slices_Contains_int n _ _ hk24)) (R 2 (Bool.eq_false_iff.2 g23) T)))) [(52,bE (!k24))] ?_;cases h2;exact .lg hj2 []
     ·refine .a [] T [(53,dE (a0.kind=2))] ?_;refine .jP h1 (fun hc25 h1=>?_) (fun hc25 h1=>?_)
      ·refine .af [] T [] [.c 9 2 (sE a0.name)] ?_;obtain⟨k26,hk26,h1⟩:=bnd h1;refine .a [.call [] (bE k26) []] (A (w_im_NameValid n _ hk26) T) [(61,bE (!k26))] ?_;refine .jT h1 (fun hc27 h1=>?_) (fun hc27 h1=>?_)
       ·refine .a [] T [(8,bE false)] ?_;cases h1;cases hw1 _ rfl;exact .rt hK
       ·cases h1;refine .fg 9 [4,8,9] ?_;exact .lg (hj1 _ rfl) []
      ·refine .a [] T [(62,dE (a0.kind=3))] ?_;refine .jP h1 (fun hc28 h1=>?_) (fun hc28 h1=>?_)
       ·refine .af [] T [] [.c 9 3 (iE a0.n)] ?_;obtain⟨k29,hk29,h1⟩:=bnd h1;refine .a [.call [] (bE k29) []] (A (w_im_within n _ _ _ hk29) T) [(70,bE (!k29))] ?_;refine .jT h1 (fun hc30 h1=>?_) (fun hc30 h1=>?_)
        ·refine .a [] T [(8,bE false)] ?_;cases h1;cases hw1 _ rfl;exact .rt hK
        ·cases h1;refine .fg 9 [4,8,9] ?_;exact .lg (hj1 _ rfl) []
       ·refine .a [] T [(71,dE (a0.kind=4))] ?_;refine .jP h1 (fun hc31 h1=>?_) (fun hc31 h1=>?_)
        ·refine .af [] T [] [.c 9 5 (iE a0.data.kind),.c 9 6 (sE a0.data.name),.c 9 7 (iE a0.data.n),.c 9 8 (lE 1 (ksInt a0.data.scopes)),.c 9 9 (lE 5 (ksForm a0.data.kids))] ?_;refine .bP h1 rfl [2,3,4,9,10,11] (fun o32=>[(86,bE o32)]) n1 n1 (fun o32 h1=>?_) (fun y2 h2 hj2=>?_)
         ·refine .jT h1 (fun hc33 h1=>?_) (fun hc33 h1=>?_)
          ·refine .a [] T [(8,bE false)] ?_;cases h1;cases hw1 _ rfl;exact .rt hK
          ·cases h1;refine .fg 9 [4] ?_;exact .lg (hj1 _ rfl) []
         ·obtain⟨k34,hk34,h2⟩:=bnd h2;by_cases g35:(!k34)=true
          ·have h2:=iteP g35 h2;refine .a (.call [] (bE k34) []::(rb 6 true [])) (A (w_im_FormValid n _ hk34) (R 6 g35 T)) [(86,bE true)] ?_;cases h2;exact .lg hj2 []
          ·have h2:=iteN g35 h2;obtain⟨k36,hk36,h2⟩:=bnd h2;refine .a (.call [] (bE k34) []::(rb 3 false [.call [] (lE 1 (ksInt k36)) [],.b false,.v (k36.length:Int),.b false,.b false])) (A (w_im_FormValid n _ hk34) (R 2 (Bool.eq_false_iff.2 g35) (A (A (Bool.eq_false_iff.2 g35) (w_im_ScopesOf n _ hk36)) (A (A (Bool.eq_false_iff.2 g35) (dInt.len' k36)) (R 2 (Bool.eq_false_iff.2 g35) T))))) [(86,dE ((k36.length:Int)>0))] ?_;cases h2;exact .lg hj2 []
        ·refine .a [] T [(87,dE (a0.kind=5))] ?_;refine .jP h1 (fun hc37 h1=>?_) (fun hc37 h1=>?_)
         ·refine .af [] T [(10,iE 1)] [.c 9 4 (lE 1 (ksInt a0.ids))] ?_;obtain⟨k38,hk38,h1⟩:=bnd h1;refine .af [.call [.own 300930] (.vs (.low 0) 1 ((ksInt k38).length)) [.vec 3 1 (ksInt k38)]] (A (w_slices_Clone_int_o n _ hk38) T) [(11,.vs (.own 300930) 1 ((ksInt k38).length))] [.o 300930 (.vec 3 1 (ksInt k38))] ?_;refine .a [.v (a0.ids.length:Int)] (A (dInt.len' a0.ids) T) [(95,lE 1 (ksInt a0.ids)),(96,iE (a0.ids.length:Int)),(97,iE 0)] ?_;refine .sn 95 dInt a0.ids (by kernel_rfl) (fun hb39=>?_);refine .lI h1 rfl [2,3,4,9,10,95,96] (fun i40 s41=>[(11,.vs (.own 300930) 1 ((ksInt s41).length)),(97,iE (i40:Int))]) (fun i40 s41=>[.o 300930 (.vec 3 1 (ksInt s41))]) n2 [] (by kernel_rfl) (fun i40 s41 q42 hd44 hi46 h1=>?_);refine .a [] T [(98,dE ((i40:Int)<(a0.ids.length:Int)))] ?_;refine .lc hd44 rfl (by kernel_rfl) (fun x43 q422 hc47 hx43 hd45 hd45l=>?_) (fun hc47=>?_)
          ·subst hc47;obtain⟨y2,h2,hw2,hn2⟩:=forI_cons h1;refine .a [.cs [.v (.int .i64 x43)]] (A (dInt.idn hx43) T) [(13,iE x43)] ?_;refine .bP h2 rfl [2,3,4,9,10,11,13,95,96,97] (fun o48=>[(108,bE o48)]) n1 n1 (fun o48 h2=>?_) (fun y3 h3 hj3=>?_)
           ·refine .jT h2 (fun hc49 h2=>?_) (fun hc49 h2=>?_)
            ·refine .a [] T [(8,bE false)] ?_;cases h2;cases hw2 _ rfl;cases hw1 _ rfl;exact .rt hK
            ·obtain⟨z50,hz50,h2⟩:=bnd h2;refine .af [.sv (ksInt [x43]),.sv (ksInt z50)] (A (dInt.lit [x43]) (A (A (dInt.ap hz50) (rfl:(ksInt s41).length=(ksInt s41).length)) T)) [(11,.vs (.own 300930) 1 ((ksInt z50).length))] [.o 300930 (.vec 3 1 (ksInt z50))] ?_;refine .a [.v ((i40+1:Nat):Int)] (A (wn (i:=i40) (by omega)) T) [(97,iE ((i40+1:Nat):Int))] ?_;cases h2;exact .nL rfl (i40+1) _ hd45 hd45l (hn2 _ rfl) [] (by kernel_rfl)
           ·obtain⟨k51,hk51,h3⟩:=bnd h3;by_cases g52:(!k51)=true
            ·have h3:=iteP g52 h3;refine .a (.call [] (bE k51) []::(rb 4 true [])) (A (w_im_within n _ _ _ hk51) (R 4 g52 T)) [(108,bE true)] ?_;cases h3;exact .lg hj3 []
            ·have h3:=iteN g52 h3;obtain⟨k53,hk53,h3⟩:=bnd h3;refine .a (.call [] (bE k51) []::(rb 3 false [.call [.own 300930] (bE k53) [.vec 3 1 (ksInt s41)],.b false])) (A (w_im_within n _ _ _ hk51) (R 2 (Bool.eq_false_iff.2 g52) (A (A (Bool.eq_false_iff.2 g52) (w_slices_Contains_int_v n _ _ hk53)) (A (Bool.eq_false_iff.2 g52) T)))) [(108,bE k53)] ?_;cases h3;exact .lg hj3 []
          ·subst hc47;have h1:=forI_nil h1;cases h1;refine .kp [2,3,4,9,10,11] [] ?_;refine .ft 11 300930 [2,3,4,9,10] dInt s41 (rfl:(ksInt s41).length=(ksInt s41).length) (by kernel_rfl) ?_;refine .fg 9 [8,9] ?_;exact .lg (hj1 _ rfl) []
         ·refine .a [] T [(114,dE (a0.kind=6))] ?_;refine .jP h1 (fun hc54 h1=>?_) (fun hc54 h1=>?_)
          ·refine .a [.v (a0.kids.length:Int)] (A (dCore.len' a0.kids) T) [(10,iE (if(a0.kids.length:Int)>1 then(a0.kids.length:Int) else 1)),(117,lE 11 (ksCore a0.kids))] ?_;refine .sn 117 dCore a0.kids (by kernel_rfl) (fun hb55=>?_);cases h1;refine .fg 9 [4,8,9] ?_;exact .lg (hj1 _ rfl) []
          ·refine .a [] T [(120,dE (a0.kind=7))] ?_;refine .jP h1 (fun hc56 h1=>?_) (fun hc56 h1=>?_)
           ·refine .a [] T [(10,iE 3)] ?_;cases h1;refine .fg 9 [4,8,9] ?_;exact .lg (hj1 _ rfl) []
           ·refine .a [] T [(8,bE false)] ?_;cases h1;cases hw1 _ rfl;exact .rt hK
  ·by_cases g57:(w64 (w0-1))<0
   ·have h1:=iteP g57 h1;refine .a (rb 3 true []) (R 3 (dt g57) T) [(28,bE true)] ?_;cases h1;exact .lg hj1 []
   ·have h1:=iteN g57 h1;refine .a (rb 3 false []) (R 3 (df g57) T) [(28,dE (a2>120))] ?_;cases h1;exact .lg hj1 []
def im_CoreValid (n:Nat) (a0:Core):Option (Bool):=
 (im_coreOk n a0 [] 1 600).bind fun k1=>some k1.1
theorem w_im_CoreValid (n:Nat):∀(a0:Core) {r:Bool},im_CoreValid n a0=some r→SCall X.E 66 [aE (kCore a0)] [] (bE r) []:=by
 intro a0 r h0;rw[im_CoreValid] at h0;refine .n Tryz.func66 (fun L ks low K hl hL hlen hK=>?_);refine .af [] T [(1,pw 1)] [.o 1 (.cells ((kCore a0).map .d))] ?_;refine .af [] T [(3,pw 3)] [.o 3 (.cells [iE 600])] ?_;obtain⟨k1,hk1,h0⟩:=bnd h0;refine .af [.call [.own 3] (bE k1.1) [.cells [iE k1.2]]] (A (w_im_coreOk n _ _ _ _ hk1) T) [(2,bE k1.1)] [.c 3 0 (iE k1.2)] ?_;cases h0;exact .rt hK
theorem numbered_call (s l:List UInt8) (hs:s.length≤9223372036854775807):SCall X.E 68 [sE s,sE l] [] (bE (numB s l)) []:=by
 refine SCall.of_grow (vs:=[.string (mkS s),.string (mkS l)]) Tryz.func68 rfl rfl (fun _=>rfl) (fun _=>rfl) (fun cx st w hr=>?_);obtain⟨v4,e4,z4,b4,tp,x,p4⟩:=hr.gblock (g:=1) rfl;obtain⟨v8,e8,z8,b8,p8⟩:=hr.gblock (g:=3) rfl;refine numbered_raw s l w hs tp x (by simp only[World.cell?,b4]; simpa using p4) (by unfold Lib.TabIs World.var?; rw[glob8]; simp only[Option.bind_some,b8,p8]) (Array.getElem?_eq_some_iff.1 b8).1
def im_numbered (n:Nat) (a0:List UInt8) (a1:List UInt8):Option Bool:=if a0.length≤9223372036854775807 then some (numB a0 a1) else none
theorem w_im_numbered (n:Nat):∀(a0:List UInt8) (a1:List UInt8) {r:Bool},im_numbered n a0 a1=some r→SCall X.E 68 [sE a0,sE a1] [] (bE r) []:=by
 intro a0 a1 r h0;rw[im_numbered] at h0;split at h0
 ·rename_i hs; cases h0; exact numbered_call a0 a1 hs
 ·cases h0
def im_VarPrefix_1 (n:Nat) (a0:List UInt8) (w0:Int):Option (Bool):=
 (im_numbered n a0 (rn w0)).bind fun k1=>some k1
theorem w_im_VarPrefix_1 (n:Nat):∀(a0:List UInt8) (w0:Int) {r:Bool},im_VarPrefix_1 n a0 w0=some r→SCall X.E 67 [sE a0,pl 0] [some (.cells [.d (.v (.int .i32 w0))])] (bE r) [.cells [.d (.v (.int .i32 w0))]]:=by
 intro a0 w0 r h0;rw[im_VarPrefix_1] at h0;refine .n Tryz.func67 (fun L ks low K hl hL hlen hK=>?_);refine .a [] T [] ?_;obtain⟨k1,hk1,h0⟩:=bnd h0;refine .a [.call [] (bE k1) []] (A (w_im_numbered n _ _ hk1) T) [(3,bE k1)] ?_;cases h0;exact .rt hK
def slices_IndexFunc_string__im_VarPrefix_1 (n:Nat) (a0:List (List UInt8)) (w0:Int):Option (Int):=
 seqS (forI (fun(s3:Unit) (i2:Nat) (x5:List UInt8)=>((im_VarPrefix_1 n x5 w0).bind fun k10=>(if k10=true then some (Sum.inl (i2:Int)) else some (Sum.inr ())):Option (Int⊕Unit))) 0 a0 ()) (fun(s3:Unit)=>some (-1))
theorem w_slices_IndexFunc_string__im_VarPrefix_1 (n:Nat):∀(a0:List (List UInt8)) (w0:Int) {r:Int},slices_IndexFunc_string__im_VarPrefix_1 n a0 w0=some r→SCall X.E 69 [lE 1 (ksStr a0),.clo 67 [] [pl 0]] [some (.cells [.d (.v (.int .i32 w0))])] (iE r) [.cells [.d (.v (.int .i32 w0))]]:=by
 intro a0 w0 r h0;rw[slices_IndexFunc_string__im_VarPrefix_1] at h0;refine .n Tryz.func69 (fun L ks low K hl hL hlen hK=>?_);refine .a [] T [] ?_;refine .a [.v (a0.length:Int)] (A (dStr.len' a0) T) [(7,iE (a0.length:Int)),(8,iE 0)] ?_;refine .sn 0 dStr a0 (by kernel_rfl) (fun hb1=>?_);refine .lI h0 rfl [0,1,7] (fun i2 s3=>[(8,iE (i2:Int))]) n2 n2 [] (by kernel_rfl) (fun i2 s3 q4 hd6 hi8 h0=>?_);refine .a [] T [(9,dE ((i2:Int)<(a0.length:Int)))] ?_;refine .lc hd6 rfl (by kernel_rfl) (fun x5 q42 hc9 hx5 hd7 hd7l=>?_) (fun hc9=>?_)
 ·subst hc9;obtain⟨y1,h1,hw1,hn1⟩:=forI_cons h0;refine .a [] T [(5,iE (i2:Int))] ?_;obtain⟨k10,hk10,h1⟩:=bnd h1;refine .a [.cs [.s x5],.call [.low 0] (bE k10) [.cells [.d (.v (.int .i32 w0))]]] (A (dStr.idn hx5) (A (w_im_VarPrefix_1 n _ _ hk10) T)) [(16,bE k10)] ?_;refine .jT h1 (fun hc11 h1=>?_) (fun hc11 h1=>?_)
  ·refine .a [] T [(4,iE (i2:Int))] ?_;cases h1;cases hw1 _ rfl;exact .rt hK
  ·refine .a [.v ((i2+1:Nat):Int)] (A (wn (i:=i2) (by omega)) T) [(8,iE ((i2+1:Nat):Int))] ?_;cases h1;exact .nL rfl (i2+1) _ hd7 hd7l (hn1 _ rfl) [] (by kernel_rfl)
 ·subst hc9;have h0:=forI_nil h0;refine .a [] T [(4,iE (-1))] ?_;cases h0;exact .rt hK
def slices_ContainsFunc_string__im_VarPrefix_1 (n:Nat) (a0:List (List UInt8)) (w0:Int):Option (Bool):=
 (slices_IndexFunc_string__im_VarPrefix_1 n a0 w0).bind fun k1=>some (decide (k1≥0))
theorem w_slices_ContainsFunc_string__im_VarPrefix_1 (n:Nat):∀(a0:List (List UInt8)) (w0:Int) {r:Bool},slices_ContainsFunc_string__im_VarPrefix_1 n a0 w0=some r→SCall X.E 31 [lE 1 (ksStr a0),.clo 67 [] [pl 0]] [some (.cells [.d (.v (.int .i32 w0))])] (bE r) [.cells [.d (.v (.int .i32 w0))]]:=by
 intro a0 w0 r h0;rw[slices_ContainsFunc_string__im_VarPrefix_1] at h0;refine .n Tryz.func31 (fun L ks low K hl hL hlen hK=>?_);refine .a [] T [] ?_;obtain⟨k1,hk1,h0⟩:=bnd h0;refine .a [.call [.low 0] (iE k1) [.cells [.d (.v (.int .i32 w0))]]] (A (w_slices_IndexFunc_string__im_VarPrefix_1 n _ _ hk1) T) [(4,dE (k1≥0))] ?_;cases h0;exact .rt hK
def im_VarPrefix (n:Nat) (a0:Core):Option ((List UInt8)×Bool):=
 (im_CoreValid n a0).bind fun k1=>(if(!k1)=true then some ([],false) else(im_FreeOf n a0).bind fun k3=>iterM n (fun(s4:Int)=>((if s4≤122 then(slices_ContainsFunc_string__im_VarPrefix_1 n k3 s4).bind fun k7=>(if(!k7)=true then some (Sum.inl ((rn s4),true)) else some (Sum.inr (IntKind.i32.wrap (s4+1)))) else some (Sum.inl ([],false))):Option (((List UInt8)×Bool)⊕Int))) 97)
theorem w_im_VarPrefix (n:Nat):∀(a0:Core) {r:(List UInt8)×Bool},im_VarPrefix n a0=some r→SCall X.E 30 [aE (kCore a0)] [] (.tup [sE r.1,bE r.2]) []:=by
 intro a0 r h0;rw[im_VarPrefix] at h0;refine .n Tryz.func30 (fun L ks low K hl hL hlen hK=>?_);refine .af [] T [(1,pw 1)] [.o 1 (.cells ((kCore a0).map .d))] ?_;obtain⟨k1,hk1,h0⟩:=bnd h0;refine .a [.call [] (bE k1) []] (A (w_im_CoreValid n _ hk1) T) [(8,bE (!k1))] ?_;refine .jT h0 (fun hc2 h0=>?_) (fun hc2 h0=>?_)
 ·refine .a [] T [(2,sE []),(3,bE false)] ?_;cases h0;exact .rt hK
 ·obtain⟨k3,hk3,h0⟩:=bnd h0;refine .a [.call [] (lE 1 (ksStr k3)) []] (A (w_im_FreeOf n _ hk3) T) [(4,lE 1 (ksStr k3))] ?_;refine .af [] T [(5,pw 5)] [.o 5 (.cells [.d (.v (.int .i32 97))])] ?_;refine .it h0 rfl [4,5] (fun s4=>[]) (fun s4=>[.c 5 0 (.d (.v (.int .i32 s4)))]) n1 [] (by kernel_rfl) (fun nk5 s4 h0=>?_);obtain⟨y1,h1,hw1,hn1⟩:=iter_cons h0;refine .a [] T [(12,dE (s4≤122))] ?_;refine .jP h1 (fun hc6 h1=>?_) (fun hc6 h1=>?_)
  ·obtain⟨k7,hk7,h1⟩:=bnd h1;refine .a [.call [.own 5] (bE k7) [.cells [.d (.v (.int .i32 s4))]]] (A (w_slices_ContainsFunc_string__im_VarPrefix_1 n _ _ hk7) T) [(18,bE (!k7))] ?_;refine .jT h1 (fun hc8 h1=>?_) (fun hc8 h1=>?_)
   ·refine .a [] T [(2,sE (rn s4)),(3,bE true)] ?_;cases h1;cases hw1 _ rfl;exact .rt hK
   ·refine .a [] T [(21,.d (.v (.int .i32 s4)))] ?_;refine .kp [4,21] [] ?_;refine .dr 5 (by kernel_rfl) ?_;refine .af [] T [(5,pw 5)] [.o 5 (.cells [.d (.v (.int .i32 s4))])] ?_;refine .af [.pl] T [] [.c 5 0 (.d (.v (.int .i32 (IntKind.i32.wrap (s4+1)))))] ?_;cases h1;exact .nI rfl _ (hn1 _ rfl) [] (by kernel_rfl)
  ·refine .a [] T [(2,sE []),(3,bE false)] ?_;cases h1;cases hw1 _ rfl;exact .rt hK
def im_copyForm:Nat→Form→Option (Form)
 | 0,_=>none
 | n+1,a0=>(slices_Clone_int n a0.scopes).bind fun k1=>Option.bind (forL (fun(s4:List Form) (i3:Nat) (x6:Form)=>(im_copyForm n x6).bind fun k11=>(apB 80 s4 [k11]).bind fun z12=>some z12) 0 a0.kids []) (fun(s4:List Form)=>some (⟨a0.kind,a0.name,a0.n,k1,s4⟩:Form))
theorem w_im_copyForm (n:Nat):∀(a0:Form) {r:Form},im_copyForm n a0=some r→SCall X.E 72 [aE (kForm a0)] [] (aE (kForm r)) []:=by
 induction n with
 | zero=>intro a0 r h; cases h
 | succ n ih=>
  intro a0 r h0;rw[im_copyForm] at h0;refine .n Tryz.func72 (fun L ks low K hl hL hlen hK=>?_);refine .af [] T [(1,pw 1),(2,pw 2)] [.o 1 (.cells ((kForm a0).map .d)),.o 2 (.cells [iE 0,sE [],iE 0,fE 1 (ksInt []),fE 5 (ksForm [])])] ?_;obtain⟨k1,hk1,h0⟩:=bnd h0;refine .ad mixed [(8,[.call [] (lE 1 (ksInt k1)) []])] [] (A (w_slices_Clone_int n _ hk1) T) [(3,pw 3)] [.o 3 (.cells [iE a0.kind,sE a0.name,iE a0.n,lE 1 (ksInt k1),fE 5 (ksForm [])])] [] ?_;refine .a [.v (a0.kids.length:Int)] (A (dForm.len' a0.kids) T) [(17,lE 5 (ksForm a0.kids)),(18,iE (a0.kids.length:Int)),(19,iE 0)] ?_;refine .sn 17 dForm a0.kids (by kernel_rfl) (fun hb2=>?_);refine .oc 3 4 100028 32 (by kernel_rfl) ?_;refine .lL h0 rfl [2,3,17,18] (fun i3 s4=>[(19,iE (i3:Int))]) (fun i3 s4=>[.c 3 4 (.gs (.own 100028) 5 (ksForm s4)),.o 100028 (.tok (ksForm s4).length 32)]) n2 [] (by kernel_rfl) (fun i3 s4 q5 hd7 hi9 h0=>?_);refine .a [] T [(20,dE ((i3:Int)<(a0.kids.length:Int)))] ?_;refine .lc hd7 rfl (by kernel_rfl) (fun x6 q52 hc10 hx6 hd8 hd8l=>?_) (fun hc10=>?_)
  ·subst hc10;obtain⟨y1,h1,hn1⟩:=forL_cons h0;refine .af [.cs (kForm x6)] (A (dForm.idn hx6) T) [(5,pw 5)] [.o 5 (.cells ((kForm x6).map .d))] ?_;obtain⟨k11,hk11,h1⟩:=bnd h1;obtain⟨z12,hz12,h1⟩:=bnd h1;refine .ad mixed [(3,[.call [] (aE (kForm k11)) []]),(4,[.sv (ksForm [k11])]),(5,[.sv (ksForm z12)])] [((ksForm s4).length:Int)] (A (ih _ hk11) (A (dForm.lit [k11]) (A (dForm.ap hz12) T))) [] [.c 3 4 (.gs (.own 100028) 5 (ksForm z12)),.o 100028 (.tok (ksForm z12).length 32)] [] ?_;refine .a [.v ((i3+1:Nat):Int)] (A (wn (i:=i3) (by omega)) T) [(19,iE ((i3+1:Nat):Int))] ?_;cases h1;refine .kp [2,3,17,18,19] [] ?_;refine .dr 5 (by kernel_rfl) ?_;exact .nL rfl (i3+1) _ hd8 hd8l hn1 [] (by kernel_rfl)
  ·subst hc10;have h0:=forL_nil h0;refine .af [] T [] [.o 2 (.cells [iE a0.kind,sE a0.name,iE a0.n,lE 1 (ksInt k1),.gs (.own 100028) 5 (ksForm s4)])] ?_;cases h0;exact .rt hK
def im_formOr (n:Nat) (a0:Form):Option (Form×Bool):=
 (im_FormValid n a0).bind fun k1=>(if(!k1)=true then some ((⟨0,[],0,[],[]⟩:Form),false) else(im_copyForm n a0).bind fun k3=>some (k3,true))
theorem w_im_formOr (n:Nat):∀(a0:Form) {r:Form×Bool},im_formOr n a0=some r→SCall X.E 34 [aE (kForm a0)] [] (.tup [aE (kForm r.1),bE r.2]) []:=by
 intro a0 r h0;rw[im_formOr] at h0;refine .n Tryz.func34 (fun L ks low K hl hL hlen hK=>?_);refine .af [] T [(1,pw 1),(2,pw 2)] [.o 1 (.cells ((kForm a0).map .d)),.o 2 (.cells [iE 0,sE [],iE 0,fE 1 (ksInt []),fE 5 (ksForm [])])] ?_;obtain⟨k1,hk1,h0⟩:=bnd h0;refine .a [.call [] (bE k1) []] (A (w_im_FormValid n _ hk1) T) [(6,bE (!k1))] ?_;refine .jT h0 (fun hc2 h0=>?_) (fun hc2 h0=>?_)
 ·refine .a [] T [(3,bE false)] ?_;cases h0;exact .rt hK
 ·obtain⟨k3,hk3,h0⟩:=bnd h0;refine .af [.call [] (aE (kForm k3)) []] (A (w_im_copyForm n _ hk3) T) [(3,bE true)] [.o 2 (.cells ((kForm k3).map .d))] ?_;cases h0;exact .rt hK
def im_list (n:Nat) (a0:List Form):Option (Form):=
 some (⟨3,[],0,[],a0⟩:Form)
theorem w_im_list (n:Nat):∀(a0:List Form) {r:Form},im_list n a0=some r→SCall X.E 76 [lE 5 (ksForm a0)] [] (aE (kForm r)) []:=by
 intro a0 r h0;rw[im_list] at h0;refine .n Tryz.func76 (fun L ks low K hl hL hlen hK=>?_);refine .af [] T [(2,pw 2)] [.o 2 (.cells [iE 0,sE [],iE 0,fE 1 (ksInt []),fE 5 (ksForm [])])] ?_;refine .af [] T [] [.c 2 0 (iE 3),.c 2 4 (lE 5 (ksForm a0))] ?_;cases h0;exact .rt hK
def im_nameForm (n:Nat) (a0:List UInt8) (a1:List Int):Option (Form):=
 (slices_Clone_int n a1).bind fun k1=>some (⟨1,a0,0,k1,[]⟩:Form)
theorem w_im_nameForm (n:Nat):∀(a0:List UInt8) (a1:List Int) {r:Form},im_nameForm n a0 a1=some r→SCall X.E 74 [sE a0,lE 1 (ksInt a1)] [] (aE (kForm r)) []:=by
 intro a0 a1 r h0;rw[im_nameForm] at h0;refine .n Tryz.func74 (fun L ks low K hl hL hlen hK=>?_);refine .af [] T [(4,pw 4)] [.o 4 (.cells [iE 0,sE [],iE 0,fE 1 (ksInt []),fE 5 (ksForm [])])] ?_;obtain⟨k1,hk1,h0⟩:=bnd h0;refine .af [.call [] (lE 1 (ksInt k1)) []] (A (w_slices_Clone_int n _ hk1) T) [] [.c 4 0 (iE 1),.c 4 1 (sE a0),.c 4 3 (lE 1 (ksInt k1))] ?_;cases h0;exact .rt hK
theorem itoa_call (i:Int) (h0:-9223372036854775808≤i) (h1:i≤9223372036854775807):SCall X.E 75 [iE i] [] (sE (Lib.itoa i)) []:=by
 refine SCall.of_grow (vs:=[.int .i64 i]) Tryz.func75 rfl rfl (fun _=>rfl) (fun _=>rfl) (fun cx st w hr=>?_);obtain⟨v8,e8,z8,b8,p8⟩:=hr.gblock (g:=3) rfl;refine(Tryz.strconv_Itoa i h0 h1 w (by unfold Lib.TabIs World.var?; rw[glob8]; simp only[Option.bind_some,b8,p8])).mono ?_;rintro e w' ⟨rfl,k,os,rfl⟩;exact⟨rfl,bgN _ _ _⟩
def strconv_Itoa (n:Nat) (a0:Int):Option (List UInt8):=if -9223372036854775808≤a0∧a0≤9223372036854775807 then some (Lib.itoa a0) else none
theorem w_strconv_Itoa (n:Nat):∀(a0:Int) {r:List UInt8},strconv_Itoa n a0=some r→SCall X.E 75 [iE a0] [] (sE r) []:=by
 intro a0 r h0;rw[strconv_Itoa] at h0;split at h0
 ·rename_i hs; cases h0; exact itoa_call a0 hs.1 hs.2
 ·cases h0
def im_uncore_1 (n:Nat) (a0:Int) (w0:List UInt8):Option (Form):=
 (strconv_Itoa n a0).bind fun k1=>(catS w0 k1).bind fun z2=>(im_nameForm n z2 []).bind fun k3=>some k3
theorem w_im_uncore_1 (n:Nat):∀(a0:Int) (w0:List UInt8) {r:Form},im_uncore_1 n a0 w0=some r→SCall X.E 73 [iE a0,pl 0] [some (.cells [sE w0])] (aE (kForm r)) [.cells [sE w0]]:=by
 intro a0 w0 r h0;rw[im_uncore_1] at h0;refine .n Tryz.func73 (fun L ks low K hl hL hlen hK=>?_);refine .af [] T [(3,pw 3)] [.o 3 (.cells [iE 0,sE [],iE 0,fE 1 (ksInt []),fE 5 (ksForm [])])] ?_;obtain⟨k1,hk1,h0⟩:=bnd h0;obtain⟨z2,hz2,h0⟩:=bnd h0;obtain⟨k3,hk3,h0⟩:=bnd h0;refine .ad mixed [(2,[.call [] (sE k1) []]),(3,[.st z2]),(4,[.call [] (aE (kForm k3)) []])] [] (A (w_strconv_Itoa n _ hk1) (A (cat_ok hz2) (A (w_im_nameForm n _ _ hk3) T))) [] [.o 3 (.cells ((kForm k3).map .d))] [] ?_;cases h0;exact .rt hK
theorem w_im_listz:SCall X.E 76 [nE] [] (.agg [iE 3,sE [],iE 0,fE 1 (ksInt []),fE 5 (ksForm [])]) []:=by
 refine .n Tryz.func76 (fun L ks low K hl hL hlen hK=>?_);refine .nl 0 5 rfl ?_;refine .af [] T [(2,pw 2)] [.o 2 (.cells [iE 0,sE [],iE 0,fE 1 (ksInt []),fE 5 (ksForm [])])] ?_;refine .af [] T [] [.c 2 0 (iE 3),.c 2 4 (fE 5 (ksForm []))] ?_;exact .retX rfl rfl (by kernel_rfl) hK
def im_uncore:Nat→Core→(List UInt8)→Option (Form)
 | 0,_,_=>none
 | n+1,a0,a1=>Option.bind (forL (fun(s3:List Form) (i2:Nat) (x5:Core)=>(im_uncore n x5 a1).bind fun k10=>(apB 80 s3 [k10]).bind fun z11=>some z11) 0 a0.kids []) (fun(s3:List Form)=>seqS ((if a0.kind=1 then(im_uncore_1 n a0.id a1).bind fun k15=>some (Sum.inl k15) else(if a0.kind=2 then(im_nameForm n a0.name []).bind fun k17=>some (Sum.inl k17) else(if a0.kind=3 then some (Sum.inl (⟨2,[],a0.n,[],[]⟩:Form)) else(if a0.kind=4 then(im_nameForm n [113,117,111,116,101] []).bind fun k20=>(im_copyForm n a0.data).bind fun k21=>(im_list n [k20,k21]).bind fun k22=>some (Sum.inl k22) else(if a0.kind=5 then Option.bind (forL (fun(s26:List Form) (i25:Nat) (x28:Int)=>(im_uncore_1 n x28 a1).bind fun k33=>(apB 80 s26 [k33]).bind fun z34=>some z34) 0 a0.ids []) (fun(s26:List Form)=>(im_nameForm n [108,97,109,98,100,97] []).bind fun k35=>(atI s3 0).bind fun e36=>(im_list n [k35,(⟨3,[],0,[],s26⟩:Form),e36]).bind fun k37=>some (Sum.inl k37)) else(if a0.kind=7 then(im_nameForm n [105,102] []).bind fun k39=>(apB 80 [k39] s3).bind fun z40=>some (Sum.inr z40) else some (Sum.inr s3))))))):Option (Form⊕(List Form))) (fun(o12:List Form)=>(im_list n o12).bind fun k13=>some k13))
theorem w_im_uncore (n:Nat):∀(a0:Core) (a1:List UInt8) {r:Form},im_uncore n a0 a1=some r→SCall X.E 35 [aE (kCore a0),sE a1] [] (aE (kForm r)) []:=by
 induction n with
 | zero=>intro a0 a1 r h; cases h
 | succ n ih=>
  intro a0 a1 r h0;rw[im_uncore] at h0;refine .n Tryz.func35 (fun L ks low K hl hL hlen hK=>?_);refine .af [] T [(2,pw 2),(3,pw 3),(4,pw 4)] [.o 2 (.cells ((kCore a0).map .d)),.o 3 (.cells [sE a1]),.o 4 (.cells [iE 0,sE [],iE 0,fE 1 (ksInt []),fE 5 (ksForm [])])] ?_;refine .a [] T [(5,.clo 73 [] [pw 3])] ?_;refine .a [.sv (ksForm [])] (A (dForm.lit []) T) [(6,fE 5 (ksForm []))] ?_;refine .a [.v (a0.kids.length:Int)] (A (dCore.len' a0.kids) T) [(15,lE 11 (ksCore a0.kids)),(16,iE (a0.kids.length:Int)),(17,iE 0)] ?_;refine .sn 15 dCore a0.kids (by kernel_rfl) (fun hb1=>?_);refine .ow 6 100026 32 [2,3,4,5,15,16,17] rfl rfl (by kernel_rfl) ?_;refine .lL h0 rfl [2,3,4,5,15,16] (fun i2 s3=>[(6,.gs (.own 100026) 5 (ksForm s3)),(17,iE (i2:Int))]) (fun i2 s3=>[.o 100026 (.tok (ksForm s3).length 32)]) n2 [] (by kernel_rfl) (fun i2 s3 q4 hd6 hi8 h0=>?_);refine .a [] T [(18,dE ((i2:Int)<(a0.kids.length:Int)))] ?_;refine .lc hd6 rfl (by kernel_rfl) (fun x5 q42 hc9 hx5 hd7 hd7l=>?_) (fun hc9=>?_)
  ·subst hc9;obtain⟨y1,h1,hn1⟩:=forL_cons h0;refine .af [.cs (kCore x5)] (A (dCore.idn hx5) T) [(8,pw 8)] [.o 8 (.cells ((kCore x5).map .d))] ?_;obtain⟨k10,hk10,h1⟩:=bnd h1;obtain⟨z11,hz11,h1⟩:=bnd h1;refine .aq [.call [] (aE (kForm k10)) [],.sv (ksForm [k10]),.sv (ksForm z11)] [((ksForm s3).length:Int)] (A (ih _ _ hk10) (A (dForm.lit [k10]) (A (dForm.ap hz11) T))) [(6,.gs (.own 100026) 5 (ksForm z11))] [.o 100026 (.tok (ksForm z11).length 32)] [] ?_;refine .a [.v ((i2+1:Nat):Int)] (A (wn (i:=i2) (by omega)) T) [(17,iE ((i2+1:Nat):Int))] ?_;cases h1;refine .kp [2,3,4,5,6,15,16,17] [] ?_;refine .dr 8 (by kernel_rfl) ?_;exact .nL rfl (i2+1) _ hd7 hd7l hn1 [] (by kernel_rfl)
  ·subst hc9;have h0:=forL_nil h0;refine .a [] T [(29,iE a0.kind)] ?_;refine .bSB h0 rfl [4] (fun o12=>[(6,lE 5 (ksForm o12))]) n1 n1 (fun o12 h0=>?_) (fun y1 h1 hj1 hw1=>?_)
   ·obtain⟨k13,hk13,h0⟩:=bnd h0;refine .af [.call [] (aE (kForm k13)) []] (A (w_im_list n _ hk13) T) [] [.o 4 (.cells ((kForm k13).map .d))] ?_;cases h0;exact .rt hK
   ·refine .a [] T [(30,dE (a0.kind=1))] ?_;refine .jP h1 (fun hc14 h1=>?_) (fun hc14 h1=>?_)
    ·obtain⟨k15,hk15,h1⟩:=bnd h1;refine .af [.call [.own 3] (aE (kForm k15)) [.cells [sE a1]]] (A (w_im_uncore_1 n _ _ hk15) T) [] [.o 4 (.cells ((kForm k15).map .d))] ?_;cases h1;cases hw1 _ rfl;exact .rt hK
    ·refine .a [] T [(36,dE (a0.kind=2))] ?_;refine .jP h1 (fun hc16 h1=>?_) (fun hc16 h1=>?_)
     ·obtain⟨k17,hk17,h1⟩:=bnd h1;refine .af [.call [] (aE (kForm k17)) []] (A (w_im_nameForm n _ _ hk17) T) [] [.o 4 (.cells ((kForm k17).map .d))] ?_;cases h1;cases hw1 _ rfl;exact .rt hK
     ·refine .a [] T [(41,dE (a0.kind=3))] ?_;refine .jP h1 (fun hc18 h1=>?_) (fun hc18 h1=>?_)
      ·refine .af [] T [] [.c 4 0 (iE 2),.c 4 2 (iE a0.n)] ?_;cases h1;cases hw1 _ rfl;exact .rt hK
      ·refine .a [] T [(46,dE (a0.kind=4))] ?_;refine .jP h1 (fun hc19 h1=>?_) (fun hc19 h1=>?_)
       ·obtain⟨k20,hk20,h1⟩:=bnd h1;obtain⟨k21,hk21,h1⟩:=bnd h1;obtain⟨k22,hk22,h1⟩:=bnd h1;refine .ad mixed [(0,[.call [] (aE (kForm k20)) []]),(3,[.call [] (aE (kForm k21)) []]),(4,[.sv (ksForm [k20,k21])]),(5,[.call [] (aE (kForm k22)) []])] [] (A (w_im_nameForm n _ _ hk20) (A (w_im_copyForm n _ hk21) (A (dForm.lit [k20,k21]) (A (w_im_list n _ hk22) T)))) [] [.o 4 (.cells ((kForm k22).map .d))] [] ?_;cases h1;cases hw1 _ rfl;exact .rt hK
       ·refine .a [] T [(54,dE (a0.kind=5))] ?_;refine .jP h1 (fun hc23 h1=>?_) (fun hc23 h1=>?_)
        ·refine .af [.b true,.call [] (.agg [iE 3,sE [],iE 0,fE 1 (ksInt []),fE 5 (ksForm [])]) []] (A w_im_listz T) [(9,pw 9)] [.o 9 (.cells [iE 3,sE [],iE 0,fE 1 (ksInt []),fE 5 (ksForm [])])] ?_;refine .a [.v (a0.ids.length:Int)] (A (dInt.len' a0.ids) T) [(58,lE 1 (ksInt a0.ids)),(59,iE (a0.ids.length:Int)),(60,iE 0)] ?_;refine .sn 58 dInt a0.ids (by kernel_rfl) (fun hb24=>?_);refine .oc 9 4 100070 32 (by kernel_rfl) ?_;refine .lL h1 rfl [4,5,6,9,58,59] (fun i25 s26=>[(60,iE (i25:Int))]) (fun i25 s26=>[.c 9 4 (.gs (.own 100070) 5 (ksForm s26)),.o 100070 (.tok (ksForm s26).length 32)]) n2 [] (by kernel_rfl) (fun i25 s26 q27 hd29 hi31 h1=>?_);refine .a [] T [(61,dE ((i25:Int)<(a0.ids.length:Int)))] ?_;refine .lc hd29 rfl (by kernel_rfl) (fun x28 q272 hc32 hx28 hd30 hd30l=>?_) (fun hc32=>?_)
         ·subst hc32;obtain⟨y2,h2,hn2⟩:=forL_cons h1;refine .a [.cs [.v (.int .i64 x28)]] (A (dInt.idn hx28) T) [(11,iE x28)] ?_;obtain⟨k33,hk33,h2⟩:=bnd h2;obtain⟨z34,hz34,h2⟩:=bnd h2;refine .ad mixed [(4,[.call [.own 3] (aE (kForm k33)) [.cells [sE a1]]]),(5,[.sv (ksForm [k33])]),(6,[.sv (ksForm z34)])] [((ksForm s26).length:Int)] (A (w_im_uncore_1 n _ _ hk33) (A (dForm.lit [k33]) (A (dForm.ap hz34) T))) [] [.c 9 4 (.gs (.own 100070) 5 (ksForm z34)),.o 100070 (.tok (ksForm z34).length 32)] [] ?_;refine .a [.v ((i25+1:Nat):Int)] (A (wn (i:=i25) (by omega)) T) [(60,iE ((i25+1:Nat):Int))] ?_;cases h2;exact .nL rfl (i25+1) _ hd30 hd30l hn2 [] (by kernel_rfl)
         ·subst hc32;have h1:=forL_nil h1;obtain⟨k35,hk35,h1⟩:=bnd h1;obtain⟨e36,he36,h1⟩:=bnd h1;obtain⟨k37,hk37,h1⟩:=bnd h1;refine .ad mixed [(0,[.call [] (aE (kForm k35)) []]),(3,[.cs (kForm e36)]),(5,[.sv (ksForm [k35,(⟨3,[],0,[],s26⟩:Form),e36])]),(6,[.call [] (aE (kForm k37)) []])] [] (A (w_im_nameForm n _ _ hk35) (A (dForm.idx he36) (A (dForm.lit [k35,(⟨3,[],0,[],s26⟩:Form),e36]) (A (w_im_list n _ hk37) T)))) [] [.o 4 (.cells ((kForm k37).map .d))] [] ?_;cases h1;cases hw1 _ rfl;exact .rt hK
        ·refine .a [] T [(80,dE (a0.kind=7))] ?_;refine .jP h1 (fun hc38 h1=>?_) (fun hc38 h1=>?_)
         ·obtain⟨k39,hk39,h1⟩:=bnd h1;obtain⟨z40,hz40,h1⟩:=bnd h1;refine .af [.call [] (aE (kForm k39)) [],.sv (ksForm [k39]),.sv (ksForm z40)] (A (w_im_nameForm n _ _ hk39) (A (dForm.lit [k39]) (A (dForm.ap hz40) T))) [(6,.gs (.own 100085) 5 (ksForm z40))] [.o 100085 (.tok (ksForm z40).length 32)] ?_;cases h1;refine .kp [4,6] [6] ?_;refine .dr 100085 (by kernel_rfl) ?_;exact .lg (hj1 _ rfl) []
         ·cases h1;exact .lg (hj1 _ rfl) [6]
def im_UncoreForm_1 (n:Nat) (a0:List UInt8):Option (Bool):=
 (slices_Contains_string n lp0 a0).bind fun k1=>some k1
theorem w_im_UncoreForm_1 (n:Nat):∀(a0:List UInt8) {r:Bool},im_UncoreForm_1 n a0=some r→SCall X.E 32 [sE a0] [] (bE r) []:=by
 intro a0 r h0;rw[im_UncoreForm_1] at h0;refine .n Tryz.func32 (fun L ks low K hl hL hlen hK=>?_);refine .a [] T [] ?_;obtain⟨k1,hk1,h0⟩:=bnd h0;refine .a [.call [] (bE k1) []] (A (w_slices_Contains_string n _ _ hk1) T) [(2,bE k1)] ?_;cases h0;exact .rt hK
def slices_IndexFunc_string__im_UncoreForm_1 (n:Nat) (a0:List (List UInt8)):Option (Int):=
 seqS (forI (fun(s3:Unit) (i2:Nat) (x5:List UInt8)=>((im_UncoreForm_1 n x5).bind fun k10=>(if k10=true then some (Sum.inl (i2:Int)) else some (Sum.inr ())):Option (Int⊕Unit))) 0 a0 ()) (fun(s3:Unit)=>some (-1))
theorem w_slices_IndexFunc_string__im_UncoreForm_1 (n:Nat):∀(a0:List (List UInt8)) {r:Int},slices_IndexFunc_string__im_UncoreForm_1 n a0=some r→SCall X.E 69 [lE 1 (ksStr a0),.clo 32 [] []] [] (iE r) []:=by
 intro a0 r h0;rw[slices_IndexFunc_string__im_UncoreForm_1] at h0;refine .n Tryz.func69 (fun L ks low K hl hL hlen hK=>?_);refine .a [] T [] ?_;refine .a [.v (a0.length:Int)] (A (dStr.len' a0) T) [(7,iE (a0.length:Int)),(8,iE 0)] ?_;refine .sn 0 dStr a0 (by kernel_rfl) (fun hb1=>?_);refine .lI h0 rfl [0,1,7] (fun i2 s3=>[(8,iE (i2:Int))]) n2 n2 [] (by kernel_rfl) (fun i2 s3 q4 hd6 hi8 h0=>?_);refine .a [] T [(9,dE ((i2:Int)<(a0.length:Int)))] ?_;refine .lc hd6 rfl (by kernel_rfl) (fun x5 q42 hc9 hx5 hd7 hd7l=>?_) (fun hc9=>?_)
 ·subst hc9;obtain⟨y1,h1,hw1,hn1⟩:=forI_cons h0;refine .a [] T [(5,iE (i2:Int))] ?_;obtain⟨k10,hk10,h1⟩:=bnd h1;refine .a [.cs [.s x5],.call [] (bE k10) []] (A (dStr.idn hx5) (A (w_im_UncoreForm_1 n _ hk10) T)) [(16,bE k10)] ?_;refine .jT h1 (fun hc11 h1=>?_) (fun hc11 h1=>?_)
  ·refine .a [] T [(4,iE (i2:Int))] ?_;cases h1;cases hw1 _ rfl;exact .rt hK
  ·refine .a [.v ((i2+1:Nat):Int)] (A (wn (i:=i2) (by omega)) T) [(8,iE ((i2+1:Nat):Int))] ?_;cases h1;exact .nL rfl (i2+1) _ hd7 hd7l (hn1 _ rfl) [] (by kernel_rfl)
 ·subst hc9;have h0:=forI_nil h0;refine .a [] T [(4,iE (-1))] ?_;cases h0;exact .rt hK
def slices_ContainsFunc_string__im_UncoreForm_1 (n:Nat) (a0:List (List UInt8)):Option (Bool):=
 (slices_IndexFunc_string__im_UncoreForm_1 n a0).bind fun k1=>some (decide (k1≥0))
theorem w_slices_ContainsFunc_string__im_UncoreForm_1 (n:Nat):∀(a0:List (List UInt8)) {r:Bool},slices_ContainsFunc_string__im_UncoreForm_1 n a0=some r→SCall X.E 31 [lE 1 (ksStr a0),.clo 32 [] []] [] (bE r) []:=by
 intro a0 r h0;rw[slices_ContainsFunc_string__im_UncoreForm_1] at h0;refine .n Tryz.func31 (fun L ks low K hl hL hlen hK=>?_);refine .a [] T [] ?_;obtain⟨k1,hk1,h0⟩:=bnd h0;refine .a [.call [] (iE k1) []] (A (w_slices_IndexFunc_string__im_UncoreForm_1 n _ hk1) T) [(4,dE (k1≥0))] ?_;cases h0;exact .rt hK
def im_UncoreForm (n:Nat) (a0:Core):Option (Form×Bool):=
 (im_VarPrefix n a0).bind fun k1=>Option.bind ((if(!k1.2)=true then some true else(im_FreeOf n a0).bind fun k7=>(slices_ContainsFunc_string__im_UncoreForm_1 n k7).bind fun k8=>some k8):Option (Bool)) (fun(o2:Bool)=>(if o2=true then some ((⟨0,[],0,[],[]⟩:Form),false) else(im_uncore n a0 k1.1).bind fun k4=>(im_formOr n k4).bind fun k5=>some (k5.1,k5.2)))
theorem w_im_UncoreForm (n:Nat):∀(a0:Core) {r:Form×Bool},im_UncoreForm n a0=some r→SCall X.E 8 [aE (kCore a0)] [] (.tup [aE (kForm r.1),bE r.2]) []:=by
 intro a0 r h0;rw[im_UncoreForm] at h0;refine .n Tryz.func8 (fun L ks low K hl hL hlen hK=>?_);refine .af [] T [(1,pw 1),(2,pw 2)] [.o 1 (.cells ((kCore a0).map .d)),.o 2 (.cells [iE 0,sE [],iE 0,fE 1 (ksInt []),fE 5 (ksForm [])])] ?_;obtain⟨k1,hk1,h0⟩:=bnd h0;refine .a [.call [] (.tup [sE k1.1,bE k1.2]) []] (A (w_im_VarPrefix n _ hk1) T) [(4,sE k1.1),(5,bE k1.2)] ?_;refine .bP h0 rfl [1,2,4] (fun o2=>[(17,bE o2)]) n1 n1 (fun o2 h0=>?_) (fun y1 h1 hj1=>?_)
 ·refine .jT h0 (fun hc3 h0=>?_) (fun hc3 h0=>?_)
  ·refine .a [] T [(3,bE false)] ?_;cases h0;exact .rt hK
  ·obtain⟨k4,hk4,h0⟩:=bnd h0;obtain⟨k5,hk5,h0⟩:=bnd h0;refine .af [.call [] (aE (kForm k4)) [],.call [] (.tup [aE (kForm k5.1),bE k5.2]) []] (A (w_im_uncore n _ _ hk4) (A (w_im_formOr n _ hk5) T)) [(3,bE k5.2)] [.o 2 (.cells ((kForm k5.1).map .d))] ?_;cases h0;exact .rt hK
 ·by_cases g6:(!k1.2)=true
  ·have h1:=iteP g6 h1;refine .a (rb 4 true []) (R 4 g6 T) [(17,bE true)] ?_;cases h1;exact .lg hj1 []
  ·have h1:=iteN g6 h1;obtain⟨k7,hk7,h1⟩:=bnd h1;obtain⟨k8,hk8,h1⟩:=bnd h1;refine .a [.b false,.b false,.call [] (lE 1 (ksStr k7)) [],.b false,.call [] (bE k8) [],.b false] (A (Bool.eq_false_iff.2 g6) (A (A (Bool.eq_false_iff.2 g6) (w_im_FreeOf n _ hk7)) (A (A (Bool.eq_false_iff.2 g6) (w_slices_ContainsFunc_string__im_UncoreForm_1 n _ hk8)) (A (Bool.eq_false_iff.2 g6) T)))) [(17,bE k8)] ?_;cases h1;exact .lg hj1 []
end Go.Ev
