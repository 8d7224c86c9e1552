/- Models of functions. No condition. -/
import Derived.Test.YtbifcdaablhljaaDoorEvTri
import Derived.Test.YtbifcdaablhljaaDoorProg
import Derived.KernelRfl
namespace Go.Ev
open Go.Proofs Go.Mx
set_option linter.unusedVariables false
set_option maxRecDepth 10000
def tT:List (Nat×(Nat×Nat×Shp)):=[(3,(1,8,.int .i64)),(9,(1,16,.str)),(25,(1,24,.slice 9)),(30,(1,24,.slice 3)),(31,(1,24,.slice 33)),(33,(5,80,.struct [(0,1),(1,1),(2,1),(3,1),(4,1)])),(34,(1,24,.slice 36)),(36,(11,168,.struct [(0,1),(1,1),(2,1),(3,1),(4,1),(5,5),(10,1)])),(39,(1,24,.slice 41)),(41,(5,80,.struct [(0,1),(1,1),(2,1),(3,1),(4,1)])),(42,(1,24,.slice 44)),(44,(11,168,.struct [(0,1),(1,1),(2,1),(3,1),(4,1),(5,5),(10,1)])),(80,(6,96,.array 6 9))]
def tZ:List (Nat×List KD):=[(3,[.v (.int .i64 0)]),(9,[.s []]),(30,[.sl 1 true (ksInt [])]),(44,[.v (.int .i64 0),.v (.int .i64 0),.s [],.v (.int .i64 0),.sl 1 true (ksInt []),.v (.int .i64 0),.s [],.v (.int .i64 0),.sl 1 true (ksInt []),.sl 5 true (ksForm []),.sl 11 true (ksCore [])])]
theorem tT_ok:allT (fun i x=>tShape Tryd.prog i=some x) tT:=by
 refine⟨?_,?_,?_,?_,?_,?_,?_,?_,?_,?_,?_,?_,?_,trivial⟩ <;> (show tShape _ _=_; kernel_rfl)
theorem tZ_ok:allT (fun i x=>∃zs,tZero Tryd.prog i=some zs∧ZeroL (KD.DL x) zs) tZ:=
 ⟨⟨_,(by kernel_rfl:tZero Tryd.prog 3=some [.int .i64 0]),(.v .nil)⟩,⟨_,(by kernel_rfl:tZero Tryd.prog 9=some [.string (mkS [])]),(.v .nil)⟩,⟨_,(by kernel_rfl:tZero Tryd.prog 30=some [.slice none 0 0]),(.sl .nil)⟩,⟨_,(by kernel_rfl:tZero Tryd.prog 44=some [.int .i64 0,.int .i64 0,.string (mkS []),.int .i64 0,.slice none 0 0,.int .i64 0,.string (mkS []),.int .i64 0,.slice none 0 0,.slice none 0 0,.slice none 0 0]),(.v (.v (.v (.v (.sl (.v (.v (.v (.sl (.sl (.sl .nil)))))))))))⟩,trivial⟩
def lp2:List (List UInt8):=[[108,105,115,116],[43],[60],[61],[104,101,97,100],[116,97,105,108]]
def gp2:List KD:=[.s [108,105,115,116],.s [43],.s [60],.s [61],.s [104,101,97,100],.s [116,97,105,108]]
def globK:Nat→KD
 | 2=>.ro gp2
 | _=>.any
noncomputable def E0:Setting:=⟨Tryd.prog,fun g=>(globK g).D,fun g=>KD.keyless _ _⟩
noncomputable def X:Ctx:=⟨E0,globK,fun _=>rfl,⟨lkT tT,lkT tZ,lk_all tT_ok,lk_all tZ_ok⟩⟩
theorem mixed:X.E.P.follows .mixedOrders=true:=by kernel_rfl
def la_szIntS (n:Nat) (a0:List Int) (a1:Int):Option (Int):=
 (if(w64 (a1-(a0.length:Int)))<0 then some (-1) else some (w64 (a1-(a0.length:Int))))
theorem w_la_szIntS (n:Nat):∀(a0:List Int) (a1:Int) {r:Int},la_szIntS n a0 a1=some r→SCall X.E 45 [lE 1 (ksInt a0),iE a1] [] (iE r) []:=by
 intro a0 a1 r h0;rw[la_szIntS] at h0;refine .n Tryd.func45 (fun L ks low K hl hL hlen hK=>?_);refine .a [] T [] ?_;refine .a [.v (a0.length:Int),.pl] (A (dInt.len' a0) T) [(1,iE (w64 (a1-(a0.length:Int))))] ?_;refine .sn 0 dInt a0 (by kernel_rfl) (fun hb1=>?_);refine .a [] T [(10,dE ((w64 (a1-(a0.length:Int)))<0))] ?_;refine .jP h0 (fun hc2 h0=>?_) (fun hc2 h0=>?_)
 ·refine .a [] T [(4,iE (-1))] ?_;cases h0;exact .rt hK
 ·refine .a [] T [(4,iE (w64 (a1-(a0.length:Int))))] ?_;cases h0;exact .rt hK
mutual
def la_szForm:Nat→Form→Int→Option (Int)
 | 0,_,_=>none
 | n+1,a0,a1=>(if(w64 (a1-(a0.name.length:Int)))<0 then some (-1) else(la_szIntS n a0.scopes (w64 (a1-(a0.name.length:Int)))).bind fun k2=>(if k2<0 then some (-1) else(la_szFormS n a0.kids k2).bind fun k4=>(if k4<0 then some (-1) else some k4)))
def la_szFormS:Nat→(List Form)→Int→Option (Int)
 | 0,_,_=>none
 | n+1,a0,a1=>(if(w64 (a1-(a0.length:Int)))<0 then some (-1) else seqS (forI (fun(s4:Int) (i3:Nat) (x6:Form)=>((la_szForm n x6 s4).bind fun k11=>(if k11<0 then some (Sum.inl (-1)) else some (Sum.inr k11)):Option (Int⊕Int))) 0 a0 (w64 (a1-(a0.length:Int)))) (fun(s4:Int)=>some s4))
end
theorem g_la_szForm (n:Nat):(∀(a0:Form) (a1:Int) {r:Int},la_szForm n a0 a1=some r→SCall X.E 22 [aE (kForm a0),iE a1] [] (iE r) [])∧(∀(a0:List Form) (a1:Int) {r:Int},la_szFormS n a0 a1=some r→SCall X.E 52 [lE 5 (ksForm a0),iE a1] [] (iE r) []):=by
 induction n with
 | zero=>exact⟨(by intros; rename_i h; cases h),(by intros; rename_i h; cases h)⟩
 | succ n ih=>
  refine⟨?_,?_⟩
  ·intro a0 a1 r h0;rw[la_szForm] at h0;refine .n Tryd.func22 (fun L ks low K hl hL hlen hK=>?_);refine .af [] T [(2,pw 2)] [.o 2 (.cells ((kForm a0).map .d))] ?_;refine .a [.pl] T [(1,iE (w64 (a1-(a0.name.length:Int))))] ?_;refine .a [] T [(11,dE ((w64 (a1-(a0.name.length:Int)))<0))] ?_;refine .jP h0 (fun hc1 h0=>?_) (fun hc1 h0=>?_)
   ·refine .a [] T [(4,iE (-1))] ?_;cases h0;exact .rt hK
   ·obtain⟨k2,hk2,h0⟩:=bnd h0;refine .a [.call [] (iE k2) []] (A (w_la_szIntS n _ _ hk2) T) [(1,iE k2)] ?_;refine .a [] T [(17,dE (k2<0))] ?_;refine .jP h0 (fun hc3 h0=>?_) (fun hc3 h0=>?_)
    ·refine .a [] T [(4,iE (-1))] ?_;cases h0;exact .rt hK
    ·obtain⟨k4,hk4,h0⟩:=bnd h0;refine .a [.call [] (iE k4) []] (A (ih.2 _ _ hk4) T) [(1,iE k4)] ?_;refine .a [] T [(23,dE (k4<0))] ?_;refine .jP h0 (fun hc5 h0=>?_) (fun hc5 h0=>?_)
     ·refine .a [] T [(4,iE (-1))] ?_;cases h0;exact .rt hK
     ·refine .a [] T [(4,iE k4)] ?_;cases h0;exact .rt hK
  ·intro a0 a1 r h0;rw[la_szFormS] at h0;refine .n Tryd.func52 (fun L ks low K hl hL hlen hK=>?_);refine .a [] T [] ?_;refine .a [.v (a0.length:Int),.pl] (A (dForm.len' a0) T) [(1,iE (w64 (a1-(a0.length:Int))))] ?_;refine .sn 0 dForm a0 (by kernel_rfl) (fun hb1=>?_);refine .a [] T [(11,dE ((w64 (a1-(a0.length:Int)))<0))] ?_;refine .jP h0 (fun hc2 h0=>?_) (fun hc2 h0=>?_)
   ·refine .a [] T [(4,iE (-1))] ?_;cases h0;exact .rt hK
   ·refine .a [] T [(5,iE 0)] ?_;refine .lI h0 rfl [0] (fun i3 s4=>[(1,iE s4),(5,iE (i3:Int))]) n2 n2 [] (by kernel_rfl) (fun i3 s4 q5 hd7 hi9 h0=>?_);refine .a [.v (a0.length:Int)] (A (dForm.len' a0) T) [(15,dE ((i3:Int)<(a0.length:Int)))] ?_;refine .lc hd7 rfl (by kernel_rfl) (fun x6 q52 hc10 hx6 hd8 hd8l=>?_) (fun hc10=>?_)
    ·subst hc10;obtain⟨y1,h1,hw1,hn1⟩:=forI_cons h0;obtain⟨k11,hk11,h1⟩:=bnd h1;refine .a [.cs (kForm x6),.call [] (iE k11) []] (A (dForm.idn hx6) (A (ih.1 _ _ hk11) T)) [(1,iE k11)] ?_;refine .a [] T [(25,dE (k11<0))] ?_;refine .jP h1 (fun hc12 h1=>?_) (fun hc12 h1=>?_)
     ·refine .a [] T [(4,iE (-1))] ?_;cases h1;cases hw1 _ rfl;exact .rt hK
     ·refine .a [.v ((i3+1:Nat):Int)] (A (wn (i:=i3) (by omega)) T) [(5,iE ((i3+1:Nat):Int))] ?_;cases h1;exact .nL rfl (i3+1) _ hd8 hd8l (hn1 _ rfl) [] (by kernel_rfl)
    ·subst hc10;have h0:=forI_nil h0;refine .a [] T [(4,iE s4)] ?_;cases h0;exact .rt hK
theorem w_la_szForm (n:Nat):∀(a0:Form) (a1:Int) {r:Int},la_szForm n a0 a1=some r→SCall X.E 22 [aE (kForm a0),iE a1] [] (iE r) []:=(g_la_szForm n).1
theorem w_la_szFormS (n:Nat):∀(a0:List Form) (a1:Int) {r:Int},la_szFormS n a0 a1=some r→SCall X.E 52 [lE 5 (ksForm a0),iE a1] [] (iE r) []:=(g_la_szForm n).2
mutual
def la_szCore:Nat→Core→Int→Option (Int)
 | 0,_,_=>none
 | n+1,a0,a1=>(if(w64 (a1-(a0.name.length:Int)))<0 then some (-1) else(la_szIntS n a0.ids (w64 (a1-(a0.name.length:Int)))).bind fun k2=>(if k2<0 then some (-1) else(la_szForm n a0.data k2).bind fun k4=>(if k4<0 then some (-1) else(la_szCoreS n a0.kids k4).bind fun k6=>(if k6<0 then some (-1) else some k6))))
def la_szCoreS:Nat→(List Core)→Int→Option (Int)
 | 0,_,_=>none
 | n+1,a0,a1=>(if(w64 (a1-(a0.length:Int)))<0 then some (-1) else seqS (forI (fun(s4:Int) (i3:Nat) (x6:Core)=>((la_szCore n x6 s4).bind fun k11=>(if k11<0 then some (Sum.inl (-1)) else some (Sum.inr k11)):Option (Int⊕Int))) 0 a0 (w64 (a1-(a0.length:Int)))) (fun(s4:Int)=>some s4))
end
theorem g_la_szCore (n:Nat):(∀(a0:Core) (a1:Int) {r:Int},la_szCore n a0 a1=some r→SCall X.E 17 [aE (kCore a0),iE a1] [] (iE r) [])∧(∀(a0:List Core) (a1:Int) {r:Int},la_szCoreS n a0 a1=some r→SCall X.E 46 [lE 11 (ksCore a0),iE a1] [] (iE r) []):=by
 induction n with
 | zero=>exact⟨(by intros; rename_i h; cases h),(by intros; rename_i h; cases h)⟩
 | succ n ih=>
  refine⟨?_,?_⟩
  ·intro a0 a1 r h0;rw[la_szCore] at h0;refine .n Tryd.func17 (fun L ks low K hl hL hlen hK=>?_);refine .af [] T [(2,pw 2)] [.o 2 (.cells ((kCore a0).map .d))] ?_;refine .a [.pl] T [(1,iE (w64 (a1-(a0.name.length:Int))))] ?_;refine .a [] T [(11,dE ((w64 (a1-(a0.name.length:Int)))<0))] ?_;refine .jP h0 (fun hc1 h0=>?_) (fun hc1 h0=>?_)
   ·refine .a [] T [(4,iE (-1))] ?_;cases h0;exact .rt hK
   ·obtain⟨k2,hk2,h0⟩:=bnd h0;refine .a [.call [] (iE k2) []] (A (w_la_szIntS n _ _ hk2) T) [(1,iE k2)] ?_;refine .a [] T [(17,dE (k2<0))] ?_;refine .jP h0 (fun hc3 h0=>?_) (fun hc3 h0=>?_)
    ·refine .a [] T [(4,iE (-1))] ?_;cases h0;exact .rt hK
    ·obtain⟨k4,hk4,h0⟩:=bnd h0;refine .a [.call [] (iE k4) []] (A (w_la_szForm n _ _ hk4) T) [(1,iE k4)] ?_;refine .a [] T [(23,dE (k4<0))] ?_;refine .jP h0 (fun hc5 h0=>?_) (fun hc5 h0=>?_)
     ·refine .a [] T [(4,iE (-1))] ?_;cases h0;exact .rt hK
     ·obtain⟨k6,hk6,h0⟩:=bnd h0;refine .a [.call [] (iE k6) []] (A (ih.2 _ _ hk6) T) [(1,iE k6)] ?_;refine .a [] T [(29,dE (k6<0))] ?_;refine .jP h0 (fun hc7 h0=>?_) (fun hc7 h0=>?_)
      ·refine .a [] T [(4,iE (-1))] ?_;cases h0;exact .rt hK
      ·refine .a [] T [(4,iE k6)] ?_;cases h0;exact .rt hK
  ·intro a0 a1 r h0;rw[la_szCoreS] at h0;refine .n Tryd.func46 (fun L ks low K hl hL hlen hK=>?_);refine .a [] T [] ?_;refine .a [.v (a0.length:Int),.pl] (A (dCore.len' a0) T) [(1,iE (w64 (a1-(a0.length:Int))))] ?_;refine .sn 0 dCore a0 (by kernel_rfl) (fun hb1=>?_);refine .a [] T [(11,dE ((w64 (a1-(a0.length:Int)))<0))] ?_;refine .jP h0 (fun hc2 h0=>?_) (fun hc2 h0=>?_)
   ·refine .a [] T [(4,iE (-1))] ?_;cases h0;exact .rt hK
   ·refine .a [] T [(5,iE 0)] ?_;refine .lI h0 rfl [0] (fun i3 s4=>[(1,iE s4),(5,iE (i3:Int))]) n2 n2 [] (by kernel_rfl) (fun i3 s4 q5 hd7 hi9 h0=>?_);refine .a [.v (a0.length:Int)] (A (dCore.len' a0) T) [(15,dE ((i3:Int)<(a0.length:Int)))] ?_;refine .lc hd7 rfl (by kernel_rfl) (fun x6 q52 hc10 hx6 hd8 hd8l=>?_) (fun hc10=>?_)
    ·subst hc10;obtain⟨y1,h1,hw1,hn1⟩:=forI_cons h0;obtain⟨k11,hk11,h1⟩:=bnd h1;refine .a [.cs (kCore x6),.call [] (iE k11) []] (A (dCore.idn hx6) (A (ih.1 _ _ hk11) T)) [(1,iE k11)] ?_;refine .a [] T [(25,dE (k11<0))] ?_;refine .jP h1 (fun hc12 h1=>?_) (fun hc12 h1=>?_)
     ·refine .a [] T [(4,iE (-1))] ?_;cases h1;cases hw1 _ rfl;exact .rt hK
     ·refine .a [.v ((i3+1:Nat):Int)] (A (wn (i:=i3) (by omega)) T) [(5,iE ((i3+1:Nat):Int))] ?_;cases h1;exact .nL rfl (i3+1) _ hd8 hd8l (hn1 _ rfl) [] (by kernel_rfl)
    ·subst hc10;have h0:=forI_nil h0;refine .a [] T [(4,iE s4)] ?_;cases h0;exact .rt hK
theorem w_la_szCore (n:Nat):∀(a0:Core) (a1:Int) {r:Int},la_szCore n a0 a1=some r→SCall X.E 17 [aE (kCore a0),iE a1] [] (iE r) []:=(g_la_szCore n).1
theorem w_la_szCoreS (n:Nat):∀(a0:List Core) (a1:Int) {r:Int},la_szCoreS n a0 a1=some r→SCall X.E 46 [lE 11 (ksCore a0),iE a1] [] (iE r) []:=(g_la_szCore n).2
def sp_l1In (n:Nat) (a0:List (List UInt8)) (a1:List UInt8):Option (Bool):=
 seqS (forI (fun(s2:Unit) (i1:Nat) (x4:List UInt8)=>((if x4=a1 then some (Sum.inl true) else some (Sum.inr ())):Option (Bool⊕Unit))) 0 a0 ()) (fun(s2:Unit)=>some false)
theorem w_sp_l1In (n:Nat):∀(a0:List (List UInt8)) (a1:List UInt8) {r:Bool},sp_l1In n a0 a1=some r→SCall X.E 65 [lE 1 (ksStr a0),sE a1] [] (bE r) []:=by
 intro a0 a1 r h0;rw[sp_l1In] at h0;refine .n Tryd.func65 (fun L ks low K hl hL hlen hK=>?_);refine .a [] T [] ?_;refine .a [] T [(5,iE 0)] ?_;refine .lI h0 rfl [0,1] (fun i1 s2=>[(5,iE (i1:Int))]) n2 n2 [] (by kernel_rfl) (fun i1 s2 q3 hd5 hi7 h0=>?_);refine .a [.v (a0.length:Int)] (A (dStr.len' a0) T) [(9,dE ((i1:Int)<(a0.length:Int)))] ?_;refine .sn 0 dStr a0 (by kernel_rfl) (fun hb8=>?_);refine .lc hd5 rfl (by kernel_rfl) (fun x4 q32 hc9 hx4 hd6 hd6l=>?_) (fun hc9=>?_)
 ·subst hc9;obtain⟨y1,h1,hw1,hn1⟩:=forI_cons h0;refine .a [.cs [.s x4]] (A (dStr.idn hx4) T) [(17,dE (x4=a1))] ?_;refine .jP h1 (fun hc10 h1=>?_) (fun hc10 h1=>?_)
  ·refine .a [] T [(4,bE true)] ?_;cases h1;cases hw1 _ rfl;exact .rt hK
  ·refine .a [.v ((i1+1:Nat):Int)] (A (wn (i:=i1) (by omega)) T) [(5,iE ((i1+1:Nat):Int))] ?_;cases h1;exact .nL rfl (i1+1) _ hd6 hd6l (hn1 _ rfl) [] (by kernel_rfl)
 ·subst hc9;have h0:=forI_nil h0;refine .a [] T [(4,bE false)] ?_;cases h0;exact .rt hK
def sp_l8Prims (n:Nat)  : Option (List (List UInt8)):=
 some [[43],[60],[61],[108,105,115,116],[104,101,97,100],[116,97,105,108]]
theorem w_sp_l8Prims (n:Nat):∀{r:List (List UInt8)},sp_l8Prims n  = some r→SCall X.E 66 [] [] (lE 1 (ksStr r)) []:=by
 intro r h0;rw[sp_l8Prims] at h0;refine .n Tryd.func66 (fun L ks low K hl hL hlen hK=>?_);refine .a [] T [] ?_;refine .a [.sv (ksStr [[43],[60],[61],[108,105,115,116],[104,101,97,100],[116,97,105,108]])] (A (dStr.lit [[43],[60],[61],[108,105,115,116],[104,101,97,100],[116,97,105,108]]) T) [(0,fE 1 (ksStr [[43],[60],[61],[108,105,115,116],[104,101,97,100],[116,97,105,108]]))] ?_;cases h0;exact .rt hK
def sp_l12Heads:Nat→(List Int)→Core→Option (List Int)
 | 0,_,_=>none
 | n+1,a0,a1=>Option.bind ((if a1.kind=6 then some (decide ((a1.kids.length:Int)>0)) else some false):Option (Bool)) (fun(o1:Bool)=>Option.bind ((if o1=true then Option.bind ((atI a1.kids 0).bind fun e19=>(if e19.kind=5 then some 0 else Option.bind ((if e19.kind=2 then(sp_l8Prims n).bind fun k25=>(sp_l1In n k25 e19.name).bind fun k26=>some k26 else some false):Option (Bool)) (fun(o21:Bool)=>(if o21=true then some 1 else(if e19.kind=1 then some 2 else some 3)))):Option (Int)) (fun(o14:Int)=>(inB o14 a0.length).bind fun u15=>(a0[(Int.toNat o14)]?).bind fun e16=>(inB o14 a0.length).bind fun u17=>some (a0.set (Int.toNat o14) (w64 (e16+1)))) else some a0):Option (List Int)) (fun(o2:List Int)=>Option.bind (forL (fun(s4:List Int) (i3:Nat) (x6:Core)=>(sp_l12Heads n s4 x6).bind fun k12=>some k12) 0 a1.kids o2) (fun(s4:List Int)=>some s4)))
theorem w_sp_l12Heads (n:Nat):∀(a0:List Int) (a1:Core) {r:List Int},sp_l12Heads n a0 a1=some r→SCall X.E 60 [.vs (.low 0) 1 ((ksInt a0).length),aE (kCore a1)] [some (.vec 3 1 (ksInt a0))] (.vs (.low 0) 1 ((ksInt r).length)) [.vec 3 1 (ksInt r)]:=by
 induction n with
 | zero=>intro a0 a1 r h; cases h
 | succ n ih=>
  intro a0 a1 r h0;rw[sp_l12Heads] at h0;refine .n Tryd.func60 (fun L ks low K hl hL hlen hK=>?_);refine .af [] T [(3,pw 3)] [.o 3 (.cells ((kCore a1).map .d))] ?_;refine .bP h0 rfl [0,3] (fun o1=>[(15,bE o1)]) n1 n1 (fun o1 h0=>?_) (fun y1 h1 hj1=>?_)
  ·refine .bP h0 rfl [3] (fun o2=>[(0,.vs (.low 0) 1 ((ksInt o2).length))]) n1 (fun o2=>[.o 0 (.vec 3 1 (ksInt o2))]) (fun o2 h0=>?_) (fun y1 h1 hj1=>?_)
   ·refine .a [] T [(6,iE 0)] ?_;refine .lL h0 rfl [3] (fun i3 s4=>[(0,.vs (.low 0) 1 ((ksInt s4).length)),(6,iE (i3:Int))]) n2 (fun i3 s4=>[.o 0 (.vec 3 1 (ksInt s4))]) [] (by kernel_rfl) (fun i3 s4 q5 hd7 hi9 h0=>?_);refine .a [.v (a1.kids.length:Int)] (A (dCore.len' a1.kids) T) [(56,lE 11 (ksCore a1.kids)),(58,dE ((i3:Int)<(a1.kids.length:Int)))] ?_;refine .sn 56 dCore a1.kids (by kernel_rfl) (fun hb10=>?_);refine .lc hd7 rfl (by kernel_rfl) (fun x6 q52 hc11 hx6 hd8 hd8l=>?_) (fun hc11=>?_)
    ·subst hc11;obtain⟨y1,h1,hn1⟩:=forL_cons h0;obtain⟨k12,hk12,h1⟩:=bnd h1;refine .ao [.cs (kCore x6),.call [.low 0] (.vs (.low 0) 1 ((ksInt k12).length)) [.vec 3 1 (ksInt k12)]] (A (dCore.idn hx6) (A (ih _ _ hk12) T)) [(0,.vs (.low 0) 1 ((ksInt k12).length))] [.o 0 (.vec 3 1 (ksInt k12))] ?_;refine .a [.v ((i3+1:Nat):Int)] (A (wn (i:=i3) (by omega)) T) [(6,iE ((i3+1:Nat):Int))] ?_;cases h1;exact .nL rfl (i3+1) _ hd8 hd8l hn1 [] (by kernel_rfl)
    ·subst hc11;have h0:=forL_nil h0;refine .a [] T [(4,.vs (.low 0) 1 ((ksInt s4).length))] ?_;refine .kp [4] [] ?_;refine .dr 3 (by kernel_rfl) ?_;cases h0;exact .rt hK
   ·refine .jT h1 (fun hc13 h1=>?_) (fun hc13 h1=>?_)
    ·refine .a [] T [(5,iE 3)] ?_;refine .bPB h1 rfl [0,3] (fun o14=>[(5,iE o14)]) n1 n1 (fun o14 h1=>?_) (fun y2 h2 hj2=>?_)
     ·obtain⟨u15,hu15,h1⟩:=bnd h1;obtain⟨e16,he16,h1⟩:=bnd h1;obtain⟨u17,hu17,h1⟩:=bnd h1;refine .ao [.cs [.v (.int .i64 e16)],.pl,.cs [.v (.int .i64 e16)],.sv (ksInt (a0.set (Int.toNat o14) (w64 (e16+1))))] (A (A (dInt.inv hu15 (rfl:(ksInt a0).length=(ksInt a0).length)) (rfl:(ksInt a0).length=(ksInt a0).length)) (A (A (A (dInt.rows a0) (dInt.ixr he16)) (rfl:(ksInt a0).length=(ksInt a0).length)) (A (A (dInt.inv hu17 (rfl:(ksInt a0).length=(ksInt a0).length)) (rfl:(ksInt a0).length=(ksInt a0).length)) (A (A (A (A (dInt.rows a0) (dInt.ixr he16)) (rfl:(ksInt a0).length=(ksInt a0).length)) (dInt.seti a0 (Int.toNat o14) (w64 (e16+1)))) T)))) [(0,.vs (.low 0) 1 ((ksInt a0).length))] [.o 0 (.vec 3 1 (ksInt (a0.set (Int.toNat o14) (w64 (e16+1)))))] ?_;refine .rn (by simp only[dInt.length,List.length_set]:(ksInt a0).length=(ksInt (a0.set (Int.toNat o14) (w64 (e16+1)))).length) (fun nk18=>[(0,.vs (.low 0) 1 nk18)]) (fun nk18=>[]) (fun nk18=>[]) (by kernel_rfl) ?_;cases h1;exact .lg hj1 []
     ·obtain⟨e19,he19,h2⟩:=bnd h2;refine .a [.cs (kCore e19)] (A (dCore.idx he19) T) [(16,dE (e19.kind=5))] ?_;refine .jP h2 (fun hc20 h2=>?_) (fun hc20 h2=>?_)
      ·refine .a [] T [(5,iE 0)] ?_;cases h2;exact .lg hj2 []
      ·refine .bP h2 rfl [0,3,5] (fun o21=>[(23,bE o21)]) n1 n1 (fun o21 h2=>?_) (fun y3 h3 hj3=>?_)
       ·refine .jT h2 (fun hc22 h2=>?_) (fun hc22 h2=>?_)
        ·refine .a [] T [(5,iE 1)] ?_;cases h2;exact .lg hj2 []
        ·refine .a [.cs (kCore e19)] (A (dCore.idx he19) T) [(39,dE (e19.kind=1))] ?_;refine .jP h2 (fun hc23 h2=>?_) (fun hc23 h2=>?_)
         ·refine .a [] T [(5,iE 2)] ?_;cases h2;exact .lg hj2 []
         ·cases h2;exact .lg hj2 []
       ·by_cases g24:e19.kind=2
        ·have h3:=iteP g24 h3;obtain⟨k25,hk25,h3⟩:=bnd h3;obtain⟨k26,hk26,h3⟩:=bnd h3;refine .ad mixed ((2,[.cs (kCore e19)])::((7,[.b true,.call [] (lE 1 (ksStr k25)) []])::(qb 8 2 true ((10,[.b true,.cs (kCore e19)])::(qb 11 2 true [(13,[.b true,.call [] (bE k26) []]),(14,[.b true])]))))) [] (A (dCore.idx he19) (A (A (dt g24) (w_sp_l8Prims n  hk25)) (R 2 (dt g24) (A (A (dt g24) (dCore.idx he19)) (R 2 (dt g24) (A (A (dt g24) (w_sp_l1In n _ _ hk26)) (A (dt g24) T))))))) [(23,bE k26)] [] [] ?_;cases h3;exact .lg hj3 []
        ·have h3:=iteN g24 h3;refine .ad mixed ((2,[.cs (kCore e19)])::(qb 7 8 false [])) [] (A (dCore.idx he19) (R 8 (df g24) T)) [(23,bE false)] [] [] ?_;cases h3;exact .lg hj3 []
    ·cases h1;exact .lg hj1 []
  ·by_cases g27:a1.kind=6
   ·have h1:=iteP g27 h1;refine .a (rb 3 true [.v (a1.kids.length:Int),.b true,.b true]) (R 2 (dt g27) (A (A (dt g27) (dCore.len' a1.kids)) (R 2 (dt g27) T))) [(15,dE ((a1.kids.length:Int)>0))] ?_;cases h1;exact .lg hj1 []
   ·have h1:=iteN g27 h1;refine .a (rb 5 false []) (R 5 (df g27) T) [(15,bE false)] ?_;cases h1;exact .lg hj1 []
def sp_HeadsOf (n:Nat) (a0:Core):Option (List Int):=
 (mkB 8 4).bind fun u1=>(sp_l12Heads n (List.replicate (4:Int).toNat 0) a0).bind fun k2=>some k2
theorem w_sp_HeadsOf (n:Nat):∀(a0:Core) {r:List Int},sp_HeadsOf n a0=some r→SCall X.E 28 [aE (kCore a0)] [] (lE 1 (ksInt r)) []:=by
 intro a0 r h0;rw[sp_HeadsOf] at h0;refine .n Tryd.func28 (fun L ks low K hl hL hlen hK=>?_);refine .af [] T [(1,pw 1)] [.o 1 (.cells ((kCore a0).map .d))] ?_;obtain⟨u1,hu1,h0⟩:=bnd h0;obtain⟨k2,hk2,h0⟩:=bnd h0;refine .ad mixed [(0,[.mv 3,.sv (ksInt (List.replicate (4:Int).toNat 0))]),(2,[.call [.own 3] (.vs (.low 0) 1 ((ksInt k2).length)) [.vec 3 1 (ksInt k2)]])] [4] (A (A (mk_ok hu1) (dInt.rep ((4:Int).toNat) 0)) (A (w_sp_l12Heads n _ _ hk2) T)) [(2,.vs (.own 3) 1 ((ksInt k2).length))] [.o 3 (.vec 3 1 (ksInt k2))] [] ?_;refine .kp [2] [] ?_;refine .dr 1 (by kernel_rfl) ?_;refine .ft 2 3 [] dInt k2 (rfl:(ksInt k2).length=(ksInt k2).length) (by kernel_rfl) ?_;cases h0;exact .rt hK
def la_eqIntS (n:Nat) (a0:List Int) (a1:List Int):Option (Bool):=
 (if ¬(a0.length:Int)=(a1.length:Int) then some false else seqS (forI (fun(s5:Unit) (i4:Nat) (x7:Int)=>((atI a1 (i4:Int)).bind fun e12=>(if ¬x7=e12 then some (Sum.inl false) else some (Sum.inr ())):Option (Bool⊕Unit))) 0 a0 ()) (fun(s5:Unit)=>some true))
theorem w_la_eqIntS (n:Nat):∀(a0:List Int) (a1:List Int) {r:Bool},la_eqIntS n a0 a1=some r→SCall X.E 30 [lE 1 (ksInt a0),lE 1 (ksInt a1)] [] (bE r) []:=by
 intro a0 a1 r h0;rw[la_eqIntS] at h0;refine .n Tryd.func30 (fun L ks low K hl hL hlen hK=>?_);refine .a [] T [] ?_;refine .a [.v (a0.length:Int),.v (a1.length:Int)] (A (dInt.len' a0) (A (dInt.len' a1) T)) [(10,dE (¬(a0.length:Int)=(a1.length:Int)))] ?_;refine .sn 0 dInt a0 (by kernel_rfl) (fun hb1=>?_);refine .sn 1 dInt a1 (by kernel_rfl) (fun hb2=>?_);refine .jP h0 (fun hc3 h0=>?_) (fun hc3 h0=>?_)
 ·refine .a [] T [(4,bE false)] ?_;cases h0;exact .rt hK
 ·refine .a [] T [(5,iE 0)] ?_;refine .lI h0 rfl [0,1] (fun i4 s5=>[(5,iE (i4:Int))]) n2 n2 [] (by kernel_rfl) (fun i4 s5 q6 hd8 hi10 h0=>?_);refine .a [.v (a0.length:Int)] (A (dInt.len' a0) T) [(14,dE ((i4:Int)<(a0.length:Int)))] ?_;refine .lc hd8 rfl (by kernel_rfl) (fun x7 q62 hc11 hx7 hd9 hd9l=>?_) (fun hc11=>?_)
  ·subst hc11;obtain⟨y1,h1,hw1,hn1⟩:=forI_cons h0;obtain⟨e12,he12,h1⟩:=bnd h1;refine .ad mixed [(2,[.cs [.v (.int .i64 x7)]]),(6,[.cs [.v (.int .i64 e12)]])] [] (A (dInt.idn hx7) (A (dInt.idx he12) T)) [(25,dE (¬x7=e12))] [] [] ?_;refine .jP h1 (fun hc13 h1=>?_) (fun hc13 h1=>?_)
   ·refine .a [] T [(4,bE false)] ?_;cases h1;cases hw1 _ rfl;exact .rt hK
   ·refine .a [.v ((i4+1:Nat):Int)] (A (wn (i:=i4) (by omega)) T) [(5,iE ((i4+1:Nat):Int))] ?_;cases h1;exact .nL rfl (i4+1) _ hd9 hd9l (hn1 _ rfl) [] (by kernel_rfl)
  ·subst hc11;have h0:=forI_nil h0;refine .a [] T [(4,bE true)] ?_;cases h0;exact .rt hK
mutual
def la_eqForm:Nat→Form→Form→Option (Bool)
 | 0,_,_=>none
 | n+1,a0,a1=>(if ¬a0.kind=a1.kind then some false else(if ¬a0.name=a1.name then some false else(if ¬a0.n=a1.n then some false else(la_eqIntS n a0.scopes a1.scopes).bind fun k4=>(if(!k4)=true then some false else(la_eqFormS n a0.kids a1.kids).bind fun k6=>(if(!k6)=true then some false else some true)))))
def la_eqFormS:Nat→(List Form)→(List Form)→Option (Bool)
 | 0,_,_=>none
 | n+1,a0,a1=>(if ¬(a0.length:Int)=(a1.length:Int) then some false else seqS (forI (fun(s5:Unit) (i4:Nat) (x7:Form)=>((atI a1 (i4:Int)).bind fun e12=>(la_eqForm n x7 e12).bind fun k13=>(if(!k13)=true then some (Sum.inl false) else some (Sum.inr ())):Option (Bool⊕Unit))) 0 a0 ()) (fun(s5:Unit)=>some true))
end
theorem g_la_eqForm (n:Nat):(∀(a0:Form) (a1:Form) {r:Bool},la_eqForm n a0 a1=some r→SCall X.E 26 [aE (kForm a0),aE (kForm a1)] [] (bE r) [])∧(∀(a0:List Form) (a1:List Form) {r:Bool},la_eqFormS n a0 a1=some r→SCall X.E 58 [lE 5 (ksForm a0),lE 5 (ksForm a1)] [] (bE r) []):=by
 induction n with
 | zero=>exact⟨(by intros; rename_i h; cases h),(by intros; rename_i h; cases h)⟩
 | succ n ih=>
  refine⟨?_,?_⟩
  ·intro a0 a1 r h0;rw[la_eqForm] at h0;refine .n Tryd.func26 (fun L ks low K hl hL hlen hK=>?_);refine .af [] T [(2,pw 2),(3,pw 3)] [.o 2 (.cells ((kForm a0).map .d)),.o 3 (.cells ((kForm a1).map .d))] ?_;refine .a [] T [(9,dE (¬a0.kind=a1.kind))] ?_;refine .jP h0 (fun hc1 h0=>?_) (fun hc1 h0=>?_)
   ·refine .a [] T [(4,bE false)] ?_;cases h0;exact .rt hK
   ·refine .a [] T [(14,dE (¬a0.name=a1.name))] ?_;refine .jP h0 (fun hc2 h0=>?_) (fun hc2 h0=>?_)
    ·refine .a [] T [(4,bE false)] ?_;cases h0;exact .rt hK
    ·refine .a [] T [(19,dE (¬a0.n=a1.n))] ?_;refine .jP h0 (fun hc3 h0=>?_) (fun hc3 h0=>?_)
     ·refine .a [] T [(4,bE false)] ?_;cases h0;exact .rt hK
     ·obtain⟨k4,hk4,h0⟩:=bnd h0;refine .a [.call [] (bE k4) []] (A (w_la_eqIntS n _ _ hk4) T) [(25,bE (!k4))] ?_;refine .jT h0 (fun hc5 h0=>?_) (fun hc5 h0=>?_)
      ·refine .a [] T [(4,bE false)] ?_;cases h0;exact .rt hK
      ·obtain⟨k6,hk6,h0⟩:=bnd h0;refine .a [.call [] (bE k6) []] (A (ih.2 _ _ hk6) T) [(31,bE (!k6))] ?_;refine .jT h0 (fun hc7 h0=>?_) (fun hc7 h0=>?_)
       ·refine .a [] T [(4,bE false)] ?_;cases h0;exact .rt hK
       ·refine .a [] T [(4,bE true)] ?_;cases h0;exact .rt hK
  ·intro a0 a1 r h0;rw[la_eqFormS] at h0;refine .n Tryd.func58 (fun L ks low K hl hL hlen hK=>?_);refine .a [] T [] ?_;refine .a [.v (a0.length:Int),.v (a1.length:Int)] (A (dForm.len' a0) (A (dForm.len' a1) T)) [(10,dE (¬(a0.length:Int)=(a1.length:Int)))] ?_;refine .sn 0 dForm a0 (by kernel_rfl) (fun hb1=>?_);refine .sn 1 dForm a1 (by kernel_rfl) (fun hb2=>?_);refine .jP h0 (fun hc3 h0=>?_) (fun hc3 h0=>?_)
   ·refine .a [] T [(4,bE false)] ?_;cases h0;exact .rt hK
   ·refine .a [] T [(5,iE 0)] ?_;refine .lI h0 rfl [0,1] (fun i4 s5=>[(5,iE (i4:Int))]) n2 n2 [] (by kernel_rfl) (fun i4 s5 q6 hd8 hi10 h0=>?_);refine .a [.v (a0.length:Int)] (A (dForm.len' a0) T) [(14,dE ((i4:Int)<(a0.length:Int)))] ?_;refine .lc hd8 rfl (by kernel_rfl) (fun x7 q62 hc11 hx7 hd9 hd9l=>?_) (fun hc11=>?_)
    ·subst hc11;obtain⟨y1,h1,hw1,hn1⟩:=forI_cons h0;obtain⟨e12,he12,h1⟩:=bnd h1;obtain⟨k13,hk13,h1⟩:=bnd h1;refine .ad mixed [(2,[.cs (kForm x7)]),(6,[.cs (kForm e12)]),(8,[.call [] (bE k13) []])] [] (A (dForm.idn hx7) (A (dForm.idx he12) (A (ih.1 _ _ hk13) T))) [(26,bE (!k13))] [] [] ?_;refine .jT h1 (fun hc14 h1=>?_) (fun hc14 h1=>?_)
     ·refine .a [] T [(4,bE false)] ?_;cases h1;cases hw1 _ rfl;exact .rt hK
     ·refine .a [.v ((i4+1:Nat):Int)] (A (wn (i:=i4) (by omega)) T) [(5,iE ((i4+1:Nat):Int))] ?_;cases h1;exact .nL rfl (i4+1) _ hd9 hd9l (hn1 _ rfl) [] (by kernel_rfl)
    ·subst hc11;have h0:=forI_nil h0;refine .a [] T [(4,bE true)] ?_;cases h0;exact .rt hK
theorem w_la_eqForm (n:Nat):∀(a0:Form) (a1:Form) {r:Bool},la_eqForm n a0 a1=some r→SCall X.E 26 [aE (kForm a0),aE (kForm a1)] [] (bE r) []:=(g_la_eqForm n).1
theorem w_la_eqFormS (n:Nat):∀(a0:List Form) (a1:List Form) {r:Bool},la_eqFormS n a0 a1=some r→SCall X.E 58 [lE 5 (ksForm a0),lE 5 (ksForm a1)] [] (bE r) []:=(g_la_eqForm n).2
mutual
def la_eqCore:Nat→Core→Core→Option (Bool)
 | 0,_,_=>none
 | n+1,a0,a1=>(if ¬a0.kind=a1.kind then some false else(if ¬a0.id=a1.id then some false else(if ¬a0.name=a1.name then some false else(if ¬a0.n=a1.n then some false else(la_eqIntS n a0.ids a1.ids).bind fun k5=>(if(!k5)=true then some false else(la_eqForm n a0.data a1.data).bind fun k7=>(if(!k7)=true then some false else(la_eqCoreS n a0.kids a1.kids).bind fun k9=>(if(!k9)=true then some false else some true)))))))
def la_eqCoreS:Nat→(List Core)→(List Core)→Option (Bool)
 | 0,_,_=>none
 | n+1,a0,a1=>(if ¬(a0.length:Int)=(a1.length:Int) then some false else seqS (forI (fun(s5:Unit) (i4:Nat) (x7:Core)=>((atI a1 (i4:Int)).bind fun e12=>(la_eqCore n x7 e12).bind fun k13=>(if(!k13)=true then some (Sum.inl false) else some (Sum.inr ())):Option (Bool⊕Unit))) 0 a0 ()) (fun(s5:Unit)=>some true))
end
theorem g_la_eqCore (n:Nat):(∀(a0:Core) (a1:Core) {r:Bool},la_eqCore n a0 a1=some r→SCall X.E 21 [aE (kCore a0),aE (kCore a1)] [] (bE r) [])∧(∀(a0:List Core) (a1:List Core) {r:Bool},la_eqCoreS n a0 a1=some r→SCall X.E 51 [lE 11 (ksCore a0),lE 11 (ksCore a1)] [] (bE r) []):=by
 induction n with
 | zero=>exact⟨(by intros; rename_i h; cases h),(by intros; rename_i h; cases h)⟩
 | succ n ih=>
  refine⟨?_,?_⟩
  ·intro a0 a1 r h0;rw[la_eqCore] at h0;refine .n Tryd.func21 (fun L ks low K hl hL hlen hK=>?_);refine .af [] T [(2,pw 2),(3,pw 3)] [.o 2 (.cells ((kCore a0).map .d)),.o 3 (.cells ((kCore a1).map .d))] ?_;refine .a [] T [(9,dE (¬a0.kind=a1.kind))] ?_;refine .jP h0 (fun hc1 h0=>?_) (fun hc1 h0=>?_)
   ·refine .a [] T [(4,bE false)] ?_;cases h0;exact .rt hK
   ·refine .a [] T [(14,dE (¬a0.id=a1.id))] ?_;refine .jP h0 (fun hc2 h0=>?_) (fun hc2 h0=>?_)
    ·refine .a [] T [(4,bE false)] ?_;cases h0;exact .rt hK
    ·refine .a [] T [(19,dE (¬a0.name=a1.name))] ?_;refine .jP h0 (fun hc3 h0=>?_) (fun hc3 h0=>?_)
     ·refine .a [] T [(4,bE false)] ?_;cases h0;exact .rt hK
     ·refine .a [] T [(24,dE (¬a0.n=a1.n))] ?_;refine .jP h0 (fun hc4 h0=>?_) (fun hc4 h0=>?_)
      ·refine .a [] T [(4,bE false)] ?_;cases h0;exact .rt hK
      ·obtain⟨k5,hk5,h0⟩:=bnd h0;refine .a [.call [] (bE k5) []] (A (w_la_eqIntS n _ _ hk5) T) [(30,bE (!k5))] ?_;refine .jT h0 (fun hc6 h0=>?_) (fun hc6 h0=>?_)
       ·refine .a [] T [(4,bE false)] ?_;cases h0;exact .rt hK
       ·obtain⟨k7,hk7,h0⟩:=bnd h0;refine .a [.call [] (bE k7) []] (A (w_la_eqForm n _ _ hk7) T) [(36,bE (!k7))] ?_;refine .jT h0 (fun hc8 h0=>?_) (fun hc8 h0=>?_)
        ·refine .a [] T [(4,bE false)] ?_;cases h0;exact .rt hK
        ·obtain⟨k9,hk9,h0⟩:=bnd h0;refine .a [.call [] (bE k9) []] (A (ih.2 _ _ hk9) T) [(42,bE (!k9))] ?_;refine .jT h0 (fun hc10 h0=>?_) (fun hc10 h0=>?_)
         ·refine .a [] T [(4,bE false)] ?_;cases h0;exact .rt hK
         ·refine .a [] T [(4,bE true)] ?_;cases h0;exact .rt hK
  ·intro a0 a1 r h0;rw[la_eqCoreS] at h0;refine .n Tryd.func51 (fun L ks low K hl hL hlen hK=>?_);refine .a [] T [] ?_;refine .a [.v (a0.length:Int),.v (a1.length:Int)] (A (dCore.len' a0) (A (dCore.len' a1) T)) [(10,dE (¬(a0.length:Int)=(a1.length:Int)))] ?_;refine .sn 0 dCore a0 (by kernel_rfl) (fun hb1=>?_);refine .sn 1 dCore a1 (by kernel_rfl) (fun hb2=>?_);refine .jP h0 (fun hc3 h0=>?_) (fun hc3 h0=>?_)
   ·refine .a [] T [(4,bE false)] ?_;cases h0;exact .rt hK
   ·refine .a [] T [(5,iE 0)] ?_;refine .lI h0 rfl [0,1] (fun i4 s5=>[(5,iE (i4:Int))]) n2 n2 [] (by kernel_rfl) (fun i4 s5 q6 hd8 hi10 h0=>?_);refine .a [.v (a0.length:Int)] (A (dCore.len' a0) T) [(14,dE ((i4:Int)<(a0.length:Int)))] ?_;refine .lc hd8 rfl (by kernel_rfl) (fun x7 q62 hc11 hx7 hd9 hd9l=>?_) (fun hc11=>?_)
    ·subst hc11;obtain⟨y1,h1,hw1,hn1⟩:=forI_cons h0;obtain⟨e12,he12,h1⟩:=bnd h1;obtain⟨k13,hk13,h1⟩:=bnd h1;refine .ad mixed [(2,[.cs (kCore x7)]),(6,[.cs (kCore e12)]),(8,[.call [] (bE k13) []])] [] (A (dCore.idn hx7) (A (dCore.idx he12) (A (ih.1 _ _ hk13) T))) [(26,bE (!k13))] [] [] ?_;refine .jT h1 (fun hc14 h1=>?_) (fun hc14 h1=>?_)
     ·refine .a [] T [(4,bE false)] ?_;cases h1;cases hw1 _ rfl;exact .rt hK
     ·refine .a [.v ((i4+1:Nat):Int)] (A (wn (i:=i4) (by omega)) T) [(5,iE ((i4+1:Nat):Int))] ?_;cases h1;exact .nL rfl (i4+1) _ hd9 hd9l (hn1 _ rfl) [] (by kernel_rfl)
    ·subst hc11;have h0:=forI_nil h0;refine .a [] T [(4,bE true)] ?_;cases h0;exact .rt hK
theorem w_la_eqCore (n:Nat):∀(a0:Core) (a1:Core) {r:Bool},la_eqCore n a0 a1=some r→SCall X.E 21 [aE (kCore a0),aE (kCore a1)] [] (bE r) []:=(g_la_eqCore n).1
theorem w_la_eqCoreS (n:Nat):∀(a0:List Core) (a1:List Core) {r:Bool},la_eqCoreS n a0 a1=some r→SCall X.E 51 [lE 11 (ksCore a0),lE 11 (ksCore a1)] [] (bE r) []:=(g_la_eqCore n).2
def la_heldIntS (n:Nat) (a0:List Int) (a1:Int):Option (Int):=
 seqS (forI (fun(s2:Int) (i1:Nat) (x4:Int)=>((if ¬x4=s2 then some (Sum.inl (-1)) else some (Sum.inr (w64 (s2+1)))):Option (Int⊕Int))) 0 a0 a1) (fun(s2:Int)=>some s2)
theorem w_la_heldIntS (n:Nat):∀(a0:List Int) (a1:Int) {r:Int},la_heldIntS n a0 a1=some r→SCall X.E 33 [lE 1 (ksInt a0),iE a1] [] (iE r) []:=by
 intro a0 a1 r h0;rw[la_heldIntS] at h0;refine .n Tryd.func33 (fun L ks low K hl hL hlen hK=>?_);refine .a [] T [] ?_;refine .a [] T [(5,iE 0)] ?_;refine .lI h0 rfl [0] (fun i1 s2=>[(1,iE s2),(5,iE (i1:Int))]) n2 n2 [] (by kernel_rfl) (fun i1 s2 q3 hd5 hi7 h0=>?_);refine .a [.v (a0.length:Int)] (A (dInt.len' a0) T) [(9,dE ((i1:Int)<(a0.length:Int)))] ?_;refine .sn 0 dInt a0 (by kernel_rfl) (fun hb8=>?_);refine .lc hd5 rfl (by kernel_rfl) (fun x4 q32 hc9 hx4 hd6 hd6l=>?_) (fun hc9=>?_)
 ·subst hc9;obtain⟨y1,h1,hw1,hn1⟩:=forI_cons h0;refine .a [.cs [.v (.int .i64 x4)]] (A (dInt.idn hx4) T) [(17,dE (¬x4=s2))] ?_;refine .jP h1 (fun hc10 h1=>?_) (fun hc10 h1=>?_)
  ·refine .a [] T [(4,iE (-1))] ?_;cases h1;cases hw1 _ rfl;exact .rt hK
  ·refine .a [.pl] T [(1,iE (w64 (s2+1)))] ?_;refine .a [.v ((i1+1:Nat):Int)] (A (wn (i:=i1) (by omega)) T) [(5,iE ((i1+1:Nat):Int))] ?_;cases h1;exact .nL rfl (i1+1) _ hd6 hd6l (hn1 _ rfl) [] (by kernel_rfl)
 ·subst hc9;have h0:=forI_nil h0;refine .a [] T [(4,iE s2)] ?_;cases h0;exact .rt hK
def slices_Index_string (n:Nat) (a0:List (List UInt8)) (a1:List UInt8):Option (Int):=
 seqS (forI (fun(s3:Unit) (i2:Nat) (x5:List UInt8)=>((if a1=x5 then some (Sum.inl (i2:Int)) else some (Sum.inr ())):Option (Int⊕Unit))) 0 a0 ()) (fun(s3:Unit)=>some (-1))
theorem w_slices_Index_string (n:Nat):∀(a0:List (List UInt8)) (a1:List UInt8) {r:Int},slices_Index_string n a0 a1=some r→SCall X.E 42 [lE 1 (ksStr a0),sE a1] [] (iE r) []:=by
 intro a0 a1 r h0;rw[slices_Index_string] at h0;refine .n Tryd.func42 (fun L ks low K hl hL hlen hK=>?_);refine .a [] T [] ?_;refine .a [.v (a0.length:Int)] (A (dStr.len' a0) T) [(7,iE (a0.length:Int)),(8,iE 0)] ?_;refine .sn 0 dStr a0 (by kernel_rfl) (fun hb1=>?_);refine .lI h0 rfl [0,1,7] (fun i2 s3=>[(8,iE (i2:Int))]) n2 n2 [] (by kernel_rfl) (fun i2 s3 q4 hd6 hi8 h0=>?_);refine .a [] T [(9,dE ((i2:Int)<(a0.length:Int)))] ?_;refine .lc hd6 rfl (by kernel_rfl) (fun x5 q42 hc9 hx5 hd7 hd7l=>?_) (fun hc9=>?_)
 ·subst hc9;obtain⟨y1,h1,hw1,hn1⟩:=forI_cons h0;refine .a [] T [(5,iE (i2:Int))] ?_;refine .a [.cs [.s x5]] (A (dStr.idn hx5) T) [(16,dE (a1=x5))] ?_;refine .jP h1 (fun hc10 h1=>?_) (fun hc10 h1=>?_)
  ·refine .a [] T [(4,iE (i2:Int))] ?_;cases h1;cases hw1 _ rfl;exact .rt hK
  ·refine .a [.v ((i2+1:Nat):Int)] (A (wn (i:=i2) (by omega)) T) [(8,iE ((i2+1:Nat):Int))] ?_;cases h1;exact .nL rfl (i2+1) _ hd7 hd7l (hn1 _ rfl) [] (by kernel_rfl)
 ·subst hc9;have h0:=forI_nil h0;refine .a [] T [(4,iE (-1))] ?_;cases h0;exact .rt hK
def slices_Contains_string (n:Nat) (a0:List (List UInt8)) (a1:List UInt8):Option (Bool):=
 (slices_Index_string n a0 a1).bind fun k1=>some (decide (k1≥0))
theorem w_slices_Contains_string (n:Nat):∀(a0:List (List UInt8)) (a1:List UInt8) {r:Bool},slices_Contains_string n a0 a1=some r→SCall X.E 57 [lE 1 (ksStr a0),sE a1] [] (bE r) []:=by
 intro a0 a1 r h0;rw[slices_Contains_string] at h0;refine .n Tryd.func57 (fun L ks low K hl hL hlen hK=>?_);refine .a [] T [] ?_;obtain⟨k1,hk1,h0⟩:=bnd h0;refine .a [.call [] (iE k1) []] (A (w_slices_Index_string n _ _ hk1) T) [(4,dE (k1≥0))] ?_;cases h0;exact .rt hK
def im_isPrimitive (n:Nat) (a0:Core):Option (Bool):=
 Option.bind ((if a0.kind=2 then(slices_Contains_string n lp2 a0.name).bind fun k3=>some k3 else some false):Option (Bool)) (fun(o1:Bool)=>some o1)
theorem w_im_isPrimitive (n:Nat):∀(a0:Core) {r:Bool},im_isPrimitive n a0=some r→SCall X.E 50 [aE (kCore a0)] [] (bE r) []:=by
 intro a0 r h0;rw[im_isPrimitive] at h0;refine .n Tryd.func50 (fun L ks low K hl hL hlen hK=>?_);refine .af [] T [(1,pw 1)] [.o 1 (.cells ((kCore a0).map .d))] ?_;refine .bP h0 rfl [] (fun o1=>[(2,bE o1)]) n1 n1 (fun o1 h0=>?_) (fun y1 h1 hj1=>?_)
 ·cases h0;exact .rt hK
 ·by_cases g2:a0.kind=2
  ·have h1:=iteP g2 h1;obtain⟨k3,hk3,h1⟩:=bnd h1;refine .ad mixed (qb 4 3 true [(7,[.b true,.call [] (bE k3) []]),(8,[.b true])]) [] (R 3 (dt g2) (A (A (dt g2) (w_slices_Contains_string n _ _ hk3)) (A (dt g2) T))) [(2,bE k3)] [] [] ?_;cases h1;exact .lg hj1 []
  ·have h1:=iteN g2 h1;refine .ad mixed (qb 4 5 false []) [] (R 5 (df g2) T) [(2,bE false)] [] [] ?_;cases h1;exact .lg hj1 []
def im_HeadsOf_1 (n:Nat) (a0:Core) (w0:List Int):Option (List Int):=
 Option.bind ((if ¬a0.kind=6 then some true else some (decide ((a0.kids.length:Int)=0))):Option (Bool)) (fun(o1:Bool)=>(if o1=true then some w0 else(atI a0.kids 0).bind fun e3=>(if e3.kind=5 then(inB 0 w0.length).bind fun u5=>(w0[(Int.toNat 0)]?).bind fun e6=>(inB 0 w0.length).bind fun u7=>some (w0.set (Int.toNat 0) (w64 (e6+1))) else(im_isPrimitive n e3).bind fun k9=>(if k9=true then(inB 1 w0.length).bind fun u11=>(w0[(Int.toNat 1)]?).bind fun e12=>(inB 1 w0.length).bind fun u13=>some (w0.set (Int.toNat 1) (w64 (e12+1))) else(if e3.kind=1 then(inB 2 w0.length).bind fun u16=>(w0[(Int.toNat 2)]?).bind fun e17=>(inB 2 w0.length).bind fun u18=>some (w0.set (Int.toNat 2) (w64 (e17+1))) else(inB 3 w0.length).bind fun u20=>(w0[(Int.toNat 3)]?).bind fun e21=>(inB 3 w0.length).bind fun u22=>some (w0.set (Int.toNat 3) (w64 (e21+1))))))))
theorem w_im_HeadsOf_1 (n:Nat):∀(a0:Core) (w0:List Int) {r:List Int},im_HeadsOf_1 n a0 w0=some r→SCall X.E 62 [aE (kCore a0),pl 0] [some (.cells [.vs (.low 1) 1 ((ksInt w0).length)]),some (.vec 3 1 (ksInt w0))] (.tup []) [.cells [.vs (.low 1) 1 ((ksInt r).length)],.vec 3 1 (ksInt r)]:=by
 intro a0 w0 r h0;rw[im_HeadsOf_1] at h0;refine .n Tryd.func62 (fun L ks low K hl hL hlen hK=>?_);refine .af [] T [(2,pw 2)] [.o 2 (.cells ((kCore a0).map .d))] ?_;refine .bP h0 rfl [1,2] (fun o1=>[(12,bE o1)]) n1 n1 (fun o1 h0=>?_) (fun y1 h1 hj1=>?_)
 ·refine .jT h0 (fun hc2 h0=>?_) (fun hc2 h0=>?_)
  ·cases h0;exact .rt hK
  ·obtain⟨e3,he3,h0⟩:=bnd h0;refine .af [.cs (kCore e3)] (A (dCore.idx he3) T) [(3,pw 3)] [.o 3 (.cells ((kCore e3).map .d))] ?_;refine .a [] T [(22,dE (e3.kind=5))] ?_;refine .jP h0 (fun hc4 h0=>?_) (fun hc4 h0=>?_)
   ·obtain⟨u5,hu5,h0⟩:=bnd h0;obtain⟨e6,he6,h0⟩:=bnd h0;obtain⟨u7,hu7,h0⟩:=bnd h0;refine .ao [.cs [.v (.int .i64 e6)],.pl,.cs [.v (.int .i64 e6)],.sv (ksInt (w0.set (Int.toNat 0) (w64 (e6+1))))] (A (A (dInt.inv hu5 (rfl:(ksInt w0).length=(ksInt w0).length)) (rfl:(ksInt w0).length=(ksInt w0).length)) (A (A (A (dInt.rows w0) (dInt.ixr he6)) (rfl:(ksInt w0).length=(ksInt w0).length)) (A (A (dInt.inv hu7 (rfl:(ksInt w0).length=(ksInt w0).length)) (rfl:(ksInt w0).length=(ksInt w0).length)) (A (A (A (A (dInt.rows w0) (dInt.ixr he6)) (rfl:(ksInt w0).length=(ksInt w0).length)) (dInt.seti w0 (Int.toNat 0) (w64 (e6+1)))) T)))) [] [.c 0 0 (.vs (.low 1) 1 ((ksInt w0).length)),.o 1 (.vec 3 1 (ksInt (w0.set (Int.toNat 0) (w64 (e6+1)))))] ?_;refine .rn (by simp only[dInt.length,List.length_set]:(ksInt w0).length=(ksInt (w0.set (Int.toNat 0) (w64 (e6+1)))).length) (fun nk8=>[]) (fun nk8=>[]) (fun nk8=>[.c 0 0 (.vs (.low 1) 1 nk8)]) (by kernel_rfl) ?_;cases h0;exact .fin rfl rfl rfl rfl hK
   ·obtain⟨k9,hk9,h0⟩:=bnd h0;refine .a [.call [] (bE k9) []] (A (w_im_isPrimitive n _ hk9) T) [(31,bE k9)] ?_;refine .jT h0 (fun hc10 h0=>?_) (fun hc10 h0=>?_)
    ·obtain⟨u11,hu11,h0⟩:=bnd h0;obtain⟨e12,he12,h0⟩:=bnd h0;obtain⟨u13,hu13,h0⟩:=bnd h0;refine .ao [.cs [.v (.int .i64 e12)],.pl,.cs [.v (.int .i64 e12)],.sv (ksInt (w0.set (Int.toNat 1) (w64 (e12+1))))] (A (A (dInt.inv hu11 (rfl:(ksInt w0).length=(ksInt w0).length)) (rfl:(ksInt w0).length=(ksInt w0).length)) (A (A (A (dInt.rows w0) (dInt.ixr he12)) (rfl:(ksInt w0).length=(ksInt w0).length)) (A (A (dInt.inv hu13 (rfl:(ksInt w0).length=(ksInt w0).length)) (rfl:(ksInt w0).length=(ksInt w0).length)) (A (A (A (A (dInt.rows w0) (dInt.ixr he12)) (rfl:(ksInt w0).length=(ksInt w0).length)) (dInt.seti w0 (Int.toNat 1) (w64 (e12+1)))) T)))) [] [.c 0 0 (.vs (.low 1) 1 ((ksInt w0).length)),.o 1 (.vec 3 1 (ksInt (w0.set (Int.toNat 1) (w64 (e12+1)))))] ?_;refine .rn (by simp only[dInt.length,List.length_set]:(ksInt w0).length=(ksInt (w0.set (Int.toNat 1) (w64 (e12+1)))).length) (fun nk14=>[]) (fun nk14=>[]) (fun nk14=>[.c 0 0 (.vs (.low 1) 1 nk14)]) (by kernel_rfl) ?_;cases h0;exact .fin rfl rfl rfl rfl hK
    ·refine .a [] T [(39,dE (e3.kind=1))] ?_;refine .jP h0 (fun hc15 h0=>?_) (fun hc15 h0=>?_)
     ·obtain⟨u16,hu16,h0⟩:=bnd h0;obtain⟨e17,he17,h0⟩:=bnd h0;obtain⟨u18,hu18,h0⟩:=bnd h0;refine .ao [.cs [.v (.int .i64 e17)],.pl,.cs [.v (.int .i64 e17)],.sv (ksInt (w0.set (Int.toNat 2) (w64 (e17+1))))] (A (A (dInt.inv hu16 (rfl:(ksInt w0).length=(ksInt w0).length)) (rfl:(ksInt w0).length=(ksInt w0).length)) (A (A (A (dInt.rows w0) (dInt.ixr he17)) (rfl:(ksInt w0).length=(ksInt w0).length)) (A (A (dInt.inv hu18 (rfl:(ksInt w0).length=(ksInt w0).length)) (rfl:(ksInt w0).length=(ksInt w0).length)) (A (A (A (A (dInt.rows w0) (dInt.ixr he17)) (rfl:(ksInt w0).length=(ksInt w0).length)) (dInt.seti w0 (Int.toNat 2) (w64 (e17+1)))) T)))) [] [.c 0 0 (.vs (.low 1) 1 ((ksInt w0).length)),.o 1 (.vec 3 1 (ksInt (w0.set (Int.toNat 2) (w64 (e17+1)))))] ?_;refine .rn (by simp only[dInt.length,List.length_set]:(ksInt w0).length=(ksInt (w0.set (Int.toNat 2) (w64 (e17+1)))).length) (fun nk19=>[]) (fun nk19=>[]) (fun nk19=>[.c 0 0 (.vs (.low 1) 1 nk19)]) (by kernel_rfl) ?_;cases h0;exact .fin rfl rfl rfl rfl hK
     ·obtain⟨u20,hu20,h0⟩:=bnd h0;obtain⟨e21,he21,h0⟩:=bnd h0;obtain⟨u22,hu22,h0⟩:=bnd h0;refine .ao [.cs [.v (.int .i64 e21)],.pl,.cs [.v (.int .i64 e21)],.sv (ksInt (w0.set (Int.toNat 3) (w64 (e21+1))))] (A (A (dInt.inv hu20 (rfl:(ksInt w0).length=(ksInt w0).length)) (rfl:(ksInt w0).length=(ksInt w0).length)) (A (A (A (dInt.rows w0) (dInt.ixr he21)) (rfl:(ksInt w0).length=(ksInt w0).length)) (A (A (dInt.inv hu22 (rfl:(ksInt w0).length=(ksInt w0).length)) (rfl:(ksInt w0).length=(ksInt w0).length)) (A (A (A (A (dInt.rows w0) (dInt.ixr he21)) (rfl:(ksInt w0).length=(ksInt w0).length)) (dInt.seti w0 (Int.toNat 3) (w64 (e21+1)))) T)))) [] [.c 0 0 (.vs (.low 1) 1 ((ksInt w0).length)),.o 1 (.vec 3 1 (ksInt (w0.set (Int.toNat 3) (w64 (e21+1)))))] ?_;refine .rn (by simp only[dInt.length,List.length_set]:(ksInt w0).length=(ksInt (w0.set (Int.toNat 3) (w64 (e21+1)))).length) (fun nk23=>[]) (fun nk23=>[]) (fun nk23=>[.c 0 0 (.vs (.low 1) 1 nk23)]) (by kernel_rfl) ?_;cases h0;exact .fin rfl rfl rfl rfl hK
 ·by_cases g24:¬a0.kind=6
  ·have h1:=iteP g24 h1;refine .a (rb 5 true []) (R 5 (dt g24) T) [(12,bE true)] ?_;cases h1;exact .lg hj1 []
  ·have h1:=iteN g24 h1;refine .a (rb 3 false [.v (a0.kids.length:Int),.b false,.b false]) (R 2 (df g24) (A (A (df g24) (dCore.len' a0.kids)) (R 2 (df g24) T))) [(12,dE ((a0.kids.length:Int)=0))] ?_;cases h1;exact .lg hj1 []
def im_eachCore__im_HeadsOf_1:Nat→Core→(List Int)→Option (List Int)
 | 0,_,_=>none
 | n+1,a0,w0=>(im_HeadsOf_1 n a0 w0).bind fun k1=>Option.bind (forL (fun(s4:List Int) (i3:Nat) (x6:Core)=>(im_eachCore__im_HeadsOf_1 n x6 s4).bind fun k11=>some k11) 0 a0.kids k1) (fun(s4:List Int)=>some s4)
theorem w_im_eachCore__im_HeadsOf_1 (n:Nat):∀(a0:Core) (w0:List Int) {r:List Int},im_eachCore__im_HeadsOf_1 n a0 w0=some r→SCall X.E 61 [aE (kCore a0),.clo 62 [] [pl 0]] [some (.cells [.vs (.low 1) 1 ((ksInt w0).length)]),some (.vec 3 1 (ksInt w0))] (.tup []) [.cells [.vs (.low 1) 1 ((ksInt r).length)],.vec 3 1 (ksInt r)]:=by
 induction n with
 | zero=>intro a0 w0 r h; cases h
 | succ n ih=>
  intro a0 w0 r h0;rw[im_eachCore__im_HeadsOf_1] at h0;refine .n Tryd.func61 (fun L ks low K hl hL hlen hK=>?_);refine .af [] T [(2,pw 2)] [.o 2 (.cells ((kCore a0).map .d))] ?_;obtain⟨k1,hk1,h0⟩:=bnd h0;refine .ao [.call [.low 0,.low 1] (.tup []) [.cells [.vs (.low 1) 1 ((ksInt k1).length)],.vec 3 1 (ksInt k1)]] (A (w_im_HeadsOf_1 n _ _ hk1) T) [] [.c 0 0 (.vs (.low 1) 1 ((ksInt k1).length)),.o 1 (.vec 3 1 (ksInt k1))] ?_;refine .a [.v (a0.kids.length:Int)] (A (dCore.len' a0.kids) T) [(10,lE 11 (ksCore a0.kids)),(11,iE (a0.kids.length:Int)),(12,iE 0)] ?_;refine .sn 10 dCore a0.kids (by kernel_rfl) (fun hb2=>?_);refine .lL h0 rfl [1,10,11] (fun i3 s4=>[(12,iE (i3:Int))]) n2 (fun i3 s4=>[.c 0 0 (.vs (.low 1) 1 ((ksInt s4).length)),.o 1 (.vec 3 1 (ksInt s4))]) [] (by kernel_rfl) (fun i3 s4 q5 hd7 hi9 h0=>?_);refine .a [] T [(13,dE ((i3:Int)<(a0.kids.length:Int)))] ?_;refine .lc hd7 rfl (by kernel_rfl) (fun x6 q52 hc10 hx6 hd8 hd8l=>?_) (fun hc10=>?_)
  ·subst hc10;obtain⟨y1,h1,hn1⟩:=forL_cons h0;refine .af [.cs (kCore x6)] (A (dCore.idn hx6) T) [(5,pw 5)] [.o 5 (.cells ((kCore x6).map .d))] ?_;obtain⟨k11,hk11,h1⟩:=bnd h1;refine .ao [.call [.low 0,.low 1] (.tup []) [.cells [.vs (.low 1) 1 ((ksInt k11).length)],.vec 3 1 (ksInt k11)]] (A (ih _ _ hk11) T) [] [.c 0 0 (.vs (.low 1) 1 ((ksInt k11).length)),.o 1 (.vec 3 1 (ksInt k11))] ?_;refine .a [.v ((i3+1:Nat):Int)] (A (wn (i:=i3) (by omega)) T) [(12,iE ((i3+1:Nat):Int))] ?_;cases h1;refine .kp [1,10,11,12] [] ?_;refine .dr 5 (by kernel_rfl) ?_;exact .nL rfl (i3+1) _ hd8 hd8l hn1 [] (by kernel_rfl)
  ·subst hc10;have h0:=forL_nil h0;cases h0;exact .fin rfl rfl rfl rfl hK
def im_HeadsOf (n:Nat) (a0:Core):Option (List Int):=
 (mkB 8 4).bind fun u1=>(im_eachCore__im_HeadsOf_1 n a0 (List.replicate (4:Int).toNat 0)).bind fun k2=>some k2
theorem w_im_HeadsOf (n:Nat):∀(a0:Core) {r:List Int},im_HeadsOf n a0=some r→SCall X.E 29 [aE (kCore a0)] [] (lE 1 (ksInt r)) []:=by
 intro a0 r h0;rw[im_HeadsOf] at h0;refine .n Tryd.func29 (fun L ks low K hl hL hlen hK=>?_);refine .af [] T [(1,pw 1)] [.o 1 (.cells ((kCore a0).map .d))] ?_;obtain⟨u1,hu1,h0⟩:=bnd h0;refine .aq [.mv 4,.sv (ksInt (List.replicate (4:Int).toNat 0))] [4] (A (A (mk_ok hu1) (dInt.rep ((4:Int).toNat) 0)) T) [(3,pw 3)] [.o 4 (.vec 3 1 (ksInt (List.replicate (4:Int).toNat 0))),.o 3 (.cells [.vs (.own 4) 1 ((ksInt (List.replicate (4:Int).toNat 0)).length)])] [] ?_;obtain⟨k2,hk2,h0⟩:=bnd h0;refine .af [.call [.own 3,.own 4] (.tup []) [.cells [.vs (.low 1) 1 ((ksInt k2).length)],.vec 3 1 (ksInt k2)]] (A (w_im_eachCore__im_HeadsOf_1 n _ _ hk2) T) [] [.o 4 (.vec 3 1 (ksInt k2)),.c 3 0 (.vs (.own 4) 1 ((ksInt k2).length))] ?_;refine .a [] T [(2,.vs (.own 4) 1 ((ksInt k2).length))] ?_;refine .kp [2] [] ?_;refine .dr 1 (by kernel_rfl) ?_;refine .dr 3 (by kernel_rfl) ?_;refine .ft 2 4 [] dInt k2 (rfl:(ksInt k2).length=(ksInt k2).length) (by kernel_rfl) ?_;cases h0;exact .rt hK
theorem w_im_HeadsOf_o (n:Nat):∀(a0:Core) {r:List Int},im_HeadsOf n a0=some r→SCall X.E 29 [aE (kCore a0)] [none] (.vs (.low 0) 1 ((ksInt r).length)) [.vec 3 1 (ksInt r)]:=by
 intro a0 r h0;rw[im_HeadsOf] at h0;refine .n Tryd.func29 (fun L ks low K hl hL hlen hK=>?_);refine .af [] T [(1,pw 1)] [.o 1 (.cells ((kCore a0).map .d))] ?_;obtain⟨u1,hu1,h0⟩:=bnd h0;refine .aq [.mv 4,.sv (ksInt (List.replicate (4:Int).toNat 0))] [4] (A (A (mk_ok hu1) (dInt.rep ((4:Int).toNat) 0)) T) [(3,pw 3)] [.o 4 (.vec 3 1 (ksInt (List.replicate (4:Int).toNat 0))),.o 3 (.cells [.vs (.own 4) 1 ((ksInt (List.replicate (4:Int).toNat 0)).length)])] [] ?_;obtain⟨k2,hk2,h0⟩:=bnd h0;refine .af [.call [.own 3,.own 4] (.tup []) [.cells [.vs (.low 1) 1 ((ksInt k2).length)],.vec 3 1 (ksInt k2)]] (A (w_im_eachCore__im_HeadsOf_1 n _ _ hk2) T) [] [.o 4 (.vec 3 1 (ksInt k2)),.c 3 0 (.vs (.own 4) 1 ((ksInt k2).length))] ?_;refine .a [] T [(2,.vs (.own 4) 1 ((ksInt k2).length))] ?_;refine .kp [2] [] ?_;refine .dr 1 (by kernel_rfl) ?_;refine .dr 3 (by kernel_rfl) ?_;refine .mv 2 4 0 [] (by kernel_rfl) ?_;cases h0;exact .rt hK
end Go.Ev
