/- Models of functions. No condition. -/
import Derived.Test.YtbifcdaablhljaaDoorEvTri
import Derived.Test.YtbifcdaablhljaaDoorProg
import Derived.KernelRfl
namespace Go.Ev
open Go.Proofs Go.Mx
set_option linter.unusedVariables false
set_option maxRecDepth 10000
def tT:List (Nat×(Nat×Nat×Shp)):=[(3,(1,8,.int .i64)),(9,(1,16,.str)),(25,(1,24,.slice 9)),(30,(1,24,.slice 3)),(31,(1,24,.slice 33)),(33,(5,80,.struct [(0,1),(1,1),(2,1),(3,1),(4,1)])),(34,(1,24,.slice 36)),(36,(11,168,.struct [(0,1),(1,1),(2,1),(3,1),(4,1),(5,5),(10,1)])),(39,(1,24,.slice 41)),(41,(5,80,.struct [(0,1),(1,1),(2,1),(3,1),(4,1)])),(42,(1,24,.slice 44)),(44,(11,168,.struct [(0,1),(1,1),(2,1),(3,1),(4,1),(5,5),(10,1)])),(80,(6,96,.array 6 9))]
def tZ:List (Nat×List KD):=[(9,[.s []]),(44,[.v (.int .i64 0),.v (.int .i64 0),.s [],.v (.int .i64 0),.sl 1 true (ksInt []),.v (.int .i64 0),.s [],.v (.int .i64 0),.sl 1 true (ksInt []),.sl 5 true (ksForm []),.sl 11 true (ksCore [])])]
theorem tT_ok:allT (fun i x=>tShape Tryd.prog i=some x) tT:=by
 refine⟨?_,?_,?_,?_,?_,?_,?_,?_,?_,?_,?_,?_,?_,trivial⟩ <;> (show tShape _ _=_; kernel_rfl)
theorem tZ_ok:allT (fun i x=>∃zs,tZero Tryd.prog i=some zs∧ZeroL (KD.DL x) zs) tZ:=
 ⟨⟨_,(by kernel_rfl:tZero Tryd.prog 9=some [.string (mkS [])]),(.v .nil)⟩,⟨_,(by kernel_rfl:tZero Tryd.prog 44=some [.int .i64 0,.int .i64 0,.string (mkS []),.int .i64 0,.slice none 0 0,.int .i64 0,.string (mkS []),.int .i64 0,.slice none 0 0,.slice none 0 0,.slice none 0 0]),(.v (.v (.v (.v (.sl (.v (.v (.v (.sl (.sl (.sl .nil)))))))))))⟩,trivial⟩
def lp2:List (List UInt8):=[[108,105,115,116],[43],[60],[61],[104,101,97,100],[116,97,105,108]]
def gp2:List KD:=[.s [108,105,115,116],.s [43],.s [60],.s [61],.s [104,101,97,100],.s [116,97,105,108]]
def globK:Nat→KD
 | 2=>.ro gp2
 | _=>.any
noncomputable def E0:Setting:=⟨Tryd.prog,fun g=>(globK g).D,fun g=>KD.keyless _ _⟩
noncomputable def X:Ctx:=⟨E0,globK,fun _=>rfl,⟨lkT tT,lkT tZ,lk_all tT_ok,lk_all tZ_ok⟩⟩
theorem mixed:X.E.P.follows .mixedOrders=true:=by kernel_rfl
def la_szIntS (n:Nat) (a0:List Int) (a1:Int):Option (Int):=
 (if(w64 (a1-(a0.length:Int)))<0 then some (-1) else some (w64 (a1-(a0.length:Int))))
theorem w_la_szIntS (n:Nat):∀(a0:List Int) (a1:Int) {r:Int},la_szIntS n a0 a1=some r→SCall X.E 45 [lE 1 (ksInt a0),iE a1] [] (iE r) []:=by
 intro a0 a1 r h0;rw[la_szIntS] at h0;refine .n Tryd.func45 (fun L ks low K hl hL hlen hK=>?_);refine .a [] T [] ?_;refine .a [.v (a0.length:Int),.pl] (A (dInt.len' a0) T) [(1,iE (w64 (a1-(a0.length:Int))))] ?_;refine .sn 0 dInt a0 (by kernel_rfl) (fun hb1=>?_);refine .a [] T [(10,dE ((w64 (a1-(a0.length:Int)))<0))] ?_;refine .jP h0 (fun hc2 h0=>?_) (fun hc2 h0=>?_)
 ·refine .a [] T [(4,iE (-1))] ?_;cases h0;exact .rt hK
 ·refine .a [] T [(4,iE (w64 (a1-(a0.length:Int))))] ?_;cases h0;exact .rt hK
mutual
def la_szForm:Nat→Form→Int→Option (Int)
 | 0,_,_=>none
 | n+1,a0,a1=>(if(w64 (a1-(a0.name.length:Int)))<0 then some (-1) else(la_szIntS n a0.scopes (w64 (a1-(a0.name.length:Int)))).bind fun k2=>(if k2<0 then some (-1) else(la_szFormS n a0.kids k2).bind fun k4=>(if k4<0 then some (-1) else some k4)))
def la_szFormS:Nat→(List Form)→Int→Option (Int)
 | 0,_,_=>none
 | n+1,a0,a1=>(if(w64 (a1-(a0.length:Int)))<0 then some (-1) else seqS (forI (fun(s4:Int) (i3:Nat) (x6:Form)=>((la_szForm n x6 s4).bind fun k11=>(if k11<0 then some (Sum.inl (-1)) else some (Sum.inr k11)):Option (Int⊕Int))) 0 a0 (w64 (a1-(a0.length:Int)))) (fun(s4:Int)=>some s4))
end
theorem g_la_szForm (n:Nat):(∀(a0:Form) (a1:Int) {r:Int},la_szForm n a0 a1=some r→SCall X.E 22 [aE (kForm a0),iE a1] [] (iE r) [])∧(∀(a0:List Form) (a1:Int) {r:Int},la_szFormS n a0 a1=some r→SCall X.E 52 [lE 5 (ksForm a0),iE a1] [] (iE r) []):=by
 induction n with
 | zero=>exact⟨(by intros; rename_i h; cases h),(by intros; rename_i h; cases h)⟩
 | succ n ih=>
  refine⟨?_,?_⟩
  ·intro a0 a1 r h0;rw[la_szForm] at h0;refine .n Tryd.func22 (fun L ks low K hl hL hlen hK=>?_);refine .af [] T [(2,pw 2)] [.o 2 (.cells ((kForm a0).map .d))] ?_;refine .a [.pl] T [(1,iE (w64 (a1-(a0.name.length:Int))))] ?_;refine .a [] T [(11,dE ((w64 (a1-(a0.name.length:Int)))<0))] ?_;refine .jP h0 (fun hc1 h0=>?_) (fun hc1 h0=>?_)
   ·refine .a [] T [(4,iE (-1))] ?_;cases h0;exact .rt hK
   ·obtain⟨k2,hk2,h0⟩:=bnd h0;refine .a [.call [] (iE k2) []] (A (w_la_szIntS n _ _ hk2) T) [(1,iE k2)] ?_;refine .a [] T [(17,dE (k2<0))] ?_;refine .jP h0 (fun hc3 h0=>?_) (fun hc3 h0=>?_)
    ·refine .a [] T [(4,iE (-1))] ?_;cases h0;exact .rt hK
    ·obtain⟨k4,hk4,h0⟩:=bnd h0;refine .a [.call [] (iE k4) []] (A (ih.2 _ _ hk4) T) [(1,iE k4)] ?_;refine .a [] T [(23,dE (k4<0))] ?_;refine .jP h0 (fun hc5 h0=>?_) (fun hc5 h0=>?_)
     ·refine .a [] T [(4,iE (-1))] ?_;cases h0;exact .rt hK
     ·refine .a [] T [(4,iE k4)] ?_;cases h0;exact .rt hK
  ·intro a0 a1 r h0;rw[la_szFormS] at h0;refine .n Tryd.func52 (fun L ks low K hl hL hlen hK=>?_);refine .a [] T [] ?_;refine .a [.v (a0.length:Int),.pl] (A (dForm.len' a0) T) [(1,iE (w64 (a1-(a0.length:Int))))] ?_;refine .sn 0 dForm a0 (by kernel_rfl) (fun hb1=>?_);refine .a [] T [(11,dE ((w64 (a1-(a0.length:Int)))<0))] ?_;refine .jP h0 (fun hc2 h0=>?_) (fun hc2 h0=>?_)
   ·refine .a [] T [(4,iE (-1))] ?_;cases h0;exact .rt hK
   ·refine .a [] T [(5,iE 0)] ?_;refine .lI h0 rfl [0] (fun i3 s4=>[(1,iE s4),(5,iE (i3:Int))]) n2 n2 [] (by kernel_rfl) (fun i3 s4 q5 hd7 hi9 h0=>?_);refine .a [.v (a0.length:Int)] (A (dForm.len' a0) T) [(15,dE ((i3:Int)<(a0.length:Int)))] ?_;refine .lc hd7 rfl (by kernel_rfl) (fun x6 q52 hc10 hx6 hd8 hd8l=>?_) (fun hc10=>?_)
    ·subst hc10;obtain⟨y1,h1,hw1,hn1⟩:=forI_cons h0;obtain⟨k11,hk11,h1⟩:=bnd h1;refine .a [.cs (kForm x6),.call [] (iE k11) []] (A (dForm.idn hx6) (A (ih.1 _ _ hk11) T)) [(1,iE k11)] ?_;refine .a [] T [(25,dE (k11<0))] ?_;refine .jP h1 (fun hc12 h1=>?_) (fun hc12 h1=>?_)
     ·refine .a [] T [(4,iE (-1))] ?_;cases h1;cases hw1 _ rfl;exact .rt hK
     ·refine .a [.v ((i3+1:Nat):Int)] (A (wn (i:=i3) (by omega)) T) [(5,iE ((i3+1:Nat):Int))] ?_;cases h1;exact .nL rfl (i3+1) _ hd8 hd8l (hn1 _ rfl) [] (by kernel_rfl)
    ·subst hc10;have h0:=forI_nil h0;refine .a [] T [(4,iE s4)] ?_;cases h0;exact .rt hK
theorem w_la_szForm (n:Nat):∀(a0:Form) (a1:Int) {r:Int},la_szForm n a0 a1=some r→SCall X.E 22 [aE (kForm a0),iE a1] [] (iE r) []:=(g_la_szForm n).1
theorem w_la_szFormS (n:Nat):∀(a0:List Form) (a1:Int) {r:Int},la_szFormS n a0 a1=some r→SCall X.E 52 [lE 5 (ksForm a0),iE a1] [] (iE r) []:=(g_la_szForm n).2
mutual
def la_szCore:Nat→Core→Int→Option (Int)
 | 0,_,_=>none
 | n+1,a0,a1=>(if(w64 (a1-(a0.name.length:Int)))<0 then some (-1) else(la_szIntS n a0.ids (w64 (a1-(a0.name.length:Int)))).bind fun k2=>(if k2<0 then some (-1) else(la_szForm n a0.data k2).bind fun k4=>(if k4<0 then some (-1) else(la_szCoreS n a0.kids k4).bind fun k6=>(if k6<0 then some (-1) else some k6))))
def la_szCoreS:Nat→(List Core)→Int→Option (Int)
 | 0,_,_=>none
 | n+1,a0,a1=>(if(w64 (a1-(a0.length:Int)))<0 then some (-1) else seqS (forI (fun(s4:Int) (i3:Nat) (x6:Core)=>((la_szCore n x6 s4).bind fun k11=>(if k11<0 then some (Sum.inl (-1)) else some (Sum.inr k11)):Option (Int⊕Int))) 0 a0 (w64 (a1-(a0.length:Int)))) (fun(s4:Int)=>some s4))
end
theorem g_la_szCore (n:Nat):(∀(a0:Core) (a1:Int) {r:Int},la_szCore n a0 a1=some r→SCall X.E 17 [aE (kCore a0),iE a1] [] (iE r) [])∧(∀(a0:List Core) (a1:Int) {r:Int},la_szCoreS n a0 a1=some r→SCall X.E 46 [lE 11 (ksCore a0),iE a1] [] (iE r) []):=by
 induction n with
 | zero=>exact⟨(by intros; rename_i h; cases h),(by intros; rename_i h; cases h)⟩
 | succ n ih=>
  refine⟨?_,?_⟩
  ·intro a0 a1 r h0;rw[la_szCore] at h0;refine .n Tryd.func17 (fun L ks low K hl hL hlen hK=>?_);refine .af [] T [(2,pw 2)] [.o 2 (.cells ((kCore a0).map .d))] ?_;refine .a [.pl] T [(1,iE (w64 (a1-(a0.name.length:Int))))] ?_;refine .a [] T [(11,dE ((w64 (a1-(a0.name.length:Int)))<0))] ?_;refine .jP h0 (fun hc1 h0=>?_) (fun hc1 h0=>?_)
   ·refine .a [] T [(4,iE (-1))] ?_;cases h0;exact .rt hK
   ·obtain⟨k2,hk2,h0⟩:=bnd h0;refine .a [.call [] (iE k2) []] (A (w_la_szIntS n _ _ hk2) T) [(1,iE k2)] ?_;refine .a [] T [(17,dE (k2<0))] ?_;refine .jP h0 (fun hc3 h0=>?_) (fun hc3 h0=>?_)
    ·refine .a [] T [(4,iE (-1))] ?_;cases h0;exact .rt hK
    ·obtain⟨k4,hk4,h0⟩:=bnd h0;refine .a [.call [] (iE k4) []] (A (w_la_szForm n _ _ hk4) T) [(1,iE k4)] ?_;refine .a [] T [(23,dE (k4<0))] ?_;refine .jP h0 (fun hc5 h0=>?_) (fun hc5 h0=>?_)
     ·refine .a [] T [(4,iE (-1))] ?_;cases h0;exact .rt hK
     ·obtain⟨k6,hk6,h0⟩:=bnd h0;refine .a [.call [] (iE k6) []] (A (ih.2 _ _ hk6) T) [(1,iE k6)] ?_;refine .a [] T [(29,dE (k6<0))] ?_;refine .jP h0 (fun hc7 h0=>?_) (fun hc7 h0=>?_)
      ·refine .a [] T [(4,iE (-1))] ?_;cases h0;exact .rt hK
      ·refine .a [] T [(4,iE k6)] ?_;cases h0;exact .rt hK
  ·intro a0 a1 r h0;rw[la_szCoreS] at h0;refine .n Tryd.func46 (fun L ks low K hl hL hlen hK=>?_);refine .a [] T [] ?_;refine .a [.v (a0.length:Int),.pl] (A (dCore.len' a0) T) [(1,iE (w64 (a1-(a0.length:Int))))] ?_;refine .sn 0 dCore a0 (by kernel_rfl) (fun hb1=>?_);refine .a [] T [(11,dE ((w64 (a1-(a0.length:Int)))<0))] ?_;refine .jP h0 (fun hc2 h0=>?_) (fun hc2 h0=>?_)
   ·refine .a [] T [(4,iE (-1))] ?_;cases h0;exact .rt hK
   ·refine .a [] T [(5,iE 0)] ?_;refine .lI h0 rfl [0] (fun i3 s4=>[(1,iE s4),(5,iE (i3:Int))]) n2 n2 [] (by kernel_rfl) (fun i3 s4 q5 hd7 hi9 h0=>?_);refine .a [.v (a0.length:Int)] (A (dCore.len' a0) T) [(15,dE ((i3:Int)<(a0.length:Int)))] ?_;refine .lc hd7 rfl (by kernel_rfl) (fun x6 q52 hc10 hx6 hd8 hd8l=>?_) (fun hc10=>?_)
    ·subst hc10;obtain⟨y1,h1,hw1,hn1⟩:=forI_cons h0;obtain⟨k11,hk11,h1⟩:=bnd h1;refine .a [.cs (kCore x6),.call [] (iE k11) []] (A (dCore.idn hx6) (A (ih.1 _ _ hk11) T)) [(1,iE k11)] ?_;refine .a [] T [(25,dE (k11<0))] ?_;refine .jP h1 (fun hc12 h1=>?_) (fun hc12 h1=>?_)
     ·refine .a [] T [(4,iE (-1))] ?_;cases h1;cases hw1 _ rfl;exact .rt hK
     ·refine .a [.v ((i3+1:Nat):Int)] (A (wn (i:=i3) (by omega)) T) [(5,iE ((i3+1:Nat):Int))] ?_;cases h1;exact .nL rfl (i3+1) _ hd8 hd8l (hn1 _ rfl) [] (by kernel_rfl)
    ·subst hc10;have h0:=forI_nil h0;refine .a [] T [(4,iE s4)] ?_;cases h0;exact .rt hK
theorem w_la_szCore (n:Nat):∀(a0:Core) (a1:Int) {r:Int},la_szCore n a0 a1=some r→SCall X.E 17 [aE (kCore a0),iE a1] [] (iE r) []:=(g_la_szCore n).1
theorem w_la_szCoreS (n:Nat):∀(a0:List Core) (a1:Int) {r:Int},la_szCoreS n a0 a1=some r→SCall X.E 46 [lE 11 (ksCore a0),iE a1] [] (iE r) []:=(g_la_szCore n).2
def sp_l1In (n:Nat) (a0:List (List UInt8)) (a1:List UInt8):Option (Bool):=
 seqS (forI (fun(s2:Unit) (i1:Nat) (x4:List UInt8)=>((if x4=a1 then some (Sum.inl true) else some (Sum.inr ())):Option (Bool⊕Unit))) 0 a0 ()) (fun(s2:Unit)=>some false)
theorem w_sp_l1In (n:Nat):∀(a0:List (List UInt8)) (a1:List UInt8) {r:Bool},sp_l1In n a0 a1=some r→SCall X.E 65 [lE 1 (ksStr a0),sE a1] [] (bE r) []:=by
 intro a0 a1 r h0;rw[sp_l1In] at h0;refine .n Tryd.func65 (fun L ks low K hl hL hlen hK=>?_);refine .a [] T [] ?_;refine .a [] T [(5,iE 0)] ?_;refine .lI h0 rfl [0,1] (fun i1 s2=>[(5,iE (i1:Int))]) n2 n2 [] (by kernel_rfl) (fun i1 s2 q3 hd5 hi7 h0=>?_);refine .a [.v (a0.length:Int)] (A (dStr.len' a0) T) [(9,dE ((i1:Int)<(a0.length:Int)))] ?_;refine .sn 0 dStr a0 (by kernel_rfl) (fun hb8=>?_);refine .lc hd5 rfl (by kernel_rfl) (fun x4 q32 hc9 hx4 hd6 hd6l=>?_) (fun hc9=>?_)
 ·subst hc9;obtain⟨y1,h1,hw1,hn1⟩:=forI_cons h0;refine .a [.cs [.s x4]] (A (dStr.idn hx4) T) [(17,dE (x4=a1))] ?_;refine .jP h1 (fun hc10 h1=>?_) (fun hc10 h1=>?_)
  ·refine .a [] T [(4,bE true)] ?_;cases h1;cases hw1 _ rfl;exact .rt hK
  ·refine .a [.v ((i1+1:Nat):Int)] (A (wn (i:=i1) (by omega)) T) [(5,iE ((i1+1:Nat):Int))] ?_;cases h1;exact .nL rfl (i1+1) _ hd6 hd6l (hn1 _ rfl) [] (by kernel_rfl)
 ·subst hc9;have h0:=forI_nil h0;refine .a [] T [(4,bE false)] ?_;cases h0;exact .rt hK
def sp_l1In_v (n:Nat) (a0:List (List UInt8)) (a1:List UInt8):Option (Bool):=
 seqS (forI (fun(s2:Unit) (i1:Nat) (x4:List UInt8)=>((if x4=a1 then some (Sum.inl true) else some (Sum.inr ())):Option (Bool⊕Unit))) 0 a0 ()) (fun(s2:Unit)=>some false)
theorem w_sp_l1In_v (n:Nat):∀(a0:List (List UInt8)) (a1:List UInt8) {r:Bool},sp_l1In_v n a0 a1=some r→SCall X.E 65 [.vs (.low 0) 1 ((ksStr a0).length),sE a1] [some (.vec 9 1 (ksStr a0))] (bE r) [.vec 9 1 (ksStr a0)]:=by
 intro a0 a1 r h0;rw[sp_l1In_v] at h0;refine .n Tryd.func65 (fun L ks low K hl hL hlen hK=>?_);refine .a [] T [] ?_;refine .a [] T [(5,iE 0)] ?_;refine .lI h0 rfl [0,1] (fun i1 s2=>[(5,iE (i1:Int))]) n2 n2 [] (by kernel_rfl) (fun i1 s2 q3 hd5 hi7 h0=>?_);refine .a [.v (a0.length:Int)] (A (dStr.len' a0) T) [(9,dE ((i1:Int)<(a0.length:Int)))] ?_;refine .snV 0 dStr a0 (by kernel_rfl) (fun hb8=>?_);refine .lc hd5 rfl (by kernel_rfl) (fun x4 q32 hc9 hx4 hd6 hd6l=>?_) (fun hc9=>?_)
 ·subst hc9;obtain⟨y1,h1,hw1,hn1⟩:=forI_cons h0;refine .a [.cs [.s x4]] (A (A (dStr.inv (inB_of hx4) (rfl:(ksStr a0).length=(ksStr a0).length)) (rfl:(ksStr a0).length=(ksStr a0).length)) (A (A (A (dStr.rows a0) (dStr.ixr hx4)) (rfl:(ksStr a0).length=(ksStr a0).length)) T)) [(17,dE (x4=a1))] ?_;refine .jP h1 (fun hc10 h1=>?_) (fun hc10 h1=>?_)
  ·refine .a [] T [(4,bE true)] ?_;cases h1;cases hw1 _ rfl;exact .rt hK
  ·refine .a [.v ((i1+1:Nat):Int)] (A (wn (i:=i1) (by omega)) T) [(5,iE ((i1+1:Nat):Int))] ?_;cases h1;exact .nL rfl (i1+1) _ hd6 hd6l (hn1 _ rfl) [] (by kernel_rfl)
 ·subst hc9;have h0:=forI_nil h0;refine .a [] T [(4,bE false)] ?_;cases h0;exact .rt hK
def sp_l6Free:Nat→(List (List UInt8))→Core→Option (List (List UInt8))
 | 0,_,_=>none
 | n+1,a0,a1=>Option.bind ((if a1.kind=2 then(sp_l1In_v n a0 a1.name).bind fun k16=>some (!k16) else some false):Option (Bool)) (fun(o1:Bool)=>Option.bind ((if o1=true then(apB 16 a0 [a1.name]).bind fun z14=>some z14 else some a0):Option (List (List UInt8))) (fun(o2:List (List UInt8))=>Option.bind (forL (fun(s4:List (List UInt8)) (i3:Nat) (x6:Core)=>(sp_l6Free n s4 x6).bind fun k12=>some k12) 0 a1.kids o2) (fun(s4:List (List UInt8))=>some s4)))
theorem w_sp_l6Free (n:Nat):∀(a0:List (List UInt8)) (a1:Core) {r:List (List UInt8)},sp_l6Free n a0 a1=some r→SCall X.E 75 [.vs (.low 0) 1 ((ksStr a0).length),aE (kCore a1)] [some (.vec 9 1 (ksStr a0))] (.vs (.low 0) 1 ((ksStr r).length)) [.vec 9 1 (ksStr r)]:=by
 induction n with
 | zero=>intro a0 a1 r h; cases h
 | succ n ih=>
  intro a0 a1 r h0;rw[sp_l6Free] at h0;refine .n Tryd.func75 (fun L ks low K hl hL hlen hK=>?_);refine .af [] T [(3,pw 3)] [.o 3 (.cells ((kCore a1).map .d))] ?_;refine .bP h0 rfl [0,3] (fun o1=>[(15,bE o1)]) n1 n1 (fun o1 h0=>?_) (fun y1 h1 hj1=>?_)
  ·refine .bP h0 rfl [3] (fun o2=>[(0,.vs (.low 0) 1 ((ksStr o2).length))]) n1 (fun o2=>[.o 0 (.vec 9 1 (ksStr o2))]) (fun o2 h0=>?_) (fun y1 h1 hj1=>?_)
   ·refine .a [] T [(5,iE 0)] ?_;refine .lL h0 rfl [3] (fun i3 s4=>[(0,.vs (.low 0) 1 ((ksStr s4).length)),(5,iE (i3:Int))]) n2 (fun i3 s4=>[.o 0 (.vec 9 1 (ksStr s4))]) [] (by kernel_rfl) (fun i3 s4 q5 hd7 hi9 h0=>?_);refine .a [.v (a1.kids.length:Int)] (A (dCore.len' a1.kids) T) [(23,lE 11 (ksCore a1.kids)),(25,dE ((i3:Int)<(a1.kids.length:Int)))] ?_;refine .sn 23 dCore a1.kids (by kernel_rfl) (fun hb10=>?_);refine .lc hd7 rfl (by kernel_rfl) (fun x6 q52 hc11 hx6 hd8 hd8l=>?_) (fun hc11=>?_)
    ·subst hc11;obtain⟨y1,h1,hn1⟩:=forL_cons h0;obtain⟨k12,hk12,h1⟩:=bnd h1;refine .ao [.cs (kCore x6),.call [.low 0] (.vs (.low 0) 1 ((ksStr k12).length)) [.vec 9 1 (ksStr k12)]] (A (dCore.idn hx6) (A (ih _ _ hk12) T)) [(0,.vs (.low 0) 1 ((ksStr k12).length))] [.o 0 (.vec 9 1 (ksStr k12))] ?_;refine .a [.v ((i3+1:Nat):Int)] (A (wn (i:=i3) (by omega)) T) [(5,iE ((i3+1:Nat):Int))] ?_;cases h1;exact .nL rfl (i3+1) _ hd8 hd8l hn1 [] (by kernel_rfl)
    ·subst hc11;have h0:=forL_nil h0;refine .a [] T [(4,.vs (.low 0) 1 ((ksStr s4).length))] ?_;refine .kp [4] [] ?_;refine .dr 3 (by kernel_rfl) ?_;cases h0;exact .rt hK
   ·refine .jT h1 (fun hc13 h1=>?_) (fun hc13 h1=>?_)
    ·obtain⟨z14,hz14,h1⟩:=bnd h1;refine .ao [.sv (ksStr [a1.name]),.sv (ksStr z14)] (A (dStr.lit [a1.name]) (A (A (dStr.ap hz14) (rfl:(ksStr a0).length=(ksStr a0).length)) T)) [(0,.vs (.low 0) 1 ((ksStr z14).length))] [.o 0 (.vec 9 1 (ksStr z14))] ?_;cases h1;exact .lg hj1 []
    ·cases h1;exact .lg hj1 []
  ·by_cases g15:a1.kind=2
   ·have h1:=iteP g15 h1;obtain⟨k16,hk16,h1⟩:=bnd h1;refine .a (rb 4 true [.call [.low 0] (bE k16) [.vec 9 1 (ksStr a0)],.b true,.b true]) (R 3 (dt g15) (A (A (dt g15) (w_sp_l1In_v n _ _ hk16)) (R 2 (dt g15) T))) [(15,bE (!k16))] ?_;cases h1;exact .lg hj1 []
   ·have h1:=iteN g15 h1;refine .a (rb 6 false []) (R 6 (df g15) T) [(15,bE false)] ?_;cases h1;exact .lg hj1 []
def sp_FreeOf (n:Nat) (a0:Core):Option (List (List UInt8)):=
 (sp_l6Free n [] a0).bind fun k1=>some k1
theorem w_sp_FreeOf (n:Nat):∀(a0:Core) {r:List (List UInt8)},sp_FreeOf n a0=some r→SCall X.E 64 [aE (kCore a0)] [] (lE 1 (ksStr r)) []:=by
 intro a0 r h0;rw[sp_FreeOf] at h0;refine .n Tryd.func64 (fun L ks low K hl hL hlen hK=>?_);refine .af [] T [(1,pw 1)] [.o 1 (.cells ((kCore a0).map .d))] ?_;obtain⟨k1,hk1,h0⟩:=bnd h0;refine .af [.gv 3,.sv (ksStr []),.call [.own 100003] (.vs (.low 0) 1 ((ksStr k1).length)) [.vec 9 1 (ksStr k1)]] (A (dStr.lit []) (A (w_sp_l6Free n _ _ hk1) T)) [(2,.vs (.own 100003) 1 ((ksStr k1).length))] [.o 100003 (.vec 9 1 (ksStr k1))] ?_;refine .kp [2] [] ?_;refine .dr 1 (by kernel_rfl) ?_;refine .ft 2 100003 [] dStr k1 (rfl:(ksStr k1).length=(ksStr k1).length) (by kernel_rfl) ?_;cases h0;exact .rt hK
def sp_l8Prims (n:Nat)  : Option (List (List UInt8)):=
 some [[43],[60],[61],[108,105,115,116],[104,101,97,100],[116,97,105,108]]
theorem w_sp_l8Prims (n:Nat):∀{r:List (List UInt8)},sp_l8Prims n  = some r→SCall X.E 66 [] [] (lE 1 (ksStr r)) []:=by
 intro r h0;rw[sp_l8Prims] at h0;refine .n Tryd.func66 (fun L ks low K hl hL hlen hK=>?_);refine .a [] T [] ?_;refine .a [.sv (ksStr [[43],[60],[61],[108,105,115,116],[104,101,97,100],[116,97,105,108]])] (A (dStr.lit [[43],[60],[61],[108,105,115,116],[104,101,97,100],[116,97,105,108]]) T) [(0,fE 1 (ksStr [[43],[60],[61],[108,105,115,116],[104,101,97,100],[116,97,105,108]]))] ?_;cases h0;exact .rt hK
def sp_OpenNames (n:Nat) (a0:Core):Option (List (List UInt8)):=
 (sp_FreeOf n a0).bind fun k1=>Option.bind (forL (fun(s3:List (List UInt8)) (i2:Nat) (x5:List UInt8)=>Option.bind ((sp_l8Prims n).bind fun k12=>(sp_l1In n k12 x5).bind fun k13=>(if(!k13)=true then(apB 16 s3 [x5]).bind fun z15=>some z15 else some s3):Option (List (List UInt8))) (fun(o11:List (List UInt8))=>some o11)) 0 k1 []) (fun(s3:List (List UInt8))=>some s3)
theorem w_sp_OpenNames (n:Nat):∀(a0:Core) {r:List (List UInt8)},sp_OpenNames n a0=some r→SCall X.E 34 [aE (kCore a0)] [] (lE 1 (ksStr r)) []:=by
 intro a0 r h0;rw[sp_OpenNames] at h0;refine .n Tryd.func34 (fun L ks low K hl hL hlen hK=>?_);refine .af [] T [(1,pw 1)] [.o 1 (.cells ((kCore a0).map .d))] ?_;refine .a [.sv (ksStr [])] (A (dStr.lit []) T) [(3,fE 1 (ksStr []))] ?_;obtain⟨k1,hk1,h0⟩:=bnd h0;refine .a [.call [] (lE 1 (ksStr k1)) []] (A (w_sp_FreeOf n _ hk1) T) [(4,lE 1 (ksStr k1))] ?_;refine .a [] T [(5,iE 0)] ?_;refine .ow 3 100028 9 [4,5] rfl rfl (by kernel_rfl) ?_;refine .lL h0 rfl [4] (fun i2 s3=>[(3,.gs (.own 100028) 1 (ksStr s3)),(5,iE (i2:Int))]) (fun i2 s3=>[.o 100028 (.tok (ksStr s3).length 9)]) n2 [] (by kernel_rfl) (fun i2 s3 q4 hd6 hi8 h0=>?_);refine .a [.v (k1.length:Int)] (A (dStr.len' k1) T) [(12,dE ((i2:Int)<(k1.length:Int)))] ?_;refine .sn 4 dStr k1 (by kernel_rfl) (fun hb9=>?_);refine .lc hd6 rfl (by kernel_rfl) (fun x5 q42 hc10 hx5 hd7 hd7l=>?_) (fun hc10=>?_)
 ·subst hc10;obtain⟨y1,h1,hn1⟩:=forL_cons h0;refine .bPB h1 rfl [4,5] (fun o11=>[(3,.gs (.own 100028) 1 (ksStr o11))]) (fun o11=>[.o 100028 (.tok (ksStr o11).length 9)]) n1 (fun o11 h1=>?_) (fun y2 h2 hj2=>?_)
  ·refine .a [.v ((i2+1:Nat):Int)] (A (wn (i:=i2) (by omega)) T) [(5,iE ((i2+1:Nat):Int))] ?_;cases h1;exact .nL rfl (i2+1) _ hd7 hd7l hn1 [] (by kernel_rfl)
  ·obtain⟨k12,hk12,h2⟩:=bnd h2;obtain⟨k13,hk13,h2⟩:=bnd h2;refine .ad mixed [(0,[.call [] (lE 1 (ksStr k12)) []]),(3,[.cs [.s x5]]),(5,[.call [] (bE k13) []])] [] (A (w_sp_l8Prims n  hk12) (A (dStr.idn hx5) (A (w_sp_l1In n _ _ hk13) T))) [(21,bE (!k13))] [] [] ?_;refine .jT h2 (fun hc14 h2=>?_) (fun hc14 h2=>?_)
   ·obtain⟨z15,hz15,h2⟩:=bnd h2;refine .aq [.cs [.s x5],.sv (ksStr [x5]),.sv (ksStr z15)] [((ksStr s3).length:Int)] (A (dStr.idn hx5) (A (dStr.lit [x5]) (A (dStr.ap hz15) T))) [(3,.gs (.own 100028) 1 (ksStr z15))] [.o 100028 (.tok (ksStr z15).length 9)] [] ?_;cases h2;exact .lg hj2 []
   ·cases h2;exact .lg hj2 []
 ·subst hc10;have h0:=forL_nil h0;refine .a [] T [(2,.gs (.own 100028) 1 (ksStr s3))] ?_;cases h0;exact .rt hK
def la_eqStringS (n:Nat) (a0:List (List UInt8)) (a1:List (List UInt8)):Option (Bool):=
 (if ¬(a0.length:Int)=(a1.length:Int) then some false else seqS (forI (fun(s5:Unit) (i4:Nat) (x7:List UInt8)=>((atI a1 (i4:Int)).bind fun e12=>(if ¬x7=e12 then some (Sum.inl false) else some (Sum.inr ())):Option (Bool⊕Unit))) 0 a0 ()) (fun(s5:Unit)=>some true))
theorem w_la_eqStringS (n:Nat):∀(a0:List (List UInt8)) (a1:List (List UInt8)) {r:Bool},la_eqStringS n a0 a1=some r→SCall X.E 14 [lE 1 (ksStr a0),lE 1 (ksStr a1)] [] (bE r) []:=by
 intro a0 a1 r h0;rw[la_eqStringS] at h0;refine .n Tryd.func14 (fun L ks low K hl hL hlen hK=>?_);refine .a [] T [] ?_;refine .a [.v (a0.length:Int),.v (a1.length:Int)] (A (dStr.len' a0) (A (dStr.len' a1) T)) [(10,dE (¬(a0.length:Int)=(a1.length:Int)))] ?_;refine .sn 0 dStr a0 (by kernel_rfl) (fun hb1=>?_);refine .sn 1 dStr a1 (by kernel_rfl) (fun hb2=>?_);refine .jP h0 (fun hc3 h0=>?_) (fun hc3 h0=>?_)
 ·refine .a [] T [(4,bE false)] ?_;cases h0;exact .rt hK
 ·refine .a [] T [(5,iE 0)] ?_;refine .lI h0 rfl [0,1] (fun i4 s5=>[(5,iE (i4:Int))]) n2 n2 [] (by kernel_rfl) (fun i4 s5 q6 hd8 hi10 h0=>?_);refine .a [.v (a0.length:Int)] (A (dStr.len' a0) T) [(14,dE ((i4:Int)<(a0.length:Int)))] ?_;refine .lc hd8 rfl (by kernel_rfl) (fun x7 q62 hc11 hx7 hd9 hd9l=>?_) (fun hc11=>?_)
  ·subst hc11;obtain⟨y1,h1,hw1,hn1⟩:=forI_cons h0;obtain⟨e12,he12,h1⟩:=bnd h1;refine .ad mixed [(2,[.cs [.s x7]]),(6,[.cs [.s e12]])] [] (A (dStr.idn hx7) (A (dStr.idx he12) T)) [(25,dE (¬x7=e12))] [] [] ?_;refine .jP h1 (fun hc13 h1=>?_) (fun hc13 h1=>?_)
   ·refine .a [] T [(4,bE false)] ?_;cases h1;cases hw1 _ rfl;exact .rt hK
   ·refine .a [.v ((i4+1:Nat):Int)] (A (wn (i:=i4) (by omega)) T) [(5,iE ((i4+1:Nat):Int))] ?_;cases h1;exact .nL rfl (i4+1) _ hd9 hd9l (hn1 _ rfl) [] (by kernel_rfl)
  ·subst hc11;have h0:=forI_nil h0;refine .a [] T [(4,bE true)] ?_;cases h0;exact .rt hK
def la_eqIntS (n:Nat) (a0:List Int) (a1:List Int):Option (Bool):=
 (if ¬(a0.length:Int)=(a1.length:Int) then some false else seqS (forI (fun(s5:Unit) (i4:Nat) (x7:Int)=>((atI a1 (i4:Int)).bind fun e12=>(if ¬x7=e12 then some (Sum.inl false) else some (Sum.inr ())):Option (Bool⊕Unit))) 0 a0 ()) (fun(s5:Unit)=>some true))
theorem w_la_eqIntS (n:Nat):∀(a0:List Int) (a1:List Int) {r:Bool},la_eqIntS n a0 a1=some r→SCall X.E 30 [lE 1 (ksInt a0),lE 1 (ksInt a1)] [] (bE r) []:=by
 intro a0 a1 r h0;rw[la_eqIntS] at h0;refine .n Tryd.func30 (fun L ks low K hl hL hlen hK=>?_);refine .a [] T [] ?_;refine .a [.v (a0.length:Int),.v (a1.length:Int)] (A (dInt.len' a0) (A (dInt.len' a1) T)) [(10,dE (¬(a0.length:Int)=(a1.length:Int)))] ?_;refine .sn 0 dInt a0 (by kernel_rfl) (fun hb1=>?_);refine .sn 1 dInt a1 (by kernel_rfl) (fun hb2=>?_);refine .jP h0 (fun hc3 h0=>?_) (fun hc3 h0=>?_)
 ·refine .a [] T [(4,bE false)] ?_;cases h0;exact .rt hK
 ·refine .a [] T [(5,iE 0)] ?_;refine .lI h0 rfl [0,1] (fun i4 s5=>[(5,iE (i4:Int))]) n2 n2 [] (by kernel_rfl) (fun i4 s5 q6 hd8 hi10 h0=>?_);refine .a [.v (a0.length:Int)] (A (dInt.len' a0) T) [(14,dE ((i4:Int)<(a0.length:Int)))] ?_;refine .lc hd8 rfl (by kernel_rfl) (fun x7 q62 hc11 hx7 hd9 hd9l=>?_) (fun hc11=>?_)
  ·subst hc11;obtain⟨y1,h1,hw1,hn1⟩:=forI_cons h0;obtain⟨e12,he12,h1⟩:=bnd h1;refine .ad mixed [(2,[.cs [.v (.int .i64 x7)]]),(6,[.cs [.v (.int .i64 e12)]])] [] (A (dInt.idn hx7) (A (dInt.idx he12) T)) [(25,dE (¬x7=e12))] [] [] ?_;refine .jP h1 (fun hc13 h1=>?_) (fun hc13 h1=>?_)
   ·refine .a [] T [(4,bE false)] ?_;cases h1;cases hw1 _ rfl;exact .rt hK
   ·refine .a [.v ((i4+1:Nat):Int)] (A (wn (i:=i4) (by omega)) T) [(5,iE ((i4+1:Nat):Int))] ?_;cases h1;exact .nL rfl (i4+1) _ hd9 hd9l (hn1 _ rfl) [] (by kernel_rfl)
  ·subst hc11;have h0:=forI_nil h0;refine .a [] T [(4,bE true)] ?_;cases h0;exact .rt hK
mutual
def la_eqForm:Nat→Form→Form→Option (Bool)
 | 0,_,_=>none
 | n+1,a0,a1=>(if ¬a0.kind=a1.kind then some false else(if ¬a0.name=a1.name then some false else(if ¬a0.n=a1.n then some false else(la_eqIntS n a0.scopes a1.scopes).bind fun k4=>(if(!k4)=true then some false else(la_eqFormS n a0.kids a1.kids).bind fun k6=>(if(!k6)=true then some false else some true)))))
def la_eqFormS:Nat→(List Form)→(List Form)→Option (Bool)
 | 0,_,_=>none
 | n+1,a0,a1=>(if ¬(a0.length:Int)=(a1.length:Int) then some false else seqS (forI (fun(s5:Unit) (i4:Nat) (x7:Form)=>((atI a1 (i4:Int)).bind fun e12=>(la_eqForm n x7 e12).bind fun k13=>(if(!k13)=true then some (Sum.inl false) else some (Sum.inr ())):Option (Bool⊕Unit))) 0 a0 ()) (fun(s5:Unit)=>some true))
end
theorem g_la_eqForm (n:Nat):(∀(a0:Form) (a1:Form) {r:Bool},la_eqForm n a0 a1=some r→SCall X.E 26 [aE (kForm a0),aE (kForm a1)] [] (bE r) [])∧(∀(a0:List Form) (a1:List Form) {r:Bool},la_eqFormS n a0 a1=some r→SCall X.E 58 [lE 5 (ksForm a0),lE 5 (ksForm a1)] [] (bE r) []):=by
 induction n with
 | zero=>exact⟨(by intros; rename_i h; cases h),(by intros; rename_i h; cases h)⟩
 | succ n ih=>
  refine⟨?_,?_⟩
  ·intro a0 a1 r h0;rw[la_eqForm] at h0;refine .n Tryd.func26 (fun L ks low K hl hL hlen hK=>?_);refine .af [] T [(2,pw 2),(3,pw 3)] [.o 2 (.cells ((kForm a0).map .d)),.o 3 (.cells ((kForm a1).map .d))] ?_;refine .a [] T [(9,dE (¬a0.kind=a1.kind))] ?_;refine .jP h0 (fun hc1 h0=>?_) (fun hc1 h0=>?_)
   ·refine .a [] T [(4,bE false)] ?_;cases h0;exact .rt hK
   ·refine .a [] T [(14,dE (¬a0.name=a1.name))] ?_;refine .jP h0 (fun hc2 h0=>?_) (fun hc2 h0=>?_)
    ·refine .a [] T [(4,bE false)] ?_;cases h0;exact .rt hK
    ·refine .a [] T [(19,dE (¬a0.n=a1.n))] ?_;refine .jP h0 (fun hc3 h0=>?_) (fun hc3 h0=>?_)
     ·refine .a [] T [(4,bE false)] ?_;cases h0;exact .rt hK
     ·obtain⟨k4,hk4,h0⟩:=bnd h0;refine .a [.call [] (bE k4) []] (A (w_la_eqIntS n _ _ hk4) T) [(25,bE (!k4))] ?_;refine .jT h0 (fun hc5 h0=>?_) (fun hc5 h0=>?_)
      ·refine .a [] T [(4,bE false)] ?_;cases h0;exact .rt hK
      ·obtain⟨k6,hk6,h0⟩:=bnd h0;refine .a [.call [] (bE k6) []] (A (ih.2 _ _ hk6) T) [(31,bE (!k6))] ?_;refine .jT h0 (fun hc7 h0=>?_) (fun hc7 h0=>?_)
       ·refine .a [] T [(4,bE false)] ?_;cases h0;exact .rt hK
       ·refine .a [] T [(4,bE true)] ?_;cases h0;exact .rt hK
  ·intro a0 a1 r h0;rw[la_eqFormS] at h0;refine .n Tryd.func58 (fun L ks low K hl hL hlen hK=>?_);refine .a [] T [] ?_;refine .a [.v (a0.length:Int),.v (a1.length:Int)] (A (dForm.len' a0) (A (dForm.len' a1) T)) [(10,dE (¬(a0.length:Int)=(a1.length:Int)))] ?_;refine .sn 0 dForm a0 (by kernel_rfl) (fun hb1=>?_);refine .sn 1 dForm a1 (by kernel_rfl) (fun hb2=>?_);refine .jP h0 (fun hc3 h0=>?_) (fun hc3 h0=>?_)
   ·refine .a [] T [(4,bE false)] ?_;cases h0;exact .rt hK
   ·refine .a [] T [(5,iE 0)] ?_;refine .lI h0 rfl [0,1] (fun i4 s5=>[(5,iE (i4:Int))]) n2 n2 [] (by kernel_rfl) (fun i4 s5 q6 hd8 hi10 h0=>?_);refine .a [.v (a0.length:Int)] (A (dForm.len' a0) T) [(14,dE ((i4:Int)<(a0.length:Int)))] ?_;refine .lc hd8 rfl (by kernel_rfl) (fun x7 q62 hc11 hx7 hd9 hd9l=>?_) (fun hc11=>?_)
    ·subst hc11;obtain⟨y1,h1,hw1,hn1⟩:=forI_cons h0;obtain⟨e12,he12,h1⟩:=bnd h1;obtain⟨k13,hk13,h1⟩:=bnd h1;refine .ad mixed [(2,[.cs (kForm x7)]),(6,[.cs (kForm e12)]),(8,[.call [] (bE k13) []])] [] (A (dForm.idn hx7) (A (dForm.idx he12) (A (ih.1 _ _ hk13) T))) [(26,bE (!k13))] [] [] ?_;refine .jT h1 (fun hc14 h1=>?_) (fun hc14 h1=>?_)
     ·refine .a [] T [(4,bE false)] ?_;cases h1;cases hw1 _ rfl;exact .rt hK
     ·refine .a [.v ((i4+1:Nat):Int)] (A (wn (i:=i4) (by omega)) T) [(5,iE ((i4+1:Nat):Int))] ?_;cases h1;exact .nL rfl (i4+1) _ hd9 hd9l (hn1 _ rfl) [] (by kernel_rfl)
    ·subst hc11;have h0:=forI_nil h0;refine .a [] T [(4,bE true)] ?_;cases h0;exact .rt hK
theorem w_la_eqForm (n:Nat):∀(a0:Form) (a1:Form) {r:Bool},la_eqForm n a0 a1=some r→SCall X.E 26 [aE (kForm a0),aE (kForm a1)] [] (bE r) []:=(g_la_eqForm n).1
theorem w_la_eqFormS (n:Nat):∀(a0:List Form) (a1:List Form) {r:Bool},la_eqFormS n a0 a1=some r→SCall X.E 58 [lE 5 (ksForm a0),lE 5 (ksForm a1)] [] (bE r) []:=(g_la_eqForm n).2
mutual
def la_eqCore:Nat→Core→Core→Option (Bool)
 | 0,_,_=>none
 | n+1,a0,a1=>(if ¬a0.kind=a1.kind then some false else(if ¬a0.id=a1.id then some false else(if ¬a0.name=a1.name then some false else(if ¬a0.n=a1.n then some false else(la_eqIntS n a0.ids a1.ids).bind fun k5=>(if(!k5)=true then some false else(la_eqForm n a0.data a1.data).bind fun k7=>(if(!k7)=true then some false else(la_eqCoreS n a0.kids a1.kids).bind fun k9=>(if(!k9)=true then some false else some true)))))))
def la_eqCoreS:Nat→(List Core)→(List Core)→Option (Bool)
 | 0,_,_=>none
 | n+1,a0,a1=>(if ¬(a0.length:Int)=(a1.length:Int) then some false else seqS (forI (fun(s5:Unit) (i4:Nat) (x7:Core)=>((atI a1 (i4:Int)).bind fun e12=>(la_eqCore n x7 e12).bind fun k13=>(if(!k13)=true then some (Sum.inl false) else some (Sum.inr ())):Option (Bool⊕Unit))) 0 a0 ()) (fun(s5:Unit)=>some true))
end
theorem g_la_eqCore (n:Nat):(∀(a0:Core) (a1:Core) {r:Bool},la_eqCore n a0 a1=some r→SCall X.E 21 [aE (kCore a0),aE (kCore a1)] [] (bE r) [])∧(∀(a0:List Core) (a1:List Core) {r:Bool},la_eqCoreS n a0 a1=some r→SCall X.E 51 [lE 11 (ksCore a0),lE 11 (ksCore a1)] [] (bE r) []):=by
 induction n with
 | zero=>exact⟨(by intros; rename_i h; cases h),(by intros; rename_i h; cases h)⟩
 | succ n ih=>
  refine⟨?_,?_⟩
  ·intro a0 a1 r h0;rw[la_eqCore] at h0;refine .n Tryd.func21 (fun L ks low K hl hL hlen hK=>?_);refine .af [] T [(2,pw 2),(3,pw 3)] [.o 2 (.cells ((kCore a0).map .d)),.o 3 (.cells ((kCore a1).map .d))] ?_;refine .a [] T [(9,dE (¬a0.kind=a1.kind))] ?_;refine .jP h0 (fun hc1 h0=>?_) (fun hc1 h0=>?_)
   ·refine .a [] T [(4,bE false)] ?_;cases h0;exact .rt hK
   ·refine .a [] T [(14,dE (¬a0.id=a1.id))] ?_;refine .jP h0 (fun hc2 h0=>?_) (fun hc2 h0=>?_)
    ·refine .a [] T [(4,bE false)] ?_;cases h0;exact .rt hK
    ·refine .a [] T [(19,dE (¬a0.name=a1.name))] ?_;refine .jP h0 (fun hc3 h0=>?_) (fun hc3 h0=>?_)
     ·refine .a [] T [(4,bE false)] ?_;cases h0;exact .rt hK
     ·refine .a [] T [(24,dE (¬a0.n=a1.n))] ?_;refine .jP h0 (fun hc4 h0=>?_) (fun hc4 h0=>?_)
      ·refine .a [] T [(4,bE false)] ?_;cases h0;exact .rt hK
      ·obtain⟨k5,hk5,h0⟩:=bnd h0;refine .a [.call [] (bE k5) []] (A (w_la_eqIntS n _ _ hk5) T) [(30,bE (!k5))] ?_;refine .jT h0 (fun hc6 h0=>?_) (fun hc6 h0=>?_)
       ·refine .a [] T [(4,bE false)] ?_;cases h0;exact .rt hK
       ·obtain⟨k7,hk7,h0⟩:=bnd h0;refine .a [.call [] (bE k7) []] (A (w_la_eqForm n _ _ hk7) T) [(36,bE (!k7))] ?_;refine .jT h0 (fun hc8 h0=>?_) (fun hc8 h0=>?_)
        ·refine .a [] T [(4,bE false)] ?_;cases h0;exact .rt hK
        ·obtain⟨k9,hk9,h0⟩:=bnd h0;refine .a [.call [] (bE k9) []] (A (ih.2 _ _ hk9) T) [(42,bE (!k9))] ?_;refine .jT h0 (fun hc10 h0=>?_) (fun hc10 h0=>?_)
         ·refine .a [] T [(4,bE false)] ?_;cases h0;exact .rt hK
         ·refine .a [] T [(4,bE true)] ?_;cases h0;exact .rt hK
  ·intro a0 a1 r h0;rw[la_eqCoreS] at h0;refine .n Tryd.func51 (fun L ks low K hl hL hlen hK=>?_);refine .a [] T [] ?_;refine .a [.v (a0.length:Int),.v (a1.length:Int)] (A (dCore.len' a0) (A (dCore.len' a1) T)) [(10,dE (¬(a0.length:Int)=(a1.length:Int)))] ?_;refine .sn 0 dCore a0 (by kernel_rfl) (fun hb1=>?_);refine .sn 1 dCore a1 (by kernel_rfl) (fun hb2=>?_);refine .jP h0 (fun hc3 h0=>?_) (fun hc3 h0=>?_)
   ·refine .a [] T [(4,bE false)] ?_;cases h0;exact .rt hK
   ·refine .a [] T [(5,iE 0)] ?_;refine .lI h0 rfl [0,1] (fun i4 s5=>[(5,iE (i4:Int))]) n2 n2 [] (by kernel_rfl) (fun i4 s5 q6 hd8 hi10 h0=>?_);refine .a [.v (a0.length:Int)] (A (dCore.len' a0) T) [(14,dE ((i4:Int)<(a0.length:Int)))] ?_;refine .lc hd8 rfl (by kernel_rfl) (fun x7 q62 hc11 hx7 hd9 hd9l=>?_) (fun hc11=>?_)
    ·subst hc11;obtain⟨y1,h1,hw1,hn1⟩:=forI_cons h0;obtain⟨e12,he12,h1⟩:=bnd h1;obtain⟨k13,hk13,h1⟩:=bnd h1;refine .ad mixed [(2,[.cs (kCore x7)]),(6,[.cs (kCore e12)]),(8,[.call [] (bE k13) []])] [] (A (dCore.idn hx7) (A (dCore.idx he12) (A (ih.1 _ _ hk13) T))) [(26,bE (!k13))] [] [] ?_;refine .jT h1 (fun hc14 h1=>?_) (fun hc14 h1=>?_)
     ·refine .a [] T [(4,bE false)] ?_;cases h1;cases hw1 _ rfl;exact .rt hK
     ·refine .a [.v ((i4+1:Nat):Int)] (A (wn (i:=i4) (by omega)) T) [(5,iE ((i4+1:Nat):Int))] ?_;cases h1;exact .nL rfl (i4+1) _ hd9 hd9l (hn1 _ rfl) [] (by kernel_rfl)
    ·subst hc11;have h0:=forI_nil h0;refine .a [] T [(4,bE true)] ?_;cases h0;exact .rt hK
theorem w_la_eqCore (n:Nat):∀(a0:Core) (a1:Core) {r:Bool},la_eqCore n a0 a1=some r→SCall X.E 21 [aE (kCore a0),aE (kCore a1)] [] (bE r) []:=(g_la_eqCore n).1
theorem w_la_eqCoreS (n:Nat):∀(a0:List Core) (a1:List Core) {r:Bool},la_eqCoreS n a0 a1=some r→SCall X.E 51 [lE 11 (ksCore a0),lE 11 (ksCore a1)] [] (bE r) []:=(g_la_eqCore n).2
def slices_Index_string (n:Nat) (a0:List (List UInt8)) (a1:List UInt8):Option (Int):=
 seqS (forI (fun(s3:Unit) (i2:Nat) (x5:List UInt8)=>((if a1=x5 then some (Sum.inl (i2:Int)) else some (Sum.inr ())):Option (Int⊕Unit))) 0 a0 ()) (fun(s3:Unit)=>some (-1))
theorem w_slices_Index_string (n:Nat):∀(a0:List (List UInt8)) (a1:List UInt8) {r:Int},slices_Index_string n a0 a1=some r→SCall X.E 42 [lE 1 (ksStr a0),sE a1] [] (iE r) []:=by
 intro a0 a1 r h0;rw[slices_Index_string] at h0;refine .n Tryd.func42 (fun L ks low K hl hL hlen hK=>?_);refine .a [] T [] ?_;refine .a [.v (a0.length:Int)] (A (dStr.len' a0) T) [(7,iE (a0.length:Int)),(8,iE 0)] ?_;refine .sn 0 dStr a0 (by kernel_rfl) (fun hb1=>?_);refine .lI h0 rfl [0,1,7] (fun i2 s3=>[(8,iE (i2:Int))]) n2 n2 [] (by kernel_rfl) (fun i2 s3 q4 hd6 hi8 h0=>?_);refine .a [] T [(9,dE ((i2:Int)<(a0.length:Int)))] ?_;refine .lc hd6 rfl (by kernel_rfl) (fun x5 q42 hc9 hx5 hd7 hd7l=>?_) (fun hc9=>?_)
 ·subst hc9;obtain⟨y1,h1,hw1,hn1⟩:=forI_cons h0;refine .a [] T [(5,iE (i2:Int))] ?_;refine .a [.cs [.s x5]] (A (dStr.idn hx5) T) [(16,dE (a1=x5))] ?_;refine .jP h1 (fun hc10 h1=>?_) (fun hc10 h1=>?_)
  ·refine .a [] T [(4,iE (i2:Int))] ?_;cases h1;cases hw1 _ rfl;exact .rt hK
  ·refine .a [.v ((i2+1:Nat):Int)] (A (wn (i:=i2) (by omega)) T) [(8,iE ((i2+1:Nat):Int))] ?_;cases h1;exact .nL rfl (i2+1) _ hd7 hd7l (hn1 _ rfl) [] (by kernel_rfl)
 ·subst hc9;have h0:=forI_nil h0;refine .a [] T [(4,iE (-1))] ?_;cases h0;exact .rt hK
def slices_Contains_string (n:Nat) (a0:List (List UInt8)) (a1:List UInt8):Option (Bool):=
 (slices_Index_string n a0 a1).bind fun k1=>some (decide (k1≥0))
theorem w_slices_Contains_string (n:Nat):∀(a0:List (List UInt8)) (a1:List UInt8) {r:Bool},slices_Contains_string n a0 a1=some r→SCall X.E 57 [lE 1 (ksStr a0),sE a1] [] (bE r) []:=by
 intro a0 a1 r h0;rw[slices_Contains_string] at h0;refine .n Tryd.func57 (fun L ks low K hl hL hlen hK=>?_);refine .a [] T [] ?_;obtain⟨k1,hk1,h0⟩:=bnd h0;refine .a [.call [] (iE k1) []] (A (w_slices_Index_string n _ _ hk1) T) [(4,dE (k1≥0))] ?_;cases h0;exact .rt hK
def slices_Index_string_v (n:Nat) (a0:List (List UInt8)) (a1:List UInt8):Option (Int):=
 seqS (forI (fun(s3:Unit) (i2:Nat) (x5:List UInt8)=>((if a1=x5 then some (Sum.inl (i2:Int)) else some (Sum.inr ())):Option (Int⊕Unit))) 0 a0 ()) (fun(s3:Unit)=>some (-1))
theorem w_slices_Index_string_v (n:Nat):∀(a0:List (List UInt8)) (a1:List UInt8) {r:Int},slices_Index_string_v n a0 a1=some r→SCall X.E 42 [.vs (.low 0) 1 ((ksStr a0).length),sE a1] [some (.vec 9 1 (ksStr a0))] (iE r) [.vec 9 1 (ksStr a0)]:=by
 intro a0 a1 r h0;rw[slices_Index_string_v] at h0;refine .n Tryd.func42 (fun L ks low K hl hL hlen hK=>?_);refine .a [] T [] ?_;refine .a [.v (a0.length:Int)] (A (dStr.len' a0) T) [(7,iE (a0.length:Int)),(8,iE 0)] ?_;refine .snV 0 dStr a0 (by kernel_rfl) (fun hb1=>?_);refine .lI h0 rfl [0,1,7] (fun i2 s3=>[(8,iE (i2:Int))]) n2 n2 [] (by kernel_rfl) (fun i2 s3 q4 hd6 hi8 h0=>?_);refine .a [] T [(9,dE ((i2:Int)<(a0.length:Int)))] ?_;refine .lc hd6 rfl (by kernel_rfl) (fun x5 q42 hc9 hx5 hd7 hd7l=>?_) (fun hc9=>?_)
 ·subst hc9;obtain⟨y1,h1,hw1,hn1⟩:=forI_cons h0;refine .a [] T [(5,iE (i2:Int))] ?_;refine .a [.cs [.s x5]] (A (A (dStr.inv (inB_of hx5) (rfl:(ksStr a0).length=(ksStr a0).length)) (rfl:(ksStr a0).length=(ksStr a0).length)) (A (A (A (dStr.rows a0) (dStr.ixr hx5)) (rfl:(ksStr a0).length=(ksStr a0).length)) T)) [(16,dE (a1=x5))] ?_;refine .jP h1 (fun hc10 h1=>?_) (fun hc10 h1=>?_)
  ·refine .a [] T [(4,iE (i2:Int))] ?_;cases h1;cases hw1 _ rfl;exact .rt hK
  ·refine .a [.v ((i2+1:Nat):Int)] (A (wn (i:=i2) (by omega)) T) [(8,iE ((i2+1:Nat):Int))] ?_;cases h1;exact .nL rfl (i2+1) _ hd7 hd7l (hn1 _ rfl) [] (by kernel_rfl)
 ·subst hc9;have h0:=forI_nil h0;refine .a [] T [(4,iE (-1))] ?_;cases h0;exact .rt hK
def slices_Contains_string_v (n:Nat) (a0:List (List UInt8)) (a1:List UInt8):Option (Bool):=
 (slices_Index_string_v n a0 a1).bind fun k1=>some (decide (k1≥0))
theorem w_slices_Contains_string_v (n:Nat):∀(a0:List (List UInt8)) (a1:List UInt8) {r:Bool},slices_Contains_string_v n a0 a1=some r→SCall X.E 57 [.vs (.low 0) 1 ((ksStr a0).length),sE a1] [some (.vec 9 1 (ksStr a0))] (bE r) [.vec 9 1 (ksStr a0)]:=by
 intro a0 a1 r h0;rw[slices_Contains_string_v] at h0;refine .n Tryd.func57 (fun L ks low K hl hL hlen hK=>?_);refine .a [] T [] ?_;obtain⟨k1,hk1,h0⟩:=bnd h0;refine .a [.call [.low 0] (iE k1) [.vec 9 1 (ksStr a0)]] (A (w_slices_Index_string_v n _ _ hk1) T) [(4,dE (k1≥0))] ?_;cases h0;exact .rt hK
def im_freeOf:Nat→Core→(List (List UInt8))→Option (List (List UInt8))
 | 0,_,_=>none
 | n+1,a0,a1=>Option.bind ((if a0.kind=2 then(slices_Contains_string_v n a1 a0.name).bind fun k16=>some (!k16) else some false):Option (Bool)) (fun(o1:Bool)=>Option.bind ((if o1=true then(apB 16 a1 [a0.name]).bind fun z14=>some z14 else some a1):Option (List (List UInt8))) (fun(o2:List (List UInt8))=>Option.bind (forL (fun(s5:List (List UInt8)) (i4:Nat) (x7:Core)=>(im_freeOf n x7 s5).bind fun k12=>some k12) 0 a0.kids o2) (fun(s5:List (List UInt8))=>some s5)))
theorem w_im_freeOf (n:Nat):∀(a0:Core) (a1:List (List UInt8)) {r:List (List UInt8)},im_freeOf n a0 a1=some r→SCall X.E 76 [aE (kCore a0),.vs (.low 0) 1 ((ksStr a1).length)] [some (.vec 9 1 (ksStr a1))] (.vs (.low 0) 1 ((ksStr r).length)) [.vec 9 1 (ksStr r)]:=by
 induction n with
 | zero=>intro a0 a1 r h; cases h
 | succ n ih=>
  intro a0 a1 r h0;rw[im_freeOf] at h0;refine .n Tryd.func76 (fun L ks low K hl hL hlen hK=>?_);refine .af [] T [(2,pw 2)] [.o 2 (.cells ((kCore a0).map .d))] ?_;refine .bP h0 rfl [1,2] (fun o1=>[(16,bE o1)]) n1 n1 (fun o1 h0=>?_) (fun y1 h1 hj1=>?_)
  ·refine .bP h0 rfl [2] (fun o2=>[(1,.vs (.low 0) 1 ((ksStr o2).length))]) n1 (fun o2=>[.o 0 (.vec 9 1 (ksStr o2))]) (fun o2 h0=>?_) (fun y1 h1 hj1=>?_)
   ·refine .a [.v (a0.kids.length:Int)] (A (dCore.len' a0.kids) T) [(23,lE 11 (ksCore a0.kids)),(24,iE (a0.kids.length:Int)),(25,iE 0)] ?_;refine .sn 23 dCore a0.kids (by kernel_rfl) (fun hb3=>?_);refine .lL h0 rfl [23,24] (fun i4 s5=>[(1,.vs (.low 0) 1 ((ksStr s5).length)),(25,iE (i4:Int))]) n2 (fun i4 s5=>[.o 0 (.vec 9 1 (ksStr s5))]) [] (by kernel_rfl) (fun i4 s5 q6 hd8 hi10 h0=>?_);refine .a [] T [(26,dE ((i4:Int)<(a0.kids.length:Int)))] ?_;refine .lc hd8 rfl (by kernel_rfl) (fun x7 q62 hc11 hx7 hd9 hd9l=>?_) (fun hc11=>?_)
    ·subst hc11;obtain⟨y1,h1,hn1⟩:=forL_cons h0;refine .af [.cs (kCore x7)] (A (dCore.idn hx7) T) [(6,pw 6)] [.o 6 (.cells ((kCore x7).map .d))] ?_;obtain⟨k12,hk12,h1⟩:=bnd h1;refine .ao [.call [.low 0] (.vs (.low 0) 1 ((ksStr k12).length)) [.vec 9 1 (ksStr k12)]] (A (ih _ _ hk12) T) [(1,.vs (.low 0) 1 ((ksStr k12).length))] [.o 0 (.vec 9 1 (ksStr k12))] ?_;refine .a [.v ((i4+1:Nat):Int)] (A (wn (i:=i4) (by omega)) T) [(25,iE ((i4+1:Nat):Int))] ?_;cases h1;refine .kp [1,23,24,25] [] ?_;refine .dr 6 (by kernel_rfl) ?_;exact .nL rfl (i4+1) _ hd9 hd9l hn1 [] (by kernel_rfl)
    ·subst hc11;have h0:=forL_nil h0;refine .a [] T [(4,.vs (.low 0) 1 ((ksStr s5).length))] ?_;refine .kp [4] [] ?_;refine .dr 2 (by kernel_rfl) ?_;cases h0;exact .rt hK
   ·refine .jT h1 (fun hc13 h1=>?_) (fun hc13 h1=>?_)
    ·obtain⟨z14,hz14,h1⟩:=bnd h1;refine .ao [.sv (ksStr [a0.name]),.sv (ksStr z14)] (A (dStr.lit [a0.name]) (A (A (dStr.ap hz14) (rfl:(ksStr a1).length=(ksStr a1).length)) T)) [(1,.vs (.low 0) 1 ((ksStr z14).length))] [.o 0 (.vec 9 1 (ksStr z14))] ?_;cases h1;exact .lg hj1 []
    ·cases h1;exact .lg hj1 []
  ·by_cases g15:a0.kind=2
   ·have h1:=iteP g15 h1;obtain⟨k16,hk16,h1⟩:=bnd h1;refine .a (rb 4 true [.call [.low 0] (bE k16) [.vec 9 1 (ksStr a1)],.b true,.b true]) (R 3 (dt g15) (A (A (dt g15) (w_slices_Contains_string_v n _ _ hk16)) (R 2 (dt g15) T))) [(16,bE (!k16))] ?_;cases h1;exact .lg hj1 []
   ·have h1:=iteN g15 h1;refine .a (rb 6 false []) (R 6 (df g15) T) [(16,bE false)] ?_;cases h1;exact .lg hj1 []
def im_freeOf_nil (n:Nat) (a0:Core):Option (List (List UInt8)):=
 Option.bind ((if a0.kind=2 then(slices_Contains_string n [] a0.name).bind fun k16=>some (!k16) else some false):Option (Bool)) (fun(o1:Bool)=>Option.bind ((if o1=true then(apB 16 [] [a0.name]).bind fun z14=>some z14 else some []):Option (List (List UInt8))) (fun(o2:List (List UInt8))=>Option.bind (forL (fun(s5:List (List UInt8)) (i4:Nat) (x7:Core)=>(im_freeOf n x7 s5).bind fun k12=>some k12) 0 a0.kids o2) (fun(s5:List (List UInt8))=>some s5)))
theorem w_im_freeOf_nil (n:Nat):∀(a0:Core) {r:List (List UInt8)},im_freeOf_nil n a0=some r→SCall X.E 76 [aE (kCore a0),nE] [] (lE 1 (ksStr r)) []:=by
 intro a0 r h0;rw[im_freeOf_nil] at h0;refine .n Tryd.func76 (fun L ks low K hl hL hlen hK=>?_);refine .nl 1 1 rfl ?_;refine .af [] T [(2,pw 2)] [.o 2 (.cells ((kCore a0).map .d))] ?_;refine .bP h0 rfl [1,2] (fun o1=>[(16,bE o1)]) n1 n1 (fun o1 h0=>?_) (fun y1 h1 hj1=>?_)
 ·refine .owV 1 100021 9 [2,16] rfl rfl (by kernel_rfl) ?_;refine .bP h0 rfl [2] (fun o2=>[(1,.vs (.own 100021) 1 ((ksStr o2).length))]) (fun o2=>[.o 100021 (.vec 9 1 (ksStr o2))]) n1 (fun o2 h0=>?_) (fun y1 h1 hj1=>?_)
  ·refine .a [.v (a0.kids.length:Int)] (A (dCore.len' a0.kids) T) [(23,lE 11 (ksCore a0.kids)),(24,iE (a0.kids.length:Int)),(25,iE 0)] ?_;refine .sn 23 dCore a0.kids (by kernel_rfl) (fun hb3=>?_);refine .lL h0 rfl [23,24] (fun i4 s5=>[(1,.vs (.own 100021) 1 ((ksStr s5).length)),(25,iE (i4:Int))]) (fun i4 s5=>[.o 100021 (.vec 9 1 (ksStr s5))]) n2 [] (by kernel_rfl) (fun i4 s5 q6 hd8 hi10 h0=>?_);refine .a [] T [(26,dE ((i4:Int)<(a0.kids.length:Int)))] ?_;refine .lc hd8 rfl (by kernel_rfl) (fun x7 q62 hc11 hx7 hd9 hd9l=>?_) (fun hc11=>?_)
   ·subst hc11;obtain⟨y1,h1,hn1⟩:=forL_cons h0;refine .af [.cs (kCore x7)] (A (dCore.idn hx7) T) [(6,pw 6)] [.o 6 (.cells ((kCore x7).map .d))] ?_;obtain⟨k12,hk12,h1⟩:=bnd h1;refine .af [.call [.own 100021] (.vs (.low 0) 1 ((ksStr k12).length)) [.vec 9 1 (ksStr k12)]] (A (w_im_freeOf n _ _ hk12) T) [(1,.vs (.own 100021) 1 ((ksStr k12).length))] [.o 100021 (.vec 9 1 (ksStr k12))] ?_;refine .a [.v ((i4+1:Nat):Int)] (A (wn (i:=i4) (by omega)) T) [(25,iE ((i4+1:Nat):Int))] ?_;cases h1;refine .kp [1,23,24,25] [] ?_;refine .dr 6 (by kernel_rfl) ?_;exact .nL rfl (i4+1) _ hd9 hd9l hn1 [] (by kernel_rfl)
   ·subst hc11;have h0:=forL_nil h0;refine .a [] T [(4,.vs (.own 100021) 1 ((ksStr s5).length))] ?_;refine .kp [4] [] ?_;refine .dr 2 (by kernel_rfl) ?_;refine .ft 4 100021 [] dStr s5 (rfl:(ksStr s5).length=(ksStr s5).length) (by kernel_rfl) ?_;cases h0;exact .rt hK
  ·refine .jT h1 (fun hc13 h1=>?_) (fun hc13 h1=>?_)
   ·obtain⟨z14,hz14,h1⟩:=bnd h1;refine .af [.sv (ksStr [a0.name]),.sv (ksStr z14)] (A (dStr.lit [a0.name]) (A (A (dStr.ap hz14) (rfl:(ksStr []).length=0)) T)) [(1,.vs (.own 100021) 1 ((ksStr z14).length))] [.o 100021 (.vec 9 1 (ksStr z14))] ?_;cases h1;exact .lg hj1 []
   ·cases h1;exact .lg hj1 []
 ·by_cases g15:a0.kind=2
  ·have h1:=iteP g15 h1;obtain⟨k16,hk16,h1⟩:=bnd h1;refine .a (rb 4 true [.call [] (bE k16) [],.b true,.b true]) (R 3 (dt g15) (A (A (dt g15) (w_slices_Contains_string n _ _ hk16)) (R 2 (dt g15) T))) [(16,bE (!k16))] ?_;cases h1;exact .lg hj1 []
  ·have h1:=iteN g15 h1;refine .a (rb 6 false []) (R 6 (df g15) T) [(16,bE false)] ?_;cases h1;exact .lg hj1 []
def im_FreeOf (n:Nat) (a0:Core):Option (List (List UInt8)):=
 (im_freeOf_nil n a0).bind fun k1=>some k1
theorem w_im_FreeOf (n:Nat):∀(a0:Core) {r:List (List UInt8)},im_FreeOf n a0=some r→SCall X.E 67 [aE (kCore a0)] [] (lE 1 (ksStr r)) []:=by
 intro a0 r h0;rw[im_FreeOf] at h0;refine .n Tryd.func67 (fun L ks low K hl hL hlen hK=>?_);refine .af [] T [(1,pw 1)] [.o 1 (.cells ((kCore a0).map .d))] ?_;obtain⟨k1,hk1,h0⟩:=bnd h0;refine .a [.b true,.call [] (lE 1 (ksStr k1)) []] (A (w_im_freeOf_nil n _ hk1) T) [(2,lE 1 (ksStr k1))] ?_;cases h0;exact .rt hK
def im_OpenNames_1 (n:Nat) (a0:List UInt8):Option (Bool):=
 (slices_Contains_string n lp2 a0).bind fun k1=>some k1
theorem w_im_OpenNames_1 (n:Nat):∀(a0:List UInt8) {r:Bool},im_OpenNames_1 n a0=some r→SCall X.E 68 [sE a0] [] (bE r) []:=by
 intro a0 r h0;rw[im_OpenNames_1] at h0;refine .n Tryd.func68 (fun L ks low K hl hL hlen hK=>?_);refine .a [] T [] ?_;obtain⟨k1,hk1,h0⟩:=bnd h0;refine .a [.call [] (bE k1) []] (A (w_slices_Contains_string n _ _ hk1) T) [(2,bE k1)] ?_;cases h0;exact .rt hK
def slices_IndexFunc_string__im_OpenNames_1 (n:Nat) (a0:List (List UInt8)):Option (Int):=
 seqS (forI (fun(s3:Unit) (i2:Nat) (x5:List UInt8)=>((im_OpenNames_1 n x5).bind fun k10=>(if k10=true then some (Sum.inl (i2:Int)) else some (Sum.inr ())):Option (Int⊕Unit))) 0 a0 ()) (fun(s3:Unit)=>some (-1))
theorem w_slices_IndexFunc_string__im_OpenNames_1 (n:Nat):∀(a0:List (List UInt8)) {r:Int},slices_IndexFunc_string__im_OpenNames_1 n a0=some r→SCall X.E 74 [lE 1 (ksStr a0),.clo 68 [] []] [] (iE r) []:=by
 intro a0 r h0;rw[slices_IndexFunc_string__im_OpenNames_1] at h0;refine .n Tryd.func74 (fun L ks low K hl hL hlen hK=>?_);refine .a [] T [] ?_;refine .a [.v (a0.length:Int)] (A (dStr.len' a0) T) [(7,iE (a0.length:Int)),(8,iE 0)] ?_;refine .sn 0 dStr a0 (by kernel_rfl) (fun hb1=>?_);refine .lI h0 rfl [0,1,7] (fun i2 s3=>[(8,iE (i2:Int))]) n2 n2 [] (by kernel_rfl) (fun i2 s3 q4 hd6 hi8 h0=>?_);refine .a [] T [(9,dE ((i2:Int)<(a0.length:Int)))] ?_;refine .lc hd6 rfl (by kernel_rfl) (fun x5 q42 hc9 hx5 hd7 hd7l=>?_) (fun hc9=>?_)
 ·subst hc9;obtain⟨y1,h1,hw1,hn1⟩:=forI_cons h0;refine .a [] T [(5,iE (i2:Int))] ?_;obtain⟨k10,hk10,h1⟩:=bnd h1;refine .a [.cs [.s x5],.call [] (bE k10) []] (A (dStr.idn hx5) (A (w_im_OpenNames_1 n _ hk10) T)) [(16,bE k10)] ?_;refine .jT h1 (fun hc11 h1=>?_) (fun hc11 h1=>?_)
  ·refine .a [] T [(4,iE (i2:Int))] ?_;cases h1;cases hw1 _ rfl;exact .rt hK
  ·refine .a [.v ((i2+1:Nat):Int)] (A (wn (i:=i2) (by omega)) T) [(8,iE ((i2+1:Nat):Int))] ?_;cases h1;exact .nL rfl (i2+1) _ hd7 hd7l (hn1 _ rfl) [] (by kernel_rfl)
 ·subst hc9;have h0:=forI_nil h0;refine .a [] T [(4,iE (-1))] ?_;cases h0;exact .rt hK
def slices_IndexFunc_string__im_OpenNames_1_v (n:Nat) (a0:List (List UInt8)):Option (Int):=
 seqS (forI (fun(s3:Unit) (i2:Nat) (x5:List UInt8)=>((im_OpenNames_1 n x5).bind fun k10=>(if k10=true then some (Sum.inl (i2:Int)) else some (Sum.inr ())):Option (Int⊕Unit))) 0 a0 ()) (fun(s3:Unit)=>some (-1))
theorem w_slices_IndexFunc_string__im_OpenNames_1_v (n:Nat):∀(a0:List (List UInt8)) {r:Int},slices_IndexFunc_string__im_OpenNames_1_v n a0=some r→SCall X.E 74 [.vs (.low 0) 1 ((ksStr a0).length),.clo 68 [] []] [some (.vec 9 1 (ksStr a0))] (iE r) [.vec 9 1 (ksStr a0)]:=by
 intro a0 r h0;rw[slices_IndexFunc_string__im_OpenNames_1_v] at h0;refine .n Tryd.func74 (fun L ks low K hl hL hlen hK=>?_);refine .a [] T [] ?_;refine .a [.v (a0.length:Int)] (A (dStr.len' a0) T) [(7,iE (a0.length:Int)),(8,iE 0)] ?_;refine .snV 0 dStr a0 (by kernel_rfl) (fun hb1=>?_);refine .lI h0 rfl [0,1,7] (fun i2 s3=>[(8,iE (i2:Int))]) n2 n2 [] (by kernel_rfl) (fun i2 s3 q4 hd6 hi8 h0=>?_);refine .a [] T [(9,dE ((i2:Int)<(a0.length:Int)))] ?_;refine .lc hd6 rfl (by kernel_rfl) (fun x5 q42 hc9 hx5 hd7 hd7l=>?_) (fun hc9=>?_)
 ·subst hc9;obtain⟨y1,h1,hw1,hn1⟩:=forI_cons h0;refine .a [] T [(5,iE (i2:Int))] ?_;obtain⟨k10,hk10,h1⟩:=bnd h1;refine .a [.cs [.s x5],.call [] (bE k10) []] (A (A (dStr.inv (inB_of hx5) (rfl:(ksStr a0).length=(ksStr a0).length)) (rfl:(ksStr a0).length=(ksStr a0).length)) (A (A (A (dStr.rows a0) (dStr.ixr hx5)) (rfl:(ksStr a0).length=(ksStr a0).length)) (A (w_im_OpenNames_1 n _ hk10) T))) [(16,bE k10)] ?_;refine .jT h1 (fun hc11 h1=>?_) (fun hc11 h1=>?_)
  ·refine .a [] T [(4,iE (i2:Int))] ?_;cases h1;cases hw1 _ rfl;exact .rt hK
  ·refine .a [.v ((i2+1:Nat):Int)] (A (wn (i:=i2) (by omega)) T) [(8,iE ((i2+1:Nat):Int))] ?_;cases h1;exact .nL rfl (i2+1) _ hd7 hd7l (hn1 _ rfl) [] (by kernel_rfl)
 ·subst hc9;have h0:=forI_nil h0;refine .a [] T [(4,iE (-1))] ?_;cases h0;exact .rt hK
def slices_DeleteFunc_string__im_OpenNames_1 (n:Nat) (a0:List (List UInt8)):Option (List (List UInt8)):=
 (slices_IndexFunc_string__im_OpenNames_1_v n a0).bind fun k1=>(if k1=(-1) then some a0 else iterM n (fun(s3:Int×Int×(List (List UInt8)))=>((if s3.2.1<(s3.2.2.length:Int) then Option.bind ((inB s3.2.1 s3.2.2.length).bind fun u8=>(s3.2.2[(Int.toNat s3.2.1)]?).bind fun e9=>(im_OpenNames_1 n e9).bind fun k10=>(if(!k10)=true then(inB s3.1 s3.2.2.length).bind fun u12=>(s3.2.2[(Int.toNat s3.1)]?).bind fun e13=>some ((w64 (s3.1+1)),(s3.2.2.set (Int.toNat s3.1) e9)) else some (s3.1,s3.2.2)):Option (Int×(List (List UInt8)))) (fun(o7:Int×(List (List UInt8)))=>some (Sum.inr (o7.1,(w64 (s3.2.1+1)),o7.2))) else(clI s3.2.2 s3.1 []).bind fun z15=>(takeI z15 s3.1).bind fun z17=>some (Sum.inl z17)):Option ((List (List UInt8))⊕(Int×Int×(List (List UInt8)))))) (k1,(w64 (k1+1)),a0))
theorem w_slices_DeleteFunc_string__im_OpenNames_1 (n:Nat):∀(a0:List (List UInt8)) {r:List (List UInt8)},slices_DeleteFunc_string__im_OpenNames_1 n a0=some r→SCall X.E 55 [.vs (.low 0) 1 ((ksStr a0).length),.clo 68 [] []] [some (.vec 9 1 (ksStr a0))] (lE 1 (ksStr r)) [.tok 9223372036854775808 9]:=by
 intro a0 r h0;rw[slices_DeleteFunc_string__im_OpenNames_1] at h0;refine .n Tryd.func55 (fun L ks low K hl hL hlen hK=>?_);refine .a [] T [] ?_;obtain⟨k1,hk1,h0⟩:=bnd h0;refine .a [.call [.low 0] (iE k1) [.vec 9 1 (ksStr a0)]] (A (w_slices_IndexFunc_string__im_OpenNames_1_v n _ hk1) T) [(5,iE k1)] ?_;refine .a [] T [(12,dE (k1=(-1)))] ?_;refine .jP h0 (fun hc2 h0=>?_) (fun hc2 h0=>?_)
 ·refine .a [] T [(4,.vs (.low 0) 1 ((ksStr a0).length))] ?_;refine .kp [4] [] ?_;refine .ct 4 0 500004 [] (rfl:(ksStr a0).length=(ksStr a0).length) (by kernel_rfl) ?_;refine .ft 4 500004 [] dStr a0 (rfl:(ksStr a0).length=(ksStr a0).length) (by kernel_rfl) ?_;cases h0;exact .rt hK
 ·refine .a [.pl] T [(6,iE (w64 (k1+1)))] ?_;refine .it h0 rfl [1] (fun s3=>[(0,.vs (.low 0) 1 ((ksStr s3.2.2).length)),(5,iE s3.1),(6,iE s3.2.1)]) n1 (fun s3=>[.o 0 (.vec 9 1 (ksStr s3.2.2))]) [] (by kernel_rfl) (fun nk4 s3 h0=>?_);obtain⟨y1,h1,hw1,hn1⟩:=iter_cons h0;refine .a [.v (s3.2.2.length:Int)] (A (dStr.len' s3.2.2) T) [(19,dE (s3.2.1<(s3.2.2.length:Int)))] ?_;refine .snV 0 dStr s3.2.2 (by kernel_rfl) (fun hb5=>?_);refine .jP h1 (fun hc6 h1=>?_) (fun hc6 h1=>?_)
  ·refine .bPB h1 rfl [1,6] (fun o7=>[(0,.vs (.low 0) 1 ((ksStr o7.2).length)),(5,iE o7.1)]) n1 (fun o7=>[.o 0 (.vec 9 1 (ksStr o7.2))]) (fun o7 h1=>?_) (fun y2 h2 hj2=>?_)
   ·refine .a [.pl] T [(6,iE (w64 (s3.2.1+1)))] ?_;cases h1;exact .nI rfl _ (hn1 _ rfl) [] (by kernel_rfl)
   ·obtain⟨u8,hu8,h2⟩:=bnd h2;obtain⟨e9,he9,h2⟩:=bnd h2;refine .a [.cs [.s e9]] (A (A (dStr.inv hu8 (rfl:(ksStr s3.2.2).length=(ksStr s3.2.2).length)) (rfl:(ksStr s3.2.2).length=(ksStr s3.2.2).length)) (A (A (A (dStr.rows s3.2.2) (dStr.ixr he9)) (rfl:(ksStr s3.2.2).length=(ksStr s3.2.2).length)) T)) [(7,sE e9)] ?_;obtain⟨k10,hk10,h2⟩:=bnd h2;refine .a [.call [] (bE k10) []] (A (w_im_OpenNames_1 n _ hk10) T) [(29,bE (!k10))] ?_;refine .jT h2 (fun hc11 h2=>?_) (fun hc11 h2=>?_)
    ·obtain⟨u12,hu12,h2⟩:=bnd h2;obtain⟨e13,he13,h2⟩:=bnd h2;refine .ao [.cs [.s e13],.sv (ksStr (s3.2.2.set (Int.toNat s3.1) e9))] (A (A (dStr.inv hu12 (rfl:(ksStr s3.2.2).length=(ksStr s3.2.2).length)) (rfl:(ksStr s3.2.2).length=(ksStr s3.2.2).length)) (A (A (A (A (dStr.rows s3.2.2) (dStr.ixr he13)) (rfl:(ksStr s3.2.2).length=(ksStr s3.2.2).length)) (dStr.seti s3.2.2 (Int.toNat s3.1) e9)) T)) [(0,.vs (.low 0) 1 ((ksStr s3.2.2).length))] [.o 0 (.vec 9 1 (ksStr (s3.2.2.set (Int.toNat s3.1) e9)))] ?_;refine .rn (by simp only[dStr.length,List.length_set]:(ksStr s3.2.2).length=(ksStr (s3.2.2.set (Int.toNat s3.1) e9)).length) (fun nk14=>[(0,.vs (.low 0) 1 nk14)]) (fun nk14=>[]) (fun nk14=>[]) (by kernel_rfl) ?_;refine .a [.pl] T [(5,iE (w64 (s3.1+1)))] ?_;cases h2;exact .lg hj2 []
    ·cases h2;exact .lg hj2 []
  ·obtain⟨z15,hz15,h1⟩:=bnd h1;refine .clr (xs:=ksStr s3.2.2) rfl rfl rfl rfl rfl rfl rfl rfl (dStr.cl1 hz15 (rfl:(ksStr s3.2.2).length=(ksStr s3.2.2).length)) (rfl:(ksStr s3.2.2).length=(ksStr s3.2.2).length) (dStr.rows _) (ksStr z15) (dStr.cl2 hz15 (rfl:(ksStr s3.2.2).length=(ksStr s3.2.2).length)) ?_;refine .rn (by rw[dStr.length,dStr.length,clI_len hz15]:(ksStr s3.2.2).length=(ksStr z15).length) (fun nk16=>[(0,.vs (.low 0) 1 nk16)]) (fun nk16=>[]) (fun nk16=>[]) (by kernel_rfl) ?_;obtain⟨z17,hz17,h1⟩:=bnd h1;refine .aq [.sv (ksStr z17)] [] (A (dStr.tk hz17 (rfl:(ksStr z15).length=(ksStr z15).length)) T) [(4,.vs (.own 100041) 1 ((ksStr z17).length))] [.o 100041 (.vec 9 1 (ksStr z17))] [.o 0 (.tok 9223372036854775808 9)] ?_;refine .kp [4] [] ?_;refine .ft 4 100041 [] dStr z17 (rfl:(ksStr z17).length=(ksStr z17).length) (by kernel_rfl) ?_;cases h1;cases hw1 _ rfl;exact .rt hK
def slices_DeleteFunc_string__im_OpenNames_1_v (n:Nat) (a0:List (List UInt8)):Option (List (List UInt8)):=
 (slices_IndexFunc_string__im_OpenNames_1_v n a0).bind fun k1=>(if k1=(-1) then some a0 else iterM n (fun(s3:Int×Int×(List (List UInt8)))=>((if s3.2.1<(s3.2.2.length:Int) then Option.bind ((inB s3.2.1 s3.2.2.length).bind fun u8=>(s3.2.2[(Int.toNat s3.2.1)]?).bind fun e9=>(im_OpenNames_1 n e9).bind fun k10=>(if(!k10)=true then(inB s3.1 s3.2.2.length).bind fun u12=>(s3.2.2[(Int.toNat s3.1)]?).bind fun e13=>some ((w64 (s3.1+1)),(s3.2.2.set (Int.toNat s3.1) e9)) else some (s3.1,s3.2.2)):Option (Int×(List (List UInt8)))) (fun(o7:Int×(List (List UInt8)))=>some (Sum.inr (o7.1,(w64 (s3.2.1+1)),o7.2))) else(clI s3.2.2 s3.1 []).bind fun z15=>(takeI z15 s3.1).bind fun z17=>some (Sum.inl z17)):Option ((List (List UInt8))⊕(Int×Int×(List (List UInt8)))))) (k1,(w64 (k1+1)),a0))
theorem w_slices_DeleteFunc_string__im_OpenNames_1_v (n:Nat):∀(a0:List (List UInt8)) {r:List (List UInt8)},slices_DeleteFunc_string__im_OpenNames_1_v n a0=some r→SCall X.E 55 [.vs (.low 0) 1 ((ksStr a0).length),.clo 68 [] []] [some (.vec 9 1 (ksStr a0))] (lE 1 (ksStr r)) [.tok 9223372036854775808 9]:=by
 intro a0 r h0;rw[slices_DeleteFunc_string__im_OpenNames_1_v] at h0;refine .n Tryd.func55 (fun L ks low K hl hL hlen hK=>?_);refine .a [] T [] ?_;obtain⟨k1,hk1,h0⟩:=bnd h0;refine .a [.call [.low 0] (iE k1) [.vec 9 1 (ksStr a0)]] (A (w_slices_IndexFunc_string__im_OpenNames_1_v n _ hk1) T) [(5,iE k1)] ?_;refine .a [] T [(12,dE (k1=(-1)))] ?_;refine .jP h0 (fun hc2 h0=>?_) (fun hc2 h0=>?_)
 ·refine .a [] T [(4,.vs (.low 0) 1 ((ksStr a0).length))] ?_;refine .kp [4] [] ?_;refine .ct 4 0 500004 [] (rfl:(ksStr a0).length=(ksStr a0).length) (by kernel_rfl) ?_;refine .ft 4 500004 [] dStr a0 (rfl:(ksStr a0).length=(ksStr a0).length) (by kernel_rfl) ?_;cases h0;exact .rt hK
 ·refine .a [.pl] T [(6,iE (w64 (k1+1)))] ?_;refine .it h0 rfl [1] (fun s3=>[(0,.vs (.low 0) 1 ((ksStr s3.2.2).length)),(5,iE s3.1),(6,iE s3.2.1)]) n1 (fun s3=>[.o 0 (.vec 9 1 (ksStr s3.2.2))]) [] (by kernel_rfl) (fun nk4 s3 h0=>?_);obtain⟨y1,h1,hw1,hn1⟩:=iter_cons h0;refine .a [.v (s3.2.2.length:Int)] (A (dStr.len' s3.2.2) T) [(19,dE (s3.2.1<(s3.2.2.length:Int)))] ?_;refine .snV 0 dStr s3.2.2 (by kernel_rfl) (fun hb5=>?_);refine .jP h1 (fun hc6 h1=>?_) (fun hc6 h1=>?_)
  ·refine .bPB h1 rfl [1,6] (fun o7=>[(0,.vs (.low 0) 1 ((ksStr o7.2).length)),(5,iE o7.1)]) n1 (fun o7=>[.o 0 (.vec 9 1 (ksStr o7.2))]) (fun o7 h1=>?_) (fun y2 h2 hj2=>?_)
   ·refine .a [.pl] T [(6,iE (w64 (s3.2.1+1)))] ?_;cases h1;exact .nI rfl _ (hn1 _ rfl) [] (by kernel_rfl)
   ·obtain⟨u8,hu8,h2⟩:=bnd h2;obtain⟨e9,he9,h2⟩:=bnd h2;refine .a [.cs [.s e9]] (A (A (dStr.inv hu8 (rfl:(ksStr s3.2.2).length=(ksStr s3.2.2).length)) (rfl:(ksStr s3.2.2).length=(ksStr s3.2.2).length)) (A (A (A (dStr.rows s3.2.2) (dStr.ixr he9)) (rfl:(ksStr s3.2.2).length=(ksStr s3.2.2).length)) T)) [(7,sE e9)] ?_;obtain⟨k10,hk10,h2⟩:=bnd h2;refine .a [.call [] (bE k10) []] (A (w_im_OpenNames_1 n _ hk10) T) [(29,bE (!k10))] ?_;refine .jT h2 (fun hc11 h2=>?_) (fun hc11 h2=>?_)
    ·obtain⟨u12,hu12,h2⟩:=bnd h2;obtain⟨e13,he13,h2⟩:=bnd h2;refine .ao [.cs [.s e13],.sv (ksStr (s3.2.2.set (Int.toNat s3.1) e9))] (A (A (dStr.inv hu12 (rfl:(ksStr s3.2.2).length=(ksStr s3.2.2).length)) (rfl:(ksStr s3.2.2).length=(ksStr s3.2.2).length)) (A (A (A (A (dStr.rows s3.2.2) (dStr.ixr he13)) (rfl:(ksStr s3.2.2).length=(ksStr s3.2.2).length)) (dStr.seti s3.2.2 (Int.toNat s3.1) e9)) T)) [(0,.vs (.low 0) 1 ((ksStr s3.2.2).length))] [.o 0 (.vec 9 1 (ksStr (s3.2.2.set (Int.toNat s3.1) e9)))] ?_;refine .rn (by simp only[dStr.length,List.length_set]:(ksStr s3.2.2).length=(ksStr (s3.2.2.set (Int.toNat s3.1) e9)).length) (fun nk14=>[(0,.vs (.low 0) 1 nk14)]) (fun nk14=>[]) (fun nk14=>[]) (by kernel_rfl) ?_;refine .a [.pl] T [(5,iE (w64 (s3.1+1)))] ?_;cases h2;exact .lg hj2 []
    ·cases h2;exact .lg hj2 []
  ·obtain⟨z15,hz15,h1⟩:=bnd h1;refine .clr (xs:=ksStr s3.2.2) rfl rfl rfl rfl rfl rfl rfl rfl (dStr.cl1 hz15 (rfl:(ksStr s3.2.2).length=(ksStr s3.2.2).length)) (rfl:(ksStr s3.2.2).length=(ksStr s3.2.2).length) (dStr.rows _) (ksStr z15) (dStr.cl2 hz15 (rfl:(ksStr s3.2.2).length=(ksStr s3.2.2).length)) ?_;refine .rn (by rw[dStr.length,dStr.length,clI_len hz15]:(ksStr s3.2.2).length=(ksStr z15).length) (fun nk16=>[(0,.vs (.low 0) 1 nk16)]) (fun nk16=>[]) (fun nk16=>[]) (by kernel_rfl) ?_;obtain⟨z17,hz17,h1⟩:=bnd h1;refine .aq [.sv (ksStr z17)] [] (A (dStr.tk hz17 (rfl:(ksStr z15).length=(ksStr z15).length)) T) [(4,.vs (.own 100041) 1 ((ksStr z17).length))] [.o 100041 (.vec 9 1 (ksStr z17))] [.o 0 (.tok 9223372036854775808 9)] ?_;refine .kp [4] [] ?_;refine .ft 4 100041 [] dStr z17 (rfl:(ksStr z17).length=(ksStr z17).length) (by kernel_rfl) ?_;cases h1;cases hw1 _ rfl;exact .rt hK
theorem w_im_freeOf_nil_o (n:Nat):∀(a0:Core) {r:List (List UInt8)},im_freeOf_nil n a0=some r→SCall X.E 76 [aE (kCore a0),nE] [none] (.vs (.low 0) 1 ((ksStr r).length)) [.vec 9 1 (ksStr r)]:=by
 intro a0 r h0;rw[im_freeOf_nil] at h0;refine .n Tryd.func76 (fun L ks low K hl hL hlen hK=>?_);refine .nl 1 1 rfl ?_;refine .af [] T [(2,pw 2)] [.o 2 (.cells ((kCore a0).map .d))] ?_;refine .bP h0 rfl [1,2] (fun o1=>[(16,bE o1)]) n1 n1 (fun o1 h0=>?_) (fun y1 h1 hj1=>?_)
 ·refine .owV 1 100021 9 [2,16] rfl rfl (by kernel_rfl) ?_;refine .bP h0 rfl [2] (fun o2=>[(1,.vs (.own 100021) 1 ((ksStr o2).length))]) (fun o2=>[.o 100021 (.vec 9 1 (ksStr o2))]) n1 (fun o2 h0=>?_) (fun y1 h1 hj1=>?_)
  ·refine .a [.v (a0.kids.length:Int)] (A (dCore.len' a0.kids) T) [(23,lE 11 (ksCore a0.kids)),(24,iE (a0.kids.length:Int)),(25,iE 0)] ?_;refine .sn 23 dCore a0.kids (by kernel_rfl) (fun hb3=>?_);refine .lL h0 rfl [23,24] (fun i4 s5=>[(1,.vs (.own 100021) 1 ((ksStr s5).length)),(25,iE (i4:Int))]) (fun i4 s5=>[.o 100021 (.vec 9 1 (ksStr s5))]) n2 [] (by kernel_rfl) (fun i4 s5 q6 hd8 hi10 h0=>?_);refine .a [] T [(26,dE ((i4:Int)<(a0.kids.length:Int)))] ?_;refine .lc hd8 rfl (by kernel_rfl) (fun x7 q62 hc11 hx7 hd9 hd9l=>?_) (fun hc11=>?_)
   ·subst hc11;obtain⟨y1,h1,hn1⟩:=forL_cons h0;refine .af [.cs (kCore x7)] (A (dCore.idn hx7) T) [(6,pw 6)] [.o 6 (.cells ((kCore x7).map .d))] ?_;obtain⟨k12,hk12,h1⟩:=bnd h1;refine .af [.call [.own 100021] (.vs (.low 0) 1 ((ksStr k12).length)) [.vec 9 1 (ksStr k12)]] (A (w_im_freeOf n _ _ hk12) T) [(1,.vs (.own 100021) 1 ((ksStr k12).length))] [.o 100021 (.vec 9 1 (ksStr k12))] ?_;refine .a [.v ((i4+1:Nat):Int)] (A (wn (i:=i4) (by omega)) T) [(25,iE ((i4+1:Nat):Int))] ?_;cases h1;refine .kp [1,23,24,25] [] ?_;refine .dr 6 (by kernel_rfl) ?_;exact .nL rfl (i4+1) _ hd9 hd9l hn1 [] (by kernel_rfl)
   ·subst hc11;have h0:=forL_nil h0;refine .a [] T [(4,.vs (.own 100021) 1 ((ksStr s5).length))] ?_;refine .kp [4] [] ?_;refine .dr 2 (by kernel_rfl) ?_;refine .mv 4 100021 0 [] (by kernel_rfl) ?_;cases h0;exact .rt hK
  ·refine .jT h1 (fun hc13 h1=>?_) (fun hc13 h1=>?_)
   ·obtain⟨z14,hz14,h1⟩:=bnd h1;refine .af [.sv (ksStr [a0.name]),.sv (ksStr z14)] (A (dStr.lit [a0.name]) (A (A (dStr.ap hz14) (rfl:(ksStr []).length=0)) T)) [(1,.vs (.own 100021) 1 ((ksStr z14).length))] [.o 100021 (.vec 9 1 (ksStr z14))] ?_;cases h1;exact .lg hj1 []
   ·cases h1;exact .lg hj1 []
 ·by_cases g15:a0.kind=2
  ·have h1:=iteP g15 h1;obtain⟨k16,hk16,h1⟩:=bnd h1;refine .a (rb 4 true [.call [] (bE k16) [],.b true,.b true]) (R 3 (dt g15) (A (A (dt g15) (w_slices_Contains_string n _ _ hk16)) (R 2 (dt g15) T))) [(16,bE (!k16))] ?_;cases h1;exact .lg hj1 []
  ·have h1:=iteN g15 h1;refine .a (rb 6 false []) (R 6 (df g15) T) [(16,bE false)] ?_;cases h1;exact .lg hj1 []
theorem w_im_FreeOf_o (n:Nat):∀(a0:Core) {r:List (List UInt8)},im_FreeOf n a0=some r→SCall X.E 67 [aE (kCore a0)] [none] (.vs (.low 0) 1 ((ksStr r).length)) [.vec 9 1 (ksStr r)]:=by
 intro a0 r h0;rw[im_FreeOf] at h0;refine .n Tryd.func67 (fun L ks low K hl hL hlen hK=>?_);refine .af [] T [(1,pw 1)] [.o 1 (.cells ((kCore a0).map .d))] ?_;obtain⟨k1,hk1,h0⟩:=bnd h0;refine .af [.b true,.call [.own 300040] (.vs (.low 0) 1 ((ksStr k1).length)) [.vec 9 1 (ksStr k1)]] (A (w_im_freeOf_nil_o n _ hk1) T) [(2,.vs (.own 300040) 1 ((ksStr k1).length))] [.o 300040 (.vec 9 1 (ksStr k1))] ?_;refine .kp [2] [] ?_;refine .dr 1 (by kernel_rfl) ?_;refine .mv 2 300040 0 [] (by kernel_rfl) ?_;cases h0;exact .rt hK
def im_OpenNames (n:Nat) (a0:Core):Option (List (List UInt8)):=
 (im_FreeOf n a0).bind fun k1=>(slices_DeleteFunc_string__im_OpenNames_1_v n k1).bind fun k2=>some k2
theorem w_im_OpenNames (n:Nat):∀(a0:Core) {r:List (List UInt8)},im_OpenNames n a0=some r→SCall X.E 35 [aE (kCore a0)] [] (lE 1 (ksStr r)) []:=by
 intro a0 r h0;rw[im_OpenNames] at h0;refine .n Tryd.func35 (fun L ks low K hl hL hlen hK=>?_);refine .af [] T [(1,pw 1)] [.o 1 (.cells ((kCore a0).map .d))] ?_;obtain⟨k1,hk1,h0⟩:=bnd h0;obtain⟨k2,hk2,h0⟩:=bnd h0;refine .af [.call [.own 300040] (.vs (.low 0) 1 ((ksStr k1).length)) [.vec 9 1 (ksStr k1)],.call [.own 300040] (lE 1 (ksStr k2)) [.tok 9223372036854775808 9]] (A (w_im_FreeOf_o n _ hk1) (A (w_slices_DeleteFunc_string__im_OpenNames_1_v n _ hk2) T)) [(2,lE 1 (ksStr k2))] [.o 300040 (.tok 9223372036854775808 9)] ?_;cases h0;exact .rt hK
theorem w_slices_DeleteFunc_string__im_OpenNames_1_v_o (n:Nat):∀(a0:List (List UInt8)) {r:List (List UInt8)},slices_DeleteFunc_string__im_OpenNames_1_v n a0=some r→SCall X.E 55 [.vs (.low 0) 1 ((ksStr a0).length),.clo 68 [] []] [some (.vec 9 1 (ksStr a0)),none] (.vs (.low 1) 1 ((ksStr r).length)) [.tok 9223372036854775808 9,.vec 9 1 (ksStr r)]:=by
 intro a0 r h0;rw[slices_DeleteFunc_string__im_OpenNames_1_v] at h0;refine .n Tryd.func55 (fun L ks low K hl hL hlen hK=>?_);refine .a [] T [] ?_;obtain⟨k1,hk1,h0⟩:=bnd h0;refine .a [.call [.low 0] (iE k1) [.vec 9 1 (ksStr a0)]] (A (w_slices_IndexFunc_string__im_OpenNames_1_v n _ hk1) T) [(5,iE k1)] ?_;refine .a [] T [(12,dE (k1=(-1)))] ?_;refine .jP h0 (fun hc2 h0=>?_) (fun hc2 h0=>?_)
 ·refine .a [] T [(4,.vs (.low 0) 1 ((ksStr a0).length))] ?_;refine .kp [4] [] ?_;refine .ct 4 0 500004 [] (rfl:(ksStr a0).length=(ksStr a0).length) (by kernel_rfl) ?_;refine .mv 4 500004 1 [] (by kernel_rfl) ?_;cases h0;exact .rt hK
 ·refine .a [.pl] T [(6,iE (w64 (k1+1)))] ?_;refine .it h0 rfl [1] (fun s3=>[(0,.vs (.low 0) 1 ((ksStr s3.2.2).length)),(5,iE s3.1),(6,iE s3.2.1)]) n1 (fun s3=>[.o 0 (.vec 9 1 (ksStr s3.2.2))]) [] (by kernel_rfl) (fun nk4 s3 h0=>?_);obtain⟨y1,h1,hw1,hn1⟩:=iter_cons h0;refine .a [.v (s3.2.2.length:Int)] (A (dStr.len' s3.2.2) T) [(19,dE (s3.2.1<(s3.2.2.length:Int)))] ?_;refine .snV 0 dStr s3.2.2 (by kernel_rfl) (fun hb5=>?_);refine .jP h1 (fun hc6 h1=>?_) (fun hc6 h1=>?_)
  ·refine .bPB h1 rfl [1,6] (fun o7=>[(0,.vs (.low 0) 1 ((ksStr o7.2).length)),(5,iE o7.1)]) n1 (fun o7=>[.o 0 (.vec 9 1 (ksStr o7.2))]) (fun o7 h1=>?_) (fun y2 h2 hj2=>?_)
   ·refine .a [.pl] T [(6,iE (w64 (s3.2.1+1)))] ?_;cases h1;exact .nI rfl _ (hn1 _ rfl) [] (by kernel_rfl)
   ·obtain⟨u8,hu8,h2⟩:=bnd h2;obtain⟨e9,he9,h2⟩:=bnd h2;refine .a [.cs [.s e9]] (A (A (dStr.inv hu8 (rfl:(ksStr s3.2.2).length=(ksStr s3.2.2).length)) (rfl:(ksStr s3.2.2).length=(ksStr s3.2.2).length)) (A (A (A (dStr.rows s3.2.2) (dStr.ixr he9)) (rfl:(ksStr s3.2.2).length=(ksStr s3.2.2).length)) T)) [(7,sE e9)] ?_;obtain⟨k10,hk10,h2⟩:=bnd h2;refine .a [.call [] (bE k10) []] (A (w_im_OpenNames_1 n _ hk10) T) [(29,bE (!k10))] ?_;refine .jT h2 (fun hc11 h2=>?_) (fun hc11 h2=>?_)
    ·obtain⟨u12,hu12,h2⟩:=bnd h2;obtain⟨e13,he13,h2⟩:=bnd h2;refine .ao [.cs [.s e13],.sv (ksStr (s3.2.2.set (Int.toNat s3.1) e9))] (A (A (dStr.inv hu12 (rfl:(ksStr s3.2.2).length=(ksStr s3.2.2).length)) (rfl:(ksStr s3.2.2).length=(ksStr s3.2.2).length)) (A (A (A (A (dStr.rows s3.2.2) (dStr.ixr he13)) (rfl:(ksStr s3.2.2).length=(ksStr s3.2.2).length)) (dStr.seti s3.2.2 (Int.toNat s3.1) e9)) T)) [(0,.vs (.low 0) 1 ((ksStr s3.2.2).length))] [.o 0 (.vec 9 1 (ksStr (s3.2.2.set (Int.toNat s3.1) e9)))] ?_;refine .rn (by simp only[dStr.length,List.length_set]:(ksStr s3.2.2).length=(ksStr (s3.2.2.set (Int.toNat s3.1) e9)).length) (fun nk14=>[(0,.vs (.low 0) 1 nk14)]) (fun nk14=>[]) (fun nk14=>[]) (by kernel_rfl) ?_;refine .a [.pl] T [(5,iE (w64 (s3.1+1)))] ?_;cases h2;exact .lg hj2 []
    ·cases h2;exact .lg hj2 []
  ·obtain⟨z15,hz15,h1⟩:=bnd h1;refine .clr (xs:=ksStr s3.2.2) rfl rfl rfl rfl rfl rfl rfl rfl (dStr.cl1 hz15 (rfl:(ksStr s3.2.2).length=(ksStr s3.2.2).length)) (rfl:(ksStr s3.2.2).length=(ksStr s3.2.2).length) (dStr.rows _) (ksStr z15) (dStr.cl2 hz15 (rfl:(ksStr s3.2.2).length=(ksStr s3.2.2).length)) ?_;refine .rn (by rw[dStr.length,dStr.length,clI_len hz15]:(ksStr s3.2.2).length=(ksStr z15).length) (fun nk16=>[(0,.vs (.low 0) 1 nk16)]) (fun nk16=>[]) (fun nk16=>[]) (by kernel_rfl) ?_;obtain⟨z17,hz17,h1⟩:=bnd h1;refine .aq [.sv (ksStr z17)] [] (A (dStr.tk hz17 (rfl:(ksStr z15).length=(ksStr z15).length)) T) [(4,.vs (.own 100041) 1 ((ksStr z17).length))] [.o 100041 (.vec 9 1 (ksStr z17))] [.o 0 (.tok 9223372036854775808 9)] ?_;refine .kp [4] [] ?_;refine .mv 4 100041 1 [] (by kernel_rfl) ?_;cases h1;cases hw1 _ rfl;exact .rt hK
theorem w_im_OpenNames_o (n:Nat):∀(a0:Core) {r:List (List UInt8)},im_OpenNames n a0=some r→SCall X.E 35 [aE (kCore a0)] [none] (.vs (.low 0) 1 ((ksStr r).length)) [.vec 9 1 (ksStr r)]:=by
 intro a0 r h0;rw[im_OpenNames] at h0;refine .n Tryd.func35 (fun L ks low K hl hL hlen hK=>?_);refine .af [] T [(1,pw 1)] [.o 1 (.cells ((kCore a0).map .d))] ?_;obtain⟨k1,hk1,h0⟩:=bnd h0;obtain⟨k2,hk2,h0⟩:=bnd h0;refine .af [.call [.own 300040] (.vs (.low 0) 1 ((ksStr k1).length)) [.vec 9 1 (ksStr k1)],.call [.own 300040,.own 300050] (.vs (.low 1) 1 ((ksStr k2).length)) [.tok 9223372036854775808 9,.vec 9 1 (ksStr k2)]] (A (w_im_FreeOf_o n _ hk1) (A (w_slices_DeleteFunc_string__im_OpenNames_1_v_o n _ hk2) T)) [(2,.vs (.own 300050) 1 ((ksStr k2).length))] [.o 300040 (.tok 9223372036854775808 9),.o 300050 (.vec 9 1 (ksStr k2))] ?_;refine .kp [2] [] ?_;refine .dr 1 (by kernel_rfl) ?_;refine .dr 300040 (by kernel_rfl) ?_;refine .mv 2 300050 0 [] (by kernel_rfl) ?_;cases h0;exact .rt hK
end Go.Ev
