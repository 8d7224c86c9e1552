/- Models of the functions that FnUncoreSize reaches. No condition. -/
import Derived.Test.YtomehndhbihfiaaGreatDoorEvTri
import Derived.Test.YtomehndhbihfiaaGreatDoorNumP
import Derived.Test.YtomehndhbihfiaaGreatDoorNumR9
import Derived.Test.YtomehndhbihfiaaGreatDoorProg
import Derived.KernelRfl
import Derived.Test.YtomehndhbihfiaaGreatDoorShR9
namespace Go.Ev
open Go.Proofs Go.Mx
set_option linter.unusedVariables false
set_option maxRecDepth 10000
def tT:List (Nat×(Nat×Nat×fJ)):=[(3,(1,8,.int .i64)),(4,(1,1,.bool)),(5,(1,1,.int .u8)),(9,(1,16,.str)),(21,(1,4,.int .i32)),(22,(1,24,.slice 3)),(30,(1,24,.slice 32)),(32,(5,80,.struct [(0,1),(1,1),(2,1),(3,1),(4,1)])),(35,(1,24,.slice 37)),(37,(11,168,.struct [(0,1),(1,1),(2,1),(3,1),(4,1),(5,5),(10,1)])),(44,(1,24,.slice 5)),(46,(1,24,.slice 9)),(64,(5,80,.array 5 9)),(99,(2,32,.struct [(0,1),(1,1)])),(141,(1,24,.slice 187)),(142,(1,24,.slice 212)),(144,(5,72,.struct [(0,1),(1,1),(2,1),(3,1),(4,1)])),(187,(3,48,.struct [(0,1),(1,1),(2,1)])),(210,(1,24,.slice 228)),(212,(3,56,.struct [(0,1),(1,1),(2,1)])),(228,(10,160,.struct [(0,5),(5,5)])),(231,(1,24,.slice 243)),(243,(12,192,.struct [(0,5),(5,1),(6,5),(11,1)])),(252,(1,24,.slice 231))]
def tZ:List (Nat×List KD):=[(3,[.v (.int .i64 0)]),(5,[.v (.int .u8 0)]),(9,[.s []]),(21,[.v (.int .i32 0)]),(22,[.sl 1 true (aj [])]),(32,[.v (.int .i64 0),.s [],.v (.int .i64 0),.sl 1 true (aj []),.sl 5 true (ah [])]),(37,[.v (.int .i64 0),.v (.int .i64 0),.s [],.v (.int .i64 0),.sl 1 true (aj []),.v (.int .i64 0),.s [],.v (.int .i64 0),.sl 1 true (aj []),.sl 5 true (ah []),.sl 11 true (aG [])]),(99,[.sl 1 true (gJ []),.v (.int .i64 0)]),(144,[.sl 3 true (aA []),.sl 3 true (cO []),.v (.int .i64 0),.v (.int .i64 0),.v (.int .i64 0)]),(187,[.s [],.sl 1 true (aj []),.v (.int .i64 0)]),(212,[.v (.int .i64 0),.sl 5 true (ah []),.sl 10 true (dY [])]),(228,[.v (.int .i64 0),.s [],.v (.int .i64 0),.sl 1 true (aj []),.sl 5 true (ah []),.v (.int .i64 0),.s [],.v (.int .i64 0),.sl 1 true (aj []),.sl 5 true (ah [])]),(231,[.sl 12 true (aS [])]),(243,[.v (.int .i64 0),.s [],.v (.int .i64 0),.sl 1 true (aj []),.sl 5 true (ah []),.v (.int .i64 0),.v (.int .i64 0),.s [],.v (.int .i64 0),.sl 1 true (aj []),.sl 5 true (ah []),.sl 12 true (aS [])])]
theorem ae9:allT (fun i x=>aV Tryz.prog i=some x) tT:=by
 refine⟨?_,?_,?_,?_,?_,?_,?_,?_,?_,?_,?_,?_,?_,?_,?_,?_,?_,?_,?_,?_,?_,?_,?_,?_,trivial⟩ <;> (show aV _ _=_; kernel_rfl)
theorem afa:allT (fun i x=>∃zs,gZ Tryz.prog i=some zs∧lZ (KD.DL x) zs) tZ:=
 ⟨⟨_,(by kernel_rfl:gZ Tryz.prog 3=some [.int .i64 0]),(.v .nil)⟩,⟨_,(by kernel_rfl:gZ Tryz.prog 5=some [.int .u8 0]),(.v .nil)⟩,⟨_,(by kernel_rfl:gZ Tryz.prog 9=some [.string (mkS [])]),(.v .nil)⟩,⟨_,(by kernel_rfl:gZ Tryz.prog 21=some [.int .i32 0]),(.v .nil)⟩,⟨_,(by kernel_rfl:gZ Tryz.prog 22=some [.slice none 0 0]),(.sl .nil)⟩,⟨_,(by kernel_rfl:gZ Tryz.prog 32=some [.int .i64 0,.string (mkS []),.int .i64 0,.slice none 0 0,.slice none 0 0]),(.v (.v (.v (.sl (.sl .nil)))))⟩,⟨_,(by kernel_rfl:gZ Tryz.prog 37=some [.int .i64 0,.int .i64 0,.string (mkS []),.int .i64 0,.slice none 0 0,.int .i64 0,.string (mkS []),.int .i64 0,.slice none 0 0,.slice none 0 0,.slice none 0 0]),(.v (.v (.v (.v (.sl (.v (.v (.v (.sl (.sl (.sl .nil)))))))))))⟩,⟨_,(by kernel_rfl:gZ Tryz.prog 99=some [.slice none 0 0,.int .i64 0]),(.sl (.v .nil))⟩,⟨_,(by kernel_rfl:gZ Tryz.prog 144=some [.slice none 0 0,.slice none 0 0,.int .i64 0,.int .i64 0,.int .i64 0]),(.sl (.sl (.v (.v (.v .nil)))))⟩,⟨_,(by kernel_rfl:gZ Tryz.prog 187=some [.string (mkS []),.slice none 0 0,.int .i64 0]),(.v (.sl (.v .nil)))⟩,⟨_,(by kernel_rfl:gZ Tryz.prog 212=some [.int .i64 0,.slice none 0 0,.slice none 0 0]),(.v (.sl (.sl .nil)))⟩,⟨_,(by kernel_rfl:gZ Tryz.prog 228=some [.int .i64 0,.string (mkS []),.int .i64 0,.slice none 0 0,.slice none 0 0,.int .i64 0,.string (mkS []),.int .i64 0,.slice none 0 0,.slice none 0 0]),(.v (.v (.v (.sl (.sl (.v (.v (.v (.sl (.sl .nil))))))))))⟩,⟨_,(by kernel_rfl:gZ Tryz.prog 231=some [.slice none 0 0]),(.sl .nil)⟩,⟨_,(by kernel_rfl:gZ Tryz.prog 243=some [.int .i64 0,.string (mkS []),.int .i64 0,.slice none 0 0,.slice none 0 0,.int .i64 0,.int .i64 0,.string (mkS []),.int .i64 0,.slice none 0 0,.slice none 0 0,.slice none 0 0]),(.v (.v (.v (.sl (.sl (.v (.v (.v (.v (.sl (.sl (.sl .nil))))))))))))⟩,trivial⟩
def RG:List (List UInt8):=[[108,97,109,98,100,97],[105,102],[113,117,111,116,101],[108,101,116],[108,101,116,45,115,121,110,116,97,120]]
def gp0:List KD:=[.s [108,97,109,98,100,97],.s [105,102],.s [113,117,111,116,101],.s [108,101,116],.s [108,101,116,45,115,121,110,116,97,120]]
def U6:Nat→KD
 | 0=>.ro gp0
 | 1=>.gb fun vs=>∃tp x,vs[0]? = some (.iface tp x)
 | 3=>.gb fun vs=>vs=(Lib.pow10Tab.map fun z=>Go.Value.int .u64 z).toArray
 | _=>.any
noncomputable def E0:Setting:=⟨Tryz.prog,fun g=>(U6 g).D,fun g=>KD.lK _ _⟩
noncomputable def X:Ctx:=⟨E0,U6,fun _=>rfl,⟨lkT tT,lkT tZ,Tz ae9,Tz afa⟩⟩
theorem mixed:X.E.P.follows .mixedOrders=true:=by kernel_rfl
def uV:List UInt8:=[40,43,32,49,32,108,105,115,116,41]
def Dk:List UInt8:=[45,57,50,50,51,51,55,50,48,51,54,56,53,52,55,55,53,56,48,56]
def mV:List UInt8:=[40,104,101,97,100,32,40,116,97,105,108,32,40,108,105,115,116,32,49,32,50,32,51,41,41,41]
def mW:List UInt8:=[40,105,102,32,48,32,49,32,40,113,117,111,116,101,32,40,97,32,40,98,41,32,51,41,41,41]
def mX:List UInt8:=[40,40,108,97,109,98,100,97,32,40,119,41,32,40,119,32,119,41,41,32,40,108,97,109,98,100,97,32,40,119,41,32,40,119,32,119,41,41,41]
def mY:List UInt8:=[40,108,97,109,98,100,97,32,40,120,41,32,40,108,97,109,98,100,97,32,40,120,32,121,41,32,40,120,32,121,32,40,113,117,111,116,101,32,40,120,32,49,41,41,41,41,41]
def mZ:List UInt8:=[40,40,108,97,109,98,100,97,32,40,120,41,32,120,41,41]
def ng:List UInt8:=[40,40,108,97,109,98,100,97,32,40,120,32,121,41,32,40,108,105,115,116,32,121,32,120,41,41,32,49,32,50,41]
def ni:List UInt8:=[40,108,101,116,32,40,40,102,32,40,108,97,109,98,100,97,32,40,120,41,32,40,43,32,120,32,49,41,41,41,41,32,40,102,32,40,102,32,53,41,41,41]
def ny:List UInt8:=[40,108,101,116,32,40,40,103,32,40,108,97,109,98,100,97,32,40,104,41,32,40,108,97,109,98,100,97,32,40,120,41,32,40,104,32,40,104,32,120,41,41,41,41,41,41,32,40,40,103,32,40,108,97,109,98,100,97,32,40,110,41,32,40,43,32,110,32,110,41,41,41,32,51,41,41]
def nC:List UInt8:=[40,108,101,116,32,40,40,105,102,32,108,105,115,116,41,41,32,40,108,101,116,45,115,121,110,116,97,120,32,40,40,109,32,40,114,117,108,101,115,32,40,41,32,40,40,95,32,97,41,32,40,105,102,32,97,32,49,32,50,41,41,41,41,41,32,40,109,32,53,41,41,41]
def nD:List UInt8:=[40,108,101,116,45,115,121,110,116,97,120,32,40,40,100,101,102,32,40,114,117,108,101,115,32,40,41,32,40,40,95,32,110,32,101,32,98,41,32,40,108,101,116,32,40,40,110,32,101,41,41,32,98,41,41,41,41,41,32,40,100,101,102,32,122,32,51,32,40,43,32,122,32,122,41,41,41]
def nG:List UInt8:=[40,108,101,116,45,115,121,110,116,97,120,32,40,40,107,32,40,114,117,108,101,115,32,40,101,108,115,101,41,32,40,40,95,32,101,108,115,101,32,97,41,32,97,41,32,40,40,95,32,98,32,97,41,32,40,108,105,115,116,32,98,32,97,41,41,41,41,41,32,40,107,32,101,108,115,101,32,52,41,41]
def nH:List UInt8:=[40,108,101,116,45,115,121,110,116,97,120,32,40,40,109,32,40,114,117,108,101,115,32,40,41,32,40,40,95,32,97,41,32,40,105,102,32,97,32,49,32,50,41,41,41,41,41,32,40,108,101,116,32,40,40,105,102,32,108,105,115,116,41,41,32,40,109,32,105,102,41,41,41]
def nJ:List UInt8:=[40,108,101,116,45,115,121,110,116,97,120,32,40,40,107,32,40,114,117,108,101,115,32,40,101,108,115,101,41,32,40,40,95,32,101,108,115,101,32,97,41,32,97,41,32,40,40,95,32,98,32,97,41,32,40,108,105,115,116,32,98,32,97,41,41,41,41,41,32,40,108,101,116,32,40,40,101,108,115,101,32,51,41,41,32,40,107,32,101,108,115,101,32,52,41,41,41]
def fP:List UInt8:=[108,101,116,45,115,121,110,116,97,120]
def nK:List UInt8:=[40,108,101,116,45,115,121,110,116,97,120,32,40,40,111,114,32,40,114,117,108,101,115,32,40,41,32,40,40,95,41,32,48,41,32,40,40,95,32,97,41,32,97,41,32,40,40,95,32,97,32,98,32,46,46,46,41,32,40,108,101,116,32,40,40,116,32,97,41,41,32,40,105,102,32,116,32,116,32,40,111,114,32,98,32,46,46,46,41,41,41,41,41,41,41,32,40,108,101,116,32,40,40,116,32,53,41,41,32,40,111,114,32,48,32,116,32,55,41,41,41]
def nM:List UInt8:=[40,108,101,116,45,115,121,110,116,97,120,32,40,40,109,121,32,40,114,117,108,101,115,32,40,41,32,40,40,95,32,102,41,32,40,108,97,109,98,100,97,32,40,120,41,32,40,102,32,120,41,41,41,41,41,41,32,40,108,101,116,32,40,40,120,32,51,41,41,32,40,40,109,121,32,40,108,97,109,98,100,97,32,40,121,41,32,40,43,32,120,32,121,41,41,41,32,52,41,41,41]
def nN:List UInt8:=[40,108,101,116,45,115,121,110,116,97,120,32,40,40,111,114,32,40,114,117,108,101,115,32,40,41,32,40,40,95,41,32,48,41,32,40,40,95,32,97,32,98,32,46,46,46,41,32,40,108,101,116,32,40,40,116,32,97,41,41,32,40,105,102,32,116,32,116,32,40,111,114,32,98,32,46,46,46,41,41,41,41,41,41,41,32,40,108,101,116,32,40,40,116,32,53,41,41,32,40,111,114,32,48,32,116,41,41,41]
def nO:List UInt8:=[40,108,101,116,45,115,121,110,116,97,120,32,40,40,108,111,111,112,32,40,114,117,108,101,115,32,40,41,32,40,40,95,41,32,40,108,111,111,112,41,41,41,41,41,32,40,108,111,111,112,41,41]
def nP:List UInt8:=[40,108,101,116,45,115,121,110,116,97,120,32,40,40,119,105,116,104,32,40,114,117,108,101,115,32,40,41,32,40,40,95,32,40,40,120,32,118,41,32,46,46,46,41,32,98,111,100,121,41,32,40,40,108,97,109,98,100,97,32,40,120,32,46,46,46,41,32,98,111,100,121,41,32,118,32,46,46,46,41,41,41,41,41,32,40,119,105,116,104,32,40,40,112,32,49,41,32,40,113,32,50,41,41,32,40,43,32,112,32,113,41,41,41]
def nR:List UInt8:=[40,108,101,116,45,115,121,110,116,97,120,32,40,40,116,119,111,32,40,114,117,108,101,115,32,40,41,32,40,40,95,32,110,41,32,40,108,97,109,98,100,97,32,40,110,32,120,41,32,40,43,32,110,32,120,41,41,41,41,41,41,32,40,116,119,111,32,120,41,41]
def nS:List UInt8:=[40,108,101,116,45,115,121,110,116,97,120,32,40,40,97,32,40,114,117,108,101,115,32,40,41,32,40,40,95,32,120,41,32,40,98,32,120,41,41,41,41,32,40,98,32,40,114,117,108,101,115,32,40,41,32,40,40,95,32,121,41,32,40,108,105,115,116,32,121,32,121,41,41,41,41,41,32,40,97,32,55,41,41]
def nT:List UInt8:=[40,108,101,116,45,115,121,110,116,97,120,32,40,40,109,32,40,114,117,108,101,115,32,40,41,32,40,40,95,32,97,41,32,49,41,41,41,41,32,40,109,41,41]
def nU:List UInt8:=[40,108,101,116,32,40,40,116,109,112,32,53,41,32,40,122,32,54,41,41,32,40,108,101,116,45,115,121,110,116,97,120,32,40,40,115,119,97,112,32,40,114,117,108,101,115,32,40,41,32,40,40,95,32,97,32,98,41,32,40,108,101,116,32,40,40,116,109,112,32,97,41,41,32,40,108,105,115,116,32,98,32,116,109,112,41,41,41,41,41,41,32,40,115,119,97,112,32,116,109,112,32,122,41,41,41]
def nV:List UInt8:=[40,108,101,116,32,40,40,120,32,49,41,32,40,121,32,50,41,41,32,40,108,101,116,45,115,121,110,116,97,120,32,40,40,115,119,97,112,32,40,114,117,108,101,115,32,40,41,32,40,40,95,32,97,32,98,41,32,40,108,101,116,32,40,40,116,109,112,32,97,41,41,32,40,108,105,115,116,32,98,32,116,109,112,41,41,41,41,41,41,32,40,115,119,97,112,32,120,32,121,41,41,41]
def nX:List UInt8:=[40,108,105,115,116,32,40,60,32,49,32,50,41,32,40,61,32,49,32,50,41,32,40,108,97,109,98,100,97,32,40,120,41,32,120,41,32,108,105,115,116,41]
def Dn:List UInt8:=[40,114,117,108,101,115,32,40,41,32,40,40,95,32,97,32,98,41,32,40,108,101,116,32,40,40,116,32,97,41,41,32,40,108,105,115,116,32,98,32,116,41,41,41,32,40,40,95,32,97,41,32,40,108,101,116,32,40,40,120,32,97,41,41,32,40,108,105,115,116,32,120,32,97,41,41,41,41]
def qh:List UInt8:=[117,110,107,110,111,119,110]
def EK (n:Nat) (a0:Form) (a1:List UInt8):Option (Bool):=
 Option.bind ((if a0.kind=1 then some (decide (a0.name=a1)) else some false):Option (Bool)) (fun(o1:Bool)=>some o1)
theorem TI (n:Nat):∀(a0:Form) (a1:List UInt8) {r:Bool},EK n a0 a1=some r→aC X.E 52 [aE (ak a0),sE a1] [] (bE r) []:=by
 intro a0 a1 r h0;rw[EK] at h0;refine .n Tryz.func52 (fun L ks low K hl hL hlen hK=>?_);refine .af [] T [(2,pw 2)] [.o 2 (.cells ((ak a0).map .d))] ?_;refine .bP h0 rfl [] (fun o1=>[(4,bE o1)]) n1 n1 (fun o1 h0=>?_) (fun y1 h1 hj1=>?_)
 ·cases h0;exact .rt hK
 ·by_cases g2:a0.kind=1
  ·have h1:=aJ g2 h1;refine .a (rb 5 true []) (R 5 (dt g2) T) [(4,dE (a0.name=a1))] ?_;cases h1;exact .lg hj1 []
  ·have h1:=aK g2 h1;refine .a (rb 5 false []) (R 5 (df g2) T) [(4,bE false)] ?_;cases h1;exact .lg hj1 []
def qj (n:Nat) (a0:Form) (w0:List UInt8) (w1:Int):Option (Int):=
 (EK n a0 w0).bind fun k1=>(if k1=true then some (aX (w1+1)) else some w1)
theorem F7 (n:Nat):∀(a0:Form) (w0:List UInt8) (w1:Int) {r:Int},qj n a0 w0 w1=some r→aC X.E 51 [aE (ak a0),pl 0,pl 1] [some (.cells [sE w0]),some (.cells [iE w1])] (.dU []) [.cells [sE w0],.cells [iE r]]:=by
 intro a0 w0 w1 r h0;rw[qj] at h0;refine .n Tryz.func51 (fun L ks low K hl hL hlen hK=>?_);refine .af [] T [(3,pw 3)] [.o 3 (.cells ((ak a0).map .d))] ?_;obtain⟨k1,hk1,h0⟩:=bnd h0;refine .a [.call [] (bE k1) []] (A (TI n _ _ hk1) T) [(6,bE k1)] ?_;refine .jT h0 (fun hc2 h0=>?_) (fun hc2 h0=>?_)
 ·refine .ao [.pl] T [] [.c 1 0 (iE (aX (w1+1)))] ?_;cases h0;exact .fin rfl rfl rfl rfl hK
 ·cases h0;exact .fin rfl rfl rfl rfl hK
def dN:Nat→Form→(List UInt8)→Int→Option (Int)
 | 0,_,_,_=>none
 | n+1,a0,w0,w1=>(qj n a0 w0 w1).bind fun k1=>Option.bind (dV (fun(s4:Int) (i3:Nat) (x6:Form)=>(dN n x6 w0 s4).bind fun k11=>some k11) 0 a0.kids k1) (fun(s4:Int)=>some s4)
theorem rX (n:Nat):∀(a0:Form) (w0:List UInt8) (w1:Int) {r:Int},dN n a0 w0 w1=some r→aC X.E 50 [aE (ak a0),.clo 51 [] [pl 0,pl 1]] [some (.cells [sE w0]),some (.cells [iE w1])] (.dU []) [.cells [sE w0],.cells [iE r]]:=by
 induction n with
 | zero=>intro a0 w0 w1 r h; cases h
 | succ n ih=>
  intro a0 w0 w1 r h0;rw[dN] at h0;refine .n Tryz.func50 (fun L ks low K hl hL hlen hK=>?_);refine .af [] T [(2,pw 2)] [.o 2 (.cells ((ak a0).map .d))] ?_;obtain⟨k1,hk1,h0⟩:=bnd h0;refine .ao [.call [.low 0,.low 1] (.dU []) [.cells [sE w0],.cells [iE k1]]] (A (F7 n _ _ _ hk1) T) [] [.c 1 0 (iE k1)] ?_;refine .a [.v (a0.kids.length:Int)] (A (ay.len' a0.kids) T) [(10,lE 5 (ah a0.kids)),(11,iE (a0.kids.length:Int)),(12,iE 0)] ?_;refine .sn 10 ay a0.kids (by kernel_rfl) (fun hb2=>?_);refine .lL h0 rfl [1,10,11] (fun i3 s4=>[(12,iE (i3:Int))]) n2 (fun i3 s4=>[.c 1 0 (iE s4)]) [] (by kernel_rfl) (fun i3 s4 q5 hd7 hi9 h0=>?_);refine .a [] T [(13,dE ((i3:Int)<(a0.kids.length:Int)))] ?_;refine .lc hd7 rfl (by kernel_rfl) (fun x6 MS iR hx6 hd8 jG=>?_) (fun iR=>?_)
  ·subst iR;obtain⟨y1,h1,hn1⟩:=bU h0;refine .af [.cs (ak x6)] (A (ay.iV hx6) T) [(5,pw 5)] [.o 5 (.cells ((ak x6).map .d))] ?_;obtain⟨k11,Am,h1⟩:=bnd h1;refine .ao [.call [.low 0,.low 1] (.dU []) [.cells [sE w0],.cells [iE k11]]] (A (ih _ _ _ Am) T) [] [.c 1 0 (iE k11)] ?_;refine .a [.v ((i3+1:Nat):Int)] (A (wn (i:=i3) (by omega)) T) [(12,iE ((i3+1:Nat):Int))] ?_;cases h1;refine .kp [1,10,11,12] [] ?_;refine .dr 5 (by kernel_rfl) ?_;exact .nL rfl (i3+1) _ hd8 jG hn1 [] (by kernel_rfl)
  ·subst iR;have h0:=dF h0;cases h0;exact .fin rfl rfl rfl rfl hK
def lQ (n:Nat) (a0:Form) (a1:List UInt8):Option (Int):=
 (dN n a0 a1 0).bind fun k1=>some k1
theorem ql (n:Nat):∀(a0:Form) (a1:List UInt8) {r:Int},lQ n a0 a1=some r→aC X.E 17 [aE (ak a0),sE a1] [] (iE r) []:=by
 intro a0 a1 r h0;rw[lQ] at h0;refine .n Tryz.func17 (fun L ks low K hl hL hlen hK=>?_);refine .af [] T [(2,pw 2),(3,pw 3)] [.o 2 (.cells ((ak a0).map .d)),.o 3 (.cells [sE a1])] ?_;refine .af [] T [(5,pw 5)] [.o 5 (.cells [iE 0])] ?_;obtain⟨k1,hk1,h0⟩:=bnd h0;refine .af [.call [.own 3,.own 5] (.dU []) [.cells [sE a1],.cells [iE k1]]] (A (rX n _ _ _ hk1) T) [] [.c 5 0 (iE k1)] ?_;refine .a [] T [(4,iE k1)] ?_;cases h0;exact .rt hK
def slices_Equal_int (n:Nat) (a0:List Int) (a1:List Int):Option (Bool):=
 (if ¬(a0.length:Int)=(a1.length:Int) then some false else bn (bI (fun(s5:Unit) (i4:Nat) (x7:Int)=>((gW a1 (i4:Int)).bind fun e12=>(if ¬x7=e12 then some (Sum.inl false) else some (Sum.inr ())):Option (Bool⊕Unit))) 0 a0 ()) (fun(s5:Unit)=>some true))
theorem iT (n:Nat):∀(a0:List Int) (a1:List Int) {r:Bool},slices_Equal_int n a0 a1=some r→aC X.E 47 [lE 1 (aj a0),lE 1 (aj a1)] [] (bE r) []:=by
 intro a0 a1 r h0;rw[slices_Equal_int] at h0;refine .n Tryz.func47 (fun L ks low K hl hL hlen hK=>?_);refine .a [] T [] ?_;refine .a [.v (a0.length:Int),.v (a1.length:Int)] (A (aO.len' a0) (A (aO.len' a1) T)) [(10,dE (¬(a0.length:Int)=(a1.length:Int)))] ?_;refine .sn 0 aO a0 (by kernel_rfl) (fun hb1=>?_);refine .sn 1 aO a1 (by kernel_rfl) (fun hb2=>?_);refine .jP h0 (fun hc3 h0=>?_) (fun hc3 h0=>?_)
 ·refine .a [] T [(4,bE false)] ?_;cases h0;exact .rt hK
 ·refine .a [.v (a0.length:Int)] (A (aO.len' a0) T) [(12,iE (a0.length:Int)),(13,iE 0)] ?_;refine .lI h0 rfl [0,1,12] (fun i4 s5=>[(13,iE (i4:Int))]) n2 n2 [] (by kernel_rfl) (fun i4 s5 q6 hd8 TJ h0=>?_);refine .a [] T [(14,dE ((i4:Int)<(a0.length:Int)))] ?_;refine .lc hd8 rfl (by kernel_rfl) (fun x7 q62 bG hx7 hd9 DV=>?_) (fun bG=>?_)
  ·subst bG;obtain⟨y1,h1,hw1,hn1⟩:=aZ h0;refine .a [] T [(5,iE (i4:Int))] ?_;obtain⟨e12,Ap,h1⟩:=bnd h1;refine .ad mixed [(2,[.cs [.v (.int .i64 x7)]]),(6,[.cs [.v (.int .i64 e12)]])] [] (A (aO.iV hx7) (A (aO.idx Ap) T)) [(24,dE (¬x7=e12))] [] [] ?_;refine .jP h1 (fun hc13 h1=>?_) (fun hc13 h1=>?_)
   ·refine .a [] T [(4,bE false)] ?_;cases h1;cases hw1 _ rfl;exact .rt hK
   ·refine .a [.v ((i4+1:Nat):Int)] (A (wn (i:=i4) (by omega)) T) [(13,iE ((i4+1:Nat):Int))] ?_;cases h1;exact .nL rfl (i4+1) _ hd9 DV (hn1 _ rfl) [] (by kernel_rfl)
  ·subst bG;have h0:=bH h0;refine .a [] T [(4,bE true)] ?_;cases h0;exact .rt hK
mutual
def iF:Nat→Form→Form→Option (Bool)
 | 0,_,_=>none
 | n+1,a0,a1=>Option.bind ((if a0.kind=a1.kind then(if a0.name=a1.name then(if a0.n=a1.n then(slices_Equal_int n a0.scopes a1.scopes).bind fun k5=>(if k5=true then(bW n a0.kids a1.kids).bind fun k7=>some k7 else some false) else some false) else some false) else some false):Option (Bool)) (fun(o1:Bool)=>some o1)
def bW:Nat→(List Form)→(List Form)→Option (Bool)
 | 0,_,_=>none
 | n+1,a0,a1=>(if ¬(a0.length:Int)=(a1.length:Int) then some false else bn (bI (fun(s5:Unit) (i4:Nat) (x7:Form)=>((gW a1 (i4:Int)).bind fun e12=>(iF n x7 e12).bind fun k13=>(if(!k13)=true then some (Sum.inl false) else some (Sum.inr ())):Option (Bool⊕Unit))) 0 a0 ()) (fun(s5:Unit)=>some true))
end
theorem Lm (n:Nat):(∀(a0:Form) (a1:Form) {r:Bool},iF n a0 a1=some r→aC X.E 15 [aE (ak a0),aE (ak a1)] [] (bE r) [])∧(∀(a0:List Form) (a1:List Form) {r:Bool},bW n a0 a1=some r→aC X.E 48 [lE 5 (ah a0),lE 5 (ah a1),.clo 15 [] []] [] (bE r) []):=by
 induction n with
 | zero=>exact⟨(by intros; rename_i h; cases h),(by intros; rename_i h; cases h)⟩
 | succ n ih=>
  refine⟨?_,?_⟩
  ·intro a0 a1 r h0;rw[iF] at h0;refine .n Tryz.func15 (fun L ks low K hl hL hlen hK=>?_);refine .af [] T [(2,pw 2),(3,pw 3)] [.o 2 (.cells ((ak a0).map .d)),.o 3 (.cells ((ak a1).map .d))] ?_;refine .bP h0 rfl [] (fun o1=>[(4,bE o1)]) n1 n1 (fun o1 h0=>?_) (fun y1 h1 hj1=>?_)
   ·cases h0;exact .rt hK
   ·by_cases g2:a0.kind=a1.kind
    ·have h1:=aJ g2 h1;by_cases g3:a0.name=a1.name
     ·have h1:=aJ g3 h1;by_cases g4:a0.n=a1.n
      ·have h1:=aJ g4 h1;obtain⟨k5,hk5,h1⟩:=bnd h1;by_cases g6:k5=true
       ·have h1:=aJ g6 h1;obtain⟨k7,II,h1⟩:=bnd h1;refine .a (rb 17 true (.call [] (bE k5) []::(rb 6 true [.call [] (bE k7) [],.b true]))) (R 6 (dt g2) (R 6 (dt g3) (R 4 (dt g4) (A (A (dt g4) (iT n _ _ hk5)) (A (dt g4) (R 4 g6 (A (A g6 (ih.2 _ _ II)) (A g6 T)))))))) [(4,bE k7)] ?_;cases h1;exact .lg hj1 []
       ·have h1:=aK g6 h1;refine .a (rb 17 true (.call [] (bE k5) []::(.b true::(rb 6 false [])))) (R 6 (dt g2) (R 6 (dt g3) (R 4 (dt g4) (A (A (dt g4) (iT n _ _ hk5)) (A (dt g4) (R 6 (Bool.eq_false_iff.2 g6) T)))))) [(4,bE false)] ?_;cases h1;exact .lg hj1 []
      ·have h1:=aK g4 h1;refine .a (rb 12 true (rb 12 false [])) (R 6 (dt g2) (R 6 (dt g3) (R 6 (df g4) (R 6 B0 T)))) [(4,bE false)] ?_;cases h1;exact .lg hj1 []
     ·have h1:=aK g3 h1;refine .a (rb 6 true (rb 18 false [])) (R 6 (dt g2) (R 6 (df g3) (R 12 B0 T))) [(4,bE false)] ?_;cases h1;exact .lg hj1 []
    ·have h1:=aK g2 h1;refine .a (rb 24 false []) (R 6 (df g2) (R 18 B0 T)) [(4,bE false)] ?_;cases h1;exact .lg hj1 []
  ·intro a0 a1 r h0;rw[bW] at h0;refine .n Tryz.func48 (fun L ks low K hl hL hlen hK=>?_);refine .a [] T [] ?_;refine .a [.v (a0.length:Int),.v (a1.length:Int)] (A (ay.len' a0) (A (ay.len' a1) T)) [(14,dE (¬(a0.length:Int)=(a1.length:Int)))] ?_;refine .sn 0 ay a0 (by kernel_rfl) (fun hb1=>?_);refine .sn 1 ay a1 (by kernel_rfl) (fun hb2=>?_);refine .jP h0 (fun hc3 h0=>?_) (fun hc3 h0=>?_)
   ·refine .a [] T [(6,bE false)] ?_;cases h0;exact .rt hK
   ·refine .a [.v (a0.length:Int)] (A (ay.len' a0) T) [(15,lE 5 (ah a0)),(16,iE (a0.length:Int)),(17,iE 0)] ?_;refine .lI h0 rfl [1,2,15,16] (fun i4 s5=>[(17,iE (i4:Int))]) n2 n2 [] (by kernel_rfl) (fun i4 s5 q6 hd8 TJ h0=>?_);refine .a [] T [(18,dE ((i4:Int)<(a0.length:Int)))] ?_;refine .lc hd8 rfl (by kernel_rfl) (fun x7 q62 bG hx7 hd9 DV=>?_) (fun bG=>?_)
    ·subst bG;obtain⟨y1,h1,hw1,hn1⟩:=aZ h0;refine .af [.cs (ak x7)] (A (ay.iV hx7) T) [(7,iE (i4:Int)),(8,pw 8)] [.o 8 (.cells ((ak x7).map .d))] ?_;obtain⟨e12,Ap,h1⟩:=bnd h1;refine .af [.cs (ak e12)] (A (ay.idx Ap) T) [(9,pw 9)] [.o 9 (.cells ((ak e12).map .d))] ?_;obtain⟨k13,mF,h1⟩:=bnd h1;refine .a [.call [] (bE k13) []] (A (ih.1 _ _ mF) T) [(30,bE (!k13))] ?_;refine .jT h1 (fun mG h1=>?_) (fun mG h1=>?_)
     ·refine .a [] T [(6,bE false)] ?_;cases h1;cases hw1 _ rfl;exact .rt hK
     ·refine .a [.v ((i4+1:Nat):Int)] (A (wn (i:=i4) (by omega)) T) [(17,iE ((i4+1:Nat):Int))] ?_;cases h1;refine .kp [1,2,15,16,17] [] ?_;refine .dr 8 (by kernel_rfl) ?_;refine .dr 9 (by kernel_rfl) ?_;exact .nL rfl (i4+1) _ hd9 DV (hn1 _ rfl) [] (by kernel_rfl)
    ·subst bG;have h0:=bH h0;refine .a [] T [(6,bE true)] ?_;cases h0;exact .rt hK
theorem jq (n:Nat):∀(a0:Form) (a1:Form) {r:Bool},iF n a0 a1=some r→aC X.E 15 [aE (ak a0),aE (ak a1)] [] (bE r) []:=(Lm n).1
def slices_Index_string (n:Nat) (a0:List (List UInt8)) (a1:List UInt8):Option (Int):=
 bn (bI (fun(s3:Unit) (i2:Nat) (x5:List UInt8)=>((if a1=x5 then some (Sum.inl (i2:Int)) else some (Sum.inr ())):Option (Int⊕Unit))) 0 a0 ()) (fun(s3:Unit)=>some (-1))
theorem zJ (n:Nat):∀(a0:List (List UInt8)) (a1:List UInt8) {r:Int},slices_Index_string n a0 a1=some r→aC X.E 70 [lE 1 (aH a0),sE a1] [] (iE r) []:=by
 intro a0 a1 r h0;rw[slices_Index_string] at h0;refine .n Tryz.func70 (fun L ks low K hl hL hlen hK=>?_);refine .a [] T [] ?_;refine .a [.v (a0.length:Int)] (A (dZ.len' a0) T) [(7,iE (a0.length:Int)),(8,iE 0)] ?_;refine .sn 0 dZ a0 (by kernel_rfl) (fun hb1=>?_);refine .lI h0 rfl [0,1,7] (fun i2 s3=>[(8,iE (i2:Int))]) n2 n2 [] (by kernel_rfl) (fun i2 s3 q4 hd6 Xh h0=>?_);refine .a [] T [(9,dE ((i2:Int)<(a0.length:Int)))] ?_;refine .lc hd6 rfl (by kernel_rfl) (fun x5 WL fQ hx5 hd7 sW=>?_) (fun fQ=>?_)
 ·subst fQ;obtain⟨y1,h1,hw1,hn1⟩:=aZ h0;refine .a [] T [(5,iE (i2:Int))] ?_;refine .a [.cs [.s x5]] (A (dZ.iV hx5) T) [(16,dE (a1=x5))] ?_;refine .jP h1 (fun iR h1=>?_) (fun iR h1=>?_)
  ·refine .a [] T [(4,iE (i2:Int))] ?_;cases h1;cases hw1 _ rfl;exact .rt hK
  ·refine .a [.v ((i2+1:Nat):Int)] (A (wn (i:=i2) (by omega)) T) [(8,iE ((i2+1:Nat):Int))] ?_;cases h1;exact .nL rfl (i2+1) _ hd7 sW (hn1 _ rfl) [] (by kernel_rfl)
 ·subst fQ;have h0:=bH h0;refine .a [] T [(4,iE (-1))] ?_;cases h0;exact .rt hK
def slices_Contains_string (n:Nat) (a0:List (List UInt8)) (a1:List UInt8):Option (Bool):=
 (slices_Index_string n a0 a1).bind fun k1=>some (decide (k1≥0))
theorem nY (n:Nat):∀(a0:List (List UInt8)) (a1:List UInt8) {r:Bool},slices_Contains_string n a0 a1=some r→aC X.E 33 [lE 1 (aH a0),sE a1] [] (bE r) []:=by
 intro a0 a1 r h0;rw[slices_Contains_string] at h0;refine .n Tryz.func33 (fun L ks low K hl hL hlen hK=>?_);refine .a [] T [] ?_;obtain⟨k1,hk1,h0⟩:=bnd h0;refine .a [.call [] (iE k1) []] (A (zJ n _ _ hk1) T) [(4,dE (k1≥0))] ?_;cases h0;exact .rt hK
def kJ (n:Nat) (a0:List (List UInt8)) (a1:List UInt8):Option (Int):=
 bn (bI (fun(s3:Unit) (i2:Nat) (x5:List UInt8)=>((if a1=x5 then some (Sum.inl (i2:Int)) else some (Sum.inr ())):Option (Int⊕Unit))) 0 a0 ()) (fun(s3:Unit)=>some (-1))
theorem xH (n:Nat):∀(a0:List (List UInt8)) (a1:List UInt8) {r:Int},kJ n a0 a1=some r→aC X.E 70 [.vs (.low 0) 1 ((aH a0).length),sE a1] [some (.vec 9 1 (aH a0))] (iE r) [.vec 9 1 (aH a0)]:=by
 intro a0 a1 r h0;rw[kJ] at h0;refine .n Tryz.func70 (fun L ks low K hl hL hlen hK=>?_);refine .a [] T [] ?_;refine .a [.v (a0.length:Int)] (A (dZ.len' a0) T) [(7,iE (a0.length:Int)),(8,iE 0)] ?_;refine .snV 0 dZ a0 (by kernel_rfl) (fun hb1=>?_);refine .lI h0 rfl [0,1,7] (fun i2 s3=>[(8,iE (i2:Int))]) n2 n2 [] (by kernel_rfl) (fun i2 s3 q4 hd6 Xh h0=>?_);refine .a [] T [(9,dE ((i2:Int)<(a0.length:Int)))] ?_;refine .lc hd6 rfl (by kernel_rfl) (fun x5 WL fQ hx5 hd7 sW=>?_) (fun fQ=>?_)
 ·subst fQ;obtain⟨y1,h1,hw1,hn1⟩:=aZ h0;refine .a [] T [(5,iE (i2:Int))] ?_;refine .a [.cs [.s x5]] (A (A (dZ.inv (DU hx5) (rfl:(aH a0).length=(aH a0).length)) (rfl:(aH a0).length=(aH a0).length)) (A (A (A (dZ.rows a0) (dZ.FX hx5)) (rfl:(aH a0).length=(aH a0).length)) T)) [(16,dE (a1=x5))] ?_;refine .jP h1 (fun iR h1=>?_) (fun iR h1=>?_)
  ·refine .a [] T [(4,iE (i2:Int))] ?_;cases h1;cases hw1 _ rfl;exact .rt hK
  ·refine .a [.v ((i2+1:Nat):Int)] (A (wn (i:=i2) (by omega)) T) [(8,iE ((i2+1:Nat):Int))] ?_;cases h1;exact .nL rfl (i2+1) _ hd7 sW (hn1 _ rfl) [] (by kernel_rfl)
 ·subst fQ;have h0:=bH h0;refine .a [] T [(4,iE (-1))] ?_;cases h0;exact .rt hK
def ig (n:Nat) (a0:List (List UInt8)) (a1:List UInt8):Option (Bool):=
 (kJ n a0 a1).bind fun k1=>some (decide (k1≥0))
theorem uX (n:Nat):∀(a0:List (List UInt8)) (a1:List UInt8) {r:Bool},ig n a0 a1=some r→aC X.E 33 [.vs (.low 0) 1 ((aH a0).length),sE a1] [some (.vec 9 1 (aH a0))] (bE r) [.vec 9 1 (aH a0)]:=by
 intro a0 a1 r h0;rw[ig] at h0;refine .n Tryz.func33 (fun L ks low K hl hL hlen hK=>?_);refine .a [] T [] ?_;obtain⟨k1,hk1,h0⟩:=bnd h0;refine .a [.call [.low 0] (iE k1) [.vec 9 1 (aH a0)]] (A (xH n _ _ hk1) T) [(4,dE (k1≥0))] ?_;cases h0;exact .rt hK
def pO:Nat→Core→(List (List UInt8))→Option (List (List UInt8))
 | 0,_,_=>none
 | n+1,a0,a1=>Option.bind ((if a0.kind=2 then(ig n a1 a0.name).bind fun k16=>some (!k16) else some false):Option (Bool)) (fun(o1:Bool)=>Option.bind ((if o1=true then(jm 16 a1 [a0.name]).bind fun BR=>some BR else some a1):Option (List (List UInt8))) (fun(o2:List (List UInt8))=>Option.bind (dV (fun(s5:List (List UInt8)) (i4:Nat) (x7:Core)=>(pO n x7 s5).bind fun k12=>some k12) 0 a0.kids o2) (fun(s5:List (List UInt8))=>some s5)))
theorem Qj (n:Nat):∀(a0:Core) (a1:List (List UInt8)) {r:List (List UInt8)},pO n a0 a1=some r→aC X.E 49 [aE (aI a0),.vs (.low 0) 1 ((aH a1).length)] [some (.vec 9 1 (aH a1))] (.vs (.low 0) 1 ((aH r).length)) [.vec 9 1 (aH r)]:=by
 induction n with
 | zero=>intro a0 a1 r h; cases h
 | succ n ih=>
  intro a0 a1 r h0;rw[pO] at h0;refine .n Tryz.func49 (fun L ks low K hl hL hlen hK=>?_);refine .af [] T [(2,pw 2)] [.o 2 (.cells ((aI a0).map .d))] ?_;refine .bP h0 rfl [1,2] (fun o1=>[(16,bE o1)]) n1 n1 (fun o1 h0=>?_) (fun y1 h1 hj1=>?_)
  ·refine .bP h0 rfl [2] (fun o2=>[(1,.vs (.low 0) 1 ((aH o2).length))]) n1 (fun o2=>[.o 0 (.vec 9 1 (aH o2))]) (fun o2 h0=>?_) (fun y1 h1 hj1=>?_)
   ·refine .a [.v (a0.kids.length:Int)] (A (bM.len' a0.kids) T) [(23,lE 11 (aG a0.kids)),(24,iE (a0.kids.length:Int)),(25,iE 0)] ?_;refine .sn 23 bM a0.kids (by kernel_rfl) (fun hb3=>?_);refine .lL h0 rfl [23,24] (fun i4 s5=>[(1,.vs (.low 0) 1 ((aH s5).length)),(25,iE (i4:Int))]) n2 (fun i4 s5=>[.o 0 (.vec 9 1 (aH s5))]) [] (by kernel_rfl) (fun i4 s5 q6 hd8 TJ h0=>?_);refine .a [] T [(26,dE ((i4:Int)<(a0.kids.length:Int)))] ?_;refine .lc hd8 rfl (by kernel_rfl) (fun x7 q62 bG hx7 hd9 DV=>?_) (fun bG=>?_)
    ·subst bG;obtain⟨y1,h1,hn1⟩:=bU h0;refine .af [.cs (aI x7)] (A (bM.iV hx7) T) [(6,pw 6)] [.o 6 (.cells ((aI x7).map .d))] ?_;obtain⟨k12,hk12,h1⟩:=bnd h1;refine .ao [.call [.low 0] (.vs (.low 0) 1 ((aH k12).length)) [.vec 9 1 (aH k12)]] (A (ih _ _ hk12) T) [(1,.vs (.low 0) 1 ((aH k12).length))] [.o 0 (.vec 9 1 (aH k12))] ?_;refine .a [.v ((i4+1:Nat):Int)] (A (wn (i:=i4) (by omega)) T) [(25,iE ((i4+1:Nat):Int))] ?_;cases h1;refine .kp [1,23,24,25] [] ?_;refine .dr 6 (by kernel_rfl) ?_;exact .nL rfl (i4+1) _ hd9 DV hn1 [] (by kernel_rfl)
    ·subst bG;have h0:=dF h0;refine .a [] T [(4,.vs (.low 0) 1 ((aH s5).length))] ?_;refine .kp [4] [] ?_;refine .dr 2 (by kernel_rfl) ?_;cases h0;exact .rt hK
   ·refine .jT h1 (fun hc13 h1=>?_) (fun hc13 h1=>?_)
    ·obtain⟨BR,JR,h1⟩:=bnd h1;refine .ao [.sv (aH [a0.name]),.sv (aH BR)] (A (dZ.lit [a0.name]) (A (A (dZ.ap JR) (rfl:(aH a1).length=(aH a1).length)) T)) [(1,.vs (.low 0) 1 ((aH BR).length))] [.o 0 (.vec 9 1 (aH BR))] ?_;cases h1;exact .lg hj1 []
    ·cases h1;exact .lg hj1 []
  ·by_cases g15:a0.kind=2
   ·have h1:=aJ g15 h1;obtain⟨k16,uf,h1⟩:=bnd h1;refine .a (rb 4 true [.call [.low 0] (bE k16) [.vec 9 1 (aH a1)],.b true,.b true]) (R 3 (dt g15) (A (A (dt g15) (uX n _ _ uf)) (R 2 (dt g15) T))) [(16,bE (!k16))] ?_;cases h1;exact .lg hj1 []
   ·have h1:=aK g15 h1;refine .a (rb 6 false []) (R 6 (df g15) T) [(16,bE false)] ?_;cases h1;exact .lg hj1 []
def rG (n:Nat) (a0:Core):Option (List (List UInt8)):=
 Option.bind ((if a0.kind=2 then(slices_Contains_string n [] a0.name).bind fun k16=>some (!k16) else some false):Option (Bool)) (fun(o1:Bool)=>Option.bind ((if o1=true then(jm 16 [] [a0.name]).bind fun BR=>some BR else some []):Option (List (List UInt8))) (fun(o2:List (List UInt8))=>Option.bind (dV (fun(s5:List (List UInt8)) (i4:Nat) (x7:Core)=>(pO n x7 s5).bind fun k12=>some k12) 0 a0.kids o2) (fun(s5:List (List UInt8))=>some s5)))
theorem Hw (n:Nat):∀(a0:Core) {r:List (List UInt8)},rG n a0=some r→aC X.E 49 [aE (aI a0),nE] [] (lE 1 (aH r)) []:=by
 intro a0 r h0;rw[rG] at h0;refine .n Tryz.func49 (fun L ks low K hl hL hlen hK=>?_);refine .nl 1 1 rfl ?_;refine .af [] T [(2,pw 2)] [.o 2 (.cells ((aI a0).map .d))] ?_;refine .bP h0 rfl [1,2] (fun o1=>[(16,bE o1)]) n1 n1 (fun o1 h0=>?_) (fun y1 h1 hj1=>?_)
 ·refine .owV 1 100021 9 [2,16] rfl rfl (by kernel_rfl) ?_;refine .bP h0 rfl [2] (fun o2=>[(1,.vs (.own 100021) 1 ((aH o2).length))]) (fun o2=>[.o 100021 (.vec 9 1 (aH o2))]) n1 (fun o2 h0=>?_) (fun y1 h1 hj1=>?_)
  ·refine .a [.v (a0.kids.length:Int)] (A (bM.len' a0.kids) T) [(23,lE 11 (aG a0.kids)),(24,iE (a0.kids.length:Int)),(25,iE 0)] ?_;refine .sn 23 bM a0.kids (by kernel_rfl) (fun hb3=>?_);refine .lL h0 rfl [23,24] (fun i4 s5=>[(1,.vs (.own 100021) 1 ((aH s5).length)),(25,iE (i4:Int))]) (fun i4 s5=>[.o 100021 (.vec 9 1 (aH s5))]) n2 [] (by kernel_rfl) (fun i4 s5 q6 hd8 TJ h0=>?_);refine .a [] T [(26,dE ((i4:Int)<(a0.kids.length:Int)))] ?_;refine .lc hd8 rfl (by kernel_rfl) (fun x7 q62 bG hx7 hd9 DV=>?_) (fun bG=>?_)
   ·subst bG;obtain⟨y1,h1,hn1⟩:=bU h0;refine .af [.cs (aI x7)] (A (bM.iV hx7) T) [(6,pw 6)] [.o 6 (.cells ((aI x7).map .d))] ?_;obtain⟨k12,hk12,h1⟩:=bnd h1;refine .af [.call [.own 100021] (.vs (.low 0) 1 ((aH k12).length)) [.vec 9 1 (aH k12)]] (A (Qj n _ _ hk12) T) [(1,.vs (.own 100021) 1 ((aH k12).length))] [.o 100021 (.vec 9 1 (aH k12))] ?_;refine .a [.v ((i4+1:Nat):Int)] (A (wn (i:=i4) (by omega)) T) [(25,iE ((i4+1:Nat):Int))] ?_;cases h1;refine .kp [1,23,24,25] [] ?_;refine .dr 6 (by kernel_rfl) ?_;exact .nL rfl (i4+1) _ hd9 DV hn1 [] (by kernel_rfl)
   ·subst bG;have h0:=dF h0;refine .a [] T [(4,.vs (.own 100021) 1 ((aH s5).length))] ?_;refine .kp [4] [] ?_;refine .dr 2 (by kernel_rfl) ?_;refine .ft 4 100021 [] dZ s5 (rfl:(aH s5).length=(aH s5).length) (by kernel_rfl) ?_;cases h0;exact .rt hK
  ·refine .jT h1 (fun hc13 h1=>?_) (fun hc13 h1=>?_)
   ·obtain⟨BR,JR,h1⟩:=bnd h1;refine .af [.sv (aH [a0.name]),.sv (aH BR)] (A (dZ.lit [a0.name]) (A (A (dZ.ap JR) (rfl:(aH []).length=0)) T)) [(1,.vs (.own 100021) 1 ((aH BR).length))] [.o 100021 (.vec 9 1 (aH BR))] ?_;cases h1;exact .lg hj1 []
   ·cases h1;exact .lg hj1 []
 ·by_cases g15:a0.kind=2
  ·have h1:=aJ g15 h1;obtain⟨k16,uf,h1⟩:=bnd h1;refine .a (rb 4 true [.call [] (bE k16) [],.b true,.b true]) (R 3 (dt g15) (A (A (dt g15) (nY n _ _ uf)) (R 2 (dt g15) T))) [(16,bE (!k16))] ?_;cases h1;exact .lg hj1 []
  ·have h1:=aK g15 h1;refine .a (rb 6 false []) (R 6 (df g15) T) [(16,bE false)] ?_;cases h1;exact .lg hj1 []
def lS (n:Nat) (a0:Core):Option (List (List UInt8)):=
 (rG n a0).bind fun k1=>some k1
theorem Aq (n:Nat):∀(a0:Core) {r:List (List UInt8)},lS n a0=some r→aC X.E 16 [aE (aI a0)] [] (lE 1 (aH r)) []:=by
 intro a0 r h0;rw[lS] at h0;refine .n Tryz.func16 (fun L ks low K hl hL hlen hK=>?_);refine .af [] T [(1,pw 1)] [.o 1 (.cells ((aI a0).map .d))] ?_;obtain⟨k1,hk1,h0⟩:=bnd h0;refine .a [.b true,.call [] (lE 1 (aH k1)) []] (A (Hw n _ hk1) T) [(2,lE 1 (aH k1))] ?_;cases h0;exact .rt hK
def iY (n:Nat) (a0:Int) (a1:Int) (a2:Int):Option (Bool):=
 Option.bind ((if a0≥a1 then some (decide (a0≤a2)) else some false):Option (Bool)) (fun(o1:Bool)=>some o1)
theorem gU (n:Nat):∀(a0:Int) (a1:Int) (a2:Int) {r:Bool},iY n a0 a1 a2=some r→aC X.E 95 [iE a0,iE a1,iE a2] [] (bE r) []:=by
 intro a0 a1 a2 r h0;rw[iY] at h0;refine .n Tryz.func95 (fun L ks low K hl hL hlen hK=>?_);refine .a [] T [] ?_;refine .bP h0 rfl [] (fun o1=>[(6,bE o1)]) n1 n1 (fun o1 h0=>?_) (fun y1 h1 hj1=>?_)
 ·cases h0;exact .rt hK
 ·by_cases g2:a0≥a1
  ·have h1:=aJ g2 h1;refine .a (rb 4 true []) (R 4 (dt g2) T) [(6,dE (a0≤a2))] ?_;cases h1;exact .lg hj1 []
  ·have h1:=aK g2 h1;refine .a (rb 4 false []) (R 4 (df g2) T) [(6,bE false)] ?_;cases h1;exact .lg hj1 []
def strings_IndexByte (n:Nat) (a0:List UInt8) (a1:Int):Option Int:=some (Lib.indexByte a0 a1.toNat.toUInt8)
theorem tJ (n:Nat):∀(a0:List UInt8) (a1:Int) {r:Int},strings_IndexByte n a0 a1=some r→aC X.E 111 [sE a0,.d (.v (.int .u8 a1))] [] (iE r) []:=by
 intro a0 a1 r h0;cases h0;exact aC.YI Tryz.func111 rfl rfl (fun _=>rfl) (fun _=>rfl) (fun w=>Tryz.strings_IndexByte (mkS a0) a1 w)
def lT (n:Nat) (a0:List UInt8):Option (Bool):=
 Option.bind ((if a0=[46,46,46] then some true else some (decide (a0=[95]))):Option (Bool)) (fun(o1:Bool)=>(if o1=true then some true else iterM n (fun(s3:Int)=>((if s3<(a0.length:Int) then bn ((gW a0 s3).bind fun y7=>Option.bind ((if(y7.toNat:Int)≥97 then(if(y7.toNat:Int)≤122 then some true else(strings_IndexByte n [42,63,61,43,60] (y7.toNat:Int)).bind fun k17=>some (decide (k17≥0))) else(strings_IndexByte n [42,63,61,43,60] (y7.toNat:Int)).bind fun k18=>some (decide (k18≥0))):Option (Bool)) (fun(o8:Bool)=>(if o8=true then some (Sum.inr ()) else Option.bind ((if s3>0 then(if(y7.toNat:Int)≥48 then(if(y7.toNat:Int)≤57 then some true else some (decide ((y7.toNat:Int)=45))) else some (decide ((y7.toNat:Int)=45))) else some false):Option (Bool)) (fun(nZ:Bool)=>(if nZ=true then some (Sum.inr ()) else some (Sum.inl (Sum.inl false)))))):Option ((Bool⊕Int)⊕Unit)) (fun(o6:Unit)=>some (Sum.inr (aX (s3+1)))) else(iY n (a0.length:Int) 1 12).bind fun k19=>some (Sum.inl k19)):Option (Bool⊕Int))) 0))
theorem kV (n:Nat):∀(a0:List UInt8) {r:Bool},lT n a0=some r→aC X.E 97 [sE a0] [] (bE r) []:=by
 intro a0 r h0;rw[lT] at h0;refine .n Tryz.func97 (fun L ks low K hl hL hlen hK=>?_);refine .a [] T [] ?_;refine .bP h0 rfl [0] (fun o1=>[(10,bE o1)]) n1 n1 (fun o1 h0=>?_) (fun y1 h1 hj1=>?_)
 ·refine .jT h0 (fun hc2 h0=>?_) (fun hc2 h0=>?_)
  ·refine .a [] T [(2,bE true)] ?_;cases h0;exact .rt hK
  ·refine .a [] T [(3,iE 0)] ?_;refine .it h0 rfl [0] (fun s3=>[(3,iE s3)]) n1 n1 [] (by kernel_rfl) (fun nk4 s3 h0=>?_);obtain⟨y1,h1,hw1,hn1⟩:=bV h0;refine .a [] T [(14,dE (s3<(a0.length:Int)))] ?_;refine .jP h1 (fun hc5 h1=>?_) (fun hc5 h1=>?_)
   ·refine .bSB h1 rfl [0,3] (fun o6=>[]) n1 n1 (fun o6 h1=>?_) (fun y2 h2 hj2 hw2=>?_)
    ·refine .a [.pl] T [(3,iE (aX (s3+1)))] ?_;cases h1;exact .nI rfl _ (hn1 _ rfl) [] (by kernel_rfl)
    ·obtain⟨y7,hy7,h2⟩:=bnd h2;refine .a [.Cm y7] (A (Df hy7) T) [(4,.d (.v (.int .u8 (y7.toNat:Int))))] ?_;refine .bP h2 rfl [0,3,4] (fun o8=>[(20,bE o8)]) n1 n1 (fun o8 h2=>?_) (fun y3 h3 hj3=>?_)
     ·refine .jT h2 (fun fQ h2=>?_) (fun fQ h2=>?_)
      ·cases h2;exact .lg (hj2 _ rfl) []
      ·refine .bP h2 rfl [0,3] (fun nZ=>[(32,bE nZ)]) n1 n1 (fun nZ h2=>?_) (fun y3 h3 hj3=>?_)
       ·refine .jT h2 (fun bG h2=>?_) (fun bG h2=>?_)
        ·cases h2;exact .lg (hj2 _ rfl) []
        ·refine .a [] T [(2,bE false)] ?_;cases h2;cases hw2 _ rfl;cases hw1 _ rfl;exact .rt hK
       ·by_cases g12:s3>0
        ·have h3:=aJ g12 h3;by_cases g13:(y7.toNat:Int)≥48
         ·have h3:=aJ g13 h3;by_cases g14:(y7.toNat:Int)≤57
          ·have h3:=aJ g14 h3;refine .a (rb 13 true []) (R 3 (dt g12) (R 2 (dt g13) (A (A (dt g12) (dt g13)) (A (dt g12) (R 2 (dt g14) (A (A (dt g12) (dt g14)) (A (dt g12) T))))))) [(32,bE true)] ?_;cases h3;exact .lg hj3 []
          ·have h3:=aK g14 h3;refine .a (rb 8 true [.b false,.b false,.b true,.b false,.b true]) (R 3 (dt g12) (R 2 (dt g13) (A (A (dt g12) (dt g13)) (A (dt g12) (R 2 (df g14) (A (A (dt g12) (df g14)) (A (dt g12) T))))))) [(32,dE ((y7.toNat:Int)=45))] ?_;cases h3;exact .lg hj3 []
         ·have h3:=aK g13 h3;refine .a (rb 3 true [.b false,.b false,.b true,.b false,.b true,.b false,.b false,.b true,.b false,.b true]) (R 3 (dt g12) (R 2 (df g13) (A (A (dt g12) (df g13)) (A (dt g12) (R 2 B0 (A (A (dt g12) B0) (A (dt g12) T))))))) [(32,dE ((y7.toNat:Int)=45))] ?_;cases h3;exact .lg hj3 []
        ·have h3:=aK g12 h3;refine .a (rb 7 false []) (R 7 (df g12) T) [(32,bE false)] ?_;cases h3;exact .lg hj3 []
     ·by_cases g15:(y7.toNat:Int)≥97
      ·have h3:=aJ g15 h3;by_cases g16:(y7.toNat:Int)≤122
       ·have h3:=aJ g16 h3;refine .a (rb 7 true []) (R 3 (dt g15) (R 4 (dt g16) T)) [(20,bE true)] ?_;cases h3;exact .lg hj3 []
       ·have h3:=aK g16 h3;obtain⟨k17,CJ,h3⟩:=bnd h3;refine .a (rb 3 true [.b false,.b false,.call [] (iE k17) [],.b false,.b false]) (R 3 (dt g15) (A (df g16) (A (A (df g16) (tJ n _ _ CJ)) (R 2 (df g16) T)))) [(20,dE (k17≥0))] ?_;cases h3;exact .lg hj3 []
      ·have h3:=aK g15 h3;obtain⟨k18,pY,h3⟩:=bnd h3;refine .a (rb 5 false [.call [] (iE k18) [],.b false,.b false]) (R 3 (df g15) (A B0 (A (A B0 (tJ n _ _ pY)) (R 2 B0 T)))) [(20,dE (k18≥0))] ?_;cases h3;exact .lg hj3 []
   ·obtain⟨k19,Ar,h1⟩:=bnd h1;refine .a [.call [] (bE k19) []] (A (gU n _ _ _ Ar) T) [(2,bE k19)] ?_;cases h1;cases hw1 _ rfl;exact .rt hK
 ·by_cases g20:a0=[46,46,46]
  ·have h1:=aJ g20 h1;refine .a (rb 3 true []) (R 3 (dt g20) T) [(10,bE true)] ?_;cases h1;exact .lg hj1 []
  ·have h1:=aK g20 h1;refine .a (rb 3 false []) (R 3 (df g20) T) [(10,dE (a0=[95]))] ?_;cases h1;exact .lg hj1 []
def rY (n:Nat) (a0:List Int):Option (Bool):=
 bn (bI (fun(s3:Unit) (i2:Nat) (x5:Int)=>(Option.bind ((iY n x5 1 99).bind fun k12=>(if(!k12)=true then some true else(if(i2:Int)>0 then(gW a0 (aX ((i2:Int)-1))).bind fun e15=>some (decide (e15≥x5)) else some false)):Option (Bool)) (fun(nZ:Bool)=>(if nZ=true then some (Sum.inl false) else some (Sum.inr ()))):Option (Bool⊕Unit))) 0 a0 ()) (fun(s3:Unit)=>some (decide ((a0.length:Int)≤24)))
theorem Dp (n:Nat):∀(a0:List Int) {r:Bool},rY n a0=some r→aC X.E 102 [lE 1 (aj a0)] [] (bE r) []:=by
 intro a0 r h0;rw[rY] at h0;refine .n Tryz.func102 (fun L ks low K hl hL hlen hK=>?_);refine .a [] T [] ?_;refine .a [.v (a0.length:Int)] (A (aO.len' a0) T) [(5,lE 1 (aj a0)),(6,iE (a0.length:Int)),(7,iE 0)] ?_;refine .sn 0 aO a0 (by kernel_rfl) (fun hb1=>?_);refine .lI h0 rfl [0,5,6] (fun i2 s3=>[(7,iE (i2:Int))]) n2 n2 [] (by kernel_rfl) (fun i2 s3 q4 hd6 Xh h0=>?_);refine .a [] T [(8,dE ((i2:Int)<(a0.length:Int)))] ?_;refine .lc hd6 rfl (by kernel_rfl) (fun x5 WL fQ hx5 hd7 sW=>?_) (fun fQ=>?_)
 ·subst fQ;obtain⟨y1,h1,hw1,hn1⟩:=aZ h0;refine .a [.cs [.v (.int .i64 x5)]] (A (aO.iV hx5) T) [(3,iE (i2:Int)),(4,iE x5)] ?_;refine .bP h1 rfl [0,5,6,7] (fun nZ=>[(27,bE nZ)]) n1 n1 (fun nZ h1=>?_) (fun y2 h2 hj2=>?_)
  ·refine .jT h1 (fun bG h1=>?_) (fun bG h1=>?_)
   ·refine .a [] T [(2,bE false)] ?_;cases h1;cases hw1 _ rfl;exact .rt hK
   ·refine .a [.v ((i2+1:Nat):Int)] (A (wn (i:=i2) (by omega)) T) [(7,iE ((i2+1:Nat):Int))] ?_;cases h1;exact .nL rfl (i2+1) _ hd7 sW (hn1 _ rfl) [] (by kernel_rfl)
  ·obtain⟨k12,hk12,h2⟩:=bnd h2;by_cases g13:(!k12)=true
   ·have h2:=aJ g13 h2;refine .a (.call [] (bE k12) []::(rb 5 true [])) (A (gU n _ _ _ hk12) (R 5 g13 T)) [(27,bE true)] ?_;cases h2;exact .lg hj2 []
   ·have h2:=aK g13 h2;by_cases g14:(i2:Int)>0
    ·have h2:=aJ g14 h2;obtain⟨e15,YP,h2⟩:=bnd h2;refine .a (.call [] (bE k12) []::(rb 3 false (rb 3 true (.pl::(.b true::(.cs [.v (.int .i64 e15)]::(rb 3 true [.b false,.b true,.b false]))))))) (A (gU n _ _ _ hk12) (R 3 (Bool.eq_false_iff.2 g13) (R 3 (dt g14) (A (A (dt g14) (aO.idx YP)) (R 3 (dt g14) (A (A (Bool.eq_false_iff.2 g13) (dt g14)) (A (Bool.eq_false_iff.2 g13) T))))))) [(27,dE (e15≥x5))] ?_;cases h2;exact .lg hj2 []
    ·have h2:=aK g14 h2;refine .a (.call [] (bE k12) []::(rb 13 false [])) (A (gU n _ _ _ hk12) (R 3 (Bool.eq_false_iff.2 g13) (R 7 (df g14) (A (A (Bool.eq_false_iff.2 g13) (df g14)) (A (Bool.eq_false_iff.2 g13) T))))) [(27,bE false)] ?_;cases h2;exact .lg hj2 []
 ·subst fQ;have h0:=bH h0;refine .a [.v (a0.length:Int)] (A (aO.len' a0) T) [(2,dE ((a0.length:Int)≤24))] ?_;cases h0;exact .rt hK
def uq:Nat→Form→Int→Int→Option (Bool×Int)
 | 0,_,_,_=>none
 | n+1,a0,a1,w0=>Option.bind ((if(aX (w0-1))<0 then some true else some (decide (a1>40))):Option (Bool)) (fun(o1:Bool)=>(if o1=true then some (false,(aX (w0-1))) else(if a0.kind=1 then Option.bind ((lT n a0.name).bind fun k5=>(if k5=true then(if a0.n=0 then(rY n a0.scopes).bind fun k8=>(if k8=true then some (decide ((a0.kids.length:Int)=0)) else some false) else some false) else some false):Option (Bool)) (fun(o4:Bool)=>some (o4,(aX (w0-1)))) else(if a0.kind=2 then Option.bind ((if a0.name=[] then(iY n a0.n 0 999).bind fun k13=>(if k13=true then(if(a0.scopes.length:Int)=0 then some (decide ((a0.kids.length:Int)=0)) else some false) else some false) else some false):Option (Bool)) (fun(Lp:Bool)=>some (Lp,(aX (w0-1)))) else(if a0.kind=3 then Option.bind ((if ¬a0.name=[] then some true else(if ¬a0.n=0 then some true else some (decide ((a0.scopes.length:Int)>0)))):Option (Bool)) (fun(Xi:Bool)=>(if Xi=true then some (false,(aX (w0-1))) else bn (bI (fun(Fq:Int) (i20:Nat) (x23:Form)=>((uq n x23 (aX (a1+1)) Fq).bind fun k28=>(if(!k28.1)=true then some (Sum.inl (false,k28.2)) else some (Sum.inr k28.2)):Option ((Bool×Int)⊕Int))) 0 a0.kids (aX (w0-1))) (fun(Fq:Int)=>some (true,Fq)))) else some (false,(aX (w0-1))))))))
theorem Qk (n:Nat):∀(a0:Form) (a1:Int) (w0:Int) {r:Bool×Int},uq n a0 a1 w0=some r→aC X.E 87 [aE (ak a0),iE a1,pl 0] [some (.cells [iE w0])] (bE r.1) [.cells [iE r.2]]:=by
 induction n with
 | zero=>intro a0 a1 w0 r h; cases h
 | succ n ih=>
  intro a0 a1 w0 r h0;rw[uq] at h0;refine .n Tryz.func87 (fun L ks low K hl hL hlen hK=>?_);refine .af [] T [(3,pw 3)] [.o 3 (.cells ((ak a0).map .d))] ?_;refine .ao [.pl] T [] [.c 0 0 (iE (aX (w0-1)))] ?_;refine .bP h0 rfl [1,2,3] (fun o1=>[(21,bE o1)]) n1 n1 (fun o1 h0=>?_) (fun y1 h1 hj1=>?_)
  ·refine .jT h0 (fun hc2 h0=>?_) (fun hc2 h0=>?_)
   ·refine .a [] T [(6,bE false)] ?_;cases h0;exact .rt hK
   ·refine .a [] T [(23,iE a0.kind)] ?_;refine .a [] T [(24,dE (a0.kind=1))] ?_;refine .jP h0 (fun hc3 h0=>?_) (fun hc3 h0=>?_)
    ·refine .bP h0 rfl [] (fun o4=>[(6,bE o4)]) n1 n1 (fun o4 h0=>?_) (fun y1 h1 hj1=>?_)
     ·cases h0;exact .rt hK
     ·obtain⟨k5,hk5,h1⟩:=bnd h1;by_cases g6:k5=true
      ·have h1:=aJ g6 h1;by_cases g7:a0.n=0
       ·have h1:=aJ g7 h1;obtain⟨k8,hk8,h1⟩:=bnd h1;by_cases g9:k8=true
        ·have h1:=aJ g9 h1;refine .a (.call [] (bE k5) []::(rb 7 true (.call [] (bE k8) []::(rb 4 true [.v (a0.kids.length:Int),.b true,.b true])))) (A (kV n _ hk5) (R 4 g6 (R 2 (dt g7) (A (A (dt g7) (Dp n _ hk8)) (A (dt g7) (R 2 g9 (A (A g9 (ay.len' a0.kids)) (R 2 g9 T)))))))) [(6,dE ((a0.kids.length:Int)=0))] ?_;cases h1;exact .lg hj1 []
        ·have h1:=aK g9 h1;refine .a (.call [] (bE k5) []::(rb 7 true (.call [] (bE k8) []::(.b true::(rb 5 false []))))) (A (kV n _ hk5) (R 4 g6 (R 2 (dt g7) (A (A (dt g7) (Dp n _ hk8)) (A (dt g7) (R 5 (Bool.eq_false_iff.2 g9) T)))))) [(6,bE false)] ?_;cases h1;exact .lg hj1 []
       ·have h1:=aK g7 h1;refine .a (.call [] (bE k5) []::(rb 4 true (rb 9 false []))) (A (kV n _ hk5) (R 4 g6 (R 4 (df g7) (R 5 B0 T)))) [(6,bE false)] ?_;cases h1;exact .lg hj1 []
      ·have h1:=aK g6 h1;refine .a (.call [] (bE k5) []::(rb 13 false [])) (A (kV n _ hk5) (R 4 (Bool.eq_false_iff.2 g6) (R 9 B0 T))) [(6,bE false)] ?_;cases h1;exact .lg hj1 []
    ·refine .a [] T [(45,dE (a0.kind=2))] ?_;refine .jP h0 (fun iR h0=>?_) (fun iR h0=>?_)
     ·refine .bP h0 rfl [] (fun Lp=>[(6,bE Lp)]) n1 n1 (fun Lp h0=>?_) (fun y1 h1 hj1=>?_)
      ·cases h0;exact .rt hK
      ·by_cases g12:a0.name=[]
       ·have h1:=aJ g12 h1;obtain⟨k13,mF,h1⟩:=bnd h1;by_cases g14:k13=true
        ·have h1:=aJ g14 h1;by_cases g15:(a0.scopes.length:Int)=0
         ·have h1:=aJ g15 h1;refine .a (rb 3 true (.call [] (bE k13) []::(rb 4 true (.v (a0.scopes.length:Int)::(rb 5 true [.v (a0.kids.length:Int),.b true,.b true]))))) (R 2 (dt g12) (A (A (dt g12) (gU n _ _ _ mF)) (A (dt g12) (R 2 g14 (A (A g14 (aO.len' a0.scopes)) (R 2 g14 (R 2 (dt g15) (A (A (dt g15) (ay.len' a0.kids)) (R 2 (dt g15) T))))))))) [(6,dE ((a0.kids.length:Int)=0))] ?_;cases h1;exact .lg hj1 []
         ·have h1:=aK g15 h1;refine .a (rb 3 true (.call [] (bE k13) []::(rb 4 true (.v (a0.scopes.length:Int)::(.b true::(.b true::(rb 5 false []))))))) (R 2 (dt g12) (A (A (dt g12) (gU n _ _ _ mF)) (A (dt g12) (R 2 g14 (A (A g14 (aO.len' a0.scopes)) (R 2 g14 (R 5 (df g15) T))))))) [(6,bE false)] ?_;cases h1;exact .lg hj1 []
        ·have h1:=aK g14 h1;refine .a (rb 3 true (.call [] (bE k13) []::(.b true::(rb 10 false [])))) (R 2 (dt g12) (A (A (dt g12) (gU n _ _ _ mF)) (A (dt g12) (R 5 (Bool.eq_false_iff.2 g14) (R 5 B0 T))))) [(6,bE false)] ?_;cases h1;exact .lg hj1 []
       ·have h1:=aK g12 h1;refine .a (rb 14 false []) (R 4 (df g12) (R 10 B0 T)) [(6,bE false)] ?_;cases h1;exact .lg hj1 []
     ·refine .a [] T [(67,dE (a0.kind=3))] ?_;refine .jP h0 (fun hc16 h0=>?_) (fun hc16 h0=>?_)
      ·refine .bP h0 rfl [1,2,3] (fun Xi=>[(82,bE Xi)]) n1 n1 (fun Xi h0=>?_) (fun y1 h1 hj1=>?_)
       ·refine .jT h0 (fun hc18 h0=>?_) (fun hc18 h0=>?_)
        ·refine .a [] T [(6,bE false)] ?_;cases h0;exact .rt hK
        ·refine .a [.v (a0.kids.length:Int)] (A (ay.len' a0.kids) T) [(84,lE 5 (ah a0.kids)),(85,iE (a0.kids.length:Int)),(86,iE 0)] ?_;refine .sn 84 ay a0.kids (by kernel_rfl) (fun afc=>?_);refine .lI h0 rfl [1,2,84,85] (fun i20 Fq=>[(86,iE (i20:Int))]) n2 (fun i20 Fq=>[.c 0 0 (iE Fq)]) [] (by kernel_rfl) (fun i20 Fq q22 hd24 aiG h0=>?_);refine .a [] T [(87,dE ((i20:Int)<(a0.kids.length:Int)))] ?_;refine .lc hd24 rfl (by kernel_rfl) (fun x23 aiH hc27 agK hd25 afd=>?_) (fun hc27=>?_)
         ·subst hc27;obtain⟨y1,h1,hw1,hn1⟩:=aZ h0;refine .af [.cs (ak x23)] (A (ay.iV agK) T) [(8,pw 8)] [.o 8 (.cells ((ak x23).map .d))] ?_;obtain⟨k28,Oa,h1⟩:=bnd h1;refine .ao [.pl,.call [.low 0] (bE k28.1) [.cells [iE k28.2]]] (A (ih _ _ _ Oa) T) [(95,bE (!k28.1))] [.c 0 0 (iE k28.2)] ?_;refine .jT h1 (fun hc29 h1=>?_) (fun hc29 h1=>?_)
          ·refine .a [] T [(6,bE false)] ?_;cases h1;cases hw1 _ rfl;exact .rt hK
          ·refine .a [.v ((i20+1:Nat):Int)] (A (wn (i:=i20) (by omega)) T) [(86,iE ((i20+1:Nat):Int))] ?_;cases h1;refine .kp [1,2,84,85,86] [] ?_;refine .dr 8 (by kernel_rfl) ?_;exact .nL rfl (i20+1) _ hd25 afd (hn1 _ rfl) [] (by kernel_rfl)
         ·subst hc27;have h0:=bH h0;refine .a [] T [(6,bE true)] ?_;cases h0;exact .rt hK
       ·by_cases jR:¬a0.name=[]
        ·have h1:=aJ jR h1;refine .a (rb 9 true []) (R 4 (dt jR) (R 5 B1 T)) [(82,bE true)] ?_;cases h1;exact .lg hj1 []
        ·have h1:=aK jR h1;by_cases Fv:¬a0.n=0
         ·have h1:=aJ Fv h1;refine .a (rb 4 false (rb 5 true [])) (R 4 (df jR) (R 5 (dt Fv) T)) [(82,bE true)] ?_;cases h1;exact .lg hj1 []
         ·have h1:=aK Fv h1;refine .a (rb 7 false [.v (a0.scopes.length:Int),.b false,.b false]) (R 4 (df jR) (R 2 (df Fv) (A (A (df Fv) (aO.len' a0.scopes)) (R 2 (df Fv) T)))) [(82,dE ((a0.scopes.length:Int)>0))] ?_;cases h1;exact .lg hj1 []
      ·refine .a [] T [(6,bE false)] ?_;cases h0;exact .rt hK
  ·by_cases wS:(aX (w0-1))<0
   ·have h1:=aJ wS h1;refine .a (rb 3 true []) (R 3 (dt wS) T) [(21,bE true)] ?_;cases h1;exact .lg hj1 []
   ·have h1:=aK wS h1;refine .a (rb 3 false []) (R 3 (df wS) T) [(21,dE (a1>40))] ?_;cases h1;exact .lg hj1 []
def jO (n:Nat) (a0:Form):Option (Bool):=
 (uq n a0 1 400).bind fun k1=>some k1.1
theorem qm (n:Nat):∀(a0:Form) {r:Bool},jO n a0=some r→aC X.E 71 [aE (ak a0)] [] (bE r) []:=by
 intro a0 r h0;rw[jO] at h0;refine .n Tryz.func71 (fun L ks low K hl hL hlen hK=>?_);refine .af [] T [(1,pw 1)] [.o 1 (.cells ((ak a0).map .d))] ?_;refine .af [] T [(3,pw 3)] [.o 3 (.cells [iE 400])] ?_;obtain⟨k1,hk1,h0⟩:=bnd h0;refine .af [.call [.own 3] (bE k1.1) [.cells [iE k1.2]]] (A (Qk n _ _ _ hk1) T) [(2,bE k1.1)] [.c 3 0 (iE k1.2)] ?_;cases h0;exact .rt hK
def rH (n:Nat) (a0:Form) (w0:List Int):Option (List Int):=
 (jm 8 w0 a0.scopes).bind fun z1=>some z1
theorem Hy (n:Nat):∀(a0:Form) (w0:List Int) {r:List Int},rH n a0 w0=some r→aC X.E 112 [aE (ak a0),pl 0] [some (.cells [.vs (.low 1) 1 ((aj w0).length)]),some (.vec 3 1 (aj w0))] (.dU []) [.cells [.vs (.low 1) 1 ((aj r).length)],.vec 3 1 (aj r)]:=by
 intro a0 w0 r h0;rw[rH] at h0;refine .n Tryz.func112 (fun L ks low K hl hL hlen hK=>?_);refine .af [] T [(2,pw 2)] [.o 2 (.cells ((ak a0).map .d))] ?_;obtain⟨z1,hz1,h0⟩:=bnd h0;refine .ao [.sv (aj z1)] (A (A (aO.ap hz1) (rfl:(aj w0).length=(aj w0).length)) T) [] [.c 0 0 (.vs (.low 1) 1 ((aj z1).length)),.o 1 (.vec 3 1 (aj z1))] ?_;cases h0;exact .fin rfl rfl rfl rfl hK
def dR:Nat→Form→(List Int)→Option (List Int)
 | 0,_,_=>none
 | n+1,a0,w0=>(rH n a0 w0).bind fun k1=>Option.bind (dV (fun(s4:List Int) (i3:Nat) (x6:Form)=>(dR n x6 s4).bind fun k11=>some k11) 0 a0.kids k1) (fun(s4:List Int)=>some s4)
theorem sZ (n:Nat):∀(a0:Form) (w0:List Int) {r:List Int},dR n a0 w0=some r→aC X.E 50 [aE (ak a0),.clo 112 [] [pl 0]] [some (.cells [.vs (.low 1) 1 ((aj w0).length)]),some (.vec 3 1 (aj w0))] (.dU []) [.cells [.vs (.low 1) 1 ((aj r).length)],.vec 3 1 (aj r)]:=by
 induction n with
 | zero=>intro a0 w0 r h; cases h
 | succ n ih=>
  intro a0 w0 r h0;rw[dR] at h0;refine .n Tryz.func50 (fun L ks low K hl hL hlen hK=>?_);refine .af [] T [(2,pw 2)] [.o 2 (.cells ((ak a0).map .d))] ?_;obtain⟨k1,hk1,h0⟩:=bnd h0;refine .ao [.call [.low 0,.low 1] (.dU []) [.cells [.vs (.low 1) 1 ((aj k1).length)],.vec 3 1 (aj k1)]] (A (Hy n _ _ hk1) T) [] [.c 0 0 (.vs (.low 1) 1 ((aj k1).length)),.o 1 (.vec 3 1 (aj k1))] ?_;refine .a [.v (a0.kids.length:Int)] (A (ay.len' a0.kids) T) [(10,lE 5 (ah a0.kids)),(11,iE (a0.kids.length:Int)),(12,iE 0)] ?_;refine .sn 10 ay a0.kids (by kernel_rfl) (fun hb2=>?_);refine .lL h0 rfl [1,10,11] (fun i3 s4=>[(12,iE (i3:Int))]) n2 (fun i3 s4=>[.c 0 0 (.vs (.low 1) 1 ((aj s4).length)),.o 1 (.vec 3 1 (aj s4))]) [] (by kernel_rfl) (fun i3 s4 q5 hd7 hi9 h0=>?_);refine .a [] T [(13,dE ((i3:Int)<(a0.kids.length:Int)))] ?_;refine .lc hd7 rfl (by kernel_rfl) (fun x6 MS iR hx6 hd8 jG=>?_) (fun iR=>?_)
  ·subst iR;obtain⟨y1,h1,hn1⟩:=bU h0;refine .af [.cs (ak x6)] (A (ay.iV hx6) T) [(5,pw 5)] [.o 5 (.cells ((ak x6).map .d))] ?_;obtain⟨k11,Am,h1⟩:=bnd h1;refine .ao [.call [.low 0,.low 1] (.dU []) [.cells [.vs (.low 1) 1 ((aj k11).length)],.vec 3 1 (aj k11)]] (A (ih _ _ Am) T) [] [.c 0 0 (.vs (.low 1) 1 ((aj k11).length)),.o 1 (.vec 3 1 (aj k11))] ?_;refine .a [.v ((i3+1:Nat):Int)] (A (wn (i:=i3) (by omega)) T) [(12,iE ((i3+1:Nat):Int))] ?_;cases h1;refine .kp [1,10,11,12] [] ?_;refine .dr 5 (by kernel_rfl) ?_;exact .nL rfl (i3+1) _ hd8 jG hn1 [] (by kernel_rfl)
  ·subst iR;have h0:=dF h0;cases h0;exact .fin rfl rfl rfl rfl hK
def kW (n:Nat) (a0:List Int):Option (List Int):=some (Lib.compact a0)
theorem yX (n:Nat):∀(a0:List Int) {r:List Int},kW n a0=some r→aC X.E 114 [.vs (.low 0) 1 ((aj a0).length)] [some (.vec 3 1 (aj a0))] (lE 1 (aj r)) [.tok 9223372036854775808 3]:=by
 intro a0 r h0;cases h0;exact aC.acV Tryz.func114 rfl rfl (Lib.compact_length_le a0) (fun _ p cap w=>Tryz.slices_Compact_int_empty p cap w) (fun b cap w hc hm hH hb=>(Tryz.slices_Compact_int b 0 cap a0 w hH hm hc).mono (by rintro e w' ⟨rfl,q,rfl⟩; exact⟨rfl,xG.pre (.aa3 w q b _ hb)⟩))
def kK (n:Nat) (a0:List Int):Option (List Int):=if a0.length<4611686018427387904 then some (a0.mergeSort fun x y=>decide (x≤y)) else none
theorem CO (n:Nat):∀(a0:List Int) {r:List Int},kK n a0=some r→aC X.E 113 [.vs (.low 0) 1 ((aj a0).length)] [some (.vec 3 1 (aj a0))] (.dU []) [.vec 3 1 (aj r)]:=by
 intro a0 r h0;rw[kK] at h0;split at h0
 ·rename_i hlt; cases h0; exact aC.row Tryz.func113 rfl rfl (by simp) (fun _ p cap w=>Tryz.slices_Sort_int_none p cap w) (fun b cap w _ hH hb=>(Tryz.slices_Sort_int b 0 cap a0 w hH hb hlt).mono (by rintro e w' ⟨rfl,n,os,rfl⟩; exact⟨rfl,.YJ w n b _ os hb⟩))
 ·cases h0
def rZ (n:Nat) (a0:Form):Option (List Int):=
 (jO n a0).bind fun k1=>(if(!k1)=true then some [] else(dR n a0 []).bind fun k3=>(kK n k3).bind fun k4=>(VX k4 k3.length).bind fun u5=>(kW n k4).bind fun k7=>some k7)
theorem Lr (n:Nat):∀(a0:Form) {r:List Int},rZ n a0=some r→aC X.E 98 [aE (ak a0)] [] (lE 1 (aj r)) []:=by
 intro a0 r h0;rw[rZ] at h0;refine .n Tryz.func98 (fun L ks low K hl hL hlen hK=>?_);refine .af [] T [(1,pw 1)] [.o 1 (.cells ((ak a0).map .d))] ?_;refine .af [.sv (aj [])] (A (aO.lit []) T) [(3,pw 3)] [.o 3 (.cells [fE 1 (aj [])])] ?_;obtain⟨k1,hk1,h0⟩:=bnd h0;refine .a [.call [] (bE k1) []] (A (qm n _ hk1) T) [(7,bE (!k1))] ?_;refine .jT h0 (fun hc2 h0=>?_) (fun hc2 h0=>?_)
 ·refine .a [] T [(2,fE 1 (aj []))] ?_;cases h0;exact .rt hK
 ·refine .ov 3 0 400300 3 (by kernel_rfl) ?_;obtain⟨k3,hk3,h0⟩:=bnd h0;refine .af [.call [.own 3,.own 400300] (.dU []) [.cells [.vs (.low 1) 1 ((aj k3).length)],.vec 3 1 (aj k3)]] (A (sZ n _ _ hk3) T) [] [.c 3 0 (.vs (.own 400300) 1 ((aj k3).length)),.o 400300 (.vec 3 1 (aj k3))] ?_;obtain⟨k4,hk4,h0⟩:=bnd h0;obtain⟨u5,hu5,h0⟩:=bnd h0;refine .af [.call [.own 400300] (.dU []) [.vec 3 1 (aj k4)]] (A (CO n _ hk4) T) [] [.c 3 0 (.vs (.own 400300) 1 ((aj k3).length)),.o 400300 (.vec 3 1 (aj k4))] ?_;refine .rn (by rw[aO.length,aO.length]; exact(aa1 hu5).symm:(aj k3).length=(aj k4).length) (fun nk6=>[]) (fun nk6=>[.c 3 0 (.vs (.own 400300) 1 nk6)]) (fun nk6=>[]) (by kernel_rfl) ?_;obtain⟨k7,II,h0⟩:=bnd h0;refine .af [.call [.own 400300] (lE 1 (aj k7)) [.tok 9223372036854775808 3]] (A (yX n _ II) T) [(2,lE 1 (aj k7))] [.o 400300 (.tok 9223372036854775808 3)] ?_;cases h0;exact .rt hK
mutual
def jK:Nat→Core→Core→Option (Bool)
 | 0,_,_=>none
 | n+1,a0,a1=>Option.bind ((if a0.kind=a1.kind then(if a0.id=a1.id then(if a0.name=a1.name then(if a0.n=a1.n then(slices_Equal_int n a0.ids a1.ids).bind fun k6=>(if k6=true then(iF n a0.data a1.data).bind fun k8=>(if k8=true then(bY n a0.kids a1.kids).bind fun k10=>some k10 else some false) else some false) else some false) else some false) else some false) else some false):Option (Bool)) (fun(o1:Bool)=>some o1)
def bY:Nat→(List Core)→(List Core)→Option (Bool)
 | 0,_,_=>none
 | n+1,a0,a1=>(if ¬(a0.length:Int)=(a1.length:Int) then some false else bn (bI (fun(s5:Unit) (i4:Nat) (x7:Core)=>((gW a1 (i4:Int)).bind fun e12=>(jK n x7 e12).bind fun k13=>(if(!k13)=true then some (Sum.inl false) else some (Sum.inr ())):Option (Bool⊕Unit))) 0 a0 ()) (fun(s5:Unit)=>some true))
end
theorem Ls (n:Nat):(∀(a0:Core) (a1:Core) {r:Bool},jK n a0 a1=some r→aC X.E 99 [aE (aI a0),aE (aI a1)] [] (bE r) [])∧(∀(a0:List Core) (a1:List Core) {r:Bool},bY n a0 a1=some r→aC X.E 115 [lE 11 (aG a0),lE 11 (aG a1),.clo 99 [] []] [] (bE r) []):=by
 induction n with
 | zero=>exact⟨(by intros; rename_i h; cases h),(by intros; rename_i h; cases h)⟩
 | succ n ih=>
  refine⟨?_,?_⟩
  ·intro a0 a1 r h0;rw[jK] at h0;refine .n Tryz.func99 (fun L ks low K hl hL hlen hK=>?_);refine .af [] T [(2,pw 2),(3,pw 3)] [.o 2 (.cells ((aI a0).map .d)),.o 3 (.cells ((aI a1).map .d))] ?_;refine .bP h0 rfl [] (fun o1=>[(4,bE o1)]) n1 n1 (fun o1 h0=>?_) (fun y1 h1 hj1=>?_)
   ·cases h0;exact .rt hK
   ·by_cases g2:a0.kind=a1.kind
    ·have h1:=aJ g2 h1;by_cases g3:a0.id=a1.id
     ·have h1:=aJ g3 h1;by_cases g4:a0.name=a1.name
      ·have h1:=aJ g4 h1;by_cases g5:a0.n=a1.n
       ·have h1:=aJ g5 h1;obtain⟨k6,hk6,h1⟩:=bnd h1;by_cases g7:k6=true
        ·have h1:=aJ g7 h1;obtain⟨k8,hk8,h1⟩:=bnd h1;by_cases g9:k8=true
         ·have h1:=aJ g9 h1;obtain⟨k10,hk10,h1⟩:=bnd h1;refine .a (rb 23 true (.call [] (bE k6) []::(rb 6 true (.call [] (bE k8) []::(rb 6 true [.call [] (bE k10) [],.b true]))))) (R 6 (dt g2) (R 6 (dt g3) (R 6 (dt g4) (R 4 (dt g5) (A (A (dt g5) (iT n _ _ hk6)) (A (dt g5) (R 4 g7 (A (A g7 (jq n _ _ hk8)) (A g7 (R 4 g9 (A (A g9 (ih.2 _ _ hk10)) (A g9 T)))))))))))) [(4,bE k10)] ?_;cases h1;exact .lg hj1 []
         ·have h1:=aK g9 h1;refine .a (rb 23 true (.call [] (bE k6) []::(rb 6 true (.call [] (bE k8) []::(.b true::(rb 6 false [])))))) (R 6 (dt g2) (R 6 (dt g3) (R 6 (dt g4) (R 4 (dt g5) (A (A (dt g5) (iT n _ _ hk6)) (A (dt g5) (R 4 g7 (A (A g7 (jq n _ _ hk8)) (A g7 (R 6 (Bool.eq_false_iff.2 g9) T)))))))))) [(4,bE false)] ?_;cases h1;exact .lg hj1 []
        ·have h1:=aK g7 h1;refine .a (rb 23 true (.call [] (bE k6) []::(.b true::(rb 12 false [])))) (R 6 (dt g2) (R 6 (dt g3) (R 6 (dt g4) (R 4 (dt g5) (A (A (dt g5) (iT n _ _ hk6)) (A (dt g5) (R 6 (Bool.eq_false_iff.2 g7) (R 6 B0 T)))))))) [(4,bE false)] ?_;cases h1;exact .lg hj1 []
       ·have h1:=aK g5 h1;refine .a (rb 18 true (rb 18 false [])) (R 6 (dt g2) (R 6 (dt g3) (R 6 (dt g4) (R 6 (df g5) (R 12 B0 T))))) [(4,bE false)] ?_;cases h1;exact .lg hj1 []
      ·have h1:=aK g4 h1;refine .a (rb 12 true (rb 24 false [])) (R 6 (dt g2) (R 6 (dt g3) (R 6 (df g4) (R 18 B0 T)))) [(4,bE false)] ?_;cases h1;exact .lg hj1 []
     ·have h1:=aK g3 h1;refine .a (rb 6 true (rb 30 false [])) (R 6 (dt g2) (R 6 (df g3) (R 24 B0 T))) [(4,bE false)] ?_;cases h1;exact .lg hj1 []
    ·have h1:=aK g2 h1;refine .a (rb 36 false []) (R 6 (df g2) (R 30 B0 T)) [(4,bE false)] ?_;cases h1;exact .lg hj1 []
  ·intro a0 a1 r h0;rw[bY] at h0;refine .n Tryz.func115 (fun L ks low K hl hL hlen hK=>?_);refine .a [] T [] ?_;refine .a [.v (a0.length:Int),.v (a1.length:Int)] (A (bM.len' a0) (A (bM.len' a1) T)) [(14,dE (¬(a0.length:Int)=(a1.length:Int)))] ?_;refine .sn 0 bM a0 (by kernel_rfl) (fun hb1=>?_);refine .sn 1 bM a1 (by kernel_rfl) (fun hb2=>?_);refine .jP h0 (fun hc3 h0=>?_) (fun hc3 h0=>?_)
   ·refine .a [] T [(6,bE false)] ?_;cases h0;exact .rt hK
   ·refine .a [.v (a0.length:Int)] (A (bM.len' a0) T) [(15,lE 11 (aG a0)),(16,iE (a0.length:Int)),(17,iE 0)] ?_;refine .lI h0 rfl [1,2,15,16] (fun i4 s5=>[(17,iE (i4:Int))]) n2 n2 [] (by kernel_rfl) (fun i4 s5 q6 hd8 TJ h0=>?_);refine .a [] T [(18,dE ((i4:Int)<(a0.length:Int)))] ?_;refine .lc hd8 rfl (by kernel_rfl) (fun x7 q62 bG hx7 hd9 DV=>?_) (fun bG=>?_)
    ·subst bG;obtain⟨y1,h1,hw1,hn1⟩:=aZ h0;refine .af [.cs (aI x7)] (A (bM.iV hx7) T) [(7,iE (i4:Int)),(8,pw 8)] [.o 8 (.cells ((aI x7).map .d))] ?_;obtain⟨e12,Ap,h1⟩:=bnd h1;refine .af [.cs (aI e12)] (A (bM.idx Ap) T) [(9,pw 9)] [.o 9 (.cells ((aI e12).map .d))] ?_;obtain⟨k13,mF,h1⟩:=bnd h1;refine .a [.call [] (bE k13) []] (A (ih.1 _ _ mF) T) [(30,bE (!k13))] ?_;refine .jT h1 (fun mG h1=>?_) (fun mG h1=>?_)
     ·refine .a [] T [(6,bE false)] ?_;cases h1;cases hw1 _ rfl;exact .rt hK
     ·refine .a [.v ((i4+1:Nat):Int)] (A (wn (i:=i4) (by omega)) T) [(17,iE ((i4+1:Nat):Int))] ?_;cases h1;refine .kp [1,2,15,16,17] [] ?_;refine .dr 8 (by kernel_rfl) ?_;refine .dr 9 (by kernel_rfl) ?_;exact .nL rfl (i4+1) _ hd9 DV (hn1 _ rfl) [] (by kernel_rfl)
    ·subst bG;have h0:=bH h0;refine .a [] T [(6,bE true)] ?_;cases h0;exact .rt hK
theorem Lu (n:Nat):∀(a0:Core) (a1:Core) {r:Bool},jK n a0 a1=some r→aC X.E 99 [aE (aI a0),aE (aI a1)] [] (bE r) []:=(Ls n).1
def slices_Clone_int (n:Nat) (a0:List Int):Option (List Int):=
 (jm 8 [] a0).bind fun z1=>some z1
theorem uY (n:Nat):∀(a0:List Int) {r:List Int},slices_Clone_int n a0=some r→aC X.E 88 [lE 1 (aj a0)] [] (lE 1 (aj r)) []:=by
 intro a0 r h0;rw[slices_Clone_int] at h0;refine .m Tryz.func88 rfl rfl rfl (by kernel_rfl) (fun L ks low K hl hL hlen hK=>?_);refine .r [] T [] rfl (by kernel_rfl) ?_;refine .nq rfl (by kernel_rfl) rfl rfl (fun e=>?_) ?_
 ·have e:a0=[]:=by cases a0 with
   | nil=>rfl
   | cons x q=>rw[aO.eq] at e; cases e
  subst e;have e:r=[]:=by simp[jm] at h0; exact h0
  subst e;refine .cB true rfl (by kernel_rfl) ?_;refine .r [] T [(2,fE 1 (aj []))] rfl (by kernel_rfl) ?_;refine .kp [2] [] ?_;refine .owV 2 400002 3 [] rfl rfl (by kernel_rfl) ?_;refine .ft 2 400002 [] aO [] rfl (by kernel_rfl) ?_;exact .ret rfl rfl (by kernel_rfl) hK
 ·refine .cB false rfl (by kernel_rfl) ?_;obtain⟨z1,hz1,h0⟩:=bnd h0;refine .rf [.sv (aj []),.mv 7,.sv (aj z1)] (A (aO.lit []) (A (aO.ap0 hz1) T)) [(2,.vs (.own 100007) 1 (aj z1).length)] [.o 100007 (.vec 3 1 (aj z1))] rfl (by kernel_rfl) ?_;refine .kp [2] [] ?_;cases h0;refine .ft 2 100007 [] aO r rfl (by kernel_rfl) ?_;exact .ret rfl rfl (by kernel_rfl) hK
def slices_Index_int (n:Nat) (a0:List Int) (a1:Int):Option (Int):=
 bn (bI (fun(s3:Unit) (i2:Nat) (x5:Int)=>((if a1=x5 then some (Sum.inl (i2:Int)) else some (Sum.inr ())):Option (Int⊕Unit))) 0 a0 ()) (fun(s3:Unit)=>some (-1))
theorem DW (n:Nat):∀(a0:List Int) (a1:Int) {r:Int},slices_Index_int n a0 a1=some r→aC X.E 110 [lE 1 (aj a0),iE a1] [] (iE r) []:=by
 intro a0 a1 r h0;rw[slices_Index_int] at h0;refine .n Tryz.func110 (fun L ks low K hl hL hlen hK=>?_);refine .a [] T [] ?_;refine .a [.v (a0.length:Int)] (A (aO.len' a0) T) [(7,iE (a0.length:Int)),(8,iE 0)] ?_;refine .sn 0 aO a0 (by kernel_rfl) (fun hb1=>?_);refine .lI h0 rfl [0,1,7] (fun i2 s3=>[(8,iE (i2:Int))]) n2 n2 [] (by kernel_rfl) (fun i2 s3 q4 hd6 Xh h0=>?_);refine .a [] T [(9,dE ((i2:Int)<(a0.length:Int)))] ?_;refine .lc hd6 rfl (by kernel_rfl) (fun x5 WL fQ hx5 hd7 sW=>?_) (fun fQ=>?_)
 ·subst fQ;obtain⟨y1,h1,hw1,hn1⟩:=aZ h0;refine .a [] T [(5,iE (i2:Int))] ?_;refine .a [.cs [.v (.int .i64 x5)]] (A (aO.iV hx5) T) [(16,dE (a1=x5))] ?_;refine .jP h1 (fun iR h1=>?_) (fun iR h1=>?_)
  ·refine .a [] T [(4,iE (i2:Int))] ?_;cases h1;cases hw1 _ rfl;exact .rt hK
  ·refine .a [.v ((i2+1:Nat):Int)] (A (wn (i:=i2) (by omega)) T) [(8,iE ((i2+1:Nat):Int))] ?_;cases h1;exact .nL rfl (i2+1) _ hd7 sW (hn1 _ rfl) [] (by kernel_rfl)
 ·subst fQ;have h0:=bH h0;refine .a [] T [(4,iE (-1))] ?_;cases h0;exact .rt hK
def slices_Contains_int (n:Nat) (a0:List Int) (a1:Int):Option (Bool):=
 (slices_Index_int n a0 a1).bind fun k1=>some (decide (k1≥0))
theorem zK (n:Nat):∀(a0:List Int) (a1:Int) {r:Bool},slices_Contains_int n a0 a1=some r→aC X.E 96 [lE 1 (aj a0),iE a1] [] (bE r) []:=by
 intro a0 a1 r h0;rw[slices_Contains_int] at h0;refine .n Tryz.func96 (fun L ks low K hl hL hlen hK=>?_);refine .a [] T [] ?_;obtain⟨k1,hk1,h0⟩:=bnd h0;refine .a [.call [] (iE k1) []] (A (DW n _ _ hk1) T) [(4,dE (k1≥0))] ?_;cases h0;exact .rt hK
def oU (n:Nat) (a0:List Int) (a1:Int):Option (Int):=
 bn (bI (fun(s3:Unit) (i2:Nat) (x5:Int)=>((if a1=x5 then some (Sum.inl (i2:Int)) else some (Sum.inr ())):Option (Int⊕Unit))) 0 a0 ()) (fun(s3:Unit)=>some (-1))
theorem Au (n:Nat):∀(a0:List Int) (a1:Int) {r:Int},oU n a0 a1=some r→aC X.E 110 [.vs (.low 0) 1 ((aj a0).length),iE a1] [some (.vec 3 1 (aj a0))] (iE r) [.vec 3 1 (aj a0)]:=by
 intro a0 a1 r h0;rw[oU] at h0;refine .n Tryz.func110 (fun L ks low K hl hL hlen hK=>?_);refine .a [] T [] ?_;refine .a [.v (a0.length:Int)] (A (aO.len' a0) T) [(7,iE (a0.length:Int)),(8,iE 0)] ?_;refine .snV 0 aO a0 (by kernel_rfl) (fun hb1=>?_);refine .lI h0 rfl [0,1,7] (fun i2 s3=>[(8,iE (i2:Int))]) n2 n2 [] (by kernel_rfl) (fun i2 s3 q4 hd6 Xh h0=>?_);refine .a [] T [(9,dE ((i2:Int)<(a0.length:Int)))] ?_;refine .lc hd6 rfl (by kernel_rfl) (fun x5 WL fQ hx5 hd7 sW=>?_) (fun fQ=>?_)
 ·subst fQ;obtain⟨y1,h1,hw1,hn1⟩:=aZ h0;refine .a [] T [(5,iE (i2:Int))] ?_;refine .a [.cs [.v (.int .i64 x5)]] (A (A (aO.inv (DU hx5) (rfl:(aj a0).length=(aj a0).length)) (rfl:(aj a0).length=(aj a0).length)) (A (A (A (aO.rows a0) (aO.FX hx5)) (rfl:(aj a0).length=(aj a0).length)) T)) [(16,dE (a1=x5))] ?_;refine .jP h1 (fun iR h1=>?_) (fun iR h1=>?_)
  ·refine .a [] T [(4,iE (i2:Int))] ?_;cases h1;cases hw1 _ rfl;exact .rt hK
  ·refine .a [.v ((i2+1:Nat):Int)] (A (wn (i:=i2) (by omega)) T) [(8,iE ((i2+1:Nat):Int))] ?_;cases h1;exact .nL rfl (i2+1) _ hd7 sW (hn1 _ rfl) [] (by kernel_rfl)
 ·subst fQ;have h0:=bH h0;refine .a [] T [(4,iE (-1))] ?_;cases h0;exact .rt hK
def fG (n:Nat) (a0:List Int) (a1:Int):Option (Bool):=
 (oU n a0 a1).bind fun k1=>some (decide (k1≥0))
theorem xI (n:Nat):∀(a0:List Int) (a1:Int) {r:Bool},fG n a0 a1=some r→aC X.E 96 [.vs (.low 0) 1 ((aj a0).length),iE a1] [some (.vec 3 1 (aj a0))] (bE r) [.vec 3 1 (aj a0)]:=by
 intro a0 a1 r h0;rw[fG] at h0;refine .n Tryz.func96 (fun L ks low K hl hL hlen hK=>?_);refine .a [] T [] ?_;obtain⟨k1,hk1,h0⟩:=bnd h0;refine .a [.call [.low 0] (iE k1) [.vec 3 1 (aj a0)]] (A (Au n _ _ hk1) T) [(4,dE (k1≥0))] ?_;cases h0;exact .rt hK
theorem Aw (n:Nat):∀(a0:List Int) {r:List Int},slices_Clone_int n a0=some r→aC X.E 88 [lE 1 (aj a0)] [none] (.vs (.low 0) 1 ((aj r).length)) [.vec 3 1 (aj r)]:=by
 intro a0 r h0;rw[slices_Clone_int] at h0;refine .m Tryz.func88 rfl rfl rfl (by kernel_rfl) (fun L ks low K hl hL hlen hK=>?_);refine .r [] T [] rfl (by kernel_rfl) ?_;refine .nq rfl (by kernel_rfl) rfl rfl (fun e=>?_) ?_
 ·have e:a0=[]:=by cases a0 with
   | nil=>rfl
   | cons x q=>rw[aO.eq] at e; cases e
  subst e;have e:r=[]:=by simp[jm] at h0; exact h0
  subst e;refine .cB true rfl (by kernel_rfl) ?_;refine .r [] T [(2,fE 1 (aj []))] rfl (by kernel_rfl) ?_;refine .kp [2] [] ?_;refine .owV 2 400002 3 [] rfl rfl (by kernel_rfl) ?_;refine .mv 2 400002 0 [] (by kernel_rfl) ?_;exact .ret rfl rfl (by kernel_rfl) hK
 ·refine .cB false rfl (by kernel_rfl) ?_;obtain⟨z1,hz1,h0⟩:=bnd h0;refine .rf [.sv (aj []),.mv 7,.sv (aj z1)] (A (aO.lit []) (A (aO.ap0 hz1) T)) [(2,.vs (.own 100007) 1 (aj z1).length)] [.o 100007 (.vec 3 1 (aj z1))] rfl (by kernel_rfl) ?_;refine .kp [2] [] ?_;cases h0;refine .mv 2 100007 0 [] (by kernel_rfl) ?_;exact .ret rfl rfl (by kernel_rfl) hK
def uw:Nat→Core→(List Int)→Int→Int→Option (Bool×Int)
 | 0,_,_,_,_=>none
 | n+1,a0,a1,a2,w0=>Option.bind ((if(aX (w0-1))<0 then some true else some (decide (a2>120))):Option (Bool)) (fun(o1:Bool)=>(if o1=true then some (false,(aX (w0-1))) else bn ((if a0.kind=1 then Option.bind ((iY n a0.id 1 999).bind fun k22=>(if(!k22)=true then some true else(slices_Contains_int n a1 a0.id).bind fun k24=>some (!k24)):Option (Bool)) (fun(o20:Bool)=>(if o20=true then some (Sum.inl (false,(aX (w0-1)))) else some (Sum.inr (0,a1,a0.id,[],0,[],0,[],0,[],[])))) else(if a0.kind=2 then(lT n a0.name).bind fun k26=>(if(!k26)=true then some (Sum.inl (false,(aX (w0-1)))) else some (Sum.inr (0,a1,0,a0.name,0,[],0,[],0,[],[]))) else(if a0.kind=3 then(iY n a0.n 0 999).bind fun k29=>(if(!k29)=true then some (Sum.inl (false,(aX (w0-1)))) else some (Sum.inr (0,a1,0,[],a0.n,[],0,[],0,[],[]))) else(if a0.kind=4 then Option.bind ((jO n a0.data).bind fun k34=>(if(!k34)=true then some true else(rZ n a0.data).bind fun TK=>some (decide ((TK.length:Int)>0))):Option (Bool)) (fun(o32:Bool)=>(if o32=true then some (Sum.inl (false,(aX (w0-1)))) else some (Sum.inr (0,a1,0,[],0,[],a0.data.kind,a0.data.name,a0.data.n,a0.data.scopes,a0.data.kids)))) else(if a0.kind=5 then(slices_Clone_int n a1).bind fun k38=>bn (bI (fun(LC:List Int) (i40:Nat) (x43:Int)=>(Option.bind ((iY n x43 1 999).bind fun k51=>(if(!k51)=true then some true else(fG n LC x43).bind fun k53=>some k53):Option (Bool)) (fun(o48:Bool)=>(if o48=true then some (Sum.inl (Sum.inl (false,(aX (w0-1))))) else(jm 8 LC [x43]).bind fun z50=>some (Sum.inr z50))):Option (((Bool×Int)⊕(Int×(List Int)×Int×(List UInt8)×Int×(List Int)×Int×(List UInt8)×Int×(List Int)×(List Form)))⊕(List Int)))) 0 a0.ids k38) (fun(LC:List Int)=>some (Sum.inr (1,LC,0,[],0,a0.ids,0,[],0,[],[]))) else(if a0.kind=6 then some (Sum.inr ((if(a0.kids.length:Int)>1 then(a0.kids.length:Int) else 1),a1,0,[],0,[],0,[],0,[],[])) else(if a0.kind=7 then some (Sum.inr (3,a1,0,[],0,[],0,[],0,[],[])) else some (Sum.inl (false,(aX (w0-1))))))))))):Option ((Bool×Int)⊕(Int×(List Int)×Int×(List UInt8)×Int×(List Int)×Int×(List UInt8)×Int×(List Int)×(List Form)))) (fun(o3:Int×(List Int)×Int×(List UInt8)×Int×(List Int)×Int×(List UInt8)×Int×(List Int)×(List Form))=>Option.bind ((if ¬(a0.kids.length:Int)=o3.1 then some true else(jK n a0 (⟨a0.kind,o3.2.2.1,o3.2.2.2.1,o3.2.2.2.2.1,o3.2.2.2.2.2.1,(⟨o3.2.2.2.2.2.2.1,o3.2.2.2.2.2.2.2.1,o3.2.2.2.2.2.2.2.2.1,o3.2.2.2.2.2.2.2.2.2.1,o3.2.2.2.2.2.2.2.2.2.2⟩:Form),a0.kids⟩:Core)).bind fun k18=>some (!k18)):Option (Bool)) (fun(o4:Bool)=>(if o4=true then some (false,(aX (w0-1))) else bn (bI (fun(s8:Int) (i7:Nat) (x10:Core)=>((uw n x10 o3.2.1 (aX (a2+1)) s8).bind fun k15=>(if(!k15.1)=true then some (Sum.inl (false,k15.2)) else some (Sum.inr k15.2)):Option ((Bool×Int)⊕Int))) 0 a0.kids (aX (w0-1))) (fun(s8:Int)=>some (true,s8)))))))
theorem Ql (n:Nat):∀(a0:Core) (a1:List Int) (a2:Int) (w0:Int) {r:Bool×Int},uw n a0 a1 a2 w0=some r→aC X.E 85 [aE (aI a0),lE 1 (aj a1),iE a2,pl 0] [some (.cells [iE w0])] (bE r.1) [.cells [iE r.2]]:=by
 induction n with
 | zero=>intro a0 a1 a2 w0 r h; cases h
 | succ n ih=>
  intro a0 a1 a2 w0 r h0;rw[uw] at h0;refine .n Tryz.func85 (fun L ks low K hl hL hlen hK=>?_);refine .af [] T [(4,pw 4)] [.o 4 (.cells ((aI a0).map .d))] ?_;refine .ao [.pl] T [] [.c 0 0 (iE (aX (w0-1)))] ?_;refine .bP h0 rfl [1,2,3,4] (fun o1=>[(28,bE o1)]) n1 n1 (fun o1 h0=>?_) (fun y1 h1 hj1=>?_)
  ·refine .jT h0 (fun hc2 h0=>?_) (fun hc2 h0=>?_)
   ·refine .a [] T [(8,bE false)] ?_;cases h0;exact .rt hK
   ·refine .af [] T [(9,pw 9),(10,iE 0),(11,lE 1 (aj a1))] [.o 9 (.cells [iE a0.kind,iE 0,sE [],iE 0,fE 1 (aj []),iE 0,sE [],iE 0,fE 1 (aj []),fE 5 (ah []),lE 11 (aG a0.kids)])] ?_;refine .a [] T [(36,iE a0.kind)] ?_;refine .bSB h0 rfl [2,3,4,9] (fun o3=>[(10,iE o3.1),(11,lE 1 (aj o3.2.1))]) (fun o3=>[.o 9 (.cells [iE a0.kind,iE o3.2.2.1,sE o3.2.2.2.1,iE o3.2.2.2.2.1,lE 1 (aj o3.2.2.2.2.2.1),iE o3.2.2.2.2.2.2.1,sE o3.2.2.2.2.2.2.2.1,iE o3.2.2.2.2.2.2.2.2.1,lE 1 (aj o3.2.2.2.2.2.2.2.2.2.1),lE 5 (ah o3.2.2.2.2.2.2.2.2.2.2),lE 11 (aG a0.kids)])]) n1 (fun o3 h0=>?_) (fun y1 h1 hj1 hw1=>?_)
    ·refine .bP h0 rfl [2,3,4,11] (fun o4=>[(132,bE o4)]) n1 n1 (fun o4 h0=>?_) (fun y1 h1 hj1=>?_)
     ·refine .jT h0 (fun hc5 h0=>?_) (fun hc5 h0=>?_)
      ·refine .a [] T [(8,bE false)] ?_;cases h0;exact .rt hK
      ·refine .a [.v (a0.kids.length:Int)] (A (bM.len' a0.kids) T) [(134,lE 11 (aG a0.kids)),(135,iE (a0.kids.length:Int)),(136,iE 0)] ?_;refine .sn 134 bM a0.kids (by kernel_rfl) (fun hb6=>?_);refine .lI h0 rfl [2,3,11,134,135] (fun i7 s8=>[(136,iE (i7:Int))]) n2 (fun i7 s8=>[.c 0 0 (iE s8)]) [] (by kernel_rfl) (fun i7 s8 q9 hd11 agL h0=>?_);refine .a [] T [(137,dE ((i7:Int)<(a0.kids.length:Int)))] ?_;refine .lc hd11 rfl (by kernel_rfl) (fun x10 q92 mG acX acY YQ=>?_) (fun mG=>?_)
       ·subst mG;obtain⟨y1,h1,hw1,hn1⟩:=aZ h0;refine .af [.cs (aI x10)] (A (bM.iV acX) T) [(15,pw 15)] [.o 15 (.cells ((aI x10).map .d))] ?_;obtain⟨k15,qo,h1⟩:=bnd h1;refine .ao [.pl,.call [.low 0] (bE k15.1) [.cells [iE k15.2]]] (A (ih _ _ _ _ qo) T) [(146,bE (!k15.1))] [.c 0 0 (iE k15.2)] ?_;refine .jT h1 (fun hc16 h1=>?_) (fun hc16 h1=>?_)
        ·refine .a [] T [(8,bE false)] ?_;cases h1;cases hw1 _ rfl;exact .rt hK
        ·refine .a [.v ((i7+1:Nat):Int)] (A (wn (i:=i7) (by omega)) T) [(136,iE ((i7+1:Nat):Int))] ?_;cases h1;refine .kp [2,3,11,134,135,136] [] ?_;refine .dr 15 (by kernel_rfl) ?_;exact .nL rfl (i7+1) _ acY YQ (hn1 _ rfl) [] (by kernel_rfl)
       ·subst mG;have h0:=bH h0;refine .a [] T [(8,bE true)] ?_;cases h0;exact .rt hK
     ·by_cases g17:¬(a0.kids.length:Int)=o3.1
      ·have h1:=aJ g17 h1;refine .a (.v (a0.kids.length:Int)::(rb 5 true [])) (A (bM.len' a0.kids) (R 5 (dt g17) T)) [(132,bE true)] ?_;cases h1;exact .lg hj1 []
      ·have h1:=aK g17 h1;obtain⟨k18,pY,h1⟩:=bnd h1;refine .a (.v (a0.kids.length:Int)::(rb 3 false [.call [] (bE k18) [],.b false,.b false])) (A (bM.len' a0.kids) (R 2 (df g17) (A (A (df g17) (Lu n _ _ pY)) (R 2 (df g17) T)))) [(132,bE (!k18))] ?_;cases h1;exact .lg hj1 []
    ·refine .a [] T [(37,dE (a0.kind=1))] ?_;refine .jP h1 (fun hc19 h1=>?_) (fun hc19 h1=>?_)
     ·refine .af [] T [] [.c 9 1 (iE a0.id)] ?_;refine .bP h1 rfl [2,3,4,9,10,11] (fun o20=>[(52,bE o20)]) n1 n1 (fun o20 h1=>?_) (fun y2 h2 hj2=>?_)
      ·refine .jT h1 (fun hc21 h1=>?_) (fun hc21 h1=>?_)
       ·refine .a [] T [(8,bE false)] ?_;cases h1;cases hw1 _ rfl;exact .rt hK
       ·cases h1;refine .fg 9 [4,8,9] ?_;exact .lg (hj1 _ rfl) []
      ·obtain⟨k22,F8,h2⟩:=bnd h2;by_cases g23:(!k22)=true
       ·have h2:=aJ g23 h2;refine .a (.call [] (bE k22) []::(rb 6 true [])) (A (gU n _ _ _ F8) (R 6 g23 T)) [(52,bE true)] ?_;cases h2;exact .lg hj2 []
       ·have h2:=aK g23 h2;obtain⟨k24,CP,h2⟩:=bnd h2;refine .a (.call [] (bE k22) []::(rb 4 false [.call [] (bE k24) [],.b false,.b false])) (A (gU n _ _ _ F8) (R 3 (Bool.eq_false_iff.2 g23) (A (A (Bool.eq_false_iff.2 g23) (zK n _ _ CP)) (R 2 (Bool.eq_false_iff.2 g23) T)))) [(52,bE (!k24))] ?_;cases h2;exact .lg hj2 []
     ·refine .a [] T [(53,dE (a0.kind=2))] ?_;refine .jP h1 (fun hc25 h1=>?_) (fun hc25 h1=>?_)
      ·refine .af [] T [] [.c 9 2 (sE a0.name)] ?_;obtain⟨k26,DX,h1⟩:=bnd h1;refine .a [.call [] (bE k26) []] (A (kV n _ DX) T) [(61,bE (!k26))] ?_;refine .jT h1 (fun hc27 h1=>?_) (fun hc27 h1=>?_)
       ·refine .a [] T [(8,bE false)] ?_;cases h1;cases hw1 _ rfl;exact .rt hK
       ·cases h1;refine .fg 9 [4,8,9] ?_;exact .lg (hj1 _ rfl) []
      ·refine .a [] T [(62,dE (a0.kind=3))] ?_;refine .jP h1 (fun hc28 h1=>?_) (fun hc28 h1=>?_)
       ·refine .af [] T [] [.c 9 3 (iE a0.n)] ?_;obtain⟨k29,WM,h1⟩:=bnd h1;refine .a [.call [] (bE k29) []] (A (gU n _ _ _ WM) T) [(70,bE (!k29))] ?_;refine .jT h1 (fun YR h1=>?_) (fun YR h1=>?_)
        ·refine .a [] T [(8,bE false)] ?_;cases h1;cases hw1 _ rfl;exact .rt hK
        ·cases h1;refine .fg 9 [4,8,9] ?_;exact .lg (hj1 _ rfl) []
       ·refine .a [] T [(71,dE (a0.kind=4))] ?_;refine .jP h1 (fun hc31 h1=>?_) (fun hc31 h1=>?_)
        ·refine .af [] T [] [.c 9 5 (iE a0.data.kind),.c 9 6 (sE a0.data.name),.c 9 7 (iE a0.data.n),.c 9 8 (lE 1 (aj a0.data.scopes)),.c 9 9 (lE 5 (ah a0.data.kids))] ?_;refine .bP h1 rfl [2,3,4,9,10,11] (fun o32=>[(86,bE o32)]) n1 n1 (fun o32 h1=>?_) (fun y2 h2 hj2=>?_)
         ·refine .jT h1 (fun YS h1=>?_) (fun YS h1=>?_)
          ·refine .a [] T [(8,bE false)] ?_;cases h1;cases hw1 _ rfl;exact .rt hK
          ·cases h1;refine .fg 9 [4] ?_;exact .lg (hj1 _ rfl) []
         ·obtain⟨k34,WO,h2⟩:=bnd h2;by_cases CQ:(!k34)=true
          ·have h2:=aJ CQ h2;refine .a (.call [] (bE k34) []::(rb 6 true [])) (A (qm n _ WO) (R 6 CQ T)) [(86,bE true)] ?_;cases h2;exact .lg hj2 []
          ·have h2:=aK CQ h2;obtain⟨TK,YT,h2⟩:=bnd h2;refine .a (.call [] (bE k34) []::(rb 3 false [.call [] (lE 1 (aj TK)) [],.b false,.v (TK.length:Int),.b false,.b false])) (A (qm n _ WO) (R 2 (Bool.eq_false_iff.2 CQ) (A (A (Bool.eq_false_iff.2 CQ) (Lr n _ YT)) (A (A (Bool.eq_false_iff.2 CQ) (aO.len' TK)) (R 2 (Bool.eq_false_iff.2 CQ) T))))) [(86,dE ((TK.length:Int)>0))] ?_;cases h2;exact .lg hj2 []
        ·refine .a [] T [(87,dE (a0.kind=5))] ?_;refine .jP h1 (fun agM h1=>?_) (fun agM h1=>?_)
         ·refine .af [] T [(10,iE 1)] [.c 9 4 (lE 1 (aj a0.ids))] ?_;obtain⟨k38,YU,h1⟩:=bnd h1;refine .af [.call [.own 300930] (.vs (.low 0) 1 ((aj k38).length)) [.vec 3 1 (aj k38)]] (A (Aw n _ YU) T) [(11,.vs (.own 300930) 1 ((aj k38).length))] [.o 300930 (.vec 3 1 (aj k38))] ?_;refine .a [.v (a0.ids.length:Int)] (A (aO.len' a0.ids) T) [(95,lE 1 (aj a0.ids)),(96,iE (a0.ids.length:Int)),(97,iE 0)] ?_;refine .sn 95 aO a0.ids (by kernel_rfl) (fun agN=>?_);refine .lI h1 rfl [2,3,4,9,10,95,96] (fun i40 LC=>[(11,.vs (.own 300930) 1 ((aj LC).length)),(97,iE (i40:Int))]) (fun i40 LC=>[.o 300930 (.vec 3 1 (aj LC))]) n2 [] (by kernel_rfl) (fun i40 LC WL agO aiK h1=>?_);refine .a [] T [(98,dE ((i40:Int)<(a0.ids.length:Int)))] ?_;refine .lc agO rfl (by kernel_rfl) (fun x43 aiL hc47 agP agQ aff=>?_) (fun hc47=>?_)
          ·subst hc47;obtain⟨y2,h2,hw2,hn2⟩:=aZ h1;refine .a [.cs [.v (.int .i64 x43)]] (A (aO.iV agP) T) [(13,iE x43)] ?_;refine .bP h2 rfl [2,3,4,9,10,11,13,95,96,97] (fun o48=>[(108,bE o48)]) n1 n1 (fun o48 h2=>?_) (fun y3 h3 hj3=>?_)
           ·refine .jT h2 (fun agR h2=>?_) (fun agR h2=>?_)
            ·refine .a [] T [(8,bE false)] ?_;cases h2;cases hw2 _ rfl;cases hw1 _ rfl;exact .rt hK
            ·obtain⟨z50,agS,h2⟩:=bnd h2;refine .af [.sv (aj [x43]),.sv (aj z50)] (A (aO.lit [x43]) (A (A (aO.ap agS) (rfl:(aj LC).length=(aj LC).length)) T)) [(11,.vs (.own 300930) 1 ((aj z50).length))] [.o 300930 (.vec 3 1 (aj z50))] ?_;refine .a [.v ((i40+1:Nat):Int)] (A (wn (i:=i40) (by omega)) T) [(97,iE ((i40+1:Nat):Int))] ?_;cases h2;exact .nL rfl (i40+1) _ agQ aff (hn2 _ rfl) [] (by kernel_rfl)
           ·obtain⟨k51,afg,h3⟩:=bnd h3;by_cases g52:(!k51)=true
            ·have h3:=aJ g52 h3;refine .a (.call [] (bE k51) []::(rb 4 true [])) (A (gU n _ _ _ afg) (R 4 g52 T)) [(108,bE true)] ?_;cases h3;exact .lg hj3 []
            ·have h3:=aK g52 h3;obtain⟨k53,agT,h3⟩:=bnd h3;refine .a (.call [] (bE k51) []::(rb 3 false [.call [.own 300930] (bE k53) [.vec 3 1 (aj LC)],.b false])) (A (gU n _ _ _ afg) (R 2 (Bool.eq_false_iff.2 g52) (A (A (Bool.eq_false_iff.2 g52) (xI n _ _ agT)) (A (Bool.eq_false_iff.2 g52) T)))) [(108,bE k53)] ?_;cases h3;exact .lg hj3 []
          ·subst hc47;have h1:=bH h1;cases h1;refine .kp [2,3,4,9,10,11] [] ?_;refine .ft 11 300930 [2,3,4,9,10] aO LC (rfl:(aj LC).length=(aj LC).length) (by kernel_rfl) ?_;refine .fg 9 [8,9] ?_;exact .lg (hj1 _ rfl) []
         ·refine .a [] T [(114,dE (a0.kind=6))] ?_;refine .jP h1 (fun agU h1=>?_) (fun agU h1=>?_)
          ·refine .a [.v (a0.kids.length:Int)] (A (bM.len' a0.kids) T) [(10,iE (if(a0.kids.length:Int)>1 then(a0.kids.length:Int) else 1)),(117,lE 11 (aG a0.kids))] ?_;refine .sn 117 bM a0.kids (by kernel_rfl) (fun aiM=>?_);cases h1;refine .fg 9 [4,8,9] ?_;exact .lg (hj1 _ rfl) []
          ·refine .a [] T [(120,dE (a0.kind=7))] ?_;refine .jP h1 (fun agV h1=>?_) (fun agV h1=>?_)
           ·refine .a [] T [(10,iE 3)] ?_;cases h1;refine .fg 9 [4,8,9] ?_;exact .lg (hj1 _ rfl) []
           ·refine .a [] T [(8,bE false)] ?_;cases h1;cases hw1 _ rfl;exact .rt hK
  ·by_cases g57:(aX (w0-1))<0
   ·have h1:=aJ g57 h1;refine .a (rb 3 true []) (R 3 (dt g57) T) [(28,bE true)] ?_;cases h1;exact .lg hj1 []
   ·have h1:=aK g57 h1;refine .a (rb 3 false []) (R 3 (df g57) T) [(28,dE (a2>120))] ?_;cases h1;exact .lg hj1 []
def qp (n:Nat) (a0:Core):Option (Bool):=
 (uw n a0 [] 1 600).bind fun k1=>some k1.1
theorem JU (n:Nat):∀(a0:Core) {r:Bool},qp n a0=some r→aC X.E 66 [aE (aI a0)] [] (bE r) []:=by
 intro a0 r h0;rw[qp] at h0;refine .n Tryz.func66 (fun L ks low K hl hL hlen hK=>?_);refine .af [] T [(1,pw 1)] [.o 1 (.cells ((aI a0).map .d))] ?_;refine .af [] T [(3,pw 3)] [.o 3 (.cells [iE 600])] ?_;obtain⟨k1,hk1,h0⟩:=bnd h0;refine .af [.call [.own 3] (bE k1.1) [.cells [iE k1.2]]] (A (Ql n _ _ _ _ hk1) T) [(2,bE k1.1)] [.c 3 0 (iE k1.2)] ?_;cases h0;exact .rt hK
theorem LD (s l:List UInt8) (hs:s.length≤9223372036854775807):aC X.E 68 [sE s,sE l] [] (bE (vP s l)) []:=by
 refine aC.U4 (vs:=[.string (mkS s),.string (mkS l)]) Tryz.func68 rfl rfl (fun _=>rfl) (fun _=>rfl) (fun cx st w hr=>?_);obtain⟨v4,e4,z4,b4,tp,x,p4⟩:=hr.TG (g:=1) rfl;obtain⟨v8,e8,z8,b8,p8⟩:=hr.TG (g:=3) rfl;refine N9 s l w hs tp x (by simp only[World.cell?,b4]; simpa using p4) (by unfold Lib.TabIs World.var?; rw[YO]; simp only[Option.bind_some,b8,p8]) (Array.getElem?_eq_some_iff.1 b8).1
def wu (n:Nat) (a0:List UInt8) (a1:List UInt8):Option Bool:=if a0.length≤9223372036854775807 then some (vP a0 a1) else none
theorem LG (n:Nat):∀(a0:List UInt8) (a1:List UInt8) {r:Bool},wu n a0 a1=some r→aC X.E 68 [sE a0,sE a1] [] (bE r) []:=by
 intro a0 a1 r h0;rw[wu] at h0;split at h0
 ·rename_i hs; cases h0; exact LD a0 a1 hs
 ·cases h0
def jH (n:Nat) (a0:List UInt8) (w0:Int):Option (Bool):=
 (wu n a0 (rn w0)).bind fun k1=>some k1
theorem F9 (n:Nat):∀(a0:List UInt8) (w0:Int) {r:Bool},jH n a0 w0=some r→aC X.E 67 [sE a0,pl 0] [some (.cells [.d (.v (.int .i32 w0))])] (bE r) [.cells [.d (.v (.int .i32 w0))]]:=by
 intro a0 w0 r h0;rw[jH] at h0;refine .n Tryz.func67 (fun L ks low K hl hL hlen hK=>?_);refine .a [] T [] ?_;obtain⟨k1,hk1,h0⟩:=bnd h0;refine .a [.call [] (bE k1) []] (A (LG n _ _ hk1) T) [(3,bE k1)] ?_;cases h0;exact .rt hK
def dJ (n:Nat) (a0:List (List UInt8)) (w0:Int):Option (Int):=
 bn (bI (fun(s3:Unit) (i2:Nat) (x5:List UInt8)=>((jH n x5 w0).bind fun k10=>(if k10=true then some (Sum.inl (i2:Int)) else some (Sum.inr ())):Option (Int⊕Unit))) 0 a0 ()) (fun(s3:Unit)=>some (-1))
theorem jX (n:Nat):∀(a0:List (List UInt8)) (w0:Int) {r:Int},dJ n a0 w0=some r→aC X.E 69 [lE 1 (aH a0),.clo 67 [] [pl 0]] [some (.cells [.d (.v (.int .i32 w0))])] (iE r) [.cells [.d (.v (.int .i32 w0))]]:=by
 intro a0 w0 r h0;rw[dJ] at h0;refine .n Tryz.func69 (fun L ks low K hl hL hlen hK=>?_);refine .a [] T [] ?_;refine .a [.v (a0.length:Int)] (A (dZ.len' a0) T) [(7,iE (a0.length:Int)),(8,iE 0)] ?_;refine .sn 0 dZ a0 (by kernel_rfl) (fun hb1=>?_);refine .lI h0 rfl [0,1,7] (fun i2 s3=>[(8,iE (i2:Int))]) n2 n2 [] (by kernel_rfl) (fun i2 s3 q4 hd6 Xh h0=>?_);refine .a [] T [(9,dE ((i2:Int)<(a0.length:Int)))] ?_;refine .lc hd6 rfl (by kernel_rfl) (fun x5 WL fQ hx5 hd7 sW=>?_) (fun fQ=>?_)
 ·subst fQ;obtain⟨y1,h1,hw1,hn1⟩:=aZ h0;refine .a [] T [(5,iE (i2:Int))] ?_;obtain⟨k10,hk10,h1⟩:=bnd h1;refine .a [.cs [.s x5],.call [.low 0] (bE k10) [.cells [.d (.v (.int .i32 w0))]]] (A (dZ.iV hx5) (A (F9 n _ _ hk10) T)) [(16,bE k10)] ?_;refine .jT h1 (fun bG h1=>?_) (fun bG h1=>?_)
  ·refine .a [] T [(4,iE (i2:Int))] ?_;cases h1;cases hw1 _ rfl;exact .rt hK
  ·refine .a [.v ((i2+1:Nat):Int)] (A (wn (i:=i2) (by omega)) T) [(8,iE ((i2+1:Nat):Int))] ?_;cases h1;exact .nL rfl (i2+1) _ hd7 sW (hn1 _ rfl) [] (by kernel_rfl)
 ·subst fQ;have h0:=bH h0;refine .a [] T [(4,iE (-1))] ?_;cases h0;exact .rt hK
def bf (n:Nat) (a0:List (List UInt8)) (w0:Int):Option (Bool):=
 (dJ n a0 w0).bind fun k1=>some (decide (k1≥0))
theorem jI (n:Nat):∀(a0:List (List UInt8)) (w0:Int) {r:Bool},bf n a0 w0=some r→aC X.E 31 [lE 1 (aH a0),.clo 67 [] [pl 0]] [some (.cells [.d (.v (.int .i32 w0))])] (bE r) [.cells [.d (.v (.int .i32 w0))]]:=by
 intro a0 w0 r h0;rw[bf] at h0;refine .n Tryz.func31 (fun L ks low K hl hL hlen hK=>?_);refine .a [] T [] ?_;obtain⟨k1,hk1,h0⟩:=bnd h0;refine .a [.call [.low 0] (iE k1) [.cells [.d (.v (.int .i32 w0))]]] (A (jX n _ _ hk1) T) [(4,dE (k1≥0))] ?_;cases h0;exact .rt hK
def qw (n:Nat) (a0:Core):Option ((List UInt8)×Bool):=
 (qp n a0).bind fun k1=>(if(!k1)=true then some ([],false) else(lS n a0).bind fun k3=>iterM n (fun(s4:Int)=>((if s4≤122 then(bf n k3 s4).bind fun k7=>(if(!k7)=true then some (Sum.inl ((rn s4),true)) else some (Sum.inr (IntKind.i32.wrap (s4+1)))) else some (Sum.inl ([],false))):Option (((List UInt8)×Bool)⊕Int))) 97)
theorem JV (n:Nat):∀(a0:Core) {r:(List UInt8)×Bool},qw n a0=some r→aC X.E 30 [aE (aI a0)] [] (.dU [sE r.1,bE r.2]) []:=by
 intro a0 r h0;rw[qw] at h0;refine .n Tryz.func30 (fun L ks low K hl hL hlen hK=>?_);refine .af [] T [(1,pw 1)] [.o 1 (.cells ((aI a0).map .d))] ?_;obtain⟨k1,hk1,h0⟩:=bnd h0;refine .a [.call [] (bE k1) []] (A (JU n _ hk1) T) [(8,bE (!k1))] ?_;refine .jT h0 (fun hc2 h0=>?_) (fun hc2 h0=>?_)
 ·refine .a [] T [(2,sE []),(3,bE false)] ?_;cases h0;exact .rt hK
 ·obtain⟨k3,hk3,h0⟩:=bnd h0;refine .a [.call [] (lE 1 (aH k3)) []] (A (Aq n _ hk3) T) [(4,lE 1 (aH k3))] ?_;refine .af [] T [(5,pw 5)] [.o 5 (.cells [.d (.v (.int .i32 97))])] ?_;refine .it h0 rfl [4,5] (fun s4=>[]) (fun s4=>[.c 5 0 (.d (.v (.int .i32 s4)))]) n1 [] (by kernel_rfl) (fun nk5 s4 h0=>?_);obtain⟨y1,h1,hw1,hn1⟩:=bV h0;refine .a [] T [(12,dE (s4≤122))] ?_;refine .jP h1 (fun hc6 h1=>?_) (fun hc6 h1=>?_)
  ·obtain⟨k7,II,h1⟩:=bnd h1;refine .a [.call [.own 5] (bE k7) [.cells [.d (.v (.int .i32 s4))]]] (A (jI n _ _ II) T) [(18,bE (!k7))] ?_;refine .jT h1 (fun hc8 h1=>?_) (fun hc8 h1=>?_)
   ·refine .a [] T [(2,sE (rn s4)),(3,bE true)] ?_;cases h1;cases hw1 _ rfl;exact .rt hK
   ·refine .a [] T [(21,.d (.v (.int .i32 s4)))] ?_;refine .kp [4,21] [] ?_;refine .dr 5 (by kernel_rfl) ?_;refine .af [] T [(5,pw 5)] [.o 5 (.cells [.d (.v (.int .i32 s4))])] ?_;refine .af [.pl] T [] [.c 5 0 (.d (.v (.int .i32 (IntKind.i32.wrap (s4+1)))))] ?_;cases h1;exact .nI rfl _ (hn1 _ rfl) [] (by kernel_rfl)
  ·refine .a [] T [(2,sE []),(3,bE false)] ?_;cases h1;cases hw1 _ rfl;exact .rt hK
def jL:Nat→Form→Option (Form)
 | 0,_=>none
 | n+1,a0=>(slices_Clone_int n a0.scopes).bind fun k1=>Option.bind (dV (fun(s4:List Form) (i3:Nat) (x6:Form)=>(jL n x6).bind fun k11=>(jm 80 s4 [k11]).bind fun z12=>some z12) 0 a0.kids []) (fun(s4:List Form)=>some (⟨a0.kind,a0.name,a0.n,k1,s4⟩:Form))
theorem Dq (n:Nat):∀(a0:Form) {r:Form},jL n a0=some r→aC X.E 72 [aE (ak a0)] [] (aE (ak r)) []:=by
 induction n with
 | zero=>intro a0 r h; cases h
 | succ n ih=>
  intro a0 r h0;rw[jL] at h0;refine .n Tryz.func72 (fun L ks low K hl hL hlen hK=>?_);refine .af [] T [(1,pw 1),(2,pw 2)] [.o 1 (.cells ((ak a0).map .d)),.o 2 (.cells [iE 0,sE [],iE 0,fE 1 (aj []),fE 5 (ah [])])] ?_;obtain⟨k1,hk1,h0⟩:=bnd h0;refine .ad mixed [(8,[.call [] (lE 1 (aj k1)) []])] [] (A (uY n _ hk1) T) [(3,pw 3)] [.o 3 (.cells [iE a0.kind,sE a0.name,iE a0.n,lE 1 (aj k1),fE 5 (ah [])])] [] ?_;refine .a [.v (a0.kids.length:Int)] (A (ay.len' a0.kids) T) [(17,lE 5 (ah a0.kids)),(18,iE (a0.kids.length:Int)),(19,iE 0)] ?_;refine .sn 17 ay a0.kids (by kernel_rfl) (fun hb2=>?_);refine .oc 3 4 100028 32 (by kernel_rfl) ?_;refine .lL h0 rfl [2,3,17,18] (fun i3 s4=>[(19,iE (i3:Int))]) (fun i3 s4=>[.c 3 4 (.gs (.own 100028) 5 (ah s4)),.o 100028 (.tok (ah s4).length 32)]) n2 [] (by kernel_rfl) (fun i3 s4 q5 hd7 hi9 h0=>?_);refine .a [] T [(20,dE ((i3:Int)<(a0.kids.length:Int)))] ?_;refine .lc hd7 rfl (by kernel_rfl) (fun x6 MS iR hx6 hd8 jG=>?_) (fun iR=>?_)
  ·subst iR;obtain⟨y1,h1,hn1⟩:=bU h0;refine .af [.cs (ak x6)] (A (ay.iV hx6) T) [(5,pw 5)] [.o 5 (.cells ((ak x6).map .d))] ?_;obtain⟨k11,Am,h1⟩:=bnd h1;obtain⟨z12,JW,h1⟩:=bnd h1;refine .ad mixed [(3,[.call [] (aE (ak k11)) []]),(4,[.sv (ah [k11])]),(5,[.sv (ah z12)])] [((ah s4).length:Int)] (A (ih _ Am) (A (ay.lit [k11]) (A (ay.ap JW) T))) [] [.c 3 4 (.gs (.own 100028) 5 (ah z12)),.o 100028 (.tok (ah z12).length 32)] [] ?_;refine .a [.v ((i3+1:Nat):Int)] (A (wn (i:=i3) (by omega)) T) [(19,iE ((i3+1:Nat):Int))] ?_;cases h1;refine .kp [2,3,17,18,19] [] ?_;refine .dr 5 (by kernel_rfl) ?_;exact .nL rfl (i3+1) _ hd8 jG hn1 [] (by kernel_rfl)
  ·subst iR;have h0:=dF h0;refine .af [] T [] [.o 2 (.cells [iE a0.kind,sE a0.name,iE a0.n,lE 1 (aj k1),.gs (.own 100028) 5 (ah s4)])] ?_;cases h0;exact .rt hK
def BU (n:Nat) (a0:Form):Option (Form×Bool):=
 (jO n a0).bind fun k1=>(if(!k1)=true then some ((⟨0,[],0,[],[]⟩:Form),false) else(jL n a0).bind fun k3=>some (k3,true))
theorem Qm (n:Nat):∀(a0:Form) {r:Form×Bool},BU n a0=some r→aC X.E 34 [aE (ak a0)] [] (.dU [aE (ak r.1),bE r.2]) []:=by
 intro a0 r h0;rw[BU] at h0;refine .n Tryz.func34 (fun L ks low K hl hL hlen hK=>?_);refine .af [] T [(1,pw 1),(2,pw 2)] [.o 1 (.cells ((ak a0).map .d)),.o 2 (.cells [iE 0,sE [],iE 0,fE 1 (aj []),fE 5 (ah [])])] ?_;obtain⟨k1,hk1,h0⟩:=bnd h0;refine .a [.call [] (bE k1) []] (A (qm n _ hk1) T) [(6,bE (!k1))] ?_;refine .jT h0 (fun hc2 h0=>?_) (fun hc2 h0=>?_)
 ·refine .a [] T [(3,bE false)] ?_;cases h0;exact .rt hK
 ·obtain⟨k3,hk3,h0⟩:=bnd h0;refine .af [.call [] (aE (ak k3)) []] (A (Dq n _ hk3) T) [(3,bE true)] [.o 2 (.cells ((ak k3).map .d))] ?_;cases h0;exact .rt hK
def EL (n:Nat) (a0:List Form):Option (Form):=
 some (⟨3,[],0,[],a0⟩:Form)
theorem Gf (n:Nat):∀(a0:List Form) {r:Form},EL n a0=some r→aC X.E 76 [lE 5 (ah a0)] [] (aE (ak r)) []:=by
 intro a0 r h0;rw[EL] at h0;refine .n Tryz.func76 (fun L ks low K hl hL hlen hK=>?_);refine .af [] T [(2,pw 2)] [.o 2 (.cells [iE 0,sE [],iE 0,fE 1 (aj []),fE 5 (ah [])])] ?_;refine .af [] T [] [.c 2 0 (iE 3),.c 2 4 (lE 5 (ah a0))] ?_;cases h0;exact .rt hK
def jg (n:Nat) (a0:List UInt8) (a1:List Int):Option (Form):=
 (slices_Clone_int n a1).bind fun k1=>some (⟨1,a0,0,k1,[]⟩:Form)
theorem og (n:Nat):∀(a0:List UInt8) (a1:List Int) {r:Form},jg n a0 a1=some r→aC X.E 74 [sE a0,lE 1 (aj a1)] [] (aE (ak r)) []:=by
 intro a0 a1 r h0;rw[jg] at h0;refine .n Tryz.func74 (fun L ks low K hl hL hlen hK=>?_);refine .af [] T [(4,pw 4)] [.o 4 (.cells [iE 0,sE [],iE 0,fE 1 (aj []),fE 5 (ah [])])] ?_;obtain⟨k1,hk1,h0⟩:=bnd h0;refine .af [.call [] (lE 1 (aj k1)) []] (A (uY n _ hk1) T) [] [.c 4 0 (iE 1),.c 4 1 (sE a0),.c 4 3 (lE 1 (aj k1))] ?_;cases h0;exact .rt hK
theorem WQ (i:Int) (h0:-9223372036854775808≤i) (h1:i≤9223372036854775807):aC X.E 75 [iE i] [] (sE (Lib.itoa i)) []:=by
 refine aC.U4 (vs:=[.int .i64 i]) Tryz.func75 rfl rfl (fun _=>rfl) (fun _=>rfl) (fun cx st w hr=>?_);obtain⟨v8,e8,z8,b8,p8⟩:=hr.TG (g:=3) rfl;refine(Tryz.strconv_Itoa i h0 h1 w (by unfold Lib.TabIs World.var?; rw[YO]; simp only[Option.bind_some,b8,p8])).mono ?_;rintro e w' ⟨rfl,k,os,rfl⟩;exact⟨rfl,bgN _ _ _⟩
def strconv_Itoa (n:Nat) (a0:Int):Option (List UInt8):=if -9223372036854775808≤a0∧a0≤9223372036854775807 then some (Lib.itoa a0) else none
theorem JX (n:Nat):∀(a0:Int) {r:List UInt8},strconv_Itoa n a0=some r→aC X.E 75 [iE a0] [] (sE r) []:=by
 intro a0 r h0;rw[strconv_Itoa] at h0;split at h0
 ·rename_i hs; cases h0; exact WQ a0 hs.1 hs.2
 ·cases h0
def pR (n:Nat) (a0:Int) (w0:List UInt8):Option (Form):=
 (strconv_Itoa n a0).bind fun k1=>(N8 w0 k1).bind fun z2=>(jg n z2 []).bind fun k3=>some k3
theorem Dt (n:Nat):∀(a0:Int) (w0:List UInt8) {r:Form},pR n a0 w0=some r→aC X.E 73 [iE a0,pl 0] [some (.cells [sE w0])] (aE (ak r)) [.cells [sE w0]]:=by
 intro a0 w0 r h0;rw[pR] at h0;refine .n Tryz.func73 (fun L ks low K hl hL hlen hK=>?_);refine .af [] T [(3,pw 3)] [.o 3 (.cells [iE 0,sE [],iE 0,fE 1 (aj []),fE 5 (ah [])])] ?_;obtain⟨k1,hk1,h0⟩:=bnd h0;obtain⟨z2,hz2,h0⟩:=bnd h0;obtain⟨k3,hk3,h0⟩:=bnd h0;refine .ad mixed [(2,[.call [] (sE k1) []]),(3,[.st z2]),(4,[.call [] (aE (ak k3)) []])] [] (A (JX n _ hk1) (A (FV hz2) (A (og n _ _ hk3) T))) [] [.o 3 (.cells ((ak k3).map .d))] [] ?_;cases h0;exact .rt hK
theorem TL:aC X.E 76 [nE] [] (.agg [iE 3,sE [],iE 0,fE 1 (aj []),fE 5 (ah [])]) []:=by
 refine .n Tryz.func76 (fun L ks low K hl hL hlen hK=>?_);refine .nl 0 5 rfl ?_;refine .af [] T [(2,pw 2)] [.o 2 (.cells [iE 0,sE [],iE 0,fE 1 (aj []),fE 5 (ah [])])] ?_;refine .af [] T [] [.c 2 0 (iE 3),.c 2 4 (fE 5 (ah []))] ?_;exact .agG rfl rfl (by kernel_rfl) hK
def uy:Nat→Core→(List UInt8)→Option (Form)
 | 0,_,_=>none
 | n+1,a0,a1=>Option.bind (dV (fun(s3:List Form) (i2:Nat) (x5:Core)=>(uy n x5 a1).bind fun k10=>(jm 80 s3 [k10]).bind fun z11=>some z11) 0 a0.kids []) (fun(s3:List Form)=>bn ((if a0.kind=1 then(pR n a0.id a1).bind fun k15=>some (Sum.inl k15) else(if a0.kind=2 then(jg n a0.name []).bind fun k17=>some (Sum.inl k17) else(if a0.kind=3 then some (Sum.inl (⟨2,[],a0.n,[],[]⟩:Form)) else(if a0.kind=4 then(jg n [113,117,111,116,101] []).bind fun k20=>(jL n a0.data).bind fun k21=>(EL n [k20,k21]).bind fun k22=>some (Sum.inl k22) else(if a0.kind=5 then Option.bind (dV (fun(s26:List Form) (i25:Nat) (x28:Int)=>(pR n x28 a1).bind fun k33=>(jm 80 s26 [k33]).bind fun z34=>some z34) 0 a0.ids []) (fun(s26:List Form)=>(jg n [108,97,109,98,100,97] []).bind fun Du=>(gW s3 0).bind fun e36=>(EL n [Du,(⟨3,[],0,[],s26⟩:Form),e36]).bind fun k37=>some (Sum.inl k37)) else(if a0.kind=7 then(jg n [105,102] []).bind fun k39=>(jm 80 [k39] s3).bind fun z40=>some (Sum.inr z40) else some (Sum.inr s3))))))):Option (Form⊕(List Form))) (fun(mJ:List Form)=>(EL n mJ).bind fun k13=>some k13))
theorem Qn (n:Nat):∀(a0:Core) (a1:List UInt8) {r:Form},uy n a0 a1=some r→aC X.E 35 [aE (aI a0),sE a1] [] (aE (ak r)) []:=by
 induction n with
 | zero=>intro a0 a1 r h; cases h
 | succ n ih=>
  intro a0 a1 r h0;rw[uy] at h0;refine .n Tryz.func35 (fun L ks low K hl hL hlen hK=>?_);refine .af [] T [(2,pw 2),(3,pw 3),(4,pw 4)] [.o 2 (.cells ((aI a0).map .d)),.o 3 (.cells [sE a1]),.o 4 (.cells [iE 0,sE [],iE 0,fE 1 (aj []),fE 5 (ah [])])] ?_;refine .a [] T [(5,.clo 73 [] [pw 3])] ?_;refine .a [.sv (ah [])] (A (ay.lit []) T) [(6,fE 5 (ah []))] ?_;refine .a [.v (a0.kids.length:Int)] (A (bM.len' a0.kids) T) [(15,lE 11 (aG a0.kids)),(16,iE (a0.kids.length:Int)),(17,iE 0)] ?_;refine .sn 15 bM a0.kids (by kernel_rfl) (fun hb1=>?_);refine .ow 6 100026 32 [2,3,4,5,15,16,17] rfl rfl (by kernel_rfl) ?_;refine .lL h0 rfl [2,3,4,5,15,16] (fun i2 s3=>[(6,.gs (.own 100026) 5 (ah s3)),(17,iE (i2:Int))]) (fun i2 s3=>[.o 100026 (.tok (ah s3).length 32)]) n2 [] (by kernel_rfl) (fun i2 s3 q4 hd6 Xh h0=>?_);refine .a [] T [(18,dE ((i2:Int)<(a0.kids.length:Int)))] ?_;refine .lc hd6 rfl (by kernel_rfl) (fun x5 WL fQ hx5 hd7 sW=>?_) (fun fQ=>?_)
  ·subst fQ;obtain⟨y1,h1,hn1⟩:=bU h0;refine .af [.cs (aI x5)] (A (bM.iV hx5) T) [(8,pw 8)] [.o 8 (.cells ((aI x5).map .d))] ?_;obtain⟨k10,hk10,h1⟩:=bnd h1;obtain⟨z11,Az,h1⟩:=bnd h1;refine .aq [.call [] (aE (ak k10)) [],.sv (ah [k10]),.sv (ah z11)] [((ah s3).length:Int)] (A (ih _ _ hk10) (A (ay.lit [k10]) (A (ay.ap Az) T))) [(6,.gs (.own 100026) 5 (ah z11))] [.o 100026 (.tok (ah z11).length 32)] [] ?_;refine .a [.v ((i2+1:Nat):Int)] (A (wn (i:=i2) (by omega)) T) [(17,iE ((i2+1:Nat):Int))] ?_;cases h1;refine .kp [2,3,4,5,6,15,16,17] [] ?_;refine .dr 8 (by kernel_rfl) ?_;exact .nL rfl (i2+1) _ hd7 sW hn1 [] (by kernel_rfl)
  ·subst fQ;have h0:=dF h0;refine .a [] T [(29,iE a0.kind)] ?_;refine .bSB h0 rfl [4] (fun mJ=>[(6,lE 5 (ah mJ))]) n1 n1 (fun mJ h0=>?_) (fun y1 h1 hj1 hw1=>?_)
   ·obtain⟨k13,mF,h0⟩:=bnd h0;refine .af [.call [] (aE (ak k13)) []] (A (Gf n _ mF) T) [] [.o 4 (.cells ((ak k13).map .d))] ?_;cases h0;exact .rt hK
   ·refine .a [] T [(30,dE (a0.kind=1))] ?_;refine .jP h1 (fun mG h1=>?_) (fun mG h1=>?_)
    ·obtain⟨k15,qo,h1⟩:=bnd h1;refine .af [.call [.own 3] (aE (ak k15)) [.cells [sE a1]]] (A (Dt n _ _ qo) T) [] [.o 4 (.cells ((ak k15).map .d))] ?_;cases h1;cases hw1 _ rfl;exact .rt hK
    ·refine .a [] T [(36,dE (a0.kind=2))] ?_;refine .jP h1 (fun hc16 h1=>?_) (fun hc16 h1=>?_)
     ·obtain⟨k17,CJ,h1⟩:=bnd h1;refine .af [.call [] (aE (ak k17)) []] (A (og n _ _ CJ) T) [] [.o 4 (.cells ((ak k17).map .d))] ?_;cases h1;cases hw1 _ rfl;exact .rt hK
     ·refine .a [] T [(41,dE (a0.kind=3))] ?_;refine .jP h1 (fun hc18 h1=>?_) (fun hc18 h1=>?_)
      ·refine .af [] T [] [.c 4 0 (iE 2),.c 4 2 (iE a0.n)] ?_;cases h1;cases hw1 _ rfl;exact .rt hK
      ·refine .a [] T [(46,dE (a0.kind=4))] ?_;refine .jP h1 (fun hc19 h1=>?_) (fun hc19 h1=>?_)
       ·obtain⟨k20,Gg,h1⟩:=bnd h1;obtain⟨k21,JY,h1⟩:=bnd h1;obtain⟨k22,F8,h1⟩:=bnd h1;refine .ad mixed [(0,[.call [] (aE (ak k20)) []]),(3,[.call [] (aE (ak k21)) []]),(4,[.sv (ah [k20,k21])]),(5,[.call [] (aE (ak k22)) []])] [] (A (og n _ _ Gg) (A (Dq n _ JY) (A (ay.lit [k20,k21]) (A (Gf n _ F8) T)))) [] [.o 4 (.cells ((ak k22).map .d))] [] ?_;cases h1;cases hw1 _ rfl;exact .rt hK
       ·refine .a [] T [(54,dE (a0.kind=5))] ?_;refine .jP h1 (fun TM h1=>?_) (fun TM h1=>?_)
        ·refine .af [.b true,.call [] (.agg [iE 3,sE [],iE 0,fE 1 (aj []),fE 5 (ah [])]) []] (A TL T) [(9,pw 9)] [.o 9 (.cells [iE 3,sE [],iE 0,fE 1 (aj []),fE 5 (ah [])])] ?_;refine .a [.v (a0.ids.length:Int)] (A (aO.len' a0.ids) T) [(58,lE 1 (aj a0.ids)),(59,iE (a0.ids.length:Int)),(60,iE 0)] ?_;refine .sn 58 aO a0.ids (by kernel_rfl) (fun acZ=>?_);refine .oc 9 4 100070 32 (by kernel_rfl) ?_;refine .lL h1 rfl [4,5,6,9,58,59] (fun i25 s26=>[(60,iE (i25:Int))]) (fun i25 s26=>[.c 9 4 (.gs (.own 100070) 5 (ah s26)),.o 100070 (.tok (ah s26).length 32)]) n2 [] (by kernel_rfl) (fun i25 s26 q27 hd29 aiO h1=>?_);refine .a [] T [(61,dE ((i25:Int)<(a0.ids.length:Int)))] ?_;refine .lc hd29 rfl (by kernel_rfl) (fun x28 aiP hc32 hx28 agW afh=>?_) (fun hc32=>?_)
         ·subst hc32;obtain⟨y2,h2,hn2⟩:=bU h1;refine .a [.cs [.v (.int .i64 x28)]] (A (aO.iV hx28) T) [(11,iE x28)] ?_;obtain⟨k33,LH,h2⟩:=bnd h2;obtain⟨z34,ac0,h2⟩:=bnd h2;refine .ad mixed [(4,[.call [.own 3] (aE (ak k33)) [.cells [sE a1]]]),(5,[.sv (ah [k33])]),(6,[.sv (ah z34)])] [((ah s26).length:Int)] (A (Dt n _ _ LH) (A (ay.lit [k33]) (A (ay.ap ac0) T))) [] [.c 9 4 (.gs (.own 100070) 5 (ah z34)),.o 100070 (.tok (ah z34).length 32)] [] ?_;refine .a [.v ((i25+1:Nat):Int)] (A (wn (i:=i25) (by omega)) T) [(60,iE ((i25+1:Nat):Int))] ?_;cases h2;exact .nL rfl (i25+1) _ agW afh hn2 [] (by kernel_rfl)
         ·subst hc32;have h1:=dF h1;obtain⟨Du,JZ,h1⟩:=bnd h1;obtain⟨e36,ac1,h1⟩:=bnd h1;obtain⟨k37,TN,h1⟩:=bnd h1;refine .ad mixed [(0,[.call [] (aE (ak Du)) []]),(3,[.cs (ak e36)]),(5,[.sv (ah [Du,(⟨3,[],0,[],s26⟩:Form),e36])]),(6,[.call [] (aE (ak k37)) []])] [] (A (og n _ _ JZ) (A (ay.idx ac1) (A (ay.lit [Du,(⟨3,[],0,[],s26⟩:Form),e36]) (A (Gf n _ TN) T)))) [] [.o 4 (.cells ((ak k37).map .d))] [] ?_;cases h1;cases hw1 _ rfl;exact .rt hK
        ·refine .a [] T [(80,dE (a0.kind=7))] ?_;refine .jP h1 (fun hc38 h1=>?_) (fun hc38 h1=>?_)
         ·obtain⟨k39,YV,h1⟩:=bnd h1;obtain⟨z40,agX,h1⟩:=bnd h1;refine .af [.call [] (aE (ak k39)) [],.sv (ah [k39]),.sv (ah z40)] (A (og n _ _ YV) (A (ay.lit [k39]) (A (ay.ap agX) T))) [(6,.gs (.own 100085) 5 (ah z40))] [.o 100085 (.tok (ah z40).length 32)] ?_;cases h1;refine .kp [4,6] [6] ?_;refine .dr 100085 (by kernel_rfl) ?_;exact .lg (hj1 _ rfl) []
         ·cases h1;exact .lg (hj1 _ rfl) [6]
def iZ (n:Nat) (a0:List UInt8):Option (Bool):=
 (slices_Contains_string n RG a0).bind fun k1=>some k1
theorem EM (n:Nat):∀(a0:List UInt8) {r:Bool},iZ n a0=some r→aC X.E 32 [sE a0] [] (bE r) []:=by
 intro a0 r h0;rw[iZ] at h0;refine .n Tryz.func32 (fun L ks low K hl hL hlen hK=>?_);refine .a [] T [] ?_;obtain⟨k1,hk1,h0⟩:=bnd h0;refine .a [.call [] (bE k1) []] (A (nY n _ _ hk1) T) [(2,bE k1)] ?_;cases h0;exact .rt hK
def dH (n:Nat) (a0:List (List UInt8)):Option (Int):=
 bn (bI (fun(s3:Unit) (i2:Nat) (x5:List UInt8)=>((iZ n x5).bind fun k10=>(if k10=true then some (Sum.inl (i2:Int)) else some (Sum.inr ())):Option (Int⊕Unit))) 0 a0 ()) (fun(s3:Unit)=>some (-1))
theorem jQ (n:Nat):∀(a0:List (List UInt8)) {r:Int},dH n a0=some r→aC X.E 69 [lE 1 (aH a0),.clo 32 [] []] [] (iE r) []:=by
 intro a0 r h0;rw[dH] at h0;refine .n Tryz.func69 (fun L ks low K hl hL hlen hK=>?_);refine .a [] T [] ?_;refine .a [.v (a0.length:Int)] (A (dZ.len' a0) T) [(7,iE (a0.length:Int)),(8,iE 0)] ?_;refine .sn 0 dZ a0 (by kernel_rfl) (fun hb1=>?_);refine .lI h0 rfl [0,1,7] (fun i2 s3=>[(8,iE (i2:Int))]) n2 n2 [] (by kernel_rfl) (fun i2 s3 q4 hd6 Xh h0=>?_);refine .a [] T [(9,dE ((i2:Int)<(a0.length:Int)))] ?_;refine .lc hd6 rfl (by kernel_rfl) (fun x5 WL fQ hx5 hd7 sW=>?_) (fun fQ=>?_)
 ·subst fQ;obtain⟨y1,h1,hw1,hn1⟩:=aZ h0;refine .a [] T [(5,iE (i2:Int))] ?_;obtain⟨k10,hk10,h1⟩:=bnd h1;refine .a [.cs [.s x5],.call [] (bE k10) []] (A (dZ.iV hx5) (A (EM n _ hk10) T)) [(16,bE k10)] ?_;refine .jT h1 (fun bG h1=>?_) (fun bG h1=>?_)
  ·refine .a [] T [(4,iE (i2:Int))] ?_;cases h1;cases hw1 _ rfl;exact .rt hK
  ·refine .a [.v ((i2+1:Nat):Int)] (A (wn (i:=i2) (by omega)) T) [(8,iE ((i2+1:Nat):Int))] ?_;cases h1;exact .nL rfl (i2+1) _ hd7 sW (hn1 _ rfl) [] (by kernel_rfl)
 ·subst fQ;have h0:=bH h0;refine .a [] T [(4,iE (-1))] ?_;cases h0;exact .rt hK
def bJ (n:Nat) (a0:List (List UInt8)):Option (Bool):=
 (dH n a0).bind fun k1=>some (decide (k1≥0))
theorem jB (n:Nat):∀(a0:List (List UInt8)) {r:Bool},bJ n a0=some r→aC X.E 31 [lE 1 (aH a0),.clo 32 [] []] [] (bE r) []:=by
 intro a0 r h0;rw[bJ] at h0;refine .n Tryz.func31 (fun L ks low K hl hL hlen hK=>?_);refine .a [] T [] ?_;obtain⟨k1,hk1,h0⟩:=bnd h0;refine .a [.call [] (iE k1) []] (A (jQ n _ hk1) T) [(4,dE (k1≥0))] ?_;cases h0;exact .rt hK
def oq (n:Nat) (a0:Core):Option (Form×Bool):=
 (qw n a0).bind fun k1=>Option.bind ((if(!k1.2)=true then some true else(lS n a0).bind fun k7=>(bJ n k7).bind fun k8=>some k8):Option (Bool)) (fun(o2:Bool)=>(if o2=true then some ((⟨0,[],0,[],[]⟩:Form),false) else(uy n a0 k1.1).bind fun k4=>(BU n k4).bind fun k5=>some (k5.1,k5.2)))
theorem Hz (n:Nat):∀(a0:Core) {r:Form×Bool},oq n a0=some r→aC X.E 8 [aE (aI a0)] [] (.dU [aE (ak r.1),bE r.2]) []:=by
 intro a0 r h0;rw[oq] at h0;refine .n Tryz.func8 (fun L ks low K hl hL hlen hK=>?_);refine .af [] T [(1,pw 1),(2,pw 2)] [.o 1 (.cells ((aI a0).map .d)),.o 2 (.cells [iE 0,sE [],iE 0,fE 1 (aj []),fE 5 (ah [])])] ?_;obtain⟨k1,hk1,h0⟩:=bnd h0;refine .a [.call [] (.dU [sE k1.1,bE k1.2]) []] (A (JV n _ hk1) T) [(4,sE k1.1),(5,bE k1.2)] ?_;refine .bP h0 rfl [1,2,4] (fun o2=>[(17,bE o2)]) n1 n1 (fun o2 h0=>?_) (fun y1 h1 hj1=>?_)
 ·refine .jT h0 (fun hc3 h0=>?_) (fun hc3 h0=>?_)
  ·refine .a [] T [(3,bE false)] ?_;cases h0;exact .rt hK
  ·obtain⟨k4,hk4,h0⟩:=bnd h0;obtain⟨k5,hk5,h0⟩:=bnd h0;refine .af [.call [] (aE (ak k4)) [],.call [] (.dU [aE (ak k5.1),bE k5.2]) []] (A (Qn n _ _ hk4) (A (Qm n _ hk5) T)) [(3,bE k5.2)] [.o 2 (.cells ((ak k5.1).map .d))] ?_;cases h0;exact .rt hK
 ·by_cases g6:(!k1.2)=true
  ·have h1:=aJ g6 h1;refine .a (rb 4 true []) (R 4 g6 T) [(17,bE true)] ?_;cases h1;exact .lg hj1 []
  ·have h1:=aK g6 h1;obtain⟨k7,II,h1⟩:=bnd h1;obtain⟨k8,hk8,h1⟩:=bnd h1;refine .a [.b false,.b false,.call [] (lE 1 (aH k7)) [],.b false,.call [] (bE k8) [],.b false] (A (Bool.eq_false_iff.2 g6) (A (A (Bool.eq_false_iff.2 g6) (Aq n _ II)) (A (A (Bool.eq_false_iff.2 g6) (jB n _ hk8)) (A (Bool.eq_false_iff.2 g6) T)))) [(17,bE k8)] ?_;cases h1;exact .lg hj1 []
def pU:Nat→Core→(List UInt8)→Option (Bool)
 | 0,_,_=>none
 | n+1,a0,a1=>Option.bind ((if a0.kind=4 then(lQ n a0.data a1).bind fun k15=>some (decide (k15>0)) else some false):Option (Bool)) (fun(o1:Bool)=>(if o1=true then some true else bn (bI (fun(s4:Unit) (i3:Nat) (x6:Core)=>((pU n x6 a1).bind fun k12=>(if k12=true then some (Sum.inl true) else some (Sum.inr ())):Option (Bool⊕Unit))) 0 a0.kids ()) (fun(s4:Unit)=>some false)))
theorem LJ (n:Nat):∀(a0:Core) (a1:List UInt8) {r:Bool},pU n a0 a1=some r→aC X.E 18 [aE (aI a0),sE a1] [] (bE r) []:=by
 induction n with
 | zero=>intro a0 a1 r h; cases h
 | succ n ih=>
  intro a0 a1 r h0;rw[pU] at h0;refine .n Tryz.func18 (fun L ks low K hl hL hlen hK=>?_);refine .af [] T [(2,pw 2)] [.o 2 (.cells ((aI a0).map .d))] ?_;refine .bP h0 rfl [1,2] (fun o1=>[(15,bE o1)]) n1 n1 (fun o1 h0=>?_) (fun y1 h1 hj1=>?_)
  ·refine .jT h0 (fun hc2 h0=>?_) (fun hc2 h0=>?_)
   ·refine .a [] T [(4,bE true)] ?_;cases h0;exact .rt hK
   ·refine .a [] T [(5,iE 0)] ?_;refine .lI h0 rfl [1,2] (fun i3 s4=>[(5,iE (i3:Int))]) n2 n2 [] (by kernel_rfl) (fun i3 s4 q5 hd7 hi9 h0=>?_);refine .a [.v (a0.kids.length:Int)] (A (bM.len' a0.kids) T) [(18,lE 11 (aG a0.kids)),(20,dE ((i3:Int)<(a0.kids.length:Int)))] ?_;refine .sn 18 bM a0.kids (by kernel_rfl) (fun AA=>?_);refine .lc hd7 rfl (by kernel_rfl) (fun x6 MS bG hx6 hd8 jG=>?_) (fun bG=>?_)
    ·subst bG;obtain⟨y1,h1,hw1,hn1⟩:=aZ h0;obtain⟨k12,hk12,h1⟩:=bnd h1;refine .a [.cs (aI x6),.call [] (bE k12) []] (A (bM.iV hx6) (A (ih _ _ hk12) T)) [(29,bE k12)] ?_;refine .jT h1 (fun hc13 h1=>?_) (fun hc13 h1=>?_)
     ·refine .a [] T [(4,bE true)] ?_;cases h1;cases hw1 _ rfl;exact .rt hK
     ·refine .a [.v ((i3+1:Nat):Int)] (A (wn (i:=i3) (by omega)) T) [(5,iE ((i3+1:Nat):Int))] ?_;cases h1;exact .nL rfl (i3+1) _ hd8 jG (hn1 _ rfl) [] (by kernel_rfl)
    ·subst bG;have h0:=bH h0;refine .a [] T [(4,bE false)] ?_;cases h0;exact .rt hK
  ·by_cases g14:a0.kind=4
   ·have h1:=aJ g14 h1;obtain⟨k15,qo,h1⟩:=bnd h1;refine .a (rb 4 true [.call [] (iE k15) [],.b true,.b true]) (R 3 (dt g14) (A (A (dt g14) (ql n _ _ qo)) (R 2 (dt g14) T))) [(15,dE (k15>0))] ?_;cases h1;exact .lg hj1 []
   ·have h1:=aK g14 h1;refine .a (rb 6 false []) (R 6 (df g14) T) [(15,bE false)] ?_;cases h1;exact .lg hj1 []
def iO:Nat→Form→Option (Form)
 | 0,_=>none
 | n+1,a0=>(jm 8 [] a0.scopes).bind fun z1=>Option.bind (dV (fun(s3:List Form) (i2:Nat) (x5:Form)=>(iO n x5).bind fun k11=>(jm 80 s3 [k11]).bind fun z12=>some z12) 0 a0.kids []) (fun(s3:List Form)=>some (⟨a0.kind,a0.name,a0.n,z1,s3⟩:Form))
theorem kX (n:Nat):∀(a0:Form) {r:Form},iO n a0=some r→aC X.E 62 [aE (ak a0)] [] (aE (ak r)) []:=by
 induction n with
 | zero=>intro a0 r h; cases h
 | succ n ih=>
  intro a0 r h0;rw[iO] at h0;refine .n Tryz.func62 (fun L ks low K hl hL hlen hK=>?_);refine .af [] T [(1,pw 1),(2,pw 2)] [.o 1 (.cells ((ak a0).map .d)),.o 2 (.cells [iE 0,sE [],iE 0,fE 1 (aj []),fE 5 (ah [])])] ?_;obtain⟨z1,hz1,h0⟩:=bnd h0;refine .ad mixed [(6,[.sv (aj [])]),(9,[.sv (aj z1)])] [] (A (aO.lit []) (A (aO.ap hz1) T)) [(3,pw 3)] [.o 100014 (.tok (aj z1).length 3),.o 3 (.cells [iE a0.kind,sE a0.name,iE a0.n,.gs (.own 100014) 1 (aj z1),fE 5 (ah [])])] [] ?_;refine .a [] T [(4,iE 0)] ?_;refine .oc 3 4 100032 32 (by kernel_rfl) ?_;refine .lL h0 rfl [1,2,3] (fun i2 s3=>[(4,iE (i2:Int))]) (fun i2 s3=>[.c 3 4 (.gs (.own 100032) 5 (ah s3)),.o 100032 (.tok (ah s3).length 32)]) n2 [] (by kernel_rfl) (fun i2 s3 q4 hd6 Xh h0=>?_);refine .a [.v (a0.kids.length:Int)] (A (ay.len' a0.kids) T) [(18,lE 5 (ah a0.kids)),(20,dE ((i2:Int)<(a0.kids.length:Int)))] ?_;refine .sn 18 ay a0.kids (by kernel_rfl) (fun hb9=>?_);refine .lc hd6 rfl (by kernel_rfl) (fun x5 WL iR hx5 hd7 sW=>?_) (fun iR=>?_)
  ·subst iR;obtain⟨y1,h1,hn1⟩:=bU h0;obtain⟨k11,Am,h1⟩:=bnd h1;obtain⟨z12,JW,h1⟩:=bnd h1;refine .ad mixed [(5,[.cs (ak x5)]),(7,[.call [] (aE (ak k11)) []]),(8,[.sv (ah [k11])]),(9,[.sv (ah z12)])] [((ah s3).length:Int)] (A (ay.iV hx5) (A (ih _ Am) (A (ay.lit [k11]) (A (ay.ap JW) T)))) [] [.c 3 4 (.gs (.own 100032) 5 (ah z12)),.o 100032 (.tok (ah z12).length 32)] [] ?_;refine .a [.v ((i2+1:Nat):Int)] (A (wn (i:=i2) (by omega)) T) [(4,iE ((i2+1:Nat):Int))] ?_;cases h1;exact .nL rfl (i2+1) _ hd7 sW hn1 [] (by kernel_rfl)
  ·subst iR;have h0:=dF h0;refine .af [] T [] [.o 2 (.cells [iE a0.kind,sE a0.name,iE a0.n,.gs (.own 100014) 1 (aj z1),.gs (.own 100032) 5 (ah s3)])] ?_;cases h0;exact .rt hK
def kD:Nat→Core→Option (Core)
 | 0,_=>none
 | n+1,a0=>(jm 8 [] a0.ids).bind fun z1=>(iO n a0.data).bind fun k2=>Option.bind (dV (fun(s4:List Core) (i3:Nat) (x6:Core)=>(kD n x6).bind fun k12=>(jm 168 s4 [k12]).bind fun z13=>some z13) 0 a0.kids []) (fun(s4:List Core)=>some (⟨a0.kind,a0.id,a0.name,a0.n,z1,k2,s4⟩:Core))
theorem GN (n:Nat):∀(a0:Core) {r:Core},kD n a0=some r→aC X.E 128 [aE (aI a0)] [] (aE (aI r)) []:=by
 induction n with
 | zero=>intro a0 r h; cases h
 | succ n ih=>
  intro a0 r h0;rw[kD] at h0;refine .n Tryz.func128 (fun L ks low K hl hL hlen hK=>?_);refine .af [] T [(1,pw 1),(2,pw 2)] [.o 1 (.cells ((aI a0).map .d)),.o 2 (.cells [iE 0,iE 0,sE [],iE 0,fE 1 (aj []),iE 0,sE [],iE 0,fE 1 (aj []),fE 5 (ah []),fE 11 (aG [])])] ?_;obtain⟨z1,hz1,h0⟩:=bnd h0;obtain⟨k2,hk2,h0⟩:=bnd h0;refine .ad mixed [(8,[.sv (aj [])]),(11,[.sv (aj z1)]),(14,[.call [] (aE (ak k2)) []])] [] (A (aO.lit []) (A (aO.ap hz1) (A (kX n _ hk2) T))) [(3,pw 3)] [.o 100016 (.tok (aj z1).length 3),.o 3 (.cells [iE a0.kind,iE a0.id,sE a0.name,iE a0.n,.gs (.own 100016) 1 (aj z1),iE k2.kind,sE k2.name,iE k2.n,lE 1 (aj k2.scopes),lE 5 (ah k2.kids),fE 11 (aG [])])] [] ?_;refine .a [] T [(4,iE 0)] ?_;refine .oc 3 10 100037 37 (by kernel_rfl) ?_;refine .lL h0 rfl [1,2,3] (fun i3 s4=>[(4,iE (i3:Int))]) (fun i3 s4=>[.c 3 10 (.gs (.own 100037) 11 (aG s4)),.o 100037 (.tok (aG s4).length 37)]) n2 [] (by kernel_rfl) (fun i3 s4 q5 hd7 hi9 h0=>?_);refine .a [.v (a0.kids.length:Int)] (A (bM.len' a0.kids) T) [(23,lE 11 (aG a0.kids)),(25,dE ((i3:Int)<(a0.kids.length:Int)))] ?_;refine .sn 23 bM a0.kids (by kernel_rfl) (fun AA=>?_);refine .lc hd7 rfl (by kernel_rfl) (fun x6 MS bG hx6 hd8 jG=>?_) (fun bG=>?_)
  ·subst bG;obtain⟨y1,h1,hn1⟩:=bU h0;obtain⟨k12,hk12,h1⟩:=bnd h1;obtain⟨z13,yY,h1⟩:=bnd h1;refine .ad mixed [(5,[.cs (aI x6)]),(7,[.call [] (aE (aI k12)) []]),(8,[.sv (aG [k12])]),(9,[.sv (aG z13)])] [((aG s4).length:Int)] (A (bM.iV hx6) (A (ih _ hk12) (A (bM.lit [k12]) (A (bM.ap yY) T)))) [] [.c 3 10 (.gs (.own 100037) 11 (aG z13)),.o 100037 (.tok (aG z13).length 37)] [] ?_;refine .a [.v ((i3+1:Nat):Int)] (A (wn (i:=i3) (by omega)) T) [(4,iE ((i3+1:Nat):Int))] ?_;cases h1;exact .nL rfl (i3+1) _ hd8 jG hn1 [] (by kernel_rfl)
  ·subst bG;have h0:=dF h0;refine .af [] T [] [.o 2 (.cells [iE a0.kind,iE a0.id,sE a0.name,iE a0.n,.gs (.own 100016) 1 (aj z1),iE k2.kind,sE k2.name,iE k2.n,lE 1 (aj k2.scopes),lE 5 (ah k2.kids),.gs (.own 100037) 11 (aG s4)])] ?_;cases h0;exact .rt hK
def qN:Nat→Core→Option (Int)
 | 0,_=>none
 | n+1,a0=>Option.bind (dV (fun(s2:Int) (i1:Nat) (x4:Core)=>(qN n x4).bind fun k10=>some (aX (s2+k10))) 0 a0.kids 1) (fun(s2:Int)=>some s2)
theorem Ob (n:Nat):∀(a0:Core) {r:Int},qN n a0=some r→aC X.E 81 [aE (aI a0)] [] (iE r) []:=by
 induction n with
 | zero=>intro a0 r h; cases h
 | succ n ih=>
  intro a0 r h0;rw[qN] at h0;refine .n Tryz.func81 (fun L ks low K hl hL hlen hK=>?_);refine .af [] T [(1,pw 1)] [.o 1 (.cells ((aI a0).map .d))] ?_;refine .a [] T [(3,iE 1)] ?_;refine .a [] T [(4,iE 0)] ?_;refine .lL h0 rfl [1] (fun i1 s2=>[(3,iE s2),(4,iE (i1:Int))]) n2 n2 [] (by kernel_rfl) (fun i1 s2 q3 hd5 U7 h0=>?_);refine .a [.v (a0.kids.length:Int)] (A (bM.len' a0.kids) T) [(7,lE 11 (aG a0.kids)),(9,dE ((i1:Int)<(a0.kids.length:Int)))] ?_;refine .sn 7 bM a0.kids (by kernel_rfl) (fun hb8=>?_);refine .lc hd5 rfl (by kernel_rfl) (fun x4 q32 fQ hx4 hd6 qx=>?_) (fun fQ=>?_)
  ·subst fQ;obtain⟨y1,h1,hn1⟩:=bU h0;obtain⟨k10,hk10,h1⟩:=bnd h1;refine .a [.cs (aI x4),.call [] (iE k10) [],.pl] (A (bM.iV hx4) (A (ih _ hk10) T)) [(3,iE (aX (s2+k10)))] ?_;refine .a [.v ((i1+1:Nat):Int)] (A (wn (i:=i1) (by omega)) T) [(4,iE ((i1+1:Nat):Int))] ?_;cases h1;exact .nL rfl (i1+1) _ hd6 qx hn1 [] (by kernel_rfl)
  ·subst fQ;have h0:=dF h0;refine .a [] T [(2,iE s2)] ?_;cases h0;exact .rt hK
def ou (n:Nat) (a0:List Int) (a1:Int):Option (Bool):=
 bn (bI (fun(s2:Unit) (i1:Nat) (x4:Int)=>((if x4=a1 then some (Sum.inl true) else some (Sum.inr ())):Option (Bool⊕Unit))) 0 a0 ()) (fun(s2:Unit)=>some false)
theorem uZ (n:Nat):∀(a0:List Int) (a1:Int) {r:Bool},ou n a0 a1=some r→aC X.E 93 [lE 1 (aj a0),iE a1] [] (bE r) []:=by
 intro a0 a1 r h0;rw[ou] at h0;refine .n Tryz.func93 (fun L ks low K hl hL hlen hK=>?_);refine .a [] T [] ?_;refine .a [] T [(5,iE 0)] ?_;refine .lI h0 rfl [0,1] (fun i1 s2=>[(5,iE (i1:Int))]) n2 n2 [] (by kernel_rfl) (fun i1 s2 q3 hd5 U7 h0=>?_);refine .a [.v (a0.length:Int)] (A (aO.len' a0) T) [(9,dE ((i1:Int)<(a0.length:Int)))] ?_;refine .sn 0 aO a0 (by kernel_rfl) (fun hb8=>?_);refine .lc hd5 rfl (by kernel_rfl) (fun x4 q32 fQ hx4 hd6 qx=>?_) (fun fQ=>?_)
 ·subst fQ;obtain⟨y1,h1,hw1,hn1⟩:=aZ h0;refine .a [.cs [.v (.int .i64 x4)]] (A (aO.iV hx4) T) [(17,dE (x4=a1))] ?_;refine .jP h1 (fun iR h1=>?_) (fun iR h1=>?_)
  ·refine .a [] T [(4,bE true)] ?_;cases h1;cases hw1 _ rfl;exact .rt hK
  ·refine .a [.v ((i1+1:Nat):Int)] (A (wn (i:=i1) (by omega)) T) [(5,iE ((i1+1:Nat):Int))] ?_;cases h1;exact .nL rfl (i1+1) _ hd6 qx (hn1 _ rfl) [] (by kernel_rfl)
 ·subst fQ;have h0:=bH h0;refine .a [] T [(4,bE false)] ?_;cases h0;exact .rt hK
def uz (n:Nat) (a0:List Int) (a1:List Int):Option (Bool):=
 (if ¬(a0.length:Int)=(a1.length:Int) then some false else bn (bI (fun(s5:Unit) (i4:Nat) (x7:Int)=>((gW a1 (i4:Int)).bind fun e12=>(if ¬x7=e12 then some (Sum.inl false) else some (Sum.inr ())):Option (Bool⊕Unit))) 0 a0 ()) (fun(s5:Unit)=>some true))
theorem wz (n:Nat):∀(a0:List Int) (a1:List Int) {r:Bool},uz n a0 a1=some r→aC X.E 132 [lE 1 (aj a0),lE 1 (aj a1)] [] (bE r) []:=by
 intro a0 a1 r h0;rw[uz] at h0;refine .n Tryz.func132 (fun L ks low K hl hL hlen hK=>?_);refine .a [] T [] ?_;refine .a [.v (a0.length:Int),.v (a1.length:Int)] (A (aO.len' a0) (A (aO.len' a1) T)) [(10,dE (¬(a0.length:Int)=(a1.length:Int)))] ?_;refine .sn 0 aO a0 (by kernel_rfl) (fun hb1=>?_);refine .sn 1 aO a1 (by kernel_rfl) (fun hb2=>?_);refine .jP h0 (fun hc3 h0=>?_) (fun hc3 h0=>?_)
 ·refine .a [] T [(4,bE false)] ?_;cases h0;exact .rt hK
 ·refine .a [] T [(5,iE 0)] ?_;refine .lI h0 rfl [0,1] (fun i4 s5=>[(5,iE (i4:Int))]) n2 n2 [] (by kernel_rfl) (fun i4 s5 q6 hd8 TJ h0=>?_);refine .a [.v (a0.length:Int)] (A (aO.len' a0) T) [(14,dE ((i4:Int)<(a0.length:Int)))] ?_;refine .lc hd8 rfl (by kernel_rfl) (fun x7 q62 bG hx7 hd9 DV=>?_) (fun bG=>?_)
  ·subst bG;obtain⟨y1,h1,hw1,hn1⟩:=aZ h0;obtain⟨e12,Ap,h1⟩:=bnd h1;refine .ad mixed [(2,[.cs [.v (.int .i64 x7)]]),(6,[.cs [.v (.int .i64 e12)]])] [] (A (aO.iV hx7) (A (aO.idx Ap) T)) [(25,dE (¬x7=e12))] [] [] ?_;refine .jP h1 (fun hc13 h1=>?_) (fun hc13 h1=>?_)
   ·refine .a [] T [(4,bE false)] ?_;cases h1;cases hw1 _ rfl;exact .rt hK
   ·refine .a [.v ((i4+1:Nat):Int)] (A (wn (i:=i4) (by omega)) T) [(5,iE ((i4+1:Nat):Int))] ?_;cases h1;exact .nL rfl (i4+1) _ hd9 DV (hn1 _ rfl) [] (by kernel_rfl)
  ·subst bG;have h0:=bH h0;refine .a [] T [(4,bE true)] ?_;cases h0;exact .rt hK
def fC:Nat→Form→Form→Option (Bool)
 | 0,_,_=>none
 | n+1,a0,a1=>Option.bind ((if ¬a0.kind=a1.kind then some true else(if ¬a0.name=a1.name then some true else(if ¬a0.n=a1.n then some true else(uz n a0.scopes a1.scopes).bind fun k18=>(if(!k18)=true then some true else some (decide (¬(a0.kids.length:Int)=(a1.kids.length:Int))))))):Option (Bool)) (fun(o1:Bool)=>(if o1=true then some false else bn (bI (fun(s4:Unit) (i3:Nat) (x6:Form)=>((gW a1.kids (i3:Int)).bind fun e12=>(fC n x6 e12).bind fun k13=>(if(!k13)=true then some (Sum.inl false) else some (Sum.inr ())):Option (Bool⊕Unit))) 0 a0.kids ()) (fun(s4:Unit)=>some true)))
theorem iq (n:Nat):∀(a0:Form) (a1:Form) {r:Bool},fC n a0 a1=some r→aC X.E 108 [aE (ak a0),aE (ak a1)] [] (bE r) []:=by
 induction n with
 | zero=>intro a0 a1 r h; cases h
 | succ n ih=>
  intro a0 a1 r h0;rw[fC] at h0;refine .n Tryz.func108 (fun L ks low K hl hL hlen hK=>?_);refine .af [] T [(2,pw 2),(3,pw 3)] [.o 2 (.cells ((ak a0).map .d)),.o 3 (.cells ((ak a1).map .d))] ?_;refine .bP h0 rfl [2,3] (fun o1=>[(41,bE o1)]) n1 n1 (fun o1 h0=>?_) (fun y1 h1 hj1=>?_)
  ·refine .jT h0 (fun hc2 h0=>?_) (fun hc2 h0=>?_)
   ·refine .a [] T [(4,bE false)] ?_;cases h0;exact .rt hK
   ·refine .a [] T [(5,iE 0)] ?_;refine .lI h0 rfl [2,3] (fun i3 s4=>[(5,iE (i3:Int))]) n2 n2 [] (by kernel_rfl) (fun i3 s4 q5 hd7 hi9 h0=>?_);refine .a [.v (a0.kids.length:Int)] (A (ay.len' a0.kids) T) [(44,lE 5 (ah a0.kids)),(46,dE ((i3:Int)<(a0.kids.length:Int)))] ?_;refine .sn 44 ay a0.kids (by kernel_rfl) (fun AA=>?_);refine .lc hd7 rfl (by kernel_rfl) (fun x6 MS bG hx6 hd8 jG=>?_) (fun bG=>?_)
    ·subst bG;obtain⟨y1,h1,hw1,hn1⟩:=aZ h0;obtain⟨e12,Ap,h1⟩:=bnd h1;obtain⟨k13,mF,h1⟩:=bnd h1;refine .ad mixed [(3,[.cs (ak x6)]),(8,[.cs (ak e12)]),(10,[.call [] (bE k13) []])] [] (A (ay.iV hx6) (A (ay.idx Ap) (A (ih _ _ mF) T))) [(60,bE (!k13))] [] [] ?_;refine .jT h1 (fun mG h1=>?_) (fun mG h1=>?_)
     ·refine .a [] T [(4,bE false)] ?_;cases h1;cases hw1 _ rfl;exact .rt hK
     ·refine .a [.v ((i3+1:Nat):Int)] (A (wn (i:=i3) (by omega)) T) [(5,iE ((i3+1:Nat):Int))] ?_;cases h1;exact .nL rfl (i3+1) _ hd8 jG (hn1 _ rfl) [] (by kernel_rfl)
    ·subst bG;have h0:=bH h0;refine .a [] T [(4,bE true)] ?_;cases h0;exact .rt hK
  ·by_cases g15:¬a0.kind=a1.kind
   ·have h1:=aJ g15 h1;refine .a (rb 27 true []) (R 6 (dt g15) (R 21 B1 T)) [(41,bE true)] ?_;cases h1;exact .lg hj1 []
   ·have h1:=aK g15 h1;by_cases g16:¬a0.name=a1.name
    ·have h1:=aJ g16 h1;refine .a (rb 6 false (rb 21 true [])) (R 6 (df g15) (R 6 (dt g16) (R 15 B1 T))) [(41,bE true)] ?_;cases h1;exact .lg hj1 []
    ·have h1:=aK g16 h1;by_cases g17:¬a0.n=a1.n
     ·have h1:=aJ g17 h1;refine .a (rb 12 false (rb 15 true [])) (R 6 (df g15) (R 6 (df g16) (R 7 (dt g17) (R 8 B1 T)))) [(41,bE true)] ?_;cases h1;exact .lg hj1 []
     ·have h1:=aK g17 h1;obtain⟨k18,pY,h1⟩:=bnd h1;by_cases g19:(!k18)=true
      ·have h1:=aJ g19 h1;refine .a (rb 17 false (.call [] (bE k18) []::(.b false::(.b false::(rb 8 true []))))) (R 6 (df g15) (R 6 (df g16) (R 4 (df g17) (A (A (df g17) (wz n _ _ pY)) (R 2 (df g17) (R 8 g19 T)))))) [(41,bE true)] ?_;cases h1;exact .lg hj1 []
      ·have h1:=aK g19 h1;refine .a (rb 17 false (.call [] (bE k18) []::(rb 5 false (.v (a0.kids.length:Int)::(rb 3 false [.v (a1.kids.length:Int),.b false,.b false]))))) (R 6 (df g15) (R 6 (df g16) (R 4 (df g17) (A (A (df g17) (wz n _ _ pY)) (R 2 (df g17) (R 2 (Bool.eq_false_iff.2 g19) (A (A (Bool.eq_false_iff.2 g19) (ay.len' a0.kids)) (R 2 (Bool.eq_false_iff.2 g19) (A (A (Bool.eq_false_iff.2 g19) (ay.len' a1.kids)) (R 2 (Bool.eq_false_iff.2 g19) T)))))))))) [(41,dE (¬(a0.kids.length:Int)=(a1.kids.length:Int)))] ?_;cases h1;exact .lg hj1 []
def kY:Nat→Form→Option (Int)
 | 0,_=>none
 | n+1,a0=>Option.bind (dV (fun(s2:Int) (i1:Nat) (x4:Form)=>(kY n x4).bind fun k10=>some (aX (s2+k10))) 0 a0.kids 1) (fun(s2:Int)=>some s2)
theorem EN (n:Nat):∀(a0:Form) {r:Int},kY n a0=some r→aC X.E 64 [aE (ak a0)] [] (iE r) []:=by
 induction n with
 | zero=>intro a0 r h; cases h
 | succ n ih=>
  intro a0 r h0;rw[kY] at h0;refine .n Tryz.func64 (fun L ks low K hl hL hlen hK=>?_);refine .af [] T [(1,pw 1)] [.o 1 (.cells ((ak a0).map .d))] ?_;refine .a [] T [(3,iE 1)] ?_;refine .a [] T [(4,iE 0)] ?_;refine .lL h0 rfl [1] (fun i1 s2=>[(3,iE s2),(4,iE (i1:Int))]) n2 n2 [] (by kernel_rfl) (fun i1 s2 q3 hd5 U7 h0=>?_);refine .a [.v (a0.kids.length:Int)] (A (ay.len' a0.kids) T) [(7,lE 5 (ah a0.kids)),(9,dE ((i1:Int)<(a0.kids.length:Int)))] ?_;refine .sn 7 ay a0.kids (by kernel_rfl) (fun hb8=>?_);refine .lc hd5 rfl (by kernel_rfl) (fun x4 q32 fQ hx4 hd6 qx=>?_) (fun fQ=>?_)
  ·subst fQ;obtain⟨y1,h1,hn1⟩:=bU h0;obtain⟨k10,hk10,h1⟩:=bnd h1;refine .a [.cs (ak x4),.call [] (iE k10) [],.pl] (A (ay.iV hx4) (A (ih _ hk10) T)) [(3,iE (aX (s2+k10)))] ?_;refine .a [.v ((i1+1:Nat):Int)] (A (wn (i:=i1) (by omega)) T) [(4,iE ((i1+1:Nat):Int))] ?_;cases h1;exact .nL rfl (i1+1) _ hd6 qx hn1 [] (by kernel_rfl)
  ·subst fQ;have h0:=dF h0;refine .a [] T [(2,iE s2)] ?_;cases h0;exact .rt hK
def su (n:Nat) (a0:Int) (a1:Bool):Option (Bool):=
 Option.bind ((if a0≥97 then(if a0≤122 then some true else(if a0=42 then some true else(if a0=63 then some true else(if a0=61 then some true else(if a0=43 then some true else some (decide (a0=60))))))) else(if a0=42 then some true else(if a0=63 then some true else(if a0=61 then some true else(if a0=43 then some true else some (decide (a0=60))))))):Option (Bool)) (fun(o1:Bool)=>(if o1=true then some true else Option.bind ((if(!a1)=true then(if a0≥48 then(if a0≤57 then some true else some (decide (a0=45))) else some (decide (a0=45))) else some false):Option (Bool)) (fun(o3:Bool)=>some o3)))
theorem LK (n:Nat):∀(a0:Int) (a1:Bool) {r:Bool},su n a0 a1=some r→aC X.E 94 [.d (.v (.int .u8 a0)),bE a1] [] (bE r) []:=by
 intro a0 a1 r h0;rw[su] at h0;refine .n Tryz.func94 (fun L ks low K hl hL hlen hK=>?_);refine .a [] T [] ?_;refine .bP h0 rfl [0,1] (fun o1=>[(30,bE o1)]) n1 n1 (fun o1 h0=>?_) (fun y1 h1 hj1=>?_)
 ·refine .jT h0 (fun hc2 h0=>?_) (fun hc2 h0=>?_)
  ·refine .a [] T [(4,bE true)] ?_;cases h0;exact .rt hK
  ·refine .bP h0 rfl [] (fun o3=>[(4,bE o3)]) n1 n1 (fun o3 h0=>?_) (fun y1 h1 hj1=>?_)
   ·cases h0;exact .rt hK
   ·by_cases g4:(!a1)=true
    ·have h1:=aJ g4 h1;by_cases g5:a0≥48
     ·have h1:=aJ g5 h1;by_cases g6:a0≤57
      ·have h1:=aJ g6 h1;refine .a (rb 13 true []) (R 3 g4 (R 2 (dt g5) (A (A g4 (dt g5)) (A g4 (R 2 (dt g6) (A (A g4 (dt g6)) (A g4 T))))))) [(4,bE true)] ?_;cases h1;exact .lg hj1 []
      ·have h1:=aK g6 h1;refine .a (rb 8 true [.b false,.b false,.b true,.b false,.b true]) (R 3 g4 (R 2 (dt g5) (A (A g4 (dt g5)) (A g4 (R 2 (df g6) (A (A g4 (df g6)) (A g4 T))))))) [(4,dE (a0=45))] ?_;cases h1;exact .lg hj1 []
     ·have h1:=aK g5 h1;refine .a (rb 3 true [.b false,.b false,.b true,.b false,.b true,.b false,.b false,.b true,.b false,.b true]) (R 3 g4 (R 2 (df g5) (A (A g4 (df g5)) (A g4 (R 2 B0 (A (A g4 B0) (A g4 T))))))) [(4,dE (a0=45))] ?_;cases h1;exact .lg hj1 []
    ·have h1:=aK g4 h1;refine .a (rb 7 false []) (R 7 (Bool.eq_false_iff.2 g4) T) [(4,bE false)] ?_;cases h1;exact .lg hj1 []
 ·by_cases g7:a0≥97
  ·have h1:=aJ g7 h1;by_cases g8:a0≤122
   ·have h1:=aJ g8 h1;refine .a (rb 18 true []) (R 3 (dt g7) (R 3 (dt g8) (R 12 B1 T))) [(30,bE true)] ?_;cases h1;exact .lg hj1 []
   ·have h1:=aK g8 h1;by_cases g9:a0=42
    ·have h1:=aJ g9 h1;refine .a (rb 3 true (rb 3 false (rb 12 true []))) (R 3 (dt g7) (R 3 (df g8) (R 3 (dt g9) (R 9 B1 T)))) [(30,bE true)] ?_;cases h1;exact .lg hj1 []
    ·have h1:=aK g9 h1;by_cases g10:a0=63
     ·have h1:=aJ g10 h1;refine .a (rb 3 true (rb 6 false (rb 9 true []))) (R 3 (dt g7) (R 3 (df g8) (R 3 (df g9) (R 3 (dt g10) (R 6 B1 T))))) [(30,bE true)] ?_;cases h1;exact .lg hj1 []
     ·have h1:=aK g10 h1;by_cases g11:a0=61
      ·have h1:=aJ g11 h1;refine .a (rb 3 true (rb 9 false (rb 6 true []))) (R 3 (dt g7) (R 3 (df g8) (R 3 (df g9) (R 3 (df g10) (R 3 (dt g11) (R 3 B1 T)))))) [(30,bE true)] ?_;cases h1;exact .lg hj1 []
      ·have h1:=aK g11 h1;by_cases g12:a0=43
       ·have h1:=aJ g12 h1;refine .a (rb 3 true (rb 12 false (rb 3 true []))) (R 3 (dt g7) (R 3 (df g8) (R 3 (df g9) (R 3 (df g10) (R 3 (df g11) (R 3 (dt g12) T)))))) [(30,bE true)] ?_;cases h1;exact .lg hj1 []
       ·have h1:=aK g12 h1;refine .a (rb 3 true (rb 15 false [])) (R 3 (dt g7) (R 3 (df g8) (R 3 (df g9) (R 3 (df g10) (R 3 (df g11) (R 3 (df g12) T)))))) [(30,dE (a0=60))] ?_;cases h1;exact .lg hj1 []
  ·have h1:=aK g7 h1;by_cases g13:a0=42
   ·have h1:=aJ g13 h1;refine .a (rb 6 false (rb 12 true [])) (R 3 (df g7) (R 3 B0 (R 3 (dt g13) (R 9 B1 T)))) [(30,bE true)] ?_;cases h1;exact .lg hj1 []
   ·have h1:=aK g13 h1;by_cases g14:a0=63
    ·have h1:=aJ g14 h1;refine .a (rb 9 false (rb 9 true [])) (R 3 (df g7) (R 3 B0 (R 3 (df g13) (R 3 (dt g14) (R 6 B1 T))))) [(30,bE true)] ?_;cases h1;exact .lg hj1 []
    ·have h1:=aK g14 h1;by_cases g15:a0=61
     ·have h1:=aJ g15 h1;refine .a (rb 12 false (rb 6 true [])) (R 3 (df g7) (R 3 B0 (R 3 (df g13) (R 3 (df g14) (R 3 (dt g15) (R 3 B1 T)))))) [(30,bE true)] ?_;cases h1;exact .lg hj1 []
     ·have h1:=aK g15 h1;by_cases g16:a0=43
      ·have h1:=aJ g16 h1;refine .a (rb 15 false (rb 3 true [])) (R 3 (df g7) (R 3 B0 (R 3 (df g13) (R 3 (df g14) (R 3 (df g15) (R 3 (dt g16) T)))))) [(30,bE true)] ?_;cases h1;exact .lg hj1 []
      ·have h1:=aK g16 h1;refine .a (rb 18 false []) (R 3 (df g7) (R 3 B0 (R 3 (df g13) (R 3 (df g14) (R 3 (df g15) (R 3 (df g16) T)))))) [(30,dE (a0=60))] ?_;cases h1;exact .lg hj1 []
def jh (n:Nat) (a0:List UInt8):Option (Bool):=
 Option.bind ((if a0=[46,46,46] then some true else some (decide (a0=[95]))):Option (Bool)) (fun(o1:Bool)=>(if o1=true then some true else iterM n (fun(s3:Int)=>(Option.bind ((if s3<(a0.length:Int) then some (decide (s3≤12)) else some false):Option (Bool)) (fun(o5:Bool)=>(if o5=true then(gW a0 s3).bind fun y7=>(su n (y7.toNat:Int) (decide (s3=0))).bind fun k8=>(if(!k8)=true then some (Sum.inl false) else some (Sum.inr (aX (s3+1)))) else Option.bind ((if(a0.length:Int)≥1 then some (decide ((a0.length:Int)≤12)) else some false):Option (Bool)) (fun(nZ:Bool)=>some (Sum.inl nZ)))):Option (Bool⊕Int))) 0))
theorem dG (n:Nat):∀(a0:List UInt8) {r:Bool},jh n a0=some r→aC X.E 83 [sE a0] [] (bE r) []:=by
 intro a0 r h0;rw[jh] at h0;refine .n Tryz.func83 (fun L ks low K hl hL hlen hK=>?_);refine .a [] T [] ?_;refine .bP h0 rfl [0] (fun o1=>[(9,bE o1)]) n1 n1 (fun o1 h0=>?_) (fun y1 h1 hj1=>?_)
 ·refine .jT h0 (fun hc2 h0=>?_) (fun hc2 h0=>?_)
  ·refine .a [] T [(2,bE true)] ?_;cases h0;exact .rt hK
  ·refine .a [] T [(3,iE 0)] ?_;refine .it h0 rfl [0] (fun s3=>[(3,iE s3)]) n1 n1 [] (by kernel_rfl) (fun nk4 s3 h0=>?_);obtain⟨y1,h1,hw1,hn1⟩:=bV h0;refine .bP h1 rfl [0,3] (fun o5=>[(17,bE o5)]) n1 n1 (fun o5 h1=>?_) (fun y2 h2 hj2=>?_)
   ·refine .jT h1 (fun hc6 h1=>?_) (fun hc6 h1=>?_)
    ·obtain⟨y7,hy7,h1⟩:=bnd h1;obtain⟨k8,hk8,h1⟩:=bnd h1;refine .a [.Cm y7,.call [] (bE k8) []] (A (Df hy7) (A (LK n _ _ hk8) T)) [(26,bE (!k8))] ?_;refine .jT h1 (fun fQ h1=>?_) (fun fQ h1=>?_)
     ·refine .a [] T [(2,bE false)] ?_;cases h1;cases hw1 _ rfl;exact .rt hK
     ·refine .a [.pl] T [(3,iE (aX (s3+1)))] ?_;cases h1;exact .nI rfl _ (hn1 _ rfl) [] (by kernel_rfl)
    ·refine .bP h1 rfl [] (fun nZ=>[(2,bE nZ)]) n1 n1 (fun nZ h1=>?_) (fun y2 h2 hj2=>?_)
     ·cases h1;cases hw1 _ rfl;exact .rt hK
     ·by_cases g11:(a0.length:Int)≥1
      ·have h2:=aJ g11 h2;refine .a (rb 4 true []) (R 4 (dt g11) T) [(2,dE ((a0.length:Int)≤12))] ?_;cases h2;exact .lg hj2 []
      ·have h2:=aK g11 h2;refine .a (rb 4 false []) (R 4 (df g11) T) [(2,bE false)] ?_;cases h2;exact .lg hj2 []
   ·by_cases g12:s3<(a0.length:Int)
    ·have h2:=aJ g12 h2;refine .a (rb 3 true []) (R 3 (dt g12) T) [(17,dE (s3≤12))] ?_;cases h2;exact .lg hj2 []
    ·have h2:=aK g12 h2;refine .a (rb 3 false []) (R 3 (df g12) T) [(17,bE false)] ?_;cases h2;exact .lg hj2 []
 ·by_cases g13:a0=[46,46,46]
  ·have h1:=aJ g13 h1;refine .a (rb 3 true []) (R 3 (dt g13) T) [(9,bE true)] ?_;cases h1;exact .lg hj1 []
  ·have h1:=aK g13 h1;refine .a (rb 3 false []) (R 3 (df g13) T) [(9,dE (a0=[95]))] ?_;cases h1;exact .lg hj1 []
def kZ (n:Nat) (a0:List Int):Option (Bool):=
 iterM n (fun(s1:Int)=>(Option.bind ((if s1<(a0.length:Int) then some (decide (s1≤24)) else some false):Option (Bool)) (fun(o3:Bool)=>(if o3=true then Option.bind ((gW a0 s1).bind fun e7=>(if e7<1 then some true else(if e7>99 then some true else(if s1>0 then(gW a0 (aX (s1-1))).bind fun e11=>some (decide (e7≤e11)) else some false))):Option (Bool)) (fun(o5:Bool)=>(if o5=true then some (Sum.inl false) else some (Sum.inr (aX (s1+1))))) else some (Sum.inl (decide ((a0.length:Int)≤24))))):Option (Bool⊕Int))) 0
theorem iK (n:Nat):∀(a0:List Int) {r:Bool},kZ n a0=some r→aC X.E 84 [lE 1 (aj a0)] [] (bE r) []:=by
 intro a0 r h0;rw[kZ] at h0;refine .n Tryz.func84 (fun L ks low K hl hL hlen hK=>?_);refine .a [] T [] ?_;refine .a [] T [(3,iE 0)] ?_;refine .it h0 rfl [0] (fun s1=>[(3,iE s1)]) n1 n1 [] (by kernel_rfl) (fun YW s1 h0=>?_);obtain⟨y1,h1,hw1,hn1⟩:=bV h0;refine .bP h1 rfl [0,3] (fun o3=>[(11,bE o3)]) n1 n1 (fun o3 h1=>?_) (fun y2 h2 hj2=>?_)
 ·refine .jT h1 (fun hc4 h1=>?_) (fun hc4 h1=>?_)
  ·refine .bP h1 rfl [0,3] (fun o5=>[(41,bE o5)]) n1 n1 (fun o5 h1=>?_) (fun y2 h2 hj2=>?_)
   ·refine .jT h1 (fun hc6 h1=>?_) (fun hc6 h1=>?_)
    ·refine .a [] T [(2,bE false)] ?_;cases h1;cases hw1 _ rfl;exact .rt hK
    ·refine .a [.pl] T [(3,iE (aX (s1+1)))] ?_;cases h1;exact .nI rfl _ (hn1 _ rfl) [] (by kernel_rfl)
   ·obtain⟨e7,GR,h2⟩:=bnd h2;by_cases g8:e7<1
    ·have h2:=aJ g8 h2;refine .ad mixed ((2,[.cs [.v (.int .i64 e7)]])::(qb 6 6 true (qb 13 3 true (qb 26 2 true [])))) [] (A (aO.idx GR) (R 6 (dt g8) (R 5 B1 T))) [(41,bE true)] [] [] ?_;cases h2;exact .lg hj2 []
    ·have h2:=aK g8 h2;by_cases g9:e7>99
     ·have h2:=aJ g9 h2;refine .ad mixed ((2,[.cs [.v (.int .i64 e7)]])::(qb 6 2 false ((8,[.b false,.cs [.v (.int .i64 e7)]])::(qb 9 3 false (qb 13 3 true (qb 26 2 true [])))))) [] (A (aO.idx GR) (R 2 (df g8) (A (A (df g8) (aO.idx GR)) (R 3 (df g8) (R 5 (dt g9) T))))) [(41,bE true)] [] [] ?_;cases h2;exact .lg hj2 []
     ·have h2:=aK g9 h2;by_cases g10:s1>0
      ·have h2:=aJ g10 h2;obtain⟨e11,ac2,h2⟩:=bnd h2;refine .ad mixed ((2,[.cs [.v (.int .i64 e7)]])::(qb 6 2 false ((8,[.b false,.cs [.v (.int .i64 e7)]])::(qb 9 3 false (qb 13 3 false (qb 16 2 true ((18,[.b true,.cs [.v (.int .i64 e7)]])::(qb 19 3 true ((22,[.b true,.pl])::((23,[.b true,.cs [.v (.int .i64 e11)]])::(qb 24 2 true [(26,[.b false,.b true]),(27,[.b false])]))))))))))) [] (A (aO.idx GR) (R 2 (df g8) (A (A (df g8) (aO.idx GR)) (R 3 (df g8) (R 3 (df g9) (R 2 (dt g10) (A (A (dt g10) (aO.idx GR)) (R 4 (dt g10) (A (A (dt g10) (aO.idx ac2)) (R 2 (dt g10) (A (A (df g9) (dt g10)) (A (df g9) T)))))))))))) [(41,dE (e7≤e11))] [] [] ?_;cases h2;exact .lg hj2 []
      ·have h2:=aK g10 h2;refine .ad mixed ((2,[.cs [.v (.int .i64 e7)]])::(qb 6 2 false ((8,[.b false,.cs [.v (.int .i64 e7)]])::(qb 9 3 false (qb 13 13 false [(26,[.b false,.b false]),(27,[.b false])]))))) [] (A (aO.idx GR) (R 2 (df g8) (A (A (df g8) (aO.idx GR)) (R 3 (df g8) (R 3 (df g9) (R 10 (df g10) (A (A (df g9) (df g10)) (A (df g9) T)))))))) [(41,bE false)] [] [] ?_;cases h2;exact .lg hj2 []
  ·refine .a [.v (a0.length:Int)] (A (aO.len' a0) T) [(2,dE ((a0.length:Int)≤24))] ?_;refine .sn 0 aO a0 (by kernel_rfl) (fun agZ=>?_);cases h1;cases hw1 _ rfl;exact .rt hK
 ·by_cases g13:s1<(a0.length:Int)
  ·have h2:=aJ g13 h2;refine .a (.v (a0.length:Int)::(rb 3 true [])) (A (aO.len' a0) (R 3 (dt g13) T)) [(11,dE (s1≤24))] ?_;refine .sn 0 aO a0 (by kernel_rfl) (fun afi=>?_);cases h2;exact .lg hj2 []
  ·have h2:=aK g13 h2;refine .a (.v (a0.length:Int)::(rb 3 false [])) (A (aO.len' a0) (R 3 (df g13) T)) [(11,bE false)] ?_;refine .sn 0 aO a0 (by kernel_rfl) (fun aiQ=>?_);cases h2;exact .lg hj2 []
def yZ:Nat→Form→Int→Option (Bool)
 | 0,_,_=>none
 | n+1,a0,a1=>(if a1=0 then some false else(if a0.kind=1 then Option.bind ((jh n a0.name).bind fun k4=>(if k4=true then(if a0.n=0 then(kZ n a0.scopes).bind fun k7=>(if k7=true then some (decide ((a0.kids.length:Int)=0)) else some false) else some false) else some false):Option (Bool)) (fun(o3:Bool)=>some o3) else(if a0.kind=2 then Option.bind ((if a0.name=[] then(if a0.n≥0 then(if a0.n≤999 then(if(a0.scopes.length:Int)=0 then some (decide ((a0.kids.length:Int)=0)) else some false) else some false) else some false) else some false):Option (Bool)) (fun(nZ:Bool)=>some nZ) else Option.bind ((if ¬a0.kind=3 then some true else(if ¬a0.name=[] then some true else(if ¬a0.n=0 then some true else some (decide (¬(a0.scopes.length:Int)=0))))):Option (Bool)) (fun(BX:Bool)=>(if BX=true then some false else bn (bI (fun(s18:Unit) (i17:Nat) (x20:Form)=>((yZ n x20 (aX (a1-1))).bind fun k26=>(if(!k26)=true then some (Sum.inl false) else some (Sum.inr ())):Option (Bool⊕Unit))) 0 a0.kids ()) (fun(s18:Unit)=>some true))))))
theorem MV (n:Nat):∀(a0:Form) (a1:Int) {r:Bool},yZ n a0 a1=some r→aC X.E 63 [aE (ak a0),iE a1] [] (bE r) []:=by
 induction n with
 | zero=>intro a0 a1 r h; cases h
 | succ n ih=>
  intro a0 a1 r h0;rw[yZ] at h0;refine .n Tryz.func63 (fun L ks low K hl hL hlen hK=>?_);refine .af [] T [(2,pw 2)] [.o 2 (.cells ((ak a0).map .d))] ?_;refine .a [] T [(7,dE (a1=0))] ?_;refine .jP h0 (fun hc1 h0=>?_) (fun hc1 h0=>?_)
  ·refine .a [] T [(4,bE false)] ?_;cases h0;exact .rt hK
  ·refine .a [] T [(9,iE a0.kind)] ?_;refine .a [] T [(10,dE (a0.kind=1))] ?_;refine .jP h0 (fun hc2 h0=>?_) (fun hc2 h0=>?_)
   ·refine .bP h0 rfl [] (fun o3=>[(4,bE o3)]) n1 n1 (fun o3 h0=>?_) (fun y1 h1 hj1=>?_)
    ·cases h0;exact .rt hK
    ·obtain⟨k4,hk4,h1⟩:=bnd h1;by_cases g5:k4=true
     ·have h1:=aJ g5 h1;by_cases g6:a0.n=0
      ·have h1:=aJ g6 h1;obtain⟨k7,II,h1⟩:=bnd h1;by_cases g8:k7=true
       ·have h1:=aJ g8 h1;refine .a (.call [] (bE k4) []::(rb 7 true (.call [] (bE k7) []::(rb 4 true [.v (a0.kids.length:Int),.b true,.b true])))) (A (dG n _ hk4) (R 4 g5 (R 2 (dt g6) (A (A (dt g6) (iK n _ II)) (A (dt g6) (R 2 g8 (A (A g8 (ay.len' a0.kids)) (R 2 g8 T)))))))) [(4,dE ((a0.kids.length:Int)=0))] ?_;cases h1;exact .lg hj1 []
       ·have h1:=aK g8 h1;refine .a (.call [] (bE k4) []::(rb 7 true (.call [] (bE k7) []::(.b true::(rb 5 false []))))) (A (dG n _ hk4) (R 4 g5 (R 2 (dt g6) (A (A (dt g6) (iK n _ II)) (A (dt g6) (R 5 (Bool.eq_false_iff.2 g8) T)))))) [(4,bE false)] ?_;cases h1;exact .lg hj1 []
      ·have h1:=aK g6 h1;refine .a (.call [] (bE k4) []::(rb 4 true (rb 9 false []))) (A (dG n _ hk4) (R 4 g5 (R 4 (df g6) (R 5 B0 T)))) [(4,bE false)] ?_;cases h1;exact .lg hj1 []
     ·have h1:=aK g5 h1;refine .a (.call [] (bE k4) []::(rb 13 false [])) (A (dG n _ hk4) (R 4 (Bool.eq_false_iff.2 g5) (R 9 B0 T))) [(4,bE false)] ?_;cases h1;exact .lg hj1 []
   ·refine .a [] T [(31,dE (a0.kind=2))] ?_;refine .jP h0 (fun fQ h0=>?_) (fun fQ h0=>?_)
    ·refine .bP h0 rfl [] (fun nZ=>[(4,bE nZ)]) n1 n1 (fun nZ h0=>?_) (fun y1 h1 hj1=>?_)
     ·cases h0;exact .rt hK
     ·by_cases g11:a0.name=[]
      ·have h1:=aJ g11 h1;by_cases g12:a0.n≥0
       ·have h1:=aJ g12 h1;by_cases g13:a0.n≤999
        ·have h1:=aJ g13 h1;by_cases g14:(a0.scopes.length:Int)=0
         ·have h1:=aJ g14 h1;refine .a (rb 11 true (.v (a0.scopes.length:Int)::(rb 5 true [.v (a0.kids.length:Int),.b true,.b true]))) (R 4 (dt g11) (R 4 (dt g12) (R 2 (dt g13) (A (A (dt g13) (aO.len' a0.scopes)) (R 2 (dt g13) (R 2 (dt g14) (A (A (dt g14) (ay.len' a0.kids)) (R 2 (dt g14) T)))))))) [(4,dE ((a0.kids.length:Int)=0))] ?_;cases h1;exact .lg hj1 []
         ·have h1:=aK g14 h1;refine .a (rb 11 true (.v (a0.scopes.length:Int)::(.b true::(.b true::(rb 5 false []))))) (R 4 (dt g11) (R 4 (dt g12) (R 2 (dt g13) (A (A (dt g13) (aO.len' a0.scopes)) (R 2 (dt g13) (R 5 (df g14) T)))))) [(4,bE false)] ?_;cases h1;exact .lg hj1 []
        ·have h1:=aK g13 h1;refine .a (rb 8 true (rb 10 false [])) (R 4 (dt g11) (R 4 (dt g12) (R 5 (df g13) (R 5 B0 T)))) [(4,bE false)] ?_;cases h1;exact .lg hj1 []
       ·have h1:=aK g12 h1;refine .a (rb 4 true (rb 14 false [])) (R 4 (dt g11) (R 4 (df g12) (R 10 B0 T))) [(4,bE false)] ?_;cases h1;exact .lg hj1 []
      ·have h1:=aK g11 h1;refine .a (rb 18 false []) (R 4 (df g11) (R 14 B0 T)) [(4,bE false)] ?_;cases h1;exact .lg hj1 []
    ·refine .bP h0 rfl [1,2] (fun BX=>[(76,bE BX)]) n1 n1 (fun BX h0=>?_) (fun y1 h1 hj1=>?_)
     ·refine .jT h0 (fun hc16 h0=>?_) (fun hc16 h0=>?_)
      ·refine .a [] T [(4,bE false)] ?_;cases h0;exact .rt hK
      ·refine .a [] T [(5,iE 0)] ?_;refine .lI h0 rfl [1,2] (fun i17 s18=>[(5,iE (i17:Int))]) n2 n2 [] (by kernel_rfl) (fun i17 s18 q19 ac4 ag0 h0=>?_);refine .a [.v (a0.kids.length:Int)] (A (ay.len' a0.kids) T) [(79,lE 5 (ah a0.kids)),(81,dE ((i17:Int)<(a0.kids.length:Int)))] ?_;refine .sn 79 ay a0.kids (by kernel_rfl) (fun acZ=>?_);refine .lc ac4 rfl (by kernel_rfl) (fun x20 ag1 hc25 aa8 ac5 YX=>?_) (fun hc25=>?_)
       ·subst hc25;obtain⟨y1,h1,hw1,hn1⟩:=aZ h0;obtain⟨k26,DX,h1⟩:=bnd h1;refine .a [.cs (ak x20),.pl,.call [] (bE k26) []] (A (ay.iV aa8) (A (ih _ _ DX) T)) [(92,bE (!k26))] ?_;refine .jT h1 (fun hc27 h1=>?_) (fun hc27 h1=>?_)
        ·refine .a [] T [(4,bE false)] ?_;cases h1;cases hw1 _ rfl;exact .rt hK
        ·refine .a [.v ((i17+1:Nat):Int)] (A (wn (i:=i17) (by omega)) T) [(5,iE ((i17+1:Nat):Int))] ?_;cases h1;exact .nL rfl (i17+1) _ ac5 YX (hn1 _ rfl) [] (by kernel_rfl)
       ·subst hc25;have h0:=bH h0;refine .a [] T [(4,bE true)] ?_;cases h0;exact .rt hK
     ·by_cases qH:¬a0.kind=3
      ·have h1:=aJ qH h1;refine .a (rb 13 true []) (R 4 (dt qH) (R 9 B1 T)) [(76,bE true)] ?_;cases h1;exact .lg hj1 []
      ·have h1:=aK qH h1;by_cases yG:¬a0.name=[]
       ·have h1:=aJ yG h1;refine .a (rb 4 false (rb 9 true [])) (R 4 (df qH) (R 4 (dt yG) (R 5 B1 T))) [(76,bE true)] ?_;cases h1;exact .lg hj1 []
       ·have h1:=aK yG h1;by_cases jR:¬a0.n=0
        ·have h1:=aJ jR h1;refine .a (rb 8 false (rb 5 true [])) (R 4 (df qH) (R 4 (df yG) (R 5 (dt jR) T))) [(76,bE true)] ?_;cases h1;exact .lg hj1 []
        ·have h1:=aK jR h1;refine .a (rb 11 false [.v (a0.scopes.length:Int),.b false,.b false]) (R 4 (df qH) (R 4 (df yG) (R 2 (df jR) (A (A (df jR) (aO.len' a0.scopes)) (R 2 (df jR) T))))) [(76,dE (¬(a0.scopes.length:Int)=0))] ?_;cases h1;exact .lg hj1 []
def bQ (n:Nat) (a0:Form):Option (Bool):=
 Option.bind ((yZ n a0 40).bind fun k2=>(if k2=true then(kY n a0).bind fun k4=>some (decide (k4≤400)) else some false):Option (Bool)) (fun(o1:Bool)=>some o1)
theorem aQ (n:Nat):∀(a0:Form) {r:Bool},bQ n a0=some r→aC X.E 26 [aE (ak a0)] [] (bE r) []:=by
 intro a0 r h0;rw[bQ] at h0;refine .n Tryz.func26 (fun L ks low K hl hL hlen hK=>?_);refine .af [] T [(1,pw 1)] [.o 1 (.cells ((ak a0).map .d))] ?_;refine .bP h0 rfl [] (fun o1=>[(2,bE o1)]) n1 n1 (fun o1 h0=>?_) (fun y1 h1 hj1=>?_)
 ·cases h0;exact .rt hK
 ·obtain⟨k2,hk2,h1⟩:=bnd h1;by_cases g3:k2=true
  ·have h1:=aJ g3 h1;obtain⟨k4,hk4,h1⟩:=bnd h1;refine .a [.call [] (bE k2) [],.b true,.b true,.call [] (iE k4) [],.b true,.b true] (A (MV n _ _ hk2) (A g3 (A (A g3 (EN n _ hk4)) (R 2 g3 T)))) [(2,dE (k4≤400))] ?_;cases h1;exact .lg hj1 []
  ·have h1:=aK g3 h1;refine .a (.call [] (bE k2) []::(rb 4 false [])) (A (MV n _ _ hk2) (R 4 (Bool.eq_false_iff.2 g3) T)) [(2,bE false)] ?_;cases h1;exact .lg hj1 []
def iw:Nat→Form→Option (Form)
 | 0,_=>none
 | n+1,a0=>Option.bind (dV (fun(s2:List Form) (i1:Nat) (x4:Form)=>(iw n x4).bind fun k10=>(jm 80 s2 [k10]).bind fun z11=>some z11) 0 a0.kids []) (fun(s2:List Form)=>some (⟨a0.kind,a0.name,a0.n,[],s2⟩:Form))
theorem qy (n:Nat):∀(a0:Form) {r:Form},iw n a0=some r→aC X.E 109 [aE (ak a0)] [] (aE (ak r)) []:=by
 induction n with
 | zero=>intro a0 r h; cases h
 | succ n ih=>
  intro a0 r h0;rw[iw] at h0;refine .n Tryz.func109 (fun L ks low K hl hL hlen hK=>?_);refine .af [] T [(1,pw 1),(2,pw 2)] [.o 1 (.cells ((ak a0).map .d)),.o 2 (.cells [iE 0,sE [],iE 0,fE 1 (aj []),fE 5 (ah [])])] ?_;refine .af [] T [(3,pw 3)] [.o 3 (.cells [iE a0.kind,sE a0.name,iE a0.n,fE 1 (aj []),fE 5 (ah [])])] ?_;refine .a [] T [(4,iE 0)] ?_;refine .oc 3 4 100028 32 (by kernel_rfl) ?_;refine .lL h0 rfl [1,2,3] (fun i1 s2=>[(4,iE (i1:Int))]) (fun i1 s2=>[.c 3 4 (.gs (.own 100028) 5 (ah s2)),.o 100028 (.tok (ah s2).length 32)]) n2 [] (by kernel_rfl) (fun i1 s2 q3 hd5 U7 h0=>?_);refine .a [.v (a0.kids.length:Int)] (A (ay.len' a0.kids) T) [(14,lE 5 (ah a0.kids)),(16,dE ((i1:Int)<(a0.kids.length:Int)))] ?_;refine .sn 14 ay a0.kids (by kernel_rfl) (fun hb8=>?_);refine .lc hd5 rfl (by kernel_rfl) (fun x4 q32 fQ hx4 hd6 qx=>?_) (fun fQ=>?_)
  ·subst fQ;obtain⟨y1,h1,hn1⟩:=bU h0;obtain⟨k10,hk10,h1⟩:=bnd h1;obtain⟨z11,Az,h1⟩:=bnd h1;refine .ad mixed [(5,[.cs (ak x4)]),(7,[.call [] (aE (ak k10)) []]),(8,[.sv (ah [k10])]),(9,[.sv (ah z11)])] [((ah s2).length:Int)] (A (ay.iV hx4) (A (ih _ hk10) (A (ay.lit [k10]) (A (ay.ap Az) T)))) [] [.c 3 4 (.gs (.own 100028) 5 (ah z11)),.o 100028 (.tok (ah z11).length 32)] [] ?_;refine .a [.v ((i1+1:Nat):Int)] (A (wn (i:=i1) (by omega)) T) [(4,iE ((i1+1:Nat):Int))] ?_;cases h1;exact .nL rfl (i1+1) _ hd6 qx hn1 [] (by kernel_rfl)
  ·subst fQ;have h0:=dF h0;refine .af [] T [] [.c 2 0 (iE a0.kind),.c 2 1 (sE a0.name),.c 2 2 (iE a0.n),.c 2 4 (.gs (.own 100028) 5 (ah s2))] ?_;cases h0;exact .rt hK
def sD (n:Nat) (a0:Core):Option (Bool):=
 Option.bind ((if a0.kind=1 then(if a0.id<1 then some true else(if a0.id>999 then some true else(if ¬a0.kind=1 then some (decide (¬a0.id=0)) else some false))) else(if ¬a0.kind=1 then some (decide (¬a0.id=0)) else some false)):Option (Bool)) (fun(o1:Bool)=>(if o1=true then some false else Option.bind ((if a0.kind=2 then(jh n a0.name).bind fun k27=>(if(!k27)=true then some true else(if ¬a0.kind=2 then some (decide (¬a0.name=[])) else some false)) else(if ¬a0.kind=2 then some (decide (¬a0.name=[])) else some false)):Option (Bool)) (fun(o3:Bool)=>(if o3=true then some false else Option.bind ((if a0.kind=3 then(if a0.n<0 then some true else(if a0.n>999 then some true else(if ¬a0.kind=3 then some (decide (¬a0.n=0)) else some false))) else(if ¬a0.kind=3 then some (decide (¬a0.n=0)) else some false)):Option (Bool)) (fun(o5:Bool)=>(if o5=true then some false else Option.bind ((if a0.kind=4 then(bQ n a0.data).bind fun k12=>(if(!k12)=true then some true else(iw n a0.data).bind fun k14=>(fC n k14 a0.data).bind fun k15=>(if(!k15)=true then some true else(if ¬a0.kind=4 then(fC n a0.data (⟨0,[],0,[],[]⟩:Form)).bind fun k18=>some (!k18) else some false))) else(if ¬a0.kind=4 then(fC n a0.data (⟨0,[],0,[],[]⟩:Form)).bind fun k20=>some (!k20) else some false)):Option (Bool)) (fun(o7:Bool)=>(if o7=true then some false else Option.bind ((if a0.kind=5 then some true else some (decide ((a0.ids.length:Int)=0))):Option (Bool)) (fun(o9:Bool)=>some o9)))))))))
theorem wK (n:Nat):∀(a0:Core) {r:Bool},sD n a0=some r→aC X.E 92 [aE (aI a0)] [] (bE r) []:=by
 intro a0 r h0;rw[sD] at h0;refine .n Tryz.func92 (fun L ks low K hl hL hlen hK=>?_);refine .af [] T [(1,pw 1)] [.o 1 (.cells ((aI a0).map .d))] ?_;refine .bP h0 rfl [1] (fun o1=>[(25,bE o1)]) n1 n1 (fun o1 h0=>?_) (fun y1 h1 hj1=>?_)
 ·refine .jT h0 (fun hc2 h0=>?_) (fun hc2 h0=>?_)
  ·refine .a [] T [(2,bE false)] ?_;cases h0;exact .rt hK
  ·refine .bP h0 rfl [1] (fun o3=>[(44,bE o3)]) n1 n1 (fun o3 h0=>?_) (fun y1 h1 hj1=>?_)
   ·refine .jT h0 (fun hc4 h0=>?_) (fun hc4 h0=>?_)
    ·refine .a [] T [(2,bE false)] ?_;cases h0;exact .rt hK
    ·refine .bP h0 rfl [1] (fun o5=>[(67,bE o5)]) n1 n1 (fun o5 h0=>?_) (fun y1 h1 hj1=>?_)
     ·refine .jT h0 (fun hc6 h0=>?_) (fun hc6 h0=>?_)
      ·refine .a [] T [(2,bE false)] ?_;cases h0;exact .rt hK
      ·refine .bP h0 rfl [1] (fun o7=>[(97,bE o7)]) n1 n1 (fun o7 h0=>?_) (fun y1 h1 hj1=>?_)
       ·refine .jT h0 (fun hc8 h0=>?_) (fun hc8 h0=>?_)
        ·refine .a [] T [(2,bE false)] ?_;cases h0;exact .rt hK
        ·refine .bP h0 rfl [] (fun o9=>[(2,bE o9)]) n1 n1 (fun o9 h0=>?_) (fun y1 h1 hj1=>?_)
         ·cases h0;exact .rt hK
         ·by_cases g10:a0.kind=5
          ·have h1:=aJ g10 h1;refine .a (rb 5 true []) (R 5 (dt g10) T) [(2,bE true)] ?_;cases h1;exact .lg hj1 []
          ·have h1:=aK g10 h1;refine .a (rb 3 false [.v (a0.ids.length:Int),.b false,.b false]) (R 2 (df g10) (A (A (df g10) (aO.len' a0.ids)) (R 2 (df g10) T))) [(2,dE ((a0.ids.length:Int)=0))] ?_;cases h1;exact .lg hj1 []
       ·by_cases g11:a0.kind=4
        ·have h1:=aJ g11 h1;obtain⟨k12,hk12,h1⟩:=bnd h1;by_cases g13:(!k12)=true
         ·have h1:=aJ g13 h1;refine .ad mixed (qb 4 2 true ((6,[.b true,.call [] (bE k12) []])::(qb 7 9 true ((16,[.b true,.b true])::((17,[.b true])::(qb 19 4 true (qb 28 2 true []))))))) [] (R 2 (dt g11) (A (A (dt g11) (aQ n _ hk12)) (R 2 (dt g11) (R 7 g13 (A (A (dt g11) g13) (A (dt g11) (R 6 B1 T))))))) [(97,bE true)] [] [] ?_;cases h1;exact .lg hj1 []
         ·have h1:=aK g13 h1;obtain⟨k14,wL,h1⟩:=bnd h1;obtain⟨k15,qo,h1⟩:=bnd h1;by_cases g16:(!k15)=true
          ·have h1:=aJ g16 h1;refine .ad mixed (qb 4 2 true ((6,[.b true,.call [] (bE k12) []])::(qb 7 2 true (qb 9 2 false ((11,[.b false,.call [] (aE (ak k14)) []])::(qb 12 2 false ((14,[.b false,.call [] (bE k15) []])::((15,[.b false])::((16,[.b true,.b false])::((17,[.b true])::(qb 19 4 true (qb 28 2 true [])))))))))))) [] (R 2 (dt g11) (A (A (dt g11) (aQ n _ hk12)) (R 2 (dt g11) (R 2 (Bool.eq_false_iff.2 g13) (A (A (Bool.eq_false_iff.2 g13) (qy n _ wL)) (R 2 (Bool.eq_false_iff.2 g13) (A (A (Bool.eq_false_iff.2 g13) (iq n _ _ qo)) (A (Bool.eq_false_iff.2 g13) (A (A (dt g11) (Bool.eq_false_iff.2 g13)) (A (dt g11) (R 6 g16 T))))))))))) [(97,bE true)] [] [] ?_;cases h1;exact .lg hj1 []
          ·have h1:=aK g16 h1;by_cases g17:¬a0.kind=4
           ·have h1:=aJ g17 h1;obtain⟨k18,pY,h1⟩:=bnd h1;refine .ad mixed (qb 4 2 true ((6,[.b true,.call [] (bE k12) []])::(qb 7 2 true (qb 9 2 false ((11,[.b false,.call [] (aE (ak k14)) []])::(qb 12 2 false ((14,[.b false,.call [] (bE k15) []])::((15,[.b false])::((16,[.b true,.b false])::((17,[.b true])::(qb 19 4 false (qb 23 3 true [(26,[.b true,.call [] (bE k18) []]),(27,[.b true]),(28,[.b false,.b true]),(29,[.b false])])))))))))))) [] (R 2 (dt g11) (A (A (dt g11) (aQ n _ hk12)) (R 2 (dt g11) (R 2 (Bool.eq_false_iff.2 g13) (A (A (Bool.eq_false_iff.2 g13) (qy n _ wL)) (R 2 (Bool.eq_false_iff.2 g13) (A (A (Bool.eq_false_iff.2 g13) (iq n _ _ qo)) (A (Bool.eq_false_iff.2 g13) (A (A (dt g11) (Bool.eq_false_iff.2 g13)) (A (dt g11) (R 4 (Bool.eq_false_iff.2 g16) (R 3 (dt g17) (A (A (dt g17) (iq n _ _ pY)) (A (dt g17) (A (A (Bool.eq_false_iff.2 g16) (dt g17)) (A (Bool.eq_false_iff.2 g16) T)))))))))))))))) [(97,bE (!k18))] [] [] ?_;cases h1;exact .lg hj1 []
           ·have h1:=aK g17 h1;refine .ad mixed (qb 4 2 true ((6,[.b true,.call [] (bE k12) []])::(qb 7 2 true (qb 9 2 false ((11,[.b false,.call [] (aE (ak k14)) []])::(qb 12 2 false ((14,[.b false,.call [] (bE k15) []])::((15,[.b false])::((16,[.b true,.b false])::((17,[.b true])::(qb 19 9 false [(28,[.b false,.b false]),(29,[.b false])]))))))))))) [] (R 2 (dt g11) (A (A (dt g11) (aQ n _ hk12)) (R 2 (dt g11) (R 2 (Bool.eq_false_iff.2 g13) (A (A (Bool.eq_false_iff.2 g13) (qy n _ wL)) (R 2 (Bool.eq_false_iff.2 g13) (A (A (Bool.eq_false_iff.2 g13) (iq n _ _ qo)) (A (Bool.eq_false_iff.2 g13) (A (A (dt g11) (Bool.eq_false_iff.2 g13)) (A (dt g11) (R 4 (Bool.eq_false_iff.2 g16) (R 5 (df g17) (A (A (Bool.eq_false_iff.2 g16) (df g17)) (A (Bool.eq_false_iff.2 g16) T)))))))))))))) [(97,bE false)] [] [] ?_;cases h1;exact .lg hj1 []
        ·have h1:=aK g11 h1;by_cases g19:¬a0.kind=4
         ·have h1:=aJ g19 h1;obtain⟨k20,Gg,h1⟩:=bnd h1;refine .ad mixed (qb 4 5 false (qb 16 2 false (qb 19 4 false (qb 23 3 true [(26,[.b true,.call [] (bE k20) []]),(27,[.b true]),(28,[.b false,.b true]),(29,[.b false])])))) [] (R 7 (df g11) (R 4 B0 (R 3 (dt g19) (A (A (dt g19) (iq n _ _ Gg)) (A (dt g19) (A (A B0 (dt g19)) (A B0 T))))))) [(97,bE (!k20))] [] [] ?_;cases h1;exact .lg hj1 []
         ·have h1:=aK g19 h1;refine .ad mixed (qb 4 5 false (qb 16 2 false (qb 19 9 false [(28,[.b false,.b false]),(29,[.b false])]))) [] (R 7 (df g11) (R 4 B0 (R 5 (df g19) (A (A B0 (df g19)) (A B0 T))))) [(97,bE false)] [] [] ?_;cases h1;exact .lg hj1 []
     ·by_cases g21:a0.kind=3
      ·have h1:=aJ g21 h1;by_cases g22:a0.n<0
       ·have h1:=aJ g22 h1;refine .a (rb 16 true []) (R 4 (dt g21) (R 3 (dt g22) (A (A (dt g21) (dt g22)) (A (dt g21) (R 6 B1 T))))) [(67,bE true)] ?_;cases h1;exact .lg hj1 []
       ·have h1:=aK g22 h1;by_cases g23:a0.n>999
        ·have h1:=aJ g23 h1;refine .a (rb 4 true (rb 3 false (.b true::(.b false::(rb 7 true []))))) (R 4 (dt g21) (R 3 (df g22) (A (A (dt g21) (df g22)) (A (dt g21) (R 6 (dt g23) T))))) [(67,bE true)] ?_;cases h1;exact .lg hj1 []
        ·have h1:=aK g23 h1;by_cases g24:¬a0.kind=3
         ·have h1:=aJ g24 h1;refine .a (rb 4 true (rb 3 false (.b true::(.b false::(.b true::(rb 4 false (rb 3 true [.b false,.b true,.b false]))))))) (R 4 (dt g21) (R 3 (df g22) (A (A (dt g21) (df g22)) (A (dt g21) (R 4 (df g23) (R 3 (dt g24) (A (A (df g23) (dt g24)) (A (df g23) T)))))))) [(67,dE (¬a0.n=0))] ?_;cases h1;exact .lg hj1 []
         ·have h1:=aK g24 h1;refine .a (rb 4 true (rb 3 false (.b true::(.b false::(.b true::(rb 10 false [])))))) (R 4 (dt g21) (R 3 (df g22) (A (A (dt g21) (df g22)) (A (dt g21) (R 4 (df g23) (R 3 (df g24) (A (A (df g23) (df g24)) (A (df g23) T)))))))) [(67,bE false)] ?_;cases h1;exact .lg hj1 []
      ·have h1:=aK g21 h1;by_cases Ec:¬a0.kind=3
       ·have h1:=aJ Ec h1;refine .a (rb 10 false (rb 3 true [.b false,.b true,.b false])) (R 6 (df g21) (R 4 B0 (R 3 (dt Ec) (A (A B0 (dt Ec)) (A B0 T))))) [(67,dE (¬a0.n=0))] ?_;cases h1;exact .lg hj1 []
       ·have h1:=aK Ec h1;refine .a (rb 16 false []) (R 6 (df g21) (R 4 B0 (R 3 (df Ec) (A (A B0 (df Ec)) (A B0 T))))) [(67,bE false)] ?_;cases h1;exact .lg hj1 []
   ·by_cases Gh:a0.kind=2
    ·have h1:=aJ Gh h1;obtain⟨k27,vg,h1⟩:=bnd h1;by_cases qH:(!k27)=true
     ·have h1:=aJ qH h1;refine .a (rb 3 true (.call [] (bE k27) []::(rb 8 true []))) (R 2 (dt Gh) (A (A (dt Gh) (dG n _ vg)) (R 2 (dt Gh) (R 6 qH T)))) [(44,bE true)] ?_;cases h1;exact .lg hj1 []
     ·have h1:=aK qH h1;by_cases yG:¬a0.kind=2
      ·have h1:=aJ yG h1;refine .a (rb 3 true (.call [] (bE k27) []::(.b true::(.b true::(rb 4 false (rb 3 true [.b false,.b true,.b false])))))) (R 2 (dt Gh) (A (A (dt Gh) (dG n _ vg)) (R 2 (dt Gh) (R 4 (Bool.eq_false_iff.2 qH) (R 3 (dt yG) (A (A (Bool.eq_false_iff.2 qH) (dt yG)) (A (Bool.eq_false_iff.2 qH) T))))))) [(44,dE (¬a0.name=[]))] ?_;cases h1;exact .lg hj1 []
      ·have h1:=aK yG h1;refine .a (rb 3 true (.call [] (bE k27) []::(.b true::(.b true::(rb 10 false []))))) (R 2 (dt Gh) (A (A (dt Gh) (dG n _ vg)) (R 2 (dt Gh) (R 4 (Bool.eq_false_iff.2 qH) (R 3 (df yG) (A (A (Bool.eq_false_iff.2 qH) (df yG)) (A (Bool.eq_false_iff.2 qH) T))))))) [(44,bE false)] ?_;cases h1;exact .lg hj1 []
    ·have h1:=aK Gh h1;by_cases jR:¬a0.kind=2
     ·have h1:=aJ jR h1;refine .a (rb 9 false (rb 3 true [.b false,.b true,.b false])) (R 5 (df Gh) (R 4 B0 (R 3 (dt jR) (A (A B0 (dt jR)) (A B0 T))))) [(44,dE (¬a0.name=[]))] ?_;cases h1;exact .lg hj1 []
     ·have h1:=aK jR h1;refine .a (rb 15 false []) (R 5 (df Gh) (R 4 B0 (R 3 (df jR) (A (A B0 (df jR)) (A B0 T))))) [(44,bE false)] ?_;cases h1;exact .lg hj1 []
 ·by_cases Fv:a0.kind=1
  ·have h1:=aJ Fv h1;by_cases wS:a0.id<1
   ·have h1:=aJ wS h1;refine .a (rb 16 true []) (R 4 (dt Fv) (R 3 (dt wS) (A (A (dt Fv) (dt wS)) (A (dt Fv) (R 6 B1 T))))) [(25,bE true)] ?_;cases h1;exact .lg hj1 []
   ·have h1:=aK wS h1;by_cases RH:a0.id>999
    ·have h1:=aJ RH h1;refine .a (rb 4 true (rb 3 false (.b true::(.b false::(rb 7 true []))))) (R 4 (dt Fv) (R 3 (df wS) (A (A (dt Fv) (df wS)) (A (dt Fv) (R 6 (dt RH) T))))) [(25,bE true)] ?_;cases h1;exact .lg hj1 []
    ·have h1:=aK RH h1;by_cases J3:¬a0.kind=1
     ·have h1:=aJ J3 h1;refine .a (rb 4 true (rb 3 false (.b true::(.b false::(.b true::(rb 4 false (rb 3 true [.b false,.b true,.b false]))))))) (R 4 (dt Fv) (R 3 (df wS) (A (A (dt Fv) (df wS)) (A (dt Fv) (R 4 (df RH) (R 3 (dt J3) (A (A (df RH) (dt J3)) (A (df RH) T)))))))) [(25,dE (¬a0.id=0))] ?_;cases h1;exact .lg hj1 []
     ·have h1:=aK J3 h1;refine .a (rb 4 true (rb 3 false (.b true::(.b false::(.b true::(rb 10 false [])))))) (R 4 (dt Fv) (R 3 (df wS) (A (A (dt Fv) (df wS)) (A (dt Fv) (R 4 (df RH) (R 3 (df J3) (A (A (df RH) (df J3)) (A (df RH) T)))))))) [(25,bE false)] ?_;cases h1;exact .lg hj1 []
  ·have h1:=aK Fv h1;by_cases CQ:¬a0.kind=1
   ·have h1:=aJ CQ h1;refine .a (rb 10 false (rb 3 true [.b false,.b true,.b false])) (R 6 (df Fv) (R 4 B0 (R 3 (dt CQ) (A (A B0 (dt CQ)) (A B0 T))))) [(25,dE (¬a0.id=0))] ?_;cases h1;exact .lg hj1 []
   ·have h1:=aK CQ h1;refine .a (rb 16 false []) (R 6 (df Fv) (R 4 B0 (R 3 (df CQ) (A (A B0 (df CQ)) (A B0 T))))) [(25,bE false)] ?_;cases h1;exact .lg hj1 []
def xJ (n:Nat) (a0:Int) (a1:Int):Option (Bool):=
 Option.bind ((if a0=1 then some (decide (a0=1)) else(if a0=2 then some (decide (a0=2)) else(if a0=3 then some (decide (a0=3)) else some (decide (a0=4))))):Option (Bool)) (fun(o1:Bool)=>(if o1=true then some (decide (a1=0)) else(if a0=5 then some (decide (a1=1)) else(if a0=6 then some (decide (a1≥1)) else Option.bind ((if a0=7 then some (decide (a1=3)) else some false):Option (Bool)) (fun(o5:Bool)=>some o5)))))
theorem wB (n:Nat):∀(a0:Int) (a1:Int) {r:Bool},xJ n a0 a1=some r→aC X.E 91 [iE a0,iE a1] [] (bE r) []:=by
 intro a0 a1 r h0;rw[xJ] at h0;refine .n Tryz.func91 (fun L ks low K hl hL hlen hK=>?_);refine .a [] T [] ?_;refine .a [] T [(5,iE a0)] ?_;refine .a [] T [(6,dE (a0=1))] ?_;refine .bP h0 rfl [0,1,5] (fun o1=>[(6,bE o1)]) n1 n1 (fun o1 h0=>?_) (fun y1 h1 hj1=>?_)
 ·refine .jT h0 (fun hc2 h0=>?_) (fun hc2 h0=>?_)
  ·refine .a [] T [(4,dE (a1=0))] ?_;cases h0;exact .rt hK
  ·refine .a [] T [(13,dE (a0=5))] ?_;refine .jP h0 (fun hc3 h0=>?_) (fun hc3 h0=>?_)
   ·refine .a [] T [(4,dE (a1=1))] ?_;cases h0;exact .rt hK
   ·refine .a [] T [(17,dE (a0=6))] ?_;refine .jP h0 (fun hc4 h0=>?_) (fun hc4 h0=>?_)
    ·refine .a [] T [(4,dE (a1≥1))] ?_;cases h0;exact .rt hK
    ·refine .bP h0 rfl [] (fun o5=>[(4,bE o5)]) n1 n1 (fun o5 h0=>?_) (fun y1 h1 hj1=>?_)
     ·cases h0;exact .rt hK
     ·by_cases g6:a0=7
      ·have h1:=aJ g6 h1;refine .a (rb 3 true []) (R 3 (dt g6) T) [(4,dE (a1=3))] ?_;cases h1;exact .lg hj1 []
      ·have h1:=aK g6 h1;refine .a (rb 3 false []) (R 3 (df g6) T) [(4,bE false)] ?_;cases h1;exact .lg hj1 []
 ·refine .jP h1 (fun Gi h1=>?_) (fun Gi h1=>?_)
  ·cases h1;exact .lg hj1 []
  ·refine .a [] T [(6,dE (a0=2))] ?_;refine .jP h1 (fun hc8 h1=>?_) (fun hc8 h1=>?_)
   ·cases h1;exact .lg hj1 []
   ·refine .a [] T [(6,dE (a0=3))] ?_;refine .jP h1 (fun fQ h1=>?_) (fun fQ h1=>?_)
    ·cases h1;exact .lg hj1 []
    ·refine .a [] T [(6,dE (a0=4))] ?_;cases h1;exact .lg hj1 []
def y5:Nat→Core→(List Int)→Int→Option (Bool)
 | 0,_,_,_=>none
 | n+1,a0,a1,a2=>Option.bind ((if a2=0 then some true else(xJ n a0.kind (a0.kids.length:Int)).bind fun k31=>(if(!k31)=true then some true else(sD n a0).bind fun k33=>(if(!k33)=true then some true else(if a0.kind=1 then(ou n a1 a0.id).bind fun TK=>some (!TK) else some false)))):Option (Bool)) (fun(o1:Bool)=>(if o1=true then some false else bn (bI (fun(s4:List Int) (i3:Nat) (x6:Int)=>(Option.bind ((if x6<1 then some true else(if x6>999 then some true else(ou n s4 x6).bind fun k18=>some k18)):Option (Bool)) (fun(mJ:Bool)=>(if mJ=true then some (Sum.inl false) else(jm 8 [] s4).bind fun BR=>(jm 8 BR [x6]).bind fun HY=>some (Sum.inr HY))):Option (Bool⊕(List Int)))) 0 a0.ids a1) (fun(s4:List Int)=>bn (bI (fun(s20:Unit) (i19:Nat) (x22:Core)=>((y5 n x22 s4 (aX (a2-1))).bind fun k28=>(if(!k28)=true then some (Sum.inl false) else some (Sum.inr ())):Option (Bool⊕Unit))) 0 a0.kids ()) (fun(s20:Unit)=>some true))))
theorem MW (n:Nat):∀(a0:Core) (a1:List Int) (a2:Int) {r:Bool},y5 n a0 a1 a2=some r→aC X.E 80 [aE (aI a0),lE 1 (aj a1),iE a2] [] (bE r) []:=by
 induction n with
 | zero=>intro a0 a1 a2 r h; cases h
 | succ n ih=>
  intro a0 a1 a2 r h0;rw[y5] at h0;refine .n Tryz.func80 (fun L ks low K hl hL hlen hK=>?_);refine .af [] T [(3,pw 3)] [.o 3 (.cells ((aI a0).map .d))] ?_;refine .bP h0 rfl [1,2,3] (fun o1=>[(37,bE o1)]) n1 n1 (fun o1 h0=>?_) (fun y1 h1 hj1=>?_)
  ·refine .jT h0 (fun hc2 h0=>?_) (fun hc2 h0=>?_)
   ·refine .a [] T [(6,bE false)] ?_;cases h0;exact .rt hK
   ·refine .a [] T [(7,lE 1 (aj a1))] ?_;refine .a [] T [(8,iE 0)] ?_;refine .lI h0 rfl [2,3] (fun i3 s4=>[(7,lE 1 (aj s4)),(8,iE (i3:Int))]) n2 n2 [] (by kernel_rfl) (fun i3 s4 q5 hd7 hi9 h0=>?_);refine .a [.v (a0.ids.length:Int)] (A (aO.len' a0.ids) T) [(41,lE 1 (aj a0.ids)),(43,dE ((i3:Int)<(a0.ids.length:Int)))] ?_;refine .sn 41 aO a0.ids (by kernel_rfl) (fun AA=>?_);refine .lc hd7 rfl (by kernel_rfl) (fun x6 MS bG hx6 hd8 jG=>?_) (fun bG=>?_)
    ·subst bG;obtain⟨y1,h1,hw1,hn1⟩:=aZ h0;refine .bP h1 rfl [2,3,7,8] (fun mJ=>[(68,bE mJ)]) n1 n1 (fun mJ h1=>?_) (fun y2 h2 hj2=>?_)
     ·refine .jT h1 (fun hc13 h1=>?_) (fun hc13 h1=>?_)
      ·refine .a [] T [(6,bE false)] ?_;cases h1;cases hw1 _ rfl;exact .rt hK
      ·obtain⟨BR,JR,h1⟩:=bnd h1;obtain⟨HY,TP,h1⟩:=bnd h1;refine .ad mixed [(0,[.sv (aj [])]),(2,[.sv (aj BR)]),(6,[.cs [.v (.int .i64 x6)]]),(8,[.sv (aj [x6])]),(9,[.sv (aj HY)])] [((aj BR).length:Int)] (A (aO.lit []) (A (aO.ap JR) (A (aO.iV hx6) (A (aO.lit [x6]) (A (aO.ap TP) T))))) [(7,.gs (.own 100071) 1 (aj HY))] [.o 100071 (.tok (aj HY).length 3)] [] ?_;refine .a [.v ((i3+1:Nat):Int)] (A (wn (i:=i3) (by omega)) T) [(8,iE ((i3+1:Nat):Int))] ?_;cases h1;refine .kp [2,3,7,8] [7] ?_;refine .dr 100071 (by kernel_rfl) ?_;exact .nL rfl (i3+1) _ hd8 jG (hn1 _ rfl) [] (by kernel_rfl)
     ·by_cases g16:x6<1
      ·have h2:=aJ g16 h2;refine .a (.cs [.v (.int .i64 x6)]::(rb 15 true [])) (A (aO.iV hx6) (R 7 (dt g16) (R 8 B1 T))) [(68,bE true)] ?_;cases h2;exact .lg hj2 []
      ·have h2:=aK g16 h2;by_cases g17:x6>999
       ·have h2:=aJ g17 h2;refine .a (.cs [.v (.int .i64 x6)]::(rb 4 false (.cs [.v (.int .i64 x6)]::(rb 3 false (rb 8 true []))))) (A (aO.iV hx6) (R 3 (df g16) (A (A (df g16) (aO.iV hx6)) (R 3 (df g16) (R 8 (dt g17) T))))) [(68,bE true)] ?_;cases h2;exact .lg hj2 []
       ·have h2:=aK g17 h2;obtain⟨k18,pY,h2⟩:=bnd h2;refine .a (.cs [.v (.int .i64 x6)]::(rb 4 false (.cs [.v (.int .i64 x6)]::(rb 8 false [.cs [.v (.int .i64 x6)],.b false,.b false,.call [] (bE k18) [],.b false])))) (A (aO.iV hx6) (R 3 (df g16) (A (A (df g16) (aO.iV hx6)) (R 3 (df g16) (R 4 (df g17) (A (A (df g17) (aO.iV hx6)) (A (df g17) (A (A (df g17) (uZ n _ _ pY)) (A (df g17) T))))))))) [(68,bE k18)] ?_;cases h2;exact .lg hj2 []
    ·subst bG;have h0:=bH h0;refine .a [] T [(9,iE 0)] ?_;refine .lI h0 rfl [2,3,7] (fun i19 s20=>[(9,iE (i19:Int))]) n2 n2 [] (by kernel_rfl) (fun i19 s20 q21 ag3 aiS h0=>?_);refine .a [.v (a0.kids.length:Int)] (A (bM.len' a0.kids) T) [(81,lE 11 (aG a0.kids)),(83,dE ((i19:Int)<(a0.kids.length:Int)))] ?_;refine .sn 81 bM a0.kids (by kernel_rfl) (fun aiT=>?_);refine .lc ag3 rfl (by kernel_rfl) (fun x22 aiU hc27 ag4 hd24 afj=>?_) (fun hc27=>?_)
     ·subst hc27;obtain⟨y1,h1,hw1,hn1⟩:=aZ h0;obtain⟨k28,Oa,h1⟩:=bnd h1;refine .a [.cs (aI x22),.pl,.call [] (bE k28) []] (A (bM.iV ag4) (A (ih _ _ _ Oa) T)) [(95,bE (!k28))] ?_;refine .jT h1 (fun hc29 h1=>?_) (fun hc29 h1=>?_)
      ·refine .a [] T [(6,bE false)] ?_;cases h1;cases hw1 _ rfl;exact .rt hK
      ·refine .a [.v ((i19+1:Nat):Int)] (A (wn (i:=i19) (by omega)) T) [(9,iE ((i19+1:Nat):Int))] ?_;cases h1;exact .nL rfl (i19+1) _ hd24 afj (hn1 _ rfl) [] (by kernel_rfl)
     ·subst hc27;have h0:=bH h0;refine .a [] T [(6,bE true)] ?_;cases h0;exact .rt hK
  ·by_cases jR:a2=0
   ·have h1:=aJ jR h1;refine .a (rb 18 true []) (R 8 (dt jR) (R 10 B1 T)) [(37,bE true)] ?_;cases h1;exact .lg hj1 []
   ·have h1:=aK jR h1;obtain⟨k31,hk31,h1⟩:=bnd h1;by_cases wS:(!k31)=true
    ·have h1:=aJ wS h1;refine .a (rb 5 false (.v (a0.kids.length:Int)::(.b false::(.call [] (bE k31) []::(.b false::(.b false::(rb 10 true []))))))) (R 4 (df jR) (A (A (df jR) (bM.len' a0.kids)) (A (A (df jR) (wB n _ _ hk31)) (R 2 (df jR) (R 4 wS (R 6 B1 T)))))) [(37,bE true)] ?_;cases h1;exact .lg hj1 []
    ·have h1:=aK wS h1;obtain⟨k33,LH,h1⟩:=bnd h1;by_cases J3:(!k33)=true
     ·have h1:=aJ J3 h1;refine .a (rb 5 false (.v (a0.kids.length:Int)::(.b false::(.call [] (bE k31) []::(rb 4 false (.call [] (bE k33) []::(.b false::(.b false::(rb 6 true []))))))))) (R 4 (df jR) (A (A (df jR) (bM.len' a0.kids)) (A (A (df jR) (wB n _ _ hk31)) (R 2 (df jR) (A (Bool.eq_false_iff.2 wS) (A (A (Bool.eq_false_iff.2 wS) (wK n _ LH)) (R 2 (Bool.eq_false_iff.2 wS) (R 6 J3 T)))))))) [(37,bE true)] ?_;cases h1;exact .lg hj1 []
     ·have h1:=aK J3 h1;by_cases CQ:a0.kind=1
      ·have h1:=aJ CQ h1;obtain⟨TK,YT,h1⟩:=bnd h1;refine .a (rb 5 false (.v (a0.kids.length:Int)::(.b false::(.call [] (bE k31) []::(rb 4 false (.call [] (bE k33) []::(rb 6 false (rb 4 true [.call [] (bE TK) [],.b true,.b false,.b true,.b false])))))))) (R 4 (df jR) (A (A (df jR) (bM.len' a0.kids)) (A (A (df jR) (wB n _ _ hk31)) (R 2 (df jR) (A (Bool.eq_false_iff.2 wS) (A (A (Bool.eq_false_iff.2 wS) (wK n _ LH)) (R 2 (Bool.eq_false_iff.2 wS) (R 4 (Bool.eq_false_iff.2 J3) (R 3 (dt CQ) (A (A (dt CQ) (uZ n _ _ YT)) (A (dt CQ) (A (A (Bool.eq_false_iff.2 J3) (dt CQ)) (A (Bool.eq_false_iff.2 J3) T))))))))))))) [(37,bE (!TK))] ?_;cases h1;exact .lg hj1 []
      ·have h1:=aK CQ h1;refine .a (rb 5 false (.v (a0.kids.length:Int)::(.b false::(.call [] (bE k31) []::(rb 4 false (.call [] (bE k33) []::(rb 14 false []))))))) (R 4 (df jR) (A (A (df jR) (bM.len' a0.kids)) (A (A (df jR) (wB n _ _ hk31)) (R 2 (df jR) (A (Bool.eq_false_iff.2 wS) (A (A (Bool.eq_false_iff.2 wS) (wK n _ LH)) (R 2 (Bool.eq_false_iff.2 wS) (R 4 (Bool.eq_false_iff.2 J3) (R 5 (df CQ) (A (A (Bool.eq_false_iff.2 J3) (df CQ)) (A (Bool.eq_false_iff.2 J3) T))))))))))) [(37,bE false)] ?_;cases h1;exact .lg hj1 []
def lU (n:Nat) (a0:Core):Option (Bool):=
 Option.bind ((y5 n a0 [] 120).bind fun k2=>(if k2=true then(qN n a0).bind fun k4=>some (decide (k4≤600)) else some false):Option (Bool)) (fun(o1:Bool)=>some o1)
theorem AB (n:Nat):∀(a0:Core) {r:Bool},lU n a0=some r→aC X.E 54 [aE (aI a0)] [] (bE r) []:=by
 intro a0 r h0;rw[lU] at h0;refine .n Tryz.func54 (fun L ks low K hl hL hlen hK=>?_);refine .af [] T [(1,pw 1)] [.o 1 (.cells ((aI a0).map .d))] ?_;refine .bP h0 rfl [] (fun o1=>[(2,bE o1)]) n1 n1 (fun o1 h0=>?_) (fun y1 h1 hj1=>?_)
 ·cases h0;exact .rt hK
 ·obtain⟨k2,hk2,h1⟩:=bnd h1;by_cases g3:k2=true
  ·have h1:=aJ g3 h1;obtain⟨k4,hk4,h1⟩:=bnd h1;refine .a [.sv (aj []),.call [] (bE k2) [],.b true,.b true,.call [] (iE k4) [],.b true,.b true] (A (aO.lit []) (A (MW n _ _ _ hk2) (A g3 (A (A g3 (Ob n _ hk4)) (R 2 g3 T))))) [(2,dE (k4≤600))] ?_;cases h1;exact .lg hj1 []
  ·have h1:=aK g3 h1;refine .a (.sv (aj [])::(.call [] (bE k2) []::(rb 4 false []))) (A (aO.lit []) (A (MW n _ _ _ hk2) (R 4 (Bool.eq_false_iff.2 g3) T))) [(2,bE false)] ?_;cases h1;exact .lg hj1 []
def qO (n:Nat)  : Option (List (List UInt8)):=
 some [[],[108,97,109,98,100,97],[105,102],[113,117,111,116,101],[108,101,116],fP]
theorem EO (n:Nat):∀{r:List (List UInt8)},qO n  = some r→aC X.E 58 [] [] (lE 1 (aH r)) []:=by
 intro r h0;rw[qO] at h0;refine .n Tryz.func58 (fun L ks low K hl hL hlen hK=>?_);refine .a [] T [] ?_;refine .a [.sv (aH [[],[108,97,109,98,100,97],[105,102],[113,117,111,116,101],[108,101,116],fP])] (A (dZ.lit [[],[108,97,109,98,100,97],[105,102],[113,117,111,116,101],[108,101,116],fP]) T) [(0,fE 1 (aH [[],[108,97,109,98,100,97],[105,102],[113,117,111,116,101],[108,101,116],fP]))] ?_;cases h0;exact .rt hK
def ji (n:Nat)  : Option (Expansion):=
 (qO n).bind fun k1=>iterM n (fun(s2:Int×(List Bind))=>((if s2.1<(k1.length:Int) then(gW k1 s2.1).bind fun e6=>(jm 48 s2.2 [(⟨e6,[],s2.1⟩:Bind)]).bind fun z7=>some (Sum.inr ((aX (s2.1+1)),z7)) else some (Sum.inl (⟨s2.2,[],0,10,0⟩:Expansion))):Option (Expansion⊕(Int×(List Bind))))) (1,[])
theorem CS (n:Nat):∀{r:Expansion},ji n  = some r→aC X.E 146 [] [] (aE (au r)) []:=by
 intro r h0;rw[ji] at h0;refine .n Tryz.func146 (fun L ks low K hl hL hlen hK=>?_);refine .af [] T [(0,pw 0)] [.o 0 (.cells [fE 3 (aA []),fE 3 (cO []),iE 0,iE 0,iE 0])] ?_;refine .af [] T [(1,pw 1)] [.o 1 (.cells [fE 3 (aA []),fE 3 (cO []),iE 0,iE 10,iE 0])] ?_;obtain⟨k1,hk1,h0⟩:=bnd h0;refine .a [.call [] (lE 1 (aH k1)) []] (A (EO n  hk1) T) [(2,lE 1 (aH k1))] ?_;refine .a [] T [(3,iE 1)] ?_;refine .oc 1 0 100021 187 (by kernel_rfl) ?_;refine .it h0 rfl [0,1,2] (fun s2=>[(3,iE s2.1)]) (fun s2=>[.c 1 0 (.gs (.own 100021) 3 (aA s2.2)),.o 100021 (.tok (aA s2.2).length 187)]) n1 [] (by kernel_rfl) (fun nk3 s2 h0=>?_);obtain⟨y1,h1,hw1,hn1⟩:=bV h0;refine .a [.v (k1.length:Int)] (A (dZ.len' k1) T) [(9,dE (s2.1<(k1.length:Int)))] ?_;refine .sn 2 dZ k1 (by kernel_rfl) (fun hb4=>?_);refine .jP h1 (fun hc5 h1=>?_) (fun hc5 h1=>?_)
 ·obtain⟨e6,Xj,h1⟩:=bnd h1;obtain⟨z7,hz7,h1⟩:=bnd h1;refine .ad mixed [(4,[.cs [.s e6]]),(8,[.sv (aA [(⟨e6,[],s2.1⟩:Bind)])]),(9,[.sv (aA z7)])] [((aA s2.2).length:Int)] (A (dZ.idx Xj) (A (aY.lit [(⟨e6,[],s2.1⟩:Bind)]) (A (aY.ap hz7) T))) [] [.c 1 0 (.gs (.own 100021) 3 (aA z7)),.o 100021 (.tok (aA z7).length 187)] [] ?_;refine .a [.pl] T [(3,iE (aX (s2.1+1)))] ?_;cases h1;exact .nI rfl _ (hn1 _ rfl) [] (by kernel_rfl)
 ·refine .af [] T [] [.c 0 0 (.gs (.own 100021) 3 (aA s2.2)),.c 0 3 (iE 10)] ?_;cases h1;cases hw1 _ rfl;exact .rt hK
def kE (n:Nat) (a0:List Bind):Option (Bool):=
 iterM n (fun(s1:Int)=>(Option.bind ((if s1<(a0.length:Int) then some (decide (s1≤60)) else some false):Option (Bool)) (fun(o3:Bool)=>(if o3=true then Option.bind ((gW a0 s1).bind fun e16=>(jh n e16.name).bind fun k17=>(if(!k17)=true then some true else(kZ n e16.scopes).bind fun k19=>(if(!k19)=true then some true else(if e16.id<1 then some true else some (decide (e16.id>999))))):Option (Bool)) (fun(o5:Bool)=>(if o5=true then some (Sum.inl false) else iterM n (fun(s7:Int)=>((if s7<s1 then Option.bind ((gW a0 s7).bind fun e12=>(gW a0 s1).bind fun e13=>(if e12.name=e13.name then(uz n e12.scopes e13.scopes).bind fun k15=>some k15 else some false):Option (Bool)) (fun(nZ:Bool)=>(if nZ=true then some (Sum.inl (Sum.inl false)) else some (Sum.inr (aX (s7+1))))) else some (Sum.inl (Sum.inr (aX (s1+1))))):Option ((Bool⊕Int)⊕Int))) 0)) else some (Sum.inl (decide ((a0.length:Int)≤60))))):Option (Bool⊕Int))) 0
theorem jY (n:Nat):∀(a0:List Bind) {r:Bool},kE n a0=some r→aC X.E 200 [lE 3 (aA a0)] [] (bE r) []:=by
 intro a0 r h0;rw[kE] at h0;refine .n Tryz.func200 (fun L ks low K hl hL hlen hK=>?_);refine .a [] T [] ?_;refine .a [] T [(3,iE 0)] ?_;refine .it h0 rfl [0] (fun s1=>[(3,iE s1)]) n1 n1 [] (by kernel_rfl) (fun YW s1 h0=>?_);obtain⟨y1,h1,hw1,hn1⟩:=bV h0;refine .bP h1 rfl [0,3] (fun o3=>[(12,bE o3)]) n1 n1 (fun o3 h1=>?_) (fun y2 h2 hj2=>?_)
 ·refine .jT h1 (fun hc4 h1=>?_) (fun hc4 h1=>?_)
  ·refine .bP h1 rfl [0,3] (fun o5=>[(46,bE o5)]) n1 n1 (fun o5 h1=>?_) (fun y2 h2 hj2=>?_)
   ·refine .jT h1 (fun hc6 h1=>?_) (fun hc6 h1=>?_)
    ·refine .a [] T [(2,bE false)] ?_;cases h1;cases hw1 _ rfl;exact .rt hK
    ·refine .a [] T [(4,iE 0)] ?_;refine .it h1 rfl [0,3] (fun s7=>[(4,iE s7)]) n1 n1 [] (by kernel_rfl) (fun nk8 s7 h1=>?_);obtain⟨y2,h2,hw2,hn2⟩:=bV h1;refine .a [] T [(49,dE (s7<s1))] ?_;refine .jP h2 (fun fQ h2=>?_) (fun fQ h2=>?_)
     ·refine .bP h2 rfl [0,3,4] (fun nZ=>[(75,bE nZ)]) n1 n1 (fun nZ h2=>?_) (fun y3 h3 hj3=>?_)
      ·refine .jT h2 (fun bG h2=>?_) (fun bG h2=>?_)
       ·refine .a [] T [(2,bE false)] ?_;cases h2;cases hw2 _ rfl;cases hw1 _ rfl;exact .rt hK
       ·refine .a [.pl] T [(4,iE (aX (s7+1)))] ?_;cases h2;exact .nI rfl _ (hn2 _ rfl) [] (by kernel_rfl)
      ·obtain⟨e12,Ap,h3⟩:=bnd h3;obtain⟨e13,DY,h3⟩:=bnd h3;by_cases g14:e12.name=e13.name
       ·have h3:=aJ g14 h3;obtain⟨k15,qo,h3⟩:=bnd h3;refine .ad mixed ((2,[.cs (fB e12)])::((7,[.cs (fB e13)])::(qb 12 2 true ((14,[.b true,.cs (fB e12)])::(qb 15 4 true ((19,[.b true,.cs (fB e13)])::(qb 20 2 true [(22,[.b true,.call [] (bE k15) []]),(23,[.b true])]))))))) [] (A (aY.idx Ap) (A (aY.idx DY) (R 2 (dt g14) (A (A (dt g14) (aY.idx Ap)) (R 4 (dt g14) (A (A (dt g14) (aY.idx DY)) (R 2 (dt g14) (A (A (dt g14) (wz n _ _ qo)) (A (dt g14) T))))))))) [(75,bE k15)] [] [] ?_;cases h3;exact .lg hj3 []
       ·have h3:=aK g14 h3;refine .ad mixed ((2,[.cs (fB e12)])::((7,[.cs (fB e13)])::(qb 12 12 false []))) [] (A (aY.idx Ap) (A (aY.idx DY) (R 12 (df g14) T))) [(75,bE false)] [] [] ?_;cases h3;exact .lg hj3 []
     ·refine .a [.pl] T [(3,iE (aX (s1+1)))] ?_;cases h2;cases hw2 _ rfl;exact .nI rfl _ (hn1 _ rfl) [] (by kernel_rfl)
   ·obtain⟨e16,H6,h2⟩:=bnd h2;obtain⟨k17,CJ,h2⟩:=bnd h2;by_cases g18:(!k17)=true
    ·have h2:=aJ g18 h2;refine .a (.cs (fB e16)::(.call [] (bE k17) []::(rb 22 true []))) (A (aY.idx H6) (A (dG n _ CJ) (R 8 g18 (R 14 B1 T)))) [(46,bE true)] ?_;cases h2;exact .lg hj2 []
    ·have h2:=aK g18 h2;obtain⟨k19,Ar,h2⟩:=bnd h2;by_cases g20:(!k19)=true
     ·have h2:=aJ g20 h2;refine .a (.cs (fB e16)::(.call [] (bE k17) []::(rb 3 false (.cs (fB e16)::(rb 3 false (.call [] (bE k19) []::(.b false::(.b false::(rb 14 true []))))))))) (A (aY.idx H6) (A (dG n _ CJ) (R 2 (Bool.eq_false_iff.2 g18) (A (A (Bool.eq_false_iff.2 g18) (aY.idx H6)) (R 2 (Bool.eq_false_iff.2 g18) (A (A (Bool.eq_false_iff.2 g18) (iK n _ Ar)) (R 2 (Bool.eq_false_iff.2 g18) (R 7 g20 (R 7 B1 T))))))))) [(46,bE true)] ?_;cases h2;exact .lg hj2 []
     ·have h2:=aK g20 h2;by_cases g21:e16.id<1
      ·have h2:=aJ g21 h2;refine .a (.cs (fB e16)::(.call [] (bE k17) []::(rb 3 false (.cs (fB e16)::(rb 3 false (.call [] (bE k19) []::(rb 5 false (.cs (fB e16)::(rb 4 false (rb 7 true [])))))))))) (A (aY.idx H6) (A (dG n _ CJ) (R 2 (Bool.eq_false_iff.2 g18) (A (A (Bool.eq_false_iff.2 g18) (aY.idx H6)) (R 2 (Bool.eq_false_iff.2 g18) (A (A (Bool.eq_false_iff.2 g18) (iK n _ Ar)) (R 2 (Bool.eq_false_iff.2 g18) (R 2 (Bool.eq_false_iff.2 g20) (A (A (Bool.eq_false_iff.2 g20) (aY.idx H6)) (R 4 (Bool.eq_false_iff.2 g20) (R 7 (dt g21) T))))))))))) [(46,bE true)] ?_;cases h2;exact .lg hj2 []
      ·have h2:=aK g21 h2;refine .a (.cs (fB e16)::(.call [] (bE k17) []::(rb 3 false (.cs (fB e16)::(rb 3 false (.call [] (bE k19) []::(rb 5 false (.cs (fB e16)::(rb 7 false (.cs (fB e16)::(rb 4 false []))))))))))) (A (aY.idx H6) (A (dG n _ CJ) (R 2 (Bool.eq_false_iff.2 g18) (A (A (Bool.eq_false_iff.2 g18) (aY.idx H6)) (R 2 (Bool.eq_false_iff.2 g18) (A (A (Bool.eq_false_iff.2 g18) (iK n _ Ar)) (R 2 (Bool.eq_false_iff.2 g18) (R 2 (Bool.eq_false_iff.2 g20) (A (A (Bool.eq_false_iff.2 g20) (aY.idx H6)) (R 4 (Bool.eq_false_iff.2 g20) (R 2 (df g21) (A (A (df g21) (aY.idx H6)) (R 4 (df g21) T))))))))))))) [(46,dE (e16.id>999))] ?_;cases h2;exact .lg hj2 []
  ·refine .a [.v (a0.length:Int)] (A (aY.len' a0) T) [(2,dE ((a0.length:Int)≤60))] ?_;refine .sn 0 aY a0 (by kernel_rfl) (fun aiW=>?_);cases h1;cases hw1 _ rfl;exact .rt hK
 ·by_cases g23:s1<(a0.length:Int)
  ·have h2:=aJ g23 h2;refine .a (.v (a0.length:Int)::(rb 3 true [])) (A (aY.len' a0) (R 3 (dt g23) T)) [(12,dE (s1≤60))] ?_;refine .sn 0 aY a0 (by kernel_rfl) (fun acZ=>?_);cases h2;exact .lg hj2 []
  ·have h2:=aK g23 h2;refine .a (.v (a0.length:Int)::(rb 3 false [])) (A (aY.len' a0) (R 3 (df g23) T)) [(12,bE false)] ?_;refine .sn 0 aY a0 (by kernel_rfl) (fun aiX=>?_);cases h2;exact .lg hj2 []
def gK (n:Nat) (a0:Form):Option (Bool):=
 Option.bind ((if a0.kind=1 then some (decide (a0.name=[46,46,46])) else some false):Option (Bool)) (fun(o1:Bool)=>some o1)
theorem fZ (n:Nat):∀(a0:Form) {r:Bool},gK n a0=some r→aC X.E 214 [aE (ak a0)] [] (bE r) []:=by
 intro a0 r h0;rw[gK] at h0;refine .n Tryz.func214 (fun L ks low K hl hL hlen hK=>?_);refine .af [] T [(1,pw 1)] [.o 1 (.cells ((ak a0).map .d))] ?_;refine .bP h0 rfl [] (fun o1=>[(2,bE o1)]) n1 n1 (fun o1 h0=>?_) (fun y1 h1 hj1=>?_)
 ·cases h0;exact .rt hK
 ·by_cases g2:a0.kind=1
  ·have h1:=aJ g2 h1;refine .a (rb 4 true []) (R 4 (dt g2) T) [(2,dE (a0.name=[46,46,46]))] ?_;cases h1;exact .lg hj1 []
  ·have h1:=aK g2 h1;refine .a (rb 4 false []) (R 4 (df g2) T) [(2,bE false)] ?_;cases h1;exact .lg hj1 []
def wE (n:Nat) (a0:List Form) (a1:Form):Option (Bool):=
 bn (bI (fun(s2:Unit) (i1:Nat) (x4:Form)=>((fC n x4 a1).bind fun k10=>(if k10=true then some (Sum.inl true) else some (Sum.inr ())):Option (Bool⊕Unit))) 0 a0 ()) (fun(s2:Unit)=>some false)
theorem BZ (n:Nat):∀(a0:List Form) (a1:Form) {r:Bool},wE n a0 a1=some r→aC X.E 209 [lE 5 (ah a0),aE (ak a1)] [] (bE r) []:=by
 intro a0 a1 r h0;rw[wE] at h0;refine .n Tryz.func209 (fun L ks low K hl hL hlen hK=>?_);refine .af [] T [(3,pw 3)] [.o 3 (.cells ((ak a1).map .d))] ?_;refine .a [] T [(5,iE 0)] ?_;refine .lI h0 rfl [0,3] (fun i1 s2=>[(5,iE (i1:Int))]) n2 n2 [] (by kernel_rfl) (fun i1 s2 q3 hd5 U7 h0=>?_);refine .a [.v (a0.length:Int)] (A (ay.len' a0) T) [(9,dE ((i1:Int)<(a0.length:Int)))] ?_;refine .sn 0 ay a0 (by kernel_rfl) (fun hb8=>?_);refine .lc hd5 rfl (by kernel_rfl) (fun x4 q32 fQ hx4 hd6 qx=>?_) (fun fQ=>?_)
 ·subst fQ;obtain⟨y1,h1,hw1,hn1⟩:=aZ h0;obtain⟨k10,hk10,h1⟩:=bnd h1;refine .ad mixed [(2,[.cs (ak x4)]),(5,[.call [] (bE k10) []])] [] (A (ay.iV hx4) (A (iq n _ _ hk10) T)) [(17,bE k10)] [] [] ?_;refine .jT h1 (fun bG h1=>?_) (fun bG h1=>?_)
  ·refine .a [] T [(4,bE true)] ?_;cases h1;cases hw1 _ rfl;exact .rt hK
  ·refine .a [.v ((i1+1:Nat):Int)] (A (wn (i:=i1) (by omega)) T) [(5,iE ((i1+1:Nat):Int))] ?_;cases h1;exact .nL rfl (i1+1) _ hd6 qx (hn1 _ rfl) [] (by kernel_rfl)
 ·subst fQ;have h0:=bH h0;refine .a [] T [(4,bE false)] ?_;cases h0;exact .rt hK
def xK (n:Nat) (a0:Form) (a1:List Form):Option (Bool):=
 Option.bind ((if a0.kind=1 then(if ¬a0.name=[46,46,46] then(if ¬a0.name=[95] then(wE n a1 a0).bind fun k5=>some (!k5) else some false) else some false) else some false):Option (Bool)) (fun(o1:Bool)=>some o1)
theorem J4 (n:Nat):∀(a0:Form) (a1:List Form) {r:Bool},xK n a0 a1=some r→aC X.E 230 [aE (ak a0),lE 5 (ah a1)] [] (bE r) []:=by
 intro a0 a1 r h0;rw[xK] at h0;refine .n Tryz.func230 (fun L ks low K hl hL hlen hK=>?_);refine .af [] T [(2,pw 2)] [.o 2 (.cells ((ak a0).map .d))] ?_;refine .bP h0 rfl [] (fun o1=>[(4,bE o1)]) n1 n1 (fun o1 h0=>?_) (fun y1 h1 hj1=>?_)
 ·cases h0;exact .rt hK
 ·by_cases g2:a0.kind=1
  ·have h1:=aJ g2 h1;by_cases g3:¬a0.name=[46,46,46]
   ·have h1:=aJ g3 h1;by_cases g4:¬a0.name=[95]
    ·have h1:=aJ g4 h1;obtain⟨k5,hk5,h1⟩:=bnd h1;refine .a (rb 11 true [.call [] (bE k5) [],.b true,.b true]) (R 4 (dt g2) (R 4 (dt g3) (R 2 (dt g4) (A (A (dt g4) (BZ n _ _ hk5)) (R 2 (dt g4) T))))) [(4,bE (!k5))] ?_;cases h1;exact .lg hj1 []
    ·have h1:=aK g4 h1;refine .a (rb 8 true (rb 5 false [])) (R 4 (dt g2) (R 4 (dt g3) (R 5 (df g4) T))) [(4,bE false)] ?_;cases h1;exact .lg hj1 []
   ·have h1:=aK g3 h1;refine .a (rb 4 true (rb 9 false [])) (R 4 (dt g2) (R 4 (df g3) (R 5 B0 T))) [(4,bE false)] ?_;cases h1;exact .lg hj1 []
  ·have h1:=aK g2 h1;refine .a (rb 13 false []) (R 4 (df g2) (R 9 B0 T)) [(4,bE false)] ?_;cases h1;exact .lg hj1 []
def jM:Nat→(List Int)→Form→(List Form)→Int→Option (List Int)
 | 0,_,_,_,_=>none
 | n+1,a0,a1,a2,a3=>(xK n a1 a2).bind fun k1=>Option.bind ((if k1=true then(jm 8 a0 [a3]).bind fun z20=>some z20 else some a0):Option (List Int)) (fun(o2:List Int)=>Option.bind (dV (fun(s4:List Int) (i3:Nat) (x6:Form)=>Option.bind ((if((i3+1:Nat):Int)<(a1.kids.length:Int) then(gW a1.kids ((i3+1:Nat):Int)).bind fun e17=>(gK n e17).bind fun k18=>some k18 else some false):Option (Bool)) (fun(mJ:Bool)=>Option.bind ((if mJ=true then some (aX (a3+1)) else some a3):Option (Int)) (fun(Qo:Int)=>(jM n s4 x6 a2 Qo).bind fun k14=>some k14))) 0 a1.kids o2) (fun(s4:List Int)=>some s4))
theorem wM (n:Nat):∀(a0:List Int) (a1:Form) (a2:List Form) (a3:Int) {r:List Int},jM n a0 a1 a2 a3=some r→aC X.E 225 [.vs (.low 0) 1 ((aj a0).length),aE (ak a1),lE 5 (ah a2),iE a3] [some (.vec 3 1 (aj a0))] (.vs (.low 0) 1 ((aj r).length)) [.vec 3 1 (aj r)]:=by
 induction n with
 | zero=>intro a0 a1 a2 a3 r h; cases h
 | succ n ih=>
  intro a0 a1 a2 a3 r h0;rw[jM] at h0;refine .n Tryz.func225 (fun L ks low K hl hL hlen hK=>?_);refine .af [] T [(5,pw 5)] [.o 5 (.cells ((ak a1).map .d))] ?_;obtain⟨k1,hk1,h0⟩:=bnd h0;refine .a [.call [] (bE k1) []] (A (J4 n _ _ hk1) T) [(13,bE k1)] ?_;refine .bP h0 rfl [2,3,5] (fun o2=>[(0,.vs (.low 0) 1 ((aj o2).length))]) n1 (fun o2=>[.o 0 (.vec 3 1 (aj o2))]) (fun o2 h0=>?_) (fun y1 h1 hj1=>?_)
  ·refine .a [] T [(9,iE 0)] ?_;refine .lL h0 rfl [2,3,5] (fun i3 s4=>[(0,.vs (.low 0) 1 ((aj s4).length)),(9,iE (i3:Int))]) n2 (fun i3 s4=>[.o 0 (.vec 3 1 (aj s4))]) [] (by kernel_rfl) (fun i3 s4 q5 hd7 hi9 h0=>?_);refine .a [.v (a1.kids.length:Int)] (A (ay.len' a1.kids) T) [(20,lE 5 (ah a1.kids)),(22,dE ((i3:Int)<(a1.kids.length:Int)))] ?_;refine .sn 20 ay a1.kids (by kernel_rfl) (fun AA=>?_);refine .lc hd7 rfl (by kernel_rfl) (fun x6 MS bG hx6 hd8 jG=>?_) (fun bG=>?_)
   ·subst bG;obtain⟨y1,h1,hn1⟩:=bU h0;refine .a [] T [(10,iE a3)] ?_;refine .bP h1 rfl [0,2,3,5,9,10] (fun mJ=>[(40,bE mJ)]) n1 n1 (fun mJ h1=>?_) (fun y2 h2 hj2=>?_)
    ·refine .bP h1 rfl [0,2,3,5,9] (fun Qo=>[(10,iE Qo)]) n1 n1 (fun Qo h1=>?_) (fun y2 h2 hj2=>?_)
     ·obtain⟨k14,wL,h1⟩:=bnd h1;refine .ao [.cs (ak x6),.call [.low 0] (.vs (.low 0) 1 ((aj k14).length)) [.vec 3 1 (aj k14)]] (A (ay.iV hx6) (A (ih _ _ _ _ wL) T)) [(0,.vs (.low 0) 1 ((aj k14).length))] [.o 0 (.vec 3 1 (aj k14))] ?_;refine .a [.v ((i3+1:Nat):Int)] (A (wn (i:=i3) (by omega)) T) [(9,iE ((i3+1:Nat):Int))] ?_;cases h1;exact .nL rfl (i3+1) _ hd8 jG hn1 [] (by kernel_rfl)
     ·refine .jT h2 (fun wO h2=>?_) (fun wO h2=>?_)
      ·refine .a [.pl] T [(10,iE (aX (a3+1)))] ?_;cases h2;exact .lg hj2 []
      ·cases h2;exact .lg hj2 []
    ·by_cases g16:((i3+1:Nat):Int)<(a1.kids.length:Int)
     ·have h2:=aJ g16 h2;obtain⟨e17,aa9,h2⟩:=bnd h2;obtain⟨k18,pY,h2⟩:=bnd h2;refine .a (.v ((i3+1:Nat):Int)::(.v (a1.kids.length:Int)::(rb 4 true [.v ((i3+1:Nat):Int),.b true,.cs (ak e17),.b true,.b true,.call [] (bE k18) [],.b true]))) (A (wn (i:=i3) (by omega)) (A (ay.len' a1.kids) (R 3 (dt g16) (A (A (dt g16) (wn (i:=i3) (by omega))) (A (A (dt g16) (ay.idx aa9)) (A (dt g16) (A (A (dt g16) (fZ n _ pY)) (A (dt g16) T)))))))) [(40,bE k18)] ?_;cases h2;exact .lg hj2 []
     ·have h2:=aK g16 h2;refine .a (.v ((i3+1:Nat):Int)::(.v (a1.kids.length:Int)::(rb 8 false []))) (A (wn (i:=i3) (by omega)) (A (ay.len' a1.kids) (R 8 (df g16) T))) [(40,bE false)] ?_;cases h2;exact .lg hj2 []
   ·subst bG;have h0:=dF h0;refine .a [] T [(8,.vs (.low 0) 1 ((aj s4).length))] ?_;refine .kp [8] [] ?_;refine .dr 5 (by kernel_rfl) ?_;cases h0;exact .rt hK
  ·refine .jT h1 (fun hc19 h1=>?_) (fun hc19 h1=>?_)
   ·obtain⟨z20,ag5,h1⟩:=bnd h1;refine .ao [.sv (aj [a3]),.sv (aj z20)] (A (aO.lit [a3]) (A (A (aO.ap ag5) (rfl:(aj a0).length=(aj a0).length)) T)) [(0,.vs (.low 0) 1 ((aj z20).length))] [.o 0 (.vec 3 1 (aj z20))] ?_;cases h1;exact .lg hj1 []
   ·cases h1;exact .lg hj1 []
end Go.Ev
