/- Models of the functions that FnHeadsOf reaches. No condition. -/
import Derived.Test.YtindmpmlodllmaaGreatDoorEvTri
import Derived.Test.YtindmpmlodllmaaGreatDoorProg
import Derived.KernelRfl
import Derived.Test.YtindmpmlodllmaaGreatDoorShR6
namespace Go.Ev
open Go.Proofs Go.Mx
set_option linter.unusedVariables false
set_option maxRecDepth 10000
def tT:List (Nat×(Nat×Nat×fG)):=[(3,(1,8,.int .i64)),(5,(1,1,.int .u8)),(9,(1,16,.str)),(22,(1,24,.slice 5)),(23,(1,24,.slice 3)),(24,(1,24,.slice 26)),(26,(5,80,.struct [(0,1),(1,1),(2,1),(3,1),(4,1)])),(27,(1,24,.slice 29)),(29,(11,168,.struct [(0,1),(1,1),(2,1),(3,1),(4,1),(5,5),(10,1)])),(36,(1,24,.slice 9)),(52,(6,96,.array 6 9)),(100,(2,32,.struct [(0,1),(1,1)])),(103,(1,24,.slice 146)),(104,(1,24,.slice 172)),(106,(5,72,.struct [(0,1),(1,1),(2,1),(3,1),(4,1)])),(146,(3,48,.struct [(0,1),(1,1),(2,1)])),(170,(1,24,.slice 189)),(172,(3,56,.struct [(0,1),(1,1),(2,1)])),(189,(10,160,.struct [(0,5),(5,5)])),(192,(1,24,.slice 204)),(204,(12,192,.struct [(0,5),(5,1),(6,5),(11,1)])),(213,(1,24,.slice 192))]
def tZ:List (Nat×List KD):=[(3,[.v (.int .i64 0)]),(9,[.s []]),(23,[.sl 1 true (ah [])]),(26,[.v (.int .i64 0),.s [],.v (.int .i64 0),.sl 1 true (ah []),.sl 5 true (aj [])]),(29,[.v (.int .i64 0),.v (.int .i64 0),.s [],.v (.int .i64 0),.sl 1 true (ah []),.v (.int .i64 0),.s [],.v (.int .i64 0),.sl 1 true (ah []),.sl 5 true (aj []),.sl 11 true (aG [])]),(100,[.sl 1 true (je []),.v (.int .i64 0)]),(106,[.sl 3 true (ay []),.sl 3 true (bW []),.v (.int .i64 0),.v (.int .i64 0),.v (.int .i64 0)]),(146,[.s [],.sl 1 true (ah []),.v (.int .i64 0)]),(172,[.v (.int .i64 0),.sl 5 true (aj []),.sl 10 true (dP [])]),(189,[.v (.int .i64 0),.s [],.v (.int .i64 0),.sl 1 true (ah []),.sl 5 true (aj []),.v (.int .i64 0),.s [],.v (.int .i64 0),.sl 1 true (ah []),.sl 5 true (aj [])]),(192,[.sl 12 true (aO [])]),(204,[.v (.int .i64 0),.s [],.v (.int .i64 0),.sl 1 true (ah []),.sl 5 true (aj []),.v (.int .i64 0),.v (.int .i64 0),.s [],.v (.int .i64 0),.sl 1 true (ah []),.sl 5 true (aj []),.sl 12 true (aO [])])]
theorem acT:allT (fun i x=>aS Tryz.prog i=some x) tT:=by
 refine⟨?_,?_,?_,?_,?_,?_,?_,?_,?_,?_,?_,?_,?_,?_,?_,?_,?_,?_,?_,?_,?_,?_,trivial⟩ <;> (show aS _ _=_; kernel_rfl)
theorem acU:allT (fun i x=>∃zs,gQ Tryz.prog i=some zs∧jV (KD.DL x) zs) tZ:=
 ⟨⟨_,(by kernel_rfl:gQ Tryz.prog 3=some [.int .i64 0]),(.v .nil)⟩,⟨_,(by kernel_rfl:gQ Tryz.prog 9=some [.string (mkS [])]),(.v .nil)⟩,⟨_,(by kernel_rfl:gQ Tryz.prog 23=some [.slice none 0 0]),(.sl .nil)⟩,⟨_,(by kernel_rfl:gQ Tryz.prog 26=some [.int .i64 0,.string (mkS []),.int .i64 0,.slice none 0 0,.slice none 0 0]),(.v (.v (.v (.sl (.sl .nil)))))⟩,⟨_,(by kernel_rfl:gQ Tryz.prog 29=some [.int .i64 0,.int .i64 0,.string (mkS []),.int .i64 0,.slice none 0 0,.int .i64 0,.string (mkS []),.int .i64 0,.slice none 0 0,.slice none 0 0,.slice none 0 0]),(.v (.v (.v (.v (.sl (.v (.v (.v (.sl (.sl (.sl .nil)))))))))))⟩,⟨_,(by kernel_rfl:gQ Tryz.prog 100=some [.slice none 0 0,.int .i64 0]),(.sl (.v .nil))⟩,⟨_,(by kernel_rfl:gQ Tryz.prog 106=some [.slice none 0 0,.slice none 0 0,.int .i64 0,.int .i64 0,.int .i64 0]),(.sl (.sl (.v (.v (.v .nil)))))⟩,⟨_,(by kernel_rfl:gQ Tryz.prog 146=some [.string (mkS []),.slice none 0 0,.int .i64 0]),(.v (.sl (.v .nil)))⟩,⟨_,(by kernel_rfl:gQ Tryz.prog 172=some [.int .i64 0,.slice none 0 0,.slice none 0 0]),(.v (.sl (.sl .nil)))⟩,⟨_,(by kernel_rfl:gQ Tryz.prog 189=some [.int .i64 0,.string (mkS []),.int .i64 0,.slice none 0 0,.slice none 0 0,.int .i64 0,.string (mkS []),.int .i64 0,.slice none 0 0,.slice none 0 0]),(.v (.v (.v (.sl (.sl (.v (.v (.v (.sl (.sl .nil))))))))))⟩,⟨_,(by kernel_rfl:gQ Tryz.prog 192=some [.slice none 0 0]),(.sl .nil)⟩,⟨_,(by kernel_rfl:gQ Tryz.prog 204=some [.int .i64 0,.string (mkS []),.int .i64 0,.slice none 0 0,.slice none 0 0,.int .i64 0,.int .i64 0,.string (mkS []),.int .i64 0,.slice none 0 0,.slice none 0 0,.slice none 0 0]),(.v (.v (.v (.sl (.sl (.v (.v (.v (.v (.sl (.sl (.sl .nil))))))))))))⟩,trivial⟩
def XY:List (List UInt8):=[[108,105,115,116],[43],[60],[61],[104,101,97,100],[116,97,105,108]]
def gp0:List KD:=[.s [108,105,115,116],.s [43],.s [60],.s [61],.s [104,101,97,100],.s [116,97,105,108]]
def RP:Nat→KD
 | 0=>.ro gp0
 | _=>.any
noncomputable def E0:Setting:=⟨Tryz.prog,fun g=>(RP g).D,fun g=>KD.kT _ _⟩
noncomputable def X:Ctx:=⟨E0,RP,fun _=>rfl,⟨lkT tT,lkT tZ,Qi acT,Qi acU⟩⟩
theorem mixed:X.E.P.follows .mixedOrders=true:=by kernel_rfl
def tJ:List UInt8:=[40,43,32,49,32,108,105,115,116,41]
def lN:List UInt8:=[40,104,101,97,100,32,40,116,97,105,108,32,40,108,105,115,116,32,49,32,50,32,51,41,41,41]
def lQ:List UInt8:=[40,105,102,32,48,32,49,32,40,113,117,111,116,101,32,40,97,32,40,98,41,32,51,41,41,41]
def lS:List UInt8:=[40,40,108,97,109,98,100,97,32,40,119,41,32,40,119,32,119,41,41,32,40,108,97,109,98,100,97,32,40,119,41,32,40,119,32,119,41,41,41]
def lT:List UInt8:=[40,108,97,109,98,100,97,32,40,120,41,32,40,108,97,109,98,100,97,32,40,120,32,121,41,32,40,120,32,121,32,40,113,117,111,116,101,32,40,120,32,49,41,41,41,41,41]
def lU:List UInt8:=[40,40,108,97,109,98,100,97,32,40,120,41,32,120,41,41]
def lV:List UInt8:=[40,40,108,97,109,98,100,97,32,40,120,32,121,41,32,40,108,105,115,116,32,121,32,120,41,41,32,49,32,50,41]
def lW:List UInt8:=[40,108,101,116,32,40,40,102,32,40,108,97,109,98,100,97,32,40,120,41,32,40,43,32,120,32,49,41,41,41,41,32,40,102,32,40,102,32,53,41,41,41]
def lX:List UInt8:=[40,108,101,116,32,40,40,103,32,40,108,97,109,98,100,97,32,40,104,41,32,40,108,97,109,98,100,97,32,40,120,41,32,40,104,32,40,104,32,120,41,41,41,41,41,41,32,40,40,103,32,40,108,97,109,98,100,97,32,40,110,41,32,40,43,32,110,32,110,41,41,41,32,51,41,41]
def lY:List UInt8:=[40,108,101,116,32,40,40,105,102,32,108,105,115,116,41,41,32,40,108,101,116,45,115,121,110,116,97,120,32,40,40,109,32,40,114,117,108,101,115,32,40,41,32,40,40,95,32,97,41,32,40,105,102,32,97,32,49,32,50,41,41,41,41,41,32,40,109,32,53,41,41,41]
def lZ:List UInt8:=[40,108,101,116,45,115,121,110,116,97,120,32,40,40,100,101,102,32,40,114,117,108,101,115,32,40,41,32,40,40,95,32,110,32,101,32,98,41,32,40,108,101,116,32,40,40,110,32,101,41,41,32,98,41,41,41,41,41,32,40,100,101,102,32,122,32,51,32,40,43,32,122,32,122,41,41,41]
def l7:List UInt8:=[40,108,101,116,45,115,121,110,116,97,120,32,40,40,107,32,40,114,117,108,101,115,32,40,101,108,115,101,41,32,40,40,95,32,101,108,115,101,32,97,41,32,97,41,32,40,40,95,32,98,32,97,41,32,40,108,105,115,116,32,98,32,97,41,41,41,41,41,32,40,107,32,101,108,115,101,32,52,41,41]
def l9:List UInt8:=[40,108,101,116,45,115,121,110,116,97,120,32,40,40,109,32,40,114,117,108,101,115,32,40,41,32,40,40,95,32,97,41,32,40,105,102,32,97,32,49,32,50,41,41,41,41,41,32,40,108,101,116,32,40,40,105,102,32,108,105,115,116,41,41,32,40,109,32,105,102,41,41,41]
def mg:List UInt8:=[40,108,101,116,45,115,121,110,116,97,120,32,40,40,107,32,40,114,117,108,101,115,32,40,101,108,115,101,41,32,40,40,95,32,101,108,115,101,32,97,41,32,97,41,32,40,40,95,32,98,32,97,41,32,40,108,105,115,116,32,98,32,97,41,41,41,41,41,32,40,108,101,116,32,40,40,101,108,115,101,32,51,41,41,32,40,107,32,101,108,115,101,32,52,41,41,41]
def iw:List UInt8:=[108,101,116,45,115,121,110,116,97,120]
def mD:List UInt8:=[40,108,101,116,45,115,121,110,116,97,120,32,40,40,111,114,32,40,114,117,108,101,115,32,40,41,32,40,40,95,41,32,48,41,32,40,40,95,32,97,41,32,97,41,32,40,40,95,32,97,32,98,32,46,46,46,41,32,40,108,101,116,32,40,40,116,32,97,41,41,32,40,105,102,32,116,32,116,32,40,111,114,32,98,32,46,46,46,41,41,41,41,41,41,41,32,40,108,101,116,32,40,40,116,32,53,41,41,32,40,111,114,32,48,32,116,32,55,41,41,41]
def mF:List UInt8:=[40,108,101,116,45,115,121,110,116,97,120,32,40,40,109,121,32,40,114,117,108,101,115,32,40,41,32,40,40,95,32,102,41,32,40,108,97,109,98,100,97,32,40,120,41,32,40,102,32,120,41,41,41,41,41,41,32,40,108,101,116,32,40,40,120,32,51,41,41,32,40,40,109,121,32,40,108,97,109,98,100,97,32,40,121,41,32,40,43,32,120,32,121,41,41,41,32,52,41,41,41]
def mG:List UInt8:=[40,108,101,116,45,115,121,110,116,97,120,32,40,40,111,114,32,40,114,117,108,101,115,32,40,41,32,40,40,95,41,32,48,41,32,40,40,95,32,97,32,98,32,46,46,46,41,32,40,108,101,116,32,40,40,116,32,97,41,41,32,40,105,102,32,116,32,116,32,40,111,114,32,98,32,46,46,46,41,41,41,41,41,41,41,32,40,108,101,116,32,40,40,116,32,53,41,41,32,40,111,114,32,48,32,116,41,41,41]
def mJ:List UInt8:=[40,108,101,116,45,115,121,110,116,97,120,32,40,40,108,111,111,112,32,40,114,117,108,101,115,32,40,41,32,40,40,95,41,32,40,108,111,111,112,41,41,41,41,41,32,40,108,111,111,112,41,41]
def mM:List UInt8:=[40,108,101,116,45,115,121,110,116,97,120,32,40,40,119,105,116,104,32,40,114,117,108,101,115,32,40,41,32,40,40,95,32,40,40,120,32,118,41,32,46,46,46,41,32,98,111,100,121,41,32,40,40,108,97,109,98,100,97,32,40,120,32,46,46,46,41,32,98,111,100,121,41,32,118,32,46,46,46,41,41,41,41,41,32,40,119,105,116,104,32,40,40,112,32,49,41,32,40,113,32,50,41,41,32,40,43,32,112,32,113,41,41,41]
def mO:List UInt8:=[40,108,101,116,45,115,121,110,116,97,120,32,40,40,116,119,111,32,40,114,117,108,101,115,32,40,41,32,40,40,95,32,110,41,32,40,108,97,109,98,100,97,32,40,110,32,120,41,32,40,43,32,110,32,120,41,41,41,41,41,41,32,40,116,119,111,32,120,41,41]
def mP:List UInt8:=[40,108,101,116,45,115,121,110,116,97,120,32,40,40,97,32,40,114,117,108,101,115,32,40,41,32,40,40,95,32,120,41,32,40,98,32,120,41,41,41,41,32,40,98,32,40,114,117,108,101,115,32,40,41,32,40,40,95,32,121,41,32,40,108,105,115,116,32,121,32,121,41,41,41,41,41,32,40,97,32,55,41,41]
def mQ:List UInt8:=[40,108,101,116,45,115,121,110,116,97,120,32,40,40,109,32,40,114,117,108,101,115,32,40,41,32,40,40,95,32,97,41,32,49,41,41,41,41,32,40,109,41,41]
def mV:List UInt8:=[40,108,101,116,32,40,40,116,109,112,32,53,41,32,40,122,32,54,41,41,32,40,108,101,116,45,115,121,110,116,97,120,32,40,40,115,119,97,112,32,40,114,117,108,101,115,32,40,41,32,40,40,95,32,97,32,98,41,32,40,108,101,116,32,40,40,116,109,112,32,97,41,41,32,40,108,105,115,116,32,98,32,116,109,112,41,41,41,41,41,41,32,40,115,119,97,112,32,116,109,112,32,122,41,41,41]
def mW:List UInt8:=[40,108,101,116,32,40,40,120,32,49,41,32,40,121,32,50,41,41,32,40,108,101,116,45,115,121,110,116,97,120,32,40,40,115,119,97,112,32,40,114,117,108,101,115,32,40,41,32,40,40,95,32,97,32,98,41,32,40,108,101,116,32,40,40,116,109,112,32,97,41,41,32,40,108,105,115,116,32,98,32,116,109,112,41,41,41,41,41,41,32,40,115,119,97,112,32,120,32,121,41,41,41]
def mX:List UInt8:=[40,108,105,115,116,32,40,60,32,49,32,50,41,32,40,61,32,49,32,50,41,32,40,108,97,109,98,100,97,32,40,120,41,32,120,41,32,108,105,115,116,41]
def Bl:List UInt8:=[40,114,117,108,101,115,32,40,41,32,40,40,95,32,97,32,98,41,32,40,108,101,116,32,40,40,116,32,97,41,41,32,40,108,105,115,116,32,98,32,116,41,41,41,32,40,40,95,32,97,41,32,40,108,101,116,32,40,40,120,32,97,41,41,32,40,108,105,115,116,32,120,32,97,41,41,41,41]
def oG:List UInt8:=[117,110,107,110,111,119,110]
def fJ:Nat→Core→Option (Int)
 | 0,_=>none
 | n+1,a0=>Option.bind (dR (fun(s3:Int) (i2:Nat) (x5:Core)=>(fJ n x5).bind fun k10=>some (if k10>s3 then k10 else s3)) 0 a0.kids 0) (fun(s3:Int)=>Option.bind ((if a0.kind=5 then some (aT (s3+1)) else some s3):Option (Int)) (fun(Ei:Int)=>some Ei))
theorem fF (n:Nat):∀(a0:Core) {r:Int},fJ n a0=some r→aF X.E 11 [aE (aI a0)] [] (iE r) []:=by
 induction n with
 | zero=>intro a0 r h; cases h
 | succ n ih=>
  intro a0 r h0;rw[fJ] at h0;refine .n Tryz.func11 (fun L ks low K hl hL hlen hK=>?_);refine .af [] T [(1,pw 1)] [.o 1 (.cells ((aI a0).map .d))] ?_;refine .a [] T [(3,iE 0)] ?_;refine .a [.v (a0.kids.length:Int)] (A (bI.len' a0.kids) T) [(7,lE 11 (aG a0.kids)),(8,iE (a0.kids.length:Int)),(9,iE 0)] ?_;refine .sn 7 bI a0.kids (by kernel_rfl) (fun hb1=>?_);refine .lL h0 rfl [1,7,8] (fun i2 s3=>[(3,iE s3),(9,iE (i2:Int))]) n2 n2 [] (by kernel_rfl) (fun i2 s3 q4 hd6 XZ h0=>?_);refine .a [] T [(10,dE ((i2:Int)<(a0.kids.length:Int)))] ?_;refine .lc hd6 rfl (by kernel_rfl) (fun x5 Wu fU hx5 hd7 vC=>?_) (fun fU=>?_)
  ·subst fU;obtain⟨y1,h1,hn1⟩:=bZ h0;refine .af [.cs (aI x5)] (A (bI.jf hx5) T) [(5,pw 5)] [.o 5 (.cells ((aI x5).map .d))] ?_;obtain⟨k10,hk10,h1⟩:=bnd h1;refine .a [.call [] (iE k10) []] (A (ih _ hk10) T) [(3,iE (if k10>s3 then k10 else s3))] ?_;refine .a [.v ((i2+1:Nat):Int)] (A (wn (i:=i2) (by omega)) T) [(9,iE ((i2+1:Nat):Int))] ?_;cases h1;refine .kp [1,3,7,8,9] [] ?_;refine .dr 5 (by kernel_rfl) ?_;exact .nL rfl (i2+1) _ hd7 vC hn1 [] (by kernel_rfl)
  ·subst fU;have h0:=dH h0;refine .a [] T [(20,dE (a0.kind=5))] ?_;refine .bP h0 rfl [] (fun Ei=>[(3,iE Ei)]) n1 n1 (fun Ei h0=>?_) (fun y1 h1 hj1=>?_)
   ·refine .a [] T [(2,iE Ei)] ?_;cases h0;exact .rt hK
   ·refine .jP h1 (fun hc12 h1=>?_) (fun hc12 h1=>?_)
    ·refine .a [.pl] T [(3,iE (aT (s3+1)))] ?_;cases h1;exact .lg hj1 []
    ·cases h1;exact .lg hj1 []
def iO (n:Nat) (a0:Int) (a1:Int) (a2:Int):Option (Bool):=
 Option.bind ((if a0≥a1 then some (decide (a0≤a2)) else some false):Option (Bool)) (fun(o1:Bool)=>some o1)
theorem gu (n:Nat):∀(a0:Int) (a1:Int) (a2:Int) {r:Bool},iO n a0 a1 a2=some r→aF X.E 32 [iE a0,iE a1,iE a2] [] (bE r) []:=by
 intro a0 a1 a2 r h0;rw[iO] at h0;refine .n Tryz.func32 (fun L ks low K hl hL hlen hK=>?_);refine .a [] T [] ?_;refine .bP h0 rfl [] (fun o1=>[(6,bE o1)]) n1 n1 (fun o1 h0=>?_) (fun y1 h1 hj1=>?_)
 ·cases h0;exact .rt hK
 ·by_cases g2:a0≥a1
  ·have h1:=aJ g2 h1;refine .a (rb 4 true []) (R 4 (dt g2) T) [(6,dE (a0≤a2))] ?_;cases h1;exact .lg hj1 []
  ·have h1:=aK g2 h1;refine .a (rb 4 false []) (R 4 (df g2) T) [(6,bE false)] ?_;cases h1;exact .lg hj1 []
def strings_IndexByte (n:Nat) (a0:List UInt8) (a1:Int):Option Int:=some (Lib.indexByte a0 a1.toNat.toUInt8)
theorem rG (n:Nat):∀(a0:List UInt8) (a1:Int) {r:Int},strings_IndexByte n a0 a1=some r→aF X.E 60 [sE a0,.d (.v (.int .u8 a1))] [] (iE r) []:=by
 intro a0 a1 r h0;cases h0;exact aF.Wp Tryz.func60 rfl rfl (fun _=>rfl) (fun _=>rfl) (fun w=>Tryz.strings_IndexByte (mkS a0) a1 w)
def kX (n:Nat) (a0:List UInt8):Option (Bool):=
 Option.bind ((if a0=[46,46,46] then some true else some (decide (a0=[95]))):Option (Bool)) (fun(o1:Bool)=>(if o1=true then some true else iterM n (fun(s3:Int)=>((if s3<(a0.length:Int) then bG ((gG a0 s3).bind fun y7=>Option.bind ((if(y7.toNat:Int)≥97 then(if(y7.toNat:Int)≤122 then some true else(strings_IndexByte n [42,63,61,43,60] (y7.toNat:Int)).bind fun k17=>some (decide (k17≥0))) else(strings_IndexByte n [42,63,61,43,60] (y7.toNat:Int)).bind fun k18=>some (decide (k18≥0))):Option (Bool)) (fun(o8:Bool)=>(if o8=true then some (Sum.inr ()) else Option.bind ((if s3>0 then(if(y7.toNat:Int)≥48 then(if(y7.toNat:Int)≤57 then some true else some (decide ((y7.toNat:Int)=45))) else some (decide ((y7.toNat:Int)=45))) else some false):Option (Bool)) (fun(kS:Bool)=>(if kS=true then some (Sum.inr ()) else some (Sum.inl (Sum.inl false)))))):Option ((Bool⊕Int)⊕Unit)) (fun(o6:Unit)=>some (Sum.inr (aT (s3+1)))) else(iO n (a0.length:Int) 1 12).bind fun k19=>some (Sum.inl k19)):Option (Bool⊕Int))) 0))
theorem kG (n:Nat):∀(a0:List UInt8) {r:Bool},kX n a0=some r→aF X.E 39 [sE a0] [] (bE r) []:=by
 intro a0 r h0;rw[kX] at h0;refine .n Tryz.func39 (fun L ks low K hl hL hlen hK=>?_);refine .a [] T [] ?_;refine .bP h0 rfl [0] (fun o1=>[(10,bE o1)]) n1 n1 (fun o1 h0=>?_) (fun y1 h1 hj1=>?_)
 ·refine .jT h0 (fun hc2 h0=>?_) (fun hc2 h0=>?_)
  ·refine .a [] T [(2,bE true)] ?_;cases h0;exact .rt hK
  ·refine .a [] T [(3,iE 0)] ?_;refine .it h0 rfl [0] (fun s3=>[(3,iE s3)]) n1 n1 [] (by kernel_rfl) (fun nk4 s3 h0=>?_);obtain⟨y1,h1,hw1,hn1⟩:=cO h0;refine .a [] T [(14,dE (s3<(a0.length:Int)))] ?_;refine .jP h1 (fun hc5 h1=>?_) (fun hc5 h1=>?_)
   ·refine .bSB h1 rfl [0,3] (fun o6=>[]) n1 n1 (fun o6 h1=>?_) (fun y2 h2 hj2 hw2=>?_)
    ·refine .a [.pl] T [(3,iE (aT (s3+1)))] ?_;cases h1;exact .nI rfl _ (hn1 _ rfl) [] (by kernel_rfl)
    ·obtain⟨y7,hy7,h2⟩:=bnd h2;refine .a [.CG y7] (A (DU hy7) T) [(4,.d (.v (.int .u8 (y7.toNat:Int))))] ?_;refine .bP h2 rfl [0,3,4] (fun o8=>[(20,bE o8)]) n1 n1 (fun o8 h2=>?_) (fun y3 h3 hj3=>?_)
     ·refine .jT h2 (fun fU h2=>?_) (fun fU h2=>?_)
      ·cases h2;exact .lg (hj2 _ rfl) []
      ·refine .bP h2 rfl [0,3] (fun kS=>[(32,bE kS)]) n1 n1 (fun kS h2=>?_) (fun y3 h3 hj3=>?_)
       ·refine .jT h2 (fun bJ h2=>?_) (fun bJ h2=>?_)
        ·cases h2;exact .lg (hj2 _ rfl) []
        ·refine .a [] T [(2,bE false)] ?_;cases h2;cases hw2 _ rfl;cases hw1 _ rfl;exact .rt hK
       ·by_cases g12:s3>0
        ·have h3:=aJ g12 h3;by_cases g13:(y7.toNat:Int)≥48
         ·have h3:=aJ g13 h3;by_cases g14:(y7.toNat:Int)≤57
          ·have h3:=aJ g14 h3;refine .a (rb 13 true []) (R 3 (dt g12) (R 2 (dt g13) (A (A (dt g12) (dt g13)) (A (dt g12) (R 2 (dt g14) (A (A (dt g12) (dt g14)) (A (dt g12) T))))))) [(32,bE true)] ?_;cases h3;exact .lg hj3 []
          ·have h3:=aK g14 h3;refine .a (rb 8 true [.b false,.b false,.b true,.b false,.b true]) (R 3 (dt g12) (R 2 (dt g13) (A (A (dt g12) (dt g13)) (A (dt g12) (R 2 (df g14) (A (A (dt g12) (df g14)) (A (dt g12) T))))))) [(32,dE ((y7.toNat:Int)=45))] ?_;cases h3;exact .lg hj3 []
         ·have h3:=aK g13 h3;refine .a (rb 3 true [.b false,.b false,.b true,.b false,.b true,.b false,.b false,.b true,.b false,.b true]) (R 3 (dt g12) (R 2 (df g13) (A (A (dt g12) (df g13)) (A (dt g12) (R 2 B0 (A (A (dt g12) B0) (A (dt g12) T))))))) [(32,dE ((y7.toNat:Int)=45))] ?_;cases h3;exact .lg hj3 []
        ·have h3:=aK g12 h3;refine .a (rb 7 false []) (R 7 (df g12) T) [(32,bE false)] ?_;cases h3;exact .lg hj3 []
     ·by_cases g15:(y7.toNat:Int)≥97
      ·have h3:=aJ g15 h3;by_cases g16:(y7.toNat:Int)≤122
       ·have h3:=aJ g16 h3;refine .a (rb 7 true []) (R 3 (dt g15) (R 4 (dt g16) T)) [(20,bE true)] ?_;cases h3;exact .lg hj3 []
       ·have h3:=aK g16 h3;obtain⟨k17,wH,h3⟩:=bnd h3;refine .a (rb 3 true [.b false,.b false,.call [] (iE k17) [],.b false,.b false]) (R 3 (dt g15) (A (df g16) (A (A (df g16) (rG n _ _ wH)) (R 2 (df g16) T)))) [(20,dE (k17≥0))] ?_;cases h3;exact .lg hj3 []
      ·have h3:=aK g15 h3;obtain⟨k18,oV,h3⟩:=bnd h3;refine .a (rb 5 false [.call [] (iE k18) [],.b false,.b false]) (R 3 (df g15) (A B0 (A (A B0 (rG n _ _ oV)) (R 2 B0 T)))) [(20,dE (k18≥0))] ?_;cases h3;exact .lg hj3 []
   ·obtain⟨k19,wI,h1⟩:=bnd h1;refine .a [.call [] (bE k19) []] (A (gu n _ _ _ wI) T) [(2,bE k19)] ?_;cases h1;cases hw1 _ rfl;exact .rt hK
 ·by_cases g20:a0=[46,46,46]
  ·have h1:=aJ g20 h1;refine .a (rb 3 true []) (R 3 (dt g20) T) [(10,bE true)] ?_;cases h1;exact .lg hj1 []
  ·have h1:=aK g20 h1;refine .a (rb 3 false []) (R 3 (df g20) T) [(10,dE (a0=[95]))] ?_;cases h1;exact .lg hj1 []
def qK (n:Nat) (a0:List Int):Option (Bool):=
 bG (bM (fun(s3:Unit) (i2:Nat) (x5:Int)=>(Option.bind ((iO n x5 1 99).bind fun k12=>(if(!k12)=true then some true else(if(i2:Int)>0 then(gG a0 (aT ((i2:Int)-1))).bind fun e15=>some (decide (e15≥x5)) else some false)):Option (Bool)) (fun(kS:Bool)=>(if kS=true then some (Sum.inl false) else some (Sum.inr ()))):Option (Bool⊕Unit))) 0 a0 ()) (fun(s3:Unit)=>some (decide ((a0.length:Int)≤24)))
theorem Bo (n:Nat):∀(a0:List Int) {r:Bool},qK n a0=some r→aF X.E 82 [lE 1 (ah a0)] [] (bE r) []:=by
 intro a0 r h0;rw[qK] at h0;refine .n Tryz.func82 (fun L ks low K hl hL hlen hK=>?_);refine .a [] T [] ?_;refine .a [.v (a0.length:Int)] (A (aH.len' a0) T) [(5,lE 1 (ah a0)),(6,iE (a0.length:Int)),(7,iE 0)] ?_;refine .sn 0 aH a0 (by kernel_rfl) (fun hb1=>?_);refine .lI h0 rfl [0,5,6] (fun i2 s3=>[(7,iE (i2:Int))]) n2 n2 [] (by kernel_rfl) (fun i2 s3 q4 hd6 XZ h0=>?_);refine .a [] T [(8,dE ((i2:Int)<(a0.length:Int)))] ?_;refine .lc hd6 rfl (by kernel_rfl) (fun x5 Wu fU hx5 hd7 vC=>?_) (fun fU=>?_)
 ·subst fU;obtain⟨y1,h1,hw1,hn1⟩:=bD h0;refine .a [.cs [.v (.int .i64 x5)]] (A (aH.jf hx5) T) [(3,iE (i2:Int)),(4,iE x5)] ?_;refine .bP h1 rfl [0,5,6,7] (fun kS=>[(27,bE kS)]) n1 n1 (fun kS h1=>?_) (fun y2 h2 hj2=>?_)
  ·refine .jT h1 (fun bJ h1=>?_) (fun bJ h1=>?_)
   ·refine .a [] T [(2,bE false)] ?_;cases h1;cases hw1 _ rfl;exact .rt hK
   ·refine .a [.v ((i2+1:Nat):Int)] (A (wn (i:=i2) (by omega)) T) [(7,iE ((i2+1:Nat):Int))] ?_;cases h1;exact .nL rfl (i2+1) _ hd7 vC (hn1 _ rfl) [] (by kernel_rfl)
  ·obtain⟨k12,hk12,h2⟩:=bnd h2;by_cases g13:(!k12)=true
   ·have h2:=aJ g13 h2;refine .a (.call [] (bE k12) []::(rb 5 true [])) (A (gu n _ _ _ hk12) (R 5 g13 T)) [(27,bE true)] ?_;cases h2;exact .lg hj2 []
   ·have h2:=aK g13 h2;by_cases g14:(i2:Int)>0
    ·have h2:=aJ g14 h2;obtain⟨e15,Wv,h2⟩:=bnd h2;refine .a (.call [] (bE k12) []::(rb 3 false (rb 3 true (.pl::(.b true::(.cs [.v (.int .i64 e15)]::(rb 3 true [.b false,.b true,.b false]))))))) (A (gu n _ _ _ hk12) (R 3 (Bool.eq_false_iff.2 g13) (R 3 (dt g14) (A (A (dt g14) (aH.idx Wv)) (R 3 (dt g14) (A (A (Bool.eq_false_iff.2 g13) (dt g14)) (A (Bool.eq_false_iff.2 g13) T))))))) [(27,dE (e15≥x5))] ?_;cases h2;exact .lg hj2 []
    ·have h2:=aK g14 h2;refine .a (.call [] (bE k12) []::(rb 13 false [])) (A (gu n _ _ _ hk12) (R 3 (Bool.eq_false_iff.2 g13) (R 7 (df g14) (A (A (Bool.eq_false_iff.2 g13) (df g14)) (A (Bool.eq_false_iff.2 g13) T))))) [(27,bE false)] ?_;cases h2;exact .lg hj2 []
 ·subst fU;have h0:=bV h0;refine .a [.v (a0.length:Int)] (A (aH.len' a0) T) [(2,dE ((a0.length:Int)≤24))] ?_;cases h0;exact .rt hK
def rV:Nat→Form→Int→Int→Option (Bool×Int)
 | 0,_,_,_=>none
 | n+1,a0,a1,w0=>Option.bind ((if(aT (w0-1))<0 then some true else some (decide (a1>40))):Option (Bool)) (fun(o1:Bool)=>(if o1=true then some (false,(aT (w0-1))) else(if a0.kind=1 then Option.bind ((kX n a0.name).bind fun k5=>(if k5=true then(if a0.n=0 then(qK n a0.scopes).bind fun k8=>(if k8=true then some (decide ((a0.kids.length:Int)=0)) else some false) else some false) else some false):Option (Bool)) (fun(o4:Bool)=>some (o4,(aT (w0-1)))) else(if a0.kind=2 then Option.bind ((if a0.name=[] then(iO n a0.n 0 999).bind fun k13=>(if k13=true then(if(a0.scopes.length:Int)=0 then some (decide ((a0.kids.length:Int)=0)) else some false) else some false) else some false):Option (Bool)) (fun(Ei:Bool)=>some (Ei,(aT (w0-1)))) else(if a0.kind=3 then Option.bind ((if ¬a0.name=[] then some true else(if ¬a0.n=0 then some true else some (decide ((a0.scopes.length:Int)>0)))):Option (Bool)) (fun(UE:Bool)=>(if UE=true then some (false,(aT (w0-1))) else bG (bM (fun(DV:Int) (i20:Nat) (x23:Form)=>((rV n x23 (aT (a1+1)) DV).bind fun k28=>(if(!k28.1)=true then some (Sum.inl (false,k28.2)) else some (Sum.inr k28.2)):Option ((Bool×Int)⊕Int))) 0 a0.kids (aT (w0-1))) (fun(DV:Int)=>some (true,DV)))) else some (false,(aT (w0-1))))))))
theorem NW (n:Nat):∀(a0:Form) (a1:Int) (w0:Int) {r:Bool×Int},rV n a0 a1 w0=some r→aF X.E 61 [aE (ak a0),iE a1,pl 0] [some (.cells [iE w0])] (bE r.1) [.cells [iE r.2]]:=by
 induction n with
 | zero=>intro a0 a1 w0 r h; cases h
 | succ n ih=>
  intro a0 a1 w0 r h0;rw[rV] at h0;refine .n Tryz.func61 (fun L ks low K hl hL hlen hK=>?_);refine .af [] T [(3,pw 3)] [.o 3 (.cells ((ak a0).map .d))] ?_;refine .ao [.pl] T [] [.c 0 0 (iE (aT (w0-1)))] ?_;refine .bP h0 rfl [1,2,3] (fun o1=>[(21,bE o1)]) n1 n1 (fun o1 h0=>?_) (fun y1 h1 hj1=>?_)
  ·refine .jT h0 (fun hc2 h0=>?_) (fun hc2 h0=>?_)
   ·refine .a [] T [(6,bE false)] ?_;cases h0;exact .rt hK
   ·refine .a [] T [(23,iE a0.kind)] ?_;refine .a [] T [(24,dE (a0.kind=1))] ?_;refine .jP h0 (fun hc3 h0=>?_) (fun hc3 h0=>?_)
    ·refine .bP h0 rfl [] (fun o4=>[(6,bE o4)]) n1 n1 (fun o4 h0=>?_) (fun y1 h1 hj1=>?_)
     ·cases h0;exact .rt hK
     ·obtain⟨k5,hk5,h1⟩:=bnd h1;by_cases g6:k5=true
      ·have h1:=aJ g6 h1;by_cases g7:a0.n=0
       ·have h1:=aJ g7 h1;obtain⟨k8,hk8,h1⟩:=bnd h1;by_cases g9:k8=true
        ·have h1:=aJ g9 h1;refine .a (.call [] (bE k5) []::(rb 7 true (.call [] (bE k8) []::(rb 4 true [.v (a0.kids.length:Int),.b true,.b true])))) (A (kG n _ hk5) (R 4 g6 (R 2 (dt g7) (A (A (dt g7) (Bo n _ hk8)) (A (dt g7) (R 2 g9 (A (A g9 (aA.len' a0.kids)) (R 2 g9 T)))))))) [(6,dE ((a0.kids.length:Int)=0))] ?_;cases h1;exact .lg hj1 []
        ·have h1:=aK g9 h1;refine .a (.call [] (bE k5) []::(rb 7 true (.call [] (bE k8) []::(.b true::(rb 5 false []))))) (A (kG n _ hk5) (R 4 g6 (R 2 (dt g7) (A (A (dt g7) (Bo n _ hk8)) (A (dt g7) (R 5 (Bool.eq_false_iff.2 g9) T)))))) [(6,bE false)] ?_;cases h1;exact .lg hj1 []
       ·have h1:=aK g7 h1;refine .a (.call [] (bE k5) []::(rb 4 true (rb 9 false []))) (A (kG n _ hk5) (R 4 g6 (R 4 (df g7) (R 5 B0 T)))) [(6,bE false)] ?_;cases h1;exact .lg hj1 []
      ·have h1:=aK g6 h1;refine .a (.call [] (bE k5) []::(rb 13 false [])) (A (kG n _ hk5) (R 4 (Bool.eq_false_iff.2 g6) (R 9 B0 T))) [(6,bE false)] ?_;cases h1;exact .lg hj1 []
    ·refine .a [] T [(45,dE (a0.kind=2))] ?_;refine .jP h0 (fun iM h0=>?_) (fun iM h0=>?_)
     ·refine .bP h0 rfl [] (fun Ei=>[(6,bE Ei)]) n1 n1 (fun Ei h0=>?_) (fun y1 h1 hj1=>?_)
      ·cases h0;exact .rt hK
      ·by_cases g12:a0.name=[]
       ·have h1:=aJ g12 h1;obtain⟨k13,oH,h1⟩:=bnd h1;by_cases g14:k13=true
        ·have h1:=aJ g14 h1;by_cases g15:(a0.scopes.length:Int)=0
         ·have h1:=aJ g15 h1;refine .a (rb 3 true (.call [] (bE k13) []::(rb 4 true (.v (a0.scopes.length:Int)::(rb 5 true [.v (a0.kids.length:Int),.b true,.b true]))))) (R 2 (dt g12) (A (A (dt g12) (gu n _ _ _ oH)) (A (dt g12) (R 2 g14 (A (A g14 (aH.len' a0.scopes)) (R 2 g14 (R 2 (dt g15) (A (A (dt g15) (aA.len' a0.kids)) (R 2 (dt g15) T))))))))) [(6,dE ((a0.kids.length:Int)=0))] ?_;cases h1;exact .lg hj1 []
         ·have h1:=aK g15 h1;refine .a (rb 3 true (.call [] (bE k13) []::(rb 4 true (.v (a0.scopes.length:Int)::(.b true::(.b true::(rb 5 false []))))))) (R 2 (dt g12) (A (A (dt g12) (gu n _ _ _ oH)) (A (dt g12) (R 2 g14 (A (A g14 (aH.len' a0.scopes)) (R 2 g14 (R 5 (df g15) T))))))) [(6,bE false)] ?_;cases h1;exact .lg hj1 []
        ·have h1:=aK g14 h1;refine .a (rb 3 true (.call [] (bE k13) []::(.b true::(rb 10 false [])))) (R 2 (dt g12) (A (A (dt g12) (gu n _ _ _ oH)) (A (dt g12) (R 5 (Bool.eq_false_iff.2 g14) (R 5 B0 T))))) [(6,bE false)] ?_;cases h1;exact .lg hj1 []
       ·have h1:=aK g12 h1;refine .a (rb 14 false []) (R 4 (df g12) (R 10 B0 T)) [(6,bE false)] ?_;cases h1;exact .lg hj1 []
     ·refine .a [] T [(67,dE (a0.kind=3))] ?_;refine .jP h0 (fun hc16 h0=>?_) (fun hc16 h0=>?_)
      ·refine .bP h0 rfl [1,2,3] (fun UE=>[(82,bE UE)]) n1 n1 (fun UE h0=>?_) (fun y1 h1 hj1=>?_)
       ·refine .jT h0 (fun hc18 h0=>?_) (fun hc18 h0=>?_)
        ·refine .a [] T [(6,bE false)] ?_;cases h0;exact .rt hK
        ·refine .a [.v (a0.kids.length:Int)] (A (aA.len' a0.kids) T) [(84,lE 5 (aj a0.kids)),(85,iE (a0.kids.length:Int)),(86,iE 0)] ?_;refine .sn 84 aA a0.kids (by kernel_rfl) (fun aem=>?_);refine .lI h0 rfl [1,2,84,85] (fun i20 DV=>[(86,iE (i20:Int))]) n2 (fun i20 DV=>[.c 0 0 (iE DV)]) [] (by kernel_rfl) (fun i20 DV q22 hd24 agp h0=>?_);refine .a [] T [(87,dE ((i20:Int)<(a0.kids.length:Int)))] ?_;refine .lc hd24 rfl (by kernel_rfl) (fun x23 agq hc27 aen hd25 acV=>?_) (fun hc27=>?_)
         ·subst hc27;obtain⟨y1,h1,hw1,hn1⟩:=bD h0;refine .af [.cs (ak x23)] (A (aA.jf aen) T) [(8,pw 8)] [.o 8 (.cells ((ak x23).map .d))] ?_;obtain⟨k28,KT,h1⟩:=bnd h1;refine .ao [.pl,.call [.low 0] (bE k28.1) [.cells [iE k28.2]]] (A (ih _ _ _ KT) T) [(95,bE (!k28.1))] [.c 0 0 (iE k28.2)] ?_;refine .jT h1 (fun hc29 h1=>?_) (fun hc29 h1=>?_)
          ·refine .a [] T [(6,bE false)] ?_;cases h1;cases hw1 _ rfl;exact .rt hK
          ·refine .a [.v ((i20+1:Nat):Int)] (A (wn (i:=i20) (by omega)) T) [(86,iE ((i20+1:Nat):Int))] ?_;cases h1;refine .kp [1,2,84,85,86] [] ?_;refine .dr 8 (by kernel_rfl) ?_;exact .nL rfl (i20+1) _ hd25 acV (hn1 _ rfl) [] (by kernel_rfl)
         ·subst hc27;have h0:=bV h0;refine .a [] T [(6,bE true)] ?_;cases h0;exact .rt hK
       ·by_cases jG:¬a0.name=[]
        ·have h1:=aJ jG h1;refine .a (rb 9 true []) (R 4 (dt jG) (R 5 B1 T)) [(82,bE true)] ?_;cases h1;exact .lg hj1 []
        ·have h1:=aK jG h1;by_cases DW:¬a0.n=0
         ·have h1:=aJ DW h1;refine .a (rb 4 false (rb 5 true [])) (R 4 (df jG) (R 5 (dt DW) T)) [(82,bE true)] ?_;cases h1;exact .lg hj1 []
         ·have h1:=aK DW h1;refine .a (rb 7 false [.v (a0.scopes.length:Int),.b false,.b false]) (R 4 (df jG) (R 2 (df DW) (A (A (df DW) (aH.len' a0.scopes)) (R 2 (df DW) T)))) [(82,dE ((a0.scopes.length:Int)>0))] ?_;cases h1;exact .lg hj1 []
      ·refine .a [] T [(6,bE false)] ?_;cases h0;exact .rt hK
  ·by_cases vN:(aT (w0-1))<0
   ·have h1:=aJ vN h1;refine .a (rb 3 true []) (R 3 (dt vN) T) [(21,bE true)] ?_;cases h1;exact .lg hj1 []
   ·have h1:=aK vN h1;refine .a (rb 3 false []) (R 3 (df vN) T) [(21,dE (a1>40))] ?_;cases h1;exact .lg hj1 []
def kY (n:Nat) (a0:Form):Option (Bool):=
 (rV n a0 1 400).bind fun k1=>some k1.1
theorem tK (n:Nat):∀(a0:Form) {r:Bool},kY n a0=some r→aF X.E 40 [aE (ak a0)] [] (bE r) []:=by
 intro a0 r h0;rw[kY] at h0;refine .n Tryz.func40 (fun L ks low K hl hL hlen hK=>?_);refine .af [] T [(1,pw 1)] [.o 1 (.cells ((ak a0).map .d))] ?_;refine .af [] T [(3,pw 3)] [.o 3 (.cells [iE 400])] ?_;obtain⟨k1,hk1,h0⟩:=bnd h0;refine .af [.call [.own 3] (bE k1.1) [.cells [iE k1.2]]] (A (NW n _ _ _ hk1) T) [(2,bE k1.1)] [.c 3 0 (iE k1.2)] ?_;cases h0;exact .rt hK
def qx (n:Nat) (a0:Form) (w0:List Int):Option (List Int):=
 (jJ 8 w0 a0.scopes).bind fun z1=>some z1
theorem FB (n:Nat):∀(a0:Form) (w0:List Int) {r:List Int},qx n a0 w0=some r→aF X.E 63 [aE (ak a0),pl 0] [some (.cells [.vs (.low 1) 1 ((ah w0).length)]),some (.vec 3 1 (ah w0))] (.dN []) [.cells [.vs (.low 1) 1 ((ah r).length)],.vec 3 1 (ah r)]:=by
 intro a0 w0 r h0;rw[qx] at h0;refine .n Tryz.func63 (fun L ks low K hl hL hlen hK=>?_);refine .af [] T [(2,pw 2)] [.o 2 (.cells ((ak a0).map .d))] ?_;obtain⟨z1,hz1,h0⟩:=bnd h0;refine .ao [.sv (ah z1)] (A (A (aH.ap hz1) (rfl:(ah w0).length=(ah w0).length)) T) [] [.c 0 0 (.vs (.low 1) 1 ((ah z1).length)),.o 1 (.vec 3 1 (ah z1))] ?_;cases h0;exact .fin rfl rfl rfl rfl hK
def dL:Nat→Form→(List Int)→Option (List Int)
 | 0,_,_=>none
 | n+1,a0,w0=>(qx n a0 w0).bind fun k1=>Option.bind (dR (fun(s4:List Int) (i3:Nat) (x6:Form)=>(dL n x6 s4).bind fun k11=>some k11) 0 a0.kids k1) (fun(s4:List Int)=>some s4)
theorem rD (n:Nat):∀(a0:Form) (w0:List Int) {r:List Int},dL n a0 w0=some r→aF X.E 62 [aE (ak a0),.clo 63 [] [pl 0]] [some (.cells [.vs (.low 1) 1 ((ah w0).length)]),some (.vec 3 1 (ah w0))] (.dN []) [.cells [.vs (.low 1) 1 ((ah r).length)],.vec 3 1 (ah r)]:=by
 induction n with
 | zero=>intro a0 w0 r h; cases h
 | succ n ih=>
  intro a0 w0 r h0;rw[dL] at h0;refine .n Tryz.func62 (fun L ks low K hl hL hlen hK=>?_);refine .af [] T [(2,pw 2)] [.o 2 (.cells ((ak a0).map .d))] ?_;obtain⟨k1,hk1,h0⟩:=bnd h0;refine .ao [.call [.low 0,.low 1] (.dN []) [.cells [.vs (.low 1) 1 ((ah k1).length)],.vec 3 1 (ah k1)]] (A (FB n _ _ hk1) T) [] [.c 0 0 (.vs (.low 1) 1 ((ah k1).length)),.o 1 (.vec 3 1 (ah k1))] ?_;refine .a [.v (a0.kids.length:Int)] (A (aA.len' a0.kids) T) [(10,lE 5 (aj a0.kids)),(11,iE (a0.kids.length:Int)),(12,iE 0)] ?_;refine .sn 10 aA a0.kids (by kernel_rfl) (fun hb2=>?_);refine .lL h0 rfl [1,10,11] (fun i3 s4=>[(12,iE (i3:Int))]) n2 (fun i3 s4=>[.c 0 0 (.vs (.low 1) 1 ((ah s4).length)),.o 1 (.vec 3 1 (ah s4))]) [] (by kernel_rfl) (fun i3 s4 q5 hd7 hi9 h0=>?_);refine .a [] T [(13,dE ((i3:Int)<(a0.kids.length:Int)))] ?_;refine .lc hd7 rfl (by kernel_rfl) (fun x6 Me iM hx6 hd8 jU=>?_) (fun iM=>?_)
  ·subst iM;obtain⟨y1,h1,hn1⟩:=bZ h0;refine .af [.cs (ak x6)] (A (aA.jf hx6) T) [(5,pw 5)] [.o 5 (.cells ((ak x6).map .d))] ?_;obtain⟨k11,BO,h1⟩:=bnd h1;refine .ao [.call [.low 0,.low 1] (.dN []) [.cells [.vs (.low 1) 1 ((ah k11).length)],.vec 3 1 (ah k11)]] (A (ih _ _ BO) T) [] [.c 0 0 (.vs (.low 1) 1 ((ah k11).length)),.o 1 (.vec 3 1 (ah k11))] ?_;refine .a [.v ((i3+1:Nat):Int)] (A (wn (i:=i3) (by omega)) T) [(12,iE ((i3+1:Nat):Int))] ?_;cases h1;refine .kp [1,10,11,12] [] ?_;refine .dr 5 (by kernel_rfl) ?_;exact .nL rfl (i3+1) _ hd8 jU hn1 [] (by kernel_rfl)
  ·subst iM;have h0:=dH h0;cases h0;exact .fin rfl rfl rfl rfl hK
def kH (n:Nat) (a0:List Int):Option (List Int):=some (Lib.compact a0)
theorem xP (n:Nat):∀(a0:List Int) {r:List Int},kH n a0=some r→aF X.E 65 [.vs (.low 0) 1 ((ah a0).length)] [some (.vec 3 1 (ah a0))] (lE 1 (ah r)) [.tok 9223372036854775808 3]:=by
 intro a0 r h0;cases h0;exact aF.aaJ Tryz.func65 rfl rfl (Lib.compact_length_le a0) (fun _ p cap w=>Tryz.slices_Compact_int_empty p cap w) (fun b cap w hc hm hH hb=>(Tryz.slices_Compact_int b 0 cap a0 w hH hm hc).mono (by rintro e w' ⟨rfl,q,rfl⟩; exact⟨rfl,wG.pre (.YP w q b _ hb)⟩))
def jW (n:Nat) (a0:List Int):Option (List Int):=if a0.length<4611686018427387904 then some (a0.mergeSort fun x y=>decide (x≤y)) else none
theorem AU (n:Nat):∀(a0:List Int) {r:List Int},jW n a0=some r→aF X.E 64 [.vs (.low 0) 1 ((ah a0).length)] [some (.vec 3 1 (ah a0))] (.dN []) [.vec 3 1 (ah r)]:=by
 intro a0 r h0;rw[jW] at h0;split at h0
 ·rename_i hlt; cases h0; exact aF.row Tryz.func64 rfl rfl (by simp) (fun _ p cap w=>Tryz.slices_Sort_int_none p cap w) (fun b cap w _ hH hb=>(Tryz.slices_Sort_int b 0 cap a0 w hH hb hlt).mono (by rintro e w' ⟨rfl,n,os,rfl⟩; exact⟨rfl,.Wq w n b _ os hb⟩))
 ·cases h0
def qL (n:Nat) (a0:Form):Option (List Int):=
 (kY n a0).bind fun k1=>(if(!k1)=true then some [] else(dL n a0 []).bind fun k3=>(jW n k3).bind fun k4=>(Kq k4 k3.length).bind fun u5=>(kH n k4).bind fun k7=>some k7)
theorem I5 (n:Nat):∀(a0:Form) {r:List Int},qL n a0=some r→aF X.E 41 [aE (ak a0)] [] (lE 1 (ah r)) []:=by
 intro a0 r h0;rw[qL] at h0;refine .n Tryz.func41 (fun L ks low K hl hL hlen hK=>?_);refine .af [] T [(1,pw 1)] [.o 1 (.cells ((ak a0).map .d))] ?_;refine .af [.sv (ah [])] (A (aH.lit []) T) [(3,pw 3)] [.o 3 (.cells [fE 1 (ah [])])] ?_;obtain⟨k1,hk1,h0⟩:=bnd h0;refine .a [.call [] (bE k1) []] (A (tK n _ hk1) T) [(7,bE (!k1))] ?_;refine .jT h0 (fun hc2 h0=>?_) (fun hc2 h0=>?_)
 ·refine .a [] T [(2,fE 1 (ah []))] ?_;cases h0;exact .rt hK
 ·refine .ov 3 0 400300 3 (by kernel_rfl) ?_;obtain⟨k3,hk3,h0⟩:=bnd h0;refine .af [.call [.own 3,.own 400300] (.dN []) [.cells [.vs (.low 1) 1 ((ah k3).length)],.vec 3 1 (ah k3)]] (A (rD n _ _ hk3) T) [] [.c 3 0 (.vs (.own 400300) 1 ((ah k3).length)),.o 400300 (.vec 3 1 (ah k3))] ?_;obtain⟨k4,hk4,h0⟩:=bnd h0;obtain⟨u5,hu5,h0⟩:=bnd h0;refine .af [.call [.own 400300] (.dN []) [.vec 3 1 (ah k4)]] (A (AU n _ hk4) T) [] [.c 3 0 (.vs (.own 400300) 1 ((ah k3).length)),.o 400300 (.vec 3 1 (ah k4))] ?_;refine .rn (by rw[aH.length,aH.length]; exact(YN hu5).symm:(ah k3).length=(ah k4).length) (fun nk6=>[]) (fun nk6=>[.c 3 0 (.vs (.own 400300) 1 nk6)]) (fun nk6=>[]) (by kernel_rfl) ?_;obtain⟨k7,JL,h0⟩:=bnd h0;refine .af [.call [.own 400300] (lE 1 (ah k7)) [.tok 9223372036854775808 3]] (A (xP n _ JL) T) [(2,lE 1 (ah k7))] [.o 400300 (.tok 9223372036854775808 3)] ?_;cases h0;exact .rt hK
def slices_Equal_int (n:Nat) (a0:List Int) (a1:List Int):Option (Bool):=
 (if ¬(a0.length:Int)=(a1.length:Int) then some false else bG (bM (fun(s5:Unit) (i4:Nat) (x7:Int)=>((gG a1 (i4:Int)).bind fun e12=>(if ¬x7=e12 then some (Sum.inl false) else some (Sum.inr ())):Option (Bool⊕Unit))) 0 a0 ()) (fun(s5:Unit)=>some true))
theorem iL (n:Nat):∀(a0:List Int) (a1:List Int) {r:Bool},slices_Equal_int n a0 a1=some r→aF X.E 66 [lE 1 (ah a0),lE 1 (ah a1)] [] (bE r) []:=by
 intro a0 a1 r h0;rw[slices_Equal_int] at h0;refine .n Tryz.func66 (fun L ks low K hl hL hlen hK=>?_);refine .a [] T [] ?_;refine .a [.v (a0.length:Int),.v (a1.length:Int)] (A (aH.len' a0) (A (aH.len' a1) T)) [(10,dE (¬(a0.length:Int)=(a1.length:Int)))] ?_;refine .sn 0 aH a0 (by kernel_rfl) (fun hb1=>?_);refine .sn 1 aH a1 (by kernel_rfl) (fun hb2=>?_);refine .jP h0 (fun hc3 h0=>?_) (fun hc3 h0=>?_)
 ·refine .a [] T [(4,bE false)] ?_;cases h0;exact .rt hK
 ·refine .a [.v (a0.length:Int)] (A (aH.len' a0) T) [(12,iE (a0.length:Int)),(13,iE 0)] ?_;refine .lI h0 rfl [0,1,12] (fun i4 s5=>[(13,iE (i4:Int))]) n2 n2 [] (by kernel_rfl) (fun i4 s5 q6 hd8 Wx h0=>?_);refine .a [] T [(14,dE ((i4:Int)<(a0.length:Int)))] ?_;refine .lc hd8 rfl (by kernel_rfl) (fun x7 q62 bJ hx7 hd9 HY=>?_) (fun bJ=>?_)
  ·subst bJ;obtain⟨y1,h1,hw1,hn1⟩:=bD h0;refine .a [] T [(5,iE (i4:Int))] ?_;obtain⟨e12,uG,h1⟩:=bnd h1;refine .ad mixed [(2,[.cs [.v (.int .i64 x7)]]),(6,[.cs [.v (.int .i64 e12)]])] [] (A (aH.jf hx7) (A (aH.idx uG) T)) [(24,dE (¬x7=e12))] [] [] ?_;refine .jP h1 (fun hc13 h1=>?_) (fun hc13 h1=>?_)
   ·refine .a [] T [(4,bE false)] ?_;cases h1;cases hw1 _ rfl;exact .rt hK
   ·refine .a [.v ((i4+1:Nat):Int)] (A (wn (i:=i4) (by omega)) T) [(13,iE ((i4+1:Nat):Int))] ?_;cases h1;exact .nL rfl (i4+1) _ hd9 HY (hn1 _ rfl) [] (by kernel_rfl)
  ·subst bJ;have h0:=bV h0;refine .a [] T [(4,bE true)] ?_;cases h0;exact .rt hK
mutual
def jq:Nat→Form→Form→Option (Bool)
 | 0,_,_=>none
 | n+1,a0,a1=>Option.bind ((if a0.kind=a1.kind then(if a0.name=a1.name then(if a0.n=a1.n then(slices_Equal_int n a0.scopes a1.scopes).bind fun k5=>(if k5=true then(bf n a0.kids a1.kids).bind fun k7=>some k7 else some false) else some false) else some false) else some false):Option (Bool)) (fun(o1:Bool)=>some o1)
def bf:Nat→(List Form)→(List Form)→Option (Bool)
 | 0,_,_=>none
 | n+1,a0,a1=>(if ¬(a0.length:Int)=(a1.length:Int) then some false else bG (bM (fun(s5:Unit) (i4:Nat) (x7:Form)=>((gG a1 (i4:Int)).bind fun e12=>(jq n x7 e12).bind fun k13=>(if(!k13)=true then some (Sum.inl false) else some (Sum.inr ())):Option (Bool⊕Unit))) 0 a0 ()) (fun(s5:Unit)=>some true))
end
theorem Bq (n:Nat):(∀(a0:Form) (a1:Form) {r:Bool},jq n a0 a1=some r→aF X.E 67 [aE (ak a0),aE (ak a1)] [] (bE r) [])∧(∀(a0:List Form) (a1:List Form) {r:Bool},bf n a0 a1=some r→aF X.E 85 [lE 5 (aj a0),lE 5 (aj a1),.clo 67 [] []] [] (bE r) []):=by
 induction n with
 | zero=>exact⟨(by intros; rename_i h; cases h),(by intros; rename_i h; cases h)⟩
 | succ n ih=>
  refine⟨?_,?_⟩
  ·intro a0 a1 r h0;rw[jq] at h0;refine .n Tryz.func67 (fun L ks low K hl hL hlen hK=>?_);refine .af [] T [(2,pw 2),(3,pw 3)] [.o 2 (.cells ((ak a0).map .d)),.o 3 (.cells ((ak a1).map .d))] ?_;refine .bP h0 rfl [] (fun o1=>[(4,bE o1)]) n1 n1 (fun o1 h0=>?_) (fun y1 h1 hj1=>?_)
   ·cases h0;exact .rt hK
   ·by_cases g2:a0.kind=a1.kind
    ·have h1:=aJ g2 h1;by_cases g3:a0.name=a1.name
     ·have h1:=aJ g3 h1;by_cases g4:a0.n=a1.n
      ·have h1:=aJ g4 h1;obtain⟨k5,hk5,h1⟩:=bnd h1;by_cases g6:k5=true
       ·have h1:=aJ g6 h1;obtain⟨k7,JL,h1⟩:=bnd h1;refine .a (rb 17 true (.call [] (bE k5) []::(rb 6 true [.call [] (bE k7) [],.b true]))) (R 6 (dt g2) (R 6 (dt g3) (R 4 (dt g4) (A (A (dt g4) (iL n _ _ hk5)) (A (dt g4) (R 4 g6 (A (A g6 (ih.2 _ _ JL)) (A g6 T)))))))) [(4,bE k7)] ?_;cases h1;exact .lg hj1 []
       ·have h1:=aK g6 h1;refine .a (rb 17 true (.call [] (bE k5) []::(.b true::(rb 6 false [])))) (R 6 (dt g2) (R 6 (dt g3) (R 4 (dt g4) (A (A (dt g4) (iL n _ _ hk5)) (A (dt g4) (R 6 (Bool.eq_false_iff.2 g6) T)))))) [(4,bE false)] ?_;cases h1;exact .lg hj1 []
      ·have h1:=aK g4 h1;refine .a (rb 12 true (rb 12 false [])) (R 6 (dt g2) (R 6 (dt g3) (R 6 (df g4) (R 6 B0 T)))) [(4,bE false)] ?_;cases h1;exact .lg hj1 []
     ·have h1:=aK g3 h1;refine .a (rb 6 true (rb 18 false [])) (R 6 (dt g2) (R 6 (df g3) (R 12 B0 T))) [(4,bE false)] ?_;cases h1;exact .lg hj1 []
    ·have h1:=aK g2 h1;refine .a (rb 24 false []) (R 6 (df g2) (R 18 B0 T)) [(4,bE false)] ?_;cases h1;exact .lg hj1 []
  ·intro a0 a1 r h0;rw[bf] at h0;refine .n Tryz.func85 (fun L ks low K hl hL hlen hK=>?_);refine .a [] T [] ?_;refine .a [.v (a0.length:Int),.v (a1.length:Int)] (A (aA.len' a0) (A (aA.len' a1) T)) [(14,dE (¬(a0.length:Int)=(a1.length:Int)))] ?_;refine .sn 0 aA a0 (by kernel_rfl) (fun hb1=>?_);refine .sn 1 aA a1 (by kernel_rfl) (fun hb2=>?_);refine .jP h0 (fun hc3 h0=>?_) (fun hc3 h0=>?_)
   ·refine .a [] T [(6,bE false)] ?_;cases h0;exact .rt hK
   ·refine .a [.v (a0.length:Int)] (A (aA.len' a0) T) [(15,lE 5 (aj a0)),(16,iE (a0.length:Int)),(17,iE 0)] ?_;refine .lI h0 rfl [1,2,15,16] (fun i4 s5=>[(17,iE (i4:Int))]) n2 n2 [] (by kernel_rfl) (fun i4 s5 q6 hd8 Wx h0=>?_);refine .a [] T [(18,dE ((i4:Int)<(a0.length:Int)))] ?_;refine .lc hd8 rfl (by kernel_rfl) (fun x7 q62 bJ hx7 hd9 HY=>?_) (fun bJ=>?_)
    ·subst bJ;obtain⟨y1,h1,hw1,hn1⟩:=bD h0;refine .af [.cs (ak x7)] (A (aA.jf hx7) T) [(7,iE (i4:Int)),(8,pw 8)] [.o 8 (.cells ((ak x7).map .d))] ?_;obtain⟨e12,uG,h1⟩:=bnd h1;refine .af [.cs (ak e12)] (A (aA.idx uG) T) [(9,pw 9)] [.o 9 (.cells ((ak e12).map .d))] ?_;obtain⟨k13,oH,h1⟩:=bnd h1;refine .a [.call [] (bE k13) []] (A (ih.1 _ _ oH) T) [(30,bE (!k13))] ?_;refine .jT h1 (fun oI h1=>?_) (fun oI h1=>?_)
     ·refine .a [] T [(6,bE false)] ?_;cases h1;cases hw1 _ rfl;exact .rt hK
     ·refine .a [.v ((i4+1:Nat):Int)] (A (wn (i:=i4) (by omega)) T) [(17,iE ((i4+1:Nat):Int))] ?_;cases h1;refine .kp [1,2,15,16,17] [] ?_;refine .dr 8 (by kernel_rfl) ?_;refine .dr 9 (by kernel_rfl) ?_;exact .nL rfl (i4+1) _ hd9 HY (hn1 _ rfl) [] (by kernel_rfl)
    ·subst bJ;have h0:=bV h0;refine .a [] T [(6,bE true)] ?_;cases h0;exact .rt hK
theorem Bv (n:Nat):∀(a0:Form) (a1:Form) {r:Bool},jq n a0 a1=some r→aF X.E 67 [aE (ak a0),aE (ak a1)] [] (bE r) []:=(Bq n).1
theorem yH (n:Nat):∀(a0:List Form) (a1:List Form) {r:Bool},bf n a0 a1=some r→aF X.E 85 [lE 5 (aj a0),lE 5 (aj a1),.clo 67 [] []] [] (bE r) []:=(Bq n).2
mutual
def jr:Nat→Core→Core→Option (Bool)
 | 0,_,_=>none
 | n+1,a0,a1=>Option.bind ((if a0.kind=a1.kind then(if a0.id=a1.id then(if a0.name=a1.name then(if a0.n=a1.n then(slices_Equal_int n a0.ids a1.ids).bind fun k6=>(if k6=true then(jq n a0.data a1.data).bind fun k8=>(if k8=true then(bg n a0.kids a1.kids).bind fun k10=>some k10 else some false) else some false) else some false) else some false) else some false) else some false):Option (Bool)) (fun(o1:Bool)=>some o1)
def bg:Nat→(List Core)→(List Core)→Option (Bool)
 | 0,_,_=>none
 | n+1,a0,a1=>(if ¬(a0.length:Int)=(a1.length:Int) then some false else bG (bM (fun(s5:Unit) (i4:Nat) (x7:Core)=>((gG a1 (i4:Int)).bind fun e12=>(jr n x7 e12).bind fun k13=>(if(!k13)=true then some (Sum.inl false) else some (Sum.inr ())):Option (Bool⊕Unit))) 0 a0 ()) (fun(s5:Unit)=>some true))
end
theorem Bz (n:Nat):(∀(a0:Core) (a1:Core) {r:Bool},jr n a0 a1=some r→aF X.E 43 [aE (aI a0),aE (aI a1)] [] (bE r) [])∧(∀(a0:List Core) (a1:List Core) {r:Bool},bg n a0 a1=some r→aF X.E 68 [lE 11 (aG a0),lE 11 (aG a1),.clo 43 [] []] [] (bE r) []):=by
 induction n with
 | zero=>exact⟨(by intros; rename_i h; cases h),(by intros; rename_i h; cases h)⟩
 | succ n ih=>
  refine⟨?_,?_⟩
  ·intro a0 a1 r h0;rw[jr] at h0;refine .n Tryz.func43 (fun L ks low K hl hL hlen hK=>?_);refine .af [] T [(2,pw 2),(3,pw 3)] [.o 2 (.cells ((aI a0).map .d)),.o 3 (.cells ((aI a1).map .d))] ?_;refine .bP h0 rfl [] (fun o1=>[(4,bE o1)]) n1 n1 (fun o1 h0=>?_) (fun y1 h1 hj1=>?_)
   ·cases h0;exact .rt hK
   ·by_cases g2:a0.kind=a1.kind
    ·have h1:=aJ g2 h1;by_cases g3:a0.id=a1.id
     ·have h1:=aJ g3 h1;by_cases g4:a0.name=a1.name
      ·have h1:=aJ g4 h1;by_cases g5:a0.n=a1.n
       ·have h1:=aJ g5 h1;obtain⟨k6,hk6,h1⟩:=bnd h1;by_cases g7:k6=true
        ·have h1:=aJ g7 h1;obtain⟨k8,hk8,h1⟩:=bnd h1;by_cases g9:k8=true
         ·have h1:=aJ g9 h1;obtain⟨k10,hk10,h1⟩:=bnd h1;refine .a (rb 23 true (.call [] (bE k6) []::(rb 6 true (.call [] (bE k8) []::(rb 6 true [.call [] (bE k10) [],.b true]))))) (R 6 (dt g2) (R 6 (dt g3) (R 6 (dt g4) (R 4 (dt g5) (A (A (dt g5) (iL n _ _ hk6)) (A (dt g5) (R 4 g7 (A (A g7 (Bv n _ _ hk8)) (A g7 (R 4 g9 (A (A g9 (ih.2 _ _ hk10)) (A g9 T)))))))))))) [(4,bE k10)] ?_;cases h1;exact .lg hj1 []
         ·have h1:=aK g9 h1;refine .a (rb 23 true (.call [] (bE k6) []::(rb 6 true (.call [] (bE k8) []::(.b true::(rb 6 false [])))))) (R 6 (dt g2) (R 6 (dt g3) (R 6 (dt g4) (R 4 (dt g5) (A (A (dt g5) (iL n _ _ hk6)) (A (dt g5) (R 4 g7 (A (A g7 (Bv n _ _ hk8)) (A g7 (R 6 (Bool.eq_false_iff.2 g9) T)))))))))) [(4,bE false)] ?_;cases h1;exact .lg hj1 []
        ·have h1:=aK g7 h1;refine .a (rb 23 true (.call [] (bE k6) []::(.b true::(rb 12 false [])))) (R 6 (dt g2) (R 6 (dt g3) (R 6 (dt g4) (R 4 (dt g5) (A (A (dt g5) (iL n _ _ hk6)) (A (dt g5) (R 6 (Bool.eq_false_iff.2 g7) (R 6 B0 T)))))))) [(4,bE false)] ?_;cases h1;exact .lg hj1 []
       ·have h1:=aK g5 h1;refine .a (rb 18 true (rb 18 false [])) (R 6 (dt g2) (R 6 (dt g3) (R 6 (dt g4) (R 6 (df g5) (R 12 B0 T))))) [(4,bE false)] ?_;cases h1;exact .lg hj1 []
      ·have h1:=aK g4 h1;refine .a (rb 12 true (rb 24 false [])) (R 6 (dt g2) (R 6 (dt g3) (R 6 (df g4) (R 18 B0 T)))) [(4,bE false)] ?_;cases h1;exact .lg hj1 []
     ·have h1:=aK g3 h1;refine .a (rb 6 true (rb 30 false [])) (R 6 (dt g2) (R 6 (df g3) (R 24 B0 T))) [(4,bE false)] ?_;cases h1;exact .lg hj1 []
    ·have h1:=aK g2 h1;refine .a (rb 36 false []) (R 6 (df g2) (R 30 B0 T)) [(4,bE false)] ?_;cases h1;exact .lg hj1 []
  ·intro a0 a1 r h0;rw[bg] at h0;refine .n Tryz.func68 (fun L ks low K hl hL hlen hK=>?_);refine .a [] T [] ?_;refine .a [.v (a0.length:Int),.v (a1.length:Int)] (A (bI.len' a0) (A (bI.len' a1) T)) [(14,dE (¬(a0.length:Int)=(a1.length:Int)))] ?_;refine .sn 0 bI a0 (by kernel_rfl) (fun hb1=>?_);refine .sn 1 bI a1 (by kernel_rfl) (fun hb2=>?_);refine .jP h0 (fun hc3 h0=>?_) (fun hc3 h0=>?_)
   ·refine .a [] T [(6,bE false)] ?_;cases h0;exact .rt hK
   ·refine .a [.v (a0.length:Int)] (A (bI.len' a0) T) [(15,lE 11 (aG a0)),(16,iE (a0.length:Int)),(17,iE 0)] ?_;refine .lI h0 rfl [1,2,15,16] (fun i4 s5=>[(17,iE (i4:Int))]) n2 n2 [] (by kernel_rfl) (fun i4 s5 q6 hd8 Wx h0=>?_);refine .a [] T [(18,dE ((i4:Int)<(a0.length:Int)))] ?_;refine .lc hd8 rfl (by kernel_rfl) (fun x7 q62 bJ hx7 hd9 HY=>?_) (fun bJ=>?_)
    ·subst bJ;obtain⟨y1,h1,hw1,hn1⟩:=bD h0;refine .af [.cs (aI x7)] (A (bI.jf hx7) T) [(7,iE (i4:Int)),(8,pw 8)] [.o 8 (.cells ((aI x7).map .d))] ?_;obtain⟨e12,uG,h1⟩:=bnd h1;refine .af [.cs (aI e12)] (A (bI.idx uG) T) [(9,pw 9)] [.o 9 (.cells ((aI e12).map .d))] ?_;obtain⟨k13,oH,h1⟩:=bnd h1;refine .a [.call [] (bE k13) []] (A (ih.1 _ _ oH) T) [(30,bE (!k13))] ?_;refine .jT h1 (fun oI h1=>?_) (fun oI h1=>?_)
     ·refine .a [] T [(6,bE false)] ?_;cases h1;cases hw1 _ rfl;exact .rt hK
     ·refine .a [.v ((i4+1:Nat):Int)] (A (wn (i:=i4) (by omega)) T) [(17,iE ((i4+1:Nat):Int))] ?_;cases h1;refine .kp [1,2,15,16,17] [] ?_;refine .dr 8 (by kernel_rfl) ?_;refine .dr 9 (by kernel_rfl) ?_;exact .nL rfl (i4+1) _ hd9 HY (hn1 _ rfl) [] (by kernel_rfl)
    ·subst bJ;have h0:=bV h0;refine .a [] T [(6,bE true)] ?_;cases h0;exact .rt hK
theorem I7 (n:Nat):∀(a0:Core) (a1:Core) {r:Bool},jr n a0 a1=some r→aF X.E 43 [aE (aI a0),aE (aI a1)] [] (bE r) []:=(Bz n).1
theorem yI (n:Nat):∀(a0:List Core) (a1:List Core) {r:Bool},bg n a0 a1=some r→aF X.E 68 [lE 11 (aG a0),lE 11 (aG a1),.clo 43 [] []] [] (bE r) []:=(Bz n).2
def slices_Clone_int (n:Nat) (a0:List Int):Option (List Int):=
 (jJ 8 [] a0).bind fun z1=>some z1
theorem Qn (n:Nat):∀(a0:List Int) {r:List Int},slices_Clone_int n a0=some r→aF X.E 42 [lE 1 (ah a0)] [] (lE 1 (ah r)) []:=by
 intro a0 r h0;rw[slices_Clone_int] at h0;refine .m Tryz.func42 rfl rfl rfl (by kernel_rfl) (fun L ks low K hl hL hlen hK=>?_);refine .r [] T [] rfl (by kernel_rfl) ?_;refine .nq rfl (by kernel_rfl) rfl rfl (fun e=>?_) ?_
 ·have e:a0=[]:=by cases a0 with
   | nil=>rfl
   | cons x q=>rw[aH.eq] at e; cases e
  subst e;have e:r=[]:=by simp[jJ] at h0; exact h0
  subst e;refine .cB true rfl (by kernel_rfl) ?_;refine .r [] T [(2,fE 1 (ah []))] rfl (by kernel_rfl) ?_;refine .kp [2] [] ?_;refine .owV 2 400002 3 [] rfl rfl (by kernel_rfl) ?_;refine .ft 2 400002 [] aH [] rfl (by kernel_rfl) ?_;exact .ret rfl rfl (by kernel_rfl) hK
 ·refine .cB false rfl (by kernel_rfl) ?_;obtain⟨z1,hz1,h0⟩:=bnd h0;refine .rf [.sv (ah []),.mv 7,.sv (ah z1)] (A (aH.lit []) (A (aH.ap0 hz1) T)) [(2,.vs (.own 100007) 1 (ah z1).length)] [.o 100007 (.vec 3 1 (ah z1))] rfl (by kernel_rfl) ?_;refine .kp [2] [] ?_;cases h0;refine .ft 2 100007 [] aH r rfl (by kernel_rfl) ?_;exact .ret rfl rfl (by kernel_rfl) hK
def slices_Index_int (n:Nat) (a0:List Int) (a1:Int):Option (Int):=
 bG (bM (fun(s3:Unit) (i2:Nat) (x5:Int)=>((if a1=x5 then some (Sum.inl (i2:Int)) else some (Sum.inr ())):Option (Int⊕Unit))) 0 a0 ()) (fun(s3:Unit)=>some (-1))
theorem BP (n:Nat):∀(a0:List Int) (a1:Int) {r:Int},slices_Index_int n a0 a1=some r→aF X.E 59 [lE 1 (ah a0),iE a1] [] (iE r) []:=by
 intro a0 a1 r h0;rw[slices_Index_int] at h0;refine .n Tryz.func59 (fun L ks low K hl hL hlen hK=>?_);refine .a [] T [] ?_;refine .a [.v (a0.length:Int)] (A (aH.len' a0) T) [(7,iE (a0.length:Int)),(8,iE 0)] ?_;refine .sn 0 aH a0 (by kernel_rfl) (fun hb1=>?_);refine .lI h0 rfl [0,1,7] (fun i2 s3=>[(8,iE (i2:Int))]) n2 n2 [] (by kernel_rfl) (fun i2 s3 q4 hd6 XZ h0=>?_);refine .a [] T [(9,dE ((i2:Int)<(a0.length:Int)))] ?_;refine .lc hd6 rfl (by kernel_rfl) (fun x5 Wu fU hx5 hd7 vC=>?_) (fun fU=>?_)
 ·subst fU;obtain⟨y1,h1,hw1,hn1⟩:=bD h0;refine .a [] T [(5,iE (i2:Int))] ?_;refine .a [.cs [.v (.int .i64 x5)]] (A (aH.jf hx5) T) [(16,dE (a1=x5))] ?_;refine .jP h1 (fun iM h1=>?_) (fun iM h1=>?_)
  ·refine .a [] T [(4,iE (i2:Int))] ?_;cases h1;cases hw1 _ rfl;exact .rt hK
  ·refine .a [.v ((i2+1:Nat):Int)] (A (wn (i:=i2) (by omega)) T) [(8,iE ((i2+1:Nat):Int))] ?_;cases h1;exact .nL rfl (i2+1) _ hd7 vC (hn1 _ rfl) [] (by kernel_rfl)
 ·subst fU;have h0:=bV h0;refine .a [] T [(4,iE (-1))] ?_;cases h0;exact .rt hK
def slices_Contains_int (n:Nat) (a0:List Int) (a1:Int):Option (Bool):=
 (slices_Index_int n a0 a1).bind fun k1=>some (decide (k1≥0))
theorem yP (n:Nat):∀(a0:List Int) (a1:Int) {r:Bool},slices_Contains_int n a0 a1=some r→aF X.E 38 [lE 1 (ah a0),iE a1] [] (bE r) []:=by
 intro a0 a1 r h0;rw[slices_Contains_int] at h0;refine .n Tryz.func38 (fun L ks low K hl hL hlen hK=>?_);refine .a [] T [] ?_;obtain⟨k1,hk1,h0⟩:=bnd h0;refine .a [.call [] (iE k1) []] (A (BP n _ _ hk1) T) [(4,dE (k1≥0))] ?_;cases h0;exact .rt hK
def nJ (n:Nat) (a0:List Int) (a1:Int):Option (Int):=
 bG (bM (fun(s3:Unit) (i2:Nat) (x5:Int)=>((if a1=x5 then some (Sum.inl (i2:Int)) else some (Sum.inr ())):Option (Int⊕Unit))) 0 a0 ()) (fun(s3:Unit)=>some (-1))
theorem zC (n:Nat):∀(a0:List Int) (a1:Int) {r:Int},nJ n a0 a1=some r→aF X.E 59 [.vs (.low 0) 1 ((ah a0).length),iE a1] [some (.vec 3 1 (ah a0))] (iE r) [.vec 3 1 (ah a0)]:=by
 intro a0 a1 r h0;rw[nJ] at h0;refine .n Tryz.func59 (fun L ks low K hl hL hlen hK=>?_);refine .a [] T [] ?_;refine .a [.v (a0.length:Int)] (A (aH.len' a0) T) [(7,iE (a0.length:Int)),(8,iE 0)] ?_;refine .ZH 0 aH a0 (by kernel_rfl) (fun hb1=>?_);refine .lI h0 rfl [0,1,7] (fun i2 s3=>[(8,iE (i2:Int))]) n2 n2 [] (by kernel_rfl) (fun i2 s3 q4 hd6 XZ h0=>?_);refine .a [] T [(9,dE ((i2:Int)<(a0.length:Int)))] ?_;refine .lc hd6 rfl (by kernel_rfl) (fun x5 Wu fU hx5 hd7 vC=>?_) (fun fU=>?_)
 ·subst fU;obtain⟨y1,h1,hw1,hn1⟩:=bD h0;refine .a [] T [(5,iE (i2:Int))] ?_;refine .a [.cs [.v (.int .i64 x5)]] (A (A (aH.inv (Hy hx5) (rfl:(ah a0).length=(ah a0).length)) (rfl:(ah a0).length=(ah a0).length)) (A (A (A (aH.rows a0) (aH.zx hx5)) (rfl:(ah a0).length=(ah a0).length)) T)) [(16,dE (a1=x5))] ?_;refine .jP h1 (fun iM h1=>?_) (fun iM h1=>?_)
  ·refine .a [] T [(4,iE (i2:Int))] ?_;cases h1;cases hw1 _ rfl;exact .rt hK
  ·refine .a [.v ((i2+1:Nat):Int)] (A (wn (i:=i2) (by omega)) T) [(8,iE ((i2+1:Nat):Int))] ?_;cases h1;exact .nL rfl (i2+1) _ hd7 vC (hn1 _ rfl) [] (by kernel_rfl)
 ·subst fU;have h0:=bV h0;refine .a [] T [(4,iE (-1))] ?_;cases h0;exact .rt hK
def eX (n:Nat) (a0:List Int) (a1:Int):Option (Bool):=
 (nJ n a0 a1).bind fun k1=>some (decide (k1≥0))
theorem wJ (n:Nat):∀(a0:List Int) (a1:Int) {r:Bool},eX n a0 a1=some r→aF X.E 38 [.vs (.low 0) 1 ((ah a0).length),iE a1] [some (.vec 3 1 (ah a0))] (bE r) [.vec 3 1 (ah a0)]:=by
 intro a0 a1 r h0;rw[eX] at h0;refine .n Tryz.func38 (fun L ks low K hl hL hlen hK=>?_);refine .a [] T [] ?_;obtain⟨k1,hk1,h0⟩:=bnd h0;refine .a [.call [.low 0] (iE k1) [.vec 3 1 (ah a0)]] (A (zC n _ _ hk1) T) [(4,dE (k1≥0))] ?_;cases h0;exact .rt hK
theorem zD (n:Nat):∀(a0:List Int) {r:List Int},slices_Clone_int n a0=some r→aF X.E 42 [lE 1 (ah a0)] [none] (.vs (.low 0) 1 ((ah r).length)) [.vec 3 1 (ah r)]:=by
 intro a0 r h0;rw[slices_Clone_int] at h0;refine .m Tryz.func42 rfl rfl rfl (by kernel_rfl) (fun L ks low K hl hL hlen hK=>?_);refine .r [] T [] rfl (by kernel_rfl) ?_;refine .nq rfl (by kernel_rfl) rfl rfl (fun e=>?_) ?_
 ·have e:a0=[]:=by cases a0 with
   | nil=>rfl
   | cons x q=>rw[aH.eq] at e; cases e
  subst e;have e:r=[]:=by simp[jJ] at h0; exact h0
  subst e;refine .cB true rfl (by kernel_rfl) ?_;refine .r [] T [(2,fE 1 (ah []))] rfl (by kernel_rfl) ?_;refine .kp [2] [] ?_;refine .owV 2 400002 3 [] rfl rfl (by kernel_rfl) ?_;refine .mv 2 400002 0 [] (by kernel_rfl) ?_;exact .ret rfl rfl (by kernel_rfl) hK
 ·refine .cB false rfl (by kernel_rfl) ?_;obtain⟨z1,hz1,h0⟩:=bnd h0;refine .rf [.sv (ah []),.mv 7,.sv (ah z1)] (A (aH.lit []) (A (aH.ap0 hz1) T)) [(2,.vs (.own 100007) 1 (ah z1).length)] [.o 100007 (.vec 3 1 (ah z1))] rfl (by kernel_rfl) ?_;refine .kp [2] [] ?_;cases h0;refine .mv 2 100007 0 [] (by kernel_rfl) ?_;exact .ret rfl rfl (by kernel_rfl) hK
def rW:Nat→Core→(List Int)→Int→Int→Option (Bool×Int)
 | 0,_,_,_,_=>none
 | n+1,a0,a1,a2,w0=>Option.bind ((if(aT (w0-1))<0 then some true else some (decide (a2>120))):Option (Bool)) (fun(o1:Bool)=>(if o1=true then some (false,(aT (w0-1))) else bG ((if a0.kind=1 then Option.bind ((iO n a0.id 1 999).bind fun k22=>(if(!k22)=true then some true else(slices_Contains_int n a1 a0.id).bind fun k24=>some (!k24)):Option (Bool)) (fun(YQ:Bool)=>(if YQ=true then some (Sum.inl (false,(aT (w0-1)))) else some (Sum.inr (0,a1,a0.id,[],0,[],0,[],0,[],[])))) else(if a0.kind=2 then(kX n a0.name).bind fun k26=>(if(!k26)=true then some (Sum.inl (false,(aT (w0-1)))) else some (Sum.inr (0,a1,0,a0.name,0,[],0,[],0,[],[]))) else(if a0.kind=3 then(iO n a0.n 0 999).bind fun k29=>(if(!k29)=true then some (Sum.inl (false,(aT (w0-1)))) else some (Sum.inr (0,a1,0,[],a0.n,[],0,[],0,[],[]))) else(if a0.kind=4 then Option.bind ((kY n a0.data).bind fun k34=>(if(!k34)=true then some true else(qL n a0.data).bind fun Wy=>some (decide ((Wy.length:Int)>0))):Option (Bool)) (fun(o32:Bool)=>(if o32=true then some (Sum.inl (false,(aT (w0-1)))) else some (Sum.inr (0,a1,0,[],0,[],a0.data.kind,a0.data.name,a0.data.n,a0.data.scopes,a0.data.kids)))) else(if a0.kind=5 then(slices_Clone_int n a1).bind fun k38=>bG (bM (fun(I8:List Int) (i40:Nat) (x43:Int)=>(Option.bind ((iO n x43 1 999).bind fun YR=>(if(!YR)=true then some true else(eX n I8 x43).bind fun ZI=>some ZI):Option (Bool)) (fun(ZJ:Bool)=>(if ZJ=true then some (Sum.inl (Sum.inl (false,(aT (w0-1))))) else(jJ 8 I8 [x43]).bind fun z50=>some (Sum.inr z50))):Option (((Bool×Int)⊕(Int×(List Int)×Int×(List UInt8)×Int×(List Int)×Int×(List UInt8)×Int×(List Int)×(List Form)))⊕(List Int)))) 0 a0.ids k38) (fun(I8:List Int)=>some (Sum.inr (1,I8,0,[],0,a0.ids,0,[],0,[],[]))) else(if a0.kind=6 then some (Sum.inr ((if(a0.kids.length:Int)>1 then(a0.kids.length:Int) else 1),a1,0,[],0,[],0,[],0,[],[])) else(if a0.kind=7 then some (Sum.inr (3,a1,0,[],0,[],0,[],0,[],[])) else some (Sum.inl (false,(aT (w0-1))))))))))):Option ((Bool×Int)⊕(Int×(List Int)×Int×(List UInt8)×Int×(List Int)×Int×(List UInt8)×Int×(List Int)×(List Form)))) (fun(o3:Int×(List Int)×Int×(List UInt8)×Int×(List Int)×Int×(List UInt8)×Int×(List Int)×(List Form))=>Option.bind ((if ¬(a0.kids.length:Int)=o3.1 then some true else(jr n a0 (⟨a0.kind,o3.2.2.1,o3.2.2.2.1,o3.2.2.2.2.1,o3.2.2.2.2.2.1,(⟨o3.2.2.2.2.2.2.1,o3.2.2.2.2.2.2.2.1,o3.2.2.2.2.2.2.2.2.1,o3.2.2.2.2.2.2.2.2.2.1,o3.2.2.2.2.2.2.2.2.2.2⟩:Form),a0.kids⟩:Core)).bind fun k18=>some (!k18)):Option (Bool)) (fun(o4:Bool)=>(if o4=true then some (false,(aT (w0-1))) else bG (bM (fun(s8:Int) (i7:Nat) (x10:Core)=>((rW n x10 o3.2.1 (aT (a2+1)) s8).bind fun k15=>(if(!k15.1)=true then some (Sum.inl (false,k15.2)) else some (Sum.inr k15.2)):Option ((Bool×Int)⊕Int))) 0 a0.kids (aT (w0-1))) (fun(s8:Int)=>some (true,s8)))))))
theorem NY (n:Nat):∀(a0:Core) (a1:List Int) (a2:Int) (w0:Int) {r:Bool×Int},rW n a0 a1 a2 w0=some r→aF X.E 25 [aE (aI a0),lE 1 (ah a1),iE a2,pl 0] [some (.cells [iE w0])] (bE r.1) [.cells [iE r.2]]:=by
 induction n with
 | zero=>intro a0 a1 a2 w0 r h; cases h
 | succ n ih=>
  intro a0 a1 a2 w0 r h0;rw[rW] at h0;refine .n Tryz.func25 (fun L ks low K hl hL hlen hK=>?_);refine .af [] T [(4,pw 4)] [.o 4 (.cells ((aI a0).map .d))] ?_;refine .ao [.pl] T [] [.c 0 0 (iE (aT (w0-1)))] ?_;refine .bP h0 rfl [1,2,3,4] (fun o1=>[(28,bE o1)]) n1 n1 (fun o1 h0=>?_) (fun y1 h1 hj1=>?_)
  ·refine .jT h0 (fun hc2 h0=>?_) (fun hc2 h0=>?_)
   ·refine .a [] T [(8,bE false)] ?_;cases h0;exact .rt hK
   ·refine .af [] T [(9,pw 9),(10,iE 0),(11,lE 1 (ah a1))] [.o 9 (.cells [iE a0.kind,iE 0,sE [],iE 0,fE 1 (ah []),iE 0,sE [],iE 0,fE 1 (ah []),fE 5 (aj []),lE 11 (aG a0.kids)])] ?_;refine .a [] T [(36,iE a0.kind)] ?_;refine .bSB h0 rfl [2,3,4,9] (fun o3=>[(10,iE o3.1),(11,lE 1 (ah o3.2.1))]) (fun o3=>[.o 9 (.cells [iE a0.kind,iE o3.2.2.1,sE o3.2.2.2.1,iE o3.2.2.2.2.1,lE 1 (ah o3.2.2.2.2.2.1),iE o3.2.2.2.2.2.2.1,sE o3.2.2.2.2.2.2.2.1,iE o3.2.2.2.2.2.2.2.2.1,lE 1 (ah o3.2.2.2.2.2.2.2.2.2.1),lE 5 (aj o3.2.2.2.2.2.2.2.2.2.2),lE 11 (aG a0.kids)])]) n1 (fun o3 h0=>?_) (fun y1 h1 hj1 hw1=>?_)
    ·refine .bP h0 rfl [2,3,4,11] (fun o4=>[(132,bE o4)]) n1 n1 (fun o4 h0=>?_) (fun y1 h1 hj1=>?_)
     ·refine .jT h0 (fun hc5 h0=>?_) (fun hc5 h0=>?_)
      ·refine .a [] T [(8,bE false)] ?_;cases h0;exact .rt hK
      ·refine .a [.v (a0.kids.length:Int)] (A (bI.len' a0.kids) T) [(134,lE 11 (aG a0.kids)),(135,iE (a0.kids.length:Int)),(136,iE 0)] ?_;refine .sn 134 bI a0.kids (by kernel_rfl) (fun hb6=>?_);refine .lI h0 rfl [2,3,11,134,135] (fun i7 s8=>[(136,iE (i7:Int))]) n2 (fun i7 s8=>[.c 0 0 (iE s8)]) [] (by kernel_rfl) (fun i7 s8 q9 hd11 aep h0=>?_);refine .a [] T [(137,dE ((i7:Int)<(a0.kids.length:Int)))] ?_;refine .lc hd11 rfl (by kernel_rfl) (fun x10 q92 oI aaK aaL WA=>?_) (fun oI=>?_)
       ·subst oI;obtain⟨y1,h1,hw1,hn1⟩:=bD h0;refine .af [.cs (aI x10)] (A (bI.jf aaK) T) [(15,pw 15)] [.o 15 (.cells ((aI x10).map .d))] ?_;obtain⟨k15,tN,h1⟩:=bnd h1;refine .ao [.pl,.call [.low 0] (bE k15.1) [.cells [iE k15.2]]] (A (ih _ _ _ _ tN) T) [(146,bE (!k15.1))] [.c 0 0 (iE k15.2)] ?_;refine .jT h1 (fun hc16 h1=>?_) (fun hc16 h1=>?_)
        ·refine .a [] T [(8,bE false)] ?_;cases h1;cases hw1 _ rfl;exact .rt hK
        ·refine .a [.v ((i7+1:Nat):Int)] (A (wn (i:=i7) (by omega)) T) [(136,iE ((i7+1:Nat):Int))] ?_;cases h1;refine .kp [2,3,11,134,135,136] [] ?_;refine .dr 15 (by kernel_rfl) ?_;exact .nL rfl (i7+1) _ aaL WA (hn1 _ rfl) [] (by kernel_rfl)
       ·subst oI;have h0:=bV h0;refine .a [] T [(8,bE true)] ?_;cases h0;exact .rt hK
     ·by_cases g17:¬(a0.kids.length:Int)=o3.1
      ·have h1:=aJ g17 h1;refine .a (.v (a0.kids.length:Int)::(rb 5 true [])) (A (bI.len' a0.kids) (R 5 (dt g17) T)) [(132,bE true)] ?_;cases h1;exact .lg hj1 []
      ·have h1:=aK g17 h1;obtain⟨k18,oV,h1⟩:=bnd h1;refine .a (.v (a0.kids.length:Int)::(rb 3 false [.call [] (bE k18) [],.b false,.b false])) (A (bI.len' a0.kids) (R 2 (df g17) (A (A (df g17) (I7 n _ _ oV)) (R 2 (df g17) T)))) [(132,bE (!k18))] ?_;cases h1;exact .lg hj1 []
    ·refine .a [] T [(37,dE (a0.kind=1))] ?_;refine .jP h1 (fun hc19 h1=>?_) (fun hc19 h1=>?_)
     ·refine .af [] T [] [.c 9 1 (iE a0.id)] ?_;refine .bP h1 rfl [2,3,4,9,10,11] (fun YQ=>[(52,bE YQ)]) n1 n1 (fun YQ h1=>?_) (fun y2 h2 hj2=>?_)
      ·refine .jT h1 (fun hc21 h1=>?_) (fun hc21 h1=>?_)
       ·refine .a [] T [(8,bE false)] ?_;cases h1;cases hw1 _ rfl;exact .rt hK
       ·cases h1;refine .fg 9 [4,8,9] ?_;exact .lg (hj1 _ rfl) []
      ·obtain⟨k22,Ej,h2⟩:=bnd h2;by_cases g23:(!k22)=true
       ·have h2:=aJ g23 h2;refine .a (.call [] (bE k22) []::(rb 6 true [])) (A (gu n _ _ _ Ej) (R 6 g23 T)) [(52,bE true)] ?_;cases h2;exact .lg hj2 []
       ·have h2:=aK g23 h2;obtain⟨k24,zG,h2⟩:=bnd h2;refine .a (.call [] (bE k22) []::(rb 4 false [.call [] (bE k24) [],.b false,.b false])) (A (gu n _ _ _ Ej) (R 3 (Bool.eq_false_iff.2 g23) (A (A (Bool.eq_false_iff.2 g23) (yP n _ _ zG)) (R 2 (Bool.eq_false_iff.2 g23) T)))) [(52,bE (!k24))] ?_;cases h2;exact .lg hj2 []
     ·refine .a [] T [(53,dE (a0.kind=2))] ?_;refine .jP h1 (fun hc25 h1=>?_) (fun hc25 h1=>?_)
      ·refine .af [] T [] [.c 9 2 (sE a0.name)] ?_;obtain⟨k26,yQ,h1⟩:=bnd h1;refine .a [.call [] (bE k26) []] (A (kG n _ yQ) T) [(61,bE (!k26))] ?_;refine .jT h1 (fun hc27 h1=>?_) (fun hc27 h1=>?_)
       ·refine .a [] T [(8,bE false)] ?_;cases h1;cases hw1 _ rfl;exact .rt hK
       ·cases h1;refine .fg 9 [4,8,9] ?_;exact .lg (hj1 _ rfl) []
      ·refine .a [] T [(62,dE (a0.kind=3))] ?_;refine .jP h1 (fun hc28 h1=>?_) (fun hc28 h1=>?_)
       ·refine .af [] T [] [.c 9 3 (iE a0.n)] ?_;obtain⟨k29,NZ,h1⟩:=bnd h1;refine .a [.call [] (bE k29) []] (A (gu n _ _ _ NZ) T) [(70,bE (!k29))] ?_;refine .jT h1 (fun WB h1=>?_) (fun WB h1=>?_)
        ·refine .a [] T [(8,bE false)] ?_;cases h1;cases hw1 _ rfl;exact .rt hK
        ·cases h1;refine .fg 9 [4,8,9] ?_;exact .lg (hj1 _ rfl) []
       ·refine .a [] T [(71,dE (a0.kind=4))] ?_;refine .jP h1 (fun hc31 h1=>?_) (fun hc31 h1=>?_)
        ·refine .af [] T [] [.c 9 5 (iE a0.data.kind),.c 9 6 (sE a0.data.name),.c 9 7 (iE a0.data.n),.c 9 8 (lE 1 (ah a0.data.scopes)),.c 9 9 (lE 5 (aj a0.data.kids))] ?_;refine .bP h1 rfl [2,3,4,9,10,11] (fun o32=>[(86,bE o32)]) n1 n1 (fun o32 h1=>?_) (fun y2 h2 hj2=>?_)
         ·refine .jT h1 (fun WC h1=>?_) (fun WC h1=>?_)
          ·refine .a [] T [(8,bE false)] ?_;cases h1;cases hw1 _ rfl;exact .rt hK
          ·cases h1;refine .fg 9 [4] ?_;exact .lg (hj1 _ rfl) []
         ·obtain⟨k34,Uf,h2⟩:=bnd h2;by_cases AV:(!k34)=true
          ·have h2:=aJ AV h2;refine .a (.call [] (bE k34) []::(rb 6 true [])) (A (tK n _ Uf) (R 6 AV T)) [(86,bE true)] ?_;cases h2;exact .lg hj2 []
          ·have h2:=aK AV h2;obtain⟨Wy,aaM,h2⟩:=bnd h2;refine .a (.call [] (bE k34) []::(rb 3 false [.call [] (lE 1 (ah Wy)) [],.b false,.v (Wy.length:Int),.b false,.b false])) (A (tK n _ Uf) (R 2 (Bool.eq_false_iff.2 AV) (A (A (Bool.eq_false_iff.2 AV) (I5 n _ aaM)) (A (A (Bool.eq_false_iff.2 AV) (aH.len' Wy)) (R 2 (Bool.eq_false_iff.2 AV) T))))) [(86,dE ((Wy.length:Int)>0))] ?_;cases h2;exact .lg hj2 []
        ·refine .a [] T [(87,dE (a0.kind=5))] ?_;refine .jP h1 (fun aer h1=>?_) (fun aer h1=>?_)
         ·refine .af [] T [(10,iE 1)] [.c 9 4 (lE 1 (ah a0.ids))] ?_;obtain⟨k38,aaN,h1⟩:=bnd h1;refine .af [.call [.own 300930] (.vs (.low 0) 1 ((ah k38).length)) [.vec 3 1 (ah k38)]] (A (zD n _ aaN) T) [(11,.vs (.own 300930) 1 ((ah k38).length))] [.o 300930 (.vec 3 1 (ah k38))] ?_;refine .a [.v (a0.ids.length:Int)] (A (aH.len' a0.ids) T) [(95,lE 1 (ah a0.ids)),(96,iE (a0.ids.length:Int)),(97,iE 0)] ?_;refine .sn 95 aH a0.ids (by kernel_rfl) (fun aes=>?_);refine .lI h1 rfl [2,3,4,9,10,95,96] (fun i40 I8=>[(11,.vs (.own 300930) 1 ((ah I8).length)),(97,iE (i40:Int))]) (fun i40 I8=>[.o 300930 (.vec 3 1 (ah I8))]) n2 [] (by kernel_rfl) (fun i40 I8 Wu aeu ags h1=>?_);refine .a [] T [(98,dE ((i40:Int)<(a0.ids.length:Int)))] ?_;refine .lc aeu rfl (by kernel_rfl) (fun x43 agt hc47 aev aew acX=>?_) (fun hc47=>?_)
          ·subst hc47;obtain⟨y2,h2,hw2,hn2⟩:=bD h1;refine .a [.cs [.v (.int .i64 x43)]] (A (aH.jf aev) T) [(13,iE x43)] ?_;refine .bP h2 rfl [2,3,4,9,10,11,13,95,96,97] (fun ZJ=>[(108,bE ZJ)]) n1 n1 (fun ZJ h2=>?_) (fun y3 h3 hj3=>?_)
           ·refine .jT h2 (fun aex h2=>?_) (fun aex h2=>?_)
            ·refine .a [] T [(8,bE false)] ?_;cases h2;cases hw2 _ rfl;cases hw1 _ rfl;exact .rt hK
            ·obtain⟨z50,aey,h2⟩:=bnd h2;refine .af [.sv (ah [x43]),.sv (ah z50)] (A (aH.lit [x43]) (A (A (aH.ap aey) (rfl:(ah I8).length=(ah I8).length)) T)) [(11,.vs (.own 300930) 1 ((ah z50).length))] [.o 300930 (.vec 3 1 (ah z50))] ?_;refine .a [.v ((i40+1:Nat):Int)] (A (wn (i:=i40) (by omega)) T) [(97,iE ((i40+1:Nat):Int))] ?_;cases h2;exact .nL rfl (i40+1) _ aew acX (hn2 _ rfl) [] (by kernel_rfl)
           ·obtain⟨YR,acY,h3⟩:=bnd h3;by_cases g52:(!YR)=true
            ·have h3:=aJ g52 h3;refine .a (.call [] (bE YR) []::(rb 4 true [])) (A (gu n _ _ _ acY) (R 4 g52 T)) [(108,bE true)] ?_;cases h3;exact .lg hj3 []
            ·have h3:=aK g52 h3;obtain⟨ZI,aez,h3⟩:=bnd h3;refine .a (.call [] (bE YR) []::(rb 3 false [.call [.own 300930] (bE ZI) [.vec 3 1 (ah I8)],.b false])) (A (gu n _ _ _ acY) (R 2 (Bool.eq_false_iff.2 g52) (A (A (Bool.eq_false_iff.2 g52) (wJ n _ _ aez)) (A (Bool.eq_false_iff.2 g52) T)))) [(108,bE ZI)] ?_;cases h3;exact .lg hj3 []
          ·subst hc47;have h1:=bV h1;cases h1;refine .kp [2,3,4,9,10,11] [] ?_;refine .ft 11 300930 [2,3,4,9,10] aH I8 (rfl:(ah I8).length=(ah I8).length) (by kernel_rfl) ?_;refine .fg 9 [8,9] ?_;exact .lg (hj1 _ rfl) []
         ·refine .a [] T [(114,dE (a0.kind=6))] ?_;refine .jP h1 (fun aeA h1=>?_) (fun aeA h1=>?_)
          ·refine .a [.v (a0.kids.length:Int)] (A (bI.len' a0.kids) T) [(10,iE (if(a0.kids.length:Int)>1 then(a0.kids.length:Int) else 1)),(117,lE 11 (aG a0.kids))] ?_;refine .sn 117 bI a0.kids (by kernel_rfl) (fun agu=>?_);cases h1;refine .fg 9 [4,8,9] ?_;exact .lg (hj1 _ rfl) []
          ·refine .a [] T [(120,dE (a0.kind=7))] ?_;refine .jP h1 (fun aeB h1=>?_) (fun aeB h1=>?_)
           ·refine .a [] T [(10,iE 3)] ?_;cases h1;refine .fg 9 [4,8,9] ?_;exact .lg (hj1 _ rfl) []
           ·refine .a [] T [(8,bE false)] ?_;cases h1;cases hw1 _ rfl;exact .rt hK
  ·by_cases g57:(aT (w0-1))<0
   ·have h1:=aJ g57 h1;refine .a (rb 3 true []) (R 3 (dt g57) T) [(28,bE true)] ?_;cases h1;exact .lg hj1 []
   ·have h1:=aK g57 h1;refine .a (rb 3 false []) (R 3 (df g57) T) [(28,dE (a2>120))] ?_;cases h1;exact .lg hj1 []
def oJ (n:Nat) (a0:Core):Option (Bool):=
 (rW n a0 [] 1 600).bind fun k1=>some k1.1
theorem kJ (n:Nat):∀(a0:Core) {r:Bool},oJ n a0=some r→aF X.E 9 [aE (aI a0)] [] (bE r) []:=by
 intro a0 r h0;rw[oJ] at h0;refine .n Tryz.func9 (fun L ks low K hl hL hlen hK=>?_);refine .af [] T [(1,pw 1)] [.o 1 (.cells ((aI a0).map .d))] ?_;refine .af [] T [(3,pw 3)] [.o 3 (.cells [iE 600])] ?_;obtain⟨k1,hk1,h0⟩:=bnd h0;refine .af [.call [.own 3] (bE k1.1) [.cells [iE k1.2]]] (A (NY n _ _ _ _ hk1) T) [(2,bE k1.1)] [.c 3 0 (iE k1.2)] ?_;cases h0;exact .rt hK
def slices_Index_string (n:Nat) (a0:List (List UInt8)) (a1:List UInt8):Option (Int):=
 bG (bM (fun(s3:Unit) (i2:Nat) (x5:List UInt8)=>((if a1=x5 then some (Sum.inl (i2:Int)) else some (Sum.inr ())):Option (Int⊕Unit))) 0 a0 ()) (fun(s3:Unit)=>some (-1))
theorem yR (n:Nat):∀(a0:List (List UInt8)) (a1:List UInt8) {r:Int},slices_Index_string n a0 a1=some r→aF X.E 45 [lE 1 (dQ a0),sE a1] [] (iE r) []:=by
 intro a0 a1 r h0;rw[slices_Index_string] at h0;refine .n Tryz.func45 (fun L ks low K hl hL hlen hK=>?_);refine .a [] T [] ?_;refine .a [.v (a0.length:Int)] (A (ji.len' a0) T) [(7,iE (a0.length:Int)),(8,iE 0)] ?_;refine .sn 0 ji a0 (by kernel_rfl) (fun hb1=>?_);refine .lI h0 rfl [0,1,7] (fun i2 s3=>[(8,iE (i2:Int))]) n2 n2 [] (by kernel_rfl) (fun i2 s3 q4 hd6 XZ h0=>?_);refine .a [] T [(9,dE ((i2:Int)<(a0.length:Int)))] ?_;refine .lc hd6 rfl (by kernel_rfl) (fun x5 Wu fU hx5 hd7 vC=>?_) (fun fU=>?_)
 ·subst fU;obtain⟨y1,h1,hw1,hn1⟩:=bD h0;refine .a [] T [(5,iE (i2:Int))] ?_;refine .a [.cs [.s x5]] (A (ji.jf hx5) T) [(16,dE (a1=x5))] ?_;refine .jP h1 (fun iM h1=>?_) (fun iM h1=>?_)
  ·refine .a [] T [(4,iE (i2:Int))] ?_;cases h1;cases hw1 _ rfl;exact .rt hK
  ·refine .a [.v ((i2+1:Nat):Int)] (A (wn (i:=i2) (by omega)) T) [(8,iE ((i2+1:Nat):Int))] ?_;cases h1;exact .nL rfl (i2+1) _ hd7 vC (hn1 _ rfl) [] (by kernel_rfl)
 ·subst fU;have h0:=bV h0;refine .a [] T [(4,iE (-1))] ?_;cases h0;exact .rt hK
def slices_Contains_string (n:Nat) (a0:List (List UInt8)) (a1:List UInt8):Option (Bool):=
 (slices_Index_string n a0 a1).bind fun k1=>some (decide (k1≥0))
theorem vF (n:Nat):∀(a0:List (List UInt8)) (a1:List UInt8) {r:Bool},slices_Contains_string n a0 a1=some r→aF X.E 28 [lE 1 (dQ a0),sE a1] [] (bE r) []:=by
 intro a0 a1 r h0;rw[slices_Contains_string] at h0;refine .n Tryz.func28 (fun L ks low K hl hL hlen hK=>?_);refine .a [] T [] ?_;obtain⟨k1,hk1,h0⟩:=bnd h0;refine .a [.call [] (iE k1) []] (A (yR n _ _ hk1) T) [(4,dE (k1≥0))] ?_;cases h0;exact .rt hK
def oK (n:Nat) (a0:Core):Option (Bool):=
 Option.bind ((if a0.kind=2 then(slices_Contains_string n XY a0.name).bind fun k3=>some k3 else some false):Option (Bool)) (fun(o1:Bool)=>some o1)
theorem Em (n:Nat):∀(a0:Core) {r:Bool},oK n a0=some r→aF X.E 23 [aE (aI a0)] [] (bE r) []:=by
 intro a0 r h0;rw[oK] at h0;refine .n Tryz.func23 (fun L ks low K hl hL hlen hK=>?_);refine .af [] T [(1,pw 1)] [.o 1 (.cells ((aI a0).map .d))] ?_;refine .bP h0 rfl [] (fun o1=>[(2,bE o1)]) n1 n1 (fun o1 h0=>?_) (fun y1 h1 hj1=>?_)
 ·cases h0;exact .rt hK
 ·by_cases g2:a0.kind=2
  ·have h1:=aJ g2 h1;obtain⟨k3,hk3,h1⟩:=bnd h1;refine .ad mixed (qb 4 3 true [(7,[.b true,.call [] (bE k3) []]),(8,[.b true])]) [] (R 3 (dt g2) (A (A (dt g2) (vF n _ _ hk3)) (A (dt g2) T))) [(2,bE k3)] [] [] ?_;cases h1;exact .lg hj1 []
  ·have h1:=aK g2 h1;refine .ad mixed (qb 4 5 false []) [] (R 5 (df g2) T) [(2,bE false)] [] [] ?_;cases h1;exact .lg hj1 []
def oL (n:Nat) (a0:Core) (w0:List Int):Option (List Int):=
 Option.bind ((if ¬a0.kind=6 then some true else some (decide ((a0.kids.length:Int)=0))):Option (Bool)) (fun(o1:Bool)=>(if o1=true then some w0 else(gG a0.kids 0).bind fun e3=>(if e3.kind=5 then(inB 0 w0.length).bind fun u5=>(w0[(Int.toNat 0)]?).bind fun e6=>(inB 0 w0.length).bind fun u7=>some (w0.set (Int.toNat 0) (aT (e6+1))) else(oK n e3).bind fun k9=>(if k9=true then(inB 1 w0.length).bind fun u11=>(w0[(Int.toNat 1)]?).bind fun e12=>(inB 1 w0.length).bind fun u13=>some (w0.set (Int.toNat 1) (aT (e12+1))) else(if e3.kind=1 then(inB 2 w0.length).bind fun u16=>(w0[(Int.toNat 2)]?).bind fun e17=>(inB 2 w0.length).bind fun u18=>some (w0.set (Int.toNat 2) (aT (e17+1))) else(inB 3 w0.length).bind fun u20=>(w0[(Int.toNat 3)]?).bind fun e21=>(inB 3 w0.length).bind fun u22=>some (w0.set (Int.toNat 3) (aT (e21+1))))))))
theorem H6 (n:Nat):∀(a0:Core) (w0:List Int) {r:List Int},oL n a0 w0=some r→aF X.E 22 [aE (aI a0),pl 0] [some (.cells [.vs (.low 1) 1 ((ah w0).length)]),some (.vec 3 1 (ah w0))] (.dN []) [.cells [.vs (.low 1) 1 ((ah r).length)],.vec 3 1 (ah r)]:=by
 intro a0 w0 r h0;rw[oL] at h0;refine .n Tryz.func22 (fun L ks low K hl hL hlen hK=>?_);refine .af [] T [(2,pw 2)] [.o 2 (.cells ((aI a0).map .d))] ?_;refine .bP h0 rfl [1,2] (fun o1=>[(12,bE o1)]) n1 n1 (fun o1 h0=>?_) (fun y1 h1 hj1=>?_)
 ·refine .jT h0 (fun hc2 h0=>?_) (fun hc2 h0=>?_)
  ·cases h0;exact .rt hK
  ·obtain⟨e3,he3,h0⟩:=bnd h0;refine .af [.cs (aI e3)] (A (bI.idx he3) T) [(3,pw 3)] [.o 3 (.cells ((aI e3).map .d))] ?_;refine .a [] T [(22,dE (e3.kind=5))] ?_;refine .jP h0 (fun hc4 h0=>?_) (fun hc4 h0=>?_)
   ·obtain⟨u5,hu5,h0⟩:=bnd h0;obtain⟨e6,Qo,h0⟩:=bnd h0;obtain⟨u7,hu7,h0⟩:=bnd h0;refine .ao [.cs [.v (.int .i64 e6)],.pl,.cs [.v (.int .i64 e6)],.sv (ah (w0.set (Int.toNat 0) (aT (e6+1))))] (A (A (aH.inv hu5 (rfl:(ah w0).length=(ah w0).length)) (rfl:(ah w0).length=(ah w0).length)) (A (A (A (aH.rows w0) (aH.zx Qo)) (rfl:(ah w0).length=(ah w0).length)) (A (A (aH.inv hu7 (rfl:(ah w0).length=(ah w0).length)) (rfl:(ah w0).length=(ah w0).length)) (A (A (A (A (aH.rows w0) (aH.zx Qo)) (rfl:(ah w0).length=(ah w0).length)) (aH.Ua w0 (Int.toNat 0) (aT (e6+1)))) T)))) [] [.c 0 0 (.vs (.low 1) 1 ((ah w0).length)),.o 1 (.vec 3 1 (ah (w0.set (Int.toNat 0) (aT (e6+1)))))] ?_;refine .rn (by simp only[aH.length,List.length_set]:(ah w0).length=(ah (w0.set (Int.toNat 0) (aT (e6+1)))).length) (fun nk8=>[]) (fun nk8=>[]) (fun nk8=>[.c 0 0 (.vs (.low 1) 1 nk8)]) (by kernel_rfl) ?_;cases h0;exact .fin rfl rfl rfl rfl hK
   ·obtain⟨k9,hk9,h0⟩:=bnd h0;refine .a [.call [] (bE k9) []] (A (Em n _ hk9) T) [(31,bE k9)] ?_;refine .jT h0 (fun iM h0=>?_) (fun iM h0=>?_)
    ·obtain⟨u11,aeD,h0⟩:=bnd h0;obtain⟨e12,uG,h0⟩:=bnd h0;obtain⟨u13,aeE,h0⟩:=bnd h0;refine .ao [.cs [.v (.int .i64 e12)],.pl,.cs [.v (.int .i64 e12)],.sv (ah (w0.set (Int.toNat 1) (aT (e12+1))))] (A (A (aH.inv aeD (rfl:(ah w0).length=(ah w0).length)) (rfl:(ah w0).length=(ah w0).length)) (A (A (A (aH.rows w0) (aH.zx uG)) (rfl:(ah w0).length=(ah w0).length)) (A (A (aH.inv aeE (rfl:(ah w0).length=(ah w0).length)) (rfl:(ah w0).length=(ah w0).length)) (A (A (A (A (aH.rows w0) (aH.zx uG)) (rfl:(ah w0).length=(ah w0).length)) (aH.Ua w0 (Int.toNat 1) (aT (e12+1)))) T)))) [] [.c 0 0 (.vs (.low 1) 1 ((ah w0).length)),.o 1 (.vec 3 1 (ah (w0.set (Int.toNat 1) (aT (e12+1)))))] ?_;refine .rn (by simp only[aH.length,List.length_set]:(ah w0).length=(ah (w0.set (Int.toNat 1) (aT (e12+1)))).length) (fun aaO=>[]) (fun aaO=>[]) (fun aaO=>[.c 0 0 (.vs (.low 1) 1 aaO)]) (by kernel_rfl) ?_;cases h0;exact .fin rfl rfl rfl rfl hK
    ·refine .a [] T [(39,dE (e3.kind=1))] ?_;refine .jP h0 (fun tV h0=>?_) (fun tV h0=>?_)
     ·obtain⟨u16,aeF,h0⟩:=bnd h0;obtain⟨e17,Qp,h0⟩:=bnd h0;obtain⟨u18,aaP,h0⟩:=bnd h0;refine .ao [.cs [.v (.int .i64 e17)],.pl,.cs [.v (.int .i64 e17)],.sv (ah (w0.set (Int.toNat 2) (aT (e17+1))))] (A (A (aH.inv aeF (rfl:(ah w0).length=(ah w0).length)) (rfl:(ah w0).length=(ah w0).length)) (A (A (A (aH.rows w0) (aH.zx Qp)) (rfl:(ah w0).length=(ah w0).length)) (A (A (aH.inv aaP (rfl:(ah w0).length=(ah w0).length)) (rfl:(ah w0).length=(ah w0).length)) (A (A (A (A (aH.rows w0) (aH.zx Qp)) (rfl:(ah w0).length=(ah w0).length)) (aH.Ua w0 (Int.toNat 2) (aT (e17+1)))) T)))) [] [.c 0 0 (.vs (.low 1) 1 ((ah w0).length)),.o 1 (.vec 3 1 (ah (w0.set (Int.toNat 2) (aT (e17+1)))))] ?_;refine .rn (by simp only[aH.length,List.length_set]:(ah w0).length=(ah (w0.set (Int.toNat 2) (aT (e17+1)))).length) (fun aaQ=>[]) (fun aaQ=>[]) (fun aaQ=>[.c 0 0 (.vs (.low 1) 1 aaQ)]) (by kernel_rfl) ?_;cases h0;exact .fin rfl rfl rfl rfl hK
     ·obtain⟨u20,Ug,h0⟩:=bnd h0;obtain⟨e21,BQ,h0⟩:=bnd h0;obtain⟨u22,aeG,h0⟩:=bnd h0;refine .ao [.cs [.v (.int .i64 e21)],.pl,.cs [.v (.int .i64 e21)],.sv (ah (w0.set (Int.toNat 3) (aT (e21+1))))] (A (A (aH.inv Ug (rfl:(ah w0).length=(ah w0).length)) (rfl:(ah w0).length=(ah w0).length)) (A (A (A (aH.rows w0) (aH.zx BQ)) (rfl:(ah w0).length=(ah w0).length)) (A (A (aH.inv aeG (rfl:(ah w0).length=(ah w0).length)) (rfl:(ah w0).length=(ah w0).length)) (A (A (A (A (aH.rows w0) (aH.zx BQ)) (rfl:(ah w0).length=(ah w0).length)) (aH.Ua w0 (Int.toNat 3) (aT (e21+1)))) T)))) [] [.c 0 0 (.vs (.low 1) 1 ((ah w0).length)),.o 1 (.vec 3 1 (ah (w0.set (Int.toNat 3) (aT (e21+1)))))] ?_;refine .rn (by simp only[aH.length,List.length_set]:(ah w0).length=(ah (w0.set (Int.toNat 3) (aT (e21+1)))).length) (fun aaR=>[]) (fun aaR=>[]) (fun aaR=>[.c 0 0 (.vs (.low 1) 1 aaR)]) (by kernel_rfl) ?_;cases h0;exact .fin rfl rfl rfl rfl hK
 ·by_cases g24:¬a0.kind=6
  ·have h1:=aJ g24 h1;refine .a (rb 5 true []) (R 5 (dt g24) T) [(12,bE true)] ?_;cases h1;exact .lg hj1 []
  ·have h1:=aK g24 h1;refine .a (rb 3 false [.v (a0.kids.length:Int),.b false,.b false]) (R 2 (df g24) (A (A (df g24) (bI.len' a0.kids)) (R 2 (df g24) T))) [(12,dE ((a0.kids.length:Int)=0))] ?_;cases h1;exact .lg hj1 []
def dO:Nat→Core→(List Int)→Option (List Int)
 | 0,_,_=>none
 | n+1,a0,w0=>(oL n a0 w0).bind fun k1=>Option.bind (dR (fun(s4:List Int) (i3:Nat) (x6:Core)=>(dO n x6 s4).bind fun k11=>some k11) 0 a0.kids k1) (fun(s4:List Int)=>some s4)
theorem rM (n:Nat):∀(a0:Core) (w0:List Int) {r:List Int},dO n a0 w0=some r→aF X.E 21 [aE (aI a0),.clo 22 [] [pl 0]] [some (.cells [.vs (.low 1) 1 ((ah w0).length)]),some (.vec 3 1 (ah w0))] (.dN []) [.cells [.vs (.low 1) 1 ((ah r).length)],.vec 3 1 (ah r)]:=by
 induction n with
 | zero=>intro a0 w0 r h; cases h
 | succ n ih=>
  intro a0 w0 r h0;rw[dO] at h0;refine .n Tryz.func21 (fun L ks low K hl hL hlen hK=>?_);refine .af [] T [(2,pw 2)] [.o 2 (.cells ((aI a0).map .d))] ?_;obtain⟨k1,hk1,h0⟩:=bnd h0;refine .ao [.call [.low 0,.low 1] (.dN []) [.cells [.vs (.low 1) 1 ((ah k1).length)],.vec 3 1 (ah k1)]] (A (H6 n _ _ hk1) T) [] [.c 0 0 (.vs (.low 1) 1 ((ah k1).length)),.o 1 (.vec 3 1 (ah k1))] ?_;refine .a [.v (a0.kids.length:Int)] (A (bI.len' a0.kids) T) [(10,lE 11 (aG a0.kids)),(11,iE (a0.kids.length:Int)),(12,iE 0)] ?_;refine .sn 10 bI a0.kids (by kernel_rfl) (fun hb2=>?_);refine .lL h0 rfl [1,10,11] (fun i3 s4=>[(12,iE (i3:Int))]) n2 (fun i3 s4=>[.c 0 0 (.vs (.low 1) 1 ((ah s4).length)),.o 1 (.vec 3 1 (ah s4))]) [] (by kernel_rfl) (fun i3 s4 q5 hd7 hi9 h0=>?_);refine .a [] T [(13,dE ((i3:Int)<(a0.kids.length:Int)))] ?_;refine .lc hd7 rfl (by kernel_rfl) (fun x6 Me iM hx6 hd8 jU=>?_) (fun iM=>?_)
  ·subst iM;obtain⟨y1,h1,hn1⟩:=bZ h0;refine .af [.cs (aI x6)] (A (bI.jf hx6) T) [(5,pw 5)] [.o 5 (.cells ((aI x6).map .d))] ?_;obtain⟨k11,BO,h1⟩:=bnd h1;refine .ao [.call [.low 0,.low 1] (.dN []) [.cells [.vs (.low 1) 1 ((ah k11).length)],.vec 3 1 (ah k11)]] (A (ih _ _ BO) T) [] [.c 0 0 (.vs (.low 1) 1 ((ah k11).length)),.o 1 (.vec 3 1 (ah k11))] ?_;refine .a [.v ((i3+1:Nat):Int)] (A (wn (i:=i3) (by omega)) T) [(12,iE ((i3+1:Nat):Int))] ?_;cases h1;refine .kp [1,10,11,12] [] ?_;refine .dr 5 (by kernel_rfl) ?_;exact .nL rfl (i3+1) _ hd8 jU hn1 [] (by kernel_rfl)
  ·subst iM;have h0:=dH h0;cases h0;exact .fin rfl rfl rfl rfl hK
def tX (n:Nat) (a0:Core):Option (List Int):=
 (mkB 8 4).bind fun u1=>(dO n a0 (List.replicate (4:Int).toNat 0)).bind fun k2=>some k2
theorem KU (n:Nat):∀(a0:Core) {r:List Int},tX n a0=some r→aF X.E 6 [aE (aI a0)] [] (lE 1 (ah r)) []:=by
 intro a0 r h0;rw[tX] at h0;refine .n Tryz.func6 (fun L ks low K hl hL hlen hK=>?_);refine .af [] T [(1,pw 1)] [.o 1 (.cells ((aI a0).map .d))] ?_;obtain⟨u1,hu1,h0⟩:=bnd h0;refine .aq [.mv 4,.sv (ah (List.replicate (4:Int).toNat 0))] [4] (A (A (ZC hu1) (aH.rep ((4:Int).toNat) 0)) T) [(3,pw 3)] [.o 4 (.vec 3 1 (ah (List.replicate (4:Int).toNat 0))),.o 3 (.cells [.vs (.own 4) 1 ((ah (List.replicate (4:Int).toNat 0)).length)])] [] ?_;obtain⟨k2,hk2,h0⟩:=bnd h0;refine .af [.call [.own 3,.own 4] (.dN []) [.cells [.vs (.low 1) 1 ((ah k2).length)],.vec 3 1 (ah k2)]] (A (rM n _ _ hk2) T) [] [.o 4 (.vec 3 1 (ah k2)),.c 3 0 (.vs (.own 4) 1 ((ah k2).length))] ?_;refine .a [] T [(2,.vs (.own 4) 1 ((ah k2).length))] ?_;refine .kp [2] [] ?_;refine .dr 1 (by kernel_rfl) ?_;refine .dr 3 (by kernel_rfl) ?_;refine .ft 2 4 [] aH k2 (rfl:(ah k2).length=(ah k2).length) (by kernel_rfl) ?_;cases h0;exact .rt hK
def nK:Nat→Core→Option (Int)
 | 0,_=>none
 | n+1,a0=>Option.bind ((if a0.kind=6 then some 1 else some 0):Option (Int)) (fun(o1:Int)=>Option.bind (dR (fun(s3:Int) (i2:Nat) (x5:Core)=>(nK n x5).bind fun k11=>some (aT (s3+k11))) 0 a0.kids o1) (fun(s3:Int)=>some s3))
theorem xQ (n:Nat):∀(a0:Core) {r:Int},nK n a0=some r→aF X.E 10 [aE (aI a0)] [] (iE r) []:=by
 induction n with
 | zero=>intro a0 r h; cases h
 | succ n ih=>
  intro a0 r h0;rw[nK] at h0;refine .n Tryz.func10 (fun L ks low K hl hL hlen hK=>?_);refine .af [] T [(1,pw 1)] [.o 1 (.cells ((aI a0).map .d))] ?_;refine .a [] T [(3,iE 0)] ?_;refine .a [] T [(7,dE (a0.kind=6))] ?_;refine .bP h0 rfl [1] (fun o1=>[(3,iE o1)]) n1 n1 (fun o1 h0=>?_) (fun y1 h1 hj1=>?_)
  ·refine .a [] T [(4,iE 0)] ?_;refine .lL h0 rfl [1] (fun i2 s3=>[(3,iE s3),(4,iE (i2:Int))]) n2 n2 [] (by kernel_rfl) (fun i2 s3 q4 hd6 XZ h0=>?_);refine .a [.v (a0.kids.length:Int)] (A (bI.len' a0.kids) T) [(10,lE 11 (aG a0.kids)),(12,dE ((i2:Int)<(a0.kids.length:Int)))] ?_;refine .sn 10 bI a0.kids (by kernel_rfl) (fun hb9=>?_);refine .lc hd6 rfl (by kernel_rfl) (fun x5 Wu iM hx5 hd7 vC=>?_) (fun iM=>?_)
   ·subst iM;obtain⟨y1,h1,hn1⟩:=bZ h0;obtain⟨k11,BO,h1⟩:=bnd h1;refine .a [.cs (aI x5),.call [] (iE k11) [],.pl] (A (bI.jf hx5) (A (ih _ BO) T)) [(3,iE (aT (s3+k11)))] ?_;refine .a [.v ((i2+1:Nat):Int)] (A (wn (i:=i2) (by omega)) T) [(4,iE ((i2+1:Nat):Int))] ?_;cases h1;exact .nL rfl (i2+1) _ hd7 vC hn1 [] (by kernel_rfl)
   ·subst iM;have h0:=dH h0;refine .a [] T [(2,iE s3)] ?_;cases h0;exact .rt hK
  ·refine .jP h1 (fun hc12 h1=>?_) (fun hc12 h1=>?_)
   ·refine .a [] T [(3,iE 1)] ?_;cases h1;exact .lg hj1 []
   ·cases h1;exact .lg hj1 []
def Aw (n:Nat) (a0:List Int) (a1:List Int):Option (Bool):=
 (if ¬(a0.length:Int)=(a1.length:Int) then some false else bG (bM (fun(s5:Unit) (i4:Nat) (x7:Int)=>((gG a1 (i4:Int)).bind fun e12=>(if ¬x7=e12 then some (Sum.inl false) else some (Sum.inr ())):Option (Bool⊕Unit))) 0 a0 ()) (fun(s5:Unit)=>some true))
theorem EP (n:Nat):∀(a0:List Int) (a1:List Int) {r:Bool},Aw n a0 a1=some r→aF X.E 7 [lE 1 (ah a0),lE 1 (ah a1)] [] (bE r) []:=by
 intro a0 a1 r h0;rw[Aw] at h0;refine .n Tryz.func7 (fun L ks low K hl hL hlen hK=>?_);refine .a [] T [] ?_;refine .a [.v (a0.length:Int),.v (a1.length:Int)] (A (aH.len' a0) (A (aH.len' a1) T)) [(10,dE (¬(a0.length:Int)=(a1.length:Int)))] ?_;refine .sn 0 aH a0 (by kernel_rfl) (fun hb1=>?_);refine .sn 1 aH a1 (by kernel_rfl) (fun hb2=>?_);refine .jP h0 (fun hc3 h0=>?_) (fun hc3 h0=>?_)
 ·refine .a [] T [(4,bE false)] ?_;cases h0;exact .rt hK
 ·refine .a [] T [(5,iE 0)] ?_;refine .lI h0 rfl [0,1] (fun i4 s5=>[(5,iE (i4:Int))]) n2 n2 [] (by kernel_rfl) (fun i4 s5 q6 hd8 Wx h0=>?_);refine .a [.v (a0.length:Int)] (A (aH.len' a0) T) [(14,dE ((i4:Int)<(a0.length:Int)))] ?_;refine .lc hd8 rfl (by kernel_rfl) (fun x7 q62 bJ hx7 hd9 HY=>?_) (fun bJ=>?_)
  ·subst bJ;obtain⟨y1,h1,hw1,hn1⟩:=bD h0;obtain⟨e12,uG,h1⟩:=bnd h1;refine .ad mixed [(2,[.cs [.v (.int .i64 x7)]]),(6,[.cs [.v (.int .i64 e12)]])] [] (A (aH.jf hx7) (A (aH.idx uG) T)) [(25,dE (¬x7=e12))] [] [] ?_;refine .jP h1 (fun hc13 h1=>?_) (fun hc13 h1=>?_)
   ·refine .a [] T [(4,bE false)] ?_;cases h1;cases hw1 _ rfl;exact .rt hK
   ·refine .a [.v ((i4+1:Nat):Int)] (A (wn (i:=i4) (by omega)) T) [(5,iE ((i4+1:Nat):Int))] ?_;cases h1;exact .nL rfl (i4+1) _ hd9 HY (hn1 _ rfl) [] (by kernel_rfl)
  ·subst bJ;have h0:=bV h0;refine .a [] T [(4,bE true)] ?_;cases h0;exact .rt hK
def jC:Nat→Core→Option (Int)
 | 0,_=>none
 | n+1,a0=>Option.bind (dR (fun(s2:Int) (i1:Nat) (x4:Core)=>Option.bind ((jC n x4).bind fun k11=>(if k11>s2 then some k11 else some s2):Option (Int)) (fun(kS:Int)=>some kS)) 0 a0.kids 0) (fun(s2:Int)=>(if a0.kind=5 then some (aT (s2+1)) else some s2))
theorem zH (n:Nat):∀(a0:Core) {r:Int},jC n a0=some r→aF X.E 12 [aE (aI a0)] [] (iE r) []:=by
 induction n with
 | zero=>intro a0 r h; cases h
 | succ n ih=>
  intro a0 r h0;rw[jC] at h0;refine .n Tryz.func12 (fun L ks low K hl hL hlen hK=>?_);refine .af [] T [(1,pw 1)] [.o 1 (.cells ((aI a0).map .d))] ?_;refine .a [] T [(3,iE 0)] ?_;refine .a [] T [(4,iE 0)] ?_;refine .lL h0 rfl [1] (fun i1 s2=>[(3,iE s2),(4,iE (i1:Int))]) n2 n2 [] (by kernel_rfl) (fun i1 s2 q3 hd5 Qq h0=>?_);refine .a [.v (a0.kids.length:Int)] (A (bI.len' a0.kids) T) [(8,lE 11 (aG a0.kids)),(10,dE ((i1:Int)<(a0.kids.length:Int)))] ?_;refine .sn 8 bI a0.kids (by kernel_rfl) (fun hb8=>?_);refine .lc hd5 rfl (by kernel_rfl) (fun x4 q32 fU hx4 hd6 nM=>?_) (fun fU=>?_)
  ·subst fU;obtain⟨y1,h1,hn1⟩:=bZ h0;refine .ZF h1 rfl [1,4] (fun kS=>[(3,iE kS)]) n1 n1 (fun kS h1=>?_) (fun y2 h2 hj2=>?_)
   ·refine .a [.v ((i1+1:Nat):Int)] (A (wn (i:=i1) (by omega)) T) [(4,iE ((i1+1:Nat):Int))] ?_;cases h1;exact .nL rfl (i1+1) _ hd6 nM hn1 [] (by kernel_rfl)
   ·obtain⟨k11,BO,h2⟩:=bnd h2;refine .a [.cs (aI x4),.call [] (iE k11) []] (A (bI.jf hx4) (A (ih _ BO) T)) [(5,iE k11)] ?_;refine .a [] T [(21,dE (k11>s2))] ?_;refine .jP h2 (fun hc12 h2=>?_) (fun hc12 h2=>?_)
    ·refine .a [] T [(3,iE k11)] ?_;cases h2;exact .lg hj2 []
    ·cases h2;exact .lg hj2 []
  ·subst fU;have h0:=dH h0;refine .a [] T [(25,dE (a0.kind=5))] ?_;refine .jP h0 (fun hc13 h0=>?_) (fun hc13 h0=>?_)
   ·refine .a [.pl] T [(2,iE (aT (s2+1)))] ?_;cases h0;exact .rt hK
   ·refine .a [] T [(2,iE s2)] ?_;cases h0;exact .rt hK
def iP:Nat→Form→Option (Form)
 | 0,_=>none
 | n+1,a0=>(jJ 8 [] a0.scopes).bind fun z1=>Option.bind (dR (fun(s3:List Form) (i2:Nat) (x5:Form)=>(iP n x5).bind fun k11=>(jJ 80 s3 [k11]).bind fun z12=>some z12) 0 a0.kids []) (fun(s3:List Form)=>some (⟨a0.kind,a0.name,a0.n,z1,s3⟩:Form))
theorem nU (n:Nat):∀(a0:Form) {r:Form},iP n a0=some r→aF X.E 93 [aE (ak a0)] [] (aE (ak r)) []:=by
 induction n with
 | zero=>intro a0 r h; cases h
 | succ n ih=>
  intro a0 r h0;rw[iP] at h0;refine .n Tryz.func93 (fun L ks low K hl hL hlen hK=>?_);refine .af [] T [(1,pw 1),(2,pw 2)] [.o 1 (.cells ((ak a0).map .d)),.o 2 (.cells [iE 0,sE [],iE 0,fE 1 (ah []),fE 5 (aj [])])] ?_;obtain⟨z1,hz1,h0⟩:=bnd h0;refine .ad mixed [(6,[.sv (ah [])]),(9,[.sv (ah z1)])] [] (A (aH.lit []) (A (aH.ap hz1) T)) [(3,pw 3)] [.o 100014 (.tok (ah z1).length 3),.o 3 (.cells [iE a0.kind,sE a0.name,iE a0.n,.gs (.own 100014) 1 (ah z1),fE 5 (aj [])])] [] ?_;refine .a [] T [(4,iE 0)] ?_;refine .oc 3 4 100032 26 (by kernel_rfl) ?_;refine .lL h0 rfl [1,2,3] (fun i2 s3=>[(4,iE (i2:Int))]) (fun i2 s3=>[.c 3 4 (.gs (.own 100032) 5 (aj s3)),.o 100032 (.tok (aj s3).length 26)]) n2 [] (by kernel_rfl) (fun i2 s3 q4 hd6 XZ h0=>?_);refine .a [.v (a0.kids.length:Int)] (A (aA.len' a0.kids) T) [(18,lE 5 (aj a0.kids)),(20,dE ((i2:Int)<(a0.kids.length:Int)))] ?_;refine .sn 18 aA a0.kids (by kernel_rfl) (fun hb9=>?_);refine .lc hd6 rfl (by kernel_rfl) (fun x5 Wu iM hx5 hd7 vC=>?_) (fun iM=>?_)
  ·subst iM;obtain⟨y1,h1,hn1⟩:=bZ h0;obtain⟨k11,BO,h1⟩:=bnd h1;obtain⟨z12,KW,h1⟩:=bnd h1;refine .ad mixed [(5,[.cs (ak x5)]),(7,[.call [] (aE (ak k11)) []]),(8,[.sv (aj [k11])]),(9,[.sv (aj z12)])] [((aj s3).length:Int)] (A (aA.jf hx5) (A (ih _ BO) (A (aA.lit [k11]) (A (aA.ap KW) T)))) [] [.c 3 4 (.gs (.own 100032) 5 (aj z12)),.o 100032 (.tok (aj z12).length 26)] [] ?_;refine .a [.v ((i2+1:Nat):Int)] (A (wn (i:=i2) (by omega)) T) [(4,iE ((i2+1:Nat):Int))] ?_;cases h1;exact .nL rfl (i2+1) _ hd7 vC hn1 [] (by kernel_rfl)
  ·subst iM;have h0:=dH h0;refine .af [] T [] [.o 2 (.cells [iE a0.kind,sE a0.name,iE a0.n,.gs (.own 100014) 1 (ah z1),.gs (.own 100032) 5 (aj s3)])] ?_;cases h0;exact .rt hK
def jO:Nat→Core→Option (Core)
 | 0,_=>none
 | n+1,a0=>(jJ 8 [] a0.ids).bind fun z1=>(iP n a0.data).bind fun k2=>Option.bind (dR (fun(s4:List Core) (i3:Nat) (x6:Core)=>(jO n x6).bind fun k12=>(jJ 168 s4 [k12]).bind fun z13=>some z13) 0 a0.kids []) (fun(s4:List Core)=>some (⟨a0.kind,a0.id,a0.name,a0.n,z1,k2,s4⟩:Core))
theorem ER (n:Nat):∀(a0:Core) {r:Core},jO n a0=some r→aF X.E 77 [aE (aI a0)] [] (aE (aI r)) []:=by
 induction n with
 | zero=>intro a0 r h; cases h
 | succ n ih=>
  intro a0 r h0;rw[jO] at h0;refine .n Tryz.func77 (fun L ks low K hl hL hlen hK=>?_);refine .af [] T [(1,pw 1),(2,pw 2)] [.o 1 (.cells ((aI a0).map .d)),.o 2 (.cells [iE 0,iE 0,sE [],iE 0,fE 1 (ah []),iE 0,sE [],iE 0,fE 1 (ah []),fE 5 (aj []),fE 11 (aG [])])] ?_;obtain⟨z1,hz1,h0⟩:=bnd h0;obtain⟨k2,hk2,h0⟩:=bnd h0;refine .ad mixed [(8,[.sv (ah [])]),(11,[.sv (ah z1)]),(14,[.call [] (aE (ak k2)) []])] [] (A (aH.lit []) (A (aH.ap hz1) (A (nU n _ hk2) T))) [(3,pw 3)] [.o 100016 (.tok (ah z1).length 3),.o 3 (.cells [iE a0.kind,iE a0.id,sE a0.name,iE a0.n,.gs (.own 100016) 1 (ah z1),iE k2.kind,sE k2.name,iE k2.n,lE 1 (ah k2.scopes),lE 5 (aj k2.kids),fE 11 (aG [])])] [] ?_;refine .a [] T [(4,iE 0)] ?_;refine .oc 3 10 100037 29 (by kernel_rfl) ?_;refine .lL h0 rfl [1,2,3] (fun i3 s4=>[(4,iE (i3:Int))]) (fun i3 s4=>[.c 3 10 (.gs (.own 100037) 11 (aG s4)),.o 100037 (.tok (aG s4).length 29)]) n2 [] (by kernel_rfl) (fun i3 s4 q5 hd7 hi9 h0=>?_);refine .a [.v (a0.kids.length:Int)] (A (bI.len' a0.kids) T) [(23,lE 11 (aG a0.kids)),(25,dE ((i3:Int)<(a0.kids.length:Int)))] ?_;refine .sn 23 bI a0.kids (by kernel_rfl) (fun AX=>?_);refine .lc hd7 rfl (by kernel_rfl) (fun x6 Me bJ hx6 hd8 jU=>?_) (fun bJ=>?_)
  ·subst bJ;obtain⟨y1,h1,hn1⟩:=bZ h0;obtain⟨k12,hk12,h1⟩:=bnd h1;obtain⟨z13,zI,h1⟩:=bnd h1;refine .ad mixed [(5,[.cs (aI x6)]),(7,[.call [] (aE (aI k12)) []]),(8,[.sv (aG [k12])]),(9,[.sv (aG z13)])] [((aG s4).length:Int)] (A (bI.jf hx6) (A (ih _ hk12) (A (bI.lit [k12]) (A (bI.ap zI) T)))) [] [.c 3 10 (.gs (.own 100037) 11 (aG z13)),.o 100037 (.tok (aG z13).length 29)] [] ?_;refine .a [.v ((i3+1:Nat):Int)] (A (wn (i:=i3) (by omega)) T) [(4,iE ((i3+1:Nat):Int))] ?_;cases h1;exact .nL rfl (i3+1) _ hd8 jU hn1 [] (by kernel_rfl)
  ·subst bJ;have h0:=dH h0;refine .af [] T [] [.o 2 (.cells [iE a0.kind,iE a0.id,sE a0.name,iE a0.n,.gs (.own 100016) 1 (ah z1),iE k2.kind,sE k2.name,iE k2.n,lE 1 (ah k2.scopes),lE 5 (aj k2.kids),.gs (.own 100037) 11 (aG s4)])] ?_;cases h0;exact .rt hK
def pK:Nat→Core→Option (Int)
 | 0,_=>none
 | n+1,a0=>Option.bind (dR (fun(s2:Int) (i1:Nat) (x4:Core)=>(pK n x4).bind fun k10=>some (aT (s2+k10))) 0 a0.kids 1) (fun(s2:Int)=>some s2)
theorem KX (n:Nat):∀(a0:Core) {r:Int},pK n a0=some r→aF X.E 120 [aE (aI a0)] [] (iE r) []:=by
 induction n with
 | zero=>intro a0 r h; cases h
 | succ n ih=>
  intro a0 r h0;rw[pK] at h0;refine .n Tryz.func120 (fun L ks low K hl hL hlen hK=>?_);refine .af [] T [(1,pw 1)] [.o 1 (.cells ((aI a0).map .d))] ?_;refine .a [] T [(3,iE 1)] ?_;refine .a [] T [(4,iE 0)] ?_;refine .lL h0 rfl [1] (fun i1 s2=>[(3,iE s2),(4,iE (i1:Int))]) n2 n2 [] (by kernel_rfl) (fun i1 s2 q3 hd5 Qq h0=>?_);refine .a [.v (a0.kids.length:Int)] (A (bI.len' a0.kids) T) [(7,lE 11 (aG a0.kids)),(9,dE ((i1:Int)<(a0.kids.length:Int)))] ?_;refine .sn 7 bI a0.kids (by kernel_rfl) (fun hb8=>?_);refine .lc hd5 rfl (by kernel_rfl) (fun x4 q32 fU hx4 hd6 nM=>?_) (fun fU=>?_)
  ·subst fU;obtain⟨y1,h1,hn1⟩:=bZ h0;obtain⟨k10,hk10,h1⟩:=bnd h1;refine .a [.cs (aI x4),.call [] (iE k10) [],.pl] (A (bI.jf hx4) (A (ih _ hk10) T)) [(3,iE (aT (s2+k10)))] ?_;refine .a [.v ((i1+1:Nat):Int)] (A (wn (i:=i1) (by omega)) T) [(4,iE ((i1+1:Nat):Int))] ?_;cases h1;exact .nL rfl (i1+1) _ hd6 nM hn1 [] (by kernel_rfl)
  ·subst fU;have h0:=dH h0;refine .a [] T [(2,iE s2)] ?_;cases h0;exact .rt hK
def mY (n:Nat) (a0:List Int) (a1:Int):Option (Bool):=
 bG (bM (fun(s2:Unit) (i1:Nat) (x4:Int)=>((if x4=a1 then some (Sum.inl true) else some (Sum.inr ())):Option (Bool⊕Unit))) 0 a0 ()) (fun(s2:Unit)=>some false)
theorem tY (n:Nat):∀(a0:List Int) (a1:Int) {r:Bool},mY n a0 a1=some r→aF X.E 140 [lE 1 (ah a0),iE a1] [] (bE r) []:=by
 intro a0 a1 r h0;rw[mY] at h0;refine .n Tryz.func140 (fun L ks low K hl hL hlen hK=>?_);refine .a [] T [] ?_;refine .a [] T [(5,iE 0)] ?_;refine .lI h0 rfl [0,1] (fun i1 s2=>[(5,iE (i1:Int))]) n2 n2 [] (by kernel_rfl) (fun i1 s2 q3 hd5 Qq h0=>?_);refine .a [.v (a0.length:Int)] (A (aH.len' a0) T) [(9,dE ((i1:Int)<(a0.length:Int)))] ?_;refine .sn 0 aH a0 (by kernel_rfl) (fun hb8=>?_);refine .lc hd5 rfl (by kernel_rfl) (fun x4 q32 fU hx4 hd6 nM=>?_) (fun fU=>?_)
 ·subst fU;obtain⟨y1,h1,hw1,hn1⟩:=bD h0;refine .a [.cs [.v (.int .i64 x4)]] (A (aH.jf hx4) T) [(17,dE (x4=a1))] ?_;refine .jP h1 (fun iM h1=>?_) (fun iM h1=>?_)
  ·refine .a [] T [(4,bE true)] ?_;cases h1;cases hw1 _ rfl;exact .rt hK
  ·refine .a [.v ((i1+1:Nat):Int)] (A (wn (i:=i1) (by omega)) T) [(5,iE ((i1+1:Nat):Int))] ?_;cases h1;exact .nL rfl (i1+1) _ hd6 nM (hn1 _ rfl) [] (by kernel_rfl)
 ·subst fU;have h0:=bV h0;refine .a [] T [(4,bE false)] ?_;cases h0;exact .rt hK
def rX (n:Nat) (a0:List Int) (a1:List Int):Option (Bool):=
 (if ¬(a0.length:Int)=(a1.length:Int) then some false else bG (bM (fun(s5:Unit) (i4:Nat) (x7:Int)=>((gG a1 (i4:Int)).bind fun e12=>(if ¬x7=e12 then some (Sum.inl false) else some (Sum.inr ())):Option (Bool⊕Unit))) 0 a0 ()) (fun(s5:Unit)=>some true))
theorem uV (n:Nat):∀(a0:List Int) (a1:List Int) {r:Bool},rX n a0 a1=some r→aF X.E 164 [lE 1 (ah a0),lE 1 (ah a1)] [] (bE r) []:=by
 intro a0 a1 r h0;rw[rX] at h0;refine .n Tryz.func164 (fun L ks low K hl hL hlen hK=>?_);refine .a [] T [] ?_;refine .a [.v (a0.length:Int),.v (a1.length:Int)] (A (aH.len' a0) (A (aH.len' a1) T)) [(10,dE (¬(a0.length:Int)=(a1.length:Int)))] ?_;refine .sn 0 aH a0 (by kernel_rfl) (fun hb1=>?_);refine .sn 1 aH a1 (by kernel_rfl) (fun hb2=>?_);refine .jP h0 (fun hc3 h0=>?_) (fun hc3 h0=>?_)
 ·refine .a [] T [(4,bE false)] ?_;cases h0;exact .rt hK
 ·refine .a [] T [(5,iE 0)] ?_;refine .lI h0 rfl [0,1] (fun i4 s5=>[(5,iE (i4:Int))]) n2 n2 [] (by kernel_rfl) (fun i4 s5 q6 hd8 Wx h0=>?_);refine .a [.v (a0.length:Int)] (A (aH.len' a0) T) [(14,dE ((i4:Int)<(a0.length:Int)))] ?_;refine .lc hd8 rfl (by kernel_rfl) (fun x7 q62 bJ hx7 hd9 HY=>?_) (fun bJ=>?_)
  ·subst bJ;obtain⟨y1,h1,hw1,hn1⟩:=bD h0;obtain⟨e12,uG,h1⟩:=bnd h1;refine .ad mixed [(2,[.cs [.v (.int .i64 x7)]]),(6,[.cs [.v (.int .i64 e12)]])] [] (A (aH.jf hx7) (A (aH.idx uG) T)) [(25,dE (¬x7=e12))] [] [] ?_;refine .jP h1 (fun hc13 h1=>?_) (fun hc13 h1=>?_)
   ·refine .a [] T [(4,bE false)] ?_;cases h1;cases hw1 _ rfl;exact .rt hK
   ·refine .a [.v ((i4+1:Nat):Int)] (A (wn (i:=i4) (by omega)) T) [(5,iE ((i4+1:Nat):Int))] ?_;cases h1;exact .nL rfl (i4+1) _ hd9 HY (hn1 _ rfl) [] (by kernel_rfl)
  ·subst bJ;have h0:=bV h0;refine .a [] T [(4,bE true)] ?_;cases h0;exact .rt hK
def eP:Nat→Form→Form→Option (Bool)
 | 0,_,_=>none
 | n+1,a0,a1=>Option.bind ((if ¬a0.kind=a1.kind then some true else(if ¬a0.name=a1.name then some true else(if ¬a0.n=a1.n then some true else(rX n a0.scopes a1.scopes).bind fun k18=>(if(!k18)=true then some true else some (decide (¬(a0.kids.length:Int)=(a1.kids.length:Int))))))):Option (Bool)) (fun(o1:Bool)=>(if o1=true then some false else bG (bM (fun(s4:Unit) (i3:Nat) (x6:Form)=>((gG a1.kids (i3:Int)).bind fun e12=>(eP n x6 e12).bind fun k13=>(if(!k13)=true then some (Sum.inl false) else some (Sum.inr ())):Option (Bool⊕Unit))) 0 a0.kids ()) (fun(s4:Unit)=>some true)))
theorem gU (n:Nat):∀(a0:Form) (a1:Form) {r:Bool},eP n a0 a1=some r→aF X.E 152 [aE (ak a0),aE (ak a1)] [] (bE r) []:=by
 induction n with
 | zero=>intro a0 a1 r h; cases h
 | succ n ih=>
  intro a0 a1 r h0;rw[eP] at h0;refine .n Tryz.func152 (fun L ks low K hl hL hlen hK=>?_);refine .af [] T [(2,pw 2),(3,pw 3)] [.o 2 (.cells ((ak a0).map .d)),.o 3 (.cells ((ak a1).map .d))] ?_;refine .bP h0 rfl [2,3] (fun o1=>[(41,bE o1)]) n1 n1 (fun o1 h0=>?_) (fun y1 h1 hj1=>?_)
  ·refine .jT h0 (fun hc2 h0=>?_) (fun hc2 h0=>?_)
   ·refine .a [] T [(4,bE false)] ?_;cases h0;exact .rt hK
   ·refine .a [] T [(5,iE 0)] ?_;refine .lI h0 rfl [2,3] (fun i3 s4=>[(5,iE (i3:Int))]) n2 n2 [] (by kernel_rfl) (fun i3 s4 q5 hd7 hi9 h0=>?_);refine .a [.v (a0.kids.length:Int)] (A (aA.len' a0.kids) T) [(44,lE 5 (aj a0.kids)),(46,dE ((i3:Int)<(a0.kids.length:Int)))] ?_;refine .sn 44 aA a0.kids (by kernel_rfl) (fun AX=>?_);refine .lc hd7 rfl (by kernel_rfl) (fun x6 Me bJ hx6 hd8 jU=>?_) (fun bJ=>?_)
    ·subst bJ;obtain⟨y1,h1,hw1,hn1⟩:=bD h0;obtain⟨e12,uG,h1⟩:=bnd h1;obtain⟨k13,oH,h1⟩:=bnd h1;refine .ad mixed [(3,[.cs (ak x6)]),(8,[.cs (ak e12)]),(10,[.call [] (bE k13) []])] [] (A (aA.jf hx6) (A (aA.idx uG) (A (ih _ _ oH) T))) [(60,bE (!k13))] [] [] ?_;refine .jT h1 (fun oI h1=>?_) (fun oI h1=>?_)
     ·refine .a [] T [(4,bE false)] ?_;cases h1;cases hw1 _ rfl;exact .rt hK
     ·refine .a [.v ((i3+1:Nat):Int)] (A (wn (i:=i3) (by omega)) T) [(5,iE ((i3+1:Nat):Int))] ?_;cases h1;exact .nL rfl (i3+1) _ hd8 jU (hn1 _ rfl) [] (by kernel_rfl)
    ·subst bJ;have h0:=bV h0;refine .a [] T [(4,bE true)] ?_;cases h0;exact .rt hK
  ·by_cases g15:¬a0.kind=a1.kind
   ·have h1:=aJ g15 h1;refine .a (rb 27 true []) (R 6 (dt g15) (R 21 B1 T)) [(41,bE true)] ?_;cases h1;exact .lg hj1 []
   ·have h1:=aK g15 h1;by_cases g16:¬a0.name=a1.name
    ·have h1:=aJ g16 h1;refine .a (rb 6 false (rb 21 true [])) (R 6 (df g15) (R 6 (dt g16) (R 15 B1 T))) [(41,bE true)] ?_;cases h1;exact .lg hj1 []
    ·have h1:=aK g16 h1;by_cases g17:¬a0.n=a1.n
     ·have h1:=aJ g17 h1;refine .a (rb 12 false (rb 15 true [])) (R 6 (df g15) (R 6 (df g16) (R 7 (dt g17) (R 8 B1 T)))) [(41,bE true)] ?_;cases h1;exact .lg hj1 []
     ·have h1:=aK g17 h1;obtain⟨k18,oV,h1⟩:=bnd h1;by_cases g19:(!k18)=true
      ·have h1:=aJ g19 h1;refine .a (rb 17 false (.call [] (bE k18) []::(.b false::(.b false::(rb 8 true []))))) (R 6 (df g15) (R 6 (df g16) (R 4 (df g17) (A (A (df g17) (uV n _ _ oV)) (R 2 (df g17) (R 8 g19 T)))))) [(41,bE true)] ?_;cases h1;exact .lg hj1 []
      ·have h1:=aK g19 h1;refine .a (rb 17 false (.call [] (bE k18) []::(rb 5 false (.v (a0.kids.length:Int)::(rb 3 false [.v (a1.kids.length:Int),.b false,.b false]))))) (R 6 (df g15) (R 6 (df g16) (R 4 (df g17) (A (A (df g17) (uV n _ _ oV)) (R 2 (df g17) (R 2 (Bool.eq_false_iff.2 g19) (A (A (Bool.eq_false_iff.2 g19) (aA.len' a0.kids)) (R 2 (Bool.eq_false_iff.2 g19) (A (A (Bool.eq_false_iff.2 g19) (aA.len' a1.kids)) (R 2 (Bool.eq_false_iff.2 g19) T)))))))))) [(41,dE (¬(a0.kids.length:Int)=(a1.kids.length:Int)))] ?_;cases h1;exact .lg hj1 []
def kK:Nat→Form→Option (Int)
 | 0,_=>none
 | n+1,a0=>Option.bind (dR (fun(s2:Int) (i1:Nat) (x4:Form)=>(kK n x4).bind fun k10=>some (aT (s2+k10))) 0 a0.kids 1) (fun(s2:Int)=>some s2)
theorem Dk (n:Nat):∀(a0:Form) {r:Int},kK n a0=some r→aF X.E 112 [aE (ak a0)] [] (iE r) []:=by
 induction n with
 | zero=>intro a0 r h; cases h
 | succ n ih=>
  intro a0 r h0;rw[kK] at h0;refine .n Tryz.func112 (fun L ks low K hl hL hlen hK=>?_);refine .af [] T [(1,pw 1)] [.o 1 (.cells ((ak a0).map .d))] ?_;refine .a [] T [(3,iE 1)] ?_;refine .a [] T [(4,iE 0)] ?_;refine .lL h0 rfl [1] (fun i1 s2=>[(3,iE s2),(4,iE (i1:Int))]) n2 n2 [] (by kernel_rfl) (fun i1 s2 q3 hd5 Qq h0=>?_);refine .a [.v (a0.kids.length:Int)] (A (aA.len' a0.kids) T) [(7,lE 5 (aj a0.kids)),(9,dE ((i1:Int)<(a0.kids.length:Int)))] ?_;refine .sn 7 aA a0.kids (by kernel_rfl) (fun hb8=>?_);refine .lc hd5 rfl (by kernel_rfl) (fun x4 q32 fU hx4 hd6 nM=>?_) (fun fU=>?_)
  ·subst fU;obtain⟨y1,h1,hn1⟩:=bZ h0;obtain⟨k10,hk10,h1⟩:=bnd h1;refine .a [.cs (ak x4),.call [] (iE k10) [],.pl] (A (aA.jf hx4) (A (ih _ hk10) T)) [(3,iE (aT (s2+k10)))] ?_;refine .a [.v ((i1+1:Nat):Int)] (A (wn (i:=i1) (by omega)) T) [(4,iE ((i1+1:Nat):Int))] ?_;cases h1;exact .nL rfl (i1+1) _ hd6 nM hn1 [] (by kernel_rfl)
  ·subst fU;have h0:=dH h0;refine .a [] T [(2,iE s2)] ?_;cases h0;exact .rt hK
def qM (n:Nat) (a0:Int) (a1:Bool):Option (Bool):=
 Option.bind ((if a0≥97 then(if a0≤122 then some true else(if a0=42 then some true else(if a0=63 then some true else(if a0=61 then some true else(if a0=43 then some true else some (decide (a0=60))))))) else(if a0=42 then some true else(if a0=63 then some true else(if a0=61 then some true else(if a0=43 then some true else some (decide (a0=60))))))):Option (Bool)) (fun(o1:Bool)=>(if o1=true then some true else Option.bind ((if(!a1)=true then(if a0≥48 then(if a0≤57 then some true else some (decide (a0=45))) else some (decide (a0=45))) else some false):Option (Bool)) (fun(o3:Bool)=>some o3)))
theorem I9 (n:Nat):∀(a0:Int) (a1:Bool) {r:Bool},qM n a0 a1=some r→aF X.E 143 [.d (.v (.int .u8 a0)),bE a1] [] (bE r) []:=by
 intro a0 a1 r h0;rw[qM] at h0;refine .n Tryz.func143 (fun L ks low K hl hL hlen hK=>?_);refine .a [] T [] ?_;refine .bP h0 rfl [0,1] (fun o1=>[(30,bE o1)]) n1 n1 (fun o1 h0=>?_) (fun y1 h1 hj1=>?_)
 ·refine .jT h0 (fun hc2 h0=>?_) (fun hc2 h0=>?_)
  ·refine .a [] T [(4,bE true)] ?_;cases h0;exact .rt hK
  ·refine .bP h0 rfl [] (fun o3=>[(4,bE o3)]) n1 n1 (fun o3 h0=>?_) (fun y1 h1 hj1=>?_)
   ·cases h0;exact .rt hK
   ·by_cases g4:(!a1)=true
    ·have h1:=aJ g4 h1;by_cases g5:a0≥48
     ·have h1:=aJ g5 h1;by_cases g6:a0≤57
      ·have h1:=aJ g6 h1;refine .a (rb 13 true []) (R 3 g4 (R 2 (dt g5) (A (A g4 (dt g5)) (A g4 (R 2 (dt g6) (A (A g4 (dt g6)) (A g4 T))))))) [(4,bE true)] ?_;cases h1;exact .lg hj1 []
      ·have h1:=aK g6 h1;refine .a (rb 8 true [.b false,.b false,.b true,.b false,.b true]) (R 3 g4 (R 2 (dt g5) (A (A g4 (dt g5)) (A g4 (R 2 (df g6) (A (A g4 (df g6)) (A g4 T))))))) [(4,dE (a0=45))] ?_;cases h1;exact .lg hj1 []
     ·have h1:=aK g5 h1;refine .a (rb 3 true [.b false,.b false,.b true,.b false,.b true,.b false,.b false,.b true,.b false,.b true]) (R 3 g4 (R 2 (df g5) (A (A g4 (df g5)) (A g4 (R 2 B0 (A (A g4 B0) (A g4 T))))))) [(4,dE (a0=45))] ?_;cases h1;exact .lg hj1 []
    ·have h1:=aK g4 h1;refine .a (rb 7 false []) (R 7 (Bool.eq_false_iff.2 g4) T) [(4,bE false)] ?_;cases h1;exact .lg hj1 []
 ·by_cases g7:a0≥97
  ·have h1:=aJ g7 h1;by_cases g8:a0≤122
   ·have h1:=aJ g8 h1;refine .a (rb 18 true []) (R 3 (dt g7) (R 3 (dt g8) (R 12 B1 T))) [(30,bE true)] ?_;cases h1;exact .lg hj1 []
   ·have h1:=aK g8 h1;by_cases g9:a0=42
    ·have h1:=aJ g9 h1;refine .a (rb 3 true (rb 3 false (rb 12 true []))) (R 3 (dt g7) (R 3 (df g8) (R 3 (dt g9) (R 9 B1 T)))) [(30,bE true)] ?_;cases h1;exact .lg hj1 []
    ·have h1:=aK g9 h1;by_cases g10:a0=63
     ·have h1:=aJ g10 h1;refine .a (rb 3 true (rb 6 false (rb 9 true []))) (R 3 (dt g7) (R 3 (df g8) (R 3 (df g9) (R 3 (dt g10) (R 6 B1 T))))) [(30,bE true)] ?_;cases h1;exact .lg hj1 []
     ·have h1:=aK g10 h1;by_cases g11:a0=61
      ·have h1:=aJ g11 h1;refine .a (rb 3 true (rb 9 false (rb 6 true []))) (R 3 (dt g7) (R 3 (df g8) (R 3 (df g9) (R 3 (df g10) (R 3 (dt g11) (R 3 B1 T)))))) [(30,bE true)] ?_;cases h1;exact .lg hj1 []
      ·have h1:=aK g11 h1;by_cases g12:a0=43
       ·have h1:=aJ g12 h1;refine .a (rb 3 true (rb 12 false (rb 3 true []))) (R 3 (dt g7) (R 3 (df g8) (R 3 (df g9) (R 3 (df g10) (R 3 (df g11) (R 3 (dt g12) T)))))) [(30,bE true)] ?_;cases h1;exact .lg hj1 []
       ·have h1:=aK g12 h1;refine .a (rb 3 true (rb 15 false [])) (R 3 (dt g7) (R 3 (df g8) (R 3 (df g9) (R 3 (df g10) (R 3 (df g11) (R 3 (df g12) T)))))) [(30,dE (a0=60))] ?_;cases h1;exact .lg hj1 []
  ·have h1:=aK g7 h1;by_cases g13:a0=42
   ·have h1:=aJ g13 h1;refine .a (rb 6 false (rb 12 true [])) (R 3 (df g7) (R 3 B0 (R 3 (dt g13) (R 9 B1 T)))) [(30,bE true)] ?_;cases h1;exact .lg hj1 []
   ·have h1:=aK g13 h1;by_cases g14:a0=63
    ·have h1:=aJ g14 h1;refine .a (rb 9 false (rb 9 true [])) (R 3 (df g7) (R 3 B0 (R 3 (df g13) (R 3 (dt g14) (R 6 B1 T))))) [(30,bE true)] ?_;cases h1;exact .lg hj1 []
    ·have h1:=aK g14 h1;by_cases g15:a0=61
     ·have h1:=aJ g15 h1;refine .a (rb 12 false (rb 6 true [])) (R 3 (df g7) (R 3 B0 (R 3 (df g13) (R 3 (df g14) (R 3 (dt g15) (R 3 B1 T)))))) [(30,bE true)] ?_;cases h1;exact .lg hj1 []
     ·have h1:=aK g15 h1;by_cases g16:a0=43
      ·have h1:=aJ g16 h1;refine .a (rb 15 false (rb 3 true [])) (R 3 (df g7) (R 3 B0 (R 3 (df g13) (R 3 (df g14) (R 3 (df g15) (R 3 (dt g16) T)))))) [(30,bE true)] ?_;cases h1;exact .lg hj1 []
      ·have h1:=aK g16 h1;refine .a (rb 18 false []) (R 3 (df g7) (R 3 B0 (R 3 (df g13) (R 3 (df g14) (R 3 (df g15) (R 3 (df g16) T)))))) [(30,dE (a0=60))] ?_;cases h1;exact .lg hj1 []
def iW (n:Nat) (a0:List UInt8):Option (Bool):=
 Option.bind ((if a0=[46,46,46] then some true else some (decide (a0=[95]))):Option (Bool)) (fun(o1:Bool)=>(if o1=true then some true else iterM n (fun(s3:Int)=>(Option.bind ((if s3<(a0.length:Int) then some (decide (s3≤12)) else some false):Option (Bool)) (fun(o5:Bool)=>(if o5=true then(gG a0 s3).bind fun y7=>(qM n (y7.toNat:Int) (decide (s3=0))).bind fun k8=>(if(!k8)=true then some (Sum.inl false) else some (Sum.inr (aT (s3+1)))) else Option.bind ((if(a0.length:Int)≥1 then some (decide ((a0.length:Int)≤12)) else some false):Option (Bool)) (fun(kS:Bool)=>some (Sum.inl kS)))):Option (Bool⊕Int))) 0))
theorem dB (n:Nat):∀(a0:List UInt8) {r:Bool},iW n a0=some r→aF X.E 129 [sE a0] [] (bE r) []:=by
 intro a0 r h0;rw[iW] at h0;refine .n Tryz.func129 (fun L ks low K hl hL hlen hK=>?_);refine .a [] T [] ?_;refine .bP h0 rfl [0] (fun o1=>[(9,bE o1)]) n1 n1 (fun o1 h0=>?_) (fun y1 h1 hj1=>?_)
 ·refine .jT h0 (fun hc2 h0=>?_) (fun hc2 h0=>?_)
  ·refine .a [] T [(2,bE true)] ?_;cases h0;exact .rt hK
  ·refine .a [] T [(3,iE 0)] ?_;refine .it h0 rfl [0] (fun s3=>[(3,iE s3)]) n1 n1 [] (by kernel_rfl) (fun nk4 s3 h0=>?_);obtain⟨y1,h1,hw1,hn1⟩:=cO h0;refine .bP h1 rfl [0,3] (fun o5=>[(17,bE o5)]) n1 n1 (fun o5 h1=>?_) (fun y2 h2 hj2=>?_)
   ·refine .jT h1 (fun hc6 h1=>?_) (fun hc6 h1=>?_)
    ·obtain⟨y7,hy7,h1⟩:=bnd h1;obtain⟨k8,hk8,h1⟩:=bnd h1;refine .a [.CG y7,.call [] (bE k8) []] (A (DU hy7) (A (I9 n _ _ hk8) T)) [(26,bE (!k8))] ?_;refine .jT h1 (fun fU h1=>?_) (fun fU h1=>?_)
     ·refine .a [] T [(2,bE false)] ?_;cases h1;cases hw1 _ rfl;exact .rt hK
     ·refine .a [.pl] T [(3,iE (aT (s3+1)))] ?_;cases h1;exact .nI rfl _ (hn1 _ rfl) [] (by kernel_rfl)
    ·refine .bP h1 rfl [] (fun kS=>[(2,bE kS)]) n1 n1 (fun kS h1=>?_) (fun y2 h2 hj2=>?_)
     ·cases h1;cases hw1 _ rfl;exact .rt hK
     ·by_cases g11:(a0.length:Int)≥1
      ·have h2:=aJ g11 h2;refine .a (rb 4 true []) (R 4 (dt g11) T) [(2,dE ((a0.length:Int)≤12))] ?_;cases h2;exact .lg hj2 []
      ·have h2:=aK g11 h2;refine .a (rb 4 false []) (R 4 (df g11) T) [(2,bE false)] ?_;cases h2;exact .lg hj2 []
   ·by_cases g12:s3<(a0.length:Int)
    ·have h2:=aJ g12 h2;refine .a (rb 3 true []) (R 3 (dt g12) T) [(17,dE (s3≤12))] ?_;cases h2;exact .lg hj2 []
    ·have h2:=aK g12 h2;refine .a (rb 3 false []) (R 3 (df g12) T) [(17,bE false)] ?_;cases h2;exact .lg hj2 []
 ·by_cases g13:a0=[46,46,46]
  ·have h1:=aJ g13 h1;refine .a (rb 3 true []) (R 3 (dt g13) T) [(9,bE true)] ?_;cases h1;exact .lg hj1 []
  ·have h1:=aK g13 h1;refine .a (rb 3 false []) (R 3 (df g13) T) [(9,dE (a0=[95]))] ?_;cases h1;exact .lg hj1 []
def kL (n:Nat) (a0:List Int):Option (Bool):=
 iterM n (fun(s1:Int)=>(Option.bind ((if s1<(a0.length:Int) then some (decide (s1≤24)) else some false):Option (Bool)) (fun(o3:Bool)=>(if o3=true then Option.bind ((gG a0 s1).bind fun e7=>(if e7<1 then some true else(if e7>99 then some true else(if s1>0 then(gG a0 (aT (s1-1))).bind fun e11=>some (decide (e7≤e11)) else some false))):Option (Bool)) (fun(o5:Bool)=>(if o5=true then some (Sum.inl false) else some (Sum.inr (aT (s1+1))))) else some (Sum.inl (decide ((a0.length:Int)≤24))))):Option (Bool⊕Int))) 0
theorem iy (n:Nat):∀(a0:List Int) {r:Bool},kL n a0=some r→aF X.E 130 [lE 1 (ah a0)] [] (bE r) []:=by
 intro a0 r h0;rw[kL] at h0;refine .n Tryz.func130 (fun L ks low K hl hL hlen hK=>?_);refine .a [] T [] ?_;refine .a [] T [(3,iE 0)] ?_;refine .it h0 rfl [0] (fun s1=>[(3,iE s1)]) n1 n1 [] (by kernel_rfl) (fun WE s1 h0=>?_);obtain⟨y1,h1,hw1,hn1⟩:=cO h0;refine .bP h1 rfl [0,3] (fun o3=>[(11,bE o3)]) n1 n1 (fun o3 h1=>?_) (fun y2 h2 hj2=>?_)
 ·refine .jT h1 (fun hc4 h1=>?_) (fun hc4 h1=>?_)
  ·refine .bP h1 rfl [0,3] (fun o5=>[(41,bE o5)]) n1 n1 (fun o5 h1=>?_) (fun y2 h2 hj2=>?_)
   ·refine .jT h1 (fun hc6 h1=>?_) (fun hc6 h1=>?_)
    ·refine .a [] T [(2,bE false)] ?_;cases h1;cases hw1 _ rfl;exact .rt hK
    ·refine .a [.pl] T [(3,iE (aT (s1+1)))] ?_;cases h1;exact .nI rfl _ (hn1 _ rfl) [] (by kernel_rfl)
   ·obtain⟨e7,ET,h2⟩:=bnd h2;by_cases g8:e7<1
    ·have h2:=aJ g8 h2;refine .ad mixed ((2,[.cs [.v (.int .i64 e7)]])::(qb 6 6 true (qb 13 3 true (qb 26 2 true [])))) [] (A (aH.idx ET) (R 6 (dt g8) (R 5 B1 T))) [(41,bE true)] [] [] ?_;cases h2;exact .lg hj2 []
    ·have h2:=aK g8 h2;by_cases g9:e7>99
     ·have h2:=aJ g9 h2;refine .ad mixed ((2,[.cs [.v (.int .i64 e7)]])::(qb 6 2 false ((8,[.b false,.cs [.v (.int .i64 e7)]])::(qb 9 3 false (qb 13 3 true (qb 26 2 true [])))))) [] (A (aH.idx ET) (R 2 (df g8) (A (A (df g8) (aH.idx ET)) (R 3 (df g8) (R 5 (dt g9) T))))) [(41,bE true)] [] [] ?_;cases h2;exact .lg hj2 []
     ·have h2:=aK g9 h2;by_cases g10:s1>0
      ·have h2:=aJ g10 h2;obtain⟨e11,aaS,h2⟩:=bnd h2;refine .ad mixed ((2,[.cs [.v (.int .i64 e7)]])::(qb 6 2 false ((8,[.b false,.cs [.v (.int .i64 e7)]])::(qb 9 3 false (qb 13 3 false (qb 16 2 true ((18,[.b true,.cs [.v (.int .i64 e7)]])::(qb 19 3 true ((22,[.b true,.pl])::((23,[.b true,.cs [.v (.int .i64 e11)]])::(qb 24 2 true [(26,[.b false,.b true]),(27,[.b false])]))))))))))) [] (A (aH.idx ET) (R 2 (df g8) (A (A (df g8) (aH.idx ET)) (R 3 (df g8) (R 3 (df g9) (R 2 (dt g10) (A (A (dt g10) (aH.idx ET)) (R 4 (dt g10) (A (A (dt g10) (aH.idx aaS)) (R 2 (dt g10) (A (A (df g9) (dt g10)) (A (df g9) T)))))))))))) [(41,dE (e7≤e11))] [] [] ?_;cases h2;exact .lg hj2 []
      ·have h2:=aK g10 h2;refine .ad mixed ((2,[.cs [.v (.int .i64 e7)]])::(qb 6 2 false ((8,[.b false,.cs [.v (.int .i64 e7)]])::(qb 9 3 false (qb 13 13 false [(26,[.b false,.b false]),(27,[.b false])]))))) [] (A (aH.idx ET) (R 2 (df g8) (A (A (df g8) (aH.idx ET)) (R 3 (df g8) (R 3 (df g9) (R 10 (df g10) (A (A (df g9) (df g10)) (A (df g9) T)))))))) [(41,bE false)] [] [] ?_;cases h2;exact .lg hj2 []
  ·refine .a [.v (a0.length:Int)] (A (aH.len' a0) T) [(2,dE ((a0.length:Int)≤24))] ?_;refine .sn 0 aH a0 (by kernel_rfl) (fun aeH=>?_);cases h1;cases hw1 _ rfl;exact .rt hK
 ·by_cases g13:s1<(a0.length:Int)
  ·have h2:=aJ g13 h2;refine .a (.v (a0.length:Int)::(rb 3 true [])) (A (aH.len' a0) (R 3 (dt g13) T)) [(11,dE (s1≤24))] ?_;refine .sn 0 aH a0 (by kernel_rfl) (fun ac0=>?_);cases h2;exact .lg hj2 []
  ·have h2:=aK g13 h2;refine .a (.v (a0.length:Int)::(rb 3 false [])) (A (aH.len' a0) (R 3 (df g13) T)) [(11,bE false)] ?_;refine .sn 0 aH a0 (by kernel_rfl) (fun agw=>?_);cases h2;exact .lg hj2 []
def xU:Nat→Form→Int→Option (Bool)
 | 0,_,_=>none
 | n+1,a0,a1=>(if a1=0 then some false else(if a0.kind=1 then Option.bind ((iW n a0.name).bind fun k4=>(if k4=true then(if a0.n=0 then(kL n a0.scopes).bind fun k7=>(if k7=true then some (decide ((a0.kids.length:Int)=0)) else some false) else some false) else some false):Option (Bool)) (fun(o3:Bool)=>some o3) else(if a0.kind=2 then Option.bind ((if a0.name=[] then(if a0.n≥0 then(if a0.n≤999 then(if(a0.scopes.length:Int)=0 then some (decide ((a0.kids.length:Int)=0)) else some false) else some false) else some false) else some false):Option (Bool)) (fun(kS:Bool)=>some kS) else Option.bind ((if ¬a0.kind=3 then some true else(if ¬a0.name=[] then some true else(if ¬a0.n=0 then some true else some (decide (¬(a0.scopes.length:Int)=0))))):Option (Bool)) (fun(Az:Bool)=>(if Az=true then some false else bG (bM (fun(s18:Unit) (i17:Nat) (x20:Form)=>((xU n x20 (aT (a1-1))).bind fun k26=>(if(!k26)=true then some (Sum.inl false) else some (Sum.inr ())):Option (Bool⊕Unit))) 0 a0.kids ()) (fun(s18:Unit)=>some true))))))
theorem JM (n:Nat):∀(a0:Form) (a1:Int) {r:Bool},xU n a0 a1=some r→aF X.E 111 [aE (ak a0),iE a1] [] (bE r) []:=by
 induction n with
 | zero=>intro a0 a1 r h; cases h
 | succ n ih=>
  intro a0 a1 r h0;rw[xU] at h0;refine .n Tryz.func111 (fun L ks low K hl hL hlen hK=>?_);refine .af [] T [(2,pw 2)] [.o 2 (.cells ((ak a0).map .d))] ?_;refine .a [] T [(7,dE (a1=0))] ?_;refine .jP h0 (fun hc1 h0=>?_) (fun hc1 h0=>?_)
  ·refine .a [] T [(4,bE false)] ?_;cases h0;exact .rt hK
  ·refine .a [] T [(9,iE a0.kind)] ?_;refine .a [] T [(10,dE (a0.kind=1))] ?_;refine .jP h0 (fun hc2 h0=>?_) (fun hc2 h0=>?_)
   ·refine .bP h0 rfl [] (fun o3=>[(4,bE o3)]) n1 n1 (fun o3 h0=>?_) (fun y1 h1 hj1=>?_)
    ·cases h0;exact .rt hK
    ·obtain⟨k4,hk4,h1⟩:=bnd h1;by_cases g5:k4=true
     ·have h1:=aJ g5 h1;by_cases g6:a0.n=0
      ·have h1:=aJ g6 h1;obtain⟨k7,JL,h1⟩:=bnd h1;by_cases g8:k7=true
       ·have h1:=aJ g8 h1;refine .a (.call [] (bE k4) []::(rb 7 true (.call [] (bE k7) []::(rb 4 true [.v (a0.kids.length:Int),.b true,.b true])))) (A (dB n _ hk4) (R 4 g5 (R 2 (dt g6) (A (A (dt g6) (iy n _ JL)) (A (dt g6) (R 2 g8 (A (A g8 (aA.len' a0.kids)) (R 2 g8 T)))))))) [(4,dE ((a0.kids.length:Int)=0))] ?_;cases h1;exact .lg hj1 []
       ·have h1:=aK g8 h1;refine .a (.call [] (bE k4) []::(rb 7 true (.call [] (bE k7) []::(.b true::(rb 5 false []))))) (A (dB n _ hk4) (R 4 g5 (R 2 (dt g6) (A (A (dt g6) (iy n _ JL)) (A (dt g6) (R 5 (Bool.eq_false_iff.2 g8) T)))))) [(4,bE false)] ?_;cases h1;exact .lg hj1 []
      ·have h1:=aK g6 h1;refine .a (.call [] (bE k4) []::(rb 4 true (rb 9 false []))) (A (dB n _ hk4) (R 4 g5 (R 4 (df g6) (R 5 B0 T)))) [(4,bE false)] ?_;cases h1;exact .lg hj1 []
     ·have h1:=aK g5 h1;refine .a (.call [] (bE k4) []::(rb 13 false [])) (A (dB n _ hk4) (R 4 (Bool.eq_false_iff.2 g5) (R 9 B0 T))) [(4,bE false)] ?_;cases h1;exact .lg hj1 []
   ·refine .a [] T [(31,dE (a0.kind=2))] ?_;refine .jP h0 (fun fU h0=>?_) (fun fU h0=>?_)
    ·refine .bP h0 rfl [] (fun kS=>[(4,bE kS)]) n1 n1 (fun kS h0=>?_) (fun y1 h1 hj1=>?_)
     ·cases h0;exact .rt hK
     ·by_cases g11:a0.name=[]
      ·have h1:=aJ g11 h1;by_cases g12:a0.n≥0
       ·have h1:=aJ g12 h1;by_cases g13:a0.n≤999
        ·have h1:=aJ g13 h1;by_cases g14:(a0.scopes.length:Int)=0
         ·have h1:=aJ g14 h1;refine .a (rb 11 true (.v (a0.scopes.length:Int)::(rb 5 true [.v (a0.kids.length:Int),.b true,.b true]))) (R 4 (dt g11) (R 4 (dt g12) (R 2 (dt g13) (A (A (dt g13) (aH.len' a0.scopes)) (R 2 (dt g13) (R 2 (dt g14) (A (A (dt g14) (aA.len' a0.kids)) (R 2 (dt g14) T)))))))) [(4,dE ((a0.kids.length:Int)=0))] ?_;cases h1;exact .lg hj1 []
         ·have h1:=aK g14 h1;refine .a (rb 11 true (.v (a0.scopes.length:Int)::(.b true::(.b true::(rb 5 false []))))) (R 4 (dt g11) (R 4 (dt g12) (R 2 (dt g13) (A (A (dt g13) (aH.len' a0.scopes)) (R 2 (dt g13) (R 5 (df g14) T)))))) [(4,bE false)] ?_;cases h1;exact .lg hj1 []
        ·have h1:=aK g13 h1;refine .a (rb 8 true (rb 10 false [])) (R 4 (dt g11) (R 4 (dt g12) (R 5 (df g13) (R 5 B0 T)))) [(4,bE false)] ?_;cases h1;exact .lg hj1 []
       ·have h1:=aK g12 h1;refine .a (rb 4 true (rb 14 false [])) (R 4 (dt g11) (R 4 (df g12) (R 10 B0 T))) [(4,bE false)] ?_;cases h1;exact .lg hj1 []
      ·have h1:=aK g11 h1;refine .a (rb 18 false []) (R 4 (df g11) (R 14 B0 T)) [(4,bE false)] ?_;cases h1;exact .lg hj1 []
    ·refine .bP h0 rfl [1,2] (fun Az=>[(76,bE Az)]) n1 n1 (fun Az h0=>?_) (fun y1 h1 hj1=>?_)
     ·refine .jT h0 (fun hc16 h0=>?_) (fun hc16 h0=>?_)
      ·refine .a [] T [(4,bE false)] ?_;cases h0;exact .rt hK
      ·refine .a [] T [(5,iE 0)] ?_;refine .lI h0 rfl [1,2] (fun i17 s18=>[(5,iE (i17:Int))]) n2 n2 [] (by kernel_rfl) (fun i17 s18 q19 aaU aeI h0=>?_);refine .a [.v (a0.kids.length:Int)] (A (aA.len' a0.kids) T) [(79,lE 5 (aj a0.kids)),(81,dE ((i17:Int)<(a0.kids.length:Int)))] ?_;refine .sn 79 aA a0.kids (by kernel_rfl) (fun ac1=>?_);refine .lc aaU rfl (by kernel_rfl) (fun x20 aeJ hc25 YS aaV WH=>?_) (fun hc25=>?_)
       ·subst hc25;obtain⟨y1,h1,hw1,hn1⟩:=bD h0;obtain⟨k26,yQ,h1⟩:=bnd h1;refine .a [.cs (ak x20),.pl,.call [] (bE k26) []] (A (aA.jf YS) (A (ih _ _ yQ) T)) [(92,bE (!k26))] ?_;refine .jT h1 (fun hc27 h1=>?_) (fun hc27 h1=>?_)
        ·refine .a [] T [(4,bE false)] ?_;cases h1;cases hw1 _ rfl;exact .rt hK
        ·refine .a [.v ((i17+1:Nat):Int)] (A (wn (i:=i17) (by omega)) T) [(5,iE ((i17+1:Nat):Int))] ?_;cases h1;exact .nL rfl (i17+1) _ aaV WH (hn1 _ rfl) [] (by kernel_rfl)
       ·subst hc25;have h0:=bV h0;refine .a [] T [(4,bE true)] ?_;cases h0;exact .rt hK
     ·by_cases oM:¬a0.kind=3
      ·have h1:=aJ oM h1;refine .a (rb 13 true []) (R 4 (dt oM) (R 9 B1 T)) [(76,bE true)] ?_;cases h1;exact .lg hj1 []
      ·have h1:=aK oM h1;by_cases zJ:¬a0.name=[]
       ·have h1:=aJ zJ h1;refine .a (rb 4 false (rb 9 true [])) (R 4 (df oM) (R 4 (dt zJ) (R 5 B1 T))) [(76,bE true)] ?_;cases h1;exact .lg hj1 []
       ·have h1:=aK zJ h1;by_cases jG:¬a0.n=0
        ·have h1:=aJ jG h1;refine .a (rb 8 false (rb 5 true [])) (R 4 (df oM) (R 4 (df zJ) (R 5 (dt jG) T))) [(76,bE true)] ?_;cases h1;exact .lg hj1 []
        ·have h1:=aK jG h1;refine .a (rb 11 false [.v (a0.scopes.length:Int),.b false,.b false]) (R 4 (df oM) (R 4 (df zJ) (R 2 (df jG) (A (A (df jG) (aH.len' a0.scopes)) (R 2 (df jG) T))))) [(76,dE (¬(a0.scopes.length:Int)=0))] ?_;cases h1;exact .lg hj1 []
def bQ (n:Nat) (a0:Form):Option (Bool):=
 Option.bind ((xU n a0 40).bind fun k2=>(if k2=true then(kK n a0).bind fun k4=>some (decide (k4≤400)) else some false):Option (Bool)) (fun(o1:Bool)=>some o1)
theorem aQ (n:Nat):∀(a0:Form) {r:Bool},bQ n a0=some r→aF X.E 89 [aE (ak a0)] [] (bE r) []:=by
 intro a0 r h0;rw[bQ] at h0;refine .n Tryz.func89 (fun L ks low K hl hL hlen hK=>?_);refine .af [] T [(1,pw 1)] [.o 1 (.cells ((ak a0).map .d))] ?_;refine .bP h0 rfl [] (fun o1=>[(2,bE o1)]) n1 n1 (fun o1 h0=>?_) (fun y1 h1 hj1=>?_)
 ·cases h0;exact .rt hK
 ·obtain⟨k2,hk2,h1⟩:=bnd h1;by_cases g3:k2=true
  ·have h1:=aJ g3 h1;obtain⟨k4,hk4,h1⟩:=bnd h1;refine .a [.call [] (bE k2) [],.b true,.b true,.call [] (iE k4) [],.b true,.b true] (A (JM n _ _ hk2) (A g3 (A (A g3 (Dk n _ hk4)) (R 2 g3 T)))) [(2,dE (k4≤400))] ?_;cases h1;exact .lg hj1 []
  ·have h1:=aK g3 h1;refine .a (.call [] (bE k2) []::(rb 4 false [])) (A (JM n _ _ hk2) (R 4 (Bool.eq_false_iff.2 g3) T)) [(2,bE false)] ?_;cases h1;exact .lg hj1 []
def gV:Nat→Form→Option (Form)
 | 0,_=>none
 | n+1,a0=>Option.bind (dR (fun(s2:List Form) (i1:Nat) (x4:Form)=>(gV n x4).bind fun k10=>(jJ 80 s2 [k10]).bind fun z11=>some z11) 0 a0.kids []) (fun(s2:List Form)=>some (⟨a0.kind,a0.name,a0.n,[],s2⟩:Form))
theorem oN (n:Nat):∀(a0:Form) {r:Form},gV n a0=some r→aF X.E 133 [aE (ak a0)] [] (aE (ak r)) []:=by
 induction n with
 | zero=>intro a0 r h; cases h
 | succ n ih=>
  intro a0 r h0;rw[gV] at h0;refine .n Tryz.func133 (fun L ks low K hl hL hlen hK=>?_);refine .af [] T [(1,pw 1),(2,pw 2)] [.o 1 (.cells ((ak a0).map .d)),.o 2 (.cells [iE 0,sE [],iE 0,fE 1 (ah []),fE 5 (aj [])])] ?_;refine .af [] T [(3,pw 3)] [.o 3 (.cells [iE a0.kind,sE a0.name,iE a0.n,fE 1 (ah []),fE 5 (aj [])])] ?_;refine .a [] T [(4,iE 0)] ?_;refine .oc 3 4 100028 26 (by kernel_rfl) ?_;refine .lL h0 rfl [1,2,3] (fun i1 s2=>[(4,iE (i1:Int))]) (fun i1 s2=>[.c 3 4 (.gs (.own 100028) 5 (aj s2)),.o 100028 (.tok (aj s2).length 26)]) n2 [] (by kernel_rfl) (fun i1 s2 q3 hd5 Qq h0=>?_);refine .a [.v (a0.kids.length:Int)] (A (aA.len' a0.kids) T) [(14,lE 5 (aj a0.kids)),(16,dE ((i1:Int)<(a0.kids.length:Int)))] ?_;refine .sn 14 aA a0.kids (by kernel_rfl) (fun hb8=>?_);refine .lc hd5 rfl (by kernel_rfl) (fun x4 q32 fU hx4 hd6 nM=>?_) (fun fU=>?_)
  ·subst fU;obtain⟨y1,h1,hn1⟩:=bZ h0;obtain⟨k10,hk10,h1⟩:=bnd h1;obtain⟨z11,BR,h1⟩:=bnd h1;refine .ad mixed [(5,[.cs (ak x4)]),(7,[.call [] (aE (ak k10)) []]),(8,[.sv (aj [k10])]),(9,[.sv (aj z11)])] [((aj s2).length:Int)] (A (aA.jf hx4) (A (ih _ hk10) (A (aA.lit [k10]) (A (aA.ap BR) T)))) [] [.c 3 4 (.gs (.own 100028) 5 (aj z11)),.o 100028 (.tok (aj z11).length 26)] [] ?_;refine .a [.v ((i1+1:Nat):Int)] (A (wn (i:=i1) (by omega)) T) [(4,iE ((i1+1:Nat):Int))] ?_;cases h1;exact .nL rfl (i1+1) _ hd6 nM hn1 [] (by kernel_rfl)
  ·subst fU;have h0:=dH h0;refine .af [] T [] [.c 2 0 (iE a0.kind),.c 2 1 (sE a0.name),.c 2 2 (iE a0.n),.c 2 4 (.gs (.own 100028) 5 (aj s2))] ?_;cases h0;exact .rt hK
def qN (n:Nat) (a0:Core):Option (Bool):=
 Option.bind ((if a0.kind=1 then(if a0.id<1 then some true else(if a0.id>999 then some true else(if ¬a0.kind=1 then some (decide (¬a0.id=0)) else some false))) else(if ¬a0.kind=1 then some (decide (¬a0.id=0)) else some false)):Option (Bool)) (fun(o1:Bool)=>(if o1=true then some false else Option.bind ((if a0.kind=2 then(iW n a0.name).bind fun k27=>(if(!k27)=true then some true else(if ¬a0.kind=2 then some (decide (¬a0.name=[])) else some false)) else(if ¬a0.kind=2 then some (decide (¬a0.name=[])) else some false)):Option (Bool)) (fun(o3:Bool)=>(if o3=true then some false else Option.bind ((if a0.kind=3 then(if a0.n<0 then some true else(if a0.n>999 then some true else(if ¬a0.kind=3 then some (decide (¬a0.n=0)) else some false))) else(if ¬a0.kind=3 then some (decide (¬a0.n=0)) else some false)):Option (Bool)) (fun(o5:Bool)=>(if o5=true then some false else Option.bind ((if a0.kind=4 then(bQ n a0.data).bind fun k12=>(if(!k12)=true then some true else(gV n a0.data).bind fun k14=>(eP n k14 a0.data).bind fun k15=>(if(!k15)=true then some true else(if ¬a0.kind=4 then(eP n a0.data (⟨0,[],0,[],[]⟩:Form)).bind fun k18=>some (!k18) else some false))) else(if ¬a0.kind=4 then(eP n a0.data (⟨0,[],0,[],[]⟩:Form)).bind fun k20=>some (!k20) else some false)):Option (Bool)) (fun(o7:Bool)=>(if o7=true then some false else Option.bind ((if a0.kind=5 then some true else some (decide ((a0.ids.length:Int)=0))):Option (Bool)) (fun(o9:Bool)=>some o9)))))))))
theorem vG (n:Nat):∀(a0:Core) {r:Bool},qN n a0=some r→aF X.E 139 [aE (aI a0)] [] (bE r) []:=by
 intro a0 r h0;rw[qN] at h0;refine .n Tryz.func139 (fun L ks low K hl hL hlen hK=>?_);refine .af [] T [(1,pw 1)] [.o 1 (.cells ((aI a0).map .d))] ?_;refine .bP h0 rfl [1] (fun o1=>[(25,bE o1)]) n1 n1 (fun o1 h0=>?_) (fun y1 h1 hj1=>?_)
 ·refine .jT h0 (fun hc2 h0=>?_) (fun hc2 h0=>?_)
  ·refine .a [] T [(2,bE false)] ?_;cases h0;exact .rt hK
  ·refine .bP h0 rfl [1] (fun o3=>[(44,bE o3)]) n1 n1 (fun o3 h0=>?_) (fun y1 h1 hj1=>?_)
   ·refine .jT h0 (fun hc4 h0=>?_) (fun hc4 h0=>?_)
    ·refine .a [] T [(2,bE false)] ?_;cases h0;exact .rt hK
    ·refine .bP h0 rfl [1] (fun o5=>[(67,bE o5)]) n1 n1 (fun o5 h0=>?_) (fun y1 h1 hj1=>?_)
     ·refine .jT h0 (fun hc6 h0=>?_) (fun hc6 h0=>?_)
      ·refine .a [] T [(2,bE false)] ?_;cases h0;exact .rt hK
      ·refine .bP h0 rfl [1] (fun o7=>[(97,bE o7)]) n1 n1 (fun o7 h0=>?_) (fun y1 h1 hj1=>?_)
       ·refine .jT h0 (fun hc8 h0=>?_) (fun hc8 h0=>?_)
        ·refine .a [] T [(2,bE false)] ?_;cases h0;exact .rt hK
        ·refine .bP h0 rfl [] (fun o9=>[(2,bE o9)]) n1 n1 (fun o9 h0=>?_) (fun y1 h1 hj1=>?_)
         ·cases h0;exact .rt hK
         ·by_cases g10:a0.kind=5
          ·have h1:=aJ g10 h1;refine .a (rb 5 true []) (R 5 (dt g10) T) [(2,bE true)] ?_;cases h1;exact .lg hj1 []
          ·have h1:=aK g10 h1;refine .a (rb 3 false [.v (a0.ids.length:Int),.b false,.b false]) (R 2 (df g10) (A (A (df g10) (aH.len' a0.ids)) (R 2 (df g10) T))) [(2,dE ((a0.ids.length:Int)=0))] ?_;cases h1;exact .lg hj1 []
       ·by_cases g11:a0.kind=4
        ·have h1:=aJ g11 h1;obtain⟨k12,hk12,h1⟩:=bnd h1;by_cases g13:(!k12)=true
         ·have h1:=aJ g13 h1;refine .ad mixed (qb 4 2 true ((6,[.b true,.call [] (bE k12) []])::(qb 7 9 true ((16,[.b true,.b true])::((17,[.b true])::(qb 19 4 true (qb 28 2 true []))))))) [] (R 2 (dt g11) (A (A (dt g11) (aQ n _ hk12)) (R 2 (dt g11) (R 7 g13 (A (A (dt g11) g13) (A (dt g11) (R 6 B1 T))))))) [(97,bE true)] [] [] ?_;cases h1;exact .lg hj1 []
         ·have h1:=aK g13 h1;obtain⟨k14,vH,h1⟩:=bnd h1;obtain⟨k15,tN,h1⟩:=bnd h1;by_cases g16:(!k15)=true
          ·have h1:=aJ g16 h1;refine .ad mixed (qb 4 2 true ((6,[.b true,.call [] (bE k12) []])::(qb 7 2 true (qb 9 2 false ((11,[.b false,.call [] (aE (ak k14)) []])::(qb 12 2 false ((14,[.b false,.call [] (bE k15) []])::((15,[.b false])::((16,[.b true,.b false])::((17,[.b true])::(qb 19 4 true (qb 28 2 true [])))))))))))) [] (R 2 (dt g11) (A (A (dt g11) (aQ n _ hk12)) (R 2 (dt g11) (R 2 (Bool.eq_false_iff.2 g13) (A (A (Bool.eq_false_iff.2 g13) (oN n _ vH)) (R 2 (Bool.eq_false_iff.2 g13) (A (A (Bool.eq_false_iff.2 g13) (gU n _ _ tN)) (A (Bool.eq_false_iff.2 g13) (A (A (dt g11) (Bool.eq_false_iff.2 g13)) (A (dt g11) (R 6 g16 T))))))))))) [(97,bE true)] [] [] ?_;cases h1;exact .lg hj1 []
          ·have h1:=aK g16 h1;by_cases g17:¬a0.kind=4
           ·have h1:=aJ g17 h1;obtain⟨k18,oV,h1⟩:=bnd h1;refine .ad mixed (qb 4 2 true ((6,[.b true,.call [] (bE k12) []])::(qb 7 2 true (qb 9 2 false ((11,[.b false,.call [] (aE (ak k14)) []])::(qb 12 2 false ((14,[.b false,.call [] (bE k15) []])::((15,[.b false])::((16,[.b true,.b false])::((17,[.b true])::(qb 19 4 false (qb 23 3 true [(26,[.b true,.call [] (bE k18) []]),(27,[.b true]),(28,[.b false,.b true]),(29,[.b false])])))))))))))) [] (R 2 (dt g11) (A (A (dt g11) (aQ n _ hk12)) (R 2 (dt g11) (R 2 (Bool.eq_false_iff.2 g13) (A (A (Bool.eq_false_iff.2 g13) (oN n _ vH)) (R 2 (Bool.eq_false_iff.2 g13) (A (A (Bool.eq_false_iff.2 g13) (gU n _ _ tN)) (A (Bool.eq_false_iff.2 g13) (A (A (dt g11) (Bool.eq_false_iff.2 g13)) (A (dt g11) (R 4 (Bool.eq_false_iff.2 g16) (R 3 (dt g17) (A (A (dt g17) (gU n _ _ oV)) (A (dt g17) (A (A (Bool.eq_false_iff.2 g16) (dt g17)) (A (Bool.eq_false_iff.2 g16) T)))))))))))))))) [(97,bE (!k18))] [] [] ?_;cases h1;exact .lg hj1 []
           ·have h1:=aK g17 h1;refine .ad mixed (qb 4 2 true ((6,[.b true,.call [] (bE k12) []])::(qb 7 2 true (qb 9 2 false ((11,[.b false,.call [] (aE (ak k14)) []])::(qb 12 2 false ((14,[.b false,.call [] (bE k15) []])::((15,[.b false])::((16,[.b true,.b false])::((17,[.b true])::(qb 19 9 false [(28,[.b false,.b false]),(29,[.b false])]))))))))))) [] (R 2 (dt g11) (A (A (dt g11) (aQ n _ hk12)) (R 2 (dt g11) (R 2 (Bool.eq_false_iff.2 g13) (A (A (Bool.eq_false_iff.2 g13) (oN n _ vH)) (R 2 (Bool.eq_false_iff.2 g13) (A (A (Bool.eq_false_iff.2 g13) (gU n _ _ tN)) (A (Bool.eq_false_iff.2 g13) (A (A (dt g11) (Bool.eq_false_iff.2 g13)) (A (dt g11) (R 4 (Bool.eq_false_iff.2 g16) (R 5 (df g17) (A (A (Bool.eq_false_iff.2 g16) (df g17)) (A (Bool.eq_false_iff.2 g16) T)))))))))))))) [(97,bE false)] [] [] ?_;cases h1;exact .lg hj1 []
        ·have h1:=aK g11 h1;by_cases g19:¬a0.kind=4
         ·have h1:=aJ g19 h1;obtain⟨k20,Dn,h1⟩:=bnd h1;refine .ad mixed (qb 4 5 false (qb 16 2 false (qb 19 4 false (qb 23 3 true [(26,[.b true,.call [] (bE k20) []]),(27,[.b true]),(28,[.b false,.b true]),(29,[.b false])])))) [] (R 7 (df g11) (R 4 B0 (R 3 (dt g19) (A (A (dt g19) (gU n _ _ Dn)) (A (dt g19) (A (A B0 (dt g19)) (A B0 T))))))) [(97,bE (!k20))] [] [] ?_;cases h1;exact .lg hj1 []
         ·have h1:=aK g19 h1;refine .ad mixed (qb 4 5 false (qb 16 2 false (qb 19 9 false [(28,[.b false,.b false]),(29,[.b false])]))) [] (R 7 (df g11) (R 4 B0 (R 5 (df g19) (A (A B0 (df g19)) (A B0 T))))) [(97,bE false)] [] [] ?_;cases h1;exact .lg hj1 []
     ·by_cases g21:a0.kind=3
      ·have h1:=aJ g21 h1;by_cases g22:a0.n<0
       ·have h1:=aJ g22 h1;refine .a (rb 16 true []) (R 4 (dt g21) (R 3 (dt g22) (A (A (dt g21) (dt g22)) (A (dt g21) (R 6 B1 T))))) [(67,bE true)] ?_;cases h1;exact .lg hj1 []
       ·have h1:=aK g22 h1;by_cases g23:a0.n>999
        ·have h1:=aJ g23 h1;refine .a (rb 4 true (rb 3 false (.b true::(.b false::(rb 7 true []))))) (R 4 (dt g21) (R 3 (df g22) (A (A (dt g21) (df g22)) (A (dt g21) (R 6 (dt g23) T))))) [(67,bE true)] ?_;cases h1;exact .lg hj1 []
        ·have h1:=aK g23 h1;by_cases g24:¬a0.kind=3
         ·have h1:=aJ g24 h1;refine .a (rb 4 true (rb 3 false (.b true::(.b false::(.b true::(rb 4 false (rb 3 true [.b false,.b true,.b false]))))))) (R 4 (dt g21) (R 3 (df g22) (A (A (dt g21) (df g22)) (A (dt g21) (R 4 (df g23) (R 3 (dt g24) (A (A (df g23) (dt g24)) (A (df g23) T)))))))) [(67,dE (¬a0.n=0))] ?_;cases h1;exact .lg hj1 []
         ·have h1:=aK g24 h1;refine .a (rb 4 true (rb 3 false (.b true::(.b false::(.b true::(rb 10 false [])))))) (R 4 (dt g21) (R 3 (df g22) (A (A (dt g21) (df g22)) (A (dt g21) (R 4 (df g23) (R 3 (df g24) (A (A (df g23) (df g24)) (A (df g23) T)))))))) [(67,bE false)] ?_;cases h1;exact .lg hj1 []
      ·have h1:=aK g21 h1;by_cases yS:¬a0.kind=3
       ·have h1:=aJ yS h1;refine .a (rb 10 false (rb 3 true [.b false,.b true,.b false])) (R 6 (df g21) (R 4 B0 (R 3 (dt yS) (A (A B0 (dt yS)) (A B0 T))))) [(67,dE (¬a0.n=0))] ?_;cases h1;exact .lg hj1 []
       ·have h1:=aK yS h1;refine .a (rb 16 false []) (R 6 (df g21) (R 4 B0 (R 3 (df yS) (A (A B0 (df yS)) (A B0 T))))) [(67,bE false)] ?_;cases h1;exact .lg hj1 []
   ·by_cases En:a0.kind=2
    ·have h1:=aJ En h1;obtain⟨k27,uH,h1⟩:=bnd h1;by_cases oM:(!k27)=true
     ·have h1:=aJ oM h1;refine .a (rb 3 true (.call [] (bE k27) []::(rb 8 true []))) (R 2 (dt En) (A (A (dt En) (dB n _ uH)) (R 2 (dt En) (R 6 oM T)))) [(44,bE true)] ?_;cases h1;exact .lg hj1 []
     ·have h1:=aK oM h1;by_cases zJ:¬a0.kind=2
      ·have h1:=aJ zJ h1;refine .a (rb 3 true (.call [] (bE k27) []::(.b true::(.b true::(rb 4 false (rb 3 true [.b false,.b true,.b false])))))) (R 2 (dt En) (A (A (dt En) (dB n _ uH)) (R 2 (dt En) (R 4 (Bool.eq_false_iff.2 oM) (R 3 (dt zJ) (A (A (Bool.eq_false_iff.2 oM) (dt zJ)) (A (Bool.eq_false_iff.2 oM) T))))))) [(44,dE (¬a0.name=[]))] ?_;cases h1;exact .lg hj1 []
      ·have h1:=aK zJ h1;refine .a (rb 3 true (.call [] (bE k27) []::(.b true::(.b true::(rb 10 false []))))) (R 2 (dt En) (A (A (dt En) (dB n _ uH)) (R 2 (dt En) (R 4 (Bool.eq_false_iff.2 oM) (R 3 (df zJ) (A (A (Bool.eq_false_iff.2 oM) (df zJ)) (A (Bool.eq_false_iff.2 oM) T))))))) [(44,bE false)] ?_;cases h1;exact .lg hj1 []
    ·have h1:=aK En h1;by_cases jG:¬a0.kind=2
     ·have h1:=aJ jG h1;refine .a (rb 9 false (rb 3 true [.b false,.b true,.b false])) (R 5 (df En) (R 4 B0 (R 3 (dt jG) (A (A B0 (dt jG)) (A B0 T))))) [(44,dE (¬a0.name=[]))] ?_;cases h1;exact .lg hj1 []
     ·have h1:=aK jG h1;refine .a (rb 15 false []) (R 5 (df En) (R 4 B0 (R 3 (df jG) (A (A B0 (df jG)) (A B0 T))))) [(44,bE false)] ?_;cases h1;exact .lg hj1 []
 ·by_cases DW:a0.kind=1
  ·have h1:=aJ DW h1;by_cases vN:a0.id<1
   ·have h1:=aJ vN h1;refine .a (rb 16 true []) (R 4 (dt DW) (R 3 (dt vN) (A (A (dt DW) (dt vN)) (A (dt DW) (R 6 B1 T))))) [(25,bE true)] ?_;cases h1;exact .lg hj1 []
   ·have h1:=aK vN h1;by_cases H7:a0.id>999
    ·have h1:=aJ H7 h1;refine .a (rb 4 true (rb 3 false (.b true::(.b false::(rb 7 true []))))) (R 4 (dt DW) (R 3 (df vN) (A (A (dt DW) (df vN)) (A (dt DW) (R 6 (dt H7) T))))) [(25,bE true)] ?_;cases h1;exact .lg hj1 []
    ·have h1:=aK H7 h1;by_cases H8:¬a0.kind=1
     ·have h1:=aJ H8 h1;refine .a (rb 4 true (rb 3 false (.b true::(.b false::(.b true::(rb 4 false (rb 3 true [.b false,.b true,.b false]))))))) (R 4 (dt DW) (R 3 (df vN) (A (A (dt DW) (df vN)) (A (dt DW) (R 4 (df H7) (R 3 (dt H8) (A (A (df H7) (dt H8)) (A (df H7) T)))))))) [(25,dE (¬a0.id=0))] ?_;cases h1;exact .lg hj1 []
     ·have h1:=aK H8 h1;refine .a (rb 4 true (rb 3 false (.b true::(.b false::(.b true::(rb 10 false [])))))) (R 4 (dt DW) (R 3 (df vN) (A (A (dt DW) (df vN)) (A (dt DW) (R 4 (df H7) (R 3 (df H8) (A (A (df H7) (df H8)) (A (df H7) T)))))))) [(25,bE false)] ?_;cases h1;exact .lg hj1 []
  ·have h1:=aK DW h1;by_cases AV:¬a0.kind=1
   ·have h1:=aJ AV h1;refine .a (rb 10 false (rb 3 true [.b false,.b true,.b false])) (R 6 (df DW) (R 4 B0 (R 3 (dt AV) (A (A B0 (dt AV)) (A B0 T))))) [(25,dE (¬a0.id=0))] ?_;cases h1;exact .lg hj1 []
   ·have h1:=aK AV h1;refine .a (rb 16 false []) (R 6 (df DW) (R 4 B0 (R 3 (df AV) (A (A B0 (df AV)) (A B0 T))))) [(25,bE false)] ?_;cases h1;exact .lg hj1 []
def wK (n:Nat) (a0:Int) (a1:Int):Option (Bool):=
 Option.bind ((if a0=1 then some (decide (a0=1)) else(if a0=2 then some (decide (a0=2)) else(if a0=3 then some (decide (a0=3)) else some (decide (a0=4))))):Option (Bool)) (fun(o1:Bool)=>(if o1=true then some (decide (a1=0)) else(if a0=5 then some (decide (a1=1)) else(if a0=6 then some (decide (a1≥1)) else Option.bind ((if a0=7 then some (decide (a1=3)) else some false):Option (Bool)) (fun(o5:Bool)=>some o5)))))
theorem uX (n:Nat):∀(a0:Int) (a1:Int) {r:Bool},wK n a0 a1=some r→aF X.E 138 [iE a0,iE a1] [] (bE r) []:=by
 intro a0 a1 r h0;rw[wK] at h0;refine .n Tryz.func138 (fun L ks low K hl hL hlen hK=>?_);refine .a [] T [] ?_;refine .a [] T [(5,iE a0)] ?_;refine .a [] T [(6,dE (a0=1))] ?_;refine .bP h0 rfl [0,1,5] (fun o1=>[(6,bE o1)]) n1 n1 (fun o1 h0=>?_) (fun y1 h1 hj1=>?_)
 ·refine .jT h0 (fun hc2 h0=>?_) (fun hc2 h0=>?_)
  ·refine .a [] T [(4,dE (a1=0))] ?_;cases h0;exact .rt hK
  ·refine .a [] T [(13,dE (a0=5))] ?_;refine .jP h0 (fun hc3 h0=>?_) (fun hc3 h0=>?_)
   ·refine .a [] T [(4,dE (a1=1))] ?_;cases h0;exact .rt hK
   ·refine .a [] T [(17,dE (a0=6))] ?_;refine .jP h0 (fun hc4 h0=>?_) (fun hc4 h0=>?_)
    ·refine .a [] T [(4,dE (a1≥1))] ?_;cases h0;exact .rt hK
    ·refine .bP h0 rfl [] (fun o5=>[(4,bE o5)]) n1 n1 (fun o5 h0=>?_) (fun y1 h1 hj1=>?_)
     ·cases h0;exact .rt hK
     ·by_cases g6:a0=7
      ·have h1:=aJ g6 h1;refine .a (rb 3 true []) (R 3 (dt g6) T) [(4,dE (a1=3))] ?_;cases h1;exact .lg hj1 []
      ·have h1:=aK g6 h1;refine .a (rb 3 false []) (R 3 (df g6) T) [(4,bE false)] ?_;cases h1;exact .lg hj1 []
 ·refine .jP h1 (fun Ja h1=>?_) (fun Ja h1=>?_)
  ·cases h1;exact .lg hj1 []
  ·refine .a [] T [(6,dE (a0=2))] ?_;refine .jP h1 (fun hc8 h1=>?_) (fun hc8 h1=>?_)
   ·cases h1;exact .lg hj1 []
   ·refine .a [] T [(6,dE (a0=3))] ?_;refine .jP h1 (fun fU h1=>?_) (fun fU h1=>?_)
    ·cases h1;exact .lg hj1 []
    ·refine .a [] T [(6,dE (a0=4))] ?_;cases h1;exact .lg hj1 []
def xW:Nat→Core→(List Int)→Int→Option (Bool)
 | 0,_,_,_=>none
 | n+1,a0,a1,a2=>Option.bind ((if a2=0 then some true else(wK n a0.kind (a0.kids.length:Int)).bind fun k31=>(if(!k31)=true then some true else(qN n a0).bind fun k33=>(if(!k33)=true then some true else(if a0.kind=1 then(mY n a1 a0.id).bind fun Wy=>some (!Wy) else some false)))):Option (Bool)) (fun(o1:Bool)=>(if o1=true then some false else bG (bM (fun(s4:List Int) (i3:Nat) (x6:Int)=>(Option.bind ((if x6<1 then some true else(if x6>999 then some true else(mY n s4 x6).bind fun k18=>some k18)):Option (Bool)) (fun(qV:Bool)=>(if qV=true then some (Sum.inl false) else(jJ 8 [] s4).bind fun O1=>(jJ 8 O1 [x6]).bind fun FC=>some (Sum.inr FC))):Option (Bool⊕(List Int)))) 0 a0.ids a1) (fun(s4:List Int)=>bG (bM (fun(s20:Unit) (i19:Nat) (x22:Core)=>((xW n x22 s4 (aT (a2-1))).bind fun k28=>(if(!k28)=true then some (Sum.inl false) else some (Sum.inr ())):Option (Bool⊕Unit))) 0 a0.kids ()) (fun(s20:Unit)=>some true))))
theorem JO (n:Nat):∀(a0:Core) (a1:List Int) (a2:Int) {r:Bool},xW n a0 a1 a2=some r→aF X.E 119 [aE (aI a0),lE 1 (ah a1),iE a2] [] (bE r) []:=by
 induction n with
 | zero=>intro a0 a1 a2 r h; cases h
 | succ n ih=>
  intro a0 a1 a2 r h0;rw[xW] at h0;refine .n Tryz.func119 (fun L ks low K hl hL hlen hK=>?_);refine .af [] T [(3,pw 3)] [.o 3 (.cells ((aI a0).map .d))] ?_;refine .bP h0 rfl [1,2,3] (fun o1=>[(37,bE o1)]) n1 n1 (fun o1 h0=>?_) (fun y1 h1 hj1=>?_)
  ·refine .jT h0 (fun hc2 h0=>?_) (fun hc2 h0=>?_)
   ·refine .a [] T [(6,bE false)] ?_;cases h0;exact .rt hK
   ·refine .a [] T [(7,lE 1 (ah a1))] ?_;refine .a [] T [(8,iE 0)] ?_;refine .lI h0 rfl [2,3] (fun i3 s4=>[(7,lE 1 (ah s4)),(8,iE (i3:Int))]) n2 n2 [] (by kernel_rfl) (fun i3 s4 q5 hd7 hi9 h0=>?_);refine .a [.v (a0.ids.length:Int)] (A (aH.len' a0.ids) T) [(41,lE 1 (ah a0.ids)),(43,dE ((i3:Int)<(a0.ids.length:Int)))] ?_;refine .sn 41 aH a0.ids (by kernel_rfl) (fun AX=>?_);refine .lc hd7 rfl (by kernel_rfl) (fun x6 Me bJ hx6 hd8 jU=>?_) (fun bJ=>?_)
    ·subst bJ;obtain⟨y1,h1,hw1,hn1⟩:=bD h0;refine .bP h1 rfl [2,3,7,8] (fun qV=>[(68,bE qV)]) n1 n1 (fun qV h1=>?_) (fun y2 h2 hj2=>?_)
     ·refine .jT h1 (fun hc13 h1=>?_) (fun hc13 h1=>?_)
      ·refine .a [] T [(6,bE false)] ?_;cases h1;cases hw1 _ rfl;exact .rt hK
      ·obtain⟨O1,WI,h1⟩:=bnd h1;obtain⟨FC,Qr,h1⟩:=bnd h1;refine .ad mixed [(0,[.sv (ah [])]),(2,[.sv (ah O1)]),(6,[.cs [.v (.int .i64 x6)]]),(8,[.sv (ah [x6])]),(9,[.sv (ah FC)])] [((ah O1).length:Int)] (A (aH.lit []) (A (aH.ap WI) (A (aH.jf hx6) (A (aH.lit [x6]) (A (aH.ap Qr) T))))) [(7,.gs (.own 100071) 1 (ah FC))] [.o 100071 (.tok (ah FC).length 3)] [] ?_;refine .a [.v ((i3+1:Nat):Int)] (A (wn (i:=i3) (by omega)) T) [(8,iE ((i3+1:Nat):Int))] ?_;cases h1;refine .kp [2,3,7,8] [7] ?_;refine .dr 100071 (by kernel_rfl) ?_;exact .nL rfl (i3+1) _ hd8 jU (hn1 _ rfl) [] (by kernel_rfl)
     ·by_cases g16:x6<1
      ·have h2:=aJ g16 h2;refine .a (.cs [.v (.int .i64 x6)]::(rb 15 true [])) (A (aH.jf hx6) (R 7 (dt g16) (R 8 B1 T))) [(68,bE true)] ?_;cases h2;exact .lg hj2 []
      ·have h2:=aK g16 h2;by_cases g17:x6>999
       ·have h2:=aJ g17 h2;refine .a (.cs [.v (.int .i64 x6)]::(rb 4 false (.cs [.v (.int .i64 x6)]::(rb 3 false (rb 8 true []))))) (A (aH.jf hx6) (R 3 (df g16) (A (A (df g16) (aH.jf hx6)) (R 3 (df g16) (R 8 (dt g17) T))))) [(68,bE true)] ?_;cases h2;exact .lg hj2 []
       ·have h2:=aK g17 h2;obtain⟨k18,oV,h2⟩:=bnd h2;refine .a (.cs [.v (.int .i64 x6)]::(rb 4 false (.cs [.v (.int .i64 x6)]::(rb 8 false [.cs [.v (.int .i64 x6)],.b false,.b false,.call [] (bE k18) [],.b false])))) (A (aH.jf hx6) (R 3 (df g16) (A (A (df g16) (aH.jf hx6)) (R 3 (df g16) (R 4 (df g17) (A (A (df g17) (aH.jf hx6)) (A (df g17) (A (A (df g17) (tY n _ _ oV)) (A (df g17) T))))))))) [(68,bE k18)] ?_;cases h2;exact .lg hj2 []
    ·subst bJ;have h0:=bV h0;refine .a [] T [(9,iE 0)] ?_;refine .lI h0 rfl [2,3,7] (fun i19 s20=>[(9,iE (i19:Int))]) n2 n2 [] (by kernel_rfl) (fun i19 s20 q21 aeL agy h0=>?_);refine .a [.v (a0.kids.length:Int)] (A (bI.len' a0.kids) T) [(81,lE 11 (aG a0.kids)),(83,dE ((i19:Int)<(a0.kids.length:Int)))] ?_;refine .sn 81 bI a0.kids (by kernel_rfl) (fun agz=>?_);refine .lc aeL rfl (by kernel_rfl) (fun x22 agA hc27 aeM hd24 ac2=>?_) (fun hc27=>?_)
     ·subst hc27;obtain⟨y1,h1,hw1,hn1⟩:=bD h0;obtain⟨k28,KT,h1⟩:=bnd h1;refine .a [.cs (aI x22),.pl,.call [] (bE k28) []] (A (bI.jf aeM) (A (ih _ _ _ KT) T)) [(95,bE (!k28))] ?_;refine .jT h1 (fun hc29 h1=>?_) (fun hc29 h1=>?_)
      ·refine .a [] T [(6,bE false)] ?_;cases h1;cases hw1 _ rfl;exact .rt hK
      ·refine .a [.v ((i19+1:Nat):Int)] (A (wn (i:=i19) (by omega)) T) [(9,iE ((i19+1:Nat):Int))] ?_;cases h1;exact .nL rfl (i19+1) _ hd24 ac2 (hn1 _ rfl) [] (by kernel_rfl)
     ·subst hc27;have h0:=bV h0;refine .a [] T [(6,bE true)] ?_;cases h0;exact .rt hK
  ·by_cases jG:a2=0
   ·have h1:=aJ jG h1;refine .a (rb 18 true []) (R 8 (dt jG) (R 10 B1 T)) [(37,bE true)] ?_;cases h1;exact .lg hj1 []
   ·have h1:=aK jG h1;obtain⟨k31,hk31,h1⟩:=bnd h1;by_cases vN:(!k31)=true
    ·have h1:=aJ vN h1;refine .a (rb 5 false (.v (a0.kids.length:Int)::(.b false::(.call [] (bE k31) []::(.b false::(.b false::(rb 10 true []))))))) (R 4 (df jG) (A (A (df jG) (bI.len' a0.kids)) (A (A (df jG) (uX n _ _ hk31)) (R 2 (df jG) (R 4 vN (R 6 B1 T)))))) [(37,bE true)] ?_;cases h1;exact .lg hj1 []
    ·have h1:=aK vN h1;obtain⟨k33,N7,h1⟩:=bnd h1;by_cases H8:(!k33)=true
     ·have h1:=aJ H8 h1;refine .a (rb 5 false (.v (a0.kids.length:Int)::(.b false::(.call [] (bE k31) []::(rb 4 false (.call [] (bE k33) []::(.b false::(.b false::(rb 6 true []))))))))) (R 4 (df jG) (A (A (df jG) (bI.len' a0.kids)) (A (A (df jG) (uX n _ _ hk31)) (R 2 (df jG) (A (Bool.eq_false_iff.2 vN) (A (A (Bool.eq_false_iff.2 vN) (vG n _ N7)) (R 2 (Bool.eq_false_iff.2 vN) (R 6 H8 T)))))))) [(37,bE true)] ?_;cases h1;exact .lg hj1 []
     ·have h1:=aK H8 h1;by_cases AV:a0.kind=1
      ·have h1:=aJ AV h1;obtain⟨Wy,aaM,h1⟩:=bnd h1;refine .a (rb 5 false (.v (a0.kids.length:Int)::(.b false::(.call [] (bE k31) []::(rb 4 false (.call [] (bE k33) []::(rb 6 false (rb 4 true [.call [] (bE Wy) [],.b true,.b false,.b true,.b false])))))))) (R 4 (df jG) (A (A (df jG) (bI.len' a0.kids)) (A (A (df jG) (uX n _ _ hk31)) (R 2 (df jG) (A (Bool.eq_false_iff.2 vN) (A (A (Bool.eq_false_iff.2 vN) (vG n _ N7)) (R 2 (Bool.eq_false_iff.2 vN) (R 4 (Bool.eq_false_iff.2 H8) (R 3 (dt AV) (A (A (dt AV) (tY n _ _ aaM)) (A (dt AV) (A (A (Bool.eq_false_iff.2 H8) (dt AV)) (A (Bool.eq_false_iff.2 H8) T))))))))))))) [(37,bE (!Wy))] ?_;cases h1;exact .lg hj1 []
      ·have h1:=aK AV h1;refine .a (rb 5 false (.v (a0.kids.length:Int)::(.b false::(.call [] (bE k31) []::(rb 4 false (.call [] (bE k33) []::(rb 14 false []))))))) (R 4 (df jG) (A (A (df jG) (bI.len' a0.kids)) (A (A (df jG) (uX n _ _ hk31)) (R 2 (df jG) (A (Bool.eq_false_iff.2 vN) (A (A (Bool.eq_false_iff.2 vN) (vG n _ N7)) (R 2 (Bool.eq_false_iff.2 vN) (R 4 (Bool.eq_false_iff.2 H8) (R 5 (df AV) (A (A (Bool.eq_false_iff.2 H8) (df AV)) (A (Bool.eq_false_iff.2 H8) T))))))))))) [(37,bE false)] ?_;cases h1;exact .lg hj1 []
def oO (n:Nat) (a0:Core):Option (Bool):=
 Option.bind ((xW n a0 [] 120).bind fun k2=>(if k2=true then(pK n a0).bind fun k4=>some (decide (k4≤600)) else some false):Option (Bool)) (fun(o1:Bool)=>some o1)
theorem H9 (n:Nat):∀(a0:Core) {r:Bool},oO n a0=some r→aF X.E 92 [aE (aI a0)] [] (bE r) []:=by
 intro a0 r h0;rw[oO] at h0;refine .n Tryz.func92 (fun L ks low K hl hL hlen hK=>?_);refine .af [] T [(1,pw 1)] [.o 1 (.cells ((aI a0).map .d))] ?_;refine .bP h0 rfl [] (fun o1=>[(2,bE o1)]) n1 n1 (fun o1 h0=>?_) (fun y1 h1 hj1=>?_)
 ·cases h0;exact .rt hK
 ·obtain⟨k2,hk2,h1⟩:=bnd h1;by_cases g3:k2=true
  ·have h1:=aJ g3 h1;obtain⟨k4,hk4,h1⟩:=bnd h1;refine .a [.sv (ah []),.call [] (bE k2) [],.b true,.b true,.call [] (iE k4) [],.b true,.b true] (A (aH.lit []) (A (JO n _ _ _ hk2) (A g3 (A (A g3 (KX n _ hk4)) (R 2 g3 T))))) [(2,dE (k4≤600))] ?_;cases h1;exact .lg hj1 []
  ·have h1:=aK g3 h1;refine .a (.sv (ah [])::(.call [] (bE k2) []::(rb 4 false []))) (A (aH.lit []) (A (JO n _ _ _ hk2) (R 4 (Bool.eq_false_iff.2 g3) T))) [(2,bE false)] ?_;cases h1;exact .lg hj1 []
def xX (n:Nat)  : Option (List (List UInt8)):=
 some [[],[108,97,109,98,100,97],[105,102],[113,117,111,116,101],[108,101,116],iw]
theorem KY (n:Nat):∀{r:List (List UInt8)},xX n  = some r→aF X.E 118 [] [] (lE 1 (dQ r)) []:=by
 intro r h0;rw[xX] at h0;refine .n Tryz.func118 (fun L ks low K hl hL hlen hK=>?_);refine .a [] T [] ?_;refine .a [.sv (dQ [[],[108,97,109,98,100,97],[105,102],[113,117,111,116,101],[108,101,116],iw])] (A (ji.lit [[],[108,97,109,98,100,97],[105,102],[113,117,111,116,101],[108,101,116],iw]) T) [(0,fE 1 (dQ [[],[108,97,109,98,100,97],[105,102],[113,117,111,116,101],[108,101,116],iw]))] ?_;cases h0;exact .rt hK
def iY (n:Nat)  : Option (Expansion):=
 (xX n).bind fun k1=>iterM n (fun(s2:Int×(List Bind))=>((if s2.1<(k1.length:Int) then(gG k1 s2.1).bind fun e6=>(jJ 48 s2.2 [(⟨e6,[],s2.1⟩:Bind)]).bind fun z7=>some (Sum.inr ((aT (s2.1+1)),z7)) else some (Sum.inl (⟨s2.2,[],0,10,0⟩:Expansion))):Option (Expansion⊕(Int×(List Bind))))) (1,[])
theorem AY (n:Nat):∀{r:Expansion},iY n  = some r→aF X.E 91 [] [] (aE (au r)) []:=by
 intro r h0;rw[iY] at h0;refine .n Tryz.func91 (fun L ks low K hl hL hlen hK=>?_);refine .af [] T [(0,pw 0)] [.o 0 (.cells [fE 3 (ay []),fE 3 (bW []),iE 0,iE 0,iE 0])] ?_;refine .af [] T [(1,pw 1)] [.o 1 (.cells [fE 3 (ay []),fE 3 (bW []),iE 0,iE 10,iE 0])] ?_;obtain⟨k1,hk1,h0⟩:=bnd h0;refine .a [.call [] (lE 1 (dQ k1)) []] (A (KY n  hk1) T) [(2,lE 1 (dQ k1))] ?_;refine .a [] T [(3,iE 1)] ?_;refine .oc 1 0 100021 146 (by kernel_rfl) ?_;refine .it h0 rfl [0,1,2] (fun s2=>[(3,iE s2.1)]) (fun s2=>[.c 1 0 (.gs (.own 100021) 3 (ay s2.2)),.o 100021 (.tok (ay s2.2).length 146)]) n1 [] (by kernel_rfl) (fun nk3 s2 h0=>?_);obtain⟨y1,h1,hw1,hn1⟩:=cO h0;refine .a [.v (k1.length:Int)] (A (ji.len' k1) T) [(9,dE (s2.1<(k1.length:Int)))] ?_;refine .sn 2 ji k1 (by kernel_rfl) (fun hb4=>?_);refine .jP h1 (fun hc5 h1=>?_) (fun hc5 h1=>?_)
 ·obtain⟨e6,Qo,h1⟩:=bnd h1;obtain⟨z7,hz7,h1⟩:=bnd h1;refine .ad mixed [(4,[.cs [.s e6]]),(8,[.sv (ay [(⟨e6,[],s2.1⟩:Bind)])]),(9,[.sv (ay z7)])] [((ay s2.2).length:Int)] (A (ji.idx Qo) (A (aW.lit [(⟨e6,[],s2.1⟩:Bind)]) (A (aW.ap hz7) T))) [] [.c 1 0 (.gs (.own 100021) 3 (ay z7)),.o 100021 (.tok (ay z7).length 146)] [] ?_;refine .a [.pl] T [(3,iE (aT (s2.1+1)))] ?_;cases h1;exact .nI rfl _ (hn1 _ rfl) [] (by kernel_rfl)
 ·refine .af [] T [] [.c 0 0 (.gs (.own 100021) 3 (ay s2.2)),.c 0 3 (iE 10)] ?_;cases h1;cases hw1 _ rfl;exact .rt hK
def jQ (n:Nat) (a0:List Bind):Option (Bool):=
 iterM n (fun(s1:Int)=>(Option.bind ((if s1<(a0.length:Int) then some (decide (s1≤60)) else some false):Option (Bool)) (fun(o3:Bool)=>(if o3=true then Option.bind ((gG a0 s1).bind fun e16=>(iW n e16.name).bind fun k17=>(if(!k17)=true then some true else(kL n e16.scopes).bind fun k19=>(if(!k19)=true then some true else(if e16.id<1 then some true else some (decide (e16.id>999))))):Option (Bool)) (fun(o5:Bool)=>(if o5=true then some (Sum.inl false) else iterM n (fun(s7:Int)=>((if s7<s1 then Option.bind ((gG a0 s7).bind fun e12=>(gG a0 s1).bind fun e13=>(if e12.name=e13.name then(rX n e12.scopes e13.scopes).bind fun k15=>some k15 else some false):Option (Bool)) (fun(kS:Bool)=>(if kS=true then some (Sum.inl (Sum.inl false)) else some (Sum.inr (aT (s7+1))))) else some (Sum.inl (Sum.inr (aT (s1+1))))):Option ((Bool⊕Int)⊕Int))) 0)) else some (Sum.inl (decide ((a0.length:Int)≤60))))):Option (Bool⊕Int))) 0
theorem jK (n:Nat):∀(a0:List Bind) {r:Bool},jQ n a0=some r→aF X.E 160 [lE 3 (ay a0)] [] (bE r) []:=by
 intro a0 r h0;rw[jQ] at h0;refine .n Tryz.func160 (fun L ks low K hl hL hlen hK=>?_);refine .a [] T [] ?_;refine .a [] T [(3,iE 0)] ?_;refine .it h0 rfl [0] (fun s1=>[(3,iE s1)]) n1 n1 [] (by kernel_rfl) (fun WE s1 h0=>?_);obtain⟨y1,h1,hw1,hn1⟩:=cO h0;refine .bP h1 rfl [0,3] (fun o3=>[(12,bE o3)]) n1 n1 (fun o3 h1=>?_) (fun y2 h2 hj2=>?_)
 ·refine .jT h1 (fun hc4 h1=>?_) (fun hc4 h1=>?_)
  ·refine .bP h1 rfl [0,3] (fun o5=>[(46,bE o5)]) n1 n1 (fun o5 h1=>?_) (fun y2 h2 hj2=>?_)
   ·refine .jT h1 (fun hc6 h1=>?_) (fun hc6 h1=>?_)
    ·refine .a [] T [(2,bE false)] ?_;cases h1;cases hw1 _ rfl;exact .rt hK
    ·refine .a [] T [(4,iE 0)] ?_;refine .it h1 rfl [0,3] (fun s7=>[(4,iE s7)]) n1 n1 [] (by kernel_rfl) (fun nk8 s7 h1=>?_);obtain⟨y2,h2,hw2,hn2⟩:=cO h1;refine .a [] T [(49,dE (s7<s1))] ?_;refine .jP h2 (fun fU h2=>?_) (fun fU h2=>?_)
     ·refine .bP h2 rfl [0,3,4] (fun kS=>[(75,bE kS)]) n1 n1 (fun kS h2=>?_) (fun y3 h3 hj3=>?_)
      ·refine .jT h2 (fun bJ h2=>?_) (fun bJ h2=>?_)
       ·refine .a [] T [(2,bE false)] ?_;cases h2;cases hw2 _ rfl;cases hw1 _ rfl;exact .rt hK
       ·refine .a [.pl] T [(4,iE (aT (s7+1)))] ?_;cases h2;exact .nI rfl _ (hn2 _ rfl) [] (by kernel_rfl)
      ·obtain⟨e12,uG,h3⟩:=bnd h3;obtain⟨e13,BU,h3⟩:=bnd h3;by_cases g14:e12.name=e13.name
       ·have h3:=aJ g14 h3;obtain⟨k15,tN,h3⟩:=bnd h3;refine .ad mixed ((2,[.cs (dX e12)])::((7,[.cs (dX e13)])::(qb 12 2 true ((14,[.b true,.cs (dX e12)])::(qb 15 4 true ((19,[.b true,.cs (dX e13)])::(qb 20 2 true [(22,[.b true,.call [] (bE k15) []]),(23,[.b true])]))))))) [] (A (aW.idx uG) (A (aW.idx BU) (R 2 (dt g14) (A (A (dt g14) (aW.idx uG)) (R 4 (dt g14) (A (A (dt g14) (aW.idx BU)) (R 2 (dt g14) (A (A (dt g14) (uV n _ _ tN)) (A (dt g14) T))))))))) [(75,bE k15)] [] [] ?_;cases h3;exact .lg hj3 []
       ·have h3:=aK g14 h3;refine .ad mixed ((2,[.cs (dX e12)])::((7,[.cs (dX e13)])::(qb 12 12 false []))) [] (A (aW.idx uG) (A (aW.idx BU) (R 12 (df g14) T))) [(75,bE false)] [] [] ?_;cases h3;exact .lg hj3 []
     ·refine .a [.pl] T [(3,iE (aT (s1+1)))] ?_;cases h2;cases hw2 _ rfl;exact .nI rfl _ (hn1 _ rfl) [] (by kernel_rfl)
   ·obtain⟨e16,BX,h2⟩:=bnd h2;obtain⟨k17,wH,h2⟩:=bnd h2;by_cases g18:(!k17)=true
    ·have h2:=aJ g18 h2;refine .a (.cs (dX e16)::(.call [] (bE k17) []::(rb 22 true []))) (A (aW.idx BX) (A (dB n _ wH) (R 8 g18 (R 14 B1 T)))) [(46,bE true)] ?_;cases h2;exact .lg hj2 []
    ·have h2:=aK g18 h2;obtain⟨k19,wI,h2⟩:=bnd h2;by_cases g20:(!k19)=true
     ·have h2:=aJ g20 h2;refine .a (.cs (dX e16)::(.call [] (bE k17) []::(rb 3 false (.cs (dX e16)::(rb 3 false (.call [] (bE k19) []::(.b false::(.b false::(rb 14 true []))))))))) (A (aW.idx BX) (A (dB n _ wH) (R 2 (Bool.eq_false_iff.2 g18) (A (A (Bool.eq_false_iff.2 g18) (aW.idx BX)) (R 2 (Bool.eq_false_iff.2 g18) (A (A (Bool.eq_false_iff.2 g18) (iy n _ wI)) (R 2 (Bool.eq_false_iff.2 g18) (R 7 g20 (R 7 B1 T))))))))) [(46,bE true)] ?_;cases h2;exact .lg hj2 []
     ·have h2:=aK g20 h2;by_cases g21:e16.id<1
      ·have h2:=aJ g21 h2;refine .a (.cs (dX e16)::(.call [] (bE k17) []::(rb 3 false (.cs (dX e16)::(rb 3 false (.call [] (bE k19) []::(rb 5 false (.cs (dX e16)::(rb 4 false (rb 7 true [])))))))))) (A (aW.idx BX) (A (dB n _ wH) (R 2 (Bool.eq_false_iff.2 g18) (A (A (Bool.eq_false_iff.2 g18) (aW.idx BX)) (R 2 (Bool.eq_false_iff.2 g18) (A (A (Bool.eq_false_iff.2 g18) (iy n _ wI)) (R 2 (Bool.eq_false_iff.2 g18) (R 2 (Bool.eq_false_iff.2 g20) (A (A (Bool.eq_false_iff.2 g20) (aW.idx BX)) (R 4 (Bool.eq_false_iff.2 g20) (R 7 (dt g21) T))))))))))) [(46,bE true)] ?_;cases h2;exact .lg hj2 []
      ·have h2:=aK g21 h2;refine .a (.cs (dX e16)::(.call [] (bE k17) []::(rb 3 false (.cs (dX e16)::(rb 3 false (.call [] (bE k19) []::(rb 5 false (.cs (dX e16)::(rb 7 false (.cs (dX e16)::(rb 4 false []))))))))))) (A (aW.idx BX) (A (dB n _ wH) (R 2 (Bool.eq_false_iff.2 g18) (A (A (Bool.eq_false_iff.2 g18) (aW.idx BX)) (R 2 (Bool.eq_false_iff.2 g18) (A (A (Bool.eq_false_iff.2 g18) (iy n _ wI)) (R 2 (Bool.eq_false_iff.2 g18) (R 2 (Bool.eq_false_iff.2 g20) (A (A (Bool.eq_false_iff.2 g20) (aW.idx BX)) (R 4 (Bool.eq_false_iff.2 g20) (R 2 (df g21) (A (A (df g21) (aW.idx BX)) (R 4 (df g21) T))))))))))))) [(46,dE (e16.id>999))] ?_;cases h2;exact .lg hj2 []
  ·refine .a [.v (a0.length:Int)] (A (aW.len' a0) T) [(2,dE ((a0.length:Int)≤60))] ?_;refine .sn 0 aW a0 (by kernel_rfl) (fun agB=>?_);cases h1;cases hw1 _ rfl;exact .rt hK
 ·by_cases g23:s1<(a0.length:Int)
  ·have h2:=aJ g23 h2;refine .a (.v (a0.length:Int)::(rb 3 true [])) (A (aW.len' a0) (R 3 (dt g23) T)) [(12,dE (s1≤60))] ?_;refine .sn 0 aW a0 (by kernel_rfl) (fun ac1=>?_);cases h2;exact .lg hj2 []
  ·have h2:=aK g23 h2;refine .a (.v (a0.length:Int)::(rb 3 false [])) (A (aW.len' a0) (R 3 (df g23) T)) [(12,bE false)] ?_;refine .sn 0 aW a0 (by kernel_rfl) (fun agC=>?_);cases h2;exact .lg hj2 []
def fZ (n:Nat) (a0:Form):Option (Bool):=
 Option.bind ((if a0.kind=1 then some (decide (a0.name=[46,46,46])) else some false):Option (Bool)) (fun(o1:Bool)=>some o1)
theorem fO (n:Nat):∀(a0:Form) {r:Bool},fZ n a0=some r→aF X.E 175 [aE (ak a0)] [] (bE r) []:=by
 intro a0 r h0;rw[fZ] at h0;refine .n Tryz.func175 (fun L ks low K hl hL hlen hK=>?_);refine .af [] T [(1,pw 1)] [.o 1 (.cells ((ak a0).map .d))] ?_;refine .bP h0 rfl [] (fun o1=>[(2,bE o1)]) n1 n1 (fun o1 h0=>?_) (fun y1 h1 hj1=>?_)
 ·cases h0;exact .rt hK
 ·by_cases g2:a0.kind=1
  ·have h1:=aJ g2 h1;refine .a (rb 4 true []) (R 4 (dt g2) T) [(2,dE (a0.name=[46,46,46]))] ?_;cases h1;exact .lg hj1 []
  ·have h1:=aK g2 h1;refine .a (rb 4 false []) (R 4 (df g2) T) [(2,bE false)] ?_;cases h1;exact .lg hj1 []
def uY (n:Nat) (a0:List Form) (a1:Form):Option (Bool):=
 bG (bM (fun(s2:Unit) (i1:Nat) (x4:Form)=>((eP n x4 a1).bind fun k10=>(if k10=true then some (Sum.inl true) else some (Sum.inr ())):Option (Bool⊕Unit))) 0 a0 ()) (fun(s2:Unit)=>some false)
theorem AA (n:Nat):∀(a0:List Form) (a1:Form) {r:Bool},uY n a0 a1=some r→aF X.E 170 [lE 5 (aj a0),aE (ak a1)] [] (bE r) []:=by
 intro a0 a1 r h0;rw[uY] at h0;refine .n Tryz.func170 (fun L ks low K hl hL hlen hK=>?_);refine .af [] T [(3,pw 3)] [.o 3 (.cells ((ak a1).map .d))] ?_;refine .a [] T [(5,iE 0)] ?_;refine .lI h0 rfl [0,3] (fun i1 s2=>[(5,iE (i1:Int))]) n2 n2 [] (by kernel_rfl) (fun i1 s2 q3 hd5 Qq h0=>?_);refine .a [.v (a0.length:Int)] (A (aA.len' a0) T) [(9,dE ((i1:Int)<(a0.length:Int)))] ?_;refine .sn 0 aA a0 (by kernel_rfl) (fun hb8=>?_);refine .lc hd5 rfl (by kernel_rfl) (fun x4 q32 fU hx4 hd6 nM=>?_) (fun fU=>?_)
 ·subst fU;obtain⟨y1,h1,hw1,hn1⟩:=bD h0;obtain⟨k10,hk10,h1⟩:=bnd h1;refine .ad mixed [(2,[.cs (ak x4)]),(5,[.call [] (bE k10) []])] [] (A (aA.jf hx4) (A (gU n _ _ hk10) T)) [(17,bE k10)] [] [] ?_;refine .jT h1 (fun bJ h1=>?_) (fun bJ h1=>?_)
  ·refine .a [] T [(4,bE true)] ?_;cases h1;cases hw1 _ rfl;exact .rt hK
  ·refine .a [.v ((i1+1:Nat):Int)] (A (wn (i:=i1) (by omega)) T) [(5,iE ((i1+1:Nat):Int))] ?_;cases h1;exact .nL rfl (i1+1) _ hd6 nM (hn1 _ rfl) [] (by kernel_rfl)
 ·subst fU;have h0:=bV h0;refine .a [] T [(4,bE false)] ?_;cases h0;exact .rt hK
def wL (n:Nat) (a0:Form) (a1:List Form):Option (Bool):=
 Option.bind ((if a0.kind=1 then(if ¬a0.name=[46,46,46] then(if ¬a0.name=[95] then(uY n a1 a0).bind fun k5=>some (!k5) else some false) else some false) else some false):Option (Bool)) (fun(o1:Bool)=>some o1)
theorem Ia (n:Nat):∀(a0:Form) (a1:List Form) {r:Bool},wL n a0 a1=some r→aF X.E 191 [aE (ak a0),lE 5 (aj a1)] [] (bE r) []:=by
 intro a0 a1 r h0;rw[wL] at h0;refine .n Tryz.func191 (fun L ks low K hl hL hlen hK=>?_);refine .af [] T [(2,pw 2)] [.o 2 (.cells ((ak a0).map .d))] ?_;refine .bP h0 rfl [] (fun o1=>[(4,bE o1)]) n1 n1 (fun o1 h0=>?_) (fun y1 h1 hj1=>?_)
 ·cases h0;exact .rt hK
 ·by_cases g2:a0.kind=1
  ·have h1:=aJ g2 h1;by_cases g3:¬a0.name=[46,46,46]
   ·have h1:=aJ g3 h1;by_cases g4:¬a0.name=[95]
    ·have h1:=aJ g4 h1;obtain⟨k5,hk5,h1⟩:=bnd h1;refine .a (rb 11 true [.call [] (bE k5) [],.b true,.b true]) (R 4 (dt g2) (R 4 (dt g3) (R 2 (dt g4) (A (A (dt g4) (AA n _ _ hk5)) (R 2 (dt g4) T))))) [(4,bE (!k5))] ?_;cases h1;exact .lg hj1 []
    ·have h1:=aK g4 h1;refine .a (rb 8 true (rb 5 false [])) (R 4 (dt g2) (R 4 (dt g3) (R 5 (df g4) T))) [(4,bE false)] ?_;cases h1;exact .lg hj1 []
   ·have h1:=aK g3 h1;refine .a (rb 4 true (rb 9 false [])) (R 4 (dt g2) (R 4 (df g3) (R 5 B0 T))) [(4,bE false)] ?_;cases h1;exact .lg hj1 []
  ·have h1:=aK g2 h1;refine .a (rb 13 false []) (R 4 (df g2) (R 9 B0 T)) [(4,bE false)] ?_;cases h1;exact .lg hj1 []
def jv:Nat→(List Int)→Form→(List Form)→Int→Option (List Int)
 | 0,_,_,_,_=>none
 | n+1,a0,a1,a2,a3=>(wL n a1 a2).bind fun k1=>Option.bind ((if k1=true then(jJ 8 a0 [a3]).bind fun z20=>some z20 else some a0):Option (List Int)) (fun(o2:List Int)=>Option.bind (dR (fun(s4:List Int) (i3:Nat) (x6:Form)=>Option.bind ((if((i3+1:Nat):Int)<(a1.kids.length:Int) then(gG a1.kids ((i3+1:Nat):Int)).bind fun e17=>(fZ n e17).bind fun k18=>some k18 else some false):Option (Bool)) (fun(qV:Bool)=>Option.bind ((if qV=true then some (aT (a3+1)) else some a3):Option (Int)) (fun(X0:Int)=>(jv n s4 x6 a2 X0).bind fun k14=>some k14))) 0 a1.kids o2) (fun(s4:List Int)=>some s4))
theorem vI (n:Nat):∀(a0:List Int) (a1:Form) (a2:List Form) (a3:Int) {r:List Int},jv n a0 a1 a2 a3=some r→aF X.E 186 [.vs (.low 0) 1 ((ah a0).length),aE (ak a1),lE 5 (aj a2),iE a3] [some (.vec 3 1 (ah a0))] (.vs (.low 0) 1 ((ah r).length)) [.vec 3 1 (ah r)]:=by
 induction n with
 | zero=>intro a0 a1 a2 a3 r h; cases h
 | succ n ih=>
  intro a0 a1 a2 a3 r h0;rw[jv] at h0;refine .n Tryz.func186 (fun L ks low K hl hL hlen hK=>?_);refine .af [] T [(5,pw 5)] [.o 5 (.cells ((ak a1).map .d))] ?_;obtain⟨k1,hk1,h0⟩:=bnd h0;refine .a [.call [] (bE k1) []] (A (Ia n _ _ hk1) T) [(13,bE k1)] ?_;refine .bP h0 rfl [2,3,5] (fun o2=>[(0,.vs (.low 0) 1 ((ah o2).length))]) n1 (fun o2=>[.o 0 (.vec 3 1 (ah o2))]) (fun o2 h0=>?_) (fun y1 h1 hj1=>?_)
  ·refine .a [] T [(9,iE 0)] ?_;refine .lL h0 rfl [2,3,5] (fun i3 s4=>[(0,.vs (.low 0) 1 ((ah s4).length)),(9,iE (i3:Int))]) n2 (fun i3 s4=>[.o 0 (.vec 3 1 (ah s4))]) [] (by kernel_rfl) (fun i3 s4 q5 hd7 hi9 h0=>?_);refine .a [.v (a1.kids.length:Int)] (A (aA.len' a1.kids) T) [(20,lE 5 (aj a1.kids)),(22,dE ((i3:Int)<(a1.kids.length:Int)))] ?_;refine .sn 20 aA a1.kids (by kernel_rfl) (fun AX=>?_);refine .lc hd7 rfl (by kernel_rfl) (fun x6 Me bJ hx6 hd8 jU=>?_) (fun bJ=>?_)
   ·subst bJ;obtain⟨y1,h1,hn1⟩:=bZ h0;refine .a [] T [(10,iE a3)] ?_;refine .bP h1 rfl [0,2,3,5,9,10] (fun qV=>[(40,bE qV)]) n1 n1 (fun qV h1=>?_) (fun y2 h2 hj2=>?_)
    ·refine .bP h1 rfl [0,2,3,5,9] (fun X0=>[(10,iE X0)]) n1 n1 (fun X0 h1=>?_) (fun y2 h2 hj2=>?_)
     ·obtain⟨k14,vH,h1⟩:=bnd h1;refine .ao [.cs (ak x6),.call [.low 0] (.vs (.low 0) 1 ((ah k14).length)) [.vec 3 1 (ah k14)]] (A (aA.jf hx6) (A (ih _ _ _ _ vH) T)) [(0,.vs (.low 0) 1 ((ah k14).length))] [.o 0 (.vec 3 1 (ah k14))] ?_;refine .a [.v ((i3+1:Nat):Int)] (A (wn (i:=i3) (by omega)) T) [(9,iE ((i3+1:Nat):Int))] ?_;cases h1;exact .nL rfl (i3+1) _ hd8 jU hn1 [] (by kernel_rfl)
     ·refine .jT h2 (fun tV h2=>?_) (fun tV h2=>?_)
      ·refine .a [.pl] T [(10,iE (aT (a3+1)))] ?_;cases h2;exact .lg hj2 []
      ·cases h2;exact .lg hj2 []
    ·by_cases g16:((i3+1:Nat):Int)<(a1.kids.length:Int)
     ·have h2:=aJ g16 h2;obtain⟨e17,Qp,h2⟩:=bnd h2;obtain⟨k18,oV,h2⟩:=bnd h2;refine .a (.v ((i3+1:Nat):Int)::(.v (a1.kids.length:Int)::(rb 4 true [.v ((i3+1:Nat):Int),.b true,.cs (ak e17),.b true,.b true,.call [] (bE k18) [],.b true]))) (A (wn (i:=i3) (by omega)) (A (aA.len' a1.kids) (R 3 (dt g16) (A (A (dt g16) (wn (i:=i3) (by omega))) (A (A (dt g16) (aA.idx Qp)) (A (dt g16) (A (A (dt g16) (fO n _ oV)) (A (dt g16) T)))))))) [(40,bE k18)] ?_;cases h2;exact .lg hj2 []
     ·have h2:=aK g16 h2;refine .a (.v ((i3+1:Nat):Int)::(.v (a1.kids.length:Int)::(rb 8 false []))) (A (wn (i:=i3) (by omega)) (A (aA.len' a1.kids) (R 8 (df g16) T))) [(40,bE false)] ?_;cases h2;exact .lg hj2 []
   ·subst bJ;have h0:=dH h0;refine .a [] T [(8,.vs (.low 0) 1 ((ah s4).length))] ?_;refine .kp [8] [] ?_;refine .dr 5 (by kernel_rfl) ?_;cases h0;exact .rt hK
  ·refine .jT h1 (fun hc19 h1=>?_) (fun hc19 h1=>?_)
   ·obtain⟨z20,aeN,h1⟩:=bnd h1;refine .ao [.sv (ah [a3]),.sv (ah z20)] (A (aH.lit [a3]) (A (A (aH.ap aeN) (rfl:(ah a0).length=(ah a0).length)) T)) [(0,.vs (.low 0) 1 ((ah z20).length))] [.o 0 (.vec 3 1 (ah z20))] ?_;cases h1;exact .lg hj1 []
   ·cases h1;exact .lg hj1 []
def nV:Nat→(List Form)→Form→(List Form)→Option (List Form)
 | 0,_,_,_=>none
 | n+1,a0,a1,a2=>(wL n a1 a2).bind fun k1=>Option.bind ((if k1=true then(jJ 80 a0 [a1]).bind fun O1=>some O1 else some a0):Option (List Form)) (fun(o2:List Form)=>Option.bind (dR (fun(s4:List Form) (i3:Nat) (x6:Form)=>(nV n s4 x6 a2).bind fun k12=>some k12) 0 a1.kids o2) (fun(s4:List Form)=>some s4))
theorem zK (n:Nat):∀(a0:List Form) (a1:Form) (a2:List Form) {r:List Form},nV n a0 a1 a2=some r→aF X.E 185 [.vs (.low 0) 5 ((aj a0).length),aE (ak a1),lE 5 (aj a2)] [some (.vec 26 5 (aj a0))] (.vs (.low 0) 5 ((aj r).length)) [.vec 26 5 (aj r)]:=by
 induction n with
 | zero=>intro a0 a1 a2 r h; cases h
 | succ n ih=>
  intro a0 a1 a2 r h0;rw[nV] at h0;refine .n Tryz.func185 (fun L ks low K hl hL hlen hK=>?_);refine .af [] T [(4,pw 4)] [.o 4 (.cells ((ak a1).map .d))] ?_;obtain⟨k1,hk1,h0⟩:=bnd h0;refine .a [.call [] (bE k1) []] (A (Ia n _ _ hk1) T) [(10,bE k1)] ?_;refine .bP h0 rfl [2,4] (fun o2=>[(0,.vs (.low 0) 5 ((aj o2).length))]) n1 (fun o2=>[.o 0 (.vec 26 5 (aj o2))]) (fun o2 h0=>?_) (fun y1 h1 hj1=>?_)
  ·refine .a [] T [(7,iE 0)] ?_;refine .lL h0 rfl [2,4] (fun i3 s4=>[(0,.vs (.low 0) 5 ((aj s4).length)),(7,iE (i3:Int))]) n2 (fun i3 s4=>[.o 0 (.vec 26 5 (aj s4))]) [] (by kernel_rfl) (fun i3 s4 q5 hd7 hi9 h0=>?_);refine .a [.v (a1.kids.length:Int)] (A (aA.len' a1.kids) T) [(17,lE 5 (aj a1.kids)),(19,dE ((i3:Int)<(a1.kids.length:Int)))] ?_;refine .sn 17 aA a1.kids (by kernel_rfl) (fun AX=>?_);refine .lc hd7 rfl (by kernel_rfl) (fun x6 Me bJ hx6 hd8 jU=>?_) (fun bJ=>?_)
   ·subst bJ;obtain⟨y1,h1,hn1⟩:=bZ h0;obtain⟨k12,hk12,h1⟩:=bnd h1;refine .ao [.cs (ak x6),.call [.low 0] (.vs (.low 0) 5 ((aj k12).length)) [.vec 26 5 (aj k12)]] (A (aA.jf hx6) (A (ih _ _ _ hk12) T)) [(0,.vs (.low 0) 5 ((aj k12).length))] [.o 0 (.vec 26 5 (aj k12))] ?_;refine .a [.v ((i3+1:Nat):Int)] (A (wn (i:=i3) (by omega)) T) [(7,iE ((i3+1:Nat):Int))] ?_;cases h1;exact .nL rfl (i3+1) _ hd8 jU hn1 [] (by kernel_rfl)
   ·subst bJ;have h0:=dH h0;refine .a [] T [(6,.vs (.low 0) 5 ((aj s4).length))] ?_;refine .kp [6] [] ?_;refine .dr 4 (by kernel_rfl) ?_;cases h0;exact .rt hK
  ·refine .jT h1 (fun hc13 h1=>?_) (fun hc13 h1=>?_)
   ·obtain⟨O1,WI,h1⟩:=bnd h1;refine .ao [.sv (aj [a1]),.sv (aj O1)] (A (aA.lit [a1]) (A (A (aA.ap WI) (rfl:(aj a0).length=(aj a0).length)) T)) [(0,.vs (.low 0) 5 ((aj O1).length))] [.o 0 (.vec 26 5 (aj O1))] ?_;cases h1;exact .lg hj1 []
   ·cases h1;exact .lg hj1 []
def zL (n:Nat) (a0:Form) (a1:List Form) (a2:List (List ig)):Option (List ig):=
 (nV n [] a0 a1).bind fun k1=>(jv n [] a0 a1 0).bind fun k2=>Option.bind (dR (fun(s4:List ig) (i3:Nat) (x6:Form)=>(inB (i3:Int) k2.length).bind fun u12=>(k2[i3]?).bind fun e13=>Option.bind (dR (fun(s15:List ig) (YT:Nat) (x17:List ig)=>(gG x17 (i3:Int)).bind fun e23=>(jJ 192 s15 [e23]).bind fun z24=>some z24) 0 a2 []) (fun(s15:List ig)=>(jJ 192 s4 [(⟨x6,(aT (e13+1)),(⟨0,[],0,[],[]⟩:Form),s15⟩:ig)]).bind fun z25=>some z25)) 0 k1 []) (fun(s4:List ig)=>some s4)
theorem Qs (n:Nat):∀(a0:Form) (a1:List Form) (a2:List (List ig)) {r:List ig},zL n a0 a1 a2=some r→aF X.E 181 [aE (ak a0),lE 5 (aj a1),lE 1 (tC a2)] [] (lE 12 (aO r)) []:=by
 intro a0 a1 a2 r h0;rw[zL] at h0;refine .n Tryz.func181 (fun L ks low K hl hL hlen hK=>?_);refine .af [] T [(3,pw 3)] [.o 3 (.cells ((ak a0).map .d))] ?_;refine .a [.sv (aO [])] (A (iU.lit []) T) [(7,fE 12 (aO []))] ?_;obtain⟨k1,hk1,h0⟩:=bnd h0;refine .af [.gv 14,.sv (aj []),.call [.own 100014] (.vs (.low 0) 5 ((aj k1).length)) [.vec 26 5 (aj k1)]] (A (aA.lit []) (A (zK n _ _ _ hk1) T)) [(8,.vs (.own 100014) 5 ((aj k1).length))] [.o 100014 (.vec 26 5 (aj k1))] ?_;obtain⟨k2,hk2,h0⟩:=bnd h0;refine .af [.gv 18,.sv (ah []),.call [.own 100018] (.vs (.low 0) 1 ((ah k2).length)) [.vec 3 1 (ah k2)]] (A (aH.lit []) (A (vI n _ _ _ _ hk2) T)) [(9,.vs (.own 100018) 1 ((ah k2).length))] [.o 100018 (.vec 3 1 (ah k2))] ?_;refine .a [] T [(10,iE 0)] ?_;refine .ow 7 100059 204 [2,8,9,10] rfl rfl (by kernel_rfl) ?_;refine .lL h0 rfl [2,8,9] (fun i3 s4=>[(7,.gs (.own 100059) 12 (aO s4)),(10,iE (i3:Int))]) (fun i3 s4=>[.o 100059 (.tok (aO s4).length 204)]) n2 [] (by kernel_rfl) (fun i3 s4 q5 hd7 hi9 h0=>?_);refine .a [.v (k1.length:Int)] (A (aA.len' k1) T) [(25,dE ((i3:Int)<(k1.length:Int)))] ?_;refine .ZH 8 aA k1 (by kernel_rfl) (fun AX=>?_);refine .lc hd7 rfl (by kernel_rfl) (fun x6 Me bJ hx6 hd8 jU=>?_) (fun bJ=>?_)
 ·subst bJ;obtain⟨y1,h1,hn1⟩:=bZ h0;obtain⟨u12,Uh,h1⟩:=bnd h1;obtain⟨e13,BU,h1⟩:=bnd h1;refine .ad mixed [(3,[.cs (ak x6)]),(7,[.cs [.v (.int .i64 e13)]]),(8,[.pl])] [] (A (A (aA.inv (Hy hx6) (rfl:(aj k1).length=(aj k1).length)) (rfl:(aj k1).length=(aj k1).length)) (A (A (A (aA.rows k1) (aA.zx hx6)) (rfl:(aj k1).length=(aj k1).length)) (A (A (aH.inv Uh (rfl:(ah k2).length=(ah k2).length)) (rfl:(ah k2).length=(ah k2).length)) (A (A (A (aH.rows k2) (aH.zx BU)) (rfl:(ah k2).length=(ah k2).length)) T)))) [(11,pw 11)] [.o 11 (.cells [iE x6.kind,sE x6.name,iE x6.n,lE 1 (ah x6.scopes),lE 5 (aj x6.kids),iE (aT (e13+1)),iE 0,sE [],iE 0,fE 1 (ah []),fE 5 (aj []),fE 12 (aO [])])] [] ?_;refine .a [] T [(12,iE 0)] ?_;refine .oc 11 11 100054 204 (by kernel_rfl) ?_;refine .lL h1 rfl [2,7,8,9,10,11] (fun YT s15=>[(12,iE (YT:Int))]) (fun YT s15=>[.c 11 11 (.gs (.own 100054) 12 (aO s15)),.o 100054 (.tok (aO s15).length 204)]) n2 [] (by kernel_rfl) (fun YT s15 q16 aeO agD h1=>?_);refine .a [.v (a2.length:Int)] (A (JI.len' a2) T) [(41,dE ((YT:Int)<(a2.length:Int)))] ?_;refine .sn 2 JI a2 (by kernel_rfl) (fun agE=>?_);refine .lc aeO rfl (by kernel_rfl) (fun x17 agF hc22 aeP aeQ ac3=>?_) (fun hc22=>?_)
  ·subst hc22;obtain⟨y2,h2,hn2⟩:=bZ h1;obtain⟨e23,Qu,h2⟩:=bnd h2;obtain⟨z24,aaX,h2⟩:=bnd h2;refine .ad mixed [(4,[.cs [.sl 12 false (aO x17)]]),(7,[.cs (wE e23)]),(9,[.sv (aO [e23])]),(10,[.sv (aO z24)])] [((aO s15).length:Int)] (A (JI.jf aeP) (A (iU.idx Qu) (A (iU.lit [e23]) (A (iU.ap aaX) T)))) [] [.c 11 11 (.gs (.own 100054) 12 (aO z24)),.o 100054 (.tok (aO z24).length 204)] [] ?_;refine .a [.v ((YT+1:Nat):Int)] (A (wn (i:=YT) (by omega)) T) [(12,iE ((YT+1:Nat):Int))] ?_;cases h2;exact .nL rfl (YT+1) _ aeQ ac3 hn2 [] (by kernel_rfl)
  ·subst hc22;have h1:=dH h1;obtain⟨z25,aeR,h1⟩:=bnd h1;refine .aq [.sv (aO [(⟨x6,(aT (e13+1)),(⟨0,[],0,[],[]⟩:Form),s15⟩:ig)]),.sv (aO z25)] [((aO s4).length:Int)] (A (iU.lit [(⟨x6,(aT (e13+1)),(⟨0,[],0,[],[]⟩:Form),s15⟩:ig)]) (A (iU.ap aeR) T)) [(7,.gs (.own 100059) 12 (aO z25))] [.o 100059 (.tok (aO z25).length 204)] [] ?_;refine .a [.v ((i3+1:Nat):Int)] (A (wn (i:=i3) (by omega)) T) [(10,iE ((i3+1:Nat):Int))] ?_;cases h1;refine .kp [2,7,8,9,10] [] ?_;refine .dr 11 (by kernel_rfl) ?_;refine .dr 100054 (by kernel_rfl) ?_;exact .nL rfl (i3+1) _ hd8 jU hn1 [] (by kernel_rfl)
 ·subst bJ;have h0:=dH h0;refine .a [] T [(6,.gs (.own 100059) 12 (aO s4))] ?_;cases h0;exact .rt hK
def iQ (n:Nat) (a0:List Int) (a1:List Int):Option (Bool):=
 bG (bM (fun(s2:Unit) (i1:Nat) (x4:Int)=>((mY n a1 x4).bind fun k10=>(if(!k10)=true then some (Sum.inl false) else some (Sum.inr ())):Option (Bool⊕Unit))) 0 a0 ()) (fun(s2:Unit)=>some true)
theorem uZ (n:Nat):∀(a0:List Int) (a1:List Int) {r:Bool},iQ n a0 a1=some r→aF X.E 145 [lE 1 (ah a0),lE 1 (ah a1)] [] (bE r) []:=by
 intro a0 a1 r h0;rw[iQ] at h0;refine .n Tryz.func145 (fun L ks low K hl hL hlen hK=>?_);refine .a [] T [] ?_;refine .a [] T [(5,iE 0)] ?_;refine .lI h0 rfl [0,1] (fun i1 s2=>[(5,iE (i1:Int))]) n2 n2 [] (by kernel_rfl) (fun i1 s2 q3 hd5 Qq h0=>?_);refine .a [.v (a0.length:Int)] (A (aH.len' a0) T) [(9,dE ((i1:Int)<(a0.length:Int)))] ?_;refine .sn 0 aH a0 (by kernel_rfl) (fun hb8=>?_);refine .lc hd5 rfl (by kernel_rfl) (fun x4 q32 fU hx4 hd6 nM=>?_) (fun fU=>?_)
 ·subst fU;obtain⟨y1,h1,hw1,hn1⟩:=bD h0;obtain⟨k10,hk10,h1⟩:=bnd h1;refine .a [.cs [.v (.int .i64 x4)],.call [] (bE k10) []] (A (aH.jf hx4) (A (tY n _ _ hk10) T)) [(18,bE (!k10))] ?_;refine .jT h1 (fun bJ h1=>?_) (fun bJ h1=>?_)
  ·refine .a [] T [(4,bE false)] ?_;cases h1;cases hw1 _ rfl;exact .rt hK
  ·refine .a [.v ((i1+1:Nat):Int)] (A (wn (i:=i1) (by omega)) T) [(5,iE ((i1+1:Nat):Int))] ?_;cases h1;exact .nL rfl (i1+1) _ hd6 nM (hn1 _ rfl) [] (by kernel_rfl)
 ·subst fU;have h0:=bV h0;refine .a [] T [(4,bE true)] ?_;cases h0;exact .rt hK
def oP (n:Nat) (a0:List Bind) (a1:Form):Option (List Int):=
 Option.bind (dR (fun(s2:List Int) (i1:Nat) (x4:Bind)=>Option.bind (Option.bind ((if x4.name=a1.name then(iQ n x4.scopes a1.scopes).bind fun k15=>some k15 else some false):Option (Bool)) (fun(Ei:Bool)=>(if Ei=true then(jJ 8 s2 [(i1:Int)]).bind fun z13=>some z13 else some s2)):Option (List Int)) (fun(kS:List Int)=>some kS)) 0 a0 []) (fun(s2:List Int)=>some s2)
theorem Ib (n:Nat):∀(a0:List Bind) (a1:Form) {r:List Int},oP n a0 a1=some r→aF X.E 144 [lE 3 (ay a0),aE (ak a1)] [] (lE 1 (ah r)) []:=by
 intro a0 a1 r h0;rw[oP] at h0;refine .n Tryz.func144 (fun L ks low K hl hL hlen hK=>?_);refine .af [] T [(3,pw 3)] [.o 3 (.cells ((ak a1).map .d))] ?_;refine .a [.sv (ah [])] (A (aH.lit []) T) [(5,fE 1 (ah []))] ?_;refine .a [] T [(6,iE 0)] ?_;refine .ow 5 100035 3 [0,3,6] rfl rfl (by kernel_rfl) ?_;refine .lL h0 rfl [0,3] (fun i1 s2=>[(5,.gs (.own 100035) 1 (ah s2)),(6,iE (i1:Int))]) (fun i1 s2=>[.o 100035 (.tok (ah s2).length 3)]) n2 [] (by kernel_rfl) (fun i1 s2 q3 hd5 Qq h0=>?_);refine .a [.v (a0.length:Int)] (A (aW.len' a0) T) [(11,dE ((i1:Int)<(a0.length:Int)))] ?_;refine .sn 0 aW a0 (by kernel_rfl) (fun hb8=>?_);refine .lc hd5 rfl (by kernel_rfl) (fun x4 q32 fU hx4 hd6 nM=>?_) (fun fU=>?_)
 ·subst fU;obtain⟨y1,h1,hn1⟩:=bZ h0;refine .ZF h1 rfl [0,3,6] (fun kS=>[(5,.gs (.own 100035) 1 (ah kS))]) (fun kS=>[.o 100035 (.tok (ah kS).length 3)]) n1 (fun kS h1=>?_) (fun y2 h2 hj2=>?_)
  ·refine .a [.v ((i1+1:Nat):Int)] (A (wn (i:=i1) (by omega)) T) [(6,iE ((i1+1:Nat):Int))] ?_;cases h1;exact .nL rfl (i1+1) _ hd6 nM hn1 [] (by kernel_rfl)
  ·refine .bP h2 rfl [0,3,5,6] (fun Ei=>[(31,bE Ei)]) n1 n1 (fun Ei h2=>?_) (fun y3 h3 hj3=>?_)
   ·refine .jT h2 (fun hc12 h2=>?_) (fun hc12 h2=>?_)
    ·obtain⟨z13,zI,h2⟩:=bnd h2;refine .aq [.sv (ah [(i1:Int)]),.sv (ah z13)] [((ah s2).length:Int)] (A (aH.lit [(i1:Int)]) (A (aH.ap zI) T)) [(5,.gs (.own 100035) 1 (ah z13))] [.o 100035 (.tok (ah z13).length 3)] [] ?_;cases h2;exact .lg hj2 []
    ·cases h2;exact .lg hj2 []
   ·by_cases g14:x4.name=a1.name
    ·have h3:=aJ g14 h3;obtain⟨k15,tN,h3⟩:=bnd h3;refine .ad mixed ((2,[.cs (dX x4)])::(qb 9 2 true ((11,[.b true,.cs (dX x4)])::(qb 12 4 true [(16,[.b true,.call [] (bE k15) []]),(17,[.b true])])))) [] (A (aW.jf hx4) (R 2 (dt g14) (A (A (dt g14) (aW.jf hx4)) (R 4 (dt g14) (A (A (dt g14) (uZ n _ _ tN)) (A (dt g14) T)))))) [(31,bE k15)] [] [] ?_;cases h3;exact .lg hj3 []
    ·have h3:=aK g14 h3;refine .ad mixed ((2,[.cs (dX x4)])::(qb 9 9 false [])) [] (A (aW.jf hx4) (R 9 (df g14) T)) [(31,bE false)] [] [] ?_;cases h3;exact .lg hj3 []
 ·subst fU;have h0:=dH h0;refine .a [] T [(4,.gs (.own 100035) 1 (ah s2))] ?_;cases h0;exact .rt hK
def pO (n:Nat) (a0:List Bind) (a1:Form):Option (Int×Int):=
 (oP n a0 a1).bind fun k1=>bG (bM (fun(s3:Unit) (i2:Nat) (x5:Int)=>(Option.bind (dR (fun(s12:Bool) (i11:Nat) (x14:Int)=>Option.bind ((if s12=true then(gG a0 x14).bind fun e21=>(gG a0 x5).bind fun e22=>(iQ n e21.scopes e22.scopes).bind fun k23=>some k23 else some false):Option (Bool)) (fun(wM:Bool)=>some wM)) 0 k1 true) (fun(s12:Bool)=>(if s12=true then some (Sum.inl (x5,1)) else some (Sum.inr ()))):Option ((Int×Int)⊕Unit))) 0 k1 ()) (fun(s3:Unit)=>(if(k1.length:Int)>0 then some (0,2) else some (0,0)))
theorem zM (n:Nat):∀(a0:List Bind) (a1:Form) {r:Int×Int},pO n a0 a1=some r→aF X.E 131 [lE 3 (ay a0),aE (ak a1)] [] (.dN [iE r.1,iE r.2]) []:=by
 intro a0 a1 r h0;rw[pO] at h0;refine .n Tryz.func131 (fun L ks low K hl hL hlen hK=>?_);refine .af [] T [(3,pw 3)] [.o 3 (.cells ((ak a1).map .d))] ?_;obtain⟨k1,hk1,h0⟩:=bnd h0;refine .a [.call [] (lE 1 (ah k1)) []] (A (Ib n _ _ hk1) T) [(6,lE 1 (ah k1))] ?_;refine .a [] T [(7,iE 0)] ?_;refine .lI h0 rfl [0,6] (fun i2 s3=>[(7,iE (i2:Int))]) n2 n2 [] (by kernel_rfl) (fun i2 s3 q4 hd6 XZ h0=>?_);refine .a [.v (k1.length:Int)] (A (aH.len' k1) T) [(16,dE ((i2:Int)<(k1.length:Int)))] ?_;refine .sn 6 aH k1 (by kernel_rfl) (fun hb9=>?_);refine .lc hd6 rfl (by kernel_rfl) (fun x5 Wu iM hx5 hd7 vC=>?_) (fun iM=>?_)
 ·subst iM;obtain⟨y1,h1,hw1,hn1⟩:=bD h0;refine .a [] T [(8,bE true)] ?_;refine .a [] T [(9,iE 0)] ?_;refine .lL h1 rfl [0,6,7] (fun i11 s12=>[(8,bE s12),(9,iE (i11:Int))]) n2 n2 [] (by kernel_rfl) (fun i11 s12 q13 aaY aeS h1=>?_);refine .a [.v (k1.length:Int)] (A (aH.len' k1) T) [(22,dE ((i11:Int)<(k1.length:Int)))] ?_;refine .lc aaY rfl (by kernel_rfl) (fun x14 aeT hc18 Ui aaZ WJ=>?_) (fun hc18=>?_)
  ·subst hc18;obtain⟨y2,h2,hn2⟩:=bZ h1;refine .bP h2 rfl [0,6,7,9] (fun wM=>[(8,bE wM)]) n1 n1 (fun wM h2=>?_) (fun y3 h3 hj3=>?_)
   ·refine .a [.v ((i11+1:Nat):Int)] (A (wn (i:=i11) (by omega)) T) [(9,iE ((i11+1:Nat):Int))] ?_;cases h2;exact .nL rfl (i11+1) _ aaZ WJ hn2 [] (by kernel_rfl)
   ·by_cases g20:s12=true
    ·have h3:=aJ g20 h3;obtain⟨e21,BQ,h3⟩:=bnd h3;obtain⟨e22,aeU,h3⟩:=bnd h3;obtain⟨k23,KZ,h3⟩:=bnd h3;refine .ad mixed (qb 2 3 true ((5,[.b true,.cs [.v (.int .i64 x14)]])::((6,[.b true])::((7,[.b true,.cs (dX e21)])::(qb 8 5 true ((13,[.b true,.cs [.v (.int .i64 x5)]])::((14,[.b true])::((15,[.b true,.cs (dX e22)])::(qb 16 2 true [(18,[.b true,.call [] (bE k23) []]),(19,[.b true])]))))))))) [] (R 3 g20 (A (A g20 (aH.jf Ui)) (A g20 (A (A g20 (aW.idx BQ)) (R 5 g20 (A (A g20 (aH.jf hx5)) (A g20 (A (A g20 (aW.idx aeU)) (R 2 g20 (A (A g20 (uZ n _ _ KZ)) (A g20 T))))))))))) [(8,bE k23)] [] [] ?_;cases h3;exact .lg hj3 []
    ·have h3:=aK g20 h3;refine .ad mixed (qb 2 18 false []) [] (R 18 (Bool.eq_false_iff.2 g20) T) [(8,bE false)] [] [] ?_;cases h3;exact .lg hj3 []
  ·subst hc18;have h1:=dH h1;refine .a [] T [(45,bE s12)] ?_;refine .jT h1 (fun hc24 h1=>?_) (fun hc24 h1=>?_)
   ·refine .a [.cs [.v (.int .i64 x5)]] (A (aH.jf hx5) T) [(4,iE x5),(5,iE 1)] ?_;cases h1;cases hw1 _ rfl;exact .rt hK
   ·refine .a [.v ((i2+1:Nat):Int)] (A (wn (i:=i2) (by omega)) T) [(7,iE ((i2+1:Nat):Int))] ?_;cases h1;exact .nL rfl (i2+1) _ hd7 vC (hn1 _ rfl) [] (by kernel_rfl)
 ·subst iM;have h0:=bV h0;refine .a [.v (k1.length:Int)] (A (aH.len' k1) T) [(52,dE ((k1.length:Int)>0))] ?_;refine .jP h0 (fun hc25 h0=>?_) (fun hc25 h0=>?_)
  ·refine .a [] T [(4,iE 0),(5,iE 2)] ?_;cases h0;exact .rt hK
  ·refine .a [] T [(4,iE 0),(5,iE 0)] ?_;cases h0;exact .rt hK
def wO (n:Nat) (a0:List Bind) (a1:Form) (a2:Form):Option (Bool):=
 (pO n a0 a1).bind fun k1=>(pO n a0 a2).bind fun k2=>Option.bind ((if ¬k1.2=k2.2 then some true else some (decide (k1.2=2))):Option (Bool)) (fun(o3:Bool)=>(if o3=true then some false else(if k1.2=0 then some (decide (a1.name=a2.name)) else(gG a0 k1.1).bind fun e6=>(gG a0 k2.1).bind fun e7=>some (decide (e6.id=e7.id)))))
theorem N8 (n:Nat):∀(a0:List Bind) (a1:Form) (a2:Form) {r:Bool},wO n a0 a1 a2=some r→aF X.E 171 [lE 3 (ay a0),aE (ak a1),aE (ak a2)] [] (bE r) []:=by
 intro a0 a1 a2 r h0;rw[wO] at h0;refine .n Tryz.func171 (fun L ks low K hl hL hlen hK=>?_);refine .af [] T [(4,pw 4),(5,pw 5)] [.o 4 (.cells ((ak a1).map .d)),.o 5 (.cells ((ak a2).map .d))] ?_;obtain⟨k1,hk1,h0⟩:=bnd h0;refine .a [.call [] (.dN [iE k1.1,iE k1.2]) []] (A (zM n _ _ hk1) T) [(7,iE k1.1),(8,iE k1.2)] ?_;obtain⟨k2,hk2,h0⟩:=bnd h0;refine .a [.call [] (.dN [iE k2.1,iE k2.2]) []] (A (zM n _ _ hk2) T) [(9,iE k2.1),(10,iE k2.2)] ?_;refine .bP h0 rfl [0,4,5,7,8,9] (fun o3=>[(29,bE o3)]) n1 n1 (fun o3 h0=>?_) (fun y1 h1 hj1=>?_)
 ·refine .jT h0 (fun hc4 h0=>?_) (fun hc4 h0=>?_)
  ·refine .a [] T [(6,bE false)] ?_;cases h0;exact .rt hK
  ·refine .a [] T [(31,dE (k1.2=0))] ?_;refine .jP h0 (fun hc5 h0=>?_) (fun hc5 h0=>?_)
   ·refine .a [] T [(6,dE (a1.name=a2.name))] ?_;cases h0;exact .rt hK
   ·obtain⟨e6,Qo,h0⟩:=bnd h0;obtain⟨e7,ET,h0⟩:=bnd h0;refine .ad mixed [(2,[.cs (dX e6)]),(7,[.cs (dX e7)])] [] (A (aW.idx Qo) (A (aW.idx ET) T)) [(6,dE (e6.id=e7.id))] [] [] ?_;cases h0;exact .rt hK
 ·by_cases g8:¬k1.2=k2.2
  ·have h1:=aJ g8 h1;refine .a (rb 3 true []) (R 3 (dt g8) T) [(29,bE true)] ?_;cases h1;exact .lg hj1 []
  ·have h1:=aK g8 h1;refine .a (rb 3 false []) (R 3 (df g8) T) [(29,dE (k1.2=2))] ?_;cases h1;exact .lg hj1 []
mutual
def rY:Nat→(List Bind)→(List Form)→(List Form)→(List Form)→Option ((List ig)×Bool)
 | 0,_,_,_,_=>none
 | n+1,a0,a1,a2,a3=>iterM n (fun(s1:Int×Int)=>((if(aT (s1.2+1))<(a1.length:Int) then Option.bind ((gG a1 (aT (s1.2+1))).bind fun e6=>(fZ n e6).bind fun k7=>(if k7=true then some s1.2 else some s1.1):Option (Int)) (fun(o5:Int)=>some (Sum.inr (o5,(aT (s1.2+1))))) else Option.bind ((if s1.1<0 then(if ¬(a1.length:Int)=(a3.length:Int) then some true else(if s1.1≥0 then some (decide ((a3.length:Int)<(aT ((a1.length:Int)-2)))) else some false)) else(if s1.1≥0 then some (decide ((a3.length:Int)<(aT ((a1.length:Int)-2)))) else some false)):Option (Bool)) (fun(o9:Bool)=>(if o9=true then some (Sum.inl ([],false)) else bG (bM (fun(s12:(List ig)×Int) (i11:Nat) (x14:Form)=>(bG ((fZ n x14).bind fun k20=>(if k20=true then some (Sum.inr (s12.1,s12.2)) else(if ¬(i11:Int)=s1.1 then(gG a3 s12.2).bind fun e23=>(gZ n a0 x14 a2 e23).bind fun k24=>(if(!k24.2)=true then some (Sum.inl (Sum.inl (Sum.inl (s12.1,false)))) else(jJ 192 s12.1 k24.1).bind fun z26=>some (Sum.inr (z26,(aT (s12.2+1))))) else iterM n (fun(MB:Int×(List (List ig))×Int)=>((if MB.2.2>0 then(gG a3 MB.1).bind fun e31=>(gZ n a0 x14 a2 e31).bind fun k32=>(if(!k32.2)=true then some (Sum.inl (Sum.inl (Sum.inl (Sum.inl (s12.1,false))))) else(jJ 24 MB.2.1 [k32.1]).bind fun z34=>some (Sum.inr ((aT (MB.1+1)),z34,(aT (MB.2.2-1))))) else(zL n x14 a2 MB.2.1).bind fun EU=>(jJ 192 s12.1 EU).bind fun z36=>some (Sum.inl (Sum.inr (z36,MB.1)))):Option ((((((List ig)×Bool)⊕(Int×Int))⊕((List ig)×Int))⊕((List ig)×Int))⊕(Int×(List (List ig))×Int)))) (s12.2,[],(aT ((a3.length:Int)-(aT ((a1.length:Int)-2))))))):Option (((((List ig)×Bool)⊕(Int×Int))⊕((List ig)×Int))⊕((List ig)×Int))) (fun(wM:(List ig)×Int)=>some (Sum.inr (wM.1,wM.2))):Option ((((List ig)×Bool)⊕(Int×Int))⊕((List ig)×Int)))) 0 a1 ([],0)) (fun(s12:(List ig)×Int)=>some (Sum.inl (s12.1,true)))))):Option (((List ig)×Bool)⊕(Int×Int)))) ((-1),0)
def gZ:Nat→(List Bind)→Form→(List Form)→Form→Option ((List ig)×Bool)
 | 0,_,_,_,_=>none
 | n+1,a0,a1,a2,a3=>(if a1.kind=1 then(if a1.name=[95] then some ([],true) else(uY n a2 a1).bind fun k3=>(if k3=true then Option.bind ((if a3.kind=1 then(wO n a0 a1 a3).bind fun k7=>some k7 else some false):Option (Bool)) (fun(o5:Bool)=>some ([],o5)) else(jJ 192 [] [(⟨a1,0,a3,[]⟩:ig)]).bind fun z8=>some (z8,true))) else(if a1.kind=2 then(eP n a1 a3).bind fun k10=>some ([],k10) else(if ¬a3.kind=3 then some ([],false) else(rY n a0 a1.kids a2 a3.kids).bind fun k12=>some (k12.1,k12.2))))
end
theorem EW (n:Nat):(∀(a0:List Bind) (a1:List Form) (a2:List Form) (a3:List Form) {r:(List ig)×Bool},rY n a0 a1 a2 a3=some r→aF X.E 172 [lE 3 (ay a0),lE 5 (aj a1),lE 5 (aj a2),lE 5 (aj a3)] [] (.dN [lE 12 (aO r.1),bE r.2]) [])∧(∀(a0:List Bind) (a1:Form) (a2:List Form) (a3:Form) {r:(List ig)×Bool},gZ n a0 a1 a2 a3=some r→aF X.E 161 [lE 3 (ay a0),aE (ak a1),lE 5 (aj a2),aE (ak a3)] [] (.dN [lE 12 (aO r.1),bE r.2]) []):=by
 induction n with
 | zero=>exact⟨(by intros; rename_i h; cases h),(by intros; rename_i h; cases h)⟩
 | succ n ih=>
  refine⟨?_,?_⟩
  ·intro a0 a1 a2 a3 r h0;rw[rY] at h0;refine .n Tryz.func172 (fun L ks low K hl hL hlen hK=>?_);refine .a [] T [] ?_;refine .a [.sv (aO [])] (A (iU.lit []) T) [(10,fE 12 (aO []))] ?_;refine .a [] T [(11,iE (-1))] ?_;refine .a [] T [(12,iE 0)] ?_;refine .it h0 rfl [0,1,2,3,10] (fun s1=>[(11,iE s1.1),(12,iE s1.2)]) n1 n1 [] (by kernel_rfl) (fun WE s1 h0=>?_);obtain⟨y1,h1,hw1,hn1⟩:=cO h0;refine .a [.pl,.v (a1.length:Int)] (A (aA.len' a1) T) [(26,dE ((aT (s1.2+1))<(a1.length:Int)))] ?_;refine .sn 1 aA a1 (by kernel_rfl) (fun hb3=>?_);refine .jP h1 (fun hc4 h1=>?_) (fun hc4 h1=>?_)
   ·refine .ZF h1 rfl [0,1,2,3,10,12] (fun o5=>[(11,iE o5)]) n1 n1 (fun o5 h1=>?_) (fun y2 h2 hj2=>?_)
    ·refine .a [.pl] T [(12,iE (aT (s1.2+1)))] ?_;cases h1;exact .nI rfl _ (hn1 _ rfl) [] (by kernel_rfl)
    ·obtain⟨e6,Qo,h2⟩:=bnd h2;obtain⟨k7,JL,h2⟩:=bnd h2;refine .a [.pl,.cs (ak e6),.call [] (bE k7) []] (A (aA.idx Qo) (A (fO n _ JL) T)) [(34,bE k7)] ?_;refine .jT h2 (fun hc8 h2=>?_) (fun hc8 h2=>?_)
     ·refine .a [] T [(11,iE s1.2)] ?_;cases h2;exact .lg hj2 []
     ·cases h2;exact .lg hj2 []
   ·refine .bP h1 rfl [0,1,2,3,10,11] (fun o9=>[(56,bE o9)]) n1 n1 (fun o9 h1=>?_) (fun y2 h2 hj2=>?_)
    ·refine .jT h1 (fun iM h1=>?_) (fun iM h1=>?_)
     ·refine .a [] T [(8,fE 12 (aO [])),(9,bE false)] ?_;cases h1;cases hw1 _ rfl;exact .rt hK
     ·refine .a [] T [(13,iE 0)] ?_;refine .a [] T [(14,iE 0)] ?_;refine .ow 10 100091 204 [0,1,2,3,11,13,14] rfl rfl (by kernel_rfl) ?_;refine .lI h1 rfl [0,1,2,3,11] (fun i11 s12=>[(10,.gs (.own 100091) 12 (aO s12.1)),(13,iE s12.2),(14,iE (i11:Int))]) (fun i11 s12=>[.o 100091 (.tok (aO s12.1).length 204)]) n2 [] (by kernel_rfl) (fun i11 s12 q13 aaY aeS h1=>?_);refine .a [.v (a1.length:Int)] (A (aA.len' a1) T) [(61,dE ((i11:Int)<(a1.length:Int)))] ?_;refine .lc aaY rfl (by kernel_rfl) (fun x14 aeT hc18 Ui aaZ WJ=>?_) (fun hc18=>?_)
      ·subst hc18;obtain⟨y2,h2,hw2,hn2⟩:=bD h1;refine .bSB h2 rfl [0,1,2,3,11,14] (fun wM=>[(10,.gs (.own 100091) 12 (aO wM.1)),(13,iE wM.2)]) (fun wM=>[.o 100091 (.tok (aO wM.1).length 204)]) n1 (fun wM h2=>?_) (fun y3 h3 hj3 hw3=>?_)
       ·refine .a [.v ((i11+1:Nat):Int)] (A (wn (i:=i11) (by omega)) T) [(14,iE ((i11+1:Nat):Int))] ?_;cases h2;exact .nL rfl (i11+1) _ aaZ WJ (hn2 _ rfl) [] (by kernel_rfl)
       ·obtain⟨k20,Dn,h3⟩:=bnd h3;refine .a [.cs (ak x14),.call [] (bE k20) []] (A (aA.jf Ui) (A (fO n _ Dn) T)) [(68,bE k20)] ?_;refine .jT h3 (fun hc21 h3=>?_) (fun hc21 h3=>?_)
        ·cases h3;exact .lg (hj3 _ rfl) []
        ·refine .a [] T [(71,dE (¬(i11:Int)=s1.1))] ?_;refine .jP h3 (fun hc22 h3=>?_) (fun hc22 h3=>?_)
         ·obtain⟨e23,Qu,h3⟩:=bnd h3;obtain⟨k24,zG,h3⟩:=bnd h3;refine .ad mixed [(3,[.cs (ak x14)]),(8,[.cs (ak e23)]),(10,[.call [] (.dN [lE 12 (aO k24.1),bE k24.2]) []])] [] (A (aA.jf Ui) (A (aA.idx Qu) (A (ih.2 _ _ _ _ zG) T))) [(15,lE 12 (aO k24.1)),(16,bE k24.2)] [] [] ?_;refine .a [] T [(87,bE (!k24.2))] ?_;refine .jT h3 (fun hc25 h3=>?_) (fun hc25 h3=>?_)
          ·refine .a [] T [(8,.gs (.own 100091) 12 (aO s12.1)),(9,bE false)] ?_;cases h3;cases hw3 _ rfl;cases hw2 _ rfl;cases hw1 _ rfl;exact .rt hK
          ·obtain⟨z26,aa0,h3⟩:=bnd h3;refine .aq [.sv (aO z26)] [((aO s12.1).length:Int)] (A (iU.ap aa0) T) [(10,.gs (.own 100091) 12 (aO z26))] [.o 100091 (.tok (aO z26).length 204)] [] ?_;refine .a [.pl] T [(13,iE (aT (s12.2+1)))] ?_;cases h3;exact .lg (hj3 _ rfl) []
         ·refine .a [.sv (tC [])] (A (JI.lit []) T) [(17,fE 1 (tC []))] ?_;refine .a [.v (a3.length:Int),.v (a1.length:Int),.pl,.pl] (A (aA.len' a3) (A (aA.len' a1) T)) [(18,iE (aT ((a3.length:Int)-(aT ((a1.length:Int)-2)))))] ?_;refine .sn 3 aA a3 (by kernel_rfl) (fun agG=>?_);refine .ow 17 100125 192 [0,1,2,3,10,11,13,14,18] rfl rfl (by kernel_rfl) ?_;refine .it h3 rfl [0,1,2,3,10,11,14] (fun MB=>[(13,iE MB.1),(17,.gs (.own 100125) 1 (tC MB.2.1)),(18,iE MB.2.2)]) (fun MB=>[.o 100125 (.tok (tC MB.2.1).length 192)]) n1 [] (by kernel_rfl) (fun agH MB h3=>?_);obtain⟨y4,h4,hw4,hn4⟩:=cO h3;refine .a [] T [(102,dE (MB.2.2>0))] ?_;refine .jP h4 (fun WB h4=>?_) (fun WB h4=>?_)
          ·obtain⟨e31,N9,h4⟩:=bnd h4;obtain⟨k32,Dp,h4⟩:=bnd h4;refine .ad mixed [(3,[.cs (ak x14)]),(8,[.cs (ak e31)]),(10,[.call [] (.dN [lE 12 (aO k32.1),bE k32.2]) []])] [] (A (aA.jf Ui) (A (aA.idx N9) (A (ih.2 _ _ _ _ Dp) T))) [(19,lE 12 (aO k32.1)),(20,bE k32.2)] [] [] ?_;refine .a [] T [(120,bE (!k32.2))] ?_;refine .jT h4 (fun WC h4=>?_) (fun WC h4=>?_)
           ·refine .a [] T [(8,.gs (.own 100091) 12 (aO s12.1)),(9,bE false)] ?_;cases h4;cases hw4 _ rfl;cases hw3 _ rfl;cases hw2 _ rfl;cases hw1 _ rfl;exact .rt hK
           ·obtain⟨z34,aeV,h4⟩:=bnd h4;refine .aq [.sv (tC [k32.1]),.sv (tC z34)] [((tC MB.2.1).length:Int)] (A (JI.lit [k32.1]) (A (JI.ap aeV) T)) [(17,.gs (.own 100125) 1 (tC z34))] [.o 100125 (.tok (tC z34).length 192)] [] ?_;refine .a [.pl] T [(13,iE (aT (MB.1+1)))] ?_;refine .a [.pl] T [(18,iE (aT (MB.2.2-1)))] ?_;cases h4;exact .nI rfl _ (hn4 _ rfl) [] (by kernel_rfl)
          ·obtain⟨EU,La,h4⟩:=bnd h4;obtain⟨z36,aeW,h4⟩:=bnd h4;refine .aq [.cs (ak x14),.call [] (lE 12 (aO EU)) [],.sv (aO z36)] [((aO s12.1).length:Int)] (A (aA.jf Ui) (A (Qs n _ _ _ La) (A (iU.ap aeW) T))) [(10,.gs (.own 100091) 12 (aO z36))] [.o 100091 (.tok (aO z36).length 204)] [] ?_;cases h4;cases hw4 _ rfl;refine .kp [0,1,2,3,10,11,13,14] [] ?_;refine .dr 100125 (by kernel_rfl) ?_;exact .lg (hj3 _ rfl) []
      ·subst hc18;have h1:=bV h1;refine .a [] T [(8,.gs (.own 100091) 12 (aO s12.1)),(9,bE true)] ?_;cases h1;cases hw1 _ rfl;exact .rt hK
    ·by_cases Lc:s1.1<0
     ·have h2:=aJ Lc h2;by_cases YU:¬(a1.length:Int)=(a3.length:Int)
      ·have h2:=aJ YU h2;refine .a (.b true::(.b true::(.v (a1.length:Int)::(.b true::(.b true::(.v (a3.length:Int)::(rb 7 true []))))))) (A (dt Lc) (A (A (dt Lc) (aA.len' a1)) (A (dt Lc) (A (A (dt Lc) (aA.len' a3)) (R 2 (dt Lc) (R 5 (dt YU) T)))))) [(56,bE true)] ?_;refine .sn 3 aA a3 (by kernel_rfl) (fun aes=>?_);cases h2;exact .lg hj2 []
      ·have h2:=aK YU h2;by_cases X3:s1.1≥0
       ·have h2:=aJ X3 h2;refine .a (.b true::(.b true::(.v (a1.length:Int)::(.b true::(.b true::(.v (a3.length:Int)::(.b true::(.b true::(rb 3 false [.b true,.b true,.v (a3.length:Int),.b true,.b true,.v (a1.length:Int),.b true,.pl,.b true,.b false,.b true,.b false]))))))))) (A (dt Lc) (A (A (dt Lc) (aA.len' a1)) (A (dt Lc) (A (A (dt Lc) (aA.len' a3)) (R 2 (dt Lc) (R 3 (df YU) (A (dt X3) (A (A (dt X3) (aA.len' a3)) (A (dt X3) (A (A (dt X3) (aA.len' a1)) (R 2 (dt X3) (A (A (df YU) (dt X3)) (A (df YU) T))))))))))))) [(56,dE ((a3.length:Int)<(aT ((a1.length:Int)-2))))] ?_;refine .sn 3 aA a3 (by kernel_rfl) (fun agI=>?_);cases h2;exact .lg hj2 []
       ·have h2:=aK X3 h2;refine .a (.b true::(.b true::(.v (a1.length:Int)::(.b true::(.b true::(.v (a3.length:Int)::(.b true::(.b true::(rb 12 false []))))))))) (A (dt Lc) (A (A (dt Lc) (aA.len' a1)) (A (dt Lc) (A (A (dt Lc) (aA.len' a3)) (R 2 (dt Lc) (R 3 (df YU) (R 6 (df X3) (A (A (df YU) (df X3)) (A (df YU) T))))))))) [(56,bE false)] ?_;refine .sn 3 aA a3 (by kernel_rfl) (fun agJ=>?_);cases h2;exact .lg hj2 []
     ·have h2:=aK Lc h2;by_cases X4:s1.1≥0
      ·have h2:=aJ X4 h2;refine .a (rb 9 false [.b true,.b true,.v (a3.length:Int),.b true,.b true,.v (a1.length:Int),.b true,.pl,.b true,.b false,.b true,.b false]) (R 6 (df Lc) (R 3 B0 (A (dt X4) (A (A (dt X4) (aA.len' a3)) (A (dt X4) (A (A (dt X4) (aA.len' a1)) (R 2 (dt X4) (A (A B0 (dt X4)) (A B0 T))))))))) [(56,dE ((a3.length:Int)<(aT ((a1.length:Int)-2))))] ?_;refine .sn 3 aA a3 (by kernel_rfl) (fun agK=>?_);cases h2;exact .lg hj2 []
      ·have h2:=aK X4 h2;refine .a (rb 18 false []) (R 6 (df Lc) (R 3 B0 (R 6 (df X4) (A (A B0 (df X4)) (A B0 T))))) [(56,bE false)] ?_;cases h2;exact .lg hj2 []
  ·intro a0 a1 a2 a3 r h0;rw[gZ] at h0;refine .n Tryz.func161 (fun L ks low K hl hL hlen hK=>?_);refine .af [] T [(5,pw 5),(7,pw 7)] [.o 5 (.cells ((ak a1).map .d)),.o 7 (.cells ((ak a3).map .d))] ?_;refine .a [.sv (aO [])] (A (iU.lit []) T) [(10,fE 12 (aO []))] ?_;refine .a [] T [(14,dE (a1.kind=1))] ?_;refine .jP h0 (fun hc1 h0=>?_) (fun hc1 h0=>?_)
   ·refine .a [] T [(17,dE (a1.name=[95]))] ?_;refine .jP h0 (fun hc2 h0=>?_) (fun hc2 h0=>?_)
    ·refine .a [] T [(8,fE 12 (aO [])),(9,bE true)] ?_;cases h0;exact .rt hK
    ·obtain⟨k3,hk3,h0⟩:=bnd h0;refine .a [.call [] (bE k3) []] (A (AA n _ _ hk3) T) [(21,bE k3)] ?_;refine .jT h0 (fun hc4 h0=>?_) (fun hc4 h0=>?_)
     ·refine .bP h0 rfl [] (fun o5=>[(8,fE 12 (aO [])),(9,bE o5)]) n1 n1 (fun o5 h0=>?_) (fun y1 h1 hj1=>?_)
      ·cases h0;exact .rt hK
      ·by_cases g6:a3.kind=1
       ·have h1:=aJ g6 h1;obtain⟨k7,JL,h1⟩:=bnd h1;refine .a (rb 4 true [.call [] (bE k7) [],.b true]) (R 3 (dt g6) (A (A (dt g6) (N8 n _ _ _ JL)) (A (dt g6) T))) [(8,fE 12 (aO [])),(9,bE k7)] ?_;cases h1;exact .lg hj1 []
       ·have h1:=aK g6 h1;refine .a (rb 5 false []) (R 5 (df g6) T) [(8,fE 12 (aO [])),(9,bE false)] ?_;cases h1;exact .lg hj1 []
     ·obtain⟨z8,YV,h0⟩:=bnd h0;refine .af [.sv (aO [(⟨a1,0,a3,[]⟩:ig)]),.sv (aO z8)] (A (iU.lit [(⟨a1,0,a3,[]⟩:ig)]) (A (iU.ap YV) T)) [(8,.gs (.own 100037) 12 (aO z8)),(9,bE true)] [.o 100037 (.tok (aO z8).length 204)] ?_;cases h0;exact .rt hK
   ·refine .a [] T [(40,dE (a1.kind=2))] ?_;refine .jP h0 (fun fU h0=>?_) (fun fU h0=>?_)
    ·obtain⟨k10,hk10,h0⟩:=bnd h0;refine .a [.call [] (bE k10) []] (A (gU n _ _ hk10) T) [(8,fE 12 (aO [])),(9,bE k10)] ?_;cases h0;exact .rt hK
    ·refine .a [] T [(47,dE (¬a3.kind=3))] ?_;refine .jP h0 (fun bJ h0=>?_) (fun bJ h0=>?_)
     ·refine .a [] T [(8,fE 12 (aO [])),(9,bE false)] ?_;cases h0;exact .rt hK
     ·obtain⟨k12,hk12,h0⟩:=bnd h0;refine .a [.call [] (.dN [lE 12 (aO k12.1),bE k12.2]) []] (A (ih.1 _ _ _ _ hk12) T) [(8,lE 12 (aO k12.1)),(9,bE k12.2)] ?_;cases h0;exact .rt hK
theorem ZK (n:Nat):∀(a0:List Bind) (a1:List Form) (a2:List Form) (a3:List Form) {r:(List ig)×Bool},rY n a0 a1 a2 a3=some r→aF X.E 172 [lE 3 (ay a0),lE 5 (aj a1),lE 5 (aj a2),lE 5 (aj a3)] [] (.dN [lE 12 (aO r.1),bE r.2]) []:=(EW n).1
theorem Dq (n:Nat):∀(a0:List Bind) (a1:Form) (a2:List Form) (a3:Form) {r:(List ig)×Bool},gZ n a0 a1 a2 a3=some r→aF X.E 161 [lE 3 (ay a0),aE (ak a1),lE 5 (aj a2),aE (ak a3)] [] (.dN [lE 12 (aO r.1),bE r.2]) []:=(EW n).2
end Go.Ev
