/- Models of the functions that FnUnusedVars reaches. No condition. -/
import Derived.Test.YtacfeklhbbdghaaGreatRenN
import Derived.Test.YtacfeklhbbdghaaGreatEvTri
import Derived.Test.YtacfeklhbbdghaaGreatProg
import Derived.KernelRfl
import Derived.Test.YtacfeklhbbdghaaGreatShR8
namespace Go.Ev
open Go.Proofs Go.Mx
set_option linter.unusedVariables false
set_option maxRecDepth 10000
def tT:List (Nat×(Nat×Nat×fM)):=[(3,(1,8,.int .i64)),(5,(1,1,.int .u8)),(9,(1,16,.str)),(22,(1,24,.slice 5)),(23,(1,24,.slice 3)),(24,(1,24,.slice 26)),(26,(5,80,.struct [(0,1),(1,1),(2,1),(3,1),(4,1)])),(27,(1,24,.slice 29)),(29,(11,168,.struct [(0,1),(1,1),(2,1),(3,1),(4,1),(5,5),(10,1)])),(53,(2,32,.struct [(0,1),(1,1)])),(70,(1,24,.slice 9)),(84,(1,24,.slice 123)),(85,(1,24,.slice 147)),(87,(5,72,.struct [(0,1),(1,1),(2,1),(3,1),(4,1)])),(123,(3,48,.struct [(0,1),(1,1),(2,1)])),(145,(1,24,.slice 164)),(147,(3,56,.struct [(0,1),(1,1),(2,1)])),(164,(10,160,.struct [(0,5),(5,5)])),(167,(1,24,.slice 179)),(179,(12,192,.struct [(0,5),(5,1),(6,5),(11,1)])),(188,(1,24,.slice 167))]
def tZ:List (Nat×List KD):=[(3,[.v (.int .i64 0)]),(9,[.s []]),(23,[.sl 1 true (ah [])]),(26,[.v (.int .i64 0),.s [],.v (.int .i64 0),.sl 1 true (ah []),.sl 5 true (aj [])]),(29,[.v (.int .i64 0),.v (.int .i64 0),.s [],.v (.int .i64 0),.sl 1 true (ah []),.v (.int .i64 0),.s [],.v (.int .i64 0),.sl 1 true (ah []),.sl 5 true (aj []),.sl 11 true (aG [])]),(53,[.sl 1 true (jm []),.v (.int .i64 0)]),(87,[.sl 3 true (ay []),.sl 3 true (bU []),.v (.int .i64 0),.v (.int .i64 0),.v (.int .i64 0)]),(123,[.s [],.sl 1 true (ah []),.v (.int .i64 0)]),(147,[.v (.int .i64 0),.sl 5 true (aj []),.sl 10 true (dW [])]),(164,[.v (.int .i64 0),.s [],.v (.int .i64 0),.sl 1 true (ah []),.sl 5 true (aj []),.v (.int .i64 0),.s [],.v (.int .i64 0),.sl 1 true (ah []),.sl 5 true (aj [])]),(167,[.sl 12 true (aP [])]),(179,[.v (.int .i64 0),.s [],.v (.int .i64 0),.sl 1 true (ah []),.sl 5 true (aj []),.v (.int .i64 0),.v (.int .i64 0),.s [],.v (.int .i64 0),.sl 1 true (ah []),.sl 5 true (aj []),.sl 12 true (aP [])])]
theorem agF:allT (fun i x=>aU Tryz.prog i=some x) tT:=by
 refine⟨?_,?_,?_,?_,?_,?_,?_,?_,?_,?_,?_,?_,?_,?_,?_,?_,?_,?_,?_,?_,?_,trivial⟩ <;> (show aU _ _=_; kernel_rfl)
theorem agG:allT (fun i x=>∃zs,iy Tryz.prog i=some zs∧lZ (KD.DL x) zs) tZ:=
 ⟨⟨_,(by kernel_rfl:iy Tryz.prog 3=some [.int .i64 0]),(.v .nil)⟩,⟨_,(by kernel_rfl:iy Tryz.prog 9=some [.string (mkS [])]),(.v .nil)⟩,⟨_,(by kernel_rfl:iy Tryz.prog 23=some [.slice none 0 0]),(.sl .nil)⟩,⟨_,(by kernel_rfl:iy Tryz.prog 26=some [.int .i64 0,.string (mkS []),.int .i64 0,.slice none 0 0,.slice none 0 0]),(.v (.v (.v (.sl (.sl .nil)))))⟩,⟨_,(by kernel_rfl:iy Tryz.prog 29=some [.int .i64 0,.int .i64 0,.string (mkS []),.int .i64 0,.slice none 0 0,.int .i64 0,.string (mkS []),.int .i64 0,.slice none 0 0,.slice none 0 0,.slice none 0 0]),(.v (.v (.v (.v (.sl (.v (.v (.v (.sl (.sl (.sl .nil)))))))))))⟩,⟨_,(by kernel_rfl:iy Tryz.prog 53=some [.slice none 0 0,.int .i64 0]),(.sl (.v .nil))⟩,⟨_,(by kernel_rfl:iy Tryz.prog 87=some [.slice none 0 0,.slice none 0 0,.int .i64 0,.int .i64 0,.int .i64 0]),(.sl (.sl (.v (.v (.v .nil)))))⟩,⟨_,(by kernel_rfl:iy Tryz.prog 123=some [.string (mkS []),.slice none 0 0,.int .i64 0]),(.v (.sl (.v .nil)))⟩,⟨_,(by kernel_rfl:iy Tryz.prog 147=some [.int .i64 0,.slice none 0 0,.slice none 0 0]),(.v (.sl (.sl .nil)))⟩,⟨_,(by kernel_rfl:iy Tryz.prog 164=some [.int .i64 0,.string (mkS []),.int .i64 0,.slice none 0 0,.slice none 0 0,.int .i64 0,.string (mkS []),.int .i64 0,.slice none 0 0,.slice none 0 0]),(.v (.v (.v (.sl (.sl (.v (.v (.v (.sl (.sl .nil))))))))))⟩,⟨_,(by kernel_rfl:iy Tryz.prog 167=some [.slice none 0 0]),(.sl .nil)⟩,⟨_,(by kernel_rfl:iy Tryz.prog 179=some [.int .i64 0,.string (mkS []),.int .i64 0,.slice none 0 0,.slice none 0 0,.int .i64 0,.int .i64 0,.string (mkS []),.int .i64 0,.slice none 0 0,.slice none 0 0,.slice none 0 0]),(.v (.v (.v (.sl (.sl (.v (.v (.v (.v (.sl (.sl (.sl .nil))))))))))))⟩,trivial⟩
def ac5:Nat→KD:=fun _=>.any
noncomputable def E0:Setting:=⟨Tryz.prog,fun g=>(ac5 g).D,fun g=>KD.jL _ _⟩
noncomputable def X:Ctx:=⟨E0,ac5,fun _=>rfl,⟨lkT tT,lkT tZ,TG agF,TG agG⟩⟩
theorem mixed:X.E.P.follows .mixedOrders=true:=by kernel_rfl
def uN:List UInt8:=[40,43,32,49,32,108,105,115,116,41]
def mJ:List UInt8:=[40,104,101,97,100,32,40,116,97,105,108,32,40,108,105,115,116,32,49,32,50,32,51,41,41,41]
def mM:List UInt8:=[40,105,102,32,48,32,49,32,40,113,117,111,116,101,32,40,97,32,40,98,41,32,51,41,41,41]
def mO:List UInt8:=[40,40,108,97,109,98,100,97,32,40,119,41,32,40,119,32,119,41,41,32,40,108,97,109,98,100,97,32,40,119,41,32,40,119,32,119,41,41,41]
def mP:List UInt8:=[40,108,97,109,98,100,97,32,40,120,41,32,40,108,97,109,98,100,97,32,40,120,32,121,41,32,40,120,32,121,32,40,113,117,111,116,101,32,40,120,32,49,41,41,41,41,41]
def mQ:List UInt8:=[40,40,108,97,109,98,100,97,32,40,120,41,32,120,41,41]
def mV:List UInt8:=[40,40,108,97,109,98,100,97,32,40,120,32,121,41,32,40,108,105,115,116,32,121,32,120,41,41,32,49,32,50,41]
def mW:List UInt8:=[40,108,101,116,32,40,40,102,32,40,108,97,109,98,100,97,32,40,120,41,32,40,43,32,120,32,49,41,41,41,41,32,40,102,32,40,102,32,53,41,41,41]
def mX:List UInt8:=[40,108,101,116,32,40,40,103,32,40,108,97,109,98,100,97,32,40,104,41,32,40,108,97,109,98,100,97,32,40,120,41,32,40,104,32,40,104,32,120,41,41,41,41,41,41,32,40,40,103,32,40,108,97,109,98,100,97,32,40,110,41,32,40,43,32,110,32,110,41,41,41,32,51,41,41]
def mY:List UInt8:=[40,108,101,116,32,40,40,105,102,32,108,105,115,116,41,41,32,40,108,101,116,45,115,121,110,116,97,120,32,40,40,109,32,40,114,117,108,101,115,32,40,41,32,40,40,95,32,97,41,32,40,105,102,32,97,32,49,32,50,41,41,41,41,41,32,40,109,32,53,41,41,41]
def mZ:List UInt8:=[40,108,101,116,45,115,121,110,116,97,120,32,40,40,100,101,102,32,40,114,117,108,101,115,32,40,41,32,40,40,95,32,110,32,101,32,98,41,32,40,108,101,116,32,40,40,110,32,101,41,41,32,98,41,41,41,41,41,32,40,100,101,102,32,122,32,51,32,40,43,32,122,32,122,41,41,41]
def ng:List UInt8:=[40,108,101,116,45,115,121,110,116,97,120,32,40,40,107,32,40,114,117,108,101,115,32,40,101,108,115,101,41,32,40,40,95,32,101,108,115,101,32,97,41,32,97,41,32,40,40,95,32,98,32,97,41,32,40,108,105,115,116,32,98,32,97,41,41,41,41,41,32,40,107,32,101,108,115,101,32,52,41,41]
def ni:List UInt8:=[40,108,101,116,45,115,121,110,116,97,120,32,40,40,109,32,40,114,117,108,101,115,32,40,41,32,40,40,95,32,97,41,32,40,105,102,32,97,32,49,32,50,41,41,41,41,41,32,40,108,101,116,32,40,40,105,102,32,108,105,115,116,41,41,32,40,109,32,105,102,41,41,41]
def ny:List UInt8:=[40,108,101,116,45,115,121,110,116,97,120,32,40,40,107,32,40,114,117,108,101,115,32,40,101,108,115,101,41,32,40,40,95,32,101,108,115,101,32,97,41,32,97,41,32,40,40,95,32,98,32,97,41,32,40,108,105,115,116,32,98,32,97,41,41,41,41,41,32,40,108,101,116,32,40,40,101,108,115,101,32,51,41,41,32,40,107,32,101,108,115,101,32,52,41,41,41]
def iG:List UInt8:=[108,101,116,45,115,121,110,116,97,120]
def nC:List UInt8:=[40,108,101,116,45,115,121,110,116,97,120,32,40,40,111,114,32,40,114,117,108,101,115,32,40,41,32,40,40,95,41,32,48,41,32,40,40,95,32,97,41,32,97,41,32,40,40,95,32,97,32,98,32,46,46,46,41,32,40,108,101,116,32,40,40,116,32,97,41,41,32,40,105,102,32,116,32,116,32,40,111,114,32,98,32,46,46,46,41,41,41,41,41,41,41,32,40,108,101,116,32,40,40,116,32,53,41,41,32,40,111,114,32,48,32,116,32,55,41,41,41]
def nD:List UInt8:=[40,108,101,116,45,115,121,110,116,97,120,32,40,40,109,121,32,40,114,117,108,101,115,32,40,41,32,40,40,95,32,102,41,32,40,108,97,109,98,100,97,32,40,120,41,32,40,102,32,120,41,41,41,41,41,41,32,40,108,101,116,32,40,40,120,32,51,41,41,32,40,40,109,121,32,40,108,97,109,98,100,97,32,40,121,41,32,40,43,32,120,32,121,41,41,41,32,52,41,41,41]
def nG:List UInt8:=[40,108,101,116,45,115,121,110,116,97,120,32,40,40,111,114,32,40,114,117,108,101,115,32,40,41,32,40,40,95,41,32,48,41,32,40,40,95,32,97,32,98,32,46,46,46,41,32,40,108,101,116,32,40,40,116,32,97,41,41,32,40,105,102,32,116,32,116,32,40,111,114,32,98,32,46,46,46,41,41,41,41,41,41,41,32,40,108,101,116,32,40,40,116,32,53,41,41,32,40,111,114,32,48,32,116,41,41,41]
def nH:List UInt8:=[40,108,101,116,45,115,121,110,116,97,120,32,40,40,108,111,111,112,32,40,114,117,108,101,115,32,40,41,32,40,40,95,41,32,40,108,111,111,112,41,41,41,41,41,32,40,108,111,111,112,41,41]
def nJ:List UInt8:=[40,108,101,116,45,115,121,110,116,97,120,32,40,40,119,105,116,104,32,40,114,117,108,101,115,32,40,41,32,40,40,95,32,40,40,120,32,118,41,32,46,46,46,41,32,98,111,100,121,41,32,40,40,108,97,109,98,100,97,32,40,120,32,46,46,46,41,32,98,111,100,121,41,32,118,32,46,46,46,41,41,41,41,41,32,40,119,105,116,104,32,40,40,112,32,49,41,32,40,113,32,50,41,41,32,40,43,32,112,32,113,41,41,41]
def nK:List UInt8:=[40,108,101,116,45,115,121,110,116,97,120,32,40,40,116,119,111,32,40,114,117,108,101,115,32,40,41,32,40,40,95,32,110,41,32,40,108,97,109,98,100,97,32,40,110,32,120,41,32,40,43,32,110,32,120,41,41,41,41,41,41,32,40,116,119,111,32,120,41,41]
def nM:List UInt8:=[40,108,101,116,45,115,121,110,116,97,120,32,40,40,97,32,40,114,117,108,101,115,32,40,41,32,40,40,95,32,120,41,32,40,98,32,120,41,41,41,41,32,40,98,32,40,114,117,108,101,115,32,40,41,32,40,40,95,32,121,41,32,40,108,105,115,116,32,121,32,121,41,41,41,41,41,32,40,97,32,55,41,41]
def nN:List UInt8:=[40,108,101,116,45,115,121,110,116,97,120,32,40,40,109,32,40,114,117,108,101,115,32,40,41,32,40,40,95,32,97,41,32,49,41,41,41,41,32,40,109,41,41]
def nO:List UInt8:=[40,108,101,116,32,40,40,116,109,112,32,53,41,32,40,122,32,54,41,41,32,40,108,101,116,45,115,121,110,116,97,120,32,40,40,115,119,97,112,32,40,114,117,108,101,115,32,40,41,32,40,40,95,32,97,32,98,41,32,40,108,101,116,32,40,40,116,109,112,32,97,41,41,32,40,108,105,115,116,32,98,32,116,109,112,41,41,41,41,41,41,32,40,115,119,97,112,32,116,109,112,32,122,41,41,41]
def nP:List UInt8:=[40,108,101,116,32,40,40,120,32,49,41,32,40,121,32,50,41,41,32,40,108,101,116,45,115,121,110,116,97,120,32,40,40,115,119,97,112,32,40,114,117,108,101,115,32,40,41,32,40,40,95,32,97,32,98,41,32,40,108,101,116,32,40,40,116,109,112,32,97,41,41,32,40,108,105,115,116,32,98,32,116,109,112,41,41,41,41,41,41,32,40,115,119,97,112,32,120,32,121,41,41,41]
def nR:List UInt8:=[40,108,105,115,116,32,40,60,32,49,32,50,41,32,40,61,32,49,32,50,41,32,40,108,97,109,98,100,97,32,40,120,41,32,120,41,32,108,105,115,116,41]
def CY:List UInt8:=[40,114,117,108,101,115,32,40,41,32,40,40,95,32,97,32,98,41,32,40,108,101,116,32,40,40,116,32,97,41,41,32,40,108,105,115,116,32,98,32,116,41,41,41,32,40,40,95,32,97,41,32,40,108,101,116,32,40,40,120,32,97,41,41,32,40,108,105,115,116,32,120,32,97,41,41,41,41]
def pV:List UInt8:=[117,110,107,110,111,119,110]
def iV (n:Nat) (a0:Int) (a1:Int) (a2:Int):Option (Bool):=
 Option.bind ((if a0≥a1 then some (decide (a0≤a2)) else some false):Option (Bool)) (fun(o1:Bool)=>some o1)
theorem gI (n:Nat):∀(a0:Int) (a1:Int) (a2:Int) {r:Bool},iV n a0 a1 a2=some r→aF X.E 36 [iE a0,iE a1,iE a2] [] (bE r) []:=by
 intro a0 a1 a2 r h0;rw[iV] at h0;refine .n Tryz.func36 (fun L ks low K hl hL hlen hK=>?_);refine .a [] T [] ?_;refine .bP h0 rfl [] (fun o1=>[(6,bE o1)]) n1 n1 (fun o1 h0=>?_) (fun y1 h1 hj1=>?_)
 ·cases h0;exact .rt hK
 ·by_cases g2:a0≥a1
  ·have h1:=aK g2 h1;refine .a (rb 4 true []) (R 4 (dt g2) T) [(6,dE (a0≤a2))] ?_;cases h1;exact .lg hj1 []
  ·have h1:=aN g2 h1;refine .a (rb 4 false []) (R 4 (df g2) T) [(6,bE false)] ?_;cases h1;exact .lg hj1 []
def strings_IndexByte (n:Nat) (a0:List UInt8) (a1:Int):Option Int:=some (Lib.indexByte a0 a1.toNat.toUInt8)
theorem sO (n:Nat):∀(a0:List UInt8) (a1:Int) {r:Int},strings_IndexByte n a0 a1=some r→aF X.E 54 [sE a0,.d (.v (.int .u8 a1))] [] (iE r) []:=by
 intro a0 a1 r h0;cases h0;exact aF.Zf Tryz.func54 rfl rfl (fun _=>rfl) (fun _=>rfl) (fun w=>Tryz.strings_IndexByte (mkS a0) a1 w)
def lN (n:Nat) (a0:List UInt8):Option (Bool):=
 Option.bind ((if a0=[46,46,46] then some true else some (decide (a0=[95]))):Option (Bool)) (fun(o1:Bool)=>(if o1=true then some true else iterM n (fun(s3:Int)=>((if s3<(a0.length:Int) then bH ((gQ a0 s3).bind fun y7=>Option.bind ((if(y7.toNat:Int)≥97 then(if(y7.toNat:Int)≤122 then some true else(strings_IndexByte n [42,63,61,43,60] (y7.toNat:Int)).bind fun k17=>some (decide (k17≥0))) else(strings_IndexByte n [42,63,61,43,60] (y7.toNat:Int)).bind fun k18=>some (decide (k18≥0))):Option (Bool)) (fun(o8:Bool)=>(if o8=true then some (Sum.inr ()) else Option.bind ((if s3>0 then(if(y7.toNat:Int)≥48 then(if(y7.toNat:Int)≤57 then some true else some (decide ((y7.toNat:Int)=45))) else some (decide ((y7.toNat:Int)=45))) else some false):Option (Bool)) (fun(kM:Bool)=>(if kM=true then some (Sum.inr ()) else some (Sum.inl (Sum.inl false)))))):Option ((Bool⊕Int)⊕Unit)) (fun(o6:Unit)=>some (Sum.inr (aY (s3+1)))) else(iV n (a0.length:Int) 1 12).bind fun k19=>some (Sum.inl k19)):Option (Bool⊕Int))) 0))
theorem kY (n:Nat):∀(a0:List UInt8) {r:Bool},lN n a0=some r→aF X.E 38 [sE a0] [] (bE r) []:=by
 intro a0 r h0;rw[lN] at h0;refine .n Tryz.func38 (fun L ks low K hl hL hlen hK=>?_);refine .a [] T [] ?_;refine .bP h0 rfl [0] (fun o1=>[(10,bE o1)]) n1 n1 (fun o1 h0=>?_) (fun y1 h1 hj1=>?_)
 ·refine .jT h0 (fun hc2 h0=>?_) (fun hc2 h0=>?_)
  ·refine .a [] T [(2,bE true)] ?_;cases h0;exact .rt hK
  ·refine .a [] T [(3,iE 0)] ?_;refine .it h0 rfl [0] (fun s3=>[(3,iE s3)]) n1 n1 [] (by kernel_rfl) (fun nk4 s3 h0=>?_);obtain⟨y1,h1,hw1,hn1⟩:=bW h0;refine .a [] T [(14,dE (s3<(a0.length:Int)))] ?_;refine .jP h1 (fun hc5 h1=>?_) (fun hc5 h1=>?_)
   ·refine .bSB h1 rfl [0,3] (fun o6=>[]) n1 n1 (fun o6 h1=>?_) (fun y2 h2 hj2 hw2=>?_)
    ·refine .a [.pl] T [(3,iE (aY (s3+1)))] ?_;cases h1;exact .nI rfl _ (hn1 _ rfl) [] (by kernel_rfl)
    ·obtain⟨y7,hy7,h2⟩:=bnd h2;refine .a [.D8 y7] (A (EU hy7) T) [(4,.d (.v (.int .u8 (y7.toNat:Int))))] ?_;refine .bP h2 rfl [0,3,4] (fun o8=>[(20,bE o8)]) n1 n1 (fun o8 h2=>?_) (fun y3 h3 hj3=>?_)
     ·refine .jT h2 (fun gJ h2=>?_) (fun gJ h2=>?_)
      ·cases h2;exact .lg (hj2 _ rfl) []
      ·refine .bP h2 rfl [0,3] (fun kM=>[(32,bE kM)]) n1 n1 (fun kM h2=>?_) (fun y3 h3 hj3=>?_)
       ·refine .jT h2 (fun bI h2=>?_) (fun bI h2=>?_)
        ·cases h2;exact .lg (hj2 _ rfl) []
        ·refine .a [] T [(2,bE false)] ?_;cases h2;cases hw2 _ rfl;cases hw1 _ rfl;exact .rt hK
       ·by_cases g12:s3>0
        ·have h3:=aK g12 h3;by_cases g13:(y7.toNat:Int)≥48
         ·have h3:=aK g13 h3;by_cases g14:(y7.toNat:Int)≤57
          ·have h3:=aK g14 h3;refine .a (rb 13 true []) (R 3 (dt g12) (R 2 (dt g13) (A (A (dt g12) (dt g13)) (A (dt g12) (R 2 (dt g14) (A (A (dt g12) (dt g14)) (A (dt g12) T))))))) [(32,bE true)] ?_;cases h3;exact .lg hj3 []
          ·have h3:=aN g14 h3;refine .a (rb 8 true [.b false,.b false,.b true,.b false,.b true]) (R 3 (dt g12) (R 2 (dt g13) (A (A (dt g12) (dt g13)) (A (dt g12) (R 2 (df g14) (A (A (dt g12) (df g14)) (A (dt g12) T))))))) [(32,dE ((y7.toNat:Int)=45))] ?_;cases h3;exact .lg hj3 []
         ·have h3:=aN g13 h3;refine .a (rb 3 true [.b false,.b false,.b true,.b false,.b true,.b false,.b false,.b true,.b false,.b true]) (R 3 (dt g12) (R 2 (df g13) (A (A (dt g12) (df g13)) (A (dt g12) (R 2 B0 (A (A (dt g12) B0) (A (dt g12) T))))))) [(32,dE ((y7.toNat:Int)=45))] ?_;cases h3;exact .lg hj3 []
        ·have h3:=aN g12 h3;refine .a (rb 7 false []) (R 7 (df g12) T) [(32,bE false)] ?_;cases h3;exact .lg hj3 []
     ·by_cases g15:(y7.toNat:Int)≥97
      ·have h3:=aK g15 h3;by_cases g16:(y7.toNat:Int)≤122
       ·have h3:=aK g16 h3;refine .a (rb 7 true []) (R 3 (dt g15) (R 4 (dt g16) T)) [(20,bE true)] ?_;cases h3;exact .lg hj3 []
       ·have h3:=aN g16 h3;obtain⟨k17,Ew,h3⟩:=bnd h3;refine .a (rb 3 true [.b false,.b false,.call [] (iE k17) [],.b false,.b false]) (R 3 (dt g15) (A (df g16) (A (A (df g16) (sO n _ _ Ew)) (R 2 (df g16) T)))) [(20,dE (k17≥0))] ?_;cases h3;exact .lg hj3 []
      ·have h3:=aN g15 h3;obtain⟨k18,ql,h3⟩:=bnd h3;refine .a (rb 5 false [.call [] (iE k18) [],.b false,.b false]) (R 3 (df g15) (A B0 (A (A B0 (sO n _ _ ql)) (R 2 B0 T)))) [(20,dE (k18≥0))] ?_;cases h3;exact .lg hj3 []
   ·obtain⟨k19,Aj,h1⟩:=bnd h1;refine .a [.call [] (bE k19) []] (A (gI n _ _ _ Aj) T) [(2,bE k19)] ?_;cases h1;cases hw1 _ rfl;exact .rt hK
 ·by_cases g20:a0=[46,46,46]
  ·have h1:=aK g20 h1;refine .a (rb 3 true []) (R 3 (dt g20) T) [(10,bE true)] ?_;cases h1;exact .lg hj1 []
  ·have h1:=aN g20 h1;refine .a (rb 3 false []) (R 3 (df g20) T) [(10,dE (a0=[95]))] ?_;cases h1;exact .lg hj1 []
def rF (n:Nat) (a0:List Int):Option (Bool):=
 bH (bV (fun(s3:Unit) (i2:Nat) (x5:Int)=>(Option.bind ((iV n x5 1 99).bind fun k12=>(if(!k12)=true then some true else(if(i2:Int)>0 then(gQ a0 (aY ((i2:Int)-1))).bind fun e15=>some (decide (e15≥x5)) else some false)):Option (Bool)) (fun(kM:Bool)=>(if kM=true then some (Sum.inl false) else some (Sum.inr ()))):Option (Bool⊕Unit))) 0 a0 ()) (fun(s3:Unit)=>some (decide ((a0.length:Int)≤24)))
theorem CZ (n:Nat):∀(a0:List Int) {r:Bool},rF n a0=some r→aF X.E 74 [lE 1 (ah a0)] [] (bE r) []:=by
 intro a0 r h0;rw[rF] at h0;refine .n Tryz.func74 (fun L ks low K hl hL hlen hK=>?_);refine .a [] T [] ?_;refine .a [.v (a0.length:Int)] (A (aI.len' a0) T) [(5,lE 1 (ah a0)),(6,iE (a0.length:Int)),(7,iE 0)] ?_;refine .sn 0 aI a0 (by kernel_rfl) (fun hb1=>?_);refine .lI h0 rfl [0,5,6] (fun i2 s3=>[(7,iE (i2:Int))]) n2 n2 [] (by kernel_rfl) (fun i2 s3 q4 hd6 hi8 h0=>?_);refine .a [] T [(8,dE ((i2:Int)<(a0.length:Int)))] ?_;refine .lc hd6 rfl (by kernel_rfl) (fun x5 q42 gJ hx5 hd7 Ak=>?_) (fun gJ=>?_)
 ·subst gJ;obtain⟨y1,h1,hw1,hn1⟩:=bf h0;refine .a [.cs [.v (.int .i64 x5)]] (A (aI.iU hx5) T) [(3,iE (i2:Int)),(4,iE x5)] ?_;refine .bP h1 rfl [0,5,6,7] (fun kM=>[(27,bE kM)]) n1 n1 (fun kM h1=>?_) (fun y2 h2 hj2=>?_)
  ·refine .jT h1 (fun bI h1=>?_) (fun bI h1=>?_)
   ·refine .a [] T [(2,bE false)] ?_;cases h1;cases hw1 _ rfl;exact .rt hK
   ·refine .a [.v ((i2+1:Nat):Int)] (A (wn (i:=i2) (by omega)) T) [(7,iE ((i2+1:Nat):Int))] ?_;cases h1;exact .nL rfl (i2+1) _ hd7 Ak (hn1 _ rfl) [] (by kernel_rfl)
  ·obtain⟨k12,hk12,h2⟩:=bnd h2;by_cases g13:(!k12)=true
   ·have h2:=aK g13 h2;refine .a (.call [] (bE k12) []::(rb 5 true [])) (A (gI n _ _ _ hk12) (R 5 g13 T)) [(27,bE true)] ?_;cases h2;exact .lg hj2 []
   ·have h2:=aN g13 h2;by_cases g14:(i2:Int)>0
    ·have h2:=aK g14 h2;obtain⟨e15,ZA,h2⟩:=bnd h2;refine .a (.call [] (bE k12) []::(rb 3 false (rb 3 true (.pl::(.b true::(.cs [.v (.int .i64 e15)]::(rb 3 true [.b false,.b true,.b false]))))))) (A (gI n _ _ _ hk12) (R 3 (Bool.eq_false_iff.2 g13) (R 3 (dt g14) (A (A (dt g14) (aI.idx ZA)) (R 3 (dt g14) (A (A (Bool.eq_false_iff.2 g13) (dt g14)) (A (Bool.eq_false_iff.2 g13) T))))))) [(27,dE (e15≥x5))] ?_;cases h2;exact .lg hj2 []
    ·have h2:=aN g14 h2;refine .a (.call [] (bE k12) []::(rb 13 false [])) (A (gI n _ _ _ hk12) (R 3 (Bool.eq_false_iff.2 g13) (R 7 (df g14) (A (A (Bool.eq_false_iff.2 g13) (df g14)) (A (Bool.eq_false_iff.2 g13) T))))) [(27,bE false)] ?_;cases h2;exact .lg hj2 []
 ·subst gJ;have h0:=bM h0;refine .a [.v (a0.length:Int)] (A (aI.len' a0) T) [(2,dE ((a0.length:Int)≤24))] ?_;cases h0;exact .rt hK
def tN:Nat→Form→Int→Int→Option (Bool×Int)
 | 0,_,_,_=>none
 | n+1,a0,a1,w0=>Option.bind ((if(aY (w0-1))<0 then some true else some (decide (a1>40))):Option (Bool)) (fun(o1:Bool)=>(if o1=true then some (false,(aY (w0-1))) else(if a0.kind=1 then Option.bind ((lN n a0.name).bind fun k5=>(if k5=true then(if a0.n=0 then(rF n a0.scopes).bind fun k8=>(if k8=true then some (decide ((a0.kids.length:Int)=0)) else some false) else some false) else some false):Option (Bool)) (fun(o4:Bool)=>some (o4,(aY (w0-1)))) else(if a0.kind=2 then Option.bind ((if a0.name=[] then(iV n a0.n 0 999).bind fun k13=>(if k13=true then(if(a0.scopes.length:Int)=0 then some (decide ((a0.kids.length:Int)=0)) else some false) else some false) else some false):Option (Bool)) (fun(KR:Bool)=>some (KR,(aY (w0-1)))) else(if a0.kind=3 then Option.bind ((if ¬a0.name=[] then some true else(if ¬a0.n=0 then some true else some (decide ((a0.scopes.length:Int)>0)))):Option (Bool)) (fun(XU:Bool)=>(if XU=true then some (false,(aY (w0-1))) else bH (bV (fun(EW:Int) (i20:Nat) (x23:Form)=>((tN n x23 (aY (a1+1)) EW).bind fun k28=>(if(!k28.1)=true then some (Sum.inl (false,k28.2)) else some (Sum.inr k28.2)):Option ((Bool×Int)⊕Int))) 0 a0.kids (aY (w0-1))) (fun(EW:Int)=>some (true,EW)))) else some (false,(aY (w0-1))))))))
theorem QB (n:Nat):∀(a0:Form) (a1:Int) (w0:Int) {r:Bool×Int},tN n a0 a1 w0=some r→aF X.E 55 [aE (ak a0),iE a1,pl 0] [some (.cells [iE w0])] (bE r.1) [.cells [iE r.2]]:=by
 induction n with
 | zero=>intro a0 a1 w0 r h; cases h
 | succ n ih=>
  intro a0 a1 w0 r h0;rw[tN] at h0;refine .n Tryz.func55 (fun L ks low K hl hL hlen hK=>?_);refine .af [] T [(3,pw 3)] [.o 3 (.cells ((ak a0).map .d))] ?_;refine .ao [.pl] T [] [.c 0 0 (iE (aY (w0-1)))] ?_;refine .bP h0 rfl [1,2,3] (fun o1=>[(21,bE o1)]) n1 n1 (fun o1 h0=>?_) (fun y1 h1 hj1=>?_)
  ·refine .jT h0 (fun hc2 h0=>?_) (fun hc2 h0=>?_)
   ·refine .a [] T [(6,bE false)] ?_;cases h0;exact .rt hK
   ·refine .a [] T [(23,iE a0.kind)] ?_;refine .a [] T [(24,dE (a0.kind=1))] ?_;refine .jP h0 (fun hc3 h0=>?_) (fun hc3 h0=>?_)
    ·refine .bP h0 rfl [] (fun o4=>[(6,bE o4)]) n1 n1 (fun o4 h0=>?_) (fun y1 h1 hj1=>?_)
     ·cases h0;exact .rt hK
     ·obtain⟨k5,hk5,h1⟩:=bnd h1;by_cases g6:k5=true
      ·have h1:=aK g6 h1;by_cases g7:a0.n=0
       ·have h1:=aK g7 h1;obtain⟨k8,hk8,h1⟩:=bnd h1;by_cases g9:k8=true
        ·have h1:=aK g9 h1;refine .a (.call [] (bE k5) []::(rb 7 true (.call [] (bE k8) []::(rb 4 true [.v (a0.kids.length:Int),.b true,.b true])))) (A (kY n _ hk5) (R 4 g6 (R 2 (dt g7) (A (A (dt g7) (CZ n _ hk8)) (A (dt g7) (R 2 g9 (A (A g9 (aA.len' a0.kids)) (R 2 g9 T)))))))) [(6,dE ((a0.kids.length:Int)=0))] ?_;cases h1;exact .lg hj1 []
        ·have h1:=aN g9 h1;refine .a (.call [] (bE k5) []::(rb 7 true (.call [] (bE k8) []::(.b true::(rb 5 false []))))) (A (kY n _ hk5) (R 4 g6 (R 2 (dt g7) (A (A (dt g7) (CZ n _ hk8)) (A (dt g7) (R 5 (Bool.eq_false_iff.2 g9) T)))))) [(6,bE false)] ?_;cases h1;exact .lg hj1 []
       ·have h1:=aN g7 h1;refine .a (.call [] (bE k5) []::(rb 4 true (rb 9 false []))) (A (kY n _ hk5) (R 4 g6 (R 4 (df g7) (R 5 B0 T)))) [(6,bE false)] ?_;cases h1;exact .lg hj1 []
      ·have h1:=aN g6 h1;refine .a (.call [] (bE k5) []::(rb 13 false [])) (A (kY n _ hk5) (R 4 (Bool.eq_false_iff.2 g6) (R 9 B0 T))) [(6,bE false)] ?_;cases h1;exact .lg hj1 []
    ·refine .a [] T [(45,dE (a0.kind=2))] ?_;refine .jP h0 (fun iQ h0=>?_) (fun iQ h0=>?_)
     ·refine .bP h0 rfl [] (fun KR=>[(6,bE KR)]) n1 n1 (fun KR h0=>?_) (fun y1 h1 hj1=>?_)
      ·cases h0;exact .rt hK
      ·by_cases g12:a0.name=[]
       ·have h1:=aK g12 h1;obtain⟨k13,oG,h1⟩:=bnd h1;by_cases g14:k13=true
        ·have h1:=aK g14 h1;by_cases g15:(a0.scopes.length:Int)=0
         ·have h1:=aK g15 h1;refine .a (rb 3 true (.call [] (bE k13) []::(rb 4 true (.v (a0.scopes.length:Int)::(rb 5 true [.v (a0.kids.length:Int),.b true,.b true]))))) (R 2 (dt g12) (A (A (dt g12) (gI n _ _ _ oG)) (A (dt g12) (R 2 g14 (A (A g14 (aI.len' a0.scopes)) (R 2 g14 (R 2 (dt g15) (A (A (dt g15) (aA.len' a0.kids)) (R 2 (dt g15) T))))))))) [(6,dE ((a0.kids.length:Int)=0))] ?_;cases h1;exact .lg hj1 []
         ·have h1:=aN g15 h1;refine .a (rb 3 true (.call [] (bE k13) []::(rb 4 true (.v (a0.scopes.length:Int)::(.b true::(.b true::(rb 5 false []))))))) (R 2 (dt g12) (A (A (dt g12) (gI n _ _ _ oG)) (A (dt g12) (R 2 g14 (A (A g14 (aI.len' a0.scopes)) (R 2 g14 (R 5 (df g15) T))))))) [(6,bE false)] ?_;cases h1;exact .lg hj1 []
        ·have h1:=aN g14 h1;refine .a (rb 3 true (.call [] (bE k13) []::(.b true::(rb 10 false [])))) (R 2 (dt g12) (A (A (dt g12) (gI n _ _ _ oG)) (A (dt g12) (R 5 (Bool.eq_false_iff.2 g14) (R 5 B0 T))))) [(6,bE false)] ?_;cases h1;exact .lg hj1 []
       ·have h1:=aN g12 h1;refine .a (rb 14 false []) (R 4 (df g12) (R 10 B0 T)) [(6,bE false)] ?_;cases h1;exact .lg hj1 []
     ·refine .a [] T [(67,dE (a0.kind=3))] ?_;refine .jP h0 (fun hc16 h0=>?_) (fun hc16 h0=>?_)
      ·refine .bP h0 rfl [1,2,3] (fun XU=>[(82,bE XU)]) n1 n1 (fun XU h0=>?_) (fun y1 h1 hj1=>?_)
       ·refine .jT h0 (fun hc18 h0=>?_) (fun hc18 h0=>?_)
        ·refine .a [] T [(6,bE false)] ?_;cases h0;exact .rt hK
        ·refine .a [.v (a0.kids.length:Int)] (A (aA.len' a0.kids) T) [(84,lE 5 (aj a0.kids)),(85,iE (a0.kids.length:Int)),(86,iE 0)] ?_;refine .sn 84 aA a0.kids (by kernel_rfl) (fun ai4=>?_);refine .lI h0 rfl [1,2,84,85] (fun i20 EW=>[(86,iE (i20:Int))]) n2 (fun i20 EW=>[.c 0 0 (iE EW)]) [] (by kernel_rfl) (fun i20 EW q22 hd24 agC h0=>?_);refine .a [] T [(87,dE ((i20:Int)<(a0.kids.length:Int)))] ?_;refine .lc hd24 rfl (by kernel_rfl) (fun x23 alJ hc27 ai5 hd25 agH=>?_) (fun hc27=>?_)
         ·subst hc27;obtain⟨y1,h1,hw1,hn1⟩:=bf h0;refine .af [.cs (ak x23)] (A (aA.iU ai5) T) [(8,pw 8)] [.o 8 (.cells ((ak x23).map .d))] ?_;obtain⟨k28,Ob,h1⟩:=bnd h1;refine .ao [.pl,.call [.low 0] (bE k28.1) [.cells [iE k28.2]]] (A (ih _ _ _ Ob) T) [(95,bE (!k28.1))] [.c 0 0 (iE k28.2)] ?_;refine .jT h1 (fun hc29 h1=>?_) (fun hc29 h1=>?_)
          ·refine .a [] T [(6,bE false)] ?_;cases h1;cases hw1 _ rfl;exact .rt hK
          ·refine .a [.v ((i20+1:Nat):Int)] (A (wn (i:=i20) (by omega)) T) [(86,iE ((i20+1:Nat):Int))] ?_;cases h1;refine .kp [1,2,84,85,86] [] ?_;refine .dr 8 (by kernel_rfl) ?_;exact .nL rfl (i20+1) _ hd25 agH (hn1 _ rfl) [] (by kernel_rfl)
         ·subst hc27;have h0:=bM h0;refine .a [] T [(6,bE true)] ?_;cases h0;exact .rt hK
       ·by_cases jR:¬a0.name=[]
        ·have h1:=aK jR h1;refine .a (rb 9 true []) (R 4 (dt jR) (R 5 B1 T)) [(82,bE true)] ?_;cases h1;exact .lg hj1 []
        ·have h1:=aN jR h1;by_cases Am:¬a0.n=0
         ·have h1:=aK Am h1;refine .a (rb 4 false (rb 5 true [])) (R 4 (df jR) (R 5 (dt Am) T)) [(82,bE true)] ?_;cases h1;exact .lg hj1 []
         ·have h1:=aN Am h1;refine .a (rb 7 false [.v (a0.scopes.length:Int),.b false,.b false]) (R 4 (df jR) (R 2 (df Am) (A (A (df Am) (aI.len' a0.scopes)) (R 2 (df Am) T)))) [(82,dE ((a0.scopes.length:Int)>0))] ?_;cases h1;exact .lg hj1 []
      ·refine .a [] T [(6,bE false)] ?_;cases h0;exact .rt hK
  ·by_cases wK:(aY (w0-1))<0
   ·have h1:=aK wK h1;refine .a (rb 3 true []) (R 3 (dt wK) T) [(21,bE true)] ?_;cases h1;exact .lg hj1 []
   ·have h1:=aN wK h1;refine .a (rb 3 false []) (R 3 (df wK) T) [(21,dE (a1>40))] ?_;cases h1;exact .lg hj1 []
def lQ (n:Nat) (a0:Form):Option (Bool):=
 (tN n a0 1 400).bind fun k1=>some k1.1
theorem uO (n:Nat):∀(a0:Form) {r:Bool},lQ n a0=some r→aF X.E 39 [aE (ak a0)] [] (bE r) []:=by
 intro a0 r h0;rw[lQ] at h0;refine .n Tryz.func39 (fun L ks low K hl hL hlen hK=>?_);refine .af [] T [(1,pw 1)] [.o 1 (.cells ((ak a0).map .d))] ?_;refine .af [] T [(3,pw 3)] [.o 3 (.cells [iE 400])] ?_;obtain⟨k1,hk1,h0⟩:=bnd h0;refine .af [.call [.own 3] (bE k1.1) [.cells [iE k1.2]]] (A (QB n _ _ _ hk1) T) [(2,bE k1.1)] [.c 3 0 (iE k1.2)] ?_;cases h0;exact .rt hK
def qV (n:Nat) (a0:Form) (w0:List Int):Option (List Int):=
 (jH 8 w0 a0.scopes).bind fun z1=>some z1
theorem GN (n:Nat):∀(a0:Form) (w0:List Int) {r:List Int},qV n a0 w0=some r→aF X.E 57 [aE (ak a0),pl 0] [some (.cells [.vs (.low 1) 1 ((ah w0).length)]),some (.vec 3 1 (ah w0))] (.dO []) [.cells [.vs (.low 1) 1 ((ah r).length)],.vec 3 1 (ah r)]:=by
 intro a0 w0 r h0;rw[qV] at h0;refine .n Tryz.func57 (fun L ks low K hl hL hlen hK=>?_);refine .af [] T [(2,pw 2)] [.o 2 (.cells ((ak a0).map .d))] ?_;obtain⟨z1,hz1,h0⟩:=bnd h0;refine .ao [.sv (ah z1)] (A (A (aI.ap hz1) (rfl:(ah w0).length=(ah w0).length)) T) [] [.c 0 0 (.vs (.low 1) 1 ((ah z1).length)),.o 1 (.vec 3 1 (ah z1))] ?_;cases h0;exact .fin rfl rfl rfl rfl hK
def dR:Nat→Form→(List Int)→Option (List Int)
 | 0,_,_=>none
 | n+1,a0,w0=>(qV n a0 w0).bind fun k1=>Option.bind (dY (fun(s4:List Int) (i3:Nat) (x6:Form)=>(dR n x6 s4).bind fun k11=>some k11) 0 a0.kids k1) (fun(s4:List Int)=>some s4)
theorem sH (n:Nat):∀(a0:Form) (w0:List Int) {r:List Int},dR n a0 w0=some r→aF X.E 56 [aE (ak a0),.clo 57 [] [pl 0]] [some (.cells [.vs (.low 1) 1 ((ah w0).length)]),some (.vec 3 1 (ah w0))] (.dO []) [.cells [.vs (.low 1) 1 ((ah r).length)],.vec 3 1 (ah r)]:=by
 induction n with
 | zero=>intro a0 w0 r h; cases h
 | succ n ih=>
  intro a0 w0 r h0;rw[dR] at h0;refine .n Tryz.func56 (fun L ks low K hl hL hlen hK=>?_);refine .af [] T [(2,pw 2)] [.o 2 (.cells ((ak a0).map .d))] ?_;obtain⟨k1,hk1,h0⟩:=bnd h0;refine .ao [.call [.low 0,.low 1] (.dO []) [.cells [.vs (.low 1) 1 ((ah k1).length)],.vec 3 1 (ah k1)]] (A (GN n _ _ hk1) T) [] [.c 0 0 (.vs (.low 1) 1 ((ah k1).length)),.o 1 (.vec 3 1 (ah k1))] ?_;refine .a [.v (a0.kids.length:Int)] (A (aA.len' a0.kids) T) [(10,lE 5 (aj a0.kids)),(11,iE (a0.kids.length:Int)),(12,iE 0)] ?_;refine .sn 10 aA a0.kids (by kernel_rfl) (fun hb2=>?_);refine .lL h0 rfl [1,10,11] (fun i3 s4=>[(12,iE (i3:Int))]) n2 (fun i3 s4=>[.c 0 0 (.vs (.low 1) 1 ((ah s4).length)),.o 1 (.vec 3 1 (ah s4))]) [] (by kernel_rfl) (fun i3 s4 q5 hd7 hi9 h0=>?_);refine .a [] T [(13,dE ((i3:Int)<(a0.kids.length:Int)))] ?_;refine .lc hd7 rfl (by kernel_rfl) (fun x6 KT iQ hx6 hd8 jo=>?_) (fun iQ=>?_)
  ·subst iQ;obtain⟨y1,h1,hn1⟩:=bZ h0;refine .af [.cs (ak x6)] (A (aA.iU hx6) T) [(5,pw 5)] [.o 5 (.cells ((ak x6).map .d))] ?_;obtain⟨k11,Ap,h1⟩:=bnd h1;refine .ao [.call [.low 0,.low 1] (.dO []) [.cells [.vs (.low 1) 1 ((ah k11).length)],.vec 3 1 (ah k11)]] (A (ih _ _ Ap) T) [] [.c 0 0 (.vs (.low 1) 1 ((ah k11).length)),.o 1 (.vec 3 1 (ah k11))] ?_;refine .a [.v ((i3+1:Nat):Int)] (A (wn (i:=i3) (by omega)) T) [(12,iE ((i3+1:Nat):Int))] ?_;cases h1;refine .kp [1,10,11,12] [] ?_;refine .dr 5 (by kernel_rfl) ?_;exact .nL rfl (i3+1) _ hd8 jo hn1 [] (by kernel_rfl)
  ·subst iQ;have h0:=dN h0;cases h0;exact .fin rfl rfl rfl rfl hK
def kZ (n:Nat) (a0:List Int):Option (List Int):=some (Lib.compact a0)
theorem yJ (n:Nat):∀(a0:List Int) {r:List Int},kZ n a0=some r→aF X.E 59 [.vs (.low 0) 1 ((ah a0).length)] [some (.vec 3 1 (ah a0))] (lE 1 (ah r)) [.tok 9223372036854775808 3]:=by
 intro a0 r h0;cases h0;exact aF.ad7 Tryz.func59 rfl rfl (Lib.compact_length_le a0) (fun _ p cap w=>Tryz.slices_Compact_int_empty p cap w) (fun b cap w hc hm hH hb=>(Tryz.slices_Compact_int b 0 cap a0 w hH hm hc).mono (by rintro e w' ⟨rfl,q,rfl⟩; exact⟨rfl,xk.pre (.abT w q b _ hb)⟩))
def kL (n:Nat) (a0:List Int):Option (List Int):=if a0.length<4611686018427387904 then some (a0.mergeSort fun x y=>decide (x≤y)) else none
theorem Cb (n:Nat):∀(a0:List Int) {r:List Int},kL n a0=some r→aF X.E 58 [.vs (.low 0) 1 ((ah a0).length)] [some (.vec 3 1 (ah a0))] (.dO []) [.vec 3 1 (ah r)]:=by
 intro a0 r h0;rw[kL] at h0;split at h0
 ·rename_i hlt; cases h0; exact aF.row Tryz.func58 rfl rfl (by simp) (fun _ p cap w=>Tryz.slices_Sort_int_none p cap w) (fun b cap w _ hH hb=>(Tryz.slices_Sort_int b 0 cap a0 w hH hb hlt).mono (by rintro e w' ⟨rfl,n,os,rfl⟩; exact⟨rfl,.Zg w n b _ os hb⟩))
 ·cases h0
def rG (n:Nat) (a0:Form):Option (List Int):=
 (lQ n a0).bind fun k1=>(if(!k1)=true then some [] else(dR n a0 []).bind fun k3=>(kL n k3).bind fun k4=>(WO k4 k3.length).bind fun u5=>(kZ n k4).bind fun k7=>some k7)
theorem KU (n:Nat):∀(a0:Form) {r:List Int},rG n a0=some r→aF X.E 40 [aE (ak a0)] [] (lE 1 (ah r)) []:=by
 intro a0 r h0;rw[rG] at h0;refine .n Tryz.func40 (fun L ks low K hl hL hlen hK=>?_);refine .af [] T [(1,pw 1)] [.o 1 (.cells ((ak a0).map .d))] ?_;refine .af [.sv (ah [])] (A (aI.lit []) T) [(3,pw 3)] [.o 3 (.cells [fE 1 (ah [])])] ?_;obtain⟨k1,hk1,h0⟩:=bnd h0;refine .a [.call [] (bE k1) []] (A (uO n _ hk1) T) [(7,bE (!k1))] ?_;refine .jT h0 (fun hc2 h0=>?_) (fun hc2 h0=>?_)
 ·refine .a [] T [(2,fE 1 (ah []))] ?_;cases h0;exact .rt hK
 ·refine .ov 3 0 400300 3 (by kernel_rfl) ?_;obtain⟨k3,hk3,h0⟩:=bnd h0;refine .af [.call [.own 3,.own 400300] (.dO []) [.cells [.vs (.low 1) 1 ((ah k3).length)],.vec 3 1 (ah k3)]] (A (sH n _ _ hk3) T) [] [.c 3 0 (.vs (.own 400300) 1 ((ah k3).length)),.o 400300 (.vec 3 1 (ah k3))] ?_;obtain⟨k4,hk4,h0⟩:=bnd h0;obtain⟨u5,hu5,h0⟩:=bnd h0;refine .af [.call [.own 400300] (.dO []) [.vec 3 1 (ah k4)]] (A (Cb n _ hk4) T) [] [.c 3 0 (.vs (.own 400300) 1 ((ah k3).length)),.o 400300 (.vec 3 1 (ah k4))] ?_;refine .rn (by rw[aI.length,aI.length]; exact(abR hu5).symm:(ah k3).length=(ah k4).length) (fun nk6=>[]) (fun nk6=>[.c 3 0 (.vs (.own 400300) 1 nk6)]) (fun nk6=>[]) (by kernel_rfl) ?_;obtain⟨k7,MJ,h0⟩:=bnd h0;refine .af [.call [.own 400300] (lE 1 (ah k7)) [.tok 9223372036854775808 3]] (A (yJ n _ MJ) T) [(2,lE 1 (ah k7))] [.o 400300 (.tok 9223372036854775808 3)] ?_;cases h0;exact .rt hK
def slices_Equal_int (n:Nat) (a0:List Int) (a1:List Int):Option (Bool):=
 (if ¬(a0.length:Int)=(a1.length:Int) then some false else bH (bV (fun(s5:Unit) (i4:Nat) (x7:Int)=>((gQ a1 (i4:Int)).bind fun e12=>(if ¬x7=e12 then some (Sum.inl false) else some (Sum.inr ())):Option (Bool⊕Unit))) 0 a0 ()) (fun(s5:Unit)=>some true))
theorem iP (n:Nat):∀(a0:List Int) (a1:List Int) {r:Bool},slices_Equal_int n a0 a1=some r→aF X.E 60 [lE 1 (ah a0),lE 1 (ah a1)] [] (bE r) []:=by
 intro a0 a1 r h0;rw[slices_Equal_int] at h0;refine .n Tryz.func60 (fun L ks low K hl hL hlen hK=>?_);refine .a [] T [] ?_;refine .a [.v (a0.length:Int),.v (a1.length:Int)] (A (aI.len' a0) (A (aI.len' a1) T)) [(10,dE (¬(a0.length:Int)=(a1.length:Int)))] ?_;refine .sn 0 aI a0 (by kernel_rfl) (fun hb1=>?_);refine .sn 1 aI a1 (by kernel_rfl) (fun hb2=>?_);refine .jP h0 (fun hc3 h0=>?_) (fun hc3 h0=>?_)
 ·refine .a [] T [(4,bE false)] ?_;cases h0;exact .rt hK
 ·refine .a [.v (a0.length:Int)] (A (aI.len' a0) T) [(12,iE (a0.length:Int)),(13,iE 0)] ?_;refine .lI h0 rfl [0,1,12] (fun i4 s5=>[(13,iE (i4:Int))]) n2 n2 [] (by kernel_rfl) (fun i4 s5 q6 hd8 ZB h0=>?_);refine .a [] T [(14,dE ((i4:Int)<(a0.length:Int)))] ?_;refine .lc hd8 rfl (by kernel_rfl) (fun x7 q62 bI hx7 hd9 JE=>?_) (fun bI=>?_)
  ·subst bI;obtain⟨y1,h1,hw1,hn1⟩:=bf h0;refine .a [] T [(5,iE (i4:Int))] ?_;obtain⟨e12,yK,h1⟩:=bnd h1;refine .ad mixed [(2,[.cs [.v (.int .i64 x7)]]),(6,[.cs [.v (.int .i64 e12)]])] [] (A (aI.iU hx7) (A (aI.idx yK) T)) [(24,dE (¬x7=e12))] [] [] ?_;refine .jP h1 (fun hc13 h1=>?_) (fun hc13 h1=>?_)
   ·refine .a [] T [(4,bE false)] ?_;cases h1;cases hw1 _ rfl;exact .rt hK
   ·refine .a [.v ((i4+1:Nat):Int)] (A (wn (i:=i4) (by omega)) T) [(13,iE ((i4+1:Nat):Int))] ?_;cases h1;exact .nL rfl (i4+1) _ hd9 JE (hn1 _ rfl) [] (by kernel_rfl)
  ·subst bI;have h0:=bM h0;refine .a [] T [(4,bE true)] ?_;cases h0;exact .rt hK
mutual
def jI:Nat→Form→Form→Option (Bool)
 | 0,_,_=>none
 | n+1,a0,a1=>Option.bind ((if a0.kind=a1.kind then(if a0.name=a1.name then(if a0.n=a1.n then(slices_Equal_int n a0.scopes a1.scopes).bind fun k5=>(if k5=true then(bg n a0.kids a1.kids).bind fun k7=>some k7 else some false) else some false) else some false) else some false):Option (Bool)) (fun(o1:Bool)=>some o1)
def bg:Nat→(List Form)→(List Form)→Option (Bool)
 | 0,_,_=>none
 | n+1,a0,a1=>(if ¬(a0.length:Int)=(a1.length:Int) then some false else bH (bV (fun(s5:Unit) (i4:Nat) (x7:Form)=>((gQ a1 (i4:Int)).bind fun e12=>(jI n x7 e12).bind fun k13=>(if(!k13)=true then some (Sum.inl false) else some (Sum.inr ())):Option (Bool⊕Unit))) 0 a0 ()) (fun(s5:Unit)=>some true))
end
theorem C9 (n:Nat):(∀(a0:Form) (a1:Form) {r:Bool},jI n a0 a1=some r→aF X.E 44 [aE (ak a0),aE (ak a1)] [] (bE r) [])∧(∀(a0:List Form) (a1:List Form) {r:Bool},bg n a0 a1=some r→aF X.E 62 [lE 5 (aj a0),lE 5 (aj a1),.clo 44 [] []] [] (bE r) []):=by
 induction n with
 | zero=>exact⟨(by intros; rename_i h; cases h),(by intros; rename_i h; cases h)⟩
 | succ n ih=>
  refine⟨?_,?_⟩
  ·intro a0 a1 r h0;rw[jI] at h0;refine .n Tryz.func44 (fun L ks low K hl hL hlen hK=>?_);refine .af [] T [(2,pw 2),(3,pw 3)] [.o 2 (.cells ((ak a0).map .d)),.o 3 (.cells ((ak a1).map .d))] ?_;refine .bP h0 rfl [] (fun o1=>[(4,bE o1)]) n1 n1 (fun o1 h0=>?_) (fun y1 h1 hj1=>?_)
   ·cases h0;exact .rt hK
   ·by_cases g2:a0.kind=a1.kind
    ·have h1:=aK g2 h1;by_cases g3:a0.name=a1.name
     ·have h1:=aK g3 h1;by_cases g4:a0.n=a1.n
      ·have h1:=aK g4 h1;obtain⟨k5,hk5,h1⟩:=bnd h1;by_cases g6:k5=true
       ·have h1:=aK g6 h1;obtain⟨k7,MJ,h1⟩:=bnd h1;refine .a (rb 17 true (.call [] (bE k5) []::(rb 6 true [.call [] (bE k7) [],.b true]))) (R 6 (dt g2) (R 6 (dt g3) (R 4 (dt g4) (A (A (dt g4) (iP n _ _ hk5)) (A (dt g4) (R 4 g6 (A (A g6 (ih.2 _ _ MJ)) (A g6 T)))))))) [(4,bE k7)] ?_;cases h1;exact .lg hj1 []
       ·have h1:=aN g6 h1;refine .a (rb 17 true (.call [] (bE k5) []::(.b true::(rb 6 false [])))) (R 6 (dt g2) (R 6 (dt g3) (R 4 (dt g4) (A (A (dt g4) (iP n _ _ hk5)) (A (dt g4) (R 6 (Bool.eq_false_iff.2 g6) T)))))) [(4,bE false)] ?_;cases h1;exact .lg hj1 []
      ·have h1:=aN g4 h1;refine .a (rb 12 true (rb 12 false [])) (R 6 (dt g2) (R 6 (dt g3) (R 6 (df g4) (R 6 B0 T)))) [(4,bE false)] ?_;cases h1;exact .lg hj1 []
     ·have h1:=aN g3 h1;refine .a (rb 6 true (rb 18 false [])) (R 6 (dt g2) (R 6 (df g3) (R 12 B0 T))) [(4,bE false)] ?_;cases h1;exact .lg hj1 []
    ·have h1:=aN g2 h1;refine .a (rb 24 false []) (R 6 (df g2) (R 18 B0 T)) [(4,bE false)] ?_;cases h1;exact .lg hj1 []
  ·intro a0 a1 r h0;rw[bg] at h0;refine .n Tryz.func62 (fun L ks low K hl hL hlen hK=>?_);refine .a [] T [] ?_;refine .a [.v (a0.length:Int),.v (a1.length:Int)] (A (aA.len' a0) (A (aA.len' a1) T)) [(14,dE (¬(a0.length:Int)=(a1.length:Int)))] ?_;refine .sn 0 aA a0 (by kernel_rfl) (fun hb1=>?_);refine .sn 1 aA a1 (by kernel_rfl) (fun hb2=>?_);refine .jP h0 (fun hc3 h0=>?_) (fun hc3 h0=>?_)
   ·refine .a [] T [(6,bE false)] ?_;cases h0;exact .rt hK
   ·refine .a [.v (a0.length:Int)] (A (aA.len' a0) T) [(15,lE 5 (aj a0)),(16,iE (a0.length:Int)),(17,iE 0)] ?_;refine .lI h0 rfl [1,2,15,16] (fun i4 s5=>[(17,iE (i4:Int))]) n2 n2 [] (by kernel_rfl) (fun i4 s5 q6 hd8 ZB h0=>?_);refine .a [] T [(18,dE ((i4:Int)<(a0.length:Int)))] ?_;refine .lc hd8 rfl (by kernel_rfl) (fun x7 q62 bI hx7 hd9 JE=>?_) (fun bI=>?_)
    ·subst bI;obtain⟨y1,h1,hw1,hn1⟩:=bf h0;refine .af [.cs (ak x7)] (A (aA.iU hx7) T) [(7,iE (i4:Int)),(8,pw 8)] [.o 8 (.cells ((ak x7).map .d))] ?_;obtain⟨e12,yK,h1⟩:=bnd h1;refine .af [.cs (ak e12)] (A (aA.idx yK) T) [(9,pw 9)] [.o 9 (.cells ((ak e12).map .d))] ?_;obtain⟨k13,oG,h1⟩:=bnd h1;refine .a [.call [] (bE k13) []] (A (ih.1 _ _ oG) T) [(30,bE (!k13))] ?_;refine .jT h1 (fun pW h1=>?_) (fun pW h1=>?_)
     ·refine .a [] T [(6,bE false)] ?_;cases h1;cases hw1 _ rfl;exact .rt hK
     ·refine .a [.v ((i4+1:Nat):Int)] (A (wn (i:=i4) (by omega)) T) [(17,iE ((i4+1:Nat):Int))] ?_;cases h1;refine .kp [1,2,15,16,17] [] ?_;refine .dr 8 (by kernel_rfl) ?_;refine .dr 9 (by kernel_rfl) ?_;exact .nL rfl (i4+1) _ hd9 JE (hn1 _ rfl) [] (by kernel_rfl)
    ·subst bI;have h0:=bM h0;refine .a [] T [(6,bE true)] ?_;cases h0;exact .rt hK
theorem Dc (n:Nat):∀(a0:Form) (a1:Form) {r:Bool},jI n a0 a1=some r→aF X.E 44 [aE (ak a0),aE (ak a1)] [] (bE r) []:=(C9 n).1
theorem zu (n:Nat):∀(a0:List Form) (a1:List Form) {r:Bool},bg n a0 a1=some r→aF X.E 62 [lE 5 (aj a0),lE 5 (aj a1),.clo 44 [] []] [] (bE r) []:=(C9 n).2
mutual
def jJ:Nat→Core→Core→Option (Bool)
 | 0,_,_=>none
 | n+1,a0,a1=>Option.bind ((if a0.kind=a1.kind then(if a0.id=a1.id then(if a0.name=a1.name then(if a0.n=a1.n then(slices_Equal_int n a0.ids a1.ids).bind fun k6=>(if k6=true then(jI n a0.data a1.data).bind fun k8=>(if k8=true then(bn n a0.kids a1.kids).bind fun k10=>some k10 else some false) else some false) else some false) else some false) else some false) else some false):Option (Bool)) (fun(o1:Bool)=>some o1)
def bn:Nat→(List Core)→(List Core)→Option (Bool)
 | 0,_,_=>none
 | n+1,a0,a1=>(if ¬(a0.length:Int)=(a1.length:Int) then some false else bH (bV (fun(s5:Unit) (i4:Nat) (x7:Core)=>((gQ a1 (i4:Int)).bind fun e12=>(jJ n x7 e12).bind fun k13=>(if(!k13)=true then some (Sum.inl false) else some (Sum.inr ())):Option (Bool⊕Unit))) 0 a0 ()) (fun(s5:Unit)=>some true))
end
theorem Df (n:Nat):(∀(a0:Core) (a1:Core) {r:Bool},jJ n a0 a1=some r→aF X.E 42 [aE (aH a0),aE (aH a1)] [] (bE r) [])∧(∀(a0:List Core) (a1:List Core) {r:Bool},bn n a0 a1=some r→aF X.E 61 [lE 11 (aG a0),lE 11 (aG a1),.clo 42 [] []] [] (bE r) []):=by
 induction n with
 | zero=>exact⟨(by intros; rename_i h; cases h),(by intros; rename_i h; cases h)⟩
 | succ n ih=>
  refine⟨?_,?_⟩
  ·intro a0 a1 r h0;rw[jJ] at h0;refine .n Tryz.func42 (fun L ks low K hl hL hlen hK=>?_);refine .af [] T [(2,pw 2),(3,pw 3)] [.o 2 (.cells ((aH a0).map .d)),.o 3 (.cells ((aH a1).map .d))] ?_;refine .bP h0 rfl [] (fun o1=>[(4,bE o1)]) n1 n1 (fun o1 h0=>?_) (fun y1 h1 hj1=>?_)
   ·cases h0;exact .rt hK
   ·by_cases g2:a0.kind=a1.kind
    ·have h1:=aK g2 h1;by_cases g3:a0.id=a1.id
     ·have h1:=aK g3 h1;by_cases g4:a0.name=a1.name
      ·have h1:=aK g4 h1;by_cases g5:a0.n=a1.n
       ·have h1:=aK g5 h1;obtain⟨k6,hk6,h1⟩:=bnd h1;by_cases g7:k6=true
        ·have h1:=aK g7 h1;obtain⟨k8,hk8,h1⟩:=bnd h1;by_cases g9:k8=true
         ·have h1:=aK g9 h1;obtain⟨k10,hk10,h1⟩:=bnd h1;refine .a (rb 23 true (.call [] (bE k6) []::(rb 6 true (.call [] (bE k8) []::(rb 6 true [.call [] (bE k10) [],.b true]))))) (R 6 (dt g2) (R 6 (dt g3) (R 6 (dt g4) (R 4 (dt g5) (A (A (dt g5) (iP n _ _ hk6)) (A (dt g5) (R 4 g7 (A (A g7 (Dc n _ _ hk8)) (A g7 (R 4 g9 (A (A g9 (ih.2 _ _ hk10)) (A g9 T)))))))))))) [(4,bE k10)] ?_;cases h1;exact .lg hj1 []
         ·have h1:=aN g9 h1;refine .a (rb 23 true (.call [] (bE k6) []::(rb 6 true (.call [] (bE k8) []::(.b true::(rb 6 false [])))))) (R 6 (dt g2) (R 6 (dt g3) (R 6 (dt g4) (R 4 (dt g5) (A (A (dt g5) (iP n _ _ hk6)) (A (dt g5) (R 4 g7 (A (A g7 (Dc n _ _ hk8)) (A g7 (R 6 (Bool.eq_false_iff.2 g9) T)))))))))) [(4,bE false)] ?_;cases h1;exact .lg hj1 []
        ·have h1:=aN g7 h1;refine .a (rb 23 true (.call [] (bE k6) []::(.b true::(rb 12 false [])))) (R 6 (dt g2) (R 6 (dt g3) (R 6 (dt g4) (R 4 (dt g5) (A (A (dt g5) (iP n _ _ hk6)) (A (dt g5) (R 6 (Bool.eq_false_iff.2 g7) (R 6 B0 T)))))))) [(4,bE false)] ?_;cases h1;exact .lg hj1 []
       ·have h1:=aN g5 h1;refine .a (rb 18 true (rb 18 false [])) (R 6 (dt g2) (R 6 (dt g3) (R 6 (dt g4) (R 6 (df g5) (R 12 B0 T))))) [(4,bE false)] ?_;cases h1;exact .lg hj1 []
      ·have h1:=aN g4 h1;refine .a (rb 12 true (rb 24 false [])) (R 6 (dt g2) (R 6 (dt g3) (R 6 (df g4) (R 18 B0 T)))) [(4,bE false)] ?_;cases h1;exact .lg hj1 []
     ·have h1:=aN g3 h1;refine .a (rb 6 true (rb 30 false [])) (R 6 (dt g2) (R 6 (df g3) (R 24 B0 T))) [(4,bE false)] ?_;cases h1;exact .lg hj1 []
    ·have h1:=aN g2 h1;refine .a (rb 36 false []) (R 6 (df g2) (R 30 B0 T)) [(4,bE false)] ?_;cases h1;exact .lg hj1 []
  ·intro a0 a1 r h0;rw[bn] at h0;refine .n Tryz.func61 (fun L ks low K hl hL hlen hK=>?_);refine .a [] T [] ?_;refine .a [.v (a0.length:Int),.v (a1.length:Int)] (A (bK.len' a0) (A (bK.len' a1) T)) [(14,dE (¬(a0.length:Int)=(a1.length:Int)))] ?_;refine .sn 0 bK a0 (by kernel_rfl) (fun hb1=>?_);refine .sn 1 bK a1 (by kernel_rfl) (fun hb2=>?_);refine .jP h0 (fun hc3 h0=>?_) (fun hc3 h0=>?_)
   ·refine .a [] T [(6,bE false)] ?_;cases h0;exact .rt hK
   ·refine .a [.v (a0.length:Int)] (A (bK.len' a0) T) [(15,lE 11 (aG a0)),(16,iE (a0.length:Int)),(17,iE 0)] ?_;refine .lI h0 rfl [1,2,15,16] (fun i4 s5=>[(17,iE (i4:Int))]) n2 n2 [] (by kernel_rfl) (fun i4 s5 q6 hd8 ZB h0=>?_);refine .a [] T [(18,dE ((i4:Int)<(a0.length:Int)))] ?_;refine .lc hd8 rfl (by kernel_rfl) (fun x7 q62 bI hx7 hd9 JE=>?_) (fun bI=>?_)
    ·subst bI;obtain⟨y1,h1,hw1,hn1⟩:=bf h0;refine .af [.cs (aH x7)] (A (bK.iU hx7) T) [(7,iE (i4:Int)),(8,pw 8)] [.o 8 (.cells ((aH x7).map .d))] ?_;obtain⟨e12,yK,h1⟩:=bnd h1;refine .af [.cs (aH e12)] (A (bK.idx yK) T) [(9,pw 9)] [.o 9 (.cells ((aH e12).map .d))] ?_;obtain⟨k13,oG,h1⟩:=bnd h1;refine .a [.call [] (bE k13) []] (A (ih.1 _ _ oG) T) [(30,bE (!k13))] ?_;refine .jT h1 (fun pW h1=>?_) (fun pW h1=>?_)
     ·refine .a [] T [(6,bE false)] ?_;cases h1;cases hw1 _ rfl;exact .rt hK
     ·refine .a [.v ((i4+1:Nat):Int)] (A (wn (i:=i4) (by omega)) T) [(17,iE ((i4+1:Nat):Int))] ?_;cases h1;refine .kp [1,2,15,16,17] [] ?_;refine .dr 8 (by kernel_rfl) ?_;refine .dr 9 (by kernel_rfl) ?_;exact .nL rfl (i4+1) _ hd9 JE (hn1 _ rfl) [] (by kernel_rfl)
    ·subst bI;have h0:=bM h0;refine .a [] T [(6,bE true)] ?_;cases h0;exact .rt hK
theorem KW (n:Nat):∀(a0:Core) (a1:Core) {r:Bool},jJ n a0 a1=some r→aF X.E 42 [aE (aH a0),aE (aH a1)] [] (bE r) []:=(Df n).1
theorem zx (n:Nat):∀(a0:List Core) (a1:List Core) {r:Bool},bn n a0 a1=some r→aF X.E 61 [lE 11 (aG a0),lE 11 (aG a1),.clo 42 [] []] [] (bE r) []:=(Df n).2
def slices_Clone_int (n:Nat) (a0:List Int):Option (List Int):=
 (jH 8 [] a0).bind fun z1=>some z1
theorem DI (n:Nat):∀(a0:List Int) {r:List Int},slices_Clone_int n a0=some r→aF X.E 41 [lE 1 (ah a0)] [] (lE 1 (ah r)) []:=by
 intro a0 r h0;rw[slices_Clone_int] at h0;refine .m Tryz.func41 rfl rfl rfl (by kernel_rfl) (fun L ks low K hl hL hlen hK=>?_);refine .r [] T [] rfl (by kernel_rfl) ?_;refine .nq rfl (by kernel_rfl) rfl rfl (fun e=>?_) ?_
 ·have e:a0=[]:=by cases a0 with
   | nil=>rfl
   | cons x q=>rw[aI.eq] at e; cases e
  subst e;have e:r=[]:=by simp[jH] at h0; exact h0
  subst e;refine .cB true rfl (by kernel_rfl) ?_;refine .r [] T [(2,fE 1 (ah []))] rfl (by kernel_rfl) ?_;refine .kp [2] [] ?_;refine .owV 2 400002 3 [] rfl rfl (by kernel_rfl) ?_;refine .ft 2 400002 [] aI [] rfl (by kernel_rfl) ?_;exact .ret rfl rfl (by kernel_rfl) hK
 ·refine .cB false rfl (by kernel_rfl) ?_;obtain⟨z1,hz1,h0⟩:=bnd h0;refine .rf [.sv (ah []),.mv 7,.sv (ah z1)] (A (aI.lit []) (A (aI.ap0 hz1) T)) [(2,.vs (.own 100007) 1 (ah z1).length)] [.o 100007 (.vec 3 1 (ah z1))] rfl (by kernel_rfl) ?_;refine .kp [2] [] ?_;cases h0;refine .ft 2 100007 [] aI r rfl (by kernel_rfl) ?_;exact .ret rfl rfl (by kernel_rfl) hK
def slices_Index_int (n:Nat) (a0:List Int) (a1:Int):Option (Int):=
 bH (bV (fun(s3:Unit) (i2:Nat) (x5:Int)=>((if a1=x5 then some (Sum.inl (i2:Int)) else some (Sum.inr ())):Option (Int⊕Unit))) 0 a0 ()) (fun(s3:Unit)=>some (-1))
theorem DJ (n:Nat):∀(a0:List Int) (a1:Int) {r:Int},slices_Index_int n a0 a1=some r→aF X.E 53 [lE 1 (ah a0),iE a1] [] (iE r) []:=by
 intro a0 a1 r h0;rw[slices_Index_int] at h0;refine .n Tryz.func53 (fun L ks low K hl hL hlen hK=>?_);refine .a [] T [] ?_;refine .a [.v (a0.length:Int)] (A (aI.len' a0) T) [(7,iE (a0.length:Int)),(8,iE 0)] ?_;refine .sn 0 aI a0 (by kernel_rfl) (fun hb1=>?_);refine .lI h0 rfl [0,1,7] (fun i2 s3=>[(8,iE (i2:Int))]) n2 n2 [] (by kernel_rfl) (fun i2 s3 q4 hd6 hi8 h0=>?_);refine .a [] T [(9,dE ((i2:Int)<(a0.length:Int)))] ?_;refine .lc hd6 rfl (by kernel_rfl) (fun x5 q42 gJ hx5 hd7 Ak=>?_) (fun gJ=>?_)
 ·subst gJ;obtain⟨y1,h1,hw1,hn1⟩:=bf h0;refine .a [] T [(5,iE (i2:Int))] ?_;refine .a [.cs [.v (.int .i64 x5)]] (A (aI.iU hx5) T) [(16,dE (a1=x5))] ?_;refine .jP h1 (fun iQ h1=>?_) (fun iQ h1=>?_)
  ·refine .a [] T [(4,iE (i2:Int))] ?_;cases h1;cases hw1 _ rfl;exact .rt hK
  ·refine .a [.v ((i2+1:Nat):Int)] (A (wn (i:=i2) (by omega)) T) [(8,iE ((i2+1:Nat):Int))] ?_;cases h1;exact .nL rfl (i2+1) _ hd7 Ak (hn1 _ rfl) [] (by kernel_rfl)
 ·subst gJ;have h0:=bM h0;refine .a [] T [(4,iE (-1))] ?_;cases h0;exact .rt hK
def slices_Contains_int (n:Nat) (a0:List Int) (a1:Int):Option (Bool):=
 (slices_Index_int n a0 a1).bind fun k1=>some (decide (k1≥0))
theorem zJ (n:Nat):∀(a0:List Int) (a1:Int) {r:Bool},slices_Contains_int n a0 a1=some r→aF X.E 37 [lE 1 (ah a0),iE a1] [] (bE r) []:=by
 intro a0 a1 r h0;rw[slices_Contains_int] at h0;refine .n Tryz.func37 (fun L ks low K hl hL hlen hK=>?_);refine .a [] T [] ?_;obtain⟨k1,hk1,h0⟩:=bnd h0;refine .a [.call [] (iE k1) []] (A (DJ n _ _ hk1) T) [(4,dE (k1≥0))] ?_;cases h0;exact .rt hK
def oH (n:Nat) (a0:List Int) (a1:Int):Option (Int):=
 bH (bV (fun(s3:Unit) (i2:Nat) (x5:Int)=>((if a1=x5 then some (Sum.inl (i2:Int)) else some (Sum.inr ())):Option (Int⊕Unit))) 0 a0 ()) (fun(s3:Unit)=>some (-1))
theorem Aq (n:Nat):∀(a0:List Int) (a1:Int) {r:Int},oH n a0 a1=some r→aF X.E 53 [.vs (.low 0) 1 ((ah a0).length),iE a1] [some (.vec 3 1 (ah a0))] (iE r) [.vec 3 1 (ah a0)]:=by
 intro a0 a1 r h0;rw[oH] at h0;refine .n Tryz.func53 (fun L ks low K hl hL hlen hK=>?_);refine .a [] T [] ?_;refine .a [.v (a0.length:Int)] (A (aI.len' a0) T) [(7,iE (a0.length:Int)),(8,iE 0)] ?_;refine .snV 0 aI a0 (by kernel_rfl) (fun hb1=>?_);refine .lI h0 rfl [0,1,7] (fun i2 s3=>[(8,iE (i2:Int))]) n2 n2 [] (by kernel_rfl) (fun i2 s3 q4 hd6 hi8 h0=>?_);refine .a [] T [(9,dE ((i2:Int)<(a0.length:Int)))] ?_;refine .lc hd6 rfl (by kernel_rfl) (fun x5 q42 gJ hx5 hd7 Ak=>?_) (fun gJ=>?_)
 ·subst gJ;obtain⟨y1,h1,hw1,hn1⟩:=bf h0;refine .a [] T [(5,iE (i2:Int))] ?_;refine .a [.cs [.v (.int .i64 x5)]] (A (A (aI.inv (Jm hx5) (rfl:(ah a0).length=(ah a0).length)) (rfl:(ah a0).length=(ah a0).length)) (A (A (A (aI.rows a0) (aI.GK hx5)) (rfl:(ah a0).length=(ah a0).length)) T)) [(16,dE (a1=x5))] ?_;refine .jP h1 (fun iQ h1=>?_) (fun iQ h1=>?_)
  ·refine .a [] T [(4,iE (i2:Int))] ?_;cases h1;cases hw1 _ rfl;exact .rt hK
  ·refine .a [.v ((i2+1:Nat):Int)] (A (wn (i:=i2) (by omega)) T) [(8,iE ((i2+1:Nat):Int))] ?_;cases h1;exact .nL rfl (i2+1) _ hd7 Ak (hn1 _ rfl) [] (by kernel_rfl)
 ·subst gJ;have h0:=bM h0;refine .a [] T [(4,iE (-1))] ?_;cases h0;exact .rt hK
def fG (n:Nat) (a0:List Int) (a1:Int):Option (Bool):=
 (oH n a0 a1).bind fun k1=>some (decide (k1≥0))
theorem xu (n:Nat):∀(a0:List Int) (a1:Int) {r:Bool},fG n a0 a1=some r→aF X.E 37 [.vs (.low 0) 1 ((ah a0).length),iE a1] [some (.vec 3 1 (ah a0))] (bE r) [.vec 3 1 (ah a0)]:=by
 intro a0 a1 r h0;rw[fG] at h0;refine .n Tryz.func37 (fun L ks low K hl hL hlen hK=>?_);refine .a [] T [] ?_;obtain⟨k1,hk1,h0⟩:=bnd h0;refine .a [.call [.low 0] (iE k1) [.vec 3 1 (ah a0)]] (A (Aq n _ _ hk1) T) [(4,dE (k1≥0))] ?_;cases h0;exact .rt hK
theorem rH (n:Nat):∀(a0:List Int) {r:List Int},slices_Clone_int n a0=some r→aF X.E 41 [lE 1 (ah a0)] [none] (.vs (.low 0) 1 ((ah r).length)) [.vec 3 1 (ah r)]:=by
 intro a0 r h0;rw[slices_Clone_int] at h0;refine .m Tryz.func41 rfl rfl rfl (by kernel_rfl) (fun L ks low K hl hL hlen hK=>?_);refine .r [] T [] rfl (by kernel_rfl) ?_;refine .nq rfl (by kernel_rfl) rfl rfl (fun e=>?_) ?_
 ·have e:a0=[]:=by cases a0 with
   | nil=>rfl
   | cons x q=>rw[aI.eq] at e; cases e
  subst e;have e:r=[]:=by simp[jH] at h0; exact h0
  subst e;refine .cB true rfl (by kernel_rfl) ?_;refine .r [] T [(2,fE 1 (ah []))] rfl (by kernel_rfl) ?_;refine .kp [2] [] ?_;refine .owV 2 400002 3 [] rfl rfl (by kernel_rfl) ?_;refine .mv 2 400002 0 [] (by kernel_rfl) ?_;exact .ret rfl rfl (by kernel_rfl) hK
 ·refine .cB false rfl (by kernel_rfl) ?_;obtain⟨z1,hz1,h0⟩:=bnd h0;refine .rf [.sv (ah []),.mv 7,.sv (ah z1)] (A (aI.lit []) (A (aI.ap0 hz1) T)) [(2,.vs (.own 100007) 1 (ah z1).length)] [.o 100007 (.vec 3 1 (ah z1))] rfl (by kernel_rfl) ?_;refine .kp [2] [] ?_;cases h0;refine .mv 2 100007 0 [] (by kernel_rfl) ?_;exact .ret rfl rfl (by kernel_rfl) hK
def tV:Nat→Core→(List Int)→Int→Int→Option (Bool×Int)
 | 0,_,_,_,_=>none
 | n+1,a0,a1,a2,w0=>Option.bind ((if(aY (w0-1))<0 then some true else some (decide (a2>120))):Option (Bool)) (fun(o1:Bool)=>(if o1=true then some (false,(aY (w0-1))) else bH ((if a0.kind=1 then Option.bind ((iV n a0.id 1 999).bind fun k22=>(if(!k22)=true then some true else(slices_Contains_int n a1 a0.id).bind fun k24=>some (!k24)):Option (Bool)) (fun(o20:Bool)=>(if o20=true then some (Sum.inl (false,(aY (w0-1)))) else some (Sum.inr (0,a1,a0.id,[],0,[],0,[],0,[],[])))) else(if a0.kind=2 then(lN n a0.name).bind fun k26=>(if(!k26)=true then some (Sum.inl (false,(aY (w0-1)))) else some (Sum.inr (0,a1,0,a0.name,0,[],0,[],0,[],[]))) else(if a0.kind=3 then(iV n a0.n 0 999).bind fun k29=>(if(!k29)=true then some (Sum.inl (false,(aY (w0-1)))) else some (Sum.inr (0,a1,0,[],a0.n,[],0,[],0,[],[]))) else(if a0.kind=4 then Option.bind ((lQ n a0.data).bind fun k34=>(if(!k34)=true then some true else(rG n a0.data).bind fun ZC=>some (decide ((ZC.length:Int)>0))):Option (Bool)) (fun(o32:Bool)=>(if o32=true then some (Sum.inl (false,(aY (w0-1)))) else some (Sum.inr (0,a1,0,[],0,[],a0.data.kind,a0.data.name,a0.data.n,a0.data.scopes,a0.data.kids)))) else(if a0.kind=5 then(slices_Clone_int n a1).bind fun k38=>bH (bV (fun(KX:List Int) (i40:Nat) (x43:Int)=>(Option.bind ((iV n x43 1 999).bind fun k51=>(if(!k51)=true then some true else(fG n KX x43).bind fun k53=>some k53):Option (Bool)) (fun(o48:Bool)=>(if o48=true then some (Sum.inl (Sum.inl (false,(aY (w0-1))))) else(jH 8 KX [x43]).bind fun z50=>some (Sum.inr z50))):Option (((Bool×Int)⊕(Int×(List Int)×Int×(List UInt8)×Int×(List Int)×Int×(List UInt8)×Int×(List Int)×(List Form)))⊕(List Int)))) 0 a0.ids k38) (fun(KX:List Int)=>some (Sum.inr (1,KX,0,[],0,a0.ids,0,[],0,[],[]))) else(if a0.kind=6 then some (Sum.inr ((if(a0.kids.length:Int)>1 then(a0.kids.length:Int) else 1),a1,0,[],0,[],0,[],0,[],[])) else(if a0.kind=7 then some (Sum.inr (3,a1,0,[],0,[],0,[],0,[],[])) else some (Sum.inl (false,(aY (w0-1))))))))))):Option ((Bool×Int)⊕(Int×(List Int)×Int×(List UInt8)×Int×(List Int)×Int×(List UInt8)×Int×(List Int)×(List Form)))) (fun(o3:Int×(List Int)×Int×(List UInt8)×Int×(List Int)×Int×(List UInt8)×Int×(List Int)×(List Form))=>Option.bind ((if ¬(a0.kids.length:Int)=o3.1 then some true else(jJ n a0 (⟨a0.kind,o3.2.2.1,o3.2.2.2.1,o3.2.2.2.2.1,o3.2.2.2.2.2.1,(⟨o3.2.2.2.2.2.2.1,o3.2.2.2.2.2.2.2.1,o3.2.2.2.2.2.2.2.2.1,o3.2.2.2.2.2.2.2.2.2.1,o3.2.2.2.2.2.2.2.2.2.2⟩:Form),a0.kids⟩:Core)).bind fun k18=>some (!k18)):Option (Bool)) (fun(o4:Bool)=>(if o4=true then some (false,(aY (w0-1))) else bH (bV (fun(s8:Int) (i7:Nat) (x10:Core)=>((tV n x10 o3.2.1 (aY (a2+1)) s8).bind fun k15=>(if(!k15.1)=true then some (Sum.inl (false,k15.2)) else some (Sum.inr k15.2)):Option ((Bool×Int)⊕Int))) 0 a0.kids (aY (w0-1))) (fun(s8:Int)=>some (true,s8)))))))
theorem QC (n:Nat):∀(a0:Core) (a1:List Int) (a2:Int) (w0:Int) {r:Bool×Int},tV n a0 a1 a2 w0=some r→aF X.E 24 [aE (aH a0),lE 1 (ah a1),iE a2,pl 0] [some (.cells [iE w0])] (bE r.1) [.cells [iE r.2]]:=by
 induction n with
 | zero=>intro a0 a1 a2 w0 r h; cases h
 | succ n ih=>
  intro a0 a1 a2 w0 r h0;rw[tV] at h0;refine .n Tryz.func24 (fun L ks low K hl hL hlen hK=>?_);refine .af [] T [(4,pw 4)] [.o 4 (.cells ((aH a0).map .d))] ?_;refine .ao [.pl] T [] [.c 0 0 (iE (aY (w0-1)))] ?_;refine .bP h0 rfl [1,2,3,4] (fun o1=>[(28,bE o1)]) n1 n1 (fun o1 h0=>?_) (fun y1 h1 hj1=>?_)
  ·refine .jT h0 (fun hc2 h0=>?_) (fun hc2 h0=>?_)
   ·refine .a [] T [(8,bE false)] ?_;cases h0;exact .rt hK
   ·refine .af [] T [(9,pw 9),(10,iE 0),(11,lE 1 (ah a1))] [.o 9 (.cells [iE a0.kind,iE 0,sE [],iE 0,fE 1 (ah []),iE 0,sE [],iE 0,fE 1 (ah []),fE 5 (aj []),lE 11 (aG a0.kids)])] ?_;refine .a [] T [(36,iE a0.kind)] ?_;refine .bSB h0 rfl [2,3,4,9] (fun o3=>[(10,iE o3.1),(11,lE 1 (ah o3.2.1))]) (fun o3=>[.o 9 (.cells [iE a0.kind,iE o3.2.2.1,sE o3.2.2.2.1,iE o3.2.2.2.2.1,lE 1 (ah o3.2.2.2.2.2.1),iE o3.2.2.2.2.2.2.1,sE o3.2.2.2.2.2.2.2.1,iE o3.2.2.2.2.2.2.2.2.1,lE 1 (ah o3.2.2.2.2.2.2.2.2.2.1),lE 5 (aj o3.2.2.2.2.2.2.2.2.2.2),lE 11 (aG a0.kids)])]) n1 (fun o3 h0=>?_) (fun y1 h1 hj1 hw1=>?_)
    ·refine .bP h0 rfl [2,3,4,11] (fun o4=>[(132,bE o4)]) n1 n1 (fun o4 h0=>?_) (fun y1 h1 hj1=>?_)
     ·refine .jT h0 (fun hc5 h0=>?_) (fun hc5 h0=>?_)
      ·refine .a [] T [(8,bE false)] ?_;cases h0;exact .rt hK
      ·refine .a [.v (a0.kids.length:Int)] (A (bK.len' a0.kids) T) [(134,lE 11 (aG a0.kids)),(135,iE (a0.kids.length:Int)),(136,iE 0)] ?_;refine .sn 134 bK a0.kids (by kernel_rfl) (fun hb6=>?_);refine .lI h0 rfl [2,3,11,134,135] (fun i7 s8=>[(136,iE (i7:Int))]) n2 (fun i7 s8=>[.c 0 0 (iE s8)]) [] (by kernel_rfl) (fun i7 s8 q9 hd11 alL h0=>?_);refine .a [] T [(137,dE ((i7:Int)<(a0.kids.length:Int)))] ?_;refine .lc hd11 rfl (by kernel_rfl) (fun x10 q92 pW ai6 ai7 agJ=>?_) (fun pW=>?_)
       ·subst pW;obtain⟨y1,h1,hw1,hn1⟩:=bf h0;refine .af [.cs (aH x10)] (A (bK.iU ai6) T) [(15,pw 15)] [.o 15 (.cells ((aH x10).map .d))] ?_;obtain⟨k15,uP,h1⟩:=bnd h1;refine .ao [.pl,.call [.low 0] (bE k15.1) [.cells [iE k15.2]]] (A (ih _ _ _ _ uP) T) [(146,bE (!k15.1))] [.c 0 0 (iE k15.2)] ?_;refine .jT h1 (fun hc16 h1=>?_) (fun hc16 h1=>?_)
        ·refine .a [] T [(8,bE false)] ?_;cases h1;cases hw1 _ rfl;exact .rt hK
        ·refine .a [.v ((i7+1:Nat):Int)] (A (wn (i:=i7) (by omega)) T) [(136,iE ((i7+1:Nat):Int))] ?_;cases h1;refine .kp [2,3,11,134,135,136] [] ?_;refine .dr 15 (by kernel_rfl) ?_;exact .nL rfl (i7+1) _ ai7 agJ (hn1 _ rfl) [] (by kernel_rfl)
       ·subst pW;have h0:=bM h0;refine .a [] T [(8,bE true)] ?_;cases h0;exact .rt hK
     ·by_cases g17:¬(a0.kids.length:Int)=o3.1
      ·have h1:=aK g17 h1;refine .a (.v (a0.kids.length:Int)::(rb 5 true [])) (A (bK.len' a0.kids) (R 5 (dt g17) T)) [(132,bE true)] ?_;cases h1;exact .lg hj1 []
      ·have h1:=aN g17 h1;obtain⟨k18,ql,h1⟩:=bnd h1;refine .a (.v (a0.kids.length:Int)::(rb 3 false [.call [] (bE k18) [],.b false,.b false])) (A (bK.len' a0.kids) (R 2 (df g17) (A (A (df g17) (KW n _ _ ql)) (R 2 (df g17) T)))) [(132,bE (!k18))] ?_;cases h1;exact .lg hj1 []
    ·refine .a [] T [(37,dE (a0.kind=1))] ?_;refine .jP h1 (fun hc19 h1=>?_) (fun hc19 h1=>?_)
     ·refine .af [] T [] [.c 9 1 (iE a0.id)] ?_;refine .bP h1 rfl [2,3,4,9,10,11] (fun o20=>[(52,bE o20)]) n1 n1 (fun o20 h1=>?_) (fun y2 h2 hj2=>?_)
      ·refine .jT h1 (fun hc21 h1=>?_) (fun hc21 h1=>?_)
       ·refine .a [] T [(8,bE false)] ?_;cases h1;cases hw1 _ rfl;exact .rt hK
       ·cases h1;refine .fg 9 [4,8,9] ?_;exact .lg (hj1 _ rfl) []
      ·obtain⟨k22,JF,h2⟩:=bnd h2;by_cases g23:(!k22)=true
       ·have h2:=aK g23 h2;refine .a (.call [] (bE k22) []::(rb 6 true [])) (A (gI n _ _ _ JF) (R 6 g23 T)) [(52,bE true)] ?_;cases h2;exact .lg hj2 []
       ·have h2:=aN g23 h2;obtain⟨k24,FD,h2⟩:=bnd h2;refine .a (.call [] (bE k22) []::(rb 4 false [.call [] (bE k24) [],.b false,.b false])) (A (gI n _ _ _ JF) (R 3 (Bool.eq_false_iff.2 g23) (A (A (Bool.eq_false_iff.2 g23) (zJ n _ _ FD)) (R 2 (Bool.eq_false_iff.2 g23) T)))) [(52,bE (!k24))] ?_;cases h2;exact .lg hj2 []
     ·refine .a [] T [(53,dE (a0.kind=2))] ?_;refine .jP h1 (fun hc25 h1=>?_) (fun hc25 h1=>?_)
      ·refine .af [] T [] [.c 9 2 (sE a0.name)] ?_;obtain⟨k26,FH,h1⟩:=bnd h1;refine .a [.call [] (bE k26) []] (A (kY n _ FH) T) [(61,bE (!k26))] ?_;refine .jT h1 (fun hc27 h1=>?_) (fun hc27 h1=>?_)
       ·refine .a [] T [(8,bE false)] ?_;cases h1;cases hw1 _ rfl;exact .rt hK
       ·cases h1;refine .fg 9 [4,8,9] ?_;exact .lg (hj1 _ rfl) []
      ·refine .a [] T [(62,dE (a0.kind=3))] ?_;refine .jP h1 (fun hc28 h1=>?_) (fun hc28 h1=>?_)
       ·refine .af [] T [] [.c 9 3 (iE a0.n)] ?_;obtain⟨k29,Oc,h1⟩:=bnd h1;refine .a [.call [] (bE k29) []] (A (gI n _ _ _ Oc) T) [(70,bE (!k29))] ?_;refine .jT h1 (fun ZE h1=>?_) (fun ZE h1=>?_)
        ·refine .a [] T [(8,bE false)] ?_;cases h1;cases hw1 _ rfl;exact .rt hK
        ·cases h1;refine .fg 9 [4,8,9] ?_;exact .lg (hj1 _ rfl) []
       ·refine .a [] T [(71,dE (a0.kind=4))] ?_;refine .jP h1 (fun hc31 h1=>?_) (fun hc31 h1=>?_)
        ·refine .af [] T [] [.c 9 5 (iE a0.data.kind),.c 9 6 (sE a0.data.name),.c 9 7 (iE a0.data.n),.c 9 8 (lE 1 (ah a0.data.scopes)),.c 9 9 (lE 5 (aj a0.data.kids))] ?_;refine .bP h1 rfl [2,3,4,9,10,11] (fun o32=>[(86,bE o32)]) n1 n1 (fun o32 h1=>?_) (fun y2 h2 hj2=>?_)
         ·refine .jT h1 (fun ZF h1=>?_) (fun ZF h1=>?_)
          ·refine .a [] T [(8,bE false)] ?_;cases h1;cases hw1 _ rfl;exact .rt hK
          ·cases h1;refine .fg 9 [4] ?_;exact .lg (hj1 _ rfl) []
         ·obtain⟨k34,Xz,h2⟩:=bnd h2;by_cases Cc:(!k34)=true
          ·have h2:=aK Cc h2;refine .a (.call [] (bE k34) []::(rb 6 true [])) (A (uO n _ Xz) (R 6 Cc T)) [(86,bE true)] ?_;cases h2;exact .lg hj2 []
          ·have h2:=aN Cc h2;obtain⟨ZC,aes,h2⟩:=bnd h2;refine .a (.call [] (bE k34) []::(rb 3 false [.call [] (lE 1 (ah ZC)) [],.b false,.v (ZC.length:Int),.b false,.b false])) (A (uO n _ Xz) (R 2 (Bool.eq_false_iff.2 Cc) (A (A (Bool.eq_false_iff.2 Cc) (KU n _ aes)) (A (A (Bool.eq_false_iff.2 Cc) (aI.len' ZC)) (R 2 (Bool.eq_false_iff.2 Cc) T))))) [(86,dE ((ZC.length:Int)>0))] ?_;cases h2;exact .lg hj2 []
        ·refine .a [] T [(87,dE (a0.kind=5))] ?_;refine .jP h1 (fun ai8 h1=>?_) (fun ai8 h1=>?_)
         ·refine .af [] T [(10,iE 1)] [.c 9 4 (lE 1 (ah a0.ids))] ?_;obtain⟨k38,aeu,h1⟩:=bnd h1;refine .af [.call [.own 300930] (.vs (.low 0) 1 ((ah k38).length)) [.vec 3 1 (ah k38)]] (A (rH n _ aeu) T) [(11,.vs (.own 300930) 1 ((ah k38).length))] [.o 300930 (.vec 3 1 (ah k38))] ?_;refine .a [.v (a0.ids.length:Int)] (A (aI.len' a0.ids) T) [(95,lE 1 (ah a0.ids)),(96,iE (a0.ids.length:Int)),(97,iE 0)] ?_;refine .sn 95 aI a0.ids (by kernel_rfl) (fun ai9=>?_);refine .lI h1 rfl [2,3,4,9,10,95,96] (fun i40 KX=>[(11,.vs (.own 300930) 1 ((ah KX).length)),(97,iE (i40:Int))]) (fun i40 KX=>[.o 300930 (.vec 3 1 (ah KX))]) n2 [] (by kernel_rfl) (fun i40 KX q42 aja alM h1=>?_);refine .a [] T [(98,dE ((i40:Int)<(a0.ids.length:Int)))] ?_;refine .lc aja rfl (by kernel_rfl) (fun x43 alN hc47 ajb ajc agK=>?_) (fun hc47=>?_)
          ·subst hc47;obtain⟨y2,h2,hw2,hn2⟩:=bf h1;refine .a [.cs [.v (.int .i64 x43)]] (A (aI.iU ajb) T) [(13,iE x43)] ?_;refine .bP h2 rfl [2,3,4,9,10,11,13,95,96,97] (fun o48=>[(108,bE o48)]) n1 n1 (fun o48 h2=>?_) (fun y3 h3 hj3=>?_)
           ·refine .jT h2 (fun ajd h2=>?_) (fun ajd h2=>?_)
            ·refine .a [] T [(8,bE false)] ?_;cases h2;cases hw2 _ rfl;cases hw1 _ rfl;exact .rt hK
            ·obtain⟨z50,aje,h2⟩:=bnd h2;refine .af [.sv (ah [x43]),.sv (ah z50)] (A (aI.lit [x43]) (A (A (aI.ap aje) (rfl:(ah KX).length=(ah KX).length)) T)) [(11,.vs (.own 300930) 1 ((ah z50).length))] [.o 300930 (.vec 3 1 (ah z50))] ?_;refine .a [.v ((i40+1:Nat):Int)] (A (wn (i:=i40) (by omega)) T) [(97,iE ((i40+1:Nat):Int))] ?_;cases h2;exact .nL rfl (i40+1) _ ajc agK (hn2 _ rfl) [] (by kernel_rfl)
           ·obtain⟨k51,agL,h3⟩:=bnd h3;by_cases g52:(!k51)=true
            ·have h3:=aK g52 h3;refine .a (.call [] (bE k51) []::(rb 4 true [])) (A (gI n _ _ _ agL) (R 4 g52 T)) [(108,bE true)] ?_;cases h3;exact .lg hj3 []
            ·have h3:=aN g52 h3;obtain⟨k53,ajf,h3⟩:=bnd h3;refine .a (.call [] (bE k51) []::(rb 3 false [.call [.own 300930] (bE k53) [.vec 3 1 (ah KX)],.b false])) (A (gI n _ _ _ agL) (R 2 (Bool.eq_false_iff.2 g52) (A (A (Bool.eq_false_iff.2 g52) (xu n _ _ ajf)) (A (Bool.eq_false_iff.2 g52) T)))) [(108,bE k53)] ?_;cases h3;exact .lg hj3 []
          ·subst hc47;have h1:=bM h1;cases h1;refine .kp [2,3,4,9,10,11] [] ?_;refine .ft 11 300930 [2,3,4,9,10] aI KX (rfl:(ah KX).length=(ah KX).length) (by kernel_rfl) ?_;refine .fg 9 [8,9] ?_;exact .lg (hj1 _ rfl) []
         ·refine .a [] T [(114,dE (a0.kind=6))] ?_;refine .jP h1 (fun ajg h1=>?_) (fun ajg h1=>?_)
          ·refine .a [.v (a0.kids.length:Int)] (A (bK.len' a0.kids) T) [(10,iE (if(a0.kids.length:Int)>1 then(a0.kids.length:Int) else 1)),(117,lE 11 (aG a0.kids))] ?_;refine .sn 117 bK a0.kids (by kernel_rfl) (fun alO=>?_);cases h1;refine .fg 9 [4,8,9] ?_;exact .lg (hj1 _ rfl) []
          ·refine .a [] T [(120,dE (a0.kind=7))] ?_;refine .jP h1 (fun ajh h1=>?_) (fun ajh h1=>?_)
           ·refine .a [] T [(10,iE 3)] ?_;cases h1;refine .fg 9 [4,8,9] ?_;exact .lg (hj1 _ rfl) []
           ·refine .a [] T [(8,bE false)] ?_;cases h1;cases hw1 _ rfl;exact .rt hK
  ·by_cases g57:(aY (w0-1))<0
   ·have h1:=aK g57 h1;refine .a (rb 3 true []) (R 3 (dt g57) T) [(28,bE true)] ?_;cases h1;exact .lg hj1 []
   ·have h1:=aN g57 h1;refine .a (rb 3 false []) (R 3 (df g57) T) [(28,dE (a2>120))] ?_;cases h1;exact .lg hj1 []
def jM (n:Nat) (a0:Core):Option (Bool):=
 (tV n a0 [] 1 600).bind fun k1=>some k1.1
theorem uQ (n:Nat):∀(a0:Core) {r:Bool},jM n a0=some r→aF X.E 9 [aE (aH a0)] [] (bE r) []:=by
 intro a0 r h0;rw[jM] at h0;refine .n Tryz.func9 (fun L ks low K hl hL hlen hK=>?_);refine .af [] T [(1,pw 1)] [.o 1 (.cells ((aH a0).map .d))] ?_;refine .af [] T [(3,pw 3)] [.o 3 (.cells [iE 600])] ?_;obtain⟨k1,hk1,h0⟩:=bnd h0;refine .af [.call [.own 3] (bE k1.1) [.cells [iE k1.2]]] (A (QC n _ _ _ _ hk1) T) [(2,bE k1.1)] [.c 3 0 (iE k1.2)] ?_;cases h0;exact .rt hK
def Ar:Nat→Form→Option (Form)
 | 0,_=>none
 | n+1,a0=>(slices_Clone_int n a0.scopes).bind fun k1=>Option.bind (dY (fun(s4:List Form) (i3:Nat) (x6:Form)=>(Ar n x6).bind fun k11=>(jH 80 s4 [k11]).bind fun z12=>some z12) 0 a0.kids []) (fun(s4:List Form)=>some (⟨a0.kind,a0.name,a0.n,k1,s4⟩:Form))
theorem aaZ (n:Nat):∀(a0:Form) {r:Form},Ar n a0=some r→aF X.E 43 [aE (ak a0)] [] (aE (ak r)) []:=by
 induction n with
 | zero=>intro a0 r h; cases h
 | succ n ih=>
  intro a0 r h0;rw[Ar] at h0;refine .n Tryz.func43 (fun L ks low K hl hL hlen hK=>?_);refine .af [] T [(1,pw 1),(2,pw 2)] [.o 1 (.cells ((ak a0).map .d)),.o 2 (.cells [iE 0,sE [],iE 0,fE 1 (ah []),fE 5 (aj [])])] ?_;obtain⟨k1,hk1,h0⟩:=bnd h0;refine .ad mixed [(8,[.call [] (lE 1 (ah k1)) []])] [] (A (DI n _ hk1) T) [(3,pw 3)] [.o 3 (.cells [iE a0.kind,sE a0.name,iE a0.n,lE 1 (ah k1),fE 5 (aj [])])] [] ?_;refine .a [.v (a0.kids.length:Int)] (A (aA.len' a0.kids) T) [(17,lE 5 (aj a0.kids)),(18,iE (a0.kids.length:Int)),(19,iE 0)] ?_;refine .sn 17 aA a0.kids (by kernel_rfl) (fun hb2=>?_);refine .oc 3 4 100028 26 (by kernel_rfl) ?_;refine .lL h0 rfl [2,3,17,18] (fun i3 s4=>[(19,iE (i3:Int))]) (fun i3 s4=>[.c 3 4 (.gs (.own 100028) 5 (aj s4)),.o 100028 (.tok (aj s4).length 26)]) n2 [] (by kernel_rfl) (fun i3 s4 q5 hd7 hi9 h0=>?_);refine .a [] T [(20,dE ((i3:Int)<(a0.kids.length:Int)))] ?_;refine .lc hd7 rfl (by kernel_rfl) (fun x6 KT iQ hx6 hd8 jo=>?_) (fun iQ=>?_)
  ·subst iQ;obtain⟨y1,h1,hn1⟩:=bZ h0;refine .af [.cs (ak x6)] (A (aA.iU hx6) T) [(5,pw 5)] [.o 5 (.cells ((ak x6).map .d))] ?_;obtain⟨k11,Ap,h1⟩:=bnd h1;obtain⟨z12,JG,h1⟩:=bnd h1;refine .ad mixed [(3,[.call [] (aE (ak k11)) []]),(4,[.sv (aj [k11])]),(5,[.sv (aj z12)])] [((aj s4).length:Int)] (A (ih _ Ap) (A (aA.lit [k11]) (A (aA.ap JG) T))) [] [.c 3 4 (.gs (.own 100028) 5 (aj z12)),.o 100028 (.tok (aj z12).length 26)] [] ?_;refine .a [.v ((i3+1:Nat):Int)] (A (wn (i:=i3) (by omega)) T) [(19,iE ((i3+1:Nat):Int))] ?_;cases h1;refine .kp [2,3,17,18,19] [] ?_;refine .dr 5 (by kernel_rfl) ?_;exact .nL rfl (i3+1) _ hd8 jo hn1 [] (by kernel_rfl)
  ·subst iQ;have h0:=dN h0;refine .af [] T [] [.o 2 (.cells [iE a0.kind,sE a0.name,iE a0.n,lE 1 (ah k1),.gs (.own 100028) 5 (aj s4)])] ?_;cases h0;exact .rt hK
def agM (a:Core):Prop:=∃c:Mx.Core,a=toC c∧Raw.JB (fun l=>∃n,slices_Clone_int n l=some l) c []∧Raw.Fz c<5000000000000
noncomputable def nS (n:Nat) (a0:Core):Option (Core×Bool):=(jM n a0).bind fun k1=>@ite _ (k1=true∧agM a0) (Classical.propDecidable _) (some (if O8 a0≤999 then DF (fun _=>0) 0 a0 else(⟨0,0,[],0,[],⟨0,[],0,[],[]⟩,[]⟩:Core),decide (O8 a0≤999))) none
theorem GR (n:Nat):∀(a0:Core) {r:Core×Bool},nS n a0=some r→aF X.E 10 [aE (aH a0)] [] (.dO [aE (aH r.1),bE r.2]) []:=by
 intro a0 r h0;rw[nS] at h0;obtain⟨k1,hk1,h0⟩:=bnd h0;split at h0
 ·rename_i hc;cases h0;obtain⟨rfl,c,rfl,g1,g2⟩:=hc;refine aF.Zy Tryz.func10 rfl rfl (fun κ cx st w vs hr hx=>?_);have hx2:pJ cx w [.agg (Mx.jc c)] vs:=by rw[← TK c]; exact hx
  have hG:∀w:World,Raw.glob X.E w:=fun w g=>.any _;refine(Raw.QA (E:=X.E) rfl g1 g2 (fun l hl v w h=>?_) (fun v w h=>?_) hr hx2).mono (fun e w1 h=>?_)
  ·obtain⟨m,hm⟩:=hl;exact Raw.agd (rH m _ hm) rfl (ds:=[.sl 1 .ro (cO l)]) (by show [(KD.sl 1 false (ah l)).D]=_; rw[Raw.aeb]) (hG w) (Mx.pJ.one h)
  ·exact Raw.agc (uQ n _ hk1) (ds:=[.agg (Mx.jc c)]) (by show [D.agg (KD.DL (aH (toC c)))]=_; rw[TK]) rfl (hG w) (Mx.pJ.one (Raw.aib h))
  ·obtain⟨v,h1,h2,h3⟩:=h;refine⟨v,h1,h2,?_⟩;have e1:(if O8 (toC c)≤999 then DF (fun _=>0) 0 (toC c) else(⟨0,0,[],0,[],⟨0,[],0,[],[]⟩,[]⟩:Core))=toC (if Raw.zI c≤999 then Raw.aT (fun _=>0) 0 c else Raw.zC):=by
    rw[JD]; split
    ·rw[Zz]
    ·rfl
   rw[← JD,← TK] at h3;simp only[e1];rw[JD] at h3 ⊢;exact h3
 ·cases h0
def sZ (n:Nat) (a0:Core) (w0:Int) (w1:Int):Option (Int):=
 Option.bind ((if a0.kind=1 then some (decide (a0.id=w0)) else some false):Option (Bool)) (fun(o1:Bool)=>(if o1=true then some (aY (w1+1)) else some w1))
theorem JH (n:Nat):∀(a0:Core) (w0:Int) (w1:Int) {r:Int},sZ n a0 w0 w1=some r→aF X.E 26 [aE (aH a0),pl 0,pl 1] [some (.cells [iE w0]),some (.cells [iE w1])] (.dO []) [.cells [iE w0],.cells [iE r]]:=by
 intro a0 w0 w1 r h0;rw[sZ] at h0;refine .n Tryz.func26 (fun L ks low K hl hL hlen hK=>?_);refine .af [] T [(3,pw 3)] [.o 3 (.cells ((aH a0).map .d))] ?_;refine .bP h0 rfl [2] (fun o1=>[(12,bE o1)]) n1 n1 (fun o1 h0=>?_) (fun y1 h1 hj1=>?_)
 ·refine .jT h0 (fun hc2 h0=>?_) (fun hc2 h0=>?_)
  ·refine .ao [.pl] T [] [.c 1 0 (iE (aY (w1+1)))] ?_;cases h0;exact .fin rfl rfl rfl rfl hK
  ·cases h0;exact .fin rfl rfl rfl rfl hK
 ·by_cases g3:a0.kind=1
  ·have h1:=aK g3 h1;refine .a (rb 5 true []) (R 5 (dt g3) T) [(12,dE (a0.id=w0))] ?_;cases h1;exact .lg hj1 []
  ·have h1:=aN g3 h1;refine .a (rb 5 false []) (R 5 (df g3) T) [(12,bE false)] ?_;cases h1;exact .lg hj1 []
def dU:Nat→Core→Int→Int→Option (Int)
 | 0,_,_,_=>none
 | n+1,a0,w0,w1=>(sZ n a0 w0 w1).bind fun k1=>Option.bind (dY (fun(s4:Int) (i3:Nat) (x6:Core)=>(dU n x6 w0 s4).bind fun k11=>some k11) 0 a0.kids k1) (fun(s4:Int)=>some s4)
theorem tq (n:Nat):∀(a0:Core) (w0:Int) (w1:Int) {r:Int},dU n a0 w0 w1=some r→aF X.E 20 [aE (aH a0),.clo 26 [] [pl 0,pl 1]] [some (.cells [iE w0]),some (.cells [iE w1])] (.dO []) [.cells [iE w0],.cells [iE r]]:=by
 induction n with
 | zero=>intro a0 w0 w1 r h; cases h
 | succ n ih=>
  intro a0 w0 w1 r h0;rw[dU] at h0;refine .n Tryz.func20 (fun L ks low K hl hL hlen hK=>?_);refine .af [] T [(2,pw 2)] [.o 2 (.cells ((aH a0).map .d))] ?_;obtain⟨k1,hk1,h0⟩:=bnd h0;refine .ao [.call [.low 0,.low 1] (.dO []) [.cells [iE w0],.cells [iE k1]]] (A (JH n _ _ _ hk1) T) [] [.c 1 0 (iE k1)] ?_;refine .a [.v (a0.kids.length:Int)] (A (bK.len' a0.kids) T) [(10,lE 11 (aG a0.kids)),(11,iE (a0.kids.length:Int)),(12,iE 0)] ?_;refine .sn 10 bK a0.kids (by kernel_rfl) (fun hb2=>?_);refine .lL h0 rfl [1,10,11] (fun i3 s4=>[(12,iE (i3:Int))]) n2 (fun i3 s4=>[.c 1 0 (iE s4)]) [] (by kernel_rfl) (fun i3 s4 q5 hd7 hi9 h0=>?_);refine .a [] T [(13,dE ((i3:Int)<(a0.kids.length:Int)))] ?_;refine .lc hd7 rfl (by kernel_rfl) (fun x6 KT iQ hx6 hd8 jo=>?_) (fun iQ=>?_)
  ·subst iQ;obtain⟨y1,h1,hn1⟩:=bZ h0;refine .af [.cs (aH x6)] (A (bK.iU hx6) T) [(5,pw 5)] [.o 5 (.cells ((aH x6).map .d))] ?_;obtain⟨k11,Ap,h1⟩:=bnd h1;refine .ao [.call [.low 0,.low 1] (.dO []) [.cells [iE w0],.cells [iE k11]]] (A (ih _ _ _ Ap) T) [] [.c 1 0 (iE k11)] ?_;refine .a [.v ((i3+1:Nat):Int)] (A (wn (i:=i3) (by omega)) T) [(12,iE ((i3+1:Nat):Int))] ?_;cases h1;refine .kp [1,10,11,12] [] ?_;refine .dr 5 (by kernel_rfl) ?_;exact .nL rfl (i3+1) _ hd8 jo hn1 [] (by kernel_rfl)
  ·subst iQ;have h0:=dN h0;cases h0;exact .fin rfl rfl rfl rfl hK
def uS (n:Nat) (a0:Core) (a1:Int):Option (Int):=
 (dU n a0 a1 0).bind fun k1=>some k1
theorem yL (n:Nat):∀(a0:Core) (a1:Int) {r:Int},uS n a0 a1=some r→aF X.E 11 [aE (aH a0),iE a1] [] (iE r) []:=by
 intro a0 a1 r h0;rw[uS] at h0;refine .n Tryz.func11 (fun L ks low K hl hL hlen hK=>?_);refine .af [] T [(2,pw 2),(3,pw 3)] [.o 2 (.cells ((aH a0).map .d)),.o 3 (.cells [iE a1])] ?_;refine .af [] T [(5,pw 5)] [.o 5 (.cells [iE 0])] ?_;obtain⟨k1,hk1,h0⟩:=bnd h0;refine .af [.call [.own 3,.own 5] (.dO []) [.cells [iE a1],.cells [iE k1]]] (A (tq n _ _ _ hk1) T) [] [.c 5 0 (iE k1)] ?_;refine .a [] T [(4,iE k1)] ?_;cases h0;exact .rt hK
def jX (n:Nat) (a0:Core) (w0:List Int):Option (List Int):=
 Option.bind (dY (fun(s3:List Int) (i2:Nat) (x5:Int)=>Option.bind ((gQ a0.kids 0).bind fun e11=>(uS n e11 x5).bind fun k12=>(if k12=0 then(jH 8 s3 [x5]).bind fun Kw=>some Kw else some s3):Option (List Int)) (fun(kM:List Int)=>some kM)) 0 a0.ids w0) (fun(s3:List Int)=>some s3)
theorem Ey (n:Nat):∀(a0:Core) (w0:List Int) {r:List Int},jX n a0 w0=some r→aF X.E 21 [aE (aH a0),pl 0] [some (.cells [.vs (.low 1) 1 ((ah w0).length)]),some (.vec 3 1 (ah w0))] (.dO []) [.cells [.vs (.low 1) 1 ((ah r).length)],.vec 3 1 (ah r)]:=by
 intro a0 w0 r h0;rw[jX] at h0;refine .n Tryz.func21 (fun L ks low K hl hL hlen hK=>?_);refine .af [] T [(2,pw 2)] [.o 2 (.cells ((aH a0).map .d))] ?_;refine .a [.v (a0.ids.length:Int)] (A (aI.len' a0.ids) T) [(6,lE 1 (ah a0.ids)),(7,iE (a0.ids.length:Int)),(8,iE 0)] ?_;refine .sn 6 aI a0.ids (by kernel_rfl) (fun hb1=>?_);refine .lL h0 rfl [1,2,6,7] (fun i2 s3=>[(8,iE (i2:Int))]) n2 (fun i2 s3=>[.c 0 0 (.vs (.low 1) 1 ((ah s3).length)),.o 1 (.vec 3 1 (ah s3))]) [] (by kernel_rfl) (fun i2 s3 q4 hd6 hi8 h0=>?_);refine .a [] T [(9,dE ((i2:Int)<(a0.ids.length:Int)))] ?_;refine .lc hd6 rfl (by kernel_rfl) (fun x5 q42 gJ hx5 hd7 Ak=>?_) (fun gJ=>?_)
 ·subst gJ;obtain⟨y1,h1,hn1⟩:=bZ h0;refine .bPB h1 rfl [1,2,6,7,8] (fun kM=>[]) n1 (fun kM=>[.c 0 0 (.vs (.low 1) 1 ((ah kM).length)),.o 1 (.vec 3 1 (ah kM))]) (fun kM h1=>?_) (fun y2 h2 hj2=>?_)
  ·refine .a [.v ((i2+1:Nat):Int)] (A (wn (i:=i2) (by omega)) T) [(8,iE ((i2+1:Nat):Int))] ?_;cases h1;exact .nL rfl (i2+1) _ hd7 Ak hn1 [] (by kernel_rfl)
  ·refine .a [.cs [.v (.int .i64 x5)]] (A (aI.iU hx5) T) [(4,iE x5)] ?_;obtain⟨e11,ZG,h2⟩:=bnd h2;obtain⟨k12,hk12,h2⟩:=bnd h2;refine .a [.cs (aH e11),.call [] (iE k12) []] (A (bK.idx ZG) (A (yL n _ _ hk12) T)) [(18,dE (k12=0))] ?_;refine .jP h2 (fun hc13 h2=>?_) (fun hc13 h2=>?_)
   ·obtain⟨Kw,Ua,h2⟩:=bnd h2;refine .ao [.sv (ah [x5]),.sv (ah Kw)] (A (aI.lit [x5]) (A (A (aI.ap Ua) (rfl:(ah s3).length=(ah s3).length)) T)) [] [.c 0 0 (.vs (.low 1) 1 ((ah Kw).length)),.o 1 (.vec 3 1 (ah Kw))] ?_;cases h2;exact .lg hj2 []
   ·cases h2;exact .lg hj2 []
 ·subst gJ;have h0:=dN h0;cases h0;exact .fin rfl rfl rfl rfl hK
def dK:Nat→Core→(List Int)→Option (List Int)
 | 0,_,_=>none
 | n+1,a0,w0=>(jX n a0 w0).bind fun k1=>Option.bind (dY (fun(s4:List Int) (i3:Nat) (x6:Core)=>(dK n x6 s4).bind fun k11=>some k11) 0 a0.kids k1) (fun(s4:List Int)=>some s4)
theorem qB (n:Nat):∀(a0:Core) (w0:List Int) {r:List Int},dK n a0 w0=some r→aF X.E 20 [aE (aH a0),.clo 21 [] [pl 0]] [some (.cells [.vs (.low 1) 1 ((ah w0).length)]),some (.vec 3 1 (ah w0))] (.dO []) [.cells [.vs (.low 1) 1 ((ah r).length)],.vec 3 1 (ah r)]:=by
 induction n with
 | zero=>intro a0 w0 r h; cases h
 | succ n ih=>
  intro a0 w0 r h0;rw[dK] at h0;refine .n Tryz.func20 (fun L ks low K hl hL hlen hK=>?_);refine .af [] T [(2,pw 2)] [.o 2 (.cells ((aH a0).map .d))] ?_;obtain⟨k1,hk1,h0⟩:=bnd h0;refine .ao [.call [.low 0,.low 1] (.dO []) [.cells [.vs (.low 1) 1 ((ah k1).length)],.vec 3 1 (ah k1)]] (A (Ey n _ _ hk1) T) [] [.c 0 0 (.vs (.low 1) 1 ((ah k1).length)),.o 1 (.vec 3 1 (ah k1))] ?_;refine .a [.v (a0.kids.length:Int)] (A (bK.len' a0.kids) T) [(10,lE 11 (aG a0.kids)),(11,iE (a0.kids.length:Int)),(12,iE 0)] ?_;refine .sn 10 bK a0.kids (by kernel_rfl) (fun hb2=>?_);refine .lL h0 rfl [1,10,11] (fun i3 s4=>[(12,iE (i3:Int))]) n2 (fun i3 s4=>[.c 0 0 (.vs (.low 1) 1 ((ah s4).length)),.o 1 (.vec 3 1 (ah s4))]) [] (by kernel_rfl) (fun i3 s4 q5 hd7 hi9 h0=>?_);refine .a [] T [(13,dE ((i3:Int)<(a0.kids.length:Int)))] ?_;refine .lc hd7 rfl (by kernel_rfl) (fun x6 KT iQ hx6 hd8 jo=>?_) (fun iQ=>?_)
  ·subst iQ;obtain⟨y1,h1,hn1⟩:=bZ h0;refine .af [.cs (aH x6)] (A (bK.iU hx6) T) [(5,pw 5)] [.o 5 (.cells ((aH x6).map .d))] ?_;obtain⟨k11,Ap,h1⟩:=bnd h1;refine .ao [.call [.low 0,.low 1] (.dO []) [.cells [.vs (.low 1) 1 ((ah k11).length)],.vec 3 1 (ah k11)]] (A (ih _ _ Ap) T) [] [.c 0 0 (.vs (.low 1) 1 ((ah k11).length)),.o 1 (.vec 3 1 (ah k11))] ?_;refine .a [.v ((i3+1:Nat):Int)] (A (wn (i:=i3) (by omega)) T) [(12,iE ((i3+1:Nat):Int))] ?_;cases h1;refine .kp [1,10,11,12] [] ?_;refine .dr 5 (by kernel_rfl) ?_;exact .nL rfl (i3+1) _ hd8 jo hn1 [] (by kernel_rfl)
  ·subst iQ;have h0:=dN h0;cases h0;exact .fin rfl rfl rfl rfl hK
def kC (n:Nat) (a0:Core):Option (List Int):=
 (jM n a0).bind fun k1=>(if(!k1)=true then some [] else(dK n a0 []).bind fun k3=>some k3)
theorem zy (n:Nat):∀(a0:Core) {r:List Int},kC n a0=some r→aF X.E 6 [aE (aH a0)] [] (lE 1 (ah r)) []:=by
 intro a0 r h0;rw[kC] at h0;refine .n Tryz.func6 (fun L ks low K hl hL hlen hK=>?_);refine .af [] T [(1,pw 1)] [.o 1 (.cells ((aH a0).map .d))] ?_;refine .af [.sv (ah [])] (A (aI.lit []) T) [(3,pw 3)] [.o 3 (.cells [fE 1 (ah [])])] ?_;obtain⟨k1,hk1,h0⟩:=bnd h0;refine .a [.call [] (bE k1) []] (A (uQ n _ hk1) T) [(7,bE (!k1))] ?_;refine .jT h0 (fun hc2 h0=>?_) (fun hc2 h0=>?_)
 ·refine .a [] T [(2,fE 1 (ah []))] ?_;cases h0;exact .rt hK
 ·refine .ov 3 0 400300 3 (by kernel_rfl) ?_;obtain⟨k3,hk3,h0⟩:=bnd h0;refine .af [.call [.own 3,.own 400300] (.dO []) [.cells [.vs (.low 1) 1 ((ah k3).length)],.vec 3 1 (ah k3)]] (A (qB n _ _ hk3) T) [] [.c 3 0 (.vs (.own 400300) 1 ((ah k3).length)),.o 400300 (.vec 3 1 (ah k3))] ?_;refine .a [] T [(2,.vs (.own 400300) 1 ((ah k3).length))] ?_;refine .kp [2] [] ?_;refine .dr 1 (by kernel_rfl) ?_;refine .dr 3 (by kernel_rfl) ?_;refine .ft 2 400300 [] aI k3 (rfl:(ah k3).length=(ah k3).length) (by kernel_rfl) ?_;cases h0;exact .rt hK
def Hy (n:Nat) (a0:List Int) (a1:Int):Option (Bool):=
 bH (bV (fun(s2:Unit) (i1:Nat) (x4:Int)=>((if x4=a1 then some (Sum.inl true) else some (Sum.inr ())):Option (Bool⊕Unit))) 0 a0 ()) (fun(s2:Unit)=>some false)
theorem XA (n:Nat):∀(a0:List Int) (a1:Int) {r:Bool},Hy n a0 a1=some r→aF X.E 27 [lE 1 (ah a0),iE a1] [] (bE r) []:=by
 intro a0 a1 r h0;rw[Hy] at h0;refine .n Tryz.func27 (fun L ks low K hl hL hlen hK=>?_);refine .a [] T [] ?_;refine .a [] T [(5,iE 0)] ?_;refine .lI h0 rfl [0,1] (fun i1 s2=>[(5,iE (i1:Int))]) n2 n2 [] (by kernel_rfl) (fun i1 s2 q3 hd5 VD h0=>?_);refine .a [.v (a0.length:Int)] (A (aI.len' a0) T) [(9,dE ((i1:Int)<(a0.length:Int)))] ?_;refine .sn 0 aI a0 (by kernel_rfl) (fun hb8=>?_);refine .lc hd5 rfl (by kernel_rfl) (fun x4 q32 gJ hx4 hd6 pX=>?_) (fun gJ=>?_)
 ·subst gJ;obtain⟨y1,h1,hw1,hn1⟩:=bf h0;refine .a [.cs [.v (.int .i64 x4)]] (A (aI.iU hx4) T) [(17,dE (x4=a1))] ?_;refine .jP h1 (fun iQ h1=>?_) (fun iQ h1=>?_)
  ·refine .a [] T [(4,bE true)] ?_;cases h1;cases hw1 _ rfl;exact .rt hK
  ·refine .a [.v ((i1+1:Nat):Int)] (A (wn (i:=i1) (by omega)) T) [(5,iE ((i1+1:Nat):Int))] ?_;cases h1;exact .nL rfl (i1+1) _ hd6 pX (hn1 _ rfl) [] (by kernel_rfl)
 ·subst gJ;have h0:=bM h0;refine .a [] T [(4,bE false)] ?_;cases h0;exact .rt hK
def lS:Nat→Core→Int→Option (Bool)
 | 0,_,_=>none
 | n+1,a0,a1=>(Hy n a0.ids a1).bind fun k1=>(if k1=true then some true else bH (bV (fun(s4:Unit) (i3:Nat) (x6:Core)=>((lS n x6 a1).bind fun k12=>(if k12=true then some (Sum.inl true) else some (Sum.inr ())):Option (Bool⊕Unit))) 0 a0.kids ()) (fun(s4:Unit)=>some false))
theorem JI (n:Nat):∀(a0:Core) (a1:Int) {r:Bool},lS n a0 a1=some r→aF X.E 12 [aE (aH a0),iE a1] [] (bE r) []:=by
 induction n with
 | zero=>intro a0 a1 r h; cases h
 | succ n ih=>
  intro a0 a1 r h0;rw[lS] at h0;refine .n Tryz.func12 (fun L ks low K hl hL hlen hK=>?_);refine .af [] T [(2,pw 2)] [.o 2 (.cells ((aH a0).map .d))] ?_;obtain⟨k1,hk1,h0⟩:=bnd h0;refine .a [.call [] (bE k1) []] (A (XA n _ _ hk1) T) [(9,bE k1)] ?_;refine .jT h0 (fun hc2 h0=>?_) (fun hc2 h0=>?_)
  ·refine .a [] T [(4,bE true)] ?_;cases h0;exact .rt hK
  ·refine .a [] T [(5,iE 0)] ?_;refine .lI h0 rfl [1,2] (fun i3 s4=>[(5,iE (i3:Int))]) n2 n2 [] (by kernel_rfl) (fun i3 s4 q5 hd7 hi9 h0=>?_);refine .a [.v (a0.kids.length:Int)] (A (bK.len' a0.kids) T) [(12,lE 11 (aG a0.kids)),(14,dE ((i3:Int)<(a0.kids.length:Int)))] ?_;refine .sn 12 bK a0.kids (by kernel_rfl) (fun Au=>?_);refine .lc hd7 rfl (by kernel_rfl) (fun x6 KT bI hx6 hd8 jo=>?_) (fun bI=>?_)
   ·subst bI;obtain⟨y1,h1,hw1,hn1⟩:=bf h0;obtain⟨k12,hk12,h1⟩:=bnd h1;refine .a [.cs (aH x6),.call [] (bE k12) []] (A (bK.iU hx6) (A (ih _ _ hk12) T)) [(23,bE k12)] ?_;refine .jT h1 (fun hc13 h1=>?_) (fun hc13 h1=>?_)
    ·refine .a [] T [(4,bE true)] ?_;cases h1;cases hw1 _ rfl;exact .rt hK
    ·refine .a [.v ((i3+1:Nat):Int)] (A (wn (i:=i3) (by omega)) T) [(5,iE ((i3+1:Nat):Int))] ?_;cases h1;exact .nL rfl (i3+1) _ hd8 jo (hn1 _ rfl) [] (by kernel_rfl)
   ·subst bI;have h0:=bM h0;refine .a [] T [(4,bE false)] ?_;cases h0;exact .rt hK
def xw (n:Nat) (a0:List Int) (a1:List Int):Option (Bool):=
 (if ¬(a0.length:Int)=(a1.length:Int) then some false else bH (bV (fun(s5:Unit) (i4:Nat) (x7:Int)=>((gQ a1 (i4:Int)).bind fun e12=>(if ¬x7=e12 then some (Sum.inl false) else some (Sum.inr ())):Option (Bool⊕Unit))) 0 a0 ()) (fun(s5:Unit)=>some true))
theorem vP (n:Nat):∀(a0:List Int) (a1:List Int) {r:Bool},xw n a0 a1=some r→aF X.E 7 [lE 1 (ah a0),lE 1 (ah a1)] [] (bE r) []:=by
 intro a0 a1 r h0;rw[xw] at h0;refine .n Tryz.func7 (fun L ks low K hl hL hlen hK=>?_);refine .a [] T [] ?_;refine .a [.v (a0.length:Int),.v (a1.length:Int)] (A (aI.len' a0) (A (aI.len' a1) T)) [(10,dE (¬(a0.length:Int)=(a1.length:Int)))] ?_;refine .sn 0 aI a0 (by kernel_rfl) (fun hb1=>?_);refine .sn 1 aI a1 (by kernel_rfl) (fun hb2=>?_);refine .jP h0 (fun hc3 h0=>?_) (fun hc3 h0=>?_)
 ·refine .a [] T [(4,bE false)] ?_;cases h0;exact .rt hK
 ·refine .a [] T [(5,iE 0)] ?_;refine .lI h0 rfl [0,1] (fun i4 s5=>[(5,iE (i4:Int))]) n2 n2 [] (by kernel_rfl) (fun i4 s5 q6 hd8 ZB h0=>?_);refine .a [.v (a0.length:Int)] (A (aI.len' a0) T) [(14,dE ((i4:Int)<(a0.length:Int)))] ?_;refine .lc hd8 rfl (by kernel_rfl) (fun x7 q62 bI hx7 hd9 JE=>?_) (fun bI=>?_)
  ·subst bI;obtain⟨y1,h1,hw1,hn1⟩:=bf h0;obtain⟨e12,yK,h1⟩:=bnd h1;refine .ad mixed [(2,[.cs [.v (.int .i64 x7)]]),(6,[.cs [.v (.int .i64 e12)]])] [] (A (aI.iU hx7) (A (aI.idx yK) T)) [(25,dE (¬x7=e12))] [] [] ?_;refine .jP h1 (fun hc13 h1=>?_) (fun hc13 h1=>?_)
   ·refine .a [] T [(4,bE false)] ?_;cases h1;cases hw1 _ rfl;exact .rt hK
   ·refine .a [.v ((i4+1:Nat):Int)] (A (wn (i:=i4) (by omega)) T) [(5,iE ((i4+1:Nat):Int))] ?_;cases h1;exact .nL rfl (i4+1) _ hd9 JE (hn1 _ rfl) [] (by kernel_rfl)
  ·subst bI;have h0:=bM h0;refine .a [] T [(4,bE true)] ?_;cases h0;exact .rt hK
def iW:Nat→Form→Option (Form)
 | 0,_=>none
 | n+1,a0=>(jH 8 [] a0.scopes).bind fun z1=>Option.bind (dY (fun(s3:List Form) (i2:Nat) (x5:Form)=>(iW n x5).bind fun k11=>(jH 80 s3 [k11]).bind fun z12=>some z12) 0 a0.kids []) (fun(s3:List Form)=>some (⟨a0.kind,a0.name,a0.n,z1,s3⟩:Form))
theorem pq (n:Nat):∀(a0:Form) {r:Form},iW n a0=some r→aF X.E 64 [aE (ak a0)] [] (aE (ak r)) []:=by
 induction n with
 | zero=>intro a0 r h; cases h
 | succ n ih=>
  intro a0 r h0;rw[iW] at h0;refine .n Tryz.func64 (fun L ks low K hl hL hlen hK=>?_);refine .af [] T [(1,pw 1),(2,pw 2)] [.o 1 (.cells ((ak a0).map .d)),.o 2 (.cells [iE 0,sE [],iE 0,fE 1 (ah []),fE 5 (aj [])])] ?_;obtain⟨z1,hz1,h0⟩:=bnd h0;refine .ad mixed [(6,[.sv (ah [])]),(9,[.sv (ah z1)])] [] (A (aI.lit []) (A (aI.ap hz1) T)) [(3,pw 3)] [.o 100014 (.tok (ah z1).length 3),.o 3 (.cells [iE a0.kind,sE a0.name,iE a0.n,.gs (.own 100014) 1 (ah z1),fE 5 (aj [])])] [] ?_;refine .a [] T [(4,iE 0)] ?_;refine .oc 3 4 100032 26 (by kernel_rfl) ?_;refine .lL h0 rfl [1,2,3] (fun i2 s3=>[(4,iE (i2:Int))]) (fun i2 s3=>[.c 3 4 (.gs (.own 100032) 5 (aj s3)),.o 100032 (.tok (aj s3).length 26)]) n2 [] (by kernel_rfl) (fun i2 s3 q4 hd6 hi8 h0=>?_);refine .a [.v (a0.kids.length:Int)] (A (aA.len' a0.kids) T) [(18,lE 5 (aj a0.kids)),(20,dE ((i2:Int)<(a0.kids.length:Int)))] ?_;refine .sn 18 aA a0.kids (by kernel_rfl) (fun hb9=>?_);refine .lc hd6 rfl (by kernel_rfl) (fun x5 q42 iQ hx5 hd7 Ak=>?_) (fun iQ=>?_)
  ·subst iQ;obtain⟨y1,h1,hn1⟩:=bZ h0;obtain⟨k11,Ap,h1⟩:=bnd h1;obtain⟨z12,JG,h1⟩:=bnd h1;refine .ad mixed [(5,[.cs (ak x5)]),(7,[.call [] (aE (ak k11)) []]),(8,[.sv (aj [k11])]),(9,[.sv (aj z12)])] [((aj s3).length:Int)] (A (aA.iU hx5) (A (ih _ Ap) (A (aA.lit [k11]) (A (aA.ap JG) T)))) [] [.c 3 4 (.gs (.own 100032) 5 (aj z12)),.o 100032 (.tok (aj z12).length 26)] [] ?_;refine .a [.v ((i2+1:Nat):Int)] (A (wn (i:=i2) (by omega)) T) [(4,iE ((i2+1:Nat):Int))] ?_;cases h1;exact .nL rfl (i2+1) _ hd7 Ak hn1 [] (by kernel_rfl)
  ·subst iQ;have h0:=dN h0;refine .af [] T [] [.o 2 (.cells [iE a0.kind,sE a0.name,iE a0.n,.gs (.own 100014) 1 (ah z1),.gs (.own 100032) 5 (aj s3)])] ?_;cases h0;exact .rt hK
def kD:Nat→Core→Option (Core)
 | 0,_=>none
 | n+1,a0=>(jH 8 [] a0.ids).bind fun z1=>(iW n a0.data).bind fun k2=>Option.bind (dY (fun(s4:List Core) (i3:Nat) (x6:Core)=>(kD n x6).bind fun k12=>(jH 168 s4 [k12]).bind fun z13=>some z13) 0 a0.kids []) (fun(s4:List Core)=>some (⟨a0.kind,a0.id,a0.name,a0.n,z1,k2,s4⟩:Core))
theorem Gj (n:Nat):∀(a0:Core) {r:Core},kD n a0=some r→aF X.E 47 [aE (aH a0)] [] (aE (aH r)) []:=by
 induction n with
 | zero=>intro a0 r h; cases h
 | succ n ih=>
  intro a0 r h0;rw[kD] at h0;refine .n Tryz.func47 (fun L ks low K hl hL hlen hK=>?_);refine .af [] T [(1,pw 1),(2,pw 2)] [.o 1 (.cells ((aH a0).map .d)),.o 2 (.cells [iE 0,iE 0,sE [],iE 0,fE 1 (ah []),iE 0,sE [],iE 0,fE 1 (ah []),fE 5 (aj []),fE 11 (aG [])])] ?_;obtain⟨z1,hz1,h0⟩:=bnd h0;obtain⟨k2,hk2,h0⟩:=bnd h0;refine .ad mixed [(8,[.sv (ah [])]),(11,[.sv (ah z1)]),(14,[.call [] (aE (ak k2)) []])] [] (A (aI.lit []) (A (aI.ap hz1) (A (pq n _ hk2) T))) [(3,pw 3)] [.o 100016 (.tok (ah z1).length 3),.o 3 (.cells [iE a0.kind,iE a0.id,sE a0.name,iE a0.n,.gs (.own 100016) 1 (ah z1),iE k2.kind,sE k2.name,iE k2.n,lE 1 (ah k2.scopes),lE 5 (aj k2.kids),fE 11 (aG [])])] [] ?_;refine .a [] T [(4,iE 0)] ?_;refine .oc 3 10 100037 29 (by kernel_rfl) ?_;refine .lL h0 rfl [1,2,3] (fun i3 s4=>[(4,iE (i3:Int))]) (fun i3 s4=>[.c 3 10 (.gs (.own 100037) 11 (aG s4)),.o 100037 (.tok (aG s4).length 29)]) n2 [] (by kernel_rfl) (fun i3 s4 q5 hd7 hi9 h0=>?_);refine .a [.v (a0.kids.length:Int)] (A (bK.len' a0.kids) T) [(23,lE 11 (aG a0.kids)),(25,dE ((i3:Int)<(a0.kids.length:Int)))] ?_;refine .sn 23 bK a0.kids (by kernel_rfl) (fun Au=>?_);refine .lc hd7 rfl (by kernel_rfl) (fun x6 KT bI hx6 hd8 jo=>?_) (fun bI=>?_)
  ·subst bI;obtain⟨y1,h1,hn1⟩:=bZ h0;obtain⟨k12,hk12,h1⟩:=bnd h1;obtain⟨z13,Aw,h1⟩:=bnd h1;refine .ad mixed [(5,[.cs (aH x6)]),(7,[.call [] (aE (aH k12)) []]),(8,[.sv (aG [k12])]),(9,[.sv (aG z13)])] [((aG s4).length:Int)] (A (bK.iU hx6) (A (ih _ hk12) (A (bK.lit [k12]) (A (bK.ap Aw) T)))) [] [.c 3 10 (.gs (.own 100037) 11 (aG z13)),.o 100037 (.tok (aG z13).length 29)] [] ?_;refine .a [.v ((i3+1:Nat):Int)] (A (wn (i:=i3) (by omega)) T) [(4,iE ((i3+1:Nat):Int))] ?_;cases h1;exact .nL rfl (i3+1) _ hd8 jo hn1 [] (by kernel_rfl)
  ·subst bI;have h0:=dN h0;refine .af [] T [] [.o 2 (.cells [iE a0.kind,iE a0.id,sE a0.name,iE a0.n,.gs (.own 100016) 1 (ah z1),iE k2.kind,sE k2.name,iE k2.n,lE 1 (ah k2.scopes),lE 5 (aj k2.kids),.gs (.own 100037) 11 (aG s4)])] ?_;cases h0;exact .rt hK
def qC:Nat→Core→Option (Int)
 | 0,_=>none
 | n+1,a0=>Option.bind (dY (fun(s2:Int) (i1:Nat) (x4:Core)=>(qC n x4).bind fun k10=>some (aY (s2+k10))) 0 a0.kids 1) (fun(s2:Int)=>some s2)
theorem Oe (n:Nat):∀(a0:Core) {r:Int},qC n a0=some r→aF X.E 34 [aE (aH a0)] [] (iE r) []:=by
 induction n with
 | zero=>intro a0 r h; cases h
 | succ n ih=>
  intro a0 r h0;rw[qC] at h0;refine .n Tryz.func34 (fun L ks low K hl hL hlen hK=>?_);refine .af [] T [(1,pw 1)] [.o 1 (.cells ((aH a0).map .d))] ?_;refine .a [] T [(3,iE 1)] ?_;refine .a [] T [(4,iE 0)] ?_;refine .lL h0 rfl [1] (fun i1 s2=>[(3,iE s2),(4,iE (i1:Int))]) n2 n2 [] (by kernel_rfl) (fun i1 s2 q3 hd5 VD h0=>?_);refine .a [.v (a0.kids.length:Int)] (A (bK.len' a0.kids) T) [(7,lE 11 (aG a0.kids)),(9,dE ((i1:Int)<(a0.kids.length:Int)))] ?_;refine .sn 7 bK a0.kids (by kernel_rfl) (fun hb8=>?_);refine .lc hd5 rfl (by kernel_rfl) (fun x4 q32 gJ hx4 hd6 pX=>?_) (fun gJ=>?_)
  ·subst gJ;obtain⟨y1,h1,hn1⟩:=bZ h0;obtain⟨k10,hk10,h1⟩:=bnd h1;refine .a [.cs (aH x4),.call [] (iE k10) [],.pl] (A (bK.iU hx4) (A (ih _ hk10) T)) [(3,iE (aY (s2+k10)))] ?_;refine .a [.v ((i1+1:Nat):Int)] (A (wn (i:=i1) (by omega)) T) [(4,iE ((i1+1:Nat):Int))] ?_;cases h1;exact .nL rfl (i1+1) _ hd6 pX hn1 [] (by kernel_rfl)
  ·subst gJ;have h0:=dN h0;refine .a [] T [(2,iE s2)] ?_;cases h0;exact .rt hK
def nT (n:Nat) (a0:List Int) (a1:Int):Option (Bool):=
 bH (bV (fun(s2:Unit) (i1:Nat) (x4:Int)=>((if x4=a1 then some (Sum.inl true) else some (Sum.inr ())):Option (Bool⊕Unit))) 0 a0 ()) (fun(s2:Unit)=>some false)
theorem uT (n:Nat):∀(a0:List Int) (a1:Int) {r:Bool},nT n a0 a1=some r→aF X.E 52 [lE 1 (ah a0),iE a1] [] (bE r) []:=by
 intro a0 a1 r h0;rw[nT] at h0;refine .n Tryz.func52 (fun L ks low K hl hL hlen hK=>?_);refine .a [] T [] ?_;refine .a [] T [(5,iE 0)] ?_;refine .lI h0 rfl [0,1] (fun i1 s2=>[(5,iE (i1:Int))]) n2 n2 [] (by kernel_rfl) (fun i1 s2 q3 hd5 VD h0=>?_);refine .a [.v (a0.length:Int)] (A (aI.len' a0) T) [(9,dE ((i1:Int)<(a0.length:Int)))] ?_;refine .sn 0 aI a0 (by kernel_rfl) (fun hb8=>?_);refine .lc hd5 rfl (by kernel_rfl) (fun x4 q32 gJ hx4 hd6 pX=>?_) (fun gJ=>?_)
 ·subst gJ;obtain⟨y1,h1,hw1,hn1⟩:=bf h0;refine .a [.cs [.v (.int .i64 x4)]] (A (aI.iU hx4) T) [(17,dE (x4=a1))] ?_;refine .jP h1 (fun iQ h1=>?_) (fun iQ h1=>?_)
  ·refine .a [] T [(4,bE true)] ?_;cases h1;cases hw1 _ rfl;exact .rt hK
  ·refine .a [.v ((i1+1:Nat):Int)] (A (wn (i:=i1) (by omega)) T) [(5,iE ((i1+1:Nat):Int))] ?_;cases h1;exact .nL rfl (i1+1) _ hd6 pX (hn1 _ rfl) [] (by kernel_rfl)
 ·subst gJ;have h0:=bM h0;refine .a [] T [(4,bE false)] ?_;cases h0;exact .rt hK
def tX (n:Nat) (a0:List Int) (a1:List Int):Option (Bool):=
 (if ¬(a0.length:Int)=(a1.length:Int) then some false else bH (bV (fun(s5:Unit) (i4:Nat) (x7:Int)=>((gQ a1 (i4:Int)).bind fun e12=>(if ¬x7=e12 then some (Sum.inl false) else some (Sum.inr ())):Option (Bool⊕Unit))) 0 a0 ()) (fun(s5:Unit)=>some true))
theorem vS (n:Nat):∀(a0:List Int) (a1:List Int) {r:Bool},tX n a0 a1=some r→aF X.E 86 [lE 1 (ah a0),lE 1 (ah a1)] [] (bE r) []:=by
 intro a0 a1 r h0;rw[tX] at h0;refine .n Tryz.func86 (fun L ks low K hl hL hlen hK=>?_);refine .a [] T [] ?_;refine .a [.v (a0.length:Int),.v (a1.length:Int)] (A (aI.len' a0) (A (aI.len' a1) T)) [(10,dE (¬(a0.length:Int)=(a1.length:Int)))] ?_;refine .sn 0 aI a0 (by kernel_rfl) (fun hb1=>?_);refine .sn 1 aI a1 (by kernel_rfl) (fun hb2=>?_);refine .jP h0 (fun hc3 h0=>?_) (fun hc3 h0=>?_)
 ·refine .a [] T [(4,bE false)] ?_;cases h0;exact .rt hK
 ·refine .a [] T [(5,iE 0)] ?_;refine .lI h0 rfl [0,1] (fun i4 s5=>[(5,iE (i4:Int))]) n2 n2 [] (by kernel_rfl) (fun i4 s5 q6 hd8 ZB h0=>?_);refine .a [.v (a0.length:Int)] (A (aI.len' a0) T) [(14,dE ((i4:Int)<(a0.length:Int)))] ?_;refine .lc hd8 rfl (by kernel_rfl) (fun x7 q62 bI hx7 hd9 JE=>?_) (fun bI=>?_)
  ·subst bI;obtain⟨y1,h1,hw1,hn1⟩:=bf h0;obtain⟨e12,yK,h1⟩:=bnd h1;refine .ad mixed [(2,[.cs [.v (.int .i64 x7)]]),(6,[.cs [.v (.int .i64 e12)]])] [] (A (aI.iU hx7) (A (aI.idx yK) T)) [(25,dE (¬x7=e12))] [] [] ?_;refine .jP h1 (fun hc13 h1=>?_) (fun hc13 h1=>?_)
   ·refine .a [] T [(4,bE false)] ?_;cases h1;cases hw1 _ rfl;exact .rt hK
   ·refine .a [.v ((i4+1:Nat):Int)] (A (wn (i:=i4) (by omega)) T) [(5,iE ((i4+1:Nat):Int))] ?_;cases h1;exact .nL rfl (i4+1) _ hd9 JE (hn1 _ rfl) [] (by kernel_rfl)
  ·subst bI;have h0:=bM h0;refine .a [] T [(4,bE true)] ?_;cases h0;exact .rt hK
def fD:Nat→Form→Form→Option (Bool)
 | 0,_,_=>none
 | n+1,a0,a1=>Option.bind ((if ¬a0.kind=a1.kind then some true else(if ¬a0.name=a1.name then some true else(if ¬a0.n=a1.n then some true else(tX n a0.scopes a1.scopes).bind fun k18=>(if(!k18)=true then some true else some (decide (¬(a0.kids.length:Int)=(a1.kids.length:Int))))))):Option (Bool)) (fun(o1:Bool)=>(if o1=true then some false else bH (bV (fun(s4:Unit) (i3:Nat) (x6:Form)=>((gQ a1.kids (i3:Int)).bind fun e12=>(fD n x6 e12).bind fun k13=>(if(!k13)=true then some (Sum.inl false) else some (Sum.inr ())):Option (Bool⊕Unit))) 0 a0.kids ()) (fun(s4:Unit)=>some true)))
theorem gX (n:Nat):∀(a0:Form) (a1:Form) {r:Bool},fD n a0 a1=some r→aF X.E 71 [aE (ak a0),aE (ak a1)] [] (bE r) []:=by
 induction n with
 | zero=>intro a0 a1 r h; cases h
 | succ n ih=>
  intro a0 a1 r h0;rw[fD] at h0;refine .n Tryz.func71 (fun L ks low K hl hL hlen hK=>?_);refine .af [] T [(2,pw 2),(3,pw 3)] [.o 2 (.cells ((ak a0).map .d)),.o 3 (.cells ((ak a1).map .d))] ?_;refine .bP h0 rfl [2,3] (fun o1=>[(41,bE o1)]) n1 n1 (fun o1 h0=>?_) (fun y1 h1 hj1=>?_)
  ·refine .jT h0 (fun hc2 h0=>?_) (fun hc2 h0=>?_)
   ·refine .a [] T [(4,bE false)] ?_;cases h0;exact .rt hK
   ·refine .a [] T [(5,iE 0)] ?_;refine .lI h0 rfl [2,3] (fun i3 s4=>[(5,iE (i3:Int))]) n2 n2 [] (by kernel_rfl) (fun i3 s4 q5 hd7 hi9 h0=>?_);refine .a [.v (a0.kids.length:Int)] (A (aA.len' a0.kids) T) [(44,lE 5 (aj a0.kids)),(46,dE ((i3:Int)<(a0.kids.length:Int)))] ?_;refine .sn 44 aA a0.kids (by kernel_rfl) (fun Au=>?_);refine .lc hd7 rfl (by kernel_rfl) (fun x6 KT bI hx6 hd8 jo=>?_) (fun bI=>?_)
    ·subst bI;obtain⟨y1,h1,hw1,hn1⟩:=bf h0;obtain⟨e12,yK,h1⟩:=bnd h1;obtain⟨k13,oG,h1⟩:=bnd h1;refine .ad mixed [(3,[.cs (ak x6)]),(8,[.cs (ak e12)]),(10,[.call [] (bE k13) []])] [] (A (aA.iU hx6) (A (aA.idx yK) (A (ih _ _ oG) T))) [(60,bE (!k13))] [] [] ?_;refine .jT h1 (fun pW h1=>?_) (fun pW h1=>?_)
     ·refine .a [] T [(4,bE false)] ?_;cases h1;cases hw1 _ rfl;exact .rt hK
     ·refine .a [.v ((i3+1:Nat):Int)] (A (wn (i:=i3) (by omega)) T) [(5,iE ((i3+1:Nat):Int))] ?_;cases h1;exact .nL rfl (i3+1) _ hd8 jo (hn1 _ rfl) [] (by kernel_rfl)
    ·subst bI;have h0:=bM h0;refine .a [] T [(4,bE true)] ?_;cases h0;exact .rt hK
  ·by_cases g15:¬a0.kind=a1.kind
   ·have h1:=aK g15 h1;refine .a (rb 27 true []) (R 6 (dt g15) (R 21 B1 T)) [(41,bE true)] ?_;cases h1;exact .lg hj1 []
   ·have h1:=aN g15 h1;by_cases g16:¬a0.name=a1.name
    ·have h1:=aK g16 h1;refine .a (rb 6 false (rb 21 true [])) (R 6 (df g15) (R 6 (dt g16) (R 15 B1 T))) [(41,bE true)] ?_;cases h1;exact .lg hj1 []
    ·have h1:=aN g16 h1;by_cases g17:¬a0.n=a1.n
     ·have h1:=aK g17 h1;refine .a (rb 12 false (rb 15 true [])) (R 6 (df g15) (R 6 (df g16) (R 7 (dt g17) (R 8 B1 T)))) [(41,bE true)] ?_;cases h1;exact .lg hj1 []
     ·have h1:=aN g17 h1;obtain⟨k18,ql,h1⟩:=bnd h1;by_cases g19:(!k18)=true
      ·have h1:=aK g19 h1;refine .a (rb 17 false (.call [] (bE k18) []::(.b false::(.b false::(rb 8 true []))))) (R 6 (df g15) (R 6 (df g16) (R 4 (df g17) (A (A (df g17) (vS n _ _ ql)) (R 2 (df g17) (R 8 g19 T)))))) [(41,bE true)] ?_;cases h1;exact .lg hj1 []
      ·have h1:=aN g19 h1;refine .a (rb 17 false (.call [] (bE k18) []::(rb 5 false (.v (a0.kids.length:Int)::(rb 3 false [.v (a1.kids.length:Int),.b false,.b false]))))) (R 6 (df g15) (R 6 (df g16) (R 4 (df g17) (A (A (df g17) (vS n _ _ ql)) (R 2 (df g17) (R 2 (Bool.eq_false_iff.2 g19) (A (A (Bool.eq_false_iff.2 g19) (aA.len' a0.kids)) (R 2 (Bool.eq_false_iff.2 g19) (A (A (Bool.eq_false_iff.2 g19) (aA.len' a1.kids)) (R 2 (Bool.eq_false_iff.2 g19) T)))))))))) [(41,dE (¬(a0.kids.length:Int)=(a1.kids.length:Int)))] ?_;cases h1;exact .lg hj1 []
def lq:Nat→Form→Option (Int)
 | 0,_=>none
 | n+1,a0=>Option.bind (dY (fun(s2:Int) (i1:Nat) (x4:Form)=>(lq n x4).bind fun k10=>some (aY (s2+k10))) 0 a0.kids 1) (fun(s2:Int)=>some s2)
theorem Ez (n:Nat):∀(a0:Form) {r:Int},lq n a0=some r→aF X.E 85 [aE (ak a0)] [] (iE r) []:=by
 induction n with
 | zero=>intro a0 r h; cases h
 | succ n ih=>
  intro a0 r h0;rw[lq] at h0;refine .n Tryz.func85 (fun L ks low K hl hL hlen hK=>?_);refine .af [] T [(1,pw 1)] [.o 1 (.cells ((ak a0).map .d))] ?_;refine .a [] T [(3,iE 1)] ?_;refine .a [] T [(4,iE 0)] ?_;refine .lL h0 rfl [1] (fun i1 s2=>[(3,iE s2),(4,iE (i1:Int))]) n2 n2 [] (by kernel_rfl) (fun i1 s2 q3 hd5 VD h0=>?_);refine .a [.v (a0.kids.length:Int)] (A (aA.len' a0.kids) T) [(7,lE 5 (aj a0.kids)),(9,dE ((i1:Int)<(a0.kids.length:Int)))] ?_;refine .sn 7 aA a0.kids (by kernel_rfl) (fun hb8=>?_);refine .lc hd5 rfl (by kernel_rfl) (fun x4 q32 gJ hx4 hd6 pX=>?_) (fun gJ=>?_)
  ·subst gJ;obtain⟨y1,h1,hn1⟩:=bZ h0;obtain⟨k10,hk10,h1⟩:=bnd h1;refine .a [.cs (ak x4),.call [] (iE k10) [],.pl] (A (aA.iU hx4) (A (ih _ hk10) T)) [(3,iE (aY (s2+k10)))] ?_;refine .a [.v ((i1+1:Nat):Int)] (A (wn (i:=i1) (by omega)) T) [(4,iE ((i1+1:Nat):Int))] ?_;cases h1;exact .nL rfl (i1+1) _ hd6 pX hn1 [] (by kernel_rfl)
  ·subst gJ;have h0:=dN h0;refine .a [] T [(2,iE s2)] ?_;cases h0;exact .rt hK
def rJ (n:Nat) (a0:Int) (a1:Bool):Option (Bool):=
 Option.bind ((if a0≥97 then(if a0≤122 then some true else(if a0=42 then some true else(if a0=63 then some true else(if a0=61 then some true else(if a0=43 then some true else some (decide (a0=60))))))) else(if a0=42 then some true else(if a0=63 then some true else(if a0=61 then some true else(if a0=43 then some true else some (decide (a0=60))))))):Option (Bool)) (fun(o1:Bool)=>(if o1=true then some true else Option.bind ((if(!a1)=true then(if a0≥48 then(if a0≤57 then some true else some (decide (a0=45))) else some (decide (a0=45))) else some false):Option (Bool)) (fun(o3:Bool)=>some o3)))
theorem KY (n:Nat):∀(a0:Int) (a1:Bool) {r:Bool},rJ n a0 a1=some r→aF X.E 83 [.d (.v (.int .u8 a0)),bE a1] [] (bE r) []:=by
 intro a0 a1 r h0;rw[rJ] at h0;refine .n Tryz.func83 (fun L ks low K hl hL hlen hK=>?_);refine .a [] T [] ?_;refine .bP h0 rfl [0,1] (fun o1=>[(30,bE o1)]) n1 n1 (fun o1 h0=>?_) (fun y1 h1 hj1=>?_)
 ·refine .jT h0 (fun hc2 h0=>?_) (fun hc2 h0=>?_)
  ·refine .a [] T [(4,bE true)] ?_;cases h0;exact .rt hK
  ·refine .bP h0 rfl [] (fun o3=>[(4,bE o3)]) n1 n1 (fun o3 h0=>?_) (fun y1 h1 hj1=>?_)
   ·cases h0;exact .rt hK
   ·by_cases g4:(!a1)=true
    ·have h1:=aK g4 h1;by_cases g5:a0≥48
     ·have h1:=aK g5 h1;by_cases g6:a0≤57
      ·have h1:=aK g6 h1;refine .a (rb 13 true []) (R 3 g4 (R 2 (dt g5) (A (A g4 (dt g5)) (A g4 (R 2 (dt g6) (A (A g4 (dt g6)) (A g4 T))))))) [(4,bE true)] ?_;cases h1;exact .lg hj1 []
      ·have h1:=aN g6 h1;refine .a (rb 8 true [.b false,.b false,.b true,.b false,.b true]) (R 3 g4 (R 2 (dt g5) (A (A g4 (dt g5)) (A g4 (R 2 (df g6) (A (A g4 (df g6)) (A g4 T))))))) [(4,dE (a0=45))] ?_;cases h1;exact .lg hj1 []
     ·have h1:=aN g5 h1;refine .a (rb 3 true [.b false,.b false,.b true,.b false,.b true,.b false,.b false,.b true,.b false,.b true]) (R 3 g4 (R 2 (df g5) (A (A g4 (df g5)) (A g4 (R 2 B0 (A (A g4 B0) (A g4 T))))))) [(4,dE (a0=45))] ?_;cases h1;exact .lg hj1 []
    ·have h1:=aN g4 h1;refine .a (rb 7 false []) (R 7 (Bool.eq_false_iff.2 g4) T) [(4,bE false)] ?_;cases h1;exact .lg hj1 []
 ·by_cases g7:a0≥97
  ·have h1:=aK g7 h1;by_cases g8:a0≤122
   ·have h1:=aK g8 h1;refine .a (rb 18 true []) (R 3 (dt g7) (R 3 (dt g8) (R 12 B1 T))) [(30,bE true)] ?_;cases h1;exact .lg hj1 []
   ·have h1:=aN g8 h1;by_cases g9:a0=42
    ·have h1:=aK g9 h1;refine .a (rb 3 true (rb 3 false (rb 12 true []))) (R 3 (dt g7) (R 3 (df g8) (R 3 (dt g9) (R 9 B1 T)))) [(30,bE true)] ?_;cases h1;exact .lg hj1 []
    ·have h1:=aN g9 h1;by_cases g10:a0=63
     ·have h1:=aK g10 h1;refine .a (rb 3 true (rb 6 false (rb 9 true []))) (R 3 (dt g7) (R 3 (df g8) (R 3 (df g9) (R 3 (dt g10) (R 6 B1 T))))) [(30,bE true)] ?_;cases h1;exact .lg hj1 []
     ·have h1:=aN g10 h1;by_cases g11:a0=61
      ·have h1:=aK g11 h1;refine .a (rb 3 true (rb 9 false (rb 6 true []))) (R 3 (dt g7) (R 3 (df g8) (R 3 (df g9) (R 3 (df g10) (R 3 (dt g11) (R 3 B1 T)))))) [(30,bE true)] ?_;cases h1;exact .lg hj1 []
      ·have h1:=aN g11 h1;by_cases g12:a0=43
       ·have h1:=aK g12 h1;refine .a (rb 3 true (rb 12 false (rb 3 true []))) (R 3 (dt g7) (R 3 (df g8) (R 3 (df g9) (R 3 (df g10) (R 3 (df g11) (R 3 (dt g12) T)))))) [(30,bE true)] ?_;cases h1;exact .lg hj1 []
       ·have h1:=aN g12 h1;refine .a (rb 3 true (rb 15 false [])) (R 3 (dt g7) (R 3 (df g8) (R 3 (df g9) (R 3 (df g10) (R 3 (df g11) (R 3 (df g12) T)))))) [(30,dE (a0=60))] ?_;cases h1;exact .lg hj1 []
  ·have h1:=aN g7 h1;by_cases g13:a0=42
   ·have h1:=aK g13 h1;refine .a (rb 6 false (rb 12 true [])) (R 3 (df g7) (R 3 B0 (R 3 (dt g13) (R 9 B1 T)))) [(30,bE true)] ?_;cases h1;exact .lg hj1 []
   ·have h1:=aN g13 h1;by_cases g14:a0=63
    ·have h1:=aK g14 h1;refine .a (rb 9 false (rb 9 true [])) (R 3 (df g7) (R 3 B0 (R 3 (df g13) (R 3 (dt g14) (R 6 B1 T))))) [(30,bE true)] ?_;cases h1;exact .lg hj1 []
    ·have h1:=aN g14 h1;by_cases g15:a0=61
     ·have h1:=aK g15 h1;refine .a (rb 12 false (rb 6 true [])) (R 3 (df g7) (R 3 B0 (R 3 (df g13) (R 3 (df g14) (R 3 (dt g15) (R 3 B1 T)))))) [(30,bE true)] ?_;cases h1;exact .lg hj1 []
     ·have h1:=aN g15 h1;by_cases g16:a0=43
      ·have h1:=aK g16 h1;refine .a (rb 15 false (rb 3 true [])) (R 3 (df g7) (R 3 B0 (R 3 (df g13) (R 3 (df g14) (R 3 (df g15) (R 3 (dt g16) T)))))) [(30,bE true)] ?_;cases h1;exact .lg hj1 []
      ·have h1:=aN g16 h1;refine .a (rb 18 false []) (R 3 (df g7) (R 3 B0 (R 3 (df g13) (R 3 (df g14) (R 3 (df g15) (R 3 (df g16) T)))))) [(30,dE (a0=60))] ?_;cases h1;exact .lg hj1 []
def jf (n:Nat) (a0:List UInt8):Option (Bool):=
 Option.bind ((if a0=[46,46,46] then some true else some (decide (a0=[95]))):Option (Bool)) (fun(o1:Bool)=>(if o1=true then some true else iterM n (fun(s3:Int)=>(Option.bind ((if s3<(a0.length:Int) then some (decide (s3≤12)) else some false):Option (Bool)) (fun(o5:Bool)=>(if o5=true then(gQ a0 s3).bind fun y7=>(rJ n (y7.toNat:Int) (decide (s3=0))).bind fun k8=>(if(!k8)=true then some (Sum.inl false) else some (Sum.inr (aY (s3+1)))) else Option.bind ((if(a0.length:Int)≥1 then some (decide ((a0.length:Int)≤12)) else some false):Option (Bool)) (fun(kM:Bool)=>some (Sum.inl kM)))):Option (Bool⊕Int))) 0))
theorem dG (n:Nat):∀(a0:List UInt8) {r:Bool},jf n a0=some r→aF X.E 69 [sE a0] [] (bE r) []:=by
 intro a0 r h0;rw[jf] at h0;refine .n Tryz.func69 (fun L ks low K hl hL hlen hK=>?_);refine .a [] T [] ?_;refine .bP h0 rfl [0] (fun o1=>[(9,bE o1)]) n1 n1 (fun o1 h0=>?_) (fun y1 h1 hj1=>?_)
 ·refine .jT h0 (fun hc2 h0=>?_) (fun hc2 h0=>?_)
  ·refine .a [] T [(2,bE true)] ?_;cases h0;exact .rt hK
  ·refine .a [] T [(3,iE 0)] ?_;refine .it h0 rfl [0] (fun s3=>[(3,iE s3)]) n1 n1 [] (by kernel_rfl) (fun nk4 s3 h0=>?_);obtain⟨y1,h1,hw1,hn1⟩:=bW h0;refine .bP h1 rfl [0,3] (fun o5=>[(17,bE o5)]) n1 n1 (fun o5 h1=>?_) (fun y2 h2 hj2=>?_)
   ·refine .jT h1 (fun hc6 h1=>?_) (fun hc6 h1=>?_)
    ·obtain⟨y7,hy7,h1⟩:=bnd h1;obtain⟨k8,hk8,h1⟩:=bnd h1;refine .a [.D8 y7,.call [] (bE k8) []] (A (EU hy7) (A (KY n _ _ hk8) T)) [(26,bE (!k8))] ?_;refine .jT h1 (fun gJ h1=>?_) (fun gJ h1=>?_)
     ·refine .a [] T [(2,bE false)] ?_;cases h1;cases hw1 _ rfl;exact .rt hK
     ·refine .a [.pl] T [(3,iE (aY (s3+1)))] ?_;cases h1;exact .nI rfl _ (hn1 _ rfl) [] (by kernel_rfl)
    ·refine .bP h1 rfl [] (fun kM=>[(2,bE kM)]) n1 n1 (fun kM h1=>?_) (fun y2 h2 hj2=>?_)
     ·cases h1;cases hw1 _ rfl;exact .rt hK
     ·by_cases g11:(a0.length:Int)≥1
      ·have h2:=aK g11 h2;refine .a (rb 4 true []) (R 4 (dt g11) T) [(2,dE ((a0.length:Int)≤12))] ?_;cases h2;exact .lg hj2 []
      ·have h2:=aN g11 h2;refine .a (rb 4 false []) (R 4 (df g11) T) [(2,bE false)] ?_;cases h2;exact .lg hj2 []
   ·by_cases g12:s3<(a0.length:Int)
    ·have h2:=aK g12 h2;refine .a (rb 3 true []) (R 3 (dt g12) T) [(17,dE (s3≤12))] ?_;cases h2;exact .lg hj2 []
    ·have h2:=aN g12 h2;refine .a (rb 3 false []) (R 3 (df g12) T) [(17,bE false)] ?_;cases h2;exact .lg hj2 []
 ·by_cases g13:a0=[46,46,46]
  ·have h1:=aK g13 h1;refine .a (rb 3 true []) (R 3 (dt g13) T) [(9,bE true)] ?_;cases h1;exact .lg hj1 []
  ·have h1:=aN g13 h1;refine .a (rb 3 false []) (R 3 (df g13) T) [(9,dE (a0=[95]))] ?_;cases h1;exact .lg hj1 []
def lu (n:Nat) (a0:List Int):Option (Bool):=
 iterM n (fun(s1:Int)=>(Option.bind ((if s1<(a0.length:Int) then some (decide (s1≤24)) else some false):Option (Bool)) (fun(o3:Bool)=>(if o3=true then Option.bind ((gQ a0 s1).bind fun e7=>(if e7<1 then some true else(if e7>99 then some true else(if s1>0 then(gQ a0 (aY (s1-1))).bind fun e11=>some (decide (e7≤e11)) else some false))):Option (Bool)) (fun(o5:Bool)=>(if o5=true then some (Sum.inl false) else some (Sum.inr (aY (s1+1))))) else some (Sum.inl (decide ((a0.length:Int)≤24))))):Option (Bool⊕Int))) 0
theorem iH (n:Nat):∀(a0:List Int) {r:Bool},lu n a0=some r→aF X.E 107 [lE 1 (ah a0)] [] (bE r) []:=by
 intro a0 r h0;rw[lu] at h0;refine .n Tryz.func107 (fun L ks low K hl hL hlen hK=>?_);refine .a [] T [] ?_;refine .a [] T [(3,iE 0)] ?_;refine .it h0 rfl [0] (fun s1=>[(3,iE s1)]) n1 n1 [] (by kernel_rfl) (fun XV s1 h0=>?_);obtain⟨y1,h1,hw1,hn1⟩:=bW h0;refine .bP h1 rfl [0,3] (fun o3=>[(11,bE o3)]) n1 n1 (fun o3 h1=>?_) (fun y2 h2 hj2=>?_)
 ·refine .jT h1 (fun hc4 h1=>?_) (fun hc4 h1=>?_)
  ·refine .bP h1 rfl [0,3] (fun o5=>[(41,bE o5)]) n1 n1 (fun o5 h1=>?_) (fun y2 h2 hj2=>?_)
   ·refine .jT h1 (fun hc6 h1=>?_) (fun hc6 h1=>?_)
    ·refine .a [] T [(2,bE false)] ?_;cases h1;cases hw1 _ rfl;exact .rt hK
    ·refine .a [.pl] T [(3,iE (aY (s1+1)))] ?_;cases h1;exact .nI rfl _ (hn1 _ rfl) [] (by kernel_rfl)
   ·obtain⟨e7,EC,h2⟩:=bnd h2;by_cases g8:e7<1
    ·have h2:=aK g8 h2;refine .ad mixed ((2,[.cs [.v (.int .i64 e7)]])::(qb 6 6 true (qb 13 3 true (qb 26 2 true [])))) [] (A (aI.idx EC) (R 6 (dt g8) (R 5 B1 T))) [(41,bE true)] [] [] ?_;cases h2;exact .lg hj2 []
    ·have h2:=aN g8 h2;by_cases g9:e7>99
     ·have h2:=aK g9 h2;refine .ad mixed ((2,[.cs [.v (.int .i64 e7)]])::(qb 6 2 false ((8,[.b false,.cs [.v (.int .i64 e7)]])::(qb 9 3 false (qb 13 3 true (qb 26 2 true [])))))) [] (A (aI.idx EC) (R 2 (df g8) (A (A (df g8) (aI.idx EC)) (R 3 (df g8) (R 5 (dt g9) T))))) [(41,bE true)] [] [] ?_;cases h2;exact .lg hj2 []
     ·have h2:=aN g9 h2;by_cases g10:s1>0
      ·have h2:=aK g10 h2;obtain⟨e11,ZG,h2⟩:=bnd h2;refine .ad mixed ((2,[.cs [.v (.int .i64 e7)]])::(qb 6 2 false ((8,[.b false,.cs [.v (.int .i64 e7)]])::(qb 9 3 false (qb 13 3 false (qb 16 2 true ((18,[.b true,.cs [.v (.int .i64 e7)]])::(qb 19 3 true ((22,[.b true,.pl])::((23,[.b true,.cs [.v (.int .i64 e11)]])::(qb 24 2 true [(26,[.b false,.b true]),(27,[.b false])]))))))))))) [] (A (aI.idx EC) (R 2 (df g8) (A (A (df g8) (aI.idx EC)) (R 3 (df g8) (R 3 (df g9) (R 2 (dt g10) (A (A (dt g10) (aI.idx EC)) (R 4 (dt g10) (A (A (dt g10) (aI.idx ZG)) (R 2 (dt g10) (A (A (df g9) (dt g10)) (A (df g9) T)))))))))))) [(41,dE (e7≤e11))] [] [] ?_;cases h2;exact .lg hj2 []
      ·have h2:=aN g10 h2;refine .ad mixed ((2,[.cs [.v (.int .i64 e7)]])::(qb 6 2 false ((8,[.b false,.cs [.v (.int .i64 e7)]])::(qb 9 3 false (qb 13 13 false [(26,[.b false,.b false]),(27,[.b false])]))))) [] (A (aI.idx EC) (R 2 (df g8) (A (A (df g8) (aI.idx EC)) (R 3 (df g8) (R 3 (df g9) (R 10 (df g10) (A (A (df g9) (df g10)) (A (df g9) T)))))))) [(41,bE false)] [] [] ?_;cases h2;exact .lg hj2 []
  ·refine .a [.v (a0.length:Int)] (A (aI.len' a0) T) [(2,dE ((a0.length:Int)≤24))] ?_;refine .sn 0 aI a0 (by kernel_rfl) (fun ajj=>?_);cases h1;cases hw1 _ rfl;exact .rt hK
 ·by_cases g13:s1<(a0.length:Int)
  ·have h2:=aK g13 h2;refine .a (.v (a0.length:Int)::(rb 3 true [])) (A (aI.len' a0) (R 3 (dt g13) T)) [(11,dE (s1≤24))] ?_;refine .sn 0 aI a0 (by kernel_rfl) (fun ajk=>?_);cases h2;exact .lg hj2 []
  ·have h2:=aN g13 h2;refine .a (.v (a0.length:Int)::(rb 3 false [])) (A (aI.len' a0) (R 3 (df g13) T)) [(11,bE false)] ?_;refine .sn 0 aI a0 (by kernel_rfl) (fun alP=>?_);cases h2;exact .lg hj2 []
def yM:Nat→Form→Int→Option (Bool)
 | 0,_,_=>none
 | n+1,a0,a1=>(if a1=0 then some false else(if a0.kind=1 then Option.bind ((jf n a0.name).bind fun k4=>(if k4=true then(if a0.n=0 then(lu n a0.scopes).bind fun k7=>(if k7=true then some (decide ((a0.kids.length:Int)=0)) else some false) else some false) else some false):Option (Bool)) (fun(o3:Bool)=>some o3) else(if a0.kind=2 then Option.bind ((if a0.name=[] then(if a0.n≥0 then(if a0.n≤999 then(if(a0.scopes.length:Int)=0 then some (decide ((a0.kids.length:Int)=0)) else some false) else some false) else some false) else some false):Option (Bool)) (fun(kM:Bool)=>some kM) else Option.bind ((if ¬a0.kind=3 then some true else(if ¬a0.name=[] then some true else(if ¬a0.n=0 then some true else some (decide (¬(a0.scopes.length:Int)=0))))):Option (Bool)) (fun(BM:Bool)=>(if BM=true then some false else bH (bV (fun(s18:Unit) (i17:Nat) (x20:Form)=>((yM n x20 (aY (a1-1))).bind fun k26=>(if(!k26)=true then some (Sum.inl false) else some (Sum.inr ())):Option (Bool⊕Unit))) 0 a0.kids ()) (fun(s18:Unit)=>some true))))))
theorem MK (n:Nat):∀(a0:Form) (a1:Int) {r:Bool},yM n a0 a1=some r→aF X.E 84 [aE (ak a0),iE a1] [] (bE r) []:=by
 induction n with
 | zero=>intro a0 a1 r h; cases h
 | succ n ih=>
  intro a0 a1 r h0;rw[yM] at h0;refine .n Tryz.func84 (fun L ks low K hl hL hlen hK=>?_);refine .af [] T [(2,pw 2)] [.o 2 (.cells ((ak a0).map .d))] ?_;refine .a [] T [(7,dE (a1=0))] ?_;refine .jP h0 (fun hc1 h0=>?_) (fun hc1 h0=>?_)
  ·refine .a [] T [(4,bE false)] ?_;cases h0;exact .rt hK
  ·refine .a [] T [(9,iE a0.kind)] ?_;refine .a [] T [(10,dE (a0.kind=1))] ?_;refine .jP h0 (fun hc2 h0=>?_) (fun hc2 h0=>?_)
   ·refine .bP h0 rfl [] (fun o3=>[(4,bE o3)]) n1 n1 (fun o3 h0=>?_) (fun y1 h1 hj1=>?_)
    ·cases h0;exact .rt hK
    ·obtain⟨k4,hk4,h1⟩:=bnd h1;by_cases g5:k4=true
     ·have h1:=aK g5 h1;by_cases g6:a0.n=0
      ·have h1:=aK g6 h1;obtain⟨k7,MJ,h1⟩:=bnd h1;by_cases g8:k7=true
       ·have h1:=aK g8 h1;refine .a (.call [] (bE k4) []::(rb 7 true (.call [] (bE k7) []::(rb 4 true [.v (a0.kids.length:Int),.b true,.b true])))) (A (dG n _ hk4) (R 4 g5 (R 2 (dt g6) (A (A (dt g6) (iH n _ MJ)) (A (dt g6) (R 2 g8 (A (A g8 (aA.len' a0.kids)) (R 2 g8 T)))))))) [(4,dE ((a0.kids.length:Int)=0))] ?_;cases h1;exact .lg hj1 []
       ·have h1:=aN g8 h1;refine .a (.call [] (bE k4) []::(rb 7 true (.call [] (bE k7) []::(.b true::(rb 5 false []))))) (A (dG n _ hk4) (R 4 g5 (R 2 (dt g6) (A (A (dt g6) (iH n _ MJ)) (A (dt g6) (R 5 (Bool.eq_false_iff.2 g8) T)))))) [(4,bE false)] ?_;cases h1;exact .lg hj1 []
      ·have h1:=aN g6 h1;refine .a (.call [] (bE k4) []::(rb 4 true (rb 9 false []))) (A (dG n _ hk4) (R 4 g5 (R 4 (df g6) (R 5 B0 T)))) [(4,bE false)] ?_;cases h1;exact .lg hj1 []
     ·have h1:=aN g5 h1;refine .a (.call [] (bE k4) []::(rb 13 false [])) (A (dG n _ hk4) (R 4 (Bool.eq_false_iff.2 g5) (R 9 B0 T))) [(4,bE false)] ?_;cases h1;exact .lg hj1 []
   ·refine .a [] T [(31,dE (a0.kind=2))] ?_;refine .jP h0 (fun gJ h0=>?_) (fun gJ h0=>?_)
    ·refine .bP h0 rfl [] (fun kM=>[(4,bE kM)]) n1 n1 (fun kM h0=>?_) (fun y1 h1 hj1=>?_)
     ·cases h0;exact .rt hK
     ·by_cases g11:a0.name=[]
      ·have h1:=aK g11 h1;by_cases g12:a0.n≥0
       ·have h1:=aK g12 h1;by_cases g13:a0.n≤999
        ·have h1:=aK g13 h1;by_cases g14:(a0.scopes.length:Int)=0
         ·have h1:=aK g14 h1;refine .a (rb 11 true (.v (a0.scopes.length:Int)::(rb 5 true [.v (a0.kids.length:Int),.b true,.b true]))) (R 4 (dt g11) (R 4 (dt g12) (R 2 (dt g13) (A (A (dt g13) (aI.len' a0.scopes)) (R 2 (dt g13) (R 2 (dt g14) (A (A (dt g14) (aA.len' a0.kids)) (R 2 (dt g14) T)))))))) [(4,dE ((a0.kids.length:Int)=0))] ?_;cases h1;exact .lg hj1 []
         ·have h1:=aN g14 h1;refine .a (rb 11 true (.v (a0.scopes.length:Int)::(.b true::(.b true::(rb 5 false []))))) (R 4 (dt g11) (R 4 (dt g12) (R 2 (dt g13) (A (A (dt g13) (aI.len' a0.scopes)) (R 2 (dt g13) (R 5 (df g14) T)))))) [(4,bE false)] ?_;cases h1;exact .lg hj1 []
        ·have h1:=aN g13 h1;refine .a (rb 8 true (rb 10 false [])) (R 4 (dt g11) (R 4 (dt g12) (R 5 (df g13) (R 5 B0 T)))) [(4,bE false)] ?_;cases h1;exact .lg hj1 []
       ·have h1:=aN g12 h1;refine .a (rb 4 true (rb 14 false [])) (R 4 (dt g11) (R 4 (df g12) (R 10 B0 T))) [(4,bE false)] ?_;cases h1;exact .lg hj1 []
      ·have h1:=aN g11 h1;refine .a (rb 18 false []) (R 4 (df g11) (R 14 B0 T)) [(4,bE false)] ?_;cases h1;exact .lg hj1 []
    ·refine .bP h0 rfl [1,2] (fun BM=>[(76,bE BM)]) n1 n1 (fun BM h0=>?_) (fun y1 h1 hj1=>?_)
     ·refine .jT h0 (fun hc16 h0=>?_) (fun hc16 h0=>?_)
      ·refine .a [] T [(4,bE false)] ?_;cases h0;exact .rt hK
      ·refine .a [] T [(5,iE 0)] ?_;refine .lI h0 rfl [1,2] (fun i17 s18=>[(5,iE (i17:Int))]) n2 n2 [] (by kernel_rfl) (fun i17 s18 q19 aew ajl h0=>?_);refine .a [.v (a0.kids.length:Int)] (A (aA.len' a0.kids) T) [(79,lE 5 (aj a0.kids)),(81,dE ((i17:Int)<(a0.kids.length:Int)))] ?_;refine .sn 79 aA a0.kids (by kernel_rfl) (fun agN=>?_);refine .lc aew rfl (by kernel_rfl) (fun x20 ajm hc25 acd aex ZH=>?_) (fun hc25=>?_)
       ·subst hc25;obtain⟨y1,h1,hw1,hn1⟩:=bf h0;obtain⟨k26,FH,h1⟩:=bnd h1;refine .a [.cs (ak x20),.pl,.call [] (bE k26) []] (A (aA.iU acd) (A (ih _ _ FH) T)) [(92,bE (!k26))] ?_;refine .jT h1 (fun hc27 h1=>?_) (fun hc27 h1=>?_)
        ·refine .a [] T [(4,bE false)] ?_;cases h1;cases hw1 _ rfl;exact .rt hK
        ·refine .a [.v ((i17+1:Nat):Int)] (A (wn (i:=i17) (by omega)) T) [(5,iE ((i17+1:Nat):Int))] ?_;cases h1;exact .nL rfl (i17+1) _ aex ZH (hn1 _ rfl) [] (by kernel_rfl)
       ·subst hc25;have h0:=bM h0;refine .a [] T [(4,bE true)] ?_;cases h0;exact .rt hK
     ·by_cases sQ:¬a0.kind=3
      ·have h1:=aK sQ h1;refine .a (rb 13 true []) (R 4 (dt sQ) (R 9 B1 T)) [(76,bE true)] ?_;cases h1;exact .lg hj1 []
      ·have h1:=aN sQ h1;by_cases Az:¬a0.name=[]
       ·have h1:=aK Az h1;refine .a (rb 4 false (rb 9 true [])) (R 4 (df sQ) (R 4 (dt Az) (R 5 B1 T))) [(76,bE true)] ?_;cases h1;exact .lg hj1 []
       ·have h1:=aN Az h1;by_cases jR:¬a0.n=0
        ·have h1:=aK jR h1;refine .a (rb 8 false (rb 5 true [])) (R 4 (df sQ) (R 4 (df Az) (R 5 (dt jR) T))) [(76,bE true)] ?_;cases h1;exact .lg hj1 []
        ·have h1:=aN jR h1;refine .a (rb 11 false [.v (a0.scopes.length:Int),.b false,.b false]) (R 4 (df sQ) (R 4 (df Az) (R 2 (df jR) (A (A (df jR) (aI.len' a0.scopes)) (R 2 (df jR) T))))) [(76,dE (¬(a0.scopes.length:Int)=0))] ?_;cases h1;exact .lg hj1 []
def bT (n:Nat) (a0:Form):Option (Bool):=
 Option.bind ((yM n a0 40).bind fun k2=>(if k2=true then(lq n a0).bind fun k4=>some (decide (k4≤400)) else some false):Option (Bool)) (fun(o1:Bool)=>some o1)
theorem aQ (n:Nat):∀(a0:Form) {r:Bool},bT n a0=some r→aF X.E 70 [aE (ak a0)] [] (bE r) []:=by
 intro a0 r h0;rw[bT] at h0;refine .n Tryz.func70 (fun L ks low K hl hL hlen hK=>?_);refine .af [] T [(1,pw 1)] [.o 1 (.cells ((ak a0).map .d))] ?_;refine .bP h0 rfl [] (fun o1=>[(2,bE o1)]) n1 n1 (fun o1 h0=>?_) (fun y1 h1 hj1=>?_)
 ·cases h0;exact .rt hK
 ·obtain⟨k2,hk2,h1⟩:=bnd h1;by_cases g3:k2=true
  ·have h1:=aK g3 h1;obtain⟨k4,hk4,h1⟩:=bnd h1;refine .a [.call [] (bE k2) [],.b true,.b true,.call [] (iE k4) [],.b true,.b true] (A (MK n _ _ hk2) (A g3 (A (A g3 (Ez n _ hk4)) (R 2 g3 T)))) [(2,dE (k4≤400))] ?_;cases h1;exact .lg hj1 []
  ·have h1:=aN g3 h1;refine .a (.call [] (bE k2) []::(rb 4 false [])) (A (MK n _ _ hk2) (R 4 (Bool.eq_false_iff.2 g3) T)) [(2,bE false)] ?_;cases h1;exact .lg hj1 []
def gY:Nat→Form→Option (Form)
 | 0,_=>none
 | n+1,a0=>Option.bind (dY (fun(s2:List Form) (i1:Nat) (x4:Form)=>(gY n x4).bind fun k10=>(jH 80 s2 [k10]).bind fun z11=>some z11) 0 a0.kids []) (fun(s2:List Form)=>some (⟨a0.kind,a0.name,a0.n,[],s2⟩:Form))
theorem pY (n:Nat):∀(a0:Form) {r:Form},gY n a0=some r→aF X.E 72 [aE (ak a0)] [] (aE (ak r)) []:=by
 induction n with
 | zero=>intro a0 r h; cases h
 | succ n ih=>
  intro a0 r h0;rw[gY] at h0;refine .n Tryz.func72 (fun L ks low K hl hL hlen hK=>?_);refine .af [] T [(1,pw 1),(2,pw 2)] [.o 1 (.cells ((ak a0).map .d)),.o 2 (.cells [iE 0,sE [],iE 0,fE 1 (ah []),fE 5 (aj [])])] ?_;refine .af [] T [(3,pw 3)] [.o 3 (.cells [iE a0.kind,sE a0.name,iE a0.n,fE 1 (ah []),fE 5 (aj [])])] ?_;refine .a [] T [(4,iE 0)] ?_;refine .oc 3 4 100028 26 (by kernel_rfl) ?_;refine .lL h0 rfl [1,2,3] (fun i1 s2=>[(4,iE (i1:Int))]) (fun i1 s2=>[.c 3 4 (.gs (.own 100028) 5 (aj s2)),.o 100028 (.tok (aj s2).length 26)]) n2 [] (by kernel_rfl) (fun i1 s2 q3 hd5 VD h0=>?_);refine .a [.v (a0.kids.length:Int)] (A (aA.len' a0.kids) T) [(14,lE 5 (aj a0.kids)),(16,dE ((i1:Int)<(a0.kids.length:Int)))] ?_;refine .sn 14 aA a0.kids (by kernel_rfl) (fun hb8=>?_);refine .lc hd5 rfl (by kernel_rfl) (fun x4 q32 gJ hx4 hd6 pX=>?_) (fun gJ=>?_)
  ·subst gJ;obtain⟨y1,h1,hn1⟩:=bZ h0;obtain⟨k10,hk10,h1⟩:=bnd h1;obtain⟨z11,DK,h1⟩:=bnd h1;refine .ad mixed [(5,[.cs (ak x4)]),(7,[.call [] (aE (ak k10)) []]),(8,[.sv (aj [k10])]),(9,[.sv (aj z11)])] [((aj s2).length:Int)] (A (aA.iU hx4) (A (ih _ hk10) (A (aA.lit [k10]) (A (aA.ap DK) T)))) [] [.c 3 4 (.gs (.own 100028) 5 (aj z11)),.o 100028 (.tok (aj z11).length 26)] [] ?_;refine .a [.v ((i1+1:Nat):Int)] (A (wn (i:=i1) (by omega)) T) [(4,iE ((i1+1:Nat):Int))] ?_;cases h1;exact .nL rfl (i1+1) _ hd6 pX hn1 [] (by kernel_rfl)
  ·subst gJ;have h0:=dN h0;refine .af [] T [] [.c 2 0 (iE a0.kind),.c 2 1 (sE a0.name),.c 2 2 (iE a0.n),.c 2 4 (.gs (.own 100028) 5 (aj s2))] ?_;cases h0;exact .rt hK
def rM (n:Nat) (a0:Core):Option (Bool):=
 Option.bind ((if a0.kind=1 then(if a0.id<1 then some true else(if a0.id>999 then some true else(if ¬a0.kind=1 then some (decide (¬a0.id=0)) else some false))) else(if ¬a0.kind=1 then some (decide (¬a0.id=0)) else some false)):Option (Bool)) (fun(o1:Bool)=>(if o1=true then some false else Option.bind ((if a0.kind=2 then(jf n a0.name).bind fun k27=>(if(!k27)=true then some true else(if ¬a0.kind=2 then some (decide (¬a0.name=[])) else some false)) else(if ¬a0.kind=2 then some (decide (¬a0.name=[])) else some false)):Option (Bool)) (fun(o3:Bool)=>(if o3=true then some false else Option.bind ((if a0.kind=3 then(if a0.n<0 then some true else(if a0.n>999 then some true else(if ¬a0.kind=3 then some (decide (¬a0.n=0)) else some false))) else(if ¬a0.kind=3 then some (decide (¬a0.n=0)) else some false)):Option (Bool)) (fun(o5:Bool)=>(if o5=true then some false else Option.bind ((if a0.kind=4 then(bT n a0.data).bind fun k12=>(if(!k12)=true then some true else(gY n a0.data).bind fun k14=>(fD n k14 a0.data).bind fun k15=>(if(!k15)=true then some true else(if ¬a0.kind=4 then(fD n a0.data (⟨0,[],0,[],[]⟩:Form)).bind fun k18=>some (!k18) else some false))) else(if ¬a0.kind=4 then(fD n a0.data (⟨0,[],0,[],[]⟩:Form)).bind fun k20=>some (!k20) else some false)):Option (Bool)) (fun(o7:Bool)=>(if o7=true then some false else Option.bind ((if a0.kind=5 then some true else some (decide ((a0.ids.length:Int)=0))):Option (Bool)) (fun(o9:Bool)=>some o9)))))))))
theorem wu (n:Nat):∀(a0:Core) {r:Bool},rM n a0=some r→aF X.E 51 [aE (aH a0)] [] (bE r) []:=by
 intro a0 r h0;rw[rM] at h0;refine .n Tryz.func51 (fun L ks low K hl hL hlen hK=>?_);refine .af [] T [(1,pw 1)] [.o 1 (.cells ((aH a0).map .d))] ?_;refine .bP h0 rfl [1] (fun o1=>[(25,bE o1)]) n1 n1 (fun o1 h0=>?_) (fun y1 h1 hj1=>?_)
 ·refine .jT h0 (fun hc2 h0=>?_) (fun hc2 h0=>?_)
  ·refine .a [] T [(2,bE false)] ?_;cases h0;exact .rt hK
  ·refine .bP h0 rfl [1] (fun o3=>[(44,bE o3)]) n1 n1 (fun o3 h0=>?_) (fun y1 h1 hj1=>?_)
   ·refine .jT h0 (fun hc4 h0=>?_) (fun hc4 h0=>?_)
    ·refine .a [] T [(2,bE false)] ?_;cases h0;exact .rt hK
    ·refine .bP h0 rfl [1] (fun o5=>[(67,bE o5)]) n1 n1 (fun o5 h0=>?_) (fun y1 h1 hj1=>?_)
     ·refine .jT h0 (fun hc6 h0=>?_) (fun hc6 h0=>?_)
      ·refine .a [] T [(2,bE false)] ?_;cases h0;exact .rt hK
      ·refine .bP h0 rfl [1] (fun o7=>[(97,bE o7)]) n1 n1 (fun o7 h0=>?_) (fun y1 h1 hj1=>?_)
       ·refine .jT h0 (fun hc8 h0=>?_) (fun hc8 h0=>?_)
        ·refine .a [] T [(2,bE false)] ?_;cases h0;exact .rt hK
        ·refine .bP h0 rfl [] (fun o9=>[(2,bE o9)]) n1 n1 (fun o9 h0=>?_) (fun y1 h1 hj1=>?_)
         ·cases h0;exact .rt hK
         ·by_cases g10:a0.kind=5
          ·have h1:=aK g10 h1;refine .a (rb 5 true []) (R 5 (dt g10) T) [(2,bE true)] ?_;cases h1;exact .lg hj1 []
          ·have h1:=aN g10 h1;refine .a (rb 3 false [.v (a0.ids.length:Int),.b false,.b false]) (R 2 (df g10) (A (A (df g10) (aI.len' a0.ids)) (R 2 (df g10) T))) [(2,dE ((a0.ids.length:Int)=0))] ?_;cases h1;exact .lg hj1 []
       ·by_cases g11:a0.kind=4
        ·have h1:=aK g11 h1;obtain⟨k12,hk12,h1⟩:=bnd h1;by_cases g13:(!k12)=true
         ·have h1:=aK g13 h1;refine .ad mixed (qb 4 2 true ((6,[.b true,.call [] (bE k12) []])::(qb 7 9 true ((16,[.b true,.b true])::((17,[.b true])::(qb 19 4 true (qb 28 2 true []))))))) [] (R 2 (dt g11) (A (A (dt g11) (aQ n _ hk12)) (R 2 (dt g11) (R 7 g13 (A (A (dt g11) g13) (A (dt g11) (R 6 B1 T))))))) [(97,bE true)] [] [] ?_;cases h1;exact .lg hj1 []
         ·have h1:=aN g13 h1;obtain⟨k14,wz,h1⟩:=bnd h1;obtain⟨k15,uP,h1⟩:=bnd h1;by_cases g16:(!k15)=true
          ·have h1:=aK g16 h1;refine .ad mixed (qb 4 2 true ((6,[.b true,.call [] (bE k12) []])::(qb 7 2 true (qb 9 2 false ((11,[.b false,.call [] (aE (ak k14)) []])::(qb 12 2 false ((14,[.b false,.call [] (bE k15) []])::((15,[.b false])::((16,[.b true,.b false])::((17,[.b true])::(qb 19 4 true (qb 28 2 true [])))))))))))) [] (R 2 (dt g11) (A (A (dt g11) (aQ n _ hk12)) (R 2 (dt g11) (R 2 (Bool.eq_false_iff.2 g13) (A (A (Bool.eq_false_iff.2 g13) (pY n _ wz)) (R 2 (Bool.eq_false_iff.2 g13) (A (A (Bool.eq_false_iff.2 g13) (gX n _ _ uP)) (A (Bool.eq_false_iff.2 g13) (A (A (dt g11) (Bool.eq_false_iff.2 g13)) (A (dt g11) (R 6 g16 T))))))))))) [(97,bE true)] [] [] ?_;cases h1;exact .lg hj1 []
          ·have h1:=aN g16 h1;by_cases g17:¬a0.kind=4
           ·have h1:=aK g17 h1;obtain⟨k18,ql,h1⟩:=bnd h1;refine .ad mixed (qb 4 2 true ((6,[.b true,.call [] (bE k12) []])::(qb 7 2 true (qb 9 2 false ((11,[.b false,.call [] (aE (ak k14)) []])::(qb 12 2 false ((14,[.b false,.call [] (bE k15) []])::((15,[.b false])::((16,[.b true,.b false])::((17,[.b true])::(qb 19 4 false (qb 23 3 true [(26,[.b true,.call [] (bE k18) []]),(27,[.b true]),(28,[.b false,.b true]),(29,[.b false])])))))))))))) [] (R 2 (dt g11) (A (A (dt g11) (aQ n _ hk12)) (R 2 (dt g11) (R 2 (Bool.eq_false_iff.2 g13) (A (A (Bool.eq_false_iff.2 g13) (pY n _ wz)) (R 2 (Bool.eq_false_iff.2 g13) (A (A (Bool.eq_false_iff.2 g13) (gX n _ _ uP)) (A (Bool.eq_false_iff.2 g13) (A (A (dt g11) (Bool.eq_false_iff.2 g13)) (A (dt g11) (R 4 (Bool.eq_false_iff.2 g16) (R 3 (dt g17) (A (A (dt g17) (gX n _ _ ql)) (A (dt g17) (A (A (Bool.eq_false_iff.2 g16) (dt g17)) (A (Bool.eq_false_iff.2 g16) T)))))))))))))))) [(97,bE (!k18))] [] [] ?_;cases h1;exact .lg hj1 []
           ·have h1:=aN g17 h1;refine .ad mixed (qb 4 2 true ((6,[.b true,.call [] (bE k12) []])::(qb 7 2 true (qb 9 2 false ((11,[.b false,.call [] (aE (ak k14)) []])::(qb 12 2 false ((14,[.b false,.call [] (bE k15) []])::((15,[.b false])::((16,[.b true,.b false])::((17,[.b true])::(qb 19 9 false [(28,[.b false,.b false]),(29,[.b false])]))))))))))) [] (R 2 (dt g11) (A (A (dt g11) (aQ n _ hk12)) (R 2 (dt g11) (R 2 (Bool.eq_false_iff.2 g13) (A (A (Bool.eq_false_iff.2 g13) (pY n _ wz)) (R 2 (Bool.eq_false_iff.2 g13) (A (A (Bool.eq_false_iff.2 g13) (gX n _ _ uP)) (A (Bool.eq_false_iff.2 g13) (A (A (dt g11) (Bool.eq_false_iff.2 g13)) (A (dt g11) (R 4 (Bool.eq_false_iff.2 g16) (R 5 (df g17) (A (A (Bool.eq_false_iff.2 g16) (df g17)) (A (Bool.eq_false_iff.2 g16) T)))))))))))))) [(97,bE false)] [] [] ?_;cases h1;exact .lg hj1 []
        ·have h1:=aN g11 h1;by_cases g19:¬a0.kind=4
         ·have h1:=aK g19 h1;obtain⟨k20,FI,h1⟩:=bnd h1;refine .ad mixed (qb 4 5 false (qb 16 2 false (qb 19 4 false (qb 23 3 true [(26,[.b true,.call [] (bE k20) []]),(27,[.b true]),(28,[.b false,.b true]),(29,[.b false])])))) [] (R 7 (df g11) (R 4 B0 (R 3 (dt g19) (A (A (dt g19) (gX n _ _ FI)) (A (dt g19) (A (A B0 (dt g19)) (A B0 T))))))) [(97,bE (!k20))] [] [] ?_;cases h1;exact .lg hj1 []
         ·have h1:=aN g19 h1;refine .ad mixed (qb 4 5 false (qb 16 2 false (qb 19 9 false [(28,[.b false,.b false]),(29,[.b false])]))) [] (R 7 (df g11) (R 4 B0 (R 5 (df g19) (A (A B0 (df g19)) (A B0 T))))) [(97,bE false)] [] [] ?_;cases h1;exact .lg hj1 []
     ·by_cases g21:a0.kind=3
      ·have h1:=aK g21 h1;by_cases g22:a0.n<0
       ·have h1:=aK g22 h1;refine .a (rb 16 true []) (R 4 (dt g21) (R 3 (dt g22) (A (A (dt g21) (dt g22)) (A (dt g21) (R 6 B1 T))))) [(67,bE true)] ?_;cases h1;exact .lg hj1 []
       ·have h1:=aN g22 h1;by_cases g23:a0.n>999
        ·have h1:=aK g23 h1;refine .a (rb 4 true (rb 3 false (.b true::(.b false::(rb 7 true []))))) (R 4 (dt g21) (R 3 (df g22) (A (A (dt g21) (df g22)) (A (dt g21) (R 6 (dt g23) T))))) [(67,bE true)] ?_;cases h1;exact .lg hj1 []
        ·have h1:=aN g23 h1;by_cases g24:¬a0.kind=3
         ·have h1:=aK g24 h1;refine .a (rb 4 true (rb 3 false (.b true::(.b false::(.b true::(rb 4 false (rb 3 true [.b false,.b true,.b false]))))))) (R 4 (dt g21) (R 3 (df g22) (A (A (dt g21) (df g22)) (A (dt g21) (R 4 (df g23) (R 3 (dt g24) (A (A (df g23) (dt g24)) (A (df g23) T)))))))) [(67,dE (¬a0.n=0))] ?_;cases h1;exact .lg hj1 []
         ·have h1:=aN g24 h1;refine .a (rb 4 true (rb 3 false (.b true::(.b false::(.b true::(rb 10 false [])))))) (R 4 (dt g21) (R 3 (df g22) (A (A (dt g21) (df g22)) (A (dt g21) (R 4 (df g23) (R 3 (df g24) (A (A (df g23) (df g24)) (A (df g23) T)))))))) [(67,bE false)] ?_;cases h1;exact .lg hj1 []
      ·have h1:=aN g21 h1;by_cases JJ:¬a0.kind=3
       ·have h1:=aK JJ h1;refine .a (rb 10 false (rb 3 true [.b false,.b true,.b false])) (R 6 (df g21) (R 4 B0 (R 3 (dt JJ) (A (A B0 (dt JJ)) (A B0 T))))) [(67,dE (¬a0.n=0))] ?_;cases h1;exact .lg hj1 []
       ·have h1:=aN JJ h1;refine .a (rb 16 false []) (R 6 (df g21) (R 4 B0 (R 3 (df JJ) (A (A B0 (df JJ)) (A B0 T))))) [(67,bE false)] ?_;cases h1;exact .lg hj1 []
   ·by_cases zM:a0.kind=2
    ·have h1:=aK zM h1;obtain⟨k27,wB,h1⟩:=bnd h1;by_cases sQ:(!k27)=true
     ·have h1:=aK sQ h1;refine .a (rb 3 true (.call [] (bE k27) []::(rb 8 true []))) (R 2 (dt zM) (A (A (dt zM) (dG n _ wB)) (R 2 (dt zM) (R 6 sQ T)))) [(44,bE true)] ?_;cases h1;exact .lg hj1 []
     ·have h1:=aN sQ h1;by_cases Az:¬a0.kind=2
      ·have h1:=aK Az h1;refine .a (rb 3 true (.call [] (bE k27) []::(.b true::(.b true::(rb 4 false (rb 3 true [.b false,.b true,.b false])))))) (R 2 (dt zM) (A (A (dt zM) (dG n _ wB)) (R 2 (dt zM) (R 4 (Bool.eq_false_iff.2 sQ) (R 3 (dt Az) (A (A (Bool.eq_false_iff.2 sQ) (dt Az)) (A (Bool.eq_false_iff.2 sQ) T))))))) [(44,dE (¬a0.name=[]))] ?_;cases h1;exact .lg hj1 []
      ·have h1:=aN Az h1;refine .a (rb 3 true (.call [] (bE k27) []::(.b true::(.b true::(rb 10 false []))))) (R 2 (dt zM) (A (A (dt zM) (dG n _ wB)) (R 2 (dt zM) (R 4 (Bool.eq_false_iff.2 sQ) (R 3 (df Az) (A (A (Bool.eq_false_iff.2 sQ) (df Az)) (A (Bool.eq_false_iff.2 sQ) T))))))) [(44,bE false)] ?_;cases h1;exact .lg hj1 []
    ·have h1:=aN zM h1;by_cases jR:¬a0.kind=2
     ·have h1:=aK jR h1;refine .a (rb 9 false (rb 3 true [.b false,.b true,.b false])) (R 5 (df zM) (R 4 B0 (R 3 (dt jR) (A (A B0 (dt jR)) (A B0 T))))) [(44,dE (¬a0.name=[]))] ?_;cases h1;exact .lg hj1 []
     ·have h1:=aN jR h1;refine .a (rb 15 false []) (R 5 (df zM) (R 4 B0 (R 3 (df jR) (A (A B0 (df jR)) (A B0 T))))) [(44,bE false)] ?_;cases h1;exact .lg hj1 []
 ·by_cases Am:a0.kind=1
  ·have h1:=aK Am h1;by_cases wK:a0.id<1
   ·have h1:=aK wK h1;refine .a (rb 16 true []) (R 4 (dt Am) (R 3 (dt wK) (A (A (dt Am) (dt wK)) (A (dt Am) (R 6 B1 T))))) [(25,bE true)] ?_;cases h1;exact .lg hj1 []
   ·have h1:=aN wK h1;by_cases RV:a0.id>999
    ·have h1:=aK RV h1;refine .a (rb 4 true (rb 3 false (.b true::(.b false::(rb 7 true []))))) (R 4 (dt Am) (R 3 (df wK) (A (A (dt Am) (df wK)) (A (dt Am) (R 6 (dt RV) T))))) [(25,bE true)] ?_;cases h1;exact .lg hj1 []
    ·have h1:=aN RV h1;by_cases JK:¬a0.kind=1
     ·have h1:=aK JK h1;refine .a (rb 4 true (rb 3 false (.b true::(.b false::(.b true::(rb 4 false (rb 3 true [.b false,.b true,.b false]))))))) (R 4 (dt Am) (R 3 (df wK) (A (A (dt Am) (df wK)) (A (dt Am) (R 4 (df RV) (R 3 (dt JK) (A (A (df RV) (dt JK)) (A (df RV) T)))))))) [(25,dE (¬a0.id=0))] ?_;cases h1;exact .lg hj1 []
     ·have h1:=aN JK h1;refine .a (rb 4 true (rb 3 false (.b true::(.b false::(.b true::(rb 10 false [])))))) (R 4 (dt Am) (R 3 (df wK) (A (A (dt Am) (df wK)) (A (dt Am) (R 4 (df RV) (R 3 (df JK) (A (A (df RV) (df JK)) (A (df RV) T)))))))) [(25,bE false)] ?_;cases h1;exact .lg hj1 []
  ·have h1:=aN Am h1;by_cases Cc:¬a0.kind=1
   ·have h1:=aK Cc h1;refine .a (rb 10 false (rb 3 true [.b false,.b true,.b false])) (R 6 (df Am) (R 4 B0 (R 3 (dt Cc) (A (A B0 (dt Cc)) (A B0 T))))) [(25,dE (¬a0.id=0))] ?_;cases h1;exact .lg hj1 []
   ·have h1:=aN Cc h1;refine .a (rb 16 false []) (R 6 (df Am) (R 4 B0 (R 3 (df Cc) (A (A B0 (df Cc)) (A B0 T))))) [(25,bE false)] ?_;cases h1;exact .lg hj1 []
def xA (n:Nat) (a0:Int) (a1:Int):Option (Bool):=
 Option.bind ((if a0=1 then some (decide (a0=1)) else(if a0=2 then some (decide (a0=2)) else(if a0=3 then some (decide (a0=3)) else some (decide (a0=4))))):Option (Bool)) (fun(o1:Bool)=>(if o1=true then some (decide (a1=0)) else(if a0=5 then some (decide (a1=1)) else(if a0=6 then some (decide (a1≥1)) else Option.bind ((if a0=7 then some (decide (a1=3)) else some false):Option (Bool)) (fun(o5:Bool)=>some o5)))))
theorem vT (n:Nat):∀(a0:Int) (a1:Int) {r:Bool},xA n a0 a1=some r→aF X.E 50 [iE a0,iE a1] [] (bE r) []:=by
 intro a0 a1 r h0;rw[xA] at h0;refine .n Tryz.func50 (fun L ks low K hl hL hlen hK=>?_);refine .a [] T [] ?_;refine .a [] T [(5,iE a0)] ?_;refine .a [] T [(6,dE (a0=1))] ?_;refine .bP h0 rfl [0,1,5] (fun o1=>[(6,bE o1)]) n1 n1 (fun o1 h0=>?_) (fun y1 h1 hj1=>?_)
 ·refine .jT h0 (fun hc2 h0=>?_) (fun hc2 h0=>?_)
  ·refine .a [] T [(4,dE (a1=0))] ?_;cases h0;exact .rt hK
  ·refine .a [] T [(13,dE (a0=5))] ?_;refine .jP h0 (fun hc3 h0=>?_) (fun hc3 h0=>?_)
   ·refine .a [] T [(4,dE (a1=1))] ?_;cases h0;exact .rt hK
   ·refine .a [] T [(17,dE (a0=6))] ?_;refine .jP h0 (fun hc4 h0=>?_) (fun hc4 h0=>?_)
    ·refine .a [] T [(4,dE (a1≥1))] ?_;cases h0;exact .rt hK
    ·refine .bP h0 rfl [] (fun o5=>[(4,bE o5)]) n1 n1 (fun o5 h0=>?_) (fun y1 h1 hj1=>?_)
     ·cases h0;exact .rt hK
     ·by_cases g6:a0=7
      ·have h1:=aK g6 h1;refine .a (rb 3 true []) (R 3 (dt g6) T) [(4,dE (a1=3))] ?_;cases h1;exact .lg hj1 []
      ·have h1:=aN g6 h1;refine .a (rb 3 false []) (R 3 (df g6) T) [(4,bE false)] ?_;cases h1;exact .lg hj1 []
 ·refine .jP h1 (fun KZ h1=>?_) (fun KZ h1=>?_)
  ·cases h1;exact .lg hj1 []
  ·refine .a [] T [(6,dE (a0=2))] ?_;refine .jP h1 (fun hc8 h1=>?_) (fun hc8 h1=>?_)
   ·cases h1;exact .lg hj1 []
   ·refine .a [] T [(6,dE (a0=3))] ?_;refine .jP h1 (fun gJ h1=>?_) (fun gJ h1=>?_)
    ·cases h1;exact .lg hj1 []
    ·refine .a [] T [(6,dE (a0=4))] ?_;cases h1;exact .lg hj1 []
def yN:Nat→Core→(List Int)→Int→Option (Bool)
 | 0,_,_,_=>none
 | n+1,a0,a1,a2=>Option.bind ((if a2=0 then some true else(xA n a0.kind (a0.kids.length:Int)).bind fun k31=>(if(!k31)=true then some true else(rM n a0).bind fun k33=>(if(!k33)=true then some true else(if a0.kind=1 then(nT n a1 a0.id).bind fun ZC=>some (!ZC) else some false)))):Option (Bool)) (fun(o1:Bool)=>(if o1=true then some false else bH (bV (fun(s4:List Int) (i3:Nat) (x6:Int)=>(Option.bind ((if x6<1 then some true else(if x6>999 then some true else(nT n s4 x6).bind fun k18=>some k18)):Option (Bool)) (fun(rW:Bool)=>(if rW=true then some (Sum.inl false) else(jH 8 [] s4).bind fun Kw=>(jH 8 Kw [x6]).bind fun GU=>some (Sum.inr GU))):Option (Bool⊕(List Int)))) 0 a0.ids a1) (fun(s4:List Int)=>bH (bV (fun(s20:Unit) (i19:Nat) (x22:Core)=>((yN n x22 s4 (aY (a2-1))).bind fun k28=>(if(!k28)=true then some (Sum.inl false) else some (Sum.inr ())):Option (Bool⊕Unit))) 0 a0.kids ()) (fun(s20:Unit)=>some true))))
theorem ML (n:Nat):∀(a0:Core) (a1:List Int) (a2:Int) {r:Bool},yN n a0 a1 a2=some r→aF X.E 33 [aE (aH a0),lE 1 (ah a1),iE a2] [] (bE r) []:=by
 induction n with
 | zero=>intro a0 a1 a2 r h; cases h
 | succ n ih=>
  intro a0 a1 a2 r h0;rw[yN] at h0;refine .n Tryz.func33 (fun L ks low K hl hL hlen hK=>?_);refine .af [] T [(3,pw 3)] [.o 3 (.cells ((aH a0).map .d))] ?_;refine .bP h0 rfl [1,2,3] (fun o1=>[(37,bE o1)]) n1 n1 (fun o1 h0=>?_) (fun y1 h1 hj1=>?_)
  ·refine .jT h0 (fun hc2 h0=>?_) (fun hc2 h0=>?_)
   ·refine .a [] T [(6,bE false)] ?_;cases h0;exact .rt hK
   ·refine .a [] T [(7,lE 1 (ah a1))] ?_;refine .a [] T [(8,iE 0)] ?_;refine .lI h0 rfl [2,3] (fun i3 s4=>[(7,lE 1 (ah s4)),(8,iE (i3:Int))]) n2 n2 [] (by kernel_rfl) (fun i3 s4 q5 hd7 hi9 h0=>?_);refine .a [.v (a0.ids.length:Int)] (A (aI.len' a0.ids) T) [(41,lE 1 (ah a0.ids)),(43,dE ((i3:Int)<(a0.ids.length:Int)))] ?_;refine .sn 41 aI a0.ids (by kernel_rfl) (fun Au=>?_);refine .lc hd7 rfl (by kernel_rfl) (fun x6 KT bI hx6 hd8 jo=>?_) (fun bI=>?_)
    ·subst bI;obtain⟨y1,h1,hw1,hn1⟩:=bf h0;refine .bP h1 rfl [2,3,7,8] (fun rW=>[(68,bE rW)]) n1 n1 (fun rW h1=>?_) (fun y2 h2 hj2=>?_)
     ·refine .jT h1 (fun hc13 h1=>?_) (fun hc13 h1=>?_)
      ·refine .a [] T [(6,bE false)] ?_;cases h1;cases hw1 _ rfl;exact .rt hK
      ·obtain⟨Kw,Ua,h1⟩:=bnd h1;obtain⟨GU,Ub,h1⟩:=bnd h1;refine .ad mixed [(0,[.sv (ah [])]),(2,[.sv (ah Kw)]),(6,[.cs [.v (.int .i64 x6)]]),(8,[.sv (ah [x6])]),(9,[.sv (ah GU)])] [((ah Kw).length:Int)] (A (aI.lit []) (A (aI.ap Ua) (A (aI.iU hx6) (A (aI.lit [x6]) (A (aI.ap Ub) T))))) [(7,.gs (.own 100071) 1 (ah GU))] [.o 100071 (.tok (ah GU).length 3)] [] ?_;refine .a [.v ((i3+1:Nat):Int)] (A (wn (i:=i3) (by omega)) T) [(8,iE ((i3+1:Nat):Int))] ?_;cases h1;refine .kp [2,3,7,8] [7] ?_;refine .dr 100071 (by kernel_rfl) ?_;exact .nL rfl (i3+1) _ hd8 jo (hn1 _ rfl) [] (by kernel_rfl)
     ·by_cases g16:x6<1
      ·have h2:=aK g16 h2;refine .a (.cs [.v (.int .i64 x6)]::(rb 15 true [])) (A (aI.iU hx6) (R 7 (dt g16) (R 8 B1 T))) [(68,bE true)] ?_;cases h2;exact .lg hj2 []
      ·have h2:=aN g16 h2;by_cases g17:x6>999
       ·have h2:=aK g17 h2;refine .a (.cs [.v (.int .i64 x6)]::(rb 4 false (.cs [.v (.int .i64 x6)]::(rb 3 false (rb 8 true []))))) (A (aI.iU hx6) (R 3 (df g16) (A (A (df g16) (aI.iU hx6)) (R 3 (df g16) (R 8 (dt g17) T))))) [(68,bE true)] ?_;cases h2;exact .lg hj2 []
       ·have h2:=aN g17 h2;obtain⟨k18,ql,h2⟩:=bnd h2;refine .a (.cs [.v (.int .i64 x6)]::(rb 4 false (.cs [.v (.int .i64 x6)]::(rb 8 false [.cs [.v (.int .i64 x6)],.b false,.b false,.call [] (bE k18) [],.b false])))) (A (aI.iU hx6) (R 3 (df g16) (A (A (df g16) (aI.iU hx6)) (R 3 (df g16) (R 4 (df g17) (A (A (df g17) (aI.iU hx6)) (A (df g17) (A (A (df g17) (uT n _ _ ql)) (A (df g17) T))))))))) [(68,bE k18)] ?_;cases h2;exact .lg hj2 []
    ·subst bI;have h0:=bM h0;refine .a [] T [(9,iE 0)] ?_;refine .lI h0 rfl [2,3,7] (fun i19 s20=>[(9,iE (i19:Int))]) n2 n2 [] (by kernel_rfl) (fun i19 s20 q21 ajo alR h0=>?_);refine .a [.v (a0.kids.length:Int)] (A (bK.len' a0.kids) T) [(81,lE 11 (aG a0.kids)),(83,dE ((i19:Int)<(a0.kids.length:Int)))] ?_;refine .sn 81 bK a0.kids (by kernel_rfl) (fun alS=>?_);refine .lc ajo rfl (by kernel_rfl) (fun x22 alT hc27 ajp hd24 agO=>?_) (fun hc27=>?_)
     ·subst hc27;obtain⟨y1,h1,hw1,hn1⟩:=bf h0;obtain⟨k28,Ob,h1⟩:=bnd h1;refine .a [.cs (aH x22),.pl,.call [] (bE k28) []] (A (bK.iU ajp) (A (ih _ _ _ Ob) T)) [(95,bE (!k28))] ?_;refine .jT h1 (fun hc29 h1=>?_) (fun hc29 h1=>?_)
      ·refine .a [] T [(6,bE false)] ?_;cases h1;cases hw1 _ rfl;exact .rt hK
      ·refine .a [.v ((i19+1:Nat):Int)] (A (wn (i:=i19) (by omega)) T) [(9,iE ((i19+1:Nat):Int))] ?_;cases h1;exact .nL rfl (i19+1) _ hd24 agO (hn1 _ rfl) [] (by kernel_rfl)
     ·subst hc27;have h0:=bM h0;refine .a [] T [(6,bE true)] ?_;cases h0;exact .rt hK
  ·by_cases jR:a2=0
   ·have h1:=aK jR h1;refine .a (rb 18 true []) (R 8 (dt jR) (R 10 B1 T)) [(37,bE true)] ?_;cases h1;exact .lg hj1 []
   ·have h1:=aN jR h1;obtain⟨k31,hk31,h1⟩:=bnd h1;by_cases wK:(!k31)=true
    ·have h1:=aK wK h1;refine .a (rb 5 false (.v (a0.kids.length:Int)::(.b false::(.call [] (bE k31) []::(.b false::(.b false::(rb 10 true []))))))) (R 4 (df jR) (A (A (df jR) (bK.len' a0.kids)) (A (A (df jR) (vT n _ _ hk31)) (R 2 (df jR) (R 4 wK (R 6 B1 T)))))) [(37,bE true)] ?_;cases h1;exact .lg hj1 []
    ·have h1:=aN wK h1;obtain⟨k33,QD,h1⟩:=bnd h1;by_cases JK:(!k33)=true
     ·have h1:=aK JK h1;refine .a (rb 5 false (.v (a0.kids.length:Int)::(.b false::(.call [] (bE k31) []::(rb 4 false (.call [] (bE k33) []::(.b false::(.b false::(rb 6 true []))))))))) (R 4 (df jR) (A (A (df jR) (bK.len' a0.kids)) (A (A (df jR) (vT n _ _ hk31)) (R 2 (df jR) (A (Bool.eq_false_iff.2 wK) (A (A (Bool.eq_false_iff.2 wK) (wu n _ QD)) (R 2 (Bool.eq_false_iff.2 wK) (R 6 JK T)))))))) [(37,bE true)] ?_;cases h1;exact .lg hj1 []
     ·have h1:=aN JK h1;by_cases Cc:a0.kind=1
      ·have h1:=aK Cc h1;obtain⟨ZC,aes,h1⟩:=bnd h1;refine .a (rb 5 false (.v (a0.kids.length:Int)::(.b false::(.call [] (bE k31) []::(rb 4 false (.call [] (bE k33) []::(rb 6 false (rb 4 true [.call [] (bE ZC) [],.b true,.b false,.b true,.b false])))))))) (R 4 (df jR) (A (A (df jR) (bK.len' a0.kids)) (A (A (df jR) (vT n _ _ hk31)) (R 2 (df jR) (A (Bool.eq_false_iff.2 wK) (A (A (Bool.eq_false_iff.2 wK) (wu n _ QD)) (R 2 (Bool.eq_false_iff.2 wK) (R 4 (Bool.eq_false_iff.2 JK) (R 3 (dt Cc) (A (A (dt Cc) (uT n _ _ aes)) (A (dt Cc) (A (A (Bool.eq_false_iff.2 JK) (dt Cc)) (A (Bool.eq_false_iff.2 JK) T))))))))))))) [(37,bE (!ZC))] ?_;cases h1;exact .lg hj1 []
      ·have h1:=aN Cc h1;refine .a (rb 5 false (.v (a0.kids.length:Int)::(.b false::(.call [] (bE k31) []::(rb 4 false (.call [] (bE k33) []::(rb 14 false []))))))) (R 4 (df jR) (A (A (df jR) (bK.len' a0.kids)) (A (A (df jR) (vT n _ _ hk31)) (R 2 (df jR) (A (Bool.eq_false_iff.2 wK) (A (A (Bool.eq_false_iff.2 wK) (wu n _ QD)) (R 2 (Bool.eq_false_iff.2 wK) (R 4 (Bool.eq_false_iff.2 JK) (R 5 (df Cc) (A (A (Bool.eq_false_iff.2 JK) (df Cc)) (A (Bool.eq_false_iff.2 JK) T))))))))))) [(37,bE false)] ?_;cases h1;exact .lg hj1 []
def lT (n:Nat) (a0:Core):Option (Bool):=
 Option.bind ((yN n a0 [] 120).bind fun k2=>(if k2=true then(qC n a0).bind fun k4=>some (decide (k4≤600)) else some false):Option (Bool)) (fun(o1:Bool)=>some o1)
theorem AA (n:Nat):∀(a0:Core) {r:Bool},lT n a0=some r→aF X.E 22 [aE (aH a0)] [] (bE r) []:=by
 intro a0 r h0;rw[lT] at h0;refine .n Tryz.func22 (fun L ks low K hl hL hlen hK=>?_);refine .af [] T [(1,pw 1)] [.o 1 (.cells ((aH a0).map .d))] ?_;refine .bP h0 rfl [] (fun o1=>[(2,bE o1)]) n1 n1 (fun o1 h0=>?_) (fun y1 h1 hj1=>?_)
 ·cases h0;exact .rt hK
 ·obtain⟨k2,hk2,h1⟩:=bnd h1;by_cases g3:k2=true
  ·have h1:=aK g3 h1;obtain⟨k4,hk4,h1⟩:=bnd h1;refine .a [.sv (ah []),.call [] (bE k2) [],.b true,.b true,.call [] (iE k4) [],.b true,.b true] (A (aI.lit []) (A (ML n _ _ _ hk2) (A g3 (A (A g3 (Oe n _ hk4)) (R 2 g3 T))))) [(2,dE (k4≤600))] ?_;cases h1;exact .lg hj1 []
  ·have h1:=aN g3 h1;refine .a (.sv (ah [])::(.call [] (bE k2) []::(rb 4 false []))) (A (aI.lit []) (A (ML n _ _ _ hk2) (R 4 (Bool.eq_false_iff.2 g3) T))) [(2,bE false)] ?_;cases h1;exact .lg hj1 []
def yO (n:Nat)  : Option (List (List UInt8)):=
 some [[],[108,97,109,98,100,97],[105,102],[113,117,111,116,101],[108,101,116],iG]
theorem Og (n:Nat):∀{r:List (List UInt8)},yO n  = some r→aF X.E 104 [] [] (lE 1 (eU r)) []:=by
 intro r h0;rw[yO] at h0;refine .n Tryz.func104 (fun L ks low K hl hL hlen hK=>?_);refine .a [] T [] ?_;refine .a [.sv (eU [[],[108,97,109,98,100,97],[105,102],[113,117,111,116,101],[108,101,116],iG])] (A (kV.lit [[],[108,97,109,98,100,97],[105,102],[113,117,111,116,101],[108,101,116],iG]) T) [(0,fE 1 (eU [[],[108,97,109,98,100,97],[105,102],[113,117,111,116,101],[108,101,116],iG]))] ?_;cases h0;exact .rt hK
def jg (n:Nat)  : Option (Expansion):=
 (yO n).bind fun k1=>iterM n (fun(s2:Int×(List Bind))=>((if s2.1<(k1.length:Int) then(gQ k1 s2.1).bind fun e6=>(jH 48 s2.2 [(⟨e6,[],s2.1⟩:Bind)]).bind fun z7=>some (Sum.inr ((aY (s2.1+1)),z7)) else some (Sum.inl (⟨s2.2,[],0,10,0⟩:Expansion))):Option (Expansion⊕(Int×(List Bind))))) (1,[])
theorem Ce (n:Nat):∀{r:Expansion},jg n  = some r→aF X.E 78 [] [] (aE (au r)) []:=by
 intro r h0;rw[jg] at h0;refine .n Tryz.func78 (fun L ks low K hl hL hlen hK=>?_);refine .af [] T [(0,pw 0)] [.o 0 (.cells [fE 3 (ay []),fE 3 (bU []),iE 0,iE 0,iE 0])] ?_;refine .af [] T [(1,pw 1)] [.o 1 (.cells [fE 3 (ay []),fE 3 (bU []),iE 0,iE 10,iE 0])] ?_;obtain⟨k1,hk1,h0⟩:=bnd h0;refine .a [.call [] (lE 1 (eU k1)) []] (A (Og n  hk1) T) [(2,lE 1 (eU k1))] ?_;refine .a [] T [(3,iE 1)] ?_;refine .oc 1 0 100021 123 (by kernel_rfl) ?_;refine .it h0 rfl [0,1,2] (fun s2=>[(3,iE s2.1)]) (fun s2=>[.c 1 0 (.gs (.own 100021) 3 (ay s2.2)),.o 100021 (.tok (ay s2.2).length 123)]) n1 [] (by kernel_rfl) (fun nk3 s2 h0=>?_);obtain⟨y1,h1,hw1,hn1⟩:=bW h0;refine .a [.v (k1.length:Int)] (A (kV.len' k1) T) [(9,dE (s2.1<(k1.length:Int)))] ?_;refine .sn 2 kV k1 (by kernel_rfl) (fun hb4=>?_);refine .jP h1 (fun hc5 h1=>?_) (fun hc5 h1=>?_)
 ·obtain⟨e6,VE,h1⟩:=bnd h1;obtain⟨z7,hz7,h1⟩:=bnd h1;refine .ad mixed [(4,[.cs [.s e6]]),(8,[.sv (ay [(⟨e6,[],s2.1⟩:Bind)])]),(9,[.sv (ay z7)])] [((ay s2.2).length:Int)] (A (kV.idx VE) (A (aX.lit [(⟨e6,[],s2.1⟩:Bind)]) (A (aX.ap hz7) T))) [] [.c 1 0 (.gs (.own 100021) 3 (ay z7)),.o 100021 (.tok (ay z7).length 123)] [] ?_;refine .a [.pl] T [(3,iE (aY (s2.1+1)))] ?_;cases h1;exact .nI rfl _ (hn1 _ rfl) [] (by kernel_rfl)
 ·refine .af [] T [] [.c 0 0 (.gs (.own 100021) 3 (ay s2.2)),.c 0 3 (iE 10)] ?_;cases h1;cases hw1 _ rfl;exact .rt hK
def kE (n:Nat) (a0:List Bind):Option (Bool):=
 iterM n (fun(s1:Int)=>(Option.bind ((if s1<(a0.length:Int) then some (decide (s1≤60)) else some false):Option (Bool)) (fun(o3:Bool)=>(if o3=true then Option.bind ((gQ a0 s1).bind fun e16=>(jf n e16.name).bind fun k17=>(if(!k17)=true then some true else(lu n e16.scopes).bind fun k19=>(if(!k19)=true then some true else(if e16.id<1 then some true else some (decide (e16.id>999))))):Option (Bool)) (fun(o5:Bool)=>(if o5=true then some (Sum.inl false) else iterM n (fun(s7:Int)=>((if s7<s1 then Option.bind ((gQ a0 s7).bind fun e12=>(gQ a0 s1).bind fun e13=>(if e12.name=e13.name then(tX n e12.scopes e13.scopes).bind fun k15=>some k15 else some false):Option (Bool)) (fun(kM:Bool)=>(if kM=true then some (Sum.inl (Sum.inl false)) else some (Sum.inr (aY (s7+1))))) else some (Sum.inl (Sum.inr (aY (s1+1))))):Option ((Bool⊕Int)⊕Int))) 0)) else some (Sum.inl (decide ((a0.length:Int)≤60))))):Option (Bool⊕Int))) 0
theorem jY (n:Nat):∀(a0:List Bind) {r:Bool},kE n a0=some r→aF X.E 137 [lE 3 (ay a0)] [] (bE r) []:=by
 intro a0 r h0;rw[kE] at h0;refine .n Tryz.func137 (fun L ks low K hl hL hlen hK=>?_);refine .a [] T [] ?_;refine .a [] T [(3,iE 0)] ?_;refine .it h0 rfl [0] (fun s1=>[(3,iE s1)]) n1 n1 [] (by kernel_rfl) (fun XV s1 h0=>?_);obtain⟨y1,h1,hw1,hn1⟩:=bW h0;refine .bP h1 rfl [0,3] (fun o3=>[(12,bE o3)]) n1 n1 (fun o3 h1=>?_) (fun y2 h2 hj2=>?_)
 ·refine .jT h1 (fun hc4 h1=>?_) (fun hc4 h1=>?_)
  ·refine .bP h1 rfl [0,3] (fun o5=>[(46,bE o5)]) n1 n1 (fun o5 h1=>?_) (fun y2 h2 hj2=>?_)
   ·refine .jT h1 (fun hc6 h1=>?_) (fun hc6 h1=>?_)
    ·refine .a [] T [(2,bE false)] ?_;cases h1;cases hw1 _ rfl;exact .rt hK
    ·refine .a [] T [(4,iE 0)] ?_;refine .it h1 rfl [0,3] (fun s7=>[(4,iE s7)]) n1 n1 [] (by kernel_rfl) (fun nk8 s7 h1=>?_);obtain⟨y2,h2,hw2,hn2⟩:=bW h1;refine .a [] T [(49,dE (s7<s1))] ?_;refine .jP h2 (fun gJ h2=>?_) (fun gJ h2=>?_)
     ·refine .bP h2 rfl [0,3,4] (fun kM=>[(75,bE kM)]) n1 n1 (fun kM h2=>?_) (fun y3 h3 hj3=>?_)
      ·refine .jT h2 (fun bI h2=>?_) (fun bI h2=>?_)
       ·refine .a [] T [(2,bE false)] ?_;cases h2;cases hw2 _ rfl;cases hw1 _ rfl;exact .rt hK
       ·refine .a [.pl] T [(4,iE (aY (s7+1)))] ?_;cases h2;exact .nI rfl _ (hn2 _ rfl) [] (by kernel_rfl)
      ·obtain⟨e12,yK,h3⟩:=bnd h3;obtain⟨e13,DN,h3⟩:=bnd h3;by_cases g14:e12.name=e13.name
       ·have h3:=aK g14 h3;obtain⟨k15,uP,h3⟩:=bnd h3;refine .ad mixed ((2,[.cs (eF e12)])::((7,[.cs (eF e13)])::(qb 12 2 true ((14,[.b true,.cs (eF e12)])::(qb 15 4 true ((19,[.b true,.cs (eF e13)])::(qb 20 2 true [(22,[.b true,.call [] (bE k15) []]),(23,[.b true])]))))))) [] (A (aX.idx yK) (A (aX.idx DN) (R 2 (dt g14) (A (A (dt g14) (aX.idx yK)) (R 4 (dt g14) (A (A (dt g14) (aX.idx DN)) (R 2 (dt g14) (A (A (dt g14) (vS n _ _ uP)) (A (dt g14) T))))))))) [(75,bE k15)] [] [] ?_;cases h3;exact .lg hj3 []
       ·have h3:=aN g14 h3;refine .ad mixed ((2,[.cs (eF e12)])::((7,[.cs (eF e13)])::(qb 12 12 false []))) [] (A (aX.idx yK) (A (aX.idx DN) (R 12 (df g14) T))) [(75,bE false)] [] [] ?_;cases h3;exact .lg hj3 []
     ·refine .a [.pl] T [(3,iE (aY (s1+1)))] ?_;cases h2;cases hw2 _ rfl;exact .nI rfl _ (hn1 _ rfl) [] (by kernel_rfl)
   ·obtain⟨e16,GV,h2⟩:=bnd h2;obtain⟨k17,Ew,h2⟩:=bnd h2;by_cases g18:(!k17)=true
    ·have h2:=aK g18 h2;refine .a (.cs (eF e16)::(.call [] (bE k17) []::(rb 22 true []))) (A (aX.idx GV) (A (dG n _ Ew) (R 8 g18 (R 14 B1 T)))) [(46,bE true)] ?_;cases h2;exact .lg hj2 []
    ·have h2:=aN g18 h2;obtain⟨k19,Aj,h2⟩:=bnd h2;by_cases g20:(!k19)=true
     ·have h2:=aK g20 h2;refine .a (.cs (eF e16)::(.call [] (bE k17) []::(rb 3 false (.cs (eF e16)::(rb 3 false (.call [] (bE k19) []::(.b false::(.b false::(rb 14 true []))))))))) (A (aX.idx GV) (A (dG n _ Ew) (R 2 (Bool.eq_false_iff.2 g18) (A (A (Bool.eq_false_iff.2 g18) (aX.idx GV)) (R 2 (Bool.eq_false_iff.2 g18) (A (A (Bool.eq_false_iff.2 g18) (iH n _ Aj)) (R 2 (Bool.eq_false_iff.2 g18) (R 7 g20 (R 7 B1 T))))))))) [(46,bE true)] ?_;cases h2;exact .lg hj2 []
     ·have h2:=aN g20 h2;by_cases g21:e16.id<1
      ·have h2:=aK g21 h2;refine .a (.cs (eF e16)::(.call [] (bE k17) []::(rb 3 false (.cs (eF e16)::(rb 3 false (.call [] (bE k19) []::(rb 5 false (.cs (eF e16)::(rb 4 false (rb 7 true [])))))))))) (A (aX.idx GV) (A (dG n _ Ew) (R 2 (Bool.eq_false_iff.2 g18) (A (A (Bool.eq_false_iff.2 g18) (aX.idx GV)) (R 2 (Bool.eq_false_iff.2 g18) (A (A (Bool.eq_false_iff.2 g18) (iH n _ Aj)) (R 2 (Bool.eq_false_iff.2 g18) (R 2 (Bool.eq_false_iff.2 g20) (A (A (Bool.eq_false_iff.2 g20) (aX.idx GV)) (R 4 (Bool.eq_false_iff.2 g20) (R 7 (dt g21) T))))))))))) [(46,bE true)] ?_;cases h2;exact .lg hj2 []
      ·have h2:=aN g21 h2;refine .a (.cs (eF e16)::(.call [] (bE k17) []::(rb 3 false (.cs (eF e16)::(rb 3 false (.call [] (bE k19) []::(rb 5 false (.cs (eF e16)::(rb 7 false (.cs (eF e16)::(rb 4 false []))))))))))) (A (aX.idx GV) (A (dG n _ Ew) (R 2 (Bool.eq_false_iff.2 g18) (A (A (Bool.eq_false_iff.2 g18) (aX.idx GV)) (R 2 (Bool.eq_false_iff.2 g18) (A (A (Bool.eq_false_iff.2 g18) (iH n _ Aj)) (R 2 (Bool.eq_false_iff.2 g18) (R 2 (Bool.eq_false_iff.2 g20) (A (A (Bool.eq_false_iff.2 g20) (aX.idx GV)) (R 4 (Bool.eq_false_iff.2 g20) (R 2 (df g21) (A (A (df g21) (aX.idx GV)) (R 4 (df g21) T))))))))))))) [(46,dE (e16.id>999))] ?_;cases h2;exact .lg hj2 []
  ·refine .a [.v (a0.length:Int)] (A (aX.len' a0) T) [(2,dE ((a0.length:Int)≤60))] ?_;refine .sn 0 aX a0 (by kernel_rfl) (fun alV=>?_);cases h1;cases hw1 _ rfl;exact .rt hK
 ·by_cases g23:s1<(a0.length:Int)
  ·have h2:=aK g23 h2;refine .a (.v (a0.length:Int)::(rb 3 true [])) (A (aX.len' a0) (R 3 (dt g23) T)) [(12,dE (s1≤60))] ?_;refine .sn 0 aX a0 (by kernel_rfl) (fun agN=>?_);cases h2;exact .lg hj2 []
  ·have h2:=aN g23 h2;refine .a (.v (a0.length:Int)::(rb 3 false [])) (A (aX.len' a0) (R 3 (df g23) T)) [(12,bE false)] ?_;refine .sn 0 aX a0 (by kernel_rfl) (fun alW=>?_);cases h2;exact .lg hj2 []
def gq (n:Nat) (a0:Form):Option (Bool):=
 Option.bind ((if a0.kind=1 then some (decide (a0.name=[46,46,46])) else some false):Option (Bool)) (fun(o1:Bool)=>some o1)
theorem fQ (n:Nat):∀(a0:Form) {r:Bool},gq n a0=some r→aF X.E 151 [aE (ak a0)] [] (bE r) []:=by
 intro a0 r h0;rw[gq] at h0;refine .n Tryz.func151 (fun L ks low K hl hL hlen hK=>?_);refine .af [] T [(1,pw 1)] [.o 1 (.cells ((ak a0).map .d))] ?_;refine .bP h0 rfl [] (fun o1=>[(2,bE o1)]) n1 n1 (fun o1 h0=>?_) (fun y1 h1 hj1=>?_)
 ·cases h0;exact .rt hK
 ·by_cases g2:a0.kind=1
  ·have h1:=aK g2 h1;refine .a (rb 4 true []) (R 4 (dt g2) T) [(2,dE (a0.name=[46,46,46]))] ?_;cases h1;exact .lg hj1 []
  ·have h1:=aN g2 h1;refine .a (rb 4 false []) (R 4 (df g2) T) [(2,bE false)] ?_;cases h1;exact .lg hj1 []
def vU (n:Nat) (a0:List Form) (a1:Form):Option (Bool):=
 bH (bV (fun(s2:Unit) (i1:Nat) (x4:Form)=>((fD n x4 a1).bind fun k10=>(if k10=true then some (Sum.inl true) else some (Sum.inr ())):Option (Bool⊕Unit))) 0 a0 ()) (fun(s2:Unit)=>some false)
theorem BN (n:Nat):∀(a0:List Form) (a1:Form) {r:Bool},vU n a0 a1=some r→aF X.E 146 [lE 5 (aj a0),aE (ak a1)] [] (bE r) []:=by
 intro a0 a1 r h0;rw[vU] at h0;refine .n Tryz.func146 (fun L ks low K hl hL hlen hK=>?_);refine .af [] T [(3,pw 3)] [.o 3 (.cells ((ak a1).map .d))] ?_;refine .a [] T [(5,iE 0)] ?_;refine .lI h0 rfl [0,3] (fun i1 s2=>[(5,iE (i1:Int))]) n2 n2 [] (by kernel_rfl) (fun i1 s2 q3 hd5 VD h0=>?_);refine .a [.v (a0.length:Int)] (A (aA.len' a0) T) [(9,dE ((i1:Int)<(a0.length:Int)))] ?_;refine .sn 0 aA a0 (by kernel_rfl) (fun hb8=>?_);refine .lc hd5 rfl (by kernel_rfl) (fun x4 q32 gJ hx4 hd6 pX=>?_) (fun gJ=>?_)
 ·subst gJ;obtain⟨y1,h1,hw1,hn1⟩:=bf h0;obtain⟨k10,hk10,h1⟩:=bnd h1;refine .ad mixed [(2,[.cs (ak x4)]),(5,[.call [] (bE k10) []])] [] (A (aA.iU hx4) (A (gX n _ _ hk10) T)) [(17,bE k10)] [] [] ?_;refine .jT h1 (fun bI h1=>?_) (fun bI h1=>?_)
  ·refine .a [] T [(4,bE true)] ?_;cases h1;cases hw1 _ rfl;exact .rt hK
  ·refine .a [.v ((i1+1:Nat):Int)] (A (wn (i:=i1) (by omega)) T) [(5,iE ((i1+1:Nat):Int))] ?_;cases h1;exact .nL rfl (i1+1) _ hd6 pX (hn1 _ rfl) [] (by kernel_rfl)
 ·subst gJ;have h0:=bM h0;refine .a [] T [(4,bE false)] ?_;cases h0;exact .rt hK
def xB (n:Nat) (a0:Form) (a1:List Form):Option (Bool):=
 Option.bind ((if a0.kind=1 then(if ¬a0.name=[46,46,46] then(if ¬a0.name=[95] then(vU n a1 a0).bind fun k5=>some (!k5) else some false) else some false) else some false):Option (Bool)) (fun(o1:Bool)=>some o1)
theorem JL (n:Nat):∀(a0:Form) (a1:List Form) {r:Bool},xB n a0 a1=some r→aF X.E 167 [aE (ak a0),lE 5 (aj a1)] [] (bE r) []:=by
 intro a0 a1 r h0;rw[xB] at h0;refine .n Tryz.func167 (fun L ks low K hl hL hlen hK=>?_);refine .af [] T [(2,pw 2)] [.o 2 (.cells ((ak a0).map .d))] ?_;refine .bP h0 rfl [] (fun o1=>[(4,bE o1)]) n1 n1 (fun o1 h0=>?_) (fun y1 h1 hj1=>?_)
 ·cases h0;exact .rt hK
 ·by_cases g2:a0.kind=1
  ·have h1:=aK g2 h1;by_cases g3:¬a0.name=[46,46,46]
   ·have h1:=aK g3 h1;by_cases g4:¬a0.name=[95]
    ·have h1:=aK g4 h1;obtain⟨k5,hk5,h1⟩:=bnd h1;refine .a (rb 11 true [.call [] (bE k5) [],.b true,.b true]) (R 4 (dt g2) (R 4 (dt g3) (R 2 (dt g4) (A (A (dt g4) (BN n _ _ hk5)) (R 2 (dt g4) T))))) [(4,bE (!k5))] ?_;cases h1;exact .lg hj1 []
    ·have h1:=aN g4 h1;refine .a (rb 8 true (rb 5 false [])) (R 4 (dt g2) (R 4 (dt g3) (R 5 (df g4) T))) [(4,bE false)] ?_;cases h1;exact .lg hj1 []
   ·have h1:=aN g3 h1;refine .a (rb 4 true (rb 9 false [])) (R 4 (dt g2) (R 4 (df g3) (R 5 B0 T))) [(4,bE false)] ?_;cases h1;exact .lg hj1 []
  ·have h1:=aN g2 h1;refine .a (rb 13 false []) (R 4 (df g2) (R 9 B0 T)) [(4,bE false)] ?_;cases h1;exact .lg hj1 []
def jK:Nat→(List Int)→Form→(List Form)→Int→Option (List Int)
 | 0,_,_,_,_=>none
 | n+1,a0,a1,a2,a3=>(xB n a1 a2).bind fun k1=>Option.bind ((if k1=true then(jH 8 a0 [a3]).bind fun z20=>some z20 else some a0):Option (List Int)) (fun(o2:List Int)=>Option.bind (dY (fun(s4:List Int) (i3:Nat) (x6:Form)=>Option.bind ((if((i3+1:Nat):Int)<(a1.kids.length:Int) then(gQ a1.kids ((i3+1:Nat):Int)).bind fun e17=>(gq n e17).bind fun k18=>some k18 else some false):Option (Bool)) (fun(rW:Bool)=>Option.bind ((if rW=true then some (aY (a3+1)) else some a3):Option (Int)) (fun(o13:Int)=>(jK n s4 x6 a2 o13).bind fun k14=>some k14))) 0 a1.kids o2) (fun(s4:List Int)=>some s4))
theorem wE (n:Nat):∀(a0:List Int) (a1:Form) (a2:List Form) (a3:Int) {r:List Int},jK n a0 a1 a2 a3=some r→aF X.E 162 [.vs (.low 0) 1 ((ah a0).length),aE (ak a1),lE 5 (aj a2),iE a3] [some (.vec 3 1 (ah a0))] (.vs (.low 0) 1 ((ah r).length)) [.vec 3 1 (ah r)]:=by
 induction n with
 | zero=>intro a0 a1 a2 a3 r h; cases h
 | succ n ih=>
  intro a0 a1 a2 a3 r h0;rw[jK] at h0;refine .n Tryz.func162 (fun L ks low K hl hL hlen hK=>?_);refine .af [] T [(5,pw 5)] [.o 5 (.cells ((ak a1).map .d))] ?_;obtain⟨k1,hk1,h0⟩:=bnd h0;refine .a [.call [] (bE k1) []] (A (JL n _ _ hk1) T) [(13,bE k1)] ?_;refine .bP h0 rfl [2,3,5] (fun o2=>[(0,.vs (.low 0) 1 ((ah o2).length))]) n1 (fun o2=>[.o 0 (.vec 3 1 (ah o2))]) (fun o2 h0=>?_) (fun y1 h1 hj1=>?_)
  ·refine .a [] T [(9,iE 0)] ?_;refine .lL h0 rfl [2,3,5] (fun i3 s4=>[(0,.vs (.low 0) 1 ((ah s4).length)),(9,iE (i3:Int))]) n2 (fun i3 s4=>[.o 0 (.vec 3 1 (ah s4))]) [] (by kernel_rfl) (fun i3 s4 q5 hd7 hi9 h0=>?_);refine .a [.v (a1.kids.length:Int)] (A (aA.len' a1.kids) T) [(20,lE 5 (aj a1.kids)),(22,dE ((i3:Int)<(a1.kids.length:Int)))] ?_;refine .sn 20 aA a1.kids (by kernel_rfl) (fun Au=>?_);refine .lc hd7 rfl (by kernel_rfl) (fun x6 KT bI hx6 hd8 jo=>?_) (fun bI=>?_)
   ·subst bI;obtain⟨y1,h1,hn1⟩:=bZ h0;refine .a [] T [(10,iE a3)] ?_;refine .bP h1 rfl [0,2,3,5,9,10] (fun rW=>[(40,bE rW)]) n1 n1 (fun rW h1=>?_) (fun y2 h2 hj2=>?_)
    ·refine .bP h1 rfl [0,2,3,5,9] (fun o13=>[(10,iE o13)]) n1 n1 (fun o13 h1=>?_) (fun y2 h2 hj2=>?_)
     ·obtain⟨k14,wz,h1⟩:=bnd h1;refine .ao [.cs (ak x6),.call [.low 0] (.vs (.low 0) 1 ((ah k14).length)) [.vec 3 1 (ah k14)]] (A (aA.iU hx6) (A (ih _ _ _ _ wz) T)) [(0,.vs (.low 0) 1 ((ah k14).length))] [.o 0 (.vec 3 1 (ah k14))] ?_;refine .a [.v ((i3+1:Nat):Int)] (A (wn (i:=i3) (by omega)) T) [(9,iE ((i3+1:Nat):Int))] ?_;cases h1;exact .nL rfl (i3+1) _ hd8 jo hn1 [] (by kernel_rfl)
     ·refine .jT h2 (fun AB h2=>?_) (fun AB h2=>?_)
      ·refine .a [.pl] T [(10,iE (aY (a3+1)))] ?_;cases h2;exact .lg hj2 []
      ·cases h2;exact .lg hj2 []
    ·by_cases g16:((i3+1:Nat):Int)<(a1.kids.length:Int)
     ·have h2:=aK g16 h2;obtain⟨e17,ace,h2⟩:=bnd h2;obtain⟨k18,ql,h2⟩:=bnd h2;refine .a (.v ((i3+1:Nat):Int)::(.v (a1.kids.length:Int)::(rb 4 true [.v ((i3+1:Nat):Int),.b true,.cs (ak e17),.b true,.b true,.call [] (bE k18) [],.b true]))) (A (wn (i:=i3) (by omega)) (A (aA.len' a1.kids) (R 3 (dt g16) (A (A (dt g16) (wn (i:=i3) (by omega))) (A (A (dt g16) (aA.idx ace)) (A (dt g16) (A (A (dt g16) (fQ n _ ql)) (A (dt g16) T)))))))) [(40,bE k18)] ?_;cases h2;exact .lg hj2 []
     ·have h2:=aN g16 h2;refine .a (.v ((i3+1:Nat):Int)::(.v (a1.kids.length:Int)::(rb 8 false []))) (A (wn (i:=i3) (by omega)) (A (aA.len' a1.kids) (R 8 (df g16) T))) [(40,bE false)] ?_;cases h2;exact .lg hj2 []
   ·subst bI;have h0:=dN h0;refine .a [] T [(8,.vs (.low 0) 1 ((ah s4).length))] ?_;refine .kp [8] [] ?_;refine .dr 5 (by kernel_rfl) ?_;cases h0;exact .rt hK
  ·refine .jT h1 (fun hc19 h1=>?_) (fun hc19 h1=>?_)
   ·obtain⟨z20,ajq,h1⟩:=bnd h1;refine .ao [.sv (ah [a3]),.sv (ah z20)] (A (aI.lit [a3]) (A (A (aI.ap ajq) (rfl:(ah a0).length=(ah a0).length)) T)) [(0,.vs (.low 0) 1 ((ah z20).length))] [.o 0 (.vec 3 1 (ah z20))] ?_;cases h1;exact .lg hj1 []
   ·cases h1;exact .lg hj1 []
def pz:Nat→(List Form)→Form→(List Form)→Option (List Form)
 | 0,_,_,_=>none
 | n+1,a0,a1,a2=>(xB n a1 a2).bind fun k1=>Option.bind ((if k1=true then(jH 80 a0 [a1]).bind fun Kw=>some Kw else some a0):Option (List Form)) (fun(o2:List Form)=>Option.bind (dY (fun(s4:List Form) (i3:Nat) (x6:Form)=>(pz n s4 x6 a2).bind fun k12=>some k12) 0 a1.kids o2) (fun(s4:List Form)=>some s4))
theorem AL (n:Nat):∀(a0:List Form) (a1:Form) (a2:List Form) {r:List Form},pz n a0 a1 a2=some r→aF X.E 161 [.vs (.low 0) 5 ((aj a0).length),aE (ak a1),lE 5 (aj a2)] [some (.vec 26 5 (aj a0))] (.vs (.low 0) 5 ((aj r).length)) [.vec 26 5 (aj r)]:=by
 induction n with
 | zero=>intro a0 a1 a2 r h; cases h
 | succ n ih=>
  intro a0 a1 a2 r h0;rw[pz] at h0;refine .n Tryz.func161 (fun L ks low K hl hL hlen hK=>?_);refine .af [] T [(4,pw 4)] [.o 4 (.cells ((ak a1).map .d))] ?_;obtain⟨k1,hk1,h0⟩:=bnd h0;refine .a [.call [] (bE k1) []] (A (JL n _ _ hk1) T) [(10,bE k1)] ?_;refine .bP h0 rfl [2,4] (fun o2=>[(0,.vs (.low 0) 5 ((aj o2).length))]) n1 (fun o2=>[.o 0 (.vec 26 5 (aj o2))]) (fun o2 h0=>?_) (fun y1 h1 hj1=>?_)
  ·refine .a [] T [(7,iE 0)] ?_;refine .lL h0 rfl [2,4] (fun i3 s4=>[(0,.vs (.low 0) 5 ((aj s4).length)),(7,iE (i3:Int))]) n2 (fun i3 s4=>[.o 0 (.vec 26 5 (aj s4))]) [] (by kernel_rfl) (fun i3 s4 q5 hd7 hi9 h0=>?_);refine .a [.v (a1.kids.length:Int)] (A (aA.len' a1.kids) T) [(17,lE 5 (aj a1.kids)),(19,dE ((i3:Int)<(a1.kids.length:Int)))] ?_;refine .sn 17 aA a1.kids (by kernel_rfl) (fun Au=>?_);refine .lc hd7 rfl (by kernel_rfl) (fun x6 KT bI hx6 hd8 jo=>?_) (fun bI=>?_)
   ·subst bI;obtain⟨y1,h1,hn1⟩:=bZ h0;obtain⟨k12,hk12,h1⟩:=bnd h1;refine .ao [.cs (ak x6),.call [.low 0] (.vs (.low 0) 5 ((aj k12).length)) [.vec 26 5 (aj k12)]] (A (aA.iU hx6) (A (ih _ _ _ hk12) T)) [(0,.vs (.low 0) 5 ((aj k12).length))] [.o 0 (.vec 26 5 (aj k12))] ?_;refine .a [.v ((i3+1:Nat):Int)] (A (wn (i:=i3) (by omega)) T) [(7,iE ((i3+1:Nat):Int))] ?_;cases h1;exact .nL rfl (i3+1) _ hd8 jo hn1 [] (by kernel_rfl)
   ·subst bI;have h0:=dN h0;refine .a [] T [(6,.vs (.low 0) 5 ((aj s4).length))] ?_;refine .kp [6] [] ?_;refine .dr 4 (by kernel_rfl) ?_;cases h0;exact .rt hK
  ·refine .jT h1 (fun hc13 h1=>?_) (fun hc13 h1=>?_)
   ·obtain⟨Kw,Ua,h1⟩:=bnd h1;refine .ao [.sv (aj [a1]),.sv (aj Kw)] (A (aA.lit [a1]) (A (A (aA.ap Ua) (rfl:(aj a0).length=(aj a0).length)) T)) [(0,.vs (.low 0) 5 ((aj Kw).length))] [.o 0 (.vec 26 5 (aj Kw))] ?_;cases h1;exact .lg hj1 []
   ·cases h1;exact .lg hj1 []
def AO (n:Nat) (a0:Form) (a1:List Form) (a2:List (List iF)):Option (List iF):=
 (pz n [] a0 a1).bind fun k1=>(jK n [] a0 a1 0).bind fun k2=>Option.bind (dY (fun(s4:List iF) (i3:Nat) (x6:Form)=>(inB (i3:Int) k2.length).bind fun u12=>(k2[i3]?).bind fun e13=>Option.bind (dY (fun(s15:List iF) (O9:Nat) (x17:List iF)=>(gQ x17 (i3:Int)).bind fun e23=>(jH 192 s15 [e23]).bind fun z24=>some z24) 0 a2 []) (fun(s15:List iF)=>(jH 192 s4 [(⟨x6,(aY (e13+1)),(⟨0,[],0,[],[]⟩:Form),s15⟩:iF)]).bind fun z25=>some z25)) 0 k1 []) (fun(s4:List iF)=>some s4)
theorem Uc (n:Nat):∀(a0:Form) (a1:List Form) (a2:List (List iF)) {r:List iF},AO n a0 a1 a2=some r→aF X.E 157 [aE (ak a0),lE 5 (aj a1),lE 1 (uJ a2)] [] (lE 12 (aP r)) []:=by
 intro a0 a1 a2 r h0;rw[AO] at h0;refine .n Tryz.func157 (fun L ks low K hl hL hlen hK=>?_);refine .af [] T [(3,pw 3)] [.o 3 (.cells ((ak a0).map .d))] ?_;refine .a [.sv (aP [])] (A (je.lit []) T) [(7,fE 12 (aP []))] ?_;obtain⟨k1,hk1,h0⟩:=bnd h0;refine .af [.gv 14,.sv (aj []),.call [.own 100014] (.vs (.low 0) 5 ((aj k1).length)) [.vec 26 5 (aj k1)]] (A (aA.lit []) (A (AL n _ _ _ hk1) T)) [(8,.vs (.own 100014) 5 ((aj k1).length))] [.o 100014 (.vec 26 5 (aj k1))] ?_;obtain⟨k2,hk2,h0⟩:=bnd h0;refine .af [.gv 18,.sv (ah []),.call [.own 100018] (.vs (.low 0) 1 ((ah k2).length)) [.vec 3 1 (ah k2)]] (A (aI.lit []) (A (wE n _ _ _ _ hk2) T)) [(9,.vs (.own 100018) 1 ((ah k2).length))] [.o 100018 (.vec 3 1 (ah k2))] ?_;refine .a [] T [(10,iE 0)] ?_;refine .ow 7 100059 179 [2,8,9,10] rfl rfl (by kernel_rfl) ?_;refine .lL h0 rfl [2,8,9] (fun i3 s4=>[(7,.gs (.own 100059) 12 (aP s4)),(10,iE (i3:Int))]) (fun i3 s4=>[.o 100059 (.tok (aP s4).length 179)]) n2 [] (by kernel_rfl) (fun i3 s4 q5 hd7 hi9 h0=>?_);refine .a [.v (k1.length:Int)] (A (aA.len' k1) T) [(25,dE ((i3:Int)<(k1.length:Int)))] ?_;refine .snV 8 aA k1 (by kernel_rfl) (fun Au=>?_);refine .lc hd7 rfl (by kernel_rfl) (fun x6 KT bI hx6 hd8 jo=>?_) (fun bI=>?_)
 ·subst bI;obtain⟨y1,h1,hn1⟩:=bZ h0;obtain⟨u12,XB,h1⟩:=bnd h1;obtain⟨e13,DN,h1⟩:=bnd h1;refine .ad mixed [(3,[.cs (ak x6)]),(7,[.cs [.v (.int .i64 e13)]]),(8,[.pl])] [] (A (A (aA.inv (Jm hx6) (rfl:(aj k1).length=(aj k1).length)) (rfl:(aj k1).length=(aj k1).length)) (A (A (A (aA.rows k1) (aA.GK hx6)) (rfl:(aj k1).length=(aj k1).length)) (A (A (aI.inv XB (rfl:(ah k2).length=(ah k2).length)) (rfl:(ah k2).length=(ah k2).length)) (A (A (A (aI.rows k2) (aI.GK DN)) (rfl:(ah k2).length=(ah k2).length)) T)))) [(11,pw 11)] [.o 11 (.cells [iE x6.kind,sE x6.name,iE x6.n,lE 1 (ah x6.scopes),lE 5 (aj x6.kids),iE (aY (e13+1)),iE 0,sE [],iE 0,fE 1 (ah []),fE 5 (aj []),fE 12 (aP [])])] [] ?_;refine .a [] T [(12,iE 0)] ?_;refine .oc 11 11 100054 179 (by kernel_rfl) ?_;refine .lL h1 rfl [2,7,8,9,10,11] (fun O9 s15=>[(12,iE (O9:Int))]) (fun O9 s15=>[.c 11 11 (.gs (.own 100054) 12 (aP s15)),.o 100054 (.tok (aP s15).length 179)]) n2 [] (by kernel_rfl) (fun O9 s15 q16 aez ajr h1=>?_);refine .a [.v (a2.length:Int)] (A (Me.len' a2) T) [(41,dE ((O9:Int)<(a2.length:Int)))] ?_;refine .sn 2 Me a2 (by kernel_rfl) (fun ajs=>?_);refine .lc aez rfl (by kernel_rfl) (fun x17 ajt hc22 ZI aeA ZJ=>?_) (fun hc22=>?_)
  ·subst hc22;obtain⟨y2,h2,hn2⟩:=bZ h1;obtain⟨e23,Ud,h2⟩:=bnd h2;obtain⟨z24,aeB,h2⟩:=bnd h2;refine .ad mixed [(4,[.cs [.sl 12 false (aP x17)]]),(7,[.cs (xg e23)]),(9,[.sv (aP [e23])]),(10,[.sv (aP z24)])] [((aP s15).length:Int)] (A (Me.iU ZI) (A (je.idx Ud) (A (je.lit [e23]) (A (je.ap aeB) T)))) [] [.c 11 11 (.gs (.own 100054) 12 (aP z24)),.o 100054 (.tok (aP z24).length 179)] [] ?_;refine .a [.v ((O9+1:Nat):Int)] (A (wn (i:=O9) (by omega)) T) [(12,iE ((O9+1:Nat):Int))] ?_;cases h2;exact .nL rfl (O9+1) _ aeA ZJ hn2 [] (by kernel_rfl)
  ·subst hc22;have h1:=dN h1;obtain⟨z25,aju,h1⟩:=bnd h1;refine .aq [.sv (aP [(⟨x6,(aY (e13+1)),(⟨0,[],0,[],[]⟩:Form),s15⟩:iF)]),.sv (aP z25)] [((aP s4).length:Int)] (A (je.lit [(⟨x6,(aY (e13+1)),(⟨0,[],0,[],[]⟩:Form),s15⟩:iF)]) (A (je.ap aju) T)) [(7,.gs (.own 100059) 12 (aP z25))] [.o 100059 (.tok (aP z25).length 179)] [] ?_;refine .a [.v ((i3+1:Nat):Int)] (A (wn (i:=i3) (by omega)) T) [(10,iE ((i3+1:Nat):Int))] ?_;cases h1;refine .kp [2,7,8,9,10] [] ?_;refine .dr 11 (by kernel_rfl) ?_;refine .dr 100054 (by kernel_rfl) ?_;exact .nL rfl (i3+1) _ hd8 jo hn1 [] (by kernel_rfl)
 ·subst bI;have h0:=dN h0;refine .a [] T [(6,.gs (.own 100059) 12 (aP s4))] ?_;cases h0;exact .rt hK
def iY (n:Nat) (a0:List Int) (a1:List Int):Option (Bool):=
 bH (bV (fun(s2:Unit) (i1:Nat) (x4:Int)=>((nT n a1 x4).bind fun k10=>(if(!k10)=true then some (Sum.inl false) else some (Sum.inr ())):Option (Bool⊕Unit))) 0 a0 ()) (fun(s2:Unit)=>some true)
theorem vV (n:Nat):∀(a0:List Int) (a1:List Int) {r:Bool},iY n a0 a1=some r→aF X.E 123 [lE 1 (ah a0),lE 1 (ah a1)] [] (bE r) []:=by
 intro a0 a1 r h0;rw[iY] at h0;refine .n Tryz.func123 (fun L ks low K hl hL hlen hK=>?_);refine .a [] T [] ?_;refine .a [] T [(5,iE 0)] ?_;refine .lI h0 rfl [0,1] (fun i1 s2=>[(5,iE (i1:Int))]) n2 n2 [] (by kernel_rfl) (fun i1 s2 q3 hd5 VD h0=>?_);refine .a [.v (a0.length:Int)] (A (aI.len' a0) T) [(9,dE ((i1:Int)<(a0.length:Int)))] ?_;refine .sn 0 aI a0 (by kernel_rfl) (fun hb8=>?_);refine .lc hd5 rfl (by kernel_rfl) (fun x4 q32 gJ hx4 hd6 pX=>?_) (fun gJ=>?_)
 ·subst gJ;obtain⟨y1,h1,hw1,hn1⟩:=bf h0;obtain⟨k10,hk10,h1⟩:=bnd h1;refine .a [.cs [.v (.int .i64 x4)],.call [] (bE k10) []] (A (aI.iU hx4) (A (uT n _ _ hk10) T)) [(18,bE (!k10))] ?_;refine .jT h1 (fun bI h1=>?_) (fun bI h1=>?_)
  ·refine .a [] T [(4,bE false)] ?_;cases h1;cases hw1 _ rfl;exact .rt hK
  ·refine .a [.v ((i1+1:Nat):Int)] (A (wn (i:=i1) (by omega)) T) [(5,iE ((i1+1:Nat):Int))] ?_;cases h1;exact .nL rfl (i1+1) _ hd6 pX (hn1 _ rfl) [] (by kernel_rfl)
 ·subst gJ;have h0:=bM h0;refine .a [] T [(4,bE true)] ?_;cases h0;exact .rt hK
def qc (n:Nat) (a0:List Bind) (a1:Form):Option (List Int):=
 Option.bind (dY (fun(s2:List Int) (i1:Nat) (x4:Bind)=>Option.bind (Option.bind ((if x4.name=a1.name then(iY n x4.scopes a1.scopes).bind fun k15=>some k15 else some false):Option (Bool)) (fun(KR:Bool)=>(if KR=true then(jH 8 s2 [(i1:Int)]).bind fun z13=>some z13 else some s2)):Option (List Int)) (fun(kM:List Int)=>some kM)) 0 a0 []) (fun(s2:List Int)=>some s2)
theorem JM (n:Nat):∀(a0:List Bind) (a1:Form) {r:List Int},qc n a0 a1=some r→aF X.E 122 [lE 3 (ay a0),aE (ak a1)] [] (lE 1 (ah r)) []:=by
 intro a0 a1 r h0;rw[qc] at h0;refine .n Tryz.func122 (fun L ks low K hl hL hlen hK=>?_);refine .af [] T [(3,pw 3)] [.o 3 (.cells ((ak a1).map .d))] ?_;refine .a [.sv (ah [])] (A (aI.lit []) T) [(5,fE 1 (ah []))] ?_;refine .a [] T [(6,iE 0)] ?_;refine .ow 5 100035 3 [0,3,6] rfl rfl (by kernel_rfl) ?_;refine .lL h0 rfl [0,3] (fun i1 s2=>[(5,.gs (.own 100035) 1 (ah s2)),(6,iE (i1:Int))]) (fun i1 s2=>[.o 100035 (.tok (ah s2).length 3)]) n2 [] (by kernel_rfl) (fun i1 s2 q3 hd5 VD h0=>?_);refine .a [.v (a0.length:Int)] (A (aX.len' a0) T) [(11,dE ((i1:Int)<(a0.length:Int)))] ?_;refine .sn 0 aX a0 (by kernel_rfl) (fun hb8=>?_);refine .lc hd5 rfl (by kernel_rfl) (fun x4 q32 gJ hx4 hd6 pX=>?_) (fun gJ=>?_)
 ·subst gJ;obtain⟨y1,h1,hn1⟩:=bZ h0;refine .bPB h1 rfl [0,3,6] (fun kM=>[(5,.gs (.own 100035) 1 (ah kM))]) (fun kM=>[.o 100035 (.tok (ah kM).length 3)]) n1 (fun kM h1=>?_) (fun y2 h2 hj2=>?_)
  ·refine .a [.v ((i1+1:Nat):Int)] (A (wn (i:=i1) (by omega)) T) [(6,iE ((i1+1:Nat):Int))] ?_;cases h1;exact .nL rfl (i1+1) _ hd6 pX hn1 [] (by kernel_rfl)
  ·refine .bP h2 rfl [0,3,5,6] (fun KR=>[(31,bE KR)]) n1 n1 (fun KR h2=>?_) (fun y3 h3 hj3=>?_)
   ·refine .jT h2 (fun hc12 h2=>?_) (fun hc12 h2=>?_)
    ·obtain⟨z13,Aw,h2⟩:=bnd h2;refine .aq [.sv (ah [(i1:Int)]),.sv (ah z13)] [((ah s2).length:Int)] (A (aI.lit [(i1:Int)]) (A (aI.ap Aw) T)) [(5,.gs (.own 100035) 1 (ah z13))] [.o 100035 (.tok (ah z13).length 3)] [] ?_;cases h2;exact .lg hj2 []
    ·cases h2;exact .lg hj2 []
   ·by_cases g14:x4.name=a1.name
    ·have h3:=aK g14 h3;obtain⟨k15,uP,h3⟩:=bnd h3;refine .ad mixed ((2,[.cs (eF x4)])::(qb 9 2 true ((11,[.b true,.cs (eF x4)])::(qb 12 4 true [(16,[.b true,.call [] (bE k15) []]),(17,[.b true])])))) [] (A (aX.iU hx4) (R 2 (dt g14) (A (A (dt g14) (aX.iU hx4)) (R 4 (dt g14) (A (A (dt g14) (vV n _ _ uP)) (A (dt g14) T)))))) [(31,bE k15)] [] [] ?_;cases h3;exact .lg hj3 []
    ·have h3:=aN g14 h3;refine .ad mixed ((2,[.cs (eF x4)])::(qb 9 9 false [])) [] (A (aX.iU hx4) (R 9 (df g14) T)) [(31,bE false)] [] [] ?_;cases h3;exact .lg hj3 []
 ·subst gJ;have h0:=dN h0;refine .a [] T [(4,.gs (.own 100035) 1 (ah s2))] ?_;cases h0;exact .rt hK
def qE (n:Nat) (a0:List Bind) (a1:Form):Option (Int×Int):=
 (qc n a0 a1).bind fun k1=>bH (bV (fun(s3:Unit) (i2:Nat) (x5:Int)=>(Option.bind (dY (fun(s12:Bool) (i11:Nat) (x14:Int)=>Option.bind ((if s12=true then(gQ a0 x14).bind fun e21=>(gQ a0 x5).bind fun e22=>(iY n e21.scopes e22.scopes).bind fun k23=>some k23 else some false):Option (Bool)) (fun(xC:Bool)=>some xC)) 0 k1 true) (fun(s12:Bool)=>(if s12=true then some (Sum.inl (x5,1)) else some (Sum.inr ()))):Option ((Int×Int)⊕Unit))) 0 k1 ()) (fun(s3:Unit)=>(if(k1.length:Int)>0 then some (0,2) else some (0,0)))
theorem AP (n:Nat):∀(a0:List Bind) (a1:Form) {r:Int×Int},qE n a0 a1=some r→aF X.E 114 [lE 3 (ay a0),aE (ak a1)] [] (.dO [iE r.1,iE r.2]) []:=by
 intro a0 a1 r h0;rw[qE] at h0;refine .n Tryz.func114 (fun L ks low K hl hL hlen hK=>?_);refine .af [] T [(3,pw 3)] [.o 3 (.cells ((ak a1).map .d))] ?_;obtain⟨k1,hk1,h0⟩:=bnd h0;refine .a [.call [] (lE 1 (ah k1)) []] (A (JM n _ _ hk1) T) [(6,lE 1 (ah k1))] ?_;refine .a [] T [(7,iE 0)] ?_;refine .lI h0 rfl [0,6] (fun i2 s3=>[(7,iE (i2:Int))]) n2 n2 [] (by kernel_rfl) (fun i2 s3 q4 hd6 hi8 h0=>?_);refine .a [.v (k1.length:Int)] (A (aI.len' k1) T) [(16,dE ((i2:Int)<(k1.length:Int)))] ?_;refine .sn 6 aI k1 (by kernel_rfl) (fun hb9=>?_);refine .lc hd6 rfl (by kernel_rfl) (fun x5 q42 iQ hx5 hd7 Ak=>?_) (fun iQ=>?_)
 ·subst iQ;obtain⟨y1,h1,hw1,hn1⟩:=bf h0;refine .a [] T [(8,bE true)] ?_;refine .a [] T [(9,iE 0)] ?_;refine .lL h1 rfl [0,6,7] (fun i11 s12=>[(8,bE s12),(9,iE (i11:Int))]) n2 n2 [] (by kernel_rfl) (fun i11 s12 q13 ZK agP h1=>?_);refine .a [.v (k1.length:Int)] (A (aI.len' k1) T) [(22,dE ((i11:Int)<(k1.length:Int)))] ?_;refine .lc ZK rfl (by kernel_rfl) (fun x14 agQ hc18 QE ZL QF=>?_) (fun hc18=>?_)
  ·subst hc18;obtain⟨y2,h2,hn2⟩:=bZ h1;refine .bP h2 rfl [0,6,7,9] (fun xC=>[(8,bE xC)]) n1 n1 (fun xC h2=>?_) (fun y3 h3 hj3=>?_)
   ·refine .a [.v ((i11+1:Nat):Int)] (A (wn (i:=i11) (by omega)) T) [(9,iE ((i11+1:Nat):Int))] ?_;cases h2;exact .nL rfl (i11+1) _ ZL QF hn2 [] (by kernel_rfl)
   ·by_cases g20:s12=true
    ·have h3:=aK g20 h3;obtain⟨e21,GY,h3⟩:=bnd h3;obtain⟨e22,ajv,h3⟩:=bnd h3;obtain⟨k23,Ue,h3⟩:=bnd h3;refine .ad mixed (qb 2 3 true ((5,[.b true,.cs [.v (.int .i64 x14)]])::((6,[.b true])::((7,[.b true,.cs (eF e21)])::(qb 8 5 true ((13,[.b true,.cs [.v (.int .i64 x5)]])::((14,[.b true])::((15,[.b true,.cs (eF e22)])::(qb 16 2 true [(18,[.b true,.call [] (bE k23) []]),(19,[.b true])]))))))))) [] (R 3 g20 (A (A g20 (aI.iU QE)) (A g20 (A (A g20 (aX.idx GY)) (R 5 g20 (A (A g20 (aI.iU hx5)) (A g20 (A (A g20 (aX.idx ajv)) (R 2 g20 (A (A g20 (vV n _ _ Ue)) (A g20 T))))))))))) [(8,bE k23)] [] [] ?_;cases h3;exact .lg hj3 []
    ·have h3:=aN g20 h3;refine .ad mixed (qb 2 18 false []) [] (R 18 (Bool.eq_false_iff.2 g20) T) [(8,bE false)] [] [] ?_;cases h3;exact .lg hj3 []
  ·subst hc18;have h1:=dN h1;refine .a [] T [(45,bE s12)] ?_;refine .jT h1 (fun hc24 h1=>?_) (fun hc24 h1=>?_)
   ·refine .a [.cs [.v (.int .i64 x5)]] (A (aI.iU hx5) T) [(4,iE x5),(5,iE 1)] ?_;cases h1;cases hw1 _ rfl;exact .rt hK
   ·refine .a [.v ((i2+1:Nat):Int)] (A (wn (i:=i2) (by omega)) T) [(7,iE ((i2+1:Nat):Int))] ?_;cases h1;exact .nL rfl (i2+1) _ hd7 Ak (hn1 _ rfl) [] (by kernel_rfl)
 ·subst iQ;have h0:=bM h0;refine .a [.v (k1.length:Int)] (A (aI.len' k1) T) [(52,dE ((k1.length:Int)>0))] ?_;refine .jP h0 (fun hc25 h0=>?_) (fun hc25 h0=>?_)
  ·refine .a [] T [(4,iE 0),(5,iE 2)] ?_;cases h0;exact .rt hK
  ·refine .a [] T [(4,iE 0),(5,iE 0)] ?_;cases h0;exact .rt hK
def xE (n:Nat) (a0:List Bind) (a1:Form) (a2:Form):Option (Bool):=
 (qE n a0 a1).bind fun k1=>(qE n a0 a2).bind fun k2=>Option.bind ((if ¬k1.2=k2.2 then some true else some (decide (k1.2=2))):Option (Bool)) (fun(o3:Bool)=>(if o3=true then some false else(if k1.2=0 then some (decide (a1.name=a2.name)) else(gQ a0 k1.1).bind fun e6=>(gQ a0 k2.1).bind fun e7=>some (decide (e6.id=e7.id)))))
theorem QG (n:Nat):∀(a0:List Bind) (a1:Form) (a2:Form) {r:Bool},xE n a0 a1 a2=some r→aF X.E 147 [lE 3 (ay a0),aE (ak a1),aE (ak a2)] [] (bE r) []:=by
 intro a0 a1 a2 r h0;rw[xE] at h0;refine .n Tryz.func147 (fun L ks low K hl hL hlen hK=>?_);refine .af [] T [(4,pw 4),(5,pw 5)] [.o 4 (.cells ((ak a1).map .d)),.o 5 (.cells ((ak a2).map .d))] ?_;obtain⟨k1,hk1,h0⟩:=bnd h0;refine .a [.call [] (.dO [iE k1.1,iE k1.2]) []] (A (AP n _ _ hk1) T) [(7,iE k1.1),(8,iE k1.2)] ?_;obtain⟨k2,hk2,h0⟩:=bnd h0;refine .a [.call [] (.dO [iE k2.1,iE k2.2]) []] (A (AP n _ _ hk2) T) [(9,iE k2.1),(10,iE k2.2)] ?_;refine .bP h0 rfl [0,4,5,7,8,9] (fun o3=>[(29,bE o3)]) n1 n1 (fun o3 h0=>?_) (fun y1 h1 hj1=>?_)
 ·refine .jT h0 (fun hc4 h0=>?_) (fun hc4 h0=>?_)
  ·refine .a [] T [(6,bE false)] ?_;cases h0;exact .rt hK
  ·refine .a [] T [(31,dE (k1.2=0))] ?_;refine .jP h0 (fun hc5 h0=>?_) (fun hc5 h0=>?_)
   ·refine .a [] T [(6,dE (a1.name=a2.name))] ?_;cases h0;exact .rt hK
   ·obtain⟨e6,VE,h0⟩:=bnd h0;obtain⟨e7,EC,h0⟩:=bnd h0;refine .ad mixed [(2,[.cs (eF e6)]),(7,[.cs (eF e7)])] [] (A (aX.idx VE) (A (aX.idx EC) T)) [(6,dE (e6.id=e7.id))] [] [] ?_;cases h0;exact .rt hK
 ·by_cases g8:¬k1.2=k2.2
  ·have h1:=aK g8 h1;refine .a (rb 3 true []) (R 3 (dt g8) T) [(29,bE true)] ?_;cases h1;exact .lg hj1 []
  ·have h1:=aN g8 h1;refine .a (rb 3 false []) (R 3 (df g8) T) [(29,dE (k1.2=2))] ?_;cases h1;exact .lg hj1 []
mutual
def tY:Nat→(List Bind)→(List Form)→(List Form)→(List Form)→Option ((List iF)×Bool)
 | 0,_,_,_,_=>none
 | n+1,a0,a1,a2,a3=>iterM n (fun(s1:Int×Int)=>((if(aY (s1.2+1))<(a1.length:Int) then Option.bind ((gQ a1 (aY (s1.2+1))).bind fun e6=>(gq n e6).bind fun k7=>(if k7=true then some s1.2 else some s1.1):Option (Int)) (fun(o5:Int)=>some (Sum.inr (o5,(aY (s1.2+1))))) else Option.bind ((if s1.1<0 then(if ¬(a1.length:Int)=(a3.length:Int) then some true else(if s1.1≥0 then some (decide ((a3.length:Int)<(aY ((a1.length:Int)-2)))) else some false)) else(if s1.1≥0 then some (decide ((a3.length:Int)<(aY ((a1.length:Int)-2)))) else some false)):Option (Bool)) (fun(o9:Bool)=>(if o9=true then some (Sum.inl ([],false)) else bH (bV (fun(s12:(List iF)×Int) (i11:Nat) (x14:Form)=>(bH ((gq n x14).bind fun k20=>(if k20=true then some (Sum.inr (s12.1,s12.2)) else(if ¬(i11:Int)=s1.1 then(gQ a3 s12.2).bind fun e23=>(iC n a0 x14 a2 e23).bind fun k24=>(if(!k24.2)=true then some (Sum.inl (Sum.inl (Sum.inl (s12.1,false)))) else(jH 192 s12.1 k24.1).bind fun z26=>some (Sum.inr (z26,(aY (s12.2+1))))) else iterM n (fun(Pg:Int×(List (List iF))×Int)=>((if Pg.2.2>0 then(gQ a3 Pg.1).bind fun e31=>(iC n a0 x14 a2 e31).bind fun k32=>(if(!k32.2)=true then some (Sum.inl (Sum.inl (Sum.inl (Sum.inl (s12.1,false))))) else(jH 24 Pg.2.1 [k32.1]).bind fun z34=>some (Sum.inr ((aY (Pg.1+1)),z34,(aY (Pg.2.2-1))))) else(AO n x14 a2 Pg.2.1).bind fun Gl=>(jH 192 s12.1 Gl).bind fun z36=>some (Sum.inl (Sum.inr (z36,Pg.1)))):Option ((((((List iF)×Bool)⊕(Int×Int))⊕((List iF)×Int))⊕((List iF)×Int))⊕(Int×(List (List iF))×Int)))) (s12.2,[],(aY ((a3.length:Int)-(aY ((a1.length:Int)-2))))))):Option (((((List iF)×Bool)⊕(Int×Int))⊕((List iF)×Int))⊕((List iF)×Int))) (fun(xC:(List iF)×Int)=>some (Sum.inr (xC.1,xC.2))):Option ((((List iF)×Bool)⊕(Int×Int))⊕((List iF)×Int)))) 0 a1 ([],0)) (fun(s12:(List iF)×Int)=>some (Sum.inl (s12.1,true)))))):Option (((List iF)×Bool)⊕(Int×Int)))) ((-1),0)
def iC:Nat→(List Bind)→Form→(List Form)→Form→Option ((List iF)×Bool)
 | 0,_,_,_,_=>none
 | n+1,a0,a1,a2,a3=>(if a1.kind=1 then(if a1.name=[95] then some ([],true) else(vU n a2 a1).bind fun k3=>(if k3=true then Option.bind ((if a3.kind=1 then(xE n a0 a1 a3).bind fun k7=>some k7 else some false):Option (Bool)) (fun(o5:Bool)=>some ([],o5)) else(jH 192 [] [(⟨a1,0,a3,[]⟩:iF)]).bind fun z8=>some (z8,true))) else(if a1.kind=2 then(fD n a1 a3).bind fun k10=>some ([],k10) else(if ¬a3.kind=3 then some ([],false) else(tY n a0 a1.kids a2 a3.kids).bind fun k12=>some (k12.1,k12.2))))
end
theorem Gm (n:Nat):(∀(a0:List Bind) (a1:List Form) (a2:List Form) (a3:List Form) {r:(List iF)×Bool},tY n a0 a1 a2 a3=some r→aF X.E 148 [lE 3 (ay a0),lE 5 (aj a1),lE 5 (aj a2),lE 5 (aj a3)] [] (.dO [lE 12 (aP r.1),bE r.2]) [])∧(∀(a0:List Bind) (a1:Form) (a2:List Form) (a3:Form) {r:(List iF)×Bool},iC n a0 a1 a2 a3=some r→aF X.E 138 [lE 3 (ay a0),aE (ak a1),lE 5 (aj a2),aE (ak a3)] [] (.dO [lE 12 (aP r.1),bE r.2]) []):=by
 induction n with
 | zero=>exact⟨(by intros; rename_i h; cases h),(by intros; rename_i h; cases h)⟩
 | succ n ih=>
  refine⟨?_,?_⟩
  ·intro a0 a1 a2 a3 r h0;rw[tY] at h0;refine .n Tryz.func148 (fun L ks low K hl hL hlen hK=>?_);refine .a [] T [] ?_;refine .a [.sv (aP [])] (A (je.lit []) T) [(10,fE 12 (aP []))] ?_;refine .a [] T [(11,iE (-1))] ?_;refine .a [] T [(12,iE 0)] ?_;refine .it h0 rfl [0,1,2,3,10] (fun s1=>[(11,iE s1.1),(12,iE s1.2)]) n1 n1 [] (by kernel_rfl) (fun XV s1 h0=>?_);obtain⟨y1,h1,hw1,hn1⟩:=bW h0;refine .a [.pl,.v (a1.length:Int)] (A (aA.len' a1) T) [(26,dE ((aY (s1.2+1))<(a1.length:Int)))] ?_;refine .sn 1 aA a1 (by kernel_rfl) (fun hb3=>?_);refine .jP h1 (fun hc4 h1=>?_) (fun hc4 h1=>?_)
   ·refine .bPB h1 rfl [0,1,2,3,10,12] (fun o5=>[(11,iE o5)]) n1 n1 (fun o5 h1=>?_) (fun y2 h2 hj2=>?_)
    ·refine .a [.pl] T [(12,iE (aY (s1.2+1)))] ?_;cases h1;exact .nI rfl _ (hn1 _ rfl) [] (by kernel_rfl)
    ·obtain⟨e6,VE,h2⟩:=bnd h2;obtain⟨k7,MJ,h2⟩:=bnd h2;refine .a [.pl,.cs (ak e6),.call [] (bE k7) []] (A (aA.idx VE) (A (fQ n _ MJ) T)) [(34,bE k7)] ?_;refine .jT h2 (fun hc8 h2=>?_) (fun hc8 h2=>?_)
     ·refine .a [] T [(11,iE s1.2)] ?_;cases h2;exact .lg hj2 []
     ·cases h2;exact .lg hj2 []
   ·refine .bP h1 rfl [0,1,2,3,10,11] (fun o9=>[(56,bE o9)]) n1 n1 (fun o9 h1=>?_) (fun y2 h2 hj2=>?_)
    ·refine .jT h1 (fun iQ h1=>?_) (fun iQ h1=>?_)
     ·refine .a [] T [(8,fE 12 (aP [])),(9,bE false)] ?_;cases h1;cases hw1 _ rfl;exact .rt hK
     ·refine .a [] T [(13,iE 0)] ?_;refine .a [] T [(14,iE 0)] ?_;refine .ow 10 100091 179 [0,1,2,3,11,13,14] rfl rfl (by kernel_rfl) ?_;refine .lI h1 rfl [0,1,2,3,11] (fun i11 s12=>[(10,.gs (.own 100091) 12 (aP s12.1)),(13,iE s12.2),(14,iE (i11:Int))]) (fun i11 s12=>[.o 100091 (.tok (aP s12.1).length 179)]) n2 [] (by kernel_rfl) (fun i11 s12 q13 ZK agP h1=>?_);refine .a [.v (a1.length:Int)] (A (aA.len' a1) T) [(61,dE ((i11:Int)<(a1.length:Int)))] ?_;refine .lc ZK rfl (by kernel_rfl) (fun x14 agQ hc18 QE ZL QF=>?_) (fun hc18=>?_)
      ·subst hc18;obtain⟨y2,h2,hw2,hn2⟩:=bf h1;refine .bSB h2 rfl [0,1,2,3,11,14] (fun xC=>[(10,.gs (.own 100091) 12 (aP xC.1)),(13,iE xC.2)]) (fun xC=>[.o 100091 (.tok (aP xC.1).length 179)]) n1 (fun xC h2=>?_) (fun y3 h3 hj3 hw3=>?_)
       ·refine .a [.v ((i11+1:Nat):Int)] (A (wn (i:=i11) (by omega)) T) [(14,iE ((i11+1:Nat):Int))] ?_;cases h2;exact .nL rfl (i11+1) _ ZL QF (hn2 _ rfl) [] (by kernel_rfl)
       ·obtain⟨k20,FI,h3⟩:=bnd h3;refine .a [.cs (ak x14),.call [] (bE k20) []] (A (aA.iU QE) (A (fQ n _ FI) T)) [(68,bE k20)] ?_;refine .jT h3 (fun hc21 h3=>?_) (fun hc21 h3=>?_)
        ·cases h3;exact .lg (hj3 _ rfl) []
        ·refine .a [] T [(71,dE (¬(i11:Int)=s1.1))] ?_;refine .jP h3 (fun hc22 h3=>?_) (fun hc22 h3=>?_)
         ·obtain⟨e23,Ud,h3⟩:=bnd h3;obtain⟨k24,FD,h3⟩:=bnd h3;refine .ad mixed [(3,[.cs (ak x14)]),(8,[.cs (ak e23)]),(10,[.call [] (.dO [lE 12 (aP k24.1),bE k24.2]) []])] [] (A (aA.iU QE) (A (aA.idx Ud) (A (ih.2 _ _ _ _ FD) T))) [(15,lE 12 (aP k24.1)),(16,bE k24.2)] [] [] ?_;refine .a [] T [(87,bE (!k24.2))] ?_;refine .jT h3 (fun hc25 h3=>?_) (fun hc25 h3=>?_)
          ·refine .a [] T [(8,.gs (.own 100091) 12 (aP s12.1)),(9,bE false)] ?_;cases h3;cases hw3 _ rfl;cases hw2 _ rfl;cases hw1 _ rfl;exact .rt hK
          ·obtain⟨z26,aeC,h3⟩:=bnd h3;refine .aq [.sv (aP z26)] [((aP s12.1).length:Int)] (A (je.ap aeC) T) [(10,.gs (.own 100091) 12 (aP z26))] [.o 100091 (.tok (aP z26).length 179)] [] ?_;refine .a [.pl] T [(13,iE (aY (s12.2+1)))] ?_;cases h3;exact .lg (hj3 _ rfl) []
         ·refine .a [.sv (uJ [])] (A (Me.lit []) T) [(17,fE 1 (uJ []))] ?_;refine .a [.v (a3.length:Int),.v (a1.length:Int),.pl,.pl] (A (aA.len' a3) (A (aA.len' a1) T)) [(18,iE (aY ((a3.length:Int)-(aY ((a1.length:Int)-2)))))] ?_;refine .sn 3 aA a3 (by kernel_rfl) (fun alX=>?_);refine .ow 17 100125 167 [0,1,2,3,10,11,13,14,18] rfl rfl (by kernel_rfl) ?_;refine .it h3 rfl [0,1,2,3,10,11,14] (fun Pg=>[(13,iE Pg.1),(17,.gs (.own 100125) 1 (uJ Pg.2.1)),(18,iE Pg.2.2)]) (fun Pg=>[.o 100125 (.tok (uJ Pg.2.1).length 167)]) n1 [] (by kernel_rfl) (fun alY Pg h3=>?_);obtain⟨y4,h4,hw4,hn4⟩:=bW h3;refine .a [] T [(102,dE (Pg.2.2>0))] ?_;refine .jP h4 (fun ZE h4=>?_) (fun ZE h4=>?_)
          ·obtain⟨e31,QH,h4⟩:=bnd h4;obtain⟨k32,FK,h4⟩:=bnd h4;refine .ad mixed [(3,[.cs (ak x14)]),(8,[.cs (ak e31)]),(10,[.call [] (.dO [lE 12 (aP k32.1),bE k32.2]) []])] [] (A (aA.iU QE) (A (aA.idx QH) (A (ih.2 _ _ _ _ FK) T))) [(19,lE 12 (aP k32.1)),(20,bE k32.2)] [] [] ?_;refine .a [] T [(120,bE (!k32.2))] ?_;refine .jT h4 (fun ZF h4=>?_) (fun ZF h4=>?_)
           ·refine .a [] T [(8,.gs (.own 100091) 12 (aP s12.1)),(9,bE false)] ?_;cases h4;cases hw4 _ rfl;cases hw3 _ rfl;cases hw2 _ rfl;cases hw1 _ rfl;exact .rt hK
           ·obtain⟨z34,ajw,h4⟩:=bnd h4;refine .aq [.sv (uJ [k32.1]),.sv (uJ z34)] [((uJ Pg.2.1).length:Int)] (A (Me.lit [k32.1]) (A (Me.ap ajw) T)) [(17,.gs (.own 100125) 1 (uJ z34))] [.o 100125 (.tok (uJ z34).length 167)] [] ?_;refine .a [.pl] T [(13,iE (aY (Pg.1+1)))] ?_;refine .a [.pl] T [(18,iE (aY (Pg.2.2-1)))] ?_;cases h4;exact .nI rfl _ (hn4 _ rfl) [] (by kernel_rfl)
          ·obtain⟨Gl,Oh,h4⟩:=bnd h4;obtain⟨z36,ajx,h4⟩:=bnd h4;refine .aq [.cs (ak x14),.call [] (lE 12 (aP Gl)) [],.sv (aP z36)] [((aP s12.1).length:Int)] (A (aA.iU QE) (A (Uc n _ _ _ Oh) (A (je.ap ajx) T))) [(10,.gs (.own 100091) 12 (aP z36))] [.o 100091 (.tok (aP z36).length 179)] [] ?_;cases h4;cases hw4 _ rfl;refine .kp [0,1,2,3,10,11,13,14] [] ?_;refine .dr 100125 (by kernel_rfl) ?_;exact .lg (hj3 _ rfl) []
      ·subst hc18;have h1:=bM h1;refine .a [] T [(8,.gs (.own 100091) 12 (aP s12.1)),(9,bE true)] ?_;cases h1;cases hw1 _ rfl;exact .rt hK
    ·by_cases Oi:s1.1<0
     ·have h2:=aK Oi h2;by_cases g38:¬(a1.length:Int)=(a3.length:Int)
      ·have h2:=aK g38 h2;refine .a (.b true::(.b true::(.v (a1.length:Int)::(.b true::(.b true::(.v (a3.length:Int)::(rb 7 true []))))))) (A (dt Oi) (A (A (dt Oi) (aA.len' a1)) (A (dt Oi) (A (A (dt Oi) (aA.len' a3)) (R 2 (dt Oi) (R 5 (dt g38) T)))))) [(56,bE true)] ?_;refine .sn 3 aA a3 (by kernel_rfl) (fun ai9=>?_);cases h2;exact .lg hj2 []
      ·have h2:=aN g38 h2;by_cases g40:s1.1≥0
       ·have h2:=aK g40 h2;refine .a (.b true::(.b true::(.v (a1.length:Int)::(.b true::(.b true::(.v (a3.length:Int)::(.b true::(.b true::(rb 3 false [.b true,.b true,.v (a3.length:Int),.b true,.b true,.v (a1.length:Int),.b true,.pl,.b true,.b false,.b true,.b false]))))))))) (A (dt Oi) (A (A (dt Oi) (aA.len' a1)) (A (dt Oi) (A (A (dt Oi) (aA.len' a3)) (R 2 (dt Oi) (R 3 (df g38) (A (dt g40) (A (A (dt g40) (aA.len' a3)) (A (dt g40) (A (A (dt g40) (aA.len' a1)) (R 2 (dt g40) (A (A (df g38) (dt g40)) (A (df g38) T))))))))))))) [(56,dE ((a3.length:Int)<(aY ((a1.length:Int)-2))))] ?_;refine .sn 3 aA a3 (by kernel_rfl) (fun alZ=>?_);cases h2;exact .lg hj2 []
       ·have h2:=aN g40 h2;refine .a (.b true::(.b true::(.v (a1.length:Int)::(.b true::(.b true::(.v (a3.length:Int)::(.b true::(.b true::(rb 12 false []))))))))) (A (dt Oi) (A (A (dt Oi) (aA.len' a1)) (A (dt Oi) (A (A (dt Oi) (aA.len' a3)) (R 2 (dt Oi) (R 3 (df g38) (R 6 (df g40) (A (A (df g38) (df g40)) (A (df g38) T))))))))) [(56,bE false)] ?_;refine .sn 3 aA a3 (by kernel_rfl) (fun al0=>?_);cases h2;exact .lg hj2 []
     ·have h2:=aN Oi h2;by_cases g43:s1.1≥0
      ·have h2:=aK g43 h2;refine .a (rb 9 false [.b true,.b true,.v (a3.length:Int),.b true,.b true,.v (a1.length:Int),.b true,.pl,.b true,.b false,.b true,.b false]) (R 6 (df Oi) (R 3 B0 (A (dt g43) (A (A (dt g43) (aA.len' a3)) (A (dt g43) (A (A (dt g43) (aA.len' a1)) (R 2 (dt g43) (A (A B0 (dt g43)) (A B0 T))))))))) [(56,dE ((a3.length:Int)<(aY ((a1.length:Int)-2))))] ?_;refine .sn 3 aA a3 (by kernel_rfl) (fun al1=>?_);cases h2;exact .lg hj2 []
      ·have h2:=aN g43 h2;refine .a (rb 18 false []) (R 6 (df Oi) (R 3 B0 (R 6 (df g43) (A (A B0 (df g43)) (A B0 T))))) [(56,bE false)] ?_;cases h2;exact .lg hj2 []
  ·intro a0 a1 a2 a3 r h0;rw[iC] at h0;refine .n Tryz.func138 (fun L ks low K hl hL hlen hK=>?_);refine .af [] T [(5,pw 5),(7,pw 7)] [.o 5 (.cells ((ak a1).map .d)),.o 7 (.cells ((ak a3).map .d))] ?_;refine .a [.sv (aP [])] (A (je.lit []) T) [(10,fE 12 (aP []))] ?_;refine .a [] T [(14,dE (a1.kind=1))] ?_;refine .jP h0 (fun hc1 h0=>?_) (fun hc1 h0=>?_)
   ·refine .a [] T [(17,dE (a1.name=[95]))] ?_;refine .jP h0 (fun hc2 h0=>?_) (fun hc2 h0=>?_)
    ·refine .a [] T [(8,fE 12 (aP [])),(9,bE true)] ?_;cases h0;exact .rt hK
    ·obtain⟨k3,hk3,h0⟩:=bnd h0;refine .a [.call [] (bE k3) []] (A (BN n _ _ hk3) T) [(21,bE k3)] ?_;refine .jT h0 (fun hc4 h0=>?_) (fun hc4 h0=>?_)
     ·refine .bP h0 rfl [] (fun o5=>[(8,fE 12 (aP [])),(9,bE o5)]) n1 n1 (fun o5 h0=>?_) (fun y1 h1 hj1=>?_)
      ·cases h0;exact .rt hK
      ·by_cases g6:a3.kind=1
       ·have h1:=aK g6 h1;obtain⟨k7,MJ,h1⟩:=bnd h1;refine .a (rb 4 true [.call [] (bE k7) [],.b true]) (R 3 (dt g6) (A (A (dt g6) (QG n _ _ _ MJ)) (A (dt g6) T))) [(8,fE 12 (aP [])),(9,bE k7)] ?_;cases h1;exact .lg hj1 []
       ·have h1:=aN g6 h1;refine .a (rb 5 false []) (R 5 (df g6) T) [(8,fE 12 (aP [])),(9,bE false)] ?_;cases h1;exact .lg hj1 []
     ·obtain⟨z8,hz8,h0⟩:=bnd h0;refine .af [.sv (aP [(⟨a1,0,a3,[]⟩:iF)]),.sv (aP z8)] (A (je.lit [(⟨a1,0,a3,[]⟩:iF)]) (A (je.ap hz8) T)) [(8,.gs (.own 100037) 12 (aP z8)),(9,bE true)] [.o 100037 (.tok (aP z8).length 179)] ?_;cases h0;exact .rt hK
   ·refine .a [] T [(40,dE (a1.kind=2))] ?_;refine .jP h0 (fun gJ h0=>?_) (fun gJ h0=>?_)
    ·obtain⟨k10,hk10,h0⟩:=bnd h0;refine .a [.call [] (bE k10) []] (A (gX n _ _ hk10) T) [(8,fE 12 (aP [])),(9,bE k10)] ?_;cases h0;exact .rt hK
    ·refine .a [] T [(47,dE (¬a3.kind=3))] ?_;refine .jP h0 (fun bI h0=>?_) (fun bI h0=>?_)
     ·refine .a [] T [(8,fE 12 (aP [])),(9,bE false)] ?_;cases h0;exact .rt hK
     ·obtain⟨k12,hk12,h0⟩:=bnd h0;refine .a [.call [] (.dO [lE 12 (aP k12.1),bE k12.2]) []] (A (ih.1 _ _ _ _ hk12) T) [(8,lE 12 (aP k12.1)),(9,bE k12.2)] ?_;cases h0;exact .rt hK
theorem ac9 (n:Nat):∀(a0:List Bind) (a1:List Form) (a2:List Form) (a3:List Form) {r:(List iF)×Bool},tY n a0 a1 a2 a3=some r→aF X.E 148 [lE 3 (ay a0),lE 5 (aj a1),lE 5 (aj a2),lE 5 (aj a3)] [] (.dO [lE 12 (aP r.1),bE r.2]) []:=(Gm n).1
theorem EF (n:Nat):∀(a0:List Bind) (a1:Form) (a2:List Form) (a3:Form) {r:(List iF)×Bool},iC n a0 a1 a2 a3=some r→aF X.E 138 [lE 3 (ay a0),aE (ak a1),lE 5 (aj a2),aE (ak a3)] [] (.dO [lE 12 (aP r.1),bE r.2]) []:=(Gm n).2
end Go.Ev
