/- Models of the functions that FnVarPrefix reaches. No condition. -/
import Derived.Test.YtlnfjaomcgjcoaaGreatDoorEvTri
import Derived.Test.YtlnfjaomcgjcoaaGreatDoorNumP
import Derived.Test.YtlnfjaomcgjcoaaGreatDoorNumR7
import Derived.Test.YtlnfjaomcgjcoaaGreatDoorFmtR7
import Derived.Test.YtlnfjaomcgjcoaaGreatDoorProg
import Derived.KernelRfl
import Derived.Test.YtlnfjaomcgjcoaaGreatDoorShR7
namespace Go.Ev
open Go.Proofs Go.Mx
set_option linter.unusedVariables false
set_option maxRecDepth 10000
def tT:List (Nat×(Nat×Nat×fD)):=[(3,(1,8,.int .i64)),(4,(1,1,.bool)),(5,(1,1,.int .u8)),(9,(1,16,.str)),(21,(1,4,.int .i32)),(22,(1,24,.slice 3)),(31,(1,24,.slice 33)),(33,(5,80,.struct [(0,1),(1,1),(2,1),(3,1),(4,1)])),(34,(1,24,.slice 36)),(36,(11,168,.struct [(0,1),(1,1),(2,1),(3,1),(4,1),(5,5),(10,1)])),(46,(1,24,.slice 5)),(50,(1,24,.slice 9)),(124,(2,32,.struct [(0,1),(1,1)])),(169,(1,24,.slice 222)),(170,(1,24,.slice 257)),(172,(5,72,.struct [(0,1),(1,1),(2,1),(3,1),(4,1)])),(222,(3,48,.struct [(0,1),(1,1),(2,1)])),(255,(1,24,.slice 275)),(257,(3,56,.struct [(0,1),(1,1),(2,1)])),(275,(10,160,.struct [(0,5),(5,5)])),(278,(1,24,.slice 290)),(290,(12,192,.struct [(0,5),(5,1),(6,5),(11,1)])),(299,(1,24,.slice 278))]
def tZ:List (Nat×List KD):=[(3,[.v (.int .i64 0)]),(5,[.v (.int .u8 0)]),(9,[.s []]),(21,[.v (.int .i32 0)]),(22,[.sl 1 true (ah [])]),(33,[.v (.int .i64 0),.s [],.v (.int .i64 0),.sl 1 true (ah []),.sl 5 true (aj [])]),(36,[.v (.int .i64 0),.v (.int .i64 0),.s [],.v (.int .i64 0),.sl 1 true (ah []),.v (.int .i64 0),.s [],.v (.int .i64 0),.sl 1 true (ah []),.sl 5 true (aj []),.sl 11 true (aG [])]),(124,[.sl 1 true (iy []),.v (.int .i64 0)]),(172,[.sl 3 true (ay []),.sl 3 true (bZ []),.v (.int .i64 0),.v (.int .i64 0),.v (.int .i64 0)]),(222,[.s [],.sl 1 true (ah []),.v (.int .i64 0)]),(257,[.v (.int .i64 0),.sl 5 true (aj []),.sl 10 true (dS [])]),(275,[.v (.int .i64 0),.s [],.v (.int .i64 0),.sl 1 true (ah []),.sl 5 true (aj []),.v (.int .i64 0),.s [],.v (.int .i64 0),.sl 1 true (ah []),.sl 5 true (aj [])]),(278,[.sl 12 true (aQ [])]),(290,[.v (.int .i64 0),.s [],.v (.int .i64 0),.sl 1 true (ah []),.sl 5 true (aj []),.v (.int .i64 0),.v (.int .i64 0),.s [],.v (.int .i64 0),.sl 1 true (ah []),.sl 5 true (aj []),.sl 12 true (aQ [])])]
theorem adp:allT (fun i x=>aS Tryz.prog i=some x) tT:=by
 refine⟨?_,?_,?_,?_,?_,?_,?_,?_,?_,?_,?_,?_,?_,?_,?_,?_,?_,?_,?_,?_,?_,?_,?_,trivial⟩ <;> (show aS _ _=_; kernel_rfl)
theorem adq:allT (fun i x=>∃zs,gB Tryz.prog i=some zs∧jY (KD.DL x) zs) tZ:=
 ⟨⟨_,(by kernel_rfl:gB Tryz.prog 3=some [.int .i64 0]),(.v .nil)⟩,⟨_,(by kernel_rfl:gB Tryz.prog 5=some [.int .u8 0]),(.v .nil)⟩,⟨_,(by kernel_rfl:gB Tryz.prog 9=some [.string (mkS [])]),(.v .nil)⟩,⟨_,(by kernel_rfl:gB Tryz.prog 21=some [.int .i32 0]),(.v .nil)⟩,⟨_,(by kernel_rfl:gB Tryz.prog 22=some [.slice none 0 0]),(.sl .nil)⟩,⟨_,(by kernel_rfl:gB Tryz.prog 33=some [.int .i64 0,.string (mkS []),.int .i64 0,.slice none 0 0,.slice none 0 0]),(.v (.v (.v (.sl (.sl .nil)))))⟩,⟨_,(by kernel_rfl:gB Tryz.prog 36=some [.int .i64 0,.int .i64 0,.string (mkS []),.int .i64 0,.slice none 0 0,.int .i64 0,.string (mkS []),.int .i64 0,.slice none 0 0,.slice none 0 0,.slice none 0 0]),(.v (.v (.v (.v (.sl (.v (.v (.v (.sl (.sl (.sl .nil)))))))))))⟩,⟨_,(by kernel_rfl:gB Tryz.prog 124=some [.slice none 0 0,.int .i64 0]),(.sl (.v .nil))⟩,⟨_,(by kernel_rfl:gB Tryz.prog 172=some [.slice none 0 0,.slice none 0 0,.int .i64 0,.int .i64 0,.int .i64 0]),(.sl (.sl (.v (.v (.v .nil)))))⟩,⟨_,(by kernel_rfl:gB Tryz.prog 222=some [.string (mkS []),.slice none 0 0,.int .i64 0]),(.v (.sl (.v .nil)))⟩,⟨_,(by kernel_rfl:gB Tryz.prog 257=some [.int .i64 0,.slice none 0 0,.slice none 0 0]),(.v (.sl (.sl .nil)))⟩,⟨_,(by kernel_rfl:gB Tryz.prog 275=some [.int .i64 0,.string (mkS []),.int .i64 0,.slice none 0 0,.slice none 0 0,.int .i64 0,.string (mkS []),.int .i64 0,.slice none 0 0,.slice none 0 0]),(.v (.v (.v (.sl (.sl (.v (.v (.v (.sl (.sl .nil))))))))))⟩,⟨_,(by kernel_rfl:gB Tryz.prog 278=some [.slice none 0 0]),(.sl .nil)⟩,⟨_,(by kernel_rfl:gB Tryz.prog 290=some [.int .i64 0,.string (mkS []),.int .i64 0,.slice none 0 0,.slice none 0 0,.int .i64 0,.int .i64 0,.string (mkS []),.int .i64 0,.slice none 0 0,.slice none 0 0,.slice none 0 0]),(.v (.v (.v (.sl (.sl (.v (.v (.v (.v (.sl (.sl (.sl .nil))))))))))))⟩,trivial⟩
def SS:Nat→KD
 | 2=>.gb fun vs=>∃tp x,vs[0]? = some (.iface tp x)
 | 4=>.gb fun vs=>vs=(Lib.pow10Tab.map fun z=>Go.Value.int .u64 z).toArray
 | _=>.any
noncomputable def E0:Setting:=⟨Tryz.prog,fun g=>(SS g).D,fun g=>KD.kW _ _⟩
noncomputable def X:Ctx:=⟨E0,SS,fun _=>rfl,⟨lkT tT,lkT tZ,QK adp,QK adq⟩⟩
theorem mixed:X.E.P.follows .mixedOrders=true:=by kernel_rfl
def uq:List UInt8:=[40,43,32,49,32,108,105,115,116,41]
def lW:List UInt8:=[40,104,101,97,100,32,40,116,97,105,108,32,40,108,105,115,116,32,49,32,50,32,51,41,41,41]
def lX:List UInt8:=[40,105,102,32,48,32,49,32,40,113,117,111,116,101,32,40,97,32,40,98,41,32,51,41,41,41]
def lY:List UInt8:=[40,40,108,97,109,98,100,97,32,40,119,41,32,40,119,32,119,41,41,32,40,108,97,109,98,100,97,32,40,119,41,32,40,119,32,119,41,41,41]
def lZ:List UInt8:=[40,108,97,109,98,100,97,32,40,120,41,32,40,108,97,109,98,100,97,32,40,120,32,121,41,32,40,120,32,121,32,40,113,117,111,116,101,32,40,120,32,49,41,41,41,41,41]
def l7:List UInt8:=[40,40,108,97,109,98,100,97,32,40,120,41,32,120,41,41]
def l9:List UInt8:=[40,40,108,97,109,98,100,97,32,40,120,32,121,41,32,40,108,105,115,116,32,121,32,120,41,41,32,49,32,50,41]
def mg:List UInt8:=[40,108,101,116,32,40,40,102,32,40,108,97,109,98,100,97,32,40,120,41,32,40,43,32,120,32,49,41,41,41,41,32,40,102,32,40,102,32,53,41,41,41]
def mD:List UInt8:=[40,108,101,116,32,40,40,103,32,40,108,97,109,98,100,97,32,40,104,41,32,40,108,97,109,98,100,97,32,40,120,41,32,40,104,32,40,104,32,120,41,41,41,41,41,41,32,40,40,103,32,40,108,97,109,98,100,97,32,40,110,41,32,40,43,32,110,32,110,41,41,41,32,51,41,41]
def mF:List UInt8:=[40,108,101,116,32,40,40,105,102,32,108,105,115,116,41,41,32,40,108,101,116,45,115,121,110,116,97,120,32,40,40,109,32,40,114,117,108,101,115,32,40,41,32,40,40,95,32,97,41,32,40,105,102,32,97,32,49,32,50,41,41,41,41,41,32,40,109,32,53,41,41,41]
def mG:List UInt8:=[40,108,101,116,45,115,121,110,116,97,120,32,40,40,100,101,102,32,40,114,117,108,101,115,32,40,41,32,40,40,95,32,110,32,101,32,98,41,32,40,108,101,116,32,40,40,110,32,101,41,41,32,98,41,41,41,41,41,32,40,100,101,102,32,122,32,51,32,40,43,32,122,32,122,41,41,41]
def mJ:List UInt8:=[40,108,101,116,45,115,121,110,116,97,120,32,40,40,107,32,40,114,117,108,101,115,32,40,101,108,115,101,41,32,40,40,95,32,101,108,115,101,32,97,41,32,97,41,32,40,40,95,32,98,32,97,41,32,40,108,105,115,116,32,98,32,97,41,41,41,41,41,32,40,107,32,101,108,115,101,32,52,41,41]
def mM:List UInt8:=[40,108,101,116,45,115,121,110,116,97,120,32,40,40,109,32,40,114,117,108,101,115,32,40,41,32,40,40,95,32,97,41,32,40,105,102,32,97,32,49,32,50,41,41,41,41,41,32,40,108,101,116,32,40,40,105,102,32,108,105,115,116,41,41,32,40,109,32,105,102,41,41,41]
def mO:List UInt8:=[40,108,101,116,45,115,121,110,116,97,120,32,40,40,107,32,40,114,117,108,101,115,32,40,101,108,115,101,41,32,40,40,95,32,101,108,115,101,32,97,41,32,97,41,32,40,40,95,32,98,32,97,41,32,40,108,105,115,116,32,98,32,97,41,41,41,41,41,32,40,108,101,116,32,40,40,101,108,115,101,32,51,41,41,32,40,107,32,101,108,115,101,32,52,41,41,41]
def iC:List UInt8:=[108,101,116,45,115,121,110,116,97,120]
def mP:List UInt8:=[40,108,101,116,45,115,121,110,116,97,120,32,40,40,111,114,32,40,114,117,108,101,115,32,40,41,32,40,40,95,41,32,48,41,32,40,40,95,32,97,41,32,97,41,32,40,40,95,32,97,32,98,32,46,46,46,41,32,40,108,101,116,32,40,40,116,32,97,41,41,32,40,105,102,32,116,32,116,32,40,111,114,32,98,32,46,46,46,41,41,41,41,41,41,41,32,40,108,101,116,32,40,40,116,32,53,41,41,32,40,111,114,32,48,32,116,32,55,41,41,41]
def mQ:List UInt8:=[40,108,101,116,45,115,121,110,116,97,120,32,40,40,109,121,32,40,114,117,108,101,115,32,40,41,32,40,40,95,32,102,41,32,40,108,97,109,98,100,97,32,40,120,41,32,40,102,32,120,41,41,41,41,41,41,32,40,108,101,116,32,40,40,120,32,51,41,41,32,40,40,109,121,32,40,108,97,109,98,100,97,32,40,121,41,32,40,43,32,120,32,121,41,41,41,32,52,41,41,41]
def mV:List UInt8:=[40,108,101,116,45,115,121,110,116,97,120,32,40,40,111,114,32,40,114,117,108,101,115,32,40,41,32,40,40,95,41,32,48,41,32,40,40,95,32,97,32,98,32,46,46,46,41,32,40,108,101,116,32,40,40,116,32,97,41,41,32,40,105,102,32,116,32,116,32,40,111,114,32,98,32,46,46,46,41,41,41,41,41,41,41,32,40,108,101,116,32,40,40,116,32,53,41,41,32,40,111,114,32,48,32,116,41,41,41]
def mW:List UInt8:=[40,108,101,116,45,115,121,110,116,97,120,32,40,40,108,111,111,112,32,40,114,117,108,101,115,32,40,41,32,40,40,95,41,32,40,108,111,111,112,41,41,41,41,41,32,40,108,111,111,112,41,41]
def mX:List UInt8:=[40,108,101,116,45,115,121,110,116,97,120,32,40,40,119,105,116,104,32,40,114,117,108,101,115,32,40,41,32,40,40,95,32,40,40,120,32,118,41,32,46,46,46,41,32,98,111,100,121,41,32,40,40,108,97,109,98,100,97,32,40,120,32,46,46,46,41,32,98,111,100,121,41,32,118,32,46,46,46,41,41,41,41,41,32,40,119,105,116,104,32,40,40,112,32,49,41,32,40,113,32,50,41,41,32,40,43,32,112,32,113,41,41,41]
def mY:List UInt8:=[40,108,101,116,45,115,121,110,116,97,120,32,40,40,116,119,111,32,40,114,117,108,101,115,32,40,41,32,40,40,95,32,110,41,32,40,108,97,109,98,100,97,32,40,110,32,120,41,32,40,43,32,110,32,120,41,41,41,41,41,41,32,40,116,119,111,32,120,41,41]
def mZ:List UInt8:=[40,108,101,116,45,115,121,110,116,97,120,32,40,40,97,32,40,114,117,108,101,115,32,40,41,32,40,40,95,32,120,41,32,40,98,32,120,41,41,41,41,32,40,98,32,40,114,117,108,101,115,32,40,41,32,40,40,95,32,121,41,32,40,108,105,115,116,32,121,32,121,41,41,41,41,41,32,40,97,32,55,41,41]
def ng:List UInt8:=[40,108,101,116,45,115,121,110,116,97,120,32,40,40,109,32,40,114,117,108,101,115,32,40,41,32,40,40,95,32,97,41,32,49,41,41,41,41,32,40,109,41,41]
def ni:List UInt8:=[40,108,101,116,32,40,40,116,109,112,32,53,41,32,40,122,32,54,41,41,32,40,108,101,116,45,115,121,110,116,97,120,32,40,40,115,119,97,112,32,40,114,117,108,101,115,32,40,41,32,40,40,95,32,97,32,98,41,32,40,108,101,116,32,40,40,116,109,112,32,97,41,41,32,40,108,105,115,116,32,98,32,116,109,112,41,41,41,41,41,41,32,40,115,119,97,112,32,116,109,112,32,122,41,41,41]
def ny:List UInt8:=[40,108,101,116,32,40,40,120,32,49,41,32,40,121,32,50,41,41,32,40,108,101,116,45,115,121,110,116,97,120,32,40,40,115,119,97,112,32,40,114,117,108,101,115,32,40,41,32,40,40,95,32,97,32,98,41,32,40,108,101,116,32,40,40,116,109,112,32,97,41,41,32,40,108,105,115,116,32,98,32,116,109,112,41,41,41,41,41,41,32,40,115,119,97,112,32,120,32,121,41,41,41]
def nC:List UInt8:=[40,108,105,115,116,32,40,60,32,49,32,50,41,32,40,61,32,49,32,50,41,32,40,108,97,109,98,100,97,32,40,120,41,32,120,41,32,108,105,115,116,41]
def BD:List UInt8:=[40,114,117,108,101,115,32,40,41,32,40,40,95,32,97,32,98,41,32,40,108,101,116,32,40,40,116,32,97,41,41,32,40,108,105,115,116,32,98,32,116,41,41,41,32,40,40,95,32,97,41,32,40,108,101,116,32,40,40,120,32,97,41,41,32,40,108,105,115,116,32,120,32,97,41,41,41,41]
def oZ:List UInt8:=[117,110,107,110,111,119,110]
def iR (n:Nat) (a0:Int) (a1:Int) (a2:Int):Option (Bool):=
 Option.bind ((if a0≥a1 then some (decide (a0≤a2)) else some false):Option (Bool)) (fun(o1:Bool)=>some o1)
theorem gI (n:Nat):∀(a0:Int) (a1:Int) (a2:Int) {r:Bool},iR n a0 a1 a2=some r→aF X.E 79 [iE a0,iE a1,iE a2] [] (bE r) []:=by
 intro a0 a1 a2 r h0;rw[iR] at h0;refine .n Tryz.func79 (fun L ks low K hl hL hlen hK=>?_);refine .a [] T [] ?_;refine .bP h0 rfl [] (fun o1=>[(6,bE o1)]) n1 n1 (fun o1 h0=>?_) (fun y1 h1 hj1=>?_)
 ·cases h0;exact .rt hK
 ·by_cases g2:a0≥a1
  ·have h1:=aI g2 h1;refine .a (rb 4 true []) (R 4 (dt g2) T) [(6,dE (a0≤a2))] ?_;cases h1;exact .lg hj1 []
  ·have h1:=aJ g2 h1;refine .a (rb 4 false []) (R 4 (df g2) T) [(6,bE false)] ?_;cases h1;exact .lg hj1 []
def strings_IndexByte (n:Nat) (a0:List UInt8) (a1:Int):Option Int:=some (Lib.indexByte a0 a1.toNat.toUInt8)
theorem su (n:Nat):∀(a0:List UInt8) (a1:Int) {r:Int},strings_IndexByte n a0 a1=some r→aF X.E 158 [sE a0,.d (.v (.int .u8 a1))] [] (iE r) []:=by
 intro a0 a1 r h0;cases h0;exact aF.WR Tryz.func158 rfl rfl (fun _=>rfl) (fun _=>rfl) (fun w=>Tryz.strings_IndexByte (mkS a0) a1 w)
def lq (n:Nat) (a0:List UInt8):Option (Bool):=
 Option.bind ((if a0=[46,46,46] then some true else some (decide (a0=[95]))):Option (Bool)) (fun(o1:Bool)=>(if o1=true then some true else iterM n (fun(s3:Int)=>((if s3<(a0.length:Int) then bI ((gQ a0 s3).bind fun y7=>Option.bind ((if(y7.toNat:Int)≥97 then(if(y7.toNat:Int)≤122 then some true else(strings_IndexByte n [42,63,61,43,60] (y7.toNat:Int)).bind fun k17=>some (decide (k17≥0))) else(strings_IndexByte n [42,63,61,43,60] (y7.toNat:Int)).bind fun k18=>some (decide (k18≥0))):Option (Bool)) (fun(o8:Bool)=>(if o8=true then some (Sum.inr ()) else Option.bind ((if s3>0 then(if(y7.toNat:Int)≥48 then(if(y7.toNat:Int)≤57 then some true else some (decide ((y7.toNat:Int)=45))) else some (decide ((y7.toNat:Int)=45))) else some false):Option (Bool)) (fun(nD:Bool)=>(if nD=true then some (Sum.inr ()) else some (Sum.inl (Sum.inl false)))))):Option ((Bool⊕Int)⊕Unit)) (fun(o6:Unit)=>some (Sum.inr (aY (s3+1)))) else(iR n (a0.length:Int) 1 12).bind fun k19=>some (Sum.inl k19)):Option (Bool⊕Int))) 0))
theorem kM (n:Nat):∀(a0:List UInt8) {r:Bool},lq n a0=some r→aF X.E 132 [sE a0] [] (bE r) []:=by
 intro a0 r h0;rw[lq] at h0;refine .n Tryz.func132 (fun L ks low K hl hL hlen hK=>?_);refine .a [] T [] ?_;refine .bP h0 rfl [0] (fun o1=>[(10,bE o1)]) n1 n1 (fun o1 h0=>?_) (fun y1 h1 hj1=>?_)
 ·refine .jT h0 (fun hc2 h0=>?_) (fun hc2 h0=>?_)
  ·refine .a [] T [(2,bE true)] ?_;cases h0;exact .rt hK
  ·refine .a [] T [(3,iE 0)] ?_;refine .it h0 rfl [0] (fun s3=>[(3,iE s3)]) n1 n1 [] (by kernel_rfl) (fun nk4 s3 h0=>?_);obtain⟨y1,h1,hw1,hn1⟩:=bT h0;refine .a [] T [(14,dE (s3<(a0.length:Int)))] ?_;refine .jP h1 (fun hc5 h1=>?_) (fun hc5 h1=>?_)
   ·refine .bSB h1 rfl [0,3] (fun o6=>[]) n1 n1 (fun o6 h1=>?_) (fun y2 h2 hj2 hw2=>?_)
    ·refine .a [.pl] T [(3,iE (aY (s3+1)))] ?_;cases h1;exact .nI rfl _ (hn1 _ rfl) [] (by kernel_rfl)
    ·obtain⟨y7,hy7,h2⟩:=bnd h2;refine .a [.AY y7] (A (Bv hy7) T) [(4,.d (.v (.int .u8 (y7.toNat:Int))))] ?_;refine .bP h2 rfl [0,3,4] (fun o8=>[(20,bE o8)]) n1 n1 (fun o8 h2=>?_) (fun y3 h3 hj3=>?_)
     ·refine .jT h2 (fun fK h2=>?_) (fun fK h2=>?_)
      ·cases h2;exact .lg (hj2 _ rfl) []
      ·refine .bP h2 rfl [0,3] (fun nD=>[(32,bE nD)]) n1 n1 (fun nD h2=>?_) (fun y3 h3 hj3=>?_)
       ·refine .jT h2 (fun bJ h2=>?_) (fun bJ h2=>?_)
        ·cases h2;exact .lg (hj2 _ rfl) []
        ·refine .a [] T [(2,bE false)] ?_;cases h2;cases hw2 _ rfl;cases hw1 _ rfl;exact .rt hK
       ·by_cases g12:s3>0
        ·have h3:=aI g12 h3;by_cases g13:(y7.toNat:Int)≥48
         ·have h3:=aI g13 h3;by_cases g14:(y7.toNat:Int)≤57
          ·have h3:=aI g14 h3;refine .a (rb 13 true []) (R 3 (dt g12) (R 2 (dt g13) (A (A (dt g12) (dt g13)) (A (dt g12) (R 2 (dt g14) (A (A (dt g12) (dt g14)) (A (dt g12) T))))))) [(32,bE true)] ?_;cases h3;exact .lg hj3 []
          ·have h3:=aJ g14 h3;refine .a (rb 8 true [.b false,.b false,.b true,.b false,.b true]) (R 3 (dt g12) (R 2 (dt g13) (A (A (dt g12) (dt g13)) (A (dt g12) (R 2 (df g14) (A (A (dt g12) (df g14)) (A (dt g12) T))))))) [(32,dE ((y7.toNat:Int)=45))] ?_;cases h3;exact .lg hj3 []
         ·have h3:=aJ g13 h3;refine .a (rb 3 true [.b false,.b false,.b true,.b false,.b true,.b false,.b false,.b true,.b false,.b true]) (R 3 (dt g12) (R 2 (df g13) (A (A (dt g12) (df g13)) (A (dt g12) (R 2 B0 (A (A (dt g12) B0) (A (dt g12) T))))))) [(32,dE ((y7.toNat:Int)=45))] ?_;cases h3;exact .lg hj3 []
        ·have h3:=aJ g12 h3;refine .a (rb 7 false []) (R 7 (df g12) T) [(32,bE false)] ?_;cases h3;exact .lg hj3 []
     ·by_cases g15:(y7.toNat:Int)≥97
      ·have h3:=aI g15 h3;by_cases g16:(y7.toNat:Int)≤122
       ·have h3:=aI g16 h3;refine .a (rb 7 true []) (R 3 (dt g15) (R 4 (dt g16) T)) [(20,bE true)] ?_;cases h3;exact .lg hj3 []
       ·have h3:=aJ g16 h3;obtain⟨k17,Dx,h3⟩:=bnd h3;refine .a (rb 3 true [.b false,.b false,.call [] (iE k17) [],.b false,.b false]) (R 3 (dt g15) (A (df g16) (A (A (df g16) (su n _ _ Dx)) (R 2 (df g16) T)))) [(20,dE (k17≥0))] ?_;cases h3;exact .lg hj3 []
      ·have h3:=aJ g15 h3;obtain⟨k18,nG,h3⟩:=bnd h3;refine .a (rb 5 false [.call [] (iE k18) [],.b false,.b false]) (R 3 (df g15) (A B0 (A (A B0 (su n _ _ nG)) (R 2 B0 T)))) [(20,dE (k18≥0))] ?_;cases h3;exact .lg hj3 []
   ·obtain⟨k19,zG,h1⟩:=bnd h1;refine .a [.call [] (bE k19) []] (A (gI n _ _ _ zG) T) [(2,bE k19)] ?_;cases h1;cases hw1 _ rfl;exact .rt hK
 ·by_cases g20:a0=[46,46,46]
  ·have h1:=aI g20 h1;refine .a (rb 3 true []) (R 3 (dt g20) T) [(10,bE true)] ?_;cases h1;exact .lg hj1 []
  ·have h1:=aJ g20 h1;refine .a (rb 3 false []) (R 3 (df g20) T) [(10,dE (a0=[95]))] ?_;cases h1;exact .lg hj1 []
def qX (n:Nat) (a0:List Int):Option (Bool):=
 bI (bQ (fun(s3:Unit) (i2:Nat) (x5:Int)=>(Option.bind ((iR n x5 1 99).bind fun k12=>(if(!k12)=true then some true else(if(i2:Int)>0 then(gQ a0 (aY ((i2:Int)-1))).bind fun e15=>some (decide (e15≥x5)) else some false)):Option (Bool)) (fun(nD:Bool)=>(if nD=true then some (Sum.inl false) else some (Sum.inr ()))):Option (Bool⊕Unit))) 0 a0 ()) (fun(s3:Unit)=>some (decide ((a0.length:Int)≤24)))
theorem BF (n:Nat):∀(a0:List Int) {r:Bool},qX n a0=some r→aF X.E 140 [lE 1 (ah a0)] [] (bE r) []:=by
 intro a0 r h0;rw[qX] at h0;refine .n Tryz.func140 (fun L ks low K hl hL hlen hK=>?_);refine .a [] T [] ?_;refine .a [.v (a0.length:Int)] (A (aO.len' a0) T) [(5,lE 1 (ah a0)),(6,iE (a0.length:Int)),(7,iE 0)] ?_;refine .sn 0 aO a0 (by kernel_rfl) (fun hb1=>?_);refine .lI h0 rfl [0,5,6] (fun i2 s3=>[(7,iE (i2:Int))]) n2 n2 [] (by kernel_rfl) (fun i2 s3 q4 hd6 Yi h0=>?_);refine .a [] T [(8,dE ((i2:Int)<(a0.length:Int)))] ?_;refine .lc hd6 rfl (by kernel_rfl) (fun x5 W9 fK hx5 hd7 vI=>?_) (fun fK=>?_)
 ·subst fK;obtain⟨y1,h1,hw1,hn1⟩:=bg h0;refine .a [.cs [.v (.int .i64 x5)]] (A (aO.ji hx5) T) [(3,iE (i2:Int)),(4,iE x5)] ?_;refine .bP h1 rfl [0,5,6,7] (fun nD=>[(27,bE nD)]) n1 n1 (fun nD h1=>?_) (fun y2 h2 hj2=>?_)
  ·refine .jT h1 (fun bJ h1=>?_) (fun bJ h1=>?_)
   ·refine .a [] T [(2,bE false)] ?_;cases h1;cases hw1 _ rfl;exact .rt hK
   ·refine .a [.v ((i2+1:Nat):Int)] (A (wn (i:=i2) (by omega)) T) [(7,iE ((i2+1:Nat):Int))] ?_;cases h1;exact .nL rfl (i2+1) _ hd7 vI (hn1 _ rfl) [] (by kernel_rfl)
  ·obtain⟨k12,hk12,h2⟩:=bnd h2;by_cases g13:(!k12)=true
   ·have h2:=aI g13 h2;refine .a (.call [] (bE k12) []::(rb 5 true [])) (A (gI n _ _ _ hk12) (R 5 g13 T)) [(27,bE true)] ?_;cases h2;exact .lg hj2 []
   ·have h2:=aJ g13 h2;by_cases g14:(i2:Int)>0
    ·have h2:=aI g14 h2;obtain⟨e15,Xa,h2⟩:=bnd h2;refine .a (.call [] (bE k12) []::(rb 3 false (rb 3 true (.pl::(.b true::(.cs [.v (.int .i64 e15)]::(rb 3 true [.b false,.b true,.b false]))))))) (A (gI n _ _ _ hk12) (R 3 (Bool.eq_false_iff.2 g13) (R 3 (dt g14) (A (A (dt g14) (aO.idx Xa)) (R 3 (dt g14) (A (A (Bool.eq_false_iff.2 g13) (dt g14)) (A (Bool.eq_false_iff.2 g13) T))))))) [(27,dE (e15≥x5))] ?_;cases h2;exact .lg hj2 []
    ·have h2:=aJ g14 h2;refine .a (.call [] (bE k12) []::(rb 13 false [])) (A (gI n _ _ _ hk12) (R 3 (Bool.eq_false_iff.2 g13) (R 7 (df g14) (A (A (Bool.eq_false_iff.2 g13) (df g14)) (A (Bool.eq_false_iff.2 g13) T))))) [(27,bE false)] ?_;cases h2;exact .lg hj2 []
 ·subst fK;have h0:=bM h0;refine .a [.v (a0.length:Int)] (A (aO.len' a0) T) [(2,dE ((a0.length:Int)≤24))] ?_;cases h0;exact .rt hK
def sQ:Nat→Form→Int→Int→Option (Bool×Int)
 | 0,_,_,_=>none
 | n+1,a0,a1,w0=>Option.bind ((if(aY (w0-1))<0 then some true else some (decide (a1>40))):Option (Bool)) (fun(o1:Bool)=>(if o1=true then some (false,(aY (w0-1))) else(if a0.kind=1 then Option.bind ((lq n a0.name).bind fun k5=>(if k5=true then(if a0.n=0 then(qX n a0.scopes).bind fun k8=>(if k8=true then some (decide ((a0.kids.length:Int)=0)) else some false) else some false) else some false):Option (Bool)) (fun(o4:Bool)=>some (o4,(aY (w0-1)))) else(if a0.kind=2 then Option.bind ((if a0.name=[] then(iR n a0.n 0 999).bind fun k13=>(if k13=true then(if(a0.scopes.length:Int)=0 then some (decide ((a0.kids.length:Int)=0)) else some false) else some false) else some false):Option (Bool)) (fun(Jp:Bool)=>some (Jp,(aY (w0-1)))) else(if a0.kind=3 then Option.bind ((if ¬a0.name=[] then some true else(if ¬a0.n=0 then some true else some (decide ((a0.scopes.length:Int)>0)))):Option (Bool)) (fun(U3:Bool)=>(if U3=true then some (false,(aY (w0-1))) else bI (bQ (fun(DY:Int) (i20:Nat) (x23:Form)=>((sQ n x23 (aY (a1+1)) DY).bind fun k28=>(if(!k28.1)=true then some (Sum.inl (false,k28.2)) else some (Sum.inr k28.2)):Option ((Bool×Int)⊕Int))) 0 a0.kids (aY (w0-1))) (fun(DY:Int)=>some (true,DY)))) else some (false,(aY (w0-1))))))))
theorem Ot (n:Nat):∀(a0:Form) (a1:Int) (w0:Int) {r:Bool×Int},sQ n a0 a1 w0=some r→aF X.E 108 [aE (ak a0),iE a1,pl 0] [some (.cells [iE w0])] (bE r.1) [.cells [iE r.2]]:=by
 induction n with
 | zero=>intro a0 a1 w0 r h; cases h
 | succ n ih=>
  intro a0 a1 w0 r h0;rw[sQ] at h0;refine .n Tryz.func108 (fun L ks low K hl hL hlen hK=>?_);refine .af [] T [(3,pw 3)] [.o 3 (.cells ((ak a0).map .d))] ?_;refine .ao [.pl] T [] [.c 0 0 (iE (aY (w0-1)))] ?_;refine .bP h0 rfl [1,2,3] (fun o1=>[(21,bE o1)]) n1 n1 (fun o1 h0=>?_) (fun y1 h1 hj1=>?_)
  ·refine .jT h0 (fun hc2 h0=>?_) (fun hc2 h0=>?_)
   ·refine .a [] T [(6,bE false)] ?_;cases h0;exact .rt hK
   ·refine .a [] T [(23,iE a0.kind)] ?_;refine .a [] T [(24,dE (a0.kind=1))] ?_;refine .jP h0 (fun hc3 h0=>?_) (fun hc3 h0=>?_)
    ·refine .bP h0 rfl [] (fun o4=>[(6,bE o4)]) n1 n1 (fun o4 h0=>?_) (fun y1 h1 hj1=>?_)
     ·cases h0;exact .rt hK
     ·obtain⟨k5,hk5,h1⟩:=bnd h1;by_cases g6:k5=true
      ·have h1:=aI g6 h1;by_cases g7:a0.n=0
       ·have h1:=aI g7 h1;obtain⟨k8,hk8,h1⟩:=bnd h1;by_cases g9:k8=true
        ·have h1:=aI g9 h1;refine .a (.call [] (bE k5) []::(rb 7 true (.call [] (bE k8) []::(rb 4 true [.v (a0.kids.length:Int),.b true,.b true])))) (A (kM n _ hk5) (R 4 g6 (R 2 (dt g7) (A (A (dt g7) (BF n _ hk8)) (A (dt g7) (R 2 g9 (A (A g9 (aA.len' a0.kids)) (R 2 g9 T)))))))) [(6,dE ((a0.kids.length:Int)=0))] ?_;cases h1;exact .lg hj1 []
        ·have h1:=aJ g9 h1;refine .a (.call [] (bE k5) []::(rb 7 true (.call [] (bE k8) []::(.b true::(rb 5 false []))))) (A (kM n _ hk5) (R 4 g6 (R 2 (dt g7) (A (A (dt g7) (BF n _ hk8)) (A (dt g7) (R 5 (Bool.eq_false_iff.2 g9) T)))))) [(6,bE false)] ?_;cases h1;exact .lg hj1 []
       ·have h1:=aJ g7 h1;refine .a (.call [] (bE k5) []::(rb 4 true (rb 9 false []))) (A (kM n _ hk5) (R 4 g6 (R 4 (df g7) (R 5 B0 T)))) [(6,bE false)] ?_;cases h1;exact .lg hj1 []
      ·have h1:=aJ g6 h1;refine .a (.call [] (bE k5) []::(rb 13 false [])) (A (kM n _ hk5) (R 4 (Bool.eq_false_iff.2 g6) (R 9 B0 T))) [(6,bE false)] ?_;cases h1;exact .lg hj1 []
    ·refine .a [] T [(45,dE (a0.kind=2))] ?_;refine .jP h0 (fun jo h0=>?_) (fun jo h0=>?_)
     ·refine .bP h0 rfl [] (fun Jp=>[(6,bE Jp)]) n1 n1 (fun Jp h0=>?_) (fun y1 h1 hj1=>?_)
      ·cases h0;exact .rt hK
      ·by_cases g12:a0.name=[]
       ·have h1:=aI g12 h1;obtain⟨k13,pq,h1⟩:=bnd h1;by_cases g14:k13=true
        ·have h1:=aI g14 h1;by_cases g15:(a0.scopes.length:Int)=0
         ·have h1:=aI g15 h1;refine .a (rb 3 true (.call [] (bE k13) []::(rb 4 true (.v (a0.scopes.length:Int)::(rb 5 true [.v (a0.kids.length:Int),.b true,.b true]))))) (R 2 (dt g12) (A (A (dt g12) (gI n _ _ _ pq)) (A (dt g12) (R 2 g14 (A (A g14 (aO.len' a0.scopes)) (R 2 g14 (R 2 (dt g15) (A (A (dt g15) (aA.len' a0.kids)) (R 2 (dt g15) T))))))))) [(6,dE ((a0.kids.length:Int)=0))] ?_;cases h1;exact .lg hj1 []
         ·have h1:=aJ g15 h1;refine .a (rb 3 true (.call [] (bE k13) []::(rb 4 true (.v (a0.scopes.length:Int)::(.b true::(.b true::(rb 5 false []))))))) (R 2 (dt g12) (A (A (dt g12) (gI n _ _ _ pq)) (A (dt g12) (R 2 g14 (A (A g14 (aO.len' a0.scopes)) (R 2 g14 (R 5 (df g15) T))))))) [(6,bE false)] ?_;cases h1;exact .lg hj1 []
        ·have h1:=aJ g14 h1;refine .a (rb 3 true (.call [] (bE k13) []::(.b true::(rb 10 false [])))) (R 2 (dt g12) (A (A (dt g12) (gI n _ _ _ pq)) (A (dt g12) (R 5 (Bool.eq_false_iff.2 g14) (R 5 B0 T))))) [(6,bE false)] ?_;cases h1;exact .lg hj1 []
       ·have h1:=aJ g12 h1;refine .a (rb 14 false []) (R 4 (df g12) (R 10 B0 T)) [(6,bE false)] ?_;cases h1;exact .lg hj1 []
     ·refine .a [] T [(67,dE (a0.kind=3))] ?_;refine .jP h0 (fun hc16 h0=>?_) (fun hc16 h0=>?_)
      ·refine .bP h0 rfl [1,2,3] (fun U3=>[(82,bE U3)]) n1 n1 (fun U3 h0=>?_) (fun y1 h1 hj1=>?_)
       ·refine .jT h0 (fun hc18 h0=>?_) (fun hc18 h0=>?_)
        ·refine .a [] T [(6,bE false)] ?_;cases h0;exact .rt hK
        ·refine .a [.v (a0.kids.length:Int)] (A (aA.len' a0.kids) T) [(84,lE 5 (aj a0.kids)),(85,iE (a0.kids.length:Int)),(86,iE 0)] ?_;refine .sn 84 aA a0.kids (by kernel_rfl) (fun aeV=>?_);refine .lI h0 rfl [1,2,84,85] (fun i20 DY=>[(86,iE (i20:Int))]) n2 (fun i20 DY=>[.c 0 0 (iE DY)]) [] (by kernel_rfl) (fun i20 DY q22 hd24 agT h0=>?_);refine .a [] T [(87,dE ((i20:Int)<(a0.kids.length:Int)))] ?_;refine .lc hd24 rfl (by kernel_rfl) (fun x23 agU hc27 aeW hd25 ads=>?_) (fun hc27=>?_)
         ·subst hc27;obtain⟨y1,h1,hw1,hn1⟩:=bg h0;refine .af [.cs (ak x23)] (A (aA.ji aeW) T) [(8,pw 8)] [.o 8 (.cells ((ak x23).map .d))] ?_;obtain⟨k28,LH,h1⟩:=bnd h1;refine .ao [.pl,.call [.low 0] (bE k28.1) [.cells [iE k28.2]]] (A (ih _ _ _ LH) T) [(95,bE (!k28.1))] [.c 0 0 (iE k28.2)] ?_;refine .jT h1 (fun hc29 h1=>?_) (fun hc29 h1=>?_)
          ·refine .a [] T [(6,bE false)] ?_;cases h1;cases hw1 _ rfl;exact .rt hK
          ·refine .a [.v ((i20+1:Nat):Int)] (A (wn (i:=i20) (by omega)) T) [(86,iE ((i20+1:Nat):Int))] ?_;cases h1;refine .kp [1,2,84,85,86] [] ?_;refine .dr 8 (by kernel_rfl) ?_;exact .nL rfl (i20+1) _ hd25 ads (hn1 _ rfl) [] (by kernel_rfl)
         ·subst hc27;have h0:=bM h0;refine .a [] T [(6,bE true)] ?_;cases h0;exact .rt hK
       ·by_cases jJ:¬a0.name=[]
        ·have h1:=aI jJ h1;refine .a (rb 9 true []) (R 4 (dt jJ) (R 5 B1 T)) [(82,bE true)] ?_;cases h1;exact .lg hj1 []
        ·have h1:=aJ jJ h1;by_cases DZ:¬a0.n=0
         ·have h1:=aI DZ h1;refine .a (rb 4 false (rb 5 true [])) (R 4 (df jJ) (R 5 (dt DZ) T)) [(82,bE true)] ?_;cases h1;exact .lg hj1 []
         ·have h1:=aJ DZ h1;refine .a (rb 7 false [.v (a0.scopes.length:Int),.b false,.b false]) (R 4 (df jJ) (R 2 (df DZ) (A (A (df DZ) (aO.len' a0.scopes)) (R 2 (df DZ) T)))) [(82,dE ((a0.scopes.length:Int)>0))] ?_;cases h1;exact .lg hj1 []
      ·refine .a [] T [(6,bE false)] ?_;cases h0;exact .rt hK
  ·by_cases vT:(aY (w0-1))<0
   ·have h1:=aI vT h1;refine .a (rb 3 true []) (R 3 (dt vT) T) [(21,bE true)] ?_;cases h1;exact .lg hj1 []
   ·have h1:=aJ vT h1;refine .a (rb 3 false []) (R 3 (df vT) T) [(21,dE (a1>40))] ?_;cases h1;exact .lg hj1 []
def iZ (n:Nat) (a0:Form):Option (Bool):=
 (sQ n a0 1 400).bind fun k1=>some k1.1
theorem pz (n:Nat):∀(a0:Form) {r:Bool},iZ n a0=some r→aF X.E 66 [aE (ak a0)] [] (bE r) []:=by
 intro a0 r h0;rw[iZ] at h0;refine .n Tryz.func66 (fun L ks low K hl hL hlen hK=>?_);refine .af [] T [(1,pw 1)] [.o 1 (.cells ((ak a0).map .d))] ?_;refine .af [] T [(3,pw 3)] [.o 3 (.cells [iE 400])] ?_;obtain⟨k1,hk1,h0⟩:=bnd h0;refine .af [.call [.own 3] (bE k1.1) [.cells [iE k1.2]]] (A (Ot n _ _ _ hk1) T) [(2,bE k1.1)] [.c 3 0 (iE k1.2)] ?_;cases h0;exact .rt hK
theorem Jq (f:Form) (h:f.kind=2∧0≤f.n∧f.n<100):aF X.E 67 [aE (ak f)] [] (sE (Lib.decDigits f.n.toNat)) []:=by
 refine aF.Om Tryz.func67 rfl rfl (fun _=>rfl) (fun κ cx st w vs hr hx=>?_);obtain⟨a1,c1,a2,c2,rfl⟩:=WW hx;obtain⟨h1,h2,h3⟩:=h;obtain⟨m,hm⟩:∃m:Nat,f.n=m:=⟨f.n.toNat,by omega⟩
 rw[h1,hm];exact WZ (mkS f.name) m (by omega) _ _ _ _ _ _ w
def uY (n:Nat) (a0:Form):Option (List UInt8):=if a0.kind=2∧0≤a0.n∧a0.n<100 then some (Lib.decDigits a0.n.toNat) else none
theorem Jr (n:Nat):∀(a0:Form) {r:List UInt8},uY n a0=some r→aF X.E 67 [aE (ak a0)] [] (sE r) []:=by
 intro a0 r h0;rw[uY] at h0;split at h0
 ·rename_i hs; cases h0; exact Jq a0 hs
 ·cases h0
def qK (n:Nat) (a0:Form):Option (List UInt8):=
 (iZ n a0).bind fun k1=>(if(!k1)=true then some [] else(uY n a0).bind fun k3=>some k3)
theorem FN (n:Nat):∀(a0:Form) {r:List UInt8},qK n a0=some r→aF X.E 22 [aE (ak a0)] [] (sE r) []:=by
 intro a0 r h0;rw[qK] at h0;refine .n Tryz.func22 (fun L ks low K hl hL hlen hK=>?_);refine .af [] T [(1,pw 1)] [.o 1 (.cells ((ak a0).map .d))] ?_;obtain⟨k1,hk1,h0⟩:=bnd h0;refine .a [.call [] (bE k1) []] (A (pz n _ hk1) T) [(5,bE (!k1))] ?_;refine .jT h0 (fun hc2 h0=>?_) (fun hc2 h0=>?_)
 ·refine .a [] T [(2,sE [])] ?_;cases h0;exact .rt hK
 ·obtain⟨k3,hk3,h0⟩:=bnd h0;refine .a [.call [] (sE k3) []] (A (Jr n _ hk3) T) [(2,sE k3)] ?_;cases h0;exact .rt hK
def slices_Index_string (n:Nat) (a0:List (List UInt8)) (a1:List UInt8):Option (Int):=
 bI (bQ (fun(s3:Unit) (i2:Nat) (x5:List UInt8)=>((if a1=x5 then some (Sum.inl (i2:Int)) else some (Sum.inr ())):Option (Int⊕Unit))) 0 a0 ()) (fun(s3:Unit)=>some (-1))
theorem yS (n:Nat):∀(a0:List (List UInt8)) (a1:List UInt8) {r:Int},slices_Index_string n a0 a1=some r→aF X.E 95 [lE 1 (aH a0),sE a1] [] (iE r) []:=by
 intro a0 a1 r h0;rw[slices_Index_string] at h0;refine .n Tryz.func95 (fun L ks low K hl hL hlen hK=>?_);refine .a [] T [] ?_;refine .a [.v (a0.length:Int)] (A (dZ.len' a0) T) [(7,iE (a0.length:Int)),(8,iE 0)] ?_;refine .sn 0 dZ a0 (by kernel_rfl) (fun hb1=>?_);refine .lI h0 rfl [0,1,7] (fun i2 s3=>[(8,iE (i2:Int))]) n2 n2 [] (by kernel_rfl) (fun i2 s3 q4 hd6 Yi h0=>?_);refine .a [] T [(9,dE ((i2:Int)<(a0.length:Int)))] ?_;refine .lc hd6 rfl (by kernel_rfl) (fun x5 W9 fK hx5 hd7 vI=>?_) (fun fK=>?_)
 ·subst fK;obtain⟨y1,h1,hw1,hn1⟩:=bg h0;refine .a [] T [(5,iE (i2:Int))] ?_;refine .a [.cs [.s x5]] (A (dZ.ji hx5) T) [(16,dE (a1=x5))] ?_;refine .jP h1 (fun jo h1=>?_) (fun jo h1=>?_)
  ·refine .a [] T [(4,iE (i2:Int))] ?_;cases h1;cases hw1 _ rfl;exact .rt hK
  ·refine .a [.v ((i2+1:Nat):Int)] (A (wn (i:=i2) (by omega)) T) [(8,iE ((i2+1:Nat):Int))] ?_;cases h1;exact .nL rfl (i2+1) _ hd7 vI (hn1 _ rfl) [] (by kernel_rfl)
 ·subst fK;have h0:=bM h0;refine .a [] T [(4,iE (-1))] ?_;cases h0;exact .rt hK
def slices_Contains_string (n:Nat) (a0:List (List UInt8)) (a1:List UInt8):Option (Bool):=
 (slices_Index_string n a0 a1).bind fun k1=>some (decide (k1≥0))
theorem vJ (n:Nat):∀(a0:List (List UInt8)) (a1:List UInt8) {r:Bool},slices_Contains_string n a0 a1=some r→aF X.E 47 [lE 1 (aH a0),sE a1] [] (bE r) []:=by
 intro a0 a1 r h0;rw[slices_Contains_string] at h0;refine .n Tryz.func47 (fun L ks low K hl hL hlen hK=>?_);refine .a [] T [] ?_;obtain⟨k1,hk1,h0⟩:=bnd h0;refine .a [.call [] (iE k1) []] (A (yS n _ _ hk1) T) [(4,dE (k1≥0))] ?_;cases h0;exact .rt hK
def jX (n:Nat) (a0:List (List UInt8)) (a1:List UInt8):Option (Int):=
 bI (bQ (fun(s3:Unit) (i2:Nat) (x5:List UInt8)=>((if a1=x5 then some (Sum.inl (i2:Int)) else some (Sum.inr ())):Option (Int⊕Unit))) 0 a0 ()) (fun(s3:Unit)=>some (-1))
theorem wK (n:Nat):∀(a0:List (List UInt8)) (a1:List UInt8) {r:Int},jX n a0 a1=some r→aF X.E 95 [.vs (.low 0) 1 ((aH a0).length),sE a1] [some (.vec 9 1 (aH a0))] (iE r) [.vec 9 1 (aH a0)]:=by
 intro a0 a1 r h0;rw[jX] at h0;refine .n Tryz.func95 (fun L ks low K hl hL hlen hK=>?_);refine .a [] T [] ?_;refine .a [.v (a0.length:Int)] (A (dZ.len' a0) T) [(7,iE (a0.length:Int)),(8,iE 0)] ?_;refine .Yh 0 dZ a0 (by kernel_rfl) (fun hb1=>?_);refine .lI h0 rfl [0,1,7] (fun i2 s3=>[(8,iE (i2:Int))]) n2 n2 [] (by kernel_rfl) (fun i2 s3 q4 hd6 Yi h0=>?_);refine .a [] T [(9,dE ((i2:Int)<(a0.length:Int)))] ?_;refine .lc hd6 rfl (by kernel_rfl) (fun x5 W9 fK hx5 hd7 vI=>?_) (fun fK=>?_)
 ·subst fK;obtain⟨y1,h1,hw1,hn1⟩:=bg h0;refine .a [] T [(5,iE (i2:Int))] ?_;refine .a [.cs [.s x5]] (A (A (dZ.inv (BZ hx5) (rfl:(aH a0).length=(aH a0).length)) (rfl:(aH a0).length=(aH a0).length)) (A (A (A (dZ.rows a0) (dZ.Em hx5)) (rfl:(aH a0).length=(aH a0).length)) T)) [(16,dE (a1=x5))] ?_;refine .jP h1 (fun jo h1=>?_) (fun jo h1=>?_)
  ·refine .a [] T [(4,iE (i2:Int))] ?_;cases h1;cases hw1 _ rfl;exact .rt hK
  ·refine .a [.v ((i2+1:Nat):Int)] (A (wn (i:=i2) (by omega)) T) [(8,iE ((i2+1:Nat):Int))] ?_;cases h1;exact .nL rfl (i2+1) _ hd7 vI (hn1 _ rfl) [] (by kernel_rfl)
 ·subst fK;have h0:=bM h0;refine .a [] T [(4,iE (-1))] ?_;cases h0;exact .rt hK
def gV (n:Nat) (a0:List (List UInt8)) (a1:List UInt8):Option (Bool):=
 (jX n a0 a1).bind fun k1=>some (decide (k1≥0))
theorem uw (n:Nat):∀(a0:List (List UInt8)) (a1:List UInt8) {r:Bool},gV n a0 a1=some r→aF X.E 47 [.vs (.low 0) 1 ((aH a0).length),sE a1] [some (.vec 9 1 (aH a0))] (bE r) [.vec 9 1 (aH a0)]:=by
 intro a0 a1 r h0;rw[gV] at h0;refine .n Tryz.func47 (fun L ks low K hl hL hlen hK=>?_);refine .a [] T [] ?_;obtain⟨k1,hk1,h0⟩:=bnd h0;refine .a [.call [.low 0] (iE k1) [.vec 9 1 (aH a0)]] (A (wK n _ _ hk1) T) [(4,dE (k1≥0))] ?_;cases h0;exact .rt hK
def oI:Nat→Core→(List (List UInt8))→Option (List (List UInt8))
 | 0,_,_=>none
 | n+1,a0,a1=>Option.bind ((if a0.kind=2 then(gV n a1 a0.name).bind fun k16=>some (!k16) else some false):Option (Bool)) (fun(o1:Bool)=>Option.bind ((if o1=true then(jy 16 a1 [a0.name]).bind fun AB=>some AB else some a1):Option (List (List UInt8))) (fun(o2:List (List UInt8))=>Option.bind (dX (fun(s5:List (List UInt8)) (i4:Nat) (x7:Core)=>(oI n x7 s5).bind fun k12=>some k12) 0 a0.kids o2) (fun(s5:List (List UInt8))=>some s5)))
theorem Ou (n:Nat):∀(a0:Core) (a1:List (List UInt8)) {r:List (List UInt8)},oI n a0 a1=some r→aF X.E 65 [aE (aN a0),.vs (.low 0) 1 ((aH a1).length)] [some (.vec 9 1 (aH a1))] (.vs (.low 0) 1 ((aH r).length)) [.vec 9 1 (aH r)]:=by
 induction n with
 | zero=>intro a0 a1 r h; cases h
 | succ n ih=>
  intro a0 a1 r h0;rw[oI] at h0;refine .n Tryz.func65 (fun L ks low K hl hL hlen hK=>?_);refine .af [] T [(2,pw 2)] [.o 2 (.cells ((aN a0).map .d))] ?_;refine .bP h0 rfl [1,2] (fun o1=>[(16,bE o1)]) n1 n1 (fun o1 h0=>?_) (fun y1 h1 hj1=>?_)
  ·refine .bP h0 rfl [2] (fun o2=>[(1,.vs (.low 0) 1 ((aH o2).length))]) n1 (fun o2=>[.o 0 (.vec 9 1 (aH o2))]) (fun o2 h0=>?_) (fun y1 h1 hj1=>?_)
   ·refine .a [.v (a0.kids.length:Int)] (A (dh.len' a0.kids) T) [(23,lE 11 (aG a0.kids)),(24,iE (a0.kids.length:Int)),(25,iE 0)] ?_;refine .sn 23 dh a0.kids (by kernel_rfl) (fun hb3=>?_);refine .lL h0 rfl [23,24] (fun i4 s5=>[(1,.vs (.low 0) 1 ((aH s5).length)),(25,iE (i4:Int))]) n2 (fun i4 s5=>[.o 0 (.vec 9 1 (aH s5))]) [] (by kernel_rfl) (fun i4 s5 q6 hd8 UE h0=>?_);refine .a [] T [(26,dE ((i4:Int)<(a0.kids.length:Int)))] ?_;refine .lc hd8 rfl (by kernel_rfl) (fun x7 q62 bJ hx7 hd9 Ep=>?_) (fun bJ=>?_)
    ·subst bJ;obtain⟨y1,h1,hn1⟩:=dG h0;refine .af [.cs (aN x7)] (A (dh.ji hx7) T) [(6,pw 6)] [.o 6 (.cells ((aN x7).map .d))] ?_;obtain⟨k12,hk12,h1⟩:=bnd h1;refine .ao [.call [.low 0] (.vs (.low 0) 1 ((aH k12).length)) [.vec 9 1 (aH k12)]] (A (ih _ _ hk12) T) [(1,.vs (.low 0) 1 ((aH k12).length))] [.o 0 (.vec 9 1 (aH k12))] ?_;refine .a [.v ((i4+1:Nat):Int)] (A (wn (i:=i4) (by omega)) T) [(25,iE ((i4+1:Nat):Int))] ?_;cases h1;refine .kp [1,23,24,25] [] ?_;refine .dr 6 (by kernel_rfl) ?_;exact .nL rfl (i4+1) _ hd9 Ep hn1 [] (by kernel_rfl)
    ·subst bJ;have h0:=dR h0;refine .a [] T [(4,.vs (.low 0) 1 ((aH s5).length))] ?_;refine .kp [4] [] ?_;refine .dr 2 (by kernel_rfl) ?_;cases h0;exact .rt hK
   ·refine .jT h1 (fun hc13 h1=>?_) (fun hc13 h1=>?_)
    ·obtain⟨AB,Ik,h1⟩:=bnd h1;refine .ao [.sv (aH [a0.name]),.sv (aH AB)] (A (dZ.lit [a0.name]) (A (A (dZ.ap Ik) (rfl:(aH a1).length=(aH a1).length)) T)) [(1,.vs (.low 0) 1 ((aH AB).length))] [.o 0 (.vec 9 1 (aH AB))] ?_;cases h1;exact .lg hj1 []
    ·cases h1;exact .lg hj1 []
  ·by_cases g15:a0.kind=2
   ·have h1:=aI g15 h1;obtain⟨k16,sJ,h1⟩:=bnd h1;refine .a (rb 4 true [.call [.low 0] (bE k16) [.vec 9 1 (aH a1)],.b true,.b true]) (R 3 (dt g15) (A (A (dt g15) (uw n _ _ sJ)) (R 2 (dt g15) T))) [(16,bE (!k16))] ?_;cases h1;exact .lg hj1 []
   ·have h1:=aJ g15 h1;refine .a (rb 6 false []) (R 6 (df g15) T) [(16,bE false)] ?_;cases h1;exact .lg hj1 []
def qL (n:Nat) (a0:Core):Option (List (List UInt8)):=
 Option.bind ((if a0.kind=2 then(slices_Contains_string n [] a0.name).bind fun k16=>some (!k16) else some false):Option (Bool)) (fun(o1:Bool)=>Option.bind ((if o1=true then(jy 16 [] [a0.name]).bind fun AB=>some AB else some []):Option (List (List UInt8))) (fun(o2:List (List UInt8))=>Option.bind (dX (fun(s5:List (List UInt8)) (i4:Nat) (x7:Core)=>(oI n x7 s5).bind fun k12=>some k12) 0 a0.kids o2) (fun(s5:List (List UInt8))=>some s5)))
theorem FP (n:Nat):∀(a0:Core) {r:List (List UInt8)},qL n a0=some r→aF X.E 65 [aE (aN a0),nE] [] (lE 1 (aH r)) []:=by
 intro a0 r h0;rw[qL] at h0;refine .n Tryz.func65 (fun L ks low K hl hL hlen hK=>?_);refine .nl 1 1 rfl ?_;refine .af [] T [(2,pw 2)] [.o 2 (.cells ((aN a0).map .d))] ?_;refine .bP h0 rfl [1,2] (fun o1=>[(16,bE o1)]) n1 n1 (fun o1 h0=>?_) (fun y1 h1 hj1=>?_)
 ·refine .owV 1 100021 9 [2,16] rfl rfl (by kernel_rfl) ?_;refine .bP h0 rfl [2] (fun o2=>[(1,.vs (.own 100021) 1 ((aH o2).length))]) (fun o2=>[.o 100021 (.vec 9 1 (aH o2))]) n1 (fun o2 h0=>?_) (fun y1 h1 hj1=>?_)
  ·refine .a [.v (a0.kids.length:Int)] (A (dh.len' a0.kids) T) [(23,lE 11 (aG a0.kids)),(24,iE (a0.kids.length:Int)),(25,iE 0)] ?_;refine .sn 23 dh a0.kids (by kernel_rfl) (fun hb3=>?_);refine .lL h0 rfl [23,24] (fun i4 s5=>[(1,.vs (.own 100021) 1 ((aH s5).length)),(25,iE (i4:Int))]) (fun i4 s5=>[.o 100021 (.vec 9 1 (aH s5))]) n2 [] (by kernel_rfl) (fun i4 s5 q6 hd8 UE h0=>?_);refine .a [] T [(26,dE ((i4:Int)<(a0.kids.length:Int)))] ?_;refine .lc hd8 rfl (by kernel_rfl) (fun x7 q62 bJ hx7 hd9 Ep=>?_) (fun bJ=>?_)
   ·subst bJ;obtain⟨y1,h1,hn1⟩:=dG h0;refine .af [.cs (aN x7)] (A (dh.ji hx7) T) [(6,pw 6)] [.o 6 (.cells ((aN x7).map .d))] ?_;obtain⟨k12,hk12,h1⟩:=bnd h1;refine .af [.call [.own 100021] (.vs (.low 0) 1 ((aH k12).length)) [.vec 9 1 (aH k12)]] (A (Ou n _ _ hk12) T) [(1,.vs (.own 100021) 1 ((aH k12).length))] [.o 100021 (.vec 9 1 (aH k12))] ?_;refine .a [.v ((i4+1:Nat):Int)] (A (wn (i:=i4) (by omega)) T) [(25,iE ((i4+1:Nat):Int))] ?_;cases h1;refine .kp [1,23,24,25] [] ?_;refine .dr 6 (by kernel_rfl) ?_;exact .nL rfl (i4+1) _ hd9 Ep hn1 [] (by kernel_rfl)
   ·subst bJ;have h0:=dR h0;refine .a [] T [(4,.vs (.own 100021) 1 ((aH s5).length))] ?_;refine .kp [4] [] ?_;refine .dr 2 (by kernel_rfl) ?_;refine .ft 4 100021 [] dZ s5 (rfl:(aH s5).length=(aH s5).length) (by kernel_rfl) ?_;cases h0;exact .rt hK
  ·refine .jT h1 (fun hc13 h1=>?_) (fun hc13 h1=>?_)
   ·obtain⟨AB,Ik,h1⟩:=bnd h1;refine .af [.sv (aH [a0.name]),.sv (aH AB)] (A (dZ.lit [a0.name]) (A (A (dZ.ap Ik) (rfl:(aH []).length=0)) T)) [(1,.vs (.own 100021) 1 ((aH AB).length))] [.o 100021 (.vec 9 1 (aH AB))] ?_;cases h1;exact .lg hj1 []
   ·cases h1;exact .lg hj1 []
 ·by_cases g15:a0.kind=2
  ·have h1:=aI g15 h1;obtain⟨k16,sJ,h1⟩:=bnd h1;refine .a (rb 4 true [.call [] (bE k16) [],.b true,.b true]) (R 3 (dt g15) (A (A (dt g15) (vJ n _ _ sJ)) (R 2 (dt g15) T))) [(16,bE (!k16))] ?_;cases h1;exact .lg hj1 []
  ·have h1:=aJ g15 h1;refine .a (rb 6 false []) (R 6 (df g15) T) [(16,bE false)] ?_;cases h1;exact .lg hj1 []
def oJ (n:Nat) (a0:Core):Option (List (List UInt8)):=
 (qL n a0).bind fun k1=>some k1
theorem E5 (n:Nat):∀(a0:Core) {r:List (List UInt8)},oJ n a0=some r→aF X.E 21 [aE (aN a0)] [] (lE 1 (aH r)) []:=by
 intro a0 r h0;rw[oJ] at h0;refine .n Tryz.func21 (fun L ks low K hl hL hlen hK=>?_);refine .af [] T [(1,pw 1)] [.o 1 (.cells ((aN a0).map .d))] ?_;obtain⟨k1,hk1,h0⟩:=bnd h0;refine .a [.b true,.call [] (lE 1 (aH k1)) []] (A (FP n _ hk1) T) [(2,lE 1 (aH k1))] ?_;cases h0;exact .rt hK
def qM (n:Nat) (a0:Form) (w0:List Int):Option (List Int):=
 (jy 8 w0 a0.scopes).bind fun z1=>some z1
theorem FQ (n:Nat):∀(a0:Form) (w0:List Int) {r:List Int},qM n a0 w0=some r→aF X.E 159 [aE (ak a0),pl 0] [some (.cells [.vs (.low 1) 1 ((ah w0).length)]),some (.vec 3 1 (ah w0))] (.dQ []) [.cells [.vs (.low 1) 1 ((ah r).length)],.vec 3 1 (ah r)]:=by
 intro a0 w0 r h0;rw[qM] at h0;refine .n Tryz.func159 (fun L ks low K hl hL hlen hK=>?_);refine .af [] T [(2,pw 2)] [.o 2 (.cells ((ak a0).map .d))] ?_;obtain⟨z1,hz1,h0⟩:=bnd h0;refine .ao [.sv (ah z1)] (A (A (aO.ap hz1) (rfl:(ah w0).length=(ah w0).length)) T) [] [.c 0 0 (.vs (.low 1) 1 ((ah z1).length)),.o 1 (.vec 3 1 (ah z1))] ?_;cases h0;exact .fin rfl rfl rfl rfl hK
def dN:Nat→Form→(List Int)→Option (List Int)
 | 0,_,_=>none
 | n+1,a0,w0=>(qM n a0 w0).bind fun k1=>Option.bind (dX (fun(s4:List Int) (i3:Nat) (x6:Form)=>(dN n x6 s4).bind fun k11=>some k11) 0 a0.kids k1) (fun(s4:List Int)=>some s4)
theorem rV (n:Nat):∀(a0:Form) (w0:List Int) {r:List Int},dN n a0 w0=some r→aF X.E 70 [aE (ak a0),.clo 159 [] [pl 0]] [some (.cells [.vs (.low 1) 1 ((ah w0).length)]),some (.vec 3 1 (ah w0))] (.dQ []) [.cells [.vs (.low 1) 1 ((ah r).length)],.vec 3 1 (ah r)]:=by
 induction n with
 | zero=>intro a0 w0 r h; cases h
 | succ n ih=>
  intro a0 w0 r h0;rw[dN] at h0;refine .n Tryz.func70 (fun L ks low K hl hL hlen hK=>?_);refine .af [] T [(2,pw 2)] [.o 2 (.cells ((ak a0).map .d))] ?_;obtain⟨k1,hk1,h0⟩:=bnd h0;refine .ao [.call [.low 0,.low 1] (.dQ []) [.cells [.vs (.low 1) 1 ((ah k1).length)],.vec 3 1 (ah k1)]] (A (FQ n _ _ hk1) T) [] [.c 0 0 (.vs (.low 1) 1 ((ah k1).length)),.o 1 (.vec 3 1 (ah k1))] ?_;refine .a [.v (a0.kids.length:Int)] (A (aA.len' a0.kids) T) [(10,lE 5 (aj a0.kids)),(11,iE (a0.kids.length:Int)),(12,iE 0)] ?_;refine .sn 10 aA a0.kids (by kernel_rfl) (fun hb2=>?_);refine .lL h0 rfl [1,10,11] (fun i3 s4=>[(12,iE (i3:Int))]) n2 (fun i3 s4=>[.c 0 0 (.vs (.low 1) 1 ((ah s4).length)),.o 1 (.vec 3 1 (ah s4))]) [] (by kernel_rfl) (fun i3 s4 q5 hd7 hi9 h0=>?_);refine .a [] T [(13,dE ((i3:Int)<(a0.kids.length:Int)))] ?_;refine .lc hd7 rfl (by kernel_rfl) (fun x6 Ov jo hx6 hd8 kN=>?_) (fun jo=>?_)
  ·subst jo;obtain⟨y1,h1,hn1⟩:=dG h0;refine .af [.cs (ak x6)] (A (aA.ji hx6) T) [(5,pw 5)] [.o 5 (.cells ((ak x6).map .d))] ?_;obtain⟨k11,Il,h1⟩:=bnd h1;refine .ao [.call [.low 0,.low 1] (.dQ []) [.cells [.vs (.low 1) 1 ((ah k11).length)],.vec 3 1 (ah k11)]] (A (ih _ _ Il) T) [] [.c 0 0 (.vs (.low 1) 1 ((ah k11).length)),.o 1 (.vec 3 1 (ah k11))] ?_;refine .a [.v ((i3+1:Nat):Int)] (A (wn (i:=i3) (by omega)) T) [(12,iE ((i3+1:Nat):Int))] ?_;cases h1;refine .kp [1,10,11,12] [] ?_;refine .dr 5 (by kernel_rfl) ?_;exact .nL rfl (i3+1) _ hd8 kN hn1 [] (by kernel_rfl)
  ·subst jo;have h0:=dR h0;cases h0;exact .fin rfl rfl rfl rfl hK
def kP (n:Nat) (a0:List Int):Option (List Int):=some (Lib.compact a0)
theorem xW (n:Nat):∀(a0:List Int) {r:List Int},kP n a0=some r→aF X.E 161 [.vs (.low 0) 1 ((ah a0).length)] [some (.vec 3 1 (ah a0))] (lE 1 (ah r)) [.tok 9223372036854775808 3]:=by
 intro a0 r h0;cases h0;exact aF.aa6 Tryz.func161 rfl rfl (Lib.compact_length_le a0) (fun _ p cap w=>Tryz.slices_Compact_int_empty p cap w) (fun b cap w hc hm hH hb=>(Tryz.slices_Compact_int b 0 cap a0 w hH hm hc).mono (by rintro e w' ⟨rfl,q,rfl⟩; exact⟨rfl,wJ.pre (.Y8 w q b _ hb)⟩))
def jZ (n:Nat) (a0:List Int):Option (List Int):=if a0.length<4611686018427387904 then some (a0.mergeSort fun x y=>decide (x≤y)) else none
theorem Ba (n:Nat):∀(a0:List Int) {r:List Int},jZ n a0=some r→aF X.E 160 [.vs (.low 0) 1 ((ah a0).length)] [some (.vec 3 1 (ah a0))] (.dQ []) [.vec 3 1 (ah r)]:=by
 intro a0 r h0;rw[jZ] at h0;split at h0
 ·rename_i hlt; cases h0; exact aF.row Tryz.func160 rfl rfl (by simp) (fun _ p cap w=>Tryz.slices_Sort_int_none p cap w) (fun b cap w _ hH hb=>(Tryz.slices_Sort_int b 0 cap a0 w hH hb hlt).mono (by rintro e w' ⟨rfl,n,os,rfl⟩; exact⟨rfl,.WT w n b _ os hb⟩))
 ·cases h0
def qY (n:Nat) (a0:Form):Option (List Int):=
 (iZ n a0).bind fun k1=>(if(!k1)=true then some [] else(dN n a0 []).bind fun k3=>(jZ n k3).bind fun k4=>(KR k4 k3.length).bind fun u5=>(kP n k4).bind fun k7=>some k7)
theorem Js (n:Nat):∀(a0:Form) {r:List Int},qY n a0=some r→aF X.E 133 [aE (ak a0)] [] (lE 1 (ah r)) []:=by
 intro a0 r h0;rw[qY] at h0;refine .n Tryz.func133 (fun L ks low K hl hL hlen hK=>?_);refine .af [] T [(1,pw 1)] [.o 1 (.cells ((ak a0).map .d))] ?_;refine .af [.sv (ah [])] (A (aO.lit []) T) [(3,pw 3)] [.o 3 (.cells [fE 1 (ah [])])] ?_;obtain⟨k1,hk1,h0⟩:=bnd h0;refine .a [.call [] (bE k1) []] (A (pz n _ hk1) T) [(7,bE (!k1))] ?_;refine .jT h0 (fun hc2 h0=>?_) (fun hc2 h0=>?_)
 ·refine .a [] T [(2,fE 1 (ah []))] ?_;cases h0;exact .rt hK
 ·refine .ov 3 0 400300 3 (by kernel_rfl) ?_;obtain⟨k3,hk3,h0⟩:=bnd h0;refine .af [.call [.own 3,.own 400300] (.dQ []) [.cells [.vs (.low 1) 1 ((ah k3).length)],.vec 3 1 (ah k3)]] (A (rV n _ _ hk3) T) [] [.c 3 0 (.vs (.own 400300) 1 ((ah k3).length)),.o 400300 (.vec 3 1 (ah k3))] ?_;obtain⟨k4,hk4,h0⟩:=bnd h0;obtain⟨u5,hu5,h0⟩:=bnd h0;refine .af [.call [.own 400300] (.dQ []) [.vec 3 1 (ah k4)]] (A (Ba n _ hk4) T) [] [.c 3 0 (.vs (.own 400300) 1 ((ah k3).length)),.o 400300 (.vec 3 1 (ah k4))] ?_;refine .rn (by rw[aO.length,aO.length]; exact(Y5 hu5).symm:(ah k3).length=(ah k4).length) (fun nk6=>[]) (fun nk6=>[.c 3 0 (.vs (.own 400300) 1 nk6)]) (fun nk6=>[]) (by kernel_rfl) ?_;obtain⟨k7,Ja,h0⟩:=bnd h0;refine .af [.call [.own 400300] (lE 1 (ah k7)) [.tok 9223372036854775808 3]] (A (xW n _ Ja) T) [(2,lE 1 (ah k7))] [.o 400300 (.tok 9223372036854775808 3)] ?_;cases h0;exact .rt hK
def slices_Equal_int (n:Nat) (a0:List Int) (a1:List Int):Option (Bool):=
 (if ¬(a0.length:Int)=(a1.length:Int) then some false else bI (bQ (fun(s5:Unit) (i4:Nat) (x7:Int)=>((gQ a1 (i4:Int)).bind fun e12=>(if ¬x7=e12 then some (Sum.inl false) else some (Sum.inr ())):Option (Bool⊕Unit))) 0 a0 ()) (fun(s5:Unit)=>some true))
theorem iP (n:Nat):∀(a0:List Int) (a1:List Int) {r:Bool},slices_Equal_int n a0 a1=some r→aF X.E 68 [lE 1 (ah a0),lE 1 (ah a1)] [] (bE r) []:=by
 intro a0 a1 r h0;rw[slices_Equal_int] at h0;refine .n Tryz.func68 (fun L ks low K hl hL hlen hK=>?_);refine .a [] T [] ?_;refine .a [.v (a0.length:Int),.v (a1.length:Int)] (A (aO.len' a0) (A (aO.len' a1) T)) [(10,dE (¬(a0.length:Int)=(a1.length:Int)))] ?_;refine .sn 0 aO a0 (by kernel_rfl) (fun hb1=>?_);refine .sn 1 aO a1 (by kernel_rfl) (fun hb2=>?_);refine .jP h0 (fun hc3 h0=>?_) (fun hc3 h0=>?_)
 ·refine .a [] T [(4,bE false)] ?_;cases h0;exact .rt hK
 ·refine .a [.v (a0.length:Int)] (A (aO.len' a0) T) [(12,iE (a0.length:Int)),(13,iE 0)] ?_;refine .lI h0 rfl [0,1,12] (fun i4 s5=>[(13,iE (i4:Int))]) n2 n2 [] (by kernel_rfl) (fun i4 s5 q6 hd8 UE h0=>?_);refine .a [] T [(14,dE ((i4:Int)<(a0.length:Int)))] ?_;refine .lc hd8 rfl (by kernel_rfl) (fun x7 q62 bJ hx7 hd9 Ep=>?_) (fun bJ=>?_)
  ·subst bJ;obtain⟨y1,h1,hw1,hn1⟩:=bg h0;refine .a [] T [(5,iE (i4:Int))] ?_;obtain⟨e12,zH,h1⟩:=bnd h1;refine .ad mixed [(2,[.cs [.v (.int .i64 x7)]]),(6,[.cs [.v (.int .i64 e12)]])] [] (A (aO.ji hx7) (A (aO.idx zH) T)) [(24,dE (¬x7=e12))] [] [] ?_;refine .jP h1 (fun hc13 h1=>?_) (fun hc13 h1=>?_)
   ·refine .a [] T [(4,bE false)] ?_;cases h1;cases hw1 _ rfl;exact .rt hK
   ·refine .a [.v ((i4+1:Nat):Int)] (A (wn (i:=i4) (by omega)) T) [(13,iE ((i4+1:Nat):Int))] ?_;cases h1;exact .nL rfl (i4+1) _ hd9 Ep (hn1 _ rfl) [] (by kernel_rfl)
  ·subst bJ;have h0:=bM h0;refine .a [] T [(4,bE true)] ?_;cases h0;exact .rt hK
mutual
def jA:Nat→Form→Form→Option (Bool)
 | 0,_,_=>none
 | n+1,a0,a1=>Option.bind ((if a0.kind=a1.kind then(if a0.name=a1.name then(if a0.n=a1.n then(slices_Equal_int n a0.scopes a1.scopes).bind fun k5=>(if k5=true then(bD n a0.kids a1.kids).bind fun k7=>some k7 else some false) else some false) else some false) else some false):Option (Bool)) (fun(o1:Bool)=>some o1)
def bD:Nat→(List Form)→(List Form)→Option (Bool)
 | 0,_,_=>none
 | n+1,a0,a1=>(if ¬(a0.length:Int)=(a1.length:Int) then some false else bI (bQ (fun(s5:Unit) (i4:Nat) (x7:Form)=>((gQ a1 (i4:Int)).bind fun e12=>(jA n x7 e12).bind fun k13=>(if(!k13)=true then some (Sum.inl false) else some (Sum.inr ())):Option (Bool⊕Unit))) 0 a0 ()) (fun(s5:Unit)=>some true))
end
theorem BG (n:Nat):(∀(a0:Form) (a1:Form) {r:Bool},jA n a0 a1=some r→aF X.E 26 [aE (ak a0),aE (ak a1)] [] (bE r) [])∧(∀(a0:List Form) (a1:List Form) {r:Bool},bD n a0 a1=some r→aF X.E 69 [lE 5 (aj a0),lE 5 (aj a1),.clo 26 [] []] [] (bE r) []):=by
 induction n with
 | zero=>exact⟨(by intros; rename_i h; cases h),(by intros; rename_i h; cases h)⟩
 | succ n ih=>
  refine⟨?_,?_⟩
  ·intro a0 a1 r h0;rw[jA] at h0;refine .n Tryz.func26 (fun L ks low K hl hL hlen hK=>?_);refine .af [] T [(2,pw 2),(3,pw 3)] [.o 2 (.cells ((ak a0).map .d)),.o 3 (.cells ((ak a1).map .d))] ?_;refine .bP h0 rfl [] (fun o1=>[(4,bE o1)]) n1 n1 (fun o1 h0=>?_) (fun y1 h1 hj1=>?_)
   ·cases h0;exact .rt hK
   ·by_cases g2:a0.kind=a1.kind
    ·have h1:=aI g2 h1;by_cases g3:a0.name=a1.name
     ·have h1:=aI g3 h1;by_cases g4:a0.n=a1.n
      ·have h1:=aI g4 h1;obtain⟨k5,hk5,h1⟩:=bnd h1;by_cases g6:k5=true
       ·have h1:=aI g6 h1;obtain⟨k7,Ja,h1⟩:=bnd h1;refine .a (rb 17 true (.call [] (bE k5) []::(rb 6 true [.call [] (bE k7) [],.b true]))) (R 6 (dt g2) (R 6 (dt g3) (R 4 (dt g4) (A (A (dt g4) (iP n _ _ hk5)) (A (dt g4) (R 4 g6 (A (A g6 (ih.2 _ _ Ja)) (A g6 T)))))))) [(4,bE k7)] ?_;cases h1;exact .lg hj1 []
       ·have h1:=aJ g6 h1;refine .a (rb 17 true (.call [] (bE k5) []::(.b true::(rb 6 false [])))) (R 6 (dt g2) (R 6 (dt g3) (R 4 (dt g4) (A (A (dt g4) (iP n _ _ hk5)) (A (dt g4) (R 6 (Bool.eq_false_iff.2 g6) T)))))) [(4,bE false)] ?_;cases h1;exact .lg hj1 []
      ·have h1:=aJ g4 h1;refine .a (rb 12 true (rb 12 false [])) (R 6 (dt g2) (R 6 (dt g3) (R 6 (df g4) (R 6 B0 T)))) [(4,bE false)] ?_;cases h1;exact .lg hj1 []
     ·have h1:=aJ g3 h1;refine .a (rb 6 true (rb 18 false [])) (R 6 (dt g2) (R 6 (df g3) (R 12 B0 T))) [(4,bE false)] ?_;cases h1;exact .lg hj1 []
    ·have h1:=aJ g2 h1;refine .a (rb 24 false []) (R 6 (df g2) (R 18 B0 T)) [(4,bE false)] ?_;cases h1;exact .lg hj1 []
  ·intro a0 a1 r h0;rw[bD] at h0;refine .n Tryz.func69 (fun L ks low K hl hL hlen hK=>?_);refine .a [] T [] ?_;refine .a [.v (a0.length:Int),.v (a1.length:Int)] (A (aA.len' a0) (A (aA.len' a1) T)) [(14,dE (¬(a0.length:Int)=(a1.length:Int)))] ?_;refine .sn 0 aA a0 (by kernel_rfl) (fun hb1=>?_);refine .sn 1 aA a1 (by kernel_rfl) (fun hb2=>?_);refine .jP h0 (fun hc3 h0=>?_) (fun hc3 h0=>?_)
   ·refine .a [] T [(6,bE false)] ?_;cases h0;exact .rt hK
   ·refine .a [.v (a0.length:Int)] (A (aA.len' a0) T) [(15,lE 5 (aj a0)),(16,iE (a0.length:Int)),(17,iE 0)] ?_;refine .lI h0 rfl [1,2,15,16] (fun i4 s5=>[(17,iE (i4:Int))]) n2 n2 [] (by kernel_rfl) (fun i4 s5 q6 hd8 UE h0=>?_);refine .a [] T [(18,dE ((i4:Int)<(a0.length:Int)))] ?_;refine .lc hd8 rfl (by kernel_rfl) (fun x7 q62 bJ hx7 hd9 Ep=>?_) (fun bJ=>?_)
    ·subst bJ;obtain⟨y1,h1,hw1,hn1⟩:=bg h0;refine .af [.cs (ak x7)] (A (aA.ji hx7) T) [(7,iE (i4:Int)),(8,pw 8)] [.o 8 (.cells ((ak x7).map .d))] ?_;obtain⟨e12,zH,h1⟩:=bnd h1;refine .af [.cs (ak e12)] (A (aA.idx zH) T) [(9,pw 9)] [.o 9 (.cells ((ak e12).map .d))] ?_;obtain⟨k13,pq,h1⟩:=bnd h1;refine .a [.call [] (bE k13) []] (A (ih.1 _ _ pq) T) [(30,bE (!k13))] ?_;refine .jT h1 (fun nV h1=>?_) (fun nV h1=>?_)
     ·refine .a [] T [(6,bE false)] ?_;cases h1;cases hw1 _ rfl;exact .rt hK
     ·refine .a [.v ((i4+1:Nat):Int)] (A (wn (i:=i4) (by omega)) T) [(17,iE ((i4+1:Nat):Int))] ?_;cases h1;refine .kp [1,2,15,16,17] [] ?_;refine .dr 8 (by kernel_rfl) ?_;refine .dr 9 (by kernel_rfl) ?_;exact .nL rfl (i4+1) _ hd9 Ep (hn1 _ rfl) [] (by kernel_rfl)
    ·subst bJ;have h0:=bM h0;refine .a [] T [(6,bE true)] ?_;cases h0;exact .rt hK
theorem BH (n:Nat):∀(a0:Form) (a1:Form) {r:Bool},jA n a0 a1=some r→aF X.E 26 [aE (ak a0),aE (ak a1)] [] (bE r) []:=(BG n).1
theorem yL (n:Nat):∀(a0:List Form) (a1:List Form) {r:Bool},bD n a0 a1=some r→aF X.E 69 [lE 5 (aj a0),lE 5 (aj a1),.clo 26 [] []] [] (bE r) []:=(BG n).2
mutual
def jB:Nat→Core→Core→Option (Bool)
 | 0,_,_=>none
 | n+1,a0,a1=>Option.bind ((if a0.kind=a1.kind then(if a0.id=a1.id then(if a0.name=a1.name then(if a0.n=a1.n then(slices_Equal_int n a0.ids a1.ids).bind fun k6=>(if k6=true then(jA n a0.data a1.data).bind fun k8=>(if k8=true then(bG n a0.kids a1.kids).bind fun k10=>some k10 else some false) else some false) else some false) else some false) else some false) else some false):Option (Bool)) (fun(o1:Bool)=>some o1)
def bG:Nat→(List Core)→(List Core)→Option (Bool)
 | 0,_,_=>none
 | n+1,a0,a1=>(if ¬(a0.length:Int)=(a1.length:Int) then some false else bI (bQ (fun(s5:Unit) (i4:Nat) (x7:Core)=>((gQ a1 (i4:Int)).bind fun e12=>(jB n x7 e12).bind fun k13=>(if(!k13)=true then some (Sum.inl false) else some (Sum.inr ())):Option (Bool⊕Unit))) 0 a0 ()) (fun(s5:Unit)=>some true))
end
theorem BI (n:Nat):(∀(a0:Core) (a1:Core) {r:Bool},jB n a0 a1=some r→aF X.E 134 [aE (aN a0),aE (aN a1)] [] (bE r) [])∧(∀(a0:List Core) (a1:List Core) {r:Bool},bG n a0 a1=some r→aF X.E 162 [lE 11 (aG a0),lE 11 (aG a1),.clo 134 [] []] [] (bE r) []):=by
 induction n with
 | zero=>exact⟨(by intros; rename_i h; cases h),(by intros; rename_i h; cases h)⟩
 | succ n ih=>
  refine⟨?_,?_⟩
  ·intro a0 a1 r h0;rw[jB] at h0;refine .n Tryz.func134 (fun L ks low K hl hL hlen hK=>?_);refine .af [] T [(2,pw 2),(3,pw 3)] [.o 2 (.cells ((aN a0).map .d)),.o 3 (.cells ((aN a1).map .d))] ?_;refine .bP h0 rfl [] (fun o1=>[(4,bE o1)]) n1 n1 (fun o1 h0=>?_) (fun y1 h1 hj1=>?_)
   ·cases h0;exact .rt hK
   ·by_cases g2:a0.kind=a1.kind
    ·have h1:=aI g2 h1;by_cases g3:a0.id=a1.id
     ·have h1:=aI g3 h1;by_cases g4:a0.name=a1.name
      ·have h1:=aI g4 h1;by_cases g5:a0.n=a1.n
       ·have h1:=aI g5 h1;obtain⟨k6,hk6,h1⟩:=bnd h1;by_cases g7:k6=true
        ·have h1:=aI g7 h1;obtain⟨k8,hk8,h1⟩:=bnd h1;by_cases g9:k8=true
         ·have h1:=aI g9 h1;obtain⟨k10,hk10,h1⟩:=bnd h1;refine .a (rb 23 true (.call [] (bE k6) []::(rb 6 true (.call [] (bE k8) []::(rb 6 true [.call [] (bE k10) [],.b true]))))) (R 6 (dt g2) (R 6 (dt g3) (R 6 (dt g4) (R 4 (dt g5) (A (A (dt g5) (iP n _ _ hk6)) (A (dt g5) (R 4 g7 (A (A g7 (BH n _ _ hk8)) (A g7 (R 4 g9 (A (A g9 (ih.2 _ _ hk10)) (A g9 T)))))))))))) [(4,bE k10)] ?_;cases h1;exact .lg hj1 []
         ·have h1:=aJ g9 h1;refine .a (rb 23 true (.call [] (bE k6) []::(rb 6 true (.call [] (bE k8) []::(.b true::(rb 6 false [])))))) (R 6 (dt g2) (R 6 (dt g3) (R 6 (dt g4) (R 4 (dt g5) (A (A (dt g5) (iP n _ _ hk6)) (A (dt g5) (R 4 g7 (A (A g7 (BH n _ _ hk8)) (A g7 (R 6 (Bool.eq_false_iff.2 g9) T)))))))))) [(4,bE false)] ?_;cases h1;exact .lg hj1 []
        ·have h1:=aJ g7 h1;refine .a (rb 23 true (.call [] (bE k6) []::(.b true::(rb 12 false [])))) (R 6 (dt g2) (R 6 (dt g3) (R 6 (dt g4) (R 4 (dt g5) (A (A (dt g5) (iP n _ _ hk6)) (A (dt g5) (R 6 (Bool.eq_false_iff.2 g7) (R 6 B0 T)))))))) [(4,bE false)] ?_;cases h1;exact .lg hj1 []
       ·have h1:=aJ g5 h1;refine .a (rb 18 true (rb 18 false [])) (R 6 (dt g2) (R 6 (dt g3) (R 6 (dt g4) (R 6 (df g5) (R 12 B0 T))))) [(4,bE false)] ?_;cases h1;exact .lg hj1 []
      ·have h1:=aJ g4 h1;refine .a (rb 12 true (rb 24 false [])) (R 6 (dt g2) (R 6 (dt g3) (R 6 (df g4) (R 18 B0 T)))) [(4,bE false)] ?_;cases h1;exact .lg hj1 []
     ·have h1:=aJ g3 h1;refine .a (rb 6 true (rb 30 false [])) (R 6 (dt g2) (R 6 (df g3) (R 24 B0 T))) [(4,bE false)] ?_;cases h1;exact .lg hj1 []
    ·have h1:=aJ g2 h1;refine .a (rb 36 false []) (R 6 (df g2) (R 30 B0 T)) [(4,bE false)] ?_;cases h1;exact .lg hj1 []
  ·intro a0 a1 r h0;rw[bG] at h0;refine .n Tryz.func162 (fun L ks low K hl hL hlen hK=>?_);refine .a [] T [] ?_;refine .a [.v (a0.length:Int),.v (a1.length:Int)] (A (dh.len' a0) (A (dh.len' a1) T)) [(14,dE (¬(a0.length:Int)=(a1.length:Int)))] ?_;refine .sn 0 dh a0 (by kernel_rfl) (fun hb1=>?_);refine .sn 1 dh a1 (by kernel_rfl) (fun hb2=>?_);refine .jP h0 (fun hc3 h0=>?_) (fun hc3 h0=>?_)
   ·refine .a [] T [(6,bE false)] ?_;cases h0;exact .rt hK
   ·refine .a [.v (a0.length:Int)] (A (dh.len' a0) T) [(15,lE 11 (aG a0)),(16,iE (a0.length:Int)),(17,iE 0)] ?_;refine .lI h0 rfl [1,2,15,16] (fun i4 s5=>[(17,iE (i4:Int))]) n2 n2 [] (by kernel_rfl) (fun i4 s5 q6 hd8 UE h0=>?_);refine .a [] T [(18,dE ((i4:Int)<(a0.length:Int)))] ?_;refine .lc hd8 rfl (by kernel_rfl) (fun x7 q62 bJ hx7 hd9 Ep=>?_) (fun bJ=>?_)
    ·subst bJ;obtain⟨y1,h1,hw1,hn1⟩:=bg h0;refine .af [.cs (aN x7)] (A (dh.ji hx7) T) [(7,iE (i4:Int)),(8,pw 8)] [.o 8 (.cells ((aN x7).map .d))] ?_;obtain⟨e12,zH,h1⟩:=bnd h1;refine .af [.cs (aN e12)] (A (dh.idx zH) T) [(9,pw 9)] [.o 9 (.cells ((aN e12).map .d))] ?_;obtain⟨k13,pq,h1⟩:=bnd h1;refine .a [.call [] (bE k13) []] (A (ih.1 _ _ pq) T) [(30,bE (!k13))] ?_;refine .jT h1 (fun nV h1=>?_) (fun nV h1=>?_)
     ·refine .a [] T [(6,bE false)] ?_;cases h1;cases hw1 _ rfl;exact .rt hK
     ·refine .a [.v ((i4+1:Nat):Int)] (A (wn (i:=i4) (by omega)) T) [(17,iE ((i4+1:Nat):Int))] ?_;cases h1;refine .kp [1,2,15,16,17] [] ?_;refine .dr 8 (by kernel_rfl) ?_;refine .dr 9 (by kernel_rfl) ?_;exact .nL rfl (i4+1) _ hd9 Ep (hn1 _ rfl) [] (by kernel_rfl)
    ·subst bJ;have h0:=bM h0;refine .a [] T [(6,bE true)] ?_;cases h0;exact .rt hK
theorem Jt (n:Nat):∀(a0:Core) (a1:Core) {r:Bool},jB n a0 a1=some r→aF X.E 134 [aE (aN a0),aE (aN a1)] [] (bE r) []:=(BI n).1
theorem yM (n:Nat):∀(a0:List Core) (a1:List Core) {r:Bool},bG n a0 a1=some r→aF X.E 162 [lE 11 (aG a0),lE 11 (aG a1),.clo 134 [] []] [] (bE r) []:=(BI n).2
def slices_Clone_int (n:Nat) (a0:List Int):Option (List Int):=
 (jy 8 [] a0).bind fun z1=>some z1
theorem QS (n:Nat):∀(a0:List Int) {r:List Int},slices_Clone_int n a0=some r→aF X.E 125 [lE 1 (ah a0)] [] (lE 1 (ah r)) []:=by
 intro a0 r h0;rw[slices_Clone_int] at h0;refine .m Tryz.func125 rfl rfl rfl (by kernel_rfl) (fun L ks low K hl hL hlen hK=>?_);refine .r [] T [] rfl (by kernel_rfl) ?_;refine .nq rfl (by kernel_rfl) rfl rfl (fun e=>?_) ?_
 ·have e:a0=[]:=by cases a0 with
   | nil=>rfl
   | cons x q=>rw[aO.eq] at e; cases e
  subst e;have e:r=[]:=by simp[jy] at h0; exact h0
  subst e;refine .cB true rfl (by kernel_rfl) ?_;refine .r [] T [(2,fE 1 (ah []))] rfl (by kernel_rfl) ?_;refine .kp [2] [] ?_;refine .owV 2 400002 3 [] rfl rfl (by kernel_rfl) ?_;refine .ft 2 400002 [] aO [] rfl (by kernel_rfl) ?_;exact .ret rfl rfl (by kernel_rfl) hK
 ·refine .cB false rfl (by kernel_rfl) ?_;obtain⟨z1,hz1,h0⟩:=bnd h0;refine .rf [.sv (ah []),.mv 7,.sv (ah z1)] (A (aO.lit []) (A (aO.ap0 hz1) T)) [(2,.vs (.own 100007) 1 (ah z1).length)] [.o 100007 (.vec 3 1 (ah z1))] rfl (by kernel_rfl) ?_;refine .kp [2] [] ?_;cases h0;refine .ft 2 100007 [] aO r rfl (by kernel_rfl) ?_;exact .ret rfl rfl (by kernel_rfl) hK
def slices_Index_int (n:Nat) (a0:List Int) (a1:Int):Option (Int):=
 bI (bQ (fun(s3:Unit) (i2:Nat) (x5:Int)=>((if a1=x5 then some (Sum.inl (i2:Int)) else some (Sum.inr ())):Option (Int⊕Unit))) 0 a0 ()) (fun(s3:Unit)=>some (-1))
theorem Cb (n:Nat):∀(a0:List Int) (a1:Int) {r:Int},slices_Index_int n a0 a1=some r→aF X.E 157 [lE 1 (ah a0),iE a1] [] (iE r) []:=by
 intro a0 a1 r h0;rw[slices_Index_int] at h0;refine .n Tryz.func157 (fun L ks low K hl hL hlen hK=>?_);refine .a [] T [] ?_;refine .a [.v (a0.length:Int)] (A (aO.len' a0) T) [(7,iE (a0.length:Int)),(8,iE 0)] ?_;refine .sn 0 aO a0 (by kernel_rfl) (fun hb1=>?_);refine .lI h0 rfl [0,1,7] (fun i2 s3=>[(8,iE (i2:Int))]) n2 n2 [] (by kernel_rfl) (fun i2 s3 q4 hd6 Yi h0=>?_);refine .a [] T [(9,dE ((i2:Int)<(a0.length:Int)))] ?_;refine .lc hd6 rfl (by kernel_rfl) (fun x5 W9 fK hx5 hd7 vI=>?_) (fun fK=>?_)
 ·subst fK;obtain⟨y1,h1,hw1,hn1⟩:=bg h0;refine .a [] T [(5,iE (i2:Int))] ?_;refine .a [.cs [.v (.int .i64 x5)]] (A (aO.ji hx5) T) [(16,dE (a1=x5))] ?_;refine .jP h1 (fun jo h1=>?_) (fun jo h1=>?_)
  ·refine .a [] T [(4,iE (i2:Int))] ?_;cases h1;cases hw1 _ rfl;exact .rt hK
  ·refine .a [.v ((i2+1:Nat):Int)] (A (wn (i:=i2) (by omega)) T) [(8,iE ((i2+1:Nat):Int))] ?_;cases h1;exact .nL rfl (i2+1) _ hd7 vI (hn1 _ rfl) [] (by kernel_rfl)
 ·subst fK;have h0:=bM h0;refine .a [] T [(4,iE (-1))] ?_;cases h0;exact .rt hK
def slices_Contains_int (n:Nat) (a0:List Int) (a1:Int):Option (Bool):=
 (slices_Index_int n a0 a1).bind fun k1=>some (decide (k1≥0))
theorem yT (n:Nat):∀(a0:List Int) (a1:Int) {r:Bool},slices_Contains_int n a0 a1=some r→aF X.E 131 [lE 1 (ah a0),iE a1] [] (bE r) []:=by
 intro a0 a1 r h0;rw[slices_Contains_int] at h0;refine .n Tryz.func131 (fun L ks low K hl hL hlen hK=>?_);refine .a [] T [] ?_;obtain⟨k1,hk1,h0⟩:=bnd h0;refine .a [.call [] (iE k1) []] (A (Cb n _ _ hk1) T) [(4,dE (k1≥0))] ?_;cases h0;exact .rt hK
def nX (n:Nat) (a0:List Int) (a1:Int):Option (Int):=
 bI (bQ (fun(s3:Unit) (i2:Nat) (x5:Int)=>((if a1=x5 then some (Sum.inl (i2:Int)) else some (Sum.inr ())):Option (Int⊕Unit))) 0 a0 ()) (fun(s3:Unit)=>some (-1))
theorem zI (n:Nat):∀(a0:List Int) (a1:Int) {r:Int},nX n a0 a1=some r→aF X.E 157 [.vs (.low 0) 1 ((ah a0).length),iE a1] [some (.vec 3 1 (ah a0))] (iE r) [.vec 3 1 (ah a0)]:=by
 intro a0 a1 r h0;rw[nX] at h0;refine .n Tryz.func157 (fun L ks low K hl hL hlen hK=>?_);refine .a [] T [] ?_;refine .a [.v (a0.length:Int)] (A (aO.len' a0) T) [(7,iE (a0.length:Int)),(8,iE 0)] ?_;refine .Yh 0 aO a0 (by kernel_rfl) (fun hb1=>?_);refine .lI h0 rfl [0,1,7] (fun i2 s3=>[(8,iE (i2:Int))]) n2 n2 [] (by kernel_rfl) (fun i2 s3 q4 hd6 Yi h0=>?_);refine .a [] T [(9,dE ((i2:Int)<(a0.length:Int)))] ?_;refine .lc hd6 rfl (by kernel_rfl) (fun x5 W9 fK hx5 hd7 vI=>?_) (fun fK=>?_)
 ·subst fK;obtain⟨y1,h1,hw1,hn1⟩:=bg h0;refine .a [] T [(5,iE (i2:Int))] ?_;refine .a [.cs [.v (.int .i64 x5)]] (A (A (aO.inv (BZ hx5) (rfl:(ah a0).length=(ah a0).length)) (rfl:(ah a0).length=(ah a0).length)) (A (A (A (aO.rows a0) (aO.Em hx5)) (rfl:(ah a0).length=(ah a0).length)) T)) [(16,dE (a1=x5))] ?_;refine .jP h1 (fun jo h1=>?_) (fun jo h1=>?_)
  ·refine .a [] T [(4,iE (i2:Int))] ?_;cases h1;cases hw1 _ rfl;exact .rt hK
  ·refine .a [.v ((i2+1:Nat):Int)] (A (wn (i:=i2) (by omega)) T) [(8,iE ((i2+1:Nat):Int))] ?_;cases h1;exact .nL rfl (i2+1) _ hd7 vI (hn1 _ rfl) [] (by kernel_rfl)
 ·subst fK;have h0:=bM h0;refine .a [] T [(4,iE (-1))] ?_;cases h0;exact .rt hK
def fB (n:Nat) (a0:List Int) (a1:Int):Option (Bool):=
 (nX n a0 a1).bind fun k1=>some (decide (k1≥0))
theorem wL (n:Nat):∀(a0:List Int) (a1:Int) {r:Bool},fB n a0 a1=some r→aF X.E 131 [.vs (.low 0) 1 ((ah a0).length),iE a1] [some (.vec 3 1 (ah a0))] (bE r) [.vec 3 1 (ah a0)]:=by
 intro a0 a1 r h0;rw[fB] at h0;refine .n Tryz.func131 (fun L ks low K hl hL hlen hK=>?_);refine .a [] T [] ?_;obtain⟨k1,hk1,h0⟩:=bnd h0;refine .a [.call [.low 0] (iE k1) [.vec 3 1 (ah a0)]] (A (zI n _ _ hk1) T) [(4,dE (k1≥0))] ?_;cases h0;exact .rt hK
theorem zJ (n:Nat):∀(a0:List Int) {r:List Int},slices_Clone_int n a0=some r→aF X.E 125 [lE 1 (ah a0)] [none] (.vs (.low 0) 1 ((ah r).length)) [.vec 3 1 (ah r)]:=by
 intro a0 r h0;rw[slices_Clone_int] at h0;refine .m Tryz.func125 rfl rfl rfl (by kernel_rfl) (fun L ks low K hl hL hlen hK=>?_);refine .r [] T [] rfl (by kernel_rfl) ?_;refine .nq rfl (by kernel_rfl) rfl rfl (fun e=>?_) ?_
 ·have e:a0=[]:=by cases a0 with
   | nil=>rfl
   | cons x q=>rw[aO.eq] at e; cases e
  subst e;have e:r=[]:=by simp[jy] at h0; exact h0
  subst e;refine .cB true rfl (by kernel_rfl) ?_;refine .r [] T [(2,fE 1 (ah []))] rfl (by kernel_rfl) ?_;refine .kp [2] [] ?_;refine .owV 2 400002 3 [] rfl rfl (by kernel_rfl) ?_;refine .mv 2 400002 0 [] (by kernel_rfl) ?_;exact .ret rfl rfl (by kernel_rfl) hK
 ·refine .cB false rfl (by kernel_rfl) ?_;obtain⟨z1,hz1,h0⟩:=bnd h0;refine .rf [.sv (ah []),.mv 7,.sv (ah z1)] (A (aO.lit []) (A (aO.ap0 hz1) T)) [(2,.vs (.own 100007) 1 (ah z1).length)] [.o 100007 (.vec 3 1 (ah z1))] rfl (by kernel_rfl) ?_;refine .kp [2] [] ?_;cases h0;refine .mv 2 100007 0 [] (by kernel_rfl) ?_;exact .ret rfl rfl (by kernel_rfl) hK
def sS:Nat→Core→(List Int)→Int→Int→Option (Bool×Int)
 | 0,_,_,_,_=>none
 | n+1,a0,a1,a2,w0=>Option.bind ((if(aY (w0-1))<0 then some true else some (decide (a2>120))):Option (Bool)) (fun(o1:Bool)=>(if o1=true then some (false,(aY (w0-1))) else bI ((if a0.kind=1 then Option.bind ((iR n a0.id 1 999).bind fun k22=>(if(!k22)=true then some true else(slices_Contains_int n a1 a0.id).bind fun k24=>some (!k24)):Option (Bool)) (fun(Zc:Bool)=>(if Zc=true then some (Sum.inl (false,(aY (w0-1)))) else some (Sum.inr (0,a1,a0.id,[],0,[],0,[],0,[],[])))) else(if a0.kind=2 then(lq n a0.name).bind fun k26=>(if(!k26)=true then some (Sum.inl (false,(aY (w0-1)))) else some (Sum.inr (0,a1,0,a0.name,0,[],0,[],0,[],[]))) else(if a0.kind=3 then(iR n a0.n 0 999).bind fun k29=>(if(!k29)=true then some (Sum.inl (false,(aY (w0-1)))) else some (Sum.inr (0,a1,0,[],a0.n,[],0,[],0,[],[]))) else(if a0.kind=4 then Option.bind ((iZ n a0.data).bind fun k34=>(if(!k34)=true then some true else(qY n a0.data).bind fun Xb=>some (decide ((Xb.length:Int)>0))):Option (Bool)) (fun(o32:Bool)=>(if o32=true then some (Sum.inl (false,(aY (w0-1)))) else some (Sum.inr (0,a1,0,[],0,[],a0.data.kind,a0.data.name,a0.data.n,a0.data.scopes,a0.data.kids)))) else(if a0.kind=5 then(slices_Clone_int n a1).bind fun k38=>bI (bQ (fun(Ju:List Int) (i40:Nat) (x43:Int)=>(Option.bind ((iR n x43 1 999).bind fun Zd=>(if(!Zd)=true then some true else(fB n Ju x43).bind fun Z5=>some Z5):Option (Bool)) (fun(Z7:Bool)=>(if Z7=true then some (Sum.inl (Sum.inl (false,(aY (w0-1))))) else(jy 8 Ju [x43]).bind fun z50=>some (Sum.inr z50))):Option (((Bool×Int)⊕(Int×(List Int)×Int×(List UInt8)×Int×(List Int)×Int×(List UInt8)×Int×(List Int)×(List Form)))⊕(List Int)))) 0 a0.ids k38) (fun(Ju:List Int)=>some (Sum.inr (1,Ju,0,[],0,a0.ids,0,[],0,[],[]))) else(if a0.kind=6 then some (Sum.inr ((if(a0.kids.length:Int)>1 then(a0.kids.length:Int) else 1),a1,0,[],0,[],0,[],0,[],[])) else(if a0.kind=7 then some (Sum.inr (3,a1,0,[],0,[],0,[],0,[],[])) else some (Sum.inl (false,(aY (w0-1))))))))))):Option ((Bool×Int)⊕(Int×(List Int)×Int×(List UInt8)×Int×(List Int)×Int×(List UInt8)×Int×(List Int)×(List Form)))) (fun(o3:Int×(List Int)×Int×(List UInt8)×Int×(List Int)×Int×(List UInt8)×Int×(List Int)×(List Form))=>Option.bind ((if ¬(a0.kids.length:Int)=o3.1 then some true else(jB n a0 (⟨a0.kind,o3.2.2.1,o3.2.2.2.1,o3.2.2.2.2.1,o3.2.2.2.2.2.1,(⟨o3.2.2.2.2.2.2.1,o3.2.2.2.2.2.2.2.1,o3.2.2.2.2.2.2.2.2.1,o3.2.2.2.2.2.2.2.2.2.1,o3.2.2.2.2.2.2.2.2.2.2⟩:Form),a0.kids⟩:Core)).bind fun k18=>some (!k18)):Option (Bool)) (fun(o4:Bool)=>(if o4=true then some (false,(aY (w0-1))) else bI (bQ (fun(s8:Int) (i7:Nat) (x10:Core)=>((sS n x10 o3.2.1 (aY (a2+1)) s8).bind fun k15=>(if(!k15.1)=true then some (Sum.inl (false,k15.2)) else some (Sum.inr k15.2)):Option ((Bool×Int)⊕Int))) 0 a0.kids (aY (w0-1))) (fun(s8:Int)=>some (true,s8)))))))
theorem Ox (n:Nat):∀(a0:Core) (a1:List Int) (a2:Int) (w0:Int) {r:Bool×Int},sS n a0 a1 a2 w0=some r→aF X.E 103 [aE (aN a0),lE 1 (ah a1),iE a2,pl 0] [some (.cells [iE w0])] (bE r.1) [.cells [iE r.2]]:=by
 induction n with
 | zero=>intro a0 a1 a2 w0 r h; cases h
 | succ n ih=>
  intro a0 a1 a2 w0 r h0;rw[sS] at h0;refine .n Tryz.func103 (fun L ks low K hl hL hlen hK=>?_);refine .af [] T [(4,pw 4)] [.o 4 (.cells ((aN a0).map .d))] ?_;refine .ao [.pl] T [] [.c 0 0 (iE (aY (w0-1)))] ?_;refine .bP h0 rfl [1,2,3,4] (fun o1=>[(28,bE o1)]) n1 n1 (fun o1 h0=>?_) (fun y1 h1 hj1=>?_)
  ·refine .jT h0 (fun hc2 h0=>?_) (fun hc2 h0=>?_)
   ·refine .a [] T [(8,bE false)] ?_;cases h0;exact .rt hK
   ·refine .af [] T [(9,pw 9),(10,iE 0),(11,lE 1 (ah a1))] [.o 9 (.cells [iE a0.kind,iE 0,sE [],iE 0,fE 1 (ah []),iE 0,sE [],iE 0,fE 1 (ah []),fE 5 (aj []),lE 11 (aG a0.kids)])] ?_;refine .a [] T [(36,iE a0.kind)] ?_;refine .bSB h0 rfl [2,3,4,9] (fun o3=>[(10,iE o3.1),(11,lE 1 (ah o3.2.1))]) (fun o3=>[.o 9 (.cells [iE a0.kind,iE o3.2.2.1,sE o3.2.2.2.1,iE o3.2.2.2.2.1,lE 1 (ah o3.2.2.2.2.2.1),iE o3.2.2.2.2.2.2.1,sE o3.2.2.2.2.2.2.2.1,iE o3.2.2.2.2.2.2.2.2.1,lE 1 (ah o3.2.2.2.2.2.2.2.2.2.1),lE 5 (aj o3.2.2.2.2.2.2.2.2.2.2),lE 11 (aG a0.kids)])]) n1 (fun o3 h0=>?_) (fun y1 h1 hj1 hw1=>?_)
    ·refine .bP h0 rfl [2,3,4,11] (fun o4=>[(132,bE o4)]) n1 n1 (fun o4 h0=>?_) (fun y1 h1 hj1=>?_)
     ·refine .jT h0 (fun hc5 h0=>?_) (fun hc5 h0=>?_)
      ·refine .a [] T [(8,bE false)] ?_;cases h0;exact .rt hK
      ·refine .a [.v (a0.kids.length:Int)] (A (dh.len' a0.kids) T) [(134,lE 11 (aG a0.kids)),(135,iE (a0.kids.length:Int)),(136,iE 0)] ?_;refine .sn 134 dh a0.kids (by kernel_rfl) (fun hb6=>?_);refine .lI h0 rfl [2,3,11,134,135] (fun i7 s8=>[(136,iE (i7:Int))]) n2 (fun i7 s8=>[.c 0 0 (iE s8)]) [] (by kernel_rfl) (fun i7 s8 q9 hd11 aeX h0=>?_);refine .a [] T [(137,dE ((i7:Int)<(a0.kids.length:Int)))] ?_;refine .lc hd11 rfl (by kernel_rfl) (fun x10 q92 nV aa8 aa9 Xc=>?_) (fun nV=>?_)
       ·subst nV;obtain⟨y1,h1,hw1,hn1⟩:=bg h0;refine .af [.cs (aN x10)] (A (dh.ji aa8) T) [(15,pw 15)] [.o 15 (.cells ((aN x10).map .d))] ?_;obtain⟨k15,rW,h1⟩:=bnd h1;refine .ao [.pl,.call [.low 0] (bE k15.1) [.cells [iE k15.2]]] (A (ih _ _ _ _ rW) T) [(146,bE (!k15.1))] [.c 0 0 (iE k15.2)] ?_;refine .jT h1 (fun hc16 h1=>?_) (fun hc16 h1=>?_)
        ·refine .a [] T [(8,bE false)] ?_;cases h1;cases hw1 _ rfl;exact .rt hK
        ·refine .a [.v ((i7+1:Nat):Int)] (A (wn (i:=i7) (by omega)) T) [(136,iE ((i7+1:Nat):Int))] ?_;cases h1;refine .kp [2,3,11,134,135,136] [] ?_;refine .dr 15 (by kernel_rfl) ?_;exact .nL rfl (i7+1) _ aa9 Xc (hn1 _ rfl) [] (by kernel_rfl)
       ·subst nV;have h0:=bM h0;refine .a [] T [(8,bE true)] ?_;cases h0;exact .rt hK
     ·by_cases g17:¬(a0.kids.length:Int)=o3.1
      ·have h1:=aI g17 h1;refine .a (.v (a0.kids.length:Int)::(rb 5 true [])) (A (dh.len' a0.kids) (R 5 (dt g17) T)) [(132,bE true)] ?_;cases h1;exact .lg hj1 []
      ·have h1:=aJ g17 h1;obtain⟨k18,nG,h1⟩:=bnd h1;refine .a (.v (a0.kids.length:Int)::(rb 3 false [.call [] (bE k18) [],.b false,.b false])) (A (dh.len' a0.kids) (R 2 (df g17) (A (A (df g17) (Jt n _ _ nG)) (R 2 (df g17) T)))) [(132,bE (!k18))] ?_;cases h1;exact .lg hj1 []
    ·refine .a [] T [(37,dE (a0.kind=1))] ?_;refine .jP h1 (fun hc19 h1=>?_) (fun hc19 h1=>?_)
     ·refine .af [] T [] [.c 9 1 (iE a0.id)] ?_;refine .bP h1 rfl [2,3,4,9,10,11] (fun Zc=>[(52,bE Zc)]) n1 n1 (fun Zc h1=>?_) (fun y2 h2 hj2=>?_)
      ·refine .jT h1 (fun hc21 h1=>?_) (fun hc21 h1=>?_)
       ·refine .a [] T [(8,bE false)] ?_;cases h1;cases hw1 _ rfl;exact .rt hK
       ·cases h1;refine .fg 9 [4,8,9] ?_;exact .lg (hj1 _ rfl) []
      ·obtain⟨k22,Io,h2⟩:=bnd h2;by_cases g23:(!k22)=true
       ·have h2:=aI g23 h2;refine .a (.call [] (bE k22) []::(rb 6 true [])) (A (gI n _ _ _ Io) (R 6 g23 T)) [(52,bE true)] ?_;cases h2;exact .lg hj2 []
       ·have h2:=aJ g23 h2;obtain⟨k24,Es,h2⟩:=bnd h2;refine .a (.call [] (bE k22) []::(rb 4 false [.call [] (bE k24) [],.b false,.b false])) (A (gI n _ _ _ Io) (R 3 (Bool.eq_false_iff.2 g23) (A (A (Bool.eq_false_iff.2 g23) (yT n _ _ Es)) (R 2 (Bool.eq_false_iff.2 g23) T)))) [(52,bE (!k24))] ?_;cases h2;exact .lg hj2 []
     ·refine .a [] T [(53,dE (a0.kind=2))] ?_;refine .jP h1 (fun hc25 h1=>?_) (fun hc25 h1=>?_)
      ·refine .af [] T [] [.c 9 2 (sE a0.name)] ?_;obtain⟨k26,Et,h1⟩:=bnd h1;refine .a [.call [] (bE k26) []] (A (kM n _ Et) T) [(61,bE (!k26))] ?_;refine .jT h1 (fun hc27 h1=>?_) (fun hc27 h1=>?_)
       ·refine .a [] T [(8,bE false)] ?_;cases h1;cases hw1 _ rfl;exact .rt hK
       ·cases h1;refine .fg 9 [4,8,9] ?_;exact .lg (hj1 _ rfl) []
      ·refine .a [] T [(62,dE (a0.kind=3))] ?_;refine .jP h1 (fun hc28 h1=>?_) (fun hc28 h1=>?_)
       ·refine .af [] T [] [.c 9 3 (iE a0.n)] ?_;obtain⟨k29,UF,h1⟩:=bnd h1;refine .a [.call [] (bE k29) []] (A (gI n _ _ _ UF) T) [(70,bE (!k29))] ?_;refine .jT h1 (fun Xd h1=>?_) (fun Xd h1=>?_)
        ·refine .a [] T [(8,bE false)] ?_;cases h1;cases hw1 _ rfl;exact .rt hK
        ·cases h1;refine .fg 9 [4,8,9] ?_;exact .lg (hj1 _ rfl) []
       ·refine .a [] T [(71,dE (a0.kind=4))] ?_;refine .jP h1 (fun hc31 h1=>?_) (fun hc31 h1=>?_)
        ·refine .af [] T [] [.c 9 5 (iE a0.data.kind),.c 9 6 (sE a0.data.name),.c 9 7 (iE a0.data.n),.c 9 8 (lE 1 (ah a0.data.scopes)),.c 9 9 (lE 5 (aj a0.data.kids))] ?_;refine .bP h1 rfl [2,3,4,9,10,11] (fun o32=>[(86,bE o32)]) n1 n1 (fun o32 h1=>?_) (fun y2 h2 hj2=>?_)
         ·refine .jT h1 (fun Xe h1=>?_) (fun Xe h1=>?_)
          ·refine .a [] T [(8,bE false)] ?_;cases h1;cases hw1 _ rfl;exact .rt hK
          ·cases h1;refine .fg 9 [4] ?_;exact .lg (hj1 _ rfl) []
         ·obtain⟨k34,UG,h2⟩:=bnd h2;by_cases Bc:(!k34)=true
          ·have h2:=aI Bc h2;refine .a (.call [] (bE k34) []::(rb 6 true [])) (A (pz n _ UG) (R 6 Bc T)) [(86,bE true)] ?_;cases h2;exact .lg hj2 []
          ·have h2:=aJ Bc h2;obtain⟨Xb,abb,h2⟩:=bnd h2;refine .a (.call [] (bE k34) []::(rb 3 false [.call [] (lE 1 (ah Xb)) [],.b false,.v (Xb.length:Int),.b false,.b false])) (A (pz n _ UG) (R 2 (Bool.eq_false_iff.2 Bc) (A (A (Bool.eq_false_iff.2 Bc) (Js n _ abb)) (A (A (Bool.eq_false_iff.2 Bc) (aO.len' Xb)) (R 2 (Bool.eq_false_iff.2 Bc) T))))) [(86,dE ((Xb.length:Int)>0))] ?_;cases h2;exact .lg hj2 []
        ·refine .a [] T [(87,dE (a0.kind=5))] ?_;refine .jP h1 (fun aeY h1=>?_) (fun aeY h1=>?_)
         ·refine .af [] T [(10,iE 1)] [.c 9 4 (lE 1 (ah a0.ids))] ?_;obtain⟨k38,abd,h1⟩:=bnd h1;refine .af [.call [.own 300930] (.vs (.low 0) 1 ((ah k38).length)) [.vec 3 1 (ah k38)]] (A (zJ n _ abd) T) [(11,.vs (.own 300930) 1 ((ah k38).length))] [.o 300930 (.vec 3 1 (ah k38))] ?_;refine .a [.v (a0.ids.length:Int)] (A (aO.len' a0.ids) T) [(95,lE 1 (ah a0.ids)),(96,iE (a0.ids.length:Int)),(97,iE 0)] ?_;refine .sn 95 aO a0.ids (by kernel_rfl) (fun aeZ=>?_);refine .lI h1 rfl [2,3,4,9,10,95,96] (fun i40 Ju=>[(11,.vs (.own 300930) 1 ((ah Ju).length)),(97,iE (i40:Int))]) (fun i40 Ju=>[.o 300930 (.vec 3 1 (ah Ju))]) n2 [] (by kernel_rfl) (fun i40 Ju W9 ae0 agX h1=>?_);refine .a [] T [(98,dE ((i40:Int)<(a0.ids.length:Int)))] ?_;refine .lc ae0 rfl (by kernel_rfl) (fun x43 agY hc47 ae1 ae2 adt=>?_) (fun hc47=>?_)
          ·subst hc47;obtain⟨y2,h2,hw2,hn2⟩:=bg h1;refine .a [.cs [.v (.int .i64 x43)]] (A (aO.ji ae1) T) [(13,iE x43)] ?_;refine .bP h2 rfl [2,3,4,9,10,11,13,95,96,97] (fun Z7=>[(108,bE Z7)]) n1 n1 (fun Z7 h2=>?_) (fun y3 h3 hj3=>?_)
           ·refine .jT h2 (fun ae3 h2=>?_) (fun ae3 h2=>?_)
            ·refine .a [] T [(8,bE false)] ?_;cases h2;cases hw2 _ rfl;cases hw1 _ rfl;exact .rt hK
            ·obtain⟨z50,ae4,h2⟩:=bnd h2;refine .af [.sv (ah [x43]),.sv (ah z50)] (A (aO.lit [x43]) (A (A (aO.ap ae4) (rfl:(ah Ju).length=(ah Ju).length)) T)) [(11,.vs (.own 300930) 1 ((ah z50).length))] [.o 300930 (.vec 3 1 (ah z50))] ?_;refine .a [.v ((i40+1:Nat):Int)] (A (wn (i:=i40) (by omega)) T) [(97,iE ((i40+1:Nat):Int))] ?_;cases h2;exact .nL rfl (i40+1) _ ae2 adt (hn2 _ rfl) [] (by kernel_rfl)
           ·obtain⟨Zd,adu,h3⟩:=bnd h3;by_cases g52:(!Zd)=true
            ·have h3:=aI g52 h3;refine .a (.call [] (bE Zd) []::(rb 4 true [])) (A (gI n _ _ _ adu) (R 4 g52 T)) [(108,bE true)] ?_;cases h3;exact .lg hj3 []
            ·have h3:=aJ g52 h3;obtain⟨Z5,ae5,h3⟩:=bnd h3;refine .a (.call [] (bE Zd) []::(rb 3 false [.call [.own 300930] (bE Z5) [.vec 3 1 (ah Ju)],.b false])) (A (gI n _ _ _ adu) (R 2 (Bool.eq_false_iff.2 g52) (A (A (Bool.eq_false_iff.2 g52) (wL n _ _ ae5)) (A (Bool.eq_false_iff.2 g52) T)))) [(108,bE Z5)] ?_;cases h3;exact .lg hj3 []
          ·subst hc47;have h1:=bM h1;cases h1;refine .kp [2,3,4,9,10,11] [] ?_;refine .ft 11 300930 [2,3,4,9,10] aO Ju (rfl:(ah Ju).length=(ah Ju).length) (by kernel_rfl) ?_;refine .fg 9 [8,9] ?_;exact .lg (hj1 _ rfl) []
         ·refine .a [] T [(114,dE (a0.kind=6))] ?_;refine .jP h1 (fun ae6 h1=>?_) (fun ae6 h1=>?_)
          ·refine .a [.v (a0.kids.length:Int)] (A (dh.len' a0.kids) T) [(10,iE (if(a0.kids.length:Int)>1 then(a0.kids.length:Int) else 1)),(117,lE 11 (aG a0.kids))] ?_;refine .sn 117 dh a0.kids (by kernel_rfl) (fun agZ=>?_);cases h1;refine .fg 9 [4,8,9] ?_;exact .lg (hj1 _ rfl) []
          ·refine .a [] T [(120,dE (a0.kind=7))] ?_;refine .jP h1 (fun ae7 h1=>?_) (fun ae7 h1=>?_)
           ·refine .a [] T [(10,iE 3)] ?_;cases h1;refine .fg 9 [4,8,9] ?_;exact .lg (hj1 _ rfl) []
           ·refine .a [] T [(8,bE false)] ?_;cases h1;cases hw1 _ rfl;exact .rt hK
  ·by_cases g57:(aY (w0-1))<0
   ·have h1:=aI g57 h1;refine .a (rb 3 true []) (R 3 (dt g57) T) [(28,bE true)] ?_;cases h1;exact .lg hj1 []
   ·have h1:=aJ g57 h1;refine .a (rb 3 false []) (R 3 (df g57) T) [(28,dE (a2>120))] ?_;cases h1;exact .lg hj1 []
def pF (n:Nat) (a0:Core):Option (Bool):=
 (sS n a0 [] 1 600).bind fun k1=>some k1.1
theorem Ip (n:Nat):∀(a0:Core) {r:Bool},pF n a0=some r→aF X.E 60 [aE (aN a0)] [] (bE r) []:=by
 intro a0 r h0;rw[pF] at h0;refine .n Tryz.func60 (fun L ks low K hl hL hlen hK=>?_);refine .af [] T [(1,pw 1)] [.o 1 (.cells ((aN a0).map .d))] ?_;refine .af [] T [(3,pw 3)] [.o 3 (.cells [iE 600])] ?_;obtain⟨k1,hk1,h0⟩:=bnd h0;refine .af [.call [.own 3] (bE k1.1) [.cells [iE k1.2]]] (A (Ox n _ _ _ _ hk1) T) [(2,bE k1.1)] [.c 3 0 (iE k1.2)] ?_;cases h0;exact .rt hK
theorem Jv (s l:List UInt8) (hs:s.length≤9223372036854775807):aF X.E 62 [sE s,sE l] [] (bE (uo s l)) []:=by
 refine aF.Y9 (vs:=[.string (mkS s),.string (mkS l)]) Tryz.func62 rfl rfl (fun _=>rfl) (fun _=>rfl) (fun cx st w hr=>?_);obtain⟨v4,e4,z4,b4,tp,x,p4⟩:=hr.WX (g:=2) rfl;obtain⟨v8,e8,z8,b8,p8⟩:=hr.WX (g:=4) rfl;refine LG s l w hs tp x (by simp only[World.cell?,b4]; simpa using p4) (by unfold Lib.TabIs World.var?; rw[ZY]; simp only[Option.bind_some,b8,p8]) (Array.getElem?_eq_some_iff.1 b8).1
def uZ (n:Nat) (a0:List UInt8) (a1:List UInt8):Option Bool:=if a0.length≤9223372036854775807 then some (uo a0 a1) else none
theorem Jw (n:Nat):∀(a0:List UInt8) (a1:List UInt8) {r:Bool},uZ n a0 a1=some r→aF X.E 62 [sE a0,sE a1] [] (bE r) []:=by
 intro a0 a1 r h0;rw[uZ] at h0;split at h0
 ·rename_i hs; cases h0; exact Jv a0 a1 hs
 ·cases h0
def jq (n:Nat) (a0:List UInt8) (w0:Int):Option (Bool):=
 (uZ n a0 (rn w0)).bind fun k1=>some k1
theorem Eu (n:Nat):∀(a0:List UInt8) (w0:Int) {r:Bool},jq n a0 w0=some r→aF X.E 61 [sE a0,pl 0] [some (.cells [.d (.v (.int .i32 w0))])] (bE r) [.cells [.d (.v (.int .i32 w0))]]:=by
 intro a0 w0 r h0;rw[jq] at h0;refine .n Tryz.func61 (fun L ks low K hl hL hlen hK=>?_);refine .a [] T [] ?_;obtain⟨k1,hk1,h0⟩:=bnd h0;refine .a [.call [] (bE k1) []] (A (Jw n _ _ hk1) T) [(3,bE k1)] ?_;cases h0;exact .rt hK
def dI (n:Nat) (a0:List (List UInt8)) (w0:Int):Option (Int):=
 bI (bQ (fun(s3:Unit) (i2:Nat) (x5:List UInt8)=>((jq n x5 w0).bind fun k10=>(if k10=true then some (Sum.inl (i2:Int)) else some (Sum.inr ())):Option (Int⊕Unit))) 0 a0 ()) (fun(s3:Unit)=>some (-1))
theorem jM (n:Nat):∀(a0:List (List UInt8)) (w0:Int) {r:Int},dI n a0 w0=some r→aF X.E 94 [lE 1 (aH a0),.clo 61 [] [pl 0]] [some (.cells [.d (.v (.int .i32 w0))])] (iE r) [.cells [.d (.v (.int .i32 w0))]]:=by
 intro a0 w0 r h0;rw[dI] at h0;refine .n Tryz.func94 (fun L ks low K hl hL hlen hK=>?_);refine .a [] T [] ?_;refine .a [.v (a0.length:Int)] (A (dZ.len' a0) T) [(7,iE (a0.length:Int)),(8,iE 0)] ?_;refine .sn 0 dZ a0 (by kernel_rfl) (fun hb1=>?_);refine .lI h0 rfl [0,1,7] (fun i2 s3=>[(8,iE (i2:Int))]) n2 n2 [] (by kernel_rfl) (fun i2 s3 q4 hd6 Yi h0=>?_);refine .a [] T [(9,dE ((i2:Int)<(a0.length:Int)))] ?_;refine .lc hd6 rfl (by kernel_rfl) (fun x5 W9 fK hx5 hd7 vI=>?_) (fun fK=>?_)
 ·subst fK;obtain⟨y1,h1,hw1,hn1⟩:=bg h0;refine .a [] T [(5,iE (i2:Int))] ?_;obtain⟨k10,hk10,h1⟩:=bnd h1;refine .a [.cs [.s x5],.call [.low 0] (bE k10) [.cells [.d (.v (.int .i32 w0))]]] (A (dZ.ji hx5) (A (Eu n _ _ hk10) T)) [(16,bE k10)] ?_;refine .jT h1 (fun bJ h1=>?_) (fun bJ h1=>?_)
  ·refine .a [] T [(4,iE (i2:Int))] ?_;cases h1;cases hw1 _ rfl;exact .rt hK
  ·refine .a [.v ((i2+1:Nat):Int)] (A (wn (i:=i2) (by omega)) T) [(8,iE ((i2+1:Nat):Int))] ?_;cases h1;exact .nL rfl (i2+1) _ hd7 vI (hn1 _ rfl) [] (by kernel_rfl)
 ·subst fK;have h0:=bM h0;refine .a [] T [(4,iE (-1))] ?_;cases h0;exact .rt hK
def aZ (n:Nat) (a0:List (List UInt8)) (w0:Int):Option (Bool):=
 (dI n a0 w0).bind fun k1=>some (decide (k1≥0))
theorem jr (n:Nat):∀(a0:List (List UInt8)) (w0:Int) {r:Bool},aZ n a0 w0=some r→aF X.E 45 [lE 1 (aH a0),.clo 61 [] [pl 0]] [some (.cells [.d (.v (.int .i32 w0))])] (bE r) [.cells [.d (.v (.int .i32 w0))]]:=by
 intro a0 w0 r h0;rw[aZ] at h0;refine .n Tryz.func45 (fun L ks low K hl hL hlen hK=>?_);refine .a [] T [] ?_;obtain⟨k1,hk1,h0⟩:=bnd h0;refine .a [.call [.low 0] (iE k1) [.cells [.d (.v (.int .i32 w0))]]] (A (jM n _ _ hk1) T) [(4,dE (k1≥0))] ?_;cases h0;exact .rt hK
def pG (n:Nat) (a0:Core):Option ((List UInt8)×Bool):=
 (pF n a0).bind fun k1=>(if(!k1)=true then some ([],false) else(oJ n a0).bind fun k3=>iterM n (fun(s4:Int)=>((if s4≤122 then(aZ n k3 s4).bind fun k7=>(if(!k7)=true then some (Sum.inl ((rn s4),true)) else some (Sum.inr (IntKind.i32.wrap (s4+1)))) else some (Sum.inl ([],false))):Option (((List UInt8)×Bool)⊕Int))) 97)
theorem Iq (n:Nat):∀(a0:Core) {r:(List UInt8)×Bool},pG n a0=some r→aF X.E 19 [aE (aN a0)] [] (.dQ [sE r.1,bE r.2]) []:=by
 intro a0 r h0;rw[pG] at h0;refine .n Tryz.func19 (fun L ks low K hl hL hlen hK=>?_);refine .af [] T [(1,pw 1)] [.o 1 (.cells ((aN a0).map .d))] ?_;obtain⟨k1,hk1,h0⟩:=bnd h0;refine .a [.call [] (bE k1) []] (A (Ip n _ hk1) T) [(8,bE (!k1))] ?_;refine .jT h0 (fun hc2 h0=>?_) (fun hc2 h0=>?_)
 ·refine .a [] T [(2,sE []),(3,bE false)] ?_;cases h0;exact .rt hK
 ·obtain⟨k3,hk3,h0⟩:=bnd h0;refine .a [.call [] (lE 1 (aH k3)) []] (A (E5 n _ hk3) T) [(4,lE 1 (aH k3))] ?_;refine .af [] T [(5,pw 5)] [.o 5 (.cells [.d (.v (.int .i32 97))])] ?_;refine .it h0 rfl [4,5] (fun s4=>[]) (fun s4=>[.c 5 0 (.d (.v (.int .i32 s4)))]) n1 [] (by kernel_rfl) (fun nk5 s4 h0=>?_);obtain⟨y1,h1,hw1,hn1⟩:=bT h0;refine .a [] T [(12,dE (s4≤122))] ?_;refine .jP h1 (fun hc6 h1=>?_) (fun hc6 h1=>?_)
  ·obtain⟨k7,Ja,h1⟩:=bnd h1;refine .a [.call [.own 5] (bE k7) [.cells [.d (.v (.int .i32 s4))]]] (A (jr n _ _ Ja) T) [(18,bE (!k7))] ?_;refine .jT h1 (fun hc8 h1=>?_) (fun hc8 h1=>?_)
   ·refine .a [] T [(2,sE (rn s4)),(3,bE true)] ?_;cases h1;cases hw1 _ rfl;exact .rt hK
   ·refine .a [] T [(21,.d (.v (.int .i32 s4)))] ?_;refine .kp [4,21] [] ?_;refine .dr 5 (by kernel_rfl) ?_;refine .af [] T [(5,pw 5)] [.o 5 (.cells [.d (.v (.int .i32 s4))])] ?_;refine .af [.pl] T [] [.c 5 0 (.d (.v (.int .i32 (IntKind.i32.wrap (s4+1)))))] ?_;cases h1;exact .nI rfl _ (hn1 _ rfl) [] (by kernel_rfl)
  ·refine .a [] T [(2,sE []),(3,bE false)] ?_;cases h1;cases hw1 _ rfl;exact .rt hK
def sU (n:Nat) (a0:List (List UInt8)) (a1:List UInt8):Option (Bool):=
 bI (bQ (fun(s2:Unit) (i1:Nat) (x4:List UInt8)=>((if x4=a1 then some (Sum.inl true) else some (Sum.inr ())):Option (Bool⊕Unit))) 0 a0 ()) (fun(s2:Unit)=>some false)
theorem Oy (n:Nat):∀(a0:List (List UInt8)) (a1:List UInt8) {r:Bool},sU n a0 a1=some r→aF X.E 24 [lE 1 (aH a0),sE a1] [] (bE r) []:=by
 intro a0 a1 r h0;rw[sU] at h0;refine .n Tryz.func24 (fun L ks low K hl hL hlen hK=>?_);refine .a [] T [] ?_;refine .a [] T [(5,iE 0)] ?_;refine .lI h0 rfl [0,1] (fun i1 s2=>[(5,iE (i1:Int))]) n2 n2 [] (by kernel_rfl) (fun i1 s2 q3 hd5 PS h0=>?_);refine .a [.v (a0.length:Int)] (A (dZ.len' a0) T) [(9,dE ((i1:Int)<(a0.length:Int)))] ?_;refine .sn 0 dZ a0 (by kernel_rfl) (fun hb8=>?_);refine .lc hd5 rfl (by kernel_rfl) (fun x4 q32 fK hx4 hd6 lQ=>?_) (fun fK=>?_)
 ·subst fK;obtain⟨y1,h1,hw1,hn1⟩:=bg h0;refine .a [.cs [.s x4]] (A (dZ.ji hx4) T) [(17,dE (x4=a1))] ?_;refine .jP h1 (fun jo h1=>?_) (fun jo h1=>?_)
  ·refine .a [] T [(4,bE true)] ?_;cases h1;cases hw1 _ rfl;exact .rt hK
  ·refine .a [.v ((i1+1:Nat):Int)] (A (wn (i:=i1) (by omega)) T) [(5,iE ((i1+1:Nat):Int))] ?_;cases h1;exact .nL rfl (i1+1) _ hd6 lQ (hn1 _ rfl) [] (by kernel_rfl)
 ·subst fK;have h0:=bM h0;refine .a [] T [(4,bE false)] ?_;cases h0;exact .rt hK
def Dy (n:Nat) (a0:Int):Option (Form):=
 some (⟨2,[],a0,[],[]⟩:Form)
theorem QT (n:Nat):∀(a0:Int) {r:Form},Dy n a0=some r→aF X.E 23 [iE a0] [] (aE (ak r)) []:=by
 intro a0 r h0;rw[Dy] at h0;refine .n Tryz.func23 (fun L ks low K hl hL hlen hK=>?_);refine .af [] T [(2,pw 2)] [.o 2 (.cells [iE 0,sE [],iE 0,fE 1 (ah []),fE 5 (aj [])])] ?_;refine .af [] T [] [.c 2 0 (iE 2),.c 2 2 (iE a0)] ?_;cases h0;exact .rt hK
def iT:Nat→Form→Option (Form)
 | 0,_=>none
 | n+1,a0=>(jy 8 [] a0.scopes).bind fun z1=>Option.bind (dX (fun(s3:List Form) (i2:Nat) (x5:Form)=>(iT n x5).bind fun k11=>(jy 80 s3 [k11]).bind fun z12=>some z12) 0 a0.kids []) (fun(s3:List Form)=>some (⟨a0.kind,a0.name,a0.n,z1,s3⟩:Form))
theorem oK (n:Nat):∀(a0:Form) {r:Form},iT n a0=some r→aF X.E 91 [aE (ak a0)] [] (aE (ak r)) []:=by
 induction n with
 | zero=>intro a0 r h; cases h
 | succ n ih=>
  intro a0 r h0;rw[iT] at h0;refine .n Tryz.func91 (fun L ks low K hl hL hlen hK=>?_);refine .af [] T [(1,pw 1),(2,pw 2)] [.o 1 (.cells ((ak a0).map .d)),.o 2 (.cells [iE 0,sE [],iE 0,fE 1 (ah []),fE 5 (aj [])])] ?_;obtain⟨z1,hz1,h0⟩:=bnd h0;refine .ad mixed [(6,[.sv (ah [])]),(9,[.sv (ah z1)])] [] (A (aO.lit []) (A (aO.ap hz1) T)) [(3,pw 3)] [.o 100014 (.tok (ah z1).length 3),.o 3 (.cells [iE a0.kind,sE a0.name,iE a0.n,.gs (.own 100014) 1 (ah z1),fE 5 (aj [])])] [] ?_;refine .a [] T [(4,iE 0)] ?_;refine .oc 3 4 100032 33 (by kernel_rfl) ?_;refine .lL h0 rfl [1,2,3] (fun i2 s3=>[(4,iE (i2:Int))]) (fun i2 s3=>[.c 3 4 (.gs (.own 100032) 5 (aj s3)),.o 100032 (.tok (aj s3).length 33)]) n2 [] (by kernel_rfl) (fun i2 s3 q4 hd6 Yi h0=>?_);refine .a [.v (a0.kids.length:Int)] (A (aA.len' a0.kids) T) [(18,lE 5 (aj a0.kids)),(20,dE ((i2:Int)<(a0.kids.length:Int)))] ?_;refine .sn 18 aA a0.kids (by kernel_rfl) (fun hb9=>?_);refine .lc hd6 rfl (by kernel_rfl) (fun x5 W9 jo hx5 hd7 vI=>?_) (fun jo=>?_)
  ·subst jo;obtain⟨y1,h1,hn1⟩:=dG h0;obtain⟨k11,Il,h1⟩:=bnd h1;obtain⟨z12,LJ,h1⟩:=bnd h1;refine .ad mixed [(5,[.cs (ak x5)]),(7,[.call [] (aE (ak k11)) []]),(8,[.sv (aj [k11])]),(9,[.sv (aj z12)])] [((aj s3).length:Int)] (A (aA.ji hx5) (A (ih _ Il) (A (aA.lit [k11]) (A (aA.ap LJ) T)))) [] [.c 3 4 (.gs (.own 100032) 5 (aj z12)),.o 100032 (.tok (aj z12).length 33)] [] ?_;refine .a [.v ((i2+1:Nat):Int)] (A (wn (i:=i2) (by omega)) T) [(4,iE ((i2+1:Nat):Int))] ?_;cases h1;exact .nL rfl (i2+1) _ hd7 vI hn1 [] (by kernel_rfl)
  ·subst jo;have h0:=dR h0;refine .af [] T [] [.o 2 (.cells [iE a0.kind,sE a0.name,iE a0.n,.gs (.own 100014) 1 (ah z1),.gs (.own 100032) 5 (aj s3)])] ?_;cases h0;exact .rt hK
def jS:Nat→Core→Option (Core)
 | 0,_=>none
 | n+1,a0=>(jy 8 [] a0.ids).bind fun z1=>(iT n a0.data).bind fun k2=>Option.bind (dX (fun(s4:List Core) (i3:Nat) (x6:Core)=>(jS n x6).bind fun k12=>(jy 168 s4 [k12]).bind fun z13=>some z13) 0 a0.kids []) (fun(s4:List Core)=>some (⟨a0.kind,a0.id,a0.name,a0.n,z1,k2,s4⟩:Core))
theorem E8 (n:Nat):∀(a0:Core) {r:Core},jS n a0=some r→aF X.E 114 [aE (aN a0)] [] (aE (aN r)) []:=by
 induction n with
 | zero=>intro a0 r h; cases h
 | succ n ih=>
  intro a0 r h0;rw[jS] at h0;refine .n Tryz.func114 (fun L ks low K hl hL hlen hK=>?_);refine .af [] T [(1,pw 1),(2,pw 2)] [.o 1 (.cells ((aN a0).map .d)),.o 2 (.cells [iE 0,iE 0,sE [],iE 0,fE 1 (ah []),iE 0,sE [],iE 0,fE 1 (ah []),fE 5 (aj []),fE 11 (aG [])])] ?_;obtain⟨z1,hz1,h0⟩:=bnd h0;obtain⟨k2,hk2,h0⟩:=bnd h0;refine .ad mixed [(8,[.sv (ah [])]),(11,[.sv (ah z1)]),(14,[.call [] (aE (ak k2)) []])] [] (A (aO.lit []) (A (aO.ap hz1) (A (oK n _ hk2) T))) [(3,pw 3)] [.o 100016 (.tok (ah z1).length 3),.o 3 (.cells [iE a0.kind,iE a0.id,sE a0.name,iE a0.n,.gs (.own 100016) 1 (ah z1),iE k2.kind,sE k2.name,iE k2.n,lE 1 (ah k2.scopes),lE 5 (aj k2.kids),fE 11 (aG [])])] [] ?_;refine .a [] T [(4,iE 0)] ?_;refine .oc 3 10 100037 36 (by kernel_rfl) ?_;refine .lL h0 rfl [1,2,3] (fun i3 s4=>[(4,iE (i3:Int))]) (fun i3 s4=>[.c 3 10 (.gs (.own 100037) 11 (aG s4)),.o 100037 (.tok (aG s4).length 36)]) n2 [] (by kernel_rfl) (fun i3 s4 q5 hd7 hi9 h0=>?_);refine .a [.v (a0.kids.length:Int)] (A (dh.len' a0.kids) T) [(23,lE 11 (aG a0.kids)),(25,dE ((i3:Int)<(a0.kids.length:Int)))] ?_;refine .sn 23 dh a0.kids (by kernel_rfl) (fun Bd=>?_);refine .lc hd7 rfl (by kernel_rfl) (fun x6 Ov bJ hx6 hd8 kN=>?_) (fun bJ=>?_)
  ·subst bJ;obtain⟨y1,h1,hn1⟩:=dG h0;obtain⟨k12,hk12,h1⟩:=bnd h1;obtain⟨z13,zK,h1⟩:=bnd h1;refine .ad mixed [(5,[.cs (aN x6)]),(7,[.call [] (aE (aN k12)) []]),(8,[.sv (aG [k12])]),(9,[.sv (aG z13)])] [((aG s4).length:Int)] (A (dh.ji hx6) (A (ih _ hk12) (A (dh.lit [k12]) (A (dh.ap zK) T)))) [] [.c 3 10 (.gs (.own 100037) 11 (aG z13)),.o 100037 (.tok (aG z13).length 36)] [] ?_;refine .a [.v ((i3+1:Nat):Int)] (A (wn (i:=i3) (by omega)) T) [(4,iE ((i3+1:Nat):Int))] ?_;cases h1;exact .nL rfl (i3+1) _ hd8 kN hn1 [] (by kernel_rfl)
  ·subst bJ;have h0:=dR h0;refine .af [] T [] [.o 2 (.cells [iE a0.kind,iE a0.id,sE a0.name,iE a0.n,.gs (.own 100016) 1 (ah z1),iE k2.kind,sE k2.name,iE k2.n,lE 1 (ah k2.scopes),lE 5 (aj k2.kids),.gs (.own 100037) 11 (aG s4)])] ?_;cases h0;exact .rt hK
def qm:Nat→Core→Option (Int)
 | 0,_=>none
 | n+1,a0=>Option.bind (dX (fun(s2:Int) (i1:Nat) (x4:Core)=>(qm n x4).bind fun k10=>some (aY (s2+k10))) 0 a0.kids 1) (fun(s2:Int)=>some s2)
theorem LK (n:Nat):∀(a0:Core) {r:Int},qm n a0=some r→aF X.E 106 [aE (aN a0)] [] (iE r) []:=by
 induction n with
 | zero=>intro a0 r h; cases h
 | succ n ih=>
  intro a0 r h0;rw[qm] at h0;refine .n Tryz.func106 (fun L ks low K hl hL hlen hK=>?_);refine .af [] T [(1,pw 1)] [.o 1 (.cells ((aN a0).map .d))] ?_;refine .a [] T [(3,iE 1)] ?_;refine .a [] T [(4,iE 0)] ?_;refine .lL h0 rfl [1] (fun i1 s2=>[(3,iE s2),(4,iE (i1:Int))]) n2 n2 [] (by kernel_rfl) (fun i1 s2 q3 hd5 PS h0=>?_);refine .a [.v (a0.kids.length:Int)] (A (dh.len' a0.kids) T) [(7,lE 11 (aG a0.kids)),(9,dE ((i1:Int)<(a0.kids.length:Int)))] ?_;refine .sn 7 dh a0.kids (by kernel_rfl) (fun hb8=>?_);refine .lc hd5 rfl (by kernel_rfl) (fun x4 q32 fK hx4 hd6 lQ=>?_) (fun fK=>?_)
  ·subst fK;obtain⟨y1,h1,hn1⟩:=dG h0;obtain⟨k10,hk10,h1⟩:=bnd h1;refine .a [.cs (aN x4),.call [] (iE k10) [],.pl] (A (dh.ji hx4) (A (ih _ hk10) T)) [(3,iE (aY (s2+k10)))] ?_;refine .a [.v ((i1+1:Nat):Int)] (A (wn (i:=i1) (by omega)) T) [(4,iE ((i1+1:Nat):Int))] ?_;cases h1;exact .nL rfl (i1+1) _ hd6 lQ hn1 [] (by kernel_rfl)
  ·subst fK;have h0:=dR h0;refine .a [] T [(2,iE s2)] ?_;cases h0;exact .rt hK
def nH (n:Nat) (a0:List Int) (a1:Int):Option (Bool):=
 bI (bQ (fun(s2:Unit) (i1:Nat) (x4:Int)=>((if x4=a1 then some (Sum.inl true) else some (Sum.inr ())):Option (Bool⊕Unit))) 0 a0 ()) (fun(s2:Unit)=>some false)
theorem uy (n:Nat):∀(a0:List Int) (a1:Int) {r:Bool},nH n a0 a1=some r→aF X.E 139 [lE 1 (ah a0),iE a1] [] (bE r) []:=by
 intro a0 a1 r h0;rw[nH] at h0;refine .n Tryz.func139 (fun L ks low K hl hL hlen hK=>?_);refine .a [] T [] ?_;refine .a [] T [(5,iE 0)] ?_;refine .lI h0 rfl [0,1] (fun i1 s2=>[(5,iE (i1:Int))]) n2 n2 [] (by kernel_rfl) (fun i1 s2 q3 hd5 PS h0=>?_);refine .a [.v (a0.length:Int)] (A (aO.len' a0) T) [(9,dE ((i1:Int)<(a0.length:Int)))] ?_;refine .sn 0 aO a0 (by kernel_rfl) (fun hb8=>?_);refine .lc hd5 rfl (by kernel_rfl) (fun x4 q32 fK hx4 hd6 lQ=>?_) (fun fK=>?_)
 ·subst fK;obtain⟨y1,h1,hw1,hn1⟩:=bg h0;refine .a [.cs [.v (.int .i64 x4)]] (A (aO.ji hx4) T) [(17,dE (x4=a1))] ?_;refine .jP h1 (fun jo h1=>?_) (fun jo h1=>?_)
  ·refine .a [] T [(4,bE true)] ?_;cases h1;cases hw1 _ rfl;exact .rt hK
  ·refine .a [.v ((i1+1:Nat):Int)] (A (wn (i:=i1) (by omega)) T) [(5,iE ((i1+1:Nat):Int))] ?_;cases h1;exact .nL rfl (i1+1) _ hd6 lQ (hn1 _ rfl) [] (by kernel_rfl)
 ·subst fK;have h0:=bM h0;refine .a [] T [(4,bE false)] ?_;cases h0;exact .rt hK
def sV (n:Nat) (a0:List Int) (a1:List Int):Option (Bool):=
 (if ¬(a0.length:Int)=(a1.length:Int) then some false else bI (bQ (fun(s5:Unit) (i4:Nat) (x7:Int)=>((gQ a1 (i4:Int)).bind fun e12=>(if ¬x7=e12 then some (Sum.inl false) else some (Sum.inr ())):Option (Bool⊕Unit))) 0 a0 ()) (fun(s5:Unit)=>some true))
theorem vg (n:Nat):∀(a0:List Int) (a1:List Int) {r:Bool},sV n a0 a1=some r→aF X.E 190 [lE 1 (ah a0),lE 1 (ah a1)] [] (bE r) []:=by
 intro a0 a1 r h0;rw[sV] at h0;refine .n Tryz.func190 (fun L ks low K hl hL hlen hK=>?_);refine .a [] T [] ?_;refine .a [.v (a0.length:Int),.v (a1.length:Int)] (A (aO.len' a0) (A (aO.len' a1) T)) [(10,dE (¬(a0.length:Int)=(a1.length:Int)))] ?_;refine .sn 0 aO a0 (by kernel_rfl) (fun hb1=>?_);refine .sn 1 aO a1 (by kernel_rfl) (fun hb2=>?_);refine .jP h0 (fun hc3 h0=>?_) (fun hc3 h0=>?_)
 ·refine .a [] T [(4,bE false)] ?_;cases h0;exact .rt hK
 ·refine .a [] T [(5,iE 0)] ?_;refine .lI h0 rfl [0,1] (fun i4 s5=>[(5,iE (i4:Int))]) n2 n2 [] (by kernel_rfl) (fun i4 s5 q6 hd8 UE h0=>?_);refine .a [.v (a0.length:Int)] (A (aO.len' a0) T) [(14,dE ((i4:Int)<(a0.length:Int)))] ?_;refine .lc hd8 rfl (by kernel_rfl) (fun x7 q62 bJ hx7 hd9 Ep=>?_) (fun bJ=>?_)
  ·subst bJ;obtain⟨y1,h1,hw1,hn1⟩:=bg h0;obtain⟨e12,zH,h1⟩:=bnd h1;refine .ad mixed [(2,[.cs [.v (.int .i64 x7)]]),(6,[.cs [.v (.int .i64 e12)]])] [] (A (aO.ji hx7) (A (aO.idx zH) T)) [(25,dE (¬x7=e12))] [] [] ?_;refine .jP h1 (fun hc13 h1=>?_) (fun hc13 h1=>?_)
   ·refine .a [] T [(4,bE false)] ?_;cases h1;cases hw1 _ rfl;exact .rt hK
   ·refine .a [.v ((i4+1:Nat):Int)] (A (wn (i:=i4) (by omega)) T) [(5,iE ((i4+1:Nat):Int))] ?_;cases h1;exact .nL rfl (i4+1) _ hd9 Ep (hn1 _ rfl) [] (by kernel_rfl)
  ·subst bJ;have h0:=bM h0;refine .a [] T [(4,bE true)] ?_;cases h0;exact .rt hK
def eX:Nat→Form→Form→Option (Bool)
 | 0,_,_=>none
 | n+1,a0,a1=>Option.bind ((if ¬a0.kind=a1.kind then some true else(if ¬a0.name=a1.name then some true else(if ¬a0.n=a1.n then some true else(sV n a0.scopes a1.scopes).bind fun k18=>(if(!k18)=true then some true else some (decide (¬(a0.kids.length:Int)=(a1.kids.length:Int))))))):Option (Bool)) (fun(o1:Bool)=>(if o1=true then some false else bI (bQ (fun(s4:Unit) (i3:Nat) (x6:Form)=>((gQ a1.kids (i3:Int)).bind fun e12=>(eX n x6 e12).bind fun k13=>(if(!k13)=true then some (Sum.inl false) else some (Sum.inr ())):Option (Bool⊕Unit))) 0 a0.kids ()) (fun(s4:Unit)=>some true)))
theorem gW (n:Nat):∀(a0:Form) (a1:Form) {r:Bool},eX n a0 a1=some r→aF X.E 168 [aE (ak a0),aE (ak a1)] [] (bE r) []:=by
 induction n with
 | zero=>intro a0 a1 r h; cases h
 | succ n ih=>
  intro a0 a1 r h0;rw[eX] at h0;refine .n Tryz.func168 (fun L ks low K hl hL hlen hK=>?_);refine .af [] T [(2,pw 2),(3,pw 3)] [.o 2 (.cells ((ak a0).map .d)),.o 3 (.cells ((ak a1).map .d))] ?_;refine .bP h0 rfl [2,3] (fun o1=>[(41,bE o1)]) n1 n1 (fun o1 h0=>?_) (fun y1 h1 hj1=>?_)
  ·refine .jT h0 (fun hc2 h0=>?_) (fun hc2 h0=>?_)
   ·refine .a [] T [(4,bE false)] ?_;cases h0;exact .rt hK
   ·refine .a [] T [(5,iE 0)] ?_;refine .lI h0 rfl [2,3] (fun i3 s4=>[(5,iE (i3:Int))]) n2 n2 [] (by kernel_rfl) (fun i3 s4 q5 hd7 hi9 h0=>?_);refine .a [.v (a0.kids.length:Int)] (A (aA.len' a0.kids) T) [(44,lE 5 (aj a0.kids)),(46,dE ((i3:Int)<(a0.kids.length:Int)))] ?_;refine .sn 44 aA a0.kids (by kernel_rfl) (fun Bd=>?_);refine .lc hd7 rfl (by kernel_rfl) (fun x6 Ov bJ hx6 hd8 kN=>?_) (fun bJ=>?_)
    ·subst bJ;obtain⟨y1,h1,hw1,hn1⟩:=bg h0;obtain⟨e12,zH,h1⟩:=bnd h1;obtain⟨k13,pq,h1⟩:=bnd h1;refine .ad mixed [(3,[.cs (ak x6)]),(8,[.cs (ak e12)]),(10,[.call [] (bE k13) []])] [] (A (aA.ji hx6) (A (aA.idx zH) (A (ih _ _ pq) T))) [(60,bE (!k13))] [] [] ?_;refine .jT h1 (fun nV h1=>?_) (fun nV h1=>?_)
     ·refine .a [] T [(4,bE false)] ?_;cases h1;cases hw1 _ rfl;exact .rt hK
     ·refine .a [.v ((i3+1:Nat):Int)] (A (wn (i:=i3) (by omega)) T) [(5,iE ((i3+1:Nat):Int))] ?_;cases h1;exact .nL rfl (i3+1) _ hd8 kN (hn1 _ rfl) [] (by kernel_rfl)
    ·subst bJ;have h0:=bM h0;refine .a [] T [(4,bE true)] ?_;cases h0;exact .rt hK
  ·by_cases g15:¬a0.kind=a1.kind
   ·have h1:=aI g15 h1;refine .a (rb 27 true []) (R 6 (dt g15) (R 21 B1 T)) [(41,bE true)] ?_;cases h1;exact .lg hj1 []
   ·have h1:=aJ g15 h1;by_cases g16:¬a0.name=a1.name
    ·have h1:=aI g16 h1;refine .a (rb 6 false (rb 21 true [])) (R 6 (df g15) (R 6 (dt g16) (R 15 B1 T))) [(41,bE true)] ?_;cases h1;exact .lg hj1 []
    ·have h1:=aJ g16 h1;by_cases g17:¬a0.n=a1.n
     ·have h1:=aI g17 h1;refine .a (rb 12 false (rb 15 true [])) (R 6 (df g15) (R 6 (df g16) (R 7 (dt g17) (R 8 B1 T)))) [(41,bE true)] ?_;cases h1;exact .lg hj1 []
     ·have h1:=aJ g17 h1;obtain⟨k18,nG,h1⟩:=bnd h1;by_cases g19:(!k18)=true
      ·have h1:=aI g19 h1;refine .a (rb 17 false (.call [] (bE k18) []::(.b false::(.b false::(rb 8 true []))))) (R 6 (df g15) (R 6 (df g16) (R 4 (df g17) (A (A (df g17) (vg n _ _ nG)) (R 2 (df g17) (R 8 g19 T)))))) [(41,bE true)] ?_;cases h1;exact .lg hj1 []
      ·have h1:=aJ g19 h1;refine .a (rb 17 false (.call [] (bE k18) []::(rb 5 false (.v (a0.kids.length:Int)::(rb 3 false [.v (a1.kids.length:Int),.b false,.b false]))))) (R 6 (df g15) (R 6 (df g16) (R 4 (df g17) (A (A (df g17) (vg n _ _ nG)) (R 2 (df g17) (R 2 (Bool.eq_false_iff.2 g19) (A (A (Bool.eq_false_iff.2 g19) (aA.len' a0.kids)) (R 2 (Bool.eq_false_iff.2 g19) (A (A (Bool.eq_false_iff.2 g19) (aA.len' a1.kids)) (R 2 (Bool.eq_false_iff.2 g19) T)))))))))) [(41,dE (¬(a0.kids.length:Int)=(a1.kids.length:Int)))] ?_;cases h1;exact .lg hj1 []
def kQ:Nat→Form→Option (Int)
 | 0,_=>none
 | n+1,a0=>Option.bind (dX (fun(s2:Int) (i1:Nat) (x4:Form)=>(kQ n x4).bind fun k10=>some (aY (s2+k10))) 0 a0.kids 1) (fun(s2:Int)=>some s2)
theorem Dz (n:Nat):∀(a0:Form) {r:Int},kQ n a0=some r→aF X.E 93 [aE (ak a0)] [] (iE r) []:=by
 induction n with
 | zero=>intro a0 r h; cases h
 | succ n ih=>
  intro a0 r h0;rw[kQ] at h0;refine .n Tryz.func93 (fun L ks low K hl hL hlen hK=>?_);refine .af [] T [(1,pw 1)] [.o 1 (.cells ((ak a0).map .d))] ?_;refine .a [] T [(3,iE 1)] ?_;refine .a [] T [(4,iE 0)] ?_;refine .lL h0 rfl [1] (fun i1 s2=>[(3,iE s2),(4,iE (i1:Int))]) n2 n2 [] (by kernel_rfl) (fun i1 s2 q3 hd5 PS h0=>?_);refine .a [.v (a0.kids.length:Int)] (A (aA.len' a0.kids) T) [(7,lE 5 (aj a0.kids)),(9,dE ((i1:Int)<(a0.kids.length:Int)))] ?_;refine .sn 7 aA a0.kids (by kernel_rfl) (fun hb8=>?_);refine .lc hd5 rfl (by kernel_rfl) (fun x4 q32 fK hx4 hd6 lQ=>?_) (fun fK=>?_)
  ·subst fK;obtain⟨y1,h1,hn1⟩:=dG h0;obtain⟨k10,hk10,h1⟩:=bnd h1;refine .a [.cs (ak x4),.call [] (iE k10) [],.pl] (A (aA.ji hx4) (A (ih _ hk10) T)) [(3,iE (aY (s2+k10)))] ?_;refine .a [.v ((i1+1:Nat):Int)] (A (wn (i:=i1) (by omega)) T) [(4,iE ((i1+1:Nat):Int))] ?_;cases h1;exact .nL rfl (i1+1) _ hd6 lQ hn1 [] (by kernel_rfl)
  ·subst fK;have h0:=dR h0;refine .a [] T [(2,iE s2)] ?_;cases h0;exact .rt hK
def qZ (n:Nat) (a0:Int) (a1:Bool):Option (Bool):=
 Option.bind ((if a0≥97 then(if a0≤122 then some true else(if a0=42 then some true else(if a0=63 then some true else(if a0=61 then some true else(if a0=43 then some true else some (decide (a0=60))))))) else(if a0=42 then some true else(if a0=63 then some true else(if a0=61 then some true else(if a0=43 then some true else some (decide (a0=60))))))):Option (Bool)) (fun(o1:Bool)=>(if o1=true then some true else Option.bind ((if(!a1)=true then(if a0≥48 then(if a0≤57 then some true else some (decide (a0=45))) else some (decide (a0=45))) else some false):Option (Bool)) (fun(o3:Bool)=>some o3)))
theorem Jy (n:Nat):∀(a0:Int) (a1:Bool) {r:Bool},qZ n a0 a1=some r→aF X.E 149 [.d (.v (.int .u8 a0)),bE a1] [] (bE r) []:=by
 intro a0 a1 r h0;rw[qZ] at h0;refine .n Tryz.func149 (fun L ks low K hl hL hlen hK=>?_);refine .a [] T [] ?_;refine .bP h0 rfl [0,1] (fun o1=>[(30,bE o1)]) n1 n1 (fun o1 h0=>?_) (fun y1 h1 hj1=>?_)
 ·refine .jT h0 (fun hc2 h0=>?_) (fun hc2 h0=>?_)
  ·refine .a [] T [(4,bE true)] ?_;cases h0;exact .rt hK
  ·refine .bP h0 rfl [] (fun o3=>[(4,bE o3)]) n1 n1 (fun o3 h0=>?_) (fun y1 h1 hj1=>?_)
   ·cases h0;exact .rt hK
   ·by_cases g4:(!a1)=true
    ·have h1:=aI g4 h1;by_cases g5:a0≥48
     ·have h1:=aI g5 h1;by_cases g6:a0≤57
      ·have h1:=aI g6 h1;refine .a (rb 13 true []) (R 3 g4 (R 2 (dt g5) (A (A g4 (dt g5)) (A g4 (R 2 (dt g6) (A (A g4 (dt g6)) (A g4 T))))))) [(4,bE true)] ?_;cases h1;exact .lg hj1 []
      ·have h1:=aJ g6 h1;refine .a (rb 8 true [.b false,.b false,.b true,.b false,.b true]) (R 3 g4 (R 2 (dt g5) (A (A g4 (dt g5)) (A g4 (R 2 (df g6) (A (A g4 (df g6)) (A g4 T))))))) [(4,dE (a0=45))] ?_;cases h1;exact .lg hj1 []
     ·have h1:=aJ g5 h1;refine .a (rb 3 true [.b false,.b false,.b true,.b false,.b true,.b false,.b false,.b true,.b false,.b true]) (R 3 g4 (R 2 (df g5) (A (A g4 (df g5)) (A g4 (R 2 B0 (A (A g4 B0) (A g4 T))))))) [(4,dE (a0=45))] ?_;cases h1;exact .lg hj1 []
    ·have h1:=aJ g4 h1;refine .a (rb 7 false []) (R 7 (Bool.eq_false_iff.2 g4) T) [(4,bE false)] ?_;cases h1;exact .lg hj1 []
 ·by_cases g7:a0≥97
  ·have h1:=aI g7 h1;by_cases g8:a0≤122
   ·have h1:=aI g8 h1;refine .a (rb 18 true []) (R 3 (dt g7) (R 3 (dt g8) (R 12 B1 T))) [(30,bE true)] ?_;cases h1;exact .lg hj1 []
   ·have h1:=aJ g8 h1;by_cases g9:a0=42
    ·have h1:=aI g9 h1;refine .a (rb 3 true (rb 3 false (rb 12 true []))) (R 3 (dt g7) (R 3 (df g8) (R 3 (dt g9) (R 9 B1 T)))) [(30,bE true)] ?_;cases h1;exact .lg hj1 []
    ·have h1:=aJ g9 h1;by_cases g10:a0=63
     ·have h1:=aI g10 h1;refine .a (rb 3 true (rb 6 false (rb 9 true []))) (R 3 (dt g7) (R 3 (df g8) (R 3 (df g9) (R 3 (dt g10) (R 6 B1 T))))) [(30,bE true)] ?_;cases h1;exact .lg hj1 []
     ·have h1:=aJ g10 h1;by_cases g11:a0=61
      ·have h1:=aI g11 h1;refine .a (rb 3 true (rb 9 false (rb 6 true []))) (R 3 (dt g7) (R 3 (df g8) (R 3 (df g9) (R 3 (df g10) (R 3 (dt g11) (R 3 B1 T)))))) [(30,bE true)] ?_;cases h1;exact .lg hj1 []
      ·have h1:=aJ g11 h1;by_cases g12:a0=43
       ·have h1:=aI g12 h1;refine .a (rb 3 true (rb 12 false (rb 3 true []))) (R 3 (dt g7) (R 3 (df g8) (R 3 (df g9) (R 3 (df g10) (R 3 (df g11) (R 3 (dt g12) T)))))) [(30,bE true)] ?_;cases h1;exact .lg hj1 []
       ·have h1:=aJ g12 h1;refine .a (rb 3 true (rb 15 false [])) (R 3 (dt g7) (R 3 (df g8) (R 3 (df g9) (R 3 (df g10) (R 3 (df g11) (R 3 (df g12) T)))))) [(30,dE (a0=60))] ?_;cases h1;exact .lg hj1 []
  ·have h1:=aJ g7 h1;by_cases g13:a0=42
   ·have h1:=aI g13 h1;refine .a (rb 6 false (rb 12 true [])) (R 3 (df g7) (R 3 B0 (R 3 (dt g13) (R 9 B1 T)))) [(30,bE true)] ?_;cases h1;exact .lg hj1 []
   ·have h1:=aJ g13 h1;by_cases g14:a0=63
    ·have h1:=aI g14 h1;refine .a (rb 9 false (rb 9 true [])) (R 3 (df g7) (R 3 B0 (R 3 (df g13) (R 3 (dt g14) (R 6 B1 T))))) [(30,bE true)] ?_;cases h1;exact .lg hj1 []
    ·have h1:=aJ g14 h1;by_cases g15:a0=61
     ·have h1:=aI g15 h1;refine .a (rb 12 false (rb 6 true [])) (R 3 (df g7) (R 3 B0 (R 3 (df g13) (R 3 (df g14) (R 3 (dt g15) (R 3 B1 T)))))) [(30,bE true)] ?_;cases h1;exact .lg hj1 []
     ·have h1:=aJ g15 h1;by_cases g16:a0=43
      ·have h1:=aI g16 h1;refine .a (rb 15 false (rb 3 true [])) (R 3 (df g7) (R 3 B0 (R 3 (df g13) (R 3 (df g14) (R 3 (df g15) (R 3 (dt g16) T)))))) [(30,bE true)] ?_;cases h1;exact .lg hj1 []
      ·have h1:=aJ g16 h1;refine .a (rb 18 false []) (R 3 (df g7) (R 3 B0 (R 3 (df g13) (R 3 (df g14) (R 3 (df g15) (R 3 (df g16) T)))))) [(30,dE (a0=60))] ?_;cases h1;exact .lg hj1 []
def jc (n:Nat) (a0:List UInt8):Option (Bool):=
 Option.bind ((if a0=[46,46,46] then some true else some (decide (a0=[95]))):Option (Bool)) (fun(o1:Bool)=>(if o1=true then some true else iterM n (fun(s3:Int)=>(Option.bind ((if s3<(a0.length:Int) then some (decide (s3≤12)) else some false):Option (Bool)) (fun(o5:Bool)=>(if o5=true then(gQ a0 s3).bind fun y7=>(qZ n (y7.toNat:Int) (decide (s3=0))).bind fun k8=>(if(!k8)=true then some (Sum.inl false) else some (Sum.inr (aY (s3+1)))) else Option.bind ((if(a0.length:Int)≥1 then some (decide ((a0.length:Int)≤12)) else some false):Option (Bool)) (fun(nD:Bool)=>some (Sum.inl nD)))):Option (Bool⊕Int))) 0))
theorem dD (n:Nat):∀(a0:List UInt8) {r:Bool},jc n a0=some r→aF X.E 123 [sE a0] [] (bE r) []:=by
 intro a0 r h0;rw[jc] at h0;refine .n Tryz.func123 (fun L ks low K hl hL hlen hK=>?_);refine .a [] T [] ?_;refine .bP h0 rfl [0] (fun o1=>[(9,bE o1)]) n1 n1 (fun o1 h0=>?_) (fun y1 h1 hj1=>?_)
 ·refine .jT h0 (fun hc2 h0=>?_) (fun hc2 h0=>?_)
  ·refine .a [] T [(2,bE true)] ?_;cases h0;exact .rt hK
  ·refine .a [] T [(3,iE 0)] ?_;refine .it h0 rfl [0] (fun s3=>[(3,iE s3)]) n1 n1 [] (by kernel_rfl) (fun nk4 s3 h0=>?_);obtain⟨y1,h1,hw1,hn1⟩:=bT h0;refine .bP h1 rfl [0,3] (fun o5=>[(17,bE o5)]) n1 n1 (fun o5 h1=>?_) (fun y2 h2 hj2=>?_)
   ·refine .jT h1 (fun hc6 h1=>?_) (fun hc6 h1=>?_)
    ·obtain⟨y7,hy7,h1⟩:=bnd h1;obtain⟨k8,hk8,h1⟩:=bnd h1;refine .a [.AY y7,.call [] (bE k8) []] (A (Bv hy7) (A (Jy n _ _ hk8) T)) [(26,bE (!k8))] ?_;refine .jT h1 (fun fK h1=>?_) (fun fK h1=>?_)
     ·refine .a [] T [(2,bE false)] ?_;cases h1;cases hw1 _ rfl;exact .rt hK
     ·refine .a [.pl] T [(3,iE (aY (s3+1)))] ?_;cases h1;exact .nI rfl _ (hn1 _ rfl) [] (by kernel_rfl)
    ·refine .bP h1 rfl [] (fun nD=>[(2,bE nD)]) n1 n1 (fun nD h1=>?_) (fun y2 h2 hj2=>?_)
     ·cases h1;cases hw1 _ rfl;exact .rt hK
     ·by_cases g11:(a0.length:Int)≥1
      ·have h2:=aI g11 h2;refine .a (rb 4 true []) (R 4 (dt g11) T) [(2,dE ((a0.length:Int)≤12))] ?_;cases h2;exact .lg hj2 []
      ·have h2:=aJ g11 h2;refine .a (rb 4 false []) (R 4 (df g11) T) [(2,bE false)] ?_;cases h2;exact .lg hj2 []
   ·by_cases g12:s3<(a0.length:Int)
    ·have h2:=aI g12 h2;refine .a (rb 3 true []) (R 3 (dt g12) T) [(17,dE (s3≤12))] ?_;cases h2;exact .lg hj2 []
    ·have h2:=aJ g12 h2;refine .a (rb 3 false []) (R 3 (df g12) T) [(17,bE false)] ?_;cases h2;exact .lg hj2 []
 ·by_cases g13:a0=[46,46,46]
  ·have h1:=aI g13 h1;refine .a (rb 3 true []) (R 3 (dt g13) T) [(9,bE true)] ?_;cases h1;exact .lg hj1 []
  ·have h1:=aJ g13 h1;refine .a (rb 3 false []) (R 3 (df g13) T) [(9,dE (a0=[95]))] ?_;cases h1;exact .lg hj1 []
def kR (n:Nat) (a0:List Int):Option (Bool):=
 iterM n (fun(s1:Int)=>(Option.bind ((if s1<(a0.length:Int) then some (decide (s1≤24)) else some false):Option (Bool)) (fun(o3:Bool)=>(if o3=true then Option.bind ((gQ a0 s1).bind fun e7=>(if e7<1 then some true else(if e7>99 then some true else(if s1>0 then(gQ a0 (aY (s1-1))).bind fun e11=>some (decide (e7≤e11)) else some false))):Option (Bool)) (fun(o5:Bool)=>(if o5=true then some (Sum.inl false) else some (Sum.inr (aY (s1+1))))) else some (Sum.inl (decide ((a0.length:Int)≤24))))):Option (Bool⊕Int))) 0
theorem iD (n:Nat):∀(a0:List Int) {r:Bool},kR n a0=some r→aF X.E 124 [lE 1 (ah a0)] [] (bE r) []:=by
 intro a0 r h0;rw[kR] at h0;refine .n Tryz.func124 (fun L ks low K hl hL hlen hK=>?_);refine .a [] T [] ?_;refine .a [] T [(3,iE 0)] ?_;refine .it h0 rfl [0] (fun s1=>[(3,iE s1)]) n1 n1 [] (by kernel_rfl) (fun Xf s1 h0=>?_);obtain⟨y1,h1,hw1,hn1⟩:=bT h0;refine .bP h1 rfl [0,3] (fun o3=>[(11,bE o3)]) n1 n1 (fun o3 h1=>?_) (fun y2 h2 hj2=>?_)
 ·refine .jT h1 (fun hc4 h1=>?_) (fun hc4 h1=>?_)
  ·refine .bP h1 rfl [0,3] (fun o5=>[(41,bE o5)]) n1 n1 (fun o5 h1=>?_) (fun y2 h2 hj2=>?_)
   ·refine .jT h1 (fun hc6 h1=>?_) (fun hc6 h1=>?_)
    ·refine .a [] T [(2,bE false)] ?_;cases h1;cases hw1 _ rfl;exact .rt hK
    ·refine .a [.pl] T [(3,iE (aY (s1+1)))] ?_;cases h1;exact .nI rfl _ (hn1 _ rfl) [] (by kernel_rfl)
   ·obtain⟨e7,Fa,h2⟩:=bnd h2;by_cases g8:e7<1
    ·have h2:=aI g8 h2;refine .ad mixed ((2,[.cs [.v (.int .i64 e7)]])::(qb 6 6 true (qb 13 3 true (qb 26 2 true [])))) [] (A (aO.idx Fa) (R 6 (dt g8) (R 5 B1 T))) [(41,bE true)] [] [] ?_;cases h2;exact .lg hj2 []
    ·have h2:=aJ g8 h2;by_cases g9:e7>99
     ·have h2:=aI g9 h2;refine .ad mixed ((2,[.cs [.v (.int .i64 e7)]])::(qb 6 2 false ((8,[.b false,.cs [.v (.int .i64 e7)]])::(qb 9 3 false (qb 13 3 true (qb 26 2 true [])))))) [] (A (aO.idx Fa) (R 2 (df g8) (A (A (df g8) (aO.idx Fa)) (R 3 (df g8) (R 5 (dt g9) T))))) [(41,bE true)] [] [] ?_;cases h2;exact .lg hj2 []
     ·have h2:=aJ g9 h2;by_cases g10:s1>0
      ·have h2:=aI g10 h2;obtain⟨e11,abe,h2⟩:=bnd h2;refine .ad mixed ((2,[.cs [.v (.int .i64 e7)]])::(qb 6 2 false ((8,[.b false,.cs [.v (.int .i64 e7)]])::(qb 9 3 false (qb 13 3 false (qb 16 2 true ((18,[.b true,.cs [.v (.int .i64 e7)]])::(qb 19 3 true ((22,[.b true,.pl])::((23,[.b true,.cs [.v (.int .i64 e11)]])::(qb 24 2 true [(26,[.b false,.b true]),(27,[.b false])]))))))))))) [] (A (aO.idx Fa) (R 2 (df g8) (A (A (df g8) (aO.idx Fa)) (R 3 (df g8) (R 3 (df g9) (R 2 (dt g10) (A (A (dt g10) (aO.idx Fa)) (R 4 (dt g10) (A (A (dt g10) (aO.idx abe)) (R 2 (dt g10) (A (A (df g9) (dt g10)) (A (df g9) T)))))))))))) [(41,dE (e7≤e11))] [] [] ?_;cases h2;exact .lg hj2 []
      ·have h2:=aJ g10 h2;refine .ad mixed ((2,[.cs [.v (.int .i64 e7)]])::(qb 6 2 false ((8,[.b false,.cs [.v (.int .i64 e7)]])::(qb 9 3 false (qb 13 13 false [(26,[.b false,.b false]),(27,[.b false])]))))) [] (A (aO.idx Fa) (R 2 (df g8) (A (A (df g8) (aO.idx Fa)) (R 3 (df g8) (R 3 (df g9) (R 10 (df g10) (A (A (df g9) (df g10)) (A (df g9) T)))))))) [(41,bE false)] [] [] ?_;cases h2;exact .lg hj2 []
  ·refine .a [.v (a0.length:Int)] (A (aO.len' a0) T) [(2,dE ((a0.length:Int)≤24))] ?_;refine .sn 0 aO a0 (by kernel_rfl) (fun ae9=>?_);cases h1;cases hw1 _ rfl;exact .rt hK
 ·by_cases g13:s1<(a0.length:Int)
  ·have h2:=aI g13 h2;refine .a (.v (a0.length:Int)::(rb 3 true [])) (A (aO.len' a0) (R 3 (dt g13) T)) [(11,dE (s1≤24))] ?_;refine .sn 0 aO a0 (by kernel_rfl) (fun adv=>?_);cases h2;exact .lg hj2 []
  ·have h2:=aJ g13 h2;refine .a (.v (a0.length:Int)::(rb 3 false [])) (A (aO.len' a0) (R 3 (df g13) T)) [(11,bE false)] ?_;refine .sn 0 aO a0 (by kernel_rfl) (fun ag1=>?_);cases h2;exact .lg hj2 []
def xX:Nat→Form→Int→Option (Bool)
 | 0,_,_=>none
 | n+1,a0,a1=>(if a1=0 then some false else(if a0.kind=1 then Option.bind ((jc n a0.name).bind fun k4=>(if k4=true then(if a0.n=0 then(kR n a0.scopes).bind fun k7=>(if k7=true then some (decide ((a0.kids.length:Int)=0)) else some false) else some false) else some false):Option (Bool)) (fun(o3:Bool)=>some o3) else(if a0.kind=2 then Option.bind ((if a0.name=[] then(if a0.n≥0 then(if a0.n≤999 then(if(a0.scopes.length:Int)=0 then some (decide ((a0.kids.length:Int)=0)) else some false) else some false) else some false) else some false):Option (Bool)) (fun(nD:Bool)=>some nD) else Option.bind ((if ¬a0.kind=3 then some true else(if ¬a0.name=[] then some true else(if ¬a0.n=0 then some true else some (decide (¬(a0.scopes.length:Int)=0))))):Option (Bool)) (fun(AL:Bool)=>(if AL=true then some false else bI (bQ (fun(s18:Unit) (i17:Nat) (x20:Form)=>((xX n x20 (aY (a1-1))).bind fun k26=>(if(!k26)=true then some (Sum.inl false) else some (Sum.inr ())):Option (Bool⊕Unit))) 0 a0.kids ()) (fun(s18:Unit)=>some true))))))
theorem Ko (n:Nat):∀(a0:Form) (a1:Int) {r:Bool},xX n a0 a1=some r→aF X.E 92 [aE (ak a0),iE a1] [] (bE r) []:=by
 induction n with
 | zero=>intro a0 a1 r h; cases h
 | succ n ih=>
  intro a0 a1 r h0;rw[xX] at h0;refine .n Tryz.func92 (fun L ks low K hl hL hlen hK=>?_);refine .af [] T [(2,pw 2)] [.o 2 (.cells ((ak a0).map .d))] ?_;refine .a [] T [(7,dE (a1=0))] ?_;refine .jP h0 (fun hc1 h0=>?_) (fun hc1 h0=>?_)
  ·refine .a [] T [(4,bE false)] ?_;cases h0;exact .rt hK
  ·refine .a [] T [(9,iE a0.kind)] ?_;refine .a [] T [(10,dE (a0.kind=1))] ?_;refine .jP h0 (fun hc2 h0=>?_) (fun hc2 h0=>?_)
   ·refine .bP h0 rfl [] (fun o3=>[(4,bE o3)]) n1 n1 (fun o3 h0=>?_) (fun y1 h1 hj1=>?_)
    ·cases h0;exact .rt hK
    ·obtain⟨k4,hk4,h1⟩:=bnd h1;by_cases g5:k4=true
     ·have h1:=aI g5 h1;by_cases g6:a0.n=0
      ·have h1:=aI g6 h1;obtain⟨k7,Ja,h1⟩:=bnd h1;by_cases g8:k7=true
       ·have h1:=aI g8 h1;refine .a (.call [] (bE k4) []::(rb 7 true (.call [] (bE k7) []::(rb 4 true [.v (a0.kids.length:Int),.b true,.b true])))) (A (dD n _ hk4) (R 4 g5 (R 2 (dt g6) (A (A (dt g6) (iD n _ Ja)) (A (dt g6) (R 2 g8 (A (A g8 (aA.len' a0.kids)) (R 2 g8 T)))))))) [(4,dE ((a0.kids.length:Int)=0))] ?_;cases h1;exact .lg hj1 []
       ·have h1:=aJ g8 h1;refine .a (.call [] (bE k4) []::(rb 7 true (.call [] (bE k7) []::(.b true::(rb 5 false []))))) (A (dD n _ hk4) (R 4 g5 (R 2 (dt g6) (A (A (dt g6) (iD n _ Ja)) (A (dt g6) (R 5 (Bool.eq_false_iff.2 g8) T)))))) [(4,bE false)] ?_;cases h1;exact .lg hj1 []
      ·have h1:=aJ g6 h1;refine .a (.call [] (bE k4) []::(rb 4 true (rb 9 false []))) (A (dD n _ hk4) (R 4 g5 (R 4 (df g6) (R 5 B0 T)))) [(4,bE false)] ?_;cases h1;exact .lg hj1 []
     ·have h1:=aJ g5 h1;refine .a (.call [] (bE k4) []::(rb 13 false [])) (A (dD n _ hk4) (R 4 (Bool.eq_false_iff.2 g5) (R 9 B0 T))) [(4,bE false)] ?_;cases h1;exact .lg hj1 []
   ·refine .a [] T [(31,dE (a0.kind=2))] ?_;refine .jP h0 (fun fK h0=>?_) (fun fK h0=>?_)
    ·refine .bP h0 rfl [] (fun nD=>[(4,bE nD)]) n1 n1 (fun nD h0=>?_) (fun y1 h1 hj1=>?_)
     ·cases h0;exact .rt hK
     ·by_cases g11:a0.name=[]
      ·have h1:=aI g11 h1;by_cases g12:a0.n≥0
       ·have h1:=aI g12 h1;by_cases g13:a0.n≤999
        ·have h1:=aI g13 h1;by_cases g14:(a0.scopes.length:Int)=0
         ·have h1:=aI g14 h1;refine .a (rb 11 true (.v (a0.scopes.length:Int)::(rb 5 true [.v (a0.kids.length:Int),.b true,.b true]))) (R 4 (dt g11) (R 4 (dt g12) (R 2 (dt g13) (A (A (dt g13) (aO.len' a0.scopes)) (R 2 (dt g13) (R 2 (dt g14) (A (A (dt g14) (aA.len' a0.kids)) (R 2 (dt g14) T)))))))) [(4,dE ((a0.kids.length:Int)=0))] ?_;cases h1;exact .lg hj1 []
         ·have h1:=aJ g14 h1;refine .a (rb 11 true (.v (a0.scopes.length:Int)::(.b true::(.b true::(rb 5 false []))))) (R 4 (dt g11) (R 4 (dt g12) (R 2 (dt g13) (A (A (dt g13) (aO.len' a0.scopes)) (R 2 (dt g13) (R 5 (df g14) T)))))) [(4,bE false)] ?_;cases h1;exact .lg hj1 []
        ·have h1:=aJ g13 h1;refine .a (rb 8 true (rb 10 false [])) (R 4 (dt g11) (R 4 (dt g12) (R 5 (df g13) (R 5 B0 T)))) [(4,bE false)] ?_;cases h1;exact .lg hj1 []
       ·have h1:=aJ g12 h1;refine .a (rb 4 true (rb 14 false [])) (R 4 (dt g11) (R 4 (df g12) (R 10 B0 T))) [(4,bE false)] ?_;cases h1;exact .lg hj1 []
      ·have h1:=aJ g11 h1;refine .a (rb 18 false []) (R 4 (df g11) (R 14 B0 T)) [(4,bE false)] ?_;cases h1;exact .lg hj1 []
    ·refine .bP h0 rfl [1,2] (fun AL=>[(76,bE AL)]) n1 n1 (fun AL h0=>?_) (fun y1 h1 hj1=>?_)
     ·refine .jT h0 (fun hc16 h0=>?_) (fun hc16 h0=>?_)
      ·refine .a [] T [(4,bE false)] ?_;cases h0;exact .rt hK
      ·refine .a [] T [(5,iE 0)] ?_;refine .lI h0 rfl [1,2] (fun i17 s18=>[(5,iE (i17:Int))]) n2 n2 [] (by kernel_rfl) (fun i17 s18 q19 abg afa h0=>?_);refine .a [.v (a0.kids.length:Int)] (A (aA.len' a0.kids) T) [(79,lE 5 (aj a0.kids)),(81,dE ((i17:Int)<(a0.kids.length:Int)))] ?_;refine .sn 79 aA a0.kids (by kernel_rfl) (fun adw=>?_);refine .lc abg rfl (by kernel_rfl) (fun x20 afb hc25 Ze abh Xg=>?_) (fun hc25=>?_)
       ·subst hc25;obtain⟨y1,h1,hw1,hn1⟩:=bg h0;obtain⟨k26,Et,h1⟩:=bnd h1;refine .a [.cs (ak x20),.pl,.call [] (bE k26) []] (A (aA.ji Ze) (A (ih _ _ Et) T)) [(92,bE (!k26))] ?_;refine .jT h1 (fun hc27 h1=>?_) (fun hc27 h1=>?_)
        ·refine .a [] T [(4,bE false)] ?_;cases h1;cases hw1 _ rfl;exact .rt hK
        ·refine .a [.v ((i17+1:Nat):Int)] (A (wn (i:=i17) (by omega)) T) [(5,iE ((i17+1:Nat):Int))] ?_;cases h1;exact .nL rfl (i17+1) _ abh Xg (hn1 _ rfl) [] (by kernel_rfl)
       ·subst hc25;have h0:=bM h0;refine .a [] T [(4,bE true)] ?_;cases h0;exact .rt hK
     ·by_cases sD:¬a0.kind=3
      ·have h1:=aI sD h1;refine .a (rb 13 true []) (R 4 (dt sD) (R 9 B1 T)) [(76,bE true)] ?_;cases h1;exact .lg hj1 []
      ·have h1:=aJ sD h1;by_cases zL:¬a0.name=[]
       ·have h1:=aI zL h1;refine .a (rb 4 false (rb 9 true [])) (R 4 (df sD) (R 4 (dt zL) (R 5 B1 T))) [(76,bE true)] ?_;cases h1;exact .lg hj1 []
       ·have h1:=aJ zL h1;by_cases jJ:¬a0.n=0
        ·have h1:=aI jJ h1;refine .a (rb 8 false (rb 5 true [])) (R 4 (df sD) (R 4 (df zL) (R 5 (dt jJ) T))) [(76,bE true)] ?_;cases h1;exact .lg hj1 []
        ·have h1:=aJ jJ h1;refine .a (rb 11 false [.v (a0.scopes.length:Int),.b false,.b false]) (R 4 (df sD) (R 4 (df zL) (R 2 (df jJ) (A (A (df jJ) (aO.len' a0.scopes)) (R 2 (df jJ) T))))) [(76,dE (¬(a0.scopes.length:Int)=0))] ?_;cases h1;exact .lg hj1 []
def bV (n:Nat) (a0:Form):Option (Bool):=
 Option.bind ((xX n a0 40).bind fun k2=>(if k2=true then(kQ n a0).bind fun k4=>some (decide (k4≤400)) else some false):Option (Bool)) (fun(o1:Bool)=>some o1)
theorem aT (n:Nat):∀(a0:Form) {r:Bool},bV n a0=some r→aF X.E 44 [aE (ak a0)] [] (bE r) []:=by
 intro a0 r h0;rw[bV] at h0;refine .n Tryz.func44 (fun L ks low K hl hL hlen hK=>?_);refine .af [] T [(1,pw 1)] [.o 1 (.cells ((ak a0).map .d))] ?_;refine .bP h0 rfl [] (fun o1=>[(2,bE o1)]) n1 n1 (fun o1 h0=>?_) (fun y1 h1 hj1=>?_)
 ·cases h0;exact .rt hK
 ·obtain⟨k2,hk2,h1⟩:=bnd h1;by_cases g3:k2=true
  ·have h1:=aI g3 h1;obtain⟨k4,hk4,h1⟩:=bnd h1;refine .a [.call [] (bE k2) [],.b true,.b true,.call [] (iE k4) [],.b true,.b true] (A (Ko n _ _ hk2) (A g3 (A (A g3 (Dz n _ hk4)) (R 2 g3 T)))) [(2,dE (k4≤400))] ?_;cases h1;exact .lg hj1 []
  ·have h1:=aJ g3 h1;refine .a (.call [] (bE k2) []::(rb 4 false [])) (A (Ko n _ _ hk2) (R 4 (Bool.eq_false_iff.2 g3) T)) [(2,bE false)] ?_;cases h1;exact .lg hj1 []
def gX:Nat→Form→Option (Form)
 | 0,_=>none
 | n+1,a0=>Option.bind (dX (fun(s2:List Form) (i1:Nat) (x4:Form)=>(gX n x4).bind fun k10=>(jy 80 s2 [k10]).bind fun z11=>some z11) 0 a0.kids []) (fun(s2:List Form)=>some (⟨a0.kind,a0.name,a0.n,[],s2⟩:Form))
theorem pI (n:Nat):∀(a0:Form) {r:Form},gX n a0=some r→aF X.E 169 [aE (ak a0)] [] (aE (ak r)) []:=by
 induction n with
 | zero=>intro a0 r h; cases h
 | succ n ih=>
  intro a0 r h0;rw[gX] at h0;refine .n Tryz.func169 (fun L ks low K hl hL hlen hK=>?_);refine .af [] T [(1,pw 1),(2,pw 2)] [.o 1 (.cells ((ak a0).map .d)),.o 2 (.cells [iE 0,sE [],iE 0,fE 1 (ah []),fE 5 (aj [])])] ?_;refine .af [] T [(3,pw 3)] [.o 3 (.cells [iE a0.kind,sE a0.name,iE a0.n,fE 1 (ah []),fE 5 (aj [])])] ?_;refine .a [] T [(4,iE 0)] ?_;refine .oc 3 4 100028 33 (by kernel_rfl) ?_;refine .lL h0 rfl [1,2,3] (fun i1 s2=>[(4,iE (i1:Int))]) (fun i1 s2=>[.c 3 4 (.gs (.own 100028) 5 (aj s2)),.o 100028 (.tok (aj s2).length 33)]) n2 [] (by kernel_rfl) (fun i1 s2 q3 hd5 PS h0=>?_);refine .a [.v (a0.kids.length:Int)] (A (aA.len' a0.kids) T) [(14,lE 5 (aj a0.kids)),(16,dE ((i1:Int)<(a0.kids.length:Int)))] ?_;refine .sn 14 aA a0.kids (by kernel_rfl) (fun hb8=>?_);refine .lc hd5 rfl (by kernel_rfl) (fun x4 q32 fK hx4 hd6 lQ=>?_) (fun fK=>?_)
  ·subst fK;obtain⟨y1,h1,hn1⟩:=dG h0;obtain⟨k10,hk10,h1⟩:=bnd h1;obtain⟨z11,Cc,h1⟩:=bnd h1;refine .ad mixed [(5,[.cs (ak x4)]),(7,[.call [] (aE (ak k10)) []]),(8,[.sv (aj [k10])]),(9,[.sv (aj z11)])] [((aj s2).length:Int)] (A (aA.ji hx4) (A (ih _ hk10) (A (aA.lit [k10]) (A (aA.ap Cc) T)))) [] [.c 3 4 (.gs (.own 100028) 5 (aj z11)),.o 100028 (.tok (aj z11).length 33)] [] ?_;refine .a [.v ((i1+1:Nat):Int)] (A (wn (i:=i1) (by omega)) T) [(4,iE ((i1+1:Nat):Int))] ?_;cases h1;exact .nL rfl (i1+1) _ hd6 lQ hn1 [] (by kernel_rfl)
  ·subst fK;have h0:=dR h0;refine .af [] T [] [.c 2 0 (iE a0.kind),.c 2 1 (sE a0.name),.c 2 2 (iE a0.n),.c 2 4 (.gs (.own 100028) 5 (aj s2))] ?_;cases h0;exact .rt hK
def ru (n:Nat) (a0:Core):Option (Bool):=
 Option.bind ((if a0.kind=1 then(if a0.id<1 then some true else(if a0.id>999 then some true else(if ¬a0.kind=1 then some (decide (¬a0.id=0)) else some false))) else(if ¬a0.kind=1 then some (decide (¬a0.id=0)) else some false)):Option (Bool)) (fun(o1:Bool)=>(if o1=true then some false else Option.bind ((if a0.kind=2 then(jc n a0.name).bind fun k27=>(if(!k27)=true then some true else(if ¬a0.kind=2 then some (decide (¬a0.name=[])) else some false)) else(if ¬a0.kind=2 then some (decide (¬a0.name=[])) else some false)):Option (Bool)) (fun(o3:Bool)=>(if o3=true then some false else Option.bind ((if a0.kind=3 then(if a0.n<0 then some true else(if a0.n>999 then some true else(if ¬a0.kind=3 then some (decide (¬a0.n=0)) else some false))) else(if ¬a0.kind=3 then some (decide (¬a0.n=0)) else some false)):Option (Bool)) (fun(o5:Bool)=>(if o5=true then some false else Option.bind ((if a0.kind=4 then(bV n a0.data).bind fun k12=>(if(!k12)=true then some true else(gX n a0.data).bind fun k14=>(eX n k14 a0.data).bind fun k15=>(if(!k15)=true then some true else(if ¬a0.kind=4 then(eX n a0.data (⟨0,[],0,[],[]⟩:Form)).bind fun k18=>some (!k18) else some false))) else(if ¬a0.kind=4 then(eX n a0.data (⟨0,[],0,[],[]⟩:Form)).bind fun k20=>some (!k20) else some false)):Option (Bool)) (fun(o7:Bool)=>(if o7=true then some false else Option.bind ((if a0.kind=5 then some true else some (decide ((a0.ids.length:Int)=0))):Option (Bool)) (fun(o9:Bool)=>some o9)))))))))
theorem vK (n:Nat):∀(a0:Core) {r:Bool},ru n a0=some r→aF X.E 138 [aE (aN a0)] [] (bE r) []:=by
 intro a0 r h0;rw[ru] at h0;refine .n Tryz.func138 (fun L ks low K hl hL hlen hK=>?_);refine .af [] T [(1,pw 1)] [.o 1 (.cells ((aN a0).map .d))] ?_;refine .bP h0 rfl [1] (fun o1=>[(25,bE o1)]) n1 n1 (fun o1 h0=>?_) (fun y1 h1 hj1=>?_)
 ·refine .jT h0 (fun hc2 h0=>?_) (fun hc2 h0=>?_)
  ·refine .a [] T [(2,bE false)] ?_;cases h0;exact .rt hK
  ·refine .bP h0 rfl [1] (fun o3=>[(44,bE o3)]) n1 n1 (fun o3 h0=>?_) (fun y1 h1 hj1=>?_)
   ·refine .jT h0 (fun hc4 h0=>?_) (fun hc4 h0=>?_)
    ·refine .a [] T [(2,bE false)] ?_;cases h0;exact .rt hK
    ·refine .bP h0 rfl [1] (fun o5=>[(67,bE o5)]) n1 n1 (fun o5 h0=>?_) (fun y1 h1 hj1=>?_)
     ·refine .jT h0 (fun hc6 h0=>?_) (fun hc6 h0=>?_)
      ·refine .a [] T [(2,bE false)] ?_;cases h0;exact .rt hK
      ·refine .bP h0 rfl [1] (fun o7=>[(97,bE o7)]) n1 n1 (fun o7 h0=>?_) (fun y1 h1 hj1=>?_)
       ·refine .jT h0 (fun hc8 h0=>?_) (fun hc8 h0=>?_)
        ·refine .a [] T [(2,bE false)] ?_;cases h0;exact .rt hK
        ·refine .bP h0 rfl [] (fun o9=>[(2,bE o9)]) n1 n1 (fun o9 h0=>?_) (fun y1 h1 hj1=>?_)
         ·cases h0;exact .rt hK
         ·by_cases g10:a0.kind=5
          ·have h1:=aI g10 h1;refine .a (rb 5 true []) (R 5 (dt g10) T) [(2,bE true)] ?_;cases h1;exact .lg hj1 []
          ·have h1:=aJ g10 h1;refine .a (rb 3 false [.v (a0.ids.length:Int),.b false,.b false]) (R 2 (df g10) (A (A (df g10) (aO.len' a0.ids)) (R 2 (df g10) T))) [(2,dE ((a0.ids.length:Int)=0))] ?_;cases h1;exact .lg hj1 []
       ·by_cases g11:a0.kind=4
        ·have h1:=aI g11 h1;obtain⟨k12,hk12,h1⟩:=bnd h1;by_cases g13:(!k12)=true
         ·have h1:=aI g13 h1;refine .ad mixed (qb 4 2 true ((6,[.b true,.call [] (bE k12) []])::(qb 7 9 true ((16,[.b true,.b true])::((17,[.b true])::(qb 19 4 true (qb 28 2 true []))))))) [] (R 2 (dt g11) (A (A (dt g11) (aT n _ hk12)) (R 2 (dt g11) (R 7 g13 (A (A (dt g11) g13) (A (dt g11) (R 6 B1 T))))))) [(97,bE true)] [] [] ?_;cases h1;exact .lg hj1 []
         ·have h1:=aJ g13 h1;obtain⟨k14,vM,h1⟩:=bnd h1;obtain⟨k15,rW,h1⟩:=bnd h1;by_cases g16:(!k15)=true
          ·have h1:=aI g16 h1;refine .ad mixed (qb 4 2 true ((6,[.b true,.call [] (bE k12) []])::(qb 7 2 true (qb 9 2 false ((11,[.b false,.call [] (aE (ak k14)) []])::(qb 12 2 false ((14,[.b false,.call [] (bE k15) []])::((15,[.b false])::((16,[.b true,.b false])::((17,[.b true])::(qb 19 4 true (qb 28 2 true [])))))))))))) [] (R 2 (dt g11) (A (A (dt g11) (aT n _ hk12)) (R 2 (dt g11) (R 2 (Bool.eq_false_iff.2 g13) (A (A (Bool.eq_false_iff.2 g13) (pI n _ vM)) (R 2 (Bool.eq_false_iff.2 g13) (A (A (Bool.eq_false_iff.2 g13) (gW n _ _ rW)) (A (Bool.eq_false_iff.2 g13) (A (A (dt g11) (Bool.eq_false_iff.2 g13)) (A (dt g11) (R 6 g16 T))))))))))) [(97,bE true)] [] [] ?_;cases h1;exact .lg hj1 []
          ·have h1:=aJ g16 h1;by_cases g17:¬a0.kind=4
           ·have h1:=aI g17 h1;obtain⟨k18,nG,h1⟩:=bnd h1;refine .ad mixed (qb 4 2 true ((6,[.b true,.call [] (bE k12) []])::(qb 7 2 true (qb 9 2 false ((11,[.b false,.call [] (aE (ak k14)) []])::(qb 12 2 false ((14,[.b false,.call [] (bE k15) []])::((15,[.b false])::((16,[.b true,.b false])::((17,[.b true])::(qb 19 4 false (qb 23 3 true [(26,[.b true,.call [] (bE k18) []]),(27,[.b true]),(28,[.b false,.b true]),(29,[.b false])])))))))))))) [] (R 2 (dt g11) (A (A (dt g11) (aT n _ hk12)) (R 2 (dt g11) (R 2 (Bool.eq_false_iff.2 g13) (A (A (Bool.eq_false_iff.2 g13) (pI n _ vM)) (R 2 (Bool.eq_false_iff.2 g13) (A (A (Bool.eq_false_iff.2 g13) (gW n _ _ rW)) (A (Bool.eq_false_iff.2 g13) (A (A (dt g11) (Bool.eq_false_iff.2 g13)) (A (dt g11) (R 4 (Bool.eq_false_iff.2 g16) (R 3 (dt g17) (A (A (dt g17) (gW n _ _ nG)) (A (dt g17) (A (A (Bool.eq_false_iff.2 g16) (dt g17)) (A (Bool.eq_false_iff.2 g16) T)))))))))))))))) [(97,bE (!k18))] [] [] ?_;cases h1;exact .lg hj1 []
           ·have h1:=aJ g17 h1;refine .ad mixed (qb 4 2 true ((6,[.b true,.call [] (bE k12) []])::(qb 7 2 true (qb 9 2 false ((11,[.b false,.call [] (aE (ak k14)) []])::(qb 12 2 false ((14,[.b false,.call [] (bE k15) []])::((15,[.b false])::((16,[.b true,.b false])::((17,[.b true])::(qb 19 9 false [(28,[.b false,.b false]),(29,[.b false])]))))))))))) [] (R 2 (dt g11) (A (A (dt g11) (aT n _ hk12)) (R 2 (dt g11) (R 2 (Bool.eq_false_iff.2 g13) (A (A (Bool.eq_false_iff.2 g13) (pI n _ vM)) (R 2 (Bool.eq_false_iff.2 g13) (A (A (Bool.eq_false_iff.2 g13) (gW n _ _ rW)) (A (Bool.eq_false_iff.2 g13) (A (A (dt g11) (Bool.eq_false_iff.2 g13)) (A (dt g11) (R 4 (Bool.eq_false_iff.2 g16) (R 5 (df g17) (A (A (Bool.eq_false_iff.2 g16) (df g17)) (A (Bool.eq_false_iff.2 g16) T)))))))))))))) [(97,bE false)] [] [] ?_;cases h1;exact .lg hj1 []
        ·have h1:=aJ g11 h1;by_cases g19:¬a0.kind=4
         ·have h1:=aI g19 h1;obtain⟨k20,Ir,h1⟩:=bnd h1;refine .ad mixed (qb 4 5 false (qb 16 2 false (qb 19 4 false (qb 23 3 true [(26,[.b true,.call [] (bE k20) []]),(27,[.b true]),(28,[.b false,.b true]),(29,[.b false])])))) [] (R 7 (df g11) (R 4 B0 (R 3 (dt g19) (A (A (dt g19) (gW n _ _ Ir)) (A (dt g19) (A (A B0 (dt g19)) (A B0 T))))))) [(97,bE (!k20))] [] [] ?_;cases h1;exact .lg hj1 []
         ·have h1:=aJ g19 h1;refine .ad mixed (qb 4 5 false (qb 16 2 false (qb 19 9 false [(28,[.b false,.b false]),(29,[.b false])]))) [] (R 7 (df g11) (R 4 B0 (R 5 (df g19) (A (A B0 (df g19)) (A B0 T))))) [(97,bE false)] [] [] ?_;cases h1;exact .lg hj1 []
     ·by_cases g21:a0.kind=3
      ·have h1:=aI g21 h1;by_cases g22:a0.n<0
       ·have h1:=aI g22 h1;refine .a (rb 16 true []) (R 4 (dt g21) (R 3 (dt g22) (A (A (dt g21) (dt g22)) (A (dt g21) (R 6 B1 T))))) [(67,bE true)] ?_;cases h1;exact .lg hj1 []
       ·have h1:=aJ g22 h1;by_cases g23:a0.n>999
        ·have h1:=aI g23 h1;refine .a (rb 4 true (rb 3 false (.b true::(.b false::(rb 7 true []))))) (R 4 (dt g21) (R 3 (df g22) (A (A (dt g21) (df g22)) (A (dt g21) (R 6 (dt g23) T))))) [(67,bE true)] ?_;cases h1;exact .lg hj1 []
        ·have h1:=aJ g23 h1;by_cases g24:¬a0.kind=3
         ·have h1:=aI g24 h1;refine .a (rb 4 true (rb 3 false (.b true::(.b false::(.b true::(rb 4 false (rb 3 true [.b false,.b true,.b false]))))))) (R 4 (dt g21) (R 3 (df g22) (A (A (dt g21) (df g22)) (A (dt g21) (R 4 (df g23) (R 3 (dt g24) (A (A (df g23) (dt g24)) (A (df g23) T)))))))) [(67,dE (¬a0.n=0))] ?_;cases h1;exact .lg hj1 []
         ·have h1:=aJ g24 h1;refine .a (rb 4 true (rb 3 false (.b true::(.b false::(.b true::(rb 10 false [])))))) (R 4 (dt g21) (R 3 (df g22) (A (A (dt g21) (df g22)) (A (dt g21) (R 4 (df g23) (R 3 (df g24) (A (A (df g23) (df g24)) (A (df g23) T)))))))) [(67,bE false)] ?_;cases h1;exact .lg hj1 []
      ·have h1:=aJ g21 h1;by_cases Iu:¬a0.kind=3
       ·have h1:=aI Iu h1;refine .a (rb 10 false (rb 3 true [.b false,.b true,.b false])) (R 6 (df g21) (R 4 B0 (R 3 (dt Iu) (A (A B0 (dt Iu)) (A B0 T))))) [(67,dE (¬a0.n=0))] ?_;cases h1;exact .lg hj1 []
       ·have h1:=aJ Iu h1;refine .a (rb 16 false []) (R 6 (df g21) (R 4 B0 (R 3 (df Iu) (A (A B0 (df Iu)) (A B0 T))))) [(67,bE false)] ?_;cases h1;exact .lg hj1 []
   ·by_cases Ew:a0.kind=2
    ·have h1:=aI Ew h1;obtain⟨k27,xY,h1⟩:=bnd h1;by_cases sD:(!k27)=true
     ·have h1:=aI sD h1;refine .a (rb 3 true (.call [] (bE k27) []::(rb 8 true []))) (R 2 (dt Ew) (A (A (dt Ew) (dD n _ xY)) (R 2 (dt Ew) (R 6 sD T)))) [(44,bE true)] ?_;cases h1;exact .lg hj1 []
     ·have h1:=aJ sD h1;by_cases zL:¬a0.kind=2
      ·have h1:=aI zL h1;refine .a (rb 3 true (.call [] (bE k27) []::(.b true::(.b true::(rb 4 false (rb 3 true [.b false,.b true,.b false])))))) (R 2 (dt Ew) (A (A (dt Ew) (dD n _ xY)) (R 2 (dt Ew) (R 4 (Bool.eq_false_iff.2 sD) (R 3 (dt zL) (A (A (Bool.eq_false_iff.2 sD) (dt zL)) (A (Bool.eq_false_iff.2 sD) T))))))) [(44,dE (¬a0.name=[]))] ?_;cases h1;exact .lg hj1 []
      ·have h1:=aJ zL h1;refine .a (rb 3 true (.call [] (bE k27) []::(.b true::(.b true::(rb 10 false []))))) (R 2 (dt Ew) (A (A (dt Ew) (dD n _ xY)) (R 2 (dt Ew) (R 4 (Bool.eq_false_iff.2 sD) (R 3 (df zL) (A (A (Bool.eq_false_iff.2 sD) (df zL)) (A (Bool.eq_false_iff.2 sD) T))))))) [(44,bE false)] ?_;cases h1;exact .lg hj1 []
    ·have h1:=aJ Ew h1;by_cases jJ:¬a0.kind=2
     ·have h1:=aI jJ h1;refine .a (rb 9 false (rb 3 true [.b false,.b true,.b false])) (R 5 (df Ew) (R 4 B0 (R 3 (dt jJ) (A (A B0 (dt jJ)) (A B0 T))))) [(44,dE (¬a0.name=[]))] ?_;cases h1;exact .lg hj1 []
     ·have h1:=aJ jJ h1;refine .a (rb 15 false []) (R 5 (df Ew) (R 4 B0 (R 3 (df jJ) (A (A B0 (df jJ)) (A B0 T))))) [(44,bE false)] ?_;cases h1;exact .lg hj1 []
 ·by_cases DZ:a0.kind=1
  ·have h1:=aI DZ h1;by_cases vT:a0.id<1
   ·have h1:=aI vT h1;refine .a (rb 16 true []) (R 4 (dt DZ) (R 3 (dt vT) (A (A (dt DZ) (dt vT)) (A (dt DZ) (R 6 B1 T))))) [(25,bE true)] ?_;cases h1;exact .lg hj1 []
   ·have h1:=aJ vT h1;by_cases PU:a0.id>999
    ·have h1:=aI PU h1;refine .a (rb 4 true (rb 3 false (.b true::(.b false::(rb 7 true []))))) (R 4 (dt DZ) (R 3 (df vT) (A (A (dt DZ) (df vT)) (A (dt DZ) (R 6 (dt PU) T))))) [(25,bE true)] ?_;cases h1;exact .lg hj1 []
    ·have h1:=aJ PU h1;by_cases Iw:¬a0.kind=1
     ·have h1:=aI Iw h1;refine .a (rb 4 true (rb 3 false (.b true::(.b false::(.b true::(rb 4 false (rb 3 true [.b false,.b true,.b false]))))))) (R 4 (dt DZ) (R 3 (df vT) (A (A (dt DZ) (df vT)) (A (dt DZ) (R 4 (df PU) (R 3 (dt Iw) (A (A (df PU) (dt Iw)) (A (df PU) T)))))))) [(25,dE (¬a0.id=0))] ?_;cases h1;exact .lg hj1 []
     ·have h1:=aJ Iw h1;refine .a (rb 4 true (rb 3 false (.b true::(.b false::(.b true::(rb 10 false [])))))) (R 4 (dt DZ) (R 3 (df vT) (A (A (dt DZ) (df vT)) (A (dt DZ) (R 4 (df PU) (R 3 (df Iw) (A (A (df PU) (df Iw)) (A (df PU) T)))))))) [(25,bE false)] ?_;cases h1;exact .lg hj1 []
  ·have h1:=aJ DZ h1;by_cases Bc:¬a0.kind=1
   ·have h1:=aI Bc h1;refine .a (rb 10 false (rb 3 true [.b false,.b true,.b false])) (R 6 (df DZ) (R 4 B0 (R 3 (dt Bc) (A (A B0 (dt Bc)) (A B0 T))))) [(25,dE (¬a0.id=0))] ?_;cases h1;exact .lg hj1 []
   ·have h1:=aJ Bc h1;refine .a (rb 16 false []) (R 6 (df DZ) (R 4 B0 (R 3 (df Bc) (A (A B0 (df Bc)) (A B0 T))))) [(25,bE false)] ?_;cases h1;exact .lg hj1 []
def wM (n:Nat) (a0:Int) (a1:Int):Option (Bool):=
 Option.bind ((if a0=1 then some (decide (a0=1)) else(if a0=2 then some (decide (a0=2)) else(if a0=3 then some (decide (a0=3)) else some (decide (a0=4))))):Option (Bool)) (fun(o1:Bool)=>(if o1=true then some (decide (a1=0)) else(if a0=5 then some (decide (a1=1)) else(if a0=6 then some (decide (a1≥1)) else Option.bind ((if a0=7 then some (decide (a1=3)) else some false):Option (Bool)) (fun(o5:Bool)=>some o5)))))
theorem vk (n:Nat):∀(a0:Int) (a1:Int) {r:Bool},wM n a0 a1=some r→aF X.E 137 [iE a0,iE a1] [] (bE r) []:=by
 intro a0 a1 r h0;rw[wM] at h0;refine .n Tryz.func137 (fun L ks low K hl hL hlen hK=>?_);refine .a [] T [] ?_;refine .a [] T [(5,iE a0)] ?_;refine .a [] T [(6,dE (a0=1))] ?_;refine .bP h0 rfl [0,1,5] (fun o1=>[(6,bE o1)]) n1 n1 (fun o1 h0=>?_) (fun y1 h1 hj1=>?_)
 ·refine .jT h0 (fun hc2 h0=>?_) (fun hc2 h0=>?_)
  ·refine .a [] T [(4,dE (a1=0))] ?_;cases h0;exact .rt hK
  ·refine .a [] T [(13,dE (a0=5))] ?_;refine .jP h0 (fun hc3 h0=>?_) (fun hc3 h0=>?_)
   ·refine .a [] T [(4,dE (a1=1))] ?_;cases h0;exact .rt hK
   ·refine .a [] T [(17,dE (a0=6))] ?_;refine .jP h0 (fun hc4 h0=>?_) (fun hc4 h0=>?_)
    ·refine .a [] T [(4,dE (a1≥1))] ?_;cases h0;exact .rt hK
    ·refine .bP h0 rfl [] (fun o5=>[(4,bE o5)]) n1 n1 (fun o5 h0=>?_) (fun y1 h1 hj1=>?_)
     ·cases h0;exact .rt hK
     ·by_cases g6:a0=7
      ·have h1:=aI g6 h1;refine .a (rb 3 true []) (R 3 (dt g6) T) [(4,dE (a1=3))] ?_;cases h1;exact .lg hj1 []
      ·have h1:=aJ g6 h1;refine .a (rb 3 false []) (R 3 (df g6) T) [(4,bE false)] ?_;cases h1;exact .lg hj1 []
 ·refine .jP h1 (fun Iy h1=>?_) (fun Iy h1=>?_)
  ·cases h1;exact .lg hj1 []
  ·refine .a [] T [(6,dE (a0=2))] ?_;refine .jP h1 (fun hc8 h1=>?_) (fun hc8 h1=>?_)
   ·cases h1;exact .lg hj1 []
   ·refine .a [] T [(6,dE (a0=3))] ?_;refine .jP h1 (fun fK h1=>?_) (fun fK h1=>?_)
    ·cases h1;exact .lg hj1 []
    ·refine .a [] T [(6,dE (a0=4))] ?_;cases h1;exact .lg hj1 []
def xZ:Nat→Core→(List Int)→Int→Option (Bool)
 | 0,_,_,_=>none
 | n+1,a0,a1,a2=>Option.bind ((if a2=0 then some true else(wM n a0.kind (a0.kids.length:Int)).bind fun k31=>(if(!k31)=true then some true else(ru n a0).bind fun k33=>(if(!k33)=true then some true else(if a0.kind=1 then(nH n a1 a0.id).bind fun Xb=>some (!Xb) else some false)))):Option (Bool)) (fun(o1:Bool)=>(if o1=true then some false else bI (bQ (fun(s4:List Int) (i3:Nat) (x6:Int)=>(Option.bind ((if x6<1 then some true else(if x6>999 then some true else(nH n s4 x6).bind fun k18=>some k18)):Option (Bool)) (fun(rH:Bool)=>(if rH=true then some (Sum.inl false) else(jy 8 [] s4).bind fun AB=>(jy 8 AB [x6]).bind fun FT=>some (Sum.inr FT))):Option (Bool⊕(List Int)))) 0 a0.ids a1) (fun(s4:List Int)=>bI (bQ (fun(s20:Unit) (i19:Nat) (x22:Core)=>((xZ n x22 s4 (aY (a2-1))).bind fun k28=>(if(!k28)=true then some (Sum.inl false) else some (Sum.inr ())):Option (Bool⊕Unit))) 0 a0.kids ()) (fun(s20:Unit)=>some true))))
theorem Kq (n:Nat):∀(a0:Core) (a1:List Int) (a2:Int) {r:Bool},xZ n a0 a1 a2=some r→aF X.E 105 [aE (aN a0),lE 1 (ah a1),iE a2] [] (bE r) []:=by
 induction n with
 | zero=>intro a0 a1 a2 r h; cases h
 | succ n ih=>
  intro a0 a1 a2 r h0;rw[xZ] at h0;refine .n Tryz.func105 (fun L ks low K hl hL hlen hK=>?_);refine .af [] T [(3,pw 3)] [.o 3 (.cells ((aN a0).map .d))] ?_;refine .bP h0 rfl [1,2,3] (fun o1=>[(37,bE o1)]) n1 n1 (fun o1 h0=>?_) (fun y1 h1 hj1=>?_)
  ·refine .jT h0 (fun hc2 h0=>?_) (fun hc2 h0=>?_)
   ·refine .a [] T [(6,bE false)] ?_;cases h0;exact .rt hK
   ·refine .a [] T [(7,lE 1 (ah a1))] ?_;refine .a [] T [(8,iE 0)] ?_;refine .lI h0 rfl [2,3] (fun i3 s4=>[(7,lE 1 (ah s4)),(8,iE (i3:Int))]) n2 n2 [] (by kernel_rfl) (fun i3 s4 q5 hd7 hi9 h0=>?_);refine .a [.v (a0.ids.length:Int)] (A (aO.len' a0.ids) T) [(41,lE 1 (ah a0.ids)),(43,dE ((i3:Int)<(a0.ids.length:Int)))] ?_;refine .sn 41 aO a0.ids (by kernel_rfl) (fun Bd=>?_);refine .lc hd7 rfl (by kernel_rfl) (fun x6 Ov bJ hx6 hd8 kN=>?_) (fun bJ=>?_)
    ·subst bJ;obtain⟨y1,h1,hw1,hn1⟩:=bg h0;refine .bP h1 rfl [2,3,7,8] (fun rH=>[(68,bE rH)]) n1 n1 (fun rH h1=>?_) (fun y2 h2 hj2=>?_)
     ·refine .jT h1 (fun hc13 h1=>?_) (fun hc13 h1=>?_)
      ·refine .a [] T [(6,bE false)] ?_;cases h1;cases hw1 _ rfl;exact .rt hK
      ·obtain⟨AB,Ik,h1⟩:=bnd h1;obtain⟨FT,QU,h1⟩:=bnd h1;refine .ad mixed [(0,[.sv (ah [])]),(2,[.sv (ah AB)]),(6,[.cs [.v (.int .i64 x6)]]),(8,[.sv (ah [x6])]),(9,[.sv (ah FT)])] [((ah AB).length:Int)] (A (aO.lit []) (A (aO.ap Ik) (A (aO.ji hx6) (A (aO.lit [x6]) (A (aO.ap QU) T))))) [(7,.gs (.own 100071) 1 (ah FT))] [.o 100071 (.tok (ah FT).length 3)] [] ?_;refine .a [.v ((i3+1:Nat):Int)] (A (wn (i:=i3) (by omega)) T) [(8,iE ((i3+1:Nat):Int))] ?_;cases h1;refine .kp [2,3,7,8] [7] ?_;refine .dr 100071 (by kernel_rfl) ?_;exact .nL rfl (i3+1) _ hd8 kN (hn1 _ rfl) [] (by kernel_rfl)
     ·by_cases g16:x6<1
      ·have h2:=aI g16 h2;refine .a (.cs [.v (.int .i64 x6)]::(rb 15 true [])) (A (aO.ji hx6) (R 7 (dt g16) (R 8 B1 T))) [(68,bE true)] ?_;cases h2;exact .lg hj2 []
      ·have h2:=aJ g16 h2;by_cases g17:x6>999
       ·have h2:=aI g17 h2;refine .a (.cs [.v (.int .i64 x6)]::(rb 4 false (.cs [.v (.int .i64 x6)]::(rb 3 false (rb 8 true []))))) (A (aO.ji hx6) (R 3 (df g16) (A (A (df g16) (aO.ji hx6)) (R 3 (df g16) (R 8 (dt g17) T))))) [(68,bE true)] ?_;cases h2;exact .lg hj2 []
       ·have h2:=aJ g17 h2;obtain⟨k18,nG,h2⟩:=bnd h2;refine .a (.cs [.v (.int .i64 x6)]::(rb 4 false (.cs [.v (.int .i64 x6)]::(rb 8 false [.cs [.v (.int .i64 x6)],.b false,.b false,.call [] (bE k18) [],.b false])))) (A (aO.ji hx6) (R 3 (df g16) (A (A (df g16) (aO.ji hx6)) (R 3 (df g16) (R 4 (df g17) (A (A (df g17) (aO.ji hx6)) (A (df g17) (A (A (df g17) (uy n _ _ nG)) (A (df g17) T))))))))) [(68,bE k18)] ?_;cases h2;exact .lg hj2 []
    ·subst bJ;have h0:=bM h0;refine .a [] T [(9,iE 0)] ?_;refine .lI h0 rfl [2,3,7] (fun i19 s20=>[(9,iE (i19:Int))]) n2 n2 [] (by kernel_rfl) (fun i19 s20 q21 afd ag3 h0=>?_);refine .a [.v (a0.kids.length:Int)] (A (dh.len' a0.kids) T) [(81,lE 11 (aG a0.kids)),(83,dE ((i19:Int)<(a0.kids.length:Int)))] ?_;refine .sn 81 dh a0.kids (by kernel_rfl) (fun ag4=>?_);refine .lc afd rfl (by kernel_rfl) (fun x22 ag5 hc27 afe hd24 adx=>?_) (fun hc27=>?_)
     ·subst hc27;obtain⟨y1,h1,hw1,hn1⟩:=bg h0;obtain⟨k28,LH,h1⟩:=bnd h1;refine .a [.cs (aN x22),.pl,.call [] (bE k28) []] (A (dh.ji afe) (A (ih _ _ _ LH) T)) [(95,bE (!k28))] ?_;refine .jT h1 (fun hc29 h1=>?_) (fun hc29 h1=>?_)
      ·refine .a [] T [(6,bE false)] ?_;cases h1;cases hw1 _ rfl;exact .rt hK
      ·refine .a [.v ((i19+1:Nat):Int)] (A (wn (i:=i19) (by omega)) T) [(9,iE ((i19+1:Nat):Int))] ?_;cases h1;exact .nL rfl (i19+1) _ hd24 adx (hn1 _ rfl) [] (by kernel_rfl)
     ·subst hc27;have h0:=bM h0;refine .a [] T [(6,bE true)] ?_;cases h0;exact .rt hK
  ·by_cases jJ:a2=0
   ·have h1:=aI jJ h1;refine .a (rb 18 true []) (R 8 (dt jJ) (R 10 B1 T)) [(37,bE true)] ?_;cases h1;exact .lg hj1 []
   ·have h1:=aJ jJ h1;obtain⟨k31,hk31,h1⟩:=bnd h1;by_cases vT:(!k31)=true
    ·have h1:=aI vT h1;refine .a (rb 5 false (.v (a0.kids.length:Int)::(.b false::(.call [] (bE k31) []::(.b false::(.b false::(rb 10 true []))))))) (R 4 (df jJ) (A (A (df jJ) (dh.len' a0.kids)) (A (A (df jJ) (vk n _ _ hk31)) (R 2 (df jJ) (R 4 vT (R 6 B1 T)))))) [(37,bE true)] ?_;cases h1;exact .lg hj1 []
    ·have h1:=aJ vT h1;obtain⟨k33,Oz,h1⟩:=bnd h1;by_cases Iw:(!k33)=true
     ·have h1:=aI Iw h1;refine .a (rb 5 false (.v (a0.kids.length:Int)::(.b false::(.call [] (bE k31) []::(rb 4 false (.call [] (bE k33) []::(.b false::(.b false::(rb 6 true []))))))))) (R 4 (df jJ) (A (A (df jJ) (dh.len' a0.kids)) (A (A (df jJ) (vk n _ _ hk31)) (R 2 (df jJ) (A (Bool.eq_false_iff.2 vT) (A (A (Bool.eq_false_iff.2 vT) (vK n _ Oz)) (R 2 (Bool.eq_false_iff.2 vT) (R 6 Iw T)))))))) [(37,bE true)] ?_;cases h1;exact .lg hj1 []
     ·have h1:=aJ Iw h1;by_cases Bc:a0.kind=1
      ·have h1:=aI Bc h1;obtain⟨Xb,abb,h1⟩:=bnd h1;refine .a (rb 5 false (.v (a0.kids.length:Int)::(.b false::(.call [] (bE k31) []::(rb 4 false (.call [] (bE k33) []::(rb 6 false (rb 4 true [.call [] (bE Xb) [],.b true,.b false,.b true,.b false])))))))) (R 4 (df jJ) (A (A (df jJ) (dh.len' a0.kids)) (A (A (df jJ) (vk n _ _ hk31)) (R 2 (df jJ) (A (Bool.eq_false_iff.2 vT) (A (A (Bool.eq_false_iff.2 vT) (vK n _ Oz)) (R 2 (Bool.eq_false_iff.2 vT) (R 4 (Bool.eq_false_iff.2 Iw) (R 3 (dt Bc) (A (A (dt Bc) (uy n _ _ abb)) (A (dt Bc) (A (A (Bool.eq_false_iff.2 Iw) (dt Bc)) (A (Bool.eq_false_iff.2 Iw) T))))))))))))) [(37,bE (!Xb))] ?_;cases h1;exact .lg hj1 []
      ·have h1:=aJ Bc h1;refine .a (rb 5 false (.v (a0.kids.length:Int)::(.b false::(.call [] (bE k31) []::(rb 4 false (.call [] (bE k33) []::(rb 14 false []))))))) (R 4 (df jJ) (A (A (df jJ) (dh.len' a0.kids)) (A (A (df jJ) (vk n _ _ hk31)) (R 2 (df jJ) (A (Bool.eq_false_iff.2 vT) (A (A (Bool.eq_false_iff.2 vT) (vK n _ Oz)) (R 2 (Bool.eq_false_iff.2 vT) (R 4 (Bool.eq_false_iff.2 Iw) (R 5 (df Bc) (A (A (Bool.eq_false_iff.2 Iw) (df Bc)) (A (Bool.eq_false_iff.2 Iw) T))))))))))) [(37,bE false)] ?_;cases h1;exact .lg hj1 []
def lu (n:Nat) (a0:Core):Option (Bool):=
 Option.bind ((xZ n a0 [] 120).bind fun k2=>(if k2=true then(qm n a0).bind fun k4=>some (decide (k4≤600)) else some false):Option (Bool)) (fun(o1:Bool)=>some o1)
theorem zM (n:Nat):∀(a0:Core) {r:Bool},lu n a0=some r→aF X.E 63 [aE (aN a0)] [] (bE r) []:=by
 intro a0 r h0;rw[lu] at h0;refine .n Tryz.func63 (fun L ks low K hl hL hlen hK=>?_);refine .af [] T [(1,pw 1)] [.o 1 (.cells ((aN a0).map .d))] ?_;refine .bP h0 rfl [] (fun o1=>[(2,bE o1)]) n1 n1 (fun o1 h0=>?_) (fun y1 h1 hj1=>?_)
 ·cases h0;exact .rt hK
 ·obtain⟨k2,hk2,h1⟩:=bnd h1;by_cases g3:k2=true
  ·have h1:=aI g3 h1;obtain⟨k4,hk4,h1⟩:=bnd h1;refine .a [.sv (ah []),.call [] (bE k2) [],.b true,.b true,.call [] (iE k4) [],.b true,.b true] (A (aO.lit []) (A (Kq n _ _ _ hk2) (A g3 (A (A g3 (LK n _ hk4)) (R 2 g3 T))))) [(2,dE (k4≤600))] ?_;cases h1;exact .lg hj1 []
  ·have h1:=aJ g3 h1;refine .a (.sv (ah [])::(.call [] (bE k2) []::(rb 4 false []))) (A (aO.lit []) (A (Kq n _ _ _ hk2) (R 4 (Bool.eq_false_iff.2 g3) T))) [(2,bE false)] ?_;cases h1;exact .lg hj1 []
def yc (n:Nat)  : Option (List (List UInt8)):=
 some [[],[108,97,109,98,100,97],[105,102],[113,117,111,116,101],[108,101,116],iC]
theorem LM (n:Nat):∀{r:List (List UInt8)},yc n  = some r→aF X.E 87 [] [] (lE 1 (aH r)) []:=by
 intro r h0;rw[yc] at h0;refine .n Tryz.func87 (fun L ks low K hl hL hlen hK=>?_);refine .a [] T [] ?_;refine .a [.sv (aH [[],[108,97,109,98,100,97],[105,102],[113,117,111,116,101],[108,101,116],iC])] (A (dZ.lit [[],[108,97,109,98,100,97],[105,102],[113,117,111,116,101],[108,101,116],iC]) T) [(0,fE 1 (aH [[],[108,97,109,98,100,97],[105,102],[113,117,111,116,101],[108,101,116],iC]))] ?_;cases h0;exact .rt hK
def jd (n:Nat)  : Option (Expansion):=
 (yc n).bind fun k1=>iterM n (fun(s2:Int×(List Bind))=>((if s2.1<(k1.length:Int) then(gQ k1 s2.1).bind fun e6=>(jy 48 s2.2 [(⟨e6,[],s2.1⟩:Bind)]).bind fun z7=>some (Sum.inr ((aY (s2.1+1)),z7)) else some (Sum.inl (⟨s2.2,[],0,10,0⟩:Expansion))):Option (Expansion⊕(Int×(List Bind))))) (1,[])
theorem Bf (n:Nat):∀{r:Expansion},jd n  = some r→aF X.E 180 [] [] (aE (au r)) []:=by
 intro r h0;rw[jd] at h0;refine .n Tryz.func180 (fun L ks low K hl hL hlen hK=>?_);refine .af [] T [(0,pw 0)] [.o 0 (.cells [fE 3 (ay []),fE 3 (bZ []),iE 0,iE 0,iE 0])] ?_;refine .af [] T [(1,pw 1)] [.o 1 (.cells [fE 3 (ay []),fE 3 (bZ []),iE 0,iE 10,iE 0])] ?_;obtain⟨k1,hk1,h0⟩:=bnd h0;refine .a [.call [] (lE 1 (aH k1)) []] (A (LM n  hk1) T) [(2,lE 1 (aH k1))] ?_;refine .a [] T [(3,iE 1)] ?_;refine .oc 1 0 100021 222 (by kernel_rfl) ?_;refine .it h0 rfl [0,1,2] (fun s2=>[(3,iE s2.1)]) (fun s2=>[.c 1 0 (.gs (.own 100021) 3 (ay s2.2)),.o 100021 (.tok (ay s2.2).length 222)]) n1 [] (by kernel_rfl) (fun nk3 s2 h0=>?_);obtain⟨y1,h1,hw1,hn1⟩:=bT h0;refine .a [.v (k1.length:Int)] (A (dZ.len' k1) T) [(9,dE (s2.1<(k1.length:Int)))] ?_;refine .sn 2 dZ k1 (by kernel_rfl) (fun hb4=>?_);refine .jP h1 (fun hc5 h1=>?_) (fun hc5 h1=>?_)
 ·obtain⟨e6,U4,h1⟩:=bnd h1;obtain⟨z7,hz7,h1⟩:=bnd h1;refine .ad mixed [(4,[.cs [.s e6]]),(8,[.sv (ay [(⟨e6,[],s2.1⟩:Bind)])]),(9,[.sv (ay z7)])] [((ay s2.2).length:Int)] (A (dZ.idx U4) (A (aX.lit [(⟨e6,[],s2.1⟩:Bind)]) (A (aX.ap hz7) T))) [] [.c 1 0 (.gs (.own 100021) 3 (ay z7)),.o 100021 (.tok (ay z7).length 222)] [] ?_;refine .a [.pl] T [(3,iE (aY (s2.1+1)))] ?_;cases h1;exact .nI rfl _ (hn1 _ rfl) [] (by kernel_rfl)
 ·refine .af [] T [] [.c 0 0 (.gs (.own 100021) 3 (ay s2.2)),.c 0 3 (iE 10)] ?_;cases h1;cases hw1 _ rfl;exact .rt hK
def jU (n:Nat) (a0:List Bind):Option (Bool):=
 iterM n (fun(s1:Int)=>(Option.bind ((if s1<(a0.length:Int) then some (decide (s1≤60)) else some false):Option (Bool)) (fun(o3:Bool)=>(if o3=true then Option.bind ((gQ a0 s1).bind fun e16=>(jc n e16.name).bind fun k17=>(if(!k17)=true then some true else(kR n e16.scopes).bind fun k19=>(if(!k19)=true then some true else(if e16.id<1 then some true else some (decide (e16.id>999))))):Option (Bool)) (fun(o5:Bool)=>(if o5=true then some (Sum.inl false) else iterM n (fun(s7:Int)=>((if s7<s1 then Option.bind ((gQ a0 s7).bind fun e12=>(gQ a0 s1).bind fun e13=>(if e12.name=e13.name then(sV n e12.scopes e13.scopes).bind fun k15=>some k15 else some false):Option (Bool)) (fun(nD:Bool)=>(if nD=true then some (Sum.inl (Sum.inl false)) else some (Sum.inr (aY (s7+1))))) else some (Sum.inl (Sum.inr (aY (s1+1))))):Option ((Bool⊕Int)⊕Int))) 0)) else some (Sum.inl (decide ((a0.length:Int)≤60))))):Option (Bool⊕Int))) 0
theorem jO (n:Nat):∀(a0:List Bind) {r:Bool},jU n a0=some r→aF X.E 248 [lE 3 (ay a0)] [] (bE r) []:=by
 intro a0 r h0;rw[jU] at h0;refine .n Tryz.func248 (fun L ks low K hl hL hlen hK=>?_);refine .a [] T [] ?_;refine .a [] T [(3,iE 0)] ?_;refine .it h0 rfl [0] (fun s1=>[(3,iE s1)]) n1 n1 [] (by kernel_rfl) (fun Xf s1 h0=>?_);obtain⟨y1,h1,hw1,hn1⟩:=bT h0;refine .bP h1 rfl [0,3] (fun o3=>[(12,bE o3)]) n1 n1 (fun o3 h1=>?_) (fun y2 h2 hj2=>?_)
 ·refine .jT h1 (fun hc4 h1=>?_) (fun hc4 h1=>?_)
  ·refine .bP h1 rfl [0,3] (fun o5=>[(46,bE o5)]) n1 n1 (fun o5 h1=>?_) (fun y2 h2 hj2=>?_)
   ·refine .jT h1 (fun hc6 h1=>?_) (fun hc6 h1=>?_)
    ·refine .a [] T [(2,bE false)] ?_;cases h1;cases hw1 _ rfl;exact .rt hK
    ·refine .a [] T [(4,iE 0)] ?_;refine .it h1 rfl [0,3] (fun s7=>[(4,iE s7)]) n1 n1 [] (by kernel_rfl) (fun nk8 s7 h1=>?_);obtain⟨y2,h2,hw2,hn2⟩:=bT h1;refine .a [] T [(49,dE (s7<s1))] ?_;refine .jP h2 (fun fK h2=>?_) (fun fK h2=>?_)
     ·refine .bP h2 rfl [0,3,4] (fun nD=>[(75,bE nD)]) n1 n1 (fun nD h2=>?_) (fun y3 h3 hj3=>?_)
      ·refine .jT h2 (fun bJ h2=>?_) (fun bJ h2=>?_)
       ·refine .a [] T [(2,bE false)] ?_;cases h2;cases hw2 _ rfl;cases hw1 _ rfl;exact .rt hK
       ·refine .a [.pl] T [(4,iE (aY (s7+1)))] ?_;cases h2;exact .nI rfl _ (hn2 _ rfl) [] (by kernel_rfl)
      ·obtain⟨e12,zH,h3⟩:=bnd h3;obtain⟨e13,Ce,h3⟩:=bnd h3;by_cases g14:e12.name=e13.name
       ·have h3:=aI g14 h3;obtain⟨k15,rW,h3⟩:=bnd h3;refine .ad mixed ((2,[.cs (eu e12)])::((7,[.cs (eu e13)])::(qb 12 2 true ((14,[.b true,.cs (eu e12)])::(qb 15 4 true ((19,[.b true,.cs (eu e13)])::(qb 20 2 true [(22,[.b true,.call [] (bE k15) []]),(23,[.b true])]))))))) [] (A (aX.idx zH) (A (aX.idx Ce) (R 2 (dt g14) (A (A (dt g14) (aX.idx zH)) (R 4 (dt g14) (A (A (dt g14) (aX.idx Ce)) (R 2 (dt g14) (A (A (dt g14) (vg n _ _ rW)) (A (dt g14) T))))))))) [(75,bE k15)] [] [] ?_;cases h3;exact .lg hj3 []
       ·have h3:=aJ g14 h3;refine .ad mixed ((2,[.cs (eu e12)])::((7,[.cs (eu e13)])::(qb 12 12 false []))) [] (A (aX.idx zH) (A (aX.idx Ce) (R 12 (df g14) T))) [(75,bE false)] [] [] ?_;cases h3;exact .lg hj3 []
     ·refine .a [.pl] T [(3,iE (aY (s1+1)))] ?_;cases h2;cases hw2 _ rfl;exact .nI rfl _ (hn1 _ rfl) [] (by kernel_rfl)
   ·obtain⟨e16,FV,h2⟩:=bnd h2;obtain⟨k17,Dx,h2⟩:=bnd h2;by_cases g18:(!k17)=true
    ·have h2:=aI g18 h2;refine .a (.cs (eu e16)::(.call [] (bE k17) []::(rb 22 true []))) (A (aX.idx FV) (A (dD n _ Dx) (R 8 g18 (R 14 B1 T)))) [(46,bE true)] ?_;cases h2;exact .lg hj2 []
    ·have h2:=aJ g18 h2;obtain⟨k19,zG,h2⟩:=bnd h2;by_cases g20:(!k19)=true
     ·have h2:=aI g20 h2;refine .a (.cs (eu e16)::(.call [] (bE k17) []::(rb 3 false (.cs (eu e16)::(rb 3 false (.call [] (bE k19) []::(.b false::(.b false::(rb 14 true []))))))))) (A (aX.idx FV) (A (dD n _ Dx) (R 2 (Bool.eq_false_iff.2 g18) (A (A (Bool.eq_false_iff.2 g18) (aX.idx FV)) (R 2 (Bool.eq_false_iff.2 g18) (A (A (Bool.eq_false_iff.2 g18) (iD n _ zG)) (R 2 (Bool.eq_false_iff.2 g18) (R 7 g20 (R 7 B1 T))))))))) [(46,bE true)] ?_;cases h2;exact .lg hj2 []
     ·have h2:=aJ g20 h2;by_cases g21:e16.id<1
      ·have h2:=aI g21 h2;refine .a (.cs (eu e16)::(.call [] (bE k17) []::(rb 3 false (.cs (eu e16)::(rb 3 false (.call [] (bE k19) []::(rb 5 false (.cs (eu e16)::(rb 4 false (rb 7 true [])))))))))) (A (aX.idx FV) (A (dD n _ Dx) (R 2 (Bool.eq_false_iff.2 g18) (A (A (Bool.eq_false_iff.2 g18) (aX.idx FV)) (R 2 (Bool.eq_false_iff.2 g18) (A (A (Bool.eq_false_iff.2 g18) (iD n _ zG)) (R 2 (Bool.eq_false_iff.2 g18) (R 2 (Bool.eq_false_iff.2 g20) (A (A (Bool.eq_false_iff.2 g20) (aX.idx FV)) (R 4 (Bool.eq_false_iff.2 g20) (R 7 (dt g21) T))))))))))) [(46,bE true)] ?_;cases h2;exact .lg hj2 []
      ·have h2:=aJ g21 h2;refine .a (.cs (eu e16)::(.call [] (bE k17) []::(rb 3 false (.cs (eu e16)::(rb 3 false (.call [] (bE k19) []::(rb 5 false (.cs (eu e16)::(rb 7 false (.cs (eu e16)::(rb 4 false []))))))))))) (A (aX.idx FV) (A (dD n _ Dx) (R 2 (Bool.eq_false_iff.2 g18) (A (A (Bool.eq_false_iff.2 g18) (aX.idx FV)) (R 2 (Bool.eq_false_iff.2 g18) (A (A (Bool.eq_false_iff.2 g18) (iD n _ zG)) (R 2 (Bool.eq_false_iff.2 g18) (R 2 (Bool.eq_false_iff.2 g20) (A (A (Bool.eq_false_iff.2 g20) (aX.idx FV)) (R 4 (Bool.eq_false_iff.2 g20) (R 2 (df g21) (A (A (df g21) (aX.idx FV)) (R 4 (df g21) T))))))))))))) [(46,dE (e16.id>999))] ?_;cases h2;exact .lg hj2 []
  ·refine .a [.v (a0.length:Int)] (A (aX.len' a0) T) [(2,dE ((a0.length:Int)≤60))] ?_;refine .sn 0 aX a0 (by kernel_rfl) (fun ag7=>?_);cases h1;cases hw1 _ rfl;exact .rt hK
 ·by_cases g23:s1<(a0.length:Int)
  ·have h2:=aI g23 h2;refine .a (.v (a0.length:Int)::(rb 3 true [])) (A (aX.len' a0) (R 3 (dt g23) T)) [(12,dE (s1≤60))] ?_;refine .sn 0 aX a0 (by kernel_rfl) (fun adw=>?_);cases h2;exact .lg hj2 []
  ·have h2:=aJ g23 h2;refine .a (.v (a0.length:Int)::(rb 3 false [])) (A (aX.len' a0) (R 3 (df g23) T)) [(12,bE false)] ?_;refine .sn 0 aX a0 (by kernel_rfl) (fun ag8=>?_);cases h2;exact .lg hj2 []
def gq (n:Nat) (a0:Form):Option (Bool):=
 Option.bind ((if a0.kind=1 then some (decide (a0.name=[46,46,46])) else some false):Option (Bool)) (fun(o1:Bool)=>some o1)
theorem fP (n:Nat):∀(a0:Form) {r:Bool},gq n a0=some r→aF X.E 262 [aE (ak a0)] [] (bE r) []:=by
 intro a0 r h0;rw[gq] at h0;refine .n Tryz.func262 (fun L ks low K hl hL hlen hK=>?_);refine .af [] T [(1,pw 1)] [.o 1 (.cells ((ak a0).map .d))] ?_;refine .bP h0 rfl [] (fun o1=>[(2,bE o1)]) n1 n1 (fun o1 h0=>?_) (fun y1 h1 hj1=>?_)
 ·cases h0;exact .rt hK
 ·by_cases g2:a0.kind=1
  ·have h1:=aI g2 h1;refine .a (rb 4 true []) (R 4 (dt g2) T) [(2,dE (a0.name=[46,46,46]))] ?_;cases h1;exact .lg hj1 []
  ·have h1:=aJ g2 h1;refine .a (rb 4 false []) (R 4 (df g2) T) [(2,bE false)] ?_;cases h1;exact .lg hj1 []
def vw (n:Nat) (a0:List Form) (a1:Form):Option (Bool):=
 bI (bQ (fun(s2:Unit) (i1:Nat) (x4:Form)=>((eX n x4 a1).bind fun k10=>(if k10=true then some (Sum.inl true) else some (Sum.inr ())):Option (Bool⊕Unit))) 0 a0 ()) (fun(s2:Unit)=>some false)
theorem AO (n:Nat):∀(a0:List Form) (a1:Form) {r:Bool},vw n a0 a1=some r→aF X.E 257 [lE 5 (aj a0),aE (ak a1)] [] (bE r) []:=by
 intro a0 a1 r h0;rw[vw] at h0;refine .n Tryz.func257 (fun L ks low K hl hL hlen hK=>?_);refine .af [] T [(3,pw 3)] [.o 3 (.cells ((ak a1).map .d))] ?_;refine .a [] T [(5,iE 0)] ?_;refine .lI h0 rfl [0,3] (fun i1 s2=>[(5,iE (i1:Int))]) n2 n2 [] (by kernel_rfl) (fun i1 s2 q3 hd5 PS h0=>?_);refine .a [.v (a0.length:Int)] (A (aA.len' a0) T) [(9,dE ((i1:Int)<(a0.length:Int)))] ?_;refine .sn 0 aA a0 (by kernel_rfl) (fun hb8=>?_);refine .lc hd5 rfl (by kernel_rfl) (fun x4 q32 fK hx4 hd6 lQ=>?_) (fun fK=>?_)
 ·subst fK;obtain⟨y1,h1,hw1,hn1⟩:=bg h0;obtain⟨k10,hk10,h1⟩:=bnd h1;refine .ad mixed [(2,[.cs (ak x4)]),(5,[.call [] (bE k10) []])] [] (A (aA.ji hx4) (A (gW n _ _ hk10) T)) [(17,bE k10)] [] [] ?_;refine .jT h1 (fun bJ h1=>?_) (fun bJ h1=>?_)
  ·refine .a [] T [(4,bE true)] ?_;cases h1;cases hw1 _ rfl;exact .rt hK
  ·refine .a [.v ((i1+1:Nat):Int)] (A (wn (i:=i1) (by omega)) T) [(5,iE ((i1+1:Nat):Int))] ?_;cases h1;exact .nL rfl (i1+1) _ hd6 lQ (hn1 _ rfl) [] (by kernel_rfl)
 ·subst fK;have h0:=bM h0;refine .a [] T [(4,bE false)] ?_;cases h0;exact .rt hK
def wO (n:Nat) (a0:Form) (a1:List Form):Option (Bool):=
 Option.bind ((if a0.kind=1 then(if ¬a0.name=[46,46,46] then(if ¬a0.name=[95] then(vw n a1 a0).bind fun k5=>some (!k5) else some false) else some false) else some false):Option (Bool)) (fun(o1:Bool)=>some o1)
theorem Iz (n:Nat):∀(a0:Form) (a1:List Form) {r:Bool},wO n a0 a1=some r→aF X.E 278 [aE (ak a0),lE 5 (aj a1)] [] (bE r) []:=by
 intro a0 a1 r h0;rw[wO] at h0;refine .n Tryz.func278 (fun L ks low K hl hL hlen hK=>?_);refine .af [] T [(2,pw 2)] [.o 2 (.cells ((ak a0).map .d))] ?_;refine .bP h0 rfl [] (fun o1=>[(4,bE o1)]) n1 n1 (fun o1 h0=>?_) (fun y1 h1 hj1=>?_)
 ·cases h0;exact .rt hK
 ·by_cases g2:a0.kind=1
  ·have h1:=aI g2 h1;by_cases g3:¬a0.name=[46,46,46]
   ·have h1:=aI g3 h1;by_cases g4:¬a0.name=[95]
    ·have h1:=aI g4 h1;obtain⟨k5,hk5,h1⟩:=bnd h1;refine .a (rb 11 true [.call [] (bE k5) [],.b true,.b true]) (R 4 (dt g2) (R 4 (dt g3) (R 2 (dt g4) (A (A (dt g4) (AO n _ _ hk5)) (R 2 (dt g4) T))))) [(4,bE (!k5))] ?_;cases h1;exact .lg hj1 []
    ·have h1:=aJ g4 h1;refine .a (rb 8 true (rb 5 false [])) (R 4 (dt g2) (R 4 (dt g3) (R 5 (df g4) T))) [(4,bE false)] ?_;cases h1;exact .lg hj1 []
   ·have h1:=aJ g3 h1;refine .a (rb 4 true (rb 9 false [])) (R 4 (dt g2) (R 4 (df g3) (R 5 B0 T))) [(4,bE false)] ?_;cases h1;exact .lg hj1 []
  ·have h1:=aJ g2 h1;refine .a (rb 13 false []) (R 4 (df g2) (R 9 B0 T)) [(4,bE false)] ?_;cases h1;exact .lg hj1 []
def jC:Nat→(List Int)→Form→(List Form)→Int→Option (List Int)
 | 0,_,_,_,_=>none
 | n+1,a0,a1,a2,a3=>(wO n a1 a2).bind fun k1=>Option.bind ((if k1=true then(jy 8 a0 [a3]).bind fun z20=>some z20 else some a0):Option (List Int)) (fun(o2:List Int)=>Option.bind (dX (fun(s4:List Int) (i3:Nat) (x6:Form)=>Option.bind ((if((i3+1:Nat):Int)<(a1.kids.length:Int) then(gQ a1.kids ((i3+1:Nat):Int)).bind fun e17=>(gq n e17).bind fun k18=>some k18 else some false):Option (Bool)) (fun(rH:Bool)=>Option.bind ((if rH=true then some (aY (a3+1)) else some a3):Option (Int)) (fun(Yj:Int)=>(jC n s4 x6 a2 Yj).bind fun k14=>some k14))) 0 a1.kids o2) (fun(s4:List Int)=>some s4))
theorem vN (n:Nat):∀(a0:List Int) (a1:Form) (a2:List Form) (a3:Int) {r:List Int},jC n a0 a1 a2 a3=some r→aF X.E 273 [.vs (.low 0) 1 ((ah a0).length),aE (ak a1),lE 5 (aj a2),iE a3] [some (.vec 3 1 (ah a0))] (.vs (.low 0) 1 ((ah r).length)) [.vec 3 1 (ah r)]:=by
 induction n with
 | zero=>intro a0 a1 a2 a3 r h; cases h
 | succ n ih=>
  intro a0 a1 a2 a3 r h0;rw[jC] at h0;refine .n Tryz.func273 (fun L ks low K hl hL hlen hK=>?_);refine .af [] T [(5,pw 5)] [.o 5 (.cells ((ak a1).map .d))] ?_;obtain⟨k1,hk1,h0⟩:=bnd h0;refine .a [.call [] (bE k1) []] (A (Iz n _ _ hk1) T) [(13,bE k1)] ?_;refine .bP h0 rfl [2,3,5] (fun o2=>[(0,.vs (.low 0) 1 ((ah o2).length))]) n1 (fun o2=>[.o 0 (.vec 3 1 (ah o2))]) (fun o2 h0=>?_) (fun y1 h1 hj1=>?_)
  ·refine .a [] T [(9,iE 0)] ?_;refine .lL h0 rfl [2,3,5] (fun i3 s4=>[(0,.vs (.low 0) 1 ((ah s4).length)),(9,iE (i3:Int))]) n2 (fun i3 s4=>[.o 0 (.vec 3 1 (ah s4))]) [] (by kernel_rfl) (fun i3 s4 q5 hd7 hi9 h0=>?_);refine .a [.v (a1.kids.length:Int)] (A (aA.len' a1.kids) T) [(20,lE 5 (aj a1.kids)),(22,dE ((i3:Int)<(a1.kids.length:Int)))] ?_;refine .sn 20 aA a1.kids (by kernel_rfl) (fun Bd=>?_);refine .lc hd7 rfl (by kernel_rfl) (fun x6 Ov bJ hx6 hd8 kN=>?_) (fun bJ=>?_)
   ·subst bJ;obtain⟨y1,h1,hn1⟩:=dG h0;refine .a [] T [(10,iE a3)] ?_;refine .bP h1 rfl [0,2,3,5,9,10] (fun rH=>[(40,bE rH)]) n1 n1 (fun rH h1=>?_) (fun y2 h2 hj2=>?_)
    ·refine .bP h1 rfl [0,2,3,5,9] (fun Yj=>[(10,iE Yj)]) n1 n1 (fun Yj h1=>?_) (fun y2 h2 hj2=>?_)
     ·obtain⟨k14,vM,h1⟩:=bnd h1;refine .ao [.cs (ak x6),.call [.low 0] (.vs (.low 0) 1 ((ah k14).length)) [.vec 3 1 (ah k14)]] (A (aA.ji hx6) (A (ih _ _ _ _ vM) T)) [(0,.vs (.low 0) 1 ((ah k14).length))] [.o 0 (.vec 3 1 (ah k14))] ?_;refine .a [.v ((i3+1:Nat):Int)] (A (wn (i:=i3) (by omega)) T) [(9,iE ((i3+1:Nat):Int))] ?_;cases h1;exact .nL rfl (i3+1) _ hd8 kN hn1 [] (by kernel_rfl)
     ·refine .jT h2 (fun vO h2=>?_) (fun vO h2=>?_)
      ·refine .a [.pl] T [(10,iE (aY (a3+1)))] ?_;cases h2;exact .lg hj2 []
      ·cases h2;exact .lg hj2 []
    ·by_cases g16:((i3+1:Nat):Int)<(a1.kids.length:Int)
     ·have h2:=aI g16 h2;obtain⟨e17,Zf,h2⟩:=bnd h2;obtain⟨k18,nG,h2⟩:=bnd h2;refine .a (.v ((i3+1:Nat):Int)::(.v (a1.kids.length:Int)::(rb 4 true [.v ((i3+1:Nat):Int),.b true,.cs (ak e17),.b true,.b true,.call [] (bE k18) [],.b true]))) (A (wn (i:=i3) (by omega)) (A (aA.len' a1.kids) (R 3 (dt g16) (A (A (dt g16) (wn (i:=i3) (by omega))) (A (A (dt g16) (aA.idx Zf)) (A (dt g16) (A (A (dt g16) (fP n _ nG)) (A (dt g16) T)))))))) [(40,bE k18)] ?_;cases h2;exact .lg hj2 []
     ·have h2:=aJ g16 h2;refine .a (.v ((i3+1:Nat):Int)::(.v (a1.kids.length:Int)::(rb 8 false []))) (A (wn (i:=i3) (by omega)) (A (aA.len' a1.kids) (R 8 (df g16) T))) [(40,bE false)] ?_;cases h2;exact .lg hj2 []
   ·subst bJ;have h0:=dR h0;refine .a [] T [(8,.vs (.low 0) 1 ((ah s4).length))] ?_;refine .kp [8] [] ?_;refine .dr 5 (by kernel_rfl) ?_;cases h0;exact .rt hK
  ·refine .jT h1 (fun hc19 h1=>?_) (fun hc19 h1=>?_)
   ·obtain⟨z20,aff,h1⟩:=bnd h1;refine .ao [.sv (ah [a3]),.sv (ah z20)] (A (aO.lit [a3]) (A (A (aO.ap aff) (rfl:(ah a0).length=(ah a0).length)) T)) [(0,.vs (.low 0) 1 ((ah z20).length))] [.o 0 (.vec 3 1 (ah z20))] ?_;cases h1;exact .lg hj1 []
   ·cases h1;exact .lg hj1 []
def oL:Nat→(List Form)→Form→(List Form)→Option (List Form)
 | 0,_,_,_=>none
 | n+1,a0,a1,a2=>(wO n a1 a2).bind fun k1=>Option.bind ((if k1=true then(jy 80 a0 [a1]).bind fun AB=>some AB else some a0):Option (List Form)) (fun(o2:List Form)=>Option.bind (dX (fun(s4:List Form) (i3:Nat) (x6:Form)=>(oL n s4 x6 a2).bind fun k12=>some k12) 0 a1.kids o2) (fun(s4:List Form)=>some s4))
theorem zN (n:Nat):∀(a0:List Form) (a1:Form) (a2:List Form) {r:List Form},oL n a0 a1 a2=some r→aF X.E 272 [.vs (.low 0) 5 ((aj a0).length),aE (ak a1),lE 5 (aj a2)] [some (.vec 33 5 (aj a0))] (.vs (.low 0) 5 ((aj r).length)) [.vec 33 5 (aj r)]:=by
 induction n with
 | zero=>intro a0 a1 a2 r h; cases h
 | succ n ih=>
  intro a0 a1 a2 r h0;rw[oL] at h0;refine .n Tryz.func272 (fun L ks low K hl hL hlen hK=>?_);refine .af [] T [(4,pw 4)] [.o 4 (.cells ((ak a1).map .d))] ?_;obtain⟨k1,hk1,h0⟩:=bnd h0;refine .a [.call [] (bE k1) []] (A (Iz n _ _ hk1) T) [(10,bE k1)] ?_;refine .bP h0 rfl [2,4] (fun o2=>[(0,.vs (.low 0) 5 ((aj o2).length))]) n1 (fun o2=>[.o 0 (.vec 33 5 (aj o2))]) (fun o2 h0=>?_) (fun y1 h1 hj1=>?_)
  ·refine .a [] T [(7,iE 0)] ?_;refine .lL h0 rfl [2,4] (fun i3 s4=>[(0,.vs (.low 0) 5 ((aj s4).length)),(7,iE (i3:Int))]) n2 (fun i3 s4=>[.o 0 (.vec 33 5 (aj s4))]) [] (by kernel_rfl) (fun i3 s4 q5 hd7 hi9 h0=>?_);refine .a [.v (a1.kids.length:Int)] (A (aA.len' a1.kids) T) [(17,lE 5 (aj a1.kids)),(19,dE ((i3:Int)<(a1.kids.length:Int)))] ?_;refine .sn 17 aA a1.kids (by kernel_rfl) (fun Bd=>?_);refine .lc hd7 rfl (by kernel_rfl) (fun x6 Ov bJ hx6 hd8 kN=>?_) (fun bJ=>?_)
   ·subst bJ;obtain⟨y1,h1,hn1⟩:=dG h0;obtain⟨k12,hk12,h1⟩:=bnd h1;refine .ao [.cs (ak x6),.call [.low 0] (.vs (.low 0) 5 ((aj k12).length)) [.vec 33 5 (aj k12)]] (A (aA.ji hx6) (A (ih _ _ _ hk12) T)) [(0,.vs (.low 0) 5 ((aj k12).length))] [.o 0 (.vec 33 5 (aj k12))] ?_;refine .a [.v ((i3+1:Nat):Int)] (A (wn (i:=i3) (by omega)) T) [(7,iE ((i3+1:Nat):Int))] ?_;cases h1;exact .nL rfl (i3+1) _ hd8 kN hn1 [] (by kernel_rfl)
   ·subst bJ;have h0:=dR h0;refine .a [] T [(6,.vs (.low 0) 5 ((aj s4).length))] ?_;refine .kp [6] [] ?_;refine .dr 4 (by kernel_rfl) ?_;cases h0;exact .rt hK
  ·refine .jT h1 (fun hc13 h1=>?_) (fun hc13 h1=>?_)
   ·obtain⟨AB,Ik,h1⟩:=bnd h1;refine .ao [.sv (aj [a1]),.sv (aj AB)] (A (aA.lit [a1]) (A (A (aA.ap Ik) (rfl:(aj a0).length=(aj a0).length)) T)) [(0,.vs (.low 0) 5 ((aj AB).length))] [.o 0 (.vec 33 5 (aj AB))] ?_;cases h1;exact .lg hj1 []
   ·cases h1;exact .lg hj1 []
def zO (n:Nat) (a0:Form) (a1:List Form) (a2:List (List iw)):Option (List iw):=
 (oL n [] a0 a1).bind fun k1=>(jC n [] a0 a1 0).bind fun k2=>Option.bind (dX (fun(s4:List iw) (i3:Nat) (x6:Form)=>(inB (i3:Int) k2.length).bind fun u12=>(k2[i3]?).bind fun e13=>Option.bind (dX (fun(s15:List iw) (Zg:Nat) (x17:List iw)=>(gQ x17 (i3:Int)).bind fun e23=>(jy 192 s15 [e23]).bind fun z24=>some z24) 0 a2 []) (fun(s15:List iw)=>(jy 192 s4 [(⟨x6,(aY (e13+1)),(⟨0,[],0,[],[]⟩:Form),s15⟩:iw)]).bind fun z25=>some z25)) 0 k1 []) (fun(s4:List iw)=>some s4)
theorem QV (n:Nat):∀(a0:Form) (a1:List Form) (a2:List (List iw)) {r:List iw},zO n a0 a1 a2=some r→aF X.E 268 [aE (ak a0),lE 5 (aj a1),lE 1 (um a2)] [] (lE 12 (aQ r)) []:=by
 intro a0 a1 a2 r h0;rw[zO] at h0;refine .n Tryz.func268 (fun L ks low K hl hL hlen hK=>?_);refine .af [] T [(3,pw 3)] [.o 3 (.cells ((ak a0).map .d))] ?_;refine .a [.sv (aQ [])] (A (iY.lit []) T) [(7,fE 12 (aQ []))] ?_;obtain⟨k1,hk1,h0⟩:=bnd h0;refine .af [.gv 14,.sv (aj []),.call [.own 100014] (.vs (.low 0) 5 ((aj k1).length)) [.vec 33 5 (aj k1)]] (A (aA.lit []) (A (zN n _ _ _ hk1) T)) [(8,.vs (.own 100014) 5 ((aj k1).length))] [.o 100014 (.vec 33 5 (aj k1))] ?_;obtain⟨k2,hk2,h0⟩:=bnd h0;refine .af [.gv 18,.sv (ah []),.call [.own 100018] (.vs (.low 0) 1 ((ah k2).length)) [.vec 3 1 (ah k2)]] (A (aO.lit []) (A (vN n _ _ _ _ hk2) T)) [(9,.vs (.own 100018) 1 ((ah k2).length))] [.o 100018 (.vec 3 1 (ah k2))] ?_;refine .a [] T [(10,iE 0)] ?_;refine .ow 7 100059 290 [2,8,9,10] rfl rfl (by kernel_rfl) ?_;refine .lL h0 rfl [2,8,9] (fun i3 s4=>[(7,.gs (.own 100059) 12 (aQ s4)),(10,iE (i3:Int))]) (fun i3 s4=>[.o 100059 (.tok (aQ s4).length 290)]) n2 [] (by kernel_rfl) (fun i3 s4 q5 hd7 hi9 h0=>?_);refine .a [.v (k1.length:Int)] (A (aA.len' k1) T) [(25,dE ((i3:Int)<(k1.length:Int)))] ?_;refine .Yh 8 aA k1 (by kernel_rfl) (fun Bd=>?_);refine .lc hd7 rfl (by kernel_rfl) (fun x6 Ov bJ hx6 hd8 kN=>?_) (fun bJ=>?_)
 ·subst bJ;obtain⟨y1,h1,hn1⟩:=dG h0;obtain⟨u12,UH,h1⟩:=bnd h1;obtain⟨e13,Ce,h1⟩:=bnd h1;refine .ad mixed [(3,[.cs (ak x6)]),(7,[.cs [.v (.int .i64 e13)]]),(8,[.pl])] [] (A (A (aA.inv (BZ hx6) (rfl:(aj k1).length=(aj k1).length)) (rfl:(aj k1).length=(aj k1).length)) (A (A (A (aA.rows k1) (aA.Em hx6)) (rfl:(aj k1).length=(aj k1).length)) (A (A (aO.inv UH (rfl:(ah k2).length=(ah k2).length)) (rfl:(ah k2).length=(ah k2).length)) (A (A (A (aO.rows k2) (aO.Em Ce)) (rfl:(ah k2).length=(ah k2).length)) T)))) [(11,pw 11)] [.o 11 (.cells [iE x6.kind,sE x6.name,iE x6.n,lE 1 (ah x6.scopes),lE 5 (aj x6.kids),iE (aY (e13+1)),iE 0,sE [],iE 0,fE 1 (ah []),fE 5 (aj []),fE 12 (aQ [])])] [] ?_;refine .a [] T [(12,iE 0)] ?_;refine .oc 11 11 100054 290 (by kernel_rfl) ?_;refine .lL h1 rfl [2,7,8,9,10,11] (fun Zg s15=>[(12,iE (Zg:Int))]) (fun Zg s15=>[.c 11 11 (.gs (.own 100054) 12 (aQ s15)),.o 100054 (.tok (aQ s15).length 290)]) n2 [] (by kernel_rfl) (fun Zg s15 q16 afg ag9 h1=>?_);refine .a [.v (a2.length:Int)] (A (J6.len' a2) T) [(41,dE ((Zg:Int)<(a2.length:Int)))] ?_;refine .sn 2 J6 a2 (by kernel_rfl) (fun aha=>?_);refine .lc afg rfl (by kernel_rfl) (fun x17 ahb hc22 afh afi ady=>?_) (fun hc22=>?_)
  ·subst hc22;obtain⟨y2,h2,hn2⟩:=dG h1;obtain⟨e23,QW,h2⟩:=bnd h2;obtain⟨z24,abk,h2⟩:=bnd h2;refine .ad mixed [(4,[.cs [.sl 12 false (aQ x17)]]),(7,[.cs (wI e23)]),(9,[.sv (aQ [e23])]),(10,[.sv (aQ z24)])] [((aQ s15).length:Int)] (A (J6.ji afh) (A (iY.idx QW) (A (iY.lit [e23]) (A (iY.ap abk) T)))) [] [.c 11 11 (.gs (.own 100054) 12 (aQ z24)),.o 100054 (.tok (aQ z24).length 290)] [] ?_;refine .a [.v ((Zg+1:Nat):Int)] (A (wn (i:=Zg) (by omega)) T) [(12,iE ((Zg+1:Nat):Int))] ?_;cases h2;exact .nL rfl (Zg+1) _ afi ady hn2 [] (by kernel_rfl)
  ·subst hc22;have h1:=dR h1;obtain⟨z25,afj,h1⟩:=bnd h1;refine .aq [.sv (aQ [(⟨x6,(aY (e13+1)),(⟨0,[],0,[],[]⟩:Form),s15⟩:iw)]),.sv (aQ z25)] [((aQ s4).length:Int)] (A (iY.lit [(⟨x6,(aY (e13+1)),(⟨0,[],0,[],[]⟩:Form),s15⟩:iw)]) (A (iY.ap afj) T)) [(7,.gs (.own 100059) 12 (aQ z25))] [.o 100059 (.tok (aQ z25).length 290)] [] ?_;refine .a [.v ((i3+1:Nat):Int)] (A (wn (i:=i3) (by omega)) T) [(10,iE ((i3+1:Nat):Int))] ?_;cases h1;refine .kp [2,7,8,9,10] [] ?_;refine .dr 11 (by kernel_rfl) ?_;refine .dr 100054 (by kernel_rfl) ?_;exact .nL rfl (i3+1) _ hd8 kN hn1 [] (by kernel_rfl)
 ·subst bJ;have h0:=dR h0;refine .a [] T [(6,.gs (.own 100059) 12 (aQ s4))] ?_;cases h0;exact .rt hK
def iU (n:Nat) (a0:List Int) (a1:List Int):Option (Bool):=
 bI (bQ (fun(s2:Unit) (i1:Nat) (x4:Int)=>((nH n a1 x4).bind fun k10=>(if(!k10)=true then some (Sum.inl false) else some (Sum.inr ())):Option (Bool⊕Unit))) 0 a0 ()) (fun(s2:Unit)=>some true)
theorem vC (n:Nat):∀(a0:List Int) (a1:List Int) {r:Bool},iU n a0 a1=some r→aF X.E 234 [lE 1 (ah a0),lE 1 (ah a1)] [] (bE r) []:=by
 intro a0 a1 r h0;rw[iU] at h0;refine .n Tryz.func234 (fun L ks low K hl hL hlen hK=>?_);refine .a [] T [] ?_;refine .a [] T [(5,iE 0)] ?_;refine .lI h0 rfl [0,1] (fun i1 s2=>[(5,iE (i1:Int))]) n2 n2 [] (by kernel_rfl) (fun i1 s2 q3 hd5 PS h0=>?_);refine .a [.v (a0.length:Int)] (A (aO.len' a0) T) [(9,dE ((i1:Int)<(a0.length:Int)))] ?_;refine .sn 0 aO a0 (by kernel_rfl) (fun hb8=>?_);refine .lc hd5 rfl (by kernel_rfl) (fun x4 q32 fK hx4 hd6 lQ=>?_) (fun fK=>?_)
 ·subst fK;obtain⟨y1,h1,hw1,hn1⟩:=bg h0;obtain⟨k10,hk10,h1⟩:=bnd h1;refine .a [.cs [.v (.int .i64 x4)],.call [] (bE k10) []] (A (aO.ji hx4) (A (uy n _ _ hk10) T)) [(18,bE (!k10))] ?_;refine .jT h1 (fun bJ h1=>?_) (fun bJ h1=>?_)
  ·refine .a [] T [(4,bE false)] ?_;cases h1;cases hw1 _ rfl;exact .rt hK
  ·refine .a [.v ((i1+1:Nat):Int)] (A (wn (i:=i1) (by omega)) T) [(5,iE ((i1+1:Nat):Int))] ?_;cases h1;exact .nL rfl (i1+1) _ hd6 lQ (hn1 _ rfl) [] (by kernel_rfl)
 ·subst fK;have h0:=bM h0;refine .a [] T [(4,bE true)] ?_;cases h0;exact .rt hK
def pJ (n:Nat) (a0:List Bind) (a1:Form):Option (List Int):=
 Option.bind (dX (fun(s2:List Int) (i1:Nat) (x4:Bind)=>Option.bind (Option.bind ((if x4.name=a1.name then(iU n x4.scopes a1.scopes).bind fun k15=>some k15 else some false):Option (Bool)) (fun(Jp:Bool)=>(if Jp=true then(jy 8 s2 [(i1:Int)]).bind fun z13=>some z13 else some s2)):Option (List Int)) (fun(nD:List Int)=>some nD)) 0 a0 []) (fun(s2:List Int)=>some s2)
theorem IB (n:Nat):∀(a0:List Bind) (a1:Form) {r:List Int},pJ n a0 a1=some r→aF X.E 233 [lE 3 (ay a0),aE (ak a1)] [] (lE 1 (ah r)) []:=by
 intro a0 a1 r h0;rw[pJ] at h0;refine .n Tryz.func233 (fun L ks low K hl hL hlen hK=>?_);refine .af [] T [(3,pw 3)] [.o 3 (.cells ((ak a1).map .d))] ?_;refine .a [.sv (ah [])] (A (aO.lit []) T) [(5,fE 1 (ah []))] ?_;refine .a [] T [(6,iE 0)] ?_;refine .ow 5 100035 3 [0,3,6] rfl rfl (by kernel_rfl) ?_;refine .lL h0 rfl [0,3] (fun i1 s2=>[(5,.gs (.own 100035) 1 (ah s2)),(6,iE (i1:Int))]) (fun i1 s2=>[.o 100035 (.tok (ah s2).length 3)]) n2 [] (by kernel_rfl) (fun i1 s2 q3 hd5 PS h0=>?_);refine .a [.v (a0.length:Int)] (A (aX.len' a0) T) [(11,dE ((i1:Int)<(a0.length:Int)))] ?_;refine .sn 0 aX a0 (by kernel_rfl) (fun hb8=>?_);refine .lc hd5 rfl (by kernel_rfl) (fun x4 q32 fK hx4 hd6 lQ=>?_) (fun fK=>?_)
 ·subst fK;obtain⟨y1,h1,hn1⟩:=dG h0;refine .bPB h1 rfl [0,3,6] (fun nD=>[(5,.gs (.own 100035) 1 (ah nD))]) (fun nD=>[.o 100035 (.tok (ah nD).length 3)]) n1 (fun nD h1=>?_) (fun y2 h2 hj2=>?_)
  ·refine .a [.v ((i1+1:Nat):Int)] (A (wn (i:=i1) (by omega)) T) [(6,iE ((i1+1:Nat):Int))] ?_;cases h1;exact .nL rfl (i1+1) _ hd6 lQ hn1 [] (by kernel_rfl)
  ·refine .bP h2 rfl [0,3,5,6] (fun Jp=>[(31,bE Jp)]) n1 n1 (fun Jp h2=>?_) (fun y3 h3 hj3=>?_)
   ·refine .jT h2 (fun hc12 h2=>?_) (fun hc12 h2=>?_)
    ·obtain⟨z13,zK,h2⟩:=bnd h2;refine .aq [.sv (ah [(i1:Int)]),.sv (ah z13)] [((ah s2).length:Int)] (A (aO.lit [(i1:Int)]) (A (aO.ap zK) T)) [(5,.gs (.own 100035) 1 (ah z13))] [.o 100035 (.tok (ah z13).length 3)] [] ?_;cases h2;exact .lg hj2 []
    ·cases h2;exact .lg hj2 []
   ·by_cases g14:x4.name=a1.name
    ·have h3:=aI g14 h3;obtain⟨k15,rW,h3⟩:=bnd h3;refine .ad mixed ((2,[.cs (eu x4)])::(qb 9 2 true ((11,[.b true,.cs (eu x4)])::(qb 12 4 true [(16,[.b true,.call [] (bE k15) []]),(17,[.b true])])))) [] (A (aX.ji hx4) (R 2 (dt g14) (A (A (dt g14) (aX.ji hx4)) (R 4 (dt g14) (A (A (dt g14) (vC n _ _ rW)) (A (dt g14) T)))))) [(31,bE k15)] [] [] ?_;cases h3;exact .lg hj3 []
    ·have h3:=aJ g14 h3;refine .ad mixed ((2,[.cs (eu x4)])::(qb 9 9 false [])) [] (A (aX.ji hx4) (R 9 (df g14) T)) [(31,bE false)] [] [] ?_;cases h3;exact .lg hj3 []
 ·subst fK;have h0:=dR h0;refine .a [] T [(4,.gs (.own 100035) 1 (ah s2))] ?_;cases h0;exact .rt hK
def qo (n:Nat) (a0:List Bind) (a1:Form):Option (Int×Int):=
 (pJ n a0 a1).bind fun k1=>bI (bQ (fun(s3:Unit) (i2:Nat) (x5:Int)=>(Option.bind (dX (fun(s12:Bool) (i11:Nat) (x14:Int)=>Option.bind ((if s12=true then(gQ a0 x14).bind fun e21=>(gQ a0 x5).bind fun e22=>(iU n e21.scopes e22.scopes).bind fun k23=>some k23 else some false):Option (Bool)) (fun(wP:Bool)=>some wP)) 0 k1 true) (fun(s12:Bool)=>(if s12=true then some (Sum.inl (x5,1)) else some (Sum.inr ()))):Option ((Int×Int)⊕Unit))) 0 k1 ()) (fun(s3:Unit)=>(if(k1.length:Int)>0 then some (0,2) else some (0,0)))
theorem zQ (n:Nat):∀(a0:List Bind) (a1:Form) {r:Int×Int},qo n a0 a1=some r→aF X.E 220 [lE 3 (ay a0),aE (ak a1)] [] (.dQ [iE r.1,iE r.2]) []:=by
 intro a0 a1 r h0;rw[qo] at h0;refine .n Tryz.func220 (fun L ks low K hl hL hlen hK=>?_);refine .af [] T [(3,pw 3)] [.o 3 (.cells ((ak a1).map .d))] ?_;obtain⟨k1,hk1,h0⟩:=bnd h0;refine .a [.call [] (lE 1 (ah k1)) []] (A (IB n _ _ hk1) T) [(6,lE 1 (ah k1))] ?_;refine .a [] T [(7,iE 0)] ?_;refine .lI h0 rfl [0,6] (fun i2 s3=>[(7,iE (i2:Int))]) n2 n2 [] (by kernel_rfl) (fun i2 s3 q4 hd6 Yi h0=>?_);refine .a [.v (k1.length:Int)] (A (aO.len' k1) T) [(16,dE ((i2:Int)<(k1.length:Int)))] ?_;refine .sn 6 aO k1 (by kernel_rfl) (fun hb9=>?_);refine .lc hd6 rfl (by kernel_rfl) (fun x5 W9 jo hx5 hd7 vI=>?_) (fun jo=>?_)
 ·subst jo;obtain⟨y1,h1,hw1,hn1⟩:=bg h0;refine .a [] T [(8,bE true)] ?_;refine .a [] T [(9,iE 0)] ?_;refine .lL h1 rfl [0,6,7] (fun i11 s12=>[(8,bE s12),(9,iE (i11:Int))]) n2 n2 [] (by kernel_rfl) (fun i11 s12 q13 abl afk h1=>?_);refine .a [.v (k1.length:Int)] (A (aO.len' k1) T) [(22,dE ((i11:Int)<(k1.length:Int)))] ?_;refine .lc abl rfl (by kernel_rfl) (fun x14 afl hc18 UJ abm Xh=>?_) (fun hc18=>?_)
  ·subst hc18;obtain⟨y2,h2,hn2⟩:=dG h1;refine .bP h2 rfl [0,6,7,9] (fun wP=>[(8,bE wP)]) n1 n1 (fun wP h2=>?_) (fun y3 h3 hj3=>?_)
   ·refine .a [.v ((i11+1:Nat):Int)] (A (wn (i:=i11) (by omega)) T) [(9,iE ((i11+1:Nat):Int))] ?_;cases h2;exact .nL rfl (i11+1) _ abm Xh hn2 [] (by kernel_rfl)
   ·by_cases g20:s12=true
    ·have h3:=aI g20 h3;obtain⟨e21,FW,h3⟩:=bnd h3;obtain⟨e22,afm,h3⟩:=bnd h3;obtain⟨k23,QX,h3⟩:=bnd h3;refine .ad mixed (qb 2 3 true ((5,[.b true,.cs [.v (.int .i64 x14)]])::((6,[.b true])::((7,[.b true,.cs (eu e21)])::(qb 8 5 true ((13,[.b true,.cs [.v (.int .i64 x5)]])::((14,[.b true])::((15,[.b true,.cs (eu e22)])::(qb 16 2 true [(18,[.b true,.call [] (bE k23) []]),(19,[.b true])]))))))))) [] (R 3 g20 (A (A g20 (aO.ji UJ)) (A g20 (A (A g20 (aX.idx FW)) (R 5 g20 (A (A g20 (aO.ji hx5)) (A g20 (A (A g20 (aX.idx afm)) (R 2 g20 (A (A g20 (vC n _ _ QX)) (A g20 T))))))))))) [(8,bE k23)] [] [] ?_;cases h3;exact .lg hj3 []
    ·have h3:=aJ g20 h3;refine .ad mixed (qb 2 18 false []) [] (R 18 (Bool.eq_false_iff.2 g20) T) [(8,bE false)] [] [] ?_;cases h3;exact .lg hj3 []
  ·subst hc18;have h1:=dR h1;refine .a [] T [(45,bE s12)] ?_;refine .jT h1 (fun hc24 h1=>?_) (fun hc24 h1=>?_)
   ·refine .a [.cs [.v (.int .i64 x5)]] (A (aO.ji hx5) T) [(4,iE x5),(5,iE 1)] ?_;cases h1;cases hw1 _ rfl;exact .rt hK
   ·refine .a [.v ((i2+1:Nat):Int)] (A (wn (i:=i2) (by omega)) T) [(7,iE ((i2+1:Nat):Int))] ?_;cases h1;exact .nL rfl (i2+1) _ hd7 vI (hn1 _ rfl) [] (by kernel_rfl)
 ·subst jo;have h0:=bM h0;refine .a [.v (k1.length:Int)] (A (aO.len' k1) T) [(52,dE ((k1.length:Int)>0))] ?_;refine .jP h0 (fun hc25 h0=>?_) (fun hc25 h0=>?_)
  ·refine .a [] T [(4,iE 0),(5,iE 2)] ?_;cases h0;exact .rt hK
  ·refine .a [] T [(4,iE 0),(5,iE 0)] ?_;cases h0;exact .rt hK
def wQ (n:Nat) (a0:List Bind) (a1:Form) (a2:Form):Option (Bool):=
 (qo n a0 a1).bind fun k1=>(qo n a0 a2).bind fun k2=>Option.bind ((if ¬k1.2=k2.2 then some true else some (decide (k1.2=2))):Option (Bool)) (fun(o3:Bool)=>(if o3=true then some false else(if k1.2=0 then some (decide (a1.name=a2.name)) else(gQ a0 k1.1).bind fun e6=>(gQ a0 k2.1).bind fun e7=>some (decide (e6.id=e7.id)))))
theorem OA (n:Nat):∀(a0:List Bind) (a1:Form) (a2:Form) {r:Bool},wQ n a0 a1 a2=some r→aF X.E 258 [lE 3 (ay a0),aE (ak a1),aE (ak a2)] [] (bE r) []:=by
 intro a0 a1 a2 r h0;rw[wQ] at h0;refine .n Tryz.func258 (fun L ks low K hl hL hlen hK=>?_);refine .af [] T [(4,pw 4),(5,pw 5)] [.o 4 (.cells ((ak a1).map .d)),.o 5 (.cells ((ak a2).map .d))] ?_;obtain⟨k1,hk1,h0⟩:=bnd h0;refine .a [.call [] (.dQ [iE k1.1,iE k1.2]) []] (A (zQ n _ _ hk1) T) [(7,iE k1.1),(8,iE k1.2)] ?_;obtain⟨k2,hk2,h0⟩:=bnd h0;refine .a [.call [] (.dQ [iE k2.1,iE k2.2]) []] (A (zQ n _ _ hk2) T) [(9,iE k2.1),(10,iE k2.2)] ?_;refine .bP h0 rfl [0,4,5,7,8,9] (fun o3=>[(29,bE o3)]) n1 n1 (fun o3 h0=>?_) (fun y1 h1 hj1=>?_)
 ·refine .jT h0 (fun hc4 h0=>?_) (fun hc4 h0=>?_)
  ·refine .a [] T [(6,bE false)] ?_;cases h0;exact .rt hK
  ·refine .a [] T [(31,dE (k1.2=0))] ?_;refine .jP h0 (fun hc5 h0=>?_) (fun hc5 h0=>?_)
   ·refine .a [] T [(6,dE (a1.name=a2.name))] ?_;cases h0;exact .rt hK
   ·obtain⟨e6,U4,h0⟩:=bnd h0;obtain⟨e7,Fa,h0⟩:=bnd h0;refine .ad mixed [(2,[.cs (eu e6)]),(7,[.cs (eu e7)])] [] (A (aX.idx U4) (A (aX.idx Fa) T)) [(6,dE (e6.id=e7.id))] [] [] ?_;cases h0;exact .rt hK
 ·by_cases g8:¬k1.2=k2.2
  ·have h1:=aI g8 h1;refine .a (rb 3 true []) (R 3 (dt g8) T) [(29,bE true)] ?_;cases h1;exact .lg hj1 []
  ·have h1:=aJ g8 h1;refine .a (rb 3 false []) (R 3 (df g8) T) [(29,dE (k1.2=2))] ?_;cases h1;exact .lg hj1 []
mutual
def sW:Nat→(List Bind)→(List Form)→(List Form)→(List Form)→Option ((List iw)×Bool)
 | 0,_,_,_,_=>none
 | n+1,a0,a1,a2,a3=>iterM n (fun(s1:Int×Int)=>((if(aY (s1.2+1))<(a1.length:Int) then Option.bind ((gQ a1 (aY (s1.2+1))).bind fun e6=>(gq n e6).bind fun k7=>(if k7=true then some s1.2 else some s1.1):Option (Int)) (fun(o5:Int)=>some (Sum.inr (o5,(aY (s1.2+1))))) else Option.bind ((if s1.1<0 then(if ¬(a1.length:Int)=(a3.length:Int) then some true else(if s1.1≥0 then some (decide ((a3.length:Int)<(aY ((a1.length:Int)-2)))) else some false)) else(if s1.1≥0 then some (decide ((a3.length:Int)<(aY ((a1.length:Int)-2)))) else some false)):Option (Bool)) (fun(o9:Bool)=>(if o9=true then some (Sum.inl ([],false)) else bI (bQ (fun(s12:(List iw)×Int) (i11:Nat) (x14:Form)=>(bI ((gq n x14).bind fun k20=>(if k20=true then some (Sum.inr (s12.1,s12.2)) else(if ¬(i11:Int)=s1.1 then(gQ a3 s12.2).bind fun e23=>(iq n a0 x14 a2 e23).bind fun k24=>(if(!k24.2)=true then some (Sum.inl (Sum.inl (Sum.inl (s12.1,false)))) else(jy 192 s12.1 k24.1).bind fun z26=>some (Sum.inr (z26,(aY (s12.2+1))))) else iterM n (fun(MX:Int×(List (List iw))×Int)=>((if MX.2.2>0 then(gQ a3 MX.1).bind fun e31=>(iq n a0 x14 a2 e31).bind fun k32=>(if(!k32.2)=true then some (Sum.inl (Sum.inl (Sum.inl (Sum.inl (s12.1,false))))) else(jy 24 MX.2.1 [k32.1]).bind fun z34=>some (Sum.inr ((aY (MX.1+1)),z34,(aY (MX.2.2-1))))) else(zO n x14 a2 MX.2.1).bind fun Fb=>(jy 192 s12.1 Fb).bind fun z36=>some (Sum.inl (Sum.inr (z36,MX.1)))):Option ((((((List iw)×Bool)⊕(Int×Int))⊕((List iw)×Int))⊕((List iw)×Int))⊕(Int×(List (List iw))×Int)))) (s12.2,[],(aY ((a3.length:Int)-(aY ((a1.length:Int)-2))))))):Option (((((List iw)×Bool)⊕(Int×Int))⊕((List iw)×Int))⊕((List iw)×Int))) (fun(wP:(List iw)×Int)=>some (Sum.inr (wP.1,wP.2))):Option ((((List iw)×Bool)⊕(Int×Int))⊕((List iw)×Int)))) 0 a1 ([],0)) (fun(s12:(List iw)×Int)=>some (Sum.inl (s12.1,true)))))):Option (((List iw)×Bool)⊕(Int×Int)))) ((-1),0)
def iq:Nat→(List Bind)→Form→(List Form)→Form→Option ((List iw)×Bool)
 | 0,_,_,_,_=>none
 | n+1,a0,a1,a2,a3=>(if a1.kind=1 then(if a1.name=[95] then some ([],true) else(vw n a2 a1).bind fun k3=>(if k3=true then Option.bind ((if a3.kind=1 then(wQ n a0 a1 a3).bind fun k7=>some k7 else some false):Option (Bool)) (fun(o5:Bool)=>some ([],o5)) else(jy 192 [] [(⟨a1,0,a3,[]⟩:iw)]).bind fun z8=>some (z8,true))) else(if a1.kind=2 then(eX n a1 a3).bind fun k10=>some ([],k10) else(if ¬a3.kind=3 then some ([],false) else(sW n a0 a1.kids a2 a3.kids).bind fun k12=>some (k12.1,k12.2))))
end
theorem Fe (n:Nat):(∀(a0:List Bind) (a1:List Form) (a2:List Form) (a3:List Form) {r:(List iw)×Bool},sW n a0 a1 a2 a3=some r→aF X.E 259 [lE 3 (ay a0),lE 5 (aj a1),lE 5 (aj a2),lE 5 (aj a3)] [] (.dQ [lE 12 (aQ r.1),bE r.2]) [])∧(∀(a0:List Bind) (a1:Form) (a2:List Form) (a3:Form) {r:(List iw)×Bool},iq n a0 a1 a2 a3=some r→aF X.E 249 [lE 3 (ay a0),aE (ak a1),lE 5 (aj a2),aE (ak a3)] [] (.dQ [lE 12 (aQ r.1),bE r.2]) []):=by
 induction n with
 | zero=>exact⟨(by intros; rename_i h; cases h),(by intros; rename_i h; cases h)⟩
 | succ n ih=>
  refine⟨?_,?_⟩
  ·intro a0 a1 a2 a3 r h0;rw[sW] at h0;refine .n Tryz.func259 (fun L ks low K hl hL hlen hK=>?_);refine .a [] T [] ?_;refine .a [.sv (aQ [])] (A (iY.lit []) T) [(10,fE 12 (aQ []))] ?_;refine .a [] T [(11,iE (-1))] ?_;refine .a [] T [(12,iE 0)] ?_;refine .it h0 rfl [0,1,2,3,10] (fun s1=>[(11,iE s1.1),(12,iE s1.2)]) n1 n1 [] (by kernel_rfl) (fun Xf s1 h0=>?_);obtain⟨y1,h1,hw1,hn1⟩:=bT h0;refine .a [.pl,.v (a1.length:Int)] (A (aA.len' a1) T) [(26,dE ((aY (s1.2+1))<(a1.length:Int)))] ?_;refine .sn 1 aA a1 (by kernel_rfl) (fun hb3=>?_);refine .jP h1 (fun hc4 h1=>?_) (fun hc4 h1=>?_)
   ·refine .bPB h1 rfl [0,1,2,3,10,12] (fun o5=>[(11,iE o5)]) n1 n1 (fun o5 h1=>?_) (fun y2 h2 hj2=>?_)
    ·refine .a [.pl] T [(12,iE (aY (s1.2+1)))] ?_;cases h1;exact .nI rfl _ (hn1 _ rfl) [] (by kernel_rfl)
    ·obtain⟨e6,U4,h2⟩:=bnd h2;obtain⟨k7,Ja,h2⟩:=bnd h2;refine .a [.pl,.cs (ak e6),.call [] (bE k7) []] (A (aA.idx U4) (A (fP n _ Ja) T)) [(34,bE k7)] ?_;refine .jT h2 (fun hc8 h2=>?_) (fun hc8 h2=>?_)
     ·refine .a [] T [(11,iE s1.2)] ?_;cases h2;exact .lg hj2 []
     ·cases h2;exact .lg hj2 []
   ·refine .bP h1 rfl [0,1,2,3,10,11] (fun o9=>[(56,bE o9)]) n1 n1 (fun o9 h1=>?_) (fun y2 h2 hj2=>?_)
    ·refine .jT h1 (fun jo h1=>?_) (fun jo h1=>?_)
     ·refine .a [] T [(8,fE 12 (aQ [])),(9,bE false)] ?_;cases h1;cases hw1 _ rfl;exact .rt hK
     ·refine .a [] T [(13,iE 0)] ?_;refine .a [] T [(14,iE 0)] ?_;refine .ow 10 100091 290 [0,1,2,3,11,13,14] rfl rfl (by kernel_rfl) ?_;refine .lI h1 rfl [0,1,2,3,11] (fun i11 s12=>[(10,.gs (.own 100091) 12 (aQ s12.1)),(13,iE s12.2),(14,iE (i11:Int))]) (fun i11 s12=>[.o 100091 (.tok (aQ s12.1).length 290)]) n2 [] (by kernel_rfl) (fun i11 s12 q13 abl afk h1=>?_);refine .a [.v (a1.length:Int)] (A (aA.len' a1) T) [(61,dE ((i11:Int)<(a1.length:Int)))] ?_;refine .lc abl rfl (by kernel_rfl) (fun x14 afl hc18 UJ abm Xh=>?_) (fun hc18=>?_)
      ·subst hc18;obtain⟨y2,h2,hw2,hn2⟩:=bg h1;refine .bSB h2 rfl [0,1,2,3,11,14] (fun wP=>[(10,.gs (.own 100091) 12 (aQ wP.1)),(13,iE wP.2)]) (fun wP=>[.o 100091 (.tok (aQ wP.1).length 290)]) n1 (fun wP h2=>?_) (fun y3 h3 hj3 hw3=>?_)
       ·refine .a [.v ((i11+1:Nat):Int)] (A (wn (i:=i11) (by omega)) T) [(14,iE ((i11+1:Nat):Int))] ?_;cases h2;exact .nL rfl (i11+1) _ abm Xh (hn2 _ rfl) [] (by kernel_rfl)
       ·obtain⟨k20,Ir,h3⟩:=bnd h3;refine .a [.cs (ak x14),.call [] (bE k20) []] (A (aA.ji UJ) (A (fP n _ Ir) T)) [(68,bE k20)] ?_;refine .jT h3 (fun hc21 h3=>?_) (fun hc21 h3=>?_)
        ·cases h3;exact .lg (hj3 _ rfl) []
        ·refine .a [] T [(71,dE (¬(i11:Int)=s1.1))] ?_;refine .jP h3 (fun hc22 h3=>?_) (fun hc22 h3=>?_)
         ·obtain⟨e23,QW,h3⟩:=bnd h3;obtain⟨k24,Es,h3⟩:=bnd h3;refine .ad mixed [(3,[.cs (ak x14)]),(8,[.cs (ak e23)]),(10,[.call [] (.dQ [lE 12 (aQ k24.1),bE k24.2]) []])] [] (A (aA.ji UJ) (A (aA.idx QW) (A (ih.2 _ _ _ _ Es) T))) [(15,lE 12 (aQ k24.1)),(16,bE k24.2)] [] [] ?_;refine .a [] T [(87,bE (!k24.2))] ?_;refine .jT h3 (fun hc25 h3=>?_) (fun hc25 h3=>?_)
          ·refine .a [] T [(8,.gs (.own 100091) 12 (aQ s12.1)),(9,bE false)] ?_;cases h3;cases hw3 _ rfl;cases hw2 _ rfl;cases hw1 _ rfl;exact .rt hK
          ·obtain⟨z26,abn,h3⟩:=bnd h3;refine .aq [.sv (aQ z26)] [((aQ s12.1).length:Int)] (A (iY.ap abn) T) [(10,.gs (.own 100091) 12 (aQ z26))] [.o 100091 (.tok (aQ z26).length 290)] [] ?_;refine .a [.pl] T [(13,iE (aY (s12.2+1)))] ?_;cases h3;exact .lg (hj3 _ rfl) []
         ·refine .a [.sv (um [])] (A (J6.lit []) T) [(17,fE 1 (um []))] ?_;refine .a [.v (a3.length:Int),.v (a1.length:Int),.pl,.pl] (A (aA.len' a3) (A (aA.len' a1) T)) [(18,iE (aY ((a3.length:Int)-(aY ((a1.length:Int)-2)))))] ?_;refine .sn 3 aA a3 (by kernel_rfl) (fun ahc=>?_);refine .ow 17 100125 278 [0,1,2,3,10,11,13,14,18] rfl rfl (by kernel_rfl) ?_;refine .it h3 rfl [0,1,2,3,10,11,14] (fun MX=>[(13,iE MX.1),(17,.gs (.own 100125) 1 (um MX.2.1)),(18,iE MX.2.2)]) (fun MX=>[.o 100125 (.tok (um MX.2.1).length 278)]) n1 [] (by kernel_rfl) (fun ahd MX h3=>?_);obtain⟨y4,h4,hw4,hn4⟩:=bT h3;refine .a [] T [(102,dE (MX.2.2>0))] ?_;refine .jP h4 (fun Xd h4=>?_) (fun Xd h4=>?_)
          ·obtain⟨e31,OB,h4⟩:=bnd h4;obtain⟨k32,IC,h4⟩:=bnd h4;refine .ad mixed [(3,[.cs (ak x14)]),(8,[.cs (ak e31)]),(10,[.call [] (.dQ [lE 12 (aQ k32.1),bE k32.2]) []])] [] (A (aA.ji UJ) (A (aA.idx OB) (A (ih.2 _ _ _ _ IC) T))) [(19,lE 12 (aQ k32.1)),(20,bE k32.2)] [] [] ?_;refine .a [] T [(120,bE (!k32.2))] ?_;refine .jT h4 (fun Xe h4=>?_) (fun Xe h4=>?_)
           ·refine .a [] T [(8,.gs (.own 100091) 12 (aQ s12.1)),(9,bE false)] ?_;cases h4;cases hw4 _ rfl;cases hw3 _ rfl;cases hw2 _ rfl;cases hw1 _ rfl;exact .rt hK
           ·obtain⟨z34,afn,h4⟩:=bnd h4;refine .aq [.sv (um [k32.1]),.sv (um z34)] [((um MX.2.1).length:Int)] (A (J6.lit [k32.1]) (A (J6.ap afn) T)) [(17,.gs (.own 100125) 1 (um z34))] [.o 100125 (.tok (um z34).length 278)] [] ?_;refine .a [.pl] T [(13,iE (aY (MX.1+1)))] ?_;refine .a [.pl] T [(18,iE (aY (MX.2.2-1)))] ?_;cases h4;exact .nI rfl _ (hn4 _ rfl) [] (by kernel_rfl)
          ·obtain⟨Fb,LP,h4⟩:=bnd h4;obtain⟨z36,afo,h4⟩:=bnd h4;refine .aq [.cs (ak x14),.call [] (lE 12 (aQ Fb)) [],.sv (aQ z36)] [((aQ s12.1).length:Int)] (A (aA.ji UJ) (A (QV n _ _ _ LP) (A (iY.ap afo) T))) [(10,.gs (.own 100091) 12 (aQ z36))] [.o 100091 (.tok (aQ z36).length 290)] [] ?_;cases h4;cases hw4 _ rfl;refine .kp [0,1,2,3,10,11,13,14] [] ?_;refine .dr 100125 (by kernel_rfl) ?_;exact .lg (hj3 _ rfl) []
      ·subst hc18;have h1:=bM h1;refine .a [] T [(8,.gs (.own 100091) 12 (aQ s12.1)),(9,bE true)] ?_;cases h1;cases hw1 _ rfl;exact .rt hK
    ·by_cases LQ:s1.1<0
     ·have h2:=aI LQ h2;by_cases Zh:¬(a1.length:Int)=(a3.length:Int)
      ·have h2:=aI Zh h2;refine .a (.b true::(.b true::(.v (a1.length:Int)::(.b true::(.b true::(.v (a3.length:Int)::(rb 7 true []))))))) (A (dt LQ) (A (A (dt LQ) (aA.len' a1)) (A (dt LQ) (A (A (dt LQ) (aA.len' a3)) (R 2 (dt LQ) (R 5 (dt Zh) T)))))) [(56,bE true)] ?_;refine .sn 3 aA a3 (by kernel_rfl) (fun aeZ=>?_);cases h2;exact .lg hj2 []
      ·have h2:=aJ Zh h2;by_cases Yk:s1.1≥0
       ·have h2:=aI Yk h2;refine .a (.b true::(.b true::(.v (a1.length:Int)::(.b true::(.b true::(.v (a3.length:Int)::(.b true::(.b true::(rb 3 false [.b true,.b true,.v (a3.length:Int),.b true,.b true,.v (a1.length:Int),.b true,.pl,.b true,.b false,.b true,.b false]))))))))) (A (dt LQ) (A (A (dt LQ) (aA.len' a1)) (A (dt LQ) (A (A (dt LQ) (aA.len' a3)) (R 2 (dt LQ) (R 3 (df Zh) (A (dt Yk) (A (A (dt Yk) (aA.len' a3)) (A (dt Yk) (A (A (dt Yk) (aA.len' a1)) (R 2 (dt Yk) (A (A (df Zh) (dt Yk)) (A (df Zh) T))))))))))))) [(56,dE ((a3.length:Int)<(aY ((a1.length:Int)-2))))] ?_;refine .sn 3 aA a3 (by kernel_rfl) (fun ahe=>?_);cases h2;exact .lg hj2 []
       ·have h2:=aJ Yk h2;refine .a (.b true::(.b true::(.v (a1.length:Int)::(.b true::(.b true::(.v (a3.length:Int)::(.b true::(.b true::(rb 12 false []))))))))) (A (dt LQ) (A (A (dt LQ) (aA.len' a1)) (A (dt LQ) (A (A (dt LQ) (aA.len' a3)) (R 2 (dt LQ) (R 3 (df Zh) (R 6 (df Yk) (A (A (df Zh) (df Yk)) (A (df Zh) T))))))))) [(56,bE false)] ?_;refine .sn 3 aA a3 (by kernel_rfl) (fun ahf=>?_);cases h2;exact .lg hj2 []
     ·have h2:=aJ LQ h2;by_cases Yl:s1.1≥0
      ·have h2:=aI Yl h2;refine .a (rb 9 false [.b true,.b true,.v (a3.length:Int),.b true,.b true,.v (a1.length:Int),.b true,.pl,.b true,.b false,.b true,.b false]) (R 6 (df LQ) (R 3 B0 (A (dt Yl) (A (A (dt Yl) (aA.len' a3)) (A (dt Yl) (A (A (dt Yl) (aA.len' a1)) (R 2 (dt Yl) (A (A B0 (dt Yl)) (A B0 T))))))))) [(56,dE ((a3.length:Int)<(aY ((a1.length:Int)-2))))] ?_;refine .sn 3 aA a3 (by kernel_rfl) (fun ahg=>?_);cases h2;exact .lg hj2 []
      ·have h2:=aJ Yl h2;refine .a (rb 18 false []) (R 6 (df LQ) (R 3 B0 (R 6 (df Yl) (A (A B0 (df Yl)) (A B0 T))))) [(56,bE false)] ?_;cases h2;exact .lg hj2 []
  ·intro a0 a1 a2 a3 r h0;rw[iq] at h0;refine .n Tryz.func249 (fun L ks low K hl hL hlen hK=>?_);refine .af [] T [(5,pw 5),(7,pw 7)] [.o 5 (.cells ((ak a1).map .d)),.o 7 (.cells ((ak a3).map .d))] ?_;refine .a [.sv (aQ [])] (A (iY.lit []) T) [(10,fE 12 (aQ []))] ?_;refine .a [] T [(14,dE (a1.kind=1))] ?_;refine .jP h0 (fun hc1 h0=>?_) (fun hc1 h0=>?_)
   ·refine .a [] T [(17,dE (a1.name=[95]))] ?_;refine .jP h0 (fun hc2 h0=>?_) (fun hc2 h0=>?_)
    ·refine .a [] T [(8,fE 12 (aQ [])),(9,bE true)] ?_;cases h0;exact .rt hK
    ·obtain⟨k3,hk3,h0⟩:=bnd h0;refine .a [.call [] (bE k3) []] (A (AO n _ _ hk3) T) [(21,bE k3)] ?_;refine .jT h0 (fun hc4 h0=>?_) (fun hc4 h0=>?_)
     ·refine .bP h0 rfl [] (fun o5=>[(8,fE 12 (aQ [])),(9,bE o5)]) n1 n1 (fun o5 h0=>?_) (fun y1 h1 hj1=>?_)
      ·cases h0;exact .rt hK
      ·by_cases g6:a3.kind=1
       ·have h1:=aI g6 h1;obtain⟨k7,Ja,h1⟩:=bnd h1;refine .a (rb 4 true [.call [] (bE k7) [],.b true]) (R 3 (dt g6) (A (A (dt g6) (OA n _ _ _ Ja)) (A (dt g6) T))) [(8,fE 12 (aQ [])),(9,bE k7)] ?_;cases h1;exact .lg hj1 []
       ·have h1:=aJ g6 h1;refine .a (rb 5 false []) (R 5 (df g6) T) [(8,fE 12 (aQ [])),(9,bE false)] ?_;cases h1;exact .lg hj1 []
     ·obtain⟨z8,Zi,h0⟩:=bnd h0;refine .af [.sv (aQ [(⟨a1,0,a3,[]⟩:iw)]),.sv (aQ z8)] (A (iY.lit [(⟨a1,0,a3,[]⟩:iw)]) (A (iY.ap Zi) T)) [(8,.gs (.own 100037) 12 (aQ z8)),(9,bE true)] [.o 100037 (.tok (aQ z8).length 290)] ?_;cases h0;exact .rt hK
   ·refine .a [] T [(40,dE (a1.kind=2))] ?_;refine .jP h0 (fun fK h0=>?_) (fun fK h0=>?_)
    ·obtain⟨k10,hk10,h0⟩:=bnd h0;refine .a [.call [] (bE k10) []] (A (gW n _ _ hk10) T) [(8,fE 12 (aQ [])),(9,bE k10)] ?_;cases h0;exact .rt hK
    ·refine .a [] T [(47,dE (¬a3.kind=3))] ?_;refine .jP h0 (fun bJ h0=>?_) (fun bJ h0=>?_)
     ·refine .a [] T [(8,fE 12 (aQ [])),(9,bE false)] ?_;cases h0;exact .rt hK
     ·obtain⟨k12,hk12,h0⟩:=bnd h0;refine .a [.call [] (.dQ [lE 12 (aQ k12.1),bE k12.2]) []] (A (ih.1 _ _ _ _ hk12) T) [(8,lE 12 (aQ k12.1)),(9,bE k12.2)] ?_;cases h0;exact .rt hK
theorem Z8 (n:Nat):∀(a0:List Bind) (a1:List Form) (a2:List Form) (a3:List Form) {r:(List iw)×Bool},sW n a0 a1 a2 a3=some r→aF X.E 259 [lE 3 (ay a0),lE 5 (aj a1),lE 5 (aj a2),lE 5 (aj a3)] [] (.dQ [lE 12 (aQ r.1),bE r.2]) []:=(Fe n).1
theorem DC (n:Nat):∀(a0:List Bind) (a1:Form) (a2:List Form) (a3:Form) {r:(List iw)×Bool},iq n a0 a1 a2 a3=some r→aF X.E 249 [lE 3 (ay a0),aE (ak a1),lE 5 (aj a2),aE (ak a3)] [] (.dQ [lE 12 (aQ r.1),bE r.2]) []:=(Fe n).2
end Go.Ev
