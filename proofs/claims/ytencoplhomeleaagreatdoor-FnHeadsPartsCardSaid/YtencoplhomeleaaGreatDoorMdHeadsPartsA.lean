/- Models of the functions that FnHeadsParts reaches. No condition. -/
import Derived.Test.YtencoplhomeleaaGreatDoorEvTri
import Derived.Test.YtencoplhomeleaaGreatDoorProg
import Derived.KernelRfl
namespace Go.Ev
open Go.Proofs Go.Mx
set_option linter.unusedVariables false
set_option maxRecDepth 10000
def tT:List (Nat×(Nat×Nat×Shp)):=[(3,(1,8,.int .i64)),(5,(1,1,.int .u8)),(9,(1,16,.str)),(22,(1,24,.slice 3)),(30,(1,24,.slice 32)),(32,(5,80,.struct [(0,1),(1,1),(2,1),(3,1),(4,1)])),(33,(1,24,.slice 35)),(35,(11,168,.struct [(0,1),(1,1),(2,1),(3,1),(4,1),(5,5),(10,1)])),(44,(1,24,.slice 5)),(53,(1,24,.slice 9)),(58,(1,24,.slice 98)),(98,(10,160,.struct [(0,5),(5,5)])),(104,(6,96,.array 6 9)),(154,(2,32,.struct [(0,1),(1,1)])),(178,(1,24,.slice 248)),(179,(1,24,.slice 284)),(181,(5,72,.struct [(0,1),(1,1),(2,1),(3,1),(4,1)])),(248,(3,48,.struct [(0,1),(1,1),(2,1)])),(284,(3,56,.struct [(0,1),(1,1),(2,1)])),(300,(1,24,.slice 309)),(309,(12,192,.struct [(0,5),(5,1),(6,5),(11,1)])),(317,(1,24,.slice 300))]
def tZ:List (Nat×List KD):=[(3,[.v (.int .i64 0)]),(9,[.s []]),(22,[.sl 1 true (ksInt [])]),(32,[.v (.int .i64 0),.s [],.v (.int .i64 0),.sl 1 true (ksInt []),.sl 5 true (ksForm [])]),(35,[.v (.int .i64 0),.v (.int .i64 0),.s [],.v (.int .i64 0),.sl 1 true (ksInt []),.v (.int .i64 0),.s [],.v (.int .i64 0),.sl 1 true (ksInt []),.sl 5 true (ksForm []),.sl 11 true (ksCore [])]),(98,[.v (.int .i64 0),.s [],.v (.int .i64 0),.sl 1 true (ksInt []),.sl 5 true (ksForm []),.v (.int .i64 0),.s [],.v (.int .i64 0),.sl 1 true (ksInt []),.sl 5 true (ksForm [])]),(154,[.sl 1 true (ksByte []),.v (.int .i64 0)]),(181,[.sl 3 true (ksBind []),.sl 3 true (ksMacro []),.v (.int .i64 0),.v (.int .i64 0),.v (.int .i64 0)]),(248,[.s [],.sl 1 true (ksInt []),.v (.int .i64 0)]),(284,[.v (.int .i64 0),.sl 5 true (ksForm []),.sl 10 true (ksRule [])]),(300,[.sl 12 true (ksHit [])]),(309,[.v (.int .i64 0),.s [],.v (.int .i64 0),.sl 1 true (ksInt []),.sl 5 true (ksForm []),.v (.int .i64 0),.v (.int .i64 0),.s [],.v (.int .i64 0),.sl 1 true (ksInt []),.sl 5 true (ksForm []),.sl 12 true (ksHit [])])]
theorem tT_ok:allT (fun i x=>tShape Tryz.prog i=some x) tT:=by
 refine⟨?_,?_,?_,?_,?_,?_,?_,?_,?_,?_,?_,?_,?_,?_,?_,?_,?_,?_,?_,?_,?_,?_,trivial⟩ <;> (show tShape _ _=_; kernel_rfl)
theorem tZ_ok:allT (fun i x=>∃zs,tZero Tryz.prog i=some zs∧ZeroL (KD.DL x) zs) tZ:=
 ⟨⟨_,(by kernel_rfl:tZero Tryz.prog 3=some [.int .i64 0]),(.v .nil)⟩,⟨_,(by kernel_rfl:tZero Tryz.prog 9=some [.string (mkS [])]),(.v .nil)⟩,⟨_,(by kernel_rfl:tZero Tryz.prog 22=some [.slice none 0 0]),(.sl .nil)⟩,⟨_,(by kernel_rfl:tZero Tryz.prog 32=some [.int .i64 0,.string (mkS []),.int .i64 0,.slice none 0 0,.slice none 0 0]),(.v (.v (.v (.sl (.sl .nil)))))⟩,⟨_,(by kernel_rfl:tZero Tryz.prog 35=some [.int .i64 0,.int .i64 0,.string (mkS []),.int .i64 0,.slice none 0 0,.int .i64 0,.string (mkS []),.int .i64 0,.slice none 0 0,.slice none 0 0,.slice none 0 0]),(.v (.v (.v (.v (.sl (.v (.v (.v (.sl (.sl (.sl .nil)))))))))))⟩,⟨_,(by kernel_rfl:tZero Tryz.prog 98=some [.int .i64 0,.string (mkS []),.int .i64 0,.slice none 0 0,.slice none 0 0,.int .i64 0,.string (mkS []),.int .i64 0,.slice none 0 0,.slice none 0 0]),(.v (.v (.v (.sl (.sl (.v (.v (.v (.sl (.sl .nil))))))))))⟩,⟨_,(by kernel_rfl:tZero Tryz.prog 154=some [.slice none 0 0,.int .i64 0]),(.sl (.v .nil))⟩,⟨_,(by kernel_rfl:tZero Tryz.prog 181=some [.slice none 0 0,.slice none 0 0,.int .i64 0,.int .i64 0,.int .i64 0]),(.sl (.sl (.v (.v (.v .nil)))))⟩,⟨_,(by kernel_rfl:tZero Tryz.prog 248=some [.string (mkS []),.slice none 0 0,.int .i64 0]),(.v (.sl (.v .nil)))⟩,⟨_,(by kernel_rfl:tZero Tryz.prog 284=some [.int .i64 0,.slice none 0 0,.slice none 0 0]),(.v (.sl (.sl .nil)))⟩,⟨_,(by kernel_rfl:tZero Tryz.prog 300=some [.slice none 0 0]),(.sl .nil)⟩,⟨_,(by kernel_rfl:tZero Tryz.prog 309=some [.int .i64 0,.string (mkS []),.int .i64 0,.slice none 0 0,.slice none 0 0,.int .i64 0,.int .i64 0,.string (mkS []),.int .i64 0,.slice none 0 0,.slice none 0 0,.slice none 0 0]),(.v (.v (.v (.sl (.sl (.v (.v (.v (.v (.sl (.sl (.sl .nil))))))))))))⟩,trivial⟩
def lp2:List (List UInt8):=[[108,105,115,116],[43],[60],[61],[104,101,97,100],[116,97,105,108]]
def gp2:List KD:=[.s [108,105,115,116],.s [43],.s [60],.s [61],.s [104,101,97,100],.s [116,97,105,108]]
def globK:Nat→KD
 | 2=>.ro gp2
 | _=>.any
noncomputable def E0:Setting:=⟨Tryz.prog,fun g=>(globK g).D,fun g=>KD.keyless _ _⟩
noncomputable def X:Ctx:=⟨E0,globK,fun _=>rfl,⟨lkT tT,lkT tZ,lk_all tT_ok,lk_all tZ_ok⟩⟩
theorem mixed:X.E.P.follows .mixedOrders=true:=by kernel_rfl
def q1listdb38:List UInt8:=[40,43,32,49,32,108,105,115,116,41]
def qheadtailad8e:List UInt8:=[40,104,101,97,100,32,40,116,97,105,108,32,40,108,105,115,116,32,49,32,50,32,51,41,41,41]
def qif01quot475c:List UInt8:=[40,105,102,32,48,32,49,32,40,113,117,111,116,101,32,40,97,32,40,98,41,32,51,41,41,41]
def qlambdaww84a8:List UInt8:=[40,40,108,97,109,98,100,97,32,40,119,41,32,40,119,32,119,41,41,32,40,108,97,109,98,100,97,32,40,119,41,32,40,119,32,119,41,41,41]
def qlambdaxl5d0d:List UInt8:=[40,108,97,109,98,100,97,32,40,120,41,32,40,108,97,109,98,100,97,32,40,120,32,121,41,32,40,120,32,121,32,40,113,117,111,116,101,32,40,120,32,49,41,41,41,41,41]
def qlambdaxx5051:List UInt8:=[40,40,108,97,109,98,100,97,32,40,120,41,32,120,41,41]
def qlambdaxy5aae:List UInt8:=[40,40,108,97,109,98,100,97,32,40,120,32,121,41,32,40,108,105,115,116,32,121,32,120,41,41,32,49,32,50,41]
def qletflamba3b8:List UInt8:=[40,108,101,116,32,40,40,102,32,40,108,97,109,98,100,97,32,40,120,41,32,40,43,32,120,32,49,41,41,41,41,32,40,102,32,40,102,32,53,41,41,41]
def qletglambf856:List UInt8:=[40,108,101,116,32,40,40,103,32,40,108,97,109,98,100,97,32,40,104,41,32,40,108,97,109,98,100,97,32,40,120,41,32,40,104,32,40,104,32,120,41,41,41,41,41,41,32,40,40,103,32,40,108,97,109,98,100,97,32,40,110,41,32,40,43,32,110,32,110,41,41,41,32,51,41,41]
def qletiflis93a4:List UInt8:=[40,108,101,116,32,40,40,105,102,32,108,105,115,116,41,41,32,40,108,101,116,45,115,121,110,116,97,120,32,40,40,109,32,40,114,117,108,101,115,32,40,41,32,40,40,95,32,97,41,32,40,105,102,32,97,32,49,32,50,41,41,41,41,41,32,40,109,32,53,41,41,41]
def qletsynta0fb6:List UInt8:=[40,108,101,116,45,115,121,110,116,97,120,32,40,40,100,101,102,32,40,114,117,108,101,115,32,40,41,32,40,40,95,32,110,32,101,32,98,41,32,40,108,101,116,32,40,40,110,32,101,41,41,32,98,41,41,41,41,41,32,40,100,101,102,32,122,32,51,32,40,43,32,122,32,122,41,41,41]
def qletsynta299d:List UInt8:=[40,108,101,116,45,115,121,110,116,97,120,32,40,40,107,32,40,114,117,108,101,115,32,40,101,108,115,101,41,32,40,40,95,32,101,108,115,101,32,97,41,32,97,41,32,40,40,95,32,98,32,97,41,32,40,108,105,115,116,32,98,32,97,41,41,41,41,41,32,40,107,32,101,108,115,101,32,52,41,41]
def qletsynta3586:List UInt8:=[40,108,101,116,45,115,121,110,116,97,120,32,40,40,109,32,40,114,117,108,101,115,32,40,41,32,40,40,95,32,97,41,32,40,105,102,32,97,32,49,32,50,41,41,41,41,41,32,40,108,101,116,32,40,40,105,102,32,108,105,115,116,41,41,32,40,109,32,105,102,41,41,41]
def qletsynta4596:List UInt8:=[40,108,101,116,45,115,121,110,116,97,120,32,40,40,107,32,40,114,117,108,101,115,32,40,101,108,115,101,41,32,40,40,95,32,101,108,115,101,32,97,41,32,97,41,32,40,40,95,32,98,32,97,41,32,40,108,105,115,116,32,98,32,97,41,41,41,41,41,32,40,108,101,116,32,40,40,101,108,115,101,32,51,41,41,32,40,107,32,101,108,115,101,32,52,41,41,41]
def qletsynta5388:List UInt8:=[108,101,116,45,115,121,110,116,97,120]
def qletsynta6432:List UInt8:=[40,108,101,116,45,115,121,110,116,97,120,32,40,40,111,114,32,40,114,117,108,101,115,32,40,41,32,40,40,95,41,32,48,41,32,40,40,95,32,97,41,32,97,41,32,40,40,95,32,97,32,98,32,46,46,46,41,32,40,108,101,116,32,40,40,116,32,97,41,41,32,40,105,102,32,116,32,116,32,40,111,114,32,98,32,46,46,46,41,41,41,41,41,41,41,32,40,108,101,116,32,40,40,116,32,53,41,41,32,40,111,114,32,48,32,116,32,55,41,41,41]
def qletsynta7279:List UInt8:=[40,108,101,116,45,115,121,110,116,97,120,32,40,40,109,121,32,40,114,117,108,101,115,32,40,41,32,40,40,95,32,102,41,32,40,108,97,109,98,100,97,32,40,120,41,32,40,102,32,120,41,41,41,41,41,41,32,40,108,101,116,32,40,40,120,32,51,41,41,32,40,40,109,121,32,40,108,97,109,98,100,97,32,40,121,41,32,40,43,32,120,32,121,41,41,41,32,52,41,41,41]
def qletsynta8793:List UInt8:=[40,108,101,116,45,115,121,110,116,97,120,32,40,40,111,114,32,40,114,117,108,101,115,32,40,41,32,40,40,95,41,32,48,41,32,40,40,95,32,97,32,98,32,46,46,46,41,32,40,108,101,116,32,40,40,116,32,97,41,41,32,40,105,102,32,116,32,116,32,40,111,114,32,98,32,46,46,46,41,41,41,41,41,41,41,32,40,108,101,116,32,40,40,116,32,53,41,41,32,40,111,114,32,48,32,116,41,41,41]
def qletsynta9c06:List UInt8:=[40,108,101,116,45,115,121,110,116,97,120,32,40,40,108,111,111,112,32,40,114,117,108,101,115,32,40,41,32,40,40,95,41,32,40,108,111,111,112,41,41,41,41,41,32,40,108,111,111,112,41,41]
def qletsyntaba1c:List UInt8:=[40,108,101,116,45,115,121,110,116,97,120,32,40,40,119,105,116,104,32,40,114,117,108,101,115,32,40,41,32,40,40,95,32,40,40,120,32,118,41,32,46,46,46,41,32,98,111,100,121,41,32,40,40,108,97,109,98,100,97,32,40,120,32,46,46,46,41,32,98,111,100,121,41,32,118,32,46,46,46,41,41,41,41,41,32,40,119,105,116,104,32,40,40,112,32,49,41,32,40,113,32,50,41,41,32,40,43,32,112,32,113,41,41,41]
def qletsyntac7f1:List UInt8:=[40,108,101,116,45,115,121,110,116,97,120,32,40,40,116,119,111,32,40,114,117,108,101,115,32,40,41,32,40,40,95,32,110,41,32,40,108,97,109,98,100,97,32,40,110,32,120,41,32,40,43,32,110,32,120,41,41,41,41,41,41,32,40,116,119,111,32,120,41,41]
def qletsyntae5c9:List UInt8:=[40,108,101,116,45,115,121,110,116,97,120,32,40,40,97,32,40,114,117,108,101,115,32,40,41,32,40,40,95,32,120,41,32,40,98,32,120,41,41,41,41,32,40,98,32,40,114,117,108,101,115,32,40,41,32,40,40,95,32,121,41,32,40,108,105,115,116,32,121,32,121,41,41,41,41,41,32,40,97,32,55,41,41]
def qletsyntae69a:List UInt8:=[40,108,101,116,45,115,121,110,116,97,120,32,40,40,109,32,40,114,117,108,101,115,32,40,41,32,40,40,95,32,97,41,32,49,41,41,41,41,32,40,109,41,41]
def qlettmp5ze0b0:List UInt8:=[40,108,101,116,32,40,40,116,109,112,32,53,41,32,40,122,32,54,41,41,32,40,108,101,116,45,115,121,110,116,97,120,32,40,40,115,119,97,112,32,40,114,117,108,101,115,32,40,41,32,40,40,95,32,97,32,98,41,32,40,108,101,116,32,40,40,116,109,112,32,97,41,41,32,40,108,105,115,116,32,98,32,116,109,112,41,41,41,41,41,41,32,40,115,119,97,112,32,116,109,112,32,122,41,41,41]
def qletx1y2la01a:List UInt8:=[40,108,101,116,32,40,40,120,32,49,41,32,40,121,32,50,41,41,32,40,108,101,116,45,115,121,110,116,97,120,32,40,40,115,119,97,112,32,40,114,117,108,101,115,32,40,41,32,40,40,95,32,97,32,98,41,32,40,108,101,116,32,40,40,116,109,112,32,97,41,41,32,40,108,105,115,116,32,98,32,116,109,112,41,41,41,41,41,41,32,40,115,119,97,112,32,120,32,121,41,41,41]
def qlist1212696a:List UInt8:=[40,108,105,115,116,32,40,60,32,49,32,50,41,32,40,61,32,49,32,50,41,32,40,108,97,109,98,100,97,32,40,120,41,32,120,41,32,108,105,115,116,41]
def qrulesabl4b2b:List UInt8:=[40,114,117,108,101,115,32,40,41,32,40,40,95,32,97,32,98,41,32,40,108,101,116,32,40,40,116,32,97,41,41,32,40,108,105,115,116,32,98,32,116,41,41,41,32,40,40,95,32,97,41,32,40,108,101,116,32,40,40,120,32,97,41,41,32,40,108,105,115,116,32,120,32,97,41,41,41,41]
def qunknownad92:List UInt8:=[117,110,107,110,111,119,110]
def slices_Index_string (n:Nat) (a0:List (List UInt8)) (a1:List UInt8):Option (Int):=
 seqS (forI (fun(s3:Unit) (i2:Nat) (x5:List UInt8)=>((if a1=x5 then some (Sum.inl (i2:Int)) else some (Sum.inr ())):Option (Int⊕Unit))) 0 a0 ()) (fun(s3:Unit)=>some (-1))
theorem w_slices_Index_string (n:Nat):∀(a0:List (List UInt8)) (a1:List UInt8) {r:Int},slices_Index_string n a0 a1=some r→SCall X.E 77 [lE 1 (ksStr a0),sE a1] [] (iE r) []:=by
 intro a0 a1 r h0
 rw[slices_Index_string] at h0
 refine .n Tryz.func77 (fun L ks low K hl hL hlen hK=>?_)
 refine .a [] T [] ?_
 refine .a [.v (a0.length:Int)] (A (dStr.len' a0) T) [(7,iE (a0.length:Int)),(8,iE 0)] ?_
 refine .sn 0 dStr a0 (by kernel_rfl) (fun hb1=>?_)
 refine .lI h0 rfl [0,1,7] (fun i2 s3=>[(8,iE (i2:Int))]) n2 n2 [] (by kernel_rfl) (fun i2 s3 q4 hd6 hi8 h0=>?_)
 refine .a [] T [(9,dE ((i2:Int)<(a0.length:Int)))] ?_
 refine .lc hd6 rfl (by kernel_rfl) (fun x5 q42 hc9 hx5 hd7 hd7l=>?_) (fun hc9=>?_)
 ·subst hc9
  obtain⟨y1,h1,hw1,hn1⟩:=forI_cons h0
  refine .a [] T [(5,iE (i2:Int))] ?_
  refine .a [.cs [.s x5]] (A (dStr.idn hx5) T) [(16,dE (a1=x5))] ?_
  refine .jP h1 (fun hc10 h1=>?_) (fun hc10 h1=>?_)
  ·refine .a [] T [(4,iE (i2:Int))] ?_
   cases h1
   cases hw1 _ rfl
   exact .rt hK
  ·refine .a [.v ((i2+1:Nat):Int)] (A (wn (i:=i2) (by omega)) T) [(8,iE ((i2+1:Nat):Int))] ?_
   cases h1
   exact .nL rfl (i2+1) _ hd7 hd7l (hn1 _ rfl) [] (by kernel_rfl)
 ·subst hc9
  have h0:=forI_nil h0
  refine .a [] T [(4,iE (-1))] ?_
  cases h0
  exact .rt hK
def slices_Contains_string (n:Nat) (a0:List (List UInt8)) (a1:List UInt8):Option (Bool):=
 (slices_Index_string n a0 a1).bind fun k1=>some (decide (k1≥0))
theorem w_slices_Contains_string (n:Nat):∀(a0:List (List UInt8)) (a1:List UInt8) {r:Bool},slices_Contains_string n a0 a1=some r→SCall X.E 93 [lE 1 (ksStr a0),sE a1] [] (bE r) []:=by
 intro a0 a1 r h0
 rw[slices_Contains_string] at h0
 refine .n Tryz.func93 (fun L ks low K hl hL hlen hK=>?_)
 refine .a [] T [] ?_
 obtain⟨k1,hk1,h0⟩:=bnd h0
 refine .a [.call [] (iE k1) []] (A (w_slices_Index_string n _ _ hk1) T) [(4,dE (k1≥0))] ?_
 cases h0
 exact .rt hK
def im_isPrimitive (n:Nat) (a0:Core):Option (Bool):=
 Option.bind ((if a0.kind=2 then(slices_Contains_string n lp2 a0.name).bind fun k3=>some k3 else some false):Option (Bool)) (fun(o1:Bool)=>some o1)
theorem w_im_isPrimitive (n:Nat):∀(a0:Core) {r:Bool},im_isPrimitive n a0=some r→SCall X.E 74 [aE (kCore a0)] [] (bE r) []:=by
 intro a0 r h0
 rw[im_isPrimitive] at h0
 refine .n Tryz.func74 (fun L ks low K hl hL hlen hK=>?_)
 refine .af [] T [(1,pw 1)] [.o 1 (.cells ((kCore a0).map .d))] ?_
 refine .bP h0 rfl [] (fun o1=>[(2,bE o1)]) n1 n1 (fun o1 h0=>?_) (fun y1 h1 hj1=>?_)
 ·cases h0
  exact .rt hK
 ·by_cases g2:a0.kind=2
  ·have h1:=iteP g2 h1
   obtain⟨k3,hk3,h1⟩:=bnd h1
   refine .ad mixed (qb 4 3 true [(7,[.b true,.call [] (bE k3) []]),(8,[.b true])]) [] (R 3 (dt g2) (A (A (dt g2) (w_slices_Contains_string n _ _ hk3)) (A (dt g2) T))) [(2,bE k3)] [] [] ?_
   cases h1
   exact .lg hj1 []
  ·have h1:=iteN g2 h1
   refine .ad mixed (qb 4 5 false []) [] (R 5 (df g2) T) [(2,bE false)] [] [] ?_
   cases h1
   exact .lg hj1 []
def im_HeadsOf_1 (n:Nat) (a0:Core) (w0:List Int):Option (List Int):=
 Option.bind ((if ¬a0.kind=6 then some true else some (decide ((a0.kids.length:Int)=0))):Option (Bool)) (fun(o1:Bool)=>(if o1=true then some w0 else(atI a0.kids 0).bind fun e3=>(if e3.kind=5 then(inB 0 w0.length).bind fun u5=>(w0[(Int.toNat 0)]?).bind fun e6=>(inB 0 w0.length).bind fun u7=>some (w0.set (Int.toNat 0) (w64 (e6+1))) else(im_isPrimitive n e3).bind fun k9=>(if k9=true then(inB 1 w0.length).bind fun u11=>(w0[(Int.toNat 1)]?).bind fun e12=>(inB 1 w0.length).bind fun u13=>some (w0.set (Int.toNat 1) (w64 (e12+1))) else(if e3.kind=1 then(inB 2 w0.length).bind fun u16=>(w0[(Int.toNat 2)]?).bind fun e17=>(inB 2 w0.length).bind fun u18=>some (w0.set (Int.toNat 2) (w64 (e17+1))) else(inB 3 w0.length).bind fun u20=>(w0[(Int.toNat 3)]?).bind fun e21=>(inB 3 w0.length).bind fun u22=>some (w0.set (Int.toNat 3) (w64 (e21+1))))))))
theorem w_im_HeadsOf_1 (n:Nat):∀(a0:Core) (w0:List Int) {r:List Int},im_HeadsOf_1 n a0 w0=some r→SCall X.E 73 [aE (kCore a0),pl 0] [some (.cells [.vs (.low 1) 1 ((ksInt w0).length)]),some (.vec 3 1 (ksInt w0))] (.tup []) [.cells [.vs (.low 1) 1 ((ksInt r).length)],.vec 3 1 (ksInt r)]:=by
 intro a0 w0 r h0
 rw[im_HeadsOf_1] at h0
 refine .n Tryz.func73 (fun L ks low K hl hL hlen hK=>?_)
 refine .af [] T [(2,pw 2)] [.o 2 (.cells ((kCore a0).map .d))] ?_
 refine .bP h0 rfl [1,2] (fun o1=>[(12,bE o1)]) n1 n1 (fun o1 h0=>?_) (fun y1 h1 hj1=>?_)
 ·refine .jT h0 (fun hc2 h0=>?_) (fun hc2 h0=>?_)
  ·cases h0
   exact .rt hK
  ·obtain⟨e3,he3,h0⟩:=bnd h0
   refine .af [.cs (kCore e3)] (A (dCore.idx he3) T) [(3,pw 3)] [.o 3 (.cells ((kCore e3).map .d))] ?_
   refine .a [] T [(22,dE (e3.kind=5))] ?_
   refine .jP h0 (fun hc4 h0=>?_) (fun hc4 h0=>?_)
   ·obtain⟨u5,hu5,h0⟩:=bnd h0
    obtain⟨e6,he6,h0⟩:=bnd h0
    obtain⟨u7,hu7,h0⟩:=bnd h0
    refine .ao [.cs [.v (.int .i64 e6)],.pl,.cs [.v (.int .i64 e6)],.sv (ksInt (w0.set (Int.toNat 0) (w64 (e6+1))))] (A (A (dInt.inv hu5 (rfl:(ksInt w0).length=(ksInt w0).length)) (rfl:(ksInt w0).length=(ksInt w0).length)) (A (A (A (dInt.rows w0) (dInt.ixr he6)) (rfl:(ksInt w0).length=(ksInt w0).length)) (A (A (dInt.inv hu7 (rfl:(ksInt w0).length=(ksInt w0).length)) (rfl:(ksInt w0).length=(ksInt w0).length)) (A (A (A (A (dInt.rows w0) (dInt.ixr he6)) (rfl:(ksInt w0).length=(ksInt w0).length)) (dInt.seti w0 (Int.toNat 0) (w64 (e6+1)))) T)))) [] [.c 0 0 (.vs (.low 1) 1 ((ksInt w0).length)),.o 1 (.vec 3 1 (ksInt (w0.set (Int.toNat 0) (w64 (e6+1)))))] ?_
    refine .rn (by simp only[dInt.length,List.length_set]:(ksInt w0).length=(ksInt (w0.set (Int.toNat 0) (w64 (e6+1)))).length) (fun nk8=>[]) (fun nk8=>[]) (fun nk8=>[.c 0 0 (.vs (.low 1) 1 nk8)]) (by kernel_rfl) ?_
    cases h0
    exact .fin rfl rfl rfl rfl hK
   ·obtain⟨k9,hk9,h0⟩:=bnd h0
    refine .a [.call [] (bE k9) []] (A (w_im_isPrimitive n _ hk9) T) [(31,bE k9)] ?_
    refine .jT h0 (fun hc10 h0=>?_) (fun hc10 h0=>?_)
    ·obtain⟨u11,hu11,h0⟩:=bnd h0
     obtain⟨e12,he12,h0⟩:=bnd h0
     obtain⟨u13,hu13,h0⟩:=bnd h0
     refine .ao [.cs [.v (.int .i64 e12)],.pl,.cs [.v (.int .i64 e12)],.sv (ksInt (w0.set (Int.toNat 1) (w64 (e12+1))))] (A (A (dInt.inv hu11 (rfl:(ksInt w0).length=(ksInt w0).length)) (rfl:(ksInt w0).length=(ksInt w0).length)) (A (A (A (dInt.rows w0) (dInt.ixr he12)) (rfl:(ksInt w0).length=(ksInt w0).length)) (A (A (dInt.inv hu13 (rfl:(ksInt w0).length=(ksInt w0).length)) (rfl:(ksInt w0).length=(ksInt w0).length)) (A (A (A (A (dInt.rows w0) (dInt.ixr he12)) (rfl:(ksInt w0).length=(ksInt w0).length)) (dInt.seti w0 (Int.toNat 1) (w64 (e12+1)))) T)))) [] [.c 0 0 (.vs (.low 1) 1 ((ksInt w0).length)),.o 1 (.vec 3 1 (ksInt (w0.set (Int.toNat 1) (w64 (e12+1)))))] ?_
     refine .rn (by simp only[dInt.length,List.length_set]:(ksInt w0).length=(ksInt (w0.set (Int.toNat 1) (w64 (e12+1)))).length) (fun nk14=>[]) (fun nk14=>[]) (fun nk14=>[.c 0 0 (.vs (.low 1) 1 nk14)]) (by kernel_rfl) ?_
     cases h0
     exact .fin rfl rfl rfl rfl hK
    ·refine .a [] T [(39,dE (e3.kind=1))] ?_
     refine .jP h0 (fun hc15 h0=>?_) (fun hc15 h0=>?_)
     ·obtain⟨u16,hu16,h0⟩:=bnd h0
      obtain⟨e17,he17,h0⟩:=bnd h0
      obtain⟨u18,hu18,h0⟩:=bnd h0
      refine .ao [.cs [.v (.int .i64 e17)],.pl,.cs [.v (.int .i64 e17)],.sv (ksInt (w0.set (Int.toNat 2) (w64 (e17+1))))] (A (A (dInt.inv hu16 (rfl:(ksInt w0).length=(ksInt w0).length)) (rfl:(ksInt w0).length=(ksInt w0).length)) (A (A (A (dInt.rows w0) (dInt.ixr he17)) (rfl:(ksInt w0).length=(ksInt w0).length)) (A (A (dInt.inv hu18 (rfl:(ksInt w0).length=(ksInt w0).length)) (rfl:(ksInt w0).length=(ksInt w0).length)) (A (A (A (A (dInt.rows w0) (dInt.ixr he17)) (rfl:(ksInt w0).length=(ksInt w0).length)) (dInt.seti w0 (Int.toNat 2) (w64 (e17+1)))) T)))) [] [.c 0 0 (.vs (.low 1) 1 ((ksInt w0).length)),.o 1 (.vec 3 1 (ksInt (w0.set (Int.toNat 2) (w64 (e17+1)))))] ?_
      refine .rn (by simp only[dInt.length,List.length_set]:(ksInt w0).length=(ksInt (w0.set (Int.toNat 2) (w64 (e17+1)))).length) (fun nk19=>[]) (fun nk19=>[]) (fun nk19=>[.c 0 0 (.vs (.low 1) 1 nk19)]) (by kernel_rfl) ?_
      cases h0
      exact .fin rfl rfl rfl rfl hK
     ·obtain⟨u20,hu20,h0⟩:=bnd h0
      obtain⟨e21,he21,h0⟩:=bnd h0
      obtain⟨u22,hu22,h0⟩:=bnd h0
      refine .ao [.cs [.v (.int .i64 e21)],.pl,.cs [.v (.int .i64 e21)],.sv (ksInt (w0.set (Int.toNat 3) (w64 (e21+1))))] (A (A (dInt.inv hu20 (rfl:(ksInt w0).length=(ksInt w0).length)) (rfl:(ksInt w0).length=(ksInt w0).length)) (A (A (A (dInt.rows w0) (dInt.ixr he21)) (rfl:(ksInt w0).length=(ksInt w0).length)) (A (A (dInt.inv hu22 (rfl:(ksInt w0).length=(ksInt w0).length)) (rfl:(ksInt w0).length=(ksInt w0).length)) (A (A (A (A (dInt.rows w0) (dInt.ixr he21)) (rfl:(ksInt w0).length=(ksInt w0).length)) (dInt.seti w0 (Int.toNat 3) (w64 (e21+1)))) T)))) [] [.c 0 0 (.vs (.low 1) 1 ((ksInt w0).length)),.o 1 (.vec 3 1 (ksInt (w0.set (Int.toNat 3) (w64 (e21+1)))))] ?_
      refine .rn (by simp only[dInt.length,List.length_set]:(ksInt w0).length=(ksInt (w0.set (Int.toNat 3) (w64 (e21+1)))).length) (fun nk23=>[]) (fun nk23=>[]) (fun nk23=>[.c 0 0 (.vs (.low 1) 1 nk23)]) (by kernel_rfl) ?_
      cases h0
      exact .fin rfl rfl rfl rfl hK
 ·by_cases g24:¬a0.kind=6
  ·have h1:=iteP g24 h1
   refine .a (rb 5 true []) (R 5 (dt g24) T) [(12,bE true)] ?_
   cases h1
   exact .lg hj1 []
  ·have h1:=iteN g24 h1
   refine .a (rb 3 false [.v (a0.kids.length:Int),.b false,.b false]) (R 2 (df g24) (A (A (df g24) (dCore.len' a0.kids)) (R 2 (df g24) T))) [(12,dE ((a0.kids.length:Int)=0))] ?_
   cases h1
   exact .lg hj1 []
def im_eachCore__im_HeadsOf_1:Nat→Core→(List Int)→Option (List Int)
 | 0,_,_=>none
 | n+1,a0,w0=>(im_HeadsOf_1 n a0 w0).bind fun k1=>Option.bind (forL (fun(s4:List Int) (i3:Nat) (x6:Core)=>(im_eachCore__im_HeadsOf_1 n x6 s4).bind fun k11=>some k11) 0 a0.kids k1) (fun(s4:List Int)=>some s4)
theorem w_im_eachCore__im_HeadsOf_1 (n:Nat):∀(a0:Core) (w0:List Int) {r:List Int},im_eachCore__im_HeadsOf_1 n a0 w0=some r→SCall X.E 50 [aE (kCore a0),.clo 73 [] [pl 0]] [some (.cells [.vs (.low 1) 1 ((ksInt w0).length)]),some (.vec 3 1 (ksInt w0))] (.tup []) [.cells [.vs (.low 1) 1 ((ksInt r).length)],.vec 3 1 (ksInt r)]:=by
 induction n with
 | zero=>intro a0 w0 r h; cases h
 | succ n ih=>
  intro a0 w0 r h0
  rw[im_eachCore__im_HeadsOf_1] at h0
  refine .n Tryz.func50 (fun L ks low K hl hL hlen hK=>?_)
  refine .af [] T [(2,pw 2)] [.o 2 (.cells ((kCore a0).map .d))] ?_
  obtain⟨k1,hk1,h0⟩:=bnd h0
  refine .ao [.call [.low 0,.low 1] (.tup []) [.cells [.vs (.low 1) 1 ((ksInt k1).length)],.vec 3 1 (ksInt k1)]] (A (w_im_HeadsOf_1 n _ _ hk1) T) [] [.c 0 0 (.vs (.low 1) 1 ((ksInt k1).length)),.o 1 (.vec 3 1 (ksInt k1))] ?_
  refine .a [.v (a0.kids.length:Int)] (A (dCore.len' a0.kids) T) [(10,lE 11 (ksCore a0.kids)),(11,iE (a0.kids.length:Int)),(12,iE 0)] ?_
  refine .sn 10 dCore a0.kids (by kernel_rfl) (fun hb2=>?_)
  refine .lL h0 rfl [1,10,11] (fun i3 s4=>[(12,iE (i3:Int))]) n2 (fun i3 s4=>[.c 0 0 (.vs (.low 1) 1 ((ksInt s4).length)),.o 1 (.vec 3 1 (ksInt s4))]) [] (by kernel_rfl) (fun i3 s4 q5 hd7 hi9 h0=>?_)
  refine .a [] T [(13,dE ((i3:Int)<(a0.kids.length:Int)))] ?_
  refine .lc hd7 rfl (by kernel_rfl) (fun x6 q52 hc10 hx6 hd8 hd8l=>?_) (fun hc10=>?_)
  ·subst hc10
   obtain⟨y1,h1,hn1⟩:=forL_cons h0
   refine .af [.cs (kCore x6)] (A (dCore.idn hx6) T) [(5,pw 5)] [.o 5 (.cells ((kCore x6).map .d))] ?_
   obtain⟨k11,hk11,h1⟩:=bnd h1
   refine .ao [.call [.low 0,.low 1] (.tup []) [.cells [.vs (.low 1) 1 ((ksInt k11).length)],.vec 3 1 (ksInt k11)]] (A (ih _ _ hk11) T) [] [.c 0 0 (.vs (.low 1) 1 ((ksInt k11).length)),.o 1 (.vec 3 1 (ksInt k11))] ?_
   refine .a [.v ((i3+1:Nat):Int)] (A (wn (i:=i3) (by omega)) T) [(12,iE ((i3+1:Nat):Int))] ?_
   cases h1
   refine .kp [1,10,11,12] [] ?_
   refine .dr 5 (by kernel_rfl) ?_
   exact .nL rfl (i3+1) _ hd8 hd8l hn1 [] (by kernel_rfl)
  ·subst hc10
   have h0:=forL_nil h0
   cases h0
   exact .fin rfl rfl rfl rfl hK
def im_HeadsOf (n:Nat) (a0:Core):Option (List Int):=
 (mkB 8 4).bind fun u1=>(im_eachCore__im_HeadsOf_1 n a0 (List.replicate (4:Int).toNat 0)).bind fun k2=>some k2
theorem w_im_HeadsOf (n:Nat):∀(a0:Core) {r:List Int},im_HeadsOf n a0=some r→SCall X.E 19 [aE (kCore a0)] [] (lE 1 (ksInt r)) []:=by
 intro a0 r h0
 rw[im_HeadsOf] at h0
 refine .n Tryz.func19 (fun L ks low K hl hL hlen hK=>?_)
 refine .af [] T [(1,pw 1)] [.o 1 (.cells ((kCore a0).map .d))] ?_
 obtain⟨u1,hu1,h0⟩:=bnd h0
 refine .aq [.mv 4,.sv (ksInt (List.replicate (4:Int).toNat 0))] [4] (A (A (mk_ok hu1) (dInt.rep ((4:Int).toNat) 0)) T) [(3,pw 3)] [.o 4 (.vec 3 1 (ksInt (List.replicate (4:Int).toNat 0))),.o 3 (.cells [.vs (.own 4) 1 ((ksInt (List.replicate (4:Int).toNat 0)).length)])] [] ?_
 obtain⟨k2,hk2,h0⟩:=bnd h0
 refine .af [.call [.own 3,.own 4] (.tup []) [.cells [.vs (.low 1) 1 ((ksInt k2).length)],.vec 3 1 (ksInt k2)]] (A (w_im_eachCore__im_HeadsOf_1 n _ _ hk2) T) [] [.o 4 (.vec 3 1 (ksInt k2)),.c 3 0 (.vs (.own 4) 1 ((ksInt k2).length))] ?_
 refine .a [] T [(2,.vs (.own 4) 1 ((ksInt k2).length))] ?_
 refine .kp [2] [] ?_
 refine .dr 1 (by kernel_rfl) ?_
 refine .dr 3 (by kernel_rfl) ?_
 refine .ft 2 4 [] dInt k2 (rfl:(ksInt k2).length=(ksInt k2).length) (by kernel_rfl) ?_
 cases h0
 exact .rt hK
def la_mxInts (n:Nat) (a0:List Int) (a1:List Int):Option (Bool):=
 (if ¬(a0.length:Int)=(a1.length:Int) then some false else seqS (forI (fun(s5:Unit) (i4:Nat) (x7:Int)=>((atI a1 (i4:Int)).bind fun e12=>(if ¬x7=e12 then some (Sum.inl false) else some (Sum.inr ())):Option (Bool⊕Unit))) 0 a0 ()) (fun(s5:Unit)=>some true))
theorem w_la_mxInts (n:Nat):∀(a0:List Int) (a1:List Int) {r:Bool},la_mxInts n a0 a1=some r→SCall X.E 20 [lE 1 (ksInt a0),lE 1 (ksInt a1)] [] (bE r) []:=by
 intro a0 a1 r h0
 rw[la_mxInts] at h0
 refine .n Tryz.func20 (fun L ks low K hl hL hlen hK=>?_)
 refine .a [] T [] ?_
 refine .a [.v (a0.length:Int),.v (a1.length:Int)] (A (dInt.len' a0) (A (dInt.len' a1) T)) [(10,dE (¬(a0.length:Int)=(a1.length:Int)))] ?_
 refine .sn 0 dInt a0 (by kernel_rfl) (fun hb1=>?_)
 refine .sn 1 dInt a1 (by kernel_rfl) (fun hb2=>?_)
 refine .jP h0 (fun hc3 h0=>?_) (fun hc3 h0=>?_)
 ·refine .a [] T [(4,bE false)] ?_
  cases h0
  exact .rt hK
 ·refine .a [] T [(5,iE 0)] ?_
  refine .lI h0 rfl [0,1] (fun i4 s5=>[(5,iE (i4:Int))]) n2 n2 [] (by kernel_rfl) (fun i4 s5 q6 hd8 hi10 h0=>?_)
  refine .a [.v (a0.length:Int)] (A (dInt.len' a0) T) [(14,dE ((i4:Int)<(a0.length:Int)))] ?_
  refine .lc hd8 rfl (by kernel_rfl) (fun x7 q62 hc11 hx7 hd9 hd9l=>?_) (fun hc11=>?_)
  ·subst hc11
   obtain⟨y1,h1,hw1,hn1⟩:=forI_cons h0
   obtain⟨e12,he12,h1⟩:=bnd h1
   refine .ad mixed [(2,[.cs [.v (.int .i64 x7)]]),(6,[.cs [.v (.int .i64 e12)]])] [] (A (dInt.idn hx7) (A (dInt.idx he12) T)) [(25,dE (¬x7=e12))] [] [] ?_
   refine .jP h1 (fun hc13 h1=>?_) (fun hc13 h1=>?_)
   ·refine .a [] T [(4,bE false)] ?_
    cases h1
    cases hw1 _ rfl
    exact .rt hK
   ·refine .a [.v ((i4+1:Nat):Int)] (A (wn (i:=i4) (by omega)) T) [(5,iE ((i4+1:Nat):Int))] ?_
    cases h1
    exact .nL rfl (i4+1) _ hd9 hd9l (hn1 _ rfl) [] (by kernel_rfl)
  ·subst hc11
   have h0:=forI_nil h0
   refine .a [] T [(4,bE true)] ?_
   cases h0
   exact .rt hK
def sp_l1Copy:Nat→Form→Option (Form)
 | 0,_=>none
 | n+1,a0=>(apB 8 [] a0.scopes).bind fun z1=>Option.bind (forL (fun(s3:List Form) (i2:Nat) (x5:Form)=>(sp_l1Copy n x5).bind fun k11=>(apB 80 s3 [k11]).bind fun z12=>some z12) 0 a0.kids []) (fun(s3:List Form)=>some (⟨a0.kind,a0.name,a0.n,z1,s3⟩:Form))
theorem w_sp_l1Copy (n:Nat):∀(a0:Form) {r:Form},sp_l1Copy n a0=some r→SCall X.E 104 [aE (kForm a0)] [] (aE (kForm r)) []:=by
 induction n with
 | zero=>intro a0 r h; cases h
 | succ n ih=>
  intro a0 r h0
  rw[sp_l1Copy] at h0
  refine .n Tryz.func104 (fun L ks low K hl hL hlen hK=>?_)
  refine .af [] T [(1,pw 1),(2,pw 2)] [.o 1 (.cells ((kForm a0).map .d)),.o 2 (.cells [iE 0,sE [],iE 0,fE 1 (ksInt []),fE 5 (ksForm [])])] ?_
  obtain⟨z1,hz1,h0⟩:=bnd h0
  refine .ad mixed [(6,[.sv (ksInt [])]),(9,[.sv (ksInt z1)])] [] (A (dInt.lit []) (A (dInt.ap hz1) T)) [(3,pw 3)] [.o 100014 (.tok (ksInt z1).length 3),.o 3 (.cells [iE a0.kind,sE a0.name,iE a0.n,.gs (.own 100014) 1 (ksInt z1),fE 5 (ksForm [])])] [] ?_
  refine .a [] T [(4,iE 0)] ?_
  refine .oc 3 4 100032 32 (by kernel_rfl) ?_
  refine .lL h0 rfl [1,2,3] (fun i2 s3=>[(4,iE (i2:Int))]) (fun i2 s3=>[.c 3 4 (.gs (.own 100032) 5 (ksForm s3)),.o 100032 (.tok (ksForm s3).length 32)]) n2 [] (by kernel_rfl) (fun i2 s3 q4 hd6 hi8 h0=>?_)
  refine .a [.v (a0.kids.length:Int)] (A (dForm.len' a0.kids) T) [(18,lE 5 (ksForm a0.kids)),(20,dE ((i2:Int)<(a0.kids.length:Int)))] ?_
  refine .sn 18 dForm a0.kids (by kernel_rfl) (fun hb9=>?_)
  refine .lc hd6 rfl (by kernel_rfl) (fun x5 q42 hc10 hx5 hd7 hd7l=>?_) (fun hc10=>?_)
  ·subst hc10
   obtain⟨y1,h1,hn1⟩:=forL_cons h0
   obtain⟨k11,hk11,h1⟩:=bnd h1
   obtain⟨z12,hz12,h1⟩:=bnd h1
   refine .ad mixed [(5,[.cs (kForm x5)]),(7,[.call [] (aE (kForm k11)) []]),(8,[.sv (ksForm [k11])]),(9,[.sv (ksForm z12)])] [((ksForm s3).length:Int)] (A (dForm.idn hx5) (A (ih _ hk11) (A (dForm.lit [k11]) (A (dForm.ap hz12) T)))) [] [.c 3 4 (.gs (.own 100032) 5 (ksForm z12)),.o 100032 (.tok (ksForm z12).length 32)] [] ?_
   refine .a [.v ((i2+1:Nat):Int)] (A (wn (i:=i2) (by omega)) T) [(4,iE ((i2+1:Nat):Int))] ?_
   cases h1
   exact .nL rfl (i2+1) _ hd7 hd7l hn1 [] (by kernel_rfl)
  ·subst hc10
   have h0:=forL_nil h0
   refine .af [] T [] [.o 2 (.cells [iE a0.kind,sE a0.name,iE a0.n,.gs (.own 100014) 1 (ksInt z1),.gs (.own 100032) 5 (ksForm s3)])] ?_
   cases h0
   exact .rt hK
def sp_l6Copy:Nat→Core→Option (Core)
 | 0,_=>none
 | n+1,a0=>(apB 8 [] a0.ids).bind fun z1=>(sp_l1Copy n a0.data).bind fun k2=>Option.bind (forL (fun(s4:List Core) (i3:Nat) (x6:Core)=>(sp_l6Copy n x6).bind fun k12=>(apB 168 s4 [k12]).bind fun z13=>some z13) 0 a0.kids []) (fun(s4:List Core)=>some (⟨a0.kind,a0.id,a0.name,a0.n,z1,k2,s4⟩:Core))
theorem w_sp_l6Copy (n:Nat):∀(a0:Core) {r:Core},sp_l6Copy n a0=some r→SCall X.E 103 [aE (kCore a0)] [] (aE (kCore r)) []:=by
 induction n with
 | zero=>intro a0 r h; cases h
 | succ n ih=>
  intro a0 r h0
  rw[sp_l6Copy] at h0
  refine .n Tryz.func103 (fun L ks low K hl hL hlen hK=>?_)
  refine .af [] T [(1,pw 1),(2,pw 2)] [.o 1 (.cells ((kCore a0).map .d)),.o 2 (.cells [iE 0,iE 0,sE [],iE 0,fE 1 (ksInt []),iE 0,sE [],iE 0,fE 1 (ksInt []),fE 5 (ksForm []),fE 11 (ksCore [])])] ?_
  obtain⟨z1,hz1,h0⟩:=bnd h0
  obtain⟨k2,hk2,h0⟩:=bnd h0
  refine .ad mixed [(8,[.sv (ksInt [])]),(11,[.sv (ksInt z1)]),(14,[.call [] (aE (kForm k2)) []])] [] (A (dInt.lit []) (A (dInt.ap hz1) (A (w_sp_l1Copy n _ hk2) T))) [(3,pw 3)] [.o 100016 (.tok (ksInt z1).length 3),.o 3 (.cells [iE a0.kind,iE a0.id,sE a0.name,iE a0.n,.gs (.own 100016) 1 (ksInt z1),iE k2.kind,sE k2.name,iE k2.n,lE 1 (ksInt k2.scopes),lE 5 (ksForm k2.kids),fE 11 (ksCore [])])] [] ?_
  refine .a [] T [(4,iE 0)] ?_
  refine .oc 3 10 100037 35 (by kernel_rfl) ?_
  refine .lL h0 rfl [1,2,3] (fun i3 s4=>[(4,iE (i3:Int))]) (fun i3 s4=>[.c 3 10 (.gs (.own 100037) 11 (ksCore s4)),.o 100037 (.tok (ksCore s4).length 35)]) n2 [] (by kernel_rfl) (fun i3 s4 q5 hd7 hi9 h0=>?_)
  refine .a [.v (a0.kids.length:Int)] (A (dCore.len' a0.kids) T) [(23,lE 11 (ksCore a0.kids)),(25,dE ((i3:Int)<(a0.kids.length:Int)))] ?_
  refine .sn 23 dCore a0.kids (by kernel_rfl) (fun hb10=>?_)
  refine .lc hd7 rfl (by kernel_rfl) (fun x6 q52 hc11 hx6 hd8 hd8l=>?_) (fun hc11=>?_)
  ·subst hc11
   obtain⟨y1,h1,hn1⟩:=forL_cons h0
   obtain⟨k12,hk12,h1⟩:=bnd h1
   obtain⟨z13,hz13,h1⟩:=bnd h1
   refine .ad mixed [(5,[.cs (kCore x6)]),(7,[.call [] (aE (kCore k12)) []]),(8,[.sv (ksCore [k12])]),(9,[.sv (ksCore z13)])] [((ksCore s4).length:Int)] (A (dCore.idn hx6) (A (ih _ hk12) (A (dCore.lit [k12]) (A (dCore.ap hz13) T)))) [] [.c 3 10 (.gs (.own 100037) 11 (ksCore z13)),.o 100037 (.tok (ksCore z13).length 35)] [] ?_
   refine .a [.v ((i3+1:Nat):Int)] (A (wn (i:=i3) (by omega)) T) [(4,iE ((i3+1:Nat):Int))] ?_
   cases h1
   exact .nL rfl (i3+1) _ hd8 hd8l hn1 [] (by kernel_rfl)
  ·subst hc11
   have h0:=forL_nil h0
   refine .af [] T [] [.o 2 (.cells [iE a0.kind,iE a0.id,sE a0.name,iE a0.n,.gs (.own 100016) 1 (ksInt z1),iE k2.kind,sE k2.name,iE k2.n,lE 1 (ksInt k2.scopes),lE 5 (ksForm k2.kids),.gs (.own 100037) 11 (ksCore s4)])] ?_
   cases h0
   exact .rt hK
def sp_l6Count:Nat→Core→Option (Int)
 | 0,_=>none
 | n+1,a0=>Option.bind (forL (fun(s2:Int) (i1:Nat) (x4:Core)=>(sp_l6Count n x4).bind fun k10=>some (w64 (s2+k10))) 0 a0.kids 1) (fun(s2:Int)=>some s2)
theorem w_sp_l6Count (n:Nat):∀(a0:Core) {r:Int},sp_l6Count n a0=some r→SCall X.E 106 [aE (kCore a0)] [] (iE r) []:=by
 induction n with
 | zero=>intro a0 r h; cases h
 | succ n ih=>
  intro a0 r h0
  rw[sp_l6Count] at h0
  refine .n Tryz.func106 (fun L ks low K hl hL hlen hK=>?_)
  refine .af [] T [(1,pw 1)] [.o 1 (.cells ((kCore a0).map .d))] ?_
  refine .a [] T [(3,iE 1)] ?_
  refine .a [] T [(4,iE 0)] ?_
  refine .lL h0 rfl [1] (fun i1 s2=>[(3,iE s2),(4,iE (i1:Int))]) n2 n2 [] (by kernel_rfl) (fun i1 s2 q3 hd5 hi7 h0=>?_)
  refine .a [.v (a0.kids.length:Int)] (A (dCore.len' a0.kids) T) [(7,lE 11 (ksCore a0.kids)),(9,dE ((i1:Int)<(a0.kids.length:Int)))] ?_
  refine .sn 7 dCore a0.kids (by kernel_rfl) (fun hb8=>?_)
  refine .lc hd5 rfl (by kernel_rfl) (fun x4 q32 hc9 hx4 hd6 hd6l=>?_) (fun hc9=>?_)
  ·subst hc9
   obtain⟨y1,h1,hn1⟩:=forL_cons h0
   obtain⟨k10,hk10,h1⟩:=bnd h1
   refine .a [.cs (kCore x4),.call [] (iE k10) [],.pl] (A (dCore.idn hx4) (A (ih _ hk10) T)) [(3,iE (w64 (s2+k10)))] ?_
   refine .a [.v ((i1+1:Nat):Int)] (A (wn (i:=i1) (by omega)) T) [(4,iE ((i1+1:Nat):Int))] ?_
   cases h1
   exact .nL rfl (i1+1) _ hd6 hd6l hn1 [] (by kernel_rfl)
  ·subst hc9
   have h0:=forL_nil h0
   refine .a [] T [(2,iE s2)] ?_
   cases h0
   exact .rt hK
def sp_l2Has (n:Nat) (a0:List Int) (a1:Int):Option (Bool):=
 seqS (forI (fun(s2:Unit) (i1:Nat) (x4:Int)=>((if x4=a1 then some (Sum.inl true) else some (Sum.inr ())):Option (Bool⊕Unit))) 0 a0 ()) (fun(s2:Unit)=>some false)
theorem w_sp_l2Has (n:Nat):∀(a0:List Int) (a1:Int) {r:Bool},sp_l2Has n a0 a1=some r→SCall X.E 42 [lE 1 (ksInt a0),iE a1] [] (bE r) []:=by
 intro a0 a1 r h0
 rw[sp_l2Has] at h0
 refine .n Tryz.func42 (fun L ks low K hl hL hlen hK=>?_)
 refine .a [] T [] ?_
 refine .a [] T [(5,iE 0)] ?_
 refine .lI h0 rfl [0,1] (fun i1 s2=>[(5,iE (i1:Int))]) n2 n2 [] (by kernel_rfl) (fun i1 s2 q3 hd5 hi7 h0=>?_)
 refine .a [.v (a0.length:Int)] (A (dInt.len' a0) T) [(9,dE ((i1:Int)<(a0.length:Int)))] ?_
 refine .sn 0 dInt a0 (by kernel_rfl) (fun hb8=>?_)
 refine .lc hd5 rfl (by kernel_rfl) (fun x4 q32 hc9 hx4 hd6 hd6l=>?_) (fun hc9=>?_)
 ·subst hc9
  obtain⟨y1,h1,hw1,hn1⟩:=forI_cons h0
  refine .a [.cs [.v (.int .i64 x4)]] (A (dInt.idn hx4) T) [(17,dE (x4=a1))] ?_
  refine .jP h1 (fun hc10 h1=>?_) (fun hc10 h1=>?_)
  ·refine .a [] T [(4,bE true)] ?_
   cases h1
   cases hw1 _ rfl
   exact .rt hK
  ·refine .a [.v ((i1+1:Nat):Int)] (A (wn (i:=i1) (by omega)) T) [(5,iE ((i1+1:Nat):Int))] ?_
   cases h1
   exact .nL rfl (i1+1) _ hd6 hd6l (hn1 _ rfl) [] (by kernel_rfl)
 ·subst hc9
  have h0:=forI_nil h0
  refine .a [] T [(4,bE false)] ?_
  cases h0
  exact .rt hK
def sp_l1Ints (n:Nat) (a0:List Int) (a1:List Int):Option (Bool):=
 (if ¬(a0.length:Int)=(a1.length:Int) then some false else seqS (forI (fun(s5:Unit) (i4:Nat) (x7:Int)=>((atI a1 (i4:Int)).bind fun e12=>(if ¬x7=e12 then some (Sum.inl false) else some (Sum.inr ())):Option (Bool⊕Unit))) 0 a0 ()) (fun(s5:Unit)=>some true))
theorem w_sp_l1Ints (n:Nat):∀(a0:List Int) (a1:List Int) {r:Bool},sp_l1Ints n a0 a1=some r→SCall X.E 214 [lE 1 (ksInt a0),lE 1 (ksInt a1)] [] (bE r) []:=by
 intro a0 a1 r h0
 rw[sp_l1Ints] at h0
 refine .n Tryz.func214 (fun L ks low K hl hL hlen hK=>?_)
 refine .a [] T [] ?_
 refine .a [.v (a0.length:Int),.v (a1.length:Int)] (A (dInt.len' a0) (A (dInt.len' a1) T)) [(10,dE (¬(a0.length:Int)=(a1.length:Int)))] ?_
 refine .sn 0 dInt a0 (by kernel_rfl) (fun hb1=>?_)
 refine .sn 1 dInt a1 (by kernel_rfl) (fun hb2=>?_)
 refine .jP h0 (fun hc3 h0=>?_) (fun hc3 h0=>?_)
 ·refine .a [] T [(4,bE false)] ?_
  cases h0
  exact .rt hK
 ·refine .a [] T [(5,iE 0)] ?_
  refine .lI h0 rfl [0,1] (fun i4 s5=>[(5,iE (i4:Int))]) n2 n2 [] (by kernel_rfl) (fun i4 s5 q6 hd8 hi10 h0=>?_)
  refine .a [.v (a0.length:Int)] (A (dInt.len' a0) T) [(14,dE ((i4:Int)<(a0.length:Int)))] ?_
  refine .lc hd8 rfl (by kernel_rfl) (fun x7 q62 hc11 hx7 hd9 hd9l=>?_) (fun hc11=>?_)
  ·subst hc11
   obtain⟨y1,h1,hw1,hn1⟩:=forI_cons h0
   obtain⟨e12,he12,h1⟩:=bnd h1
   refine .ad mixed [(2,[.cs [.v (.int .i64 x7)]]),(6,[.cs [.v (.int .i64 e12)]])] [] (A (dInt.idn hx7) (A (dInt.idx he12) T)) [(25,dE (¬x7=e12))] [] [] ?_
   refine .jP h1 (fun hc13 h1=>?_) (fun hc13 h1=>?_)
   ·refine .a [] T [(4,bE false)] ?_
    cases h1
    cases hw1 _ rfl
    exact .rt hK
   ·refine .a [.v ((i4+1:Nat):Int)] (A (wn (i:=i4) (by omega)) T) [(5,iE ((i4+1:Nat):Int))] ?_
    cases h1
    exact .nL rfl (i4+1) _ hd9 hd9l (hn1 _ rfl) [] (by kernel_rfl)
  ·subst hc11
   have h0:=forI_nil h0
   refine .a [] T [(4,bE true)] ?_
   cases h0
   exact .rt hK
def sp_FormSame:Nat→Form→Form→Option (Bool)
 | 0,_,_=>none
 | n+1,a0,a1=>Option.bind ((if ¬a0.kind=a1.kind then some true else(if ¬a0.name=a1.name then some true else(if ¬a0.n=a1.n then some true else(sp_l1Ints n a0.scopes a1.scopes).bind fun k18=>(if(!k18)=true then some true else some (decide (¬(a0.kids.length:Int)=(a1.kids.length:Int))))))):Option (Bool)) (fun(o1:Bool)=>(if o1=true then some false else seqS (forI (fun(s4:Unit) (i3:Nat) (x6:Form)=>((atI a1.kids (i3:Int)).bind fun e12=>(sp_FormSame n x6 e12).bind fun k13=>(if(!k13)=true then some (Sum.inl false) else some (Sum.inr ())):Option (Bool⊕Unit))) 0 a0.kids ()) (fun(s4:Unit)=>some true)))
theorem w_sp_FormSame (n:Nat):∀(a0:Form) (a1:Form) {r:Bool},sp_FormSame n a0 a1=some r→SCall X.E 176 [aE (kForm a0),aE (kForm a1)] [] (bE r) []:=by
 induction n with
 | zero=>intro a0 a1 r h; cases h
 | succ n ih=>
  intro a0 a1 r h0
  rw[sp_FormSame] at h0
  refine .n Tryz.func176 (fun L ks low K hl hL hlen hK=>?_)
  refine .af [] T [(2,pw 2),(3,pw 3)] [.o 2 (.cells ((kForm a0).map .d)),.o 3 (.cells ((kForm a1).map .d))] ?_
  refine .bP h0 rfl [2,3] (fun o1=>[(41,bE o1)]) n1 n1 (fun o1 h0=>?_) (fun y1 h1 hj1=>?_)
  ·refine .jT h0 (fun hc2 h0=>?_) (fun hc2 h0=>?_)
   ·refine .a [] T [(4,bE false)] ?_
    cases h0
    exact .rt hK
   ·refine .a [] T [(5,iE 0)] ?_
    refine .lI h0 rfl [2,3] (fun i3 s4=>[(5,iE (i3:Int))]) n2 n2 [] (by kernel_rfl) (fun i3 s4 q5 hd7 hi9 h0=>?_)
    refine .a [.v (a0.kids.length:Int)] (A (dForm.len' a0.kids) T) [(44,lE 5 (ksForm a0.kids)),(46,dE ((i3:Int)<(a0.kids.length:Int)))] ?_
    refine .sn 44 dForm a0.kids (by kernel_rfl) (fun hb10=>?_)
    refine .lc hd7 rfl (by kernel_rfl) (fun x6 q52 hc11 hx6 hd8 hd8l=>?_) (fun hc11=>?_)
    ·subst hc11
     obtain⟨y1,h1,hw1,hn1⟩:=forI_cons h0
     obtain⟨e12,he12,h1⟩:=bnd h1
     obtain⟨k13,hk13,h1⟩:=bnd h1
     refine .ad mixed [(3,[.cs (kForm x6)]),(8,[.cs (kForm e12)]),(10,[.call [] (bE k13) []])] [] (A (dForm.idn hx6) (A (dForm.idx he12) (A (ih _ _ hk13) T))) [(60,bE (!k13))] [] [] ?_
     refine .jT h1 (fun hc14 h1=>?_) (fun hc14 h1=>?_)
     ·refine .a [] T [(4,bE false)] ?_
      cases h1
      cases hw1 _ rfl
      exact .rt hK
     ·refine .a [.v ((i3+1:Nat):Int)] (A (wn (i:=i3) (by omega)) T) [(5,iE ((i3+1:Nat):Int))] ?_
      cases h1
      exact .nL rfl (i3+1) _ hd8 hd8l (hn1 _ rfl) [] (by kernel_rfl)
    ·subst hc11
     have h0:=forI_nil h0
     refine .a [] T [(4,bE true)] ?_
     cases h0
     exact .rt hK
  ·by_cases g15:¬a0.kind=a1.kind
   ·have h1:=iteP g15 h1
    refine .a (rb 27 true []) (R 6 (dt g15) (R 21 B1 T)) [(41,bE true)] ?_
    cases h1
    exact .lg hj1 []
   ·have h1:=iteN g15 h1
    by_cases g16:¬a0.name=a1.name
    ·have h1:=iteP g16 h1
     refine .a (rb 6 false (rb 21 true [])) (R 6 (df g15) (R 6 (dt g16) (R 15 B1 T))) [(41,bE true)] ?_
     cases h1
     exact .lg hj1 []
    ·have h1:=iteN g16 h1
     by_cases g17:¬a0.n=a1.n
     ·have h1:=iteP g17 h1
      refine .a (rb 12 false (rb 15 true [])) (R 6 (df g15) (R 6 (df g16) (R 7 (dt g17) (R 8 B1 T)))) [(41,bE true)] ?_
      cases h1
      exact .lg hj1 []
     ·have h1:=iteN g17 h1
      obtain⟨k18,hk18,h1⟩:=bnd h1
      by_cases g19:(!k18)=true
      ·have h1:=iteP g19 h1
       refine .a (rb 17 false (.call [] (bE k18) []::(.b false::(.b false::(rb 8 true []))))) (R 6 (df g15) (R 6 (df g16) (R 4 (df g17) (A (A (df g17) (w_sp_l1Ints n _ _ hk18)) (R 2 (df g17) (R 8 g19 T)))))) [(41,bE true)] ?_
       cases h1
       exact .lg hj1 []
      ·have h1:=iteN g19 h1
       refine .a (rb 17 false (.call [] (bE k18) []::(rb 5 false (.v (a0.kids.length:Int)::(rb 3 false [.v (a1.kids.length:Int),.b false,.b false]))))) (R 6 (df g15) (R 6 (df g16) (R 4 (df g17) (A (A (df g17) (w_sp_l1Ints n _ _ hk18)) (R 2 (df g17) (R 2 (Bool.eq_false_iff.2 g19) (A (A (Bool.eq_false_iff.2 g19) (dForm.len' a0.kids)) (R 2 (Bool.eq_false_iff.2 g19) (A (A (Bool.eq_false_iff.2 g19) (dForm.len' a1.kids)) (R 2 (Bool.eq_false_iff.2 g19) T)))))))))) [(41,dE (¬(a0.kids.length:Int)=(a1.kids.length:Int)))] ?_
       cases h1
       exact .lg hj1 []
def sp_l1Count:Nat→Form→Option (Int)
 | 0,_=>none
 | n+1,a0=>Option.bind (forL (fun(s2:Int) (i1:Nat) (x4:Form)=>(sp_l1Count n x4).bind fun k10=>some (w64 (s2+k10))) 0 a0.kids 1) (fun(s2:Int)=>some s2)
theorem w_sp_l1Count (n:Nat):∀(a0:Form) {r:Int},sp_l1Count n a0=some r→SCall X.E 213 [aE (kForm a0)] [] (iE r) []:=by
 induction n with
 | zero=>intro a0 r h; cases h
 | succ n ih=>
  intro a0 r h0
  rw[sp_l1Count] at h0
  refine .n Tryz.func213 (fun L ks low K hl hL hlen hK=>?_)
  refine .af [] T [(1,pw 1)] [.o 1 (.cells ((kForm a0).map .d))] ?_
  refine .a [] T [(3,iE 1)] ?_
  refine .a [] T [(4,iE 0)] ?_
  refine .lL h0 rfl [1] (fun i1 s2=>[(3,iE s2),(4,iE (i1:Int))]) n2 n2 [] (by kernel_rfl) (fun i1 s2 q3 hd5 hi7 h0=>?_)
  refine .a [.v (a0.kids.length:Int)] (A (dForm.len' a0.kids) T) [(7,lE 5 (ksForm a0.kids)),(9,dE ((i1:Int)<(a0.kids.length:Int)))] ?_
  refine .sn 7 dForm a0.kids (by kernel_rfl) (fun hb8=>?_)
  refine .lc hd5 rfl (by kernel_rfl) (fun x4 q32 hc9 hx4 hd6 hd6l=>?_) (fun hc9=>?_)
  ·subst hc9
   obtain⟨y1,h1,hn1⟩:=forL_cons h0
   obtain⟨k10,hk10,h1⟩:=bnd h1
   refine .a [.cs (kForm x4),.call [] (iE k10) [],.pl] (A (dForm.idn hx4) (A (ih _ hk10) T)) [(3,iE (w64 (s2+k10)))] ?_
   refine .a [.v ((i1+1:Nat):Int)] (A (wn (i:=i1) (by omega)) T) [(4,iE ((i1+1:Nat):Int))] ?_
   cases h1
   exact .nL rfl (i1+1) _ hd6 hd6l hn1 [] (by kernel_rfl)
  ·subst hc9
   have h0:=forL_nil h0
   refine .a [] T [(2,iE s2)] ?_
   cases h0
   exact .rt hK
def sp_l1Letter (n:Nat) (a0:Int) (a1:Bool):Option (Bool):=
 Option.bind ((if a0≥97 then(if a0≤122 then some true else(if a0=42 then some true else(if a0=63 then some true else(if a0=61 then some true else(if a0=43 then some true else some (decide (a0=60))))))) else(if a0=42 then some true else(if a0=63 then some true else(if a0=61 then some true else(if a0=43 then some true else some (decide (a0=60))))))):Option (Bool)) (fun(o1:Bool)=>(if o1=true then some true else Option.bind ((if(!a1)=true then(if a0≥48 then(if a0≤57 then some true else some (decide (a0=45))) else some (decide (a0=45))) else some false):Option (Bool)) (fun(o3:Bool)=>some o3)))
theorem w_sp_l1Letter (n:Nat):∀(a0:Int) (a1:Bool) {r:Bool},sp_l1Letter n a0 a1=some r→SCall X.E 211 [.d (.v (.int .u8 a0)),bE a1] [] (bE r) []:=by
 intro a0 a1 r h0
 rw[sp_l1Letter] at h0
 refine .n Tryz.func211 (fun L ks low K hl hL hlen hK=>?_)
 refine .a [] T [] ?_
 refine .bP h0 rfl [0,1] (fun o1=>[(30,bE o1)]) n1 n1 (fun o1 h0=>?_) (fun y1 h1 hj1=>?_)
 ·refine .jT h0 (fun hc2 h0=>?_) (fun hc2 h0=>?_)
  ·refine .a [] T [(4,bE true)] ?_
   cases h0
   exact .rt hK
  ·refine .bP h0 rfl [] (fun o3=>[(4,bE o3)]) n1 n1 (fun o3 h0=>?_) (fun y1 h1 hj1=>?_)
   ·cases h0
    exact .rt hK
   ·by_cases g4:(!a1)=true
    ·have h1:=iteP g4 h1
     by_cases g5:a0≥48
     ·have h1:=iteP g5 h1
      by_cases g6:a0≤57
      ·have h1:=iteP g6 h1
       refine .a (rb 13 true []) (R 3 g4 (R 2 (dt g5) (A (A g4 (dt g5)) (A g4 (R 2 (dt g6) (A (A g4 (dt g6)) (A g4 T))))))) [(4,bE true)] ?_
       cases h1
       exact .lg hj1 []
      ·have h1:=iteN g6 h1
       refine .a (rb 8 true [.b false,.b false,.b true,.b false,.b true]) (R 3 g4 (R 2 (dt g5) (A (A g4 (dt g5)) (A g4 (R 2 (df g6) (A (A g4 (df g6)) (A g4 T))))))) [(4,dE (a0=45))] ?_
       cases h1
       exact .lg hj1 []
     ·have h1:=iteN g5 h1
      refine .a (rb 3 true [.b false,.b false,.b true,.b false,.b true,.b false,.b false,.b true,.b false,.b true]) (R 3 g4 (R 2 (df g5) (A (A g4 (df g5)) (A g4 (R 2 B0 (A (A g4 B0) (A g4 T))))))) [(4,dE (a0=45))] ?_
      cases h1
      exact .lg hj1 []
    ·have h1:=iteN g4 h1
     refine .a (rb 7 false []) (R 7 (Bool.eq_false_iff.2 g4) T) [(4,bE false)] ?_
     cases h1
     exact .lg hj1 []
 ·by_cases g7:a0≥97
  ·have h1:=iteP g7 h1
   by_cases g8:a0≤122
   ·have h1:=iteP g8 h1
    refine .a (rb 18 true []) (R 3 (dt g7) (R 3 (dt g8) (R 12 B1 T))) [(30,bE true)] ?_
    cases h1
    exact .lg hj1 []
   ·have h1:=iteN g8 h1
    by_cases g9:a0=42
    ·have h1:=iteP g9 h1
     refine .a (rb 3 true (rb 3 false (rb 12 true []))) (R 3 (dt g7) (R 3 (df g8) (R 3 (dt g9) (R 9 B1 T)))) [(30,bE true)] ?_
     cases h1
     exact .lg hj1 []
    ·have h1:=iteN g9 h1
     by_cases g10:a0=63
     ·have h1:=iteP g10 h1
      refine .a (rb 3 true (rb 6 false (rb 9 true []))) (R 3 (dt g7) (R 3 (df g8) (R 3 (df g9) (R 3 (dt g10) (R 6 B1 T))))) [(30,bE true)] ?_
      cases h1
      exact .lg hj1 []
     ·have h1:=iteN g10 h1
      by_cases g11:a0=61
      ·have h1:=iteP g11 h1
       refine .a (rb 3 true (rb 9 false (rb 6 true []))) (R 3 (dt g7) (R 3 (df g8) (R 3 (df g9) (R 3 (df g10) (R 3 (dt g11) (R 3 B1 T)))))) [(30,bE true)] ?_
       cases h1
       exact .lg hj1 []
      ·have h1:=iteN g11 h1
       by_cases g12:a0=43
       ·have h1:=iteP g12 h1
        refine .a (rb 3 true (rb 12 false (rb 3 true []))) (R 3 (dt g7) (R 3 (df g8) (R 3 (df g9) (R 3 (df g10) (R 3 (df g11) (R 3 (dt g12) T)))))) [(30,bE true)] ?_
        cases h1
        exact .lg hj1 []
       ·have h1:=iteN g12 h1
        refine .a (rb 3 true (rb 15 false [])) (R 3 (dt g7) (R 3 (df g8) (R 3 (df g9) (R 3 (df g10) (R 3 (df g11) (R 3 (df g12) T)))))) [(30,dE (a0=60))] ?_
        cases h1
        exact .lg hj1 []
  ·have h1:=iteN g7 h1
   by_cases g13:a0=42
   ·have h1:=iteP g13 h1
    refine .a (rb 6 false (rb 12 true [])) (R 3 (df g7) (R 3 B0 (R 3 (dt g13) (R 9 B1 T)))) [(30,bE true)] ?_
    cases h1
    exact .lg hj1 []
   ·have h1:=iteN g13 h1
    by_cases g14:a0=63
    ·have h1:=iteP g14 h1
     refine .a (rb 9 false (rb 9 true [])) (R 3 (df g7) (R 3 B0 (R 3 (df g13) (R 3 (dt g14) (R 6 B1 T))))) [(30,bE true)] ?_
     cases h1
     exact .lg hj1 []
    ·have h1:=iteN g14 h1
     by_cases g15:a0=61
     ·have h1:=iteP g15 h1
      refine .a (rb 12 false (rb 6 true [])) (R 3 (df g7) (R 3 B0 (R 3 (df g13) (R 3 (df g14) (R 3 (dt g15) (R 3 B1 T)))))) [(30,bE true)] ?_
      cases h1
      exact .lg hj1 []
     ·have h1:=iteN g15 h1
      by_cases g16:a0=43
      ·have h1:=iteP g16 h1
       refine .a (rb 15 false (rb 3 true [])) (R 3 (df g7) (R 3 B0 (R 3 (df g13) (R 3 (df g14) (R 3 (df g15) (R 3 (dt g16) T)))))) [(30,bE true)] ?_
       cases h1
       exact .lg hj1 []
      ·have h1:=iteN g16 h1
       refine .a (rb 18 false []) (R 3 (df g7) (R 3 B0 (R 3 (df g13) (R 3 (df g14) (R 3 (df g15) (R 3 (df g16) T)))))) [(30,dE (a0=60))] ?_
       cases h1
       exact .lg hj1 []
def sp_NameValid (n:Nat) (a0:List UInt8):Option (Bool):=
 Option.bind ((if a0=[46,46,46] then some true else some (decide (a0=[95]))):Option (Bool)) (fun(o1:Bool)=>(if o1=true then some true else iterM n (fun(s3:Int)=>(Option.bind ((if s3<(a0.length:Int) then some (decide (s3≤12)) else some false):Option (Bool)) (fun(o5:Bool)=>(if o5=true then(atI a0 s3).bind fun y7=>(sp_l1Letter n (y7.toNat:Int) (decide (s3=0))).bind fun k8=>(if(!k8)=true then some (Sum.inl false) else some (Sum.inr (w64 (s3+1)))) else Option.bind ((if(a0.length:Int)≥1 then some (decide ((a0.length:Int)≤12)) else some false):Option (Bool)) (fun(o10:Bool)=>some (Sum.inl o10)))):Option (Bool⊕Int))) 0))
theorem w_sp_NameValid (n:Nat):∀(a0:List UInt8) {r:Bool},sp_NameValid n a0=some r→SCall X.E 174 [sE a0] [] (bE r) []:=by
 intro a0 r h0
 rw[sp_NameValid] at h0
 refine .n Tryz.func174 (fun L ks low K hl hL hlen hK=>?_)
 refine .a [] T [] ?_
 refine .bP h0 rfl [0] (fun o1=>[(9,bE o1)]) n1 n1 (fun o1 h0=>?_) (fun y1 h1 hj1=>?_)
 ·refine .jT h0 (fun hc2 h0=>?_) (fun hc2 h0=>?_)
  ·refine .a [] T [(2,bE true)] ?_
   cases h0
   exact .rt hK
  ·refine .a [] T [(3,iE 0)] ?_
   refine .it h0 rfl [0] (fun s3=>[(3,iE s3)]) n1 n1 [] (by kernel_rfl) (fun nk4 s3 h0=>?_)
   obtain⟨y1,h1,hw1,hn1⟩:=iter_cons h0
   refine .bP h1 rfl [0,3] (fun o5=>[(17,bE o5)]) n1 n1 (fun o5 h1=>?_) (fun y2 h2 hj2=>?_)
   ·refine .jT h1 (fun hc6 h1=>?_) (fun hc6 h1=>?_)
    ·obtain⟨y7,hy7,h1⟩:=bnd h1
     obtain⟨k8,hk8,h1⟩:=bnd h1
     refine .a [.by_ y7,.call [] (bE k8) []] (A (idy hy7) (A (w_sp_l1Letter n _ _ hk8) T)) [(26,bE (!k8))] ?_
     refine .jT h1 (fun hc9 h1=>?_) (fun hc9 h1=>?_)
     ·refine .a [] T [(2,bE false)] ?_
      cases h1
      cases hw1 _ rfl
      exact .rt hK
     ·refine .a [.pl] T [(3,iE (w64 (s3+1)))] ?_
      cases h1
      exact .nI rfl _ (hn1 _ rfl) [] (by kernel_rfl)
    ·refine .bP h1 rfl [] (fun o10=>[(2,bE o10)]) n1 n1 (fun o10 h1=>?_) (fun y2 h2 hj2=>?_)
     ·cases h1
      cases hw1 _ rfl
      exact .rt hK
     ·by_cases g11:(a0.length:Int)≥1
      ·have h2:=iteP g11 h2
       refine .a (rb 4 true []) (R 4 (dt g11) T) [(2,dE ((a0.length:Int)≤12))] ?_
       cases h2
       exact .lg hj2 []
      ·have h2:=iteN g11 h2
       refine .a (rb 4 false []) (R 4 (df g11) T) [(2,bE false)] ?_
       cases h2
       exact .lg hj2 []
   ·by_cases g12:s3<(a0.length:Int)
    ·have h2:=iteP g12 h2
     refine .a (rb 3 true []) (R 3 (dt g12) T) [(17,dE (s3≤12))] ?_
     cases h2
     exact .lg hj2 []
    ·have h2:=iteN g12 h2
     refine .a (rb 3 false []) (R 3 (df g12) T) [(17,bE false)] ?_
     cases h2
     exact .lg hj2 []
 ·by_cases g13:a0=[46,46,46]
  ·have h1:=iteP g13 h1
   refine .a (rb 3 true []) (R 3 (dt g13) T) [(9,bE true)] ?_
   cases h1
   exact .lg hj1 []
  ·have h1:=iteN g13 h1
   refine .a (rb 3 false []) (R 3 (df g13) T) [(9,dE (a0=[95]))] ?_
   cases h1
   exact .lg hj1 []
def sp_l1Scopes (n:Nat) (a0:List Int):Option (Bool):=
 iterM n (fun(s1:Int)=>(Option.bind ((if s1<(a0.length:Int) then some (decide (s1≤24)) else some false):Option (Bool)) (fun(o3:Bool)=>(if o3=true then Option.bind ((atI a0 s1).bind fun e7=>(if e7<1 then some true else(if e7>99 then some true else(if s1>0 then(atI a0 (w64 (s1-1))).bind fun e11=>some (decide (e7≤e11)) else some false))):Option (Bool)) (fun(o5:Bool)=>(if o5=true then some (Sum.inl false) else some (Sum.inr (w64 (s1+1))))) else some (Sum.inl (decide ((a0.length:Int)≤24))))):Option (Bool⊕Int))) 0
theorem w_sp_l1Scopes (n:Nat):∀(a0:List Int) {r:Bool},sp_l1Scopes n a0=some r→SCall X.E 244 [lE 1 (ksInt a0)] [] (bE r) []:=by
 intro a0 r h0
 rw[sp_l1Scopes] at h0
 refine .n Tryz.func244 (fun L ks low K hl hL hlen hK=>?_)
 refine .a [] T [] ?_
 refine .a [] T [(3,iE 0)] ?_
 refine .it h0 rfl [0] (fun s1=>[(3,iE s1)]) n1 n1 [] (by kernel_rfl) (fun nk2 s1 h0=>?_)
 obtain⟨y1,h1,hw1,hn1⟩:=iter_cons h0
 refine .bP h1 rfl [0,3] (fun o3=>[(11,bE o3)]) n1 n1 (fun o3 h1=>?_) (fun y2 h2 hj2=>?_)
 ·refine .jT h1 (fun hc4 h1=>?_) (fun hc4 h1=>?_)
  ·refine .bP h1 rfl [0,3] (fun o5=>[(41,bE o5)]) n1 n1 (fun o5 h1=>?_) (fun y2 h2 hj2=>?_)
   ·refine .jT h1 (fun hc6 h1=>?_) (fun hc6 h1=>?_)
    ·refine .a [] T [(2,bE false)] ?_
     cases h1
     cases hw1 _ rfl
     exact .rt hK
    ·refine .a [.pl] T [(3,iE (w64 (s1+1)))] ?_
     cases h1
     exact .nI rfl _ (hn1 _ rfl) [] (by kernel_rfl)
   ·obtain⟨e7,he7,h2⟩:=bnd h2
    by_cases g8:e7<1
    ·have h2:=iteP g8 h2
     refine .ad mixed ((2,[.cs [.v (.int .i64 e7)]])::(qb 6 6 true (qb 13 3 true (qb 26 2 true [])))) [] (A (dInt.idx he7) (R 6 (dt g8) (R 5 B1 T))) [(41,bE true)] [] [] ?_
     cases h2
     exact .lg hj2 []
    ·have h2:=iteN g8 h2
     by_cases g9:e7>99
     ·have h2:=iteP g9 h2
      refine .ad mixed ((2,[.cs [.v (.int .i64 e7)]])::(qb 6 2 false ((8,[.b false,.cs [.v (.int .i64 e7)]])::(qb 9 3 false (qb 13 3 true (qb 26 2 true [])))))) [] (A (dInt.idx he7) (R 2 (df g8) (A (A (df g8) (dInt.idx he7)) (R 3 (df g8) (R 5 (dt g9) T))))) [(41,bE true)] [] [] ?_
      cases h2
      exact .lg hj2 []
     ·have h2:=iteN g9 h2
      by_cases g10:s1>0
      ·have h2:=iteP g10 h2
       obtain⟨e11,he11,h2⟩:=bnd h2
       refine .ad mixed ((2,[.cs [.v (.int .i64 e7)]])::(qb 6 2 false ((8,[.b false,.cs [.v (.int .i64 e7)]])::(qb 9 3 false (qb 13 3 false (qb 16 2 true ((18,[.b true,.cs [.v (.int .i64 e7)]])::(qb 19 3 true ((22,[.b true,.pl])::((23,[.b true,.cs [.v (.int .i64 e11)]])::(qb 24 2 true [(26,[.b false,.b true]),(27,[.b false])]))))))))))) [] (A (dInt.idx he7) (R 2 (df g8) (A (A (df g8) (dInt.idx he7)) (R 3 (df g8) (R 3 (df g9) (R 2 (dt g10) (A (A (dt g10) (dInt.idx he7)) (R 4 (dt g10) (A (A (dt g10) (dInt.idx he11)) (R 2 (dt g10) (A (A (df g9) (dt g10)) (A (df g9) T)))))))))))) [(41,dE (e7≤e11))] [] [] ?_
       cases h2
       exact .lg hj2 []
      ·have h2:=iteN g10 h2
       refine .ad mixed ((2,[.cs [.v (.int .i64 e7)]])::(qb 6 2 false ((8,[.b false,.cs [.v (.int .i64 e7)]])::(qb 9 3 false (qb 13 13 false [(26,[.b false,.b false]),(27,[.b false])]))))) [] (A (dInt.idx he7) (R 2 (df g8) (A (A (df g8) (dInt.idx he7)) (R 3 (df g8) (R 3 (df g9) (R 10 (df g10) (A (A (df g9) (df g10)) (A (df g9) T)))))))) [(41,bE false)] [] [] ?_
       cases h2
       exact .lg hj2 []
  ·refine .a [.v (a0.length:Int)] (A (dInt.len' a0) T) [(2,dE ((a0.length:Int)≤24))] ?_
   refine .sn 0 dInt a0 (by kernel_rfl) (fun hb12=>?_)
   cases h1
   cases hw1 _ rfl
   exact .rt hK
 ·by_cases g13:s1<(a0.length:Int)
  ·have h2:=iteP g13 h2
   refine .a (.v (a0.length:Int)::(rb 3 true [])) (A (dInt.len' a0) (R 3 (dt g13) T)) [(11,dE (s1≤24))] ?_
   refine .sn 0 dInt a0 (by kernel_rfl) (fun hb14=>?_)
   cases h2
   exact .lg hj2 []
  ·have h2:=iteN g13 h2
   refine .a (.v (a0.length:Int)::(rb 3 false [])) (A (dInt.len' a0) (R 3 (df g13) T)) [(11,bE false)] ?_
   refine .sn 0 dInt a0 (by kernel_rfl) (fun hb15=>?_)
   cases h2
   exact .lg hj2 []
def sp_l1Is:Nat→Form→Int→Option (Bool)
 | 0,_,_=>none
 | n+1,a0,a1=>(if a1=0 then some false else(if a0.kind=1 then Option.bind ((sp_NameValid n a0.name).bind fun k4=>(if k4=true then(if a0.n=0 then(sp_l1Scopes n a0.scopes).bind fun k7=>(if k7=true then some (decide ((a0.kids.length:Int)=0)) else some false) else some false) else some false):Option (Bool)) (fun(o3:Bool)=>some o3) else(if a0.kind=2 then Option.bind ((if a0.name=[] then(if a0.n≥0 then(if a0.n≤999 then(if(a0.scopes.length:Int)=0 then some (decide ((a0.kids.length:Int)=0)) else some false) else some false) else some false) else some false):Option (Bool)) (fun(o10:Bool)=>some o10) else Option.bind ((if ¬a0.kind=3 then some true else(if ¬a0.name=[] then some true else(if ¬a0.n=0 then some true else some (decide (¬(a0.scopes.length:Int)=0))))):Option (Bool)) (fun(o15:Bool)=>(if o15=true then some false else seqS (forI (fun(s18:Unit) (i17:Nat) (x20:Form)=>((sp_l1Is n x20 (w64 (a1-1))).bind fun k26=>(if(!k26)=true then some (Sum.inl false) else some (Sum.inr ())):Option (Bool⊕Unit))) 0 a0.kids ()) (fun(s18:Unit)=>some true))))))
theorem w_sp_l1Is (n:Nat):∀(a0:Form) (a1:Int) {r:Bool},sp_l1Is n a0 a1=some r→SCall X.E 212 [aE (kForm a0),iE a1] [] (bE r) []:=by
 induction n with
 | zero=>intro a0 a1 r h; cases h
 | succ n ih=>
  intro a0 a1 r h0
  rw[sp_l1Is] at h0
  refine .n Tryz.func212 (fun L ks low K hl hL hlen hK=>?_)
  refine .af [] T [(2,pw 2)] [.o 2 (.cells ((kForm a0).map .d))] ?_
  refine .a [] T [(7,dE (a1=0))] ?_
  refine .jP h0 (fun hc1 h0=>?_) (fun hc1 h0=>?_)
  ·refine .a [] T [(4,bE false)] ?_
   cases h0
   exact .rt hK
  ·refine .a [] T [(9,iE a0.kind)] ?_
   refine .a [] T [(10,dE (a0.kind=1))] ?_
   refine .jP h0 (fun hc2 h0=>?_) (fun hc2 h0=>?_)
   ·refine .bP h0 rfl [] (fun o3=>[(4,bE o3)]) n1 n1 (fun o3 h0=>?_) (fun y1 h1 hj1=>?_)
    ·cases h0
     exact .rt hK
    ·obtain⟨k4,hk4,h1⟩:=bnd h1
     by_cases g5:k4=true
     ·have h1:=iteP g5 h1
      by_cases g6:a0.n=0
      ·have h1:=iteP g6 h1
       obtain⟨k7,hk7,h1⟩:=bnd h1
       by_cases g8:k7=true
       ·have h1:=iteP g8 h1
        refine .a (.call [] (bE k4) []::(rb 7 true (.call [] (bE k7) []::(rb 4 true [.v (a0.kids.length:Int),.b true,.b true])))) (A (w_sp_NameValid n _ hk4) (R 4 g5 (R 2 (dt g6) (A (A (dt g6) (w_sp_l1Scopes n _ hk7)) (A (dt g6) (R 2 g8 (A (A g8 (dForm.len' a0.kids)) (R 2 g8 T)))))))) [(4,dE ((a0.kids.length:Int)=0))] ?_
        cases h1
        exact .lg hj1 []
       ·have h1:=iteN g8 h1
        refine .a (.call [] (bE k4) []::(rb 7 true (.call [] (bE k7) []::(.b true::(rb 5 false []))))) (A (w_sp_NameValid n _ hk4) (R 4 g5 (R 2 (dt g6) (A (A (dt g6) (w_sp_l1Scopes n _ hk7)) (A (dt g6) (R 5 (Bool.eq_false_iff.2 g8) T)))))) [(4,bE false)] ?_
        cases h1
        exact .lg hj1 []
      ·have h1:=iteN g6 h1
       refine .a (.call [] (bE k4) []::(rb 4 true (rb 9 false []))) (A (w_sp_NameValid n _ hk4) (R 4 g5 (R 4 (df g6) (R 5 B0 T)))) [(4,bE false)] ?_
       cases h1
       exact .lg hj1 []
     ·have h1:=iteN g5 h1
      refine .a (.call [] (bE k4) []::(rb 13 false [])) (A (w_sp_NameValid n _ hk4) (R 4 (Bool.eq_false_iff.2 g5) (R 9 B0 T))) [(4,bE false)] ?_
      cases h1
      exact .lg hj1 []
   ·refine .a [] T [(31,dE (a0.kind=2))] ?_
    refine .jP h0 (fun hc9 h0=>?_) (fun hc9 h0=>?_)
    ·refine .bP h0 rfl [] (fun o10=>[(4,bE o10)]) n1 n1 (fun o10 h0=>?_) (fun y1 h1 hj1=>?_)
     ·cases h0
      exact .rt hK
     ·by_cases g11:a0.name=[]
      ·have h1:=iteP g11 h1
       by_cases g12:a0.n≥0
       ·have h1:=iteP g12 h1
        by_cases g13:a0.n≤999
        ·have h1:=iteP g13 h1
         by_cases g14:(a0.scopes.length:Int)=0
         ·have h1:=iteP g14 h1
          refine .a (rb 11 true (.v (a0.scopes.length:Int)::(rb 5 true [.v (a0.kids.length:Int),.b true,.b true]))) (R 4 (dt g11) (R 4 (dt g12) (R 2 (dt g13) (A (A (dt g13) (dInt.len' a0.scopes)) (R 2 (dt g13) (R 2 (dt g14) (A (A (dt g14) (dForm.len' a0.kids)) (R 2 (dt g14) T)))))))) [(4,dE ((a0.kids.length:Int)=0))] ?_
          cases h1
          exact .lg hj1 []
         ·have h1:=iteN g14 h1
          refine .a (rb 11 true (.v (a0.scopes.length:Int)::(.b true::(.b true::(rb 5 false []))))) (R 4 (dt g11) (R 4 (dt g12) (R 2 (dt g13) (A (A (dt g13) (dInt.len' a0.scopes)) (R 2 (dt g13) (R 5 (df g14) T)))))) [(4,bE false)] ?_
          cases h1
          exact .lg hj1 []
        ·have h1:=iteN g13 h1
         refine .a (rb 8 true (rb 10 false [])) (R 4 (dt g11) (R 4 (dt g12) (R 5 (df g13) (R 5 B0 T)))) [(4,bE false)] ?_
         cases h1
         exact .lg hj1 []
       ·have h1:=iteN g12 h1
        refine .a (rb 4 true (rb 14 false [])) (R 4 (dt g11) (R 4 (df g12) (R 10 B0 T))) [(4,bE false)] ?_
        cases h1
        exact .lg hj1 []
      ·have h1:=iteN g11 h1
       refine .a (rb 18 false []) (R 4 (df g11) (R 14 B0 T)) [(4,bE false)] ?_
       cases h1
       exact .lg hj1 []
    ·refine .bP h0 rfl [1,2] (fun o15=>[(76,bE o15)]) n1 n1 (fun o15 h0=>?_) (fun y1 h1 hj1=>?_)
     ·refine .jT h0 (fun hc16 h0=>?_) (fun hc16 h0=>?_)
      ·refine .a [] T [(4,bE false)] ?_
       cases h0
       exact .rt hK
      ·refine .a [] T [(5,iE 0)] ?_
       refine .lI h0 rfl [1,2] (fun i17 s18=>[(5,iE (i17:Int))]) n2 n2 [] (by kernel_rfl) (fun i17 s18 q19 hd21 hi23 h0=>?_)
       refine .a [.v (a0.kids.length:Int)] (A (dForm.len' a0.kids) T) [(79,lE 5 (ksForm a0.kids)),(81,dE ((i17:Int)<(a0.kids.length:Int)))] ?_
       refine .sn 79 dForm a0.kids (by kernel_rfl) (fun hb24=>?_)
       refine .lc hd21 rfl (by kernel_rfl) (fun x20 q192 hc25 hx20 hd22 hd22l=>?_) (fun hc25=>?_)
       ·subst hc25
        obtain⟨y1,h1,hw1,hn1⟩:=forI_cons h0
        obtain⟨k26,hk26,h1⟩:=bnd h1
        refine .a [.cs (kForm x20),.pl,.call [] (bE k26) []] (A (dForm.idn hx20) (A (ih _ _ hk26) T)) [(92,bE (!k26))] ?_
        refine .jT h1 (fun hc27 h1=>?_) (fun hc27 h1=>?_)
        ·refine .a [] T [(4,bE false)] ?_
         cases h1
         cases hw1 _ rfl
         exact .rt hK
        ·refine .a [.v ((i17+1:Nat):Int)] (A (wn (i:=i17) (by omega)) T) [(5,iE ((i17+1:Nat):Int))] ?_
         cases h1
         exact .nL rfl (i17+1) _ hd22 hd22l (hn1 _ rfl) [] (by kernel_rfl)
       ·subst hc25
        have h0:=forI_nil h0
        refine .a [] T [(4,bE true)] ?_
        cases h0
        exact .rt hK
     ·by_cases g28:¬a0.kind=3
      ·have h1:=iteP g28 h1
       refine .a (rb 13 true []) (R 4 (dt g28) (R 9 B1 T)) [(76,bE true)] ?_
       cases h1
       exact .lg hj1 []
      ·have h1:=iteN g28 h1
       by_cases g29:¬a0.name=[]
       ·have h1:=iteP g29 h1
        refine .a (rb 4 false (rb 9 true [])) (R 4 (df g28) (R 4 (dt g29) (R 5 B1 T))) [(76,bE true)] ?_
        cases h1
        exact .lg hj1 []
       ·have h1:=iteN g29 h1
        by_cases g30:¬a0.n=0
        ·have h1:=iteP g30 h1
         refine .a (rb 8 false (rb 5 true [])) (R 4 (df g28) (R 4 (df g29) (R 5 (dt g30) T))) [(76,bE true)] ?_
         cases h1
         exact .lg hj1 []
        ·have h1:=iteN g30 h1
         refine .a (rb 11 false [.v (a0.scopes.length:Int),.b false,.b false]) (R 4 (df g28) (R 4 (df g29) (R 2 (df g30) (A (A (df g30) (dInt.len' a0.scopes)) (R 2 (df g30) T))))) [(76,dE (¬(a0.scopes.length:Int)=0))] ?_
         cases h1
         exact .lg hj1 []
def sp_FormValid (n:Nat) (a0:Form):Option (Bool):=
 Option.bind ((sp_l1Is n a0 40).bind fun k2=>(if k2=true then(sp_l1Count n a0).bind fun k4=>some (decide (k4≤400)) else some false):Option (Bool)) (fun(o1:Bool)=>some o1)
theorem w_sp_FormValid (n:Nat):∀(a0:Form) {r:Bool},sp_FormValid n a0=some r→SCall X.E 175 [aE (kForm a0)] [] (bE r) []:=by
 intro a0 r h0
 rw[sp_FormValid] at h0
 refine .n Tryz.func175 (fun L ks low K hl hL hlen hK=>?_)
 refine .af [] T [(1,pw 1)] [.o 1 (.cells ((kForm a0).map .d))] ?_
 refine .bP h0 rfl [] (fun o1=>[(2,bE o1)]) n1 n1 (fun o1 h0=>?_) (fun y1 h1 hj1=>?_)
 ·cases h0
  exact .rt hK
 ·obtain⟨k2,hk2,h1⟩:=bnd h1
  by_cases g3:k2=true
  ·have h1:=iteP g3 h1
   obtain⟨k4,hk4,h1⟩:=bnd h1
   refine .a [.call [] (bE k2) [],.b true,.b true,.call [] (iE k4) [],.b true,.b true] (A (w_sp_l1Is n _ _ hk2) (A g3 (A (A g3 (w_sp_l1Count n _ hk4)) (R 2 g3 T)))) [(2,dE (k4≤400))] ?_
   cases h1
   exact .lg hj1 []
  ·have h1:=iteN g3 h1
   refine .a (.call [] (bE k2) []::(rb 4 false [])) (A (w_sp_l1Is n _ _ hk2) (R 4 (Bool.eq_false_iff.2 g3) T)) [(2,bE false)] ?_
   cases h1
   exact .lg hj1 []
def sp_StripForm:Nat→Form→Option (Form)
 | 0,_=>none
 | n+1,a0=>Option.bind (forL (fun(s2:List Form) (i1:Nat) (x4:Form)=>(sp_StripForm n x4).bind fun k10=>(apB 80 s2 [k10]).bind fun z11=>some z11) 0 a0.kids []) (fun(s2:List Form)=>some (⟨a0.kind,a0.name,a0.n,[],s2⟩:Form))
theorem w_sp_StripForm (n:Nat):∀(a0:Form) {r:Form},sp_StripForm n a0=some r→SCall X.E 177 [aE (kForm a0)] [] (aE (kForm r)) []:=by
 induction n with
 | zero=>intro a0 r h; cases h
 | succ n ih=>
  intro a0 r h0
  rw[sp_StripForm] at h0
  refine .n Tryz.func177 (fun L ks low K hl hL hlen hK=>?_)
  refine .af [] T [(1,pw 1),(2,pw 2)] [.o 1 (.cells ((kForm a0).map .d)),.o 2 (.cells [iE 0,sE [],iE 0,fE 1 (ksInt []),fE 5 (ksForm [])])] ?_
  refine .af [] T [(3,pw 3)] [.o 3 (.cells [iE a0.kind,sE a0.name,iE a0.n,fE 1 (ksInt []),fE 5 (ksForm [])])] ?_
  refine .a [] T [(4,iE 0)] ?_
  refine .oc 3 4 100028 32 (by kernel_rfl) ?_
  refine .lL h0 rfl [1,2,3] (fun i1 s2=>[(4,iE (i1:Int))]) (fun i1 s2=>[.c 3 4 (.gs (.own 100028) 5 (ksForm s2)),.o 100028 (.tok (ksForm s2).length 32)]) n2 [] (by kernel_rfl) (fun i1 s2 q3 hd5 hi7 h0=>?_)
  refine .a [.v (a0.kids.length:Int)] (A (dForm.len' a0.kids) T) [(14,lE 5 (ksForm a0.kids)),(16,dE ((i1:Int)<(a0.kids.length:Int)))] ?_
  refine .sn 14 dForm a0.kids (by kernel_rfl) (fun hb8=>?_)
  refine .lc hd5 rfl (by kernel_rfl) (fun x4 q32 hc9 hx4 hd6 hd6l=>?_) (fun hc9=>?_)
  ·subst hc9
   obtain⟨y1,h1,hn1⟩:=forL_cons h0
   obtain⟨k10,hk10,h1⟩:=bnd h1
   obtain⟨z11,hz11,h1⟩:=bnd h1
   refine .ad mixed [(5,[.cs (kForm x4)]),(7,[.call [] (aE (kForm k10)) []]),(8,[.sv (ksForm [k10])]),(9,[.sv (ksForm z11)])] [((ksForm s2).length:Int)] (A (dForm.idn hx4) (A (ih _ hk10) (A (dForm.lit [k10]) (A (dForm.ap hz11) T)))) [] [.c 3 4 (.gs (.own 100028) 5 (ksForm z11)),.o 100028 (.tok (ksForm z11).length 32)] [] ?_
   refine .a [.v ((i1+1:Nat):Int)] (A (wn (i:=i1) (by omega)) T) [(4,iE ((i1+1:Nat):Int))] ?_
   cases h1
   exact .nL rfl (i1+1) _ hd6 hd6l hn1 [] (by kernel_rfl)
  ·subst hc9
   have h0:=forL_nil h0
   refine .af [] T [] [.c 2 0 (iE a0.kind),.c 2 1 (sE a0.name),.c 2 2 (iE a0.n),.c 2 4 (.gs (.own 100028) 5 (ksForm s2))] ?_
   cases h0
   exact .rt hK
def sp_l6Fields (n:Nat) (a0:Core):Option (Bool):=
 Option.bind ((if a0.kind=1 then(if a0.id<1 then some true else(if a0.id>999 then some true else(if ¬a0.kind=1 then some (decide (¬a0.id=0)) else some false))) else(if ¬a0.kind=1 then some (decide (¬a0.id=0)) else some false)):Option (Bool)) (fun(o1:Bool)=>(if o1=true then some false else Option.bind ((if a0.kind=2 then(sp_NameValid n a0.name).bind fun k27=>(if(!k27)=true then some true else(if ¬a0.kind=2 then some (decide (¬a0.name=[])) else some false)) else(if ¬a0.kind=2 then some (decide (¬a0.name=[])) else some false)):Option (Bool)) (fun(o3:Bool)=>(if o3=true then some false else Option.bind ((if a0.kind=3 then(if a0.n<0 then some true else(if a0.n>999 then some true else(if ¬a0.kind=3 then some (decide (¬a0.n=0)) else some false))) else(if ¬a0.kind=3 then some (decide (¬a0.n=0)) else some false)):Option (Bool)) (fun(o5:Bool)=>(if o5=true then some false else Option.bind ((if a0.kind=4 then(sp_FormValid n a0.data).bind fun k12=>(if(!k12)=true then some true else(sp_StripForm n a0.data).bind fun k14=>(sp_FormSame n k14 a0.data).bind fun k15=>(if(!k15)=true then some true else(if ¬a0.kind=4 then(sp_FormSame n a0.data (⟨0,[],0,[],[]⟩:Form)).bind fun k18=>some (!k18) else some false))) else(if ¬a0.kind=4 then(sp_FormSame n a0.data (⟨0,[],0,[],[]⟩:Form)).bind fun k20=>some (!k20) else some false)):Option (Bool)) (fun(o7:Bool)=>(if o7=true then some false else Option.bind ((if a0.kind=5 then some true else some (decide ((a0.ids.length:Int)=0))):Option (Bool)) (fun(o9:Bool)=>some o9)))))))))
theorem w_sp_l6Fields (n:Nat):∀(a0:Core) {r:Bool},sp_l6Fields n a0=some r→SCall X.E 144 [aE (kCore a0)] [] (bE r) []:=by
 intro a0 r h0
 rw[sp_l6Fields] at h0
 refine .n Tryz.func144 (fun L ks low K hl hL hlen hK=>?_)
 refine .af [] T [(1,pw 1)] [.o 1 (.cells ((kCore a0).map .d))] ?_
 refine .bP h0 rfl [1] (fun o1=>[(25,bE o1)]) n1 n1 (fun o1 h0=>?_) (fun y1 h1 hj1=>?_)
 ·refine .jT h0 (fun hc2 h0=>?_) (fun hc2 h0=>?_)
  ·refine .a [] T [(2,bE false)] ?_
   cases h0
   exact .rt hK
  ·refine .bP h0 rfl [1] (fun o3=>[(44,bE o3)]) n1 n1 (fun o3 h0=>?_) (fun y1 h1 hj1=>?_)
   ·refine .jT h0 (fun hc4 h0=>?_) (fun hc4 h0=>?_)
    ·refine .a [] T [(2,bE false)] ?_
     cases h0
     exact .rt hK
    ·refine .bP h0 rfl [1] (fun o5=>[(67,bE o5)]) n1 n1 (fun o5 h0=>?_) (fun y1 h1 hj1=>?_)
     ·refine .jT h0 (fun hc6 h0=>?_) (fun hc6 h0=>?_)
      ·refine .a [] T [(2,bE false)] ?_
       cases h0
       exact .rt hK
      ·refine .bP h0 rfl [1] (fun o7=>[(97,bE o7)]) n1 n1 (fun o7 h0=>?_) (fun y1 h1 hj1=>?_)
       ·refine .jT h0 (fun hc8 h0=>?_) (fun hc8 h0=>?_)
        ·refine .a [] T [(2,bE false)] ?_
         cases h0
         exact .rt hK
        ·refine .bP h0 rfl [] (fun o9=>[(2,bE o9)]) n1 n1 (fun o9 h0=>?_) (fun y1 h1 hj1=>?_)
         ·cases h0
          exact .rt hK
         ·by_cases g10:a0.kind=5
          ·have h1:=iteP g10 h1
           refine .a (rb 5 true []) (R 5 (dt g10) T) [(2,bE true)] ?_
           cases h1
           exact .lg hj1 []
          ·have h1:=iteN g10 h1
           refine .a (rb 3 false [.v (a0.ids.length:Int),.b false,.b false]) (R 2 (df g10) (A (A (df g10) (dInt.len' a0.ids)) (R 2 (df g10) T))) [(2,dE ((a0.ids.length:Int)=0))] ?_
           cases h1
           exact .lg hj1 []
       ·by_cases g11:a0.kind=4
        ·have h1:=iteP g11 h1
         obtain⟨k12,hk12,h1⟩:=bnd h1
         by_cases g13:(!k12)=true
         ·have h1:=iteP g13 h1
          refine .ad mixed (qb 4 2 true ((6,[.b true,.call [] (bE k12) []])::(qb 7 9 true ((16,[.b true,.b true])::((17,[.b true])::(qb 19 4 true (qb 28 2 true []))))))) [] (R 2 (dt g11) (A (A (dt g11) (w_sp_FormValid n _ hk12)) (R 2 (dt g11) (R 7 g13 (A (A (dt g11) g13) (A (dt g11) (R 6 B1 T))))))) [(97,bE true)] [] [] ?_
          cases h1
          exact .lg hj1 []
         ·have h1:=iteN g13 h1
          obtain⟨k14,hk14,h1⟩:=bnd h1
          obtain⟨k15,hk15,h1⟩:=bnd h1
          by_cases g16:(!k15)=true
          ·have h1:=iteP g16 h1
           refine .ad mixed (qb 4 2 true ((6,[.b true,.call [] (bE k12) []])::(qb 7 2 true (qb 9 2 false ((11,[.b false,.call [] (aE (kForm k14)) []])::(qb 12 2 false ((14,[.b false,.call [] (bE k15) []])::((15,[.b false])::((16,[.b true,.b false])::((17,[.b true])::(qb 19 4 true (qb 28 2 true [])))))))))))) [] (R 2 (dt g11) (A (A (dt g11) (w_sp_FormValid n _ hk12)) (R 2 (dt g11) (R 2 (Bool.eq_false_iff.2 g13) (A (A (Bool.eq_false_iff.2 g13) (w_sp_StripForm n _ hk14)) (R 2 (Bool.eq_false_iff.2 g13) (A (A (Bool.eq_false_iff.2 g13) (w_sp_FormSame n _ _ hk15)) (A (Bool.eq_false_iff.2 g13) (A (A (dt g11) (Bool.eq_false_iff.2 g13)) (A (dt g11) (R 6 g16 T))))))))))) [(97,bE true)] [] [] ?_
           cases h1
           exact .lg hj1 []
          ·have h1:=iteN g16 h1
           by_cases g17:¬a0.kind=4
           ·have h1:=iteP g17 h1
            obtain⟨k18,hk18,h1⟩:=bnd h1
            refine .ad mixed (qb 4 2 true ((6,[.b true,.call [] (bE k12) []])::(qb 7 2 true (qb 9 2 false ((11,[.b false,.call [] (aE (kForm k14)) []])::(qb 12 2 false ((14,[.b false,.call [] (bE k15) []])::((15,[.b false])::((16,[.b true,.b false])::((17,[.b true])::(qb 19 4 false (qb 23 3 true [(26,[.b true,.call [] (bE k18) []]),(27,[.b true]),(28,[.b false,.b true]),(29,[.b false])])))))))))))) [] (R 2 (dt g11) (A (A (dt g11) (w_sp_FormValid n _ hk12)) (R 2 (dt g11) (R 2 (Bool.eq_false_iff.2 g13) (A (A (Bool.eq_false_iff.2 g13) (w_sp_StripForm n _ hk14)) (R 2 (Bool.eq_false_iff.2 g13) (A (A (Bool.eq_false_iff.2 g13) (w_sp_FormSame n _ _ hk15)) (A (Bool.eq_false_iff.2 g13) (A (A (dt g11) (Bool.eq_false_iff.2 g13)) (A (dt g11) (R 4 (Bool.eq_false_iff.2 g16) (R 3 (dt g17) (A (A (dt g17) (w_sp_FormSame n _ _ hk18)) (A (dt g17) (A (A (Bool.eq_false_iff.2 g16) (dt g17)) (A (Bool.eq_false_iff.2 g16) T)))))))))))))))) [(97,bE (!k18))] [] [] ?_
            cases h1
            exact .lg hj1 []
           ·have h1:=iteN g17 h1
            refine .ad mixed (qb 4 2 true ((6,[.b true,.call [] (bE k12) []])::(qb 7 2 true (qb 9 2 false ((11,[.b false,.call [] (aE (kForm k14)) []])::(qb 12 2 false ((14,[.b false,.call [] (bE k15) []])::((15,[.b false])::((16,[.b true,.b false])::((17,[.b true])::(qb 19 9 false [(28,[.b false,.b false]),(29,[.b false])]))))))))))) [] (R 2 (dt g11) (A (A (dt g11) (w_sp_FormValid n _ hk12)) (R 2 (dt g11) (R 2 (Bool.eq_false_iff.2 g13) (A (A (Bool.eq_false_iff.2 g13) (w_sp_StripForm n _ hk14)) (R 2 (Bool.eq_false_iff.2 g13) (A (A (Bool.eq_false_iff.2 g13) (w_sp_FormSame n _ _ hk15)) (A (Bool.eq_false_iff.2 g13) (A (A (dt g11) (Bool.eq_false_iff.2 g13)) (A (dt g11) (R 4 (Bool.eq_false_iff.2 g16) (R 5 (df g17) (A (A (Bool.eq_false_iff.2 g16) (df g17)) (A (Bool.eq_false_iff.2 g16) T)))))))))))))) [(97,bE false)] [] [] ?_
            cases h1
            exact .lg hj1 []
        ·have h1:=iteN g11 h1
         by_cases g19:¬a0.kind=4
         ·have h1:=iteP g19 h1
          obtain⟨k20,hk20,h1⟩:=bnd h1
          refine .ad mixed (qb 4 5 false (qb 16 2 false (qb 19 4 false (qb 23 3 true [(26,[.b true,.call [] (bE k20) []]),(27,[.b true]),(28,[.b false,.b true]),(29,[.b false])])))) [] (R 7 (df g11) (R 4 B0 (R 3 (dt g19) (A (A (dt g19) (w_sp_FormSame n _ _ hk20)) (A (dt g19) (A (A B0 (dt g19)) (A B0 T))))))) [(97,bE (!k20))] [] [] ?_
          cases h1
          exact .lg hj1 []
         ·have h1:=iteN g19 h1
          refine .ad mixed (qb 4 5 false (qb 16 2 false (qb 19 9 false [(28,[.b false,.b false]),(29,[.b false])]))) [] (R 7 (df g11) (R 4 B0 (R 5 (df g19) (A (A B0 (df g19)) (A B0 T))))) [(97,bE false)] [] [] ?_
          cases h1
          exact .lg hj1 []
     ·by_cases g21:a0.kind=3
      ·have h1:=iteP g21 h1
       by_cases g22:a0.n<0
       ·have h1:=iteP g22 h1
        refine .a (rb 16 true []) (R 4 (dt g21) (R 3 (dt g22) (A (A (dt g21) (dt g22)) (A (dt g21) (R 6 B1 T))))) [(67,bE true)] ?_
        cases h1
        exact .lg hj1 []
       ·have h1:=iteN g22 h1
        by_cases g23:a0.n>999
        ·have h1:=iteP g23 h1
         refine .a (rb 4 true (rb 3 false (.b true::(.b false::(rb 7 true []))))) (R 4 (dt g21) (R 3 (df g22) (A (A (dt g21) (df g22)) (A (dt g21) (R 6 (dt g23) T))))) [(67,bE true)] ?_
         cases h1
         exact .lg hj1 []
        ·have h1:=iteN g23 h1
         by_cases g24:¬a0.kind=3
         ·have h1:=iteP g24 h1
          refine .a (rb 4 true (rb 3 false (.b true::(.b false::(.b true::(rb 4 false (rb 3 true [.b false,.b true,.b false]))))))) (R 4 (dt g21) (R 3 (df g22) (A (A (dt g21) (df g22)) (A (dt g21) (R 4 (df g23) (R 3 (dt g24) (A (A (df g23) (dt g24)) (A (df g23) T)))))))) [(67,dE (¬a0.n=0))] ?_
          cases h1
          exact .lg hj1 []
         ·have h1:=iteN g24 h1
          refine .a (rb 4 true (rb 3 false (.b true::(.b false::(.b true::(rb 10 false [])))))) (R 4 (dt g21) (R 3 (df g22) (A (A (dt g21) (df g22)) (A (dt g21) (R 4 (df g23) (R 3 (df g24) (A (A (df g23) (df g24)) (A (df g23) T)))))))) [(67,bE false)] ?_
          cases h1
          exact .lg hj1 []
      ·have h1:=iteN g21 h1
       by_cases g25:¬a0.kind=3
       ·have h1:=iteP g25 h1
        refine .a (rb 10 false (rb 3 true [.b false,.b true,.b false])) (R 6 (df g21) (R 4 B0 (R 3 (dt g25) (A (A B0 (dt g25)) (A B0 T))))) [(67,dE (¬a0.n=0))] ?_
        cases h1
        exact .lg hj1 []
       ·have h1:=iteN g25 h1
        refine .a (rb 16 false []) (R 6 (df g21) (R 4 B0 (R 3 (df g25) (A (A B0 (df g25)) (A B0 T))))) [(67,bE false)] ?_
        cases h1
        exact .lg hj1 []
   ·by_cases g26:a0.kind=2
    ·have h1:=iteP g26 h1
     obtain⟨k27,hk27,h1⟩:=bnd h1
     by_cases g28:(!k27)=true
     ·have h1:=iteP g28 h1
      refine .a (rb 3 true (.call [] (bE k27) []::(rb 8 true []))) (R 2 (dt g26) (A (A (dt g26) (w_sp_NameValid n _ hk27)) (R 2 (dt g26) (R 6 g28 T)))) [(44,bE true)] ?_
      cases h1
      exact .lg hj1 []
     ·have h1:=iteN g28 h1
      by_cases g29:¬a0.kind=2
      ·have h1:=iteP g29 h1
       refine .a (rb 3 true (.call [] (bE k27) []::(.b true::(.b true::(rb 4 false (rb 3 true [.b false,.b true,.b false])))))) (R 2 (dt g26) (A (A (dt g26) (w_sp_NameValid n _ hk27)) (R 2 (dt g26) (R 4 (Bool.eq_false_iff.2 g28) (R 3 (dt g29) (A (A (Bool.eq_false_iff.2 g28) (dt g29)) (A (Bool.eq_false_iff.2 g28) T))))))) [(44,dE (¬a0.name=[]))] ?_
       cases h1
       exact .lg hj1 []
      ·have h1:=iteN g29 h1
       refine .a (rb 3 true (.call [] (bE k27) []::(.b true::(.b true::(rb 10 false []))))) (R 2 (dt g26) (A (A (dt g26) (w_sp_NameValid n _ hk27)) (R 2 (dt g26) (R 4 (Bool.eq_false_iff.2 g28) (R 3 (df g29) (A (A (Bool.eq_false_iff.2 g28) (df g29)) (A (Bool.eq_false_iff.2 g28) T))))))) [(44,bE false)] ?_
       cases h1
       exact .lg hj1 []
    ·have h1:=iteN g26 h1
     by_cases g30:¬a0.kind=2
     ·have h1:=iteP g30 h1
      refine .a (rb 9 false (rb 3 true [.b false,.b true,.b false])) (R 5 (df g26) (R 4 B0 (R 3 (dt g30) (A (A B0 (dt g30)) (A B0 T))))) [(44,dE (¬a0.name=[]))] ?_
      cases h1
      exact .lg hj1 []
     ·have h1:=iteN g30 h1
      refine .a (rb 15 false []) (R 5 (df g26) (R 4 B0 (R 3 (df g30) (A (A B0 (df g30)) (A B0 T))))) [(44,bE false)] ?_
      cases h1
      exact .lg hj1 []
 ·by_cases g31:a0.kind=1
  ·have h1:=iteP g31 h1
   by_cases g32:a0.id<1
   ·have h1:=iteP g32 h1
    refine .a (rb 16 true []) (R 4 (dt g31) (R 3 (dt g32) (A (A (dt g31) (dt g32)) (A (dt g31) (R 6 B1 T))))) [(25,bE true)] ?_
    cases h1
    exact .lg hj1 []
   ·have h1:=iteN g32 h1
    by_cases g33:a0.id>999
    ·have h1:=iteP g33 h1
     refine .a (rb 4 true (rb 3 false (.b true::(.b false::(rb 7 true []))))) (R 4 (dt g31) (R 3 (df g32) (A (A (dt g31) (df g32)) (A (dt g31) (R 6 (dt g33) T))))) [(25,bE true)] ?_
     cases h1
     exact .lg hj1 []
    ·have h1:=iteN g33 h1
     by_cases g34:¬a0.kind=1
     ·have h1:=iteP g34 h1
      refine .a (rb 4 true (rb 3 false (.b true::(.b false::(.b true::(rb 4 false (rb 3 true [.b false,.b true,.b false]))))))) (R 4 (dt g31) (R 3 (df g32) (A (A (dt g31) (df g32)) (A (dt g31) (R 4 (df g33) (R 3 (dt g34) (A (A (df g33) (dt g34)) (A (df g33) T)))))))) [(25,dE (¬a0.id=0))] ?_
      cases h1
      exact .lg hj1 []
     ·have h1:=iteN g34 h1
      refine .a (rb 4 true (rb 3 false (.b true::(.b false::(.b true::(rb 10 false [])))))) (R 4 (dt g31) (R 3 (df g32) (A (A (dt g31) (df g32)) (A (dt g31) (R 4 (df g33) (R 3 (df g34) (A (A (df g33) (df g34)) (A (df g33) T)))))))) [(25,bE false)] ?_
      cases h1
      exact .lg hj1 []
  ·have h1:=iteN g31 h1
   by_cases g35:¬a0.kind=1
   ·have h1:=iteP g35 h1
    refine .a (rb 10 false (rb 3 true [.b false,.b true,.b false])) (R 6 (df g31) (R 4 B0 (R 3 (dt g35) (A (A B0 (dt g35)) (A B0 T))))) [(25,dE (¬a0.id=0))] ?_
    cases h1
    exact .lg hj1 []
   ·have h1:=iteN g35 h1
    refine .a (rb 16 false []) (R 6 (df g31) (R 4 B0 (R 3 (df g35) (A (A B0 (df g35)) (A B0 T))))) [(25,bE false)] ?_
    cases h1
    exact .lg hj1 []
def sp_l6Kids (n:Nat) (a0:Int) (a1:Int):Option (Bool):=
 Option.bind ((if a0=1 then some (decide (a0=1)) else(if a0=2 then some (decide (a0=2)) else(if a0=3 then some (decide (a0=3)) else some (decide (a0=4))))):Option (Bool)) (fun(o1:Bool)=>(if o1=true then some (decide (a1=0)) else(if a0=5 then some (decide (a1=1)) else(if a0=6 then some (decide (a1≥1)) else Option.bind ((if a0=7 then some (decide (a1=3)) else some false):Option (Bool)) (fun(o5:Bool)=>some o5)))))
theorem w_sp_l6Kids (n:Nat):∀(a0:Int) (a1:Int) {r:Bool},sp_l6Kids n a0 a1=some r→SCall X.E 143 [iE a0,iE a1] [] (bE r) []:=by
 intro a0 a1 r h0
 rw[sp_l6Kids] at h0
 refine .n Tryz.func143 (fun L ks low K hl hL hlen hK=>?_)
 refine .a [] T [] ?_
 refine .a [] T [(5,iE a0)] ?_
 refine .a [] T [(6,dE (a0=1))] ?_
 refine .bP h0 rfl [0,1,5] (fun o1=>[(6,bE o1)]) n1 n1 (fun o1 h0=>?_) (fun y1 h1 hj1=>?_)
 ·refine .jT h0 (fun hc2 h0=>?_) (fun hc2 h0=>?_)
  ·refine .a [] T [(4,dE (a1=0))] ?_
   cases h0
   exact .rt hK
  ·refine .a [] T [(13,dE (a0=5))] ?_
   refine .jP h0 (fun hc3 h0=>?_) (fun hc3 h0=>?_)
   ·refine .a [] T [(4,dE (a1=1))] ?_
    cases h0
    exact .rt hK
   ·refine .a [] T [(17,dE (a0=6))] ?_
    refine .jP h0 (fun hc4 h0=>?_) (fun hc4 h0=>?_)
    ·refine .a [] T [(4,dE (a1≥1))] ?_
     cases h0
     exact .rt hK
    ·refine .bP h0 rfl [] (fun o5=>[(4,bE o5)]) n1 n1 (fun o5 h0=>?_) (fun y1 h1 hj1=>?_)
     ·cases h0
      exact .rt hK
     ·by_cases g6:a0=7
      ·have h1:=iteP g6 h1
       refine .a (rb 3 true []) (R 3 (dt g6) T) [(4,dE (a1=3))] ?_
       cases h1
       exact .lg hj1 []
      ·have h1:=iteN g6 h1
       refine .a (rb 3 false []) (R 3 (df g6) T) [(4,bE false)] ?_
       cases h1
       exact .lg hj1 []
 ·refine .jP h1 (fun hc7 h1=>?_) (fun hc7 h1=>?_)
  ·cases h1
   exact .lg hj1 []
  ·refine .a [] T [(6,dE (a0=2))] ?_
   refine .jP h1 (fun hc8 h1=>?_) (fun hc8 h1=>?_)
   ·cases h1
    exact .lg hj1 []
   ·refine .a [] T [(6,dE (a0=3))] ?_
    refine .jP h1 (fun hc9 h1=>?_) (fun hc9 h1=>?_)
    ·cases h1
     exact .lg hj1 []
    ·refine .a [] T [(6,dE (a0=4))] ?_
     cases h1
     exact .lg hj1 []
def sp_l6Is:Nat→Core→(List Int)→Int→Option (Bool)
 | 0,_,_,_=>none
 | n+1,a0,a1,a2=>Option.bind ((if a2=0 then some true else(sp_l6Kids n a0.kind (a0.kids.length:Int)).bind fun k31=>(if(!k31)=true then some true else(sp_l6Fields n a0).bind fun k33=>(if(!k33)=true then some true else(if a0.kind=1 then(sp_l2Has n a1 a0.id).bind fun k36=>some (!k36) else some false)))):Option (Bool)) (fun(o1:Bool)=>(if o1=true then some false else seqS (forI (fun(s4:List Int) (i3:Nat) (x6:Int)=>(Option.bind ((if x6<1 then some true else(if x6>999 then some true else(sp_l2Has n s4 x6).bind fun k18=>some k18)):Option (Bool)) (fun(o12:Bool)=>(if o12=true then some (Sum.inl false) else(apB 8 [] s4).bind fun z14=>(apB 8 z14 [x6]).bind fun z15=>some (Sum.inr z15))):Option (Bool⊕(List Int)))) 0 a0.ids a1) (fun(s4:List Int)=>seqS (forI (fun(s20:Unit) (i19:Nat) (x22:Core)=>((sp_l6Is n x22 s4 (w64 (a2-1))).bind fun k28=>(if(!k28)=true then some (Sum.inl false) else some (Sum.inr ())):Option (Bool⊕Unit))) 0 a0.kids ()) (fun(s20:Unit)=>some true))))
theorem w_sp_l6Is (n:Nat):∀(a0:Core) (a1:List Int) (a2:Int) {r:Bool},sp_l6Is n a0 a1 a2=some r→SCall X.E 105 [aE (kCore a0),lE 1 (ksInt a1),iE a2] [] (bE r) []:=by
 induction n with
 | zero=>intro a0 a1 a2 r h; cases h
 | succ n ih=>
  intro a0 a1 a2 r h0
  rw[sp_l6Is] at h0
  refine .n Tryz.func105 (fun L ks low K hl hL hlen hK=>?_)
  refine .af [] T [(3,pw 3)] [.o 3 (.cells ((kCore a0).map .d))] ?_
  refine .bP h0 rfl [1,2,3] (fun o1=>[(37,bE o1)]) n1 n1 (fun o1 h0=>?_) (fun y1 h1 hj1=>?_)
  ·refine .jT h0 (fun hc2 h0=>?_) (fun hc2 h0=>?_)
   ·refine .a [] T [(6,bE false)] ?_
    cases h0
    exact .rt hK
   ·refine .a [] T [(7,lE 1 (ksInt a1))] ?_
    refine .a [] T [(8,iE 0)] ?_
    refine .lI h0 rfl [2,3] (fun i3 s4=>[(7,lE 1 (ksInt s4)),(8,iE (i3:Int))]) n2 n2 [] (by kernel_rfl) (fun i3 s4 q5 hd7 hi9 h0=>?_)
    refine .a [.v (a0.ids.length:Int)] (A (dInt.len' a0.ids) T) [(41,lE 1 (ksInt a0.ids)),(43,dE ((i3:Int)<(a0.ids.length:Int)))] ?_
    refine .sn 41 dInt a0.ids (by kernel_rfl) (fun hb10=>?_)
    refine .lc hd7 rfl (by kernel_rfl) (fun x6 q52 hc11 hx6 hd8 hd8l=>?_) (fun hc11=>?_)
    ·subst hc11
     obtain⟨y1,h1,hw1,hn1⟩:=forI_cons h0
     refine .bP h1 rfl [2,3,7,8] (fun o12=>[(68,bE o12)]) n1 n1 (fun o12 h1=>?_) (fun y2 h2 hj2=>?_)
     ·refine .jT h1 (fun hc13 h1=>?_) (fun hc13 h1=>?_)
      ·refine .a [] T [(6,bE false)] ?_
       cases h1
       cases hw1 _ rfl
       exact .rt hK
      ·obtain⟨z14,hz14,h1⟩:=bnd h1
       obtain⟨z15,hz15,h1⟩:=bnd h1
       refine .ad mixed [(0,[.sv (ksInt [])]),(2,[.sv (ksInt z14)]),(6,[.cs [.v (.int .i64 x6)]]),(8,[.sv (ksInt [x6])]),(9,[.sv (ksInt z15)])] [((ksInt z14).length:Int)] (A (dInt.lit []) (A (dInt.ap hz14) (A (dInt.idn hx6) (A (dInt.lit [x6]) (A (dInt.ap hz15) T))))) [(7,.gs (.own 100071) 1 (ksInt z15))] [.o 100071 (.tok (ksInt z15).length 3)] [] ?_
       refine .a [.v ((i3+1:Nat):Int)] (A (wn (i:=i3) (by omega)) T) [(8,iE ((i3+1:Nat):Int))] ?_
       cases h1
       refine .kp [2,3,7,8] [7] ?_
       refine .dr 100071 (by kernel_rfl) ?_
       exact .nL rfl (i3+1) _ hd8 hd8l (hn1 _ rfl) [] (by kernel_rfl)
     ·by_cases g16:x6<1
      ·have h2:=iteP g16 h2
       refine .a (.cs [.v (.int .i64 x6)]::(rb 15 true [])) (A (dInt.idn hx6) (R 7 (dt g16) (R 8 B1 T))) [(68,bE true)] ?_
       cases h2
       exact .lg hj2 []
      ·have h2:=iteN g16 h2
       by_cases g17:x6>999
       ·have h2:=iteP g17 h2
        refine .a (.cs [.v (.int .i64 x6)]::(rb 4 false (.cs [.v (.int .i64 x6)]::(rb 3 false (rb 8 true []))))) (A (dInt.idn hx6) (R 3 (df g16) (A (A (df g16) (dInt.idn hx6)) (R 3 (df g16) (R 8 (dt g17) T))))) [(68,bE true)] ?_
        cases h2
        exact .lg hj2 []
       ·have h2:=iteN g17 h2
        obtain⟨k18,hk18,h2⟩:=bnd h2
        refine .a (.cs [.v (.int .i64 x6)]::(rb 4 false (.cs [.v (.int .i64 x6)]::(rb 8 false [.cs [.v (.int .i64 x6)],.b false,.b false,.call [] (bE k18) [],.b false])))) (A (dInt.idn hx6) (R 3 (df g16) (A (A (df g16) (dInt.idn hx6)) (R 3 (df g16) (R 4 (df g17) (A (A (df g17) (dInt.idn hx6)) (A (df g17) (A (A (df g17) (w_sp_l2Has n _ _ hk18)) (A (df g17) T))))))))) [(68,bE k18)] ?_
        cases h2
        exact .lg hj2 []
    ·subst hc11
     have h0:=forI_nil h0
     refine .a [] T [(9,iE 0)] ?_
     refine .lI h0 rfl [2,3,7] (fun i19 s20=>[(9,iE (i19:Int))]) n2 n2 [] (by kernel_rfl) (fun i19 s20 q21 hd23 hi25 h0=>?_)
     refine .a [.v (a0.kids.length:Int)] (A (dCore.len' a0.kids) T) [(81,lE 11 (ksCore a0.kids)),(83,dE ((i19:Int)<(a0.kids.length:Int)))] ?_
     refine .sn 81 dCore a0.kids (by kernel_rfl) (fun hb26=>?_)
     refine .lc hd23 rfl (by kernel_rfl) (fun x22 q212 hc27 hx22 hd24 hd24l=>?_) (fun hc27=>?_)
     ·subst hc27
      obtain⟨y1,h1,hw1,hn1⟩:=forI_cons h0
      obtain⟨k28,hk28,h1⟩:=bnd h1
      refine .a [.cs (kCore x22),.pl,.call [] (bE k28) []] (A (dCore.idn hx22) (A (ih _ _ _ hk28) T)) [(95,bE (!k28))] ?_
      refine .jT h1 (fun hc29 h1=>?_) (fun hc29 h1=>?_)
      ·refine .a [] T [(6,bE false)] ?_
       cases h1
       cases hw1 _ rfl
       exact .rt hK
      ·refine .a [.v ((i19+1:Nat):Int)] (A (wn (i:=i19) (by omega)) T) [(9,iE ((i19+1:Nat):Int))] ?_
       cases h1
       exact .nL rfl (i19+1) _ hd24 hd24l (hn1 _ rfl) [] (by kernel_rfl)
     ·subst hc27
      have h0:=forI_nil h0
      refine .a [] T [(6,bE true)] ?_
      cases h0
      exact .rt hK
  ·by_cases g30:a2=0
   ·have h1:=iteP g30 h1
    refine .a (rb 18 true []) (R 8 (dt g30) (R 10 B1 T)) [(37,bE true)] ?_
    cases h1
    exact .lg hj1 []
   ·have h1:=iteN g30 h1
    obtain⟨k31,hk31,h1⟩:=bnd h1
    by_cases g32:(!k31)=true
    ·have h1:=iteP g32 h1
     refine .a (rb 5 false (.v (a0.kids.length:Int)::(.b false::(.call [] (bE k31) []::(.b false::(.b false::(rb 10 true []))))))) (R 4 (df g30) (A (A (df g30) (dCore.len' a0.kids)) (A (A (df g30) (w_sp_l6Kids n _ _ hk31)) (R 2 (df g30) (R 4 g32 (R 6 B1 T)))))) [(37,bE true)] ?_
     cases h1
     exact .lg hj1 []
    ·have h1:=iteN g32 h1
     obtain⟨k33,hk33,h1⟩:=bnd h1
     by_cases g34:(!k33)=true
     ·have h1:=iteP g34 h1
      refine .a (rb 5 false (.v (a0.kids.length:Int)::(.b false::(.call [] (bE k31) []::(rb 4 false (.call [] (bE k33) []::(.b false::(.b false::(rb 6 true []))))))))) (R 4 (df g30) (A (A (df g30) (dCore.len' a0.kids)) (A (A (df g30) (w_sp_l6Kids n _ _ hk31)) (R 2 (df g30) (A (Bool.eq_false_iff.2 g32) (A (A (Bool.eq_false_iff.2 g32) (w_sp_l6Fields n _ hk33)) (R 2 (Bool.eq_false_iff.2 g32) (R 6 g34 T)))))))) [(37,bE true)] ?_
      cases h1
      exact .lg hj1 []
     ·have h1:=iteN g34 h1
      by_cases g35:a0.kind=1
      ·have h1:=iteP g35 h1
       obtain⟨k36,hk36,h1⟩:=bnd h1
       refine .a (rb 5 false (.v (a0.kids.length:Int)::(.b false::(.call [] (bE k31) []::(rb 4 false (.call [] (bE k33) []::(rb 6 false (rb 4 true [.call [] (bE k36) [],.b true,.b false,.b true,.b false])))))))) (R 4 (df g30) (A (A (df g30) (dCore.len' a0.kids)) (A (A (df g30) (w_sp_l6Kids n _ _ hk31)) (R 2 (df g30) (A (Bool.eq_false_iff.2 g32) (A (A (Bool.eq_false_iff.2 g32) (w_sp_l6Fields n _ hk33)) (R 2 (Bool.eq_false_iff.2 g32) (R 4 (Bool.eq_false_iff.2 g34) (R 3 (dt g35) (A (A (dt g35) (w_sp_l2Has n _ _ hk36)) (A (dt g35) (A (A (Bool.eq_false_iff.2 g34) (dt g35)) (A (Bool.eq_false_iff.2 g34) T))))))))))))) [(37,bE (!k36))] ?_
       cases h1
       exact .lg hj1 []
      ·have h1:=iteN g35 h1
       refine .a (rb 5 false (.v (a0.kids.length:Int)::(.b false::(.call [] (bE k31) []::(rb 4 false (.call [] (bE k33) []::(rb 14 false []))))))) (R 4 (df g30) (A (A (df g30) (dCore.len' a0.kids)) (A (A (df g30) (w_sp_l6Kids n _ _ hk31)) (R 2 (df g30) (A (Bool.eq_false_iff.2 g32) (A (A (Bool.eq_false_iff.2 g32) (w_sp_l6Fields n _ hk33)) (R 2 (Bool.eq_false_iff.2 g32) (R 4 (Bool.eq_false_iff.2 g34) (R 5 (df g35) (A (A (Bool.eq_false_iff.2 g34) (df g35)) (A (Bool.eq_false_iff.2 g34) T))))))))))) [(37,bE false)] ?_
       cases h1
       exact .lg hj1 []
def sp_CoreValid (n:Nat) (a0:Core):Option (Bool):=
 Option.bind ((sp_l6Is n a0 [] 120).bind fun k2=>(if k2=true then(sp_l6Count n a0).bind fun k4=>some (decide (k4≤600)) else some false):Option (Bool)) (fun(o1:Bool)=>some o1)
theorem w_sp_CoreValid (n:Nat):∀(a0:Core) {r:Bool},sp_CoreValid n a0=some r→SCall X.E 45 [aE (kCore a0)] [] (bE r) []:=by
 intro a0 r h0
 rw[sp_CoreValid] at h0
 refine .n Tryz.func45 (fun L ks low K hl hL hlen hK=>?_)
 refine .af [] T [(1,pw 1)] [.o 1 (.cells ((kCore a0).map .d))] ?_
 refine .bP h0 rfl [] (fun o1=>[(2,bE o1)]) n1 n1 (fun o1 h0=>?_) (fun y1 h1 hj1=>?_)
 ·cases h0
  exact .rt hK
 ·obtain⟨k2,hk2,h1⟩:=bnd h1
  by_cases g3:k2=true
  ·have h1:=iteP g3 h1
   obtain⟨k4,hk4,h1⟩:=bnd h1
   refine .a [.sv (ksInt []),.call [] (bE k2) [],.b true,.b true,.call [] (iE k4) [],.b true,.b true] (A (dInt.lit []) (A (w_sp_l6Is n _ _ _ hk2) (A g3 (A (A g3 (w_sp_l6Count n _ hk4)) (R 2 g3 T))))) [(2,dE (k4≤600))] ?_
   cases h1
   exact .lg hj1 []
  ·have h1:=iteN g3 h1
   refine .a (.sv (ksInt [])::(.call [] (bE k2) []::(rb 4 false []))) (A (dInt.lit []) (A (w_sp_l6Is n _ _ _ hk2) (R 4 (Bool.eq_false_iff.2 g3) T))) [(2,bE false)] ?_
   cases h1
   exact .lg hj1 []
def sp_l7Names (n:Nat)  : Option (List (List UInt8)):=
 some [[],[108,97,109,98,100,97],[105,102],[113,117,111,116,101],[108,101,116],qletsynta5388]
theorem w_sp_l7Names (n:Nat):∀{r:List (List UInt8)},sp_l7Names n  = some r→SCall X.E 261 [] [] (lE 1 (ksStr r)) []:=by
 intro r h0
 rw[sp_l7Names] at h0
 refine .n Tryz.func261 (fun L ks low K hl hL hlen hK=>?_)
 refine .a [] T [] ?_
 refine .a [.sv (ksStr [[],[108,97,109,98,100,97],[105,102],[113,117,111,116,101],[108,101,116],qletsynta5388])] (A (dStr.lit [[],[108,97,109,98,100,97],[105,102],[113,117,111,116,101],[108,101,116],qletsynta5388]) T) [(0,fE 1 (ksStr [[],[108,97,109,98,100,97],[105,102],[113,117,111,116,101],[108,101,116],qletsynta5388]))] ?_
 cases h0
 exact .rt hK
def sp_StartExpansion (n:Nat)  : Option (Expansion):=
 (sp_l7Names n).bind fun k1=>iterM n (fun(s2:Int×(List Bind))=>((if s2.1<(k1.length:Int) then(atI k1 s2.1).bind fun e6=>(apB 48 s2.2 [(⟨e6,[],s2.1⟩:Bind)]).bind fun z7=>some (Sum.inr ((w64 (s2.1+1)),z7)) else some (Sum.inl (⟨s2.2,[],0,10,0⟩:Expansion))):Option (Expansion⊕(Int×(List Bind))))) (1,[])
theorem w_sp_StartExpansion (n:Nat):∀{r:Expansion},sp_StartExpansion n  = some r→SCall X.E 219 [] [] (aE (kExpansion r)) []:=by
 intro r h0
 rw[sp_StartExpansion] at h0
 refine .n Tryz.func219 (fun L ks low K hl hL hlen hK=>?_)
 refine .af [] T [(0,pw 0)] [.o 0 (.cells [fE 3 (ksBind []),fE 3 (ksMacro []),iE 0,iE 0,iE 0])] ?_
 refine .af [] T [(1,pw 1)] [.o 1 (.cells [fE 3 (ksBind []),fE 3 (ksMacro []),iE 0,iE 10,iE 0])] ?_
 obtain⟨k1,hk1,h0⟩:=bnd h0
 refine .a [.call [] (lE 1 (ksStr k1)) []] (A (w_sp_l7Names n  hk1) T) [(2,lE 1 (ksStr k1))] ?_
 refine .a [] T [(3,iE 1)] ?_
 refine .oc 1 0 100021 248 (by kernel_rfl) ?_
 refine .it h0 rfl [0,1,2] (fun s2=>[(3,iE s2.1)]) (fun s2=>[.c 1 0 (.gs (.own 100021) 3 (ksBind s2.2)),.o 100021 (.tok (ksBind s2.2).length 248)]) n1 [] (by kernel_rfl) (fun nk3 s2 h0=>?_)
 obtain⟨y1,h1,hw1,hn1⟩:=iter_cons h0
 refine .a [.v (k1.length:Int)] (A (dStr.len' k1) T) [(9,dE (s2.1<(k1.length:Int)))] ?_
 refine .sn 2 dStr k1 (by kernel_rfl) (fun hb4=>?_)
 refine .jP h1 (fun hc5 h1=>?_) (fun hc5 h1=>?_)
 ·obtain⟨e6,he6,h1⟩:=bnd h1
  obtain⟨z7,hz7,h1⟩:=bnd h1
  refine .ad mixed [(4,[.cs [.s e6]]),(8,[.sv (ksBind [(⟨e6,[],s2.1⟩:Bind)])]),(9,[.sv (ksBind z7)])] [((ksBind s2.2).length:Int)] (A (dStr.idx he6) (A (dBind.lit [(⟨e6,[],s2.1⟩:Bind)]) (A (dBind.ap hz7) T))) [] [.c 1 0 (.gs (.own 100021) 3 (ksBind z7)),.o 100021 (.tok (ksBind z7).length 248)] [] ?_
  refine .a [.pl] T [(3,iE (w64 (s2.1+1)))] ?_
  cases h1
  exact .nI rfl _ (hn1 _ rfl) [] (by kernel_rfl)
 ·refine .af [] T [] [.c 0 0 (.gs (.own 100021) 3 (ksBind s2.2)),.c 0 3 (iE 10)] ?_
  cases h1
  cases hw1 _ rfl
  exact .rt hK
def sp_BindsValid (n:Nat) (a0:List Bind):Option (Bool):=
 iterM n (fun(s1:Int)=>(Option.bind ((if s1<(a0.length:Int) then some (decide (s1≤60)) else some false):Option (Bool)) (fun(o3:Bool)=>(if o3=true then Option.bind ((atI a0 s1).bind fun e16=>(sp_NameValid n e16.name).bind fun k17=>(if(!k17)=true then some true else(sp_l1Scopes n e16.scopes).bind fun k19=>(if(!k19)=true then some true else(if e16.id<1 then some true else some (decide (e16.id>999))))):Option (Bool)) (fun(o5:Bool)=>(if o5=true then some (Sum.inl false) else iterM n (fun(s7:Int)=>((if s7<s1 then Option.bind ((atI a0 s7).bind fun e12=>(atI a0 s1).bind fun e13=>(if e12.name=e13.name then(sp_l1Ints n e12.scopes e13.scopes).bind fun k15=>some k15 else some false):Option (Bool)) (fun(o10:Bool)=>(if o10=true then some (Sum.inl (Sum.inl false)) else some (Sum.inr (w64 (s7+1))))) else some (Sum.inl (Sum.inr (w64 (s1+1))))):Option ((Bool⊕Int)⊕Int))) 0)) else some (Sum.inl (decide ((a0.length:Int)≤60))))):Option (Bool⊕Int))) 0
theorem w_sp_BindsValid (n:Nat):∀(a0:List Bind) {r:Bool},sp_BindsValid n a0=some r→SCall X.E 303 [lE 3 (ksBind a0)] [] (bE r) []:=by
 intro a0 r h0
 rw[sp_BindsValid] at h0
 refine .n Tryz.func303 (fun L ks low K hl hL hlen hK=>?_)
 refine .a [] T [] ?_
 refine .a [] T [(3,iE 0)] ?_
 refine .it h0 rfl [0] (fun s1=>[(3,iE s1)]) n1 n1 [] (by kernel_rfl) (fun nk2 s1 h0=>?_)
 obtain⟨y1,h1,hw1,hn1⟩:=iter_cons h0
 refine .bP h1 rfl [0,3] (fun o3=>[(12,bE o3)]) n1 n1 (fun o3 h1=>?_) (fun y2 h2 hj2=>?_)
 ·refine .jT h1 (fun hc4 h1=>?_) (fun hc4 h1=>?_)
  ·refine .bP h1 rfl [0,3] (fun o5=>[(46,bE o5)]) n1 n1 (fun o5 h1=>?_) (fun y2 h2 hj2=>?_)
   ·refine .jT h1 (fun hc6 h1=>?_) (fun hc6 h1=>?_)
    ·refine .a [] T [(2,bE false)] ?_
     cases h1
     cases hw1 _ rfl
     exact .rt hK
    ·refine .a [] T [(4,iE 0)] ?_
     refine .it h1 rfl [0,3] (fun s7=>[(4,iE s7)]) n1 n1 [] (by kernel_rfl) (fun nk8 s7 h1=>?_)
     obtain⟨y2,h2,hw2,hn2⟩:=iter_cons h1
     refine .a [] T [(49,dE (s7<s1))] ?_
     refine .jP h2 (fun hc9 h2=>?_) (fun hc9 h2=>?_)
     ·refine .bP h2 rfl [0,3,4] (fun o10=>[(75,bE o10)]) n1 n1 (fun o10 h2=>?_) (fun y3 h3 hj3=>?_)
      ·refine .jT h2 (fun hc11 h2=>?_) (fun hc11 h2=>?_)
       ·refine .a [] T [(2,bE false)] ?_
        cases h2
        cases hw2 _ rfl
        cases hw1 _ rfl
        exact .rt hK
       ·refine .a [.pl] T [(4,iE (w64 (s7+1)))] ?_
        cases h2
        exact .nI rfl _ (hn2 _ rfl) [] (by kernel_rfl)
      ·obtain⟨e12,he12,h3⟩:=bnd h3
       obtain⟨e13,he13,h3⟩:=bnd h3
       by_cases g14:e12.name=e13.name
       ·have h3:=iteP g14 h3
        obtain⟨k15,hk15,h3⟩:=bnd h3
        refine .ad mixed ((2,[.cs (kBind e12)])::((7,[.cs (kBind e13)])::(qb 12 2 true ((14,[.b true,.cs (kBind e12)])::(qb 15 4 true ((19,[.b true,.cs (kBind e13)])::(qb 20 2 true [(22,[.b true,.call [] (bE k15) []]),(23,[.b true])]))))))) [] (A (dBind.idx he12) (A (dBind.idx he13) (R 2 (dt g14) (A (A (dt g14) (dBind.idx he12)) (R 4 (dt g14) (A (A (dt g14) (dBind.idx he13)) (R 2 (dt g14) (A (A (dt g14) (w_sp_l1Ints n _ _ hk15)) (A (dt g14) T))))))))) [(75,bE k15)] [] [] ?_
        cases h3
        exact .lg hj3 []
       ·have h3:=iteN g14 h3
        refine .ad mixed ((2,[.cs (kBind e12)])::((7,[.cs (kBind e13)])::(qb 12 12 false []))) [] (A (dBind.idx he12) (A (dBind.idx he13) (R 12 (df g14) T))) [(75,bE false)] [] [] ?_
        cases h3
        exact .lg hj3 []
     ·refine .a [.pl] T [(3,iE (w64 (s1+1)))] ?_
      cases h2
      cases hw2 _ rfl
      exact .nI rfl _ (hn1 _ rfl) [] (by kernel_rfl)
   ·obtain⟨e16,he16,h2⟩:=bnd h2
    obtain⟨k17,hk17,h2⟩:=bnd h2
    by_cases g18:(!k17)=true
    ·have h2:=iteP g18 h2
     refine .a (.cs (kBind e16)::(.call [] (bE k17) []::(rb 22 true []))) (A (dBind.idx he16) (A (w_sp_NameValid n _ hk17) (R 8 g18 (R 14 B1 T)))) [(46,bE true)] ?_
     cases h2
     exact .lg hj2 []
    ·have h2:=iteN g18 h2
     obtain⟨k19,hk19,h2⟩:=bnd h2
     by_cases g20:(!k19)=true
     ·have h2:=iteP g20 h2
      refine .a (.cs (kBind e16)::(.call [] (bE k17) []::(rb 3 false (.cs (kBind e16)::(rb 3 false (.call [] (bE k19) []::(.b false::(.b false::(rb 14 true []))))))))) (A (dBind.idx he16) (A (w_sp_NameValid n _ hk17) (R 2 (Bool.eq_false_iff.2 g18) (A (A (Bool.eq_false_iff.2 g18) (dBind.idx he16)) (R 2 (Bool.eq_false_iff.2 g18) (A (A (Bool.eq_false_iff.2 g18) (w_sp_l1Scopes n _ hk19)) (R 2 (Bool.eq_false_iff.2 g18) (R 7 g20 (R 7 B1 T))))))))) [(46,bE true)] ?_
      cases h2
      exact .lg hj2 []
     ·have h2:=iteN g20 h2
      by_cases g21:e16.id<1
      ·have h2:=iteP g21 h2
       refine .a (.cs (kBind e16)::(.call [] (bE k17) []::(rb 3 false (.cs (kBind e16)::(rb 3 false (.call [] (bE k19) []::(rb 5 false (.cs (kBind e16)::(rb 4 false (rb 7 true [])))))))))) (A (dBind.idx he16) (A (w_sp_NameValid n _ hk17) (R 2 (Bool.eq_false_iff.2 g18) (A (A (Bool.eq_false_iff.2 g18) (dBind.idx he16)) (R 2 (Bool.eq_false_iff.2 g18) (A (A (Bool.eq_false_iff.2 g18) (w_sp_l1Scopes n _ hk19)) (R 2 (Bool.eq_false_iff.2 g18) (R 2 (Bool.eq_false_iff.2 g20) (A (A (Bool.eq_false_iff.2 g20) (dBind.idx he16)) (R 4 (Bool.eq_false_iff.2 g20) (R 7 (dt g21) T))))))))))) [(46,bE true)] ?_
       cases h2
       exact .lg hj2 []
      ·have h2:=iteN g21 h2
       refine .a (.cs (kBind e16)::(.call [] (bE k17) []::(rb 3 false (.cs (kBind e16)::(rb 3 false (.call [] (bE k19) []::(rb 5 false (.cs (kBind e16)::(rb 7 false (.cs (kBind e16)::(rb 4 false []))))))))))) (A (dBind.idx he16) (A (w_sp_NameValid n _ hk17) (R 2 (Bool.eq_false_iff.2 g18) (A (A (Bool.eq_false_iff.2 g18) (dBind.idx he16)) (R 2 (Bool.eq_false_iff.2 g18) (A (A (Bool.eq_false_iff.2 g18) (w_sp_l1Scopes n _ hk19)) (R 2 (Bool.eq_false_iff.2 g18) (R 2 (Bool.eq_false_iff.2 g20) (A (A (Bool.eq_false_iff.2 g20) (dBind.idx he16)) (R 4 (Bool.eq_false_iff.2 g20) (R 2 (df g21) (A (A (df g21) (dBind.idx he16)) (R 4 (df g21) T))))))))))))) [(46,dE (e16.id>999))] ?_
       cases h2
       exact .lg hj2 []
  ·refine .a [.v (a0.length:Int)] (A (dBind.len' a0) T) [(2,dE ((a0.length:Int)≤60))] ?_
   refine .sn 0 dBind a0 (by kernel_rfl) (fun hb22=>?_)
   cases h1
   cases hw1 _ rfl
   exact .rt hK
 ·by_cases g23:s1<(a0.length:Int)
  ·have h2:=iteP g23 h2
   refine .a (.v (a0.length:Int)::(rb 3 true [])) (A (dBind.len' a0) (R 3 (dt g23) T)) [(12,dE (s1≤60))] ?_
   refine .sn 0 dBind a0 (by kernel_rfl) (fun hb24=>?_)
   cases h2
   exact .lg hj2 []
  ·have h2:=iteN g23 h2
   refine .a (.v (a0.length:Int)::(rb 3 false [])) (A (dBind.len' a0) (R 3 (df g23) T)) [(12,bE false)] ?_
   refine .sn 0 dBind a0 (by kernel_rfl) (fun hb25=>?_)
   cases h2
   exact .lg hj2 []
def sp_l4Dots (n:Nat) (a0:Form):Option (Bool):=
 Option.bind ((if a0.kind=1 then some (decide (a0.name=[46,46,46])) else some false):Option (Bool)) (fun(o1:Bool)=>some o1)
theorem w_sp_l4Dots (n:Nat):∀(a0:Form) {r:Bool},sp_l4Dots n a0=some r→SCall X.E 317 [aE (kForm a0)] [] (bE r) []:=by
 intro a0 r h0
 rw[sp_l4Dots] at h0
 refine .n Tryz.func317 (fun L ks low K hl hL hlen hK=>?_)
 refine .af [] T [(1,pw 1)] [.o 1 (.cells ((kForm a0).map .d))] ?_
 refine .bP h0 rfl [] (fun o1=>[(2,bE o1)]) n1 n1 (fun o1 h0=>?_) (fun y1 h1 hj1=>?_)
 ·cases h0
  exact .rt hK
 ·by_cases g2:a0.kind=1
  ·have h1:=iteP g2 h1
   refine .a (rb 4 true []) (R 4 (dt g2) T) [(2,dE (a0.name=[46,46,46]))] ?_
   cases h1
   exact .lg hj1 []
  ·have h1:=iteN g2 h1
   refine .a (rb 4 false []) (R 4 (df g2) T) [(2,bE false)] ?_
   cases h1
   exact .lg hj1 []
def sp_l4In (n:Nat) (a0:List Form) (a1:Form):Option (Bool):=
 seqS (forI (fun(s2:Unit) (i1:Nat) (x4:Form)=>((sp_FormSame n x4 a1).bind fun k10=>(if k10=true then some (Sum.inl true) else some (Sum.inr ())):Option (Bool⊕Unit))) 0 a0 ()) (fun(s2:Unit)=>some false)
theorem w_sp_l4In (n:Nat):∀(a0:List Form) (a1:Form) {r:Bool},sp_l4In n a0 a1=some r→SCall X.E 312 [lE 5 (ksForm a0),aE (kForm a1)] [] (bE r) []:=by
 intro a0 a1 r h0
 rw[sp_l4In] at h0
 refine .n Tryz.func312 (fun L ks low K hl hL hlen hK=>?_)
 refine .af [] T [(3,pw 3)] [.o 3 (.cells ((kForm a1).map .d))] ?_
 refine .a [] T [(5,iE 0)] ?_
 refine .lI h0 rfl [0,3] (fun i1 s2=>[(5,iE (i1:Int))]) n2 n2 [] (by kernel_rfl) (fun i1 s2 q3 hd5 hi7 h0=>?_)
 refine .a [.v (a0.length:Int)] (A (dForm.len' a0) T) [(9,dE ((i1:Int)<(a0.length:Int)))] ?_
 refine .sn 0 dForm a0 (by kernel_rfl) (fun hb8=>?_)
 refine .lc hd5 rfl (by kernel_rfl) (fun x4 q32 hc9 hx4 hd6 hd6l=>?_) (fun hc9=>?_)
 ·subst hc9
  obtain⟨y1,h1,hw1,hn1⟩:=forI_cons h0
  obtain⟨k10,hk10,h1⟩:=bnd h1
  refine .ad mixed [(2,[.cs (kForm x4)]),(5,[.call [] (bE k10) []])] [] (A (dForm.idn hx4) (A (w_sp_FormSame n _ _ hk10) T)) [(17,bE k10)] [] [] ?_
  refine .jT h1 (fun hc11 h1=>?_) (fun hc11 h1=>?_)
  ·refine .a [] T [(4,bE true)] ?_
   cases h1
   cases hw1 _ rfl
   exact .rt hK
  ·refine .a [.v ((i1+1:Nat):Int)] (A (wn (i:=i1) (by omega)) T) [(5,iE ((i1+1:Nat):Int))] ?_
   cases h1
   exact .nL rfl (i1+1) _ hd6 hd6l (hn1 _ rfl) [] (by kernel_rfl)
 ·subst hc9
  have h0:=forI_nil h0
  refine .a [] T [(4,bE false)] ?_
  cases h0
  exact .rt hK
def sp_l4Var (n:Nat) (a0:Form) (a1:List Form):Option (Bool):=
 Option.bind ((if a0.kind=1 then(if ¬a0.name=[46,46,46] then(if ¬a0.name=[95] then(sp_l4In n a1 a0).bind fun k5=>some (!k5) else some false) else some false) else some false):Option (Bool)) (fun(o1:Bool)=>some o1)
theorem w_sp_l4Var (n:Nat):∀(a0:Form) (a1:List Form) {r:Bool},sp_l4Var n a0 a1=some r→SCall X.E 333 [aE (kForm a0),lE 5 (ksForm a1)] [] (bE r) []:=by
 intro a0 a1 r h0
 rw[sp_l4Var] at h0
 refine .n Tryz.func333 (fun L ks low K hl hL hlen hK=>?_)
 refine .af [] T [(2,pw 2)] [.o 2 (.cells ((kForm a0).map .d))] ?_
 refine .bP h0 rfl [] (fun o1=>[(4,bE o1)]) n1 n1 (fun o1 h0=>?_) (fun y1 h1 hj1=>?_)
 ·cases h0
  exact .rt hK
 ·by_cases g2:a0.kind=1
  ·have h1:=iteP g2 h1
   by_cases g3:¬a0.name=[46,46,46]
   ·have h1:=iteP g3 h1
    by_cases g4:¬a0.name=[95]
    ·have h1:=iteP g4 h1
     obtain⟨k5,hk5,h1⟩:=bnd h1
     refine .a (rb 11 true [.call [] (bE k5) [],.b true,.b true]) (R 4 (dt g2) (R 4 (dt g3) (R 2 (dt g4) (A (A (dt g4) (w_sp_l4In n _ _ hk5)) (R 2 (dt g4) T))))) [(4,bE (!k5))] ?_
     cases h1
     exact .lg hj1 []
    ·have h1:=iteN g4 h1
     refine .a (rb 8 true (rb 5 false [])) (R 4 (dt g2) (R 4 (dt g3) (R 5 (df g4) T))) [(4,bE false)] ?_
     cases h1
     exact .lg hj1 []
   ·have h1:=iteN g3 h1
    refine .a (rb 4 true (rb 9 false [])) (R 4 (dt g2) (R 4 (df g3) (R 5 B0 T))) [(4,bE false)] ?_
    cases h1
    exact .lg hj1 []
  ·have h1:=iteN g2 h1
   refine .a (rb 13 false []) (R 4 (df g2) (R 9 B0 T)) [(4,bE false)] ?_
   cases h1
   exact .lg hj1 []
def sp_l4Depths:Nat→(List Int)→Form→(List Form)→Int→Option (List Int)
 | 0,_,_,_,_=>none
 | n+1,a0,a1,a2,a3=>(sp_l4Var n a1 a2).bind fun k1=>Option.bind ((if k1=true then(apB 8 a0 [a3]).bind fun z20=>some z20 else some a0):Option (List Int)) (fun(o2:List Int)=>Option.bind (forL (fun(s4:List Int) (i3:Nat) (x6:Form)=>Option.bind ((if((i3+1:Nat):Int)<(a1.kids.length:Int) then(atI a1.kids ((i3+1:Nat):Int)).bind fun e17=>(sp_l4Dots n e17).bind fun k18=>some k18 else some false):Option (Bool)) (fun(o12:Bool)=>Option.bind ((if o12=true then some (w64 (a3+1)) else some a3):Option (Int)) (fun(o13:Int)=>(sp_l4Depths n s4 x6 a2 o13).bind fun k14=>some k14))) 0 a1.kids o2) (fun(s4:List Int)=>some s4))
theorem w_sp_l4Depths (n:Nat):∀(a0:List Int) (a1:Form) (a2:List Form) (a3:Int) {r:List Int},sp_l4Depths n a0 a1 a2 a3=some r→SCall X.E 328 [.vs (.low 0) 1 ((ksInt a0).length),aE (kForm a1),lE 5 (ksForm a2),iE a3] [some (.vec 3 1 (ksInt a0))] (.vs (.low 0) 1 ((ksInt r).length)) [.vec 3 1 (ksInt r)]:=by
 induction n with
 | zero=>intro a0 a1 a2 a3 r h; cases h
 | succ n ih=>
  intro a0 a1 a2 a3 r h0
  rw[sp_l4Depths] at h0
  refine .n Tryz.func328 (fun L ks low K hl hL hlen hK=>?_)
  refine .af [] T [(5,pw 5)] [.o 5 (.cells ((kForm a1).map .d))] ?_
  obtain⟨k1,hk1,h0⟩:=bnd h0
  refine .a [.call [] (bE k1) []] (A (w_sp_l4Var n _ _ hk1) T) [(13,bE k1)] ?_
  refine .bP h0 rfl [2,3,5] (fun o2=>[(0,.vs (.low 0) 1 ((ksInt o2).length))]) n1 (fun o2=>[.o 0 (.vec 3 1 (ksInt o2))]) (fun o2 h0=>?_) (fun y1 h1 hj1=>?_)
  ·refine .a [] T [(9,iE 0)] ?_
   refine .lL h0 rfl [2,3,5] (fun i3 s4=>[(0,.vs (.low 0) 1 ((ksInt s4).length)),(9,iE (i3:Int))]) n2 (fun i3 s4=>[.o 0 (.vec 3 1 (ksInt s4))]) [] (by kernel_rfl) (fun i3 s4 q5 hd7 hi9 h0=>?_)
   refine .a [.v (a1.kids.length:Int)] (A (dForm.len' a1.kids) T) [(20,lE 5 (ksForm a1.kids)),(22,dE ((i3:Int)<(a1.kids.length:Int)))] ?_
   refine .sn 20 dForm a1.kids (by kernel_rfl) (fun hb10=>?_)
   refine .lc hd7 rfl (by kernel_rfl) (fun x6 q52 hc11 hx6 hd8 hd8l=>?_) (fun hc11=>?_)
   ·subst hc11
    obtain⟨y1,h1,hn1⟩:=forL_cons h0
    refine .a [] T [(10,iE a3)] ?_
    refine .bP h1 rfl [0,2,3,5,9,10] (fun o12=>[(40,bE o12)]) n1 n1 (fun o12 h1=>?_) (fun y2 h2 hj2=>?_)
    ·refine .bP h1 rfl [0,2,3,5,9] (fun o13=>[(10,iE o13)]) n1 n1 (fun o13 h1=>?_) (fun y2 h2 hj2=>?_)
     ·obtain⟨k14,hk14,h1⟩:=bnd h1
      refine .ao [.cs (kForm x6),.call [.low 0] (.vs (.low 0) 1 ((ksInt k14).length)) [.vec 3 1 (ksInt k14)]] (A (dForm.idn hx6) (A (ih _ _ _ _ hk14) T)) [(0,.vs (.low 0) 1 ((ksInt k14).length))] [.o 0 (.vec 3 1 (ksInt k14))] ?_
      refine .a [.v ((i3+1:Nat):Int)] (A (wn (i:=i3) (by omega)) T) [(9,iE ((i3+1:Nat):Int))] ?_
      cases h1
      exact .nL rfl (i3+1) _ hd8 hd8l hn1 [] (by kernel_rfl)
     ·refine .jT h2 (fun hc15 h2=>?_) (fun hc15 h2=>?_)
      ·refine .a [.pl] T [(10,iE (w64 (a3+1)))] ?_
       cases h2
       exact .lg hj2 []
      ·cases h2
       exact .lg hj2 []
    ·by_cases g16:((i3+1:Nat):Int)<(a1.kids.length:Int)
     ·have h2:=iteP g16 h2
      obtain⟨e17,he17,h2⟩:=bnd h2
      obtain⟨k18,hk18,h2⟩:=bnd h2
      refine .a (.v ((i3+1:Nat):Int)::(.v (a1.kids.length:Int)::(rb 4 true [.v ((i3+1:Nat):Int),.b true,.cs (kForm e17),.b true,.b true,.call [] (bE k18) [],.b true]))) (A (wn (i:=i3) (by omega)) (A (dForm.len' a1.kids) (R 3 (dt g16) (A (A (dt g16) (wn (i:=i3) (by omega))) (A (A (dt g16) (dForm.idx he17)) (A (dt g16) (A (A (dt g16) (w_sp_l4Dots n _ hk18)) (A (dt g16) T)))))))) [(40,bE k18)] ?_
      cases h2
      exact .lg hj2 []
     ·have h2:=iteN g16 h2
      refine .a (.v ((i3+1:Nat):Int)::(.v (a1.kids.length:Int)::(rb 8 false []))) (A (wn (i:=i3) (by omega)) (A (dForm.len' a1.kids) (R 8 (df g16) T))) [(40,bE false)] ?_
      cases h2
      exact .lg hj2 []
   ·subst hc11
    have h0:=forL_nil h0
    refine .a [] T [(8,.vs (.low 0) 1 ((ksInt s4).length))] ?_
    refine .kp [8] [] ?_
    refine .dr 5 (by kernel_rfl) ?_
    cases h0
    exact .rt hK
  ·refine .jT h1 (fun hc19 h1=>?_) (fun hc19 h1=>?_)
   ·obtain⟨z20,hz20,h1⟩:=bnd h1
    refine .ao [.sv (ksInt [a3]),.sv (ksInt z20)] (A (dInt.lit [a3]) (A (A (dInt.ap hz20) (rfl:(ksInt a0).length=(ksInt a0).length)) T)) [(0,.vs (.low 0) 1 ((ksInt z20).length))] [.o 0 (.vec 3 1 (ksInt z20))] ?_
    cases h1
    exact .lg hj1 []
   ·cases h1
    exact .lg hj1 []
def sp_l4Vars:Nat→(List Form)→Form→(List Form)→Option (List Form)
 | 0,_,_,_=>none
 | n+1,a0,a1,a2=>(sp_l4Var n a1 a2).bind fun k1=>Option.bind ((if k1=true then(apB 80 a0 [a1]).bind fun z14=>some z14 else some a0):Option (List Form)) (fun(o2:List Form)=>Option.bind (forL (fun(s4:List Form) (i3:Nat) (x6:Form)=>(sp_l4Vars n s4 x6 a2).bind fun k12=>some k12) 0 a1.kids o2) (fun(s4:List Form)=>some s4))
theorem w_sp_l4Vars (n:Nat):∀(a0:List Form) (a1:Form) (a2:List Form) {r:List Form},sp_l4Vars n a0 a1 a2=some r→SCall X.E 327 [.vs (.low 0) 5 ((ksForm a0).length),aE (kForm a1),lE 5 (ksForm a2)] [some (.vec 32 5 (ksForm a0))] (.vs (.low 0) 5 ((ksForm r).length)) [.vec 32 5 (ksForm r)]:=by
 induction n with
 | zero=>intro a0 a1 a2 r h; cases h
 | succ n ih=>
  intro a0 a1 a2 r h0
  rw[sp_l4Vars] at h0
  refine .n Tryz.func327 (fun L ks low K hl hL hlen hK=>?_)
  refine .af [] T [(4,pw 4)] [.o 4 (.cells ((kForm a1).map .d))] ?_
  obtain⟨k1,hk1,h0⟩:=bnd h0
  refine .a [.call [] (bE k1) []] (A (w_sp_l4Var n _ _ hk1) T) [(10,bE k1)] ?_
  refine .bP h0 rfl [2,4] (fun o2=>[(0,.vs (.low 0) 5 ((ksForm o2).length))]) n1 (fun o2=>[.o 0 (.vec 32 5 (ksForm o2))]) (fun o2 h0=>?_) (fun y1 h1 hj1=>?_)
  ·refine .a [] T [(7,iE 0)] ?_
   refine .lL h0 rfl [2,4] (fun i3 s4=>[(0,.vs (.low 0) 5 ((ksForm s4).length)),(7,iE (i3:Int))]) n2 (fun i3 s4=>[.o 0 (.vec 32 5 (ksForm s4))]) [] (by kernel_rfl) (fun i3 s4 q5 hd7 hi9 h0=>?_)
   refine .a [.v (a1.kids.length:Int)] (A (dForm.len' a1.kids) T) [(17,lE 5 (ksForm a1.kids)),(19,dE ((i3:Int)<(a1.kids.length:Int)))] ?_
   refine .sn 17 dForm a1.kids (by kernel_rfl) (fun hb10=>?_)
   refine .lc hd7 rfl (by kernel_rfl) (fun x6 q52 hc11 hx6 hd8 hd8l=>?_) (fun hc11=>?_)
   ·subst hc11
    obtain⟨y1,h1,hn1⟩:=forL_cons h0
    obtain⟨k12,hk12,h1⟩:=bnd h1
    refine .ao [.cs (kForm x6),.call [.low 0] (.vs (.low 0) 5 ((ksForm k12).length)) [.vec 32 5 (ksForm k12)]] (A (dForm.idn hx6) (A (ih _ _ _ hk12) T)) [(0,.vs (.low 0) 5 ((ksForm k12).length))] [.o 0 (.vec 32 5 (ksForm k12))] ?_
    refine .a [.v ((i3+1:Nat):Int)] (A (wn (i:=i3) (by omega)) T) [(7,iE ((i3+1:Nat):Int))] ?_
    cases h1
    exact .nL rfl (i3+1) _ hd8 hd8l hn1 [] (by kernel_rfl)
   ·subst hc11
    have h0:=forL_nil h0
    refine .a [] T [(6,.vs (.low 0) 5 ((ksForm s4).length))] ?_
    refine .kp [6] [] ?_
    refine .dr 4 (by kernel_rfl) ?_
    cases h0
    exact .rt hK
  ·refine .jT h1 (fun hc13 h1=>?_) (fun hc13 h1=>?_)
   ·obtain⟨z14,hz14,h1⟩:=bnd h1
    refine .ao [.sv (ksForm [a1]),.sv (ksForm z14)] (A (dForm.lit [a1]) (A (A (dForm.ap hz14) (rfl:(ksForm a0).length=(ksForm a0).length)) T)) [(0,.vs (.low 0) 5 ((ksForm z14).length))] [.o 0 (.vec 32 5 (ksForm z14))] ?_
    cases h1
    exact .lg hj1 []
   ·cases h1
    exact .lg hj1 []
def sp_l4Row (n:Nat) (a0:Form) (a1:List Form) (a2:List (List Hit)):Option (List Hit):=
 (sp_l4Vars n [] a0 a1).bind fun k1=>(sp_l4Depths n [] a0 a1 0).bind fun k2=>Option.bind (forL (fun(s4:List Hit) (i3:Nat) (x6:Form)=>(inB (i3:Int) k2.length).bind fun u12=>(k2[i3]?).bind fun e13=>Option.bind (forL (fun(s15:List Hit) (i14:Nat) (x17:List Hit)=>(atI x17 (i3:Int)).bind fun e23=>(apB 192 s15 [e23]).bind fun z24=>some z24) 0 a2 []) (fun(s15:List Hit)=>(apB 192 s4 [(⟨x6,(w64 (e13+1)),(⟨0,[],0,[],[]⟩:Form),s15⟩:Hit)]).bind fun z25=>some z25)) 0 k1 []) (fun(s4:List Hit)=>some s4)
theorem w_sp_l4Row (n:Nat):∀(a0:Form) (a1:List Form) (a2:List (List Hit)) {r:List Hit},sp_l4Row n a0 a1 a2=some r→SCall X.E 323 [aE (kForm a0),lE 5 (ksForm a1),lE 1 (ksHits a2)] [] (lE 12 (ksHit r)) []:=by
 intro a0 a1 a2 r h0
 rw[sp_l4Row] at h0
 refine .n Tryz.func323 (fun L ks low K hl hL hlen hK=>?_)
 refine .af [] T [(3,pw 3)] [.o 3 (.cells ((kForm a0).map .d))] ?_
 refine .a [.sv (ksHit [])] (A (dHit.lit []) T) [(7,fE 12 (ksHit []))] ?_
 obtain⟨k1,hk1,h0⟩:=bnd h0
 refine .af [.gv 14,.sv (ksForm []),.call [.own 100014] (.vs (.low 0) 5 ((ksForm k1).length)) [.vec 32 5 (ksForm k1)]] (A (dForm.lit []) (A (w_sp_l4Vars n _ _ _ hk1) T)) [(8,.vs (.own 100014) 5 ((ksForm k1).length))] [.o 100014 (.vec 32 5 (ksForm k1))] ?_
 obtain⟨k2,hk2,h0⟩:=bnd h0
 refine .af [.gv 18,.sv (ksInt []),.call [.own 100018] (.vs (.low 0) 1 ((ksInt k2).length)) [.vec 3 1 (ksInt k2)]] (A (dInt.lit []) (A (w_sp_l4Depths n _ _ _ _ hk2) T)) [(9,.vs (.own 100018) 1 ((ksInt k2).length))] [.o 100018 (.vec 3 1 (ksInt k2))] ?_
 refine .a [] T [(10,iE 0)] ?_
 refine .ow 7 100059 309 [2,8,9,10] rfl rfl (by kernel_rfl) ?_
 refine .lL h0 rfl [2,8,9] (fun i3 s4=>[(7,.gs (.own 100059) 12 (ksHit s4)),(10,iE (i3:Int))]) (fun i3 s4=>[.o 100059 (.tok (ksHit s4).length 309)]) n2 [] (by kernel_rfl) (fun i3 s4 q5 hd7 hi9 h0=>?_)
 refine .a [.v (k1.length:Int)] (A (dForm.len' k1) T) [(25,dE ((i3:Int)<(k1.length:Int)))] ?_
 refine .snV 8 dForm k1 (by kernel_rfl) (fun hb10=>?_)
 refine .lc hd7 rfl (by kernel_rfl) (fun x6 q52 hc11 hx6 hd8 hd8l=>?_) (fun hc11=>?_)
 ·subst hc11
  obtain⟨y1,h1,hn1⟩:=forL_cons h0
  obtain⟨u12,hu12,h1⟩:=bnd h1
  obtain⟨e13,he13,h1⟩:=bnd h1
  refine .ad mixed [(3,[.cs (kForm x6)]),(7,[.cs [.v (.int .i64 e13)]]),(8,[.pl])] [] (A (A (dForm.inv (inB_of hx6) (rfl:(ksForm k1).length=(ksForm k1).length)) (rfl:(ksForm k1).length=(ksForm k1).length)) (A (A (A (dForm.rows k1) (dForm.ixr hx6)) (rfl:(ksForm k1).length=(ksForm k1).length)) (A (A (dInt.inv hu12 (rfl:(ksInt k2).length=(ksInt k2).length)) (rfl:(ksInt k2).length=(ksInt k2).length)) (A (A (A (dInt.rows k2) (dInt.ixr he13)) (rfl:(ksInt k2).length=(ksInt k2).length)) T)))) [(11,pw 11)] [.o 11 (.cells [iE x6.kind,sE x6.name,iE x6.n,lE 1 (ksInt x6.scopes),lE 5 (ksForm x6.kids),iE (w64 (e13+1)),iE 0,sE [],iE 0,fE 1 (ksInt []),fE 5 (ksForm []),fE 12 (ksHit [])])] [] ?_
  refine .a [] T [(12,iE 0)] ?_
  refine .oc 11 11 100054 309 (by kernel_rfl) ?_
  refine .lL h1 rfl [2,7,8,9,10,11] (fun i14 s15=>[(12,iE (i14:Int))]) (fun i14 s15=>[.c 11 11 (.gs (.own 100054) 12 (ksHit s15)),.o 100054 (.tok (ksHit s15).length 309)]) n2 [] (by kernel_rfl) (fun i14 s15 q16 hd18 hi20 h1=>?_)
  refine .a [.v (a2.length:Int)] (A (dHits.len' a2) T) [(41,dE ((i14:Int)<(a2.length:Int)))] ?_
  refine .sn 2 dHits a2 (by kernel_rfl) (fun hb21=>?_)
  refine .lc hd18 rfl (by kernel_rfl) (fun x17 q162 hc22 hx17 hd19 hd19l=>?_) (fun hc22=>?_)
  ·subst hc22
   obtain⟨y2,h2,hn2⟩:=forL_cons h1
   obtain⟨e23,he23,h2⟩:=bnd h2
   obtain⟨z24,hz24,h2⟩:=bnd h2
   refine .ad mixed [(4,[.cs [.sl 12 false (ksHit x17)]]),(7,[.cs (kHit e23)]),(9,[.sv (ksHit [e23])]),(10,[.sv (ksHit z24)])] [((ksHit s15).length:Int)] (A (dHits.idn hx17) (A (dHit.idx he23) (A (dHit.lit [e23]) (A (dHit.ap hz24) T)))) [] [.c 11 11 (.gs (.own 100054) 12 (ksHit z24)),.o 100054 (.tok (ksHit z24).length 309)] [] ?_
   refine .a [.v ((i14+1:Nat):Int)] (A (wn (i:=i14) (by omega)) T) [(12,iE ((i14+1:Nat):Int))] ?_
   cases h2
   exact .nL rfl (i14+1) _ hd19 hd19l hn2 [] (by kernel_rfl)
  ·subst hc22
   have h1:=forL_nil h1
   obtain⟨z25,hz25,h1⟩:=bnd h1
   refine .aq [.sv (ksHit [(⟨x6,(w64 (e13+1)),(⟨0,[],0,[],[]⟩:Form),s15⟩:Hit)]),.sv (ksHit z25)] [((ksHit s4).length:Int)] (A (dHit.lit [(⟨x6,(w64 (e13+1)),(⟨0,[],0,[],[]⟩:Form),s15⟩:Hit)]) (A (dHit.ap hz25) T)) [(7,.gs (.own 100059) 12 (ksHit z25))] [.o 100059 (.tok (ksHit z25).length 309)] [] ?_
   refine .a [.v ((i3+1:Nat):Int)] (A (wn (i:=i3) (by omega)) T) [(10,iE ((i3+1:Nat):Int))] ?_
   cases h1
   refine .kp [2,7,8,9,10] [] ?_
   refine .dr 11 (by kernel_rfl) ?_
   refine .dr 100054 (by kernel_rfl) ?_
   exact .nL rfl (i3+1) _ hd8 hd8l hn1 [] (by kernel_rfl)
 ·subst hc11
  have h0:=forL_nil h0
  refine .a [] T [(6,.gs (.own 100059) 12 (ksHit s4))] ?_
  cases h0
  exact .rt hK
def sp_ScopesWithin (n:Nat) (a0:List Int) (a1:List Int):Option (Bool):=
 seqS (forI (fun(s2:Unit) (i1:Nat) (x4:Int)=>((sp_l2Has n a1 x4).bind fun k10=>(if(!k10)=true then some (Sum.inl false) else some (Sum.inr ())):Option (Bool⊕Unit))) 0 a0 ()) (fun(s2:Unit)=>some true)
theorem w_sp_ScopesWithin (n:Nat):∀(a0:List Int) (a1:List Int) {r:Bool},sp_ScopesWithin n a0 a1=some r→SCall X.E 290 [lE 1 (ksInt a0),lE 1 (ksInt a1)] [] (bE r) []:=by
 intro a0 a1 r h0
 rw[sp_ScopesWithin] at h0
 refine .n Tryz.func290 (fun L ks low K hl hL hlen hK=>?_)
 refine .a [] T [] ?_
 refine .a [] T [(5,iE 0)] ?_
 refine .lI h0 rfl [0,1] (fun i1 s2=>[(5,iE (i1:Int))]) n2 n2 [] (by kernel_rfl) (fun i1 s2 q3 hd5 hi7 h0=>?_)
 refine .a [.v (a0.length:Int)] (A (dInt.len' a0) T) [(9,dE ((i1:Int)<(a0.length:Int)))] ?_
 refine .sn 0 dInt a0 (by kernel_rfl) (fun hb8=>?_)
 refine .lc hd5 rfl (by kernel_rfl) (fun x4 q32 hc9 hx4 hd6 hd6l=>?_) (fun hc9=>?_)
 ·subst hc9
  obtain⟨y1,h1,hw1,hn1⟩:=forI_cons h0
  obtain⟨k10,hk10,h1⟩:=bnd h1
  refine .a [.cs [.v (.int .i64 x4)],.call [] (bE k10) []] (A (dInt.idn hx4) (A (w_sp_l2Has n _ _ hk10) T)) [(18,bE (!k10))] ?_
  refine .jT h1 (fun hc11 h1=>?_) (fun hc11 h1=>?_)
  ·refine .a [] T [(4,bE false)] ?_
   cases h1
   cases hw1 _ rfl
   exact .rt hK
  ·refine .a [.v ((i1+1:Nat):Int)] (A (wn (i:=i1) (by omega)) T) [(5,iE ((i1+1:Nat):Int))] ?_
   cases h1
   exact .nL rfl (i1+1) _ hd6 hd6l (hn1 _ rfl) [] (by kernel_rfl)
 ·subst hc9
  have h0:=forI_nil h0
  refine .a [] T [(4,bE true)] ?_
  cases h0
  exact .rt hK
def sp_l3Fitting (n:Nat) (a0:List Bind) (a1:Form):Option (List Int):=
 Option.bind (forL (fun(s2:List Int) (i1:Nat) (x4:Bind)=>Option.bind (Option.bind ((if x4.name=a1.name then(sp_ScopesWithin n x4.scopes a1.scopes).bind fun k15=>some k15 else some false):Option (Bool)) (fun(o11:Bool)=>(if o11=true then(apB 8 s2 [(i1:Int)]).bind fun z13=>some z13 else some s2)):Option (List Int)) (fun(o10:List Int)=>some o10)) 0 a0 []) (fun(s2:List Int)=>some s2)
theorem w_sp_l3Fitting (n:Nat):∀(a0:List Bind) (a1:Form) {r:List Int},sp_l3Fitting n a0 a1=some r→SCall X.E 289 [lE 3 (ksBind a0),aE (kForm a1)] [] (lE 1 (ksInt r)) []:=by
 intro a0 a1 r h0
 rw[sp_l3Fitting] at h0
 refine .n Tryz.func289 (fun L ks low K hl hL hlen hK=>?_)
 refine .af [] T [(3,pw 3)] [.o 3 (.cells ((kForm a1).map .d))] ?_
 refine .a [.sv (ksInt [])] (A (dInt.lit []) T) [(5,fE 1 (ksInt []))] ?_
 refine .a [] T [(6,iE 0)] ?_
 refine .ow 5 100035 3 [0,3,6] rfl rfl (by kernel_rfl) ?_
 refine .lL h0 rfl [0,3] (fun i1 s2=>[(5,.gs (.own 100035) 1 (ksInt s2)),(6,iE (i1:Int))]) (fun i1 s2=>[.o 100035 (.tok (ksInt s2).length 3)]) n2 [] (by kernel_rfl) (fun i1 s2 q3 hd5 hi7 h0=>?_)
 refine .a [.v (a0.length:Int)] (A (dBind.len' a0) T) [(11,dE ((i1:Int)<(a0.length:Int)))] ?_
 refine .sn 0 dBind a0 (by kernel_rfl) (fun hb8=>?_)
 refine .lc hd5 rfl (by kernel_rfl) (fun x4 q32 hc9 hx4 hd6 hd6l=>?_) (fun hc9=>?_)
 ·subst hc9
  obtain⟨y1,h1,hn1⟩:=forL_cons h0
  refine .bPB h1 rfl [0,3,6] (fun o10=>[(5,.gs (.own 100035) 1 (ksInt o10))]) (fun o10=>[.o 100035 (.tok (ksInt o10).length 3)]) n1 (fun o10 h1=>?_) (fun y2 h2 hj2=>?_)
  ·refine .a [.v ((i1+1:Nat):Int)] (A (wn (i:=i1) (by omega)) T) [(6,iE ((i1+1:Nat):Int))] ?_
   cases h1
   exact .nL rfl (i1+1) _ hd6 hd6l hn1 [] (by kernel_rfl)
  ·refine .bP h2 rfl [0,3,5,6] (fun o11=>[(31,bE o11)]) n1 n1 (fun o11 h2=>?_) (fun y3 h3 hj3=>?_)
   ·refine .jT h2 (fun hc12 h2=>?_) (fun hc12 h2=>?_)
    ·obtain⟨z13,hz13,h2⟩:=bnd h2
     refine .aq [.sv (ksInt [(i1:Int)]),.sv (ksInt z13)] [((ksInt s2).length:Int)] (A (dInt.lit [(i1:Int)]) (A (dInt.ap hz13) T)) [(5,.gs (.own 100035) 1 (ksInt z13))] [.o 100035 (.tok (ksInt z13).length 3)] [] ?_
     cases h2
     exact .lg hj2 []
    ·cases h2
     exact .lg hj2 []
   ·by_cases g14:x4.name=a1.name
    ·have h3:=iteP g14 h3
     obtain⟨k15,hk15,h3⟩:=bnd h3
     refine .ad mixed ((2,[.cs (kBind x4)])::(qb 9 2 true ((11,[.b true,.cs (kBind x4)])::(qb 12 4 true [(16,[.b true,.call [] (bE k15) []]),(17,[.b true])])))) [] (A (dBind.idn hx4) (R 2 (dt g14) (A (A (dt g14) (dBind.idn hx4)) (R 4 (dt g14) (A (A (dt g14) (w_sp_ScopesWithin n _ _ hk15)) (A (dt g14) T)))))) [(31,bE k15)] [] [] ?_
     cases h3
     exact .lg hj3 []
    ·have h3:=iteN g14 h3
     refine .ad mixed ((2,[.cs (kBind x4)])::(qb 9 9 false [])) [] (A (dBind.idn hx4) (R 9 (df g14) T)) [(31,bE false)] [] [] ?_
     cases h3
     exact .lg hj3 []
 ·subst hc9
  have h0:=forL_nil h0
  refine .a [] T [(4,.gs (.own 100035) 1 (ksInt s2))] ?_
  cases h0
  exact .rt hK
def sp_l3Find (n:Nat) (a0:List Bind) (a1:Form):Option (Int×Int):=
 (sp_l3Fitting n a0 a1).bind fun k1=>seqS (forI (fun(s3:Unit) (i2:Nat) (x5:Int)=>(Option.bind (forL (fun(s12:Bool) (i11:Nat) (x14:Int)=>Option.bind ((if s12=true then(atI a0 x14).bind fun e21=>(atI a0 x5).bind fun e22=>(sp_ScopesWithin n e21.scopes e22.scopes).bind fun k23=>some k23 else some false):Option (Bool)) (fun(o19:Bool)=>some o19)) 0 k1 true) (fun(s12:Bool)=>(if s12=true then some (Sum.inl (x5,1)) else some (Sum.inr ()))):Option ((Int×Int)⊕Unit))) 0 k1 ()) (fun(s3:Unit)=>(if(k1.length:Int)>0 then some (0,2) else some (0,0)))
theorem w_sp_l3Find (n:Nat):∀(a0:List Bind) (a1:Form) {r:Int×Int},sp_l3Find n a0 a1=some r→SCall X.E 279 [lE 3 (ksBind a0),aE (kForm a1)] [] (.tup [iE r.1,iE r.2]) []:=by
 intro a0 a1 r h0
 rw[sp_l3Find] at h0
 refine .n Tryz.func279 (fun L ks low K hl hL hlen hK=>?_)
 refine .af [] T [(3,pw 3)] [.o 3 (.cells ((kForm a1).map .d))] ?_
 obtain⟨k1,hk1,h0⟩:=bnd h0
 refine .a [.call [] (lE 1 (ksInt k1)) []] (A (w_sp_l3Fitting n _ _ hk1) T) [(6,lE 1 (ksInt k1))] ?_
 refine .a [] T [(7,iE 0)] ?_
 refine .lI h0 rfl [0,6] (fun i2 s3=>[(7,iE (i2:Int))]) n2 n2 [] (by kernel_rfl) (fun i2 s3 q4 hd6 hi8 h0=>?_)
 refine .a [.v (k1.length:Int)] (A (dInt.len' k1) T) [(16,dE ((i2:Int)<(k1.length:Int)))] ?_
 refine .sn 6 dInt k1 (by kernel_rfl) (fun hb9=>?_)
 refine .lc hd6 rfl (by kernel_rfl) (fun x5 q42 hc10 hx5 hd7 hd7l=>?_) (fun hc10=>?_)
 ·subst hc10
  obtain⟨y1,h1,hw1,hn1⟩:=forI_cons h0
  refine .a [] T [(8,bE true)] ?_
  refine .a [] T [(9,iE 0)] ?_
  refine .lL h1 rfl [0,6,7] (fun i11 s12=>[(8,bE s12),(9,iE (i11:Int))]) n2 n2 [] (by kernel_rfl) (fun i11 s12 q13 hd15 hi17 h1=>?_)
  refine .a [.v (k1.length:Int)] (A (dInt.len' k1) T) [(22,dE ((i11:Int)<(k1.length:Int)))] ?_
  refine .lc hd15 rfl (by kernel_rfl) (fun x14 q132 hc18 hx14 hd16 hd16l=>?_) (fun hc18=>?_)
  ·subst hc18
   obtain⟨y2,h2,hn2⟩:=forL_cons h1
   refine .bP h2 rfl [0,6,7,9] (fun o19=>[(8,bE o19)]) n1 n1 (fun o19 h2=>?_) (fun y3 h3 hj3=>?_)
   ·refine .a [.v ((i11+1:Nat):Int)] (A (wn (i:=i11) (by omega)) T) [(9,iE ((i11+1:Nat):Int))] ?_
    cases h2
    exact .nL rfl (i11+1) _ hd16 hd16l hn2 [] (by kernel_rfl)
   ·by_cases g20:s12=true
    ·have h3:=iteP g20 h3
     obtain⟨e21,he21,h3⟩:=bnd h3
     obtain⟨e22,he22,h3⟩:=bnd h3
     obtain⟨k23,hk23,h3⟩:=bnd h3
     refine .ad mixed (qb 2 3 true ((5,[.b true,.cs [.v (.int .i64 x14)]])::((6,[.b true])::((7,[.b true,.cs (kBind e21)])::(qb 8 5 true ((13,[.b true,.cs [.v (.int .i64 x5)]])::((14,[.b true])::((15,[.b true,.cs (kBind e22)])::(qb 16 2 true [(18,[.b true,.call [] (bE k23) []]),(19,[.b true])]))))))))) [] (R 3 g20 (A (A g20 (dInt.idn hx14)) (A g20 (A (A g20 (dBind.idx he21)) (R 5 g20 (A (A g20 (dInt.idn hx5)) (A g20 (A (A g20 (dBind.idx he22)) (R 2 g20 (A (A g20 (w_sp_ScopesWithin n _ _ hk23)) (A g20 T))))))))))) [(8,bE k23)] [] [] ?_
     cases h3
     exact .lg hj3 []
    ·have h3:=iteN g20 h3
     refine .ad mixed (qb 2 18 false []) [] (R 18 (Bool.eq_false_iff.2 g20) T) [(8,bE false)] [] [] ?_
     cases h3
     exact .lg hj3 []
  ·subst hc18
   have h1:=forL_nil h1
   refine .a [] T [(45,bE s12)] ?_
   refine .jT h1 (fun hc24 h1=>?_) (fun hc24 h1=>?_)
   ·refine .a [.cs [.v (.int .i64 x5)]] (A (dInt.idn hx5) T) [(4,iE x5),(5,iE 1)] ?_
    cases h1
    cases hw1 _ rfl
    exact .rt hK
   ·refine .a [.v ((i2+1:Nat):Int)] (A (wn (i:=i2) (by omega)) T) [(7,iE ((i2+1:Nat):Int))] ?_
    cases h1
    exact .nL rfl (i2+1) _ hd7 hd7l (hn1 _ rfl) [] (by kernel_rfl)
 ·subst hc10
  have h0:=forI_nil h0
  refine .a [.v (k1.length:Int)] (A (dInt.len' k1) T) [(52,dE ((k1.length:Int)>0))] ?_
  refine .jP h0 (fun hc25 h0=>?_) (fun hc25 h0=>?_)
  ·refine .a [] T [(4,iE 0),(5,iE 2)] ?_
   cases h0
   exact .rt hK
  ·refine .a [] T [(4,iE 0),(5,iE 0)] ?_
   cases h0
   exact .rt hK
def sp_l3Same (n:Nat) (a0:List Bind) (a1:Form) (a2:Form):Option (Bool):=
 (sp_l3Find n a0 a1).bind fun k1=>(sp_l3Find n a0 a2).bind fun k2=>Option.bind ((if ¬k1.2=k2.2 then some true else some (decide (k1.2=2))):Option (Bool)) (fun(o3:Bool)=>(if o3=true then some false else(if k1.2=0 then some (decide (a1.name=a2.name)) else(atI a0 k1.1).bind fun e6=>(atI a0 k2.1).bind fun e7=>some (decide (e6.id=e7.id)))))
theorem w_sp_l3Same (n:Nat):∀(a0:List Bind) (a1:Form) (a2:Form) {r:Bool},sp_l3Same n a0 a1 a2=some r→SCall X.E 313 [lE 3 (ksBind a0),aE (kForm a1),aE (kForm a2)] [] (bE r) []:=by
 intro a0 a1 a2 r h0
 rw[sp_l3Same] at h0
 refine .n Tryz.func313 (fun L ks low K hl hL hlen hK=>?_)
 refine .af [] T [(4,pw 4),(5,pw 5)] [.o 4 (.cells ((kForm a1).map .d)),.o 5 (.cells ((kForm a2).map .d))] ?_
 obtain⟨k1,hk1,h0⟩:=bnd h0
 refine .a [.call [] (.tup [iE k1.1,iE k1.2]) []] (A (w_sp_l3Find n _ _ hk1) T) [(7,iE k1.1),(8,iE k1.2)] ?_
 obtain⟨k2,hk2,h0⟩:=bnd h0
 refine .a [.call [] (.tup [iE k2.1,iE k2.2]) []] (A (w_sp_l3Find n _ _ hk2) T) [(9,iE k2.1),(10,iE k2.2)] ?_
 refine .bP h0 rfl [0,4,5,7,8,9] (fun o3=>[(29,bE o3)]) n1 n1 (fun o3 h0=>?_) (fun y1 h1 hj1=>?_)
 ·refine .jT h0 (fun hc4 h0=>?_) (fun hc4 h0=>?_)
  ·refine .a [] T [(6,bE false)] ?_
   cases h0
   exact .rt hK
  ·refine .a [] T [(31,dE (k1.2=0))] ?_
   refine .jP h0 (fun hc5 h0=>?_) (fun hc5 h0=>?_)
   ·refine .a [] T [(6,dE (a1.name=a2.name))] ?_
    cases h0
    exact .rt hK
   ·obtain⟨e6,he6,h0⟩:=bnd h0
    obtain⟨e7,he7,h0⟩:=bnd h0
    refine .ad mixed [(2,[.cs (kBind e6)]),(7,[.cs (kBind e7)])] [] (A (dBind.idx he6) (A (dBind.idx he7) T)) [(6,dE (e6.id=e7.id))] [] [] ?_
    cases h0
    exact .rt hK
 ·by_cases g8:¬k1.2=k2.2
  ·have h1:=iteP g8 h1
   refine .a (rb 3 true []) (R 3 (dt g8) T) [(29,bE true)] ?_
   cases h1
   exact .lg hj1 []
  ·have h1:=iteN g8 h1
   refine .a (rb 3 false []) (R 3 (df g8) T) [(29,dE (k1.2=2))] ?_
   cases h1
   exact .lg hj1 []
mutual
def sp_l4List:Nat→(List Bind)→(List Form)→(List Form)→(List Form)→Option ((List Hit)×Bool)
 | 0,_,_,_,_=>none
 | n+1,a0,a1,a2,a3=>iterM n (fun(s1:Int×Int)=>((if(w64 (s1.2+1))<(a1.length:Int) then Option.bind ((atI a1 (w64 (s1.2+1))).bind fun e6=>(sp_l4Dots n e6).bind fun k7=>(if k7=true then some s1.2 else some s1.1):Option (Int)) (fun(o5:Int)=>some (Sum.inr (o5,(w64 (s1.2+1))))) else Option.bind ((if s1.1<0 then(if ¬(a1.length:Int)=(a3.length:Int) then some true else(if s1.1≥0 then some (decide ((a3.length:Int)<(w64 ((a1.length:Int)-2)))) else some false)) else(if s1.1≥0 then some (decide ((a3.length:Int)<(w64 ((a1.length:Int)-2)))) else some false)):Option (Bool)) (fun(o9:Bool)=>(if o9=true then some (Sum.inl ([],false)) else seqS (forI (fun(s12:(List Hit)×Int) (i11:Nat) (x14:Form)=>(seqS ((sp_l4Dots n x14).bind fun k20=>(if k20=true then some (Sum.inr (s12.1,s12.2)) else(if ¬(i11:Int)=s1.1 then(atI a3 s12.2).bind fun e23=>(sp_l4Match n a0 x14 a2 e23).bind fun k24=>(if(!k24.2)=true then some (Sum.inl (Sum.inl (Sum.inl (s12.1,false)))) else(apB 192 s12.1 k24.1).bind fun z26=>some (Sum.inr (z26,(w64 (s12.2+1))))) else iterM n (fun(s28:Int×(List (List Hit))×Int)=>((if s28.2.2>0 then(atI a3 s28.1).bind fun e31=>(sp_l4Match n a0 x14 a2 e31).bind fun k32=>(if(!k32.2)=true then some (Sum.inl (Sum.inl (Sum.inl (Sum.inl (s12.1,false))))) else(apB 24 s28.2.1 [k32.1]).bind fun z34=>some (Sum.inr ((w64 (s28.1+1)),z34,(w64 (s28.2.2-1))))) else(sp_l4Row n x14 a2 s28.2.1).bind fun k35=>(apB 192 s12.1 k35).bind fun z36=>some (Sum.inl (Sum.inr (z36,s28.1)))):Option ((((((List Hit)×Bool)⊕(Int×Int))⊕((List Hit)×Int))⊕((List Hit)×Int))⊕(Int×(List (List Hit))×Int)))) (s12.2,[],(w64 ((a3.length:Int)-(w64 ((a1.length:Int)-2))))))):Option (((((List Hit)×Bool)⊕(Int×Int))⊕((List Hit)×Int))⊕((List Hit)×Int))) (fun(o19:(List Hit)×Int)=>some (Sum.inr (o19.1,o19.2))):Option ((((List Hit)×Bool)⊕(Int×Int))⊕((List Hit)×Int)))) 0 a1 ([],0)) (fun(s12:(List Hit)×Int)=>some (Sum.inl (s12.1,true)))))):Option (((List Hit)×Bool)⊕(Int×Int)))) ((-1),0)
def sp_l4Match:Nat→(List Bind)→Form→(List Form)→Form→Option ((List Hit)×Bool)
 | 0,_,_,_,_=>none
 | n+1,a0,a1,a2,a3=>(if a1.kind=1 then(if a1.name=[95] then some ([],true) else(sp_l4In n a2 a1).bind fun k3=>(if k3=true then Option.bind ((if a3.kind=1 then(sp_l3Same n a0 a1 a3).bind fun k7=>some k7 else some false):Option (Bool)) (fun(o5:Bool)=>some ([],o5)) else(apB 192 [] [(⟨a1,0,a3,[]⟩:Hit)]).bind fun z8=>some (z8,true))) else(if a1.kind=2 then(sp_FormSame n a1 a3).bind fun k10=>some ([],k10) else(if ¬a3.kind=3 then some ([],false) else(sp_l4List n a0 a1.kids a2 a3.kids).bind fun k12=>some (k12.1,k12.2))))
end
theorem g_sp_l4List (n:Nat):(∀(a0:List Bind) (a1:List Form) (a2:List Form) (a3:List Form) {r:(List Hit)×Bool},sp_l4List n a0 a1 a2 a3=some r→SCall X.E 314 [lE 3 (ksBind a0),lE 5 (ksForm a1),lE 5 (ksForm a2),lE 5 (ksForm a3)] [] (.tup [lE 12 (ksHit r.1),bE r.2]) [])∧(∀(a0:List Bind) (a1:Form) (a2:List Form) (a3:Form) {r:(List Hit)×Bool},sp_l4Match n a0 a1 a2 a3=some r→SCall X.E 304 [lE 3 (ksBind a0),aE (kForm a1),lE 5 (ksForm a2),aE (kForm a3)] [] (.tup [lE 12 (ksHit r.1),bE r.2]) []):=by
 induction n with
 | zero=>exact⟨(by intros; rename_i h; cases h),(by intros; rename_i h; cases h)⟩
 | succ n ih=>
  refine⟨?_,?_⟩
  ·intro a0 a1 a2 a3 r h0
   rw[sp_l4List] at h0
   refine .n Tryz.func314 (fun L ks low K hl hL hlen hK=>?_)
   refine .a [] T [] ?_
   refine .a [.sv (ksHit [])] (A (dHit.lit []) T) [(10,fE 12 (ksHit []))] ?_
   refine .a [] T [(11,iE (-1))] ?_
   refine .a [] T [(12,iE 0)] ?_
   refine .it h0 rfl [0,1,2,3,10] (fun s1=>[(11,iE s1.1),(12,iE s1.2)]) n1 n1 [] (by kernel_rfl) (fun nk2 s1 h0=>?_)
   obtain⟨y1,h1,hw1,hn1⟩:=iter_cons h0
   refine .a [.pl,.v (a1.length:Int)] (A (dForm.len' a1) T) [(26,dE ((w64 (s1.2+1))<(a1.length:Int)))] ?_
   refine .sn 1 dForm a1 (by kernel_rfl) (fun hb3=>?_)
   refine .jP h1 (fun hc4 h1=>?_) (fun hc4 h1=>?_)
   ·refine .bPB h1 rfl [0,1,2,3,10,12] (fun o5=>[(11,iE o5)]) n1 n1 (fun o5 h1=>?_) (fun y2 h2 hj2=>?_)
    ·refine .a [.pl] T [(12,iE (w64 (s1.2+1)))] ?_
     cases h1
     exact .nI rfl _ (hn1 _ rfl) [] (by kernel_rfl)
    ·obtain⟨e6,he6,h2⟩:=bnd h2
     obtain⟨k7,hk7,h2⟩:=bnd h2
     refine .a [.pl,.cs (kForm e6),.call [] (bE k7) []] (A (dForm.idx he6) (A (w_sp_l4Dots n _ hk7) T)) [(34,bE k7)] ?_
     refine .jT h2 (fun hc8 h2=>?_) (fun hc8 h2=>?_)
     ·refine .a [] T [(11,iE s1.2)] ?_
      cases h2
      exact .lg hj2 []
     ·cases h2
      exact .lg hj2 []
   ·refine .bP h1 rfl [0,1,2,3,10,11] (fun o9=>[(56,bE o9)]) n1 n1 (fun o9 h1=>?_) (fun y2 h2 hj2=>?_)
    ·refine .jT h1 (fun hc10 h1=>?_) (fun hc10 h1=>?_)
     ·refine .a [] T [(8,fE 12 (ksHit [])),(9,bE false)] ?_
      cases h1
      cases hw1 _ rfl
      exact .rt hK
     ·refine .a [] T [(13,iE 0)] ?_
      refine .a [] T [(14,iE 0)] ?_
      refine .ow 10 100091 309 [0,1,2,3,11,13,14] rfl rfl (by kernel_rfl) ?_
      refine .lI h1 rfl [0,1,2,3,11] (fun i11 s12=>[(10,.gs (.own 100091) 12 (ksHit s12.1)),(13,iE s12.2),(14,iE (i11:Int))]) (fun i11 s12=>[.o 100091 (.tok (ksHit s12.1).length 309)]) n2 [] (by kernel_rfl) (fun i11 s12 q13 hd15 hi17 h1=>?_)
      refine .a [.v (a1.length:Int)] (A (dForm.len' a1) T) [(61,dE ((i11:Int)<(a1.length:Int)))] ?_
      refine .lc hd15 rfl (by kernel_rfl) (fun x14 q132 hc18 hx14 hd16 hd16l=>?_) (fun hc18=>?_)
      ·subst hc18
       obtain⟨y2,h2,hw2,hn2⟩:=forI_cons h1
       refine .bSB h2 rfl [0,1,2,3,11,14] (fun o19=>[(10,.gs (.own 100091) 12 (ksHit o19.1)),(13,iE o19.2)]) (fun o19=>[.o 100091 (.tok (ksHit o19.1).length 309)]) n1 (fun o19 h2=>?_) (fun y3 h3 hj3 hw3=>?_)
       ·refine .a [.v ((i11+1:Nat):Int)] (A (wn (i:=i11) (by omega)) T) [(14,iE ((i11+1:Nat):Int))] ?_
        cases h2
        exact .nL rfl (i11+1) _ hd16 hd16l (hn2 _ rfl) [] (by kernel_rfl)
       ·obtain⟨k20,hk20,h3⟩:=bnd h3
        refine .a [.cs (kForm x14),.call [] (bE k20) []] (A (dForm.idn hx14) (A (w_sp_l4Dots n _ hk20) T)) [(68,bE k20)] ?_
        refine .jT h3 (fun hc21 h3=>?_) (fun hc21 h3=>?_)
        ·cases h3
         exact .lg (hj3 _ rfl) []
        ·refine .a [] T [(71,dE (¬(i11:Int)=s1.1))] ?_
         refine .jP h3 (fun hc22 h3=>?_) (fun hc22 h3=>?_)
         ·obtain⟨e23,he23,h3⟩:=bnd h3
          obtain⟨k24,hk24,h3⟩:=bnd h3
          refine .ad mixed [(3,[.cs (kForm x14)]),(8,[.cs (kForm e23)]),(10,[.call [] (.tup [lE 12 (ksHit k24.1),bE k24.2]) []])] [] (A (dForm.idn hx14) (A (dForm.idx he23) (A (ih.2 _ _ _ _ hk24) T))) [(15,lE 12 (ksHit k24.1)),(16,bE k24.2)] [] [] ?_
          refine .a [] T [(87,bE (!k24.2))] ?_
          refine .jT h3 (fun hc25 h3=>?_) (fun hc25 h3=>?_)
          ·refine .a [] T [(8,.gs (.own 100091) 12 (ksHit s12.1)),(9,bE false)] ?_
           cases h3
           cases hw3 _ rfl
           cases hw2 _ rfl
           cases hw1 _ rfl
           exact .rt hK
          ·obtain⟨z26,hz26,h3⟩:=bnd h3
           refine .aq [.sv (ksHit z26)] [((ksHit s12.1).length:Int)] (A (dHit.ap hz26) T) [(10,.gs (.own 100091) 12 (ksHit z26))] [.o 100091 (.tok (ksHit z26).length 309)] [] ?_
           refine .a [.pl] T [(13,iE (w64 (s12.2+1)))] ?_
           cases h3
           exact .lg (hj3 _ rfl) []
         ·refine .a [.sv (ksHits [])] (A (dHits.lit []) T) [(17,fE 1 (ksHits []))] ?_
          refine .a [.v (a3.length:Int),.v (a1.length:Int),.pl,.pl] (A (dForm.len' a3) (A (dForm.len' a1) T)) [(18,iE (w64 ((a3.length:Int)-(w64 ((a1.length:Int)-2)))))] ?_
          refine .sn 3 dForm a3 (by kernel_rfl) (fun hb27=>?_)
          refine .ow 17 100125 300 [0,1,2,3,10,11,13,14,18] rfl rfl (by kernel_rfl) ?_
          refine .it h3 rfl [0,1,2,3,10,11,14] (fun s28=>[(13,iE s28.1),(17,.gs (.own 100125) 1 (ksHits s28.2.1)),(18,iE s28.2.2)]) (fun s28=>[.o 100125 (.tok (ksHits s28.2.1).length 300)]) n1 [] (by kernel_rfl) (fun nk29 s28 h3=>?_)
          obtain⟨y4,h4,hw4,hn4⟩:=iter_cons h3
          refine .a [] T [(102,dE (s28.2.2>0))] ?_
          refine .jP h4 (fun hc30 h4=>?_) (fun hc30 h4=>?_)
          ·obtain⟨e31,he31,h4⟩:=bnd h4
           obtain⟨k32,hk32,h4⟩:=bnd h4
           refine .ad mixed [(3,[.cs (kForm x14)]),(8,[.cs (kForm e31)]),(10,[.call [] (.tup [lE 12 (ksHit k32.1),bE k32.2]) []])] [] (A (dForm.idn hx14) (A (dForm.idx he31) (A (ih.2 _ _ _ _ hk32) T))) [(19,lE 12 (ksHit k32.1)),(20,bE k32.2)] [] [] ?_
           refine .a [] T [(120,bE (!k32.2))] ?_
           refine .jT h4 (fun hc33 h4=>?_) (fun hc33 h4=>?_)
           ·refine .a [] T [(8,.gs (.own 100091) 12 (ksHit s12.1)),(9,bE false)] ?_
            cases h4
            cases hw4 _ rfl
            cases hw3 _ rfl
            cases hw2 _ rfl
            cases hw1 _ rfl
            exact .rt hK
           ·obtain⟨z34,hz34,h4⟩:=bnd h4
            refine .aq [.sv (ksHits [k32.1]),.sv (ksHits z34)] [((ksHits s28.2.1).length:Int)] (A (dHits.lit [k32.1]) (A (dHits.ap hz34) T)) [(17,.gs (.own 100125) 1 (ksHits z34))] [.o 100125 (.tok (ksHits z34).length 300)] [] ?_
            refine .a [.pl] T [(13,iE (w64 (s28.1+1)))] ?_
            refine .a [.pl] T [(18,iE (w64 (s28.2.2-1)))] ?_
            cases h4
            exact .nI rfl _ (hn4 _ rfl) [] (by kernel_rfl)
          ·obtain⟨k35,hk35,h4⟩:=bnd h4
           obtain⟨z36,hz36,h4⟩:=bnd h4
           refine .aq [.cs (kForm x14),.call [] (lE 12 (ksHit k35)) [],.sv (ksHit z36)] [((ksHit s12.1).length:Int)] (A (dForm.idn hx14) (A (w_sp_l4Row n _ _ _ hk35) (A (dHit.ap hz36) T))) [(10,.gs (.own 100091) 12 (ksHit z36))] [.o 100091 (.tok (ksHit z36).length 309)] [] ?_
           cases h4
           cases hw4 _ rfl
           refine .kp [0,1,2,3,10,11,13,14] [] ?_
           refine .dr 100125 (by kernel_rfl) ?_
           exact .lg (hj3 _ rfl) []
      ·subst hc18
       have h1:=forI_nil h1
       refine .a [] T [(8,.gs (.own 100091) 12 (ksHit s12.1)),(9,bE true)] ?_
       cases h1
       cases hw1 _ rfl
       exact .rt hK
    ·by_cases g37:s1.1<0
     ·have h2:=iteP g37 h2
      by_cases g38:¬(a1.length:Int)=(a3.length:Int)
      ·have h2:=iteP g38 h2
       refine .a (.b true::(.b true::(.v (a1.length:Int)::(.b true::(.b true::(.v (a3.length:Int)::(rb 7 true []))))))) (A (dt g37) (A (A (dt g37) (dForm.len' a1)) (A (dt g37) (A (A (dt g37) (dForm.len' a3)) (R 2 (dt g37) (R 5 (dt g38) T)))))) [(56,bE true)] ?_
       refine .sn 3 dForm a3 (by kernel_rfl) (fun hb39=>?_)
       cases h2
       exact .lg hj2 []
      ·have h2:=iteN g38 h2
       by_cases g40:s1.1≥0
       ·have h2:=iteP g40 h2
        refine .a (.b true::(.b true::(.v (a1.length:Int)::(.b true::(.b true::(.v (a3.length:Int)::(.b true::(.b true::(rb 3 false [.b true,.b true,.v (a3.length:Int),.b true,.b true,.v (a1.length:Int),.b true,.pl,.b true,.b false,.b true,.b false]))))))))) (A (dt g37) (A (A (dt g37) (dForm.len' a1)) (A (dt g37) (A (A (dt g37) (dForm.len' a3)) (R 2 (dt g37) (R 3 (df g38) (A (dt g40) (A (A (dt g40) (dForm.len' a3)) (A (dt g40) (A (A (dt g40) (dForm.len' a1)) (R 2 (dt g40) (A (A (df g38) (dt g40)) (A (df g38) T))))))))))))) [(56,dE ((a3.length:Int)<(w64 ((a1.length:Int)-2))))] ?_
        refine .sn 3 dForm a3 (by kernel_rfl) (fun hb41=>?_)
        cases h2
        exact .lg hj2 []
       ·have h2:=iteN g40 h2
        refine .a (.b true::(.b true::(.v (a1.length:Int)::(.b true::(.b true::(.v (a3.length:Int)::(.b true::(.b true::(rb 12 false []))))))))) (A (dt g37) (A (A (dt g37) (dForm.len' a1)) (A (dt g37) (A (A (dt g37) (dForm.len' a3)) (R 2 (dt g37) (R 3 (df g38) (R 6 (df g40) (A (A (df g38) (df g40)) (A (df g38) T))))))))) [(56,bE false)] ?_
        refine .sn 3 dForm a3 (by kernel_rfl) (fun hb42=>?_)
        cases h2
        exact .lg hj2 []
     ·have h2:=iteN g37 h2
      by_cases g43:s1.1≥0
      ·have h2:=iteP g43 h2
       refine .a (rb 9 false [.b true,.b true,.v (a3.length:Int),.b true,.b true,.v (a1.length:Int),.b true,.pl,.b true,.b false,.b true,.b false]) (R 6 (df g37) (R 3 B0 (A (dt g43) (A (A (dt g43) (dForm.len' a3)) (A (dt g43) (A (A (dt g43) (dForm.len' a1)) (R 2 (dt g43) (A (A B0 (dt g43)) (A B0 T))))))))) [(56,dE ((a3.length:Int)<(w64 ((a1.length:Int)-2))))] ?_
       refine .sn 3 dForm a3 (by kernel_rfl) (fun hb44=>?_)
       cases h2
       exact .lg hj2 []
      ·have h2:=iteN g43 h2
       refine .a (rb 18 false []) (R 6 (df g37) (R 3 B0 (R 6 (df g43) (A (A B0 (df g43)) (A B0 T))))) [(56,bE false)] ?_
       cases h2
       exact .lg hj2 []
  ·intro a0 a1 a2 a3 r h0
   rw[sp_l4Match] at h0
   refine .n Tryz.func304 (fun L ks low K hl hL hlen hK=>?_)
   refine .af [] T [(5,pw 5),(7,pw 7)] [.o 5 (.cells ((kForm a1).map .d)),.o 7 (.cells ((kForm a3).map .d))] ?_
   refine .a [.sv (ksHit [])] (A (dHit.lit []) T) [(10,fE 12 (ksHit []))] ?_
   refine .a [] T [(14,dE (a1.kind=1))] ?_
   refine .jP h0 (fun hc1 h0=>?_) (fun hc1 h0=>?_)
   ·refine .a [] T [(17,dE (a1.name=[95]))] ?_
    refine .jP h0 (fun hc2 h0=>?_) (fun hc2 h0=>?_)
    ·refine .a [] T [(8,fE 12 (ksHit [])),(9,bE true)] ?_
     cases h0
     exact .rt hK
    ·obtain⟨k3,hk3,h0⟩:=bnd h0
     refine .a [.call [] (bE k3) []] (A (w_sp_l4In n _ _ hk3) T) [(21,bE k3)] ?_
     refine .jT h0 (fun hc4 h0=>?_) (fun hc4 h0=>?_)
     ·refine .bP h0 rfl [] (fun o5=>[(8,fE 12 (ksHit [])),(9,bE o5)]) n1 n1 (fun o5 h0=>?_) (fun y1 h1 hj1=>?_)
      ·cases h0
       exact .rt hK
      ·by_cases g6:a3.kind=1
       ·have h1:=iteP g6 h1
        obtain⟨k7,hk7,h1⟩:=bnd h1
        refine .a (rb 4 true [.call [] (bE k7) [],.b true]) (R 3 (dt g6) (A (A (dt g6) (w_sp_l3Same n _ _ _ hk7)) (A (dt g6) T))) [(8,fE 12 (ksHit [])),(9,bE k7)] ?_
        cases h1
        exact .lg hj1 []
       ·have h1:=iteN g6 h1
        refine .a (rb 5 false []) (R 5 (df g6) T) [(8,fE 12 (ksHit [])),(9,bE false)] ?_
        cases h1
        exact .lg hj1 []
     ·obtain⟨z8,hz8,h0⟩:=bnd h0
      refine .af [.sv (ksHit [(⟨a1,0,a3,[]⟩:Hit)]),.sv (ksHit z8)] (A (dHit.lit [(⟨a1,0,a3,[]⟩:Hit)]) (A (dHit.ap hz8) T)) [(8,.gs (.own 100037) 12 (ksHit z8)),(9,bE true)] [.o 100037 (.tok (ksHit z8).length 309)] ?_
      cases h0
      exact .rt hK
   ·refine .a [] T [(40,dE (a1.kind=2))] ?_
    refine .jP h0 (fun hc9 h0=>?_) (fun hc9 h0=>?_)
    ·obtain⟨k10,hk10,h0⟩:=bnd h0
     refine .a [.call [] (bE k10) []] (A (w_sp_FormSame n _ _ hk10) T) [(8,fE 12 (ksHit [])),(9,bE k10)] ?_
     cases h0
     exact .rt hK
    ·refine .a [] T [(47,dE (¬a3.kind=3))] ?_
     refine .jP h0 (fun hc11 h0=>?_) (fun hc11 h0=>?_)
     ·refine .a [] T [(8,fE 12 (ksHit [])),(9,bE false)] ?_
      cases h0
      exact .rt hK
     ·obtain⟨k12,hk12,h0⟩:=bnd h0
      refine .a [.call [] (.tup [lE 12 (ksHit k12.1),bE k12.2]) []] (A (ih.1 _ _ _ _ hk12) T) [(8,lE 12 (ksHit k12.1)),(9,bE k12.2)] ?_
      cases h0
      exact .rt hK
theorem w_sp_l4List (n:Nat):∀(a0:List Bind) (a1:List Form) (a2:List Form) (a3:List Form) {r:(List Hit)×Bool},sp_l4List n a0 a1 a2 a3=some r→SCall X.E 314 [lE 3 (ksBind a0),lE 5 (ksForm a1),lE 5 (ksForm a2),lE 5 (ksForm a3)] [] (.tup [lE 12 (ksHit r.1),bE r.2]) []:=(g_sp_l4List n).1
theorem w_sp_l4Match (n:Nat):∀(a0:List Bind) (a1:Form) (a2:List Form) (a3:Form) {r:(List Hit)×Bool},sp_l4Match n a0 a1 a2 a3=some r→SCall X.E 304 [lE 3 (ksBind a0),aE (kForm a1),lE 5 (ksForm a2),aE (kForm a3)] [] (.tup [lE 12 (ksHit r.1),bE r.2]) []:=(g_sp_l4List n).2
def sp_l3Is (n:Nat) (a0:Form):Option (Bool):=
 Option.bind ((if a0.kind=1 then(sp_FormValid n a0).bind fun k3=>some k3 else some false):Option (Bool)) (fun(o1:Bool)=>some o1)
theorem w_sp_l3Is (n:Nat):∀(a0:Form) {r:Bool},sp_l3Is n a0=some r→SCall X.E 308 [aE (kForm a0)] [] (bE r) []:=by
 intro a0 r h0
 rw[sp_l3Is] at h0
 refine .n Tryz.func308 (fun L ks low K hl hL hlen hK=>?_)
 refine .af [] T [(1,pw 1)] [.o 1 (.cells ((kForm a0).map .d))] ?_
 refine .bP h0 rfl [] (fun o1=>[(2,bE o1)]) n1 n1 (fun o1 h0=>?_) (fun y1 h1 hj1=>?_)
 ·cases h0
  exact .rt hK
 ·by_cases g2:a0.kind=1
  ·have h1:=iteP g2 h1
   obtain⟨k3,hk3,h1⟩:=bnd h1
   refine .a [.b true,.b true,.call [] (bE k3) [],.b true] (A (dt g2) (A (A (dt g2) (w_sp_FormValid n _ hk3)) (A (dt g2) T))) [(2,bE k3)] ?_
   cases h1
   exact .lg hj1 []
  ·have h1:=iteN g2 h1
   refine .a (rb 3 false []) (R 3 (df g2) T) [(2,bE false)] ?_
   cases h1
   exact .lg hj1 []
def sp_l4Literals (n:Nat) (a0:List Form):Option (Bool):=
 iterM n (fun(s1:Int)=>(Option.bind ((if s1<(a0.length:Int) then some (decide (s1<10)) else some false):Option (Bool)) (fun(o3:Bool)=>(if o3=true then Option.bind ((atI a0 s1).bind fun e7=>(sp_l3Is n e7).bind fun k8=>(if(!k8)=true then some true else(if e7.name=[46,46,46] then some true else(if e7.name=[95] then some true else(slI a0 0 s1).bind fun z12=>(sp_l4In n z12 e7).bind fun k13=>some k13))):Option (Bool)) (fun(o5:Bool)=>(if o5=true then some (Sum.inl false) else some (Sum.inr (w64 (s1+1))))) else some (Sum.inl (decide ((a0.length:Int)<10))))):Option (Bool⊕Int))) 0
theorem w_sp_l4Literals (n:Nat):∀(a0:List Form) {r:Bool},sp_l4Literals n a0=some r→SCall X.E 311 [lE 5 (ksForm a0)] [] (bE r) []:=by
 intro a0 r h0
 rw[sp_l4Literals] at h0
 refine .n Tryz.func311 (fun L ks low K hl hL hlen hK=>?_)
 refine .a [] T [] ?_
 refine .a [] T [(3,iE 0)] ?_
 refine .it h0 rfl [0] (fun s1=>[(3,iE s1)]) n1 n1 [] (by kernel_rfl) (fun nk2 s1 h0=>?_)
 obtain⟨y1,h1,hw1,hn1⟩:=iter_cons h0
 refine .bP h1 rfl [0,3] (fun o3=>[(11,bE o3)]) n1 n1 (fun o3 h1=>?_) (fun y2 h2 hj2=>?_)
 ·refine .jT h1 (fun hc4 h1=>?_) (fun hc4 h1=>?_)
  ·refine .bP h1 rfl [0,3] (fun o5=>[(45,bE o5)]) n1 n1 (fun o5 h1=>?_) (fun y2 h2 hj2=>?_)
   ·refine .jT h1 (fun hc6 h1=>?_) (fun hc6 h1=>?_)
    ·refine .a [] T [(2,bE false)] ?_
     cases h1
     cases hw1 _ rfl
     exact .rt hK
    ·refine .a [.pl] T [(3,iE (w64 (s1+1)))] ?_
     cases h1
     exact .nI rfl _ (hn1 _ rfl) [] (by kernel_rfl)
   ·obtain⟨e7,he7,h2⟩:=bnd h2
    obtain⟨k8,hk8,h2⟩:=bnd h2
    by_cases g9:(!k8)=true
    ·have h2:=iteP g9 h2
     refine .ad mixed ((2,[.cs (kForm e7)])::((4,[.call [] (bE k8) []])::(qb 7 7 true (qb 15 7 true (qb 23 9 true []))))) [] (A (dForm.idx he7) (A (w_sp_l3Is n _ hk8) (R 7 g9 (R 16 B1 T)))) [(45,bE true)] [] [] ?_
     cases h2
     exact .lg hj2 []
    ·have h2:=iteN g9 h2
     by_cases g10:e7.name=[46,46,46]
     ·have h2:=iteP g10 h2
      refine .ad mixed ((2,[.cs (kForm e7)])::((4,[.call [] (bE k8) []])::(qb 7 2 false ((9,[.b false,.cs (kForm e7)])::(qb 10 4 false (qb 15 7 true (qb 23 9 true []))))))) [] (A (dForm.idx he7) (A (w_sp_l3Is n _ hk8) (R 2 (Bool.eq_false_iff.2 g9) (A (A (Bool.eq_false_iff.2 g9) (dForm.idx he7)) (R 4 (Bool.eq_false_iff.2 g9) (R 7 (dt g10) (R 9 B1 T))))))) [(45,bE true)] [] [] ?_
      cases h2
      exact .lg hj2 []
     ·have h2:=iteN g10 h2
      by_cases g11:e7.name=[95]
      ·have h2:=iteP g11 h2
       refine .ad mixed ((2,[.cs (kForm e7)])::((4,[.call [] (bE k8) []])::(qb 7 2 false ((9,[.b false,.cs (kForm e7)])::(qb 10 4 false (qb 15 2 false ((17,[.b false,.cs (kForm e7)])::(qb 18 4 false (qb 23 9 true []))))))))) [] (A (dForm.idx he7) (A (w_sp_l3Is n _ hk8) (R 2 (Bool.eq_false_iff.2 g9) (A (A (Bool.eq_false_iff.2 g9) (dForm.idx he7)) (R 4 (Bool.eq_false_iff.2 g9) (R 2 (df g10) (A (A (df g10) (dForm.idx he7)) (R 4 (df g10) (R 9 (dt g11) T))))))))) [(45,bE true)] [] [] ?_
       cases h2
       exact .lg hj2 []
      ·have h2:=iteN g11 h2
       obtain⟨z12,hz12,h2⟩:=bnd h2
       obtain⟨k13,hk13,h2⟩:=bnd h2
       refine .ad mixed ((2,[.cs (kForm e7)])::((4,[.call [] (bE k8) []])::(qb 7 2 false ((9,[.b false,.cs (kForm e7)])::(qb 10 4 false (qb 15 2 false ((17,[.b false,.cs (kForm e7)])::(qb 18 4 false (qb 23 2 false ((25,[.b false,.sv (ksForm z12)])::(qb 26 2 false [(28,[.b false,.cs (kForm e7)]),(29,[.b false]),(30,[.b false,.call [] (bE k13) []]),(31,[.b false])]))))))))))) [] (A (dForm.idx he7) (A (w_sp_l3Is n _ hk8) (R 2 (Bool.eq_false_iff.2 g9) (A (A (Bool.eq_false_iff.2 g9) (dForm.idx he7)) (R 4 (Bool.eq_false_iff.2 g9) (R 2 (df g10) (A (A (df g10) (dForm.idx he7)) (R 4 (df g10) (R 2 (df g11) (A (A (df g11) (dForm.sl hz12)) (R 2 (df g11) (A (A (df g11) (dForm.idx he7)) (A (df g11) (A (A (df g11) (w_sp_l4In n _ _ hk13)) (A (df g11) T))))))))))))))) [(45,bE k13)] [] [] ?_
       cases h2
       exact .lg hj2 []
  ·refine .a [.v (a0.length:Int)] (A (dForm.len' a0) T) [(2,dE ((a0.length:Int)<10))] ?_
   refine .sn 0 dForm a0 (by kernel_rfl) (fun hb14=>?_)
   cases h1
   cases hw1 _ rfl
   exact .rt hK
 ·by_cases g15:s1<(a0.length:Int)
  ·have h2:=iteP g15 h2
   refine .a (.v (a0.length:Int)::(rb 3 true [])) (A (dForm.len' a0) (R 3 (dt g15) T)) [(11,dE (s1<10))] ?_
   refine .sn 0 dForm a0 (by kernel_rfl) (fun hb16=>?_)
   cases h2
   exact .lg hj2 []
  ·have h2:=iteN g15 h2
   refine .a (.v (a0.length:Int)::(rb 3 false [])) (A (dForm.len' a0) (R 3 (df g15) T)) [(11,bE false)] ?_
   refine .sn 0 dForm a0 (by kernel_rfl) (fun hb17=>?_)
   cases h2
   exact .lg hj2 []
def sp_l4Shape:Nat→Form→Option (Bool)
 | 0,_=>none
 | n+1,a0=>(sp_l4Dots n a0).bind fun k1=>(if k1=true then some false else seqS (forI (fun(s4:Int) (i3:Nat) (x6:Form)=>(seqS ((sp_l4Dots n x6).bind fun k13=>(if k13=true then Option.bind ((if(i3:Int)=0 then some true else(atI a0.kids (w64 ((i3:Int)-1))).bind fun e18=>(sp_l4Dots n e18).bind fun k19=>some k19):Option (Bool)) (fun(o15:Bool)=>(if o15=true then some (Sum.inl (Sum.inl false)) else some (Sum.inr (w64 (s4+1))))) else(sp_l4Shape n x6).bind fun k20=>(if(!k20)=true then some (Sum.inl (Sum.inl false)) else some (Sum.inr s4))):Option ((Bool⊕Int)⊕Int)) (fun(o12:Int)=>some (Sum.inr o12)):Option (Bool⊕Int))) 0 a0.kids 0) (fun(s4:Int)=>some (decide (s4≤1))))
theorem w_sp_l4Shape (n:Nat):∀(a0:Form) {r:Bool},sp_l4Shape n a0=some r→SCall X.E 326 [aE (kForm a0)] [] (bE r) []:=by
 induction n with
 | zero=>intro a0 r h; cases h
 | succ n ih=>
  intro a0 r h0
  rw[sp_l4Shape] at h0
  refine .n Tryz.func326 (fun L ks low K hl hL hlen hK=>?_)
  refine .af [] T [(1,pw 1)] [.o 1 (.cells ((kForm a0).map .d))] ?_
  obtain⟨k1,hk1,h0⟩:=bnd h0
  refine .a [.call [] (bE k1) []] (A (w_sp_l4Dots n _ hk1) T) [(6,bE k1)] ?_
  refine .jT h0 (fun hc2 h0=>?_) (fun hc2 h0=>?_)
  ·refine .a [] T [(2,bE false)] ?_
   cases h0
   exact .rt hK
  ·refine .a [] T [(3,iE 0)] ?_
   refine .a [] T [(4,iE 0)] ?_
   refine .lI h0 rfl [1] (fun i3 s4=>[(3,iE s4),(4,iE (i3:Int))]) n2 n2 [] (by kernel_rfl) (fun i3 s4 q5 hd7 hi9 h0=>?_)
   refine .a [.v (a0.kids.length:Int)] (A (dForm.len' a0.kids) T) [(9,lE 5 (ksForm a0.kids)),(11,dE ((i3:Int)<(a0.kids.length:Int)))] ?_
   refine .sn 9 dForm a0.kids (by kernel_rfl) (fun hb10=>?_)
   refine .lc hd7 rfl (by kernel_rfl) (fun x6 q52 hc11 hx6 hd8 hd8l=>?_) (fun hc11=>?_)
   ·subst hc11
    obtain⟨y1,h1,hw1,hn1⟩:=forI_cons h0
    refine .bSB h1 rfl [1,4] (fun o12=>[(3,iE o12)]) n1 n1 (fun o12 h1=>?_) (fun y2 h2 hj2 hw2=>?_)
    ·refine .a [.v ((i3+1:Nat):Int)] (A (wn (i:=i3) (by omega)) T) [(4,iE ((i3+1:Nat):Int))] ?_
     cases h1
     exact .nL rfl (i3+1) _ hd8 hd8l (hn1 _ rfl) [] (by kernel_rfl)
    ·obtain⟨k13,hk13,h2⟩:=bnd h2
     refine .a [.cs (kForm x6),.call [] (bE k13) []] (A (dForm.idn hx6) (A (w_sp_l4Dots n _ hk13) T)) [(19,bE k13)] ?_
     refine .jT h2 (fun hc14 h2=>?_) (fun hc14 h2=>?_)
     ·refine .a [.pl] T [(3,iE (w64 (s4+1)))] ?_
      refine .bP h2 rfl [1,3,4] (fun o15=>[(32,bE o15)]) n1 n1 (fun o15 h2=>?_) (fun y3 h3 hj3=>?_)
      ·refine .jT h2 (fun hc16 h2=>?_) (fun hc16 h2=>?_)
       ·refine .a [] T [(2,bE false)] ?_
        cases h2
        cases hw2 _ rfl
        cases hw1 _ rfl
        exact .rt hK
       ·cases h2
        exact .lg (hj2 _ rfl) []
      ·by_cases g17:(i3:Int)=0
       ·have h3:=iteP g17 h3
        refine .a (rb 8 true []) (R 8 (dt g17) T) [(32,bE true)] ?_
        cases h3
        exact .lg hj3 []
       ·have h3:=iteN g17 h3
        obtain⟨e18,he18,h3⟩:=bnd h3
        obtain⟨k19,hk19,h3⟩:=bnd h3
        refine .a (rb 4 false [.pl,.b false,.cs (kForm e18),.b false,.b false,.call [] (bE k19) [],.b false]) (R 4 (df g17) (A (A (df g17) (dForm.idx he18)) (A (df g17) (A (A (df g17) (w_sp_l4Dots n _ hk19)) (A (df g17) T))))) [(32,bE k19)] ?_
        cases h3
        exact .lg hj3 []
     ·obtain⟨k20,hk20,h2⟩:=bnd h2
      refine .a [.cs (kForm x6),.call [] (bE k20) []] (A (dForm.idn hx6) (A (ih _ hk20) T)) [(39,bE (!k20))] ?_
      refine .jT h2 (fun hc21 h2=>?_) (fun hc21 h2=>?_)
      ·refine .a [] T [(2,bE false)] ?_
       cases h2
       cases hw2 _ rfl
       cases hw1 _ rfl
       exact .rt hK
      ·cases h2
       exact .lg (hj2 _ rfl) []
   ·subst hc11
    have h0:=forI_nil h0
    refine .a [] T [(2,dE (s4≤1))] ?_
    cases h0
    exact .rt hK
def sp_l4Is (n:Nat) (a0:Form) (a1:List Form):Option (Bool):=
 Option.bind ((sp_FormValid n a0).bind fun k27=>(if(!k27)=true then some true else(sp_l4Literals n a1).bind fun k29=>(if(!k29)=true then some true else(sp_l4Shape n a0).bind fun k31=>some (!k31))):Option (Bool)) (fun(o1:Bool)=>(if o1=true then some false else(sp_l4Vars n [] a0 a1).bind fun k3=>seqS (forI (fun(s5:Unit) (i4:Nat) (x7:Form)=>((slI k3 0 (i4:Int)).bind fun z13=>(sp_l4In n z13 x7).bind fun k14=>(if k14=true then some (Sum.inl false) else some (Sum.inr ())):Option (Bool⊕Unit))) 0 k3 ()) (fun(s5:Unit)=>(sp_l4Depths n [] a0 a1 0).bind fun k16=>seqS (forI (fun(s18:Unit) (i17:Nat) (x20:Int)=>((if x20>3 then some (Sum.inl false) else some (Sum.inr ())):Option (Bool⊕Unit))) 0 k16 ()) (fun(s18:Unit)=>some (decide ((k3.length:Int)≤20))))))
theorem w_sp_l4Is (n:Nat):∀(a0:Form) (a1:List Form) {r:Bool},sp_l4Is n a0 a1=some r→SCall X.E 320 [aE (kForm a0),lE 5 (ksForm a1)] [] (bE r) []:=by
 intro a0 a1 r h0
 rw[sp_l4Is] at h0
 refine .n Tryz.func320 (fun L ks low K hl hL hlen hK=>?_)
 refine .af [] T [(2,pw 2)] [.o 2 (.cells ((kForm a0).map .d))] ?_
 refine .bP h0 rfl [1,2] (fun o1=>[(21,bE o1)]) n1 n1 (fun o1 h0=>?_) (fun y1 h1 hj1=>?_)
 ·refine .jT h0 (fun hc2 h0=>?_) (fun hc2 h0=>?_)
  ·refine .a [] T [(4,bE false)] ?_
   cases h0
   exact .rt hK
  ·obtain⟨k3,hk3,h0⟩:=bnd h0
   refine .af [.gv 22,.sv (ksForm []),.call [.own 100022] (.vs (.low 0) 5 ((ksForm k3).length)) [.vec 32 5 (ksForm k3)]] (A (dForm.lit []) (A (w_sp_l4Vars n _ _ _ hk3) T)) [(5,.vs (.own 100022) 5 ((ksForm k3).length))] [.o 100022 (.vec 32 5 (ksForm k3))] ?_
   refine .a [] T [(6,iE 0)] ?_
   refine .kp [1,2,5,6] [] ?_
   refine .ft 5 100022 [1,2,6] dForm k3 (rfl:(ksForm k3).length=(ksForm k3).length) (by kernel_rfl) ?_
   refine .lI h0 rfl [1,2,5] (fun i4 s5=>[(6,iE (i4:Int))]) n2 n2 [] (by kernel_rfl) (fun i4 s5 q6 hd8 hi10 h0=>?_)
   refine .a [.v (k3.length:Int)] (A (dForm.len' k3) T) [(29,dE ((i4:Int)<(k3.length:Int)))] ?_
   refine .sn 5 dForm k3 (by kernel_rfl) (fun hb11=>?_)
   refine .lc hd8 rfl (by kernel_rfl) (fun x7 q62 hc12 hx7 hd9 hd9l=>?_) (fun hc12=>?_)
   ·subst hc12
    obtain⟨y1,h1,hw1,hn1⟩:=forI_cons h0
    obtain⟨z13,hz13,h1⟩:=bnd h1
    obtain⟨k14,hk14,h1⟩:=bnd h1
    refine .ad mixed [(2,[.sv (ksForm z13)]),(5,[.cs (kForm x7)]),(7,[.call [] (bE k14) []])] [] (A (dForm.sl hz13) (A (dForm.idn hx7) (A (w_sp_l4In n _ _ hk14) T))) [(39,bE k14)] [] [] ?_
    refine .jT h1 (fun hc15 h1=>?_) (fun hc15 h1=>?_)
    ·refine .a [] T [(4,bE false)] ?_
     cases h1
     cases hw1 _ rfl
     exact .rt hK
    ·refine .a [.v ((i4+1:Nat):Int)] (A (wn (i:=i4) (by omega)) T) [(6,iE ((i4+1:Nat):Int))] ?_
     cases h1
     exact .nL rfl (i4+1) _ hd9 hd9l (hn1 _ rfl) [] (by kernel_rfl)
   ·subst hc12
    have h0:=forI_nil h0
    obtain⟨k16,hk16,h0⟩:=bnd h0
    refine .af [.gv 40,.sv (ksInt []),.call [.own 100040] (.vs (.low 0) 1 ((ksInt k16).length)) [.vec 3 1 (ksInt k16)]] (A (dInt.lit []) (A (w_sp_l4Depths n _ _ _ _ hk16) T)) [(7,.vs (.own 100040) 1 ((ksInt k16).length))] [.o 100040 (.vec 3 1 (ksInt k16))] ?_
    refine .a [] T [(8,iE 0)] ?_
    refine .lI h0 rfl [5,7] (fun i17 s18=>[(8,iE (i17:Int))]) n2 n2 [] (by kernel_rfl) (fun i17 s18 q19 hd21 hi23 h0=>?_)
    refine .a [.v (k16.length:Int)] (A (dInt.len' k16) T) [(47,dE ((i17:Int)<(k16.length:Int)))] ?_
    refine .snV 7 dInt k16 (by kernel_rfl) (fun hb24=>?_)
    refine .lc hd21 rfl (by kernel_rfl) (fun x20 q192 hc25 hx20 hd22 hd22l=>?_) (fun hc25=>?_)
    ·subst hc25
     obtain⟨y1,h1,hw1,hn1⟩:=forI_cons h0
     refine .a [.cs [.v (.int .i64 x20)]] (A (A (dInt.inv (inB_of hx20) (rfl:(ksInt k16).length=(ksInt k16).length)) (rfl:(ksInt k16).length=(ksInt k16).length)) (A (A (A (dInt.rows k16) (dInt.ixr hx20)) (rfl:(ksInt k16).length=(ksInt k16).length)) T)) [(54,dE (x20>3))] ?_
     refine .jP h1 (fun hc26 h1=>?_) (fun hc26 h1=>?_)
     ·refine .a [] T [(4,bE false)] ?_
      cases h1
      cases hw1 _ rfl
      exact .rt hK
     ·refine .a [.v ((i17+1:Nat):Int)] (A (wn (i:=i17) (by omega)) T) [(8,iE ((i17+1:Nat):Int))] ?_
      cases h1
      exact .nL rfl (i17+1) _ hd22 hd22l (hn1 _ rfl) [] (by kernel_rfl)
    ·subst hc25
     have h0:=forI_nil h0
     refine .a [.v (k3.length:Int)] (A (dForm.len' k3) T) [(4,dE ((k3.length:Int)≤20))] ?_
     cases h0
     exact .rt hK
 ·obtain⟨k27,hk27,h1⟩:=bnd h1
  by_cases g28:(!k27)=true
  ·have h1:=iteP g28 h1
   refine .a (.call [] (bE k27) []::(rb 8 true [])) (A (w_sp_FormValid n _ hk27) (R 4 g28 (R 4 B1 T))) [(21,bE true)] ?_
   cases h1
   exact .lg hj1 []
  ·have h1:=iteN g28 h1
   obtain⟨k29,hk29,h1⟩:=bnd h1
   by_cases g30:(!k29)=true
   ·have h1:=iteP g30 h1
    refine .a (.call [] (bE k27) []::(.b false::(.b false::(.call [] (bE k29) []::(.b false::(.b false::(rb 4 true []))))))) (A (w_sp_FormValid n _ hk27) (A (Bool.eq_false_iff.2 g28) (A (A (Bool.eq_false_iff.2 g28) (w_sp_l4Literals n _ hk29)) (R 2 (Bool.eq_false_iff.2 g28) (R 4 g30 T))))) [(21,bE true)] ?_
    cases h1
    exact .lg hj1 []
   ·have h1:=iteN g30 h1
    obtain⟨k31,hk31,h1⟩:=bnd h1
    refine .a (.call [] (bE k27) []::(.b false::(.b false::(.call [] (bE k29) []::(rb 4 false [.call [] (bE k31) [],.b false,.b false]))))) (A (w_sp_FormValid n _ hk27) (A (Bool.eq_false_iff.2 g28) (A (A (Bool.eq_false_iff.2 g28) (w_sp_l4Literals n _ hk29)) (R 2 (Bool.eq_false_iff.2 g28) (A (Bool.eq_false_iff.2 g30) (A (A (Bool.eq_false_iff.2 g30) (w_sp_l4Shape n _ hk31)) (R 2 (Bool.eq_false_iff.2 g30) T))))))) [(21,bE (!k31))] ?_
    cases h1
    exact .lg hj1 []
def sp_l4Find (n:Nat) (a0:List Hit) (a1:Form):Option (Int):=
 seqS (forI (fun(s2:Unit) (i1:Nat) (x4:Hit)=>((sp_FormSame n x4.name a1).bind fun k10=>(if k10=true then some (Sum.inl (i1:Int)) else some (Sum.inr ())):Option (Int⊕Unit))) 0 a0 ()) (fun(s2:Unit)=>some (-1))
theorem w_sp_l4Find (n:Nat):∀(a0:List Hit) (a1:Form) {r:Int},sp_l4Find n a0 a1=some r→SCall X.E 316 [lE 12 (ksHit a0),aE (kForm a1)] [] (iE r) []:=by
 intro a0 a1 r h0
 rw[sp_l4Find] at h0
 refine .n Tryz.func316 (fun L ks low K hl hL hlen hK=>?_)
 refine .af [] T [(3,pw 3)] [.o 3 (.cells ((kForm a1).map .d))] ?_
 refine .a [] T [(5,iE 0)] ?_
 refine .lI h0 rfl [0,3] (fun i1 s2=>[(5,iE (i1:Int))]) n2 n2 [] (by kernel_rfl) (fun i1 s2 q3 hd5 hi7 h0=>?_)
 refine .a [.v (a0.length:Int)] (A (dHit.len' a0) T) [(9,dE ((i1:Int)<(a0.length:Int)))] ?_
 refine .sn 0 dHit a0 (by kernel_rfl) (fun hb8=>?_)
 refine .lc hd5 rfl (by kernel_rfl) (fun x4 q32 hc9 hx4 hd6 hd6l=>?_) (fun hc9=>?_)
 ·subst hc9
  obtain⟨y1,h1,hw1,hn1⟩:=forI_cons h0
  obtain⟨k10,hk10,h1⟩:=bnd h1
  refine .ad mixed [(2,[.cs (kHit x4)]),(6,[.call [] (bE k10) []])] [] (A (dHit.idn hx4) (A (w_sp_FormSame n _ _ hk10) T)) [(18,bE k10)] [] [] ?_
  refine .jT h1 (fun hc11 h1=>?_) (fun hc11 h1=>?_)
  ·refine .a [] T [(4,iE (i1:Int))] ?_
   cases h1
   cases hw1 _ rfl
   exact .rt hK
  ·refine .a [.v ((i1+1:Nat):Int)] (A (wn (i:=i1) (by omega)) T) [(5,iE ((i1+1:Nat):Int))] ?_
   cases h1
   exact .nL rfl (i1+1) _ hd6 hd6l (hn1 _ rfl) [] (by kernel_rfl)
 ·subst hc9
  have h0:=forI_nil h0
  refine .a [] T [(4,iE (-1))] ?_
  cases h0
  exact .rt hK
def sp_l5Depth (n:Nat) (a0:List Hit) (a1:Form):Option (Int):=
 (if ¬a1.kind=1 then some (-1) else(sp_l4Find n a0 a1).bind fun k2=>(if k2<0 then some (-1) else(atI a0 k2).bind fun e4=>some e4.depth))
theorem w_sp_l5Depth (n:Nat):∀(a0:List Hit) (a1:Form) {r:Int},sp_l5Depth n a0 a1=some r→SCall X.E 329 [lE 12 (ksHit a0),aE (kForm a1)] [] (iE r) []:=by
 intro a0 a1 r h0
 rw[sp_l5Depth] at h0
 refine .n Tryz.func329 (fun L ks low K hl hL hlen hK=>?_)
 refine .af [] T [(3,pw 3)] [.o 3 (.cells ((kForm a1).map .d))] ?_
 refine .a [] T [(8,dE (¬a1.kind=1))] ?_
 refine .jP h0 (fun hc1 h0=>?_) (fun hc1 h0=>?_)
 ·refine .a [] T [(4,iE (-1))] ?_
  cases h0
  exact .rt hK
 ·obtain⟨k2,hk2,h0⟩:=bnd h0
  refine .a [.call [] (iE k2) []] (A (w_sp_l4Find n _ _ hk2) T) [(5,iE k2)] ?_
  refine .a [] T [(13,dE (k2<0))] ?_
  refine .jP h0 (fun hc3 h0=>?_) (fun hc3 h0=>?_)
  ·refine .a [] T [(4,iE (-1))] ?_
   cases h0
   exact .rt hK
  ·obtain⟨e4,he4,h0⟩:=bnd h0
   refine .a [.cs (kHit e4)] (A (dHit.idx he4) T) [(4,iE e4.depth)] ?_
   cases h0
   exact .rt hK
def sp_l5Less (n:Nat) (a0:List Hit):Option (List Hit):=
 Option.bind (forL (fun(s2:List Hit) (i1:Nat) (x4:Hit)=>Option.bind ((if x4.depth>0 then some (w64 (x4.depth-1)) else some x4.depth):Option (Int)) (fun(o10:Int)=>(apB 192 s2 [(⟨x4.name,o10,x4.one,[]⟩:Hit)]).bind fun z11=>some z11)) 0 a0 []) (fun(s2:List Hit)=>some s2)
theorem w_sp_l5Less (n:Nat):∀(a0:List Hit) {r:List Hit},sp_l5Less n a0=some r→SCall X.E 331 [lE 12 (ksHit a0)] [] (lE 12 (ksHit r)) []:=by
 intro a0 r h0
 rw[sp_l5Less] at h0
 refine .n Tryz.func331 (fun L ks low K hl hL hlen hK=>?_)
 refine .a [] T [] ?_
 refine .a [.sv (ksHit [])] (A (dHit.lit []) T) [(3,fE 12 (ksHit []))] ?_
 refine .a [] T [(4,iE 0)] ?_
 refine .ow 3 100039 309 [0,4] rfl rfl (by kernel_rfl) ?_
 refine .lL h0 rfl [0] (fun i1 s2=>[(3,.gs (.own 100039) 12 (ksHit s2)),(4,iE (i1:Int))]) (fun i1 s2=>[.o 100039 (.tok (ksHit s2).length 309)]) n2 [] (by kernel_rfl) (fun i1 s2 q3 hd5 hi7 h0=>?_)
 refine .a [.v (a0.length:Int)] (A (dHit.len' a0) T) [(10,dE ((i1:Int)<(a0.length:Int)))] ?_
 refine .sn 0 dHit a0 (by kernel_rfl) (fun hb8=>?_)
 refine .lc hd5 rfl (by kernel_rfl) (fun x4 q32 hc9 hx4 hd6 hd6l=>?_) (fun hc9=>?_)
 ·subst hc9
  obtain⟨y1,h1,hn1⟩:=forL_cons h0
  refine .ad mixed [(2,[.cs (kHit x4)]),(7,[.cs (kHit x4)]),(12,[.cs (kHit x4)])] [] (R 3 (dHit.idn hx4) T) [(5,pw 5)] [.o 5 (.cells [iE x4.name.kind,sE x4.name.name,iE x4.name.n,lE 1 (ksInt x4.name.scopes),lE 5 (ksForm x4.name.kids),iE x4.depth,iE x4.one.kind,sE x4.one.name,iE x4.one.n,lE 1 (ksInt x4.one.scopes),lE 5 (ksForm x4.one.kids),fE 12 (ksHit [])])] [] ?_
  refine .a [] T [(31,dE (x4.depth>0))] ?_
  refine .bP h1 rfl [0,3,4,5] (fun o10=>[]) (fun o10=>[.c 5 5 (iE o10)]) n1 (fun o10 h1=>?_) (fun y2 h2 hj2=>?_)
  ·obtain⟨z11,hz11,h1⟩:=bnd h1
   refine .aq [.sv (ksHit [(⟨x4.name,o10,x4.one,[]⟩:Hit)]),.sv (ksHit z11)] [((ksHit s2).length:Int)] (A (dHit.lit [(⟨x4.name,o10,x4.one,[]⟩:Hit)]) (A (dHit.ap hz11) T)) [(3,.gs (.own 100039) 12 (ksHit z11))] [.o 100039 (.tok (ksHit z11).length 309)] [] ?_
   refine .a [.v ((i1+1:Nat):Int)] (A (wn (i:=i1) (by omega)) T) [(4,iE ((i1+1:Nat):Int))] ?_
   cases h1
   refine .kp [0,3,4] [] ?_
   refine .dr 5 (by kernel_rfl) ?_
   exact .nL rfl (i1+1) _ hd6 hd6l hn1 [] (by kernel_rfl)
  ·refine .jP h2 (fun hc12 h2=>?_) (fun hc12 h2=>?_)
   ·refine .af [.pl] T [] [.c 5 5 (iE (w64 (x4.depth-1)))] ?_
    cases h2
    exact .lg hj2 []
   ·cases h2
    exact .lg hj2 []
 ·subst hc9
  have h0:=forL_nil h0
  refine .a [] T [(2,.gs (.own 100039) 12 (ksHit s2))] ?_
  cases h0
  exact .rt hK
def sp_l5Rows:Nat→(List Hit)→Form→Option (Bool)
 | 0,_,_=>none
 | n+1,a0,a1=>(sp_l5Depth n a0 a1).bind fun k1=>(if k1>0 then some true else seqS (forI (fun(s4:Unit) (i3:Nat) (x6:Form)=>((sp_l5Rows n a0 x6).bind fun k12=>(if k12=true then some (Sum.inl true) else some (Sum.inr ())):Option (Bool⊕Unit))) 0 a1.kids ()) (fun(s4:Unit)=>some false))
theorem w_sp_l5Rows (n:Nat):∀(a0:List Hit) (a1:Form) {r:Bool},sp_l5Rows n a0 a1=some r→SCall X.E 330 [lE 12 (ksHit a0),aE (kForm a1)] [] (bE r) []:=by
 induction n with
 | zero=>intro a0 a1 r h; cases h
 | succ n ih=>
  intro a0 a1 r h0
  rw[sp_l5Rows] at h0
  refine .n Tryz.func330 (fun L ks low K hl hL hlen hK=>?_)
  refine .af [] T [(3,pw 3)] [.o 3 (.cells ((kForm a1).map .d))] ?_
  obtain⟨k1,hk1,h0⟩:=bnd h0
  refine .a [.call [] (iE k1) []] (A (w_sp_l5Depth n _ _ hk1) T) [(9,dE (k1>0))] ?_
  refine .jP h0 (fun hc2 h0=>?_) (fun hc2 h0=>?_)
  ·refine .a [] T [(4,bE true)] ?_
   cases h0
   exact .rt hK
  ·refine .a [] T [(5,iE 0)] ?_
   refine .lI h0 rfl [0,3] (fun i3 s4=>[(5,iE (i3:Int))]) n2 n2 [] (by kernel_rfl) (fun i3 s4 q5 hd7 hi9 h0=>?_)
   refine .a [.v (a1.kids.length:Int)] (A (dForm.len' a1.kids) T) [(12,lE 5 (ksForm a1.kids)),(14,dE ((i3:Int)<(a1.kids.length:Int)))] ?_
   refine .sn 12 dForm a1.kids (by kernel_rfl) (fun hb10=>?_)
   refine .lc hd7 rfl (by kernel_rfl) (fun x6 q52 hc11 hx6 hd8 hd8l=>?_) (fun hc11=>?_)
   ·subst hc11
    obtain⟨y1,h1,hw1,hn1⟩:=forI_cons h0
    obtain⟨k12,hk12,h1⟩:=bnd h1
    refine .a [.cs (kForm x6),.call [] (bE k12) []] (A (dForm.idn hx6) (A (ih _ _ hk12) T)) [(23,bE k12)] ?_
    refine .jT h1 (fun hc13 h1=>?_) (fun hc13 h1=>?_)
    ·refine .a [] T [(4,bE true)] ?_
     cases h1
     cases hw1 _ rfl
     exact .rt hK
    ·refine .a [.v ((i3+1:Nat):Int)] (A (wn (i:=i3) (by omega)) T) [(5,iE ((i3+1:Nat):Int))] ?_
     cases h1
     exact .nL rfl (i3+1) _ hd8 hd8l (hn1 _ rfl) [] (by kernel_rfl)
   ·subst hc11
    have h0:=forI_nil h0
    refine .a [] T [(4,bE false)] ?_
    cases h0
    exact .rt hK
def sp_l5Is:Nat→Form→(List Hit)→Option (Bool)
 | 0,_,_=>none
 | n+1,a0,a1=>Option.bind ((sp_l4Dots n a0).bind fun k33=>(if k33=true then some true else(sp_l5Depth n a1 a0).bind fun k35=>some (decide (k35>0))):Option (Bool)) (fun(o1:Bool)=>(if o1=true then some false else seqS (forI (fun(s4:Unit) (i3:Nat) (x6:Form)=>(seqS ((sp_l4Dots n x6).bind fun k13=>(if k13=true then Option.bind ((if(i3:Int)=0 then some true else(atI a0.kids (w64 ((i3:Int)-1))).bind fun e18=>(sp_l4Dots n e18).bind fun k19=>some k19):Option (Bool)) (fun(o15:Bool)=>(if o15=true then some (Sum.inl (Sum.inl false)) else some (Sum.inr ()))) else Option.bind ((if((i3+1:Nat):Int)<(a0.kids.length:Int) then(atI a0.kids ((i3+1:Nat):Int)).bind fun e31=>(sp_l4Dots n e31).bind fun k32=>some k32 else some false):Option (Bool)) (fun(o20:Bool)=>(if o20=true then Option.bind ((sp_l5Rows n a1 x6).bind fun k24=>(if(!k24)=true then some true else(sp_l5Less n a1).bind fun k26=>(sp_l5Is n x6 k26).bind fun k27=>some (!k27)):Option (Bool)) (fun(o22:Bool)=>(if o22=true then some (Sum.inl (Sum.inl false)) else some (Sum.inr ()))) else(sp_l5Is n x6 a1).bind fun k28=>(if(!k28)=true then some (Sum.inl (Sum.inl false)) else some (Sum.inr ()))))):Option ((Bool⊕Unit)⊕Unit)) (fun(o12:Unit)=>some (Sum.inr ())):Option (Bool⊕Unit))) 0 a0.kids ()) (fun(s4:Unit)=>some true)))
theorem w_sp_l5Is (n:Nat):∀(a0:Form) (a1:List Hit) {r:Bool},sp_l5Is n a0 a1=some r→SCall X.E 321 [aE (kForm a0),lE 12 (ksHit a1)] [] (bE r) []:=by
 induction n with
 | zero=>intro a0 a1 r h; cases h
 | succ n ih=>
  intro a0 a1 r h0
  rw[sp_l5Is] at h0
  refine .n Tryz.func321 (fun L ks low K hl hL hlen hK=>?_)
  refine .af [] T [(2,pw 2)] [.o 2 (.cells ((kForm a0).map .d))] ?_
  refine .bP h0 rfl [1,2] (fun o1=>[(13,bE o1)]) n1 n1 (fun o1 h0=>?_) (fun y1 h1 hj1=>?_)
  ·refine .jT h0 (fun hc2 h0=>?_) (fun hc2 h0=>?_)
   ·refine .a [] T [(4,bE false)] ?_
    cases h0
    exact .rt hK
   ·refine .a [] T [(5,iE 0)] ?_
    refine .lI h0 rfl [1,2] (fun i3 s4=>[(5,iE (i3:Int))]) n2 n2 [] (by kernel_rfl) (fun i3 s4 q5 hd7 hi9 h0=>?_)
    refine .a [.v (a0.kids.length:Int)] (A (dForm.len' a0.kids) T) [(16,lE 5 (ksForm a0.kids)),(18,dE ((i3:Int)<(a0.kids.length:Int)))] ?_
    refine .sn 16 dForm a0.kids (by kernel_rfl) (fun hb10=>?_)
    refine .lc hd7 rfl (by kernel_rfl) (fun x6 q52 hc11 hx6 hd8 hd8l=>?_) (fun hc11=>?_)
    ·subst hc11
     obtain⟨y1,h1,hw1,hn1⟩:=forI_cons h0
     refine .bSB h1 rfl [1,2,5] (fun o12=>[]) n1 n1 (fun o12 h1=>?_) (fun y2 h2 hj2 hw2=>?_)
     ·refine .a [.v ((i3+1:Nat):Int)] (A (wn (i:=i3) (by omega)) T) [(5,iE ((i3+1:Nat):Int))] ?_
      cases h1
      exact .nL rfl (i3+1) _ hd8 hd8l (hn1 _ rfl) [] (by kernel_rfl)
     ·obtain⟨k13,hk13,h2⟩:=bnd h2
      refine .a [.cs (kForm x6),.call [] (bE k13) []] (A (dForm.idn hx6) (A (w_sp_l4Dots n _ hk13) T)) [(26,bE k13)] ?_
      refine .jT h2 (fun hc14 h2=>?_) (fun hc14 h2=>?_)
      ·refine .bP h2 rfl [1,2,5] (fun o15=>[(37,bE o15)]) n1 n1 (fun o15 h2=>?_) (fun y3 h3 hj3=>?_)
       ·refine .jT h2 (fun hc16 h2=>?_) (fun hc16 h2=>?_)
        ·refine .a [] T [(4,bE false)] ?_
         cases h2
         cases hw2 _ rfl
         cases hw1 _ rfl
         exact .rt hK
        ·cases h2
         exact .lg (hj2 _ rfl) []
       ·by_cases g17:(i3:Int)=0
        ·have h3:=iteP g17 h3
         refine .a (rb 8 true []) (R 8 (dt g17) T) [(37,bE true)] ?_
         cases h3
         exact .lg hj3 []
        ·have h3:=iteN g17 h3
         obtain⟨e18,he18,h3⟩:=bnd h3
         obtain⟨k19,hk19,h3⟩:=bnd h3
         refine .a (rb 4 false [.pl,.b false,.cs (kForm e18),.b false,.b false,.call [] (bE k19) [],.b false]) (R 4 (df g17) (A (A (df g17) (dForm.idx he18)) (A (df g17) (A (A (df g17) (w_sp_l4Dots n _ hk19)) (A (df g17) T))))) [(37,bE k19)] ?_
         cases h3
         exact .lg hj3 []
      ·refine .bP h2 rfl [1,2,5] (fun o20=>[(52,bE o20)]) n1 n1 (fun o20 h2=>?_) (fun y3 h3 hj3=>?_)
       ·refine .jT h2 (fun hc21 h2=>?_) (fun hc21 h2=>?_)
        ·refine .bP h2 rfl [1,2,5] (fun o22=>[(71,bE o22)]) n1 n1 (fun o22 h2=>?_) (fun y3 h3 hj3=>?_)
         ·refine .jT h2 (fun hc23 h2=>?_) (fun hc23 h2=>?_)
          ·refine .a [] T [(4,bE false)] ?_
           cases h2
           cases hw2 _ rfl
           cases hw1 _ rfl
           exact .rt hK
          ·cases h2
           exact .lg (hj2 _ rfl) []
         ·obtain⟨k24,hk24,h3⟩:=bnd h3
          by_cases g25:(!k24)=true
          ·have h3:=iteP g25 h3
           refine .ad mixed ((4,[.cs (kForm x6)])::((6,[.call [] (bE k24) []])::(qb 9 10 true []))) [] (A (dForm.idn hx6) (A (w_sp_l5Rows n _ _ hk24) (R 10 g25 T))) [(71,bE true)] [] [] ?_
           cases h3
           exact .lg hj3 []
          ·have h3:=iteN g25 h3
           obtain⟨k26,hk26,h3⟩:=bnd h3
           obtain⟨k27,hk27,h3⟩:=bnd h3
           refine .ad mixed ((4,[.cs (kForm x6)])::((6,[.call [] (bE k24) []])::(qb 9 3 false ((12,[.b false,.cs (kForm x6)])::(qb 13 2 false ((15,[.b false,.call [] (lE 12 (ksHit k26)) []])::((16,[.b false,.call [] (bE k27) []])::(qb 17 2 false [])))))))) [] (A (dForm.idn hx6) (A (w_sp_l5Rows n _ _ hk24) (R 3 (Bool.eq_false_iff.2 g25) (A (A (Bool.eq_false_iff.2 g25) (dForm.idn hx6)) (R 2 (Bool.eq_false_iff.2 g25) (A (A (Bool.eq_false_iff.2 g25) (w_sp_l5Less n _ hk26)) (A (A (Bool.eq_false_iff.2 g25) (ih _ _ hk27)) (R 2 (Bool.eq_false_iff.2 g25) T)))))))) [(71,bE (!k27))] [] [] ?_
           cases h3
           exact .lg hj3 []
        ·obtain⟨k28,hk28,h2⟩:=bnd h2
         refine .a [.cs (kForm x6),.call [] (bE k28) []] (A (dForm.idn hx6) (A (ih _ _ hk28) T)) [(79,bE (!k28))] ?_
         refine .jT h2 (fun hc29 h2=>?_) (fun hc29 h2=>?_)
         ·refine .a [] T [(4,bE false)] ?_
          cases h2
          cases hw2 _ rfl
          cases hw1 _ rfl
          exact .rt hK
         ·cases h2
          exact .lg (hj2 _ rfl) []
       ·by_cases g30:((i3+1:Nat):Int)<(a0.kids.length:Int)
        ·have h3:=iteP g30 h3
         obtain⟨e31,he31,h3⟩:=bnd h3
         obtain⟨k32,hk32,h3⟩:=bnd h3
         refine .a (.v ((i3+1:Nat):Int)::(.v (a0.kids.length:Int)::(rb 4 true [.v ((i3+1:Nat):Int),.b true,.cs (kForm e31),.b true,.b true,.call [] (bE k32) [],.b true]))) (A (wn (i:=i3) (by omega)) (A (dForm.len' a0.kids) (R 3 (dt g30) (A (A (dt g30) (wn (i:=i3) (by omega))) (A (A (dt g30) (dForm.idx he31)) (A (dt g30) (A (A (dt g30) (w_sp_l4Dots n _ hk32)) (A (dt g30) T)))))))) [(52,bE k32)] ?_
         cases h3
         exact .lg hj3 []
        ·have h3:=iteN g30 h3
         refine .a (.v ((i3+1:Nat):Int)::(.v (a0.kids.length:Int)::(rb 8 false []))) (A (wn (i:=i3) (by omega)) (A (dForm.len' a0.kids) (R 8 (df g30) T))) [(52,bE false)] ?_
         cases h3
         exact .lg hj3 []
    ·subst hc11
     have h0:=forI_nil h0
     refine .a [] T [(4,bE true)] ?_
     cases h0
     exact .rt hK
  ·obtain⟨k33,hk33,h1⟩:=bnd h1
   by_cases g34:k33=true
   ·have h1:=iteP g34 h1
    refine .a (.call [] (bE k33) []::(rb 5 true [])) (A (w_sp_l4Dots n _ hk33) (R 5 g34 T)) [(13,bE true)] ?_
    cases h1
    exact .lg hj1 []
   ·have h1:=iteN g34 h1
    obtain⟨k35,hk35,h1⟩:=bnd h1
    refine .a (.call [] (bE k33) []::(rb 3 false [.call [] (iE k35) [],.b false,.b false])) (A (w_sp_l4Dots n _ hk33) (R 2 (Bool.eq_false_iff.2 g34) (A (A (Bool.eq_false_iff.2 g34) (w_sp_l5Depth n _ _ hk35)) (R 2 (Bool.eq_false_iff.2 g34) T)))) [(13,dE (k35>0))] ?_
    cases h1
    exact .lg hj1 []
def sp_l5Shape (n:Nat) (a0:Form) (a1:List Form):Option (List Hit):=
 (sp_l4Vars n [] a0 a1).bind fun k1=>(sp_l4Depths n [] a0 a1 0).bind fun k2=>Option.bind (forL (fun(s4:List Hit) (i3:Nat) (x6:Form)=>(inB (i3:Int) k2.length).bind fun u12=>(k2[i3]?).bind fun e13=>Option.bind ((if e13=0 then some (x6.kind,x6.name,x6.n,x6.scopes,x6.kids) else some (0,[],0,[],[])):Option (Int×(List UInt8)×Int×(List Int)×(List Form))) (fun(o14:Int×(List UInt8)×Int×(List Int)×(List Form))=>(apB 192 s4 [(⟨x6,e13,(⟨o14.1,o14.2.1,o14.2.2.1,o14.2.2.2.1,o14.2.2.2.2⟩:Form),[]⟩:Hit)]).bind fun z15=>some z15)) 0 k1 []) (fun(s4:List Hit)=>some s4)
theorem w_sp_l5Shape (n:Nat):∀(a0:Form) (a1:List Form) {r:List Hit},sp_l5Shape n a0 a1=some r→SCall X.E 322 [aE (kForm a0),lE 5 (ksForm a1)] [] (lE 12 (ksHit r)) []:=by
 intro a0 a1 r h0
 rw[sp_l5Shape] at h0
 refine .n Tryz.func322 (fun L ks low K hl hL hlen hK=>?_)
 refine .af [] T [(2,pw 2)] [.o 2 (.cells ((kForm a0).map .d))] ?_
 refine .a [.sv (ksHit [])] (A (dHit.lit []) T) [(5,fE 12 (ksHit []))] ?_
 obtain⟨k1,hk1,h0⟩:=bnd h0
 refine .af [.gv 11,.sv (ksForm []),.call [.own 100011] (.vs (.low 0) 5 ((ksForm k1).length)) [.vec 32 5 (ksForm k1)]] (A (dForm.lit []) (A (w_sp_l4Vars n _ _ _ hk1) T)) [(6,.vs (.own 100011) 5 ((ksForm k1).length))] [.o 100011 (.vec 32 5 (ksForm k1))] ?_
 obtain⟨k2,hk2,h0⟩:=bnd h0
 refine .af [.gv 15,.sv (ksInt []),.call [.own 100015] (.vs (.low 0) 1 ((ksInt k2).length)) [.vec 3 1 (ksInt k2)]] (A (dInt.lit []) (A (w_sp_l4Depths n _ _ _ _ hk2) T)) [(7,.vs (.own 100015) 1 ((ksInt k2).length))] [.o 100015 (.vec 3 1 (ksInt k2))] ?_
 refine .a [] T [(8,iE 0)] ?_
 refine .ow 5 100045 309 [6,7,8] rfl rfl (by kernel_rfl) ?_
 refine .lL h0 rfl [6,7] (fun i3 s4=>[(5,.gs (.own 100045) 12 (ksHit s4)),(8,iE (i3:Int))]) (fun i3 s4=>[.o 100045 (.tok (ksHit s4).length 309)]) n2 [] (by kernel_rfl) (fun i3 s4 q5 hd7 hi9 h0=>?_)
 refine .a [.v (k1.length:Int)] (A (dForm.len' k1) T) [(22,dE ((i3:Int)<(k1.length:Int)))] ?_
 refine .snV 6 dForm k1 (by kernel_rfl) (fun hb10=>?_)
 refine .lc hd7 rfl (by kernel_rfl) (fun x6 q52 hc11 hx6 hd8 hd8l=>?_) (fun hc11=>?_)
 ·subst hc11
  obtain⟨y1,h1,hn1⟩:=forL_cons h0
  obtain⟨u12,hu12,h1⟩:=bnd h1
  obtain⟨e13,he13,h1⟩:=bnd h1
  refine .ad mixed [(3,[.cs (kForm x6)]),(7,[.cs [.v (.int .i64 e13)]])] [] (A (A (dForm.inv (inB_of hx6) (rfl:(ksForm k1).length=(ksForm k1).length)) (rfl:(ksForm k1).length=(ksForm k1).length)) (A (A (A (dForm.rows k1) (dForm.ixr hx6)) (rfl:(ksForm k1).length=(ksForm k1).length)) (A (A (dInt.inv hu12 (rfl:(ksInt k2).length=(ksInt k2).length)) (rfl:(ksInt k2).length=(ksInt k2).length)) (A (A (A (dInt.rows k2) (dInt.ixr he13)) (rfl:(ksInt k2).length=(ksInt k2).length)) T)))) [(9,pw 9)] [.o 9 (.cells [iE x6.kind,sE x6.name,iE x6.n,lE 1 (ksInt x6.scopes),lE 5 (ksForm x6.kids),iE e13,iE 0,sE [],iE 0,fE 1 (ksInt []),fE 5 (ksForm []),fE 12 (ksHit [])])] [] ?_
  refine .a [] T [(36,dE (e13=0))] ?_
  refine .bP h1 rfl [5,6,7,8,9] (fun o14=>[]) (fun o14=>[.c 9 6 (iE o14.1),.c 9 7 (sE o14.2.1),.c 9 8 (iE o14.2.2.1),.c 9 9 (lE 1 (ksInt o14.2.2.2.1)),.c 9 10 (lE 5 (ksForm o14.2.2.2.2))]) n1 (fun o14 h1=>?_) (fun y2 h2 hj2=>?_)
  ·obtain⟨z15,hz15,h1⟩:=bnd h1
   refine .aq [.sv (ksHit [(⟨x6,e13,(⟨o14.1,o14.2.1,o14.2.2.1,o14.2.2.2.1,o14.2.2.2.2⟩:Form),[]⟩:Hit)]),.sv (ksHit z15)] [((ksHit s4).length:Int)] (A (dHit.lit [(⟨x6,e13,(⟨o14.1,o14.2.1,o14.2.2.1,o14.2.2.2.1,o14.2.2.2.2⟩:Form),[]⟩:Hit)]) (A (dHit.ap hz15) T)) [(5,.gs (.own 100045) 12 (ksHit z15))] [.o 100045 (.tok (ksHit z15).length 309)] [] ?_
   refine .a [.v ((i3+1:Nat):Int)] (A (wn (i:=i3) (by omega)) T) [(8,iE ((i3+1:Nat):Int))] ?_
   cases h1
   refine .kp [5,6,7,8] [] ?_
   refine .dr 9 (by kernel_rfl) ?_
   exact .nL rfl (i3+1) _ hd8 hd8l hn1 [] (by kernel_rfl)
  ·refine .jP h2 (fun hc16 h2=>?_) (fun hc16 h2=>?_)
   ·refine .af [.cs (kForm x6)] (A (A (dForm.inv (inB_of hx6) (rfl:(ksForm k1).length=(ksForm k1).length)) (rfl:(ksForm k1).length=(ksForm k1).length)) (A (A (A (dForm.rows k1) (dForm.ixr hx6)) (rfl:(ksForm k1).length=(ksForm k1).length)) T)) [] [.c 9 6 (iE x6.kind),.c 9 7 (sE x6.name),.c 9 8 (iE x6.n),.c 9 9 (lE 1 (ksInt x6.scopes)),.c 9 10 (lE 5 (ksForm x6.kids))] ?_
    cases h2
    exact .lg hj2 []
   ·cases h2
    refine .fg 9 [9,10] ?_
    exact .lg hj2 []
 ·subst hc11
  have h0:=forL_nil h0
  refine .a [] T [(4,.gs (.own 100045) 12 (ksHit s4))] ?_
  cases h0
  exact .rt hK
def sp_l5Rule (n:Nat) (a0:Rule) (a1:List Form):Option (Bool):=
 Option.bind ((sp_l4Is n a0.pattern a1).bind fun k2=>(if k2=true then(if a0.pattern.kind=3 then(if(a0.pattern.kids.length:Int)>0 then(sp_FormValid n a0.template).bind fun k6=>(if k6=true then(sp_l5Shape n a0.pattern a1).bind fun k8=>(sp_l5Is n a0.template k8).bind fun k9=>some k9 else some false) else some false) else some false) else some false):Option (Bool)) (fun(o1:Bool)=>some o1)
theorem w_sp_l5Rule (n:Nat):∀(a0:Rule) (a1:List Form) {r:Bool},sp_l5Rule n a0 a1=some r→SCall X.E 310 [aE (kRule a0),lE 5 (ksForm a1)] [] (bE r) []:=by
 intro a0 a1 r h0
 rw[sp_l5Rule] at h0
 refine .n Tryz.func310 (fun L ks low K hl hL hlen hK=>?_)
 refine .af [] T [(2,pw 2)] [.o 2 (.cells ((kRule a0).map .d))] ?_
 refine .bP h0 rfl [] (fun o1=>[(4,bE o1)]) n1 n1 (fun o1 h0=>?_) (fun y1 h1 hj1=>?_)
 ·cases h0
  exact .rt hK
 ·obtain⟨k2,hk2,h1⟩:=bnd h1
  by_cases g3:k2=true
  ·have h1:=iteP g3 h1
   by_cases g4:a0.pattern.kind=3
   ·have h1:=iteP g4 h1
    by_cases g5:(a0.pattern.kids.length:Int)>0
    ·have h1:=iteP g5 h1
     obtain⟨k6,hk6,h1⟩:=bnd h1
     by_cases g7:k6=true
     ·have h1:=iteP g7 h1
      obtain⟨k8,hk8,h1⟩:=bnd h1
      obtain⟨k9,hk9,h1⟩:=bnd h1
      refine .ad mixed ((3,[.call [] (bE k2) []])::(qb 5 5 true (qb 11 3 true ((14,[.b true,.v (a0.pattern.kids.length:Int)])::(qb 15 2 true (qb 18 2 true ((20,[.b true,.call [] (bE k6) []])::((21,[.b true])::(qb 23 5 true [(28,[.b true,.call [] (lE 12 (ksHit k8)) []]),(29,[.b true,.call [] (bE k9) []]),(30,[.b true])]))))))))) [] (A (w_sp_l4Is n _ _ hk2) (R 5 g3 (R 3 (dt g4) (A (A (dt g4) (dForm.len' a0.pattern.kids)) (R 2 (dt g4) (R 2 (dt g5) (A (A (dt g5) (w_sp_FormValid n _ hk6)) (A (dt g5) (R 5 g7 (A (A g7 (w_sp_l5Shape n _ _ hk8)) (A (A g7 (w_sp_l5Is n _ _ hk9)) (A g7 T)))))))))))) [(4,bE k9)] [] [] ?_
      cases h1
      exact .lg hj1 []
     ·have h1:=iteN g7 h1
      refine .ad mixed ((3,[.call [] (bE k2) []])::(qb 5 5 true (qb 11 3 true ((14,[.b true,.v (a0.pattern.kids.length:Int)])::(qb 15 2 true (qb 18 2 true ((20,[.b true,.call [] (bE k6) []])::((21,[.b true])::(qb 23 8 false []))))))))) [] (A (w_sp_l4Is n _ _ hk2) (R 5 g3 (R 3 (dt g4) (A (A (dt g4) (dForm.len' a0.pattern.kids)) (R 2 (dt g4) (R 2 (dt g5) (A (A (dt g5) (w_sp_FormValid n _ hk6)) (A (dt g5) (R 8 (Bool.eq_false_iff.2 g7) T))))))))) [(4,bE false)] [] [] ?_
      cases h1
      exact .lg hj1 []
    ·have h1:=iteN g5 h1
     refine .ad mixed ((3,[.call [] (bE k2) []])::(qb 5 5 true (qb 11 3 true ((14,[.b true,.v (a0.pattern.kids.length:Int)])::(qb 15 2 true (qb 18 4 false (qb 23 8 false []))))))) [] (A (w_sp_l4Is n _ _ hk2) (R 5 g3 (R 3 (dt g4) (A (A (dt g4) (dForm.len' a0.pattern.kids)) (R 2 (dt g4) (R 4 (df g5) (R 8 B0 T))))))) [(4,bE false)] [] [] ?_
     cases h1
     exact .lg hj1 []
   ·have h1:=iteN g4 h1
    refine .ad mixed ((3,[.call [] (bE k2) []])::(qb 5 5 true (qb 11 6 false (qb 18 4 false (qb 23 8 false []))))) [] (A (w_sp_l4Is n _ _ hk2) (R 5 g3 (R 6 (df g4) (R 12 B0 T)))) [(4,bE false)] [] [] ?_
    cases h1
    exact .lg hj1 []
  ·have h1:=iteN g3 h1
   refine .ad mixed ((3,[.call [] (bE k2) []])::(qb 5 5 false (qb 11 6 false (qb 18 4 false (qb 23 8 false []))))) [] (A (w_sp_l4Is n _ _ hk2) (R 5 (Bool.eq_false_iff.2 g3) (R 18 B0 T))) [(4,bE false)] [] [] ?_
   cases h1
   exact .lg hj1 []
def sp_l5Rules (n:Nat) (a0:List Rule) (a1:List Form):Option (Bool):=
 iterM n (fun(s1:Int)=>(Option.bind ((if s1<(a0.length:Int) then some (decide (s1<10)) else some false):Option (Bool)) (fun(o3:Bool)=>(if o3=true then(atI a0 s1).bind fun e5=>(sp_l5Rule n e5 a1).bind fun k6=>(if(!k6)=true then some (Sum.inl false) else some (Sum.inr (w64 (s1+1)))) else Option.bind ((if(a0.length:Int)<10 then(sp_l4Literals n a1).bind fun k10=>some k10 else some false):Option (Bool)) (fun(o8:Bool)=>some (Sum.inl o8)))):Option (Bool⊕Int))) 0
theorem w_sp_l5Rules (n:Nat):∀(a0:List Rule) (a1:List Form) {r:Bool},sp_l5Rules n a0 a1=some r→SCall X.E 302 [lE 10 (ksRule a0),lE 5 (ksForm a1)] [] (bE r) []:=by
 intro a0 a1 r h0
 rw[sp_l5Rules] at h0
 refine .n Tryz.func302 (fun L ks low K hl hL hlen hK=>?_)
 refine .a [] T [] ?_
 refine .a [] T [(5,iE 0)] ?_
 refine .it h0 rfl [0,1] (fun s1=>[(5,iE s1)]) n1 n1 [] (by kernel_rfl) (fun nk2 s1 h0=>?_)
 obtain⟨y1,h1,hw1,hn1⟩:=iter_cons h0
 refine .bP h1 rfl [0,1,5] (fun o3=>[(13,bE o3)]) n1 n1 (fun o3 h1=>?_) (fun y2 h2 hj2=>?_)
 ·refine .jT h1 (fun hc4 h1=>?_) (fun hc4 h1=>?_)
  ·obtain⟨e5,he5,h1⟩:=bnd h1
   obtain⟨k6,hk6,h1⟩:=bnd h1
   refine .a [.cs (kRule e5),.call [] (bE k6) []] (A (dRule.idx he5) (A (w_sp_l5Rule n _ _ hk6) T)) [(22,bE (!k6))] ?_
   refine .jT h1 (fun hc7 h1=>?_) (fun hc7 h1=>?_)
   ·refine .a [] T [(4,bE false)] ?_
    cases h1
    cases hw1 _ rfl
    exact .rt hK
   ·refine .a [.pl] T [(5,iE (w64 (s1+1)))] ?_
    cases h1
    exact .nI rfl _ (hn1 _ rfl) [] (by kernel_rfl)
  ·refine .bP h1 rfl [] (fun o8=>[(4,bE o8)]) n1 n1 (fun o8 h1=>?_) (fun y2 h2 hj2=>?_)
   ·cases h1
    cases hw1 _ rfl
    exact .rt hK
   ·by_cases g9:(a0.length:Int)<10
    ·have h2:=iteP g9 h2
     obtain⟨k10,hk10,h2⟩:=bnd h2
     refine .a [.v (a0.length:Int),.b true,.b true,.call [] (bE k10) [],.b true] (A (dRule.len' a0) (A (dt g9) (A (A (dt g9) (w_sp_l4Literals n _ hk10)) (A (dt g9) T)))) [(4,bE k10)] ?_
     cases h2
     exact .lg hj2 []
    ·have h2:=iteN g9 h2
     refine .a (.v (a0.length:Int)::(rb 3 false [])) (A (dRule.len' a0) (R 3 (df g9) T)) [(4,bE false)] ?_
     cases h2
     exact .lg hj2 []
 ·by_cases g11:s1<(a0.length:Int)
  ·have h2:=iteP g11 h2
   refine .a (.v (a0.length:Int)::(rb 3 true [])) (A (dRule.len' a0) (R 3 (dt g11) T)) [(13,dE (s1<10))] ?_
   refine .sn 0 dRule a0 (by kernel_rfl) (fun hb12=>?_)
   cases h2
   exact .lg hj2 []
  ·have h2:=iteN g11 h2
   refine .a (.v (a0.length:Int)::(rb 3 false [])) (A (dRule.len' a0) (R 3 (df g11) T)) [(13,bE false)] ?_
   refine .sn 0 dRule a0 (by kernel_rfl) (fun hb13=>?_)
   cases h2
   exact .lg hj2 []
def sp_FirstRule (n:Nat) (a0:List Bind) (a1:List Rule) (a2:List Form) (a3:Form):Option (Int×Bool):=
 Option.bind ((sp_BindsValid n a0).bind fun k14=>(if(!k14)=true then some true else(sp_l5Rules n a1 a2).bind fun k16=>(if(!k16)=true then some true else(sp_FormValid n a3).bind fun k18=>some (!k18))):Option (Bool)) (fun(o1:Bool)=>(if o1=true then some (0,false) else seqS (forI (fun(s4:Unit) (i3:Nat) (x6:Rule)=>((sp_l4Match n a0 x6.pattern a2 a3).bind fun k12=>(if k12.2=true then some (Sum.inl ((i3:Int),true)) else some (Sum.inr ())):Option ((Int×Bool)⊕Unit))) 0 a1 ()) (fun(s4:Unit)=>some (0,false))))
theorem w_sp_FirstRule (n:Nat):∀(a0:List Bind) (a1:List Rule) (a2:List Form) (a3:Form) {r:Int×Bool},sp_FirstRule n a0 a1 a2 a3=some r→SCall X.E 295 [lE 3 (ksBind a0),lE 10 (ksRule a1),lE 5 (ksForm a2),aE (kForm a3)] [] (.tup [iE r.1,bE r.2]) []:=by
 intro a0 a1 a2 a3 r h0
 rw[sp_FirstRule] at h0
 refine .n Tryz.func295 (fun L ks low K hl hL hlen hK=>?_)
 refine .af [] T [(7,pw 7)] [.o 7 (.cells ((kForm a3).map .d))] ?_
 refine .bP h0 rfl [0,1,2,7] (fun o1=>[(26,bE o1)]) n1 n1 (fun o1 h0=>?_) (fun y1 h1 hj1=>?_)
 ·refine .jT h0 (fun hc2 h0=>?_) (fun hc2 h0=>?_)
  ·refine .a [] T [(8,iE 0),(9,bE false)] ?_
   cases h0
   exact .rt hK
  ·refine .a [] T [(10,iE 0)] ?_
   refine .lI h0 rfl [0,1,2,7] (fun i3 s4=>[(10,iE (i3:Int))]) n2 n2 [] (by kernel_rfl) (fun i3 s4 q5 hd7 hi9 h0=>?_)
   refine .a [.v (a1.length:Int)] (A (dRule.len' a1) T) [(30,dE ((i3:Int)<(a1.length:Int)))] ?_
   refine .sn 1 dRule a1 (by kernel_rfl) (fun hb10=>?_)
   refine .lc hd7 rfl (by kernel_rfl) (fun x6 q52 hc11 hx6 hd8 hd8l=>?_) (fun hc11=>?_)
   ·subst hc11
    obtain⟨y1,h1,hw1,hn1⟩:=forI_cons h0
    obtain⟨k12,hk12,h1⟩:=bnd h1
    refine .ad mixed [(3,[.cs (kRule x6)]),(8,[.call [] (.tup [lE 12 (ksHit k12.1),bE k12.2]) []])] [] (A (dRule.idn hx6) (A (w_sp_l4Match n _ _ _ _ hk12) T)) [(12,bE k12.2)] [] [] ?_
    refine .a [] T [(45,bE k12.2)] ?_
    refine .jT h1 (fun hc13 h1=>?_) (fun hc13 h1=>?_)
    ·refine .a [] T [(8,iE (i3:Int)),(9,bE true)] ?_
     cases h1
     cases hw1 _ rfl
     exact .rt hK
    ·refine .a [.v ((i3+1:Nat):Int)] (A (wn (i:=i3) (by omega)) T) [(10,iE ((i3+1:Nat):Int))] ?_
     cases h1
     exact .nL rfl (i3+1) _ hd8 hd8l (hn1 _ rfl) [] (by kernel_rfl)
   ·subst hc11
    have h0:=forI_nil h0
    refine .a [] T [(8,iE 0),(9,bE false)] ?_
    cases h0
    exact .rt hK
 ·obtain⟨k14,hk14,h1⟩:=bnd h1
  by_cases g15:(!k14)=true
  ·have h1:=iteP g15 h1
   refine .a (.call [] (bE k14) []::(rb 9 true [])) (A (w_sp_BindsValid n _ hk14) (R 5 g15 (R 4 B1 T))) [(26,bE true)] ?_
   cases h1
   exact .lg hj1 []
  ·have h1:=iteN g15 h1
   obtain⟨k16,hk16,h1⟩:=bnd h1
   by_cases g17:(!k16)=true
   ·have h1:=iteP g17 h1
    refine .a (.call [] (bE k14) []::(rb 3 false (.call [] (bE k16) []::(.b false::(.b false::(rb 4 true [])))))) (A (w_sp_BindsValid n _ hk14) (R 2 (Bool.eq_false_iff.2 g15) (A (A (Bool.eq_false_iff.2 g15) (w_sp_l5Rules n _ _ hk16)) (R 2 (Bool.eq_false_iff.2 g15) (R 4 g17 T))))) [(26,bE true)] ?_
    cases h1
    exact .lg hj1 []
   ·have h1:=iteN g17 h1
    obtain⟨k18,hk18,h1⟩:=bnd h1
    refine .a (.call [] (bE k14) []::(rb 3 false (.call [] (bE k16) []::(rb 4 false [.call [] (bE k18) [],.b false,.b false])))) (A (w_sp_BindsValid n _ hk14) (R 2 (Bool.eq_false_iff.2 g15) (A (A (Bool.eq_false_iff.2 g15) (w_sp_l5Rules n _ _ hk16)) (R 2 (Bool.eq_false_iff.2 g15) (A (Bool.eq_false_iff.2 g17) (A (A (Bool.eq_false_iff.2 g17) (w_sp_FormValid n _ hk18)) (R 2 (Bool.eq_false_iff.2 g17) T))))))) [(26,bE (!k18))] ?_
    cases h1
    exact .lg hj1 []
mutual
def sp_l15OwnForm:Nat→Form→Option (Form)
 | 0,_=>none
 | n+1,a0=>(apB 8 [] a0.scopes).bind fun z1=>(sp_l15OwnListForm n a0.kids).bind fun k2=>some (⟨a0.kind,a0.name,a0.n,z1,k2⟩:Form)
def sp_l15OwnListForm:Nat→(List Form)→Option (List Form)
 | 0,_=>none
 | n+1,a0=>Option.bind (forL (fun(s3:List Form) (i2:Nat) (x5:Form)=>(sp_l15OwnForm n x5).bind fun k10=>(apB 80 s3 [k10]).bind fun z11=>some z11) 0 a0 []) (fun(s3:List Form)=>some s3)
end
theorem g_sp_l15OwnForm (n:Nat):(∀(a0:Form) {r:Form},sp_l15OwnForm n a0=some r→SCall X.E 324 [aE (kForm a0)] [] (aE (kForm r)) [])∧(∀(a0:List Form) {r:List Form},sp_l15OwnListForm n a0=some r→SCall X.E 332 [lE 5 (ksForm a0)] [] (lE 5 (ksForm r)) []):=by
 induction n with
 | zero=>exact⟨(by intros; rename_i h; cases h),(by intros; rename_i h; cases h)⟩
 | succ n ih=>
  refine⟨?_,?_⟩
  ·intro a0 r h0
   rw[sp_l15OwnForm] at h0
   refine .n Tryz.func324 (fun L ks low K hl hL hlen hK=>?_)
   refine .af [] T [(1,pw 1),(2,pw 2)] [.o 1 (.cells ((kForm a0).map .d)),.o 2 (.cells [iE 0,sE [],iE 0,fE 1 (ksInt []),fE 5 (ksForm [])])] ?_
   obtain⟨z1,hz1,h0⟩:=bnd h0
   refine .af [.sv (ksInt []),.sv (ksInt z1)] (A (dInt.lit []) (A (dInt.ap hz1) T)) [] [.c 1 3 (.gs (.own 100006) 1 (ksInt z1)),.o 100006 (.tok (ksInt z1).length 3)] ?_
   obtain⟨k2,hk2,h0⟩:=bnd h0
   refine .af [.call [] (lE 5 (ksForm k2)) []] (A (ih.2 _ hk2) T) [] [.c 1 4 (lE 5 (ksForm k2))] ?_
   refine .af [] T [] [.o 2 (.cells [iE a0.kind,sE a0.name,iE a0.n,.gs (.own 100006) 1 (ksInt z1),lE 5 (ksForm k2)])] ?_
   cases h0
   exact .rt hK
  ·intro a0 r h0
   rw[sp_l15OwnListForm] at h0
   refine .n Tryz.func332 (fun L ks low K hl hL hlen hK=>?_)
   refine .a [] T [] ?_
   refine .a [.sv (ksForm [])] (A (dForm.lit []) T) [(3,fE 5 (ksForm []))] ?_
   refine .a [.v (a0.length:Int)] (A (dForm.len' a0) T) [(7,lE 5 (ksForm a0)),(8,iE (a0.length:Int)),(9,iE 0)] ?_
   refine .sn 0 dForm a0 (by kernel_rfl) (fun hb1=>?_)
   refine .ow 3 100017 32 [7,8,9] rfl rfl (by kernel_rfl) ?_
   refine .lL h0 rfl [7,8] (fun i2 s3=>[(3,.gs (.own 100017) 5 (ksForm s3)),(9,iE (i2:Int))]) (fun i2 s3=>[.o 100017 (.tok (ksForm s3).length 32)]) n2 [] (by kernel_rfl) (fun i2 s3 q4 hd6 hi8 h0=>?_)
   refine .a [] T [(10,dE ((i2:Int)<(a0.length:Int)))] ?_
   refine .lc hd6 rfl (by kernel_rfl) (fun x5 q42 hc9 hx5 hd7 hd7l=>?_) (fun hc9=>?_)
   ·subst hc9
    obtain⟨y1,h1,hn1⟩:=forL_cons h0
    refine .af [.cs (kForm x5)] (A (dForm.idn hx5) T) [(5,pw 5)] [.o 5 (.cells ((kForm x5).map .d))] ?_
    obtain⟨k10,hk10,h1⟩:=bnd h1
    obtain⟨z11,hz11,h1⟩:=bnd h1
    refine .aq [.call [] (aE (kForm k10)) [],.sv (ksForm [k10]),.sv (ksForm z11)] [((ksForm s3).length:Int)] (A (ih.1 _ hk10) (A (dForm.lit [k10]) (A (dForm.ap hz11) T))) [(3,.gs (.own 100017) 5 (ksForm z11))] [.o 100017 (.tok (ksForm z11).length 32)] [] ?_
    refine .a [.v ((i2+1:Nat):Int)] (A (wn (i:=i2) (by omega)) T) [(9,iE ((i2+1:Nat):Int))] ?_
    cases h1
    refine .kp [3,7,8,9] [] ?_
    refine .dr 5 (by kernel_rfl) ?_
    exact .nL rfl (i2+1) _ hd7 hd7l hn1 [] (by kernel_rfl)
   ·subst hc9
    have h0:=forL_nil h0
    refine .a [] T [(2,.gs (.own 100017) 5 (ksForm s3))] ?_
    cases h0
    exact .rt hK
theorem w_sp_l15OwnForm (n:Nat):∀(a0:Form) {r:Form},sp_l15OwnForm n a0=some r→SCall X.E 324 [aE (kForm a0)] [] (aE (kForm r)) []:=(g_sp_l15OwnForm n).1
theorem w_sp_l15OwnListForm (n:Nat):∀(a0:List Form) {r:List Form},sp_l15OwnListForm n a0=some r→SCall X.E 332 [lE 5 (ksForm a0)] [] (lE 5 (ksForm r)) []:=(g_sp_l15OwnForm n).2
def sp_l15OwnRule (n:Nat) (a0:Rule):Option (Rule):=
 (sp_l15OwnForm n a0.pattern).bind fun k1=>(sp_l15OwnForm n a0.template).bind fun k2=>some (⟨k1,k2⟩:Rule)
theorem w_sp_l15OwnRule (n:Nat):∀(a0:Rule) {r:Rule},sp_l15OwnRule n a0=some r→SCall X.E 315 [aE (kRule a0)] [] (aE (kRule r)) []:=by
 intro a0 r h0
 rw[sp_l15OwnRule] at h0
 refine .n Tryz.func315 (fun L ks low K hl hL hlen hK=>?_)
 refine .af [] T [(1,pw 1),(2,pw 2)] [.o 1 (.cells ((kRule a0).map .d)),.o 2 (.cells [iE 0,sE [],iE 0,fE 1 (ksInt []),fE 5 (ksForm []),iE 0,sE [],iE 0,fE 1 (ksInt []),fE 5 (ksForm [])])] ?_
 obtain⟨k1,hk1,h0⟩:=bnd h0
 refine .af [.call [] (aE (kForm k1)) []] (A (w_sp_l15OwnForm n _ hk1) T) [] [.c 1 0 (iE k1.kind),.c 1 1 (sE k1.name),.c 1 2 (iE k1.n),.c 1 3 (lE 1 (ksInt k1.scopes)),.c 1 4 (lE 5 (ksForm k1.kids))] ?_
 obtain⟨k2,hk2,h0⟩:=bnd h0
 refine .af [.call [] (aE (kForm k2)) []] (A (w_sp_l15OwnForm n _ hk2) T) [] [.c 1 5 (iE k2.kind),.c 1 6 (sE k2.name),.c 1 7 (iE k2.n),.c 1 8 (lE 1 (ksInt k2.scopes)),.c 1 9 (lE 5 (ksForm k2.kids))] ?_
 refine .af [] T [] [.o 2 (.cells [iE k1.kind,sE k1.name,iE k1.n,lE 1 (ksInt k1.scopes),lE 5 (ksForm k1.kids),iE k2.kind,sE k2.name,iE k2.n,lE 1 (ksInt k2.scopes),lE 5 (ksForm k2.kids)])] ?_
 cases h0
 exact .rt hK
def sp_l15OwnListRule (n:Nat) (a0:List Rule):Option (List Rule):=
 Option.bind (forL (fun(s3:List Rule) (i2:Nat) (x5:Rule)=>(sp_l15OwnRule n x5).bind fun k10=>(apB 160 s3 [k10]).bind fun z11=>some z11) 0 a0 []) (fun(s3:List Rule)=>some s3)
theorem w_sp_l15OwnListRule (n:Nat):∀(a0:List Rule) {r:List Rule},sp_l15OwnListRule n a0=some r→SCall X.E 305 [lE 10 (ksRule a0)] [] (lE 10 (ksRule r)) []:=by
 intro a0 r h0
 rw[sp_l15OwnListRule] at h0
 refine .n Tryz.func305 (fun L ks low K hl hL hlen hK=>?_)
 refine .a [] T [] ?_
 refine .a [.sv (ksRule [])] (A (dRule.lit []) T) [(3,fE 10 (ksRule []))] ?_
 refine .a [.v (a0.length:Int)] (A (dRule.len' a0) T) [(7,lE 10 (ksRule a0)),(8,iE (a0.length:Int)),(9,iE 0)] ?_
 refine .sn 0 dRule a0 (by kernel_rfl) (fun hb1=>?_)
 refine .ow 3 100017 98 [7,8,9] rfl rfl (by kernel_rfl) ?_
 refine .lL h0 rfl [7,8] (fun i2 s3=>[(3,.gs (.own 100017) 10 (ksRule s3)),(9,iE (i2:Int))]) (fun i2 s3=>[.o 100017 (.tok (ksRule s3).length 98)]) n2 [] (by kernel_rfl) (fun i2 s3 q4 hd6 hi8 h0=>?_)
 refine .a [] T [(10,dE ((i2:Int)<(a0.length:Int)))] ?_
 refine .lc hd6 rfl (by kernel_rfl) (fun x5 q42 hc9 hx5 hd7 hd7l=>?_) (fun hc9=>?_)
 ·subst hc9
  obtain⟨y1,h1,hn1⟩:=forL_cons h0
  refine .af [.cs (kRule x5)] (A (dRule.idn hx5) T) [(5,pw 5)] [.o 5 (.cells ((kRule x5).map .d))] ?_
  obtain⟨k10,hk10,h1⟩:=bnd h1
  obtain⟨z11,hz11,h1⟩:=bnd h1
  refine .aq [.call [] (aE (kRule k10)) [],.sv (ksRule [k10]),.sv (ksRule z11)] [((ksRule s3).length:Int)] (A (w_sp_l15OwnRule n _ hk10) (A (dRule.lit [k10]) (A (dRule.ap hz11) T))) [(3,.gs (.own 100017) 10 (ksRule z11))] [.o 100017 (.tok (ksRule z11).length 98)] [] ?_
  refine .a [.v ((i2+1:Nat):Int)] (A (wn (i:=i2) (by omega)) T) [(9,iE ((i2+1:Nat):Int))] ?_
  cases h1
  refine .kp [3,7,8,9] [] ?_
  refine .dr 5 (by kernel_rfl) ?_
  exact .nL rfl (i2+1) _ hd7 hd7l hn1 [] (by kernel_rfl)
 ·subst hc9
  have h0:=forL_nil h0
  refine .a [] T [(2,.gs (.own 100017) 10 (ksRule s3))] ?_
  cases h0
  exact .rt hK
def sp_l5Uses:Nat→Form→Form→Option (Bool)
 | 0,_,_=>none
 | n+1,a0,a1=>Option.bind ((if a0.kind=1 then(sp_FormSame n a0 a1).bind fun k15=>some k15 else some false):Option (Bool)) (fun(o1:Bool)=>(if o1=true then some true else seqS (forI (fun(s4:Unit) (i3:Nat) (x6:Form)=>((sp_l5Uses n x6 a1).bind fun k12=>(if k12=true then some (Sum.inl true) else some (Sum.inr ())):Option (Bool⊕Unit))) 0 a0.kids ()) (fun(s4:Unit)=>some false)))
theorem w_sp_l5Uses (n:Nat):∀(a0:Form) (a1:Form) {r:Bool},sp_l5Uses n a0 a1=some r→SCall X.E 325 [aE (kForm a0),aE (kForm a1)] [] (bE r) []:=by
 induction n with
 | zero=>intro a0 a1 r h; cases h
 | succ n ih=>
  intro a0 a1 r h0
  rw[sp_l5Uses] at h0
  refine .n Tryz.func325 (fun L ks low K hl hL hlen hK=>?_)
  refine .af [] T [(2,pw 2),(3,pw 3)] [.o 2 (.cells ((kForm a0).map .d)),.o 3 (.cells ((kForm a1).map .d))] ?_
  refine .bP h0 rfl [2,3] (fun o1=>[(13,bE o1)]) n1 n1 (fun o1 h0=>?_) (fun y1 h1 hj1=>?_)
  ·refine .jT h0 (fun hc2 h0=>?_) (fun hc2 h0=>?_)
   ·refine .a [] T [(4,bE true)] ?_
    cases h0
    exact .rt hK
   ·refine .a [] T [(5,iE 0)] ?_
    refine .lI h0 rfl [2,3] (fun i3 s4=>[(5,iE (i3:Int))]) n2 n2 [] (by kernel_rfl) (fun i3 s4 q5 hd7 hi9 h0=>?_)
    refine .a [.v (a0.kids.length:Int)] (A (dForm.len' a0.kids) T) [(16,lE 5 (ksForm a0.kids)),(18,dE ((i3:Int)<(a0.kids.length:Int)))] ?_
    refine .sn 16 dForm a0.kids (by kernel_rfl) (fun hb10=>?_)
    refine .lc hd7 rfl (by kernel_rfl) (fun x6 q52 hc11 hx6 hd8 hd8l=>?_) (fun hc11=>?_)
    ·subst hc11
     obtain⟨y1,h1,hw1,hn1⟩:=forI_cons h0
     obtain⟨k12,hk12,h1⟩:=bnd h1
     refine .ad mixed [(3,[.cs (kForm x6)]),(6,[.call [] (bE k12) []])] [] (A (dForm.idn hx6) (A (ih _ _ hk12) T)) [(27,bE k12)] [] [] ?_
     refine .jT h1 (fun hc13 h1=>?_) (fun hc13 h1=>?_)
     ·refine .a [] T [(4,bE true)] ?_
      cases h1
      cases hw1 _ rfl
      exact .rt hK
     ·refine .a [.v ((i3+1:Nat):Int)] (A (wn (i:=i3) (by omega)) T) [(5,iE ((i3+1:Nat):Int))] ?_
      cases h1
      exact .nL rfl (i3+1) _ hd8 hd8l (hn1 _ rfl) [] (by kernel_rfl)
    ·subst hc11
     have h0:=forI_nil h0
     refine .a [] T [(4,bE false)] ?_
     cases h0
     exact .rt hK
  ·by_cases g14:a0.kind=1
   ·have h1:=iteP g14 h1
    obtain⟨k15,hk15,h1⟩:=bnd h1
    refine .a (rb 3 true [.call [] (bE k15) [],.b true]) (R 2 (dt g14) (A (A (dt g14) (w_sp_FormSame n _ _ hk15)) (A (dt g14) T))) [(13,bE k15)] ?_
    cases h1
    exact .lg hj1 []
   ·have h1:=iteN g14 h1
    refine .a (rb 4 false []) (R 4 (df g14) T) [(13,bE false)] ?_
    cases h1
    exact .lg hj1 []
def sp_l5Count (n:Nat) (a0:Form) (a1:List Hit):Option (Int):=
 iterM n (fun(s1:Int×Int)=>((if s1.2<(a1.length:Int) then seqS (Option.bind ((atI a1 s1.2).bind fun e14=>(if e14.depth=0 then some true else(sp_l5Uses n a0 e14.name).bind fun k16=>some (!k16)):Option (Bool)) (fun(o6:Bool)=>(if o6=true then some (Sum.inr s1.1) else Option.bind ((if s1.1≥0 then(atI a1 s1.2).bind fun e13=>some (decide (¬s1.1=(e13.many.length:Int))) else some false):Option (Bool)) (fun(o8:Bool)=>(if o8=true then some (Sum.inl (Sum.inl (-1))) else(atI a1 s1.2).bind fun e10=>some (Sum.inr (e10.many.length:Int)))))):Option ((Int⊕(Int×Int))⊕Int)) (fun(o5:Int)=>some (Sum.inr (o5,(w64 (s1.2+1))))) else some (Sum.inl s1.1)):Option (Int⊕(Int×Int)))) ((-1),0)
theorem w_sp_l5Count (n:Nat):∀(a0:Form) (a1:List Hit) {r:Int},sp_l5Count n a0 a1=some r→SCall X.E 318 [aE (kForm a0),lE 12 (ksHit a1)] [] (iE r) []:=by
 intro a0 a1 r h0
 rw[sp_l5Count] at h0
 refine .n Tryz.func318 (fun L ks low K hl hL hlen hK=>?_)
 refine .af [] T [(2,pw 2)] [.o 2 (.cells ((kForm a0).map .d))] ?_
 refine .a [] T [(5,iE (-1))] ?_
 refine .a [] T [(6,iE 0)] ?_
 refine .it h0 rfl [1,2] (fun s1=>[(5,iE s1.1),(6,iE s1.2)]) n1 n1 [] (by kernel_rfl) (fun nk2 s1 h0=>?_)
 obtain⟨y1,h1,hw1,hn1⟩:=iter_cons h0
 refine .a [.v (a1.length:Int)] (A (dHit.len' a1) T) [(10,dE (s1.2<(a1.length:Int)))] ?_
 refine .sn 1 dHit a1 (by kernel_rfl) (fun hb3=>?_)
 refine .jP h1 (fun hc4 h1=>?_) (fun hc4 h1=>?_)
 ·refine .bSB h1 rfl [1,2,6] (fun o5=>[(5,iE o5)]) n1 n1 (fun o5 h1=>?_) (fun y2 h2 hj2 hw2=>?_)
  ·refine .a [.pl] T [(6,iE (w64 (s1.2+1)))] ?_
   cases h1
   exact .nI rfl _ (hn1 _ rfl) [] (by kernel_rfl)
  ·refine .bP h2 rfl [1,2,5,6] (fun o6=>[(28,bE o6)]) n1 n1 (fun o6 h2=>?_) (fun y3 h3 hj3=>?_)
   ·refine .jT h2 (fun hc7 h2=>?_) (fun hc7 h2=>?_)
    ·cases h2
     exact .lg (hj2 _ rfl) []
    ·refine .bP h2 rfl [1,2,6] (fun o8=>[(40,bE o8)]) n1 n1 (fun o8 h2=>?_) (fun y3 h3 hj3=>?_)
     ·refine .jT h2 (fun hc9 h2=>?_) (fun hc9 h2=>?_)
      ·refine .a [] T [(4,iE (-1))] ?_
       cases h2
       cases hw2 _ rfl
       cases hw1 _ rfl
       exact .rt hK
      ·obtain⟨e10,he10,h2⟩:=bnd h2
       refine .a [.cs (kHit e10),.v (e10.many.length:Int)] (A (dHit.idx he10) (A (dHit.len' e10.many) T)) [(5,iE (e10.many.length:Int)),(45,lE 12 (ksHit e10.many))] ?_
       refine .sn 45 dHit e10.many (by kernel_rfl) (fun hb11=>?_)
       cases h2
       exact .lg (hj2 _ rfl) []
     ·by_cases g12:s1.1≥0
      ·have h3:=iteP g12 h3
       obtain⟨e13,he13,h3⟩:=bnd h3
       refine .a (rb 4 true (.cs (kHit e13)::(rb 3 true [.v (e13.many.length:Int),.b true,.b true]))) (R 3 (dt g12) (A (A (dt g12) (dHit.idx he13)) (R 2 (dt g12) (A (A (dt g12) (dHit.len' e13.many)) (R 2 (dt g12) T))))) [(40,dE (¬s1.1=(e13.many.length:Int)))] ?_
       cases h3
       exact .lg hj3 []
      ·have h3:=iteN g12 h3
       refine .a (rb 9 false []) (R 9 (df g12) T) [(40,bE false)] ?_
       cases h3
       exact .lg hj3 []
   ·obtain⟨e14,he14,h3⟩:=bnd h3
    by_cases g15:e14.depth=0
    ·have h3:=iteP g15 h3
     refine .ad mixed ((2,[.cs (kHit e14)])::(qb 7 9 true [])) [] (A (dHit.idx he14) (R 9 (dt g15) T)) [(28,bE true)] [] [] ?_
     cases h3
     exact .lg hj3 []
    ·have h3:=iteN g15 h3
     obtain⟨k16,hk16,h3⟩:=bnd h3
     refine .ad mixed ((2,[.cs (kHit e14)])::(qb 7 3 false ((10,[.b false,.cs (kHit e14)])::(qb 11 2 false ((13,[.b false,.call [] (bE k16) []])::(qb 14 2 false [])))))) [] (A (dHit.idx he14) (R 3 (df g15) (A (A (df g15) (dHit.idx he14)) (R 2 (df g15) (A (A (df g15) (w_sp_l5Uses n _ _ hk16)) (R 2 (df g15) T)))))) [(28,bE (!k16))] [] [] ?_
     cases h3
     exact .lg hj3 []
 ·refine .a [] T [(4,iE s1.1)] ?_
  cases h1
  cases hw1 _ rfl
  exact .rt hK
def sp_l5Nth (n:Nat) (a0:Form) (a1:List Hit) (a2:Int):Option (List Hit):=
 iterM n (fun(s1:(List Hit)×Int)=>((if s1.2<(a1.length:Int) then(atI a1 s1.2).bind fun e5=>Option.bind ((if e5.depth>0 then(sp_l5Uses n a0 e5.name).bind fun k12=>some k12 else some false):Option (Bool)) (fun(o6:Bool)=>Option.bind ((if o6=true then(atI e5.many a2).bind fun e10=>some e10 else some e5):Option (Hit)) (fun(o7:Hit)=>(apB 192 s1.1 [o7]).bind fun z8=>some (Sum.inr (z8,(w64 (s1.2+1)))))) else some (Sum.inl s1.1)):Option ((List Hit)⊕((List Hit)×Int)))) ([],0)
theorem w_sp_l5Nth (n:Nat):∀(a0:Form) (a1:List Hit) (a2:Int) {r:List Hit},sp_l5Nth n a0 a1 a2=some r→SCall X.E 319 [aE (kForm a0),lE 12 (ksHit a1),iE a2] [] (lE 12 (ksHit r)) []:=by
 intro a0 a1 a2 r h0
 rw[sp_l5Nth] at h0
 refine .n Tryz.func319 (fun L ks low K hl hL hlen hK=>?_)
 refine .af [] T [(3,pw 3)] [.o 3 (.cells ((kForm a0).map .d))] ?_
 refine .a [.sv (ksHit [])] (A (dHit.lit []) T) [(7,fE 12 (ksHit []))] ?_
 refine .a [] T [(8,iE 0)] ?_
 refine .ow 7 100038 309 [1,2,3,8] rfl rfl (by kernel_rfl) ?_
 refine .it h0 rfl [1,2,3] (fun s1=>[(7,.gs (.own 100038) 12 (ksHit s1.1)),(8,iE s1.2)]) (fun s1=>[.o 100038 (.tok (ksHit s1.1).length 309)]) n1 [] (by kernel_rfl) (fun nk2 s1 h0=>?_)
 obtain⟨y1,h1,hw1,hn1⟩:=iter_cons h0
 refine .a [.v (a1.length:Int)] (A (dHit.len' a1) T) [(14,dE (s1.2<(a1.length:Int)))] ?_
 refine .sn 1 dHit a1 (by kernel_rfl) (fun hb3=>?_)
 refine .jP h1 (fun hc4 h1=>?_) (fun hc4 h1=>?_)
 ·obtain⟨e5,he5,h1⟩:=bnd h1
  refine .af [.cs (kHit e5)] (A (dHit.idx he5) T) [(9,pw 9)] [.o 9 (.cells ((kHit e5).map .d))] ?_
  refine .bP h1 rfl [1,2,3,7,8,9] (fun o6=>[(29,bE o6)]) n1 n1 (fun o6 h1=>?_) (fun y2 h2 hj2=>?_)
  ·refine .bP h1 rfl [1,2,3,7,8,9] (fun o7=>[]) (fun o7=>[.o 9 (.cells ((kHit o7).map .d))]) n1 (fun o7 h1=>?_) (fun y2 h2 hj2=>?_)
   ·obtain⟨z8,hz8,h1⟩:=bnd h1
    refine .aq [.sv (ksHit [o7]),.sv (ksHit z8)] [((ksHit s1.1).length:Int)] (A (dHit.lit [o7]) (A (dHit.ap hz8) T)) [(7,.gs (.own 100038) 12 (ksHit z8))] [.o 100038 (.tok (ksHit z8).length 309)] [] ?_
    refine .a [.pl] T [(8,iE (w64 (s1.2+1)))] ?_
    cases h1
    refine .kp [1,2,3,7,8] [] ?_
    refine .dr 9 (by kernel_rfl) ?_
    exact .nI rfl _ (hn1 _ rfl) [] (by kernel_rfl)
   ·refine .jT h2 (fun hc9 h2=>?_) (fun hc9 h2=>?_)
    ·obtain⟨e10,he10,h2⟩:=bnd h2
     refine .af [.cs (kHit e10)] (A (dHit.idx he10) T) [] [.o 9 (.cells ((kHit e10).map .d))] ?_
     cases h2
     exact .lg hj2 []
    ·cases h2
     exact .lg hj2 []
  ·by_cases g11:e5.depth>0
   ·have h2:=iteP g11 h2
    obtain⟨k12,hk12,h2⟩:=bnd h2
    refine .a (rb 4 true [.call [] (bE k12) [],.b true]) (R 3 (dt g11) (A (A (dt g11) (w_sp_l5Uses n _ _ hk12)) (A (dt g11) T))) [(29,bE k12)] ?_
    cases h2
    exact .lg hj2 []
   ·have h2:=iteN g11 h2
    refine .a (rb 5 false []) (R 5 (df g11) T) [(29,bE false)] ?_
    cases h2
    exact .lg hj2 []
 ·refine .a [] T [(6,.gs (.own 100038) 12 (ksHit s1.1))] ?_
  cases h1
  cases hw1 _ rfl
  exact .rt hK
end Go.Ev
