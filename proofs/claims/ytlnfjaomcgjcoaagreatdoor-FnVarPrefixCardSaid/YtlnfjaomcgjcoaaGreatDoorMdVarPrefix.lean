/- Models of the functions that FnVarPrefix reaches. No condition. -/
import Derived.Test.YtlnfjaomcgjcoaaGreatDoorMdVarPrefixB
import Derived.Test.YtlnfjaomcgjcoaaGreatDoorEvTri
import Derived.Test.YtlnfjaomcgjcoaaGreatDoorNumP
import Derived.Test.YtlnfjaomcgjcoaaGreatDoorNumR7
import Derived.Test.YtlnfjaomcgjcoaaGreatDoorFmtR7
import Derived.Test.YtlnfjaomcgjcoaaGreatDoorProg
import Derived.KernelRfl
import Derived.Test.YtlnfjaomcgjcoaaGreatDoorShR7
namespace Go.Ev
open Go.Proofs Go.Mx
set_option linter.unusedVariables false
set_option maxRecDepth 10000
def tJ (n:Nat) (a0:List UInt8):Option (Core):=
 (nY n a0).bind fun k1=>(dw n [3,4,2] k1).bind fun k2=>(qC n [] k2.1 0 k2.2).bind fun k3=>(aP n 8 k3.2.2).bind fun k4=>(if k4.1=0 then(kT n k3.1 k4.2).bind fun k6=>(kT n k6.1 k6.2).bind fun k7=>some k7.1 else some k3.1)
theorem Fv (n:Nat):∀(a0:List UInt8) {r:Core},tJ n a0=some r→aF X.E 127 [lE 1 (iy a0)] [] (aE (aN r)) []:=by
 intro a0 r h0;rw[tJ] at h0;refine .n Tryz.func127 (fun L ks low K hl hL hlen hK=>?_);refine .af [] T [(2,pw 2)] [.o 2 (.cells [iE 0,iE 0,sE [],iE 0,fE 1 (ah []),iE 0,sE [],iE 0,fE 1 (ah []),fE 5 (aj []),fE 11 (aG [])])] ?_;obtain⟨k1,hk1,h0⟩:=bnd h0;refine .af [.call [.own 200007] (pl 0) [.cells ((aC k1).map .d)]] (A (yu n _ hk1) T) [(3,pw 200007)] [.o 200007 (.cells ((aC k1).map .d))] ?_;obtain⟨k2,hk2,h0⟩:=bnd h0;obtain⟨k3,hk3,h0⟩:=bnd h0;refine .af [.sv (ah []),.sv (ah [3,4,2]),.call [.own 200007] (iE k2.1) [.cells ((aC k2.2).map .d)],.call [.own 200007] (.dQ [aE (aN k3.1),iE k3.2.1]) [.cells ((aC k3.2.2).map .d)]] (A (aO.lit []) (A (aO.lit [3,4,2]) (A (dO n _ _ hk2) (A (OJ n _ _ _ _ hk3) T)))) [(4,pw 4)] [.o 200007 (.cells ((aC k3.2.2).map .d)),.o 4 (.cells ((aN k3.1).map .d))] ?_;obtain⟨k4,hk4,h0⟩:=bnd h0;refine .af [.call [.own 200007] (iE k4.1) [.cells ((aC k4.2).map .d)]] (A (aW n _ _ hk4) T) [(19,dE (k4.1=0))] [.o 200007 (.cells ((aC k4.2).map .d))] ?_;refine .jP h0 (fun hc5 h0=>?_) (fun hc5 h0=>?_)
 ·obtain⟨k6,hk6,h0⟩:=bnd h0;obtain⟨k7,Ja,h0⟩:=bnd h0;refine .af [.call [.own 200007] (aE (aN k6.1)) [.cells ((aC k6.2).map .d)],.call [.own 200007] (aE (aN k7.1)) [.cells ((aC k7.2).map .d)]] (A (BJ n _ _ hk6) (A (BJ n _ _ Ja) T)) [] [.o 2 (.cells ((aN k7.1).map .d)),.o 200007 (.cells ((aC k7.2).map .d))] ?_;cases h0;exact .rt hK
 ·refine .af [] T [] [.o 2 (.cells ((aN k3.1).map .d))] ?_;cases h0;exact .rt hK
def lH (n:Nat) (a0:List UInt8):Option (Int×Bool):=
 Option.bind ((if(a0.length:Int)>0 then(gQ a0 0).bind fun y23=>some (decide ((y23.toNat:Int)=45)) else some false):Option (Bool)) (fun(o1:Bool)=>Option.bind ((if o1=true then(Gm a0 1 (a0.length:Int)).bind fun z21=>some z21 else some a0):Option (List UInt8)) (fun(o2:List UInt8)=>Option.bind ((if(o2.length:Int)=0 then some true else(if(o2.length:Int)>17 then some true else(gQ o2 0).bind fun y17=>(if(y17.toNat:Int)=48 then(if(o2.length:Int)>1 then some true else some o1) else some false))):Option (Bool)) (fun(o3:Bool)=>(if o3=true then some (0,false) else iterM n (fun(s5:Int×Int)=>((if s5.2<(o2.length:Int) then Option.bind ((gQ o2 s5.2).bind fun y11=>(if(y11.toNat:Int)<48 then some true else some (decide ((y11.toNat:Int)>57))):Option (Bool)) (fun(o8:Bool)=>(if o8=true then some (Sum.inl (0,false)) else(gQ o2 s5.2).bind fun SG=>some (Sum.inr ((aY ((aY (s5.1*10))+(IntKind.i64.wrap (IntKind.u8.wrap ((SG.toNat:Int)-48))))),(aY (s5.2+1)))))) else Option.bind ((if o1=true then some (IntKind.i64.wrap (0-s5.1)) else some s5.1):Option (Int)) (fun(Yj:Int)=>some (Sum.inl (Yj,true)))):Option ((Int×Bool)⊕(Int×Int)))) (0,0)))))
theorem zX (n:Nat):∀(a0:List UInt8) {r:Int×Bool},lH n a0=some r→aF X.E 107 [sE a0] [] (.dQ [iE r.1,bE r.2]) []:=by
 intro a0 r h0;rw[lH] at h0;refine .n Tryz.func107 (fun L ks low K hl hL hlen hK=>?_);refine .a [] T [] ?_;refine .bP h0 rfl [0] (fun o1=>[(4,bE o1)]) n1 n1 (fun o1 h0=>?_) (fun y1 h1 hj1=>?_)
 ·refine .a [] T [(15,bE o1)] ?_;refine .bP h0 rfl [4] (fun o2=>[(0,sE o2)]) n1 n1 (fun o2 h0=>?_) (fun y1 h1 hj1=>?_)
  ·refine .bP h0 rfl [0,4] (fun o3=>[(38,bE o3)]) n1 n1 (fun o3 h0=>?_) (fun y1 h1 hj1=>?_)
   ·refine .jT h0 (fun hc4 h0=>?_) (fun hc4 h0=>?_)
    ·refine .a [] T [(2,iE 0),(3,bE false)] ?_;cases h0;exact .rt hK
    ·refine .a [] T [(5,iE 0)] ?_;refine .a [] T [(6,iE 0)] ?_;refine .it h0 rfl [0,4] (fun s5=>[(5,iE s5.1),(6,iE s5.2)]) n1 n1 [] (by kernel_rfl) (fun nk6 s5 h0=>?_);obtain⟨y1,h1,hw1,hn1⟩:=bT h0;refine .a [] T [(42,dE (s5.2<(o2.length:Int)))] ?_;refine .jP h1 (fun Iy h1=>?_) (fun Iy h1=>?_)
     ·refine .bP h1 rfl [0,4,5,6] (fun o8=>[(54,bE o8)]) n1 n1 (fun o8 h1=>?_) (fun y2 h2 hj2=>?_)
      ·refine .jT h1 (fun fK h1=>?_) (fun fK h1=>?_)
       ·refine .a [] T [(2,iE 0),(3,bE false)] ?_;cases h1;cases hw1 _ rfl;exact .rt hK
       ·obtain⟨SG,aby,h1⟩:=bnd h1;refine .a [.pl,.AY SG,.pl,.pl,.pl] (A (Bv aby) T) [(5,iE (aY ((aY (s5.1*10))+(IntKind.i64.wrap (IntKind.u8.wrap ((SG.toNat:Int)-48))))))] ?_;refine .a [.pl] T [(6,iE (aY (s5.2+1)))] ?_;cases h1;exact .nI rfl _ (hn1 _ rfl) [] (by kernel_rfl)
      ·obtain⟨y11,abz,h2⟩:=bnd h2;by_cases g12:(y11.toNat:Int)<48
       ·have h2:=aI g12 h2;refine .a (.AY y11::(rb 5 true [])) (A (Bv abz) (R 5 (dt g12) T)) [(54,bE true)] ?_;cases h2;exact .lg hj2 []
       ·have h2:=aJ g12 h2;refine .a (.AY y11::(rb 3 false [.AY y11,.b false,.b false])) (A (Bv abz) (R 2 (df g12) (A (A (df g12) (Bv abz)) (R 2 (df g12) T)))) [(54,dE ((y11.toNat:Int)>57))] ?_;cases h2;exact .lg hj2 []
     ·refine .a [] T [(63,bE o1)] ?_;refine .bP h1 rfl [] (fun Yj=>[(5,iE Yj)]) n1 n1 (fun Yj h1=>?_) (fun y2 h2 hj2=>?_)
      ·refine .a [] T [(2,iE Yj),(3,bE true)] ?_;cases h1;cases hw1 _ rfl;exact .rt hK
      ·refine .jT h2 (fun nV h2=>?_) (fun nV h2=>?_)
       ·refine .a [] T [(5,iE (IntKind.i64.wrap (0-s5.1)))] ?_;cases h2;exact .lg hj2 []
       ·cases h2;exact .lg hj2 []
   ·by_cases g15:(o2.length:Int)=0
    ·have h1:=aI g15 h1;refine .a (rb 10 true []) (R 4 (dt g15) (R 6 B1 T)) [(38,bE true)] ?_;cases h1;exact .lg hj1 []
    ·have h1:=aJ g15 h1;by_cases g16:(o2.length:Int)>17
     ·have h1:=aI g16 h1;refine .a (rb 4 false (rb 6 true [])) (R 4 (df g15) (R 6 (dt g16) T)) [(38,bE true)] ?_;cases h1;exact .lg hj1 []
     ·have h1:=aJ g16 h1;obtain⟨y17,abA,h1⟩:=bnd h1;by_cases g18:(y17.toNat:Int)=48
      ·have h1:=aI g18 h1;by_cases g19:(o2.length:Int)>1
       ·have h1:=aI g19 h1;refine .a (rb 6 false (.AY y17::(.b false::(.b false::(rb 7 true [.b false,.b true,.b false]))))) (R 4 (df g15) (A (df g16) (A (A (df g16) (Bv abA)) (R 2 (df g16) (R 4 (dt g18) (A (dt g19) (A (A (dt g18) (dt g19)) (A (A (df g16) (dt g18)) (A (df g16) T))))))))) [(38,bE true)] ?_;cases h1;exact .lg hj1 []
       ·have h1:=aJ g19 h1;refine .a (rb 6 false (.AY y17::(.b false::(.b false::(rb 4 true [.b false,.b true,.b false,.b false,.b true,.b false]))))) (R 4 (df g15) (A (df g16) (A (A (df g16) (Bv abA)) (R 2 (df g16) (R 4 (dt g18) (A (df g19) (A (A (dt g18) (df g19)) (A (A (df g16) (dt g18)) (A (df g16) T))))))))) [(38,bE o1)] ?_;cases h1;exact .lg hj1 []
      ·have h1:=aJ g18 h1;refine .a (rb 6 false (.AY y17::(rb 10 false []))) (R 4 (df g15) (A (df g16) (A (A (df g16) (Bv abA)) (R 2 (df g16) (R 5 (df g18) (A (A (df g16) (df g18)) (A (df g16) T))))))) [(38,bE false)] ?_;cases h1;exact .lg hj1 []
  ·refine .jT h1 (fun Q5 h1=>?_) (fun Q5 h1=>?_)
   ·obtain⟨z21,afF,h1⟩:=bnd h1;refine .a [.st z21] (A (slS afF) T) [(0,sE z21)] ?_;cases h1;exact .lg hj1 []
   ·cases h1;exact .lg hj1 []
 ·by_cases g22:(a0.length:Int)>0
  ·have h1:=aI g22 h1;obtain⟨y23,afG,h1⟩:=bnd h1;refine .a [.b true,.b true,.AY y23,.b true,.b true] (A (dt g22) (A (A (dt g22) (Bv afG)) (R 2 (dt g22) T))) [(4,dE ((y23.toNat:Int)=45))] ?_;cases h1;exact .lg hj1 []
  ·have h1:=aJ g22 h1;refine .a (rb 4 false []) (R 4 (df g22) T) [(4,bE false)] ?_;cases h1;exact .lg hj1 []
def wZ (n:Nat) (a0:List UInt8) (a1:Int):Option (List (List UInt8)):=
 iterM n (fun(s1:(List (List UInt8))×Int×Int)=>((if s1.2.2≤(a0.length:Int) then Option.bind (Option.bind ((if s1.2.2=(a0.length:Int) then some true else(gQ a0 s1.2.2).bind fun SG=>some (decide ((SG.toNat:Int)=a1))):Option (Bool)) (fun(o5:Bool)=>(if o5=true then(Gm a0 s1.2.1 s1.2.2).bind fun z7=>(jy 16 s1.1 [z7]).bind fun z8=>some (z8,(aY (s1.2.2+1))) else some (s1.1,s1.2.1))):Option ((List (List UInt8))×Int)) (fun(o4:(List (List UInt8))×Int)=>some (Sum.inr (o4.1,o4.2,(aY (s1.2.2+1))))) else some (Sum.inl s1.1)):Option ((List (List UInt8))⊕((List (List UInt8))×Int×Int)))) ([],0,0)
theorem OL (n:Nat):∀(a0:List UInt8) (a1:Int) {r:List (List UInt8)},wZ n a0 a1=some r→aF X.E 252 [sE a0,.d (.v (.int .u8 a1))] [] (lE 1 (aH r)) []:=by
 intro a0 a1 r h0;rw[wZ] at h0;refine .n Tryz.func252 (fun L ks low K hl hL hlen hK=>?_);refine .a [] T [] ?_;refine .a [.sv (aH [])] (A (dZ.lit []) T) [(5,fE 1 (aH []))] ?_;refine .a [] T [(6,iE 0)] ?_;refine .a [] T [(7,iE 0)] ?_;refine .ow 5 100032 9 [0,1,6,7] rfl rfl (by kernel_rfl) ?_;refine .it h0 rfl [0,1] (fun s1=>[(5,.gs (.own 100032) 1 (aH s1.1)),(6,iE s1.2.1),(7,iE s1.2.2)]) (fun s1=>[.o 100032 (.tok (aH s1.1).length 9)]) n1 [] (by kernel_rfl) (fun Xf s1 h0=>?_);obtain⟨y1,h1,hw1,hn1⟩:=bT h0;refine .a [] T [(12,dE (s1.2.2≤(a0.length:Int)))] ?_;refine .jP h1 (fun hc3 h1=>?_) (fun hc3 h1=>?_)
 ·refine .bPB h1 rfl [0,1,7] (fun o4=>[(5,.gs (.own 100032) 1 (aH o4.1)),(6,iE o4.2)]) (fun o4=>[.o 100032 (.tok (aH o4.1).length 9)]) n1 (fun o4 h1=>?_) (fun y2 h2 hj2=>?_)
  ·refine .a [.pl] T [(7,iE (aY (s1.2.2+1)))] ?_;cases h1;exact .nI rfl _ (hn1 _ rfl) [] (by kernel_rfl)
  ·refine .bP h2 rfl [0,1,5,6,7] (fun o5=>[(25,bE o5)]) n1 n1 (fun o5 h2=>?_) (fun y3 h3 hj3=>?_)
   ·refine .jT h2 (fun hc6 h2=>?_) (fun hc6 h2=>?_)
    ·obtain⟨z7,hz7,h2⟩:=bnd h2;obtain⟨z8,Zi,h2⟩:=bnd h2;refine .aq [.st z7,.sv (aH [z7]),.sv (aH z8)] [((aH s1.1).length:Int)] (A (slS hz7) (A (dZ.lit [z7]) (A (dZ.ap Zi) T))) [(5,.gs (.own 100032) 1 (aH z8))] [.o 100032 (.tok (aH z8).length 9)] [] ?_;refine .a [.pl] T [(6,iE (aY (s1.2.2+1)))] ?_;cases h2;exact .lg hj2 []
    ·cases h2;exact .lg hj2 []
   ·by_cases g9:s1.2.2=(a0.length:Int)
    ·have h3:=aI g9 h3;refine .a (rb 6 true []) (R 6 (dt g9) T) [(25,bE true)] ?_;cases h3;exact .lg hj3 []
    ·have h3:=aJ g9 h3;obtain⟨SG,aby,h3⟩:=bnd h3;refine .a (rb 3 false (.AY SG::(rb 3 false []))) (R 2 (df g9) (A (A (df g9) (Bv aby)) (R 3 (df g9) T))) [(25,dE ((SG.toNat:Int)=a1))] ?_;cases h3;exact .lg hj3 []
 ·refine .a [] T [(4,.gs (.own 100032) 1 (aH s1.1))] ?_;cases h1;cases hw1 _ rfl;exact .rt hK
def xg (n:Nat) (a0:List UInt8) (a1:Int):Option ((List Int)×Int):=
 Option.bind ((if a1≥(a0.length:Int) then some true else(gQ a0 a1).bind fun y24=>some (decide (¬(y24.toNat:Int)=123))):Option (Bool)) (fun(o1:Bool)=>(if o1=true then some ([],a1) else iterM n (fun(s3:Int)=>(Option.bind ((if s3<(a0.length:Int) then(gQ a0 s3).bind fun y22=>some (decide (¬(y22.toNat:Int)=125)) else some false):Option (Bool)) (fun(o5:Bool)=>(if o5=true then some (Sum.inr (aY (s3+1))) else(if s3=(a0.length:Int) then some (Sum.inl ([],(-1))) else(Gm a0 (aY (a1+1)) s3).bind fun z8=>(wZ n z8 44).bind fun k9=>iterM n (fun(s10:(List Int)×Int)=>(Option.bind ((if s10.2<(k9.length:Int) then some (decide (s10.2≤24)) else some false):Option (Bool)) (fun(rH:Bool)=>(if rH=true then(gQ k9 s10.2).bind fun e14=>(lH n e14).bind fun k15=>(if(!k15.2)=true then some (Sum.inl (Sum.inl (s10.1,(-1)))) else(jy 8 s10.1 [k15.1]).bind fun z17=>some (Sum.inr (z17,(aY (s10.2+1))))) else some (Sum.inl (Sum.inl (s10.1,(aY (s3+1))))))):Option ((((List Int)×Int)⊕Int)⊕((List Int)×Int)))) ([],0)))):Option (((List Int)×Int)⊕Int))) a1))
theorem OM (n:Nat):∀(a0:List UInt8) (a1:Int) {r:(List Int)×Int},xg n a0 a1=some r→aF X.E 242 [sE a0,iE a1] [] (.dQ [lE 1 (ah r.1),iE r.2]) []:=by
 intro a0 a1 r h0;rw[xg] at h0;refine .n Tryz.func242 (fun L ks low K hl hL hlen hK=>?_);refine .a [] T [] ?_;refine .a [.sv (ah [])] (A (aO.lit []) T) [(6,fE 1 (ah []))] ?_;refine .bP h0 rfl [0,1,6] (fun o1=>[(22,bE o1)]) n1 n1 (fun o1 h0=>?_) (fun y1 h1 hj1=>?_)
 ·refine .jT h0 (fun hc2 h0=>?_) (fun hc2 h0=>?_)
  ·refine .a [] T [(4,fE 1 (ah [])),(5,iE a1)] ?_;cases h0;exact .rt hK
  ·refine .a [] T [(7,iE a1)] ?_;refine .it h0 rfl [0,1,6] (fun s3=>[(7,iE s3)]) n1 n1 [] (by kernel_rfl) (fun nk4 s3 h0=>?_);obtain⟨y1,h1,hw1,hn1⟩:=bT h0;refine .bP h1 rfl [0,1,6,7] (fun o5=>[(35,bE o5)]) n1 n1 (fun o5 h1=>?_) (fun y2 h2 hj2=>?_)
   ·refine .jT h1 (fun hc6 h1=>?_) (fun hc6 h1=>?_)
    ·refine .a [.pl] T [(7,iE (aY (s3+1)))] ?_;cases h1;exact .nI rfl _ (hn1 _ rfl) [] (by kernel_rfl)
    ·refine .a [] T [(41,dE (s3=(a0.length:Int)))] ?_;refine .jP h1 (fun Iy h1=>?_) (fun Iy h1=>?_)
     ·refine .a [] T [(4,fE 1 (ah [])),(5,iE (-1))] ?_;cases h1;cases hw1 _ rfl;exact .rt hK
     ·obtain⟨z8,Zi,h1⟩:=bnd h1;obtain⟨k9,hk9,h1⟩:=bnd h1;refine .a [.pl,.st z8,.call [] (lE 1 (aH k9)) []] (A (slS Zi) (A (OL n _ _ hk9) T)) [(8,lE 1 (aH k9))] ?_;refine .a [] T [(9,iE 0)] ?_;refine .ow 6 100073 3 [7,8,9] rfl rfl (by kernel_rfl) ?_;refine .it h1 rfl [7,8] (fun s10=>[(6,.gs (.own 100073) 1 (ah s10.1)),(9,iE s10.2)]) (fun s10=>[.o 100073 (.tok (ah s10.1).length 3)]) n1 [] (by kernel_rfl) (fun ahv s10 h1=>?_);obtain⟨y2,h2,hw2,hn2⟩:=bT h1;refine .bP h2 rfl [6,7,8,9] (fun rH=>[(56,bE rH)]) n1 n1 (fun rH h2=>?_) (fun y3 h3 hj3=>?_)
      ·refine .jT h2 (fun hc13 h2=>?_) (fun hc13 h2=>?_)
       ·obtain⟨e14,QY,h2⟩:=bnd h2;obtain⟨k15,rW,h2⟩:=bnd h2;refine .a [.cs [.s e14],.call [] (.dQ [iE k15.1,bE k15.2]) []] (A (dZ.idx QY) (A (zX n _ rW) T)) [(10,iE k15.1),(11,bE k15.2)] ?_;refine .a [] T [(68,bE (!k15.2))] ?_;refine .jT h2 (fun hc16 h2=>?_) (fun hc16 h2=>?_)
        ·refine .a [] T [(4,.gs (.own 100073) 1 (ah s10.1)),(5,iE (-1))] ?_;cases h2;cases hw2 _ rfl;cases hw1 _ rfl;exact .rt hK
        ·obtain⟨z17,abB,h2⟩:=bnd h2;refine .aq [.sv (ah [k15.1]),.sv (ah z17)] [((ah s10.1).length:Int)] (A (aO.lit [k15.1]) (A (aO.ap abB) T)) [(6,.gs (.own 100073) 1 (ah z17))] [.o 100073 (.tok (ah z17).length 3)] [] ?_;refine .a [.pl] T [(9,iE (aY (s10.2+1)))] ?_;cases h2;exact .nI rfl _ (hn2 _ rfl) [] (by kernel_rfl)
       ·refine .a [.pl] T [(4,.gs (.own 100073) 1 (ah s10.1)),(5,iE (aY (s3+1)))] ?_;cases h2;cases hw2 _ rfl;cases hw1 _ rfl;exact .rt hK
      ·by_cases g18:s10.2<(k9.length:Int)
       ·have h3:=aI g18 h3;refine .a (.v (k9.length:Int)::(rb 3 true [])) (A (dZ.len' k9) (R 3 (dt g18) T)) [(56,dE (s10.2≤24))] ?_;refine .sn 8 dZ k9 (by kernel_rfl) (fun aeV=>?_);cases h3;exact .lg hj3 []
       ·have h3:=aJ g18 h3;refine .a (.v (k9.length:Int)::(rb 3 false [])) (A (dZ.len' k9) (R 3 (df g18) T)) [(56,bE false)] ?_;refine .sn 8 dZ k9 (by kernel_rfl) (fun ahw=>?_);cases h3;exact .lg hj3 []
   ·by_cases g21:s3<(a0.length:Int)
    ·have h2:=aI g21 h2;obtain⟨y22,afH,h2⟩:=bnd h2;refine .a (rb 3 true [.AY y22,.b true,.b true]) (R 2 (dt g21) (A (A (dt g21) (Bv afH)) (R 2 (dt g21) T))) [(35,dE (¬(y22.toNat:Int)=125))] ?_;cases h2;exact .lg hj2 []
    ·have h2:=aJ g21 h2;refine .a (rb 5 false []) (R 5 (df g21) T) [(35,bE false)] ?_;cases h2;exact .lg hj2 []
 ·by_cases g23:a1≥(a0.length:Int)
  ·have h1:=aI g23 h1;refine .a (rb 5 true []) (R 5 (dt g23) T) [(22,bE true)] ?_;cases h1;exact .lg hj1 []
  ·have h1:=aJ g23 h1;obtain⟨y24,hy24,h1⟩:=bnd h1;refine .a (rb 3 false [.AY y24,.b false,.b false]) (R 2 (df g23) (A (A (df g23) (Bv hy24)) (R 2 (df g23) T))) [(22,dE (¬(y24.toNat:Int)=123))] ?_;cases h1;exact .lg hj1 []
def xk (n:Nat) (a0:List UInt8) (a1:Int):Option (Int):=
 iterM n (fun(s1:Int)=>(Option.bind ((if s1<(a0.length:Int) then(gQ a0 s1).bind fun y6=>(if ¬(y6.toNat:Int)=32 then(if ¬(y6.toNat:Int)=40 then(if ¬(y6.toNat:Int)=41 then some (decide (¬(y6.toNat:Int)=123)) else some false) else some false) else some false) else some false):Option (Bool)) (fun(o3:Bool)=>(if o3=true then some (Sum.inr (aY (s1+1))) else some (Sum.inl s1))):Option (Int⊕Int))) a1
theorem OO (n:Nat):∀(a0:List UInt8) (a1:Int) {r:Int},xk n a0 a1=some r→aF X.E 241 [sE a0,iE a1] [] (iE r) []:=by
 intro a0 a1 r h0;rw[xk] at h0;refine .n Tryz.func241 (fun L ks low K hl hL hlen hK=>?_);refine .a [] T [] ?_;refine .it h0 rfl [0] (fun s1=>[(1,iE s1)]) n1 n1 [] (by kernel_rfl) (fun Xf s1 h0=>?_);obtain⟨y1,h1,hw1,hn1⟩:=bT h0;refine .bP h1 rfl [0,1] (fun o3=>[(32,bE o3)]) n1 n1 (fun o3 h1=>?_) (fun y2 h2 hj2=>?_)
 ·refine .jT h1 (fun hc4 h1=>?_) (fun hc4 h1=>?_)
  ·refine .a [.pl] T [(1,iE (aY (s1+1)))] ?_;cases h1;exact .nI rfl _ (hn1 _ rfl) [] (by kernel_rfl)
  ·refine .a [] T [(4,iE s1)] ?_;cases h1;cases hw1 _ rfl;exact .rt hK
 ·by_cases g5:s1<(a0.length:Int)
  ·have h2:=aI g5 h2;obtain⟨y6,U5,h2⟩:=bnd h2;by_cases g7:¬(y6.toNat:Int)=32
   ·have h2:=aI g7 h2;by_cases g8:¬(y6.toNat:Int)=40
    ·have h2:=aI g8 h2;by_cases g9:¬(y6.toNat:Int)=41
     ·have h2:=aI g9 h2;refine .a (rb 3 true (.AY y6::(rb 5 true (.AY y6::(rb 5 true (.AY y6::(rb 5 true [.AY y6,.b true,.b true]))))))) (R 2 (dt g5) (A (A (dt g5) (Bv U5)) (R 2 (dt g5) (R 2 (dt g7) (A (A (dt g7) (Bv U5)) (R 2 (dt g7) (R 2 (dt g8) (A (A (dt g8) (Bv U5)) (R 2 (dt g8) (R 2 (dt g9) (A (A (dt g9) (Bv U5)) (R 2 (dt g9) T)))))))))))) [(32,dE (¬(y6.toNat:Int)=123))] ?_;cases h2;exact .lg hj2 []
     ·have h2:=aJ g9 h2;refine .a (rb 3 true (.AY y6::(rb 5 true (.AY y6::(rb 5 true (.AY y6::(.b true::(.b true::(rb 5 false []))))))))) (R 2 (dt g5) (A (A (dt g5) (Bv U5)) (R 2 (dt g5) (R 2 (dt g7) (A (A (dt g7) (Bv U5)) (R 2 (dt g7) (R 2 (dt g8) (A (A (dt g8) (Bv U5)) (R 2 (dt g8) (R 5 (df g9) T)))))))))) [(32,bE false)] ?_;cases h2;exact .lg hj2 []
    ·have h2:=aJ g8 h2;refine .a (rb 3 true (.AY y6::(rb 5 true (.AY y6::(.b true::(.b true::(rb 10 false []))))))) (R 2 (dt g5) (A (A (dt g5) (Bv U5)) (R 2 (dt g5) (R 2 (dt g7) (A (A (dt g7) (Bv U5)) (R 2 (dt g7) (R 5 (df g8) (R 5 B0 T)))))))) [(32,bE false)] ?_;cases h2;exact .lg hj2 []
   ·have h2:=aJ g7 h2;refine .a (rb 3 true (.AY y6::(.b true::(.b true::(rb 15 false []))))) (R 2 (dt g5) (A (A (dt g5) (Bv U5)) (R 2 (dt g5) (R 5 (df g7) (R 10 B0 T))))) [(32,bE false)] ?_;cases h2;exact .lg hj2 []
  ·have h2:=aJ g5 h2;refine .a (rb 20 false []) (R 5 (df g5) (R 15 B0 T)) [(32,bE false)] ?_;cases h2;exact .lg hj2 []
def xq (n:Nat) (a0:List UInt8) (a1:Int):Option (Form×Int):=
 (xk n a0 a1).bind fun k1=>(Gm a0 a1 k1).bind fun z2=>(lH n z2).bind fun k3=>(if k3.2=true then some ((⟨2,[],k3.1,[],[]⟩:Form),k1) else(if z2=[] then some ((⟨0,[],0,[],[]⟩:Form),(-1)) else(xg n a0 k1).bind fun k6=>some ((⟨1,z2,0,k6.1,[]⟩:Form),k6.2)))
theorem OQ (n:Nat):∀(a0:List UInt8) (a1:Int) {r:Form×Int},xq n a0 a1=some r→aF X.E 226 [sE a0,iE a1] [] (.dQ [aE (ak r.1),iE r.2]) []:=by
 intro a0 a1 r h0;rw[xq] at h0;refine .n Tryz.func226 (fun L ks low K hl hL hlen hK=>?_);refine .af [] T [(4,pw 4)] [.o 4 (.cells [iE 0,sE [],iE 0,fE 1 (ah []),fE 5 (aj [])])] ?_;obtain⟨k1,hk1,h0⟩:=bnd h0;refine .a [.call [] (iE k1) []] (A (OO n _ _ hk1) T) [(6,iE k1)] ?_;obtain⟨z2,hz2,h0⟩:=bnd h0;refine .a [.st z2] (A (slS hz2) T) [(7,sE z2)] ?_;obtain⟨k3,hk3,h0⟩:=bnd h0;refine .a [.call [] (.dQ [iE k3.1,bE k3.2]) []] (A (zX n _ hk3) T) [(8,iE k3.1),(9,bE k3.2)] ?_;refine .a [] T [(24,bE k3.2)] ?_;refine .jT h0 (fun hc4 h0=>?_) (fun hc4 h0=>?_)
 ·refine .af [] T [(5,iE k1)] [.c 4 0 (iE 2),.c 4 2 (iE k3.1)] ?_;cases h0;exact .rt hK
 ·refine .a [] T [(29,dE (z2=[]))] ?_;refine .jP h0 (fun hc5 h0=>?_) (fun hc5 h0=>?_)
  ·refine .a [] T [(5,iE (-1))] ?_;cases h0;exact .rt hK
  ·obtain⟨k6,hk6,h0⟩:=bnd h0;refine .a [.call [] (.dQ [lE 1 (ah k6.1),iE k6.2]) []] (A (OM n _ _ hk6) T) [(10,lE 1 (ah k6.1)),(11,iE k6.2)] ?_;refine .af [] T [(5,iE k6.2)] [.c 4 0 (iE 1),.c 4 1 (sE z2),.c 4 3 (lE 1 (ah k6.1))] ?_;cases h0;exact .rt hK
def oO (n:Nat) (a0:List UInt8) (a1:Int):Option (Int):=
 iterM n (fun(s1:Int)=>(Option.bind ((if s1<(a0.length:Int) then(gQ a0 s1).bind fun y6=>some (decide ((y6.toNat:Int)=32)) else some false):Option (Bool)) (fun(o3:Bool)=>(if o3=true then some (Sum.inr (aY (s1+1))) else some (Sum.inl s1))):Option (Int⊕Int))) a1
theorem rD (n:Nat):∀(a0:List UInt8) (a1:Int) {r:Int},oO n a0 a1=some r→aF X.E 204 [sE a0,iE a1] [] (iE r) []:=by
 intro a0 a1 r h0;rw[oO] at h0;refine .n Tryz.func204 (fun L ks low K hl hL hlen hK=>?_);refine .a [] T [] ?_;refine .it h0 rfl [0] (fun s1=>[(1,iE s1)]) n1 n1 [] (by kernel_rfl) (fun Xf s1 h0=>?_);obtain⟨y1,h1,hw1,hn1⟩:=bT h0;refine .bP h1 rfl [0,1] (fun o3=>[(14,bE o3)]) n1 n1 (fun o3 h1=>?_) (fun y2 h2 hj2=>?_)
 ·refine .jT h1 (fun hc4 h1=>?_) (fun hc4 h1=>?_)
  ·refine .a [.pl] T [(1,iE (aY (s1+1)))] ?_;cases h1;exact .nI rfl _ (hn1 _ rfl) [] (by kernel_rfl)
  ·refine .a [] T [(4,iE s1)] ?_;cases h1;cases hw1 _ rfl;exact .rt hK
 ·by_cases g5:s1<(a0.length:Int)
  ·have h2:=aI g5 h2;obtain⟨y6,U5,h2⟩:=bnd h2;refine .a (rb 3 true [.AY y6,.b true,.b true]) (R 2 (dt g5) (A (A (dt g5) (Bv U5)) (R 2 (dt g5) T))) [(14,dE ((y6.toNat:Int)=32))] ?_;cases h2;exact .lg hj2 []
  ·have h2:=aJ g5 h2;refine .a (rb 5 false []) (R 5 (df g5) T) [(14,bE false)] ?_;cases h2;exact .lg hj2 []
def qE:Nat→(List UInt8)→Int→Int→Option (Form×Int)
 | 0,_,_,_=>none
 | n+1,a0,a1,a2=>(oO n a0 a1).bind fun k1=>Option.bind ((if k1≥(a0.length:Int) then some true else some (decide (a2=0))):Option (Bool)) (fun(o2:Bool)=>(if o2=true then some ((⟨0,[],0,[],[]⟩:Form),(-1)) else(gQ a0 k1).bind fun y4=>(if ¬(y4.toNat:Int)=40 then(xq n a0 k1).bind fun k6=>some (k6.1,k6.2) else(oO n a0 (aY (k1+1))).bind fun k7=>iterM n (fun(s8:Int×(List Form))=>(Option.bind ((if s8.1<(a0.length:Int) then(gQ a0 s8.1).bind fun y21=>(if ¬(y21.toNat:Int)=41 then some (decide ((s8.2.length:Int)<400)) else some false) else some false):Option (Bool)) (fun(nD:Bool)=>(if nD=true then(qE n a0 s8.1 (aY (a2-1))).bind fun k12=>(if k12.2<0 then some (Sum.inl ((⟨3,[],0,[],s8.2⟩:Form),(-1))) else(jy 80 s8.2 [k12.1]).bind fun AB=>(oO n a0 k12.2).bind fun k15=>some (Sum.inr (k15,AB))) else Option.bind ((if s8.1≥(a0.length:Int) then some true else(gQ a0 s8.1).bind fun y19=>some (decide (¬(y19.toNat:Int)=41))):Option (Bool)) (fun(o16:Bool)=>(if o16=true then some (Sum.inl ((⟨3,[],0,[],s8.2⟩:Form),(-1))) else some (Sum.inl ((⟨3,[],0,[],s8.2⟩:Form),(aY (s8.1+1)))))))):Option ((Form×Int)⊕(Int×(List Form))))) (k7,[]))))
theorem OT (n:Nat):∀(a0:List UInt8) (a1:Int) (a2:Int) {r:Form×Int},qE n a0 a1 a2=some r→aF X.E 203 [sE a0,iE a1,iE a2] [] (.dQ [aE (ak r.1),iE r.2]) []:=by
 induction n with
 | zero=>intro a0 a1 a2 r h; cases h
 | succ n ih=>
  intro a0 a1 a2 r h0;rw[qE] at h0;refine .n Tryz.func203 (fun L ks low K hl hL hlen hK=>?_);refine .af [] T [(6,pw 6)] [.o 6 (.cells [iE 0,sE [],iE 0,fE 1 (ah []),fE 5 (aj [])])] ?_;obtain⟨k1,hk1,h0⟩:=bnd h0;refine .a [.call [] (iE k1) []] (A (rD n _ _ hk1) T) [(1,iE k1)] ?_;refine .bP h0 rfl [0,1,2,6] (fun o2=>[(21,bE o2)]) n1 n1 (fun o2 h0=>?_) (fun y1 h1 hj1=>?_)
  ·refine .jT h0 (fun hc3 h0=>?_) (fun hc3 h0=>?_)
   ·refine .a [] T [(7,iE (-1))] ?_;cases h0;exact .rt hK
   ·obtain⟨y4,hy4,h0⟩:=bnd h0;refine .a [.AY y4] (A (Bv hy4) T) [(26,dE (¬(y4.toNat:Int)=40))] ?_;refine .jP h0 (fun hc5 h0=>?_) (fun hc5 h0=>?_)
    ·obtain⟨k6,hk6,h0⟩:=bnd h0;refine .af [.call [] (.dQ [aE (ak k6.1),iE k6.2]) []] (A (OQ n _ _ hk6) T) [(7,iE k6.2)] [.o 6 (.cells ((ak k6.1).map .d))] ?_;cases h0;exact .rt hK
    ·refine .af [] T [(8,pw 8)] [.o 8 (.cells [iE 3,sE [],iE 0,fE 1 (ah []),fE 5 (aj [])])] ?_;obtain⟨k7,Ja,h0⟩:=bnd h0;refine .a [.pl,.call [] (iE k7) []] (A (rD n _ _ Ja) T) [(1,iE k7)] ?_;refine .oc 8 4 100068 33 (by kernel_rfl) ?_;refine .it h0 rfl [0,2,6,8] (fun s8=>[(1,iE s8.1)]) (fun s8=>[.c 8 4 (.gs (.own 100068) 5 (aj s8.2)),.o 100068 (.tok (aj s8.2).length 33)]) n1 [] (by kernel_rfl) (fun nk9 s8 h0=>?_);obtain⟨y1,h1,hw1,hn1⟩:=bT h0;refine .bP h1 rfl [0,1,2,6,8] (fun nD=>[(52,bE nD)]) n1 n1 (fun nD h1=>?_) (fun y2 h2 hj2=>?_)
     ·refine .jT h1 (fun bJ h1=>?_) (fun bJ h1=>?_)
      ·obtain⟨k12,hk12,h1⟩:=bnd h1;refine .af [.pl,.call [] (.dQ [aE (ak k12.1),iE k12.2]) []] (A (ih _ _ _ hk12) T) [(9,pw 9),(10,iE k12.2)] [.o 9 (.cells ((ak k12.1).map .d))] ?_;refine .a [] T [(62,dE (k12.2<0))] ?_;refine .jP h1 (fun hc13 h1=>?_) (fun hc13 h1=>?_)
       ·refine .af [] T [(7,iE (-1))] [.c 6 0 (iE 3),.c 6 4 (.gs (.own 100068) 5 (aj s8.2))] ?_;cases h1;cases hw1 _ rfl;exact .rt hK
       ·obtain⟨AB,Ik,h1⟩:=bnd h1;refine .aq [.sv (aj [k12.1]),.sv (aj AB)] [((aj s8.2).length:Int)] (A (aA.lit [k12.1]) (A (aA.ap Ik) T)) [] [.c 8 4 (.gs (.own 100068) 5 (aj AB)),.o 100068 (.tok (aj AB).length 33)] [] ?_;obtain⟨k15,rW,h1⟩:=bnd h1;refine .a [.call [] (iE k15) []] (A (rD n _ _ rW) T) [(1,iE k15)] ?_;cases h1;refine .kp [0,1,2,6,8] [] ?_;refine .dr 9 (by kernel_rfl) ?_;exact .nI rfl _ (hn1 _ rfl) [] (by kernel_rfl)
      ·refine .bP h1 rfl [1,6,8] (fun o16=>[(82,bE o16)]) n1 n1 (fun o16 h1=>?_) (fun y2 h2 hj2=>?_)
       ·refine .jT h1 (fun hc17 h1=>?_) (fun hc17 h1=>?_)
        ·refine .af [] T [(7,iE (-1))] [.c 6 0 (iE 3),.c 6 4 (.gs (.own 100068) 5 (aj s8.2))] ?_;cases h1;cases hw1 _ rfl;exact .rt hK
        ·refine .af [.pl] T [(7,iE (aY (s8.1+1)))] [.c 6 0 (iE 3),.c 6 4 (.gs (.own 100068) 5 (aj s8.2))] ?_;cases h1;cases hw1 _ rfl;exact .rt hK
       ·by_cases g18:s8.1≥(a0.length:Int)
        ·have h2:=aI g18 h2;refine .a (rb 5 true []) (R 5 (dt g18) T) [(82,bE true)] ?_;cases h2;exact .lg hj2 []
        ·have h2:=aJ g18 h2;obtain⟨y19,afI,h2⟩:=bnd h2;refine .a (rb 3 false [.AY y19,.b false,.b false]) (R 2 (df g18) (A (A (df g18) (Bv afI)) (R 2 (df g18) T))) [(82,dE (¬(y19.toNat:Int)=41))] ?_;cases h2;exact .lg hj2 []
     ·by_cases g20:s8.1<(a0.length:Int)
      ·have h2:=aI g20 h2;obtain⟨y21,adI,h2⟩:=bnd h2;by_cases g22:¬(y21.toNat:Int)=41
       ·have h2:=aI g22 h2;refine .a (rb 3 true (.AY y21::(rb 5 true [.v (s8.2.length:Int),.b true,.b true]))) (R 2 (dt g20) (A (A (dt g20) (Bv adI)) (R 2 (dt g20) (R 2 (dt g22) (A (A (dt g22) (aA.len' s8.2)) (R 2 (dt g22) T)))))) [(52,dE ((s8.2.length:Int)<400))] ?_;cases h2;exact .lg hj2 []
       ·have h2:=aJ g22 h2;refine .a (rb 3 true (.AY y21::(.b true::(.b true::(rb 5 false []))))) (R 2 (dt g20) (A (A (dt g20) (Bv adI)) (R 2 (dt g20) (R 5 (df g22) T)))) [(52,bE false)] ?_;cases h2;exact .lg hj2 []
      ·have h2:=aJ g20 h2;refine .a (rb 10 false []) (R 5 (df g20) (R 5 B0 T)) [(52,bE false)] ?_;cases h2;exact .lg hj2 []
  ·by_cases g23:k1≥(a0.length:Int)
   ·have h1:=aI g23 h1;refine .a (rb 3 true []) (R 3 (dt g23) T) [(21,bE true)] ?_;cases h1;exact .lg hj1 []
   ·have h1:=aJ g23 h1;refine .a (rb 3 false []) (R 3 (df g23) T) [(21,dE (a2=0))] ?_;cases h1;exact .lg hj1 []
def sK (n:Nat) (a0:List UInt8):Option (Form×Bool):=
 (qE n a0 0 40).bind fun k1=>Option.bind ((if k1.2<0 then some true else(oO n a0 k1.2).bind fun k5=>(if ¬k5=(a0.length:Int) then some true else(bV n k1.1).bind fun k7=>some (!k7))):Option (Bool)) (fun(o2:Bool)=>(if o2=true then some ((⟨0,[],0,[],[]⟩:Form),false) else some (k1.1,true)))
theorem IE (n:Nat):∀(a0:List UInt8) {r:Form×Bool},sK n a0=some r→aF X.E 181 [sE a0] [] (.dQ [aE (ak r.1),bE r.2]) []:=by
 intro a0 r h0;rw[sK] at h0;refine .n Tryz.func181 (fun L ks low K hl hL hlen hK=>?_);refine .af [] T [(2,pw 2)] [.o 2 (.cells [iE 0,sE [],iE 0,fE 1 (ah []),fE 5 (aj [])])] ?_;obtain⟨k1,hk1,h0⟩:=bnd h0;refine .af [.call [] (.dQ [aE (ak k1.1),iE k1.2]) []] (A (OT n _ _ _ hk1) T) [(4,pw 4),(5,iE k1.2)] [.o 4 (.cells ((ak k1.1).map .d))] ?_;refine .bP h0 rfl [2,4] (fun o2=>[(25,bE o2)]) n1 n1 (fun o2 h0=>?_) (fun y1 h1 hj1=>?_)
 ·refine .jT h0 (fun hc3 h0=>?_) (fun hc3 h0=>?_)
  ·refine .a [] T [(3,bE false)] ?_;cases h0;exact .rt hK
  ·refine .af [] T [(3,bE true)] [.o 2 (.cells ((ak k1.1).map .d))] ?_;cases h0;exact .rt hK
 ·by_cases g4:k1.2<0
  ·have h1:=aI g4 h1;refine .a (rb 11 true []) (R 7 (dt g4) (R 4 B1 T)) [(25,bE true)] ?_;cases h1;exact .lg hj1 []
  ·have h1:=aJ g4 h1;obtain⟨k5,hk5,h1⟩:=bnd h1;by_cases g6:¬k5=(a0.length:Int)
   ·have h1:=aI g6 h1;refine .a (rb 3 false (.call [] (iE k5) []::(rb 4 false (rb 4 true [])))) (R 2 (df g4) (A (A (df g4) (rD n _ _ hk5)) (R 4 (df g4) (R 4 (dt g6) T)))) [(25,bE true)] ?_;cases h1;exact .lg hj1 []
   ·have h1:=aJ g6 h1;obtain⟨k7,Ja,h1⟩:=bnd h1;refine .a (rb 3 false (.call [] (iE k5) []::(rb 6 false [.call [] (bE k7) [],.b false,.b false]))) (R 2 (df g4) (A (A (df g4) (rD n _ _ hk5)) (R 4 (df g4) (A (df g6) (A (A (df g6) (aT n _ Ja)) (R 2 (df g6) T)))))) [(25,bE (!k7))] ?_;cases h1;exact .lg hj1 []
def nZ (n:Nat) (a0:List UInt8):Option (Form):=
 (sK n a0).bind fun k1=>some k1.1
theorem yw (n:Nat):∀(a0:List UInt8) {r:Form},nZ n a0=some r→aF X.E 155 [sE a0] [] (aE (ak r)) []:=by
 intro a0 r h0;rw[nZ] at h0;refine .n Tryz.func155 (fun L ks low K hl hL hlen hK=>?_);refine .af [] T [(2,pw 2)] [.o 2 (.cells [iE 0,sE [],iE 0,fE 1 (ah []),fE 5 (aj [])])] ?_;obtain⟨k1,hk1,h0⟩:=bnd h0;refine .af [.call [] (.dQ [aE (ak k1.1),bE k1.2]) []] (A (IE n _ hk1) T) [(3,pw 3)] [.o 3 (.cells ((ak k1.1).map .d))] ?_;refine .af [] T [] [.o 2 (.cells ((ak k1.1).map .d))] ?_;cases h0;exact .rt hK
def gU (n:Nat) (a0:List Form):Option (Form):=
 some (⟨3,[],0,[],a0⟩:Form)
theorem ig (n:Nat):∀(a0:List Form) {r:Form},gU n a0=some r→aF X.E 90 [lE 5 (aj a0)] [] (aE (ak r)) []:=by
 intro a0 r h0;rw[gU] at h0;refine .n Tryz.func90 (fun L ks low K hl hL hlen hK=>?_);refine .af [] T [(2,pw 2)] [.o 2 (.cells [iE 0,sE [],iE 0,fE 1 (ah []),fE 5 (aj [])])] ?_;refine .af [] T [] [.c 2 0 (iE 3),.c 2 4 (lE 5 (aj a0))] ?_;cases h0;exact .rt hK
def gu:Nat→(List (List UInt8))→Int→bf→Option (Form×bf)
 | 0,_,_,_=>none
 | n+1,a1,a2,w0=>Option.bind ((if a2=0 then some (true,w0) else(aP n 5 w0).bind fun k46=>some ((decide (k46.1=0)),k46.2)):Option (Bool×bf)) (fun(o1:Bool×bf)=>(if o1.1=true then(aP n 3 o1.2).bind fun k3=>(if k3.1=0 then(dw n [0,1,2,7] k3.2).bind fun k5=>some ((⟨2,[],k5.1,[],[]⟩:Form),k5.2) else(aP n (a1.length:Int) k3.2).bind fun k6=>(gQ a1 k6.1).bind fun e7=>(fC n e7).bind fun k8=>some (k8,k6.2)) else(iG n [[120],[121],[116]] o1.2).bind fun k10=>(jy 16 [] a1).bind fun z11=>(jy 16 z11 [k10.1]).bind fun z12=>(aP n 8 k10.2).bind fun k13=>Option.bind ((if k13.1=0 then some (decide (k13.1=0)) else some (decide (k13.1=1))):Option (Bool)) (fun(AQ:Bool)=>(if AQ=true then(fC n [108,97,109,98,100,97]).bind fun k16=>(fC n k10.1).bind fun k17=>(gU n [k17]).bind fun k18=>(gu n z12 (aY (a2-1)) k13.2).bind fun k19=>(gU n [k16,k18,k19.1]).bind fun k20=>some (k20,k19.2) else Option.bind ((if k13.1=2 then some (decide (k13.1=2)) else some (decide (k13.1=3))):Option (Bool)) (fun(o21:Bool)=>(if o21=true then(fC n k10.1).bind fun k23=>(gu n a1 (aY (a2-1)) k13.2).bind fun k24=>(gU n [k23,k24.1]).bind fun k25=>(fC n [108,101,116]).bind fun k26=>(gU n [k25]).bind fun k27=>(gu n z12 (aY (a2-1)) k24.2).bind fun k28=>(gU n [k26,k27,k28.1]).bind fun k29=>some (k29,k28.2) else(if k13.1=4 then(fC n [105,102]).bind fun k31=>(gu n a1 (aY (a2-1)) k13.2).bind fun k32=>(gu n a1 (aY (a2-1)) k32.2).bind fun k33=>(gu n a1 0 k33.2).bind fun k34=>(gU n [k31,k32.1,k33.1,k34.1]).bind fun Fb=>some (Fb,k34.2) else(if k13.1=5 then(fC n [113,117,111,116,101]).bind fun k37=>(lG n 1 k13.2).bind fun k38=>(gU n [k37,k38.1]).bind fun k39=>some (k39,k38.2) else(gu n a1 (aY (a2-1)) k13.2).bind fun Zn=>(gu n a1 (aY (a2-1)) Zn.2).bind fun Zo=>(gU n [Zn.1,Zo.1]).bind fun k42=>some (k42,Zo.2)))))))))
theorem OU (n:Nat):∀(a1:List (List UInt8)) (a2:Int) (w0:bf) {r:Form×bf},gu n a1 a2 w0=some r→aF X.E 183 [pl 0,lE 1 (aH a1),iE a2] [some (.cells ((aC w0).map .d))] (aE (ak r.1)) [.cells ((aC r.2).map .d)]:=by
 induction n with
 | zero=>intro a1 a2 w0 r h; cases h
 | succ n ih=>
  intro a1 a2 w0 r h0;rw[gu] at h0;refine .n Tryz.func183 (fun L ks low K hl hL hlen hK=>?_);refine .af [] T [(6,pw 6)] [.o 6 (.cells [iE 0,sE [],iE 0,fE 1 (ah []),fE 5 (aj [])])] ?_;refine .bP h0 rfl [0,1,2,6] (fun o1=>[(16,bE o1.1)]) n1 (fun o1=>[.o 0 (.cells ((aC o1.2).map .d))]) (fun o1 h0=>?_) (fun y1 h1 hj1=>?_)
  ·refine .jT h0 (fun hc2 h0=>?_) (fun hc2 h0=>?_)
   ·obtain⟨k3,hk3,h0⟩:=bnd h0;refine .ao [.call [.low 0] (iE k3.1) [.cells ((aC k3.2).map .d)]] (A (aW n _ _ hk3) T) [(19,dE (k3.1=0))] [.o 0 (.cells ((aC k3.2).map .d))] ?_;refine .jP h0 (fun hc4 h0=>?_) (fun hc4 h0=>?_)
    ·obtain⟨k5,hk5,h0⟩:=bnd h0;refine .aq [.sv (ah [0,1,2,7]),.call [.low 0] (iE k5.1) [.cells ((aC k5.2).map .d)]] [] (A (aO.lit [0,1,2,7]) (A (dO n _ _ hk5) T)) [] [.c 6 0 (iE 2),.c 6 2 (iE k5.1)] [.o 0 (.cells ((aC k5.2).map .d))] ?_;cases h0;exact .rt hK
    ·obtain⟨k6,hk6,h0⟩:=bnd h0;obtain⟨e7,Fa,h0⟩:=bnd h0;obtain⟨k8,hk8,h0⟩:=bnd h0;refine .aq [.v (a1.length:Int),.call [.low 0] (iE k6.1) [.cells ((aC k6.2).map .d)],.cs [.s e7],.call [] (aE (ak k8)) []] [] (A (dZ.len' a1) (A (aW n _ _ hk6) (A (dZ.idx Fa) (A (iH n _ hk8) T)))) [] [.o 6 (.cells ((ak k8).map .d))] [.o 0 (.cells ((aC k6.2).map .d))] ?_;refine .sn 1 dZ a1 (by kernel_rfl) (fun hb9=>?_);cases h0;exact .rt hK
   ·obtain⟨k10,hk10,h0⟩:=bnd h0;refine .ao [.sv (aH [[120],[121],[116]]),.call [.low 0] (sE k10.1) [.cells ((aC k10.2).map .d)]] (A (dZ.lit [[120],[121],[116]]) (A (nO n _ _ hk10) T)) [(7,sE k10.1)] [.o 0 (.cells ((aC k10.2).map .d))] ?_;obtain⟨z11,Cc,h0⟩:=bnd h0;obtain⟨z12,LJ,h0⟩:=bnd h0;refine .aq [.sv (aH []),.sv (aH z11),.sv (aH [k10.1]),.sv (aH z12)] [((aH z11).length:Int)] (A (dZ.lit []) (A (dZ.ap Cc) (A (dZ.lit [k10.1]) (A (dZ.ap LJ) T)))) [(8,.gs (.own 100037) 1 (aH z12))] [.o 100037 (.tok (aH z12).length 9)] [] ?_;obtain⟨k13,pq,h0⟩:=bnd h0;refine .ao [.call [.low 0] (iE k13.1) [.cells ((aC k13.2).map .d)]] (A (aW n _ _ pq) T) [(42,iE k13.1)] [.o 0 (.cells ((aC k13.2).map .d))] ?_;refine .a [] T [(43,dE (k13.1=0))] ?_;refine .bP h0 rfl [0,1,2,6,7,8,42] (fun AQ=>[(43,bE AQ)]) n1 n1 (fun AQ h0=>?_) (fun y1 h1 hj1=>?_)
    ·refine .jT h0 (fun vO h0=>?_) (fun vO h0=>?_)
     ·obtain⟨k16,sJ,h0⟩:=bnd h0;obtain⟨k17,Dx,h0⟩:=bnd h0;obtain⟨k18,nG,h0⟩:=bnd h0;obtain⟨k19,zG,h0⟩:=bnd h0;obtain⟨k20,Ir,h0⟩:=bnd h0;refine .aq [.call [] (aE (ak k16)) [],.call [] (aE (ak k17)) [],.sv (aj [k17]),.call [] (aE (ak k18)) [],.pl,.call [.low 0] (aE (ak k19.1)) [.cells ((aC k19.2).map .d)],.sv (aj [k16,k18,k19.1]),.call [] (aE (ak k20)) []] [] (A (iH n _ sJ) (A (iH n _ Dx) (A (aA.lit [k17]) (A (ig n _ nG) (A (ih _ _ _ zG) (A (aA.lit [k16,k18,k19.1]) (A (ig n _ Ir) T))))))) [] [.o 6 (.cells ((ak k20).map .d))] [.o 0 (.cells ((aC k19.2).map .d))] ?_;cases h0;exact .rt hK
     ·refine .a [] T [(58,dE (k13.1=2))] ?_;refine .bP h0 rfl [0,1,2,6,7,8,42] (fun o21=>[(58,bE o21)]) n1 n1 (fun o21 h0=>?_) (fun y1 h1 hj1=>?_)
      ·refine .jT h0 (fun hc22 h0=>?_) (fun hc22 h0=>?_)
       ·obtain⟨k23,QX,h0⟩:=bnd h0;obtain⟨k24,Es,h0⟩:=bnd h0;obtain⟨k25,Ci,h0⟩:=bnd h0;refine .aq [.call [] (aE (ak k23)) [],.pl,.call [.low 0] (aE (ak k24.1)) [.cells ((aC k24.2).map .d)],.sv (aj [k23,k24.1]),.call [] (aE (ak k25)) []] [] (A (iH n _ QX) (A (ih _ _ _ Es) (A (aA.lit [k23,k24.1]) (A (ig n _ Ci) T)))) [(9,pw 9)] [.o 9 (.cells ((ak k25).map .d))] [.o 0 (.cells ((aC k24.2).map .d))] ?_;obtain⟨k26,Et,h0⟩:=bnd h0;obtain⟨k27,xY,h0⟩:=bnd h0;obtain⟨k28,LH,h0⟩:=bnd h0;obtain⟨k29,UF,h0⟩:=bnd h0;refine .ad mixed [(0,[.call [] (aE (ak k26)) []]),(2,[.sv (aj [k25])]),(3,[.call [] (aE (ak k27)) []]),(7,[.pl]),(8,[.call [.low 0] (aE (ak k28.1)) [.cells ((aC k28.2).map .d)]]),(9,[.sv (aj [k26,k27,k28.1])]),(10,[.call [] (aE (ak k29)) []])] [] (A (iH n _ Et) (A (aA.lit [k25]) (A (ig n _ xY) (A (ih _ _ _ LH) (A (aA.lit [k26,k27,k28.1]) (A (ig n _ UF) T)))))) [] [.o 6 (.cells ((ak k29).map .d))] [.o 0 (.cells ((aC k28.2).map .d))] ?_;cases h0;exact .rt hK
       ·refine .a [] T [(81,dE (k13.1=4))] ?_;refine .jP h0 (fun Xd h0=>?_) (fun Xd h0=>?_)
        ·obtain⟨k31,hk31,h0⟩:=bnd h0;obtain⟨k32,IC,h0⟩:=bnd h0;obtain⟨k33,Oz,h0⟩:=bnd h0;obtain⟨k34,UG,h0⟩:=bnd h0;obtain⟨Fb,LP,h0⟩:=bnd h0;refine .aq [.call [] (aE (ak k31)) [],.pl,.call [.low 0] (aE (ak k32.1)) [.cells ((aC k32.2).map .d)],.pl,.call [.low 0] (aE (ak k33.1)) [.cells ((aC k33.2).map .d)],.call [.low 0] (aE (ak k34.1)) [.cells ((aC k34.2).map .d)],.sv (aj [k31,k32.1,k33.1,k34.1]),.call [] (aE (ak Fb)) []] [] (A (iH n _ hk31) (A (ih _ _ _ IC) (A (ih _ _ _ Oz) (A (ih _ _ _ UG) (A (aA.lit [k31,k32.1,k33.1,k34.1]) (A (ig n _ LP) T)))))) [] [.o 6 (.cells ((ak Fb).map .d))] [.o 0 (.cells ((aC k34.2).map .d))] ?_;cases h0;exact .rt hK
        ·refine .a [] T [(99,dE (k13.1=5))] ?_;refine .jP h0 (fun afJ h0=>?_) (fun afJ h0=>?_)
         ·obtain⟨k37,Xl,h0⟩:=bnd h0;obtain⟨k38,abd,h0⟩:=bnd h0;obtain⟨k39,abp,h0⟩:=bnd h0;refine .aq [.call [] (aE (ak k37)) [],.call [.low 0] (aE (ak k38.1)) [.cells ((aC k38.2).map .d)],.sv (aj [k37,k38.1]),.call [] (aE (ak k39)) []] [] (A (iH n _ Xl) (A (Fq n _ _ abd) (A (aA.lit [k37,k38.1]) (A (ig n _ abp) T)))) [] [.o 6 (.cells ((ak k39).map .d))] [.o 0 (.cells ((aC k38.2).map .d))] ?_;cases h0;exact .rt hK
         ·obtain⟨Zn,afK,h0⟩:=bnd h0;obtain⟨Zo,afL,h0⟩:=bnd h0;obtain⟨k42,afM,h0⟩:=bnd h0;refine .aq [.pl,.call [.low 0] (aE (ak Zn.1)) [.cells ((aC Zn.2).map .d)],.pl,.call [.low 0] (aE (ak Zo.1)) [.cells ((aC Zo.2).map .d)],.sv (aj [Zn.1,Zo.1]),.call [] (aE (ak k42)) []] [] (A (ih _ _ _ afK) (A (ih _ _ _ afL) (A (aA.lit [Zn.1,Zo.1]) (A (ig n _ afM) T)))) [] [.o 6 (.cells ((ak k42).map .d))] [.o 0 (.cells ((aC Zo.2).map .d))] ?_;cases h0;exact .rt hK
      ·refine .jP h1 (fun afN h1=>?_) (fun afN h1=>?_)
       ·cases h1;exact .lg hj1 []
       ·refine .a [] T [(58,dE (k13.1=3))] ?_;cases h1;exact .lg hj1 []
    ·refine .jP h1 (fun afO h1=>?_) (fun afO h1=>?_)
     ·cases h1;exact .lg hj1 []
     ·refine .a [] T [(43,dE (k13.1=1))] ?_;cases h1;exact .lg hj1 []
  ·by_cases g45:a2=0
   ·have h1:=aI g45 h1;refine .a (rb 4 true []) (R 4 (dt g45) T) [(16,bE true)] ?_;cases h1;exact .lg hj1 []
   ·have h1:=aJ g45 h1;obtain⟨k46,afP,h1⟩:=bnd h1;refine .ao [.b false,.b false,.call [.low 0] (iE k46.1) [.cells ((aC k46.2).map .d)],.b false,.b false] (A (df g45) (A (A (df g45) (aW n _ _ afP)) (R 2 (df g45) T))) [(16,dE (k46.1=0))] [.o 0 (.cells ((aC k46.2).map .d))] ?_;cases h1;exact .lg hj1 []
def yx (n:Nat)  : Option (List (List UInt8)):=
 some [ny,ni,mP,mX,mF,mM,mO,mJ,mW,ng,lZ,mG,mZ,mQ,mY]
theorem LZ (n:Nat):∀{r:List (List UInt8)},yx n  = some r→aF X.E 182 [] [] (lE 1 (aH r)) []:=by
 intro r h0;rw[yx] at h0;refine .n Tryz.func182 (fun L ks low K hl hL hlen hK=>?_);refine .a [] T [] ?_;refine .a [.sv (aH [ny,ni,mP,mX,mF,mM,mO,mJ,mW,ng,lZ,mG,mZ,mQ,mY])] (A (dZ.lit [ny,ni,mP,mX,mF,mM,mO,mJ,mW,ng,lZ,mG,mZ,mQ,mY]) T) [(0,fE 1 (aH [ny,ni,mP,mX,mF,mM,mO,mJ,mW,ng,lZ,mG,mZ,mQ,mY]))] ?_;cases h0;exact .rt hK
def xu (n:Nat) (w0:bf):Option (Form×bf):=
 (yx n).bind fun k1=>(aP n 3 w0).bind fun k2=>(if k2.1>0 then(aP n (k1.length:Int) k2.2).bind fun k4=>(gQ k1 k4.1).bind fun e5=>(nZ n e5).bind fun k6=>some (k6,k4.2) else(dw n [4,3,2] k2.2).bind fun k8=>(gu n [[43],[108,105,115,116],[103]] k8.1 k8.2).bind fun k9=>(aP n 2 k9.2).bind fun k10=>Option.bind ((if k10.1=0 then(nZ n BD).bind fun k13=>(fC n iC).bind fun k14=>(fC n [103]).bind fun k15=>(gU n [k15,k13]).bind fun k16=>(gU n [k16]).bind fun k17=>(gU n [k14,k17,k9.1]).bind fun k18=>some k18 else some k9.1):Option (Form)) (fun(Jp:Form)=>some (Jp,k10.2)))
theorem OV (n:Nat):∀(w0:bf) {r:Form×bf},xu n w0=some r→aF X.E 156 [pl 0] [some (.cells ((aC w0).map .d))] (aE (ak r.1)) [.cells ((aC r.2).map .d)]:=by
 intro w0 r h0;rw[xu] at h0;refine .n Tryz.func156 (fun L ks low K hl hL hlen hK=>?_);refine .af [] T [(2,pw 2)] [.o 2 (.cells [iE 0,sE [],iE 0,fE 1 (ah []),fE 5 (aj [])])] ?_;obtain⟨k1,hk1,h0⟩:=bnd h0;refine .a [.call [] (lE 1 (aH k1)) []] (A (LZ n  hk1) T) [(3,lE 1 (aH k1))] ?_;obtain⟨k2,hk2,h0⟩:=bnd h0;refine .ao [.call [.low 0] (iE k2.1) [.cells ((aC k2.2).map .d)]] (A (aW n _ _ hk2) T) [(9,dE (k2.1>0))] [.o 0 (.cells ((aC k2.2).map .d))] ?_;refine .jP h0 (fun hc3 h0=>?_) (fun hc3 h0=>?_)
 ·obtain⟨k4,hk4,h0⟩:=bnd h0;obtain⟨e5,PV,h0⟩:=bnd h0;obtain⟨k6,hk6,h0⟩:=bnd h0;refine .aq [.v (k1.length:Int),.call [.low 0] (iE k4.1) [.cells ((aC k4.2).map .d)],.cs [.s e5],.call [] (aE (ak k6)) []] [] (A (dZ.len' k1) (A (aW n _ _ hk4) (A (dZ.idx PV) (A (yw n _ hk6) T)))) [] [.o 2 (.cells ((ak k6).map .d))] [.o 0 (.cells ((aC k4.2).map .d))] ?_;refine .sn 3 dZ k1 (by kernel_rfl) (fun hb7=>?_);cases h0;exact .rt hK
 ·obtain⟨k8,hk8,h0⟩:=bnd h0;obtain⟨k9,hk9,h0⟩:=bnd h0;refine .aq [.sv (aH [[43],[108,105,115,116],[103]]),.sv (ah [4,3,2]),.call [.low 0] (iE k8.1) [.cells ((aC k8.2).map .d)],.call [.low 0] (aE (ak k9.1)) [.cells ((aC k9.2).map .d)]] [] (A (dZ.lit [[43],[108,105,115,116],[103]]) (A (aO.lit [4,3,2]) (A (dO n _ _ hk8) (A (OU n _ _ _ hk9) T)))) [(4,pw 4)] [.o 4 (.cells ((ak k9.1).map .d))] [.o 0 (.cells ((aC k9.2).map .d))] ?_;obtain⟨k10,hk10,h0⟩:=bnd h0;refine .ao [.call [.low 0] (iE k10.1) [.cells ((aC k10.2).map .d)]] (A (aW n _ _ hk10) T) [(26,dE (k10.1=0))] [.o 0 (.cells ((aC k10.2).map .d))] ?_;refine .bP h0 rfl [2,4] (fun Jp=>[]) (fun Jp=>[.o 4 (.cells ((ak Jp).map .d))]) n1 (fun Jp h0=>?_) (fun y1 h1 hj1=>?_)
  ·refine .af [] T [] [.o 2 (.cells ((ak Jp).map .d))] ?_;cases h0;exact .rt hK
  ·refine .jP h1 (fun hc12 h1=>?_) (fun hc12 h1=>?_)
   ·obtain⟨k13,pq,h1⟩:=bnd h1;refine .af [.call [] (aE (ak k13)) []] (A (yw n _ pq) T) [(5,pw 5)] [.o 5 (.cells ((ak k13).map .d))] ?_;obtain⟨k14,vM,h1⟩:=bnd h1;obtain⟨k15,rW,h1⟩:=bnd h1;obtain⟨k16,sJ,h1⟩:=bnd h1;obtain⟨k17,Dx,h1⟩:=bnd h1;obtain⟨k18,nG,h1⟩:=bnd h1;refine .ad mixed [(0,[.call [] (aE (ak k14)) []]),(1,[.call [] (aE (ak k15)) []]),(3,[.sv (aj [k15,k13])]),(4,[.call [] (aE (ak k16)) []]),(5,[.sv (aj [k16])]),(6,[.call [] (aE (ak k17)) []]),(8,[.sv (aj [k14,k17,k9.1])]),(9,[.call [] (aE (ak k18)) []])] [] (A (iH n _ vM) (A (iH n _ rW) (A (aA.lit [k15,k13]) (A (ig n _ sJ) (A (aA.lit [k16]) (A (ig n _ Dx) (A (aA.lit [k14,k17,k9.1]) (A (ig n _ nG) T)))))))) [] [.o 4 (.cells ((ak k18).map .d))] [] ?_;cases h1;refine .kp [2,4] [] ?_;refine .dr 5 (by kernel_rfl) ?_;exact .lg hj1 []
   ·cases h1;exact .lg hj1 []
def yA (n:Nat)  : Option (List (List UInt8)):=
 some [l9,mg,lX,lW,mV,lY,[40,49,32,50,41],l7,uq,mD,oZ,nC]
theorem L6 (n:Nat):∀{r:List (List UInt8)},yA n  = some r→aF X.E 154 [] [] (lE 1 (aH r)) []:=by
 intro r h0;rw[yA] at h0;refine .n Tryz.func154 (fun L ks low K hl hL hlen hK=>?_);refine .a [] T [] ?_;refine .a [.sv (aH [l9,mg,lX,lW,mV,lY,[40,49,32,50,41],l7,uq,mD,oZ,nC])] (A (dZ.lit [l9,mg,lX,lW,mV,lY,[40,49,32,50,41],l7,uq,mD,oZ,nC]) T) [(0,fE 1 (aH [l9,mg,lX,lW,mV,lY,[40,49,32,50,41],l7,uq,mD,oZ,nC]))] ?_;cases h0;exact .rt hK
def xw (n:Nat) (w0:bf):Option (Form×bf):=
 (yA n).bind fun k1=>(aP n 3 w0).bind fun k2=>(if k2.1>0 then(aP n (k1.length:Int) k2.2).bind fun k4=>(gQ k1 k4.1).bind fun e5=>(nZ n e5).bind fun k6=>some (k6,k4.2) else(xu n k2.2).bind fun k8=>some (k8.1,k8.2))
theorem OW (n:Nat):∀(w0:bf) {r:Form×bf},xw n w0=some r→aF X.E 129 [pl 0] [some (.cells ((aC w0).map .d))] (aE (ak r.1)) [.cells ((aC r.2).map .d)]:=by
 intro w0 r h0;rw[xw] at h0;refine .n Tryz.func129 (fun L ks low K hl hL hlen hK=>?_);refine .af [] T [(2,pw 2)] [.o 2 (.cells [iE 0,sE [],iE 0,fE 1 (ah []),fE 5 (aj [])])] ?_;obtain⟨k1,hk1,h0⟩:=bnd h0;refine .a [.call [] (lE 1 (aH k1)) []] (A (L6 n  hk1) T) [(3,lE 1 (aH k1))] ?_;obtain⟨k2,hk2,h0⟩:=bnd h0;refine .ao [.call [.low 0] (iE k2.1) [.cells ((aC k2.2).map .d)]] (A (aW n _ _ hk2) T) [(7,dE (k2.1>0))] [.o 0 (.cells ((aC k2.2).map .d))] ?_;refine .jP h0 (fun hc3 h0=>?_) (fun hc3 h0=>?_)
 ·obtain⟨k4,hk4,h0⟩:=bnd h0;obtain⟨e5,PV,h0⟩:=bnd h0;obtain⟨k6,hk6,h0⟩:=bnd h0;refine .aq [.v (k1.length:Int),.call [.low 0] (iE k4.1) [.cells ((aC k4.2).map .d)],.cs [.s e5],.call [] (aE (ak k6)) []] [] (A (dZ.len' k1) (A (aW n _ _ hk4) (A (dZ.idx PV) (A (yw n _ hk6) T)))) [] [.o 2 (.cells ((ak k6).map .d))] [.o 0 (.cells ((aC k4.2).map .d))] ?_;refine .sn 3 dZ k1 (by kernel_rfl) (fun hb7=>?_);cases h0;exact .rt hK
 ·obtain⟨k8,hk8,h0⟩:=bnd h0;refine .aq [.call [.low 0] (aE (ak k8.1)) [.cells ((aC k8.2).map .d)]] [] (A (OV n _ hk8) T) [] [.o 2 (.cells ((ak k8.1).map .d))] [.o 0 (.cells ((aC k8.2).map .d))] ?_;cases h0;exact .rt hK
def jR (n:Nat) (a0:List UInt8):Option (Core×Int):=
 (nY n a0).bind fun k1=>(aP n 4 k1).bind fun k2=>(if k2.1=0 then(tJ n a0).bind fun k4=>some (k4,200) else(xw n k2.2).bind fun k5=>(nN n k5.1 20).bind fun k6=>Option.bind ((if ¬k6.2=0 then(tJ n a0).bind fun k10=>some k10 else some k6.1):Option (Core)) (fun(o7:Core)=>(dw n [500,100,20,5,0,3001] k5.2).bind fun k8=>some (o7,k8.1)))
theorem DN (n:Nat):∀(a0:List UInt8) {r:Core×Int},jR n a0=some r→aF X.E 102 [lE 1 (iy a0)] [] (.dQ [aE (aN r.1),iE r.2]) []:=by
 intro a0 r h0;rw[jR] at h0;refine .n Tryz.func102 (fun L ks low K hl hL hlen hK=>?_);refine .af [] T [(2,pw 2)] [.o 2 (.cells [iE 0,iE 0,sE [],iE 0,fE 1 (ah []),iE 0,sE [],iE 0,fE 1 (ah []),fE 5 (aj []),fE 11 (aG [])])] ?_;obtain⟨k1,hk1,h0⟩:=bnd h0;refine .af [.call [.own 200008] (pl 0) [.cells ((aC k1).map .d)]] (A (yu n _ hk1) T) [(4,pw 200008)] [.o 200008 (.cells ((aC k1).map .d))] ?_;obtain⟨k2,hk2,h0⟩:=bnd h0;refine .af [.call [.own 200008] (iE k2.1) [.cells ((aC k2.2).map .d)]] (A (aW n _ _ hk2) T) [(11,dE (k2.1=0))] [.o 200008 (.cells ((aC k2.2).map .d))] ?_;refine .jP h0 (fun hc3 h0=>?_) (fun hc3 h0=>?_)
 ·obtain⟨k4,hk4,h0⟩:=bnd h0;refine .af [.call [] (aE (aN k4)) []] (A (Fv n _ hk4) T) [(3,iE 200)] [.o 2 (.cells ((aN k4).map .d))] ?_;cases h0;exact .rt hK
 ·obtain⟨k5,hk5,h0⟩:=bnd h0;obtain⟨k6,hk6,h0⟩:=bnd h0;refine .af [.call [.own 200008] (aE (ak k5.1)) [.cells ((aC k5.2).map .d)],.call [] (.dQ [aE (aN k6.1),iE k6.2]) []] (A (OW n _ hk5) (A (F5 n _ _ hk6) T)) [(5,pw 5),(6,iE k6.2)] [.o 200008 (.cells ((aC k5.2).map .d)),.o 5 (.cells ((aN k6.1).map .d))] ?_;refine .a [] T [(21,dE (¬k6.2=0))] ?_;refine .bP h0 rfl [2,4,5] (fun o7=>[]) (fun o7=>[.o 5 (.cells ((aN o7).map .d))]) n1 (fun o7 h0=>?_) (fun y1 h1 hj1=>?_)
  ·obtain⟨k8,hk8,h0⟩:=bnd h0;refine .ad mixed [(2,[.sv (ah [500,100,20,5,0,3001])]),(3,[.call [.own 200008] (iE k8.1) [.cells ((aC k8.2).map .d)]])] [] (A (aO.lit [500,100,20,5,0,3001]) (A (dO n _ _ hk8) T)) [(3,iE k8.1)] [.o 2 (.cells ((aN o7).map .d)),.o 200008 (.cells ((aC k8.2).map .d))] [] ?_;cases h0;exact .rt hK
  ·refine .jP h1 (fun fK h1=>?_) (fun fK h1=>?_)
   ·obtain⟨k10,hk10,h1⟩:=bnd h1;refine .af [.call [] (aE (aN k10)) []] (A (Fv n _ hk10) T) [] [.o 5 (.cells ((aN k10).map .d))] ?_;cases h1;exact .lg hj1 []
   ·cases h1;exact .lg hj1 []
def uJ (n:Nat) (a0:List UInt8):Option (Core):=
 (jR n a0).bind fun k1=>some k1.1
theorem L8 (n:Nat):∀(a0:List UInt8) {r:Core},uJ n a0=some r→aF X.E 56 [lE 1 (iy a0)] [] (aE (aN r)) []:=by
 intro a0 r h0;rw[uJ] at h0;refine .n Tryz.func56 (fun L ks low K hl hL hlen hK=>?_);refine .af [] T [(2,pw 2)] [.o 2 (.cells [iE 0,iE 0,sE [],iE 0,fE 1 (ah []),iE 0,sE [],iE 0,fE 1 (ah []),fE 5 (aj []),fE 11 (aG [])])] ?_;obtain⟨k1,hk1,h0⟩:=bnd h0;refine .af [.call [] (.dQ [aE (aN k1.1),iE k1.2]) []] (A (DN n _ hk1) T) [(3,pw 3)] [.o 3 (.cells ((aN k1.1).map .d))] ?_;refine .af [] T [] [.o 2 (.cells ((aN k1.1).map .d))] ?_;cases h0;exact .rt hK
def jv (n:Nat) (a0:List UInt8):Option (Core):=
 (uJ n a0).bind fun k1=>(nY n a0).bind fun k2=>(aP n 3 k2).bind fun k3=>(if k3.1=0 then(iG n [[97,49],[98,50],[97,48],[113]] k3.2).bind fun k5=>some (⟨6,0,[],0,[],(⟨0,[],0,[],[]⟩:Form),[k1,(⟨2,0,k5.1,0,[],(⟨0,[],0,[],[]⟩:Form),[]⟩:Core),(⟨2,0,[97,55],0,[],(⟨0,[],0,[],[]⟩:Form),[]⟩:Core)]⟩:Core) else some k1)
theorem Cj (n:Nat):∀(a0:List UInt8) {r:Core},jv n a0=some r→aF X.E 18 [lE 1 (iy a0)] [] (aE (aN r)) []:=by
 intro a0 r h0;rw[jv] at h0;refine .n Tryz.func18 (fun L ks low K hl hL hlen hK=>?_);refine .af [] T [(2,pw 2)] [.o 2 (.cells [iE 0,iE 0,sE [],iE 0,fE 1 (ah []),iE 0,sE [],iE 0,fE 1 (ah []),fE 5 (aj []),fE 11 (aG [])])] ?_;obtain⟨k1,hk1,h0⟩:=bnd h0;refine .af [.call [] (aE (aN k1)) []] (A (L8 n _ hk1) T) [(3,pw 3)] [.o 3 (.cells ((aN k1).map .d))] ?_;obtain⟨k2,hk2,h0⟩:=bnd h0;refine .af [.call [.own 200009] (pl 0) [.cells ((aC k2).map .d)]] (A (yu n _ hk2) T) [(4,pw 200009)] [.o 200009 (.cells ((aC k2).map .d))] ?_;obtain⟨k3,hk3,h0⟩:=bnd h0;refine .af [.call [.own 200009] (iE k3.1) [.cells ((aC k3.2).map .d)]] (A (aW n _ _ hk3) T) [(12,dE (k3.1=0))] [.o 200009 (.cells ((aC k3.2).map .d))] ?_;refine .jP h0 (fun hc4 h0=>?_) (fun hc4 h0=>?_)
 ·obtain⟨k5,hk5,h0⟩:=bnd h0;refine .af [.sv (aH [[97,49],[98,50],[97,48],[113]]),.call [.own 200009] (sE k5.1) [.cells ((aC k5.2).map .d)]] (A (dZ.lit [[97,49],[98,50],[97,48],[113]]) (A (nO n _ _ hk5) T)) [(5,pw 5)] [.o 200009 (.cells ((aC k5.2).map .d)),.o 5 (.cells [iE 2,iE 0,sE k5.1,iE 0,fE 1 (ah []),iE 0,sE [],iE 0,fE 1 (ah []),fE 5 (aj []),fE 11 (aG [])])] ?_;refine .af [.sv (aG [k1,(⟨2,0,k5.1,0,[],(⟨0,[],0,[],[]⟩:Form),[]⟩:Core),(⟨2,0,[97,55],0,[],(⟨0,[],0,[],[]⟩:Form),[]⟩:Core)])] (A (dh.lit [k1,(⟨2,0,k5.1,0,[],(⟨0,[],0,[],[]⟩:Form),[]⟩:Core),(⟨2,0,[97,55],0,[],(⟨0,[],0,[],[]⟩:Form),[]⟩:Core)]) T) [] [.c 2 0 (iE 6),.c 2 10 (fE 11 (aG [k1,(⟨2,0,k5.1,0,[],(⟨0,[],0,[],[]⟩:Form),[]⟩:Core),(⟨2,0,[97,55],0,[],(⟨0,[],0,[],[]⟩:Form),[]⟩:Core)]))] ?_;cases h0;exact .rt hK
 ·refine .af [] T [] [.o 2 (.cells ((aN k1).map .d))] ?_;cases h0;exact .rt hK
def L9 (n:Nat) (a0:List (List UInt8)) (a1:List UInt8):Option (Bool):=
 bI (bQ (fun(s2:Unit) (i1:Nat) (x4:List UInt8)=>((if x4=a1 then some (Sum.inl true) else some (Sum.inr ())):Option (Bool⊕Unit))) 0 a0 ()) (fun(s2:Unit)=>some false)
theorem acp (n:Nat):∀(a0:List (List UInt8)) (a1:List UInt8) {r:Bool},L9 n a0 a1=some r→aF X.E 86 [lE 1 (aH a0),sE a1] [] (bE r) []:=by
 intro a0 a1 r h0;rw[L9] at h0;refine .n Tryz.func86 (fun L ks low K hl hL hlen hK=>?_);refine .a [] T [] ?_;refine .a [] T [(5,iE 0)] ?_;refine .lI h0 rfl [0,1] (fun i1 s2=>[(5,iE (i1:Int))]) n2 n2 [] (by kernel_rfl) (fun i1 s2 q3 hd5 PS h0=>?_);refine .a [.v (a0.length:Int)] (A (dZ.len' a0) T) [(9,dE ((i1:Int)<(a0.length:Int)))] ?_;refine .sn 0 dZ a0 (by kernel_rfl) (fun hb8=>?_);refine .lc hd5 rfl (by kernel_rfl) (fun x4 q32 fK hx4 hd6 lQ=>?_) (fun fK=>?_)
 ·subst fK;obtain⟨y1,h1,hw1,hn1⟩:=bg h0;refine .a [.cs [.s x4]] (A (dZ.ji hx4) T) [(17,dE (x4=a1))] ?_;refine .jP h1 (fun jo h1=>?_) (fun jo h1=>?_)
  ·refine .a [] T [(4,bE true)] ?_;cases h1;cases hw1 _ rfl;exact .rt hK
  ·refine .a [.v ((i1+1:Nat):Int)] (A (wn (i:=i1) (by omega)) T) [(5,iE ((i1+1:Nat):Int))] ?_;cases h1;exact .nL rfl (i1+1) _ hd6 lQ (hn1 _ rfl) [] (by kernel_rfl)
 ·subst fK;have h0:=bM h0;refine .a [] T [(4,bE false)] ?_;cases h0;exact .rt hK
def AU (n:Nat) (a0:List (List UInt8)) (a1:List UInt8):Option (Bool):=
 bI (bQ (fun(s2:Unit) (i1:Nat) (x4:List UInt8)=>((if x4=a1 then some (Sum.inl true) else some (Sum.inr ())):Option (Bool⊕Unit))) 0 a0 ()) (fun(s2:Unit)=>some false)
theorem OX (n:Nat):∀(a0:List (List UInt8)) (a1:List UInt8) {r:Bool},AU n a0 a1=some r→aF X.E 86 [.vs (.low 0) 1 ((aH a0).length),sE a1] [some (.vec 9 1 (aH a0))] (bE r) [.vec 9 1 (aH a0)]:=by
 intro a0 a1 r h0;rw[AU] at h0;refine .n Tryz.func86 (fun L ks low K hl hL hlen hK=>?_);refine .a [] T [] ?_;refine .a [] T [(5,iE 0)] ?_;refine .lI h0 rfl [0,1] (fun i1 s2=>[(5,iE (i1:Int))]) n2 n2 [] (by kernel_rfl) (fun i1 s2 q3 hd5 PS h0=>?_);refine .a [.v (a0.length:Int)] (A (dZ.len' a0) T) [(9,dE ((i1:Int)<(a0.length:Int)))] ?_;refine .Yh 0 dZ a0 (by kernel_rfl) (fun hb8=>?_);refine .lc hd5 rfl (by kernel_rfl) (fun x4 q32 fK hx4 hd6 lQ=>?_) (fun fK=>?_)
 ·subst fK;obtain⟨y1,h1,hw1,hn1⟩:=bg h0;refine .a [.cs [.s x4]] (A (A (dZ.inv (BZ hx4) (rfl:(aH a0).length=(aH a0).length)) (rfl:(aH a0).length=(aH a0).length)) (A (A (A (dZ.rows a0) (dZ.Em hx4)) (rfl:(aH a0).length=(aH a0).length)) T)) [(17,dE (x4=a1))] ?_;refine .jP h1 (fun jo h1=>?_) (fun jo h1=>?_)
  ·refine .a [] T [(4,bE true)] ?_;cases h1;cases hw1 _ rfl;exact .rt hK
  ·refine .a [.v ((i1+1:Nat):Int)] (A (wn (i:=i1) (by omega)) T) [(5,iE ((i1+1:Nat):Int))] ?_;cases h1;exact .nL rfl (i1+1) _ hd6 lQ (hn1 _ rfl) [] (by kernel_rfl)
 ·subst fK;have h0:=bM h0;refine .a [] T [(4,bE false)] ?_;cases h0;exact .rt hK
def tK:Nat→(List (List UInt8))→Core→Option (List (List UInt8))
 | 0,_,_=>none
 | n+1,a0,a1=>Option.bind ((if a1.kind=2 then(AU n a0 a1.name).bind fun k16=>some (!k16) else some false):Option (Bool)) (fun(o1:Bool)=>Option.bind ((if o1=true then(jy 16 a0 [a1.name]).bind fun AB=>some AB else some a0):Option (List (List UInt8))) (fun(o2:List (List UInt8))=>Option.bind (dX (fun(s4:List (List UInt8)) (i3:Nat) (x6:Core)=>(tK n s4 x6).bind fun k12=>some k12) 0 a1.kids o2) (fun(s4:List (List UInt8))=>some s4)))
theorem OY (n:Nat):∀(a0:List (List UInt8)) (a1:Core) {r:List (List UInt8)},tK n a0 a1=some r→aF X.E 85 [.vs (.low 0) 1 ((aH a0).length),aE (aN a1)] [some (.vec 9 1 (aH a0))] (.vs (.low 0) 1 ((aH r).length)) [.vec 9 1 (aH r)]:=by
 induction n with
 | zero=>intro a0 a1 r h; cases h
 | succ n ih=>
  intro a0 a1 r h0;rw[tK] at h0;refine .n Tryz.func85 (fun L ks low K hl hL hlen hK=>?_);refine .af [] T [(3,pw 3)] [.o 3 (.cells ((aN a1).map .d))] ?_;refine .bP h0 rfl [0,3] (fun o1=>[(15,bE o1)]) n1 n1 (fun o1 h0=>?_) (fun y1 h1 hj1=>?_)
  ·refine .bP h0 rfl [3] (fun o2=>[(0,.vs (.low 0) 1 ((aH o2).length))]) n1 (fun o2=>[.o 0 (.vec 9 1 (aH o2))]) (fun o2 h0=>?_) (fun y1 h1 hj1=>?_)
   ·refine .a [] T [(5,iE 0)] ?_;refine .lL h0 rfl [3] (fun i3 s4=>[(0,.vs (.low 0) 1 ((aH s4).length)),(5,iE (i3:Int))]) n2 (fun i3 s4=>[.o 0 (.vec 9 1 (aH s4))]) [] (by kernel_rfl) (fun i3 s4 q5 hd7 hi9 h0=>?_);refine .a [.v (a1.kids.length:Int)] (A (dh.len' a1.kids) T) [(23,lE 11 (aG a1.kids)),(25,dE ((i3:Int)<(a1.kids.length:Int)))] ?_;refine .sn 23 dh a1.kids (by kernel_rfl) (fun Bd=>?_);refine .lc hd7 rfl (by kernel_rfl) (fun x6 Ov bJ hx6 hd8 kN=>?_) (fun bJ=>?_)
    ·subst bJ;obtain⟨y1,h1,hn1⟩:=dG h0;obtain⟨k12,hk12,h1⟩:=bnd h1;refine .ao [.cs (aN x6),.call [.low 0] (.vs (.low 0) 1 ((aH k12).length)) [.vec 9 1 (aH k12)]] (A (dh.ji hx6) (A (ih _ _ hk12) T)) [(0,.vs (.low 0) 1 ((aH k12).length))] [.o 0 (.vec 9 1 (aH k12))] ?_;refine .a [.v ((i3+1:Nat):Int)] (A (wn (i:=i3) (by omega)) T) [(5,iE ((i3+1:Nat):Int))] ?_;cases h1;exact .nL rfl (i3+1) _ hd8 kN hn1 [] (by kernel_rfl)
    ·subst bJ;have h0:=dR h0;refine .a [] T [(4,.vs (.low 0) 1 ((aH s4).length))] ?_;refine .kp [4] [] ?_;refine .dr 3 (by kernel_rfl) ?_;cases h0;exact .rt hK
   ·refine .jT h1 (fun hc13 h1=>?_) (fun hc13 h1=>?_)
    ·obtain⟨AB,Ik,h1⟩:=bnd h1;refine .ao [.sv (aH [a1.name]),.sv (aH AB)] (A (dZ.lit [a1.name]) (A (A (dZ.ap Ik) (rfl:(aH a0).length=(aH a0).length)) T)) [(0,.vs (.low 0) 1 ((aH AB).length))] [.o 0 (.vec 9 1 (aH AB))] ?_;cases h1;exact .lg hj1 []
    ·cases h1;exact .lg hj1 []
  ·by_cases g15:a1.kind=2
   ·have h1:=aI g15 h1;obtain⟨k16,sJ,h1⟩:=bnd h1;refine .a (rb 4 true [.call [.low 0] (bE k16) [.vec 9 1 (aH a0)],.b true,.b true]) (R 3 (dt g15) (A (A (dt g15) (OX n _ _ sJ)) (R 2 (dt g15) T))) [(15,bE (!k16))] ?_;cases h1;exact .lg hj1 []
   ·have h1:=aJ g15 h1;refine .a (rb 6 false []) (R 6 (df g15) T) [(15,bE false)] ?_;cases h1;exact .lg hj1 []
def AV (n:Nat) (a0:Core):Option (List (List UInt8)):=
 (tK n [] a0).bind fun k1=>some k1
theorem OZ (n:Nat):∀(a0:Core) {r:List (List UInt8)},AV n a0=some r→aF X.E 41 [aE (aN a0)] [] (lE 1 (aH r)) []:=by
 intro a0 r h0;rw[AV] at h0;refine .n Tryz.func41 (fun L ks low K hl hL hlen hK=>?_);refine .af [] T [(1,pw 1)] [.o 1 (.cells ((aN a0).map .d))] ?_;obtain⟨k1,hk1,h0⟩:=bnd h0;refine .af [.gv 3,.sv (aH []),.call [.own 100003] (.vs (.low 0) 1 ((aH k1).length)) [.vec 9 1 (aH k1)]] (A (dZ.lit []) (A (OY n _ _ hk1) T)) [(2,.vs (.own 100003) 1 ((aH k1).length))] [.o 100003 (.vec 9 1 (aH k1))] ?_;refine .kp [2] [] ?_;refine .dr 1 (by kernel_rfl) ?_;refine .ft 2 100003 [] dZ k1 (rfl:(aH k1).length=(aH k1).length) (by kernel_rfl) ?_;cases h0;exact .rt hK
def nP (n:Nat) (a0:List UInt8) (a1:Int):Option (Bool):=
 (Gm a0 1 (a0.length:Int)).bind fun z1=>(lH n z1).bind fun k2=>Option.bind ((gQ a0 0).bind fun y4=>(if(y4.toNat:Int)=a1 then(if k2.2=true then(gQ a0 1).bind fun y7=>some (decide (¬(y7.toNat:Int)=45)) else some false) else some false):Option (Bool)) (fun(o3:Bool)=>some o3)
theorem F6 (n:Nat):∀(a0:List UInt8) (a1:Int) {r:Bool},nP n a0 a1=some r→aF X.E 64 [sE a0,.d (.v (.int .u8 a1))] [] (bE r) []:=by
 intro a0 a1 r h0;rw[nP] at h0;refine .n Tryz.func64 (fun L ks low K hl hL hlen hK=>?_);refine .a [] T [] ?_;obtain⟨z1,hz1,h0⟩:=bnd h0;obtain⟨k2,hk2,h0⟩:=bnd h0;refine .a [.st z1,.call [] (.dQ [iE k2.1,bE k2.2]) []] (A (slS hz1) (A (zX n _ hk2) T)) [(6,bE k2.2)] ?_;refine .bP h0 rfl [] (fun o3=>[(4,bE o3)]) n1 n1 (fun o3 h0=>?_) (fun y1 h1 hj1=>?_)
 ·cases h0;exact .rt hK
 ·obtain⟨y4,hy4,h1⟩:=bnd h1;by_cases g5:(y4.toNat:Int)=a1
  ·have h1:=aI g5 h1;by_cases g6:k2.2=true
   ·have h1:=aI g6 h1;obtain⟨y7,hy7,h1⟩:=bnd h1;refine .a (.AY y4::(rb 4 true [.AY y7,.b true,.b true])) (A (Bv hy4) (R 2 (dt g5) (A g6 (A (A g6 (Bv hy7)) (R 2 g6 T))))) [(4,dE (¬(y7.toNat:Int)=45))] ?_;cases h1;exact .lg hj1 []
   ·have h1:=aJ g6 h1;refine .a (.AY y4::(.b true::(.b true::(rb 4 false [])))) (A (Bv hy4) (R 2 (dt g5) (R 4 (Bool.eq_false_iff.2 g6) T))) [(4,bE false)] ?_;cases h1;exact .lg hj1 []
  ·have h1:=aJ g5 h1;refine .a (.AY y4::(rb 6 false [])) (A (Bv hy4) (R 2 (df g5) (R 4 B0 T))) [(4,bE false)] ?_;cases h1;exact .lg hj1 []
def pK (n:Nat) (a0:Core):Option ((List UInt8)×Bool):=
 (lu n a0).bind fun k1=>(if(!k1)=true then some ([],false) else(AV n a0).bind fun k3=>iterM n (fun(s4:Int)=>((if s4≤122 then Option.bind (dX (fun(s8:Bool) (i7:Nat) (x10:List UInt8)=>Option.bind ((if s8=true then some true else(nP n x10 s4).bind fun k18=>some k18):Option (Bool)) (fun(o16:Bool)=>some o16)) 0 k3 false) (fun(s8:Bool)=>(if(!s8)=true then(u8B s4).bind fun y20=>some (Sum.inl ([y20],true)) else some (Sum.inr (IntKind.u8.wrap (s4+1))))) else some (Sum.inl ([],false))):Option (((List UInt8)×Bool)⊕Int))) 97)
theorem IG (n:Nat):∀(a0:Core) {r:(List UInt8)×Bool},pK n a0=some r→aF X.E 20 [aE (aN a0)] [] (.dQ [sE r.1,bE r.2]) []:=by
 intro a0 r h0;rw[pK] at h0;refine .n Tryz.func20 (fun L ks low K hl hL hlen hK=>?_);refine .af [] T [(1,pw 1)] [.o 1 (.cells ((aN a0).map .d))] ?_;obtain⟨k1,hk1,h0⟩:=bnd h0;refine .a [.call [] (bE k1) []] (A (zM n _ hk1) T) [(10,bE (!k1))] ?_;refine .jT h0 (fun hc2 h0=>?_) (fun hc2 h0=>?_)
 ·refine .a [] T [(2,sE []),(3,bE false)] ?_;cases h0;exact .rt hK
 ·obtain⟨k3,hk3,h0⟩:=bnd h0;refine .a [.call [] (lE 1 (aH k3)) []] (A (OZ n _ hk3) T) [(4,lE 1 (aH k3))] ?_;refine .a [] T [(5,.d (.v (.int .u8 97)))] ?_;refine .it h0 rfl [4] (fun s4=>[(5,.d (.v (.int .u8 s4)))]) n1 n1 [] (by kernel_rfl) (fun nk5 s4 h0=>?_);obtain⟨y1,h1,hw1,hn1⟩:=bT h0;refine .a [] T [(14,dE (s4≤122))] ?_;refine .jP h1 (fun hc6 h1=>?_) (fun hc6 h1=>?_)
  ·refine .a [] T [(6,bE false)] ?_;refine .a [] T [(7,iE 0)] ?_;refine .lL h1 rfl [4,5] (fun i7 s8=>[(6,bE s8),(7,iE (i7:Int))]) n2 n2 [] (by kernel_rfl) (fun i7 s8 q9 hd11 aeX h1=>?_);refine .a [.v (k3.length:Int)] (A (dZ.len' k3) T) [(20,dE ((i7:Int)<(k3.length:Int)))] ?_;refine .sn 4 dZ k3 (by kernel_rfl) (fun adv=>?_);refine .lc hd11 rfl (by kernel_rfl) (fun x10 q92 vO aa8 aa9 Xc=>?_) (fun vO=>?_)
   ·subst vO;obtain⟨y2,h2,hn2⟩:=dG h1;refine .bP h2 rfl [4,5,7] (fun o16=>[(6,bE o16)]) n1 n1 (fun o16 h2=>?_) (fun y3 h3 hj3=>?_)
    ·refine .a [.v ((i7+1:Nat):Int)] (A (wn (i:=i7) (by omega)) T) [(7,iE ((i7+1:Nat):Int))] ?_;cases h2;exact .nL rfl (i7+1) _ aa9 Xc hn2 [] (by kernel_rfl)
    ·by_cases g17:s8=true
     ·have h3:=aI g17 h3;refine .a (rb 7 true []) (R 7 g17 T) [(6,bE true)] ?_;cases h3;exact .lg hj3 []
     ·have h3:=aJ g17 h3;obtain⟨k18,nG,h3⟩:=bnd h3;refine .a (rb 3 false (.cs [.s x10]::(rb 3 false [.call [] (bE k18) [],.b false]))) (R 2 (Bool.eq_false_iff.2 g17) (A (A (Bool.eq_false_iff.2 g17) (dZ.ji aa8)) (R 2 (Bool.eq_false_iff.2 g17) (A (A (Bool.eq_false_iff.2 g17) (F6 n _ _ nG)) (A (Bool.eq_false_iff.2 g17) T))))) [(6,bE k18)] ?_;cases h3;exact .lg hj3 []
   ·subst vO;have h1:=dR h1;refine .a [] T [(33,bE (!s8))] ?_;refine .jT h1 (fun hc19 h1=>?_) (fun hc19 h1=>?_)
    ·obtain⟨y20,afQ,h1⟩:=bnd h1;refine .a [.sv (iy [y20]),.st [y20]] (A (by rw[aa4 afQ]; rfl:[[KD.v (.int .u8 s4)]]=iy [y20]) (A (cvB [y20]) T)) [(2,sE [y20]),(3,bE true)] ?_;cases h1;cases hw1 _ rfl;exact .rt hK
    ·refine .a [.pl] T [(5,.d (.v (.int .u8 (IntKind.u8.wrap (s4+1)))))] ?_;cases h1;exact .nI rfl _ (hn1 _ rfl) [] (by kernel_rfl)
  ·refine .a [] T [(2,sE []),(3,bE false)] ?_;cases h1;cases hw1 _ rfl;exact .rt hK
def pO (n:Nat) (a0:List UInt8):Option (Bool):=
 (if(a0.length:Int)>1048576 then some true else(jv n a0).bind fun k3=>(pG n k3).bind fun k4=>(pK n k3).bind fun k5=>Option.bind ((if ¬k4.1=k5.1 then some true else(if(!(k4.2==k5.2))=true then some true else some (!k4.2))):Option (Bool)) (fun(o6:Bool)=>(if o6=true then Option.bind ((if k4.1=k5.1 then(if(k4.2==k5.2)=true then some (decide (k4.1=[])) else some false) else some false):Option (Bool)) (fun(o8:Bool)=>some o8) else(oJ n k3).bind fun k11=>iterM n (fun(s12:Int)=>((if s12<20 then(Dy n s12).bind fun k15=>(qK n k15).bind fun k16=>(YW k4.1 k16).bind fun z17=>(sU n k11 z17).bind fun k18=>(if k18=true then some (Sum.inl false) else some (Sum.inr (aY (s12+1)))) else some (Sum.inl (decide ((k4.1.length:Int)=1)))):Option (Bool⊕Int))) 0)))
theorem Ey (n:Nat):∀(a0:List UInt8) {r:Bool},pO n a0=some r→aF X.E 5 [lE 1 (iy a0)] [] (bE r) []:=by
 intro a0 r h0;rw[pO] at h0;refine .n Tryz.func5 (fun L ks low K hl hL hlen hK=>?_);refine .a [] T [] ?_;refine .a [.v (a0.length:Int)] (A (uV.len' a0) T) [(13,dE ((a0.length:Int)>1048576))] ?_;refine .sn 0 uV a0 (by kernel_rfl) (fun hb1=>?_);refine .jP h0 (fun hc2 h0=>?_) (fun hc2 h0=>?_)
 ·refine .a [] T [(2,bE true)] ?_;cases h0;exact .rt hK
 ·obtain⟨k3,hk3,h0⟩:=bnd h0;refine .af [.call [] (aE (aN k3)) []] (A (Cj n _ hk3) T) [(3,pw 3)] [.o 3 (.cells ((aN k3).map .d))] ?_;obtain⟨k4,hk4,h0⟩:=bnd h0;refine .a [.call [] (.dQ [sE k4.1,bE k4.2]) []] (A (Iq n _ hk4) T) [(4,sE k4.1),(5,bE k4.2)] ?_;obtain⟨k5,hk5,h0⟩:=bnd h0;refine .a [.call [] (.dQ [sE k5.1,bE k5.2]) []] (A (IG n _ hk5) T) [(6,sE k5.1),(7,bE k5.2)] ?_;refine .bP h0 rfl [3,4,5,6,7] (fun o6=>[(37,bE o6)]) n1 n1 (fun o6 h0=>?_) (fun y1 h1 hj1=>?_)
  ·refine .jT h0 (fun Iy h0=>?_) (fun Iy h0=>?_)
   ·refine .bP h0 rfl [] (fun o8=>[(2,bE o8)]) n1 n1 (fun o8 h0=>?_) (fun y1 h1 hj1=>?_)
    ·cases h0;exact .rt hK
    ·by_cases g9:k4.1=k5.1
     ·have h1:=aI g9 h1;by_cases g10:(k4.2==k5.2)=true
      ·have h1:=aI g10 h1;refine .a (rb 7 true []) (R 4 (dt g9) (R 3 g10 T)) [(2,dE (k4.1=[]))] ?_;cases h1;exact .lg hj1 []
      ·have h1:=aJ g10 h1;refine .a (rb 4 true (rb 3 false [])) (R 4 (dt g9) (R 3 (Bool.eq_false_iff.2 g10) T)) [(2,bE false)] ?_;cases h1;exact .lg hj1 []
     ·have h1:=aJ g9 h1;refine .a (rb 7 false []) (R 4 (df g9) (R 3 B0 T)) [(2,bE false)] ?_;cases h1;exact .lg hj1 []
   ·obtain⟨k11,Il,h0⟩:=bnd h0;refine .a [.call [] (lE 1 (aH k11)) []] (A (E5 n _ Il) T) [(8,lE 1 (aH k11))] ?_;refine .a [] T [(9,iE 0)] ?_;refine .it h0 rfl [4,8] (fun s12=>[(9,iE s12)]) n1 n1 [] (by kernel_rfl) (fun ahx s12 h0=>?_);obtain⟨y1,h1,hw1,hn1⟩:=bT h0;refine .a [] T [(53,dE (s12<20))] ?_;refine .jP h1 (fun nV h1=>?_) (fun nV h1=>?_)
    ·obtain⟨k15,rW,h1⟩:=bnd h1;obtain⟨k16,sJ,h1⟩:=bnd h1;refine .a [.call [] (aE (ak k15)) [],.call [] (sE k16) []] (A (QT n _ rW) (A (FN n _ sJ) T)) [(10,sE k16)] ?_;obtain⟨z17,abB,h1⟩:=bnd h1;obtain⟨k18,nG,h1⟩:=bnd h1;refine .a [.st z17,.call [] (bE k18) []] (A (aaW abB) (A (Oy n _ _ nG) T)) [(63,bE k18)] ?_;refine .jT h1 (fun hc19 h1=>?_) (fun hc19 h1=>?_)
     ·refine .a [] T [(2,bE false)] ?_;cases h1;cases hw1 _ rfl;exact .rt hK
     ·refine .a [.pl] T [(9,iE (aY (s12+1)))] ?_;cases h1;exact .nI rfl _ (hn1 _ rfl) [] (by kernel_rfl)
    ·refine .a [] T [(2,dE ((k4.1.length:Int)=1))] ?_;cases h1;cases hw1 _ rfl;exact .rt hK
  ·by_cases g20:¬k4.1=k5.1
   ·have h1:=aI g20 h1;refine .a (rb 7 true []) (R 4 (dt g20) (R 3 B1 T)) [(37,bE true)] ?_;cases h1;exact .lg hj1 []
   ·have h1:=aJ g20 h1;by_cases g21:(!(k4.2==k5.2))=true
    ·have h1:=aI g21 h1;refine .a (rb 4 false (rb 3 true [])) (R 4 (df g20) (R 3 g21 T)) [(37,bE true)] ?_;cases h1;exact .lg hj1 []
    ·have h1:=aJ g21 h1;refine .a (rb 7 false []) (R 4 (df g20) (R 3 (Bool.eq_false_iff.2 g21) T)) [(37,bE (!k4.2))] ?_;cases h1;exact .lg hj1 []
end Go.Ev
