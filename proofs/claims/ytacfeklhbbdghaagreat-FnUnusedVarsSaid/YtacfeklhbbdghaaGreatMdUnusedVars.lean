/- Models of the functions that FnUnusedVars reaches. No condition. -/
import Derived.Test.YtacfeklhbbdghaaGreatMdUnusedVarsB
import Derived.Test.YtacfeklhbbdghaaGreatRenN
import Derived.Test.YtacfeklhbbdghaaGreatEvTri
import Derived.Test.YtacfeklhbbdghaaGreatProg
import Derived.KernelRfl
import Derived.Test.YtacfeklhbbdghaaGreatShR8
namespace Go.Ev
open Go.Proofs Go.Mx
set_option linter.unusedVariables false
set_option maxRecDepth 10000
def qM (n:Nat) (a0:List UInt8):Option (Core):=
 (oI n a0).bind fun k1=>(dw n [3,4,2] k1).bind fun k2=>(qL n [] k2.1 0 k2.2).bind fun k3=>(aO n 8 k3.2.2).bind fun k4=>(if k4.1=0 then(lF n k3.1 k4.2).bind fun k6=>(lF n k6.1 k6.2).bind fun k7=>some k7.1 else some k3.1)
theorem AZ (n:Nat):∀(a0:List UInt8) {r:Core},qM n a0=some r→aF X.E 18 [lE 1 (jm a0)] [] (aE (aH r)) []:=by
 intro a0 r h0;rw[qM] at h0;refine .n Tryz.func18 (fun L ks low K hl hL hlen hK=>?_);refine .af [] T [(2,pw 2)] [.o 2 (.cells [iE 0,iE 0,sE [],iE 0,fE 1 (ah []),iE 0,sE [],iE 0,fE 1 (ah []),fE 5 (aj []),fE 11 (aG [])])] ?_;obtain⟨k1,hk1,h0⟩:=bnd h0;refine .af [.call [.own 200007] (pl 0) [.cells ((aC k1).map .d)]] (A (yS n _ hk1) T) [(3,pw 200007)] [.o 200007 (.cells ((aC k1).map .d))] ?_;obtain⟨k2,hk2,h0⟩:=bnd h0;obtain⟨k3,hk3,h0⟩:=bnd h0;refine .af [.sv (ah []),.sv (ah [3,4,2]),.call [.own 200007] (iE k2.1) [.cells ((aC k2.2).map .d)],.call [.own 200007] (.dO [aE (aH k3.1),iE k3.2.1]) [.cells ((aC k3.2.2).map .d)]] (A (aI.lit []) (A (aI.lit [3,4,2]) (A (dS n _ _ hk2) (A (QO n _ _ _ _ hk3) T)))) [(4,pw 4)] [.o 200007 (.cells ((aC k3.2.2).map .d)),.o 4 (.cells ((aH k3.1).map .d))] ?_;obtain⟨k4,hk4,h0⟩:=bnd h0;refine .af [.call [.own 200007] (iE k4.1) [.cells ((aC k4.2).map .d)]] (A (aW n _ _ hk4) T) [(19,dE (k4.1=0))] [.o 200007 (.cells ((aC k4.2).map .d))] ?_;refine .jP h0 (fun hc5 h0=>?_) (fun hc5 h0=>?_)
 ·obtain⟨k6,hk6,h0⟩:=bnd h0;obtain⟨k7,MJ,h0⟩:=bnd h0;refine .af [.call [.own 200007] (aE (aH k6.1)) [.cells ((aC k6.2).map .d)],.call [.own 200007] (aE (aH k7.1)) [.cells ((aC k7.2).map .d)]] (A (Dh n _ _ hk6) (A (Dh n _ _ MJ) T)) [] [.o 2 (.cells ((aH k7.1).map .d)),.o 200007 (.cells ((aC k7.2).map .d))] ?_;cases h0;exact .rt hK
 ·refine .af [] T [] [.o 2 (.cells ((aH k3.1).map .d))] ?_;cases h0;exact .rt hK
def uo (n:Nat) (a0:List UInt8):Option (Int×Bool):=
 Option.bind ((if(a0.length:Int)>0 then(gQ a0 0).bind fun y23=>some (decide ((y23.toNat:Int)=45)) else some false):Option (Bool)) (fun(o1:Bool)=>Option.bind ((if o1=true then(KL a0 1 (a0.length:Int)).bind fun z21=>some z21 else some a0):Option (List UInt8)) (fun(o2:List UInt8)=>Option.bind ((if(o2.length:Int)=0 then some true else(if(o2.length:Int)>17 then some true else(gQ o2 0).bind fun y17=>(if(y17.toNat:Int)=48 then(if(o2.length:Int)>1 then some true else some o1) else some false))):Option (Bool)) (fun(o3:Bool)=>(if o3=true then some (0,false) else iterM n (fun(s5:Int×Int)=>((if s5.2<(o2.length:Int) then Option.bind ((gQ o2 s5.2).bind fun y11=>(if(y11.toNat:Int)<48 then some true else some (decide ((y11.toNat:Int)>57))):Option (Bool)) (fun(o8:Bool)=>(if o8=true then some (Sum.inl (0,false)) else(gQ o2 s5.2).bind fun TL=>some (Sum.inr ((aY ((aY (s5.1*10))+(IntKind.i64.wrap (IntKind.u8.wrap ((TL.toNat:Int)-48))))),(aY (s5.2+1)))))) else Option.bind ((if o1=true then some (IntKind.i64.wrap (0-s5.1)) else some s5.1):Option (Int)) (fun(o13:Int)=>some (Sum.inl (o13,true)))):Option ((Int×Bool)⊕(Int×Int)))) (0,0)))))
theorem Gv (n:Nat):∀(a0:List UInt8) {r:Int×Bool},uo n a0=some r→aF X.E 131 [sE a0] [] (.dO [iE r.1,bE r.2]) []:=by
 intro a0 r h0;rw[uo] at h0;refine .n Tryz.func131 (fun L ks low K hl hL hlen hK=>?_);refine .a [] T [] ?_;refine .bP h0 rfl [0] (fun o1=>[(4,bE o1)]) n1 n1 (fun o1 h0=>?_) (fun y1 h1 hj1=>?_)
 ·refine .a [] T [(15,bE o1)] ?_;refine .bP h0 rfl [4] (fun o2=>[(0,sE o2)]) n1 n1 (fun o2 h0=>?_) (fun y1 h1 hj1=>?_)
  ·refine .bP h0 rfl [0,4] (fun o3=>[(38,bE o3)]) n1 n1 (fun o3 h0=>?_) (fun y1 h1 hj1=>?_)
   ·refine .jT h0 (fun hc4 h0=>?_) (fun hc4 h0=>?_)
    ·refine .a [] T [(2,iE 0),(3,bE false)] ?_;cases h0;exact .rt hK
    ·refine .a [] T [(5,iE 0)] ?_;refine .a [] T [(6,iE 0)] ?_;refine .it h0 rfl [0,4] (fun s5=>[(5,iE s5.1),(6,iE s5.2)]) n1 n1 [] (by kernel_rfl) (fun nk6 s5 h0=>?_);obtain⟨y1,h1,hw1,hn1⟩:=bW h0;refine .a [] T [(42,dE (s5.2<(o2.length:Int)))] ?_;refine .jP h1 (fun KZ h1=>?_) (fun KZ h1=>?_)
     ·refine .bP h1 rfl [0,4,5,6] (fun o8=>[(54,bE o8)]) n1 n1 (fun o8 h1=>?_) (fun y2 h2 hj2=>?_)
      ·refine .jT h1 (fun gJ h1=>?_) (fun gJ h1=>?_)
       ·refine .a [] T [(2,iE 0),(3,bE false)] ?_;cases h1;cases hw1 _ rfl;exact .rt hK
       ·obtain⟨TL,aeL,h1⟩:=bnd h1;refine .a [.pl,.D8 TL,.pl,.pl,.pl] (A (EU aeL) T) [(5,iE (aY ((aY (s5.1*10))+(IntKind.i64.wrap (IntKind.u8.wrap ((TL.toNat:Int)-48))))))] ?_;refine .a [.pl] T [(6,iE (aY (s5.2+1)))] ?_;cases h1;exact .nI rfl _ (hn1 _ rfl) [] (by kernel_rfl)
      ·obtain⟨y11,aeM,h2⟩:=bnd h2;by_cases g12:(y11.toNat:Int)<48
       ·have h2:=aK g12 h2;refine .a (.D8 y11::(rb 5 true [])) (A (EU aeM) (R 5 (dt g12) T)) [(54,bE true)] ?_;cases h2;exact .lg hj2 []
       ·have h2:=aN g12 h2;refine .a (.D8 y11::(rb 3 false [.D8 y11,.b false,.b false])) (A (EU aeM) (R 2 (df g12) (A (A (df g12) (EU aeM)) (R 2 (df g12) T)))) [(54,dE ((y11.toNat:Int)>57))] ?_;cases h2;exact .lg hj2 []
     ·refine .a [] T [(63,bE o1)] ?_;refine .bP h1 rfl [] (fun o13=>[(5,iE o13)]) n1 n1 (fun o13 h1=>?_) (fun y2 h2 hj2=>?_)
      ·refine .a [] T [(2,iE o13),(3,bE true)] ?_;cases h1;cases hw1 _ rfl;exact .rt hK
      ·refine .jT h2 (fun pW h2=>?_) (fun pW h2=>?_)
       ·refine .a [] T [(5,iE (IntKind.i64.wrap (0-s5.1)))] ?_;cases h2;exact .lg hj2 []
       ·cases h2;exact .lg hj2 []
   ·by_cases g15:(o2.length:Int)=0
    ·have h1:=aK g15 h1;refine .a (rb 10 true []) (R 4 (dt g15) (R 6 B1 T)) [(38,bE true)] ?_;cases h1;exact .lg hj1 []
    ·have h1:=aN g15 h1;by_cases g16:(o2.length:Int)>17
     ·have h1:=aK g16 h1;refine .a (rb 4 false (rb 6 true [])) (R 4 (df g15) (R 6 (dt g16) T)) [(38,bE true)] ?_;cases h1;exact .lg hj1 []
     ·have h1:=aN g16 h1;obtain⟨y17,aeN,h1⟩:=bnd h1;by_cases g18:(y17.toNat:Int)=48
      ·have h1:=aK g18 h1;by_cases g19:(o2.length:Int)>1
       ·have h1:=aK g19 h1;refine .a (rb 6 false (.D8 y17::(.b false::(.b false::(rb 7 true [.b false,.b true,.b false]))))) (R 4 (df g15) (A (df g16) (A (A (df g16) (EU aeN)) (R 2 (df g16) (R 4 (dt g18) (A (dt g19) (A (A (dt g18) (dt g19)) (A (A (df g16) (dt g18)) (A (df g16) T))))))))) [(38,bE true)] ?_;cases h1;exact .lg hj1 []
       ·have h1:=aN g19 h1;refine .a (rb 6 false (.D8 y17::(.b false::(.b false::(rb 4 true [.b false,.b true,.b false,.b false,.b true,.b false]))))) (R 4 (df g15) (A (df g16) (A (A (df g16) (EU aeN)) (R 2 (df g16) (R 4 (dt g18) (A (df g19) (A (A (dt g18) (df g19)) (A (A (df g16) (dt g18)) (A (df g16) T))))))))) [(38,bE o1)] ?_;cases h1;exact .lg hj1 []
      ·have h1:=aN g18 h1;refine .a (rb 6 false (.D8 y17::(rb 10 false []))) (R 4 (df g15) (A (df g16) (A (A (df g16) (EU aeN)) (R 2 (df g16) (R 5 (df g18) (A (A (df g16) (df g18)) (A (df g16) T))))))) [(38,bE false)] ?_;cases h1;exact .lg hj1 []
  ·refine .jT h1 (fun Uh h1=>?_) (fun Uh h1=>?_)
   ·obtain⟨z21,ajO,h1⟩:=bnd h1;refine .a [.st z21] (A (slS ajO) T) [(0,sE z21)] ?_;cases h1;exact .lg hj1 []
   ·cases h1;exact .lg hj1 []
 ·by_cases g22:(a0.length:Int)>0
  ·have h1:=aK g22 h1;obtain⟨y23,ajP,h1⟩:=bnd h1;refine .a [.b true,.b true,.D8 y23,.b true,.b true] (A (dt g22) (A (A (dt g22) (EU ajP)) (R 2 (dt g22) T))) [(4,dE ((y23.toNat:Int)=45))] ?_;cases h1;exact .lg hj1 []
  ·have h1:=aN g22 h1;refine .a (rb 4 false []) (R 4 (df g22) T) [(4,bE false)] ?_;cases h1;exact .lg hj1 []
def xP (n:Nat) (a0:List UInt8) (a1:Int):Option (List (List UInt8)):=
 iterM n (fun(s1:(List (List UInt8))×Int×Int)=>((if s1.2.2≤(a0.length:Int) then Option.bind (Option.bind ((if s1.2.2=(a0.length:Int) then some true else(gQ a0 s1.2.2).bind fun TL=>some (decide ((TL.toNat:Int)=a1))):Option (Bool)) (fun(o5:Bool)=>(if o5=true then(KL a0 s1.2.1 s1.2.2).bind fun z7=>(jH 16 s1.1 [z7]).bind fun z8=>some (z8,(aY (s1.2.2+1))) else some (s1.1,s1.2.1))):Option ((List (List UInt8))×Int)) (fun(o4:(List (List UInt8))×Int)=>some (Sum.inr (o4.1,o4.2,(aY (s1.2.2+1))))) else some (Sum.inl s1.1)):Option ((List (List UInt8))⊕((List (List UInt8))×Int×Int)))) ([],0,0)
theorem QS (n:Nat):∀(a0:List UInt8) (a1:Int) {r:List (List UInt8)},xP n a0 a1=some r→aF X.E 141 [sE a0,.d (.v (.int .u8 a1))] [] (lE 1 (eU r)) []:=by
 intro a0 a1 r h0;rw[xP] at h0;refine .n Tryz.func141 (fun L ks low K hl hL hlen hK=>?_);refine .a [] T [] ?_;refine .a [.sv (eU [])] (A (kV.lit []) T) [(5,fE 1 (eU []))] ?_;refine .a [] T [(6,iE 0)] ?_;refine .a [] T [(7,iE 0)] ?_;refine .ow 5 100032 9 [0,1,6,7] rfl rfl (by kernel_rfl) ?_;refine .it h0 rfl [0,1] (fun s1=>[(5,.gs (.own 100032) 1 (eU s1.1)),(6,iE s1.2.1),(7,iE s1.2.2)]) (fun s1=>[.o 100032 (.tok (eU s1.1).length 9)]) n1 [] (by kernel_rfl) (fun XV s1 h0=>?_);obtain⟨y1,h1,hw1,hn1⟩:=bW h0;refine .a [] T [(12,dE (s1.2.2≤(a0.length:Int)))] ?_;refine .jP h1 (fun hc3 h1=>?_) (fun hc3 h1=>?_)
 ·refine .bPB h1 rfl [0,1,7] (fun o4=>[(5,.gs (.own 100032) 1 (eU o4.1)),(6,iE o4.2)]) (fun o4=>[.o 100032 (.tok (eU o4.1).length 9)]) n1 (fun o4 h1=>?_) (fun y2 h2 hj2=>?_)
  ·refine .a [.pl] T [(7,iE (aY (s1.2.2+1)))] ?_;cases h1;exact .nI rfl _ (hn1 _ rfl) [] (by kernel_rfl)
  ·refine .bP h2 rfl [0,1,5,6,7] (fun o5=>[(25,bE o5)]) n1 n1 (fun o5 h2=>?_) (fun y3 h3 hj3=>?_)
   ·refine .jT h2 (fun hc6 h2=>?_) (fun hc6 h2=>?_)
    ·obtain⟨z7,hz7,h2⟩:=bnd h2;obtain⟨z8,hz8,h2⟩:=bnd h2;refine .aq [.st z7,.sv (eU [z7]),.sv (eU z8)] [((eU s1.1).length:Int)] (A (slS hz7) (A (kV.lit [z7]) (A (kV.ap hz8) T))) [(5,.gs (.own 100032) 1 (eU z8))] [.o 100032 (.tok (eU z8).length 9)] [] ?_;refine .a [.pl] T [(6,iE (aY (s1.2.2+1)))] ?_;cases h2;exact .lg hj2 []
    ·cases h2;exact .lg hj2 []
   ·by_cases g9:s1.2.2=(a0.length:Int)
    ·have h3:=aK g9 h3;refine .a (rb 6 true []) (R 6 (dt g9) T) [(25,bE true)] ?_;cases h3;exact .lg hj3 []
    ·have h3:=aN g9 h3;obtain⟨TL,aeL,h3⟩:=bnd h3;refine .a (rb 3 false (.D8 TL::(rb 3 false []))) (R 2 (df g9) (A (A (df g9) (EU aeL)) (R 3 (df g9) T))) [(25,dE ((TL.toNat:Int)=a1))] ?_;cases h3;exact .lg hj3 []
 ·refine .a [] T [(4,.gs (.own 100032) 1 (eU s1.1))] ?_;cases h1;cases hw1 _ rfl;exact .rt hK
def xQ (n:Nat) (a0:List UInt8) (a1:Int):Option ((List Int)×Int):=
 Option.bind ((if a1≥(a0.length:Int) then some true else(gQ a0 a1).bind fun y24=>some (decide (¬(y24.toNat:Int)=123))):Option (Bool)) (fun(o1:Bool)=>(if o1=true then some ([],a1) else iterM n (fun(s3:Int)=>(Option.bind ((if s3<(a0.length:Int) then(gQ a0 s3).bind fun y22=>some (decide (¬(y22.toNat:Int)=125)) else some false):Option (Bool)) (fun(o5:Bool)=>(if o5=true then some (Sum.inr (aY (s3+1))) else(if s3=(a0.length:Int) then some (Sum.inl ([],(-1))) else(KL a0 (aY (a1+1)) s3).bind fun z8=>(xP n z8 44).bind fun k9=>iterM n (fun(s10:(List Int)×Int)=>(Option.bind ((if s10.2<(k9.length:Int) then some (decide (s10.2≤24)) else some false):Option (Bool)) (fun(rW:Bool)=>(if rW=true then(gQ k9 s10.2).bind fun e14=>(uo n e14).bind fun k15=>(if(!k15.2)=true then some (Sum.inl (Sum.inl (s10.1,(-1)))) else(jH 8 s10.1 [k15.1]).bind fun z17=>some (Sum.inr (z17,(aY (s10.2+1))))) else some (Sum.inl (Sum.inl (s10.1,(aY (s3+1))))))):Option ((((List Int)×Int)⊕Int)⊕((List Int)×Int)))) ([],0)))):Option (((List Int)×Int)⊕Int))) a1))
theorem QT (n:Nat):∀(a0:List UInt8) (a1:Int) {r:(List Int)×Int},xQ n a0 a1=some r→aF X.E 132 [sE a0,iE a1] [] (.dO [lE 1 (ah r.1),iE r.2]) []:=by
 intro a0 a1 r h0;rw[xQ] at h0;refine .n Tryz.func132 (fun L ks low K hl hL hlen hK=>?_);refine .a [] T [] ?_;refine .a [.sv (ah [])] (A (aI.lit []) T) [(6,fE 1 (ah []))] ?_;refine .bP h0 rfl [0,1,6] (fun o1=>[(22,bE o1)]) n1 n1 (fun o1 h0=>?_) (fun y1 h1 hj1=>?_)
 ·refine .jT h0 (fun hc2 h0=>?_) (fun hc2 h0=>?_)
  ·refine .a [] T [(4,fE 1 (ah [])),(5,iE a1)] ?_;cases h0;exact .rt hK
  ·refine .a [] T [(7,iE a1)] ?_;refine .it h0 rfl [0,1,6] (fun s3=>[(7,iE s3)]) n1 n1 [] (by kernel_rfl) (fun nk4 s3 h0=>?_);obtain⟨y1,h1,hw1,hn1⟩:=bW h0;refine .bP h1 rfl [0,1,6,7] (fun o5=>[(35,bE o5)]) n1 n1 (fun o5 h1=>?_) (fun y2 h2 hj2=>?_)
   ·refine .jT h1 (fun hc6 h1=>?_) (fun hc6 h1=>?_)
    ·refine .a [.pl] T [(7,iE (aY (s3+1)))] ?_;cases h1;exact .nI rfl _ (hn1 _ rfl) [] (by kernel_rfl)
    ·refine .a [] T [(41,dE (s3=(a0.length:Int)))] ?_;refine .jP h1 (fun KZ h1=>?_) (fun KZ h1=>?_)
     ·refine .a [] T [(4,fE 1 (ah [])),(5,iE (-1))] ?_;cases h1;cases hw1 _ rfl;exact .rt hK
     ·obtain⟨z8,hz8,h1⟩:=bnd h1;obtain⟨k9,hk9,h1⟩:=bnd h1;refine .a [.pl,.st z8,.call [] (lE 1 (eU k9)) []] (A (slS hz8) (A (QS n _ _ hk9) T)) [(8,lE 1 (eU k9))] ?_;refine .a [] T [(9,iE 0)] ?_;refine .ow 6 100073 3 [7,8,9] rfl rfl (by kernel_rfl) ?_;refine .it h1 rfl [7,8] (fun s10=>[(6,.gs (.own 100073) 1 (ah s10.1)),(9,iE s10.2)]) (fun s10=>[.o 100073 (.tok (ah s10.1).length 3)]) n1 [] (by kernel_rfl) (fun amg s10 h1=>?_);obtain⟨y2,h2,hw2,hn2⟩:=bW h1;refine .bP h2 rfl [6,7,8,9] (fun rW=>[(56,bE rW)]) n1 n1 (fun rW h2=>?_) (fun y3 h3 hj3=>?_)
      ·refine .jT h2 (fun hc13 h2=>?_) (fun hc13 h2=>?_)
       ·obtain⟨e14,Uf,h2⟩:=bnd h2;obtain⟨k15,uP,h2⟩:=bnd h2;refine .a [.cs [.s e14],.call [] (.dO [iE k15.1,bE k15.2]) []] (A (kV.idx Uf) (A (Gv n _ uP) T)) [(10,iE k15.1),(11,bE k15.2)] ?_;refine .a [] T [(68,bE (!k15.2))] ?_;refine .jT h2 (fun hc16 h2=>?_) (fun hc16 h2=>?_)
        ·refine .a [] T [(4,.gs (.own 100073) 1 (ah s10.1)),(5,iE (-1))] ?_;cases h2;cases hw2 _ rfl;cases hw1 _ rfl;exact .rt hK
        ·obtain⟨z17,ajQ,h2⟩:=bnd h2;refine .aq [.sv (ah [k15.1]),.sv (ah z17)] [((ah s10.1).length:Int)] (A (aI.lit [k15.1]) (A (aI.ap ajQ) T)) [(6,.gs (.own 100073) 1 (ah z17))] [.o 100073 (.tok (ah z17).length 3)] [] ?_;refine .a [.pl] T [(9,iE (aY (s10.2+1)))] ?_;cases h2;exact .nI rfl _ (hn2 _ rfl) [] (by kernel_rfl)
       ·refine .a [.pl] T [(4,.gs (.own 100073) 1 (ah s10.1)),(5,iE (aY (s3+1)))] ?_;cases h2;cases hw2 _ rfl;cases hw1 _ rfl;exact .rt hK
      ·by_cases g18:s10.2<(k9.length:Int)
       ·have h3:=aK g18 h3;refine .a (.v (k9.length:Int)::(rb 3 true [])) (A (kV.len' k9) (R 3 (dt g18) T)) [(56,dE (s10.2≤24))] ?_;refine .sn 8 kV k9 (by kernel_rfl) (fun ai4=>?_);cases h3;exact .lg hj3 []
       ·have h3:=aN g18 h3;refine .a (.v (k9.length:Int)::(rb 3 false [])) (A (kV.len' k9) (R 3 (df g18) T)) [(56,bE false)] ?_;refine .sn 8 kV k9 (by kernel_rfl) (fun amh=>?_);cases h3;exact .lg hj3 []
   ·by_cases g21:s3<(a0.length:Int)
    ·have h2:=aK g21 h2;obtain⟨y22,ajR,h2⟩:=bnd h2;refine .a (rb 3 true [.D8 y22,.b true,.b true]) (R 2 (dt g21) (A (A (dt g21) (EU ajR)) (R 2 (dt g21) T))) [(35,dE (¬(y22.toNat:Int)=125))] ?_;cases h2;exact .lg hj2 []
    ·have h2:=aN g21 h2;refine .a (rb 5 false []) (R 5 (df g21) T) [(35,bE false)] ?_;cases h2;exact .lg hj2 []
 ·by_cases g23:a1≥(a0.length:Int)
  ·have h1:=aK g23 h1;refine .a (rb 5 true []) (R 5 (dt g23) T) [(22,bE true)] ?_;cases h1;exact .lg hj1 []
  ·have h1:=aN g23 h1;obtain⟨y24,hy24,h1⟩:=bnd h1;refine .a (rb 3 false [.D8 y24,.b false,.b false]) (R 2 (df g23) (A (A (df g23) (EU hy24)) (R 2 (df g23) T))) [(22,dE (¬(y24.toNat:Int)=123))] ?_;cases h1;exact .lg hj1 []
def xU (n:Nat) (a0:List UInt8) (a1:Int):Option (Int):=
 iterM n (fun(s1:Int)=>(Option.bind ((if s1<(a0.length:Int) then(gQ a0 s1).bind fun y6=>(if ¬(y6.toNat:Int)=32 then(if ¬(y6.toNat:Int)=40 then(if ¬(y6.toNat:Int)=41 then some (decide (¬(y6.toNat:Int)=123)) else some false) else some false) else some false) else some false):Option (Bool)) (fun(o3:Bool)=>(if o3=true then some (Sum.inr (aY (s1+1))) else some (Sum.inl s1))):Option (Int⊕Int))) a1
theorem QU (n:Nat):∀(a0:List UInt8) (a1:Int) {r:Int},xU n a0 a1=some r→aF X.E 130 [sE a0,iE a1] [] (iE r) []:=by
 intro a0 a1 r h0;rw[xU] at h0;refine .n Tryz.func130 (fun L ks low K hl hL hlen hK=>?_);refine .a [] T [] ?_;refine .it h0 rfl [0] (fun s1=>[(1,iE s1)]) n1 n1 [] (by kernel_rfl) (fun XV s1 h0=>?_);obtain⟨y1,h1,hw1,hn1⟩:=bW h0;refine .bP h1 rfl [0,1] (fun o3=>[(32,bE o3)]) n1 n1 (fun o3 h1=>?_) (fun y2 h2 hj2=>?_)
 ·refine .jT h1 (fun hc4 h1=>?_) (fun hc4 h1=>?_)
  ·refine .a [.pl] T [(1,iE (aY (s1+1)))] ?_;cases h1;exact .nI rfl _ (hn1 _ rfl) [] (by kernel_rfl)
  ·refine .a [] T [(4,iE s1)] ?_;cases h1;cases hw1 _ rfl;exact .rt hK
 ·by_cases g5:s1<(a0.length:Int)
  ·have h2:=aK g5 h2;obtain⟨y6,XW,h2⟩:=bnd h2;by_cases g7:¬(y6.toNat:Int)=32
   ·have h2:=aK g7 h2;by_cases g8:¬(y6.toNat:Int)=40
    ·have h2:=aK g8 h2;by_cases g9:¬(y6.toNat:Int)=41
     ·have h2:=aK g9 h2;refine .a (rb 3 true (.D8 y6::(rb 5 true (.D8 y6::(rb 5 true (.D8 y6::(rb 5 true [.D8 y6,.b true,.b true]))))))) (R 2 (dt g5) (A (A (dt g5) (EU XW)) (R 2 (dt g5) (R 2 (dt g7) (A (A (dt g7) (EU XW)) (R 2 (dt g7) (R 2 (dt g8) (A (A (dt g8) (EU XW)) (R 2 (dt g8) (R 2 (dt g9) (A (A (dt g9) (EU XW)) (R 2 (dt g9) T)))))))))))) [(32,dE (¬(y6.toNat:Int)=123))] ?_;cases h2;exact .lg hj2 []
     ·have h2:=aN g9 h2;refine .a (rb 3 true (.D8 y6::(rb 5 true (.D8 y6::(rb 5 true (.D8 y6::(.b true::(.b true::(rb 5 false []))))))))) (R 2 (dt g5) (A (A (dt g5) (EU XW)) (R 2 (dt g5) (R 2 (dt g7) (A (A (dt g7) (EU XW)) (R 2 (dt g7) (R 2 (dt g8) (A (A (dt g8) (EU XW)) (R 2 (dt g8) (R 5 (df g9) T)))))))))) [(32,bE false)] ?_;cases h2;exact .lg hj2 []
    ·have h2:=aN g8 h2;refine .a (rb 3 true (.D8 y6::(rb 5 true (.D8 y6::(.b true::(.b true::(rb 10 false []))))))) (R 2 (dt g5) (A (A (dt g5) (EU XW)) (R 2 (dt g5) (R 2 (dt g7) (A (A (dt g7) (EU XW)) (R 2 (dt g7) (R 5 (df g8) (R 5 B0 T)))))))) [(32,bE false)] ?_;cases h2;exact .lg hj2 []
   ·have h2:=aN g7 h2;refine .a (rb 3 true (.D8 y6::(.b true::(.b true::(rb 15 false []))))) (R 2 (dt g5) (A (A (dt g5) (EU XW)) (R 2 (dt g5) (R 5 (df g7) (R 10 B0 T))))) [(32,bE false)] ?_;cases h2;exact .lg hj2 []
  ·have h2:=aN g5 h2;refine .a (rb 20 false []) (R 5 (df g5) (R 15 B0 T)) [(32,bE false)] ?_;cases h2;exact .lg hj2 []
def xW (n:Nat) (a0:List UInt8) (a1:Int):Option (Form×Int):=
 (xU n a0 a1).bind fun k1=>(KL a0 a1 k1).bind fun z2=>(uo n z2).bind fun k3=>(if k3.2=true then some ((⟨2,[],k3.1,[],[]⟩:Form),k1) else(if z2=[] then some ((⟨0,[],0,[],[]⟩:Form),(-1)) else(xQ n a0 k1).bind fun k6=>some ((⟨1,z2,0,k6.1,[]⟩:Form),k6.2)))
theorem QV (n:Nat):∀(a0:List UInt8) (a1:Int) {r:Form×Int},xW n a0 a1=some r→aF X.E 120 [sE a0,iE a1] [] (.dO [aE (ak r.1),iE r.2]) []:=by
 intro a0 a1 r h0;rw[xW] at h0;refine .n Tryz.func120 (fun L ks low K hl hL hlen hK=>?_);refine .af [] T [(4,pw 4)] [.o 4 (.cells [iE 0,sE [],iE 0,fE 1 (ah []),fE 5 (aj [])])] ?_;obtain⟨k1,hk1,h0⟩:=bnd h0;refine .a [.call [] (iE k1) []] (A (QU n _ _ hk1) T) [(6,iE k1)] ?_;obtain⟨z2,hz2,h0⟩:=bnd h0;refine .a [.st z2] (A (slS hz2) T) [(7,sE z2)] ?_;obtain⟨k3,hk3,h0⟩:=bnd h0;refine .a [.call [] (.dO [iE k3.1,bE k3.2]) []] (A (Gv n _ hk3) T) [(8,iE k3.1),(9,bE k3.2)] ?_;refine .a [] T [(24,bE k3.2)] ?_;refine .jT h0 (fun hc4 h0=>?_) (fun hc4 h0=>?_)
 ·refine .af [] T [(5,iE k1)] [.c 4 0 (iE 2),.c 4 2 (iE k3.1)] ?_;cases h0;exact .rt hK
 ·refine .a [] T [(29,dE (z2=[]))] ?_;refine .jP h0 (fun hc5 h0=>?_) (fun hc5 h0=>?_)
  ·refine .a [] T [(5,iE (-1))] ?_;cases h0;exact .rt hK
  ·obtain⟨k6,hk6,h0⟩:=bnd h0;refine .a [.call [] (.dO [lE 1 (ah k6.1),iE k6.2]) []] (A (QT n _ _ hk6) T) [(10,lE 1 (ah k6.1)),(11,iE k6.2)] ?_;refine .af [] T [(5,iE k6.2)] [.c 4 0 (iE 1),.c 4 1 (sE z2),.c 4 3 (lE 1 (ah k6.1))] ?_;cases h0;exact .rt hK
def pI (n:Nat) (a0:List UInt8) (a1:Int):Option (Int):=
 iterM n (fun(s1:Int)=>(Option.bind ((if s1<(a0.length:Int) then(gQ a0 s1).bind fun y6=>some (decide ((y6.toNat:Int)=32)) else some false):Option (Bool)) (fun(o3:Bool)=>(if o3=true then some (Sum.inr (aY (s1+1))) else some (Sum.inl s1))):Option (Int⊕Int))) a1
theorem rP (n:Nat):∀(a0:List UInt8) (a1:Int) {r:Int},pI n a0 a1=some r→aF X.E 106 [sE a0,iE a1] [] (iE r) []:=by
 intro a0 a1 r h0;rw[pI] at h0;refine .n Tryz.func106 (fun L ks low K hl hL hlen hK=>?_);refine .a [] T [] ?_;refine .it h0 rfl [0] (fun s1=>[(1,iE s1)]) n1 n1 [] (by kernel_rfl) (fun XV s1 h0=>?_);obtain⟨y1,h1,hw1,hn1⟩:=bW h0;refine .bP h1 rfl [0,1] (fun o3=>[(14,bE o3)]) n1 n1 (fun o3 h1=>?_) (fun y2 h2 hj2=>?_)
 ·refine .jT h1 (fun hc4 h1=>?_) (fun hc4 h1=>?_)
  ·refine .a [.pl] T [(1,iE (aY (s1+1)))] ?_;cases h1;exact .nI rfl _ (hn1 _ rfl) [] (by kernel_rfl)
  ·refine .a [] T [(4,iE s1)] ?_;cases h1;cases hw1 _ rfl;exact .rt hK
 ·by_cases g5:s1<(a0.length:Int)
  ·have h2:=aK g5 h2;obtain⟨y6,XW,h2⟩:=bnd h2;refine .a (rb 3 true [.D8 y6,.b true,.b true]) (R 2 (dt g5) (A (A (dt g5) (EU XW)) (R 2 (dt g5) T))) [(14,dE ((y6.toNat:Int)=32))] ?_;cases h2;exact .lg hj2 []
  ·have h2:=aN g5 h2;refine .a (rb 5 false []) (R 5 (df g5) T) [(14,bE false)] ?_;cases h2;exact .lg hj2 []
def qN:Nat→(List UInt8)→Int→Int→Option (Form×Int)
 | 0,_,_,_=>none
 | n+1,a0,a1,a2=>(pI n a0 a1).bind fun k1=>Option.bind ((if k1≥(a0.length:Int) then some true else some (decide (a2=0))):Option (Bool)) (fun(o2:Bool)=>(if o2=true then some ((⟨0,[],0,[],[]⟩:Form),(-1)) else(gQ a0 k1).bind fun y4=>(if ¬(y4.toNat:Int)=40 then(xW n a0 k1).bind fun k6=>some (k6.1,k6.2) else(pI n a0 (aY (k1+1))).bind fun k7=>iterM n (fun(s8:Int×(List Form))=>(Option.bind ((if s8.1<(a0.length:Int) then(gQ a0 s8.1).bind fun y21=>(if ¬(y21.toNat:Int)=41 then some (decide ((s8.2.length:Int)<400)) else some false) else some false):Option (Bool)) (fun(kM:Bool)=>(if kM=true then(qN n a0 s8.1 (aY (a2-1))).bind fun k12=>(if k12.2<0 then some (Sum.inl ((⟨3,[],0,[],s8.2⟩:Form),(-1))) else(jH 80 s8.2 [k12.1]).bind fun Kw=>(pI n a0 k12.2).bind fun k15=>some (Sum.inr (k15,Kw))) else Option.bind ((if s8.1≥(a0.length:Int) then some true else(gQ a0 s8.1).bind fun y19=>some (decide (¬(y19.toNat:Int)=41))):Option (Bool)) (fun(o16:Bool)=>(if o16=true then some (Sum.inl ((⟨3,[],0,[],s8.2⟩:Form),(-1))) else some (Sum.inl ((⟨3,[],0,[],s8.2⟩:Form),(aY (s8.1+1)))))))):Option ((Form×Int)⊕(Int×(List Form))))) (k7,[]))))
theorem QW (n:Nat):∀(a0:List UInt8) (a1:Int) (a2:Int) {r:Form×Int},qN n a0 a1 a2=some r→aF X.E 105 [sE a0,iE a1,iE a2] [] (.dO [aE (ak r.1),iE r.2]) []:=by
 induction n with
 | zero=>intro a0 a1 a2 r h; cases h
 | succ n ih=>
  intro a0 a1 a2 r h0;rw[qN] at h0;refine .n Tryz.func105 (fun L ks low K hl hL hlen hK=>?_);refine .af [] T [(6,pw 6)] [.o 6 (.cells [iE 0,sE [],iE 0,fE 1 (ah []),fE 5 (aj [])])] ?_;obtain⟨k1,hk1,h0⟩:=bnd h0;refine .a [.call [] (iE k1) []] (A (rP n _ _ hk1) T) [(1,iE k1)] ?_;refine .bP h0 rfl [0,1,2,6] (fun o2=>[(21,bE o2)]) n1 n1 (fun o2 h0=>?_) (fun y1 h1 hj1=>?_)
  ·refine .jT h0 (fun hc3 h0=>?_) (fun hc3 h0=>?_)
   ·refine .a [] T [(7,iE (-1))] ?_;cases h0;exact .rt hK
   ·obtain⟨y4,hy4,h0⟩:=bnd h0;refine .a [.D8 y4] (A (EU hy4) T) [(26,dE (¬(y4.toNat:Int)=40))] ?_;refine .jP h0 (fun hc5 h0=>?_) (fun hc5 h0=>?_)
    ·obtain⟨k6,hk6,h0⟩:=bnd h0;refine .af [.call [] (.dO [aE (ak k6.1),iE k6.2]) []] (A (QV n _ _ hk6) T) [(7,iE k6.2)] [.o 6 (.cells ((ak k6.1).map .d))] ?_;cases h0;exact .rt hK
    ·refine .af [] T [(8,pw 8)] [.o 8 (.cells [iE 3,sE [],iE 0,fE 1 (ah []),fE 5 (aj [])])] ?_;obtain⟨k7,MJ,h0⟩:=bnd h0;refine .a [.pl,.call [] (iE k7) []] (A (rP n _ _ MJ) T) [(1,iE k7)] ?_;refine .oc 8 4 100068 26 (by kernel_rfl) ?_;refine .it h0 rfl [0,2,6,8] (fun s8=>[(1,iE s8.1)]) (fun s8=>[.c 8 4 (.gs (.own 100068) 5 (aj s8.2)),.o 100068 (.tok (aj s8.2).length 26)]) n1 [] (by kernel_rfl) (fun nk9 s8 h0=>?_);obtain⟨y1,h1,hw1,hn1⟩:=bW h0;refine .bP h1 rfl [0,1,2,6,8] (fun kM=>[(52,bE kM)]) n1 n1 (fun kM h1=>?_) (fun y2 h2 hj2=>?_)
     ·refine .jT h1 (fun bI h1=>?_) (fun bI h1=>?_)
      ·obtain⟨k12,hk12,h1⟩:=bnd h1;refine .af [.pl,.call [] (.dO [aE (ak k12.1),iE k12.2]) []] (A (ih _ _ _ hk12) T) [(9,pw 9),(10,iE k12.2)] [.o 9 (.cells ((ak k12.1).map .d))] ?_;refine .a [] T [(62,dE (k12.2<0))] ?_;refine .jP h1 (fun hc13 h1=>?_) (fun hc13 h1=>?_)
       ·refine .af [] T [(7,iE (-1))] [.c 6 0 (iE 3),.c 6 4 (.gs (.own 100068) 5 (aj s8.2))] ?_;cases h1;cases hw1 _ rfl;exact .rt hK
       ·obtain⟨Kw,Ua,h1⟩:=bnd h1;refine .aq [.sv (aj [k12.1]),.sv (aj Kw)] [((aj s8.2).length:Int)] (A (aA.lit [k12.1]) (A (aA.ap Ua) T)) [] [.c 8 4 (.gs (.own 100068) 5 (aj Kw)),.o 100068 (.tok (aj Kw).length 26)] [] ?_;obtain⟨k15,uP,h1⟩:=bnd h1;refine .a [.call [] (iE k15) []] (A (rP n _ _ uP) T) [(1,iE k15)] ?_;cases h1;refine .kp [0,1,2,6,8] [] ?_;refine .dr 9 (by kernel_rfl) ?_;exact .nI rfl _ (hn1 _ rfl) [] (by kernel_rfl)
      ·refine .bP h1 rfl [1,6,8] (fun o16=>[(82,bE o16)]) n1 n1 (fun o16 h1=>?_) (fun y2 h2 hj2=>?_)
       ·refine .jT h1 (fun hc17 h1=>?_) (fun hc17 h1=>?_)
        ·refine .af [] T [(7,iE (-1))] [.c 6 0 (iE 3),.c 6 4 (.gs (.own 100068) 5 (aj s8.2))] ?_;cases h1;cases hw1 _ rfl;exact .rt hK
        ·refine .af [.pl] T [(7,iE (aY (s8.1+1)))] [.c 6 0 (iE 3),.c 6 4 (.gs (.own 100068) 5 (aj s8.2))] ?_;cases h1;cases hw1 _ rfl;exact .rt hK
       ·by_cases g18:s8.1≥(a0.length:Int)
        ·have h2:=aK g18 h2;refine .a (rb 5 true []) (R 5 (dt g18) T) [(82,bE true)] ?_;cases h2;exact .lg hj2 []
        ·have h2:=aN g18 h2;obtain⟨y19,ajS,h2⟩:=bnd h2;refine .a (rb 3 false [.D8 y19,.b false,.b false]) (R 2 (df g18) (A (A (df g18) (EU ajS)) (R 2 (df g18) T))) [(82,dE (¬(y19.toNat:Int)=41))] ?_;cases h2;exact .lg hj2 []
     ·by_cases g20:s8.1<(a0.length:Int)
      ·have h2:=aK g20 h2;obtain⟨y21,agY,h2⟩:=bnd h2;by_cases g22:¬(y21.toNat:Int)=41
       ·have h2:=aK g22 h2;refine .a (rb 3 true (.D8 y21::(rb 5 true [.v (s8.2.length:Int),.b true,.b true]))) (R 2 (dt g20) (A (A (dt g20) (EU agY)) (R 2 (dt g20) (R 2 (dt g22) (A (A (dt g22) (aA.len' s8.2)) (R 2 (dt g22) T)))))) [(52,dE ((s8.2.length:Int)<400))] ?_;cases h2;exact .lg hj2 []
       ·have h2:=aN g22 h2;refine .a (rb 3 true (.D8 y21::(.b true::(.b true::(rb 5 false []))))) (R 2 (dt g20) (A (A (dt g20) (EU agY)) (R 2 (dt g20) (R 5 (df g22) T)))) [(52,bE false)] ?_;cases h2;exact .lg hj2 []
      ·have h2:=aN g20 h2;refine .a (rb 10 false []) (R 5 (df g20) (R 5 B0 T)) [(52,bE false)] ?_;cases h2;exact .lg hj2 []
  ·by_cases g23:k1≥(a0.length:Int)
   ·have h1:=aK g23 h1;refine .a (rb 3 true []) (R 3 (dt g23) T) [(21,bE true)] ?_;cases h1;exact .lg hj1 []
   ·have h1:=aN g23 h1;refine .a (rb 3 false []) (R 3 (df g23) T) [(21,dE (a2=0))] ?_;cases h1;exact .lg hj1 []
def tu (n:Nat) (a0:List UInt8):Option (Form×Bool):=
 (qN n a0 0 40).bind fun k1=>Option.bind ((if k1.2<0 then some true else(pI n a0 k1.2).bind fun k5=>(if ¬k5=(a0.length:Int) then some true else(bT n k1.1).bind fun k7=>some (!k7))):Option (Bool)) (fun(o2:Bool)=>(if o2=true then some ((⟨0,[],0,[],[]⟩:Form),false) else some (k1.1,true)))
theorem JO (n:Nat):∀(a0:List UInt8) {r:Form×Bool},tu n a0=some r→aF X.E 79 [sE a0] [] (.dO [aE (ak r.1),bE r.2]) []:=by
 intro a0 r h0;rw[tu] at h0;refine .n Tryz.func79 (fun L ks low K hl hL hlen hK=>?_);refine .af [] T [(2,pw 2)] [.o 2 (.cells [iE 0,sE [],iE 0,fE 1 (ah []),fE 5 (aj [])])] ?_;obtain⟨k1,hk1,h0⟩:=bnd h0;refine .af [.call [] (.dO [aE (ak k1.1),iE k1.2]) []] (A (QW n _ _ _ hk1) T) [(4,pw 4),(5,iE k1.2)] [.o 4 (.cells ((ak k1.1).map .d))] ?_;refine .bP h0 rfl [2,4] (fun o2=>[(25,bE o2)]) n1 n1 (fun o2 h0=>?_) (fun y1 h1 hj1=>?_)
 ·refine .jT h0 (fun hc3 h0=>?_) (fun hc3 h0=>?_)
  ·refine .a [] T [(3,bE false)] ?_;cases h0;exact .rt hK
  ·refine .af [] T [(3,bE true)] [.o 2 (.cells ((ak k1.1).map .d))] ?_;cases h0;exact .rt hK
 ·by_cases g4:k1.2<0
  ·have h1:=aK g4 h1;refine .a (rb 11 true []) (R 7 (dt g4) (R 4 B1 T)) [(25,bE true)] ?_;cases h1;exact .lg hj1 []
  ·have h1:=aN g4 h1;obtain⟨k5,hk5,h1⟩:=bnd h1;by_cases g6:¬k5=(a0.length:Int)
   ·have h1:=aK g6 h1;refine .a (rb 3 false (.call [] (iE k5) []::(rb 4 false (rb 4 true [])))) (R 2 (df g4) (A (A (df g4) (rP n _ _ hk5)) (R 4 (df g4) (R 4 (dt g6) T)))) [(25,bE true)] ?_;cases h1;exact .lg hj1 []
   ·have h1:=aN g6 h1;obtain⟨k7,MJ,h1⟩:=bnd h1;refine .a (rb 3 false (.call [] (iE k5) []::(rb 6 false [.call [] (bE k7) [],.b false,.b false]))) (R 2 (df g4) (A (A (df g4) (rP n _ _ hk5)) (R 4 (df g4) (A (df g6) (A (A (df g6) (aQ n _ MJ)) (R 2 (df g6) T)))))) [(25,bE (!k7))] ?_;cases h1;exact .lg hj1 []
def oJ (n:Nat) (a0:List UInt8):Option (Form):=
 (tu n a0).bind fun k1=>some k1.1
theorem yT (n:Nat):∀(a0:List UInt8) {r:Form},oJ n a0=some r→aF X.E 67 [sE a0] [] (aE (ak r)) []:=by
 intro a0 r h0;rw[oJ] at h0;refine .n Tryz.func67 (fun L ks low K hl hL hlen hK=>?_);refine .af [] T [(2,pw 2)] [.o 2 (.cells [iE 0,sE [],iE 0,fE 1 (ah []),fE 5 (aj [])])] ?_;obtain⟨k1,hk1,h0⟩:=bnd h0;refine .af [.call [] (.dO [aE (ak k1.1),bE k1.2]) []] (A (JO n _ hk1) T) [(3,pw 3)] [.o 3 (.cells ((ak k1.1).map .d))] ?_;refine .af [] T [] [.o 2 (.cells ((ak k1.1).map .d))] ?_;cases h0;exact .rt hK
def gV (n:Nat) (a0:List Form):Option (Form):=
 some (⟨3,[],0,[],a0⟩:Form)
theorem iw (n:Nat):∀(a0:List Form) {r:Form},gV n a0=some r→aF X.E 82 [lE 5 (aj a0)] [] (aE (ak r)) []:=by
 intro a0 r h0;rw[gV] at h0;refine .n Tryz.func82 (fun L ks low K hl hL hlen hK=>?_);refine .af [] T [(2,pw 2)] [.o 2 (.cells [iE 0,sE [],iE 0,fE 1 (ah []),fE 5 (aj [])])] ?_;refine .af [] T [] [.c 2 0 (iE 3),.c 2 4 (lE 5 (aj a0))] ?_;cases h0;exact .rt hK
def gu:Nat→(List (List UInt8))→Int→aZ→Option (Form×aZ)
 | 0,_,_,_=>none
 | n+1,a1,a2,w0=>Option.bind ((if a2=0 then some (true,w0) else(aO n 5 w0).bind fun k46=>some ((decide (k46.1=0)),k46.2)):Option (Bool×aZ)) (fun(o1:Bool×aZ)=>(if o1.1=true then(aO n 3 o1.2).bind fun k3=>(if k3.1=0 then(dw n [0,1,2,7] k3.2).bind fun k5=>some ((⟨2,[],k5.1,[],[]⟩:Form),k5.2) else(aO n (a1.length:Int) k3.2).bind fun k6=>(gQ a1 k6.1).bind fun e7=>(fH n e7).bind fun k8=>some (k8,k6.2)) else(jk n [[120],[121],[116]] o1.2).bind fun k10=>(jH 16 [] a1).bind fun z11=>(jH 16 z11 [k10.1]).bind fun z12=>(aO n 8 k10.2).bind fun k13=>Option.bind ((if k13.1=0 then some (decide (k13.1=0)) else some (decide (k13.1=1))):Option (Bool)) (fun(BP:Bool)=>(if BP=true then(fH n [108,97,109,98,100,97]).bind fun k16=>(fH n k10.1).bind fun k17=>(gV n [k17]).bind fun k18=>(gu n z12 (aY (a2-1)) k13.2).bind fun k19=>(gV n [k16,k18,k19.1]).bind fun k20=>some (k20,k19.2) else Option.bind ((if k13.1=2 then some (decide (k13.1=2)) else some (decide (k13.1=3))):Option (Bool)) (fun(o21:Bool)=>(if o21=true then(fH n k10.1).bind fun k23=>(gu n a1 (aY (a2-1)) k13.2).bind fun k24=>(gV n [k23,k24.1]).bind fun k25=>(fH n [108,101,116]).bind fun k26=>(gV n [k25]).bind fun k27=>(gu n z12 (aY (a2-1)) k24.2).bind fun k28=>(gV n [k26,k27,k28.1]).bind fun k29=>some (k29,k28.2) else(if k13.1=4 then(fH n [105,102]).bind fun k31=>(gu n a1 (aY (a2-1)) k13.2).bind fun k32=>(gu n a1 (aY (a2-1)) k32.2).bind fun k33=>(gu n a1 0 k33.2).bind fun k34=>(gV n [k31,k32.1,k33.1,k34.1]).bind fun Gl=>some (Gl,k34.2) else(if k13.1=5 then(fH n [113,117,111,116,101]).bind fun k37=>(lW n 1 k13.2).bind fun k38=>(gV n [k37,k38.1]).bind fun k39=>some (k39,k38.2) else(gu n a1 (aY (a2-1)) k13.2).bind fun k40=>(gu n a1 (aY (a2-1)) k40.2).bind fun k41=>(gV n [k40.1,k41.1]).bind fun k42=>some (k42,k41.2)))))))))
theorem QX (n:Nat):∀(a1:List (List UInt8)) (a2:Int) (w0:aZ) {r:Form×aZ},gu n a1 a2 w0=some r→aF X.E 81 [pl 0,lE 1 (eU a1),iE a2] [some (.cells ((aC w0).map .d))] (aE (ak r.1)) [.cells ((aC r.2).map .d)]:=by
 induction n with
 | zero=>intro a1 a2 w0 r h; cases h
 | succ n ih=>
  intro a1 a2 w0 r h0;rw[gu] at h0;refine .n Tryz.func81 (fun L ks low K hl hL hlen hK=>?_);refine .af [] T [(6,pw 6)] [.o 6 (.cells [iE 0,sE [],iE 0,fE 1 (ah []),fE 5 (aj [])])] ?_;refine .bP h0 rfl [0,1,2,6] (fun o1=>[(16,bE o1.1)]) n1 (fun o1=>[.o 0 (.cells ((aC o1.2).map .d))]) (fun o1 h0=>?_) (fun y1 h1 hj1=>?_)
  ·refine .jT h0 (fun hc2 h0=>?_) (fun hc2 h0=>?_)
   ·obtain⟨k3,hk3,h0⟩:=bnd h0;refine .ao [.call [.low 0] (iE k3.1) [.cells ((aC k3.2).map .d)]] (A (aW n _ _ hk3) T) [(19,dE (k3.1=0))] [.o 0 (.cells ((aC k3.2).map .d))] ?_;refine .jP h0 (fun hc4 h0=>?_) (fun hc4 h0=>?_)
    ·obtain⟨k5,hk5,h0⟩:=bnd h0;refine .aq [.sv (ah [0,1,2,7]),.call [.low 0] (iE k5.1) [.cells ((aC k5.2).map .d)]] [] (A (aI.lit [0,1,2,7]) (A (dS n _ _ hk5) T)) [] [.c 6 0 (iE 2),.c 6 2 (iE k5.1)] [.o 0 (.cells ((aC k5.2).map .d))] ?_;cases h0;exact .rt hK
    ·obtain⟨k6,hk6,h0⟩:=bnd h0;obtain⟨e7,EC,h0⟩:=bnd h0;obtain⟨k8,hk8,h0⟩:=bnd h0;refine .aq [.v (a1.length:Int),.call [.low 0] (iE k6.1) [.cells ((aC k6.2).map .d)],.cs [.s e7],.call [] (aE (ak k8)) []] [] (A (kV.len' a1) (A (aW n _ _ hk6) (A (kV.idx EC) (A (iJ n _ hk8) T)))) [] [.o 6 (.cells ((ak k8).map .d))] [.o 0 (.cells ((aC k6.2).map .d))] ?_;refine .sn 1 kV a1 (by kernel_rfl) (fun hb9=>?_);cases h0;exact .rt hK
   ·obtain⟨k10,hk10,h0⟩:=bnd h0;refine .ao [.sv (eU [[120],[121],[116]]),.call [.low 0] (sE k10.1) [.cells ((aC k10.2).map .d)]] (A (kV.lit [[120],[121],[116]]) (A (qW n _ _ hk10) T)) [(7,sE k10.1)] [.o 0 (.cells ((aC k10.2).map .d))] ?_;obtain⟨z11,DK,h0⟩:=bnd h0;obtain⟨z12,JG,h0⟩:=bnd h0;refine .aq [.sv (eU []),.sv (eU z11),.sv (eU [k10.1]),.sv (eU z12)] [((eU z11).length:Int)] (A (kV.lit []) (A (kV.ap DK) (A (kV.lit [k10.1]) (A (kV.ap JG) T)))) [(8,.gs (.own 100037) 1 (eU z12))] [.o 100037 (.tok (eU z12).length 9)] [] ?_;obtain⟨k13,oG,h0⟩:=bnd h0;refine .ao [.call [.low 0] (iE k13.1) [.cells ((aC k13.2).map .d)]] (A (aW n _ _ oG) T) [(42,iE k13.1)] [.o 0 (.cells ((aC k13.2).map .d))] ?_;refine .a [] T [(43,dE (k13.1=0))] ?_;refine .bP h0 rfl [0,1,2,6,7,8,42] (fun BP=>[(43,bE BP)]) n1 n1 (fun BP h0=>?_) (fun y1 h1 hj1=>?_)
    ·refine .jT h0 (fun AB h0=>?_) (fun AB h0=>?_)
     ·obtain⟨k16,Ci,h0⟩:=bnd h0;obtain⟨k17,Ew,h0⟩:=bnd h0;obtain⟨k18,ql,h0⟩:=bnd h0;obtain⟨k19,Aj,h0⟩:=bnd h0;obtain⟨k20,FI,h0⟩:=bnd h0;refine .aq [.call [] (aE (ak k16)) [],.call [] (aE (ak k17)) [],.sv (aj [k17]),.call [] (aE (ak k18)) [],.pl,.call [.low 0] (aE (ak k19.1)) [.cells ((aC k19.2).map .d)],.sv (aj [k16,k18,k19.1]),.call [] (aE (ak k20)) []] [] (A (iJ n _ Ci) (A (iJ n _ Ew) (A (aA.lit [k17]) (A (iw n _ ql) (A (ih _ _ _ Aj) (A (aA.lit [k16,k18,k19.1]) (A (iw n _ FI) T))))))) [] [.o 6 (.cells ((ak k20).map .d))] [.o 0 (.cells ((aC k19.2).map .d))] ?_;cases h0;exact .rt hK
     ·refine .a [] T [(58,dE (k13.1=2))] ?_;refine .bP h0 rfl [0,1,2,6,7,8,42] (fun o21=>[(58,bE o21)]) n1 n1 (fun o21 h0=>?_) (fun y1 h1 hj1=>?_)
      ·refine .jT h0 (fun hc22 h0=>?_) (fun hc22 h0=>?_)
       ·obtain⟨k23,Ue,h0⟩:=bnd h0;obtain⟨k24,FD,h0⟩:=bnd h0;obtain⟨k25,zK,h0⟩:=bnd h0;refine .aq [.call [] (aE (ak k23)) [],.pl,.call [.low 0] (aE (ak k24.1)) [.cells ((aC k24.2).map .d)],.sv (aj [k23,k24.1]),.call [] (aE (ak k25)) []] [] (A (iJ n _ Ue) (A (ih _ _ _ FD) (A (aA.lit [k23,k24.1]) (A (iw n _ zK) T)))) [(9,pw 9)] [.o 9 (.cells ((ak k25).map .d))] [.o 0 (.cells ((aC k24.2).map .d))] ?_;obtain⟨k26,FH,h0⟩:=bnd h0;obtain⟨k27,wB,h0⟩:=bnd h0;obtain⟨k28,Ob,h0⟩:=bnd h0;obtain⟨k29,Oc,h0⟩:=bnd h0;refine .ad mixed [(0,[.call [] (aE (ak k26)) []]),(2,[.sv (aj [k25])]),(3,[.call [] (aE (ak k27)) []]),(7,[.pl]),(8,[.call [.low 0] (aE (ak k28.1)) [.cells ((aC k28.2).map .d)]]),(9,[.sv (aj [k26,k27,k28.1])]),(10,[.call [] (aE (ak k29)) []])] [] (A (iJ n _ FH) (A (aA.lit [k25]) (A (iw n _ wB) (A (ih _ _ _ Ob) (A (aA.lit [k26,k27,k28.1]) (A (iw n _ Oc) T)))))) [] [.o 6 (.cells ((ak k29).map .d))] [.o 0 (.cells ((aC k28.2).map .d))] ?_;cases h0;exact .rt hK
       ·refine .a [] T [(81,dE (k13.1=4))] ?_;refine .jP h0 (fun ZE h0=>?_) (fun ZE h0=>?_)
        ·obtain⟨k31,hk31,h0⟩:=bnd h0;obtain⟨k32,FK,h0⟩:=bnd h0;obtain⟨k33,QD,h0⟩:=bnd h0;obtain⟨k34,Xz,h0⟩:=bnd h0;obtain⟨Gl,Oh,h0⟩:=bnd h0;refine .aq [.call [] (aE (ak k31)) [],.pl,.call [.low 0] (aE (ak k32.1)) [.cells ((aC k32.2).map .d)],.pl,.call [.low 0] (aE (ak k33.1)) [.cells ((aC k33.2).map .d)],.call [.low 0] (aE (ak k34.1)) [.cells ((aC k34.2).map .d)],.sv (aj [k31,k32.1,k33.1,k34.1]),.call [] (aE (ak Gl)) []] [] (A (iJ n _ hk31) (A (ih _ _ _ FK) (A (ih _ _ _ QD) (A (ih _ _ _ Xz) (A (aA.lit [k31,k32.1,k33.1,k34.1]) (A (iw n _ Oh) T)))))) [] [.o 6 (.cells ((ak Gl).map .d))] [.o 0 (.cells ((aC k34.2).map .d))] ?_;cases h0;exact .rt hK
        ·refine .a [] T [(99,dE (k13.1=5))] ?_;refine .jP h0 (fun ajT h0=>?_) (fun ajT h0=>?_)
         ·obtain⟨k37,ZP,h0⟩:=bnd h0;obtain⟨k38,aeu,h0⟩:=bnd h0;obtain⟨k39,aeE,h0⟩:=bnd h0;refine .aq [.call [] (aE (ak k37)) [],.call [.low 0] (aE (ak k38.1)) [.cells ((aC k38.2).map .d)],.sv (aj [k37,k38.1]),.call [] (aE (ak k39)) []] [] (A (iJ n _ ZP) (A (Gu n _ _ aeu) (A (aA.lit [k37,k38.1]) (A (iw n _ aeE) T)))) [] [.o 6 (.cells ((ak k39).map .d))] [.o 0 (.cells ((aC k38.2).map .d))] ?_;cases h0;exact .rt hK
         ·obtain⟨k40,ajU,h0⟩:=bnd h0;obtain⟨k41,ajV,h0⟩:=bnd h0;obtain⟨k42,ajW,h0⟩:=bnd h0;refine .aq [.pl,.call [.low 0] (aE (ak k40.1)) [.cells ((aC k40.2).map .d)],.pl,.call [.low 0] (aE (ak k41.1)) [.cells ((aC k41.2).map .d)],.sv (aj [k40.1,k41.1]),.call [] (aE (ak k42)) []] [] (A (ih _ _ _ ajU) (A (ih _ _ _ ajV) (A (aA.lit [k40.1,k41.1]) (A (iw n _ ajW) T)))) [] [.o 6 (.cells ((ak k42).map .d))] [.o 0 (.cells ((aC k41.2).map .d))] ?_;cases h0;exact .rt hK
      ·refine .jP h1 (fun ajX h1=>?_) (fun ajX h1=>?_)
       ·cases h1;exact .lg hj1 []
       ·refine .a [] T [(58,dE (k13.1=3))] ?_;cases h1;exact .lg hj1 []
    ·refine .jP h1 (fun ajY h1=>?_) (fun ajY h1=>?_)
     ·cases h1;exact .lg hj1 []
     ·refine .a [] T [(43,dE (k13.1=1))] ?_;cases h1;exact .lg hj1 []
  ·by_cases g45:a2=0
   ·have h1:=aK g45 h1;refine .a (rb 4 true []) (R 4 (dt g45) T) [(16,bE true)] ?_;cases h1;exact .lg hj1 []
   ·have h1:=aN g45 h1;obtain⟨k46,ajZ,h1⟩:=bnd h1;refine .ao [.b false,.b false,.call [.low 0] (iE k46.1) [.cells ((aC k46.2).map .d)],.b false,.b false] (A (df g45) (A (A (df g45) (aW n _ _ ajZ)) (R 2 (df g45) T))) [(16,dE (k46.1=0))] [.o 0 (.cells ((aC k46.2).map .d))] ?_;cases h1;exact .lg hj1 []
def yU (n:Nat)  : Option (List (List UInt8)):=
 some [nP,nO,nC,nJ,mY,ni,ny,ng,nH,nN,mP,mZ,nM,nD,nK]
theorem Ot (n:Nat):∀{r:List (List UInt8)},yU n  = some r→aF X.E 80 [] [] (lE 1 (eU r)) []:=by
 intro r h0;rw[yU] at h0;refine .n Tryz.func80 (fun L ks low K hl hL hlen hK=>?_);refine .a [] T [] ?_;refine .a [.sv (eU [nP,nO,nC,nJ,mY,ni,ny,ng,nH,nN,mP,mZ,nM,nD,nK])] (A (kV.lit [nP,nO,nC,nJ,mY,ni,ny,ng,nH,nN,mP,mZ,nM,nD,nK]) T) [(0,fE 1 (eU [nP,nO,nC,nJ,mY,ni,ny,ng,nH,nN,mP,mZ,nM,nD,nK]))] ?_;cases h0;exact .rt hK
def xX (n:Nat) (w0:aZ):Option (Form×aZ):=
 (yU n).bind fun k1=>(aO n 3 w0).bind fun k2=>(if k2.1>0 then(aO n (k1.length:Int) k2.2).bind fun k4=>(gQ k1 k4.1).bind fun e5=>(oJ n e5).bind fun k6=>some (k6,k4.2) else(dw n [4,3,2] k2.2).bind fun k8=>(gu n [[43],[108,105,115,116],[103]] k8.1 k8.2).bind fun k9=>(aO n 2 k9.2).bind fun k10=>Option.bind ((if k10.1=0 then(oJ n CY).bind fun k13=>(fH n iG).bind fun k14=>(fH n [103]).bind fun k15=>(gV n [k15,k13]).bind fun k16=>(gV n [k16]).bind fun k17=>(gV n [k14,k17,k9.1]).bind fun k18=>some k18 else some k9.1):Option (Form)) (fun(KR:Form)=>some (KR,k10.2)))
theorem QY (n:Nat):∀(w0:aZ) {r:Form×aZ},xX n w0=some r→aF X.E 68 [pl 0] [some (.cells ((aC w0).map .d))] (aE (ak r.1)) [.cells ((aC r.2).map .d)]:=by
 intro w0 r h0;rw[xX] at h0;refine .n Tryz.func68 (fun L ks low K hl hL hlen hK=>?_);refine .af [] T [(2,pw 2)] [.o 2 (.cells [iE 0,sE [],iE 0,fE 1 (ah []),fE 5 (aj [])])] ?_;obtain⟨k1,hk1,h0⟩:=bnd h0;refine .a [.call [] (lE 1 (eU k1)) []] (A (Ot n  hk1) T) [(3,lE 1 (eU k1))] ?_;obtain⟨k2,hk2,h0⟩:=bnd h0;refine .ao [.call [.low 0] (iE k2.1) [.cells ((aC k2.2).map .d)]] (A (aW n _ _ hk2) T) [(9,dE (k2.1>0))] [.o 0 (.cells ((aC k2.2).map .d))] ?_;refine .jP h0 (fun hc3 h0=>?_) (fun hc3 h0=>?_)
 ·obtain⟨k4,hk4,h0⟩:=bnd h0;obtain⟨e5,RX,h0⟩:=bnd h0;obtain⟨k6,hk6,h0⟩:=bnd h0;refine .aq [.v (k1.length:Int),.call [.low 0] (iE k4.1) [.cells ((aC k4.2).map .d)],.cs [.s e5],.call [] (aE (ak k6)) []] [] (A (kV.len' k1) (A (aW n _ _ hk4) (A (kV.idx RX) (A (yT n _ hk6) T)))) [] [.o 2 (.cells ((ak k6).map .d))] [.o 0 (.cells ((aC k4.2).map .d))] ?_;refine .sn 3 kV k1 (by kernel_rfl) (fun hb7=>?_);cases h0;exact .rt hK
 ·obtain⟨k8,hk8,h0⟩:=bnd h0;obtain⟨k9,hk9,h0⟩:=bnd h0;refine .aq [.sv (eU [[43],[108,105,115,116],[103]]),.sv (ah [4,3,2]),.call [.low 0] (iE k8.1) [.cells ((aC k8.2).map .d)],.call [.low 0] (aE (ak k9.1)) [.cells ((aC k9.2).map .d)]] [] (A (kV.lit [[43],[108,105,115,116],[103]]) (A (aI.lit [4,3,2]) (A (dS n _ _ hk8) (A (QX n _ _ _ hk9) T)))) [(4,pw 4)] [.o 4 (.cells ((ak k9.1).map .d))] [.o 0 (.cells ((aC k9.2).map .d))] ?_;obtain⟨k10,hk10,h0⟩:=bnd h0;refine .ao [.call [.low 0] (iE k10.1) [.cells ((aC k10.2).map .d)]] (A (aW n _ _ hk10) T) [(26,dE (k10.1=0))] [.o 0 (.cells ((aC k10.2).map .d))] ?_;refine .bP h0 rfl [2,4] (fun KR=>[]) (fun KR=>[.o 4 (.cells ((ak KR).map .d))]) n1 (fun KR h0=>?_) (fun y1 h1 hj1=>?_)
  ·refine .af [] T [] [.o 2 (.cells ((ak KR).map .d))] ?_;cases h0;exact .rt hK
  ·refine .jP h1 (fun hc12 h1=>?_) (fun hc12 h1=>?_)
   ·obtain⟨k13,oG,h1⟩:=bnd h1;refine .af [.call [] (aE (ak k13)) []] (A (yT n _ oG) T) [(5,pw 5)] [.o 5 (.cells ((ak k13).map .d))] ?_;obtain⟨k14,wz,h1⟩:=bnd h1;obtain⟨k15,uP,h1⟩:=bnd h1;obtain⟨k16,Ci,h1⟩:=bnd h1;obtain⟨k17,Ew,h1⟩:=bnd h1;obtain⟨k18,ql,h1⟩:=bnd h1;refine .ad mixed [(0,[.call [] (aE (ak k14)) []]),(1,[.call [] (aE (ak k15)) []]),(3,[.sv (aj [k15,k13])]),(4,[.call [] (aE (ak k16)) []]),(5,[.sv (aj [k16])]),(6,[.call [] (aE (ak k17)) []]),(8,[.sv (aj [k14,k17,k9.1])]),(9,[.call [] (aE (ak k18)) []])] [] (A (iJ n _ wz) (A (iJ n _ uP) (A (aA.lit [k15,k13]) (A (iw n _ Ci) (A (aA.lit [k16]) (A (iw n _ Ew) (A (aA.lit [k14,k17,k9.1]) (A (iw n _ ql) T)))))))) [] [.o 4 (.cells ((ak k18).map .d))] [] ?_;cases h1;refine .kp [2,4] [] ?_;refine .dr 5 (by kernel_rfl) ?_;exact .lg hj1 []
   ·cases h1;exact .lg hj1 []
def yV (n:Nat)  : Option (List (List UInt8)):=
 some [mV,mW,mM,mJ,nG,mO,[40,49,32,50,41],mQ,uN,mX,pV,nR]
theorem Ou (n:Nat):∀{r:List (List UInt8)},yV n  = some r→aF X.E 66 [] [] (lE 1 (eU r)) []:=by
 intro r h0;rw[yV] at h0;refine .n Tryz.func66 (fun L ks low K hl hL hlen hK=>?_);refine .a [] T [] ?_;refine .a [.sv (eU [mV,mW,mM,mJ,nG,mO,[40,49,32,50,41],mQ,uN,mX,pV,nR])] (A (kV.lit [mV,mW,mM,mJ,nG,mO,[40,49,32,50,41],mQ,uN,mX,pV,nR]) T) [(0,fE 1 (eU [mV,mW,mM,mJ,nG,mO,[40,49,32,50,41],mQ,uN,mX,pV,nR]))] ?_;cases h0;exact .rt hK
def xY (n:Nat) (w0:aZ):Option (Form×aZ):=
 (yV n).bind fun k1=>(aO n 3 w0).bind fun k2=>(if k2.1>0 then(aO n (k1.length:Int) k2.2).bind fun k4=>(gQ k1 k4.1).bind fun e5=>(oJ n e5).bind fun k6=>some (k6,k4.2) else(xX n k2.2).bind fun k8=>some (k8.1,k8.2))
theorem QZ (n:Nat):∀(w0:aZ) {r:Form×aZ},xY n w0=some r→aF X.E 49 [pl 0] [some (.cells ((aC w0).map .d))] (aE (ak r.1)) [.cells ((aC r.2).map .d)]:=by
 intro w0 r h0;rw[xY] at h0;refine .n Tryz.func49 (fun L ks low K hl hL hlen hK=>?_);refine .af [] T [(2,pw 2)] [.o 2 (.cells [iE 0,sE [],iE 0,fE 1 (ah []),fE 5 (aj [])])] ?_;obtain⟨k1,hk1,h0⟩:=bnd h0;refine .a [.call [] (lE 1 (eU k1)) []] (A (Ou n  hk1) T) [(3,lE 1 (eU k1))] ?_;obtain⟨k2,hk2,h0⟩:=bnd h0;refine .ao [.call [.low 0] (iE k2.1) [.cells ((aC k2.2).map .d)]] (A (aW n _ _ hk2) T) [(7,dE (k2.1>0))] [.o 0 (.cells ((aC k2.2).map .d))] ?_;refine .jP h0 (fun hc3 h0=>?_) (fun hc3 h0=>?_)
 ·obtain⟨k4,hk4,h0⟩:=bnd h0;obtain⟨e5,RX,h0⟩:=bnd h0;obtain⟨k6,hk6,h0⟩:=bnd h0;refine .aq [.v (k1.length:Int),.call [.low 0] (iE k4.1) [.cells ((aC k4.2).map .d)],.cs [.s e5],.call [] (aE (ak k6)) []] [] (A (kV.len' k1) (A (aW n _ _ hk4) (A (kV.idx RX) (A (yT n _ hk6) T)))) [] [.o 2 (.cells ((ak k6).map .d))] [.o 0 (.cells ((aC k4.2).map .d))] ?_;refine .sn 3 kV k1 (by kernel_rfl) (fun hb7=>?_);cases h0;exact .rt hK
 ·obtain⟨k8,hk8,h0⟩:=bnd h0;refine .aq [.call [.low 0] (aE (ak k8.1)) [.cells ((aC k8.2).map .d)]] [] (A (QY n _ hk8) T) [] [.o 2 (.cells ((ak k8.1).map .d))] [.o 0 (.cells ((aC k8.2).map .d))] ?_;cases h0;exact .rt hK
def ku (n:Nat) (a0:List UInt8):Option (Core×Int):=
 (oI n a0).bind fun k1=>(aO n 4 k1).bind fun k2=>(if k2.1=0 then(qM n a0).bind fun k4=>some (k4,200) else(xY n k2.2).bind fun k5=>(nY n k5.1 20).bind fun k6=>Option.bind ((if ¬k6.2=0 then(qM n a0).bind fun k10=>some k10 else some k6.1):Option (Core)) (fun(o7:Core)=>(dw n [500,100,20,5,0,3001] k5.2).bind fun k8=>some (o7,k8.1)))
theorem EK (n:Nat):∀(a0:List UInt8) {r:Core×Int},ku n a0=some r→aF X.E 32 [lE 1 (jm a0)] [] (.dO [aE (aH r.1),iE r.2]) []:=by
 intro a0 r h0;rw[ku] at h0;refine .n Tryz.func32 (fun L ks low K hl hL hlen hK=>?_);refine .af [] T [(2,pw 2)] [.o 2 (.cells [iE 0,iE 0,sE [],iE 0,fE 1 (ah []),iE 0,sE [],iE 0,fE 1 (ah []),fE 5 (aj []),fE 11 (aG [])])] ?_;obtain⟨k1,hk1,h0⟩:=bnd h0;refine .af [.call [.own 200008] (pl 0) [.cells ((aC k1).map .d)]] (A (yS n _ hk1) T) [(4,pw 200008)] [.o 200008 (.cells ((aC k1).map .d))] ?_;obtain⟨k2,hk2,h0⟩:=bnd h0;refine .af [.call [.own 200008] (iE k2.1) [.cells ((aC k2.2).map .d)]] (A (aW n _ _ hk2) T) [(11,dE (k2.1=0))] [.o 200008 (.cells ((aC k2.2).map .d))] ?_;refine .jP h0 (fun hc3 h0=>?_) (fun hc3 h0=>?_)
 ·obtain⟨k4,hk4,h0⟩:=bnd h0;refine .af [.call [] (aE (aH k4)) []] (A (AZ n _ hk4) T) [(3,iE 200)] [.o 2 (.cells ((aH k4).map .d))] ?_;cases h0;exact .rt hK
 ·obtain⟨k5,hk5,h0⟩:=bnd h0;obtain⟨k6,hk6,h0⟩:=bnd h0;refine .af [.call [.own 200008] (aE (ak k5.1)) [.cells ((aC k5.2).map .d)],.call [] (.dO [aE (aH k6.1),iE k6.2]) []] (A (QZ n _ hk5) (A (G7 n _ _ hk6) T)) [(5,pw 5),(6,iE k6.2)] [.o 200008 (.cells ((aC k5.2).map .d)),.o 5 (.cells ((aH k6.1).map .d))] ?_;refine .a [] T [(21,dE (¬k6.2=0))] ?_;refine .bP h0 rfl [2,4,5] (fun o7=>[]) (fun o7=>[.o 5 (.cells ((aH o7).map .d))]) n1 (fun o7 h0=>?_) (fun y1 h1 hj1=>?_)
  ·obtain⟨k8,hk8,h0⟩:=bnd h0;refine .ad mixed [(2,[.sv (ah [500,100,20,5,0,3001])]),(3,[.call [.own 200008] (iE k8.1) [.cells ((aC k8.2).map .d)]])] [] (A (aI.lit [500,100,20,5,0,3001]) (A (dS n _ _ hk8) T)) [(3,iE k8.1)] [.o 2 (.cells ((aH o7).map .d)),.o 200008 (.cells ((aC k8.2).map .d))] [] ?_;cases h0;exact .rt hK
  ·refine .jP h1 (fun gJ h1=>?_) (fun gJ h1=>?_)
   ·obtain⟨k10,hk10,h1⟩:=bnd h1;refine .af [.call [] (aE (aH k10)) []] (A (AZ n _ hk10) T) [] [.o 5 (.cells ((aH k10).map .d))] ?_;cases h1;exact .lg hj1 []
   ·cases h1;exact .lg hj1 []
def vk (n:Nat) (a0:List UInt8):Option (Core):=
 (ku n a0).bind fun k1=>some k1.1
theorem Ov (n:Nat):∀(a0:List UInt8) {r:Core},vk n a0=some r→aF X.E 19 [lE 1 (jm a0)] [] (aE (aH r)) []:=by
 intro a0 r h0;rw[vk] at h0;refine .n Tryz.func19 (fun L ks low K hl hL hlen hK=>?_);refine .af [] T [(2,pw 2)] [.o 2 (.cells [iE 0,iE 0,sE [],iE 0,fE 1 (ah []),iE 0,sE [],iE 0,fE 1 (ah []),fE 5 (aj []),fE 11 (aG [])])] ?_;obtain⟨k1,hk1,h0⟩:=bnd h0;refine .af [.call [] (.dO [aE (aH k1.1),iE k1.2]) []] (A (EK n _ hk1) T) [(3,pw 3)] [.o 3 (.cells ((aH k1.1).map .d))] ?_;refine .af [] T [] [.o 2 (.cells ((aH k1.1).map .d))] ?_;cases h0;exact .rt hK
def jl (n:Nat) (a0:List UInt8):Option (Core):=
 (oI n a0).bind fun k1=>(aO n 3 k1).bind fun k2=>(if k2.1=0 then(qM n a0).bind fun k4=>some k4 else(vk n a0).bind fun k5=>some k5)
theorem CB (n:Nat):∀(a0:List UInt8) {r:Core},jl n a0=some r→aF X.E 5 [lE 1 (jm a0)] [] (aE (aH r)) []:=by
 intro a0 r h0;rw[jl] at h0;refine .n Tryz.func5 (fun L ks low K hl hL hlen hK=>?_);refine .af [] T [(2,pw 2)] [.o 2 (.cells [iE 0,iE 0,sE [],iE 0,fE 1 (ah []),iE 0,sE [],iE 0,fE 1 (ah []),fE 5 (aj []),fE 11 (aG [])])] ?_;obtain⟨k1,hk1,h0⟩:=bnd h0;obtain⟨k2,hk2,h0⟩:=bnd h0;refine .af [.call [.own 200004] (pl 0) [.cells ((aC k1).map .d)],.call [.own 200004] (iE k2.1) [.cells ((aC k2.2).map .d)]] (A (yS n _ hk1) (A (aW n _ _ hk2) T)) [(6,dE (k2.1=0))] [.o 200004 (.cells ((aC k2.2).map .d))] ?_;refine .jP h0 (fun hc3 h0=>?_) (fun hc3 h0=>?_)
 ·obtain⟨k4,hk4,h0⟩:=bnd h0;refine .af [.call [] (aE (aH k4)) []] (A (AZ n _ hk4) T) [] [.o 2 (.cells ((aH k4).map .d))] ?_;cases h0;exact .rt hK
 ·obtain⟨k5,hk5,h0⟩:=bnd h0;refine .af [.call [] (aE (aH k5)) []] (A (Ov n _ hk5) T) [] [.o 2 (.cells ((aH k5).map .d))] ?_;cases h0;exact .rt hK
def oK:Nat→Core→Int→Option (Int)
 | 0,_,_=>none
 | n+1,a0,a1=>Option.bind ((if a0.kind=1 then some (decide (a0.id=a1)) else some false):Option (Bool)) (fun(o1:Bool)=>Option.bind ((if o1=true then some 1 else some 0):Option (Int)) (fun(o2:Int)=>Option.bind (dY (fun(s4:Int) (i3:Nat) (x6:Core)=>(oK n x6 a1).bind fun k12=>some (aY (s4+k12))) 0 a0.kids o2) (fun(s4:Int)=>some s4)))
theorem Ox (n:Nat):∀(a0:Core) (a1:Int) {r:Int},oK n a0 a1=some r→aF X.E 35 [aE (aH a0),iE a1] [] (iE r) []:=by
 induction n with
 | zero=>intro a0 a1 r h; cases h
 | succ n ih=>
  intro a0 a1 r h0;rw[oK] at h0;refine .n Tryz.func35 (fun L ks low K hl hL hlen hK=>?_);refine .af [] T [(2,pw 2)] [.o 2 (.cells ((aH a0).map .d))] ?_;refine .a [] T [(5,iE 0)] ?_;refine .bP h0 rfl [1,2,5] (fun o1=>[(15,bE o1)]) n1 n1 (fun o1 h0=>?_) (fun y1 h1 hj1=>?_)
  ·refine .bP h0 rfl [1,2] (fun o2=>[(5,iE o2)]) n1 n1 (fun o2 h0=>?_) (fun y1 h1 hj1=>?_)
   ·refine .a [] T [(6,iE 0)] ?_;refine .lL h0 rfl [1,2] (fun i3 s4=>[(5,iE s4),(6,iE (i3:Int))]) n2 n2 [] (by kernel_rfl) (fun i3 s4 q5 hd7 hi9 h0=>?_);refine .a [.v (a0.kids.length:Int)] (A (bK.len' a0.kids) T) [(18,lE 11 (aG a0.kids)),(20,dE ((i3:Int)<(a0.kids.length:Int)))] ?_;refine .sn 18 bK a0.kids (by kernel_rfl) (fun Au=>?_);refine .lc hd7 rfl (by kernel_rfl) (fun x6 KT bI hx6 hd8 jo=>?_) (fun bI=>?_)
    ·subst bI;obtain⟨y1,h1,hn1⟩:=bZ h0;obtain⟨k12,hk12,h1⟩:=bnd h1;refine .a [.cs (aH x6),.call [] (iE k12) [],.pl] (A (bK.iU hx6) (A (ih _ _ hk12) T)) [(5,iE (aY (s4+k12)))] ?_;refine .a [.v ((i3+1:Nat):Int)] (A (wn (i:=i3) (by omega)) T) [(6,iE ((i3+1:Nat):Int))] ?_;cases h1;exact .nL rfl (i3+1) _ hd8 jo hn1 [] (by kernel_rfl)
    ·subst bI;have h0:=dN h0;refine .a [] T [(4,iE s4)] ?_;cases h0;exact .rt hK
   ·refine .jT h1 (fun hc13 h1=>?_) (fun hc13 h1=>?_)
    ·refine .a [] T [(5,iE 1)] ?_;cases h1;exact .lg hj1 []
    ·cases h1;exact .lg hj1 []
  ·by_cases g14:a0.kind=1
   ·have h1:=aK g14 h1;refine .a (rb 5 true []) (R 5 (dt g14) T) [(15,dE (a0.id=a1))] ?_;cases h1;exact .lg hj1 []
   ·have h1:=aN g14 h1;refine .a (rb 5 false []) (R 5 (df g14) T) [(15,bE false)] ?_;cases h1;exact .lg hj1 []
def lX:Nat→(List Int)→Core→Option (List Int)
 | 0,_,_=>none
 | n+1,a0,a1=>iterM n (fun(s1:Int×(List Int))=>((if s1.1<(a1.ids.length:Int) then Option.bind ((gQ a1.kids 0).bind fun e6=>(gQ a1.ids s1.1).bind fun e7=>(oK n e6 e7).bind fun k8=>(if k8=0 then(jH 8 s1.2 [e7]).bind fun z10=>some z10 else some s1.2):Option (List Int)) (fun(o5:List Int)=>some (Sum.inr ((aY (s1.1+1)),o5))) else Option.bind (dY (fun(s12:List Int) (i11:Nat) (x14:Core)=>(lX n s12 x14).bind fun k20=>some k20) 0 a1.kids s1.2) (fun(s12:List Int)=>some (Sum.inl s12))):Option ((List Int)⊕(Int×(List Int))))) (0,a0)
theorem JQ (n:Nat):∀(a0:List Int) (a1:Core) {r:List Int},lX n a0 a1=some r→aF X.E 23 [.vs (.low 0) 1 ((ah a0).length),aE (aH a1)] [some (.vec 3 1 (ah a0))] (.vs (.low 0) 1 ((ah r).length)) [.vec 3 1 (ah r)]:=by
 induction n with
 | zero=>intro a0 a1 r h; cases h
 | succ n ih=>
  intro a0 a1 r h0;rw[lX] at h0;refine .n Tryz.func23 (fun L ks low K hl hL hlen hK=>?_);refine .af [] T [(3,pw 3)] [.o 3 (.cells ((aH a1).map .d))] ?_;refine .a [] T [(5,iE 0)] ?_;refine .it h0 rfl [3] (fun s1=>[(0,.vs (.low 0) 1 ((ah s1.2).length)),(5,iE s1.1)]) n1 (fun s1=>[.o 0 (.vec 3 1 (ah s1.2))]) [] (by kernel_rfl) (fun XV s1 h0=>?_);obtain⟨y1,h1,hw1,hn1⟩:=bW h0;refine .a [.v (a1.ids.length:Int)] (A (aI.len' a1.ids) T) [(9,lE 1 (ah a1.ids)),(11,dE (s1.1<(a1.ids.length:Int)))] ?_;refine .sn 9 aI a1.ids (by kernel_rfl) (fun hb3=>?_);refine .jP h1 (fun hc4 h1=>?_) (fun hc4 h1=>?_)
  ·refine .bPB h1 rfl [3,5] (fun o5=>[(0,.vs (.low 0) 1 ((ah o5).length))]) n1 (fun o5=>[.o 0 (.vec 3 1 (ah o5))]) (fun o5 h1=>?_) (fun y2 h2 hj2=>?_)
   ·refine .a [.pl] T [(5,iE (aY (s1.1+1)))] ?_;cases h1;exact .nI rfl _ (hn1 _ rfl) [] (by kernel_rfl)
   ·obtain⟨e6,VE,h2⟩:=bnd h2;obtain⟨e7,EC,h2⟩:=bnd h2;obtain⟨k8,hk8,h2⟩:=bnd h2;refine .ad mixed [(2,[.cs (aH e6)]),(7,[.cs [.v (.int .i64 e7)]]),(9,[.call [] (iE k8) []])] [] (A (bK.idx VE) (A (aI.idx EC) (A (Ox n _ _ hk8) T))) [(24,dE (k8=0))] [] [] ?_;refine .jP h2 (fun gJ h2=>?_) (fun gJ h2=>?_)
    ·obtain⟨z10,Uk,h2⟩:=bnd h2;refine .ao [.cs [.v (.int .i64 e7)],.sv (ah [e7]),.sv (ah z10)] (A (aI.idx EC) (A (aI.lit [e7]) (A (A (aI.ap Uk) (rfl:(ah s1.2).length=(ah s1.2).length)) T))) [(0,.vs (.low 0) 1 ((ah z10).length))] [.o 0 (.vec 3 1 (ah z10))] ?_;cases h2;exact .lg hj2 []
    ·cases h2;exact .lg hj2 []
  ·refine .a [] T [(6,iE 0)] ?_;refine .lL h1 rfl [3] (fun i11 s12=>[(0,.vs (.low 0) 1 ((ah s12).length)),(6,iE (i11:Int))]) n2 (fun i11 s12=>[.o 0 (.vec 3 1 (ah s12))]) [] (by kernel_rfl) (fun i11 s12 q13 ZK agP h1=>?_);refine .a [.v (a1.kids.length:Int)] (A (bK.len' a1.kids) T) [(35,lE 11 (aG a1.kids)),(37,dE ((i11:Int)<(a1.kids.length:Int)))] ?_;refine .sn 35 bK a1.kids (by kernel_rfl) (fun ami=>?_);refine .lc ZK rfl (by kernel_rfl) (fun x14 agQ hc19 QE ZL QF=>?_) (fun hc19=>?_)
   ·subst hc19;obtain⟨y2,h2,hn2⟩:=bZ h1;obtain⟨k20,FI,h2⟩:=bnd h2;refine .ao [.cs (aH x14),.call [.low 0] (.vs (.low 0) 1 ((ah k20).length)) [.vec 3 1 (ah k20)]] (A (bK.iU QE) (A (ih _ _ FI) T)) [(0,.vs (.low 0) 1 ((ah k20).length))] [.o 0 (.vec 3 1 (ah k20))] ?_;refine .a [.v ((i11+1:Nat):Int)] (A (wn (i:=i11) (by omega)) T) [(6,iE ((i11+1:Nat):Int))] ?_;cases h2;exact .nL rfl (i11+1) _ ZL QF hn2 [] (by kernel_rfl)
   ·subst hc19;have h1:=dN h1;refine .a [] T [(4,.vs (.low 0) 1 ((ah s12).length))] ?_;refine .kp [4] [] ?_;refine .dr 3 (by kernel_rfl) ?_;cases h1;cases hw1 _ rfl;exact .rt hK
def kG (n:Nat) (a0:Core):Option (List Int):=
 (lT n a0).bind fun k1=>(if(!k1)=true then some [] else(lX n [] a0).bind fun k3=>some k3)
theorem og (n:Nat):∀(a0:Core) {r:List Int},kG n a0=some r→aF X.E 8 [aE (aH a0)] [] (lE 1 (ah r)) []:=by
 intro a0 r h0;rw[kG] at h0;refine .n Tryz.func8 (fun L ks low K hl hL hlen hK=>?_);refine .af [] T [(1,pw 1)] [.o 1 (.cells ((aH a0).map .d))] ?_;obtain⟨k1,hk1,h0⟩:=bnd h0;refine .a [.call [] (bE k1) []] (A (AA n _ hk1) T) [(5,bE (!k1))] ?_;refine .jT h0 (fun hc2 h0=>?_) (fun hc2 h0=>?_)
 ·refine .a [.sv (ah [])] (A (aI.lit []) T) [(2,fE 1 (ah []))] ?_;cases h0;exact .rt hK
 ·obtain⟨k3,hk3,h0⟩:=bnd h0;refine .af [.gv 7,.sv (ah []),.call [.own 100007] (.vs (.low 0) 1 ((ah k3).length)) [.vec 3 1 (ah k3)]] (A (aI.lit []) (A (JQ n _ _ hk3) T)) [(2,.vs (.own 100007) 1 ((ah k3).length))] [.o 100007 (.vec 3 1 (ah k3))] ?_;refine .kp [2] [] ?_;refine .dr 1 (by kernel_rfl) ?_;refine .ft 2 100007 [] aI k3 (rfl:(ah k3).length=(ah k3).length) (by kernel_rfl) ?_;cases h0;exact .rt hK
noncomputable def oq (n:Nat) (a0:List UInt8):Option (Bool):=
 (if(a0.length:Int)>1048576 then some true else(jl n a0).bind fun k3=>(kC n k3).bind fun k4=>Option.bind ((kG n k3).bind fun k29=>(xw n k4 k29).bind fun k30=>(if(!k30)=true then some true else(jM n k3).bind fun k32=>some (!k32)):Option (Bool)) (fun(o5:Bool)=>(if o5=true then Option.bind ((kG n k3).bind fun k8=>(xw n k4 k8).bind fun k9=>(if k9=true then some (decide ((k4.length:Int)=0)) else some false):Option (Bool)) (fun(o7:Bool)=>some o7) else(nS n k3).bind fun k11=>(if(!k11.2)=true then some true else(kC n k11.1).bind fun k13=>bH (bV (fun(s15:Unit) (O9:Nat) (x17:Int)=>(Option.bind ((uS n k11.1 x17).bind fun k25=>(if ¬k25=0 then some true else(lS n k11.1 x17).bind fun k27=>some (!k27)):Option (Bool)) (fun(o23:Bool)=>(if o23=true then some (Sum.inl false) else some (Sum.inr ()))):Option (Bool⊕Unit))) 0 k13 ()) (fun(s15:Unit)=>some (decide ((k13.length:Int)=(k4.length:Int))))))))
theorem EL (n:Nat):∀(a0:List UInt8) {r:Bool},oq n a0=some r→aF X.E 3 [lE 1 (jm a0)] [] (bE r) []:=by
 intro a0 r h0;rw[oq] at h0;refine .n Tryz.func3 (fun L ks low K hl hL hlen hK=>?_);refine .a [] T [] ?_;refine .a [.v (a0.length:Int)] (A (vN.len' a0) T) [(11,dE ((a0.length:Int)>1048576))] ?_;refine .sn 0 vN a0 (by kernel_rfl) (fun hb1=>?_);refine .jP h0 (fun hc2 h0=>?_) (fun hc2 h0=>?_)
 ·refine .a [] T [(2,bE true)] ?_;cases h0;exact .rt hK
 ·obtain⟨k3,hk3,h0⟩:=bnd h0;refine .af [.call [] (aE (aH k3)) []] (A (CB n _ hk3) T) [(3,pw 3)] [.o 3 (.cells ((aH k3).map .d))] ?_;obtain⟨k4,hk4,h0⟩:=bnd h0;refine .a [.call [] (lE 1 (ah k4)) []] (A (zy n _ hk4) T) [(4,lE 1 (ah k4))] ?_;refine .bP h0 rfl [3,4] (fun o5=>[(25,bE o5)]) n1 n1 (fun o5 h0=>?_) (fun y1 h1 hj1=>?_)
  ·refine .jT h0 (fun hc6 h0=>?_) (fun hc6 h0=>?_)
   ·refine .bP h0 rfl [] (fun o7=>[(2,bE o7)]) n1 n1 (fun o7 h0=>?_) (fun y1 h1 hj1=>?_)
    ·cases h0;exact .rt hK
    ·obtain⟨k8,hk8,h1⟩:=bnd h1;obtain⟨k9,hk9,h1⟩:=bnd h1;by_cases g10:k9=true
     ·have h1:=aK g10 h1;refine .a [.call [] (lE 1 (ah k8)) [],.call [] (bE k9) [],.b true,.b true,.v (k4.length:Int),.b true,.b true] (A (og n _ hk8) (A (vP n _ _ hk9) (A g10 (A (A g10 (aI.len' k4)) (R 2 g10 T))))) [(2,dE ((k4.length:Int)=0))] ?_;cases h1;exact .lg hj1 []
     ·have h1:=aN g10 h1;refine .a (.call [] (lE 1 (ah k8)) []::(.call [] (bE k9) []::(rb 4 false []))) (A (og n _ hk8) (A (vP n _ _ hk9) (R 4 (Bool.eq_false_iff.2 g10) T))) [(2,bE false)] ?_;cases h1;exact .lg hj1 []
   ·obtain⟨k11,Ap,h0⟩:=bnd h0;refine .af [.call [] (.dO [aE (aH k11.1),bE k11.2]) []] (A (GR n _ Ap) T) [(5,pw 5),(6,bE k11.2)] [.o 5 (.cells ((aH k11.1).map .d))] ?_;refine .a [] T [(41,bE (!k11.2))] ?_;refine .jT h0 (fun hc12 h0=>?_) (fun hc12 h0=>?_)
    ·refine .a [] T [(2,bE true)] ?_;cases h0;exact .rt hK
    ·obtain⟨k13,oG,h0⟩:=bnd h0;refine .a [.call [] (lE 1 (ah k13)) []] (A (zy n _ oG) T) [(7,lE 1 (ah k13))] ?_;refine .a [] T [(8,iE 0)] ?_;refine .lI h0 rfl [4,5,7] (fun O9 s15=>[(8,iE (O9:Int))]) n2 n2 [] (by kernel_rfl) (fun O9 s15 q16 aez ajr h0=>?_);refine .a [.v (k13.length:Int)] (A (aI.len' k13) T) [(47,dE ((O9:Int)<(k13.length:Int)))] ?_;refine .sn 7 aI k13 (by kernel_rfl) (fun ajs=>?_);refine .lc aez rfl (by kernel_rfl) (fun x17 ajt hc22 ZI aeA ZJ=>?_) (fun hc22=>?_)
     ·subst hc22;obtain⟨y1,h1,hw1,hn1⟩:=bf h0;refine .bP h1 rfl [4,5,7,8] (fun o23=>[(65,bE o23)]) n1 n1 (fun o23 h1=>?_) (fun y2 h2 hj2=>?_)
      ·refine .jT h1 (fun hc24 h1=>?_) (fun hc24 h1=>?_)
       ·refine .a [] T [(2,bE false)] ?_;cases h1;cases hw1 _ rfl;exact .rt hK
       ·refine .a [.v ((O9+1:Nat):Int)] (A (wn (i:=O9) (by omega)) T) [(8,iE ((O9+1:Nat):Int))] ?_;cases h1;exact .nL rfl (O9+1) _ aeA ZJ (hn1 _ rfl) [] (by kernel_rfl)
      ·obtain⟨k25,zK,h2⟩:=bnd h2;by_cases zM:¬k25=0
       ·have h2:=aK zM h2;refine .ad mixed ((3,[.cs [.v (.int .i64 x17)]])::((5,[.call [] (iE k25) []])::(qb 8 8 true []))) [] (A (aI.iU ZI) (A (yL n _ _ zK) (R 8 (dt zM) T))) [(65,bE true)] [] [] ?_;cases h2;exact .lg hj2 []
       ·have h2:=aN zM h2;obtain⟨k27,wB,h2⟩:=bnd h2;refine .ad mixed ((3,[.cs [.v (.int .i64 x17)]])::((5,[.call [] (iE k25) []])::(qb 8 3 false ((11,[.b false,.cs [.v (.int .i64 x17)]])::((12,[.b false])::((13,[.b false,.call [] (bE k27) []])::(qb 14 2 false []))))))) [] (A (aI.iU ZI) (A (yL n _ _ zK) (R 3 (df zM) (A (A (df zM) (aI.iU ZI)) (A (df zM) (A (A (df zM) (JI n _ _ wB)) (R 2 (df zM) T))))))) [(65,bE (!k27))] [] [] ?_;cases h2;exact .lg hj2 []
     ·subst hc22;have h0:=bM h0;refine .a [.v (k13.length:Int),.v (k4.length:Int)] (A (aI.len' k13) (A (aI.len' k4) T)) [(2,dE ((k13.length:Int)=(k4.length:Int)))] ?_;refine .sn 4 aI k4 (by kernel_rfl) (fun amj=>?_);cases h0;exact .rt hK
  ·obtain⟨k29,Oc,h1⟩:=bnd h1;obtain⟨k30,XD,h1⟩:=bnd h1;by_cases Am:(!k30)=true
   ·have h1:=aK Am h1;refine .a (.call [] (lE 1 (ah k29)) []::(.call [] (bE k30) []::(rb 4 true []))) (A (og n _ Oc) (A (vP n _ _ XD) (R 4 Am T))) [(25,bE true)] ?_;cases h1;exact .lg hj1 []
   ·have h1:=aN Am h1;obtain⟨k32,FK,h1⟩:=bnd h1;refine .a [.call [] (lE 1 (ah k29)) [],.call [] (bE k30) [],.b false,.b false,.call [] (bE k32) [],.b false,.b false] (A (og n _ Oc) (A (vP n _ _ XD) (A (Bool.eq_false_iff.2 Am) (A (A (Bool.eq_false_iff.2 Am) (uQ n _ FK)) (R 2 (Bool.eq_false_iff.2 Am) T))))) [(25,bE (!k32))] ?_;cases h1;exact .lg hj1 []
end Go.Ev
