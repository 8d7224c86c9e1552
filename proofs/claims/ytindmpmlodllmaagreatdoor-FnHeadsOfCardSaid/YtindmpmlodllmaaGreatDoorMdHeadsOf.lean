/- Models of the functions that FnHeadsOf reaches. No condition. -/
import Derived.Test.YtindmpmlodllmaaGreatDoorMdHeadsOfB
import Derived.Test.YtindmpmlodllmaaGreatDoorEvTri
import Derived.Test.YtindmpmlodllmaaGreatDoorProg
import Derived.KernelRfl
import Derived.Test.YtindmpmlodllmaaGreatDoorShR6
namespace Go.Ev
open Go.Proofs Go.Mx
set_option linter.unusedVariables false
set_option maxRecDepth 10000
def sH (n:Nat) (a0:List UInt8):Option (Core):=
 (qc n a0).bind fun k1=>(cZ n [3,4,2] k1).bind fun k2=>(qg n [] k2.1 0 k2.2).bind fun k3=>(aP n 8 k3.2.2).bind fun k4=>(if k4.1=0 then(kN n k3.1 k4.2).bind fun k6=>(kN n k6.1 k6.2).bind fun k7=>some k7.1 else some k3.1)
theorem Fa (n:Nat):∀(a0:List UInt8) {r:Core},sH n a0=some r→aF X.E 55 [lE 1 (je a0)] [] (aE (aI r)) []:=by
 intro a0 r h0;rw[sH] at h0;refine .n Tryz.func55 (fun L ks low K hl hL hlen hK=>?_);refine .af [] T [(2,pw 2)] [.o 2 (.cells [iE 0,iE 0,sE [],iE 0,fE 1 (ah []),iE 0,sE [],iE 0,fE 1 (ah []),fE 5 (aj []),fE 11 (aG [])])] ?_;obtain⟨k1,hk1,h0⟩:=bnd h0;refine .af [.call [.own 200007] (pl 0) [.cells ((aC k1).map .d)]] (A (Dx n _ hk1) T) [(3,pw 200007)] [.o 200007 (.cells ((aC k1).map .d))] ?_;obtain⟨k2,hk2,h0⟩:=bnd h0;obtain⟨k3,hk3,h0⟩:=bnd h0;refine .af [.sv (ah []),.sv (ah [3,4,2]),.call [.own 200007] (iE k2.1) [.cells ((aC k2.2).map .d)],.call [.own 200007] (.dN [aE (aI k3.1),iE k3.2.1]) [.cells ((aC k3.2.2).map .d)]] (A (aH.lit []) (A (aH.lit [3,4,2]) (A (dM n _ _ hk2) (A (Oi n _ _ _ _ hk3) T)))) [(4,pw 4)] [.o 200007 (.cells ((aC k3.2.2).map .d)),.o 4 (.cells ((aI k3.1).map .d))] ?_;obtain⟨k4,hk4,h0⟩:=bnd h0;refine .af [.call [.own 200007] (iE k4.1) [.cells ((aC k4.2).map .d)]] (A (aX n _ _ hk4) T) [(19,dE (k4.1=0))] [.o 200007 (.cells ((aC k4.2).map .d))] ?_;refine .jP h0 (fun hc5 h0=>?_) (fun hc5 h0=>?_)
 ·obtain⟨k6,hk6,h0⟩:=bnd h0;obtain⟨k7,JL,h0⟩:=bnd h0;refine .af [.call [.own 200007] (aE (aI k6.1)) [.cells ((aC k6.2).map .d)],.call [.own 200007] (aE (aI k7.1)) [.cells ((aC k7.2).map .d)]] (A (BA n _ _ hk6) (A (BA n _ _ JL) T)) [] [.o 2 (.cells ((aI k7.1).map .d)),.o 200007 (.cells ((aC k7.2).map .d))] ?_;cases h0;exact .rt hK
 ·refine .af [] T [] [.o 2 (.cells ((aI k3.1).map .d))] ?_;cases h0;exact .rt hK
def sJ (n:Nat) (a0:List UInt8):Option (Int×Bool):=
 Option.bind ((if(a0.length:Int)>0 then(gG a0 0).bind fun y23=>some (decide ((y23.toNat:Int)=45)) else some false):Option (Bool)) (fun(o1:Bool)=>Option.bind ((if o1=true then(IZ a0 1 (a0.length:Int)).bind fun z21=>some z21 else some a0):Option (List UInt8)) (fun(o2:List UInt8)=>Option.bind ((if(o2.length:Int)=0 then some true else(if(o2.length:Int)>17 then some true else(gG o2 0).bind fun y17=>(if(y17.toNat:Int)=48 then(if(o2.length:Int)>1 then some true else some o1) else some false))):Option (Bool)) (fun(o3:Bool)=>(if o3=true then some (0,false) else iterM n (fun(s5:Int×Int)=>((if s5.2<(o2.length:Int) then Option.bind ((gG o2 s5.2).bind fun ZO=>(if(ZO.toNat:Int)<48 then some true else some (decide ((ZO.toNat:Int)>57))):Option (Bool)) (fun(o8:Bool)=>(if o8=true then some (Sum.inl (0,false)) else(gG o2 s5.2).bind fun RF=>some (Sum.inr ((aT ((aT (s5.1*10))+(IntKind.i64.wrap (IntKind.u8.wrap ((RF.toNat:Int)-48))))),(aT (s5.2+1)))))) else Option.bind ((if o1=true then some (IntKind.i64.wrap (0-s5.1)) else some s5.1):Option (Int)) (fun(X0:Int)=>some (Sum.inl (X0,true)))):Option ((Int×Bool)⊕(Int×Int)))) (0,0)))))
theorem Fb (n:Nat):∀(a0:List UInt8) {r:Int×Bool},sJ n a0=some r→aF X.E 154 [sE a0] [] (.dN [iE r.1,bE r.2]) []:=by
 intro a0 r h0;rw[sJ] at h0;refine .n Tryz.func154 (fun L ks low K hl hL hlen hK=>?_);refine .a [] T [] ?_;refine .bP h0 rfl [0] (fun o1=>[(4,bE o1)]) n1 n1 (fun o1 h0=>?_) (fun y1 h1 hj1=>?_)
 ·refine .a [] T [(15,bE o1)] ?_;refine .bP h0 rfl [4] (fun o2=>[(0,sE o2)]) n1 n1 (fun o2 h0=>?_) (fun y1 h1 hj1=>?_)
  ·refine .bP h0 rfl [0,4] (fun o3=>[(38,bE o3)]) n1 n1 (fun o3 h0=>?_) (fun y1 h1 hj1=>?_)
   ·refine .jT h0 (fun hc4 h0=>?_) (fun hc4 h0=>?_)
    ·refine .a [] T [(2,iE 0),(3,bE false)] ?_;cases h0;exact .rt hK
    ·refine .a [] T [(5,iE 0)] ?_;refine .a [] T [(6,iE 0)] ?_;refine .it h0 rfl [0,4] (fun s5=>[(5,iE s5.1),(6,iE s5.2)]) n1 n1 [] (by kernel_rfl) (fun nk6 s5 h0=>?_);obtain⟨y1,h1,hw1,hn1⟩:=cO h0;refine .a [] T [(42,dE (s5.2<(o2.length:Int)))] ?_;refine .jP h1 (fun Ja h1=>?_) (fun Ja h1=>?_)
     ·refine .bP h1 rfl [0,4,5,6] (fun o8=>[(54,bE o8)]) n1 n1 (fun o8 h1=>?_) (fun y2 h2 hj2=>?_)
      ·refine .jT h1 (fun fU h1=>?_) (fun fU h1=>?_)
       ·refine .a [] T [(2,iE 0),(3,bE false)] ?_;cases h1;cases hw1 _ rfl;exact .rt hK
       ·obtain⟨RF,abb,h1⟩:=bnd h1;refine .a [.pl,.CG RF,.pl,.pl,.pl] (A (DU abb) T) [(5,iE (aT ((aT (s5.1*10))+(IntKind.i64.wrap (IntKind.u8.wrap ((RF.toNat:Int)-48))))))] ?_;refine .a [.pl] T [(6,iE (aT (s5.2+1)))] ?_;cases h1;exact .nI rfl _ (hn1 _ rfl) [] (by kernel_rfl)
      ·obtain⟨ZO,abd,h2⟩:=bnd h2;by_cases g12:(ZO.toNat:Int)<48
       ·have h2:=aJ g12 h2;refine .a (.CG ZO::(rb 5 true [])) (A (DU abd) (R 5 (dt g12) T)) [(54,bE true)] ?_;cases h2;exact .lg hj2 []
       ·have h2:=aK g12 h2;refine .a (.CG ZO::(rb 3 false [.CG ZO,.b false,.b false])) (A (DU abd) (R 2 (df g12) (A (A (df g12) (DU abd)) (R 2 (df g12) T)))) [(54,dE ((ZO.toNat:Int)>57))] ?_;cases h2;exact .lg hj2 []
     ·refine .a [] T [(63,bE o1)] ?_;refine .bP h1 rfl [] (fun X0=>[(5,iE X0)]) n1 n1 (fun X0 h1=>?_) (fun y2 h2 hj2=>?_)
      ·refine .a [] T [(2,iE X0),(3,bE true)] ?_;cases h1;cases hw1 _ rfl;exact .rt hK
      ·refine .jT h2 (fun oI h2=>?_) (fun oI h2=>?_)
       ·refine .a [] T [(5,iE (IntKind.i64.wrap (0-s5.1)))] ?_;cases h2;exact .lg hj2 []
       ·cases h2;exact .lg hj2 []
   ·by_cases g15:(o2.length:Int)=0
    ·have h1:=aJ g15 h1;refine .a (rb 10 true []) (R 4 (dt g15) (R 6 B1 T)) [(38,bE true)] ?_;cases h1;exact .lg hj1 []
    ·have h1:=aK g15 h1;by_cases g16:(o2.length:Int)>17
     ·have h1:=aJ g16 h1;refine .a (rb 4 false (rb 6 true [])) (R 4 (df g15) (R 6 (dt g16) T)) [(38,bE true)] ?_;cases h1;exact .lg hj1 []
     ·have h1:=aK g16 h1;obtain⟨y17,abe,h1⟩:=bnd h1;by_cases g18:(y17.toNat:Int)=48
      ·have h1:=aJ g18 h1;by_cases g19:(o2.length:Int)>1
       ·have h1:=aJ g19 h1;refine .a (rb 6 false (.CG y17::(.b false::(.b false::(rb 7 true [.b false,.b true,.b false]))))) (R 4 (df g15) (A (df g16) (A (A (df g16) (DU abe)) (R 2 (df g16) (R 4 (dt g18) (A (dt g19) (A (A (dt g18) (dt g19)) (A (A (df g16) (dt g18)) (A (df g16) T))))))))) [(38,bE true)] ?_;cases h1;exact .lg hj1 []
       ·have h1:=aK g19 h1;refine .a (rb 6 false (.CG y17::(.b false::(.b false::(rb 4 true [.b false,.b true,.b false,.b false,.b true,.b false]))))) (R 4 (df g15) (A (df g16) (A (A (df g16) (DU abe)) (R 2 (df g16) (R 4 (dt g18) (A (df g19) (A (A (dt g18) (df g19)) (A (A (df g16) (dt g18)) (A (df g16) T))))))))) [(38,bE o1)] ?_;cases h1;exact .lg hj1 []
      ·have h1:=aK g18 h1;refine .a (rb 6 false (.CG y17::(rb 10 false []))) (R 4 (df g15) (A (df g16) (A (A (df g16) (DU abe)) (R 2 (df g16) (R 5 (df g18) (A (A (df g16) (df g18)) (A (df g16) T))))))) [(38,bE false)] ?_;cases h1;exact .lg hj1 []
  ·refine .jT h1 (fun Lj h1=>?_) (fun Lj h1=>?_)
   ·obtain⟨z21,afc,h1⟩:=bnd h1;refine .a [.st z21] (A (slS afc) T) [(0,sE z21)] ?_;cases h1;exact .lg hj1 []
   ·cases h1;exact .lg hj1 []
 ·by_cases g22:(a0.length:Int)>0
  ·have h1:=aJ g22 h1;obtain⟨y23,afd,h1⟩:=bnd h1;refine .a [.b true,.b true,.CG y23,.b true,.b true] (A (dt g22) (A (A (dt g22) (DU afd)) (R 2 (dt g22) T))) [(4,dE ((y23.toNat:Int)=45))] ?_;cases h1;exact .lg hj1 []
  ·have h1:=aK g22 h1;refine .a (rb 4 false []) (R 4 (df g22) T) [(4,bE false)] ?_;cases h1;exact .lg hj1 []
def wX (n:Nat) (a0:List UInt8) (a1:Int):Option (List (List UInt8)):=
 iterM n (fun(s1:(List (List UInt8))×Int×Int)=>((if s1.2.2≤(a0.length:Int) then Option.bind (Option.bind ((if s1.2.2=(a0.length:Int) then some true else(gG a0 s1.2.2).bind fun RF=>some (decide ((RF.toNat:Int)=a1))):Option (Bool)) (fun(o5:Bool)=>(if o5=true then(IZ a0 s1.2.1 s1.2.2).bind fun z7=>(jJ 16 s1.1 [z7]).bind fun z8=>some (z8,(aT (s1.2.2+1))) else some (s1.1,s1.2.1))):Option ((List (List UInt8))×Int)) (fun(o4:(List (List UInt8))×Int)=>some (Sum.inr (o4.1,o4.2,(aT (s1.2.2+1))))) else some (Sum.inl s1.1)):Option ((List (List UInt8))⊕((List (List UInt8))×Int×Int)))) ([],0,0)
theorem Oj (n:Nat):∀(a0:List UInt8) (a1:Int) {r:List (List UInt8)},wX n a0 a1=some r→aF X.E 165 [sE a0,.d (.v (.int .u8 a1))] [] (lE 1 (dQ r)) []:=by
 intro a0 a1 r h0;rw[wX] at h0;refine .n Tryz.func165 (fun L ks low K hl hL hlen hK=>?_);refine .a [] T [] ?_;refine .a [.sv (dQ [])] (A (ji.lit []) T) [(5,fE 1 (dQ []))] ?_;refine .a [] T [(6,iE 0)] ?_;refine .a [] T [(7,iE 0)] ?_;refine .ow 5 100032 9 [0,1,6,7] rfl rfl (by kernel_rfl) ?_;refine .it h0 rfl [0,1] (fun s1=>[(5,.gs (.own 100032) 1 (dQ s1.1)),(6,iE s1.2.1),(7,iE s1.2.2)]) (fun s1=>[.o 100032 (.tok (dQ s1.1).length 9)]) n1 [] (by kernel_rfl) (fun WE s1 h0=>?_);obtain⟨y1,h1,hw1,hn1⟩:=cO h0;refine .a [] T [(12,dE (s1.2.2≤(a0.length:Int)))] ?_;refine .jP h1 (fun hc3 h1=>?_) (fun hc3 h1=>?_)
 ·refine .ZF h1 rfl [0,1,7] (fun o4=>[(5,.gs (.own 100032) 1 (dQ o4.1)),(6,iE o4.2)]) (fun o4=>[.o 100032 (.tok (dQ o4.1).length 9)]) n1 (fun o4 h1=>?_) (fun y2 h2 hj2=>?_)
  ·refine .a [.pl] T [(7,iE (aT (s1.2.2+1)))] ?_;cases h1;exact .nI rfl _ (hn1 _ rfl) [] (by kernel_rfl)
  ·refine .bP h2 rfl [0,1,5,6,7] (fun o5=>[(25,bE o5)]) n1 n1 (fun o5 h2=>?_) (fun y3 h3 hj3=>?_)
   ·refine .jT h2 (fun hc6 h2=>?_) (fun hc6 h2=>?_)
    ·obtain⟨z7,hz7,h2⟩:=bnd h2;obtain⟨z8,YV,h2⟩:=bnd h2;refine .aq [.st z7,.sv (dQ [z7]),.sv (dQ z8)] [((dQ s1.1).length:Int)] (A (slS hz7) (A (ji.lit [z7]) (A (ji.ap YV) T))) [(5,.gs (.own 100032) 1 (dQ z8))] [.o 100032 (.tok (dQ z8).length 9)] [] ?_;refine .a [.pl] T [(6,iE (aT (s1.2.2+1)))] ?_;cases h2;exact .lg hj2 []
    ·cases h2;exact .lg hj2 []
   ·by_cases g9:s1.2.2=(a0.length:Int)
    ·have h3:=aJ g9 h3;refine .a (rb 6 true []) (R 6 (dt g9) T) [(25,bE true)] ?_;cases h3;exact .lg hj3 []
    ·have h3:=aK g9 h3;obtain⟨RF,abb,h3⟩:=bnd h3;refine .a (rb 3 false (.CG RF::(rb 3 false []))) (R 2 (df g9) (A (A (df g9) (DU abb)) (R 3 (df g9) T))) [(25,dE ((RF.toNat:Int)=a1))] ?_;cases h3;exact .lg hj3 []
 ·refine .a [] T [(4,.gs (.own 100032) 1 (dQ s1.1))] ?_;cases h1;cases hw1 _ rfl;exact .rt hK
def wY (n:Nat) (a0:List UInt8) (a1:Int):Option ((List Int)×Int):=
 Option.bind ((if a1≥(a0.length:Int) then some true else(gG a0 a1).bind fun y24=>some (decide (¬(y24.toNat:Int)=123))):Option (Bool)) (fun(o1:Bool)=>(if o1=true then some ([],a1) else iterM n (fun(s3:Int)=>(Option.bind ((if s3<(a0.length:Int) then(gG a0 s3).bind fun y22=>some (decide (¬(y22.toNat:Int)=125)) else some false):Option (Bool)) (fun(o5:Bool)=>(if o5=true then some (Sum.inr (aT (s3+1))) else(if s3=(a0.length:Int) then some (Sum.inl ([],(-1))) else(IZ a0 (aT (a1+1)) s3).bind fun z8=>(wX n z8 44).bind fun k9=>iterM n (fun(s10:(List Int)×Int)=>(Option.bind ((if s10.2<(k9.length:Int) then some (decide (s10.2≤24)) else some false):Option (Bool)) (fun(qV:Bool)=>(if qV=true then(gG k9 s10.2).bind fun e14=>(sJ n e14).bind fun k15=>(if(!k15.2)=true then some (Sum.inl (Sum.inl (s10.1,(-1)))) else(jJ 8 s10.1 [k15.1]).bind fun z17=>some (Sum.inr (z17,(aT (s10.2+1))))) else some (Sum.inl (Sum.inl (s10.1,(aT (s3+1))))))):Option ((((List Int)×Int)⊕Int)⊕((List Int)×Int)))) ([],0)))):Option (((List Int)×Int)⊕Int))) a1))
theorem Ol (n:Nat):∀(a0:List UInt8) (a1:Int) {r:(List Int)×Int},wY n a0 a1=some r→aF X.E 155 [sE a0,iE a1] [] (.dN [lE 1 (ah r.1),iE r.2]) []:=by
 intro a0 a1 r h0;rw[wY] at h0;refine .n Tryz.func155 (fun L ks low K hl hL hlen hK=>?_);refine .a [] T [] ?_;refine .a [.sv (ah [])] (A (aH.lit []) T) [(6,fE 1 (ah []))] ?_;refine .bP h0 rfl [0,1,6] (fun o1=>[(22,bE o1)]) n1 n1 (fun o1 h0=>?_) (fun y1 h1 hj1=>?_)
 ·refine .jT h0 (fun hc2 h0=>?_) (fun hc2 h0=>?_)
  ·refine .a [] T [(4,fE 1 (ah [])),(5,iE a1)] ?_;cases h0;exact .rt hK
  ·refine .a [] T [(7,iE a1)] ?_;refine .it h0 rfl [0,1,6] (fun s3=>[(7,iE s3)]) n1 n1 [] (by kernel_rfl) (fun nk4 s3 h0=>?_);obtain⟨y1,h1,hw1,hn1⟩:=cO h0;refine .bP h1 rfl [0,1,6,7] (fun o5=>[(35,bE o5)]) n1 n1 (fun o5 h1=>?_) (fun y2 h2 hj2=>?_)
   ·refine .jT h1 (fun hc6 h1=>?_) (fun hc6 h1=>?_)
    ·refine .a [.pl] T [(7,iE (aT (s3+1)))] ?_;cases h1;exact .nI rfl _ (hn1 _ rfl) [] (by kernel_rfl)
    ·refine .a [] T [(41,dE (s3=(a0.length:Int)))] ?_;refine .jP h1 (fun Ja h1=>?_) (fun Ja h1=>?_)
     ·refine .a [] T [(4,fE 1 (ah [])),(5,iE (-1))] ?_;cases h1;cases hw1 _ rfl;exact .rt hK
     ·obtain⟨z8,YV,h1⟩:=bnd h1;obtain⟨k9,hk9,h1⟩:=bnd h1;refine .a [.pl,.st z8,.call [] (lE 1 (dQ k9)) []] (A (slS YV) (A (Oj n _ _ hk9) T)) [(8,lE 1 (dQ k9))] ?_;refine .a [] T [(9,iE 0)] ?_;refine .ow 6 100073 3 [7,8,9] rfl rfl (by kernel_rfl) ?_;refine .it h1 rfl [7,8] (fun s10=>[(6,.gs (.own 100073) 1 (ah s10.1)),(9,iE s10.2)]) (fun s10=>[.o 100073 (.tok (ah s10.1).length 3)]) n1 [] (by kernel_rfl) (fun agX s10 h1=>?_);obtain⟨y2,h2,hw2,hn2⟩:=cO h1;refine .bP h2 rfl [6,7,8,9] (fun qV=>[(56,bE qV)]) n1 n1 (fun qV h2=>?_) (fun y3 h3 hj3=>?_)
      ·refine .jT h2 (fun hc13 h2=>?_) (fun hc13 h2=>?_)
       ·obtain⟨e14,Qw,h2⟩:=bnd h2;obtain⟨k15,tN,h2⟩:=bnd h2;refine .a [.cs [.s e14],.call [] (.dN [iE k15.1,bE k15.2]) []] (A (ji.idx Qw) (A (Fb n _ tN) T)) [(10,iE k15.1),(11,bE k15.2)] ?_;refine .a [] T [(68,bE (!k15.2))] ?_;refine .jT h2 (fun hc16 h2=>?_) (fun hc16 h2=>?_)
        ·refine .a [] T [(4,.gs (.own 100073) 1 (ah s10.1)),(5,iE (-1))] ?_;cases h2;cases hw2 _ rfl;cases hw1 _ rfl;exact .rt hK
        ·obtain⟨z17,afe,h2⟩:=bnd h2;refine .aq [.sv (ah [k15.1]),.sv (ah z17)] [((ah s10.1).length:Int)] (A (aH.lit [k15.1]) (A (aH.ap afe) T)) [(6,.gs (.own 100073) 1 (ah z17))] [.o 100073 (.tok (ah z17).length 3)] [] ?_;refine .a [.pl] T [(9,iE (aT (s10.2+1)))] ?_;cases h2;exact .nI rfl _ (hn2 _ rfl) [] (by kernel_rfl)
       ·refine .a [.pl] T [(4,.gs (.own 100073) 1 (ah s10.1)),(5,iE (aT (s3+1)))] ?_;cases h2;cases hw2 _ rfl;cases hw1 _ rfl;exact .rt hK
      ·by_cases g18:s10.2<(k9.length:Int)
       ·have h3:=aJ g18 h3;refine .a (.v (k9.length:Int)::(rb 3 true [])) (A (ji.len' k9) (R 3 (dt g18) T)) [(56,dE (s10.2≤24))] ?_;refine .sn 8 ji k9 (by kernel_rfl) (fun aem=>?_);cases h3;exact .lg hj3 []
       ·have h3:=aK g18 h3;refine .a (.v (k9.length:Int)::(rb 3 false [])) (A (ji.len' k9) (R 3 (df g18) T)) [(56,bE false)] ?_;refine .sn 8 ji k9 (by kernel_rfl) (fun agY=>?_);cases h3;exact .lg hj3 []
   ·by_cases g21:s3<(a0.length:Int)
    ·have h2:=aJ g21 h2;obtain⟨y22,aff,h2⟩:=bnd h2;refine .a (rb 3 true [.CG y22,.b true,.b true]) (R 2 (dt g21) (A (A (dt g21) (DU aff)) (R 2 (dt g21) T))) [(35,dE (¬(y22.toNat:Int)=125))] ?_;cases h2;exact .lg hj2 []
    ·have h2:=aK g21 h2;refine .a (rb 5 false []) (R 5 (df g21) T) [(35,bE false)] ?_;cases h2;exact .lg hj2 []
 ·by_cases g23:a1≥(a0.length:Int)
  ·have h1:=aJ g23 h1;refine .a (rb 5 true []) (R 5 (dt g23) T) [(22,bE true)] ?_;cases h1;exact .lg hj1 []
  ·have h1:=aK g23 h1;obtain⟨y24,hy24,h1⟩:=bnd h1;refine .a (rb 3 false [.CG y24,.b false,.b false]) (R 2 (df g23) (A (A (df g23) (DU hy24)) (R 2 (df g23) T))) [(22,dE (¬(y24.toNat:Int)=123))] ?_;cases h1;exact .lg hj1 []
def wZ (n:Nat) (a0:List UInt8) (a1:Int):Option (Int):=
 iterM n (fun(s1:Int)=>(Option.bind ((if s1<(a0.length:Int) then(gG a0 s1).bind fun y6=>(if ¬(y6.toNat:Int)=32 then(if ¬(y6.toNat:Int)=40 then(if ¬(y6.toNat:Int)=41 then some (decide (¬(y6.toNat:Int)=123)) else some false) else some false) else some false) else some false):Option (Bool)) (fun(o3:Bool)=>(if o3=true then some (Sum.inr (aT (s1+1))) else some (Sum.inl s1))):Option (Int⊕Int))) a1
theorem Om (n:Nat):∀(a0:List UInt8) (a1:Int) {r:Int},wZ n a0 a1=some r→aF X.E 153 [sE a0,iE a1] [] (iE r) []:=by
 intro a0 a1 r h0;rw[wZ] at h0;refine .n Tryz.func153 (fun L ks low K hl hL hlen hK=>?_);refine .a [] T [] ?_;refine .it h0 rfl [0] (fun s1=>[(1,iE s1)]) n1 n1 [] (by kernel_rfl) (fun WE s1 h0=>?_);obtain⟨y1,h1,hw1,hn1⟩:=cO h0;refine .bP h1 rfl [0,1] (fun o3=>[(32,bE o3)]) n1 n1 (fun o3 h1=>?_) (fun y2 h2 hj2=>?_)
 ·refine .jT h1 (fun hc4 h1=>?_) (fun hc4 h1=>?_)
  ·refine .a [.pl] T [(1,iE (aT (s1+1)))] ?_;cases h1;exact .nI rfl _ (hn1 _ rfl) [] (by kernel_rfl)
  ·refine .a [] T [(4,iE s1)] ?_;cases h1;cases hw1 _ rfl;exact .rt hK
 ·by_cases g5:s1<(a0.length:Int)
  ·have h2:=aJ g5 h2;obtain⟨y6,UG,h2⟩:=bnd h2;by_cases g7:¬(y6.toNat:Int)=32
   ·have h2:=aJ g7 h2;by_cases g8:¬(y6.toNat:Int)=40
    ·have h2:=aJ g8 h2;by_cases g9:¬(y6.toNat:Int)=41
     ·have h2:=aJ g9 h2;refine .a (rb 3 true (.CG y6::(rb 5 true (.CG y6::(rb 5 true (.CG y6::(rb 5 true [.CG y6,.b true,.b true]))))))) (R 2 (dt g5) (A (A (dt g5) (DU UG)) (R 2 (dt g5) (R 2 (dt g7) (A (A (dt g7) (DU UG)) (R 2 (dt g7) (R 2 (dt g8) (A (A (dt g8) (DU UG)) (R 2 (dt g8) (R 2 (dt g9) (A (A (dt g9) (DU UG)) (R 2 (dt g9) T)))))))))))) [(32,dE (¬(y6.toNat:Int)=123))] ?_;cases h2;exact .lg hj2 []
     ·have h2:=aK g9 h2;refine .a (rb 3 true (.CG y6::(rb 5 true (.CG y6::(rb 5 true (.CG y6::(.b true::(.b true::(rb 5 false []))))))))) (R 2 (dt g5) (A (A (dt g5) (DU UG)) (R 2 (dt g5) (R 2 (dt g7) (A (A (dt g7) (DU UG)) (R 2 (dt g7) (R 2 (dt g8) (A (A (dt g8) (DU UG)) (R 2 (dt g8) (R 5 (df g9) T)))))))))) [(32,bE false)] ?_;cases h2;exact .lg hj2 []
    ·have h2:=aK g8 h2;refine .a (rb 3 true (.CG y6::(rb 5 true (.CG y6::(.b true::(.b true::(rb 10 false []))))))) (R 2 (dt g5) (A (A (dt g5) (DU UG)) (R 2 (dt g5) (R 2 (dt g7) (A (A (dt g7) (DU UG)) (R 2 (dt g7) (R 5 (df g8) (R 5 B0 T)))))))) [(32,bE false)] ?_;cases h2;exact .lg hj2 []
   ·have h2:=aK g7 h2;refine .a (rb 3 true (.CG y6::(.b true::(.b true::(rb 15 false []))))) (R 2 (dt g5) (A (A (dt g5) (DU UG)) (R 2 (dt g5) (R 5 (df g7) (R 10 B0 T))))) [(32,bE false)] ?_;cases h2;exact .lg hj2 []
  ·have h2:=aK g5 h2;refine .a (rb 20 false []) (R 5 (df g5) (R 15 B0 T)) [(32,bE false)] ?_;cases h2;exact .lg hj2 []
def xg (n:Nat) (a0:List UInt8) (a1:Int):Option (Form×Int):=
 (wZ n a0 a1).bind fun k1=>(IZ a0 a1 k1).bind fun z2=>(sJ n z2).bind fun k3=>(if k3.2=true then some ((⟨2,[],k3.1,[],[]⟩:Form),k1) else(if z2=[] then some ((⟨0,[],0,[],[]⟩:Form),(-1)) else(wY n a0 k1).bind fun k6=>some ((⟨1,z2,0,k6.1,[]⟩:Form),k6.2)))
theorem Oo (n:Nat):∀(a0:List UInt8) (a1:Int) {r:Form×Int},xg n a0 a1=some r→aF X.E 141 [sE a0,iE a1] [] (.dN [aE (ak r.1),iE r.2]) []:=by
 intro a0 a1 r h0;rw[xg] at h0;refine .n Tryz.func141 (fun L ks low K hl hL hlen hK=>?_);refine .af [] T [(4,pw 4)] [.o 4 (.cells [iE 0,sE [],iE 0,fE 1 (ah []),fE 5 (aj [])])] ?_;obtain⟨k1,hk1,h0⟩:=bnd h0;refine .a [.call [] (iE k1) []] (A (Om n _ _ hk1) T) [(6,iE k1)] ?_;obtain⟨z2,hz2,h0⟩:=bnd h0;refine .a [.st z2] (A (slS hz2) T) [(7,sE z2)] ?_;obtain⟨k3,hk3,h0⟩:=bnd h0;refine .a [.call [] (.dN [iE k3.1,bE k3.2]) []] (A (Fb n _ hk3) T) [(8,iE k3.1),(9,bE k3.2)] ?_;refine .a [] T [(24,bE k3.2)] ?_;refine .jT h0 (fun hc4 h0=>?_) (fun hc4 h0=>?_)
 ·refine .af [] T [(5,iE k1)] [.c 4 0 (iE 2),.c 4 2 (iE k3.1)] ?_;cases h0;exact .rt hK
 ·refine .a [] T [(29,dE (z2=[]))] ?_;refine .jP h0 (fun hc5 h0=>?_) (fun hc5 h0=>?_)
  ·refine .a [] T [(5,iE (-1))] ?_;cases h0;exact .rt hK
  ·obtain⟨k6,hk6,h0⟩:=bnd h0;refine .a [.call [] (.dN [lE 1 (ah k6.1),iE k6.2]) []] (A (Ol n _ _ hk6) T) [(10,lE 1 (ah k6.1)),(11,iE k6.2)] ?_;refine .af [] T [(5,iE k6.2)] [.c 4 0 (iE 1),.c 4 1 (sE z2),.c 4 3 (lE 1 (ah k6.1))] ?_;cases h0;exact .rt hK
def nZ (n:Nat) (a0:List UInt8) (a1:Int):Option (Int):=
 iterM n (fun(s1:Int)=>(Option.bind ((if s1<(a0.length:Int) then(gG a0 s1).bind fun y6=>some (decide ((y6.toNat:Int)=32)) else some false):Option (Bool)) (fun(o3:Bool)=>(if o3=true then some (Sum.inr (aT (s1+1))) else some (Sum.inl s1))):Option (Int⊕Int))) a1
theorem qP (n:Nat):∀(a0:List UInt8) (a1:Int) {r:Int},nZ n a0 a1=some r→aF X.E 122 [sE a0,iE a1] [] (iE r) []:=by
 intro a0 a1 r h0;rw[nZ] at h0;refine .n Tryz.func122 (fun L ks low K hl hL hlen hK=>?_);refine .a [] T [] ?_;refine .it h0 rfl [0] (fun s1=>[(1,iE s1)]) n1 n1 [] (by kernel_rfl) (fun WE s1 h0=>?_);obtain⟨y1,h1,hw1,hn1⟩:=cO h0;refine .bP h1 rfl [0,1] (fun o3=>[(14,bE o3)]) n1 n1 (fun o3 h1=>?_) (fun y2 h2 hj2=>?_)
 ·refine .jT h1 (fun hc4 h1=>?_) (fun hc4 h1=>?_)
  ·refine .a [.pl] T [(1,iE (aT (s1+1)))] ?_;cases h1;exact .nI rfl _ (hn1 _ rfl) [] (by kernel_rfl)
  ·refine .a [] T [(4,iE s1)] ?_;cases h1;cases hw1 _ rfl;exact .rt hK
 ·by_cases g5:s1<(a0.length:Int)
  ·have h2:=aJ g5 h2;obtain⟨y6,UG,h2⟩:=bnd h2;refine .a (rb 3 true [.CG y6,.b true,.b true]) (R 2 (dt g5) (A (A (dt g5) (DU UG)) (R 2 (dt g5) T))) [(14,dE ((y6.toNat:Int)=32))] ?_;cases h2;exact .lg hj2 []
  ·have h2:=aK g5 h2;refine .a (rb 5 false []) (R 5 (df g5) T) [(14,bE false)] ?_;cases h2;exact .lg hj2 []
def qh:Nat→(List UInt8)→Int→Int→Option (Form×Int)
 | 0,_,_,_=>none
 | n+1,a0,a1,a2=>(nZ n a0 a1).bind fun k1=>Option.bind ((if k1≥(a0.length:Int) then some true else some (decide (a2=0))):Option (Bool)) (fun(o2:Bool)=>(if o2=true then some ((⟨0,[],0,[],[]⟩:Form),(-1)) else(gG a0 k1).bind fun y4=>(if ¬(y4.toNat:Int)=40 then(xg n a0 k1).bind fun k6=>some (k6.1,k6.2) else(nZ n a0 (aT (k1+1))).bind fun k7=>iterM n (fun(s8:Int×(List Form))=>(Option.bind ((if s8.1<(a0.length:Int) then(gG a0 s8.1).bind fun y21=>(if ¬(y21.toNat:Int)=41 then some (decide ((s8.2.length:Int)<400)) else some false) else some false):Option (Bool)) (fun(kS:Bool)=>(if kS=true then(qh n a0 s8.1 (aT (a2-1))).bind fun k12=>(if k12.2<0 then some (Sum.inl ((⟨3,[],0,[],s8.2⟩:Form),(-1))) else(jJ 80 s8.2 [k12.1]).bind fun O1=>(nZ n a0 k12.2).bind fun k15=>some (Sum.inr (k15,O1))) else Option.bind ((if s8.1≥(a0.length:Int) then some true else(gG a0 s8.1).bind fun y19=>some (decide (¬(y19.toNat:Int)=41))):Option (Bool)) (fun(o16:Bool)=>(if o16=true then some (Sum.inl ((⟨3,[],0,[],s8.2⟩:Form),(-1))) else some (Sum.inl ((⟨3,[],0,[],s8.2⟩:Form),(aT (s8.1+1)))))))):Option ((Form×Int)⊕(Int×(List Form))))) (k7,[]))))
theorem Oq (n:Nat):∀(a0:List UInt8) (a1:Int) (a2:Int) {r:Form×Int},qh n a0 a1 a2=some r→aF X.E 121 [sE a0,iE a1,iE a2] [] (.dN [aE (ak r.1),iE r.2]) []:=by
 induction n with
 | zero=>intro a0 a1 a2 r h; cases h
 | succ n ih=>
  intro a0 a1 a2 r h0;rw[qh] at h0;refine .n Tryz.func121 (fun L ks low K hl hL hlen hK=>?_);refine .af [] T [(6,pw 6)] [.o 6 (.cells [iE 0,sE [],iE 0,fE 1 (ah []),fE 5 (aj [])])] ?_;obtain⟨k1,hk1,h0⟩:=bnd h0;refine .a [.call [] (iE k1) []] (A (qP n _ _ hk1) T) [(1,iE k1)] ?_;refine .bP h0 rfl [0,1,2,6] (fun o2=>[(21,bE o2)]) n1 n1 (fun o2 h0=>?_) (fun y1 h1 hj1=>?_)
  ·refine .jT h0 (fun hc3 h0=>?_) (fun hc3 h0=>?_)
   ·refine .a [] T [(7,iE (-1))] ?_;cases h0;exact .rt hK
   ·obtain⟨y4,hy4,h0⟩:=bnd h0;refine .a [.CG y4] (A (DU hy4) T) [(26,dE (¬(y4.toNat:Int)=40))] ?_;refine .jP h0 (fun hc5 h0=>?_) (fun hc5 h0=>?_)
    ·obtain⟨k6,hk6,h0⟩:=bnd h0;refine .af [.call [] (.dN [aE (ak k6.1),iE k6.2]) []] (A (Oo n _ _ hk6) T) [(7,iE k6.2)] [.o 6 (.cells ((ak k6.1).map .d))] ?_;cases h0;exact .rt hK
    ·refine .af [] T [(8,pw 8)] [.o 8 (.cells [iE 3,sE [],iE 0,fE 1 (ah []),fE 5 (aj [])])] ?_;obtain⟨k7,JL,h0⟩:=bnd h0;refine .a [.pl,.call [] (iE k7) []] (A (qP n _ _ JL) T) [(1,iE k7)] ?_;refine .oc 8 4 100068 26 (by kernel_rfl) ?_;refine .it h0 rfl [0,2,6,8] (fun s8=>[(1,iE s8.1)]) (fun s8=>[.c 8 4 (.gs (.own 100068) 5 (aj s8.2)),.o 100068 (.tok (aj s8.2).length 26)]) n1 [] (by kernel_rfl) (fun nk9 s8 h0=>?_);obtain⟨y1,h1,hw1,hn1⟩:=cO h0;refine .bP h1 rfl [0,1,2,6,8] (fun kS=>[(52,bE kS)]) n1 n1 (fun kS h1=>?_) (fun y2 h2 hj2=>?_)
     ·refine .jT h1 (fun bJ h1=>?_) (fun bJ h1=>?_)
      ·obtain⟨k12,hk12,h1⟩:=bnd h1;refine .af [.pl,.call [] (.dN [aE (ak k12.1),iE k12.2]) []] (A (ih _ _ _ hk12) T) [(9,pw 9),(10,iE k12.2)] [.o 9 (.cells ((ak k12.1).map .d))] ?_;refine .a [] T [(62,dE (k12.2<0))] ?_;refine .jP h1 (fun hc13 h1=>?_) (fun hc13 h1=>?_)
       ·refine .af [] T [(7,iE (-1))] [.c 6 0 (iE 3),.c 6 4 (.gs (.own 100068) 5 (aj s8.2))] ?_;cases h1;cases hw1 _ rfl;exact .rt hK
       ·obtain⟨O1,WI,h1⟩:=bnd h1;refine .aq [.sv (aj [k12.1]),.sv (aj O1)] [((aj s8.2).length:Int)] (A (aA.lit [k12.1]) (A (aA.ap WI) T)) [] [.c 8 4 (.gs (.own 100068) 5 (aj O1)),.o 100068 (.tok (aj O1).length 26)] [] ?_;obtain⟨k15,tN,h1⟩:=bnd h1;refine .a [.call [] (iE k15) []] (A (qP n _ _ tN) T) [(1,iE k15)] ?_;cases h1;refine .kp [0,1,2,6,8] [] ?_;refine .dr 9 (by kernel_rfl) ?_;exact .nI rfl _ (hn1 _ rfl) [] (by kernel_rfl)
      ·refine .bP h1 rfl [1,6,8] (fun o16=>[(82,bE o16)]) n1 n1 (fun o16 h1=>?_) (fun y2 h2 hj2=>?_)
       ·refine .jT h1 (fun hc17 h1=>?_) (fun hc17 h1=>?_)
        ·refine .af [] T [(7,iE (-1))] [.c 6 0 (iE 3),.c 6 4 (.gs (.own 100068) 5 (aj s8.2))] ?_;cases h1;cases hw1 _ rfl;exact .rt hK
        ·refine .af [.pl] T [(7,iE (aT (s8.1+1)))] [.c 6 0 (iE 3),.c 6 4 (.gs (.own 100068) 5 (aj s8.2))] ?_;cases h1;cases hw1 _ rfl;exact .rt hK
       ·by_cases g18:s8.1≥(a0.length:Int)
        ·have h2:=aJ g18 h2;refine .a (rb 5 true []) (R 5 (dt g18) T) [(82,bE true)] ?_;cases h2;exact .lg hj2 []
        ·have h2:=aK g18 h2;obtain⟨y19,afg,h2⟩:=bnd h2;refine .a (rb 3 false [.CG y19,.b false,.b false]) (R 2 (df g18) (A (A (df g18) (DU afg)) (R 2 (df g18) T))) [(82,dE (¬(y19.toNat:Int)=41))] ?_;cases h2;exact .lg hj2 []
     ·by_cases g20:s8.1<(a0.length:Int)
      ·have h2:=aJ g20 h2;obtain⟨y21,ada,h2⟩:=bnd h2;by_cases g22:¬(y21.toNat:Int)=41
       ·have h2:=aJ g22 h2;refine .a (rb 3 true (.CG y21::(rb 5 true [.v (s8.2.length:Int),.b true,.b true]))) (R 2 (dt g20) (A (A (dt g20) (DU ada)) (R 2 (dt g20) (R 2 (dt g22) (A (A (dt g22) (aA.len' s8.2)) (R 2 (dt g22) T)))))) [(52,dE ((s8.2.length:Int)<400))] ?_;cases h2;exact .lg hj2 []
       ·have h2:=aK g22 h2;refine .a (rb 3 true (.CG y21::(.b true::(.b true::(rb 5 false []))))) (R 2 (dt g20) (A (A (dt g20) (DU ada)) (R 2 (dt g20) (R 5 (df g22) T)))) [(52,bE false)] ?_;cases h2;exact .lg hj2 []
      ·have h2:=aK g20 h2;refine .a (rb 10 false []) (R 5 (df g20) (R 5 B0 T)) [(52,bE false)] ?_;cases h2;exact .lg hj2 []
  ·by_cases g23:k1≥(a0.length:Int)
   ·have h1:=aJ g23 h1;refine .a (rb 3 true []) (R 3 (dt g23) T) [(21,bE true)] ?_;cases h1;exact .lg hj1 []
   ·have h1:=aK g23 h1;refine .a (rb 3 false []) (R 3 (df g23) T) [(21,dE (a2=0))] ?_;cases h1;exact .lg hj1 []
def rO (n:Nat) (a0:List UInt8):Option (Form×Bool):=
 (qh n a0 0 40).bind fun k1=>Option.bind ((if k1.2<0 then some true else(nZ n a0 k1.2).bind fun k5=>(if ¬k5=(a0.length:Int) then some true else(bQ n k1.1).bind fun k7=>some (!k7))):Option (Bool)) (fun(o2:Bool)=>(if o2=true then some ((⟨0,[],0,[],[]⟩:Form),false) else some (k1.1,true)))
theorem Ic (n:Nat):∀(a0:List UInt8) {r:Form×Bool},rO n a0=some r→aF X.E 94 [sE a0] [] (.dN [aE (ak r.1),bE r.2]) []:=by
 intro a0 r h0;rw[rO] at h0;refine .n Tryz.func94 (fun L ks low K hl hL hlen hK=>?_);refine .af [] T [(2,pw 2)] [.o 2 (.cells [iE 0,sE [],iE 0,fE 1 (ah []),fE 5 (aj [])])] ?_;obtain⟨k1,hk1,h0⟩:=bnd h0;refine .af [.call [] (.dN [aE (ak k1.1),iE k1.2]) []] (A (Oq n _ _ _ hk1) T) [(4,pw 4),(5,iE k1.2)] [.o 4 (.cells ((ak k1.1).map .d))] ?_;refine .bP h0 rfl [2,4] (fun o2=>[(25,bE o2)]) n1 n1 (fun o2 h0=>?_) (fun y1 h1 hj1=>?_)
 ·refine .jT h0 (fun hc3 h0=>?_) (fun hc3 h0=>?_)
  ·refine .a [] T [(3,bE false)] ?_;cases h0;exact .rt hK
  ·refine .af [] T [(3,bE true)] [.o 2 (.cells ((ak k1.1).map .d))] ?_;cases h0;exact .rt hK
 ·by_cases g4:k1.2<0
  ·have h1:=aJ g4 h1;refine .a (rb 11 true []) (R 7 (dt g4) (R 4 B1 T)) [(25,bE true)] ?_;cases h1;exact .lg hj1 []
  ·have h1:=aK g4 h1;obtain⟨k5,hk5,h1⟩:=bnd h1;by_cases g6:¬k5=(a0.length:Int)
   ·have h1:=aJ g6 h1;refine .a (rb 3 false (.call [] (iE k5) []::(rb 4 false (rb 4 true [])))) (R 2 (df g4) (A (A (df g4) (qP n _ _ hk5)) (R 4 (df g4) (R 4 (dt g6) T)))) [(25,bE true)] ?_;cases h1;exact .lg hj1 []
   ·have h1:=aK g6 h1;obtain⟨k7,JL,h1⟩:=bnd h1;refine .a (rb 3 false (.call [] (iE k5) []::(rb 6 false [.call [] (bE k7) [],.b false,.b false]))) (R 2 (df g4) (A (A (df g4) (qP n _ _ hk5)) (R 4 (df g4) (A (df g6) (A (A (df g6) (aQ n _ JL)) (R 2 (df g6) T)))))) [(25,bE (!k7))] ?_;cases h1;exact .lg hj1 []
def nN (n:Nat) (a0:List UInt8):Option (Form):=
 (rO n a0).bind fun k1=>some k1.1
theorem yg (n:Nat):∀(a0:List UInt8) {r:Form},nN n a0=some r→aF X.E 79 [sE a0] [] (aE (ak r)) []:=by
 intro a0 r h0;rw[nN] at h0;refine .n Tryz.func79 (fun L ks low K hl hL hlen hK=>?_);refine .af [] T [(2,pw 2)] [.o 2 (.cells [iE 0,sE [],iE 0,fE 1 (ah []),fE 5 (aj [])])] ?_;obtain⟨k1,hk1,h0⟩:=bnd h0;refine .af [.call [] (.dN [aE (ak k1.1),bE k1.2]) []] (A (Ic n _ hk1) T) [(3,pw 3)] [.o 3 (.cells ((ak k1.1).map .d))] ?_;refine .af [] T [] [.o 2 (.cells ((ak k1.1).map .d))] ?_;cases h0;exact .rt hK
def gJ (n:Nat) (a0:List Form):Option (Form):=
 some (⟨3,[],0,[],a0⟩:Form)
theorem gY (n:Nat):∀(a0:List Form) {r:Form},gJ n a0=some r→aF X.E 97 [lE 5 (aj a0)] [] (aE (ak r)) []:=by
 intro a0 r h0;rw[gJ] at h0;refine .n Tryz.func97 (fun L ks low K hl hL hlen hK=>?_);refine .af [] T [(2,pw 2)] [.o 2 (.cells [iE 0,sE [],iE 0,fE 1 (ah []),fE 5 (aj [])])] ?_;refine .af [] T [] [.c 2 0 (iE 3),.c 2 4 (lE 5 (aj a0))] ?_;cases h0;exact .rt hK
def gq:Nat→(List (List UInt8))→Int→aY→Option (Form×aY)
 | 0,_,_,_=>none
 | n+1,a1,a2,w0=>Option.bind ((if a2=0 then some (true,w0) else(aP n 5 w0).bind fun k46=>some ((decide (k46.1=0)),k46.2)):Option (Bool×aY)) (fun(o1:Bool×aY)=>(if o1.1=true then(aP n 3 o1.2).bind fun k3=>(if k3.1=0 then(cZ n [0,1,2,7] k3.2).bind fun k5=>some ((⟨2,[],k5.1,[],[]⟩:Form),k5.2) else(aP n (a1.length:Int) k3.2).bind fun k6=>(gG a1 k6.1).bind fun e7=>(eY n e7).bind fun k8=>some (k8,k6.2)) else(jd n [[120],[121],[116]] o1.2).bind fun k10=>(jJ 16 [] a1).bind fun z11=>(jJ 16 z11 [k10.1]).bind fun z12=>(aP n 8 k10.2).bind fun k13=>Option.bind ((if k13.1=0 then some (decide (k13.1=0)) else some (decide (k13.1=1))):Option (Bool)) (fun(uF:Bool)=>(if uF=true then(eY n [108,97,109,98,100,97]).bind fun k16=>(eY n k10.1).bind fun k17=>(gJ n [k17]).bind fun k18=>(gq n z12 (aT (a2-1)) k13.2).bind fun k19=>(gJ n [k16,k18,k19.1]).bind fun k20=>some (k20,k19.2) else Option.bind ((if k13.1=2 then some (decide (k13.1=2)) else some (decide (k13.1=3))):Option (Bool)) (fun(Y0:Bool)=>(if Y0=true then(eY n k10.1).bind fun k23=>(gq n a1 (aT (a2-1)) k13.2).bind fun k24=>(gJ n [k23,k24.1]).bind fun k25=>(eY n [108,101,116]).bind fun k26=>(gJ n [k25]).bind fun k27=>(gq n z12 (aT (a2-1)) k24.2).bind fun k28=>(gJ n [k26,k27,k28.1]).bind fun k29=>some (k29,k28.2) else(if k13.1=4 then(eY n [105,102]).bind fun k31=>(gq n a1 (aT (a2-1)) k13.2).bind fun k32=>(gq n a1 (aT (a2-1)) k32.2).bind fun k33=>(gq n a1 0 k33.2).bind fun k34=>(gJ n [k31,k32.1,k33.1,k34.1]).bind fun EU=>some (EU,k34.2) else(if k13.1=5 then(eY n [113,117,111,116,101]).bind fun k37=>(lu n 1 k13.2).bind fun k38=>(gJ n [k37,k38.1]).bind fun k39=>some (k39,k38.2) else(gq n a1 (aT (a2-1)) k13.2).bind fun Y1=>(gq n a1 (aT (a2-1)) Y1.2).bind fun Y2=>(gJ n [Y1.1,Y2.1]).bind fun k42=>some (k42,Y2.2)))))))))
theorem Ot (n:Nat):∀(a1:List (List UInt8)) (a2:Int) (w0:aY) {r:Form×aY},gq n a1 a2 w0=some r→aF X.E 96 [pl 0,lE 1 (dQ a1),iE a2] [some (.cells ((aC w0).map .d))] (aE (ak r.1)) [.cells ((aC r.2).map .d)]:=by
 induction n with
 | zero=>intro a1 a2 w0 r h; cases h
 | succ n ih=>
  intro a1 a2 w0 r h0;rw[gq] at h0;refine .n Tryz.func96 (fun L ks low K hl hL hlen hK=>?_);refine .af [] T [(6,pw 6)] [.o 6 (.cells [iE 0,sE [],iE 0,fE 1 (ah []),fE 5 (aj [])])] ?_;refine .bP h0 rfl [0,1,2,6] (fun o1=>[(16,bE o1.1)]) n1 (fun o1=>[.o 0 (.cells ((aC o1.2).map .d))]) (fun o1 h0=>?_) (fun y1 h1 hj1=>?_)
  ·refine .jT h0 (fun hc2 h0=>?_) (fun hc2 h0=>?_)
   ·obtain⟨k3,hk3,h0⟩:=bnd h0;refine .ao [.call [.low 0] (iE k3.1) [.cells ((aC k3.2).map .d)]] (A (aX n _ _ hk3) T) [(19,dE (k3.1=0))] [.o 0 (.cells ((aC k3.2).map .d))] ?_;refine .jP h0 (fun hc4 h0=>?_) (fun hc4 h0=>?_)
    ·obtain⟨k5,hk5,h0⟩:=bnd h0;refine .aq [.sv (ah [0,1,2,7]),.call [.low 0] (iE k5.1) [.cells ((aC k5.2).map .d)]] [] (A (aH.lit [0,1,2,7]) (A (dM n _ _ hk5) T)) [] [.c 6 0 (iE 2),.c 6 2 (iE k5.1)] [.o 0 (.cells ((aC k5.2).map .d))] ?_;cases h0;exact .rt hK
    ·obtain⟨k6,hk6,h0⟩:=bnd h0;obtain⟨e7,ET,h0⟩:=bnd h0;obtain⟨k8,hk8,h0⟩:=bnd h0;refine .aq [.v (a1.length:Int),.call [.low 0] (iE k6.1) [.cells ((aC k6.2).map .d)],.cs [.s e7],.call [] (aE (ak k8)) []] [] (A (ji.len' a1) (A (aX n _ _ hk6) (A (ji.idx ET) (A (iD n _ hk8) T)))) [] [.o 6 (.cells ((ak k8).map .d))] [.o 0 (.cells ((aC k6.2).map .d))] ?_;refine .sn 1 ji a1 (by kernel_rfl) (fun hb9=>?_);cases h0;exact .rt hK
   ·obtain⟨k10,hk10,h0⟩:=bnd h0;refine .ao [.sv (dQ [[120],[121],[116]]),.call [.low 0] (sE k10.1) [.cells ((aC k10.2).map .d)]] (A (ji.lit [[120],[121],[116]]) (A (qy n _ _ hk10) T)) [(7,sE k10.1)] [.o 0 (.cells ((aC k10.2).map .d))] ?_;obtain⟨z11,BR,h0⟩:=bnd h0;obtain⟨z12,KW,h0⟩:=bnd h0;refine .aq [.sv (dQ []),.sv (dQ z11),.sv (dQ [k10.1]),.sv (dQ z12)] [((dQ z11).length:Int)] (A (ji.lit []) (A (ji.ap BR) (A (ji.lit [k10.1]) (A (ji.ap KW) T)))) [(8,.gs (.own 100037) 1 (dQ z12))] [.o 100037 (.tok (dQ z12).length 9)] [] ?_;obtain⟨k13,oH,h0⟩:=bnd h0;refine .ao [.call [.low 0] (iE k13.1) [.cells ((aC k13.2).map .d)]] (A (aX n _ _ oH) T) [(42,iE k13.1)] [.o 0 (.cells ((aC k13.2).map .d))] ?_;refine .a [] T [(43,dE (k13.1=0))] ?_;refine .bP h0 rfl [0,1,2,6,7,8,42] (fun uF=>[(43,bE uF)]) n1 n1 (fun uF h0=>?_) (fun y1 h1 hj1=>?_)
    ·refine .jT h0 (fun tV h0=>?_) (fun tV h0=>?_)
     ·obtain⟨k16,AZ,h0⟩:=bnd h0;obtain⟨k17,wH,h0⟩:=bnd h0;obtain⟨k18,oV,h0⟩:=bnd h0;obtain⟨k19,wI,h0⟩:=bnd h0;obtain⟨k20,Dn,h0⟩:=bnd h0;refine .aq [.call [] (aE (ak k16)) [],.call [] (aE (ak k17)) [],.sv (aj [k17]),.call [] (aE (ak k18)) [],.pl,.call [.low 0] (aE (ak k19.1)) [.cells ((aC k19.2).map .d)],.sv (aj [k16,k18,k19.1]),.call [] (aE (ak k20)) []] [] (A (iD n _ AZ) (A (iD n _ wH) (A (aA.lit [k17]) (A (gY n _ oV) (A (ih _ _ _ wI) (A (aA.lit [k16,k18,k19.1]) (A (gY n _ Dn) T))))))) [] [.o 6 (.cells ((ak k20).map .d))] [.o 0 (.cells ((aC k19.2).map .d))] ?_;cases h0;exact .rt hK
     ·refine .a [] T [(58,dE (k13.1=2))] ?_;refine .bP h0 rfl [0,1,2,6,7,8,42] (fun Y0=>[(58,bE Y0)]) n1 n1 (fun Y0 h0=>?_) (fun y1 h1 hj1=>?_)
      ·refine .jT h0 (fun hc22 h0=>?_) (fun hc22 h0=>?_)
       ·obtain⟨k23,KZ,h0⟩:=bnd h0;obtain⟨k24,zG,h0⟩:=bnd h0;obtain⟨k25,zQ,h0⟩:=bnd h0;refine .aq [.call [] (aE (ak k23)) [],.pl,.call [.low 0] (aE (ak k24.1)) [.cells ((aC k24.2).map .d)],.sv (aj [k23,k24.1]),.call [] (aE (ak k25)) []] [] (A (iD n _ KZ) (A (ih _ _ _ zG) (A (aA.lit [k23,k24.1]) (A (gY n _ zQ) T)))) [(9,pw 9)] [.o 9 (.cells ((ak k25).map .d))] [.o 0 (.cells ((aC k24.2).map .d))] ?_;obtain⟨k26,yQ,h0⟩:=bnd h0;obtain⟨k27,uH,h0⟩:=bnd h0;obtain⟨k28,KT,h0⟩:=bnd h0;obtain⟨k29,NZ,h0⟩:=bnd h0;refine .ad mixed [(0,[.call [] (aE (ak k26)) []]),(2,[.sv (aj [k25])]),(3,[.call [] (aE (ak k27)) []]),(7,[.pl]),(8,[.call [.low 0] (aE (ak k28.1)) [.cells ((aC k28.2).map .d)]]),(9,[.sv (aj [k26,k27,k28.1])]),(10,[.call [] (aE (ak k29)) []])] [] (A (iD n _ yQ) (A (aA.lit [k25]) (A (gY n _ uH) (A (ih _ _ _ KT) (A (aA.lit [k26,k27,k28.1]) (A (gY n _ NZ) T)))))) [] [.o 6 (.cells ((ak k29).map .d))] [.o 0 (.cells ((aC k28.2).map .d))] ?_;cases h0;exact .rt hK
       ·refine .a [] T [(81,dE (k13.1=4))] ?_;refine .jP h0 (fun WB h0=>?_) (fun WB h0=>?_)
        ·obtain⟨k31,hk31,h0⟩:=bnd h0;obtain⟨k32,Dp,h0⟩:=bnd h0;obtain⟨k33,N7,h0⟩:=bnd h0;obtain⟨k34,Uf,h0⟩:=bnd h0;obtain⟨EU,La,h0⟩:=bnd h0;refine .aq [.call [] (aE (ak k31)) [],.pl,.call [.low 0] (aE (ak k32.1)) [.cells ((aC k32.2).map .d)],.pl,.call [.low 0] (aE (ak k33.1)) [.cells ((aC k33.2).map .d)],.call [.low 0] (aE (ak k34.1)) [.cells ((aC k34.2).map .d)],.sv (aj [k31,k32.1,k33.1,k34.1]),.call [] (aE (ak EU)) []] [] (A (iD n _ hk31) (A (ih _ _ _ Dp) (A (ih _ _ _ N7) (A (ih _ _ _ Uf) (A (aA.lit [k31,k32.1,k33.1,k34.1]) (A (gY n _ La) T)))))) [] [.o 6 (.cells ((ak EU).map .d))] [.o 0 (.cells ((aC k34.2).map .d))] ?_;cases h0;exact .rt hK
        ·refine .a [] T [(99,dE (k13.1=5))] ?_;refine .jP h0 (fun afh h0=>?_) (fun afh h0=>?_)
         ·obtain⟨k37,WO,h0⟩:=bnd h0;obtain⟨k38,aaN,h0⟩:=bnd h0;obtain⟨k39,aa2,h0⟩:=bnd h0;refine .aq [.call [] (aE (ak k37)) [],.call [.low 0] (aE (ak k38.1)) [.cells ((aC k38.2).map .d)],.sv (aj [k37,k38.1]),.call [] (aE (ak k39)) []] [] (A (iD n _ WO) (A (E8 n _ _ aaN) (A (aA.lit [k37,k38.1]) (A (gY n _ aa2) T)))) [] [.o 6 (.cells ((ak k39).map .d))] [.o 0 (.cells ((aC k38.2).map .d))] ?_;cases h0;exact .rt hK
         ·obtain⟨Y1,afi,h0⟩:=bnd h0;obtain⟨Y2,afj,h0⟩:=bnd h0;obtain⟨k42,afk,h0⟩:=bnd h0;refine .aq [.pl,.call [.low 0] (aE (ak Y1.1)) [.cells ((aC Y1.2).map .d)],.pl,.call [.low 0] (aE (ak Y2.1)) [.cells ((aC Y2.2).map .d)],.sv (aj [Y1.1,Y2.1]),.call [] (aE (ak k42)) []] [] (A (ih _ _ _ afi) (A (ih _ _ _ afj) (A (aA.lit [Y1.1,Y2.1]) (A (gY n _ afk) T)))) [] [.o 6 (.cells ((ak k42).map .d))] [.o 0 (.cells ((aC Y2.2).map .d))] ?_;cases h0;exact .rt hK
      ·refine .jP h1 (fun afl h1=>?_) (fun afl h1=>?_)
       ·cases h1;exact .lg hj1 []
       ·refine .a [] T [(58,dE (k13.1=3))] ?_;cases h1;exact .lg hj1 []
    ·refine .jP h1 (fun afm h1=>?_) (fun afm h1=>?_)
     ·cases h1;exact .lg hj1 []
     ·refine .a [] T [(43,dE (k13.1=1))] ?_;cases h1;exact .lg hj1 []
  ·by_cases g45:a2=0
   ·have h1:=aJ g45 h1;refine .a (rb 4 true []) (R 4 (dt g45) T) [(16,bE true)] ?_;cases h1;exact .lg hj1 []
   ·have h1:=aK g45 h1;obtain⟨k46,afn,h1⟩:=bnd h1;refine .ao [.b false,.b false,.call [.low 0] (iE k46.1) [.cells ((aC k46.2).map .d)],.b false,.b false] (A (df g45) (A (A (df g45) (aX n _ _ afn)) (R 2 (df g45) T))) [(16,dE (k46.1=0))] [.o 0 (.cells ((aC k46.2).map .d))] ?_;cases h1;exact .lg hj1 []
def yh (n:Nat)  : Option (List (List UInt8)):=
 some [mW,mV,mD,mM,lY,l9,mg,l7,mJ,mQ,lT,lZ,mP,mF,mO]
theorem Lp (n:Nat):∀{r:List (List UInt8)},yh n  = some r→aF X.E 95 [] [] (lE 1 (dQ r)) []:=by
 intro r h0;rw[yh] at h0;refine .n Tryz.func95 (fun L ks low K hl hL hlen hK=>?_);refine .a [] T [] ?_;refine .a [.sv (dQ [mW,mV,mD,mM,lY,l9,mg,l7,mJ,mQ,lT,lZ,mP,mF,mO])] (A (ji.lit [mW,mV,mD,mM,lY,l9,mg,l7,mJ,mQ,lT,lZ,mP,mF,mO]) T) [(0,fE 1 (dQ [mW,mV,mD,mM,lY,l9,mg,l7,mJ,mQ,lT,lZ,mP,mF,mO]))] ?_;cases h0;exact .rt hK
def xk (n:Nat) (w0:aY):Option (Form×aY):=
 (yh n).bind fun k1=>(aP n 3 w0).bind fun k2=>(if k2.1>0 then(aP n (k1.length:Int) k2.2).bind fun k4=>(gG k1 k4.1).bind fun e5=>(nN n e5).bind fun k6=>some (k6,k4.2) else(cZ n [4,3,2] k2.2).bind fun k8=>(gq n [[43],[108,105,115,116],[103]] k8.1 k8.2).bind fun k9=>(aP n 2 k9.2).bind fun k10=>Option.bind ((if k10.1=0 then(nN n Bl).bind fun k13=>(eY n iw).bind fun k14=>(eY n [103]).bind fun k15=>(gJ n [k15,k13]).bind fun k16=>(gJ n [k16]).bind fun k17=>(gJ n [k14,k17,k9.1]).bind fun k18=>some k18 else some k9.1):Option (Form)) (fun(Ei:Form)=>some (Ei,k10.2)))
theorem Ou (n:Nat):∀(w0:aY) {r:Form×aY},xk n w0=some r→aF X.E 80 [pl 0] [some (.cells ((aC w0).map .d))] (aE (ak r.1)) [.cells ((aC r.2).map .d)]:=by
 intro w0 r h0;rw[xk] at h0;refine .n Tryz.func80 (fun L ks low K hl hL hlen hK=>?_);refine .af [] T [(2,pw 2)] [.o 2 (.cells [iE 0,sE [],iE 0,fE 1 (ah []),fE 5 (aj [])])] ?_;obtain⟨k1,hk1,h0⟩:=bnd h0;refine .a [.call [] (lE 1 (dQ k1)) []] (A (Lp n  hk1) T) [(3,lE 1 (dQ k1))] ?_;obtain⟨k2,hk2,h0⟩:=bnd h0;refine .ao [.call [.low 0] (iE k2.1) [.cells ((aC k2.2).map .d)]] (A (aX n _ _ hk2) T) [(9,dE (k2.1>0))] [.o 0 (.cells ((aC k2.2).map .d))] ?_;refine .jP h0 (fun hc3 h0=>?_) (fun hc3 h0=>?_)
 ·obtain⟨k4,hk4,h0⟩:=bnd h0;obtain⟨e5,O4,h0⟩:=bnd h0;obtain⟨k6,hk6,h0⟩:=bnd h0;refine .aq [.v (k1.length:Int),.call [.low 0] (iE k4.1) [.cells ((aC k4.2).map .d)],.cs [.s e5],.call [] (aE (ak k6)) []] [] (A (ji.len' k1) (A (aX n _ _ hk4) (A (ji.idx O4) (A (yg n _ hk6) T)))) [] [.o 2 (.cells ((ak k6).map .d))] [.o 0 (.cells ((aC k4.2).map .d))] ?_;refine .sn 3 ji k1 (by kernel_rfl) (fun hb7=>?_);cases h0;exact .rt hK
 ·obtain⟨k8,hk8,h0⟩:=bnd h0;obtain⟨k9,hk9,h0⟩:=bnd h0;refine .aq [.sv (dQ [[43],[108,105,115,116],[103]]),.sv (ah [4,3,2]),.call [.low 0] (iE k8.1) [.cells ((aC k8.2).map .d)],.call [.low 0] (aE (ak k9.1)) [.cells ((aC k9.2).map .d)]] [] (A (ji.lit [[43],[108,105,115,116],[103]]) (A (aH.lit [4,3,2]) (A (dM n _ _ hk8) (A (Ot n _ _ _ hk9) T)))) [(4,pw 4)] [.o 4 (.cells ((ak k9.1).map .d))] [.o 0 (.cells ((aC k9.2).map .d))] ?_;obtain⟨k10,hk10,h0⟩:=bnd h0;refine .ao [.call [.low 0] (iE k10.1) [.cells ((aC k10.2).map .d)]] (A (aX n _ _ hk10) T) [(26,dE (k10.1=0))] [.o 0 (.cells ((aC k10.2).map .d))] ?_;refine .bP h0 rfl [2,4] (fun Ei=>[]) (fun Ei=>[.o 4 (.cells ((ak Ei).map .d))]) n1 (fun Ei h0=>?_) (fun y1 h1 hj1=>?_)
  ·refine .af [] T [] [.o 2 (.cells ((ak Ei).map .d))] ?_;cases h0;exact .rt hK
  ·refine .jP h1 (fun hc12 h1=>?_) (fun hc12 h1=>?_)
   ·obtain⟨k13,oH,h1⟩:=bnd h1;refine .af [.call [] (aE (ak k13)) []] (A (yg n _ oH) T) [(5,pw 5)] [.o 5 (.cells ((ak k13).map .d))] ?_;obtain⟨k14,vH,h1⟩:=bnd h1;obtain⟨k15,tN,h1⟩:=bnd h1;obtain⟨k16,AZ,h1⟩:=bnd h1;obtain⟨k17,wH,h1⟩:=bnd h1;obtain⟨k18,oV,h1⟩:=bnd h1;refine .ad mixed [(0,[.call [] (aE (ak k14)) []]),(1,[.call [] (aE (ak k15)) []]),(3,[.sv (aj [k15,k13])]),(4,[.call [] (aE (ak k16)) []]),(5,[.sv (aj [k16])]),(6,[.call [] (aE (ak k17)) []]),(8,[.sv (aj [k14,k17,k9.1])]),(9,[.call [] (aE (ak k18)) []])] [] (A (iD n _ vH) (A (iD n _ tN) (A (aA.lit [k15,k13]) (A (gY n _ AZ) (A (aA.lit [k16]) (A (gY n _ wH) (A (aA.lit [k14,k17,k9.1]) (A (gY n _ oV) T)))))))) [] [.o 4 (.cells ((ak k18).map .d))] [] ?_;cases h1;refine .kp [2,4] [] ?_;refine .dr 5 (by kernel_rfl) ?_;exact .lg hj1 []
   ·cases h1;exact .lg hj1 []
def yj (n:Nat)  : Option (List (List UInt8)):=
 some [lV,lW,lQ,lN,mG,lS,[40,49,32,50,41],lU,tJ,lX,oG,mX]
theorem Lr (n:Nat):∀{r:List (List UInt8)},yj n  = some r→aF X.E 78 [] [] (lE 1 (dQ r)) []:=by
 intro r h0;rw[yj] at h0;refine .n Tryz.func78 (fun L ks low K hl hL hlen hK=>?_);refine .a [] T [] ?_;refine .a [.sv (dQ [lV,lW,lQ,lN,mG,lS,[40,49,32,50,41],lU,tJ,lX,oG,mX])] (A (ji.lit [lV,lW,lQ,lN,mG,lS,[40,49,32,50,41],lU,tJ,lX,oG,mX]) T) [(0,fE 1 (dQ [lV,lW,lQ,lN,mG,lS,[40,49,32,50,41],lU,tJ,lX,oG,mX]))] ?_;cases h0;exact .rt hK
def xq (n:Nat) (w0:aY):Option (Form×aY):=
 (yj n).bind fun k1=>(aP n 3 w0).bind fun k2=>(if k2.1>0 then(aP n (k1.length:Int) k2.2).bind fun k4=>(gG k1 k4.1).bind fun e5=>(nN n e5).bind fun k6=>some (k6,k4.2) else(xk n k2.2).bind fun k8=>some (k8.1,k8.2))
theorem Ov (n:Nat):∀(w0:aY) {r:Form×aY},xq n w0=some r→aF X.E 57 [pl 0] [some (.cells ((aC w0).map .d))] (aE (ak r.1)) [.cells ((aC r.2).map .d)]:=by
 intro w0 r h0;rw[xq] at h0;refine .n Tryz.func57 (fun L ks low K hl hL hlen hK=>?_);refine .af [] T [(2,pw 2)] [.o 2 (.cells [iE 0,sE [],iE 0,fE 1 (ah []),fE 5 (aj [])])] ?_;obtain⟨k1,hk1,h0⟩:=bnd h0;refine .a [.call [] (lE 1 (dQ k1)) []] (A (Lr n  hk1) T) [(3,lE 1 (dQ k1))] ?_;obtain⟨k2,hk2,h0⟩:=bnd h0;refine .ao [.call [.low 0] (iE k2.1) [.cells ((aC k2.2).map .d)]] (A (aX n _ _ hk2) T) [(7,dE (k2.1>0))] [.o 0 (.cells ((aC k2.2).map .d))] ?_;refine .jP h0 (fun hc3 h0=>?_) (fun hc3 h0=>?_)
 ·obtain⟨k4,hk4,h0⟩:=bnd h0;obtain⟨e5,O4,h0⟩:=bnd h0;obtain⟨k6,hk6,h0⟩:=bnd h0;refine .aq [.v (k1.length:Int),.call [.low 0] (iE k4.1) [.cells ((aC k4.2).map .d)],.cs [.s e5],.call [] (aE (ak k6)) []] [] (A (ji.len' k1) (A (aX n _ _ hk4) (A (ji.idx O4) (A (yg n _ hk6) T)))) [] [.o 2 (.cells ((ak k6).map .d))] [.o 0 (.cells ((aC k4.2).map .d))] ?_;refine .sn 3 ji k1 (by kernel_rfl) (fun hb7=>?_);cases h0;exact .rt hK
 ·obtain⟨k8,hk8,h0⟩:=bnd h0;refine .aq [.call [.low 0] (aE (ak k8.1)) [.cells ((aC k8.2).map .d)]] [] (A (Ou n _ hk8) T) [] [.o 2 (.cells ((ak k8.1).map .d))] [.o 0 (.cells ((aC k8.2).map .d))] ?_;cases h0;exact .rt hK
def jM (n:Nat) (a0:List UInt8):Option (Core×Int):=
 (qc n a0).bind fun k1=>(aP n 4 k1).bind fun k2=>(if k2.1=0 then(sH n a0).bind fun k4=>some (k4,200) else(xq n k2.2).bind fun k5=>(ny n k5.1 20).bind fun k6=>Option.bind ((if ¬k6.2=0 then(sH n a0).bind fun k10=>some k10 else some k6.1):Option (Core)) (fun(o7:Core)=>(cZ n [500,100,20,5,0,3001] k5.2).bind fun k8=>some (o7,k8.1)))
theorem Dy (n:Nat):∀(a0:List UInt8) {r:Core×Int},jM n a0=some r→aF X.E 37 [lE 1 (je a0)] [] (.dN [aE (aI r.1),iE r.2]) []:=by
 intro a0 r h0;rw[jM] at h0;refine .n Tryz.func37 (fun L ks low K hl hL hlen hK=>?_);refine .af [] T [(2,pw 2)] [.o 2 (.cells [iE 0,iE 0,sE [],iE 0,fE 1 (ah []),iE 0,sE [],iE 0,fE 1 (ah []),fE 5 (aj []),fE 11 (aG [])])] ?_;obtain⟨k1,hk1,h0⟩:=bnd h0;refine .af [.call [.own 200008] (pl 0) [.cells ((aC k1).map .d)]] (A (Dx n _ hk1) T) [(4,pw 200008)] [.o 200008 (.cells ((aC k1).map .d))] ?_;obtain⟨k2,hk2,h0⟩:=bnd h0;refine .af [.call [.own 200008] (iE k2.1) [.cells ((aC k2.2).map .d)]] (A (aX n _ _ hk2) T) [(11,dE (k2.1=0))] [.o 200008 (.cells ((aC k2.2).map .d))] ?_;refine .jP h0 (fun hc3 h0=>?_) (fun hc3 h0=>?_)
 ·obtain⟨k4,hk4,h0⟩:=bnd h0;refine .af [.call [] (aE (aI k4)) []] (A (Fa n _ hk4) T) [(3,iE 200)] [.o 2 (.cells ((aI k4).map .d))] ?_;cases h0;exact .rt hK
 ·obtain⟨k5,hk5,h0⟩:=bnd h0;obtain⟨k6,hk6,h0⟩:=bnd h0;refine .af [.call [.own 200008] (aE (ak k5.1)) [.cells ((aC k5.2).map .d)],.call [] (.dN [aE (aI k6.1),iE k6.2]) []] (A (Ov n _ hk5) (A (FK n _ _ hk6) T)) [(5,pw 5),(6,iE k6.2)] [.o 200008 (.cells ((aC k5.2).map .d)),.o 5 (.cells ((aI k6.1).map .d))] ?_;refine .a [] T [(21,dE (¬k6.2=0))] ?_;refine .bP h0 rfl [2,4,5] (fun o7=>[]) (fun o7=>[.o 5 (.cells ((aI o7).map .d))]) n1 (fun o7 h0=>?_) (fun y1 h1 hj1=>?_)
  ·obtain⟨k8,hk8,h0⟩:=bnd h0;refine .ad mixed [(2,[.sv (ah [500,100,20,5,0,3001])]),(3,[.call [.own 200008] (iE k8.1) [.cells ((aC k8.2).map .d)]])] [] (A (aH.lit [500,100,20,5,0,3001]) (A (dM n _ _ hk8) T)) [(3,iE k8.1)] [.o 2 (.cells ((aI o7).map .d)),.o 200008 (.cells ((aC k8.2).map .d))] [] ?_;cases h0;exact .rt hK
  ·refine .jP h1 (fun fU h1=>?_) (fun fU h1=>?_)
   ·obtain⟨k10,hk10,h1⟩:=bnd h1;refine .af [.call [] (aE (aI k10)) []] (A (Fa n _ hk10) T) [] [.o 5 (.cells ((aI k10).map .d))] ?_;cases h1;exact .lg hj1 []
   ·cases h1;exact .lg hj1 []
def uq (n:Nat) (a0:List UInt8):Option (Core):=
 (jM n a0).bind fun k1=>some k1.1
theorem Ls (n:Nat):∀(a0:List UInt8) {r:Core},uq n a0=some r→aF X.E 20 [lE 1 (je a0)] [] (aE (aI r)) []:=by
 intro a0 r h0;rw[uq] at h0;refine .n Tryz.func20 (fun L ks low K hl hL hlen hK=>?_);refine .af [] T [(2,pw 2)] [.o 2 (.cells [iE 0,iE 0,sE [],iE 0,fE 1 (ah []),iE 0,sE [],iE 0,fE 1 (ah []),fE 5 (aj []),fE 11 (aG [])])] ?_;obtain⟨k1,hk1,h0⟩:=bnd h0;refine .af [.call [] (.dN [aE (aI k1.1),iE k1.2]) []] (A (Dy n _ hk1) T) [(3,pw 3)] [.o 3 (.cells ((aI k1.1).map .d))] ?_;refine .af [] T [] [.o 2 (.cells ((aI k1.1).map .d))] ?_;cases h0;exact .rt hK
def oQ (n:Nat) (a0:List UInt8):Option (Core):=
 (uq n a0).bind fun k1=>some k1
theorem Eo (n:Nat):∀(a0:List UInt8) {r:Core},oQ n a0=some r→aF X.E 5 [lE 1 (je a0)] [] (aE (aI r)) []:=by
 intro a0 r h0;rw[oQ] at h0;refine .n Tryz.func5 (fun L ks low K hl hL hlen hK=>?_);refine .af [] T [(2,pw 2)] [.o 2 (.cells [iE 0,iE 0,sE [],iE 0,fE 1 (ah []),iE 0,sE [],iE 0,fE 1 (ah []),fE 5 (aj []),fE 11 (aG [])])] ?_;obtain⟨k1,hk1,h0⟩:=bnd h0;refine .af [.call [] (aE (aI k1)) []] (A (Ls n _ hk1) T) [] [.o 2 (.cells ((aI k1).map .d))] ?_;cases h0;exact .rt hK
def F6 (n:Nat) (a0:List (List UInt8)) (a1:List UInt8):Option (Bool):=
 bG (bM (fun(s2:Unit) (i1:Nat) (x4:List UInt8)=>((if x4=a1 then some (Sum.inl true) else some (Sum.inr ())):Option (Bool⊕Unit))) 0 a0 ()) (fun(s2:Unit)=>some false)
theorem Uk (n:Nat):∀(a0:List (List UInt8)) (a1:List UInt8) {r:Bool},F6 n a0 a1=some r→aF X.E 30 [lE 1 (dQ a0),sE a1] [] (bE r) []:=by
 intro a0 a1 r h0;rw[F6] at h0;refine .n Tryz.func30 (fun L ks low K hl hL hlen hK=>?_);refine .a [] T [] ?_;refine .a [] T [(5,iE 0)] ?_;refine .lI h0 rfl [0,1] (fun i1 s2=>[(5,iE (i1:Int))]) n2 n2 [] (by kernel_rfl) (fun i1 s2 q3 hd5 Qq h0=>?_);refine .a [.v (a0.length:Int)] (A (ji.len' a0) T) [(9,dE ((i1:Int)<(a0.length:Int)))] ?_;refine .sn 0 ji a0 (by kernel_rfl) (fun hb8=>?_);refine .lc hd5 rfl (by kernel_rfl) (fun x4 q32 fU hx4 hd6 nM=>?_) (fun fU=>?_)
 ·subst fU;obtain⟨y1,h1,hw1,hn1⟩:=bD h0;refine .a [.cs [.s x4]] (A (ji.jf hx4) T) [(17,dE (x4=a1))] ?_;refine .jP h1 (fun iM h1=>?_) (fun iM h1=>?_)
  ·refine .a [] T [(4,bE true)] ?_;cases h1;cases hw1 _ rfl;exact .rt hK
  ·refine .a [.v ((i1+1:Nat):Int)] (A (wn (i:=i1) (by omega)) T) [(5,iE ((i1+1:Nat):Int))] ?_;cases h1;exact .nL rfl (i1+1) _ hd6 nM (hn1 _ rfl) [] (by kernel_rfl)
 ·subst fU;have h0:=bV h0;refine .a [] T [(4,bE false)] ?_;cases h0;exact .rt hK
def yu (n:Nat)  : Option (List (List UInt8)):=
 some [[43],[60],[61],[108,105,115,116],[104,101,97,100],[116,97,105,108]]
theorem Lu (n:Nat):∀{r:List (List UInt8)},yu n  = some r→aF X.E 31 [] [] (lE 1 (dQ r)) []:=by
 intro r h0;rw[yu] at h0;refine .n Tryz.func31 (fun L ks low K hl hL hlen hK=>?_);refine .a [] T [] ?_;refine .a [.sv (dQ [[43],[60],[61],[108,105,115,116],[104,101,97,100],[116,97,105,108]])] (A (ji.lit [[43],[60],[61],[108,105,115,116],[104,101,97,100],[116,97,105,108]]) T) [(0,fE 1 (dQ [[43],[60],[61],[108,105,115,116],[104,101,97,100],[116,97,105,108]]))] ?_;cases h0;exact .rt hK
def og:Nat→(List Int)→Core→Option (List Int)
 | 0,_,_=>none
 | n+1,a0,a1=>Option.bind ((if a1.kind=6 then some (decide ((a1.kids.length:Int)>0)) else some false):Option (Bool)) (fun(o1:Bool)=>Option.bind ((if o1=true then Option.bind ((gG a1.kids 0).bind fun e19=>(if e19.kind=5 then some 0 else Option.bind ((if e19.kind=2 then(yu n).bind fun k25=>(F6 n k25 e19.name).bind fun k26=>some k26 else some false):Option (Bool)) (fun(Y0:Bool)=>(if Y0=true then some 1 else(if e19.kind=1 then some 2 else some 3)))):Option (Int)) (fun(uF:Int)=>(inB uF a0.length).bind fun u15=>(a0[(Int.toNat uF)]?).bind fun e16=>(inB uF a0.length).bind fun u17=>some (a0.set (Int.toNat uF) (aT (e16+1)))) else some a0):Option (List Int)) (fun(o2:List Int)=>Option.bind (dR (fun(s4:List Int) (i3:Nat) (x6:Core)=>(og n s4 x6).bind fun k12=>some k12) 0 a1.kids o2) (fun(s4:List Int)=>some s4)))
theorem Je (n:Nat):∀(a0:List Int) (a1:Core) {r:List Int},og n a0 a1=some r→aF X.E 24 [.vs (.low 0) 1 ((ah a0).length),aE (aI a1)] [some (.vec 3 1 (ah a0))] (.vs (.low 0) 1 ((ah r).length)) [.vec 3 1 (ah r)]:=by
 induction n with
 | zero=>intro a0 a1 r h; cases h
 | succ n ih=>
  intro a0 a1 r h0;rw[og] at h0;refine .n Tryz.func24 (fun L ks low K hl hL hlen hK=>?_);refine .af [] T [(3,pw 3)] [.o 3 (.cells ((aI a1).map .d))] ?_;refine .bP h0 rfl [0,3] (fun o1=>[(15,bE o1)]) n1 n1 (fun o1 h0=>?_) (fun y1 h1 hj1=>?_)
  ·refine .bP h0 rfl [3] (fun o2=>[(0,.vs (.low 0) 1 ((ah o2).length))]) n1 (fun o2=>[.o 0 (.vec 3 1 (ah o2))]) (fun o2 h0=>?_) (fun y1 h1 hj1=>?_)
   ·refine .a [] T [(6,iE 0)] ?_;refine .lL h0 rfl [3] (fun i3 s4=>[(0,.vs (.low 0) 1 ((ah s4).length)),(6,iE (i3:Int))]) n2 (fun i3 s4=>[.o 0 (.vec 3 1 (ah s4))]) [] (by kernel_rfl) (fun i3 s4 q5 hd7 hi9 h0=>?_);refine .a [.v (a1.kids.length:Int)] (A (bI.len' a1.kids) T) [(56,lE 11 (aG a1.kids)),(58,dE ((i3:Int)<(a1.kids.length:Int)))] ?_;refine .sn 56 bI a1.kids (by kernel_rfl) (fun AX=>?_);refine .lc hd7 rfl (by kernel_rfl) (fun x6 Me bJ hx6 hd8 jU=>?_) (fun bJ=>?_)
    ·subst bJ;obtain⟨y1,h1,hn1⟩:=bZ h0;obtain⟨k12,hk12,h1⟩:=bnd h1;refine .ao [.cs (aI x6),.call [.low 0] (.vs (.low 0) 1 ((ah k12).length)) [.vec 3 1 (ah k12)]] (A (bI.jf hx6) (A (ih _ _ hk12) T)) [(0,.vs (.low 0) 1 ((ah k12).length))] [.o 0 (.vec 3 1 (ah k12))] ?_;refine .a [.v ((i3+1:Nat):Int)] (A (wn (i:=i3) (by omega)) T) [(6,iE ((i3+1:Nat):Int))] ?_;cases h1;exact .nL rfl (i3+1) _ hd8 jU hn1 [] (by kernel_rfl)
    ·subst bJ;have h0:=dH h0;refine .a [] T [(4,.vs (.low 0) 1 ((ah s4).length))] ?_;refine .kp [4] [] ?_;refine .dr 3 (by kernel_rfl) ?_;cases h0;exact .rt hK
   ·refine .jT h1 (fun hc13 h1=>?_) (fun hc13 h1=>?_)
    ·refine .a [] T [(5,iE 3)] ?_;refine .ZF h1 rfl [0,3] (fun uF=>[(5,iE uF)]) n1 n1 (fun uF h1=>?_) (fun y2 h2 hj2=>?_)
     ·obtain⟨u15,afo,h1⟩:=bnd h1;obtain⟨e16,BX,h1⟩:=bnd h1;obtain⟨u17,aa4,h1⟩:=bnd h1;refine .ao [.cs [.v (.int .i64 e16)],.pl,.cs [.v (.int .i64 e16)],.sv (ah (a0.set (Int.toNat uF) (aT (e16+1))))] (A (A (aH.inv afo (rfl:(ah a0).length=(ah a0).length)) (rfl:(ah a0).length=(ah a0).length)) (A (A (A (aH.rows a0) (aH.zx BX)) (rfl:(ah a0).length=(ah a0).length)) (A (A (aH.inv aa4 (rfl:(ah a0).length=(ah a0).length)) (rfl:(ah a0).length=(ah a0).length)) (A (A (A (A (aH.rows a0) (aH.zx BX)) (rfl:(ah a0).length=(ah a0).length)) (aH.Ua a0 (Int.toNat uF) (aT (e16+1)))) T)))) [(0,.vs (.low 0) 1 ((ah a0).length))] [.o 0 (.vec 3 1 (ah (a0.set (Int.toNat uF) (aT (e16+1)))))] ?_;refine .rn (by simp only[aH.length,List.length_set]:(ah a0).length=(ah (a0.set (Int.toNat uF) (aT (e16+1)))).length) (fun abg=>[(0,.vs (.low 0) 1 abg)]) (fun abg=>[]) (fun abg=>[]) (by kernel_rfl) ?_;cases h1;exact .lg hj1 []
     ·obtain⟨e19,WU,h2⟩:=bnd h2;refine .a [.cs (aI e19)] (A (bI.idx WU) T) [(16,dE (e19.kind=5))] ?_;refine .jP h2 (fun Lj h2=>?_) (fun Lj h2=>?_)
      ·refine .a [] T [(5,iE 0)] ?_;cases h2;exact .lg hj2 []
      ·refine .bP h2 rfl [0,3,5] (fun Y0=>[(23,bE Y0)]) n1 n1 (fun Y0 h2=>?_) (fun y3 h3 hj3=>?_)
       ·refine .jT h2 (fun hc22 h2=>?_) (fun hc22 h2=>?_)
        ·refine .a [] T [(5,iE 1)] ?_;cases h2;exact .lg hj2 []
        ·refine .a [.cs (aI e19)] (A (bI.idx WU) T) [(39,dE (e19.kind=1))] ?_;refine .jP h2 (fun Qv h2=>?_) (fun Qv h2=>?_)
         ·refine .a [] T [(5,iE 2)] ?_;cases h2;exact .lg hj2 []
         ·cases h2;exact .lg hj2 []
       ·by_cases g24:e19.kind=2
        ·have h3:=aJ g24 h3;obtain⟨k25,zQ,h3⟩:=bnd h3;obtain⟨k26,yQ,h3⟩:=bnd h3;refine .ad mixed ((2,[.cs (aI e19)])::((7,[.b true,.call [] (lE 1 (dQ k25)) []])::(qb 8 2 true ((10,[.b true,.cs (aI e19)])::(qb 11 2 true [(13,[.b true,.call [] (bE k26) []]),(14,[.b true])]))))) [] (A (bI.idx WU) (A (A (dt g24) (Lu n  zQ)) (R 2 (dt g24) (A (A (dt g24) (bI.idx WU)) (R 2 (dt g24) (A (A (dt g24) (Uk n _ _ yQ)) (A (dt g24) T))))))) [(23,bE k26)] [] [] ?_;cases h3;exact .lg hj3 []
        ·have h3:=aK g24 h3;refine .ad mixed ((2,[.cs (aI e19)])::(qb 7 8 false [])) [] (A (bI.idx WU) (R 8 (df g24) T)) [(23,bE false)] [] [] ?_;cases h3;exact .lg hj3 []
    ·cases h1;exact .lg hj1 []
  ·by_cases UF:a1.kind=6
   ·have h1:=aJ UF h1;refine .a (rb 3 true [.v (a1.kids.length:Int),.b true,.b true]) (R 2 (dt UF) (A (A (dt UF) (bI.len' a1.kids)) (R 2 (dt UF) T))) [(15,dE ((a1.kids.length:Int)>0))] ?_;cases h1;exact .lg hj1 []
   ·have h1:=aK UF h1;refine .a (rb 5 false []) (R 5 (df UF) T) [(15,bE false)] ?_;cases h1;exact .lg hj1 []
def uw (n:Nat) (a0:Core):Option (List Int):=
 (mkB 8 4).bind fun u1=>(og n (List.replicate (4:Int).toNat 0) a0).bind fun k2=>some k2
theorem Dz (n:Nat):∀(a0:Core) {r:List Int},uw n a0=some r→aF X.E 8 [aE (aI a0)] [] (lE 1 (ah r)) []:=by
 intro a0 r h0;rw[uw] at h0;refine .n Tryz.func8 (fun L ks low K hl hL hlen hK=>?_);refine .af [] T [(1,pw 1)] [.o 1 (.cells ((aI a0).map .d))] ?_;obtain⟨u1,hu1,h0⟩:=bnd h0;obtain⟨k2,hk2,h0⟩:=bnd h0;refine .ad mixed [(0,[.mv 3,.sv (ah (List.replicate (4:Int).toNat 0))]),(2,[.call [.own 3] (.vs (.low 0) 1 ((ah k2).length)) [.vec 3 1 (ah k2)]])] [4] (A (A (ZC hu1) (aH.rep ((4:Int).toNat) 0)) (A (Je n _ _ hk2) T)) [(2,.vs (.own 3) 1 ((ah k2).length))] [.o 3 (.vec 3 1 (ah k2))] [] ?_;refine .kp [2] [] ?_;refine .dr 1 (by kernel_rfl) ?_;refine .ft 2 3 [] aH k2 (rfl:(ah k2).length=(ah k2).length) (by kernel_rfl) ?_;cases h0;exact .rt hK
def rP (n:Nat) (a0:List UInt8):Option (Bool):=
 (if(a0.length:Int)>1048576 then some true else(oQ n a0).bind fun k3=>(tX n k3).bind fun k4=>Option.bind ((uw n k3).bind fun k31=>(Aw n k4 k31).bind fun k32=>(if(!k32)=true then some true else some (decide (¬(k4.length:Int)=4))):Option (Bool)) (fun(o5:Bool)=>(if o5=true then some false else Option.bind (dR (fun(s8:Int) (i7:Nat) (x10:Int)=>some (aT (s8+x10))) 0 k4 0) (fun(s8:Int)=>Option.bind ((oJ n k3).bind fun k17=>(if(!k17)=true then(fJ n (⟨5,0,[],0,[999],(⟨0,[],0,[],[]⟩:Form),[k3]⟩:Core)).bind fun k19=>(fJ n k3).bind fun k20=>(if k19=(aT (k20+1)) then(fJ n k3).bind fun k22=>(jC n k3).bind fun k23=>some (decide (k22=k23)) else some false) else(nK n k3).bind fun k24=>(if s8=k24 then(fJ n (⟨5,0,[],0,[999],(⟨0,[],0,[],[]⟩:Form),[k3]⟩:Core)).bind fun k26=>(fJ n k3).bind fun k27=>(if k26=(aT (k27+1)) then(fJ n k3).bind fun k29=>(jC n k3).bind fun k30=>some (decide (k29=k30)) else some false) else some false)):Option (Bool)) (fun(o16:Bool)=>some o16)))))
theorem Ie (n:Nat):∀(a0:List UInt8) {r:Bool},rP n a0=some r→aF X.E 3 [lE 1 (je a0)] [] (bE r) []:=by
 intro a0 r h0;rw[rP] at h0;refine .n Tryz.func3 (fun L ks low K hl hL hlen hK=>?_);refine .a [] T [] ?_;refine .a [.v (a0.length:Int)] (A (uS.len' a0) T) [(10,dE ((a0.length:Int)>1048576))] ?_;refine .sn 0 uS a0 (by kernel_rfl) (fun hb1=>?_);refine .jP h0 (fun hc2 h0=>?_) (fun hc2 h0=>?_)
 ·refine .a [] T [(2,bE true)] ?_;cases h0;exact .rt hK
 ·obtain⟨k3,hk3,h0⟩:=bnd h0;refine .af [.call [] (aE (aI k3)) []] (A (Eo n _ hk3) T) [(3,pw 3)] [.o 3 (.cells ((aI k3).map .d))] ?_;obtain⟨k4,hk4,h0⟩:=bnd h0;refine .a [.call [] (lE 1 (ah k4)) []] (A (KU n _ hk4) T) [(4,lE 1 (ah k4))] ?_;refine .bP h0 rfl [3,4] (fun o5=>[(24,bE o5)]) n1 n1 (fun o5 h0=>?_) (fun y1 h1 hj1=>?_)
  ·refine .jT h0 (fun hc6 h0=>?_) (fun hc6 h0=>?_)
   ·refine .a [] T [(2,bE false)] ?_;cases h0;exact .rt hK
   ·refine .a [] T [(5,iE 0)] ?_;refine .a [] T [(6,iE 0)] ?_;refine .lL h0 rfl [3,4] (fun i7 s8=>[(5,iE s8),(6,iE (i7:Int))]) n2 n2 [] (by kernel_rfl) (fun i7 s8 q9 hd11 aep h0=>?_);refine .a [.v (k4.length:Int)] (A (aH.len' k4) T) [(28,dE ((i7:Int)<(k4.length:Int)))] ?_;refine .sn 4 aH k4 (by kernel_rfl) (fun ac0=>?_);refine .lc hd11 rfl (by kernel_rfl) (fun x10 q92 tV aaK aaL WA=>?_) (fun tV=>?_)
    ·subst tV;obtain⟨y1,h1,hn1⟩:=bZ h0;refine .a [.cs [.v (.int .i64 x10)],.pl] (A (aH.jf aaK) T) [(5,iE (aT (s8+x10)))] ?_;refine .a [.v ((i7+1:Nat):Int)] (A (wn (i:=i7) (by omega)) T) [(6,iE ((i7+1:Nat):Int))] ?_;cases h1;exact .nL rfl (i7+1) _ aaL WA hn1 [] (by kernel_rfl)
    ·subst tV;have h0:=dH h0;refine .af [.sv (ah [999]),.sv (aG [k3])] (A (aH.lit [999]) (A (bI.lit [k3]) T)) [(7,pw 7)] [.o 7 (.cells [iE 5,iE 0,sE [],iE 0,fE 1 (ah [999]),iE 0,sE [],iE 0,fE 1 (ah []),fE 5 (aj []),fE 11 (aG [k3])])] ?_;refine .bP h0 rfl [] (fun o16=>[(2,bE o16)]) n1 n1 (fun o16 h0=>?_) (fun y1 h1 hj1=>?_)
     ·cases h0;exact .rt hK
     ·obtain⟨k17,wH,h1⟩:=bnd h1;by_cases g18:(!k17)=true
      ·have h1:=aJ g18 h1;obtain⟨k19,wI,h1⟩:=bnd h1;obtain⟨k20,Dn,h1⟩:=bnd h1;by_cases g21:k19=(aT (k20+1))
       ·have h1:=aJ g21 h1;obtain⟨k22,Ej,h1⟩:=bnd h1;obtain⟨k23,KZ,h1⟩:=bnd h1;refine .ad mixed ((1,[.call [] (bE k17) []])::(qb 4 5 true ((10,[.b true])::((11,[.b true,.call [] (iE k19) []])::((12,[.b true])::((13,[.b true,.call [] (iE k20) []])::((14,[.b true,.pl])::(qb 15 2 true ((18,[.b true])::((19,[.b true,.call [] (iE k22) []])::((20,[.b true])::((21,[.b true,.call [] (iE k23) []])::(qb 22 2 true []))))))))))))) [] (A (kJ n _ wH) (R 5 g18 (A B1 (A (A B1 (fF n _ wI)) (A B1 (A (A B1 (fF n _ Dn)) (R 3 B1 (A (dt g21) (A (A (dt g21) (fF n _ Ej)) (A (dt g21) (A (A (dt g21) (zH n _ KZ)) (R 2 (dt g21) T)))))))))))) [(2,dE (k22=k23))] [] [] ?_;cases h1;exact .lg hj1 []
       ·have h1:=aK g21 h1;refine .ad mixed ((1,[.call [] (bE k17) []])::(qb 4 5 true ((10,[.b true])::((11,[.b true,.call [] (iE k19) []])::((12,[.b true])::((13,[.b true,.call [] (iE k20) []])::((14,[.b true,.pl])::(qb 15 2 true (qb 18 6 false []))))))))) [] (A (kJ n _ wH) (R 5 g18 (A B1 (A (A B1 (fF n _ wI)) (A B1 (A (A B1 (fF n _ Dn)) (R 3 B1 (R 6 (df g21) T)))))))) [(2,bE false)] [] [] ?_;cases h1;exact .lg hj1 []
      ·have h1:=aK g18 h1;obtain⟨k24,zG,h1⟩:=bnd h1;by_cases yS:s8=k24
       ·have h1:=aJ yS h1;obtain⟨k26,yQ,h1⟩:=bnd h1;obtain⟨k27,uH,h1⟩:=bnd h1;by_cases oM:k26=(aT (k27+1))
        ·have h1:=aJ oM h1;obtain⟨k29,NZ,h1⟩:=bnd h1;obtain⟨k30,WT,h1⟩:=bnd h1;refine .ad mixed ((1,[.call [] (bE k17) []])::(qb 4 2 false ((6,[.b false,.call [] (iE k24) []])::(qb 7 2 false ((10,[.b true])::((11,[.b true,.call [] (iE k26) []])::((12,[.b true])::((13,[.b true,.call [] (iE k27) []])::((14,[.b true,.pl])::(qb 15 2 true ((18,[.b true])::((19,[.b true,.call [] (iE k29) []])::((20,[.b true])::((21,[.b true,.call [] (iE k30) []])::(qb 22 2 true []))))))))))))))) [] (A (kJ n _ wH) (R 2 (Bool.eq_false_iff.2 g18) (A (A (Bool.eq_false_iff.2 g18) (xQ n _ zG)) (R 2 (Bool.eq_false_iff.2 g18) (A (dt yS) (A (A (dt yS) (fF n _ yQ)) (A (dt yS) (A (A (dt yS) (fF n _ uH)) (R 3 (dt yS) (A (dt oM) (A (A (dt oM) (fF n _ NZ)) (A (dt oM) (A (A (dt oM) (zH n _ WT)) (R 2 (dt oM) T)))))))))))))) [(2,dE (k29=k30))] [] [] ?_;cases h1;exact .lg hj1 []
        ·have h1:=aK oM h1;refine .ad mixed ((1,[.call [] (bE k17) []])::(qb 4 2 false ((6,[.b false,.call [] (iE k24) []])::(qb 7 2 false ((10,[.b true])::((11,[.b true,.call [] (iE k26) []])::((12,[.b true])::((13,[.b true,.call [] (iE k27) []])::((14,[.b true,.pl])::(qb 15 2 true (qb 18 6 false []))))))))))) [] (A (kJ n _ wH) (R 2 (Bool.eq_false_iff.2 g18) (A (A (Bool.eq_false_iff.2 g18) (xQ n _ zG)) (R 2 (Bool.eq_false_iff.2 g18) (A (dt yS) (A (A (dt yS) (fF n _ yQ)) (A (dt yS) (A (A (dt yS) (fF n _ uH)) (R 3 (dt yS) (R 6 (df oM) T)))))))))) [(2,bE false)] [] [] ?_;cases h1;exact .lg hj1 []
       ·have h1:=aK yS h1;refine .ad mixed ((1,[.call [] (bE k17) []])::(qb 4 2 false ((6,[.b false,.call [] (iE k24) []])::(qb 7 2 false (qb 10 7 false (qb 18 6 false [])))))) [] (A (kJ n _ wH) (R 2 (Bool.eq_false_iff.2 g18) (A (A (Bool.eq_false_iff.2 g18) (xQ n _ zG)) (R 2 (Bool.eq_false_iff.2 g18) (R 7 (df yS) (R 6 B0 T)))))) [(2,bE false)] [] [] ?_;cases h1;exact .lg hj1 []
  ·obtain⟨k31,hk31,h1⟩:=bnd h1;obtain⟨k32,Dp,h1⟩:=bnd h1;by_cases H7:(!k32)=true
   ·have h1:=aJ H7 h1;refine .a (.call [] (lE 1 (ah k31)) []::(.call [] (bE k32) []::(rb 4 true []))) (A (Dz n _ hk31) (A (EP n _ _ Dp) (R 4 H7 T))) [(24,bE true)] ?_;cases h1;exact .lg hj1 []
   ·have h1:=aK H7 h1;refine .a [.call [] (lE 1 (ah k31)) [],.call [] (bE k32) [],.b false,.b false,.v (k4.length:Int),.b false,.b false] (A (Dz n _ hk31) (A (EP n _ _ Dp) (A (Bool.eq_false_iff.2 H7) (A (A (Bool.eq_false_iff.2 H7) (aH.len' k4)) (R 2 (Bool.eq_false_iff.2 H7) T))))) [(24,dE (¬(k4.length:Int)=4))] ?_;refine .sn 4 aH k4 (by kernel_rfl) (fun agZ=>?_);cases h1;exact .lg hj1 []
end Go.Ev
