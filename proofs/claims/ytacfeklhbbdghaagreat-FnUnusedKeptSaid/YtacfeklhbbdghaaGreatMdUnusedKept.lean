/- Models of the functions that FnUnusedKept reaches. No condition. -/
import Derived.Test.YtacfeklhbbdghaaGreatMdUnusedKeptB
import Derived.Test.YtacfeklhbbdghaaGreatAlkP
import Derived.Test.YtacfeklhbbdghaaGreatEvTri
import Derived.Test.YtacfeklhbbdghaaGreatProg
import Derived.KernelRfl
import Derived.Test.YtacfeklhbbdghaaGreatShR8
namespace Go.Ev
open Go.Proofs Go.Mx
set_option linter.unusedVariables false
set_option maxRecDepth 10000
def qY (n:Nat) (a0:List UInt8):Option (Core):=
 (oM n a0).bind fun k1=>(dh n [3,4,2] k1).bind fun k2=>(qX n [] k2.1 0 k2.2).bind fun k3=>(aO n 8 k3.2.2).bind fun k4=>(if k4.1=0 then(lM n k3.1 k4.2).bind fun k6=>(lM n k6.1 k6.2).bind fun k7=>some k7.1 else some k3.1)
theorem AO (n:Nat):∀(a0:List UInt8) {r:Core},qY n a0=some r→aF X.E 18 [lE 1 (jv a0)] [] (aE (aH r)) []:=by
 intro a0 r h0;rw[qY] at h0;refine .n Tryz.func18 (fun L ks low K hl hL hlen hK=>?_);refine .af [] T [(2,pw 2)] [.o 2 (.cells [iE 0,iE 0,sE [],iE 0,fE 1 (ah []),iE 0,sE [],iE 0,fE 1 (ah []),fE 5 (aj []),fE 11 (aG [])])] ?_;obtain⟨k1,hk1,h0⟩:=bnd h0;refine .af [.call [.own 200007] (pl 0) [.cells ((aC k1).map .d)]] (A (yU n _ hk1) T) [(3,pw 200007)] [.o 200007 (.cells ((aC k1).map .d))] ?_;obtain⟨k2,hk2,h0⟩:=bnd h0;obtain⟨k3,hk3,h0⟩:=bnd h0;refine .af [.sv (ah []),.sv (ah [3,4,2]),.call [.own 200007] (iE k2.1) [.cells ((aC k2.2).map .d)],.call [.own 200007] (.dP [aE (aH k3.1),iE k3.2.1]) [.cells ((aC k3.2.2).map .d)]] (A (aI.lit []) (A (aI.lit [3,4,2]) (A (dO n _ _ hk2) (A (PU n _ _ _ _ hk3) T)))) [(4,pw 4)] [.o 200007 (.cells ((aC k3.2.2).map .d)),.o 4 (.cells ((aH k3.1).map .d))] ?_;obtain⟨k4,hk4,h0⟩:=bnd h0;refine .af [.call [.own 200007] (iE k4.1) [.cells ((aC k4.2).map .d)]] (A (aW n _ _ hk4) T) [(19,dE (k4.1=0))] [.o 200007 (.cells ((aC k4.2).map .d))] ?_;refine .jP h0 (fun hc5 h0=>?_) (fun hc5 h0=>?_)
 ·obtain⟨k6,hk6,h0⟩:=bnd h0;obtain⟨k7,JE,h0⟩:=bnd h0;refine .af [.call [.own 200007] (aE (aH k6.1)) [.cells ((aC k6.2).map .d)],.call [.own 200007] (aE (aH k7.1)) [.cells ((aC k7.2).map .d)]] (A (Cj n _ _ hk6) (A (Cj n _ _ JE) T)) [] [.o 2 (.cells ((aH k7.1).map .d)),.o 200007 (.cells ((aC k7.2).map .d))] ?_;cases h0;exact .rt hK
 ·refine .af [] T [] [.o 2 (.cells ((aH k3.1).map .d))] ?_;cases h0;exact .rt hK
def uG (n:Nat) (a0:List UInt8):Option (Int×Bool):=
 Option.bind ((if(a0.length:Int)>0 then(gG a0 0).bind fun y23=>some (decide ((y23.toNat:Int)=45)) else some false):Option (Bool)) (fun(o1:Bool)=>Option.bind ((if o1=true then(JR a0 1 (a0.length:Int)).bind fun z21=>some z21 else some a0):Option (List UInt8)) (fun(o2:List UInt8)=>Option.bind ((if(o2.length:Int)=0 then some true else(if(o2.length:Int)>17 then some true else(gG o2 0).bind fun y17=>(if(y17.toNat:Int)=48 then(if(o2.length:Int)>1 then some true else some o1) else some false))):Option (Bool)) (fun(o3:Bool)=>(if o3=true then some (0,false) else iterM n (fun(s5:Int×Int)=>((if s5.2<(o2.length:Int) then Option.bind ((gG o2 s5.2).bind fun y11=>(if(y11.toNat:Int)<48 then some true else some (decide ((y11.toNat:Int)>57))):Option (Bool)) (fun(o8:Bool)=>(if o8=true then some (Sum.inl (0,false)) else(gG o2 s5.2).bind fun Uu=>some (Sum.inr ((aY ((aY (s5.1*10))+(IntKind.i64.wrap (IntKind.u8.wrap ((Uu.toNat:Int)-48))))),(aY (s5.2+1)))))) else Option.bind ((if o1=true then some (IntKind.i64.wrap (0-s5.1)) else some s5.1):Option (Int)) (fun(ZF:Int)=>some (Sum.inl (ZF,true)))):Option ((Int×Bool)⊕(Int×Int)))) (0,0)))))
theorem F5 (n:Nat):∀(a0:List UInt8) {r:Int×Bool},uG n a0=some r→aF X.E 131 [sE a0] [] (.dP [iE r.1,bE r.2]) []:=by
 intro a0 r h0;rw[uG] at h0;refine .n Tryz.func131 (fun L ks low K hl hL hlen hK=>?_);refine .a [] T [] ?_;refine .bP h0 rfl [0] (fun o1=>[(4,bE o1)]) n1 n1 (fun o1 h0=>?_) (fun y1 h1 hj1=>?_)
 ·refine .a [] T [(15,bE o1)] ?_;refine .bP h0 rfl [4] (fun o2=>[(0,sE o2)]) n1 n1 (fun o2 h0=>?_) (fun y1 h1 hj1=>?_)
  ·refine .bP h0 rfl [0,4] (fun o3=>[(38,bE o3)]) n1 n1 (fun o3 h0=>?_) (fun y1 h1 hj1=>?_)
   ·refine .jT h0 (fun hc4 h0=>?_) (fun hc4 h0=>?_)
    ·refine .a [] T [(2,iE 0),(3,bE false)] ?_;cases h0;exact .rt hK
    ·refine .a [] T [(5,iE 0)] ?_;refine .a [] T [(6,iE 0)] ?_;refine .it h0 rfl [0,4] (fun s5=>[(5,iE s5.1),(6,iE s5.2)]) n1 n1 [] (by kernel_rfl) (fun nk6 s5 h0=>?_);obtain⟨y1,h1,hw1,hn1⟩:=bZ h0;refine .a [] T [(42,dE (s5.2<(o2.length:Int)))] ?_;refine .jP h1 (fun J4 h1=>?_) (fun J4 h1=>?_)
     ·refine .bP h1 rfl [0,4,5,6] (fun o8=>[(54,bE o8)]) n1 n1 (fun o8 h1=>?_) (fun y2 h2 hj2=>?_)
      ·refine .jT h1 (fun fV h1=>?_) (fun fV h1=>?_)
       ·refine .a [] T [(2,iE 0),(3,bE false)] ?_;cases h1;cases hw1 _ rfl;exact .rt hK
       ·obtain⟨Uu,ac0,h1⟩:=bnd h1;refine .a [.pl,.Dz Uu,.pl,.pl,.pl] (A (Es ac0) T) [(5,iE (aY ((aY (s5.1*10))+(IntKind.i64.wrap (IntKind.u8.wrap ((Uu.toNat:Int)-48))))))] ?_;refine .a [.pl] T [(6,iE (aY (s5.2+1)))] ?_;cases h1;exact .nI rfl _ (hn1 _ rfl) [] (by kernel_rfl)
      ·obtain⟨y11,ac1,h2⟩:=bnd h2;by_cases g12:(y11.toNat:Int)<48
       ·have h2:=aJ g12 h2;refine .a (.Dz y11::(rb 5 true [])) (A (Es ac1) (R 5 (dt g12) T)) [(54,bE true)] ?_;cases h2;exact .lg hj2 []
       ·have h2:=aK g12 h2;refine .a (.Dz y11::(rb 3 false [.Dz y11,.b false,.b false])) (A (Es ac1) (R 2 (df g12) (A (A (df g12) (Es ac1)) (R 2 (df g12) T)))) [(54,dE ((y11.toNat:Int)>57))] ?_;cases h2;exact .lg hj2 []
     ·refine .a [] T [(63,bE o1)] ?_;refine .bP h1 rfl [] (fun ZF=>[(5,iE ZF)]) n1 n1 (fun ZF h1=>?_) (fun y2 h2 hj2=>?_)
      ·refine .a [] T [(2,iE ZF),(3,bE true)] ?_;cases h1;cases hw1 _ rfl;exact .rt hK
      ·refine .jT h2 (fun ql h2=>?_) (fun ql h2=>?_)
       ·refine .a [] T [(5,iE (IntKind.i64.wrap (0-s5.1)))] ?_;cases h2;exact .lg hj2 []
       ·cases h2;exact .lg hj2 []
   ·by_cases g15:(o2.length:Int)=0
    ·have h1:=aJ g15 h1;refine .a (rb 10 true []) (R 4 (dt g15) (R 6 B1 T)) [(38,bE true)] ?_;cases h1;exact .lg hj1 []
    ·have h1:=aK g15 h1;by_cases g16:(o2.length:Int)>17
     ·have h1:=aJ g16 h1;refine .a (rb 4 false (rb 6 true [])) (R 4 (df g15) (R 6 (dt g16) T)) [(38,bE true)] ?_;cases h1;exact .lg hj1 []
     ·have h1:=aK g16 h1;obtain⟨y17,ac2,h1⟩:=bnd h1;by_cases g18:(y17.toNat:Int)=48
      ·have h1:=aJ g18 h1;by_cases g19:(o2.length:Int)>1
       ·have h1:=aJ g19 h1;refine .a (rb 6 false (.Dz y17::(.b false::(.b false::(rb 7 true [.b false,.b true,.b false]))))) (R 4 (df g15) (A (df g16) (A (A (df g16) (Es ac2)) (R 2 (df g16) (R 4 (dt g18) (A (dt g19) (A (A (dt g18) (dt g19)) (A (A (df g16) (dt g18)) (A (df g16) T))))))))) [(38,bE true)] ?_;cases h1;exact .lg hj1 []
       ·have h1:=aK g19 h1;refine .a (rb 6 false (.Dz y17::(.b false::(.b false::(rb 4 true [.b false,.b true,.b false,.b false,.b true,.b false]))))) (R 4 (df g15) (A (df g16) (A (A (df g16) (Es ac2)) (R 2 (df g16) (R 4 (dt g18) (A (df g19) (A (A (dt g18) (df g19)) (A (A (df g16) (dt g18)) (A (df g16) T))))))))) [(38,bE o1)] ?_;cases h1;exact .lg hj1 []
      ·have h1:=aK g18 h1;refine .a (rb 6 false (.Dz y17::(rb 10 false []))) (R 4 (df g15) (A (df g16) (A (A (df g16) (Es ac2)) (R 2 (df g16) (R 5 (df g18) (A (A (df g16) (df g18)) (A (df g16) T))))))) [(38,bE false)] ?_;cases h1;exact .lg hj1 []
  ·refine .jT h1 (fun SH h1=>?_) (fun SH h1=>?_)
   ·obtain⟨z21,ag4,h1⟩:=bnd h1;refine .a [.st z21] (A (slS ag4) T) [(0,sE z21)] ?_;cases h1;exact .lg hj1 []
   ·cases h1;exact .lg hj1 []
 ·by_cases g22:(a0.length:Int)>0
  ·have h1:=aJ g22 h1;obtain⟨y23,ag5,h1⟩:=bnd h1;refine .a [.b true,.b true,.Dz y23,.b true,.b true] (A (dt g22) (A (A (dt g22) (Es ag5)) (R 2 (dt g22) T))) [(4,dE ((y23.toNat:Int)=45))] ?_;cases h1;exact .lg hj1 []
  ·have h1:=aK g22 h1;refine .a (rb 4 false []) (R 4 (df g22) T) [(4,bE false)] ?_;cases h1;exact .lg hj1 []
def xP (n:Nat) (a0:List UInt8) (a1:Int):Option (List (List UInt8)):=
 iterM n (fun(s1:(List (List UInt8))×Int×Int)=>((if s1.2.2≤(a0.length:Int) then Option.bind (Option.bind ((if s1.2.2=(a0.length:Int) then some true else(gG a0 s1.2.2).bind fun Uu=>some (decide ((Uu.toNat:Int)=a1))):Option (Bool)) (fun(o5:Bool)=>(if o5=true then(JR a0 s1.2.1 s1.2.2).bind fun z7=>(jQ 16 s1.1 [z7]).bind fun z8=>some (z8,(aY (s1.2.2+1))) else some (s1.1,s1.2.1))):Option ((List (List UInt8))×Int)) (fun(o4:(List (List UInt8))×Int)=>some (Sum.inr (o4.1,o4.2,(aY (s1.2.2+1))))) else some (Sum.inl s1.1)):Option ((List (List UInt8))⊕((List (List UInt8))×Int×Int)))) ([],0,0)
theorem PV (n:Nat):∀(a0:List UInt8) (a1:Int) {r:List (List UInt8)},xP n a0 a1=some r→aF X.E 141 [sE a0,.d (.v (.int .u8 a1))] [] (lE 1 (eP r)) []:=by
 intro a0 a1 r h0;rw[xP] at h0;refine .n Tryz.func141 (fun L ks low K hl hL hlen hK=>?_);refine .a [] T [] ?_;refine .a [.sv (eP [])] (A (kZ.lit []) T) [(5,fE 1 (eP []))] ?_;refine .a [] T [(6,iE 0)] ?_;refine .a [] T [(7,iE 0)] ?_;refine .ow 5 100032 9 [0,1,6,7] rfl rfl (by kernel_rfl) ?_;refine .it h0 rfl [0,1] (fun s1=>[(5,.gs (.own 100032) 1 (eP s1.1)),(6,iE s1.2.1),(7,iE s1.2.2)]) (fun s1=>[.o 100032 (.tok (eP s1.1).length 9)]) n1 [] (by kernel_rfl) (fun WC s1 h0=>?_);obtain⟨y1,h1,hw1,hn1⟩:=bZ h0;refine .a [] T [(12,dE (s1.2.2≤(a0.length:Int)))] ?_;refine .jP h1 (fun hc3 h1=>?_) (fun hc3 h1=>?_)
 ·refine .bPB h1 rfl [0,1,7] (fun o4=>[(5,.gs (.own 100032) 1 (eP o4.1)),(6,iE o4.2)]) (fun o4=>[.o 100032 (.tok (eP o4.1).length 9)]) n1 (fun o4 h1=>?_) (fun y2 h2 hj2=>?_)
  ·refine .a [.pl] T [(7,iE (aY (s1.2.2+1)))] ?_;cases h1;exact .nI rfl _ (hn1 _ rfl) [] (by kernel_rfl)
  ·refine .bP h2 rfl [0,1,5,6,7] (fun o5=>[(25,bE o5)]) n1 n1 (fun o5 h2=>?_) (fun y3 h3 hj3=>?_)
   ·refine .jT h2 (fun hc6 h2=>?_) (fun hc6 h2=>?_)
    ·obtain⟨z7,hz7,h2⟩:=bnd h2;obtain⟨z8,hz8,h2⟩:=bnd h2;refine .aq [.st z7,.sv (eP [z7]),.sv (eP z8)] [((eP s1.1).length:Int)] (A (slS hz7) (A (kZ.lit [z7]) (A (kZ.ap hz8) T))) [(5,.gs (.own 100032) 1 (eP z8))] [.o 100032 (.tok (eP z8).length 9)] [] ?_;refine .a [.pl] T [(6,iE (aY (s1.2.2+1)))] ?_;cases h2;exact .lg hj2 []
    ·cases h2;exact .lg hj2 []
   ·by_cases g9:s1.2.2=(a0.length:Int)
    ·have h3:=aJ g9 h3;refine .a (rb 6 true []) (R 6 (dt g9) T) [(25,bE true)] ?_;cases h3;exact .lg hj3 []
    ·have h3:=aK g9 h3;obtain⟨Uu,ac0,h3⟩:=bnd h3;refine .a (rb 3 false (.Dz Uu::(rb 3 false []))) (R 2 (df g9) (A (A (df g9) (Es ac0)) (R 3 (df g9) T))) [(25,dE ((Uu.toNat:Int)=a1))] ?_;cases h3;exact .lg hj3 []
 ·refine .a [] T [(4,.gs (.own 100032) 1 (eP s1.1))] ?_;cases h1;cases hw1 _ rfl;exact .rt hK
def xQ (n:Nat) (a0:List UInt8) (a1:Int):Option ((List Int)×Int):=
 Option.bind ((if a1≥(a0.length:Int) then some true else(gG a0 a1).bind fun y24=>some (decide (¬(y24.toNat:Int)=123))):Option (Bool)) (fun(o1:Bool)=>(if o1=true then some ([],a1) else iterM n (fun(s3:Int)=>(Option.bind ((if s3<(a0.length:Int) then(gG a0 s3).bind fun y22=>some (decide (¬(y22.toNat:Int)=125)) else some false):Option (Bool)) (fun(o5:Bool)=>(if o5=true then some (Sum.inr (aY (s3+1))) else(if s3=(a0.length:Int) then some (Sum.inl ([],(-1))) else(JR a0 (aY (a1+1)) s3).bind fun z8=>(xP n z8 44).bind fun k9=>iterM n (fun(s10:(List Int)×Int)=>(Option.bind ((if s10.2<(k9.length:Int) then some (decide (s10.2≤24)) else some false):Option (Bool)) (fun(sK:Bool)=>(if sK=true then(gG k9 s10.2).bind fun e14=>(uG n e14).bind fun k15=>(if(!k15.2)=true then some (Sum.inl (Sum.inl (s10.1,(-1)))) else(jQ 8 s10.1 [k15.1]).bind fun z17=>some (Sum.inr (z17,(aY (s10.2+1))))) else some (Sum.inl (Sum.inl (s10.1,(aY (s3+1))))))):Option ((((List Int)×Int)⊕Int)⊕((List Int)×Int)))) ([],0)))):Option (((List Int)×Int)⊕Int))) a1))
theorem PW (n:Nat):∀(a0:List UInt8) (a1:Int) {r:(List Int)×Int},xQ n a0 a1=some r→aF X.E 132 [sE a0,iE a1] [] (.dP [lE 1 (ah r.1),iE r.2]) []:=by
 intro a0 a1 r h0;rw[xQ] at h0;refine .n Tryz.func132 (fun L ks low K hl hL hlen hK=>?_);refine .a [] T [] ?_;refine .a [.sv (ah [])] (A (aI.lit []) T) [(6,fE 1 (ah []))] ?_;refine .bP h0 rfl [0,1,6] (fun o1=>[(22,bE o1)]) n1 n1 (fun o1 h0=>?_) (fun y1 h1 hj1=>?_)
 ·refine .jT h0 (fun hc2 h0=>?_) (fun hc2 h0=>?_)
  ·refine .a [] T [(4,fE 1 (ah [])),(5,iE a1)] ?_;cases h0;exact .rt hK
  ·refine .a [] T [(7,iE a1)] ?_;refine .it h0 rfl [0,1,6] (fun s3=>[(7,iE s3)]) n1 n1 [] (by kernel_rfl) (fun nk4 s3 h0=>?_);obtain⟨y1,h1,hw1,hn1⟩:=bZ h0;refine .bP h1 rfl [0,1,6,7] (fun o5=>[(35,bE o5)]) n1 n1 (fun o5 h1=>?_) (fun y2 h2 hj2=>?_)
   ·refine .jT h1 (fun hc6 h1=>?_) (fun hc6 h1=>?_)
    ·refine .a [.pl] T [(7,iE (aY (s3+1)))] ?_;cases h1;exact .nI rfl _ (hn1 _ rfl) [] (by kernel_rfl)
    ·refine .a [] T [(41,dE (s3=(a0.length:Int)))] ?_;refine .jP h1 (fun J4 h1=>?_) (fun J4 h1=>?_)
     ·refine .a [] T [(4,fE 1 (ah [])),(5,iE (-1))] ?_;cases h1;cases hw1 _ rfl;exact .rt hK
     ·obtain⟨z8,hz8,h1⟩:=bnd h1;obtain⟨k9,hk9,h1⟩:=bnd h1;refine .a [.pl,.st z8,.call [] (lE 1 (eP k9)) []] (A (slS hz8) (A (PV n _ _ hk9) T)) [(8,lE 1 (eP k9))] ?_;refine .a [] T [(9,iE 0)] ?_;refine .ow 6 100073 3 [7,8,9] rfl rfl (by kernel_rfl) ?_;refine .it h1 rfl [7,8] (fun s10=>[(6,.gs (.own 100073) 1 (ah s10.1)),(9,iE s10.2)]) (fun s10=>[.o 100073 (.tok (ah s10.1).length 3)]) n1 [] (by kernel_rfl) (fun ai3 s10 h1=>?_);obtain⟨y2,h2,hw2,hn2⟩:=bZ h1;refine .bP h2 rfl [6,7,8,9] (fun sK=>[(56,bE sK)]) n1 n1 (fun sK h2=>?_) (fun y3 h3 hj3=>?_)
      ·refine .jT h2 (fun hc13 h2=>?_) (fun hc13 h2=>?_)
       ·obtain⟨e14,Nj,h2⟩:=bnd h2;obtain⟨k15,pR,h2⟩:=bnd h2;refine .a [.cs [.s e14],.call [] (.dP [iE k15.1,bE k15.2]) []] (A (kZ.idx Nj) (A (F5 n _ pR) T)) [(10,iE k15.1),(11,bE k15.2)] ?_;refine .a [] T [(68,bE (!k15.2))] ?_;refine .jT h2 (fun hc16 h2=>?_) (fun hc16 h2=>?_)
        ·refine .a [] T [(4,.gs (.own 100073) 1 (ah s10.1)),(5,iE (-1))] ?_;cases h2;cases hw2 _ rfl;cases hw1 _ rfl;exact .rt hK
        ·obtain⟨z17,ag6,h2⟩:=bnd h2;refine .aq [.sv (ah [k15.1]),.sv (ah z17)] [((ah s10.1).length:Int)] (A (aI.lit [k15.1]) (A (aI.ap ag6) T)) [(6,.gs (.own 100073) 1 (ah z17))] [.o 100073 (.tok (ah z17).length 3)] [] ?_;refine .a [.pl] T [(9,iE (aY (s10.2+1)))] ?_;cases h2;exact .nI rfl _ (hn2 _ rfl) [] (by kernel_rfl)
       ·refine .a [.pl] T [(4,.gs (.own 100073) 1 (ah s10.1)),(5,iE (aY (s3+1)))] ?_;cases h2;cases hw2 _ rfl;cases hw1 _ rfl;exact .rt hK
      ·by_cases g18:s10.2<(k9.length:Int)
       ·have h3:=aJ g18 h3;refine .a (.v (k9.length:Int)::(rb 3 true [])) (A (kZ.len' k9) (R 3 (dt g18) T)) [(56,dE (s10.2≤24))] ?_;refine .sn 8 kZ k9 (by kernel_rfl) (fun agj=>?_);cases h3;exact .lg hj3 []
       ·have h3:=aK g18 h3;refine .a (.v (k9.length:Int)::(rb 3 false [])) (A (kZ.len' k9) (R 3 (df g18) T)) [(56,bE false)] ?_;refine .sn 8 kZ k9 (by kernel_rfl) (fun ai4=>?_);cases h3;exact .lg hj3 []
   ·by_cases g21:s3<(a0.length:Int)
    ·have h2:=aJ g21 h2;obtain⟨y22,ag7,h2⟩:=bnd h2;refine .a (rb 3 true [.Dz y22,.b true,.b true]) (R 2 (dt g21) (A (A (dt g21) (Es ag7)) (R 2 (dt g21) T))) [(35,dE (¬(y22.toNat:Int)=125))] ?_;cases h2;exact .lg hj2 []
    ·have h2:=aK g21 h2;refine .a (rb 5 false []) (R 5 (df g21) T) [(35,bE false)] ?_;cases h2;exact .lg hj2 []
 ·by_cases g23:a1≥(a0.length:Int)
  ·have h1:=aJ g23 h1;refine .a (rb 5 true []) (R 5 (dt g23) T) [(22,bE true)] ?_;cases h1;exact .lg hj1 []
  ·have h1:=aK g23 h1;obtain⟨y24,hy24,h1⟩:=bnd h1;refine .a (rb 3 false [.Dz y24,.b false,.b false]) (R 2 (df g23) (A (A (df g23) (Es hy24)) (R 2 (df g23) T))) [(22,dE (¬(y24.toNat:Int)=123))] ?_;cases h1;exact .lg hj1 []
def xU (n:Nat) (a0:List UInt8) (a1:Int):Option (Int):=
 iterM n (fun(s1:Int)=>(Option.bind ((if s1<(a0.length:Int) then(gG a0 s1).bind fun y6=>(if ¬(y6.toNat:Int)=32 then(if ¬(y6.toNat:Int)=40 then(if ¬(y6.toNat:Int)=41 then some (decide (¬(y6.toNat:Int)=123)) else some false) else some false) else some false) else some false):Option (Bool)) (fun(o3:Bool)=>(if o3=true then some (Sum.inr (aY (s1+1))) else some (Sum.inl s1))):Option (Int⊕Int))) a1
theorem PY (n:Nat):∀(a0:List UInt8) (a1:Int) {r:Int},xU n a0 a1=some r→aF X.E 130 [sE a0,iE a1] [] (iE r) []:=by
 intro a0 a1 r h0;rw[xU] at h0;refine .n Tryz.func130 (fun L ks low K hl hL hlen hK=>?_);refine .a [] T [] ?_;refine .it h0 rfl [0] (fun s1=>[(1,iE s1)]) n1 n1 [] (by kernel_rfl) (fun WC s1 h0=>?_);obtain⟨y1,h1,hw1,hn1⟩:=bZ h0;refine .bP h1 rfl [0,1] (fun o3=>[(32,bE o3)]) n1 n1 (fun o3 h1=>?_) (fun y2 h2 hj2=>?_)
 ·refine .jT h1 (fun hc4 h1=>?_) (fun hc4 h1=>?_)
  ·refine .a [.pl] T [(1,iE (aY (s1+1)))] ?_;cases h1;exact .nI rfl _ (hn1 _ rfl) [] (by kernel_rfl)
  ·refine .a [] T [(4,iE s1)] ?_;cases h1;cases hw1 _ rfl;exact .rt hK
 ·by_cases g5:s1<(a0.length:Int)
  ·have h2:=aJ g5 h2;obtain⟨y6,WE,h2⟩:=bnd h2;by_cases g7:¬(y6.toNat:Int)=32
   ·have h2:=aJ g7 h2;by_cases g8:¬(y6.toNat:Int)=40
    ·have h2:=aJ g8 h2;by_cases g9:¬(y6.toNat:Int)=41
     ·have h2:=aJ g9 h2;refine .a (rb 3 true (.Dz y6::(rb 5 true (.Dz y6::(rb 5 true (.Dz y6::(rb 5 true [.Dz y6,.b true,.b true]))))))) (R 2 (dt g5) (A (A (dt g5) (Es WE)) (R 2 (dt g5) (R 2 (dt g7) (A (A (dt g7) (Es WE)) (R 2 (dt g7) (R 2 (dt g8) (A (A (dt g8) (Es WE)) (R 2 (dt g8) (R 2 (dt g9) (A (A (dt g9) (Es WE)) (R 2 (dt g9) T)))))))))))) [(32,dE (¬(y6.toNat:Int)=123))] ?_;cases h2;exact .lg hj2 []
     ·have h2:=aK g9 h2;refine .a (rb 3 true (.Dz y6::(rb 5 true (.Dz y6::(rb 5 true (.Dz y6::(.b true::(.b true::(rb 5 false []))))))))) (R 2 (dt g5) (A (A (dt g5) (Es WE)) (R 2 (dt g5) (R 2 (dt g7) (A (A (dt g7) (Es WE)) (R 2 (dt g7) (R 2 (dt g8) (A (A (dt g8) (Es WE)) (R 2 (dt g8) (R 5 (df g9) T)))))))))) [(32,bE false)] ?_;cases h2;exact .lg hj2 []
    ·have h2:=aK g8 h2;refine .a (rb 3 true (.Dz y6::(rb 5 true (.Dz y6::(.b true::(.b true::(rb 10 false []))))))) (R 2 (dt g5) (A (A (dt g5) (Es WE)) (R 2 (dt g5) (R 2 (dt g7) (A (A (dt g7) (Es WE)) (R 2 (dt g7) (R 5 (df g8) (R 5 B0 T)))))))) [(32,bE false)] ?_;cases h2;exact .lg hj2 []
   ·have h2:=aK g7 h2;refine .a (rb 3 true (.Dz y6::(.b true::(.b true::(rb 15 false []))))) (R 2 (dt g5) (A (A (dt g5) (Es WE)) (R 2 (dt g5) (R 5 (df g7) (R 10 B0 T))))) [(32,bE false)] ?_;cases h2;exact .lg hj2 []
  ·have h2:=aK g5 h2;refine .a (rb 20 false []) (R 5 (df g5) (R 15 B0 T)) [(32,bE false)] ?_;cases h2;exact .lg hj2 []
def xW (n:Nat) (a0:List UInt8) (a1:Int):Option (Form×Int):=
 (xU n a0 a1).bind fun k1=>(JR a0 a1 k1).bind fun z2=>(uG n z2).bind fun k3=>(if k3.2=true then some ((⟨2,[],k3.1,[],[]⟩:Form),k1) else(if z2=[] then some ((⟨0,[],0,[],[]⟩:Form),(-1)) else(xQ n a0 k1).bind fun k6=>some ((⟨1,z2,0,k6.1,[]⟩:Form),k6.2)))
theorem PZ (n:Nat):∀(a0:List UInt8) (a1:Int) {r:Form×Int},xW n a0 a1=some r→aF X.E 120 [sE a0,iE a1] [] (.dP [aE (ak r.1),iE r.2]) []:=by
 intro a0 a1 r h0;rw[xW] at h0;refine .n Tryz.func120 (fun L ks low K hl hL hlen hK=>?_);refine .af [] T [(4,pw 4)] [.o 4 (.cells [iE 0,sE [],iE 0,fE 1 (ah []),fE 5 (aj [])])] ?_;obtain⟨k1,hk1,h0⟩:=bnd h0;refine .a [.call [] (iE k1) []] (A (PY n _ _ hk1) T) [(6,iE k1)] ?_;obtain⟨z2,hz2,h0⟩:=bnd h0;refine .a [.st z2] (A (slS hz2) T) [(7,sE z2)] ?_;obtain⟨k3,hk3,h0⟩:=bnd h0;refine .a [.call [] (.dP [iE k3.1,bE k3.2]) []] (A (F5 n _ hk3) T) [(8,iE k3.1),(9,bE k3.2)] ?_;refine .a [] T [(24,bE k3.2)] ?_;refine .jT h0 (fun hc4 h0=>?_) (fun hc4 h0=>?_)
 ·refine .af [] T [(5,iE k1)] [.c 4 0 (iE 2),.c 4 2 (iE k3.1)] ?_;cases h0;exact .rt hK
 ·refine .a [] T [(29,dE (z2=[]))] ?_;refine .jP h0 (fun hc5 h0=>?_) (fun hc5 h0=>?_)
  ·refine .a [] T [(5,iE (-1))] ?_;cases h0;exact .rt hK
  ·obtain⟨k6,hk6,h0⟩:=bnd h0;refine .a [.call [] (.dP [lE 1 (ah k6.1),iE k6.2]) []] (A (PW n _ _ hk6) T) [(10,lE 1 (ah k6.1)),(11,iE k6.2)] ?_;refine .af [] T [(5,iE k6.2)] [.c 4 0 (iE 1),.c 4 1 (sE z2),.c 4 3 (lE 1 (ah k6.1))] ?_;cases h0;exact .rt hK
def pO (n:Nat) (a0:List UInt8) (a1:Int):Option (Int):=
 iterM n (fun(s1:Int)=>(Option.bind ((if s1<(a0.length:Int) then(gG a0 s1).bind fun y6=>some (decide ((y6.toNat:Int)=32)) else some false):Option (Bool)) (fun(o3:Bool)=>(if o3=true then some (Sum.inr (aY (s1+1))) else some (Sum.inl s1))):Option (Int⊕Int))) a1
theorem sF (n:Nat):∀(a0:List UInt8) (a1:Int) {r:Int},pO n a0 a1=some r→aF X.E 106 [sE a0,iE a1] [] (iE r) []:=by
 intro a0 a1 r h0;rw[pO] at h0;refine .n Tryz.func106 (fun L ks low K hl hL hlen hK=>?_);refine .a [] T [] ?_;refine .it h0 rfl [0] (fun s1=>[(1,iE s1)]) n1 n1 [] (by kernel_rfl) (fun WC s1 h0=>?_);obtain⟨y1,h1,hw1,hn1⟩:=bZ h0;refine .bP h1 rfl [0,1] (fun o3=>[(14,bE o3)]) n1 n1 (fun o3 h1=>?_) (fun y2 h2 hj2=>?_)
 ·refine .jT h1 (fun hc4 h1=>?_) (fun hc4 h1=>?_)
  ·refine .a [.pl] T [(1,iE (aY (s1+1)))] ?_;cases h1;exact .nI rfl _ (hn1 _ rfl) [] (by kernel_rfl)
  ·refine .a [] T [(4,iE s1)] ?_;cases h1;cases hw1 _ rfl;exact .rt hK
 ·by_cases g5:s1<(a0.length:Int)
  ·have h2:=aJ g5 h2;obtain⟨y6,WE,h2⟩:=bnd h2;refine .a (rb 3 true [.Dz y6,.b true,.b true]) (R 2 (dt g5) (A (A (dt g5) (Es WE)) (R 2 (dt g5) T))) [(14,dE ((y6.toNat:Int)=32))] ?_;cases h2;exact .lg hj2 []
  ·have h2:=aK g5 h2;refine .a (rb 5 false []) (R 5 (df g5) T) [(14,bE false)] ?_;cases h2;exact .lg hj2 []
def qZ:Nat→(List UInt8)→Int→Int→Option (Form×Int)
 | 0,_,_,_=>none
 | n+1,a0,a1,a2=>(pO n a0 a1).bind fun k1=>Option.bind ((if k1≥(a0.length:Int) then some true else some (decide (a2=0))):Option (Bool)) (fun(o2:Bool)=>(if o2=true then some ((⟨0,[],0,[],[]⟩:Form),(-1)) else(gG a0 k1).bind fun y4=>(if ¬(y4.toNat:Int)=40 then(xW n a0 k1).bind fun k6=>some (k6.1,k6.2) else(pO n a0 (aY (k1+1))).bind fun k7=>iterM n (fun(s8:Int×(List Form))=>(Option.bind ((if s8.1<(a0.length:Int) then(gG a0 s8.1).bind fun y21=>(if ¬(y21.toNat:Int)=41 then some (decide ((s8.2.length:Int)<400)) else some false) else some false):Option (Bool)) (fun(jI:Bool)=>(if jI=true then(qZ n a0 s8.1 (aY (a2-1))).bind fun k12=>(if k12.2<0 then some (Sum.inl ((⟨3,[],0,[],s8.2⟩:Form),(-1))) else(jQ 80 s8.2 [k12.1]).bind fun Gm=>(pO n a0 k12.2).bind fun k15=>some (Sum.inr (k15,Gm))) else Option.bind ((if s8.1≥(a0.length:Int) then some true else(gG a0 s8.1).bind fun y19=>some (decide (¬(y19.toNat:Int)=41))):Option (Bool)) (fun(o16:Bool)=>(if o16=true then some (Sum.inl ((⟨3,[],0,[],s8.2⟩:Form),(-1))) else some (Sum.inl ((⟨3,[],0,[],s8.2⟩:Form),(aY (s8.1+1)))))))):Option ((Form×Int)⊕(Int×(List Form))))) (k7,[]))))
theorem P5 (n:Nat):∀(a0:List UInt8) (a1:Int) (a2:Int) {r:Form×Int},qZ n a0 a1 a2=some r→aF X.E 105 [sE a0,iE a1,iE a2] [] (.dP [aE (ak r.1),iE r.2]) []:=by
 induction n with
 | zero=>intro a0 a1 a2 r h; cases h
 | succ n ih=>
  intro a0 a1 a2 r h0;rw[qZ] at h0;refine .n Tryz.func105 (fun L ks low K hl hL hlen hK=>?_);refine .af [] T [(6,pw 6)] [.o 6 (.cells [iE 0,sE [],iE 0,fE 1 (ah []),fE 5 (aj [])])] ?_;obtain⟨k1,hk1,h0⟩:=bnd h0;refine .a [.call [] (iE k1) []] (A (sF n _ _ hk1) T) [(1,iE k1)] ?_;refine .bP h0 rfl [0,1,2,6] (fun o2=>[(21,bE o2)]) n1 n1 (fun o2 h0=>?_) (fun y1 h1 hj1=>?_)
  ·refine .jT h0 (fun hc3 h0=>?_) (fun hc3 h0=>?_)
   ·refine .a [] T [(7,iE (-1))] ?_;cases h0;exact .rt hK
   ·obtain⟨y4,hy4,h0⟩:=bnd h0;refine .a [.Dz y4] (A (Es hy4) T) [(26,dE (¬(y4.toNat:Int)=40))] ?_;refine .jP h0 (fun hc5 h0=>?_) (fun hc5 h0=>?_)
    ·obtain⟨k6,hk6,h0⟩:=bnd h0;refine .af [.call [] (.dP [aE (ak k6.1),iE k6.2]) []] (A (PZ n _ _ hk6) T) [(7,iE k6.2)] [.o 6 (.cells ((ak k6.1).map .d))] ?_;cases h0;exact .rt hK
    ·refine .af [] T [(8,pw 8)] [.o 8 (.cells [iE 3,sE [],iE 0,fE 1 (ah []),fE 5 (aj [])])] ?_;obtain⟨k7,JE,h0⟩:=bnd h0;refine .a [.pl,.call [] (iE k7) []] (A (sF n _ _ JE) T) [(1,iE k7)] ?_;refine .oc 8 4 100068 26 (by kernel_rfl) ?_;refine .it h0 rfl [0,2,6,8] (fun s8=>[(1,iE s8.1)]) (fun s8=>[.c 8 4 (.gs (.own 100068) 5 (aj s8.2)),.o 100068 (.tok (aj s8.2).length 26)]) n1 [] (by kernel_rfl) (fun nk9 s8 h0=>?_);obtain⟨y1,h1,hw1,hn1⟩:=bZ h0;refine .bP h1 rfl [0,1,2,6,8] (fun jI=>[(52,bE jI)]) n1 n1 (fun jI h1=>?_) (fun y2 h2 hj2=>?_)
     ·refine .jT h1 (fun bJ h1=>?_) (fun bJ h1=>?_)
      ·obtain⟨k12,hk12,h1⟩:=bnd h1;refine .af [.pl,.call [] (.dP [aE (ak k12.1),iE k12.2]) []] (A (ih _ _ _ hk12) T) [(9,pw 9),(10,iE k12.2)] [.o 9 (.cells ((ak k12.1).map .d))] ?_;refine .a [] T [(62,dE (k12.2<0))] ?_;refine .jP h1 (fun hc13 h1=>?_) (fun hc13 h1=>?_)
       ·refine .af [] T [(7,iE (-1))] [.c 6 0 (iE 3),.c 6 4 (.gs (.own 100068) 5 (aj s8.2))] ?_;cases h1;cases hw1 _ rfl;exact .rt hK
       ·obtain⟨Gm,Sv,h1⟩:=bnd h1;refine .aq [.sv (aj [k12.1]),.sv (aj Gm)] [((aj s8.2).length:Int)] (A (aA.lit [k12.1]) (A (aA.ap Sv) T)) [] [.c 8 4 (.gs (.own 100068) 5 (aj Gm)),.o 100068 (.tok (aj Gm).length 26)] [] ?_;obtain⟨k15,pR,h1⟩:=bnd h1;refine .a [.call [] (iE k15) []] (A (sF n _ _ pR) T) [(1,iE k15)] ?_;cases h1;refine .kp [0,1,2,6,8] [] ?_;refine .dr 9 (by kernel_rfl) ?_;exact .nI rfl _ (hn1 _ rfl) [] (by kernel_rfl)
      ·refine .bP h1 rfl [1,6,8] (fun o16=>[(82,bE o16)]) n1 n1 (fun o16 h1=>?_) (fun y2 h2 hj2=>?_)
       ·refine .jT h1 (fun hc17 h1=>?_) (fun hc17 h1=>?_)
        ·refine .af [] T [(7,iE (-1))] [.c 6 0 (iE 3),.c 6 4 (.gs (.own 100068) 5 (aj s8.2))] ?_;cases h1;cases hw1 _ rfl;exact .rt hK
        ·refine .af [.pl] T [(7,iE (aY (s8.1+1)))] [.c 6 0 (iE 3),.c 6 4 (.gs (.own 100068) 5 (aj s8.2))] ?_;cases h1;cases hw1 _ rfl;exact .rt hK
       ·by_cases g18:s8.1≥(a0.length:Int)
        ·have h2:=aJ g18 h2;refine .a (rb 5 true []) (R 5 (dt g18) T) [(82,bE true)] ?_;cases h2;exact .lg hj2 []
        ·have h2:=aK g18 h2;obtain⟨y19,ag8,h2⟩:=bnd h2;refine .a (rb 3 false [.Dz y19,.b false,.b false]) (R 2 (df g18) (A (A (df g18) (Es ag8)) (R 2 (df g18) T))) [(82,dE (¬(y19.toNat:Int)=41))] ?_;cases h2;exact .lg hj2 []
     ·by_cases g20:s8.1<(a0.length:Int)
      ·have h2:=aJ g20 h2;obtain⟨y21,aeY,h2⟩:=bnd h2;by_cases g22:¬(y21.toNat:Int)=41
       ·have h2:=aJ g22 h2;refine .a (rb 3 true (.Dz y21::(rb 5 true [.v (s8.2.length:Int),.b true,.b true]))) (R 2 (dt g20) (A (A (dt g20) (Es aeY)) (R 2 (dt g20) (R 2 (dt g22) (A (A (dt g22) (aA.len' s8.2)) (R 2 (dt g22) T)))))) [(52,dE ((s8.2.length:Int)<400))] ?_;cases h2;exact .lg hj2 []
       ·have h2:=aK g22 h2;refine .a (rb 3 true (.Dz y21::(.b true::(.b true::(rb 5 false []))))) (R 2 (dt g20) (A (A (dt g20) (Es aeY)) (R 2 (dt g20) (R 5 (df g22) T)))) [(52,bE false)] ?_;cases h2;exact .lg hj2 []
      ·have h2:=aK g20 h2;refine .a (rb 10 false []) (R 5 (df g20) (R 5 B0 T)) [(52,bE false)] ?_;cases h2;exact .lg hj2 []
  ·by_cases g23:k1≥(a0.length:Int)
   ·have h1:=aJ g23 h1;refine .a (rb 3 true []) (R 3 (dt g23) T) [(21,bE true)] ?_;cases h1;exact .lg hj1 []
   ·have h1:=aK g23 h1;refine .a (rb 3 false []) (R 3 (df g23) T) [(21,dE (a2=0))] ?_;cases h1;exact .lg hj1 []
def tY (n:Nat) (a0:List UInt8):Option (Form×Bool):=
 (qZ n a0 0 40).bind fun k1=>Option.bind ((if k1.2<0 then some true else(pO n a0 k1.2).bind fun k5=>(if ¬k5=(a0.length:Int) then some true else(bQ n k1.1).bind fun k7=>some (!k7))):Option (Bool)) (fun(o2:Bool)=>(if o2=true then some ((⟨0,[],0,[],[]⟩:Form),false) else some (k1.1,true)))
theorem Je (n:Nat):∀(a0:List UInt8) {r:Form×Bool},tY n a0=some r→aF X.E 79 [sE a0] [] (.dP [aE (ak r.1),bE r.2]) []:=by
 intro a0 r h0;rw[tY] at h0;refine .n Tryz.func79 (fun L ks low K hl hL hlen hK=>?_);refine .af [] T [(2,pw 2)] [.o 2 (.cells [iE 0,sE [],iE 0,fE 1 (ah []),fE 5 (aj [])])] ?_;obtain⟨k1,hk1,h0⟩:=bnd h0;refine .af [.call [] (.dP [aE (ak k1.1),iE k1.2]) []] (A (P5 n _ _ _ hk1) T) [(4,pw 4),(5,iE k1.2)] [.o 4 (.cells ((ak k1.1).map .d))] ?_;refine .bP h0 rfl [2,4] (fun o2=>[(25,bE o2)]) n1 n1 (fun o2 h0=>?_) (fun y1 h1 hj1=>?_)
 ·refine .jT h0 (fun hc3 h0=>?_) (fun hc3 h0=>?_)
  ·refine .a [] T [(3,bE false)] ?_;cases h0;exact .rt hK
  ·refine .af [] T [(3,bE true)] [.o 2 (.cells ((ak k1.1).map .d))] ?_;cases h0;exact .rt hK
 ·by_cases g4:k1.2<0
  ·have h1:=aJ g4 h1;refine .a (rb 11 true []) (R 7 (dt g4) (R 4 B1 T)) [(25,bE true)] ?_;cases h1;exact .lg hj1 []
  ·have h1:=aK g4 h1;obtain⟨k5,hk5,h1⟩:=bnd h1;by_cases g6:¬k5=(a0.length:Int)
   ·have h1:=aJ g6 h1;refine .a (rb 3 false (.call [] (iE k5) []::(rb 4 false (rb 4 true [])))) (R 2 (df g4) (A (A (df g4) (sF n _ _ hk5)) (R 4 (df g4) (R 4 (dt g6) T)))) [(25,bE true)] ?_;cases h1;exact .lg hj1 []
   ·have h1:=aK g6 h1;obtain⟨k7,JE,h1⟩:=bnd h1;refine .a (rb 3 false (.call [] (iE k5) []::(rb 6 false [.call [] (bE k7) [],.b false,.b false]))) (R 2 (df g4) (A (A (df g4) (sF n _ _ hk5)) (R 4 (df g4) (A (df g6) (A (A (df g6) (aS n _ JE)) (R 2 (df g6) T)))))) [(25,bE (!k7))] ?_;cases h1;exact .lg hj1 []
def oN (n:Nat) (a0:List UInt8):Option (Form):=
 (tY n a0).bind fun k1=>some k1.1
theorem yV (n:Nat):∀(a0:List UInt8) {r:Form},oN n a0=some r→aF X.E 67 [sE a0] [] (aE (ak r)) []:=by
 intro a0 r h0;rw[oN] at h0;refine .n Tryz.func67 (fun L ks low K hl hL hlen hK=>?_);refine .af [] T [(2,pw 2)] [.o 2 (.cells [iE 0,sE [],iE 0,fE 1 (ah []),fE 5 (aj [])])] ?_;obtain⟨k1,hk1,h0⟩:=bnd h0;refine .af [.call [] (.dP [aE (ak k1.1),bE k1.2]) []] (A (Je n _ hk1) T) [(3,pw 3)] [.o 3 (.cells ((ak k1.1).map .d))] ?_;refine .af [] T [] [.o 2 (.cells ((ak k1.1).map .d))] ?_;cases h0;exact .rt hK
def gQ (n:Nat) (a0:List Form):Option (Form):=
 some (⟨3,[],0,[],a0⟩:Form)
theorem iy (n:Nat):∀(a0:List Form) {r:Form},gQ n a0=some r→aF X.E 82 [lE 5 (aj a0)] [] (aE (ak r)) []:=by
 intro a0 r h0;rw[gQ] at h0;refine .n Tryz.func82 (fun L ks low K hl hL hlen hK=>?_);refine .af [] T [(2,pw 2)] [.o 2 (.cells [iE 0,sE [],iE 0,fE 1 (ah []),fE 5 (aj [])])] ?_;refine .af [] T [] [.c 2 0 (iE 3),.c 2 4 (lE 5 (aj a0))] ?_;cases h0;exact .rt hK
def gu:Nat→(List (List UInt8))→Int→aZ→Option (Form×aZ)
 | 0,_,_,_=>none
 | n+1,a1,a2,w0=>Option.bind ((if a2=0 then some (true,w0) else(aO n 5 w0).bind fun k46=>some ((decide (k46.1=0)),k46.2)):Option (Bool×aZ)) (fun(o1:Bool×aZ)=>(if o1.1=true then(aO n 3 o1.2).bind fun k3=>(if k3.1=0 then(dh n [0,1,2,7] k3.2).bind fun k5=>some ((⟨2,[],k5.1,[],[]⟩:Form),k5.2) else(aO n (a1.length:Int) k3.2).bind fun k6=>(gG a1 k6.1).bind fun e7=>(fD n e7).bind fun k8=>some (k8,k6.2)) else(jo n [[120],[121],[116]] o1.2).bind fun k10=>(jQ 16 [] a1).bind fun z11=>(jQ 16 z11 [k10.1]).bind fun z12=>(aO n 8 k10.2).bind fun k13=>Option.bind ((if k13.1=0 then some (decide (k13.1=0)) else some (decide (k13.1=1))):Option (Bool)) (fun(BD:Bool)=>(if BD=true then(fD n [108,97,109,98,100,97]).bind fun k16=>(fD n k10.1).bind fun k17=>(gQ n [k17]).bind fun k18=>(gu n z12 (aY (a2-1)) k13.2).bind fun k19=>(gQ n [k16,k18,k19.1]).bind fun k20=>some (k20,k19.2) else Option.bind ((if k13.1=2 then some (decide (k13.1=2)) else some (decide (k13.1=3))):Option (Bool)) (fun(o21:Bool)=>(if o21=true then(fD n k10.1).bind fun k23=>(gu n a1 (aY (a2-1)) k13.2).bind fun k24=>(gQ n [k23,k24.1]).bind fun k25=>(fD n [108,101,116]).bind fun k26=>(gQ n [k25]).bind fun k27=>(gu n z12 (aY (a2-1)) k24.2).bind fun k28=>(gQ n [k26,k27,k28.1]).bind fun k29=>some (k29,k28.2) else(if k13.1=4 then(fD n [105,102]).bind fun k31=>(gu n a1 (aY (a2-1)) k13.2).bind fun k32=>(gu n a1 (aY (a2-1)) k32.2).bind fun k33=>(gu n a1 0 k33.2).bind fun k34=>(gQ n [k31,k32.1,k33.1,k34.1]).bind fun FQ=>some (FQ,k34.2) else(if k13.1=5 then(fD n [113,117,111,116,101]).bind fun k37=>(mg n 1 k13.2).bind fun k38=>(gQ n [k37,k38.1]).bind fun k39=>some (k39,k38.2) else(gu n a1 (aY (a2-1)) k13.2).bind fun k40=>(gu n a1 (aY (a2-1)) k40.2).bind fun k41=>(gQ n [k40.1,k41.1]).bind fun k42=>some (k42,k41.2)))))))))
theorem P6 (n:Nat):∀(a1:List (List UInt8)) (a2:Int) (w0:aZ) {r:Form×aZ},gu n a1 a2 w0=some r→aF X.E 81 [pl 0,lE 1 (eP a1),iE a2] [some (.cells ((aC w0).map .d))] (aE (ak r.1)) [.cells ((aC r.2).map .d)]:=by
 induction n with
 | zero=>intro a1 a2 w0 r h; cases h
 | succ n ih=>
  intro a1 a2 w0 r h0;rw[gu] at h0;refine .n Tryz.func81 (fun L ks low K hl hL hlen hK=>?_);refine .af [] T [(6,pw 6)] [.o 6 (.cells [iE 0,sE [],iE 0,fE 1 (ah []),fE 5 (aj [])])] ?_;refine .bP h0 rfl [0,1,2,6] (fun o1=>[(16,bE o1.1)]) n1 (fun o1=>[.o 0 (.cells ((aC o1.2).map .d))]) (fun o1 h0=>?_) (fun y1 h1 hj1=>?_)
  ·refine .jT h0 (fun hc2 h0=>?_) (fun hc2 h0=>?_)
   ·obtain⟨k3,hk3,h0⟩:=bnd h0;refine .ao [.call [.low 0] (iE k3.1) [.cells ((aC k3.2).map .d)]] (A (aW n _ _ hk3) T) [(19,dE (k3.1=0))] [.o 0 (.cells ((aC k3.2).map .d))] ?_;refine .jP h0 (fun hc4 h0=>?_) (fun hc4 h0=>?_)
    ·obtain⟨k5,hk5,h0⟩:=bnd h0;refine .aq [.sv (ah [0,1,2,7]),.call [.low 0] (iE k5.1) [.cells ((aC k5.2).map .d)]] [] (A (aI.lit [0,1,2,7]) (A (dO n _ _ hk5) T)) [] [.c 6 0 (iE 2),.c 6 2 (iE k5.1)] [.o 0 (.cells ((aC k5.2).map .d))] ?_;cases h0;exact .rt hK
    ·obtain⟨k6,hk6,h0⟩:=bnd h0;obtain⟨e7,Ea,h0⟩:=bnd h0;obtain⟨k8,hk8,h0⟩:=bnd h0;refine .aq [.v (a1.length:Int),.call [.low 0] (iE k6.1) [.cells ((aC k6.2).map .d)],.cs [.s e7],.call [] (aE (ak k8)) []] [] (A (kZ.len' a1) (A (aW n _ _ hk6) (A (kZ.idx Ea) (A (iM n _ hk8) T)))) [] [.o 6 (.cells ((ak k8).map .d))] [.o 0 (.cells ((aC k6.2).map .d))] ?_;refine .sn 1 kZ a1 (by kernel_rfl) (fun hb9=>?_);cases h0;exact .rt hK
   ·obtain⟨k10,hk10,h0⟩:=bnd h0;refine .ao [.sv (eP [[120],[121],[116]]),.call [.low 0] (sE k10.1) [.cells ((aC k10.2).map .d)]] (A (kZ.lit [[120],[121],[116]]) (A (rH n _ _ hk10) T)) [(7,sE k10.1)] [.o 0 (.cells ((aC k10.2).map .d))] ?_;obtain⟨z11,C9,h0⟩:=bnd h0;obtain⟨z12,MV,h0⟩:=bnd h0;refine .aq [.sv (eP []),.sv (eP z11),.sv (eP [k10.1]),.sv (eP z12)] [((eP z11).length:Int)] (A (kZ.lit []) (A (kZ.ap C9) (A (kZ.lit [k10.1]) (A (kZ.ap MV) T)))) [(8,.gs (.own 100037) 1 (eP z12))] [.o 100037 (.tok (eP z12).length 9)] [] ?_;obtain⟨k13,qj,h0⟩:=bnd h0;refine .ao [.call [.low 0] (iE k13.1) [.cells ((aC k13.2).map .d)]] (A (aW n _ _ qj) T) [(42,iE k13.1)] [.o 0 (.cells ((aC k13.2).map .d))] ?_;refine .a [] T [(43,dE (k13.1=0))] ?_;refine .bP h0 rfl [0,1,2,6,7,8,42] (fun BD=>[(43,bE BD)]) n1 n1 (fun BD h0=>?_) (fun y1 h1 hj1=>?_)
    ·refine .jT h0 (fun Ap h0=>?_) (fun Ap h0=>?_)
     ·obtain⟨k16,uY,h0⟩:=bnd h0;obtain⟨k17,D7,h0⟩:=bnd h0;obtain⟨k18,lW,h0⟩:=bnd h0;obtain⟨k19,Af,h0⟩:=bnd h0;obtain⟨k20,zJ,h0⟩:=bnd h0;refine .aq [.call [] (aE (ak k16)) [],.call [] (aE (ak k17)) [],.sv (aj [k17]),.call [] (aE (ak k18)) [],.pl,.call [.low 0] (aE (ak k19.1)) [.cells ((aC k19.2).map .d)],.sv (aj [k16,k18,k19.1]),.call [] (aE (ak k20)) []] [] (A (iM n _ uY) (A (iM n _ D7) (A (aA.lit [k17]) (A (iy n _ lW) (A (ih _ _ _ Af) (A (aA.lit [k16,k18,k19.1]) (A (iy n _ zJ) T))))))) [] [.o 6 (.cells ((ak k20).map .d))] [.o 0 (.cells ((aC k19.2).map .d))] ?_;cases h0;exact .rt hK
     ·refine .a [] T [(58,dE (k13.1=2))] ?_;refine .bP h0 rfl [0,1,2,6,7,8,42] (fun o21=>[(58,bE o21)]) n1 n1 (fun o21 h0=>?_) (fun y1 h1 hj1=>?_)
      ·refine .jT h0 (fun hc22 h0=>?_) (fun hc22 h0=>?_)
       ·obtain⟨k23,SE,h0⟩:=bnd h0;obtain⟨k24,BK,h0⟩:=bnd h0;obtain⟨k25,Df,h0⟩:=bnd h0;refine .aq [.call [] (aE (ak k23)) [],.pl,.call [.low 0] (aE (ak k24.1)) [.cells ((aC k24.2).map .d)],.sv (aj [k23,k24.1]),.call [] (aE (ak k25)) []] [] (A (iM n _ SE) (A (ih _ _ _ BK) (A (aA.lit [k23,k24.1]) (A (iy n _ Df) T)))) [(9,pw 9)] [.o 9 (.cells ((ak k25).map .d))] [.o 0 (.cells ((aC k24.2).map .d))] ?_;obtain⟨k26,CZ,h0⟩:=bnd h0;obtain⟨k27,yO,h0⟩:=bnd h0;obtain⟨k28,MR,h0⟩:=bnd h0;obtain⟨k29,V5,h0⟩:=bnd h0;refine .ad mixed [(0,[.call [] (aE (ak k26)) []]),(2,[.sv (aj [k25])]),(3,[.call [] (aE (ak k27)) []]),(7,[.pl]),(8,[.call [.low 0] (aE (ak k28.1)) [.cells ((aC k28.2).map .d)]]),(9,[.sv (aj [k26,k27,k28.1])]),(10,[.call [] (aE (ak k29)) []])] [] (A (iM n _ CZ) (A (aA.lit [k25]) (A (iy n _ yO) (A (ih _ _ _ MR) (A (aA.lit [k26,k27,k28.1]) (A (iy n _ V5) T)))))) [] [.o 6 (.cells ((ak k29).map .d))] [.o 0 (.cells ((aC k28.2).map .d))] ?_;cases h0;exact .rt hK
       ·refine .a [] T [(81,dE (k13.1=4))] ?_;refine .jP h0 (fun YB h0=>?_) (fun YB h0=>?_)
        ·obtain⟨k31,hk31,h0⟩:=bnd h0;obtain⟨k32,Jd,h0⟩:=bnd h0;obtain⟨k33,Py,h0⟩:=bnd h0;obtain⟨k34,V6,h0⟩:=bnd h0;obtain⟨FQ,MZ,h0⟩:=bnd h0;refine .aq [.call [] (aE (ak k31)) [],.pl,.call [.low 0] (aE (ak k32.1)) [.cells ((aC k32.2).map .d)],.pl,.call [.low 0] (aE (ak k33.1)) [.cells ((aC k33.2).map .d)],.call [.low 0] (aE (ak k34.1)) [.cells ((aC k34.2).map .d)],.sv (aj [k31,k32.1,k33.1,k34.1]),.call [] (aE (ak FQ)) []] [] (A (iM n _ hk31) (A (ih _ _ _ Jd) (A (ih _ _ _ Py) (A (ih _ _ _ V6) (A (aA.lit [k31,k32.1,k33.1,k34.1]) (A (iy n _ MZ) T)))))) [] [.o 6 (.cells ((ak FQ).map .d))] [.o 0 (.cells ((aC k34.2).map .d))] ?_;cases h0;exact .rt hK
        ·refine .a [] T [(99,dE (k13.1=5))] ?_;refine .jP h0 (fun ag9 h0=>?_) (fun ag9 h0=>?_)
         ·obtain⟨k37,YK,h0⟩:=bnd h0;obtain⟨k38,acK,h0⟩:=bnd h0;obtain⟨k39,acS,h0⟩:=bnd h0;refine .aq [.call [] (aE (ak k37)) [],.call [.low 0] (aE (ak k38.1)) [.cells ((aC k38.2).map .d)],.sv (aj [k37,k38.1]),.call [] (aE (ak k39)) []] [] (A (iM n _ YK) (A (FZ n _ _ acK) (A (aA.lit [k37,k38.1]) (A (iy n _ acS) T)))) [] [.o 6 (.cells ((ak k39).map .d))] [.o 0 (.cells ((aC k38.2).map .d))] ?_;cases h0;exact .rt hK
         ·obtain⟨k40,aha,h0⟩:=bnd h0;obtain⟨k41,ahb,h0⟩:=bnd h0;obtain⟨k42,ahc,h0⟩:=bnd h0;refine .aq [.pl,.call [.low 0] (aE (ak k40.1)) [.cells ((aC k40.2).map .d)],.pl,.call [.low 0] (aE (ak k41.1)) [.cells ((aC k41.2).map .d)],.sv (aj [k40.1,k41.1]),.call [] (aE (ak k42)) []] [] (A (ih _ _ _ aha) (A (ih _ _ _ ahb) (A (aA.lit [k40.1,k41.1]) (A (iy n _ ahc) T)))) [] [.o 6 (.cells ((ak k42).map .d))] [.o 0 (.cells ((aC k41.2).map .d))] ?_;cases h0;exact .rt hK
      ·refine .jP h1 (fun ahd h1=>?_) (fun ahd h1=>?_)
       ·cases h1;exact .lg hj1 []
       ·refine .a [] T [(58,dE (k13.1=3))] ?_;cases h1;exact .lg hj1 []
    ·refine .jP h1 (fun ahe h1=>?_) (fun ahe h1=>?_)
     ·cases h1;exact .lg hj1 []
     ·refine .a [] T [(43,dE (k13.1=1))] ?_;cases h1;exact .lg hj1 []
  ·by_cases g45:a2=0
   ·have h1:=aJ g45 h1;refine .a (rb 4 true []) (R 4 (dt g45) T) [(16,bE true)] ?_;cases h1;exact .lg hj1 []
   ·have h1:=aK g45 h1;obtain⟨k46,ahf,h1⟩:=bnd h1;refine .ao [.b false,.b false,.call [.low 0] (iE k46.1) [.cells ((aC k46.2).map .d)],.b false,.b false] (A (df g45) (A (A (df g45) (aW n _ _ ahf)) (R 2 (df g45) T))) [(16,dE (k46.1=0))] [.o 0 (.cells ((aC k46.2).map .d))] ?_;cases h1;exact .lg hj1 []
def yX (n:Nat)  : Option (List (List UInt8)):=
 some [nX,nV,nM,nR,nD,nJ,nK,nH,nP,nU,mZ,nG,nT,nN,nS]
theorem Np (n:Nat):∀{r:List (List UInt8)},yX n  = some r→aF X.E 80 [] [] (lE 1 (eP r)) []:=by
 intro r h0;rw[yX] at h0;refine .n Tryz.func80 (fun L ks low K hl hL hlen hK=>?_);refine .a [] T [] ?_;refine .a [.sv (eP [nX,nV,nM,nR,nD,nJ,nK,nH,nP,nU,mZ,nG,nT,nN,nS])] (A (kZ.lit [nX,nV,nM,nR,nD,nJ,nK,nH,nP,nU,mZ,nG,nT,nN,nS]) T) [(0,fE 1 (eP [nX,nV,nM,nR,nD,nJ,nK,nH,nP,nU,mZ,nG,nT,nN,nS]))] ?_;cases h0;exact .rt hK
def xX (n:Nat) (w0:aZ):Option (Form×aZ):=
 (yX n).bind fun k1=>(aO n 3 w0).bind fun k2=>(if k2.1>0 then(aO n (k1.length:Int) k2.2).bind fun k4=>(gG k1 k4.1).bind fun e5=>(oN n e5).bind fun k6=>some (k6,k4.2) else(dh n [4,3,2] k2.2).bind fun k8=>(gu n [[43],[108,105,115,116],[103]] k8.1 k8.2).bind fun k9=>(aO n 2 k9.2).bind fun k10=>Option.bind ((if k10.1=0 then(oN n Cb).bind fun k13=>(fD n iI).bind fun k14=>(fD n [103]).bind fun k15=>(gQ n [k15,k13]).bind fun k16=>(gQ n [k16]).bind fun k17=>(gQ n [k14,k17,k9.1]).bind fun k18=>some k18 else some k9.1):Option (Form)) (fun(JV:Form)=>some (JV,k10.2)))
theorem P7 (n:Nat):∀(w0:aZ) {r:Form×aZ},xX n w0=some r→aF X.E 68 [pl 0] [some (.cells ((aC w0).map .d))] (aE (ak r.1)) [.cells ((aC r.2).map .d)]:=by
 intro w0 r h0;rw[xX] at h0;refine .n Tryz.func68 (fun L ks low K hl hL hlen hK=>?_);refine .af [] T [(2,pw 2)] [.o 2 (.cells [iE 0,sE [],iE 0,fE 1 (ah []),fE 5 (aj [])])] ?_;obtain⟨k1,hk1,h0⟩:=bnd h0;refine .a [.call [] (lE 1 (eP k1)) []] (A (Np n  hk1) T) [(3,lE 1 (eP k1))] ?_;obtain⟨k2,hk2,h0⟩:=bnd h0;refine .ao [.call [.low 0] (iE k2.1) [.cells ((aC k2.2).map .d)]] (A (aW n _ _ hk2) T) [(9,dE (k2.1>0))] [.o 0 (.cells ((aC k2.2).map .d))] ?_;refine .jP h0 (fun hc3 h0=>?_) (fun hc3 h0=>?_)
 ·obtain⟨k4,hk4,h0⟩:=bnd h0;obtain⟨e5,QK,h0⟩:=bnd h0;obtain⟨k6,hk6,h0⟩:=bnd h0;refine .aq [.v (k1.length:Int),.call [.low 0] (iE k4.1) [.cells ((aC k4.2).map .d)],.cs [.s e5],.call [] (aE (ak k6)) []] [] (A (kZ.len' k1) (A (aW n _ _ hk4) (A (kZ.idx QK) (A (yV n _ hk6) T)))) [] [.o 2 (.cells ((ak k6).map .d))] [.o 0 (.cells ((aC k4.2).map .d))] ?_;refine .sn 3 kZ k1 (by kernel_rfl) (fun hb7=>?_);cases h0;exact .rt hK
 ·obtain⟨k8,hk8,h0⟩:=bnd h0;obtain⟨k9,hk9,h0⟩:=bnd h0;refine .aq [.sv (eP [[43],[108,105,115,116],[103]]),.sv (ah [4,3,2]),.call [.low 0] (iE k8.1) [.cells ((aC k8.2).map .d)],.call [.low 0] (aE (ak k9.1)) [.cells ((aC k9.2).map .d)]] [] (A (kZ.lit [[43],[108,105,115,116],[103]]) (A (aI.lit [4,3,2]) (A (dO n _ _ hk8) (A (P6 n _ _ _ hk9) T)))) [(4,pw 4)] [.o 4 (.cells ((ak k9.1).map .d))] [.o 0 (.cells ((aC k9.2).map .d))] ?_;obtain⟨k10,hk10,h0⟩:=bnd h0;refine .ao [.call [.low 0] (iE k10.1) [.cells ((aC k10.2).map .d)]] (A (aW n _ _ hk10) T) [(26,dE (k10.1=0))] [.o 0 (.cells ((aC k10.2).map .d))] ?_;refine .bP h0 rfl [2,4] (fun JV=>[]) (fun JV=>[.o 4 (.cells ((ak JV).map .d))]) n1 (fun JV h0=>?_) (fun y1 h1 hj1=>?_)
  ·refine .af [] T [] [.o 2 (.cells ((ak JV).map .d))] ?_;cases h0;exact .rt hK
  ·refine .jP h1 (fun hc12 h1=>?_) (fun hc12 h1=>?_)
   ·obtain⟨k13,qj,h1⟩:=bnd h1;refine .af [.call [] (aE (ak k13)) []] (A (yV n _ qj) T) [(5,pw 5)] [.o 5 (.cells ((ak k13).map .d))] ?_;obtain⟨k14,wH,h1⟩:=bnd h1;obtain⟨k15,pR,h1⟩:=bnd h1;obtain⟨k16,uY,h1⟩:=bnd h1;obtain⟨k17,D7,h1⟩:=bnd h1;obtain⟨k18,lW,h1⟩:=bnd h1;refine .ad mixed [(0,[.call [] (aE (ak k14)) []]),(1,[.call [] (aE (ak k15)) []]),(3,[.sv (aj [k15,k13])]),(4,[.call [] (aE (ak k16)) []]),(5,[.sv (aj [k16])]),(6,[.call [] (aE (ak k17)) []]),(8,[.sv (aj [k14,k17,k9.1])]),(9,[.call [] (aE (ak k18)) []])] [] (A (iM n _ wH) (A (iM n _ pR) (A (aA.lit [k15,k13]) (A (iy n _ uY) (A (aA.lit [k16]) (A (iy n _ D7) (A (aA.lit [k14,k17,k9.1]) (A (iy n _ lW) T)))))))) [] [.o 4 (.cells ((ak k18).map .d))] [] ?_;cases h1;refine .kp [2,4] [] ?_;refine .dr 5 (by kernel_rfl) ?_;exact .lg hj1 []
   ·cases h1;exact .lg hj1 []
def yY (n:Nat)  : Option (List (List UInt8)):=
 some [ni,ny,mX,mW,nO,mY,[40,49,32,50,41],ng,uT,nC,qh,nY]
theorem Nq (n:Nat):∀{r:List (List UInt8)},yY n  = some r→aF X.E 66 [] [] (lE 1 (eP r)) []:=by
 intro r h0;rw[yY] at h0;refine .n Tryz.func66 (fun L ks low K hl hL hlen hK=>?_);refine .a [] T [] ?_;refine .a [.sv (eP [ni,ny,mX,mW,nO,mY,[40,49,32,50,41],ng,uT,nC,qh,nY])] (A (kZ.lit [ni,ny,mX,mW,nO,mY,[40,49,32,50,41],ng,uT,nC,qh,nY]) T) [(0,fE 1 (eP [ni,ny,mX,mW,nO,mY,[40,49,32,50,41],ng,uT,nC,qh,nY]))] ?_;cases h0;exact .rt hK
def xY (n:Nat) (w0:aZ):Option (Form×aZ):=
 (yY n).bind fun k1=>(aO n 3 w0).bind fun k2=>(if k2.1>0 then(aO n (k1.length:Int) k2.2).bind fun k4=>(gG k1 k4.1).bind fun e5=>(oN n e5).bind fun k6=>some (k6,k4.2) else(xX n k2.2).bind fun k8=>some (k8.1,k8.2))
theorem P8 (n:Nat):∀(w0:aZ) {r:Form×aZ},xY n w0=some r→aF X.E 49 [pl 0] [some (.cells ((aC w0).map .d))] (aE (ak r.1)) [.cells ((aC r.2).map .d)]:=by
 intro w0 r h0;rw[xY] at h0;refine .n Tryz.func49 (fun L ks low K hl hL hlen hK=>?_);refine .af [] T [(2,pw 2)] [.o 2 (.cells [iE 0,sE [],iE 0,fE 1 (ah []),fE 5 (aj [])])] ?_;obtain⟨k1,hk1,h0⟩:=bnd h0;refine .a [.call [] (lE 1 (eP k1)) []] (A (Nq n  hk1) T) [(3,lE 1 (eP k1))] ?_;obtain⟨k2,hk2,h0⟩:=bnd h0;refine .ao [.call [.low 0] (iE k2.1) [.cells ((aC k2.2).map .d)]] (A (aW n _ _ hk2) T) [(7,dE (k2.1>0))] [.o 0 (.cells ((aC k2.2).map .d))] ?_;refine .jP h0 (fun hc3 h0=>?_) (fun hc3 h0=>?_)
 ·obtain⟨k4,hk4,h0⟩:=bnd h0;obtain⟨e5,QK,h0⟩:=bnd h0;obtain⟨k6,hk6,h0⟩:=bnd h0;refine .aq [.v (k1.length:Int),.call [.low 0] (iE k4.1) [.cells ((aC k4.2).map .d)],.cs [.s e5],.call [] (aE (ak k6)) []] [] (A (kZ.len' k1) (A (aW n _ _ hk4) (A (kZ.idx QK) (A (yV n _ hk6) T)))) [] [.o 2 (.cells ((ak k6).map .d))] [.o 0 (.cells ((aC k4.2).map .d))] ?_;refine .sn 3 kZ k1 (by kernel_rfl) (fun hb7=>?_);cases h0;exact .rt hK
 ·obtain⟨k8,hk8,h0⟩:=bnd h0;refine .aq [.call [.low 0] (aE (ak k8.1)) [.cells ((aC k8.2).map .d)]] [] (A (P7 n _ hk8) T) [] [.o 2 (.cells ((ak k8.1).map .d))] [.o 0 (.cells ((aC k8.2).map .d))] ?_;cases h0;exact .rt hK
def kD (n:Nat) (a0:List UInt8):Option (Core×Int):=
 (oM n a0).bind fun k1=>(aO n 4 k1).bind fun k2=>(if k2.1=0 then(qY n a0).bind fun k4=>some (k4,200) else(xY n k2.2).bind fun k5=>(oC n k5.1 20).bind fun k6=>Option.bind ((if ¬k6.2=0 then(qY n a0).bind fun k10=>some k10 else some k6.1):Option (Core)) (fun(o7:Core)=>(dh n [500,100,20,5,0,3001] k5.2).bind fun k8=>some (o7,k8.1)))
theorem Eh (n:Nat):∀(a0:List UInt8) {r:Core×Int},kD n a0=some r→aF X.E 32 [lE 1 (jv a0)] [] (.dP [aE (aH r.1),iE r.2]) []:=by
 intro a0 r h0;rw[kD] at h0;refine .n Tryz.func32 (fun L ks low K hl hL hlen hK=>?_);refine .af [] T [(2,pw 2)] [.o 2 (.cells [iE 0,iE 0,sE [],iE 0,fE 1 (ah []),iE 0,sE [],iE 0,fE 1 (ah []),fE 5 (aj []),fE 11 (aG [])])] ?_;obtain⟨k1,hk1,h0⟩:=bnd h0;refine .af [.call [.own 200008] (pl 0) [.cells ((aC k1).map .d)]] (A (yU n _ hk1) T) [(4,pw 200008)] [.o 200008 (.cells ((aC k1).map .d))] ?_;obtain⟨k2,hk2,h0⟩:=bnd h0;refine .af [.call [.own 200008] (iE k2.1) [.cells ((aC k2.2).map .d)]] (A (aW n _ _ hk2) T) [(11,dE (k2.1=0))] [.o 200008 (.cells ((aC k2.2).map .d))] ?_;refine .jP h0 (fun hc3 h0=>?_) (fun hc3 h0=>?_)
 ·obtain⟨k4,hk4,h0⟩:=bnd h0;refine .af [.call [] (aE (aH k4)) []] (A (AO n _ hk4) T) [(3,iE 200)] [.o 2 (.cells ((aH k4).map .d))] ?_;cases h0;exact .rt hK
 ·obtain⟨k5,hk5,h0⟩:=bnd h0;obtain⟨k6,hk6,h0⟩:=bnd h0;refine .af [.call [.own 200008] (aE (ak k5.1)) [.cells ((aC k5.2).map .d)],.call [] (.dP [aE (aH k6.1),iE k6.2]) []] (A (P8 n _ hk5) (A (Gv n _ _ hk6) T)) [(5,pw 5),(6,iE k6.2)] [.o 200008 (.cells ((aC k5.2).map .d)),.o 5 (.cells ((aH k6.1).map .d))] ?_;refine .a [] T [(21,dE (¬k6.2=0))] ?_;refine .bP h0 rfl [2,4,5] (fun o7=>[]) (fun o7=>[.o 5 (.cells ((aH o7).map .d))]) n1 (fun o7 h0=>?_) (fun y1 h1 hj1=>?_)
  ·obtain⟨k8,hk8,h0⟩:=bnd h0;refine .ad mixed [(2,[.sv (ah [500,100,20,5,0,3001])]),(3,[.call [.own 200008] (iE k8.1) [.cells ((aC k8.2).map .d)]])] [] (A (aI.lit [500,100,20,5,0,3001]) (A (dO n _ _ hk8) T)) [(3,iE k8.1)] [.o 2 (.cells ((aH o7).map .d)),.o 200008 (.cells ((aC k8.2).map .d))] [] ?_;cases h0;exact .rt hK
  ·refine .jP h1 (fun fV h1=>?_) (fun fV h1=>?_)
   ·obtain⟨k10,hk10,h1⟩:=bnd h1;refine .af [.call [] (aE (aH k10)) []] (A (AO n _ hk10) T) [] [.o 5 (.cells ((aH k10).map .d))] ?_;cases h1;exact .lg hj1 []
   ·cases h1;exact .lg hj1 []
def vG (n:Nat) (a0:List UInt8):Option (Core):=
 (kD n a0).bind fun k1=>some k1.1
theorem Nr (n:Nat):∀(a0:List UInt8) {r:Core},vG n a0=some r→aF X.E 19 [lE 1 (jv a0)] [] (aE (aH r)) []:=by
 intro a0 r h0;rw[vG] at h0;refine .n Tryz.func19 (fun L ks low K hl hL hlen hK=>?_);refine .af [] T [(2,pw 2)] [.o 2 (.cells [iE 0,iE 0,sE [],iE 0,fE 1 (ah []),iE 0,sE [],iE 0,fE 1 (ah []),fE 5 (aj []),fE 11 (aG [])])] ?_;obtain⟨k1,hk1,h0⟩:=bnd h0;refine .af [.call [] (.dP [aE (aH k1.1),iE k1.2]) []] (A (Eh n _ hk1) T) [(3,pw 3)] [.o 3 (.cells ((aH k1.1).map .d))] ?_;refine .af [] T [] [.o 2 (.cells ((aH k1.1).map .d))] ?_;cases h0;exact .rt hK
def jq (n:Nat) (a0:List UInt8):Option (Core):=
 (oM n a0).bind fun k1=>(aO n 3 k1).bind fun k2=>(if k2.1=0 then(qY n a0).bind fun k4=>some k4 else(vG n a0).bind fun k5=>some k5)
theorem BP (n:Nat):∀(a0:List UInt8) {r:Core},jq n a0=some r→aF X.E 5 [lE 1 (jv a0)] [] (aE (aH r)) []:=by
 intro a0 r h0;rw[jq] at h0;refine .n Tryz.func5 (fun L ks low K hl hL hlen hK=>?_);refine .af [] T [(2,pw 2)] [.o 2 (.cells [iE 0,iE 0,sE [],iE 0,fE 1 (ah []),iE 0,sE [],iE 0,fE 1 (ah []),fE 5 (aj []),fE 11 (aG [])])] ?_;obtain⟨k1,hk1,h0⟩:=bnd h0;obtain⟨k2,hk2,h0⟩:=bnd h0;refine .af [.call [.own 200004] (pl 0) [.cells ((aC k1).map .d)],.call [.own 200004] (iE k2.1) [.cells ((aC k2.2).map .d)]] (A (yU n _ hk1) (A (aW n _ _ hk2) T)) [(6,dE (k2.1=0))] [.o 200004 (.cells ((aC k2.2).map .d))] ?_;refine .jP h0 (fun hc3 h0=>?_) (fun hc3 h0=>?_)
 ·obtain⟨k4,hk4,h0⟩:=bnd h0;refine .af [.call [] (aE (aH k4)) []] (A (AO n _ hk4) T) [] [.o 2 (.cells ((aH k4).map .d))] ?_;cases h0;exact .rt hK
 ·obtain⟨k5,hk5,h0⟩:=bnd h0;refine .af [.call [] (aE (aH k5)) []] (A (Nr n _ hk5) T) [] [.o 2 (.cells ((aH k5).map .d))] ?_;cases h0;exact .rt hK
def oO:Nat→Core→Int→Option (Int)
 | 0,_,_=>none
 | n+1,a0,a1=>Option.bind ((if a0.kind=1 then some (decide (a0.id=a1)) else some false):Option (Bool)) (fun(o1:Bool)=>Option.bind ((if o1=true then some 1 else some 0):Option (Int)) (fun(o2:Int)=>Option.bind (dS (fun(s4:Int) (i3:Nat) (x6:Core)=>(oO n x6 a1).bind fun k12=>some (aY (s4+k12))) 0 a0.kids o2) (fun(s4:Int)=>some s4)))
theorem Ns (n:Nat):∀(a0:Core) (a1:Int) {r:Int},oO n a0 a1=some r→aF X.E 35 [aE (aH a0),iE a1] [] (iE r) []:=by
 induction n with
 | zero=>intro a0 a1 r h; cases h
 | succ n ih=>
  intro a0 a1 r h0;rw[oO] at h0;refine .n Tryz.func35 (fun L ks low K hl hL hlen hK=>?_);refine .af [] T [(2,pw 2)] [.o 2 (.cells ((aH a0).map .d))] ?_;refine .a [] T [(5,iE 0)] ?_;refine .bP h0 rfl [1,2,5] (fun o1=>[(15,bE o1)]) n1 n1 (fun o1 h0=>?_) (fun y1 h1 hj1=>?_)
  ·refine .bP h0 rfl [1,2] (fun o2=>[(5,iE o2)]) n1 n1 (fun o2 h0=>?_) (fun y1 h1 hj1=>?_)
   ·refine .a [] T [(6,iE 0)] ?_;refine .lL h0 rfl [1,2] (fun i3 s4=>[(5,iE s4),(6,iE (i3:Int))]) n2 n2 [] (by kernel_rfl) (fun i3 s4 q5 hd7 hi9 h0=>?_);refine .a [.v (a0.kids.length:Int)] (A (bH.len' a0.kids) T) [(18,lE 11 (aG a0.kids)),(20,dE ((i3:Int)<(a0.kids.length:Int)))] ?_;refine .sn 18 bH a0.kids (by kernel_rfl) (fun Ai=>?_);refine .lc hd7 rfl (by kernel_rfl) (fun x6 Lc bJ hx6 hd8 jH=>?_) (fun bJ=>?_)
    ·subst bJ;obtain⟨y1,h1,hn1⟩:=bY h0;obtain⟨k12,hk12,h1⟩:=bnd h1;refine .a [.cs (aH x6),.call [] (iE k12) [],.pl] (A (bH.jr hx6) (A (ih _ _ hk12) T)) [(5,iE (aY (s4+k12)))] ?_;refine .a [.v ((i3+1:Nat):Int)] (A (wn (i:=i3) (by omega)) T) [(6,iE ((i3+1:Nat):Int))] ?_;cases h1;exact .nL rfl (i3+1) _ hd8 jH hn1 [] (by kernel_rfl)
    ·subst bJ;have h0:=dJ h0;refine .a [] T [(4,iE s4)] ?_;cases h0;exact .rt hK
   ·refine .jT h1 (fun hc13 h1=>?_) (fun hc13 h1=>?_)
    ·refine .a [] T [(5,iE 1)] ?_;cases h1;exact .lg hj1 []
    ·cases h1;exact .lg hj1 []
  ·by_cases g14:a0.kind=1
   ·have h1:=aJ g14 h1;refine .a (rb 5 true []) (R 5 (dt g14) T) [(15,dE (a0.id=a1))] ?_;cases h1;exact .lg hj1 []
   ·have h1:=aK g14 h1;refine .a (rb 5 false []) (R 5 (df g14) T) [(15,bE false)] ?_;cases h1;exact .lg hj1 []
def mD:Nat→(List Int)→Core→Option (List Int)
 | 0,_,_=>none
 | n+1,a0,a1=>iterM n (fun(s1:Int×(List Int))=>((if s1.1<(a1.ids.length:Int) then Option.bind ((gG a1.kids 0).bind fun e6=>(gG a1.ids s1.1).bind fun e7=>(oO n e6 e7).bind fun k8=>(if k8=0 then(jQ 8 s1.2 [e7]).bind fun z10=>some z10 else some s1.2):Option (List Int)) (fun(o5:List Int)=>some (Sum.inr ((aY (s1.1+1)),o5))) else Option.bind (dS (fun(s12:List Int) (i11:Nat) (x14:Core)=>(mD n s12 x14).bind fun k20=>some k20) 0 a1.kids s1.2) (fun(s12:List Int)=>some (Sum.inl s12))):Option ((List Int)⊕(Int×(List Int))))) (0,a0)
theorem Jf (n:Nat):∀(a0:List Int) (a1:Core) {r:List Int},mD n a0 a1=some r→aF X.E 23 [.vs (.low 0) 1 ((ah a0).length),aE (aH a1)] [some (.vec 3 1 (ah a0))] (.vs (.low 0) 1 ((ah r).length)) [.vec 3 1 (ah r)]:=by
 induction n with
 | zero=>intro a0 a1 r h; cases h
 | succ n ih=>
  intro a0 a1 r h0;rw[mD] at h0;refine .n Tryz.func23 (fun L ks low K hl hL hlen hK=>?_);refine .af [] T [(3,pw 3)] [.o 3 (.cells ((aH a1).map .d))] ?_;refine .a [] T [(5,iE 0)] ?_;refine .it h0 rfl [3] (fun s1=>[(0,.vs (.low 0) 1 ((ah s1.2).length)),(5,iE s1.1)]) n1 (fun s1=>[.o 0 (.vec 3 1 (ah s1.2))]) [] (by kernel_rfl) (fun WC s1 h0=>?_);obtain⟨y1,h1,hw1,hn1⟩:=bZ h0;refine .a [.v (a1.ids.length:Int)] (A (aI.len' a1.ids) T) [(9,lE 1 (ah a1.ids)),(11,dE (s1.1<(a1.ids.length:Int)))] ?_;refine .sn 9 aI a1.ids (by kernel_rfl) (fun hb3=>?_);refine .jP h1 (fun hc4 h1=>?_) (fun hc4 h1=>?_)
  ·refine .bPB h1 rfl [3,5] (fun o5=>[(0,.vs (.low 0) 1 ((ah o5).length))]) n1 (fun o5=>[.o 0 (.vec 3 1 (ah o5))]) (fun o5 h1=>?_) (fun y2 h2 hj2=>?_)
   ·refine .a [.pl] T [(5,iE (aY (s1.1+1)))] ?_;cases h1;exact .nI rfl _ (hn1 _ rfl) [] (by kernel_rfl)
   ·obtain⟨e6,UK,h2⟩:=bnd h2;obtain⟨e7,Ea,h2⟩:=bnd h2;obtain⟨k8,hk8,h2⟩:=bnd h2;refine .ad mixed [(2,[.cs (aH e6)]),(7,[.cs [.v (.int .i64 e7)]]),(9,[.call [] (iE k8) []])] [] (A (bH.idx UK) (A (aI.idx Ea) (A (Ns n _ _ hk8) T))) [(24,dE (k8=0))] [] [] ?_;refine .jP h2 (fun fV h2=>?_) (fun fV h2=>?_)
    ·obtain⟨z10,SL,h2⟩:=bnd h2;refine .ao [.cs [.v (.int .i64 e7)],.sv (ah [e7]),.sv (ah z10)] (A (aI.idx Ea) (A (aI.lit [e7]) (A (A (aI.ap SL) (rfl:(ah s1.2).length=(ah s1.2).length)) T))) [(0,.vs (.low 0) 1 ((ah z10).length))] [.o 0 (.vec 3 1 (ah z10))] ?_;cases h2;exact .lg hj2 []
    ·cases h2;exact .lg hj2 []
  ·refine .a [] T [(6,iE 0)] ?_;refine .lL h1 rfl [3] (fun i11 s12=>[(0,.vs (.low 0) 1 ((ah s12).length)),(6,iE (i11:Int))]) n2 (fun i11 s12=>[.o 0 (.vec 3 1 (ah s12))]) [] (by kernel_rfl) (fun i11 s12 q13 YF aeP h1=>?_);refine .a [.v (a1.kids.length:Int)] (A (bH.len' a1.kids) T) [(35,lE 11 (aG a1.kids)),(37,dE ((i11:Int)<(a1.kids.length:Int)))] ?_;refine .sn 35 bH a1.kids (by kernel_rfl) (fun ai5=>?_);refine .lc YF rfl (by kernel_rfl) (fun x14 aeQ hc19 Pz YG PD=>?_) (fun hc19=>?_)
   ·subst hc19;obtain⟨y2,h2,hn2⟩:=bY h1;obtain⟨k20,zJ,h2⟩:=bnd h2;refine .ao [.cs (aH x14),.call [.low 0] (.vs (.low 0) 1 ((ah k20).length)) [.vec 3 1 (ah k20)]] (A (bH.jr Pz) (A (ih _ _ zJ) T)) [(0,.vs (.low 0) 1 ((ah k20).length))] [.o 0 (.vec 3 1 (ah k20))] ?_;refine .a [.v ((i11+1:Nat):Int)] (A (wn (i:=i11) (by omega)) T) [(6,iE ((i11+1:Nat):Int))] ?_;cases h2;exact .nL rfl (i11+1) _ YG PD hn2 [] (by kernel_rfl)
   ·subst hc19;have h1:=dJ h1;refine .a [] T [(4,.vs (.low 0) 1 ((ah s12).length))] ?_;refine .kp [4] [] ?_;refine .dr 3 (by kernel_rfl) ?_;cases h1;cases hw1 _ rfl;exact .rt hK
def kK (n:Nat) (a0:Core):Option (List Int):=
 (lY n a0).bind fun k1=>(if(!k1)=true then some [] else(mD n [] a0).bind fun k3=>some k3)
theorem iF (n:Nat):∀(a0:Core) {r:List Int},kK n a0=some r→aF X.E 8 [aE (aH a0)] [] (lE 1 (ah r)) []:=by
 intro a0 r h0;rw[kK] at h0;refine .n Tryz.func8 (fun L ks low K hl hL hlen hK=>?_);refine .af [] T [(1,pw 1)] [.o 1 (.cells ((aH a0).map .d))] ?_;obtain⟨k1,hk1,h0⟩:=bnd h0;refine .a [.call [] (bE k1) []] (A (Am n _ hk1) T) [(5,bE (!k1))] ?_;refine .jT h0 (fun hc2 h0=>?_) (fun hc2 h0=>?_)
 ·refine .a [.sv (ah [])] (A (aI.lit []) T) [(2,fE 1 (ah []))] ?_;cases h0;exact .rt hK
 ·obtain⟨k3,hk3,h0⟩:=bnd h0;refine .af [.gv 7,.sv (ah []),.call [.own 100007] (.vs (.low 0) 1 ((ah k3).length)) [.vec 3 1 (ah k3)]] (A (aI.lit []) (A (Jf n _ _ hk3) T)) [(2,.vs (.own 100007) 1 ((ah k3).length))] [.o 100007 (.vec 3 1 (ah k3))] ?_;refine .kp [2] [] ?_;refine .dr 1 (by kernel_rfl) ?_;refine .ft 2 100007 [] aI k3 (rfl:(ah k3).length=(ah k3).length) (by kernel_rfl) ?_;cases h0;exact .rt hK
noncomputable def oG (n:Nat) (a0:List UInt8):Option (Bool):=
 (if(a0.length:Int)>1048576 then some true else(jq n a0).bind fun k3=>(kF n k3).bind fun k4=>Option.bind ((kK n k3).bind fun k15=>(xw n k4 k15).bind fun k16=>(if(!k16)=true then some true else(jh n k3).bind fun k18=>(if(!k18)=true then some true else(jU n k3 996).bind fun k20=>(if k20=true then some true else(jU n k3 997).bind fun k22=>(if k22=true then some true else(um n k3).bind fun k24=>(if k24>100 then some true else(lF n k3).bind fun k26=>some (decide (k26>590))))))):Option (Bool)) (fun(o5:Bool)=>(if o5=true then(kK n k3).bind fun k7=>(xw n k4 k7).bind fun k8=>some k8 else(kF n (⟨5,0,[],0,[996],(⟨0,[],0,[],[]⟩:Form),[k3]⟩:Core)).bind fun k9=>Option.bind ((qm n (⟨5,0,[],0,[996],(⟨0,[],0,[],[]⟩:Form),[k3]⟩:Core) (⟨5,0,[],0,[997],(⟨0,[],0,[],[]⟩:Form),[k3]⟩:Core)).bind fun k11=>(if k11=true then(if(k9.length:Int)=(aY ((k4.length:Int)+1)) then(gG k9 0).bind fun e14=>some (decide (e14=996)) else some false) else some false):Option (Bool)) (fun(jI:Bool)=>some jI))))
theorem Ei (n:Nat):∀(a0:List UInt8) {r:Bool},oG n a0=some r→aF X.E 4 [lE 1 (jv a0)] [] (bE r) []:=by
 intro a0 r h0;rw[oG] at h0;refine .n Tryz.func4 (fun L ks low K hl hL hlen hK=>?_);refine .a [] T [] ?_;refine .a [.v (a0.length:Int)] (A (vV.len' a0) T) [(10,dE ((a0.length:Int)>1048576))] ?_;refine .sn 0 vV a0 (by kernel_rfl) (fun hb1=>?_);refine .jP h0 (fun hc2 h0=>?_) (fun hc2 h0=>?_)
 ·refine .a [] T [(2,bE true)] ?_;cases h0;exact .rt hK
 ·obtain⟨k3,hk3,h0⟩:=bnd h0;refine .af [.call [] (aE (aH k3)) []] (A (BP n _ hk3) T) [(3,pw 3)] [.o 3 (.cells ((aH k3).map .d))] ?_;obtain⟨k4,hk4,h0⟩:=bnd h0;refine .a [.call [] (lE 1 (ah k4)) []] (A (zA n _ hk4) T) [(4,lE 1 (ah k4))] ?_;refine .bP h0 rfl [3,4] (fun o5=>[(42,bE o5)]) n1 n1 (fun o5 h0=>?_) (fun y1 h1 hj1=>?_)
  ·refine .jT h0 (fun hc6 h0=>?_) (fun hc6 h0=>?_)
   ·obtain⟨k7,JE,h0⟩:=bnd h0;obtain⟨k8,hk8,h0⟩:=bnd h0;refine .a [.call [] (lE 1 (ah k7)) [],.call [] (bE k8) []] (A (iF n _ JE) (A (lG n _ _ hk8) T)) [(2,bE k8)] ?_;cases h0;exact .rt hK
   ·refine .af [.sv (ah [996]),.sv (aG [k3])] (A (aI.lit [996]) (A (bH.lit [k3]) T)) [(5,pw 5)] [.o 5 (.cells [iE 5,iE 0,sE [],iE 0,fE 1 (ah [996]),iE 0,sE [],iE 0,fE 1 (ah []),fE 5 (aj []),fE 11 (aG [k3])])] ?_;refine .af [.sv (ah [997]),.sv (aG [k3])] (A (aI.lit [997]) (A (bH.lit [k3]) T)) [(6,pw 6)] [.o 6 (.cells [iE 5,iE 0,sE [],iE 0,fE 1 (ah [997]),iE 0,sE [],iE 0,fE 1 (ah []),fE 5 (aj []),fE 11 (aG [k3])])] ?_;obtain⟨k9,hk9,h0⟩:=bnd h0;refine .a [.call [] (lE 1 (ah k9)) []] (A (zA n _ hk9) T) [(7,lE 1 (ah k9))] ?_;refine .bP h0 rfl [] (fun jI=>[(2,bE jI)]) n1 n1 (fun jI h0=>?_) (fun y1 h1 hj1=>?_)
    ·cases h0;exact .rt hK
    ·obtain⟨k11,yK,h1⟩:=bnd h1;by_cases g12:k11=true
     ·have h1:=aJ g12 h1;by_cases g13:(k9.length:Int)=(aY ((k4.length:Int)+1))
      ·have h1:=aJ g13 h1;obtain⟨e14,Nj,h1⟩:=bnd h1;refine .a (.call [] (bE k11) []::(.b true::(.b true::(.v (k9.length:Int)::(.b true::(.b true::(.v (k4.length:Int)::(.b true::(.pl::(rb 4 true (.cs [.v (.int .i64 e14)]::(rb 3 true [])))))))))))) (A (uV n _ _ yK) (A g12 (A (A g12 (aI.len' k9)) (A g12 (A (A g12 (aI.len' k4)) (R 3 g12 (A (dt g13) (A (A (dt g13) (aI.idx Nj)) (R 3 (dt g13) T))))))))) [(2,dE (e14=996))] ?_;cases h1;exact .lg hj1 []
      ·have h1:=aK g13 h1;refine .a (.call [] (bE k11) []::(.b true::(.b true::(.v (k9.length:Int)::(.b true::(.b true::(.v (k4.length:Int)::(.b true::(.pl::(.b true::(.b true::(rb 5 false [])))))))))))) (A (uV n _ _ yK) (A g12 (A (A g12 (aI.len' k9)) (A g12 (A (A g12 (aI.len' k4)) (R 3 g12 (R 5 (df g13) T))))))) [(2,bE false)] ?_;cases h1;exact .lg hj1 []
     ·have h1:=aK g12 h1;refine .a (.call [] (bE k11) []::(rb 12 false [])) (A (uV n _ _ yK) (R 7 (Bool.eq_false_iff.2 g12) (R 5 B0 T))) [(2,bE false)] ?_;cases h1;exact .lg hj1 []
  ·obtain⟨k15,pR,h1⟩:=bnd h1;obtain⟨k16,uY,h1⟩:=bnd h1;by_cases g17:(!k16)=true
   ·have h1:=aJ g17 h1;refine .a (.call [] (lE 1 (ah k15)) []::(.call [] (bE k16) []::(rb 18 true []))) (A (iF n _ pR) (A (lG n _ _ uY) (R 4 g17 (R 14 B1 T)))) [(42,bE true)] ?_;cases h1;exact .lg hj1 []
   ·have h1:=aK g17 h1;obtain⟨k18,lW,h1⟩:=bnd h1;by_cases g19:(!k18)=true
    ·have h1:=aJ g19 h1;refine .a (.call [] (lE 1 (ah k15)) []::(.call [] (bE k16) []::(.b false::(.b false::(.call [] (bE k18) []::(.b false::(.b false::(rb 14 true [])))))))) (A (iF n _ pR) (A (lG n _ _ uY) (A (Bool.eq_false_iff.2 g17) (A (A (Bool.eq_false_iff.2 g17) (iw n _ lW)) (R 2 (Bool.eq_false_iff.2 g17) (R 3 g19 (R 11 B1 T))))))) [(42,bE true)] ?_;cases h1;exact .lg hj1 []
    ·have h1:=aK g19 h1;obtain⟨k20,zJ,h1⟩:=bnd h1;by_cases g21:k20=true
     ·have h1:=aJ g21 h1;refine .a (.call [] (lE 1 (ah k15)) []::(.call [] (bE k16) []::(.b false::(.b false::(.call [] (bE k18) []::(rb 4 false (.call [] (bE k20) []::(.b false::(rb 11 true []))))))))) (A (iF n _ pR) (A (lG n _ _ uY) (A (Bool.eq_false_iff.2 g17) (A (A (Bool.eq_false_iff.2 g17) (iw n _ lW)) (R 2 (Bool.eq_false_iff.2 g17) (A (Bool.eq_false_iff.2 g19) (A (A (Bool.eq_false_iff.2 g19) (iU n _ _ zJ)) (A (Bool.eq_false_iff.2 g19) (R 3 g21 (R 8 B1 T)))))))))) [(42,bE true)] ?_;cases h1;exact .lg hj1 []
     ·have h1:=aK g21 h1;obtain⟨k22,CY,h1⟩:=bnd h1;by_cases g23:k22=true
      ·have h1:=aJ g23 h1;refine .a (.call [] (lE 1 (ah k15)) []::(.call [] (bE k16) []::(.b false::(.b false::(.call [] (bE k18) []::(rb 4 false (.call [] (bE k20) []::(rb 3 false (.call [] (bE k22) []::(.b false::(rb 8 true []))))))))))) (A (iF n _ pR) (A (lG n _ _ uY) (A (Bool.eq_false_iff.2 g17) (A (A (Bool.eq_false_iff.2 g17) (iw n _ lW)) (R 2 (Bool.eq_false_iff.2 g17) (A (Bool.eq_false_iff.2 g19) (A (A (Bool.eq_false_iff.2 g19) (iU n _ _ zJ)) (A (Bool.eq_false_iff.2 g19) (A (Bool.eq_false_iff.2 g21) (A (A (Bool.eq_false_iff.2 g21) (iU n _ _ CY)) (A (Bool.eq_false_iff.2 g21) (R 4 g23 (R 4 B1 T))))))))))))) [(42,bE true)] ?_;cases h1;exact .lg hj1 []
      ·have h1:=aK g23 h1;obtain⟨k24,BK,h1⟩:=bnd h1;by_cases Du:k24>100
       ·have h1:=aJ Du h1;refine .a (.call [] (lE 1 (ah k15)) []::(.call [] (bE k16) []::(.b false::(.b false::(.call [] (bE k18) []::(rb 4 false (.call [] (bE k20) []::(rb 3 false (.call [] (bE k22) []::(rb 3 false (.call [] (iE k24) []::(.b false::(.b false::(rb 4 true [])))))))))))))) (A (iF n _ pR) (A (lG n _ _ uY) (A (Bool.eq_false_iff.2 g17) (A (A (Bool.eq_false_iff.2 g17) (iw n _ lW)) (R 2 (Bool.eq_false_iff.2 g17) (A (Bool.eq_false_iff.2 g19) (A (A (Bool.eq_false_iff.2 g19) (iU n _ _ zJ)) (A (Bool.eq_false_iff.2 g19) (A (Bool.eq_false_iff.2 g21) (A (A (Bool.eq_false_iff.2 g21) (iU n _ _ CY)) (A (Bool.eq_false_iff.2 g21) (A (Bool.eq_false_iff.2 g23) (A (A (Bool.eq_false_iff.2 g23) (FN n _ BK)) (R 2 (Bool.eq_false_iff.2 g23) (R 4 (dt Du) T))))))))))))))) [(42,bE true)] ?_;cases h1;exact .lg hj1 []
       ·have h1:=aK Du h1;obtain⟨k26,CZ,h1⟩:=bnd h1;refine .a (.call [] (lE 1 (ah k15)) []::(.call [] (bE k16) []::(.b false::(.b false::(.call [] (bE k18) []::(rb 4 false (.call [] (bE k20) []::(rb 3 false (.call [] (bE k22) []::(rb 3 false (.call [] (iE k24) []::(rb 4 false [.call [] (iE k26) [],.b false,.b false])))))))))))) (A (iF n _ pR) (A (lG n _ _ uY) (A (Bool.eq_false_iff.2 g17) (A (A (Bool.eq_false_iff.2 g17) (iw n _ lW)) (R 2 (Bool.eq_false_iff.2 g17) (A (Bool.eq_false_iff.2 g19) (A (A (Bool.eq_false_iff.2 g19) (iU n _ _ zJ)) (A (Bool.eq_false_iff.2 g19) (A (Bool.eq_false_iff.2 g21) (A (A (Bool.eq_false_iff.2 g21) (iU n _ _ CY)) (A (Bool.eq_false_iff.2 g21) (A (Bool.eq_false_iff.2 g23) (A (A (Bool.eq_false_iff.2 g23) (FN n _ BK)) (R 2 (Bool.eq_false_iff.2 g23) (A (df Du) (A (A (df Du) (JZ n _ CZ)) (R 2 (df Du) T))))))))))))))))) [(42,dE (k26>590))] ?_;cases h1;exact .lg hj1 []
end Go.Ev
