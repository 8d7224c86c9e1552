/- Models of the functions that FnHeadsParts reaches. No condition. -/
import Derived.Test.YtencoplhomeleaaGreatDoorMdHeadsPartsA
import Derived.Test.YtencoplhomeleaaGreatDoorEvTri
import Derived.Test.YtencoplhomeleaaGreatDoorProg
import Derived.KernelRfl
namespace Go.Ev
open Go.Proofs Go.Mx
set_option linter.unusedVariables false
set_option maxRecDepth 10000
def sp_l5Fill:Nat→Form→(List Hit)→Option (Form×Bool)
 | 0,_,_=>none
 | n+1,a0,a1=>Option.bind ((if a0.kind=1 then(sp_l4Find n a1 a0).bind fun k39=>some k39 else some (-1)):Option (Int)) (fun(o1:Int)=>(if o1≥0 then(atI a1 o1).bind fun e3=>(sp_l1Copy n e3.one).bind fun k4=>some (k4,(decide (e3.depth=0))) else(apB 8 [] a0.scopes).bind fun z5=>seqS (forI (fun(s7:Int×(List Form)) (i6:Nat) (x9:Form)=>(seqS ((sp_l4Dots n x9).bind fun k16=>(if k16=true then some (Sum.inr (s7.1,s7.2)) else Option.bind ((if((i6+1:Nat):Int)<(a0.kids.length:Int) then(atI a0.kids ((i6+1:Nat):Int)).bind fun e36=>(sp_l4Dots n e36).bind fun k37=>some k37 else some false):Option (Bool)) (fun(o18:Bool)=>Option.bind ((if o18=true then(sp_l5Count n x9 a1).bind fun k34=>some k34 else some 1):Option (Int)) (fun(o19:Int)=>(if o19<0 then some (Sum.inl (Sum.inl (a0,false))) else iterM n (fun(s21:Int×Int×(List Form))=>((if s21.2.1<o19 then Option.bind ((if o18=true then(sp_l5Nth n x9 a1 s21.2.1).bind fun k32=>some k32 else some a1):Option (List Hit)) (fun(o24:List Hit)=>(sp_l5Fill n x9 o24).bind fun k25=>(sp_l1Count n k25.1).bind fun k26=>Option.bind ((if(!k25.2)=true then some true else some (decide ((w64 (s21.1+k26))>400))):Option (Bool)) (fun(o27:Bool)=>(if o27=true then some (Sum.inl (Sum.inl (Sum.inl (a0,false)))) else(apB 80 s21.2.2 [k25.1]).bind fun z29=>some (Sum.inr ((w64 (s21.1+k26)),(w64 (s21.2.1+1)),z29))))) else some (Sum.inl (Sum.inr (s21.1,s21.2.2)))):Option ((((Form×Bool)⊕(Int×(List Form)))⊕(Int×(List Form)))⊕(Int×Int×(List Form))))) (s7.1,0,s7.2))))):Option (((Form×Bool)⊕(Int×(List Form)))⊕(Int×(List Form)))) (fun(o15:Int×(List Form))=>some (Sum.inr (o15.1,o15.2))):Option ((Form×Bool)⊕(Int×(List Form))))) 0 a0.kids (0,[])) (fun(s7:Int×(List Form))=>some ((⟨a0.kind,a0.name,a0.n,z5,s7.2⟩:Form),true))))
theorem w_sp_l5Fill (n:Nat):∀(a0:Form) (a1:List Hit) {r:Form×Bool},sp_l5Fill n a0 a1=some r→SCall X.E 306 [aE (kForm a0),lE 12 (ksHit a1)] [] (.tup [aE (kForm r.1),bE r.2]) []:=by
 induction n with
 | zero=>intro a0 a1 r h; cases h
 | succ n ih=>
  intro a0 a1 r h0
  rw[sp_l5Fill] at h0
  refine .n Tryz.func306 (fun L ks low K hl hL hlen hK=>?_)
  refine .af [] T [(2,pw 2),(4,pw 4)] [.o 2 (.cells ((kForm a0).map .d)),.o 4 (.cells [iE 0,sE [],iE 0,fE 1 (ksInt []),fE 5 (ksForm [])])] ?_
  refine .a [] T [(6,iE (-1))] ?_
  refine .a [] T [(18,dE (a0.kind=1))] ?_
  refine .bP h0 rfl [1,2,4] (fun o1=>[(6,iE o1)]) n1 n1 (fun o1 h0=>?_) (fun y1 h1 hj1=>?_)
  ·refine .a [] T [(23,dE (o1≥0))] ?_
   refine .jP h0 (fun hc2 h0=>?_) (fun hc2 h0=>?_)
   ·obtain⟨e3,he3,h0⟩:=bnd h0
    obtain⟨k4,hk4,h0⟩:=bnd h0
    refine .ad mixed [(2,[.cs (kHit e3)]),(5,[.call [] (aE (kForm k4)) []]),(8,[.cs (kHit e3)])] [] (A (dHit.idx he3) (A (w_sp_l1Copy n _ hk4) (A (dHit.idx he3) T))) [(5,dE (e3.depth=0))] [.o 4 (.cells ((kForm k4).map .d))] [] ?_
    cases h0
    exact .rt hK
   ·obtain⟨z5,hz5,h0⟩:=bnd h0
    refine .ad mixed [(6,[.sv (ksInt [])]),(9,[.sv (ksInt z5)])] [] (A (dInt.lit []) (A (dInt.ap hz5) T)) [(7,pw 7)] [.o 100045 (.tok (ksInt z5).length 3),.o 7 (.cells [iE a0.kind,sE a0.name,iE a0.n,.gs (.own 100045) 1 (ksInt z5),fE 5 (ksForm [])])] [] ?_
    refine .a [] T [(8,iE 0)] ?_
    refine .a [] T [(9,iE 0)] ?_
    refine .oc 7 4 100126 32 (by kernel_rfl) ?_
    refine .lI h0 rfl [1,2,4,7] (fun i6 s7=>[(8,iE s7.1),(9,iE (i6:Int))]) (fun i6 s7=>[.c 7 4 (.gs (.own 100126) 5 (ksForm s7.2)),.o 100126 (.tok (ksForm s7.2).length 32)]) n2 [] (by kernel_rfl) (fun i6 s7 q8 hd10 hi12 h0=>?_)
    refine .a [.v (a0.kids.length:Int)] (A (dForm.len' a0.kids) T) [(49,lE 5 (ksForm a0.kids)),(51,dE ((i6:Int)<(a0.kids.length:Int)))] ?_
    refine .sn 49 dForm a0.kids (by kernel_rfl) (fun hb13=>?_)
    refine .lc hd10 rfl (by kernel_rfl) (fun x9 q82 hc14 hx9 hd11 hd11l=>?_) (fun hc14=>?_)
    ·subst hc14
     obtain⟨y1,h1,hw1,hn1⟩:=forI_cons h0
     refine .bSB h1 rfl [1,2,4,7,9] (fun o15=>[(8,iE o15.1)]) (fun o15=>[.c 7 4 (.gs (.own 100126) 5 (ksForm o15.2)),.o 100126 (.tok (ksForm o15.2).length 32)]) n1 (fun o15 h1=>?_) (fun y2 h2 hj2 hw2=>?_)
     ·refine .a [.v ((i6+1:Nat):Int)] (A (wn (i:=i6) (by omega)) T) [(9,iE ((i6+1:Nat):Int))] ?_
      cases h1
      exact .nL rfl (i6+1) _ hd11 hd11l (hn1 _ rfl) [] (by kernel_rfl)
     ·obtain⟨k16,hk16,h2⟩:=bnd h2
      refine .a [.cs (kForm x9),.call [] (bE k16) []] (A (dForm.idn hx9) (A (w_sp_l4Dots n _ hk16) T)) [(59,bE k16)] ?_
      refine .jT h2 (fun hc17 h2=>?_) (fun hc17 h2=>?_)
      ·cases h2
       exact .lg (hj2 _ rfl) []
      ·refine .a [] T [(10,iE 1)] ?_
       refine .bP h2 rfl [1,2,4,7,8,9,10] (fun o18=>[(11,bE o18)]) n1 n1 (fun o18 h2=>?_) (fun y3 h3 hj3=>?_)
       ·refine .a [] T [(75,bE o18)] ?_
        refine .bP h2 rfl [1,2,4,7,8,9,11] (fun o19=>[(10,iE o19)]) n1 n1 (fun o19 h2=>?_) (fun y3 h3 hj3=>?_)
        ·refine .a [] T [(84,dE (o19<0))] ?_
         refine .jP h2 (fun hc20 h2=>?_) (fun hc20 h2=>?_)
         ·refine .af [] T [(5,bE false)] [.o 4 (.cells ((kForm a0).map .d))] ?_
          cases h2
          cases hw2 _ rfl
          cases hw1 _ rfl
          exact .rt hK
         ·refine .a [] T [(12,iE 0)] ?_
          refine .it h2 rfl [1,2,4,7,9,10,11] (fun s21=>[(8,iE s21.1),(12,iE s21.2.1)]) (fun s21=>[.c 7 4 (.gs (.own 100126) 5 (ksForm s21.2.2)),.o 100126 (.tok (ksForm s21.2.2).length 32)]) n1 [] (by kernel_rfl) (fun nk22 s21 h2=>?_)
          obtain⟨y3,h3,hw3,hn3⟩:=iter_cons h2
          refine .a [] T [(88,dE (s21.2.1<o19))] ?_
          refine .jP h3 (fun hc23 h3=>?_) (fun hc23 h3=>?_)
          ·refine .a [] T [(13,lE 12 (ksHit a1))] ?_
           refine .a [] T [(92,bE o18)] ?_
           refine .bP h3 rfl [1,2,4,7,8,9,10,11,12] (fun o24=>[(13,lE 12 (ksHit o24))]) n1 n1 (fun o24 h3=>?_) (fun y4 h4 hj4=>?_)
           ·obtain⟨k25,hk25,h3⟩:=bnd h3
            refine .af [.cs (kForm x9),.call [] (.tup [aE (kForm k25.1),bE k25.2]) []] (A (dForm.idn hx9) (A (ih _ _ hk25) T)) [(14,pw 14),(15,bE k25.2)] [.o 14 (.cells ((kForm k25.1).map .d))] ?_
            obtain⟨k26,hk26,h3⟩:=bnd h3
            refine .a [.call [] (iE k26) [],.pl] (A (w_sp_l1Count n _ hk26) T) [(8,iE (w64 (s21.1+k26)))] ?_
            refine .bP h3 rfl [1,2,4,7,8,9,10,11,12,14] (fun o27=>[(120,bE o27)]) n1 n1 (fun o27 h3=>?_) (fun y4 h4 hj4=>?_)
            ·refine .jT h3 (fun hc28 h3=>?_) (fun hc28 h3=>?_)
             ·refine .af [] T [(5,bE false)] [.o 4 (.cells ((kForm a0).map .d))] ?_
              cases h3
              cases hw3 _ rfl
              cases hw2 _ rfl
              cases hw1 _ rfl
              exact .rt hK
             ·obtain⟨z29,hz29,h3⟩:=bnd h3
              refine .aq [.sv (ksForm [k25.1]),.sv (ksForm z29)] [((ksForm s21.2.2).length:Int)] (A (dForm.lit [k25.1]) (A (dForm.ap hz29) T)) [] [.c 7 4 (.gs (.own 100126) 5 (ksForm z29)),.o 100126 (.tok (ksForm z29).length 32)] [] ?_
              refine .a [.pl] T [(12,iE (w64 (s21.2.1+1)))] ?_
              cases h3
              refine .kp [1,2,4,7,8,9,10,11,12] [] ?_
              refine .dr 14 (by kernel_rfl) ?_
              exact .nI rfl _ (hn3 _ rfl) [] (by kernel_rfl)
            ·by_cases g30:(!k25.2)=true
             ·have h4:=iteP g30 h4
              refine .a (rb 3 true []) (R 3 g30 T) [(120,bE true)] ?_
              cases h4
              exact .lg hj4 []
             ·have h4:=iteN g30 h4
              refine .a (rb 3 false []) (R 3 (Bool.eq_false_iff.2 g30) T) [(120,dE ((w64 (s21.1+k26))>400))] ?_
              cases h4
              exact .lg hj4 []
           ·refine .jT h4 (fun hc31 h4=>?_) (fun hc31 h4=>?_)
            ·obtain⟨k32,hk32,h4⟩:=bnd h4
             refine .a [.cs (kForm x9),.call [] (lE 12 (ksHit k32)) []] (A (dForm.idn hx9) (A (w_sp_l5Nth n _ _ _ hk32) T)) [(13,lE 12 (ksHit k32))] ?_
             cases h4
             exact .lg hj4 []
            ·cases h4
             exact .lg hj4 []
          ·cases h3
           cases hw3 _ rfl
           exact .lg (hj2 _ rfl) []
        ·refine .jT h3 (fun hc33 h3=>?_) (fun hc33 h3=>?_)
         ·obtain⟨k34,hk34,h3⟩:=bnd h3
          refine .a [.cs (kForm x9),.call [] (iE k34) []] (A (dForm.idn hx9) (A (w_sp_l5Count n _ _ hk34) T)) [(10,iE k34)] ?_
          cases h3
          exact .lg hj3 []
         ·cases h3
          exact .lg hj3 []
       ·by_cases g35:((i6+1:Nat):Int)<(a0.kids.length:Int)
        ·have h3:=iteP g35 h3
         obtain⟨e36,he36,h3⟩:=bnd h3
         obtain⟨k37,hk37,h3⟩:=bnd h3
         refine .a (.v ((i6+1:Nat):Int)::(.v (a0.kids.length:Int)::(rb 4 true [.v ((i6+1:Nat):Int),.b true,.cs (kForm e36),.b true,.b true,.call [] (bE k37) [],.b true]))) (A (wn (i:=i6) (by omega)) (A (dForm.len' a0.kids) (R 3 (dt g35) (A (A (dt g35) (wn (i:=i6) (by omega))) (A (A (dt g35) (dForm.idx he36)) (A (dt g35) (A (A (dt g35) (w_sp_l4Dots n _ hk37)) (A (dt g35) T)))))))) [(11,bE k37)] ?_
         cases h3
         exact .lg hj3 []
        ·have h3:=iteN g35 h3
         refine .a (.v ((i6+1:Nat):Int)::(.v (a0.kids.length:Int)::(rb 8 false []))) (A (wn (i:=i6) (by omega)) (A (dForm.len' a0.kids) (R 8 (df g35) T))) [(11,bE false)] ?_
         cases h3
         exact .lg hj3 []
    ·subst hc14
     have h0:=forI_nil h0
     refine .af [] T [(5,bE true)] [.o 4 (.cells [iE a0.kind,sE a0.name,iE a0.n,.gs (.own 100045) 1 (ksInt z5),.gs (.own 100126) 5 (ksForm s7.2)])] ?_
     cases h0
     exact .rt hK
  ·refine .jP h1 (fun hc38 h1=>?_) (fun hc38 h1=>?_)
   ·obtain⟨k39,hk39,h1⟩:=bnd h1
    refine .a [.call [] (iE k39) []] (A (w_sp_l4Find n _ _ hk39) T) [(6,iE k39)] ?_
    cases h1
    exact .lg hj1 []
   ·cases h1
    exact .lg hj1 []
def sp_ApplyRules (n:Nat) (a0:List Bind) (a1:List Rule) (a2:List Form) (a3:Form):Option (Form×Bool):=
 (sp_l15OwnListRule n a1).bind fun k1=>(sp_FirstRule n a0 k1 a2 a3).bind fun k2=>(if(!k2.2)=true then some ((⟨0,[],0,[],[]⟩:Form),false) else(atI k1 k2.1).bind fun e4=>(sp_l4Match n a0 e4.pattern a2 a3).bind fun k5=>(sp_l5Fill n e4.template k5.1).bind fun k6=>Option.bind ((if(!k6.2)=true then some true else(sp_FormValid n k6.1).bind fun k10=>some (!k10)):Option (Bool)) (fun(o7:Bool)=>(if o7=true then some ((⟨0,[],0,[],[]⟩:Form),false) else some (k6.1,true))))
theorem w_sp_ApplyRules (n:Nat):∀(a0:List Bind) (a1:List Rule) (a2:List Form) (a3:Form) {r:Form×Bool},sp_ApplyRules n a0 a1 a2 a3=some r→SCall X.E 296 [lE 3 (ksBind a0),lE 10 (ksRule a1),lE 5 (ksForm a2),aE (kForm a3)] [] (.tup [aE (kForm r.1),bE r.2]) []:=by
 intro a0 a1 a2 a3 r h0
 rw[sp_ApplyRules] at h0
 refine .n Tryz.func296 (fun L ks low K hl hL hlen hK=>?_)
 refine .af [] T [(7,pw 7),(8,pw 8)] [.o 7 (.cells ((kForm a3).map .d)),.o 8 (.cells [iE 0,sE [],iE 0,fE 1 (ksInt []),fE 5 (ksForm [])])] ?_
 obtain⟨k1,hk1,h0⟩:=bnd h0
 refine .a [.call [] (lE 10 (ksRule k1)) []] (A (w_sp_l15OwnListRule n _ hk1) T) [(1,lE 10 (ksRule k1))] ?_
 obtain⟨k2,hk2,h0⟩:=bnd h0
 refine .a [.call [] (.tup [iE k2.1,bE k2.2]) []] (A (w_sp_FirstRule n _ _ _ _ hk2) T) [(10,iE k2.1),(11,bE k2.2)] ?_
 refine .a [] T [(27,bE (!k2.2))] ?_
 refine .jT h0 (fun hc3 h0=>?_) (fun hc3 h0=>?_)
 ·refine .a [] T [(9,bE false)] ?_
  cases h0
  exact .rt hK
 ·obtain⟨e4,he4,h0⟩:=bnd h0
  obtain⟨k5,hk5,h0⟩:=bnd h0
  refine .ad mixed [(3,[.cs (kRule e4)]),(8,[.call [] (.tup [lE 12 (ksHit k5.1),bE k5.2]) []])] [] (A (dRule.idx he4) (A (w_sp_l4Match n _ _ _ _ hk5) T)) [(12,lE 12 (ksHit k5.1))] [] [] ?_
  obtain⟨k6,hk6,h0⟩:=bnd h0
  refine .af [.cs (kRule e4),.call [] (.tup [aE (kForm k6.1),bE k6.2]) []] (A (dRule.idx he4) (A (w_sp_l5Fill n _ _ hk6) T)) [(14,pw 14),(15,bE k6.2)] [.o 14 (.cells ((kForm k6.1).map .d))] ?_
  refine .bP h0 rfl [8,14] (fun o7=>[(57,bE o7)]) n1 n1 (fun o7 h0=>?_) (fun y1 h1 hj1=>?_)
  ·refine .jT h0 (fun hc8 h0=>?_) (fun hc8 h0=>?_)
   ·refine .a [] T [(9,bE false)] ?_
    cases h0
    exact .rt hK
   ·refine .af [] T [(9,bE true)] [.o 8 (.cells ((kForm k6.1).map .d))] ?_
    cases h0
    exact .rt hK
  ·by_cases g9:(!k6.2)=true
   ·have h1:=iteP g9 h1
    refine .a (rb 4 true []) (R 4 g9 T) [(57,bE true)] ?_
    cases h1
    exact .lg hj1 []
   ·have h1:=iteN g9 h1
    obtain⟨k10,hk10,h1⟩:=bnd h1
    refine .a [.b false,.b false,.call [] (bE k10) [],.b false,.b false] (A (Bool.eq_false_iff.2 g9) (A (A (Bool.eq_false_iff.2 g9) (w_sp_FormValid n _ hk10)) (R 2 (Bool.eq_false_iff.2 g9) T))) [(57,bE (!k10))] ?_
    cases h1
    exact .lg hj1 []
def sp_l2Put (n:Nat) (a0:List Int) (a1:Int):Option (List Int):=
 (sp_l2Has n a0 a1).bind fun k1=>Option.bind (forL (fun(s3:(List Int)×Bool) (i2:Nat) (x5:Int)=>Option.bind ((if(!s3.2)=true then some (decide (x5>a1)) else some false):Option (Bool)) (fun(o11:Bool)=>Option.bind ((if o11=true then(apB 8 s3.1 [a1]).bind fun z15=>some (z15,true) else some (s3.1,s3.2)):Option ((List Int)×Bool)) (fun(o12:(List Int)×Bool)=>(apB 8 o12.1 [x5]).bind fun z13=>some (z13,o12.2)))) 0 a0 ([],k1)) (fun(s3:(List Int)×Bool)=>Option.bind ((if(!s3.2)=true then(apB 8 s3.1 [a1]).bind fun z19=>some z19 else some s3.1):Option (List Int)) (fun(o17:List Int)=>some o17))
theorem w_sp_l2Put (n:Nat):∀(a0:List Int) (a1:Int) {r:List Int},sp_l2Put n a0 a1=some r→SCall X.E 300 [lE 1 (ksInt a0),iE a1] [] (lE 1 (ksInt r)) []:=by
 intro a0 a1 r h0
 rw[sp_l2Put] at h0
 refine .n Tryz.func300 (fun L ks low K hl hL hlen hK=>?_)
 refine .a [] T [] ?_
 refine .a [.sv (ksInt [])] (A (dInt.lit []) T) [(5,fE 1 (ksInt []))] ?_
 obtain⟨k1,hk1,h0⟩:=bnd h0
 refine .a [.call [] (bE k1) []] (A (w_sp_l2Has n _ _ hk1) T) [(6,bE k1)] ?_
 refine .a [] T [(7,iE 0)] ?_
 refine .ow 5 100031 3 [0,1,6,7] rfl rfl (by kernel_rfl) ?_
 refine .lL h0 rfl [0,1] (fun i2 s3=>[(5,.gs (.own 100031) 1 (ksInt s3.1)),(6,bE s3.2),(7,iE (i2:Int))]) (fun i2 s3=>[.o 100031 (.tok (ksInt s3.1).length 3)]) n2 [] (by kernel_rfl) (fun i2 s3 q4 hd6 hi8 h0=>?_)
 refine .a [.v (a0.length:Int)] (A (dInt.len' a0) T) [(15,dE ((i2:Int)<(a0.length:Int)))] ?_
 refine .sn 0 dInt a0 (by kernel_rfl) (fun hb9=>?_)
 refine .lc hd6 rfl (by kernel_rfl) (fun x5 q42 hc10 hx5 hd7 hd7l=>?_) (fun hc10=>?_)
 ·subst hc10
  obtain⟨y1,h1,hn1⟩:=forL_cons h0
  refine .bP h1 rfl [0,1,5,6,7] (fun o11=>[(27,bE o11)]) n1 n1 (fun o11 h1=>?_) (fun y2 h2 hj2=>?_)
  ·refine .bP h1 rfl [0,1,7] (fun o12=>[(5,.gs (.own 100031) 1 (ksInt o12.1)),(6,bE o12.2)]) (fun o12=>[.o 100031 (.tok (ksInt o12.1).length 3)]) n1 (fun o12 h1=>?_) (fun y2 h2 hj2=>?_)
   ·obtain⟨z13,hz13,h1⟩:=bnd h1
    refine .aq [.cs [.v (.int .i64 x5)],.sv (ksInt [x5]),.sv (ksInt z13)] [((ksInt o12.1).length:Int)] (A (dInt.idn hx5) (A (dInt.lit [x5]) (A (dInt.ap hz13) T))) [(5,.gs (.own 100031) 1 (ksInt z13))] [.o 100031 (.tok (ksInt z13).length 3)] [] ?_
    refine .a [.v ((i2+1:Nat):Int)] (A (wn (i:=i2) (by omega)) T) [(7,iE ((i2+1:Nat):Int))] ?_
    cases h1
    exact .nL rfl (i2+1) _ hd7 hd7l hn1 [] (by kernel_rfl)
   ·refine .jT h2 (fun hc14 h2=>?_) (fun hc14 h2=>?_)
    ·obtain⟨z15,hz15,h2⟩:=bnd h2
     refine .aq [.sv (ksInt [a1]),.sv (ksInt z15)] [((ksInt s3.1).length:Int)] (A (dInt.lit [a1]) (A (dInt.ap hz15) T)) [(5,.gs (.own 100031) 1 (ksInt z15))] [.o 100031 (.tok (ksInt z15).length 3)] [] ?_
     refine .a [] T [(6,bE true)] ?_
     cases h2
     exact .lg hj2 []
    ·cases h2
     exact .lg hj2 []
  ·by_cases g16:(!s3.2)=true
   ·have h2:=iteP g16 h2
    refine .a (rb 3 true (.cs [.v (.int .i64 x5)]::(rb 4 true []))) (R 2 g16 (A (A g16 (dInt.idn hx5)) (R 4 g16 T))) [(27,dE (x5>a1))] ?_
    cases h2
    exact .lg hj2 []
   ·have h2:=iteN g16 h2
    refine .a (rb 7 false []) (R 7 (Bool.eq_false_iff.2 g16) T) [(27,bE false)] ?_
    cases h2
    exact .lg hj2 []
 ·subst hc10
  have h0:=forL_nil h0
  refine .a [] T [(40,bE (!s3.2))] ?_
  refine .bP h0 rfl [] (fun o17=>[(5,.gs (.own 100031) 1 (ksInt o17))]) (fun o17=>[.o 100031 (.tok (ksInt o17).length 3)]) n1 (fun o17 h0=>?_) (fun y1 h1 hj1=>?_)
  ·refine .a [] T [(4,.gs (.own 100031) 1 (ksInt o17))] ?_
   cases h0
   exact .rt hK
  ·refine .jT h1 (fun hc18 h1=>?_) (fun hc18 h1=>?_)
   ·obtain⟨z19,hz19,h1⟩:=bnd h1
    refine .aq [.sv (ksInt [a1]),.sv (ksInt z19)] [((ksInt s3.1).length:Int)] (A (dInt.lit [a1]) (A (dInt.ap hz19) T)) [(5,.gs (.own 100031) 1 (ksInt z19))] [.o 100031 (.tok (ksInt z19).length 3)] [] ?_
    cases h1
    exact .lg hj1 []
   ·cases h1
    exact .lg hj1 []
def sp_l2Take (n:Nat) (a0:List Int) (a1:Int):Option (List Int):=
 Option.bind (forL (fun(s2:List Int) (i1:Nat) (x4:Int)=>Option.bind ((if ¬x4=a1 then(apB 8 s2 [x4]).bind fun z12=>some z12 else some s2):Option (List Int)) (fun(o10:List Int)=>some o10)) 0 a0 []) (fun(s2:List Int)=>some s2)
theorem w_sp_l2Take (n:Nat):∀(a0:List Int) (a1:Int) {r:List Int},sp_l2Take n a0 a1=some r→SCall X.E 299 [lE 1 (ksInt a0),iE a1] [] (lE 1 (ksInt r)) []:=by
 intro a0 a1 r h0
 rw[sp_l2Take] at h0
 refine .n Tryz.func299 (fun L ks low K hl hL hlen hK=>?_)
 refine .a [] T [] ?_
 refine .a [.sv (ksInt [])] (A (dInt.lit []) T) [(5,fE 1 (ksInt []))] ?_
 refine .a [] T [(6,iE 0)] ?_
 refine .ow 5 100026 3 [0,1,6] rfl rfl (by kernel_rfl) ?_
 refine .lL h0 rfl [0,1] (fun i1 s2=>[(5,.gs (.own 100026) 1 (ksInt s2)),(6,iE (i1:Int))]) (fun i1 s2=>[.o 100026 (.tok (ksInt s2).length 3)]) n2 [] (by kernel_rfl) (fun i1 s2 q3 hd5 hi7 h0=>?_)
 refine .a [.v (a0.length:Int)] (A (dInt.len' a0) T) [(11,dE ((i1:Int)<(a0.length:Int)))] ?_
 refine .sn 0 dInt a0 (by kernel_rfl) (fun hb8=>?_)
 refine .lc hd5 rfl (by kernel_rfl) (fun x4 q32 hc9 hx4 hd6 hd6l=>?_) (fun hc9=>?_)
 ·subst hc9
  obtain⟨y1,h1,hn1⟩:=forL_cons h0
  refine .bPB h1 rfl [0,1,6] (fun o10=>[(5,.gs (.own 100026) 1 (ksInt o10))]) (fun o10=>[.o 100026 (.tok (ksInt o10).length 3)]) n1 (fun o10 h1=>?_) (fun y2 h2 hj2=>?_)
  ·refine .a [.v ((i1+1:Nat):Int)] (A (wn (i:=i1) (by omega)) T) [(6,iE ((i1+1:Nat):Int))] ?_
   cases h1
   exact .nL rfl (i1+1) _ hd6 hd6l hn1 [] (by kernel_rfl)
  ·refine .a [.cs [.v (.int .i64 x4)]] (A (dInt.idn hx4) T) [(19,dE (¬x4=a1))] ?_
   refine .jP h2 (fun hc11 h2=>?_) (fun hc11 h2=>?_)
   ·obtain⟨z12,hz12,h2⟩:=bnd h2
    refine .aq [.cs [.v (.int .i64 x4)],.sv (ksInt [x4]),.sv (ksInt z12)] [((ksInt s2).length:Int)] (A (dInt.idn hx4) (A (dInt.lit [x4]) (A (dInt.ap hz12) T))) [(5,.gs (.own 100026) 1 (ksInt z12))] [.o 100026 (.tok (ksInt z12).length 3)] [] ?_
    cases h2
    exact .lg hj2 []
   ·cases h2
    exact .lg hj2 []
 ·subst hc9
  have h0:=forL_nil h0
  refine .a [] T [(4,.gs (.own 100026) 1 (ksInt s2))] ?_
  cases h0
  exact .rt hK
def sp_l2Change:Nat→Form→Int→Int→Option (Form)
 | 0,_,_,_=>none
 | n+1,a0,a1,a2=>(apB 8 [] a0.scopes).bind fun z1=>Option.bind ((if a0.kind=1 then Option.bind ((if a2=2 then some true else(if a2=1 then(sp_l2Has n a0.scopes a1).bind fun k21=>some k21 else some false)):Option (Bool)) (fun(o15:Bool)=>(if o15=true then(sp_l2Take n a0.scopes a1).bind fun k17=>some k17 else(sp_l2Put n a0.scopes a1).bind fun k18=>some k18)) else some z1):Option (List Int)) (fun(o2:List Int)=>Option.bind (forL (fun(s4:List Form) (i3:Nat) (x6:Form)=>(sp_l2Change n x6 a1 a2).bind fun k12=>(apB 80 s4 [k12]).bind fun z13=>some z13) 0 a0.kids []) (fun(s4:List Form)=>some (⟨a0.kind,a0.name,a0.n,o2,s4⟩:Form)))
theorem w_sp_l2Change (n:Nat):∀(a0:Form) (a1:Int) (a2:Int) {r:Form},sp_l2Change n a0 a1 a2=some r→SCall X.E 292 [aE (kForm a0),iE a1,iE a2] [] (aE (kForm r)) []:=by
 induction n with
 | zero=>intro a0 a1 a2 r h; cases h
 | succ n ih=>
  intro a0 a1 a2 r h0
  rw[sp_l2Change] at h0
  refine .n Tryz.func292 (fun L ks low K hl hL hlen hK=>?_)
  refine .af [] T [(3,pw 3),(6,pw 6)] [.o 3 (.cells ((kForm a0).map .d)),.o 6 (.cells [iE 0,sE [],iE 0,fE 1 (ksInt []),fE 5 (ksForm [])])] ?_
  obtain⟨z1,hz1,h0⟩:=bnd h0
  refine .ad mixed [(6,[.sv (ksInt [])]),(9,[.sv (ksInt z1)])] [] (A (dInt.lit []) (A (dInt.ap hz1) T)) [(7,pw 7)] [.o 100018 (.tok (ksInt z1).length 3),.o 7 (.cells [iE a0.kind,sE a0.name,iE a0.n,.gs (.own 100018) 1 (ksInt z1),fE 5 (ksForm [])])] [] ?_
  refine .a [] T [(22,dE (a0.kind=1))] ?_
  refine .bP h0 rfl [1,2,3,6,7] (fun o2=>[]) (fun o2=>[.c 7 3 (lE 1 (ksInt o2))]) n1 (fun o2 h0=>?_) (fun y1 h1 hj1=>?_)
  ·refine .a [] T [(8,iE 0)] ?_
   refine .oc 7 4 100063 32 (by kernel_rfl) ?_
   refine .lL h0 rfl [1,2,3,6,7] (fun i3 s4=>[(8,iE (i3:Int))]) (fun i3 s4=>[.c 7 4 (.gs (.own 100063) 5 (ksForm s4)),.o 100063 (.tok (ksForm s4).length 32)]) n2 [] (by kernel_rfl) (fun i3 s4 q5 hd7 hi9 h0=>?_)
   refine .a [.v (a0.kids.length:Int)] (A (dForm.len' a0.kids) T) [(47,lE 5 (ksForm a0.kids)),(49,dE ((i3:Int)<(a0.kids.length:Int)))] ?_
   refine .sn 47 dForm a0.kids (by kernel_rfl) (fun hb10=>?_)
   refine .lc hd7 rfl (by kernel_rfl) (fun x6 q52 hc11 hx6 hd8 hd8l=>?_) (fun hc11=>?_)
   ·subst hc11
    obtain⟨y1,h1,hn1⟩:=forL_cons h0
    obtain⟨k12,hk12,h1⟩:=bnd h1
    obtain⟨z13,hz13,h1⟩:=bnd h1
    refine .ad mixed [(5,[.cs (kForm x6)]),(9,[.call [] (aE (kForm k12)) []]),(10,[.sv (ksForm [k12])]),(11,[.sv (ksForm z13)])] [((ksForm s4).length:Int)] (A (dForm.idn hx6) (A (ih _ _ _ hk12) (A (dForm.lit [k12]) (A (dForm.ap hz13) T)))) [] [.c 7 4 (.gs (.own 100063) 5 (ksForm z13)),.o 100063 (.tok (ksForm z13).length 32)] [] ?_
    refine .a [.v ((i3+1:Nat):Int)] (A (wn (i:=i3) (by omega)) T) [(8,iE ((i3+1:Nat):Int))] ?_
    cases h1
    exact .nL rfl (i3+1) _ hd8 hd8l hn1 [] (by kernel_rfl)
   ·subst hc11
    have h0:=forL_nil h0
    refine .af [] T [] [.o 6 (.cells [iE a0.kind,sE a0.name,iE a0.n,lE 1 (ksInt o2),.gs (.own 100063) 5 (ksForm s4)])] ?_
    cases h0
    exact .rt hK
  ·refine .jP h1 (fun hc14 h1=>?_) (fun hc14 h1=>?_)
   ·refine .bP h1 rfl [1,2,3,6,7] (fun o15=>[(34,bE o15)]) n1 n1 (fun o15 h1=>?_) (fun y2 h2 hj2=>?_)
    ·refine .jT h1 (fun hc16 h1=>?_) (fun hc16 h1=>?_)
     ·obtain⟨k17,hk17,h1⟩:=bnd h1
      refine .af [.call [] (lE 1 (ksInt k17)) []] (A (w_sp_l2Take n _ _ hk17) T) [] [.c 7 3 (lE 1 (ksInt k17))] ?_
      cases h1
      exact .lg hj1 []
     ·obtain⟨k18,hk18,h1⟩:=bnd h1
      refine .af [.call [] (lE 1 (ksInt k18)) []] (A (w_sp_l2Put n _ _ hk18) T) [] [.c 7 3 (lE 1 (ksInt k18))] ?_
      cases h1
      exact .lg hj1 []
    ·by_cases g19:a2=2
     ·have h2:=iteP g19 h2
      refine .a (rb 5 true []) (R 5 (dt g19) T) [(34,bE true)] ?_
      cases h2
      exact .lg hj2 []
     ·have h2:=iteN g19 h2
      by_cases g20:a2=1
      ·have h2:=iteP g20 h2
       obtain⟨k21,hk21,h2⟩:=bnd h2
       refine .a (rb 3 false (rb 4 true [.call [] (bE k21) [],.b false,.b true,.b false])) (R 3 (df g19) (R 3 (dt g20) (A (A (dt g20) (w_sp_l2Has n _ _ hk21)) (A (A (df g19) (dt g20)) (A (df g19) T))))) [(34,bE k21)] ?_
       cases h2
       exact .lg hj2 []
      ·have h2:=iteN g20 h2
       refine .a (rb 10 false []) (R 3 (df g19) (R 4 (df g20) (A (A (df g19) (df g20)) (A (df g19) T)))) [(34,bE false)] ?_
       cases h2
       exact .lg hj2 []
   ·cases h1
    refine .fg 7 [3] ?_
    exact .lg hj1 []
def sp_l7Macro (n:Nat) (a0:Expansion) (a1:Int):Option (Int):=
 seqS (forI (fun(s2:Unit) (i1:Nat) (x4:Macro)=>((if x4.id=a1 then some (Sum.inl (i1:Int)) else some (Sum.inr ())):Option (Int⊕Unit))) 0 a0.macros ()) (fun(s2:Unit)=>some (-1))
theorem w_sp_l7Macro (n:Nat):∀(a0:Expansion) (a1:Int) {r:Int},sp_l7Macro n a0 a1=some r→SCall X.E 280 [aE (kExpansion a0),iE a1] [] (iE r) []:=by
 intro a0 a1 r h0
 rw[sp_l7Macro] at h0
 refine .n Tryz.func280 (fun L ks low K hl hL hlen hK=>?_)
 refine .af [] T [(2,pw 2)] [.o 2 (.cells ((kExpansion a0).map .d))] ?_
 refine .a [] T [(5,iE 0)] ?_
 refine .lI h0 rfl [1,2] (fun i1 s2=>[(5,iE (i1:Int))]) n2 n2 [] (by kernel_rfl) (fun i1 s2 q3 hd5 hi7 h0=>?_)
 refine .a [.v (a0.macros.length:Int)] (A (dMacro.len' a0.macros) T) [(8,lE 3 (ksMacro a0.macros)),(10,dE ((i1:Int)<(a0.macros.length:Int)))] ?_
 refine .sn 8 dMacro a0.macros (by kernel_rfl) (fun hb8=>?_)
 refine .lc hd5 rfl (by kernel_rfl) (fun x4 q32 hc9 hx4 hd6 hd6l=>?_) (fun hc9=>?_)
 ·subst hc9
  obtain⟨y1,h1,hw1,hn1⟩:=forI_cons h0
  refine .a [.cs (kMacro x4)] (A (dMacro.idn hx4) T) [(20,dE (x4.id=a1))] ?_
  refine .jP h1 (fun hc10 h1=>?_) (fun hc10 h1=>?_)
  ·refine .a [] T [(4,iE (i1:Int))] ?_
   cases h1
   cases hw1 _ rfl
   exact .rt hK
  ·refine .a [.v ((i1+1:Nat):Int)] (A (wn (i:=i1) (by omega)) T) [(5,iE ((i1+1:Nat):Int))] ?_
   cases h1
   exact .nL rfl (i1+1) _ hd6 hd6l (hn1 _ rfl) [] (by kernel_rfl)
 ·subst hc9
  have h0:=forI_nil h0
  refine .a [] T [(4,iE (-1))] ?_
  cases h0
  exact .rt hK
def sp_l7Scope (n:Nat) (a0:Expansion):Option (Expansion×Bool):=
 some ((⟨a0.binds,a0.macros,(w64 (a0.scope+1)),a0.id,a0.steps⟩:Expansion),(decide ((w64 (a0.scope+1))≤99)))
theorem w_sp_l7Scope (n:Nat):∀(a0:Expansion) {r:Expansion×Bool},sp_l7Scope n a0=some r→SCall X.E 291 [aE (kExpansion a0)] [] (.tup [aE (kExpansion r.1),bE r.2]) []:=by
 intro a0 r h0
 rw[sp_l7Scope] at h0
 refine .n Tryz.func291 (fun L ks low K hl hL hlen hK=>?_)
 refine .af [] T [(1,pw 1),(2,pw 2)] [.o 1 (.cells ((kExpansion a0).map .d)),.o 2 (.cells [fE 3 (ksBind []),fE 3 (ksMacro []),iE 0,iE 0,iE 0])] ?_
 refine .af [.pl] T [] [.c 1 2 (iE (w64 (a0.scope+1)))] ?_
 refine .ad mixed [] [] T [(3,dE ((w64 (a0.scope+1))≤99))] [.o 2 (.cells [lE 3 (ksBind a0.binds),lE 3 (ksMacro a0.macros),iE (w64 (a0.scope+1)),iE a0.id,iE a0.steps])] [] ?_
 cases h0
 exact .rt hK
def sp_l7Step (n:Nat) (a0:Expansion) (a1:Form) (a2:Int) (a3:Int):Option (Expansion×Form×Int):=
 (if a0.steps≥a3 then some (a0,(⟨0,[],0,[],[]⟩:Form),4) else(sp_l7Scope n a0).bind fun k2=>(if(!k2.2)=true then some (k2.1,(⟨0,[],0,[],[]⟩:Form),4) else(sp_l7Macro n (⟨k2.1.binds,k2.1.macros,k2.1.scope,k2.1.id,(w64 (k2.1.steps+1))⟩:Expansion) a2).bind fun k4=>(atI k2.1.macros k4).bind fun e5=>(sp_l2Change n a1 k2.1.scope 1).bind fun k6=>(sp_FormValid n k6).bind fun k7=>(if(!k7)=true then some ((⟨k2.1.binds,k2.1.macros,k2.1.scope,k2.1.id,(w64 (k2.1.steps+1))⟩:Expansion),(⟨0,[],0,[],[]⟩:Form),4) else(sp_FirstRule n k2.1.binds e5.rules e5.literals k6).bind fun k9=>(if(!k9.2)=true then some ((⟨k2.1.binds,k2.1.macros,k2.1.scope,k2.1.id,(w64 (k2.1.steps+1))⟩:Expansion),(⟨0,[],0,[],[]⟩:Form),3) else(sp_ApplyRules n k2.1.binds e5.rules e5.literals k6).bind fun k11=>(if(!k11.2)=true then some ((⟨k2.1.binds,k2.1.macros,k2.1.scope,k2.1.id,(w64 (k2.1.steps+1))⟩:Expansion),(⟨0,[],0,[],[]⟩:Form),4) else(sp_l2Change n k11.1 k2.1.scope 1).bind fun k13=>(sp_FormValid n k13).bind fun k14=>(if(!k14)=true then some ((⟨k2.1.binds,k2.1.macros,k2.1.scope,k2.1.id,(w64 (k2.1.steps+1))⟩:Expansion),(⟨0,[],0,[],[]⟩:Form),4) else some ((⟨k2.1.binds,k2.1.macros,k2.1.scope,k2.1.id,(w64 (k2.1.steps+1))⟩:Expansion),k13,0)))))))
theorem w_sp_l7Step (n:Nat):∀(a0:Expansion) (a1:Form) (a2:Int) (a3:Int) {r:Expansion×Form×Int},sp_l7Step n a0 a1 a2 a3=some r→SCall X.E 284 [aE (kExpansion a0),aE (kForm a1),iE a2,iE a3] [] (.tup [aE (kExpansion r.1),aE (kForm r.2.1),iE r.2.2]) []:=by
 intro a0 a1 a2 a3 r h0
 rw[sp_l7Step] at h0
 refine .n Tryz.func284 (fun L ks low K hl hL hlen hK=>?_)
 refine .af [] T [(4,pw 4),(5,pw 5),(8,pw 8),(9,pw 9)] [.o 4 (.cells ((kExpansion a0).map .d)),.o 5 (.cells ((kForm a1).map .d)),.o 8 (.cells [fE 3 (ksBind []),fE 3 (ksMacro []),iE 0,iE 0,iE 0]),.o 9 (.cells [iE 0,sE [],iE 0,fE 1 (ksInt []),fE 5 (ksForm [])])] ?_
 refine .a [] T [(22,dE (a0.steps≥a3))] ?_
 refine .jP h0 (fun hc1 h0=>?_) (fun hc1 h0=>?_)
 ·refine .af [] T [(10,iE 4)] [.o 8 (.cells ((kExpansion a0).map .d))] ?_
  cases h0
  exact .rt hK
 ·obtain⟨k2,hk2,h0⟩:=bnd h0
  refine .af [.call [] (.tup [aE (kExpansion k2.1),bE k2.2]) []] (A (w_sp_l7Scope n _ hk2) T) [(11,bE k2.2)] [.o 4 (.cells ((kExpansion k2.1).map .d))] ?_
  refine .a [] T [(31,bE (!k2.2))] ?_
  refine .jT h0 (fun hc3 h0=>?_) (fun hc3 h0=>?_)
  ·refine .af [] T [(10,iE 4)] [.o 8 (.cells ((kExpansion k2.1).map .d))] ?_
   cases h0
   exact .rt hK
  ·refine .af [.pl] T [] [.c 4 4 (iE (w64 (k2.1.steps+1)))] ?_
   obtain⟨k4,hk4,h0⟩:=bnd h0
   obtain⟨e5,he5,h0⟩:=bnd h0
   refine .ad mixed [(4,[.call [] (iE k4) []]),(5,[.cs (kMacro e5)])] [] (A (w_sp_l7Macro n _ _ hk4) (A (dMacro.idx he5) T)) [(12,pw 12)] [.o 12 (.cells ((kMacro e5).map .d))] [] ?_
   obtain⟨k6,hk6,h0⟩:=bnd h0
   refine .af [.call [] (aE (kForm k6)) []] (A (w_sp_l2Change n _ _ _ hk6) T) [(13,pw 13)] [.o 13 (.cells ((kForm k6).map .d))] ?_
   obtain⟨k7,hk7,h0⟩:=bnd h0
   refine .a [.call [] (bE k7) []] (A (w_sp_FormValid n _ hk7) T) [(51,bE (!k7))] ?_
   refine .jT h0 (fun hc8 h0=>?_) (fun hc8 h0=>?_)
   ·refine .af [] T [(10,iE 4)] [.o 8 (.cells [lE 3 (ksBind k2.1.binds),lE 3 (ksMacro k2.1.macros),iE k2.1.scope,iE k2.1.id,iE (w64 (k2.1.steps+1))])] ?_
    cases h0
    exact .rt hK
   ·obtain⟨k9,hk9,h0⟩:=bnd h0
    refine .a [.call [] (.tup [iE k9.1,bE k9.2]) []] (A (w_sp_FirstRule n _ _ _ _ hk9) T) [(15,bE k9.2)] ?_
    refine .a [] T [(66,bE (!k9.2))] ?_
    refine .jT h0 (fun hc10 h0=>?_) (fun hc10 h0=>?_)
    ·refine .af [] T [(10,iE 3)] [.o 8 (.cells [lE 3 (ksBind k2.1.binds),lE 3 (ksMacro k2.1.macros),iE k2.1.scope,iE k2.1.id,iE (w64 (k2.1.steps+1))])] ?_
     cases h0
     exact .rt hK
    ·obtain⟨k11,hk11,h0⟩:=bnd h0
     refine .af [.call [] (.tup [aE (kForm k11.1),bE k11.2]) []] (A (w_sp_ApplyRules n _ _ _ _ hk11) T) [(16,pw 16),(17,bE k11.2)] [.o 16 (.cells ((kForm k11.1).map .d))] ?_
     refine .a [] T [(81,bE (!k11.2))] ?_
     refine .jT h0 (fun hc12 h0=>?_) (fun hc12 h0=>?_)
     ·refine .af [] T [(10,iE 4)] [.o 8 (.cells [lE 3 (ksBind k2.1.binds),lE 3 (ksMacro k2.1.macros),iE k2.1.scope,iE k2.1.id,iE (w64 (k2.1.steps+1))])] ?_
      cases h0
      exact .rt hK
     ·obtain⟨k13,hk13,h0⟩:=bnd h0
      refine .af [.call [] (aE (kForm k13)) []] (A (w_sp_l2Change n _ _ _ hk13) T) [(18,pw 18)] [.o 18 (.cells ((kForm k13).map .d))] ?_
      obtain⟨k14,hk14,h0⟩:=bnd h0
      refine .a [.call [] (bE k14) []] (A (w_sp_FormValid n _ hk14) T) [(90,bE (!k14))] ?_
      refine .jT h0 (fun hc15 h0=>?_) (fun hc15 h0=>?_)
      ·refine .af [] T [(10,iE 4)] [.o 8 (.cells [lE 3 (ksBind k2.1.binds),lE 3 (ksMacro k2.1.macros),iE k2.1.scope,iE k2.1.id,iE (w64 (k2.1.steps+1))])] ?_
       cases h0
       exact .rt hK
      ·refine .ad mixed [] [] T [(10,iE 0)] [.o 8 (.cells [lE 3 (ksBind k2.1.binds),lE 3 (ksMacro k2.1.macros),iE k2.1.scope,iE k2.1.id,iE (w64 (k2.1.steps+1))]),.o 9 (.cells ((kForm k13).map .d))] [] ?_
       cases h0
       exact .rt hK
def sp_l7Meaning (n:Nat) (a0:Expansion) (a1:Form):Option (Int×Int):=
 (sp_l3Find n a0.binds a1).bind fun k1=>(if k1.2=0 then some (0,0) else(if k1.2=2 then some (4,0) else(atI a0.binds k1.1).bind fun e4=>(if e4.id≤5 then some (1,e4.id) else(sp_l7Macro n a0 e4.id).bind fun k6=>(if k6≥0 then some (2,e4.id) else some (3,e4.id)))))
theorem w_sp_l7Meaning (n:Nat):∀(a0:Expansion) (a1:Form) {r:Int×Int},sp_l7Meaning n a0 a1=some r→SCall X.E 257 [aE (kExpansion a0),aE (kForm a1)] [] (.tup [iE r.1,iE r.2]) []:=by
 intro a0 a1 r h0
 rw[sp_l7Meaning] at h0
 refine .n Tryz.func257 (fun L ks low K hl hL hlen hK=>?_)
 refine .af [] T [(2,pw 2),(3,pw 3)] [.o 2 (.cells ((kExpansion a0).map .d)),.o 3 (.cells ((kForm a1).map .d))] ?_
 obtain⟨k1,hk1,h0⟩:=bnd h0
 refine .a [.call [] (.tup [iE k1.1,iE k1.2]) []] (A (w_sp_l3Find n _ _ hk1) T) [(6,iE k1.1),(7,iE k1.2)] ?_
 refine .a [] T [(16,iE k1.2)] ?_
 refine .a [] T [(17,dE (k1.2=0))] ?_
 refine .jP h0 (fun hc2 h0=>?_) (fun hc2 h0=>?_)
 ·refine .a [] T [(4,iE 0),(5,iE 0)] ?_
  cases h0
  exact .rt hK
 ·refine .a [] T [(19,dE (k1.2=2))] ?_
  refine .jP h0 (fun hc3 h0=>?_) (fun hc3 h0=>?_)
  ·refine .a [] T [(4,iE 4),(5,iE 0)] ?_
   cases h0
   exact .rt hK
  ·obtain⟨e4,he4,h0⟩:=bnd h0
   refine .a [.cs (kBind e4)] (A (dBind.idx he4) T) [(8,iE e4.id)] ?_
   refine .a [] T [(27,dE (e4.id≤5))] ?_
   refine .jP h0 (fun hc5 h0=>?_) (fun hc5 h0=>?_)
   ·refine .a [] T [(4,iE 1),(5,iE e4.id)] ?_
    cases h0
    exact .rt hK
   ·obtain⟨k6,hk6,h0⟩:=bnd h0
    refine .a [.call [] (iE k6) []] (A (w_sp_l7Macro n _ _ hk6) T) [(31,dE (k6≥0))] ?_
    refine .jP h0 (fun hc7 h0=>?_) (fun hc7 h0=>?_)
    ·refine .a [] T [(4,iE 2),(5,iE e4.id)] ?_
     cases h0
     exact .rt hK
    ·refine .a [] T [(4,iE 3),(5,iE e4.id)] ?_
     cases h0
     exact .rt hK
def sp_l7Name (n:Nat) (a0:Expansion) (a1:Form):Option (Expansion×Core×Int):=
 (sp_l7Meaning n a0 a1).bind fun k1=>(if k1.1=0 then some (a0,(⟨2,0,a1.name,0,[],(⟨0,[],0,[],[]⟩:Form),[]⟩:Core),0) else(if k1.1=3 then some (a0,(⟨1,k1.2,[],0,[],(⟨0,[],0,[],[]⟩:Form),[]⟩:Core),0) else(if k1.1=4 then some (a0,(⟨0,0,[],0,[],(⟨0,[],0,[],[]⟩:Form),[]⟩:Core),2) else some (a0,(⟨0,0,[],0,[],(⟨0,[],0,[],[]⟩:Form),[]⟩:Core),5))))
theorem w_sp_l7Name (n:Nat):∀(a0:Expansion) (a1:Form) {r:Expansion×Core×Int},sp_l7Name n a0 a1=some r→SCall X.E 256 [aE (kExpansion a0),aE (kForm a1)] [] (.tup [aE (kExpansion r.1),aE (kCore r.2.1),iE r.2.2]) []:=by
 intro a0 a1 r h0
 rw[sp_l7Name] at h0
 refine .n Tryz.func256 (fun L ks low K hl hL hlen hK=>?_)
 refine .af [] T [(2,pw 2),(3,pw 3),(4,pw 4),(5,pw 5)] [.o 2 (.cells ((kExpansion a0).map .d)),.o 3 (.cells ((kForm a1).map .d)),.o 4 (.cells [fE 3 (ksBind []),fE 3 (ksMacro []),iE 0,iE 0,iE 0]),.o 5 (.cells [iE 0,iE 0,sE [],iE 0,fE 1 (ksInt []),iE 0,sE [],iE 0,fE 1 (ksInt []),fE 5 (ksForm []),fE 11 (ksCore [])])] ?_
 obtain⟨k1,hk1,h0⟩:=bnd h0
 refine .a [.call [] (.tup [iE k1.1,iE k1.2]) []] (A (w_sp_l7Meaning n _ _ hk1) T) [(7,iE k1.1),(8,iE k1.2)] ?_
 refine .a [] T [(15,iE k1.1)] ?_
 refine .a [] T [(16,dE (k1.1=0))] ?_
 refine .jP h0 (fun hc2 h0=>?_) (fun hc2 h0=>?_)
 ·refine .ad mixed [] [] T [(6,iE 0)] [.o 4 (.cells ((kExpansion a0).map .d)),.c 5 0 (iE 2),.c 5 2 (sE a1.name)] [] ?_
  cases h0
  exact .rt hK
 ·refine .a [] T [(22,dE (k1.1=3))] ?_
  refine .jP h0 (fun hc3 h0=>?_) (fun hc3 h0=>?_)
  ·refine .af [] T [(6,iE 0)] [.o 4 (.cells ((kExpansion a0).map .d)),.c 5 0 (iE 1),.c 5 1 (iE k1.2)] ?_
   cases h0
   exact .rt hK
  ·refine .a [] T [(27,dE (k1.1=4))] ?_
   refine .jP h0 (fun hc4 h0=>?_) (fun hc4 h0=>?_)
   ·refine .af [] T [(6,iE 2)] [.o 4 (.cells ((kExpansion a0).map .d))] ?_
    cases h0
    exact .rt hK
   ·refine .af [] T [(6,iE 5)] [.o 4 (.cells ((kExpansion a0).map .d))] ?_
    cases h0
    exact .rt hK
def sp_l7Pairs (n:Nat) (a0:Form):Option ((List Form)×(List Form)×Bool):=
 seqS (forI (fun(s2:(List Form)×(List Form)) (i1:Nat) (x4:Form)=>(Option.bind ((if ¬x4.kind=3 then some true else some (decide (¬(x4.kids.length:Int)=2))):Option (Bool)) (fun(o10:Bool)=>(if o10=true then some (Sum.inl (s2.1,s2.2,false)) else(atI x4.kids 0).bind fun e12=>(apB 80 s2.1 [e12]).bind fun z13=>(atI x4.kids 1).bind fun e14=>(apB 80 s2.2 [e14]).bind fun z15=>some (Sum.inr (z13,z15)))):Option (((List Form)×(List Form)×Bool)⊕((List Form)×(List Form))))) 0 a0.kids ([],[])) (fun(s2:(List Form)×(List Form))=>some (s2.1,s2.2,(decide (a0.kind=3))))
theorem w_sp_l7Pairs (n:Nat):∀(a0:Form) {r:(List Form)×(List Form)×Bool},sp_l7Pairs n a0=some r→SCall X.E 282 [aE (kForm a0)] [] (.tup [lE 5 (ksForm r.1),lE 5 (ksForm r.2.1),bE r.2.2]) []:=by
 intro a0 r h0
 rw[sp_l7Pairs] at h0
 refine .n Tryz.func282 (fun L ks low K hl hL hlen hK=>?_)
 refine .af [] T [(1,pw 1)] [.o 1 (.cells ((kForm a0).map .d))] ?_
 refine .a [.sv (ksForm [])] (A (dForm.lit []) T) [(5,fE 5 (ksForm []))] ?_
 refine .a [.sv (ksForm [])] (A (dForm.lit []) T) [(6,fE 5 (ksForm []))] ?_
 refine .a [] T [(7,iE 0)] ?_
 refine .ow 5 100046 32 [1,6,7] rfl rfl (by kernel_rfl) ?_
 refine .ow 6 100057 32 [1,5,7] rfl rfl (by kernel_rfl) ?_
 refine .lI h0 rfl [1] (fun i1 s2=>[(5,.gs (.own 100046) 5 (ksForm s2.1)),(6,.gs (.own 100057) 5 (ksForm s2.2)),(7,iE (i1:Int))]) (fun i1 s2=>[.o 100046 (.tok (ksForm s2.1).length 32),.o 100057 (.tok (ksForm s2.2).length 32)]) n2 [] (by kernel_rfl) (fun i1 s2 q3 hd5 hi7 h0=>?_)
 refine .a [.v (a0.kids.length:Int)] (A (dForm.len' a0.kids) T) [(12,lE 5 (ksForm a0.kids)),(14,dE ((i1:Int)<(a0.kids.length:Int)))] ?_
 refine .sn 12 dForm a0.kids (by kernel_rfl) (fun hb8=>?_)
 refine .lc hd5 rfl (by kernel_rfl) (fun x4 q32 hc9 hx4 hd6 hd6l=>?_) (fun hc9=>?_)
 ·subst hc9
  obtain⟨y1,h1,hw1,hn1⟩:=forI_cons h0
  refine .bP h1 rfl [1,5,6,7] (fun o10=>[(33,bE o10)]) n1 n1 (fun o10 h1=>?_) (fun y2 h2 hj2=>?_)
  ·refine .jT h1 (fun hc11 h1=>?_) (fun hc11 h1=>?_)
   ·refine .a [] T [(2,.gs (.own 100046) 5 (ksForm s2.1)),(3,.gs (.own 100057) 5 (ksForm s2.2)),(4,bE false)] ?_
    cases h1
    cases hw1 _ rfl
    exact .rt hK
   ·obtain⟨e12,he12,h1⟩:=bnd h1
    obtain⟨z13,hz13,h1⟩:=bnd h1
    refine .aq [.cs (kForm x4),.cs (kForm e12),.sv (ksForm [e12]),.sv (ksForm z13)] [((ksForm s2.1).length:Int)] (A (dForm.idn hx4) (A (dForm.idx he12) (A (dForm.lit [e12]) (A (dForm.ap hz13) T)))) [(5,.gs (.own 100046) 5 (ksForm z13))] [.o 100046 (.tok (ksForm z13).length 32)] [] ?_
    obtain⟨e14,he14,h1⟩:=bnd h1
    obtain⟨z15,hz15,h1⟩:=bnd h1
    refine .aq [.cs (kForm x4),.cs (kForm e14),.sv (ksForm [e14]),.sv (ksForm z15)] [((ksForm s2.2).length:Int)] (A (dForm.idn hx4) (A (dForm.idx he14) (A (dForm.lit [e14]) (A (dForm.ap hz15) T)))) [(6,.gs (.own 100057) 5 (ksForm z15))] [.o 100057 (.tok (ksForm z15).length 32)] [] ?_
    refine .a [.v ((i1+1:Nat):Int)] (A (wn (i:=i1) (by omega)) T) [(7,iE ((i1+1:Nat):Int))] ?_
    cases h1
    exact .nL rfl (i1+1) _ hd6 hd6l (hn1 _ rfl) [] (by kernel_rfl)
  ·by_cases g16:¬x4.kind=3
   ·have h2:=iteP g16 h2
    refine .a (.cs (kForm x4)::(rb 9 true [])) (A (dForm.idn hx4) (R 9 (dt g16) T)) [(33,bE true)] ?_
    cases h2
    exact .lg hj2 []
   ·have h2:=iteN g16 h2
    refine .a (.cs (kForm x4)::(rb 4 false (.cs (kForm x4)::(rb 3 false [.v (x4.kids.length:Int),.b false,.b false])))) (A (dForm.idn hx4) (R 3 (df g16) (A (A (df g16) (dForm.idn hx4)) (R 2 (df g16) (A (A (df g16) (dForm.len' x4.kids)) (R 2 (df g16) T)))))) [(33,dE (¬(x4.kids.length:Int)=2))] ?_
    cases h2
    exact .lg hj2 []
 ·subst hc9
  have h0:=forI_nil h0
  refine .ad mixed [] [] T [(2,.gs (.own 100046) 5 (ksForm s2.1)),(3,.gs (.own 100057) 5 (ksForm s2.2)),(4,dE (a0.kind=3))] [] [] ?_
  cases h0
  exact .rt hK
def sp_BindsValid_v (n:Nat) (a0:List Bind):Option (Bool):=
 iterM n (fun(s1:Int)=>(Option.bind ((if s1<(a0.length:Int) then some (decide (s1≤60)) else some false):Option (Bool)) (fun(o3:Bool)=>(if o3=true then Option.bind ((inB s1 a0.length).bind fun u20=>(a0[(Int.toNat s1)]?).bind fun e21=>(sp_NameValid n e21.name).bind fun k22=>(if(!k22)=true then some true else(inB s1 a0.length).bind fun u24=>(sp_l1Scopes n e21.scopes).bind fun k25=>(if(!k25)=true then some true else(inB s1 a0.length).bind fun u27=>(if e21.id<1 then some true else(inB s1 a0.length).bind fun u29=>some (decide (e21.id>999))))):Option (Bool)) (fun(o5:Bool)=>(if o5=true then some (Sum.inl false) else iterM n (fun(s7:Int)=>((if s7<s1 then Option.bind ((inB s7 a0.length).bind fun u12=>(a0[(Int.toNat s7)]?).bind fun e13=>(inB s1 a0.length).bind fun u14=>(a0[(Int.toNat s1)]?).bind fun e15=>(if e13.name=e15.name then(inB s7 a0.length).bind fun u17=>(inB s1 a0.length).bind fun u18=>(sp_l1Ints n e13.scopes e15.scopes).bind fun k19=>some k19 else some false):Option (Bool)) (fun(o10:Bool)=>(if o10=true then some (Sum.inl (Sum.inl false)) else some (Sum.inr (w64 (s7+1))))) else some (Sum.inl (Sum.inr (w64 (s1+1))))):Option ((Bool⊕Int)⊕Int))) 0)) else some (Sum.inl (decide ((a0.length:Int)≤60))))):Option (Bool⊕Int))) 0
theorem w_sp_BindsValid_v (n:Nat):∀(a0:List Bind) {r:Bool},sp_BindsValid_v n a0=some r→SCall X.E 303 [.vs (.low 0) 3 ((ksBind a0).length)] [some (.vec 248 3 (ksBind a0))] (bE r) [.vec 248 3 (ksBind a0)]:=by
 intro a0 r h0
 rw[sp_BindsValid_v] at h0
 refine .n Tryz.func303 (fun L ks low K hl hL hlen hK=>?_)
 refine .a [] T [] ?_
 refine .a [] T [(3,iE 0)] ?_
 refine .it h0 rfl [0] (fun s1=>[(3,iE s1)]) n1 n1 [] (by kernel_rfl) (fun nk2 s1 h0=>?_)
 obtain⟨y1,h1,hw1,hn1⟩:=iter_cons h0
 refine .bP h1 rfl [0,3] (fun o3=>[(12,bE o3)]) n1 n1 (fun o3 h1=>?_) (fun y2 h2 hj2=>?_)
 ·refine .jT h1 (fun hc4 h1=>?_) (fun hc4 h1=>?_)
  ·refine .bP h1 rfl [0,3] (fun o5=>[(46,bE o5)]) n1 n1 (fun o5 h1=>?_) (fun y2 h2 hj2=>?_)
   ·refine .jT h1 (fun hc6 h1=>?_) (fun hc6 h1=>?_)
    ·refine .a [] T [(2,bE false)] ?_
     cases h1
     cases hw1 _ rfl
     exact .rt hK
    ·refine .a [] T [(4,iE 0)] ?_
     refine .it h1 rfl [0,3] (fun s7=>[(4,iE s7)]) n1 n1 [] (by kernel_rfl) (fun nk8 s7 h1=>?_)
     obtain⟨y2,h2,hw2,hn2⟩:=iter_cons h1
     refine .a [] T [(49,dE (s7<s1))] ?_
     refine .jP h2 (fun hc9 h2=>?_) (fun hc9 h2=>?_)
     ·refine .bP h2 rfl [0,3,4] (fun o10=>[(75,bE o10)]) n1 n1 (fun o10 h2=>?_) (fun y3 h3 hj3=>?_)
      ·refine .jT h2 (fun hc11 h2=>?_) (fun hc11 h2=>?_)
       ·refine .a [] T [(2,bE false)] ?_
        cases h2
        cases hw2 _ rfl
        cases hw1 _ rfl
        exact .rt hK
       ·refine .a [.pl] T [(4,iE (w64 (s7+1)))] ?_
        cases h2
        exact .nI rfl _ (hn2 _ rfl) [] (by kernel_rfl)
      ·obtain⟨u12,hu12,h3⟩:=bnd h3
       obtain⟨e13,he13,h3⟩:=bnd h3
       obtain⟨u14,hu14,h3⟩:=bnd h3
       obtain⟨e15,he15,h3⟩:=bnd h3
       by_cases g16:e13.name=e15.name
       ·have h3:=iteP g16 h3
        obtain⟨u17,hu17,h3⟩:=bnd h3
        obtain⟨u18,hu18,h3⟩:=bnd h3
        obtain⟨k19,hk19,h3⟩:=bnd h3
        refine .ad mixed ((4,[.cs (kBind e13)])::((9,[.cs (kBind e15)])::(qb 12 4 true ((16,[.b true,.cs (kBind e13)])::(qb 17 4 true [(21,[.b true,.cs (kBind e15)]),(22,[.b true,.call [] (bE k19) []]),(23,[.b true])]))))) [] (A (A (dBind.inv hu12 (rfl:(ksBind a0).length=(ksBind a0).length)) (rfl:(ksBind a0).length=(ksBind a0).length)) (A (A (A (dBind.rows a0) (dBind.ixr he13)) (rfl:(ksBind a0).length=(ksBind a0).length)) (A (A (dBind.inv hu14 (rfl:(ksBind a0).length=(ksBind a0).length)) (rfl:(ksBind a0).length=(ksBind a0).length)) (A (A (A (dBind.rows a0) (dBind.ixr he15)) (rfl:(ksBind a0).length=(ksBind a0).length)) (R 2 (dt g16) (A (A (dt g16) (A (dBind.inv hu17 (rfl:(ksBind a0).length=(ksBind a0).length)) (rfl:(ksBind a0).length=(ksBind a0).length))) (A (dt g16) (A (A (dt g16) (A (A (dBind.rows a0) (dBind.ixr he13)) (rfl:(ksBind a0).length=(ksBind a0).length))) (R 2 (dt g16) (A (A (dt g16) (A (dBind.inv hu18 (rfl:(ksBind a0).length=(ksBind a0).length)) (rfl:(ksBind a0).length=(ksBind a0).length))) (A (dt g16) (A (A (dt g16) (A (A (dBind.rows a0) (dBind.ixr he15)) (rfl:(ksBind a0).length=(ksBind a0).length))) (A (A (dt g16) (w_sp_l1Ints n _ _ hk19)) (A (dt g16) T)))))))))))))) [(75,bE k19)] [] [] ?_
        cases h3
        exact .lg hj3 []
       ·have h3:=iteN g16 h3
        refine .ad mixed ((4,[.cs (kBind e13)])::((9,[.cs (kBind e15)])::(qb 12 12 false []))) [] (A (A (dBind.inv hu12 (rfl:(ksBind a0).length=(ksBind a0).length)) (rfl:(ksBind a0).length=(ksBind a0).length)) (A (A (A (dBind.rows a0) (dBind.ixr he13)) (rfl:(ksBind a0).length=(ksBind a0).length)) (A (A (dBind.inv hu14 (rfl:(ksBind a0).length=(ksBind a0).length)) (rfl:(ksBind a0).length=(ksBind a0).length)) (A (A (A (dBind.rows a0) (dBind.ixr he15)) (rfl:(ksBind a0).length=(ksBind a0).length)) (R 12 (df g16) T))))) [(75,bE false)] [] [] ?_
        cases h3
        exact .lg hj3 []
     ·refine .a [.pl] T [(3,iE (w64 (s1+1)))] ?_
      cases h2
      cases hw2 _ rfl
      exact .nI rfl _ (hn1 _ rfl) [] (by kernel_rfl)
   ·obtain⟨u20,hu20,h2⟩:=bnd h2
    obtain⟨e21,he21,h2⟩:=bnd h2
    obtain⟨k22,hk22,h2⟩:=bnd h2
    by_cases g23:(!k22)=true
    ·have h2:=iteP g23 h2
     refine .a (.cs (kBind e21)::(.call [] (bE k22) []::(rb 22 true []))) (A (A (dBind.inv hu20 (rfl:(ksBind a0).length=(ksBind a0).length)) (rfl:(ksBind a0).length=(ksBind a0).length)) (A (A (A (dBind.rows a0) (dBind.ixr he21)) (rfl:(ksBind a0).length=(ksBind a0).length)) (A (w_sp_NameValid n _ hk22) (R 8 g23 (R 14 B1 T))))) [(46,bE true)] ?_
     cases h2
     exact .lg hj2 []
    ·have h2:=iteN g23 h2
     obtain⟨u24,hu24,h2⟩:=bnd h2
     obtain⟨k25,hk25,h2⟩:=bnd h2
     by_cases g26:(!k25)=true
     ·have h2:=iteP g26 h2
      refine .a (.cs (kBind e21)::(.call [] (bE k22) []::(rb 5 false (.cs (kBind e21)::(.b false::(.call [] (bE k25) []::(.b false::(.b false::(rb 14 true []))))))))) (A (A (dBind.inv hu20 (rfl:(ksBind a0).length=(ksBind a0).length)) (rfl:(ksBind a0).length=(ksBind a0).length)) (A (A (A (dBind.rows a0) (dBind.ixr he21)) (rfl:(ksBind a0).length=(ksBind a0).length)) (A (w_sp_NameValid n _ hk22) (R 2 (Bool.eq_false_iff.2 g23) (A (A (Bool.eq_false_iff.2 g23) (A (dBind.inv hu24 (rfl:(ksBind a0).length=(ksBind a0).length)) (rfl:(ksBind a0).length=(ksBind a0).length))) (A (Bool.eq_false_iff.2 g23) (A (A (Bool.eq_false_iff.2 g23) (A (A (dBind.rows a0) (dBind.ixr he21)) (rfl:(ksBind a0).length=(ksBind a0).length))) (A (A (Bool.eq_false_iff.2 g23) (w_sp_l1Scopes n _ hk25)) (R 2 (Bool.eq_false_iff.2 g23) (R 7 g26 (R 7 B1 T))))))))))) [(46,bE true)] ?_
      cases h2
      exact .lg hj2 []
     ·have h2:=iteN g26 h2
      obtain⟨u27,hu27,h2⟩:=bnd h2
      by_cases g28:e21.id<1
      ·have h2:=iteP g28 h2
       refine .a (.cs (kBind e21)::(.call [] (bE k22) []::(rb 5 false (.cs (kBind e21)::(.b false::(.call [] (bE k25) []::(rb 7 false (.cs (kBind e21)::(.b false::(.b false::(rb 7 true []))))))))))) (A (A (dBind.inv hu20 (rfl:(ksBind a0).length=(ksBind a0).length)) (rfl:(ksBind a0).length=(ksBind a0).length)) (A (A (A (dBind.rows a0) (dBind.ixr he21)) (rfl:(ksBind a0).length=(ksBind a0).length)) (A (w_sp_NameValid n _ hk22) (R 2 (Bool.eq_false_iff.2 g23) (A (A (Bool.eq_false_iff.2 g23) (A (dBind.inv hu24 (rfl:(ksBind a0).length=(ksBind a0).length)) (rfl:(ksBind a0).length=(ksBind a0).length))) (A (Bool.eq_false_iff.2 g23) (A (A (Bool.eq_false_iff.2 g23) (A (A (dBind.rows a0) (dBind.ixr he21)) (rfl:(ksBind a0).length=(ksBind a0).length))) (A (A (Bool.eq_false_iff.2 g23) (w_sp_l1Scopes n _ hk25)) (R 2 (Bool.eq_false_iff.2 g23) (R 2 (Bool.eq_false_iff.2 g26) (A (A (Bool.eq_false_iff.2 g26) (A (dBind.inv hu27 (rfl:(ksBind a0).length=(ksBind a0).length)) (rfl:(ksBind a0).length=(ksBind a0).length))) (A (Bool.eq_false_iff.2 g26) (A (A (Bool.eq_false_iff.2 g26) (A (A (dBind.rows a0) (dBind.ixr he21)) (rfl:(ksBind a0).length=(ksBind a0).length))) (R 2 (Bool.eq_false_iff.2 g26) (R 7 (dt g28) T))))))))))))))) [(46,bE true)] ?_
       cases h2
       exact .lg hj2 []
      ·have h2:=iteN g28 h2
       obtain⟨u29,hu29,h2⟩:=bnd h2
       refine .a (.cs (kBind e21)::(.call [] (bE k22) []::(rb 5 false (.cs (kBind e21)::(.b false::(.call [] (bE k25) []::(rb 7 false (.cs (kBind e21)::(rb 7 false [.cs (kBind e21),.b false,.b false]))))))))) (A (A (dBind.inv hu20 (rfl:(ksBind a0).length=(ksBind a0).length)) (rfl:(ksBind a0).length=(ksBind a0).length)) (A (A (A (dBind.rows a0) (dBind.ixr he21)) (rfl:(ksBind a0).length=(ksBind a0).length)) (A (w_sp_NameValid n _ hk22) (R 2 (Bool.eq_false_iff.2 g23) (A (A (Bool.eq_false_iff.2 g23) (A (dBind.inv hu24 (rfl:(ksBind a0).length=(ksBind a0).length)) (rfl:(ksBind a0).length=(ksBind a0).length))) (A (Bool.eq_false_iff.2 g23) (A (A (Bool.eq_false_iff.2 g23) (A (A (dBind.rows a0) (dBind.ixr he21)) (rfl:(ksBind a0).length=(ksBind a0).length))) (A (A (Bool.eq_false_iff.2 g23) (w_sp_l1Scopes n _ hk25)) (R 2 (Bool.eq_false_iff.2 g23) (R 2 (Bool.eq_false_iff.2 g26) (A (A (Bool.eq_false_iff.2 g26) (A (dBind.inv hu27 (rfl:(ksBind a0).length=(ksBind a0).length)) (rfl:(ksBind a0).length=(ksBind a0).length))) (A (Bool.eq_false_iff.2 g26) (A (A (Bool.eq_false_iff.2 g26) (A (A (dBind.rows a0) (dBind.ixr he21)) (rfl:(ksBind a0).length=(ksBind a0).length))) (R 2 (Bool.eq_false_iff.2 g26) (R 2 (df g28) (A (A (df g28) (A (dBind.inv hu29 (rfl:(ksBind a0).length=(ksBind a0).length)) (rfl:(ksBind a0).length=(ksBind a0).length))) (A (df g28) (A (A (df g28) (A (A (dBind.rows a0) (dBind.ixr he21)) (rfl:(ksBind a0).length=(ksBind a0).length))) (R 2 (df g28) T))))))))))))))))))) [(46,dE (e21.id>999))] ?_
       cases h2
       exact .lg hj2 []
  ·refine .a [.v (a0.length:Int)] (A (dBind.len' a0) T) [(2,dE ((a0.length:Int)≤60))] ?_
   refine .snV 0 dBind a0 (by kernel_rfl) (fun hb30=>?_)
   cases h1
   cases hw1 _ rfl
   exact .rt hK
 ·by_cases g31:s1<(a0.length:Int)
  ·have h2:=iteP g31 h2
   refine .a (.v (a0.length:Int)::(rb 3 true [])) (A (dBind.len' a0) (R 3 (dt g31) T)) [(12,dE (s1≤60))] ?_
   refine .snV 0 dBind a0 (by kernel_rfl) (fun hb32=>?_)
   cases h2
   exact .lg hj2 []
  ·have h2:=iteN g31 h2
   refine .a (.v (a0.length:Int)::(rb 3 false [])) (A (dBind.len' a0) (R 3 (df g31) T)) [(12,bE false)] ?_
   refine .snV 0 dBind a0 (by kernel_rfl) (fun hb33=>?_)
   cases h2
   exact .lg hj2 []
def sp_l3Copy (n:Nat) (a0:List Bind):Option (List Bind):=
 Option.bind (forL (fun(s2:List Bind) (i1:Nat) (x4:Bind)=>(apB 8 [] x4.scopes).bind fun z10=>(apB 48 s2 [(⟨x4.name,z10,x4.id⟩:Bind)]).bind fun z11=>some z11) 0 a0 []) (fun(s2:List Bind)=>some s2)
theorem w_sp_l3Copy (n:Nat):∀(a0:List Bind) {r:List Bind},sp_l3Copy n a0=some r→SCall X.E 309 [lE 3 (ksBind a0)] [] (lE 3 (ksBind r)) []:=by
 intro a0 r h0
 rw[sp_l3Copy] at h0
 refine .n Tryz.func309 (fun L ks low K hl hL hlen hK=>?_)
 refine .a [] T [] ?_
 refine .a [.sv (ksBind [])] (A (dBind.lit []) T) [(3,fE 3 (ksBind []))] ?_
 refine .a [] T [(4,iE 0)] ?_
 refine .ow 3 100025 248 [0,4] rfl rfl (by kernel_rfl) ?_
 refine .lL h0 rfl [0] (fun i1 s2=>[(3,.gs (.own 100025) 3 (ksBind s2)),(4,iE (i1:Int))]) (fun i1 s2=>[.o 100025 (.tok (ksBind s2).length 248)]) n2 [] (by kernel_rfl) (fun i1 s2 q3 hd5 hi7 h0=>?_)
 refine .a [.v (a0.length:Int)] (A (dBind.len' a0) T) [(10,dE ((i1:Int)<(a0.length:Int)))] ?_
 refine .sn 0 dBind a0 (by kernel_rfl) (fun hb8=>?_)
 refine .lc hd5 rfl (by kernel_rfl) (fun x4 q32 hc9 hx4 hd6 hd6l=>?_) (fun hc9=>?_)
 ·subst hc9
  obtain⟨y1,h1,hn1⟩:=forL_cons h0
  refine .af [.cs (kBind x4)] (A (dBind.idn hx4) T) [(5,pw 5)] [.o 5 (.cells ((kBind x4).map .d))] ?_
  obtain⟨z10,hz10,h1⟩:=bnd h1
  refine .af [.sv (ksInt []),.sv (ksInt z10)] (A (dInt.lit []) (A (dInt.ap hz10) T)) [] [.c 5 1 (.gs (.own 100020) 1 (ksInt z10)),.o 100020 (.tok (ksInt z10).length 3)] ?_
  obtain⟨z11,hz11,h1⟩:=bnd h1
  refine .aq [.sv (ksBind [(⟨x4.name,z10,x4.id⟩:Bind)]),.sv (ksBind z11)] [((ksBind s2).length:Int)] (A (dBind.lit [(⟨x4.name,z10,x4.id⟩:Bind)]) (A (dBind.ap hz11) T)) [(3,.gs (.own 100025) 3 (ksBind z11))] [.o 100025 (.tok (ksBind z11).length 248)] [] ?_
  refine .a [.v ((i1+1:Nat):Int)] (A (wn (i:=i1) (by omega)) T) [(4,iE ((i1+1:Nat):Int))] ?_
  cases h1
  refine .kp [0,3,4] [] ?_
  refine .dr 5 (by kernel_rfl) ?_
  refine .dr 100020 (by kernel_rfl) ?_
  exact .nL rfl (i1+1) _ hd6 hd6l hn1 [] (by kernel_rfl)
 ·subst hc9
  have h0:=forL_nil h0
  refine .a [] T [(2,.gs (.own 100025) 3 (ksBind s2))] ?_
  cases h0
  exact .rt hK
theorem w_sp_l3Copy_o (n:Nat):∀(a0:List Bind) {r:List Bind},sp_l3Copy n a0=some r→SCall X.E 309 [lE 3 (ksBind a0)] [none] (.vs (.low 0) 3 ((ksBind r).length)) [.vec 248 3 (ksBind r)]:=by
 intro a0 r h0
 rw[sp_l3Copy] at h0
 refine .n Tryz.func309 (fun L ks low K hl hL hlen hK=>?_)
 refine .a [] T [] ?_
 refine .a [.sv (ksBind [])] (A (dBind.lit []) T) [(3,fE 3 (ksBind []))] ?_
 refine .a [] T [(4,iE 0)] ?_
 refine .owV 3 100025 248 [0,4] rfl rfl (by kernel_rfl) ?_
 refine .lL h0 rfl [0] (fun i1 s2=>[(3,.vs (.own 100025) 3 ((ksBind s2).length)),(4,iE (i1:Int))]) (fun i1 s2=>[.o 100025 (.vec 248 3 (ksBind s2))]) n2 [] (by kernel_rfl) (fun i1 s2 q3 hd5 hi7 h0=>?_)
 refine .a [.v (a0.length:Int)] (A (dBind.len' a0) T) [(10,dE ((i1:Int)<(a0.length:Int)))] ?_
 refine .sn 0 dBind a0 (by kernel_rfl) (fun hb8=>?_)
 refine .lc hd5 rfl (by kernel_rfl) (fun x4 q32 hc9 hx4 hd6 hd6l=>?_) (fun hc9=>?_)
 ·subst hc9
  obtain⟨y1,h1,hn1⟩:=forL_cons h0
  refine .af [.cs (kBind x4)] (A (dBind.idn hx4) T) [(5,pw 5)] [.o 5 (.cells ((kBind x4).map .d))] ?_
  obtain⟨z10,hz10,h1⟩:=bnd h1
  refine .af [.sv (ksInt []),.sv (ksInt z10)] (A (dInt.lit []) (A (dInt.ap hz10) T)) [] [.c 5 1 (.gs (.own 100020) 1 (ksInt z10)),.o 100020 (.tok (ksInt z10).length 3)] ?_
  obtain⟨z11,hz11,h1⟩:=bnd h1
  refine .af [.sv (ksBind [(⟨x4.name,z10,x4.id⟩:Bind)]),.sv (ksBind z11)] (A (dBind.lit [(⟨x4.name,z10,x4.id⟩:Bind)]) (A (A (dBind.ap hz11) (rfl:(ksBind s2).length=(ksBind s2).length)) T)) [(3,.vs (.own 100025) 3 ((ksBind z11).length))] [.o 100025 (.vec 248 3 (ksBind z11))] ?_
  refine .a [.v ((i1+1:Nat):Int)] (A (wn (i:=i1) (by omega)) T) [(4,iE ((i1+1:Nat):Int))] ?_
  cases h1
  refine .kp [0,3,4] [] ?_
  refine .dr 5 (by kernel_rfl) ?_
  refine .dr 100020 (by kernel_rfl) ?_
  exact .nL rfl (i1+1) _ hd6 hd6l hn1 [] (by kernel_rfl)
 ·subst hc9
  have h0:=forL_nil h0
  refine .a [] T [(2,.vs (.own 100025) 3 ((ksBind s2).length))] ?_
  refine .kp [2] [] ?_
  refine .mv 2 100025 0 [] (by kernel_rfl) ?_
  cases h0
  exact .rt hK
def sp_AddBind (n:Nat) (a0:List Bind) (a1:Form) (a2:Int):Option ((List Bind)×Bool):=
 Option.bind ((sp_BindsValid n a0).bind fun k8=>(if(!k8)=true then some true else(sp_l3Is n a1).bind fun k10=>some (!k10)):Option (Bool)) (fun(o1:Bool)=>(if o1=true then some ([],false) else(sp_l3Copy n a0).bind fun k3=>(apB 8 [] a1.scopes).bind fun z4=>(apB 48 k3 [(⟨a1.name,z4,a2⟩:Bind)]).bind fun z5=>(sp_BindsValid_v n z5).bind fun k6=>(if(!k6)=true then some ([],false) else some (z5,true))))
theorem w_sp_AddBind (n:Nat):∀(a0:List Bind) (a1:Form) (a2:Int) {r:(List Bind)×Bool},sp_AddBind n a0 a1 a2=some r→SCall X.E 301 [lE 3 (ksBind a0),aE (kForm a1),iE a2] [] (.tup [lE 3 (ksBind r.1),bE r.2]) []:=by
 intro a0 a1 a2 r h0
 rw[sp_AddBind] at h0
 refine .n Tryz.func301 (fun L ks low K hl hL hlen hK=>?_)
 refine .af [] T [(4,pw 4)] [.o 4 (.cells ((kForm a1).map .d))] ?_
 refine .bP h0 rfl [0,2,4] (fun o1=>[(16,bE o1)]) n1 n1 (fun o1 h0=>?_) (fun y1 h1 hj1=>?_)
 ·refine .jT h0 (fun hc2 h0=>?_) (fun hc2 h0=>?_)
  ·refine .a [.sv (ksBind [])] (A (dBind.lit []) T) [(6,fE 3 (ksBind [])),(7,bE false)] ?_
   cases h0
   exact .rt hK
  ·obtain⟨k3,hk3,h0⟩:=bnd h0
   obtain⟨z4,hz4,h0⟩:=bnd h0
   obtain⟨z5,hz5,h0⟩:=bnd h0
   refine .ad mixed [(1,[.call [.own 300190] (.vs (.low 0) 3 ((ksBind k3).length)) [.vec 248 3 (ksBind k3)]]),(4,[.sv (ksInt [])]),(7,[.sv (ksInt z4)]),(10,[.sv (ksBind [(⟨a1.name,z4,a2⟩:Bind)])]),(11,[.sv (ksBind z5)])] [] (A (w_sp_l3Copy_o n _ hk3) (A (dInt.lit []) (A (dInt.ap hz4) (A (dBind.lit [(⟨a1.name,z4,a2⟩:Bind)]) (A (A (dBind.ap hz5) (rfl:(ksBind k3).length=(ksBind k3).length)) T))))) [(8,.vs (.own 300190) 3 ((ksBind z5).length))] [.o 300190 (.vec 248 3 (ksBind z5)),.o 100025 (.tok (ksInt z4).length 3)] [] ?_
   obtain⟨k6,hk6,h0⟩:=bnd h0
   refine .a [.call [.own 300190] (bE k6) [.vec 248 3 (ksBind z5)]] (A (w_sp_BindsValid_v n _ hk6) T) [(32,bE (!k6))] ?_
   refine .jT h0 (fun hc7 h0=>?_) (fun hc7 h0=>?_)
   ·refine .a [.sv (ksBind [])] (A (dBind.lit []) T) [(6,fE 3 (ksBind [])),(7,bE false)] ?_
    cases h0
    exact .rt hK
   ·refine .a [] T [(6,.vs (.own 300190) 3 ((ksBind z5).length)),(7,bE true)] ?_
    refine .kp [6,7] [] ?_
    refine .dr 4 (by kernel_rfl) ?_
    refine .dr 100025 (by kernel_rfl) ?_
    refine .ft 6 300190 [7] dBind z5 (rfl:(ksBind z5).length=(ksBind z5).length) (by kernel_rfl) ?_
    cases h0
    exact .rt hK
 ·obtain⟨k8,hk8,h1⟩:=bnd h1
  by_cases g9:(!k8)=true
  ·have h1:=iteP g9 h1
   refine .a (.call [] (bE k8) []::(rb 4 true [])) (A (w_sp_BindsValid n _ hk8) (R 4 g9 T)) [(16,bE true)] ?_
   cases h1
   exact .lg hj1 []
  ·have h1:=iteN g9 h1
   obtain⟨k10,hk10,h1⟩:=bnd h1
   refine .a [.call [] (bE k8) [],.b false,.b false,.call [] (bE k10) [],.b false,.b false] (A (w_sp_BindsValid n _ hk8) (A (Bool.eq_false_iff.2 g9) (A (A (Bool.eq_false_iff.2 g9) (w_sp_l3Is n _ hk10)) (R 2 (Bool.eq_false_iff.2 g9) T)))) [(16,bE (!k10))] ?_
   cases h1
   exact .lg hj1 []
def sp_l7Bind (n:Nat) (a0:Expansion) (a1:Form):Option (Expansion×Int):=
 (if(a0.binds.length:Int)≥60 then some (a0,4) else(sp_AddBind n a0.binds a1 (w64 (a0.id+1))).bind fun k3=>(if(!k3.2)=true then some (a0,1) else some ((⟨k3.1,a0.macros,a0.scope,(w64 (a0.id+1)),a0.steps⟩:Expansion),0)))
theorem w_sp_l7Bind (n:Nat):∀(a0:Expansion) (a1:Form) {r:Expansion×Int},sp_l7Bind n a0 a1=some r→SCall X.E 293 [aE (kExpansion a0),aE (kForm a1)] [] (.tup [aE (kExpansion r.1),iE r.2]) []:=by
 intro a0 a1 r h0
 rw[sp_l7Bind] at h0
 refine .n Tryz.func293 (fun L ks low K hl hL hlen hK=>?_)
 refine .af [] T [(2,pw 2),(3,pw 3),(4,pw 4)] [.o 2 (.cells ((kExpansion a0).map .d)),.o 3 (.cells ((kForm a1).map .d)),.o 4 (.cells [fE 3 (ksBind []),fE 3 (ksMacro []),iE 0,iE 0,iE 0])] ?_
 refine .a [.v (a0.binds.length:Int)] (A (dBind.len' a0.binds) T) [(9,lE 3 (ksBind a0.binds)),(11,dE ((a0.binds.length:Int)≥60))] ?_
 refine .sn 9 dBind a0.binds (by kernel_rfl) (fun hb1=>?_)
 refine .jP h0 (fun hc2 h0=>?_) (fun hc2 h0=>?_)
 ·refine .af [] T [(5,iE 4)] [.o 4 (.cells ((kExpansion a0).map .d))] ?_
  cases h0
  exact .rt hK
 ·obtain⟨k3,hk3,h0⟩:=bnd h0
  refine .a [.pl,.call [] (.tup [lE 3 (ksBind k3.1),bE k3.2]) []] (A (w_sp_AddBind n _ _ _ hk3) T) [(6,lE 3 (ksBind k3.1)),(7,bE k3.2)] ?_
  refine .a [] T [(24,bE (!k3.2))] ?_
  refine .jT h0 (fun hc4 h0=>?_) (fun hc4 h0=>?_)
  ·refine .af [] T [(5,iE 1)] [.o 4 (.cells ((kExpansion a0).map .d))] ?_
   cases h0
   exact .rt hK
  ·refine .af [] T [] [.c 2 0 (lE 3 (ksBind k3.1))] ?_
   refine .af [.pl] T [] [.c 2 3 (iE (w64 (a0.id+1)))] ?_
   refine .af [] T [(5,iE 0)] [.o 4 (.cells [lE 3 (ksBind k3.1),lE 3 (ksMacro a0.macros),iE a0.scope,iE (w64 (a0.id+1)),iE a0.steps])] ?_
   cases h0
   exact .rt hK
def sp_ParseRules (n:Nat) (a0:Form):Option ((List Form)×(List Rule)×Bool):=
 Option.bind ((sp_FormValid n a0).bind fun k27=>(if(!k27)=true then some true else(if ¬a0.kind=3 then some true else(if(a0.kids.length:Int)<2 then some true else(atI a0.kids 0).bind fun e31=>(if ¬e31.name=[114,117,108,101,115] then some true else(atI a0.kids 1).bind fun e33=>some (decide (¬e33.kind=3)))))):Option (Bool)) (fun(o1:Bool)=>(if o1=true then some ([],[],false) else iterM n (fun(s3:(List Form)×Int)=>((atI a0.kids 1).bind fun e5=>(if s3.2<(e5.kids.length:Int) then(atI e5.kids s3.2).bind fun e8=>(sp_l1Copy n e8).bind fun k9=>(apB 80 s3.1 [k9]).bind fun z10=>some (Sum.inr (z10,(w64 (s3.2+1)))) else iterM n (fun(s11:(List Rule)×Int)=>((if s11.2<(a0.kids.length:Int) then Option.bind ((atI a0.kids s11.2).bind fun e23=>(if ¬e23.kind=3 then some true else some (decide (¬(e23.kids.length:Int)=2))):Option (Bool)) (fun(o15:Bool)=>(if o15=true then some (Sum.inl (Sum.inl ([],[],false))) else(atI a0.kids s11.2).bind fun e17=>(atI e17.kids 0).bind fun e18=>(sp_l1Copy n e18).bind fun k19=>(atI e17.kids 1).bind fun e20=>(sp_l1Copy n e20).bind fun k21=>(apB 160 s11.1 [(⟨k19,k21⟩:Rule)]).bind fun z22=>some (Sum.inr (z22,(w64 (s11.2+1)))))) else(sp_l5Rules n s11.1 s3.1).bind fun k25=>(if(!k25)=true then some (Sum.inl (Sum.inl ([],[],false))) else some (Sum.inl (Sum.inl (s3.1,s11.1,true))))):Option ((((List Form)×(List Rule)×Bool)⊕((List Form)×Int))⊕((List Rule)×Int)))) ([],2)):Option (((List Form)×(List Rule)×Bool)⊕((List Form)×Int)))) ([],0)))
theorem w_sp_ParseRules (n:Nat):∀(a0:Form) {r:(List Form)×(List Rule)×Bool},sp_ParseRules n a0=some r→SCall X.E 294 [aE (kForm a0)] [] (.tup [lE 5 (ksForm r.1),lE 10 (ksRule r.2.1),bE r.2.2]) []:=by
 intro a0 r h0
 rw[sp_ParseRules] at h0
 refine .n Tryz.func294 (fun L ks low K hl hL hlen hK=>?_)
 refine .af [] T [(1,pw 1)] [.o 1 (.cells ((kForm a0).map .d))] ?_
 refine .a [.sv (ksForm [])] (A (dForm.lit []) T) [(5,fE 5 (ksForm []))] ?_
 refine .a [.sv (ksRule [])] (A (dRule.lit []) T) [(6,fE 10 (ksRule []))] ?_
 refine .bP h0 rfl [1,5,6] (fun o1=>[(40,bE o1)]) n1 n1 (fun o1 h0=>?_) (fun y1 h1 hj1=>?_)
 ·refine .jT h0 (fun hc2 h0=>?_) (fun hc2 h0=>?_)
  ·refine .a [] T [(2,fE 5 (ksForm [])),(3,fE 10 (ksRule [])),(4,bE false)] ?_
   cases h0
   exact .rt hK
  ·refine .a [] T [(7,iE 0)] ?_
   refine .ow 5 100064 32 [1,6,7] rfl rfl (by kernel_rfl) ?_
   refine .it h0 rfl [1,6] (fun s3=>[(5,.gs (.own 100064) 5 (ksForm s3.1)),(7,iE s3.2)]) (fun s3=>[.o 100064 (.tok (ksForm s3.1).length 32)]) n1 [] (by kernel_rfl) (fun nk4 s3 h0=>?_)
   obtain⟨y1,h1,hw1,hn1⟩:=iter_cons h0
   obtain⟨e5,he5,h1⟩:=bnd h1
   refine .a [.cs (kForm e5),.v (e5.kids.length:Int)] (A (dForm.idx he5) (A (dForm.len' e5.kids) T)) [(48,lE 5 (ksForm e5.kids)),(50,dE (s3.2<(e5.kids.length:Int)))] ?_
   refine .sn 48 dForm e5.kids (by kernel_rfl) (fun hb6=>?_)
   refine .jP h1 (fun hc7 h1=>?_) (fun hc7 h1=>?_)
   ·obtain⟨e8,he8,h1⟩:=bnd h1
    obtain⟨k9,hk9,h1⟩:=bnd h1
    obtain⟨z10,hz10,h1⟩:=bnd h1
    refine .aq [.cs (kForm e5),.cs (kForm e8),.call [] (aE (kForm k9)) [],.sv (ksForm [k9]),.sv (ksForm z10)] [((ksForm s3.1).length:Int)] (A (dForm.idx he5) (A (dForm.idx he8) (A (w_sp_l1Copy n _ hk9) (A (dForm.lit [k9]) (A (dForm.ap hz10) T))))) [(5,.gs (.own 100064) 5 (ksForm z10))] [.o 100064 (.tok (ksForm z10).length 32)] [] ?_
    refine .a [.pl] T [(7,iE (w64 (s3.2+1)))] ?_
    cases h1
    exact .nI rfl _ (hn1 _ rfl) [] (by kernel_rfl)
   ·refine .a [] T [(8,iE 2)] ?_
    refine .ow 6 100112 98 [1,5,8] rfl rfl (by kernel_rfl) ?_
    refine .it h1 rfl [1,5] (fun s11=>[(6,.gs (.own 100112) 10 (ksRule s11.1)),(8,iE s11.2)]) (fun s11=>[.o 100112 (.tok (ksRule s11.1).length 98)]) n1 [] (by kernel_rfl) (fun nk12 s11 h1=>?_)
    obtain⟨y2,h2,hw2,hn2⟩:=iter_cons h1
    refine .a [.v (a0.kids.length:Int)] (A (dForm.len' a0.kids) T) [(67,lE 5 (ksForm a0.kids)),(69,dE (s11.2<(a0.kids.length:Int)))] ?_
    refine .sn 67 dForm a0.kids (by kernel_rfl) (fun hb13=>?_)
    refine .jP h2 (fun hc14 h2=>?_) (fun hc14 h2=>?_)
    ·refine .bP h2 rfl [1,5,6,8] (fun o15=>[(88,bE o15)]) n1 n1 (fun o15 h2=>?_) (fun y3 h3 hj3=>?_)
     ·refine .jT h2 (fun hc16 h2=>?_) (fun hc16 h2=>?_)
      ·refine .a [.sv (ksForm []),.sv (ksRule [])] (A (dForm.lit []) (A (dRule.lit []) T)) [(2,fE 5 (ksForm [])),(3,fE 10 (ksRule [])),(4,bE false)] ?_
       cases h2
       cases hw2 _ rfl
       cases hw1 _ rfl
       exact .rt hK
      ·obtain⟨e17,he17,h2⟩:=bnd h2
       obtain⟨e18,he18,h2⟩:=bnd h2
       obtain⟨k19,hk19,h2⟩:=bnd h2
       obtain⟨e20,he20,h2⟩:=bnd h2
       obtain⟨k21,hk21,h2⟩:=bnd h2
       obtain⟨z22,hz22,h2⟩:=bnd h2
       refine .ad mixed [(4,[.cs (kForm e17)]),(7,[.cs (kForm e18)]),(9,[.call [] (aE (kForm k19)) []]),(13,[.cs (kForm e17)]),(16,[.cs (kForm e20)]),(18,[.call [] (aE (kForm k21)) []]),(20,[.sv (ksRule [(⟨k19,k21⟩:Rule)])]),(21,[.sv (ksRule z22)])] [((ksRule s11.1).length:Int)] (A (dForm.idx he17) (A (dForm.idx he18) (A (w_sp_l1Copy n _ hk19) (A (dForm.idx he17) (A (dForm.idx he20) (A (w_sp_l1Copy n _ hk21) (A (dRule.lit [(⟨k19,k21⟩:Rule)]) (A (dRule.ap hz22) T)))))))) [(6,.gs (.own 100112) 10 (ksRule z22))] [.o 100112 (.tok (ksRule z22).length 98)] [] ?_
       refine .a [.pl] T [(8,iE (w64 (s11.2+1)))] ?_
       cases h2
       exact .nI rfl _ (hn2 _ rfl) [] (by kernel_rfl)
     ·obtain⟨e23,he23,h3⟩:=bnd h3
      by_cases g24:¬e23.kind=3
      ·have h3:=iteP g24 h3
       refine .a (.cs (kForm e23)::(rb 9 true [])) (A (dForm.idx he23) (R 9 (dt g24) T)) [(88,bE true)] ?_
       cases h3
       exact .lg hj3 []
      ·have h3:=iteN g24 h3
       refine .a (.cs (kForm e23)::(rb 4 false (.cs (kForm e23)::(rb 3 false [.v (e23.kids.length:Int),.b false,.b false])))) (A (dForm.idx he23) (R 3 (df g24) (A (A (df g24) (dForm.idx he23)) (R 2 (df g24) (A (A (df g24) (dForm.len' e23.kids)) (R 2 (df g24) T)))))) [(88,dE (¬(e23.kids.length:Int)=2))] ?_
       cases h3
       exact .lg hj3 []
    ·obtain⟨k25,hk25,h2⟩:=bnd h2
     refine .a [.call [] (bE k25) []] (A (w_sp_l5Rules n _ _ hk25) T) [(116,bE (!k25))] ?_
     refine .jT h2 (fun hc26 h2=>?_) (fun hc26 h2=>?_)
     ·refine .a [.sv (ksForm []),.sv (ksRule [])] (A (dForm.lit []) (A (dRule.lit []) T)) [(2,fE 5 (ksForm [])),(3,fE 10 (ksRule [])),(4,bE false)] ?_
      cases h2
      cases hw2 _ rfl
      cases hw1 _ rfl
      exact .rt hK
     ·refine .a [] T [(2,.gs (.own 100064) 5 (ksForm s3.1)),(3,.gs (.own 100112) 10 (ksRule s11.1)),(4,bE true)] ?_
      cases h2
      cases hw2 _ rfl
      cases hw1 _ rfl
      exact .rt hK
 ·obtain⟨k27,hk27,h1⟩:=bnd h1
  by_cases g28:(!k27)=true
  ·have h1:=iteP g28 h1
   refine .a (.call [] (bE k27) []::(rb 23 true [])) (A (w_sp_FormValid n _ hk27) (R 4 g28 (R 19 B1 T))) [(40,bE true)] ?_
   cases h1
   exact .lg hj1 []
  ·have h1:=iteN g28 h1
   by_cases g29:¬a0.kind=3
   ·have h1:=iteP g29 h1
    refine .a (.call [] (bE k27) []::(rb 4 false (rb 19 true []))) (A (w_sp_FormValid n _ hk27) (R 4 (Bool.eq_false_iff.2 g28) (R 5 (dt g29) (R 14 B1 T)))) [(40,bE true)] ?_
    cases h1
    exact .lg hj1 []
   ·have h1:=iteN g29 h1
    by_cases g30:(a0.kids.length:Int)<2
    ·have h1:=iteP g30 h1
     refine .a (.call [] (bE k27) []::(rb 7 false (.v (a0.kids.length:Int)::(.b false::(.b false::(rb 14 true [])))))) (A (w_sp_FormValid n _ hk27) (R 4 (Bool.eq_false_iff.2 g28) (R 2 (df g29) (A (A (df g29) (dForm.len' a0.kids)) (R 2 (df g29) (R 7 (dt g30) (R 7 B1 T))))))) [(40,bE true)] ?_
     cases h1
     exact .lg hj1 []
    ·have h1:=iteN g30 h1
     obtain⟨e31,he31,h1⟩:=bnd h1
     by_cases g32:¬e31.name=[114,117,108,101,115]
     ·have h1:=iteP g32 h1
      refine .a (.call [] (bE k27) []::(rb 7 false (.v (a0.kids.length:Int)::(rb 5 false (.cs (kForm e31)::(rb 4 false (rb 7 true []))))))) (A (w_sp_FormValid n _ hk27) (R 4 (Bool.eq_false_iff.2 g28) (R 2 (df g29) (A (A (df g29) (dForm.len' a0.kids)) (R 2 (df g29) (R 2 (df g30) (A (A (df g30) (dForm.idx he31)) (R 4 (df g30) (R 7 (dt g32) T))))))))) [(40,bE true)] ?_
      cases h1
      exact .lg hj1 []
     ·have h1:=iteN g32 h1
      obtain⟨e33,he33,h1⟩:=bnd h1
      refine .a (.call [] (bE k27) []::(rb 7 false (.v (a0.kids.length:Int)::(rb 5 false (.cs (kForm e31)::(rb 7 false (.cs (kForm e33)::(rb 4 false [])))))))) (A (w_sp_FormValid n _ hk27) (R 4 (Bool.eq_false_iff.2 g28) (R 2 (df g29) (A (A (df g29) (dForm.len' a0.kids)) (R 2 (df g29) (R 2 (df g30) (A (A (df g30) (dForm.idx he31)) (R 4 (df g30) (R 2 (df g32) (A (A (df g32) (dForm.idx he33)) (R 4 (df g32) T))))))))))) [(40,dE (¬e33.kind=3))] ?_
      cases h1
      exact .lg hj1 []
mutual
def sp_l7All:Nat→Expansion→(List Form)→Int→Option (Expansion×(List Core)×Int)
 | 0,_,_,_=>none
 | n+1,a0,a1,a2=>iterM n (fun(s1:(List Core)×Int×(List Bind)×(List Macro)×Int×Int×Int)=>((if s1.2.1<(a1.length:Int) then(atI a1 s1.2.1).bind fun e5=>(sp_l7Expand n (⟨s1.2.2.1,s1.2.2.2.1,s1.2.2.2.2.1,s1.2.2.2.2.2.1,s1.2.2.2.2.2.2⟩:Expansion) e5 a2).bind fun k6=>(if ¬k6.2.2=0 then some (Sum.inl (k6.1,s1.1,k6.2.2)) else(apB 168 s1.1 [k6.2.1]).bind fun z8=>some (Sum.inr (z8,(w64 (s1.2.1+1)),k6.1.binds,k6.1.macros,k6.1.scope,k6.1.id,k6.1.steps))) else some (Sum.inl ((⟨s1.2.2.1,s1.2.2.2.1,s1.2.2.2.2.1,s1.2.2.2.2.2.1,s1.2.2.2.2.2.2⟩:Expansion),s1.1,0))):Option ((Expansion×(List Core)×Int)⊕((List Core)×Int×(List Bind)×(List Macro)×Int×Int×Int)))) ([],0,a0.binds,a0.macros,a0.scope,a0.id,a0.steps)
def sp_l7Apply:Nat→Expansion→Form→Int→Int→Option (Expansion×Core×Int)
 | 0,_,_,_,_=>none
 | n+1,a0,a1,a2,a3=>(sp_l7Step n a0 a1 a2 a3).bind fun k1=>(if ¬k1.2.2=0 then some (k1.1,(⟨0,0,[],0,[],(⟨0,[],0,[],[]⟩:Form),[]⟩:Core),k1.2.2) else(sp_l7Expand n k1.1 k1.2.1 a3).bind fun k3=>some (k3.1,k3.2.1,k3.2.2))
def sp_l7Expand:Nat→Expansion→Form→Int→Option (Expansion×Core×Int)
 | 0,_,_,_=>none
 | n+1,a0,a1,a2=>(if a1.kind=2 then some (a0,(⟨3,0,[],a1.n,[],(⟨0,[],0,[],[]⟩:Form),[]⟩:Core),0) else(if a1.kind=1 then(sp_l7Name n a0 a1).bind fun k3=>some (k3.1,k3.2.1,k3.2.2) else(if(a1.kids.length:Int)=0 then some (a0,(⟨0,0,[],0,[],(⟨0,[],0,[],[]⟩:Form),[]⟩:Core),1) else(atI a1.kids 0).bind fun e6=>seqS ((if e6.kind=1 then(sp_l7Meaning n a0 e6).bind fun k10=>(if k10.1=4 then some (Sum.inl (a0,(⟨0,0,[],0,[],(⟨0,[],0,[],[]⟩:Form),[]⟩:Core),2)) else(if k10.1=1 then(sp_l7Form n a0 a1 k10.2 a2).bind fun k13=>some (Sum.inl (k13.1,k13.2.1,k13.2.2)) else(if k10.1=2 then(sp_l7Apply n a0 a1 k10.2 a2).bind fun k15=>some (Sum.inl (k15.1,k15.2.1,k15.2.2)) else some (Sum.inr ())))) else some (Sum.inr ())):Option ((Expansion×Core×Int)⊕Unit)) (fun(o7:Unit)=>(sp_l7All n a0 a1.kids a2).bind fun k8=>some (k8.1,(⟨6,0,[],0,[],(⟨0,[],0,[],[]⟩:Form),k8.2.1⟩:Core),k8.2.2)))))
def sp_l7Form:Nat→Expansion→Form→Int→Int→Option (Expansion×Core×Int)
 | 0,_,_,_,_=>none
 | n+1,a0,a1,a2,a3=>Option.bind ((if a2=3 then some (decide ((a1.kids.length:Int)=2)) else some false):Option (Bool)) (fun(o1:Bool)=>(if o1=true then(atI a1.kids 1).bind fun e3=>(sp_StripForm n e3).bind fun k4=>some (a0,(⟨4,0,[],0,[],k4,[]⟩:Core),0) else Option.bind ((if a2=2 then some (decide ((a1.kids.length:Int)=4)) else some false):Option (Bool)) (fun(o5:Bool)=>(if o5=true then(slI a1.kids 1 (a1.kids.length:Int)).bind fun z7=>(sp_l7All n a0 z7 a3).bind fun k8=>some (k8.1,(⟨7,0,[],0,[],(⟨0,[],0,[],[]⟩:Form),k8.2.1⟩:Core),k8.2.2) else Option.bind ((if a2=1 then(if(a1.kids.length:Int)=3 then(atI a1.kids 1).bind fun e31=>some (decide (e31.kind=3)) else some false) else some false):Option (Bool)) (fun(o9:Bool)=>(if o9=true then(atI a1.kids 1).bind fun e11=>(atI a1.kids 2).bind fun e12=>(sp_l7Fun n a0 e11.kids e12 a3).bind fun k13=>some (k13.1,k13.2.1,k13.2.2) else Option.bind ((if ¬a2=4 then(if ¬a2=5 then some true else some (decide (¬(a1.kids.length:Int)=3))) else some (decide (¬(a1.kids.length:Int)=3))):Option (Bool)) (fun(o14:Bool)=>(if o14=true then some (a0,(⟨0,0,[],0,[],(⟨0,[],0,[],[]⟩:Form),[]⟩:Core),1) else(atI a1.kids 1).bind fun e16=>(sp_l7Pairs n e16).bind fun k17=>(if(!k17.2.2)=true then some (a0,(⟨0,0,[],0,[],(⟨0,[],0,[],[]⟩:Form),[]⟩:Core),1) else(if a2=5 then(atI a1.kids 2).bind fun e20=>(sp_l7Macros n a0 k17.1 k17.2.1 e20 a3).bind fun k21=>some (k21.1,k21.2.1,k21.2.2) else(sp_l7All n a0 k17.2.1 a3).bind fun k22=>(if ¬k22.2.2=0 then some (k22.1,(⟨0,0,[],0,[],(⟨0,[],0,[],[]⟩:Form),[]⟩:Core),k22.2.2) else(atI a1.kids 2).bind fun e24=>(sp_l7Fun n k22.1 k17.1 e24 a3).bind fun k25=>(apB 168 [k25.2.1] k22.2.1).bind fun z26=>some (k25.1,(⟨6,0,[],0,[],(⟨0,[],0,[],[]⟩:Form),z26⟩:Core),k25.2.2))))))))))))
def sp_l7Fun:Nat→Expansion→(List Form)→Form→Int→Option (Expansion×Core×Int)
 | 0,_,_,_,_=>none
 | n+1,a0,a1,a2,a3=>(sp_l7Scope n a0).bind fun k1=>(if(!k1.2)=true then some (k1.1,(⟨0,0,[],0,[],(⟨0,[],0,[],[]⟩:Form),[]⟩:Core),4) else seqS (forI (fun(s4:(List Bind)×(List Macro)×Int×Int×Int×(List Int)) (i3:Nat) (x6:Form)=>((if ¬x6.kind=1 then some (Sum.inl ((⟨s4.1,s4.2.1,s4.2.2.1,s4.2.2.2.1,s4.2.2.2.2.1⟩:Expansion),(⟨0,0,[],0,[],(⟨0,[],0,[],[]⟩:Form),[]⟩:Core),1)) else(sp_l2Change n x6 s4.2.2.1 0).bind fun k13=>(sp_FormValid n k13).bind fun k14=>(if(!k14)=true then some (Sum.inl ((⟨s4.1,s4.2.1,s4.2.2.1,s4.2.2.2.1,s4.2.2.2.2.1⟩:Expansion),(⟨0,0,[],0,[],(⟨0,[],0,[],[]⟩:Form),[]⟩:Core),4)) else(sp_l7Bind n (⟨s4.1,s4.2.1,s4.2.2.1,s4.2.2.2.1,s4.2.2.2.2.1⟩:Expansion) k13).bind fun k16=>(if ¬k16.2=0 then some (Sum.inl (k16.1,(⟨0,0,[],0,[],(⟨0,[],0,[],[]⟩:Form),[]⟩:Core),k16.2)) else(apB 8 s4.2.2.2.2.2 [k16.1.id]).bind fun z18=>some (Sum.inr (k16.1.binds,k16.1.macros,k16.1.scope,k16.1.id,k16.1.steps,z18))))):Option ((Expansion×Core×Int)⊕((List Bind)×(List Macro)×Int×Int×Int×(List Int))))) 0 a1 (k1.1.binds,k1.1.macros,k1.1.scope,k1.1.id,k1.1.steps,[])) (fun(s4:(List Bind)×(List Macro)×Int×Int×Int×(List Int))=>(sp_l2Change n a2 s4.2.2.1 0).bind fun k19=>(sp_FormValid n k19).bind fun k20=>(if(!k20)=true then some ((⟨s4.1,s4.2.1,s4.2.2.1,s4.2.2.2.1,s4.2.2.2.2.1⟩:Expansion),(⟨0,0,[],0,[],(⟨0,[],0,[],[]⟩:Form),[]⟩:Core),4) else(sp_l7Expand n (⟨s4.1,s4.2.1,s4.2.2.1,s4.2.2.2.1,s4.2.2.2.2.1⟩:Expansion) k19 a3).bind fun k22=>some (k22.1,(⟨5,0,[],0,s4.2.2.2.2.2,(⟨0,[],0,[],[]⟩:Form),[k22.2.1]⟩:Core),k22.2.2))))
def sp_l7Macros:Nat→Expansion→(List Form)→(List Form)→Form→Int→Option (Expansion×Core×Int)
 | 0,_,_,_,_,_=>none
 | n+1,a0,a1,a2,a3,a4=>(sp_l7Scope n a0).bind fun k1=>(if(!k1.2)=true then some (k1.1,(⟨0,0,[],0,[],(⟨0,[],0,[],[]⟩:Form),[]⟩:Core),4) else seqS (forI (fun(s4:(List Bind)×(List Macro)×Int×Int×Int) (i3:Nat) (x6:Form)=>((sp_l2Change n x6 s4.2.2.1 0).bind fun k12=>(atI a2 (i3:Int)).bind fun e13=>(sp_l2Change n e13 s4.2.2.1 0).bind fun k14=>(if ¬x6.kind=1 then some (Sum.inl ((⟨s4.1,s4.2.1,s4.2.2.1,s4.2.2.2.1,s4.2.2.2.2⟩:Expansion),(⟨0,0,[],0,[],(⟨0,[],0,[],[]⟩:Form),[]⟩:Core),1)) else Option.bind ((sp_FormValid n k12).bind fun k24=>(if(!k24)=true then some true else(sp_FormValid n k14).bind fun k26=>some (!k26)):Option (Bool)) (fun(o16:Bool)=>(if o16=true then some (Sum.inl ((⟨s4.1,s4.2.1,s4.2.2.1,s4.2.2.2.1,s4.2.2.2.2⟩:Expansion),(⟨0,0,[],0,[],(⟨0,[],0,[],[]⟩:Form),[]⟩:Core),4)) else(sp_ParseRules n k14).bind fun k18=>(if(!k18.2.2)=true then some (Sum.inl ((⟨s4.1,s4.2.1,s4.2.2.1,s4.2.2.2.1,s4.2.2.2.2⟩:Expansion),(⟨0,0,[],0,[],(⟨0,[],0,[],[]⟩:Form),[]⟩:Core),1)) else(sp_l7Bind n (⟨s4.1,s4.2.1,s4.2.2.1,s4.2.2.2.1,s4.2.2.2.2⟩:Expansion) k12).bind fun k20=>(if ¬k20.2=0 then some (Sum.inl (k20.1,(⟨0,0,[],0,[],(⟨0,[],0,[],[]⟩:Form),[]⟩:Core),k20.2)) else(apB 56 [] k20.1.macros).bind fun z22=>(apB 56 z22 [(⟨k20.1.id,k18.1,k18.2.1⟩:Macro)]).bind fun z23=>some (Sum.inr (k20.1.binds,z23,k20.1.scope,k20.1.id,k20.1.steps))))))):Option ((Expansion×Core×Int)⊕((List Bind)×(List Macro)×Int×Int×Int)))) 0 a1 (k1.1.binds,k1.1.macros,k1.1.scope,k1.1.id,k1.1.steps)) (fun(s4:(List Bind)×(List Macro)×Int×Int×Int)=>(sp_l2Change n a3 s4.2.2.1 0).bind fun k27=>(sp_FormValid n k27).bind fun k28=>(if(!k28)=true then some ((⟨s4.1,s4.2.1,s4.2.2.1,s4.2.2.2.1,s4.2.2.2.2⟩:Expansion),(⟨0,0,[],0,[],(⟨0,[],0,[],[]⟩:Form),[]⟩:Core),4) else(sp_l7Expand n (⟨s4.1,s4.2.1,s4.2.2.1,s4.2.2.2.1,s4.2.2.2.2⟩:Expansion) k27 a4).bind fun k30=>some (k30.1,k30.2.1,k30.2.2))))
end
theorem g_sp_l7All (n:Nat):(∀(a0:Expansion) (a1:List Form) (a2:Int) {r:Expansion×(List Core)×Int},sp_l7All n a0 a1 a2=some r→SCall X.E 260 [aE (kExpansion a0),lE 5 (ksForm a1),iE a2] [] (.tup [aE (kExpansion r.1),lE 11 (ksCore r.2.1),iE r.2.2]) [])∧(∀(a0:Expansion) (a1:Form) (a2:Int) (a3:Int) {r:Expansion×Core×Int},sp_l7Apply n a0 a1 a2 a3=some r→SCall X.E 259 [aE (kExpansion a0),aE (kForm a1),iE a2,iE a3] [] (.tup [aE (kExpansion r.1),aE (kCore r.2.1),iE r.2.2]) [])∧(∀(a0:Expansion) (a1:Form) (a2:Int) {r:Expansion×Core×Int},sp_l7Expand n a0 a1 a2=some r→SCall X.E 218 [aE (kExpansion a0),aE (kForm a1),iE a2] [] (.tup [aE (kExpansion r.1),aE (kCore r.2.1),iE r.2.2]) [])∧(∀(a0:Expansion) (a1:Form) (a2:Int) (a3:Int) {r:Expansion×Core×Int},sp_l7Form n a0 a1 a2 a3=some r→SCall X.E 258 [aE (kExpansion a0),aE (kForm a1),iE a2,iE a3] [] (.tup [aE (kExpansion r.1),aE (kCore r.2.1),iE r.2.2]) [])∧(∀(a0:Expansion) (a1:List Form) (a2:Form) (a3:Int) {r:Expansion×Core×Int},sp_l7Fun n a0 a1 a2 a3=some r→SCall X.E 281 [aE (kExpansion a0),lE 5 (ksForm a1),aE (kForm a2),iE a3] [] (.tup [aE (kExpansion r.1),aE (kCore r.2.1),iE r.2.2]) [])∧(∀(a0:Expansion) (a1:List Form) (a2:List Form) (a3:Form) (a4:Int) {r:Expansion×Core×Int},sp_l7Macros n a0 a1 a2 a3 a4=some r→SCall X.E 283 [aE (kExpansion a0),lE 5 (ksForm a1),lE 5 (ksForm a2),aE (kForm a3),iE a4] [] (.tup [aE (kExpansion r.1),aE (kCore r.2.1),iE r.2.2]) []):=by
 induction n with
 | zero=>exact⟨(by intros; rename_i h; cases h),(by intros; rename_i h; cases h),(by intros; rename_i h; cases h),(by intros; rename_i h; cases h),(by intros; rename_i h; cases h),(by intros; rename_i h; cases h)⟩
 | succ n ih=>
  refine⟨?_,?_,?_,?_,?_,?_⟩
  ·intro a0 a1 a2 r h0
   rw[sp_l7All] at h0
   refine .n Tryz.func260 (fun L ks low K hl hL hlen hK=>?_)
   refine .af [] T [(3,pw 3),(6,pw 6)] [.o 3 (.cells ((kExpansion a0).map .d)),.o 6 (.cells [fE 3 (ksBind []),fE 3 (ksMacro []),iE 0,iE 0,iE 0])] ?_
   refine .a [.sv (ksCore [])] (A (dCore.lit []) T) [(9,fE 11 (ksCore []))] ?_
   refine .a [] T [(10,iE 0)] ?_
   refine .ow 9 100041 35 [1,2,3,6,10] rfl rfl (by kernel_rfl) ?_
   refine .it h0 rfl [1,2,3,6] (fun s1=>[(9,.gs (.own 100041) 11 (ksCore s1.1)),(10,iE s1.2.1)]) (fun s1=>[.o 3 (.cells [lE 3 (ksBind s1.2.2.1),lE 3 (ksMacro s1.2.2.2.1),iE s1.2.2.2.2.1,iE s1.2.2.2.2.2.1,iE s1.2.2.2.2.2.2]),.o 100041 (.tok (ksCore s1.1).length 35)]) n1 [] (by kernel_rfl) (fun nk2 s1 h0=>?_)
   obtain⟨y1,h1,hw1,hn1⟩:=iter_cons h0
   refine .a [.v (a1.length:Int)] (A (dForm.len' a1) T) [(18,dE (s1.2.1<(a1.length:Int)))] ?_
   refine .sn 1 dForm a1 (by kernel_rfl) (fun hb3=>?_)
   refine .jP h1 (fun hc4 h1=>?_) (fun hc4 h1=>?_)
   ·obtain⟨e5,he5,h1⟩:=bnd h1
    obtain⟨k6,hk6,h1⟩:=bnd h1
    refine .ad mixed [(3,[.cs (kForm e5)]),(6,[.call [] (.tup [aE (kExpansion k6.1),aE (kCore k6.2.1),iE k6.2.2]) []])] [] (A (dForm.idx he5) (A (ih.2.2.1 _ _ _ hk6) T)) [(11,pw 11),(12,pw 12),(13,iE k6.2.2)] [.o 11 (.cells ((kExpansion k6.1).map .d)),.o 12 (.cells ((kCore k6.2.1).map .d))] [] ?_
    refine .af [] T [] [.o 3 (.cells ((kExpansion k6.1).map .d))] ?_
    refine .a [] T [(34,dE (¬k6.2.2=0))] ?_
    refine .jP h1 (fun hc7 h1=>?_) (fun hc7 h1=>?_)
    ·refine .af [] T [(7,.gs (.own 100041) 11 (ksCore s1.1)),(8,iE k6.2.2)] [.o 6 (.cells ((kExpansion k6.1).map .d))] ?_
     cases h1
     cases hw1 _ rfl
     exact .rt hK
    ·obtain⟨z8,hz8,h1⟩:=bnd h1
     refine .aq [.sv (ksCore [k6.2.1]),.sv (ksCore z8)] [((ksCore s1.1).length:Int)] (A (dCore.lit [k6.2.1]) (A (dCore.ap hz8) T)) [(9,.gs (.own 100041) 11 (ksCore z8))] [.o 100041 (.tok (ksCore z8).length 35)] [] ?_
     refine .a [.pl] T [(10,iE (w64 (s1.2.1+1)))] ?_
     cases h1
     refine .kp [1,2,3,6,9,10] [] ?_
     refine .dr 11 (by kernel_rfl) ?_
     refine .dr 12 (by kernel_rfl) ?_
     exact .nI rfl _ (hn1 _ rfl) [] (by kernel_rfl)
   ·refine .af [] T [(7,.gs (.own 100041) 11 (ksCore s1.1)),(8,iE 0)] [.o 6 (.cells [lE 3 (ksBind s1.2.2.1),lE 3 (ksMacro s1.2.2.2.1),iE s1.2.2.2.2.1,iE s1.2.2.2.2.2.1,iE s1.2.2.2.2.2.2])] ?_
    cases h1
    cases hw1 _ rfl
    exact .rt hK
  ·intro a0 a1 a2 a3 r h0
   rw[sp_l7Apply] at h0
   refine .n Tryz.func259 (fun L ks low K hl hL hlen hK=>?_)
   refine .af [] T [(4,pw 4),(5,pw 5),(8,pw 8),(9,pw 9)] [.o 4 (.cells ((kExpansion a0).map .d)),.o 5 (.cells ((kForm a1).map .d)),.o 8 (.cells [fE 3 (ksBind []),fE 3 (ksMacro []),iE 0,iE 0,iE 0]),.o 9 (.cells [iE 0,iE 0,sE [],iE 0,fE 1 (ksInt []),iE 0,sE [],iE 0,fE 1 (ksInt []),fE 5 (ksForm []),fE 11 (ksCore [])])] ?_
   obtain⟨k1,hk1,h0⟩:=bnd h0
   refine .af [.call [] (.tup [aE (kExpansion k1.1),aE (kForm k1.2.1),iE k1.2.2]) []] (A (w_sp_l7Step n _ _ _ _ hk1) T) [(11,pw 11),(12,iE k1.2.2)] [.o 4 (.cells ((kExpansion k1.1).map .d)),.o 11 (.cells ((kForm k1.2.1).map .d))] ?_
   refine .a [] T [(23,dE (¬k1.2.2=0))] ?_
   refine .jP h0 (fun hc2 h0=>?_) (fun hc2 h0=>?_)
   ·refine .af [] T [(10,iE k1.2.2)] [.o 8 (.cells ((kExpansion k1.1).map .d))] ?_
    cases h0
    exact .rt hK
   ·obtain⟨k3,hk3,h0⟩:=bnd h0
    refine .af [.call [] (.tup [aE (kExpansion k3.1),aE (kCore k3.2.1),iE k3.2.2]) []] (A (ih.2.2.1 _ _ _ hk3) T) [(10,iE k3.2.2)] [.o 8 (.cells ((kExpansion k3.1).map .d)),.o 9 (.cells ((kCore k3.2.1).map .d))] ?_
    cases h0
    exact .rt hK
  ·intro a0 a1 a2 r h0
   rw[sp_l7Expand] at h0
   refine .n Tryz.func218 (fun L ks low K hl hL hlen hK=>?_)
   refine .af [] T [(3,pw 3),(4,pw 4),(6,pw 6),(7,pw 7)] [.o 3 (.cells ((kExpansion a0).map .d)),.o 4 (.cells ((kForm a1).map .d)),.o 6 (.cells [fE 3 (ksBind []),fE 3 (ksMacro []),iE 0,iE 0,iE 0]),.o 7 (.cells [iE 0,iE 0,sE [],iE 0,fE 1 (ksInt []),iE 0,sE [],iE 0,fE 1 (ksInt []),fE 5 (ksForm []),fE 11 (ksCore [])])] ?_
   refine .a [] T [(15,dE (a1.kind=2))] ?_
   refine .jP h0 (fun hc1 h0=>?_) (fun hc1 h0=>?_)
   ·refine .ad mixed [] [] T [(8,iE 0)] [.o 6 (.cells ((kExpansion a0).map .d)),.c 7 0 (iE 3),.c 7 3 (iE a1.n)] [] ?_
    cases h0
    exact .rt hK
   ·refine .a [] T [(22,dE (a1.kind=1))] ?_
    refine .jP h0 (fun hc2 h0=>?_) (fun hc2 h0=>?_)
    ·obtain⟨k3,hk3,h0⟩:=bnd h0
     refine .af [.call [] (.tup [aE (kExpansion k3.1),aE (kCore k3.2.1),iE k3.2.2]) []] (A (w_sp_l7Name n _ _ hk3) T) [(8,iE k3.2.2)] [.o 6 (.cells ((kExpansion k3.1).map .d)),.o 7 (.cells ((kCore k3.2.1).map .d))] ?_
     cases h0
     exact .rt hK
    ·refine .a [.v (a1.kids.length:Int)] (A (dForm.len' a1.kids) T) [(30,lE 5 (ksForm a1.kids)),(32,dE ((a1.kids.length:Int)=0))] ?_
     refine .sn 30 dForm a1.kids (by kernel_rfl) (fun hb4=>?_)
     refine .jP h0 (fun hc5 h0=>?_) (fun hc5 h0=>?_)
     ·refine .af [] T [(8,iE 1)] [.o 6 (.cells ((kExpansion a0).map .d))] ?_
      cases h0
      exact .rt hK
     ·obtain⟨e6,he6,h0⟩:=bnd h0
      refine .a [.cs (kForm e6)] (A (dForm.idx he6) T) [(40,dE (e6.kind=1))] ?_
      refine .bS h0 rfl [2,3,4,6,7] (fun o7=>[]) n1 n1 (fun o7 h0=>?_) (fun y1 h1 hj1 hw1=>?_)
      ·obtain⟨k8,hk8,h0⟩:=bnd h0
       refine .af [.call [] (.tup [aE (kExpansion k8.1),lE 11 (ksCore k8.2.1),iE k8.2.2]) []] (A (ih.1 _ _ _ hk8) T) [(11,lE 11 (ksCore k8.2.1)),(12,iE k8.2.2)] [.o 3 (.cells ((kExpansion k8.1).map .d))] ?_
       refine .af [] T [(8,iE k8.2.2)] [.o 6 (.cells ((kExpansion k8.1).map .d)),.c 7 0 (iE 6),.c 7 10 (lE 11 (ksCore k8.2.1))] ?_
       cases h0
       exact .rt hK
      ·refine .jP h1 (fun hc9 h1=>?_) (fun hc9 h1=>?_)
       ·obtain⟨k10,hk10,h1⟩:=bnd h1
        refine .ad mixed [(3,[.cs (kForm e6)]),(5,[.call [] (.tup [iE k10.1,iE k10.2]) []])] [] (A (dForm.idx he6) (A (w_sp_l7Meaning n _ _ hk10) T)) [(9,iE k10.1),(10,iE k10.2)] [] [] ?_
        refine .a [] T [(50,iE k10.1)] ?_
        refine .a [] T [(51,dE (k10.1=4))] ?_
        refine .jP h1 (fun hc11 h1=>?_) (fun hc11 h1=>?_)
        ·refine .af [] T [(8,iE 2)] [.o 6 (.cells ((kExpansion a0).map .d))] ?_
         cases h1
         cases hw1 _ rfl
         exact .rt hK
        ·refine .a [] T [(55,dE (k10.1=1))] ?_
         refine .jP h1 (fun hc12 h1=>?_) (fun hc12 h1=>?_)
         ·obtain⟨k13,hk13,h1⟩:=bnd h1
          refine .af [.call [] (.tup [aE (kExpansion k13.1),aE (kCore k13.2.1),iE k13.2.2]) []] (A (ih.2.2.2.1 _ _ _ _ hk13) T) [(8,iE k13.2.2)] [.o 6 (.cells ((kExpansion k13.1).map .d)),.o 7 (.cells ((kCore k13.2.1).map .d))] ?_
          cases h1
          cases hw1 _ rfl
          exact .rt hK
         ·refine .a [] T [(65,dE (k10.1=2))] ?_
          refine .jP h1 (fun hc14 h1=>?_) (fun hc14 h1=>?_)
          ·obtain⟨k15,hk15,h1⟩:=bnd h1
           refine .af [.call [] (.tup [aE (kExpansion k15.1),aE (kCore k15.2.1),iE k15.2.2]) []] (A (ih.2.1 _ _ _ _ hk15) T) [(8,iE k15.2.2)] [.o 6 (.cells ((kExpansion k15.1).map .d)),.o 7 (.cells ((kCore k15.2.1).map .d))] ?_
           cases h1
           cases hw1 _ rfl
           exact .rt hK
          ·cases h1
           exact .lg (hj1 _ rfl) []
       ·cases h1
        exact .lg (hj1 _ rfl) []
  ·intro a0 a1 a2 a3 r h0
   rw[sp_l7Form] at h0
   refine .n Tryz.func258 (fun L ks low K hl hL hlen hK=>?_)
   refine .af [] T [(4,pw 4),(5,pw 5),(8,pw 8),(9,pw 9)] [.o 4 (.cells ((kExpansion a0).map .d)),.o 5 (.cells ((kForm a1).map .d)),.o 8 (.cells [fE 3 (ksBind []),fE 3 (ksMacro []),iE 0,iE 0,iE 0]),.o 9 (.cells [iE 0,iE 0,sE [],iE 0,fE 1 (ksInt []),iE 0,sE [],iE 0,fE 1 (ksInt []),fE 5 (ksForm []),fE 11 (ksCore [])])] ?_
   refine .bP h0 rfl [2,3,4,5,8,9] (fun o1=>[(21,bE o1)]) n1 n1 (fun o1 h0=>?_) (fun y1 h1 hj1=>?_)
   ·refine .jT h0 (fun hc2 h0=>?_) (fun hc2 h0=>?_)
    ·obtain⟨e3,he3,h0⟩:=bnd h0
     obtain⟨k4,hk4,h0⟩:=bnd h0
     refine .ad mixed [(3,[.cs (kForm e3)]),(5,[.call [] (aE (kForm k4)) []])] [] (A (dForm.idx he3) (A (w_sp_StripForm n _ hk4) T)) [(10,iE 0)] [.o 8 (.cells ((kExpansion a0).map .d)),.c 9 0 (iE 4),.c 9 5 (iE k4.kind),.c 9 6 (sE k4.name),.c 9 7 (iE k4.n),.c 9 8 (lE 1 (ksInt k4.scopes)),.c 9 9 (lE 5 (ksForm k4.kids))] [] ?_
     cases h0
     exact .rt hK
    ·refine .bP h0 rfl [2,3,4,5,8,9] (fun o5=>[(37,bE o5)]) n1 n1 (fun o5 h0=>?_) (fun y1 h1 hj1=>?_)
     ·refine .jT h0 (fun hc6 h0=>?_) (fun hc6 h0=>?_)
      ·obtain⟨z7,hz7,h0⟩:=bnd h0
       obtain⟨k8,hk8,h0⟩:=bnd h0
       refine .ad mixed [(3,[.sv (ksForm z7)]),(5,[.call [] (.tup [aE (kExpansion k8.1),lE 11 (ksCore k8.2.1),iE k8.2.2]) []])] [] (A (dForm.sln hz7) (A (ih.1 _ _ _ hk8) T)) [(11,pw 11),(12,lE 11 (ksCore k8.2.1)),(13,iE k8.2.2)] [.o 11 (.cells ((kExpansion k8.1).map .d))] [] ?_
       refine .af [] T [(10,iE k8.2.2)] [.o 8 (.cells ((kExpansion k8.1).map .d)),.c 9 0 (iE 7),.c 9 10 (lE 11 (ksCore k8.2.1))] ?_
       cases h0
       exact .rt hK
      ·refine .bP h0 rfl [2,3,4,5,8,9] (fun o9=>[(60,bE o9)]) n1 n1 (fun o9 h0=>?_) (fun y1 h1 hj1=>?_)
       ·refine .jT h0 (fun hc10 h0=>?_) (fun hc10 h0=>?_)
        ·obtain⟨e11,he11,h0⟩:=bnd h0
         obtain⟨e12,he12,h0⟩:=bnd h0
         obtain⟨k13,hk13,h0⟩:=bnd h0
         refine .ad mixed [(3,[.cs (kForm e11)]),(8,[.cs (kForm e12)]),(11,[.call [] (.tup [aE (kExpansion k13.1),aE (kCore k13.2.1),iE k13.2.2]) []])] [] (A (dForm.idx he11) (A (dForm.idx he12) (A (ih.2.2.2.2.1 _ _ _ _ hk13) T))) [(10,iE k13.2.2)] [.o 8 (.cells ((kExpansion k13.1).map .d)),.o 9 (.cells ((kCore k13.2.1).map .d))] [] ?_
         cases h0
         exact .rt hK
        ·refine .bP h0 rfl [2,3,4,5,8,9] (fun o14=>[(103,bE o14)]) n1 n1 (fun o14 h0=>?_) (fun y1 h1 hj1=>?_)
         ·refine .jT h0 (fun hc15 h0=>?_) (fun hc15 h0=>?_)
          ·refine .af [] T [(10,iE 1)] [.o 8 (.cells ((kExpansion a0).map .d))] ?_
           cases h0
           exact .rt hK
          ·obtain⟨e16,he16,h0⟩:=bnd h0
           obtain⟨k17,hk17,h0⟩:=bnd h0
           refine .a [.cs (kForm e16),.call [] (.tup [lE 5 (ksForm k17.1),lE 5 (ksForm k17.2.1),bE k17.2.2]) []] (A (dForm.idx he16) (A (w_sp_l7Pairs n _ hk17) T)) [(14,lE 5 (ksForm k17.1)),(15,lE 5 (ksForm k17.2.1)),(16,bE k17.2.2)] ?_
           refine .a [] T [(116,bE (!k17.2.2))] ?_
           refine .jT h0 (fun hc18 h0=>?_) (fun hc18 h0=>?_)
           ·refine .af [] T [(10,iE 1)] [.o 8 (.cells ((kExpansion a0).map .d))] ?_
            cases h0
            exact .rt hK
           ·refine .a [] T [(120,dE (a2=5))] ?_
            refine .jP h0 (fun hc19 h0=>?_) (fun hc19 h0=>?_)
            ·obtain⟨e20,he20,h0⟩:=bnd h0
             obtain⟨k21,hk21,h0⟩:=bnd h0
             refine .ad mixed [(5,[.cs (kForm e20)]),(8,[.call [] (.tup [aE (kExpansion k21.1),aE (kCore k21.2.1),iE k21.2.2]) []])] [] (A (dForm.idx he20) (A (ih.2.2.2.2.2 _ _ _ _ _ hk21) T)) [(10,iE k21.2.2)] [.o 8 (.cells ((kExpansion k21.1).map .d)),.o 9 (.cells ((kCore k21.2.1).map .d))] [] ?_
             cases h0
             exact .rt hK
            ·obtain⟨k22,hk22,h0⟩:=bnd h0
             refine .af [.call [] (.tup [aE (kExpansion k22.1),lE 11 (ksCore k22.2.1),iE k22.2.2]) []] (A (ih.1 _ _ _ hk22) T) [(17,lE 11 (ksCore k22.2.1)),(18,iE k22.2.2)] [.o 4 (.cells ((kExpansion k22.1).map .d))] ?_
             refine .a [] T [(142,dE (¬k22.2.2=0))] ?_
             refine .jP h0 (fun hc23 h0=>?_) (fun hc23 h0=>?_)
             ·refine .af [] T [(10,iE k22.2.2)] [.o 8 (.cells ((kExpansion k22.1).map .d))] ?_
              cases h0
              exact .rt hK
             ·obtain⟨e24,he24,h0⟩:=bnd h0
              obtain⟨k25,hk25,h0⟩:=bnd h0
              refine .ad mixed [(4,[.cs (kForm e24)]),(7,[.call [] (.tup [aE (kExpansion k25.1),aE (kCore k25.2.1),iE k25.2.2]) []])] [] (A (dForm.idx he24) (A (ih.2.2.2.2.1 _ _ _ _ hk25) T)) [(19,pw 19),(20,iE k25.2.2)] [.o 4 (.cells ((kExpansion k25.1).map .d)),.o 19 (.cells ((kCore k25.2.1).map .d))] [] ?_
              obtain⟨z26,hz26,h0⟩:=bnd h0
              refine .ad mixed [(2,[.sv (ksCore [k25.2.1])]),(4,[.sv (ksCore z26)])] [] (A (dCore.lit [k25.2.1]) (A (dCore.ap hz26) T)) [(10,iE k25.2.2)] [.o 8 (.cells ((kExpansion k25.1).map .d)),.c 9 0 (iE 6),.c 9 10 (.gs (.own 100162) 11 (ksCore z26)),.o 100162 (.tok (ksCore z26).length 35)] [] ?_
              cases h0
              exact .rt hK
         ·by_cases g27:¬a2=4
          ·have h1:=iteP g27 h1
           by_cases g28:¬a2=5
           ·have h1:=iteP g28 h1
            refine .a (rb 8 true []) (R 3 (dt g27) (R 5 (dt g28) T)) [(103,bE true)] ?_
            cases h1
            exact .lg hj1 []
           ·have h1:=iteN g28 h1
            refine .a (rb 3 true (rb 3 false [.v (a1.kids.length:Int),.b false,.b false])) (R 3 (dt g27) (R 2 (df g28) (A (A (df g28) (dForm.len' a1.kids)) (R 2 (df g28) T)))) [(103,dE (¬(a1.kids.length:Int)=3))] ?_
            cases h1
            exact .lg hj1 []
          ·have h1:=iteN g27 h1
           refine .a (rb 6 false [.v (a1.kids.length:Int),.b false,.b false]) (R 3 (df g27) (R 2 B0 (A (A B0 (dForm.len' a1.kids)) (R 2 B0 T)))) [(103,dE (¬(a1.kids.length:Int)=3))] ?_
           cases h1
           exact .lg hj1 []
       ·by_cases g29:a2=1
        ·have h1:=iteP g29 h1
         by_cases g30:(a1.kids.length:Int)=3
         ·have h1:=iteP g30 h1
          obtain⟨e31,he31,h1⟩:=bnd h1
          refine .a (rb 3 true (.v (a1.kids.length:Int)::(rb 5 true (.cs (kForm e31)::(rb 4 true []))))) (R 2 (dt g29) (A (A (dt g29) (dForm.len' a1.kids)) (R 2 (dt g29) (R 2 (dt g30) (A (A (dt g30) (dForm.idx he31)) (R 4 (dt g30) T)))))) [(60,dE (e31.kind=3))] ?_
          cases h1
          exact .lg hj1 []
         ·have h1:=iteN g30 h1
          refine .a (rb 3 true (.v (a1.kids.length:Int)::(.b true::(.b true::(rb 7 false []))))) (R 2 (dt g29) (A (A (dt g29) (dForm.len' a1.kids)) (R 2 (dt g29) (R 7 (df g30) T)))) [(60,bE false)] ?_
          cases h1
          exact .lg hj1 []
        ·have h1:=iteN g29 h1
         refine .a (rb 12 false []) (R 5 (df g29) (R 7 B0 T)) [(60,bE false)] ?_
         cases h1
         exact .lg hj1 []
     ·by_cases g32:a2=2
      ·have h1:=iteP g32 h1
       refine .a (rb 3 true [.v (a1.kids.length:Int),.b true,.b true]) (R 2 (dt g32) (A (A (dt g32) (dForm.len' a1.kids)) (R 2 (dt g32) T))) [(37,dE ((a1.kids.length:Int)=4))] ?_
       cases h1
       exact .lg hj1 []
      ·have h1:=iteN g32 h1
       refine .a (rb 5 false []) (R 5 (df g32) T) [(37,bE false)] ?_
       cases h1
       exact .lg hj1 []
   ·by_cases g33:a2=3
    ·have h1:=iteP g33 h1
     refine .a (rb 3 true [.v (a1.kids.length:Int),.b true,.b true]) (R 2 (dt g33) (A (A (dt g33) (dForm.len' a1.kids)) (R 2 (dt g33) T))) [(21,dE ((a1.kids.length:Int)=2))] ?_
     cases h1
     exact .lg hj1 []
    ·have h1:=iteN g33 h1
     refine .a (rb 5 false []) (R 5 (df g33) T) [(21,bE false)] ?_
     cases h1
     exact .lg hj1 []
  ·intro a0 a1 a2 a3 r h0
   rw[sp_l7Fun] at h0
   refine .n Tryz.func281 (fun L ks low K hl hL hlen hK=>?_)
   refine .af [] T [(4,pw 4),(6,pw 6),(8,pw 8),(9,pw 9)] [.o 4 (.cells ((kExpansion a0).map .d)),.o 6 (.cells ((kForm a2).map .d)),.o 8 (.cells [fE 3 (ksBind []),fE 3 (ksMacro []),iE 0,iE 0,iE 0]),.o 9 (.cells [iE 0,iE 0,sE [],iE 0,fE 1 (ksInt []),iE 0,sE [],iE 0,fE 1 (ksInt []),fE 5 (ksForm []),fE 11 (ksCore [])])] ?_
   obtain⟨k1,hk1,h0⟩:=bnd h0
   refine .af [.call [] (.tup [aE (kExpansion k1.1),bE k1.2]) []] (A (w_sp_l7Scope n _ hk1) T) [(11,bE k1.2)] [.o 4 (.cells ((kExpansion k1.1).map .d))] ?_
   refine .a [] T [(26,bE (!k1.2))] ?_
   refine .jT h0 (fun hc2 h0=>?_) (fun hc2 h0=>?_)
   ·refine .af [] T [(10,iE 4)] [.o 8 (.cells ((kExpansion k1.1).map .d))] ?_
    cases h0
    exact .rt hK
   ·refine .af [] T [(12,pw 12)] [.o 12 (.cells [iE 5,iE 0,sE [],iE 0,fE 1 (ksInt []),iE 0,sE [],iE 0,fE 1 (ksInt []),fE 5 (ksForm []),fE 11 (ksCore [])])] ?_
    refine .a [] T [(13,iE 0)] ?_
    refine .oc 12 4 100073 3 (by kernel_rfl) ?_
    refine .lI h0 rfl [1,3,4,6,8,9,12] (fun i3 s4=>[(13,iE (i3:Int))]) (fun i3 s4=>[.o 4 (.cells [lE 3 (ksBind s4.1),lE 3 (ksMacro s4.2.1),iE s4.2.2.1,iE s4.2.2.2.1,iE s4.2.2.2.2.1]),.c 12 4 (.gs (.own 100073) 1 (ksInt s4.2.2.2.2.2)),.o 100073 (.tok (ksInt s4.2.2.2.2.2).length 3)]) n2 [] (by kernel_rfl) (fun i3 s4 q5 hd7 hi9 h0=>?_)
    refine .a [.v (a1.length:Int)] (A (dForm.len' a1) T) [(33,dE ((i3:Int)<(a1.length:Int)))] ?_
    refine .sn 1 dForm a1 (by kernel_rfl) (fun hb10=>?_)
    refine .lc hd7 rfl (by kernel_rfl) (fun x6 q52 hc11 hx6 hd8 hd8l=>?_) (fun hc11=>?_)
    ·subst hc11
     obtain⟨y1,h1,hw1,hn1⟩:=forI_cons h0
     refine .a [.cs (kForm x6)] (A (dForm.idn hx6) T) [(41,dE (¬x6.kind=1))] ?_
     refine .jP h1 (fun hc12 h1=>?_) (fun hc12 h1=>?_)
     ·refine .af [] T [(10,iE 1)] [.o 8 (.cells [lE 3 (ksBind s4.1),lE 3 (ksMacro s4.2.1),iE s4.2.2.1,iE s4.2.2.2.1,iE s4.2.2.2.2.1])] ?_
      cases h1
      cases hw1 _ rfl
      exact .rt hK
     ·obtain⟨k13,hk13,h1⟩:=bnd h1
      refine .ad mixed [(2,[.cs (kForm x6)]),(6,[.call [] (aE (kForm k13)) []])] [] (A (dForm.idn hx6) (A (w_sp_l2Change n _ _ _ hk13) T)) [(14,pw 14)] [.o 14 (.cells ((kForm k13).map .d))] [] ?_
      obtain⟨k14,hk14,h1⟩:=bnd h1
      refine .a [.call [] (bE k14) []] (A (w_sp_FormValid n _ hk14) T) [(53,bE (!k14))] ?_
      refine .jT h1 (fun hc15 h1=>?_) (fun hc15 h1=>?_)
      ·refine .af [] T [(10,iE 4)] [.o 8 (.cells [lE 3 (ksBind s4.1),lE 3 (ksMacro s4.2.1),iE s4.2.2.1,iE s4.2.2.2.1,iE s4.2.2.2.2.1])] ?_
       cases h1
       cases hw1 _ rfl
       exact .rt hK
      ·obtain⟨k16,hk16,h1⟩:=bnd h1
       refine .af [.call [] (.tup [aE (kExpansion k16.1),iE k16.2]) []] (A (w_sp_l7Bind n _ _ hk16) T) [(15,pw 15),(16,iE k16.2)] [.o 15 (.cells ((kExpansion k16.1).map .d))] ?_
       refine .af [] T [] [.o 4 (.cells ((kExpansion k16.1).map .d))] ?_
       refine .a [] T [(64,dE (¬k16.2=0))] ?_
       refine .jP h1 (fun hc17 h1=>?_) (fun hc17 h1=>?_)
       ·refine .af [] T [(10,iE k16.2)] [.o 8 (.cells ((kExpansion k16.1).map .d))] ?_
        cases h1
        cases hw1 _ rfl
        exact .rt hK
       ·obtain⟨z18,hz18,h1⟩:=bnd h1
        refine .aq [.sv (ksInt [k16.1.id]),.sv (ksInt z18)] [((ksInt s4.2.2.2.2.2).length:Int)] (A (dInt.lit [k16.1.id]) (A (dInt.ap hz18) T)) [] [.c 12 4 (.gs (.own 100073) 1 (ksInt z18)),.o 100073 (.tok (ksInt z18).length 3)] [] ?_
        refine .a [.v ((i3+1:Nat):Int)] (A (wn (i:=i3) (by omega)) T) [(13,iE ((i3+1:Nat):Int))] ?_
        cases h1
        refine .kp [1,3,4,6,8,9,12,13] [] ?_
        refine .dr 14 (by kernel_rfl) ?_
        refine .dr 15 (by kernel_rfl) ?_
        exact .nL rfl (i3+1) _ hd8 hd8l (hn1 _ rfl) [] (by kernel_rfl)
    ·subst hc11
     have h0:=forI_nil h0
     obtain⟨k19,hk19,h0⟩:=bnd h0
     refine .af [.call [] (aE (kForm k19)) []] (A (w_sp_l2Change n _ _ _ hk19) T) [(17,pw 17)] [.o 17 (.cells ((kForm k19).map .d))] ?_
     obtain⟨k20,hk20,h0⟩:=bnd h0
     refine .a [.call [] (bE k20) []] (A (w_sp_FormValid n _ hk20) T) [(81,bE (!k20))] ?_
     refine .jT h0 (fun hc21 h0=>?_) (fun hc21 h0=>?_)
     ·refine .af [] T [(10,iE 4)] [.o 8 (.cells [lE 3 (ksBind s4.1),lE 3 (ksMacro s4.2.1),iE s4.2.2.1,iE s4.2.2.2.1,iE s4.2.2.2.2.1])] ?_
      cases h0
      exact .rt hK
     ·obtain⟨k22,hk22,h0⟩:=bnd h0
      refine .af [.call [] (.tup [aE (kExpansion k22.1),aE (kCore k22.2.1),iE k22.2.2]) []] (A (ih.2.2.1 _ _ _ hk22) T) [(18,pw 18),(19,iE k22.2.2)] [.o 4 (.cells ((kExpansion k22.1).map .d)),.o 18 (.cells ((kCore k22.2.1).map .d))] ?_
      refine .af [.sv (ksCore [k22.2.1])] (A (dCore.lit [k22.2.1]) T) [] [.c 12 10 (fE 11 (ksCore [k22.2.1]))] ?_
      refine .ad mixed [] [] T [(10,iE k22.2.2)] [.o 8 (.cells ((kExpansion k22.1).map .d)),.c 9 0 (iE 5),.c 9 4 (.gs (.own 100073) 1 (ksInt s4.2.2.2.2.2)),.c 9 10 (fE 11 (ksCore [k22.2.1]))] [] ?_
      cases h0
      exact .rt hK
  ·intro a0 a1 a2 a3 a4 r h0
   rw[sp_l7Macros] at h0
   refine .n Tryz.func283 (fun L ks low K hl hL hlen hK=>?_)
   refine .af [] T [(5,pw 5),(8,pw 8),(10,pw 10),(11,pw 11)] [.o 5 (.cells ((kExpansion a0).map .d)),.o 8 (.cells ((kForm a3).map .d)),.o 10 (.cells [fE 3 (ksBind []),fE 3 (ksMacro []),iE 0,iE 0,iE 0]),.o 11 (.cells [iE 0,iE 0,sE [],iE 0,fE 1 (ksInt []),iE 0,sE [],iE 0,fE 1 (ksInt []),fE 5 (ksForm []),fE 11 (ksCore [])])] ?_
   obtain⟨k1,hk1,h0⟩:=bnd h0
   refine .af [.call [] (.tup [aE (kExpansion k1.1),bE k1.2]) []] (A (w_sp_l7Scope n _ hk1) T) [(13,bE k1.2)] [.o 5 (.cells ((kExpansion k1.1).map .d))] ?_
   refine .a [] T [(29,bE (!k1.2))] ?_
   refine .jT h0 (fun hc2 h0=>?_) (fun hc2 h0=>?_)
   ·refine .af [] T [(12,iE 4)] [.o 10 (.cells ((kExpansion k1.1).map .d))] ?_
    cases h0
    exact .rt hK
   ·refine .a [] T [(14,iE 0)] ?_
    refine .lI h0 rfl [1,2,4,5,8,10,11] (fun i3 s4=>[(14,iE (i3:Int))]) (fun i3 s4=>[.o 5 (.cells [lE 3 (ksBind s4.1),lE 3 (ksMacro s4.2.1),iE s4.2.2.1,iE s4.2.2.2.1,iE s4.2.2.2.2])]) n2 [] (by kernel_rfl) (fun i3 s4 q5 hd7 hi9 h0=>?_)
    refine .a [.v (a1.length:Int)] (A (dForm.len' a1) T) [(35,dE ((i3:Int)<(a1.length:Int)))] ?_
    refine .sn 1 dForm a1 (by kernel_rfl) (fun hb10=>?_)
    refine .lc hd7 rfl (by kernel_rfl) (fun x6 q52 hc11 hx6 hd8 hd8l=>?_) (fun hc11=>?_)
    ·subst hc11
     obtain⟨y1,h1,hw1,hn1⟩:=forI_cons h0
     obtain⟨k12,hk12,h1⟩:=bnd h1
     refine .ad mixed [(2,[.cs (kForm x6)]),(6,[.call [] (aE (kForm k12)) []])] [] (A (dForm.idn hx6) (A (w_sp_l2Change n _ _ _ hk12) T)) [(15,pw 15)] [.o 15 (.cells ((kForm k12).map .d))] [] ?_
     obtain⟨e13,he13,h1⟩:=bnd h1
     obtain⟨k14,hk14,h1⟩:=bnd h1
     refine .ad mixed [(2,[.cs (kForm e13)]),(6,[.call [] (aE (kForm k14)) []])] [] (A (dForm.idx he13) (A (w_sp_l2Change n _ _ _ hk14) T)) [(16,pw 16)] [.o 16 (.cells ((kForm k14).map .d))] [] ?_
     refine .a [.cs (kForm x6)] (A (dForm.idn hx6) T) [(57,dE (¬x6.kind=1))] ?_
     refine .jP h1 (fun hc15 h1=>?_) (fun hc15 h1=>?_)
     ·refine .af [] T [(12,iE 1)] [.o 10 (.cells [lE 3 (ksBind s4.1),lE 3 (ksMacro s4.2.1),iE s4.2.2.1,iE s4.2.2.2.1,iE s4.2.2.2.2])] ?_
      cases h1
      cases hw1 _ rfl
      exact .rt hK
     ·refine .bP h1 rfl [1,2,4,5,8,10,11,14,15,16] (fun o16=>[(67,bE o16)]) n1 n1 (fun o16 h1=>?_) (fun y2 h2 hj2=>?_)
      ·refine .jT h1 (fun hc17 h1=>?_) (fun hc17 h1=>?_)
       ·refine .af [] T [(12,iE 4)] [.o 10 (.cells [lE 3 (ksBind s4.1),lE 3 (ksMacro s4.2.1),iE s4.2.2.1,iE s4.2.2.2.1,iE s4.2.2.2.2])] ?_
        cases h1
        cases hw1 _ rfl
        exact .rt hK
       ·obtain⟨k18,hk18,h1⟩:=bnd h1
        refine .a [.call [] (.tup [lE 5 (ksForm k18.1),lE 10 (ksRule k18.2.1),bE k18.2.2]) []] (A (w_sp_ParseRules n _ hk18) T) [(17,lE 5 (ksForm k18.1)),(18,lE 10 (ksRule k18.2.1)),(19,bE k18.2.2)] ?_
        refine .a [] T [(77,bE (!k18.2.2))] ?_
        refine .jT h1 (fun hc19 h1=>?_) (fun hc19 h1=>?_)
        ·refine .af [] T [(12,iE 1)] [.o 10 (.cells [lE 3 (ksBind s4.1),lE 3 (ksMacro s4.2.1),iE s4.2.2.1,iE s4.2.2.2.1,iE s4.2.2.2.2])] ?_
         cases h1
         cases hw1 _ rfl
         exact .rt hK
        ·obtain⟨k20,hk20,h1⟩:=bnd h1
         refine .af [.call [] (.tup [aE (kExpansion k20.1),iE k20.2]) []] (A (w_sp_l7Bind n _ _ hk20) T) [(20,pw 20),(21,iE k20.2)] [.o 20 (.cells ((kExpansion k20.1).map .d))] ?_
         refine .af [] T [] [.o 5 (.cells ((kExpansion k20.1).map .d))] ?_
         refine .a [] T [(88,dE (¬k20.2=0))] ?_
         refine .jP h1 (fun hc21 h1=>?_) (fun hc21 h1=>?_)
         ·refine .af [] T [(12,iE k20.2)] [.o 10 (.cells ((kExpansion k20.1).map .d))] ?_
          cases h1
          cases hw1 _ rfl
          exact .rt hK
         ·obtain⟨z22,hz22,h1⟩:=bnd h1
          obtain⟨z23,hz23,h1⟩:=bnd h1
          refine .ad mixed [(0,[.sv (ksMacro [])]),(3,[.sv (ksMacro z22)]),(9,[.sv (ksMacro [(⟨k20.1.id,k18.1,k18.2.1⟩:Macro)])]),(10,[.sv (ksMacro z23)])] [((ksMacro z22).length:Int)] (A (dMacro.lit []) (A (dMacro.ap hz22) (A (dMacro.lit [(⟨k20.1.id,k18.1,k18.2.1⟩:Macro)]) (A (dMacro.ap hz23) T)))) [] [.c 5 1 (.gs (.own 100095) 3 (ksMacro z23)),.o 100095 (.tok (ksMacro z23).length 284)] [] ?_
          refine .a [.v ((i3+1:Nat):Int)] (A (wn (i:=i3) (by omega)) T) [(14,iE ((i3+1:Nat):Int))] ?_
          cases h1
          refine .fg 5 [1] ?_
          refine .kp [1,2,4,5,8,10,11,14] [] ?_
          refine .dr 15 (by kernel_rfl) ?_
          refine .dr 16 (by kernel_rfl) ?_
          refine .dr 20 (by kernel_rfl) ?_
          refine .dr 100095 (by kernel_rfl) ?_
          exact .nL rfl (i3+1) _ hd8 hd8l (hn1 _ rfl) [] (by kernel_rfl)
      ·obtain⟨k24,hk24,h2⟩:=bnd h2
       by_cases g25:(!k24)=true
       ·have h2:=iteP g25 h2
        refine .a (.call [] (bE k24) []::(rb 4 true [])) (A (w_sp_FormValid n _ hk24) (R 4 g25 T)) [(67,bE true)] ?_
        cases h2
        exact .lg hj2 []
       ·have h2:=iteN g25 h2
        obtain⟨k26,hk26,h2⟩:=bnd h2
        refine .a [.call [] (bE k24) [],.b false,.b false,.call [] (bE k26) [],.b false,.b false] (A (w_sp_FormValid n _ hk24) (A (Bool.eq_false_iff.2 g25) (A (A (Bool.eq_false_iff.2 g25) (w_sp_FormValid n _ hk26)) (R 2 (Bool.eq_false_iff.2 g25) T)))) [(67,bE (!k26))] ?_
        cases h2
        exact .lg hj2 []
    ·subst hc11
     have h0:=forI_nil h0
     obtain⟨k27,hk27,h0⟩:=bnd h0
     refine .af [.call [] (aE (kForm k27)) []] (A (w_sp_l2Change n _ _ _ hk27) T) [(22,pw 22)] [.o 22 (.cells ((kForm k27).map .d))] ?_
     obtain⟨k28,hk28,h0⟩:=bnd h0
     refine .a [.call [] (bE k28) []] (A (w_sp_FormValid n _ hk28) T) [(110,bE (!k28))] ?_
     refine .jT h0 (fun hc29 h0=>?_) (fun hc29 h0=>?_)
     ·refine .af [] T [(12,iE 4)] [.o 10 (.cells [lE 3 (ksBind s4.1),lE 3 (ksMacro s4.2.1),iE s4.2.2.1,iE s4.2.2.2.1,iE s4.2.2.2.2])] ?_
      cases h0
      exact .rt hK
     ·obtain⟨k30,hk30,h0⟩:=bnd h0
      refine .af [.call [] (.tup [aE (kExpansion k30.1),aE (kCore k30.2.1),iE k30.2.2]) []] (A (ih.2.2.1 _ _ _ hk30) T) [(12,iE k30.2.2)] [.o 10 (.cells ((kExpansion k30.1).map .d)),.o 11 (.cells ((kCore k30.2.1).map .d))] ?_
      cases h0
      exact .rt hK
theorem w_sp_l7All (n:Nat):∀(a0:Expansion) (a1:List Form) (a2:Int) {r:Expansion×(List Core)×Int},sp_l7All n a0 a1 a2=some r→SCall X.E 260 [aE (kExpansion a0),lE 5 (ksForm a1),iE a2] [] (.tup [aE (kExpansion r.1),lE 11 (ksCore r.2.1),iE r.2.2]) []:=(g_sp_l7All n).1
theorem w_sp_l7Apply (n:Nat):∀(a0:Expansion) (a1:Form) (a2:Int) (a3:Int) {r:Expansion×Core×Int},sp_l7Apply n a0 a1 a2 a3=some r→SCall X.E 259 [aE (kExpansion a0),aE (kForm a1),iE a2,iE a3] [] (.tup [aE (kExpansion r.1),aE (kCore r.2.1),iE r.2.2]) []:=(g_sp_l7All n).2.1
theorem w_sp_l7Expand (n:Nat):∀(a0:Expansion) (a1:Form) (a2:Int) {r:Expansion×Core×Int},sp_l7Expand n a0 a1 a2=some r→SCall X.E 218 [aE (kExpansion a0),aE (kForm a1),iE a2] [] (.tup [aE (kExpansion r.1),aE (kCore r.2.1),iE r.2.2]) []:=(g_sp_l7All n).2.2.1
theorem w_sp_l7Form (n:Nat):∀(a0:Expansion) (a1:Form) (a2:Int) (a3:Int) {r:Expansion×Core×Int},sp_l7Form n a0 a1 a2 a3=some r→SCall X.E 258 [aE (kExpansion a0),aE (kForm a1),iE a2,iE a3] [] (.tup [aE (kExpansion r.1),aE (kCore r.2.1),iE r.2.2]) []:=(g_sp_l7All n).2.2.2.1
theorem w_sp_l7Fun (n:Nat):∀(a0:Expansion) (a1:List Form) (a2:Form) (a3:Int) {r:Expansion×Core×Int},sp_l7Fun n a0 a1 a2 a3=some r→SCall X.E 281 [aE (kExpansion a0),lE 5 (ksForm a1),aE (kForm a2),iE a3] [] (.tup [aE (kExpansion r.1),aE (kCore r.2.1),iE r.2.2]) []:=(g_sp_l7All n).2.2.2.2.1
theorem w_sp_l7Macros (n:Nat):∀(a0:Expansion) (a1:List Form) (a2:List Form) (a3:Form) (a4:Int) {r:Expansion×Core×Int},sp_l7Macros n a0 a1 a2 a3 a4=some r→SCall X.E 283 [aE (kExpansion a0),lE 5 (ksForm a1),lE 5 (ksForm a2),aE (kForm a3),iE a4] [] (.tup [aE (kExpansion r.1),aE (kCore r.2.1),iE r.2.2]) []:=(g_sp_l7All n).2.2.2.2.2
def sp_l7Run (n:Nat) (a0:Form) (a1:Int):Option (Expansion×Core×Int):=
 Option.bind ((sp_FormValid n a0).bind fun k8=>(if(!k8)=true then some true else(if a1<0 then some true else some (decide (a1>60)))):Option (Bool)) (fun(o1:Bool)=>(if o1=true then some ((⟨[],[],0,0,0⟩:Expansion),(⟨0,0,[],0,[],(⟨0,[],0,[],[]⟩:Form),[]⟩:Core),6) else(sp_StartExpansion n).bind fun k3=>(sp_l7Expand n k3 a0 a1).bind fun k4=>(if ¬k4.2.2=0 then some ((⟨[],[],0,0,0⟩:Expansion),(⟨0,0,[],0,[],(⟨0,[],0,[],[]⟩:Form),[]⟩:Core),k4.2.2) else(sp_CoreValid n k4.2.1).bind fun k6=>(if(!k6)=true then some ((⟨[],[],0,0,0⟩:Expansion),(⟨0,0,[],0,[],(⟨0,[],0,[],[]⟩:Form),[]⟩:Core),4) else some (k4.1,k4.2.1,0)))))
theorem w_sp_l7Run (n:Nat):∀(a0:Form) (a1:Int) {r:Expansion×Core×Int},sp_l7Run n a0 a1=some r→SCall X.E 185 [aE (kForm a0),iE a1] [] (.tup [aE (kExpansion r.1),aE (kCore r.2.1),iE r.2.2]) []:=by
 intro a0 a1 r h0
 rw[sp_l7Run] at h0
 refine .n Tryz.func185 (fun L ks low K hl hL hlen hK=>?_)
 refine .af [] T [(2,pw 2),(4,pw 4),(5,pw 5)] [.o 2 (.cells ((kForm a0).map .d)),.o 4 (.cells [fE 3 (ksBind []),fE 3 (ksMacro []),iE 0,iE 0,iE 0]),.o 5 (.cells [iE 0,iE 0,sE [],iE 0,fE 1 (ksInt []),iE 0,sE [],iE 0,fE 1 (ksInt []),fE 5 (ksForm []),fE 11 (ksCore [])])] ?_
 refine .bP h0 rfl [1,2,4,5] (fun o1=>[(20,bE o1)]) n1 n1 (fun o1 h0=>?_) (fun y1 h1 hj1=>?_)
 ·refine .jT h0 (fun hc2 h0=>?_) (fun hc2 h0=>?_)
  ·refine .a [] T [(6,iE 6)] ?_
   cases h0
   exact .rt hK
  ·obtain⟨k3,hk3,h0⟩:=bnd h0
   obtain⟨k4,hk4,h0⟩:=bnd h0
   refine .ad mixed [(0,[.call [] (aE (kExpansion k3)) []]),(3,[.call [] (.tup [aE (kExpansion k4.1),aE (kCore k4.2.1),iE k4.2.2]) []])] [] (A (w_sp_StartExpansion n  hk3) (A (w_sp_l7Expand n _ _ _ hk4) T)) [(7,pw 7),(8,pw 8),(9,iE k4.2.2)] [.o 7 (.cells ((kExpansion k4.1).map .d)),.o 8 (.cells ((kCore k4.2.1).map .d))] [] ?_
   refine .a [] T [(32,dE (¬k4.2.2=0))] ?_
   refine .jP h0 (fun hc5 h0=>?_) (fun hc5 h0=>?_)
   ·refine .a [] T [(6,iE k4.2.2)] ?_
    cases h0
    exact .rt hK
   ·obtain⟨k6,hk6,h0⟩:=bnd h0
    refine .a [.call [] (bE k6) []] (A (w_sp_CoreValid n _ hk6) T) [(38,bE (!k6))] ?_
    refine .jT h0 (fun hc7 h0=>?_) (fun hc7 h0=>?_)
    ·refine .a [] T [(6,iE 4)] ?_
     cases h0
     exact .rt hK
    ·refine .ad mixed [] [] T [(6,iE 0)] [.o 4 (.cells ((kExpansion k4.1).map .d)),.o 5 (.cells ((kCore k4.2.1).map .d))] [] ?_
     cases h0
     exact .rt hK
 ·obtain⟨k8,hk8,h1⟩:=bnd h1
  by_cases g9:(!k8)=true
  ·have h1:=iteP g9 h1
   refine .a (.call [] (bE k8) []::(rb 6 true [])) (A (w_sp_FormValid n _ hk8) (R 3 g9 (R 3 B1 T))) [(20,bE true)] ?_
   cases h1
   exact .lg hj1 []
  ·have h1:=iteN g9 h1
   by_cases g10:a1<0
   ·have h1:=iteP g10 h1
    refine .a (.call [] (bE k8) []::(rb 3 false (rb 3 true []))) (A (w_sp_FormValid n _ hk8) (R 3 (Bool.eq_false_iff.2 g9) (R 3 (dt g10) T))) [(20,bE true)] ?_
    cases h1
    exact .lg hj1 []
   ·have h1:=iteN g10 h1
    refine .a (.call [] (bE k8) []::(rb 6 false [])) (A (w_sp_FormValid n _ hk8) (R 3 (Bool.eq_false_iff.2 g9) (R 3 (df g10) T))) [(20,dE (a1>60))] ?_
    cases h1
    exact .lg hj1 []
def sp_ExpandForm (n:Nat) (a0:Form) (a1:Int):Option (Core×Int):=
 (sp_l7Run n a0 a1).bind fun k1=>(sp_l6Copy n k1.2.1).bind fun k2=>some (k2,k1.2.2)
theorem w_sp_ExpandForm (n:Nat):∀(a0:Form) (a1:Int) {r:Core×Int},sp_ExpandForm n a0 a1=some r→SCall X.E 151 [aE (kForm a0),iE a1] [] (.tup [aE (kCore r.1),iE r.2]) []:=by
 intro a0 a1 r h0
 rw[sp_ExpandForm] at h0
 refine .n Tryz.func151 (fun L ks low K hl hL hlen hK=>?_)
 refine .af [] T [(2,pw 2),(4,pw 4)] [.o 2 (.cells ((kForm a0).map .d)),.o 4 (.cells [iE 0,iE 0,sE [],iE 0,fE 1 (ksInt []),iE 0,sE [],iE 0,fE 1 (ksInt []),fE 5 (ksForm []),fE 11 (ksCore [])])] ?_
 obtain⟨k1,hk1,h0⟩:=bnd h0
 refine .af [.call [] (.tup [aE (kExpansion k1.1),aE (kCore k1.2.1),iE k1.2.2]) []] (A (w_sp_l7Run n _ _ hk1) T) [(7,pw 7),(8,iE k1.2.2)] [.o 6 (.cells ((kExpansion k1.1).map .d)),.o 7 (.cells ((kCore k1.2.1).map .d))] ?_
 obtain⟨k2,hk2,h0⟩:=bnd h0
 refine .af [.call [] (aE (kCore k2)) []] (A (w_sp_l6Copy n _ hk2) T) [(5,iE k1.2.2)] [.o 4 (.cells ((kCore k2).map .d))] ?_
 cases h0
 exact .rt hK
def sp_l15Open (n:Nat) (a0:List UInt8):Option (L15Rd):=
 Option.bind ((if(a0.length:Int)>2000 then(slI a0 0 2000).bind fun z4=>some z4 else some a0):Option (List UInt8)) (fun(o2:List UInt8)=>some (⟨o2,0⟩:L15Rd))
theorem w_sp_l15Open (n:Nat):∀(a0:List UInt8) {r:L15Rd},sp_l15Open n a0=some r→SCall X.E 121 [lE 1 (ksByte a0)] [none] (pl 0) [.cells ((kL15Rd r).map .d)]:=by
 intro a0 r h0
 rw[sp_l15Open] at h0
 refine .n Tryz.func121 (fun L ks low K hl hL hlen hK=>?_)
 refine .a [] T [] ?_
 refine .a [.v (a0.length:Int)] (A (dByte.len' a0) T) [(5,dE ((a0.length:Int)>2000))] ?_
 refine .sn 0 dByte a0 (by kernel_rfl) (fun hb1=>?_)
 refine .bP h0 rfl [] (fun o2=>[(0,lE 1 (ksByte o2))]) n1 n1 (fun o2 h0=>?_) (fun y1 h1 hj1=>?_)
 ·refine .af [] T [(2,pw 10)] [.o 10 (.cells [lE 1 (ksByte o2),iE 0])] ?_
  refine .kp [2] [] ?_
  refine .move 2 10 0 (cs:=[.sl 1 false (ksByte o2),.v (.int .i64 0)]) rfl rfl rfl rfl ?_
  cases h0
  exact .rt hK
 ·refine .jP h1 (fun hc3 h1=>?_) (fun hc3 h1=>?_)
  ·obtain⟨z4,hz4,h1⟩:=bnd h1
   refine .a [.sv (ksByte z4)] (A (dByte.sl hz4) T) [(0,lE 1 (ksByte z4))] ?_
   cases h1
   exact .lg hj1 []
  ·cases h1
   exact .lg hj1 []
def sp_l15Rd_pick (n:Nat) (a1:Int) (w0:L15Rd):Option (Int×L15Rd):=
 Option.bind ((if a1<1 then some true else some (decide ((w0.b.length:Int)=0))):Option (Bool)) (fun(o1:Bool)=>(if o1=true then some (0,(⟨w0.b,(w64 (w0.p+1))⟩:L15Rd)) else(if(w64 ((w64 (w0.p+1))-1))<(w0.b.length:Int) then(atI w0.b (w64 ((w64 (w0.p+1))-1))).bind fun e5=>(remI (IntKind.i64.wrap (e5.toNat:Int)) a1).bind fun z6=>some (z6,(⟨w0.b,(w64 (w0.p+1))⟩:L15Rd)) else(remI (w64 ((w64 (w0.p+1))-1)) (w0.b.length:Int)).bind fun z7=>(atI w0.b z7).bind fun e8=>(remI (w64 ((w64 ((w64 ((w64 (w0.p+1))-1))*7))+3)) (w0.b.length:Int)).bind fun z9=>(atI w0.b z9).bind fun e10=>(quoI (w64 ((w64 (w0.p+1))-1)) (w0.b.length:Int)).bind fun z11=>(quoI (w64 ((w64 ((w64 ((w64 ((IntKind.i64.wrap (e8.toNat:Int))*131))+(w64 ((IntKind.i64.wrap (e10.toNat:Int))*1117))))+(w64 ((w64 ((w64 (w0.p+1))-1))*29))))+(w64 (z11*53)))) 64).bind fun z12=>(remI (bitsI .xor .i64 (w64 ((w64 ((w64 ((w64 ((IntKind.i64.wrap (e8.toNat:Int))*131))+(w64 ((IntKind.i64.wrap (e10.toNat:Int))*1117))))+(w64 ((w64 ((w64 (w0.p+1))-1))*29))))+(w64 (z11*53)))) z12) a1).bind fun z13=>some (z13,(⟨w0.b,(w64 (w0.p+1))⟩:L15Rd)))))
theorem w_sp_l15Rd_pick (n:Nat):∀(a1:Int) (w0:L15Rd) {r:Int×L15Rd},sp_l15Rd_pick n a1 w0=some r→SCall X.E 149 [pl 0,iE a1] [some (.cells ((kL15Rd w0).map .d))] (iE r.1) [.cells ((kL15Rd r.2).map .d)]:=by
 intro a1 w0 r h0
 rw[sp_l15Rd_pick] at h0
 refine .n Tryz.func149 (fun L ks low K hl hL hlen hK=>?_)
 refine .a [] T [] ?_
 refine .ao [.pl] T [] [.c 0 1 (iE (w64 (w0.p+1)))] ?_
 refine .bP h0 rfl [0,1] (fun o1=>[(24,bE o1)]) n1 n1 (fun o1 h0=>?_) (fun y1 h1 hj1=>?_)
 ·refine .jT h0 (fun hc2 h0=>?_) (fun hc2 h0=>?_)
  ·refine .a [] T [(4,iE 0)] ?_
   cases h0
   exact .rt hK
  ·refine .a [.pl] T [(5,iE (w64 ((w64 (w0.p+1))-1)))] ?_
   refine .a [.v (w0.b.length:Int)] (A (dByte.len' w0.b) T) [(34,lE 1 (ksByte w0.b)),(36,dE ((w64 ((w64 (w0.p+1))-1))<(w0.b.length:Int)))] ?_
   refine .sn 34 dByte w0.b (by kernel_rfl) (fun hb3=>?_)
   refine .jP h0 (fun hc4 h0=>?_) (fun hc4 h0=>?_)
   ·obtain⟨e5,he5,h0⟩:=bnd h0
    obtain⟨z6,hz6,h0⟩:=bnd h0
    refine .a [.cs [.v (.int .u8 (e5.toNat:Int))],.pl,.v z6] (A (dByte.idx he5) (A (rem_ok hz6) T)) [(4,iE z6)] ?_
    cases h0
    exact .rt hK
   ·obtain⟨z7,hz7,h0⟩:=bnd h0
    obtain⟨e8,he8,h0⟩:=bnd h0
    obtain⟨z9,hz9,h0⟩:=bnd h0
    obtain⟨e10,he10,h0⟩:=bnd h0
    obtain⟨z11,hz11,h0⟩:=bnd h0
    refine .ad mixed [(9,[.v (w0.b.length:Int)]),(10,[.v z7]),(11,[.cs [.v (.int .u8 (e8.toNat:Int))]]),(13,[.pl]),(14,[.pl]),(20,[.pl]),(21,[.pl]),(26,[.v (w0.b.length:Int)]),(27,[.v z9]),(28,[.cs [.v (.int .u8 (e10.toNat:Int))]]),(30,[.pl]),(31,[.pl]),(32,[.pl]),(34,[.pl]),(35,[.pl]),(41,[.v (w0.b.length:Int)]),(42,[.v z11]),(43,[.pl]),(44,[.pl])] [] (A (dByte.len' w0.b) (A (rem_ok hz7) (A (dByte.idx he8) (A (dByte.len' w0.b) (A (rem_ok hz9) (A (dByte.idx he10) (A (dByte.len' w0.b) (A (quo_ok hz11) T)))))))) [(6,iE (w64 ((w64 ((w64 ((w64 ((IntKind.i64.wrap (e8.toNat:Int))*131))+(w64 ((IntKind.i64.wrap (e10.toNat:Int))*1117))))+(w64 ((w64 ((w64 (w0.p+1))-1))*29))))+(w64 (z11*53)))))] [] [] ?_
    obtain⟨z12,hz12,h0⟩:=bnd h0
    refine .a [.v z12,.pl] (A (quo_ok hz12) T) [(6,iE (bitsI .xor .i64 (w64 ((w64 ((w64 ((w64 ((IntKind.i64.wrap (e8.toNat:Int))*131))+(w64 ((IntKind.i64.wrap (e10.toNat:Int))*1117))))+(w64 ((w64 ((w64 (w0.p+1))-1))*29))))+(w64 (z11*53)))) z12))] ?_
    obtain⟨z13,hz13,h0⟩:=bnd h0
    refine .a [.v z13] (A (rem_ok hz13) T) [(4,iE z13)] ?_
    cases h0
    exact .rt hK
 ·by_cases g14:a1<1
  ·have h1:=iteP g14 h1
   refine .a (rb 7 true []) (R 7 (dt g14) T) [(24,bE true)] ?_
   cases h1
   exact .lg hj1 []
  ·have h1:=iteN g14 h1
   refine .a (rb 5 false [.v (w0.b.length:Int),.b false,.b false]) (R 4 (df g14) (A (A (df g14) (dByte.len' w0.b)) (R 2 (df g14) T))) [(24,dE ((w0.b.length:Int)=0))] ?_
   cases h1
   exact .lg hj1 []
def sp_l15Rd_num (n:Nat) (a1:List Int) (w0:L15Rd):Option (Int×L15Rd):=
 (sp_l15Rd_pick n (a1.length:Int) w0).bind fun k1=>(atI a1 k1.1).bind fun e2=>some (e2,k1.2)
theorem w_sp_l15Rd_num (n:Nat):∀(a1:List Int) (w0:L15Rd) {r:Int×L15Rd},sp_l15Rd_num n a1 w0=some r→SCall X.E 153 [pl 0,lE 1 (ksInt a1)] [some (.cells ((kL15Rd w0).map .d))] (iE r.1) [.cells ((kL15Rd r.2).map .d)]:=by
 intro a1 w0 r h0
 rw[sp_l15Rd_num] at h0
 refine .n Tryz.func153 (fun L ks low K hl hL hlen hK=>?_)
 refine .a [] T [] ?_
 obtain⟨k1,hk1,h0⟩:=bnd h0
 obtain⟨e2,he2,h0⟩:=bnd h0
 refine .ao [.v (a1.length:Int),.call [.low 0] (iE k1.1) [.cells ((kL15Rd k1.2).map .d)],.cs [.v (.int .i64 e2)]] (A (dInt.len' a1) (A (w_sp_l15Rd_pick n _ _ hk1) (A (dInt.idx he2) T))) [(4,iE e2)] [.o 0 (.cells ((kL15Rd k1.2).map .d))] ?_
 refine .sn 1 dInt a1 (by kernel_rfl) (fun hb3=>?_)
 cases h0
 exact .rt hK
def sp_l15Rd_of (n:Nat) (a1:List (List UInt8)) (w0:L15Rd):Option ((List UInt8)×L15Rd):=
 (sp_l15Rd_pick n (a1.length:Int) w0).bind fun k1=>(atI a1 k1.1).bind fun e2=>some (e2,k1.2)
theorem w_sp_l15Rd_of (n:Nat):∀(a1:List (List UInt8)) (w0:L15Rd) {r:(List UInt8)×L15Rd},sp_l15Rd_of n a1 w0=some r→SCall X.E 122 [pl 0,lE 1 (ksStr a1)] [some (.cells ((kL15Rd w0).map .d))] (sE r.1) [.cells ((kL15Rd r.2).map .d)]:=by
 intro a1 w0 r h0
 rw[sp_l15Rd_of] at h0
 refine .n Tryz.func122 (fun L ks low K hl hL hlen hK=>?_)
 refine .a [] T [] ?_
 obtain⟨k1,hk1,h0⟩:=bnd h0
 obtain⟨e2,he2,h0⟩:=bnd h0
 refine .ao [.v (a1.length:Int),.call [.low 0] (iE k1.1) [.cells ((kL15Rd k1.2).map .d)],.cs [.s e2]] (A (dStr.len' a1) (A (w_sp_l15Rd_pick n _ _ hk1) (A (dStr.idx he2) T))) [(4,sE e2)] [.o 0 (.cells ((kL15Rd k1.2).map .d))] ?_
 refine .sn 1 dStr a1 (by kernel_rfl) (fun hb3=>?_)
 cases h0
 exact .rt hK
theorem w_sp_l6Copy_o (n:Nat):∀(a0:Core) {r:Core},sp_l6Copy n a0=some r→SCall X.E 103 [aE (kCore a0)] [none,none] (.agg [iE r.kind,iE r.id,sE r.name,iE r.n,.gs (.low 0) 1 (ksInt r.ids),iE r.data.kind,sE r.data.name,iE r.data.n,lE 1 (ksInt r.data.scopes),lE 5 (ksForm r.data.kids),.vs (.low 1) 11 ((ksCore r.kids).length)]) [.tok (ksInt r.ids).length 3,.vec 35 11 (ksCore r.kids)]:=by
 cases n with
 | zero=>intro a0 r h; cases h
 | succ n=>
  intro a0 r h0
  rw[sp_l6Copy] at h0
  refine .n Tryz.func103 (fun L ks low K hl hL hlen hK=>?_)
  refine .af [] T [(1,pw 1),(2,pw 2)] [.o 1 (.cells ((kCore a0).map .d)),.o 2 (.cells [iE 0,iE 0,sE [],iE 0,fE 1 (ksInt []),iE 0,sE [],iE 0,fE 1 (ksInt []),fE 5 (ksForm []),fE 11 (ksCore [])])] ?_
  obtain⟨z1,hz1,h0⟩:=bnd h0
  obtain⟨k2,hk2,h0⟩:=bnd h0
  refine .ad mixed [(8,[.sv (ksInt [])]),(11,[.sv (ksInt z1)]),(14,[.call [] (aE (kForm k2)) []])] [] (A (dInt.lit []) (A (dInt.ap hz1) (A (w_sp_l1Copy n _ hk2) T))) [(3,pw 3)] [.o 100016 (.tok (ksInt z1).length 3),.o 3 (.cells [iE a0.kind,iE a0.id,sE a0.name,iE a0.n,.gs (.own 100016) 1 (ksInt z1),iE k2.kind,sE k2.name,iE k2.n,lE 1 (ksInt k2.scopes),lE 5 (ksForm k2.kids),fE 11 (ksCore [])])] [] ?_
  refine .a [] T [(4,iE 0)] ?_
  refine .ov 3 10 100037 35 (by kernel_rfl) ?_
  refine .lL h0 rfl [1,2,3] (fun i3 s4=>[(4,iE (i3:Int))]) (fun i3 s4=>[.c 3 10 (.vs (.own 100037) 11 ((ksCore s4).length)),.o 100037 (.vec 35 11 (ksCore s4))]) n2 [] (by kernel_rfl) (fun i3 s4 q5 hd7 hi9 h0=>?_)
  refine .a [.v (a0.kids.length:Int)] (A (dCore.len' a0.kids) T) [(23,lE 11 (ksCore a0.kids)),(25,dE ((i3:Int)<(a0.kids.length:Int)))] ?_
  refine .sn 23 dCore a0.kids (by kernel_rfl) (fun hb10=>?_)
  refine .lc hd7 rfl (by kernel_rfl) (fun x6 q52 hc11 hx6 hd8 hd8l=>?_) (fun hc11=>?_)
  ·subst hc11
   obtain⟨y1,h1,hn1⟩:=forL_cons h0
   obtain⟨k12,hk12,h1⟩:=bnd h1
   obtain⟨z13,hz13,h1⟩:=bnd h1
   refine .ad mixed [(5,[.cs (kCore x6)]),(7,[.call [] (aE (kCore k12)) []]),(8,[.sv (ksCore [k12])]),(9,[.sv (ksCore z13)])] [] (A (dCore.idn hx6) (A (w_sp_l6Copy n _ hk12) (A (dCore.lit [k12]) (A (A (dCore.ap hz13) (rfl:(ksCore s4).length=(ksCore s4).length)) T)))) [] [.c 3 10 (.vs (.own 100037) 11 ((ksCore z13).length)),.o 100037 (.vec 35 11 (ksCore z13))] [] ?_
   refine .a [.v ((i3+1:Nat):Int)] (A (wn (i:=i3) (by omega)) T) [(4,iE ((i3+1:Nat):Int))] ?_
   cases h1
   exact .nL rfl (i3+1) _ hd8 hd8l hn1 [] (by kernel_rfl)
  ·subst hc11
   have h0:=forL_nil h0
   refine .af [] T [] [.o 2 (.cells [iE a0.kind,iE a0.id,sE a0.name,iE a0.n,.gs (.own 100016) 1 (ksInt z1),iE k2.kind,sE k2.name,iE k2.n,lE 1 (ksInt k2.scopes),lE 5 (ksForm k2.kids),.vs (.own 100037) 11 ((ksCore s4).length)])] ?_
   refine .kp [2] [] ?_
   refine .dr 1 (by kernel_rfl) ?_
   refine .dr 3 (by kernel_rfl) ?_
   refine .mt 2 4 100016 0 (by kernel_rfl) ?_
   refine .mc 2 10 100037 1 (by kernel_rfl) ?_
   cases h0
   exact .rt hK
def sp_l6Mutate:Nat→Core→L15Rd→Option (Core×L15Rd)
 | 0,_,_=>none
 | n+1,a1,w0=>(sp_l6Copy n a1).bind fun k1=>Option.bind ((if(k1.kids.length:Int)>0 then(sp_l15Rd_pick n 2 w0).bind fun k23=>some ((decide (k23.1>0)),k23.2) else some (false,w0)):Option (Bool×L15Rd)) (fun(o2:Bool×L15Rd)=>(if o2.1=true then(sp_l15Rd_pick n (k1.kids.length:Int) o2.2).bind fun k4=>(inB k4.1 k1.kids.length).bind fun u6=>(k1.kids[(Int.toNat k4.1)]?).bind fun e7=>(sp_l6Mutate n e7 k4.2).bind fun k8=>(inB k4.1 k1.kids.length).bind fun u9=>some ((⟨k1.kind,k1.id,k1.name,k1.n,k1.ids,k1.data,(k1.kids.set (Int.toNat k4.1) k8.1)⟩:Core),k8.2) else(sp_l15Rd_pick n 12 o2.2).bind fun k11=>Option.bind ((if k11.1=0 then(sp_l15Rd_num n [0,8,3,6] k11.2).bind fun k14=>some (k14.1,k1.id,k1.name,k1.ids,k14.2) else(if k11.1=1 then(sp_l15Rd_num n [0,1,1000,2] k11.2).bind fun k16=>some (k1.kind,k16.1,k1.name,k1.ids,k16.2) else(if k11.1=2 then(sp_l15Rd_num n [1,900,0] k11.2).bind fun k18=>(apB 8 k1.ids [k18.1]).bind fun z19=>some (k1.kind,k1.id,k1.name,z19,k18.2) else(if k11.1=3 then(sp_l15Rd_of n [[],[103],[65]] k11.2).bind fun k21=>some (k1.kind,k1.id,k21.1,k1.ids,k21.2) else some (k1.kind,k1.id,k1.name,k1.ids,k11.2))))):Option (Int×Int×(List UInt8)×(List Int)×L15Rd)) (fun(o12:Int×Int×(List UInt8)×(List Int)×L15Rd)=>some ((⟨o12.1,o12.2.1,o12.2.2.1,k1.n,o12.2.2.2.1,k1.data,k1.kids⟩:Core),o12.2.2.2.2))))
theorem w_sp_l6Mutate (n:Nat):∀(a1:Core) (w0:L15Rd) {r:Core×L15Rd},sp_l6Mutate n a1 w0=some r→SCall X.E 184 [pl 0,aE (kCore a1)] [some (.cells ((kL15Rd w0).map .d))] (aE (kCore r.1)) [.cells ((kL15Rd r.2).map .d)]:=by
 induction n with
 | zero=>intro a1 w0 r h; cases h
 | succ n ih=>
  intro a1 w0 r h0
  rw[sp_l6Mutate] at h0
  refine .n Tryz.func184 (fun L ks low K hl hL hlen hK=>?_)
  refine .af [] T [(3,pw 3),(4,pw 4)] [.o 3 (.cells ((kCore a1).map .d)),.o 4 (.cells [iE 0,iE 0,sE [],iE 0,fE 1 (ksInt []),iE 0,sE [],iE 0,fE 1 (ksInt []),fE 5 (ksForm []),fE 11 (ksCore [])])] ?_
  obtain⟨k1,hk1,h0⟩:=bnd h0
  refine .af [.call [.own 300080,.own 300081] (.agg [iE k1.kind,iE k1.id,sE k1.name,iE k1.n,.gs (.low 0) 1 (ksInt k1.ids),iE k1.data.kind,sE k1.data.name,iE k1.data.n,lE 1 (ksInt k1.data.scopes),lE 5 (ksForm k1.data.kids),.vs (.low 1) 11 ((ksCore k1.kids).length)]) [.tok (ksInt k1.ids).length 3,.vec 35 11 (ksCore k1.kids)]] (A (w_sp_l6Copy_o n _ hk1) T) [(5,pw 5)] [.o 300080 (.tok (ksInt k1.ids).length 3),.o 300081 (.vec 35 11 (ksCore k1.kids)),.o 5 (.cells [iE k1.kind,iE k1.id,sE k1.name,iE k1.n,.gs (.own 300080) 1 (ksInt k1.ids),iE k1.data.kind,sE k1.data.name,iE k1.data.n,lE 1 (ksInt k1.data.scopes),lE 5 (ksForm k1.data.kids),.vs (.own 300081) 11 ((ksCore k1.kids).length)])] ?_
  refine .bP h0 rfl [0,4,5] (fun o2=>[(17,bE o2.1)]) n1 (fun o2=>[.o 0 (.cells ((kL15Rd o2.2).map .d))]) (fun o2 h0=>?_) (fun y1 h1 hj1=>?_)
  ·refine .jT h0 (fun hc3 h0=>?_) (fun hc3 h0=>?_)
   ·obtain⟨k4,hk4,h0⟩:=bnd h0
    refine .ao [.v (k1.kids.length:Int),.call [.low 0] (iE k4.1) [.cells ((kL15Rd k4.2).map .d)]] (A (dCore.len' k1.kids) (A (w_sp_l15Rd_pick n _ _ hk4) T)) [(6,iE k4.1),(20,.vs (.own 300081) 11 ((ksCore k1.kids).length))] [.o 0 (.cells ((kL15Rd k4.2).map .d))] ?_
    refine .snV 20 dCore k1.kids (by kernel_rfl) (fun hb5=>?_)
    obtain⟨u6,hu6,h0⟩:=bnd h0
    obtain⟨e7,he7,h0⟩:=bnd h0
    obtain⟨k8,hk8,h0⟩:=bnd h0
    obtain⟨u9,hu9,h0⟩:=bnd h0
    refine .ad mixed [(8,[.cs (kCore e7)]),(9,[.call [.low 0] (aE (kCore k8.1)) [.cells ((kL15Rd k8.2).map .d)]]),(11,[.cs (kCore e7),.sv (ksCore (k1.kids.set (Int.toNat k4.1) k8.1))])] [] (A (A (dCore.inv hu6 (rfl:(ksCore k1.kids).length=(ksCore k1.kids).length)) (rfl:(ksCore k1.kids).length=(ksCore k1.kids).length)) (A (A (A (dCore.rows k1.kids) (dCore.ixr he7)) (rfl:(ksCore k1.kids).length=(ksCore k1.kids).length)) (A (ih _ _ hk8) (A (A (dCore.inv hu9 (rfl:(ksCore k1.kids).length=(ksCore k1.kids).length)) (rfl:(ksCore k1.kids).length=(ksCore k1.kids).length)) (A (A (A (A (dCore.rows k1.kids) (dCore.ixr he7)) (rfl:(ksCore k1.kids).length=(ksCore k1.kids).length)) (dCore.seti k1.kids (Int.toNat k4.1) k8.1)) T))))) [] [.o 300081 (.vec 35 11 (ksCore (k1.kids.set (Int.toNat k4.1) k8.1))),.c 5 10 (.vs (.own 300081) 11 ((ksCore k1.kids).length))] [.o 0 (.cells ((kL15Rd k8.2).map .d))] ?_
    refine .rn (by simp only[dCore.length,List.length_set]:(ksCore k1.kids).length=(ksCore (k1.kids.set (Int.toNat k4.1) k8.1)).length) (fun nk10=>[]) (fun nk10=>[.c 5 10 (.vs (.own 300081) 11 nk10)]) (fun nk10=>[]) (by kernel_rfl) ?_
    refine .af [] T [] [.o 4 (.cells [iE k1.kind,iE k1.id,sE k1.name,iE k1.n,.gs (.own 300080) 1 (ksInt k1.ids),iE k1.data.kind,sE k1.data.name,iE k1.data.n,lE 1 (ksInt k1.data.scopes),lE 5 (ksForm k1.data.kids),.vs (.own 300081) 11 ((ksCore (k1.kids.set (Int.toNat k4.1) k8.1)).length)])] ?_
    refine .kp [4] [] ?_
    refine .dr 3 (by kernel_rfl) ?_
    refine .dr 5 (by kernel_rfl) ?_
    refine .fc 4 10 300081 dCore (k1.kids.set (Int.toNat k4.1) k8.1) (rfl:(ksCore (k1.kids.set (Int.toNat k4.1) k8.1)).length=(ksCore (k1.kids.set (Int.toNat k4.1) k8.1)).length) (by kernel_rfl) ?_
    cases h0
    exact .rt hK
   ·obtain⟨k11,hk11,h0⟩:=bnd h0
    refine .ao [.call [.low 0] (iE k11.1) [.cells ((kL15Rd k11.2).map .d)]] (A (w_sp_l15Rd_pick n _ _ hk11) T) [(36,iE k11.1)] [.o 0 (.cells ((kL15Rd k11.2).map .d))] ?_
    refine .bPB h0 rfl [4,5] (fun o12=>[]) (fun o12=>[.o 300080 (.tok (ksInt o12.2.2.2.1).length 3),.c 5 0 (iE o12.1),.c 5 1 (iE o12.2.1),.c 5 2 (sE o12.2.2.1),.c 5 4 (.gs (.own 300080) 1 (ksInt o12.2.2.2.1))]) (fun o12=>[.o 0 (.cells ((kL15Rd o12.2.2.2.2).map .d))]) (fun o12 h0=>?_) (fun y1 h1 hj1=>?_)
    ·refine .af [] T [] [.o 4 (.cells [iE o12.1,iE o12.2.1,sE o12.2.2.1,iE k1.n,.gs (.own 300080) 1 (ksInt o12.2.2.2.1),iE k1.data.kind,sE k1.data.name,iE k1.data.n,lE 1 (ksInt k1.data.scopes),lE 5 (ksForm k1.data.kids),.vs (.own 300081) 11 ((ksCore k1.kids).length)])] ?_
     refine .kp [4] [] ?_
     refine .dr 3 (by kernel_rfl) ?_
     refine .dr 5 (by kernel_rfl) ?_
     refine .fc 4 10 300081 dCore k1.kids (rfl:(ksCore k1.kids).length=(ksCore k1.kids).length) (by kernel_rfl) ?_
     cases h0
     exact .rt hK
    ·refine .a [] T [(37,dE (k11.1=0))] ?_
     refine .jP h1 (fun hc13 h1=>?_) (fun hc13 h1=>?_)
     ·obtain⟨k14,hk14,h1⟩:=bnd h1
      refine .aq [.sv (ksInt [0,8,3,6]),.call [.low 0] (iE k14.1) [.cells ((kL15Rd k14.2).map .d)]] [] (A (dInt.lit [0,8,3,6]) (A (w_sp_l15Rd_num n _ _ hk14) T)) [] [.c 5 0 (iE k14.1)] [.o 0 (.cells ((kL15Rd k14.2).map .d))] ?_
      cases h1
      exact .lg hj1 []
     ·refine .a [] T [(43,dE (k11.1=1))] ?_
      refine .jP h1 (fun hc15 h1=>?_) (fun hc15 h1=>?_)
      ·obtain⟨k16,hk16,h1⟩:=bnd h1
       refine .aq [.sv (ksInt [0,1,1000,2]),.call [.low 0] (iE k16.1) [.cells ((kL15Rd k16.2).map .d)]] [] (A (dInt.lit [0,1,1000,2]) (A (w_sp_l15Rd_num n _ _ hk16) T)) [] [.c 5 1 (iE k16.1)] [.o 0 (.cells ((kL15Rd k16.2).map .d))] ?_
       cases h1
       exact .lg hj1 []
      ·refine .a [] T [(49,dE (k11.1=2))] ?_
       refine .jP h1 (fun hc17 h1=>?_) (fun hc17 h1=>?_)
       ·obtain⟨k18,hk18,h1⟩:=bnd h1
        obtain⟨z19,hz19,h1⟩:=bnd h1
        refine .ad mixed [(3,[.sv (ksInt [1,900,0])]),(4,[.call [.low 0] (iE k18.1) [.cells ((kL15Rd k18.2).map .d)]]),(5,[.sv (ksInt [k18.1])]),(6,[.sv (ksInt z19)])] [((ksInt k1.ids).length:Int)] (A (dInt.lit [1,900,0]) (A (w_sp_l15Rd_num n _ _ hk18) (A (dInt.lit [k18.1]) (A (dInt.ap hz19) T)))) [] [.o 300080 (.tok (ksInt z19).length 3),.c 5 4 (.gs (.own 300080) 1 (ksInt z19))] [.o 0 (.cells ((kL15Rd k18.2).map .d))] ?_
        cases h1
        exact .lg hj1 []
       ·refine .a [] T [(59,dE (k11.1=3))] ?_
        refine .jP h1 (fun hc20 h1=>?_) (fun hc20 h1=>?_)
        ·obtain⟨k21,hk21,h1⟩:=bnd h1
         refine .aq [.sv (ksStr [[],[103],[65]]),.call [.low 0] (sE k21.1) [.cells ((kL15Rd k21.2).map .d)]] [] (A (dStr.lit [[],[103],[65]]) (A (w_sp_l15Rd_of n _ _ hk21) T)) [] [.c 5 2 (sE k21.1)] [.o 0 (.cells ((kL15Rd k21.2).map .d))] ?_
         cases h1
         exact .lg hj1 []
        ·cases h1
         exact .lg hj1 []
  ·by_cases g22:(k1.kids.length:Int)>0
   ·have h1:=iteP g22 h1
    obtain⟨k23,hk23,h1⟩:=bnd h1
    refine .ao [.v (k1.kids.length:Int),.b true,.b true,.call [.low 0] (iE k23.1) [.cells ((kL15Rd k23.2).map .d)],.b true,.b true] (A (dCore.len' k1.kids) (A (dt g22) (A (A (dt g22) (w_sp_l15Rd_pick n _ _ hk23)) (R 2 (dt g22) T)))) [(17,dE (k23.1>0))] [.o 0 (.cells ((kL15Rd k23.2).map .d))] ?_
    cases h1
    exact .lg hj1 []
   ·have h1:=iteN g22 h1
    refine .a (.v (k1.kids.length:Int)::(rb 4 false [])) (A (dCore.len' k1.kids) (R 4 (df g22) T)) [(17,bE false)] ?_
    cases h1
    exact .lg hj1 []
def sp_l1Name (n:Nat) (a0:List UInt8):Option (Form):=
 some (⟨1,a0,0,[],[]⟩:Form)
theorem w_sp_l1Name (n:Nat):∀(a0:List UInt8) {r:Form},sp_l1Name n a0=some r→SCall X.E 224 [sE a0] [] (aE (kForm r)) []:=by
 intro a0 r h0
 rw[sp_l1Name] at h0
 refine .n Tryz.func224 (fun L ks low K hl hL hlen hK=>?_)
 refine .af [] T [(2,pw 2)] [.o 2 (.cells [iE 0,sE [],iE 0,fE 1 (ksInt []),fE 5 (ksForm [])])] ?_
 refine .af [] T [] [.c 2 0 (iE 1),.c 2 1 (sE a0)] ?_
 cases h0
 exact .rt hK
def sp_l1Some:Nat→Int→L15Rd→Option (Form×L15Rd)
 | 0,_,_=>none
 | n+1,a1,w0=>Option.bind ((if a1=0 then some (true,w0) else(sp_l15Rd_pick n 3 w0).bind fun k15=>some ((decide (k15.1=0)),k15.2)):Option (Bool×L15Rd)) (fun(o1:Bool×L15Rd)=>(if o1.1=true then(sp_l15Rd_pick n 4 o1.2).bind fun k3=>(if k3.1=0 then(sp_l15Rd_num n [0,1,2,7,42,999] k3.2).bind fun k5=>some ((⟨2,[],k5.1,[],[]⟩:Form),k5.2) else(sp_l15Rd_of n [[97],[98],[120],[121],[102],[105,102],[108,101,116],[43]] k3.2).bind fun k6=>(sp_l1Name n k6.1).bind fun k7=>some (k7,k6.2)) else(sp_l15Rd_pick n 4 o1.2).bind fun k8=>iterM n (fun(s9:Int×(List Form)×(List UInt8)×Int)=>((if s9.1>0 then(sp_l1Some n (w64 (a1-1)) (⟨s9.2.2.1,s9.2.2.2⟩:L15Rd)).bind fun k12=>(apB 80 s9.2.1 [k12.1]).bind fun z13=>some (Sum.inr ((w64 (s9.1-1)),z13,k12.2.b,k12.2.p)) else some (Sum.inl ((⟨3,[],0,[],s9.2.1⟩:Form),(⟨s9.2.2.1,s9.2.2.2⟩:L15Rd)))):Option ((Form×L15Rd)⊕(Int×(List Form)×(List UInt8)×Int)))) (k8.1,[],k8.2.b,k8.2.p)))
theorem w_sp_l1Some (n:Nat):∀(a1:Int) (w0:L15Rd) {r:Form×L15Rd},sp_l1Some n a1 w0=some r→SCall X.E 217 [pl 0,iE a1] [some (.cells ((kL15Rd w0).map .d))] (aE (kForm r.1)) [.cells ((kL15Rd r.2).map .d)]:=by
 induction n with
 | zero=>intro a1 w0 r h; cases h
 | succ n ih=>
  intro a1 w0 r h0
  rw[sp_l1Some] at h0
  refine .n Tryz.func217 (fun L ks low K hl hL hlen hK=>?_)
  refine .af [] T [(4,pw 4)] [.o 4 (.cells [iE 0,sE [],iE 0,fE 1 (ksInt []),fE 5 (ksForm [])])] ?_
  refine .bP h0 rfl [0,1,4] (fun o1=>[(13,bE o1.1)]) n1 (fun o1=>[.o 0 (.cells ((kL15Rd o1.2).map .d))]) (fun o1 h0=>?_) (fun y1 h1 hj1=>?_)
  ·refine .jT h0 (fun hc2 h0=>?_) (fun hc2 h0=>?_)
   ·obtain⟨k3,hk3,h0⟩:=bnd h0
    refine .ao [.call [.low 0] (iE k3.1) [.cells ((kL15Rd k3.2).map .d)]] (A (w_sp_l15Rd_pick n _ _ hk3) T) [(16,dE (k3.1=0))] [.o 0 (.cells ((kL15Rd k3.2).map .d))] ?_
    refine .jP h0 (fun hc4 h0=>?_) (fun hc4 h0=>?_)
    ·obtain⟨k5,hk5,h0⟩:=bnd h0
     refine .aq [.sv (ksInt [0,1,2,7,42,999]),.call [.low 0] (iE k5.1) [.cells ((kL15Rd k5.2).map .d)]] [] (A (dInt.lit [0,1,2,7,42,999]) (A (w_sp_l15Rd_num n _ _ hk5) T)) [] [.c 4 0 (iE 2),.c 4 2 (iE k5.1)] [.o 0 (.cells ((kL15Rd k5.2).map .d))] ?_
     cases h0
     exact .rt hK
    ·obtain⟨k6,hk6,h0⟩:=bnd h0
     obtain⟨k7,hk7,h0⟩:=bnd h0
     refine .aq [.sv (ksStr [[97],[98],[120],[121],[102],[105,102],[108,101,116],[43]]),.call [.low 0] (sE k6.1) [.cells ((kL15Rd k6.2).map .d)],.call [] (aE (kForm k7)) []] [] (A (dStr.lit [[97],[98],[120],[121],[102],[105,102],[108,101,116],[43]]) (A (w_sp_l15Rd_of n _ _ hk6) (A (w_sp_l1Name n _ hk7) T))) [] [.o 4 (.cells ((kForm k7).map .d))] [.o 0 (.cells ((kL15Rd k6.2).map .d))] ?_
     cases h0
     exact .rt hK
   ·refine .af [] T [(5,pw 5)] [.o 5 (.cells [iE 3,sE [],iE 0,fE 1 (ksInt []),fE 5 (ksForm [])])] ?_
    obtain⟨k8,hk8,h0⟩:=bnd h0
    refine .ao [.call [.low 0] (iE k8.1) [.cells ((kL15Rd k8.2).map .d)]] (A (w_sp_l15Rd_pick n _ _ hk8) T) [(6,iE k8.1)] [.o 0 (.cells ((kL15Rd k8.2).map .d))] ?_
    refine .oc 5 4 100039 32 (by kernel_rfl) ?_
    refine .it h0 rfl [0,1,4,5] (fun s9=>[(6,iE s9.1)]) (fun s9=>[.c 5 4 (.gs (.own 100039) 5 (ksForm s9.2.1)),.o 100039 (.tok (ksForm s9.2.1).length 32)]) (fun s9=>[.o 0 (.cells [lE 1 (ksByte s9.2.2.1),iE s9.2.2.2])]) [] (by kernel_rfl) (fun nk10 s9 h0=>?_)
    obtain⟨y1,h1,hw1,hn1⟩:=iter_cons h0
    refine .a [] T [(29,dE (s9.1>0))] ?_
    refine .jP h1 (fun hc11 h1=>?_) (fun hc11 h1=>?_)
    ·obtain⟨k12,hk12,h1⟩:=bnd h1
     obtain⟨z13,hz13,h1⟩:=bnd h1
     refine .ad mixed [(4,[.pl]),(5,[.call [.low 0] (aE (kForm k12.1)) [.cells ((kL15Rd k12.2).map .d)]]),(6,[.sv (ksForm [k12.1])]),(7,[.sv (ksForm z13)])] [((ksForm s9.2.1).length:Int)] (A (ih _ _ hk12) (A (dForm.lit [k12.1]) (A (dForm.ap hz13) T))) [] [.c 5 4 (.gs (.own 100039) 5 (ksForm z13)),.o 100039 (.tok (ksForm z13).length 32)] [.o 0 (.cells ((kL15Rd k12.2).map .d))] ?_
     refine .a [.pl] T [(6,iE (w64 (s9.1-1)))] ?_
     cases h1
     exact .nI rfl _ (hn1 _ rfl) [] (by kernel_rfl)
    ·refine .af [] T [] [.c 4 0 (iE 3),.c 4 4 (.gs (.own 100039) 5 (ksForm s9.2.1))] ?_
     cases h1
     cases hw1 _ rfl
     exact .rt hK
  ·by_cases g14:a1=0
   ·have h1:=iteP g14 h1
    refine .a (rb 4 true []) (R 4 (dt g14) T) [(13,bE true)] ?_
    cases h1
    exact .lg hj1 []
   ·have h1:=iteN g14 h1
    obtain⟨k15,hk15,h1⟩:=bnd h1
    refine .ao [.b false,.b false,.call [.low 0] (iE k15.1) [.cells ((kL15Rd k15.2).map .d)],.b false,.b false] (A (df g14) (A (A (df g14) (w_sp_l15Rd_pick n _ _ hk15)) (R 2 (df g14) T))) [(13,dE (k15.1=0))] [.o 0 (.cells ((kL15Rd k15.2).map .d))] ?_
    cases h1
    exact .lg hj1 []
def sp_l6Some:Nat→(List Int)→Int→Int→L15Rd→Option (Core×Int×L15Rd)
 | 0,_,_,_,_=>none
 | n+1,a1,a2,a3,w0=>Option.bind ((if a2=0 then some (true,w0) else(sp_l15Rd_pick n 4 w0).bind fun k37=>some ((decide (k37.1=0)),k37.2)):Option (Bool×L15Rd)) (fun(o1:Bool×L15Rd)=>(if o1.1=true then Option.bind ((if(a1.length:Int)>0 then(sp_l15Rd_pick n 3 o1.2).bind fun k15=>some ((decide (k15.1>0)),k15.2) else some (false,o1.2)):Option (Bool×L15Rd)) (fun(o3:Bool×L15Rd)=>(if o3.1=true then(sp_l15Rd_pick n (a1.length:Int) o3.2).bind fun k5=>(atI a1 k5.1).bind fun e6=>some ((⟨1,e6,[],0,[],(⟨0,[],0,[],[]⟩:Form),[]⟩:Core),a3,k5.2) else(sp_l15Rd_pick n 4 o3.2).bind fun k8=>(if k8.1=0 then(sp_l1Some n 1 k8.2).bind fun k10=>some ((⟨4,0,[],0,[],k10.1,[]⟩:Core),a3,k10.2) else(if k8.1=1 then(sp_l15Rd_of n [[102],[43],[108,105,115,116]] k8.2).bind fun k12=>some ((⟨2,0,k12.1,0,[],(⟨0,[],0,[],[]⟩:Form),[]⟩:Core),a3,k12.2) else(sp_l15Rd_num n [0,1,5,42] k8.2).bind fun k13=>some ((⟨3,0,[],k13.1,[],(⟨0,[],0,[],[]⟩:Form),[]⟩:Core),a3,k13.2))))) else(sp_l15Rd_num n [6,5,7,5] o1.2).bind fun k18=>Option.bind ((if k18.1=5 then(sp_l15Rd_num n [1,2,0] k18.2).bind fun k26=>iterM n (fun(s27:(List Int)×Int×Int×(List Int)×(List UInt8)×Int)=>((if s27.2.2.1>0 then(sp_l15Rd_num n [1,2,5] (⟨s27.2.2.2.2.1,s27.2.2.2.2.2⟩:L15Rd)).bind fun k30=>(apB 8 s27.2.2.2.1 [(w64 (s27.2.1+k30.1))]).bind fun z31=>(apB 8 [] s27.1).bind fun z32=>(apB 8 z32 [(w64 (s27.2.1+k30.1))]).bind fun z33=>some (Sum.inr (z33,(w64 (s27.2.1+k30.1)),(w64 (s27.2.2.1-1)),z31,k30.2.b,k30.2.p)) else some (Sum.inl (s27.1,s27.2.1,1,s27.2.2.2.1,s27.2.2.2.2.1,s27.2.2.2.2.2))):Option (((List Int)×Int×Int×(List Int)×(List UInt8)×Int)⊕((List Int)×Int×Int×(List Int)×(List UInt8)×Int)))) (a1,a3,k26.1,[],k26.2.b,k26.2.p) else(if k18.1=6 then(sp_l15Rd_num n [2,1,3] k18.2).bind fun k35=>some (a1,a3,k35.1,[],k35.2.b,k35.2.p) else some (a1,a3,3,[],k18.2.b,k18.2.p))):Option ((List Int)×Int×Int×(List Int)×(List UInt8)×Int)) (fun(o19:(List Int)×Int×Int×(List Int)×(List UInt8)×Int)=>iterM n (fun(s20:Int×Int×(List Core)×(List UInt8)×Int)=>((if s20.2.1<o19.2.2.1 then(sp_l6Some n o19.1 (w64 (a2-1)) s20.1 (⟨s20.2.2.2.1,s20.2.2.2.2⟩:L15Rd)).bind fun k23=>(apB 168 s20.2.2.1 [k23.1]).bind fun z24=>some (Sum.inr (k23.2.1,(w64 (s20.2.1+1)),z24,k23.2.2.b,k23.2.2.p)) else some (Sum.inl ((⟨k18.1,0,[],0,o19.2.2.2.1,(⟨0,[],0,[],[]⟩:Form),s20.2.2.1⟩:Core),s20.1,(⟨s20.2.2.2.1,s20.2.2.2.2⟩:L15Rd)))):Option ((Core×Int×L15Rd)⊕(Int×Int×(List Core)×(List UInt8)×Int)))) (o19.2.1,0,[],o19.2.2.2.2.1,o19.2.2.2.2.2))))
theorem w_sp_l6Some (n:Nat):∀(a1:List Int) (a2:Int) (a3:Int) (w0:L15Rd) {r:Core×Int×L15Rd},sp_l6Some n a1 a2 a3 w0=some r→SCall X.E 183 [pl 0,lE 1 (ksInt a1),iE a2,iE a3] [some (.cells ((kL15Rd w0).map .d))] (.tup [aE (kCore r.1),iE r.2.1]) [.cells ((kL15Rd r.2.2).map .d)]:=by
 induction n with
 | zero=>intro a1 a2 a3 w0 r h; cases h
 | succ n ih=>
  intro a1 a2 a3 w0 r h0
  rw[sp_l6Some] at h0
  refine .n Tryz.func183 (fun L ks low K hl hL hlen hK=>?_)
  refine .af [] T [(8,pw 8)] [.o 8 (.cells [iE 0,iE 0,sE [],iE 0,fE 1 (ksInt []),iE 0,sE [],iE 0,fE 1 (ksInt []),fE 5 (ksForm []),fE 11 (ksCore [])])] ?_
  refine .bP h0 rfl [0,1,2,3,8] (fun o1=>[(22,bE o1.1)]) n1 (fun o1=>[.o 0 (.cells ((kL15Rd o1.2).map .d))]) (fun o1 h0=>?_) (fun y1 h1 hj1=>?_)
  ·refine .jT h0 (fun hc2 h0=>?_) (fun hc2 h0=>?_)
   ·refine .bP h0 rfl [0,1,3,8] (fun o3=>[(30,bE o3.1)]) n1 (fun o3=>[.o 0 (.cells ((kL15Rd o3.2).map .d))]) (fun o3 h0=>?_) (fun y1 h1 hj1=>?_)
    ·refine .jT h0 (fun hc4 h0=>?_) (fun hc4 h0=>?_)
     ·obtain⟨k5,hk5,h0⟩:=bnd h0
      obtain⟨e6,he6,h0⟩:=bnd h0
      refine .aq [.v (a1.length:Int),.call [.low 0] (iE k5.1) [.cells ((kL15Rd k5.2).map .d)],.cs [.v (.int .i64 e6)]] [] (A (dInt.len' a1) (A (w_sp_l15Rd_pick n _ _ hk5) (A (dInt.idx he6) T))) [(9,iE a3)] [.c 8 0 (iE 1),.c 8 1 (iE e6)] [.o 0 (.cells ((kL15Rd k5.2).map .d))] ?_
      refine .sn 1 dInt a1 (by kernel_rfl) (fun hb7=>?_)
      cases h0
      exact .rt hK
     ·obtain⟨k8,hk8,h0⟩:=bnd h0
      refine .ao [.call [.low 0] (iE k8.1) [.cells ((kL15Rd k8.2).map .d)]] (A (w_sp_l15Rd_pick n _ _ hk8) T) [(41,iE k8.1)] [.o 0 (.cells ((kL15Rd k8.2).map .d))] ?_
      refine .a [] T [(42,dE (k8.1=0))] ?_
      refine .jP h0 (fun hc9 h0=>?_) (fun hc9 h0=>?_)
      ·obtain⟨k10,hk10,h0⟩:=bnd h0
       refine .aq [.call [.low 0] (aE (kForm k10.1)) [.cells ((kL15Rd k10.2).map .d)]] [] (A (w_sp_l1Some n _ _ hk10) T) [(9,iE a3)] [.c 8 0 (iE 4),.c 8 5 (iE k10.1.kind),.c 8 6 (sE k10.1.name),.c 8 7 (iE k10.1.n),.c 8 8 (lE 1 (ksInt k10.1.scopes)),.c 8 9 (lE 5 (ksForm k10.1.kids))] [.o 0 (.cells ((kL15Rd k10.2).map .d))] ?_
       cases h0
       exact .rt hK
      ·refine .a [] T [(48,dE (k8.1=1))] ?_
       refine .jP h0 (fun hc11 h0=>?_) (fun hc11 h0=>?_)
       ·obtain⟨k12,hk12,h0⟩:=bnd h0
        refine .aq [.sv (ksStr [[102],[43],[108,105,115,116]]),.call [.low 0] (sE k12.1) [.cells ((kL15Rd k12.2).map .d)]] [] (A (dStr.lit [[102],[43],[108,105,115,116]]) (A (w_sp_l15Rd_of n _ _ hk12) T)) [(9,iE a3)] [.c 8 0 (iE 2),.c 8 2 (sE k12.1)] [.o 0 (.cells ((kL15Rd k12.2).map .d))] ?_
        cases h0
        exact .rt hK
       ·obtain⟨k13,hk13,h0⟩:=bnd h0
        refine .aq [.sv (ksInt [0,1,5,42]),.call [.low 0] (iE k13.1) [.cells ((kL15Rd k13.2).map .d)]] [] (A (dInt.lit [0,1,5,42]) (A (w_sp_l15Rd_num n _ _ hk13) T)) [(9,iE a3)] [.c 8 0 (iE 3),.c 8 3 (iE k13.1)] [.o 0 (.cells ((kL15Rd k13.2).map .d))] ?_
        cases h0
        exact .rt hK
    ·by_cases g14:(a1.length:Int)>0
     ·have h1:=iteP g14 h1
      obtain⟨k15,hk15,h1⟩:=bnd h1
      refine .ao [.v (a1.length:Int),.b true,.b true,.call [.low 0] (iE k15.1) [.cells ((kL15Rd k15.2).map .d)],.b true,.b true] (A (dInt.len' a1) (A (dt g14) (A (A (dt g14) (w_sp_l15Rd_pick n _ _ hk15)) (R 2 (dt g14) T)))) [(30,dE (k15.1>0))] [.o 0 (.cells ((kL15Rd k15.2).map .d))] ?_
      refine .sn 1 dInt a1 (by kernel_rfl) (fun hb16=>?_)
      cases h1
      exact .lg hj1 []
     ·have h1:=iteN g14 h1
      refine .a (.v (a1.length:Int)::(rb 4 false [])) (A (dInt.len' a1) (R 4 (df g14) T)) [(30,bE false)] ?_
      refine .sn 1 dInt a1 (by kernel_rfl) (fun hb17=>?_)
      cases h1
      exact .lg hj1 []
   ·obtain⟨k18,hk18,h0⟩:=bnd h0
    refine .aq [.sv (ksInt [6,5,7,5]),.call [.low 0] (iE k18.1) [.cells ((kL15Rd k18.2).map .d)]] [] (A (dInt.lit [6,5,7,5]) (A (w_sp_l15Rd_num n _ _ hk18) T)) [(10,pw 10)] [.o 10 (.cells [iE k18.1,iE 0,sE [],iE 0,fE 1 (ksInt []),iE 0,sE [],iE 0,fE 1 (ksInt []),fE 5 (ksForm []),fE 11 (ksCore [])])] [.o 0 (.cells ((kL15Rd k18.2).map .d))] ?_
    refine .a [] T [(11,iE 3)] ?_
    refine .a [] T [(65,iE k18.1)] ?_
    refine .oc 10 4 100084 3 (by kernel_rfl) ?_
    refine .bPB h0 rfl [0,2,8,10] (fun o19=>[(1,lE 1 (ksInt o19.1)),(3,iE o19.2.1),(11,iE o19.2.2.1)]) (fun o19=>[.c 10 4 (.gs (.own 100084) 1 (ksInt o19.2.2.2.1)),.o 100084 (.tok (ksInt o19.2.2.2.1).length 3)]) (fun o19=>[.o 0 (.cells [lE 1 (ksByte o19.2.2.2.2.1),iE o19.2.2.2.2.2])]) (fun o19 h0=>?_) (fun y1 h1 hj1=>?_)
    ·refine .a [] T [(13,iE 0)] ?_
     refine .oc 10 10 100116 35 (by kernel_rfl) ?_
     refine .it h0 rfl [0,1,2,8,10,11] (fun s20=>[(3,iE s20.1),(13,iE s20.2.1)]) (fun s20=>[.c 10 10 (.gs (.own 100116) 11 (ksCore s20.2.2.1)),.o 100116 (.tok (ksCore s20.2.2.1).length 35)]) (fun s20=>[.o 0 (.cells [lE 1 (ksByte s20.2.2.2.1),iE s20.2.2.2.2])]) [] (by kernel_rfl) (fun nk21 s20 h0=>?_)
     obtain⟨y1,h1,hw1,hn1⟩:=iter_cons h0
     refine .a [] T [(99,dE (s20.2.1<o19.2.2.1))] ?_
     refine .jP h1 (fun hc22 h1=>?_) (fun hc22 h1=>?_)
     ·obtain⟨k23,hk23,h1⟩:=bnd h1
      refine .aq [.pl,.call [.low 0] (.tup [aE (kCore k23.1),iE k23.2.1]) [.cells ((kL15Rd k23.2.2).map .d)]] [] (A (ih _ _ _ _ hk23) T) [(14,pw 14),(15,iE k23.2.1)] [.o 14 (.cells ((kCore k23.1).map .d))] [.o 0 (.cells ((kL15Rd k23.2.2).map .d))] ?_
      refine .a [] T [(3,iE k23.2.1)] ?_
      obtain⟨z24,hz24,h1⟩:=bnd h1
      refine .aq [.sv (ksCore [k23.1]),.sv (ksCore z24)] [((ksCore s20.2.2.1).length:Int)] (A (dCore.lit [k23.1]) (A (dCore.ap hz24) T)) [] [.c 10 10 (.gs (.own 100116) 11 (ksCore z24)),.o 100116 (.tok (ksCore z24).length 35)] [] ?_
      refine .a [.pl] T [(13,iE (w64 (s20.2.1+1)))] ?_
      cases h1
      refine .kp [0,1,2,3,8,10,11,13] [] ?_
      refine .dr 14 (by kernel_rfl) ?_
      exact .nI rfl _ (hn1 _ rfl) [] (by kernel_rfl)
     ·refine .af [] T [(9,iE s20.1)] [.c 8 0 (iE k18.1),.c 8 4 (.gs (.own 100084) 1 (ksInt o19.2.2.2.1)),.c 8 10 (.gs (.own 100116) 11 (ksCore s20.2.2.1))] ?_
      cases h1
      cases hw1 _ rfl
      exact .rt hK
    ·refine .a [] T [(66,dE (k18.1=5))] ?_
     refine .jP h1 (fun hc25 h1=>?_) (fun hc25 h1=>?_)
     ·refine .a [] T [(11,iE 1)] ?_
      obtain⟨k26,hk26,h1⟩:=bnd h1
      refine .ao [.sv (ksInt [1,2,0]),.call [.low 0] (iE k26.1) [.cells ((kL15Rd k26.2).map .d)]] (A (dInt.lit [1,2,0]) (A (w_sp_l15Rd_num n _ _ hk26) T)) [(12,iE k26.1)] [.o 0 (.cells ((kL15Rd k26.2).map .d))] ?_
      refine .it h1 rfl [0,2,8,10,11] (fun s27=>[(1,lE 1 (ksInt s27.1)),(3,iE s27.2.1),(12,iE s27.2.2.1)]) (fun s27=>[.c 10 4 (.gs (.own 100084) 1 (ksInt s27.2.2.2.1)),.o 100084 (.tok (ksInt s27.2.2.2.1).length 3)]) (fun s27=>[.o 0 (.cells [lE 1 (ksByte s27.2.2.2.2.1),iE s27.2.2.2.2.2])]) [] (by kernel_rfl) (fun nk28 s27 h1=>?_)
      obtain⟨y2,h2,hw2,hn2⟩:=iter_cons h1
      refine .a [] T [(72,dE (s27.2.2.1>0))] ?_
      refine .jP h2 (fun hc29 h2=>?_) (fun hc29 h2=>?_)
      ·obtain⟨k30,hk30,h2⟩:=bnd h2
       refine .ao [.sv (ksInt [1,2,5]),.call [.low 0] (iE k30.1) [.cells ((kL15Rd k30.2).map .d)],.pl] (A (dInt.lit [1,2,5]) (A (w_sp_l15Rd_num n _ _ hk30) T)) [(3,iE (w64 (s27.2.1+k30.1)))] [.o 0 (.cells ((kL15Rd k30.2).map .d))] ?_
       obtain⟨z31,hz31,h2⟩:=bnd h2
       refine .aq [.sv (ksInt [(w64 (s27.2.1+k30.1))]),.sv (ksInt z31)] [((ksInt s27.2.2.2.1).length:Int)] (A (dInt.lit [(w64 (s27.2.1+k30.1))]) (A (dInt.ap hz31) T)) [] [.c 10 4 (.gs (.own 100084) 1 (ksInt z31)),.o 100084 (.tok (ksInt z31).length 3)] [] ?_
       obtain⟨z32,hz32,h2⟩:=bnd h2
       obtain⟨z33,hz33,h2⟩:=bnd h2
       refine .aq [.sv (ksInt []),.sv (ksInt z32),.sv (ksInt [(w64 (s27.2.1+k30.1))]),.sv (ksInt z33)] [((ksInt z32).length:Int)] (A (dInt.lit []) (A (dInt.ap hz32) (A (dInt.lit [(w64 (s27.2.1+k30.1))]) (A (dInt.ap hz33) T)))) [(1,.gs (.own 100088) 1 (ksInt z33))] [.o 100088 (.tok (ksInt z33).length 3)] [] ?_
       refine .a [.pl] T [(12,iE (w64 (s27.2.2.1-1)))] ?_
       cases h2
       refine .kp [0,1,2,3,8,10,11,12] [1] ?_
       refine .dr 100088 (by kernel_rfl) ?_
       exact .nI rfl _ (hn2 _ rfl) [] (by kernel_rfl)
      ·cases h2
       cases hw2 _ rfl
       exact .lg hj1 []
     ·refine .a [] T [(92,dE (k18.1=6))] ?_
      refine .jP h1 (fun hc34 h1=>?_) (fun hc34 h1=>?_)
      ·obtain⟨k35,hk35,h1⟩:=bnd h1
       refine .ao [.sv (ksInt [2,1,3]),.call [.low 0] (iE k35.1) [.cells ((kL15Rd k35.2).map .d)]] (A (dInt.lit [2,1,3]) (A (w_sp_l15Rd_num n _ _ hk35) T)) [(11,iE k35.1)] [.o 0 (.cells ((kL15Rd k35.2).map .d))] ?_
       cases h1
       exact .lg hj1 []
      ·cases h1
       exact .lg hj1 []
  ·by_cases g36:a2=0
   ·have h1:=iteP g36 h1
    refine .a (rb 4 true []) (R 4 (dt g36) T) [(22,bE true)] ?_
    cases h1
    exact .lg hj1 []
   ·have h1:=iteN g36 h1
    obtain⟨k37,hk37,h1⟩:=bnd h1
    refine .ao [.b false,.b false,.call [.low 0] (iE k37.1) [.cells ((kL15Rd k37.2).map .d)],.b false,.b false] (A (df g36) (A (A (df g36) (w_sp_l15Rd_pick n _ _ hk37)) (R 2 (df g36) T))) [(22,dE (k37.1=0))] [.o 0 (.cells ((kL15Rd k37.2).map .d))] ?_
    cases h1
    exact .lg hj1 []
def sp_l6Draw (n:Nat) (a0:List UInt8):Option (Core):=
 (sp_l15Open n a0).bind fun k1=>(sp_l15Rd_num n [3,4,2] k1).bind fun k2=>(sp_l6Some n [] k2.1 0 k2.2).bind fun k3=>(sp_l15Rd_pick n 8 k3.2.2).bind fun k4=>(if k4.1=0 then(sp_l6Mutate n k3.1 k4.2).bind fun k6=>(sp_l6Mutate n k6.1 k6.2).bind fun k7=>some k7.1 else some k3.1)
theorem w_sp_l6Draw (n:Nat):∀(a0:List UInt8) {r:Core},sp_l6Draw n a0=some r→SCall X.E 150 [lE 1 (ksByte a0)] [] (aE (kCore r)) []:=by
 intro a0 r h0
 rw[sp_l6Draw] at h0
 refine .n Tryz.func150 (fun L ks low K hl hL hlen hK=>?_)
 refine .af [] T [(2,pw 2)] [.o 2 (.cells [iE 0,iE 0,sE [],iE 0,fE 1 (ksInt []),iE 0,sE [],iE 0,fE 1 (ksInt []),fE 5 (ksForm []),fE 11 (ksCore [])])] ?_
 obtain⟨k1,hk1,h0⟩:=bnd h0
 refine .af [.call [.own 200007] (pl 0) [.cells ((kL15Rd k1).map .d)]] (A (w_sp_l15Open n _ hk1) T) [(3,pw 200007)] [.o 200007 (.cells ((kL15Rd k1).map .d))] ?_
 obtain⟨k2,hk2,h0⟩:=bnd h0
 obtain⟨k3,hk3,h0⟩:=bnd h0
 refine .af [.sv (ksInt []),.sv (ksInt [3,4,2]),.call [.own 200007] (iE k2.1) [.cells ((kL15Rd k2.2).map .d)],.call [.own 200007] (.tup [aE (kCore k3.1),iE k3.2.1]) [.cells ((kL15Rd k3.2.2).map .d)]] (A (dInt.lit []) (A (dInt.lit [3,4,2]) (A (w_sp_l15Rd_num n _ _ hk2) (A (w_sp_l6Some n _ _ _ _ hk3) T)))) [(4,pw 4)] [.o 200007 (.cells ((kL15Rd k3.2.2).map .d)),.o 4 (.cells ((kCore k3.1).map .d))] ?_
 obtain⟨k4,hk4,h0⟩:=bnd h0
 refine .af [.call [.own 200007] (iE k4.1) [.cells ((kL15Rd k4.2).map .d)]] (A (w_sp_l15Rd_pick n _ _ hk4) T) [(19,dE (k4.1=0))] [.o 200007 (.cells ((kL15Rd k4.2).map .d))] ?_
 refine .jP h0 (fun hc5 h0=>?_) (fun hc5 h0=>?_)
 ·obtain⟨k6,hk6,h0⟩:=bnd h0
  obtain⟨k7,hk7,h0⟩:=bnd h0
  refine .af [.call [.own 200007] (aE (kCore k6.1)) [.cells ((kL15Rd k6.2).map .d)],.call [.own 200007] (aE (kCore k7.1)) [.cells ((kL15Rd k7.2).map .d)]] (A (w_sp_l6Mutate n _ _ hk6) (A (w_sp_l6Mutate n _ _ hk7) T)) [] [.o 2 (.cells ((kCore k7.1).map .d)),.o 200007 (.cells ((kL15Rd k7.2).map .d))] ?_
  cases h0
  exact .rt hK
 ·refine .af [] T [] [.o 2 (.cells ((kCore k3.1).map .d))] ?_
  cases h0
  exact .rt hK
def sp_l15Num (n:Nat) (a0:List UInt8):Option (Int×Bool):=
 Option.bind ((if(a0.length:Int)>0 then(atI a0 0).bind fun y23=>some (decide ((y23.toNat:Int)=45)) else some false):Option (Bool)) (fun(o1:Bool)=>Option.bind ((if o1=true then(slI a0 1 (a0.length:Int)).bind fun z21=>some z21 else some a0):Option (List UInt8)) (fun(o2:List UInt8)=>Option.bind ((if(o2.length:Int)=0 then some true else(if(o2.length:Int)>17 then some true else(atI o2 0).bind fun y17=>(if(y17.toNat:Int)=48 then(if(o2.length:Int)>1 then some true else some o1) else some false))):Option (Bool)) (fun(o3:Bool)=>(if o3=true then some (0,false) else iterM n (fun(s5:Int×Int)=>((if s5.2<(o2.length:Int) then Option.bind ((atI o2 s5.2).bind fun y11=>(if(y11.toNat:Int)<48 then some true else some (decide ((y11.toNat:Int)>57))):Option (Bool)) (fun(o8:Bool)=>(if o8=true then some (Sum.inl (0,false)) else(atI o2 s5.2).bind fun y10=>some (Sum.inr ((w64 ((w64 (s5.1*10))+(IntKind.i64.wrap (IntKind.u8.wrap ((y10.toNat:Int)-48))))),(w64 (s5.2+1)))))) else Option.bind ((if o1=true then some (IntKind.i64.wrap (0-s5.1)) else some s5.1):Option (Int)) (fun(o13:Int)=>some (Sum.inl (o13,true)))):Option ((Int×Bool)⊕(Int×Int)))) (0,0)))))
theorem w_sp_l15Num (n:Nat):∀(a0:List UInt8) {r:Int×Bool},sp_l15Num n a0=some r→SCall X.E 140 [sE a0] [] (.tup [iE r.1,bE r.2]) []:=by
 intro a0 r h0
 rw[sp_l15Num] at h0
 refine .n Tryz.func140 (fun L ks low K hl hL hlen hK=>?_)
 refine .a [] T [] ?_
 refine .bP h0 rfl [0] (fun o1=>[(4,bE o1)]) n1 n1 (fun o1 h0=>?_) (fun y1 h1 hj1=>?_)
 ·refine .a [] T [(15,bE o1)] ?_
  refine .bP h0 rfl [4] (fun o2=>[(0,sE o2)]) n1 n1 (fun o2 h0=>?_) (fun y1 h1 hj1=>?_)
  ·refine .bP h0 rfl [0,4] (fun o3=>[(38,bE o3)]) n1 n1 (fun o3 h0=>?_) (fun y1 h1 hj1=>?_)
   ·refine .jT h0 (fun hc4 h0=>?_) (fun hc4 h0=>?_)
    ·refine .a [] T [(2,iE 0),(3,bE false)] ?_
     cases h0
     exact .rt hK
    ·refine .a [] T [(5,iE 0)] ?_
     refine .a [] T [(6,iE 0)] ?_
     refine .it h0 rfl [0,4] (fun s5=>[(5,iE s5.1),(6,iE s5.2)]) n1 n1 [] (by kernel_rfl) (fun nk6 s5 h0=>?_)
     obtain⟨y1,h1,hw1,hn1⟩:=iter_cons h0
     refine .a [] T [(42,dE (s5.2<(o2.length:Int)))] ?_
     refine .jP h1 (fun hc7 h1=>?_) (fun hc7 h1=>?_)
     ·refine .bP h1 rfl [0,4,5,6] (fun o8=>[(54,bE o8)]) n1 n1 (fun o8 h1=>?_) (fun y2 h2 hj2=>?_)
      ·refine .jT h1 (fun hc9 h1=>?_) (fun hc9 h1=>?_)
       ·refine .a [] T [(2,iE 0),(3,bE false)] ?_
        cases h1
        cases hw1 _ rfl
        exact .rt hK
       ·obtain⟨y10,hy10,h1⟩:=bnd h1
        refine .a [.pl,.by_ y10,.pl,.pl,.pl] (A (idy hy10) T) [(5,iE (w64 ((w64 (s5.1*10))+(IntKind.i64.wrap (IntKind.u8.wrap ((y10.toNat:Int)-48))))))] ?_
        refine .a [.pl] T [(6,iE (w64 (s5.2+1)))] ?_
        cases h1
        exact .nI rfl _ (hn1 _ rfl) [] (by kernel_rfl)
      ·obtain⟨y11,hy11,h2⟩:=bnd h2
       by_cases g12:(y11.toNat:Int)<48
       ·have h2:=iteP g12 h2
        refine .a (.by_ y11::(rb 5 true [])) (A (idy hy11) (R 5 (dt g12) T)) [(54,bE true)] ?_
        cases h2
        exact .lg hj2 []
       ·have h2:=iteN g12 h2
        refine .a (.by_ y11::(rb 3 false [.by_ y11,.b false,.b false])) (A (idy hy11) (R 2 (df g12) (A (A (df g12) (idy hy11)) (R 2 (df g12) T)))) [(54,dE ((y11.toNat:Int)>57))] ?_
        cases h2
        exact .lg hj2 []
     ·refine .a [] T [(63,bE o1)] ?_
      refine .bP h1 rfl [] (fun o13=>[(5,iE o13)]) n1 n1 (fun o13 h1=>?_) (fun y2 h2 hj2=>?_)
      ·refine .a [] T [(2,iE o13),(3,bE true)] ?_
       cases h1
       cases hw1 _ rfl
       exact .rt hK
      ·refine .jT h2 (fun hc14 h2=>?_) (fun hc14 h2=>?_)
       ·refine .a [] T [(5,iE (IntKind.i64.wrap (0-s5.1)))] ?_
        cases h2
        exact .lg hj2 []
       ·cases h2
        exact .lg hj2 []
   ·by_cases g15:(o2.length:Int)=0
    ·have h1:=iteP g15 h1
     refine .a (rb 10 true []) (R 4 (dt g15) (R 6 B1 T)) [(38,bE true)] ?_
     cases h1
     exact .lg hj1 []
    ·have h1:=iteN g15 h1
     by_cases g16:(o2.length:Int)>17
     ·have h1:=iteP g16 h1
      refine .a (rb 4 false (rb 6 true [])) (R 4 (df g15) (R 6 (dt g16) T)) [(38,bE true)] ?_
      cases h1
      exact .lg hj1 []
     ·have h1:=iteN g16 h1
      obtain⟨y17,hy17,h1⟩:=bnd h1
      by_cases g18:(y17.toNat:Int)=48
      ·have h1:=iteP g18 h1
       by_cases g19:(o2.length:Int)>1
       ·have h1:=iteP g19 h1
        refine .a (rb 6 false (.by_ y17::(.b false::(.b false::(rb 7 true [.b false,.b true,.b false]))))) (R 4 (df g15) (A (df g16) (A (A (df g16) (idy hy17)) (R 2 (df g16) (R 4 (dt g18) (A (dt g19) (A (A (dt g18) (dt g19)) (A (A (df g16) (dt g18)) (A (df g16) T))))))))) [(38,bE true)] ?_
        cases h1
        exact .lg hj1 []
       ·have h1:=iteN g19 h1
        refine .a (rb 6 false (.by_ y17::(.b false::(.b false::(rb 4 true [.b false,.b true,.b false,.b false,.b true,.b false]))))) (R 4 (df g15) (A (df g16) (A (A (df g16) (idy hy17)) (R 2 (df g16) (R 4 (dt g18) (A (df g19) (A (A (dt g18) (df g19)) (A (A (df g16) (dt g18)) (A (df g16) T))))))))) [(38,bE o1)] ?_
        cases h1
        exact .lg hj1 []
      ·have h1:=iteN g18 h1
       refine .a (rb 6 false (.by_ y17::(rb 10 false []))) (R 4 (df g15) (A (df g16) (A (A (df g16) (idy hy17)) (R 2 (df g16) (R 5 (df g18) (A (A (df g16) (df g18)) (A (df g16) T))))))) [(38,bE false)] ?_
       cases h1
       exact .lg hj1 []
  ·refine .jT h1 (fun hc20 h1=>?_) (fun hc20 h1=>?_)
   ·obtain⟨z21,hz21,h1⟩:=bnd h1
    refine .a [.st z21] (A (slS hz21) T) [(0,sE z21)] ?_
    cases h1
    exact .lg hj1 []
   ·cases h1
    exact .lg hj1 []
 ·by_cases g22:(a0.length:Int)>0
  ·have h1:=iteP g22 h1
   obtain⟨y23,hy23,h1⟩:=bnd h1
   refine .a [.b true,.b true,.by_ y23,.b true,.b true] (A (dt g22) (A (A (dt g22) (idy hy23)) (R 2 (dt g22) T))) [(4,dE ((y23.toNat:Int)=45))] ?_
   cases h1
   exact .lg hj1 []
  ·have h1:=iteN g22 h1
   refine .a (rb 4 false []) (R 4 (df g22) T) [(4,bE false)] ?_
   cases h1
   exact .lg hj1 []
def sp_l15Cut (n:Nat) (a0:List UInt8) (a1:Int):Option (List (List UInt8)):=
 iterM n (fun(s1:(List (List UInt8))×Int×Int)=>((if s1.2.2≤(a0.length:Int) then Option.bind (Option.bind ((if s1.2.2=(a0.length:Int) then some true else(atI a0 s1.2.2).bind fun y10=>some (decide ((y10.toNat:Int)=a1))):Option (Bool)) (fun(o5:Bool)=>(if o5=true then(slI a0 s1.2.1 s1.2.2).bind fun z7=>(apB 16 s1.1 [z7]).bind fun z8=>some (z8,(w64 (s1.2.2+1))) else some (s1.1,s1.2.1))):Option ((List (List UInt8))×Int)) (fun(o4:(List (List UInt8))×Int)=>some (Sum.inr (o4.1,o4.2,(w64 (s1.2.2+1))))) else some (Sum.inl s1.1)):Option ((List (List UInt8))⊕((List (List UInt8))×Int×Int)))) ([],0,0)
theorem w_sp_l15Cut (n:Nat):∀(a0:List UInt8) (a1:Int) {r:List (List UInt8)},sp_l15Cut n a0 a1=some r→SCall X.E 307 [sE a0,.d (.v (.int .u8 a1))] [] (lE 1 (ksStr r)) []:=by
 intro a0 a1 r h0
 rw[sp_l15Cut] at h0
 refine .n Tryz.func307 (fun L ks low K hl hL hlen hK=>?_)
 refine .a [] T [] ?_
 refine .a [.sv (ksStr [])] (A (dStr.lit []) T) [(5,fE 1 (ksStr []))] ?_
 refine .a [] T [(6,iE 0)] ?_
 refine .a [] T [(7,iE 0)] ?_
 refine .ow 5 100032 9 [0,1,6,7] rfl rfl (by kernel_rfl) ?_
 refine .it h0 rfl [0,1] (fun s1=>[(5,.gs (.own 100032) 1 (ksStr s1.1)),(6,iE s1.2.1),(7,iE s1.2.2)]) (fun s1=>[.o 100032 (.tok (ksStr s1.1).length 9)]) n1 [] (by kernel_rfl) (fun nk2 s1 h0=>?_)
 obtain⟨y1,h1,hw1,hn1⟩:=iter_cons h0
 refine .a [] T [(12,dE (s1.2.2≤(a0.length:Int)))] ?_
 refine .jP h1 (fun hc3 h1=>?_) (fun hc3 h1=>?_)
 ·refine .bPB h1 rfl [0,1,7] (fun o4=>[(5,.gs (.own 100032) 1 (ksStr o4.1)),(6,iE o4.2)]) (fun o4=>[.o 100032 (.tok (ksStr o4.1).length 9)]) n1 (fun o4 h1=>?_) (fun y2 h2 hj2=>?_)
  ·refine .a [.pl] T [(7,iE (w64 (s1.2.2+1)))] ?_
   cases h1
   exact .nI rfl _ (hn1 _ rfl) [] (by kernel_rfl)
  ·refine .bP h2 rfl [0,1,5,6,7] (fun o5=>[(25,bE o5)]) n1 n1 (fun o5 h2=>?_) (fun y3 h3 hj3=>?_)
   ·refine .jT h2 (fun hc6 h2=>?_) (fun hc6 h2=>?_)
    ·obtain⟨z7,hz7,h2⟩:=bnd h2
     obtain⟨z8,hz8,h2⟩:=bnd h2
     refine .aq [.st z7,.sv (ksStr [z7]),.sv (ksStr z8)] [((ksStr s1.1).length:Int)] (A (slS hz7) (A (dStr.lit [z7]) (A (dStr.ap hz8) T))) [(5,.gs (.own 100032) 1 (ksStr z8))] [.o 100032 (.tok (ksStr z8).length 9)] [] ?_
     refine .a [.pl] T [(6,iE (w64 (s1.2.2+1)))] ?_
     cases h2
     exact .lg hj2 []
    ·cases h2
     exact .lg hj2 []
   ·by_cases g9:s1.2.2=(a0.length:Int)
    ·have h3:=iteP g9 h3
     refine .a (rb 6 true []) (R 6 (dt g9) T) [(25,bE true)] ?_
     cases h3
     exact .lg hj3 []
    ·have h3:=iteN g9 h3
     obtain⟨y10,hy10,h3⟩:=bnd h3
     refine .a (rb 3 false (.by_ y10::(rb 3 false []))) (R 2 (df g9) (A (A (df g9) (idy hy10)) (R 3 (df g9) T))) [(25,dE ((y10.toNat:Int)=a1))] ?_
     cases h3
     exact .lg hj3 []
 ·refine .a [] T [(4,.gs (.own 100032) 1 (ksStr s1.1))] ?_
  cases h1
  cases hw1 _ rfl
  exact .rt hK
def sp_l1Sets (n:Nat) (a0:List UInt8) (a1:Int):Option ((List Int)×Int):=
 Option.bind ((if a1≥(a0.length:Int) then some true else(atI a0 a1).bind fun y24=>some (decide (¬(y24.toNat:Int)=123))):Option (Bool)) (fun(o1:Bool)=>(if o1=true then some ([],a1) else iterM n (fun(s3:Int)=>(Option.bind ((if s3<(a0.length:Int) then(atI a0 s3).bind fun y22=>some (decide (¬(y22.toNat:Int)=125)) else some false):Option (Bool)) (fun(o5:Bool)=>(if o5=true then some (Sum.inr (w64 (s3+1))) else(if s3=(a0.length:Int) then some (Sum.inl ([],(-1))) else(slI a0 (w64 (a1+1)) s3).bind fun z8=>(sp_l15Cut n z8 44).bind fun k9=>iterM n (fun(s10:(List Int)×Int)=>(Option.bind ((if s10.2<(k9.length:Int) then some (decide (s10.2≤24)) else some false):Option (Bool)) (fun(o12:Bool)=>(if o12=true then(atI k9 s10.2).bind fun e14=>(sp_l15Num n e14).bind fun k15=>(if(!k15.2)=true then some (Sum.inl (Sum.inl (s10.1,(-1)))) else(apB 8 s10.1 [k15.1]).bind fun z17=>some (Sum.inr (z17,(w64 (s10.2+1))))) else some (Sum.inl (Sum.inl (s10.1,(w64 (s3+1))))))):Option ((((List Int)×Int)⊕Int)⊕((List Int)×Int)))) ([],0)))):Option (((List Int)×Int)⊕Int))) a1))
theorem w_sp_l1Sets (n:Nat):∀(a0:List UInt8) (a1:Int) {r:(List Int)×Int},sp_l1Sets n a0 a1=some r→SCall X.E 298 [sE a0,iE a1] [] (.tup [lE 1 (ksInt r.1),iE r.2]) []:=by
 intro a0 a1 r h0
 rw[sp_l1Sets] at h0
 refine .n Tryz.func298 (fun L ks low K hl hL hlen hK=>?_)
 refine .a [] T [] ?_
 refine .a [.sv (ksInt [])] (A (dInt.lit []) T) [(6,fE 1 (ksInt []))] ?_
 refine .bP h0 rfl [0,1,6] (fun o1=>[(22,bE o1)]) n1 n1 (fun o1 h0=>?_) (fun y1 h1 hj1=>?_)
 ·refine .jT h0 (fun hc2 h0=>?_) (fun hc2 h0=>?_)
  ·refine .a [] T [(4,fE 1 (ksInt [])),(5,iE a1)] ?_
   cases h0
   exact .rt hK
  ·refine .a [] T [(7,iE a1)] ?_
   refine .it h0 rfl [0,1,6] (fun s3=>[(7,iE s3)]) n1 n1 [] (by kernel_rfl) (fun nk4 s3 h0=>?_)
   obtain⟨y1,h1,hw1,hn1⟩:=iter_cons h0
   refine .bP h1 rfl [0,1,6,7] (fun o5=>[(35,bE o5)]) n1 n1 (fun o5 h1=>?_) (fun y2 h2 hj2=>?_)
   ·refine .jT h1 (fun hc6 h1=>?_) (fun hc6 h1=>?_)
    ·refine .a [.pl] T [(7,iE (w64 (s3+1)))] ?_
     cases h1
     exact .nI rfl _ (hn1 _ rfl) [] (by kernel_rfl)
    ·refine .a [] T [(41,dE (s3=(a0.length:Int)))] ?_
     refine .jP h1 (fun hc7 h1=>?_) (fun hc7 h1=>?_)
     ·refine .a [] T [(4,fE 1 (ksInt [])),(5,iE (-1))] ?_
      cases h1
      cases hw1 _ rfl
      exact .rt hK
     ·obtain⟨z8,hz8,h1⟩:=bnd h1
      obtain⟨k9,hk9,h1⟩:=bnd h1
      refine .a [.pl,.st z8,.call [] (lE 1 (ksStr k9)) []] (A (slS hz8) (A (w_sp_l15Cut n _ _ hk9) T)) [(8,lE 1 (ksStr k9))] ?_
      refine .a [] T [(9,iE 0)] ?_
      refine .ow 6 100073 3 [7,8,9] rfl rfl (by kernel_rfl) ?_
      refine .it h1 rfl [7,8] (fun s10=>[(6,.gs (.own 100073) 1 (ksInt s10.1)),(9,iE s10.2)]) (fun s10=>[.o 100073 (.tok (ksInt s10.1).length 3)]) n1 [] (by kernel_rfl) (fun nk11 s10 h1=>?_)
      obtain⟨y2,h2,hw2,hn2⟩:=iter_cons h1
      refine .bP h2 rfl [6,7,8,9] (fun o12=>[(56,bE o12)]) n1 n1 (fun o12 h2=>?_) (fun y3 h3 hj3=>?_)
      ·refine .jT h2 (fun hc13 h2=>?_) (fun hc13 h2=>?_)
       ·obtain⟨e14,he14,h2⟩:=bnd h2
        obtain⟨k15,hk15,h2⟩:=bnd h2
        refine .a [.cs [.s e14],.call [] (.tup [iE k15.1,bE k15.2]) []] (A (dStr.idx he14) (A (w_sp_l15Num n _ hk15) T)) [(10,iE k15.1),(11,bE k15.2)] ?_
        refine .a [] T [(68,bE (!k15.2))] ?_
        refine .jT h2 (fun hc16 h2=>?_) (fun hc16 h2=>?_)
        ·refine .a [] T [(4,.gs (.own 100073) 1 (ksInt s10.1)),(5,iE (-1))] ?_
         cases h2
         cases hw2 _ rfl
         cases hw1 _ rfl
         exact .rt hK
        ·obtain⟨z17,hz17,h2⟩:=bnd h2
         refine .aq [.sv (ksInt [k15.1]),.sv (ksInt z17)] [((ksInt s10.1).length:Int)] (A (dInt.lit [k15.1]) (A (dInt.ap hz17) T)) [(6,.gs (.own 100073) 1 (ksInt z17))] [.o 100073 (.tok (ksInt z17).length 3)] [] ?_
         refine .a [.pl] T [(9,iE (w64 (s10.2+1)))] ?_
         cases h2
         exact .nI rfl _ (hn2 _ rfl) [] (by kernel_rfl)
       ·refine .a [.pl] T [(4,.gs (.own 100073) 1 (ksInt s10.1)),(5,iE (w64 (s3+1)))] ?_
        cases h2
        cases hw2 _ rfl
        cases hw1 _ rfl
        exact .rt hK
      ·by_cases g18:s10.2<(k9.length:Int)
       ·have h3:=iteP g18 h3
        refine .a (.v (k9.length:Int)::(rb 3 true [])) (A (dStr.len' k9) (R 3 (dt g18) T)) [(56,dE (s10.2≤24))] ?_
        refine .sn 8 dStr k9 (by kernel_rfl) (fun hb19=>?_)
        cases h3
        exact .lg hj3 []
       ·have h3:=iteN g18 h3
        refine .a (.v (k9.length:Int)::(rb 3 false [])) (A (dStr.len' k9) (R 3 (df g18) T)) [(56,bE false)] ?_
        refine .sn 8 dStr k9 (by kernel_rfl) (fun hb20=>?_)
        cases h3
        exact .lg hj3 []
   ·by_cases g21:s3<(a0.length:Int)
    ·have h2:=iteP g21 h2
     obtain⟨y22,hy22,h2⟩:=bnd h2
     refine .a (rb 3 true [.by_ y22,.b true,.b true]) (R 2 (dt g21) (A (A (dt g21) (idy hy22)) (R 2 (dt g21) T))) [(35,dE (¬(y22.toNat:Int)=125))] ?_
     cases h2
     exact .lg hj2 []
    ·have h2:=iteN g21 h2
     refine .a (rb 5 false []) (R 5 (df g21) T) [(35,bE false)] ?_
     cases h2
     exact .lg hj2 []
 ·by_cases g23:a1≥(a0.length:Int)
  ·have h1:=iteP g23 h1
   refine .a (rb 5 true []) (R 5 (dt g23) T) [(22,bE true)] ?_
   cases h1
   exact .lg hj1 []
  ·have h1:=iteN g23 h1
   obtain⟨y24,hy24,h1⟩:=bnd h1
   refine .a (rb 3 false [.by_ y24,.b false,.b false]) (R 2 (df g23) (A (A (df g23) (idy hy24)) (R 2 (df g23) T))) [(22,dE (¬(y24.toNat:Int)=123))] ?_
   cases h1
   exact .lg hj1 []
def sp_l1Word (n:Nat) (a0:List UInt8) (a1:Int):Option (Int):=
 iterM n (fun(s1:Int)=>(Option.bind ((if s1<(a0.length:Int) then(atI a0 s1).bind fun y6=>(if ¬(y6.toNat:Int)=32 then(if ¬(y6.toNat:Int)=40 then(if ¬(y6.toNat:Int)=41 then some (decide (¬(y6.toNat:Int)=123)) else some false) else some false) else some false) else some false):Option (Bool)) (fun(o3:Bool)=>(if o3=true then some (Sum.inr (w64 (s1+1))) else some (Sum.inl s1))):Option (Int⊕Int))) a1
theorem w_sp_l1Word (n:Nat):∀(a0:List UInt8) (a1:Int) {r:Int},sp_l1Word n a0 a1=some r→SCall X.E 297 [sE a0,iE a1] [] (iE r) []:=by
 intro a0 a1 r h0
 rw[sp_l1Word] at h0
 refine .n Tryz.func297 (fun L ks low K hl hL hlen hK=>?_)
 refine .a [] T [] ?_
 refine .it h0 rfl [0] (fun s1=>[(1,iE s1)]) n1 n1 [] (by kernel_rfl) (fun nk2 s1 h0=>?_)
 obtain⟨y1,h1,hw1,hn1⟩:=iter_cons h0
 refine .bP h1 rfl [0,1] (fun o3=>[(32,bE o3)]) n1 n1 (fun o3 h1=>?_) (fun y2 h2 hj2=>?_)
 ·refine .jT h1 (fun hc4 h1=>?_) (fun hc4 h1=>?_)
  ·refine .a [.pl] T [(1,iE (w64 (s1+1)))] ?_
   cases h1
   exact .nI rfl _ (hn1 _ rfl) [] (by kernel_rfl)
  ·refine .a [] T [(4,iE s1)] ?_
   cases h1
   cases hw1 _ rfl
   exact .rt hK
 ·by_cases g5:s1<(a0.length:Int)
  ·have h2:=iteP g5 h2
   obtain⟨y6,hy6,h2⟩:=bnd h2
   by_cases g7:¬(y6.toNat:Int)=32
   ·have h2:=iteP g7 h2
    by_cases g8:¬(y6.toNat:Int)=40
    ·have h2:=iteP g8 h2
     by_cases g9:¬(y6.toNat:Int)=41
     ·have h2:=iteP g9 h2
      refine .a (rb 3 true (.by_ y6::(rb 5 true (.by_ y6::(rb 5 true (.by_ y6::(rb 5 true [.by_ y6,.b true,.b true]))))))) (R 2 (dt g5) (A (A (dt g5) (idy hy6)) (R 2 (dt g5) (R 2 (dt g7) (A (A (dt g7) (idy hy6)) (R 2 (dt g7) (R 2 (dt g8) (A (A (dt g8) (idy hy6)) (R 2 (dt g8) (R 2 (dt g9) (A (A (dt g9) (idy hy6)) (R 2 (dt g9) T)))))))))))) [(32,dE (¬(y6.toNat:Int)=123))] ?_
      cases h2
      exact .lg hj2 []
     ·have h2:=iteN g9 h2
      refine .a (rb 3 true (.by_ y6::(rb 5 true (.by_ y6::(rb 5 true (.by_ y6::(.b true::(.b true::(rb 5 false []))))))))) (R 2 (dt g5) (A (A (dt g5) (idy hy6)) (R 2 (dt g5) (R 2 (dt g7) (A (A (dt g7) (idy hy6)) (R 2 (dt g7) (R 2 (dt g8) (A (A (dt g8) (idy hy6)) (R 2 (dt g8) (R 5 (df g9) T)))))))))) [(32,bE false)] ?_
      cases h2
      exact .lg hj2 []
    ·have h2:=iteN g8 h2
     refine .a (rb 3 true (.by_ y6::(rb 5 true (.by_ y6::(.b true::(.b true::(rb 10 false []))))))) (R 2 (dt g5) (A (A (dt g5) (idy hy6)) (R 2 (dt g5) (R 2 (dt g7) (A (A (dt g7) (idy hy6)) (R 2 (dt g7) (R 5 (df g8) (R 5 B0 T)))))))) [(32,bE false)] ?_
     cases h2
     exact .lg hj2 []
   ·have h2:=iteN g7 h2
    refine .a (rb 3 true (.by_ y6::(.b true::(.b true::(rb 15 false []))))) (R 2 (dt g5) (A (A (dt g5) (idy hy6)) (R 2 (dt g5) (R 5 (df g7) (R 10 B0 T))))) [(32,bE false)] ?_
    cases h2
    exact .lg hj2 []
  ·have h2:=iteN g5 h2
   refine .a (rb 20 false []) (R 5 (df g5) (R 15 B0 T)) [(32,bE false)] ?_
   cases h2
   exact .lg hj2 []
def sp_l1Atom (n:Nat) (a0:List UInt8) (a1:Int):Option (Form×Int):=
 (sp_l1Word n a0 a1).bind fun k1=>(slI a0 a1 k1).bind fun z2=>(sp_l15Num n z2).bind fun k3=>(if k3.2=true then some ((⟨2,[],k3.1,[],[]⟩:Form),k1) else(if z2=[] then some ((⟨0,[],0,[],[]⟩:Form),(-1)) else(sp_l1Sets n a0 k1).bind fun k6=>some ((⟨1,z2,0,k6.1,[]⟩:Form),k6.2)))
theorem w_sp_l1Atom (n:Nat):∀(a0:List UInt8) (a1:Int) {r:Form×Int},sp_l1Atom n a0 a1=some r→SCall X.E 285 [sE a0,iE a1] [] (.tup [aE (kForm r.1),iE r.2]) []:=by
 intro a0 a1 r h0
 rw[sp_l1Atom] at h0
 refine .n Tryz.func285 (fun L ks low K hl hL hlen hK=>?_)
 refine .af [] T [(4,pw 4)] [.o 4 (.cells [iE 0,sE [],iE 0,fE 1 (ksInt []),fE 5 (ksForm [])])] ?_
 obtain⟨k1,hk1,h0⟩:=bnd h0
 refine .a [.call [] (iE k1) []] (A (w_sp_l1Word n _ _ hk1) T) [(6,iE k1)] ?_
 obtain⟨z2,hz2,h0⟩:=bnd h0
 refine .a [.st z2] (A (slS hz2) T) [(7,sE z2)] ?_
 obtain⟨k3,hk3,h0⟩:=bnd h0
 refine .a [.call [] (.tup [iE k3.1,bE k3.2]) []] (A (w_sp_l15Num n _ hk3) T) [(8,iE k3.1),(9,bE k3.2)] ?_
 refine .a [] T [(24,bE k3.2)] ?_
 refine .jT h0 (fun hc4 h0=>?_) (fun hc4 h0=>?_)
 ·refine .af [] T [(5,iE k1)] [.c 4 0 (iE 2),.c 4 2 (iE k3.1)] ?_
  cases h0
  exact .rt hK
 ·refine .a [] T [(29,dE (z2=[]))] ?_
  refine .jP h0 (fun hc5 h0=>?_) (fun hc5 h0=>?_)
  ·refine .a [] T [(5,iE (-1))] ?_
   cases h0
   exact .rt hK
  ·obtain⟨k6,hk6,h0⟩:=bnd h0
   refine .a [.call [] (.tup [lE 1 (ksInt k6.1),iE k6.2]) []] (A (w_sp_l1Sets n _ _ hk6) T) [(10,lE 1 (ksInt k6.1)),(11,iE k6.2)] ?_
   refine .af [] T [(5,iE k6.2)] [.c 4 0 (iE 1),.c 4 1 (sE z2),.c 4 3 (lE 1 (ksInt k6.1))] ?_
   cases h0
   exact .rt hK
def sp_l1Skip (n:Nat) (a0:List UInt8) (a1:Int):Option (Int):=
 iterM n (fun(s1:Int)=>(Option.bind ((if s1<(a0.length:Int) then(atI a0 s1).bind fun y6=>some (decide ((y6.toNat:Int)=32)) else some false):Option (Bool)) (fun(o3:Bool)=>(if o3=true then some (Sum.inr (w64 (s1+1))) else some (Sum.inl s1))):Option (Int⊕Int))) a1
theorem w_sp_l1Skip (n:Nat):∀(a0:List UInt8) (a1:Int) {r:Int},sp_l1Skip n a0 a1=some r→SCall X.E 263 [sE a0,iE a1] [] (iE r) []:=by
 intro a0 a1 r h0
 rw[sp_l1Skip] at h0
 refine .n Tryz.func263 (fun L ks low K hl hL hlen hK=>?_)
 refine .a [] T [] ?_
 refine .it h0 rfl [0] (fun s1=>[(1,iE s1)]) n1 n1 [] (by kernel_rfl) (fun nk2 s1 h0=>?_)
 obtain⟨y1,h1,hw1,hn1⟩:=iter_cons h0
 refine .bP h1 rfl [0,1] (fun o3=>[(14,bE o3)]) n1 n1 (fun o3 h1=>?_) (fun y2 h2 hj2=>?_)
 ·refine .jT h1 (fun hc4 h1=>?_) (fun hc4 h1=>?_)
  ·refine .a [.pl] T [(1,iE (w64 (s1+1)))] ?_
   cases h1
   exact .nI rfl _ (hn1 _ rfl) [] (by kernel_rfl)
  ·refine .a [] T [(4,iE s1)] ?_
   cases h1
   cases hw1 _ rfl
   exact .rt hK
 ·by_cases g5:s1<(a0.length:Int)
  ·have h2:=iteP g5 h2
   obtain⟨y6,hy6,h2⟩:=bnd h2
   refine .a (rb 3 true [.by_ y6,.b true,.b true]) (R 2 (dt g5) (A (A (dt g5) (idy hy6)) (R 2 (dt g5) T))) [(14,dE ((y6.toNat:Int)=32))] ?_
   cases h2
   exact .lg hj2 []
  ·have h2:=iteN g5 h2
   refine .a (rb 5 false []) (R 5 (df g5) T) [(14,bE false)] ?_
   cases h2
   exact .lg hj2 []
def sp_l1Read:Nat→(List UInt8)→Int→Int→Option (Form×Int)
 | 0,_,_,_=>none
 | n+1,a0,a1,a2=>(sp_l1Skip n a0 a1).bind fun k1=>Option.bind ((if k1≥(a0.length:Int) then some true else some (decide (a2=0))):Option (Bool)) (fun(o2:Bool)=>(if o2=true then some ((⟨0,[],0,[],[]⟩:Form),(-1)) else(atI a0 k1).bind fun y4=>(if ¬(y4.toNat:Int)=40 then(sp_l1Atom n a0 k1).bind fun k6=>some (k6.1,k6.2) else(sp_l1Skip n a0 (w64 (k1+1))).bind fun k7=>iterM n (fun(s8:Int×(List Form))=>(Option.bind ((if s8.1<(a0.length:Int) then(atI a0 s8.1).bind fun y21=>(if ¬(y21.toNat:Int)=41 then some (decide ((s8.2.length:Int)<400)) else some false) else some false):Option (Bool)) (fun(o10:Bool)=>(if o10=true then(sp_l1Read n a0 s8.1 (w64 (a2-1))).bind fun k12=>(if k12.2<0 then some (Sum.inl ((⟨3,[],0,[],s8.2⟩:Form),(-1))) else(apB 80 s8.2 [k12.1]).bind fun z14=>(sp_l1Skip n a0 k12.2).bind fun k15=>some (Sum.inr (k15,z14))) else Option.bind ((if s8.1≥(a0.length:Int) then some true else(atI a0 s8.1).bind fun y19=>some (decide (¬(y19.toNat:Int)=41))):Option (Bool)) (fun(o16:Bool)=>(if o16=true then some (Sum.inl ((⟨3,[],0,[],s8.2⟩:Form),(-1))) else some (Sum.inl ((⟨3,[],0,[],s8.2⟩:Form),(w64 (s8.1+1)))))))):Option ((Form×Int)⊕(Int×(List Form))))) (k7,[]))))
theorem w_sp_l1Read (n:Nat):∀(a0:List UInt8) (a1:Int) (a2:Int) {r:Form×Int},sp_l1Read n a0 a1 a2=some r→SCall X.E 262 [sE a0,iE a1,iE a2] [] (.tup [aE (kForm r.1),iE r.2]) []:=by
 induction n with
 | zero=>intro a0 a1 a2 r h; cases h
 | succ n ih=>
  intro a0 a1 a2 r h0
  rw[sp_l1Read] at h0
  refine .n Tryz.func262 (fun L ks low K hl hL hlen hK=>?_)
  refine .af [] T [(6,pw 6)] [.o 6 (.cells [iE 0,sE [],iE 0,fE 1 (ksInt []),fE 5 (ksForm [])])] ?_
  obtain⟨k1,hk1,h0⟩:=bnd h0
  refine .a [.call [] (iE k1) []] (A (w_sp_l1Skip n _ _ hk1) T) [(1,iE k1)] ?_
  refine .bP h0 rfl [0,1,2,6] (fun o2=>[(21,bE o2)]) n1 n1 (fun o2 h0=>?_) (fun y1 h1 hj1=>?_)
  ·refine .jT h0 (fun hc3 h0=>?_) (fun hc3 h0=>?_)
   ·refine .a [] T [(7,iE (-1))] ?_
    cases h0
    exact .rt hK
   ·obtain⟨y4,hy4,h0⟩:=bnd h0
    refine .a [.by_ y4] (A (idy hy4) T) [(26,dE (¬(y4.toNat:Int)=40))] ?_
    refine .jP h0 (fun hc5 h0=>?_) (fun hc5 h0=>?_)
    ·obtain⟨k6,hk6,h0⟩:=bnd h0
     refine .af [.call [] (.tup [aE (kForm k6.1),iE k6.2]) []] (A (w_sp_l1Atom n _ _ hk6) T) [(7,iE k6.2)] [.o 6 (.cells ((kForm k6.1).map .d))] ?_
     cases h0
     exact .rt hK
    ·refine .af [] T [(8,pw 8)] [.o 8 (.cells [iE 3,sE [],iE 0,fE 1 (ksInt []),fE 5 (ksForm [])])] ?_
     obtain⟨k7,hk7,h0⟩:=bnd h0
     refine .a [.pl,.call [] (iE k7) []] (A (w_sp_l1Skip n _ _ hk7) T) [(1,iE k7)] ?_
     refine .oc 8 4 100068 32 (by kernel_rfl) ?_
     refine .it h0 rfl [0,2,6,8] (fun s8=>[(1,iE s8.1)]) (fun s8=>[.c 8 4 (.gs (.own 100068) 5 (ksForm s8.2)),.o 100068 (.tok (ksForm s8.2).length 32)]) n1 [] (by kernel_rfl) (fun nk9 s8 h0=>?_)
     obtain⟨y1,h1,hw1,hn1⟩:=iter_cons h0
     refine .bP h1 rfl [0,1,2,6,8] (fun o10=>[(52,bE o10)]) n1 n1 (fun o10 h1=>?_) (fun y2 h2 hj2=>?_)
     ·refine .jT h1 (fun hc11 h1=>?_) (fun hc11 h1=>?_)
      ·obtain⟨k12,hk12,h1⟩:=bnd h1
       refine .af [.pl,.call [] (.tup [aE (kForm k12.1),iE k12.2]) []] (A (ih _ _ _ hk12) T) [(9,pw 9),(10,iE k12.2)] [.o 9 (.cells ((kForm k12.1).map .d))] ?_
       refine .a [] T [(62,dE (k12.2<0))] ?_
       refine .jP h1 (fun hc13 h1=>?_) (fun hc13 h1=>?_)
       ·refine .af [] T [(7,iE (-1))] [.c 6 0 (iE 3),.c 6 4 (.gs (.own 100068) 5 (ksForm s8.2))] ?_
        cases h1
        cases hw1 _ rfl
        exact .rt hK
       ·obtain⟨z14,hz14,h1⟩:=bnd h1
        refine .aq [.sv (ksForm [k12.1]),.sv (ksForm z14)] [((ksForm s8.2).length:Int)] (A (dForm.lit [k12.1]) (A (dForm.ap hz14) T)) [] [.c 8 4 (.gs (.own 100068) 5 (ksForm z14)),.o 100068 (.tok (ksForm z14).length 32)] [] ?_
        obtain⟨k15,hk15,h1⟩:=bnd h1
        refine .a [.call [] (iE k15) []] (A (w_sp_l1Skip n _ _ hk15) T) [(1,iE k15)] ?_
        cases h1
        refine .kp [0,1,2,6,8] [] ?_
        refine .dr 9 (by kernel_rfl) ?_
        exact .nI rfl _ (hn1 _ rfl) [] (by kernel_rfl)
      ·refine .bP h1 rfl [1,6,8] (fun o16=>[(82,bE o16)]) n1 n1 (fun o16 h1=>?_) (fun y2 h2 hj2=>?_)
       ·refine .jT h1 (fun hc17 h1=>?_) (fun hc17 h1=>?_)
        ·refine .af [] T [(7,iE (-1))] [.c 6 0 (iE 3),.c 6 4 (.gs (.own 100068) 5 (ksForm s8.2))] ?_
         cases h1
         cases hw1 _ rfl
         exact .rt hK
        ·refine .af [.pl] T [(7,iE (w64 (s8.1+1)))] [.c 6 0 (iE 3),.c 6 4 (.gs (.own 100068) 5 (ksForm s8.2))] ?_
         cases h1
         cases hw1 _ rfl
         exact .rt hK
       ·by_cases g18:s8.1≥(a0.length:Int)
        ·have h2:=iteP g18 h2
         refine .a (rb 5 true []) (R 5 (dt g18) T) [(82,bE true)] ?_
         cases h2
         exact .lg hj2 []
        ·have h2:=iteN g18 h2
         obtain⟨y19,hy19,h2⟩:=bnd h2
         refine .a (rb 3 false [.by_ y19,.b false,.b false]) (R 2 (df g18) (A (A (df g18) (idy hy19)) (R 2 (df g18) T))) [(82,dE (¬(y19.toNat:Int)=41))] ?_
         cases h2
         exact .lg hj2 []
     ·by_cases g20:s8.1<(a0.length:Int)
      ·have h2:=iteP g20 h2
       obtain⟨y21,hy21,h2⟩:=bnd h2
       by_cases g22:¬(y21.toNat:Int)=41
       ·have h2:=iteP g22 h2
        refine .a (rb 3 true (.by_ y21::(rb 5 true [.v (s8.2.length:Int),.b true,.b true]))) (R 2 (dt g20) (A (A (dt g20) (idy hy21)) (R 2 (dt g20) (R 2 (dt g22) (A (A (dt g22) (dForm.len' s8.2)) (R 2 (dt g22) T)))))) [(52,dE ((s8.2.length:Int)<400))] ?_
        cases h2
        exact .lg hj2 []
       ·have h2:=iteN g22 h2
        refine .a (rb 3 true (.by_ y21::(.b true::(.b true::(rb 5 false []))))) (R 2 (dt g20) (A (A (dt g20) (idy hy21)) (R 2 (dt g20) (R 5 (df g22) T)))) [(52,bE false)] ?_
        cases h2
        exact .lg hj2 []
      ·have h2:=iteN g20 h2
       refine .a (rb 10 false []) (R 5 (df g20) (R 5 B0 T)) [(52,bE false)] ?_
       cases h2
       exact .lg hj2 []
  ·by_cases g23:k1≥(a0.length:Int)
   ·have h1:=iteP g23 h1
    refine .a (rb 3 true []) (R 3 (dt g23) T) [(21,bE true)] ?_
    cases h1
    exact .lg hj1 []
   ·have h1:=iteN g23 h1
    refine .a (rb 3 false []) (R 3 (df g23) T) [(21,dE (a2=0))] ?_
    cases h1
    exact .lg hj1 []
def sp_ParseForm (n:Nat) (a0:List UInt8):Option (Form×Bool):=
 (sp_l1Read n a0 0 40).bind fun k1=>Option.bind ((if k1.2<0 then some true else(sp_l1Skip n a0 k1.2).bind fun k5=>(if ¬k5=(a0.length:Int) then some true else(sp_FormValid n k1.1).bind fun k7=>some (!k7))):Option (Bool)) (fun(o2:Bool)=>(if o2=true then some ((⟨0,[],0,[],[]⟩:Form),false) else some (k1.1,true)))
theorem w_sp_ParseForm (n:Nat):∀(a0:List UInt8) {r:Form×Bool},sp_ParseForm n a0=some r→SCall X.E 220 [sE a0] [] (.tup [aE (kForm r.1),bE r.2]) []:=by
 intro a0 r h0
 rw[sp_ParseForm] at h0
 refine .n Tryz.func220 (fun L ks low K hl hL hlen hK=>?_)
 refine .af [] T [(2,pw 2)] [.o 2 (.cells [iE 0,sE [],iE 0,fE 1 (ksInt []),fE 5 (ksForm [])])] ?_
 obtain⟨k1,hk1,h0⟩:=bnd h0
 refine .af [.call [] (.tup [aE (kForm k1.1),iE k1.2]) []] (A (w_sp_l1Read n _ _ _ hk1) T) [(4,pw 4),(5,iE k1.2)] [.o 4 (.cells ((kForm k1.1).map .d))] ?_
 refine .bP h0 rfl [2,4] (fun o2=>[(25,bE o2)]) n1 n1 (fun o2 h0=>?_) (fun y1 h1 hj1=>?_)
 ·refine .jT h0 (fun hc3 h0=>?_) (fun hc3 h0=>?_)
  ·refine .a [] T [(3,bE false)] ?_
   cases h0
   exact .rt hK
  ·refine .af [] T [(3,bE true)] [.o 2 (.cells ((kForm k1.1).map .d))] ?_
   cases h0
   exact .rt hK
 ·by_cases g4:k1.2<0
  ·have h1:=iteP g4 h1
   refine .a (rb 11 true []) (R 7 (dt g4) (R 4 B1 T)) [(25,bE true)] ?_
   cases h1
   exact .lg hj1 []
  ·have h1:=iteN g4 h1
   obtain⟨k5,hk5,h1⟩:=bnd h1
   by_cases g6:¬k5=(a0.length:Int)
   ·have h1:=iteP g6 h1
    refine .a (rb 3 false (.call [] (iE k5) []::(rb 4 false (rb 4 true [])))) (R 2 (df g4) (A (A (df g4) (w_sp_l1Skip n _ _ hk5)) (R 4 (df g4) (R 4 (dt g6) T)))) [(25,bE true)] ?_
    cases h1
    exact .lg hj1 []
   ·have h1:=iteN g6 h1
    obtain⟨k7,hk7,h1⟩:=bnd h1
    refine .a (rb 3 false (.call [] (iE k5) []::(rb 6 false [.call [] (bE k7) [],.b false,.b false]))) (R 2 (df g4) (A (A (df g4) (w_sp_l1Skip n _ _ hk5)) (R 4 (df g4) (A (df g6) (A (A (df g6) (w_sp_FormValid n _ hk7)) (R 2 (df g6) T)))))) [(25,bE (!k7))] ?_
    cases h1
    exact .lg hj1 []
def sp_l1Parse (n:Nat) (a0:List UInt8):Option (Form):=
 (sp_ParseForm n a0).bind fun k1=>some k1.1
theorem w_sp_l1Parse (n:Nat):∀(a0:List UInt8) {r:Form},sp_l1Parse n a0=some r→SCall X.E 187 [sE a0] [] (aE (kForm r)) []:=by
 intro a0 r h0
 rw[sp_l1Parse] at h0
 refine .n Tryz.func187 (fun L ks low K hl hL hlen hK=>?_)
 refine .af [] T [(2,pw 2)] [.o 2 (.cells [iE 0,sE [],iE 0,fE 1 (ksInt []),fE 5 (ksForm [])])] ?_
 obtain⟨k1,hk1,h0⟩:=bnd h0
 refine .af [.call [] (.tup [aE (kForm k1.1),bE k1.2]) []] (A (w_sp_ParseForm n _ hk1) T) [(3,pw 3)] [.o 3 (.cells ((kForm k1.1).map .d))] ?_
 refine .af [] T [] [.o 2 (.cells ((kForm k1.1).map .d))] ?_
 cases h0
 exact .rt hK
def sp_l1List (n:Nat) (a0:List Form):Option (Form):=
 some (⟨3,[],0,[],a0⟩:Form)
theorem w_sp_l1List (n:Nat):∀(a0:List Form) {r:Form},sp_l1List n a0=some r→SCall X.E 223 [lE 5 (ksForm a0)] [] (aE (kForm r)) []:=by
 intro a0 r h0
 rw[sp_l1List] at h0
 refine .n Tryz.func223 (fun L ks low K hl hL hlen hK=>?_)
 refine .af [] T [(2,pw 2)] [.o 2 (.cells [iE 0,sE [],iE 0,fE 1 (ksInt []),fE 5 (ksForm [])])] ?_
 refine .af [] T [] [.c 2 0 (iE 3),.c 2 4 (lE 5 (ksForm a0))] ?_
 cases h0
 exact .rt hK
def sp_l7Some:Nat→(List (List UInt8))→Int→L15Rd→Option (Form×L15Rd)
 | 0,_,_,_=>none
 | n+1,a1,a2,w0=>Option.bind ((if a2=0 then some (true,w0) else(sp_l15Rd_pick n 5 w0).bind fun k46=>some ((decide (k46.1=0)),k46.2)):Option (Bool×L15Rd)) (fun(o1:Bool×L15Rd)=>(if o1.1=true then(sp_l15Rd_pick n 3 o1.2).bind fun k3=>(if k3.1=0 then(sp_l15Rd_num n [0,1,2,7] k3.2).bind fun k5=>some ((⟨2,[],k5.1,[],[]⟩:Form),k5.2) else(sp_l15Rd_pick n (a1.length:Int) k3.2).bind fun k6=>(atI a1 k6.1).bind fun e7=>(sp_l1Name n e7).bind fun k8=>some (k8,k6.2)) else(sp_l15Rd_of n [[120],[121],[116]] o1.2).bind fun k10=>(apB 16 [] a1).bind fun z11=>(apB 16 z11 [k10.1]).bind fun z12=>(sp_l15Rd_pick n 8 k10.2).bind fun k13=>Option.bind ((if k13.1=0 then some (decide (k13.1=0)) else some (decide (k13.1=1))):Option (Bool)) (fun(o14:Bool)=>(if o14=true then(sp_l1Name n [108,97,109,98,100,97]).bind fun k16=>(sp_l1Name n k10.1).bind fun k17=>(sp_l1List n [k17]).bind fun k18=>(sp_l7Some n z12 (w64 (a2-1)) k13.2).bind fun k19=>(sp_l1List n [k16,k18,k19.1]).bind fun k20=>some (k20,k19.2) else Option.bind ((if k13.1=2 then some (decide (k13.1=2)) else some (decide (k13.1=3))):Option (Bool)) (fun(o21:Bool)=>(if o21=true then(sp_l1Name n k10.1).bind fun k23=>(sp_l7Some n a1 (w64 (a2-1)) k13.2).bind fun k24=>(sp_l1List n [k23,k24.1]).bind fun k25=>(sp_l1Name n [108,101,116]).bind fun k26=>(sp_l1List n [k25]).bind fun k27=>(sp_l7Some n z12 (w64 (a2-1)) k24.2).bind fun k28=>(sp_l1List n [k26,k27,k28.1]).bind fun k29=>some (k29,k28.2) else(if k13.1=4 then(sp_l1Name n [105,102]).bind fun k31=>(sp_l7Some n a1 (w64 (a2-1)) k13.2).bind fun k32=>(sp_l7Some n a1 (w64 (a2-1)) k32.2).bind fun k33=>(sp_l7Some n a1 0 k33.2).bind fun k34=>(sp_l1List n [k31,k32.1,k33.1,k34.1]).bind fun k35=>some (k35,k34.2) else(if k13.1=5 then(sp_l1Name n [113,117,111,116,101]).bind fun k37=>(sp_l1Some n 1 k13.2).bind fun k38=>(sp_l1List n [k37,k38.1]).bind fun k39=>some (k39,k38.2) else(sp_l7Some n a1 (w64 (a2-1)) k13.2).bind fun k40=>(sp_l7Some n a1 (w64 (a2-1)) k40.2).bind fun k41=>(sp_l1List n [k40.1,k41.1]).bind fun k42=>some (k42,k41.2)))))))))
theorem w_sp_l7Some (n:Nat):∀(a1:List (List UInt8)) (a2:Int) (w0:L15Rd) {r:Form×L15Rd},sp_l7Some n a1 a2 w0=some r→SCall X.E 222 [pl 0,lE 1 (ksStr a1),iE a2] [some (.cells ((kL15Rd w0).map .d))] (aE (kForm r.1)) [.cells ((kL15Rd r.2).map .d)]:=by
 induction n with
 | zero=>intro a1 a2 w0 r h; cases h
 | succ n ih=>
  intro a1 a2 w0 r h0
  rw[sp_l7Some] at h0
  refine .n Tryz.func222 (fun L ks low K hl hL hlen hK=>?_)
  refine .af [] T [(6,pw 6)] [.o 6 (.cells [iE 0,sE [],iE 0,fE 1 (ksInt []),fE 5 (ksForm [])])] ?_
  refine .bP h0 rfl [0,1,2,6] (fun o1=>[(16,bE o1.1)]) n1 (fun o1=>[.o 0 (.cells ((kL15Rd o1.2).map .d))]) (fun o1 h0=>?_) (fun y1 h1 hj1=>?_)
  ·refine .jT h0 (fun hc2 h0=>?_) (fun hc2 h0=>?_)
   ·obtain⟨k3,hk3,h0⟩:=bnd h0
    refine .ao [.call [.low 0] (iE k3.1) [.cells ((kL15Rd k3.2).map .d)]] (A (w_sp_l15Rd_pick n _ _ hk3) T) [(19,dE (k3.1=0))] [.o 0 (.cells ((kL15Rd k3.2).map .d))] ?_
    refine .jP h0 (fun hc4 h0=>?_) (fun hc4 h0=>?_)
    ·obtain⟨k5,hk5,h0⟩:=bnd h0
     refine .aq [.sv (ksInt [0,1,2,7]),.call [.low 0] (iE k5.1) [.cells ((kL15Rd k5.2).map .d)]] [] (A (dInt.lit [0,1,2,7]) (A (w_sp_l15Rd_num n _ _ hk5) T)) [] [.c 6 0 (iE 2),.c 6 2 (iE k5.1)] [.o 0 (.cells ((kL15Rd k5.2).map .d))] ?_
     cases h0
     exact .rt hK
    ·obtain⟨k6,hk6,h0⟩:=bnd h0
     obtain⟨e7,he7,h0⟩:=bnd h0
     obtain⟨k8,hk8,h0⟩:=bnd h0
     refine .aq [.v (a1.length:Int),.call [.low 0] (iE k6.1) [.cells ((kL15Rd k6.2).map .d)],.cs [.s e7],.call [] (aE (kForm k8)) []] [] (A (dStr.len' a1) (A (w_sp_l15Rd_pick n _ _ hk6) (A (dStr.idx he7) (A (w_sp_l1Name n _ hk8) T)))) [] [.o 6 (.cells ((kForm k8).map .d))] [.o 0 (.cells ((kL15Rd k6.2).map .d))] ?_
     refine .sn 1 dStr a1 (by kernel_rfl) (fun hb9=>?_)
     cases h0
     exact .rt hK
   ·obtain⟨k10,hk10,h0⟩:=bnd h0
    refine .ao [.sv (ksStr [[120],[121],[116]]),.call [.low 0] (sE k10.1) [.cells ((kL15Rd k10.2).map .d)]] (A (dStr.lit [[120],[121],[116]]) (A (w_sp_l15Rd_of n _ _ hk10) T)) [(7,sE k10.1)] [.o 0 (.cells ((kL15Rd k10.2).map .d))] ?_
    obtain⟨z11,hz11,h0⟩:=bnd h0
    obtain⟨z12,hz12,h0⟩:=bnd h0
    refine .aq [.sv (ksStr []),.sv (ksStr z11),.sv (ksStr [k10.1]),.sv (ksStr z12)] [((ksStr z11).length:Int)] (A (dStr.lit []) (A (dStr.ap hz11) (A (dStr.lit [k10.1]) (A (dStr.ap hz12) T)))) [(8,.gs (.own 100037) 1 (ksStr z12))] [.o 100037 (.tok (ksStr z12).length 9)] [] ?_
    obtain⟨k13,hk13,h0⟩:=bnd h0
    refine .ao [.call [.low 0] (iE k13.1) [.cells ((kL15Rd k13.2).map .d)]] (A (w_sp_l15Rd_pick n _ _ hk13) T) [(42,iE k13.1)] [.o 0 (.cells ((kL15Rd k13.2).map .d))] ?_
    refine .a [] T [(43,dE (k13.1=0))] ?_
    refine .bP h0 rfl [0,1,2,6,7,8,42] (fun o14=>[(43,bE o14)]) n1 n1 (fun o14 h0=>?_) (fun y1 h1 hj1=>?_)
    ·refine .jT h0 (fun hc15 h0=>?_) (fun hc15 h0=>?_)
     ·obtain⟨k16,hk16,h0⟩:=bnd h0
      obtain⟨k17,hk17,h0⟩:=bnd h0
      obtain⟨k18,hk18,h0⟩:=bnd h0
      obtain⟨k19,hk19,h0⟩:=bnd h0
      obtain⟨k20,hk20,h0⟩:=bnd h0
      refine .aq [.call [] (aE (kForm k16)) [],.call [] (aE (kForm k17)) [],.sv (ksForm [k17]),.call [] (aE (kForm k18)) [],.pl,.call [.low 0] (aE (kForm k19.1)) [.cells ((kL15Rd k19.2).map .d)],.sv (ksForm [k16,k18,k19.1]),.call [] (aE (kForm k20)) []] [] (A (w_sp_l1Name n _ hk16) (A (w_sp_l1Name n _ hk17) (A (dForm.lit [k17]) (A (w_sp_l1List n _ hk18) (A (ih _ _ _ hk19) (A (dForm.lit [k16,k18,k19.1]) (A (w_sp_l1List n _ hk20) T))))))) [] [.o 6 (.cells ((kForm k20).map .d))] [.o 0 (.cells ((kL15Rd k19.2).map .d))] ?_
      cases h0
      exact .rt hK
     ·refine .a [] T [(58,dE (k13.1=2))] ?_
      refine .bP h0 rfl [0,1,2,6,7,8,42] (fun o21=>[(58,bE o21)]) n1 n1 (fun o21 h0=>?_) (fun y1 h1 hj1=>?_)
      ·refine .jT h0 (fun hc22 h0=>?_) (fun hc22 h0=>?_)
       ·obtain⟨k23,hk23,h0⟩:=bnd h0
        obtain⟨k24,hk24,h0⟩:=bnd h0
        obtain⟨k25,hk25,h0⟩:=bnd h0
        refine .aq [.call [] (aE (kForm k23)) [],.pl,.call [.low 0] (aE (kForm k24.1)) [.cells ((kL15Rd k24.2).map .d)],.sv (ksForm [k23,k24.1]),.call [] (aE (kForm k25)) []] [] (A (w_sp_l1Name n _ hk23) (A (ih _ _ _ hk24) (A (dForm.lit [k23,k24.1]) (A (w_sp_l1List n _ hk25) T)))) [(9,pw 9)] [.o 9 (.cells ((kForm k25).map .d))] [.o 0 (.cells ((kL15Rd k24.2).map .d))] ?_
        obtain⟨k26,hk26,h0⟩:=bnd h0
        obtain⟨k27,hk27,h0⟩:=bnd h0
        obtain⟨k28,hk28,h0⟩:=bnd h0
        obtain⟨k29,hk29,h0⟩:=bnd h0
        refine .ad mixed [(0,[.call [] (aE (kForm k26)) []]),(2,[.sv (ksForm [k25])]),(3,[.call [] (aE (kForm k27)) []]),(7,[.pl]),(8,[.call [.low 0] (aE (kForm k28.1)) [.cells ((kL15Rd k28.2).map .d)]]),(9,[.sv (ksForm [k26,k27,k28.1])]),(10,[.call [] (aE (kForm k29)) []])] [] (A (w_sp_l1Name n _ hk26) (A (dForm.lit [k25]) (A (w_sp_l1List n _ hk27) (A (ih _ _ _ hk28) (A (dForm.lit [k26,k27,k28.1]) (A (w_sp_l1List n _ hk29) T)))))) [] [.o 6 (.cells ((kForm k29).map .d))] [.o 0 (.cells ((kL15Rd k28.2).map .d))] ?_
        cases h0
        exact .rt hK
       ·refine .a [] T [(81,dE (k13.1=4))] ?_
        refine .jP h0 (fun hc30 h0=>?_) (fun hc30 h0=>?_)
        ·obtain⟨k31,hk31,h0⟩:=bnd h0
         obtain⟨k32,hk32,h0⟩:=bnd h0
         obtain⟨k33,hk33,h0⟩:=bnd h0
         obtain⟨k34,hk34,h0⟩:=bnd h0
         obtain⟨k35,hk35,h0⟩:=bnd h0
         refine .aq [.call [] (aE (kForm k31)) [],.pl,.call [.low 0] (aE (kForm k32.1)) [.cells ((kL15Rd k32.2).map .d)],.pl,.call [.low 0] (aE (kForm k33.1)) [.cells ((kL15Rd k33.2).map .d)],.call [.low 0] (aE (kForm k34.1)) [.cells ((kL15Rd k34.2).map .d)],.sv (ksForm [k31,k32.1,k33.1,k34.1]),.call [] (aE (kForm k35)) []] [] (A (w_sp_l1Name n _ hk31) (A (ih _ _ _ hk32) (A (ih _ _ _ hk33) (A (ih _ _ _ hk34) (A (dForm.lit [k31,k32.1,k33.1,k34.1]) (A (w_sp_l1List n _ hk35) T)))))) [] [.o 6 (.cells ((kForm k35).map .d))] [.o 0 (.cells ((kL15Rd k34.2).map .d))] ?_
         cases h0
         exact .rt hK
        ·refine .a [] T [(99,dE (k13.1=5))] ?_
         refine .jP h0 (fun hc36 h0=>?_) (fun hc36 h0=>?_)
         ·obtain⟨k37,hk37,h0⟩:=bnd h0
          obtain⟨k38,hk38,h0⟩:=bnd h0
          obtain⟨k39,hk39,h0⟩:=bnd h0
          refine .aq [.call [] (aE (kForm k37)) [],.call [.low 0] (aE (kForm k38.1)) [.cells ((kL15Rd k38.2).map .d)],.sv (ksForm [k37,k38.1]),.call [] (aE (kForm k39)) []] [] (A (w_sp_l1Name n _ hk37) (A (w_sp_l1Some n _ _ hk38) (A (dForm.lit [k37,k38.1]) (A (w_sp_l1List n _ hk39) T)))) [] [.o 6 (.cells ((kForm k39).map .d))] [.o 0 (.cells ((kL15Rd k38.2).map .d))] ?_
          cases h0
          exact .rt hK
         ·obtain⟨k40,hk40,h0⟩:=bnd h0
          obtain⟨k41,hk41,h0⟩:=bnd h0
          obtain⟨k42,hk42,h0⟩:=bnd h0
          refine .aq [.pl,.call [.low 0] (aE (kForm k40.1)) [.cells ((kL15Rd k40.2).map .d)],.pl,.call [.low 0] (aE (kForm k41.1)) [.cells ((kL15Rd k41.2).map .d)],.sv (ksForm [k40.1,k41.1]),.call [] (aE (kForm k42)) []] [] (A (ih _ _ _ hk40) (A (ih _ _ _ hk41) (A (dForm.lit [k40.1,k41.1]) (A (w_sp_l1List n _ hk42) T)))) [] [.o 6 (.cells ((kForm k42).map .d))] [.o 0 (.cells ((kL15Rd k41.2).map .d))] ?_
          cases h0
          exact .rt hK
      ·refine .jP h1 (fun hc43 h1=>?_) (fun hc43 h1=>?_)
       ·cases h1
        exact .lg hj1 []
       ·refine .a [] T [(58,dE (k13.1=3))] ?_
        cases h1
        exact .lg hj1 []
    ·refine .jP h1 (fun hc44 h1=>?_) (fun hc44 h1=>?_)
     ·cases h1
      exact .lg hj1 []
     ·refine .a [] T [(43,dE (k13.1=1))] ?_
      cases h1
      exact .lg hj1 []
  ·by_cases g45:a2=0
   ·have h1:=iteP g45 h1
    refine .a (rb 4 true []) (R 4 (dt g45) T) [(16,bE true)] ?_
    cases h1
    exact .lg hj1 []
   ·have h1:=iteN g45 h1
    obtain⟨k46,hk46,h1⟩:=bnd h1
    refine .ao [.b false,.b false,.call [.low 0] (iE k46.1) [.cells ((kL15Rd k46.2).map .d)],.b false,.b false] (A (df g45) (A (A (df g45) (w_sp_l15Rd_pick n _ _ hk46)) (R 2 (df g45) T))) [(16,dE (k46.1=0))] [.o 0 (.cells ((kL15Rd k46.2).map .d))] ?_
    cases h1
    exact .lg hj1 []
def sp_l7Texts (n:Nat)  : Option (List (List UInt8)):=
 some [qletx1y2la01a,qlettmp5ze0b0,qletsynta6432,qletsyntaba1c,qletiflis93a4,qletsynta3586,qletsynta4596,qletsynta299d,qletsynta9c06,qletsyntae69a,qlambdaxl5d0d,qletsynta0fb6,qletsyntae5c9,qletsynta7279,qletsyntac7f1]
theorem w_sp_l7Texts (n:Nat):∀{r:List (List UInt8)},sp_l7Texts n  = some r→SCall X.E 221 [] [] (lE 1 (ksStr r)) []:=by
 intro r h0
 rw[sp_l7Texts] at h0
 refine .n Tryz.func221 (fun L ks low K hl hL hlen hK=>?_)
 refine .a [] T [] ?_
 refine .a [.sv (ksStr [qletx1y2la01a,qlettmp5ze0b0,qletsynta6432,qletsyntaba1c,qletiflis93a4,qletsynta3586,qletsynta4596,qletsynta299d,qletsynta9c06,qletsyntae69a,qlambdaxl5d0d,qletsynta0fb6,qletsyntae5c9,qletsynta7279,qletsyntac7f1])] (A (dStr.lit [qletx1y2la01a,qlettmp5ze0b0,qletsynta6432,qletsyntaba1c,qletiflis93a4,qletsynta3586,qletsynta4596,qletsynta299d,qletsynta9c06,qletsyntae69a,qlambdaxl5d0d,qletsynta0fb6,qletsyntae5c9,qletsynta7279,qletsyntac7f1]) T) [(0,fE 1 (ksStr [qletx1y2la01a,qlettmp5ze0b0,qletsynta6432,qletsyntaba1c,qletiflis93a4,qletsynta3586,qletsynta4596,qletsynta299d,qletsynta9c06,qletsyntae69a,qlambdaxl5d0d,qletsynta0fb6,qletsyntae5c9,qletsynta7279,qletsyntac7f1]))] ?_
 cases h0
 exact .rt hK
def sp_l7Draw (n:Nat) (w0:L15Rd):Option (Form×L15Rd):=
 (sp_l7Texts n).bind fun k1=>(sp_l15Rd_pick n 3 w0).bind fun k2=>(if k2.1>0 then(sp_l15Rd_pick n (k1.length:Int) k2.2).bind fun k4=>(atI k1 k4.1).bind fun e5=>(sp_l1Parse n e5).bind fun k6=>some (k6,k4.2) else(sp_l15Rd_num n [4,3,2] k2.2).bind fun k8=>(sp_l7Some n [[43],[108,105,115,116],[103]] k8.1 k8.2).bind fun k9=>(sp_l15Rd_pick n 2 k9.2).bind fun k10=>Option.bind ((if k10.1=0 then(sp_l1Parse n qrulesabl4b2b).bind fun k13=>(sp_l1Name n qletsynta5388).bind fun k14=>(sp_l1Name n [103]).bind fun k15=>(sp_l1List n [k15,k13]).bind fun k16=>(sp_l1List n [k16]).bind fun k17=>(sp_l1List n [k14,k17,k9.1]).bind fun k18=>some k18 else some k9.1):Option (Form)) (fun(o11:Form)=>some (o11,k10.2)))
theorem w_sp_l7Draw (n:Nat):∀(w0:L15Rd) {r:Form×L15Rd},sp_l7Draw n w0=some r→SCall X.E 188 [pl 0] [some (.cells ((kL15Rd w0).map .d))] (aE (kForm r.1)) [.cells ((kL15Rd r.2).map .d)]:=by
 intro w0 r h0
 rw[sp_l7Draw] at h0
 refine .n Tryz.func188 (fun L ks low K hl hL hlen hK=>?_)
 refine .af [] T [(2,pw 2)] [.o 2 (.cells [iE 0,sE [],iE 0,fE 1 (ksInt []),fE 5 (ksForm [])])] ?_
 obtain⟨k1,hk1,h0⟩:=bnd h0
 refine .a [.call [] (lE 1 (ksStr k1)) []] (A (w_sp_l7Texts n  hk1) T) [(3,lE 1 (ksStr k1))] ?_
 obtain⟨k2,hk2,h0⟩:=bnd h0
 refine .ao [.call [.low 0] (iE k2.1) [.cells ((kL15Rd k2.2).map .d)]] (A (w_sp_l15Rd_pick n _ _ hk2) T) [(9,dE (k2.1>0))] [.o 0 (.cells ((kL15Rd k2.2).map .d))] ?_
 refine .jP h0 (fun hc3 h0=>?_) (fun hc3 h0=>?_)
 ·obtain⟨k4,hk4,h0⟩:=bnd h0
  obtain⟨e5,he5,h0⟩:=bnd h0
  obtain⟨k6,hk6,h0⟩:=bnd h0
  refine .aq [.v (k1.length:Int),.call [.low 0] (iE k4.1) [.cells ((kL15Rd k4.2).map .d)],.cs [.s e5],.call [] (aE (kForm k6)) []] [] (A (dStr.len' k1) (A (w_sp_l15Rd_pick n _ _ hk4) (A (dStr.idx he5) (A (w_sp_l1Parse n _ hk6) T)))) [] [.o 2 (.cells ((kForm k6).map .d))] [.o 0 (.cells ((kL15Rd k4.2).map .d))] ?_
  refine .sn 3 dStr k1 (by kernel_rfl) (fun hb7=>?_)
  cases h0
  exact .rt hK
 ·obtain⟨k8,hk8,h0⟩:=bnd h0
  obtain⟨k9,hk9,h0⟩:=bnd h0
  refine .aq [.sv (ksStr [[43],[108,105,115,116],[103]]),.sv (ksInt [4,3,2]),.call [.low 0] (iE k8.1) [.cells ((kL15Rd k8.2).map .d)],.call [.low 0] (aE (kForm k9.1)) [.cells ((kL15Rd k9.2).map .d)]] [] (A (dStr.lit [[43],[108,105,115,116],[103]]) (A (dInt.lit [4,3,2]) (A (w_sp_l15Rd_num n _ _ hk8) (A (w_sp_l7Some n _ _ _ hk9) T)))) [(4,pw 4)] [.o 4 (.cells ((kForm k9.1).map .d))] [.o 0 (.cells ((kL15Rd k9.2).map .d))] ?_
  obtain⟨k10,hk10,h0⟩:=bnd h0
  refine .ao [.call [.low 0] (iE k10.1) [.cells ((kL15Rd k10.2).map .d)]] (A (w_sp_l15Rd_pick n _ _ hk10) T) [(26,dE (k10.1=0))] [.o 0 (.cells ((kL15Rd k10.2).map .d))] ?_
  refine .bP h0 rfl [2,4] (fun o11=>[]) (fun o11=>[.o 4 (.cells ((kForm o11).map .d))]) n1 (fun o11 h0=>?_) (fun y1 h1 hj1=>?_)
  ·refine .af [] T [] [.o 2 (.cells ((kForm o11).map .d))] ?_
   cases h0
   exact .rt hK
  ·refine .jP h1 (fun hc12 h1=>?_) (fun hc12 h1=>?_)
   ·obtain⟨k13,hk13,h1⟩:=bnd h1
    refine .af [.call [] (aE (kForm k13)) []] (A (w_sp_l1Parse n _ hk13) T) [(5,pw 5)] [.o 5 (.cells ((kForm k13).map .d))] ?_
    obtain⟨k14,hk14,h1⟩:=bnd h1
    obtain⟨k15,hk15,h1⟩:=bnd h1
    obtain⟨k16,hk16,h1⟩:=bnd h1
    obtain⟨k17,hk17,h1⟩:=bnd h1
    obtain⟨k18,hk18,h1⟩:=bnd h1
    refine .ad mixed [(0,[.call [] (aE (kForm k14)) []]),(1,[.call [] (aE (kForm k15)) []]),(3,[.sv (ksForm [k15,k13])]),(4,[.call [] (aE (kForm k16)) []]),(5,[.sv (ksForm [k16])]),(6,[.call [] (aE (kForm k17)) []]),(8,[.sv (ksForm [k14,k17,k9.1])]),(9,[.call [] (aE (kForm k18)) []])] [] (A (w_sp_l1Name n _ hk14) (A (w_sp_l1Name n _ hk15) (A (dForm.lit [k15,k13]) (A (w_sp_l1List n _ hk16) (A (dForm.lit [k16]) (A (w_sp_l1List n _ hk17) (A (dForm.lit [k14,k17,k9.1]) (A (w_sp_l1List n _ hk18) T)))))))) [] [.o 4 (.cells ((kForm k18).map .d))] [] ?_
    cases h1
    refine .kp [2,4] [] ?_
    refine .dr 5 (by kernel_rfl) ?_
    exact .lg hj1 []
   ·cases h1
    exact .lg hj1 []
def sp_l8Forms (n:Nat)  : Option (List (List UInt8)):=
 some [qlambdaxy5aae,qletflamba3b8,qif01quot475c,qheadtailad8e,qletsynta8793,qlambdaww84a8,[40,49,32,50,41],qlambdaxx5051,q1listdb38,qletglambf856,qunknownad92,qlist1212696a]
theorem w_sp_l8Forms (n:Nat):∀{r:List (List UInt8)},sp_l8Forms n  = some r→SCall X.E 186 [] [] (lE 1 (ksStr r)) []:=by
 intro r h0
 rw[sp_l8Forms] at h0
 refine .n Tryz.func186 (fun L ks low K hl hL hlen hK=>?_)
 refine .a [] T [] ?_
 refine .a [.sv (ksStr [qlambdaxy5aae,qletflamba3b8,qif01quot475c,qheadtailad8e,qletsynta8793,qlambdaww84a8,[40,49,32,50,41],qlambdaxx5051,q1listdb38,qletglambf856,qunknownad92,qlist1212696a])] (A (dStr.lit [qlambdaxy5aae,qletflamba3b8,qif01quot475c,qheadtailad8e,qletsynta8793,qlambdaww84a8,[40,49,32,50,41],qlambdaxx5051,q1listdb38,qletglambf856,qunknownad92,qlist1212696a]) T) [(0,fE 1 (ksStr [qlambdaxy5aae,qletflamba3b8,qif01quot475c,qheadtailad8e,qletsynta8793,qlambdaww84a8,[40,49,32,50,41],qlambdaxx5051,q1listdb38,qletglambf856,qunknownad92,qlist1212696a]))] ?_
 cases h0
 exact .rt hK
def sp_l8Draw (n:Nat) (w0:L15Rd):Option (Form×L15Rd):=
 (sp_l8Forms n).bind fun k1=>(sp_l15Rd_pick n 3 w0).bind fun k2=>(if k2.1>0 then(sp_l15Rd_pick n (k1.length:Int) k2.2).bind fun k4=>(atI k1 k4.1).bind fun e5=>(sp_l1Parse n e5).bind fun k6=>some (k6,k4.2) else(sp_l7Draw n k2.2).bind fun k8=>some (k8.1,k8.2))
theorem w_sp_l8Draw (n:Nat):∀(w0:L15Rd) {r:Form×L15Rd},sp_l8Draw n w0=some r→SCall X.E 152 [pl 0] [some (.cells ((kL15Rd w0).map .d))] (aE (kForm r.1)) [.cells ((kL15Rd r.2).map .d)]:=by
 intro w0 r h0
 rw[sp_l8Draw] at h0
 refine .n Tryz.func152 (fun L ks low K hl hL hlen hK=>?_)
 refine .af [] T [(2,pw 2)] [.o 2 (.cells [iE 0,sE [],iE 0,fE 1 (ksInt []),fE 5 (ksForm [])])] ?_
 obtain⟨k1,hk1,h0⟩:=bnd h0
 refine .a [.call [] (lE 1 (ksStr k1)) []] (A (w_sp_l8Forms n  hk1) T) [(3,lE 1 (ksStr k1))] ?_
 obtain⟨k2,hk2,h0⟩:=bnd h0
 refine .ao [.call [.low 0] (iE k2.1) [.cells ((kL15Rd k2.2).map .d)]] (A (w_sp_l15Rd_pick n _ _ hk2) T) [(7,dE (k2.1>0))] [.o 0 (.cells ((kL15Rd k2.2).map .d))] ?_
 refine .jP h0 (fun hc3 h0=>?_) (fun hc3 h0=>?_)
 ·obtain⟨k4,hk4,h0⟩:=bnd h0
  obtain⟨e5,he5,h0⟩:=bnd h0
  obtain⟨k6,hk6,h0⟩:=bnd h0
  refine .aq [.v (k1.length:Int),.call [.low 0] (iE k4.1) [.cells ((kL15Rd k4.2).map .d)],.cs [.s e5],.call [] (aE (kForm k6)) []] [] (A (dStr.len' k1) (A (w_sp_l15Rd_pick n _ _ hk4) (A (dStr.idx he5) (A (w_sp_l1Parse n _ hk6) T)))) [] [.o 2 (.cells ((kForm k6).map .d))] [.o 0 (.cells ((kL15Rd k4.2).map .d))] ?_
  refine .sn 3 dStr k1 (by kernel_rfl) (fun hb7=>?_)
  cases h0
  exact .rt hK
 ·obtain⟨k8,hk8,h0⟩:=bnd h0
  refine .aq [.call [.low 0] (aE (kForm k8.1)) [.cells ((kL15Rd k8.2).map .d)]] [] (A (w_sp_l7Draw n _ hk8) T) [] [.o 2 (.cells ((kForm k8.1).map .d))] [.o 0 (.cells ((kL15Rd k8.2).map .d))] ?_
  cases h0
  exact .rt hK
def sp_DrawEvalCore (n:Nat) (a0:List UInt8):Option (Core×Int):=
 (sp_l15Open n a0).bind fun k1=>(sp_l15Rd_pick n 4 k1).bind fun k2=>(if k2.1=0 then(sp_l6Draw n a0).bind fun k4=>some (k4,200) else(sp_l8Draw n k2.2).bind fun k5=>(sp_ExpandForm n k5.1 20).bind fun k6=>Option.bind ((if ¬k6.2=0 then(sp_l6Draw n a0).bind fun k10=>some k10 else some k6.1):Option (Core)) (fun(o7:Core)=>(sp_l15Rd_num n [500,100,20,5,0,3001] k5.2).bind fun k8=>some (o7,k8.1)))
theorem w_sp_DrawEvalCore (n:Nat):∀(a0:List UInt8) {r:Core×Int},sp_DrawEvalCore n a0=some r→SCall X.E 120 [lE 1 (ksByte a0)] [] (.tup [aE (kCore r.1),iE r.2]) []:=by
 intro a0 r h0
 rw[sp_DrawEvalCore] at h0
 refine .n Tryz.func120 (fun L ks low K hl hL hlen hK=>?_)
 refine .af [] T [(2,pw 2)] [.o 2 (.cells [iE 0,iE 0,sE [],iE 0,fE 1 (ksInt []),iE 0,sE [],iE 0,fE 1 (ksInt []),fE 5 (ksForm []),fE 11 (ksCore [])])] ?_
 obtain⟨k1,hk1,h0⟩:=bnd h0
 refine .af [.call [.own 200008] (pl 0) [.cells ((kL15Rd k1).map .d)]] (A (w_sp_l15Open n _ hk1) T) [(4,pw 200008)] [.o 200008 (.cells ((kL15Rd k1).map .d))] ?_
 obtain⟨k2,hk2,h0⟩:=bnd h0
 refine .af [.call [.own 200008] (iE k2.1) [.cells ((kL15Rd k2.2).map .d)]] (A (w_sp_l15Rd_pick n _ _ hk2) T) [(11,dE (k2.1=0))] [.o 200008 (.cells ((kL15Rd k2.2).map .d))] ?_
 refine .jP h0 (fun hc3 h0=>?_) (fun hc3 h0=>?_)
 ·obtain⟨k4,hk4,h0⟩:=bnd h0
  refine .af [.call [] (aE (kCore k4)) []] (A (w_sp_l6Draw n _ hk4) T) [(3,iE 200)] [.o 2 (.cells ((kCore k4).map .d))] ?_
  cases h0
  exact .rt hK
 ·obtain⟨k5,hk5,h0⟩:=bnd h0
  obtain⟨k6,hk6,h0⟩:=bnd h0
  refine .af [.call [.own 200008] (aE (kForm k5.1)) [.cells ((kL15Rd k5.2).map .d)],.call [] (.tup [aE (kCore k6.1),iE k6.2]) []] (A (w_sp_l8Draw n _ hk5) (A (w_sp_ExpandForm n _ _ hk6) T)) [(5,pw 5),(6,iE k6.2)] [.o 200008 (.cells ((kL15Rd k5.2).map .d)),.o 5 (.cells ((kCore k6.1).map .d))] ?_
  refine .a [] T [(21,dE (¬k6.2=0))] ?_
  refine .bP h0 rfl [2,4,5] (fun o7=>[]) (fun o7=>[.o 5 (.cells ((kCore o7).map .d))]) n1 (fun o7 h0=>?_) (fun y1 h1 hj1=>?_)
  ·obtain⟨k8,hk8,h0⟩:=bnd h0
   refine .ad mixed [(2,[.sv (ksInt [500,100,20,5,0,3001])]),(3,[.call [.own 200008] (iE k8.1) [.cells ((kL15Rd k8.2).map .d)]])] [] (A (dInt.lit [500,100,20,5,0,3001]) (A (w_sp_l15Rd_num n _ _ hk8) T)) [(3,iE k8.1)] [.o 2 (.cells ((kCore o7).map .d)),.o 200008 (.cells ((kL15Rd k8.2).map .d))] [] ?_
   cases h0
   exact .rt hK
  ·refine .jP h1 (fun hc9 h1=>?_) (fun hc9 h1=>?_)
   ·obtain⟨k10,hk10,h1⟩:=bnd h1
    refine .af [.call [] (aE (kCore k10)) []] (A (w_sp_l6Draw n _ hk10) T) [] [.o 5 (.cells ((kCore k10).map .d))] ?_
    cases h1
    exact .lg hj1 []
   ·cases h1
    exact .lg hj1 []
def sp_l12Core (n:Nat) (a0:List UInt8):Option (Core):=
 (sp_DrawEvalCore n a0).bind fun k1=>some k1.1
theorem w_sp_l12Core (n:Nat):∀(a0:List UInt8) {r:Core},sp_l12Core n a0=some r→SCall X.E 72 [lE 1 (ksByte a0)] [] (aE (kCore r)) []:=by
 intro a0 r h0
 rw[sp_l12Core] at h0
 refine .n Tryz.func72 (fun L ks low K hl hL hlen hK=>?_)
 refine .af [] T [(2,pw 2)] [.o 2 (.cells [iE 0,iE 0,sE [],iE 0,fE 1 (ksInt []),iE 0,sE [],iE 0,fE 1 (ksInt []),fE 5 (ksForm []),fE 11 (ksCore [])])] ?_
 obtain⟨k1,hk1,h0⟩:=bnd h0
 refine .af [.call [] (.tup [aE (kCore k1.1),iE k1.2]) []] (A (w_sp_DrawEvalCore n _ hk1) T) [(3,pw 3)] [.o 3 (.cells ((kCore k1.1).map .d))] ?_
 refine .af [] T [] [.o 2 (.cells ((kCore k1.1).map .d))] ?_
 cases h0
 exact .rt hK
def sp_DrawHeadsOf (n:Nat) (a0:List UInt8):Option (Core):=
 (sp_l12Core n a0).bind fun k1=>some k1
theorem w_sp_DrawHeadsOf (n:Nat):∀(a0:List UInt8) {r:Core},sp_DrawHeadsOf n a0=some r→SCall X.E 18 [lE 1 (ksByte a0)] [] (aE (kCore r)) []:=by
 intro a0 r h0
 rw[sp_DrawHeadsOf] at h0
 refine .n Tryz.func18 (fun L ks low K hl hL hlen hK=>?_)
 refine .af [] T [(2,pw 2)] [.o 2 (.cells [iE 0,iE 0,sE [],iE 0,fE 1 (ksInt []),iE 0,sE [],iE 0,fE 1 (ksInt []),fE 5 (ksForm []),fE 11 (ksCore [])])] ?_
 obtain⟨k1,hk1,h0⟩:=bnd h0
 refine .af [.call [] (aE (kCore k1)) []] (A (w_sp_l12Core n _ hk1) T) [] [.o 2 (.cells ((kCore k1).map .d))] ?_
 cases h0
 exact .rt hK
def sp_l1In (n:Nat) (a0:List (List UInt8)) (a1:List UInt8):Option (Bool):=
 seqS (forI (fun(s2:Unit) (i1:Nat) (x4:List UInt8)=>((if x4=a1 then some (Sum.inl true) else some (Sum.inr ())):Option (Bool⊕Unit))) 0 a0 ()) (fun(s2:Unit)=>some false)
theorem w_sp_l1In (n:Nat):∀(a0:List (List UInt8)) (a1:List UInt8) {r:Bool},sp_l1In n a0 a1=some r→SCall X.E 95 [lE 1 (ksStr a0),sE a1] [] (bE r) []:=by
 intro a0 a1 r h0
 rw[sp_l1In] at h0
 refine .n Tryz.func95 (fun L ks low K hl hL hlen hK=>?_)
 refine .a [] T [] ?_
 refine .a [] T [(5,iE 0)] ?_
 refine .lI h0 rfl [0,1] (fun i1 s2=>[(5,iE (i1:Int))]) n2 n2 [] (by kernel_rfl) (fun i1 s2 q3 hd5 hi7 h0=>?_)
 refine .a [.v (a0.length:Int)] (A (dStr.len' a0) T) [(9,dE ((i1:Int)<(a0.length:Int)))] ?_
 refine .sn 0 dStr a0 (by kernel_rfl) (fun hb8=>?_)
 refine .lc hd5 rfl (by kernel_rfl) (fun x4 q32 hc9 hx4 hd6 hd6l=>?_) (fun hc9=>?_)
 ·subst hc9
  obtain⟨y1,h1,hw1,hn1⟩:=forI_cons h0
  refine .a [.cs [.s x4]] (A (dStr.idn hx4) T) [(17,dE (x4=a1))] ?_
  refine .jP h1 (fun hc10 h1=>?_) (fun hc10 h1=>?_)
  ·refine .a [] T [(4,bE true)] ?_
   cases h1
   cases hw1 _ rfl
   exact .rt hK
  ·refine .a [.v ((i1+1:Nat):Int)] (A (wn (i:=i1) (by omega)) T) [(5,iE ((i1+1:Nat):Int))] ?_
   cases h1
   exact .nL rfl (i1+1) _ hd6 hd6l (hn1 _ rfl) [] (by kernel_rfl)
 ·subst hc9
  have h0:=forI_nil h0
  refine .a [] T [(4,bE false)] ?_
  cases h0
  exact .rt hK
def sp_l8Prims (n:Nat)  : Option (List (List UInt8)):=
 some [[43],[60],[61],[108,105,115,116],[104,101,97,100],[116,97,105,108]]
theorem w_sp_l8Prims (n:Nat):∀{r:List (List UInt8)},sp_l8Prims n  = some r→SCall X.E 96 [] [] (lE 1 (ksStr r)) []:=by
 intro r h0
 rw[sp_l8Prims] at h0
 refine .n Tryz.func96 (fun L ks low K hl hL hlen hK=>?_)
 refine .a [] T [] ?_
 refine .a [.sv (ksStr [[43],[60],[61],[108,105,115,116],[104,101,97,100],[116,97,105,108]])] (A (dStr.lit [[43],[60],[61],[108,105,115,116],[104,101,97,100],[116,97,105,108]]) T) [(0,fE 1 (ksStr [[43],[60],[61],[108,105,115,116],[104,101,97,100],[116,97,105,108]]))] ?_
 cases h0
 exact .rt hK
def sp_l12Heads:Nat→(List Int)→Core→Option (List Int)
 | 0,_,_=>none
 | n+1,a0,a1=>Option.bind ((if a1.kind=6 then some (decide ((a1.kids.length:Int)>0)) else some false):Option (Bool)) (fun(o1:Bool)=>Option.bind ((if o1=true then Option.bind ((atI a1.kids 0).bind fun e19=>(if e19.kind=5 then some 0 else Option.bind ((if e19.kind=2 then(sp_l8Prims n).bind fun k25=>(sp_l1In n k25 e19.name).bind fun k26=>some k26 else some false):Option (Bool)) (fun(o21:Bool)=>(if o21=true then some 1 else(if e19.kind=1 then some 2 else some 3)))):Option (Int)) (fun(o14:Int)=>(inB o14 a0.length).bind fun u15=>(a0[(Int.toNat o14)]?).bind fun e16=>(inB o14 a0.length).bind fun u17=>some (a0.set (Int.toNat o14) (w64 (e16+1)))) else some a0):Option (List Int)) (fun(o2:List Int)=>Option.bind (forL (fun(s4:List Int) (i3:Nat) (x6:Core)=>(sp_l12Heads n s4 x6).bind fun k12=>some k12) 0 a1.kids o2) (fun(s4:List Int)=>some s4)))
theorem w_sp_l12Heads (n:Nat):∀(a0:List Int) (a1:Core) {r:List Int},sp_l12Heads n a0 a1=some r→SCall X.E 75 [.vs (.low 0) 1 ((ksInt a0).length),aE (kCore a1)] [some (.vec 3 1 (ksInt a0))] (.vs (.low 0) 1 ((ksInt r).length)) [.vec 3 1 (ksInt r)]:=by
 induction n with
 | zero=>intro a0 a1 r h; cases h
 | succ n ih=>
  intro a0 a1 r h0
  rw[sp_l12Heads] at h0
  refine .n Tryz.func75 (fun L ks low K hl hL hlen hK=>?_)
  refine .af [] T [(3,pw 3)] [.o 3 (.cells ((kCore a1).map .d))] ?_
  refine .bP h0 rfl [0,3] (fun o1=>[(15,bE o1)]) n1 n1 (fun o1 h0=>?_) (fun y1 h1 hj1=>?_)
  ·refine .bP h0 rfl [3] (fun o2=>[(0,.vs (.low 0) 1 ((ksInt o2).length))]) n1 (fun o2=>[.o 0 (.vec 3 1 (ksInt o2))]) (fun o2 h0=>?_) (fun y1 h1 hj1=>?_)
   ·refine .a [] T [(6,iE 0)] ?_
    refine .lL h0 rfl [3] (fun i3 s4=>[(0,.vs (.low 0) 1 ((ksInt s4).length)),(6,iE (i3:Int))]) n2 (fun i3 s4=>[.o 0 (.vec 3 1 (ksInt s4))]) [] (by kernel_rfl) (fun i3 s4 q5 hd7 hi9 h0=>?_)
    refine .a [.v (a1.kids.length:Int)] (A (dCore.len' a1.kids) T) [(56,lE 11 (ksCore a1.kids)),(58,dE ((i3:Int)<(a1.kids.length:Int)))] ?_
    refine .sn 56 dCore a1.kids (by kernel_rfl) (fun hb10=>?_)
    refine .lc hd7 rfl (by kernel_rfl) (fun x6 q52 hc11 hx6 hd8 hd8l=>?_) (fun hc11=>?_)
    ·subst hc11
     obtain⟨y1,h1,hn1⟩:=forL_cons h0
     obtain⟨k12,hk12,h1⟩:=bnd h1
     refine .ao [.cs (kCore x6),.call [.low 0] (.vs (.low 0) 1 ((ksInt k12).length)) [.vec 3 1 (ksInt k12)]] (A (dCore.idn hx6) (A (ih _ _ hk12) T)) [(0,.vs (.low 0) 1 ((ksInt k12).length))] [.o 0 (.vec 3 1 (ksInt k12))] ?_
     refine .a [.v ((i3+1:Nat):Int)] (A (wn (i:=i3) (by omega)) T) [(6,iE ((i3+1:Nat):Int))] ?_
     cases h1
     exact .nL rfl (i3+1) _ hd8 hd8l hn1 [] (by kernel_rfl)
    ·subst hc11
     have h0:=forL_nil h0
     refine .a [] T [(4,.vs (.low 0) 1 ((ksInt s4).length))] ?_
     refine .kp [4] [] ?_
     refine .dr 3 (by kernel_rfl) ?_
     cases h0
     exact .rt hK
   ·refine .jT h1 (fun hc13 h1=>?_) (fun hc13 h1=>?_)
    ·refine .a [] T [(5,iE 3)] ?_
     refine .bPB h1 rfl [0,3] (fun o14=>[(5,iE o14)]) n1 n1 (fun o14 h1=>?_) (fun y2 h2 hj2=>?_)
     ·obtain⟨u15,hu15,h1⟩:=bnd h1
      obtain⟨e16,he16,h1⟩:=bnd h1
      obtain⟨u17,hu17,h1⟩:=bnd h1
      refine .ao [.cs [.v (.int .i64 e16)],.pl,.cs [.v (.int .i64 e16)],.sv (ksInt (a0.set (Int.toNat o14) (w64 (e16+1))))] (A (A (dInt.inv hu15 (rfl:(ksInt a0).length=(ksInt a0).length)) (rfl:(ksInt a0).length=(ksInt a0).length)) (A (A (A (dInt.rows a0) (dInt.ixr he16)) (rfl:(ksInt a0).length=(ksInt a0).length)) (A (A (dInt.inv hu17 (rfl:(ksInt a0).length=(ksInt a0).length)) (rfl:(ksInt a0).length=(ksInt a0).length)) (A (A (A (A (dInt.rows a0) (dInt.ixr he16)) (rfl:(ksInt a0).length=(ksInt a0).length)) (dInt.seti a0 (Int.toNat o14) (w64 (e16+1)))) T)))) [(0,.vs (.low 0) 1 ((ksInt a0).length))] [.o 0 (.vec 3 1 (ksInt (a0.set (Int.toNat o14) (w64 (e16+1)))))] ?_
      refine .rn (by simp only[dInt.length,List.length_set]:(ksInt a0).length=(ksInt (a0.set (Int.toNat o14) (w64 (e16+1)))).length) (fun nk18=>[(0,.vs (.low 0) 1 nk18)]) (fun nk18=>[]) (fun nk18=>[]) (by kernel_rfl) ?_
      cases h1
      exact .lg hj1 []
     ·obtain⟨e19,he19,h2⟩:=bnd h2
      refine .a [.cs (kCore e19)] (A (dCore.idx he19) T) [(16,dE (e19.kind=5))] ?_
      refine .jP h2 (fun hc20 h2=>?_) (fun hc20 h2=>?_)
      ·refine .a [] T [(5,iE 0)] ?_
       cases h2
       exact .lg hj2 []
      ·refine .bP h2 rfl [0,3,5] (fun o21=>[(23,bE o21)]) n1 n1 (fun o21 h2=>?_) (fun y3 h3 hj3=>?_)
       ·refine .jT h2 (fun hc22 h2=>?_) (fun hc22 h2=>?_)
        ·refine .a [] T [(5,iE 1)] ?_
         cases h2
         exact .lg hj2 []
        ·refine .a [.cs (kCore e19)] (A (dCore.idx he19) T) [(39,dE (e19.kind=1))] ?_
         refine .jP h2 (fun hc23 h2=>?_) (fun hc23 h2=>?_)
         ·refine .a [] T [(5,iE 2)] ?_
          cases h2
          exact .lg hj2 []
         ·cases h2
          exact .lg hj2 []
       ·by_cases g24:e19.kind=2
        ·have h3:=iteP g24 h3
         obtain⟨k25,hk25,h3⟩:=bnd h3
         obtain⟨k26,hk26,h3⟩:=bnd h3
         refine .ad mixed ((2,[.cs (kCore e19)])::((7,[.b true,.call [] (lE 1 (ksStr k25)) []])::(qb 8 2 true ((10,[.b true,.cs (kCore e19)])::(qb 11 2 true [(13,[.b true,.call [] (bE k26) []]),(14,[.b true])]))))) [] (A (dCore.idx he19) (A (A (dt g24) (w_sp_l8Prims n  hk25)) (R 2 (dt g24) (A (A (dt g24) (dCore.idx he19)) (R 2 (dt g24) (A (A (dt g24) (w_sp_l1In n _ _ hk26)) (A (dt g24) T))))))) [(23,bE k26)] [] [] ?_
         cases h3
         exact .lg hj3 []
        ·have h3:=iteN g24 h3
         refine .ad mixed ((2,[.cs (kCore e19)])::(qb 7 8 false [])) [] (A (dCore.idx he19) (R 8 (df g24) T)) [(23,bE false)] [] [] ?_
         cases h3
         exact .lg hj3 []
    ·cases h1
     exact .lg hj1 []
  ·by_cases g27:a1.kind=6
   ·have h1:=iteP g27 h1
    refine .a (rb 3 true [.v (a1.kids.length:Int),.b true,.b true]) (R 2 (dt g27) (A (A (dt g27) (dCore.len' a1.kids)) (R 2 (dt g27) T))) [(15,dE ((a1.kids.length:Int)>0))] ?_
    cases h1
    exact .lg hj1 []
   ·have h1:=iteN g27 h1
    refine .a (rb 5 false []) (R 5 (df g27) T) [(15,bE false)] ?_
    cases h1
    exact .lg hj1 []
end Go.Ev
