/- Models of the functions that FnOpenExpand reaches. No condition. -/
import Derived.Test.YtencoplhomeleaaGreatDoorMdOpenExpandB
import Derived.Test.YtencoplhomeleaaGreatDoorEvTri
import Derived.Test.YtencoplhomeleaaGreatDoorProg
import Derived.KernelRfl
namespace Go.Ev
open Go.Proofs Go.Mx
set_option linter.unusedVariables false
set_option maxRecDepth 10000
def sp_l7Texts (n:Nat)  : Option (List (List UInt8)):=
 some [qletx1y2la01a,qlettmp5ze0b0,qletsynta6432,qletsyntaba1c,qletiflis93a4,qletsynta3586,qletsynta4596,qletsynta299d,qletsynta9c06,qletsyntae69a,qlambdaxl5d0d,qletsynta0fb6,qletsyntae5c9,qletsynta7279,qletsyntac7f1]
theorem w_sp_l7Texts (n:Nat):∀{r:List (List UInt8)},sp_l7Texts n  = some r→SCall X.E 221 [] [] (lE 1 (ksStr r)) []:=by
 intro r h0
 rw[sp_l7Texts] at h0
 refine .n Tryz.func221 (fun L ks low K hl hL hlen hK=>?_)
 refine .a [] T [] ?_
 refine .a [.sv (ksStr [qletx1y2la01a,qlettmp5ze0b0,qletsynta6432,qletsyntaba1c,qletiflis93a4,qletsynta3586,qletsynta4596,qletsynta299d,qletsynta9c06,qletsyntae69a,qlambdaxl5d0d,qletsynta0fb6,qletsyntae5c9,qletsynta7279,qletsyntac7f1])] (A (dStr.lit [qletx1y2la01a,qlettmp5ze0b0,qletsynta6432,qletsyntaba1c,qletiflis93a4,qletsynta3586,qletsynta4596,qletsynta299d,qletsynta9c06,qletsyntae69a,qlambdaxl5d0d,qletsynta0fb6,qletsyntae5c9,qletsynta7279,qletsyntac7f1]) T) [(0,fE 1 (ksStr [qletx1y2la01a,qlettmp5ze0b0,qletsynta6432,qletsyntaba1c,qletiflis93a4,qletsynta3586,qletsynta4596,qletsynta299d,qletsynta9c06,qletsyntae69a,qlambdaxl5d0d,qletsynta0fb6,qletsyntae5c9,qletsynta7279,qletsyntac7f1]))] ?_
 cases h0
 exact .rt hK
def sp_l7Draw (n:Nat) (w0:L15Rd):Option (Form×L15Rd):=
 (sp_l7Texts n).bind fun k1=>(sp_l15Rd_pick n 3 w0).bind fun k2=>(if k2.1>0 then(sp_l15Rd_pick n (k1.length:Int) k2.2).bind fun k4=>(atI k1 k4.1).bind fun e5=>(sp_l1Parse n e5).bind fun k6=>some (k6,k4.2) else(sp_l15Rd_num n [4,3,2] k2.2).bind fun k8=>(sp_l7Some n [[43],[108,105,115,116],[103]] k8.1 k8.2).bind fun k9=>(sp_l15Rd_pick n 2 k9.2).bind fun k10=>Option.bind ((if k10.1=0 then(sp_l1Parse n qrulesabl4b2b).bind fun k13=>(sp_l1Name n qletsynta5388).bind fun k14=>(sp_l1Name n [103]).bind fun k15=>(sp_l1List n [k15,k13]).bind fun k16=>(sp_l1List n [k16]).bind fun k17=>(sp_l1List n [k14,k17,k9.1]).bind fun k18=>some k18 else some k9.1):Option (Form)) (fun(o11:Form)=>some (o11,k10.2)))
theorem w_sp_l7Draw (n:Nat):∀(w0:L15Rd) {r:Form×L15Rd},sp_l7Draw n w0=some r→SCall X.E 188 [pl 0] [some (.cells ((kL15Rd w0).map .d))] (aE (kForm r.1)) [.cells ((kL15Rd r.2).map .d)]:=by
 intro w0 r h0
 rw[sp_l7Draw] at h0
 refine .n Tryz.func188 (fun L ks low K hl hL hlen hK=>?_)
 refine .af [] T [(2,pw 2)] [.o 2 (.cells [iE 0,sE [],iE 0,fE 1 (ksInt []),fE 5 (ksForm [])])] ?_
 obtain⟨k1,hk1,h0⟩:=bnd h0
 refine .a [.call [] (lE 1 (ksStr k1)) []] (A (w_sp_l7Texts n  hk1) T) [(3,lE 1 (ksStr k1))] ?_
 obtain⟨k2,hk2,h0⟩:=bnd h0
 refine .ao [.call [.low 0] (iE k2.1) [.cells ((kL15Rd k2.2).map .d)]] (A (w_sp_l15Rd_pick n _ _ hk2) T) [(9,dE (k2.1>0))] [.o 0 (.cells ((kL15Rd k2.2).map .d))] ?_
 refine .jP h0 (fun hc3 h0=>?_) (fun hc3 h0=>?_)
 ·obtain⟨k4,hk4,h0⟩:=bnd h0
  obtain⟨e5,he5,h0⟩:=bnd h0
  obtain⟨k6,hk6,h0⟩:=bnd h0
  refine .aq [.v (k1.length:Int),.call [.low 0] (iE k4.1) [.cells ((kL15Rd k4.2).map .d)],.cs [.s e5],.call [] (aE (kForm k6)) []] [] (A (dStr.len' k1) (A (w_sp_l15Rd_pick n _ _ hk4) (A (dStr.idx he5) (A (w_sp_l1Parse n _ hk6) T)))) [] [.o 2 (.cells ((kForm k6).map .d))] [.o 0 (.cells ((kL15Rd k4.2).map .d))] ?_
  refine .sn 3 dStr k1 (by kernel_rfl) (fun hb7=>?_)
  cases h0
  exact .rt hK
 ·obtain⟨k8,hk8,h0⟩:=bnd h0
  obtain⟨k9,hk9,h0⟩:=bnd h0
  refine .aq [.sv (ksStr [[43],[108,105,115,116],[103]]),.sv (ksInt [4,3,2]),.call [.low 0] (iE k8.1) [.cells ((kL15Rd k8.2).map .d)],.call [.low 0] (aE (kForm k9.1)) [.cells ((kL15Rd k9.2).map .d)]] [] (A (dStr.lit [[43],[108,105,115,116],[103]]) (A (dInt.lit [4,3,2]) (A (w_sp_l15Rd_num n _ _ hk8) (A (w_sp_l7Some n _ _ _ hk9) T)))) [(4,pw 4)] [.o 4 (.cells ((kForm k9.1).map .d))] [.o 0 (.cells ((kL15Rd k9.2).map .d))] ?_
  obtain⟨k10,hk10,h0⟩:=bnd h0
  refine .ao [.call [.low 0] (iE k10.1) [.cells ((kL15Rd k10.2).map .d)]] (A (w_sp_l15Rd_pick n _ _ hk10) T) [(26,dE (k10.1=0))] [.o 0 (.cells ((kL15Rd k10.2).map .d))] ?_
  refine .bP h0 rfl [2,4] (fun o11=>[]) (fun o11=>[.o 4 (.cells ((kForm o11).map .d))]) n1 (fun o11 h0=>?_) (fun y1 h1 hj1=>?_)
  ·refine .af [] T [] [.o 2 (.cells ((kForm o11).map .d))] ?_
   cases h0
   exact .rt hK
  ·refine .jP h1 (fun hc12 h1=>?_) (fun hc12 h1=>?_)
   ·obtain⟨k13,hk13,h1⟩:=bnd h1
    refine .af [.call [] (aE (kForm k13)) []] (A (w_sp_l1Parse n _ hk13) T) [(5,pw 5)] [.o 5 (.cells ((kForm k13).map .d))] ?_
    obtain⟨k14,hk14,h1⟩:=bnd h1
    obtain⟨k15,hk15,h1⟩:=bnd h1
    obtain⟨k16,hk16,h1⟩:=bnd h1
    obtain⟨k17,hk17,h1⟩:=bnd h1
    obtain⟨k18,hk18,h1⟩:=bnd h1
    refine .ad mixed [(0,[.call [] (aE (kForm k14)) []]),(1,[.call [] (aE (kForm k15)) []]),(3,[.sv (ksForm [k15,k13])]),(4,[.call [] (aE (kForm k16)) []]),(5,[.sv (ksForm [k16])]),(6,[.call [] (aE (kForm k17)) []]),(8,[.sv (ksForm [k14,k17,k9.1])]),(9,[.call [] (aE (kForm k18)) []])] [] (A (w_sp_l1Name n _ hk14) (A (w_sp_l1Name n _ hk15) (A (dForm.lit [k15,k13]) (A (w_sp_l1List n _ hk16) (A (dForm.lit [k16]) (A (w_sp_l1List n _ hk17) (A (dForm.lit [k14,k17,k9.1]) (A (w_sp_l1List n _ hk18) T)))))))) [] [.o 4 (.cells ((kForm k18).map .d))] [] ?_
    cases h1
    refine .kp [2,4] [] ?_
    refine .dr 5 (by kernel_rfl) ?_
    exact .lg hj1 []
   ·cases h1
    exact .lg hj1 []
def sp_l8Forms (n:Nat)  : Option (List (List UInt8)):=
 some [qlambdaxy5aae,qletflamba3b8,qif01quot475c,qheadtailad8e,qletsynta8793,qlambdaww84a8,[40,49,32,50,41],qlambdaxx5051,q1listdb38,qletglambf856,qunknownad92,qlist1212696a]
theorem w_sp_l8Forms (n:Nat):∀{r:List (List UInt8)},sp_l8Forms n  = some r→SCall X.E 186 [] [] (lE 1 (ksStr r)) []:=by
 intro r h0
 rw[sp_l8Forms] at h0
 refine .n Tryz.func186 (fun L ks low K hl hL hlen hK=>?_)
 refine .a [] T [] ?_
 refine .a [.sv (ksStr [qlambdaxy5aae,qletflamba3b8,qif01quot475c,qheadtailad8e,qletsynta8793,qlambdaww84a8,[40,49,32,50,41],qlambdaxx5051,q1listdb38,qletglambf856,qunknownad92,qlist1212696a])] (A (dStr.lit [qlambdaxy5aae,qletflamba3b8,qif01quot475c,qheadtailad8e,qletsynta8793,qlambdaww84a8,[40,49,32,50,41],qlambdaxx5051,q1listdb38,qletglambf856,qunknownad92,qlist1212696a]) T) [(0,fE 1 (ksStr [qlambdaxy5aae,qletflamba3b8,qif01quot475c,qheadtailad8e,qletsynta8793,qlambdaww84a8,[40,49,32,50,41],qlambdaxx5051,q1listdb38,qletglambf856,qunknownad92,qlist1212696a]))] ?_
 cases h0
 exact .rt hK
def sp_l8Draw (n:Nat) (w0:L15Rd):Option (Form×L15Rd):=
 (sp_l8Forms n).bind fun k1=>(sp_l15Rd_pick n 3 w0).bind fun k2=>(if k2.1>0 then(sp_l15Rd_pick n (k1.length:Int) k2.2).bind fun k4=>(atI k1 k4.1).bind fun e5=>(sp_l1Parse n e5).bind fun k6=>some (k6,k4.2) else(sp_l7Draw n k2.2).bind fun k8=>some (k8.1,k8.2))
theorem w_sp_l8Draw (n:Nat):∀(w0:L15Rd) {r:Form×L15Rd},sp_l8Draw n w0=some r→SCall X.E 152 [pl 0] [some (.cells ((kL15Rd w0).map .d))] (aE (kForm r.1)) [.cells ((kL15Rd r.2).map .d)]:=by
 intro w0 r h0
 rw[sp_l8Draw] at h0
 refine .n Tryz.func152 (fun L ks low K hl hL hlen hK=>?_)
 refine .af [] T [(2,pw 2)] [.o 2 (.cells [iE 0,sE [],iE 0,fE 1 (ksInt []),fE 5 (ksForm [])])] ?_
 obtain⟨k1,hk1,h0⟩:=bnd h0
 refine .a [.call [] (lE 1 (ksStr k1)) []] (A (w_sp_l8Forms n  hk1) T) [(3,lE 1 (ksStr k1))] ?_
 obtain⟨k2,hk2,h0⟩:=bnd h0
 refine .ao [.call [.low 0] (iE k2.1) [.cells ((kL15Rd k2.2).map .d)]] (A (w_sp_l15Rd_pick n _ _ hk2) T) [(7,dE (k2.1>0))] [.o 0 (.cells ((kL15Rd k2.2).map .d))] ?_
 refine .jP h0 (fun hc3 h0=>?_) (fun hc3 h0=>?_)
 ·obtain⟨k4,hk4,h0⟩:=bnd h0
  obtain⟨e5,he5,h0⟩:=bnd h0
  obtain⟨k6,hk6,h0⟩:=bnd h0
  refine .aq [.v (k1.length:Int),.call [.low 0] (iE k4.1) [.cells ((kL15Rd k4.2).map .d)],.cs [.s e5],.call [] (aE (kForm k6)) []] [] (A (dStr.len' k1) (A (w_sp_l15Rd_pick n _ _ hk4) (A (dStr.idx he5) (A (w_sp_l1Parse n _ hk6) T)))) [] [.o 2 (.cells ((kForm k6).map .d))] [.o 0 (.cells ((kL15Rd k4.2).map .d))] ?_
  refine .sn 3 dStr k1 (by kernel_rfl) (fun hb7=>?_)
  cases h0
  exact .rt hK
 ·obtain⟨k8,hk8,h0⟩:=bnd h0
  refine .aq [.call [.low 0] (aE (kForm k8.1)) [.cells ((kL15Rd k8.2).map .d)]] [] (A (w_sp_l7Draw n _ hk8) T) [] [.o 2 (.cells ((kForm k8.1).map .d))] [.o 0 (.cells ((kL15Rd k8.2).map .d))] ?_
  cases h0
  exact .rt hK
def sp_DrawEvalCore (n:Nat) (a0:List UInt8):Option (Core×Int):=
 (sp_l15Open n a0).bind fun k1=>(sp_l15Rd_pick n 4 k1).bind fun k2=>(if k2.1=0 then(sp_l6Draw n a0).bind fun k4=>some (k4,200) else(sp_l8Draw n k2.2).bind fun k5=>(sp_ExpandForm n k5.1 20).bind fun k6=>Option.bind ((if ¬k6.2=0 then(sp_l6Draw n a0).bind fun k10=>some k10 else some k6.1):Option (Core)) (fun(o7:Core)=>(sp_l15Rd_num n [500,100,20,5,0,3001] k5.2).bind fun k8=>some (o7,k8.1)))
theorem w_sp_DrawEvalCore (n:Nat):∀(a0:List UInt8) {r:Core×Int},sp_DrawEvalCore n a0=some r→SCall X.E 120 [lE 1 (ksByte a0)] [] (.tup [aE (kCore r.1),iE r.2]) []:=by
 intro a0 r h0
 rw[sp_DrawEvalCore] at h0
 refine .n Tryz.func120 (fun L ks low K hl hL hlen hK=>?_)
 refine .af [] T [(2,pw 2)] [.o 2 (.cells [iE 0,iE 0,sE [],iE 0,fE 1 (ksInt []),iE 0,sE [],iE 0,fE 1 (ksInt []),fE 5 (ksForm []),fE 11 (ksCore [])])] ?_
 obtain⟨k1,hk1,h0⟩:=bnd h0
 refine .af [.call [.own 200008] (pl 0) [.cells ((kL15Rd k1).map .d)]] (A (w_sp_l15Open n _ hk1) T) [(4,pw 200008)] [.o 200008 (.cells ((kL15Rd k1).map .d))] ?_
 obtain⟨k2,hk2,h0⟩:=bnd h0
 refine .af [.call [.own 200008] (iE k2.1) [.cells ((kL15Rd k2.2).map .d)]] (A (w_sp_l15Rd_pick n _ _ hk2) T) [(11,dE (k2.1=0))] [.o 200008 (.cells ((kL15Rd k2.2).map .d))] ?_
 refine .jP h0 (fun hc3 h0=>?_) (fun hc3 h0=>?_)
 ·obtain⟨k4,hk4,h0⟩:=bnd h0
  refine .af [.call [] (aE (kCore k4)) []] (A (w_sp_l6Draw n _ hk4) T) [(3,iE 200)] [.o 2 (.cells ((kCore k4).map .d))] ?_
  cases h0
  exact .rt hK
 ·obtain⟨k5,hk5,h0⟩:=bnd h0
  obtain⟨k6,hk6,h0⟩:=bnd h0
  refine .af [.call [.own 200008] (aE (kForm k5.1)) [.cells ((kL15Rd k5.2).map .d)],.call [] (.tup [aE (kCore k6.1),iE k6.2]) []] (A (w_sp_l8Draw n _ hk5) (A (w_sp_ExpandForm n _ _ hk6) T)) [(5,pw 5),(6,iE k6.2)] [.o 200008 (.cells ((kL15Rd k5.2).map .d)),.o 5 (.cells ((kCore k6.1).map .d))] ?_
  refine .a [] T [(21,dE (¬k6.2=0))] ?_
  refine .bP h0 rfl [2,4,5] (fun o7=>[]) (fun o7=>[.o 5 (.cells ((kCore o7).map .d))]) n1 (fun o7 h0=>?_) (fun y1 h1 hj1=>?_)
  ·obtain⟨k8,hk8,h0⟩:=bnd h0
   refine .ad mixed [(2,[.sv (ksInt [500,100,20,5,0,3001])]),(3,[.call [.own 200008] (iE k8.1) [.cells ((kL15Rd k8.2).map .d)]])] [] (A (dInt.lit [500,100,20,5,0,3001]) (A (w_sp_l15Rd_num n _ _ hk8) T)) [(3,iE k8.1)] [.o 2 (.cells ((kCore o7).map .d)),.o 200008 (.cells ((kL15Rd k8.2).map .d))] [] ?_
   cases h0
   exact .rt hK
  ·refine .jP h1 (fun hc9 h1=>?_) (fun hc9 h1=>?_)
   ·obtain⟨k10,hk10,h1⟩:=bnd h1
    refine .af [.call [] (aE (kCore k10)) []] (A (w_sp_l6Draw n _ hk10) T) [] [.o 5 (.cells ((kCore k10).map .d))] ?_
    cases h1
    exact .lg hj1 []
   ·cases h1
    exact .lg hj1 []
def sp_l12Core (n:Nat) (a0:List UInt8):Option (Core):=
 (sp_DrawEvalCore n a0).bind fun k1=>some k1.1
theorem w_sp_l12Core (n:Nat):∀(a0:List UInt8) {r:Core},sp_l12Core n a0=some r→SCall X.E 72 [lE 1 (ksByte a0)] [] (aE (kCore r)) []:=by
 intro a0 r h0
 rw[sp_l12Core] at h0
 refine .n Tryz.func72 (fun L ks low K hl hL hlen hK=>?_)
 refine .af [] T [(2,pw 2)] [.o 2 (.cells [iE 0,iE 0,sE [],iE 0,fE 1 (ksInt []),iE 0,sE [],iE 0,fE 1 (ksInt []),fE 5 (ksForm []),fE 11 (ksCore [])])] ?_
 obtain⟨k1,hk1,h0⟩:=bnd h0
 refine .af [.call [] (.tup [aE (kCore k1.1),iE k1.2]) []] (A (w_sp_DrawEvalCore n _ hk1) T) [(3,pw 3)] [.o 3 (.cells ((kCore k1.1).map .d))] ?_
 refine .af [] T [] [.o 2 (.cells ((kCore k1.1).map .d))] ?_
 cases h0
 exact .rt hK
def sp_DrawOpenNames (n:Nat) (a0:List UInt8):Option (Core):=
 (sp_l12Core n a0).bind fun k1=>some k1
theorem w_sp_DrawOpenNames (n:Nat):∀(a0:List UInt8) {r:Core},sp_DrawOpenNames n a0=some r→SCall X.E 32 [lE 1 (ksByte a0)] [] (aE (kCore r)) []:=by
 intro a0 r h0
 rw[sp_DrawOpenNames] at h0
 refine .n Tryz.func32 (fun L ks low K hl hL hlen hK=>?_)
 refine .af [] T [(2,pw 2)] [.o 2 (.cells [iE 0,iE 0,sE [],iE 0,fE 1 (ksInt []),iE 0,sE [],iE 0,fE 1 (ksInt []),fE 5 (ksForm []),fE 11 (ksCore [])])] ?_
 obtain⟨k1,hk1,h0⟩:=bnd h0
 refine .af [.call [] (aE (kCore k1)) []] (A (w_sp_l12Core n _ hk1) T) [] [.o 2 (.cells ((kCore k1).map .d))] ?_
 cases h0
 exact .rt hK
def sp_l1In (n:Nat) (a0:List (List UInt8)) (a1:List UInt8):Option (Bool):=
 seqS (forI (fun(s2:Unit) (i1:Nat) (x4:List UInt8)=>((if x4=a1 then some (Sum.inl true) else some (Sum.inr ())):Option (Bool⊕Unit))) 0 a0 ()) (fun(s2:Unit)=>some false)
theorem w_sp_l1In (n:Nat):∀(a0:List (List UInt8)) (a1:List UInt8) {r:Bool},sp_l1In n a0 a1=some r→SCall X.E 95 [lE 1 (ksStr a0),sE a1] [] (bE r) []:=by
 intro a0 a1 r h0
 rw[sp_l1In] at h0
 refine .n Tryz.func95 (fun L ks low K hl hL hlen hK=>?_)
 refine .a [] T [] ?_
 refine .a [] T [(5,iE 0)] ?_
 refine .lI h0 rfl [0,1] (fun i1 s2=>[(5,iE (i1:Int))]) n2 n2 [] (by kernel_rfl) (fun i1 s2 q3 hd5 hi7 h0=>?_)
 refine .a [.v (a0.length:Int)] (A (dStr.len' a0) T) [(9,dE ((i1:Int)<(a0.length:Int)))] ?_
 refine .sn 0 dStr a0 (by kernel_rfl) (fun hb8=>?_)
 refine .lc hd5 rfl (by kernel_rfl) (fun x4 q32 hc9 hx4 hd6 hd6l=>?_) (fun hc9=>?_)
 ·subst hc9
  obtain⟨y1,h1,hw1,hn1⟩:=forI_cons h0
  refine .a [.cs [.s x4]] (A (dStr.idn hx4) T) [(17,dE (x4=a1))] ?_
  refine .jP h1 (fun hc10 h1=>?_) (fun hc10 h1=>?_)
  ·refine .a [] T [(4,bE true)] ?_
   cases h1
   cases hw1 _ rfl
   exact .rt hK
  ·refine .a [.v ((i1+1:Nat):Int)] (A (wn (i:=i1) (by omega)) T) [(5,iE ((i1+1:Nat):Int))] ?_
   cases h1
   exact .nL rfl (i1+1) _ hd6 hd6l (hn1 _ rfl) [] (by kernel_rfl)
 ·subst hc9
  have h0:=forI_nil h0
  refine .a [] T [(4,bE false)] ?_
  cases h0
  exact .rt hK
def sp_l1In_v (n:Nat) (a0:List (List UInt8)) (a1:List UInt8):Option (Bool):=
 seqS (forI (fun(s2:Unit) (i1:Nat) (x4:List UInt8)=>((if x4=a1 then some (Sum.inl true) else some (Sum.inr ())):Option (Bool⊕Unit))) 0 a0 ()) (fun(s2:Unit)=>some false)
theorem w_sp_l1In_v (n:Nat):∀(a0:List (List UInt8)) (a1:List UInt8) {r:Bool},sp_l1In_v n a0 a1=some r→SCall X.E 95 [.vs (.low 0) 1 ((ksStr a0).length),sE a1] [some (.vec 9 1 (ksStr a0))] (bE r) [.vec 9 1 (ksStr a0)]:=by
 intro a0 a1 r h0
 rw[sp_l1In_v] at h0
 refine .n Tryz.func95 (fun L ks low K hl hL hlen hK=>?_)
 refine .a [] T [] ?_
 refine .a [] T [(5,iE 0)] ?_
 refine .lI h0 rfl [0,1] (fun i1 s2=>[(5,iE (i1:Int))]) n2 n2 [] (by kernel_rfl) (fun i1 s2 q3 hd5 hi7 h0=>?_)
 refine .a [.v (a0.length:Int)] (A (dStr.len' a0) T) [(9,dE ((i1:Int)<(a0.length:Int)))] ?_
 refine .snV 0 dStr a0 (by kernel_rfl) (fun hb8=>?_)
 refine .lc hd5 rfl (by kernel_rfl) (fun x4 q32 hc9 hx4 hd6 hd6l=>?_) (fun hc9=>?_)
 ·subst hc9
  obtain⟨y1,h1,hw1,hn1⟩:=forI_cons h0
  refine .a [.cs [.s x4]] (A (A (dStr.inv (inB_of hx4) (rfl:(ksStr a0).length=(ksStr a0).length)) (rfl:(ksStr a0).length=(ksStr a0).length)) (A (A (A (dStr.rows a0) (dStr.ixr hx4)) (rfl:(ksStr a0).length=(ksStr a0).length)) T)) [(17,dE (x4=a1))] ?_
  refine .jP h1 (fun hc10 h1=>?_) (fun hc10 h1=>?_)
  ·refine .a [] T [(4,bE true)] ?_
   cases h1
   cases hw1 _ rfl
   exact .rt hK
  ·refine .a [.v ((i1+1:Nat):Int)] (A (wn (i:=i1) (by omega)) T) [(5,iE ((i1+1:Nat):Int))] ?_
   cases h1
   exact .nL rfl (i1+1) _ hd6 hd6l (hn1 _ rfl) [] (by kernel_rfl)
 ·subst hc9
  have h0:=forI_nil h0
  refine .a [] T [(4,bE false)] ?_
  cases h0
  exact .rt hK
def sp_l6Free:Nat→(List (List UInt8))→Core→Option (List (List UInt8))
 | 0,_,_=>none
 | n+1,a0,a1=>Option.bind ((if a1.kind=2 then(sp_l1In_v n a0 a1.name).bind fun k16=>some (!k16) else some false):Option (Bool)) (fun(o1:Bool)=>Option.bind ((if o1=true then(apB 16 a0 [a1.name]).bind fun z14=>some z14 else some a0):Option (List (List UInt8))) (fun(o2:List (List UInt8))=>Option.bind (forL (fun(s4:List (List UInt8)) (i3:Nat) (x6:Core)=>(sp_l6Free n s4 x6).bind fun k12=>some k12) 0 a1.kids o2) (fun(s4:List (List UInt8))=>some s4)))
theorem w_sp_l6Free (n:Nat):∀(a0:List (List UInt8)) (a1:Core) {r:List (List UInt8)},sp_l6Free n a0 a1=some r→SCall X.E 139 [.vs (.low 0) 1 ((ksStr a0).length),aE (kCore a1)] [some (.vec 9 1 (ksStr a0))] (.vs (.low 0) 1 ((ksStr r).length)) [.vec 9 1 (ksStr r)]:=by
 induction n with
 | zero=>intro a0 a1 r h; cases h
 | succ n ih=>
  intro a0 a1 r h0
  rw[sp_l6Free] at h0
  refine .n Tryz.func139 (fun L ks low K hl hL hlen hK=>?_)
  refine .af [] T [(3,pw 3)] [.o 3 (.cells ((kCore a1).map .d))] ?_
  refine .bP h0 rfl [0,3] (fun o1=>[(15,bE o1)]) n1 n1 (fun o1 h0=>?_) (fun y1 h1 hj1=>?_)
  ·refine .bP h0 rfl [3] (fun o2=>[(0,.vs (.low 0) 1 ((ksStr o2).length))]) n1 (fun o2=>[.o 0 (.vec 9 1 (ksStr o2))]) (fun o2 h0=>?_) (fun y1 h1 hj1=>?_)
   ·refine .a [] T [(5,iE 0)] ?_
    refine .lL h0 rfl [3] (fun i3 s4=>[(0,.vs (.low 0) 1 ((ksStr s4).length)),(5,iE (i3:Int))]) n2 (fun i3 s4=>[.o 0 (.vec 9 1 (ksStr s4))]) [] (by kernel_rfl) (fun i3 s4 q5 hd7 hi9 h0=>?_)
    refine .a [.v (a1.kids.length:Int)] (A (dCore.len' a1.kids) T) [(23,lE 11 (ksCore a1.kids)),(25,dE ((i3:Int)<(a1.kids.length:Int)))] ?_
    refine .sn 23 dCore a1.kids (by kernel_rfl) (fun hb10=>?_)
    refine .lc hd7 rfl (by kernel_rfl) (fun x6 q52 hc11 hx6 hd8 hd8l=>?_) (fun hc11=>?_)
    ·subst hc11
     obtain⟨y1,h1,hn1⟩:=forL_cons h0
     obtain⟨k12,hk12,h1⟩:=bnd h1
     refine .ao [.cs (kCore x6),.call [.low 0] (.vs (.low 0) 1 ((ksStr k12).length)) [.vec 9 1 (ksStr k12)]] (A (dCore.idn hx6) (A (ih _ _ hk12) T)) [(0,.vs (.low 0) 1 ((ksStr k12).length))] [.o 0 (.vec 9 1 (ksStr k12))] ?_
     refine .a [.v ((i3+1:Nat):Int)] (A (wn (i:=i3) (by omega)) T) [(5,iE ((i3+1:Nat):Int))] ?_
     cases h1
     exact .nL rfl (i3+1) _ hd8 hd8l hn1 [] (by kernel_rfl)
    ·subst hc11
     have h0:=forL_nil h0
     refine .a [] T [(4,.vs (.low 0) 1 ((ksStr s4).length))] ?_
     refine .kp [4] [] ?_
     refine .dr 3 (by kernel_rfl) ?_
     cases h0
     exact .rt hK
   ·refine .jT h1 (fun hc13 h1=>?_) (fun hc13 h1=>?_)
    ·obtain⟨z14,hz14,h1⟩:=bnd h1
     refine .ao [.sv (ksStr [a1.name]),.sv (ksStr z14)] (A (dStr.lit [a1.name]) (A (A (dStr.ap hz14) (rfl:(ksStr a0).length=(ksStr a0).length)) T)) [(0,.vs (.low 0) 1 ((ksStr z14).length))] [.o 0 (.vec 9 1 (ksStr z14))] ?_
     cases h1
     exact .lg hj1 []
    ·cases h1
     exact .lg hj1 []
  ·by_cases g15:a1.kind=2
   ·have h1:=iteP g15 h1
    obtain⟨k16,hk16,h1⟩:=bnd h1
    refine .a (rb 4 true [.call [.low 0] (bE k16) [.vec 9 1 (ksStr a0)],.b true,.b true]) (R 3 (dt g15) (A (A (dt g15) (w_sp_l1In_v n _ _ hk16)) (R 2 (dt g15) T))) [(15,bE (!k16))] ?_
    cases h1
    exact .lg hj1 []
   ·have h1:=iteN g15 h1
    refine .a (rb 6 false []) (R 6 (df g15) T) [(15,bE false)] ?_
    cases h1
    exact .lg hj1 []
def sp_FreeOf (n:Nat) (a0:Core):Option (List (List UInt8)):=
 (sp_l6Free n [] a0).bind fun k1=>some k1
theorem w_sp_FreeOf (n:Nat):∀(a0:Core) {r:List (List UInt8)},sp_FreeOf n a0=some r→SCall X.E 94 [aE (kCore a0)] [] (lE 1 (ksStr r)) []:=by
 intro a0 r h0
 rw[sp_FreeOf] at h0
 refine .n Tryz.func94 (fun L ks low K hl hL hlen hK=>?_)
 refine .af [] T [(1,pw 1)] [.o 1 (.cells ((kCore a0).map .d))] ?_
 obtain⟨k1,hk1,h0⟩:=bnd h0
 refine .af [.gv 3,.sv (ksStr []),.call [.own 100003] (.vs (.low 0) 1 ((ksStr k1).length)) [.vec 9 1 (ksStr k1)]] (A (dStr.lit []) (A (w_sp_l6Free n _ _ hk1) T)) [(2,.vs (.own 100003) 1 ((ksStr k1).length))] [.o 100003 (.vec 9 1 (ksStr k1))] ?_
 refine .kp [2] [] ?_
 refine .dr 1 (by kernel_rfl) ?_
 refine .ft 2 100003 [] dStr k1 (rfl:(ksStr k1).length=(ksStr k1).length) (by kernel_rfl) ?_
 cases h0
 exact .rt hK
def sp_l8Prims (n:Nat)  : Option (List (List UInt8)):=
 some [[43],[60],[61],[108,105,115,116],[104,101,97,100],[116,97,105,108]]
theorem w_sp_l8Prims (n:Nat):∀{r:List (List UInt8)},sp_l8Prims n  = some r→SCall X.E 96 [] [] (lE 1 (ksStr r)) []:=by
 intro r h0
 rw[sp_l8Prims] at h0
 refine .n Tryz.func96 (fun L ks low K hl hL hlen hK=>?_)
 refine .a [] T [] ?_
 refine .a [.sv (ksStr [[43],[60],[61],[108,105,115,116],[104,101,97,100],[116,97,105,108]])] (A (dStr.lit [[43],[60],[61],[108,105,115,116],[104,101,97,100],[116,97,105,108]]) T) [(0,fE 1 (ksStr [[43],[60],[61],[108,105,115,116],[104,101,97,100],[116,97,105,108]]))] ?_
 cases h0
 exact .rt hK
def sp_OpenNames (n:Nat) (a0:Core):Option (List (List UInt8)):=
 (sp_FreeOf n a0).bind fun k1=>Option.bind (forL (fun(s3:List (List UInt8)) (i2:Nat) (x5:List UInt8)=>Option.bind ((sp_l8Prims n).bind fun k12=>(sp_l1In n k12 x5).bind fun k13=>(if(!k13)=true then(apB 16 s3 [x5]).bind fun z15=>some z15 else some s3):Option (List (List UInt8))) (fun(o11:List (List UInt8))=>some o11)) 0 k1 []) (fun(s3:List (List UInt8))=>some s3)
theorem w_sp_OpenNames (n:Nat):∀(a0:Core) {r:List (List UInt8)},sp_OpenNames n a0=some r→SCall X.E 34 [aE (kCore a0)] [] (lE 1 (ksStr r)) []:=by
 intro a0 r h0
 rw[sp_OpenNames] at h0
 refine .n Tryz.func34 (fun L ks low K hl hL hlen hK=>?_)
 refine .af [] T [(1,pw 1)] [.o 1 (.cells ((kCore a0).map .d))] ?_
 refine .a [.sv (ksStr [])] (A (dStr.lit []) T) [(3,fE 1 (ksStr []))] ?_
 obtain⟨k1,hk1,h0⟩:=bnd h0
 refine .a [.call [] (lE 1 (ksStr k1)) []] (A (w_sp_FreeOf n _ hk1) T) [(4,lE 1 (ksStr k1))] ?_
 refine .a [] T [(5,iE 0)] ?_
 refine .ow 3 100028 9 [4,5] rfl rfl (by kernel_rfl) ?_
 refine .lL h0 rfl [4] (fun i2 s3=>[(3,.gs (.own 100028) 1 (ksStr s3)),(5,iE (i2:Int))]) (fun i2 s3=>[.o 100028 (.tok (ksStr s3).length 9)]) n2 [] (by kernel_rfl) (fun i2 s3 q4 hd6 hi8 h0=>?_)
 refine .a [.v (k1.length:Int)] (A (dStr.len' k1) T) [(12,dE ((i2:Int)<(k1.length:Int)))] ?_
 refine .sn 4 dStr k1 (by kernel_rfl) (fun hb9=>?_)
 refine .lc hd6 rfl (by kernel_rfl) (fun x5 q42 hc10 hx5 hd7 hd7l=>?_) (fun hc10=>?_)
 ·subst hc10
  obtain⟨y1,h1,hn1⟩:=forL_cons h0
  refine .bPB h1 rfl [4,5] (fun o11=>[(3,.gs (.own 100028) 1 (ksStr o11))]) (fun o11=>[.o 100028 (.tok (ksStr o11).length 9)]) n1 (fun o11 h1=>?_) (fun y2 h2 hj2=>?_)
  ·refine .a [.v ((i2+1:Nat):Int)] (A (wn (i:=i2) (by omega)) T) [(5,iE ((i2+1:Nat):Int))] ?_
   cases h1
   exact .nL rfl (i2+1) _ hd7 hd7l hn1 [] (by kernel_rfl)
  ·obtain⟨k12,hk12,h2⟩:=bnd h2
   obtain⟨k13,hk13,h2⟩:=bnd h2
   refine .ad mixed [(0,[.call [] (lE 1 (ksStr k12)) []]),(3,[.cs [.s x5]]),(5,[.call [] (bE k13) []])] [] (A (w_sp_l8Prims n  hk12) (A (dStr.idn hx5) (A (w_sp_l1In n _ _ hk13) T))) [(21,bE (!k13))] [] [] ?_
   refine .jT h2 (fun hc14 h2=>?_) (fun hc14 h2=>?_)
   ·obtain⟨z15,hz15,h2⟩:=bnd h2
    refine .aq [.cs [.s x5],.sv (ksStr [x5]),.sv (ksStr z15)] [((ksStr s3).length:Int)] (A (dStr.idn hx5) (A (dStr.lit [x5]) (A (dStr.ap hz15) T))) [(3,.gs (.own 100028) 1 (ksStr z15))] [.o 100028 (.tok (ksStr z15).length 9)] [] ?_
    cases h2
    exact .lg hj2 []
   ·cases h2
    exact .lg hj2 []
 ·subst hc10
  have h0:=forL_nil h0
  refine .a [] T [(2,.gs (.own 100028) 1 (ksStr s3))] ?_
  cases h0
  exact .rt hK
def la_FnOpenExpand (n:Nat) (a0:List UInt8):Option (Bool):=
 (if(a0.length:Int)>1048576 then some true else(sp_DrawOpenNames n a0).bind fun k3=>(im_OpenNames n k3).bind fun k4=>(sp_OpenNames n k3).bind fun k5=>(la_mxTexts n k4 k5).bind fun k6=>(if(!k6)=true then some false else(im_OpenNames n (⟨6,0,[],0,[],(⟨0,[],0,[],[]⟩:Form),[(⟨2,0,[108,105,115,116],0,[],(⟨0,[],0,[],[]⟩:Form),[]⟩:Core),k3,(⟨2,0,qnothing3e47,0,[],(⟨0,[],0,[],[]⟩:Form),[]⟩:Core)]⟩:Core)).bind fun k8=>(la_mxHasText n k4 qnothing3e47).bind fun k10=>Option.bind ((if(!k10)=true then some (w64 ((k4.length:Int)+1)) else some (k4.length:Int)):Option (Int)) (fun(o11:Int)=>Option.bind ((if(k8.length:Int)=o11 then(la_mxHasText n k8 qnothing3e47).bind fun k14=>(if k14=true then(la_mxHasText n k8 [108,105,115,116]).bind fun k16=>some (!k16) else some false) else some false):Option (Bool)) (fun(o12:Bool)=>some o12))))
theorem w_la_FnOpenExpand (n:Nat):∀(a0:List UInt8) {r:Bool},la_FnOpenExpand n a0=some r→SCall X.E 7 [lE 1 (ksByte a0)] [] (bE r) []:=by
 intro a0 r h0
 rw[la_FnOpenExpand] at h0
 refine .n Tryz.func7 (fun L ks low K hl hL hlen hK=>?_)
 refine .a [] T [] ?_
 refine .a [.v (a0.length:Int)] (A (dByte.len' a0) T) [(10,dE ((a0.length:Int)>1048576))] ?_
 refine .sn 0 dByte a0 (by kernel_rfl) (fun hb1=>?_)
 refine .jP h0 (fun hc2 h0=>?_) (fun hc2 h0=>?_)
 ·refine .a [] T [(2,bE true)] ?_
  cases h0
  exact .rt hK
 ·obtain⟨k3,hk3,h0⟩:=bnd h0
  refine .af [.call [] (aE (kCore k3)) []] (A (w_sp_DrawOpenNames n _ hk3) T) [(3,pw 3)] [.o 3 (.cells ((kCore k3).map .d))] ?_
  obtain⟨k4,hk4,h0⟩:=bnd h0
  refine .a [.call [] (lE 1 (ksStr k4)) []] (A (w_im_OpenNames n _ hk4) T) [(4,lE 1 (ksStr k4))] ?_
  obtain⟨k5,hk5,h0⟩:=bnd h0
  obtain⟨k6,hk6,h0⟩:=bnd h0
  refine .a [.call [] (lE 1 (ksStr k5)) [],.call [] (bE k6) []] (A (w_sp_OpenNames n _ hk5) (A (w_la_mxTexts n _ _ hk6) T)) [(19,bE (!k6))] ?_
  refine .jT h0 (fun hc7 h0=>?_) (fun hc7 h0=>?_)
  ·refine .a [] T [(2,bE false)] ?_
   cases h0
   exact .rt hK
  ·refine .af [.sv (ksCore [(⟨2,0,[108,105,115,116],0,[],(⟨0,[],0,[],[]⟩:Form),[]⟩:Core),k3,(⟨2,0,qnothing3e47,0,[],(⟨0,[],0,[],[]⟩:Form),[]⟩:Core)])] (A (dCore.lit [(⟨2,0,[108,105,115,116],0,[],(⟨0,[],0,[],[]⟩:Form),[]⟩:Core),k3,(⟨2,0,qnothing3e47,0,[],(⟨0,[],0,[],[]⟩:Form),[]⟩:Core)]) T) [(5,pw 5)] [.o 5 (.cells [iE 6,iE 0,sE [],iE 0,fE 1 (ksInt []),iE 0,sE [],iE 0,fE 1 (ksInt []),fE 5 (ksForm []),fE 11 (ksCore [(⟨2,0,[108,105,115,116],0,[],(⟨0,[],0,[],[]⟩:Form),[]⟩:Core),k3,(⟨2,0,qnothing3e47,0,[],(⟨0,[],0,[],[]⟩:Form),[]⟩:Core)])])] ?_
   obtain⟨k8,hk8,h0⟩:=bnd h0
   refine .a [.call [] (lE 1 (ksStr k8)) []] (A (w_im_OpenNames n _ hk8) T) [(6,lE 1 (ksStr k8))] ?_
   refine .a [.v (k4.length:Int)] (A (dStr.len' k4) T) [(7,iE (k4.length:Int))] ?_
   refine .sn 4 dStr k4 (by kernel_rfl) (fun hb9=>?_)
   obtain⟨k10,hk10,h0⟩:=bnd h0
   refine .a [.call [] (bE k10) []] (A (w_la_mxHasText n _ _ hk10) T) [(31,bE (!k10))] ?_
   refine .bP h0 rfl [6] (fun o11=>[(7,iE o11)]) n1 n1 (fun o11 h0=>?_) (fun y1 h1 hj1=>?_)
   ·refine .bP h0 rfl [] (fun o12=>[(2,bE o12)]) n1 n1 (fun o12 h0=>?_) (fun y1 h1 hj1=>?_)
    ·cases h0
     exact .rt hK
    ·by_cases g13:(k8.length:Int)=o11
     ·have h1:=iteP g13 h1
      obtain⟨k14,hk14,h1⟩:=bnd h1
      by_cases g15:k14=true
      ·have h1:=iteP g15 h1
       obtain⟨k16,hk16,h1⟩:=bnd h1
       refine .a (.v (k8.length:Int)::(.b true::(.b true::(.call [] (bE k14) []::(rb 3 true [.call [] (bE k16) [],.b true,.b true]))))) (A (dStr.len' k8) (A (dt g13) (A (A (dt g13) (w_la_mxHasText n _ _ hk14)) (A (dt g13) (A g15 (A (A g15 (w_la_mxHasText n _ _ hk16)) (R 2 g15 T))))))) [(2,bE (!k16))] ?_
       cases h1
       exact .lg hj1 []
      ·have h1:=iteN g15 h1
       refine .a (.v (k8.length:Int)::(.b true::(.b true::(.call [] (bE k14) []::(.b true::(rb 4 false [])))))) (A (dStr.len' k8) (A (dt g13) (A (A (dt g13) (w_la_mxHasText n _ _ hk14)) (A (dt g13) (R 4 (Bool.eq_false_iff.2 g15) T))))) [(2,bE false)] ?_
       cases h1
       exact .lg hj1 []
     ·have h1:=iteN g13 h1
      refine .a (.v (k8.length:Int)::(rb 7 false [])) (A (dStr.len' k8) (R 3 (df g13) (R 4 B0 T))) [(2,bE false)] ?_
      cases h1
      exact .lg hj1 []
   ·refine .jT h1 (fun hc17 h1=>?_) (fun hc17 h1=>?_)
    ·refine .a [.pl] T [(7,iE (w64 ((k4.length:Int)+1)))] ?_
     cases h1
     exact .lg hj1 []
    ·cases h1
     exact .lg hj1 []
end Go.Ev
