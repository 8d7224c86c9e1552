/- Models of the functions that FnHeadsParts reaches. No condition. -/
import Derived.Test.YtencoplhomeleaaGreatDoorMdHeadsPartsB
import Derived.Test.YtencoplhomeleaaGreatDoorEvTri
import Derived.Test.YtencoplhomeleaaGreatDoorProg
import Derived.KernelRfl
namespace Go.Ev
open Go.Proofs Go.Mx
set_option linter.unusedVariables false
set_option maxRecDepth 10000
def sp_HeadsOf (n:Nat) (a0:Core):Option (List Int):=
 (mkB 8 4).bind fun u1=>(sp_l12Heads n (List.replicate (4:Int).toNat 0) a0).bind fun k2=>some k2
theorem w_sp_HeadsOf (n:Nat):∀(a0:Core) {r:List Int},sp_HeadsOf n a0=some r→SCall X.E 21 [aE (kCore a0)] [] (lE 1 (ksInt r)) []:=by
 intro a0 r h0
 rw[sp_HeadsOf] at h0
 refine .n Tryz.func21 (fun L ks low K hl hL hlen hK=>?_)
 refine .af [] T [(1,pw 1)] [.o 1 (.cells ((kCore a0).map .d))] ?_
 obtain⟨u1,hu1,h0⟩:=bnd h0
 obtain⟨k2,hk2,h0⟩:=bnd h0
 refine .ad mixed [(0,[.mv 3,.sv (ksInt (List.replicate (4:Int).toNat 0))]),(2,[.call [.own 3] (.vs (.low 0) 1 ((ksInt k2).length)) [.vec 3 1 (ksInt k2)]])] [4] (A (A (mk_ok hu1) (dInt.rep ((4:Int).toNat) 0)) (A (w_sp_l12Heads n _ _ hk2) T)) [(2,.vs (.own 3) 1 ((ksInt k2).length))] [.o 3 (.vec 3 1 (ksInt k2))] [] ?_
 refine .kp [2] [] ?_
 refine .dr 1 (by kernel_rfl) ?_
 refine .ft 2 3 [] dInt k2 (rfl:(ksInt k2).length=(ksInt k2).length) (by kernel_rfl) ?_
 cases h0
 exact .rt hK
def la_FnHeadsParts (n:Nat) (a0:List UInt8):Option (Bool):=
 (if(a0.length:Int)>1048576 then some true else(sp_DrawHeadsOf n a0).bind fun k3=>(im_HeadsOf n k3).bind fun k4=>(sp_HeadsOf n k3).bind fun k5=>(la_mxInts n k4 k5).bind fun k6=>(if(!k6)=true then some false else Option.bind (forL (fun(s9:List Int) (i8:Nat) (x11:Core)=>(im_HeadsOf n x11).bind fun k17=>iterM n (fun(s18:Int×(List Int))=>((if s18.1<4 then(inB s18.1 s18.2.length).bind fun u21=>(s18.2[(Int.toNat s18.1)]?).bind fun e22=>(atI k17 s18.1).bind fun e23=>(inB s18.1 s18.2.length).bind fun u24=>some (Sum.inr ((w64 (s18.1+1)),(s18.2.set (Int.toNat s18.1) (w64 (e22+e23))))) else some (Sum.inl s18.2)):Option ((List Int)⊕(Int×(List Int))))) (0,s9)) 0 k3.kids [0,0,0,0]) (fun(s9:List Int)=>iterM n (fun(s26:Int×Int)=>((if s26.2<4 then(atI k4 s26.2).bind fun e29=>(inB s26.2 s9.length).bind fun u30=>(s9[(Int.toNat s26.2)]?).bind fun e31=>(if e29<e31 then some (Sum.inl false) else(inB s26.2 s9.length).bind fun u33=>some (Sum.inr ((w64 ((w64 (s26.1+e29))-e31)),(w64 (s26.2+1))))) else some (Sum.inl (decide (s26.1≤1)))):Option (Bool⊕(Int×Int)))) (0,0))))
theorem w_la_FnHeadsParts (n:Nat):∀(a0:List UInt8) {r:Bool},la_FnHeadsParts n a0=some r→SCall X.E 5 [lE 1 (ksByte a0)] [] (bE r) []:=by
 intro a0 r h0
 rw[la_FnHeadsParts] at h0
 refine .n Tryz.func5 (fun L ks low K hl hL hlen hK=>?_)
 refine .a [] T [] ?_
 refine .a [.v (a0.length:Int)] (A (dByte.len' a0) T) [(13,dE ((a0.length:Int)>1048576))] ?_
 refine .sn 0 dByte a0 (by kernel_rfl) (fun hb1=>?_)
 refine .jP h0 (fun hc2 h0=>?_) (fun hc2 h0=>?_)
 ·refine .a [] T [(2,bE true)] ?_
  cases h0
  exact .rt hK
 ·obtain⟨k3,hk3,h0⟩:=bnd h0
  refine .af [.call [] (aE (kCore k3)) []] (A (w_sp_DrawHeadsOf n _ hk3) T) [(3,pw 3)] [.o 3 (.cells ((kCore k3).map .d))] ?_
  obtain⟨k4,hk4,h0⟩:=bnd h0
  refine .a [.call [] (lE 1 (ksInt k4)) []] (A (w_im_HeadsOf n _ hk4) T) [(4,lE 1 (ksInt k4))] ?_
  obtain⟨k5,hk5,h0⟩:=bnd h0
  obtain⟨k6,hk6,h0⟩:=bnd h0
  refine .a [.call [] (lE 1 (ksInt k5)) [],.call [] (bE k6) []] (A (w_sp_HeadsOf n _ hk5) (A (w_la_mxInts n _ _ hk6) T)) [(22,bE (!k6))] ?_
  refine .jT h0 (fun hc7 h0=>?_) (fun hc7 h0=>?_)
  ·refine .a [] T [(2,bE false)] ?_
   cases h0
   exact .rt hK
  ·refine .af [.mv 23,.sv (ksInt [0,0,0,0])] (A (A (dInt.lit [0,0,0,0]) (rfl:(ksInt [0,0,0,0]).length=4)) T) [(5,.vs (.own 23) 1 ((ksInt [0,0,0,0]).length))] [.o 23 (.vec 3 1 (ksInt [0,0,0,0]))] ?_
   refine .a [] T [(6,iE 0)] ?_
   refine .lL h0 rfl [3,4] (fun i8 s9=>[(5,.vs (.own 23) 1 ((ksInt s9).length)),(6,iE (i8:Int))]) (fun i8 s9=>[.o 23 (.vec 3 1 (ksInt s9))]) n2 [] (by kernel_rfl) (fun i8 s9 q10 hd12 hi14 h0=>?_)
   refine .a [.v (k3.kids.length:Int)] (A (dCore.len' k3.kids) T) [(26,lE 11 (ksCore k3.kids)),(28,dE ((i8:Int)<(k3.kids.length:Int)))] ?_
   refine .sn 26 dCore k3.kids (by kernel_rfl) (fun hb15=>?_)
   refine .lc hd12 rfl (by kernel_rfl) (fun x11 q102 hc16 hx11 hd13 hd13l=>?_) (fun hc16=>?_)
   ·subst hc16
    obtain⟨y1,h1,hn1⟩:=forL_cons h0
    obtain⟨k17,hk17,h1⟩:=bnd h1
    refine .a [.cs (kCore x11),.call [] (lE 1 (ksInt k17)) []] (A (dCore.idn hx11) (A (w_im_HeadsOf n _ hk17) T)) [(7,lE 1 (ksInt k17))] ?_
    refine .a [] T [(8,iE 0)] ?_
    refine .it h1 rfl [3,4,6,7] (fun s18=>[(5,.vs (.own 23) 1 ((ksInt s18.2).length)),(8,iE s18.1)]) (fun s18=>[.o 23 (.vec 3 1 (ksInt s18.2))]) n1 [] (by kernel_rfl) (fun nk19 s18 h1=>?_)
    obtain⟨y2,h2,hw2,hn2⟩:=iter_cons h1
    refine .a [] T [(38,dE (s18.1<4))] ?_
    refine .jP h2 (fun hc20 h2=>?_) (fun hc20 h2=>?_)
    ·obtain⟨u21,hu21,h2⟩:=bnd h2
     obtain⟨e22,he22,h2⟩:=bnd h2
     obtain⟨e23,he23,h2⟩:=bnd h2
     obtain⟨u24,hu24,h2⟩:=bnd h2
     refine .ad mixed [(5,[.cs [.v (.int .i64 e22)]]),(8,[.cs [.v (.int .i64 e23)]]),(10,[.pl]),(12,[.cs [.v (.int .i64 e22)],.sv (ksInt (s18.2.set (Int.toNat s18.1) (w64 (e22+e23))))])] [] (A (A (dInt.inv hu21 (rfl:(ksInt s18.2).length=(ksInt s18.2).length)) (rfl:(ksInt s18.2).length=(ksInt s18.2).length)) (A (A (A (dInt.rows s18.2) (dInt.ixr he22)) (rfl:(ksInt s18.2).length=(ksInt s18.2).length)) (A (dInt.idx he23) (A (A (dInt.inv hu24 (rfl:(ksInt s18.2).length=(ksInt s18.2).length)) (rfl:(ksInt s18.2).length=(ksInt s18.2).length)) (A (A (A (A (dInt.rows s18.2) (dInt.ixr he22)) (rfl:(ksInt s18.2).length=(ksInt s18.2).length)) (dInt.seti s18.2 (Int.toNat s18.1) (w64 (e22+e23)))) T))))) [(5,.vs (.own 23) 1 ((ksInt s18.2).length))] [.o 23 (.vec 3 1 (ksInt (s18.2.set (Int.toNat s18.1) (w64 (e22+e23)))))] [] ?_
     refine .rn (by simp only[dInt.length,List.length_set]:(ksInt s18.2).length=(ksInt (s18.2.set (Int.toNat s18.1) (w64 (e22+e23)))).length) (fun nk25=>[(5,.vs (.own 23) 1 nk25)]) (fun nk25=>[]) (fun nk25=>[]) (by kernel_rfl) ?_
     refine .a [.pl] T [(8,iE (w64 (s18.1+1)))] ?_
     cases h2
     exact .nI rfl _ (hn2 _ rfl) [] (by kernel_rfl)
    ·refine .a [.v ((i8+1:Nat):Int)] (A (wn (i:=i8) (by omega)) T) [(6,iE ((i8+1:Nat):Int))] ?_
     cases h2
     cases hw2 _ rfl
     exact .nL rfl (i8+1) _ hd13 hd13l hn1 [] (by kernel_rfl)
   ·subst hc16
    have h0:=forL_nil h0
    refine .a [] T [(9,iE 0)] ?_
    refine .a [] T [(10,iE 0)] ?_
    refine .it h0 rfl [4,5] (fun s26=>[(9,iE s26.1),(10,iE s26.2)]) n1 n1 [] (by kernel_rfl) (fun nk27 s26 h0=>?_)
    obtain⟨y1,h1,hw1,hn1⟩:=iter_cons h0
    refine .a [] T [(54,dE (s26.2<4))] ?_
    refine .jP h1 (fun hc28 h1=>?_) (fun hc28 h1=>?_)
    ·obtain⟨e29,he29,h1⟩:=bnd h1
     obtain⟨u30,hu30,h1⟩:=bnd h1
     obtain⟨e31,he31,h1⟩:=bnd h1
     refine .ad mixed [(2,[.cs [.v (.int .i64 e29)]]),(7,[.cs [.v (.int .i64 e31)]])] [] (A (dInt.idx he29) (A (A (dInt.inv hu30 (rfl:(ksInt s9).length=(ksInt s9).length)) (rfl:(ksInt s9).length=(ksInt s9).length)) (A (A (A (dInt.rows s9) (dInt.ixr he31)) (rfl:(ksInt s9).length=(ksInt s9).length)) T))) [(65,dE (e29<e31))] [] [] ?_
     refine .jP h1 (fun hc32 h1=>?_) (fun hc32 h1=>?_)
     ·refine .a [] T [(2,bE false)] ?_
      cases h1
      cases hw1 _ rfl
      exact .rt hK
     ·obtain⟨u33,hu33,h1⟩:=bnd h1
      refine .ad mixed [(3,[.cs [.v (.int .i64 e29)]]),(5,[.pl]),(9,[.cs [.v (.int .i64 e31)]]),(10,[.pl])] [] (A (dInt.idx he29) (A (A (dInt.inv hu33 (rfl:(ksInt s9).length=(ksInt s9).length)) (rfl:(ksInt s9).length=(ksInt s9).length)) (A (A (A (dInt.rows s9) (dInt.ixr he31)) (rfl:(ksInt s9).length=(ksInt s9).length)) T))) [(9,iE (w64 ((w64 (s26.1+e29))-e31)))] [] [] ?_
      refine .a [.pl] T [(10,iE (w64 (s26.2+1)))] ?_
      cases h1
      exact .nI rfl _ (hn1 _ rfl) [] (by kernel_rfl)
    ·refine .a [] T [(2,dE (s26.1≤1))] ?_
     cases h1
     cases hw1 _ rfl
     exact .rt hK
end Go.Ev
