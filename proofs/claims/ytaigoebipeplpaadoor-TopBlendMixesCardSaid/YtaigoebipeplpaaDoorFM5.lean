/- The parts of the engines, of their contracts and of the plain laws that the claim rests on: DoorB11_66_1, DoorB11_66_2, DoorB11_66_3, DoorB11_66_4, DoorB21, DoorB22, DoorB24, DoorB26, DoorB27, DoorB28, DoorB29, DoorB30, DoorB31, DoorB34, DoorB35, DoorB37, P5, DoorL1, DoorL2, DoorL3, DoorL4, DoorL5, DoorL7, DoorB42, DoorB48, DoorL9, DoorB50, DoorB54, DoorB55, DoorL11, DoorB56, DoorF1. -/
import Derived.Test.YtaigoebipeplpaaDoorFM4
set_option linter.unusedVariables false
set_option linter.unusedSimpArgs false
section
set_option maxRecDepth 100000
namespace Go.Bl
open Go.V Go.Proofs
def tr66_1(c0:Cask)(sv l0 h0 l1 h1 l2 h2 l3 h3:Int):T (List Ar):=
  T.needs [(1:Nat)≤1000000,(0:Int)≤0,(0:Int)<1,(2:Nat)≤1000000,(1:Nat)≤1,(0:Int)≤0,(0:Int)<1,(0:Int)≤0,(0:Int)<4,(3:Nat)≤1000000,(2:Nat)≤2,(0:Int)≤0,(0:Int)<1,(0:Int)≤0,(0:Int)<4,(4:Nat)≤1000000,(3:Nat)≤3,(0:Int)≤0,(0:Int)<1,(0:Int)≤1,(1:Int)<4,(5:Nat)≤1000000,(4:Nat)≤4,(0:Int)≤0,(0:Int)<1,(0:Int)≤1,(1:Int)<4,(6:Nat)≤1000000,(5:Nat)≤5,(0:Int)≤0,(0:Int)<1,(0:Int)≤2,(2:Int)<4,(7:Nat)≤1000000,(6:Nat)≤6,(0:Int)≤0,(0:Int)<1,(0:Int)≤2,(2:Int)<4,(8:Nat)≤1000000,(7:Nat)≤7,(0:Int)≤0,(0:Int)<1,(0:Int)≤3,(3:Int)<4,(9:Nat)≤1000000,(8:Nat)≤8,(0:Int)≤0,(0:Int)<1,(0:Int)≤3,(3:Int)<4,(10:Nat)≤1000000,(9:Nat)≤9,(0:Int)≤0,(0:Int)<1,(10:Nat)≤10] (T.ret [Ar.agg [D.sl true (1:Nat) (1:Nat) fun(i' j:Nat)=>List.getD [D.int IntKind.i64 (1:Int)] (i'*1+j) D.nilp,D.int IntKind.i64 sv,D.sl true (1:Nat) (1:Nat) fun(i' j:Nat)=>List.getD [D.int IntKind.i64 (List.getD [c0] (Int.toNat (0:Int)) (Enc.dflt eC)).3] (i'*1+j) D.nilp,D.sl true (10:Nat) (4:Nat) (joinF (9:Nat) (joinF (8:Nat) (joinF (7:Nat) (joinF (6:Nat) (joinF (5:Nat) (joinF (4:Nat) (joinF (3:Nat) (joinF (2:Nat) (joinF (1:Nat) (joinF (0:Nat) (fun(x x_1:Nat)=>D.nilp) fun(i j:Nat)=>List.getD [D.int IntKind.i64 (0:Int),D.int IntKind.i64 (0:Int),D.sl true (1:Nat) (1:Nat) fun(i j:Nat)=>List.getD [D.int IntKind.i64 (-1:Int)] (i*1+j) D.nilp,D.int IntKind.i64 (0:Int)] (i*4+j) D.nilp) fun(i j:Nat)=>List.getD [D.int IntKind.i64 (1:Int),D.int IntKind.i64 (0:Int),D.sl true (1:Nat) (1:Nat) fun(i j:Nat)=>List.getD [D.int IntKind.i64 (1:Int)] (i*1+j) D.nilp,D.int IntKind.i64 (List.getD [c0] (Int.toNat (0:Int)) (Enc.dflt eC)).2] (i*4+j) D.nilp) fun(i j:Nat)=>List.getD [D.int IntKind.i64 (2:Int),D.int IntKind.i64 (0:Int),D.sl true (1:Nat) (1:Nat) fun(i j:Nat)=>List.getD [D.int IntKind.i64 (IntKind.i64.wrap ((List.getD [c0] (Int.toNat (0:Int)) (Enc.dflt eC)).4-h0))] (i*1+j) D.nilp,D.int IntKind.i64 (0:Int)] (i*4+j) D.nilp) fun(i j:Nat)=>List.getD [D.int IntKind.i64 (3:Int),D.int IntKind.i64 (0:Int),D.sl true (1:Nat) (1:Nat) fun(i j:Nat)=>List.getD [D.int IntKind.i64 (IntKind.i64.wrap (l0-(List.getD [c0] (Int.toNat (0:Int)) (Enc.dflt eC)).4))] (i*1+j) D.nilp,D.int IntKind.i64 (0:Int)] (i*4+j) D.nilp) fun(i j:Nat)=>List.getD [D.int IntKind.i64 (2:Int),D.int IntKind.i64 (1:Int),D.sl true (1:Nat) (1:Nat) fun(i j:Nat)=>List.getD [D.int IntKind.i64 (IntKind.i64.wrap ((List.getD [c0] (Int.toNat (0:Int)) (Enc.dflt eC)).5-h1))] (i*1+j) D.nilp,D.int IntKind.i64 (0:Int)] (i*4+j) D.nilp) fun(i j:Nat)=>List.getD [D.int IntKind.i64 (3:Int),D.int IntKind.i64 (1:Int),D.sl true (1:Nat) (1:Nat) fun(i j:Nat)=>List.getD [D.int IntKind.i64 (IntKind.i64.wrap (l1-(List.getD [c0] (Int.toNat (0:Int)) (Enc.dflt eC)).5))] (i*1+j) D.nilp,D.int IntKind.i64 (0:Int)] (i*4+j) D.nilp) fun(i j:Nat)=>List.getD [D.int IntKind.i64 (2:Int),D.int IntKind.i64 (2:Int),D.sl true (1:Nat) (1:Nat) fun(i j:Nat)=>List.getD [D.int IntKind.i64 (IntKind.i64.wrap ((List.getD [c0] (Int.toNat (0:Int)) (Enc.dflt eC)).6-h2))] (i*1+j) D.nilp,D.int IntKind.i64 (0:Int)] (i*4+j) D.nilp) fun(i j:Nat)=>List.getD [D.int IntKind.i64 (3:Int),D.int IntKind.i64 (2:Int),D.sl true (1:Nat) (1:Nat) fun(i j:Nat)=>List.getD [D.int IntKind.i64 (IntKind.i64.wrap (l2-(List.getD [c0] (Int.toNat (0:Int)) (Enc.dflt eC)).6))] (i*1+j) D.nilp,D.int IntKind.i64 (0:Int)] (i*4+j) D.nilp) fun(i j:Nat)=>List.getD [D.int IntKind.i64 (2:Int),D.int IntKind.i64 (3:Int),D.sl true (1:Nat) (1:Nat) fun(i j:Nat)=>List.getD [D.int IntKind.i64 (IntKind.i64.wrap ((List.getD [c0] (Int.toNat (0:Int)) (Enc.dflt eC)).7-h3))] (i*1+j) D.nilp,D.int IntKind.i64 (0:Int)] (i*4+j) D.nilp) fun(i j:Nat)=>List.getD [D.int IntKind.i64 (3:Int),D.int IntKind.i64 (3:Int),D.sl true (1:Nat) (1:Nat) fun(i j:Nat)=>List.getD [D.int IntKind.i64 (IntKind.i64.wrap (l3-(List.getD [c0] (Int.toNat (0:Int)) (Enc.dflt eC)).7))] (i*1+j) D.nilp,D.int IntKind.i64 (0:Int)] (i*4+j) D.nilp)]])
theorem t66_1(q:Bool)(c0:Cask)(sv l0 h0 l1 h1 l2 h2 l3 h3:Int):runFnX Tryd.prog G0 (lookS []) (fun _=>[(999999,[],none)]) [60,74,75,76,77,78,79,80] 1 60 6 33 Tryd.f33 [.c (.sl q 1 7 (eC.F [c0])),.agg [dI sv,dI l0,dI h0,dI l1,dI h1,dI l2,dI h2,dI l3,dI h3]] =
  tr66_1 c0 sv l0 h0 l1 h1 l2 h2 l3 h3:=by kernel_rfl
theorem w66_1(c0:Cask)(sv l0 h0 l1 h1 l2 h2 l3 h3:Int):(tr66_1 c0 sv l0 h0 l1 h1 l2 h2 l3 h3).wp (fun rs=>rsEqv rs (res66 [c0] ⟨sv,⟨l0,h0⟩,⟨l1,h1⟩,⟨l2,h2⟩,⟨l3,h3⟩⟩)):=by
 unfold tr66_1
 repeat (refine⟨by decide,?_⟩)
 refine⟨⟨?_,rfl,?_,?_,trivial⟩,trivial⟩
 ·refine sl_ints (q':=false) (l:=M.shares [c0] 0) (fun e=>nomatch e) ?_
  kernel_rfl
 ·refine sl_ints (q':=false) (l:=M.costs [c0]) (fun e=>nomatch e) ?_
  kernel_rfl
 ·refine conds_eqv (q':=false) (m:=M.limits [c0] ⟨sv,⟨l0,h0⟩,⟨l1,h1⟩,⟨l2,h2⟩,⟨l3,h3⟩⟩ 0) (fun e=>nomatch e) ?_
  kernel_rfl
end Go.Bl
end
section
set_option maxRecDepth 100000
namespace Go.Bl
open Go.V Go.Proofs
def tr66_2(c0 c1:Cask)(sv l0 h0 l1 h1 l2 h2 l3 h3:Int):T (List Ar):=
  T.needs [(1:Nat)≤1000000,(2:Nat)≤1000000,(1:Nat)≤1,(0:Int)≤0,(0:Int)<2,(3:Nat)≤1000000,(2:Nat)≤2,(0:Int)≤1,(1:Int)<2,(4:Nat)≤1000000,(3:Nat)≤3,(0:Int)≤0,(0:Int)<2,(0:Int)≤0,(0:Int)<4,(0:Int)≤1,(1:Int)<2,(0:Int)≤0,(0:Int)<4,(5:Nat)≤1000000,(4:Nat)≤4,(0:Int)≤0,(0:Int)<2,(0:Int)≤0,(0:Int)<4,(0:Int)≤1,(1:Int)<2,(0:Int)≤0,(0:Int)<4,(6:Nat)≤1000000,(5:Nat)≤5,(0:Int)≤0,(0:Int)<2,(0:Int)≤1,(1:Int)<4,(0:Int)≤1,(1:Int)<2,(0:Int)≤1,(1:Int)<4,(7:Nat)≤1000000,(6:Nat)≤6,(0:Int)≤0,(0:Int)<2,(0:Int)≤1,(1:Int)<4,(0:Int)≤1,(1:Int)<2,(0:Int)≤1,(1:Int)<4,(8:Nat)≤1000000,(7:Nat)≤7,(0:Int)≤0,(0:Int)<2,(0:Int)≤2,(2:Int)<4,(0:Int)≤1,(1:Int)<2,(0:Int)≤2,(2:Int)<4,(9:Nat)≤1000000,(8:Nat)≤8,(0:Int)≤0,(0:Int)<2,(0:Int)≤2,(2:Int)<4,(0:Int)≤1,(1:Int)<2,(0:Int)≤2,(2:Int)<4,(10:Nat)≤1000000,(9:Nat)≤9,(0:Int)≤0,(0:Int)<2,(0:Int)≤3,(3:Int)<4,(0:Int)≤1,(1:Int)<2,(0:Int)≤3,(3:Int)<4,(11:Nat)≤1000000,(10:Nat)≤10,(0:Int)≤0,(0:Int)<2,(0:Int)≤3,(3:Int)<4,(0:Int)≤1,(1:Int)<2,(0:Int)≤3,(3:Int)<4,(12:Nat)≤1000000,(11:Nat)≤11,(0:Int)≤0,(0:Int)<2,(0:Int)≤1,(1:Int)<2,(12:Nat)≤12] (T.ret [Ar.agg [D.sl true (2:Nat) (1:Nat) fun(i' j:Nat)=>List.getD [D.int IntKind.i64 (1:Int),D.int IntKind.i64 (1:Int)] (i'*1+j) D.nilp,D.int IntKind.i64 sv,D.sl true (2:Nat) (1:Nat) fun(i' j:Nat)=>List.getD [D.int IntKind.i64 (List.getD [c0,c1] (Int.toNat (0:Int)) (Enc.dflt eC)).3,D.int IntKind.i64 (List.getD [c0,c1] (Int.toNat (IntKind.i64.wrap ((0:Int)+1))) (Enc.dflt eC)).3] (i'*1+j) D.nilp,D.sl true (12:Nat) (4:Nat) (joinF (11:Nat) (joinF (10:Nat) (joinF (9:Nat) (joinF (8:Nat) (joinF (7:Nat) (joinF (6:Nat) (joinF (5:Nat) (joinF (4:Nat) (joinF (3:Nat) (joinF (2:Nat) (joinF (1:Nat) (joinF (0:Nat) (fun(x x_1:Nat)=>D.nilp) fun(i j:Nat)=>List.getD [D.int IntKind.i64 (0:Int),D.int IntKind.i64 (0:Int),D.sl true (2:Nat) (1:Nat) fun(i j:Nat)=>List.getD [D.int IntKind.i64 (-1:Int),D.int IntKind.i64 (0:Int)] (i*1+j) D.nilp,D.int IntKind.i64 (0:Int)] (i*4+j) D.nilp) fun(i j:Nat)=>List.getD [D.int IntKind.i64 (0:Int),D.int IntKind.i64 (1:Int),D.sl true (2:Nat) (1:Nat) fun(i j:Nat)=>List.getD [D.int IntKind.i64 (0:Int),D.int IntKind.i64 (-1:Int)] (i*1+j) D.nilp,D.int IntKind.i64 (0:Int)] (i*4+j) D.nilp) fun(i j:Nat)=>List.getD [D.int IntKind.i64 (1:Int),D.int IntKind.i64 (0:Int),D.sl true (2:Nat) (1:Nat) fun(i j:Nat)=>List.getD [D.int IntKind.i64 (1:Int),D.int IntKind.i64 (0:Int)] (i*1+j) D.nilp,D.int IntKind.i64 (List.getD [c0,c1] (Int.toNat (0:Int)) (Enc.dflt eC)).2] (i*4+j) D.nilp) fun(i j:Nat)=>List.getD [D.int IntKind.i64 (1:Int),D.int IntKind.i64 (1:Int),D.sl true (2:Nat) (1:Nat) fun(i j:Nat)=>List.getD [D.int IntKind.i64 (0:Int),D.int IntKind.i64 (1:Int)] (i*1+j) D.nilp,D.int IntKind.i64 (List.getD [c0,c1] (Int.toNat (IntKind.i64.wrap ((0:Int)+1))) (Enc.dflt eC)).2] (i*4+j) D.nilp) fun(i j:Nat)=>List.getD [D.int IntKind.i64 (2:Int),D.int IntKind.i64 (0:Int),D.sl true (2:Nat) (1:Nat) fun(i j:Nat)=>List.getD [D.int IntKind.i64 (IntKind.i64.wrap ((List.getD [c0,c1] (Int.toNat (0:Int)) (Enc.dflt eC)).4-h0)),D.int IntKind.i64 (IntKind.i64.wrap ((List.getD [c0,c1] (Int.toNat (IntKind.i64.wrap ((0:Int)+1))) (Enc.dflt eC)).4-h0))] (i*1+j) D.nilp,D.int IntKind.i64 (0:Int)] (i*4+j) D.nilp) fun(i j:Nat)=>List.getD [D.int IntKind.i64 (3:Int),D.int IntKind.i64 (0:Int),D.sl true (2:Nat) (1:Nat) fun(i j:Nat)=>List.getD [D.int IntKind.i64 (IntKind.i64.wrap (l0-(List.getD [c0,c1] (Int.toNat (0:Int)) (Enc.dflt eC)).4)),D.int IntKind.i64 (IntKind.i64.wrap (l0-(List.getD [c0,c1] (Int.toNat (IntKind.i64.wrap ((0:Int)+1))) (Enc.dflt eC)).4))] (i*1+j) D.nilp,D.int IntKind.i64 (0:Int)] (i*4+j) D.nilp) fun(i j:Nat)=>List.getD [D.int IntKind.i64 (2:Int),D.int IntKind.i64 (1:Int),D.sl true (2:Nat) (1:Nat) fun(i j:Nat)=>List.getD [D.int IntKind.i64 (IntKind.i64.wrap ((List.getD [c0,c1] (Int.toNat (0:Int)) (Enc.dflt eC)).5-h1)),D.int IntKind.i64 (IntKind.i64.wrap ((List.getD [c0,c1] (Int.toNat (IntKind.i64.wrap ((0:Int)+1))) (Enc.dflt eC)).5-h1))] (i*1+j) D.nilp,D.int IntKind.i64 (0:Int)] (i*4+j) D.nilp) fun(i j:Nat)=>List.getD [D.int IntKind.i64 (3:Int),D.int IntKind.i64 (1:Int),D.sl true (2:Nat) (1:Nat) fun(i j:Nat)=>List.getD [D.int IntKind.i64 (IntKind.i64.wrap (l1-(List.getD [c0,c1] (Int.toNat (0:Int)) (Enc.dflt eC)).5)),D.int IntKind.i64 (IntKind.i64.wrap (l1-(List.getD [c0,c1] (Int.toNat (IntKind.i64.wrap ((0:Int)+1))) (Enc.dflt eC)).5))] (i*1+j) D.nilp,D.int IntKind.i64 (0:Int)] (i*4+j) D.nilp) fun(i j:Nat)=>List.getD [D.int IntKind.i64 (2:Int),D.int IntKind.i64 (2:Int),D.sl true (2:Nat) (1:Nat) fun(i j:Nat)=>List.getD [D.int IntKind.i64 (IntKind.i64.wrap ((List.getD [c0,c1] (Int.toNat (0:Int)) (Enc.dflt eC)).6-h2)),D.int IntKind.i64 (IntKind.i64.wrap ((List.getD [c0,c1] (Int.toNat (IntKind.i64.wrap ((0:Int)+1))) (Enc.dflt eC)).6-h2))] (i*1+j) D.nilp,D.int IntKind.i64 (0:Int)] (i*4+j) D.nilp) fun(i j:Nat)=>List.getD [D.int IntKind.i64 (3:Int),D.int IntKind.i64 (2:Int),D.sl true (2:Nat) (1:Nat) fun(i j:Nat)=>List.getD [D.int IntKind.i64 (IntKind.i64.wrap (l2-(List.getD [c0,c1] (Int.toNat (0:Int)) (Enc.dflt eC)).6)),D.int IntKind.i64 (IntKind.i64.wrap (l2-(List.getD [c0,c1] (Int.toNat (IntKind.i64.wrap ((0:Int)+1))) (Enc.dflt eC)).6))] (i*1+j) D.nilp,D.int IntKind.i64 (0:Int)] (i*4+j) D.nilp) fun(i j:Nat)=>List.getD [D.int IntKind.i64 (2:Int),D.int IntKind.i64 (3:Int),D.sl true (2:Nat) (1:Nat) fun(i j:Nat)=>List.getD [D.int IntKind.i64 (IntKind.i64.wrap ((List.getD [c0,c1] (Int.toNat (0:Int)) (Enc.dflt eC)).7-h3)),D.int IntKind.i64 (IntKind.i64.wrap ((List.getD [c0,c1] (Int.toNat (IntKind.i64.wrap ((0:Int)+1))) (Enc.dflt eC)).7-h3))] (i*1+j) D.nilp,D.int IntKind.i64 (0:Int)] (i*4+j) D.nilp) fun(i j:Nat)=>List.getD [D.int IntKind.i64 (3:Int),D.int IntKind.i64 (3:Int),D.sl true (2:Nat) (1:Nat) fun(i j:Nat)=>List.getD [D.int IntKind.i64 (IntKind.i64.wrap (l3-(List.getD [c0,c1] (Int.toNat (0:Int)) (Enc.dflt eC)).7)),D.int IntKind.i64 (IntKind.i64.wrap (l3-(List.getD [c0,c1] (Int.toNat (IntKind.i64.wrap ((0:Int)+1))) (Enc.dflt eC)).7))] (i*1+j) D.nilp,D.int IntKind.i64 (0:Int)] (i*4+j) D.nilp)]])
theorem t66_2(q:Bool)(c0 c1:Cask)(sv l0 h0 l1 h1 l2 h2 l3 h3:Int):runFnX Tryd.prog G0 (lookS []) (fun _=>[(999999,[],none)]) [60,74,75,76,77,78,79,80] 1 60 6 33 Tryd.f33 [.c (.sl q 2 7 (eC.F [c0,c1])),.agg [dI sv,dI l0,dI h0,dI l1,dI h1,dI l2,dI h2,dI l3,dI h3]] =
  tr66_2 c0 c1 sv l0 h0 l1 h1 l2 h2 l3 h3:=by kernel_rfl
theorem w66_2(c0 c1:Cask)(sv l0 h0 l1 h1 l2 h2 l3 h3:Int):(tr66_2 c0 c1 sv l0 h0 l1 h1 l2 h2 l3 h3).wp (fun rs=>rsEqv rs (res66 [c0,c1] ⟨sv,⟨l0,h0⟩,⟨l1,h1⟩,⟨l2,h2⟩,⟨l3,h3⟩⟩)):=by
 unfold tr66_2
 repeat (refine⟨by decide,?_⟩)
 refine⟨⟨?_,rfl,?_,?_,trivial⟩,trivial⟩
 ·refine sl_ints (q':=false) (l:=M.shares [c0,c1] 0) (fun e=>nomatch e) ?_
  kernel_rfl
 ·refine sl_ints (q':=false) (l:=M.costs [c0,c1]) (fun e=>nomatch e) ?_
  kernel_rfl
 ·refine conds_eqv (q':=false) (m:=M.limits [c0,c1] ⟨sv,⟨l0,h0⟩,⟨l1,h1⟩,⟨l2,h2⟩,⟨l3,h3⟩⟩ 0) (fun e=>nomatch e) ?_
  kernel_rfl
end Go.Bl
end
section
set_option maxRecDepth 100000
namespace Go.Bl
open Go.V Go.Proofs
def tr66_3(c0 c1 c2:Cask)(sv l0 h0 l1 h1 l2 h2 l3 h3:Int):T (List Ar):=
  T.needs [(1:Nat)≤1000000,(2:Nat)≤1000000,(1:Nat)≤1,(3:Nat)≤1000000,(2:Nat)≤2,(0:Int)≤0,(0:Int)<3,(4:Nat)≤1000000,(3:Nat)≤3,(0:Int)≤1,(1:Int)<3,(5:Nat)≤1000000,(4:Nat)≤4,(0:Int)≤2,(2:Int)<3,(6:Nat)≤1000000,(5:Nat)≤5,(0:Int)≤0,(0:Int)<3,(0:Int)≤0,(0:Int)<4,(0:Int)≤1,(1:Int)<3,(0:Int)≤0,(0:Int)<4,(0:Int)≤2,(2:Int)<3,(0:Int)≤0,(0:Int)<4,(7:Nat)≤1000000,(6:Nat)≤6,(0:Int)≤0,(0:Int)<3,(0:Int)≤0,(0:Int)<4,(0:Int)≤1,(1:Int)<3,(0:Int)≤0,(0:Int)<4,(0:Int)≤2,(2:Int)<3,(0:Int)≤0,(0:Int)<4,(8:Nat)≤1000000,(7:Nat)≤7,(0:Int)≤0,(0:Int)<3,(0:Int)≤1,(1:Int)<4,(0:Int)≤1,(1:Int)<3,(0:Int)≤1,(1:Int)<4,(0:Int)≤2,(2:Int)<3,(0:Int)≤1,(1:Int)<4,(9:Nat)≤1000000,(8:Nat)≤8,(0:Int)≤0,(0:Int)<3,(0:Int)≤1,(1:Int)<4,(0:Int)≤1,(1:Int)<3,(0:Int)≤1,(1:Int)<4,(0:Int)≤2,(2:Int)<3,(0:Int)≤1,(1:Int)<4,(10:Nat)≤1000000,(9:Nat)≤9,(0:Int)≤0,(0:Int)<3,(0:Int)≤2,(2:Int)<4,(0:Int)≤1,(1:Int)<3,(0:Int)≤2,(2:Int)<4,(0:Int)≤2,(2:Int)<3,(0:Int)≤2,(2:Int)<4,(11:Nat)≤1000000,(10:Nat)≤10,(0:Int)≤0,(0:Int)<3,(0:Int)≤2,(2:Int)<4,(0:Int)≤1,(1:Int)<3,(0:Int)≤2,(2:Int)<4,(0:Int)≤2,(2:Int)<3,(0:Int)≤2,(2:Int)<4,(12:Nat)≤1000000,(11:Nat)≤11,(0:Int)≤0,(0:Int)<3,(0:Int)≤3,(3:Int)<4,(0:Int)≤1,(1:Int)<3,(0:Int)≤3,(3:Int)<4,(0:Int)≤2,(2:Int)<3,(0:Int)≤3,(3:Int)<4,(13:Nat)≤1000000,(12:Nat)≤12,(0:Int)≤0,(0:Int)<3,(0:Int)≤3,(3:Int)<4,(0:Int)≤1,(1:Int)<3,(0:Int)≤3,(3:Int)<4,(0:Int)≤2,(2:Int)<3,(0:Int)≤3,(3:Int)<4,(14:Nat)≤1000000,(13:Nat)≤13,(0:Int)≤0,(0:Int)<3,(0:Int)≤1,(1:Int)<3,(0:Int)≤2,(2:Int)<3,(14:Nat)≤14] (T.ret [Ar.agg [D.sl true (3:Nat) (1:Nat) fun(i' j:Nat)=>List.getD [D.int IntKind.i64 (1:Int),D.int IntKind.i64 (1:Int),D.int IntKind.i64 (1:Int)] (i'*1+j) D.nilp,D.int IntKind.i64 sv,D.sl true (3:Nat) (1:Nat) fun(i' j:Nat)=>List.getD [D.int IntKind.i64 (List.getD [c0,c1,c2] (Int.toNat (0:Int)) (Enc.dflt eC)).3,D.int IntKind.i64 (List.getD [c0,c1,c2] (Int.toNat (IntKind.i64.wrap ((0:Int)+1))) (Enc.dflt eC)).3,D.int IntKind.i64 (List.getD [c0,c1,c2] (Int.toNat (IntKind.i64.wrap (IntKind.i64.wrap ((0:Int)+1)+1))) (Enc.dflt eC)).3] (i'*1+j) D.nilp,D.sl true (14:Nat) (4:Nat) (joinF (13:Nat) (joinF (12:Nat) (joinF (11:Nat) (joinF (10:Nat) (joinF (9:Nat) (joinF (8:Nat) (joinF (7:Nat) (joinF (6:Nat) (joinF (5:Nat) (joinF (4:Nat) (joinF (3:Nat) (joinF (2:Nat) (joinF (1:Nat) (joinF (0:Nat) (fun(x x_1:Nat)=>D.nilp) fun(i j:Nat)=>List.getD [D.int IntKind.i64 (0:Int),D.int IntKind.i64 (0:Int),D.sl true (3:Nat) (1:Nat) fun(i j:Nat)=>List.getD [D.int IntKind.i64 (-1:Int),D.int IntKind.i64 (0:Int),D.int IntKind.i64 (0:Int)] (i*1+j) D.nilp,D.int IntKind.i64 (0:Int)] (i*4+j) D.nilp) fun(i j:Nat)=>List.getD [D.int IntKind.i64 (0:Int),D.int IntKind.i64 (1:Int),D.sl true (3:Nat) (1:Nat) fun(i j:Nat)=>List.getD [D.int IntKind.i64 (0:Int),D.int IntKind.i64 (-1:Int),D.int IntKind.i64 (0:Int)] (i*1+j) D.nilp,D.int IntKind.i64 (0:Int)] (i*4+j) D.nilp) fun(i j:Nat)=>List.getD [D.int IntKind.i64 (0:Int),D.int IntKind.i64 (2:Int),D.sl true (3:Nat) (1:Nat) fun(i j:Nat)=>List.getD [D.int IntKind.i64 (0:Int),D.int IntKind.i64 (0:Int),D.int IntKind.i64 (-1:Int)] (i*1+j) D.nilp,D.int IntKind.i64 (0:Int)] (i*4+j) D.nilp) fun(i j:Nat)=>List.getD [D.int IntKind.i64 (1:Int),D.int IntKind.i64 (0:Int),D.sl true (3:Nat) (1:Nat) fun(i j:Nat)=>List.getD [D.int IntKind.i64 (1:Int),D.int IntKind.i64 (0:Int),D.int IntKind.i64 (0:Int)] (i*1+j) D.nilp,D.int IntKind.i64 (List.getD [c0,c1,c2] (Int.toNat (0:Int)) (Enc.dflt eC)).2] (i*4+j) D.nilp) fun(i j:Nat)=>List.getD [D.int IntKind.i64 (1:Int),D.int IntKind.i64 (1:Int),D.sl true (3:Nat) (1:Nat) fun(i j:Nat)=>List.getD [D.int IntKind.i64 (0:Int),D.int IntKind.i64 (1:Int),D.int IntKind.i64 (0:Int)] (i*1+j) D.nilp,D.int IntKind.i64 (List.getD [c0,c1,c2] (Int.toNat (IntKind.i64.wrap ((0:Int)+1))) (Enc.dflt eC)).2] (i*4+j) D.nilp) fun(i j:Nat)=>List.getD [D.int IntKind.i64 (1:Int),D.int IntKind.i64 (2:Int),D.sl true (3:Nat) (1:Nat) fun(i j:Nat)=>List.getD [D.int IntKind.i64 (0:Int),D.int IntKind.i64 (0:Int),D.int IntKind.i64 (1:Int)] (i*1+j) D.nilp,D.int IntKind.i64 (List.getD [c0,c1,c2] (Int.toNat (IntKind.i64.wrap (IntKind.i64.wrap ((0:Int)+1)+1))) (Enc.dflt eC)).2] (i*4+j) D.nilp) fun(i j:Nat)=>List.getD [D.int IntKind.i64 (2:Int),D.int IntKind.i64 (0:Int),D.sl true (3:Nat) (1:Nat) fun(i j:Nat)=>List.getD [D.int IntKind.i64 (IntKind.i64.wrap ((List.getD [c0,c1,c2] (Int.toNat (0:Int)) (Enc.dflt eC)).4-h0)),D.int IntKind.i64 (IntKind.i64.wrap ((List.getD [c0,c1,c2] (Int.toNat (IntKind.i64.wrap ((0:Int)+1))) (Enc.dflt eC)).4-h0)),D.int IntKind.i64 (IntKind.i64.wrap ((List.getD [c0,c1,c2] (Int.toNat (IntKind.i64.wrap (IntKind.i64.wrap ((0:Int)+1)+1))) (Enc.dflt eC)).4-h0))] (i*1+j) D.nilp,D.int IntKind.i64 (0:Int)] (i*4+j) D.nilp) fun(i j:Nat)=>List.getD [D.int IntKind.i64 (3:Int),D.int IntKind.i64 (0:Int),D.sl true (3:Nat) (1:Nat) fun(i j:Nat)=>List.getD [D.int IntKind.i64 (IntKind.i64.wrap (l0-(List.getD [c0,c1,c2] (Int.toNat (0:Int)) (Enc.dflt eC)).4)),D.int IntKind.i64 (IntKind.i64.wrap (l0-(List.getD [c0,c1,c2] (Int.toNat (IntKind.i64.wrap ((0:Int)+1))) (Enc.dflt eC)).4)),D.int IntKind.i64 (IntKind.i64.wrap (l0-(List.getD [c0,c1,c2] (Int.toNat (IntKind.i64.wrap (IntKind.i64.wrap ((0:Int)+1)+1))) (Enc.dflt eC)).4))] (i*1+j) D.nilp,D.int IntKind.i64 (0:Int)] (i*4+j) D.nilp) fun(i j:Nat)=>List.getD [D.int IntKind.i64 (2:Int),D.int IntKind.i64 (1:Int),D.sl true (3:Nat) (1:Nat) fun(i j:Nat)=>List.getD [D.int IntKind.i64 (IntKind.i64.wrap ((List.getD [c0,c1,c2] (Int.toNat (0:Int)) (Enc.dflt eC)).5-h1)),D.int IntKind.i64 (IntKind.i64.wrap ((List.getD [c0,c1,c2] (Int.toNat (IntKind.i64.wrap ((0:Int)+1))) (Enc.dflt eC)).5-h1)),D.int IntKind.i64 (IntKind.i64.wrap ((List.getD [c0,c1,c2] (Int.toNat (IntKind.i64.wrap (IntKind.i64.wrap ((0:Int)+1)+1))) (Enc.dflt eC)).5-h1))] (i*1+j) D.nilp,D.int IntKind.i64 (0:Int)] (i*4+j) D.nilp) fun(i j:Nat)=>List.getD [D.int IntKind.i64 (3:Int),D.int IntKind.i64 (1:Int),D.sl true (3:Nat) (1:Nat) fun(i j:Nat)=>List.getD [D.int IntKind.i64 (IntKind.i64.wrap (l1-(List.getD [c0,c1,c2] (Int.toNat (0:Int)) (Enc.dflt eC)).5)),D.int IntKind.i64 (IntKind.i64.wrap (l1-(List.getD [c0,c1,c2] (Int.toNat (IntKind.i64.wrap ((0:Int)+1))) (Enc.dflt eC)).5)),D.int IntKind.i64 (IntKind.i64.wrap (l1-(List.getD [c0,c1,c2] (Int.toNat (IntKind.i64.wrap (IntKind.i64.wrap ((0:Int)+1)+1))) (Enc.dflt eC)).5))] (i*1+j) D.nilp,D.int IntKind.i64 (0:Int)] (i*4+j) D.nilp) fun(i j:Nat)=>List.getD [D.int IntKind.i64 (2:Int),D.int IntKind.i64 (2:Int),D.sl true (3:Nat) (1:Nat) fun(i j:Nat)=>List.getD [D.int IntKind.i64 (IntKind.i64.wrap ((List.getD [c0,c1,c2] (Int.toNat (0:Int)) (Enc.dflt eC)).6-h2)),D.int IntKind.i64 (IntKind.i64.wrap ((List.getD [c0,c1,c2] (Int.toNat (IntKind.i64.wrap ((0:Int)+1))) (Enc.dflt eC)).6-h2)),D.int IntKind.i64 (IntKind.i64.wrap ((List.getD [c0,c1,c2] (Int.toNat (IntKind.i64.wrap (IntKind.i64.wrap ((0:Int)+1)+1))) (Enc.dflt eC)).6-h2))] (i*1+j) D.nilp,D.int IntKind.i64 (0:Int)] (i*4+j) D.nilp) fun(i j:Nat)=>List.getD [D.int IntKind.i64 (3:Int),D.int IntKind.i64 (2:Int),D.sl true (3:Nat) (1:Nat) fun(i j:Nat)=>List.getD [D.int IntKind.i64 (IntKind.i64.wrap (l2-(List.getD [c0,c1,c2] (Int.toNat (0:Int)) (Enc.dflt eC)).6)),D.int IntKind.i64 (IntKind.i64.wrap (l2-(List.getD [c0,c1,c2] (Int.toNat (IntKind.i64.wrap ((0:Int)+1))) (Enc.dflt eC)).6)),D.int IntKind.i64 (IntKind.i64.wrap (l2-(List.getD [c0,c1,c2] (Int.toNat (IntKind.i64.wrap (IntKind.i64.wrap ((0:Int)+1)+1))) (Enc.dflt eC)).6))] (i*1+j) D.nilp,D.int IntKind.i64 (0:Int)] (i*4+j) D.nilp) fun(i j:Nat)=>List.getD [D.int IntKind.i64 (2:Int),D.int IntKind.i64 (3:Int),D.sl true (3:Nat) (1:Nat) fun(i j:Nat)=>List.getD [D.int IntKind.i64 (IntKind.i64.wrap ((List.getD [c0,c1,c2] (Int.toNat (0:Int)) (Enc.dflt eC)).7-h3)),D.int IntKind.i64 (IntKind.i64.wrap ((List.getD [c0,c1,c2] (Int.toNat (IntKind.i64.wrap ((0:Int)+1))) (Enc.dflt eC)).7-h3)),D.int IntKind.i64 (IntKind.i64.wrap ((List.getD [c0,c1,c2] (Int.toNat (IntKind.i64.wrap (IntKind.i64.wrap ((0:Int)+1)+1))) (Enc.dflt eC)).7-h3))] (i*1+j) D.nilp,D.int IntKind.i64 (0:Int)] (i*4+j) D.nilp) fun(i j:Nat)=>List.getD [D.int IntKind.i64 (3:Int),D.int IntKind.i64 (3:Int),D.sl true (3:Nat) (1:Nat) fun(i j:Nat)=>List.getD [D.int IntKind.i64 (IntKind.i64.wrap (l3-(List.getD [c0,c1,c2] (Int.toNat (0:Int)) (Enc.dflt eC)).7)),D.int IntKind.i64 (IntKind.i64.wrap (l3-(List.getD [c0,c1,c2] (Int.toNat (IntKind.i64.wrap ((0:Int)+1))) (Enc.dflt eC)).7)),D.int IntKind.i64 (IntKind.i64.wrap (l3-(List.getD [c0,c1,c2] (Int.toNat (IntKind.i64.wrap (IntKind.i64.wrap ((0:Int)+1)+1))) (Enc.dflt eC)).7))] (i*1+j) D.nilp,D.int IntKind.i64 (0:Int)] (i*4+j) D.nilp)]])
theorem t66_3(q:Bool)(c0 c1 c2:Cask)(sv l0 h0 l1 h1 l2 h2 l3 h3:Int):runFnX Tryd.prog G0 (lookS []) (fun _=>[(999999,[],none)]) [60,74,75,76,77,78,79,80] 1 60 6 33 Tryd.f33 [.c (.sl q 3 7 (eC.F [c0,c1,c2])),.agg [dI sv,dI l0,dI h0,dI l1,dI h1,dI l2,dI h2,dI l3,dI h3]] =
  tr66_3 c0 c1 c2 sv l0 h0 l1 h1 l2 h2 l3 h3:=by kernel_rfl
theorem w66_3(c0 c1 c2:Cask)(sv l0 h0 l1 h1 l2 h2 l3 h3:Int):(tr66_3 c0 c1 c2 sv l0 h0 l1 h1 l2 h2 l3 h3).wp (fun rs=>rsEqv rs (res66 [c0,c1,c2] ⟨sv,⟨l0,h0⟩,⟨l1,h1⟩,⟨l2,h2⟩,⟨l3,h3⟩⟩)):=by
 unfold tr66_3
 repeat (refine⟨by decide,?_⟩)
 refine⟨⟨?_,rfl,?_,?_,trivial⟩,trivial⟩
 ·refine sl_ints (q':=false) (l:=M.shares [c0,c1,c2] 0) (fun e=>nomatch e) ?_
  kernel_rfl
 ·refine sl_ints (q':=false) (l:=M.costs [c0,c1,c2]) (fun e=>nomatch e) ?_
  kernel_rfl
 ·refine conds_eqv (q':=false) (m:=M.limits [c0,c1,c2] ⟨sv,⟨l0,h0⟩,⟨l1,h1⟩,⟨l2,h2⟩,⟨l3,h3⟩⟩ 0) (fun e=>nomatch e) ?_
  kernel_rfl
end Go.Bl
end
section
set_option maxRecDepth 100000
namespace Go.Bl
open Go.V Go.Proofs
def tr66_4(c0 c1 c2 c3:Cask)(sv l0 h0 l1 h1 l2 h2 l3 h3:Int):T (List Ar):=
  T.needs [(1:Nat)≤1000000,(2:Nat)≤1000000,(1:Nat)≤1,(3:Nat)≤1000000,(2:Nat)≤2,(4:Nat)≤1000000,(3:Nat)≤3,(0:Int)≤0,(0:Int)<4,(5:Nat)≤1000000,(4:Nat)≤4,(0:Int)≤1,(1:Int)<4,(6:Nat)≤1000000,(5:Nat)≤5,(0:Int)≤2,(2:Int)<4,(7:Nat)≤1000000,(6:Nat)≤6,(0:Int)≤3,(3:Int)<4,(8:Nat)≤1000000,(7:Nat)≤7,(0:Int)≤0,(0:Int)<4,(0:Int)≤0,(0:Int)<4,(0:Int)≤1,(1:Int)<4,(0:Int)≤0,(0:Int)<4,(0:Int)≤2,(2:Int)<4,(0:Int)≤0,(0:Int)<4,(0:Int)≤3,(3:Int)<4,(0:Int)≤0,(0:Int)<4,(9:Nat)≤1000000,(8:Nat)≤8,(0:Int)≤0,(0:Int)<4,(0:Int)≤0,(0:Int)<4,(0:Int)≤1,(1:Int)<4,(0:Int)≤0,(0:Int)<4,(0:Int)≤2,(2:Int)<4,(0:Int)≤0,(0:Int)<4,(0:Int)≤3,(3:Int)<4,(0:Int)≤0,(0:Int)<4,(10:Nat)≤1000000,(9:Nat)≤9,(0:Int)≤0,(0:Int)<4,(0:Int)≤1,(1:Int)<4,(0:Int)≤1,(1:Int)<4,(0:Int)≤1,(1:Int)<4,(0:Int)≤2,(2:Int)<4,(0:Int)≤1,(1:Int)<4,(0:Int)≤3,(3:Int)<4,(0:Int)≤1,(1:Int)<4,(11:Nat)≤1000000,(10:Nat)≤10,(0:Int)≤0,(0:Int)<4,(0:Int)≤1,(1:Int)<4,(0:Int)≤1,(1:Int)<4,(0:Int)≤1,(1:Int)<4,(0:Int)≤2,(2:Int)<4,(0:Int)≤1,(1:Int)<4,(0:Int)≤3,(3:Int)<4,(0:Int)≤1,(1:Int)<4,(12:Nat)≤1000000,(11:Nat)≤11,(0:Int)≤0,(0:Int)<4,(0:Int)≤2,(2:Int)<4,(0:Int)≤1,(1:Int)<4,(0:Int)≤2,(2:Int)<4,(0:Int)≤2,(2:Int)<4,(0:Int)≤2,(2:Int)<4,(0:Int)≤3,(3:Int)<4,(0:Int)≤2,(2:Int)<4,(13:Nat)≤1000000,(12:Nat)≤12,(0:Int)≤0,(0:Int)<4,(0:Int)≤2,(2:Int)<4,(0:Int)≤1,(1:Int)<4,(0:Int)≤2,(2:Int)<4,(0:Int)≤2,(2:Int)<4,(0:Int)≤2,(2:Int)<4,(0:Int)≤3,(3:Int)<4,(0:Int)≤2,(2:Int)<4,(14:Nat)≤1000000,(13:Nat)≤13,(0:Int)≤0,(0:Int)<4,(0:Int)≤3,(3:Int)<4,(0:Int)≤1,(1:Int)<4,(0:Int)≤3,(3:Int)<4,(0:Int)≤2,(2:Int)<4,(0:Int)≤3,(3:Int)<4,(0:Int)≤3,(3:Int)<4,(0:Int)≤3,(3:Int)<4,(15:Nat)≤1000000,(14:Nat)≤14,(0:Int)≤0,(0:Int)<4,(0:Int)≤3,(3:Int)<4,(0:Int)≤1,(1:Int)<4,(0:Int)≤3,(3:Int)<4,(0:Int)≤2,(2:Int)<4,(0:Int)≤3,(3:Int)<4,(0:Int)≤3,(3:Int)<4,(0:Int)≤3,(3:Int)<4,(16:Nat)≤1000000,(15:Nat)≤15,(0:Int)≤0,(0:Int)<4,(0:Int)≤1,(1:Int)<4,(0:Int)≤2,(2:Int)<4,(0:Int)≤3,(3:Int)<4,(16:Nat)≤16] (T.ret [Ar.agg [D.sl true (4:Nat) (1:Nat) fun(i' j:Nat)=>List.getD [D.int IntKind.i64 (1:Int),D.int IntKind.i64 (1:Int),D.int IntKind.i64 (1:Int),D.int IntKind.i64 (1:Int)] (i'*1+j) D.nilp,D.int IntKind.i64 sv,D.sl true (4:Nat) (1:Nat) fun(i' j:Nat)=>List.getD [D.int IntKind.i64 (List.getD [c0,c1,c2,c3] (Int.toNat (0:Int)) (Enc.dflt eC)).3,D.int IntKind.i64 (List.getD [c0,c1,c2,c3] (Int.toNat (IntKind.i64.wrap ((0:Int)+1))) (Enc.dflt eC)).3,D.int IntKind.i64 (List.getD [c0,c1,c2,c3] (Int.toNat (IntKind.i64.wrap (IntKind.i64.wrap ((0:Int)+1)+1))) (Enc.dflt eC)).3,D.int IntKind.i64 (List.getD [c0,c1,c2,c3] (Int.toNat (IntKind.i64.wrap (IntKind.i64.wrap (IntKind.i64.wrap ((0:Int)+1)+1)+1))) (Enc.dflt eC)).3] (i'*1+j) D.nilp,D.sl true (16:Nat) (4:Nat) (joinF (15:Nat) (joinF (14:Nat) (joinF (13:Nat) (joinF (12:Nat) (joinF (11:Nat) (joinF (10:Nat) (joinF (9:Nat) (joinF (8:Nat) (joinF (7:Nat) (joinF (6:Nat) (joinF (5:Nat) (joinF (4:Nat) (joinF (3:Nat) (joinF (2:Nat) (joinF (1:Nat) (joinF (0:Nat) (fun(x x_1:Nat)=>D.nilp) fun(i j:Nat)=>List.getD [D.int IntKind.i64 (0:Int),D.int IntKind.i64 (0:Int),D.sl true (4:Nat) (1:Nat) fun(i j:Nat)=>List.getD [D.int IntKind.i64 (-1:Int),D.int IntKind.i64 (0:Int),D.int IntKind.i64 (0:Int),D.int IntKind.i64 (0:Int)] (i*1+j) D.nilp,D.int IntKind.i64 (0:Int)] (i*4+j) D.nilp) fun(i j:Nat)=>List.getD [D.int IntKind.i64 (0:Int),D.int IntKind.i64 (1:Int),D.sl true (4:Nat) (1:Nat) fun(i j:Nat)=>List.getD [D.int IntKind.i64 (0:Int),D.int IntKind.i64 (-1:Int),D.int IntKind.i64 (0:Int),D.int IntKind.i64 (0:Int)] (i*1+j) D.nilp,D.int IntKind.i64 (0:Int)] (i*4+j) D.nilp) fun(i j:Nat)=>List.getD [D.int IntKind.i64 (0:Int),D.int IntKind.i64 (2:Int),D.sl true (4:Nat) (1:Nat) fun(i j:Nat)=>List.getD [D.int IntKind.i64 (0:Int),D.int IntKind.i64 (0:Int),D.int IntKind.i64 (-1:Int),D.int IntKind.i64 (0:Int)] (i*1+j) D.nilp,D.int IntKind.i64 (0:Int)] (i*4+j) D.nilp) fun(i j:Nat)=>List.getD [D.int IntKind.i64 (0:Int),D.int IntKind.i64 (3:Int),D.sl true (4:Nat) (1:Nat) fun(i j:Nat)=>List.getD [D.int IntKind.i64 (0:Int),D.int IntKind.i64 (0:Int),D.int IntKind.i64 (0:Int),D.int IntKind.i64 (-1:Int)] (i*1+j) D.nilp,D.int IntKind.i64 (0:Int)] (i*4+j) D.nilp) fun(i j:Nat)=>List.getD [D.int IntKind.i64 (1:Int),D.int IntKind.i64 (0:Int),D.sl true (4:Nat) (1:Nat) fun(i j:Nat)=>List.getD [D.int IntKind.i64 (1:Int),D.int IntKind.i64 (0:Int),D.int IntKind.i64 (0:Int),D.int IntKind.i64 (0:Int)] (i*1+j) D.nilp,D.int IntKind.i64 (List.getD [c0,c1,c2,c3] (Int.toNat (0:Int)) (Enc.dflt eC)).2] (i*4+j) D.nilp) fun(i j:Nat)=>List.getD [D.int IntKind.i64 (1:Int),D.int IntKind.i64 (1:Int),D.sl true (4:Nat) (1:Nat) fun(i j:Nat)=>List.getD [D.int IntKind.i64 (0:Int),D.int IntKind.i64 (1:Int),D.int IntKind.i64 (0:Int),D.int IntKind.i64 (0:Int)] (i*1+j) D.nilp,D.int IntKind.i64 (List.getD [c0,c1,c2,c3] (Int.toNat (IntKind.i64.wrap ((0:Int)+1))) (Enc.dflt eC)).2] (i*4+j) D.nilp) fun(i j:Nat)=>List.getD [D.int IntKind.i64 (1:Int),D.int IntKind.i64 (2:Int),D.sl true (4:Nat) (1:Nat) fun(i j:Nat)=>List.getD [D.int IntKind.i64 (0:Int),D.int IntKind.i64 (0:Int),D.int IntKind.i64 (1:Int),D.int IntKind.i64 (0:Int)] (i*1+j) D.nilp,D.int IntKind.i64 (List.getD [c0,c1,c2,c3] (Int.toNat (IntKind.i64.wrap (IntKind.i64.wrap ((0:Int)+1)+1))) (Enc.dflt eC)).2] (i*4+j) D.nilp) fun(i j:Nat)=>List.getD [D.int IntKind.i64 (1:Int),D.int IntKind.i64 (3:Int),D.sl true (4:Nat) (1:Nat) fun(i j:Nat)=>List.getD [D.int IntKind.i64 (0:Int),D.int IntKind.i64 (0:Int),D.int IntKind.i64 (0:Int),D.int IntKind.i64 (1:Int)] (i*1+j) D.nilp,D.int IntKind.i64 (List.getD [c0,c1,c2,c3] (Int.toNat (IntKind.i64.wrap (IntKind.i64.wrap (IntKind.i64.wrap ((0:Int)+1)+1)+1))) (Enc.dflt eC)).2] (i*4+j) D.nilp) fun(i j:Nat)=>List.getD [D.int IntKind.i64 (2:Int),D.int IntKind.i64 (0:Int),D.sl true (4:Nat) (1:Nat) fun(i j:Nat)=>List.getD [D.int IntKind.i64 (IntKind.i64.wrap ((List.getD [c0,c1,c2,c3] (Int.toNat (0:Int)) (Enc.dflt eC)).4-h0)),D.int IntKind.i64 (IntKind.i64.wrap ((List.getD [c0,c1,c2,c3] (Int.toNat (IntKind.i64.wrap ((0:Int)+1))) (Enc.dflt eC)).4-h0)),D.int IntKind.i64 (IntKind.i64.wrap ((List.getD [c0,c1,c2,c3] (Int.toNat (IntKind.i64.wrap (IntKind.i64.wrap ((0:Int)+1)+1))) (Enc.dflt eC)).4-h0)),D.int IntKind.i64 (IntKind.i64.wrap ((List.getD [c0,c1,c2,c3] (Int.toNat (IntKind.i64.wrap (IntKind.i64.wrap (IntKind.i64.wrap ((0:Int)+1)+1)+1))) (Enc.dflt eC)).4-h0))] (i*1+j) D.nilp,D.int IntKind.i64 (0:Int)] (i*4+j) D.nilp) fun(i j:Nat)=>List.getD [D.int IntKind.i64 (3:Int),D.int IntKind.i64 (0:Int),D.sl true (4:Nat) (1:Nat) fun(i j:Nat)=>List.getD [D.int IntKind.i64 (IntKind.i64.wrap (l0-(List.getD [c0,c1,c2,c3] (Int.toNat (0:Int)) (Enc.dflt eC)).4)),D.int IntKind.i64 (IntKind.i64.wrap (l0-(List.getD [c0,c1,c2,c3] (Int.toNat (IntKind.i64.wrap ((0:Int)+1))) (Enc.dflt eC)).4)),D.int IntKind.i64 (IntKind.i64.wrap (l0-(List.getD [c0,c1,c2,c3] (Int.toNat (IntKind.i64.wrap (IntKind.i64.wrap ((0:Int)+1)+1))) (Enc.dflt eC)).4)),D.int IntKind.i64 (IntKind.i64.wrap (l0-(List.getD [c0,c1,c2,c3] (Int.toNat (IntKind.i64.wrap (IntKind.i64.wrap (IntKind.i64.wrap ((0:Int)+1)+1)+1))) (Enc.dflt eC)).4))] (i*1+j) D.nilp,D.int IntKind.i64 (0:Int)] (i*4+j) D.nilp) fun(i j:Nat)=>List.getD [D.int IntKind.i64 (2:Int),D.int IntKind.i64 (1:Int),D.sl true (4:Nat) (1:Nat) fun(i j:Nat)=>List.getD [D.int IntKind.i64 (IntKind.i64.wrap ((List.getD [c0,c1,c2,c3] (Int.toNat (0:Int)) (Enc.dflt eC)).5-h1)),D.int IntKind.i64 (IntKind.i64.wrap ((List.getD [c0,c1,c2,c3] (Int.toNat (IntKind.i64.wrap ((0:Int)+1))) (Enc.dflt eC)).5-h1)),D.int IntKind.i64 (IntKind.i64.wrap ((List.getD [c0,c1,c2,c3] (Int.toNat (IntKind.i64.wrap (IntKind.i64.wrap ((0:Int)+1)+1))) (Enc.dflt eC)).5-h1)),D.int IntKind.i64 (IntKind.i64.wrap ((List.getD [c0,c1,c2,c3] (Int.toNat (IntKind.i64.wrap (IntKind.i64.wrap (IntKind.i64.wrap ((0:Int)+1)+1)+1))) (Enc.dflt eC)).5-h1))] (i*1+j) D.nilp,D.int IntKind.i64 (0:Int)] (i*4+j) D.nilp) fun(i j:Nat)=>List.getD [D.int IntKind.i64 (3:Int),D.int IntKind.i64 (1:Int),D.sl true (4:Nat) (1:Nat) fun(i j:Nat)=>List.getD [D.int IntKind.i64 (IntKind.i64.wrap (l1-(List.getD [c0,c1,c2,c3] (Int.toNat (0:Int)) (Enc.dflt eC)).5)),D.int IntKind.i64 (IntKind.i64.wrap (l1-(List.getD [c0,c1,c2,c3] (Int.toNat (IntKind.i64.wrap ((0:Int)+1))) (Enc.dflt eC)).5)),D.int IntKind.i64 (IntKind.i64.wrap (l1-(List.getD [c0,c1,c2,c3] (Int.toNat (IntKind.i64.wrap (IntKind.i64.wrap ((0:Int)+1)+1))) (Enc.dflt eC)).5)),D.int IntKind.i64 (IntKind.i64.wrap (l1-(List.getD [c0,c1,c2,c3] (Int.toNat (IntKind.i64.wrap (IntKind.i64.wrap (IntKind.i64.wrap ((0:Int)+1)+1)+1))) (Enc.dflt eC)).5))] (i*1+j) D.nilp,D.int IntKind.i64 (0:Int)] (i*4+j) D.nilp) fun(i j:Nat)=>List.getD [D.int IntKind.i64 (2:Int),D.int IntKind.i64 (2:Int),D.sl true (4:Nat) (1:Nat) fun(i j:Nat)=>List.getD [D.int IntKind.i64 (IntKind.i64.wrap ((List.getD [c0,c1,c2,c3] (Int.toNat (0:Int)) (Enc.dflt eC)).6-h2)),D.int IntKind.i64 (IntKind.i64.wrap ((List.getD [c0,c1,c2,c3] (Int.toNat (IntKind.i64.wrap ((0:Int)+1))) (Enc.dflt eC)).6-h2)),D.int IntKind.i64 (IntKind.i64.wrap ((List.getD [c0,c1,c2,c3] (Int.toNat (IntKind.i64.wrap (IntKind.i64.wrap ((0:Int)+1)+1))) (Enc.dflt eC)).6-h2)),D.int IntKind.i64 (IntKind.i64.wrap ((List.getD [c0,c1,c2,c3] (Int.toNat (IntKind.i64.wrap (IntKind.i64.wrap (IntKind.i64.wrap ((0:Int)+1)+1)+1))) (Enc.dflt eC)).6-h2))] (i*1+j) D.nilp,D.int IntKind.i64 (0:Int)] (i*4+j) D.nilp) fun(i j:Nat)=>List.getD [D.int IntKind.i64 (3:Int),D.int IntKind.i64 (2:Int),D.sl true (4:Nat) (1:Nat) fun(i j:Nat)=>List.getD [D.int IntKind.i64 (IntKind.i64.wrap (l2-(List.getD [c0,c1,c2,c3] (Int.toNat (0:Int)) (Enc.dflt eC)).6)),D.int IntKind.i64 (IntKind.i64.wrap (l2-(List.getD [c0,c1,c2,c3] (Int.toNat (IntKind.i64.wrap ((0:Int)+1))) (Enc.dflt eC)).6)),D.int IntKind.i64 (IntKind.i64.wrap (l2-(List.getD [c0,c1,c2,c3] (Int.toNat (IntKind.i64.wrap (IntKind.i64.wrap ((0:Int)+1)+1))) (Enc.dflt eC)).6)),D.int IntKind.i64 (IntKind.i64.wrap (l2-(List.getD [c0,c1,c2,c3] (Int.toNat (IntKind.i64.wrap (IntKind.i64.wrap (IntKind.i64.wrap ((0:Int)+1)+1)+1))) (Enc.dflt eC)).6))] (i*1+j) D.nilp,D.int IntKind.i64 (0:Int)] (i*4+j) D.nilp) fun(i j:Nat)=>List.getD [D.int IntKind.i64 (2:Int),D.int IntKind.i64 (3:Int),D.sl true (4:Nat) (1:Nat) fun(i j:Nat)=>List.getD [D.int IntKind.i64 (IntKind.i64.wrap ((List.getD [c0,c1,c2,c3] (Int.toNat (0:Int)) (Enc.dflt eC)).7-h3)),D.int IntKind.i64 (IntKind.i64.wrap ((List.getD [c0,c1,c2,c3] (Int.toNat (IntKind.i64.wrap ((0:Int)+1))) (Enc.dflt eC)).7-h3)),D.int IntKind.i64 (IntKind.i64.wrap ((List.getD [c0,c1,c2,c3] (Int.toNat (IntKind.i64.wrap (IntKind.i64.wrap ((0:Int)+1)+1))) (Enc.dflt eC)).7-h3)),D.int IntKind.i64 (IntKind.i64.wrap ((List.getD [c0,c1,c2,c3] (Int.toNat (IntKind.i64.wrap (IntKind.i64.wrap (IntKind.i64.wrap ((0:Int)+1)+1)+1))) (Enc.dflt eC)).7-h3))] (i*1+j) D.nilp,D.int IntKind.i64 (0:Int)] (i*4+j) D.nilp) fun(i j:Nat)=>List.getD [D.int IntKind.i64 (3:Int),D.int IntKind.i64 (3:Int),D.sl true (4:Nat) (1:Nat) fun(i j:Nat)=>List.getD [D.int IntKind.i64 (IntKind.i64.wrap (l3-(List.getD [c0,c1,c2,c3] (Int.toNat (0:Int)) (Enc.dflt eC)).7)),D.int IntKind.i64 (IntKind.i64.wrap (l3-(List.getD [c0,c1,c2,c3] (Int.toNat (IntKind.i64.wrap ((0:Int)+1))) (Enc.dflt eC)).7)),D.int IntKind.i64 (IntKind.i64.wrap (l3-(List.getD [c0,c1,c2,c3] (Int.toNat (IntKind.i64.wrap (IntKind.i64.wrap ((0:Int)+1)+1))) (Enc.dflt eC)).7)),D.int IntKind.i64 (IntKind.i64.wrap (l3-(List.getD [c0,c1,c2,c3] (Int.toNat (IntKind.i64.wrap (IntKind.i64.wrap (IntKind.i64.wrap ((0:Int)+1)+1)+1))) (Enc.dflt eC)).7))] (i*1+j) D.nilp,D.int IntKind.i64 (0:Int)] (i*4+j) D.nilp)]])
theorem t66_4(q:Bool)(c0 c1 c2 c3:Cask)(sv l0 h0 l1 h1 l2 h2 l3 h3:Int):runFnX Tryd.prog G0 (lookS []) (fun _=>[(999999,[],none)]) [60,74,75,76,77,78,79,80] 1 60 6 33 Tryd.f33 [.c (.sl q 4 7 (eC.F [c0,c1,c2,c3])),.agg [dI sv,dI l0,dI h0,dI l1,dI h1,dI l2,dI h2,dI l3,dI h3]] =
  tr66_4 c0 c1 c2 c3 sv l0 h0 l1 h1 l2 h2 l3 h3:=by kernel_rfl
theorem w66_4(c0 c1 c2 c3:Cask)(sv l0 h0 l1 h1 l2 h2 l3 h3:Int):(tr66_4 c0 c1 c2 c3 sv l0 h0 l1 h1 l2 h2 l3 h3).wp (fun rs=>rsEqv rs (res66 [c0,c1,c2,c3] ⟨sv,⟨l0,h0⟩,⟨l1,h1⟩,⟨l2,h2⟩,⟨l3,h3⟩⟩)):=by
 unfold tr66_4
 repeat (refine⟨by decide,?_⟩)
 refine⟨⟨?_,rfl,?_,?_,trivial⟩,trivial⟩
 ·refine sl_ints (q':=false) (l:=M.shares [c0,c1,c2,c3] 0) (fun e=>nomatch e) ?_
  kernel_rfl
 ·refine sl_ints (q':=false) (l:=M.costs [c0,c1,c2,c3]) (fun e=>nomatch e) ?_
  kernel_rfl
 ·refine conds_eqv (q':=false) (m:=M.limits [c0,c1,c2,c3] ⟨sv,⟨l0,h0⟩,⟨l1,h1⟩,⟨l2,h2⟩,⟨l3,h3⟩⟩ 0) (fun e=>nomatch e) ?_
  kernel_rfl
end Go.Bl
end
section
set_option maxRecDepth 100000
namespace Go.Bl
open Go.V Go.Proofs
theorem C66:FOK Tryd.prog G0 gw 33 dom66:=by
 intro ags p r hd hp κ w xs hw hl hG hx
 unfold dom66 at hd
 split at hd
 ·rename_i q n st F sv l0 h0 l1 h1 l2 h2 l3 h3
  split at hd
  ·rename_i hst
   have e1:=Nat.eq_of_beq_eq_true hst
   subst e1
   simp only[Option.some.injEq,Prod.mk.injEq]at hd
   obtain⟨rfl,rfl⟩:=hd
   obtain⟨hC,hn1,hn4,_⟩:=hp
   have heq:agsEqv [.c (.sl q n 7 F),.agg [.int .i64 sv,.int .i64 l0,.int .i64 h0,.int .i64 l1,.int .i64 h1,.int .i64 l2,.int .i64 h2,.int .i64 l3,.int .i64 h3]] [.c (.sl q (eC.list n F).length 7 (eC.F (eC.list n F))),.agg [.int .i64 sv,.int .i64 l0,.int .i64 h0,.int .i64 l1,.int .i64 h1,.int .i64 l2,.int .i64 h2,.int .i64 l3,.int .i64 h3]]:=⟨eC.to id hC,Ag.eqv_refl _,trivial⟩
   have l1':(eC.list n F).length=n:=eC.list_len
   generalize eC.list n F=l at *
   match n,hn1,hn4 with
   |1,_,_=>
    obtain⟨c0,rfl⟩:=len1 l1'
    exact fokX_fin mixed gw_stable (sl:=[]) trivial Tryd.func33 hw hl hG hx heq rfl (t66_1 q c0 sv l0 h0 l1 h1 l2 h2 l3 h3) (w66_1 c0 sv l0 h0 l1 h1 l2 h2 l3 h3)
   |2,_,_=>
    obtain⟨c0,c1,rfl⟩:=len2 l1'
    exact fokX_fin mixed gw_stable (sl:=[]) trivial Tryd.func33 hw hl hG hx heq rfl (t66_2 q c0 c1 sv l0 h0 l1 h1 l2 h2 l3 h3) (w66_2 c0 c1 sv l0 h0 l1 h1 l2 h2 l3 h3)
   |3,_,_=>
    obtain⟨c0,c1,c2,rfl⟩:=len3 l1'
    exact fokX_fin mixed gw_stable (sl:=[]) trivial Tryd.func33 hw hl hG hx heq rfl (t66_3 q c0 c1 c2 sv l0 h0 l1 h1 l2 h2 l3 h3) (w66_3 c0 c1 c2 sv l0 h0 l1 h1 l2 h2 l3 h3)
   |4,_,_=>
    obtain⟨c0,c1,c2,c3,rfl⟩:=len4 l1'
    exact fokX_fin mixed gw_stable (sl:=[]) trivial Tryd.func33 hw hl hG hx heq rfl (t66_4 q c0 c1 c2 c3 sv l0 h0 l1 h1 l2 h2 l3 h3) (w66_4 c0 c1 c2 c3 sv l0 h0 l1 h1 l2 h2 l3 h3)
  ·cases hd
 ·cases hd
theorem S66:SumOK Tryd.prog G0 gw 33 (fokSm dom66):=fok_sum Tryd.func33 rfl C66
end Go.Bl
end
section
set_option maxRecDepth 100000
namespace Go.Bl
open Go.V Go.Proofs
namespace M
def rgErr(r:Rg):Int:=first [unl (within r.lo 0 1000&&within r.hi 0 1000) 2,unl (decide (r.lo≤r.hi)) 9]
def checkSample(s:Sample):Int:=cond (within s.vol 1 10000) (first [rgErr s.r0,rgErr s.r1,rgErr s.r2,rgErr s.r3]) 2
def wholeErr(l:List Cask):Int:=(checkCasks l).2
def casksErr(l:List Cask):Int:=first [(checkCasks l).2,unl (decide ((l.length:Int)≤4)) 8]
def taskErr(l:List Cask)(s:Sample):Int:=first [casksErr l,checkSample s]
def mx(a b:Int):Int:=if b>a then b else a
def awayK(V n:Int)(r:Rg)(a:Int):Int:=mx (mx a (IntKind.i64.wrap (IntKind.i64.wrap (r.lo*V)-n))) (IntKind.i64.wrap (n-IntKind.i64.wrap (r.hi*V)))
def away(l:List Cask)(ps:List Int)(s:Sample):Int:=
 awayK (sumP (fun _=>1) l ps) (sumP (kOf 3) l ps) s.r3 (awayK (sumP (fun _=>1) l ps) (sumP (kOf 2) l ps) s.r2 (awayK (sumP (fun _=>1) l ps) (sumP (kOf 1) l ps) s.r1 (awayK (sumP (fun _=>1) l ps) (sumP (kOf 0) l ps) s.r0 0)))
end M
theorem first_cons(x:Int)(l:List Int):M.first (x::l)=if x=0 then M.first l else x:=by
 by_cases h:x=0
 ·rw[if_pos h,h];rfl
 ·rw[if_neg h]
  have:(x != 0)=true:=bne_iff_ne.2 h
  simp only[M.first,this,cond_true]
def pieceB{α:Type}(lo hi:Int)(bad:Int→α)(rest:T α):T α:=
 .br (M.within lo 0 1000) (.need (M.within lo 0 1000=true) (.br (M.first [M.unl (M.within hi 0 1000) 2,M.unl (decide (lo≤hi)) 9] != 0) (.ret (bad (M.first [M.unl (M.within hi 0 1000) 2,M.unl (decide (lo≤hi)) 9]))) rest))
  (.need (M.within lo 0 1000=false) (.br (M.first [2,M.unl (decide (lo≤hi)) 9] != 0) (.ret (bad (M.first [2,M.unl (decide (lo≤hi)) 9]))) rest))
theorem pieceB_wp{α:Type}{lo hi:Int}{bad:Int→α}{rest:T α}{Q:α→Prop}(h1:M.rgErr ⟨lo,hi⟩≠0→Q (bad (M.rgErr ⟨lo,hi⟩)))(h2:M.rgErr ⟨lo,hi⟩=0→rest.wp Q):(pieceB lo hi bad rest).wp Q:=by
 have fin:∀e:Int,M.rgErr ⟨lo,hi⟩=e→(T.br (e != 0) (.ret (bad e)) rest:T α).wp Q:=by
  intro e he
  refine wp_br (fun h=>?_) (fun h=>?_)
  ·rw[←he]at h ⊢;exact h1 (bne_iff_ne.1 h)
  ·rw[←he]at h;exact h2 (by simpa using h)
 refine wp_br (fun h=>⟨h,fin _ ?_⟩) (fun h=>⟨h,fin _ ?_⟩)
 ·unfold M.rgErr;rw[h];rfl
 ·unfold M.rgErr;rw[h];rfl
def tr49(sv l0 h0 l1 h1 l2 h2 l3 h3:Int):T (List Ar):=
 .br (!M.within sv 1 10000) (.ret [rI 2]) (pieceB l0 h0 (fun e=>[rI e]) (pieceB l1 h1 (fun e=>[rI e]) (pieceB l2 h2 (fun e=>[rI e]) (pieceB l3 h3 (fun e=>[rI e]) (.ret [rI 0])))))
theorem t49(sv l0 h0 l1 h1 l2 h2 l3 h3:Int):runFnX Tryd.prog G0 (lookS [v64,v80,v95,v102]) (fun _=>[(1000013,[],none),(3000012,[],none),(3000035,[],none)]) [] 1 40 3 32 Tryd.f32 [.agg [dI sv,dI l0,dI h0,dI l1,dI h1,dI l2,dI h2,dI l3,dI h3]] =
  tr49 sv l0 h0 l1 h1 l2 h2 l3 h3:=by kernel_rfl
theorem w49(sv l0 h0 l1 h1 l2 h2 l3 h3:Int):(tr49 sv l0 h0 l1 h1 l2 h2 l3 h3).wp (fun rs=>rsEqv rs [rI (M.checkSample ⟨sv,⟨l0,h0⟩,⟨l1,h1⟩,⟨l2,h2⟩,⟨l3,h3⟩⟩)]):=by
 have fin:∀e:Int,M.checkSample ⟨sv,⟨l0,h0⟩,⟨l1,h1⟩,⟨l2,h2⟩,⟨l3,h3⟩⟩=e→rsEqv [rI e] [rI (M.checkSample ⟨sv,⟨l0,h0⟩,⟨l1,h1⟩,⟨l2,h2⟩,⟨l3,h3⟩⟩)]:=fun e he=>by rw[he];exact rsEqv_refl _
 refine wp_br (fun a=>?_) (fun a=>?_)
 ·have a:M.within sv 1 10000=false:=by simpa using a
  exact fin 2 (by unfold M.checkSample;rw[a];rfl)
 ·have a:M.within sv 1 10000=true:=by simpa using a
  refine pieceB_wp (fun h=>fin _ ?_) (fun b0=>pieceB_wp (fun h=>fin _ ?_) (fun b1=>pieceB_wp (fun h=>fin _ ?_) (fun b2=>pieceB_wp (fun h=>fin _ ?_) (fun b3=>fin _ ?_))))
  all_goals(unfold M.checkSample;simp only[a,cond_true,first_cons])
  ·rw[if_neg h]
  ·rw[b0,if_pos rfl,if_neg h]
  ·rw[b0,b1,if_pos rfl,if_pos rfl,if_neg h]
  ·rw[b0,b1,b2,if_pos rfl,if_pos rfl,if_pos rfl,if_neg h]
  ·rw[b0,b1,b2,b3,if_pos rfl,if_pos rfl,if_pos rfl,if_pos rfl];rfl
def dom49:DomF
 |[.agg [.int .i64 sv,.int .i64 l0,.int .i64 h0,.int .i64 l1,.int .i64 h1,.int .i64 l2,.int .i64 h2,.int .i64 l3,.int .i64 h3]]=>some ([],[rI (M.checkSample ⟨sv,⟨l0,h0⟩,⟨l1,h1⟩,⟨l2,h2⟩,⟨l3,h3⟩⟩)])
 |_=>none
def v49:Nat×Sm:=(32,fokSm dom49)
theorem C49:FOK Tryd.prog G0 gw 32 dom49:=by
 intro ags p r hd hp κ w xs hw hl hG hx
 unfold dom49 at hd
 split at hd
 ·rename_i sv l0 h0 l1 h1 l2 h2 l3 h3
  simp only[Option.some.injEq,Prod.mk.injEq]at hd
  obtain⟨rfl,rfl⟩:=hd
  have heq:agsEqv [.agg [.int .i64 sv,.int .i64 l0,.int .i64 h0,.int .i64 l1,.int .i64 h1,.int .i64 l2,.int .i64 h2,.int .i64 l3,.int .i64 h3]] [.agg [.int .i64 sv,.int .i64 l0,.int .i64 h0,.int .i64 l1,.int .i64 h1,.int .i64 l2,.int .i64 h2,.int .i64 l3,.int .i64 h3]]:=⟨Ag.eqv_refl _,trivial⟩
  exact fokX_fin mixed gw_stable (sl:=[v64,v80,v95,v102]) ⟨S64,S80,S95,S102,trivial⟩ Tryd.func32 hw hl hG hx heq rfl (t49 sv l0 h0 l1 h1 l2 h2 l3 h3) (w49 sv l0 h0 l1 h1 l2 h2 l3 h3)
 ·cases hd
theorem S49:SumOK Tryd.prog G0 gw 32 (fokSm dom49):=fok_sum Tryd.func32 rfl C49
theorem t65(q_l:Bool)(l:List Cask):runFnX Tryd.prog G0 (lookS [v64,v80,v47]) (fun _=>[]) [] 1 40 3 31 Tryd.f31 [.c (.sl q_l l.length 7 (eC.F l))] =
  T.need (eC.Is l.length (eC.F l)) (T.need (∀c,c∈eC.list l.length (eC.F l)→c.nm.size≤1000000) (T.ret [rI (M.first [(M.checkCasks (eC.list l.length (eC.F l))).2,M.unl (decide ((l.length:Int)≤4)) 8])])):=by kernel_rfl
def dom65:DomF
 |[.c (.sl _ n_l st_l F_l)]=>(match Nat.beq st_l 7 with
  |true=>some ([eC.Is n_l F_l,∀c,c∈(eC.list n_l F_l)→c.nm.size≤1000000],[rI (M.casksErr (eC.list n_l F_l))])
  |_=>none)
 |_=>none
def v65:Nat×Sm:=(31,fokSm dom65)
theorem C65:FOK Tryd.prog G0 gw 31 dom65:=by
 intro ags p r hd hp κ w xs hw hl hG hx
 unfold dom65 at hd
 split at hd
 ·rename_i q_l n_l st_l F_l
  split at hd
  ·rename_i hst
   have g1:=hst
   have g1:=Nat.eq_of_beq_eq_true g1
   subst g1
   simp only[Option.some.injEq,Prod.mk.injEq]at hd
   obtain⟨rfl,rfl⟩:=hd
   obtain⟨hI_l,hp⟩:=hp
   have heq:agsEqv [.c (.sl q_l n_l 7 F_l)] [.c (.sl q_l (eC.list n_l F_l).length 7 (eC.F (eC.list n_l F_l)))]:=⟨eC.to id hI_l,trivial⟩
   have len_l:(eC.list n_l F_l).length=n_l:=eC.list_len
   generalize eC.list n_l F_l=l at *
   subst len_l
   exact fokX_fin mixed gw_stable (sl:=[v64,v80,v47]) ⟨S64,S80,S47,trivial⟩ Tryd.func31 hw hl hG hx heq rfl (t65 q_l l) ((by rw[Enc.list_F];exact⟨Enc.is_F _ _ _,hp.1,rsEqv_refl _⟩))
  ·cases hd
 ·cases hd
theorem S65:SumOK Tryd.prog G0 gw 31 (fokSm dom65):=fok_sum Tryd.func31 rfl C65
theorem t31(q_l:Bool)(l:List Cask):runFnX Tryd.prog G0 (lookS [v48]) (fun _=>[]) [] 1 40 3 6 Tryd.f6 [.c (.sl q_l l.length 7 (eC.F l))] =
  T.need (eC.Is l.length (eC.F l)) (T.need (∀c,c∈eC.list l.length (eC.F l)→c.nm.size≤1000000) (T.ret [rI (M.checkCasks (eC.list l.length (eC.F l))).2])):=by kernel_rfl
def dom31:DomF
 |[.c (.sl _ n_l st_l F_l)]=>(match Nat.beq st_l 7 with
  |true=>some ([eC.Is n_l F_l,∀c,c∈(eC.list n_l F_l)→c.nm.size≤1000000],[rI (M.wholeErr (eC.list n_l F_l))])
  |_=>none)
 |_=>none
theorem C31:FOK Tryd.prog G0 gw 6 dom31:=by
 intro ags p r hd hp κ w xs hw hl hG hx
 unfold dom31 at hd
 split at hd
 ·rename_i q_l n_l st_l F_l
  split at hd
  ·rename_i hst
   have g1:=hst
   have g1:=Nat.eq_of_beq_eq_true g1
   subst g1
   simp only[Option.some.injEq,Prod.mk.injEq]at hd
   obtain⟨rfl,rfl⟩:=hd
   obtain⟨hI_l,hp⟩:=hp
   have heq:agsEqv [.c (.sl q_l n_l 7 F_l)] [.c (.sl q_l (eC.list n_l F_l).length 7 (eC.F (eC.list n_l F_l)))]:=⟨eC.to id hI_l,trivial⟩
   have len_l:(eC.list n_l F_l).length=n_l:=eC.list_len
   generalize eC.list n_l F_l=l at *
   subst len_l
   exact fokX_fin mixed gw_stable (sl:=[v48]) ⟨S48,trivial⟩ Tryd.func6 hw hl hG hx heq rfl (t31 q_l l) ((by rw[Enc.list_F];exact⟨Enc.is_F _ _ _,hp.1,rsEqv_refl _⟩))
  ·cases hd
 ·cases hd
theorem S31:SumOK Tryd.prog G0 gw 6 (fokSm dom31):=fok_sum Tryd.func6 rfl C31
theorem t84(q_l:Bool)(l:List Cask)(den:Int)(q_ps:Bool)(ps:List Int)(sv l0 h0 l1 h1 l2 h2 l3 h3:Int):runFnX Tryd.prog G0 (lookS [v85,v97]) (fun _=>[(1000015,[],none),(3000014,[],none),(3000035,[],none),(3000019,[],none)]) [] 1 40 3 67 Tryd.f67 [.agg [.sl q_l l.length 7 (eC.F l),dI den,.sl q_ps ps.length 1 (eI.F ps)],.agg [dI sv,dI l0,dI h0,dI l1,dI h1,dI l2,dI h2,dI l3,dI h3]] =
  T.needs [eC.Is l.length (eC.F l),eI.Is ps.length (eI.F ps),ps.length≤l.length,ps.length≤1000,eC.Is l.length (eC.F l),eI.Is ps.length (eI.F ps),ps.length≤l.length,ps.length≤1000,eC.Is l.length (eC.F l),eI.Is ps.length (eI.F ps),ps.length≤l.length,ps.length≤1000,eC.Is l.length (eC.F l),eI.Is ps.length (eI.F ps),ps.length≤l.length,ps.length≤1000,eC.Is l.length (eC.F l),eI.Is ps.length (eI.F ps),ps.length≤l.length,ps.length≤1000] (T.ret [rI (M.away (eC.list l.length (eC.F l)) (eI.list ps.length (eI.F ps)) ⟨sv,⟨l0,h0⟩,⟨l1,h1⟩,⟨l2,h2⟩,⟨l3,h3⟩⟩)]):=by kernel_rfl
def dom84:DomF
 |[.agg [.sl _ n_l st_l F_l,.int .i64 den,.sl _ n_ps st_ps F_ps],.agg [.int .i64 sv,.int .i64 l0,.int .i64 h0,.int .i64 l1,.int .i64 h1,.int .i64 l2,.int .i64 h2,.int .i64 l3,.int .i64 h3]]=>(match Nat.beq st_l 7&&Nat.beq st_ps 1 with
  |true=>some ([eC.Is n_l F_l,eI.Is n_ps F_ps,(eI.list n_ps F_ps).length≤(eC.list n_l F_l).length,(eI.list n_ps F_ps).length≤1000],[rI (M.away (eC.list n_l F_l) (eI.list n_ps F_ps) ⟨sv,⟨l0,h0⟩,⟨l1,h1⟩,⟨l2,h2⟩,⟨l3,h3⟩⟩)])
  |_=>none)
 |_=>none
def v84:Nat×Sm:=(67,fokSm dom84)
theorem C84:FOK Tryd.prog G0 gw 67 dom84:=by
 intro ags p r hd hp κ w xs hw hl hG hx
 unfold dom84 at hd
 split at hd
 ·rename_i q_l n_l st_l F_l den q_ps n_ps st_ps F_ps sv l0 h0 l1 h1 l2 h2 l3 h3
  split at hd
  ·rename_i hst
   simp only[Bool.and_eq_true]at hst
   obtain⟨g1,g2⟩:=hst
   have g1:=Nat.eq_of_beq_eq_true g1
   have g2:=Nat.eq_of_beq_eq_true g2
   subst g1 g2
   simp only[Option.some.injEq,Prod.mk.injEq]at hd
   obtain⟨rfl,rfl⟩:=hd
   obtain⟨hI_l,hI_ps,hp⟩:=hp
   have heq:agsEqv [.agg [.sl q_l n_l 7 F_l,.int .i64 den,.sl q_ps n_ps 1 F_ps],.agg [.int .i64 sv,.int .i64 l0,.int .i64 h0,.int .i64 l1,.int .i64 h1,.int .i64 l2,.int .i64 h2,.int .i64 l3,.int .i64 h3]] [.agg [.sl q_l (eC.list n_l F_l).length 7 (eC.F (eC.list n_l F_l)),.int .i64 den,.sl q_ps (eI.list n_ps F_ps).length 1 (eI.F (eI.list n_ps F_ps))],.agg [.int .i64 sv,.int .i64 l0,.int .i64 h0,.int .i64 l1,.int .i64 h1,.int .i64 l2,.int .i64 h2,.int .i64 l3,.int .i64 h3]]:=⟨⟨eC.to id hI_l,rfl,eI.to id hI_ps,trivial⟩,Ag.eqv_refl _,trivial⟩
   have len_l:(eC.list n_l F_l).length=n_l:=eC.list_len
   have len_ps:(eI.list n_ps F_ps).length=n_ps:=eI.list_len
   generalize eC.list n_l F_l=l at *
   generalize eI.list n_ps F_ps=ps at *
   subst len_l len_ps
   have c1:=Enc.is_F eC l l.length
   have c2:=Enc.is_F eI ps ps.length
   obtain⟨c3,c4,_⟩:=hp
   exact fokX_fin mixed gw_stable (sl:=[v85,v97]) ⟨S85,S97,trivial⟩ Tryd.func67 hw hl hG hx heq rfl (t84 q_l l den q_ps ps sv l0 h0 l1 h1 l2 h2 l3 h3) ((by rw[Enc.list_F,Enc.list_F];exact⟨c1,c2,c3,c4,c1,c2,c3,c4,c1,c2,c3,c4,c1,c2,c3,c4,c1,c2,c3,c4,rsEqv_refl _⟩))
  ·cases hd
 ·cases hd
theorem S84:SumOK Tryd.prog G0 gw 67 (fokSm dom84):=fok_sum Tryd.func67 rfl C84
end Go.Bl
end
section
set_option maxRecDepth 100000
namespace Go.Bl
open Go.V Go.Proofs
structure BestR where
 c0:Int
 c1:Int
 den:Int
 pt:List Int
 w:Wts
 e:Int
namespace M
def zeroW:Wts:=⟨0,0,0,0,0,0,0,0,0,0,[]⟩
def pBest(l:List Cask)(s:Sample):Option Corner:=psolve (shares l 0) s.vol (costs l) (limits l s 0)
def wtsOf(x:Corner)(n:Nat):Wts:=weights x.wd x.each x.tight x.by_ n
def bestC(l:List Cask)(x:Corner):BestR:=⟨told1 (sumP Cask.cost l x.pt) x.den,told2 (sumP Cask.cost l x.pt) x.den,x.den,x.pt,wtsOf x l.length,0⟩
def best(l:List Cask)(s:Sample):BestR:=
 cond (taskErr l s != 0) ⟨0,0,0,[],zeroW,taskErr l s⟩ (match pBest l s with|some x=>bestC l x|none=>⟨0,0,0,[],zeroW,12⟩)
end M
def resB(b:BestR):List Ar:=[.agg [dI b.c0,dI b.c1,dI b.den,dL b.pt,dI b.w.den,dI b.w.each,dI b.w.x0,dI b.w.x1,dI b.w.x2,dI b.w.x3,dI b.w.y0,dI b.w.y1,dI b.w.y2,dI b.w.y3,dL b.w.casks],rI b.e]
def CornerOK(l:List Cask)(n:Nat)(x:M.Corner):Prop:=
 x.pt.length≤n∧x.den≠0∧i64ok x.den∧x.tight.length≤x.by_.length∧x.tight.length≤1000∧WhichOK l.length x.tight
def BestOK(l:List Cask)(s:Sample):Prop:=M.taskErr l s=0→1≤l.length∧l.length≤4∧(∀c,c∈M.limits l s 0→c.coefs.length=(M.shares l 0).length)∧TurnOK (M.shares l 0) (M.limits l s 0) ∧
 ∀x,M.pBest l s=some x→CornerOK l l.length x∧i64ok (M.sumP Cask.cost l x.pt)
theorem shares_len(l:List Cask)(k:Nat):(M.shares l k).length=l.length+k:=by simp[M.shares]
theorem costs_len(l:List Cask):(M.costs l).length=l.length:=by simp[M.costs]
theorem limits_len(l:List Cask)(s:Sample)(k:Nat):(M.limits l s k).length=2*l.length+k+8:=by
 simp only[M.limits,List.length_append,List.length_map,List.length_range]
 have:((List.range 4).flatMap fun(k':Nat)=>[(⟨2,k',M.by_ l (l.length+k) fun c=>IntKind.i64.wrap (M.val c k'-(M.rg s k').hi),0⟩:Cond),⟨3,k',M.by_ l (l.length+k) fun c=>IntKind.i64.wrap ((M.rg s k').lo-M.val c k'),0⟩]).length=8:=rfl
 rw[this];omega
def P20(LL:List Cask)(SS:Sample):Option M.Corner:=(M.psolve (Enc.list eI (List.length (M.shares LL (0:Nat))) (Enc.F eI (M.shares LL (0:Nat)))) (Sample.vol SS) (Enc.list eI (List.length (M.costs LL)) (Enc.F eI (M.costs LL))) (Enc.list eK (List.length (M.limits LL SS (0:Nat))) (Enc.F eK (M.limits LL SS (0:Nat)))))
def tr20(l:List Cask)(s:Sample):T (List Ar):=
  T.need (Enc.Is eC l.length (Enc.F eC l)) (T.need (∀(c:Cask),c∈(Enc.list eC l.length (Enc.F eC l))→ByteArray.size (Cask.nm c)≤1000000) (T.br (M.first [M.casksErr (Enc.list eC l.length (Enc.F eC l)),M.checkSample s] != (0:Int)) (T.ret [Ar.agg [D.int IntKind.i64 (0:Int),D.int IntKind.i64 (0:Int),D.int IntKind.i64 (0:Int),D.sl false (0:Nat) (0:Nat) fun(x x_1:Nat)=>D.nilp,D.int IntKind.i64 (0:Int),D.int IntKind.i64 (0:Int),D.int IntKind.i64 (0:Int),D.int IntKind.i64 (0:Int),D.int IntKind.i64 (0:Int),D.int IntKind.i64 (0:Int),D.int IntKind.i64 (0:Int),D.int IntKind.i64 (0:Int),D.int IntKind.i64 (0:Int),D.int IntKind.i64 (0:Int),D.sl false (0:Nat) (0:Nat) fun(x x_1:Nat)=>D.nilp],Ar.c (D.int IntKind.i64 (M.first [M.casksErr (Enc.list eC l.length (Enc.F eC l)),M.checkSample s]))]) (T.needs [Enc.Is eC l.length (Enc.F eC l),(1:Nat)≤l.length,l.length≤4,Enc.Is eI (List.length (M.shares (Enc.list eC l.length (Enc.F eC l)) (0:Nat))) (Enc.F eI (M.shares (Enc.list eC l.length (Enc.F eC l)) (0:Nat))),Enc.Is eI (List.length (M.costs (Enc.list eC l.length (Enc.F eC l)))) (Enc.F eI (M.costs (Enc.list eC l.length (Enc.F eC l)))),Enc.Is eK (List.length (M.limits (Enc.list eC l.length (Enc.F eC l)) s (0:Nat))) (Enc.F eK (M.limits (Enc.list eC l.length (Enc.F eC l)) s (0:Nat))),(1:Nat)≤List.length (M.shares (Enc.list eC l.length (Enc.F eC l)) (0:Nat)),List.length (M.shares (Enc.list eC l.length (Enc.F eC l)) (0:Nat))≤5,List.length (M.shares (Enc.list eC l.length (Enc.F eC l)) (0:Nat))=List.length (M.costs (Enc.list eC l.length (Enc.F eC l))),List.length (M.limits (Enc.list eC l.length (Enc.F eC l)) s (0:Nat))≤1000,(∀(c:Cond),c∈Enc.list eK (List.length (M.limits (Enc.list eC l.length (Enc.F eC l)) s (0:Nat))) (Enc.F eK (M.limits (Enc.list eC l.length (Enc.F eC l)) s (0:Nat)))→List.length (Cond.coefs c)=List.length (M.shares (Enc.list eC l.length (Enc.F eC l)) (0:Nat))),(∀(set:List Cond),set.length+1=List.length (Enc.list eI (List.length (M.shares (Enc.list eC l.length (Enc.F eC l)) (0:Nat))) (Enc.F eI (M.shares (Enc.list eC l.length (Enc.F eC l)) (0:Nat))))→(∀(c:Cond),c∈set→c∈Enc.list eK (List.length (M.limits (Enc.list eC l.length (Enc.F eC l)) s (0:Nat))) (Enc.F eK (M.limits (Enc.list eC l.length (Enc.F eC l)) s (0:Nat))))→M.det (M.mat (Enc.list eI (List.length (M.shares (Enc.list eC l.length (Enc.F eC l)) (0:Nat))) (Enc.F eI (M.shares (Enc.list eC l.length (Enc.F eC l)) (0:Nat)))) set)≠(0:Int)→M.det (M.turned (M.mat (Enc.list eI (List.length (M.shares (Enc.list eC l.length (Enc.F eC l)) (0:Nat))) (Enc.F eI (M.shares (Enc.list eC l.length (Enc.F eC l)) (0:Nat)))) set))≠(0:Int))] (T.br (!Option.isSome (P20 (Enc.list eC l.length (Enc.F eC l)) s)) (T.ret [Ar.agg [D.int IntKind.i64 (0:Int),D.int IntKind.i64 (0:Int),D.int IntKind.i64 (0:Int),D.sl false (0:Nat) (0:Nat) fun(x x_1:Nat)=>D.nilp,D.int IntKind.i64 (0:Int),D.int IntKind.i64 (0:Int),D.int IntKind.i64 (0:Int),D.int IntKind.i64 (0:Int),D.int IntKind.i64 (0:Int),D.int IntKind.i64 (0:Int),D.int IntKind.i64 (0:Int),D.int IntKind.i64 (0:Int),D.int IntKind.i64 (0:Int),D.int IntKind.i64 (0:Int),D.sl false (0:Nat) (0:Nat) fun(x x_1:Nat)=>D.nilp],Ar.c (D.int IntKind.i64 (12:Int))]) (T.needs [Enc.Is eC l.length (Enc.F eC l),Enc.Is eI (List.length (M.Corner.pt (cOf (P20 (Enc.list eC l.length (Enc.F eC l)) s)))) (Enc.F eI (M.Corner.pt (cOf (P20 (Enc.list eC l.length (Enc.F eC l)) s)))),List.length (M.Corner.pt (cOf (P20 (Enc.list eC l.length (Enc.F eC l)) s)))≤l.length,List.length (M.Corner.pt (cOf (P20 (Enc.list eC l.length (Enc.F eC l)) s)))≤1000,M.Corner.den (cOf (P20 (Enc.list eC l.length (Enc.F eC l)) s))≠(0:Int),Int.natAbs (M.Corner.den (cOf (P20 (Enc.list eC l.length (Enc.F eC l)) s)))<9223372036854775808,Int.natAbs (M.sumP Cask.cost (Enc.list eC l.length (Enc.F eC l)) (Enc.list eI (List.length (M.Corner.pt (cOf (P20 (Enc.list eC l.length (Enc.F eC l)) s)))) (Enc.F eI (M.Corner.pt (cOf (P20 (Enc.list eC l.length (Enc.F eC l)) s))))))<9223372036854775808,Enc.Is eK (List.length (M.Corner.tight (cOf (P20 (Enc.list eC l.length (Enc.F eC l)) s)))) (Enc.F eK (M.Corner.tight (cOf (P20 (Enc.list eC l.length (Enc.F eC l)) s)))),Enc.Is eI (List.length (M.Corner.by_ (cOf (P20 (Enc.list eC l.length (Enc.F eC l)) s)))) (Enc.F eI (M.Corner.by_ (cOf (P20 (Enc.list eC l.length (Enc.F eC l)) s)))),(0:Int)≤(l.length:Int),(l.length:Int)≤1000,List.length (M.Corner.tight (cOf (P20 (Enc.list eC l.length (Enc.F eC l)) s)))≤List.length (M.Corner.by_ (cOf (P20 (Enc.list eC l.length (Enc.F eC l)) s))),List.length (M.Corner.tight (cOf (P20 (Enc.list eC l.length (Enc.F eC l)) s)))≤1000,(∀(c:Cond),c∈Enc.list eK (List.length (M.Corner.tight (cOf (P20 (Enc.list eC l.length (Enc.F eC l)) s)))) (Enc.F eK (M.Corner.tight (cOf (P20 (Enc.list eC l.length (Enc.F eC l)) s))))→(0:Int)≤Cond.which c∧(Cond.kind c=1→Cond.which c<(l.length:Int))∧(Cond.kind c≠(1:Int)→Cond.kind c≠(0:Int)→Cond.which c<4))] (T.ret [Ar.agg [D.int IntKind.i64 (M.told1 (M.sumP (fun(self:Cask)=>self.3) (Enc.list eC l.length (Enc.F eC l)) (Enc.list eI (List.length (M.Corner.pt (cOf (P20 (Enc.list eC l.length (Enc.F eC l)) s)))) (Enc.F eI (M.Corner.pt (cOf (P20 (Enc.list eC l.length (Enc.F eC l)) s)))))) (M.Corner.den (cOf (P20 (Enc.list eC l.length (Enc.F eC l)) s)))),D.int IntKind.i64 (M.told2 (M.sumP (fun(self:Cask)=>self.3) (Enc.list eC l.length (Enc.F eC l)) (Enc.list eI (List.length (M.Corner.pt (cOf (P20 (Enc.list eC l.length (Enc.F eC l)) s)))) (Enc.F eI (M.Corner.pt (cOf (P20 (Enc.list eC l.length (Enc.F eC l)) s)))))) (M.Corner.den (cOf (P20 (Enc.list eC l.length (Enc.F eC l)) s)))),D.int IntKind.i64 (M.Corner.den (cOf (P20 (Enc.list eC l.length (Enc.F eC l)) s))),D.sl false (List.length (M.Corner.pt (cOf (P20 (Enc.list eC l.length (Enc.F eC l)) s)))) (1:Nat) (Enc.F eI (M.Corner.pt (cOf (P20 (Enc.list eC l.length (Enc.F eC l)) s)))),D.int IntKind.i64 (M.weights (M.Corner.wd (cOf (P20 (Enc.list eC l.length (Enc.F eC l)) s))) (M.Corner.each (cOf (P20 (Enc.list eC l.length (Enc.F eC l)) s))) (Enc.list eK (List.length (M.Corner.tight (cOf (P20 (Enc.list eC l.length (Enc.F eC l)) s)))) (Enc.F eK (M.Corner.tight (cOf (P20 (Enc.list eC l.length (Enc.F eC l)) s))))) (Enc.list eI (List.length (M.Corner.by_ (cOf (P20 (Enc.list eC l.length (Enc.F eC l)) s)))) (Enc.F eI (M.Corner.by_ (cOf (P20 (Enc.list eC l.length (Enc.F eC l)) s))))) (Int.toNat (l.length:Int))).1,D.int IntKind.i64 (M.weights (M.Corner.wd (cOf (P20 (Enc.list eC l.length (Enc.F eC l)) s))) (M.Corner.each (cOf (P20 (Enc.list eC l.length (Enc.F eC l)) s))) (Enc.list eK (List.length (M.Corner.tight (cOf (P20 (Enc.list eC l.length (Enc.F eC l)) s)))) (Enc.F eK (M.Corner.tight (cOf (P20 (Enc.list eC l.length (Enc.F eC l)) s))))) (Enc.list eI (List.length (M.Corner.by_ (cOf (P20 (Enc.list eC l.length (Enc.F eC l)) s)))) (Enc.F eI (M.Corner.by_ (cOf (P20 (Enc.list eC l.length (Enc.F eC l)) s))))) (Int.toNat (l.length:Int))).2,D.int IntKind.i64 (M.weights (M.Corner.wd (cOf (P20 (Enc.list eC l.length (Enc.F eC l)) s))) (M.Corner.each (cOf (P20 (Enc.list eC l.length (Enc.F eC l)) s))) (Enc.list eK (List.length (M.Corner.tight (cOf (P20 (Enc.list eC l.length (Enc.F eC l)) s)))) (Enc.F eK (M.Corner.tight (cOf (P20 (Enc.list eC l.length (Enc.F eC l)) s))))) (Enc.list eI (List.length (M.Corner.by_ (cOf (P20 (Enc.list eC l.length (Enc.F eC l)) s)))) (Enc.F eI (M.Corner.by_ (cOf (P20 (Enc.list eC l.length (Enc.F eC l)) s))))) (Int.toNat (l.length:Int))).3,D.int IntKind.i64 (M.weights (M.Corner.wd (cOf (P20 (Enc.list eC l.length (Enc.F eC l)) s))) (M.Corner.each (cOf (P20 (Enc.list eC l.length (Enc.F eC l)) s))) (Enc.list eK (List.length (M.Corner.tight (cOf (P20 (Enc.list eC l.length (Enc.F eC l)) s)))) (Enc.F eK (M.Corner.tight (cOf (P20 (Enc.list eC l.length (Enc.F eC l)) s))))) (Enc.list eI (List.length (M.Corner.by_ (cOf (P20 (Enc.list eC l.length (Enc.F eC l)) s)))) (Enc.F eI (M.Corner.by_ (cOf (P20 (Enc.list eC l.length (Enc.F eC l)) s))))) (Int.toNat (l.length:Int))).4,D.int IntKind.i64 (M.weights (M.Corner.wd (cOf (P20 (Enc.list eC l.length (Enc.F eC l)) s))) (M.Corner.each (cOf (P20 (Enc.list eC l.length (Enc.F eC l)) s))) (Enc.list eK (List.length (M.Corner.tight (cOf (P20 (Enc.list eC l.length (Enc.F eC l)) s)))) (Enc.F eK (M.Corner.tight (cOf (P20 (Enc.list eC l.length (Enc.F eC l)) s))))) (Enc.list eI (List.length (M.Corner.by_ (cOf (P20 (Enc.list eC l.length (Enc.F eC l)) s)))) (Enc.F eI (M.Corner.by_ (cOf (P20 (Enc.list eC l.length (Enc.F eC l)) s))))) (Int.toNat (l.length:Int))).5,D.int IntKind.i64 (M.weights (M.Corner.wd (cOf (P20 (Enc.list eC l.length (Enc.F eC l)) s))) (M.Corner.each (cOf (P20 (Enc.list eC l.length (Enc.F eC l)) s))) (Enc.list eK (List.length (M.Corner.tight (cOf (P20 (Enc.list eC l.length (Enc.F eC l)) s)))) (Enc.F eK (M.Corner.tight (cOf (P20 (Enc.list eC l.length (Enc.F eC l)) s))))) (Enc.list eI (List.length (M.Corner.by_ (cOf (P20 (Enc.list eC l.length (Enc.F eC l)) s)))) (Enc.F eI (M.Corner.by_ (cOf (P20 (Enc.list eC l.length (Enc.F eC l)) s))))) (Int.toNat (l.length:Int))).6,D.int IntKind.i64 (M.weights (M.Corner.wd (cOf (P20 (Enc.list eC l.length (Enc.F eC l)) s))) (M.Corner.each (cOf (P20 (Enc.list eC l.length (Enc.F eC l)) s))) (Enc.list eK (List.length (M.Corner.tight (cOf (P20 (Enc.list eC l.length (Enc.F eC l)) s)))) (Enc.F eK (M.Corner.tight (cOf (P20 (Enc.list eC l.length (Enc.F eC l)) s))))) (Enc.list eI (List.length (M.Corner.by_ (cOf (P20 (Enc.list eC l.length (Enc.F eC l)) s)))) (Enc.F eI (M.Corner.by_ (cOf (P20 (Enc.list eC l.length (Enc.F eC l)) s))))) (Int.toNat (l.length:Int))).7,D.int IntKind.i64 (M.weights (M.Corner.wd (cOf (P20 (Enc.list eC l.length (Enc.F eC l)) s))) (M.Corner.each (cOf (P20 (Enc.list eC l.length (Enc.F eC l)) s))) (Enc.list eK (List.length (M.Corner.tight (cOf (P20 (Enc.list eC l.length (Enc.F eC l)) s)))) (Enc.F eK (M.Corner.tight (cOf (P20 (Enc.list eC l.length (Enc.F eC l)) s))))) (Enc.list eI (List.length (M.Corner.by_ (cOf (P20 (Enc.list eC l.length (Enc.F eC l)) s)))) (Enc.F eI (M.Corner.by_ (cOf (P20 (Enc.list eC l.length (Enc.F eC l)) s))))) (Int.toNat (l.length:Int))).8,D.int IntKind.i64 (M.weights (M.Corner.wd (cOf (P20 (Enc.list eC l.length (Enc.F eC l)) s))) (M.Corner.each (cOf (P20 (Enc.list eC l.length (Enc.F eC l)) s))) (Enc.list eK (List.length (M.Corner.tight (cOf (P20 (Enc.list eC l.length (Enc.F eC l)) s)))) (Enc.F eK (M.Corner.tight (cOf (P20 (Enc.list eC l.length (Enc.F eC l)) s))))) (Enc.list eI (List.length (M.Corner.by_ (cOf (P20 (Enc.list eC l.length (Enc.F eC l)) s)))) (Enc.F eI (M.Corner.by_ (cOf (P20 (Enc.list eC l.length (Enc.F eC l)) s))))) (Int.toNat (l.length:Int))).9,D.int IntKind.i64 (M.weights (M.Corner.wd (cOf (P20 (Enc.list eC l.length (Enc.F eC l)) s))) (M.Corner.each (cOf (P20 (Enc.list eC l.length (Enc.F eC l)) s))) (Enc.list eK (List.length (M.Corner.tight (cOf (P20 (Enc.list eC l.length (Enc.F eC l)) s)))) (Enc.F eK (M.Corner.tight (cOf (P20 (Enc.list eC l.length (Enc.F eC l)) s))))) (Enc.list eI (List.length (M.Corner.by_ (cOf (P20 (Enc.list eC l.length (Enc.F eC l)) s)))) (Enc.F eI (M.Corner.by_ (cOf (P20 (Enc.list eC l.length (Enc.F eC l)) s))))) (Int.toNat (l.length:Int))).10,D.sl false (List.length (M.weights (M.Corner.wd (cOf (P20 (Enc.list eC l.length (Enc.F eC l)) s))) (M.Corner.each (cOf (P20 (Enc.list eC l.length (Enc.F eC l)) s))) (Enc.list eK (List.length (M.Corner.tight (cOf (P20 (Enc.list eC l.length (Enc.F eC l)) s)))) (Enc.F eK (M.Corner.tight (cOf (P20 (Enc.list eC l.length (Enc.F eC l)) s))))) (Enc.list eI (List.length (M.Corner.by_ (cOf (P20 (Enc.list eC l.length (Enc.F eC l)) s)))) (Enc.F eI (M.Corner.by_ (cOf (P20 (Enc.list eC l.length (Enc.F eC l)) s))))) (Int.toNat (l.length:Int))).11) (1:Nat) (Enc.F eI (M.weights (M.Corner.wd (cOf (P20 (Enc.list eC l.length (Enc.F eC l)) s))) (M.Corner.each (cOf (P20 (Enc.list eC l.length (Enc.F eC l)) s))) (Enc.list eK (List.length (M.Corner.tight (cOf (P20 (Enc.list eC l.length (Enc.F eC l)) s)))) (Enc.F eK (M.Corner.tight (cOf (P20 (Enc.list eC l.length (Enc.F eC l)) s))))) (Enc.list eI (List.length (M.Corner.by_ (cOf (P20 (Enc.list eC l.length (Enc.F eC l)) s)))) (Enc.F eI (M.Corner.by_ (cOf (P20 (Enc.list eC l.length (Enc.F eC l)) s))))) (Int.toNat (l.length:Int))).11)],Ar.c (D.int IntKind.i64 (0:Int))]))))))
theorem t20(q_l:Bool)(l:List Cask)(sv l0 h0 l1 h1 l2 h2 l3 h3:Int):runFnX Tryd.prog G0 (lookS [v65,v49,v64,v66,v67,v68,v69]) (fun _=>[]) [] 1 40 3 12 Tryd.f12 [.c (.sl q_l l.length 7 (eC.F l)),.agg [dI sv,dI l0,dI h0,dI l1,dI h1,dI l2,dI h2,dI l3,dI h3]] =
  tr20 l (⟨sv,⟨l0,h0⟩,⟨l1,h1⟩,⟨l2,h2⟩,⟨l3,h3⟩⟩:Sample):=by kernel_rfl
theorem w20(l:List Cask)(s:Sample)(hn:∀c,c∈l→c.nm.size≤1000000)(h:BestOK l s):(tr20 l s).wp (fun rs=>rsEqv rs (resB (M.best l s))):=by
 have hP:P20 l s=M.pBest l s:=by unfold P20 M.pBest;simp only[Enc.list_F]
 have z0:(nilD).eqv (dL []):=⟨(fun e=>by cases e),rfl,(fun h=>absurd h (Nat.lt_irrefl 0)),fun i j hi=>absurd hi (Nat.not_lt_zero i)⟩
 unfold tr20
 simp only[Enc.list_F,hP]
 refine⟨Enc.is_F _ _ _,hn,wp_br (fun hb=>?_) (fun hb=>?_)⟩
 ·have:M.best l s=⟨0,0,0,[],M.zeroW,M.taskErr l s⟩:=by
   unfold M.best;rw[show(M.taskErr l s != 0)=true from hb];rfl
  rw[this]
  exact⟨⟨rfl,rfl,rfl,z0,rfl,rfl,rfl,rfl,rfl,rfl,rfl,rfl,rfl,rfl,z0,trivial⟩,rfl,trivial⟩
 ·have hb':(M.taskErr l s != 0)=false:=hb
  have he:M.taskErr l s=0:=by simpa using hb'
  obtain⟨h1,h4,hco,htd,hx⟩:=h he
  have hbest:M.best l s=(match M.pBest l s with|some x=>M.bestC l x|none=>⟨0,0,0,[],M.zeroW,12⟩):=by
   unfold M.best;rw[hb'];rfl
  rw[hbest]
  refine⟨Enc.is_F _ _ _,h1,h4,Enc.is_F _ _ _,Enc.is_F _ _ _,Enc.is_F _ _ _,by rw[shares_len];omega,by rw[shares_len];omega,by rw[shares_len,costs_len];omega,by rw[limits_len];omega,hco,htd,?_⟩
  cases hp:M.pBest l s with
  |none=>
   refine⟨fun _=>?_,(fun h=>(by cases h))⟩
   exact⟨⟨rfl,rfl,rfl,z0,rfl,rfl,rfl,rfl,rfl,rfl,rfl,rfl,rfl,rfl,z0,trivial⟩,rfl,trivial⟩
  |some x=>
   obtain⟨⟨c1,c2,c3,c4,c5,c6⟩,c7⟩:=hx x hp
   refine⟨(fun h=>(by cases h)),fun _=>?_⟩
   refine⟨Enc.is_F _ _ _,Enc.is_F _ _ _,c1,Nat.le_trans c1 (by omega),c2,c3,c7,Enc.is_F _ _ _,Enc.is_F _ _ _,by omega,by omega,c4,c5,c6,?_⟩
   exact⟨⟨rfl,rfl,rfl,D.eqv_refl _,rfl,rfl,rfl,rfl,rfl,rfl,rfl,rfl,rfl,rfl,D.eqv_refl _,trivial⟩,rfl,trivial⟩
def dom20:DomF
 |[.c (.sl _ n_l st_l F_l),.agg [.int .i64 sv,.int .i64 l0,.int .i64 h0,.int .i64 l1,.int .i64 h1,.int .i64 l2,.int .i64 h2,.int .i64 l3,.int .i64 h3]]=>(match Nat.beq st_l 7 with
  |true=>some ([eC.Is n_l F_l,∀c,c∈(eC.list n_l F_l)→c.nm.size≤1000000,BestOK (eC.list n_l F_l) ⟨sv,⟨l0,h0⟩,⟨l1,h1⟩,⟨l2,h2⟩,⟨l3,h3⟩⟩],resB (M.best (eC.list n_l F_l) ⟨sv,⟨l0,h0⟩,⟨l1,h1⟩,⟨l2,h2⟩,⟨l3,h3⟩⟩))
  |_=>none)
 |_=>none
theorem C20:FOK Tryd.prog G0 gw 12 dom20:=by
 intro ags p r hd hp κ w xs hw hl hG hx
 unfold dom20 at hd
 split at hd
 ·rename_i q_l n_l st_l F_l sv l0 h0 l1 h1 l2 h2 l3 h3
  split at hd
  ·rename_i hst
   have g1:=hst
   have g1:=Nat.eq_of_beq_eq_true g1
   subst g1
   simp only[Option.some.injEq,Prod.mk.injEq]at hd
   obtain⟨rfl,rfl⟩:=hd
   obtain⟨hI_l,hp⟩:=hp
   have heq:agsEqv [.c (.sl q_l n_l 7 F_l),.agg [.int .i64 sv,.int .i64 l0,.int .i64 h0,.int .i64 l1,.int .i64 h1,.int .i64 l2,.int .i64 h2,.int .i64 l3,.int .i64 h3]] [.c (.sl q_l (eC.list n_l F_l).length 7 (eC.F (eC.list n_l F_l))),.agg [.int .i64 sv,.int .i64 l0,.int .i64 h0,.int .i64 l1,.int .i64 h1,.int .i64 l2,.int .i64 h2,.int .i64 l3,.int .i64 h3]]:=⟨eC.to id hI_l,Ag.eqv_refl _,trivial⟩
   have len_l:(eC.list n_l F_l).length=n_l:=eC.list_len
   generalize eC.list n_l F_l=l at *
   subst len_l
   exact fokX_fin mixed gw_stable (sl:=[v65,v49,v64,v66,v67,v68,v69]) ⟨S65,S49,S64,S66,S67,S68,S69,trivial⟩ Tryd.func12 hw hl hG hx heq rfl (t20 q_l l sv l0 h0 l1 h1 l2 h2 l3 h3) (w20 l _ hp.1 hp.2.1)
  ·cases hd
 ·cases hd
end Go.Bl
end
section
namespace Go.Bl
open Go.V Go.Proofs
def exC:List Cask:=[⟨⟨#[100,114,121]⟩,100,10,0,0,0,0⟩,⟨⟨#[115,119,101,101,116]⟩,100,30,100,0,0,0⟩,⟨⟨#[114,105,99,104]⟩,50,20,200,0,0,0⟩]
def exS(lo hi:Int):Sample:=⟨100,⟨lo,hi⟩,⟨0,1000⟩,⟨0,1000⟩,⟨0,1000⟩⟩
end Go.Bl
end
section
set_option maxRecDepth 100000
namespace Go.Bl
open Go.V Go.Proofs
namespace M
def meets(l:List Cask)(ps:List Int)(s:Sample):Int:=first [unl (decide (sumP (fun _=>1) l ps≥s.vol)) 14,unl (decide (away l ps s≤0)) 13]
def listErrAt(n:Nat)(cs:List Int)(i:Nat):Int:=first [unl (within (cs.getD i 0) 0 ((n:Int)-1)) 6,unl (cond (Nat.beq i 0) true (decide (cs.getD i 0>cs.getD (i-1) 0))) 9]
def listFrom(n:Nat)(cs:List Int):Nat→Nat→Int
 |0,_=>0
 |k+1,i=>cond (listErrAt n cs i != 0) (listErrAt n cs i) (listFrom n cs k (i+1))
def listErr(n:Nat)(cs:List Int):Int:=cond (decide (cs.length=0)) 25 (listFrom n cs cs.length 0)
end M
theorem t91(q_l:Bool)(l:List Cask)(den:Int)(q_ps:Bool)(ps:List Int)(sv l0 h0 l1 h1 l2 h2 l3 h3:Int):runFnX Tryd.prog G0 (lookS [v85,v80,v84,v64]) (fun _=>[]) [] 1 40 3 37 Tryd.f37 [.agg [.sl q_l l.length 7 (eC.F l),dI den,.sl q_ps ps.length 1 (eI.F ps)],.agg [dI sv,dI l0,dI h0,dI l1,dI h1,dI l2,dI h2,dI l3,dI h3]] =
  T.needs [eC.Is l.length (eC.F l),eI.Is ps.length (eI.F ps),ps.length≤l.length,ps.length≤1000,eC.Is l.length (eC.F l),eI.Is ps.length (eI.F ps),(eI.list ps.length (eI.F ps)).length≤(eC.list l.length (eC.F l)).length,(eI.list ps.length (eI.F ps)).length≤1000] (T.ret [rI (M.meets (eC.list l.length (eC.F l)) (eI.list ps.length (eI.F ps)) ⟨sv,⟨l0,h0⟩,⟨l1,h1⟩,⟨l2,h2⟩,⟨l3,h3⟩⟩)]):=by kernel_rfl
def dom91:DomF
 |[.agg [.sl _ n_l st_l F_l,.int .i64 den,.sl _ n_ps st_ps F_ps],.agg [.int .i64 sv,.int .i64 l0,.int .i64 h0,.int .i64 l1,.int .i64 h1,.int .i64 l2,.int .i64 h2,.int .i64 l3,.int .i64 h3]]=>(match Nat.beq st_l 7&&Nat.beq st_ps 1 with
  |true=>some ([eC.Is n_l F_l,eI.Is n_ps F_ps,(eI.list n_ps F_ps).length≤(eC.list n_l F_l).length,(eI.list n_ps F_ps).length≤1000],[rI (M.meets (eC.list n_l F_l) (eI.list n_ps F_ps) ⟨sv,⟨l0,h0⟩,⟨l1,h1⟩,⟨l2,h2⟩,⟨l3,h3⟩⟩)])
  |_=>none)
 |_=>none
def v91:Nat×Sm:=(37,fokSm dom91)
theorem C91:FOK Tryd.prog G0 gw 37 dom91:=by
 intro ags p r hd hp κ w xs hw hl hG hx
 unfold dom91 at hd
 split at hd
 ·rename_i q_l n_l st_l F_l den q_ps n_ps st_ps F_ps sv l0 h0 l1 h1 l2 h2 l3 h3
  split at hd
  ·rename_i hst
   simp only[Bool.and_eq_true]at hst
   obtain⟨g1,g2⟩:=hst
   have g1:=Nat.eq_of_beq_eq_true g1
   have g2:=Nat.eq_of_beq_eq_true g2
   subst g1 g2
   simp only[Option.some.injEq,Prod.mk.injEq]at hd
   obtain⟨rfl,rfl⟩:=hd
   obtain⟨hI_l,hI_ps,hp⟩:=hp
   have heq:agsEqv [.agg [.sl q_l n_l 7 F_l,.int .i64 den,.sl q_ps n_ps 1 F_ps],.agg [.int .i64 sv,.int .i64 l0,.int .i64 h0,.int .i64 l1,.int .i64 h1,.int .i64 l2,.int .i64 h2,.int .i64 l3,.int .i64 h3]] [.agg [.sl q_l (eC.list n_l F_l).length 7 (eC.F (eC.list n_l F_l)),.int .i64 den,.sl q_ps (eI.list n_ps F_ps).length 1 (eI.F (eI.list n_ps F_ps))],.agg [.int .i64 sv,.int .i64 l0,.int .i64 h0,.int .i64 l1,.int .i64 h1,.int .i64 l2,.int .i64 h2,.int .i64 l3,.int .i64 h3]]:=⟨⟨eC.to id hI_l,rfl,eI.to id hI_ps,trivial⟩,Ag.eqv_refl _,trivial⟩
   have len_l:(eC.list n_l F_l).length=n_l:=eC.list_len
   have len_ps:(eI.list n_ps F_ps).length=n_ps:=eI.list_len
   generalize eC.list n_l F_l=l at *
   generalize eI.list n_ps F_ps=ps at *
   subst len_l len_ps
   have c1:=Enc.is_F eC l l.length
   have c2:=Enc.is_F eI ps ps.length
   obtain⟨c3,c4,_⟩:=hp
   exact fokX_fin mixed gw_stable (sl:=[v85,v80,v84,v64]) ⟨S85,S80,S84,S64,trivial⟩ Tryd.func37 hw hl hG hx heq rfl (t91 q_l l den q_ps ps sv l0 h0 l1 h1 l2 h2 l3 h3) ((by simp only[Enc.list_F];exact⟨c1,c2,c3,c4,c1,c2,c3,c4,rsEqv_refl _⟩))
  ·cases hd
 ·cases hd
theorem S91:SumOK Tryd.prog G0 gw 37 (fokSm dom91):=fok_sum Tryd.func37 rfl C91
end Go.Bl
end
section
set_option maxRecDepth 100000
namespace Go.Bl
open Go.V Go.Proofs
namespace M
def some_(l:List Cask):Bool:=decide (l.length≤12∧∀k,k<l.length→(l.getD k dfC).nm.size≤20)
end M
def tr63(l:List Cask):T (List Ar):=
  T.br (decide ((l.length:Int)>(12:Int))) (T.ret [Ar.c (D.bool false)]) (T.loop (Int×PUnit) ((0:Int),PUnit.unit) fun(x:Int×PUnit)=>T.br (decide (x.1<(l.length:Int))) (T.need ((0:Int)≤x.1) (T.need (x.1<(l.length:Int)) (T.br (decide ((Nat.cast (R:=Int) (ByteArray.size (l.getD x.1.toNat (Enc.dflt eC)).1))>(20:Int))) (T.ret (Sum.inr [Ar.c (D.bool false)])) (T.ret (Sum.inl (IntKind.i64.wrap (x.1+1),PUnit.unit)))))) (T.ret (Sum.inr [Ar.c (D.bool true)])))
theorem t63(q_l:Bool)(l:List Cask):runFnX Tryd.prog G0 (lookS []) (fun _=>[(4,[.slot 3 (.int .i64)],none)]) [] 1 20 3 16 Tryd.f16 [.c (.sl q_l l.length 7 (eC.F l))] =
  tr63 l:=by kernel_rfl
def tr21(l:List Cask):T (List Ar):=
  T.need ((0:Nat)+l.length≤1000000) (T.need ((0:Nat)+l.length≤0+l.length) (T.ret [Ar.c (D.sl true ((0:Nat)+l.length) (7:Nat) (joinF (0:Nat) (fun(i j:Nat)=>List.getD [] (i*7+j) D.nilp) (Enc.F eC l)))]))
theorem t21(q_l:Bool)(l:List Cask):runFnX Tryd.prog G0 (lookS []) (fun _=>[]) [] 1 20 3 9 Tryd.f9 [.c (.sl q_l l.length 7 (eC.F l))] =
  tr21 l:=by kernel_rfl
def tr41(u:List Int):T (List Ar):=
  T.need ((0:Nat)+u.length≤1000000) (T.need ((0:Nat)+u.length≤0+u.length) (T.ret [Ar.c (D.sl true ((0:Nat)+u.length) (1:Nat) (joinF (0:Nat) (fun(i j:Nat)=>List.getD [] (i*1+j) D.nilp) (Enc.F eI u)))]))
theorem t41(q_u:Bool)(u:List Int):runFnX Tryd.prog G0 (lookS []) (fun _=>[]) [] 1 20 3 10 Tryd.f10 [.c (.sl q_u u.length 1 (eI.F u))] =
  tr41 u:=by kernel_rfl
theorem w63(l:List Cask):(tr63 l).wp (fun rs=>rsEqv rs [rB (M.some_ l)]):=by
 unfold tr63
 have no:¬(l.length≤12∧∀k,k<l.length→(l.getD k dfC).nm.size≤20)→rsEqv [rB false] [rB (M.some_ l)]:=fun hn=>by
  unfold M.some_;rw[decide_eq_false hn];exact rsEqv_refl _
 refine wp_br (fun hb=>?_) (fun hb=>?_)
 ·have hb:(l.length:Int)>12:=of_decide_eq_true hb
  exact no fun⟨h,_⟩=>by omega
 ·have hb:¬(l.length:Int)>12:=of_decide_eq_false hb
  refine range_wp (n:=l.length) (fun k _=>∀j,j<k→(l.getD j dfC).nm.size≤20) (fun j hj=>by omega) ?_
  rintro k s hk hI
  refine wp_br (fun hb=>?_) (fun hb=>?_)
  ·have hlt:=lt_of_dec hb
   refine⟨by show(0:Int)≤k;omega,by show(k:Int)<l.length;omega,wp_br (fun hc=>?_) (fun hc=>?_)⟩
   ·have hc:((l.getD k dfC).nm.size:Int)>20:=of_decide_eq_true hc
    exact no fun⟨_,h⟩=>by have:=h k hlt;omega
   ·have hc:¬((l.getD k dfC).nm.size:Int)>20:=of_decide_eq_false hc
    refine⟨hlt,wrap_succ (by omega),fun j hj=>?_⟩
    rcases Nat.lt_or_ge j k with g|g
    ·exact hI j g
    ·obtain rfl:j=k:=by omega
     omega
  ·have hge:=ge_of_dec hb
   obtain rfl:k=l.length:=by omega
   show rsEqv [rB true] [rB (M.some_ l)]
   unfold M.some_;rw[decide_eq_true ⟨by omega,hI⟩];exact rsEqv_refl _
theorem copy_eqv{α:Type}(E:Enc α)(l:List α)(F0:Nat→Nat→D):(D.sl true (0+l.length) E.st (joinF 0 F0 (E.F l))).eqv (.sl true l.length E.st (E.F l)):=by
 refine⟨id,Nat.zero_add _,fun _=>rfl,fun i j _ _=>?_⟩
 have:joinF 0 F0 (E.F l) i j=E.F l i j:=by
  unfold joinF
  rw[show Nat.blt i 0=false by rw[←Bool.not_eq_true,Nat.blt_eq];omega]
  rfl
 rw[this];exact D.eqv_refl _
def dom63:DomF
 |[.c (.sl _ n_l st_l F_l)]=>(match Nat.beq st_l 7 with
  |true=>some ([eC.Is n_l F_l],[rB (M.some_ (eC.list n_l F_l))])
  |_=>none)
 |_=>none
def v63:Nat×Sm:=(16,fokSm dom63)
theorem C63:FOK Tryd.prog G0 gw 16 dom63:=by
 intro ags p r hd hp κ w xs hw hl hG hx
 unfold dom63 at hd
 split at hd
 ·rename_i q_l n_l st_l F_l
  split at hd
  ·rename_i hst
   have g1:=hst
   have g1:=Nat.eq_of_beq_eq_true g1
   subst g1
   simp only[Option.some.injEq,Prod.mk.injEq]at hd
   obtain⟨rfl,rfl⟩:=hd
   obtain⟨hI_l,hp⟩:=hp
   have heq:agsEqv [.c (.sl q_l n_l 7 F_l)] [.c (.sl q_l (eC.list n_l F_l).length 7 (eC.F (eC.list n_l F_l)))]:=⟨eC.to id hI_l,trivial⟩
   have len_l:(eC.list n_l F_l).length=n_l:=eC.list_len
   generalize eC.list n_l F_l=l at *
   subst len_l
   exact fokX_fin mixed gw_stable (sl:=[]) trivial Tryd.func16 hw hl hG hx heq rfl (t63 q_l l) (w63 l)
  ·cases hd
 ·cases hd
theorem S63:SumOK Tryd.prog G0 gw 16 (fokSm dom63):=fok_sum Tryd.func16 rfl C63
def dom21:DomF
 |[.c (.sl _ n_l st_l F_l)]=>(match Nat.beq st_l 7 with
  |true=>some ([eC.Is n_l F_l,(eC.list n_l F_l).length≤1000000],[.c (.sl true n_l 7 (eC.F (eC.list n_l F_l)))])
  |_=>none)
 |_=>none
theorem C21:FOK Tryd.prog G0 gw 9 dom21:=by
 intro ags p r hd hp κ w xs hw hl hG hx
 unfold dom21 at hd
 split at hd
 ·rename_i q_l n_l st_l F_l
  split at hd
  ·rename_i hst
   have g1:=hst
   have g1:=Nat.eq_of_beq_eq_true g1
   subst g1
   simp only[Option.some.injEq,Prod.mk.injEq]at hd
   obtain⟨rfl,rfl⟩:=hd
   obtain⟨hI_l,hp⟩:=hp
   have heq:agsEqv [.c (.sl q_l n_l 7 F_l)] [.c (.sl q_l (eC.list n_l F_l).length 7 (eC.F (eC.list n_l F_l)))]:=⟨eC.to id hI_l,trivial⟩
   have len_l:(eC.list n_l F_l).length=n_l:=eC.list_len
   generalize eC.list n_l F_l=l at *
   subst len_l
   exact fokX_fin mixed gw_stable (sl:=[]) trivial Tryd.func9 hw hl hG hx heq rfl (t21 q_l l) (⟨by have:=hp.1;omega,Nat.le_refl _,⟨copy_eqv eC l _,trivial⟩⟩)
  ·cases hd
 ·cases hd
theorem S21:SumOK Tryd.prog G0 gw 9 (fokSm dom21):=fok_sum Tryd.func9 rfl C21
def dom41:DomF
 |[.c (.sl _ n_u st_u F_u)]=>(match Nat.beq st_u 1 with
  |true=>some ([eI.Is n_u F_u,(eI.list n_u F_u).length≤1000000],[.c (.sl true n_u 1 (eI.F (eI.list n_u F_u)))])
  |_=>none)
 |_=>none
theorem C41:FOK Tryd.prog G0 gw 10 dom41:=by
 intro ags p r hd hp κ w xs hw hl hG hx
 unfold dom41 at hd
 split at hd
 ·rename_i q_u n_u st_u F_u
  split at hd
  ·rename_i hst
   have g1:=hst
   have g1:=Nat.eq_of_beq_eq_true g1
   subst g1
   simp only[Option.some.injEq,Prod.mk.injEq]at hd
   obtain⟨rfl,rfl⟩:=hd
   obtain⟨hI_u,hp⟩:=hp
   have heq:agsEqv [.c (.sl q_u n_u 1 F_u)] [.c (.sl q_u (eI.list n_u F_u).length 1 (eI.F (eI.list n_u F_u)))]:=⟨eI.to id hI_u,trivial⟩
   have len_u:(eI.list n_u F_u).length=n_u:=eI.list_len
   generalize eI.list n_u F_u=u at *
   subst len_u
   exact fokX_fin mixed gw_stable (sl:=[]) trivial Tryd.func10 hw hl hG hx heq rfl (t41 q_u u) (⟨by have:=hp.1;omega,Nat.le_refl _,⟨copy_eqv eI u _,trivial⟩⟩)
  ·cases hd
 ·cases hd
theorem S41:SumOK Tryd.prog G0 gw 10 (fokSm dom41):=fok_sum Tryd.func10 rfl C41
end Go.Bl
end
section
set_option maxRecDepth 100000
namespace Go.Bl
open Go.V Go.Proofs
theorem is3{F:Nat→Nat→D}{a b c:Int}(h0:F 0 0=dI a)(h1:F 1 0=dI b)(h2:F 2 0=dI c):eI.Is 3 F:=by
 intro i j hi hj
 obtain rfl:j=0:=Nat.lt_one_iff.1 hj
 match i,hi with
 |0,_=>show(F 0 0).eqv (dI (rdI (F 0) 0));unfold rdI;rw[h0];exact D.eqv_refl _
 |1,_=>show(F 1 0).eqv (dI (rdI (F 1) 0));unfold rdI;rw[h1];exact D.eqv_refl _
 |2,_=>show(F 2 0).eqv (dI (rdI (F 2) 0));unfold rdI;rw[h2];exact D.eqv_refl _
theorem exC_nm:∀c,c∈eC.list 3 (eC.F exC)→c.nm.size≤1000000:=by
 have:eC.list 3 (eC.F exC)=exC:=Enc.list_F eC exC
 rw[this]
 decide
def tr30c:T (List Ar):=
  T.needs [(Enc.Is eC (3:Nat) (Enc.F eC [{nm:={data:={toList:=[(100:UInt8),(114:UInt8),(121:UInt8)]}},vol:=(100:Int),cost:=(10:Int),k0:=(0:Int),k1:=(0:Int),k2:=(0:Int),k3:=(0:Int)},{nm:={data:={toList:=[(115:UInt8),(119:UInt8),(101:UInt8),(101:UInt8),(116:UInt8)]}},vol:=(100:Int),cost:=(30:Int),k0:=(100:Int),k1:=(0:Int),k2:=(0:Int),k3:=(0:Int)},{nm:={data:={toList:=[(114:UInt8),(105:UInt8),(99:UInt8),(104:UInt8)]}},vol:=(50:Int),cost:=(20:Int),k0:=(200:Int),k1:=(0:Int),k2:=(0:Int),k3:=(0:Int)}])),(∀(c:Cask),c∈Enc.list eC (3:Nat) (Enc.F eC exC)→ByteArray.size (Cask.nm c)≤1000000),(Enc.Is eC (3:Nat) (Enc.F eC [{nm:={data:={toList:=[(100:UInt8),(114:UInt8),(121:UInt8)]}},vol:=(100:Int),cost:=(10:Int),k0:=(0:Int),k1:=(0:Int),k2:=(0:Int),k3:=(0:Int)},{nm:={data:={toList:=[(115:UInt8),(119:UInt8),(101:UInt8),(101:UInt8),(116:UInt8)]}},vol:=(100:Int),cost:=(30:Int),k0:=(100:Int),k1:=(0:Int),k2:=(0:Int),k3:=(0:Int)},{nm:={data:={toList:=[(114:UInt8),(105:UInt8),(99:UInt8),(104:UInt8)]}},vol:=(50:Int),cost:=(20:Int),k0:=(200:Int),k1:=(0:Int),k2:=(0:Int),k3:=(0:Int)}])),(Enc.Is eI (3:Nat) fun(i j:Nat)=>List.getD [D.int IntKind.i64 (0:Int),D.int IntKind.i64 (0:Int),D.int IntKind.i64 (0:Int)] (i*1+j) D.nilp),(3:Nat)≤3,(3:Nat)≤1000,(1:Nat)≤1000000,(0:Int)≤0,(0:Int)<1,(0:Nat)<1,(0:Int)≤0,(0:Int)<3,(Enc.Is eC (3:Nat) (Enc.F eC [{nm:={data:={toList:=[(100:UInt8),(114:UInt8),(121:UInt8)]}},vol:=(100:Int),cost:=(10:Int),k0:=(0:Int),k1:=(0:Int),k2:=(0:Int),k3:=(0:Int)},{nm:={data:={toList:=[(115:UInt8),(119:UInt8),(101:UInt8),(101:UInt8),(116:UInt8)]}},vol:=(100:Int),cost:=(30:Int),k0:=(100:Int),k1:=(0:Int),k2:=(0:Int),k3:=(0:Int)},{nm:={data:={toList:=[(114:UInt8),(105:UInt8),(99:UInt8),(104:UInt8)]}},vol:=(50:Int),cost:=(20:Int),k0:=(200:Int),k1:=(0:Int),k2:=(0:Int),k3:=(0:Int)}])),(Enc.Is eI (3:Nat) fun(i j:Nat)=>List.getD [D.int IntKind.i64 (100:Int),D.int IntKind.i64 (0:Int),D.int IntKind.i64 (0:Int)] (i*1+j) D.nilp),(3:Nat)≤3,(3:Nat)≤1000,(1:Nat)≤1000000,(0:Int)≤0,(0:Int)<1,(0:Nat)<1,(0:Int)≤1,(1:Int)<3,(Enc.Is eC (3:Nat) (Enc.F eC [{nm:={data:={toList:=[(100:UInt8),(114:UInt8),(121:UInt8)]}},vol:=(100:Int),cost:=(10:Int),k0:=(0:Int),k1:=(0:Int),k2:=(0:Int),k3:=(0:Int)},{nm:={data:={toList:=[(115:UInt8),(119:UInt8),(101:UInt8),(101:UInt8),(116:UInt8)]}},vol:=(100:Int),cost:=(30:Int),k0:=(100:Int),k1:=(0:Int),k2:=(0:Int),k3:=(0:Int)},{nm:={data:={toList:=[(114:UInt8),(105:UInt8),(99:UInt8),(104:UInt8)]}},vol:=(50:Int),cost:=(20:Int),k0:=(200:Int),k1:=(0:Int),k2:=(0:Int),k3:=(0:Int)}])),(Enc.Is eI (3:Nat) fun(i j:Nat)=>List.getD [D.int IntKind.i64 (0:Int),D.int IntKind.i64 (100:Int),D.int IntKind.i64 (0:Int)] (i*1+j) D.nilp),(3:Nat)≤3,(3:Nat)≤1000,(1:Nat)≤1000000,(2:Nat)≤1000000,(1:Nat)≤1,(0:Int)≤0,(0:Int)<2,(0:Nat)<2,(0:Int)≤0,(0:Int)<3,(0:Int)≤1,(1:Int)<2,(1:Nat)<2,(0:Int)≤1,(1:Int)<3,(Enc.Is eC (3:Nat) (Enc.F eC [{nm:={data:={toList:=[(100:UInt8),(114:UInt8),(121:UInt8)]}},vol:=(100:Int),cost:=(10:Int),k0:=(0:Int),k1:=(0:Int),k2:=(0:Int),k3:=(0:Int)},{nm:={data:={toList:=[(115:UInt8),(119:UInt8),(101:UInt8),(101:UInt8),(116:UInt8)]}},vol:=(100:Int),cost:=(30:Int),k0:=(100:Int),k1:=(0:Int),k2:=(0:Int),k3:=(0:Int)},{nm:={data:={toList:=[(114:UInt8),(105:UInt8),(99:UInt8),(104:UInt8)]}},vol:=(50:Int),cost:=(20:Int),k0:=(200:Int),k1:=(0:Int),k2:=(0:Int),k3:=(0:Int)}])),(Enc.Is eI (3:Nat) fun(i j:Nat)=>List.getD [D.int IntKind.i64 (100:Int),D.int IntKind.i64 (100:Int),D.int IntKind.i64 (0:Int)] (i*1+j) D.nilp),(3:Nat)≤3,(3:Nat)≤1000,(1:Nat)≤1000000,(0:Int)≤0,(0:Int)<1,(0:Nat)<1,(0:Int)≤2,(2:Int)<3,(Enc.Is eC (3:Nat) (Enc.F eC [{nm:={data:={toList:=[(100:UInt8),(114:UInt8),(121:UInt8)]}},vol:=(100:Int),cost:=(10:Int),k0:=(0:Int),k1:=(0:Int),k2:=(0:Int),k3:=(0:Int)},{nm:={data:={toList:=[(115:UInt8),(119:UInt8),(101:UInt8),(101:UInt8),(116:UInt8)]}},vol:=(100:Int),cost:=(30:Int),k0:=(100:Int),k1:=(0:Int),k2:=(0:Int),k3:=(0:Int)},{nm:={data:={toList:=[(114:UInt8),(105:UInt8),(99:UInt8),(104:UInt8)]}},vol:=(50:Int),cost:=(20:Int),k0:=(200:Int),k1:=(0:Int),k2:=(0:Int),k3:=(0:Int)}])),(Enc.Is eI (3:Nat) fun(i j:Nat)=>List.getD [D.int IntKind.i64 (0:Int),D.int IntKind.i64 (0:Int),D.int IntKind.i64 (50:Int)] (i*1+j) D.nilp),(3:Nat)≤3,(3:Nat)≤1000,(1:Nat)≤1000000,(2:Nat)≤1000000,(1:Nat)≤1,(0:Int)≤0,(0:Int)<2,(0:Nat)<2,(0:Int)≤0,(0:Int)<3,(0:Int)≤1,(1:Int)<2,(1:Nat)<2,(0:Int)≤2,(2:Int)<3,(Enc.Is eC (3:Nat) (Enc.F eC [{nm:={data:={toList:=[(100:UInt8),(114:UInt8),(121:UInt8)]}},vol:=(100:Int),cost:=(10:Int),k0:=(0:Int),k1:=(0:Int),k2:=(0:Int),k3:=(0:Int)},{nm:={data:={toList:=[(115:UInt8),(119:UInt8),(101:UInt8),(101:UInt8),(116:UInt8)]}},vol:=(100:Int),cost:=(30:Int),k0:=(100:Int),k1:=(0:Int),k2:=(0:Int),k3:=(0:Int)},{nm:={data:={toList:=[(114:UInt8),(105:UInt8),(99:UInt8),(104:UInt8)]}},vol:=(50:Int),cost:=(20:Int),k0:=(200:Int),k1:=(0:Int),k2:=(0:Int),k3:=(0:Int)}])),(Enc.Is eI (3:Nat) fun(i j:Nat)=>List.getD [D.int IntKind.i64 (100:Int),D.int IntKind.i64 (0:Int),D.int IntKind.i64 (50:Int)] (i*1+j) D.nilp),(3:Nat)≤3,(3:Nat)≤1000,(Enc.Is eC (3:Nat) (Enc.F eC [{nm:={data:={toList:=[(100:UInt8),(114:UInt8),(121:UInt8)]}},vol:=(100:Int),cost:=(10:Int),k0:=(0:Int),k1:=(0:Int),k2:=(0:Int),k3:=(0:Int)},{nm:={data:={toList:=[(115:UInt8),(119:UInt8),(101:UInt8),(101:UInt8),(116:UInt8)]}},vol:=(100:Int),cost:=(30:Int),k0:=(100:Int),k1:=(0:Int),k2:=(0:Int),k3:=(0:Int)},{nm:={data:={toList:=[(114:UInt8),(105:UInt8),(99:UInt8),(104:UInt8)]}},vol:=(50:Int),cost:=(20:Int),k0:=(200:Int),k1:=(0:Int),k2:=(0:Int),k3:=(0:Int)}])),(Enc.Is eI (3:Nat) fun(i j:Nat)=>List.getD [D.int IntKind.i64 (100:Int),D.int IntKind.i64 (0:Int),D.int IntKind.i64 (50:Int)] (i*1+j) D.nilp),(3:Nat)≤3,(3:Nat)≤1000,(1:Int)≠(0:Int),(1:Nat)<9223372036854775808,(2000:Nat)<9223372036854775808,(1:Nat)≤1000000,(2:Nat)≤1000000,(1:Nat)≤1,(0:Int)≤0,(0:Int)<2,(0:Nat)<2,(0:Int)≤1,(1:Int)<3,(0:Int)≤1,(1:Int)<2,(1:Nat)<2,(0:Int)≤2,(2:Int)<3,(Enc.Is eC (3:Nat) (Enc.F eC [{nm:={data:={toList:=[(100:UInt8),(114:UInt8),(121:UInt8)]}},vol:=(100:Int),cost:=(10:Int),k0:=(0:Int),k1:=(0:Int),k2:=(0:Int),k3:=(0:Int)},{nm:={data:={toList:=[(115:UInt8),(119:UInt8),(101:UInt8),(101:UInt8),(116:UInt8)]}},vol:=(100:Int),cost:=(30:Int),k0:=(100:Int),k1:=(0:Int),k2:=(0:Int),k3:=(0:Int)},{nm:={data:={toList:=[(114:UInt8),(105:UInt8),(99:UInt8),(104:UInt8)]}},vol:=(50:Int),cost:=(20:Int),k0:=(200:Int),k1:=(0:Int),k2:=(0:Int),k3:=(0:Int)}])),(Enc.Is eI (3:Nat) fun(i j:Nat)=>List.getD [D.int IntKind.i64 (0:Int),D.int IntKind.i64 (100:Int),D.int IntKind.i64 (50:Int)] (i*1+j) D.nilp),(3:Nat)≤3,(3:Nat)≤1000,(1:Nat)≤1000000,(2:Nat)≤1000000,(1:Nat)≤1,(3:Nat)≤1000000,(2:Nat)≤2,(0:Int)≤0,(0:Int)<3,(0:Nat)<3,(0:Int)≤0,(0:Int)<3,(0:Int)≤1,(1:Int)<3,(1:Nat)<3,(0:Int)≤1,(1:Int)<3,(0:Int)≤2,(2:Int)<3,(2:Nat)<3,(0:Int)≤2,(2:Int)<3,(Enc.Is eC (3:Nat) (Enc.F eC [{nm:={data:={toList:=[(100:UInt8),(114:UInt8),(121:UInt8)]}},vol:=(100:Int),cost:=(10:Int),k0:=(0:Int),k1:=(0:Int),k2:=(0:Int),k3:=(0:Int)},{nm:={data:={toList:=[(115:UInt8),(119:UInt8),(101:UInt8),(101:UInt8),(116:UInt8)]}},vol:=(100:Int),cost:=(30:Int),k0:=(100:Int),k1:=(0:Int),k2:=(0:Int),k3:=(0:Int)},{nm:={data:={toList:=[(114:UInt8),(105:UInt8),(99:UInt8),(104:UInt8)]}},vol:=(50:Int),cost:=(20:Int),k0:=(200:Int),k1:=(0:Int),k2:=(0:Int),k3:=(0:Int)}])),(Enc.Is eI (3:Nat) fun(i j:Nat)=>List.getD [D.int IntKind.i64 (100:Int),D.int IntKind.i64 (100:Int),D.int IntKind.i64 (50:Int)] (i*1+j) D.nilp),(3:Nat)≤3,(3:Nat)≤1000,(2:Nat)≤2] (T.ret [Ar.c (D.sl true (2:Nat) (1:Nat) (joinF (1:Nat) (joinF (0:Nat) (fun(x x_1:Nat)=>D.nilp) fun(i j:Nat)=>List.getD [D.int IntKind.i64 (0:Int)] (i*1+j) D.nilp) fun(i j:Nat)=>List.getD [D.int IntKind.i64 (2:Int)] (i*1+j) D.nilp)),Ar.c (D.int IntKind.i64 (2000:Int)),Ar.c (D.int IntKind.i64 (0:Int))])
theorem t30c(q:Bool):runFnX Tryd.prog G0 (lookS [v47,v49,v64,v68,v91]) (fun _=>[(999999,[],none)]) [22,38,68,84] 1 20 6 15 Tryd.f15 [.c (.sl q 3 7 (eC.F exC)),.agg [dI 100,dI 60,dI 70,dI 0,dI 1000,dI 0,dI 1000,dI 0,dI 1000]] =
  tr30c:=by kernel_rfl
theorem w30c:tr30c.wp (fun rs=>rsEqv rs [.c (dL [0,2]),rI 2000,rI 0]):=by
 unfold tr30c
 repeat (first|refine⟨by decide,?_⟩|refine⟨exC_nm,?_⟩|refine⟨Enc.is_F _ _ _,?_⟩|refine⟨is3 rfl rfl rfl,?_⟩|refine⟨by decide +kernel,?_⟩)
 refine⟨⟨(fun e=>by cases e),rfl,fun _=>rfl,fun i j hi hj=>?_⟩,rfl,rfl,trivial⟩
 obtain rfl:j=0:=Nat.lt_one_iff.1 hj
 match i,hi with
 |0,_=>exact D.eqv_refl _
 |1,_=>exact D.eqv_refl _
def dom30c:DomF
 |[.c (.sl _ n_l st_l F_l),.agg [.int .i64 sv,.int .i64 l0,.int .i64 h0,.int .i64 l1,.int .i64 h1,.int .i64 l2,.int .i64 h2,.int .i64 l3,.int .i64 h3]]=>(match Nat.beq st_l 7 with
  |true=>some ([eC.Is n_l F_l,(eC.list n_l F_l)=exC,(⟨sv,⟨l0,h0⟩,⟨l1,h1⟩,⟨l2,h2⟩,⟨l3,h3⟩⟩:Sample)=exS 60 70],[.c (dL [0,2]),rI 2000,rI 0])
  |_=>none)
 |_=>none
def v30c:Nat×Sm:=(15,fokSm dom30c)
theorem C30c:FOK Tryd.prog G0 gw 15 dom30c:=by
 intro ags p r hd hp κ w xs hw hl hG hx
 unfold dom30c at hd
 split at hd
 ·rename_i q_l n_l st_l F_l sv l0 h0 l1 h1 l2 h2 l3 h3
  split at hd
  ·rename_i hst
   have g1:=hst
   have g1:=Nat.eq_of_beq_eq_true g1
   subst g1
   simp only[Option.some.injEq,Prod.mk.injEq]at hd
   obtain⟨rfl,rfl⟩:=hd
   obtain⟨hI_l,hp⟩:=hp
   have heq:agsEqv [.c (.sl q_l n_l 7 F_l),.agg [.int .i64 sv,.int .i64 l0,.int .i64 h0,.int .i64 l1,.int .i64 h1,.int .i64 l2,.int .i64 h2,.int .i64 l3,.int .i64 h3]] [.c (.sl q_l (eC.list n_l F_l).length 7 (eC.F (eC.list n_l F_l))),.agg [.int .i64 sv,.int .i64 l0,.int .i64 h0,.int .i64 l1,.int .i64 h1,.int .i64 l2,.int .i64 h2,.int .i64 l3,.int .i64 h3]]:=⟨eC.to id hI_l,Ag.eqv_refl _,trivial⟩
   have len_l:(eC.list n_l F_l).length=n_l:=eC.list_len
   generalize eC.list n_l F_l=l at *
   subst len_l
   obtain⟨rfl,hs,_⟩:=hp
   simp only[exS,Sample.mk.injEq,Rg.mk.injEq]at hs
   obtain⟨rfl,⟨rfl,rfl⟩,⟨rfl,rfl⟩,⟨rfl,rfl⟩,rfl,rfl⟩:=hs
   exact fokX_fin mixed gw_stable (sl:=[v47,v49,v64,v68,v91]) ⟨S47,S49,S64,S68,S91,trivial⟩ Tryd.func15 hw hl hG hx heq rfl (t30c q_l) (w30c)
  ·cases hd
 ·cases hd
theorem S30c:SumOK Tryd.prog G0 gw 15 (fokSm dom30c):=fok_sum Tryd.func15 rfl C30c
end Go.Bl
end
section
set_option maxRecDepth 100000
namespace Go.Bl
open Go.V Go.Proofs
def FA:Nat→Nat→D:=fun(i j:Nat)=>List.getD [D.str {data:={toList:=[(100:UInt8),(114:UInt8),(121:UInt8)]}},D.int IntKind.i64 (100:Int),D.int IntKind.i64 (10:Int),D.int IntKind.i64 (0:Int),D.int IntKind.i64 (0:Int),D.int IntKind.i64 (0:Int),D.int IntKind.i64 (0:Int),D.str {data:={toList:=[(115:UInt8),(119:UInt8),(101:UInt8),(101:UInt8),(116:UInt8)]}},D.int IntKind.i64 (100:Int),D.int IntKind.i64 (30:Int),D.int IntKind.i64 (100:Int),D.int IntKind.i64 (0:Int),D.int IntKind.i64 (0:Int),D.int IntKind.i64 (0:Int),D.str {data:={toList:=[(114:UInt8),(105:UInt8),(99:UInt8),(104:UInt8)]}},D.int IntKind.i64 (50:Int),D.int IntKind.i64 (20:Int),D.int IntKind.i64 (200:Int),D.int IntKind.i64 (0:Int),D.int IntKind.i64 (0:Int),D.int IntKind.i64 (0:Int)] (i*(7:Nat)+j) D.nilp
theorem lA:eC.list 3 FA=exC:=rfl
theorem isA:eC.Is 3 FA:=by
 intro i j hi hj
 have hj':j<7:=hj
 match i,hi,j,hj' with
 |0,_,0,_=>exact D.eqv_refl _
 |0,_,1,_=>exact D.eqv_refl _
 |0,_,2,_=>exact D.eqv_refl _
 |0,_,3,_=>exact D.eqv_refl _
 |0,_,4,_=>exact D.eqv_refl _
 |0,_,5,_=>exact D.eqv_refl _
 |0,_,6,_=>exact D.eqv_refl _
 |1,_,0,_=>exact D.eqv_refl _
 |1,_,1,_=>exact D.eqv_refl _
 |1,_,2,_=>exact D.eqv_refl _
 |1,_,3,_=>exact D.eqv_refl _
 |1,_,4,_=>exact D.eqv_refl _
 |1,_,5,_=>exact D.eqv_refl _
 |1,_,6,_=>exact D.eqv_refl _
 |2,_,0,_=>exact D.eqv_refl _
 |2,_,1,_=>exact D.eqv_refl _
 |2,_,2,_=>exact D.eqv_refl _
 |2,_,3,_=>exact D.eqv_refl _
 |2,_,4,_=>exact D.eqv_refl _
 |2,_,5,_=>exact D.eqv_refl _
 |2,_,6,_=>exact D.eqv_refl _
theorem exC_nm':∀c,c∈exC→c.nm.size≤1000000:=by decide
end Go.Bl
end
section
set_option maxRecDepth 100000
namespace Go.Bl
open Go.V Go.Proofs
namespace M
def someN(n:Nat)(l:List Cask):Bool:=(decide (l.length≤n)||decide (l.length>10))&&some_ l
end M
def tr29(l:List Cask):T (List Ar):=
  T.br (decide ((l.length:Int)≤6)) (T.need (Enc.Is eC l.length (Enc.F eC l)) (T.ret [Ar.c (D.bool (M.some_ (Enc.list eC l.length (Enc.F eC l))))])) (T.br (decide ((l.length:Int)>(10:Int))) (T.need (Enc.Is eC l.length (Enc.F eC l)) (T.ret [Ar.c (D.bool (M.some_ (Enc.list eC l.length (Enc.F eC l))))])) (T.ret [Ar.c (D.bool false)]))
theorem t29(q_l:Bool)(l:List Cask):runFnX Tryd.prog G0 (lookS [v63]) (fun _=>[]) [] 1 20 3 5 Tryd.f5 [.c (.sl q_l l.length 7 (eC.F l))] =
  tr29 l:=by kernel_rfl
theorem w29(l:List Cask):(tr29 l).wp (fun rs=>rsEqv rs [rB (M.someN 6 l)]):=by
 unfold tr29
 simp only[Enc.list_F]
 refine wp_br (fun hb=>?_) (fun hb=>?_)
 ·have hb:(l.length:Int)≤6:=of_decide_eq_true hb
  have:M.someN 6 l=M.some_ l:=by unfold M.someN;rw[decide_eq_true (by omega)];rfl
  rw[this];exact⟨Enc.is_F _ _ _,rsEqv_refl _⟩
 ·have hb:¬(l.length:Int)≤6:=of_decide_eq_false hb
  refine wp_br (fun hc=>?_) (fun hc=>?_)
  ·have hc:(l.length:Int)>10:=of_decide_eq_true hc
   have:M.someN 6 l=M.some_ l:=by unfold M.someN;rw[decide_eq_false (by omega),decide_eq_true (by omega)];rfl
   rw[this];exact⟨Enc.is_F _ _ _,rsEqv_refl _⟩
  ·have hc:¬(l.length:Int)>10:=of_decide_eq_false hc
   have:M.someN 6 l=false:=by unfold M.someN;rw[decide_eq_false (by omega),decide_eq_false (by omega)];rfl
   rw[this];exact rsEqv_refl _
def dom29:DomF
 |[.c (.sl _ n_l st_l F_l)]=>(match Nat.beq st_l 7 with
  |true=>some ([eC.Is n_l F_l],[rB (M.someN 6 (eC.list n_l F_l))])
  |_=>none)
 |_=>none
theorem C29:FOK Tryd.prog G0 gw 5 dom29:=by
 intro ags p r hd hp κ w xs hw hl hG hx
 unfold dom29 at hd
 split at hd
 ·rename_i q_l n_l st_l F_l
  split at hd
  ·rename_i hst
   have g1:=hst
   have g1:=Nat.eq_of_beq_eq_true g1
   subst g1
   simp only[Option.some.injEq,Prod.mk.injEq]at hd
   obtain⟨rfl,rfl⟩:=hd
   obtain⟨hI_l,hp⟩:=hp
   have heq:agsEqv [.c (.sl q_l n_l 7 F_l)] [.c (.sl q_l (eC.list n_l F_l).length 7 (eC.F (eC.list n_l F_l)))]:=⟨eC.to id hI_l,trivial⟩
   have len_l:(eC.list n_l F_l).length=n_l:=eC.list_len
   generalize eC.list n_l F_l=l at *
   subst len_l
   exact fokX_fin mixed gw_stable (sl:=[v63]) ⟨S63,trivial⟩ Tryd.func5 hw hl hG hx heq rfl (t29 q_l l) (w29 l)
  ·cases hd
 ·cases hd
theorem S29:SumOK Tryd.prog G0 gw 5 (fokSm dom29):=fok_sum Tryd.func5 rfl C29
end Go.Bl
end
section
set_option maxRecDepth 100000
namespace Go.Bl
open Go.V Go.Proofs
namespace M
def valL(l:List Cask)(ps:List Int)(of:Cask→Int)(less:Int):Int:=(List.range l.length).foldl (fun a i=>IntKind.i64.wrap (a+IntKind.i64.wrap (ps.getD i 0*IntKind.i64.wrap (of (l.getD i dfC)-less)))) 0
end M
theorem sl_eqv{q:Bool}{n st:Nat}{F:Nat→Nat→D}:(D.sl q n st F).eqv (.sl false n st F):=⟨(fun e=>by cases e),rfl,fun _=>rfl,fun i j _ _=>D.eqv_refl _⟩
end Go.Bl
end
section
set_option maxRecDepth 100000
namespace Go.Bl
open Go.V Go.Proofs
theorem first_nil(l:List Int)(h:M.first l=0):∀x,x∈l→x=0:=by
 induction l with
 |nil=>intro x hx;cases hx
 |cons y t ih=>
  unfold M.first at h
  cases hy:y != 0
  ·rw[hy]at h
   have hy0:y=0:=by simpa using hy
   intro x hx
   rcases List.mem_cons.1 hx with rfl|hx
   ·exact hy0
   ·exact ih h x hx
  ·rw[hy]at h
   have h:y=0:=h
   rw[h]at hy
   exact absurd hy (by decide)
theorem unl_zero{b:Bool}{e:Int}(he:e≠0)(h:M.unl b e=0):b=true:=by
 cases b with
 |true=>rfl
 |false=>exact absurd h he
theorem cond_zero{x y:Int}(h:(cond (x != 0) x y)=0):x=0∧y=0:=by
 cases hx:x != 0
 ·rw[hx]at h
  exact⟨by simpa using hx,h⟩
 ·rw[hx]at h
  have h:x=0:=h
  rw[h]at hx
  exact absurd hx (by decide)
theorem casksFrom_zero{l:List Cask}:∀(n i:Nat),(M.casksFrom l n i).2=0→∀j,i≤j→j<i+n→M.caskErr l j=0
 |0,i,_,j,h1,h2=>by omega
 |n+1,i,h,j,h1,h2=>by
  unfold M.casksFrom at h
  cases hx:M.caskErr l i != 0
  ·rw[hx]at h
   rcases Nat.eq_or_lt_of_le h1 with rfl|hlt
   ·simpa using hx
   ·exact casksFrom_zero n (i+1) h j hlt (by omega)
  ·rw[hx]at h
   have h:M.caskErr l i=0:=h
   rw[h]at hx
   exact absurd hx (by decide)
theorem within_spec{n lo hi:Int}(h:M.within n lo hi=true):lo≤n∧n≤hi:=by
 unfold M.within at h
 simp only[Bool.and_eq_true,decide_eq_true_eq]at h
 exact h
structure RightC(c:Cask):Prop where
 vol:0≤c.vol∧c.vol≤10000
 cost:0≤c.cost∧c.cost≤1000
 k0:0≤c.k0∧c.k0≤1000
 k1:0≤c.k1∧c.k1≤1000
 k2:0≤c.k2∧c.k2≤1000
 k3:0≤c.k3∧c.k3≤1000
theorem rightC_spec{c:Cask}(h:M.rightC c=true):RightC c:=by
 unfold M.rightC at h
 cases h1:M.within c.vol 0 10000
 ·rw[h1]at h;cases h
 rw[h1]at h
 have h:cond (M.within c.cost 0 1000) (M.kindsOk c) false=true:=h
 cases h2:M.within c.cost 0 1000
 ·rw[h2]at h;cases h
 rw[h2]at h
 have h:M.kindsOk c=true:=h
 unfold M.kindsOk M.allB M.allB M.allB M.allB M.allB at h
 cases g0:M.isValue c.k0
 ·rw[g0]at h;cases h
 cases g1:M.isValue c.k1
 ·rw[g0,g1]at h;cases h
 cases g2:M.isValue c.k2
 ·rw[g0,g1,g2]at h;cases h
 cases g3:M.isValue c.k3
 ·rw[g0,g1,g2,g3]at h;cases h
 exact⟨within_spec h1,within_spec h2,within_spec g0,within_spec g1,within_spec g2,within_spec g3⟩
theorem casks_right{l:List Cask}(h:M.casksErr l=0):1≤l.length∧l.length≤4∧∀i,i<l.length→RightC (l.getD i dfC):=by
 unfold M.casksErr at h
 have h1:=first_nil _ h _ (List.mem_cons_self ..)
 have h2:=unl_zero (by decide) (first_nil _ h _ (List.mem_cons_of_mem _ (List.mem_cons_self ..)))
 have h2:(l.length:Int)≤4:=of_decide_eq_true h2
 unfold M.checkCasks at h1
 cases e0:decide (l.length=0)
 ·rw[e0]at h1
  have h1:(cond (decide (10<l.length)) ((0:Int),(8:Int)) (M.casksFrom l l.length 0)).2=0:=h1
  rw[decide_eq_false (by omega)]at h1
  have h1:(M.casksFrom l l.length 0).2=0:=h1
  have e0:¬l.length=0:=of_decide_eq_false e0
  refine⟨by omega,by omega,fun i hi=>?_⟩
  have hc:=casksFrom_zero _ _ h1 i (Nat.zero_le _) (by omega)
  unfold M.caskErr at hc
  exact rightC_spec (unl_zero (by decide) (first_nil _ hc _ (List.mem_cons_of_mem _ (List.mem_cons_of_mem _ (List.mem_cons_self ..)))))
 ·rw[e0]at h1
  have h1:(10:Int)=0:=h1
  exact absurd h1 (by decide)
structure RightP(l:List Cask)(den:Int)(ps:List Int):Prop where
 len:ps.length=l.length
 den:1≤den∧den≤200000000000
 part:∀i,i<l.length→0≤ps.getD i 0∧ps.getD i 0≤2000000000000000
def dot(g:Nat→Int):Nat→Int
 |0=>0
 |n+1=>dot g n+g n
theorem dot_congr{g h:Nat→Int}:∀{n:Nat},(∀i,i<n→g i=h i)→dot g n=dot h n
 |0,_=>rfl
 |n+1,e=>by
  show dot g n+g n=dot h n+h n
  rw[dot_congr fun i hi=>e i (by omega),e n (by omega)]
theorem fold_dot{f:Int→Nat→Int}{y:Nat→Int}{n:Nat}(hf:∀a i,i<n→f a i=IntKind.i64.wrap (a+y i))(hy:∀i,i<n→(y i).natAbs≤2000000000000000000)(hn:n≤4) :
  (List.range n).foldl f 0=dot y n∧(dot y n).natAbs≤n*2000000000000000000:=by
 have key:∀k,k≤n→(List.range k).foldl f 0=dot y k∧(dot y k).natAbs≤k*2000000000000000000:=by
  intro k
  induction k with
  |zero=>intro _;exact⟨rfl,by show(0:Int).natAbs≤_;simp⟩
  |succ k ih=>
   intro hk
   obtain⟨h1,h2⟩:=ih (by omega)
   have hb:=hy k (by omega)
   have e:dot y (k+1)=dot y k+y k:=rfl
   have hb':(dot y (k+1)).natAbs≤(k+1)*2000000000000000000:=by rw[e];omega
   refine⟨?_,hb'⟩
   rw[foldl_succ,h1,hf _ _ (by omega),←e]
   exact wrap_id (by omega) (by omega)
 exact key n (Nat.le_refl n)
theorem mul_small{p w:Int}(hp:0≤p∧p≤2000000000000000)(hw:w.natAbs≤1000):(p*w).natAbs≤2000000000000000000:=by
 rw[Int.natAbs_mul]
 exact Nat.mul_le_mul (show p.natAbs≤2000000000000000 by omega) hw
theorem wrap_add_wrap(a b:Int):IntKind.i64.wrap (a+IntKind.i64.wrap b)=IntKind.i64.wrap (a+b):=by
 simp only[IntKind.wrap_i64];omega
section
variable {l : List Cask} {den : Int} {ps : List Int}
theorem sumP_eq(h4:l.length≤4)(hp:RightP l den ps){of:Cask→Int}(hof:∀i,i<l.length→(of (l.getD i dfC)).natAbs≤1000) :
  M.sumP of l ps=dot (fun i=>ps.getD i 0*of (l.getD i dfC)) l.length∧(M.sumP of l ps).natAbs≤l.length*2000000000000000000:=by
 have h:=fold_dot (f:=fun a i=>IntKind.i64.wrap (a+IntKind.i64.wrap (ps.getD i 0*of (l.getD i dfC)))) (y:=fun i=>ps.getD i 0*of (l.getD i dfC)) (n:=l.length)
  (fun a i _=>wrap_add_wrap _ _) (fun i hi=>mul_small (hp.part i hi) (hof i hi)) h4
 have e:M.sumP of l ps=(List.range l.length).foldl (fun a i=>IntKind.i64.wrap (a+IntKind.i64.wrap (ps.getD i 0*of (l.getD i dfC)))) 0:=by unfold M.sumP;rw[hp.len]
 rw[e,h.1]
 exact⟨rfl,h.2⟩
theorem vol_bound(h4:l.length≤4)(hp:RightP l den ps):M.sumP (fun _=>1) l ps=dot (fun i=>ps.getD i 0) l.length∧0≤M.sumP (fun _=>1) l ps∧M.sumP (fun _=>1) l ps≤8000000000000000:=by
 have h:=(sumP_eq h4 hp (of:=fun _=>1) fun i hi=>by decide).1
 have e:dot (fun i=>ps.getD i 0*1) l.length=dot (fun i=>ps.getD i 0) l.length:=dot_congr fun i _=>Int.mul_one _
 rw[h,e]
 refine⟨rfl,?_⟩
 have key:∀k,k≤l.length→0≤dot (fun i=>ps.getD i 0) k∧dot (fun i=>ps.getD i 0) k≤k*2000000000000000:=by
  intro k
  induction k with
  |zero=>intro _;exact⟨Int.le_refl _,by show(0:Int)≤_;simp⟩
  |succ k ih=>
   intro hk
   have:=ih (by omega)
   have hq:=hp.part k (by omega)
   have e:dot (fun i=>ps.getD i 0) (k+1)=dot (fun i=>ps.getD i 0) k+ps.getD k 0:=rfl
   rw[e]
   omega
 have:=key _ (Nat.le_refl _)
 omega
end
end Go.Bl
end
section
set_option maxRecDepth 100000
namespace Go.Bl
open Go.V Go.Proofs
namespace M
end M
structure OpenR(l:List Cask)(s:Sample)(den:Int)(ps:List Int):Prop where
 n4:l.length≤4
 right:∀i,i<l.length→RightC (l.getD i dfC)
 parts:RightP l den ps
 vol:M.sumP (fun _=>1) l ps≠0
 r0:(0≤s.r0.lo∧s.r0.lo≤1000)∧(0≤s.r0.hi∧s.r0.hi≤1000)
 r1:(0≤s.r1.lo∧s.r1.lo≤1000)∧(0≤s.r1.hi∧s.r1.hi≤1000)
 r2:(0≤s.r2.lo∧s.r2.lo≤1000)∧(0≤s.r2.hi∧s.r2.hi≤1000)
 r3:(0≤s.r3.lo∧s.r3.lo≤1000)∧(0≤s.r3.hi∧s.r3.hi≤1000)
theorem rg_right{r:Rg}(h:M.rgErr r=0):(0≤r.lo∧r.lo≤1000)∧(0≤r.hi∧r.hi≤1000):=by
 unfold M.rgErr at h
 have h1:=unl_zero (by decide) (first_nil _ h _ (List.mem_cons_self ..))
 rw[Bool.and_eq_true]at h1
 exact⟨within_spec h1.1,within_spec h1.2⟩
section
variable {l : List Cask} {s : Sample} {den : Int} {ps : List Int}
theorem cost_ok(h:OpenR l s den ps):i64ok (M.sumP Cask.cost l ps):=by
 have:=(sumP_eq h.n4 h.parts (of:=Cask.cost) fun i hi=>by have:=(h.right i hi).cost;omega).2
 have:=h.n4
 unfold i64ok;omega
end
end Go.Bl
end
section
namespace Go.Lp
def smI{α:Type}(g:α→Int):List α→Int
 |[]=>0
 |a::l=>g a+smI g l
section
variable {α β γ : Type}
theorem smI_cast{g:α→Int}:∀{l:List α},((smI g l:Int):Rat)=sm (fun a=>(g a:Rat)) l:=by
 intro l
 induction l with
 |nil=>rfl
 |cons a l ih=>simp only[smI,sm];rw[Rat.intCast_add,ih]
theorem smI_congr{g h:α→Int}:∀{l:List α},(∀a,a∈l→g a=h a)→smI g l=smI h l:=by
 intro l
 induction l with
 |nil=>intro _;rfl
 |cons a l ih=>intro e;simp only[smI];rw[e a (List.mem_cons_self ..),ih fun b hb=>e b (List.mem_cons_of_mem _ hb)]
theorem smI_append{g:α→Int}:∀{l k:List α},smI g (l++k)=smI g l+smI g k:=by
 intro l
 induction l with
 |nil=>intro k;simp only[List.nil_append,smI];omega
 |cons a l ih=>intro k;simp only[List.cons_append,smI];rw[ih];omega
theorem smI_add{g h:α→Int}:∀{l:List α},smI (fun a=>g a+h a) l=smI g l+smI h l:=by
 intro l
 induction l with
 |nil=>simp only[smI];omega
 |cons a l ih=>simp only[smI];rw[ih];omega
theorem smI_neg{g:α→Int}:∀{l:List α},smI (fun a=> - g a) l= - smI g l:=by
 intro l
 induction l with
 |nil=>simp only[smI];omega
 |cons a l ih=>simp only[smI];rw[ih];omega
theorem smI_smul{k:Int}{g:α→Int}:∀{l:List α},smI (fun a=>k*g a) l=k*smI g l:=by
 intro l
 induction l with
 |nil=>simp only[smI];omega
 |cons a l ih=>simp only[smI];rw[ih,Int.mul_add]
theorem smI_zero:∀{l:List α},smI (fun _=>(0:Int)) l=0:=by
 intro l
 induction l with
 |nil=>rfl
 |cons a l ih=>simp only[smI];rw[ih];omega
theorem smI_comm{F:α→β→Int}:∀{l:List α} {k:List β},smI (fun a=>smI (F a) k) l=smI (fun b=>smI (fun a=>F a b) l) k:=by
 intro l
 induction l with
 |nil=>intro k;simp only[smI];rw[smI_zero]
 |cons a l ih=>intro k;simp only[smI];rw[ih,smI_add]
theorem smI_le{g h:α→Int}:∀{l:List α},(∀a,a∈l→g a≤h a)→smI g l≤smI h l:=by
 intro l
 induction l with
 |nil=>intro _;exact Int.le_refl _
 |cons a l ih=>
  intro e
  have h1:=e a (List.mem_cons_self ..)
  have h2:=ih fun b hb=>e b (List.mem_cons_of_mem _ hb)
  simp only[smI]
  omega
theorem smI_map{g:β→Int}{h:α→β}:∀{l:List α},smI g (l.map h)=smI (fun a=>g (h a)) l:=by
 intro l
 induction l with
 |nil=>rfl
 |cons a l ih=>simp only[List.map_cons,smI];rw[ih]
theorem sm_map{g:β→Rat}{h:α→β}:∀{l:List α},sm g (l.map h)=sm (fun a=>g (h a)) l:=by
 intro l
 induction l with
 |nil=>rfl
 |cons a l ih=>simp only[List.map_cons,sm];rw[ih]
theorem cramer_col[DecidableEq β]{f:α→β→Rat}{M:List α}{cols:List β}(hl:M.length=cols.length)(hnd:cols.Nodup){x:β→Rat}{r:α→Rat}
  (h:∀a,a∈M→sm (fun c=>f a c*x c) cols=r a) {k:β} (hk:k∈cols):D (fun a c=>if c=k then r a else f a c) M cols=x k*D f M cols:=by
 rw[D_turn hl,D_turn (f:=f) hl]
 obtain⟨P,Q,rfl⟩:=List.append_of_mem hk
 have hn:=hnd
 rw[List.nodup_append]at hn
 obtain⟨_,hq,hpq⟩:=hn
 have hkQ:=(List.nodup_cons.1 hq).1
 have hkP:k∉P:=fun hp=>hpq k hp k (List.mem_cons_self ..) rfl
 obtain⟨g,hg⟩:∃g:Option β→α→Rat,g=fun o a=>match o with|some b=>f a b|none=>r a:=⟨_,rfl⟩
 have key:=Df_repl (f:=g) (cols:=M) (P:=P.map some) (Q:=Q.map some) (j:=some k) (v:=none) (y:=fun o=>match o with|some b=>x b|none=>0) (fun a ha=>by
  have e:P.map some++some k::Q.map some=(P++k::Q).map some:=by simp
  rw[e,sm_map]
  subst hg
  show r a=_
  rw[←h a ha]
  exact sm_congr fun c _=>by show f a c*x c=x c*f a c;grind)
 rw[D_map,List.map_append,List.map_cons]
 rw[D_map (rows:=P++k::Q),List.map_append,List.map_cons]
 rw[D_map,List.map_append,List.map_cons]at key
 rw[D_map (rows:=P.map some++some k::Q.map some),List.map_append,List.map_cons]at key
 simp only[List.map_map]at key
 subst hg
 rw[List.map_congr_left (l:=P) (g:=fun b a=>f a b) (fun b hb=>by
  funext a
  have:b≠k:=fun e=>hkP (by rw[←e];exact hb)
  rw[if_neg this])]
 rw[List.map_congr_left (l:=Q) (g:=fun b a=>f a b) (fun b hb=>by
  funext a
  have:b≠k:=fun e=>hkQ (by rw[←e];exact hb)
  rw[if_neg this])]
 simp only[if_true]
 exact key
theorem cramer_colI[DecidableEq β]{f:α→β→Int}{M:List α}{cols:List β}(hl:M.length=cols.length)(hnd:cols.Nodup){x:β→Rat}{r:α→Int}
  (h:∀a,a∈M→sm (fun c=>(f a c:Rat)*x c) cols=(r a:Rat)) {k:β} (hk:k∈cols):((DI (fun a c=>if c=k then r a else f a c) M cols:Int):Rat)=x k*((DI f M cols:Int):Rat):=by
 rw[D_cast,D_cast]
 have:=cramer_col (f:=fun a c=>(f a c:Rat)) hl hnd (r:=fun a=>(r a:Rat)) h hk
 rw[←this]
 congr 1
 funext a c
 split <;>rfl
def altS(g:β→List β→Nat):List β→Nat
 |[]=>0
 |c::cs=>g c cs+altS (fun d ds=>g d (c::ds)) cs
theorem altI_le:∀{l:List β} {f:β→List β→Int} {g:β→List β→Nat},(∀c cs,(c::cs).Perm l→(f c cs).natAbs≤g c cs)→(altI f l).natAbs≤altS g l:=by
 intro l
 induction l with
 |nil=>intro f g _;simp[altI]
 |cons c cs ih=>
  intro f g h
  simp only[altI,altS]
  have h1:=h c cs (List.Perm.refl _)
  have h2:=ih (f:=fun d ds=>f d (c::ds)) (g:=fun d ds=>g d (c::ds)) (fun d ds hd=>h d (c::ds) ((List.Perm.swap c d ds).trans (hd.cons c)))
  omega
def bnd(K0 K:β→Nat)(cols:List β):Nat:=altS (fun c cs=>K0 c*(fact cs.length*pK K cs)) cols
theorem DI_bnd{f:α→β→Int}{K0 K:β→Nat}{r:α}{rs:List α}{cols:List β}(h:(r::rs).length=cols.length)(h0:∀c,c∈cols→(f r c).natAbs≤K0 c)
  (hb:∀q,q∈rs→∀c,c∈cols→(f q c).natAbs≤K c):(DI f (r::rs) cols).natAbs≤bnd K0 K cols:=by
 simp only[DI]
 refine altI_le fun c cs hp=>?_
 have hlen:=hp.length_eq
 simp only[List.length_cons]at hlen h
 rw[Int.natAbs_mul]
 exact Nat.mul_le_mul (h0 c (hp.subset (List.mem_cons_self ..))) (DI_bound (by omega) fun q hq d hd=>hb q hq d (hp.subset (List.mem_cons_of_mem _ hd)))
end
end Go.Lp
end
section
set_option maxRecDepth 100000
namespace Go.Bl
open Go.V Go.Proofs Go.Lp
theorem DI_idx{n:Nat}{m:List (List Int)}(hl:m.length=n):DI en m (List.range n)=DI (fun i c=>en (m.getD i []) c) (List.range n) (List.range n):=by
 conv=>lhs;rw[←range_getD (l:=m) (d:=[]),hl,DI_map]
theorem en_set{r:List Int}{k c:Nat}{v:Int}(hk:k<r.length):en (r.set k v) c=if c=k then v else en r c:=by
 unfold en
 rw[List.getD_eq_getElem?_getD,List.getElem?_set]
 by_cases h:k=c
 ·subst h;simp[hk]
 ·rw[if_neg h,if_neg (fun e=>h e.symm),←List.getD_eq_getElem?_getD]
theorem getD_mem{α:Type}{l:List α}{d:α}{i:Nat}(h:i<l.length):l.getD i d∈l:=by
 rw[List.getD_eq_getElem?_getD,List.getElem?_eq_getElem h];exact List.getElem_mem h
theorem map_getD{α:Type}{f:Nat→α}{n i:Nat}{d:α}(h:i<n):((List.range n).map f).getD i d=f i:=by
 rw[List.getD_eq_getElem?_getD,List.getElem?_map,List.getElem?_range h];rfl
theorem setCol_DI{n k:Nat}{m:List (List Int)}{r:List Int}(hl:m.length=n)(hrow:∀x,x∈m→x.length=n)(hk:k<n) :
  DI en (M.setCol m k r) (List.range n)=DI (fun i c=>if c=k then r.getD i 0 else en (m.getD i []) c) (List.range n) (List.range n):=by
 unfold M.setCol
 rw[hl,DI_map]
 refine DI_congr fun i hi c hc=>?_
 have hi:=List.mem_range.1 hi
 exact en_set (by rw[hrow _ (getD_mem (by omega))];exact hk)
theorem setCol_len{m:List (List Int)}{k:Nat}{r:List Int}:(M.setCol m k r).length=m.length:=by simp[M.setCol]
theorem small_fact:∀n,n≤5→∀k,k<5→fact n*pK (fun c=>if c=k then 10000 else 1000) (List.range n)<9223372036854775808:=by decide +kernel
theorem small_fact0:∀n,n≤5→fact n*pK (fun _=>1000) (List.range n)<9223372036854775808:=by decide +kernel
structure Sq(n:Nat)(m:List (List Int)):Prop where
 n5:n≤5
 len:m.length=n
 row:∀r,r∈m→r.length=n
 ent:∀r,r∈m→∀c,(en r c).natAbs≤1000
theorem Sq.turned{n:Nat}{m:List (List Int)}(h:Sq n m):Sq n (M.turned m):=by
 refine⟨h.n5,turned_len.1.trans h.len,fun r hr=>(turned_len.2 r hr).trans h.len,fun r hr c=>getD_small (fun x hx=>?_) c⟩
 unfold M.turned at hr
 obtain⟨k,_,rfl⟩:=List.mem_map.1 hr
 obtain⟨i,hi,rfl⟩:=List.mem_map.1 hx
 exact h.ent _ (getD_mem (List.mem_range.1 hi)) k
theorem Sq.det{n:Nat}{m:List (List Int)}(h:Sq n m):M.det m=DI en m (List.range n):=det_small h.n5 h.len h.row h.ent
theorem Sq.det_b{n:Nat}{m:List (List Int)}(h:Sq n m):(DI en m (List.range n)).natAbs<9223372036854775808:=by
 refine Nat.lt_of_le_of_lt (DI_bound (K:=fun _=>1000) (by simp[h.len]) fun r hr c _=>h.ent r hr c) ?_
 rw[List.length_range];exact small_fact0 n h.n5
theorem Sq.set{n k:Nat}{m:List (List Int)}{r:List Int}(h:Sq n m)(hr:∀i,(r.getD i 0).natAbs≤10000)(hk:k<n) :
  M.det (M.setCol m k r)=DI en (M.setCol m k r) (List.range n)∧(DI en (M.setCol m k r) (List.range n)).natAbs<9223372036854775808:=by
 have hK:=small_fact n h.n5 k (by have:=h.n5;omega)
 have hrow:∀x,x∈M.setCol m k r→x.length=n:=by
  intro x hx
  unfold M.setCol at hx
  obtain⟨i,hi,rfl⟩:=List.mem_map.1 hx
  rw[List.length_set]
  exact h.row _ (getD_mem (List.mem_range.1 hi))
 have hent:∀x,x∈M.setCol m k r→∀c,(en x c).natAbs≤(if c=k then 10000 else 1000):=by
  intro x hx c
  unfold M.setCol at hx
  obtain⟨i,hi,rfl⟩:=List.mem_map.1 hx
  have hm:=getD_mem (d:=([]:List Int)) (List.mem_range.1 hi)
  rw[en_set (by rw[h.row _ hm];exact hk)]
  split
  ·exact hr i
  ·exact h.ent _ hm c
 constructor
 ·exact det_eq (K:=fun c=>if c=k then 10000 else 1000) h.n5 (fun c=>by split <;>decide) (by rw[setCol_len];exact h.len) hrow (fun x hx c _=>hent x hx c) hK
 ·refine Nat.lt_of_le_of_lt (DI_bound (K:=fun c=>if c=k then 10000 else 1000) (by simp[setCol_len,h.len]) fun x hx c _=>hent x hx c) ?_
  rw[List.length_range];exact hK
theorem neg_ok{x:Int}(h:x.natAbs<9223372036854775808):M.neg x= - x:=by
 unfold M.neg
 rw[wrap_id (by omega) (by omega)];omega
theorem solve_exact{n:Nat}{m:List (List Int)}{r:List Int}(h:Sq n m)(hr:∀i,(r.getD i 0).natAbs≤10000)(hd:DI en m (List.range n)≠0) :
  M.den m r=((DI en m (List.range n)).natAbs:Int)∧(M.sol m r).length=n∧∀k,k<n→(M.sol m r).getD k 0=if DI en m (List.range n)<0 then-DI en (M.setCol m k r) (List.range n)else DI en (M.setCol m k r) (List.range n):=by
 have hdet:=h.det
 have hb:=h.det_b
 have hne:(M.det m==0)=false:=by rw[hdet];simpa using hd
 have hsol:M.solve m r=((List.range m.length).map fun k=>cond (decide (M.det m<0)) (M.neg (M.det (M.setCol m k r))) (M.det (M.setCol m k r)),if M.neg (M.det m)>M.det m then M.neg (M.det m)else M.det m):=by
  unfold M.solve;rw[hne];rfl
 refine⟨?_,?_,fun k hk=>?_⟩
 ·unfold M.den
  rw[hsol]
  show(if M.neg (M.det m)>M.det m then M.neg (M.det m)else M.det m)=_
  rw[hdet,neg_ok hb]
  split <;>omega
 ·unfold M.sol;rw[hsol];simp[h.len]
 ·unfold M.sol
  rw[hsol]
  obtain⟨e1,e2⟩:=h.set hr hk
  show((List.range m.length).map _).getD k 0=_
  rw[map_getD (by rw[h.len];exact hk),hdet,e1,neg_ok e2]
  by_cases hs:DI en m (List.range n)<0
  ·rw[if_pos hs,decide_eq_true hs];rfl
  ·rw[if_neg hs,decide_eq_false hs];rfl
theorem solve_den{n:Nat}{m:List (List Int)}{r:List Int}(h:Sq n m)(hd:DI en m (List.range n)=0):M.den m r=0:=by
 unfold M.den M.solve
 rw[h.det,hd];rfl
theorem sol_spec{n:Nat}{m:List (List Int)}{r:List Int}(h:Sq n m)(hr:∀i,(r.getD i 0).natAbs≤10000)(hd:DI en m (List.range n)≠0){x:Nat→Rat}
  (hx:∀i,i<n→sm (fun c=>((en (m.getD i []) c:Int):Rat)*x c) (List.range n)=((r.getD i 0:Int):Rat)):∀k,k<n→(((M.sol m r).getD k 0:Int):Rat)=x k*((M.den m r:Int):Rat):=by
 intro k hk
 obtain⟨e1,_,e3⟩:=solve_exact h hr hd
 rw[e1,e3 k hk,setCol_DI h.len h.row hk]
 have key:=cramer_colI (f:=fun i c=>en (m.getD i []) c) (M:=List.range n) (cols:=List.range n) rfl List.nodup_range (r:=fun i=>r.getD i 0) (x:=x) (fun i hi=>hx i (List.mem_range.1 hi)) (List.mem_range.2 hk)
 rw[←DI_idx h.len]at key
 by_cases hs:DI en m (List.range n)<0
 ·rw[if_pos hs,Rat.intCast_neg,key,show((DI en m (List.range n)).natAbs:Int)= - DI en m (List.range n) by omega,Rat.intCast_neg]
  grind
 ·rw[if_neg hs,key,show((DI en m (List.range n)).natAbs:Int)=DI en m (List.range n) by omega]
theorem sol_ex{n:Nat}{m:List (List Int)}(r:List Int)(hl:m.length=n)(hd:DI en m (List.range n)≠0):∃x:Nat→Rat,∀i,i<n→sm (fun c=>((en (m.getD i []) c:Int):Rat)*x c) (List.range n)=((r.getD i 0:Int):Rat):=by
 rw[DI_idx hl]at hd
 obtain⟨x,hx⟩:=corner_ex (f:=fun i c=>((en (m.getD i []) c:Int):Rat)) (M:=List.range n) (cols:=List.range n) rfl (D_ne.2 hd) (fun i=>((r.getD i 0:Int):Rat))
 exact⟨x,fun i hi=>hx i (List.mem_range.2 hi)⟩
theorem den_pos{n:Nat}{m:List (List Int)}{r:List Int}(h:Sq n m)(hr:∀i,(r.getD i 0).natAbs≤10000)(hd:DI en m (List.range n)≠0):0<M.den m r:=by
 rw[(solve_exact h hr hd).1];omega
def dl(n:Nat)(a b:List Int):Int:=smI (fun c=>en a c*en b c) (List.range n)
theorem sol_rows{n:Nat}{m:List (List Int)}{r:List Int}(h:Sq n m)(hr:∀i,(r.getD i 0).natAbs≤10000)(hd:DI en m (List.range n)≠0):∀i,i<n→dl n (m.getD i []) (M.sol m r)=r.getD i 0*M.den m r:=by
 intro i hi
 obtain⟨x,hx⟩:=sol_ex r h.len hd
 have hs:=sol_spec h hr hd hx
 apply Rat.intCast_inj.1
 unfold dl
 rw[smI_cast,sm_congr (h:=fun c=>((M.den m r:Int):Rat)*(((en (m.getD i []) c:Int):Rat)*x c)) (fun c hc=>by
  have:=hs c (List.mem_range.1 hc)
  unfold en at this ⊢
  rw[Rat.intCast_mul,this];grind),sm_smul,hx i hi,Rat.intCast_mul]
 grind
theorem dl_cons(n:Nat)(a b:Int)(p q:List Int):dl (n+1) (a::p) (b::q)=a*b+dl n p q:=by
 unfold dl
 rw[List.range_succ_eq_map]
 simp only[smI]
 rw[smI_map]
 rfl
theorem dot_exact:∀(p q:List Int) (acc:Int) (B:Nat),p.length=q.length→(∀k,k<p.length→(en p k*en q k).natAbs≤B)→acc.natAbs+p.length*B<9223372036854775808→M.dot p q acc=acc+dl p.length p q:=by
 intro p
 induction p with
 |nil=>intro q acc B _ _ _;cases q <;>simp[M.dot,dl,smI]
 |cons a p ih=>
  intro q acc B hl hb hs
  cases q with
  |nil=>simp at hl
  |cons b q=>
   have h0:(a*b).natAbs≤B:=hb 0 (by simp)
   have hl':p.length=q.length:=by simpa using hl
   have hs':acc.natAbs+(p.length*B+B)<9223372036854775808:=by rw[List.length_cons,Nat.succ_mul]at hs;exact hs
   have hw:IntKind.i64.wrap (acc+IntKind.i64.wrap (a*b))=acc+a*b:=by
    rw[wrap_add_wrap]
    exact wrap_id (by omega) (by omega)
   show M.dot p q (IntKind.i64.wrap (acc+IntKind.i64.wrap (a*b)))=_
   rw[hw,ih q (acc+a*b) B hl' (fun k hk=>hb (k+1) (by simp;omega)) (by omega),List.length_cons,dl_cons]
   omega
theorem keeps_iff{cs:List Cond}{pt:List Int}{den:Int}(h:∀c,c∈cs→M.dot c.coefs pt 0=dl pt.length c.coefs pt∧IntKind.i64.wrap (c.limit*den)=c.limit*den):M.keeps cs pt den=true↔∀c,c∈cs→dl pt.length c.coefs pt≤c.limit*den:=by
 induction cs with
 |nil=>simp[M.keeps]
 |cons c l ih=>
  obtain⟨h1,h2⟩:=h c (List.mem_cons_self ..)
  have ih:=ih fun d hd=>h d (List.mem_cons_of_mem _ hd)
  unfold M.keeps
  rw[h1,h2]
  by_cases hc:dl pt.length c.coefs pt>c.limit*den
  ·rw[decide_eq_true hc]
   constructor
   ·intro e;cases e
   ·intro e;exact absurd (e c (List.mem_cons_self ..)) (by omega)
  ·rw[decide_eq_false hc]
   show M.keeps l pt den=true↔_
   rw[ih]
   constructor
   ·intro e d hd
    rcases List.mem_cons.1 hd with rfl|hd
    ·omega
    ·exact e d hd
   ·intro e d hd;exact e d (List.mem_cons_of_mem _ hd)
theorem nonpos_iff(l:List Int):M.nonpos l=true↔∀x,x∈l→x≤0:=by
 induction l with
 |nil=>simp[M.nonpos]
 |cons n l ih=>
  unfold M.nonpos
  by_cases hn:n≤0
  ·rw[decide_eq_true hn]
   show M.nonpos l=true↔_
   rw[ih]
   constructor
   ·intro e x hx
    rcases List.mem_cons.1 hx with rfl|hx
    ·exact hn
    ·exact e x hx
   ·intro e x hx;exact e x (List.mem_cons_of_mem _ hx)
  ·rw[decide_eq_false hn]
   constructor
   ·intro e;cases e
   ·intro e;exact absurd (e n (List.mem_cons_self ..)) hn
theorem pick_some{α:Type}{f:List Cond→Option α}{y:α}:∀{l:List Cond} {k:Nat} {set:List Cond},M.pick f k l set=some y→∃t,t.Sublist l∧t.length=k∧f (set++t)=some y:=by
 intro l
 induction l with
 |nil=>
  intro k set h
  cases k with
  |zero=>exact⟨[],List.Sublist.refl _,rfl,by rw[List.append_nil];exact h⟩
  |succ k=>cases h
 |cons c l ih=>
  intro k set h
  cases k with
  |zero=>exact⟨[],List.nil_sublist _,rfl,by rw[List.append_nil];exact h⟩
  |succ k=>
   have h:M.ore (M.pick f k l (set++ [c])) (M.pick f (k+1) l set)=some y:=h
   cases hp:M.pick f k l (set++ [c])with
   |some z=>
    rw[hp]at h
    have h:some z=some y:=h
    rw[←hp]at h
    obtain⟨t,h1,h2,h3⟩:=ih h
    exact⟨c::t,h1.cons_cons c,by simp[h2],by simpa using h3⟩
   |none=>
    rw[hp]at h
    have h:M.pick f (k+1) l set=some y:=h
    obtain⟨t,h1,h2,h3⟩:=ih h
    exact⟨t,h1.cons c,h2,h3⟩
end Go.Bl
end
section
set_option maxRecDepth 100000
namespace Go.Bl
open Go.V Go.Proofs Go.Lp
def dK:Cond:=⟨0,0,[],0⟩
theorem mat0(sh:List Int)(set:List Cond):(M.mat sh set).getD 0 []=sh:=rfl
theorem matS(sh:List Int)(set:List Cond)(q:Nat):(M.mat sh set).getD (q+1) []=(set.getD q dK).coefs:=by
 show(set.map Cond.coefs).getD q []=_
 rw[List.getD_eq_getElem?_getD,List.getD_eq_getElem?_getD,List.getElem?_map]
 cases set[q]? <;>rfl
theorem right0(sum:Int)(set:List Cond):(M.right sum set).getD 0 0=sum:=rfl
theorem rightS(sum:Int)(set:List Cond)(q:Nat):(M.right sum set).getD (q+1) 0=(set.getD q dK).limit:=by
 show(set.map Cond.limit).getD q 0=_
 rw[List.getD_eq_getElem?_getD,List.getD_eq_getElem?_getD,List.getElem?_map]
 cases set[q]? <;>rfl
structure Small(n:Nat)(sh wo:List Int)(sum:Int)(cs:List Cond):Prop where
 n1:1≤n
 n5:n≤5
 sl:sh.length=n
 wl:wo.length=n
 she:∀x,x∈sh→x.natAbs≤1000
 woe:∀x,x∈wo→x.natAbs≤1000
 sume:sum.natAbs≤10000
 cl:∀c,c∈cs→c.coefs.length=n
 ce:∀c,c∈cs→∀x,x∈c.coefs→x.natAbs≤1000
 le:∀c,c∈cs→c.limit.natAbs≤10000
 keep:∀set:List Cond,set.length+1=n→(∀c,c∈set→c∈cs)→DI en (M.mat sh set) (List.range n)≠0→∀c,c∈cs →
  M.dot c.coefs (M.sol (M.mat sh set) (M.right sum set)) 0=dl n c.coefs (M.sol (M.mat sh set) (M.right sum set))∧IntKind.i64.wrap (c.limit*M.den (M.mat sh set) (M.right sum set))=c.limit*M.den (M.mat sh set) (M.right sum set)
theorem sq_mat{n:Nat}{sh:List Int}{cs set:List Cond}(n5:n≤5)(sl:sh.length=n)(she:∀x,x∈sh→x.natAbs≤1000)(cl:∀c,c∈cs→c.coefs.length=n)(ce:∀c,c∈cs→∀x,x∈c.coefs→x.natAbs≤1000)
  (hs:set.length+1=n) (hm:∀c,c∈set→c∈cs):Sq n (M.mat sh set):=by
 refine⟨n5,by simp[M.mat];omega,fun r hr=>?_,fun r hr c=>?_⟩
 ·rcases List.mem_cons.1 hr with rfl|hr
  ·exact sl
  ·obtain⟨c,hcm,rfl⟩:=List.mem_map.1 hr
   exact cl c (hm c hcm)
 ·rcases List.mem_cons.1 hr with rfl|hr
  ·exact getD_small she c
  ·obtain⟨d,hcm,rfl⟩:=List.mem_map.1 hr
   exact getD_small (ce d (hm d hcm)) c
theorem right_small{sum:Int}{cs set:List Cond}(sume:sum.natAbs≤10000)(le:∀c,c∈cs→c.limit.natAbs≤10000)(hm:∀c,c∈set→c∈cs)(i:Nat):((M.right sum set).getD i 0).natAbs≤10000:=by
 refine getD_small (l:=M.right sum set) (fun x hx=>?_) i
 rcases List.mem_cons.1 hx with rfl|hx
 ·exact sume
 ·obtain⟨c,hcm,rfl⟩:=List.mem_map.1 hx
  exact le c (hm c hcm)
section
variable {n : Nat} {sh wo : List Int} {sum : Int} {cs : List Cond}
theorem Small.sq(h:Small n sh wo sum cs){set:List Cond}(hs:set.length+1=n)(hm:∀c,c∈set→c∈cs):Sq n (M.mat sh set):=sq_mat h.n5 h.sl h.she h.cl h.ce hs hm
theorem Small.rs(h:Small n sh wo sum cs){set:List Cond}(hm:∀c,c∈set→c∈cs)(i:Nat):((M.right sum set).getD i 0).natAbs≤10000:=right_small h.sume h.le hm i
theorem Small.ws(h:Small n sh wo sum cs)(i:Nat):(wo.getD i 0).natAbs≤10000:=getD_small (l:=wo) (fun x hx=>Nat.le_trans (h.woe x hx) (by decide)) i
theorem turned_ne{m:List (List Int)}(hm:Sq n m)(hd:DI en m (List.range n)≠0):DI en (M.turned m) (List.range n)≠0:=by rw[turned_DI hm.len];exact hd
theorem turned_at{m:List (List Int)}(hm:Sq n m){j i:Nat}(hj:j<n)(hi:i<n):en ((M.turned m).getD j []) i=en (m.getD i []) j:=by
 unfold M.turned en
 rw[hm.len,map_getD hj,map_getD hi]
theorem rows_sum{set:List Cond}(hs:set.length+1=n){j:Nat}(v:List Int):smI (fun i=>en ((M.mat sh set).getD i []) j*en v i) (List.range n)=en sh j*en v 0+smI (fun q=>en (set.getD q dK).coefs j*en v (q+1)) (List.range set.length):=by
 rw[←hs,List.range_succ_eq_map]
 simp only[smI]
 rw[smI_map,mat0]
 congr 1
 exact smI_congr fun q _=>by show en ((M.mat sh set).getD (q+1) []) j*_=_;rw[matS]
structure Opt(n:Nat)(sh:List Int)(sum:Int)(wo:List Int)(cs:List Cond)(x:M.Corner):Prop where
 sub:x.tight.Sublist cs
 tl:x.tight.length+1=n
 den:0<x.den
 wd:0<x.wd
 pl:x.pt.length=n
 bl:x.by_.length=x.tight.length
 sum:dl n sh x.pt=sum*x.den
 all:∀c,c∈cs→dl n c.coefs x.pt≤c.limit*x.den
 eq:∀q,q<x.tight.length→dl n (x.tight.getD q dK).coefs x.pt=(x.tight.getD q dK).limit*x.den
 nn:∀q,q<x.tight.length→0≤en x.by_ q
 dual:∀j,j<n→x.each*en sh j-smI (fun q=>en x.by_ q*en (x.tight.getD q dK).coefs j) (List.range x.tight.length)=en wo j*x.wd
 denE:x.den=((DI en (M.mat sh x.tight) (List.range n)).natAbs:Int)
 wdE:x.wd=((DI en (M.mat sh x.tight) (List.range n)).natAbs:Int)
 eachE:x.each.natAbs=(DI en (M.setCol (M.turned (M.mat sh x.tight)) 0 wo) (List.range n)).natAbs
 byE:∀q,q<x.tight.length→(en x.by_ q).natAbs=(DI en (M.setCol (M.turned (M.mat sh x.tight)) (q+1) wo) (List.range n)).natAbs
theorem if_neg_abs{p:Prop}[Decidable p](a:Int):(if p then -a else a).natAbs=a.natAbs:=by split <;>omega
theorem corner_opt(h:Small n sh wo sum cs){set:List Cond}(hs:set.length+1=n)(hsub:set.Sublist cs){x:M.Corner}(hc:M.corner sh sum wo cs set=some x):Opt n sh sum wo cs x:=by
 have hm:∀c,c∈set→c∈cs:=fun c hc=>hsub.subset hc
 have hq:=h.sq hs hm
 have hr:=h.rs (set:=set) hm
 have hw:=h.ws
 unfold M.corner at hc
 cases h1:M.den (M.mat sh set) (M.right sum set)==0
 case true=>rw[h1]at hc;cases hc
 rw[h1]at hc
 cases h2:M.keeps cs (M.sol (M.mat sh set) (M.right sum set)) (M.den (M.mat sh set) (M.right sum set))
 ·rw[h2]at hc;cases hc
 rw[h2]at hc
 cases h3:M.nonpos (M.sol (M.turned (M.mat sh set)) wo).tail
 ·rw[h3]at hc;cases hc
 rw[h3]at hc
 simp only[cond_true,cond_false,Option.some.injEq]at hc
 have hd:DI en (M.mat sh set) (List.range n)≠0:=by
  intro e
  rw[solve_den hq e]at h1
  exact absurd h1 (by decide)
 have hqT:=hq.turned
 have hdT:=turned_ne hq hd
 obtain⟨e1,e2,e3⟩:=solve_exact hq hr hd
 obtain⟨t1,t2,t3⟩:=solve_exact hqT hw hdT
 have hkeep:=h.keep set hs hm hd
 have hall:=(keeps_iff (pt:=M.sol (M.mat sh set) (M.right sum set)) (by rw[e2];exact hkeep)).1 h2
 rw[e2]at hall
 have hrows:=sol_rows hq hr hd
 have hrowsT:=sol_rows hqT hw hdT
 have hnp:=(nonpos_iff _).1 h3
 have htl:∀q,(M.sol (M.turned (M.mat sh set)) wo).tail.getD q 0=(M.sol (M.turned (M.mat sh set)) wo).getD (q+1) 0:=by
  intro q
  cases M.sol (M.turned (M.mat sh set)) wo <;>rfl
 have hlt:(M.sol (M.turned (M.mat sh set)) wo).tail.length=set.length:=by rw[List.length_tail,t2];omega
 have hbq:∀q,q<set.length→en (M.negs (M.sol (M.turned (M.mat sh set)) wo).tail) q= - (M.sol (M.turned (M.mat sh set)) wo).getD (q+1) 0:=by
  intro q hql
  unfold M.negs en
  rw[List.getD_eq_getElem?_getD,List.getElem?_map]
  have hx:(M.sol (M.turned (M.mat sh set)) wo).tail[q]? = some ((M.sol (M.turned (M.mat sh set)) wo).getD (q+1) 0):=by
   rw[←htl q,List.getD_eq_getElem?_getD]
   rw[List.getElem?_eq_getElem (by rw[hlt];exact hql)];rfl
  rw[hx]
  show M.neg _=_
  refine neg_ok ?_
  rw[t3 (q+1) (by omega),if_neg_abs]
  exact(hqT.set hw (by omega)).2
 subst hc
 refine⟨hsub,hs,den_pos hq hr hd,den_pos hqT hw hdT,e2,by simp[M.negs];rw[t2];omega,?_,hall,fun q hql=>?_,fun q hql=>?_,fun j hj=>?_,e1,by rw[←turned_DI hq.len];exact t1,?_,fun q hql=>?_⟩
 ·have:=hrows 0 (by omega)
  rw[mat0,right0]at this
  exact this
 ·have:=hrows (q+1) (by have:q<set.length:=hql;omega)
  rw[matS,rightS]at this
  exact this
 ·show 0≤en (M.negs _) q
  rw[hbq q hql]
  have:=hnp ((M.sol (M.turned (M.mat sh set)) wo).tail.getD q 0) (getD_mem (by rw[hlt];exact hql))
  rw[htl]at this
  omega
 ·have:=hrowsT j hj
  unfold dl at this
  rw[smI_congr (h:=fun i=>en ((M.mat sh set).getD i []) j*en (M.sol (M.turned (M.mat sh set)) wo) i) (fun i hi=>by rw[turned_at hq hj (List.mem_range.1 hi)]),rows_sum hs]at this
  show(M.sol (M.turned (M.mat sh set)) wo).getD 0 0*en sh j-smI (fun q=>en (M.negs _) q*en (set.getD q dK).coefs j) (List.range set.length)=en wo j*_
  rw[smI_congr (h:=fun q=> - (en (set.getD q dK).coefs j*en (M.sol (M.turned (M.mat sh set)) wo) (q+1))) (fun q hql=>by
   rw[hbq q (List.mem_range.1 hql),Int.neg_mul,Int.mul_comm];rfl),smI_neg]
  have e4:(M.sol (M.turned (M.mat sh set)) wo).getD 0 0*en sh j=en sh j*en (M.sol (M.turned (M.mat sh set)) wo) 0:=Int.mul_comm _ _
  have e5:wo.getD j 0=en wo j:=rfl
  rw[e5]at this
  rw[e4,←this]
  show _ - - _=_
  omega
 ·show((M.sol (M.turned (M.mat sh set)) wo).getD 0 0).natAbs=_
  rw[t3 0 (by omega),if_neg_abs]
 ·show(en (M.negs _) q).natAbs=_
  have hql:q<set.length:=hql
  rw[hbq q hql,Int.natAbs_neg,t3 (q+1) (by omega),if_neg_abs]
theorem psolve_some(h:Small n sh wo sum cs){x:M.Corner}(hp:M.psolve sh sum wo cs=some x):Opt n sh sum wo cs x:=by
 unfold M.psolve at hp
 obtain⟨t,h1,h2,h3⟩:=pick_some hp
 have:=h.n1;have:=h.sl
 exact corner_opt h (set:=t) (by omega) h1 h3
end
end Go.Bl
end
section
set_option maxRecDepth 100000
namespace Go.Bl
open Go.V Go.Proofs Go.Lp
theorem smI_succ{g:Nat→Int}{n:Nat}:smI g (List.range (n+1))=smI g (List.range n)+g n:=by
 rw[List.range_succ,smI_append];simp only[smI];omega
theorem smI_dot{g:Nat→Int}:∀{n:Nat},smI g (List.range n)=dot g n
 |0=>rfl
 |n+1=>by rw[smI_succ,smI_dot];rfl
theorem smI_if{g:Nat→Int}{k:Nat}{v:Int}:∀{n:Nat},smI (fun i=>g i+if i=k then v else 0) (List.range n)=smI g (List.range n)+if k<n then v else 0
 |0=>by simp[smI]
 |n+1=>by
  rw[smI_succ,smI_if,smI_succ]
  by_cases h:n=k
  ·subst h;simp only[if_true,Nat.lt_irrefl,if_false,Nat.lt_succ_self];omega
  ·rw[if_neg h]
   by_cases h2:k<n
   ·rw[if_pos h2,if_pos (by omega)];omega
   ·rw[if_neg h2,if_neg (by omega)];omega
def phi(w:Wts)(m:Nat)(f1 f2 f3:Nat→Int):Int:=
 smI (fun i=>en w.casks i*f1 i) (List.range m)+(w.x0*f2 0+w.x1*f2 1+w.x2*f2 2+w.x3*f2 3)+(w.y0*f3 0+w.y1*f3 1+w.y2*f3 2+w.y3*f3 3)
def ph(f1 f2 f3:Nat→Int)(c:Cond):Int:=if c.kind=1 then f1 c.which.toNat else if c.kind=2 then f2 c.which.toNat else if c.kind=3 then f3 c.which.toNat else 0
def wx(w:Wts):Nat→Int
 |0=>w.x0
 |1=>w.x1
 |2=>w.x2
 |_=>w.x3
def wy(w:Wts):Nat→Int
 |0=>w.y0
 |1=>w.y1
 |2=>w.y2
 |_=>w.y3
def slot(w:Wts)(c:Cond):Int:=if c.kind=1 then en w.casks c.which.toNat else if c.kind=2 then wx w c.which.toNat else if c.kind=3 then wy w c.which.toNat else 0
def Each(P:Int→Prop)(w:Wts):Prop:=(∀i,P (en w.casks i))∧(P w.x0∧P w.x1∧P w.x2∧P w.x3)∧(P w.y0∧P w.y1∧P w.y2∧P w.y3)
def CondOK(m:Nat)(c:Cond):Prop:=0≤c.which∧(c.kind=1→c.which.toNat<m)∧(c.kind=2∨c.kind=3→c.which.toNat<4)
theorem four{k:Nat}(h:k<4):k=0∨k=1∨k=2∨k=3:=by omega
theorem beq_of_eq{a b:Int}(h:a=b):(a==b)=true:=by rw[h];exact beq_self_eq_true b
theorem beq_of_ne{a b:Int}(h:a≠b):(a==b)=false:=by rw[Bool.eq_false_iff];intro e;exact h (eq_of_beq e)
theorem step_phi{w:Wts}{m:Nat}{c:Cond}{b:Int}{f1 f2 f3:Nat→Int}(hm:w.casks.length=m)(hc:CondOK m c)(h0:slot w c=0):phi (M.wStep w c b) m f1 f2 f3=phi w m f1 f2 f3+b*ph f1 f2 f3 c:=by
 unfold M.wStep
 by_cases k1:c.kind=1
 ·rw[beq_of_eq k1]
  have hw:=hc.2.1 k1
  unfold slot at h0
  rw[if_pos k1]at h0
  unfold phi ph
  rw[if_pos k1]
  show smI (fun i=>en (w.casks.set c.which.toNat b) i*f1 i) (List.range m)+_+_=_
  rw[smI_congr (h:=fun i=>en w.casks i*f1 i+if i=c.which.toNat then b*f1 c.which.toNat else 0) (fun i _=>by
   rw[en_set (by omega)]
   by_cases e:i=c.which.toNat
   ·subst e;rw[if_pos rfl,if_pos rfl,h0];omega
   ·rw[if_neg e,if_neg e];omega),smI_if,if_pos hw]
  simp only[cond_true]
  omega
 ·rw[beq_of_ne k1]
  by_cases k2:c.kind=2
  ·rw[beq_of_eq k2]
   have hw:=hc.2.2 (.inl k2)
   unfold slot at h0
   rw[if_neg k1,if_pos k2]at h0
   unfold phi ph
   rw[if_neg k1,if_pos k2]
   simp only[cond_true,cond_false]
   rcases four hw with e|e|e|e <;>rw[e]at h0 ⊢ <;>simp only[wx]at h0 <;>simp[h0] <;>omega
  ·rw[beq_of_ne k2]
   by_cases k3:c.kind=3
   ·rw[beq_of_eq k3]
    have hw:=hc.2.2 (.inr k3)
    unfold slot at h0
    rw[if_neg k1,if_neg k2,if_pos k3]at h0
    unfold phi ph
    rw[if_neg k1,if_neg k2,if_pos k3]
    simp only[cond_true,cond_false]
    rcases four hw with e|e|e|e <;>rw[e]at h0 ⊢ <;>simp only[wy]at h0 <;>simp[h0] <;>omega
   ·rw[beq_of_ne k3]
    unfold ph
    rw[if_neg k1,if_neg k2,if_neg k3,Int.mul_zero,Int.add_zero]
    rfl
theorem step_len{w:Wts}{c:Cond}{b:Int}:(M.wStep w c b).casks.length=w.casks.length:=by
 unfold M.wStep
 cases c.kind==1 <;>cases c.kind==2 <;>cases c.kind==3 <;>simp
theorem step_slot{w:Wts}{m:Nat}{c d:Cond}{b:Int}(hm:w.casks.length=m)(hc:CondOK m c)(hd:CondOK m d)(hne:(c.kind,c.which)≠(d.kind,d.which)):slot (M.wStep w c b) d=slot w d:=by
 have hx:c.kind=d.kind→c.which.toNat≠d.which.toNat:=by
  intro e1 e2
  apply hne
  have:=hc.1;have:=hd.1
  rw[e1,show c.which=d.which by omega]
 unfold M.wStep
 by_cases k1:c.kind=1
 ·rw[beq_of_eq k1]
  simp only[cond_true]
  unfold slot
  by_cases d1:d.kind=1
  ·rw[if_pos d1,if_pos d1]
   show en (w.casks.set _ b) _=_
   rw[en_set (by have:=hc.2.1 k1;omega),if_neg (fun e=>hx (by rw[k1,d1]) e.symm)]
  ·rw[if_neg d1,if_neg d1];rfl
 ·rw[beq_of_ne k1]
  by_cases k2:c.kind=2
  ·rw[beq_of_eq k2]
   simp only[cond_true,cond_false]
   unfold slot
   by_cases d1:d.kind=1
   ·rw[if_pos d1,if_pos d1]
   ·rw[if_neg d1,if_neg d1]
    by_cases d2:d.kind=2
    ·rw[if_pos d2,if_pos d2]
     have h1:=hx (by rw[k2,d2])
     rcases four (hc.2.2 (.inl k2))with e|e|e|e <;>rcases four (hd.2.2 (.inl d2))with f|f|f|f <;>rw[e,f]at h1 <;>first|exact absurd rfl h1|(rw[e,f];rfl)
    ·rw[if_neg d2,if_neg d2]
     by_cases d3:d.kind=3
     ·rw[if_pos d3,if_pos d3]
      rcases four (hd.2.2 (.inr d3))with f|f|f|f <;>rw[f] <;>rfl
     ·rw[if_neg d3,if_neg d3]
  ·rw[beq_of_ne k2]
   by_cases k3:c.kind=3
   ·rw[beq_of_eq k3]
    simp only[cond_true,cond_false]
    unfold slot
    by_cases d1:d.kind=1
    ·rw[if_pos d1,if_pos d1]
    ·rw[if_neg d1,if_neg d1]
     by_cases d2:d.kind=2
     ·rw[if_pos d2,if_pos d2]
      rcases four (hd.2.2 (.inl d2))with f|f|f|f <;>rw[f] <;>rfl
     ·rw[if_neg d2,if_neg d2]
      by_cases d3:d.kind=3
      ·rw[if_pos d3,if_pos d3]
       have h1:=hx (by rw[k3,d3])
       rcases four (hc.2.2 (.inr k3))with e|e|e|e <;>rcases four (hd.2.2 (.inr d3))with f|f|f|f <;>rw[e,f]at h1 <;>first|exact absurd rfl h1|(rw[e,f];rfl)
      ·rw[if_neg d3,if_neg d3]
   ·rw[beq_of_ne k3];rfl
theorem step_each{P:Int→Prop}{w:Wts}{c:Cond}{b:Int}(h:Each P w)(hb:P b)(h0:P 0):Each P (M.wStep w c b):=by
 obtain⟨h1,⟨x0,x1,x2,x3⟩,y0,y1,y2,y3⟩:=h
 unfold M.wStep
 cases c.kind==1
 ·cases c.kind==2
  ·cases c.kind==3
   ·exact⟨h1,⟨x0,x1,x2,x3⟩,y0,y1,y2,y3⟩
   ·refine⟨h1,⟨x0,x1,x2,x3⟩,?_,?_,?_,?_⟩ <;>simp only[cond_true,cond_false] <;>split <;>assumption
  ·refine⟨h1,⟨?_,?_,?_,?_⟩,y0,y1,y2,y3⟩ <;>simp only[cond_true,cond_false] <;>split <;>assumption
 ·refine⟨fun i=>?_,⟨x0,x1,x2,x3⟩,y0,y1,y2,y3⟩
  show P (en (w.casks.set _ b) i)
  by_cases hk:c.which.toNat<w.casks.length
  ·rw[en_set hk];split
   ·exact hb
   ·exact h1 i
  ·rw[List.set_eq_of_length_le (by omega)];exact h1 i
theorem step_fix{w:Wts}{c:Cond}{b:Int}:(M.wStep w c b).den=w.den∧(M.wStep w c b).each=w.each:=by
 unfold M.wStep
 cases c.kind==1 <;>cases c.kind==2 <;>cases c.kind==3 <;>exact⟨rfl,rfl⟩
theorem en_zeros(n i:Nat):en (List.replicate n 0) i=0:=by
 unfold en
 rw[List.getD_eq_getElem?_getD,List.getElem?_replicate]
 split <;>rfl
theorem slot_zeros(wd each:Int)(m:Nat)(c:Cond):slot ⟨wd,each,0,0,0,0,0,0,0,0,List.replicate m 0⟩ c=0:=by
 unfold slot
 split
 ·exact en_zeros _ _
 ·split
  ·unfold wx;split <;>rfl
  ·split
   ·unfold wy;split <;>rfl
   ·rfl
theorem phi_zeros(wd each:Int)(m:Nat)(f1 f2 f3:Nat→Int):phi ⟨wd,each,0,0,0,0,0,0,0,0,List.replicate m 0⟩ m f1 f2 f3=0:=by
 unfold phi
 rw[smI_congr (h:=fun _=>0) (fun i _=>by rw[en_zeros,Int.zero_mul]),smI_zero]
 simp
theorem weights_spec{wd each:Int}{ti:List Cond}{by_:List Int}{m:Nat}(hk:(ti.map fun c=>(c.kind,c.which)).Nodup)(hc:∀c,c∈ti→CondOK m c) :
  (M.weights wd each ti by_ m).den=wd∧(M.weights wd each ti by_ m).each=each∧(M.weights wd each ti by_ m).casks.length=m ∧
  (∀f1 f2 f3,phi (M.weights wd each ti by_ m) m f1 f2 f3=smI (fun q=>en by_ q*ph f1 f2 f3 (ti.getD q dK)) (List.range ti.length)) ∧
  ∀P:Int→Prop,P 0→(∀q,q<ti.length→P (en by_ q))→Each P (M.weights wd each ti by_ m):=by
 obtain⟨st,hst⟩:∃st:Nat→Wts,st=fun k=>(List.range k).foldl (fun w i=>M.wStep w (ti.getD i ⟨0,0,[],0⟩) (by_.getD i 0)) ⟨wd,each,0,0,0,0,0,0,0,0,List.replicate m 0⟩:=⟨_,rfl⟩
 have hs:∀k,st (k+1)=M.wStep (st k) (ti.getD k dK) (en by_ k):=by intro k;subst hst;exact foldl_succ
 have h0:st 0=⟨wd,each,0,0,0,0,0,0,0,0,List.replicate m 0⟩:=by subst hst;rfl
 have hfin:M.weights wd each ti by_ m=st ti.length:=by subst hst;rfl
 have hlen:∀k,(st k).casks.length=m:=by
  intro k
  induction k with
  |zero=>rw[h0];simp
  |succ k ih=>rw[hs,step_len,ih]
 have hkey:∀a b,a<ti.length→b<ti.length→a≠b→((ti.getD a dK).kind,(ti.getD a dK).which)≠((ti.getD b dK).kind,(ti.getD b dK).which):=by
  intro a b ha hb hab e
  apply hab
  have ga:(ti.map fun c=>(c.kind,c.which))[a]'(by simpa using ha)=((ti.getD a dK).kind,(ti.getD a dK).which):=by
   rw[List.getElem_map,List.getD_eq_getElem?_getD,List.getElem?_eq_getElem ha];rfl
  have gb:(ti.map fun c=>(c.kind,c.which))[b]'(by simpa using hb)=((ti.getD b dK).kind,(ti.getD b dK).which):=by
   rw[List.getElem_map,List.getD_eq_getElem?_getD,List.getElem?_eq_getElem hb];rfl
  have hp:=List.pairwise_iff_getElem.1 hk
  rcases Nat.lt_trichotomy a b with h|h|h
  ·exact absurd (by rw[ga,gb];exact e) (hp a b (by simpa using ha) (by simpa using hb) h)
  ·exact h
  ·exact absurd (by rw[ga,gb];exact e.symm) (hp b a (by simpa using hb) (by simpa using ha) h)
 have hslot:∀k,k≤ti.length→∀b,k≤b→b<ti.length→slot (st k) (ti.getD b dK)=0:=by
  intro k
  induction k with
  |zero=>intro _ b _ _;rw[h0];exact slot_zeros _ _ _ _
  |succ k ih=>
   intro hk b h1 h2
   rw[hs,step_slot (hlen k) (hc _ (getD_mem (by omega))) (hc _ (getD_mem h2)) (hkey k b (by omega) h2 (by omega))]
   exact ih (by omega) b (by omega) h2
 rw[hfin]
 refine⟨?_,?_,hlen _,fun f1 f2 f3=>?_,fun P p0 pb=>?_⟩
 ·have:∀k,(st k).den=wd:=by
   intro k
   induction k with
   |zero=>rw[h0]
   |succ k ih=>rw[hs,step_fix.1,ih]
  exact this _
 ·have:∀k,(st k).each=each:=by
   intro k
   induction k with
   |zero=>rw[h0]
   |succ k ih=>rw[hs,step_fix.2,ih]
  exact this _
 ·have:∀k,k≤ti.length→phi (st k) m f1 f2 f3=smI (fun q=>en by_ q*ph f1 f2 f3 (ti.getD q dK)) (List.range k):=by
   intro k
   induction k with
   |zero=>intro _;rw[h0,phi_zeros];rfl
   |succ k ih=>
    intro hk
    rw[hs,step_phi (hlen k) (hc _ (getD_mem (by omega))) (hslot k (by omega) k (Nat.le_refl _) (by omega)),ih (by omega),smI_succ]
  exact this _ (Nat.le_refl _)
 ·have:∀k,k≤ti.length→Each P (st k):=by
   intro k
   induction k with
   |zero=>
    intro _
    rw[h0]
    exact⟨fun i=>by show P (en (List.replicate m 0) i);rw[en_zeros];exact p0,⟨p0,p0,p0,p0⟩,p0,p0,p0,p0⟩
   |succ k ih=>
    intro hk
    rw[hs]
    exact step_each (ih (by omega)) (pb k (by omega)) p0
  exact this _ (Nat.le_refl _)
theorem limits_cases{l:List Cask}{s:Sample}{e:Nat}{c:Cond}(h:c∈M.limits l s e) :
  (∃i:Nat,i<l.length+e∧c=⟨0,i,M.only (l.length+e) i (-1),0⟩)∨(∃i:Nat,i<l.length∧c=⟨1,i,M.only (l.length+e) i 1,(l.getD i dfC).vol⟩) ∨
  (∃k:Nat,k<4∧c=⟨2,k,M.by_ l (l.length+e) fun c=>IntKind.i64.wrap (M.val c k-(M.rg s k).hi),0⟩)∨∃k:Nat,k<4∧c=⟨3,k,M.by_ l (l.length+e) fun c=>IntKind.i64.wrap ((M.rg s k).lo-M.val c k),0⟩:=by
 unfold M.limits at h
 rcases List.mem_append.1 h with h|h
 ·rcases List.mem_append.1 h with h|h
  ·obtain⟨i,hi,rfl⟩:=List.mem_map.1 h
   exact .inl ⟨i,List.mem_range.1 hi,rfl⟩
  ·obtain⟨i,hi,rfl⟩:=List.mem_map.1 h
   exact .inr (.inl ⟨i,List.mem_range.1 hi,rfl⟩)
 ·obtain⟨k,hk,h⟩:=List.mem_flatMap.1 h
  have hk:=List.mem_range.1 hk
  rcases List.mem_cons.1 h with rfl|h
  ·exact .inr (.inr (.inl ⟨k,hk,rfl⟩))
  ·have:=List.mem_singleton.1 h
   subst this
   exact .inr (.inr (.inr ⟨k,hk,rfl⟩))
theorem limits_mem{l:List Cask}{s:Sample}{e:Nat}:(∀i:Nat,i<l.length+e→(⟨0,i,M.only (l.length+e) i (-1),0⟩:Cond)∈M.limits l s e)∧(∀i:Nat,i<l.length→(⟨1,i,M.only (l.length+e) i 1,(l.getD i dfC).vol⟩:Cond)∈M.limits l s e) ∧
  ∀k:Nat,k<4→(⟨2,k,M.by_ l (l.length+e) fun c=>IntKind.i64.wrap (M.val c k-(M.rg s k).hi),0⟩:Cond)∈M.limits l s e∧(⟨3,k,M.by_ l (l.length+e) fun c=>IntKind.i64.wrap ((M.rg s k).lo-M.val c k),0⟩:Cond)∈M.limits l s e:=by
 unfold M.limits
 refine⟨fun i hi=>List.mem_append_left _ (List.mem_append_left _ (List.mem_map.2 ⟨i,List.mem_range.2 hi,rfl⟩)),fun i hi=>List.mem_append_left _ (List.mem_append_right _ (List.mem_map.2 ⟨i,List.mem_range.2 hi,rfl⟩)),fun k hk=>⟨?_,?_⟩⟩
 ·exact List.mem_append_right _ (List.mem_flatMap.2 ⟨k,List.mem_range.2 hk,by simp⟩)
 ·exact List.mem_append_right _ (List.mem_flatMap.2 ⟨k,List.mem_range.2 hk,by simp⟩)
theorem limits_keys(l:List Cask)(s:Sample)(e:Nat):(M.limits l s e).map (fun c=>(c.kind,c.which))=((List.range (l.length+e)).map fun(i:Nat)=>((0:Int),(i:Int)))++((List.range l.length).map fun(i:Nat)=>((1:Int),(i:Int)))++((List.range 4).flatMap fun(k:Nat)=>[((2:Int),(k:Int)),(3,(k:Int))]):=by
 unfold M.limits
 rw[List.map_append,List.map_append,List.map_map,List.map_map,List.map_flatMap]
 rfl
theorem keys_nodup:∀m,m≤4→∀e,e≤1→(((List.range (m+e)).map fun(i:Nat)=>((0:Int),(i:Int)))++((List.range m).map fun(i:Nat)=>((1:Int),(i:Int)))++((List.range 4).flatMap fun(k:Nat)=>[((2:Int),(k:Int)),(3,(k:Int))])).Nodup:=by decide +kernel
theorem en_only{n a j:Nat}{x:Int}(hj:j<n):en (M.only n a x) j=if j=a then x else 0:=by
 unfold M.only en
 rw[map_getD hj]
 by_cases h:j=a
 ·subst h;rw[if_pos rfl,Nat.beq_refl];rfl
 ·rw[if_neg h,show Nat.beq j a=false from by rw[Bool.eq_false_iff];intro e;exact h (Nat.eq_of_beq_eq_true e)];rfl
theorem en_by{l:List Cask}{n j:Nat}{f:Cask→Int}(hj:j<n):en (M.by_ l n f) j=if j=l.length then -1 else f (l.getD j dfC):=by
 unfold M.by_ en
 rw[map_getD hj]
 by_cases h:j=l.length
 ·rw[if_pos h,h,Nat.beq_refl];rfl
 ·rw[if_neg h,show Nat.beq j l.length=false from by rw[Bool.eq_false_iff];intro e;exact h (Nat.eq_of_beq_eq_true e)];rfl
theorem only_len(n a:Nat)(x:Int):(M.only n a x).length=n:=by simp[M.only]
theorem by_len(l:List Cask)(n:Nat)(f:Cask→Int):(M.by_ l n f).length=n:=by simp[M.by_]
end Go.Bl
end
section
set_option maxRecDepth 100000
namespace Go.Bl
open Go.V Go.Proofs Go.Lp
structure RightL(l:List Cask)(s:Sample):Prop where
 n1:1≤l.length
 n4:l.length≤4
 rc:∀i,i<l.length→RightC (l.getD i dfC)
 v:1≤s.vol∧s.vol≤10000
 lo:∀k,k<4→0≤(M.rg s k).lo∧(M.rg s k).lo≤1000
 hi:∀k,k<4→0≤(M.rg s k).hi∧(M.rg s k).hi≤1000
 le:∀k,k<4→(M.rg s k).lo≤(M.rg s k).hi
theorem sample_right{s:Sample}(h:M.checkSample s=0):(1≤s.vol∧s.vol≤10000)∧(∀k,k<4→0≤(M.rg s k).lo∧(M.rg s k).lo≤1000)∧(∀k,k<4→0≤(M.rg s k).hi∧(M.rg s k).hi≤1000)∧∀k,k<4→(M.rg s k).lo≤(M.rg s k).hi:=by
 unfold M.checkSample at h
 cases hw:M.within s.vol 1 10000
 ·rw[hw]at h
  have hs:(2:Int)=0:=h
  exact absurd hs (by decide)
 rw[hw]at h
 have hs:M.first [M.rgErr s.r0,M.rgErr s.r1,M.rgErr s.r2,M.rgErr s.r3]=0:=h
 have hz:=first_nil _ hs
 have hle:∀r,M.rgErr r=0→r.lo≤r.hi:=by
  intro r hr
  unfold M.rgErr at hr
  exact of_decide_eq_true (unl_zero (by decide) (first_nil _ hr _ (List.mem_cons_of_mem _ (List.mem_cons_self ..))))
 have all:∀k,k<4→M.rgErr (M.rg s k)=0:=by
  intro k hk
  rcases(by omega:k=0∨k=1∨k=2∨k=3)with rfl|rfl|rfl|rfl <;>exact hz _ (by simp[M.rg])
 exact⟨within_spec hw,fun k hk=>(rg_right (all k hk)).1,fun k hk=>(rg_right (all k hk)).2,fun k hk=>hle _ (all k hk)⟩
theorem task_right{l:List Cask}{s:Sample}(h:M.taskErr l s=0):RightL l s:=by
 unfold M.taskErr at h
 obtain⟨c1,c4,cr⟩:=casks_right (first_nil _ h _ (List.mem_cons_self ..))
 obtain⟨h1,h2,h3,h4⟩:=sample_right (first_nil _ h _ (List.mem_cons_of_mem _ (List.mem_cons_self ..)))
 exact⟨c1,c4,cr,h1,h2,h3,h4⟩
theorem RightC.val{c:Cask}(h:RightC c)(k:Nat):0≤M.val c k∧M.val c k≤1000:=by
 unfold M.val
 split
 ·exact h.k0
 ·exact h.k1
 ·exact h.k2
 ·exact h.k3
def Kb(m j:Nat):Nat:=if j<m then 1000 else 1
def S0(m j:Nat):Nat:=if j<m then 1 else 0
section
variable {l : List Cask} {s : Sample}
theorem RightL.hiF(h:RightL l s){i k:Nat}(hi:i<l.length)(hk:k<4):IntKind.i64.wrap (M.val (l.getD i dfC) k-(M.rg s k).hi)=M.val (l.getD i dfC) k-(M.rg s k).hi∧(M.val (l.getD i dfC) k-(M.rg s k).hi).natAbs≤1000:=by
 have h1:=(h.rc i hi).val k
 have h2:=h.hi k hk
 exact⟨wrap_id (by omega) (by omega),by omega⟩
theorem RightL.loF(h:RightL l s){i k:Nat}(hi:i<l.length)(hk:k<4):IntKind.i64.wrap ((M.rg s k).lo-M.val (l.getD i dfC) k)=(M.rg s k).lo-M.val (l.getD i dfC) k∧((M.rg s k).lo-M.val (l.getD i dfC) k).natAbs≤1000:=by
 have h1:=(h.rc i hi).val k
 have h2:=h.lo k hk
 exact⟨wrap_id (by omega) (by omega),by omega⟩
theorem ent_of{a:List Int}{n B:Nat}(hl:a.length=n)(h:∀j,j<n→(en a j).natAbs≤B):∀x,x∈a→x.natAbs≤B:=by
 intro x hx
 obtain⟨j,hj,rfl⟩:=List.getElem_of_mem hx
 have:=h j (by omega)
 unfold en at this
 rw[List.getD_eq_getElem?_getD,List.getElem?_eq_getElem hj]at this
 exact this
theorem limits_ent(h:RightL l s){e:Nat}(he:e≤1){c:Cond}(hc:c∈M.limits l s e):c.coefs.length=l.length+e∧(∀j,j<l.length+e→(en c.coefs j).natAbs≤Kb l.length j)∧0≤c.limit∧c.limit≤10000:=by
 have k1:∀j,1≤Kb l.length j:=fun j=>by unfold Kb;split <;>decide
 rcases limits_cases hc with⟨i,hi,rfl⟩|⟨i,hi,rfl⟩|⟨k,hk,rfl⟩|⟨k,hk,rfl⟩
 ·refine⟨only_len _ _ _,fun j hj=>?_,(show(0:Int)≤0 by decide),(show(0:Int)≤10000 by decide)⟩
  show(en (M.only _ _ _) j).natAbs≤_
  have:=k1 j
  rw[en_only hj];split <;>omega
 ·refine⟨only_len _ _ _,fun j hj=>?_,(h.rc i hi).vol⟩
  show(en (M.only _ _ _) j).natAbs≤_
  have:=k1 j
  rw[en_only hj];split <;>omega
 ·refine⟨by_len l (l.length+e) (fun c=>IntKind.i64.wrap (M.val c k-(M.rg s k).hi)),fun j hj=>?_,(show(0:Int)≤0 by decide),(show(0:Int)≤10000 by decide)⟩
  dsimp only
  rw[en_by hj]
  have:=k1 j
  by_cases e1:j=l.length
  ·rw[if_pos e1];omega
  ·rw[if_neg e1]
   by_cases e2:j<l.length
   ·obtain⟨w1,w2⟩:=h.hiF e2 hk
    rw[w1];unfold Kb;rw[if_pos e2];exact w2
   ·exfalso;exact absurd hj (by omega)
 ·refine⟨by_len l (l.length+e) (fun c=>IntKind.i64.wrap ((M.rg s k).lo-M.val c k)),fun j hj=>?_,(show(0:Int)≤0 by decide),(show(0:Int)≤10000 by decide)⟩
  dsimp only
  rw[en_by hj]
  have:=k1 j
  by_cases e1:j=l.length
  ·rw[if_pos e1];omega
  ·rw[if_neg e1]
   by_cases e2:j<l.length
   ·obtain⟨w1,w2⟩:=h.loF e2 hk
    rw[w1];unfold Kb;rw[if_pos e2];exact w2
   ·exfalso;exact absurd hj (by omega)
theorem shares_en{l:List Cask}{e j:Nat}:en (M.shares l e) j=(S0 l.length j:Int):=by
 unfold M.shares S0 en
 by_cases h:j<l.length
 ·rw[if_pos h,List.getD_eq_getElem?_getD,List.getElem?_append_left (by simpa using h),List.getElem?_map,List.getElem?_eq_getElem h];rfl
 ·rw[if_neg h,List.getD_eq_getElem?_getD,List.getElem?_append_right (by simp;omega),List.getElem?_replicate];split <;>rfl
theorem num_den:∀m,m≤4→∀e,e≤1→bnd (S0 m) (Kb m) (List.range (m+e))≤200000000000:=by decide +kernel
theorem num_sol:∀m,m≤4→∀e,e≤1→∀k,k<5→Kb m k*bnd (fun c=>if c=k then 10000 else S0 m c) (fun c=>if c=k then 10000 else Kb m c) (List.range (m+e))≤1000000000000000000:=by decide +kernel
theorem num_cost:∀m,m≤4→bnd (fun _=>1000) (Kb m) (List.range (m+0))≤100000000000000:=by decide +kernel
theorem DI_bnd_idx{n:Nat}{f:Nat→Nat→Int}{K0 K:Nat→Nat}(hn:1≤n)(h0:∀c,c<n→(f 0 c).natAbs≤K0 c)(hb:∀i,1≤i→i<n→∀c,c<n→(f i c).natAbs≤K c):(DI f (List.range n) (List.range n)).natAbs≤bnd K0 K (List.range n):=by
 obtain⟨q,rfl⟩:∃q,n=q+1:=⟨n-1,by omega⟩
 have e:List.range (q+1)=0::(List.range q).map Nat.succ:=List.range_succ_eq_map
 have:=DI_bnd (f:=f) (K0:=K0) (K:=K) (r:=0) (rs:=(List.range q).map Nat.succ) (cols:=List.range (q+1)) (by simp) (fun c hc=>h0 c (List.mem_range.1 hc)) (fun i hi c hc=>by
  obtain⟨j,hj,rfl⟩:=List.mem_map.1 hi
  have:=List.mem_range.1 hj
  exact hb (j+1) (by omega) (by omega) c (List.mem_range.1 hc))
 rw[←e]at this
 exact this
section
variable {l : List Cask} {s : Sample} {e : Nat} {set : List Cond}
theorem mat_ent(h:RightL l s)(he:e≤1)(hm:∀c,c∈set→c∈M.limits l s e)(i:Nat)(h1:1≤i)(hi:i<set.length+1)(j:Nat)(hj:j<l.length+e):(en ((M.mat (M.shares l e) set).getD i []) j).natAbs≤Kb l.length j:=by
 obtain⟨q,rfl⟩:∃q,i=q+1:=⟨i-1,by omega⟩
 rw[matS]
 exact(limits_ent h he (hm _ (getD_mem (by omega)))).2.1 j hj
theorem mat_ent0(j:Nat):(en ((M.mat (M.shares l e) set).getD 0 []) j).natAbs≤S0 l.length j:=by
 rw[mat0,shares_en];omega
theorem mat_den(h:RightL l s)(he:e≤1)(hs:set.length+1=l.length+e)(hm:∀c,c∈set→c∈M.limits l s e):(DI en (M.mat (M.shares l e) set) (List.range (l.length+e))).natAbs≤200000000000:=by
 rw[DI_idx (by simp[M.mat];omega)]
 exact Nat.le_trans (DI_bnd_idx (K0:=S0 l.length) (K:=Kb l.length) (by omega) (fun c _=>mat_ent0 c) (fun i h1 hi c hc=>mat_ent h he hm i h1 (by omega) c hc)) (num_den _ h.n4 e he)
theorem limits_small(h:RightL l s)(he:e≤1):(M.shares l e).length=l.length+e∧(∀x,x∈M.shares l e→x.natAbs≤1000)∧(∀c,c∈M.limits l s e→c.coefs.length=l.length+e)∧(∀c,c∈M.limits l s e→∀x,x∈c.coefs→x.natAbs≤1000)∧(∀c,c∈M.limits l s e→c.limit.natAbs≤10000):=by
 refine⟨shares_len l e,ent_of (shares_len l e) (fun j _=>by rw[shares_en];unfold S0;split <;>decide),fun c hc=>(limits_ent h he hc).1,fun c hc=>?_,fun c hc=>?_⟩
 ·obtain⟨h1,h2,_⟩:=limits_ent h he hc
  refine ent_of h1 fun j hj=>Nat.le_trans (h2 j hj) ?_
  unfold Kb;split <;>decide
 ·have:=(limits_ent h he hc).2.2;omega
theorem small_of(h:RightL l s)(he:e≤1){wo:List Int}(hwl:wo.length=l.length+e)(hwe:∀x,x∈wo→x.natAbs≤1000):Small (l.length+e) (M.shares l e) wo s.vol (M.limits l s e):=by
 obtain⟨a1,a2,a3,a4,a5⟩:=limits_small h he
 have hv:s.vol.natAbs≤10000:=by have:=h.v;omega
 have n5:l.length+e≤5:=by have:=h.n4;omega
 refine⟨by have:=h.n1;omega,n5,a1,hwl,a2,hwe,hv,a3,a4,a5,?_⟩
 intro set hs hm hd c hc
 have hq:=sq_mat n5 a1 a2 a3 a4 hs hm
 have hr:=right_small (set:=set) hv a5 hm
 obtain⟨e1,e2,e3⟩:=solve_exact hq hr hd
 have hcl:=a3 c hc
 constructor
 ·have:=dot_exact c.coefs (M.sol (M.mat (M.shares l e) set) (M.right s.vol set)) 0 1000000000000000000 (by rw[hcl,e2]) (fun k hk=>by
   have hk:k<l.length+e:=by omega
   have hb:(en (M.sol (M.mat (M.shares l e) set) (M.right s.vol set)) k).natAbs≤bnd (fun c=>if c=k then 10000 else S0 l.length c) (fun c=>if c=k then 10000 else Kb l.length c) (List.range (l.length+e)):=by
    show((M.sol (M.mat (M.shares l e) set) (M.right s.vol set)).getD k 0).natAbs≤_
    rw[e3 k hk,if_neg_abs,setCol_DI hq.len hq.row hk]
    refine DI_bnd_idx (by omega) (fun j hj=>?_) (fun i h1 hi j hj=>?_)
    ·by_cases ej:j=k
     ·rw[if_pos ej,if_pos ej,right0];exact hv
     ·rw[if_neg ej,if_neg ej];exact mat_ent0 j
    ·by_cases ej:j=k
     ·rw[if_pos ej,if_pos ej];exact hr i
     ·rw[if_neg ej,if_neg ej];exact mat_ent h he hm i h1 (by omega) j hj
   rw[Int.natAbs_mul]
   exact Nat.le_trans (Nat.mul_le_mul ((limits_ent h he hc).2.1 k hk) hb) (num_sol _ h.n4 e he k (by omega))) (by rw[hcl];have:(l.length+e)*1000000000000000000≤5*1000000000000000000:=Nat.mul_le_mul_right _ n5;omega)
  rw[this,hcl];omega
 ·have h1:=mat_den h he hs hm
  have h2:=(limits_ent h he hc).2.2
  rw[e1]
  have m0:0≤c.limit*((DI en (M.mat (M.shares l e) set) (List.range (l.length+e))).natAbs:Int):=Int.mul_nonneg h2.1 (by omega)
  have m1:c.limit*((DI en (M.mat (M.shares l e) set) (List.range (l.length+e))).natAbs:Int)≤10000*200000000000:=Int.mul_le_mul h2.2 (by omega) (by omega) (by decide)
  exact wrap_id (by omega) (by omega)
end
end
end Go.Bl
end
section
set_option maxRecDepth 100000
namespace Go.Bl
open Go.V Go.Proofs Go.Lp
theorem dl_only{n a:Nat}{x:Int}{p:List Int}(ha:a<n):dl n (M.only n a x) p=x*en p a:=by
 unfold dl
 rw[smI_congr (h:=fun c=>0+if c=a then x*en p a else 0) (fun c hc=>by
  rw[en_only (List.mem_range.1 hc)]
  by_cases h:c=a
  ·subst h;rw[if_pos rfl,if_pos rfl];omega
  ·rw[if_neg h,if_neg h];omega),smI_if,smI_zero,if_pos ha]
 omega
def farOf(e m:Nat)(p:List Int):Int:=if e=0 then 0 else en p m
section
variable {l : List Cask} {s : Sample} {e : Nat}
theorem dl_by(he:e≤1){f:Cask→Int}{p:List Int}:dl (l.length+e) (M.by_ l (l.length+e) f) p=smI (fun i=>f (l.getD i dfC)*en p i) (List.range l.length)-farOf e l.length p:=by
 unfold dl farOf
 rcases(by omega:e=0∨e=1)with rfl|rfl
 ·rw[if_pos rfl,Int.sub_zero]
  refine smI_congr fun i hi=>?_
  have hi:=List.mem_range.1 hi
  rw[en_by hi,if_neg (by omega)]
 ·rw[if_neg (by decide),smI_succ,en_by (by omega),if_pos rfl]
  rw[smI_congr (h:=fun i=>f (l.getD i dfC)*en p i) (fun i hi=>by
   have hi:=List.mem_range.1 hi
   rw[en_by (by omega),if_neg (by omega)])]
  omega
theorem dl_shares(he:e≤1){p:List Int}:dl (l.length+e) (M.shares l e) p=smI (fun i=>en p i) (List.range l.length):=by
 unfold dl
 rcases(by omega:e=0∨e=1)with rfl|rfl
 ·refine smI_congr fun i hi=>?_
  have hi:=List.mem_range.1 hi
  rw[shares_en];unfold S0;rw[if_pos (by omega)];show(1:Int)*_=_;omega
 ·rw[smI_succ,shares_en];unfold S0
  rw[if_neg (by omega)]
  rw[smI_congr (h:=fun i=>en p i) (fun i hi=>by
   have hi:=List.mem_range.1 hi
   rw[shares_en];unfold S0;rw[if_pos (by omega)];show(1:Int)*_=_;omega)]
  show _+(0:Int)*_=_
  omega
structure Blend(l:List Cask)(s:Sample)(pt:List Int)(den far:Int):Prop where
 dp:0<den
 p0:∀i,i<l.length→0≤en pt i
 p1:∀i,i<l.length→en pt i≤(l.getD i dfC).vol*den
 sum:smI (fun i=>en pt i) (List.range l.length)=s.vol*den
 hi:∀k,k<4→smI (fun i=>(M.val (l.getD i dfC) k-(M.rg s k).hi)*en pt i) (List.range l.length)≤far
 lo:∀k,k<4→smI (fun i=>((M.rg s k).lo-M.val (l.getD i dfC) k)*en pt i) (List.range l.length)≤far
theorem conds_blend(h:RightL l s)(he:e≤1){pt:List Int}{den:Int}(hd:0<den)(hs:dl (l.length+e) (M.shares l e) pt=s.vol*den)(ha:∀c,c∈M.limits l s e→dl (l.length+e) c.coefs pt≤c.limit*den) :
  Blend l s pt den (farOf e l.length pt)∧0≤farOf e l.length pt:=by
 obtain⟨m0,m1,m2⟩:=limits_mem (l:=l) (s:=s) (e:=e)
 have p0:∀i,i<l.length+e→0≤en pt i:=by
  intro i hi
  have:=ha _ (m0 i hi)
  dsimp only at this
  rw[dl_only hi]at this
  omega
 refine⟨⟨hd,fun i hi=>p0 i (by omega),fun i hi=>?_,by rw[←hs,dl_shares he],fun k hk=>?_,fun k hk=>?_⟩,?_⟩
 ·have:=ha _ (m1 i hi)
  dsimp only at this
  rw[dl_only (by omega)]at this
  omega
 ·have:=ha _ (m2 k hk).1
  dsimp only at this
  rw[dl_by he,smI_congr (h:=fun i=>(M.val (l.getD i dfC) k-(M.rg s k).hi)*en pt i) (fun i hi=>by rw[(h.hiF (List.mem_range.1 hi) hk).1])]at this
  omega
 ·have:=ha _ (m2 k hk).2
  dsimp only at this
  rw[dl_by he,smI_congr (h:=fun i=>((M.rg s k).lo-M.val (l.getD i dfC) k)*en pt i) (fun i hi=>by rw[(h.loF (List.mem_range.1 hi) hk).1])]at this
  omega
 ·unfold farOf
  split
  ·exact Int.le_refl _
  ·exact p0 _ (by omega)
def hiF(l:List Cask)(s:Sample)(j k:Nat):Int:=M.val (l.getD j dfC) k-(M.rg s k).hi
def loF(l:List Cask)(s:Sample)(j k:Nat):Int:=(M.rg s k).lo-M.val (l.getD j dfC) k
def gift(l:List Cask)(s:Sample)(w:Wts)(j:Nat):Int:=w.each-phi w l.length (fun i=>if i=j then 1 else 0) (hiF l s j) (loF l s j)
def bound(l:List Cask)(s:Sample)(w:Wts):Int:=w.each*s.vol-phi w l.length (fun i=>(l.getD i dfC).vol) (fun _=>0) (fun _=>0)
theorem limits_ok{c:Cond}(hc:c∈M.limits l s e):CondOK l.length c:=by
 rcases limits_cases hc with⟨i,hi,rfl⟩|⟨i,hi,rfl⟩|⟨k,hk,rfl⟩|⟨k,hk,rfl⟩
 ·exact⟨Int.natCast_nonneg i,fun h=>absurd h (show(0:Int)≠1 by decide),fun h=>absurd h (show ¬((0:Int)=2∨(0:Int)=3) by decide)⟩
 ·exact⟨Int.natCast_nonneg i,fun _=>by show(i:Int).toNat<_;omega,fun h=>absurd h (show ¬((1:Int)=2∨(1:Int)=3) by decide)⟩
 ·exact⟨Int.natCast_nonneg k,fun h=>absurd h (show(2:Int)≠1 by decide),fun _=>by show(k:Int).toNat<_;omega⟩
 ·exact⟨Int.natCast_nonneg k,fun h=>absurd h (show(3:Int)≠1 by decide),fun _=>by show(k:Int).toNat<_;omega⟩
theorem coef_ph(h:RightL l s)(he:e≤1){c:Cond}(hc:c∈M.limits l s e){j:Nat}(hj:j<l.length):en c.coefs j=ph (fun i=>if i=j then 1 else 0) (hiF l s j) (loF l s j) c-if c.kind=0∧c.which=(j:Int)then 1 else 0:=by
 rcases limits_cases hc with⟨i,hi,rfl⟩|⟨i,hi,rfl⟩|⟨k,hk,rfl⟩|⟨k,hk,rfl⟩ <;>dsimp only[ph]
 ·rw[en_only (by omega),if_neg (show(0:Int)≠1 by decide),if_neg (show(0:Int)≠2 by decide),if_neg (show(0:Int)≠3 by decide)]
  by_cases e1:j=i
  ·rw[if_pos e1,if_pos ⟨rfl,by omega⟩];omega
  ·rw[if_neg e1,if_neg (fun h=>e1 (by omega))];omega
 ·rw[en_only (by omega),if_pos rfl,if_neg (show ¬((1:Int)=0∧(i:Int)=(j:Int)) by omega),Int.toNat_natCast]
  by_cases e1:j=i
  ·rw[if_pos e1,if_pos e1.symm];omega
  ·rw[if_neg e1,if_neg (fun h=>e1 h.symm)];omega
 ·rw[en_by (by omega),if_neg (by omega),if_neg (show(2:Int)≠1 by decide),if_pos rfl,if_neg (show ¬((2:Int)=0∧(k:Int)=(j:Int)) by omega),Int.toNat_natCast,(h.hiF hj hk).1]
  unfold hiF;omega
 ·rw[en_by (by omega),if_neg (by omega),if_neg (show(3:Int)≠1 by decide),if_neg (show(3:Int)≠2 by decide),if_pos rfl,if_neg (show ¬((3:Int)=0∧(k:Int)=(j:Int)) by omega),Int.toNat_natCast,(h.loF hj hk).1]
  unfold loF;omega
theorem coef_far{c:Cond}(hc:c∈M.limits l s 1):en c.coefs l.length= - ph (fun _=>0) (fun _=>1) (fun _=>1) c-if c.kind=0∧c.which=(l.length:Int)then 1 else 0:=by
 rcases limits_cases hc with⟨i,hi,rfl⟩|⟨i,hi,rfl⟩|⟨k,hk,rfl⟩|⟨k,hk,rfl⟩ <;>dsimp only[ph]
 ·rw[en_only (by omega),if_neg (show(0:Int)≠1 by decide),if_neg (show(0:Int)≠2 by decide),if_neg (show(0:Int)≠3 by decide)]
  by_cases e1:l.length=i
  ·rw[if_pos e1,if_pos ⟨rfl,by omega⟩];omega
  ·rw[if_neg e1,if_neg (fun h=>e1 (by omega))];omega
 ·rw[en_only (by omega),if_pos rfl,if_neg (show ¬((1:Int)=0∧(i:Int)=(l.length:Int)) by omega),if_neg (by omega)];omega
 ·rw[en_by (by omega),if_pos rfl,if_neg (show(2:Int)≠1 by decide),if_pos rfl,if_neg (show ¬((2:Int)=0∧(k:Int)=(l.length:Int)) by omega)];omega
 ·rw[en_by (by omega),if_pos rfl,if_neg (show(3:Int)≠1 by decide),if_neg (show(3:Int)≠2 by decide),if_pos rfl,if_neg (show ¬((3:Int)=0∧(k:Int)=(l.length:Int)) by omega)];omega
theorem limit_ph{c:Cond}(hc:c∈M.limits l s e):c.limit=ph (fun i=>(l.getD i dfC).vol) (fun _=>0) (fun _=>0) c:=by
 rcases limits_cases hc with⟨i,hi,rfl⟩|⟨i,hi,rfl⟩|⟨k,hk,rfl⟩|⟨k,hk,rfl⟩ <;>rfl
theorem opt_strong{n:Nat}{sh wo:List Int}{sum:Int}{cs:List Cond}{x:M.Corner}(ho:Opt n sh sum wo cs x) :
  (x.each*sum-smI (fun q=>en x.by_ q*(x.tight.getD q dK).limit) (List.range x.tight.length))*x.den=x.wd*dl n wo x.pt:=by
 have h1:smI (fun j=>(x.each*en sh j-smI (fun q=>en x.by_ q*en (x.tight.getD q dK).coefs j) (List.range x.tight.length))*en x.pt j) (List.range n)=smI (fun j=>x.wd*(en wo j*en x.pt j)) (List.range n):=
  smI_congr fun j hj=>by rw[ho.dual j (List.mem_range.1 hj),Int.mul_comm (en wo j),Int.mul_assoc]
 rw[smI_smul]at h1
 have h2:smI (fun j=>(x.each*en sh j-smI (fun q=>en x.by_ q*en (x.tight.getD q dK).coefs j) (List.range x.tight.length))*en x.pt j) (List.range n)=x.each*dl n sh x.pt-smI (fun q=>en x.by_ q*dl n (x.tight.getD q dK).coefs x.pt) (List.range x.tight.length):=by
  unfold dl
  rw[←smI_smul]
  rw[smI_congr (l:=List.range x.tight.length) (h:=fun q=>smI (fun j=>en x.by_ q*(en (x.tight.getD q dK).coefs j*en x.pt j)) (List.range n)) (fun q _=>by rw[smI_smul]),smI_comm]
  rw[Int.sub_eq_add_neg,←smI_neg,←smI_add]
  refine smI_congr fun j _=>?_
  rw[Int.sub_mul,←Int.sub_eq_add_neg,Int.mul_assoc,Int.mul_comm (smI _ _) (en x.pt j),←smI_smul]
  congr 1
  refine smI_congr fun q _=>?_
  rw[Int.mul_left_comm,Int.mul_comm (en x.pt j)]
 rw[h2,ho.sum,smI_congr (h:=fun q=>x.den*(en x.by_ q*(x.tight.getD q dK).limit)) (fun q hq=>by rw[ho.eq q (List.mem_range.1 hq),←Int.mul_assoc,Int.mul_comm]),smI_smul]at h1
 show _=x.wd*smI _ _
 rw[←h1,Int.sub_mul,Int.mul_assoc,Int.mul_comm (smI _ _) x.den]
theorem setT_DI{n k:Nat}{m:List (List Int)}{wo:List Int}(hq:Sq n m)(hk:k<n):DI en (M.setCol (M.turned m) k wo) (List.range n)=DI (fun a j=>if a=k then en wo j else en (m.getD a []) j) (List.range n) (List.range n):=by
 rw[setCol_DI hq.turned.len hq.turned.row hk,DI_turn (by simp)]
 refine DI_congr fun a ha j hj=>?_
 split
 ·rfl
 ·exact turned_at hq (List.mem_range.1 hj) (List.mem_range.1 ha)
structure Proof(l:List Cask)(s:Sample)(wo:List Int)(w:Wts):Prop where
 den:1≤w.den∧w.den≤200000000000
 each:w.each.natAbs≤100000000000000
 len:w.casks.length=l.length
 all:Each (fun b=>0≤b∧b≤200000000000) w
 gift:∀j,j<l.length→gift l s w j≤en wo j*w.den
theorem opt_wts(h:RightL l s)(he:e≤1){wo:List Int}(hwl:wo.length=l.length+e)(hwe:∀j,j<l.length+e→(en wo j).natAbs≤Kb l.length j){W:Nat→Nat}(hW:∀j,j<l.length+e→(en wo j).natAbs≤W j)(hWb:bnd W (Kb l.length) (List.range (l.length+e))≤100000000000000)
  {x:M.Corner} (ho:Opt (l.length+e) (M.shares l e) s.vol wo (M.limits l s e) x) :
  Proof l s wo (M.wtsOf x l.length)∧(M.wtsOf x l.length).den=x.wd∧bound l s (M.wtsOf x l.length)*x.den=x.wd*dl (l.length+e) wo x.pt ∧
  (e=1→phi (M.wtsOf x l.length) l.length (fun _=>0) (fun _=>1) (fun _=>1)≤en wo l.length*x.wd):=by
 obtain⟨a1,a2,a3,a4,a5⟩:=limits_small h he
 have n5:l.length+e≤5:=by have:=h.n4;omega
 have hm:∀c,c∈x.tight→c∈M.limits l s e:=fun c hc=>ho.sub.subset hc
 have hq:=sq_mat n5 a1 a2 a3 a4 ho.tl hm
 have hkey:(x.tight.map fun c=>(c.kind,c.which)).Nodup:=by
  have:=keys_nodup l.length h.n4 e he
  rw[←limits_keys l s e]at this
  exact List.Sublist.nodup (ho.sub.map _) this
 obtain⟨w1,w2,w3,w4,w5⟩:=weights_spec (wd:=x.wd) (each:=x.each) (by_:=x.by_) hkey (fun c hc=>limits_ok (hm c hc))
 have hden:=mat_den h he ho.tl hm
 have hby:∀q,q<x.tight.length→0≤en x.by_ q∧en x.by_ q≤200000000000:=by
  intro q hql
  have h1:=ho.nn q hql
  have h2:=ho.byE q hql
  have h3:(DI en (M.setCol (M.turned (M.mat (M.shares l e) x.tight)) (q+1) wo) (List.range (l.length+e))).natAbs≤200000000000:=by
   rw[setT_DI hq (by have:=ho.tl;omega)]
   refine Nat.le_trans (DI_bnd_idx (K0:=S0 l.length) (K:=Kb l.length) (by have:=h.n1;omega) (fun c _=>?_) (fun i h1 hi c hc=>?_)) (num_den _ h.n4 e he)
   ·rw[if_neg (by omega)];exact mat_ent0 c
   ·by_cases e1:i=q+1
    ·rw[if_pos e1];exact hwe c hc
    ·rw[if_neg e1];exact mat_ent h he hm i h1 (by have:=ho.tl;omega) c hc
  omega
 have heach:x.each.natAbs≤100000000000000:=by
  rw[ho.eachE,setT_DI hq (by have:=ho.tl;omega)]
  refine Nat.le_trans (DI_bnd_idx (K0:=W) (K:=Kb l.length) (by have:=h.n1;omega) (fun c hc=>?_) (fun i h1 hi c hc=>?_)) hWb
  ·rw[if_pos rfl];exact hW c hc
  ·rw[if_neg (by omega)];exact mat_ent h he hm i h1 (by have:=ho.tl;omega) c hc
 have e1:M.wtsOf x l.length=M.weights x.wd x.each x.tight x.by_ l.length:=rfl
 have hz:∀j:Nat,0≤smI (fun q=>en x.by_ q*if(x.tight.getD q dK).kind=0∧(x.tight.getD q dK).which=(j:Int)then 1 else 0) (List.range x.tight.length):=by
  intro j
  have:=smI_le (l:=List.range x.tight.length) (g:=fun _=>0) (h:=fun q=>en x.by_ q*if(x.tight.getD q dK).kind=0∧(x.tight.getD q dK).which=(j:Int)then 1 else 0) (fun q hq'=>by
   have:=(hby q (List.mem_range.1 hq')).1
   split <;>omega)
  rw[smI_zero]at this
  exact this
 have hsplit:∀(j:Nat) (g:Cond→Int),(∀c,c∈M.limits l s e→en c.coefs j=g c-if c.kind=0∧c.which=(j:Int)then 1 else 0) →
   smI (fun q=>en x.by_ q*en (x.tight.getD q dK).coefs j) (List.range x.tight.length)=smI (fun q=>en x.by_ q*g (x.tight.getD q dK)) (List.range x.tight.length)-smI (fun q=>en x.by_ q*if(x.tight.getD q dK).kind=0∧(x.tight.getD q dK).which=(j:Int)then 1 else 0) (List.range x.tight.length):=by
  intro j g hg
  rw[Int.sub_eq_add_neg,←smI_neg,←smI_add]
  refine smI_congr fun q hq'=>?_
  rw[hg _ (hm _ (getD_mem (List.mem_range.1 hq'))),Int.mul_sub,Int.sub_eq_add_neg]
 refine⟨⟨?_,?_,?_,?_,fun j hj=>?_⟩,?_,?_,fun h1=>?_⟩
 ·rw[e1,w1]
  have:=ho.wd;have:=ho.wdE;omega
 ·rw[e1,w2];exact heach
 ·rw[e1,w3]
 ·rw[e1];exact w5 _ (by decide) hby
 ·unfold gift
  rw[e1,w1,w2,w4]
  have hd:=ho.dual j (by omega)
  rw[shares_en,hsplit j _ (fun c hc=>coef_ph h he hc hj)]at hd
  unfold S0 at hd
  rw[if_pos hj]at hd
  have:=hz j
  rw[←hd]
  have e2:x.each*((1:Nat):Int)=x.each:=Int.mul_one _
  rw[e2]
  omega
 ·rw[e1,w1]
 ·unfold bound
  rw[e1,w2,w4,←opt_strong ho]
  congr 2
  exact smI_congr fun q hq'=>by rw[←limit_ph (hm _ (getD_mem (List.mem_range.1 hq')))]
 ·subst h1
  have hd:=ho.dual l.length (by omega)
  rw[shares_en,hsplit l.length (fun c=> - ph (fun _=>0) (fun _=>1) (fun _=>1) c) (fun c hc=>coef_far hc)]at hd
  unfold S0 at hd
  rw[if_neg (by omega)]at hd
  have:=hz l.length
  have e3:smI (fun q=>en x.by_ q * - ph (fun _=>0) (fun _=>1) (fun _=>1) (x.tight.getD q dK)) (List.range x.tight.length)= - smI (fun q=>en x.by_ q*ph (fun _=>0) (fun _=>1) (fun _=>1) (x.tight.getD q dK)) (List.range x.tight.length):=by
   rw[←smI_neg];exact smI_congr fun q _=>Int.mul_neg _ _
  rw[e3]at hd
  rw[e1,w4,←hd]
  have e2:x.each*((0:Nat):Int)=0:=Int.mul_zero _
  rw[e2]
  omega
end
end Go.Bl
end
section
set_option maxRecDepth 100000
namespace Go.Bl
open Go.V Go.Proofs Go.Lp
section
variable {l : List Cask} {s : Sample} {x : M.Corner}
theorem costs_en{j:Nat}(hj:j<l.length):en (M.costs l) j=(l.getD j dfC).cost:=by
 unfold M.costs en
 rw[List.getD_eq_getElem?_getD,List.getElem?_map,List.getD_eq_getElem?_getD,List.getElem?_eq_getElem hj];rfl
def cost(l:List Cask)(pt:List Int):Int:=smI (fun j=>(l.getD j dfC).cost*en pt j) (List.range l.length)
structure BestS(l:List Cask)(s:Sample)(x:M.Corner):Prop where
 b:Blend l s x.pt x.den 0
 d:x.den≤200000000000
 pl:x.pt.length=l.length
 p:Proof l s (M.costs l) (M.wtsOf x l.length)
 eq:bound l s (M.wtsOf x l.length)*x.den=(M.wtsOf x l.length).den*cost l x.pt
 tb:x.tight.length≤x.by_.length∧x.tight.length≤1000∧WhichOK l.length x.tight
theorem which_ok{e:Nat}{c:Cond}(hc:c∈M.limits l s e):0≤c.which∧(c.kind=1→c.which<(l.length:Int))∧(c.kind≠1→c.kind≠0→c.which<4):=by
 rcases limits_cases hc with⟨i,hi,rfl⟩|⟨i,hi,rfl⟩|⟨k,hk,rfl⟩|⟨k,hk,rfl⟩
 ·exact⟨Int.natCast_nonneg i,fun h=>absurd h (show(0:Int)≠1 by decide),fun _ h=>absurd rfl h⟩
 ·exact⟨Int.natCast_nonneg i,fun _=>by show(i:Int)<_;omega,fun h=>absurd rfl h⟩
 ·exact⟨Int.natCast_nonneg k,fun h=>absurd h (show(2:Int)≠1 by decide),fun _ _=>by show(k:Int)<_;omega⟩
 ·exact⟨Int.natCast_nonneg k,fun h=>absurd h (show(3:Int)≠1 by decide),fun _ _=>by show(k:Int)<_;omega⟩
theorem opt_tb{n e:Nat}{sh wo:List Int}{sum:Int}(hn:n≤5)(ho:Opt n sh sum wo (M.limits l s e) x):x.tight.length≤x.by_.length∧x.tight.length≤1000∧WhichOK l.length x.tight:=
 ⟨by rw[ho.bl];exact Nat.le_refl _,by have:=ho.tl;omega,fun c hc=>which_ok (ho.sub.subset hc)⟩
theorem costs_small(h:RightL l s):∀j,j<l.length+0→(en (M.costs l) j).natAbs≤1000:=by
 intro j hj
 rw[costs_en hj]
 have:=(h.rc j hj).cost;omega
theorem best_some(h:RightL l s)(hp:M.pBest l s=some x):BestS l s x:=by
 have hc:=costs_small h
 have hl:(M.costs l).length=l.length+0:=costs_len l
 have ho:=psolve_some (small_of h (e:=0) (by decide) hl (ent_of hl hc)) hp
 obtain⟨b1,_⟩:=conds_blend h (by decide) ho.den ho.sum ho.all
 obtain⟨p1,p2,p3,_⟩:=opt_wts h (by decide) hl (fun j hj=>by unfold Kb;rw[if_pos (show j<l.length from hj)];exact hc j hj) (W:=fun _=>1000) hc (num_cost _ h.n4) ho
 refine⟨b1,?_,ho.pl,p1,?_,opt_tb (by have:=h.n4;omega) ho⟩
 ·rw[←ho.wdE.trans ho.denE.symm,←p2];exact p1.den.2
 ·rw[p3,p2]
  congr 1
  exact smI_congr fun j hj=>by rw[costs_en (List.mem_range.1 hj)]
theorem Blend.parts(h:RightL l s){pt:List Int}{den far:Int}(hb:Blend l s pt den far)(hd:den≤200000000000)(hl:pt.length=l.length):RightP l den pt:=by
 refine⟨hl,⟨hb.dp,hd⟩,fun i hi=>⟨hb.p0 i hi,?_⟩⟩
 have h1:=hb.p1 i hi
 have h2:=(h.rc i hi).vol
 have h3:(l.getD i dfC).vol*den≤10000*200000000000:=Int.mul_le_mul h2.2 hd (Int.le_of_lt hb.dp) (by decide)
 show pt.getD i 0≤_
 have h1:pt.getD i 0≤(l.getD i dfC).vol*den:=h1
 omega
theorem sum_vol(h:RightL l s){pt:List Int}{den:Int}(hp:RightP l den pt):M.sumP (fun _=>1) l pt=smI (fun i=>en pt i) (List.range l.length):=by
 rw[(vol_bound h.n4 hp).1,smI_dot];rfl
theorem open_of(h:RightL l s){pt:List Int}{den far:Int}(hb:Blend l s pt den far)(hd:den≤200000000000)(hl:pt.length=l.length):OpenR l s den pt:=by
 have hp:=hb.parts h hd hl
 refine⟨h.n4,h.rc,hp,?_,⟨h.lo 0 (by decide),h.hi 0 (by decide)⟩,⟨h.lo 1 (by decide),h.hi 1 (by decide)⟩,⟨h.lo 2 (by decide),h.hi 2 (by decide)⟩,⟨h.lo 3 (by decide),h.hi 3 (by decide)⟩⟩
 rw[sum_vol h hp,hb.sum]
 have:=Int.mul_pos (show 0<s.vol by have:=h.v;omega) hb.dp
 omega
theorem best_okay(l:List Cask)(s:Sample):BestOK l s:=by
 intro he
 have h:=task_right he
 have hc:=costs_small h
 obtain⟨a1,a2,a3,a4,a5⟩:=limits_small h (e:=0) (by decide)
 refine⟨h.n1,h.n4,fun c hc=>by rw[shares_len];exact a3 c hc,turnOK (by rw[shares_len];have:=h.n4;omega) a2 (fun c hc=>⟨by rw[shares_len];exact a3 c hc,a4 c hc⟩),fun x hx=>?_⟩
 have hb:=best_some h hx
 have ho:=open_of h hb.b hb.d hb.pl
 exact⟨⟨Nat.le_of_eq hb.pl,by have:=hb.b.dp;omega,by have:=hb.b.dp;have:=hb.d;unfold i64ok;omega,hb.tb.1,hb.tb.2.1,hb.tb.2.2⟩,cost_ok ho⟩
end
end Go.Bl
end
section
set_option maxRecDepth 100000
namespace Go.Bl
open Go.V Go.Proofs
namespace M
end M
theorem not_true{b:Bool}(h:(!b)=true):b=false:=by cases b <;>simp_all
theorem not_false'{b:Bool}(h:(!b)=false):b=true:=by cases b <;>simp_all
end Go.Bl
end
section
set_option maxRecDepth 100000
namespace Go.Bl
open Go.V Go.Proofs
def dom20f:DomF
 |[.c (.sl _ n_l st_l F_l),.agg [.int .i64 sv,.int .i64 l0,.int .i64 h0,.int .i64 l1,.int .i64 h1,.int .i64 l2,.int .i64 h2,.int .i64 l3,.int .i64 h3]]=>(match Nat.beq st_l 7 with
  |true=>some ([eC.Is n_l F_l,∀c,c∈(eC.list n_l F_l)→c.nm.size≤1000000],resB (M.best (eC.list n_l F_l) ⟨sv,⟨l0,h0⟩,⟨l1,h1⟩,⟨l2,h2⟩,⟨l3,h3⟩⟩))
  |_=>none)
 |_=>none
def v20f:Nat×Sm:=(12,fokSm dom20f)
theorem C20f:FOK Tryd.prog G0 gw 12 dom20f:=by
 intro ags p r hd hp κ w xs hw hl hG hx
 unfold dom20f at hd
 split at hd
 ·rename_i q_l n_l st_l F_l sv l0 h0 l1 h1 l2 h2 l3 h3
  split at hd
  ·rename_i hst
   simp only[Option.some.injEq,Prod.mk.injEq]at hd
   obtain⟨rfl,rfl⟩:=hd
   obtain⟨hI,hn,_⟩:=hp
   have g1:=Nat.eq_of_beq_eq_true hst
   subst g1
   refine C20 _ _ _ (rfl:dom20 _=_) ?_ κ w xs hw hl hG hx
   exact⟨hI,hn,best_okay _ _,trivial⟩
  ·cases hd
 ·cases hd
theorem S20f:SumOK Tryd.prog G0 gw 12 (fokSm dom20f):=fok_sum Tryd.func12 rfl C20f
end Go.Bl
end
section
set_option maxRecDepth 100000
namespace Go.Bl
open Go.V Go.Proofs Go.Lp
section
variable {l : List Cask} {s : Sample} {x : M.Corner}
end
section
variable {l : List Cask} {s : Sample} {x : M.Corner}
theorem ceil_spec{n d:Int}(hd:0<d):(-((-n)/d)-1)*d<n∧n≤ -((-n)/d)*d:=by
 have h1:=Int.mul_ediv_add_emod (-n) d
 have h2:=Int.emod_nonneg (-n) (show d≠0 by omega)
 have h3:=Int.emod_lt_of_pos (-n) hd
 rw[Int.mul_comm]at h1
 rw[Int.sub_mul,Int.neg_mul]
 omega
end
end Go.Bl
end
section
set_option maxRecDepth 100000
namespace Go.Bl
open Go.V Go.Proofs
def tr60:T (List Ar):=
  T.needs [Enc.Is eC (3:Nat) FA,(∀(c:Cask),(c∈Enc.list eC (3:Nat) FA)→ByteArray.size (Cask.nm c)≤1000000),Enc.Is eC (3:Nat) FA,((Enc.list eC (3:Nat) FA)=[{nm:={data:={toList:=[(100:UInt8),(114:UInt8),(121:UInt8)]}},vol:=(100:Int),cost:=(10:Int),k0:=(0:Int),k1:=(0:Int),k2:=(0:Int),k3:=(0:Int)},{nm:={data:={toList:=[(115:UInt8),(119:UInt8),(101:UInt8),(101:UInt8),(116:UInt8)]}},vol:=(100:Int),cost:=(30:Int),k0:=(100:Int),k1:=(0:Int),k2:=(0:Int),k3:=(0:Int)},{nm:={data:={toList:=[(114:UInt8),(105:UInt8),(99:UInt8),(104:UInt8)]}},vol:=(50:Int),cost:=(20:Int),k0:=(200:Int),k1:=(0:Int),k2:=(0:Int),k3:=(0:Int)}]),(exS 60 70)=(exS 60 70)] (T.br ((0:Int)==0) (T.br ((1250:Int)==1250&&((1:Int)==1&&true)) (T.br ((0:Int)==0) (T.br ((2000:Int)==2000) (T.ret [Ar.c (D.bool ((2:Int)==2))]) (T.ret [Ar.c (D.bool false)])) (T.ret [Ar.c (D.bool false)])) (T.ret [Ar.c (D.bool false)])) (T.ret [Ar.c (D.bool false)]))
theorem t60:runFnX Tryd.prog G0 (lookS [v20f,v30c]) (fun _=>[]) [13,14] 1 20 4 4 Tryd.f4 [] =
  tr60:=by kernel_rfl
theorem w60:tr60.wp (fun rs=>rsEqv rs [rB true]):=by
 unfold tr60
 simp only[lA]
 refine⟨isA,exC_nm',isA,by first|exact rfl|trivial,by first|exact rfl|trivial,?_⟩
 refine wp_br (fun _=>?_) (fun h=>absurd h (by decide))
 refine wp_br (fun _=>?_) (fun h=>absurd h (by decide))
 refine wp_br (fun _=>?_) (fun h=>absurd h (by decide))
 refine wp_br (fun _=>?_) (fun h=>absurd h (by decide))
 exact⟨rfl,trivial⟩
def dom60:DomF
 |[]=>some ([],[rB true])
 |_=>none
theorem C60:FOK Tryd.prog G0 gw 4 dom60:=by
 intro ags p r hd hp κ w xs hw hl hG hx
 unfold dom60 at hd
 split at hd
 ·simp only[Option.some.injEq,Prod.mk.injEq]at hd
  obtain⟨rfl,rfl⟩:=hd
  have heq:agsEqv [] []:=trivial
  exact fokX_fin mixed gw_stable (sl:=[v20f,v30c]) ⟨S20f,S30c,trivial⟩ Tryd.func4 hw hl hG hx heq rfl (t60) (w60)
 ·cases hd
theorem S60:SumOK Tryd.prog G0 gw 4 (fokSm dom60):=fok_sum Tryd.func4 rfl C60
end Go.Bl
end
section
set_option maxRecDepth 100000
namespace Go.Bl
open Go.V Go.Proofs
def tr96(l:List Cask)(ps:List Int):T (List Ar):=
  T.br ((ps.length:Int)==0) (T.ret [Ar.c (D.int IntKind.i64 (25:Int))]) (T.loop (Int×PUnit) ((0:Int),PUnit.unit) fun(x:Int×PUnit)=>T.br (decide (x.1<(ps.length:Int))) (T.need ((0:Int)≤x.1) (T.need (x.1<(ps.length:Int)) (T.br (x.1==0) (T.br (M.first [M.unl (M.within (ps.getD x.1.toNat (0:Int)) (0:Int) (IntKind.i64.wrap ((l.length:Int)-1))) (6:Int),(0:Int)] != (0:Int)) (T.ret (Sum.inr [Ar.c (D.int IntKind.i64 (M.first [M.unl (M.within (ps.getD x.1.toNat (0:Int)) (0:Int) (IntKind.i64.wrap ((l.length:Int)-1))) (6:Int),(0:Int)]))])) (T.ret (Sum.inl (IntKind.i64.wrap (x.1+1),PUnit.unit)))) (T.need ((0:Int)≤if IntKind.i64.wrap (x.1-1)>(0:Int)then IntKind.i64.wrap (x.1-1)else(0:Int)) (T.need ((if IntKind.i64.wrap (x.1-1)>(0:Int)then IntKind.i64.wrap (x.1-1)else(0:Int))<(ps.length:Int)) (T.br (M.first [M.unl (M.within (ps.getD x.1.toNat (0:Int)) (0:Int) (IntKind.i64.wrap ((l.length:Int)-1))) (6:Int),M.unl (decide (ps.getD x.1.toNat (0:Int)>ps.getD (Int.toNat (if IntKind.i64.wrap (x.1-1)>(0:Int)then IntKind.i64.wrap (x.1-1)else(0:Int))) (0:Int))) (9:Int)] != (0:Int)) (T.ret (Sum.inr [Ar.c (D.int IntKind.i64 (M.first [M.unl (M.within (ps.getD x.1.toNat (0:Int)) (0:Int) (IntKind.i64.wrap ((l.length:Int)-1))) (6:Int),M.unl (decide (ps.getD x.1.toNat (0:Int)>ps.getD (Int.toNat (if IntKind.i64.wrap (x.1-1)>(0:Int)then IntKind.i64.wrap (x.1-1)else(0:Int))) (0:Int))) (9:Int)]))])) (T.ret (Sum.inl (IntKind.i64.wrap (x.1+1),PUnit.unit))))))))) (T.ret (Sum.inr [Ar.c (D.int IntKind.i64 (0:Int))])))
theorem t96(q_l:Bool)(l:List Cask)(q_ps:Bool)(ps:List Int):runFnX Tryd.prog G0 (lookS [v102,v80,v64]) (fun _=>[(4,[.slot 13 (.int .i64)],none)]) [] 1 40 5 21 Tryd.f21 [.c (.sl q_l l.length 7 (eC.F l)),.c (.sl q_ps ps.length 1 (eI.F ps))] =
  tr96 l ps:=by kernel_rfl
def tr43(l:List Cask)(ps:List Int):T (List Ar):=
  T.br ((ps.length:Int)==0) (T.ret [Ar.c (D.int IntKind.i64 (25:Int))]) (T.loop (Int×PUnit) ((0:Int),PUnit.unit) fun(x:Int×PUnit)=>T.br (decide (x.1<(ps.length:Int))) (T.need ((0:Int)≤x.1) (T.need (x.1<(ps.length:Int)) (T.br (!M.within (ps.getD x.1.toNat (0:Int)) (0:Int) (IntKind.i64.wrap ((l.length:Int)-1))) (T.ret (Sum.inr [Ar.c (D.int IntKind.i64 (6:Int))])) (T.br (decide (x.1>(0:Int))) (T.needs [decide (x.1>(0:Int))=true,(0:Int)≤x.1,x.1<(ps.length:Int),(0:Int)≤IntKind.i64.wrap (x.1-1),IntKind.i64.wrap (x.1-1)<(ps.length:Int)] (T.br (decide (ps.getD x.1.toNat (0:Int)≤ps.getD (Int.toNat (IntKind.i64.wrap (x.1-1))) (0:Int))) (T.ret (Sum.inr [Ar.c (D.int IntKind.i64 (9:Int))])) (T.ret (Sum.inl (IntKind.i64.wrap (x.1+1),PUnit.unit))))) (T.need (decide (x.1>(0:Int))=false) (T.ret (Sum.inl (IntKind.i64.wrap (x.1+1),PUnit.unit)))))))) (T.ret (Sum.inr [Ar.c (D.int IntKind.i64 (0:Int))])))
theorem t43(q_l:Bool)(l:List Cask)(q_ps:Bool)(ps:List Int):runFnX Tryd.prog G0 (lookS [v35]) (fun _=>[(4,[.slot 5 (.int .i64)],none)]) [] 1 40 5 7 Tryd.f7 [.c (.sl q_l l.length 7 (eC.F l)),.c (.sl q_ps ps.length 1 (eI.F ps))] =
  tr43 l ps:=by kernel_rfl
def tr90(q_l:Bool)(l:List Cask)(ps:List Int):T (List Ar):=
  T.needs [(0:Int)≤(l.length:Int),(l.length:Int)≤(l.length:Int),(l.length:Int)≤1000000,(Enc.Is eI (Int.toNat (l.length:Int)) fun(x j:Nat)=>List.getD [D.int IntKind.i64 (0:Int)] j D.nilp),Int.toNat (l.length:Int)≤Int.toNat (l.length:Int)] (T.loop (Int×D×Int×List Int×PUnit) ((0:Int),D.sl q_l l.length (7:Nat) (Enc.F eC l),(1:Int),Enc.list eI (Int.toNat (l.length:Int)) fun(x j:Nat)=>List.getD [D.int IntKind.i64 (0:Int)] j D.nilp,PUnit.unit) fun(x:Int×D×Int×List Int×PUnit)=>T.br (decide (x.1<(ps.length:Int))) (T.needs [(0:Int)≤x.1,x.1<(ps.length:Int),(0:Int)≤ps.getD x.1.toNat (0:Int),ps.getD x.1.toNat (0:Int)<(l.length:Int),(0:Int)≤ps.getD x.1.toNat (0:Int),ps.getD x.1.toNat (0:Int)<(x.2.2.2.1.length:Int),Int.toNat (ps.getD x.1.toNat (0:Int))<x.2.2.2.1.length,Enc.Is eI x.2.2.2.1.length (putF (Int.toNat (ps.getD x.1.toNat (0:Int))) (0:Nat) (1:Nat) [D.int IntKind.i64 (l.getD (Int.toNat (ps.getD x.1.toNat (Enc.dflt eI))) (Enc.dflt eC)).2] (Enc.F eI x.2.2.2.1)),x.2.2.2.1.length≤x.2.2.2.1.length] (T.ret (Sum.inl (IntKind.i64.wrap (x.1+1),x.2.1,x.2.2.1,Enc.list eI x.2.2.2.1.length (putF (Int.toNat (ps.getD x.1.toNat (0:Int))) (0:Nat) (1:Nat) [D.int IntKind.i64 (l.getD (Int.toNat (ps.getD x.1.toNat (Enc.dflt eI))) (Enc.dflt eC)).2] (Enc.F eI x.2.2.2.1)),PUnit.unit)))) (T.need (x.2.2.2.1.length≤x.2.2.2.1.length) (T.ret (Sum.inr [Ar.agg [x.2.1,D.int IntKind.i64 x.2.2.1,D.sl true x.2.2.2.1.length (1:Nat) (Enc.F eI x.2.2.2.1)]]))))
theorem t90(q_l:Bool)(l:List Cask)(q_ps:Bool)(ps:List Int):runFnX Tryd.prog G0 (lookS []) (fun _=>[(3,[.slot 16 (.int .i64),.blk 5 [.im,.int .i64,.rowE 3 eI]],none)]) [] 1 40 5 22 Tryd.f22 [.c (.sl q_l l.length 7 (eC.F l)),.c (.sl q_ps ps.length 1 (eI.F ps))] =
  tr90 q_l l ps:=by kernel_rfl
namespace M
def has(ps:List Int)(k:Int):Bool:=ps.any fun n=>n==k
def wholeP(l:List Cask)(ps:List Int):List Int:=(List.range l.length).map fun(i:Nat)=>if has ps i then(l.getD i dfC).vol else 0
end M
theorem listFrom_hit{n:Nat}{cs:List Int}{k:Nat}(hk:k<cs.length)(h:M.listErrAt n cs k≠0):M.listFrom n cs (cs.length-k) k=M.listErrAt n cs k:=by
 obtain⟨m,hm⟩:∃m,cs.length-k=m+1:=⟨cs.length-k-1,by omega⟩
 rw[hm]
 unfold M.listFrom
 rw[show(M.listErrAt n cs k != 0)=true by simpa using h];rfl
theorem listFrom_next{n:Nat}{cs:List Int}{k:Nat}(hk:k<cs.length)(h:M.listErrAt n cs k=0):M.listFrom n cs (cs.length-k) k=M.listFrom n cs (cs.length-(k+1)) (k+1):=by
 obtain⟨m,hm⟩:∃m,cs.length-k=m+1:=⟨cs.length-k-1,by omega⟩
 rw[hm,show cs.length-(k+1)=m by omega]
 conv=>lhs;unfold M.listFrom
 rw[h];rfl
theorem listErr_zero{n:Nat}{cs:List Int}(h:cs.length=0):M.listErr n cs=25:=by unfold M.listErr;rw[decide_eq_true h];rfl
theorem listErr_pos{n:Nat}{cs:List Int}(h:cs.length≠0):M.listErr n cs=M.listFrom n cs (cs.length-0) 0:=by unfold M.listErr;rw[decide_eq_false h];rfl
theorem w96(l:List Cask)(ps:List Int)(hl:l.length≤1000000)(hp:ps.length≤1000000):(tr96 l ps).wp (fun rs=>rsEqv rs [rI (M.listErr l.length ps)]):=by
 unfold tr96
 have hw:IntKind.i64.wrap ((l.length:Int)-1)=(l.length:Int)-1:=wrap_id (by omega) (by omega)
 simp only[hw]
 refine wp_br (fun hb=>?_) (fun hb=>?_)
 ·have hb:=eq_of_beq hb
  rw[listErr_zero (by omega)];exact rsEqv_refl _
 have hne:ps.length≠0:=by intro e;rw[e]at hb;exact absurd hb (by decide)
 rw[listErr_pos hne]
 refine range_wp (n:=ps.length) (fun k _=>M.listFrom l.length ps (ps.length-0) 0=M.listFrom l.length ps (ps.length-k) k) rfl ?_
 rintro k u hk hI
 refine⟨fun hb=>?_,fun hb=>?_⟩
 ·have hlt:=lt_of_dec hb
  refine⟨by show(0:Int)≤k;omega,by show(k:Int)<ps.length;omega,fun hz=>?_,fun hz=>?_⟩
  ·have hz:(k:Int)=0:=eq_of_beq hz
   have hz:k=0:=by omega
   subst hz
   have e:M.listErrAt l.length ps 0=M.first [M.unl (M.within (ps.getD 0 0) 0 ((l.length:Int)-1)) 6,0]:=rfl
   refine⟨fun hc=>?_,fun hc=>?_⟩
   ·have hc:(M.listErrAt l.length ps 0 != 0)=true:=hc
    rw[hI,listFrom_hit hlt (by simpa using hc)];exact rsEqv_refl _
   ·have hc:(M.listErrAt l.length ps 0 != 0)=false:=hc
    refine⟨hlt,wrap_succ (k:=0) (by omega),?_⟩
    rw[hI];exact listFrom_next hlt (by simpa using hc)
  ·have hz:k≠0:=by intro e;subst e;simp at hz
   have e1:IntKind.i64.wrap ((k:Int)-1)=(k:Int)-1:=wrap_id (by omega) (by omega)
   have e2:(if(k:Int)-1>0 then(k:Int)-1 else 0)=((k-1:Nat):Int):=by split <;>omega
   have eb:Nat.beq k 0=false:=by cases k with|zero=>exact absurd rfl hz|succ k=>rfl
   have e:M.listErrAt l.length ps k=M.first [M.unl (M.within (ps.getD k 0) 0 ((l.length:Int)-1)) 6,M.unl (decide (ps.getD k 0>ps.getD (k-1) 0)) 9]:=by unfold M.listErrAt;rw[eb];rfl
   dsimp only
   rw[e1,e2]
   refine⟨by omega,by omega,fun hc=>?_,fun hc=>?_⟩
   ·have hc:(M.listErrAt l.length ps k != 0)=true:=by rw[e];exact hc
    rw[hI,listFrom_hit hlt (by simpa using hc),e];exact rsEqv_refl _
   ·have hc:(M.listErrAt l.length ps k != 0)=false:=by rw[e];exact hc
    refine⟨hlt,wrap_succ (k:=k) (by omega),?_⟩
    rw[hI];exact listFrom_next hlt (by simpa using hc)
 ·have hge:=ge_of_dec hb
  rw[hI,show ps.length-k=0 by omega]
  exact rsEqv_refl _
theorem w43(l:List Cask)(ps:List Int)(hl:l.length≤1000000)(hp:ps.length≤1000000):(tr43 l ps).wp (fun rs=>rsEqv rs [rI (M.listErr l.length ps)]):=by
 unfold tr43
 have hw:IntKind.i64.wrap ((l.length:Int)-1)=(l.length:Int)-1:=wrap_id (by omega) (by omega)
 simp only[hw]
 refine wp_br (fun hb=>?_) (fun hb=>?_)
 ·have hb:=eq_of_beq hb
  rw[listErr_zero (by omega)];exact rsEqv_refl _
 have hne:ps.length≠0:=by intro e;rw[e]at hb;exact absurd hb (by decide)
 rw[listErr_pos hne]
 refine range_wp (n:=ps.length) (fun k _=>M.listFrom l.length ps (ps.length-0) 0=M.listFrom l.length ps (ps.length-k) k) rfl ?_
 rintro k u hk hI
 refine⟨fun hb=>?_,fun hb=>?_⟩
 ·have hlt:=lt_of_dec hb
  refine⟨by show(0:Int)≤k;omega,by show(k:Int)<ps.length;omega,fun hc=>?_,fun hc=>?_⟩
  ·have hc:M.within (ps.getD k 0) 0 ((l.length:Int)-1)=false:=not_true hc
   have e:M.listErrAt l.length ps k=6:=by unfold M.listErrAt;rw[hc];rfl
   rw[hI,listFrom_hit hlt (by rw[e];decide),e];exact rsEqv_refl _
  ·have hc:M.within (ps.getD k 0) 0 ((l.length:Int)-1)=true:=not_false' hc
   refine⟨fun hz=>?_,fun hz=>?_⟩
   ·have hk0:(k:Int)>0:=of_decide_eq_true hz
    have e1:IntKind.i64.wrap ((k:Int)-1)=((k-1:Nat):Int):=by rw[wrap_id (by omega) (by omega)];omega
    have eb:Nat.beq k 0=false:=by cases k with|zero=>omega|succ k=>rfl
    dsimp only
    rw[e1]
    have e:M.listErrAt l.length ps k=M.unl (decide (ps.getD k 0>ps.getD (k-1) 0)) 9:=by
     unfold M.listErrAt;rw[eb,hc]
     show M.first [0,M.unl (decide (ps.getD k 0>ps.getD (k-1) 0)) 9]=_
     rw[first_cons,if_pos rfl,first_cons]
     split
     ·rename_i h;rw[h];rfl
     ·rfl
    refine⟨hz,by omega,by omega,by omega,by omega,fun hd=>?_,fun hd=>?_⟩
    ·have hd:ps.getD k 0≤ps.getD (k-1) 0:=of_decide_eq_true hd
     rw[decide_eq_false (by omega)]at e
     have e:M.listErrAt l.length ps k=9:=e
     rw[hI,listFrom_hit hlt (by rw[e];decide),e];exact rsEqv_refl _
    ·have hd:¬ps.getD k 0≤ps.getD (k-1) 0:=of_decide_eq_false hd
     rw[decide_eq_true (by omega)]at e
     refine⟨hlt,wrap_succ (k:=k) (by omega),?_⟩
     rw[hI];exact listFrom_next hlt e
   ·have hk0:¬(k:Int)>0:=of_decide_eq_false hz
    have hk0:k=0:=by omega
    subst hk0
    have e:M.listErrAt l.length ps 0=0:=by unfold M.listErrAt;rw[hc];rfl
    refine⟨rfl,hlt,wrap_succ (k:=0) (by omega),?_⟩
    rw[hI];exact listFrom_next hlt e
 ·have hge:=ge_of_dec hb
  rw[hI,show ps.length-k=0 by omega]
  exact rsEqv_refl _
theorem has_take{ps:List Int}{k:Nat}{x:Int}(hk:k<ps.length):M.has (ps.take (k+1)) x=(M.has (ps.take k) x||(ps.getD k 0==x)):=by
 unfold M.has
 rw[take_push (d:=0) hk,List.any_append]
 simp
theorem w90(q_l:Bool)(l:List Cask)(ps:List Int)(hl:l.length≤1000000)(hp:ps.length≤1000000)(hin:∀i,i<ps.length→0≤ps.getD i 0∧ps.getD i 0<l.length):(tr90 q_l l ps).wp (fun rs=>rsEqv rs [.agg [.sl false l.length 7 (eC.F l),dI 1,.sl false l.length 1 (eI.F (M.wholeP l ps))]]):=by
 unfold tr90
 obtain⟨z1,z2⟩:=zeros_int l.length
 have hn:((l.length:Nat):Int).toNat=l.length:=Int.toNat_natCast _
 simp only[hn,z2]
 refine⟨by omega,Int.le_refl _,by omega,z1,Nat.le_refl _,?_⟩
 refine range_wp (S:=D×Int×List Int×PUnit) (n:=ps.length) (fun k s=>s.1=D.sl q_l l.length 7 (eC.F l)∧s.2.1=1∧s.2.2.1=M.wholeP l (ps.take k)) ?_ ?_
 ·refine⟨rfl,rfl,?_⟩
  show List.replicate l.length 0=M.wholeP l (ps.take 0)
  unfold M.wholeP
  rw[List.take_zero]
  apply List.ext_getElem
  ·simp
  ·intro i h1 h2;simp[M.has]
 ·rintro k ⟨a,d,acc,u⟩ hk ⟨i1,i2,i3⟩
  simp only at i1 i2 i3
  subst i1 i2 i3
  have hlen:∀q,(M.wholeP l q).length=l.length:=fun q=>by simp[M.wholeP]
  have gw:∀(q:List Int) (i:Nat) (h:i<(M.wholeP l q).length),(M.wholeP l q)[i]=if M.has q i then(l.getD i dfC).vol else 0:=by
   intro q i h;simp[M.wholeP]
  refine⟨fun hb=>?_,fun hb=>?_⟩
  ·have hlt:=lt_of_dec hb
   have hr:=hin k hlt
   obtain⟨m,hm⟩:∃m:Nat,ps.getD k 0=m:=⟨(ps.getD k 0).toNat,by omega⟩
   have hml:m<l.length:=by omega
   obtain⟨p1,p2⟩:=put_int (l:=M.wholeP l (ps.take k)) (i:=m) (b:=(l.getD m dfC).vol) (by rw[hlen];exact hml)
   have hmn:(ps.getD k 0).toNat=m:=by omega
   refine⟨by show(0:Int)≤k;omega,by show(k:Int)<ps.length;omega,hr.1,hr.2,hr.1,?_,?_,?_,Nat.le_refl _,⟨hlt,wrap_succ (k:=k) (by omega),rfl,rfl,?_⟩⟩
   ·show ps.getD k 0<((M.wholeP l (ps.take k)).length:Int);rw[hlen];exact hr.2
   ·show(ps.getD k 0).toNat<(M.wholeP l (ps.take k)).length;rw[hlen,hmn];exact hml
   ·show eI.Is _ (putF (ps.getD k 0).toNat 0 1 [dI (l.getD (ps.getD k 0).toNat dfC).vol] _);rw[hmn];exact p1
   ·show eI.list _ (putF (ps.getD k 0).toNat 0 1 [dI (l.getD (ps.getD k 0).toNat dfC).vol] _)=_
    rw[hmn]
    refine p2.trans ?_
    apply List.ext_getElem
    ·simp[M.wholeP]
    ·intro i h1 h2
     have hi:i<l.length:=by simpa[M.wholeP]using h2
     rw[List.getElem_set,gw,gw,has_take hlt,hm]
     by_cases e:m=i
     ·subst e;simp
     ·rw[if_neg e]
      have:((m:Int)==(i:Int))=false:=beq_of_ne (by omega)
      rw[this,Bool.or_false]
  ·have hge:=ge_of_dec hb
   have e:ps.take k=ps:=List.take_of_length_le (by omega)
   refine⟨Nat.le_refl _,⟨sl_eqv,rfl,?_,trivial⟩,trivial⟩
   show(D.sl true (M.wholeP l (ps.take k)).length 1 (eI.F (M.wholeP l (ps.take k)))).eqv _
   rw[e,hlen];exact sl_eqv
def dom96:DomF
 |[.c (.sl _ n_l st_l F_l),.c (.sl _ n_ps st_ps F_ps)]=>(match Nat.beq st_l 7&&Nat.beq st_ps 1 with
  |true=>some ([eC.Is n_l F_l,eI.Is n_ps F_ps,(eC.list n_l F_l).length≤1000000,(eI.list n_ps F_ps).length≤1000000],[rI (M.listErr (eC.list n_l F_l).length (eI.list n_ps F_ps))])
  |_=>none)
 |_=>none
def v96:Nat×Sm:=(21,fokSm dom96)
theorem C96:FOK Tryd.prog G0 gw 21 dom96:=by
 intro ags p r hd hp κ w xs hw hl hG hx
 unfold dom96 at hd
 split at hd
 ·rename_i q_l n_l st_l F_l q_ps n_ps st_ps F_ps
  split at hd
  ·rename_i hst
   simp only[Bool.and_eq_true]at hst
   obtain⟨g1,g2⟩:=hst
   have g1:=Nat.eq_of_beq_eq_true g1
   have g2:=Nat.eq_of_beq_eq_true g2
   subst g1 g2
   simp only[Option.some.injEq,Prod.mk.injEq]at hd
   obtain⟨rfl,rfl⟩:=hd
   obtain⟨hI_l,hI_ps,hp⟩:=hp
   have heq:agsEqv [.c (.sl q_l n_l 7 F_l),.c (.sl q_ps n_ps 1 F_ps)] [.c (.sl q_l (eC.list n_l F_l).length 7 (eC.F (eC.list n_l F_l))),.c (.sl q_ps (eI.list n_ps F_ps).length 1 (eI.F (eI.list n_ps F_ps)))]:=⟨eC.to id hI_l,eI.to id hI_ps,trivial⟩
   have len_l:(eC.list n_l F_l).length=n_l:=eC.list_len
   have len_ps:(eI.list n_ps F_ps).length=n_ps:=eI.list_len
   generalize eC.list n_l F_l=l at *
   generalize eI.list n_ps F_ps=ps at *
   subst len_l len_ps
   exact fokX_fin mixed gw_stable (sl:=[v102,v80,v64]) ⟨S102,S80,S64,trivial⟩ Tryd.func21 hw hl hG hx heq rfl (t96 q_l l q_ps ps) (w96 l ps hp.1 hp.2.1)
  ·cases hd
 ·cases hd
theorem S96:SumOK Tryd.prog G0 gw 21 (fokSm dom96):=fok_sum Tryd.func21 rfl C96
def dom43:DomF
 |[.c (.sl _ n_l st_l F_l),.c (.sl _ n_ps st_ps F_ps)]=>(match Nat.beq st_l 7&&Nat.beq st_ps 1 with
  |true=>some ([eC.Is n_l F_l,eI.Is n_ps F_ps,(eC.list n_l F_l).length≤1000000,(eI.list n_ps F_ps).length≤1000000],[rI (M.listErr (eC.list n_l F_l).length (eI.list n_ps F_ps))])
  |_=>none)
 |_=>none
theorem C43:FOK Tryd.prog G0 gw 7 dom43:=by
 intro ags p r hd hp κ w xs hw hl hG hx
 unfold dom43 at hd
 split at hd
 ·rename_i q_l n_l st_l F_l q_ps n_ps st_ps F_ps
  split at hd
  ·rename_i hst
   simp only[Bool.and_eq_true]at hst
   obtain⟨g1,g2⟩:=hst
   have g1:=Nat.eq_of_beq_eq_true g1
   have g2:=Nat.eq_of_beq_eq_true g2
   subst g1 g2
   simp only[Option.some.injEq,Prod.mk.injEq]at hd
   obtain⟨rfl,rfl⟩:=hd
   obtain⟨hI_l,hI_ps,hp⟩:=hp
   have heq:agsEqv [.c (.sl q_l n_l 7 F_l),.c (.sl q_ps n_ps 1 F_ps)] [.c (.sl q_l (eC.list n_l F_l).length 7 (eC.F (eC.list n_l F_l))),.c (.sl q_ps (eI.list n_ps F_ps).length 1 (eI.F (eI.list n_ps F_ps)))]:=⟨eC.to id hI_l,eI.to id hI_ps,trivial⟩
   have len_l:(eC.list n_l F_l).length=n_l:=eC.list_len
   have len_ps:(eI.list n_ps F_ps).length=n_ps:=eI.list_len
   generalize eC.list n_l F_l=l at *
   generalize eI.list n_ps F_ps=ps at *
   subst len_l len_ps
   exact fokX_fin mixed gw_stable (sl:=[v35]) ⟨S35,trivial⟩ Tryd.func7 hw hl hG hx heq rfl (t43 q_l l q_ps ps) (w43 l ps hp.1 hp.2.1)
  ·cases hd
 ·cases hd
theorem S43:SumOK Tryd.prog G0 gw 7 (fokSm dom43):=fok_sum Tryd.func7 rfl C43
def dom90:DomF
 |[.c (.sl _ n_l st_l F_l),.c (.sl _ n_ps st_ps F_ps)]=>(match Nat.beq st_l 7&&Nat.beq st_ps 1 with
  |true=>some ([eC.Is n_l F_l,eI.Is n_ps F_ps,(eC.list n_l F_l).length≤1000000,(eI.list n_ps F_ps).length≤1000000,∀i,i<(eI.list n_ps F_ps).length→0≤(eI.list n_ps F_ps).getD i 0∧(eI.list n_ps F_ps).getD i 0<((eC.list n_l F_l).length:Int)],[.agg [.sl false n_l 7 (eC.F (eC.list n_l F_l)),dI 1,.sl false n_l 1 (eI.F (M.wholeP (eC.list n_l F_l) (eI.list n_ps F_ps)))]])
  |_=>none)
 |_=>none
def v90:Nat×Sm:=(22,fokSm dom90)
theorem C90:FOK Tryd.prog G0 gw 22 dom90:=by
 intro ags p r hd hp κ w xs hw hl hG hx
 unfold dom90 at hd
 split at hd
 ·rename_i q_l n_l st_l F_l q_ps n_ps st_ps F_ps
  split at hd
  ·rename_i hst
   simp only[Bool.and_eq_true]at hst
   obtain⟨g1,g2⟩:=hst
   have g1:=Nat.eq_of_beq_eq_true g1
   have g2:=Nat.eq_of_beq_eq_true g2
   subst g1 g2
   simp only[Option.some.injEq,Prod.mk.injEq]at hd
   obtain⟨rfl,rfl⟩:=hd
   obtain⟨hI_l,hI_ps,hp⟩:=hp
   have heq:agsEqv [.c (.sl q_l n_l 7 F_l),.c (.sl q_ps n_ps 1 F_ps)] [.c (.sl q_l (eC.list n_l F_l).length 7 (eC.F (eC.list n_l F_l))),.c (.sl q_ps (eI.list n_ps F_ps).length 1 (eI.F (eI.list n_ps F_ps)))]:=⟨eC.to id hI_l,eI.to id hI_ps,trivial⟩
   have len_l:(eC.list n_l F_l).length=n_l:=eC.list_len
   have len_ps:(eI.list n_ps F_ps).length=n_ps:=eI.list_len
   generalize eC.list n_l F_l=l at *
   generalize eI.list n_ps F_ps=ps at *
   subst len_l len_ps
   exact fokX_fin mixed gw_stable (sl:=[]) trivial Tryd.func22 hw hl hG hx heq rfl (t90 q_l l q_ps ps) (w90 q_l l ps hp.1 hp.2.1 hp.2.2.1)
  ·cases hd
 ·cases hd
theorem S90:SumOK Tryd.prog G0 gw 22 (fokSm dom90):=fok_sum Tryd.func22 rfl C90
end Go.Bl
end
section
set_option maxRecDepth 100000
namespace Go.Bl
open Go.V Go.Proofs
theorem whole_len(l:List Cask)(q:List Int):(M.wholeP l q).length=l.length:=by simp[M.wholeP]
theorem whole_get{l:List Cask}{q:List Int}{i:Nat}(h:i<l.length):(M.wholeP l q).getD i 0=if M.has q i then(l.getD i dfC).vol else 0:=map_getD h
end Go.Bl
end
section
set_option maxRecDepth 100000
namespace Go.Bl
open Go.V Go.Proofs Go.Lp
theorem fold_small{f:Int→Nat→Int}{y:Nat→Int}{n:Nat}(hf:∀a i,i<n→f a i=IntKind.i64.wrap (a+y i))(hy:∀i,i<n→(y i).natAbs≤10000000)(hn:n≤10) :
  (List.range n).foldl f 0=dot y n∧(dot y n).natAbs≤n*10000000:=by
 have key:∀k,k≤n→(List.range k).foldl f 0=dot y k∧(dot y k).natAbs≤k*10000000:=by
  intro k
  induction k with
  |zero=>intro _;exact⟨rfl,by show(0:Int).natAbs≤_;simp⟩
  |succ k ih=>
   intro hk
   obtain⟨h1,h2⟩:=ih (by omega)
   have hb:=hy k (by omega)
   have e:dot y (k+1)=dot y k+y k:=rfl
   have hb':(dot y (k+1)).natAbs≤(k+1)*10000000:=by rw[e];omega
   refine⟨?_,hb'⟩
   rw[foldl_succ,h1,hf _ _ (by omega),←e]
   exact wrap_id (by omega) (by omega)
 exact key n (Nat.le_refl n)
structure RightT(l:List Cask):Prop where
 n1:1≤l.length
 n10:l.length≤10
 rc:∀i,i<l.length→RightC (l.getD i dfC)
theorem casks_ten{l:List Cask}(h:(M.checkCasks l).2=0):RightT l:=by
 unfold M.checkCasks at h
 cases e0:decide (l.length=0)
 ·rw[e0]at h
  have h:(cond (decide (10<l.length)) ((0:Int),(8:Int)) (M.casksFrom l l.length 0)).2=0:=h
  cases e1:decide (10<l.length)
  ·rw[e1]at h
   have h:(M.casksFrom l l.length 0).2=0:=h
   have e0:=of_decide_eq_false e0
   have e1:=of_decide_eq_false e1
   refine⟨by omega,by omega,fun i hi=>?_⟩
   have hc:=casksFrom_zero _ _ h i (Nat.zero_le _) (by omega)
   unfold M.caskErr at hc
   exact rightC_spec (unl_zero (e:=2) (by decide) (first_nil _ hc _ (List.mem_cons_of_mem _ (List.mem_cons_of_mem _ (List.mem_cons_self ..)))))
  ·rw[e1]at h
   exact absurd (show(8:Int)=0 from h) (by decide)
 ·rw[e0]at h
  exact absurd (show(10:Int)=0 from h) (by decide)
section
variable {l : List Cask} {ps : List Int} {s : Sample}
theorem whole_b(h:RightT l){i:Nat}(hi:i<l.length):0≤(M.wholeP l ps).getD i 0∧(M.wholeP l ps).getD i 0≤10000:=by
 rw[whole_get hi]
 have:=(h.rc i hi).vol
 split <;>omega
theorem mul_tiny{p w:Int}(hp:0≤p∧p≤10000)(hw:w.natAbs≤1000):(p*w).natAbs≤10000000:=by
 rw[Int.natAbs_mul]
 exact Nat.mul_le_mul (show p.natAbs≤10000 by omega) hw
theorem sumW(h:RightT l){of:Cask→Int}(hof:∀i,i<l.length→(of (l.getD i dfC)).natAbs≤1000) :
  M.sumP of l (M.wholeP l ps)=dot (fun i=>(M.wholeP l ps).getD i 0*of (l.getD i dfC)) l.length∧(M.sumP of l (M.wholeP l ps)).natAbs≤100000000:=by
 have hf:=fold_small (f:=fun a i=>IntKind.i64.wrap (a+IntKind.i64.wrap ((M.wholeP l ps).getD i 0*of (l.getD i dfC)))) (y:=fun i=>(M.wholeP l ps).getD i 0*of (l.getD i dfC)) (n:=l.length)
  (fun a i _=>wrap_add_wrap _ _) (fun i hi=>mul_tiny (whole_b h hi) (hof i hi)) h.n10
 have e:M.sumP of l (M.wholeP l ps)=(List.range l.length).foldl (fun a i=>IntKind.i64.wrap (a+IntKind.i64.wrap ((M.wholeP l ps).getD i 0*of (l.getD i dfC)))) 0:=by unfold M.sumP;rw[whole_len]
 have:=h.n10
 rw[e,hf.1]
 exact⟨rfl,by omega⟩
theorem valW(h:RightT l){of:Cask→Int}{c:Int}(hof:∀i,i<l.length→0≤of (l.getD i dfC)∧of (l.getD i dfC)≤1000)(hc:0≤c∧c≤1000) :
  M.valL l (M.wholeP l ps) of c=dot (fun i=>(M.wholeP l ps).getD i 0*(of (l.getD i dfC)-c)) l.length∧(M.valL l (M.wholeP l ps) of c).natAbs≤100000000:=by
 have hf:=fold_small (f:=fun a i=>IntKind.i64.wrap (a+IntKind.i64.wrap ((M.wholeP l ps).getD i 0*IntKind.i64.wrap (of (l.getD i dfC)-c)))) (y:=fun i=>(M.wholeP l ps).getD i 0*(of (l.getD i dfC)-c)) (n:=l.length)
  (fun a i hi=>by have:=hof i hi;rw[wrap_add_wrap,wrap_id (n:=of (l.getD i dfC)-c) (by omega) (by omega)]) (fun i hi=>mul_tiny (whole_b h hi) (by have:=hof i hi;omega)) h.n10
 have e:M.valL l (M.wholeP l ps) of c=(List.range l.length).foldl (fun a i=>IntKind.i64.wrap (a+IntKind.i64.wrap ((M.wholeP l ps).getD i 0*IntKind.i64.wrap (of (l.getD i dfC)-c)))) 0:=rfl
 have:=h.n10
 rw[e,hf.1]
 exact⟨rfl,by omega⟩
theorem dot_nn{y:Nat→Int}:∀{n:Nat},(∀i,i<n→0≤y i)→0≤dot y n
 |0,_=>Int.le_refl _
 |n+1,h=>by
  have h1:=dot_nn (n:=n) fun i hi=>h i (by omega)
  have h2:=h n (by omega)
  show 0≤dot y n+y n
  omega
theorem volW(h:RightT l):M.sumP (fun _=>1) l (M.wholeP l ps)=dot (fun i=>(M.wholeP l ps).getD i 0) l.length∧0≤M.sumP (fun _=>1) l (M.wholeP l ps)∧M.sumP (fun _=>1) l (M.wholeP l ps)≤100000000:=by
 have hs:=sumW (ps:=ps) h (of:=fun _=>1) (fun i hi=>by decide)
 have e:dot (fun i=>(M.wholeP l ps).getD i 0*1) l.length=dot (fun i=>(M.wholeP l ps).getD i 0) l.length:=dot_congr fun i _=>Int.mul_one _
 have h0:=dot_nn (y:=fun i=>(M.wholeP l ps).getD i 0) (n:=l.length) fun i hi=>(whole_b h hi).1
 have h1:=hs.1
 rw[e]at h1
 exact⟨h1,by rw[h1];exact h0,by have:=hs.2;omega⟩
theorem val0W(h:RightT l){of:Cask→Int}(hof:∀i,i<l.length→0≤of (l.getD i dfC)∧of (l.getD i dfC)≤1000):M.valL l (M.wholeP l ps) of 0=M.sumP of l (M.wholeP l ps)∧0≤M.sumP of l (M.wholeP l ps)∧M.sumP of l (M.wholeP l ps)≤100000000:=by
 have h1:=valW (ps:=ps) h hof (c:=0) (by decide)
 have h2:=sumW (ps:=ps) h (of:=of) (fun i hi=>by have:=hof i hi;omega)
 have e:dot (fun i=>(M.wholeP l ps).getD i 0*(of (l.getD i dfC)-0)) l.length=dot (fun i=>(M.wholeP l ps).getD i 0*of (l.getD i dfC)) l.length:=dot_congr fun i _=>by rw[Int.sub_zero]
 have h0:=dot_nn (y:=fun i=>(M.wholeP l ps).getD i 0*of (l.getD i dfC)) (n:=l.length) fun i hi=>Int.mul_nonneg (whole_b h hi).1 (hof i hi).1
 refine⟨by rw[h1.1,e,h2.1],by rw[h2.1];exact h0,by have:=h2.2;omega⟩
theorem ediv_of{a V q:Int}(hV:0<V)(h1:q*V≤a)(h2:a<(q+1)*V):a/V=q:=by
 have e:=Int.mul_ediv_add_emod a V
 have r0:=Int.emod_nonneg a (show V≠0 by omega)
 have r1:=Int.emod_lt_of_pos a hV
 rw[Int.mul_comm]at e
 rcases Int.lt_trichotomy (a/V) q with h|h|h
 ·have:=Int.mul_le_mul_of_nonneg_right (show a/V+1≤q by omega) (Int.le_of_lt hV)
  rw[Int.add_mul,Int.one_mul]at this;omega
 ·exact h
 ·have:=Int.mul_le_mul_of_nonneg_right (show q+1≤a/V by omega) (Int.le_of_lt hV);omega
theorem ceil_up{n V:Int}(hV:0<V):(n+V-1)/V= -((-n)/V):=by
 obtain⟨c1,c2⟩:=ceil_spec (n:=n) hV
 rw[Int.sub_mul,Int.one_mul]at c1
 exact ediv_of hV (by omega) (by rw[Int.add_mul,Int.one_mul];omega)
theorem listErr_in{n:Nat}(hp:M.listErr n ps=0):ps.length≠0∧∀i,i<ps.length→(0≤ps.getD i 0∧ps.getD i 0<(n:Int))∧(i≠0→ps.getD (i-1) 0<ps.getD i 0):=by
 have key:∀(m i:Nat),M.listFrom n ps m i=0→∀j,i≤j→j<i+m→M.listErrAt n ps j=0:=by
  intro m
  induction m with
  |zero=>intro i _ j h1 h2;omega
  |succ m ih=>
   intro i h j h1 h2
   unfold M.listFrom at h
   obtain⟨a,b⟩:=cond_zero h
   rcases Nat.eq_or_lt_of_le h1 with rfl|hlt
   ·exact a
   ·exact ih (i+1) b j hlt (by omega)
 by_cases h0:ps.length=0
 ·rw[listErr_zero h0]at hp;exact absurd hp (by decide)
 ·refine⟨h0,fun i hi=>?_⟩
  rw[listErr_pos h0]at hp
  have:=key _ _ hp i (Nat.zero_le _) (by omega)
  unfold M.listErrAt at this
  have hz:=first_nil _ this
  have hw:=within_spec (unl_zero (by decide) (hz (M.unl (M.within (ps.getD i 0) 0 ((n:Int)-1)) 6) (by simp)))
  refine⟨by omega,fun hne=>?_⟩
  have h2:=unl_zero (by decide) (hz (M.unl (cond (Nat.beq i 0) true (decide (ps.getD i 0>ps.getD (i-1) 0))) 9) (by simp))
  have eb:Nat.beq i 0=false:=by cases i with|zero=>exact absurd rfl hne|succ k=>rfl
  rw[eb]at h2
  exact of_decide_eq_true h2
end
end Go.Bl
end
section
set_option maxRecDepth 100000
namespace Go.Bl
open Go.V Go.Proofs
namespace M
structure Means where
 r0:Rg
 r1:Rg
 r2:Rg
 r3:Rg
 e:Int
def rgW(l:List Cask)(ps:List Int)(k:Int):Rg:=⟨sumP (kOf k) l (wholeP l ps)/sumP (fun _=>1) l (wholeP l ps), -((-(sumP (kOf k) l (wholeP l ps)))/sumP (fun _=>1) l (wholeP l ps))⟩
def noMeans(e:Int):Means:=⟨⟨0,0⟩,⟨0,0⟩,⟨0,0⟩,⟨0,0⟩,e⟩
def meansR(l:List Cask)(ps:List Int):Means:=cond (sumP (fun _=>1) l (wholeP l ps)==0) (noMeans 25) ⟨rgW l ps 0,rgW l ps 1,rgW l ps 2,rgW l ps 3,0⟩
def meansErr(l:List Cask)(ps:List Int):Int:=first [(checkCasks l).2,listErr l.length ps]
def means(l:List Cask)(ps:List Int):Means:=cond (meansErr l ps != 0) (noMeans (meansErr l ps)) (meansR l ps)
end M
theorem list_whole(l:List Cask)(ps:List Int):eI.list l.length (eI.F (M.wholeP l ps))=M.wholeP l ps:=by
 have:=Enc.list_F eI (M.wholeP l ps)
 rw[whole_len]at this;exact this
def resM(m:M.Means):List Ar:=[.agg [dI m.r0.lo,dI m.r0.hi,dI m.r1.lo,dI m.r1.hi,dI m.r2.lo,dI m.r2.hi,dI m.r3.lo,dI m.r3.hi],rI m.e]
def tr40(l:List Cask)(ps:List Int):T (List Ar):=
  T.needs [Enc.Is eC l.length (Enc.F eC l),(∀(c:Cask),c∈Enc.list eC l.length (Enc.F eC l)→ByteArray.size (Cask.nm c)≤1000000),Enc.Is eC l.length (Enc.F eC l),Enc.Is eI ps.length (Enc.F eI ps),List.length (Enc.list eC l.length (Enc.F eC l))≤1000000,List.length (Enc.list eI ps.length (Enc.F eI ps))≤1000000] (T.br (M.first [Prod.snd (M.checkCasks (Enc.list eC l.length (Enc.F eC l))),M.listErr (List.length (Enc.list eC l.length (Enc.F eC l))) (Enc.list eI ps.length (Enc.F eI ps))] != (0:Int)) (T.ret [Ar.agg [D.int IntKind.i64 (0:Int),D.int IntKind.i64 (0:Int),D.int IntKind.i64 (0:Int),D.int IntKind.i64 (0:Int),D.int IntKind.i64 (0:Int),D.int IntKind.i64 (0:Int),D.int IntKind.i64 (0:Int),D.int IntKind.i64 (0:Int)],Ar.c (D.int IntKind.i64 (M.first [Prod.snd (M.checkCasks (Enc.list eC l.length (Enc.F eC l))),M.listErr (List.length (Enc.list eC l.length (Enc.F eC l))) (Enc.list eI ps.length (Enc.F eI ps))]))]) (T.needs [Enc.Is eC l.length (Enc.F eC l),Enc.Is eI ps.length (Enc.F eI ps),List.length (Enc.list eC l.length (Enc.F eC l))≤1000000,List.length (Enc.list eI ps.length (Enc.F eI ps))≤1000000,(∀(i:Nat),i<List.length (Enc.list eI ps.length (Enc.F eI ps))→(0:Int)≤List.getD (Enc.list eI ps.length (Enc.F eI ps)) i (0:Int)∧List.getD (Enc.list eI ps.length (Enc.F eI ps)) i (0:Int)<((Enc.list eC l.length (Enc.F eC l)).length:Int)),Enc.Is eC l.length (Enc.F eC (Enc.list eC l.length (Enc.F eC l))),Enc.Is eI l.length (Enc.F eI (M.wholeP (Enc.list eC l.length (Enc.F eC l)) (Enc.list eI ps.length (Enc.F eI ps)))),l.length≤l.length,l.length≤1000] (T.br (M.sumP (fun(x:Cask)=>(1:Int)) (Enc.list eC l.length (Enc.F eC (Enc.list eC l.length (Enc.F eC l)))) (Enc.list eI l.length (Enc.F eI (M.wholeP (Enc.list eC l.length (Enc.F eC l)) (Enc.list eI ps.length (Enc.F eI ps)))))==0) (T.ret [Ar.agg [D.int IntKind.i64 (0:Int),D.int IntKind.i64 (0:Int),D.int IntKind.i64 (0:Int),D.int IntKind.i64 (0:Int),D.int IntKind.i64 (0:Int),D.int IntKind.i64 (0:Int),D.int IntKind.i64 (0:Int),D.int IntKind.i64 (0:Int)],Ar.c (D.int IntKind.i64 (25:Int))]) (T.needs [Enc.Is eC l.length (Enc.F eC (Enc.list eC l.length (Enc.F eC l))),Enc.Is eI l.length (Enc.F eI (M.wholeP (Enc.list eC l.length (Enc.F eC l)) (Enc.list eI ps.length (Enc.F eI ps)))),l.length≤l.length,l.length≤1000,(M.sumP (fun(x:Cask)=>(1:Int)) (Enc.list eC l.length (Enc.F eC (Enc.list eC l.length (Enc.F eC l)))) (Enc.list eI l.length (Enc.F eI (M.wholeP (Enc.list eC l.length (Enc.F eC l)) (Enc.list eI ps.length (Enc.F eI ps)))))≠(0:Int)),(M.sumP (fun(x:Cask)=>(1:Int)) (Enc.list eC l.length (Enc.F eC (Enc.list eC l.length (Enc.F eC l)))) (Enc.list eI l.length (Enc.F eI (M.wholeP (Enc.list eC l.length (Enc.F eC l)) (Enc.list eI ps.length (Enc.F eI ps)))))≠(0:Int)),Enc.Is eC l.length (Enc.F eC (Enc.list eC l.length (Enc.F eC l))),Enc.Is eI l.length (Enc.F eI (M.wholeP (Enc.list eC l.length (Enc.F eC l)) (Enc.list eI ps.length (Enc.F eI ps)))),l.length≤l.length,l.length≤1000,(M.sumP (fun(x:Cask)=>(1:Int)) (Enc.list eC l.length (Enc.F eC (Enc.list eC l.length (Enc.F eC l)))) (Enc.list eI l.length (Enc.F eI (M.wholeP (Enc.list eC l.length (Enc.F eC l)) (Enc.list eI ps.length (Enc.F eI ps)))))≠(0:Int)),(M.sumP (fun(x:Cask)=>(1:Int)) (Enc.list eC l.length (Enc.F eC (Enc.list eC l.length (Enc.F eC l)))) (Enc.list eI l.length (Enc.F eI (M.wholeP (Enc.list eC l.length (Enc.F eC l)) (Enc.list eI ps.length (Enc.F eI ps)))))≠(0:Int)),Enc.Is eC l.length (Enc.F eC (Enc.list eC l.length (Enc.F eC l))),Enc.Is eI l.length (Enc.F eI (M.wholeP (Enc.list eC l.length (Enc.F eC l)) (Enc.list eI ps.length (Enc.F eI ps)))),l.length≤l.length,l.length≤1000,(M.sumP (fun(x:Cask)=>(1:Int)) (Enc.list eC l.length (Enc.F eC (Enc.list eC l.length (Enc.F eC l)))) (Enc.list eI l.length (Enc.F eI (M.wholeP (Enc.list eC l.length (Enc.F eC l)) (Enc.list eI ps.length (Enc.F eI ps)))))≠(0:Int)),(M.sumP (fun(x:Cask)=>(1:Int)) (Enc.list eC l.length (Enc.F eC (Enc.list eC l.length (Enc.F eC l)))) (Enc.list eI l.length (Enc.F eI (M.wholeP (Enc.list eC l.length (Enc.F eC l)) (Enc.list eI ps.length (Enc.F eI ps)))))≠(0:Int)),Enc.Is eC l.length (Enc.F eC (Enc.list eC l.length (Enc.F eC l))),Enc.Is eI l.length (Enc.F eI (M.wholeP (Enc.list eC l.length (Enc.F eC l)) (Enc.list eI ps.length (Enc.F eI ps)))),l.length≤l.length,l.length≤1000,(M.sumP (fun(x:Cask)=>(1:Int)) (Enc.list eC l.length (Enc.F eC (Enc.list eC l.length (Enc.F eC l)))) (Enc.list eI l.length (Enc.F eI (M.wholeP (Enc.list eC l.length (Enc.F eC l)) (Enc.list eI ps.length (Enc.F eI ps)))))≠(0:Int)),(M.sumP (fun(x:Cask)=>(1:Int)) (Enc.list eC l.length (Enc.F eC (Enc.list eC l.length (Enc.F eC l)))) (Enc.list eI l.length (Enc.F eI (M.wholeP (Enc.list eC l.length (Enc.F eC l)) (Enc.list eI ps.length (Enc.F eI ps)))))≠(0:Int))] (T.ret [Ar.agg [D.int IntKind.i64 (IntKind.i64.wrap (Int.tdiv (M.sumP (M.kOf (0:Int)) (Enc.list eC l.length (Enc.F eC (Enc.list eC l.length (Enc.F eC l)))) (Enc.list eI l.length (Enc.F eI (M.wholeP (Enc.list eC l.length (Enc.F eC l)) (Enc.list eI ps.length (Enc.F eI ps)))))) (M.sumP (fun(x:Cask)=>(1:Int)) (Enc.list eC l.length (Enc.F eC (Enc.list eC l.length (Enc.F eC l)))) (Enc.list eI l.length (Enc.F eI (M.wholeP (Enc.list eC l.length (Enc.F eC l)) (Enc.list eI ps.length (Enc.F eI ps)))))))),D.int IntKind.i64 (IntKind.i64.wrap (Int.tdiv (IntKind.i64.wrap (IntKind.i64.wrap (M.sumP (M.kOf (0:Int)) (Enc.list eC l.length (Enc.F eC (Enc.list eC l.length (Enc.F eC l)))) (Enc.list eI l.length (Enc.F eI (M.wholeP (Enc.list eC l.length (Enc.F eC l)) (Enc.list eI ps.length (Enc.F eI ps)))))+M.sumP (fun(x:Cask)=>(1:Int)) (Enc.list eC l.length (Enc.F eC (Enc.list eC l.length (Enc.F eC l)))) (Enc.list eI l.length (Enc.F eI (M.wholeP (Enc.list eC l.length (Enc.F eC l)) (Enc.list eI ps.length (Enc.F eI ps))))))-1)) (M.sumP (fun(x:Cask)=>(1:Int)) (Enc.list eC l.length (Enc.F eC (Enc.list eC l.length (Enc.F eC l)))) (Enc.list eI l.length (Enc.F eI (M.wholeP (Enc.list eC l.length (Enc.F eC l)) (Enc.list eI ps.length (Enc.F eI ps)))))))),D.int IntKind.i64 (IntKind.i64.wrap (Int.tdiv (M.sumP (M.kOf (1:Int)) (Enc.list eC l.length (Enc.F eC (Enc.list eC l.length (Enc.F eC l)))) (Enc.list eI l.length (Enc.F eI (M.wholeP (Enc.list eC l.length (Enc.F eC l)) (Enc.list eI ps.length (Enc.F eI ps)))))) (M.sumP (fun(x:Cask)=>(1:Int)) (Enc.list eC l.length (Enc.F eC (Enc.list eC l.length (Enc.F eC l)))) (Enc.list eI l.length (Enc.F eI (M.wholeP (Enc.list eC l.length (Enc.F eC l)) (Enc.list eI ps.length (Enc.F eI ps)))))))),D.int IntKind.i64 (IntKind.i64.wrap (Int.tdiv (IntKind.i64.wrap (IntKind.i64.wrap (M.sumP (M.kOf (1:Int)) (Enc.list eC l.length (Enc.F eC (Enc.list eC l.length (Enc.F eC l)))) (Enc.list eI l.length (Enc.F eI (M.wholeP (Enc.list eC l.length (Enc.F eC l)) (Enc.list eI ps.length (Enc.F eI ps)))))+M.sumP (fun(x:Cask)=>(1:Int)) (Enc.list eC l.length (Enc.F eC (Enc.list eC l.length (Enc.F eC l)))) (Enc.list eI l.length (Enc.F eI (M.wholeP (Enc.list eC l.length (Enc.F eC l)) (Enc.list eI ps.length (Enc.F eI ps))))))-1)) (M.sumP (fun(x:Cask)=>(1:Int)) (Enc.list eC l.length (Enc.F eC (Enc.list eC l.length (Enc.F eC l)))) (Enc.list eI l.length (Enc.F eI (M.wholeP (Enc.list eC l.length (Enc.F eC l)) (Enc.list eI ps.length (Enc.F eI ps)))))))),D.int IntKind.i64 (IntKind.i64.wrap (Int.tdiv (M.sumP (M.kOf (2:Int)) (Enc.list eC l.length (Enc.F eC (Enc.list eC l.length (Enc.F eC l)))) (Enc.list eI l.length (Enc.F eI (M.wholeP (Enc.list eC l.length (Enc.F eC l)) (Enc.list eI ps.length (Enc.F eI ps)))))) (M.sumP (fun(x:Cask)=>(1:Int)) (Enc.list eC l.length (Enc.F eC (Enc.list eC l.length (Enc.F eC l)))) (Enc.list eI l.length (Enc.F eI (M.wholeP (Enc.list eC l.length (Enc.F eC l)) (Enc.list eI ps.length (Enc.F eI ps)))))))),D.int IntKind.i64 (IntKind.i64.wrap (Int.tdiv (IntKind.i64.wrap (IntKind.i64.wrap (M.sumP (M.kOf (2:Int)) (Enc.list eC l.length (Enc.F eC (Enc.list eC l.length (Enc.F eC l)))) (Enc.list eI l.length (Enc.F eI (M.wholeP (Enc.list eC l.length (Enc.F eC l)) (Enc.list eI ps.length (Enc.F eI ps)))))+M.sumP (fun(x:Cask)=>(1:Int)) (Enc.list eC l.length (Enc.F eC (Enc.list eC l.length (Enc.F eC l)))) (Enc.list eI l.length (Enc.F eI (M.wholeP (Enc.list eC l.length (Enc.F eC l)) (Enc.list eI ps.length (Enc.F eI ps))))))-1)) (M.sumP (fun(x:Cask)=>(1:Int)) (Enc.list eC l.length (Enc.F eC (Enc.list eC l.length (Enc.F eC l)))) (Enc.list eI l.length (Enc.F eI (M.wholeP (Enc.list eC l.length (Enc.F eC l)) (Enc.list eI ps.length (Enc.F eI ps)))))))),D.int IntKind.i64 (IntKind.i64.wrap (Int.tdiv (M.sumP (M.kOf (3:Int)) (Enc.list eC l.length (Enc.F eC (Enc.list eC l.length (Enc.F eC l)))) (Enc.list eI l.length (Enc.F eI (M.wholeP (Enc.list eC l.length (Enc.F eC l)) (Enc.list eI ps.length (Enc.F eI ps)))))) (M.sumP (fun(x:Cask)=>(1:Int)) (Enc.list eC l.length (Enc.F eC (Enc.list eC l.length (Enc.F eC l)))) (Enc.list eI l.length (Enc.F eI (M.wholeP (Enc.list eC l.length (Enc.F eC l)) (Enc.list eI ps.length (Enc.F eI ps)))))))),D.int IntKind.i64 (IntKind.i64.wrap (Int.tdiv (IntKind.i64.wrap (IntKind.i64.wrap (M.sumP (M.kOf (3:Int)) (Enc.list eC l.length (Enc.F eC (Enc.list eC l.length (Enc.F eC l)))) (Enc.list eI l.length (Enc.F eI (M.wholeP (Enc.list eC l.length (Enc.F eC l)) (Enc.list eI ps.length (Enc.F eI ps)))))+M.sumP (fun(x:Cask)=>(1:Int)) (Enc.list eC l.length (Enc.F eC (Enc.list eC l.length (Enc.F eC l)))) (Enc.list eI l.length (Enc.F eI (M.wholeP (Enc.list eC l.length (Enc.F eC l)) (Enc.list eI ps.length (Enc.F eI ps))))))-1)) (M.sumP (fun(x:Cask)=>(1:Int)) (Enc.list eC l.length (Enc.F eC (Enc.list eC l.length (Enc.F eC l)))) (Enc.list eI l.length (Enc.F eI (M.wholeP (Enc.list eC l.length (Enc.F eC l)) (Enc.list eI ps.length (Enc.F eI ps))))))))],Ar.c (D.int IntKind.i64 (0:Int))])))))
theorem t40(q_l:Bool)(l:List Cask)(q_ps:Bool)(ps:List Int):runFnX Tryd.prog G0 (lookS [v47,v96,v64,v90,v85,v97]) (fun _=>[(1000037,[],none),(3000036,[],none),(3000012,[],none)]) [] 1 40 5 8 Tryd.f8 [.c (.sl q_l l.length 7 (eC.F l)),.c (.sl q_ps ps.length 1 (eI.F ps))] =
  tr40 l ps:=by kernel_rfl
theorem kinds{l':List Cask}(h:RightT l'){ps:List Int}(k:Int)(hk:k=0∨k=1∨k=2∨k=3):M.valL l' (M.wholeP l' ps) (M.kOf k) 0=M.sumP (M.kOf k) l' (M.wholeP l' ps)∧0≤M.sumP (M.kOf k) l' (M.wholeP l' ps)∧M.sumP (M.kOf k) l' (M.wholeP l' ps)≤100000000:=by
 refine val0W h fun i hi=>?_
 have:=h.rc i hi
 rcases hk with rfl|rfl|rfl|rfl
 ·exact this.k0
 ·exact this.k1
 ·exact this.k2
 ·exact this.k3
theorem quo(n V:Int)(h0:0≤n)(h1:n≤100000000)(hV:0<V)(hV1:V≤100000000):IntKind.i64.wrap (n.tdiv V)=n/V∧IntKind.i64.wrap ((IntKind.i64.wrap (IntKind.i64.wrap (n+V)-1)).tdiv V)= -((-n)/V):=by
 rw[wrap_id (n:=n+V) (by omega) (by omega),wrap_id (n:=n+V-1) (by omega) (by omega),Int.tdiv_eq_ediv_of_nonneg h0,Int.tdiv_eq_ediv_of_nonneg (by omega),←ceil_up hV]
 have a:=Int.natAbs_ediv_le_natAbs n V
 have b:=Int.natAbs_ediv_le_natAbs (n+V-1) V
 exact⟨wrap_id (by omega) (by omega),wrap_id (by omega) (by omega)⟩
theorem w40(l:List Cask)(ps:List Int)(hn:∀c,c∈l→c.nm.size≤1000000)(hl:l.length≤100000)(hp:ps.length≤1000000):(tr40 l ps).wp (fun rs=>rsEqv rs (resM (M.means l ps))):=by
 unfold tr40
 simp only[Enc.list_F,list_whole]
 have hl6:l.length≤1000000:=by omega
 iterate 6 refine⟨by first|exact Enc.is_F _ _ _|assumption|exact Nat.le_refl _|decide,?_⟩
 refine wp_br (fun hb=>?_) (fun hb=>?_)
 ·have hb:(M.meansErr l ps != 0)=true:=hb
  have:M.means l ps=M.noMeans (M.meansErr l ps):=by unfold M.means;rw[hb];rfl
  rw[this];exact rsEqv_refl _
 have hb:(M.meansErr l ps != 0)=false:=hb
 have h0:M.meansErr l ps=0:=by simpa using hb
 have hz:=first_nil _ (show M.first [(M.checkCasks l).2,M.listErr l.length ps]=0 from h0)
 have hr:=casks_ten (hz (M.checkCasks l).2 (by simp))
 have hli:=listErr_in (hz (M.listErr l.length ps) (by simp))
 have hin:∀i,i<ps.length→0≤ps.getD i 0∧ps.getD i 0<(l.length:Int):=fun i hi=>(hli.2 i hi).1
 have h10:=hr.n10
 have g3:l.length≤1000:=by omega
 have e0:M.means l ps=M.meansR l ps:=by unfold M.means;rw[hb];rfl
 obtain⟨_,v0,v1⟩:=volW (ps:=ps) hr
 rw[e0]
 iterate 9 refine⟨by first|exact Enc.is_F _ _ _|assumption|exact Nat.le_refl _|decide,?_⟩
 refine wp_br (fun hc=>?_) (fun hc=>?_)
 ·have:M.meansR l ps=M.noMeans 25:=by unfold M.meansR;rw[hc];rfl
  rw[this];exact rsEqv_refl _
 have:M.meansR l ps=⟨M.rgW l ps 0,M.rgW l ps 1,M.rgW l ps 2,M.rgW l ps 3,0⟩:=by unfold M.meansR;rw[hc];rfl
 rw[this]
 have g5:M.sumP (fun _=>1) l (M.wholeP l ps)≠0:=by intro e9;rw[e9]at hc;exact absurd hc (by decide)
 obtain⟨_,a0,a1⟩:=kinds (ps:=ps) hr 0 (by decide)
 obtain⟨_,b0,b1⟩:=kinds (ps:=ps) hr 1 (by decide)
 obtain⟨_,c0,c1⟩:=kinds (ps:=ps) hr 2 (by decide)
 obtain⟨_,d0,d1⟩:=kinds (ps:=ps) hr 3 (by decide)
 obtain⟨q0,q1⟩:=quo _ _ a0 a1 (by omega) v1
 obtain⟨q2,q3⟩:=quo _ _ b0 b1 (by omega) v1
 obtain⟨q4,q5⟩:=quo _ _ c0 c1 (by omega) v1
 obtain⟨q6,q7⟩:=quo _ _ d0 d1 (by omega) v1
 iterate 24 refine⟨by first|exact Enc.is_F _ _ _|assumption|exact Nat.le_refl _|decide,?_⟩
 rw[q0,q1,q2,q3,q4,q5,q6,q7]
 exact rsEqv_refl _
def dom40:DomF
 |[.c (.sl _ n_l st_l F_l),.c (.sl _ n_ps st_ps F_ps)]=>(match Nat.beq st_l 7&&Nat.beq st_ps 1 with
  |true=>some ([eC.Is n_l F_l,eI.Is n_ps F_ps,∀c,c∈(eC.list n_l F_l)→c.nm.size≤1000000,(eC.list n_l F_l).length≤100000,(eI.list n_ps F_ps).length≤1000000],resM (M.means (eC.list n_l F_l) (eI.list n_ps F_ps)))
  |_=>none)
 |_=>none
theorem C40:FOK Tryd.prog G0 gw 8 dom40:=by
 intro ags p r hd hp κ w xs hw hl hG hx
 unfold dom40 at hd
 split at hd
 ·rename_i q_l n_l st_l F_l q_ps n_ps st_ps F_ps
  split at hd
  ·rename_i hst
   simp only[Bool.and_eq_true]at hst
   obtain⟨g1,g2⟩:=hst
   have g1:=Nat.eq_of_beq_eq_true g1
   have g2:=Nat.eq_of_beq_eq_true g2
   subst g1 g2
   simp only[Option.some.injEq,Prod.mk.injEq]at hd
   obtain⟨rfl,rfl⟩:=hd
   obtain⟨hI_l,hI_ps,hp⟩:=hp
   have heq:agsEqv [.c (.sl q_l n_l 7 F_l),.c (.sl q_ps n_ps 1 F_ps)] [.c (.sl q_l (eC.list n_l F_l).length 7 (eC.F (eC.list n_l F_l))),.c (.sl q_ps (eI.list n_ps F_ps).length 1 (eI.F (eI.list n_ps F_ps)))]:=⟨eC.to id hI_l,eI.to id hI_ps,trivial⟩
   have len_l:(eC.list n_l F_l).length=n_l:=eC.list_len
   have len_ps:(eI.list n_ps F_ps).length=n_ps:=eI.list_len
   generalize eC.list n_l F_l=l at *
   generalize eI.list n_ps F_ps=ps at *
   subst len_l len_ps
   exact fokX_fin mixed gw_stable (sl:=[v47,v96,v64,v90,v85,v97]) ⟨S47,S96,S64,S90,S85,S97,trivial⟩ Tryd.func8 hw hl hG hx heq rfl (t40 q_l l q_ps ps) (w40 l ps hp.1 hp.2.1 hp.2.2.1)
  ·cases hd
 ·cases hd
theorem S40:SumOK Tryd.prog G0 gw 8 (fokSm dom40):=fok_sum Tryd.func8 rfl C40
end Go.Bl
end
section
set_option maxRecDepth 100000
namespace Go.Bl
open Go.V Go.Proofs
theorem t25u(q:Bool)(l:List Int):runFnX Tryd.prog G0 (lookS []) (fun _=>[(2,[.slot 7 (.int .i64)],none)]) [] 1 40 3 25 Tryd.f25 [.c (.sl q l.length 1 (eI.F l))] =
  T.loop (Int×PUnit) ((0:Int),PUnit.unit) fun(x:Int×PUnit)=>T.br (decide (x.1<(l.length:Int))) (T.need ((0:Int)≤x.1) (T.need (x.1<(l.length:Int)) (T.br (l.getD x.1.toNat (0:Int) != (0:Int)) (T.ret (Sum.inr [Ar.c (D.int IntKind.i64 (l.getD x.1.toNat (0:Int)))])) (T.ret (Sum.inl (IntKind.i64.wrap (x.1+1),PUnit.unit)))))) (T.ret (Sum.inr [Ar.c (D.int IntKind.i64 (0:Int))])):=by kernel_rfl
theorem C25u:FOK Tryd.prog G0 gw 25 dom64:=by
 intro ags p r hd hp κ w xs hw hl hG hx
 unfold dom64 at hd
 split at hd
 ·rename_i q len st F
  split at hd
  ·rename_i l hst hls
   simp only[Bool.and_eq_true]at hst
   have h1:=Nat.eq_of_beq_eq_true hst.1
   have h2:=Nat.le_of_ble_eq_true hst.2
   subst h1
   obtain⟨hlen,hF⟩:=intsL_spec hls
   simp only[Option.some.injEq,Prod.mk.injEq]at hd
   obtain⟨rfl,rfl⟩:=hd
   subst hlen
   refine fokX_fin mixed gw_stable (sl:=[]) trivial Tryd.func25 hw hl hG hx (ags':=[.c (.sl q l.length 1 (eI.F l))]) ⟨⟨id,rfl,fun _=>rfl,fun i j hi hj=>?_⟩,trivial⟩ rfl (t25u q l) ?_
   ·obtain rfl:j=0:=by omega
    rw[hF i hi];exact D.eqv_refl _
   ·refine⟨fun x=>0≤x.1∧x.1≤l.length∧M.first l=M.first (l.drop x.1.toNat),fun x=>l.length-x.1.toNat,⟨Int.le_refl _,by simp,by simp⟩,fun x ⟨g1,g2,g3⟩=>?_⟩
    obtain⟨k,u⟩:=x
    simp only at g1 g2 g3
    simp only[T.wp,LoopP,decide_eq_true_eq,decide_eq_false_iff_not,bne_iff_ne,ne_eq,bne_eq_false_iff_eq]
    refine⟨fun hlt=>⟨g1,hlt,fun hne=>?_,fun heq=>?_⟩,fun hge=>?_⟩
    ·have hk:k.toNat<l.length:=by omega
     rw[g3,getD_drop (d:=0) hk]
     have:(l.getD k.toNat 0 != 0)=true:=by simpa using hne
     simp only[M.first,this,cond_true]
     exact rsEqv_refl _
    ·have hk:k.toNat<l.length:=by omega
     rw[wrap_id (by omega) (by omega)]
     refine⟨⟨by omega,by omega,?_⟩,by omega⟩
     rw[g3,getD_drop (d:=0) hk,show(k+1).toNat=k.toNat+1 by omega]
     simp only[M.first]
     rw[heq];rfl
    ·have hk:l.length≤k.toNat:=by omega
     rw[g3,List.drop_of_length_le hk]
     exact rsEqv_refl _
  ·cases hd
 ·cases hd
theorem S25u:SumOK Tryd.prog G0 gw 25 (fokSm dom64):=fok_sum Tryd.func25 rfl C25u
theorem t26u(b:Bool)(e:Int):runFnX Tryd.prog G0 (lookS []) (fun _=>[]) [] 1 40 3 26 Tryd.f26 [.c (.bool b),.c (dI e)] =
  T.br b (T.ret [Ar.c (D.int IntKind.i64 (0:Int))]) (T.ret [Ar.c (D.int IntKind.i64 e)]):=by kernel_rfl
theorem C26u:FOK Tryd.prog G0 gw 26 dom80:=by
 intro ags p r hd hp κ w xs hw hl hG hx
 unfold dom80 at hd
 split at hd
 ·rename_i b e
  simp only[Option.some.injEq,Prod.mk.injEq]at hd
  obtain⟨rfl,rfl⟩:=hd
  refine fokX_fin mixed gw_stable (sl:=[]) trivial Tryd.func26 hw hl hG hx (agsEqv_refl _) rfl (t26u b e) ?_
  exact⟨fun h=>by subst h;exact rsEqv_refl _,fun h=>by subst h;exact rsEqv_refl _⟩
 ·cases hd
theorem S26u:SumOK Tryd.prog G0 gw 26 (fokSm dom80):=fok_sum Tryd.func26 rfl C26u
theorem t72u(n lo hi:Int):runFnX Tryd.prog G0 (lookS []) (fun _=>[]) [] 1 40 3 72 Tryd.f72 [.c (dI n),.c (dI lo),.c (dI hi)] =
  T.br (decide (lo≤n)) (T.ret [Ar.c (D.bool (decide (n≤hi)))]) (T.ret [Ar.c (D.bool false)]):=by kernel_rfl
theorem C72u:FOK Tryd.prog G0 gw 72 dom102:=by
 intro ags p r hd hp κ w xs hw hl hG hx
 unfold dom102 at hd
 split at hd
 ·rename_i n lo hi
  simp only[Option.some.injEq,Prod.mk.injEq]at hd
  obtain⟨rfl,rfl⟩:=hd
  refine fokX_fin mixed gw_stable (sl:=[]) trivial Tryd.func72 hw hl hG hx (agsEqv_refl _) rfl (t72u n lo hi) ?_
  exact⟨fun h=>by unfold M.within;rw[h];exact rsEqv_refl _,fun h=>by unfold M.within;rw[h];exact rsEqv_refl _⟩
 ·cases hd
theorem S72u:SumOK Tryd.prog G0 gw 72 (fokSm dom102):=fok_sum Tryd.func72 rfl C72u
def u25:Nat×Sm:=(25,fokSm dom64)
def u26:Nat×Sm:=(26,fokSm dom80)
def u72:Nat×Sm:=(72,fokSm dom102)
end Go.Bl
end
