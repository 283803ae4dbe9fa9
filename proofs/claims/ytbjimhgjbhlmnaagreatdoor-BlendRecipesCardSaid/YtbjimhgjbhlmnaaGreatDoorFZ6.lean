/- The parts of the engines, of their contracts and of the plain laws that the claim rests on: B29, B30, Z1, Z2, Z3, Z4, Z5, Z6, Z7, Z8, Z9, ZR0, ZRG, R1. -/
import Derived.Test.YtbjimhgjbhlmnaaGreatDoorFZ5
import Derived.ChangeSame
import Derived.ChangeVars
import Derived.ProofKit
import Derived.LaidMore
import Derived.OpenShut
import Derived.Carry
import Derived.ChangeArms
import Derived.Test.YtbjimhgjbhlmnaaGreatDoorRows
import Derived.Stop.Joined
import Derived.Stop.LaidErr
import Derived.Lib.LaidTab
import Derived.LaidSub
import Derived.HandedShaped
import Derived.Shelf.Vars
import Derived.Lay
set_option linter.unusedVariables false
set_option linter.unusedSimpArgs false
section
set_option maxRecDepth 100000
namespace Go.Bl
open Go.Gd
open Go.V Go.Proofs
theorem is3{F:Nat→Nat→D}{a b c:Int}(h0:F 0 0=dI a)(h1:F 1 0=dI b)(h2:F 2 0=dI c):eI.Is 3 F:=by
 intro i j hi hj
 obtain rfl:j=0:=Nat.lt_one_iff.1 hj
 match i,hi with
 |0,_=>show(F 0 0).eqv (dI (rdI (F 0) 0));unfold rdI;rw[h0];exact D.eqv_refl _
 |1,_=>show(F 1 0).eqv (dI (rdI (F 1) 0));unfold rdI;rw[h1];exact D.eqv_refl _
 |2,_=>show(F 2 0).eqv (dI (rdI (F 2) 0));unfold rdI;rw[h2];exact D.eqv_refl _
theorem exC_nm:∀c,c∈eC.list 3 (eC.F exC)→c.nm.size≤1000000:=by
 have:eC.list 3 (eC.F exC)=exC:=Enc.list_F eC exC
 rw[this]
 decide
def tr40c:T (List Ar):=
  T.need (Enc.Is eC (3:Nat) (Enc.F eC [{nm:={data:={toList:=[(100:UInt8),(114:UInt8),(121:UInt8)]}},vol:=(100:Int),cost:=(10:Int),k0:=(0:Int),k1:=(0:Int),k2:=(0:Int),k3:=(0:Int)},{nm:={data:={toList:=[(115:UInt8),(119:UInt8),(101:UInt8),(101:UInt8),(116:UInt8)]}},vol:=(100:Int),cost:=(30:Int),k0:=(100:Int),k1:=(0:Int),k2:=(0:Int),k3:=(0:Int)},{nm:={data:={toList:=[(114:UInt8),(105:UInt8),(99:UInt8),(104:UInt8)]}},vol:=(50:Int),cost:=(20:Int),k0:=(200:Int),k1:=(0:Int),k2:=(0:Int),k3:=(0:Int)}])) (T.need (∀(c:Cask),c∈Enc.list eC (3:Nat) (Enc.F eC exC)→ByteArray.size (Cask.nm c)≤(1000000:Nat)) (T.need ((0:Int)≤(0:Int)) (T.need ((0:Int)<(2:Int)) (T.need ((0:Int)≤(1:Int)) (T.need ((1:Int)<(2:Int)) (T.need ((0:Int)≤(0:Int)) (T.need ((0:Int)<(2:Int)) (T.need ((0:Int)≤(0:Int)) (T.need ((0:Int)<(2:Int)) (T.need ((0:Int)≤(0:Int)) (T.need ((0:Int)<(3:Int)) (T.need ((0:Int)≤(1:Int)) (T.need ((1:Int)<(2:Int)) (T.need ((0:Int)≤(2:Int)) (T.need ((2:Int)<(3:Int)) (T.need (Enc.Is eC (3:Nat) (Enc.F eC [{nm:={data:={toList:=[(100:UInt8),(114:UInt8),(121:UInt8)]}},vol:=(100:Int),cost:=(10:Int),k0:=(0:Int),k1:=(0:Int),k2:=(0:Int),k3:=(0:Int)},{nm:={data:={toList:=[(115:UInt8),(119:UInt8),(101:UInt8),(101:UInt8),(116:UInt8)]}},vol:=(100:Int),cost:=(30:Int),k0:=(100:Int),k1:=(0:Int),k2:=(0:Int),k3:=(0:Int)},{nm:={data:={toList:=[(114:UInt8),(105:UInt8),(99:UInt8),(104:UInt8)]}},vol:=(50:Int),cost:=(20:Int),k0:=(200:Int),k1:=(0:Int),k2:=(0:Int),k3:=(0:Int)}])) (T.need (Enc.Is eI (3:Nat) fun(i j:Nat)=>List.getD [D.int IntKind.i64 (100:Int),D.int IntKind.i64 (0:Int),D.int IntKind.i64 (50:Int)] (i*(1:Nat)+j) D.nilp) (T.need ((3:Nat)≤(3:Nat)) (T.need ((3:Nat)≤(1000:Nat)) (T.need (Enc.Is eC (3:Nat) (Enc.F eC [{nm:={data:={toList:=[(100:UInt8),(114:UInt8),(121:UInt8)]}},vol:=(100:Int),cost:=(10:Int),k0:=(0:Int),k1:=(0:Int),k2:=(0:Int),k3:=(0:Int)},{nm:={data:={toList:=[(115:UInt8),(119:UInt8),(101:UInt8),(101:UInt8),(116:UInt8)]}},vol:=(100:Int),cost:=(30:Int),k0:=(100:Int),k1:=(0:Int),k2:=(0:Int),k3:=(0:Int)},{nm:={data:={toList:=[(114:UInt8),(105:UInt8),(99:UInt8),(104:UInt8)]}},vol:=(50:Int),cost:=(20:Int),k0:=(200:Int),k1:=(0:Int),k2:=(0:Int),k3:=(0:Int)}])) (T.need (Enc.Is eI (3:Nat) fun(i j:Nat)=>List.getD [D.int IntKind.i64 (100:Int),D.int IntKind.i64 (0:Int),D.int IntKind.i64 (50:Int)] (i*(1:Nat)+j) D.nilp) (T.need ((3:Nat)≤(3:Nat)) (T.need ((3:Nat)≤(1000:Nat)) (T.need (Enc.Is eC (3:Nat) (Enc.F eC [{nm:={data:={toList:=[(100:UInt8),(114:UInt8),(121:UInt8)]}},vol:=(100:Int),cost:=(10:Int),k0:=(0:Int),k1:=(0:Int),k2:=(0:Int),k3:=(0:Int)},{nm:={data:={toList:=[(115:UInt8),(119:UInt8),(101:UInt8),(101:UInt8),(116:UInt8)]}},vol:=(100:Int),cost:=(30:Int),k0:=(100:Int),k1:=(0:Int),k2:=(0:Int),k3:=(0:Int)},{nm:={data:={toList:=[(114:UInt8),(105:UInt8),(99:UInt8),(104:UInt8)]}},vol:=(50:Int),cost:=(20:Int),k0:=(200:Int),k1:=(0:Int),k2:=(0:Int),k3:=(0:Int)}])) (T.need (Enc.Is eI (3:Nat) fun(i j:Nat)=>List.getD [D.int IntKind.i64 (100:Int),D.int IntKind.i64 (0:Int),D.int IntKind.i64 (50:Int)] (i*(1:Nat)+j) D.nilp) (T.need ((3:Nat)≤(3:Nat)) (T.need ((3:Nat)≤(1000:Nat)) (T.need (Enc.Is eC (3:Nat) (Enc.F eC [{nm:={data:={toList:=[(100:UInt8),(114:UInt8),(121:UInt8)]}},vol:=(100:Int),cost:=(10:Int),k0:=(0:Int),k1:=(0:Int),k2:=(0:Int),k3:=(0:Int)},{nm:={data:={toList:=[(115:UInt8),(119:UInt8),(101:UInt8),(101:UInt8),(116:UInt8)]}},vol:=(100:Int),cost:=(30:Int),k0:=(100:Int),k1:=(0:Int),k2:=(0:Int),k3:=(0:Int)},{nm:={data:={toList:=[(114:UInt8),(105:UInt8),(99:UInt8),(104:UInt8)]}},vol:=(50:Int),cost:=(20:Int),k0:=(200:Int),k1:=(0:Int),k2:=(0:Int),k3:=(0:Int)}])) (T.need (Enc.Is eI (3:Nat) fun(i j:Nat)=>List.getD [D.int IntKind.i64 (100:Int),D.int IntKind.i64 (0:Int),D.int IntKind.i64 (50:Int)] (i*(1:Nat)+j) D.nilp) (T.need ((3:Nat)≤(3:Nat)) (T.need ((3:Nat)≤(1000:Nat)) (T.need (Enc.Is eC (3:Nat) (Enc.F eC [{nm:={data:={toList:=[(100:UInt8),(114:UInt8),(121:UInt8)]}},vol:=(100:Int),cost:=(10:Int),k0:=(0:Int),k1:=(0:Int),k2:=(0:Int),k3:=(0:Int)},{nm:={data:={toList:=[(115:UInt8),(119:UInt8),(101:UInt8),(101:UInt8),(116:UInt8)]}},vol:=(100:Int),cost:=(30:Int),k0:=(100:Int),k1:=(0:Int),k2:=(0:Int),k3:=(0:Int)},{nm:={data:={toList:=[(114:UInt8),(105:UInt8),(99:UInt8),(104:UInt8)]}},vol:=(50:Int),cost:=(20:Int),k0:=(200:Int),k1:=(0:Int),k2:=(0:Int),k3:=(0:Int)}])) (T.need (Enc.Is eI (3:Nat) fun(i j:Nat)=>List.getD [D.int IntKind.i64 (100:Int),D.int IntKind.i64 (0:Int),D.int IntKind.i64 (50:Int)] (i*(1:Nat)+j) D.nilp) (T.need ((3:Nat)≤(3:Nat)) (T.need ((3:Nat)≤(1000:Nat)) (T.ret [Ar.agg [D.int IntKind.i64 (66:Int),D.int IntKind.i64 (67:Int),D.int IntKind.i64 (0:Int),D.int IntKind.i64 (0:Int),D.int IntKind.i64 (0:Int),D.int IntKind.i64 (0:Int),D.int IntKind.i64 (0:Int),D.int IntKind.i64 (0:Int)],Ar.c (D.int IntKind.i64 (0:Int))]))))))))))))))))))))))))))))))))))))
theorem t40c(q q2:Bool):runFnX Tryz.prog G0 (lookS [v47,v64,v85,v97]) (fun _=>[(999999,[],none)]) [77,93,43,74] 1 20 6 27 Tryz.f27 [.c (.sl q 3 7 (eC.F exC)),.c (.sl q2 2 1 (eI.F [0,2]))] =
  tr40c:=by kernel_rfl
def tr30c:T (List Ar):=
  T.need (Enc.Is eC (3:Nat) (Enc.F eC [{nm:={data:={toList:=[(100:UInt8),(114:UInt8),(121:UInt8)]}},vol:=(100:Int),cost:=(10:Int),k0:=(0:Int),k1:=(0:Int),k2:=(0:Int),k3:=(0:Int)},{nm:={data:={toList:=[(115:UInt8),(119:UInt8),(101:UInt8),(101:UInt8),(116:UInt8)]}},vol:=(100:Int),cost:=(30:Int),k0:=(100:Int),k1:=(0:Int),k2:=(0:Int),k3:=(0:Int)},{nm:={data:={toList:=[(114:UInt8),(105:UInt8),(99:UInt8),(104:UInt8)]}},vol:=(50:Int),cost:=(20:Int),k0:=(200:Int),k1:=(0:Int),k2:=(0:Int),k3:=(0:Int)}])) (T.need (∀(c:Cask),c∈Enc.list eC (3:Nat) (Enc.F eC exC)→ByteArray.size (Cask.nm c)≤(1000000:Nat)) (T.need (Enc.Is eC (3:Nat) (Enc.F eC [{nm:={data:={toList:=[(100:UInt8),(114:UInt8),(121:UInt8)]}},vol:=(100:Int),cost:=(10:Int),k0:=(0:Int),k1:=(0:Int),k2:=(0:Int),k3:=(0:Int)},{nm:={data:={toList:=[(115:UInt8),(119:UInt8),(101:UInt8),(101:UInt8),(116:UInt8)]}},vol:=(100:Int),cost:=(30:Int),k0:=(100:Int),k1:=(0:Int),k2:=(0:Int),k3:=(0:Int)},{nm:={data:={toList:=[(114:UInt8),(105:UInt8),(99:UInt8),(104:UInt8)]}},vol:=(50:Int),cost:=(20:Int),k0:=(200:Int),k1:=(0:Int),k2:=(0:Int),k3:=(0:Int)}])) (T.need (Enc.Is eI (3:Nat) fun(i j:Nat)=>List.getD [D.int IntKind.i64 (0:Int),D.int IntKind.i64 (0:Int),D.int IntKind.i64 (0:Int)] (i*(1:Nat)+j) D.nilp) (T.need ((3:Nat)≤(3:Nat)) (T.need ((3:Nat)≤(1000:Nat)) (T.need ((1:Nat)≤(1000000:Nat)) (T.need ((0:Int)≤(0:Int)) (T.need ((0:Int)<(1:Int)) (T.need ((0:Nat)<(1:Nat)) (T.need ((0:Int)≤(0:Int)) (T.need ((0:Int)<(3:Int)) (T.need (Enc.Is eC (3:Nat) (Enc.F eC [{nm:={data:={toList:=[(100:UInt8),(114:UInt8),(121:UInt8)]}},vol:=(100:Int),cost:=(10:Int),k0:=(0:Int),k1:=(0:Int),k2:=(0:Int),k3:=(0:Int)},{nm:={data:={toList:=[(115:UInt8),(119:UInt8),(101:UInt8),(101:UInt8),(116:UInt8)]}},vol:=(100:Int),cost:=(30:Int),k0:=(100:Int),k1:=(0:Int),k2:=(0:Int),k3:=(0:Int)},{nm:={data:={toList:=[(114:UInt8),(105:UInt8),(99:UInt8),(104:UInt8)]}},vol:=(50:Int),cost:=(20:Int),k0:=(200:Int),k1:=(0:Int),k2:=(0:Int),k3:=(0:Int)}])) (T.need (Enc.Is eI (3:Nat) fun(i j:Nat)=>List.getD [D.int IntKind.i64 (100:Int),D.int IntKind.i64 (0:Int),D.int IntKind.i64 (0:Int)] (i*(1:Nat)+j) D.nilp) (T.need ((3:Nat)≤(3:Nat)) (T.need ((3:Nat)≤(1000:Nat)) (T.need ((1:Nat)≤(1000000:Nat)) (T.need ((0:Int)≤(0:Int)) (T.need ((0:Int)<(1:Int)) (T.need ((0:Nat)<(1:Nat)) (T.need ((0:Int)≤(1:Int)) (T.need ((1:Int)<(3:Int)) (T.need (Enc.Is eC (3:Nat) (Enc.F eC [{nm:={data:={toList:=[(100:UInt8),(114:UInt8),(121:UInt8)]}},vol:=(100:Int),cost:=(10:Int),k0:=(0:Int),k1:=(0:Int),k2:=(0:Int),k3:=(0:Int)},{nm:={data:={toList:=[(115:UInt8),(119:UInt8),(101:UInt8),(101:UInt8),(116:UInt8)]}},vol:=(100:Int),cost:=(30:Int),k0:=(100:Int),k1:=(0:Int),k2:=(0:Int),k3:=(0:Int)},{nm:={data:={toList:=[(114:UInt8),(105:UInt8),(99:UInt8),(104:UInt8)]}},vol:=(50:Int),cost:=(20:Int),k0:=(200:Int),k1:=(0:Int),k2:=(0:Int),k3:=(0:Int)}])) (T.need (Enc.Is eI (3:Nat) fun(i j:Nat)=>List.getD [D.int IntKind.i64 (0:Int),D.int IntKind.i64 (100:Int),D.int IntKind.i64 (0:Int)] (i*(1:Nat)+j) D.nilp) (T.need ((3:Nat)≤(3:Nat)) (T.need ((3:Nat)≤(1000:Nat)) (T.need ((1:Nat)≤(1000000:Nat)) (T.need ((2:Nat)≤(1000000:Nat)) (T.need ((1:Nat)≤(1:Nat)) (T.need ((0:Int)≤(0:Int)) (T.need ((0:Int)<(2:Int)) (T.need ((0:Nat)<(2:Nat)) (T.need ((0:Int)≤(0:Int)) (T.need ((0:Int)<(3:Int)) (T.need ((0:Int)≤(1:Int)) (T.need ((1:Int)<(2:Int)) (T.need ((1:Nat)<(2:Nat)) (T.need ((0:Int)≤(1:Int)) (T.need ((1:Int)<(3:Int)) (T.need (Enc.Is eC (3:Nat) (Enc.F eC [{nm:={data:={toList:=[(100:UInt8),(114:UInt8),(121:UInt8)]}},vol:=(100:Int),cost:=(10:Int),k0:=(0:Int),k1:=(0:Int),k2:=(0:Int),k3:=(0:Int)},{nm:={data:={toList:=[(115:UInt8),(119:UInt8),(101:UInt8),(101:UInt8),(116:UInt8)]}},vol:=(100:Int),cost:=(30:Int),k0:=(100:Int),k1:=(0:Int),k2:=(0:Int),k3:=(0:Int)},{nm:={data:={toList:=[(114:UInt8),(105:UInt8),(99:UInt8),(104:UInt8)]}},vol:=(50:Int),cost:=(20:Int),k0:=(200:Int),k1:=(0:Int),k2:=(0:Int),k3:=(0:Int)}])) (T.need (Enc.Is eI (3:Nat) fun(i j:Nat)=>List.getD [D.int IntKind.i64 (100:Int),D.int IntKind.i64 (100:Int),D.int IntKind.i64 (0:Int)] (i*(1:Nat)+j) D.nilp) (T.need ((3:Nat)≤(3:Nat)) (T.need ((3:Nat)≤(1000:Nat)) (T.need ((1:Nat)≤(1000000:Nat)) (T.need ((0:Int)≤(0:Int)) (T.need ((0:Int)<(1:Int)) (T.need ((0:Nat)<(1:Nat)) (T.need ((0:Int)≤(2:Int)) (T.need ((2:Int)<(3:Int)) (T.need (Enc.Is eC (3:Nat) (Enc.F eC [{nm:={data:={toList:=[(100:UInt8),(114:UInt8),(121:UInt8)]}},vol:=(100:Int),cost:=(10:Int),k0:=(0:Int),k1:=(0:Int),k2:=(0:Int),k3:=(0:Int)},{nm:={data:={toList:=[(115:UInt8),(119:UInt8),(101:UInt8),(101:UInt8),(116:UInt8)]}},vol:=(100:Int),cost:=(30:Int),k0:=(100:Int),k1:=(0:Int),k2:=(0:Int),k3:=(0:Int)},{nm:={data:={toList:=[(114:UInt8),(105:UInt8),(99:UInt8),(104:UInt8)]}},vol:=(50:Int),cost:=(20:Int),k0:=(200:Int),k1:=(0:Int),k2:=(0:Int),k3:=(0:Int)}])) (T.need (Enc.Is eI (3:Nat) fun(i j:Nat)=>List.getD [D.int IntKind.i64 (0:Int),D.int IntKind.i64 (0:Int),D.int IntKind.i64 (50:Int)] (i*(1:Nat)+j) D.nilp) (T.need ((3:Nat)≤(3:Nat)) (T.need ((3:Nat)≤(1000:Nat)) (T.need ((1:Nat)≤(1000000:Nat)) (T.need ((2:Nat)≤(1000000:Nat)) (T.need ((1:Nat)≤(1:Nat)) (T.need ((0:Int)≤(0:Int)) (T.need ((0:Int)<(2:Int)) (T.need ((0:Nat)<(2:Nat)) (T.need ((0:Int)≤(0:Int)) (T.need ((0:Int)<(3:Int)) (T.need ((0:Int)≤(1:Int)) (T.need ((1:Int)<(2:Int)) (T.need ((1:Nat)<(2:Nat)) (T.need ((0:Int)≤(2:Int)) (T.need ((2:Int)<(3:Int)) (T.need (Enc.Is eC (3:Nat) (Enc.F eC [{nm:={data:={toList:=[(100:UInt8),(114:UInt8),(121:UInt8)]}},vol:=(100:Int),cost:=(10:Int),k0:=(0:Int),k1:=(0:Int),k2:=(0:Int),k3:=(0:Int)},{nm:={data:={toList:=[(115:UInt8),(119:UInt8),(101:UInt8),(101:UInt8),(116:UInt8)]}},vol:=(100:Int),cost:=(30:Int),k0:=(100:Int),k1:=(0:Int),k2:=(0:Int),k3:=(0:Int)},{nm:={data:={toList:=[(114:UInt8),(105:UInt8),(99:UInt8),(104:UInt8)]}},vol:=(50:Int),cost:=(20:Int),k0:=(200:Int),k1:=(0:Int),k2:=(0:Int),k3:=(0:Int)}])) (T.need (Enc.Is eI (3:Nat) fun(i j:Nat)=>List.getD [D.int IntKind.i64 (100:Int),D.int IntKind.i64 (0:Int),D.int IntKind.i64 (50:Int)] (i*(1:Nat)+j) D.nilp) (T.need ((3:Nat)≤(3:Nat)) (T.need ((3:Nat)≤(1000:Nat)) (T.need (Enc.Is eC (3:Nat) (Enc.F eC [{nm:={data:={toList:=[(100:UInt8),(114:UInt8),(121:UInt8)]}},vol:=(100:Int),cost:=(10:Int),k0:=(0:Int),k1:=(0:Int),k2:=(0:Int),k3:=(0:Int)},{nm:={data:={toList:=[(115:UInt8),(119:UInt8),(101:UInt8),(101:UInt8),(116:UInt8)]}},vol:=(100:Int),cost:=(30:Int),k0:=(100:Int),k1:=(0:Int),k2:=(0:Int),k3:=(0:Int)},{nm:={data:={toList:=[(114:UInt8),(105:UInt8),(99:UInt8),(104:UInt8)]}},vol:=(50:Int),cost:=(20:Int),k0:=(200:Int),k1:=(0:Int),k2:=(0:Int),k3:=(0:Int)}])) (T.need (Enc.Is eI (3:Nat) fun(i j:Nat)=>List.getD [D.int IntKind.i64 (100:Int),D.int IntKind.i64 (0:Int),D.int IntKind.i64 (50:Int)] (i*(1:Nat)+j) D.nilp) (T.need ((3:Nat)≤(3:Nat)) (T.need ((3:Nat)≤(1000:Nat)) (T.need ((1:Int)≠(0:Int)) (T.need ((1:Nat)<(9223372036854775808:Nat)) (T.need ((2000:Nat)<(9223372036854775808:Nat)) (T.need ((1:Nat)≤(1000000:Nat)) (T.need ((2:Nat)≤(1000000:Nat)) (T.need ((1:Nat)≤(1:Nat)) (T.need ((0:Int)≤(0:Int)) (T.need ((0:Int)<(2:Int)) (T.need ((0:Nat)<(2:Nat)) (T.need ((0:Int)≤(1:Int)) (T.need ((1:Int)<(3:Int)) (T.need ((0:Int)≤(1:Int)) (T.need ((1:Int)<(2:Int)) (T.need ((1:Nat)<(2:Nat)) (T.need ((0:Int)≤(2:Int)) (T.need ((2:Int)<(3:Int)) (T.need (Enc.Is eC (3:Nat) (Enc.F eC [{nm:={data:={toList:=[(100:UInt8),(114:UInt8),(121:UInt8)]}},vol:=(100:Int),cost:=(10:Int),k0:=(0:Int),k1:=(0:Int),k2:=(0:Int),k3:=(0:Int)},{nm:={data:={toList:=[(115:UInt8),(119:UInt8),(101:UInt8),(101:UInt8),(116:UInt8)]}},vol:=(100:Int),cost:=(30:Int),k0:=(100:Int),k1:=(0:Int),k2:=(0:Int),k3:=(0:Int)},{nm:={data:={toList:=[(114:UInt8),(105:UInt8),(99:UInt8),(104:UInt8)]}},vol:=(50:Int),cost:=(20:Int),k0:=(200:Int),k1:=(0:Int),k2:=(0:Int),k3:=(0:Int)}])) (T.need (Enc.Is eI (3:Nat) fun(i j:Nat)=>List.getD [D.int IntKind.i64 (0:Int),D.int IntKind.i64 (100:Int),D.int IntKind.i64 (50:Int)] (i*(1:Nat)+j) D.nilp) (T.need ((3:Nat)≤(3:Nat)) (T.need ((3:Nat)≤(1000:Nat)) (T.need ((1:Nat)≤(1000000:Nat)) (T.need ((2:Nat)≤(1000000:Nat)) (T.need ((1:Nat)≤(1:Nat)) (T.need ((3:Nat)≤(1000000:Nat)) (T.need ((2:Nat)≤(2:Nat)) (T.need ((0:Int)≤(0:Int)) (T.need ((0:Int)<(3:Int)) (T.need ((0:Nat)<(3:Nat)) (T.need ((0:Int)≤(0:Int)) (T.need ((0:Int)<(3:Int)) (T.need ((0:Int)≤(1:Int)) (T.need ((1:Int)<(3:Int)) (T.need ((1:Nat)<(3:Nat)) (T.need ((0:Int)≤(1:Int)) (T.need ((1:Int)<(3:Int)) (T.need ((0:Int)≤(2:Int)) (T.need ((2:Int)<(3:Int)) (T.need ((2:Nat)<(3:Nat)) (T.need ((0:Int)≤(2:Int)) (T.need ((2:Int)<(3:Int)) (T.need (Enc.Is eC (3:Nat) (Enc.F eC [{nm:={data:={toList:=[(100:UInt8),(114:UInt8),(121:UInt8)]}},vol:=(100:Int),cost:=(10:Int),k0:=(0:Int),k1:=(0:Int),k2:=(0:Int),k3:=(0:Int)},{nm:={data:={toList:=[(115:UInt8),(119:UInt8),(101:UInt8),(101:UInt8),(116:UInt8)]}},vol:=(100:Int),cost:=(30:Int),k0:=(100:Int),k1:=(0:Int),k2:=(0:Int),k3:=(0:Int)},{nm:={data:={toList:=[(114:UInt8),(105:UInt8),(99:UInt8),(104:UInt8)]}},vol:=(50:Int),cost:=(20:Int),k0:=(200:Int),k1:=(0:Int),k2:=(0:Int),k3:=(0:Int)}])) (T.need (Enc.Is eI (3:Nat) fun(i j:Nat)=>List.getD [D.int IntKind.i64 (100:Int),D.int IntKind.i64 (100:Int),D.int IntKind.i64 (50:Int)] (i*(1:Nat)+j) D.nilp) (T.need ((3:Nat)≤(3:Nat)) (T.need ((3:Nat)≤(1000:Nat)) (T.need ((2:Nat)≤(2:Nat)) (T.ret [Ar.c (D.sl true (2:Nat) (1:Nat) (joinF (1:Nat) (joinF (0:Nat) (fun(x x_1:Nat)=>D.nilp) fun(i j:Nat)=>List.getD [D.int IntKind.i64 (0:Int)] (i*(1:Nat)+j) D.nilp) fun(i j:Nat)=>List.getD [D.int IntKind.i64 (2:Int)] (i*(1:Nat)+j) D.nilp)),Ar.c (D.int IntKind.i64 (2000:Int)),Ar.c (D.int IntKind.i64 (0:Int))])))))))))))))))))))))))))))))))))))))))))))))))))))))))))))))))))))))))))))))))))))))))))))))))))))))))))))))))))))))))
theorem t30c(q:Bool):runFnX Tryz.prog G0 (lookS [v47,v49,v64,v68,v91]) (fun _=>[(999999,[],none)]) [74,76,127,166] 1 20 6 26 Tryz.f26 [.c (.sl q 3 7 (eC.F exC)),.agg [dI 100,dI 60,dI 70,dI 0,dI 1000,dI 0,dI 1000,dI 0,dI 1000]] =
  tr30c:=by kernel_rfl
theorem w40c:tr40c.wp (fun rs=>rsEqv rs [.agg [dI 66,dI 67,dI 0,dI 0,dI 0,dI 0,dI 0,dI 0],rI 0]):=by
 unfold tr40c
 repeat (first|refine⟨by decide,?_⟩|refine⟨exC_nm,?_⟩|refine⟨Enc.is_F _ _ _,?_⟩|refine⟨is3 rfl rfl rfl,?_⟩|refine⟨by decide +kernel,?_⟩)
 exact⟨⟨rfl,rfl,rfl,rfl,rfl,rfl,rfl,rfl,trivial⟩,rfl,trivial⟩
theorem w30c:tr30c.wp (fun rs=>rsEqv rs [.c (dL [0,2]),rI 2000,rI 0]):=by
 unfold tr30c
 repeat (first|refine⟨by decide,?_⟩|refine⟨exC_nm,?_⟩|refine⟨Enc.is_F _ _ _,?_⟩|refine⟨is3 rfl rfl rfl,?_⟩|refine⟨by decide +kernel,?_⟩)
 refine⟨⟨(fun e=>by cases e),rfl,fun _=>rfl,fun i j hi hj=>?_⟩,rfl,rfl,trivial⟩
 obtain rfl:j=0:=Nat.lt_one_iff.1 hj
 match i,hi with
 |0,_=>exact D.eqv_refl _
 |1,_=>exact D.eqv_refl _
def dom30c:DomF
 |[.c (.sl _ n_l st_l F_l),.agg [.int .i64 sv,.int .i64 l0,.int .i64 h0,.int .i64 l1,.int .i64 h1,.int .i64 l2,.int .i64 h2,.int .i64 l3,.int .i64 h3]]=>(match Nat.beq st_l 7 with
  |true=>some ([eC.Is n_l F_l,(eC.list n_l F_l)=exC,(⟨sv,⟨l0,h0⟩,⟨l1,h1⟩,⟨l2,h2⟩,⟨l3,h3⟩⟩:Sample)=exS 60 70],[.c (dL [0,2]),rI 2000,rI 0])
  |_=>none)
 |_=>none
def v30c:Nat×Sm:=(26,fokSm dom30c)
theorem C30c:FOK Tryz.prog G0 gw 26 dom30c:=by
 intro ags p r hd hp κ w xs hw hl hG hx
 unfold dom30c at hd
 split at hd
 ·rename_i q_l n_l st_l F_l sv l0 h0 l1 h1 l2 h2 l3 h3
  split at hd
  ·rename_i hst
   have g1:=hst
   have g1:=Nat.eq_of_beq_eq_true g1
   subst g1
   simp only[Option.some.injEq,Prod.mk.injEq]at hd
   obtain⟨rfl,rfl⟩:=hd
   obtain⟨hI_l,hp⟩:=hp
   have heq:agsEqv [.c (.sl q_l n_l 7 F_l),.agg [.int .i64 sv,.int .i64 l0,.int .i64 h0,.int .i64 l1,.int .i64 h1,.int .i64 l2,.int .i64 h2,.int .i64 l3,.int .i64 h3]] [.c (.sl q_l (eC.list n_l F_l).length 7 (eC.F (eC.list n_l F_l))),.agg [.int .i64 sv,.int .i64 l0,.int .i64 h0,.int .i64 l1,.int .i64 h1,.int .i64 l2,.int .i64 h2,.int .i64 l3,.int .i64 h3]]:=⟨eC.to id hI_l,Ag.eqv_refl _,trivial⟩
   have len_l:(eC.list n_l F_l).length=n_l:=eC.list_len
   generalize eC.list n_l F_l=l at *
   subst len_l
   obtain⟨rfl,hs,_⟩:=hp
   simp only[exS,Sample.mk.injEq,Rg.mk.injEq]at hs
   obtain⟨rfl,⟨rfl,rfl⟩,⟨rfl,rfl⟩,⟨rfl,rfl⟩,rfl,rfl⟩:=hs
   exact fokX_fin mixed gw_stable (sl:=[v47,v49,v64,v68,v91]) ⟨S47,S49,S64,S68,S91,trivial⟩ Tryz.func26 hw hl hG hx heq rfl (t30c q_l) (w30c)
  ·cases hd
 ·cases hd
theorem S30c:SumOK Tryz.prog G0 gw 26 (fokSm dom30c):=fok_sum Tryz.func26 rfl C30c
def dom40c:DomF
 |[.c (.sl _ n_l st_l F_l),.c (.sl _ n_u st_u F_u)]=>(match Nat.beq st_l 7&&Nat.beq st_u 1 with
  |true=>some ([eC.Is n_l F_l,eI.Is n_u F_u,(eC.list n_l F_l)=exC,(eI.list n_u F_u)=[0,2]],[.agg [dI 66,dI 67,dI 0,dI 0,dI 0,dI 0,dI 0,dI 0],rI 0])
  |_=>none)
 |_=>none
def v40c:Nat×Sm:=(27,fokSm dom40c)
theorem C40c:FOK Tryz.prog G0 gw 27 dom40c:=by
 intro ags p r hd hp κ w xs hw hl hG hx
 unfold dom40c at hd
 split at hd
 ·rename_i q_l n_l st_l F_l q_u n_u st_u F_u
  split at hd
  ·rename_i hst
   simp only[Bool.and_eq_true]at hst
   obtain⟨g1,g2⟩:=hst
   have g1:=Nat.eq_of_beq_eq_true g1
   have g2:=Nat.eq_of_beq_eq_true g2
   subst g1 g2
   simp only[Option.some.injEq,Prod.mk.injEq]at hd
   obtain⟨rfl,rfl⟩:=hd
   obtain⟨hI_l,hI_u,hp⟩:=hp
   have heq:agsEqv [.c (.sl q_l n_l 7 F_l),.c (.sl q_u n_u 1 F_u)] [.c (.sl q_l (eC.list n_l F_l).length 7 (eC.F (eC.list n_l F_l))),.c (.sl q_u (eI.list n_u F_u).length 1 (eI.F (eI.list n_u F_u)))]:=⟨eC.to id hI_l,eI.to id hI_u,trivial⟩
   have len_l:(eC.list n_l F_l).length=n_l:=eC.list_len
   have len_u:(eI.list n_u F_u).length=n_u:=eI.list_len
   generalize eC.list n_l F_l=l at *
   generalize eI.list n_u F_u=u at *
   subst len_l len_u
   obtain⟨rfl,rfl,_⟩:=hp
   exact fokX_fin mixed gw_stable (sl:=[v47,v64,v85,v97]) ⟨S47,S64,S85,S97,trivial⟩ Tryz.func27 hw hl hG hx heq rfl (t40c q_l q_u) (w40c)
  ·cases hd
 ·cases hd
theorem S40c:SumOK Tryz.prog G0 gw 27 (fokSm dom40c):=fok_sum Tryz.func27 rfl C40c
end Go.Bl
end
section
set_option maxRecDepth 100000
namespace Go.Bl
open Go.Gd
open Go.V Go.Proofs
def FA:Nat→Nat→D:=fun(i j:Nat)=>List.getD [D.str {data:={toList:=[(100:UInt8),(114:UInt8),(121:UInt8)]}},D.int IntKind.i64 (100:Int),D.int IntKind.i64 (10:Int),D.int IntKind.i64 (0:Int),D.int IntKind.i64 (0:Int),D.int IntKind.i64 (0:Int),D.int IntKind.i64 (0:Int),D.str {data:={toList:=[(115:UInt8),(119:UInt8),(101:UInt8),(101:UInt8),(116:UInt8)]}},D.int IntKind.i64 (100:Int),D.int IntKind.i64 (30:Int),D.int IntKind.i64 (100:Int),D.int IntKind.i64 (0:Int),D.int IntKind.i64 (0:Int),D.int IntKind.i64 (0:Int),D.str {data:={toList:=[(114:UInt8),(105:UInt8),(99:UInt8),(104:UInt8)]}},D.int IntKind.i64 (50:Int),D.int IntKind.i64 (20:Int),D.int IntKind.i64 (200:Int),D.int IntKind.i64 (0:Int),D.int IntKind.i64 (0:Int),D.int IntKind.i64 (0:Int)] (i*(7:Nat)+j) D.nilp
def FI:Nat→Nat→D:=fun(i j:Nat)=>List.getD [D.int IntKind.i64 (0:Int),D.int IntKind.i64 (2:Int)] (i*(1:Nat)+j) D.nilp
def tr18:T (List Ar):=
  T.need (Enc.Is eC (3:Nat) FA) (T.need (∀(c:Cask),(c∈Enc.list eC (3:Nat) FA)→ByteArray.size (Cask.nm c)≤(1000000:Nat)) (T.need (M.taskErr (Enc.list eC (3:Nat) FA) (exS 50 60)=(0:Int)→(1:Nat)≤List.length (Enc.list eC (3:Nat) FA)∧List.length (Enc.list eC (3:Nat) FA)≤(4:Nat)∧(∀(c:Cond),c∈M.limits (Enc.list eC (3:Nat) FA) (exS 50 60) (0:Nat)→List.length (Cond.coefs c)=List.length (M.shares (Enc.list eC (3:Nat) FA) (0:Nat)))∧TurnOK (M.shares (Enc.list eC (3:Nat) FA) (0:Nat)) (M.limits (Enc.list eC (3:Nat) FA) (exS 50 60) (0:Nat))∧∀(x:M.Corner),M.pBest (Enc.list eC (3:Nat) FA) (exS 50 60)=some x→CornerOK (Enc.list eC (3:Nat) FA) (List.length (Enc.list eC (3:Nat) FA)) x∧i64ok (M.sumP Cask.cost (Enc.list eC (3:Nat) FA) (M.Corner.pt x))) (T.need (Enc.Is eC (3:Nat) FA) (T.need (∀(c:Cask),(c∈Enc.list eC (3:Nat) FA)→ByteArray.size (Cask.nm c)≤(1000000:Nat)) (T.need ((3:Nat)≤(1000000:Nat)) (T.need (M.nearErr (Enc.list eC (3:Nat) FA) (exS 180 200)=(0:Int)→(1:Nat)≤List.length (Enc.list eC (3:Nat) FA)∧List.length (Enc.list eC (3:Nat) FA)≤(4:Nat)∧(∀(c:Cond),c∈M.limits (Enc.list eC (3:Nat) FA) (exS 180 200) (1:Nat)→List.length (Cond.coefs c)=List.length (M.shares (Enc.list eC (3:Nat) FA) (1:Nat)))∧TurnOK (M.shares (Enc.list eC (3:Nat) FA) (1:Nat)) (M.limits (Enc.list eC (3:Nat) FA) (exS 180 200) (1:Nat))∧List.length (Enc.list eC (3:Nat) FA)≤List.length (M.Corner.pt (M.pNear (Enc.list eC (3:Nat) FA) (exS 180 200)))∧M.sumP (fun(x:Cask)=>(1:Int)) (Enc.list eC (3:Nat) FA) (List.take (List.length (Enc.list eC (3:Nat) FA)) (M.Corner.pt (M.pNear (Enc.list eC (3:Nat) FA) (exS 180 200))))≠(0:Int)∧i64ok (M.away (Enc.list eC (3:Nat) FA) (List.take (List.length (Enc.list eC (3:Nat) FA)) (M.Corner.pt (M.pNear (Enc.list eC (3:Nat) FA) (exS 180 200)))) (exS 180 200))∧i64ok (M.sumP (fun(x:Cask)=>(1:Int)) (Enc.list eC (3:Nat) FA) (List.take (List.length (Enc.list eC (3:Nat) FA)) (M.Corner.pt (M.pNear (Enc.list eC (3:Nat) FA) (exS 180 200)))))) (T.need (Enc.Is eC (3:Nat) FA) (T.need ((Enc.list eC (3:Nat) FA)=exC) (T.need ((exS 60 70)=(exS 60 70)) (T.need (Enc.Is eC (3:Nat) FA) (T.need (Enc.Is eI (2:Nat) FI) (T.need ((Enc.list eC (3:Nat) FA)=exC) (T.need ((Enc.list eI (2:Nat) FI)=[(0:Int),(2:Int)]) (T.br ((0:Int)==(0:Int)) (T.br ((1250:Int)==(1250:Int)&&((1:Int)==(1:Int)&&true)) (T.br ((0:Int)==(0:Int)) (T.br ((30:Int)==(30:Int)&&((1:Int)==(1:Int)&&true)) (T.br ((0:Int)==(0:Int)) (T.br ((2000:Int)==(2000:Int)) (T.need (Enc.Is eI (2:Nat) (Enc.F eI [(0:Int),(2:Int)])) (T.need (Enc.Is eI (2:Nat) FI) (T.need ((2:Nat)≤(1000000:Nat)) (T.br (M.intsEq (Enc.list eI (2:Nat) (Enc.F eI [(0:Int),(2:Int)])) (Enc.list eI (2:Nat) FI)) (T.br ((0:Int)==(0:Int)) (T.ret [Ar.c (D.bool ((66:Int)==(66:Int)&&((67:Int)==(67:Int)&&true)))]) (T.ret [Ar.c (D.bool false)])) (T.ret [Ar.c (D.bool false)]))))) (T.ret [Ar.c (D.bool false)])) (T.ret [Ar.c (D.bool false)])) (T.ret [Ar.c (D.bool false)])) (T.ret [Ar.c (D.bool false)])) (T.ret [Ar.c (D.bool false)])) (T.ret [Ar.c (D.bool false)])))))))))))))))
theorem t18:runFnX Tryz.prog G0 (lookS [v20,v26,v30c,v40c,v34]) (fun _=>[]) [23,24] 1 20 4 5 Tryz.f5 [] =
  tr18:=by kernel_rfl
theorem lA:eC.list 3 FA=exC:=rfl
theorem lI:eI.list 2 FI=[0,2]:=by decide
theorem isA:eC.Is 3 FA:=by
 intro i j hi hj
 have hj':j<7:=hj
 match i,hi,j,hj' with
 |0,_,0,_=>exact D.eqv_refl _
 |0,_,1,_=>exact D.eqv_refl _
 |0,_,2,_=>exact D.eqv_refl _
 |0,_,3,_=>exact D.eqv_refl _
 |0,_,4,_=>exact D.eqv_refl _
 |0,_,5,_=>exact D.eqv_refl _
 |0,_,6,_=>exact D.eqv_refl _
 |1,_,0,_=>exact D.eqv_refl _
 |1,_,1,_=>exact D.eqv_refl _
 |1,_,2,_=>exact D.eqv_refl _
 |1,_,3,_=>exact D.eqv_refl _
 |1,_,4,_=>exact D.eqv_refl _
 |1,_,5,_=>exact D.eqv_refl _
 |1,_,6,_=>exact D.eqv_refl _
 |2,_,0,_=>exact D.eqv_refl _
 |2,_,1,_=>exact D.eqv_refl _
 |2,_,2,_=>exact D.eqv_refl _
 |2,_,3,_=>exact D.eqv_refl _
 |2,_,4,_=>exact D.eqv_refl _
 |2,_,5,_=>exact D.eqv_refl _
 |2,_,6,_=>exact D.eqv_refl _
theorem isI:eI.Is 2 FI:=by
 intro i j hi hj
 obtain rfl:j=0:=Nat.lt_one_iff.1 hj
 match i,hi with
 |0,_=>exact D.eqv_refl _
 |1,_=>exact D.eqv_refl _
def okB(l:List Cask)(n:Nat)(x:M.Corner):Bool:=
 decide (x.pt.length≤n)&&decide (x.den≠0)&&decide (x.den.natAbs<9223372036854775808)&&decide (x.tight.length≤x.by_.length)&&decide (x.tight.length≤1000) &&
  x.tight.all (fun c=>decide (0≤c.which)&&(!(c.kind==1)||decide (c.which<(l.length:Int)))&&((c.kind==1)||(c.kind==0)||decide (c.which<4)))&&decide ((M.sumP Cask.cost l x.pt).natAbs<9223372036854775808)
theorem exC_best:(M.pBest exC (exS 50 60)).all (okB exC 3)=true:=by decide +kernel
theorem bestOK_ex:BestOK exC (exS 50 60):=by
 intro _
 refine⟨by decide,by decide,by decide +kernel,turnOK (by decide) (by decide +kernel) (by decide +kernel),fun x hx=>?_⟩
 have h:=exC_best
 rw[hx]at h
 have h':okB exC 3 x=true:=h
 unfold okB at h'
 simp only[Bool.and_eq_true,decide_eq_true_eq,List.all_eq_true,Bool.or_eq_true,beq_iff_eq,Bool.not_eq_true',beq_eq_false_iff_ne]at h'
 obtain⟨⟨⟨⟨⟨⟨a1,a2⟩,a3⟩,a4⟩,a5⟩,a6⟩,a7⟩:=h'
 refine⟨⟨a1,a2,a3,a4,a5,fun c hc=>?_⟩,a7⟩
 obtain⟨⟨b1,b2⟩,b3⟩:=a6 c hc
 refine⟨b1,fun e=>?_,fun e1 e0=>?_⟩
 ·rcases b2 with b2|b2
  ·exact absurd e b2
  ·exact b2
 ·rcases b3 with(b3|b3)|b3
  ·exact absurd b3 e1
  ·exact absurd b3 e0
  ·exact b3
theorem nearOK_ex:NearOK exC (exS 180 200):=by
 intro _
 exact⟨by decide,by decide,by decide +kernel,turnOK (by decide) (by decide +kernel) (by decide +kernel),by decide +kernel,by decide +kernel,by decide +kernel,by decide +kernel⟩
theorem exC_nm':∀c,c∈exC→c.nm.size≤1000000:=by decide
theorem w18:tr18.wp (fun rs=>rsEqv rs [rB true]):=by
 have f1:M.intsEq [0,2] [0,2]=true:=by decide
 unfold tr18
 simp only[lA,lI,Enc.list_F,f1]
 refine⟨isA,exC_nm',bestOK_ex,isA,exC_nm',by decide,nearOK_ex,isA,trivial,trivial,isA,isI,trivial,trivial,?_⟩
 refine wp_br (fun _=>?_) (fun h=>absurd h (by decide))
 refine wp_br (fun _=>?_) (fun h=>absurd h (by decide))
 refine wp_br (fun _=>?_) (fun h=>absurd h (by decide))
 refine wp_br (fun _=>?_) (fun h=>absurd h (by decide))
 refine wp_br (fun _=>?_) (fun h=>absurd h (by decide))
 refine wp_br (fun _=>?_) (fun h=>absurd h (by decide))
 refine⟨Enc.is_F _ _ _,isI,by decide,?_⟩
 refine wp_br (fun _=>?_) (fun h=>absurd h (by decide))
 refine wp_br (fun _=>?_) (fun h=>absurd h (by decide))
 exact⟨rfl,trivial⟩
def dom18:DomF
 |[]=>some ([],[rB true])
 |_=>none
theorem C18:FOK Tryz.prog G0 gw 5 dom18:=by
 intro ags p r hd hp κ w xs hw hl hG hx
 unfold dom18 at hd
 split at hd
 ·simp only[Option.some.injEq,Prod.mk.injEq]at hd
  obtain⟨rfl,rfl⟩:=hd
  have heq:agsEqv [] []:=trivial
  exact fokX_fin mixed gw_stable (sl:=[v20,v26,v30c,v40c,v34]) ⟨S20,S26,S30c,S40c,S34,trivial⟩ Tryz.func5 hw hl hG hx heq rfl (t18) (w18)
 ·cases hd
theorem S18:SumOK Tryz.prog G0 gw 5 (fokSm dom18):=fok_sum Tryz.func5 rfl C18
end Go.Bl
end
section
set_option maxRecDepth 100000
namespace Go.Tx
open Go.Gd
open Go.V Go.Proofs Go.Lib
open Go.RowKit (Below)
theorem to0{α:Type}(E:Enc α)(h1:E.st=1){q:Bool}{n st:Nat}{F:Nat→Nat→D}(hst:(Nat.beq st 1||Nat.beq n 0)=true)(hI:E.Is n F):(D.sl q n st F).eqv (.sl q (E.list n F).length 1 (E.F (E.list n F))):=by
 rw[Bool.or_eq_true]at hst
 rcases hst with h|h
 ·have h:=Nat.eq_of_beq_eq_true h
  subst h
  have:=E.to (q:=q) (q':=q) id hI
  rw[h1]at this
  exact this
 ·have h:=Nat.eq_of_beq_eq_true h
  subst h
  exact⟨id,by simp[Enc.list],fun h=>absurd h (Nat.lt_irrefl 0),fun i j hi=>absurd hi (Nat.not_lt_zero i)⟩
theorem bs_eq(a b:ByteArray):(a.toList==b.toList)=decide (a=b):=by
 rw[toList_eq,toList_eq]
 by_cases h:a=b
 ·subst h;simp
 ·rw[decide_eq_false h]
  simp only[beq_eq_false_iff_ne,ne_eq]
  exact fun e=>h (lA_inj e)
theorem mem_getD{α:Type}{l:List α}{d:α}{k:Nat}(h:k<l.length):l.getD k d∈l:=by
 rw[List.getD_eq_getElem?_getD,List.getElem?_eq_getElem h];exact List.getElem_mem h
theorem mem_iff{α:Type}{l:List α}{d x:α}:x∈l↔∃k,k<l.length∧l.getD k d=x:=by
 constructor
 ·intro h
  obtain⟨k,hk,e⟩:=List.getElem_of_mem h
  refine⟨k,hk,?_⟩
  rw[List.getD_eq_getElem?_getD,List.getElem?_eq_getElem hk];exact e
 ·rintro ⟨k,hk,rfl⟩;exact mem_getD hk
theorem ext_getD{α:Type}{l m:List α}{d:α}(h:l.length=m.length)(h1:∀k,k<l.length→l.getD k d=m.getD k d):l=m:=by
 refine List.ext_getElem h fun k hk hk'=>?_
 have:=h1 k hk
 rw[List.getD_eq_getElem?_getD,List.getD_eq_getElem?_getD,List.getElem?_eq_getElem hk,List.getElem?_eq_getElem hk']at this
 exact this
namespace M
def has(l:List ByteArray)(s:ByteArray):Bool:=l.any fun x=>decide (x=s)
def eqS(l m:List ByteArray):Bool:=decide (l=m)
def eqI(l m:List Int):Bool:=decide (l=m)
end M
theorem has_yes{l:List ByteArray}{s:ByteArray}(h:s∈l):M.has l s=true:=List.any_eq_true.2 ⟨s,h,decide_eq_true rfl⟩
theorem has_no{l:List ByteArray}{s:ByteArray}(h:¬s∈l):M.has l s=false:=by
 cases e:M.has l s with
 |false=>rfl
 |true=>
  obtain⟨x,hx,e⟩:=List.any_eq_true.1 e
  have e:=of_decide_eq_true e
  subst e
  exact absurd hx h
theorem t50r(q_l:Bool)(l:List ByteArray)(s:ByteArray):runFnX Tryz.prog G0 (lookS []) (fun _=>[(2,[.slot 5 (.int .i64)],none)]) [] 0 60 3 50 Tryz.f50 [.c (.sl q_l l.length 1 (eS.F l)),.c (.str s)]=T.loop (Int×PUnit) ((0:Int),PUnit.unit) fun(x:Int×PUnit)=>T.br (decide (x.1<(l.length:Int))) (T.needs [0≤x.1,x.1<(l.length:Int)] (T.br ((l.getD x.1.toNat .empty).toList==s.toList) (T.ret (Sum.inr [Ar.c (D.bool true)])) (T.ret (Sum.inl (w64 (x.1+1),PUnit.unit))))) (T.ret (Sum.inr [Ar.c (D.bool false)])):=by kernel_rfl
theorem w50r(l:List ByteArray)(s:ByteArray)(hl:l.length≤1000000):(T.loop (Int×PUnit) ((0:Int),PUnit.unit) fun(x:Int×PUnit)=>T.br (decide (x.1<(l.length:Int))) (T.needs [0≤x.1,x.1<(l.length:Int)] (T.br ((l.getD x.1.toNat .empty).toList==s.toList) (T.ret (Sum.inr [Ar.c (D.bool true)])) (T.ret (Sum.inl (w64 (x.1+1),PUnit.unit))))) (T.ret (Sum.inr [Ar.c (D.bool false)]))).wp (fun rs=>rsEqv rs [rB (M.has l s)]):=by
 refine Go.Bl.range_wp (n:=l.length) (fun k _=>∀j,j<k→l.getD j .empty≠s) (fun j hj=>by omega) ?_
 rintro k u hk hI
 refine⟨fun hb=>?_,fun hb=>?_⟩
 ·have hlt:(k:Int)<l.length:=of_decide_eq_true hb
  refine⟨by show(0:Int)≤k;omega,hlt,fun he=>?_,fun he=>?_⟩
  ·have he:l.getD k .empty=s:=by rw[bs_eq]at he;have:=of_decide_eq_true he;exact this
   have:M.has l s=true:=has_yes (he ▸ mem_getD (by omega))
   rw[this]
   skip
   exact rsEqv_refl _
  ·have he:l.getD k .empty≠s:=by rw[bs_eq]at he;have:=of_decide_eq_false he;exact this
   refine⟨by omega,by show w64 ((k:Int)+1)=_;rw[w64_id (by omega) (by omega)];omega,fun j hj=>?_⟩
   rcases Nat.lt_or_ge j k with h|h
   ·exact hI j h
   ·obtain rfl:j=k:=by omega
    exact he
 ·have hge:¬(k:Int)<l.length:=of_decide_eq_false hb
  have:M.has l s=false:=has_no fun h=>by
   obtain⟨j,hj,e⟩:=(mem_iff (d:=ByteArray.empty)).1 h
   exact hI j (by omega) e
  rw[this]
  skip
  exact rsEqv_refl _
def dom50r:DomF
 |[.c (.sl q_l n_l st_l F_l),.c (.str s)]=>(match (Nat.beq st_l 1||Nat.beq n_l 0)with
  |true=>some ([eS.Is n_l F_l,(eS.list n_l F_l).length≤1000000],[rB (M.has (eS.list n_l F_l) s)])
  |_=>none)
 |_=>none
def v50r:Nat×Sm:=(50,fokSm dom50r)
theorem C50r:FOK Tryz.prog G0 gw 50 dom50r:=by
 intro ags p r hd hp κ w xs hw hl hG hx
 unfold dom50r at hd
 split at hd
 ·rename_i q_l n_l st_l F_l s
  split at hd
  ·rename_i hst
   have gz_l:=hst
   simp only[Option.some.injEq,Prod.mk.injEq]at hd
   obtain⟨rfl,rfl⟩:=hd
   obtain⟨hI_l,hp⟩:=hp
   have heq:agsEqv [.c (.sl q_l n_l st_l F_l),.c (.str s)] [.c (.sl q_l (eS.list n_l F_l).length 1 (eS.F (eS.list n_l F_l))),.c (.str s)]:=⟨to0 eS rfl gz_l hI_l,rfl,trivial⟩
   generalize eS.list n_l F_l=l at *
   exact fokX_fin mixed gw_stable (sl:=[]) trivial Tryz.func50 hw hl hG hx heq rfl (t50r q_l l s) (w50r l s hp.1)
  ·cases hd
 ·cases hd
theorem S50r:SumOK Tryz.prog G0 gw 50 (fokSm dom50r):=fok_sum Tryz.func50 rfl C50r
theorem t34r(q_l:Bool)(l:List ByteArray)(s:ByteArray):runFnX Tryz.prog G0 (lookS []) (fun _=>[(2,[.slot 8 (.int .i64)],none)]) [84] 1 40 6 34 Tryz.f34 [.c (.sl q_l l.length 1 (eS.F l)),.c (.str s)]=T.loop (Int×PUnit) ((0:Int),PUnit.unit) fun(x:Int×PUnit)=>T.br (decide (x.1<(l.length:Int))) (T.needs [0≤x.1,x.1<(l.length:Int)] (T.br (s.toList==(l.getD x.1.toNat .empty).toList) (T.ret (Sum.inr [Ar.c (D.bool (decide (x.1≥0)))])) (T.ret (Sum.inl (w64 (x.1+1),PUnit.unit))))) (T.ret (Sum.inr [Ar.c (D.bool (decide ((-1:Int)≥0)))])):=by kernel_rfl
theorem w34r(l:List ByteArray)(s:ByteArray)(hl:l.length≤1000000):(T.loop (Int×PUnit) ((0:Int),PUnit.unit) fun(x:Int×PUnit)=>T.br (decide (x.1<(l.length:Int))) (T.needs [0≤x.1,x.1<(l.length:Int)] (T.br (s.toList==(l.getD x.1.toNat .empty).toList) (T.ret (Sum.inr [Ar.c (D.bool (decide (x.1≥0)))])) (T.ret (Sum.inl (w64 (x.1+1),PUnit.unit))))) (T.ret (Sum.inr [Ar.c (D.bool (decide ((-1:Int)≥0)))]))).wp (fun rs=>rsEqv rs [rB (M.has l s)]):=by
 refine Go.Bl.range_wp (n:=l.length) (fun k _=>∀j,j<k→l.getD j .empty≠s) (fun j hj=>by omega) ?_
 rintro k u hk hI
 refine⟨fun hb=>?_,fun hb=>?_⟩
 ·have hlt:(k:Int)<l.length:=of_decide_eq_true hb
  refine⟨by show(0:Int)≤k;omega,hlt,fun he=>?_,fun he=>?_⟩
  ·have he:l.getD k .empty=s:=by rw[bs_eq]at he;have:=of_decide_eq_true he;exact this.symm
   have:M.has l s=true:=has_yes (he ▸ mem_getD (by omega))
   rw[this]
   have e:decide ((k:Int)≥0)=true:=decide_eq_true (by omega)
   show rsEqv [rB (decide ((k:Int)≥0))] _
   rw[e]
   exact rsEqv_refl _
  ·have he:l.getD k .empty≠s:=by rw[bs_eq]at he;have:=of_decide_eq_false he;exact fun e=>this e.symm
   refine⟨by omega,by show w64 ((k:Int)+1)=_;rw[w64_id (by omega) (by omega)];omega,fun j hj=>?_⟩
   rcases Nat.lt_or_ge j k with h|h
   ·exact hI j h
   ·obtain rfl:j=k:=by omega
    exact he
 ·have hge:¬(k:Int)<l.length:=of_decide_eq_false hb
  have:M.has l s=false:=has_no fun h=>by
   obtain⟨j,hj,e⟩:=(mem_iff (d:=ByteArray.empty)).1 h
   exact hI j (by omega) e
  rw[this]
  skip
  exact rsEqv_refl _
def dom34r:DomF
 |[.c (.sl q_l n_l st_l F_l),.c (.str s)]=>(match (Nat.beq st_l 1||Nat.beq n_l 0)with
  |true=>some ([eS.Is n_l F_l,(eS.list n_l F_l).length≤1000000],[rB (M.has (eS.list n_l F_l) s)])
  |_=>none)
 |_=>none
def v34r:Nat×Sm:=(34,fokSm dom34r)
theorem C34r:FOK Tryz.prog G0 gw 34 dom34r:=by
 intro ags p r hd hp κ w xs hw hl hG hx
 unfold dom34r at hd
 split at hd
 ·rename_i q_l n_l st_l F_l s
  split at hd
  ·rename_i hst
   have gz_l:=hst
   simp only[Option.some.injEq,Prod.mk.injEq]at hd
   obtain⟨rfl,rfl⟩:=hd
   obtain⟨hI_l,hp⟩:=hp
   have heq:agsEqv [.c (.sl q_l n_l st_l F_l),.c (.str s)] [.c (.sl q_l (eS.list n_l F_l).length 1 (eS.F (eS.list n_l F_l))),.c (.str s)]:=⟨to0 eS rfl gz_l hI_l,rfl,trivial⟩
   generalize eS.list n_l F_l=l at *
   exact fokX_fin mixed gw_stable (sl:=[]) trivial Tryz.func34 hw hl hG hx heq rfl (t34r q_l l s) (w34r l s hp.1)
  ·cases hd
 ·cases hd
theorem S34r:SumOK Tryz.prog G0 gw 34 (fokSm dom34r):=fok_sum Tryz.func34 rfl C34r
theorem t48r(q_l:Bool)(l:List ByteArray)(q_m:Bool)(m:List ByteArray):runFnX Tryz.prog G0 (lookS []) (fun _=>[(4,[.slot 5 (.int .i64)],none)]) [] 0 60 3 48 Tryz.f48 [.c (.sl q_l l.length 1 (eS.F l)),.c (.sl q_m m.length 1 (eS.F m))]=T.br ((l.length:Int) != (m.length:Int)) (T.ret [Ar.c (D.bool false)]) (T.loop (Int×PUnit) ((0:Int),PUnit.unit) fun(x:Int×PUnit)=>T.br (decide (x.1<(l.length:Int))) (T.needs [0≤x.1,x.1<(l.length:Int),0≤x.1,x.1<(m.length:Int)] (T.br (!(l.getD x.1.toNat .empty).toList==(m.getD x.1.toNat .empty).toList) (T.ret (Sum.inr [Ar.c (D.bool false)])) (T.ret (Sum.inl (w64 (x.1+1),PUnit.unit))))) (T.ret (Sum.inr [Ar.c (D.bool true)]))):=by kernel_rfl
theorem w48r(l m:List ByteArray)(hl:l.length≤1000000):(T.br ((l.length:Int) != (m.length:Int)) (T.ret [Ar.c (D.bool false)]) (T.loop (Int×PUnit) ((0:Int),PUnit.unit) fun(x:Int×PUnit)=>T.br (decide (x.1<(l.length:Int))) (T.needs [0≤x.1,x.1<(l.length:Int),0≤x.1,x.1<(m.length:Int)] (T.br (!(l.getD x.1.toNat .empty).toList==(m.getD x.1.toNat .empty).toList) (T.ret (Sum.inr [Ar.c (D.bool false)])) (T.ret (Sum.inl (w64 (x.1+1),PUnit.unit))))) (T.ret (Sum.inr [Ar.c (D.bool true)])))).wp (fun rs=>rsEqv rs [rB (M.eqS l m)]):=by
 have no:l≠m→rsEqv [rB false] [rB (M.eqS l m)]:=fun h=>by
  have:M.eqS l m=false:=decide_eq_false h
  rw[this];exact rsEqv_refl _
 refine⟨fun hne=>no fun e=>?_,fun hne=>?_⟩
 ·subst e;simp at hne
 ·have hlen:l.length=m.length:=by simp at hne;omega
  refine Go.Bl.range_wp (n:=l.length) (fun k _=>∀j,j<k→l.getD j .empty=m.getD j .empty) (fun j hj=>by omega) ?_
  rintro k u hk hI
  refine⟨fun hb=>?_,fun hb=>?_⟩
  ·have hlt:(k:Int)<l.length:=of_decide_eq_true hb
   refine⟨by show(0:Int)≤k;omega,hlt,by show(0:Int)≤k;omega,by show(k:Int)<m.length;omega,fun he=>no fun e=>?_,fun he=>?_⟩
   ·subst e
    simp at he
   ·have he:l.getD k .empty=m.getD k .empty:=by rw[bs_eq]at he;simpa using he
    refine⟨by omega,by show w64 ((k:Int)+1)=_;rw[w64_id (by omega) (by omega)];omega,fun j hj=>?_⟩
    rcases Nat.lt_or_ge j k with h|h
    ·exact hI j h
    ·obtain rfl:j=k:=by omega
     exact he
  ·have hge:¬(k:Int)<l.length:=of_decide_eq_false hb
   have:M.eqS l m=true:=decide_eq_true (ext_getD hlen fun j hj=>hI j (by omega))
   rw[this];exact rsEqv_refl _
def dom48r:DomF
 |[.c (.sl q_l n_l st_l F_l),.c (.sl q_m n_m st_m F_m)]=>(match (Nat.beq st_l 1||Nat.beq n_l 0)&&(Nat.beq st_m 1||Nat.beq n_m 0)with
  |true=>some ([eS.Is n_l F_l,eS.Is n_m F_m,(eS.list n_l F_l).length≤1000000],[rB (M.eqS (eS.list n_l F_l) (eS.list n_m F_m))])
  |_=>none)
 |_=>none
def v48r:Nat×Sm:=(48,fokSm dom48r)
theorem C48r:FOK Tryz.prog G0 gw 48 dom48r:=by
 intro ags p r hd hp κ w xs hw hl hG hx
 unfold dom48r at hd
 split at hd
 ·rename_i q_l n_l st_l F_l q_m n_m st_m F_m
  split at hd
  ·rename_i hst
   rw[Bool.and_eq_true]at hst
   obtain⟨gz_l,gz_m⟩:=hst
   simp only[Option.some.injEq,Prod.mk.injEq]at hd
   obtain⟨rfl,rfl⟩:=hd
   obtain⟨hI_l,hI_m,hp⟩:=hp
   have heq:agsEqv [.c (.sl q_l n_l st_l F_l),.c (.sl q_m n_m st_m F_m)] [.c (.sl q_l (eS.list n_l F_l).length 1 (eS.F (eS.list n_l F_l))),.c (.sl q_m (eS.list n_m F_m).length 1 (eS.F (eS.list n_m F_m)))]:=⟨to0 eS rfl gz_l hI_l,to0 eS rfl gz_m hI_m,trivial⟩
   generalize eS.list n_l F_l=l at *
   generalize eS.list n_m F_m=m at *
   exact fokX_fin mixed gw_stable (sl:=[]) trivial Tryz.func48 hw hl hG hx heq rfl (t48r q_l l q_m m) (w48r l m hp.1)
  ·cases hd
 ·cases hd
theorem S48r:SumOK Tryz.prog G0 gw 48 (fokSm dom48r):=fok_sum Tryz.func48 rfl C48r
theorem t28r(q_l:Bool)(l:List Int)(q_m:Bool)(m:List Int):runFnX Tryz.prog G0 (lookS []) (fun _=>[(4,[.slot 5 (.int .i64)],none)]) [] 0 60 3 28 Tryz.f28 [.c (.sl q_l l.length 1 (eI.F l)),.c (.sl q_m m.length 1 (eI.F m))]=T.br ((l.length:Int) != (m.length:Int)) (T.ret [Ar.c (D.bool false)]) (T.loop (Int×PUnit) ((0:Int),PUnit.unit) fun(x:Int×PUnit)=>T.br (decide (x.1<(l.length:Int))) (T.needs [0≤x.1,x.1<(l.length:Int),0≤x.1,x.1<(m.length:Int)] (T.br (l.getD x.1.toNat 0 != m.getD x.1.toNat 0) (T.ret (Sum.inr [Ar.c (D.bool false)])) (T.ret (Sum.inl (w64 (x.1+1),PUnit.unit))))) (T.ret (Sum.inr [Ar.c (D.bool true)]))):=by kernel_rfl
theorem w28r(l m:List Int)(hl:l.length≤1000000):(T.br ((l.length:Int) != (m.length:Int)) (T.ret [Ar.c (D.bool false)]) (T.loop (Int×PUnit) ((0:Int),PUnit.unit) fun(x:Int×PUnit)=>T.br (decide (x.1<(l.length:Int))) (T.needs [0≤x.1,x.1<(l.length:Int),0≤x.1,x.1<(m.length:Int)] (T.br (l.getD x.1.toNat 0 != m.getD x.1.toNat 0) (T.ret (Sum.inr [Ar.c (D.bool false)])) (T.ret (Sum.inl (w64 (x.1+1),PUnit.unit))))) (T.ret (Sum.inr [Ar.c (D.bool true)])))).wp (fun rs=>rsEqv rs [rB (M.eqI l m)]):=by
 have no:l≠m→rsEqv [rB false] [rB (M.eqI l m)]:=fun h=>by
  have:M.eqI l m=false:=decide_eq_false h
  rw[this];exact rsEqv_refl _
 refine⟨fun hne=>no fun e=>?_,fun hne=>?_⟩
 ·subst e;simp at hne
 ·have hlen:l.length=m.length:=by simp at hne;omega
  refine Go.Bl.range_wp (n:=l.length) (fun k _=>∀j,j<k→l.getD j (0:Int)=m.getD j (0:Int)) (fun j hj=>by omega) ?_
  rintro k u hk hI
  refine⟨fun hb=>?_,fun hb=>?_⟩
  ·have hlt:(k:Int)<l.length:=of_decide_eq_true hb
   refine⟨by show(0:Int)≤k;omega,hlt,by show(0:Int)≤k;omega,by show(k:Int)<m.length;omega,fun he=>no fun e=>?_,fun he=>?_⟩
   ·subst e
    simp at he
   ·have he:l.getD k (0:Int)=m.getD k (0:Int):=by simpa using he
    refine⟨by omega,by show w64 ((k:Int)+1)=_;rw[w64_id (by omega) (by omega)];omega,fun j hj=>?_⟩
    rcases Nat.lt_or_ge j k with h|h
    ·exact hI j h
    ·obtain rfl:j=k:=by omega
     exact he
  ·have hge:¬(k:Int)<l.length:=of_decide_eq_false hb
   have:M.eqI l m=true:=decide_eq_true (ext_getD hlen fun j hj=>hI j (by omega))
   rw[this];exact rsEqv_refl _
def dom28r:DomF
 |[.c (.sl q_l n_l st_l F_l),.c (.sl q_m n_m st_m F_m)]=>(match (Nat.beq st_l 1||Nat.beq n_l 0)&&(Nat.beq st_m 1||Nat.beq n_m 0)with
  |true=>some ([eI.Is n_l F_l,eI.Is n_m F_m,(eI.list n_l F_l).length≤1000000],[rB (M.eqI (eI.list n_l F_l) (eI.list n_m F_m))])
  |_=>none)
 |_=>none
def v28r:Nat×Sm:=(28,fokSm dom28r)
theorem C28r:FOK Tryz.prog G0 gw 28 dom28r:=by
 intro ags p r hd hp κ w xs hw hl hG hx
 unfold dom28r at hd
 split at hd
 ·rename_i q_l n_l st_l F_l q_m n_m st_m F_m
  split at hd
  ·rename_i hst
   rw[Bool.and_eq_true]at hst
   obtain⟨gz_l,gz_m⟩:=hst
   simp only[Option.some.injEq,Prod.mk.injEq]at hd
   obtain⟨rfl,rfl⟩:=hd
   obtain⟨hI_l,hI_m,hp⟩:=hp
   have heq:agsEqv [.c (.sl q_l n_l st_l F_l),.c (.sl q_m n_m st_m F_m)] [.c (.sl q_l (eI.list n_l F_l).length 1 (eI.F (eI.list n_l F_l))),.c (.sl q_m (eI.list n_m F_m).length 1 (eI.F (eI.list n_m F_m)))]:=⟨to0 eI rfl gz_l hI_l,to0 eI rfl gz_m hI_m,trivial⟩
   generalize eI.list n_l F_l=l at *
   generalize eI.list n_m F_m=m at *
   exact fokX_fin mixed gw_stable (sl:=[]) trivial Tryz.func28 hw hl hG hx heq rfl (t28r q_l l q_m m) (w28r l m hp.1)
  ·cases hd
 ·cases hd
theorem S28r:SumOK Tryz.prog G0 gw 28 (fokSm dom28r):=fok_sum Tryz.func28 rfl C28r
end Go.Tx
end
section
set_option maxRecDepth 100000
namespace Go.Tx
open Go.Gd
open Go.V Go.Proofs Go.Lib
open Go.RowKit (Below)
namespace M
def bad(l:List ByteArray):Bool:=l.any fun x=> !Go.Bl.M.isName x
end M
theorem bad_yes{l:List ByteArray}{s:ByteArray}(h:s∈l)(hs:Go.Bl.M.isName s=false):M.bad l=true:=List.any_eq_true.2 ⟨s,h,by rw[hs];rfl⟩
theorem bad_no{l:List ByteArray}(h:∀s,s∈l→Go.Bl.M.isName s=true):M.bad l=false:=by
 cases e:M.bad l with
 |false=>rfl
 |true=>
  obtain⟨x,hx,e⟩:=List.any_eq_true.1 e
  rw[h x hx]at e;cases e
def v49r:Nat×Sm:=(49,fokSm Go.Bl.dom105)
theorem S49r:SumOK Tryz.prog G0 gw 49 (fokSm Go.Bl.dom105):=Go.Bl.S105
theorem copy_is{α:Type}(E:Enc α)(F:Nat→Nat→D)(l:List α){st:Nat}:(D.sl true (0+l.length) st (joinF 0 F (E.F l))).eqv (.sl true l.length st (E.F l)):=by
 refine⟨id,by omega,fun _=>rfl,fun i j hi hj=>?_⟩
 unfold joinF
 rw[show i.blt 0=false from rfl]
 exact D.eqv_refl _
theorem t39r(q_l:Bool)(l:List ByteArray):runFnX Tryz.prog G0 (lookS [Go.Bl.v104]) (fun _=>[(2,[.slot 8 (.int .i64)],none)]) [92,40] 1 40 6 39 Tryz.f39 [.c (.sl q_l l.length 1 (eS.F l)),.c (.op (.func (.func 40) #[] #[]))]=T.loop (Int×PUnit) ((0:Int),PUnit.unit) fun(x:Int×PUnit)=>T.br (decide (x.1<(l.length:Int))) (T.needs [0≤x.1,x.1<(l.length:Int),(l.getD x.1.toNat .empty).size≤1000000] (T.br (!Go.Bl.M.isName (l.getD x.1.toNat .empty)) (T.ret (Sum.inr [Ar.c (D.bool (decide (x.1≥0)))])) (T.ret (Sum.inl (w64 (x.1+1),PUnit.unit))))) (T.ret (Sum.inr [Ar.c (D.bool (decide ((-1:Int)≥0)))])):=by kernel_rfl
theorem w39r(l:List ByteArray)(hl:l.length≤1000000)(hs:∀x,x∈l→x.size≤1000000):(T.loop (Int×PUnit) ((0:Int),PUnit.unit) fun(x:Int×PUnit)=>T.br (decide (x.1<(l.length:Int))) (T.needs [0≤x.1,x.1<(l.length:Int),(l.getD x.1.toNat .empty).size≤1000000] (T.br (!Go.Bl.M.isName (l.getD x.1.toNat .empty)) (T.ret (Sum.inr [Ar.c (D.bool (decide (x.1≥0)))])) (T.ret (Sum.inl (w64 (x.1+1),PUnit.unit))))) (T.ret (Sum.inr [Ar.c (D.bool (decide ((-1:Int)≥0)))]))).wp (fun rs=>rsEqv rs [rB (M.bad l)]):=by
 refine Go.Bl.range_wp (n:=l.length) (fun k _=>∀j,j<k→Go.Bl.M.isName (l.getD j .empty)=true) (fun j hj=>by omega) ?_
 rintro k u hk hI
 refine⟨fun hb=>?_,fun hb=>?_⟩
 ·have hlt:(k:Int)<l.length:=of_decide_eq_true hb
  refine⟨by show(0:Int)≤k;omega,hlt,hs _ (mem_getD (by show k<_;omega)),fun he=>?_,fun he=>?_⟩
  ·have he:Go.Bl.M.isName (l.getD k .empty)=false:=by
    cases e:Go.Bl.M.isName (l.getD k .empty)with
    |false=>rfl
    |true=>
     have he:(!Go.Bl.M.isName (l.getD k .empty))=true:=he
     rw[e]at he;cases he
   rw[bad_yes (mem_getD (by omega)) he]
   have e:decide ((k:Int)≥0)=true:=decide_eq_true (by omega)
   show rsEqv [rB (decide ((k:Int)≥0))] _
   rw[e]
   exact rsEqv_refl _
  ·have he:Go.Bl.M.isName (l.getD k .empty)=true:=by
    cases e:Go.Bl.M.isName (l.getD k .empty)with
    |true=>rfl
    |false=>
     have he:(!Go.Bl.M.isName (l.getD k .empty))=false:=he
     rw[e]at he;cases he
   refine⟨by omega,by show w64 ((k:Int)+1)=_;rw[w64_id (by omega) (by omega)];omega,fun j hj=>?_⟩
   rcases Nat.lt_or_ge j k with h|h
   ·exact hI j h
   ·obtain rfl:j=k:=by omega
    exact he
 ·have hge:¬(k:Int)<l.length:=of_decide_eq_false hb
  rw[bad_no fun s h=>?_]
  ·exact rsEqv_refl _
  ·obtain⟨j,hj,rfl⟩:=(mem_iff (d:=ByteArray.empty)).1 h
   exact hI j (by omega)
def dom39r:DomF
 |[.c (.sl q n st F),.c (.op (.func (.func g) a b))]=>(match (Nat.beq st 1||Nat.beq n 0)&&Nat.beq g 40,a.toList,b.toList with
  |true,[],[]=>some ([eS.Is n F,(eS.list n F).length≤1000000,∀x,x∈eS.list n F→x.size≤1000000],[rB (M.bad (eS.list n F))])
  |_,_,_=>none)
 |_=>none
def v39r:Nat×Sm:=(39,fokSm dom39r)
theorem C39r:FOK Tryz.prog G0 gw 39 dom39r:=by
 intro ags p r hd hp κ w xs hw hl hG hx
 unfold dom39r at hd
 split at hd
 ·rename_i q n st F g a b
  split at hd
  ·rename_i hst ha hb
   rw[Bool.and_eq_true]at hst
   obtain⟨gz,h2⟩:=hst
   have h2:=Nat.eq_of_beq_eq_true h2
   have ea:a= #[]:=by apply Array.ext';simpa using ha
   have eb:b= #[]:=by apply Array.ext';simpa using hb
   subst h2 ea eb
   simp only[Option.some.injEq,Prod.mk.injEq]at hd
   obtain⟨rfl,rfl⟩:=hd
   obtain⟨hI,hp1,hp2,_⟩:=hp
   have heq:agsEqv [.c (.sl q n st F),.c (.op (.func (.func 40) #[] #[]))] [.c (.sl q (eS.list n F).length 1 (eS.F (eS.list n F))),.c (.op (.func (.func 40) #[] #[]))]:=⟨to0 eS rfl gz hI,Ag.eqv_refl _,trivial⟩
   generalize eS.list n F=l at *
   exact fokX_fin mixed gw_stable (sl:=[Go.Bl.v104]) ⟨Go.Bl.S104,trivial⟩ Tryz.func39 hw hl hG hx heq rfl (t39r q l) (w39r l hp1 hp2)
  ·cases hd
 ·cases hd
theorem S39r:SumOK Tryz.prog G0 gw 39 (fokSm dom39r):=fok_sum Tryz.func39 rfl C39r
theorem t31r(q_l:Bool)(l:List ByteArray):runFnX Tryz.prog G0 (lookS []) (fun _=>[]) [] 0 60 3 31 Tryz.f31 [.c (.sl q_l l.length 1 (eS.F l))]=T.needs [(0:Nat)+l.length≤(1000000:Nat),0+l.length≤0+l.length] (T.ret [Ar.c (D.sl true (0+l.length) 1 (joinF 0 (fun(i j:Nat)=>List.getD [] (i*(1:Nat)+j) D.nilp) (eS.F l)))]):=by kernel_rfl
def dom31r:DomF
 |[.c (.sl q_l n_l st_l F_l)]=>(match (Nat.beq st_l 1||Nat.beq n_l 0)with
  |true=>some ([eS.Is n_l F_l,(eS.list n_l F_l).length≤1000000],[.c (.sl true (eS.list n_l F_l).length 1 (eS.F (eS.list n_l F_l)))])
  |_=>none)
 |_=>none
def v31r:Nat×Sm:=(31,fokSm dom31r)
theorem C31r:FOK Tryz.prog G0 gw 31 dom31r:=by
 intro ags p r hd hp κ w xs hw hl hG hx
 unfold dom31r at hd
 split at hd
 ·rename_i q_l n_l st_l F_l
  split at hd
  ·rename_i hst
   have gz_l:=hst
   simp only[Option.some.injEq,Prod.mk.injEq]at hd
   obtain⟨rfl,rfl⟩:=hd
   obtain⟨hI_l,hp⟩:=hp
   have heq:agsEqv [.c (.sl q_l n_l st_l F_l)] [.c (.sl q_l (eS.list n_l F_l).length 1 (eS.F (eS.list n_l F_l)))]:=⟨to0 eS rfl gz_l hI_l,trivial⟩
   generalize eS.list n_l F_l=l at *
   exact fokX_fin mixed gw_stable (sl:=[]) trivial Tryz.func31 hw hl hG hx heq rfl (t31r q_l l) (⟨by have:=hp.1;omega,Nat.le_refl _,copy_is _ _ _,trivial⟩)
  ·cases hd
 ·cases hd
theorem S31r:SumOK Tryz.prog G0 gw 31 (fokSm dom31r):=fok_sum Tryz.func31 rfl C31r
theorem t32r(q_l:Bool)(l:List Int):runFnX Tryz.prog G0 (lookS []) (fun _=>[]) [] 0 60 3 32 Tryz.f32 [.c (.sl q_l l.length 1 (eI.F l))]=T.needs [(0:Nat)+l.length≤(1000000:Nat),0+l.length≤0+l.length] (T.ret [Ar.c (D.sl true (0+l.length) 1 (joinF 0 (fun(i j:Nat)=>List.getD [] (i*(1:Nat)+j) D.nilp) (eI.F l)))]):=by kernel_rfl
def dom32r:DomF
 |[.c (.sl q_l n_l st_l F_l)]=>(match (Nat.beq st_l 1||Nat.beq n_l 0)with
  |true=>some ([eI.Is n_l F_l,(eI.list n_l F_l).length≤1000000],[.c (.sl true (eI.list n_l F_l).length 1 (eI.F (eI.list n_l F_l)))])
  |_=>none)
 |_=>none
def v32r:Nat×Sm:=(32,fokSm dom32r)
theorem C32r:FOK Tryz.prog G0 gw 32 dom32r:=by
 intro ags p r hd hp κ w xs hw hl hG hx
 unfold dom32r at hd
 split at hd
 ·rename_i q_l n_l st_l F_l
  split at hd
  ·rename_i hst
   have gz_l:=hst
   simp only[Option.some.injEq,Prod.mk.injEq]at hd
   obtain⟨rfl,rfl⟩:=hd
   obtain⟨hI_l,hp⟩:=hp
   have heq:agsEqv [.c (.sl q_l n_l st_l F_l)] [.c (.sl q_l (eI.list n_l F_l).length 1 (eI.F (eI.list n_l F_l)))]:=⟨to0 eI rfl gz_l hI_l,trivial⟩
   generalize eI.list n_l F_l=l at *
   exact fokX_fin mixed gw_stable (sl:=[]) trivial Tryz.func32 hw hl hG hx heq rfl (t32r q_l l) (⟨by have:=hp.1;omega,Nat.le_refl _,copy_is _ _ _,trivial⟩)
  ·cases hd
 ·cases hd
theorem S32r:SumOK Tryz.prog G0 gw 32 (fokSm dom32r):=fok_sum Tryz.func32 rfl C32r
theorem t51r(n:Int)(lo:Int)(hi:Int):runFnX Tryz.prog G0 (lookS []) (fun _=>[]) [] 0 60 3 51 Tryz.f51 [.c (dI n),.c (dI lo),.c (dI hi)]=T.br (decide (lo≤n)) (T.ret [Ar.c (D.bool (decide (n≤hi)))]) (T.ret [Ar.c (D.bool false)]):=by kernel_rfl
theorem w51r(n lo hi:Int):(T.br (decide (lo≤n)) (T.ret [Ar.c (D.bool (decide (n≤hi)))]) (T.ret [Ar.c (D.bool false)])).wp (fun rs=>rsEqv rs [rB (Go.Bl.M.within n lo hi)]):=by
 unfold Go.Bl.M.within
 refine⟨fun h=>?_,fun h=>?_⟩
 ·rw[h];exact rsEqv_refl _
 ·rw[h];exact rsEqv_refl _
def dom51r:DomF
 |[.c (.int .i64 n),.c (.int .i64 lo),.c (.int .i64 hi)]=>some ([],[rB (Go.Bl.M.within n lo hi)])
 |_=>none
def v51r:Nat×Sm:=(51,fokSm dom51r)
theorem C51r:FOK Tryz.prog G0 gw 51 dom51r:=by
 intro ags p r hd hp κ w xs hw hl hG hx
 unfold dom51r at hd
 split at hd
 ·rename_i n lo hi
  simp only[Option.some.injEq,Prod.mk.injEq]at hd
  obtain⟨rfl,rfl⟩:=hd
  have heq:agsEqv [.c (.int .i64 n),.c (.int .i64 lo),.c (.int .i64 hi)] [.c (.int .i64 n),.c (.int .i64 lo),.c (.int .i64 hi)]:=⟨rfl,rfl,rfl,trivial⟩
  exact fokX_fin mixed gw_stable (sl:=[]) trivial Tryz.func51 hw hl hG hx heq rfl (t51r n lo hi) (w51r n lo hi)
 ·cases hd
theorem S51r:SumOK Tryz.prog G0 gw 51 (fokSm dom51r):=fok_sum Tryz.func51 rfl C51r
end Go.Tx
end
section
set_option maxRecDepth 100000
namespace Go.Tx
open Go.Gd
open Go.V Go.Proofs Go.Lib
open Go.RowKit (Below)
def eqB:ByteArray:=⟨#[61]⟩
namespace M
def word(c:ByteArray)(v:Int):ByteArray:=catS (catS c eqB) (decimal v)
def pairs(cs:List ByteArray)(vs:List Int):List ByteArray:=List.zipWith word cs vs
def fmt(nm:ByteArray)(cs:List ByteArray)(vs:List Int):ByteArray:=join (nm::pairs cs vs) sp
end M
theorem cat_size(a b:ByteArray):(catS a b).size=a.size+b.size:=by
 rw[←lA_size,lA_cat,List.length_append,lA_size,lA_size]
theorem cat_assoc(a b c:ByteArray):catS (catS a b) c=catS a (catS b c):=lA_inj (by rw[lA_cat,lA_cat,lA_cat,lA_cat,List.append_assoc])
theorem mjoin_one(a s:ByteArray):M.join [a] s=a:=by
 unfold M.join
 rw[List.map_cons,List.map_nil,join_one,bA_lA]
theorem mjoin_snoc{w:List ByteArray}(h:w≠ [])(x s:ByteArray):M.join (w++ [x]) s=catS (catS (M.join w s) s) x:=by
 apply lA_inj
 unfold M.join
 rw[lA_bA,List.map_append,List.map_cons,List.map_nil,join_snoc (by simpa using h),lA_cat,lA_cat,lA_bA]
theorem pairs_len(cs:List ByteArray)(vs:List Int):(M.pairs cs vs).length=min cs.length vs.length:=by unfold M.pairs;exact List.length_zipWith
theorem pairs_get{cs:List ByteArray}{vs:List Int}{k:Nat}(h1:k<cs.length)(h2:k<vs.length):(M.pairs cs vs).getD k .empty=M.word (cs.getD k .empty) (vs.getD k 0):=by
 unfold M.pairs
 rw[List.getD_eq_getElem?_getD,List.getElem?_zipWith,List.getD_eq_getElem?_getD,List.getD_eq_getElem?_getD,List.getElem?_eq_getElem h1,List.getElem?_eq_getElem h2]
 rfl
structure FmtOK(nm:ByteArray)(cs:List ByteArray)(vs:List Int):Prop where
 nm:nm.size≤20
 len:cs.length≤12
 cs:∀c,c∈cs→c.size≤20
 vs:∀v,v∈vs→inI v
theorem word_size{c:ByteArray}{v:Int}(hc:c.size≤20)(hv:inI v):(M.word c v).size≤42:=by
 unfold M.word
 rw[cat_size,cat_size]
 have:=decimal_size hv
 have e:eqB.size=1:=rfl
 omega
theorem fmt_step{nm:ByteArray}{cs:List ByteArray}{vs:List Int}{k:Nat}(h1:k<cs.length)(h2:k<vs.length) :
  M.join (nm::(M.pairs cs vs).take (k+1)) sp=catS (catS (M.join (nm::(M.pairs cs vs).take k) sp) sp) (M.word (cs.getD k .empty) (vs.getD k 0)):=by
 rw[take_push (d:=.empty) (by rw[pairs_len];omega),←List.cons_append,mjoin_snoc (by simp),pairs_get h1 h2]
theorem fmt_size{nm:ByteArray}{cs:List ByteArray}{vs:List Int}(h:FmtOK nm cs vs):∀k,k≤(M.pairs cs vs).length→(M.join (nm::(M.pairs cs vs).take k) sp).size≤20+50*k
 |0,_=>by rw[List.take_zero,mjoin_one];have:=h.nm;omega
 |k+1,hk=>by
  have ih:=fmt_size h k (by omega)
  rw[pairs_len]at hk
  have h1:k<cs.length:=by omega
  have h2:k<vs.length:=by omega
  rw[fmt_step h1 h2,cat_size,cat_size]
  have:=word_size (h.cs _ (mem_getD (d:=ByteArray.empty) h1)) (h.vs _ (mem_getD (d:=(0:Int)) h2))
  have e:sp.size=1:=rfl
  omega
theorem one_is(s:ByteArray):eS.Is 1 (oneS s)∧eS.list 1 (oneS s)=[s]:=
 ⟨fun i j hi hj=>by
  have hj:j<1:=hj
  obtain rfl:j=0:=by omega
  obtain rfl:i=0:=by omega
  exact D.eqv_refl _,rfl⟩
def tr10r(nm:ByteArray)(cs:List ByteArray)(vs:List Int):T (List Ar):=T.loop (Int×ByteArray×PUnit) ((0:Int),nm,PUnit.unit) fun x=>T.br (decide (x.1<(cs.length:Int))) (T.br (decide (x.1<(vs.length:Int))) (T.needs [x.2.1.size+1≤9223372036854775807,0≤x.1,x.1<(cs.length:Int),(catS x.2.1 sp).size+(cs.getD x.1.toNat .empty).size≤9223372036854775807,(catS (catS x.2.1 sp) (cs.getD x.1.toNat .empty)).size+1≤9223372036854775807,0≤x.1,x.1<(vs.length:Int),inI (vs.getD x.1.toNat 0),(catS (catS (catS x.2.1 sp) (cs.getD x.1.toNat .empty)) eqB).size+(M.decimal (vs.getD x.1.toNat 0)).size≤9223372036854775807] (T.ret (.inl (w64 (x.1+1),catS (catS (catS (catS x.2.1 sp) (cs.getD x.1.toNat .empty)) eqB) (M.decimal (vs.getD x.1.toNat 0)),PUnit.unit)))) (T.ret (.inr [rS x.2.1]))) (T.ret (.inr [rS x.2.1]))
theorem t10r(nm:ByteArray)(q_cs:Bool)(cs:List ByteArray)(q_vs:Bool)(vs:List Int):runFnX Tryz.prog G0 (lookS [v52]) (fun _=>[(3,[.slot 4 (.int .i64),.slot 3 .str],none)]) [] 0 60 3 10 Tryz.f10 [.agg [.str nm,.sl q_cs cs.length 1 (eS.F cs),.sl q_vs vs.length 1 (eI.F vs)]]=tr10r nm cs vs:=by kernel_rfl
theorem w10r(nm:ByteArray)(cs:List ByteArray)(vs:List Int)(h:FmtOK nm cs vs):(tr10r nm cs vs).wp (fun rs=>rsEqv rs [rS (M.fmt nm cs vs)]):=by
 have hL:=pairs_len cs vs
 have hl:=h.len
 refine Go.Bl.range_wp (n:=(M.pairs cs vs).length) (fun k s=>s.1=M.join (nm::(M.pairs cs vs).take k) sp) (by show nm=_;rw[List.take_zero,mjoin_one]) ?_
 rintro k ⟨s,u⟩ hk hI
 have hI:s=_:=hI
 have hsz:s.size≤20+50*k:=by rw[hI];exact fmt_size h k hk
 have done:¬k<(M.pairs cs vs).length→rsEqv [rS s] [rS (M.fmt nm cs vs)]:=fun hn=>by
  have:k=(M.pairs cs vs).length:=by omega
  rw[hI,this,List.take_length]
  exact rsEqv_refl _
 have sp1:sp.size=1:=rfl
 have eq1:eqB.size=1:=rfl
 refine⟨fun hb=>⟨fun hc=>?_,fun hc=>done ?_⟩,fun hb=>done ?_⟩
 ·have h1:(k:Int)<cs.length:=of_decide_eq_true hb
  have h2:(k:Int)<vs.length:=of_decide_eq_true hc
  have hv:=h.vs _ (mem_getD (d:=(0:Int)) (k:=k) (by omega:k<vs.length))
  have hcs:=h.cs _ (mem_getD (d:=ByteArray.empty) (k:=k) (by omega:k<cs.length))
  have hd:=decimal_size hv
  have q1:(catS s sp).size=s.size+1:=by rw[cat_size,sp1]
  have q2:(catS (catS s sp) (cs.getD k .empty)).size=s.size+1+(cs.getD k .empty).size:=by rw[cat_size,q1]
  have q3:(catS (catS (catS s sp) (cs.getD k .empty)) eqB).size=s.size+1+(cs.getD k .empty).size+1:=by rw[cat_size,q2,eq1]
  refine⟨by show s.size+1≤_;omega,by show(0:Int)≤k;omega,h1,by show(catS s sp).size+(cs.getD k .empty).size≤_;omega,by show(catS (catS s sp) (cs.getD k .empty)).size+1≤_;omega,by show(0:Int)≤k;omega,h2,hv,by show(catS (catS (catS s sp) (cs.getD k .empty)) eqB).size+(M.decimal (vs.getD k 0)).size≤_;omega,by omega,by show w64 ((k:Int)+1)=_;rw[w64_id (by omega) (by omega)];omega,?_⟩
  show catS (catS (catS (catS s sp) (cs.getD k .empty)) eqB) (M.decimal (vs.getD k 0))=_
  rw[fmt_step (by omega) (by omega),hI]
  unfold M.word
  rw[cat_assoc,cat_assoc,cat_assoc (cs.getD k .empty)]
 ·have h2:¬(k:Int)<vs.length:=of_decide_eq_false hc
  omega
 ·have h2:¬(k:Int)<cs.length:=of_decide_eq_false hb
  omega
def dom10r:DomF
 |[.agg [.str nm,.sl q_cs n_cs st_cs F_cs,.sl q_vs n_vs st_vs F_vs]]=>(match (Nat.beq st_cs 1||Nat.beq n_cs 0)&&(Nat.beq st_vs 1||Nat.beq n_vs 0)with
  |true=>some ([eS.Is n_cs F_cs,eI.Is n_vs F_vs,FmtOK nm (eS.list n_cs F_cs) (eI.list n_vs F_vs)],[rS (M.fmt nm (eS.list n_cs F_cs) (eI.list n_vs F_vs))])
  |_=>none)
 |_=>none
def v10r:Nat×Sm:=(10,fokSm dom10r)
theorem C10r:FOK Tryz.prog G0 gw 10 dom10r:=by
 intro ags p r hd hp κ w xs hw hl hG hx
 unfold dom10r at hd
 split at hd
 ·rename_i nm q_cs n_cs st_cs F_cs q_vs n_vs st_vs F_vs
  split at hd
  ·rename_i hst
   rw[Bool.and_eq_true]at hst
   obtain⟨gz_cs,gz_vs⟩:=hst
   simp only[Option.some.injEq,Prod.mk.injEq]at hd
   obtain⟨rfl,rfl⟩:=hd
   obtain⟨hI_cs,hI_vs,hp⟩:=hp
   have heq:agsEqv [.agg [.str nm,.sl q_cs n_cs st_cs F_cs,.sl q_vs n_vs st_vs F_vs]] [.agg [.str nm,.sl q_cs (eS.list n_cs F_cs).length 1 (eS.F (eS.list n_cs F_cs)),.sl q_vs (eI.list n_vs F_vs).length 1 (eI.F (eI.list n_vs F_vs))]]:=⟨⟨rfl,to0 eS rfl gz_cs hI_cs,to0 eI rfl gz_vs hI_vs,trivial⟩,trivial⟩
   generalize eS.list n_cs F_cs=cs at *
   generalize eI.list n_vs F_vs=vs at *
   exact fokX_fin mixed gw_stable (sl:=[v52]) ⟨S52,trivial⟩ Tryz.func10 hw hl hG hx heq rfl (t10r nm q_cs cs q_vs vs) (w10r nm cs vs hp.1)
  ·cases hd
 ·cases hd
theorem S10r:SumOK Tryz.prog G0 gw 10 (fokSm dom10r):=fok_sum Tryz.func10 rfl C10r
def tr6r(nm:ByteArray)(cs:List ByteArray)(vs:List Int):T (List Ar):=T.need (eS.Is 1 (oneS nm)) (T.loop (Int×List ByteArray×PUnit) ((0:Int),eS.list 1 (oneS nm),PUnit.unit) fun x=>T.br (decide (x.1<if(vs.length:Int)<(cs.length:Int)then(vs.length:Int)else(cs.length:Int))) (T.needs [0≤x.1,x.1<(cs.length:Int),(cs.getD x.1.toNat .empty).size+1≤9223372036854775807,0≤x.1,x.1<(vs.length:Int),inI (vs.getD x.1.toNat 0),(catS (cs.getD x.1.toNat .empty) eqB).size+(M.decimal (vs.getD x.1.toNat 0)).size≤9223372036854775807,x.2.1.length+1≤1000000,x.2.1.length≤x.2.1.length,eS.Is (x.2.1.length+1) (joinF x.2.1.length (eS.F x.2.1) (oneS (catS (catS (cs.getD x.1.toNat .empty) eqB) (M.decimal (vs.getD x.1.toNat 0))))),x.2.1.length+1≤x.2.1.length+1] (T.ret (.inl (w64 (x.1+1),eS.list (x.2.1.length+1) (joinF x.2.1.length (eS.F x.2.1) (oneS (catS (catS (cs.getD x.1.toNat .empty) eqB) (M.decimal (vs.getD x.1.toNat 0))))),PUnit.unit))))
  (T.needs [x.2.1.length≤x.2.1.length,eS.Is x.2.1.length (eS.F x.2.1),1≤x.2.1.length,x.2.1.length≤900000,(M.join (eS.list x.2.1.length (eS.F x.2.1)) sp).size≤1000000000] (T.ret (.inr [rS (M.join (eS.list x.2.1.length (eS.F x.2.1)) sp)]))))
theorem t6r(nm:ByteArray)(q_cs:Bool)(cs:List ByteArray)(q_vs:Bool)(vs:List Int):runFnX Tryz.prog G0 (lookS [v45,v46]) (fun _=>[(3,[.slot 15 (.int .i64),.slot 3 (.rowE 9 eS)],none)]) [] 0 60 3 6 Tryz.f6 [.agg [.str nm,.sl q_cs cs.length 1 (eS.F cs),.sl q_vs vs.length 1 (eI.F vs)]]=tr6r nm cs vs:=by kernel_rfl
theorem w6r(nm:ByteArray)(cs:List ByteArray)(vs:List Int)(h:FmtOK nm cs vs):(tr6r nm cs vs).wp (fun rs=>rsEqv rs [rS (M.fmt nm cs vs)]):=by
 have hL:=pairs_len cs vs
 have hl:=h.len
 refine⟨(one_is nm).1,?_⟩
 rw[(one_is nm).2]
 refine Go.Bl.range_wp (n:=(M.pairs cs vs).length) (fun k s=>s.1=nm::(M.pairs cs vs).take k) (by show[nm]=_;rw[List.take_zero]) ?_
 rintro k ⟨s,u⟩ hk hI
 have hI:s=_:=hI
 have hsl:s.length=k+1:=by rw[hI,List.length_cons,List.length_take];omega
 have eq1:eqB.size=1:=rfl
 refine⟨fun hb=>?_,fun hb=>?_⟩
 ·have hb:(k:Int)<if(vs.length:Int)<(cs.length:Int)then(vs.length:Int)else(cs.length:Int):=of_decide_eq_true hb
  have h1:k<cs.length:=by split at hb <;>omega
  have h2:k<vs.length:=by split at hb <;>omega
  have hv:=h.vs _ (mem_getD (d:=(0:Int)) h2)
  have hcs:=h.cs _ (mem_getD (d:=ByteArray.empty) h1)
  have hd:=decimal_size hv
  have q1:(catS (cs.getD k .empty) eqB).size=(cs.getD k .empty).size+1:=by rw[cat_size,eq1]
  refine⟨by show(0:Int)≤k;omega,by show(k:Int)<cs.length;omega,by show(cs.getD k .empty).size+1≤_;omega,by show(0:Int)≤k;omega,by show(k:Int)<vs.length;omega,hv,by show(catS (cs.getD k .empty) eqB).size+(M.decimal (vs.getD k 0)).size≤_;omega,by show s.length+1≤_;omega,Nat.le_refl _,(pushS s _).1,Nat.le_refl _,by omega,by show w64 ((k:Int)+1)=_;rw[w64_id (by omega) (by omega)];omega,?_⟩
  show eS.list _ _=_
  rw[(pushS s _).2,hI,take_push (d:=.empty) (by omega),pairs_get h1 h2,List.cons_append]
  rfl
 ·have hb:¬(k:Int)<if(vs.length:Int)<(cs.length:Int)then(vs.length:Int)else(cs.length:Int):=of_decide_eq_false hb
  have hk':k=(M.pairs cs vs).length:=by split at hb <;>omega
  have hz:=fmt_size h k hk
  rw[←hI]at hz
  refine⟨Nat.le_refl _,Enc.is_F _ _ _,by show 1≤s.length;omega,by show s.length≤_;omega,?_,?_⟩
  ·show(M.join (eS.list s.length (eS.F s)) sp).size≤_
   rw[Enc.list_F];omega
  ·show rsEqv [rS (M.join (eS.list s.length (eS.F s)) sp)] _
   rw[Enc.list_F,hI,hk',List.take_length]
   exact rsEqv_refl _
def dom6r:DomF
 |[.agg [.str nm,.sl q_cs n_cs st_cs F_cs,.sl q_vs n_vs st_vs F_vs]]=>(match (Nat.beq st_cs 1||Nat.beq n_cs 0)&&(Nat.beq st_vs 1||Nat.beq n_vs 0)with
  |true=>some ([eS.Is n_cs F_cs,eI.Is n_vs F_vs,FmtOK nm (eS.list n_cs F_cs) (eI.list n_vs F_vs)],[rS (M.fmt nm (eS.list n_cs F_cs) (eI.list n_vs F_vs))])
  |_=>none)
 |_=>none
def v6r:Nat×Sm:=(6,fokSm dom6r)
theorem C6r:FOK Tryz.prog G0 gw 6 dom6r:=by
 intro ags p r hd hp κ w xs hw hl hG hx
 unfold dom6r at hd
 split at hd
 ·rename_i nm q_cs n_cs st_cs F_cs q_vs n_vs st_vs F_vs
  split at hd
  ·rename_i hst
   rw[Bool.and_eq_true]at hst
   obtain⟨gz_cs,gz_vs⟩:=hst
   simp only[Option.some.injEq,Prod.mk.injEq]at hd
   obtain⟨rfl,rfl⟩:=hd
   obtain⟨hI_cs,hI_vs,hp⟩:=hp
   have heq:agsEqv [.agg [.str nm,.sl q_cs n_cs st_cs F_cs,.sl q_vs n_vs st_vs F_vs]] [.agg [.str nm,.sl q_cs (eS.list n_cs F_cs).length 1 (eS.F (eS.list n_cs F_cs)),.sl q_vs (eI.list n_vs F_vs).length 1 (eI.F (eI.list n_vs F_vs))]]:=⟨⟨rfl,to0 eS rfl gz_cs hI_cs,to0 eI rfl gz_vs hI_vs,trivial⟩,trivial⟩
   generalize eS.list n_cs F_cs=cs at *
   generalize eI.list n_vs F_vs=vs at *
   exact fokX_fin mixed gw_stable (sl:=[v45,v46]) ⟨S45,S46,trivial⟩ Tryz.func6 hw hl hG hx heq rfl (t6r nm q_cs cs q_vs vs) (w6r nm cs vs hp.1)
  ·cases hd
 ·cases hd
theorem S6r:SumOK Tryz.prog G0 gw 6 (fokSm dom6r):=fok_sum Tryz.func6 rfl C6r
end Go.Tx
end
section
set_option maxRecDepth 100000
namespace Go.Tx
open Go.Gd
open Go.V Go.Proofs Go.Lib
open Go.RowKit (Below)
def dom37r:DomF
 |[.c (.str s),.c (.str p)]=>(match lA p with
  |[c]=>some ([],[rI (((lA s).count c:Nat):Int)])
  |_=>none)
 |_=>none
def v37r:Nat×Sm:=(37,fokSm dom37r)
theorem C37r:FOK Tryz.prog G0 gw 37 dom37r:=by
 refine fok_of fun ags p r hd hp κ w xs hw hl hx=>?_
 unfold dom37r at hd
 split at hd
 ·rename_i s t
  split at hd
  ·rename_i c hc
   simp only[Option.some.injEq,Prod.mk.injEq]at hd
   obtain⟨rfl,rfl⟩:=hd
   cases hx with
   |cons h1 h2=>
    cases h2 with
    |cons h2 h3=>
     cases h3
     have h1:_=Value.string s:=h1
     have h2:_=Value.string t:=h2
     subst h1 h2
     have ht:t=⟨#[c]⟩:=by rw[←bA_lA t,hc];rfl
     subst ht
     refine(Tryz.strings_Count_one s c w).mono ?_
     rintro e w' ⟨rfl,rfl⟩
     exact⟨_,rfl,Below.refl _ _,rfl⟩
  ·cases hd
 ·cases hd
theorem S37r:SumOK Tryz.prog G0 gw 37 (fokSm dom37r):=fok_sum Tryz.func37 rfl C37r
def tr7r(nm:ByteArray)(cs:List ByteArray)(vs:List Int):T (List Ar):=T.needs [eS.Is cs.length (eS.F cs),(eS.list cs.length (eS.F cs)).length≤1000000,eI.Is vs.length (eI.F vs),(eI.list vs.length (eI.F vs)).length≤1000000] (T.ret [Ar.agg [D.str nm,D.sl true (eS.list cs.length (eS.F cs)).length 1 (eS.F (eS.list cs.length (eS.F cs))),D.sl true (eI.list vs.length (eI.F vs)).length 1 (eI.F (eI.list vs.length (eI.F vs)))]])
theorem t7r(nm:ByteArray)(q_cs:Bool)(cs:List ByteArray)(q_vs:Bool)(vs:List Int):runFnX Tryz.prog G0 (lookS [v31r,v32r]) (fun _=>[]) [] 0 60 3 7 Tryz.f7 [.agg [.str nm,.sl q_cs cs.length 1 (eS.F cs),.sl q_vs vs.length 1 (eI.F vs)]]=tr7r nm cs vs:=by kernel_rfl
theorem w7r(nm:ByteArray)(cs:List ByteArray)(vs:List Int)(h1:cs.length≤1000000)(h2:vs.length≤1000000):(tr7r nm cs vs).wp (fun rs=>rsEqv rs [.agg [.str nm,.sl true cs.length 1 (eS.F cs),.sl true vs.length 1 (eI.F vs)]]):=by
 unfold tr7r
 rw[Enc.list_F,Enc.list_F]
 exact⟨Enc.is_F _ _ _,h1,Enc.is_F _ _ _,h2,rsEqv_refl _⟩
def dom7r:DomF
 |[.agg [.str nm,.sl q_cs n_cs st_cs F_cs,.sl q_vs n_vs st_vs F_vs]]=>(match (Nat.beq st_cs 1||Nat.beq n_cs 0)&&(Nat.beq st_vs 1||Nat.beq n_vs 0)with
  |true=>some ([eS.Is n_cs F_cs,eI.Is n_vs F_vs,(eS.list n_cs F_cs).length≤1000000,(eI.list n_vs F_vs).length≤1000000],[.agg [.str nm,.sl true (eS.list n_cs F_cs).length 1 (eS.F (eS.list n_cs F_cs)),.sl true (eI.list n_vs F_vs).length 1 (eI.F (eI.list n_vs F_vs))]])
  |_=>none)
 |_=>none
def v7r:Nat×Sm:=(7,fokSm dom7r)
theorem C7r:FOK Tryz.prog G0 gw 7 dom7r:=by
 intro ags p r hd hp κ w xs hw hl hG hx
 unfold dom7r at hd
 split at hd
 ·rename_i nm q_cs n_cs st_cs F_cs q_vs n_vs st_vs F_vs
  split at hd
  ·rename_i hst
   rw[Bool.and_eq_true]at hst
   obtain⟨gz_cs,gz_vs⟩:=hst
   simp only[Option.some.injEq,Prod.mk.injEq]at hd
   obtain⟨rfl,rfl⟩:=hd
   obtain⟨hI_cs,hI_vs,hp⟩:=hp
   have heq:agsEqv [.agg [.str nm,.sl q_cs n_cs st_cs F_cs,.sl q_vs n_vs st_vs F_vs]] [.agg [.str nm,.sl q_cs (eS.list n_cs F_cs).length 1 (eS.F (eS.list n_cs F_cs)),.sl q_vs (eI.list n_vs F_vs).length 1 (eI.F (eI.list n_vs F_vs))]]:=⟨⟨rfl,to0 eS rfl gz_cs hI_cs,to0 eI rfl gz_vs hI_vs,trivial⟩,trivial⟩
   generalize eS.list n_cs F_cs=cs at *
   generalize eI.list n_vs F_vs=vs at *
   exact fokX_fin mixed gw_stable (sl:=[v31r,v32r]) ⟨S31r,S32r,trivial⟩ Tryz.func7 hw hl hG hx heq rfl (t7r nm q_cs cs q_vs vs) (w7r nm cs vs hp.1 hp.2.1)
  ·cases hd
 ·cases hd
theorem S7r:SumOK Tryz.prog G0 gw 7 (fokSm dom7r):=fok_sum Tryz.func7 rfl C7r
namespace M
def scan(cs:List ByteArray)(vs:List Int):Nat→Nat→Int
 |0,_=>0
 |n+1,i=>cond (has (cs.take i) (cs.getD i .empty)) 5 (cond (Go.Bl.M.within (vs.getD i 0) 0 10000) (scan cs vs n (i+1)) 2)
def recErr(nm:ByteArray)(cs:List ByteArray)(vs:List Int):Int:=cond (Go.Bl.M.isName nm) (cond (bad cs) 4 (cond (decide ((cs.length:Int)>10)) 8 (scan cs vs cs.length 0))) 4
end M
theorem take_is(l:List ByteArray){k:Nat}:eS.Is k (fun i j=>eS.F l (0+i) j):=by
 have:(fun i j=>eS.F l (0+i) j)=eS.F l:=by funext i j;rw[Nat.zero_add]
 rw[this];exact Enc.is_F _ _ _
theorem take_list(l:List ByteArray){k:Nat}(hk:k≤l.length):eS.list k (fun i j=>eS.F l (0+i) j)=l.take k:=by
 have:(fun i j=>eS.F l (0+i) j)=eS.F l:=by funext i j;rw[Nat.zero_add]
 rw[this]
 apply List.ext_getElem
 ·rw[Enc.list_len,List.length_take];omega
 ·intro i h1 h2
  rw[Enc.list_len]at h1
  have hi:i<l.length:=by omega
  simp[Enc.list,Enc.F,eS.law,hi]
def tr12i(cs:List ByteArray)(vs:List Int):T ((Int×PUnit.{1}) ⊕ List Ar):=T.loop (Int×PUnit) ((0:Int),PUnit.unit) fun(x:Int×PUnit)=>T.br (decide (x.1<(cs.length:Int))) (T.needs [(0:Int)≤0,0≤x.1,x.1≤(cs.length:Int),0≤x.1,x.1<(cs.length:Int),eS.Is (x.1-0).toNat (fun(i j:Nat)=>eS.F cs (0+i) j),(eS.list (x.1-0).toNat (fun(i j:Nat)=>eS.F cs (0+i) j)).length≤1000000] (T.br (M.has (eS.list (x.1-0).toNat (fun(i j:Nat)=>eS.F cs (0+i) j)) (cs.getD x.1.toNat .empty)) (T.ret (Sum.inr (Sum.inr [rI 5]))) (T.needs [0≤x.1,x.1<(vs.length:Int)] (T.br (!Go.Bl.M.within (vs.getD x.1.toNat 0) 0 10000) (T.ret (Sum.inr (Sum.inr [rI 2]))) (T.ret (Sum.inl (w64 (x.1+1),PUnit.unit))))))) (T.ret (Sum.inr (Sum.inr [rI 0])))
def tr12r(nm:ByteArray)(cs:List ByteArray)(vs:List Int):T (List Ar):=T.need (nm.size≤1000000) (T.br (!Go.Bl.M.isName nm) (T.ret [rI 4]) (T.loop (Int×PUnit) ((0:Int),PUnit.unit) fun(x:Int×PUnit)=>T.br (decide (x.1<(cs.length:Int))) (T.needs [0≤x.1,x.1<(cs.length:Int),(cs.getD x.1.toNat .empty).size≤1000000] (T.br (!Go.Bl.M.isName (cs.getD x.1.toNat .empty)) (T.ret (Sum.inr [rI 4])) (T.ret (Sum.inl (w64 (x.1+1),PUnit.unit))))) (T.br (decide ((cs.length:Int)>10)) (T.ret (Sum.inr [rI 8])) (tr12i cs vs))))
theorem t12r(nm:ByteArray)(q_cs:Bool)(cs:List ByteArray)(q_vs:Bool)(vs:List Int):runFnX Tryz.prog G0 (lookS [v49r,v50r,v51r]) (fun _=>[(4,[.slot 3 (.int .i64)],none),(11,[.slot 4 (.int .i64)],none)]) [] 0 60 3 12 Tryz.f12 [.agg [.str nm,.sl q_cs cs.length 1 (eS.F cs),.sl q_vs vs.length 1 (eI.F vs)]]=tr12r nm cs vs:=by kernel_rfl
theorem scan_from{cs:List ByteArray}{vs:List Int}{n:Nat}:∀{k:Nat},k<n→M.scan cs vs (n-k) k=cond (M.has (cs.take k) (cs.getD k .empty)) 5 (cond (Go.Bl.M.within (vs.getD k 0) 0 10000) (M.scan cs vs (n-(k+1)) (k+1)) 2):=by
 intro k hk
 rw[show n-k=(n-(k+1))+1 by omega]
 rfl
theorem w12i(cs:List ByteArray)(vs:List Int)(hl:cs.length≤1000000)(hv:cs.length≤vs.length){Q:(Int×PUnit.{1}) ⊕ List Ar→Prop}(hQ:Q (.inr [rI (M.scan cs vs cs.length 0)])):(tr12i cs vs).wp Q:=by
 refine Go.Bl.range_wp (n:=cs.length) (fun k _=>M.scan cs vs (cs.length-k) k=M.scan cs vs cs.length 0) rfl ?_
 rintro k u hk hI
 refine⟨fun hb=>?_,fun hb=>?_⟩
 ·have hlt:(k:Int)<cs.length:=of_decide_eq_true hb
  have hk1:k<cs.length:=by omega
  have hs:=scan_from (cs:=cs) (vs:=vs) hk1
  have e:((k:Int)-0).toNat=k:=by omega
  refine⟨Int.le_refl _,by show(0:Int)≤k;omega,by show(k:Int)≤_;omega,by show(0:Int)≤k;omega,hlt,take_is _,by show(eS.list _ _).length≤_;rw[Enc.list_len];show((k:Int)-0).toNat≤_;omega,?_⟩
  show T.wp (T.br (M.has (eS.list ((k:Int)-0).toNat _) (cs.getD k .empty)) _ _) _
  rw[e,take_list _ hk]
  refine⟨fun hh=>?_,fun hh=>⟨by show(0:Int)≤k;omega,by show(k:Int)<vs.length;omega,fun hw=>?_,fun hw=>?_⟩⟩
  ·rw[hh]at hs
   rw[←hI,hs]at hQ
   exact hQ
  ·have hw:Go.Bl.M.within (vs.getD k 0) 0 10000=false:=by
    have hw:(!Go.Bl.M.within (vs.getD k 0) 0 10000)=true:=hw
    cases e:Go.Bl.M.within (vs.getD k 0) 0 10000 with
    |false=>rfl
    |true=>rw[e]at hw;cases hw
   rw[hh,hw]at hs
   rw[←hI,hs]at hQ
   exact hQ
  ·have hw:Go.Bl.M.within (vs.getD k 0) 0 10000=true:=by
    have hw:(!Go.Bl.M.within (vs.getD k 0) 0 10000)=false:=hw
    cases e:Go.Bl.M.within (vs.getD k 0) 0 10000 with
    |true=>rfl
    |false=>rw[e]at hw;cases hw
   rw[hh,hw]at hs
   refine⟨hk1,by show w64 ((k:Int)+1)=_;rw[w64_id (by omega) (by omega)];omega,?_⟩
   rw[←hI,hs];rfl
 ·have hge:¬(k:Int)<cs.length:=of_decide_eq_false hb
  have:cs.length-k=0:=by omega
  rw[this]at hI
  rw[←hI]at hQ
  exact hQ
theorem w12r(nm:ByteArray)(cs:List ByteArray)(vs:List Int)(hl:cs.length≤1000000)(hv:cs.length≤vs.length)(h1:nm.size≤1000000)(h2:∀x,x∈cs→x.size≤1000000):(tr12r nm cs vs).wp (fun rs=>rsEqv rs [rI (M.recErr nm cs vs)]):=by
 have four:(Go.Bl.M.isName nm=true→M.bad cs=true)→rsEqv [rI 4] [rI (M.recErr nm cs vs)]:=fun h=>by
  have:M.recErr nm cs vs=4:=by
   unfold M.recErr
   cases e:Go.Bl.M.isName nm with
   |false=>rfl
   |true=>rw[h e];rfl
  rw[this];exact rsEqv_refl _
 refine⟨h1,fun hb=>four fun h=>?_,fun hb=>?_⟩
 ·have hb:(!Go.Bl.M.isName nm)=true:=hb
  rw[h]at hb;cases hb
 ·have hn:Go.Bl.M.isName nm=true:=by
   have hb:(!Go.Bl.M.isName nm)=false:=hb
   cases e:Go.Bl.M.isName nm with
   |true=>rfl
   |false=>rw[e]at hb;cases hb
  refine Go.Bl.range_wp (n:=cs.length) (fun k _=>∀j,j<k→Go.Bl.M.isName (cs.getD j .empty)=true) (fun j hj=>by omega) ?_
  rintro k u hk hI
  refine⟨fun hb=>?_,fun hb=>?_⟩
  ·have hlt:(k:Int)<cs.length:=of_decide_eq_true hb
   have hk1:k<cs.length:=by omega
   refine⟨by show(0:Int)≤k;omega,hlt,h2 _ (mem_getD hk1),fun he=>four fun _=>?_,fun he=>?_⟩
   ·refine bad_yes (mem_getD (d:=.empty) hk1) ?_
    have he:(!Go.Bl.M.isName (cs.getD k .empty))=true:=he
    cases e:Go.Bl.M.isName (cs.getD k .empty)with
    |false=>rfl
    |true=>rw[e]at he;cases he
   ·have he:Go.Bl.M.isName (cs.getD k .empty)=true:=by
     have he:(!Go.Bl.M.isName (cs.getD k .empty))=false:=he
     cases e:Go.Bl.M.isName (cs.getD k .empty)with
     |true=>rfl
     |false=>rw[e]at he;cases he
    refine⟨hk1,by show w64 ((k:Int)+1)=_;rw[w64_id (by omega) (by omega)];omega,fun j hj=>?_⟩
    rcases Nat.lt_or_ge j k with h|h
    ·exact hI j h
    ·obtain rfl:j=k:=by omega
     exact he
  ·have hge:¬(k:Int)<cs.length:=of_decide_eq_false hb
   have hbad:M.bad cs=false:=bad_no fun s h=>by
    obtain⟨j,hj,rfl⟩:=(mem_iff (d:=ByteArray.empty)).1 h
    exact hI j (by omega)
   refine⟨fun h10=>?_,fun h10=>w12i cs vs hl hv ?_⟩
   ·have:M.recErr nm cs vs=8:=by unfold M.recErr;rw[hn,hbad,h10];rfl
    rw[this];exact rsEqv_refl _
   ·have:M.recErr nm cs vs=M.scan cs vs cs.length 0:=by unfold M.recErr;rw[hn,hbad,h10];rfl
    rw[this];exact rsEqv_refl _
def dom12r:DomF
 |[.agg [.str nm,.sl q_cs n_cs st_cs F_cs,.sl q_vs n_vs st_vs F_vs]]=>(match (Nat.beq st_cs 1||Nat.beq n_cs 0)&&(Nat.beq st_vs 1||Nat.beq n_vs 0)with
  |true=>some ([eS.Is n_cs F_cs,eI.Is n_vs F_vs,(eS.list n_cs F_cs).length≤1000000,(eS.list n_cs F_cs).length≤(eI.list n_vs F_vs).length,nm.size≤1000000,∀x,x∈(eS.list n_cs F_cs)→x.size≤1000000],[rI (M.recErr nm (eS.list n_cs F_cs) (eI.list n_vs F_vs))])
  |_=>none)
 |_=>none
def v12r:Nat×Sm:=(12,fokSm dom12r)
theorem C12r:FOK Tryz.prog G0 gw 12 dom12r:=by
 intro ags p r hd hp κ w xs hw hl hG hx
 unfold dom12r at hd
 split at hd
 ·rename_i nm q_cs n_cs st_cs F_cs q_vs n_vs st_vs F_vs
  split at hd
  ·rename_i hst
   rw[Bool.and_eq_true]at hst
   obtain⟨gz_cs,gz_vs⟩:=hst
   simp only[Option.some.injEq,Prod.mk.injEq]at hd
   obtain⟨rfl,rfl⟩:=hd
   obtain⟨hI_cs,hI_vs,hp⟩:=hp
   have heq:agsEqv [.agg [.str nm,.sl q_cs n_cs st_cs F_cs,.sl q_vs n_vs st_vs F_vs]] [.agg [.str nm,.sl q_cs (eS.list n_cs F_cs).length 1 (eS.F (eS.list n_cs F_cs)),.sl q_vs (eI.list n_vs F_vs).length 1 (eI.F (eI.list n_vs F_vs))]]:=⟨⟨rfl,to0 eS rfl gz_cs hI_cs,to0 eI rfl gz_vs hI_vs,trivial⟩,trivial⟩
   generalize eS.list n_cs F_cs=cs at *
   generalize eI.list n_vs F_vs=vs at *
   exact fokX_fin mixed gw_stable (sl:=[v49r,v50r,v51r]) ⟨S49r,S50r,S51r,trivial⟩ Tryz.func12 hw hl hG hx heq rfl (t12r nm q_cs cs q_vs vs) (w12r nm cs vs hp.1 hp.2.1 hp.2.2.1 hp.2.2.2.1)
  ·cases hd
 ·cases hd
theorem S12r:SumOK Tryz.prog G0 gw 12 (fokSm dom12r):=fok_sum Tryz.func12 rfl C12r
namespace M
def same(nm:ByteArray)(cs:List ByteArray)(vs:List Int)(nn:ByteArray)(ds:List ByteArray)(ws:List Int):Bool:=cond (decide (nm=nn)) (cond (eqS cs ds) (eqI vs ws) false) false
end M
def tr11r(nm:ByteArray)(cs:List ByteArray)(vs:List Int)(nn:ByteArray)(ds:List ByteArray)(ws:List Int):T (List Ar):=T.br (nm.toList==nn.toList) (T.needs [eS.Is cs.length (eS.F cs),eS.Is ds.length (eS.F ds),(eS.list cs.length (eS.F cs)).length≤1000000] (T.br (M.eqS (eS.list cs.length (eS.F cs)) (eS.list ds.length (eS.F ds))) (T.needs [eI.Is vs.length (eI.F vs),eI.Is ws.length (eI.F ws),(eI.list vs.length (eI.F vs)).length≤1000000] (T.ret [rB (M.eqI (eI.list vs.length (eI.F vs)) (eI.list ws.length (eI.F ws)))])) (T.ret [rB false]))) (T.ret [rB false])
theorem t11r(nm:ByteArray)(q_cs:Bool)(cs:List ByteArray)(q_vs:Bool)(vs:List Int)(nn:ByteArray)(q_ds:Bool)(ds:List ByteArray)(q_ws:Bool)(ws:List Int):runFnX Tryz.prog G0 (lookS [v48r,v28r]) (fun _=>[]) [] 0 60 3 11 Tryz.f11 [.agg [.str nm,.sl q_cs cs.length 1 (eS.F cs),.sl q_vs vs.length 1 (eI.F vs)],.agg [.str nn,.sl q_ds ds.length 1 (eS.F ds),.sl q_ws ws.length 1 (eI.F ws)]]=tr11r nm cs vs nn ds ws:=by kernel_rfl
theorem w11r(nm:ByteArray)(cs:List ByteArray)(vs:List Int)(nn:ByteArray)(ds:List ByteArray)(ws:List Int)(h1:cs.length≤1000000)(h2:vs.length≤1000000):(tr11r nm cs vs nn ds ws).wp (fun rs=>rsEqv rs [rB (M.same nm cs vs nn ds ws)]):=by
 unfold tr11r M.same
 rw[Enc.list_F,Enc.list_F,Enc.list_F,Enc.list_F,bs_eq]
 refine⟨fun hb=>⟨Enc.is_F _ _ _,Enc.is_F _ _ _,h1,fun hc=>⟨Enc.is_F _ _ _,Enc.is_F _ _ _,h2,?_⟩,fun hc=>?_⟩,fun hb=>?_⟩
 ·rw[hb,hc];exact rsEqv_refl _
 ·rw[hb,hc];exact rsEqv_refl _
 ·rw[hb];exact rsEqv_refl _
def dom11r:DomF
 |[.agg [.str nm,.sl q_cs n_cs st_cs F_cs,.sl q_vs n_vs st_vs F_vs],.agg [.str nn,.sl q_ds n_ds st_ds F_ds,.sl q_ws n_ws st_ws F_ws]]=>(match (Nat.beq st_cs 1||Nat.beq n_cs 0)&&(Nat.beq st_vs 1||Nat.beq n_vs 0)&&(Nat.beq st_ds 1||Nat.beq n_ds 0)&&(Nat.beq st_ws 1||Nat.beq n_ws 0)with
  |true=>some ([eS.Is n_cs F_cs,eI.Is n_vs F_vs,eS.Is n_ds F_ds,eI.Is n_ws F_ws,(eS.list n_cs F_cs).length≤1000000,(eI.list n_vs F_vs).length≤1000000],[rB (M.same nm (eS.list n_cs F_cs) (eI.list n_vs F_vs) nn (eS.list n_ds F_ds) (eI.list n_ws F_ws))])
  |_=>none)
 |_=>none
def v11r:Nat×Sm:=(11,fokSm dom11r)
theorem C11r:FOK Tryz.prog G0 gw 11 dom11r:=by
 intro ags p r hd hp κ w xs hw hl hG hx
 unfold dom11r at hd
 split at hd
 ·rename_i nm q_cs n_cs st_cs F_cs q_vs n_vs st_vs F_vs nn q_ds n_ds st_ds F_ds q_ws n_ws st_ws F_ws
  split at hd
  ·rename_i hst
   rw[Bool.and_eq_true,Bool.and_eq_true,Bool.and_eq_true]at hst
   obtain⟨⟨⟨gz_cs,gz_vs⟩,gz_ds⟩,gz_ws⟩:=hst
   simp only[Option.some.injEq,Prod.mk.injEq]at hd
   obtain⟨rfl,rfl⟩:=hd
   obtain⟨hI_cs,hI_vs,hI_ds,hI_ws,hp⟩:=hp
   have heq:agsEqv [.agg [.str nm,.sl q_cs n_cs st_cs F_cs,.sl q_vs n_vs st_vs F_vs],.agg [.str nn,.sl q_ds n_ds st_ds F_ds,.sl q_ws n_ws st_ws F_ws]] [.agg [.str nm,.sl q_cs (eS.list n_cs F_cs).length 1 (eS.F (eS.list n_cs F_cs)),.sl q_vs (eI.list n_vs F_vs).length 1 (eI.F (eI.list n_vs F_vs))],.agg [.str nn,.sl q_ds (eS.list n_ds F_ds).length 1 (eS.F (eS.list n_ds F_ds)),.sl q_ws (eI.list n_ws F_ws).length 1 (eI.F (eI.list n_ws F_ws))]]:=⟨⟨rfl,to0 eS rfl gz_cs hI_cs,to0 eI rfl gz_vs hI_vs,trivial⟩,⟨rfl,to0 eS rfl gz_ds hI_ds,to0 eI rfl gz_ws hI_ws,trivial⟩,trivial⟩
   generalize eS.list n_cs F_cs=cs at *
   generalize eI.list n_vs F_vs=vs at *
   generalize eS.list n_ds F_ds=ds at *
   generalize eI.list n_ws F_ws=ws at *
   exact fokX_fin mixed gw_stable (sl:=[v48r,v28r]) ⟨S48r,S28r,trivial⟩ Tryz.func11 hw hl hG hx heq rfl (t11r nm q_cs cs q_vs vs nn q_ds ds q_ws ws) (w11r nm cs vs nn ds ws hp.1 hp.2.1)
  ·cases hd
 ·cases hd
theorem S11r:SumOK Tryz.prog G0 gw 11 (fokSm dom11r):=fok_sum Tryz.func11 rfl C11r
end Go.Tx
end
section
set_option maxRecDepth 100000
namespace Go.Tx
open Go.Gd
open Go.V Go.Proofs Go.Lib
open Go.RowKit (Below)
namespace M
def wordR(w:ByteArray):Option (ByteArray×Int):=match words w 61 with
 |[a,b]=>cond (decide (a=⟨#[]⟩)) none (match number b 6 with|some n=>some (a,n)|none=>none)
 |_=>none
def wordsR:List ByteArray→Option (List ByteArray×List Int)
 |[]=>some ([],[])
 |w::r=>match wordR w,wordsR r with|some x,some y=>some (x.1::y.1,x.2::y.2)|_,_=>none
def parse(s:ByteArray):Int×ByteArray×List ByteArray×List Int:=match words s 32 with
 |nm::r=>cond (decide (nm=⟨#[]⟩)) (7,⟨#[]⟩,[],[]) (match wordsR r with
  |some y=>cond (decide (recErr nm y.1 y.2=0)) (0,nm,y.1,y.2) (recErr nm y.1 y.2,⟨#[]⟩,[],[])
  |none=>(7,⟨#[]⟩,[],[]))
 |[]=>(7,⟨#[]⟩,[],[])
end M
theorem wordR_len{w:ByteArray}(h:(M.words w 61).length≠2):M.wordR w=none:=by
 unfold M.wordR
 split
 ·rename_i a b e;rw[e]at h;exact absurd rfl h
 ·rfl
theorem wordR_two{w a b:ByteArray}(h:M.words w 61=[a,b]):M.wordR w=cond (decide (a=⟨#[]⟩)) none (match M.number b 6 with|some n=>some (a,n)|none=>none):=by
 unfold M.wordR;rw[h]
theorem two_of{α:Type}{l:List α}(h:l.length=2):∃a b,l=[a,b]:=by
 match l,h with
 |[a,b],_=>exact⟨a,b,rfl⟩
def rw9{α:Type}(w:ByteArray)(no:T α)(k:ByteArray→Int→T α):T α:=
 T.needs [(0:Int)≤61,(61:Int)<256,w.size≤900000] (.br (((M.words w 61).length:Int) != 2) no
  (T.needs [(0:Int)≤0,0<((M.words w 61).length:Int)] (.br (((M.words w 61).getD 0 .empty).toList==(⟨#[]⟩:ByteArray).toList) no
   (T.needs [(0:Int)≤1,1<((M.words w 61).length:Int),(0:Int)≤6,(6:Int)≤18,((M.words w 61).getD 1 .empty).size≤1000000] (.br (!M.numB ((M.words w 61).getD 1 .empty) 6) no
    (T.needs [(0:Int)≤0,0<((M.words w 61).length:Int)] (k ((M.words w 61).getD 0 .empty) (M.numI ((M.words w 61).getD 1 .empty) 6))))))))
theorem rw9_wp{α:Type}{w:ByteArray}{no:T α}{k:ByteArray→Int→T α}{Q:α→Prop}(hs:w.size≤900000)(h1:M.wordR w=none→no.wp Q)(h2:∀a n,M.wordR w=some (a,n)→(k a n).wp Q):(rw9 w no k).wp Q:=by
 have hsz:=words_size w 61
 unfold rw9
 refine⟨by decide,by decide,hs,fun hb=>h1 (wordR_len fun e=>?_),fun hb=>?_⟩
 ·rw[e]at hb;exact absurd hb (by decide)
 ·have hl:(M.words w 61).length=2:=by simp at hb;omega
  obtain⟨a,b,e⟩:=two_of hl
  have hR:=wordR_two e
  rw[e]at hsz ⊢
  have hb1:b.size≤w.size:=hsz 1 (by simp)
  refine⟨by decide,by show(0:Int)<(2:Nat);decide,fun h0=>h1 ?_,fun h0=>⟨by decide,by show(1:Int)<(2:Nat);decide,by decide,by decide,by show b.size≤_;omega,fun hn=>h1 ?_,fun hn=>⟨by decide,by show(0:Int)<(2:Nat);decide,?_⟩⟩⟩
  ·rw[bs_eq]at h0
   have h0:decide (a=⟨#[]⟩)=true:=h0
   rw[hR,h0];rfl
  ·rw[hR]
   have hn:(!M.numB b 6)=true:=hn
   unfold M.numB at hn
   cases e:M.number b 6 with
   |none=>cases decide (a=⟨#[]⟩) <;>rfl
   |some n=>rw[e]at hn;cases hn
  ·rw[bs_eq]at h0
   have h0:decide (a=⟨#[]⟩)=false:=h0
   have hn:(!M.numB b 6)=false:=hn
   refine h2 a _ ?_
   rw[hR,h0]
   show(match M.number b 6 with|some n=>some (a,n)|none=>none)=some (a,M.numI b 6)
   unfold M.numB at hn
   unfold M.numI
   cases e:M.number b 6 with
   |none=>rw[e]at hn;cases hn
   |some n=>rfl
theorem word_yes6{w:ByteArray}{n:Int}(h:M.number w 6=some n):M.atoiB w=true∧M.atoiN w=n∧M.decimal n=w∧(M.trim w dash).size≤6:=by
 have h:numL 6 (lA w)=some n:=h
 obtain⟨h1,h2,h3⟩:=numL_some h
 have hlen:(lA w).length≤18:=by
  unfold trimPrefix at h3
  split at h3
  ·have:((lA w).drop 1).length≤6:=h3
   rw[List.length_drop]at this;omega
  ·omega
 have ha:atoiAll (lA w)=.ok n:=by rw[atoiAll_short _ hlen,h2];rfl
 refine⟨by unfold M.atoiB;rw[ha],by unfold M.atoiN;rw[ha],lA_inj (by unfold M.decimal;rw[lA_bA,h1]),?_⟩
 unfold M.trim;rw[bA_size];exact h3
theorem word_no6{w:ByteArray}(h1:M.atoiB w=true)(h2:M.decimal (M.atoiN w)=w)(h3:(M.trim w dash).size≤6):M.number w 6=some (M.atoiN w):=by
 have e:itoa (M.atoiN w)=lA w:=by rw[←lA_bA (itoa _)];exact congrArg lA h2
 have h3:(trimPrefix (lA w) [45]).length≤6:=by unfold M.trim at h3;rw[bA_size]at h3;exact h3
 show numL 6 (lA w)=_
 rw[←e]at h3 ⊢
 exact numL_itoa h3
def rw8{α:Type}(w:ByteArray)(no:T α)(k:ByteArray→Int→T α):T α:=
 T.needs [w.size≤900000,(M.cutB w eqB).size≤1000000] (.br ((((lA w).count 61:Nat):Int) != 1) no (.br ((M.cutA w eqB).toList==(⟨#[]⟩:ByteArray).toList) no (.br (!M.atoiB (M.cutB w eqB)) no
  (T.needs [inI (M.atoiN (M.cutB w eqB))] (.br (!(M.decimal (M.atoiN (M.cutB w eqB))).toList==(M.cutB w eqB).toList) no (.br (decide (((M.trim (M.cutB w eqB) dash).size:Int)>6)) no (k (M.cutA w eqB) (M.atoiN (M.cutB w eqB)))))))))
theorem cutL_count(c:UInt8):∀l:List UInt8,(cutL c l).length=l.count c+1
 |[]=>rfl
 |b::r=>by
  have ih:=cutL_count c r
  by_cases h:b=c
  ·subst h
   rw[cutL_hit,List.length_cons,ih,List.count_cons_self]
  ·have hc:(b::r).count c=r.count c:=List.count_cons_of_ne h
   rw[cutL_miss h,hc]
   cases e:cutL c r with
   |nil=>exact absurd e (cutL_ne c r)
   |cons x y=>rw[e]at ih;exact ih
theorem words_len(w:ByteArray):(M.words w 61).length=(lA w).count 61+1:=by
 unfold M.words
 rw[List.length_map,cutL_count];rfl
theorem rw8_wp{α:Type}{w:ByteArray}{no:T α}{k:ByteArray→Int→T α}{Q:α→Prop}(hs:w.size≤900000)(h1:M.wordR w=none→no.wp Q)(h2:∀a n,M.wordR w=some (a,n)→(k a n).wp Q):(rw8 w no k).wp Q:=by
 have e61:UInt8.ofNat (61:Int).toNat=61:=rfl
 have eq1:lA eqB=[61]:=rfl
 have hlen:=words_len w
 have hszL:(lA w).length=w.size:=lA_size w
 have hcut:(M.cutB w eqB).size≤w.size∧((lA w).count 61=1→M.words w 61=[M.cutA w eqB,M.cutB w eqB]):=by
  rcases cut_one 61 (lA w)with⟨g1,g2,g3⟩|⟨a,r,g1,g2,g3,g4⟩
  ·unfold M.cutB
   rw[eq1,g1]
   refine⟨Nat.zero_le _,fun hc=>?_⟩
   rw[List.count_eq_zero_of_not_mem g2]at hc;cases hc
  ·unfold M.cutA M.cutB M.words
   rw[eq1,g1,e61,g4]
   refine⟨by show(bA r).size≤_;rw[bA_size,←hszL,g2];simp only[List.length_append,List.length_cons];omega,fun hc=>?_⟩
   have hr:(61:UInt8)∉r:=by
    intro hm
    have:0<r.count 61:=List.count_pos_iff.2 hm
    rw[g2,List.count_append,List.count_cons_self]at hc
    omega
   rw[cutL_last r hr]
   rfl
 unfold rw8
 refine⟨hs,by omega,fun hb=>h1 (wordR_len fun e=>?_),fun hb=>?_⟩
 ·rw[hlen]at e
  have e:(lA w).count 61=1:=by omega
  rw[e]at hb;exact absurd hb (by decide)
 ·have hc:(lA w).count 61=1:=by
   have hb:((((lA w).count 61:Nat):Int) != 1)=false:=hb
   simp only[bne_eq_false_iff_eq]at hb;omega
  have hR:=wordR_two (hcut.2 hc)
  generalize M.cutA w eqB=a at *
  generalize M.cutB w eqB=b at *
  rw[bs_eq]
  refine⟨fun ha=>h1 (by rw[hR,ha];rfl),fun ha=>?_⟩
  have none_of:M.number b 6=none→M.wordR w=none:=fun h=>by rw[hR,h];cases decide (a=⟨#[]⟩) <;>rfl
  have key:¬(M.atoiB b=true∧M.decimal (M.atoiN b)=b∧(M.trim b dash).size≤6)→M.wordR w=none:=by
   intro hn
   cases h:M.number b 6 with
   |none=>exact none_of h
   |some n=>
    obtain⟨p,q,r,t⟩:=word_yes6 h
    subst q
    exact absurd ⟨p,r,t⟩ hn
  refine⟨fun hb=>h1 (key fun h=>?_),fun hb=>⟨atoi_in b,fun he=>h1 (key fun h=>?_),fun he=>⟨fun hl=>h1 (key fun h=>?_),fun hl=>?_⟩⟩⟩
  ·rw[h.1]at hb;cases hb
  ·rw[h.2.1]at he;simp at he
  ·have hl:((M.trim b dash).size:Int)>6:=of_decide_eq_true hl
   have:=h.2.2;omega
  ·have hb:M.atoiB b=true:=by cases h:M.atoiB b with|true=>rfl|false=>rw[h]at hb;cases hb
   have he:M.decimal (M.atoiN b)=b:=by
    have he:(M.decimal (M.atoiN b)).toList=b.toList:=by simpa using he
    rw[toList_eq,toList_eq]at he
    exact lA_inj he
   have hl:¬((M.trim b dash).size:Int)>6:=of_decide_eq_false hl
   refine h2 a _ ?_
   rw[hR,ha,word_no6 hb he (by omega)]
   rfl
theorem wordsR_snoc:∀(w:List ByteArray) (s:ByteArray),M.wordsR (w++ [s])=(match M.wordsR w,M.wordR s with|some y,some x=>some (y.1++ [x.1],y.2++ [x.2])|_,_=>none)
 |[],s=>by
  show(match M.wordR s,some (([],[]):List ByteArray×List Int)with|some x,some y=>some (x.1::y.1,x.2::y.2)|_,_=>none)=(match some (([],[]):List ByteArray×List Int),M.wordR s with|some y,some x=>some (y.1++ [x.1],y.2++ [x.2])|_,_=>none)
  cases M.wordR s <;>rfl
 |w::r,s=>by
  have ih:=wordsR_snoc r s
  show(match M.wordR w,M.wordsR (r++ [s])with|some x,some y=>some (x.1::y.1,x.2::y.2)|_,_=>none)=(match (match M.wordR w,M.wordsR r with|some x,some y=>some (x.1::y.1,x.2::y.2)|_,_=>none),M.wordR s with|some y,some x=>some (y.1++ [x.1],y.2++ [x.2])|_,_=>none)
  rw[ih]
  cases M.wordR w <;>cases M.wordsR r <;>cases M.wordR s <;>rfl
theorem wordsR_none{w:List ByteArray}{s:ByteArray}(h:s∈w)(hs:M.wordR s=none):M.wordsR w=none:=by
 induction w with
 |nil=>cases h
 |cons a r ih=>
  show(match M.wordR a,M.wordsR r with|some x,some y=>some (x.1::y.1,x.2::y.2)|_,_=>none)=none
  rcases List.mem_cons.1 h with rfl|h
  ·rw[hs]
  ·rw[ih h];cases M.wordR a <;>rfl
theorem wordsR_len:∀{w:List ByteArray} {y:List ByteArray×List Int},M.wordsR w=some y→y.1.length=w.length∧y.2.length=w.length
 |[],y,h=>by
  have h:some (([],[]):List ByteArray×List Int)=some y:=h
  simp only[Option.some.injEq]at h
  subst h;exact⟨rfl,rfl⟩
 |a::r,y,h=>by
  have h:(match M.wordR a,M.wordsR r with|some x,some y=>some (x.1::y.1,x.2::y.2)|_,_=>none)=some y:=h
  cases ha:M.wordR a with
  |none=>rw[ha]at h;cases h
  |some x=>
   cases hr:M.wordsR r with
   |none=>rw[ha,hr]at h;cases h
   |some z=>
    rw[ha,hr]at h
    simp only[Option.some.injEq]at h
    subst h
    have:=wordsR_len hr
    exact⟨by simp only[List.length_cons];omega,by simp only[List.length_cons];omega⟩
theorem wordR_size{w a:ByteArray}{n:Int}(h:M.wordR w=some (a,n)):a.size≤w.size:=by
 have hsz:=words_size w 61
 unfold M.wordR at h
 split at h
 ·rename_i x y e
  have hx:x.size≤w.size:=by rw[e]at hsz;exact hsz 0 (by simp)
  cases hd:decide (x=⟨#[]⟩)with
  |true=>rw[hd]at h;cases h
  |false=>
   rw[hd]at h
   have h:(match M.number y 6 with|some n=>some (x,n)|none=>none)=some (a,n):=h
   split at h
   ·simp only[Option.some.injEq,Prod.mk.injEq]at h
    rw[←h.1];exact hx
   ·cases h
 ·cases h
theorem wordsR_size{N:Nat}:∀{w:List ByteArray} {y:List ByteArray×List Int},(∀s,s∈w→s.size≤N)→M.wordsR w=some y→∀a,a∈y.1→a.size≤N
 |[],y,_,h=>by
  have h:some (([],[]):List ByteArray×List Int)=some y:=h
  simp only[Option.some.injEq]at h
  subst h
  intro a ha;cases ha
 |s::r,y,hN,h=>by
  have h:(match M.wordR s,M.wordsR r with|some x,some y=>some (x.1::y.1,x.2::y.2)|_,_=>none)=some y:=h
  cases ha:M.wordR s with
  |none=>rw[ha]at h;cases h
  |some x=>
   cases hr:M.wordsR r with
   |none=>rw[ha,hr]at h;cases h
   |some z=>
    rw[ha,hr]at h
    simp only[Option.some.injEq]at h
    subst h
    intro a hm
    rcases List.mem_cons.1 hm with rfl|hm
    ·have:=wordR_size (a:=x.1) (n:=x.2) ha
     have:=hN s (List.mem_cons_self ..)
     omega
    ·exact wordsR_size (fun t ht=>hN t (List.mem_cons_of_mem _ ht)) hr a hm
end Go.Tx
end
section
set_option maxRecDepth 100000
namespace Go.Tx
open Go.Gd
open Go.V Go.Proofs Go.Lib
open Go.RowKit (Below)
abbrev XP:Type:=Int×ByteArray×PUnit.{1}×PUnit.{1}×ByteArray×PUnit.{1}×PUnit.{1}×PUnit.{1}
abbrev YP:Type:=Int×ByteArray×List ByteArray×List Int×ByteArray×PUnit.{1}×PUnit.{1}×PUnit.{1}
abbrev RP:Type:=(XP ⊕ YP) ⊕ List Ar
def zeroR:Ar:=.agg [.str ⟨#[]⟩,.sl false 0 0 nilF,.sl false 0 0 nilF]
def no7:T RP:=.ret (.inr [zeroR,rI 7])
def lpP(n i0:Int)(nm:ByteArray)(wT:Int→T RP→(ByteArray→Int→T RP)→T RP)(eX:ByteArray→ByteArray→T RP)(eY:ByteArray→List ByteArray→List Int→ByteArray→T RP):T (List Ar):=
 .loop2 XP YP (.inl (i0,nm,PUnit.unit,PUnit.unit,⟨#[]⟩,PUnit.unit,PUnit.unit,PUnit.unit))
  (fun x=>.br (decide (x.1<n)) (T.needs [0≤x.1,x.1<n] (wT x.1 no7 fun a m=>T.needs [(1:Nat)≤1000000,(1:Nat)≤1000000,eS.Is 1 (joinF 0 nilF (oneS a)),(1:Nat)≤1,eI.Is 1 (joinF 0 nilF (oneI m)),(1:Nat)≤1] (.ret (.inl (.inr (w64 (x.1+1),x.2.1,eS.list 1 (joinF 0 nilF (oneS a)),eI.list 1 (joinF 0 nilF (oneI m)),x.2.2.2.2.1,PUnit.unit,PUnit.unit,PUnit.unit)))))) (eX x.2.1 x.2.2.2.2.1))
  (fun y=>.br (decide (y.1<n)) (T.needs [0≤y.1,y.1<n] (wT y.1 no7 fun a m=>T.needs [y.2.2.1.length+1≤1000000,y.2.2.1.length≤y.2.2.1.length,y.2.2.2.1.length+1≤1000000,y.2.2.2.1.length≤y.2.2.2.1.length,eS.Is (y.2.2.1.length+1) (joinF y.2.2.1.length (eS.F y.2.2.1) (oneS a)),y.2.2.1.length+1≤y.2.2.1.length+1,eI.Is (y.2.2.2.1.length+1) (joinF y.2.2.2.1.length (eI.F y.2.2.2.1) (oneI m)),y.2.2.2.1.length+1≤y.2.2.2.1.length+1] (.ret (.inl (.inr (w64 (y.1+1),y.2.1,eS.list (y.2.2.1.length+1) (joinF y.2.2.1.length (eS.F y.2.2.1) (oneS a)),eI.list (y.2.2.2.1.length+1) (joinF y.2.2.2.1.length (eI.F y.2.2.2.1) (oneI m)),y.2.2.2.2.1,PUnit.unit,PUnit.unit,PUnit.unit)))))) (eY y.2.1 y.2.2.1 y.2.2.2.1 y.2.2.2.2.1))
theorem lpP_wp{rest:List ByteArray}{n i0:Int}{nm:ByteArray}{wT:Int→T RP→(ByteArray→Int→T RP)→T RP}{eX:ByteArray→ByteArray→T RP}{eY:ByteArray→List ByteArray→List Int→ByteArray→T RP}{Q:List Ar→Prop}
  (hi:0≤i0) (hi1:i0≤1) (hn:n=i0+rest.length) (hl:rest.length≤900000)
  (hw:∀k:Nat,k<rest.length→∀(no:T RP) (next:ByteArray→Int→T RP) (Q':RP→Prop),(M.wordR (rest.getD k .empty)=none→no.wp Q')→(∀a m,M.wordR (rest.getD k .empty)=some (a,m)→(next a m).wp Q')→(wT (i0+k) no next).wp Q')
  (h1:M.wordsR rest=none→Q [zeroR,rI 7])
  (hX:rest=[]→∀(z:ByteArray) (Q':RP→Prop),(∀a,Q a→Q' (.inr a))→(eX nm z).wp Q')
  (hY:∀l m,M.wordsR rest=some (l,m)→∀(z:ByteArray) (Q':RP→Prop),(∀a,Q a→Q' (.inr a))→(eY nm l m z).wp Q'):(lpP n i0 nm wT eX eY).wp Q:=by
 refine⟨fun z=>match z with
  |.inl x=>x.1=i0∧x.2.1=nm
  |.inr y=>∃k:Nat,k≤rest.length∧y.1=i0+k∧y.2.1=nm∧M.wordsR (rest.take k)=some (y.2.2.1,y.2.2.2.1),fun z=>match z with|.inl x=>n.toNat-x.1.toNat|.inr y=>n.toNat-y.1.toNat,⟨rfl,rfl⟩,?_,?_⟩
 ·rintro ⟨i,b,u1,u2,z,u3,u4,u5⟩ ⟨hi',hb⟩
  simp only at hi' hb
  subst hi' hb
  refine⟨fun hlt=>?_,fun hge=>?_⟩
  ·have hlt:i<n:=of_decide_eq_true hlt
   have h0:0<rest.length:=by omega
   have hw0:=hw 0 h0
   rw[show i+((0:Nat):Int)=i by omega]at hw0
   refine⟨hi,hlt,hw0 _ _ _ (fun hno=>h1 (wordsR_none (mem_getD h0) hno)) fun a m hm=>?_⟩
   refine⟨by decide,by decide,(firstS a).1,Nat.le_refl _,(firstI m).1,Nat.le_refl _,?_⟩
   have hws:w64 (i+1)=i+((1:Nat):Int):=by rw[w64_id (by omega) (by omega)];omega
   refine⟨⟨1,h0,hws,rfl,?_⟩,?_⟩
   ·show M.wordsR (rest.take (0+1))=some (eS.list 1 _,eI.list 1 _)
    rw[(firstS a).2,(firstI m).2,take_push (d:=.empty) h0,wordsR_snoc,List.take_zero,hm]
    rfl
   ·show n.toNat-(w64 (i+1)).toNat<n.toNat-i.toNat
    rw[hws];omega
  ·have hge:¬i<n:=of_decide_eq_false hge
   exact hX (List.length_eq_zero_iff.1 (by omega)) _ _ (fun a h=>h)
 ·rintro ⟨i,b,l,m,z,u3,u4,u5⟩ ⟨k,hk,hi',hb,hlm⟩
  simp only at hi' hb hlm
  subst hi' hb
  have hlen:=wordsR_len hlm
  simp only[List.length_take]at hlen
  refine⟨fun hlt=>?_,fun hge=>?_⟩
  ·have hlt:i0+(k:Int)<n:=of_decide_eq_true hlt
   have hk1:k<rest.length:=by omega
   refine⟨by show(0:Int)≤i0+k;omega,hlt,hw k hk1 _ _ _ (fun hno=>h1 (wordsR_none (mem_getD hk1) hno)) fun a v hv=>?_⟩
   have hws:w64 (i0+(k:Int)+1)=i0+((k+1:Nat):Int):=by rw[w64_id (by omega) (by omega)];omega
   refine⟨by show l.length+1≤_;omega,Nat.le_refl _,by show m.length+1≤_;omega,Nat.le_refl _,(pushS l a).1,Nat.le_refl _,(pushI m v).1,Nat.le_refl _,?_⟩
   refine⟨⟨k+1,hk1,hws,rfl,?_⟩,?_⟩
   ·show M.wordsR (rest.take (k+1))=some (eS.list _ _,eI.list _ _)
    rw[(pushS l a).2,(pushI m v).2,take_push (d:=.empty) hk1,wordsR_snoc,hlm,hv]
   ·show n.toNat-(w64 (i0+(k:Int)+1)).toNat<n.toNat-(i0+(k:Int)).toNat
    rw[hws];omega
  ·have hge:¬i0+(k:Int)<n:=of_decide_eq_false hge
   have hk2:k=rest.length:=by omega
   rw[hk2,List.take_length]at hlm
   exact hY l m hlm _ _ (fun a h=>h)
def eX9(nm z:ByteArray):T RP:=T.needs [eS.Is 0 nilF,eI.Is 0 nilF,(0:Nat)≤1000000,(0:Nat)≤0,nm.size≤1000000,∀x,x∈eS.list 0 nilF→x.size≤1000000] (.br (M.recErr nm (eS.list 0 nilF) (eI.list 0 nilF) != 0) (.ret (.inr [zeroR,rI (M.recErr nm (eS.list 0 nilF) (eI.list 0 nilF))])) (.ret (.inr [.agg [.str nm,.sl false 0 0 nilF,.sl false 0 0 nilF],rI 0])))
def eY9(nm:ByteArray)(l:List ByteArray)(m:List Int)(z:ByteArray):T RP:=T.needs [l.length≤l.length,m.length≤m.length,eS.Is l.length (eS.F l),eI.Is m.length (eI.F m),(eS.list l.length (eS.F l)).length≤1000000,(eS.list l.length (eS.F l)).length≤(eI.list m.length (eI.F m)).length,nm.size≤1000000,∀x,x∈eS.list l.length (eS.F l)→x.size≤1000000]
 (.br (M.recErr nm (eS.list l.length (eS.F l)) (eI.list m.length (eI.F m)) != 0) (.ret (.inr [zeroR,rI (M.recErr nm (eS.list l.length (eS.F l)) (eI.list m.length (eI.F m)))])) (T.needs [l.length≤l.length,m.length≤m.length] (.ret (.inr [.agg [.str nm,.sl true l.length 1 (eS.F l),.sl true m.length 1 (eI.F m)],rI 0]))))
def tr9r(s:ByteArray):T (List Ar):=T.needs [(0:Int)≤32,(32:Int)<256,s.size≤900000,(0:Int)≤0,0<((M.words s 32).length:Int)] (.br (((M.words s 32).getD 0 .empty).toList==(⟨#[]⟩:ByteArray).toList) (.ret [zeroR,rI 7])
 (T.needs [(0:Int)≤0,0<((M.words s 32).length:Int)] (lpP (M.words s 32).length 1 ((M.words s 32).getD 0 .empty) (fun i=>rw9 ((M.words s 32).getD i.toNat .empty)) eX9 eY9)))
theorem t9r(s:ByteArray):runFnX Tryz.prog G0 (lookS [v26,v51,v12r]) (fun _=>[(6,[.slot 6 (.int .i64),.blk 5 [.str,.nsl,.nsl],.blk 2 [.str,.nsl,.nsl]],some [.slot 6 (.int .i64),.blk 5 [.str,.rowE 9 eS,.rowE 3 eI],.blk 2 [.str,.nsl,.nsl]])]) [] 0 60 3 9 Tryz.f9 [.c (.str s)]=tr9r s:=by kernel_rfl
def resP(p:Int×ByteArray×List ByteArray×List Int):List Ar:=[.agg [.str p.2.1,.sl false p.2.2.1.length 1 (eS.F p.2.2.1),.sl false p.2.2.2.length 1 (eI.F p.2.2.2)],rI p.1]
theorem nil_to{α:Type}(E:Enc α){F:Nat→Nat→D}{st:Nat}:(D.sl false 0 st F).eqv (.sl false ([]:List α).length 1 (E.F [])):=
 ⟨id,rfl,fun h=>absurd h (Nat.lt_irrefl 0),fun i j hi=>absurd hi (Nat.not_lt_zero i)⟩
theorem list_to{α:Type}(E:Enc α){l:List α}:(D.sl true l.length 1 (E.F l)).eqv (.sl false l.length 1 (E.F l)):=
 ⟨fun h=>(by cases h),rfl,fun _=>rfl,fun i j _ _=>D.eqv_refl _⟩
theorem zero_to(e:Int):rsEqv [zeroR,rI e] (resP (e,⟨#[]⟩,[],[])):=⟨⟨rfl,nil_to eS,nil_to eI,trivial⟩,D.eqv_refl _,trivial⟩
theorem nil_res(nm:ByteArray):rsEqv [.agg [.str nm,.sl false 0 0 nilF,.sl false 0 0 nilF],rI 0] (resP (0,nm,[],[])):=⟨⟨rfl,nil_to eS,nil_to eI,trivial⟩,D.eqv_refl _,trivial⟩
theorem full_res(nm:ByteArray)(l:List ByteArray)(m:List Int):rsEqv [.agg [.str nm,.sl true l.length 1 (eS.F l),.sl true m.length 1 (eI.F m)],rI 0] (resP (0,nm,l,m)):=⟨⟨rfl,list_to eS,list_to eI,trivial⟩,D.eqv_refl _,trivial⟩
theorem words_ne(s:ByteArray):∃nm rest,M.words s 32=nm::rest:=by
 unfold M.words
 cases h:cutL (UInt8.ofNat (32:Int).toNat) (lA s)with
 |nil=>exact absurd h (cutL_ne _ _)
 |cons a r=>exact⟨_,_,rfl⟩
section
variable {s nm : ByteArray} {rest : List ByteArray}
theorem parse_nil(h:M.words s 32=nm::rest)(h0:decide (nm=⟨#[]⟩)=true):M.parse s=(7,⟨#[]⟩,[],[]):=by
 unfold M.parse;rw[h];show cond (decide (nm=⟨#[]⟩)) _ _=_;rw[h0];rfl
theorem parse_bad(h:M.words s 32=nm::rest)(hr:M.wordsR rest=none):M.parse s=(7,⟨#[]⟩,[],[]):=by
 unfold M.parse;rw[h];show cond (decide (nm=⟨#[]⟩)) _ _=_;rw[hr];cases decide (nm=⟨#[]⟩) <;>rfl
theorem parse_err{y:List ByteArray×List Int}(h:M.words s 32=nm::rest)(h0:decide (nm=⟨#[]⟩)=false)(hr:M.wordsR rest=some y)(he:M.recErr nm y.1 y.2≠0):M.parse s=(M.recErr nm y.1 y.2,⟨#[]⟩,[],[]):=by
 unfold M.parse;rw[h];show cond (decide (nm=⟨#[]⟩)) _ _=_;rw[h0,hr]
 show cond (decide (M.recErr nm y.1 y.2=0)) _ _=_
 rw[decide_eq_false he];rfl
theorem parse_ok{y:List ByteArray×List Int}(h:M.words s 32=nm::rest)(h0:decide (nm=⟨#[]⟩)=false)(hr:M.wordsR rest=some y)(he:M.recErr nm y.1 y.2=0):M.parse s=(0,nm,y.1,y.2):=by
 unfold M.parse;rw[h];show cond (decide (nm=⟨#[]⟩)) _ _=_;rw[h0,hr]
 show cond (decide (M.recErr nm y.1 y.2=0)) _ _=_
 rw[decide_eq_true he];rfl
end
theorem words_many(s:ByteArray)(c:Int):(M.words s c).length≤s.size+1:=by
 unfold M.words
 rw[List.length_map,cutL_count,←lA_size]
 have:=List.count_le_length (a:=UInt8.ofNat c.toNat) (l:=lA s)
 omega
theorem w9r(s:ByteArray)(hs:s.size≤800000):(tr9r s).wp (fun rs=>rsEqv rs (resP (M.parse s))):=by
 obtain⟨nm,rest,hW⟩:=words_ne s
 have hmany:=words_many s 32
 have hsz:=words_size s 32
 unfold tr9r
 rw[hW]at hmany hsz ⊢
 have hnm:nm.size≤s.size:=hsz 0 (by simp)
 have hrs:∀w,w∈rest→w.size≤800000:=fun w hw=>by
  obtain⟨k,hk,rfl⟩:=(mem_iff (d:=ByteArray.empty)).1 hw
  have:=hsz (k+1) (by simp only[List.length_cons];omega)
  have this:(rest.getD k .empty).size≤s.size:=this
  omega
 simp only[List.length_cons]at hmany
 have hpos:(0:Int)<((nm::rest).length:Int):=by simp only[List.length_cons];omega
 refine⟨by decide,by decide,by omega,by decide,hpos,fun h0=>?_,fun h0=>⟨by decide,hpos,?_⟩⟩
 ·rw[bs_eq]at h0
  have h0:decide (nm=⟨#[]⟩)=true:=h0
  rw[parse_nil hW h0]
  exact zero_to 7
 ·rw[bs_eq]at h0
  have h0:decide (nm=⟨#[]⟩)=false:=h0
  show T.wp (lpP _ 1 nm _ _ _) _
  refine lpP_wp (rest:=rest) (by decide) (by decide) (by simp only[List.length_cons];omega) (by omega) (fun k hk no next Q' g1 g2=>?_) (fun hr=>?_) (fun hr z Q' hQ=>?_) (fun l m hr z Q' hQ=>?_)
  ·have e:(nm::rest).getD ((1:Int)+(k:Int)).toNat .empty=rest.getD k .empty:=by
    rw[show((1:Int)+(k:Int)).toNat=k+1 by omega];rfl
   show T.wp (rw9 ((nm::rest).getD ((1:Int)+(k:Int)).toNat .empty) no next) Q'
   rw[e]
   have:=hrs _ (mem_getD (d:=ByteArray.empty) hk)
   exact rw9_wp (by omega) g1 g2
  ·rw[parse_bad hW hr];exact zero_to 7
  ·have hr':M.wordsR rest=some ([],[]):=by rw[hr];rfl
   refine⟨fun i j hi=>absurd hi (Nat.not_lt_zero i),fun i j hi=>absurd hi (Nat.not_lt_zero i),Nat.zero_le _,Nat.le_refl _,by omega,fun x hx=>(by cases hx),fun he=>hQ _ ?_,fun he=>hQ _ ?_⟩
   ·have he:(M.recErr nm [] [] != 0)=true:=he
    have he:M.recErr nm [] []≠0:=by simpa using he
    rw[parse_err hW h0 hr' he];exact zero_to _
   ·have he:(M.recErr nm [] [] != 0)=false:=he
    have he:M.recErr nm [] []=0:=by simpa using he
    rw[parse_ok hW h0 hr' he];exact nil_res nm
  ·have hlen:=wordsR_len hr
   have hlz:=wordsR_size hrs hr
   simp only at hlen hlz
   unfold eY9
   rw[Enc.list_F,Enc.list_F]
   refine⟨Nat.le_refl _,Nat.le_refl _,Enc.is_F _ _ _,Enc.is_F _ _ _,by omega,by omega,by omega,fun x hx=>by have:=hlz x hx;omega,fun he=>hQ _ ?_,fun he=>⟨Nat.le_refl _,Nat.le_refl _,hQ _ ?_⟩⟩
   ·have he:M.recErr nm l m≠0:=by simpa using he
    rw[parse_err (y:=(l,m)) hW h0 hr he];exact zero_to _
   ·have he:M.recErr nm l m=0:=by simpa using he
    rw[parse_ok (y:=(l,m)) hW h0 hr he];exact full_res nm l m
def dom9r:DomF
 |[.c (.str s)]=>some ([s.size≤800000],resP (M.parse s))
 |_=>none
def v9r:Nat×Sm:=(9,fokSm dom9r)
theorem C9r:FOK Tryz.prog G0 gw 9 dom9r:=by
 intro ags p r hd hp κ w xs hw hl hG hx
 unfold dom9r at hd
 split at hd
 ·rename_i s
  simp only[Option.some.injEq,Prod.mk.injEq]at hd
  obtain⟨rfl,rfl⟩:=hd
  have heq:agsEqv [.c (.str s)] [.c (.str s)]:=⟨rfl,trivial⟩
  exact fokX_fin mixed gw_stable (sl:=[v26,v51,v12r]) ⟨S26,S51,S12r,trivial⟩ Tryz.func9 hw hl hG hx heq rfl (t9r s) (w9r s hp.1)
 ·cases hd
theorem S9r:SumOK Tryz.prog G0 gw 9 (fokSm dom9r):=fok_sum Tryz.func9 rfl C9r
end Go.Tx
end
section
set_option maxRecDepth 100000
namespace Go.Tx
open Go.Gd
open Go.V Go.Proofs Go.Lib
open Go.RowKit (Below)
def in0(nm z:ByteArray):T RP:=.loop (Int×ByteArray×PUnit.{1}×PUnit.{1}×PUnit.{1}) (0,z,PUnit.unit,PUnit.unit,PUnit.unit) fun x=>.br (decide (x.1<0)) .fail (.ret (.inr (.inr [.agg [.str nm,.sl false 0 0 nilF,.sl false 0 0 nilF],rI 0])))
def eX8(nm z:ByteArray):T RP:=T.needs [eS.Is 0 nilF,(0:Nat)≤1000000,∀x,x∈eS.list 0 nilF→x.size≤1000000] (.br (Go.Bl.M.isName nm) (T.needs [nm.size≤1000000,Go.Bl.M.isName nm=true] (.br ((0:Int) != 0) (.ret (.inr [zeroR,rI 0])) (in0 nm z))) (T.needs [nm.size≤1000000,Go.Bl.M.isName nm=false] (.br ((4:Int) != 0) (.ret (.inr [zeroR,rI 4])) (in0 nm z))))
def in8(nm:ByteArray)(l:List ByteArray)(m:List Int)(z:ByteArray):T RP:=.loop (Int×ByteArray×PUnit.{1}×PUnit.{1}×PUnit.{1}) (0,z,PUnit.unit,PUnit.unit,PUnit.unit) fun x=>.br (decide (x.1<(l.length:Int))) (T.needs [0≤x.1,x.1<(l.length:Int),x.1.toNat<l.length,0≤x.1,x.1≤(l.length:Int),x.1.toNat≤l.length,eS.Is x.1.toNat (eS.F l),(eS.list x.1.toNat (eS.F l)).length≤1000000,0≤x.1,x.1<(m.length:Int),x.1.toNat<m.length] (.br (Go.Bl.M.first [Go.Bl.M.unl (!M.has (eS.list x.1.toNat (eS.F l)) (l.getD x.1.toNat .empty)) 5,Go.Bl.M.unl (Go.Bl.M.within (m.getD x.1.toNat 0) 0 10000) 2] != 0) (.ret (.inr (.inr [zeroR,rI (Go.Bl.M.first [Go.Bl.M.unl (!M.has (eS.list x.1.toNat (eS.F l)) (l.getD x.1.toNat .empty)) 5,Go.Bl.M.unl (Go.Bl.M.within (m.getD x.1.toNat 0) 0 10000) 2])]))) (.ret (.inl (w64 (x.1+1),x.2.1,PUnit.unit,PUnit.unit,PUnit.unit)))))
 (T.needs [l.length≤l.length,m.length≤m.length] (.ret (.inr (.inr [.agg [.str nm,.sl true l.length 1 (eS.F l),.sl true m.length 1 (eI.F m)],rI 0]))))
def eY8(nm:ByteArray)(l:List ByteArray)(m:List Int)(z:ByteArray):T RP:=T.needs [l.length≤l.length,eS.Is l.length (eS.F l),(eS.list l.length (eS.F l)).length≤1000000,∀x,x∈eS.list l.length (eS.F l)→x.size≤1000000]
 (.br (Go.Bl.M.isName nm) (T.needs [nm.size≤1000000,Go.Bl.M.isName nm=true] (.br (Go.Bl.M.first [Go.Bl.M.unl (!M.bad (eS.list l.length (eS.F l))) 4,Go.Bl.M.unl (decide ((l.length:Int)≤10)) 8] != 0) (.ret (.inr [zeroR,rI (Go.Bl.M.first [Go.Bl.M.unl (!M.bad (eS.list l.length (eS.F l))) 4,Go.Bl.M.unl (decide ((l.length:Int)≤10)) 8])])) (in8 nm l m z))) (T.needs [nm.size≤1000000,Go.Bl.M.isName nm=false] (.br (Go.Bl.M.first [4,Go.Bl.M.unl (decide ((l.length:Int)≤10)) 8] != 0) (.ret (.inr [zeroR,rI (Go.Bl.M.first [4,Go.Bl.M.unl (decide ((l.length:Int)≤10)) 8])])) (in8 nm l m z))))
def tr8r(s:ByteArray):T (List Ar):=T.needs [s.size≤900000,eS.Is (M.words s 32).length (eS.F (M.words s 32)),(eS.list (M.words s 32).length (eS.F (M.words s 32))).length≤1000000] (.br (M.has (eS.list (M.words s 32).length (eS.F (M.words s 32))) ⟨#[]⟩) (.ret [zeroR,rI 7])
 (T.needs [(0:Int)≤0,0<((M.words s 32).length:Int),(0:Int)≤1,1≤((M.words s 32).length:Int),((M.words s 32).length:Int)≤((M.words s 32).length:Int)] (lpP ((((M.words s 32).length:Int)-1).toNat:Int) 0 ((M.words s 32).getD 0 .empty) (fun i=>rw8 ((M.words s 32).getD (1+i.toNat) .empty)) eX8 eY8)))
theorem t8r(s:ByteArray):runFnX Tryz.prog G0 (lookS [v24,v34r,v31,v47,v37r,v45,v48,v39r,Go.Bl.v104,Go.Bl.v80,Go.Bl.v64,Go.Bl.v101]) (fun _=>[(6,[.slot 30 (.int .i64),.blk 5 [.str,.nsl,.nsl],.blk 2 [.str,.nsl,.nsl]],some [.slot 30 (.int .i64),.blk 5 [.str,.rowE 9 eS,.rowE 3 eI],.blk 2 [.str,.nsl,.nsl]]),(19,[.slot 107 (.int .i64),.blk 2 [.str,.nsl,.nsl]],none)]) [] 0 60 3 8 Tryz.f8 [.c (.str s)]=tr8r s:=by kernel_rfl
theorem list_take(l:List ByteArray){k:Nat}(hk:k≤l.length):eS.list k (eS.F l)=l.take k:=by
 apply List.ext_getElem
 ·rw[Enc.list_len,List.length_take];omega
 ·intro i h1 h2
  rw[Enc.list_len]at h1
  have hi:i<l.length:=by omega
  simp[Enc.list,Enc.F,eS.law,hi]
theorem in0_wp{nm z:ByteArray}{Q:RP→Prop}(h:Q (.inr [.agg [.str nm,.sl false 0 0 nilF,.sl false 0 0 nilF],rI 0])):(in0 nm z).wp Q:=by
 refine Go.Bl.range_wp (n:=0) (fun k _=>True) trivial ?_
 rintro k u hk _
 refine⟨fun hb=>?_,fun hb=>h⟩
 have:(k:Int)<0:=of_decide_eq_true hb
 omega
theorem two_err(a b:Bool):Go.Bl.M.first [Go.Bl.M.unl (!a) 5,Go.Bl.M.unl b 2]=cond a 5 (cond b 0 2):=by cases a <;>cases b <;>rfl
theorem in8_wp(nm:ByteArray)(l:List ByteArray)(m:List Int)(z:ByteArray)(hl:l.length≤900000)(hm:m.length=l.length){Q:RP→Prop}(h0:M.scan l m l.length 0=0→Q (.inr [.agg [.str nm,.sl true l.length 1 (eS.F l),.sl true m.length 1 (eI.F m)],rI 0]))(h1:M.scan l m l.length 0≠0→Q (.inr [zeroR,rI (M.scan l m l.length 0)])):(in8 nm l m z).wp Q:=by
 refine Go.Bl.range_wp (n:=l.length) (fun k _=>M.scan l m (l.length-k) k=M.scan l m l.length 0) rfl ?_
 rintro k ⟨z',u⟩ hk hI
 refine⟨fun hb=>?_,fun hb=>?_⟩
 ·have hlt:(k:Int)<l.length:=of_decide_eq_true hb
  have hk1:k<l.length:=by omega
  have hs:=scan_from (cs:=l) (vs:=m) hk1
  rw[hI]at hs
  have hws:w64 ((k:Int)+1)=((k+1:Nat):Int):=by rw[w64_id (by omega) (by omega)];omega
  refine⟨by show(0:Int)≤k;omega,hlt,hk1,by show(0:Int)≤k;omega,by show(k:Int)≤_;omega,by show k≤_;omega,Enc.is_F _ _ _,by rw[Enc.list_len];show k≤_;omega,by show(0:Int)≤k;omega,by show(k:Int)<m.length;omega,by show k<m.length;omega,?_⟩
  show T.wp (T.br (Go.Bl.M.first [Go.Bl.M.unl (!M.has (eS.list k (eS.F l)) (l.getD k .empty)) 5,Go.Bl.M.unl (Go.Bl.M.within (m.getD k 0) 0 10000) 2] != 0) (T.ret (Sum.inr (Sum.inr [zeroR,rI (Go.Bl.M.first [Go.Bl.M.unl (!M.has (eS.list k (eS.F l)) (l.getD k .empty)) 5,Go.Bl.M.unl (Go.Bl.M.within (m.getD k 0) 0 10000) 2])]))) (T.ret (Sum.inl (w64 ((k:Int)+1),z',PUnit.unit,PUnit.unit,PUnit.unit)))) _
  rw[list_take _ hk,two_err]
  generalize M.has (l.take k) (l.getD k .empty)=a at *
  generalize Go.Bl.M.within (m.getD k 0) 0 10000=b at *
  cases a with
  |true=>
   have hs:M.scan l m l.length 0=5:=hs
   rw[hs]at h1
   exact⟨fun _=>h1 (by decide),fun h=>absurd h (by show ¬(((5:Int) != 0)=false);decide)⟩
  |false=>
   cases b with
   |false=>
    have hs:M.scan l m l.length 0=2:=hs
    rw[hs]at h1
    exact⟨fun _=>h1 (by decide),fun h=>absurd h (by decide)⟩
   |true=>
    exact⟨fun h=>absurd h (by decide),fun _=>⟨hk1,hws,hs.symm⟩⟩
 ·have hge:¬(k:Int)<l.length:=of_decide_eq_false hb
  have e:l.length-k=0:=by omega
  rw[e]at hI
  exact⟨Nat.le_refl _,Nat.le_refl _,h0 hI.symm⟩
theorem rec_no{nm:ByteArray}{l:List ByteArray}{m:List Int}(h:Go.Bl.M.isName nm=false):M.recErr nm l m=4:=by unfold M.recErr;rw[h];rfl
theorem rec_yes{nm:ByteArray}{l:List ByteArray}{m:List Int}(h:Go.Bl.M.isName nm=true):M.recErr nm l m=cond (Go.Bl.M.first [Go.Bl.M.unl (!M.bad l) 4,Go.Bl.M.unl (decide ((l.length:Int)≤10)) 8] != 0) (Go.Bl.M.first [Go.Bl.M.unl (!M.bad l) 4,Go.Bl.M.unl (decide ((l.length:Int)≤10)) 8]) (M.scan l m l.length 0):=by
 unfold M.recErr;rw[h]
 cases M.bad l with
 |true=>rfl
 |false=>
  by_cases hl:(l.length:Int)≤10
  ·rw[decide_eq_true hl,decide_eq_false (show ¬(l.length:Int)>10 by omega)];rfl
  ·rw[decide_eq_false hl,decide_eq_true (show(l.length:Int)>10 by omega)];rfl
theorem w8r(s:ByteArray)(hs:s.size≤800000):(tr8r s).wp (fun rs=>rsEqv rs (resP (M.parse s))):=by
 obtain⟨nm,rest,hW⟩:=words_ne s
 have hmany:=words_many s 32
 have hsz:=words_size s 32
 unfold tr8r
 rw[Enc.list_F]
 rw[hW]at hmany hsz ⊢
 have hnm:nm.size≤s.size:=hsz 0 (by simp)
 have hrs:∀w,w∈rest→w.size≤800000:=fun w hw=>by
  obtain⟨k,hk,rfl⟩:=(mem_iff (d:=ByteArray.empty)).1 hw
  have:=hsz (k+1) (by simp only[List.length_cons];omega)
  have this:(rest.getD k .empty).size≤s.size:=this
  omega
 simp only[List.length_cons]at hmany
 have hpos:(0:Int)<((nm::rest).length:Int):=by simp only[List.length_cons];omega
 have wempty:M.wordR ⟨#[]⟩=none:=rfl
 refine⟨by omega,Enc.is_F _ _ _,by simp only[List.length_cons];omega,fun h0=>?_,fun h0=>⟨by decide,hpos,by decide,by show(1:Int)≤((nm::rest).length:Int);omega,Int.le_refl _,?_⟩⟩
 ·cases hd:decide (nm=⟨#[]⟩)with
  |true=>rw[parse_nil hW hd];exact zero_to 7
  |false=>
   have hmem:(⟨#[]⟩:ByteArray)∈nm::rest:=by
    apply Classical.byContradiction
    intro hn
    rw[has_no hn]at h0;cases h0
   rcases List.mem_cons.1 hmem with h|h
   ·rw[decide_eq_true h.symm]at hd;cases hd
   ·rw[parse_bad hW (wordsR_none h wempty)];exact zero_to 7
 ·have hd:decide (nm=⟨#[]⟩)=false:=decide_eq_false fun h=>by
   rw[has_yes (h ▸ List.mem_cons_self ..)]at h0;cases h0
  show T.wp (lpP _ 0 nm _ _ _) _
  refine lpP_wp (rest:=rest) (by decide) (by decide) (by simp only[List.length_cons];omega) (by omega) (fun k hk no next Q' g1 g2=>?_) (fun hr=>?_) (fun hr z Q' hQ=>?_) (fun l m hr z Q' hQ=>?_)
  ·have e:(nm::rest).getD (1+((0:Int)+(k:Int)).toNat) .empty=rest.getD k .empty:=by
    rw[show 1+((0:Int)+(k:Int)).toNat=k+1 by omega];rfl
   show T.wp (rw8 ((nm::rest).getD (1+((0:Int)+(k:Int)).toNat) .empty) no next) Q'
   rw[e]
   have:=hrs _ (mem_getD (d:=ByteArray.empty) hk)
   exact rw8_wp (by omega) g1 g2
  ·rw[parse_bad hW hr];exact zero_to 7
  ·have hr':M.wordsR rest=some ([],[]):=by rw[hr];rfl
   refine⟨fun i j hi=>absurd hi (Nat.not_lt_zero i),Nat.zero_le _,fun x hx=>(by cases hx),fun hn=>⟨by omega,hn,fun h=>absurd h (by decide),fun _=>in0_wp (hQ _ ?_)⟩,fun hn=>⟨by omega,hn,fun _=>hQ _ ?_,fun h=>absurd h (by decide)⟩⟩
   ·have he:M.recErr nm [] []=0:=by rw[rec_yes hn];rfl
    rw[parse_ok hW hd hr' he];exact nil_res nm
   ·have he:M.recErr nm [] []=4:=rec_no hn
    rw[parse_err hW hd hr' (by rw[he];decide)]
    show rsEqv _ (resP (M.recErr nm [] [],_))
    rw[he];exact zero_to 4
  ·have hlen:=wordsR_len hr
   have hlz:=wordsR_size hrs hr
   simp only at hlen hlz
   unfold eY8
   rw[Enc.list_F]
   have errs:∀e:Int,M.recErr nm l m=e→e≠0→Q' (.inr [zeroR,rI e]):=fun e he h0=>hQ _ (by
    subst he
    rw[parse_err (y:=(l,m)) hW hd hr h0];exact zero_to _)
   refine⟨Nat.le_refl _,Enc.is_F _ _ _,by omega,fun x hx=>by have:=hlz x hx;omega,fun hn=>⟨by omega,hn,fun he=>errs _ ?_ ?_,fun he=>in8_wp nm l m z (by omega) (by omega) (fun h0=>hQ _ ?_) (fun h0=>errs _ ?_ h0)⟩,fun hn=>⟨by omega,hn,fun he=>errs _ ?_ ?_,fun he=>?_⟩⟩
   ·rw[rec_yes hn,he];rfl
   ·simpa using he
   ·have he':M.recErr nm l m=0:=by rw[rec_yes hn,he];exact h0
    rw[parse_ok (y:=(l,m)) hW hd hr he'];exact full_res nm l m
   ·rw[rec_yes hn,he];rfl
   ·rw[rec_no hn];rfl
   ·show(4:Int)≠0;decide
   ·exact absurd he (by show ¬(((4:Int) != 0)=false);decide)
def dom8r:DomF
 |[.c (.str s)]=>some ([s.size≤800000],resP (M.parse s))
 |_=>none
def v8r:Nat×Sm:=(8,fokSm dom8r)
theorem C8r:FOK Tryz.prog G0 gw 8 dom8r:=by
 intro ags p r hd hp κ w xs hw hl hG hx
 unfold dom8r at hd
 split at hd
 ·rename_i s
  simp only[Option.some.injEq,Prod.mk.injEq]at hd
  obtain⟨rfl,rfl⟩:=hd
  have heq:agsEqv [.c (.str s)] [.c (.str s)]:=⟨rfl,trivial⟩
  exact fokX_fin mixed gw_stable (sl:=[v24,v34r,v31,v47,v37r,v45,v48,v39r,Go.Bl.v104,Go.Bl.v80,Go.Bl.v64,Go.Bl.v101]) ⟨S24,S34r,S31,S47,S37r,S45,S48,S39r,Go.Bl.S104,Go.Bl.S80,Go.Bl.S64,Go.Bl.S101,trivial⟩ Tryz.func8 hw hl hG hx heq rfl (t8r s) (w8r s hp.1)
 ·cases hd
theorem S8r:SumOK Tryz.prog G0 gw 8 (fokSm dom8r):=fok_sum Tryz.func8 rfl C8r
end Go.Tx
end
section
set_option maxRecDepth 100000
namespace Go.Tx
open Go.Gd
open Go.V Go.Proofs Go.Lib
open Go.RowKit (Below)
theorem scan_zero{cs:List ByteArray}{vs:List Int}:∀{n i:Nat},M.scan cs vs n i=0→∀j,j<n→Go.Bl.M.within (vs.getD (i+j) 0) 0 10000=true
 |0,_,_,j,hj=>by omega
 |n+1,i,h,j,hj=>by
  have h:cond (M.has (cs.take i) (cs.getD i .empty)) 5 (cond (Go.Bl.M.within (vs.getD i 0) 0 10000) (M.scan cs vs n (i+1)) 2)=0:=h
  cases ha:M.has (cs.take i) (cs.getD i .empty)with
  |true=>rw[ha]at h;exact absurd (show(5:Int)=0 from h) (by decide)
  |false=>
   rw[ha]at h
   cases hb:Go.Bl.M.within (vs.getD i 0) 0 10000 with
   |false=>rw[hb]at h;exact absurd (show(2:Int)=0 from h) (by decide)
   |true=>
    rw[hb]at h
    have h:M.scan cs vs n (i+1)=0:=h
    cases j with
    |zero=>exact hb
    |succ j=>
     have:=scan_zero h j (by omega)
     rw[show i+(j+1)=i+1+j by omega]
     exact this
theorem rec_zero{nm:ByteArray}{cs:List ByteArray}{vs:List Int}(h:M.recErr nm cs vs=0):Go.Bl.M.isName nm=true∧(∀c,c∈cs→Go.Bl.M.isName c=true)∧∀j,j<cs.length→Go.Bl.M.within (vs.getD j 0) 0 10000=true:=by
 cases hn:Go.Bl.M.isName nm with
 |false=>rw[rec_no hn]at h;exact absurd h (by decide)
 |true=>
  have h:cond (Go.Bl.M.isName nm) (cond (M.bad cs) 4 (cond (decide ((cs.length:Int)>10)) 8 (M.scan cs vs cs.length 0))) 4=0:=h
  rw[hn]at h
  have h:cond (M.bad cs) 4 (cond (decide ((cs.length:Int)>10)) 8 (M.scan cs vs cs.length 0))=0:=h
  cases hb:M.bad cs with
  |true=>rw[hb]at h;exact absurd (show(4:Int)=0 from h) (by decide)
  |false=>
   rw[hb]at h
   have h:cond (decide ((cs.length:Int)>10)) 8 (M.scan cs vs cs.length 0)=0:=h
   cases hl:decide ((cs.length:Int)>10)with
   |true=>rw[hl]at h;exact absurd (show(8:Int)=0 from h) (by decide)
   |false=>
    rw[hl]at h
    have h:M.scan cs vs cs.length 0=0:=h
    refine⟨rfl,fun c hc=>?_,fun j hj=>?_⟩
    ·cases e:Go.Bl.M.isName c with
     |true=>rfl
     |false=>rw[bad_yes hc e]at hb;cases hb
    ·have:=scan_zero h j hj
     rw[Nat.zero_add]at this
     exact this
theorem name_bytes{s:ByteArray}(h:Go.Bl.M.isName s=true):1≤s.size∧s.size≤12∧(32:UInt8)∉lA s∧(61:UInt8)∉lA s:=by
 obtain⟨h1,h2,h3⟩:=of_decide_eq_true h
 have key:∀b:UInt8,b∈lA s→b.toNat≠32∧b.toNat≠61:=by
  intro b hb
  obtain⟨k,hk,e⟩:=List.getElem_of_mem hb
  have hs:(lA s).length=s.size:=lA_size s
  have ho:=h3 k (by omega)
  have hv:byteAt s (k:Int)=(b.toNat:Int):=by
   rw[byteAt_eq,List.getD_eq_getElem?_getD,List.getElem?_eq_getElem hk,e];rfl
  rw[hv]at ho
  unfold Go.Bl.M.OkB at ho
  omega
 exact⟨h1,h2,fun hm=>(key _ hm).1 rfl,fun hm=>(key _ hm).2 rfl⟩
theorem number6{n:Int}(h0:0≤n)(h1:n<1000000):M.number (bA (itoa n)) 6=some n:=by
 have e:itoa n=decDigits n.toNat:=by unfold itoa;rw[if_neg (by omega)]
 have hl:(trimPrefix (itoa n) [45]).length≤6:=by
  have h9:(itoa n).length≤6:=by rw[e,decDigits_length];exact nDigits_le 6 _ (by decide) (by omega)
  unfold trimPrefix
  split
  ·rw[List.length_drop];omega
  ·exact h9
 show numL 6 (lA (bA (itoa n)))=_
 rw[lA_bA]
 exact numL_itoa hl
theorem lA_word(c:ByteArray)(v:Int):lA (M.word c v)=lA c++61::itoa v:=by
 unfold M.word M.decimal
 rw[lA_cat,lA_cat,lA_bA,List.append_assoc]
 rfl
theorem word_space{c:ByteArray}{v:Int}(hc:(32:UInt8)∉lA c):(32:UInt8)∉lA (M.word c v):=by
 rw[lA_word]
 intro h
 rcases List.mem_append.1 h with h|h
 ·exact hc h
 ·rcases List.mem_cons.1 h with h|h
  ·exact absurd h (by decide)
  ·exact not_itoa (c:=32) (by decide) (by decide) v h
theorem wordR_word{c:ByteArray}{v:Int}(hc:(61:UInt8)∉lA c)(h0:1≤c.size)(h1:0≤v)(h2:v<1000000):M.wordR (M.word c v)=some (c,v):=by
 have e61:UInt8.ofNat (61:Int).toNat=61:=rfl
 have hw:M.words (M.word c v) 61=[c,bA (itoa v)]:=by
  unfold M.words
  rw[e61,lA_word,cutL_piece _ _ hc,cutL_last _ (not_itoa (c:=61) (by decide) (by decide) v)]
  show[bA (lA c),bA (itoa v)]=_
  rw[bA_lA]
 have hd:decide (c=⟨#[]⟩)=false:=decide_eq_false fun h=>by
  subst h
  have:(⟨#[]⟩:ByteArray).size=0:=rfl
  omega
 rw[wordR_two hw,hd,number6 h1 h2]
 rfl
theorem wordsR_pairs:∀(cs:List ByteArray) (vs:List Int),cs.length=vs.length→(∀c,c∈cs→Go.Bl.M.isName c=true)→(∀j,j<cs.length→Go.Bl.M.within (vs.getD j 0) 0 10000=true)→M.wordsR (M.pairs cs vs)=some (cs,vs)
 |[],[],_,_,_=>rfl
 |[],v::vs,h,_,_=>by simp at h
 |c::cs,[],h,_,_=>by simp at h
 |c::cs,v::vs,h,hc,hv=>by
  have ih:=wordsR_pairs cs vs (by simpa using h) (fun d hd=>hc d (List.mem_cons_of_mem _ hd)) (fun j hj=>hv (j+1) (by simp only[List.length_cons];omega))
  have hn:=name_bytes (hc c (List.mem_cons_self ..))
  have hw:Go.Bl.M.within v 0 10000=true:=hv 0 (by simp)
  unfold Go.Bl.M.within at hw
  rw[Bool.and_eq_true]at hw
  have w1:=of_decide_eq_true hw.1
  have w2:=of_decide_eq_true hw.2
  show(match M.wordR (M.word c v),M.wordsR (M.pairs cs vs)with|some x,some y=>some (x.1::y.1,x.2::y.2)|_,_=>none)=_
  rw[ih,wordR_word hn.2.2.2 hn.1 w1 (by omega)]
theorem words_fmt{nm:ByteArray}{cs:List ByteArray}{vs:List Int}(hn:(32:UInt8)∉lA nm)(hp:∀p,p∈M.pairs cs vs→(32:UInt8)∉lA p):M.words (M.fmt nm cs vs) 32=nm::M.pairs cs vs:=by
 have e32:UInt8.ofNat (32:Int).toNat=32:=rfl
 have esp:lA sp=[32]:=rfl
 unfold M.words M.fmt M.join
 rw[e32,lA_bA,esp,cut_join 32 _ (by simp) ?_]
 ·rw[List.map_map]
  refine List.map_id'' (fun x=>?_) _
  exact bA_lA x
 ·intro p hp'
  obtain⟨q,hq,rfl⟩:=List.mem_map.1 hp'
  rcases List.mem_cons.1 hq with rfl|hq
  ·exact hn
  ·exact hp q hq
theorem parse_fmt{nm:ByteArray}{cs:List ByteArray}{vs:List Int}(hl:cs.length=vs.length)(h:M.recErr nm cs vs=0):M.parse (M.fmt nm cs vs)=(0,nm,cs,vs):=by
 obtain⟨h1,h2,h3⟩:=rec_zero h
 have hn:=name_bytes h1
 have hw:M.words (M.fmt nm cs vs) 32=nm::M.pairs cs vs:=by
  refine words_fmt hn.2.2.1 fun p hp=>?_
  obtain⟨k,hk,rfl⟩:=(mem_iff (d:=ByteArray.empty)).1 hp
  rw[pairs_len]at hk
  rw[pairs_get (by omega) (by omega)]
  exact word_space (name_bytes (h2 _ (mem_getD (by omega)))).2.2.1
 have hd:decide (nm=⟨#[]⟩)=false:=decide_eq_false fun e=>by
  subst e
  have:(⟨#[]⟩:ByteArray).size=0:=rfl
  omega
 exact parse_ok (y:=(cs,vs)) hw hd (wordsR_pairs cs vs hl h2 h3) h
theorem parse_len(s:ByteArray):(M.parse s).2.2.1.length≤s.size+1∧(M.parse s).2.2.2.length≤s.size+1:=by
 obtain⟨nm,rest,hW⟩:=words_ne s
 have hmany:=words_many s 32
 rw[hW]at hmany
 simp only[List.length_cons]at hmany
 have zero:∀e:Int,M.parse s=(e,⟨#[]⟩,[],[])→(M.parse s).2.2.1.length≤s.size+1∧(M.parse s).2.2.2.length≤s.size+1:=fun e h=>by
  rw[h];exact⟨Nat.zero_le _,Nat.zero_le _⟩
 cases hd:decide (nm=⟨#[]⟩)with
 |true=>exact zero _ (parse_nil hW hd)
 |false=>
  cases hr:M.wordsR rest with
  |none=>exact zero _ (parse_bad hW hr)
  |some y=>
   by_cases he:M.recErr nm y.1 y.2=0
   ·rw[parse_ok hW hd hr he]
    have:=wordsR_len hr
    exact⟨by show y.1.length≤_;omega,by show y.2.length≤_;omega⟩
   ·exact zero _ (parse_err hW hd hr he)
end Go.Tx
end
section
set_option maxRecDepth 100000
namespace Go.Tx
open Go.Gd
open Go.V Go.Proofs Go.Lib
open Go.RowKit (Below)
abbrev cS(l:List ByteArray):List ByteArray:=eS.list l.length (eS.F l)
abbrev cI(l:List Int):List Int:=eI.list l.length (eI.F l)
abbrev R3:Type:=(Int×PUnit.{1}) ⊕ List Ar
def no3:T R3:=.ret (.inr [rB false])
def yes3:T R3:=.ret (.inr [rB true])
def rest3(nm:ByteArray)(cs:List ByteArray)(vs:List Int)(s:ByteArray):T R3:=
 T.needs [eS.Is cs.length (eS.F cs),eI.Is vs.length (eI.F vs),(cS cs).length≤1000000,(cI vs).length≤1000000,eS.Is (cS cs).length (eS.F (cS cs)),eI.Is (cI vs).length (eI.F (cI vs)),FmtOK nm (cS (cS cs)) (cI (cI vs)),s.size≤800000,s.size≤800000,eS.Is cs.length (eS.F cs),eI.Is vs.length (eI.F vs),FmtOK nm (cS cs) (cI vs)]
 (.br (!(M.fmt nm (cS (cS cs)) (cI (cI vs))).toList==(M.fmt nm (cS cs) (cI vs)).toList) no3 (.br ((M.parse s).1 != (M.parse s).1) no3
  (T.needs [eS.Is (M.parse s).2.2.1.length (eS.F (M.parse s).2.2.1),eI.Is (M.parse s).2.2.2.length (eI.F (M.parse s).2.2.2),eS.Is (M.parse s).2.2.1.length (eS.F (M.parse s).2.2.1),eI.Is (M.parse s).2.2.2.length (eI.F (M.parse s).2.2.2),(cS (M.parse s).2.2.1).length≤1000000,(cI (M.parse s).2.2.2).length≤1000000]
  (.br (!M.same (M.parse s).2.1 (cS (M.parse s).2.2.1) (cI (M.parse s).2.2.2) (M.parse s).2.1 (cS (M.parse s).2.2.1) (cI (M.parse s).2.2.2)) no3 (T.needs [(M.fmt nm (cS (cS cs)) (cI (cI vs))).size≤800000]
  (.br ((cs.length:Int) != (vs.length:Int)) yes3 (T.needs [eS.Is cs.length (eS.F cs),eI.Is vs.length (eI.F vs),(cS cs).length≤1000000,(cS cs).length≤(cI vs).length,nm.size≤1000000,∀x,x∈cS cs→x.size≤1000000]
  (.br (M.recErr nm (cS cs) (cI vs) != 0) yes3 (.br ((M.parse (M.fmt nm (cS (cS cs)) (cI (cI vs)))).1==0) (T.needs [eS.Is (M.parse (M.fmt nm (cS (cS cs)) (cI (cI vs)))).2.2.1.length (eS.F (M.parse (M.fmt nm (cS (cS cs)) (cI (cI vs)))).2.2.1),eI.Is (M.parse (M.fmt nm (cS (cS cs)) (cI (cI vs)))).2.2.2.length (eI.F (M.parse (M.fmt nm (cS (cS cs)) (cI (cI vs)))).2.2.2),eS.Is cs.length (eS.F cs),eI.Is vs.length (eI.F vs),(cS (M.parse (M.fmt nm (cS (cS cs)) (cI (cI vs)))).2.2.1).length≤1000000,(cI (M.parse (M.fmt nm (cS (cS cs)) (cI (cI vs)))).2.2.2).length≤1000000] (.ret (.inr [rB (M.same (M.parse (M.fmt nm (cS (cS cs)) (cI (cI vs)))).2.1 (cS (M.parse (M.fmt nm (cS (cS cs)) (cI (cI vs)))).2.2.1) (cI (M.parse (M.fmt nm (cS (cS cs)) (cI (cI vs)))).2.2.2) nm (cS cs) (cI vs))]))) no3)))))))))
def tr3r(nm:ByteArray)(cs:List ByteArray)(vs:List Int)(s:ByteArray):T (List Ar):=.br (!true) (.ret [rB false]) (.br (decide ((nm.size:Int)>20)) (.ret [rB true]) (.br (decide ((cs.length:Int)>12)) (.ret [rB true]) (.br (decide ((vs.length:Int)>12)) (.ret [rB true]) (.br (decide ((s.size:Int)>300)) (.ret [rB true])
 (.loop (Int×PUnit.{1}) ((0:Int),PUnit.unit) fun x=>.br (decide (x.1<(cs.length:Int))) (T.needs [0≤x.1,x.1<(cs.length:Int)] (.br (decide (((cs.getD x.1.toNat .empty).size:Int)>20)) (.ret (.inr [rB true])) (.ret (.inl (w64 (x.1+1),PUnit.unit))))) (rest3 nm cs vs s))))))
theorem t3r(nm:ByteArray)(q_cs:Bool)(cs:List ByteArray)(q_vs:Bool)(vs:List Int)(s:ByteArray):runFnX Tryz.prog G0 (lookS [(5,fokSm Go.Bl.dom18),v7r,v6r,v8r,v9r,v10r,v11r,v12r]) (fun _=>[(6,[.slot 5 (.int .i64)],none)]) [] 0 60 3 3 Tryz.f3 [.agg [.str nm,.sl q_cs cs.length 1 (eS.F cs),.sl q_vs vs.length 1 (eI.F vs)],.c (.str s)]=tr3r nm cs vs s:=by kernel_rfl
theorem same_refl(nm:ByteArray)(cs:List ByteArray)(vs:List Int):M.same nm cs vs nm cs vs=true:=by
 unfold M.same M.eqS M.eqI
 rw[decide_eq_true rfl,decide_eq_true rfl,decide_eq_true rfl];rfl
theorem fmt_le{nm:ByteArray}{cs:List ByteArray}{vs:List Int}(h:FmtOK nm cs vs):(M.fmt nm cs vs).size≤800000:=by
 have hk:=fmt_size h (M.pairs cs vs).length (Nat.le_refl _)
 rw[List.take_length]at hk
 have hL:=pairs_len cs vs
 have hl:=h.len
 show(M.join (nm::M.pairs cs vs) sp).size≤_
 omega
theorem cS_eq(l:List ByteArray):cS l=l:=Enc.list_F eS l
theorem cI_eq(l:List Int):cI l=l:=Enc.list_F eI l
theorem rest3_wp(nm:ByteArray)(cs:List ByteArray)(vs:List Int)(s:ByteArray)(h:FmtOK nm cs vs)(hv:vs.length≤12)(hs:s.size≤300){Q:R3→Prop}(hQ:Q (.inr [rB true])):(rest3 nm cs vs s).wp Q:=by
 have hl:=h.len
 have hn:=h.nm
 have hp:=parse_len s
 unfold rest3
 rw[cS_eq,cI_eq,cS_eq cs,cI_eq vs,cS_eq,cI_eq,cS_eq,cI_eq]
 refine⟨Enc.is_F _ _ _,Enc.is_F _ _ _,by omega,by omega,Enc.is_F _ _ _,Enc.is_F _ _ _,h,by omega,by omega,Enc.is_F _ _ _,Enc.is_F _ _ _,h,fun hb=>?_,fun _=>⟨fun hb=>?_,fun _=>⟨Enc.is_F _ _ _,Enc.is_F _ _ _,Enc.is_F _ _ _,Enc.is_F _ _ _,by omega,by omega,fun hb=>?_,fun _=>⟨fmt_le h,fun _=>hQ,fun he=>?_⟩⟩⟩⟩
 ·simp at hb
 ·simp at hb
 ·rw[same_refl]at hb;cases hb
 ·have he:cs.length=vs.length:=by simp at he;omega
  refine⟨Enc.is_F _ _ _,Enc.is_F _ _ _,by omega,by omega,by omega,fun x hx=>by have:=h.cs x hx;omega,fun _=>hQ,fun hr=>?_⟩
  have hr:M.recErr nm cs vs=0:=by simpa using hr
  rw[parse_fmt he hr]
  refine⟨fun _=>⟨Enc.is_F _ _ _,Enc.is_F _ _ _,Enc.is_F _ _ _,Enc.is_F _ _ _,by show cs.length≤_;omega,by show vs.length≤_;omega,?_⟩,fun hb=>absurd hb (by show ¬(((0:Int)==0)=false);decide)⟩
  show Q (.inr [rB (M.same nm cs vs nm cs vs)])
  rw[same_refl];exact hQ
theorem w3r(nm:ByteArray)(cs:List ByteArray)(vs:List Int)(s:ByteArray)(hvs:∀v,v∈vs→inI v):(tr3r nm cs vs s).wp (fun rs=>rsEqv rs [rB true]):=by
 refine⟨fun h=>(by cases h),fun _=>⟨fun _=>rsEqv_refl _,fun h1=>⟨fun _=>rsEqv_refl _,fun h2=>⟨fun _=>rsEqv_refl _,fun h3=>⟨fun _=>rsEqv_refl _,fun h4=>?_⟩⟩⟩⟩⟩
 have h1:¬(nm.size:Int)>20:=of_decide_eq_false h1
 have h2:¬(cs.length:Int)>12:=of_decide_eq_false h2
 have h3:¬(vs.length:Int)>12:=of_decide_eq_false h3
 have h4:¬(s.size:Int)>300:=of_decide_eq_false h4
 refine Go.Bl.range_wp (n:=cs.length) (fun k _=>∀j,j<k→(cs.getD j .empty).size≤20) (fun j hj=>by omega) ?_
 rintro k u hk hI
 refine⟨fun hb=>?_,fun hb=>?_⟩
 ·have hlt:(k:Int)<cs.length:=of_decide_eq_true hb
  refine⟨by show(0:Int)≤k;omega,hlt,fun _=>rsEqv_refl _,fun he=>?_⟩
  have he:¬((cs.getD k .empty).size:Int)>20:=of_decide_eq_false he
  refine⟨by omega,by show w64 ((k:Int)+1)=_;rw[w64_id (by omega) (by omega)];omega,fun j hj=>?_⟩
  rcases Nat.lt_or_ge j k with h|h
  ·exact hI j h
  ·obtain rfl:j=k:=by omega
   omega
 ·have hge:¬(k:Int)<cs.length:=of_decide_eq_false hb
  refine rest3_wp nm cs vs s ⟨by omega,by omega,fun c hc=>?_,hvs⟩ (by omega) (by omega) (rsEqv_refl _)
  obtain⟨j,hj,rfl⟩:=(mem_iff (d:=ByteArray.empty)).1 hc
  exact hI j (by omega)
def dom3r:DomF
 |[.agg [.str nm,.sl q_cs n_cs st_cs F_cs,.sl q_vs n_vs st_vs F_vs],.c (.str s)]=>(match (Nat.beq st_cs 1||Nat.beq n_cs 0)&&(Nat.beq st_vs 1||Nat.beq n_vs 0)with
  |true=>some ([eS.Is n_cs F_cs,eI.Is n_vs F_vs,∀v,v∈(eI.list n_vs F_vs)→inI v],[rB true])
  |_=>none)
 |_=>none
theorem C3r:FOK Tryz.prog G0 gw 3 dom3r:=by
 intro ags p r hd hp κ w xs hw hl hG hx
 unfold dom3r at hd
 split at hd
 ·rename_i nm q_cs n_cs st_cs F_cs q_vs n_vs st_vs F_vs s
  split at hd
  ·rename_i hst
   rw[Bool.and_eq_true]at hst
   obtain⟨gz_cs,gz_vs⟩:=hst
   simp only[Option.some.injEq,Prod.mk.injEq]at hd
   obtain⟨rfl,rfl⟩:=hd
   obtain⟨hI_cs,hI_vs,hp⟩:=hp
   have heq:agsEqv [.agg [.str nm,.sl q_cs n_cs st_cs F_cs,.sl q_vs n_vs st_vs F_vs],.c (.str s)] [.agg [.str nm,.sl q_cs (eS.list n_cs F_cs).length 1 (eS.F (eS.list n_cs F_cs)),.sl q_vs (eI.list n_vs F_vs).length 1 (eI.F (eI.list n_vs F_vs))],.c (.str s)]:=⟨⟨rfl,to0 eS rfl gz_cs hI_cs,to0 eI rfl gz_vs hI_vs,trivial⟩,rfl,trivial⟩
   generalize eS.list n_cs F_cs=cs at *
   generalize eI.list n_vs F_vs=vs at *
   exact fokX_fin mixed gw_stable (sl:=[(5,fokSm Go.Bl.dom18),v7r,v6r,v8r,v9r,v10r,v11r,v12r]) ⟨Go.Bl.S18,S7r,S6r,S8r,S9r,S10r,S11r,S12r,trivial⟩ Tryz.func3 hw hl hG hx heq rfl (t3r nm q_cs cs q_vs vs s) (w3r nm cs vs s hp.1)
  ·cases hd
 ·cases hd
end Go.Tx
end
section
namespace Go.Rw
open Go Go.ChangeShapes Go.WideShapes Go.RowKit Go.ChangeAt
open Go.V (F2 D fullK fullK_cell f2_append f2_len f2_get)
section
variable {H : Type} {enc : TypeId × Value → H} {P : Program} {w : World} {base : Nat} {sp : Nat → Bool} {hd : Bool}
theorem trodAll_below(hl:laidOutB P=true){W W':World}(hb:Below W.heap.size W W'):∀{ts:List TypeId} {vs:List Value} {ds:List (DataW H)} {ps:List MemPlace},
  (∀t∈ts,P.readableRec t=true∧t<P.types.size)→DataW.TrodAll enc P W 0 (fun _=>true) true ts vs ds ps→(∀x∈ps,x.block<W.heap.size) →
  DataW.TrodAll enc P W' 0 (fun b=>decide (b<W.heap.size)) true ts vs ds ps
 |[],_,_,_,_,h,_=>by
  obtain⟨rfl,rfl,rfl⟩:=trodAll_nil h
  exact trodAll_mk0
 |t::ts,_,_,_,hr,h,hlt=>by
  obtain⟨v,vs1,d,ds1,a,b,rfl,rfl,rfl,h1,h2⟩:=trodAll_cons h
  refine⟨a,b,?_,trodAll_below hl hb (fun u hu=>hr u (List.mem_cons_of_mem _ hu)) h2 fun x hx=>hlt x (List.mem_append_right _ hx),rfl⟩
  have ht:=hr t (List.mem_cons_self ..)
  exact Below.trod hl ht.1 ht.2 h1 hb fun x hx=>hlt x (List.mem_append_left _ hx)
theorem law_post{fn:Func}{s:ChangeSpec}{apart fresh handsOn:Bool}{W W':World}{args:Array Value}{ds gs:List (DataW H)}{before:List MemPlace}{tb:TypeId}(hl:laidOutB P=true)
  (hr:∀t∈fn.params.toList,P.readableRec t=true∧t<P.types.size) (hv:s.vars=[]) (hrt:fn.resultTypes= #[tb]) (hbool:P.underlying tb=some .bool)
  (hfn:s.fn H ds={results:=[.lit (.bool true)],args:=ds})
  (hW:DataW.Whole enc P fn.params.toList s.vars apart W args.toList ds gs before) (hb:Below W.heap.size W W'):s.post enc P fn apart fresh handsOn false W args (.bool true) W':=by
 have hW':=hW
 obtain⟨p,q,hA,hV,rfl,_,_⟩:=hW'
 have hlt:∀x∈p++q,x.block<W.heap.size:=fun x hx=>hW.lt x hx
 rw[hv]at hV
 have hgs:gs=[]∧q=[]:=by
  cases gs with
  |nil=>exact⟨rfl,hV⟩
  |cons g r=>exact absurd hV (by intro h;cases h)
 obtain⟨rfl,rfl⟩:=hgs
 have e:s.fn H (ds++ [])={results:=[.lit (.bool true)],args:=ds}:=by rw[List.append_nil];exact hfn
 refine⟨ds,[],_,[],p,[],hW,?_,?_,?_,hb.frame _,fun h=>by cases h⟩
 ·rw[e,hrt]
  exact trodAll_mk1 (shut_bool hbool true)
 ·rw[e]
  exact trodAll_below hl hb hr hA fun x hx=>hlt x (List.mem_append_left _ hx)
 ·rw[e,hv]
  rfl
end
end Go.Rw
end
section
namespace Go.Rw
open Go Go.ChangeShapes Go.WideShapes Go.RowKit Go.ChangeAt
open Go.V (F2 D fullK fullK_cell f2_append f2_len f2_get)
inductive SK where
 |i
 |s
 |sl (sh:List SK)
theorem wf_i64{n:Int}(h:(Lit.int .i64 n).wf=true): -9223372036854775808≤n∧n≤9223372036854775807:=by
 unfold Lit.wf at h
 rw[Bool.and_eq_true]at h
 have h1:IntKind.i64.min≤n:=of_decide_eq_true h.1
 have h2:n≤IntKind.i64.max:=of_decide_eq_true h.2
 rw[show IntKind.i64.min= -9223372036854775808 by decide]at h1
 rw[show IntKind.i64.max=9223372036854775807 by decide]at h2
 exact⟨h1,h2⟩
inductive DG:SK→D→Prop where
 |i (n:Int) (h: -9223372036854775808≤n∧n≤9223372036854775807):DG .i (.int .i64 n)
 |s (t:ByteArray):DG .s (.str t)
 |sl (sh:List SK) (len:Nat) (F:Nat→Nat→D) (h:∀i j k,i<len→sh[j]? = some k→DG k (F i j)):DG (.sl sh) (.sl false len sh.length F)
def MG(w:World)(k:SK)(v:Value):Prop:=∃d,DG k d∧D.rel (fullK w) d v
def sgFs(P:Program)(g:TypeId→Option (List SK)):List Field→Nat→Nat→Option (List SK)
 |[],o,c=>(match Nat.beq o c with|true=>some []|false=>none)
 |f::fs,o,c=>(match Nat.beq f.offset o,g f.type,sgFs P g fs (o+P.cellsOf f.type) c with
  |true,some a,some b=>some (a++b)
  |_,_,_=>none)
def sgArr(l:List SK):Nat→List SK
 |0=>[]
 |n+1=>l++sgArr l n
def sg(P:Program):Nat→TypeId→Option (List SK)
 |0,_=>none
 |k+1,t=>match P.underlying t with
  |some (.int .i64)=>some [.i]
  |some .string=>some [.s]
  |some (.struct fs)=>sgFs P (sg P k) fs.toList 0 (P.cellsOf t)
  |some (.array n e)=>(match sg P k e,Nat.beq (P.cellsOf t) (n*P.cellsOf e)with|some l,true=>some (sgArr l n)|_,_=>none)
  |some (.slice e)=>(match sg P k e with|some sh=>(match Nat.beq (P.cellsOf e) sh.length&&Nat.blt 0 sh.length with|true=>some [.sl sh]|false=>none)|none=>none)
  |_=>none
section
variable {H : Type} {enc : TypeId × Value → H} {P : Program} {w : World} {base : Nat} {sp : Nat → Bool} {hd : Bool}
theorem sgFs_spec{R:SK→Value→Prop}{g:TypeId→Option (List SK)}:∀(fs:List Field) (o c:Nat) (cs:List Value) {l:List SK},sgFs P g fs o c=some l→cs.length=c →
  (∀f∈fs,∀l',g f.type=some l'→F2 R l' ((cs.drop f.offset).take (P.cellsOf f.type)))→F2 R l (cs.drop o)
 |[],o,c,cs,l,h,hl,_=>by
  unfold sgFs at h
  split at h
  ·rename_i hb
   have:o=c:=Nat.eq_of_beq_eq_true hb
   simp only[Option.some.injEq]at h
   subst h
   rw[this,←hl,List.drop_length]
   exact .nil
  ·cases h
 |f::fs,o,c,cs,l,h,hl,hf=>by
  simp only[sgFs]at h
  split at h
  ·rename_i a b hb ha hrest
   have ho:f.offset=o:=Nat.eq_of_beq_eq_true hb
   simp only[Option.some.injEq]at h
   subst h
   have h1:=hf f (List.mem_cons_self ..) a ha
   have h2:=sgFs_spec fs _ c cs hrest hl fun g hg=>hf g (List.mem_cons_of_mem _ hg)
   rw[ho]at h1
   have e:cs.drop o=(cs.drop o).take (P.cellsOf f.type)++(cs.drop o).drop (P.cellsOf f.type):=(List.take_append_drop _ _).symm
   rw[e,List.drop_drop]
   exact f2_append h1 h2
  ·cases h
theorem sgArr_spec{R:SK→Value→Prop}{l:List SK}{c:Nat}:∀(n:Nat) (cs:List Value),cs.length=n*c→(∀i,i<n→F2 R l ((cs.drop (i*c)).take c))→F2 R (sgArr l n) cs
 |0,cs,h,_=>by
  have:cs=[]:=List.length_eq_zero_iff.1 (by simpa using h)
  subst this
  exact .nil
 |n+1,cs,h,hf=>by
  have h0:=hf 0 (by omega)
  rw[Nat.zero_mul,List.drop_zero]at h0
  have hr:=sgArr_spec (c:=c) n (cs.drop c) (by rw[List.length_drop,h,Nat.succ_mul];omega) fun i hi=>by
   have:=hf (i+1) (by omega)
   rw[List.drop_drop,show c+i*c=(i+1)*c by rw[Nat.succ_mul];omega]
   exact this
  rw[←List.take_append_drop c cs]
  exact f2_append h0 hr
theorem trod_sg:∀(k fuel:Nat) (t:TypeId) (cs:List Value) (x:DataW H×List MemPlace) {l:List SK},sg P k t=some l→DataW.trod enc P w base sp hd fuel t cs=some x→F2 (MG w) l cs
 |0,_,_,_,_,_,h,_=>by cases h
 |k+1,fuel,t,cs,x,l,h,hx=>by
  unfold sg at h
  split at h
  ·rename_i ht
   simp only[Option.some.injEq]at h
   subst h
   obtain⟨n,rfl,rfl,hwf⟩:=DataW.trod_int ht hx
   exact .cons ⟨.int .i64 n,.i n (wf_i64 hwf),rfl⟩ .nil
  ·rename_i ht
   simp only[Option.some.injEq]at h
   subst h
   obtain⟨s,rfl,rfl,_⟩:=DataW.trod_string ht hx
   exact .cons ⟨.str s,.s s,rfl⟩ .nil
  ·rename_i fs ht
   obtain⟨xs,n,_,rfl,hl,hlen,hf⟩:=DataW.trod_struct ht hx
   have:=sgFs_spec (P:=P) (R:=MG w) fs.toList 0 (P.cellsOf t) cs h hl (by
    intro f hm l' hl'
    obtain⟨i,hi,hi'⟩:=List.getElem_of_mem hm
    have hgi:fs[i]? = some f:=by rw[←Array.getElem?_toList,List.getElem?_eq_getElem hi,hi']
    have hlt:i<xs.length:=by rw[hlen];exact(Array.getElem?_eq_some_iff.1 hgi).1
    have hy:xs[i]? = some xs[i]:=List.getElem?_eq_getElem hlt
    have:=hf i f hgi
    rw[hy]at this
    exact trod_sg k n f.type _ _ hl' this)
   simpa using this
  ·rename_i n e ht
   split at h
   ·rename_i l' hl' hcb
    simp only[Option.some.injEq]at h
    subst h
    obtain⟨xs,m,_,ex,hlen,hl,hel⟩:=DataW.trod_array ht hx
    have hcz:P.cellsOf t=n*P.cellsOf e:=Nat.eq_of_beq_eq_true hcb
    refine sgArr_spec (c:=P.cellsOf e) n cs (by rw[←hcz];exact hlen) fun i hi=>?_
    have hlt:i<xs.length:=by omega
    have hy:xs[i]? = some xs[i]:=List.getElem?_eq_getElem hlt
    have:=hel i hi
    rw[hy]at this
    exact trod_sg k m e _ _ hl' this
   ·cases h
  ·rename_i e ht
   split at h
   ·rename_i sh hsh
    split at h
    ·rename_i hc
     simp only[Option.some.injEq]at h
     subst h
     rw[Bool.and_eq_true]at hc
     have hn:P.cellsOf e=sh.length:=Nat.eq_of_beq_eq_true hc.1
     have hn0:0<sh.length:=Nat.le_of_ble_eq_true hc.2
     rcases DataW.trod_slice ht hx with⟨h1,_⟩|⟨a,len0,cap0,elems,rest,n',_,h1,_,_,hlc,_,hel,hget,_⟩
     ·rw[h1]
      exact .cons ⟨.sl false 0 sh.length (fun _ _=>.nilp),.sl sh 0 _ (fun i j k hi=>by omega),.inl ⟨rfl,rfl,rfl⟩⟩ .nil
     ·rw[h1]
      rw[hn]at hget
      have each:∀i,i<len0→∀j,j<sh.length→∃d,(∀k',sh[j]? = some k'→DG k' d)∧∃y,w.cell? ((a.add (i*sh.length)).add j)=some y∧D.rel (fullK w) d y:=by
       intro i hi j hj
       have hg:=hget i hi
       have hlt:i<elems.length:=by omega
       rw[List.getElem?_eq_getElem hlt]at hg
       simp only[Option.bind_eq_some_iff]at hg
       obtain⟨cs,hcs,hx⟩:=hg
       have hF:=trod_sg k n' e cs _ hsh hx
       obtain⟨_,hl,hcell⟩:=World.cells?_some hcs
       obtain⟨y,hy,hm⟩:=f2_get hF (i:=j) (List.getElem?_eq_getElem hj)
       obtain⟨d,hd1,hd2⟩:=hm
       have hcj:=hcell j hj
       exact⟨d,fun k' hk'=>by rw[List.getElem?_eq_getElem hj]at hk';cases hk';exact hd1,y,by rw[hcj,hy],hd2⟩
      have spot0:0<len0→a.spot=none:=by
       intro hp
       obtain⟨_,_,y,hy,_⟩:=each 0 hp 0 hn0
       have:=World.cell?_spot hy
       simpa[Addr.add]using this
      refine .cons ⟨.sl false len0 sh.length (fun i j=>if h:i<len0∧j<sh.length then Classical.choose (each i h.1 j h.2)else .nilp),.sl sh len0 _ (fun i j k' hi hk'=>?_),.inr ⟨a,cap0,rfl,hlc,spot0,fun i j hi hj=>?_⟩⟩ .nil
      ·have hj:j<sh.length:=(List.getElem?_eq_some_iff.1 hk').1
       simp only[dif_pos (And.intro hi hj)]
       exact(Classical.choose_spec (each i hi j hj)).1 k' hk'
      ·obtain⟨_,y,hy,hr⟩:=Classical.choose_spec (each i hi j hj)
       have hp:a.spot=none:=spot0 (by omega)
       have e1:(a.add (i*sh.length)).add j=⟨a.block,a.off+i*sh.length+j,none⟩:=by
        obtain⟨b,off,spot⟩:=a
        simp only at hp
        subst hp
        rw[Go.WideShapes.add_plain,Go.WideShapes.add_plain]
       rw[e1]at hy
       refine⟨_,fullK_cell hy,?_⟩
       simp only[dif_pos (And.intro hi hj)]
       exact hr
    ·cases h
   ·cases h
  ·cases h
theorem open_st{r:Reach}{b0:Nat}{t:TypeId}{fs:Array Field}{v:Value}{d:DataW H}{p:List MemPlace}(k:Nat){l:List SK}(ht:P.underlying t=some (.struct fs))(ha:sg P k t=some l)
  (hv:Value.okWide P w r b0 t v) (h:DataW.Trod enc P w base sp hd t v d p):∃cs:List Value,F2 (MG w) l cs∧v=.agg cs.toArray:=by
 obtain⟨cs,rfl,hsz⟩:=okWide_struct ht hv
 obtain⟨fuel,hf⟩:=h
 have hF:F2 (MG w) l cs.toList:=trod_sg k fuel t _ _ ha hf
 exact⟨cs.toList,hF,by rw[Array.toArray_toList]⟩
theorem mg_sl{sh:List SK}{v:Value}(h:MG w (.sl sh) v):∃(len:Nat) (F:Nat→Nat→D),(D.sl false len sh.length F).rel (fullK w) v∧∀i j k,i<len→sh[j]? = some k→DG k (F i j):=by
 obtain⟨d,hd,hr⟩:=h
 cases hd with
 |sl _ len F hF=>exact⟨len,F,hr,hF⟩
theorem dg_i{d:D}(h:DG .i d):∃n,d=.int .i64 n∧ -9223372036854775808≤n∧n≤9223372036854775807:=by cases h with|i n hn=>exact⟨n,rfl,hn⟩
theorem dg_s{d:D}(h:DG .s d):∃n,d=.str n:=by cases h with|s n=>exact⟨n,rfl⟩
end
end Go.Rw
end
section
namespace Go.Proofs.YtbjimhgjbhlmnaaGreatDoor
open Go Go.ChangeShapes Go.WideShapes Go.ChangeAt Go.RowKit
theorem own:ownKnob Tryz.prog.godebug=none:=by kernel_rfl
theorem laidOut:laidOutB Tryz.prog=true:=by kernel_rfl
def laid7:List (String×DataW Unit):=[("math/bits.deBruijn32tab",Rows.laid_math_bits_deBruijn32tab),("math/bits.deBruijn64tab",Rows.laid_math_bits_deBruijn64tab),("internal/strconv.uint64pow10",Rows.laid_internal_strconv_uint64pow10),("unicode/utf8.acceptRanges",Rows.laid_unicode_utf8_acceptRanges),("strconv.ErrRange",Rows.laid_strconv_ErrRange),("strconv.ErrSyntax",Rows.laid_strconv_ErrSyntax),("unicode/utf8.first",Rows.laid_unicode_utf8_first)]
theorem plain7:laid7.filter (fun x=>x.2.handleName?.isNone)=laid7:=by kernel_rfl
theorem laid_met{W:World}(h:laidMetH Tryz.prog laid7 W):laidMet Tryz.prog laid7 W:=by
 have:=(laidMetH_iff.1 h).1
 rwa [plain7]at this
theorem one_of{W:World}(h:laidMetH Tryz.prog laid7 W)(n:String)(d:DataW Unit)(hf:laid7.filter (fun x=>x.1==n)=[(n,d)]):laidMet Tryz.prog [(n,d)] W:=by
 have:=(laid_met h).filter (fun x=>x.1==n)
 rwa [hf]at this
theorem star: "*" ++ "errors.errorString" = "*errors.errorString" := by decide
theorem row283(u:TypeId)(h:Tryz.prog.typeName? 3 u=some "*errors.errorString"):u=283:=
 typeName_ptr_named (nm:= "errors.errorString") (by rw[star];kernel_rfl) (by kernel_rfl) (by decide) u (by rw[star];exact h)
theorem gin_of_laid{W:World}(h:laidMetH Tryz.prog laid7 W):V.GIn Gd.G0 (V.fullK W):=fun _ _ _ e=>by cases e
theorem err_of{W:World}{n:String}{g:Nat}{text:List UInt8}(hL:laidMet Tryz.prog [(n,.iface "*errors.errorString" (.ptr (.agg [.lit (.string text)])))] W)
  (hg:Tryz.prog.globalNamed n=some g) (ht:(Tryz.prog.globals[g]?).map (·.type)=some 84):Gd.isErr W g:=by
 obtain⟨a0,s0,hv0, -, -, -⟩:=laid_sentinel hL hg ht Tryz.underlying84 row283 Tryz.underlying283 Tryz.underlying285 rfl rfl Tryz.underlying9 (by kernel_rfl) (by kernel_rfl)
 have h0:=World.var?_cell hg hv0 0
 exact⟨_,by simpa using h0,.inr ⟨_,_,rfl⟩⟩
theorem gw_of_laid{W:World}(h:laidMetH Tryz.prog laid7 W)(hsh:W.ShapedOpen Tryz.prog):Gd.gw W where
 tab:=by
  have h1:=one_of h "internal/strconv.uint64pow10" Rows.laid_internal_strconv_uint64pow10 (by kernel_rfl)
  exact Lib.tabIs_of_head (g:=3) (k:=.u64) (zs:=Lib.pow10Tab) (rest:=[]) (by kernel_rfl) (by kernel_rfl) Tryz.underlying276 Tryz.underlying245 (by kernel_rfl) (by kernel_rfl) h1
 syn:=err_of (one_of h "strconv.ErrSyntax" Rows.laid_strconv_ErrSyntax (by kernel_rfl)) (by kernel_rfl) (by kernel_rfl)
 rng:=err_of (one_of h "strconv.ErrRange" Rows.laid_strconv_ErrRange (by kernel_rfl)) (by kernel_rfl) (by kernel_rfl)
 mx:=cell_of_shapedOpen_int (g:=0) (t:=3) (k:=.i64) (zero:= #[.int .i64 0]) hsh (by decide +kernel) (by kernel_rfl) rfl (by kernel_rfl) (by kernel_rfl) Tryz.underlying3
theorem handed_and{H:Type}{enc:TypeId×Value→H}{a:Assume}{C:Checked}{os:Os}{f:FuncId}{fn:Func}{s:ChangeSpec}{conds:List PathCond}{apart fresh handsOn again:Bool}{X:World→Array Value→Prop}
  (hX:∀(w w':World) (args:Array Value),w.heap=w'.heap→X w args→X w' args)
  (own:ownKnob C.prog.godebug=none) (started:os.Started) (noInit:C.prog.inits.idxOf? f=none) (hfn:C.prog.funcs[f]? = some fn)
  (witness:∃(w:World) (tape:Tape) (i:Input),w.os=os∧(w.forCall tape i).Shaped C.prog∧i.vars=[]∧Input.okWide C.prog (w.forCall tape i) .any w.heap.size f i ∧
   ((s.pre enc C.prog fn conds apart (w.forCall tape i).memory i.args∧X (w.forCall tape i).memory i.args)∧sizedMet enc C.prog fn (OpenSpec.ofChange s) apart (w.forCall tape i).memory i.args)∧a.holds C.prog (lone (Frame.enter C.prog f i.args .normal) [] (w.forCall tape i)))
  (contract:∀(W:World) (base:Nat) (args:Array Value) (ds gs:List (DataW H)) (before:List MemPlace),
   (∀(j:Nat) t v,fn.params[j]? = some t→args[j]? = some v→Value.okWide C.prog W .any base t v) →
   DataW.Whole enc C.prog fn.params.toList s.vars apart W args.toList ds gs before →
   W.ShapedOpen C.prog→X W args →
   Calls C.prog f args W fun e W'=>∃v,e=.returned v∧s.post enc C.prog fn apart fresh handsOn again W args v W') :
  ReturnsInHanded a C os f .any (fun w args=>(s.pre enc C.prog fn conds apart w args∧X w args)∧sizedMet enc C.prog fn (OpenSpec.ofChange s) apart w args) (s.post enc C.prog fn apart fresh handsOn again):=by
 refine returnsInHanded_of_calls own started noInit witness ?_
 intro w tape i _ hsh _ hok hpre hholds
 obtain⟨_,_,_,fn',hfn',_,_,_,_,hval⟩:=hok
 have e:fn'=fn:=Option.some.inj (hfn'.symm.trans hfn)
 subst e
 obtain⟨⟨⟨ds,gs,before,hw,hc⟩,hx⟩,hz⟩:=hpre
 have hw':=DataW.Whole.of_heap (w':=w.forCall tape i) (by rfl) hw
 refine(contract (w.forCall tape i) w.heap.size i.args ds gs before hval hw' hsh (hX _ _ _ (by rfl) hx)).mono fun e W' ⟨v,he,hp⟩=>?_
 subst he
 exact ChangeSpec.post_blind hp
theorem door_met(os:Os)(args:Array Value):laidMetH Tryz.prog laid7 ((World.laidAll Tryz.prog os laid7).forCall (fun _ _=>0) ⟨#[],args,[]⟩).memory:=by
 refine laidMetH_of_parts3 (fuel:=8) ?_ (by kernel_rfl) (by kernel_rfl)
 rw[plain7]
 exact laidMet_laidAll args (by kernel_rfl) (by kernel_rfl)
end Go.Proofs.YtbjimhgjbhlmnaaGreatDoor
end
