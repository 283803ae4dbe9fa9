/- The parts of the engines, of their contracts and of the plain laws that the claim rests on: A29, A30, A31, A32, R0, RG. -/
import Derived.Test.YtmlcblciegeniaaFP5
import Derived.ChangeSame
import Derived.ChangeVars
import Derived.ProofKit
import Derived.LaidMore
import Derived.OpenShut
import Derived.Carry
import Derived.ChangeArms
set_option linter.unusedVariables false
set_option linter.unusedSimpArgs false
section
set_option linter.unusedVariables false
set_option linter.unusedSimpArgs false
set_option maxRecDepth 100000
namespace Go.Pl
open Go.V Go.Proofs
namespace M
def refYear (sc : List Scale) (nw : Int) (ag : List Rg) (d : Int) : List Rg × Bool := cond (decide (over sc (flows sc d) ≥ 0)) ([], false) (year sc nw ag (flows sc d), true)
end M
abbrev resB (x : List Rg × Bool) : List Ar := [.c (dR x.1), rB x.2]
def tr146 (q_sc : Bool) (sc : List Scale) (new : Int) (q_ag : Bool) (ag : List Rg) (d : Int) : T (List Ar) :=
    T.need (Enc.Is eSc (List.length sc) (Enc.F eSc sc)) (T.need (List.length (Enc.list eSc (List.length sc) (Enc.F eSc sc)) ≤ (100000 : Nat)) (T.need (Enc.Is eSc (List.length sc) (Enc.F eSc sc)) (T.need (Enc.Is eRg (List.length (M.flows (Enc.list eSc (List.length sc) (Enc.F eSc sc)) d)) (Enc.F eRg (M.flows (Enc.list eSc (List.length sc) (Enc.F eSc sc)) d))) (T.need (List.length (Enc.list eRg (List.length (M.flows (Enc.list eSc (List.length sc) (Enc.F eSc sc)) d)) (Enc.F eRg (M.flows (Enc.list eSc (List.length sc) (Enc.F eSc sc)) d))) ≤ List.length (Enc.list eSc (List.length sc) (Enc.F eSc sc))) (T.need (List.length (Enc.list eSc (List.length sc) (Enc.F eSc sc)) ≤ (100000 : Nat)) (T.br (decide ((0 : Int) ≤ M.over (Enc.list eSc (List.length sc) (Enc.F eSc sc)) (Enc.list eRg (List.length (M.flows (Enc.list eSc (List.length sc) (Enc.F eSc sc)) d)) (Enc.F eRg (M.flows (Enc.list eSc (List.length sc) (Enc.F eSc sc)) d))))) (T.ret [Ar.c (D.sl false (0 : Nat) (0 : Nat) fun (x x_1 : Nat) => D.nilp), Ar.c (D.bool false)]) (T.loop2 (Int × PUnit × PUnit) (Int × List Rg × PUnit) (Sum.inl ((0 : Int), PUnit.unit, PUnit.unit)) (fun (x : Int × PUnit × PUnit) => T.br (decide (Prod.fst x < (Nat.cast (R := Int) (List.length (M.flows (Enc.list eSc (List.length sc) (Enc.F eSc sc)) d))))) (T.need ((0 : Int) ≤ Prod.fst x) (T.need (Prod.fst x < (Nat.cast (R := Int) (List.length sc))) (T.br (decide (IntKind.i64.wrap (Prod.fst x + (1 : Int)) < (Nat.cast (R := Int) (List.length ag)))) (T.need ((0 : Int) ≤ IntKind.i64.wrap (Prod.fst x + (1 : Int))) (T.need (IntKind.i64.wrap (Prod.fst x + (1 : Int)) < (Nat.cast (R := Int) (List.length ag))) (T.need ((0 : Int) ≤ Prod.fst x) (T.need (Prod.fst x < (Nat.cast (R := Int) (List.length (M.flows (Enc.list eSc (List.length sc) (Enc.F eSc sc)) d)))) (T.need ((0 : Int) ≤ Prod.fst x) (T.need (Prod.fst x < (Nat.cast (R := Int) (List.length ag))) (T.need ((0 : Int) ≤ Prod.fst x) (T.need (Prod.fst x < (Nat.cast (R := Int) (List.length (M.flows (Enc.list eSc (List.length sc) (Enc.F eSc sc)) d)))) (T.need ((0 : Int) ≤ Prod.fst x) (T.need (Prod.fst x < (Nat.cast (R := Int) (List.length ag))) (T.need ((0 : Int) ≤ Prod.fst x) (T.need (Prod.fst x < (Nat.cast (R := Int) (List.length (M.flows (Enc.list eSc (List.length sc) (Enc.F eSc sc)) d)))) (T.need ((0 : Int) ≤ Prod.fst x) (T.need (Prod.fst x < (Nat.cast (R := Int) (List.length ag))) (T.need ((0 : Int) ≤ Prod.fst x) (T.need (Prod.fst x < (Nat.cast (R := Int) (List.length (M.flows (Enc.list eSc (List.length sc) (Enc.F eSc sc)) d)))) (T.need ((0 : Int) ≤ Prod.fst x) (T.need (Prod.fst x < (Nat.cast (R := Int) (List.length ag))) (T.need (Scale.vol (List.getD sc (Int.toNat (Prod.fst x)) dfS) ≠ (0 : Int)) (T.need (Scale.vol (List.getD sc (Int.toNat (Prod.fst x)) dfS) ≠ (0 : Int)) (T.need ((1 : Nat) ≤ (1000000 : Nat)) (T.need (Enc.Is eRg (1 : Nat) (joinF (0 : Nat) (fun (x x_1 : Nat) => D.nilp) fun (i j : Nat) => List.getD [D.int IntKind.i64 (IntKind.i64.wrap (M.floorW (if M.mixed (Scale.vol (List.getD sc (Int.toNat (Prod.fst x)) dfS)) (Rg.hi (List.getD (M.flows (Enc.list eSc (List.length sc) (Enc.F eSc sc)) d) (Int.toNat (Prod.fst x)) dfR)) (Rg.lo (List.getD ag (Int.toNat (Prod.fst x)) dfR)) (Rg.lo (List.getD ag (Int.toNat (IntKind.i64.wrap (Prod.fst x + (1 : Int)))) dfR)) < M.mixed (Scale.vol (List.getD sc (Int.toNat (Prod.fst x)) dfS)) (Rg.lo (List.getD (M.flows (Enc.list eSc (List.length sc) (Enc.F eSc sc)) d) (Int.toNat (Prod.fst x)) dfR)) (Rg.lo (List.getD ag (Int.toNat (Prod.fst x)) dfR)) (Rg.lo (List.getD ag (Int.toNat (IntKind.i64.wrap (Prod.fst x + (1 : Int)))) dfR)) then M.mixed (Scale.vol (List.getD sc (Int.toNat (Prod.fst x)) dfS)) (Rg.hi (List.getD (M.flows (Enc.list eSc (List.length sc) (Enc.F eSc sc)) d) (Int.toNat (Prod.fst x)) dfR)) (Rg.lo (List.getD ag (Int.toNat (Prod.fst x)) dfR)) (Rg.lo (List.getD ag (Int.toNat (IntKind.i64.wrap (Prod.fst x + (1 : Int)))) dfR)) else M.mixed (Scale.vol (List.getD sc (Int.toNat (Prod.fst x)) dfS)) (Rg.lo (List.getD (M.flows (Enc.list eSc (List.length sc) (Enc.F eSc sc)) d) (Int.toNat (Prod.fst x)) dfR)) (Rg.lo (List.getD ag (Int.toNat (Prod.fst x)) dfR)) (Rg.lo (List.getD ag (Int.toNat (IntKind.i64.wrap (Prod.fst x + (1 : Int)))) dfR))) (Scale.vol (List.getD sc (Int.toNat (Prod.fst x)) dfS)) + (1000 : Int))), D.int IntKind.i64 (IntKind.i64.wrap (M.ceilW (if M.mixed (Scale.vol (List.getD sc (Int.toNat (Prod.fst x)) dfS)) (Rg.hi (List.getD (M.flows (Enc.list eSc (List.length sc) (Enc.F eSc sc)) d) (Int.toNat (Prod.fst x)) dfR)) (Rg.hi (List.getD ag (Int.toNat (Prod.fst x)) dfR)) (Rg.hi (List.getD ag (Int.toNat (IntKind.i64.wrap (Prod.fst x + (1 : Int)))) dfR)) > M.mixed (Scale.vol (List.getD sc (Int.toNat (Prod.fst x)) dfS)) (Rg.lo (List.getD (M.flows (Enc.list eSc (List.length sc) (Enc.F eSc sc)) d) (Int.toNat (Prod.fst x)) dfR)) (Rg.hi (List.getD ag (Int.toNat (Prod.fst x)) dfR)) (Rg.hi (List.getD ag (Int.toNat (IntKind.i64.wrap (Prod.fst x + (1 : Int)))) dfR)) then M.mixed (Scale.vol (List.getD sc (Int.toNat (Prod.fst x)) dfS)) (Rg.hi (List.getD (M.flows (Enc.list eSc (List.length sc) (Enc.F eSc sc)) d) (Int.toNat (Prod.fst x)) dfR)) (Rg.hi (List.getD ag (Int.toNat (Prod.fst x)) dfR)) (Rg.hi (List.getD ag (Int.toNat (IntKind.i64.wrap (Prod.fst x + (1 : Int)))) dfR)) else M.mixed (Scale.vol (List.getD sc (Int.toNat (Prod.fst x)) dfS)) (Rg.lo (List.getD (M.flows (Enc.list eSc (List.length sc) (Enc.F eSc sc)) d) (Int.toNat (Prod.fst x)) dfR)) (Rg.hi (List.getD ag (Int.toNat (Prod.fst x)) dfR)) (Rg.hi (List.getD ag (Int.toNat (IntKind.i64.wrap (Prod.fst x + (1 : Int)))) dfR))) (Scale.vol (List.getD sc (Int.toNat (Prod.fst x)) dfS)) + (1000 : Int)))] (i * (2 : Nat) + j) D.nilp)) (T.need ((1 : Nat) ≤ (1 : Nat)) (T.ret (Sum.inl (Sum.inr (IntKind.i64.wrap (Prod.fst x + (1 : Int)), Enc.list eRg (1 : Nat) (joinF (0 : Nat) (fun (x x_1 : Nat) => D.nilp) fun (i j : Nat) => List.getD [D.int IntKind.i64 (IntKind.i64.wrap (M.floorW (if M.mixed (Scale.vol (List.getD sc (Int.toNat (Prod.fst x)) dfS)) (Rg.hi (List.getD (M.flows (Enc.list eSc (List.length sc) (Enc.F eSc sc)) d) (Int.toNat (Prod.fst x)) dfR)) (Rg.lo (List.getD ag (Int.toNat (Prod.fst x)) dfR)) (Rg.lo (List.getD ag (Int.toNat (IntKind.i64.wrap (Prod.fst x + (1 : Int)))) dfR)) < M.mixed (Scale.vol (List.getD sc (Int.toNat (Prod.fst x)) dfS)) (Rg.lo (List.getD (M.flows (Enc.list eSc (List.length sc) (Enc.F eSc sc)) d) (Int.toNat (Prod.fst x)) dfR)) (Rg.lo (List.getD ag (Int.toNat (Prod.fst x)) dfR)) (Rg.lo (List.getD ag (Int.toNat (IntKind.i64.wrap (Prod.fst x + (1 : Int)))) dfR)) then M.mixed (Scale.vol (List.getD sc (Int.toNat (Prod.fst x)) dfS)) (Rg.hi (List.getD (M.flows (Enc.list eSc (List.length sc) (Enc.F eSc sc)) d) (Int.toNat (Prod.fst x)) dfR)) (Rg.lo (List.getD ag (Int.toNat (Prod.fst x)) dfR)) (Rg.lo (List.getD ag (Int.toNat (IntKind.i64.wrap (Prod.fst x + (1 : Int)))) dfR)) else M.mixed (Scale.vol (List.getD sc (Int.toNat (Prod.fst x)) dfS)) (Rg.lo (List.getD (M.flows (Enc.list eSc (List.length sc) (Enc.F eSc sc)) d) (Int.toNat (Prod.fst x)) dfR)) (Rg.lo (List.getD ag (Int.toNat (Prod.fst x)) dfR)) (Rg.lo (List.getD ag (Int.toNat (IntKind.i64.wrap (Prod.fst x + (1 : Int)))) dfR))) (Scale.vol (List.getD sc (Int.toNat (Prod.fst x)) dfS)) + (1000 : Int))), D.int IntKind.i64 (IntKind.i64.wrap (M.ceilW (if M.mixed (Scale.vol (List.getD sc (Int.toNat (Prod.fst x)) dfS)) (Rg.hi (List.getD (M.flows (Enc.list eSc (List.length sc) (Enc.F eSc sc)) d) (Int.toNat (Prod.fst x)) dfR)) (Rg.hi (List.getD ag (Int.toNat (Prod.fst x)) dfR)) (Rg.hi (List.getD ag (Int.toNat (IntKind.i64.wrap (Prod.fst x + (1 : Int)))) dfR)) > M.mixed (Scale.vol (List.getD sc (Int.toNat (Prod.fst x)) dfS)) (Rg.lo (List.getD (M.flows (Enc.list eSc (List.length sc) (Enc.F eSc sc)) d) (Int.toNat (Prod.fst x)) dfR)) (Rg.hi (List.getD ag (Int.toNat (Prod.fst x)) dfR)) (Rg.hi (List.getD ag (Int.toNat (IntKind.i64.wrap (Prod.fst x + (1 : Int)))) dfR)) then M.mixed (Scale.vol (List.getD sc (Int.toNat (Prod.fst x)) dfS)) (Rg.hi (List.getD (M.flows (Enc.list eSc (List.length sc) (Enc.F eSc sc)) d) (Int.toNat (Prod.fst x)) dfR)) (Rg.hi (List.getD ag (Int.toNat (Prod.fst x)) dfR)) (Rg.hi (List.getD ag (Int.toNat (IntKind.i64.wrap (Prod.fst x + (1 : Int)))) dfR)) else M.mixed (Scale.vol (List.getD sc (Int.toNat (Prod.fst x)) dfS)) (Rg.lo (List.getD (M.flows (Enc.list eSc (List.length sc) (Enc.F eSc sc)) d) (Int.toNat (Prod.fst x)) dfR)) (Rg.hi (List.getD ag (Int.toNat (Prod.fst x)) dfR)) (Rg.hi (List.getD ag (Int.toNat (IntKind.i64.wrap (Prod.fst x + (1 : Int)))) dfR))) (Scale.vol (List.getD sc (Int.toNat (Prod.fst x)) dfS)) + (1000 : Int)))] (i * (2 : Nat) + j) D.nilp), PUnit.unit))))))))))))))))))))))))))) (T.need ((0 : Int) ≤ Prod.fst x) (T.need (Prod.fst x < (Nat.cast (R := Int) (List.length (M.flows (Enc.list eSc (List.length sc) (Enc.F eSc sc)) d)))) (T.need ((0 : Int) ≤ Prod.fst x) (T.need (Prod.fst x < (Nat.cast (R := Int) (List.length ag))) (T.need ((0 : Int) ≤ Prod.fst x) (T.need (Prod.fst x < (Nat.cast (R := Int) (List.length (M.flows (Enc.list eSc (List.length sc) (Enc.F eSc sc)) d)))) (T.need ((0 : Int) ≤ Prod.fst x) (T.need (Prod.fst x < (Nat.cast (R := Int) (List.length ag))) (T.need ((0 : Int) ≤ Prod.fst x) (T.need (Prod.fst x < (Nat.cast (R := Int) (List.length (M.flows (Enc.list eSc (List.length sc) (Enc.F eSc sc)) d)))) (T.need ((0 : Int) ≤ Prod.fst x) (T.need (Prod.fst x < (Nat.cast (R := Int) (List.length ag))) (T.need ((0 : Int) ≤ Prod.fst x) (T.need (Prod.fst x < (Nat.cast (R := Int) (List.length (M.flows (Enc.list eSc (List.length sc) (Enc.F eSc sc)) d)))) (T.need ((0 : Int) ≤ Prod.fst x) (T.need (Prod.fst x < (Nat.cast (R := Int) (List.length ag))) (T.need (Scale.vol (List.getD sc (Int.toNat (Prod.fst x)) dfS) ≠ (0 : Int)) (T.need (Scale.vol (List.getD sc (Int.toNat (Prod.fst x)) dfS) ≠ (0 : Int)) (T.need ((1 : Nat) ≤ (1000000 : Nat)) (T.need (Enc.Is eRg (1 : Nat) (joinF (0 : Nat) (fun (x x_1 : Nat) => D.nilp) fun (i j : Nat) => List.getD [D.int IntKind.i64 (IntKind.i64.wrap (M.floorW (if M.mixed (Scale.vol (List.getD sc (Int.toNat (Prod.fst x)) dfS)) (Rg.hi (List.getD (M.flows (Enc.list eSc (List.length sc) (Enc.F eSc sc)) d) (Int.toNat (Prod.fst x)) dfR)) (Rg.lo (List.getD ag (Int.toNat (Prod.fst x)) dfR)) new < M.mixed (Scale.vol (List.getD sc (Int.toNat (Prod.fst x)) dfS)) (Rg.lo (List.getD (M.flows (Enc.list eSc (List.length sc) (Enc.F eSc sc)) d) (Int.toNat (Prod.fst x)) dfR)) (Rg.lo (List.getD ag (Int.toNat (Prod.fst x)) dfR)) new then M.mixed (Scale.vol (List.getD sc (Int.toNat (Prod.fst x)) dfS)) (Rg.hi (List.getD (M.flows (Enc.list eSc (List.length sc) (Enc.F eSc sc)) d) (Int.toNat (Prod.fst x)) dfR)) (Rg.lo (List.getD ag (Int.toNat (Prod.fst x)) dfR)) new else M.mixed (Scale.vol (List.getD sc (Int.toNat (Prod.fst x)) dfS)) (Rg.lo (List.getD (M.flows (Enc.list eSc (List.length sc) (Enc.F eSc sc)) d) (Int.toNat (Prod.fst x)) dfR)) (Rg.lo (List.getD ag (Int.toNat (Prod.fst x)) dfR)) new) (Scale.vol (List.getD sc (Int.toNat (Prod.fst x)) dfS)) + (1000 : Int))), D.int IntKind.i64 (IntKind.i64.wrap (M.ceilW (if M.mixed (Scale.vol (List.getD sc (Int.toNat (Prod.fst x)) dfS)) (Rg.hi (List.getD (M.flows (Enc.list eSc (List.length sc) (Enc.F eSc sc)) d) (Int.toNat (Prod.fst x)) dfR)) (Rg.hi (List.getD ag (Int.toNat (Prod.fst x)) dfR)) new > M.mixed (Scale.vol (List.getD sc (Int.toNat (Prod.fst x)) dfS)) (Rg.lo (List.getD (M.flows (Enc.list eSc (List.length sc) (Enc.F eSc sc)) d) (Int.toNat (Prod.fst x)) dfR)) (Rg.hi (List.getD ag (Int.toNat (Prod.fst x)) dfR)) new then M.mixed (Scale.vol (List.getD sc (Int.toNat (Prod.fst x)) dfS)) (Rg.hi (List.getD (M.flows (Enc.list eSc (List.length sc) (Enc.F eSc sc)) d) (Int.toNat (Prod.fst x)) dfR)) (Rg.hi (List.getD ag (Int.toNat (Prod.fst x)) dfR)) new else M.mixed (Scale.vol (List.getD sc (Int.toNat (Prod.fst x)) dfS)) (Rg.lo (List.getD (M.flows (Enc.list eSc (List.length sc) (Enc.F eSc sc)) d) (Int.toNat (Prod.fst x)) dfR)) (Rg.hi (List.getD ag (Int.toNat (Prod.fst x)) dfR)) new) (Scale.vol (List.getD sc (Int.toNat (Prod.fst x)) dfS)) + (1000 : Int)))] (i * (2 : Nat) + j) D.nilp)) (T.need ((1 : Nat) ≤ (1 : Nat)) (T.ret (Sum.inl (Sum.inr (IntKind.i64.wrap (Prod.fst x + (1 : Int)), Enc.list eRg (1 : Nat) (joinF (0 : Nat) (fun (x x_1 : Nat) => D.nilp) fun (i j : Nat) => List.getD [D.int IntKind.i64 (IntKind.i64.wrap (M.floorW (if M.mixed (Scale.vol (List.getD sc (Int.toNat (Prod.fst x)) dfS)) (Rg.hi (List.getD (M.flows (Enc.list eSc (List.length sc) (Enc.F eSc sc)) d) (Int.toNat (Prod.fst x)) dfR)) (Rg.lo (List.getD ag (Int.toNat (Prod.fst x)) dfR)) new < M.mixed (Scale.vol (List.getD sc (Int.toNat (Prod.fst x)) dfS)) (Rg.lo (List.getD (M.flows (Enc.list eSc (List.length sc) (Enc.F eSc sc)) d) (Int.toNat (Prod.fst x)) dfR)) (Rg.lo (List.getD ag (Int.toNat (Prod.fst x)) dfR)) new then M.mixed (Scale.vol (List.getD sc (Int.toNat (Prod.fst x)) dfS)) (Rg.hi (List.getD (M.flows (Enc.list eSc (List.length sc) (Enc.F eSc sc)) d) (Int.toNat (Prod.fst x)) dfR)) (Rg.lo (List.getD ag (Int.toNat (Prod.fst x)) dfR)) new else M.mixed (Scale.vol (List.getD sc (Int.toNat (Prod.fst x)) dfS)) (Rg.lo (List.getD (M.flows (Enc.list eSc (List.length sc) (Enc.F eSc sc)) d) (Int.toNat (Prod.fst x)) dfR)) (Rg.lo (List.getD ag (Int.toNat (Prod.fst x)) dfR)) new) (Scale.vol (List.getD sc (Int.toNat (Prod.fst x)) dfS)) + (1000 : Int))), D.int IntKind.i64 (IntKind.i64.wrap (M.ceilW (if M.mixed (Scale.vol (List.getD sc (Int.toNat (Prod.fst x)) dfS)) (Rg.hi (List.getD (M.flows (Enc.list eSc (List.length sc) (Enc.F eSc sc)) d) (Int.toNat (Prod.fst x)) dfR)) (Rg.hi (List.getD ag (Int.toNat (Prod.fst x)) dfR)) new > M.mixed (Scale.vol (List.getD sc (Int.toNat (Prod.fst x)) dfS)) (Rg.lo (List.getD (M.flows (Enc.list eSc (List.length sc) (Enc.F eSc sc)) d) (Int.toNat (Prod.fst x)) dfR)) (Rg.hi (List.getD ag (Int.toNat (Prod.fst x)) dfR)) new then M.mixed (Scale.vol (List.getD sc (Int.toNat (Prod.fst x)) dfS)) (Rg.hi (List.getD (M.flows (Enc.list eSc (List.length sc) (Enc.F eSc sc)) d) (Int.toNat (Prod.fst x)) dfR)) (Rg.hi (List.getD ag (Int.toNat (Prod.fst x)) dfR)) new else M.mixed (Scale.vol (List.getD sc (Int.toNat (Prod.fst x)) dfS)) (Rg.lo (List.getD (M.flows (Enc.list eSc (List.length sc) (Enc.F eSc sc)) d) (Int.toNat (Prod.fst x)) dfR)) (Rg.hi (List.getD ag (Int.toNat (Prod.fst x)) dfR)) new) (Scale.vol (List.getD sc (Int.toNat (Prod.fst x)) dfS)) + (1000 : Int)))] (i * (2 : Nat) + j) D.nilp), PUnit.unit)))))))))))))))))))))))))))) (T.ret (Sum.inr [Ar.c (D.sl false (0 : Nat) (0 : Nat) fun (x x_1 : Nat) => D.nilp), Ar.c (D.bool true)]))) fun (y : Int × List Rg × PUnit) => T.br (decide (Prod.fst y < (Nat.cast (R := Int) (List.length (M.flows (Enc.list eSc (List.length sc) (Enc.F eSc sc)) d))))) (T.need ((0 : Int) ≤ Prod.fst y) (T.need (Prod.fst y < (Nat.cast (R := Int) (List.length sc))) (T.br (decide (IntKind.i64.wrap (Prod.fst y + (1 : Int)) < (Nat.cast (R := Int) (List.length ag)))) (T.need ((0 : Int) ≤ IntKind.i64.wrap (Prod.fst y + (1 : Int))) (T.need (IntKind.i64.wrap (Prod.fst y + (1 : Int)) < (Nat.cast (R := Int) (List.length ag))) (T.need ((0 : Int) ≤ Prod.fst y) (T.need (Prod.fst y < (Nat.cast (R := Int) (List.length (M.flows (Enc.list eSc (List.length sc) (Enc.F eSc sc)) d)))) (T.need ((0 : Int) ≤ Prod.fst y) (T.need (Prod.fst y < (Nat.cast (R := Int) (List.length ag))) (T.need ((0 : Int) ≤ Prod.fst y) (T.need (Prod.fst y < (Nat.cast (R := Int) (List.length (M.flows (Enc.list eSc (List.length sc) (Enc.F eSc sc)) d)))) (T.need ((0 : Int) ≤ Prod.fst y) (T.need (Prod.fst y < (Nat.cast (R := Int) (List.length ag))) (T.need ((0 : Int) ≤ Prod.fst y) (T.need (Prod.fst y < (Nat.cast (R := Int) (List.length (M.flows (Enc.list eSc (List.length sc) (Enc.F eSc sc)) d)))) (T.need ((0 : Int) ≤ Prod.fst y) (T.need (Prod.fst y < (Nat.cast (R := Int) (List.length ag))) (T.need ((0 : Int) ≤ Prod.fst y) (T.need (Prod.fst y < (Nat.cast (R := Int) (List.length (M.flows (Enc.list eSc (List.length sc) (Enc.F eSc sc)) d)))) (T.need ((0 : Int) ≤ Prod.fst y) (T.need (Prod.fst y < (Nat.cast (R := Int) (List.length ag))) (T.need (Scale.vol (List.getD sc (Int.toNat (Prod.fst y)) dfS) ≠ (0 : Int)) (T.need (Scale.vol (List.getD sc (Int.toNat (Prod.fst y)) dfS) ≠ (0 : Int)) (T.need (List.length (Prod.fst (Prod.snd y)) + (1 : Nat) ≤ (1000000 : Nat)) (T.need (List.length (Prod.fst (Prod.snd y)) ≤ List.length (Prod.fst (Prod.snd y))) (T.need (Enc.Is eRg (List.length (Prod.fst (Prod.snd y)) + (1 : Nat)) (joinF (List.length (Prod.fst (Prod.snd y))) (Enc.F eRg (Prod.fst (Prod.snd y))) fun (i j : Nat) => List.getD [D.int IntKind.i64 (IntKind.i64.wrap (M.floorW (if M.mixed (Scale.vol (List.getD sc (Int.toNat (Prod.fst y)) dfS)) (Rg.hi (List.getD (M.flows (Enc.list eSc (List.length sc) (Enc.F eSc sc)) d) (Int.toNat (Prod.fst y)) dfR)) (Rg.lo (List.getD ag (Int.toNat (Prod.fst y)) dfR)) (Rg.lo (List.getD ag (Int.toNat (IntKind.i64.wrap (Prod.fst y + (1 : Int)))) dfR)) < M.mixed (Scale.vol (List.getD sc (Int.toNat (Prod.fst y)) dfS)) (Rg.lo (List.getD (M.flows (Enc.list eSc (List.length sc) (Enc.F eSc sc)) d) (Int.toNat (Prod.fst y)) dfR)) (Rg.lo (List.getD ag (Int.toNat (Prod.fst y)) dfR)) (Rg.lo (List.getD ag (Int.toNat (IntKind.i64.wrap (Prod.fst y + (1 : Int)))) dfR)) then M.mixed (Scale.vol (List.getD sc (Int.toNat (Prod.fst y)) dfS)) (Rg.hi (List.getD (M.flows (Enc.list eSc (List.length sc) (Enc.F eSc sc)) d) (Int.toNat (Prod.fst y)) dfR)) (Rg.lo (List.getD ag (Int.toNat (Prod.fst y)) dfR)) (Rg.lo (List.getD ag (Int.toNat (IntKind.i64.wrap (Prod.fst y + (1 : Int)))) dfR)) else M.mixed (Scale.vol (List.getD sc (Int.toNat (Prod.fst y)) dfS)) (Rg.lo (List.getD (M.flows (Enc.list eSc (List.length sc) (Enc.F eSc sc)) d) (Int.toNat (Prod.fst y)) dfR)) (Rg.lo (List.getD ag (Int.toNat (Prod.fst y)) dfR)) (Rg.lo (List.getD ag (Int.toNat (IntKind.i64.wrap (Prod.fst y + (1 : Int)))) dfR))) (Scale.vol (List.getD sc (Int.toNat (Prod.fst y)) dfS)) + (1000 : Int))), D.int IntKind.i64 (IntKind.i64.wrap (M.ceilW (if M.mixed (Scale.vol (List.getD sc (Int.toNat (Prod.fst y)) dfS)) (Rg.hi (List.getD (M.flows (Enc.list eSc (List.length sc) (Enc.F eSc sc)) d) (Int.toNat (Prod.fst y)) dfR)) (Rg.hi (List.getD ag (Int.toNat (Prod.fst y)) dfR)) (Rg.hi (List.getD ag (Int.toNat (IntKind.i64.wrap (Prod.fst y + (1 : Int)))) dfR)) > M.mixed (Scale.vol (List.getD sc (Int.toNat (Prod.fst y)) dfS)) (Rg.lo (List.getD (M.flows (Enc.list eSc (List.length sc) (Enc.F eSc sc)) d) (Int.toNat (Prod.fst y)) dfR)) (Rg.hi (List.getD ag (Int.toNat (Prod.fst y)) dfR)) (Rg.hi (List.getD ag (Int.toNat (IntKind.i64.wrap (Prod.fst y + (1 : Int)))) dfR)) then M.mixed (Scale.vol (List.getD sc (Int.toNat (Prod.fst y)) dfS)) (Rg.hi (List.getD (M.flows (Enc.list eSc (List.length sc) (Enc.F eSc sc)) d) (Int.toNat (Prod.fst y)) dfR)) (Rg.hi (List.getD ag (Int.toNat (Prod.fst y)) dfR)) (Rg.hi (List.getD ag (Int.toNat (IntKind.i64.wrap (Prod.fst y + (1 : Int)))) dfR)) else M.mixed (Scale.vol (List.getD sc (Int.toNat (Prod.fst y)) dfS)) (Rg.lo (List.getD (M.flows (Enc.list eSc (List.length sc) (Enc.F eSc sc)) d) (Int.toNat (Prod.fst y)) dfR)) (Rg.hi (List.getD ag (Int.toNat (Prod.fst y)) dfR)) (Rg.hi (List.getD ag (Int.toNat (IntKind.i64.wrap (Prod.fst y + (1 : Int)))) dfR))) (Scale.vol (List.getD sc (Int.toNat (Prod.fst y)) dfS)) + (1000 : Int)))] (i * (2 : Nat) + j) D.nilp)) (T.need (List.length (Prod.fst (Prod.snd y)) + (1 : Nat) ≤ List.length (Prod.fst (Prod.snd y)) + (1 : Nat)) (T.ret (Sum.inl (Sum.inr (IntKind.i64.wrap (Prod.fst y + (1 : Int)), Enc.list eRg (List.length (Prod.fst (Prod.snd y)) + (1 : Nat)) (joinF (List.length (Prod.fst (Prod.snd y))) (Enc.F eRg (Prod.fst (Prod.snd y))) fun (i j : Nat) => List.getD [D.int IntKind.i64 (IntKind.i64.wrap (M.floorW (if M.mixed (Scale.vol (List.getD sc (Int.toNat (Prod.fst y)) dfS)) (Rg.hi (List.getD (M.flows (Enc.list eSc (List.length sc) (Enc.F eSc sc)) d) (Int.toNat (Prod.fst y)) dfR)) (Rg.lo (List.getD ag (Int.toNat (Prod.fst y)) dfR)) (Rg.lo (List.getD ag (Int.toNat (IntKind.i64.wrap (Prod.fst y + (1 : Int)))) dfR)) < M.mixed (Scale.vol (List.getD sc (Int.toNat (Prod.fst y)) dfS)) (Rg.lo (List.getD (M.flows (Enc.list eSc (List.length sc) (Enc.F eSc sc)) d) (Int.toNat (Prod.fst y)) dfR)) (Rg.lo (List.getD ag (Int.toNat (Prod.fst y)) dfR)) (Rg.lo (List.getD ag (Int.toNat (IntKind.i64.wrap (Prod.fst y + (1 : Int)))) dfR)) then M.mixed (Scale.vol (List.getD sc (Int.toNat (Prod.fst y)) dfS)) (Rg.hi (List.getD (M.flows (Enc.list eSc (List.length sc) (Enc.F eSc sc)) d) (Int.toNat (Prod.fst y)) dfR)) (Rg.lo (List.getD ag (Int.toNat (Prod.fst y)) dfR)) (Rg.lo (List.getD ag (Int.toNat (IntKind.i64.wrap (Prod.fst y + (1 : Int)))) dfR)) else M.mixed (Scale.vol (List.getD sc (Int.toNat (Prod.fst y)) dfS)) (Rg.lo (List.getD (M.flows (Enc.list eSc (List.length sc) (Enc.F eSc sc)) d) (Int.toNat (Prod.fst y)) dfR)) (Rg.lo (List.getD ag (Int.toNat (Prod.fst y)) dfR)) (Rg.lo (List.getD ag (Int.toNat (IntKind.i64.wrap (Prod.fst y + (1 : Int)))) dfR))) (Scale.vol (List.getD sc (Int.toNat (Prod.fst y)) dfS)) + (1000 : Int))), D.int IntKind.i64 (IntKind.i64.wrap (M.ceilW (if M.mixed (Scale.vol (List.getD sc (Int.toNat (Prod.fst y)) dfS)) (Rg.hi (List.getD (M.flows (Enc.list eSc (List.length sc) (Enc.F eSc sc)) d) (Int.toNat (Prod.fst y)) dfR)) (Rg.hi (List.getD ag (Int.toNat (Prod.fst y)) dfR)) (Rg.hi (List.getD ag (Int.toNat (IntKind.i64.wrap (Prod.fst y + (1 : Int)))) dfR)) > M.mixed (Scale.vol (List.getD sc (Int.toNat (Prod.fst y)) dfS)) (Rg.lo (List.getD (M.flows (Enc.list eSc (List.length sc) (Enc.F eSc sc)) d) (Int.toNat (Prod.fst y)) dfR)) (Rg.hi (List.getD ag (Int.toNat (Prod.fst y)) dfR)) (Rg.hi (List.getD ag (Int.toNat (IntKind.i64.wrap (Prod.fst y + (1 : Int)))) dfR)) then M.mixed (Scale.vol (List.getD sc (Int.toNat (Prod.fst y)) dfS)) (Rg.hi (List.getD (M.flows (Enc.list eSc (List.length sc) (Enc.F eSc sc)) d) (Int.toNat (Prod.fst y)) dfR)) (Rg.hi (List.getD ag (Int.toNat (Prod.fst y)) dfR)) (Rg.hi (List.getD ag (Int.toNat (IntKind.i64.wrap (Prod.fst y + (1 : Int)))) dfR)) else M.mixed (Scale.vol (List.getD sc (Int.toNat (Prod.fst y)) dfS)) (Rg.lo (List.getD (M.flows (Enc.list eSc (List.length sc) (Enc.F eSc sc)) d) (Int.toNat (Prod.fst y)) dfR)) (Rg.hi (List.getD ag (Int.toNat (Prod.fst y)) dfR)) (Rg.hi (List.getD ag (Int.toNat (IntKind.i64.wrap (Prod.fst y + (1 : Int)))) dfR))) (Scale.vol (List.getD sc (Int.toNat (Prod.fst y)) dfS)) + (1000 : Int)))] (i * (2 : Nat) + j) D.nilp), PUnit.unit)))))))))))))))))))))))))))) (T.need ((0 : Int) ≤ Prod.fst y) (T.need (Prod.fst y < (Nat.cast (R := Int) (List.length (M.flows (Enc.list eSc (List.length sc) (Enc.F eSc sc)) d)))) (T.need ((0 : Int) ≤ Prod.fst y) (T.need (Prod.fst y < (Nat.cast (R := Int) (List.length ag))) (T.need ((0 : Int) ≤ Prod.fst y) (T.need (Prod.fst y < (Nat.cast (R := Int) (List.length (M.flows (Enc.list eSc (List.length sc) (Enc.F eSc sc)) d)))) (T.need ((0 : Int) ≤ Prod.fst y) (T.need (Prod.fst y < (Nat.cast (R := Int) (List.length ag))) (T.need ((0 : Int) ≤ Prod.fst y) (T.need (Prod.fst y < (Nat.cast (R := Int) (List.length (M.flows (Enc.list eSc (List.length sc) (Enc.F eSc sc)) d)))) (T.need ((0 : Int) ≤ Prod.fst y) (T.need (Prod.fst y < (Nat.cast (R := Int) (List.length ag))) (T.need ((0 : Int) ≤ Prod.fst y) (T.need (Prod.fst y < (Nat.cast (R := Int) (List.length (M.flows (Enc.list eSc (List.length sc) (Enc.F eSc sc)) d)))) (T.need ((0 : Int) ≤ Prod.fst y) (T.need (Prod.fst y < (Nat.cast (R := Int) (List.length ag))) (T.need (Scale.vol (List.getD sc (Int.toNat (Prod.fst y)) dfS) ≠ (0 : Int)) (T.need (Scale.vol (List.getD sc (Int.toNat (Prod.fst y)) dfS) ≠ (0 : Int)) (T.need (List.length (Prod.fst (Prod.snd y)) + (1 : Nat) ≤ (1000000 : Nat)) (T.need (List.length (Prod.fst (Prod.snd y)) ≤ List.length (Prod.fst (Prod.snd y))) (T.need (Enc.Is eRg (List.length (Prod.fst (Prod.snd y)) + (1 : Nat)) (joinF (List.length (Prod.fst (Prod.snd y))) (Enc.F eRg (Prod.fst (Prod.snd y))) fun (i j : Nat) => List.getD [D.int IntKind.i64 (IntKind.i64.wrap (M.floorW (if M.mixed (Scale.vol (List.getD sc (Int.toNat (Prod.fst y)) dfS)) (Rg.hi (List.getD (M.flows (Enc.list eSc (List.length sc) (Enc.F eSc sc)) d) (Int.toNat (Prod.fst y)) dfR)) (Rg.lo (List.getD ag (Int.toNat (Prod.fst y)) dfR)) new < M.mixed (Scale.vol (List.getD sc (Int.toNat (Prod.fst y)) dfS)) (Rg.lo (List.getD (M.flows (Enc.list eSc (List.length sc) (Enc.F eSc sc)) d) (Int.toNat (Prod.fst y)) dfR)) (Rg.lo (List.getD ag (Int.toNat (Prod.fst y)) dfR)) new then M.mixed (Scale.vol (List.getD sc (Int.toNat (Prod.fst y)) dfS)) (Rg.hi (List.getD (M.flows (Enc.list eSc (List.length sc) (Enc.F eSc sc)) d) (Int.toNat (Prod.fst y)) dfR)) (Rg.lo (List.getD ag (Int.toNat (Prod.fst y)) dfR)) new else M.mixed (Scale.vol (List.getD sc (Int.toNat (Prod.fst y)) dfS)) (Rg.lo (List.getD (M.flows (Enc.list eSc (List.length sc) (Enc.F eSc sc)) d) (Int.toNat (Prod.fst y)) dfR)) (Rg.lo (List.getD ag (Int.toNat (Prod.fst y)) dfR)) new) (Scale.vol (List.getD sc (Int.toNat (Prod.fst y)) dfS)) + (1000 : Int))), D.int IntKind.i64 (IntKind.i64.wrap (M.ceilW (if M.mixed (Scale.vol (List.getD sc (Int.toNat (Prod.fst y)) dfS)) (Rg.hi (List.getD (M.flows (Enc.list eSc (List.length sc) (Enc.F eSc sc)) d) (Int.toNat (Prod.fst y)) dfR)) (Rg.hi (List.getD ag (Int.toNat (Prod.fst y)) dfR)) new > M.mixed (Scale.vol (List.getD sc (Int.toNat (Prod.fst y)) dfS)) (Rg.lo (List.getD (M.flows (Enc.list eSc (List.length sc) (Enc.F eSc sc)) d) (Int.toNat (Prod.fst y)) dfR)) (Rg.hi (List.getD ag (Int.toNat (Prod.fst y)) dfR)) new then M.mixed (Scale.vol (List.getD sc (Int.toNat (Prod.fst y)) dfS)) (Rg.hi (List.getD (M.flows (Enc.list eSc (List.length sc) (Enc.F eSc sc)) d) (Int.toNat (Prod.fst y)) dfR)) (Rg.hi (List.getD ag (Int.toNat (Prod.fst y)) dfR)) new else M.mixed (Scale.vol (List.getD sc (Int.toNat (Prod.fst y)) dfS)) (Rg.lo (List.getD (M.flows (Enc.list eSc (List.length sc) (Enc.F eSc sc)) d) (Int.toNat (Prod.fst y)) dfR)) (Rg.hi (List.getD ag (Int.toNat (Prod.fst y)) dfR)) new) (Scale.vol (List.getD sc (Int.toNat (Prod.fst y)) dfS)) + (1000 : Int)))] (i * (2 : Nat) + j) D.nilp)) (T.need (List.length (Prod.fst (Prod.snd y)) + (1 : Nat) ≤ List.length (Prod.fst (Prod.snd y)) + (1 : Nat)) (T.ret (Sum.inl (Sum.inr (IntKind.i64.wrap (Prod.fst y + (1 : Int)), Enc.list eRg (List.length (Prod.fst (Prod.snd y)) + (1 : Nat)) (joinF (List.length (Prod.fst (Prod.snd y))) (Enc.F eRg (Prod.fst (Prod.snd y))) fun (i j : Nat) => List.getD [D.int IntKind.i64 (IntKind.i64.wrap (M.floorW (if M.mixed (Scale.vol (List.getD sc (Int.toNat (Prod.fst y)) dfS)) (Rg.hi (List.getD (M.flows (Enc.list eSc (List.length sc) (Enc.F eSc sc)) d) (Int.toNat (Prod.fst y)) dfR)) (Rg.lo (List.getD ag (Int.toNat (Prod.fst y)) dfR)) new < M.mixed (Scale.vol (List.getD sc (Int.toNat (Prod.fst y)) dfS)) (Rg.lo (List.getD (M.flows (Enc.list eSc (List.length sc) (Enc.F eSc sc)) d) (Int.toNat (Prod.fst y)) dfR)) (Rg.lo (List.getD ag (Int.toNat (Prod.fst y)) dfR)) new then M.mixed (Scale.vol (List.getD sc (Int.toNat (Prod.fst y)) dfS)) (Rg.hi (List.getD (M.flows (Enc.list eSc (List.length sc) (Enc.F eSc sc)) d) (Int.toNat (Prod.fst y)) dfR)) (Rg.lo (List.getD ag (Int.toNat (Prod.fst y)) dfR)) new else M.mixed (Scale.vol (List.getD sc (Int.toNat (Prod.fst y)) dfS)) (Rg.lo (List.getD (M.flows (Enc.list eSc (List.length sc) (Enc.F eSc sc)) d) (Int.toNat (Prod.fst y)) dfR)) (Rg.lo (List.getD ag (Int.toNat (Prod.fst y)) dfR)) new) (Scale.vol (List.getD sc (Int.toNat (Prod.fst y)) dfS)) + (1000 : Int))), D.int IntKind.i64 (IntKind.i64.wrap (M.ceilW (if M.mixed (Scale.vol (List.getD sc (Int.toNat (Prod.fst y)) dfS)) (Rg.hi (List.getD (M.flows (Enc.list eSc (List.length sc) (Enc.F eSc sc)) d) (Int.toNat (Prod.fst y)) dfR)) (Rg.hi (List.getD ag (Int.toNat (Prod.fst y)) dfR)) new > M.mixed (Scale.vol (List.getD sc (Int.toNat (Prod.fst y)) dfS)) (Rg.lo (List.getD (M.flows (Enc.list eSc (List.length sc) (Enc.F eSc sc)) d) (Int.toNat (Prod.fst y)) dfR)) (Rg.hi (List.getD ag (Int.toNat (Prod.fst y)) dfR)) new then M.mixed (Scale.vol (List.getD sc (Int.toNat (Prod.fst y)) dfS)) (Rg.hi (List.getD (M.flows (Enc.list eSc (List.length sc) (Enc.F eSc sc)) d) (Int.toNat (Prod.fst y)) dfR)) (Rg.hi (List.getD ag (Int.toNat (Prod.fst y)) dfR)) new else M.mixed (Scale.vol (List.getD sc (Int.toNat (Prod.fst y)) dfS)) (Rg.lo (List.getD (M.flows (Enc.list eSc (List.length sc) (Enc.F eSc sc)) d) (Int.toNat (Prod.fst y)) dfR)) (Rg.hi (List.getD ag (Int.toNat (Prod.fst y)) dfR)) new) (Scale.vol (List.getD sc (Int.toNat (Prod.fst y)) dfS)) + (1000 : Int)))] (i * (2 : Nat) + j) D.nilp), PUnit.unit))))))))))))))))))))))))))))) (T.need (List.length (Prod.fst (Prod.snd y)) ≤ List.length (Prod.fst (Prod.snd y))) (T.ret (Sum.inr [Ar.c (D.sl true (List.length (Prod.fst (Prod.snd y))) (2 : Nat) (Enc.F eRg (Prod.fst (Prod.snd y)))), Ar.c (D.bool true)]))))))))))
theorem t146 (q_sc : Bool) (sc : List Scale) (new : Int) (q_ag : Bool) (ag : List Rg) (d : Int) : runFnX Try.prog G0 (lookS [v40, v114, v97, v148, v176]) (fun f => [(6, [.slot 10 (.int .i64), .slot 9 .nsl], some [.slot 10 (.int .i64), .slot 9 (.rowE 61 eRg)])]) [] 1 60 4 146 Try.f146 [.agg [.sl q_sc sc.length 4 (eSc.F sc), dI new], .c (.sl q_ag ag.length 2 (eRg.F ag)), .c (dI d)] =
    tr146 q_sc sc new q_ag ag d := by kernel_rfl
theorem w146 (q : Bool) (sc : List Scale) (nw : Int) (qa : Bool) (ag : List Rg) (d : Int) (h1 : ag.length = sc.length) (h3 : sc.length ≤ 100000) (hvol : ∀ k, k < sc.length → (sc.getD k dfS).vol ≠ 0) :
    (tr146 q sc nw qa ag d).wp (fun rs => rsEqv rs (resB (M.refYear sc nw ag d))) := by
  unfold tr146
  simp only [Enc.list_F]
  simp only [flows_len]
  have h2 := flows_len sc d
  refine ⟨Enc.is_F _ _ _, h3, Enc.is_F _ _ _, Enc.is_F _ _ _, Nat.le_refl _, h3, wp_br (fun hc => ?_) (fun hc => ?_)⟩
  · have hc : decide (M.over sc (M.flows sc d) ≥ 0) = true := hc
    have e : M.refYear sc nw ag d = ([], false) := by unfold M.refYear; rw [hc]; rfl
    rw [e]; exact ⟨nil_eqv eRg, rfl, trivial⟩
  have hc : decide (M.over sc (M.flows sc d) ≥ 0) = false := hc
  have e : M.refYear sc nw ag d = (M.year sc nw ag (M.flows sc d), true) := by unfold M.refYear; rw [hc]; rfl
  rw [e]
  show T.wp _ (fun rs => rsEqv rs [.c (dR (M.year sc nw ag (M.flows sc d))), rB true])
  clear e hc
  generalize M.flows sc d = fl at *
  have hW := year_len sc nw ag fl
  have push : ∀ k, k < sc.length → ∀ r, M.yearK (sc.getD k dfS).vol (fl.getD k dfR) (ag.getD k dfR) (M.nextR ag nw k) = r → (M.year sc nw ag fl).take k ++ [r] = (M.year sc nw ag fl).take (k + 1) := by
    intro k hk r hr
    rw [← hr, ← year_get hk, take_push (d := dfR) (by omega)]
  refine ⟨fun z => match z with
    | .inl x => x = ((0 : Int), PUnit.unit, PUnit.unit)
    | .inr y => ∃ k : Nat, 1 ≤ k ∧ k ≤ sc.length ∧ y.1 = k ∧ y.2.1 = (M.year sc nw ag fl).take k,
    fun z => match z with | .inl _ => sc.length + 5 | .inr y => sc.length - y.1.toNat, rfl, ?_, ?_⟩
  · rintro x rfl
    have hw : IntKind.i64.wrap ((0 : Int) + 1) = 1 := rfl
    refine ⟨fun hb => ?_, fun hb => ?_⟩
    · have hb : 0 < sc.length := by have : (0 : Int) < sc.length := of_decide_eq_true hb; omega
      have hv := hvol 0 hb
      have pin : ∀ n : Rg, M.nextR ag nw 0 = n → eRg.Is 1 (joinF 0 (fun _ _ => D.nilp) (rgG (M.yearK (sc.getD 0 dfS).vol (fl.getD 0 dfR) (ag.getD 0 dfR) n).lo (M.yearK (sc.getD 0 dfS).vol (fl.getD 0 dfR) (ag.getD 0 dfR) n).hi)) ∧ eRg.list 1 (joinF 0 (fun _ _ => D.nilp) (rgG (M.yearK (sc.getD 0 dfS).vol (fl.getD 0 dfR) (ag.getD 0 dfR) n).lo (M.yearK (sc.getD 0 dfS).vol (fl.getD 0 dfR) (ag.getD 0 dfR) n).hi)) = (M.year sc nw ag fl).take 1 := by
        intro n hn
        obtain ⟨o1, o2⟩ := push_one eRg (F := fun _ _ => .nilp) (G := rgG (M.yearK (sc.getD 0 dfS).vol (fl.getD 0 dfR) (ag.getD 0 dfR) n).lo (M.yearK (sc.getD 0 dfS).vol (fl.getD 0 dfR) (ag.getD 0 dfR) n).hi) rg_push.1 rg_push.2
        exact ⟨o1, o2.trans (push 0 hb _ (by rw [hn]))⟩
      have fin : ∃ k : Nat, 1 ≤ k ∧ k ≤ sc.length ∧ IntKind.i64.wrap ((0 : Int) + 1) = k ∧ True := ⟨1, Nat.le_refl _, hb, rfl, trivial⟩
      refine ⟨by dsimp only; omega, by dsimp only; omega, wp_br (fun hc => ?_) (fun hc => ?_)⟩
      · have hc : (1 : Int) < ag.length := of_decide_eq_true hc
        obtain ⟨o1, o2⟩ := pin (ag.getD 1 dfR) (by unfold M.nextR; rw [if_pos (by omega)])
        simp only [hw]
        refine ⟨(by first | exact hv | (dsimp only; omega) | omega), (by first | exact hv | (dsimp only; omega) | omega), (by first | exact hv | (dsimp only; omega) | omega), (by first | exact hv | (dsimp only; omega) | omega), (by first | exact hv | (dsimp only; omega) | omega), (by first | exact hv | (dsimp only; omega) | omega), (by first | exact hv | (dsimp only; omega) | omega), (by first | exact hv | (dsimp only; omega) | omega), (by first | exact hv | (dsimp only; omega) | omega), (by first | exact hv | (dsimp only; omega) | omega), (by first | exact hv | (dsimp only; omega) | omega), (by first | exact hv | (dsimp only; omega) | omega), (by first | exact hv | (dsimp only; omega) | omega), (by first | exact hv | (dsimp only; omega) | omega), (by first | exact hv | (dsimp only; omega) | omega), (by first | exact hv | (dsimp only; omega) | omega), (by first | exact hv | (dsimp only; omega) | omega), (by first | exact hv | (dsimp only; omega) | omega), hv, hv, by decide, o1, Nat.le_refl _, ⟨1, Nat.le_refl _, hb, rfl, o2⟩, ?_⟩
        show sc.length - (1 : Int).toNat < sc.length + 5; omega
      · have hc : ¬ (1 : Int) < ag.length := of_decide_eq_false hc
        obtain ⟨o1, o2⟩ := pin ⟨nw, nw⟩ (by unfold M.nextR; rw [if_neg (by omega)])
        refine ⟨(by first | exact hv | (dsimp only; omega) | omega), (by first | exact hv | (dsimp only; omega) | omega), (by first | exact hv | (dsimp only; omega) | omega), (by first | exact hv | (dsimp only; omega) | omega), (by first | exact hv | (dsimp only; omega) | omega), (by first | exact hv | (dsimp only; omega) | omega), (by first | exact hv | (dsimp only; omega) | omega), (by first | exact hv | (dsimp only; omega) | omega), (by first | exact hv | (dsimp only; omega) | omega), (by first | exact hv | (dsimp only; omega) | omega), (by first | exact hv | (dsimp only; omega) | omega), (by first | exact hv | (dsimp only; omega) | omega), (by first | exact hv | (dsimp only; omega) | omega), (by first | exact hv | (dsimp only; omega) | omega), (by first | exact hv | (dsimp only; omega) | omega), (by first | exact hv | (dsimp only; omega) | omega), hv, hv, by decide, o1, Nat.le_refl _, ⟨1, Nat.le_refl _, hb, rfl, o2⟩, ?_⟩
        show sc.length - (1 : Int).toNat < sc.length + 5; omega
    · have h0 : sc.length = 0 := by have : ¬ (0 : Int) < sc.length := of_decide_eq_false hb; omega
      have hW0 : M.year sc nw ag fl = [] := List.length_eq_zero_iff.1 (by omega)
      show rsEqv [.c (.sl false 0 0 _), rB true] _
      rw [hW0]
      exact ⟨nil_eqv eRg, rfl, trivial⟩
  · rintro ⟨y, acc, u⟩ ⟨k, g1, g2, g3, g5⟩
    simp only at g3 g5
    subst g3
    have hacc : acc.length = k := by rw [g5, List.length_take]; omega
    have hw : IntKind.i64.wrap ((k : Int) + 1) = ((k + 1 : Nat) : Int) := wrap_succ (by omega)
    refine ⟨fun hb => ?_, fun hb => ?_⟩
    · have hlt := lt_of_dec hb
      have hv := hvol k hlt
      have pin : ∀ n : Rg, M.nextR ag nw k = n → eRg.Is (acc.length + 1) (joinF acc.length (eRg.F acc) (rgG (M.yearK (sc.getD k dfS).vol (fl.getD k dfR) (ag.getD k dfR) n).lo (M.yearK (sc.getD k dfS).vol (fl.getD k dfR) (ag.getD k dfR) n).hi)) ∧ eRg.list (acc.length + 1) (joinF acc.length (eRg.F acc) (rgG (M.yearK (sc.getD k dfS).vol (fl.getD k dfR) (ag.getD k dfR) n).lo (M.yearK (sc.getD k dfS).vol (fl.getD k dfR) (ag.getD k dfR) n).hi)) = (M.year sc nw ag fl).take (k + 1) := by
        intro n hn
        obtain ⟨o1, o2⟩ := eRg.push (l := acc) (a := M.yearK (sc.getD k dfS).vol (fl.getD k dfR) (ag.getD k dfR) n) (G := rgG (M.yearK (sc.getD k dfS).vol (fl.getD k dfR) (ag.getD k dfR) n).lo (M.yearK (sc.getD k dfS).vol (fl.getD k dfR) (ag.getD k dfR) n).hi) rg_push.1 rg_push.2
        refine ⟨o1, o2.trans ?_⟩
        rw [g5]
        exact push k hlt _ (by rw [hn])
      have mu : sc.length - (IntKind.i64.wrap ((k : Int) + 1)).toNat < sc.length - (k : Int).toNat := by rw [hw]; omega
      refine ⟨by dsimp only; omega, by dsimp only; omega, wp_br (fun hc => ?_) (fun hc => ?_)⟩
      · have hc : IntKind.i64.wrap ((k : Int) + 1) < ag.length := of_decide_eq_true hc
        rw [hw] at hc
        obtain ⟨o1, o2⟩ := pin (ag.getD (k + 1) dfR) (by unfold M.nextR; rw [if_pos (by omega)])
        rw [hw] at mu
        simp only [hw, Int.toNat_natCast]
        refine ⟨(by first | exact hv | (dsimp only; omega) | omega), (by first | exact hv | (dsimp only; omega) | omega), (by first | exact hv | (dsimp only; omega) | omega), (by first | exact hv | (dsimp only; omega) | omega), (by first | exact hv | (dsimp only; omega) | omega), (by first | exact hv | (dsimp only; omega) | omega), (by first | exact hv | (dsimp only; omega) | omega), (by first | exact hv | (dsimp only; omega) | omega), (by first | exact hv | (dsimp only; omega) | omega), (by first | exact hv | (dsimp only; omega) | omega), (by first | exact hv | (dsimp only; omega) | omega), (by first | exact hv | (dsimp only; omega) | omega), (by first | exact hv | (dsimp only; omega) | omega), (by first | exact hv | (dsimp only; omega) | omega), (by first | exact hv | (dsimp only; omega) | omega), (by first | exact hv | (dsimp only; omega) | omega), (by first | exact hv | (dsimp only; omega) | omega), (by first | exact hv | (dsimp only; omega) | omega), hv, hv, (by first | (dsimp only; omega) | omega), Nat.le_refl _, o1, Nat.le_refl _, ⟨k + 1, by omega, hlt, rfl, o2⟩, mu⟩
      · have hc : ¬ IntKind.i64.wrap ((k : Int) + 1) < ag.length := of_decide_eq_false hc
        rw [hw] at hc
        obtain ⟨o1, o2⟩ := pin ⟨nw, nw⟩ (by unfold M.nextR; rw [if_neg (by omega)])
        refine ⟨(by first | exact hv | (dsimp only; omega) | omega), (by first | exact hv | (dsimp only; omega) | omega), (by first | exact hv | (dsimp only; omega) | omega), (by first | exact hv | (dsimp only; omega) | omega), (by first | exact hv | (dsimp only; omega) | omega), (by first | exact hv | (dsimp only; omega) | omega), (by first | exact hv | (dsimp only; omega) | omega), (by first | exact hv | (dsimp only; omega) | omega), (by first | exact hv | (dsimp only; omega) | omega), (by first | exact hv | (dsimp only; omega) | omega), (by first | exact hv | (dsimp only; omega) | omega), (by first | exact hv | (dsimp only; omega) | omega), (by first | exact hv | (dsimp only; omega) | omega), (by first | exact hv | (dsimp only; omega) | omega), (by first | exact hv | (dsimp only; omega) | omega), (by first | exact hv | (dsimp only; omega) | omega), hv, hv, (by first | (dsimp only; omega) | omega), Nat.le_refl _, o1, Nat.le_refl _, ⟨k + 1, by omega, hlt, hw, o2⟩, mu⟩
    · have hge := ge_of_dec hb
      obtain rfl : k = sc.length := by omega
      have hfin : acc = M.year sc nw ag fl := by rw [g5, List.take_of_length_le (by omega)]
      subst hfin
      exact ⟨Nat.le_refl _, ⟨(fun e => by cases e), rfl, fun _ => rfl, fun i j hi hj => D.eqv_refl _⟩, rfl, trivial⟩
def dom146 : DomF
  | [.agg [.sl _ n_sc st_sc F_sc, .int .i64 new], .c (.sl _ n_ag st_ag F_ag), .c (.int .i64 d)] => (match Nat.beq st_sc 4 && Nat.beq st_ag 2 with
    | true => some ([eSc.Is n_sc F_sc, eRg.Is n_ag F_ag, (eRg.list n_ag F_ag).length = (eSc.list n_sc F_sc).length, (eSc.list n_sc F_sc).length ≤ 100000, ∀ k, k < (eSc.list n_sc F_sc).length → ((eSc.list n_sc F_sc).getD k dfS).vol ≠ 0], resB (M.refYear (eSc.list n_sc F_sc) new (eRg.list n_ag F_ag) d))
    | _ => none)
  | _ => none
def v146 : Nat × Sm := (146, fokSm dom146)
theorem C146 : FOK Try.prog G0 gw 146 dom146 := by
  intro ags p r hd hp κ w xs hw hl hG hx
  unfold dom146 at hd
  split at hd
  · rename_i q_sc n_sc st_sc F_sc new q_ag n_ag st_ag F_ag d
    split at hd
    · rename_i hst
      simp only [Bool.and_eq_true] at hst
      obtain ⟨g1, g2⟩ := hst
      have g1 := Nat.eq_of_beq_eq_true g1
      have g2 := Nat.eq_of_beq_eq_true g2
      subst g1 g2
      simp only [Option.some.injEq, Prod.mk.injEq] at hd
      obtain ⟨rfl, rfl⟩ := hd
      obtain ⟨hI_sc, hI_ag, hp⟩ := hp
      have heq : agsEqv [.agg [.sl q_sc n_sc 4 F_sc, .int .i64 new], .c (.sl q_ag n_ag 2 F_ag), .c (.int .i64 d)] [.agg [.sl q_sc (eSc.list n_sc F_sc).length 4 (eSc.F (eSc.list n_sc F_sc)), .int .i64 new], .c (.sl q_ag (eRg.list n_ag F_ag).length 2 (eRg.F (eRg.list n_ag F_ag))), .c (.int .i64 d)] := ⟨⟨eSc.to id hI_sc, rfl, trivial⟩, eRg.to id hI_ag, Ag.eqv_refl _, trivial⟩
      have len_sc : (eSc.list n_sc F_sc).length = n_sc := eSc.list_len
      have len_ag : (eRg.list n_ag F_ag).length = n_ag := eRg.list_len
      generalize eSc.list n_sc F_sc = sc at *
      generalize eRg.list n_ag F_ag = ag at *
      subst len_sc len_ag
      exact fokX_fin mixed gw_stable (sl := [v40, v114, v97, v148, v176]) ⟨S40, S114, S97, S148, S176, trivial⟩ Try.func146 hw hl hG hx heq rfl (t146 _ _ _ _ _ _) (w146 _ _ _ _ _ _ hp.1 hp.2.1 hp.2.2.1)
    · cases hd
  · cases hd
theorem S146 : SumOK Try.prog G0 gw 146 (fokSm dom146) := fok_sum Try.func146 rfl C146
end Go.Pl
end

section
set_option linter.unusedVariables false
set_option linter.unusedSimpArgs false
set_option maxRecDepth 100000
namespace Go.Pl
open Go.V Go.Proofs
namespace M
def afterY (Y : List (List Rg) × Int) (n : Nat) : List Rg × Int := cond (Y.2 != 0) ([], Y.2) (Y.1.getD n [], 0)
def fsY (sc : List Scale) (Y : List (List Rg) × Int) : Int × Int × Int := cond (Y.2 != 0) (0, 0, Y.2) (fscan sc Y.1 ((Y.1.length : Int) - 1).toNat 0)
abbrev Yr (sc : List Scale) (nw : Int) (ag : List Rg) (dr : List Int) : List (List Rg) × Int := yrows sc nw dr dr.length 0 [ag]
end M
theorem ry_full {sc : List Scale} {nw : Int} {ag : List Rg} {d : Int} (h : decide (M.over sc (M.flows sc d) ≥ 0) = true) : M.refYear sc nw ag d = ([], false) := by unfold M.refYear; rw [h]; rfl
theorem ry_ok {sc : List Scale} {nw : Int} {ag : List Rg} {d : Int} (h : decide (M.over sc (M.flows sc d) ≥ 0) = false) : M.refYear sc nw ag d = (M.year sc nw ag (M.flows sc d), true) := by unfold M.refYear; rw [h]; rfl
theorem app_last {α : Type} {l : List α} {x d : α} {n : Nat} (h : l.length = n) : (l ++ [x]).getD n d = x := by
  rw [List.getD_eq_getElem?_getD, List.getElem?_append_right (by omega), h, Nat.sub_self]; rfl
theorem dec_neg {x : Int} : decide (x < 0) = !decide (x ≥ 0) := by
  by_cases h : x < 0
  · rw [decide_eq_true h, decide_eq_false (by omega)]; rfl
  · rw [decide_eq_false h, decide_eq_true (by omega)]; rfl
def tr145 (q_sc : Bool) (sc : List Scale) (new : Int) (q_ag : Bool) (ag : List Rg) (d : Int) : T (List Ar) :=
    T.need (Enc.Is eSc (List.length sc) (Enc.F eSc sc)) (T.need (Enc.Is eRg (List.length ag) (Enc.F eRg ag)) (T.need (List.length (Enc.list eRg (List.length ag) (Enc.F eRg ag)) = List.length (Enc.list eSc (List.length sc) (Enc.F eSc sc))) (T.need (List.length (Enc.list eSc (List.length sc) (Enc.F eSc sc)) ≤ (100000 : Nat)) (T.need (∀ (k : Nat), k < List.length (Enc.list eSc (List.length sc) (Enc.F eSc sc)) → Scale.vol (List.getD (Enc.list eSc (List.length sc) (Enc.F eSc sc)) k dfS) ≠ (0 : Int)) (T.br (Prod.snd (M.refYear (Enc.list eSc (List.length sc) (Enc.F eSc sc)) new (Enc.list eRg (List.length ag) (Enc.F eRg ag)) d)) (T.need (Enc.Is eSc (List.length sc) (Enc.F eSc sc)) (T.need (Enc.Is eRg (List.length (Prod.fst (M.refYear (Enc.list eSc (List.length sc) (Enc.F eSc sc)) new (Enc.list eRg (List.length ag) (Enc.F eRg ag)) d))) (Enc.F eRg (Prod.fst (M.refYear (Enc.list eSc (List.length sc) (Enc.F eSc sc)) new (Enc.list eRg (List.length ag) (Enc.F eRg ag)) d)))) (T.need (List.length (Enc.list eRg (List.length (Prod.fst (M.refYear (Enc.list eSc (List.length sc) (Enc.F eSc sc)) new (Enc.list eRg (List.length ag) (Enc.F eRg ag)) d))) (Enc.F eRg (Prod.fst (M.refYear (Enc.list eSc (List.length sc) (Enc.F eSc sc)) new (Enc.list eRg (List.length ag) (Enc.F eRg ag)) d)))) ≤ List.length (Enc.list eSc (List.length sc) (Enc.F eSc sc))) (T.need (List.length (Enc.list eSc (List.length sc) (Enc.F eSc sc)) ≤ (100000 : Nat)) (T.ret [Ar.c (D.bool (decide (M.short (Enc.list eSc (List.length sc) (Enc.F eSc sc)) (Enc.list eRg (List.length (Prod.fst (M.refYear (Enc.list eSc (List.length sc) (Enc.F eSc sc)) new (Enc.list eRg (List.length ag) (Enc.F eRg ag)) d))) (Enc.F eRg (Prod.fst (M.refYear (Enc.list eSc (List.length sc) (Enc.F eSc sc)) new (Enc.list eRg (List.length ag) (Enc.F eRg ag)) d)))) < (0 : Int))))]))))) (T.ret [Ar.c (D.bool false)]))))))
theorem t145 (q_sc : Bool) (sc : List Scale) (new : Int) (q_ag : Bool) (ag : List Rg) (d : Int) : runFnX Try.prog G0 (lookS [v146, v147]) (fun f => []) [] 1 60 4 145 Try.f145 [.agg [.sl q_sc sc.length 4 (eSc.F sc), dI new], .c (.sl q_ag ag.length 2 (eRg.F ag)), .c (dI d)] =
    tr145 q_sc sc new q_ag ag d := by kernel_rfl
def tr74 (q_sc : Bool) (sc : List Scale) (new : Int) (q_ag : Bool) (ag : List Rg) (q_dr : Bool) (dr : List Int) : T (List Ar) :=
    T.need (Enc.Is eRg (List.length ag) (Enc.F eRg ag)) (T.need (List.length (Enc.list eRg (List.length ag) (Enc.F eRg ag)) ≤ (100000 : Nat)) (T.need (Enc.Is eRg (List.length (Enc.list eRg (List.length ag) (Enc.F eRg ag))) (Enc.F eRg (Enc.list eRg (List.length ag) (Enc.F eRg ag)))) (T.loop (Int × List Rg × PUnit) ((0 : Int), Enc.list eRg (List.length (Enc.list eRg (List.length ag) (Enc.F eRg ag))) (Enc.F eRg (Enc.list eRg (List.length ag) (Enc.F eRg ag))), PUnit.unit) fun (x : Int × List Rg × PUnit) => T.br (decide (Prod.fst x < (Nat.cast (R := Int) (List.length dr)))) (T.need ((0 : Int) ≤ Prod.fst x) (T.need (Prod.fst x < (Nat.cast (R := Int) (List.length dr))) (T.need (Enc.Is eSc (List.length sc) (Enc.F eSc sc)) (T.need (Enc.Is eRg (List.length (Prod.fst (Prod.snd x))) (Enc.F eRg (Prod.fst (Prod.snd x)))) (T.need (List.length (Enc.list eRg (List.length (Prod.fst (Prod.snd x))) (Enc.F eRg (Prod.fst (Prod.snd x)))) = List.length (Enc.list eSc (List.length sc) (Enc.F eSc sc))) (T.need (List.length (Enc.list eSc (List.length sc) (Enc.F eSc sc)) ≤ (100000 : Nat)) (T.need (∀ (k : Nat), k < List.length (Enc.list eSc (List.length sc) (Enc.F eSc sc)) → Scale.vol (List.getD (Enc.list eSc (List.length sc) (Enc.F eSc sc)) k dfS) ≠ (0 : Int)) (T.br (!Prod.snd (M.refYear (Enc.list eSc (List.length sc) (Enc.F eSc sc)) new (Enc.list eRg (List.length (Prod.fst (Prod.snd x))) (Enc.F eRg (Prod.fst (Prod.snd x)))) (List.getD dr (Int.toNat (Prod.fst x)) (0 : Int)))) (T.ret (Sum.inr [Ar.c (D.sl false (0 : Nat) (0 : Nat) fun (x x_1 : Nat) => D.nilp), Ar.c (D.int IntKind.i64 (16 : Int))])) (T.need (Enc.Is eRg (List.length (Prod.fst (M.refYear (Enc.list eSc (List.length sc) (Enc.F eSc sc)) new (Enc.list eRg (List.length (Prod.fst (Prod.snd x))) (Enc.F eRg (Prod.fst (Prod.snd x)))) (List.getD dr (Int.toNat (Prod.fst x)) (0 : Int))))) (Enc.F eRg (Prod.fst (M.refYear (Enc.list eSc (List.length sc) (Enc.F eSc sc)) new (Enc.list eRg (List.length (Prod.fst (Prod.snd x))) (Enc.F eRg (Prod.fst (Prod.snd x)))) (List.getD dr (Int.toNat (Prod.fst x)) (0 : Int)))))) (T.ret (Sum.inl (IntKind.i64.wrap (Prod.fst x + (1 : Int)), Enc.list eRg (List.length (Prod.fst (M.refYear (Enc.list eSc (List.length sc) (Enc.F eSc sc)) new (Enc.list eRg (List.length (Prod.fst (Prod.snd x))) (Enc.F eRg (Prod.fst (Prod.snd x)))) (List.getD dr (Int.toNat (Prod.fst x)) (0 : Int))))) (Enc.F eRg (Prod.fst (M.refYear (Enc.list eSc (List.length sc) (Enc.F eSc sc)) new (Enc.list eRg (List.length (Prod.fst (Prod.snd x))) (Enc.F eRg (Prod.fst (Prod.snd x)))) (List.getD dr (Int.toNat (Prod.fst x)) (0 : Int))))), PUnit.unit)))))))))))) (T.ret (Sum.inr [Ar.c (D.sl false (List.length (Prod.fst (Prod.snd x))) (2 : Nat) (Enc.F eRg (Prod.fst (Prod.snd x)))), Ar.c (D.int IntKind.i64 (0 : Int))])))))
theorem t74 (q_sc : Bool) (sc : List Scale) (new : Int) (q_ag : Bool) (ag : List Rg) (q_dr : Bool) (dr : List Int) : runFnX Try.prog G0 (lookS [v68, v146]) (fun f => [(3, [.slot 9 (.int .i64), .slot 8 (.imE eRg)], none)]) [] 1 60 4 74 Try.f74 [.agg [.sl q_sc sc.length 4 (eSc.F sc), dI new], .c (.sl q_ag ag.length 2 (eRg.F ag)), .c (.sl q_dr dr.length 1 (eI.F dr))] =
    tr74 q_sc sc new q_ag ag q_dr dr := by kernel_rfl
theorem w145 (q : Bool) (sc : List Scale) (nw : Int) (qa : Bool) (ag : List Rg) (d : Int) (h1 : ag.length = sc.length) (h3 : sc.length ≤ 100000) (hvol : ∀ k, k < sc.length → (sc.getD k dfS).vol ≠ 0) :
    (tr145 q sc nw qa ag d).wp (fun rs => rsEqv rs [rB (M.okD sc nw ag d)]) := by
  unfold tr145
  simp only [Enc.list_F]
  refine ⟨Enc.is_F _ _ _, Enc.is_F _ _ _, h1, h3, hvol, ?_⟩
  cases hc : decide (M.over sc (M.flows sc d) ≥ 0) with
  | true =>
    have e : M.okD sc nw ag d = false := by unfold M.okD; rw [hc]; rfl
    rw [ry_full hc, e]
    exact wp_br (fun hb => by cases hb) (fun _ => rsEqv_refl _)
  | false =>
    have e : M.okD sc nw ag d = !decide (M.short sc (M.year sc nw ag (M.flows sc d)) ≥ 0) := by unfold M.okD M.year1; rw [hc]; rfl
    rw [ry_ok hc, e, ← dec_neg]
    exact wp_br (fun _ => ⟨Enc.is_F _ _ _, Enc.is_F _ _ _, Nat.le_of_eq (year_len _ _ _ _), h3, rsEqv_refl _⟩) (fun hb => by cases hb)
theorem w74 (q : Bool) (sc : List Scale) (nw : Int) (qa : Bool) (ag : List Rg) (qd : Bool) (dr : List Int) (h1 : ag.length = sc.length) (h3 : sc.length ≤ 100000) (hvol : ∀ k, k < sc.length → (sc.getD k dfS).vol ≠ 0) (h5 : dr.length ≤ 100000) :
    (tr74 q sc nw qa ag qd dr).wp (fun rs => rsEqv rs (resA (M.afterY (M.Yr sc nw ag dr) dr.length))) := by
  unfold tr74
  simp only [Enc.list_F]
  refine ⟨Enc.is_F _ _ _, by omega, Enc.is_F _ _ _, ?_⟩
  refine range_wp (n := dr.length) (fun k s => ∃ acc : List (List Rg), acc.length = k + 1 ∧ s.1 = acc.getD k [] ∧ s.1.length = sc.length ∧ M.Yr sc nw ag dr = M.yrows sc nw dr (dr.length - k) k acc) ⟨[ag], rfl, rfl, h1, rfl⟩ ?_
  rintro k ⟨a, u⟩ hk ⟨acc, g1, g2, g3, g4⟩
  simp only at g2 g3
  rw [g4]
  refine wp_br (fun hb => ?_) (fun hb => ?_)
  · have hlt := lt_of_dec hb
    have hst := yrows_step (sc := sc) (nw := nw) (dr := dr) (n := dr.length) (k := k) (acc := acc) hlt
    refine ⟨by show (0 : Int) ≤ k; omega, by show (k : Int) < dr.length; omega, Enc.is_F _ _ _, Enc.is_F _ _ _, g3, h3, hvol, ?_⟩
    cases hc : decide (M.over sc (M.flows sc (dr.getD k 0)) ≥ 0) with
    | true =>
      rw [hst, hc]
      show T.wp (T.br (!(M.refYear sc nw a (dr.getD k 0)).2) _ _) _
      rw [ry_full hc]
      exact wp_br (fun _ => ⟨nil_eqv eRg, rfl, trivial⟩) (fun hb => by cases hb)
    | false =>
      rw [hc] at hst
      have hst : M.yrows sc nw dr (dr.length - k) k acc = M.yrows sc nw dr (dr.length - (k + 1)) (k + 1) (acc ++ [M.year sc nw (acc.getD k []) (M.flows sc (dr.getD k 0))]) := hst
      have fin : ∀ x : List Rg × Bool, x = (M.year sc nw a (M.flows sc (dr.getD k 0)), true) → x.1.length = sc.length ∧ (∃ acc' : List (List Rg), acc'.length = k + 1 + 1 ∧ x.1 = acc'.getD (k + 1) [] ∧ x.1.length = sc.length ∧ M.yrows sc nw dr (dr.length - k) k acc = M.yrows sc nw dr (dr.length - (k + 1)) (k + 1) acc') := by
        rintro x rfl
        refine ⟨year_len _ _ _ _, acc ++ [M.year sc nw (acc.getD k []) (M.flows sc (dr.getD k 0))], by rw [List.length_append, g1]; rfl, ?_, year_len _ _ _ _, hst⟩
        rw [app_last g1, g2]
      have hx := ry_ok (nw := nw) (ag := a) hc
      refine wp_br (fun hb => ?_) (fun hb => ?_)
      · have hb : (!(M.refYear sc nw a (dr.getD k 0)).2) = true := hb
        rw [hx] at hb; cases hb
      · exact ⟨Enc.is_F _ _ _, hlt, wrap_succ (by omega), (fin _ hx).2⟩
  · have hge := ge_of_dec hb
    obtain rfl : k = dr.length := by omega
    rw [Nat.sub_self]
    show rsEqv [.c (dR a), rI 0] [.c (dR (acc.getD dr.length [])), rI 0]
    rw [← g2]; exact rsEqv_refl _
def dom145 : DomF
  | [.agg [.sl _ n_sc st_sc F_sc, .int .i64 new], .c (.sl _ n_ag st_ag F_ag), .c (.int .i64 d)] => (match Nat.beq st_sc 4 && Nat.beq st_ag 2 with
    | true => some ([eSc.Is n_sc F_sc, eRg.Is n_ag F_ag, (eRg.list n_ag F_ag).length = (eSc.list n_sc F_sc).length, (eSc.list n_sc F_sc).length ≤ 100000, ∀ k, k < (eSc.list n_sc F_sc).length → ((eSc.list n_sc F_sc).getD k dfS).vol ≠ 0], [rB (M.okD (eSc.list n_sc F_sc) new (eRg.list n_ag F_ag) d)])
    | _ => none)
  | _ => none
def v145 : Nat × Sm := (145, fokSm dom145)
theorem C145 : FOK Try.prog G0 gw 145 dom145 := by
  intro ags p r hd hp κ w xs hw hl hG hx
  unfold dom145 at hd
  split at hd
  · rename_i q_sc n_sc st_sc F_sc new q_ag n_ag st_ag F_ag d
    split at hd
    · rename_i hst
      simp only [Bool.and_eq_true] at hst
      obtain ⟨g1, g2⟩ := hst
      have g1 := Nat.eq_of_beq_eq_true g1
      have g2 := Nat.eq_of_beq_eq_true g2
      subst g1 g2
      simp only [Option.some.injEq, Prod.mk.injEq] at hd
      obtain ⟨rfl, rfl⟩ := hd
      obtain ⟨hI_sc, hI_ag, hp⟩ := hp
      have heq : agsEqv [.agg [.sl q_sc n_sc 4 F_sc, .int .i64 new], .c (.sl q_ag n_ag 2 F_ag), .c (.int .i64 d)] [.agg [.sl q_sc (eSc.list n_sc F_sc).length 4 (eSc.F (eSc.list n_sc F_sc)), .int .i64 new], .c (.sl q_ag (eRg.list n_ag F_ag).length 2 (eRg.F (eRg.list n_ag F_ag))), .c (.int .i64 d)] := ⟨⟨eSc.to id hI_sc, rfl, trivial⟩, eRg.to id hI_ag, Ag.eqv_refl _, trivial⟩
      have len_sc : (eSc.list n_sc F_sc).length = n_sc := eSc.list_len
      have len_ag : (eRg.list n_ag F_ag).length = n_ag := eRg.list_len
      generalize eSc.list n_sc F_sc = sc at *
      generalize eRg.list n_ag F_ag = ag at *
      subst len_sc len_ag
      exact fokX_fin mixed gw_stable (sl := [v146, v147]) ⟨S146, S147, trivial⟩ Try.func145 hw hl hG hx heq rfl (t145 _ _ _ _ _ _) (w145 _ _ _ _ _ _ hp.1 hp.2.1 hp.2.2.1)
    · cases hd
  · cases hd
theorem S145 : SumOK Try.prog G0 gw 145 (fokSm dom145) := fok_sum Try.func145 rfl C145
def dom74 : DomF
  | [.agg [.sl _ n_sc st_sc F_sc, .int .i64 new], .c (.sl _ n_ag st_ag F_ag), .c (.sl _ n_dr st_dr F_dr)] => (match Nat.beq st_sc 4 && Nat.beq st_ag 2 && Nat.beq st_dr 1 with
    | true => some ([eSc.Is n_sc F_sc, eRg.Is n_ag F_ag, eI.Is n_dr F_dr, (eRg.list n_ag F_ag).length = (eSc.list n_sc F_sc).length, (eSc.list n_sc F_sc).length ≤ 100000, ∀ k, k < (eSc.list n_sc F_sc).length → ((eSc.list n_sc F_sc).getD k dfS).vol ≠ 0, (eI.list n_dr F_dr).length ≤ 100000], resA (M.afterY (M.Yr (eSc.list n_sc F_sc) new (eRg.list n_ag F_ag) (eI.list n_dr F_dr)) (eI.list n_dr F_dr).length))
    | _ => none)
  | _ => none
def v74 : Nat × Sm := (74, fokSm dom74)
theorem C74 : FOK Try.prog G0 gw 74 dom74 := by
  intro ags p r hd hp κ w xs hw hl hG hx
  unfold dom74 at hd
  split at hd
  · rename_i q_sc n_sc st_sc F_sc new q_ag n_ag st_ag F_ag q_dr n_dr st_dr F_dr
    split at hd
    · rename_i hst
      simp only [Bool.and_eq_true] at hst
      obtain ⟨⟨g1, g2⟩, g3⟩ := hst
      have g1 := Nat.eq_of_beq_eq_true g1
      have g2 := Nat.eq_of_beq_eq_true g2
      have g3 := Nat.eq_of_beq_eq_true g3
      subst g1 g2 g3
      simp only [Option.some.injEq, Prod.mk.injEq] at hd
      obtain ⟨rfl, rfl⟩ := hd
      obtain ⟨hI_sc, hI_ag, hI_dr, hp⟩ := hp
      have heq : agsEqv [.agg [.sl q_sc n_sc 4 F_sc, .int .i64 new], .c (.sl q_ag n_ag 2 F_ag), .c (.sl q_dr n_dr 1 F_dr)] [.agg [.sl q_sc (eSc.list n_sc F_sc).length 4 (eSc.F (eSc.list n_sc F_sc)), .int .i64 new], .c (.sl q_ag (eRg.list n_ag F_ag).length 2 (eRg.F (eRg.list n_ag F_ag))), .c (.sl q_dr (eI.list n_dr F_dr).length 1 (eI.F (eI.list n_dr F_dr)))] := ⟨⟨eSc.to id hI_sc, rfl, trivial⟩, eRg.to id hI_ag, eI.to id hI_dr, trivial⟩
      have len_sc : (eSc.list n_sc F_sc).length = n_sc := eSc.list_len
      have len_ag : (eRg.list n_ag F_ag).length = n_ag := eRg.list_len
      have len_dr : (eI.list n_dr F_dr).length = n_dr := eI.list_len
      generalize eSc.list n_sc F_sc = sc at *
      generalize eRg.list n_ag F_ag = ag at *
      generalize eI.list n_dr F_dr = dr at *
      subst len_sc len_ag len_dr
      exact fokX_fin mixed gw_stable (sl := [v68, v146]) ⟨S68, S146, trivial⟩ Try.func74 hw hl hG hx heq rfl (t74 _ _ _ _ _ _ _) (w74 _ _ _ _ _ _ _ hp.1 hp.2.1 hp.2.2.1 hp.2.2.2.1)
    · cases hd
  · cases hd
theorem S74 : SumOK Try.prog G0 gw 74 (fokSm dom74) := fok_sum Try.func74 rfl C74
end Go.Pl
end

section
set_option linter.unusedVariables false
set_option linter.unusedSimpArgs false
set_option maxRecDepth 100000
namespace Go.Pl
open Go.V Go.Proofs
theorem afterY_2 (Y : List (List Rg) × Int) (n : Nat) : (M.afterY Y n).2 = Y.2 := by
  unfold M.afterY
  cases hb : (Y.2 != 0) with
  | true => rfl
  | false => have h : Y.2 = 0 := by simpa using hb
             rw [h]; rfl
theorem yrows_get {sc : List Scale} {nw : Int} {dr : List Int} : ∀ (m k : Nat) (acc : List (List Rg)), acc.length = k + 1 → (M.yrows sc nw dr m k acc).2 = 0 →
    (∀ i, i ≤ k → (M.yrows sc nw dr m k acc).1.getD i [] = acc.getD i []) ∧ ∀ i, k ≤ i → i < k + m → decide (M.over sc (M.flows sc (dr.getD i 0)) ≥ 0) = false ∧ (M.yrows sc nw dr m k acc).1.getD (i + 1) [] = M.year sc nw ((M.yrows sc nw dr m k acc).1.getD i []) (M.flows sc (dr.getD i 0)) := by
  intro m
  induction m with
  | zero => intro k acc h1 _; exact ⟨fun i _ => rfl, fun i h2 h3 => by omega⟩
  | succ m ih =>
    intro k acc h1 h
    cases hc : decide (M.over sc (M.flows sc (dr.getD k 0)) ≥ 0) with
    | true =>
      simp only [M.yrows] at h
      rw [hc] at h; have h : (16 : Int) = 0 := h; exact absurd h (by decide)
    | false =>
      have e : M.yrows sc nw dr (m + 1) k acc = M.yrows sc nw dr m (k + 1) (acc ++ [M.year sc nw (acc.getD k []) (M.flows sc (dr.getD k 0))]) := by
        simp only [M.yrows]; rw [hc]; rfl
      rw [e] at h ⊢
      obtain ⟨i1, i2⟩ := ih (k + 1) _ (by rw [List.length_append, h1]; rfl) h
      have left : ∀ i, i ≤ k → (acc ++ [M.year sc nw (acc.getD k []) (M.flows sc (dr.getD k 0))]).getD i [] = acc.getD i [] := by
        intro i hi
        rw [List.getD_eq_getElem?_getD, List.getElem?_append_left (by omega), ← List.getD_eq_getElem?_getD]
      refine ⟨fun i hi => (i1 i (by omega)).trans (left i hi), fun i h2 h3 => ?_⟩
      rcases Nat.lt_or_ge k i with hl | hl
      · exact i2 i (by omega) (by omega)
      · obtain rfl : i = k := by omega
        refine ⟨hc, ?_⟩
        rw [i1 (i + 1) (Nat.le_refl _), i1 i (by omega), left i (Nat.le_refl _), app_last h1]
theorem top_false {sc : List Scale} {nw : Int} {ag : List Rg} (h : (M.checkSys sc nw).2 = 0) : M.okD sc nw ag 20001 = false := by
  obtain ⟨h1, _, _, h4⟩ := sys_right h
  have hs := h4 0 h1
  obtain ⟨v1, v2⟩ := vol_right hs
  have hh : 0 ≤ (sc.getD 0 dfS).h ∧ (sc.getD 0 dfS).h ≤ (sc.getD 0 dfS).vol := by
    unfold M.scaleErr at hs
    rw [first_of] at hs
    split at hs
    · rw [first_of] at hs
      split at hs
      · rename_i hr
        unfold M.rgErr at hr
        rw [first_of] at hr
        split at hr
        · rename_i a
          have a := unl_zero (by decide) a
          rw [Bool.and_eq_true] at a
          exact within_iff.1 a.2
        · rename_i a; exact absurd hr a
      · rename_i a; exact absurd hs a
    · rename_i a; exact absurd hs a
  have hf : ((M.flows sc 20001).getD 0 dfR).hi = 20001 + (sc.getD 0 dfS).h := by
    rw [flows_get h1]
    show IntKind.i64.wrap (20001 + (sc.getD 0 dfS).h) = _
    exact wrap_ok (by unfold i64ok; omega)
  have ho : M.over sc (M.flows sc 20001) = 0 := by
    unfold M.over
    rw [flows_len]
    obtain ⟨m, hm⟩ : ∃ m, sc.length = m + 1 := ⟨sc.length - 1, by omega⟩
    rw [hm]
    simp only [M.overF]
    rw [hf, decide_eq_true (by omega)]; rfl
  unfold M.okD
  rw [ho]; rfl
def tr72 (q_sc : Bool) (sc : List Scale) (new : Int) (q_ag : Bool) (ag : List Rg) : T (List Ar) :=
    T.loop (Int × PUnit) ((-1 : Int), PUnit.unit) fun (x : Int × PUnit) => T.need (Enc.Is eSc (List.length sc) (Enc.F eSc sc)) (T.need (Enc.Is eRg (List.length ag) (Enc.F eRg ag)) (T.need (List.length (Enc.list eRg (List.length ag) (Enc.F eRg ag)) = List.length (Enc.list eSc (List.length sc) (Enc.F eSc sc))) (T.need (List.length (Enc.list eSc (List.length sc) (Enc.F eSc sc)) ≤ (100000 : Nat)) (T.need (∀ (k : Nat), k < List.length (Enc.list eSc (List.length sc) (Enc.F eSc sc)) → Scale.vol (List.getD (Enc.list eSc (List.length sc) (Enc.F eSc sc)) k dfS) ≠ (0 : Int)) (T.br (M.okD (Enc.list eSc (List.length sc) (Enc.F eSc sc)) new (Enc.list eRg (List.length ag) (Enc.F eRg ag)) (IntKind.i64.wrap (Prod.fst x + (1 : Int)))) (T.ret (Sum.inl (IntKind.i64.wrap (Prod.fst x + (1 : Int)), PUnit.unit))) (T.ret (Sum.inr [Ar.c (D.int IntKind.i64 (Prod.fst x))])))))))
theorem t72 (q_sc : Bool) (sc : List Scale) (new : Int) (q_ag : Bool) (ag : List Rg) : runFnX Try.prog G0 (lookS [v145]) (fun f => [(2, [.slot 5 (.int .i64)], none)]) [] 1 60 4 72 Try.f72 [.agg [.sl q_sc sc.length 4 (eSc.F sc), dI new], .c (.sl q_ag ag.length 2 (eRg.F ag))] =
    tr72 q_sc sc new q_ag ag := by kernel_rfl
def tr75 (q_sc : Bool) (sc : List Scale) (new : Int) (q_ag : Bool) (ag : List Rg) (q_dr : Bool) (dr : List Int) : T (List Ar) :=
    T.need (Enc.Is eSc (List.length sc) (Enc.F eSc sc)) (T.need (Enc.Is eRg (List.length ag) (Enc.F eRg ag)) (T.need (Enc.Is eI (List.length dr) (Enc.F eI dr)) (T.need (List.length (Enc.list eRg (List.length ag) (Enc.F eRg ag)) = List.length (Enc.list eSc (List.length sc) (Enc.F eSc sc))) (T.need (List.length (Enc.list eSc (List.length sc) (Enc.F eSc sc)) ≤ (100000 : Nat)) (T.need (∀ (k : Nat), k < List.length (Enc.list eSc (List.length sc) (Enc.F eSc sc)) → Scale.vol (List.getD (Enc.list eSc (List.length sc) (Enc.F eSc sc)) k dfS) ≠ (0 : Int)) (T.need (List.length (Enc.list eI (List.length dr) (Enc.F eI dr)) ≤ (100000 : Nat)) (T.br (Prod.snd (M.afterY (M.Yr (Enc.list eSc (List.length sc) (Enc.F eSc sc)) new (Enc.list eRg (List.length ag) (Enc.F eRg ag)) (Enc.list eI (List.length dr) (Enc.F eI dr))) (List.length (Enc.list eI (List.length dr) (Enc.F eI dr)))) != (0 : Int)) (T.ret [Ar.agg [D.int IntKind.i64 (0 : Int), D.int IntKind.i64 (0 : Int)], Ar.c (D.int IntKind.i64 (Prod.snd (M.afterY (M.Yr (Enc.list eSc (List.length sc) (Enc.F eSc sc)) new (Enc.list eRg (List.length ag) (Enc.F eRg ag)) (Enc.list eI (List.length dr) (Enc.F eI dr))) (List.length (Enc.list eI (List.length dr) (Enc.F eI dr))))))]) (T.need (Enc.Is eRg (List.length ag) (Enc.F eRg ag)) (T.need (List.length (Enc.list eRg (List.length ag) (Enc.F eRg ag)) ≤ (100000 : Nat)) (T.need (Enc.Is eRg (List.length (Enc.list eRg (List.length ag) (Enc.F eRg ag))) (Enc.F eRg (Enc.list eRg (List.length ag) (Enc.F eRg ag)))) (T.loop (Int × List Rg × Int × Int × PUnit) ((0 : Int), Enc.list eRg (List.length (Enc.list eRg (List.length ag) (Enc.F eRg ag))) (Enc.F eRg (Enc.list eRg (List.length ag) (Enc.F eRg ag))), (0 : Int), (0 : Int), PUnit.unit) fun (x : Int × List Rg × Int × Int × PUnit) => T.br (decide (Prod.fst x < (Nat.cast (R := Int) (List.length dr)))) (T.need ((0 : Int) ≤ Prod.fst x) (T.need (Prod.fst x < (Nat.cast (R := Int) (List.length dr))) (T.need (Enc.Is eSc (List.length sc) (Enc.F eSc sc)) (T.need (Enc.Is eRg (List.length (Prod.fst (Prod.snd x))) (Enc.F eRg (Prod.fst (Prod.snd x)))) (T.need (List.length (Enc.list eRg (List.length (Prod.fst (Prod.snd x))) (Enc.F eRg (Prod.fst (Prod.snd x)))) = List.length (Enc.list eSc (List.length sc) (Enc.F eSc sc))) (T.need (List.length (Enc.list eSc (List.length sc) (Enc.F eSc sc)) ≤ (100000 : Nat)) (T.need (∀ (k : Nat), k < List.length (Enc.list eSc (List.length sc) (Enc.F eSc sc)) → Scale.vol (List.getD (Enc.list eSc (List.length sc) (Enc.F eSc sc)) k dfS) ≠ (0 : Int)) (T.need (Enc.Is eSc (List.length sc) (Enc.F eSc sc)) (T.need (Enc.Is eRg (List.length (Prod.fst (M.refYear (Enc.list eSc (List.length sc) (Enc.F eSc sc)) new (Enc.list eRg (List.length (Prod.fst (Prod.snd x))) (Enc.F eRg (Prod.fst (Prod.snd x)))) (List.getD dr (Int.toNat (Prod.fst x)) (0 : Int))))) (Enc.F eRg (Prod.fst (M.refYear (Enc.list eSc (List.length sc) (Enc.F eSc sc)) new (Enc.list eRg (List.length (Prod.fst (Prod.snd x))) (Enc.F eRg (Prod.fst (Prod.snd x)))) (List.getD dr (Int.toNat (Prod.fst x)) (0 : Int)))))) (T.need (List.length (Enc.list eRg (List.length (Prod.fst (M.refYear (Enc.list eSc (List.length sc) (Enc.F eSc sc)) new (Enc.list eRg (List.length (Prod.fst (Prod.snd x))) (Enc.F eRg (Prod.fst (Prod.snd x)))) (List.getD dr (Int.toNat (Prod.fst x)) (0 : Int))))) (Enc.F eRg (Prod.fst (M.refYear (Enc.list eSc (List.length sc) (Enc.F eSc sc)) new (Enc.list eRg (List.length (Prod.fst (Prod.snd x))) (Enc.F eRg (Prod.fst (Prod.snd x)))) (List.getD dr (Int.toNat (Prod.fst x)) (0 : Int)))))) ≤ List.length (Enc.list eSc (List.length sc) (Enc.F eSc sc))) (T.need (List.length (Enc.list eSc (List.length sc) (Enc.F eSc sc)) ≤ (100000 : Nat)) (T.br (decide (M.short (Enc.list eSc (List.length sc) (Enc.F eSc sc)) (Enc.list eRg (List.length (Prod.fst (M.refYear (Enc.list eSc (List.length sc) (Enc.F eSc sc)) new (Enc.list eRg (List.length (Prod.fst (Prod.snd x))) (Enc.F eRg (Prod.fst (Prod.snd x)))) (List.getD dr (Int.toNat (Prod.fst x)) (0 : Int))))) (Enc.F eRg (Prod.fst (M.refYear (Enc.list eSc (List.length sc) (Enc.F eSc sc)) new (Enc.list eRg (List.length (Prod.fst (Prod.snd x))) (Enc.F eRg (Prod.fst (Prod.snd x)))) (List.getD dr (Int.toNat (Prod.fst x)) (0 : Int)))))) ≥ (0 : Int))) (T.ret (Sum.inr [Ar.agg [D.int IntKind.i64 (Prod.fst x), D.int IntKind.i64 (M.short (Enc.list eSc (List.length sc) (Enc.F eSc sc)) (Enc.list eRg (List.length (Prod.fst (M.refYear (Enc.list eSc (List.length sc) (Enc.F eSc sc)) new (Enc.list eRg (List.length (Prod.fst (Prod.snd x))) (Enc.F eRg (Prod.fst (Prod.snd x)))) (List.getD dr (Int.toNat (Prod.fst x)) (0 : Int))))) (Enc.F eRg (Prod.fst (M.refYear (Enc.list eSc (List.length sc) (Enc.F eSc sc)) new (Enc.list eRg (List.length (Prod.fst (Prod.snd x))) (Enc.F eRg (Prod.fst (Prod.snd x)))) (List.getD dr (Int.toNat (Prod.fst x)) (0 : Int)))))))], Ar.c (D.int IntKind.i64 (0 : Int))])) (T.need (Enc.Is eRg (List.length (Prod.fst (M.refYear (Enc.list eSc (List.length sc) (Enc.F eSc sc)) new (Enc.list eRg (List.length (Prod.fst (Prod.snd x))) (Enc.F eRg (Prod.fst (Prod.snd x)))) (List.getD dr (Int.toNat (Prod.fst x)) (0 : Int))))) (Enc.F eRg (Prod.fst (M.refYear (Enc.list eSc (List.length sc) (Enc.F eSc sc)) new (Enc.list eRg (List.length (Prod.fst (Prod.snd x))) (Enc.F eRg (Prod.fst (Prod.snd x)))) (List.getD dr (Int.toNat (Prod.fst x)) (0 : Int)))))) (T.ret (Sum.inl (IntKind.i64.wrap (Prod.fst x + (1 : Int)), Enc.list eRg (List.length (Prod.fst (M.refYear (Enc.list eSc (List.length sc) (Enc.F eSc sc)) new (Enc.list eRg (List.length (Prod.fst (Prod.snd x))) (Enc.F eRg (Prod.fst (Prod.snd x)))) (List.getD dr (Int.toNat (Prod.fst x)) (0 : Int))))) (Enc.F eRg (Prod.fst (M.refYear (Enc.list eSc (List.length sc) (Enc.F eSc sc)) new (Enc.list eRg (List.length (Prod.fst (Prod.snd x))) (Enc.F eRg (Prod.fst (Prod.snd x)))) (List.getD dr (Int.toNat (Prod.fst x)) (0 : Int))))), Prod.fst (Prod.snd (Prod.snd x)), Prod.fst (Prod.snd (Prod.snd (Prod.snd x))), PUnit.unit)))))))))))))))) (T.ret (Sum.inr [Ar.agg [D.int IntKind.i64 (0 : Int), D.int IntKind.i64 (0 : Int)], Ar.c (D.int IntKind.i64 (12 : Int))])))))))))))))
theorem t75 (q_sc : Bool) (sc : List Scale) (new : Int) (q_ag : Bool) (ag : List Rg) (q_dr : Bool) (dr : List Int) : runFnX Try.prog G0 (lookS [v68, v74, v146, v147]) (fun f => [(6, [.slot 11 (.int .i64), .slot 10 (.imE eRg), .blk 6 [.int .i64, .int .i64]], none)]) [] 1 60 4 75 Try.f75 [.agg [.sl q_sc sc.length 4 (eSc.F sc), dI new], .c (.sl q_ag ag.length 2 (eRg.F ag)), .c (.sl q_dr dr.length 1 (eI.F dr))] =
    tr75 q_sc sc new q_ag ag q_dr dr := by kernel_rfl
theorem w72 (q : Bool) (sc : List Scale) (nw : Int) (qa : Bool) (ag : List Rg) (h1 : ag.length = sc.length) (h3 : sc.length ≤ 100000) (hs : (M.checkSys sc nw).2 = 0) :
    (tr72 q sc nw qa ag).wp (fun rs => rsEqv rs [rI (M.great (M.okD sc nw ag))]) := by
  have hvol := sys_vol hs
  unfold tr72
  simp only [Enc.list_F]
  refine ⟨fun x => ∃ k : Nat, k ≤ 20001 ∧ x.1 = (k : Int) - 1 ∧ M.great (M.okD sc nw ag) = M.greatF (M.okD sc nw ag) (20001 - k) k ((k : Int) - 1), fun x => 20001 - (x.1 + 1).toNat, ⟨0, by omega, rfl, rfl⟩, ?_⟩
  rintro ⟨x, s⟩ ⟨k, hk, hx, hI⟩
  simp only at hx
  subst hx
  have hw : IntKind.i64.wrap ((k : Int) - 1 + 1) = k := by rw [show (k : Int) - 1 + 1 = k by omega]; exact wrap_ok (by unfold i64ok; omega)
  refine ⟨Enc.is_F _ _ _, Enc.is_F _ _ _, h1, h3, hvol, wp_br (fun hb => ?_) (fun hb => ?_)⟩
  · have hb : M.okD sc nw ag (IntKind.i64.wrap ((k : Int) - 1 + 1)) = true := hb
    rw [hw] at hb
    have hlt : k < 20001 := by
      rcases Nat.lt_or_ge k 20001 with h | h
      · exact h
      · obtain rfl : k = 20001 := by omega
        have := top_false (ag := ag) hs
        rw [show ((20001 : Nat) : Int) = 20001 from rfl, this] at hb; cases hb
    have hst := great_step (ok := M.okD sc nw ag) (n := (k : Int) - 1) hlt
    rw [hb] at hst
    refine ⟨⟨k + 1, by omega, ?_, ?_⟩, ?_⟩
    · show IntKind.i64.wrap ((k : Int) - 1 + 1) = _
      rw [hw]; omega
    · rw [hI, hst, show (((k + 1 : Nat) : Int) - 1) = k by omega]; rfl
    · show 20001 - (IntKind.i64.wrap ((k : Int) - 1 + 1) + 1).toNat < 20001 - ((k : Int) - 1 + 1).toNat
      rw [hw]; omega
  · have hb : M.okD sc nw ag (IntKind.i64.wrap ((k : Int) - 1 + 1)) = false := hb
    rw [hw] at hb
    refine rI_eqv' (a := (k : Int) - 1) ?_
    rw [hI]
    rcases Nat.lt_or_ge k 20001 with h | h
    · rw [great_step h, hb]; rfl
    · obtain rfl : k = 20001 := by omega
      rfl
theorem w75 (q : Bool) (sc : List Scale) (nw : Int) (qa : Bool) (ag : List Rg) (qd : Bool) (dr : List Int) (h1 : ag.length = sc.length) (h3 : sc.length ≤ 100000) (hvol : ∀ k, k < sc.length → (sc.getD k dfS).vol ≠ 0) (h5 : dr.length ≤ 100000) :
    (tr75 q sc nw qa ag qd dr).wp (fun rs => rsEqv rs (resS (M.fsY sc (M.Yr sc nw ag dr)))) := by
  unfold tr75
  simp only [Enc.list_F, afterY_2]
  refine ⟨Enc.is_F _ _ _, Enc.is_F _ _ _, Enc.is_F _ _ _, h1, h3, hvol, h5, wp_br (fun hb => ?_) (fun hb => ?_)⟩
  · refine eqS (x := (0, 0, (M.Yr sc nw ag dr).2)) ?_
    unfold M.fsY; rw [hb]; rfl
  have h0 : (M.Yr sc nw ag dr).2 = 0 := by simpa using hb
  obtain ⟨y1, y2⟩ := yrows_ok dr.length 0 [ag] rfl (by intro r hr; rw [List.mem_singleton.1 hr]; exact h1) h0
  obtain ⟨z1, z2⟩ := yrows_get dr.length 0 [ag] rfl h0
  have e1 : M.fsY sc (M.Yr sc nw ag dr) = M.fscan sc (M.Yr sc nw ag dr).1 (dr.length - 0) 0 := by
    unfold M.fsY; rw [hb]
    show M.fscan _ _ _ _ = _
    rw [show (((M.Yr sc nw ag dr).1.length : Int) - 1).toNat = dr.length by have : (M.Yr sc nw ag dr).1.length = 0 + 1 + dr.length := y1; omega]; rfl
  rw [e1]
  have z0 : (M.Yr sc nw ag dr).1.getD 0 [] = ag := z1 0 (Nat.le_refl _)
  have z2 : ∀ i, 0 ≤ i → i < 0 + dr.length → decide (M.over sc (M.flows sc (dr.getD i 0)) ≥ 0) = false ∧ (M.Yr sc nw ag dr).1.getD (i + 1) [] = M.year sc nw ((M.Yr sc nw ag dr).1.getD i []) (M.flows sc (dr.getD i 0)) := z2
  clear y1 y2 z1 e1 hb h0
  generalize (M.Yr sc nw ag dr).1 = L at *
  refine ⟨Enc.is_F _ _ _, by omega, Enc.is_F _ _ _, ?_⟩
  refine range_wp (n := dr.length) (fun k s => s.1 = L.getD k [] ∧ s.1.length = sc.length ∧ M.fscan sc L (dr.length - 0) 0 = M.fscan sc L (dr.length - k) k) ⟨z0.symm, h1, rfl⟩ ?_
  rintro k ⟨a, s⟩ hk ⟨g1, g2, g3⟩
  simp only at g1 g2
  rw [g3]
  refine wp_br (fun hb => ?_) (fun hb => ?_)
  · have hlt := lt_of_dec hb
    obtain ⟨c1, c2⟩ := z2 k (Nat.zero_le _) (by omega)
    have hst := fscan_step (sc := sc) (L := L) hlt
    have hy : M.refYear sc nw a (dr.getD k 0) = (L.getD (1 + k) [], true) := by rw [ry_ok c1, Nat.add_comm, c2, g1]
    have hl : (L.getD (1 + k) []).length = sc.length := by rw [Nat.add_comm, c2]; exact year_len _ _ _ _
    refine ⟨by show (0 : Int) ≤ k; omega, by show (k : Int) < dr.length; omega, Enc.is_F _ _ _, Enc.is_F _ _ _, g2, h3, hvol, Enc.is_F _ _ _, Enc.is_F _ _ _, ?_, h3, wp_br (fun hc => ?_) (fun hc => ?_)⟩
    · show (M.refYear sc nw a (dr.getD k 0)).1.length ≤ sc.length
      rw [hy]; exact Nat.le_of_eq hl
    · have hc : decide (M.short sc (M.refYear sc nw a (dr.getD k 0)).1 ≥ 0) = true := hc
      refine eqS (x := ((k : Int), M.short sc (M.refYear sc nw a (dr.getD k 0)).1, 0)) ?_
      rw [hy] at hc ⊢
      have hc : decide (M.short sc (L.getD (1 + k) []) ≥ 0) = true := hc
      rw [hst, hc]; rfl
    · have hc : decide (M.short sc (M.refYear sc nw a (dr.getD k 0)).1 ≥ 0) = false := hc
      have fin : ∀ x : List Rg × Bool, x = (L.getD (1 + k) [], true) → decide (M.short sc x.1 ≥ 0) = false → x.1 = L.getD (k + 1) [] ∧ x.1.length = sc.length ∧ M.fscan sc L (dr.length - k) k = M.fscan sc L (dr.length - (k + 1)) (k + 1) := by
        rintro x rfl hx
        have hx : decide (M.short sc (L.getD (1 + k) []) ≥ 0) = false := hx
        exact ⟨by rw [Nat.add_comm], hl, by rw [hst, hx]; rfl⟩
      exact ⟨Enc.is_F _ _ _, hlt, wrap_succ (by omega), fin _ hy hc⟩
  · have hge := ge_of_dec hb
    obtain rfl : k = dr.length := by omega
    rw [Nat.sub_self]
    exact rsEqv_refl _
def dom72 : DomF
  | [.agg [.sl _ n_sc st_sc F_sc, .int .i64 new], .c (.sl _ n_ag st_ag F_ag)] => (match Nat.beq st_sc 4 && Nat.beq st_ag 2 with
    | true => some ([eSc.Is n_sc F_sc, eRg.Is n_ag F_ag, (eRg.list n_ag F_ag).length = (eSc.list n_sc F_sc).length, (eSc.list n_sc F_sc).length ≤ 100000, (M.checkSys (eSc.list n_sc F_sc) new).2 = 0], [rI (M.great (M.okD (eSc.list n_sc F_sc) new (eRg.list n_ag F_ag)))])
    | _ => none)
  | _ => none
def v72 : Nat × Sm := (72, fokSm dom72)
theorem C72 : FOK Try.prog G0 gw 72 dom72 := by
  intro ags p r hd hp κ w xs hw hl hG hx
  unfold dom72 at hd
  split at hd
  · rename_i q_sc n_sc st_sc F_sc new q_ag n_ag st_ag F_ag
    split at hd
    · rename_i hst
      simp only [Bool.and_eq_true] at hst
      obtain ⟨g1, g2⟩ := hst
      have g1 := Nat.eq_of_beq_eq_true g1
      have g2 := Nat.eq_of_beq_eq_true g2
      subst g1 g2
      simp only [Option.some.injEq, Prod.mk.injEq] at hd
      obtain ⟨rfl, rfl⟩ := hd
      obtain ⟨hI_sc, hI_ag, hp⟩ := hp
      have heq : agsEqv [.agg [.sl q_sc n_sc 4 F_sc, .int .i64 new], .c (.sl q_ag n_ag 2 F_ag)] [.agg [.sl q_sc (eSc.list n_sc F_sc).length 4 (eSc.F (eSc.list n_sc F_sc)), .int .i64 new], .c (.sl q_ag (eRg.list n_ag F_ag).length 2 (eRg.F (eRg.list n_ag F_ag)))] := ⟨⟨eSc.to id hI_sc, rfl, trivial⟩, eRg.to id hI_ag, trivial⟩
      have len_sc : (eSc.list n_sc F_sc).length = n_sc := eSc.list_len
      have len_ag : (eRg.list n_ag F_ag).length = n_ag := eRg.list_len
      generalize eSc.list n_sc F_sc = sc at *
      generalize eRg.list n_ag F_ag = ag at *
      subst len_sc len_ag
      exact fokX_fin mixed gw_stable (sl := [v145]) ⟨S145, trivial⟩ Try.func72 hw hl hG hx heq rfl (t72 _ _ _ _ _) (w72 _ _ _ _ _ hp.1 hp.2.1 hp.2.2.1)
    · cases hd
  · cases hd
theorem S72 : SumOK Try.prog G0 gw 72 (fokSm dom72) := fok_sum Try.func72 rfl C72
def dom75 : DomF
  | [.agg [.sl _ n_sc st_sc F_sc, .int .i64 new], .c (.sl _ n_ag st_ag F_ag), .c (.sl _ n_dr st_dr F_dr)] => (match Nat.beq st_sc 4 && Nat.beq st_ag 2 && Nat.beq st_dr 1 with
    | true => some ([eSc.Is n_sc F_sc, eRg.Is n_ag F_ag, eI.Is n_dr F_dr, (eRg.list n_ag F_ag).length = (eSc.list n_sc F_sc).length, (eSc.list n_sc F_sc).length ≤ 100000, ∀ k, k < (eSc.list n_sc F_sc).length → ((eSc.list n_sc F_sc).getD k dfS).vol ≠ 0, (eI.list n_dr F_dr).length ≤ 100000], resS (M.fsY (eSc.list n_sc F_sc) (M.Yr (eSc.list n_sc F_sc) new (eRg.list n_ag F_ag) (eI.list n_dr F_dr))))
    | _ => none)
  | _ => none
def v75 : Nat × Sm := (75, fokSm dom75)
theorem C75 : FOK Try.prog G0 gw 75 dom75 := by
  intro ags p r hd hp κ w xs hw hl hG hx
  unfold dom75 at hd
  split at hd
  · rename_i q_sc n_sc st_sc F_sc new q_ag n_ag st_ag F_ag q_dr n_dr st_dr F_dr
    split at hd
    · rename_i hst
      simp only [Bool.and_eq_true] at hst
      obtain ⟨⟨g1, g2⟩, g3⟩ := hst
      have g1 := Nat.eq_of_beq_eq_true g1
      have g2 := Nat.eq_of_beq_eq_true g2
      have g3 := Nat.eq_of_beq_eq_true g3
      subst g1 g2 g3
      simp only [Option.some.injEq, Prod.mk.injEq] at hd
      obtain ⟨rfl, rfl⟩ := hd
      obtain ⟨hI_sc, hI_ag, hI_dr, hp⟩ := hp
      have heq : agsEqv [.agg [.sl q_sc n_sc 4 F_sc, .int .i64 new], .c (.sl q_ag n_ag 2 F_ag), .c (.sl q_dr n_dr 1 F_dr)] [.agg [.sl q_sc (eSc.list n_sc F_sc).length 4 (eSc.F (eSc.list n_sc F_sc)), .int .i64 new], .c (.sl q_ag (eRg.list n_ag F_ag).length 2 (eRg.F (eRg.list n_ag F_ag))), .c (.sl q_dr (eI.list n_dr F_dr).length 1 (eI.F (eI.list n_dr F_dr)))] := ⟨⟨eSc.to id hI_sc, rfl, trivial⟩, eRg.to id hI_ag, eI.to id hI_dr, trivial⟩
      have len_sc : (eSc.list n_sc F_sc).length = n_sc := eSc.list_len
      have len_ag : (eRg.list n_ag F_ag).length = n_ag := eRg.list_len
      have len_dr : (eI.list n_dr F_dr).length = n_dr := eI.list_len
      generalize eSc.list n_sc F_sc = sc at *
      generalize eRg.list n_ag F_ag = ag at *
      generalize eI.list n_dr F_dr = dr at *
      subst len_sc len_ag len_dr
      exact fokX_fin mixed gw_stable (sl := [v68, v74, v146, v147]) ⟨S68, S74, S146, S147, trivial⟩ Try.func75 hw hl hG hx heq rfl (t75 _ _ _ _ _ _ _) (w75 _ _ _ _ _ _ _ hp.1 hp.2.1 hp.2.2.1 hp.2.2.2.1)
    · cases hd
  · cases hd
theorem S75 : SumOK Try.prog G0 gw 75 (fokSm dom75) := fok_sum Try.func75 rfl C75
end Go.Pl
end

section
set_option linter.unusedVariables false
set_option linter.unusedSimpArgs false
set_option maxRecDepth 100000
namespace Go.Pl
open Go.V Go.Proofs
theorem br_t {α : Type} {b : Bool} {x y : T α} {Q : α → Prop} (h : b = true) (hx : x.wp Q) : (T.br b x y).wp Q := wp_br (fun _ => hx) (fun h' => by rw [h] at h'; cases h')
theorem br_f {α : Type} {b : Bool} {x y : T α} {Q : α → Prop} (h : b = false) (hy : y.wp Q) : (T.br b x y).wp Q := wp_br (fun h' => by rw [h] at h'; cases h') (fun _ => hy)
theorem years_bad {sc : List Scale} {nw : Int} {ag : List Rg} {dr : List Int} {e : Int} (he : e ≠ 0) (h : M.years sc nw ag dr = ([], e)) : M.after sc nw ag dr = ([], e) ∧ M.firstShort sc nw ag dr = (0, 0, e) := by
  have hb : (e != 0) = true := bne_iff_ne.2 he
  unfold M.after M.firstShort
  rw [h]
  simp only [hb, cond_true]
  exact ⟨trivial, trivial⟩
theorem law13 (sc : List Scale) (nw : Int) (ag : List Rg) (dr : List Int) :
    (∃ e, e ≠ 0 ∧ M.after sc nw ag dr = ([], e) ∧ M.firstShort sc nw ag dr = (0, 0, e) ∧ M.greatNow sc nw ag = (0, e) ∧ ((M.checkSys sc nw).2 = e ∨ ((M.checkSys sc nw).2 = 0 ∧ M.agesErr sc.length ag = e))) ∨
    ((M.checkSys sc nw).2 = 0 ∧ M.agesErr sc.length ag = 0 ∧ ((M.great (M.okD sc nw ag) < 0 ∧ M.greatNow sc nw ag = (0, 12)) ∨ (0 ≤ M.great (M.okD sc nw ag) ∧ M.greatNow sc nw ag = (M.great (M.okD sc nw ag), 0))) ∧
      ((∃ e, e ≠ 0 ∧ M.drawsE dr = e ∧ M.after sc nw ag dr = ([], e) ∧ M.firstShort sc nw ag dr = (0, 0, e)) ∨ (M.drawsE dr = 0 ∧ M.after sc nw ag dr = M.afterY (M.Yr sc nw ag dr) dr.length ∧ M.firstShort sc nw ag dr = M.fsY sc (M.Yr sc nw ag dr)))) := by
  by_cases hs : (M.checkSys sc nw).2 = 0
  case neg =>
    have hb : ((M.checkSys sc nw).2 != 0) = true := bne_iff_ne.2 hs
    have hy := years_bad hs (show M.years sc nw ag dr = ([], (M.checkSys sc nw).2) by unfold M.years; rw [hb]; rfl)
    exact .inl ⟨_, hs, hy.1, hy.2, by unfold M.greatNow; rw [hb]; rfl, .inl rfl⟩
  by_cases ha : M.agesErr sc.length ag = 0
  case neg =>
    have hb : (M.agesErr sc.length ag != 0) = true := bne_iff_ne.2 ha
    have hf : M.first [M.agesErr sc.length ag, M.unl (decide ((dr.length : Int) ≤ 30)) 8] = M.agesErr sc.length ag := by rw [first_of, if_neg ha]
    have hy := years_bad ha (show M.years sc nw ag dr = ([], M.agesErr sc.length ag) by unfold M.years M.years1; rw [hs, hf, hb]; rfl)
    exact .inl ⟨_, ha, hy.1, hy.2, by unfold M.greatNow; rw [hs, hb]; rfl, .inr ⟨hs, rfl⟩⟩
  refine .inr ⟨hs, ha, ?_, ?_⟩
  · have e : M.greatNow sc nw ag = cond (decide (M.great (M.okD sc nw ag) < 0)) (0, 12) (M.great (M.okD sc nw ag), 0) := by unfold M.greatNow; rw [hs, ha]; rfl
    by_cases hg : M.great (M.okD sc nw ag) < 0
    · rw [decide_eq_true hg] at e; exact .inl ⟨hg, e⟩
    · rw [decide_eq_false hg] at e; exact .inr ⟨by omega, e⟩
  · by_cases hl : (dr.length : Int) ≤ 30
    · have hf : M.first [M.agesErr sc.length ag, M.unl (decide ((dr.length : Int) ≤ 30)) 8] = 0 := by rw [ha, decide_eq_true hl]; rfl
      have e1 : M.years sc nw ag dr = M.years0 sc nw ag dr := by unfold M.years M.years1; rw [hs, hf]; rfl
      have ed : M.drawsE dr = M.drawsErr dr := by unfold M.drawsE; rw [decide_eq_false (by omega)]; rfl
      by_cases hd : M.drawsErr dr = 0
      · have e2 : M.years sc nw ag dr = M.Yr sc nw ag dr := by rw [e1]; unfold M.years0; rw [hd]; rfl
        refine .inr ⟨ed.trans hd, ?_, ?_⟩
        · unfold M.after; rw [e2]; rfl
        · unfold M.firstShort; rw [e2]; rfl
      · have hb : (M.drawsErr dr != 0) = true := bne_iff_ne.2 hd
        have hy := years_bad hd (show M.years sc nw ag dr = ([], M.drawsErr dr) by rw [e1]; unfold M.years0; rw [hb]; rfl)
        exact .inl ⟨_, hd, ed, hy.1, hy.2⟩
    · have hf : M.first [M.agesErr sc.length ag, M.unl (decide ((dr.length : Int) ≤ 30)) 8] = 8 := by rw [ha, decide_eq_false hl]; rfl
      have hy := years_bad (e := 8) (by decide) (show M.years sc nw ag dr = ([], 8) by unfold M.years M.years1; rw [hs, hf]; rfl)
      exact .inl ⟨8, by decide, by unfold M.drawsE; rw [decide_eq_true (by omega)]; rfl, hy.1, hy.2⟩
abbrev cS (sc : List Scale) : List Scale := Enc.list eSc (List.length sc) (Enc.F eSc sc)
abbrev cR (ag : List Rg) : List Rg := Enc.list eRg (List.length ag) (Enc.F eRg ag)
abbrev cI (dr : List Int) : List Int := Enc.list eI (List.length dr) (Enc.F eI dr)
abbrev iS (sc : List Scale) : Prop := Enc.Is eSc (List.length sc) (Enc.F eSc sc)
abbrev iR (ag : List Rg) : Prop := Enc.Is eRg (List.length ag) (Enc.F eRg ag)
abbrev iI (dr : List Int) : Prop := Enc.Is eI (List.length dr) (Enc.F eI dr)
abbrev cA (sc : List Scale) (nw : Int) (ag : List Rg) (dr : List Int) := M.after (cS (cS sc)) nw (cR (cR ag)) (cI (cI dr))
abbrev cF (sc : List Scale) (nw : Int) (ag : List Rg) (dr : List Int) := M.firstShort (cS (cS sc)) nw (cR (cR ag)) (cI (cI dr))
abbrev cG (sc : List Scale) (nw : Int) (ag : List Rg) := M.greatNow (cS (cS sc)) nw (cR (cR ag))
abbrev cY (sc : List Scale) (nw : Int) (ag : List Rg) (dr : List Int) := M.afterY (M.Yr (cS sc) nw (cR ag) (cI dr)) (List.length (cI dr))
abbrev cZ (sc : List Scale) (nw : Int) (ag : List Rg) (dr : List Int) := M.fsY (cS sc) (M.Yr (cS sc) nw (cR ag) (cI dr))
abbrev cN : T (List Ar) := T.ret [Ar.c (D.bool false)]
def tr13 (q_sc : Bool) (sc : List Scale) (new : Int) (q_ag : Bool) (ag : List Rg) (q_dr : Bool) (dr : List Int) : T (List Ar) :=
    T.br (!true) cN (T.need (iS sc) (T.br (!decide ((Nat.cast (R := Int) (List.length (cS sc))) ≤ (6 : Int))) (T.ret [Ar.c (D.bool true)]) (T.br (decide ((Nat.cast (R := Int) (List.length ag)) > (6 : Int))) (T.ret [Ar.c (D.bool true)]) (T.br (decide ((Nat.cast (R := Int) (List.length dr)) > (6 : Int))) (T.br (decide ((Nat.cast (R := Int) (List.length dr)) ≤ (30 : Int))) (T.ret [Ar.c (D.bool true)]) (T.br (decide ((Nat.cast (R := Int) (List.length dr)) > (32 : Int))) (T.ret [Ar.c (D.bool true)]) (T.need (iS sc) (T.need (List.length (cS sc) ≤ (100000 : Nat)) (T.need (iR ag) (T.need (List.length (cR ag) ≤ (100000 : Nat)) (T.need (iI dr) (T.need (List.length (cI dr) ≤ (1000000 : Nat)) (T.need (iS (cS sc)) (T.need (iR (cR ag)) (T.need (iI (cI dr)) (T.need (List.length (cS (cS sc)) ≤ (100000 : Nat)) (T.need (List.length (cR (cR ag)) ≤ (100000 : Nat)) (T.need (List.length (cI (cI dr)) ≤ (100000 : Nat)) (T.need (iS sc) (T.need (List.length (cS sc) ≤ (100000 : Nat)) (T.need (iR ag) (T.need (List.length (cR ag) ≤ (100000 : Nat)) (T.need (iI dr) (T.need (List.length (cI dr) ≤ (1000000 : Nat)) (T.need (iS (cS sc)) (T.need (iR (cR ag)) (T.need (iI (cI dr)) (T.need (List.length (cS (cS sc)) ≤ (100000 : Nat)) (T.need (List.length (cR (cR ag)) ≤ (100000 : Nat)) (T.need (List.length (cI (cI dr)) ≤ (100000 : Nat)) (T.need (iS sc) (T.need (List.length (cS sc) ≤ (100000 : Nat)) (T.need (iR ag) (T.need (List.length (cR ag) ≤ (100000 : Nat)) (T.need (iS (cS sc)) (T.need (iR (cR ag)) (T.need (List.length (cS (cS sc)) ≤ (100000 : Nat)) (T.need (List.length (cR (cR ag)) ≤ (100000 : Nat)) (T.need (iS sc) (T.need (List.length (cS sc) ≤ (100000 : Nat)) (T.br (Prod.snd (M.checkSys (cS sc) new) == (0 : Int)) (T.need (iS sc) (T.need (iR ag) (T.need (List.length (cR ag) ≤ (100000 : Nat)) (T.br (M.agesErr (List.length (cS sc)) (cR ag) != (0 : Int)) (T.br (Prod.snd (cA sc new ag dr) == M.agesErr (List.length (cS sc)) (cR ag)) (T.br (Prod.snd (Prod.snd (cF sc new ag dr)) == M.agesErr (List.length (cS sc)) (cR ag)) (T.br (Prod.snd (cG sc new ag) == M.agesErr (List.length (cS sc)) (cR ag)) (T.br ((Nat.cast (R := Int) (List.length (Prod.fst (cA sc new ag dr)))) == (0 : Int)) (T.br (Prod.fst (cF sc new ag dr) == (0 : Int) && (Prod.fst (Prod.snd (cF sc new ag dr)) == (0 : Int) && true)) (T.ret [Ar.c (D.bool (Prod.fst (cG sc new ag) == (0 : Int)))]) cN) cN) cN) cN) cN) (T.need (iS sc) (T.need (iR ag) (T.need (List.length (cR ag) = List.length (cS sc)) (T.need (List.length (cS sc) ≤ (100000 : Nat)) (T.need (Prod.snd (M.checkSys (cS sc) new) = (0 : Int)) (T.br (decide (M.great (M.okD (cS sc) new (cR ag)) < (0 : Int))) (T.br (Prod.snd (cG sc new ag) != (12 : Int)) cN (T.br (Prod.fst (cG sc new ag) != (0 : Int)) cN (T.br (decide (M.great (M.okD (cS sc) new (cR ag)) ≥ (0 : Int))) (T.br (Prod.snd (cG sc new ag) != (0 : Int)) cN (T.br (Prod.fst (cG sc new ag) != M.great (M.okD (cS sc) new (cR ag))) cN (T.need (iI dr) (T.br (M.drawsE (cI dr) != (0 : Int)) (T.br (Prod.snd (cA sc new ag dr) == M.drawsE (cI dr)) (T.br (Prod.snd (Prod.snd (cF sc new ag dr)) == M.drawsE (cI dr)) (T.br ((Nat.cast (R := Int) (List.length (Prod.fst (cA sc new ag dr)))) == (0 : Int)) (T.ret [Ar.c (D.bool (Prod.fst (cF sc new ag dr) == (0 : Int) && (Prod.fst (Prod.snd (cF sc new ag dr)) == (0 : Int) && true)))]) cN) cN) cN) (T.need (iS sc) (T.need (iR ag) (T.need (iI dr) (T.need (List.length (cR ag) = List.length (cS sc)) (T.need (List.length (cS sc) ≤ (100000 : Nat)) (T.need (∀ (k : Nat), k < List.length (cS sc) → Scale.vol (List.getD (cS sc) k dfS) ≠ (0 : Int)) (T.need (List.length (cI dr) ≤ (100000 : Nat)) (T.need (iS sc) (T.need (iR ag) (T.need (iI dr) (T.need (List.length (cR ag) = List.length (cS sc)) (T.need (List.length (cS sc) ≤ (100000 : Nat)) (T.need (∀ (k : Nat), k < List.length (cS sc) → Scale.vol (List.getD (cS sc) k dfS) ≠ (0 : Int)) (T.need (List.length (cI dr) ≤ (100000 : Nat)) (T.br (Prod.snd (cA sc new ag dr) == Prod.snd (cY sc new ag dr)) (T.need (Enc.Is eRg (List.length (Prod.fst (cA sc new ag dr))) (Enc.F eRg (Prod.fst (cA sc new ag dr)))) (T.need (Enc.Is eRg (List.length (Prod.fst (cY sc new ag dr))) (Enc.F eRg (Prod.fst (cY sc new ag dr)))) (T.need (Enc.list eRg (List.length (Prod.fst (cA sc new ag dr))) (Enc.F eRg (Prod.fst (cA sc new ag dr))) = Enc.list eRg (List.length (Prod.fst (cY sc new ag dr))) (Enc.F eRg (Prod.fst (cY sc new ag dr)))) (T.need (List.length (Enc.list eRg (List.length (Prod.fst (cA sc new ag dr))) (Enc.F eRg (Prod.fst (cA sc new ag dr)))) ≤ (100000 : Nat)) (T.br true (T.br (Prod.snd (Prod.snd (cF sc new ag dr)) == Prod.snd (Prod.snd (cZ sc new ag dr))) (T.ret [Ar.c (D.bool (Prod.fst (cF sc new ag dr) == Prod.fst (cZ sc new ag dr) && (Prod.fst (Prod.snd (cF sc new ag dr)) == Prod.fst (Prod.snd (cZ sc new ag dr)) && true)))]) cN) cN))))) cN))))))))))))))))))) (T.need (iI dr) (T.br (M.drawsE (cI dr) != (0 : Int)) (T.br (Prod.snd (cA sc new ag dr) == M.drawsE (cI dr)) (T.br (Prod.snd (Prod.snd (cF sc new ag dr)) == M.drawsE (cI dr)) (T.br ((Nat.cast (R := Int) (List.length (Prod.fst (cA sc new ag dr)))) == (0 : Int)) (T.ret [Ar.c (D.bool (Prod.fst (cF sc new ag dr) == (0 : Int) && (Prod.fst (Prod.snd (cF sc new ag dr)) == (0 : Int) && true)))]) cN) cN) cN) (T.need (iS sc) (T.need (iR ag) (T.need (iI dr) (T.need (List.length (cR ag) = List.length (cS sc)) (T.need (List.length (cS sc) ≤ (100000 : Nat)) (T.need (∀ (k : Nat), k < List.length (cS sc) → Scale.vol (List.getD (cS sc) k dfS) ≠ (0 : Int)) (T.need (List.length (cI dr) ≤ (100000 : Nat)) (T.need (iS sc) (T.need (iR ag) (T.need (iI dr) (T.need (List.length (cR ag) = List.length (cS sc)) (T.need (List.length (cS sc) ≤ (100000 : Nat)) (T.need (∀ (k : Nat), k < List.length (cS sc) → Scale.vol (List.getD (cS sc) k dfS) ≠ (0 : Int)) (T.need (List.length (cI dr) ≤ (100000 : Nat)) (T.br (Prod.snd (cA sc new ag dr) == Prod.snd (cY sc new ag dr)) (T.need (Enc.Is eRg (List.length (Prod.fst (cA sc new ag dr))) (Enc.F eRg (Prod.fst (cA sc new ag dr)))) (T.need (Enc.Is eRg (List.length (Prod.fst (cY sc new ag dr))) (Enc.F eRg (Prod.fst (cY sc new ag dr)))) (T.need (Enc.list eRg (List.length (Prod.fst (cA sc new ag dr))) (Enc.F eRg (Prod.fst (cA sc new ag dr))) = Enc.list eRg (List.length (Prod.fst (cY sc new ag dr))) (Enc.F eRg (Prod.fst (cY sc new ag dr)))) (T.need (List.length (Enc.list eRg (List.length (Prod.fst (cA sc new ag dr))) (Enc.F eRg (Prod.fst (cA sc new ag dr)))) ≤ (100000 : Nat)) (T.br true (T.br (Prod.snd (Prod.snd (cF sc new ag dr)) == Prod.snd (Prod.snd (cZ sc new ag dr))) (T.ret [Ar.c (D.bool (Prod.fst (cF sc new ag dr) == Prod.fst (cZ sc new ag dr) && (Prod.fst (Prod.snd (cF sc new ag dr)) == Prod.fst (Prod.snd (cZ sc new ag dr)) && true)))]) cN) cN))))) cN)))))))))))))))))))) (T.br (decide (M.great (M.okD (cS sc) new (cR ag)) ≥ (0 : Int))) (T.br (Prod.snd (cG sc new ag) != (0 : Int)) cN (T.br (Prod.fst (cG sc new ag) != M.great (M.okD (cS sc) new (cR ag))) cN (T.need (iI dr) (T.br (M.drawsE (cI dr) != (0 : Int)) (T.br (Prod.snd (cA sc new ag dr) == M.drawsE (cI dr)) (T.br (Prod.snd (Prod.snd (cF sc new ag dr)) == M.drawsE (cI dr)) (T.br ((Nat.cast (R := Int) (List.length (Prod.fst (cA sc new ag dr)))) == (0 : Int)) (T.ret [Ar.c (D.bool (Prod.fst (cF sc new ag dr) == (0 : Int) && (Prod.fst (Prod.snd (cF sc new ag dr)) == (0 : Int) && true)))]) cN) cN) cN) (T.need (iS sc) (T.need (iR ag) (T.need (iI dr) (T.need (List.length (cR ag) = List.length (cS sc)) (T.need (List.length (cS sc) ≤ (100000 : Nat)) (T.need (∀ (k : Nat), k < List.length (cS sc) → Scale.vol (List.getD (cS sc) k dfS) ≠ (0 : Int)) (T.need (List.length (cI dr) ≤ (100000 : Nat)) (T.need (iS sc) (T.need (iR ag) (T.need (iI dr) (T.need (List.length (cR ag) = List.length (cS sc)) (T.need (List.length (cS sc) ≤ (100000 : Nat)) (T.need (∀ (k : Nat), k < List.length (cS sc) → Scale.vol (List.getD (cS sc) k dfS) ≠ (0 : Int)) (T.need (List.length (cI dr) ≤ (100000 : Nat)) (T.br (Prod.snd (cA sc new ag dr) == Prod.snd (cY sc new ag dr)) (T.need (Enc.Is eRg (List.length (Prod.fst (cA sc new ag dr))) (Enc.F eRg (Prod.fst (cA sc new ag dr)))) (T.need (Enc.Is eRg (List.length (Prod.fst (cY sc new ag dr))) (Enc.F eRg (Prod.fst (cY sc new ag dr)))) (T.need (Enc.list eRg (List.length (Prod.fst (cA sc new ag dr))) (Enc.F eRg (Prod.fst (cA sc new ag dr))) = Enc.list eRg (List.length (Prod.fst (cY sc new ag dr))) (Enc.F eRg (Prod.fst (cY sc new ag dr)))) (T.need (List.length (Enc.list eRg (List.length (Prod.fst (cA sc new ag dr))) (Enc.F eRg (Prod.fst (cA sc new ag dr)))) ≤ (100000 : Nat)) (T.br true (T.br (Prod.snd (Prod.snd (cF sc new ag dr)) == Prod.snd (Prod.snd (cZ sc new ag dr))) (T.ret [Ar.c (D.bool (Prod.fst (cF sc new ag dr) == Prod.fst (cZ sc new ag dr) && (Prod.fst (Prod.snd (cF sc new ag dr)) == Prod.fst (Prod.snd (cZ sc new ag dr)) && true)))]) cN) cN))))) cN))))))))))))))))))) (T.need (iI dr) (T.br (M.drawsE (cI dr) != (0 : Int)) (T.br (Prod.snd (cA sc new ag dr) == M.drawsE (cI dr)) (T.br (Prod.snd (Prod.snd (cF sc new ag dr)) == M.drawsE (cI dr)) (T.br ((Nat.cast (R := Int) (List.length (Prod.fst (cA sc new ag dr)))) == (0 : Int)) (T.ret [Ar.c (D.bool (Prod.fst (cF sc new ag dr) == (0 : Int) && (Prod.fst (Prod.snd (cF sc new ag dr)) == (0 : Int) && true)))]) cN) cN) cN) (T.need (iS sc) (T.need (iR ag) (T.need (iI dr) (T.need (List.length (cR ag) = List.length (cS sc)) (T.need (List.length (cS sc) ≤ (100000 : Nat)) (T.need (∀ (k : Nat), k < List.length (cS sc) → Scale.vol (List.getD (cS sc) k dfS) ≠ (0 : Int)) (T.need (List.length (cI dr) ≤ (100000 : Nat)) (T.need (iS sc) (T.need (iR ag) (T.need (iI dr) (T.need (List.length (cR ag) = List.length (cS sc)) (T.need (List.length (cS sc) ≤ (100000 : Nat)) (T.need (∀ (k : Nat), k < List.length (cS sc) → Scale.vol (List.getD (cS sc) k dfS) ≠ (0 : Int)) (T.need (List.length (cI dr) ≤ (100000 : Nat)) (T.br (Prod.snd (cA sc new ag dr) == Prod.snd (cY sc new ag dr)) (T.need (Enc.Is eRg (List.length (Prod.fst (cA sc new ag dr))) (Enc.F eRg (Prod.fst (cA sc new ag dr)))) (T.need (Enc.Is eRg (List.length (Prod.fst (cY sc new ag dr))) (Enc.F eRg (Prod.fst (cY sc new ag dr)))) (T.need (Enc.list eRg (List.length (Prod.fst (cA sc new ag dr))) (Enc.F eRg (Prod.fst (cA sc new ag dr))) = Enc.list eRg (List.length (Prod.fst (cY sc new ag dr))) (Enc.F eRg (Prod.fst (cY sc new ag dr)))) (T.need (List.length (Enc.list eRg (List.length (Prod.fst (cA sc new ag dr))) (Enc.F eRg (Prod.fst (cA sc new ag dr)))) ≤ (100000 : Nat)) (T.br true (T.br (Prod.snd (Prod.snd (cF sc new ag dr)) == Prod.snd (Prod.snd (cZ sc new ag dr))) (T.ret [Ar.c (D.bool (Prod.fst (cF sc new ag dr) == Prod.fst (cZ sc new ag dr) && (Prod.fst (Prod.snd (cF sc new ag dr)) == Prod.fst (Prod.snd (cZ sc new ag dr)) && true)))]) cN) cN))))) cN)))))))))))))))))))))))))))) (T.br (Prod.snd (M.checkSys (cS sc) new) != (0 : Int)) (T.br (Prod.snd (cA sc new ag dr) == Prod.snd (M.checkSys (cS sc) new)) (T.br (Prod.snd (Prod.snd (cF sc new ag dr)) == Prod.snd (M.checkSys (cS sc) new)) (T.br (Prod.snd (cG sc new ag) == Prod.snd (M.checkSys (cS sc) new)) (T.br ((Nat.cast (R := Int) (List.length (Prod.fst (cA sc new ag dr)))) == (0 : Int)) (T.br (Prod.fst (cF sc new ag dr) == (0 : Int) && (Prod.fst (Prod.snd (cF sc new ag dr)) == (0 : Int) && true)) (T.ret [Ar.c (D.bool (Prod.fst (cG sc new ag) == (0 : Int)))]) cN) cN) cN) cN) cN) (T.need (iS sc) (T.need (iR ag) (T.need (List.length (cR ag) = List.length (cS sc)) (T.need (List.length (cS sc) ≤ (100000 : Nat)) (T.need (Prod.snd (M.checkSys (cS sc) new) = (0 : Int)) (T.br (decide (M.great (M.okD (cS sc) new (cR ag)) < (0 : Int))) (T.br (Prod.snd (cG sc new ag) != (12 : Int)) cN (T.br (Prod.fst (cG sc new ag) != (0 : Int)) cN (T.br (decide (M.great (M.okD (cS sc) new (cR ag)) ≥ (0 : Int))) (T.br (Prod.snd (cG sc new ag) != (0 : Int)) cN (T.br (Prod.fst (cG sc new ag) != M.great (M.okD (cS sc) new (cR ag))) cN (T.need (iI dr) (T.br (M.drawsE (cI dr) != (0 : Int)) (T.br (Prod.snd (cA sc new ag dr) == M.drawsE (cI dr)) (T.br (Prod.snd (Prod.snd (cF sc new ag dr)) == M.drawsE (cI dr)) (T.br ((Nat.cast (R := Int) (List.length (Prod.fst (cA sc new ag dr)))) == (0 : Int)) (T.ret [Ar.c (D.bool (Prod.fst (cF sc new ag dr) == (0 : Int) && (Prod.fst (Prod.snd (cF sc new ag dr)) == (0 : Int) && true)))]) cN) cN) cN) (T.need (iS sc) (T.need (iR ag) (T.need (iI dr) (T.need (List.length (cR ag) = List.length (cS sc)) (T.need (List.length (cS sc) ≤ (100000 : Nat)) (T.need (∀ (k : Nat), k < List.length (cS sc) → Scale.vol (List.getD (cS sc) k dfS) ≠ (0 : Int)) (T.need (List.length (cI dr) ≤ (100000 : Nat)) (T.need (iS sc) (T.need (iR ag) (T.need (iI dr) (T.need (List.length (cR ag) = List.length (cS sc)) (T.need (List.length (cS sc) ≤ (100000 : Nat)) (T.need (∀ (k : Nat), k < List.length (cS sc) → Scale.vol (List.getD (cS sc) k dfS) ≠ (0 : Int)) (T.need (List.length (cI dr) ≤ (100000 : Nat)) (T.br (Prod.snd (cA sc new ag dr) == Prod.snd (cY sc new ag dr)) (T.need (Enc.Is eRg (List.length (Prod.fst (cA sc new ag dr))) (Enc.F eRg (Prod.fst (cA sc new ag dr)))) (T.need (Enc.Is eRg (List.length (Prod.fst (cY sc new ag dr))) (Enc.F eRg (Prod.fst (cY sc new ag dr)))) (T.need (Enc.list eRg (List.length (Prod.fst (cA sc new ag dr))) (Enc.F eRg (Prod.fst (cA sc new ag dr))) = Enc.list eRg (List.length (Prod.fst (cY sc new ag dr))) (Enc.F eRg (Prod.fst (cY sc new ag dr)))) (T.need (List.length (Enc.list eRg (List.length (Prod.fst (cA sc new ag dr))) (Enc.F eRg (Prod.fst (cA sc new ag dr)))) ≤ (100000 : Nat)) (T.br true (T.br (Prod.snd (Prod.snd (cF sc new ag dr)) == Prod.snd (Prod.snd (cZ sc new ag dr))) (T.ret [Ar.c (D.bool (Prod.fst (cF sc new ag dr) == Prod.fst (cZ sc new ag dr) && (Prod.fst (Prod.snd (cF sc new ag dr)) == Prod.fst (Prod.snd (cZ sc new ag dr)) && true)))]) cN) cN))))) cN))))))))))))))))))) (T.need (iI dr) (T.br (M.drawsE (cI dr) != (0 : Int)) (T.br (Prod.snd (cA sc new ag dr) == M.drawsE (cI dr)) (T.br (Prod.snd (Prod.snd (cF sc new ag dr)) == M.drawsE (cI dr)) (T.br ((Nat.cast (R := Int) (List.length (Prod.fst (cA sc new ag dr)))) == (0 : Int)) (T.ret [Ar.c (D.bool (Prod.fst (cF sc new ag dr) == (0 : Int) && (Prod.fst (Prod.snd (cF sc new ag dr)) == (0 : Int) && true)))]) cN) cN) cN) (T.need (iS sc) (T.need (iR ag) (T.need (iI dr) (T.need (List.length (cR ag) = List.length (cS sc)) (T.need (List.length (cS sc) ≤ (100000 : Nat)) (T.need (∀ (k : Nat), k < List.length (cS sc) → Scale.vol (List.getD (cS sc) k dfS) ≠ (0 : Int)) (T.need (List.length (cI dr) ≤ (100000 : Nat)) (T.need (iS sc) (T.need (iR ag) (T.need (iI dr) (T.need (List.length (cR ag) = List.length (cS sc)) (T.need (List.length (cS sc) ≤ (100000 : Nat)) (T.need (∀ (k : Nat), k < List.length (cS sc) → Scale.vol (List.getD (cS sc) k dfS) ≠ (0 : Int)) (T.need (List.length (cI dr) ≤ (100000 : Nat)) (T.br (Prod.snd (cA sc new ag dr) == Prod.snd (cY sc new ag dr)) (T.need (Enc.Is eRg (List.length (Prod.fst (cA sc new ag dr))) (Enc.F eRg (Prod.fst (cA sc new ag dr)))) (T.need (Enc.Is eRg (List.length (Prod.fst (cY sc new ag dr))) (Enc.F eRg (Prod.fst (cY sc new ag dr)))) (T.need (Enc.list eRg (List.length (Prod.fst (cA sc new ag dr))) (Enc.F eRg (Prod.fst (cA sc new ag dr))) = Enc.list eRg (List.length (Prod.fst (cY sc new ag dr))) (Enc.F eRg (Prod.fst (cY sc new ag dr)))) (T.need (List.length (Enc.list eRg (List.length (Prod.fst (cA sc new ag dr))) (Enc.F eRg (Prod.fst (cA sc new ag dr)))) ≤ (100000 : Nat)) (T.br true (T.br (Prod.snd (Prod.snd (cF sc new ag dr)) == Prod.snd (Prod.snd (cZ sc new ag dr))) (T.ret [Ar.c (D.bool (Prod.fst (cF sc new ag dr) == Prod.fst (cZ sc new ag dr) && (Prod.fst (Prod.snd (cF sc new ag dr)) == Prod.fst (Prod.snd (cZ sc new ag dr)) && true)))]) cN) cN))))) cN)))))))))))))))))))) (T.br (decide (M.great (M.okD (cS sc) new (cR ag)) ≥ (0 : Int))) (T.br (Prod.snd (cG sc new ag) != (0 : Int)) cN (T.br (Prod.fst (cG sc new ag) != M.great (M.okD (cS sc) new (cR ag))) cN (T.need (iI dr) (T.br (M.drawsE (cI dr) != (0 : Int)) (T.br (Prod.snd (cA sc new ag dr) == M.drawsE (cI dr)) (T.br (Prod.snd (Prod.snd (cF sc new ag dr)) == M.drawsE (cI dr)) (T.br ((Nat.cast (R := Int) (List.length (Prod.fst (cA sc new ag dr)))) == (0 : Int)) (T.ret [Ar.c (D.bool (Prod.fst (cF sc new ag dr) == (0 : Int) && (Prod.fst (Prod.snd (cF sc new ag dr)) == (0 : Int) && true)))]) cN) cN) cN) (T.need (iS sc) (T.need (iR ag) (T.need (iI dr) (T.need (List.length (cR ag) = List.length (cS sc)) (T.need (List.length (cS sc) ≤ (100000 : Nat)) (T.need (∀ (k : Nat), k < List.length (cS sc) → Scale.vol (List.getD (cS sc) k dfS) ≠ (0 : Int)) (T.need (List.length (cI dr) ≤ (100000 : Nat)) (T.need (iS sc) (T.need (iR ag) (T.need (iI dr) (T.need (List.length (cR ag) = List.length (cS sc)) (T.need (List.length (cS sc) ≤ (100000 : Nat)) (T.need (∀ (k : Nat), k < List.length (cS sc) → Scale.vol (List.getD (cS sc) k dfS) ≠ (0 : Int)) (T.need (List.length (cI dr) ≤ (100000 : Nat)) (T.br (Prod.snd (cA sc new ag dr) == Prod.snd (cY sc new ag dr)) (T.need (Enc.Is eRg (List.length (Prod.fst (cA sc new ag dr))) (Enc.F eRg (Prod.fst (cA sc new ag dr)))) (T.need (Enc.Is eRg (List.length (Prod.fst (cY sc new ag dr))) (Enc.F eRg (Prod.fst (cY sc new ag dr)))) (T.need (Enc.list eRg (List.length (Prod.fst (cA sc new ag dr))) (Enc.F eRg (Prod.fst (cA sc new ag dr))) = Enc.list eRg (List.length (Prod.fst (cY sc new ag dr))) (Enc.F eRg (Prod.fst (cY sc new ag dr)))) (T.need (List.length (Enc.list eRg (List.length (Prod.fst (cA sc new ag dr))) (Enc.F eRg (Prod.fst (cA sc new ag dr)))) ≤ (100000 : Nat)) (T.br true (T.br (Prod.snd (Prod.snd (cF sc new ag dr)) == Prod.snd (Prod.snd (cZ sc new ag dr))) (T.ret [Ar.c (D.bool (Prod.fst (cF sc new ag dr) == Prod.fst (cZ sc new ag dr) && (Prod.fst (Prod.snd (cF sc new ag dr)) == Prod.fst (Prod.snd (cZ sc new ag dr)) && true)))]) cN) cN))))) cN))))))))))))))))))) (T.need (iI dr) (T.br (M.drawsE (cI dr) != (0 : Int)) (T.br (Prod.snd (cA sc new ag dr) == M.drawsE (cI dr)) (T.br (Prod.snd (Prod.snd (cF sc new ag dr)) == M.drawsE (cI dr)) (T.br ((Nat.cast (R := Int) (List.length (Prod.fst (cA sc new ag dr)))) == (0 : Int)) (T.ret [Ar.c (D.bool (Prod.fst (cF sc new ag dr) == (0 : Int) && (Prod.fst (Prod.snd (cF sc new ag dr)) == (0 : Int) && true)))]) cN) cN) cN) (T.need (iS sc) (T.need (iR ag) (T.need (iI dr) (T.need (List.length (cR ag) = List.length (cS sc)) (T.need (List.length (cS sc) ≤ (100000 : Nat)) (T.need (∀ (k : Nat), k < List.length (cS sc) → Scale.vol (List.getD (cS sc) k dfS) ≠ (0 : Int)) (T.need (List.length (cI dr) ≤ (100000 : Nat)) (T.need (iS sc) (T.need (iR ag) (T.need (iI dr) (T.need (List.length (cR ag) = List.length (cS sc)) (T.need (List.length (cS sc) ≤ (100000 : Nat)) (T.need (∀ (k : Nat), k < List.length (cS sc) → Scale.vol (List.getD (cS sc) k dfS) ≠ (0 : Int)) (T.need (List.length (cI dr) ≤ (100000 : Nat)) (T.br (Prod.snd (cA sc new ag dr) == Prod.snd (cY sc new ag dr)) (T.need (Enc.Is eRg (List.length (Prod.fst (cA sc new ag dr))) (Enc.F eRg (Prod.fst (cA sc new ag dr)))) (T.need (Enc.Is eRg (List.length (Prod.fst (cY sc new ag dr))) (Enc.F eRg (Prod.fst (cY sc new ag dr)))) (T.need (Enc.list eRg (List.length (Prod.fst (cA sc new ag dr))) (Enc.F eRg (Prod.fst (cA sc new ag dr))) = Enc.list eRg (List.length (Prod.fst (cY sc new ag dr))) (Enc.F eRg (Prod.fst (cY sc new ag dr)))) (T.need (List.length (Enc.list eRg (List.length (Prod.fst (cA sc new ag dr))) (Enc.F eRg (Prod.fst (cA sc new ag dr)))) ≤ (100000 : Nat)) (T.br true (T.br (Prod.snd (Prod.snd (cF sc new ag dr)) == Prod.snd (Prod.snd (cZ sc new ag dr))) (T.ret [Ar.c (D.bool (Prod.fst (cF sc new ag dr) == Prod.fst (cZ sc new ag dr) && (Prod.fst (Prod.snd (cF sc new ag dr)) == Prod.fst (Prod.snd (cZ sc new ag dr)) && true)))]) cN) cN))))) cN)))))))))))))))))))))))))))))))))))))))))))))))))))))))))))))) (T.br (decide ((Nat.cast (R := Int) (List.length dr)) > (32 : Int))) (T.ret [Ar.c (D.bool true)]) (T.need (iS sc) (T.need (List.length (cS sc) ≤ (100000 : Nat)) (T.need (iR ag) (T.need (List.length (cR ag) ≤ (100000 : Nat)) (T.need (iI dr) (T.need (List.length (cI dr) ≤ (1000000 : Nat)) (T.need (iS (cS sc)) (T.need (iR (cR ag)) (T.need (iI (cI dr)) (T.need (List.length (cS (cS sc)) ≤ (100000 : Nat)) (T.need (List.length (cR (cR ag)) ≤ (100000 : Nat)) (T.need (List.length (cI (cI dr)) ≤ (100000 : Nat)) (T.need (iS sc) (T.need (List.length (cS sc) ≤ (100000 : Nat)) (T.need (iR ag) (T.need (List.length (cR ag) ≤ (100000 : Nat)) (T.need (iI dr) (T.need (List.length (cI dr) ≤ (1000000 : Nat)) (T.need (iS (cS sc)) (T.need (iR (cR ag)) (T.need (iI (cI dr)) (T.need (List.length (cS (cS sc)) ≤ (100000 : Nat)) (T.need (List.length (cR (cR ag)) ≤ (100000 : Nat)) (T.need (List.length (cI (cI dr)) ≤ (100000 : Nat)) (T.need (iS sc) (T.need (List.length (cS sc) ≤ (100000 : Nat)) (T.need (iR ag) (T.need (List.length (cR ag) ≤ (100000 : Nat)) (T.need (iS (cS sc)) (T.need (iR (cR ag)) (T.need (List.length (cS (cS sc)) ≤ (100000 : Nat)) (T.need (List.length (cR (cR ag)) ≤ (100000 : Nat)) (T.need (iS sc) (T.need (List.length (cS sc) ≤ (100000 : Nat)) (T.br (Prod.snd (M.checkSys (cS sc) new) == (0 : Int)) (T.need (iS sc) (T.need (iR ag) (T.need (List.length (cR ag) ≤ (100000 : Nat)) (T.br (M.agesErr (List.length (cS sc)) (cR ag) != (0 : Int)) (T.br (Prod.snd (cA sc new ag dr) == M.agesErr (List.length (cS sc)) (cR ag)) (T.br (Prod.snd (Prod.snd (cF sc new ag dr)) == M.agesErr (List.length (cS sc)) (cR ag)) (T.br (Prod.snd (cG sc new ag) == M.agesErr (List.length (cS sc)) (cR ag)) (T.br ((Nat.cast (R := Int) (List.length (Prod.fst (cA sc new ag dr)))) == (0 : Int)) (T.br (Prod.fst (cF sc new ag dr) == (0 : Int) && (Prod.fst (Prod.snd (cF sc new ag dr)) == (0 : Int) && true)) (T.ret [Ar.c (D.bool (Prod.fst (cG sc new ag) == (0 : Int)))]) cN) cN) cN) cN) cN) (T.need (iS sc) (T.need (iR ag) (T.need (List.length (cR ag) = List.length (cS sc)) (T.need (List.length (cS sc) ≤ (100000 : Nat)) (T.need (Prod.snd (M.checkSys (cS sc) new) = (0 : Int)) (T.br (decide (M.great (M.okD (cS sc) new (cR ag)) < (0 : Int))) (T.br (Prod.snd (cG sc new ag) != (12 : Int)) cN (T.br (Prod.fst (cG sc new ag) != (0 : Int)) cN (T.br (decide (M.great (M.okD (cS sc) new (cR ag)) ≥ (0 : Int))) (T.br (Prod.snd (cG sc new ag) != (0 : Int)) cN (T.br (Prod.fst (cG sc new ag) != M.great (M.okD (cS sc) new (cR ag))) cN (T.need (iI dr) (T.br (M.drawsE (cI dr) != (0 : Int)) (T.br (Prod.snd (cA sc new ag dr) == M.drawsE (cI dr)) (T.br (Prod.snd (Prod.snd (cF sc new ag dr)) == M.drawsE (cI dr)) (T.br ((Nat.cast (R := Int) (List.length (Prod.fst (cA sc new ag dr)))) == (0 : Int)) (T.ret [Ar.c (D.bool (Prod.fst (cF sc new ag dr) == (0 : Int) && (Prod.fst (Prod.snd (cF sc new ag dr)) == (0 : Int) && true)))]) cN) cN) cN) (T.need (iS sc) (T.need (iR ag) (T.need (iI dr) (T.need (List.length (cR ag) = List.length (cS sc)) (T.need (List.length (cS sc) ≤ (100000 : Nat)) (T.need (∀ (k : Nat), k < List.length (cS sc) → Scale.vol (List.getD (cS sc) k dfS) ≠ (0 : Int)) (T.need (List.length (cI dr) ≤ (100000 : Nat)) (T.need (iS sc) (T.need (iR ag) (T.need (iI dr) (T.need (List.length (cR ag) = List.length (cS sc)) (T.need (List.length (cS sc) ≤ (100000 : Nat)) (T.need (∀ (k : Nat), k < List.length (cS sc) → Scale.vol (List.getD (cS sc) k dfS) ≠ (0 : Int)) (T.need (List.length (cI dr) ≤ (100000 : Nat)) (T.br (Prod.snd (cA sc new ag dr) == Prod.snd (cY sc new ag dr)) (T.need (Enc.Is eRg (List.length (Prod.fst (cA sc new ag dr))) (Enc.F eRg (Prod.fst (cA sc new ag dr)))) (T.need (Enc.Is eRg (List.length (Prod.fst (cY sc new ag dr))) (Enc.F eRg (Prod.fst (cY sc new ag dr)))) (T.need (Enc.list eRg (List.length (Prod.fst (cA sc new ag dr))) (Enc.F eRg (Prod.fst (cA sc new ag dr))) = Enc.list eRg (List.length (Prod.fst (cY sc new ag dr))) (Enc.F eRg (Prod.fst (cY sc new ag dr)))) (T.need (List.length (Enc.list eRg (List.length (Prod.fst (cA sc new ag dr))) (Enc.F eRg (Prod.fst (cA sc new ag dr)))) ≤ (100000 : Nat)) (T.br true (T.br (Prod.snd (Prod.snd (cF sc new ag dr)) == Prod.snd (Prod.snd (cZ sc new ag dr))) (T.ret [Ar.c (D.bool (Prod.fst (cF sc new ag dr) == Prod.fst (cZ sc new ag dr) && (Prod.fst (Prod.snd (cF sc new ag dr)) == Prod.fst (Prod.snd (cZ sc new ag dr)) && true)))]) cN) cN))))) cN))))))))))))))))))) (T.need (iI dr) (T.br (M.drawsE (cI dr) != (0 : Int)) (T.br (Prod.snd (cA sc new ag dr) == M.drawsE (cI dr)) (T.br (Prod.snd (Prod.snd (cF sc new ag dr)) == M.drawsE (cI dr)) (T.br ((Nat.cast (R := Int) (List.length (Prod.fst (cA sc new ag dr)))) == (0 : Int)) (T.ret [Ar.c (D.bool (Prod.fst (cF sc new ag dr) == (0 : Int) && (Prod.fst (Prod.snd (cF sc new ag dr)) == (0 : Int) && true)))]) cN) cN) cN) (T.need (iS sc) (T.need (iR ag) (T.need (iI dr) (T.need (List.length (cR ag) = List.length (cS sc)) (T.need (List.length (cS sc) ≤ (100000 : Nat)) (T.need (∀ (k : Nat), k < List.length (cS sc) → Scale.vol (List.getD (cS sc) k dfS) ≠ (0 : Int)) (T.need (List.length (cI dr) ≤ (100000 : Nat)) (T.need (iS sc) (T.need (iR ag) (T.need (iI dr) (T.need (List.length (cR ag) = List.length (cS sc)) (T.need (List.length (cS sc) ≤ (100000 : Nat)) (T.need (∀ (k : Nat), k < List.length (cS sc) → Scale.vol (List.getD (cS sc) k dfS) ≠ (0 : Int)) (T.need (List.length (cI dr) ≤ (100000 : Nat)) (T.br (Prod.snd (cA sc new ag dr) == Prod.snd (cY sc new ag dr)) (T.need (Enc.Is eRg (List.length (Prod.fst (cA sc new ag dr))) (Enc.F eRg (Prod.fst (cA sc new ag dr)))) (T.need (Enc.Is eRg (List.length (Prod.fst (cY sc new ag dr))) (Enc.F eRg (Prod.fst (cY sc new ag dr)))) (T.need (Enc.list eRg (List.length (Prod.fst (cA sc new ag dr))) (Enc.F eRg (Prod.fst (cA sc new ag dr))) = Enc.list eRg (List.length (Prod.fst (cY sc new ag dr))) (Enc.F eRg (Prod.fst (cY sc new ag dr)))) (T.need (List.length (Enc.list eRg (List.length (Prod.fst (cA sc new ag dr))) (Enc.F eRg (Prod.fst (cA sc new ag dr)))) ≤ (100000 : Nat)) (T.br true (T.br (Prod.snd (Prod.snd (cF sc new ag dr)) == Prod.snd (Prod.snd (cZ sc new ag dr))) (T.ret [Ar.c (D.bool (Prod.fst (cF sc new ag dr) == Prod.fst (cZ sc new ag dr) && (Prod.fst (Prod.snd (cF sc new ag dr)) == Prod.fst (Prod.snd (cZ sc new ag dr)) && true)))]) cN) cN))))) cN)))))))))))))))))))) (T.br (decide (M.great (M.okD (cS sc) new (cR ag)) ≥ (0 : Int))) (T.br (Prod.snd (cG sc new ag) != (0 : Int)) cN (T.br (Prod.fst (cG sc new ag) != M.great (M.okD (cS sc) new (cR ag))) cN (T.need (iI dr) (T.br (M.drawsE (cI dr) != (0 : Int)) (T.br (Prod.snd (cA sc new ag dr) == M.drawsE (cI dr)) (T.br (Prod.snd (Prod.snd (cF sc new ag dr)) == M.drawsE (cI dr)) (T.br ((Nat.cast (R := Int) (List.length (Prod.fst (cA sc new ag dr)))) == (0 : Int)) (T.ret [Ar.c (D.bool (Prod.fst (cF sc new ag dr) == (0 : Int) && (Prod.fst (Prod.snd (cF sc new ag dr)) == (0 : Int) && true)))]) cN) cN) cN) (T.need (iS sc) (T.need (iR ag) (T.need (iI dr) (T.need (List.length (cR ag) = List.length (cS sc)) (T.need (List.length (cS sc) ≤ (100000 : Nat)) (T.need (∀ (k : Nat), k < List.length (cS sc) → Scale.vol (List.getD (cS sc) k dfS) ≠ (0 : Int)) (T.need (List.length (cI dr) ≤ (100000 : Nat)) (T.need (iS sc) (T.need (iR ag) (T.need (iI dr) (T.need (List.length (cR ag) = List.length (cS sc)) (T.need (List.length (cS sc) ≤ (100000 : Nat)) (T.need (∀ (k : Nat), k < List.length (cS sc) → Scale.vol (List.getD (cS sc) k dfS) ≠ (0 : Int)) (T.need (List.length (cI dr) ≤ (100000 : Nat)) (T.br (Prod.snd (cA sc new ag dr) == Prod.snd (cY sc new ag dr)) (T.need (Enc.Is eRg (List.length (Prod.fst (cA sc new ag dr))) (Enc.F eRg (Prod.fst (cA sc new ag dr)))) (T.need (Enc.Is eRg (List.length (Prod.fst (cY sc new ag dr))) (Enc.F eRg (Prod.fst (cY sc new ag dr)))) (T.need (Enc.list eRg (List.length (Prod.fst (cA sc new ag dr))) (Enc.F eRg (Prod.fst (cA sc new ag dr))) = Enc.list eRg (List.length (Prod.fst (cY sc new ag dr))) (Enc.F eRg (Prod.fst (cY sc new ag dr)))) (T.need (List.length (Enc.list eRg (List.length (Prod.fst (cA sc new ag dr))) (Enc.F eRg (Prod.fst (cA sc new ag dr)))) ≤ (100000 : Nat)) (T.br true (T.br (Prod.snd (Prod.snd (cF sc new ag dr)) == Prod.snd (Prod.snd (cZ sc new ag dr))) (T.ret [Ar.c (D.bool (Prod.fst (cF sc new ag dr) == Prod.fst (cZ sc new ag dr) && (Prod.fst (Prod.snd (cF sc new ag dr)) == Prod.fst (Prod.snd (cZ sc new ag dr)) && true)))]) cN) cN))))) cN))))))))))))))))))) (T.need (iI dr) (T.br (M.drawsE (cI dr) != (0 : Int)) (T.br (Prod.snd (cA sc new ag dr) == M.drawsE (cI dr)) (T.br (Prod.snd (Prod.snd (cF sc new ag dr)) == M.drawsE (cI dr)) (T.br ((Nat.cast (R := Int) (List.length (Prod.fst (cA sc new ag dr)))) == (0 : Int)) (T.ret [Ar.c (D.bool (Prod.fst (cF sc new ag dr) == (0 : Int) && (Prod.fst (Prod.snd (cF sc new ag dr)) == (0 : Int) && true)))]) cN) cN) cN) (T.need (iS sc) (T.need (iR ag) (T.need (iI dr) (T.need (List.length (cR ag) = List.length (cS sc)) (T.need (List.length (cS sc) ≤ (100000 : Nat)) (T.need (∀ (k : Nat), k < List.length (cS sc) → Scale.vol (List.getD (cS sc) k dfS) ≠ (0 : Int)) (T.need (List.length (cI dr) ≤ (100000 : Nat)) (T.need (iS sc) (T.need (iR ag) (T.need (iI dr) (T.need (List.length (cR ag) = List.length (cS sc)) (T.need (List.length (cS sc) ≤ (100000 : Nat)) (T.need (∀ (k : Nat), k < List.length (cS sc) → Scale.vol (List.getD (cS sc) k dfS) ≠ (0 : Int)) (T.need (List.length (cI dr) ≤ (100000 : Nat)) (T.br (Prod.snd (cA sc new ag dr) == Prod.snd (cY sc new ag dr)) (T.need (Enc.Is eRg (List.length (Prod.fst (cA sc new ag dr))) (Enc.F eRg (Prod.fst (cA sc new ag dr)))) (T.need (Enc.Is eRg (List.length (Prod.fst (cY sc new ag dr))) (Enc.F eRg (Prod.fst (cY sc new ag dr)))) (T.need (Enc.list eRg (List.length (Prod.fst (cA sc new ag dr))) (Enc.F eRg (Prod.fst (cA sc new ag dr))) = Enc.list eRg (List.length (Prod.fst (cY sc new ag dr))) (Enc.F eRg (Prod.fst (cY sc new ag dr)))) (T.need (List.length (Enc.list eRg (List.length (Prod.fst (cA sc new ag dr))) (Enc.F eRg (Prod.fst (cA sc new ag dr)))) ≤ (100000 : Nat)) (T.br true (T.br (Prod.snd (Prod.snd (cF sc new ag dr)) == Prod.snd (Prod.snd (cZ sc new ag dr))) (T.ret [Ar.c (D.bool (Prod.fst (cF sc new ag dr) == Prod.fst (cZ sc new ag dr) && (Prod.fst (Prod.snd (cF sc new ag dr)) == Prod.fst (Prod.snd (cZ sc new ag dr)) && true)))]) cN) cN))))) cN)))))))))))))))))))))))))))) (T.br (Prod.snd (M.checkSys (cS sc) new) != (0 : Int)) (T.br (Prod.snd (cA sc new ag dr) == Prod.snd (M.checkSys (cS sc) new)) (T.br (Prod.snd (Prod.snd (cF sc new ag dr)) == Prod.snd (M.checkSys (cS sc) new)) (T.br (Prod.snd (cG sc new ag) == Prod.snd (M.checkSys (cS sc) new)) (T.br ((Nat.cast (R := Int) (List.length (Prod.fst (cA sc new ag dr)))) == (0 : Int)) (T.br (Prod.fst (cF sc new ag dr) == (0 : Int) && (Prod.fst (Prod.snd (cF sc new ag dr)) == (0 : Int) && true)) (T.ret [Ar.c (D.bool (Prod.fst (cG sc new ag) == (0 : Int)))]) cN) cN) cN) cN) cN) (T.need (iS sc) (T.need (iR ag) (T.need (List.length (cR ag) = List.length (cS sc)) (T.need (List.length (cS sc) ≤ (100000 : Nat)) (T.need (Prod.snd (M.checkSys (cS sc) new) = (0 : Int)) (T.br (decide (M.great (M.okD (cS sc) new (cR ag)) < (0 : Int))) (T.br (Prod.snd (cG sc new ag) != (12 : Int)) cN (T.br (Prod.fst (cG sc new ag) != (0 : Int)) cN (T.br (decide (M.great (M.okD (cS sc) new (cR ag)) ≥ (0 : Int))) (T.br (Prod.snd (cG sc new ag) != (0 : Int)) cN (T.br (Prod.fst (cG sc new ag) != M.great (M.okD (cS sc) new (cR ag))) cN (T.need (iI dr) (T.br (M.drawsE (cI dr) != (0 : Int)) (T.br (Prod.snd (cA sc new ag dr) == M.drawsE (cI dr)) (T.br (Prod.snd (Prod.snd (cF sc new ag dr)) == M.drawsE (cI dr)) (T.br ((Nat.cast (R := Int) (List.length (Prod.fst (cA sc new ag dr)))) == (0 : Int)) (T.ret [Ar.c (D.bool (Prod.fst (cF sc new ag dr) == (0 : Int) && (Prod.fst (Prod.snd (cF sc new ag dr)) == (0 : Int) && true)))]) cN) cN) cN) (T.need (iS sc) (T.need (iR ag) (T.need (iI dr) (T.need (List.length (cR ag) = List.length (cS sc)) (T.need (List.length (cS sc) ≤ (100000 : Nat)) (T.need (∀ (k : Nat), k < List.length (cS sc) → Scale.vol (List.getD (cS sc) k dfS) ≠ (0 : Int)) (T.need (List.length (cI dr) ≤ (100000 : Nat)) (T.need (iS sc) (T.need (iR ag) (T.need (iI dr) (T.need (List.length (cR ag) = List.length (cS sc)) (T.need (List.length (cS sc) ≤ (100000 : Nat)) (T.need (∀ (k : Nat), k < List.length (cS sc) → Scale.vol (List.getD (cS sc) k dfS) ≠ (0 : Int)) (T.need (List.length (cI dr) ≤ (100000 : Nat)) (T.br (Prod.snd (cA sc new ag dr) == Prod.snd (cY sc new ag dr)) (T.need (Enc.Is eRg (List.length (Prod.fst (cA sc new ag dr))) (Enc.F eRg (Prod.fst (cA sc new ag dr)))) (T.need (Enc.Is eRg (List.length (Prod.fst (cY sc new ag dr))) (Enc.F eRg (Prod.fst (cY sc new ag dr)))) (T.need (Enc.list eRg (List.length (Prod.fst (cA sc new ag dr))) (Enc.F eRg (Prod.fst (cA sc new ag dr))) = Enc.list eRg (List.length (Prod.fst (cY sc new ag dr))) (Enc.F eRg (Prod.fst (cY sc new ag dr)))) (T.need (List.length (Enc.list eRg (List.length (Prod.fst (cA sc new ag dr))) (Enc.F eRg (Prod.fst (cA sc new ag dr)))) ≤ (100000 : Nat)) (T.br true (T.br (Prod.snd (Prod.snd (cF sc new ag dr)) == Prod.snd (Prod.snd (cZ sc new ag dr))) (T.ret [Ar.c (D.bool (Prod.fst (cF sc new ag dr) == Prod.fst (cZ sc new ag dr) && (Prod.fst (Prod.snd (cF sc new ag dr)) == Prod.fst (Prod.snd (cZ sc new ag dr)) && true)))]) cN) cN))))) cN))))))))))))))))))) (T.need (iI dr) (T.br (M.drawsE (cI dr) != (0 : Int)) (T.br (Prod.snd (cA sc new ag dr) == M.drawsE (cI dr)) (T.br (Prod.snd (Prod.snd (cF sc new ag dr)) == M.drawsE (cI dr)) (T.br ((Nat.cast (R := Int) (List.length (Prod.fst (cA sc new ag dr)))) == (0 : Int)) (T.ret [Ar.c (D.bool (Prod.fst (cF sc new ag dr) == (0 : Int) && (Prod.fst (Prod.snd (cF sc new ag dr)) == (0 : Int) && true)))]) cN) cN) cN) (T.need (iS sc) (T.need (iR ag) (T.need (iI dr) (T.need (List.length (cR ag) = List.length (cS sc)) (T.need (List.length (cS sc) ≤ (100000 : Nat)) (T.need (∀ (k : Nat), k < List.length (cS sc) → Scale.vol (List.getD (cS sc) k dfS) ≠ (0 : Int)) (T.need (List.length (cI dr) ≤ (100000 : Nat)) (T.need (iS sc) (T.need (iR ag) (T.need (iI dr) (T.need (List.length (cR ag) = List.length (cS sc)) (T.need (List.length (cS sc) ≤ (100000 : Nat)) (T.need (∀ (k : Nat), k < List.length (cS sc) → Scale.vol (List.getD (cS sc) k dfS) ≠ (0 : Int)) (T.need (List.length (cI dr) ≤ (100000 : Nat)) (T.br (Prod.snd (cA sc new ag dr) == Prod.snd (cY sc new ag dr)) (T.need (Enc.Is eRg (List.length (Prod.fst (cA sc new ag dr))) (Enc.F eRg (Prod.fst (cA sc new ag dr)))) (T.need (Enc.Is eRg (List.length (Prod.fst (cY sc new ag dr))) (Enc.F eRg (Prod.fst (cY sc new ag dr)))) (T.need (Enc.list eRg (List.length (Prod.fst (cA sc new ag dr))) (Enc.F eRg (Prod.fst (cA sc new ag dr))) = Enc.list eRg (List.length (Prod.fst (cY sc new ag dr))) (Enc.F eRg (Prod.fst (cY sc new ag dr)))) (T.need (List.length (Enc.list eRg (List.length (Prod.fst (cA sc new ag dr))) (Enc.F eRg (Prod.fst (cA sc new ag dr)))) ≤ (100000 : Nat)) (T.br true (T.br (Prod.snd (Prod.snd (cF sc new ag dr)) == Prod.snd (Prod.snd (cZ sc new ag dr))) (T.ret [Ar.c (D.bool (Prod.fst (cF sc new ag dr) == Prod.fst (cZ sc new ag dr) && (Prod.fst (Prod.snd (cF sc new ag dr)) == Prod.fst (Prod.snd (cZ sc new ag dr)) && true)))]) cN) cN))))) cN)))))))))))))))))))) (T.br (decide (M.great (M.okD (cS sc) new (cR ag)) ≥ (0 : Int))) (T.br (Prod.snd (cG sc new ag) != (0 : Int)) cN (T.br (Prod.fst (cG sc new ag) != M.great (M.okD (cS sc) new (cR ag))) cN (T.need (iI dr) (T.br (M.drawsE (cI dr) != (0 : Int)) (T.br (Prod.snd (cA sc new ag dr) == M.drawsE (cI dr)) (T.br (Prod.snd (Prod.snd (cF sc new ag dr)) == M.drawsE (cI dr)) (T.br ((Nat.cast (R := Int) (List.length (Prod.fst (cA sc new ag dr)))) == (0 : Int)) (T.ret [Ar.c (D.bool (Prod.fst (cF sc new ag dr) == (0 : Int) && (Prod.fst (Prod.snd (cF sc new ag dr)) == (0 : Int) && true)))]) cN) cN) cN) (T.need (iS sc) (T.need (iR ag) (T.need (iI dr) (T.need (List.length (cR ag) = List.length (cS sc)) (T.need (List.length (cS sc) ≤ (100000 : Nat)) (T.need (∀ (k : Nat), k < List.length (cS sc) → Scale.vol (List.getD (cS sc) k dfS) ≠ (0 : Int)) (T.need (List.length (cI dr) ≤ (100000 : Nat)) (T.need (iS sc) (T.need (iR ag) (T.need (iI dr) (T.need (List.length (cR ag) = List.length (cS sc)) (T.need (List.length (cS sc) ≤ (100000 : Nat)) (T.need (∀ (k : Nat), k < List.length (cS sc) → Scale.vol (List.getD (cS sc) k dfS) ≠ (0 : Int)) (T.need (List.length (cI dr) ≤ (100000 : Nat)) (T.br (Prod.snd (cA sc new ag dr) == Prod.snd (cY sc new ag dr)) (T.need (Enc.Is eRg (List.length (Prod.fst (cA sc new ag dr))) (Enc.F eRg (Prod.fst (cA sc new ag dr)))) (T.need (Enc.Is eRg (List.length (Prod.fst (cY sc new ag dr))) (Enc.F eRg (Prod.fst (cY sc new ag dr)))) (T.need (Enc.list eRg (List.length (Prod.fst (cA sc new ag dr))) (Enc.F eRg (Prod.fst (cA sc new ag dr))) = Enc.list eRg (List.length (Prod.fst (cY sc new ag dr))) (Enc.F eRg (Prod.fst (cY sc new ag dr)))) (T.need (List.length (Enc.list eRg (List.length (Prod.fst (cA sc new ag dr))) (Enc.F eRg (Prod.fst (cA sc new ag dr)))) ≤ (100000 : Nat)) (T.br true (T.br (Prod.snd (Prod.snd (cF sc new ag dr)) == Prod.snd (Prod.snd (cZ sc new ag dr))) (T.ret [Ar.c (D.bool (Prod.fst (cF sc new ag dr) == Prod.fst (cZ sc new ag dr) && (Prod.fst (Prod.snd (cF sc new ag dr)) == Prod.fst (Prod.snd (cZ sc new ag dr)) && true)))]) cN) cN))))) cN))))))))))))))))))) (T.need (iI dr) (T.br (M.drawsE (cI dr) != (0 : Int)) (T.br (Prod.snd (cA sc new ag dr) == M.drawsE (cI dr)) (T.br (Prod.snd (Prod.snd (cF sc new ag dr)) == M.drawsE (cI dr)) (T.br ((Nat.cast (R := Int) (List.length (Prod.fst (cA sc new ag dr)))) == (0 : Int)) (T.ret [Ar.c (D.bool (Prod.fst (cF sc new ag dr) == (0 : Int) && (Prod.fst (Prod.snd (cF sc new ag dr)) == (0 : Int) && true)))]) cN) cN) cN) (T.need (iS sc) (T.need (iR ag) (T.need (iI dr) (T.need (List.length (cR ag) = List.length (cS sc)) (T.need (List.length (cS sc) ≤ (100000 : Nat)) (T.need (∀ (k : Nat), k < List.length (cS sc) → Scale.vol (List.getD (cS sc) k dfS) ≠ (0 : Int)) (T.need (List.length (cI dr) ≤ (100000 : Nat)) (T.need (iS sc) (T.need (iR ag) (T.need (iI dr) (T.need (List.length (cR ag) = List.length (cS sc)) (T.need (List.length (cS sc) ≤ (100000 : Nat)) (T.need (∀ (k : Nat), k < List.length (cS sc) → Scale.vol (List.getD (cS sc) k dfS) ≠ (0 : Int)) (T.need (List.length (cI dr) ≤ (100000 : Nat)) (T.br (Prod.snd (cA sc new ag dr) == Prod.snd (cY sc new ag dr)) (T.need (Enc.Is eRg (List.length (Prod.fst (cA sc new ag dr))) (Enc.F eRg (Prod.fst (cA sc new ag dr)))) (T.need (Enc.Is eRg (List.length (Prod.fst (cY sc new ag dr))) (Enc.F eRg (Prod.fst (cY sc new ag dr)))) (T.need (Enc.list eRg (List.length (Prod.fst (cA sc new ag dr))) (Enc.F eRg (Prod.fst (cA sc new ag dr))) = Enc.list eRg (List.length (Prod.fst (cY sc new ag dr))) (Enc.F eRg (Prod.fst (cY sc new ag dr)))) (T.need (List.length (Enc.list eRg (List.length (Prod.fst (cA sc new ag dr))) (Enc.F eRg (Prod.fst (cA sc new ag dr)))) ≤ (100000 : Nat)) (T.br true (T.br (Prod.snd (Prod.snd (cF sc new ag dr)) == Prod.snd (Prod.snd (cZ sc new ag dr))) (T.ret [Ar.c (D.bool (Prod.fst (cF sc new ag dr) == Prod.fst (cZ sc new ag dr) && (Prod.fst (Prod.snd (cF sc new ag dr)) == Prod.fst (Prod.snd (cZ sc new ag dr)) && true)))]) cN) cN))))) cN)))))))))))))))))))))))))))))))))))))))))))))))))))))))))))))))))
theorem t13 (q_sc : Bool) (sc : List Scale) (new : Int) (q_ag : Bool) (ag : List Rg) (q_dr : Bool) (dr : List Int) : runFnX Try.prog G0 (lookS [v15, v27, v29, v30, v39, v66, v67, v68, v69, v70, v71, v72, v73, v74, v75]) (fun f => []) [] 1 60 4 13 Try.f13 [.agg [.sl q_sc sc.length 4 (eSc.F sc), dI new], .c (.sl q_ag ag.length 2 (eRg.F ag)), .c (.sl q_dr dr.length 1 (eI.F dr))] =
    tr13 q_sc sc new q_ag ag q_dr dr := by kernel_rfl
theorem after_len {sc : List Scale} {nw : Int} {ag : List Rg} {dr : List Int} (h1 : ag.length = sc.length) (h2 : sc.length ≤ 100000) : (M.afterY (M.Yr sc nw ag dr) dr.length).1.length ≤ 100000 := by
  unfold M.afterY
  cases hb : ((M.Yr sc nw ag dr).2 != 0) with
  | true => exact Nat.zero_le _
  | false =>
    have h0 : (M.Yr sc nw ag dr).2 = 0 := by simpa using hb
    obtain ⟨y1, y2⟩ := yrows_ok dr.length 0 [ag] rfl (by intro r hr; rw [List.mem_singleton.1 hr]; exact h1) h0
    show ((M.Yr sc nw ag dr).1.getD dr.length []).length ≤ 100000
    have := y2 ((M.Yr sc nw ag dr).1.getD dr.length []) (getD_mem (by have : (M.Yr sc nw ag dr).1.length = 0 + 1 + dr.length := y1; omega))
    omega
theorem w13 (q : Bool) (sc : List Scale) (nw : Int) (qa : Bool) (ag : List Rg) (qd : Bool) (dr : List Int) : (tr13 q sc nw qa ag qd dr).wp (fun rs => rsEqv rs [rB true]) := by
  unfold tr13
  simp only [cS, cR, cI, iS, iR, iI, cA, cF, cG, cY, cZ, cN, Enc.list_F]
  refine wp_br (fun hb => by cases hb) (fun _ => ⟨Enc.is_F _ _ _, wp_br (fun _ => rsEqv_refl _) (fun hb1 => wp_br (fun _ => rsEqv_refl _) (fun hb2 => wp_br (fun hb3 => wp_br (fun _ => rsEqv_refl _) (fun hb4 => wp_br (fun _ => rsEqv_refl _) (fun hb5 => ?_))) (fun hb3 => wp_br (fun _ => rsEqv_refl _) (fun hb5 => ?_))))⟩)
  all_goals
    have hs6 : sc.length ≤ 6 := by simp at hb1; omega
    have ha6 : ag.length ≤ 6 := by have : ¬ (ag.length : Int) > 6 := of_decide_eq_false hb2; omega
    have hd6 : dr.length ≤ 32 := by have : ¬ (dr.length : Int) > 32 := of_decide_eq_false hb5; omega
    have h1 : sc.length ≤ 100000 := by omega
    have h2 : ag.length ≤ 100000 := by omega
    have h3 : dr.length ≤ 100000 := by omega
    have h4 : dr.length ≤ 1000000 := by omega
    rcases law13 sc nw ag dr with ⟨e, he, hA, hF, hG, hE⟩ | ⟨hs, ha, hG, hD⟩
    · have hb : (e == 0) = false := by simpa using he
      have hb' : (e != 0) = true := bne_iff_ne.2 he
      rw [hA, hF, hG]
      rcases hE with hE | ⟨hs, hE⟩
      · rw [hE]
        repeat (first | exact rsEqv_refl _ | refine ⟨Enc.is_F _ _ _, ?_⟩ | refine ⟨h1, ?_⟩ | refine ⟨h2, ?_⟩ | refine ⟨h3, ?_⟩ | refine ⟨h4, ?_⟩ | refine br_f hb ?_ | refine br_t hb' ?_ | refine br_t (beq_self_eq_true e) ?_ | refine br_t rfl ?_)
      · rw [hs, hE]
        repeat (first | exact rsEqv_refl _ | refine ⟨Enc.is_F _ _ _, ?_⟩ | refine ⟨h1, ?_⟩ | refine ⟨h2, ?_⟩ | refine ⟨h3, ?_⟩ | refine ⟨h4, ?_⟩ | refine br_f hb ?_ | refine br_t hb' ?_ | refine br_t (beq_self_eq_true e) ?_ | refine br_t rfl ?_)
    · have hlen : ag.length = sc.length := ages_len ha
      have hvol := sys_vol hs
      rw [hs, ha]
      have hz : (M.checkSys sc nw).2 = 0 := hs
      rcases hG with ⟨g1, hG⟩ | ⟨g1, hG⟩
      all_goals
        rw [hG]
        rcases hD with ⟨e, he, hE, hA, hF⟩ | ⟨hE, hA, hF⟩
        · have hb' : (e != 0) = true := bne_iff_ne.2 he
          rw [hA, hF, hE]
          repeat (first | exact rsEqv_refl _ | refine ⟨Enc.is_F _ _ _, ?_⟩ | refine ⟨h1, ?_⟩ | refine ⟨h2, ?_⟩ | refine ⟨h3, ?_⟩ | refine ⟨h4, ?_⟩ | refine ⟨hlen, ?_⟩ | refine ⟨rfl, ?_⟩ | refine br_t (decide_eq_true g1) ?_ | refine br_f (decide_eq_false (by omega)) ?_ | refine br_t hb' ?_ | refine br_t (beq_self_eq_true e) ?_ | refine br_t rfl ?_ | refine br_f rfl ?_ | refine br_f (bne_self_eq_false _) ?_)
        · rw [hA, hF, hE]
          have hl : (M.afterY (M.Yr sc nw ag dr) dr.length).1.length ≤ 100000 := after_len hlen h1
          repeat (first | exact rsEqv_refl _ | refine ⟨Enc.is_F _ _ _, ?_⟩ | refine ⟨h1, ?_⟩ | refine ⟨h2, ?_⟩ | refine ⟨h3, ?_⟩ | refine ⟨h4, ?_⟩ | refine ⟨hlen, ?_⟩ | refine ⟨hvol, ?_⟩ | refine ⟨hl, ?_⟩ | refine ⟨rfl, ?_⟩ | refine br_t (decide_eq_true g1) ?_ | refine br_f (decide_eq_false (by omega)) ?_ | refine br_t (beq_self_eq_true _) ?_ | refine br_t rfl ?_ | refine br_f rfl ?_ | refine br_f (bne_self_eq_false _) ?_ | (simp only [beq_self_eq_true, Bool.and_self]; exact rsEqv_refl _))
def dom13 : DomF
  | [.agg [.sl _ n_sc st_sc F_sc, .int .i64 new], .c (.sl _ n_ag st_ag F_ag), .c (.sl _ n_dr st_dr F_dr)] => (match Nat.beq st_sc 4 && Nat.beq st_ag 2 && Nat.beq st_dr 1 with
    | true => some ([eSc.Is n_sc F_sc, eRg.Is n_ag F_ag, eI.Is n_dr F_dr], [rB true])
    | _ => none)
  | _ => none
theorem C13 : FOK Try.prog G0 gw 13 dom13 := by
  intro ags p r hd hp κ w xs hw hl hG hx
  unfold dom13 at hd
  split at hd
  · rename_i q_sc n_sc st_sc F_sc new q_ag n_ag st_ag F_ag q_dr n_dr st_dr F_dr
    split at hd
    · rename_i hst
      simp only [Bool.and_eq_true] at hst
      obtain ⟨⟨g1, g2⟩, g3⟩ := hst
      have g1 := Nat.eq_of_beq_eq_true g1
      have g2 := Nat.eq_of_beq_eq_true g2
      have g3 := Nat.eq_of_beq_eq_true g3
      subst g1 g2 g3
      simp only [Option.some.injEq, Prod.mk.injEq] at hd
      obtain ⟨rfl, rfl⟩ := hd
      obtain ⟨hI_sc, hI_ag, hI_dr, hp⟩ := hp
      have heq : agsEqv [.agg [.sl q_sc n_sc 4 F_sc, .int .i64 new], .c (.sl q_ag n_ag 2 F_ag), .c (.sl q_dr n_dr 1 F_dr)] [.agg [.sl q_sc (eSc.list n_sc F_sc).length 4 (eSc.F (eSc.list n_sc F_sc)), .int .i64 new], .c (.sl q_ag (eRg.list n_ag F_ag).length 2 (eRg.F (eRg.list n_ag F_ag))), .c (.sl q_dr (eI.list n_dr F_dr).length 1 (eI.F (eI.list n_dr F_dr)))] := ⟨⟨eSc.to id hI_sc, rfl, trivial⟩, eRg.to id hI_ag, eI.to id hI_dr, trivial⟩
      have len_sc : (eSc.list n_sc F_sc).length = n_sc := eSc.list_len
      have len_ag : (eRg.list n_ag F_ag).length = n_ag := eRg.list_len
      have len_dr : (eI.list n_dr F_dr).length = n_dr := eI.list_len
      generalize eSc.list n_sc F_sc = sc at *
      generalize eRg.list n_ag F_ag = ag at *
      generalize eI.list n_dr F_dr = dr at *
      subst len_sc len_ag len_dr
      exact fokX_fin mixed gw_stable (sl := [v15, v27, v29, v30, v39, v66, v67, v68, v69, v70, v71, v72, v73, v74, v75]) ⟨S15, S27, S29, S30, S39, S66, S67, S68, S69, S70, S71, S72, S73, S74, S75, trivial⟩ Try.func13 hw hl hG hx heq rfl (t13 _ _ _ _ _ _ _) (w13 _ _ _ _ _ _ _)
    · cases hd
  · cases hd
end Go.Pl
end

section
set_option linter.unusedVariables false
set_option linter.unusedSimpArgs false
namespace Go.Rw
open Go Go.ChangeShapes Go.WideShapes Go.RowKit Go.ChangeAt
open Go.V (F2 D fullK fullK_cell f2_append f2_len f2_get)
section
variable {H : Type} {enc : TypeId × Value → H} {P : Program} {w : World} {base : Nat} {sp : Nat → Bool} {hd : Bool}
theorem trodAll_below (hl : laidOutB P = true) {W W' : World} (hb : Below W.heap.size W W') : ∀ {ts : List TypeId} {vs : List Value} {ds : List (DataW H)} {ps : List MemPlace},
    (∀ t ∈ ts, P.readableRec t = true ∧ t < P.types.size) → DataW.TrodAll enc P W 0 (fun _ => true) true ts vs ds ps → (∀ x ∈ ps, x.block < W.heap.size) →
    DataW.TrodAll enc P W' 0 (fun b => decide (b < W.heap.size)) true ts vs ds ps
  | [], _, _, _, _, h, _ => by
    obtain ⟨rfl, rfl, rfl⟩ := trodAll_nil h
    exact trodAll_mk0
  | t :: ts, _, _, _, hr, h, hlt => by
    obtain ⟨v, vs1, d, ds1, a, b, rfl, rfl, rfl, h1, h2⟩ := trodAll_cons h
    refine ⟨a, b, ?_, trodAll_below hl hb (fun u hu => hr u (List.mem_cons_of_mem _ hu)) h2 fun x hx => hlt x (List.mem_append_right _ hx), rfl⟩
    have ht := hr t (List.mem_cons_self ..)
    exact Below.trod hl ht.1 ht.2 h1 hb fun x hx => hlt x (List.mem_append_left _ hx)
theorem law_post {fn : Func} {s : ChangeSpec} {apart fresh handsOn : Bool} {W W' : World} {args : Array Value} {ds gs : List (DataW H)} {before : List MemPlace} {tb : TypeId} (hl : laidOutB P = true)
    (hr : ∀ t ∈ fn.params.toList, P.readableRec t = true ∧ t < P.types.size) (hv : s.vars = []) (hrt : fn.resultTypes = #[tb]) (hbool : P.underlying tb = some .bool)
    (hfn : s.fn H ds = { results := [.lit (.bool true)], args := ds })
    (hW : DataW.Whole enc P fn.params.toList s.vars apart W args.toList ds gs before) (hb : Below W.heap.size W W') : s.post enc P fn apart fresh handsOn false W args (.bool true) W' := by
  have hW' := hW
  obtain ⟨p, q, hA, hV, rfl, _, _⟩ := hW'
  have hlt : ∀ x ∈ p ++ q, x.block < W.heap.size := fun x hx => hW.lt x hx
  rw [hv] at hV
  have hgs : gs = [] ∧ q = [] := by
    cases gs with
    | nil => exact ⟨rfl, hV⟩
    | cons g r => exact absurd hV (by intro h; cases h)
  obtain ⟨rfl, rfl⟩ := hgs
  have e : s.fn H (ds ++ []) = { results := [.lit (.bool true)], args := ds } := by rw [List.append_nil]; exact hfn
  refine ⟨ds, [], _, [], p, [], hW, ?_, ?_, ?_, hb.frame _, fun h => by cases h⟩
  · rw [e, hrt]
    exact trodAll_mk1 (shut_bool hbool true)
  · rw [e]
    exact trodAll_below hl hb hr hA fun x hx => hlt x (List.mem_append_left _ hx)
  · rw [e, hv]
    rfl
end
end Go.Rw
end

section
set_option linter.unusedVariables false
set_option linter.unusedSimpArgs false
namespace Go.Rw
open Go Go.ChangeShapes Go.WideShapes Go.RowKit Go.ChangeAt
open Go.V (F2 D fullK fullK_cell f2_append f2_len f2_get)
inductive SK where
  | i
  | s
  | sl (sh : List SK)
inductive DG : SK → D → Prop where
  | i (n : Int) : DG .i (.int .i64 n)
  | s (t : ByteArray) : DG .s (.str t)
  | sl (sh : List SK) (len : Nat) (F : Nat → Nat → D) (h : ∀ i j k, i < len → sh[j]? = some k → DG k (F i j)) : DG (.sl sh) (.sl false len sh.length F)
def MG (w : World) (k : SK) (v : Value) : Prop := ∃ d, DG k d ∧ D.rel (fullK w) d v
def sgFs (P : Program) (g : TypeId → Option (List SK)) : List Field → Nat → Nat → Option (List SK)
  | [], o, c => (match Nat.beq o c with | true => some [] | false => none)
  | f :: fs, o, c => (match Nat.beq f.offset o, g f.type, sgFs P g fs (o + P.cellsOf f.type) c with
    | true, some a, some b => some (a ++ b)
    | _, _, _ => none)
def sgArr (l : List SK) : Nat → List SK
  | 0 => []
  | n + 1 => l ++ sgArr l n
def sg (P : Program) : Nat → TypeId → Option (List SK)
  | 0, _ => none
  | k + 1, t => match P.underlying t with
    | some (.int .i64) => some [.i]
    | some .string => some [.s]
    | some (.struct fs) => sgFs P (sg P k) fs.toList 0 (P.cellsOf t)
    | some (.array n e) => (match sg P k e, Nat.beq (P.cellsOf t) (n * P.cellsOf e) with | some l, true => some (sgArr l n) | _, _ => none)
    | some (.slice e) => (match sg P k e with | some sh => (match Nat.beq (P.cellsOf e) sh.length && Nat.blt 0 sh.length with | true => some [.sl sh] | false => none) | none => none)
    | _ => none
section
variable {H : Type} {enc : TypeId × Value → H} {P : Program} {w : World} {base : Nat} {sp : Nat → Bool} {hd : Bool}
theorem sgFs_spec {R : SK → Value → Prop} {g : TypeId → Option (List SK)} : ∀ (fs : List Field) (o c : Nat) (cs : List Value) {l : List SK}, sgFs P g fs o c = some l → cs.length = c →
    (∀ f ∈ fs, ∀ l', g f.type = some l' → F2 R l' ((cs.drop f.offset).take (P.cellsOf f.type))) → F2 R l (cs.drop o)
  | [], o, c, cs, l, h, hl, _ => by
    unfold sgFs at h
    split at h
    · rename_i hb
      have : o = c := Nat.eq_of_beq_eq_true hb
      simp only [Option.some.injEq] at h
      subst h
      rw [this, ← hl, List.drop_length]
      exact .nil
    · cases h
  | f :: fs, o, c, cs, l, h, hl, hf => by
    simp only [sgFs] at h
    split at h
    · rename_i a b hb ha hrest
      have ho : f.offset = o := Nat.eq_of_beq_eq_true hb
      simp only [Option.some.injEq] at h
      subst h
      have h1 := hf f (List.mem_cons_self ..) a ha
      have h2 := sgFs_spec fs _ c cs hrest hl fun g hg => hf g (List.mem_cons_of_mem _ hg)
      rw [ho] at h1
      have e : cs.drop o = (cs.drop o).take (P.cellsOf f.type) ++ (cs.drop o).drop (P.cellsOf f.type) := (List.take_append_drop _ _).symm
      rw [e, List.drop_drop]
      exact f2_append h1 h2
    · cases h
theorem sgArr_spec {R : SK → Value → Prop} {l : List SK} {c : Nat} : ∀ (n : Nat) (cs : List Value), cs.length = n * c → (∀ i, i < n → F2 R l ((cs.drop (i * c)).take c)) → F2 R (sgArr l n) cs
  | 0, cs, h, _ => by
    have : cs = [] := List.length_eq_zero_iff.1 (by simpa using h)
    subst this
    exact .nil
  | n + 1, cs, h, hf => by
    have h0 := hf 0 (by omega)
    rw [Nat.zero_mul, List.drop_zero] at h0
    have hr := sgArr_spec (c := c) n (cs.drop c) (by rw [List.length_drop, h, Nat.succ_mul]; omega) fun i hi => by
      have := hf (i + 1) (by omega)
      rw [List.drop_drop, show c + i * c = (i + 1) * c by rw [Nat.succ_mul]; omega]
      exact this
    rw [← List.take_append_drop c cs]
    exact f2_append h0 hr
theorem trod_sg : ∀ (k fuel : Nat) (t : TypeId) (cs : List Value) (x : DataW H × List MemPlace) {l : List SK}, sg P k t = some l → DataW.trod enc P w base sp hd fuel t cs = some x → F2 (MG w) l cs
  | 0, _, _, _, _, _, h, _ => by cases h
  | k + 1, fuel, t, cs, x, l, h, hx => by
    unfold sg at h
    split at h
    · rename_i ht
      simp only [Option.some.injEq] at h
      subst h
      obtain ⟨n, rfl, rfl, _⟩ := DataW.trod_int ht hx
      exact .cons ⟨.int .i64 n, .i n, rfl⟩ .nil
    · rename_i ht
      simp only [Option.some.injEq] at h
      subst h
      obtain ⟨s, rfl, rfl, _⟩ := DataW.trod_string ht hx
      exact .cons ⟨.str s, .s s, rfl⟩ .nil
    · rename_i fs ht
      obtain ⟨xs, n, _, rfl, hl, hlen, hf⟩ := DataW.trod_struct ht hx
      have := sgFs_spec (P := P) (R := MG w) fs.toList 0 (P.cellsOf t) cs h hl (by
        intro f hm l' hl'
        obtain ⟨i, hi, hi'⟩ := List.getElem_of_mem hm
        have hgi : fs[i]? = some f := by rw [← Array.getElem?_toList, List.getElem?_eq_getElem hi, hi']
        have hlt : i < xs.length := by rw [hlen]; exact (Array.getElem?_eq_some_iff.1 hgi).1
        have hy : xs[i]? = some xs[i] := List.getElem?_eq_getElem hlt
        have := hf i f hgi
        rw [hy] at this
        exact trod_sg k n f.type _ _ hl' this)
      simpa using this
    · rename_i n e ht
      split at h
      · rename_i l' hl' hcb
        simp only [Option.some.injEq] at h
        subst h
        obtain ⟨xs, m, _, ex, hlen, hl, hel⟩ := DataW.trod_array ht hx
        have hcz : P.cellsOf t = n * P.cellsOf e := Nat.eq_of_beq_eq_true hcb
        refine sgArr_spec (c := P.cellsOf e) n cs (by rw [← hcz]; exact hlen) fun i hi => ?_
        have hlt : i < xs.length := by omega
        have hy : xs[i]? = some xs[i] := List.getElem?_eq_getElem hlt
        have := hel i hi
        rw [hy] at this
        exact trod_sg k m e _ _ hl' this
      · cases h
    · rename_i e ht
      split at h
      · rename_i sh hsh
        split at h
        · rename_i hc
          simp only [Option.some.injEq] at h
          subst h
          rw [Bool.and_eq_true] at hc
          have hn : P.cellsOf e = sh.length := Nat.eq_of_beq_eq_true hc.1
          have hn0 : 0 < sh.length := Nat.le_of_ble_eq_true hc.2
          rcases DataW.trod_slice ht hx with ⟨h1, _⟩ | ⟨a, len0, cap0, elems, rest, n', _, h1, _, _, hlc, _, hel, hget, _⟩
          · rw [h1]
            exact .cons ⟨.sl false 0 sh.length (fun _ _ => .nilp), .sl sh 0 _ (fun i j k hi => by omega), .inl ⟨rfl, rfl, rfl⟩⟩ .nil
          · rw [h1]
            rw [hn] at hget
            have each : ∀ i, i < len0 → ∀ j, j < sh.length → ∃ d, (∀ k', sh[j]? = some k' → DG k' d) ∧ ∃ y, w.cell? ((a.add (i * sh.length)).add j) = some y ∧ D.rel (fullK w) d y := by
              intro i hi j hj
              have hg := hget i hi
              have hlt : i < elems.length := by omega
              rw [List.getElem?_eq_getElem hlt] at hg
              simp only [Option.bind_eq_some_iff] at hg
              obtain ⟨cs, hcs, hx⟩ := hg
              have hF := trod_sg k n' e cs _ hsh hx
              obtain ⟨_, hl, hcell⟩ := World.cells?_some hcs
              obtain ⟨y, hy, hm⟩ := f2_get hF (i := j) (List.getElem?_eq_getElem hj)
              obtain ⟨d, hd1, hd2⟩ := hm
              have hcj := hcell j hj
              exact ⟨d, fun k' hk' => by rw [List.getElem?_eq_getElem hj] at hk'; cases hk'; exact hd1, y, by rw [hcj, hy], hd2⟩
            have spot0 : 0 < len0 → a.spot = none := by
              intro hp
              obtain ⟨_, _, y, hy, _⟩ := each 0 hp 0 hn0
              have := World.cell?_spot hy
              simpa [Addr.add] using this
            refine .cons ⟨.sl false len0 sh.length (fun i j => if h : i < len0 ∧ j < sh.length then Classical.choose (each i h.1 j h.2) else .nilp), .sl sh len0 _ (fun i j k' hi hk' => ?_), .inr ⟨a, cap0, rfl, hlc, spot0, fun i j hi hj => ?_⟩⟩ .nil
            · have hj : j < sh.length := (List.getElem?_eq_some_iff.1 hk').1
              simp only [dif_pos (And.intro hi hj)]
              exact (Classical.choose_spec (each i hi j hj)).1 k' hk'
            · obtain ⟨_, y, hy, hr⟩ := Classical.choose_spec (each i hi j hj)
              have hp : a.spot = none := spot0 (by omega)
              have e1 : (a.add (i * sh.length)).add j = ⟨a.block, a.off + i * sh.length + j, none⟩ := by
                obtain ⟨b, off, spot⟩ := a
                simp only at hp
                subst hp
                rw [Go.WideShapes.add_plain, Go.WideShapes.add_plain]
              rw [e1] at hy
              refine ⟨_, fullK_cell hy, ?_⟩
              simp only [dif_pos (And.intro hi hj)]
              exact hr
        · cases h
      · cases h
    · cases h
theorem open_sl {r : Reach} {b0 : Nat} {t e : TypeId} {v : Value} {d : DataW H} {p : List MemPlace} (k : Nat) {sh : List SK} (ht : P.underlying t = some (.slice e)) (ha : sg P k t = some [.sl sh])
    (hv : Value.okWide P w r b0 t v) (h : DataW.Trod enc P w base sp hd t v d p) : MG w (.sl sh) v := by
  obtain ⟨a0, len0, cap0, rfl⟩ := okWide_slice ht hv
  obtain ⟨fuel, hf⟩ := h
  have hc : (Value.slice a0 len0 cap0).cells.toList = [Value.slice a0 len0 cap0] := rfl
  rw [hc] at hf
  have := trod_sg k fuel t _ _ ha hf
  cases this with
  | cons h _ => exact h
theorem open_st {r : Reach} {b0 : Nat} {t : TypeId} {fs : Array Field} {v : Value} {d : DataW H} {p : List MemPlace} (k : Nat) {l : List SK} (ht : P.underlying t = some (.struct fs)) (ha : sg P k t = some l)
    (hv : Value.okWide P w r b0 t v) (h : DataW.Trod enc P w base sp hd t v d p) : ∃ cs : List Value, F2 (MG w) l cs ∧ v = .agg cs.toArray := by
  obtain ⟨cs, rfl, hsz⟩ := okWide_struct ht hv
  obtain ⟨fuel, hf⟩ := h
  have hF : F2 (MG w) l cs.toList := trod_sg k fuel t _ _ ha hf
  exact ⟨cs.toList, hF, by rw [Array.toArray_toList]⟩
theorem mg_i {v : Value} (h : MG w .i v) : ∃ n, v = .int .i64 n := by
  obtain ⟨d, hd, hr⟩ := h
  cases hd with
  | i n => exact ⟨n, hr⟩
theorem mg_sl {sh : List SK} {v : Value} (h : MG w (.sl sh) v) : ∃ (len : Nat) (F : Nat → Nat → D), (D.sl false len sh.length F).rel (fullK w) v ∧ ∀ i j k, i < len → sh[j]? = some k → DG k (F i j) := by
  obtain ⟨d, hd, hr⟩ := h
  cases hd with
  | sl _ len F hF => exact ⟨len, F, hr, hF⟩
theorem dg_i {d : D} (h : DG .i d) : ∃ n, d = .int .i64 n := by cases h with | i n => exact ⟨n, rfl⟩
end
end Go.Rw
end
