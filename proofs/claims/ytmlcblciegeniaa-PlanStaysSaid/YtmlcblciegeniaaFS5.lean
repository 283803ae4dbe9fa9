/- The parts of the engines, of their contracts and of the plain laws that the claim rests on: A17, A19, A20, A21, A22, A23, A51, A24, A25, A26, A27, A28, A29, A30, A31, A32, A33, A34, A35, A36, A37, A38, A39, A40, A41, A42, A43, A44, A52, A53, A54, A55. -/
import Derived.Test.YtmlcblciegeniaaFS4
set_option linter.unusedVariables false
set_option linter.unusedSimpArgs false
section
set_option linter.unusedVariables false
set_option linter.unusedSimpArgs false
set_option maxRecDepth 100000
namespace Go.Pl
open Go.V Go.Proofs
def four : List D := [.sl true 2 4 (eSc.F [⟨1000, 0, 0, 20000⟩, ⟨1000, 0, 0, 10000⟩]), dI 0]
def nd_t28c : List Prop := [
  Enc.Is eSc (2 : Nat) (Enc.F eSc [(Scale.mk (1000 : Int) (0 : Int) (0 : Int) (20000 : Int)), (Scale.mk (1000 : Int) (0 : Int) (0 : Int) (10000 : Int))]),
  (2 : Nat) ≤ (100000 : Nat),
  Enc.Is eSc (2 : Nat) (Enc.F eSc (Enc.list eSc (2 : Nat) (Enc.F eSc [(Scale.mk (1000 : Int) (0 : Int) (0 : Int) (20000 : Int)), (Scale.mk (1000 : Int) (0 : Int) (0 : Int) (10000 : Int))]))),
  List.length (Enc.list eSc (2 : Nat) (Enc.F eSc (Enc.list eSc (2 : Nat) (Enc.F eSc [(Scale.mk (1000 : Int) (0 : Int) (0 : Int) (20000 : Int)), (Scale.mk (1000 : Int) (0 : Int) (0 : Int) (10000 : Int))])))) ≤ (100000 : Nat),
  Enc.Is eSc (2 : Nat) (Enc.F eSc (Enc.list eSc (2 : Nat) (Enc.F eSc [(Scale.mk (1000 : Int) (0 : Int) (0 : Int) (20000 : Int)), (Scale.mk (1000 : Int) (0 : Int) (0 : Int) (10000 : Int))]))),
  Enc.Is eRg (List.length (M.flows (Enc.list eSc (2 : Nat) (Enc.F eSc (Enc.list eSc (2 : Nat) (Enc.F eSc [(Scale.mk (1000 : Int) (0 : Int) (0 : Int) (20000 : Int)), (Scale.mk (1000 : Int) (0 : Int) (0 : Int) (10000 : Int))])))) (0 : Int))) (Enc.F eRg (M.flows (Enc.list eSc (2 : Nat) (Enc.F eSc (Enc.list eSc (2 : Nat) (Enc.F eSc [(Scale.mk (1000 : Int) (0 : Int) (0 : Int) (20000 : Int)), (Scale.mk (1000 : Int) (0 : Int) (0 : Int) (10000 : Int))])))) (0 : Int))),
  List.length (Enc.list eRg (List.length (M.flows (Enc.list eSc (2 : Nat) (Enc.F eSc (Enc.list eSc (2 : Nat) (Enc.F eSc [(Scale.mk (1000 : Int) (0 : Int) (0 : Int) (20000 : Int)), (Scale.mk (1000 : Int) (0 : Int) (0 : Int) (10000 : Int))])))) (0 : Int))) (Enc.F eRg (M.flows (Enc.list eSc (2 : Nat) (Enc.F eSc (Enc.list eSc (2 : Nat) (Enc.F eSc [(Scale.mk (1000 : Int) (0 : Int) (0 : Int) (20000 : Int)), (Scale.mk (1000 : Int) (0 : Int) (0 : Int) (10000 : Int))])))) (0 : Int)))) ≤ List.length (Enc.list eSc (2 : Nat) (Enc.F eSc (Enc.list eSc (2 : Nat) (Enc.F eSc [(Scale.mk (1000 : Int) (0 : Int) (0 : Int) (20000 : Int)), (Scale.mk (1000 : Int) (0 : Int) (0 : Int) (10000 : Int))])))),
  List.length (Enc.list eSc (2 : Nat) (Enc.F eSc (Enc.list eSc (2 : Nat) (Enc.F eSc [(Scale.mk (1000 : Int) (0 : Int) (0 : Int) (20000 : Int)), (Scale.mk (1000 : Int) (0 : Int) (0 : Int) (10000 : Int))])))) ≤ (100000 : Nat),
  (0 : Int) ≤ (0 : Int),
  (0 : Int) < (2 : Int),
  (0 : Int) ≤ (1 : Int),
  (1 : Int) < (2 : Int),
  Enc.Is eSc (2 : Nat) (Enc.F eSc (Enc.list eSc (2 : Nat) (Enc.F eSc [(Scale.mk (1000 : Int) (0 : Int) (0 : Int) (20000 : Int)), (Scale.mk (1000 : Int) (0 : Int) (0 : Int) (10000 : Int))]))),
  List.length (Enc.list eSc (2 : Nat) (Enc.F eSc (Enc.list eSc (2 : Nat) (Enc.F eSc [(Scale.mk (1000 : Int) (0 : Int) (0 : Int) (20000 : Int)), (Scale.mk (1000 : Int) (0 : Int) (0 : Int) (10000 : Int))])))) ≤ (100000 : Nat),
  Enc.Is eSc (2 : Nat) (Enc.F eSc (Enc.list eSc (2 : Nat) (Enc.F eSc [(Scale.mk (1000 : Int) (0 : Int) (0 : Int) (20000 : Int)), (Scale.mk (1000 : Int) (0 : Int) (0 : Int) (10000 : Int))]))),
  Enc.Is eRg (List.length (M.flows (Enc.list eSc (2 : Nat) (Enc.F eSc (Enc.list eSc (2 : Nat) (Enc.F eSc [(Scale.mk (1000 : Int) (0 : Int) (0 : Int) (20000 : Int)), (Scale.mk (1000 : Int) (0 : Int) (0 : Int) (10000 : Int))])))) (10000 : Int))) (Enc.F eRg (M.flows (Enc.list eSc (2 : Nat) (Enc.F eSc (Enc.list eSc (2 : Nat) (Enc.F eSc [(Scale.mk (1000 : Int) (0 : Int) (0 : Int) (20000 : Int)), (Scale.mk (1000 : Int) (0 : Int) (0 : Int) (10000 : Int))])))) (10000 : Int))),
  List.length (Enc.list eRg (List.length (M.flows (Enc.list eSc (2 : Nat) (Enc.F eSc (Enc.list eSc (2 : Nat) (Enc.F eSc [(Scale.mk (1000 : Int) (0 : Int) (0 : Int) (20000 : Int)), (Scale.mk (1000 : Int) (0 : Int) (0 : Int) (10000 : Int))])))) (10000 : Int))) (Enc.F eRg (M.flows (Enc.list eSc (2 : Nat) (Enc.F eSc (Enc.list eSc (2 : Nat) (Enc.F eSc [(Scale.mk (1000 : Int) (0 : Int) (0 : Int) (20000 : Int)), (Scale.mk (1000 : Int) (0 : Int) (0 : Int) (10000 : Int))])))) (10000 : Int)))) ≤ List.length (Enc.list eSc (2 : Nat) (Enc.F eSc (Enc.list eSc (2 : Nat) (Enc.F eSc [(Scale.mk (1000 : Int) (0 : Int) (0 : Int) (20000 : Int)), (Scale.mk (1000 : Int) (0 : Int) (0 : Int) (10000 : Int))])))),
  List.length (Enc.list eSc (2 : Nat) (Enc.F eSc (Enc.list eSc (2 : Nat) (Enc.F eSc [(Scale.mk (1000 : Int) (0 : Int) (0 : Int) (20000 : Int)), (Scale.mk (1000 : Int) (0 : Int) (0 : Int) (10000 : Int))])))) ≤ (100000 : Nat),
  (0 : Int) ≤ (0 : Int),
  (0 : Int) < (2 : Int),
  Enc.Is eSc (2 : Nat) (Enc.F eSc (Enc.list eSc (2 : Nat) (Enc.F eSc [(Scale.mk (1000 : Int) (0 : Int) (0 : Int) (20000 : Int)), (Scale.mk (1000 : Int) (0 : Int) (0 : Int) (10000 : Int))]))),
  List.length (Enc.list eSc (2 : Nat) (Enc.F eSc (Enc.list eSc (2 : Nat) (Enc.F eSc [(Scale.mk (1000 : Int) (0 : Int) (0 : Int) (20000 : Int)), (Scale.mk (1000 : Int) (0 : Int) (0 : Int) (10000 : Int))])))) ≤ (100000 : Nat),
  Enc.Is eSc (2 : Nat) (Enc.F eSc (Enc.list eSc (2 : Nat) (Enc.F eSc [(Scale.mk (1000 : Int) (0 : Int) (0 : Int) (20000 : Int)), (Scale.mk (1000 : Int) (0 : Int) (0 : Int) (10000 : Int))]))),
  Enc.Is eRg (List.length (M.flows (Enc.list eSc (2 : Nat) (Enc.F eSc (Enc.list eSc (2 : Nat) (Enc.F eSc [(Scale.mk (1000 : Int) (0 : Int) (0 : Int) (20000 : Int)), (Scale.mk (1000 : Int) (0 : Int) (0 : Int) (10000 : Int))])))) (5000 : Int))) (Enc.F eRg (M.flows (Enc.list eSc (2 : Nat) (Enc.F eSc (Enc.list eSc (2 : Nat) (Enc.F eSc [(Scale.mk (1000 : Int) (0 : Int) (0 : Int) (20000 : Int)), (Scale.mk (1000 : Int) (0 : Int) (0 : Int) (10000 : Int))])))) (5000 : Int))),
  List.length (Enc.list eRg (List.length (M.flows (Enc.list eSc (2 : Nat) (Enc.F eSc (Enc.list eSc (2 : Nat) (Enc.F eSc [(Scale.mk (1000 : Int) (0 : Int) (0 : Int) (20000 : Int)), (Scale.mk (1000 : Int) (0 : Int) (0 : Int) (10000 : Int))])))) (5000 : Int))) (Enc.F eRg (M.flows (Enc.list eSc (2 : Nat) (Enc.F eSc (Enc.list eSc (2 : Nat) (Enc.F eSc [(Scale.mk (1000 : Int) (0 : Int) (0 : Int) (20000 : Int)), (Scale.mk (1000 : Int) (0 : Int) (0 : Int) (10000 : Int))])))) (5000 : Int)))) ≤ List.length (Enc.list eSc (2 : Nat) (Enc.F eSc (Enc.list eSc (2 : Nat) (Enc.F eSc [(Scale.mk (1000 : Int) (0 : Int) (0 : Int) (20000 : Int)), (Scale.mk (1000 : Int) (0 : Int) (0 : Int) (10000 : Int))])))),
  List.length (Enc.list eSc (2 : Nat) (Enc.F eSc (Enc.list eSc (2 : Nat) (Enc.F eSc [(Scale.mk (1000 : Int) (0 : Int) (0 : Int) (20000 : Int)), (Scale.mk (1000 : Int) (0 : Int) (0 : Int) (10000 : Int))])))) ≤ (100000 : Nat),
  (0 : Int) ≤ (0 : Int),
  (0 : Int) < (2 : Int),
  Enc.Is eSc (2 : Nat) (Enc.F eSc (Enc.list eSc (2 : Nat) (Enc.F eSc [(Scale.mk (1000 : Int) (0 : Int) (0 : Int) (20000 : Int)), (Scale.mk (1000 : Int) (0 : Int) (0 : Int) (10000 : Int))]))),
  List.length (Enc.list eSc (2 : Nat) (Enc.F eSc (Enc.list eSc (2 : Nat) (Enc.F eSc [(Scale.mk (1000 : Int) (0 : Int) (0 : Int) (20000 : Int)), (Scale.mk (1000 : Int) (0 : Int) (0 : Int) (10000 : Int))])))) ≤ (100000 : Nat),
  Enc.Is eSc (2 : Nat) (Enc.F eSc (Enc.list eSc (2 : Nat) (Enc.F eSc [(Scale.mk (1000 : Int) (0 : Int) (0 : Int) (20000 : Int)), (Scale.mk (1000 : Int) (0 : Int) (0 : Int) (10000 : Int))]))),
  Enc.Is eRg (List.length (M.flows (Enc.list eSc (2 : Nat) (Enc.F eSc (Enc.list eSc (2 : Nat) (Enc.F eSc [(Scale.mk (1000 : Int) (0 : Int) (0 : Int) (20000 : Int)), (Scale.mk (1000 : Int) (0 : Int) (0 : Int) (10000 : Int))])))) (2500 : Int))) (Enc.F eRg (M.flows (Enc.list eSc (2 : Nat) (Enc.F eSc (Enc.list eSc (2 : Nat) (Enc.F eSc [(Scale.mk (1000 : Int) (0 : Int) (0 : Int) (20000 : Int)), (Scale.mk (1000 : Int) (0 : Int) (0 : Int) (10000 : Int))])))) (2500 : Int))),
  List.length (Enc.list eRg (List.length (M.flows (Enc.list eSc (2 : Nat) (Enc.F eSc (Enc.list eSc (2 : Nat) (Enc.F eSc [(Scale.mk (1000 : Int) (0 : Int) (0 : Int) (20000 : Int)), (Scale.mk (1000 : Int) (0 : Int) (0 : Int) (10000 : Int))])))) (2500 : Int))) (Enc.F eRg (M.flows (Enc.list eSc (2 : Nat) (Enc.F eSc (Enc.list eSc (2 : Nat) (Enc.F eSc [(Scale.mk (1000 : Int) (0 : Int) (0 : Int) (20000 : Int)), (Scale.mk (1000 : Int) (0 : Int) (0 : Int) (10000 : Int))])))) (2500 : Int)))) ≤ List.length (Enc.list eSc (2 : Nat) (Enc.F eSc (Enc.list eSc (2 : Nat) (Enc.F eSc [(Scale.mk (1000 : Int) (0 : Int) (0 : Int) (20000 : Int)), (Scale.mk (1000 : Int) (0 : Int) (0 : Int) (10000 : Int))])))),
  List.length (Enc.list eSc (2 : Nat) (Enc.F eSc (Enc.list eSc (2 : Nat) (Enc.F eSc [(Scale.mk (1000 : Int) (0 : Int) (0 : Int) (20000 : Int)), (Scale.mk (1000 : Int) (0 : Int) (0 : Int) (10000 : Int))])))) ≤ (100000 : Nat),
  (0 : Int) ≤ (0 : Int),
  (0 : Int) < (2 : Int),
  Enc.Is eSc (2 : Nat) (Enc.F eSc (Enc.list eSc (2 : Nat) (Enc.F eSc [(Scale.mk (1000 : Int) (0 : Int) (0 : Int) (20000 : Int)), (Scale.mk (1000 : Int) (0 : Int) (0 : Int) (10000 : Int))]))),
  List.length (Enc.list eSc (2 : Nat) (Enc.F eSc (Enc.list eSc (2 : Nat) (Enc.F eSc [(Scale.mk (1000 : Int) (0 : Int) (0 : Int) (20000 : Int)), (Scale.mk (1000 : Int) (0 : Int) (0 : Int) (10000 : Int))])))) ≤ (100000 : Nat),
  Enc.Is eSc (2 : Nat) (Enc.F eSc (Enc.list eSc (2 : Nat) (Enc.F eSc [(Scale.mk (1000 : Int) (0 : Int) (0 : Int) (20000 : Int)), (Scale.mk (1000 : Int) (0 : Int) (0 : Int) (10000 : Int))]))),
  Enc.Is eRg (List.length (M.flows (Enc.list eSc (2 : Nat) (Enc.F eSc (Enc.list eSc (2 : Nat) (Enc.F eSc [(Scale.mk (1000 : Int) (0 : Int) (0 : Int) (20000 : Int)), (Scale.mk (1000 : Int) (0 : Int) (0 : Int) (10000 : Int))])))) (1250 : Int))) (Enc.F eRg (M.flows (Enc.list eSc (2 : Nat) (Enc.F eSc (Enc.list eSc (2 : Nat) (Enc.F eSc [(Scale.mk (1000 : Int) (0 : Int) (0 : Int) (20000 : Int)), (Scale.mk (1000 : Int) (0 : Int) (0 : Int) (10000 : Int))])))) (1250 : Int))),
  List.length (Enc.list eRg (List.length (M.flows (Enc.list eSc (2 : Nat) (Enc.F eSc (Enc.list eSc (2 : Nat) (Enc.F eSc [(Scale.mk (1000 : Int) (0 : Int) (0 : Int) (20000 : Int)), (Scale.mk (1000 : Int) (0 : Int) (0 : Int) (10000 : Int))])))) (1250 : Int))) (Enc.F eRg (M.flows (Enc.list eSc (2 : Nat) (Enc.F eSc (Enc.list eSc (2 : Nat) (Enc.F eSc [(Scale.mk (1000 : Int) (0 : Int) (0 : Int) (20000 : Int)), (Scale.mk (1000 : Int) (0 : Int) (0 : Int) (10000 : Int))])))) (1250 : Int)))) ≤ List.length (Enc.list eSc (2 : Nat) (Enc.F eSc (Enc.list eSc (2 : Nat) (Enc.F eSc [(Scale.mk (1000 : Int) (0 : Int) (0 : Int) (20000 : Int)), (Scale.mk (1000 : Int) (0 : Int) (0 : Int) (10000 : Int))])))),
  List.length (Enc.list eSc (2 : Nat) (Enc.F eSc (Enc.list eSc (2 : Nat) (Enc.F eSc [(Scale.mk (1000 : Int) (0 : Int) (0 : Int) (20000 : Int)), (Scale.mk (1000 : Int) (0 : Int) (0 : Int) (10000 : Int))])))) ≤ (100000 : Nat),
  (0 : Int) ≤ (0 : Int),
  (0 : Int) < (2 : Int),
  Enc.Is eSc (2 : Nat) (Enc.F eSc (Enc.list eSc (2 : Nat) (Enc.F eSc [(Scale.mk (1000 : Int) (0 : Int) (0 : Int) (20000 : Int)), (Scale.mk (1000 : Int) (0 : Int) (0 : Int) (10000 : Int))]))),
  List.length (Enc.list eSc (2 : Nat) (Enc.F eSc (Enc.list eSc (2 : Nat) (Enc.F eSc [(Scale.mk (1000 : Int) (0 : Int) (0 : Int) (20000 : Int)), (Scale.mk (1000 : Int) (0 : Int) (0 : Int) (10000 : Int))])))) ≤ (100000 : Nat),
  Enc.Is eSc (2 : Nat) (Enc.F eSc (Enc.list eSc (2 : Nat) (Enc.F eSc [(Scale.mk (1000 : Int) (0 : Int) (0 : Int) (20000 : Int)), (Scale.mk (1000 : Int) (0 : Int) (0 : Int) (10000 : Int))]))),
  Enc.Is eRg (List.length (M.flows (Enc.list eSc (2 : Nat) (Enc.F eSc (Enc.list eSc (2 : Nat) (Enc.F eSc [(Scale.mk (1000 : Int) (0 : Int) (0 : Int) (20000 : Int)), (Scale.mk (1000 : Int) (0 : Int) (0 : Int) (10000 : Int))])))) (625 : Int))) (Enc.F eRg (M.flows (Enc.list eSc (2 : Nat) (Enc.F eSc (Enc.list eSc (2 : Nat) (Enc.F eSc [(Scale.mk (1000 : Int) (0 : Int) (0 : Int) (20000 : Int)), (Scale.mk (1000 : Int) (0 : Int) (0 : Int) (10000 : Int))])))) (625 : Int))),
  List.length (Enc.list eRg (List.length (M.flows (Enc.list eSc (2 : Nat) (Enc.F eSc (Enc.list eSc (2 : Nat) (Enc.F eSc [(Scale.mk (1000 : Int) (0 : Int) (0 : Int) (20000 : Int)), (Scale.mk (1000 : Int) (0 : Int) (0 : Int) (10000 : Int))])))) (625 : Int))) (Enc.F eRg (M.flows (Enc.list eSc (2 : Nat) (Enc.F eSc (Enc.list eSc (2 : Nat) (Enc.F eSc [(Scale.mk (1000 : Int) (0 : Int) (0 : Int) (20000 : Int)), (Scale.mk (1000 : Int) (0 : Int) (0 : Int) (10000 : Int))])))) (625 : Int)))) ≤ List.length (Enc.list eSc (2 : Nat) (Enc.F eSc (Enc.list eSc (2 : Nat) (Enc.F eSc [(Scale.mk (1000 : Int) (0 : Int) (0 : Int) (20000 : Int)), (Scale.mk (1000 : Int) (0 : Int) (0 : Int) (10000 : Int))])))),
  List.length (Enc.list eSc (2 : Nat) (Enc.F eSc (Enc.list eSc (2 : Nat) (Enc.F eSc [(Scale.mk (1000 : Int) (0 : Int) (0 : Int) (20000 : Int)), (Scale.mk (1000 : Int) (0 : Int) (0 : Int) (10000 : Int))])))) ≤ (100000 : Nat),
  (0 : Int) ≤ (0 : Int),
  (0 : Int) < (2 : Int),
  Same [Ag.agg [D.sl true (2 : Nat) (4 : Nat) (Enc.F eSc (Enc.list eSc (2 : Nat) (Enc.F eSc [(Scale.mk (1000 : Int) (0 : Int) (0 : Int) (20000 : Int)), (Scale.mk (1000 : Int) (0 : Int) (0 : Int) (10000 : Int))]))), D.int IntKind.i64 (0 : Int)], Ag.c (D.int IntKind.i64 (0 : Int)), Ag.c (D.fc (185 : Nat) (List.length [D.sl false (List.length (M.flows (Enc.list eSc (2 : Nat) (Enc.F eSc (Enc.list eSc (2 : Nat) (Enc.F eSc [(Scale.mk (1000 : Int) (0 : Int) (0 : Int) (20000 : Int)), (Scale.mk (1000 : Int) (0 : Int) (0 : Int) (10000 : Int))])))) (625 : Int))) (2 : Nat) (Enc.F eRg (M.flows (Enc.list eSc (2 : Nat) (Enc.F eSc (Enc.list eSc (2 : Nat) (Enc.F eSc [(Scale.mk (1000 : Int) (0 : Int) (0 : Int) (20000 : Int)), (Scale.mk (1000 : Int) (0 : Int) (0 : Int) (10000 : Int))])))) (625 : Int)))]) fun (j : Nat) => List.getD [D.sl false (List.length (M.flows (Enc.list eSc (2 : Nat) (Enc.F eSc (Enc.list eSc (2 : Nat) (Enc.F eSc [(Scale.mk (1000 : Int) (0 : Int) (0 : Int) (20000 : Int)), (Scale.mk (1000 : Int) (0 : Int) (0 : Int) (10000 : Int))])))) (625 : Int))) (2 : Nat) (Enc.F eRg (M.flows (Enc.list eSc (2 : Nat) (Enc.F eSc (Enc.list eSc (2 : Nat) (Enc.F eSc [(Scale.mk (1000 : Int) (0 : Int) (0 : Int) (20000 : Int)), (Scale.mk (1000 : Int) (0 : Int) (0 : Int) (10000 : Int))])))) (625 : Int)))] j D.nilp)] (canon (Row110.g { g := (185 : Nat), i := (0 : Int), d := (625 : Int), lo := (3200 : Int), hi := (3200 : Int) }) (0 : Int) (625 : Int)),
  (0 : Int) ≤ (0 : Int),
  (0 : Int) < (2 : Int),
  Enc.Is eSc (2 : Nat) (Enc.F eSc (Enc.list eSc (2 : Nat) (Enc.F eSc [(Scale.mk (1000 : Int) (0 : Int) (0 : Int) (20000 : Int)), (Scale.mk (1000 : Int) (0 : Int) (0 : Int) (10000 : Int))]))),
  List.length (Enc.list eSc (2 : Nat) (Enc.F eSc (Enc.list eSc (2 : Nat) (Enc.F eSc [(Scale.mk (1000 : Int) (0 : Int) (0 : Int) (20000 : Int)), (Scale.mk (1000 : Int) (0 : Int) (0 : Int) (10000 : Int))])))) ≤ (100000 : Nat),
  Enc.Is eSc (2 : Nat) (Enc.F eSc (Enc.list eSc (2 : Nat) (Enc.F eSc [(Scale.mk (1000 : Int) (0 : Int) (0 : Int) (20000 : Int)), (Scale.mk (1000 : Int) (0 : Int) (0 : Int) (10000 : Int))]))),
  Enc.Is eRg (List.length (M.flows (Enc.list eSc (2 : Nat) (Enc.F eSc (Enc.list eSc (2 : Nat) (Enc.F eSc [(Scale.mk (1000 : Int) (0 : Int) (0 : Int) (20000 : Int)), (Scale.mk (1000 : Int) (0 : Int) (0 : Int) (10000 : Int))])))) (312 : Int))) (Enc.F eRg (M.flows (Enc.list eSc (2 : Nat) (Enc.F eSc (Enc.list eSc (2 : Nat) (Enc.F eSc [(Scale.mk (1000 : Int) (0 : Int) (0 : Int) (20000 : Int)), (Scale.mk (1000 : Int) (0 : Int) (0 : Int) (10000 : Int))])))) (312 : Int))),
  List.length (Enc.list eRg (List.length (M.flows (Enc.list eSc (2 : Nat) (Enc.F eSc (Enc.list eSc (2 : Nat) (Enc.F eSc [(Scale.mk (1000 : Int) (0 : Int) (0 : Int) (20000 : Int)), (Scale.mk (1000 : Int) (0 : Int) (0 : Int) (10000 : Int))])))) (312 : Int))) (Enc.F eRg (M.flows (Enc.list eSc (2 : Nat) (Enc.F eSc (Enc.list eSc (2 : Nat) (Enc.F eSc [(Scale.mk (1000 : Int) (0 : Int) (0 : Int) (20000 : Int)), (Scale.mk (1000 : Int) (0 : Int) (0 : Int) (10000 : Int))])))) (312 : Int)))) ≤ List.length (Enc.list eSc (2 : Nat) (Enc.F eSc (Enc.list eSc (2 : Nat) (Enc.F eSc [(Scale.mk (1000 : Int) (0 : Int) (0 : Int) (20000 : Int)), (Scale.mk (1000 : Int) (0 : Int) (0 : Int) (10000 : Int))])))),
  List.length (Enc.list eSc (2 : Nat) (Enc.F eSc (Enc.list eSc (2 : Nat) (Enc.F eSc [(Scale.mk (1000 : Int) (0 : Int) (0 : Int) (20000 : Int)), (Scale.mk (1000 : Int) (0 : Int) (0 : Int) (10000 : Int))])))) ≤ (100000 : Nat),
  (0 : Int) ≤ (0 : Int),
  (0 : Int) < (2 : Int),
  Same [Ag.agg [D.sl true (2 : Nat) (4 : Nat) (Enc.F eSc (Enc.list eSc (2 : Nat) (Enc.F eSc [(Scale.mk (1000 : Int) (0 : Int) (0 : Int) (20000 : Int)), (Scale.mk (1000 : Int) (0 : Int) (0 : Int) (10000 : Int))]))), D.int IntKind.i64 (0 : Int)], Ag.c (D.int IntKind.i64 (0 : Int)), Ag.c (D.fc (185 : Nat) (List.length [D.sl false (List.length (M.flows (Enc.list eSc (2 : Nat) (Enc.F eSc (Enc.list eSc (2 : Nat) (Enc.F eSc [(Scale.mk (1000 : Int) (0 : Int) (0 : Int) (20000 : Int)), (Scale.mk (1000 : Int) (0 : Int) (0 : Int) (10000 : Int))])))) (312 : Int))) (2 : Nat) (Enc.F eRg (M.flows (Enc.list eSc (2 : Nat) (Enc.F eSc (Enc.list eSc (2 : Nat) (Enc.F eSc [(Scale.mk (1000 : Int) (0 : Int) (0 : Int) (20000 : Int)), (Scale.mk (1000 : Int) (0 : Int) (0 : Int) (10000 : Int))])))) (312 : Int)))]) fun (j : Nat) => List.getD [D.sl false (List.length (M.flows (Enc.list eSc (2 : Nat) (Enc.F eSc (Enc.list eSc (2 : Nat) (Enc.F eSc [(Scale.mk (1000 : Int) (0 : Int) (0 : Int) (20000 : Int)), (Scale.mk (1000 : Int) (0 : Int) (0 : Int) (10000 : Int))])))) (312 : Int))) (2 : Nat) (Enc.F eRg (M.flows (Enc.list eSc (2 : Nat) (Enc.F eSc (Enc.list eSc (2 : Nat) (Enc.F eSc [(Scale.mk (1000 : Int) (0 : Int) (0 : Int) (20000 : Int)), (Scale.mk (1000 : Int) (0 : Int) (0 : Int) (10000 : Int))])))) (312 : Int)))] j D.nilp)] (canon (Row110.g { g := (185 : Nat), i := (0 : Int), d := (312 : Int), lo := (6410 : Int), hi := (6411 : Int) }) (0 : Int) (312 : Int)),
  (0 : Int) ≤ (0 : Int),
  (0 : Int) < (2 : Int),
  Enc.Is eSc (2 : Nat) (Enc.F eSc (Enc.list eSc (2 : Nat) (Enc.F eSc [(Scale.mk (1000 : Int) (0 : Int) (0 : Int) (20000 : Int)), (Scale.mk (1000 : Int) (0 : Int) (0 : Int) (10000 : Int))]))),
  List.length (Enc.list eSc (2 : Nat) (Enc.F eSc (Enc.list eSc (2 : Nat) (Enc.F eSc [(Scale.mk (1000 : Int) (0 : Int) (0 : Int) (20000 : Int)), (Scale.mk (1000 : Int) (0 : Int) (0 : Int) (10000 : Int))])))) ≤ (100000 : Nat),
  Enc.Is eSc (2 : Nat) (Enc.F eSc (Enc.list eSc (2 : Nat) (Enc.F eSc [(Scale.mk (1000 : Int) (0 : Int) (0 : Int) (20000 : Int)), (Scale.mk (1000 : Int) (0 : Int) (0 : Int) (10000 : Int))]))),
  Enc.Is eRg (List.length (M.flows (Enc.list eSc (2 : Nat) (Enc.F eSc (Enc.list eSc (2 : Nat) (Enc.F eSc [(Scale.mk (1000 : Int) (0 : Int) (0 : Int) (20000 : Int)), (Scale.mk (1000 : Int) (0 : Int) (0 : Int) (10000 : Int))])))) (156 : Int))) (Enc.F eRg (M.flows (Enc.list eSc (2 : Nat) (Enc.F eSc (Enc.list eSc (2 : Nat) (Enc.F eSc [(Scale.mk (1000 : Int) (0 : Int) (0 : Int) (20000 : Int)), (Scale.mk (1000 : Int) (0 : Int) (0 : Int) (10000 : Int))])))) (156 : Int))),
  List.length (Enc.list eRg (List.length (M.flows (Enc.list eSc (2 : Nat) (Enc.F eSc (Enc.list eSc (2 : Nat) (Enc.F eSc [(Scale.mk (1000 : Int) (0 : Int) (0 : Int) (20000 : Int)), (Scale.mk (1000 : Int) (0 : Int) (0 : Int) (10000 : Int))])))) (156 : Int))) (Enc.F eRg (M.flows (Enc.list eSc (2 : Nat) (Enc.F eSc (Enc.list eSc (2 : Nat) (Enc.F eSc [(Scale.mk (1000 : Int) (0 : Int) (0 : Int) (20000 : Int)), (Scale.mk (1000 : Int) (0 : Int) (0 : Int) (10000 : Int))])))) (156 : Int)))) ≤ List.length (Enc.list eSc (2 : Nat) (Enc.F eSc (Enc.list eSc (2 : Nat) (Enc.F eSc [(Scale.mk (1000 : Int) (0 : Int) (0 : Int) (20000 : Int)), (Scale.mk (1000 : Int) (0 : Int) (0 : Int) (10000 : Int))])))),
  List.length (Enc.list eSc (2 : Nat) (Enc.F eSc (Enc.list eSc (2 : Nat) (Enc.F eSc [(Scale.mk (1000 : Int) (0 : Int) (0 : Int) (20000 : Int)), (Scale.mk (1000 : Int) (0 : Int) (0 : Int) (10000 : Int))])))) ≤ (100000 : Nat),
  (0 : Int) ≤ (0 : Int),
  (0 : Int) < (2 : Int),
  Same [Ag.agg [D.sl true (2 : Nat) (4 : Nat) (Enc.F eSc (Enc.list eSc (2 : Nat) (Enc.F eSc [(Scale.mk (1000 : Int) (0 : Int) (0 : Int) (20000 : Int)), (Scale.mk (1000 : Int) (0 : Int) (0 : Int) (10000 : Int))]))), D.int IntKind.i64 (0 : Int)], Ag.c (D.int IntKind.i64 (0 : Int)), Ag.c (D.fc (185 : Nat) (List.length [D.sl false (List.length (M.flows (Enc.list eSc (2 : Nat) (Enc.F eSc (Enc.list eSc (2 : Nat) (Enc.F eSc [(Scale.mk (1000 : Int) (0 : Int) (0 : Int) (20000 : Int)), (Scale.mk (1000 : Int) (0 : Int) (0 : Int) (10000 : Int))])))) (156 : Int))) (2 : Nat) (Enc.F eRg (M.flows (Enc.list eSc (2 : Nat) (Enc.F eSc (Enc.list eSc (2 : Nat) (Enc.F eSc [(Scale.mk (1000 : Int) (0 : Int) (0 : Int) (20000 : Int)), (Scale.mk (1000 : Int) (0 : Int) (0 : Int) (10000 : Int))])))) (156 : Int)))]) fun (j : Nat) => List.getD [D.sl false (List.length (M.flows (Enc.list eSc (2 : Nat) (Enc.F eSc (Enc.list eSc (2 : Nat) (Enc.F eSc [(Scale.mk (1000 : Int) (0 : Int) (0 : Int) (20000 : Int)), (Scale.mk (1000 : Int) (0 : Int) (0 : Int) (10000 : Int))])))) (156 : Int))) (2 : Nat) (Enc.F eRg (M.flows (Enc.list eSc (2 : Nat) (Enc.F eSc (Enc.list eSc (2 : Nat) (Enc.F eSc [(Scale.mk (1000 : Int) (0 : Int) (0 : Int) (20000 : Int)), (Scale.mk (1000 : Int) (0 : Int) (0 : Int) (10000 : Int))])))) (156 : Int)))] j D.nilp)] (canon (Row110.g { g := (185 : Nat), i := (0 : Int), d := (156 : Int), lo := (12820 : Int), hi := (12821 : Int) }) (0 : Int) (156 : Int)),
  (0 : Int) ≤ (0 : Int),
  (0 : Int) < (2 : Int),
  Enc.Is eSc (2 : Nat) (Enc.F eSc (Enc.list eSc (2 : Nat) (Enc.F eSc [(Scale.mk (1000 : Int) (0 : Int) (0 : Int) (20000 : Int)), (Scale.mk (1000 : Int) (0 : Int) (0 : Int) (10000 : Int))]))),
  List.length (Enc.list eSc (2 : Nat) (Enc.F eSc (Enc.list eSc (2 : Nat) (Enc.F eSc [(Scale.mk (1000 : Int) (0 : Int) (0 : Int) (20000 : Int)), (Scale.mk (1000 : Int) (0 : Int) (0 : Int) (10000 : Int))])))) ≤ (100000 : Nat),
  Enc.Is eSc (2 : Nat) (Enc.F eSc (Enc.list eSc (2 : Nat) (Enc.F eSc [(Scale.mk (1000 : Int) (0 : Int) (0 : Int) (20000 : Int)), (Scale.mk (1000 : Int) (0 : Int) (0 : Int) (10000 : Int))]))),
  Enc.Is eRg (List.length (M.flows (Enc.list eSc (2 : Nat) (Enc.F eSc (Enc.list eSc (2 : Nat) (Enc.F eSc [(Scale.mk (1000 : Int) (0 : Int) (0 : Int) (20000 : Int)), (Scale.mk (1000 : Int) (0 : Int) (0 : Int) (10000 : Int))])))) (78 : Int))) (Enc.F eRg (M.flows (Enc.list eSc (2 : Nat) (Enc.F eSc (Enc.list eSc (2 : Nat) (Enc.F eSc [(Scale.mk (1000 : Int) (0 : Int) (0 : Int) (20000 : Int)), (Scale.mk (1000 : Int) (0 : Int) (0 : Int) (10000 : Int))])))) (78 : Int))),
  List.length (Enc.list eRg (List.length (M.flows (Enc.list eSc (2 : Nat) (Enc.F eSc (Enc.list eSc (2 : Nat) (Enc.F eSc [(Scale.mk (1000 : Int) (0 : Int) (0 : Int) (20000 : Int)), (Scale.mk (1000 : Int) (0 : Int) (0 : Int) (10000 : Int))])))) (78 : Int))) (Enc.F eRg (M.flows (Enc.list eSc (2 : Nat) (Enc.F eSc (Enc.list eSc (2 : Nat) (Enc.F eSc [(Scale.mk (1000 : Int) (0 : Int) (0 : Int) (20000 : Int)), (Scale.mk (1000 : Int) (0 : Int) (0 : Int) (10000 : Int))])))) (78 : Int)))) ≤ List.length (Enc.list eSc (2 : Nat) (Enc.F eSc (Enc.list eSc (2 : Nat) (Enc.F eSc [(Scale.mk (1000 : Int) (0 : Int) (0 : Int) (20000 : Int)), (Scale.mk (1000 : Int) (0 : Int) (0 : Int) (10000 : Int))])))),
  List.length (Enc.list eSc (2 : Nat) (Enc.F eSc (Enc.list eSc (2 : Nat) (Enc.F eSc [(Scale.mk (1000 : Int) (0 : Int) (0 : Int) (20000 : Int)), (Scale.mk (1000 : Int) (0 : Int) (0 : Int) (10000 : Int))])))) ≤ (100000 : Nat),
  (0 : Int) ≤ (0 : Int),
  (0 : Int) < (2 : Int),
  Same [Ag.agg [D.sl true (2 : Nat) (4 : Nat) (Enc.F eSc (Enc.list eSc (2 : Nat) (Enc.F eSc [(Scale.mk (1000 : Int) (0 : Int) (0 : Int) (20000 : Int)), (Scale.mk (1000 : Int) (0 : Int) (0 : Int) (10000 : Int))]))), D.int IntKind.i64 (0 : Int)], Ag.c (D.int IntKind.i64 (0 : Int)), Ag.c (D.fc (185 : Nat) (List.length [D.sl false (List.length (M.flows (Enc.list eSc (2 : Nat) (Enc.F eSc (Enc.list eSc (2 : Nat) (Enc.F eSc [(Scale.mk (1000 : Int) (0 : Int) (0 : Int) (20000 : Int)), (Scale.mk (1000 : Int) (0 : Int) (0 : Int) (10000 : Int))])))) (78 : Int))) (2 : Nat) (Enc.F eRg (M.flows (Enc.list eSc (2 : Nat) (Enc.F eSc (Enc.list eSc (2 : Nat) (Enc.F eSc [(Scale.mk (1000 : Int) (0 : Int) (0 : Int) (20000 : Int)), (Scale.mk (1000 : Int) (0 : Int) (0 : Int) (10000 : Int))])))) (78 : Int)))]) fun (j : Nat) => List.getD [D.sl false (List.length (M.flows (Enc.list eSc (2 : Nat) (Enc.F eSc (Enc.list eSc (2 : Nat) (Enc.F eSc [(Scale.mk (1000 : Int) (0 : Int) (0 : Int) (20000 : Int)), (Scale.mk (1000 : Int) (0 : Int) (0 : Int) (10000 : Int))])))) (78 : Int))) (2 : Nat) (Enc.F eRg (M.flows (Enc.list eSc (2 : Nat) (Enc.F eSc (Enc.list eSc (2 : Nat) (Enc.F eSc [(Scale.mk (1000 : Int) (0 : Int) (0 : Int) (20000 : Int)), (Scale.mk (1000 : Int) (0 : Int) (0 : Int) (10000 : Int))])))) (78 : Int)))] j D.nilp)] (canon (Row110.g { g := (185 : Nat), i := (0 : Int), d := (78 : Int), lo := (25641 : Int), hi := (25642 : Int) }) (0 : Int) (78 : Int)),
  (0 : Int) ≤ (0 : Int),
  (0 : Int) < (2 : Int),
  (0 : Int) ≤ (1 : Int),
  (1 : Int) < (2 : Int),
  Same [Ag.agg [D.sl true (2 : Nat) (4 : Nat) (Enc.F eSc (Enc.list eSc (2 : Nat) (Enc.F eSc [(Scale.mk (1000 : Int) (0 : Int) (0 : Int) (20000 : Int)), (Scale.mk (1000 : Int) (0 : Int) (0 : Int) (10000 : Int))]))), D.int IntKind.i64 (0 : Int)], Ag.c (D.int IntKind.i64 (1 : Int)), Ag.c (D.fc (185 : Nat) (List.length [D.sl false (List.length (M.flows (Enc.list eSc (2 : Nat) (Enc.F eSc (Enc.list eSc (2 : Nat) (Enc.F eSc [(Scale.mk (1000 : Int) (0 : Int) (0 : Int) (20000 : Int)), (Scale.mk (1000 : Int) (0 : Int) (0 : Int) (10000 : Int))])))) (78 : Int))) (2 : Nat) (Enc.F eRg (M.flows (Enc.list eSc (2 : Nat) (Enc.F eSc (Enc.list eSc (2 : Nat) (Enc.F eSc [(Scale.mk (1000 : Int) (0 : Int) (0 : Int) (20000 : Int)), (Scale.mk (1000 : Int) (0 : Int) (0 : Int) (10000 : Int))])))) (78 : Int)))]) fun (j : Nat) => List.getD [D.sl false (List.length (M.flows (Enc.list eSc (2 : Nat) (Enc.F eSc (Enc.list eSc (2 : Nat) (Enc.F eSc [(Scale.mk (1000 : Int) (0 : Int) (0 : Int) (20000 : Int)), (Scale.mk (1000 : Int) (0 : Int) (0 : Int) (10000 : Int))])))) (78 : Int))) (2 : Nat) (Enc.F eRg (M.flows (Enc.list eSc (2 : Nat) (Enc.F eSc (Enc.list eSc (2 : Nat) (Enc.F eSc [(Scale.mk (1000 : Int) (0 : Int) (0 : Int) (20000 : Int)), (Scale.mk (1000 : Int) (0 : Int) (0 : Int) (10000 : Int))])))) (78 : Int)))] j D.nilp)] (canon (Row110.g { g := (185 : Nat), i := (1 : Int), d := (78 : Int), lo := (12820 : Int), hi := (12821 : Int) }) (1 : Int) (78 : Int)),
  (0 : Int) ≤ (1 : Int),
  (1 : Int) < (2 : Int),
  Enc.Is eSc (2 : Nat) (Enc.F eSc (Enc.list eSc (2 : Nat) (Enc.F eSc [(Scale.mk (1000 : Int) (0 : Int) (0 : Int) (20000 : Int)), (Scale.mk (1000 : Int) (0 : Int) (0 : Int) (10000 : Int))]))),
  List.length (Enc.list eSc (2 : Nat) (Enc.F eSc (Enc.list eSc (2 : Nat) (Enc.F eSc [(Scale.mk (1000 : Int) (0 : Int) (0 : Int) (20000 : Int)), (Scale.mk (1000 : Int) (0 : Int) (0 : Int) (10000 : Int))])))) ≤ (100000 : Nat),
  Enc.Is eSc (2 : Nat) (Enc.F eSc (Enc.list eSc (2 : Nat) (Enc.F eSc [(Scale.mk (1000 : Int) (0 : Int) (0 : Int) (20000 : Int)), (Scale.mk (1000 : Int) (0 : Int) (0 : Int) (10000 : Int))]))),
  Enc.Is eRg (List.length (M.flows (Enc.list eSc (2 : Nat) (Enc.F eSc (Enc.list eSc (2 : Nat) (Enc.F eSc [(Scale.mk (1000 : Int) (0 : Int) (0 : Int) (20000 : Int)), (Scale.mk (1000 : Int) (0 : Int) (0 : Int) (10000 : Int))])))) (117 : Int))) (Enc.F eRg (M.flows (Enc.list eSc (2 : Nat) (Enc.F eSc (Enc.list eSc (2 : Nat) (Enc.F eSc [(Scale.mk (1000 : Int) (0 : Int) (0 : Int) (20000 : Int)), (Scale.mk (1000 : Int) (0 : Int) (0 : Int) (10000 : Int))])))) (117 : Int))),
  List.length (Enc.list eRg (List.length (M.flows (Enc.list eSc (2 : Nat) (Enc.F eSc (Enc.list eSc (2 : Nat) (Enc.F eSc [(Scale.mk (1000 : Int) (0 : Int) (0 : Int) (20000 : Int)), (Scale.mk (1000 : Int) (0 : Int) (0 : Int) (10000 : Int))])))) (117 : Int))) (Enc.F eRg (M.flows (Enc.list eSc (2 : Nat) (Enc.F eSc (Enc.list eSc (2 : Nat) (Enc.F eSc [(Scale.mk (1000 : Int) (0 : Int) (0 : Int) (20000 : Int)), (Scale.mk (1000 : Int) (0 : Int) (0 : Int) (10000 : Int))])))) (117 : Int)))) ≤ List.length (Enc.list eSc (2 : Nat) (Enc.F eSc (Enc.list eSc (2 : Nat) (Enc.F eSc [(Scale.mk (1000 : Int) (0 : Int) (0 : Int) (20000 : Int)), (Scale.mk (1000 : Int) (0 : Int) (0 : Int) (10000 : Int))])))),
  List.length (Enc.list eSc (2 : Nat) (Enc.F eSc (Enc.list eSc (2 : Nat) (Enc.F eSc [(Scale.mk (1000 : Int) (0 : Int) (0 : Int) (20000 : Int)), (Scale.mk (1000 : Int) (0 : Int) (0 : Int) (10000 : Int))])))) ≤ (100000 : Nat),
  (0 : Int) ≤ (0 : Int),
  (0 : Int) < (2 : Int),
  Same [Ag.agg [D.sl true (2 : Nat) (4 : Nat) (Enc.F eSc (Enc.list eSc (2 : Nat) (Enc.F eSc [(Scale.mk (1000 : Int) (0 : Int) (0 : Int) (20000 : Int)), (Scale.mk (1000 : Int) (0 : Int) (0 : Int) (10000 : Int))]))), D.int IntKind.i64 (0 : Int)], Ag.c (D.int IntKind.i64 (0 : Int)), Ag.c (D.fc (185 : Nat) (List.length [D.sl false (List.length (M.flows (Enc.list eSc (2 : Nat) (Enc.F eSc (Enc.list eSc (2 : Nat) (Enc.F eSc [(Scale.mk (1000 : Int) (0 : Int) (0 : Int) (20000 : Int)), (Scale.mk (1000 : Int) (0 : Int) (0 : Int) (10000 : Int))])))) (117 : Int))) (2 : Nat) (Enc.F eRg (M.flows (Enc.list eSc (2 : Nat) (Enc.F eSc (Enc.list eSc (2 : Nat) (Enc.F eSc [(Scale.mk (1000 : Int) (0 : Int) (0 : Int) (20000 : Int)), (Scale.mk (1000 : Int) (0 : Int) (0 : Int) (10000 : Int))])))) (117 : Int)))]) fun (j : Nat) => List.getD [D.sl false (List.length (M.flows (Enc.list eSc (2 : Nat) (Enc.F eSc (Enc.list eSc (2 : Nat) (Enc.F eSc [(Scale.mk (1000 : Int) (0 : Int) (0 : Int) (20000 : Int)), (Scale.mk (1000 : Int) (0 : Int) (0 : Int) (10000 : Int))])))) (117 : Int))) (2 : Nat) (Enc.F eRg (M.flows (Enc.list eSc (2 : Nat) (Enc.F eSc (Enc.list eSc (2 : Nat) (Enc.F eSc [(Scale.mk (1000 : Int) (0 : Int) (0 : Int) (20000 : Int)), (Scale.mk (1000 : Int) (0 : Int) (0 : Int) (10000 : Int))])))) (117 : Int)))] j D.nilp)] (canon (Row110.g { g := (185 : Nat), i := (0 : Int), d := (117 : Int), lo := (17094 : Int), hi := (17095 : Int) }) (0 : Int) (117 : Int)),
  (0 : Int) ≤ (0 : Int),
  (0 : Int) < (2 : Int),
  Enc.Is eSc (2 : Nat) (Enc.F eSc (Enc.list eSc (2 : Nat) (Enc.F eSc [(Scale.mk (1000 : Int) (0 : Int) (0 : Int) (20000 : Int)), (Scale.mk (1000 : Int) (0 : Int) (0 : Int) (10000 : Int))]))),
  List.length (Enc.list eSc (2 : Nat) (Enc.F eSc (Enc.list eSc (2 : Nat) (Enc.F eSc [(Scale.mk (1000 : Int) (0 : Int) (0 : Int) (20000 : Int)), (Scale.mk (1000 : Int) (0 : Int) (0 : Int) (10000 : Int))])))) ≤ (100000 : Nat),
  Enc.Is eSc (2 : Nat) (Enc.F eSc (Enc.list eSc (2 : Nat) (Enc.F eSc [(Scale.mk (1000 : Int) (0 : Int) (0 : Int) (20000 : Int)), (Scale.mk (1000 : Int) (0 : Int) (0 : Int) (10000 : Int))]))),
  Enc.Is eRg (List.length (M.flows (Enc.list eSc (2 : Nat) (Enc.F eSc (Enc.list eSc (2 : Nat) (Enc.F eSc [(Scale.mk (1000 : Int) (0 : Int) (0 : Int) (20000 : Int)), (Scale.mk (1000 : Int) (0 : Int) (0 : Int) (10000 : Int))])))) (97 : Int))) (Enc.F eRg (M.flows (Enc.list eSc (2 : Nat) (Enc.F eSc (Enc.list eSc (2 : Nat) (Enc.F eSc [(Scale.mk (1000 : Int) (0 : Int) (0 : Int) (20000 : Int)), (Scale.mk (1000 : Int) (0 : Int) (0 : Int) (10000 : Int))])))) (97 : Int))),
  List.length (Enc.list eRg (List.length (M.flows (Enc.list eSc (2 : Nat) (Enc.F eSc (Enc.list eSc (2 : Nat) (Enc.F eSc [(Scale.mk (1000 : Int) (0 : Int) (0 : Int) (20000 : Int)), (Scale.mk (1000 : Int) (0 : Int) (0 : Int) (10000 : Int))])))) (97 : Int))) (Enc.F eRg (M.flows (Enc.list eSc (2 : Nat) (Enc.F eSc (Enc.list eSc (2 : Nat) (Enc.F eSc [(Scale.mk (1000 : Int) (0 : Int) (0 : Int) (20000 : Int)), (Scale.mk (1000 : Int) (0 : Int) (0 : Int) (10000 : Int))])))) (97 : Int)))) ≤ List.length (Enc.list eSc (2 : Nat) (Enc.F eSc (Enc.list eSc (2 : Nat) (Enc.F eSc [(Scale.mk (1000 : Int) (0 : Int) (0 : Int) (20000 : Int)), (Scale.mk (1000 : Int) (0 : Int) (0 : Int) (10000 : Int))])))),
  List.length (Enc.list eSc (2 : Nat) (Enc.F eSc (Enc.list eSc (2 : Nat) (Enc.F eSc [(Scale.mk (1000 : Int) (0 : Int) (0 : Int) (20000 : Int)), (Scale.mk (1000 : Int) (0 : Int) (0 : Int) (10000 : Int))])))) ≤ (100000 : Nat),
  (0 : Int) ≤ (0 : Int),
  (0 : Int) < (2 : Int),
  Same [Ag.agg [D.sl true (2 : Nat) (4 : Nat) (Enc.F eSc (Enc.list eSc (2 : Nat) (Enc.F eSc [(Scale.mk (1000 : Int) (0 : Int) (0 : Int) (20000 : Int)), (Scale.mk (1000 : Int) (0 : Int) (0 : Int) (10000 : Int))]))), D.int IntKind.i64 (0 : Int)], Ag.c (D.int IntKind.i64 (0 : Int)), Ag.c (D.fc (185 : Nat) (List.length [D.sl false (List.length (M.flows (Enc.list eSc (2 : Nat) (Enc.F eSc (Enc.list eSc (2 : Nat) (Enc.F eSc [(Scale.mk (1000 : Int) (0 : Int) (0 : Int) (20000 : Int)), (Scale.mk (1000 : Int) (0 : Int) (0 : Int) (10000 : Int))])))) (97 : Int))) (2 : Nat) (Enc.F eRg (M.flows (Enc.list eSc (2 : Nat) (Enc.F eSc (Enc.list eSc (2 : Nat) (Enc.F eSc [(Scale.mk (1000 : Int) (0 : Int) (0 : Int) (20000 : Int)), (Scale.mk (1000 : Int) (0 : Int) (0 : Int) (10000 : Int))])))) (97 : Int)))]) fun (j : Nat) => List.getD [D.sl false (List.length (M.flows (Enc.list eSc (2 : Nat) (Enc.F eSc (Enc.list eSc (2 : Nat) (Enc.F eSc [(Scale.mk (1000 : Int) (0 : Int) (0 : Int) (20000 : Int)), (Scale.mk (1000 : Int) (0 : Int) (0 : Int) (10000 : Int))])))) (97 : Int))) (2 : Nat) (Enc.F eRg (M.flows (Enc.list eSc (2 : Nat) (Enc.F eSc (Enc.list eSc (2 : Nat) (Enc.F eSc [(Scale.mk (1000 : Int) (0 : Int) (0 : Int) (20000 : Int)), (Scale.mk (1000 : Int) (0 : Int) (0 : Int) (10000 : Int))])))) (97 : Int)))] j D.nilp)] (canon (Row110.g { g := (185 : Nat), i := (0 : Int), d := (97 : Int), lo := (20618 : Int), hi := (20619 : Int) }) (0 : Int) (97 : Int)),
  (0 : Int) ≤ (0 : Int),
  (0 : Int) < (2 : Int),
  (0 : Int) ≤ (1 : Int),
  (1 : Int) < (2 : Int),
  Same [Ag.agg [D.sl true (2 : Nat) (4 : Nat) (Enc.F eSc (Enc.list eSc (2 : Nat) (Enc.F eSc [(Scale.mk (1000 : Int) (0 : Int) (0 : Int) (20000 : Int)), (Scale.mk (1000 : Int) (0 : Int) (0 : Int) (10000 : Int))]))), D.int IntKind.i64 (0 : Int)], Ag.c (D.int IntKind.i64 (1 : Int)), Ag.c (D.fc (185 : Nat) (List.length [D.sl false (List.length (M.flows (Enc.list eSc (2 : Nat) (Enc.F eSc (Enc.list eSc (2 : Nat) (Enc.F eSc [(Scale.mk (1000 : Int) (0 : Int) (0 : Int) (20000 : Int)), (Scale.mk (1000 : Int) (0 : Int) (0 : Int) (10000 : Int))])))) (97 : Int))) (2 : Nat) (Enc.F eRg (M.flows (Enc.list eSc (2 : Nat) (Enc.F eSc (Enc.list eSc (2 : Nat) (Enc.F eSc [(Scale.mk (1000 : Int) (0 : Int) (0 : Int) (20000 : Int)), (Scale.mk (1000 : Int) (0 : Int) (0 : Int) (10000 : Int))])))) (97 : Int)))]) fun (j : Nat) => List.getD [D.sl false (List.length (M.flows (Enc.list eSc (2 : Nat) (Enc.F eSc (Enc.list eSc (2 : Nat) (Enc.F eSc [(Scale.mk (1000 : Int) (0 : Int) (0 : Int) (20000 : Int)), (Scale.mk (1000 : Int) (0 : Int) (0 : Int) (10000 : Int))])))) (97 : Int))) (2 : Nat) (Enc.F eRg (M.flows (Enc.list eSc (2 : Nat) (Enc.F eSc (Enc.list eSc (2 : Nat) (Enc.F eSc [(Scale.mk (1000 : Int) (0 : Int) (0 : Int) (20000 : Int)), (Scale.mk (1000 : Int) (0 : Int) (0 : Int) (10000 : Int))])))) (97 : Int)))] j D.nilp)] (canon (Row110.g { g := (185 : Nat), i := (1 : Int), d := (97 : Int), lo := (10309 : Int), hi := (10310 : Int) }) (1 : Int) (97 : Int)),
  (0 : Int) ≤ (1 : Int),
  (1 : Int) < (2 : Int),
  Enc.Is eSc (2 : Nat) (Enc.F eSc (Enc.list eSc (2 : Nat) (Enc.F eSc [(Scale.mk (1000 : Int) (0 : Int) (0 : Int) (20000 : Int)), (Scale.mk (1000 : Int) (0 : Int) (0 : Int) (10000 : Int))]))),
  List.length (Enc.list eSc (2 : Nat) (Enc.F eSc (Enc.list eSc (2 : Nat) (Enc.F eSc [(Scale.mk (1000 : Int) (0 : Int) (0 : Int) (20000 : Int)), (Scale.mk (1000 : Int) (0 : Int) (0 : Int) (10000 : Int))])))) ≤ (100000 : Nat),
  Enc.Is eSc (2 : Nat) (Enc.F eSc (Enc.list eSc (2 : Nat) (Enc.F eSc [(Scale.mk (1000 : Int) (0 : Int) (0 : Int) (20000 : Int)), (Scale.mk (1000 : Int) (0 : Int) (0 : Int) (10000 : Int))]))),
  Enc.Is eRg (List.length (M.flows (Enc.list eSc (2 : Nat) (Enc.F eSc (Enc.list eSc (2 : Nat) (Enc.F eSc [(Scale.mk (1000 : Int) (0 : Int) (0 : Int) (20000 : Int)), (Scale.mk (1000 : Int) (0 : Int) (0 : Int) (10000 : Int))])))) (107 : Int))) (Enc.F eRg (M.flows (Enc.list eSc (2 : Nat) (Enc.F eSc (Enc.list eSc (2 : Nat) (Enc.F eSc [(Scale.mk (1000 : Int) (0 : Int) (0 : Int) (20000 : Int)), (Scale.mk (1000 : Int) (0 : Int) (0 : Int) (10000 : Int))])))) (107 : Int))),
  List.length (Enc.list eRg (List.length (M.flows (Enc.list eSc (2 : Nat) (Enc.F eSc (Enc.list eSc (2 : Nat) (Enc.F eSc [(Scale.mk (1000 : Int) (0 : Int) (0 : Int) (20000 : Int)), (Scale.mk (1000 : Int) (0 : Int) (0 : Int) (10000 : Int))])))) (107 : Int))) (Enc.F eRg (M.flows (Enc.list eSc (2 : Nat) (Enc.F eSc (Enc.list eSc (2 : Nat) (Enc.F eSc [(Scale.mk (1000 : Int) (0 : Int) (0 : Int) (20000 : Int)), (Scale.mk (1000 : Int) (0 : Int) (0 : Int) (10000 : Int))])))) (107 : Int)))) ≤ List.length (Enc.list eSc (2 : Nat) (Enc.F eSc (Enc.list eSc (2 : Nat) (Enc.F eSc [(Scale.mk (1000 : Int) (0 : Int) (0 : Int) (20000 : Int)), (Scale.mk (1000 : Int) (0 : Int) (0 : Int) (10000 : Int))])))),
  List.length (Enc.list eSc (2 : Nat) (Enc.F eSc (Enc.list eSc (2 : Nat) (Enc.F eSc [(Scale.mk (1000 : Int) (0 : Int) (0 : Int) (20000 : Int)), (Scale.mk (1000 : Int) (0 : Int) (0 : Int) (10000 : Int))])))) ≤ (100000 : Nat),
  (0 : Int) ≤ (0 : Int),
  (0 : Int) < (2 : Int),
  Same [Ag.agg [D.sl true (2 : Nat) (4 : Nat) (Enc.F eSc (Enc.list eSc (2 : Nat) (Enc.F eSc [(Scale.mk (1000 : Int) (0 : Int) (0 : Int) (20000 : Int)), (Scale.mk (1000 : Int) (0 : Int) (0 : Int) (10000 : Int))]))), D.int IntKind.i64 (0 : Int)], Ag.c (D.int IntKind.i64 (0 : Int)), Ag.c (D.fc (185 : Nat) (List.length [D.sl false (List.length (M.flows (Enc.list eSc (2 : Nat) (Enc.F eSc (Enc.list eSc (2 : Nat) (Enc.F eSc [(Scale.mk (1000 : Int) (0 : Int) (0 : Int) (20000 : Int)), (Scale.mk (1000 : Int) (0 : Int) (0 : Int) (10000 : Int))])))) (107 : Int))) (2 : Nat) (Enc.F eRg (M.flows (Enc.list eSc (2 : Nat) (Enc.F eSc (Enc.list eSc (2 : Nat) (Enc.F eSc [(Scale.mk (1000 : Int) (0 : Int) (0 : Int) (20000 : Int)), (Scale.mk (1000 : Int) (0 : Int) (0 : Int) (10000 : Int))])))) (107 : Int)))]) fun (j : Nat) => List.getD [D.sl false (List.length (M.flows (Enc.list eSc (2 : Nat) (Enc.F eSc (Enc.list eSc (2 : Nat) (Enc.F eSc [(Scale.mk (1000 : Int) (0 : Int) (0 : Int) (20000 : Int)), (Scale.mk (1000 : Int) (0 : Int) (0 : Int) (10000 : Int))])))) (107 : Int))) (2 : Nat) (Enc.F eRg (M.flows (Enc.list eSc (2 : Nat) (Enc.F eSc (Enc.list eSc (2 : Nat) (Enc.F eSc [(Scale.mk (1000 : Int) (0 : Int) (0 : Int) (20000 : Int)), (Scale.mk (1000 : Int) (0 : Int) (0 : Int) (10000 : Int))])))) (107 : Int)))] j D.nilp)] (canon (Row110.g { g := (185 : Nat), i := (0 : Int), d := (107 : Int), lo := (18691 : Int), hi := (18692 : Int) }) (0 : Int) (107 : Int)),
  (0 : Int) ≤ (0 : Int),
  (0 : Int) < (2 : Int),
  Enc.Is eSc (2 : Nat) (Enc.F eSc (Enc.list eSc (2 : Nat) (Enc.F eSc [(Scale.mk (1000 : Int) (0 : Int) (0 : Int) (20000 : Int)), (Scale.mk (1000 : Int) (0 : Int) (0 : Int) (10000 : Int))]))),
  List.length (Enc.list eSc (2 : Nat) (Enc.F eSc (Enc.list eSc (2 : Nat) (Enc.F eSc [(Scale.mk (1000 : Int) (0 : Int) (0 : Int) (20000 : Int)), (Scale.mk (1000 : Int) (0 : Int) (0 : Int) (10000 : Int))])))) ≤ (100000 : Nat),
  Enc.Is eSc (2 : Nat) (Enc.F eSc (Enc.list eSc (2 : Nat) (Enc.F eSc [(Scale.mk (1000 : Int) (0 : Int) (0 : Int) (20000 : Int)), (Scale.mk (1000 : Int) (0 : Int) (0 : Int) (10000 : Int))]))),
  Enc.Is eRg (List.length (M.flows (Enc.list eSc (2 : Nat) (Enc.F eSc (Enc.list eSc (2 : Nat) (Enc.F eSc [(Scale.mk (1000 : Int) (0 : Int) (0 : Int) (20000 : Int)), (Scale.mk (1000 : Int) (0 : Int) (0 : Int) (10000 : Int))])))) (102 : Int))) (Enc.F eRg (M.flows (Enc.list eSc (2 : Nat) (Enc.F eSc (Enc.list eSc (2 : Nat) (Enc.F eSc [(Scale.mk (1000 : Int) (0 : Int) (0 : Int) (20000 : Int)), (Scale.mk (1000 : Int) (0 : Int) (0 : Int) (10000 : Int))])))) (102 : Int))),
  List.length (Enc.list eRg (List.length (M.flows (Enc.list eSc (2 : Nat) (Enc.F eSc (Enc.list eSc (2 : Nat) (Enc.F eSc [(Scale.mk (1000 : Int) (0 : Int) (0 : Int) (20000 : Int)), (Scale.mk (1000 : Int) (0 : Int) (0 : Int) (10000 : Int))])))) (102 : Int))) (Enc.F eRg (M.flows (Enc.list eSc (2 : Nat) (Enc.F eSc (Enc.list eSc (2 : Nat) (Enc.F eSc [(Scale.mk (1000 : Int) (0 : Int) (0 : Int) (20000 : Int)), (Scale.mk (1000 : Int) (0 : Int) (0 : Int) (10000 : Int))])))) (102 : Int)))) ≤ List.length (Enc.list eSc (2 : Nat) (Enc.F eSc (Enc.list eSc (2 : Nat) (Enc.F eSc [(Scale.mk (1000 : Int) (0 : Int) (0 : Int) (20000 : Int)), (Scale.mk (1000 : Int) (0 : Int) (0 : Int) (10000 : Int))])))),
  List.length (Enc.list eSc (2 : Nat) (Enc.F eSc (Enc.list eSc (2 : Nat) (Enc.F eSc [(Scale.mk (1000 : Int) (0 : Int) (0 : Int) (20000 : Int)), (Scale.mk (1000 : Int) (0 : Int) (0 : Int) (10000 : Int))])))) ≤ (100000 : Nat),
  (0 : Int) ≤ (0 : Int),
  (0 : Int) < (2 : Int),
  Same [Ag.agg [D.sl true (2 : Nat) (4 : Nat) (Enc.F eSc (Enc.list eSc (2 : Nat) (Enc.F eSc [(Scale.mk (1000 : Int) (0 : Int) (0 : Int) (20000 : Int)), (Scale.mk (1000 : Int) (0 : Int) (0 : Int) (10000 : Int))]))), D.int IntKind.i64 (0 : Int)], Ag.c (D.int IntKind.i64 (0 : Int)), Ag.c (D.fc (185 : Nat) (List.length [D.sl false (List.length (M.flows (Enc.list eSc (2 : Nat) (Enc.F eSc (Enc.list eSc (2 : Nat) (Enc.F eSc [(Scale.mk (1000 : Int) (0 : Int) (0 : Int) (20000 : Int)), (Scale.mk (1000 : Int) (0 : Int) (0 : Int) (10000 : Int))])))) (102 : Int))) (2 : Nat) (Enc.F eRg (M.flows (Enc.list eSc (2 : Nat) (Enc.F eSc (Enc.list eSc (2 : Nat) (Enc.F eSc [(Scale.mk (1000 : Int) (0 : Int) (0 : Int) (20000 : Int)), (Scale.mk (1000 : Int) (0 : Int) (0 : Int) (10000 : Int))])))) (102 : Int)))]) fun (j : Nat) => List.getD [D.sl false (List.length (M.flows (Enc.list eSc (2 : Nat) (Enc.F eSc (Enc.list eSc (2 : Nat) (Enc.F eSc [(Scale.mk (1000 : Int) (0 : Int) (0 : Int) (20000 : Int)), (Scale.mk (1000 : Int) (0 : Int) (0 : Int) (10000 : Int))])))) (102 : Int))) (2 : Nat) (Enc.F eRg (M.flows (Enc.list eSc (2 : Nat) (Enc.F eSc (Enc.list eSc (2 : Nat) (Enc.F eSc [(Scale.mk (1000 : Int) (0 : Int) (0 : Int) (20000 : Int)), (Scale.mk (1000 : Int) (0 : Int) (0 : Int) (10000 : Int))])))) (102 : Int)))] j D.nilp)] (canon (Row110.g { g := (185 : Nat), i := (0 : Int), d := (102 : Int), lo := (19607 : Int), hi := (19608 : Int) }) (0 : Int) (102 : Int)),
  (0 : Int) ≤ (0 : Int),
  (0 : Int) < (2 : Int),
  Enc.Is eSc (2 : Nat) (Enc.F eSc (Enc.list eSc (2 : Nat) (Enc.F eSc [(Scale.mk (1000 : Int) (0 : Int) (0 : Int) (20000 : Int)), (Scale.mk (1000 : Int) (0 : Int) (0 : Int) (10000 : Int))]))),
  List.length (Enc.list eSc (2 : Nat) (Enc.F eSc (Enc.list eSc (2 : Nat) (Enc.F eSc [(Scale.mk (1000 : Int) (0 : Int) (0 : Int) (20000 : Int)), (Scale.mk (1000 : Int) (0 : Int) (0 : Int) (10000 : Int))])))) ≤ (100000 : Nat),
  Enc.Is eSc (2 : Nat) (Enc.F eSc (Enc.list eSc (2 : Nat) (Enc.F eSc [(Scale.mk (1000 : Int) (0 : Int) (0 : Int) (20000 : Int)), (Scale.mk (1000 : Int) (0 : Int) (0 : Int) (10000 : Int))]))),
  Enc.Is eRg (List.length (M.flows (Enc.list eSc (2 : Nat) (Enc.F eSc (Enc.list eSc (2 : Nat) (Enc.F eSc [(Scale.mk (1000 : Int) (0 : Int) (0 : Int) (20000 : Int)), (Scale.mk (1000 : Int) (0 : Int) (0 : Int) (10000 : Int))])))) (99 : Int))) (Enc.F eRg (M.flows (Enc.list eSc (2 : Nat) (Enc.F eSc (Enc.list eSc (2 : Nat) (Enc.F eSc [(Scale.mk (1000 : Int) (0 : Int) (0 : Int) (20000 : Int)), (Scale.mk (1000 : Int) (0 : Int) (0 : Int) (10000 : Int))])))) (99 : Int))),
  List.length (Enc.list eRg (List.length (M.flows (Enc.list eSc (2 : Nat) (Enc.F eSc (Enc.list eSc (2 : Nat) (Enc.F eSc [(Scale.mk (1000 : Int) (0 : Int) (0 : Int) (20000 : Int)), (Scale.mk (1000 : Int) (0 : Int) (0 : Int) (10000 : Int))])))) (99 : Int))) (Enc.F eRg (M.flows (Enc.list eSc (2 : Nat) (Enc.F eSc (Enc.list eSc (2 : Nat) (Enc.F eSc [(Scale.mk (1000 : Int) (0 : Int) (0 : Int) (20000 : Int)), (Scale.mk (1000 : Int) (0 : Int) (0 : Int) (10000 : Int))])))) (99 : Int)))) ≤ List.length (Enc.list eSc (2 : Nat) (Enc.F eSc (Enc.list eSc (2 : Nat) (Enc.F eSc [(Scale.mk (1000 : Int) (0 : Int) (0 : Int) (20000 : Int)), (Scale.mk (1000 : Int) (0 : Int) (0 : Int) (10000 : Int))])))),
  List.length (Enc.list eSc (2 : Nat) (Enc.F eSc (Enc.list eSc (2 : Nat) (Enc.F eSc [(Scale.mk (1000 : Int) (0 : Int) (0 : Int) (20000 : Int)), (Scale.mk (1000 : Int) (0 : Int) (0 : Int) (10000 : Int))])))) ≤ (100000 : Nat),
  (0 : Int) ≤ (0 : Int),
  (0 : Int) < (2 : Int),
  Same [Ag.agg [D.sl true (2 : Nat) (4 : Nat) (Enc.F eSc (Enc.list eSc (2 : Nat) (Enc.F eSc [(Scale.mk (1000 : Int) (0 : Int) (0 : Int) (20000 : Int)), (Scale.mk (1000 : Int) (0 : Int) (0 : Int) (10000 : Int))]))), D.int IntKind.i64 (0 : Int)], Ag.c (D.int IntKind.i64 (0 : Int)), Ag.c (D.fc (185 : Nat) (List.length [D.sl false (List.length (M.flows (Enc.list eSc (2 : Nat) (Enc.F eSc (Enc.list eSc (2 : Nat) (Enc.F eSc [(Scale.mk (1000 : Int) (0 : Int) (0 : Int) (20000 : Int)), (Scale.mk (1000 : Int) (0 : Int) (0 : Int) (10000 : Int))])))) (99 : Int))) (2 : Nat) (Enc.F eRg (M.flows (Enc.list eSc (2 : Nat) (Enc.F eSc (Enc.list eSc (2 : Nat) (Enc.F eSc [(Scale.mk (1000 : Int) (0 : Int) (0 : Int) (20000 : Int)), (Scale.mk (1000 : Int) (0 : Int) (0 : Int) (10000 : Int))])))) (99 : Int)))]) fun (j : Nat) => List.getD [D.sl false (List.length (M.flows (Enc.list eSc (2 : Nat) (Enc.F eSc (Enc.list eSc (2 : Nat) (Enc.F eSc [(Scale.mk (1000 : Int) (0 : Int) (0 : Int) (20000 : Int)), (Scale.mk (1000 : Int) (0 : Int) (0 : Int) (10000 : Int))])))) (99 : Int))) (2 : Nat) (Enc.F eRg (M.flows (Enc.list eSc (2 : Nat) (Enc.F eSc (Enc.list eSc (2 : Nat) (Enc.F eSc [(Scale.mk (1000 : Int) (0 : Int) (0 : Int) (20000 : Int)), (Scale.mk (1000 : Int) (0 : Int) (0 : Int) (10000 : Int))])))) (99 : Int)))] j D.nilp)] (canon (Row110.g { g := (185 : Nat), i := (0 : Int), d := (99 : Int), lo := (20202 : Int), hi := (20203 : Int) }) (0 : Int) (99 : Int)),
  (0 : Int) ≤ (0 : Int),
  (0 : Int) < (2 : Int),
  (0 : Int) ≤ (1 : Int),
  (1 : Int) < (2 : Int),
  Same [Ag.agg [D.sl true (2 : Nat) (4 : Nat) (Enc.F eSc (Enc.list eSc (2 : Nat) (Enc.F eSc [(Scale.mk (1000 : Int) (0 : Int) (0 : Int) (20000 : Int)), (Scale.mk (1000 : Int) (0 : Int) (0 : Int) (10000 : Int))]))), D.int IntKind.i64 (0 : Int)], Ag.c (D.int IntKind.i64 (1 : Int)), Ag.c (D.fc (185 : Nat) (List.length [D.sl false (List.length (M.flows (Enc.list eSc (2 : Nat) (Enc.F eSc (Enc.list eSc (2 : Nat) (Enc.F eSc [(Scale.mk (1000 : Int) (0 : Int) (0 : Int) (20000 : Int)), (Scale.mk (1000 : Int) (0 : Int) (0 : Int) (10000 : Int))])))) (99 : Int))) (2 : Nat) (Enc.F eRg (M.flows (Enc.list eSc (2 : Nat) (Enc.F eSc (Enc.list eSc (2 : Nat) (Enc.F eSc [(Scale.mk (1000 : Int) (0 : Int) (0 : Int) (20000 : Int)), (Scale.mk (1000 : Int) (0 : Int) (0 : Int) (10000 : Int))])))) (99 : Int)))]) fun (j : Nat) => List.getD [D.sl false (List.length (M.flows (Enc.list eSc (2 : Nat) (Enc.F eSc (Enc.list eSc (2 : Nat) (Enc.F eSc [(Scale.mk (1000 : Int) (0 : Int) (0 : Int) (20000 : Int)), (Scale.mk (1000 : Int) (0 : Int) (0 : Int) (10000 : Int))])))) (99 : Int))) (2 : Nat) (Enc.F eRg (M.flows (Enc.list eSc (2 : Nat) (Enc.F eSc (Enc.list eSc (2 : Nat) (Enc.F eSc [(Scale.mk (1000 : Int) (0 : Int) (0 : Int) (20000 : Int)), (Scale.mk (1000 : Int) (0 : Int) (0 : Int) (10000 : Int))])))) (99 : Int)))] j D.nilp)] (canon (Row110.g { g := (185 : Nat), i := (1 : Int), d := (99 : Int), lo := (10101 : Int), hi := (10102 : Int) }) (1 : Int) (99 : Int)),
  (0 : Int) ≤ (1 : Int),
  (1 : Int) < (2 : Int),
  Enc.Is eSc (2 : Nat) (Enc.F eSc (Enc.list eSc (2 : Nat) (Enc.F eSc [(Scale.mk (1000 : Int) (0 : Int) (0 : Int) (20000 : Int)), (Scale.mk (1000 : Int) (0 : Int) (0 : Int) (10000 : Int))]))),
  List.length (Enc.list eSc (2 : Nat) (Enc.F eSc (Enc.list eSc (2 : Nat) (Enc.F eSc [(Scale.mk (1000 : Int) (0 : Int) (0 : Int) (20000 : Int)), (Scale.mk (1000 : Int) (0 : Int) (0 : Int) (10000 : Int))])))) ≤ (100000 : Nat),
  Enc.Is eSc (2 : Nat) (Enc.F eSc (Enc.list eSc (2 : Nat) (Enc.F eSc [(Scale.mk (1000 : Int) (0 : Int) (0 : Int) (20000 : Int)), (Scale.mk (1000 : Int) (0 : Int) (0 : Int) (10000 : Int))]))),
  Enc.Is eRg (List.length (M.flows (Enc.list eSc (2 : Nat) (Enc.F eSc (Enc.list eSc (2 : Nat) (Enc.F eSc [(Scale.mk (1000 : Int) (0 : Int) (0 : Int) (20000 : Int)), (Scale.mk (1000 : Int) (0 : Int) (0 : Int) (10000 : Int))])))) (100 : Int))) (Enc.F eRg (M.flows (Enc.list eSc (2 : Nat) (Enc.F eSc (Enc.list eSc (2 : Nat) (Enc.F eSc [(Scale.mk (1000 : Int) (0 : Int) (0 : Int) (20000 : Int)), (Scale.mk (1000 : Int) (0 : Int) (0 : Int) (10000 : Int))])))) (100 : Int))),
  List.length (Enc.list eRg (List.length (M.flows (Enc.list eSc (2 : Nat) (Enc.F eSc (Enc.list eSc (2 : Nat) (Enc.F eSc [(Scale.mk (1000 : Int) (0 : Int) (0 : Int) (20000 : Int)), (Scale.mk (1000 : Int) (0 : Int) (0 : Int) (10000 : Int))])))) (100 : Int))) (Enc.F eRg (M.flows (Enc.list eSc (2 : Nat) (Enc.F eSc (Enc.list eSc (2 : Nat) (Enc.F eSc [(Scale.mk (1000 : Int) (0 : Int) (0 : Int) (20000 : Int)), (Scale.mk (1000 : Int) (0 : Int) (0 : Int) (10000 : Int))])))) (100 : Int)))) ≤ List.length (Enc.list eSc (2 : Nat) (Enc.F eSc (Enc.list eSc (2 : Nat) (Enc.F eSc [(Scale.mk (1000 : Int) (0 : Int) (0 : Int) (20000 : Int)), (Scale.mk (1000 : Int) (0 : Int) (0 : Int) (10000 : Int))])))),
  List.length (Enc.list eSc (2 : Nat) (Enc.F eSc (Enc.list eSc (2 : Nat) (Enc.F eSc [(Scale.mk (1000 : Int) (0 : Int) (0 : Int) (20000 : Int)), (Scale.mk (1000 : Int) (0 : Int) (0 : Int) (10000 : Int))])))) ≤ (100000 : Nat),
  (0 : Int) ≤ (0 : Int),
  (0 : Int) < (2 : Int),
  Same [Ag.agg [D.sl true (2 : Nat) (4 : Nat) (Enc.F eSc (Enc.list eSc (2 : Nat) (Enc.F eSc [(Scale.mk (1000 : Int) (0 : Int) (0 : Int) (20000 : Int)), (Scale.mk (1000 : Int) (0 : Int) (0 : Int) (10000 : Int))]))), D.int IntKind.i64 (0 : Int)], Ag.c (D.int IntKind.i64 (0 : Int)), Ag.c (D.fc (185 : Nat) (List.length [D.sl false (List.length (M.flows (Enc.list eSc (2 : Nat) (Enc.F eSc (Enc.list eSc (2 : Nat) (Enc.F eSc [(Scale.mk (1000 : Int) (0 : Int) (0 : Int) (20000 : Int)), (Scale.mk (1000 : Int) (0 : Int) (0 : Int) (10000 : Int))])))) (100 : Int))) (2 : Nat) (Enc.F eRg (M.flows (Enc.list eSc (2 : Nat) (Enc.F eSc (Enc.list eSc (2 : Nat) (Enc.F eSc [(Scale.mk (1000 : Int) (0 : Int) (0 : Int) (20000 : Int)), (Scale.mk (1000 : Int) (0 : Int) (0 : Int) (10000 : Int))])))) (100 : Int)))]) fun (j : Nat) => List.getD [D.sl false (List.length (M.flows (Enc.list eSc (2 : Nat) (Enc.F eSc (Enc.list eSc (2 : Nat) (Enc.F eSc [(Scale.mk (1000 : Int) (0 : Int) (0 : Int) (20000 : Int)), (Scale.mk (1000 : Int) (0 : Int) (0 : Int) (10000 : Int))])))) (100 : Int))) (2 : Nat) (Enc.F eRg (M.flows (Enc.list eSc (2 : Nat) (Enc.F eSc (Enc.list eSc (2 : Nat) (Enc.F eSc [(Scale.mk (1000 : Int) (0 : Int) (0 : Int) (20000 : Int)), (Scale.mk (1000 : Int) (0 : Int) (0 : Int) (10000 : Int))])))) (100 : Int)))] j D.nilp)] (canon (Row110.g { g := (185 : Nat), i := (0 : Int), d := (100 : Int), lo := (20000 : Int), hi := (20000 : Int) }) (0 : Int) (100 : Int)),
  (0 : Int) ≤ (0 : Int),
  (0 : Int) < (2 : Int),
  (0 : Int) ≤ (1 : Int),
  (1 : Int) < (2 : Int),
  Same [Ag.agg [D.sl true (2 : Nat) (4 : Nat) (Enc.F eSc (Enc.list eSc (2 : Nat) (Enc.F eSc [(Scale.mk (1000 : Int) (0 : Int) (0 : Int) (20000 : Int)), (Scale.mk (1000 : Int) (0 : Int) (0 : Int) (10000 : Int))]))), D.int IntKind.i64 (0 : Int)], Ag.c (D.int IntKind.i64 (1 : Int)), Ag.c (D.fc (185 : Nat) (List.length [D.sl false (List.length (M.flows (Enc.list eSc (2 : Nat) (Enc.F eSc (Enc.list eSc (2 : Nat) (Enc.F eSc [(Scale.mk (1000 : Int) (0 : Int) (0 : Int) (20000 : Int)), (Scale.mk (1000 : Int) (0 : Int) (0 : Int) (10000 : Int))])))) (100 : Int))) (2 : Nat) (Enc.F eRg (M.flows (Enc.list eSc (2 : Nat) (Enc.F eSc (Enc.list eSc (2 : Nat) (Enc.F eSc [(Scale.mk (1000 : Int) (0 : Int) (0 : Int) (20000 : Int)), (Scale.mk (1000 : Int) (0 : Int) (0 : Int) (10000 : Int))])))) (100 : Int)))]) fun (j : Nat) => List.getD [D.sl false (List.length (M.flows (Enc.list eSc (2 : Nat) (Enc.F eSc (Enc.list eSc (2 : Nat) (Enc.F eSc [(Scale.mk (1000 : Int) (0 : Int) (0 : Int) (20000 : Int)), (Scale.mk (1000 : Int) (0 : Int) (0 : Int) (10000 : Int))])))) (100 : Int))) (2 : Nat) (Enc.F eRg (M.flows (Enc.list eSc (2 : Nat) (Enc.F eSc (Enc.list eSc (2 : Nat) (Enc.F eSc [(Scale.mk (1000 : Int) (0 : Int) (0 : Int) (20000 : Int)), (Scale.mk (1000 : Int) (0 : Int) (0 : Int) (10000 : Int))])))) (100 : Int)))] j D.nilp)] (canon (Row110.g { g := (185 : Nat), i := (1 : Int), d := (100 : Int), lo := (10000 : Int), hi := (10000 : Int) }) (1 : Int) (100 : Int)),
  (0 : Int) ≤ (1 : Int),
  (1 : Int) < (2 : Int),
  Enc.Is eSc (2 : Nat) (Enc.F eSc (Enc.list eSc (2 : Nat) (Enc.F eSc [(Scale.mk (1000 : Int) (0 : Int) (0 : Int) (20000 : Int)), (Scale.mk (1000 : Int) (0 : Int) (0 : Int) (10000 : Int))]))),
  List.length (Enc.list eSc (2 : Nat) (Enc.F eSc (Enc.list eSc (2 : Nat) (Enc.F eSc [(Scale.mk (1000 : Int) (0 : Int) (0 : Int) (20000 : Int)), (Scale.mk (1000 : Int) (0 : Int) (0 : Int) (10000 : Int))])))) ≤ (100000 : Nat),
  Enc.Is eSc (2 : Nat) (Enc.F eSc (Enc.list eSc (2 : Nat) (Enc.F eSc [(Scale.mk (1000 : Int) (0 : Int) (0 : Int) (20000 : Int)), (Scale.mk (1000 : Int) (0 : Int) (0 : Int) (10000 : Int))]))),
  Enc.Is eRg (List.length (M.flows (Enc.list eSc (2 : Nat) (Enc.F eSc (Enc.list eSc (2 : Nat) (Enc.F eSc [(Scale.mk (1000 : Int) (0 : Int) (0 : Int) (20000 : Int)), (Scale.mk (1000 : Int) (0 : Int) (0 : Int) (10000 : Int))])))) (101 : Int))) (Enc.F eRg (M.flows (Enc.list eSc (2 : Nat) (Enc.F eSc (Enc.list eSc (2 : Nat) (Enc.F eSc [(Scale.mk (1000 : Int) (0 : Int) (0 : Int) (20000 : Int)), (Scale.mk (1000 : Int) (0 : Int) (0 : Int) (10000 : Int))])))) (101 : Int))),
  List.length (Enc.list eRg (List.length (M.flows (Enc.list eSc (2 : Nat) (Enc.F eSc (Enc.list eSc (2 : Nat) (Enc.F eSc [(Scale.mk (1000 : Int) (0 : Int) (0 : Int) (20000 : Int)), (Scale.mk (1000 : Int) (0 : Int) (0 : Int) (10000 : Int))])))) (101 : Int))) (Enc.F eRg (M.flows (Enc.list eSc (2 : Nat) (Enc.F eSc (Enc.list eSc (2 : Nat) (Enc.F eSc [(Scale.mk (1000 : Int) (0 : Int) (0 : Int) (20000 : Int)), (Scale.mk (1000 : Int) (0 : Int) (0 : Int) (10000 : Int))])))) (101 : Int)))) ≤ List.length (Enc.list eSc (2 : Nat) (Enc.F eSc (Enc.list eSc (2 : Nat) (Enc.F eSc [(Scale.mk (1000 : Int) (0 : Int) (0 : Int) (20000 : Int)), (Scale.mk (1000 : Int) (0 : Int) (0 : Int) (10000 : Int))])))),
  List.length (Enc.list eSc (2 : Nat) (Enc.F eSc (Enc.list eSc (2 : Nat) (Enc.F eSc [(Scale.mk (1000 : Int) (0 : Int) (0 : Int) (20000 : Int)), (Scale.mk (1000 : Int) (0 : Int) (0 : Int) (10000 : Int))])))) ≤ (100000 : Nat),
  (0 : Int) ≤ (0 : Int),
  (0 : Int) < (2 : Int),
  Same [Ag.agg [D.sl true (2 : Nat) (4 : Nat) (Enc.F eSc (Enc.list eSc (2 : Nat) (Enc.F eSc [(Scale.mk (1000 : Int) (0 : Int) (0 : Int) (20000 : Int)), (Scale.mk (1000 : Int) (0 : Int) (0 : Int) (10000 : Int))]))), D.int IntKind.i64 (0 : Int)], Ag.c (D.int IntKind.i64 (0 : Int)), Ag.c (D.fc (185 : Nat) (List.length [D.sl false (List.length (M.flows (Enc.list eSc (2 : Nat) (Enc.F eSc (Enc.list eSc (2 : Nat) (Enc.F eSc [(Scale.mk (1000 : Int) (0 : Int) (0 : Int) (20000 : Int)), (Scale.mk (1000 : Int) (0 : Int) (0 : Int) (10000 : Int))])))) (101 : Int))) (2 : Nat) (Enc.F eRg (M.flows (Enc.list eSc (2 : Nat) (Enc.F eSc (Enc.list eSc (2 : Nat) (Enc.F eSc [(Scale.mk (1000 : Int) (0 : Int) (0 : Int) (20000 : Int)), (Scale.mk (1000 : Int) (0 : Int) (0 : Int) (10000 : Int))])))) (101 : Int)))]) fun (j : Nat) => List.getD [D.sl false (List.length (M.flows (Enc.list eSc (2 : Nat) (Enc.F eSc (Enc.list eSc (2 : Nat) (Enc.F eSc [(Scale.mk (1000 : Int) (0 : Int) (0 : Int) (20000 : Int)), (Scale.mk (1000 : Int) (0 : Int) (0 : Int) (10000 : Int))])))) (101 : Int))) (2 : Nat) (Enc.F eRg (M.flows (Enc.list eSc (2 : Nat) (Enc.F eSc (Enc.list eSc (2 : Nat) (Enc.F eSc [(Scale.mk (1000 : Int) (0 : Int) (0 : Int) (20000 : Int)), (Scale.mk (1000 : Int) (0 : Int) (0 : Int) (10000 : Int))])))) (101 : Int)))] j D.nilp)] (canon (Row110.g { g := (185 : Nat), i := (0 : Int), d := (101 : Int), lo := (19801 : Int), hi := (19802 : Int) }) (0 : Int) (101 : Int)),
  (0 : Int) ≤ (0 : Int),
  (0 : Int) < (2 : Int),
  Enc.Is eSc (2 : Nat) (Enc.F eSc (Enc.list eSc (2 : Nat) (Enc.F eSc [(Scale.mk (1000 : Int) (0 : Int) (0 : Int) (20000 : Int)), (Scale.mk (1000 : Int) (0 : Int) (0 : Int) (10000 : Int))]))),
  List.length (Enc.list eSc (2 : Nat) (Enc.F eSc (Enc.list eSc (2 : Nat) (Enc.F eSc [(Scale.mk (1000 : Int) (0 : Int) (0 : Int) (20000 : Int)), (Scale.mk (1000 : Int) (0 : Int) (0 : Int) (10000 : Int))])))) ≤ (100000 : Nat),
  Enc.Is eSc (2 : Nat) (Enc.F eSc (Enc.list eSc (2 : Nat) (Enc.F eSc [(Scale.mk (1000 : Int) (0 : Int) (0 : Int) (20000 : Int)), (Scale.mk (1000 : Int) (0 : Int) (0 : Int) (10000 : Int))]))),
  Enc.Is eRg (List.length (M.flows (Enc.list eSc (2 : Nat) (Enc.F eSc (Enc.list eSc (2 : Nat) (Enc.F eSc [(Scale.mk (1000 : Int) (0 : Int) (0 : Int) (20000 : Int)), (Scale.mk (1000 : Int) (0 : Int) (0 : Int) (10000 : Int))])))) (101 : Int))) (Enc.F eRg (M.flows (Enc.list eSc (2 : Nat) (Enc.F eSc (Enc.list eSc (2 : Nat) (Enc.F eSc [(Scale.mk (1000 : Int) (0 : Int) (0 : Int) (20000 : Int)), (Scale.mk (1000 : Int) (0 : Int) (0 : Int) (10000 : Int))])))) (101 : Int))),
  List.length (Enc.list eRg (List.length (M.flows (Enc.list eSc (2 : Nat) (Enc.F eSc (Enc.list eSc (2 : Nat) (Enc.F eSc [(Scale.mk (1000 : Int) (0 : Int) (0 : Int) (20000 : Int)), (Scale.mk (1000 : Int) (0 : Int) (0 : Int) (10000 : Int))])))) (101 : Int))) (Enc.F eRg (M.flows (Enc.list eSc (2 : Nat) (Enc.F eSc (Enc.list eSc (2 : Nat) (Enc.F eSc [(Scale.mk (1000 : Int) (0 : Int) (0 : Int) (20000 : Int)), (Scale.mk (1000 : Int) (0 : Int) (0 : Int) (10000 : Int))])))) (101 : Int)))) ≤ List.length (Enc.list eSc (2 : Nat) (Enc.F eSc (Enc.list eSc (2 : Nat) (Enc.F eSc [(Scale.mk (1000 : Int) (0 : Int) (0 : Int) (20000 : Int)), (Scale.mk (1000 : Int) (0 : Int) (0 : Int) (10000 : Int))])))),
  List.length (Enc.list eSc (2 : Nat) (Enc.F eSc (Enc.list eSc (2 : Nat) (Enc.F eSc [(Scale.mk (1000 : Int) (0 : Int) (0 : Int) (20000 : Int)), (Scale.mk (1000 : Int) (0 : Int) (0 : Int) (10000 : Int))])))) ≤ (100000 : Nat),
  (0 : Int) ≤ (0 : Int),
  (0 : Int) < (2 : Int),
  Same [Ag.agg [D.sl true (2 : Nat) (4 : Nat) (Enc.F eSc (Enc.list eSc (2 : Nat) (Enc.F eSc [(Scale.mk (1000 : Int) (0 : Int) (0 : Int) (20000 : Int)), (Scale.mk (1000 : Int) (0 : Int) (0 : Int) (10000 : Int))]))), D.int IntKind.i64 (0 : Int)], Ag.c (D.int IntKind.i64 (0 : Int)), Ag.c (D.fc (185 : Nat) (List.length [D.sl false (List.length (M.flows (Enc.list eSc (2 : Nat) (Enc.F eSc (Enc.list eSc (2 : Nat) (Enc.F eSc [(Scale.mk (1000 : Int) (0 : Int) (0 : Int) (20000 : Int)), (Scale.mk (1000 : Int) (0 : Int) (0 : Int) (10000 : Int))])))) (101 : Int))) (2 : Nat) (Enc.F eRg (M.flows (Enc.list eSc (2 : Nat) (Enc.F eSc (Enc.list eSc (2 : Nat) (Enc.F eSc [(Scale.mk (1000 : Int) (0 : Int) (0 : Int) (20000 : Int)), (Scale.mk (1000 : Int) (0 : Int) (0 : Int) (10000 : Int))])))) (101 : Int)))]) fun (j : Nat) => List.getD [D.sl false (List.length (M.flows (Enc.list eSc (2 : Nat) (Enc.F eSc (Enc.list eSc (2 : Nat) (Enc.F eSc [(Scale.mk (1000 : Int) (0 : Int) (0 : Int) (20000 : Int)), (Scale.mk (1000 : Int) (0 : Int) (0 : Int) (10000 : Int))])))) (101 : Int))) (2 : Nat) (Enc.F eRg (M.flows (Enc.list eSc (2 : Nat) (Enc.F eSc (Enc.list eSc (2 : Nat) (Enc.F eSc [(Scale.mk (1000 : Int) (0 : Int) (0 : Int) (20000 : Int)), (Scale.mk (1000 : Int) (0 : Int) (0 : Int) (10000 : Int))])))) (101 : Int)))] j D.nilp)] (canon (Row110.g { g := (185 : Nat), i := (0 : Int), d := (101 : Int), lo := (19801 : Int), hi := (19802 : Int) }) (0 : Int) (101 : Int)),
  (0 : Int) ≤ (0 : Int),
  (0 : Int) < (2 : Int)]
theorem t28c  : runFnX Try.prog G0 (lookS [v95, v108, v109, v110c]) (fun _ => [(999999, [], none)]) [96, 158] 1 200 6 28 Try.f28 [.agg [.sl true 2 4 (eSc.F [⟨1000, 0, 0, 20000⟩, ⟨1000, 0, 0, 10000⟩]), dI 0]] =
    T.needs nd_t28c (T.ret [Ar.c (D.int IntKind.i64 (100 : Int)), Ar.c (D.int IntKind.i64 (0 : Int)), Ar.c (D.int IntKind.i64 (0 : Int))]) := by kernel_rfl
theorem all_t28c : All nd_t28c := by
  unfold nd_t28c
  repeat (refine ⟨(by first | exact of_decide_eq_true rfl | exact fun i j _ _ => D.eqv_refl _ | exact Enc.is_F _ _ _ | exact fun i j hi _ => absurd hi (Nat.not_lt_zero i) | exact ⟨⟨ag_of_eq (by kernel_rfl), ag_of_eq (by kernel_rfl), ⟨rfl, rfl, fun j hj => by obtain rfl : j = 0 := Nat.lt_one_iff.1 hj; exact D.eqv_of_eq (by kernel_rfl)⟩, trivial⟩⟩), ?_⟩)
  trivial
theorem w_t28c : (T.needs nd_t28c (T.ret [Ar.c (D.int IntKind.i64 (100 : Int)), Ar.c (D.int IntKind.i64 (0 : Int)), Ar.c (D.int IntKind.i64 (0 : Int))])).wp (fun rs => rsEqv rs [rI 100, rI 0, rI 0]) := by
  refine T.needs_wp all_t28c ?_
  exact rsEqv_refl _
def nd_t35c : List Prop := [
  Enc.Is eSc (2 : Nat) (Enc.F eSc [(Scale.mk (1000 : Int) (0 : Int) (0 : Int) (20000 : Int)), (Scale.mk (1000 : Int) (0 : Int) (0 : Int) (10000 : Int))]),
  (2 : Nat) ≤ (100000 : Nat),
  Enc.Is eSc (2 : Nat) (Enc.F eSc (Enc.list eSc (2 : Nat) (Enc.F eSc [(Scale.mk (1000 : Int) (0 : Int) (0 : Int) (20000 : Int)), (Scale.mk (1000 : Int) (0 : Int) (0 : Int) (10000 : Int))]))),
  List.length (Enc.list eSc (2 : Nat) (Enc.F eSc (Enc.list eSc (2 : Nat) (Enc.F eSc [(Scale.mk (1000 : Int) (0 : Int) (0 : Int) (20000 : Int)), (Scale.mk (1000 : Int) (0 : Int) (0 : Int) (10000 : Int))])))) ≤ (100000 : Nat),
  (0 : Int) ≤ (0 : Int),
  (0 : Int) < (2 : Int),
  (0 : Int) ≤ (1 : Int),
  (1 : Int) < (2 : Int),
  Enc.Is eSc (2 : Nat) (Enc.F eSc (Enc.list eSc (2 : Nat) (Enc.F eSc [(Scale.mk (1000 : Int) (0 : Int) (0 : Int) (20000 : Int)), (Scale.mk (1000 : Int) (0 : Int) (0 : Int) (10000 : Int))]))),
  Enc.Is eRg (List.length (M.flows (Enc.list eSc (2 : Nat) (Enc.F eSc (Enc.list eSc (2 : Nat) (Enc.F eSc [(Scale.mk (1000 : Int) (0 : Int) (0 : Int) (20000 : Int)), (Scale.mk (1000 : Int) (0 : Int) (0 : Int) (10000 : Int))])))) (100 : Int))) (Enc.F eRg (M.flows (Enc.list eSc (2 : Nat) (Enc.F eSc (Enc.list eSc (2 : Nat) (Enc.F eSc [(Scale.mk (1000 : Int) (0 : Int) (0 : Int) (20000 : Int)), (Scale.mk (1000 : Int) (0 : Int) (0 : Int) (10000 : Int))])))) (100 : Int))),
  List.length (Enc.list eRg (List.length (M.flows (Enc.list eSc (2 : Nat) (Enc.F eSc (Enc.list eSc (2 : Nat) (Enc.F eSc [(Scale.mk (1000 : Int) (0 : Int) (0 : Int) (20000 : Int)), (Scale.mk (1000 : Int) (0 : Int) (0 : Int) (10000 : Int))])))) (100 : Int))) (Enc.F eRg (M.flows (Enc.list eSc (2 : Nat) (Enc.F eSc (Enc.list eSc (2 : Nat) (Enc.F eSc [(Scale.mk (1000 : Int) (0 : Int) (0 : Int) (20000 : Int)), (Scale.mk (1000 : Int) (0 : Int) (0 : Int) (10000 : Int))])))) (100 : Int)))) ≤ List.length (Enc.list eSc (2 : Nat) (Enc.F eSc (Enc.list eSc (2 : Nat) (Enc.F eSc [(Scale.mk (1000 : Int) (0 : Int) (0 : Int) (20000 : Int)), (Scale.mk (1000 : Int) (0 : Int) (0 : Int) (10000 : Int))])))),
  List.length (Enc.list eSc (2 : Nat) (Enc.F eSc (Enc.list eSc (2 : Nat) (Enc.F eSc [(Scale.mk (1000 : Int) (0 : Int) (0 : Int) (20000 : Int)), (Scale.mk (1000 : Int) (0 : Int) (0 : Int) (10000 : Int))])))) ≤ (100000 : Nat),
  Same [Ag.agg [D.sl true (2 : Nat) (4 : Nat) (Enc.F eSc (Enc.list eSc (2 : Nat) (Enc.F eSc [(Scale.mk (1000 : Int) (0 : Int) (0 : Int) (20000 : Int)), (Scale.mk (1000 : Int) (0 : Int) (0 : Int) (10000 : Int))]))), D.int IntKind.i64 (0 : Int)], Ag.c (D.int IntKind.i64 (0 : Int)), Ag.c (D.fc (111 : Nat) (List.length [D.sl false (List.length (M.flows (Enc.list eSc (2 : Nat) (Enc.F eSc (Enc.list eSc (2 : Nat) (Enc.F eSc [(Scale.mk (1000 : Int) (0 : Int) (0 : Int) (20000 : Int)), (Scale.mk (1000 : Int) (0 : Int) (0 : Int) (10000 : Int))])))) (100 : Int))) (2 : Nat) (Enc.F eRg (M.flows (Enc.list eSc (2 : Nat) (Enc.F eSc (Enc.list eSc (2 : Nat) (Enc.F eSc [(Scale.mk (1000 : Int) (0 : Int) (0 : Int) (20000 : Int)), (Scale.mk (1000 : Int) (0 : Int) (0 : Int) (10000 : Int))])))) (100 : Int)))]) fun (j : Nat) => List.getD [D.sl false (List.length (M.flows (Enc.list eSc (2 : Nat) (Enc.F eSc (Enc.list eSc (2 : Nat) (Enc.F eSc [(Scale.mk (1000 : Int) (0 : Int) (0 : Int) (20000 : Int)), (Scale.mk (1000 : Int) (0 : Int) (0 : Int) (10000 : Int))])))) (100 : Int))) (2 : Nat) (Enc.F eRg (M.flows (Enc.list eSc (2 : Nat) (Enc.F eSc (Enc.list eSc (2 : Nat) (Enc.F eSc [(Scale.mk (1000 : Int) (0 : Int) (0 : Int) (20000 : Int)), (Scale.mk (1000 : Int) (0 : Int) (0 : Int) (10000 : Int))])))) (100 : Int)))] j D.nilp)] (canon (Row110.g { g := (111 : Nat), i := (0 : Int), d := (100 : Int), lo := (20000 : Int), hi := (20000 : Int) }) (0 : Int) (100 : Int)),
  Same [Ag.agg [D.sl true (2 : Nat) (4 : Nat) (Enc.F eSc (Enc.list eSc (2 : Nat) (Enc.F eSc [(Scale.mk (1000 : Int) (0 : Int) (0 : Int) (20000 : Int)), (Scale.mk (1000 : Int) (0 : Int) (0 : Int) (10000 : Int))]))), D.int IntKind.i64 (0 : Int)], Ag.c (D.int IntKind.i64 (0 : Int)), Ag.c (D.fc (112 : Nat) (List.length [D.sl false (List.length (M.flows (Enc.list eSc (2 : Nat) (Enc.F eSc (Enc.list eSc (2 : Nat) (Enc.F eSc [(Scale.mk (1000 : Int) (0 : Int) (0 : Int) (20000 : Int)), (Scale.mk (1000 : Int) (0 : Int) (0 : Int) (10000 : Int))])))) (100 : Int))) (2 : Nat) (Enc.F eRg (M.flows (Enc.list eSc (2 : Nat) (Enc.F eSc (Enc.list eSc (2 : Nat) (Enc.F eSc [(Scale.mk (1000 : Int) (0 : Int) (0 : Int) (20000 : Int)), (Scale.mk (1000 : Int) (0 : Int) (0 : Int) (10000 : Int))])))) (100 : Int)))]) fun (j : Nat) => List.getD [D.sl false (List.length (M.flows (Enc.list eSc (2 : Nat) (Enc.F eSc (Enc.list eSc (2 : Nat) (Enc.F eSc [(Scale.mk (1000 : Int) (0 : Int) (0 : Int) (20000 : Int)), (Scale.mk (1000 : Int) (0 : Int) (0 : Int) (10000 : Int))])))) (100 : Int))) (2 : Nat) (Enc.F eRg (M.flows (Enc.list eSc (2 : Nat) (Enc.F eSc (Enc.list eSc (2 : Nat) (Enc.F eSc [(Scale.mk (1000 : Int) (0 : Int) (0 : Int) (20000 : Int)), (Scale.mk (1000 : Int) (0 : Int) (0 : Int) (10000 : Int))])))) (100 : Int)))] j D.nilp)] (canon (Row110.g { g := (112 : Nat), i := (0 : Int), d := (100 : Int), lo := (20000 : Int), hi := (20000 : Int) }) (0 : Int) (100 : Int)),
  (1 : Nat) ≤ (1000000 : Nat),
  Same [Ag.agg [D.sl true (2 : Nat) (4 : Nat) (Enc.F eSc (Enc.list eSc (2 : Nat) (Enc.F eSc [(Scale.mk (1000 : Int) (0 : Int) (0 : Int) (20000 : Int)), (Scale.mk (1000 : Int) (0 : Int) (0 : Int) (10000 : Int))]))), D.int IntKind.i64 (0 : Int)], Ag.c (D.int IntKind.i64 (1 : Int)), Ag.c (D.fc (111 : Nat) (List.length [D.sl false (List.length (M.flows (Enc.list eSc (2 : Nat) (Enc.F eSc (Enc.list eSc (2 : Nat) (Enc.F eSc [(Scale.mk (1000 : Int) (0 : Int) (0 : Int) (20000 : Int)), (Scale.mk (1000 : Int) (0 : Int) (0 : Int) (10000 : Int))])))) (100 : Int))) (2 : Nat) (Enc.F eRg (M.flows (Enc.list eSc (2 : Nat) (Enc.F eSc (Enc.list eSc (2 : Nat) (Enc.F eSc [(Scale.mk (1000 : Int) (0 : Int) (0 : Int) (20000 : Int)), (Scale.mk (1000 : Int) (0 : Int) (0 : Int) (10000 : Int))])))) (100 : Int)))]) fun (j : Nat) => List.getD [D.sl false (List.length (M.flows (Enc.list eSc (2 : Nat) (Enc.F eSc (Enc.list eSc (2 : Nat) (Enc.F eSc [(Scale.mk (1000 : Int) (0 : Int) (0 : Int) (20000 : Int)), (Scale.mk (1000 : Int) (0 : Int) (0 : Int) (10000 : Int))])))) (100 : Int))) (2 : Nat) (Enc.F eRg (M.flows (Enc.list eSc (2 : Nat) (Enc.F eSc (Enc.list eSc (2 : Nat) (Enc.F eSc [(Scale.mk (1000 : Int) (0 : Int) (0 : Int) (20000 : Int)), (Scale.mk (1000 : Int) (0 : Int) (0 : Int) (10000 : Int))])))) (100 : Int)))] j D.nilp)] (canon (Row110.g { g := (111 : Nat), i := (1 : Int), d := (100 : Int), lo := (10000 : Int), hi := (10000 : Int) }) (1 : Int) (100 : Int)),
  Same [Ag.agg [D.sl true (2 : Nat) (4 : Nat) (Enc.F eSc (Enc.list eSc (2 : Nat) (Enc.F eSc [(Scale.mk (1000 : Int) (0 : Int) (0 : Int) (20000 : Int)), (Scale.mk (1000 : Int) (0 : Int) (0 : Int) (10000 : Int))]))), D.int IntKind.i64 (0 : Int)], Ag.c (D.int IntKind.i64 (1 : Int)), Ag.c (D.fc (112 : Nat) (List.length [D.sl false (List.length (M.flows (Enc.list eSc (2 : Nat) (Enc.F eSc (Enc.list eSc (2 : Nat) (Enc.F eSc [(Scale.mk (1000 : Int) (0 : Int) (0 : Int) (20000 : Int)), (Scale.mk (1000 : Int) (0 : Int) (0 : Int) (10000 : Int))])))) (100 : Int))) (2 : Nat) (Enc.F eRg (M.flows (Enc.list eSc (2 : Nat) (Enc.F eSc (Enc.list eSc (2 : Nat) (Enc.F eSc [(Scale.mk (1000 : Int) (0 : Int) (0 : Int) (20000 : Int)), (Scale.mk (1000 : Int) (0 : Int) (0 : Int) (10000 : Int))])))) (100 : Int)))]) fun (j : Nat) => List.getD [D.sl false (List.length (M.flows (Enc.list eSc (2 : Nat) (Enc.F eSc (Enc.list eSc (2 : Nat) (Enc.F eSc [(Scale.mk (1000 : Int) (0 : Int) (0 : Int) (20000 : Int)), (Scale.mk (1000 : Int) (0 : Int) (0 : Int) (10000 : Int))])))) (100 : Int))) (2 : Nat) (Enc.F eRg (M.flows (Enc.list eSc (2 : Nat) (Enc.F eSc (Enc.list eSc (2 : Nat) (Enc.F eSc [(Scale.mk (1000 : Int) (0 : Int) (0 : Int) (20000 : Int)), (Scale.mk (1000 : Int) (0 : Int) (0 : Int) (10000 : Int))])))) (100 : Int)))] j D.nilp)] (canon (Row110.g { g := (112 : Nat), i := (1 : Int), d := (100 : Int), lo := (10000 : Int), hi := (10000 : Int) }) (1 : Int) (100 : Int)),
  (2 : Nat) ≤ (1000000 : Nat),
  (1 : Nat) ≤ (1 : Nat),
  (2 : Nat) ≤ (2 : Nat)]
theorem t35c  : runFnX Try.prog G0 (lookS [v103, v104, v95, v107, v108, v109, v110c]) (fun _ => [(999999, [], none)]) [] 1 60 3 35 Try.f35 [.agg [.sl true 2 4 (eSc.F [⟨1000, 0, 0, 20000⟩, ⟨1000, 0, 0, 10000⟩]), dI 0], .c (dI 100)] =
    T.needs nd_t35c (T.ret [Ar.c (D.sl true (2 : Nat) (2 : Nat) (joinF (1 : Nat) (joinF (0 : Nat) (fun (x x_1 : Nat) => D.nilp) fun (i j : Nat) => List.getD [D.int IntKind.i64 (20000 : Int), D.int IntKind.i64 (20000 : Int)] (i * (2 : Nat) + j) D.nilp) fun (i j : Nat) => List.getD [D.int IntKind.i64 (10000 : Int), D.int IntKind.i64 (10000 : Int)] (i * (2 : Nat) + j) D.nilp)), Ar.c (D.int IntKind.i64 (0 : Int))]) := by kernel_rfl
theorem all_t35c : All nd_t35c := by
  unfold nd_t35c
  repeat (refine ⟨(by first | exact of_decide_eq_true rfl | exact fun i j _ _ => D.eqv_refl _ | exact Enc.is_F _ _ _ | exact fun i j hi _ => absurd hi (Nat.not_lt_zero i) | exact ⟨⟨ag_of_eq (by kernel_rfl), ag_of_eq (by kernel_rfl), ⟨rfl, rfl, fun j hj => by obtain rfl : j = 0 := Nat.lt_one_iff.1 hj; exact D.eqv_of_eq (by kernel_rfl)⟩, trivial⟩⟩), ?_⟩)
  trivial
theorem w_t35c : (T.needs nd_t35c (T.ret [Ar.c (D.sl true (2 : Nat) (2 : Nat) (joinF (1 : Nat) (joinF (0 : Nat) (fun (x x_1 : Nat) => D.nilp) fun (i j : Nat) => List.getD [D.int IntKind.i64 (20000 : Int), D.int IntKind.i64 (20000 : Int)] (i * (2 : Nat) + j) D.nilp) fun (i j : Nat) => List.getD [D.int IntKind.i64 (10000 : Int), D.int IntKind.i64 (10000 : Int)] (i * (2 : Nat) + j) D.nilp)), Ar.c (D.int IntKind.i64 (0 : Int))])).wp (fun rs => rsEqv rs [.c (.sl true 2 2 (eRg.F [⟨20000, 20000⟩, ⟨10000, 10000⟩])), rI 0]) := by
  refine T.needs_wp all_t35c ?_
  refine ⟨⟨fun _ => rfl, rfl, fun _ => rfl, fun i j hi hj => ?_⟩, rfl, trivial⟩
  match i, hi, j, hj with
  | 0, _, 0, _ => exact D.eqv_refl _
  | 0, _, 1, _ => exact D.eqv_refl _
  | 1, _, 0, _ => exact D.eqv_refl _
  | 1, _, 1, _ => exact D.eqv_refl _
def dom28c : DomF
  | [.agg ds] => some ([Same [.agg ds] [.agg four]], [rI 100, rI 0, rI 0])
  | _ => none
def v28c : Nat × Sm := (28, fokSm dom28c)
theorem C28c : FOK Try.prog G0 gw 28 dom28c := by
  intro ags p r hd hp κ w xs hw hl hG hx
  unfold dom28c at hd
  split at hd
  · simp only [Option.some.injEq, Prod.mk.injEq] at hd
    obtain ⟨rfl, rfl⟩ := hd
    exact fokX_fin mixed gw_stable (sl := [v95, v108, v109, v110c]) ⟨S95, S108, S109, S110c, trivial⟩ Try.func28 hw hl hG hx hp.1.h rfl t28c w_t28c
  · cases hd
theorem S28c : SumOK Try.prog G0 gw 28 (fokSm dom28c) := fok_sum Try.func28 rfl C28c
def dom35c : DomF
  | [.agg ds, .c d] => some ([Same [.agg ds, .c d] [.agg four, .c (dI 100)]], [.c (.sl true 2 2 (eRg.F [⟨20000, 20000⟩, ⟨10000, 10000⟩])), rI 0])
  | _ => none
def v35c : Nat × Sm := (35, fokSm dom35c)
theorem C35c : FOK Try.prog G0 gw 35 dom35c := by
  intro ags p r hd hp κ w xs hw hl hG hx
  unfold dom35c at hd
  split at hd
  · simp only [Option.some.injEq, Prod.mk.injEq] at hd
    obtain ⟨rfl, rfl⟩ := hd
    exact fokX_fin mixed gw_stable (sl := [v103, v104, v95, v107, v108, v109, v110c]) ⟨S103, S104, S95, S107, S108, S109, S110c, trivial⟩ Try.func35 hw hl hG hx hp.1.h rfl t35c w_t35c
  · cases hd
theorem S35c : SumOK Try.prog G0 gw 35 (fokSm dom35c) := fok_sum Try.func35 rfl C35c
end Go.Pl
end

section
set_option linter.unusedVariables false
set_option linter.unusedSimpArgs false
set_option maxRecDepth 100000
namespace Go.Pl
open Go.V Go.Proofs
namespace M
def frac (n d : Int) : Int × Int × Int := cond (small (told1 n d) 1000000000) (cond (decide (told2 n d > 1000000000)) (0, 0, 8) (told1 n d, told2 n d, 0)) (0, 0, 8)
end M
def resF (x : Int × Int × Int) : List Ar := [.agg [dI x.1, dI x.2.1], rI x.2.2]
theorem gcdL2 (n d : Int) : M.gcdL [n, d] = Int.gcd n d := by
  unfold M.gcdL Int.gcd
  simp
def tr85 (n d : Int) : T (List Ar) :=
    T.need (Enc.Is eI (2 : Nat) fun (i j : Nat) => List.getD [D.int IntKind.i64 n, D.int IntKind.i64 d] (i * (1 : Nat) + j) D.nilp) (T.need (List.length (Enc.list eI (2 : Nat) fun (i j : Nat) => List.getD [D.int IntKind.i64 n, D.int IntKind.i64 d] (i * (1 : Nat) + j) D.nilp) ≤ (1000000 : Nat)) (T.need (∀ (x : Int), (x ∈ Enc.list eI (2 : Nat) fun (i j : Nat) => List.getD [D.int IntKind.i64 n, D.int IntKind.i64 d] (i * (nat_lit 0 + (1 : Nat)) + j) D.nilp) → i64ok x) (T.need ((Nat.cast (R := Int) (M.gcdL (Enc.list eI (2 : Nat) fun (i j : Nat) => List.getD [D.int IntKind.i64 n, D.int IntKind.i64 d] (i * (1 : Nat) + j) D.nilp))) ≠ (0 : Int)) (T.need ((Nat.cast (R := Int) (M.gcdL (Enc.list eI (2 : Nat) fun (i j : Nat) => List.getD [D.int IntKind.i64 n, D.int IntKind.i64 d] (i * (1 : Nat) + j) D.nilp))) ≠ (0 : Int)) (T.need ((0 : Int) ≤ (1000000000 : Int) ∧ (1000000000 : Int) < (9223372036854775808 : Int)) (T.br (!M.small (IntKind.wrap IntKind.i64 (Int.tdiv n (Nat.cast (R := Int) (M.gcdL (Enc.list eI (2 : Nat) fun (i j : Nat) => List.getD [D.int IntKind.i64 n, D.int IntKind.i64 d] (i * (1 : Nat) + j) D.nilp))))) (1000000000 : Int)) (T.ret [Ar.agg [D.int IntKind.i64 (0 : Int), D.int IntKind.i64 (0 : Int)], Ar.c (D.int IntKind.i64 (8 : Int))]) (T.br (decide (IntKind.wrap IntKind.i64 (Int.tdiv d (Nat.cast (R := Int) (M.gcdL (Enc.list eI (2 : Nat) fun (i j : Nat) => List.getD [D.int IntKind.i64 n, D.int IntKind.i64 d] (i * (1 : Nat) + j) D.nilp)))) > (1000000000 : Int))) (T.ret [Ar.agg [D.int IntKind.i64 (0 : Int), D.int IntKind.i64 (0 : Int)], Ar.c (D.int IntKind.i64 (8 : Int))]) (T.ret [Ar.agg [D.int IntKind.i64 (IntKind.wrap IntKind.i64 (Int.tdiv n (Nat.cast (R := Int) (M.gcdL (Enc.list eI (2 : Nat) fun (i j : Nat) => List.getD [D.int IntKind.i64 n, D.int IntKind.i64 d] (i * (1 : Nat) + j) D.nilp))))), D.int IntKind.i64 (IntKind.wrap IntKind.i64 (Int.tdiv d (Nat.cast (R := Int) (M.gcdL (Enc.list eI (2 : Nat) fun (i j : Nat) => List.getD [D.int IntKind.i64 n, D.int IntKind.i64 d] (i * (1 : Nat) + j) D.nilp)))))], Ar.c (D.int IntKind.i64 (0 : Int))]))))))))
theorem t85 (n d : Int) : runFnX Try.prog G0 (lookS [v121, v151]) (fun _ => []) [] 1 40 3 85 Try.f85 [.agg [dI n, dI d]] =
    tr85 n d := by kernel_rfl
theorem w85 (n d : Int) (hn : i64ok n) (hd : i64ok d) (h0 : 0 < d) : (tr85 n d).wp (fun rs => rsEqv rs (resF (M.frac n d))) := by
  unfold tr85
  have hl : (eI.list 2 fun (i j : Nat) => List.getD [D.int IntKind.i64 n, D.int IntKind.i64 d] (i * 1 + j) D.nilp) = [n, d] := rfl
  have hl2 : (eI.list 2 fun (i j : Nat) => List.getD [D.int IntKind.i64 n, D.int IntKind.i64 d] (i * (0 + 1) + j) D.nilp) = [n, d] := rfl
  have hg : Int.gcd n d ≠ 0 := by
    intro h
    have := Int.gcd_eq_zero_iff.1 h
    omega
  have w1 := tdiv_ok (n := n) (g := Int.gcd n d) hn
  have w2 := tdiv_ok (n := d) (g := Int.gcd n d) hd
  simp only [hl, gcdL2, w1, w2]
  refine ⟨is_lit2 (D.eqv_refl _) (D.eqv_refl _), of_decide_eq_true rfl, fun x hx => ?_, by omega, by omega, by decide, ?_⟩
  · have hx : x ∈ [n, d] := hx
    simp only [List.mem_cons, List.not_mem_nil, or_false] at hx
    rcases hx with rfl | rfl
    · exact hn
    · exact hd
  · refine wp_br (fun a => ?_) (fun a => wp_br (fun b => ?_) (fun b => ?_))
    · have a : (!M.small (M.told1 n d) 1000000000) = true := a
      rw [Bool.not_eq_true'] at a
      have e : M.frac n d = (0, 0, 8) := by unfold M.frac; rw [a]; rfl
      rw [e]; exact rsEqv_refl _
    · have a : (!M.small (M.told1 n d) 1000000000) = false := a
      rw [Bool.not_eq_false'] at a
      have b : decide (M.told2 n d > 1000000000) = true := b
      have e : M.frac n d = (0, 0, 8) := by unfold M.frac; rw [a, b]; rfl
      rw [e]; exact rsEqv_refl _
    · have a : (!M.small (M.told1 n d) 1000000000) = false := a
      rw [Bool.not_eq_false'] at a
      have b : decide (M.told2 n d > 1000000000) = false := b
      have e : M.frac n d = (M.told1 n d, M.told2 n d, 0) := by unfold M.frac; rw [a, b]; rfl
      rw [e]; exact rsEqv_refl _
def dom85 : DomF
  | [.agg [.int .i64 n, .int .i64 d]] => some ([i64ok n, i64ok d, 0 < d], resF (M.frac n d))
  | _ => none
def v85 : Nat × Sm := (85, fokSm dom85)
theorem C85 : FOK Try.prog G0 gw 85 dom85 := by
  intro ags p r hd hp κ w xs hw hl hG hx
  unfold dom85 at hd
  split at hd
  · rename_i n d
    simp only [Option.some.injEq, Prod.mk.injEq] at hd
    obtain ⟨rfl, rfl⟩ := hd
    exact fokX_fin mixed gw_stable (sl := [v121, v151]) ⟨S121, S151, trivial⟩ Try.func85 hw hl hG hx (agsEqv_refl _) rfl (t85 n d) (w85 n d hp.1 hp.2.1 hp.2.2.1)
  · cases hd
theorem S85 : SumOK Try.prog G0 gw 85 (fokSm dom85) := fok_sum Try.func85 rfl C85
def tr83 (q_mo : Bool) (mo : List Int) (q_ga : Bool) (ga : List Int) (q_de : Bool) (de : List Dem) : T (List Ar) :=
    T.need (Enc.Is eI (List.length mo) (Enc.F eI mo)) (T.need (Enc.Is eI (List.length ga) (Enc.F eI ga)) (T.need (Enc.Is eDm (List.length de) (Enc.F eDm de)) (T.need (List.length (Enc.list eI (List.length mo) (Enc.F eI mo)) ≤ (1000000 : Nat)) (T.need (List.length (Enc.list eI (List.length ga) (Enc.F eI ga)) ≤ (1000000 : Nat)) (T.need (List.length (Enc.list eDm (List.length de) (Enc.F eDm de)) ≤ (1000000 : Nat)) (T.need (∀ (d : Dem), d ∈ Enc.list eDm (List.length de) (Enc.F eDm de) → ByteArray.size (Dem.nm d) ≤ (1000000 : Nat) ∧ List.length (Dem.co d) ≤ (1000000 : Nat)) (T.ret [Ar.agg [D.sl q_mo (List.length mo) (1 : Nat) (Enc.F eI mo), D.sl q_ga (List.length ga) (1 : Nat) (Enc.F eI ga), D.sl q_de (List.length de) (3 : Nat) (Enc.F eDm de)], Ar.c (D.int IntKind.i64 (Prod.snd (M.checkProg (Enc.list eI (List.length mo) (Enc.F eI mo)) (Enc.list eI (List.length ga) (Enc.F eI ga)) (Enc.list eDm (List.length de) (Enc.F eDm de)))))])))))))
theorem t83 (q_mo : Bool) (mo : List Int) (q_ga : Bool) (ga : List Int) (q_de : Bool) (de : List Dem) : runFnX Try.prog G0 (lookS [v42]) (fun _ => []) [] 1 40 3 83 Try.f83 [.agg [.sl q_mo mo.length 1 (eI.F mo), .sl q_ga ga.length 1 (eI.F ga), .sl q_de de.length 3 (eDm.F de)]] =
    tr83 q_mo mo q_ga ga q_de de := by kernel_rfl
theorem w83 (qm : Bool) (mo : List Int) (qg : Bool) (ga : List Int) (qd : Bool) (de : List Dem) (h1 : mo.length ≤ 1000000) (h2 : ga.length ≤ 1000000) (h3 : de.length ≤ 1000000) (hn : ∀ d, d ∈ de → d.nm.size ≤ 1000000 ∧ d.co.length ≤ 1000000) : (tr83 qm mo qg ga qd de).wp (fun rs => rsEqv rs [.agg [.sl qm mo.length 1 (eI.F mo), .sl qg ga.length 1 (eI.F ga), .sl qd de.length 3 (eDm.F de)], rI (M.checkProg mo ga de).2]) := by
  unfold tr83
  simp only [Enc.list_F]
  exact ⟨Enc.is_F _ _ _, Enc.is_F _ _ _, Enc.is_F _ _ _, h1, h2, h3, hn, rsEqv_refl _⟩
def dom83 : DomF
  | [.agg [.sl qm n1 st1 F1, .sl qg n2 st2 F2, .sl qd n3 st3 F3]] => (match Nat.beq st1 1 && Nat.beq st2 1 && Nat.beq st3 3 with
    | true => some ([eI.Is n1 F1, eI.Is n2 F2, eDm.Is n3 F3, n1 ≤ 1000000, n2 ≤ 1000000, n3 ≤ 1000000, ∀ d, d ∈ eDm.list n3 F3 → d.nm.size ≤ 1000000 ∧ d.co.length ≤ 1000000], [.agg [.sl qm n1 1 (eI.F (eI.list n1 F1)), .sl qg n2 1 (eI.F (eI.list n2 F2)), .sl qd n3 3 (eDm.F (eDm.list n3 F3))], rI (M.checkProg (eI.list n1 F1) (eI.list n2 F2) (eDm.list n3 F3)).2])
    | _ => none)
  | _ => none
def v83 : Nat × Sm := (83, fokSm dom83)
theorem C83 : FOK Try.prog G0 gw 83 dom83 := by
  intro ags p r hd hp κ w xs hw hl hG hx
  unfold dom83 at hd
  split at hd
  · rename_i qm n1 st1 F1 qg n2 st2 F2 qd n3 st3 F3
    split at hd
    · rename_i hst
      simp only [Bool.and_eq_true] at hst
      have g1 := Nat.eq_of_beq_eq_true hst.1.1
      have g2 := Nat.eq_of_beq_eq_true hst.1.2
      have g3 := Nat.eq_of_beq_eq_true hst.2
      subst g1 g2 g3
      simp only [Option.some.injEq, Prod.mk.injEq] at hd
      obtain ⟨rfl, rfl⟩ := hd
      obtain ⟨i1, i2, i3, l1, l2, l3, hn, _⟩ := hp
      have heq : agsEqv [.agg [.sl qm n1 1 F1, .sl qg n2 1 F2, .sl qd n3 3 F3]] [.agg [.sl qm (eI.list n1 F1).length 1 (eI.F (eI.list n1 F1)), .sl qg (eI.list n2 F2).length 1 (eI.F (eI.list n2 F2)), .sl qd (eDm.list n3 F3).length 3 (eDm.F (eDm.list n3 F3))]] := ⟨⟨eI.to id i1, eI.to id i2, eDm.to id i3, trivial⟩, trivial⟩
      have e1 : (eI.list n1 F1).length = n1 := Enc.list_len _
      have e2 : (eI.list n2 F2).length = n2 := Enc.list_len _
      have e3 : (eDm.list n3 F3).length = n3 := Enc.list_len _
      have hw0 := w83 qm (eI.list n1 F1) qg (eI.list n2 F2) qd (eDm.list n3 F3) (by omega) (by omega) (by omega) hn
      rw [e1, e2, e3] at hw0
      exact fokX_fin mixed gw_stable (sl := [v42]) ⟨S42, trivial⟩ Try.func83 hw hl hG hx heq rfl (t83 qm _ qg _ qd _) hw0
    · cases hd
  · cases hd
theorem S83 : SumOK Try.prog G0 gw 83 (fokSm dom83) := fok_sum Try.func83 rfl C83
end Go.Pl
end

section
set_option linter.unusedVariables false
set_option linter.unusedSimpArgs false
set_option maxRecDepth 100000
namespace Go.Pl
open Go.V Go.Proofs
def best2 : List Ar := [.agg [dI 34, dI 1, dI 1, dT [10, 2], dI 1, dT [2], dT [1, 0]], rI 0]
def two' : List D := [D.sl true 2 1 (eI.F (eI.list 2 (eI.F [10, 10]))), D.sl true 2 1 (eI.F (eI.list 2 (eI.F [3, 2]))), D.sl true 1 3 (eDm.F (eDm.list 1 (eDm.F [⟨⟨#[97]⟩, [1, 1], 12⟩])))]
theorem two'_eq : two' = two := by kernel_rfl
theorem two1 : Same [.agg two'] [.agg two] := ⟨by rw [two'_eq]; exact agsEqv_refl _⟩
theorem two3 : Same [.agg two', .c (.sl true 2 1 (eI.F (eI.list 2 (eI.F [3, 2])))), .c (.sl false 0 0 (fun _ _ => .nilp))] [.agg two, .c (dT [3, 2]), .c (.sl false 0 0 (fun _ _ => .nilp))] := ⟨by rw [two'_eq]; exact ⟨Ag.eqv_refl _, ag_of_eq (by kernel_rfl), Ag.eqv_refl _, trivial⟩⟩
def nd_t17c : List Prop := [
  Enc.Is eI (2 : Nat) (Enc.F eI [(10 : Int), (10 : Int)]),
  Enc.Is eI (2 : Nat) (Enc.F eI [(3 : Int), (2 : Int)]),
  Enc.Is eDm (1 : Nat) (Enc.F eDm [{ nm := { data := { toList := [(97 : UInt8)] } }, co := [(1 : Int), (1 : Int)], am := (12 : Int) }]),
  (2 : Nat) ≤ (1000000 : Nat),
  (2 : Nat) ≤ (1000000 : Nat),
  (1 : Nat) ≤ (1000000 : Nat),
  ∀ (d : Dem), d ∈ Enc.list eDm (1 : Nat) (Enc.F eDm [{ nm := { data := #[(97 : UInt8)] }, co := [(1 : Int), (1 : Int)], am := (12 : Int) }]) → ByteArray.size (Dem.nm d) ≤ (1000000 : Nat) ∧ List.length (Dem.co d) ≤ (1000000 : Nat),
  Same [Ag.agg [D.sl true (2 : Nat) (1 : Nat) (Enc.F eI (Enc.list eI (2 : Nat) (Enc.F eI [(10 : Int), (10 : Int)]))), D.sl true (2 : Nat) (1 : Nat) (Enc.F eI (Enc.list eI (2 : Nat) (Enc.F eI [(3 : Int), (2 : Int)]))), D.sl true (1 : Nat) (3 : Nat) (Enc.F eDm (Enc.list eDm (1 : Nat) (Enc.F eDm [{ nm := { data := { toList := [(97 : UInt8)] } }, co := [(1 : Int), (1 : Int)], am := (12 : Int) }])))]] [Ag.agg two],
  i64ok (34 : Int),
  i64ok (1 : Int),
  (0 : Int) < (1 : Int),
  Same [Ag.agg [D.sl true (2 : Nat) (1 : Nat) (Enc.F eI (Enc.list eI (2 : Nat) (Enc.F eI [(10 : Int), (10 : Int)]))), D.sl true (2 : Nat) (1 : Nat) (Enc.F eI (Enc.list eI (2 : Nat) (Enc.F eI [(3 : Int), (2 : Int)]))), D.sl true (1 : Nat) (3 : Nat) (Enc.F eDm (Enc.list eDm (1 : Nat) (Enc.F eDm [{ nm := { data := { toList := [(97 : UInt8)] } }, co := [(1 : Int), (1 : Int)], am := (12 : Int) }])))], Ag.c (D.sl true (2 : Nat) (1 : Nat) (Enc.F eI [(3 : Int), (2 : Int)])), Ag.c (D.sl false (0 : Nat) (0 : Nat) fun (x x_1 : Nat) => D.nilp)] [Ag.agg two, Ag.c (dT [(3 : Int), (2 : Int)]), Ag.c (D.sl false (0 : Nat) (0 : Nat) fun (x x_1 : Nat) => D.nilp)]]
theorem t17c  : runFnX Try.prog G0 (lookS [v83, v84c, v85, v86c]) (fun _ => [(999999, [], none)]) [] 1 60 3 17 Try.f17 [.agg two] =
    T.needs nd_t17c (T.ret [Ar.agg [D.int IntKind.i64 (34 : Int), D.int IntKind.i64 (1 : Int), D.int IntKind.i64 (1 : Int), D.sl true (2 : Nat) (1 : Nat) (Enc.F eI [(10 : Int), (2 : Int)]), D.int IntKind.i64 (1 : Int), D.sl true (1 : Nat) (1 : Nat) (Enc.F eI [(2 : Int)]), D.sl true (2 : Nat) (1 : Nat) (Enc.F eI [(1 : Int), (0 : Int)])], Ar.c (D.int IntKind.i64 (0 : Int))]) := by kernel_rfl
theorem all_t17c : All nd_t17c := by
  unfold nd_t17c
  repeat (refine ⟨(by first | exact of_decide_eq_true rfl | exact fun i j _ _ => D.eqv_refl _ | exact Enc.is_F _ _ _ | exact fun i j hi _ => absurd hi (Nat.not_lt_zero i) | exact two1 | exact two3 | exact of_decide_eq_true (by kernel_rfl)), ?_⟩)
  trivial
theorem w_t17c : (T.needs nd_t17c (T.ret [Ar.agg [D.int IntKind.i64 (34 : Int), D.int IntKind.i64 (1 : Int), D.int IntKind.i64 (1 : Int), D.sl true (2 : Nat) (1 : Nat) (Enc.F eI [(10 : Int), (2 : Int)]), D.int IntKind.i64 (1 : Int), D.sl true (1 : Nat) (1 : Nat) (Enc.F eI [(2 : Int)]), D.sl true (2 : Nat) (1 : Nat) (Enc.F eI [(1 : Int), (0 : Int)])], Ar.c (D.int IntKind.i64 (0 : Int))])).wp (fun rs => rsEqv rs best2) := by
  refine T.needs_wp all_t17c ?_
  exact rsEqv_refl _
def nd_t53c : List Prop := [
  Enc.Is eI (2 : Nat) (Enc.F eI [(10 : Int), (10 : Int)]),
  Enc.Is eI (2 : Nat) (Enc.F eI [(3 : Int), (2 : Int)]),
  Enc.Is eDm (1 : Nat) (Enc.F eDm [{ nm := { data := { toList := [(97 : UInt8)] } }, co := [(1 : Int), (1 : Int)], am := (12 : Int) }]),
  (2 : Nat) ≤ (1000000 : Nat),
  (2 : Nat) ≤ (1000000 : Nat),
  (1 : Nat) ≤ (1000000 : Nat),
  ∀ (d : Dem), d ∈ Enc.list eDm (1 : Nat) (Enc.F eDm [{ nm := { data := #[(97 : UInt8)] }, co := [(1 : Int), (1 : Int)], am := (12 : Int) }]) → ByteArray.size (Dem.nm d) ≤ (1000000 : Nat) ∧ List.length (Dem.co d) ≤ (1000000 : Nat),
  ((1 : Int) == (1 : Int)) = true,
  M.within (1 : Int) (1 : Int) (100000000000 : Int) = true,
  Enc.Is eI (1 : Nat) (Enc.F eI [(2 : Int)]),
  (1 : Nat) ≤ (1000000 : Nat),
  (!(badF (170 : Nat) (2 : Int) || false)) = true,
  Enc.Is eI (2 : Nat) (Enc.F eI [(1 : Int), (0 : Int)]),
  (2 : Nat) ≤ (1000000 : Nat),
  Enc.Is eI (2 : Nat) (Enc.F eI [(1 : Int), (0 : Int)]),
  Enc.Is eI (2 : Nat) (Enc.F eI (Enc.list eI (2 : Nat) (Enc.F eI [(10 : Int), (10 : Int)]))),
  List.length (Enc.list eI (2 : Nat) (Enc.F eI [(1 : Int), (0 : Int)])) ≤ (1000000 : Nat),
  List.length (Enc.list eI (2 : Nat) (Enc.F eI [(1 : Int), (0 : Int)])) ≤ List.length (Enc.list eI (2 : Nat) (Enc.F eI (Enc.list eI (2 : Nat) (Enc.F eI [(10 : Int), (10 : Int)])))),
  (0 : Int) ≤ (0 : Int),
  (0 : Int) < (1 : Int),
  (0 : Int) ≤ (0 : Int),
  (0 : Int) < (1 : Int),
  (0 : Int) ≤ (0 : Int),
  (0 : Int) < (2 : Int),
  (0 : Int) ≤ (0 : Int),
  (0 : Int) < (1 : Int),
  (0 : Int) ≤ (0 : Int),
  (0 : Int) < (1 : Int),
  (0 : Int) ≤ (0 : Int),
  (0 : Int) < (2 : Int),
  (0 : Int) ≤ (0 : Int),
  (0 : Int) < (2 : Int),
  (0 : Int) ≤ (1 : Int),
  (1 : Int) < (2 : Int),
  (0 : Int) ≤ (0 : Int),
  (0 : Int) < (1 : Int),
  (0 : Int) ≤ (0 : Int),
  (0 : Int) < (1 : Int),
  (0 : Int) ≤ (1 : Int),
  (1 : Int) < (2 : Int),
  (0 : Int) ≤ (1 : Int),
  (1 : Int) < (2 : Int),
  i64ok (34 : Int),
  i64ok (1 : Int),
  (0 : Int) < (1 : Int)]
theorem t53c  : runFnX Try.prog G0 (lookS [v83, v85, v103, v104, v105, v118, v139]) (fun _ => [(999999, [], none)]) [133, 134, 135] 1 60 6 53 Try.f53 [.agg two, .agg [dI 1, dT [2], dT [1, 0]]] =
    T.needs nd_t53c (T.ret [Ar.agg [D.int IntKind.i64 (34 : Int), D.int IntKind.i64 (1 : Int)], Ar.c (D.int IntKind.i64 (0 : Int))]) := by kernel_rfl
theorem all_t53c : All nd_t53c := by
  unfold nd_t53c
  repeat (refine ⟨(by first | exact of_decide_eq_true rfl | exact fun i j _ _ => D.eqv_refl _ | exact Enc.is_F _ _ _ | exact fun i j hi _ => absurd hi (Nat.not_lt_zero i) | exact of_decide_eq_true (by kernel_rfl)), ?_⟩)
  trivial
theorem w_t53c : (T.needs nd_t53c (T.ret [Ar.agg [D.int IntKind.i64 (34 : Int), D.int IntKind.i64 (1 : Int)], Ar.c (D.int IntKind.i64 (0 : Int))])).wp (fun rs => rsEqv rs [.agg [dI 34, dI 1], rI 0]) := by
  refine T.needs_wp all_t53c ?_
  exact rsEqv_refl _
def dom17c : DomF
  | [.agg ds] => some ([Same [.agg ds] [.agg two]], best2)
  | _ => none
def v17c : Nat × Sm := (17, fokSm dom17c)
theorem C17c : FOK Try.prog G0 gw 17 dom17c := by
  intro ags p r hd hp κ w xs hw hl hG hx
  unfold dom17c at hd
  split at hd
  · simp only [Option.some.injEq, Prod.mk.injEq] at hd
    obtain ⟨rfl, rfl⟩ := hd
    exact fokX_fin mixed gw_stable (sl := [v83, v84c, v85, v86c]) ⟨S83, S84c, S85, S86c, trivial⟩ Try.func17 hw hl hG hx hp.1.h rfl t17c w_t17c
  · cases hd
theorem S17c : SumOK Try.prog G0 gw 17 (fokSm dom17c) := fok_sum Try.func17 rfl C17c
def dom53c : DomF
  | [.agg ds, .agg ws] => some ([Same [.agg ds, .agg ws] [.agg two, .agg [dI 1, dT [2], dT [1, 0]]]], [.agg [dI 34, dI 1], rI 0])
  | _ => none
def v53c : Nat × Sm := (53, fokSm dom53c)
theorem C53c : FOK Try.prog G0 gw 53 dom53c := by
  intro ags p r hd hp κ w xs hw hl hG hx
  unfold dom53c at hd
  split at hd
  · simp only [Option.some.injEq, Prod.mk.injEq] at hd
    obtain ⟨rfl, rfl⟩ := hd
    exact fokX_fin mixed gw_stable (sl := [v83, v85, v103, v104, v105, v118, v139]) ⟨S83, S85, S103, S104, S105, S118, S139, trivial⟩ Try.func53 hw hl hG hx hp.1.h rfl t53c w_t53c
  · cases hd
theorem S53c : SumOK Try.prog G0 gw 53 (fokSm dom53c) := fok_sum Try.func53 rfl C53c
def tr80  : T (List Ar) :=
    T.ret [Ar.agg [D.sl true (2 : Nat) (1 : Nat) fun (i' j : Nat) => List.getD [D.int IntKind.i64 (10 : Int), D.int IntKind.i64 (10 : Int)] (i' * (1 : Nat) + j) D.nilp, D.sl true (2 : Nat) (1 : Nat) fun (i' j : Nat) => List.getD [D.int IntKind.i64 (3 : Int), D.int IntKind.i64 (2 : Int)] (i' * (1 : Nat) + j) D.nilp, D.sl true (1 : Nat) (3 : Nat) fun (i' j : Nat) => List.getD [D.str { data := { toList := [(97 : UInt8)] } }, D.sl true (2 : Nat) (1 : Nat) fun (i' j : Nat) => List.getD [D.int IntKind.i64 (1 : Int), D.int IntKind.i64 (1 : Int)] (i' * (1 : Nat) + j) D.nilp, D.int IntKind.i64 (12 : Int)] (i' * (3 : Nat) + j) D.nilp]]
theorem t80  : runFnX Try.prog G0 (lookS []) (fun _ => []) [] 1 40 6 80 Try.f80 [] =
    tr80  := by kernel_rfl
def tr81  : T (List Ar) :=
    T.ret [Ar.agg [D.sl true (2 : Nat) (4 : Nat) fun (i' j : Nat) => List.getD [D.int IntKind.i64 (1000 : Int), D.int IntKind.i64 (0 : Int), D.int IntKind.i64 (0 : Int), D.int IntKind.i64 (20000 : Int), D.int IntKind.i64 (1000 : Int), D.int IntKind.i64 (0 : Int), D.int IntKind.i64 (0 : Int), D.int IntKind.i64 (10000 : Int)] (i' * (4 : Nat) + j) D.nilp, D.int IntKind.i64 (0 : Int)]]
theorem t81  : runFnX Try.prog G0 (lookS []) (fun _ => []) [] 1 40 6 81 Try.f81 [] =
    tr81  := by kernel_rfl
def tr82 (n : Int) : T (List Ar) :=
    T.ret [Ar.agg [D.int IntKind.i64 n, D.int IntKind.i64 (1 : Int)]]
theorem t82 (n : Int) : runFnX Try.prog G0 (lookS []) (fun _ => []) [] 1 40 3 82 Try.f82 [.c (dI n)] =
    tr82 n := by kernel_rfl
theorem w80 : (tr80).wp (fun rs => rsEqv rs [.agg two]) := by
  unfold tr80
  refine ⟨⟨dT_ok rfl rfl (fun i hi => ?_), dT_ok rfl rfl (fun i hi => ?_), ⟨fun _ => rfl, rfl, fun _ => rfl, fun i j hi hj => ?_⟩, trivial⟩, trivial⟩
  · match i, hi with
    | 0, _ => exact D.eqv_refl _
    | 1, _ => exact D.eqv_refl _
  · match i, hi with
    | 0, _ => exact D.eqv_refl _
    | 1, _ => exact D.eqv_refl _
  · match i, hi, j, hj with
    | 0, _, 0, _ => exact D.eqv_refl _
    | 0, _, 1, _ =>
      refine ⟨fun _ => rfl, rfl, fun _ => rfl, fun i j hi hj => ?_⟩
      obtain rfl : j = 0 := Nat.lt_one_iff.1 hj
      match i, hi with
      | 0, _ => exact D.eqv_refl _
      | 1, _ => exact D.eqv_refl _
    | 0, _, 2, _ => exact D.eqv_refl _
def dom80 : DomF
  | [] => some ([], [.agg two])
  | _ => none
def v80 : Nat × Sm := (80, fokSm dom80)
theorem C80 : FOK Try.prog G0 gw 80 dom80 := by
  intro ags p r hd hp κ w xs hw hl hG hx
  unfold dom80 at hd
  split at hd
  · simp only [Option.some.injEq, Prod.mk.injEq] at hd
    obtain ⟨rfl, rfl⟩ := hd
    exact fokX_fin mixed gw_stable (sl := []) trivial Try.func80 hw hl hG hx (agsEqv_refl _) rfl t80 w80
  · cases hd
theorem S80 : SumOK Try.prog G0 gw 80 (fokSm dom80) := fok_sum Try.func80 rfl C80
theorem w81 : (tr81).wp (fun rs => rsEqv rs [.agg four]) := by
  unfold tr81
  refine ⟨⟨⟨fun _ => rfl, rfl, fun _ => rfl, fun i j hi hj => ?_⟩, rfl, trivial⟩, trivial⟩
  match i, hi, j, hj with
  | 0, _, 0, _ => exact D.eqv_refl _
  | 0, _, 1, _ => exact D.eqv_refl _
  | 0, _, 2, _ => exact D.eqv_refl _
  | 0, _, 3, _ => exact D.eqv_refl _
  | 1, _, 0, _ => exact D.eqv_refl _
  | 1, _, 1, _ => exact D.eqv_refl _
  | 1, _, 2, _ => exact D.eqv_refl _
  | 1, _, 3, _ => exact D.eqv_refl _
def dom81 : DomF
  | [] => some ([], [.agg four])
  | _ => none
def v81 : Nat × Sm := (81, fokSm dom81)
theorem C81 : FOK Try.prog G0 gw 81 dom81 := by
  intro ags p r hd hp κ w xs hw hl hG hx
  unfold dom81 at hd
  split at hd
  · simp only [Option.some.injEq, Prod.mk.injEq] at hd
    obtain ⟨rfl, rfl⟩ := hd
    exact fokX_fin mixed gw_stable (sl := []) trivial Try.func81 hw hl hG hx (agsEqv_refl _) rfl t81 w81
  · cases hd
theorem S81 : SumOK Try.prog G0 gw 81 (fokSm dom81) := fok_sum Try.func81 rfl C81
def dom82 : DomF
  | [.c (.int .i64 n)] => some ([], [.agg [dI n, dI 1]])
  | _ => none
def v82 : Nat × Sm := (82, fokSm dom82)
theorem C82 : FOK Try.prog G0 gw 82 dom82 := by
  intro ags p r hd hp κ w xs hw hl hG hx
  unfold dom82 at hd
  split at hd
  · rename_i n
    simp only [Option.some.injEq, Prod.mk.injEq] at hd
    obtain ⟨rfl, rfl⟩ := hd
    have heq : agsEqv [.c (.int .i64 n)] [.c (.int .i64 n)] := ⟨Ag.eqv_refl _, trivial⟩
    exact fokX_fin mixed gw_stable (sl := []) trivial Try.func82 hw hl hG hx heq rfl (t82 _) (rsEqv_refl _)
  · cases hd
theorem S82 : SumOK Try.prog G0 gw 82 (fokSm dom82) := fok_sum Try.func82 rfl C82
end Go.Pl
end

section
set_option linter.unusedVariables false
set_option linter.unusedSimpArgs false
set_option maxRecDepth 100000
namespace Go.Pl
open Go.V Go.Proofs
theorem sw : Same [.agg two, .agg [dI 1, D.sl true 1 1 fun (i j : Nat) => List.getD [dI 2] (i * 1 + j) D.nilp, D.sl true 2 1 fun (i j : Nat) => List.getD [dI 1, dI 0] (i * 1 + j) D.nilp]] [.agg two, .agg [dI 1, dT [2], dT [1, 0]]] := by
  refine ⟨⟨Ag.eqv_refl _, ⟨rfl, dT_ok rfl rfl (fun i hi => ?_), dT_ok rfl rfl (fun i hi => ?_), trivial⟩, trivial⟩⟩
  · match i, hi with
    | 0, _ => exact D.eqv_refl _
  · match i, hi with
    | 0, _ => exact D.eqv_refl _
    | 1, _ => exact D.eqv_refl _
def nd_t15 : List Prop := [
  Same [Ag.agg [D.sl true (2 : Nat) (1 : Nat) (Enc.F eI [(10 : Int), (10 : Int)]), D.sl true (2 : Nat) (1 : Nat) (Enc.F eI [(3 : Int), (2 : Int)]), D.sl true (1 : Nat) (3 : Nat) (Enc.F eDm [{ nm := { data := { toList := [(97 : UInt8)] } }, co := [(1 : Int), (1 : Int)], am := (12 : Int) }])]] [Ag.agg two],
  Same [Ag.agg [D.sl true (2 : Nat) (1 : Nat) (Enc.F eI [(10 : Int), (10 : Int)]), D.sl true (2 : Nat) (1 : Nat) (Enc.F eI [(3 : Int), (2 : Int)]), D.sl true (1 : Nat) (3 : Nat) (Enc.F eDm [{ nm := { data := { toList := [(97 : UInt8)] } }, co := [(1 : Int), (1 : Int)], am := (12 : Int) }])], Ag.agg [D.int IntKind.i64 (1 : Int), D.sl true (1 : Nat) (1 : Nat) fun (i j : Nat) => List.getD [D.int IntKind.i64 (2 : Int)] (i * (1 : Nat) + j) D.nilp, D.sl true (2 : Nat) (1 : Nat) fun (i j : Nat) => List.getD [D.int IntKind.i64 (1 : Int), D.int IntKind.i64 (0 : Int)] (i * (1 : Nat) + j) D.nilp]] [Ag.agg two, Ag.agg [dI (1 : Int), dT [(2 : Int)], dT [(1 : Int), (0 : Int)]]],
  Same [Ag.agg [D.sl true (2 : Nat) (4 : Nat) (Enc.F eSc [(Scale.mk (1000 : Int) (0 : Int) (0 : Int) (20000 : Int)), (Scale.mk (1000 : Int) (0 : Int) (0 : Int) (10000 : Int))]), D.int IntKind.i64 (0 : Int)]] [Ag.agg four],
  Same [Ag.agg [D.sl true (2 : Nat) (4 : Nat) (Enc.F eSc [(Scale.mk (1000 : Int) (0 : Int) (0 : Int) (20000 : Int)), (Scale.mk (1000 : Int) (0 : Int) (0 : Int) (10000 : Int))]), D.int IntKind.i64 (0 : Int)], Ag.c (D.int IntKind.i64 (100 : Int))] [Ag.agg four, Ag.c (dI (100 : Int))],
  ((34 : Int) == (34 : Int) && ((1 : Int) == (1 : Int) && true)) = true,
  ((34 : Int) == (34 : Int) && ((1 : Int) == (1 : Int) && true)) = true,
  ((2 : Int) == (2 : Int)) = true,
  (0 : Int) ≤ (0 : Int),
  (0 : Int) < (2 : Int)]
theorem t15  : runFnX Try.prog G0 (lookS [v17c, v53c, v28c, v35c, v80, v81, v82]) (fun _ => [(999999, [], none)]) [] 1 60 3 15 Try.f15 [] =
    T.needs nd_t15 (T.ret [Ar.c (D.bool ((20000 : Int) == (20000 : Int) && ((20000 : Int) == (20000 : Int) && true)))]) := by kernel_rfl
theorem all_t15 : All nd_t15 := by
  unfold nd_t15
  repeat (refine ⟨(by first | exact of_decide_eq_true rfl | exact fun i j _ _ => D.eqv_refl _ | exact Enc.is_F _ _ _ | exact fun i j hi _ => absurd hi (Nat.not_lt_zero i) | exact Same.mk (agsEqv_refl _) | exact sw), ?_⟩)
  trivial
theorem w_t15 : (T.needs nd_t15 (T.ret [Ar.c (D.bool ((20000 : Int) == (20000 : Int) && ((20000 : Int) == (20000 : Int) && true)))])).wp (fun rs => rsEqv rs [rB true]) := by
  refine T.needs_wp all_t15 ?_
  exact rsEqv_refl _
def dom15 : DomF
  | [] => some ([], [rB true])
  | _ => none
def v15 : Nat × Sm := (15, fokSm dom15)
theorem C15 : FOK Try.prog G0 gw 15 dom15 := by
  intro ags p r hd hp κ w xs hw hl hG hx
  unfold dom15 at hd
  split at hd
  · simp only [Option.some.injEq, Prod.mk.injEq] at hd
    obtain ⟨rfl, rfl⟩ := hd
    exact fokX_fin mixed gw_stable (sl := [v17c, v53c, v28c, v35c, v80, v81, v82]) ⟨S17c, S53c, S28c, S35c, S80, S81, S82, trivial⟩ Try.func15 hw hl hG hx (agsEqv_refl _) rfl t15 w_t15
  · cases hd
theorem S15 : SumOK Try.prog G0 gw 15 (fokSm dom15) := fok_sum Try.func15 rfl C15
end Go.Pl
end

section
set_option linter.unusedVariables false
set_option linter.unusedSimpArgs false
set_option maxRecDepth 100000
namespace Go.Pl
open Go.V Go.Proofs
namespace M
def agesErr (n : Nat) (ag : List Rg) : Int := cond ((ag.length : Int) != (n : Int)) 10 (badFrom (fun k => rgErr (ag.getD k dfR).lo (ag.getD k dfR).hi 100000) ag.length 0).2
def firstIdx (p : Nat → Bool) : Nat → Nat → Int
  | 0, _ => -1
  | n + 1, k => cond (p k) (k : Int) (firstIdx p n (k + 1))
def short (sc : List Scale) (ag : List Rg) : Int := firstIdx (fun k => decide ((ag.getD k dfR).lo < (sc.getD k dfS).least)) ag.length 0
def floorW (n b : Int) : Int := cond (decide (n.tmod b < 0)) (IntKind.i64.wrap (IntKind.i64.wrap (n.tdiv b) - 1)) (IntKind.i64.wrap (n.tdiv b))
def ceilW (n b : Int) : Int := IntKind.i64.wrap (0 - floorW (IntKind.i64.wrap (0 - n)) b)
def mixed (v f a b : Int) : Int := IntKind.i64.wrap (IntKind.i64.wrap (IntKind.i64.wrap (v - f) * a) + IntKind.i64.wrap (f * b))
end M
theorem idx_step {p : Nat → Bool} {n k : Nat} (h : k < n) : M.firstIdx p (n - k) k = cond (p k) (k : Int) (M.firstIdx p (n - (k + 1)) (k + 1)) := by
  obtain ⟨m, hm⟩ : ∃ m, n - k = m + 1 := ⟨n - k - 1, by omega⟩
  rw [hm, show n - (k + 1) = m by omega]; rfl
def tr27 (q_sc : Bool) (sc : List Scale) (new : Int) : T (List Ar) :=
    T.ret [Ar.c (D.bool (decide ((Nat.cast (R := Int) (List.length sc)) ≤ (6 : Int))))]
theorem t27 (q_sc : Bool) (sc : List Scale) (new : Int) : runFnX Try.prog G0 (lookS []) (fun _ => []) [] 1 40 3 27 Try.f27 [.agg [.sl q_sc sc.length 4 (eSc.F sc), dI new]] =
    tr27 q_sc sc new := by kernel_rfl
def tr66 (q_sc : Bool) (sc : List Scale) (new : Int) (q_ag : Bool) (ag : List Rg) : T (List Ar) :=
    T.br ((Nat.cast (R := Int) (List.length ag)) != (Nat.cast (R := Int) (List.length sc))) (T.ret [Ar.c (D.int IntKind.i64 (10 : Int))]) (T.loop (Int × PUnit) ((0 : Int), PUnit.unit) fun (x : Int × PUnit) => T.br (decide (Prod.fst x < (Nat.cast (R := Int) (List.length ag)))) (T.need ((0 : Int) ≤ Prod.fst x) (T.need (Prod.fst x < (Nat.cast (R := Int) (List.length ag))) (T.br (M.rgErr (Rg.lo (List.getD ag (Int.toNat (Prod.fst x)) { lo := (0 : Int), hi := (0 : Int) })) (Rg.hi (List.getD ag (Int.toNat (Prod.fst x)) { lo := (0 : Int), hi := (0 : Int) })) (100000 : Int) != (0 : Int)) (T.ret (Sum.inr [Ar.c (D.int IntKind.i64 (M.rgErr (Rg.lo (List.getD ag (Int.toNat (Prod.fst x)) { lo := (0 : Int), hi := (0 : Int) })) (Rg.hi (List.getD ag (Int.toNat (Prod.fst x)) { lo := (0 : Int), hi := (0 : Int) })) (100000 : Int)))])) (T.ret (Sum.inl (IntKind.wrap IntKind.i64 (Prod.fst x + (1 : Int)), PUnit.unit)))))) (T.ret (Sum.inr [Ar.c (D.int IntKind.i64 (0 : Int))])))
theorem t66 (q_sc : Bool) (sc : List Scale) (new : Int) (q_ag : Bool) (ag : List Rg) : runFnX Try.prog G0 (lookS [v113]) (fun _ => [(4, [.slot 5 (.int .i64)], none)]) [] 1 40 3 66 Try.f66 [.agg [.sl q_sc sc.length 4 (eSc.F sc), dI new], .c (.sl q_ag ag.length 2 (eRg.F ag))] =
    tr66 q_sc sc new q_ag ag := by kernel_rfl
def tr142 (q_sc : Bool) (sc : List Scale) (new : Int) (q_ag : Bool) (ag : List Rg) : T (List Ar) :=
    T.br ((Nat.cast (R := Int) (List.length ag)) != (Nat.cast (R := Int) (List.length sc))) (T.ret [Ar.c (D.int IntKind.i64 (10 : Int))]) (T.loop (Int × PUnit) ((0 : Int), PUnit.unit) fun (x : Int × PUnit) => T.br (decide (Prod.fst x < (Nat.cast (R := Int) (List.length ag)))) (T.need ((0 : Int) ≤ Prod.fst x) (T.need (Prod.fst x < (Nat.cast (R := Int) (List.length ag))) (T.br (M.rgErr (Rg.lo (List.getD ag (Int.toNat (Prod.fst x)) { lo := (0 : Int), hi := (0 : Int) })) (Rg.hi (List.getD ag (Int.toNat (Prod.fst x)) { lo := (0 : Int), hi := (0 : Int) })) (100000 : Int) != (0 : Int)) (T.ret (Sum.inr [Ar.c (D.int IntKind.i64 (M.rgErr (Rg.lo (List.getD ag (Int.toNat (Prod.fst x)) { lo := (0 : Int), hi := (0 : Int) })) (Rg.hi (List.getD ag (Int.toNat (Prod.fst x)) { lo := (0 : Int), hi := (0 : Int) })) (100000 : Int)))])) (T.ret (Sum.inl (IntKind.wrap IntKind.i64 (Prod.fst x + (1 : Int)), PUnit.unit)))))) (T.ret (Sum.inr [Ar.c (D.int IntKind.i64 (0 : Int))])))
theorem t142 (q_sc : Bool) (sc : List Scale) (new : Int) (q_ag : Bool) (ag : List Rg) : runFnX Try.prog G0 (lookS [v106]) (fun _ => [(4, [.slot 17 (.int .i64)], none)]) [] 1 40 3 142 Try.f142 [.agg [.sl q_sc sc.length 4 (eSc.F sc), dI new], .c (.sl q_ag ag.length 2 (eRg.F ag))] =
    tr142 q_sc sc new q_ag ag := by kernel_rfl
def tr143 (q_sc : Bool) (sc : List Scale) (new : Int) (q_ag : Bool) (ag : List Rg) : T (List Ar) :=
    T.loop (Int × PUnit) ((0 : Int), PUnit.unit) fun (x : Int × PUnit) => T.br (decide (Prod.fst x < (Nat.cast (R := Int) (List.length ag)))) (T.need ((0 : Int) ≤ Prod.fst x) (T.need (Prod.fst x < (Nat.cast (R := Int) (List.length ag))) (T.need ((0 : Int) ≤ Prod.fst x) (T.need (Prod.fst x < (Nat.cast (R := Int) (List.length sc))) (T.br (decide (Rg.lo (List.getD ag (Int.toNat (Prod.fst x)) { lo := (0 : Int), hi := (0 : Int) }) < Scale.least (List.getD sc (Int.toNat (Prod.fst x)) { vol := (0 : Int), l := (0 : Int), h := (0 : Int), least := (0 : Int) }))) (T.ret (Sum.inr [Ar.c (D.int IntKind.i64 (Prod.fst x))])) (T.ret (Sum.inl (IntKind.wrap IntKind.i64 (Prod.fst x + (1 : Int)), PUnit.unit)))))))) (T.ret (Sum.inr [Ar.c (D.int IntKind.i64 (-1 : Int))]))
theorem t143 (q_sc : Bool) (sc : List Scale) (new : Int) (q_ag : Bool) (ag : List Rg) : runFnX Try.prog G0 (lookS []) (fun _ => [(2, [.slot 9 (.int .i64)], none)]) [] 1 40 3 143 Try.f143 [.agg [.sl q_sc sc.length 4 (eSc.F sc), dI new], .c (.sl q_ag ag.length 2 (eRg.F ag))] =
    tr143 q_sc sc new q_ag ag := by kernel_rfl
def tr174 (n b : Int) : T (List Ar) :=
    T.need (b ≠ (0 : Int)) (T.need (b ≠ (0 : Int)) (T.br (decide (Int.tmod n b < (0 : Int))) (T.ret [Ar.c (D.int IntKind.i64 (IntKind.wrap IntKind.i64 (IntKind.wrap IntKind.i64 (Int.tdiv n b) - (1 : Int))))]) (T.ret [Ar.c (D.int IntKind.i64 (IntKind.wrap IntKind.i64 (Int.tdiv n b)))])))
theorem t174 (n b : Int) : runFnX Try.prog G0 (lookS []) (fun _ => []) [] 1 40 3 174 Try.f174 [.c (dI n), .c (dI b)] =
    tr174 n b := by kernel_rfl
def tr173 (a b f v : Int) (F : Nat → D) : T (List Ar) :=
    T.ret [Ar.c (D.int IntKind.i64 (IntKind.wrap IntKind.i64 (IntKind.wrap IntKind.i64 (IntKind.wrap IntKind.i64 (v - f) * a) + IntKind.wrap IntKind.i64 (f * b))))]
theorem t173 (a b f v : Int) (F : Nat → D) : runFnX Try.prog G0 (lookS []) (fun _ => []) [] 1 40 3 173 Try.f173 [.c (dI a), .c (dI b), .c (dI f), .ptr 4 (fun j => match j with | 0 => dI v | _ => F j)] =
    tr173 a b f v F := by kernel_rfl
theorem w66 (q : Bool) (sc : List Scale) (nw : Int) (qa : Bool) (ag : List Rg) (h1 : ag.length ≤ 100000) : (tr66 q sc nw qa ag).wp (fun rs => rsEqv rs [rI (M.agesErr sc.length ag)]) := by
  unfold tr66
  refine wp_br (fun hb => ?_) (fun hb => ?_)
  · have e : M.agesErr sc.length ag = 10 := by unfold M.agesErr; rw [show ((ag.length : Int) != (sc.length : Int)) = true from hb]; rfl
    rw [e]; exact rsEqv_refl _
  · have e : M.agesErr sc.length ag = (M.badFrom (fun k => M.rgErr (ag.getD k dfR).lo (ag.getD k dfR).hi 100000) (ag.length - 0) 0).2 := by unfold M.agesErr; rw [show ((ag.length : Int) != (sc.length : Int)) = false from hb]; rfl
    rw [e]
    refine range_wp (n := ag.length) (fun k _ => M.badFrom (fun k => M.rgErr (ag.getD k dfR).lo (ag.getD k dfR).hi 100000) (ag.length - 0) 0 = M.badFrom (fun k => M.rgErr (ag.getD k dfR).lo (ag.getD k dfR).hi 100000) (ag.length - k) k) rfl ?_
    rintro k u hk hI
    refine wp_br (fun hb => ?_) (fun hb => ?_)
    · have hlt := lt_of_dec hb
      refine ⟨by show (0 : Int) ≤ k; omega, by show (k : Int) < ag.length; omega, wp_br (fun hc => ?_) (fun hc => ?_)⟩
      · have hc : (M.rgErr (ag.getD k dfR).lo (ag.getD k dfR).hi 100000 != 0) = true := hc
        have hc := bne_iff_ne.1 hc
        rw [hI, bad_hit (f := fun k => M.rgErr (ag.getD k dfR).lo (ag.getD k dfR).hi 100000) hlt hc]; exact rsEqv_refl _
      · have hc : (M.rgErr (ag.getD k dfR).lo (ag.getD k dfR).hi 100000 != 0) = false := hc
        have hc : M.rgErr (ag.getD k dfR).lo (ag.getD k dfR).hi 100000 = 0 := by simpa using hc
        exact ⟨hlt, wrap_succ (by omega), hI.trans (bad_next (f := fun k => M.rgErr (ag.getD k dfR).lo (ag.getD k dfR).hi 100000) hlt hc)⟩
    · have hge := ge_of_dec hb
      obtain rfl : k = ag.length := by omega
      rw [hI, Nat.sub_self]; exact rsEqv_refl _
def dom66 : DomF
  | [.agg [.sl _ n_sc st_sc F_sc, .int .i64 new], .c (.sl _ n_ag st_ag F_ag)] => (match Nat.beq st_sc 4 && Nat.beq st_ag 2 with
    | true => some ([eSc.Is n_sc F_sc, eRg.Is n_ag F_ag, (eRg.list n_ag F_ag).length ≤ 100000], [rI (M.agesErr (eSc.list n_sc F_sc).length (eRg.list n_ag F_ag))])
    | _ => none)
  | _ => none
def v66 : Nat × Sm := (66, fokSm dom66)
theorem C66 : FOK Try.prog G0 gw 66 dom66 := by
  intro ags p r hd hp κ w xs hw hl hG hx
  unfold dom66 at hd
  split at hd
  · rename_i q_sc n_sc st_sc F_sc new q_ag n_ag st_ag F_ag
    split at hd
    · rename_i hst
      simp only [Bool.and_eq_true] at hst
      obtain ⟨g1, g2⟩ := hst
      have g1 := Nat.eq_of_beq_eq_true g1
      have g2 := Nat.eq_of_beq_eq_true g2
      subst g1 g2
      simp only [Option.some.injEq, Prod.mk.injEq] at hd
      obtain ⟨rfl, rfl⟩ := hd
      obtain ⟨hI_sc, hI_ag, hp⟩ := hp
      have heq : agsEqv [.agg [.sl q_sc n_sc 4 F_sc, .int .i64 new], .c (.sl q_ag n_ag 2 F_ag)] [.agg [.sl q_sc (eSc.list n_sc F_sc).length 4 (eSc.F (eSc.list n_sc F_sc)), .int .i64 new], .c (.sl q_ag (eRg.list n_ag F_ag).length 2 (eRg.F (eRg.list n_ag F_ag)))] := ⟨⟨eSc.to id hI_sc, rfl, trivial⟩, eRg.to id hI_ag, trivial⟩
      have len_sc : (eSc.list n_sc F_sc).length = n_sc := eSc.list_len
      have len_ag : (eRg.list n_ag F_ag).length = n_ag := eRg.list_len
      generalize eSc.list n_sc F_sc = sc at *
      generalize eRg.list n_ag F_ag = ag at *
      subst len_sc len_ag
      exact fokX_fin mixed gw_stable (sl := [v113]) ⟨S113, trivial⟩ Try.func66 hw hl hG hx heq rfl (t66 _ _ _ _ _) (w66 _ _ _ _ _ hp.1)
    · cases hd
  · cases hd
theorem S66 : SumOK Try.prog G0 gw 66 (fokSm dom66) := fok_sum Try.func66 rfl C66
theorem w142 (q : Bool) (sc : List Scale) (nw : Int) (qa : Bool) (ag : List Rg) (h1 : ag.length ≤ 100000) : (tr142 q sc nw qa ag).wp (fun rs => rsEqv rs [rI (M.agesErr sc.length ag)]) := by
  unfold tr142
  refine wp_br (fun hb => ?_) (fun hb => ?_)
  · have e : M.agesErr sc.length ag = 10 := by unfold M.agesErr; rw [show ((ag.length : Int) != (sc.length : Int)) = true from hb]; rfl
    rw [e]; exact rsEqv_refl _
  · have e : M.agesErr sc.length ag = (M.badFrom (fun k => M.rgErr (ag.getD k dfR).lo (ag.getD k dfR).hi 100000) (ag.length - 0) 0).2 := by unfold M.agesErr; rw [show ((ag.length : Int) != (sc.length : Int)) = false from hb]; rfl
    rw [e]
    refine range_wp (n := ag.length) (fun k _ => M.badFrom (fun k => M.rgErr (ag.getD k dfR).lo (ag.getD k dfR).hi 100000) (ag.length - 0) 0 = M.badFrom (fun k => M.rgErr (ag.getD k dfR).lo (ag.getD k dfR).hi 100000) (ag.length - k) k) rfl ?_
    rintro k u hk hI
    refine wp_br (fun hb => ?_) (fun hb => ?_)
    · have hlt := lt_of_dec hb
      refine ⟨by show (0 : Int) ≤ k; omega, by show (k : Int) < ag.length; omega, wp_br (fun hc => ?_) (fun hc => ?_)⟩
      · have hc : (M.rgErr (ag.getD k dfR).lo (ag.getD k dfR).hi 100000 != 0) = true := hc
        have hc := bne_iff_ne.1 hc
        rw [hI, bad_hit (f := fun k => M.rgErr (ag.getD k dfR).lo (ag.getD k dfR).hi 100000) hlt hc]; exact rsEqv_refl _
      · have hc : (M.rgErr (ag.getD k dfR).lo (ag.getD k dfR).hi 100000 != 0) = false := hc
        have hc : M.rgErr (ag.getD k dfR).lo (ag.getD k dfR).hi 100000 = 0 := by simpa using hc
        exact ⟨hlt, wrap_succ (by omega), hI.trans (bad_next (f := fun k => M.rgErr (ag.getD k dfR).lo (ag.getD k dfR).hi 100000) hlt hc)⟩
    · have hge := ge_of_dec hb
      obtain rfl : k = ag.length := by omega
      rw [hI, Nat.sub_self]; exact rsEqv_refl _
def dom142 : DomF
  | [.agg [.sl _ n_sc st_sc F_sc, .int .i64 new], .c (.sl _ n_ag st_ag F_ag)] => (match Nat.beq st_sc 4 && Nat.beq st_ag 2 with
    | true => some ([eSc.Is n_sc F_sc, eRg.Is n_ag F_ag, (eRg.list n_ag F_ag).length ≤ 100000], [rI (M.agesErr (eSc.list n_sc F_sc).length (eRg.list n_ag F_ag))])
    | _ => none)
  | _ => none
def v142 : Nat × Sm := (142, fokSm dom142)
theorem C142 : FOK Try.prog G0 gw 142 dom142 := by
  intro ags p r hd hp κ w xs hw hl hG hx
  unfold dom142 at hd
  split at hd
  · rename_i q_sc n_sc st_sc F_sc new q_ag n_ag st_ag F_ag
    split at hd
    · rename_i hst
      simp only [Bool.and_eq_true] at hst
      obtain ⟨g1, g2⟩ := hst
      have g1 := Nat.eq_of_beq_eq_true g1
      have g2 := Nat.eq_of_beq_eq_true g2
      subst g1 g2
      simp only [Option.some.injEq, Prod.mk.injEq] at hd
      obtain ⟨rfl, rfl⟩ := hd
      obtain ⟨hI_sc, hI_ag, hp⟩ := hp
      have heq : agsEqv [.agg [.sl q_sc n_sc 4 F_sc, .int .i64 new], .c (.sl q_ag n_ag 2 F_ag)] [.agg [.sl q_sc (eSc.list n_sc F_sc).length 4 (eSc.F (eSc.list n_sc F_sc)), .int .i64 new], .c (.sl q_ag (eRg.list n_ag F_ag).length 2 (eRg.F (eRg.list n_ag F_ag)))] := ⟨⟨eSc.to id hI_sc, rfl, trivial⟩, eRg.to id hI_ag, trivial⟩
      have len_sc : (eSc.list n_sc F_sc).length = n_sc := eSc.list_len
      have len_ag : (eRg.list n_ag F_ag).length = n_ag := eRg.list_len
      generalize eSc.list n_sc F_sc = sc at *
      generalize eRg.list n_ag F_ag = ag at *
      subst len_sc len_ag
      exact fokX_fin mixed gw_stable (sl := [v106]) ⟨S106, trivial⟩ Try.func142 hw hl hG hx heq rfl (t142 _ _ _ _ _) (w142 _ _ _ _ _ hp.1)
    · cases hd
  · cases hd
theorem S142 : SumOK Try.prog G0 gw 142 (fokSm dom142) := fok_sum Try.func142 rfl C142
theorem w143 (q : Bool) (sc : List Scale) (nw : Int) (qa : Bool) (ag : List Rg) (h1 : ag.length ≤ sc.length) (h2 : sc.length ≤ 100000) : (tr143 q sc nw qa ag).wp (fun rs => rsEqv rs [rI (M.short sc ag)]) := by
  unfold tr143
  refine range_wp (n := ag.length) (fun k _ => M.short sc ag = M.firstIdx (fun k => decide ((ag.getD k dfR).lo < (sc.getD k dfS).least)) (ag.length - k) k) rfl ?_
  rintro k s hk hI
  refine wp_br (fun hb => ?_) (fun hb => ?_)
  · have hlt := lt_of_dec hb
    have hs := idx_step (p := fun k => decide ((ag.getD k dfR).lo < (sc.getD k dfS).least)) hlt
    refine ⟨by show (0 : Int) ≤ k; omega, by show (k : Int) < ag.length; omega, by show (0 : Int) ≤ k; omega, by show (k : Int) < sc.length; omega, wp_br (fun hx => ?_) (fun hx => ?_)⟩
    · have hx : decide ((ag.getD k dfR).lo < (sc.getD k dfS).least) = true := hx
      simp only [hx, cond_true] at hs
      show rsEqv [rI (k : Int)] _
      rw [hI, hs]; exact rsEqv_refl _
    · have hx : decide ((ag.getD k dfR).lo < (sc.getD k dfS).least) = false := hx
      simp only [hx, cond_false] at hs
      exact ⟨hlt, wrap_succ (by omega), hI.trans hs⟩
  · have hge := ge_of_dec hb
    obtain rfl : k = ag.length := by omega
    rw [hI, Nat.sub_self]; exact rsEqv_refl _
theorem w174 (n b : Int) (h : b ≠ 0) : (tr174 n b).wp (fun rs => rsEqv rs [rI (M.floorW n b)]) := by
  unfold tr174
  refine ⟨h, h, wp_br (fun hb => ?_) (fun hb => ?_)⟩
  all_goals (refine rI_eqv' ?_; unfold M.floorW; rw [hb]; rfl)
def dom27 : DomF
  | [.agg [.sl _ n_sc st_sc F_sc, .int .i64 new]] => (match Nat.beq st_sc 4 with
    | true => some ([eSc.Is n_sc F_sc], [rB (decide (((eSc.list n_sc F_sc).length : Int) ≤ 6))])
    | _ => none)
  | _ => none
def v27 : Nat × Sm := (27, fokSm dom27)
theorem C27 : FOK Try.prog G0 gw 27 dom27 := by
  intro ags p r hd hp κ w xs hw hl hG hx
  unfold dom27 at hd
  split at hd
  · rename_i q_sc n_sc st_sc F_sc new
    split at hd
    · rename_i hst
      have g1 := hst
      have g1 := Nat.eq_of_beq_eq_true g1
      subst g1
      simp only [Option.some.injEq, Prod.mk.injEq] at hd
      obtain ⟨rfl, rfl⟩ := hd
      obtain ⟨hI_sc, hp⟩ := hp
      have heq : agsEqv [.agg [.sl q_sc n_sc 4 F_sc, .int .i64 new]] [.agg [.sl q_sc (eSc.list n_sc F_sc).length 4 (eSc.F (eSc.list n_sc F_sc)), .int .i64 new]] := ⟨⟨eSc.to id hI_sc, rfl, trivial⟩, trivial⟩
      have len_sc : (eSc.list n_sc F_sc).length = n_sc := eSc.list_len
      generalize eSc.list n_sc F_sc = sc at *
      subst len_sc
      exact fokX_fin mixed gw_stable (sl := []) trivial Try.func27 hw hl hG hx heq rfl (t27 _ _ _) (rsEqv_refl _)
    · cases hd
  · cases hd
theorem S27 : SumOK Try.prog G0 gw 27 (fokSm dom27) := fok_sum Try.func27 rfl C27
def dom143 : DomF
  | [.agg [.sl _ n_sc st_sc F_sc, .int .i64 new], .c (.sl _ n_ag st_ag F_ag)] => (match Nat.beq st_sc 4 && Nat.beq st_ag 2 with
    | true => some ([eSc.Is n_sc F_sc, eRg.Is n_ag F_ag, (eRg.list n_ag F_ag).length ≤ (eSc.list n_sc F_sc).length, (eSc.list n_sc F_sc).length ≤ 100000], [rI (M.short (eSc.list n_sc F_sc) (eRg.list n_ag F_ag))])
    | _ => none)
  | _ => none
def v143 : Nat × Sm := (143, fokSm dom143)
theorem C143 : FOK Try.prog G0 gw 143 dom143 := by
  intro ags p r hd hp κ w xs hw hl hG hx
  unfold dom143 at hd
  split at hd
  · rename_i q_sc n_sc st_sc F_sc new q_ag n_ag st_ag F_ag
    split at hd
    · rename_i hst
      simp only [Bool.and_eq_true] at hst
      obtain ⟨g1, g2⟩ := hst
      have g1 := Nat.eq_of_beq_eq_true g1
      have g2 := Nat.eq_of_beq_eq_true g2
      subst g1 g2
      simp only [Option.some.injEq, Prod.mk.injEq] at hd
      obtain ⟨rfl, rfl⟩ := hd
      obtain ⟨hI_sc, hI_ag, hp⟩ := hp
      have heq : agsEqv [.agg [.sl q_sc n_sc 4 F_sc, .int .i64 new], .c (.sl q_ag n_ag 2 F_ag)] [.agg [.sl q_sc (eSc.list n_sc F_sc).length 4 (eSc.F (eSc.list n_sc F_sc)), .int .i64 new], .c (.sl q_ag (eRg.list n_ag F_ag).length 2 (eRg.F (eRg.list n_ag F_ag)))] := ⟨⟨eSc.to id hI_sc, rfl, trivial⟩, eRg.to id hI_ag, trivial⟩
      have len_sc : (eSc.list n_sc F_sc).length = n_sc := eSc.list_len
      have len_ag : (eRg.list n_ag F_ag).length = n_ag := eRg.list_len
      generalize eSc.list n_sc F_sc = sc at *
      generalize eRg.list n_ag F_ag = ag at *
      subst len_sc len_ag
      exact fokX_fin mixed gw_stable (sl := []) trivial Try.func143 hw hl hG hx heq rfl (t143 _ _ _ _ _) (w143 _ _ _ _ _ hp.1 hp.2.1)
    · cases hd
  · cases hd
theorem S143 : SumOK Try.prog G0 gw 143 (fokSm dom143) := fok_sum Try.func143 rfl C143
def dom174 : DomF
  | [.c (.int .i64 n), .c (.int .i64 b)] => some ([b ≠ 0], [rI (M.floorW n b)])
  | _ => none
def v174 : Nat × Sm := (174, fokSm dom174)
theorem C174 : FOK Try.prog G0 gw 174 dom174 := by
  intro ags p r hd hp κ w xs hw hl hG hx
  unfold dom174 at hd
  split at hd
  · rename_i n b
    simp only [Option.some.injEq, Prod.mk.injEq] at hd
    obtain ⟨rfl, rfl⟩ := hd
    have heq : agsEqv [.c (.int .i64 n), .c (.int .i64 b)] [.c (.int .i64 n), .c (.int .i64 b)] := ⟨Ag.eqv_refl _, Ag.eqv_refl _, trivial⟩
    exact fokX_fin mixed gw_stable (sl := []) trivial Try.func174 hw hl hG hx heq rfl (t174 _ _) (w174 _ _ hp.1)
  · cases hd
theorem S174 : SumOK Try.prog G0 gw 174 (fokSm dom174) := fok_sum Try.func174 rfl C174
theorem t175 (n b : Int) : runFnX Try.prog G0 (lookS [v174]) (fun _ => []) [] 1 40 3 175 Try.f175 [.c (dI n), .c (dI b)] = T.need (b ≠ 0) (T.ret [rI (M.ceilW n b)]) := by kernel_rfl
def dom175 : DomF
  | [.c (.int .i64 n), .c (.int .i64 b)] => some ([b ≠ 0], [rI (M.ceilW n b)])
  | _ => none
def v175 : Nat × Sm := (175, fokSm dom175)
theorem C175 : FOK Try.prog G0 gw 175 dom175 := by
  intro ags p r hd hp κ w xs hw hl hG hx
  unfold dom175 at hd
  split at hd
  · rename_i n b
    simp only [Option.some.injEq, Prod.mk.injEq] at hd
    obtain ⟨rfl, rfl⟩ := hd
    have heq : agsEqv [.c (.int .i64 n), .c (.int .i64 b)] [.c (.int .i64 n), .c (.int .i64 b)] := ⟨Ag.eqv_refl _, Ag.eqv_refl _, trivial⟩
    exact fokX_fin mixed gw_stable (sl := [v174]) ⟨S174, trivial⟩ Try.func175 hw hl hG hx heq rfl (t175 _ _) (⟨hp.1, rsEqv_refl _⟩)
  · cases hd
theorem S175 : SumOK Try.prog G0 gw 175 (fokSm dom175) := fok_sum Try.func175 rfl C175
def dom173 : DomF
  | [.c (.int .i64 a), .c (.int .i64 b), .c (.int .i64 f), .ptr 4 G] => (match G 0 with
    | .int .i64 v => some ([], [rI (M.mixed v f a b)])
    | _ => none)
  | _ => none
def v173 : Nat × Sm := (173, fokSm dom173)
theorem C173 : FOK Try.prog G0 gw 173 dom173 := by
  intro ags p r hd hp κ w xs hw hl hG hx
  unfold dom173 at hd
  split at hd
  · rename_i a b f G
    split at hd
    · rename_i v hG0
      simp only [Option.some.injEq, Prod.mk.injEq] at hd
      obtain ⟨rfl, rfl⟩ := hd
      have heq : agsEqv [.c (.int .i64 a), .c (.int .i64 b), .c (.int .i64 f), .ptr 4 G] [.c (.int .i64 a), .c (.int .i64 b), .c (.int .i64 f), .ptr 4 (fun j => match j with | 0 => dI v | _ => G j)] := by
        refine ⟨Ag.eqv_refl _, Ag.eqv_refl _, Ag.eqv_refl _, ⟨rfl, fun j hj => ?_⟩, trivial⟩
        cases j with
        | zero => rw [hG0]; exact D.eqv_refl _
        | succ j => exact D.eqv_refl _
      exact fokX_fin mixed gw_stable (sl := []) trivial Try.func173 hw hl hG hx heq rfl (t173 a b f v G) (rsEqv_refl _)
    · cases hd
  · cases hd
theorem S173 : SumOK Try.prog G0 gw 173 (fokSm dom173) := fok_sum Try.func173 rfl C173
end Go.Pl
end

section
set_option linter.unusedVariables false
set_option linter.unusedSimpArgs false
set_option maxRecDepth 100000
namespace Go.Pl
open Go.V Go.Proofs
namespace M
def mn (a b : Int) : Int := if b < a then b else a
def mx (a b : Int) : Int := if b > a then b else a
def yearK (v : Int) (f a n : Rg) : Rg := ⟨IntKind.i64.wrap (floorW (mn (mixed v f.lo a.lo n.lo) (mixed v f.hi a.lo n.lo)) v + 1000), IntKind.i64.wrap (ceilW (mx (mixed v f.lo a.hi n.hi) (mixed v f.hi a.hi n.hi)) v + 1000)⟩
def nextR (ag : List Rg) (nw : Int) (k : Nat) : Rg := if k + 1 < ag.length then ag.getD (k + 1) dfR else ⟨nw, nw⟩
def year (sc : List Scale) (nw : Int) (ag fl : List Rg) : List Rg := (List.range sc.length).map fun k => yearK (sc.getD k dfS).vol (fl.getD k dfR) (ag.getD k dfR) (nextR ag nw k)
end M
theorem year_len (sc : List Scale) (nw : Int) (ag fl : List Rg) : (M.year sc nw ag fl).length = sc.length := by simp [M.year]
theorem year_get {sc : List Scale} {nw : Int} {ag fl : List Rg} {k : Nat} (h : k < sc.length) : (M.year sc nw ag fl).getD k dfR = M.yearK (sc.getD k dfS).vol (fl.getD k dfR) (ag.getD k dfR) (M.nextR ag nw k) := by simp [M.year, h]
def tr144 (q_sc : Bool) (sc : List Scale) (new : Int) (q_ag : Bool) (ag : List Rg) (q_fl : Bool) (fl : List Rg) : T (List Ar) :=
    T.loop2 (Int × PUnit × PUnit) (Int × List Rg × PUnit) (Sum.inl ((0 : Int), PUnit.unit, PUnit.unit)) (fun (x : Int × PUnit × PUnit) => T.br (decide (Prod.fst x < (Nat.cast (R := Int) (List.length sc)))) (T.need ((0 : Int) ≤ Prod.fst x) (T.need (Prod.fst x < (Nat.cast (R := Int) (List.length sc))) (T.br (decide (IntKind.i64.wrap (Prod.fst x + (1 : Int)) < (Nat.cast (R := Int) (List.length ag)))) (T.need ((0 : Int) ≤ IntKind.i64.wrap (Prod.fst x + (1 : Int))) (T.need (IntKind.i64.wrap (Prod.fst x + (1 : Int)) < (Nat.cast (R := Int) (List.length ag))) (T.need ((0 : Int) ≤ Prod.fst x) (T.need (Prod.fst x < (Nat.cast (R := Int) (List.length ag))) (T.need ((0 : Int) ≤ Prod.fst x) (T.need (Prod.fst x < (Nat.cast (R := Int) (List.length fl))) (T.need ((0 : Int) ≤ Prod.fst x) (T.need (Prod.fst x < (Nat.cast (R := Int) (List.length ag))) (T.need ((0 : Int) ≤ Prod.fst x) (T.need (Prod.fst x < (Nat.cast (R := Int) (List.length fl))) (T.need ((0 : Int) ≤ Prod.fst x) (T.need (Prod.fst x < (Nat.cast (R := Int) (List.length ag))) (T.need ((0 : Int) ≤ Prod.fst x) (T.need (Prod.fst x < (Nat.cast (R := Int) (List.length fl))) (T.need ((0 : Int) ≤ Prod.fst x) (T.need (Prod.fst x < (Nat.cast (R := Int) (List.length ag))) (T.need ((0 : Int) ≤ Prod.fst x) (T.need (Prod.fst x < (Nat.cast (R := Int) (List.length fl))) (T.need (Scale.vol (List.getD sc (Int.toNat (Prod.fst x)) dfS) ≠ (0 : Int)) (T.need (Scale.vol (List.getD sc (Int.toNat (Prod.fst x)) dfS) ≠ (0 : Int)) (T.need ((1 : Nat) ≤ (1000000 : Nat)) (T.need (Enc.Is eRg (1 : Nat) (joinF (0 : Nat) (fun (x x_1 : Nat) => D.nilp) fun (i j : Nat) => List.getD [D.int IntKind.i64 (IntKind.i64.wrap (M.floorW (if M.mixed (Scale.vol (List.getD sc (Int.toNat (Prod.fst x)) dfS)) (Rg.hi (List.getD fl (Int.toNat (Prod.fst x)) dfR)) (Rg.lo (List.getD ag (Int.toNat (Prod.fst x)) dfR)) (Rg.lo (List.getD ag (Int.toNat (IntKind.i64.wrap (Prod.fst x + (1 : Int)))) dfR)) < M.mixed (Scale.vol (List.getD sc (Int.toNat (Prod.fst x)) dfS)) (Rg.lo (List.getD fl (Int.toNat (Prod.fst x)) dfR)) (Rg.lo (List.getD ag (Int.toNat (Prod.fst x)) dfR)) (Rg.lo (List.getD ag (Int.toNat (IntKind.i64.wrap (Prod.fst x + (1 : Int)))) dfR)) then M.mixed (Scale.vol (List.getD sc (Int.toNat (Prod.fst x)) dfS)) (Rg.hi (List.getD fl (Int.toNat (Prod.fst x)) dfR)) (Rg.lo (List.getD ag (Int.toNat (Prod.fst x)) dfR)) (Rg.lo (List.getD ag (Int.toNat (IntKind.i64.wrap (Prod.fst x + (1 : Int)))) dfR)) else M.mixed (Scale.vol (List.getD sc (Int.toNat (Prod.fst x)) dfS)) (Rg.lo (List.getD fl (Int.toNat (Prod.fst x)) dfR)) (Rg.lo (List.getD ag (Int.toNat (Prod.fst x)) dfR)) (Rg.lo (List.getD ag (Int.toNat (IntKind.i64.wrap (Prod.fst x + (1 : Int)))) dfR))) (Scale.vol (List.getD sc (Int.toNat (Prod.fst x)) dfS)) + (1000 : Int))), D.int IntKind.i64 (IntKind.i64.wrap (M.ceilW (if M.mixed (Scale.vol (List.getD sc (Int.toNat (Prod.fst x)) dfS)) (Rg.hi (List.getD fl (Int.toNat (Prod.fst x)) dfR)) (Rg.hi (List.getD ag (Int.toNat (Prod.fst x)) dfR)) (Rg.hi (List.getD ag (Int.toNat (IntKind.i64.wrap (Prod.fst x + (1 : Int)))) dfR)) > M.mixed (Scale.vol (List.getD sc (Int.toNat (Prod.fst x)) dfS)) (Rg.lo (List.getD fl (Int.toNat (Prod.fst x)) dfR)) (Rg.hi (List.getD ag (Int.toNat (Prod.fst x)) dfR)) (Rg.hi (List.getD ag (Int.toNat (IntKind.i64.wrap (Prod.fst x + (1 : Int)))) dfR)) then M.mixed (Scale.vol (List.getD sc (Int.toNat (Prod.fst x)) dfS)) (Rg.hi (List.getD fl (Int.toNat (Prod.fst x)) dfR)) (Rg.hi (List.getD ag (Int.toNat (Prod.fst x)) dfR)) (Rg.hi (List.getD ag (Int.toNat (IntKind.i64.wrap (Prod.fst x + (1 : Int)))) dfR)) else M.mixed (Scale.vol (List.getD sc (Int.toNat (Prod.fst x)) dfS)) (Rg.lo (List.getD fl (Int.toNat (Prod.fst x)) dfR)) (Rg.hi (List.getD ag (Int.toNat (Prod.fst x)) dfR)) (Rg.hi (List.getD ag (Int.toNat (IntKind.i64.wrap (Prod.fst x + (1 : Int)))) dfR))) (Scale.vol (List.getD sc (Int.toNat (Prod.fst x)) dfS)) + (1000 : Int)))] (i * (2 : Nat) + j) D.nilp)) (T.need ((1 : Nat) ≤ (1 : Nat)) (T.ret (Sum.inl (Sum.inr (IntKind.i64.wrap (Prod.fst x + (1 : Int)), Enc.list eRg (1 : Nat) (joinF (0 : Nat) (fun (x x_1 : Nat) => D.nilp) fun (i j : Nat) => List.getD [D.int IntKind.i64 (IntKind.i64.wrap (M.floorW (if M.mixed (Scale.vol (List.getD sc (Int.toNat (Prod.fst x)) dfS)) (Rg.hi (List.getD fl (Int.toNat (Prod.fst x)) dfR)) (Rg.lo (List.getD ag (Int.toNat (Prod.fst x)) dfR)) (Rg.lo (List.getD ag (Int.toNat (IntKind.i64.wrap (Prod.fst x + (1 : Int)))) dfR)) < M.mixed (Scale.vol (List.getD sc (Int.toNat (Prod.fst x)) dfS)) (Rg.lo (List.getD fl (Int.toNat (Prod.fst x)) dfR)) (Rg.lo (List.getD ag (Int.toNat (Prod.fst x)) dfR)) (Rg.lo (List.getD ag (Int.toNat (IntKind.i64.wrap (Prod.fst x + (1 : Int)))) dfR)) then M.mixed (Scale.vol (List.getD sc (Int.toNat (Prod.fst x)) dfS)) (Rg.hi (List.getD fl (Int.toNat (Prod.fst x)) dfR)) (Rg.lo (List.getD ag (Int.toNat (Prod.fst x)) dfR)) (Rg.lo (List.getD ag (Int.toNat (IntKind.i64.wrap (Prod.fst x + (1 : Int)))) dfR)) else M.mixed (Scale.vol (List.getD sc (Int.toNat (Prod.fst x)) dfS)) (Rg.lo (List.getD fl (Int.toNat (Prod.fst x)) dfR)) (Rg.lo (List.getD ag (Int.toNat (Prod.fst x)) dfR)) (Rg.lo (List.getD ag (Int.toNat (IntKind.i64.wrap (Prod.fst x + (1 : Int)))) dfR))) (Scale.vol (List.getD sc (Int.toNat (Prod.fst x)) dfS)) + (1000 : Int))), D.int IntKind.i64 (IntKind.i64.wrap (M.ceilW (if M.mixed (Scale.vol (List.getD sc (Int.toNat (Prod.fst x)) dfS)) (Rg.hi (List.getD fl (Int.toNat (Prod.fst x)) dfR)) (Rg.hi (List.getD ag (Int.toNat (Prod.fst x)) dfR)) (Rg.hi (List.getD ag (Int.toNat (IntKind.i64.wrap (Prod.fst x + (1 : Int)))) dfR)) > M.mixed (Scale.vol (List.getD sc (Int.toNat (Prod.fst x)) dfS)) (Rg.lo (List.getD fl (Int.toNat (Prod.fst x)) dfR)) (Rg.hi (List.getD ag (Int.toNat (Prod.fst x)) dfR)) (Rg.hi (List.getD ag (Int.toNat (IntKind.i64.wrap (Prod.fst x + (1 : Int)))) dfR)) then M.mixed (Scale.vol (List.getD sc (Int.toNat (Prod.fst x)) dfS)) (Rg.hi (List.getD fl (Int.toNat (Prod.fst x)) dfR)) (Rg.hi (List.getD ag (Int.toNat (Prod.fst x)) dfR)) (Rg.hi (List.getD ag (Int.toNat (IntKind.i64.wrap (Prod.fst x + (1 : Int)))) dfR)) else M.mixed (Scale.vol (List.getD sc (Int.toNat (Prod.fst x)) dfS)) (Rg.lo (List.getD fl (Int.toNat (Prod.fst x)) dfR)) (Rg.hi (List.getD ag (Int.toNat (Prod.fst x)) dfR)) (Rg.hi (List.getD ag (Int.toNat (IntKind.i64.wrap (Prod.fst x + (1 : Int)))) dfR))) (Scale.vol (List.getD sc (Int.toNat (Prod.fst x)) dfS)) + (1000 : Int)))] (i * (2 : Nat) + j) D.nilp), PUnit.unit))))))))))))))))))))))))))) (T.need ((0 : Int) ≤ Prod.fst x) (T.need (Prod.fst x < (Nat.cast (R := Int) (List.length ag))) (T.need ((0 : Int) ≤ Prod.fst x) (T.need (Prod.fst x < (Nat.cast (R := Int) (List.length fl))) (T.need ((0 : Int) ≤ Prod.fst x) (T.need (Prod.fst x < (Nat.cast (R := Int) (List.length ag))) (T.need ((0 : Int) ≤ Prod.fst x) (T.need (Prod.fst x < (Nat.cast (R := Int) (List.length fl))) (T.need ((0 : Int) ≤ Prod.fst x) (T.need (Prod.fst x < (Nat.cast (R := Int) (List.length ag))) (T.need ((0 : Int) ≤ Prod.fst x) (T.need (Prod.fst x < (Nat.cast (R := Int) (List.length fl))) (T.need ((0 : Int) ≤ Prod.fst x) (T.need (Prod.fst x < (Nat.cast (R := Int) (List.length ag))) (T.need ((0 : Int) ≤ Prod.fst x) (T.need (Prod.fst x < (Nat.cast (R := Int) (List.length fl))) (T.need (Scale.vol (List.getD sc (Int.toNat (Prod.fst x)) dfS) ≠ (0 : Int)) (T.need (Scale.vol (List.getD sc (Int.toNat (Prod.fst x)) dfS) ≠ (0 : Int)) (T.need ((1 : Nat) ≤ (1000000 : Nat)) (T.need (Enc.Is eRg (1 : Nat) (joinF (0 : Nat) (fun (x x_1 : Nat) => D.nilp) fun (i j : Nat) => List.getD [D.int IntKind.i64 (IntKind.i64.wrap (M.floorW (if M.mixed (Scale.vol (List.getD sc (Int.toNat (Prod.fst x)) dfS)) (Rg.hi (List.getD fl (Int.toNat (Prod.fst x)) dfR)) (Rg.lo (List.getD ag (Int.toNat (Prod.fst x)) dfR)) new < M.mixed (Scale.vol (List.getD sc (Int.toNat (Prod.fst x)) dfS)) (Rg.lo (List.getD fl (Int.toNat (Prod.fst x)) dfR)) (Rg.lo (List.getD ag (Int.toNat (Prod.fst x)) dfR)) new then M.mixed (Scale.vol (List.getD sc (Int.toNat (Prod.fst x)) dfS)) (Rg.hi (List.getD fl (Int.toNat (Prod.fst x)) dfR)) (Rg.lo (List.getD ag (Int.toNat (Prod.fst x)) dfR)) new else M.mixed (Scale.vol (List.getD sc (Int.toNat (Prod.fst x)) dfS)) (Rg.lo (List.getD fl (Int.toNat (Prod.fst x)) dfR)) (Rg.lo (List.getD ag (Int.toNat (Prod.fst x)) dfR)) new) (Scale.vol (List.getD sc (Int.toNat (Prod.fst x)) dfS)) + (1000 : Int))), D.int IntKind.i64 (IntKind.i64.wrap (M.ceilW (if M.mixed (Scale.vol (List.getD sc (Int.toNat (Prod.fst x)) dfS)) (Rg.hi (List.getD fl (Int.toNat (Prod.fst x)) dfR)) (Rg.hi (List.getD ag (Int.toNat (Prod.fst x)) dfR)) new > M.mixed (Scale.vol (List.getD sc (Int.toNat (Prod.fst x)) dfS)) (Rg.lo (List.getD fl (Int.toNat (Prod.fst x)) dfR)) (Rg.hi (List.getD ag (Int.toNat (Prod.fst x)) dfR)) new then M.mixed (Scale.vol (List.getD sc (Int.toNat (Prod.fst x)) dfS)) (Rg.hi (List.getD fl (Int.toNat (Prod.fst x)) dfR)) (Rg.hi (List.getD ag (Int.toNat (Prod.fst x)) dfR)) new else M.mixed (Scale.vol (List.getD sc (Int.toNat (Prod.fst x)) dfS)) (Rg.lo (List.getD fl (Int.toNat (Prod.fst x)) dfR)) (Rg.hi (List.getD ag (Int.toNat (Prod.fst x)) dfR)) new) (Scale.vol (List.getD sc (Int.toNat (Prod.fst x)) dfS)) + (1000 : Int)))] (i * (2 : Nat) + j) D.nilp)) (T.need ((1 : Nat) ≤ (1 : Nat)) (T.ret (Sum.inl (Sum.inr (IntKind.i64.wrap (Prod.fst x + (1 : Int)), Enc.list eRg (1 : Nat) (joinF (0 : Nat) (fun (x x_1 : Nat) => D.nilp) fun (i j : Nat) => List.getD [D.int IntKind.i64 (IntKind.i64.wrap (M.floorW (if M.mixed (Scale.vol (List.getD sc (Int.toNat (Prod.fst x)) dfS)) (Rg.hi (List.getD fl (Int.toNat (Prod.fst x)) dfR)) (Rg.lo (List.getD ag (Int.toNat (Prod.fst x)) dfR)) new < M.mixed (Scale.vol (List.getD sc (Int.toNat (Prod.fst x)) dfS)) (Rg.lo (List.getD fl (Int.toNat (Prod.fst x)) dfR)) (Rg.lo (List.getD ag (Int.toNat (Prod.fst x)) dfR)) new then M.mixed (Scale.vol (List.getD sc (Int.toNat (Prod.fst x)) dfS)) (Rg.hi (List.getD fl (Int.toNat (Prod.fst x)) dfR)) (Rg.lo (List.getD ag (Int.toNat (Prod.fst x)) dfR)) new else M.mixed (Scale.vol (List.getD sc (Int.toNat (Prod.fst x)) dfS)) (Rg.lo (List.getD fl (Int.toNat (Prod.fst x)) dfR)) (Rg.lo (List.getD ag (Int.toNat (Prod.fst x)) dfR)) new) (Scale.vol (List.getD sc (Int.toNat (Prod.fst x)) dfS)) + (1000 : Int))), D.int IntKind.i64 (IntKind.i64.wrap (M.ceilW (if M.mixed (Scale.vol (List.getD sc (Int.toNat (Prod.fst x)) dfS)) (Rg.hi (List.getD fl (Int.toNat (Prod.fst x)) dfR)) (Rg.hi (List.getD ag (Int.toNat (Prod.fst x)) dfR)) new > M.mixed (Scale.vol (List.getD sc (Int.toNat (Prod.fst x)) dfS)) (Rg.lo (List.getD fl (Int.toNat (Prod.fst x)) dfR)) (Rg.hi (List.getD ag (Int.toNat (Prod.fst x)) dfR)) new then M.mixed (Scale.vol (List.getD sc (Int.toNat (Prod.fst x)) dfS)) (Rg.hi (List.getD fl (Int.toNat (Prod.fst x)) dfR)) (Rg.hi (List.getD ag (Int.toNat (Prod.fst x)) dfR)) new else M.mixed (Scale.vol (List.getD sc (Int.toNat (Prod.fst x)) dfS)) (Rg.lo (List.getD fl (Int.toNat (Prod.fst x)) dfR)) (Rg.hi (List.getD ag (Int.toNat (Prod.fst x)) dfR)) new) (Scale.vol (List.getD sc (Int.toNat (Prod.fst x)) dfS)) + (1000 : Int)))] (i * (2 : Nat) + j) D.nilp), PUnit.unit)))))))))))))))))))))))))))) (T.ret (Sum.inr [Ar.c (D.sl false (0 : Nat) (0 : Nat) fun (x x_1 : Nat) => D.nilp)]))) fun (y : Int × List Rg × PUnit) => T.br (decide (Prod.fst y < (Nat.cast (R := Int) (List.length sc)))) (T.need ((0 : Int) ≤ Prod.fst y) (T.need (Prod.fst y < (Nat.cast (R := Int) (List.length sc))) (T.br (decide (IntKind.i64.wrap (Prod.fst y + (1 : Int)) < (Nat.cast (R := Int) (List.length ag)))) (T.need ((0 : Int) ≤ IntKind.i64.wrap (Prod.fst y + (1 : Int))) (T.need (IntKind.i64.wrap (Prod.fst y + (1 : Int)) < (Nat.cast (R := Int) (List.length ag))) (T.need ((0 : Int) ≤ Prod.fst y) (T.need (Prod.fst y < (Nat.cast (R := Int) (List.length ag))) (T.need ((0 : Int) ≤ Prod.fst y) (T.need (Prod.fst y < (Nat.cast (R := Int) (List.length fl))) (T.need ((0 : Int) ≤ Prod.fst y) (T.need (Prod.fst y < (Nat.cast (R := Int) (List.length ag))) (T.need ((0 : Int) ≤ Prod.fst y) (T.need (Prod.fst y < (Nat.cast (R := Int) (List.length fl))) (T.need ((0 : Int) ≤ Prod.fst y) (T.need (Prod.fst y < (Nat.cast (R := Int) (List.length ag))) (T.need ((0 : Int) ≤ Prod.fst y) (T.need (Prod.fst y < (Nat.cast (R := Int) (List.length fl))) (T.need ((0 : Int) ≤ Prod.fst y) (T.need (Prod.fst y < (Nat.cast (R := Int) (List.length ag))) (T.need ((0 : Int) ≤ Prod.fst y) (T.need (Prod.fst y < (Nat.cast (R := Int) (List.length fl))) (T.need (Scale.vol (List.getD sc (Int.toNat (Prod.fst y)) dfS) ≠ (0 : Int)) (T.need (Scale.vol (List.getD sc (Int.toNat (Prod.fst y)) dfS) ≠ (0 : Int)) (T.need (List.length (Prod.fst (Prod.snd y)) + (1 : Nat) ≤ (1000000 : Nat)) (T.need (List.length (Prod.fst (Prod.snd y)) ≤ List.length (Prod.fst (Prod.snd y))) (T.need (Enc.Is eRg (List.length (Prod.fst (Prod.snd y)) + (1 : Nat)) (joinF (List.length (Prod.fst (Prod.snd y))) (Enc.F eRg (Prod.fst (Prod.snd y))) fun (i j : Nat) => List.getD [D.int IntKind.i64 (IntKind.i64.wrap (M.floorW (if M.mixed (Scale.vol (List.getD sc (Int.toNat (Prod.fst y)) dfS)) (Rg.hi (List.getD fl (Int.toNat (Prod.fst y)) dfR)) (Rg.lo (List.getD ag (Int.toNat (Prod.fst y)) dfR)) (Rg.lo (List.getD ag (Int.toNat (IntKind.i64.wrap (Prod.fst y + (1 : Int)))) dfR)) < M.mixed (Scale.vol (List.getD sc (Int.toNat (Prod.fst y)) dfS)) (Rg.lo (List.getD fl (Int.toNat (Prod.fst y)) dfR)) (Rg.lo (List.getD ag (Int.toNat (Prod.fst y)) dfR)) (Rg.lo (List.getD ag (Int.toNat (IntKind.i64.wrap (Prod.fst y + (1 : Int)))) dfR)) then M.mixed (Scale.vol (List.getD sc (Int.toNat (Prod.fst y)) dfS)) (Rg.hi (List.getD fl (Int.toNat (Prod.fst y)) dfR)) (Rg.lo (List.getD ag (Int.toNat (Prod.fst y)) dfR)) (Rg.lo (List.getD ag (Int.toNat (IntKind.i64.wrap (Prod.fst y + (1 : Int)))) dfR)) else M.mixed (Scale.vol (List.getD sc (Int.toNat (Prod.fst y)) dfS)) (Rg.lo (List.getD fl (Int.toNat (Prod.fst y)) dfR)) (Rg.lo (List.getD ag (Int.toNat (Prod.fst y)) dfR)) (Rg.lo (List.getD ag (Int.toNat (IntKind.i64.wrap (Prod.fst y + (1 : Int)))) dfR))) (Scale.vol (List.getD sc (Int.toNat (Prod.fst y)) dfS)) + (1000 : Int))), D.int IntKind.i64 (IntKind.i64.wrap (M.ceilW (if M.mixed (Scale.vol (List.getD sc (Int.toNat (Prod.fst y)) dfS)) (Rg.hi (List.getD fl (Int.toNat (Prod.fst y)) dfR)) (Rg.hi (List.getD ag (Int.toNat (Prod.fst y)) dfR)) (Rg.hi (List.getD ag (Int.toNat (IntKind.i64.wrap (Prod.fst y + (1 : Int)))) dfR)) > M.mixed (Scale.vol (List.getD sc (Int.toNat (Prod.fst y)) dfS)) (Rg.lo (List.getD fl (Int.toNat (Prod.fst y)) dfR)) (Rg.hi (List.getD ag (Int.toNat (Prod.fst y)) dfR)) (Rg.hi (List.getD ag (Int.toNat (IntKind.i64.wrap (Prod.fst y + (1 : Int)))) dfR)) then M.mixed (Scale.vol (List.getD sc (Int.toNat (Prod.fst y)) dfS)) (Rg.hi (List.getD fl (Int.toNat (Prod.fst y)) dfR)) (Rg.hi (List.getD ag (Int.toNat (Prod.fst y)) dfR)) (Rg.hi (List.getD ag (Int.toNat (IntKind.i64.wrap (Prod.fst y + (1 : Int)))) dfR)) else M.mixed (Scale.vol (List.getD sc (Int.toNat (Prod.fst y)) dfS)) (Rg.lo (List.getD fl (Int.toNat (Prod.fst y)) dfR)) (Rg.hi (List.getD ag (Int.toNat (Prod.fst y)) dfR)) (Rg.hi (List.getD ag (Int.toNat (IntKind.i64.wrap (Prod.fst y + (1 : Int)))) dfR))) (Scale.vol (List.getD sc (Int.toNat (Prod.fst y)) dfS)) + (1000 : Int)))] (i * (2 : Nat) + j) D.nilp)) (T.need (List.length (Prod.fst (Prod.snd y)) + (1 : Nat) ≤ List.length (Prod.fst (Prod.snd y)) + (1 : Nat)) (T.ret (Sum.inl (Sum.inr (IntKind.i64.wrap (Prod.fst y + (1 : Int)), Enc.list eRg (List.length (Prod.fst (Prod.snd y)) + (1 : Nat)) (joinF (List.length (Prod.fst (Prod.snd y))) (Enc.F eRg (Prod.fst (Prod.snd y))) fun (i j : Nat) => List.getD [D.int IntKind.i64 (IntKind.i64.wrap (M.floorW (if M.mixed (Scale.vol (List.getD sc (Int.toNat (Prod.fst y)) dfS)) (Rg.hi (List.getD fl (Int.toNat (Prod.fst y)) dfR)) (Rg.lo (List.getD ag (Int.toNat (Prod.fst y)) dfR)) (Rg.lo (List.getD ag (Int.toNat (IntKind.i64.wrap (Prod.fst y + (1 : Int)))) dfR)) < M.mixed (Scale.vol (List.getD sc (Int.toNat (Prod.fst y)) dfS)) (Rg.lo (List.getD fl (Int.toNat (Prod.fst y)) dfR)) (Rg.lo (List.getD ag (Int.toNat (Prod.fst y)) dfR)) (Rg.lo (List.getD ag (Int.toNat (IntKind.i64.wrap (Prod.fst y + (1 : Int)))) dfR)) then M.mixed (Scale.vol (List.getD sc (Int.toNat (Prod.fst y)) dfS)) (Rg.hi (List.getD fl (Int.toNat (Prod.fst y)) dfR)) (Rg.lo (List.getD ag (Int.toNat (Prod.fst y)) dfR)) (Rg.lo (List.getD ag (Int.toNat (IntKind.i64.wrap (Prod.fst y + (1 : Int)))) dfR)) else M.mixed (Scale.vol (List.getD sc (Int.toNat (Prod.fst y)) dfS)) (Rg.lo (List.getD fl (Int.toNat (Prod.fst y)) dfR)) (Rg.lo (List.getD ag (Int.toNat (Prod.fst y)) dfR)) (Rg.lo (List.getD ag (Int.toNat (IntKind.i64.wrap (Prod.fst y + (1 : Int)))) dfR))) (Scale.vol (List.getD sc (Int.toNat (Prod.fst y)) dfS)) + (1000 : Int))), D.int IntKind.i64 (IntKind.i64.wrap (M.ceilW (if M.mixed (Scale.vol (List.getD sc (Int.toNat (Prod.fst y)) dfS)) (Rg.hi (List.getD fl (Int.toNat (Prod.fst y)) dfR)) (Rg.hi (List.getD ag (Int.toNat (Prod.fst y)) dfR)) (Rg.hi (List.getD ag (Int.toNat (IntKind.i64.wrap (Prod.fst y + (1 : Int)))) dfR)) > M.mixed (Scale.vol (List.getD sc (Int.toNat (Prod.fst y)) dfS)) (Rg.lo (List.getD fl (Int.toNat (Prod.fst y)) dfR)) (Rg.hi (List.getD ag (Int.toNat (Prod.fst y)) dfR)) (Rg.hi (List.getD ag (Int.toNat (IntKind.i64.wrap (Prod.fst y + (1 : Int)))) dfR)) then M.mixed (Scale.vol (List.getD sc (Int.toNat (Prod.fst y)) dfS)) (Rg.hi (List.getD fl (Int.toNat (Prod.fst y)) dfR)) (Rg.hi (List.getD ag (Int.toNat (Prod.fst y)) dfR)) (Rg.hi (List.getD ag (Int.toNat (IntKind.i64.wrap (Prod.fst y + (1 : Int)))) dfR)) else M.mixed (Scale.vol (List.getD sc (Int.toNat (Prod.fst y)) dfS)) (Rg.lo (List.getD fl (Int.toNat (Prod.fst y)) dfR)) (Rg.hi (List.getD ag (Int.toNat (Prod.fst y)) dfR)) (Rg.hi (List.getD ag (Int.toNat (IntKind.i64.wrap (Prod.fst y + (1 : Int)))) dfR))) (Scale.vol (List.getD sc (Int.toNat (Prod.fst y)) dfS)) + (1000 : Int)))] (i * (2 : Nat) + j) D.nilp), PUnit.unit)))))))))))))))))))))))))))) (T.need ((0 : Int) ≤ Prod.fst y) (T.need (Prod.fst y < (Nat.cast (R := Int) (List.length ag))) (T.need ((0 : Int) ≤ Prod.fst y) (T.need (Prod.fst y < (Nat.cast (R := Int) (List.length fl))) (T.need ((0 : Int) ≤ Prod.fst y) (T.need (Prod.fst y < (Nat.cast (R := Int) (List.length ag))) (T.need ((0 : Int) ≤ Prod.fst y) (T.need (Prod.fst y < (Nat.cast (R := Int) (List.length fl))) (T.need ((0 : Int) ≤ Prod.fst y) (T.need (Prod.fst y < (Nat.cast (R := Int) (List.length ag))) (T.need ((0 : Int) ≤ Prod.fst y) (T.need (Prod.fst y < (Nat.cast (R := Int) (List.length fl))) (T.need ((0 : Int) ≤ Prod.fst y) (T.need (Prod.fst y < (Nat.cast (R := Int) (List.length ag))) (T.need ((0 : Int) ≤ Prod.fst y) (T.need (Prod.fst y < (Nat.cast (R := Int) (List.length fl))) (T.need (Scale.vol (List.getD sc (Int.toNat (Prod.fst y)) dfS) ≠ (0 : Int)) (T.need (Scale.vol (List.getD sc (Int.toNat (Prod.fst y)) dfS) ≠ (0 : Int)) (T.need (List.length (Prod.fst (Prod.snd y)) + (1 : Nat) ≤ (1000000 : Nat)) (T.need (List.length (Prod.fst (Prod.snd y)) ≤ List.length (Prod.fst (Prod.snd y))) (T.need (Enc.Is eRg (List.length (Prod.fst (Prod.snd y)) + (1 : Nat)) (joinF (List.length (Prod.fst (Prod.snd y))) (Enc.F eRg (Prod.fst (Prod.snd y))) fun (i j : Nat) => List.getD [D.int IntKind.i64 (IntKind.i64.wrap (M.floorW (if M.mixed (Scale.vol (List.getD sc (Int.toNat (Prod.fst y)) dfS)) (Rg.hi (List.getD fl (Int.toNat (Prod.fst y)) dfR)) (Rg.lo (List.getD ag (Int.toNat (Prod.fst y)) dfR)) new < M.mixed (Scale.vol (List.getD sc (Int.toNat (Prod.fst y)) dfS)) (Rg.lo (List.getD fl (Int.toNat (Prod.fst y)) dfR)) (Rg.lo (List.getD ag (Int.toNat (Prod.fst y)) dfR)) new then M.mixed (Scale.vol (List.getD sc (Int.toNat (Prod.fst y)) dfS)) (Rg.hi (List.getD fl (Int.toNat (Prod.fst y)) dfR)) (Rg.lo (List.getD ag (Int.toNat (Prod.fst y)) dfR)) new else M.mixed (Scale.vol (List.getD sc (Int.toNat (Prod.fst y)) dfS)) (Rg.lo (List.getD fl (Int.toNat (Prod.fst y)) dfR)) (Rg.lo (List.getD ag (Int.toNat (Prod.fst y)) dfR)) new) (Scale.vol (List.getD sc (Int.toNat (Prod.fst y)) dfS)) + (1000 : Int))), D.int IntKind.i64 (IntKind.i64.wrap (M.ceilW (if M.mixed (Scale.vol (List.getD sc (Int.toNat (Prod.fst y)) dfS)) (Rg.hi (List.getD fl (Int.toNat (Prod.fst y)) dfR)) (Rg.hi (List.getD ag (Int.toNat (Prod.fst y)) dfR)) new > M.mixed (Scale.vol (List.getD sc (Int.toNat (Prod.fst y)) dfS)) (Rg.lo (List.getD fl (Int.toNat (Prod.fst y)) dfR)) (Rg.hi (List.getD ag (Int.toNat (Prod.fst y)) dfR)) new then M.mixed (Scale.vol (List.getD sc (Int.toNat (Prod.fst y)) dfS)) (Rg.hi (List.getD fl (Int.toNat (Prod.fst y)) dfR)) (Rg.hi (List.getD ag (Int.toNat (Prod.fst y)) dfR)) new else M.mixed (Scale.vol (List.getD sc (Int.toNat (Prod.fst y)) dfS)) (Rg.lo (List.getD fl (Int.toNat (Prod.fst y)) dfR)) (Rg.hi (List.getD ag (Int.toNat (Prod.fst y)) dfR)) new) (Scale.vol (List.getD sc (Int.toNat (Prod.fst y)) dfS)) + (1000 : Int)))] (i * (2 : Nat) + j) D.nilp)) (T.need (List.length (Prod.fst (Prod.snd y)) + (1 : Nat) ≤ List.length (Prod.fst (Prod.snd y)) + (1 : Nat)) (T.ret (Sum.inl (Sum.inr (IntKind.i64.wrap (Prod.fst y + (1 : Int)), Enc.list eRg (List.length (Prod.fst (Prod.snd y)) + (1 : Nat)) (joinF (List.length (Prod.fst (Prod.snd y))) (Enc.F eRg (Prod.fst (Prod.snd y))) fun (i j : Nat) => List.getD [D.int IntKind.i64 (IntKind.i64.wrap (M.floorW (if M.mixed (Scale.vol (List.getD sc (Int.toNat (Prod.fst y)) dfS)) (Rg.hi (List.getD fl (Int.toNat (Prod.fst y)) dfR)) (Rg.lo (List.getD ag (Int.toNat (Prod.fst y)) dfR)) new < M.mixed (Scale.vol (List.getD sc (Int.toNat (Prod.fst y)) dfS)) (Rg.lo (List.getD fl (Int.toNat (Prod.fst y)) dfR)) (Rg.lo (List.getD ag (Int.toNat (Prod.fst y)) dfR)) new then M.mixed (Scale.vol (List.getD sc (Int.toNat (Prod.fst y)) dfS)) (Rg.hi (List.getD fl (Int.toNat (Prod.fst y)) dfR)) (Rg.lo (List.getD ag (Int.toNat (Prod.fst y)) dfR)) new else M.mixed (Scale.vol (List.getD sc (Int.toNat (Prod.fst y)) dfS)) (Rg.lo (List.getD fl (Int.toNat (Prod.fst y)) dfR)) (Rg.lo (List.getD ag (Int.toNat (Prod.fst y)) dfR)) new) (Scale.vol (List.getD sc (Int.toNat (Prod.fst y)) dfS)) + (1000 : Int))), D.int IntKind.i64 (IntKind.i64.wrap (M.ceilW (if M.mixed (Scale.vol (List.getD sc (Int.toNat (Prod.fst y)) dfS)) (Rg.hi (List.getD fl (Int.toNat (Prod.fst y)) dfR)) (Rg.hi (List.getD ag (Int.toNat (Prod.fst y)) dfR)) new > M.mixed (Scale.vol (List.getD sc (Int.toNat (Prod.fst y)) dfS)) (Rg.lo (List.getD fl (Int.toNat (Prod.fst y)) dfR)) (Rg.hi (List.getD ag (Int.toNat (Prod.fst y)) dfR)) new then M.mixed (Scale.vol (List.getD sc (Int.toNat (Prod.fst y)) dfS)) (Rg.hi (List.getD fl (Int.toNat (Prod.fst y)) dfR)) (Rg.hi (List.getD ag (Int.toNat (Prod.fst y)) dfR)) new else M.mixed (Scale.vol (List.getD sc (Int.toNat (Prod.fst y)) dfS)) (Rg.lo (List.getD fl (Int.toNat (Prod.fst y)) dfR)) (Rg.hi (List.getD ag (Int.toNat (Prod.fst y)) dfR)) new) (Scale.vol (List.getD sc (Int.toNat (Prod.fst y)) dfS)) + (1000 : Int)))] (i * (2 : Nat) + j) D.nilp), PUnit.unit))))))))))))))))))))))))))))) (T.need (List.length (Prod.fst (Prod.snd y)) ≤ List.length (Prod.fst (Prod.snd y))) (T.ret (Sum.inr [Ar.c (D.sl true (List.length (Prod.fst (Prod.snd y))) (2 : Nat) (Enc.F eRg (Prod.fst (Prod.snd y))))])))
theorem t144 (q_sc : Bool) (sc : List Scale) (new : Int) (q_ag : Bool) (ag : List Rg) (q_fl : Bool) (fl : List Rg) : runFnX Try.prog G0 (lookS [v173, v174, v175]) (fun _ => [(3, [.slot 18 (.int .i64), .slot 7 .nsl], some [.slot 18 (.int .i64), .slot 7 (.rowE 61 eRg)])]) [] 1 40 3 144 Try.f144 [.agg [.sl q_sc sc.length 4 (eSc.F sc), dI new], .c (.sl q_ag ag.length 2 (eRg.F ag)), .c (.sl q_fl fl.length 2 (eRg.F fl))] =
    tr144 q_sc sc new q_ag ag q_fl fl := by kernel_rfl
theorem w144 (q : Bool) (sc : List Scale) (nw : Int) (qa : Bool) (ag : List Rg) (qf : Bool) (fl : List Rg) (h1 : ag.length = sc.length) (h2 : fl.length = sc.length) (h3 : sc.length ≤ 100000) (hvol : ∀ k, k < sc.length → (sc.getD k dfS).vol ≠ 0) :
    (tr144 q sc nw qa ag qf fl).wp (fun rs => rsEqv rs [.c (dR (M.year sc nw ag fl))]) := by
  unfold tr144
  have hW := year_len sc nw ag fl
  have push : ∀ k, k < sc.length → ∀ r, M.yearK (sc.getD k dfS).vol (fl.getD k dfR) (ag.getD k dfR) (M.nextR ag nw k) = r → (M.year sc nw ag fl).take k ++ [r] = (M.year sc nw ag fl).take (k + 1) := by
    intro k hk r hr
    rw [← hr, ← year_get hk, take_push (d := dfR) (by omega)]
  refine ⟨fun z => match z with
    | .inl x => x = ((0 : Int), PUnit.unit, PUnit.unit)
    | .inr y => ∃ k : Nat, 1 ≤ k ∧ k ≤ sc.length ∧ y.1 = k ∧ y.2.1 = (M.year sc nw ag fl).take k,
    fun z => match z with | .inl _ => sc.length + 5 | .inr y => sc.length - y.1.toNat, rfl, ?_, ?_⟩
  · rintro x rfl
    have hw : IntKind.i64.wrap ((0 : Int) + 1) = 1 := rfl
    refine ⟨fun hb => ?_, fun hb => ?_⟩
    · have hb : 0 < sc.length := by have : (0 : Int) < sc.length := of_decide_eq_true hb; omega
      have hv := hvol 0 hb
      have pin : ∀ n : Rg, M.nextR ag nw 0 = n → eRg.Is 1 (joinF 0 (fun _ _ => D.nilp) (rgG (M.yearK (sc.getD 0 dfS).vol (fl.getD 0 dfR) (ag.getD 0 dfR) n).lo (M.yearK (sc.getD 0 dfS).vol (fl.getD 0 dfR) (ag.getD 0 dfR) n).hi)) ∧ eRg.list 1 (joinF 0 (fun _ _ => D.nilp) (rgG (M.yearK (sc.getD 0 dfS).vol (fl.getD 0 dfR) (ag.getD 0 dfR) n).lo (M.yearK (sc.getD 0 dfS).vol (fl.getD 0 dfR) (ag.getD 0 dfR) n).hi)) = (M.year sc nw ag fl).take 1 := by
        intro n hn
        obtain ⟨o1, o2⟩ := push_one eRg (F := fun _ _ => .nilp) (G := rgG (M.yearK (sc.getD 0 dfS).vol (fl.getD 0 dfR) (ag.getD 0 dfR) n).lo (M.yearK (sc.getD 0 dfS).vol (fl.getD 0 dfR) (ag.getD 0 dfR) n).hi) rg_push.1 rg_push.2
        exact ⟨o1, o2.trans (push 0 hb _ (by rw [hn]))⟩
      have fin : ∃ k : Nat, 1 ≤ k ∧ k ≤ sc.length ∧ IntKind.i64.wrap ((0 : Int) + 1) = k ∧ True := ⟨1, Nat.le_refl _, hb, rfl, trivial⟩
      refine ⟨by dsimp only; omega, by dsimp only; omega, wp_br (fun hc => ?_) (fun hc => ?_)⟩
      · have hc : (1 : Int) < ag.length := of_decide_eq_true hc
        obtain ⟨o1, o2⟩ := pin (ag.getD 1 dfR) (by unfold M.nextR; rw [if_pos (by omega)])
        simp only [hw]
        refine ⟨(by first | exact hv | (dsimp only; omega) | omega), (by first | exact hv | (dsimp only; omega) | omega), (by first | exact hv | (dsimp only; omega) | omega), (by first | exact hv | (dsimp only; omega) | omega), (by first | exact hv | (dsimp only; omega) | omega), (by first | exact hv | (dsimp only; omega) | omega), (by first | exact hv | (dsimp only; omega) | omega), (by first | exact hv | (dsimp only; omega) | omega), (by first | exact hv | (dsimp only; omega) | omega), (by first | exact hv | (dsimp only; omega) | omega), (by first | exact hv | (dsimp only; omega) | omega), (by first | exact hv | (dsimp only; omega) | omega), (by first | exact hv | (dsimp only; omega) | omega), (by first | exact hv | (dsimp only; omega) | omega), (by first | exact hv | (dsimp only; omega) | omega), (by first | exact hv | (dsimp only; omega) | omega), (by first | exact hv | (dsimp only; omega) | omega), (by first | exact hv | (dsimp only; omega) | omega), hv, hv, by decide, o1, Nat.le_refl _, ⟨1, Nat.le_refl _, hb, rfl, o2⟩, ?_⟩
        show sc.length - (1 : Int).toNat < sc.length + 5; omega
      · have hc : ¬ (1 : Int) < ag.length := of_decide_eq_false hc
        obtain ⟨o1, o2⟩ := pin ⟨nw, nw⟩ (by unfold M.nextR; rw [if_neg (by omega)])
        refine ⟨(by first | exact hv | (dsimp only; omega) | omega), (by first | exact hv | (dsimp only; omega) | omega), (by first | exact hv | (dsimp only; omega) | omega), (by first | exact hv | (dsimp only; omega) | omega), (by first | exact hv | (dsimp only; omega) | omega), (by first | exact hv | (dsimp only; omega) | omega), (by first | exact hv | (dsimp only; omega) | omega), (by first | exact hv | (dsimp only; omega) | omega), (by first | exact hv | (dsimp only; omega) | omega), (by first | exact hv | (dsimp only; omega) | omega), (by first | exact hv | (dsimp only; omega) | omega), (by first | exact hv | (dsimp only; omega) | omega), (by first | exact hv | (dsimp only; omega) | omega), (by first | exact hv | (dsimp only; omega) | omega), (by first | exact hv | (dsimp only; omega) | omega), (by first | exact hv | (dsimp only; omega) | omega), hv, hv, by decide, o1, Nat.le_refl _, ⟨1, Nat.le_refl _, hb, rfl, o2⟩, ?_⟩
        show sc.length - (1 : Int).toNat < sc.length + 5; omega
    · have h0 : sc.length = 0 := by have : ¬ (0 : Int) < sc.length := of_decide_eq_false hb; omega
      have hW0 : M.year sc nw ag fl = [] := List.length_eq_zero_iff.1 (by omega)
      show rsEqv [.c (.sl false 0 0 _)] _
      rw [hW0]
      exact ⟨nil_eqv eRg, trivial⟩
  · rintro ⟨y, acc, u⟩ ⟨k, g1, g2, g3, g5⟩
    simp only at g3 g5
    subst g3
    have hacc : acc.length = k := by rw [g5, List.length_take]; omega
    have hw : IntKind.i64.wrap ((k : Int) + 1) = ((k + 1 : Nat) : Int) := wrap_succ (by omega)
    refine ⟨fun hb => ?_, fun hb => ?_⟩
    · have hlt := lt_of_dec hb
      have hv := hvol k hlt
      have pin : ∀ n : Rg, M.nextR ag nw k = n → eRg.Is (acc.length + 1) (joinF acc.length (eRg.F acc) (rgG (M.yearK (sc.getD k dfS).vol (fl.getD k dfR) (ag.getD k dfR) n).lo (M.yearK (sc.getD k dfS).vol (fl.getD k dfR) (ag.getD k dfR) n).hi)) ∧ eRg.list (acc.length + 1) (joinF acc.length (eRg.F acc) (rgG (M.yearK (sc.getD k dfS).vol (fl.getD k dfR) (ag.getD k dfR) n).lo (M.yearK (sc.getD k dfS).vol (fl.getD k dfR) (ag.getD k dfR) n).hi)) = (M.year sc nw ag fl).take (k + 1) := by
        intro n hn
        obtain ⟨o1, o2⟩ := eRg.push (l := acc) (a := M.yearK (sc.getD k dfS).vol (fl.getD k dfR) (ag.getD k dfR) n) (G := rgG (M.yearK (sc.getD k dfS).vol (fl.getD k dfR) (ag.getD k dfR) n).lo (M.yearK (sc.getD k dfS).vol (fl.getD k dfR) (ag.getD k dfR) n).hi) rg_push.1 rg_push.2
        refine ⟨o1, o2.trans ?_⟩
        rw [g5]
        exact push k hlt _ (by rw [hn])
      have mu : sc.length - (IntKind.i64.wrap ((k : Int) + 1)).toNat < sc.length - (k : Int).toNat := by rw [hw]; omega
      refine ⟨by dsimp only; omega, by dsimp only; omega, wp_br (fun hc => ?_) (fun hc => ?_)⟩
      · have hc : IntKind.i64.wrap ((k : Int) + 1) < ag.length := of_decide_eq_true hc
        rw [hw] at hc
        obtain ⟨o1, o2⟩ := pin (ag.getD (k + 1) dfR) (by unfold M.nextR; rw [if_pos (by omega)])
        rw [hw] at mu
        simp only [hw, Int.toNat_natCast]
        refine ⟨(by first | exact hv | (dsimp only; omega) | omega), (by first | exact hv | (dsimp only; omega) | omega), (by first | exact hv | (dsimp only; omega) | omega), (by first | exact hv | (dsimp only; omega) | omega), (by first | exact hv | (dsimp only; omega) | omega), (by first | exact hv | (dsimp only; omega) | omega), (by first | exact hv | (dsimp only; omega) | omega), (by first | exact hv | (dsimp only; omega) | omega), (by first | exact hv | (dsimp only; omega) | omega), (by first | exact hv | (dsimp only; omega) | omega), (by first | exact hv | (dsimp only; omega) | omega), (by first | exact hv | (dsimp only; omega) | omega), (by first | exact hv | (dsimp only; omega) | omega), (by first | exact hv | (dsimp only; omega) | omega), (by first | exact hv | (dsimp only; omega) | omega), (by first | exact hv | (dsimp only; omega) | omega), (by first | exact hv | (dsimp only; omega) | omega), (by first | exact hv | (dsimp only; omega) | omega), hv, hv, (by first | (dsimp only; omega) | omega), Nat.le_refl _, o1, Nat.le_refl _, ⟨k + 1, by omega, hlt, rfl, o2⟩, mu⟩
      · have hc : ¬ IntKind.i64.wrap ((k : Int) + 1) < ag.length := of_decide_eq_false hc
        rw [hw] at hc
        obtain ⟨o1, o2⟩ := pin ⟨nw, nw⟩ (by unfold M.nextR; rw [if_neg (by omega)])
        refine ⟨(by first | exact hv | (dsimp only; omega) | omega), (by first | exact hv | (dsimp only; omega) | omega), (by first | exact hv | (dsimp only; omega) | omega), (by first | exact hv | (dsimp only; omega) | omega), (by first | exact hv | (dsimp only; omega) | omega), (by first | exact hv | (dsimp only; omega) | omega), (by first | exact hv | (dsimp only; omega) | omega), (by first | exact hv | (dsimp only; omega) | omega), (by first | exact hv | (dsimp only; omega) | omega), (by first | exact hv | (dsimp only; omega) | omega), (by first | exact hv | (dsimp only; omega) | omega), (by first | exact hv | (dsimp only; omega) | omega), (by first | exact hv | (dsimp only; omega) | omega), (by first | exact hv | (dsimp only; omega) | omega), (by first | exact hv | (dsimp only; omega) | omega), (by first | exact hv | (dsimp only; omega) | omega), hv, hv, (by first | (dsimp only; omega) | omega), Nat.le_refl _, o1, Nat.le_refl _, ⟨k + 1, by omega, hlt, hw, o2⟩, mu⟩
    · have hge := ge_of_dec hb
      obtain rfl : k = sc.length := by omega
      have hfin : acc = M.year sc nw ag fl := by rw [g5, List.take_of_length_le (by omega)]
      subst hfin
      exact ⟨Nat.le_refl _, ⟨(fun e => by cases e), rfl, fun _ => rfl, fun i j hi hj => D.eqv_refl _⟩, trivial⟩
def dom144 : DomF
  | [.agg [.sl _ n_sc st_sc F_sc, .int .i64 new], .c (.sl _ n_ag st_ag F_ag), .c (.sl _ n_fl st_fl F_fl)] => (match Nat.beq st_sc 4 && Nat.beq st_ag 2 && Nat.beq st_fl 2 with
    | true => some ([eSc.Is n_sc F_sc, eRg.Is n_ag F_ag, eRg.Is n_fl F_fl, (eRg.list n_ag F_ag).length = (eSc.list n_sc F_sc).length, (eRg.list n_fl F_fl).length = (eSc.list n_sc F_sc).length, (eSc.list n_sc F_sc).length ≤ 100000, ∀ k, k < (eSc.list n_sc F_sc).length → ((eSc.list n_sc F_sc).getD k dfS).vol ≠ 0], [.c (dR (M.year (eSc.list n_sc F_sc) new (eRg.list n_ag F_ag) (eRg.list n_fl F_fl)))])
    | _ => none)
  | _ => none
def v144 : Nat × Sm := (144, fokSm dom144)
theorem C144 : FOK Try.prog G0 gw 144 dom144 := by
  intro ags p r hd hp κ w xs hw hl hG hx
  unfold dom144 at hd
  split at hd
  · rename_i q_sc n_sc st_sc F_sc new q_ag n_ag st_ag F_ag q_fl n_fl st_fl F_fl
    split at hd
    · rename_i hst
      simp only [Bool.and_eq_true] at hst
      obtain ⟨⟨g1, g2⟩, g3⟩ := hst
      have g1 := Nat.eq_of_beq_eq_true g1
      have g2 := Nat.eq_of_beq_eq_true g2
      have g3 := Nat.eq_of_beq_eq_true g3
      subst g1 g2 g3
      simp only [Option.some.injEq, Prod.mk.injEq] at hd
      obtain ⟨rfl, rfl⟩ := hd
      obtain ⟨hI_sc, hI_ag, hI_fl, hp⟩ := hp
      have heq : agsEqv [.agg [.sl q_sc n_sc 4 F_sc, .int .i64 new], .c (.sl q_ag n_ag 2 F_ag), .c (.sl q_fl n_fl 2 F_fl)] [.agg [.sl q_sc (eSc.list n_sc F_sc).length 4 (eSc.F (eSc.list n_sc F_sc)), .int .i64 new], .c (.sl q_ag (eRg.list n_ag F_ag).length 2 (eRg.F (eRg.list n_ag F_ag))), .c (.sl q_fl (eRg.list n_fl F_fl).length 2 (eRg.F (eRg.list n_fl F_fl)))] := ⟨⟨eSc.to id hI_sc, rfl, trivial⟩, eRg.to id hI_ag, eRg.to id hI_fl, trivial⟩
      have len_sc : (eSc.list n_sc F_sc).length = n_sc := eSc.list_len
      have len_ag : (eRg.list n_ag F_ag).length = n_ag := eRg.list_len
      have len_fl : (eRg.list n_fl F_fl).length = n_fl := eRg.list_len
      generalize eSc.list n_sc F_sc = sc at *
      generalize eRg.list n_ag F_ag = ag at *
      generalize eRg.list n_fl F_fl = fl at *
      subst len_sc len_ag len_fl
      exact fokX_fin mixed gw_stable (sl := [v173, v174, v175]) ⟨S173, S174, S175, trivial⟩ Try.func144 hw hl hG hx heq rfl (t144 _ _ _ _ _ _ _) (w144 _ _ _ _ _ _ _ hp.1 hp.2.1 hp.2.2.1 hp.2.2.2.1)
    · cases hd
  · cases hd
theorem S144 : SumOK Try.prog G0 gw 144 (fokSm dom144) := fok_sum Try.func144 rfl C144
end Go.Pl
end

section
set_option linter.unusedVariables false
set_option linter.unusedSimpArgs false
set_option maxRecDepth 100000
namespace Go.Pl
open Go.V Go.Proofs
def stTail (a b r d out : Int) : T (List Ar) :=
  T.need (i64ok a) (T.need (i64ok r) (T.need (0 < b ∧ b < 9223372036854775808) (T.need (0 < d ∧ d < 9223372036854775808) (T.br (!M.less a b r d)
    (T.need (i64ok r) (T.need (i64ok a) (T.need (0 < d ∧ d < 9223372036854775808) (T.need (0 < b ∧ b < 9223372036854775808) (T.br (!!M.less r d a b) (T.ret [.agg [dI out, dI (IntKind.i64.wrap (out + 1))]]) (T.ret [.agg [dI out, dI out]]))))))
    (T.ret [.agg [dI out, dI (IntKind.i64.wrap (out + 1))]])))))
def stC (tc : Bool) (a b c r d out : Int) : T (List Ar) := match tc with | true => T.br (c == 0) (T.ret [.agg [dI out, dI out]]) (stTail a b r d out) | false => T.ret [.agg [dI out, dI out]]
def stOut (ta tc : Bool) (a b c r d out : Int) : T (List Ar) := match ta with | true => T.br (a == 0) (stC tc a b c r d out) (stTail a b r d out) | false => stC tc a b c r d out
def stEnd (ta tc : Bool) (s a b c d : Int) : T (List Ar) :=
  T.need (i64ok a) (T.need (i64ok (IntKind.i64.wrap (d - c))) (T.need (0 < b ∧ b < 9223372036854775808) (T.need (0 < d ∧ d < 9223372036854775808) (T.br (!M.less a b (IntKind.i64.wrap (d - c)) d) (stOut ta tc a b c (IntKind.i64.wrap (d - c)) d (IntKind.i64.wrap (s + 1))) (stOut ta tc a b c (IntKind.i64.wrap (d - c)) d s)))))
def stX (x y f n : Int) : Int := IntKind.i64.wrap (IntKind.i64.wrap (x * f) + IntKind.i64.wrap (n.tmod f * y))
def stS (s x y f n : Int) : Int := IntKind.i64.wrap (IntKind.i64.wrap (s + IntKind.i64.wrap (n.tdiv f)) + IntKind.i64.wrap ((stX x y f n).tdiv (IntKind.i64.wrap (y * f))))
def stT (g : Rg → Int) (sc : List Scale) (fl : List Rg) : Bool → Bool → Nat → Nat → Int → Int → Int → Int → Int → T (List Ar)
  | ta, tc, 0, _, s, a, b, c, d => stEnd ta tc s a b c d
  | ta, tc, m + 1, i, s, a, b, c, d =>
    T.need (eRg.Is fl.length (eRg.F fl)) (T.need (0 ≤ (i : Int)) (T.need ((i : Int) < fl.length) (T.need (0 ≤ (i : Int)) (T.need ((i : Int) < sc.length) (T.need (g (fl.getD i dfR) ≠ 0) (T.need (g (fl.getD i dfR) ≠ 0)
      (match Nat.beq (i % 2) 0 with
      | true => T.need (IntKind.i64.wrap (b * g (fl.getD i dfR)) ≠ 0) (T.need (IntKind.i64.wrap (b * g (fl.getD i dfR)) ≠ 0)
          (stT g sc fl true tc m (i + 1) (stS s a b (g (fl.getD i dfR)) (IntKind.i64.wrap (1000 * (sc.getD i dfS).vol))) ((stX a b (g (fl.getD i dfR)) (IntKind.i64.wrap (1000 * (sc.getD i dfS).vol))).tmod (IntKind.i64.wrap (b * g (fl.getD i dfR)))) (IntKind.i64.wrap (b * g (fl.getD i dfR))) c d))
      | false => T.need (IntKind.i64.wrap (d * g (fl.getD i dfR)) ≠ 0) (T.need (IntKind.i64.wrap (d * g (fl.getD i dfR)) ≠ 0)
          (stT g sc fl ta true m (i + 1) (stS s c d (g (fl.getD i dfR)) (IntKind.i64.wrap (1000 * (sc.getD i dfS).vol))) a b ((stX c d (g (fl.getD i dfR)) (IntKind.i64.wrap (1000 * (sc.getD i dfS).vol))).tmod (IntKind.i64.wrap (d * g (fl.getD i dfR)))) (IntKind.i64.wrap (d * g (fl.getD i dfR))))))))))))
theorem t110_1_0_111 (q q2 : Bool) (s0 : Scale) (f0 : Rg) (nw : Int) : runFnX Try.prog G0 (lookS [v131, v111]) (fun _ => [(1000028, [], none), (3000009, [], none)]) [] 1 60 3 110 Try.f110 [.agg [.sl q 1 4 (eSc.F [s0]), dI nw], .c (dI 0), .c (.fc 111 1 (fun _ => .sl q2 1 2 (eRg.F [f0])))] = stT (fun r => r.hi) [s0] [f0] false false 1 0 nw 0 1 0 1 := by kernel_rfl
theorem t110_2_0_111 (q q2 : Bool) (s0 s1 : Scale) (f0 f1 : Rg) (nw : Int) : runFnX Try.prog G0 (lookS [v131, v111]) (fun _ => [(1000028, [], none), (3000009, [], none)]) [] 1 60 3 110 Try.f110 [.agg [.sl q 2 4 (eSc.F [s0, s1]), dI nw], .c (dI 0), .c (.fc 111 1 (fun _ => .sl q2 2 2 (eRg.F [f0, f1])))] = stT (fun r => r.hi) [s0, s1] [f0, f1] false false 2 0 nw 0 1 0 1 := by kernel_rfl
theorem t110_2_1_111 (q q2 : Bool) (s0 s1 : Scale) (f0 f1 : Rg) (nw : Int) : runFnX Try.prog G0 (lookS [v131, v111]) (fun _ => [(1000028, [], none), (3000009, [], none)]) [] 1 60 3 110 Try.f110 [.agg [.sl q 2 4 (eSc.F [s0, s1]), dI nw], .c (dI 1), .c (.fc 111 1 (fun _ => .sl q2 2 2 (eRg.F [f0, f1])))] = stT (fun r => r.hi) [s0, s1] [f0, f1] false false 1 1 nw 0 1 0 1 := by kernel_rfl
theorem t110_3_0_111 (q q2 : Bool) (s0 s1 s2 : Scale) (f0 f1 f2 : Rg) (nw : Int) : runFnX Try.prog G0 (lookS [v131, v111]) (fun _ => [(1000028, [], none), (3000009, [], none)]) [] 1 60 3 110 Try.f110 [.agg [.sl q 3 4 (eSc.F [s0, s1, s2]), dI nw], .c (dI 0), .c (.fc 111 1 (fun _ => .sl q2 3 2 (eRg.F [f0, f1, f2])))] = stT (fun r => r.hi) [s0, s1, s2] [f0, f1, f2] false false 3 0 nw 0 1 0 1 := by kernel_rfl
theorem t110_3_1_111 (q q2 : Bool) (s0 s1 s2 : Scale) (f0 f1 f2 : Rg) (nw : Int) : runFnX Try.prog G0 (lookS [v131, v111]) (fun _ => [(1000028, [], none), (3000009, [], none)]) [] 1 60 3 110 Try.f110 [.agg [.sl q 3 4 (eSc.F [s0, s1, s2]), dI nw], .c (dI 1), .c (.fc 111 1 (fun _ => .sl q2 3 2 (eRg.F [f0, f1, f2])))] = stT (fun r => r.hi) [s0, s1, s2] [f0, f1, f2] false false 2 1 nw 0 1 0 1 := by kernel_rfl
theorem t110_3_2_111 (q q2 : Bool) (s0 s1 s2 : Scale) (f0 f1 f2 : Rg) (nw : Int) : runFnX Try.prog G0 (lookS [v131, v111]) (fun _ => [(1000028, [], none), (3000009, [], none)]) [] 1 60 3 110 Try.f110 [.agg [.sl q 3 4 (eSc.F [s0, s1, s2]), dI nw], .c (dI 2), .c (.fc 111 1 (fun _ => .sl q2 3 2 (eRg.F [f0, f1, f2])))] = stT (fun r => r.hi) [s0, s1, s2] [f0, f1, f2] false false 1 2 nw 0 1 0 1 := by kernel_rfl
theorem t110_4_0_111 (q q2 : Bool) (s0 s1 s2 s3 : Scale) (f0 f1 f2 f3 : Rg) (nw : Int) : runFnX Try.prog G0 (lookS [v131, v111]) (fun _ => [(1000028, [], none), (3000009, [], none)]) [] 1 60 3 110 Try.f110 [.agg [.sl q 4 4 (eSc.F [s0, s1, s2, s3]), dI nw], .c (dI 0), .c (.fc 111 1 (fun _ => .sl q2 4 2 (eRg.F [f0, f1, f2, f3])))] = stT (fun r => r.hi) [s0, s1, s2, s3] [f0, f1, f2, f3] false false 4 0 nw 0 1 0 1 := by kernel_rfl
theorem t110_4_1_111 (q q2 : Bool) (s0 s1 s2 s3 : Scale) (f0 f1 f2 f3 : Rg) (nw : Int) : runFnX Try.prog G0 (lookS [v131, v111]) (fun _ => [(1000028, [], none), (3000009, [], none)]) [] 1 60 3 110 Try.f110 [.agg [.sl q 4 4 (eSc.F [s0, s1, s2, s3]), dI nw], .c (dI 1), .c (.fc 111 1 (fun _ => .sl q2 4 2 (eRg.F [f0, f1, f2, f3])))] = stT (fun r => r.hi) [s0, s1, s2, s3] [f0, f1, f2, f3] false false 3 1 nw 0 1 0 1 := by kernel_rfl
theorem t110_4_2_111 (q q2 : Bool) (s0 s1 s2 s3 : Scale) (f0 f1 f2 f3 : Rg) (nw : Int) : runFnX Try.prog G0 (lookS [v131, v111]) (fun _ => [(1000028, [], none), (3000009, [], none)]) [] 1 60 3 110 Try.f110 [.agg [.sl q 4 4 (eSc.F [s0, s1, s2, s3]), dI nw], .c (dI 2), .c (.fc 111 1 (fun _ => .sl q2 4 2 (eRg.F [f0, f1, f2, f3])))] = stT (fun r => r.hi) [s0, s1, s2, s3] [f0, f1, f2, f3] false false 2 2 nw 0 1 0 1 := by kernel_rfl
theorem t110_4_3_111 (q q2 : Bool) (s0 s1 s2 s3 : Scale) (f0 f1 f2 f3 : Rg) (nw : Int) : runFnX Try.prog G0 (lookS [v131, v111]) (fun _ => [(1000028, [], none), (3000009, [], none)]) [] 1 60 3 110 Try.f110 [.agg [.sl q 4 4 (eSc.F [s0, s1, s2, s3]), dI nw], .c (dI 3), .c (.fc 111 1 (fun _ => .sl q2 4 2 (eRg.F [f0, f1, f2, f3])))] = stT (fun r => r.hi) [s0, s1, s2, s3] [f0, f1, f2, f3] false false 1 3 nw 0 1 0 1 := by kernel_rfl
theorem t110_1_0_112 (q q2 : Bool) (s0 : Scale) (f0 : Rg) (nw : Int) : runFnX Try.prog G0 (lookS [v131, v112]) (fun _ => [(1000028, [], none), (3000009, [], none)]) [] 1 60 3 110 Try.f110 [.agg [.sl q 1 4 (eSc.F [s0]), dI nw], .c (dI 0), .c (.fc 112 1 (fun _ => .sl q2 1 2 (eRg.F [f0])))] = stT (fun r => r.lo) [s0] [f0] false false 1 0 nw 0 1 0 1 := by kernel_rfl
theorem t110_2_0_112 (q q2 : Bool) (s0 s1 : Scale) (f0 f1 : Rg) (nw : Int) : runFnX Try.prog G0 (lookS [v131, v112]) (fun _ => [(1000028, [], none), (3000009, [], none)]) [] 1 60 3 110 Try.f110 [.agg [.sl q 2 4 (eSc.F [s0, s1]), dI nw], .c (dI 0), .c (.fc 112 1 (fun _ => .sl q2 2 2 (eRg.F [f0, f1])))] = stT (fun r => r.lo) [s0, s1] [f0, f1] false false 2 0 nw 0 1 0 1 := by kernel_rfl
theorem t110_2_1_112 (q q2 : Bool) (s0 s1 : Scale) (f0 f1 : Rg) (nw : Int) : runFnX Try.prog G0 (lookS [v131, v112]) (fun _ => [(1000028, [], none), (3000009, [], none)]) [] 1 60 3 110 Try.f110 [.agg [.sl q 2 4 (eSc.F [s0, s1]), dI nw], .c (dI 1), .c (.fc 112 1 (fun _ => .sl q2 2 2 (eRg.F [f0, f1])))] = stT (fun r => r.lo) [s0, s1] [f0, f1] false false 1 1 nw 0 1 0 1 := by kernel_rfl
theorem t110_3_0_112 (q q2 : Bool) (s0 s1 s2 : Scale) (f0 f1 f2 : Rg) (nw : Int) : runFnX Try.prog G0 (lookS [v131, v112]) (fun _ => [(1000028, [], none), (3000009, [], none)]) [] 1 60 3 110 Try.f110 [.agg [.sl q 3 4 (eSc.F [s0, s1, s2]), dI nw], .c (dI 0), .c (.fc 112 1 (fun _ => .sl q2 3 2 (eRg.F [f0, f1, f2])))] = stT (fun r => r.lo) [s0, s1, s2] [f0, f1, f2] false false 3 0 nw 0 1 0 1 := by kernel_rfl
theorem t110_3_1_112 (q q2 : Bool) (s0 s1 s2 : Scale) (f0 f1 f2 : Rg) (nw : Int) : runFnX Try.prog G0 (lookS [v131, v112]) (fun _ => [(1000028, [], none), (3000009, [], none)]) [] 1 60 3 110 Try.f110 [.agg [.sl q 3 4 (eSc.F [s0, s1, s2]), dI nw], .c (dI 1), .c (.fc 112 1 (fun _ => .sl q2 3 2 (eRg.F [f0, f1, f2])))] = stT (fun r => r.lo) [s0, s1, s2] [f0, f1, f2] false false 2 1 nw 0 1 0 1 := by kernel_rfl
theorem t110_3_2_112 (q q2 : Bool) (s0 s1 s2 : Scale) (f0 f1 f2 : Rg) (nw : Int) : runFnX Try.prog G0 (lookS [v131, v112]) (fun _ => [(1000028, [], none), (3000009, [], none)]) [] 1 60 3 110 Try.f110 [.agg [.sl q 3 4 (eSc.F [s0, s1, s2]), dI nw], .c (dI 2), .c (.fc 112 1 (fun _ => .sl q2 3 2 (eRg.F [f0, f1, f2])))] = stT (fun r => r.lo) [s0, s1, s2] [f0, f1, f2] false false 1 2 nw 0 1 0 1 := by kernel_rfl
theorem t110_4_0_112 (q q2 : Bool) (s0 s1 s2 s3 : Scale) (f0 f1 f2 f3 : Rg) (nw : Int) : runFnX Try.prog G0 (lookS [v131, v112]) (fun _ => [(1000028, [], none), (3000009, [], none)]) [] 1 60 3 110 Try.f110 [.agg [.sl q 4 4 (eSc.F [s0, s1, s2, s3]), dI nw], .c (dI 0), .c (.fc 112 1 (fun _ => .sl q2 4 2 (eRg.F [f0, f1, f2, f3])))] = stT (fun r => r.lo) [s0, s1, s2, s3] [f0, f1, f2, f3] false false 4 0 nw 0 1 0 1 := by kernel_rfl
theorem t110_4_1_112 (q q2 : Bool) (s0 s1 s2 s3 : Scale) (f0 f1 f2 f3 : Rg) (nw : Int) : runFnX Try.prog G0 (lookS [v131, v112]) (fun _ => [(1000028, [], none), (3000009, [], none)]) [] 1 60 3 110 Try.f110 [.agg [.sl q 4 4 (eSc.F [s0, s1, s2, s3]), dI nw], .c (dI 1), .c (.fc 112 1 (fun _ => .sl q2 4 2 (eRg.F [f0, f1, f2, f3])))] = stT (fun r => r.lo) [s0, s1, s2, s3] [f0, f1, f2, f3] false false 3 1 nw 0 1 0 1 := by kernel_rfl
theorem t110_4_2_112 (q q2 : Bool) (s0 s1 s2 s3 : Scale) (f0 f1 f2 f3 : Rg) (nw : Int) : runFnX Try.prog G0 (lookS [v131, v112]) (fun _ => [(1000028, [], none), (3000009, [], none)]) [] 1 60 3 110 Try.f110 [.agg [.sl q 4 4 (eSc.F [s0, s1, s2, s3]), dI nw], .c (dI 2), .c (.fc 112 1 (fun _ => .sl q2 4 2 (eRg.F [f0, f1, f2, f3])))] = stT (fun r => r.lo) [s0, s1, s2, s3] [f0, f1, f2, f3] false false 2 2 nw 0 1 0 1 := by kernel_rfl
theorem t110_4_3_112 (q q2 : Bool) (s0 s1 s2 s3 : Scale) (f0 f1 f2 f3 : Rg) (nw : Int) : runFnX Try.prog G0 (lookS [v131, v112]) (fun _ => [(1000028, [], none), (3000009, [], none)]) [] 1 60 3 110 Try.f110 [.agg [.sl q 4 4 (eSc.F [s0, s1, s2, s3]), dI nw], .c (dI 3), .c (.fc 112 1 (fun _ => .sl q2 4 2 (eRg.F [f0, f1, f2, f3])))] = stT (fun r => r.lo) [s0, s1, s2, s3] [f0, f1, f2, f3] false false 1 3 nw 0 1 0 1 := by kernel_rfl
theorem t110_1_0_185 (q q2 : Bool) (s0 : Scale) (f0 : Rg) (nw : Int) : runFnX Try.prog G0 (lookS [v131, v185]) (fun _ => [(1000028, [], none), (3000009, [], none)]) [] 1 60 3 110 Try.f110 [.agg [.sl q 1 4 (eSc.F [s0]), dI nw], .c (dI 0), .c (.fc 185 1 (fun _ => .sl q2 1 2 (eRg.F [f0])))] = stT (fun r => r.hi) [s0] [f0] false false 1 0 nw 0 1 0 1 := by kernel_rfl
theorem t110_2_0_185 (q q2 : Bool) (s0 s1 : Scale) (f0 f1 : Rg) (nw : Int) : runFnX Try.prog G0 (lookS [v131, v185]) (fun _ => [(1000028, [], none), (3000009, [], none)]) [] 1 60 3 110 Try.f110 [.agg [.sl q 2 4 (eSc.F [s0, s1]), dI nw], .c (dI 0), .c (.fc 185 1 (fun _ => .sl q2 2 2 (eRg.F [f0, f1])))] = stT (fun r => r.hi) [s0, s1] [f0, f1] false false 2 0 nw 0 1 0 1 := by kernel_rfl
theorem t110_2_1_185 (q q2 : Bool) (s0 s1 : Scale) (f0 f1 : Rg) (nw : Int) : runFnX Try.prog G0 (lookS [v131, v185]) (fun _ => [(1000028, [], none), (3000009, [], none)]) [] 1 60 3 110 Try.f110 [.agg [.sl q 2 4 (eSc.F [s0, s1]), dI nw], .c (dI 1), .c (.fc 185 1 (fun _ => .sl q2 2 2 (eRg.F [f0, f1])))] = stT (fun r => r.hi) [s0, s1] [f0, f1] false false 1 1 nw 0 1 0 1 := by kernel_rfl
theorem t110_3_0_185 (q q2 : Bool) (s0 s1 s2 : Scale) (f0 f1 f2 : Rg) (nw : Int) : runFnX Try.prog G0 (lookS [v131, v185]) (fun _ => [(1000028, [], none), (3000009, [], none)]) [] 1 60 3 110 Try.f110 [.agg [.sl q 3 4 (eSc.F [s0, s1, s2]), dI nw], .c (dI 0), .c (.fc 185 1 (fun _ => .sl q2 3 2 (eRg.F [f0, f1, f2])))] = stT (fun r => r.hi) [s0, s1, s2] [f0, f1, f2] false false 3 0 nw 0 1 0 1 := by kernel_rfl
theorem t110_3_1_185 (q q2 : Bool) (s0 s1 s2 : Scale) (f0 f1 f2 : Rg) (nw : Int) : runFnX Try.prog G0 (lookS [v131, v185]) (fun _ => [(1000028, [], none), (3000009, [], none)]) [] 1 60 3 110 Try.f110 [.agg [.sl q 3 4 (eSc.F [s0, s1, s2]), dI nw], .c (dI 1), .c (.fc 185 1 (fun _ => .sl q2 3 2 (eRg.F [f0, f1, f2])))] = stT (fun r => r.hi) [s0, s1, s2] [f0, f1, f2] false false 2 1 nw 0 1 0 1 := by kernel_rfl
theorem t110_3_2_185 (q q2 : Bool) (s0 s1 s2 : Scale) (f0 f1 f2 : Rg) (nw : Int) : runFnX Try.prog G0 (lookS [v131, v185]) (fun _ => [(1000028, [], none), (3000009, [], none)]) [] 1 60 3 110 Try.f110 [.agg [.sl q 3 4 (eSc.F [s0, s1, s2]), dI nw], .c (dI 2), .c (.fc 185 1 (fun _ => .sl q2 3 2 (eRg.F [f0, f1, f2])))] = stT (fun r => r.hi) [s0, s1, s2] [f0, f1, f2] false false 1 2 nw 0 1 0 1 := by kernel_rfl
theorem t110_4_0_185 (q q2 : Bool) (s0 s1 s2 s3 : Scale) (f0 f1 f2 f3 : Rg) (nw : Int) : runFnX Try.prog G0 (lookS [v131, v185]) (fun _ => [(1000028, [], none), (3000009, [], none)]) [] 1 60 3 110 Try.f110 [.agg [.sl q 4 4 (eSc.F [s0, s1, s2, s3]), dI nw], .c (dI 0), .c (.fc 185 1 (fun _ => .sl q2 4 2 (eRg.F [f0, f1, f2, f3])))] = stT (fun r => r.hi) [s0, s1, s2, s3] [f0, f1, f2, f3] false false 4 0 nw 0 1 0 1 := by kernel_rfl
theorem t110_4_1_185 (q q2 : Bool) (s0 s1 s2 s3 : Scale) (f0 f1 f2 f3 : Rg) (nw : Int) : runFnX Try.prog G0 (lookS [v131, v185]) (fun _ => [(1000028, [], none), (3000009, [], none)]) [] 1 60 3 110 Try.f110 [.agg [.sl q 4 4 (eSc.F [s0, s1, s2, s3]), dI nw], .c (dI 1), .c (.fc 185 1 (fun _ => .sl q2 4 2 (eRg.F [f0, f1, f2, f3])))] = stT (fun r => r.hi) [s0, s1, s2, s3] [f0, f1, f2, f3] false false 3 1 nw 0 1 0 1 := by kernel_rfl
theorem t110_4_2_185 (q q2 : Bool) (s0 s1 s2 s3 : Scale) (f0 f1 f2 f3 : Rg) (nw : Int) : runFnX Try.prog G0 (lookS [v131, v185]) (fun _ => [(1000028, [], none), (3000009, [], none)]) [] 1 60 3 110 Try.f110 [.agg [.sl q 4 4 (eSc.F [s0, s1, s2, s3]), dI nw], .c (dI 2), .c (.fc 185 1 (fun _ => .sl q2 4 2 (eRg.F [f0, f1, f2, f3])))] = stT (fun r => r.hi) [s0, s1, s2, s3] [f0, f1, f2, f3] false false 2 2 nw 0 1 0 1 := by kernel_rfl
theorem t110_4_3_185 (q q2 : Bool) (s0 s1 s2 s3 : Scale) (f0 f1 f2 f3 : Rg) (nw : Int) : runFnX Try.prog G0 (lookS [v131, v185]) (fun _ => [(1000028, [], none), (3000009, [], none)]) [] 1 60 3 110 Try.f110 [.agg [.sl q 4 4 (eSc.F [s0, s1, s2, s3]), dI nw], .c (dI 3), .c (.fc 185 1 (fun _ => .sl q2 4 2 (eRg.F [f0, f1, f2, f3])))] = stT (fun r => r.hi) [s0, s1, s2, s3] [f0, f1, f2, f3] false false 1 3 nw 0 1 0 1 := by kernel_rfl
theorem t110g_111 (q q2 : Bool) (sc : List Scale) (fl : List Rg) (nw : Int) (i : Nat) (hl : fl.length = sc.length) (h4 : sc.length ≤ 4) (hi : i < sc.length) : runFnX Try.prog G0 (lookS [v131, v111]) (fun _ => [(1000028, [], none), (3000009, [], none)]) [] 1 60 3 110 Try.f110 [.agg [.sl q sc.length 4 (eSc.F sc), dI nw], .c (dI i), .c (.fc 111 1 (fun _ => .sl q2 fl.length 2 (eRg.F fl)))] = stT (fun r => r.hi) sc fl false false (sc.length - i) i nw 0 1 0 1 := by
  match sc, fl, hl, h4, hi with
  | [s0], [f0], _, _, hi =>
    match i, hi with
    | 0, _ => exact t110_1_0_111 _ _ _ _ _
  | [s0, s1], [f0, f1], _, _, hi =>
    match i, hi with
    | 0, _ => exact t110_2_0_111 _ _ _ _ _ _ _
    | 1, _ => exact t110_2_1_111 _ _ _ _ _ _ _
  | [s0, s1, s2], [f0, f1, f2], _, _, hi =>
    match i, hi with
    | 0, _ => exact t110_3_0_111 _ _ _ _ _ _ _ _ _
    | 1, _ => exact t110_3_1_111 _ _ _ _ _ _ _ _ _
    | 2, _ => exact t110_3_2_111 _ _ _ _ _ _ _ _ _
  | [s0, s1, s2, s3], [f0, f1, f2, f3], _, _, hi =>
    match i, hi with
    | 0, _ => exact t110_4_0_111 _ _ _ _ _ _ _ _ _ _ _
    | 1, _ => exact t110_4_1_111 _ _ _ _ _ _ _ _ _ _ _
    | 2, _ => exact t110_4_2_111 _ _ _ _ _ _ _ _ _ _ _
    | 3, _ => exact t110_4_3_111 _ _ _ _ _ _ _ _ _ _ _
  | [], _, _, _, hi => exact absurd hi (Nat.not_lt_zero _)
  | _ :: _ :: _ :: _ :: _ :: _, _, _, h4, _ => exact absurd h4 (by simp)
theorem t110g_112 (q q2 : Bool) (sc : List Scale) (fl : List Rg) (nw : Int) (i : Nat) (hl : fl.length = sc.length) (h4 : sc.length ≤ 4) (hi : i < sc.length) : runFnX Try.prog G0 (lookS [v131, v112]) (fun _ => [(1000028, [], none), (3000009, [], none)]) [] 1 60 3 110 Try.f110 [.agg [.sl q sc.length 4 (eSc.F sc), dI nw], .c (dI i), .c (.fc 112 1 (fun _ => .sl q2 fl.length 2 (eRg.F fl)))] = stT (fun r => r.lo) sc fl false false (sc.length - i) i nw 0 1 0 1 := by
  match sc, fl, hl, h4, hi with
  | [s0], [f0], _, _, hi =>
    match i, hi with
    | 0, _ => exact t110_1_0_112 _ _ _ _ _
  | [s0, s1], [f0, f1], _, _, hi =>
    match i, hi with
    | 0, _ => exact t110_2_0_112 _ _ _ _ _ _ _
    | 1, _ => exact t110_2_1_112 _ _ _ _ _ _ _
  | [s0, s1, s2], [f0, f1, f2], _, _, hi =>
    match i, hi with
    | 0, _ => exact t110_3_0_112 _ _ _ _ _ _ _ _ _
    | 1, _ => exact t110_3_1_112 _ _ _ _ _ _ _ _ _
    | 2, _ => exact t110_3_2_112 _ _ _ _ _ _ _ _ _
  | [s0, s1, s2, s3], [f0, f1, f2, f3], _, _, hi =>
    match i, hi with
    | 0, _ => exact t110_4_0_112 _ _ _ _ _ _ _ _ _ _ _
    | 1, _ => exact t110_4_1_112 _ _ _ _ _ _ _ _ _ _ _
    | 2, _ => exact t110_4_2_112 _ _ _ _ _ _ _ _ _ _ _
    | 3, _ => exact t110_4_3_112 _ _ _ _ _ _ _ _ _ _ _
  | [], _, _, _, hi => exact absurd hi (Nat.not_lt_zero _)
  | _ :: _ :: _ :: _ :: _ :: _, _, _, h4, _ => exact absurd h4 (by simp)
theorem t110g_185 (q q2 : Bool) (sc : List Scale) (fl : List Rg) (nw : Int) (i : Nat) (hl : fl.length = sc.length) (h4 : sc.length ≤ 4) (hi : i < sc.length) : runFnX Try.prog G0 (lookS [v131, v185]) (fun _ => [(1000028, [], none), (3000009, [], none)]) [] 1 60 3 110 Try.f110 [.agg [.sl q sc.length 4 (eSc.F sc), dI nw], .c (dI i), .c (.fc 185 1 (fun _ => .sl q2 fl.length 2 (eRg.F fl)))] = stT (fun r => r.hi) sc fl false false (sc.length - i) i nw 0 1 0 1 := by
  match sc, fl, hl, h4, hi with
  | [s0], [f0], _, _, hi =>
    match i, hi with
    | 0, _ => exact t110_1_0_185 _ _ _ _ _
  | [s0, s1], [f0, f1], _, _, hi =>
    match i, hi with
    | 0, _ => exact t110_2_0_185 _ _ _ _ _ _ _
    | 1, _ => exact t110_2_1_185 _ _ _ _ _ _ _
  | [s0, s1, s2], [f0, f1, f2], _, _, hi =>
    match i, hi with
    | 0, _ => exact t110_3_0_185 _ _ _ _ _ _ _ _ _
    | 1, _ => exact t110_3_1_185 _ _ _ _ _ _ _ _ _
    | 2, _ => exact t110_3_2_185 _ _ _ _ _ _ _ _ _
  | [s0, s1, s2, s3], [f0, f1, f2, f3], _, _, hi =>
    match i, hi with
    | 0, _ => exact t110_4_0_185 _ _ _ _ _ _ _ _ _ _ _
    | 1, _ => exact t110_4_1_185 _ _ _ _ _ _ _ _ _ _ _
    | 2, _ => exact t110_4_2_185 _ _ _ _ _ _ _ _ _ _ _
    | 3, _ => exact t110_4_3_185 _ _ _ _ _ _ _ _ _ _ _
  | [], _, _, _, hi => exact absurd hi (Nat.not_lt_zero _)
  | _ :: _ :: _ :: _ :: _ :: _, _, _, h4, _ => exact absurd h4 (by simp)
end Go.Pl
end

section
set_option linter.unusedVariables false
set_option linter.unusedSimpArgs false
set_option maxRecDepth 100000
namespace Go.Pl
open Go.V Go.Proofs
namespace M
end M
theorem bad_zero {f : Nat → Int} : ∀ (n k : Nat), (M.badFrom f n k).2 = 0 → ∀ i, k ≤ i → i < k + n → f i = 0 := by
  intro n
  induction n with
  | zero => intro k _ i h1 h2; omega
  | succ n ih =>
    intro k h i h1 h2
    simp only [M.badFrom] at h
    cases hb : (f k != 0) with
    | true =>
      rw [hb] at h
      have h : f k = 0 := h
      rw [h] at hb; cases hb
    | false =>
      rw [hb] at h
      have hk : f k = 0 := by simpa using hb
      rcases Nat.lt_or_ge k i with hl | hl
      · exact ih (k + 1) h i (by omega) (by omega)
      · obtain rfl : i = k := by omega
        exact hk
theorem unl_zero {b : Bool} {e : Int} (he : e ≠ 0) (h : M.unl b e = 0) : b = true := by
  cases b with
  | true => rfl
  | false => exact absurd h he
theorem within_iff {n lo hi : Int} : M.within n lo hi = true ↔ lo ≤ n ∧ n ≤ hi := by
  unfold M.within; rw [Bool.and_eq_true, decide_eq_true_eq, decide_eq_true_eq]
theorem sys_right {sc : List Scale} {nw : Int} (h : (M.checkSys sc nw).2 = 0) : 0 < sc.length ∧ sc.length ≤ 4 ∧ (0 ≤ nw ∧ nw ≤ 100000) ∧ ∀ k, k < sc.length → M.scaleErr (sc.getD k dfS) = 0 := by
  unfold M.checkSys at h
  cases hb : (M.sysErr0 sc nw != 0) with
  | true =>
    rw [hb] at h
    have h : M.sysErr0 sc nw = 0 := h
    rw [h] at hb; cases hb
  | false =>
    rw [hb] at h
    have h0 : M.sysErr0 sc nw = 0 := by simpa using hb
    unfold M.sysErr0 at h0
    rw [first_of] at h0
    split at h0
    · rename_i a
      rw [first_of] at h0
      split at h0
      · rename_i b
        rw [first_of] at h0
        split at h0
        · rename_i c
          have a := of_decide_eq_true (unl_zero (by decide) a)
          have b := of_decide_eq_true (unl_zero (by decide) b)
          have c := within_iff.1 (unl_zero (by decide) c)
          exact ⟨by omega, by omega, c, fun k hk => bad_zero _ _ h k (by omega) (by omega)⟩
        · rename_i c; exact absurd h0 c
      · rename_i b; exact absurd h0 b
    · rename_i a; exact absurd h0 a
theorem vol_right {c : Scale} (h : M.scaleErr c = 0) : 1 ≤ c.vol ∧ c.vol ≤ 20000 := by
  unfold M.scaleErr at h
  rw [first_of] at h
  split at h
  · rename_i a; exact within_iff.1 (unl_zero (by decide) a)
  · rename_i a; exact absurd h a
theorem ages_len {n : Nat} {ag : List Rg} (h : M.agesErr n ag = 0) : ag.length = n := by
  unfold M.agesErr at h
  cases hb : ((ag.length : Int) != (n : Int)) with
  | true => rw [hb] at h; have h : (10 : Int) = 0 := h; exact absurd h (by decide)
  | false =>
    have : (ag.length : Int) = n := by simpa using hb
    omega
end Go.Pl
end

section
set_option linter.unusedVariables false
set_option linter.unusedSimpArgs false
set_option maxRecDepth 100000
namespace Go.Pl
open Go.V Go.Proofs
def eRs : Enc (List Rg) := ⟨1, fun l _ => .sl false l.length 2 (eRg.F l), fun F => (match F 0 with | .sl _ n _ G => eRg.list n G | _ => []), [], fun a => Enc.list_F eRg a⟩
abbrev rsG (Y : List Rg) : Nat → Nat → D := fun (i j : Nat) => List.getD [D.sl false (List.length Y) 2 (Enc.F eRg Y)] (i * 1 + j) D.nilp
theorem rs_push {Y : List Rg} : (∀ j, j < eRs.st → (rsG Y 0 j).eqv (eRs.enc Y j)) ∧ eRs.rd (rsG Y 0) = Y := by
  refine ⟨fun j hj => ?_, Enc.list_F eRg Y⟩
  have hj : j < 1 := hj
  obtain rfl : j = 0 := by omega
  exact D.eqv_refl _
theorem rs_one {Y : List Rg} : eRs.Is 1 (rsG Y) ∧ eRs.list 1 (rsG Y) = [Y] := by
  have h := push_one eRs (a := Y) (F := fun _ _ => .nilp) (G := rsG Y) rs_push.1 rs_push.2
  rw [join0] at h; exact h
namespace M
def drawsErr (dr : List Int) : Int := (badFrom (fun k => drawErr (dr.getD k 0)) dr.length 0).2
def yrows (sc : List Scale) (nw : Int) (dr : List Int) : Nat → Nat → List (List Rg) → List (List Rg) × Int
  | 0, _, acc => (acc, 0)
  | m + 1, k, acc => cond (decide (over sc (flows sc (dr.getD k 0)) ≥ 0)) ([], 16) (yrows sc nw dr m (k + 1) (acc ++ [year sc nw (acc.getD k []) (flows sc (dr.getD k 0))]))
def years0 (sc : List Scale) (nw : Int) (ag : List Rg) (dr : List Int) : List (List Rg) × Int := cond (drawsErr dr != 0) ([], drawsErr dr) (yrows sc nw dr dr.length 0 [ag])
def years1 (sc : List Scale) (nw : Int) (ag : List Rg) (dr : List Int) : List (List Rg) × Int := cond (first [agesErr sc.length ag, unl (decide ((dr.length : Int) ≤ 30)) 8] != 0) ([], first [agesErr sc.length ag, unl (decide ((dr.length : Int) ≤ 30)) 8]) (years0 sc nw ag dr)
def years (sc : List Scale) (nw : Int) (ag : List Rg) (dr : List Int) : List (List Rg) × Int := cond ((checkSys sc nw).2 != 0) ([], (checkSys sc nw).2) (years1 sc nw ag dr)
end M
theorem yrows_step {sc : List Scale} {nw : Int} {dr : List Int} {n k : Nat} {acc : List (List Rg)} (h : k < n) : M.yrows sc nw dr (n - k) k acc = cond (decide (M.over sc (M.flows sc (dr.getD k 0)) ≥ 0)) ([], 16) (M.yrows sc nw dr (n - (k + 1)) (k + 1) (acc ++ [M.year sc nw (acc.getD k []) (M.flows sc (dr.getD k 0))])) := by
  obtain ⟨m, hm⟩ : ∃ m, n - k = m + 1 := ⟨n - k - 1, by omega⟩
  rw [hm, show n - (k + 1) = m by omega]; rfl
abbrev resY (x : List (List Rg) × Int) : List Ar := [.c (.sl false x.1.length 1 (eRs.F x.1)), rI x.2]
theorem eqY0 {e : Int} {F : Nat → Nat → D} {x : List (List Rg) × Int} (h : x = ([], e)) : rsEqv [.c (.sl false 0 0 F), rI e] (resY x) := by
  subst h; exact ⟨nil_eqv eRs, rfl, trivial⟩
theorem sys_vol {sc : List Scale} {nw : Int} (h : (M.checkSys sc nw).2 = 0) : ∀ k, k < sc.length → (sc.getD k dfS).vol ≠ 0 := by
  intro k hk
  have := (vol_right ((sys_right h).2.2.2 k hk)).1
  omega
def tr141 (q_sc : Bool) (sc : List Scale) (new : Int) (q_ag : Bool) (ag : List Rg) (q_dr : Bool) (dr : List Int) : T (List Ar) :=
    T.need (Enc.Is eSc (List.length sc) (Enc.F eSc sc)) (T.need (List.length sc ≤ (100000 : Nat)) (T.br (Prod.snd (M.checkSys (Enc.list eSc (List.length sc) (Enc.F eSc sc)) new) != (0 : Int)) (T.ret [Ar.c (D.sl false (0 : Nat) (0 : Nat) fun (x x_1 : Nat) => D.nilp), Ar.c (D.int IntKind.i64 (Prod.snd (M.checkSys (Enc.list eSc (List.length sc) (Enc.F eSc sc)) new)))]) (T.need (Enc.Is eSc (List.length sc) (Enc.F eSc (Enc.list eSc (List.length sc) (Enc.F eSc sc)))) (T.need (Enc.Is eRg (List.length ag) (Enc.F eRg ag)) (T.need (List.length (Enc.list eRg (List.length ag) (Enc.F eRg ag)) ≤ (100000 : Nat)) (T.br (M.first [M.agesErr (List.length (Enc.list eSc (List.length sc) (Enc.F eSc (Enc.list eSc (List.length sc) (Enc.F eSc sc))))) (Enc.list eRg (List.length ag) (Enc.F eRg ag)), M.unl (decide ((Nat.cast (R := Int) (List.length dr)) ≤ (30 : Int))) (8 : Int)] != (0 : Int)) (T.ret [Ar.c (D.sl false (0 : Nat) (0 : Nat) fun (x x_1 : Nat) => D.nilp), Ar.c (D.int IntKind.i64 (M.first [M.agesErr (List.length (Enc.list eSc (List.length sc) (Enc.F eSc (Enc.list eSc (List.length sc) (Enc.F eSc sc))))) (Enc.list eRg (List.length ag) (Enc.F eRg ag)), M.unl (decide ((Nat.cast (R := Int) (List.length dr)) ≤ (30 : Int))) (8 : Int)]))]) (T.loop (Int × PUnit) ((0 : Int), PUnit.unit) fun (x : Int × PUnit) => T.br (decide (Prod.fst x < (Nat.cast (R := Int) (List.length dr)))) (T.need ((0 : Int) ≤ Prod.fst x) (T.need (Prod.fst x < (Nat.cast (R := Int) (List.length dr))) (T.br (M.drawErr (List.getD dr (Int.toNat (Prod.fst x)) (0 : Int)) != (0 : Int)) (T.ret (Sum.inr [Ar.c (D.sl false (0 : Nat) (0 : Nat) fun (x x_1 : Nat) => D.nilp), Ar.c (D.int IntKind.i64 (M.drawErr (List.getD dr (Int.toNat (Prod.fst x)) (0 : Int))))])) (T.ret (Sum.inl (IntKind.i64.wrap (Prod.fst x + (1 : Int)), PUnit.unit)))))) (T.need ((0 : Nat) + List.length ag ≤ (1000000 : Nat)) (T.need (Enc.Is eRs (1 : Nat) fun (i j : Nat) => List.getD [D.sl false (List.length ag) (2 : Nat) (Enc.F eRg ag)] (i * (1 : Nat) + j) D.nilp) (T.loop (Int × List (List Rg) × PUnit) ((0 : Int), Enc.list eRs (1 : Nat) fun (i j : Nat) => List.getD [D.sl false (List.length ag) (2 : Nat) (Enc.F eRg ag)] (i * (1 : Nat) + j) D.nilp, PUnit.unit) fun (x_1 : Int × List (List Rg) × PUnit) => T.br (decide (Prod.fst x_1 < (Nat.cast (R := Int) (List.length dr)))) (T.need ((0 : Int) ≤ Prod.fst x_1) (T.need (Prod.fst x_1 < (Nat.cast (R := Int) (List.length dr))) (T.need (Enc.Is eSc (List.length sc) (Enc.F eSc (Enc.list eSc (List.length sc) (Enc.F eSc sc)))) (T.need (List.length (Enc.list eSc (List.length sc) (Enc.F eSc (Enc.list eSc (List.length sc) (Enc.F eSc sc)))) ≤ (100000 : Nat)) (T.need (Enc.Is eSc (List.length sc) (Enc.F eSc (Enc.list eSc (List.length sc) (Enc.F eSc sc)))) (T.need (Enc.Is eRg (List.length (M.flows (Enc.list eSc (List.length sc) (Enc.F eSc (Enc.list eSc (List.length sc) (Enc.F eSc sc)))) (List.getD dr (Int.toNat (Prod.fst x_1)) (0 : Int)))) (Enc.F eRg (M.flows (Enc.list eSc (List.length sc) (Enc.F eSc (Enc.list eSc (List.length sc) (Enc.F eSc sc)))) (List.getD dr (Int.toNat (Prod.fst x_1)) (0 : Int))))) (T.need (List.length (Enc.list eRg (List.length (M.flows (Enc.list eSc (List.length sc) (Enc.F eSc (Enc.list eSc (List.length sc) (Enc.F eSc sc)))) (List.getD dr (Int.toNat (Prod.fst x_1)) (0 : Int)))) (Enc.F eRg (M.flows (Enc.list eSc (List.length sc) (Enc.F eSc (Enc.list eSc (List.length sc) (Enc.F eSc sc)))) (List.getD dr (Int.toNat (Prod.fst x_1)) (0 : Int))))) ≤ List.length (Enc.list eSc (List.length sc) (Enc.F eSc (Enc.list eSc (List.length sc) (Enc.F eSc sc))))) (T.need (List.length (Enc.list eSc (List.length sc) (Enc.F eSc (Enc.list eSc (List.length sc) (Enc.F eSc sc)))) ≤ (100000 : Nat)) (T.br (decide (M.over (Enc.list eSc (List.length sc) (Enc.F eSc (Enc.list eSc (List.length sc) (Enc.F eSc sc)))) (Enc.list eRg (List.length (M.flows (Enc.list eSc (List.length sc) (Enc.F eSc (Enc.list eSc (List.length sc) (Enc.F eSc sc)))) (List.getD dr (Int.toNat (Prod.fst x_1)) (0 : Int)))) (Enc.F eRg (M.flows (Enc.list eSc (List.length sc) (Enc.F eSc (Enc.list eSc (List.length sc) (Enc.F eSc sc)))) (List.getD dr (Int.toNat (Prod.fst x_1)) (0 : Int))))) ≥ (0 : Int))) (T.ret (Sum.inr (Sum.inr [Ar.c (D.sl false (0 : Nat) (0 : Nat) fun (x x_2 : Nat) => D.nilp), Ar.c (D.int IntKind.i64 (16 : Int))]))) (T.need ((0 : Int) ≤ Prod.fst x_1) (T.need (Prod.fst x_1 < (Nat.cast (R := Int) (List.length (Prod.fst (Prod.snd x_1))))) (T.need (Int.toNat (Prod.fst x_1) < List.length (Prod.fst (Prod.snd x_1))) (T.need (Enc.Is eSc (List.length sc) (Enc.F eSc (Enc.list eSc (List.length sc) (Enc.F eSc sc)))) (T.need (Enc.Is eRg (List.length (List.getD (Prod.fst (Prod.snd x_1)) (Int.toNat (Prod.fst x_1)) [])) (Enc.F eRg (List.getD (Prod.fst (Prod.snd x_1)) (Int.toNat (Prod.fst x_1)) []))) (T.need (Enc.Is eRg (List.length (M.flows (Enc.list eSc (List.length sc) (Enc.F eSc (Enc.list eSc (List.length sc) (Enc.F eSc sc)))) (List.getD dr (Int.toNat (Prod.fst x_1)) (0 : Int)))) (Enc.F eRg (M.flows (Enc.list eSc (List.length sc) (Enc.F eSc (Enc.list eSc (List.length sc) (Enc.F eSc sc)))) (List.getD dr (Int.toNat (Prod.fst x_1)) (0 : Int))))) (T.need (List.length (Enc.list eRg (List.length (List.getD (Prod.fst (Prod.snd x_1)) (Int.toNat (Prod.fst x_1)) [])) (Enc.F eRg (List.getD (Prod.fst (Prod.snd x_1)) (Int.toNat (Prod.fst x_1)) []))) = List.length (Enc.list eSc (List.length sc) (Enc.F eSc (Enc.list eSc (List.length sc) (Enc.F eSc sc))))) (T.need (List.length (Enc.list eRg (List.length (M.flows (Enc.list eSc (List.length sc) (Enc.F eSc (Enc.list eSc (List.length sc) (Enc.F eSc sc)))) (List.getD dr (Int.toNat (Prod.fst x_1)) (0 : Int)))) (Enc.F eRg (M.flows (Enc.list eSc (List.length sc) (Enc.F eSc (Enc.list eSc (List.length sc) (Enc.F eSc sc)))) (List.getD dr (Int.toNat (Prod.fst x_1)) (0 : Int))))) = List.length (Enc.list eSc (List.length sc) (Enc.F eSc (Enc.list eSc (List.length sc) (Enc.F eSc sc))))) (T.need (List.length (Enc.list eSc (List.length sc) (Enc.F eSc (Enc.list eSc (List.length sc) (Enc.F eSc sc)))) ≤ (100000 : Nat)) (T.need (∀ (k : Nat), k < List.length (Enc.list eSc (List.length sc) (Enc.F eSc (Enc.list eSc (List.length sc) (Enc.F eSc sc)))) → Scale.vol (List.getD (Enc.list eSc (List.length sc) (Enc.F eSc (Enc.list eSc (List.length sc) (Enc.F eSc sc)))) k dfS) ≠ (0 : Int)) (T.need (List.length (Prod.fst (Prod.snd x_1)) + (1 : Nat) ≤ (1000000 : Nat)) (T.need (List.length (Prod.fst (Prod.snd x_1)) ≤ List.length (Prod.fst (Prod.snd x_1))) (T.need (Enc.Is eRs (List.length (Prod.fst (Prod.snd x_1)) + (1 : Nat)) (joinF (List.length (Prod.fst (Prod.snd x_1))) (Enc.F eRs (Prod.fst (Prod.snd x_1))) fun (i j : Nat) => List.getD [D.sl false (List.length (M.year (Enc.list eSc (List.length sc) (Enc.F eSc (Enc.list eSc (List.length sc) (Enc.F eSc sc)))) new (Enc.list eRg (List.length (List.getD (Prod.fst (Prod.snd x_1)) (Int.toNat (Prod.fst x_1)) [])) (Enc.F eRg (List.getD (Prod.fst (Prod.snd x_1)) (Int.toNat (Prod.fst x_1)) []))) (Enc.list eRg (List.length (M.flows (Enc.list eSc (List.length sc) (Enc.F eSc (Enc.list eSc (List.length sc) (Enc.F eSc sc)))) (List.getD dr (Int.toNat (Prod.fst x_1)) (0 : Int)))) (Enc.F eRg (M.flows (Enc.list eSc (List.length sc) (Enc.F eSc (Enc.list eSc (List.length sc) (Enc.F eSc sc)))) (List.getD dr (Int.toNat (Prod.fst x_1)) (0 : Int))))))) (2 : Nat) (Enc.F eRg (M.year (Enc.list eSc (List.length sc) (Enc.F eSc (Enc.list eSc (List.length sc) (Enc.F eSc sc)))) new (Enc.list eRg (List.length (List.getD (Prod.fst (Prod.snd x_1)) (Int.toNat (Prod.fst x_1)) [])) (Enc.F eRg (List.getD (Prod.fst (Prod.snd x_1)) (Int.toNat (Prod.fst x_1)) []))) (Enc.list eRg (List.length (M.flows (Enc.list eSc (List.length sc) (Enc.F eSc (Enc.list eSc (List.length sc) (Enc.F eSc sc)))) (List.getD dr (Int.toNat (Prod.fst x_1)) (0 : Int)))) (Enc.F eRg (M.flows (Enc.list eSc (List.length sc) (Enc.F eSc (Enc.list eSc (List.length sc) (Enc.F eSc sc)))) (List.getD dr (Int.toNat (Prod.fst x_1)) (0 : Int)))))))] (i * (1 : Nat) + j) D.nilp)) (T.need (List.length (Prod.fst (Prod.snd x_1)) + (1 : Nat) ≤ List.length (Prod.fst (Prod.snd x_1)) + (1 : Nat)) (T.ret (Sum.inl (IntKind.i64.wrap (Prod.fst x_1 + (1 : Int)), Enc.list eRs (List.length (Prod.fst (Prod.snd x_1)) + (1 : Nat)) (joinF (List.length (Prod.fst (Prod.snd x_1))) (Enc.F eRs (Prod.fst (Prod.snd x_1))) fun (i j : Nat) => List.getD [D.sl false (List.length (M.year (Enc.list eSc (List.length sc) (Enc.F eSc (Enc.list eSc (List.length sc) (Enc.F eSc sc)))) new (Enc.list eRg (List.length (List.getD (Prod.fst (Prod.snd x_1)) (Int.toNat (Prod.fst x_1)) [])) (Enc.F eRg (List.getD (Prod.fst (Prod.snd x_1)) (Int.toNat (Prod.fst x_1)) []))) (Enc.list eRg (List.length (M.flows (Enc.list eSc (List.length sc) (Enc.F eSc (Enc.list eSc (List.length sc) (Enc.F eSc sc)))) (List.getD dr (Int.toNat (Prod.fst x_1)) (0 : Int)))) (Enc.F eRg (M.flows (Enc.list eSc (List.length sc) (Enc.F eSc (Enc.list eSc (List.length sc) (Enc.F eSc sc)))) (List.getD dr (Int.toNat (Prod.fst x_1)) (0 : Int))))))) (2 : Nat) (Enc.F eRg (M.year (Enc.list eSc (List.length sc) (Enc.F eSc (Enc.list eSc (List.length sc) (Enc.F eSc sc)))) new (Enc.list eRg (List.length (List.getD (Prod.fst (Prod.snd x_1)) (Int.toNat (Prod.fst x_1)) [])) (Enc.F eRg (List.getD (Prod.fst (Prod.snd x_1)) (Int.toNat (Prod.fst x_1)) []))) (Enc.list eRg (List.length (M.flows (Enc.list eSc (List.length sc) (Enc.F eSc (Enc.list eSc (List.length sc) (Enc.F eSc sc)))) (List.getD dr (Int.toNat (Prod.fst x_1)) (0 : Int)))) (Enc.F eRg (M.flows (Enc.list eSc (List.length sc) (Enc.F eSc (Enc.list eSc (List.length sc) (Enc.F eSc sc)))) (List.getD dr (Int.toNat (Prod.fst x_1)) (0 : Int)))))))] (i * (1 : Nat) + j) D.nilp), PUnit.unit)))))))))))))))))))))))))) (T.need (List.length (Prod.fst (Prod.snd x_1)) ≤ List.length (Prod.fst (Prod.snd x_1))) (T.ret (Sum.inr (Sum.inr [Ar.c (D.sl true (List.length (Prod.fst (Prod.snd x_1))) (1 : Nat) (Enc.F eRs (Prod.fst (Prod.snd x_1)))), Ar.c (D.int IntKind.i64 (0 : Int))]))))))))))))))
theorem t141 (q_sc : Bool) (sc : List Scale) (new : Int) (q_ag : Bool) (ag : List Rg) (q_dr : Bool) (dr : List Int) : runFnX Try.prog G0 (lookS [v95, v103, v104, v107, v108, v109, v142, v143, v144]) (fun f => [(8, [.slot 40 (.int .i64)], none), (16, [.slot 55 (.int .i64), .slot 14 (.rowE 67 eRs)], none)]) [] 1 60 4 141 Try.f141 [.agg [.sl q_sc sc.length 4 (eSc.F sc), dI new], .c (.sl q_ag ag.length 2 (eRg.F ag)), .c (.sl q_dr dr.length 1 (eI.F dr))] =
    tr141 q_sc sc new q_ag ag q_dr dr := by kernel_rfl
theorem w141 (q : Bool) (sc : List Scale) (nw : Int) (qa : Bool) (ag : List Rg) (qd : Bool) (dr : List Int) (h1 : sc.length ≤ 100000) (h2 : ag.length ≤ 100000) (h3 : dr.length ≤ 100000) : (tr141 q sc nw qa ag qd dr).wp (fun rs => rsEqv rs (resY (M.years sc nw ag dr))) := by
  unfold tr141
  simp only [Enc.list_F]
  refine ⟨Enc.is_F _ _ _, h1, wp_br (fun hb => eqY0 ?_) (fun hb => ?_)⟩
  · unfold M.years; rw [hb]; rfl
  have e1 : M.years sc nw ag dr = M.years1 sc nw ag dr := by unfold M.years; rw [hb]; rfl
  have hs : (M.checkSys sc nw).2 = 0 := by simpa using hb
  have hvol := sys_vol hs
  rw [e1]
  refine ⟨Enc.is_F _ _ _, Enc.is_F _ _ _, h2, wp_br (fun hb => eqY0 ?_) (fun hb => ?_)⟩
  · unfold M.years1; rw [hb]; rfl
  have e2 : M.years1 sc nw ag dr = M.years0 sc nw ag dr := by unfold M.years1; rw [hb]; rfl
  have hf : M.first [M.agesErr sc.length ag, M.unl (decide ((dr.length : Int) ≤ 30)) 8] = 0 := by simpa using hb
  have ha : ag.length = sc.length := by
    rw [first_of] at hf
    split at hf
    · rename_i a; exact ages_len a
    · rename_i a; exact absurd hf a
  rw [e2]
  refine range_wp (n := dr.length) (fun k _ => M.drawsErr dr = (M.badFrom (fun k => M.drawErr (dr.getD k 0)) (dr.length - k) k).2) rfl ?_
  rintro k u hk hI
  refine wp_br (fun hb => ?_) (fun hb => ?_)
  · have hlt := lt_of_dec hb
    refine ⟨by show (0 : Int) ≤ k; omega, by show (k : Int) < dr.length; omega, wp_br (fun hc => ?_) (fun hc => ?_)⟩
    · have hc : (M.drawErr (dr.getD k 0) != 0) = true := hc
      have hd := bne_iff_ne.1 hc
      rw [bad_hit (f := fun k => M.drawErr (dr.getD k 0)) hlt hd] at hI
      have hI : M.drawsErr dr = M.drawErr (dr.getD k 0) := hI
      refine eqY0 (e := M.drawErr (dr.getD k 0)) ?_
      unfold M.years0; rw [hI, hc]; rfl
    · have hc : (M.drawErr (dr.getD k 0) != 0) = false := hc
      have hc : M.drawErr (dr.getD k 0) = 0 := by simpa using hc
      exact ⟨hlt, wrap_succ (by omega), by rw [hI, bad_next (f := fun k => M.drawErr (dr.getD k 0)) hlt hc]⟩
  · have hge := ge_of_dec hb
    obtain rfl : k = dr.length := by omega
    rw [Nat.sub_self] at hI
    have hI : M.drawsErr dr = 0 := hI
    have e3 : M.years0 sc nw ag dr = M.yrows sc nw dr (dr.length - 0) 0 [ag] := by unfold M.years0; rw [hI]; rfl
    have h1' := rs_one (Y := ag)
    refine ⟨by omega, h1'.1, ?_⟩
    rw [h1'.2, e3]
    refine range_wp (n := dr.length) (fun k s => s.1.length = k + 1 ∧ (s.1.getD k []).length = sc.length ∧ M.yrows sc nw dr (dr.length - 0) 0 [ag] = M.yrows sc nw dr (dr.length - k) k s.1) ⟨rfl, ha, rfl⟩ ?_
    rintro k ⟨acc, u⟩ hk ⟨g1, g2, g3⟩
    simp only at g1 g2 g3
    rw [g3]
    refine wp_br (fun hb => ?_) (fun hb => ?_)
    · have hlt := lt_of_dec hb
      have hfl := flows_len sc (dr.getD k 0)
      have hst := yrows_step (sc := sc) (nw := nw) (dr := dr) (n := dr.length) (k := k) (acc := acc) hlt
      refine ⟨by show (0 : Int) ≤ k; omega, by show (k : Int) < dr.length; omega, Enc.is_F _ _ _, h1, Enc.is_F _ _ _, Enc.is_F _ _ _, Nat.le_of_eq hfl, h1, wp_br (fun hc => ?_) (fun hc => ?_)⟩
      · have hc : decide (M.over sc (M.flows sc (dr.getD k 0)) ≥ 0) = true := hc
        refine eqY0 ?_
        rw [hst, hc]; rfl
      · have hc : decide (M.over sc (M.flows sc (dr.getD k 0)) ≥ 0) = false := hc
        rw [hc] at hst
        have hst : M.yrows sc nw dr (dr.length - k) k acc = M.yrows sc nw dr (dr.length - (k + 1)) (k + 1) (acc ++ [M.year sc nw (acc.getD k []) (M.flows sc (dr.getD k 0))]) := hst
        have hp := eRs.push (l := acc) (a := M.year sc nw (acc.getD k []) (M.flows sc (dr.getD k 0))) (G := rsG (M.year sc nw (acc.getD k []) (M.flows sc (dr.getD k 0)))) rs_push.1 rs_push.2
        refine ⟨by show (0 : Int) ≤ k; omega, by show (k : Int) < acc.length; omega, by show (k : Int).toNat < acc.length; omega, Enc.is_F _ _ _, Enc.is_F _ _ _, Enc.is_F _ _ _, g2, hfl, h1, hvol, by show acc.length + 1 ≤ 1000000; omega, Nat.le_refl _, hp.1, Nat.le_refl _, hlt, wrap_succ (by omega), ?_⟩
        have hl : (acc ++ [M.year sc nw (acc.getD k []) (M.flows sc (dr.getD k 0))]).getD (k + 1) [] = M.year sc nw (acc.getD k []) (M.flows sc (dr.getD k 0)) := by
          rw [List.getD_eq_getElem?_getD, List.getElem?_append_right (by omega), g1, Nat.sub_self]; rfl
        have fin : ∀ L : List (List Rg), L = acc ++ [M.year sc nw (acc.getD k []) (M.flows sc (dr.getD k 0))] → L.length = k + 1 + 1 ∧ (L.getD (k + 1) []).length = sc.length ∧ M.yrows sc nw dr (dr.length - k) k acc = M.yrows sc nw dr (dr.length - (k + 1)) (k + 1) L := by
          rintro L rfl
          refine ⟨by rw [List.length_append, g1]; rfl, ?_, hst⟩
          rw [hl]; exact year_len _ _ _ _
        exact fin _ hp.2
    · have hge := ge_of_dec hb
      obtain rfl : k = dr.length := by omega
      rw [Nat.sub_self]
      refine ⟨Nat.le_refl _, ⟨(fun e => by cases e), rfl, fun _ => rfl, fun i j hi hj => D.eqv_refl _⟩, rfl, trivial⟩
def dom141 : DomF
  | [.agg [.sl _ n_sc st_sc F_sc, .int .i64 new], .c (.sl _ n_ag st_ag F_ag), .c (.sl _ n_dr st_dr F_dr)] => (match Nat.beq st_sc 4 && Nat.beq st_ag 2 && Nat.beq st_dr 1 with
    | true => some ([eSc.Is n_sc F_sc, eRg.Is n_ag F_ag, eI.Is n_dr F_dr, (eSc.list n_sc F_sc).length ≤ 100000, (eRg.list n_ag F_ag).length ≤ 100000, (eI.list n_dr F_dr).length ≤ 100000], resY (M.years (eSc.list n_sc F_sc) new (eRg.list n_ag F_ag) (eI.list n_dr F_dr)))
    | _ => none)
  | _ => none
def v141 : Nat × Sm := (141, fokSm dom141)
theorem C141 : FOK Try.prog G0 gw 141 dom141 := by
  intro ags p r hd hp κ w xs hw hl hG hx
  unfold dom141 at hd
  split at hd
  · rename_i q_sc n_sc st_sc F_sc new q_ag n_ag st_ag F_ag q_dr n_dr st_dr F_dr
    split at hd
    · rename_i hst
      simp only [Bool.and_eq_true] at hst
      obtain ⟨⟨g1, g2⟩, g3⟩ := hst
      have g1 := Nat.eq_of_beq_eq_true g1
      have g2 := Nat.eq_of_beq_eq_true g2
      have g3 := Nat.eq_of_beq_eq_true g3
      subst g1 g2 g3
      simp only [Option.some.injEq, Prod.mk.injEq] at hd
      obtain ⟨rfl, rfl⟩ := hd
      obtain ⟨hI_sc, hI_ag, hI_dr, hp⟩ := hp
      have heq : agsEqv [.agg [.sl q_sc n_sc 4 F_sc, .int .i64 new], .c (.sl q_ag n_ag 2 F_ag), .c (.sl q_dr n_dr 1 F_dr)] [.agg [.sl q_sc (eSc.list n_sc F_sc).length 4 (eSc.F (eSc.list n_sc F_sc)), .int .i64 new], .c (.sl q_ag (eRg.list n_ag F_ag).length 2 (eRg.F (eRg.list n_ag F_ag))), .c (.sl q_dr (eI.list n_dr F_dr).length 1 (eI.F (eI.list n_dr F_dr)))] := ⟨⟨eSc.to id hI_sc, rfl, trivial⟩, eRg.to id hI_ag, eI.to id hI_dr, trivial⟩
      have len_sc : (eSc.list n_sc F_sc).length = n_sc := eSc.list_len
      have len_ag : (eRg.list n_ag F_ag).length = n_ag := eRg.list_len
      have len_dr : (eI.list n_dr F_dr).length = n_dr := eI.list_len
      generalize eSc.list n_sc F_sc = sc at *
      generalize eRg.list n_ag F_ag = ag at *
      generalize eI.list n_dr F_dr = dr at *
      subst len_sc len_ag len_dr
      exact fokX_fin mixed gw_stable (sl := [v95, v103, v104, v107, v108, v109, v142, v143, v144]) ⟨S95, S103, S104, S107, S108, S109, S142, S143, S144, trivial⟩ Try.func141 hw hl hG hx heq rfl (t141 _ _ _ _ _ _ _) (w141 _ _ _ _ _ _ _ hp.1 hp.2.1 hp.2.2.1)
    · cases hd
  · cases hd
theorem S141 : SumOK Try.prog G0 gw 141 (fokSm dom141) := fok_sum Try.func141 rfl C141
end Go.Pl
end

section
set_option linter.unusedVariables false
set_option linter.unusedSimpArgs false
set_option maxRecDepth 100000
namespace Go.Pl
open Go.V Go.Proofs
namespace M
def after (sc : List Scale) (nw : Int) (ag : List Rg) (dr : List Int) : List Rg × Int := cond ((years sc nw ag dr).2 != 0) ([], (years sc nw ag dr).2) ((years sc nw ag dr).1.getD dr.length [], 0)
end M
theorem yrows_ok {sc : List Scale} {nw : Int} {dr : List Int} : ∀ (m k : Nat) (acc : List (List Rg)), acc.length = k + 1 → (∀ r, r ∈ acc → r.length = sc.length) → (M.yrows sc nw dr m k acc).2 = 0 →
    (M.yrows sc nw dr m k acc).1.length = k + 1 + m ∧ ∀ r, r ∈ (M.yrows sc nw dr m k acc).1 → r.length = sc.length := by
  intro m
  induction m with
  | zero => intro k acc h1 h2 _; exact ⟨h1, h2⟩
  | succ m ih =>
    intro k acc h1 h2 h
    simp only [M.yrows] at h ⊢
    cases hc : decide (M.over sc (M.flows sc (dr.getD k 0)) ≥ 0) with
    | true => rw [hc] at h; have h : (16 : Int) = 0 := h; exact absurd h (by decide)
    | false =>
      rw [hc] at h
      simp only [cond_false] at h ⊢
      have := ih (k + 1) _ (by rw [List.length_append, h1]; rfl) (by
        intro r hr
        rcases List.mem_append.1 hr with hr | hr
        · exact h2 r hr
        · rw [List.mem_singleton.1 hr]; exact year_len _ _ _ _) h
      exact ⟨by omega, this.2⟩
theorem years_ok {sc : List Scale} {nw : Int} {ag : List Rg} {dr : List Int} (h : (M.years sc nw ag dr).2 = 0) :
    (M.years sc nw ag dr).1.length = dr.length + 1 ∧ (∀ r, r ∈ (M.years sc nw ag dr).1 → r.length = sc.length) ∧ M.years sc nw ag dr = M.yrows sc nw dr dr.length 0 [ag] ∧ (M.checkSys sc nw).2 = 0 ∧ M.agesErr sc.length ag = 0 ∧ M.drawsErr dr = 0 := by
  cases hb : ((M.checkSys sc nw).2 != 0) with
  | true =>
    have e : M.years sc nw ag dr = ([], (M.checkSys sc nw).2) := by unfold M.years; rw [hb]; rfl
    rw [e] at h
    have h : (M.checkSys sc nw).2 = 0 := h
    rw [h] at hb; cases hb
  | false =>
    have e1 : M.years sc nw ag dr = M.years1 sc nw ag dr := by unfold M.years; rw [hb]; rfl
    cases hb2 : (M.first [M.agesErr sc.length ag, M.unl (decide ((dr.length : Int) ≤ 30)) 8] != 0) with
    | true =>
      have e : M.years1 sc nw ag dr = ([], M.first [M.agesErr sc.length ag, M.unl (decide ((dr.length : Int) ≤ 30)) 8]) := by unfold M.years1; rw [hb2]; rfl
      rw [e1, e] at h
      have h : M.first [M.agesErr sc.length ag, M.unl (decide ((dr.length : Int) ≤ 30)) 8] = 0 := h
      rw [h] at hb2; cases hb2
    | false =>
      have e2 : M.years1 sc nw ag dr = M.years0 sc nw ag dr := by unfold M.years1; rw [hb2]; rfl
      have hf : M.first [M.agesErr sc.length ag, M.unl (decide ((dr.length : Int) ≤ 30)) 8] = 0 := by simpa using hb2
      have ha : M.agesErr sc.length ag = 0 := by
        rw [first_of] at hf
        split at hf
        · assumption
        · rename_i a; exact absurd hf a
      cases hb3 : (M.drawsErr dr != 0) with
      | true =>
        have e : M.years0 sc nw ag dr = ([], M.drawsErr dr) := by unfold M.years0; rw [hb3]; rfl
        rw [e1, e2, e] at h
        have h : M.drawsErr dr = 0 := h
        rw [h] at hb3; cases hb3
      | false =>
        have e3 : M.years0 sc nw ag dr = M.yrows sc nw dr dr.length 0 [ag] := by unfold M.years0; rw [hb3]; rfl
        have e : M.years sc nw ag dr = M.yrows sc nw dr dr.length 0 [ag] := by rw [e1, e2, e3]
        rw [e] at h ⊢
        have := yrows_ok dr.length 0 [ag] rfl (by intro r hr; rw [List.mem_singleton.1 hr]; exact ages_len ha) h
        exact ⟨by omega, this.2, rfl, by simpa using hb, ha, by simpa using hb3⟩
def tr67 (q_sc : Bool) (sc : List Scale) (new : Int) (q_ag : Bool) (ag : List Rg) (q_dr : Bool) (dr : List Int) : T (List Ar) :=
    T.need (Enc.Is eSc (List.length sc) (Enc.F eSc sc)) (T.need (Enc.Is eRg (List.length ag) (Enc.F eRg ag)) (T.need (Enc.Is eI (List.length dr) (Enc.F eI dr)) (T.need (List.length (Enc.list eSc (List.length sc) (Enc.F eSc sc)) ≤ (100000 : Nat)) (T.need (List.length (Enc.list eRg (List.length ag) (Enc.F eRg ag)) ≤ (100000 : Nat)) (T.need (List.length (Enc.list eI (List.length dr) (Enc.F eI dr)) ≤ (100000 : Nat)) (T.br (Prod.snd (M.years (Enc.list eSc (List.length sc) (Enc.F eSc sc)) new (Enc.list eRg (List.length ag) (Enc.F eRg ag)) (Enc.list eI (List.length dr) (Enc.F eI dr))) != (0 : Int)) (T.ret [Ar.c (D.sl false (0 : Nat) (0 : Nat) fun (x x_1 : Nat) => D.nilp), Ar.c (D.int IntKind.i64 (Prod.snd (M.years (Enc.list eSc (List.length sc) (Enc.F eSc sc)) new (Enc.list eRg (List.length ag) (Enc.F eRg ag)) (Enc.list eI (List.length dr) (Enc.F eI dr)))))]) (T.need ((0 : Int) ≤ (Nat.cast (R := Int) (List.length dr))) (T.need ((Nat.cast (R := Int) (List.length dr)) < (Nat.cast (R := Int) (List.length (Prod.fst (M.years (Enc.list eSc (List.length sc) (Enc.F eSc sc)) new (Enc.list eRg (List.length ag) (Enc.F eRg ag)) (Enc.list eI (List.length dr) (Enc.F eI dr))))))) (T.ret [Ar.c (D.sl false (List.length (List.getD (Prod.fst (M.years (Enc.list eSc (List.length sc) (Enc.F eSc sc)) new (Enc.list eRg (List.length ag) (Enc.F eRg ag)) (Enc.list eI (List.length dr) (Enc.F eI dr)))) (Int.toNat (Nat.cast (R := Int) (List.length dr))) [])) (2 : Nat) (Enc.F eRg (List.getD (Prod.fst (M.years (Enc.list eSc (List.length sc) (Enc.F eSc sc)) new (Enc.list eRg (List.length ag) (Enc.F eRg ag)) (Enc.list eI (List.length dr) (Enc.F eI dr)))) (Int.toNat (Nat.cast (R := Int) (List.length dr))) []))), Ar.c (D.int IntKind.i64 (0 : Int))])))))))))
theorem t67 (q_sc : Bool) (sc : List Scale) (new : Int) (q_ag : Bool) (ag : List Rg) (q_dr : Bool) (dr : List Int) : runFnX Try.prog G0 (lookS [v141]) (fun _ => []) [] 1 60 4 67 Try.f67 [.agg [.sl q_sc sc.length 4 (eSc.F sc), dI new], .c (.sl q_ag ag.length 2 (eRg.F ag)), .c (.sl q_dr dr.length 1 (eI.F dr))] =
    tr67 q_sc sc new q_ag ag q_dr dr := by kernel_rfl
abbrev resA (x : List Rg × Int) : List Ar := [.c (dR x.1), rI x.2]
theorem w67 (q : Bool) (sc : List Scale) (nw : Int) (qa : Bool) (ag : List Rg) (qd : Bool) (dr : List Int) (h1 : sc.length ≤ 100000) (h2 : ag.length ≤ 100000) (h3 : dr.length ≤ 100000) : (tr67 q sc nw qa ag qd dr).wp (fun rs => rsEqv rs (resA (M.after sc nw ag dr))) := by
  unfold tr67
  simp only [Enc.list_F]
  refine ⟨Enc.is_F _ _ _, Enc.is_F _ _ _, Enc.is_F _ _ _, h1, h2, h3, wp_br (fun hb => ?_) (fun hb => ?_)⟩
  · have e : M.after sc nw ag dr = ([], (M.years sc nw ag dr).2) := by unfold M.after; rw [hb]; rfl
    rw [e]; exact ⟨nil_eqv eRg, rfl, trivial⟩
  have e : M.after sc nw ag dr = ((M.years sc nw ag dr).1.getD dr.length [], 0) := by unfold M.after; rw [hb]; rfl
  have h0 : (M.years sc nw ag dr).2 = 0 := by simpa using hb
  obtain ⟨y1, y2, -⟩ := years_ok h0
  rw [e]
  exact ⟨by omega, by omega, rsEqv_refl _⟩
def dom67 : DomF
  | [.agg [.sl _ n_sc st_sc F_sc, .int .i64 new], .c (.sl _ n_ag st_ag F_ag), .c (.sl _ n_dr st_dr F_dr)] => (match Nat.beq st_sc 4 && Nat.beq st_ag 2 && Nat.beq st_dr 1 with
    | true => some ([eSc.Is n_sc F_sc, eRg.Is n_ag F_ag, eI.Is n_dr F_dr, (eSc.list n_sc F_sc).length ≤ 100000, (eRg.list n_ag F_ag).length ≤ 100000, (eI.list n_dr F_dr).length ≤ 100000], resA (M.after (eSc.list n_sc F_sc) new (eRg.list n_ag F_ag) (eI.list n_dr F_dr)))
    | _ => none)
  | _ => none
def v67 : Nat × Sm := (67, fokSm dom67)
theorem C67 : FOK Try.prog G0 gw 67 dom67 := by
  intro ags p r hd hp κ w xs hw hl hG hx
  unfold dom67 at hd
  split at hd
  · rename_i q_sc n_sc st_sc F_sc new q_ag n_ag st_ag F_ag q_dr n_dr st_dr F_dr
    split at hd
    · rename_i hst
      simp only [Bool.and_eq_true] at hst
      obtain ⟨⟨g1, g2⟩, g3⟩ := hst
      have g1 := Nat.eq_of_beq_eq_true g1
      have g2 := Nat.eq_of_beq_eq_true g2
      have g3 := Nat.eq_of_beq_eq_true g3
      subst g1 g2 g3
      simp only [Option.some.injEq, Prod.mk.injEq] at hd
      obtain ⟨rfl, rfl⟩ := hd
      obtain ⟨hI_sc, hI_ag, hI_dr, hp⟩ := hp
      have heq : agsEqv [.agg [.sl q_sc n_sc 4 F_sc, .int .i64 new], .c (.sl q_ag n_ag 2 F_ag), .c (.sl q_dr n_dr 1 F_dr)] [.agg [.sl q_sc (eSc.list n_sc F_sc).length 4 (eSc.F (eSc.list n_sc F_sc)), .int .i64 new], .c (.sl q_ag (eRg.list n_ag F_ag).length 2 (eRg.F (eRg.list n_ag F_ag))), .c (.sl q_dr (eI.list n_dr F_dr).length 1 (eI.F (eI.list n_dr F_dr)))] := ⟨⟨eSc.to id hI_sc, rfl, trivial⟩, eRg.to id hI_ag, eI.to id hI_dr, trivial⟩
      have len_sc : (eSc.list n_sc F_sc).length = n_sc := eSc.list_len
      have len_ag : (eRg.list n_ag F_ag).length = n_ag := eRg.list_len
      have len_dr : (eI.list n_dr F_dr).length = n_dr := eI.list_len
      generalize eSc.list n_sc F_sc = sc at *
      generalize eRg.list n_ag F_ag = ag at *
      generalize eI.list n_dr F_dr = dr at *
      subst len_sc len_ag len_dr
      exact fokX_fin mixed gw_stable (sl := [v141]) ⟨S141, trivial⟩ Try.func67 hw hl hG hx heq rfl (t67 _ _ _ _ _ _ _) (w67 _ _ _ _ _ _ _ hp.1 hp.2.1 hp.2.2.1)
    · cases hd
  · cases hd
theorem S67 : SumOK Try.prog G0 gw 67 (fokSm dom67) := fok_sum Try.func67 rfl C67
end Go.Pl
end

section
set_option linter.unusedVariables false
set_option linter.unusedSimpArgs false
set_option maxRecDepth 100000
namespace Go.Pl
open Go.V Go.Proofs
end Go.Pl
end

section
set_option linter.unusedVariables false
set_option linter.unusedSimpArgs false
set_option maxRecDepth 100000
namespace Go.Pl
open Go.V Go.Proofs
def tr39 (q_a : Bool) (a : List Rg) (q_b : Bool) (b : List Rg) : T (List Ar) :=
    T.br ((Nat.cast (R := Int) (List.length a)) != (Nat.cast (R := Int) (List.length b))) (T.ret [Ar.c (D.bool false)]) (T.loop (Int × PUnit) ((0 : Int), PUnit.unit) fun (x : Int × PUnit) => T.br (decide (Prod.fst x < (Nat.cast (R := Int) (List.length a)))) (T.need ((0 : Int) ≤ Prod.fst x) (T.need (Prod.fst x < (Nat.cast (R := Int) (List.length a))) (T.need ((0 : Int) ≤ Prod.fst x) (T.need (Prod.fst x < (Nat.cast (R := Int) (List.length b))) (T.br (!(Rg.lo (List.getD a (Int.toNat (Prod.fst x)) dfR) == Rg.lo (List.getD b (Int.toNat (Prod.fst x)) dfR) && (Rg.hi (List.getD a (Int.toNat (Prod.fst x)) dfR) == Rg.hi (List.getD b (Int.toNat (Prod.fst x)) dfR) && true))) (T.ret (Sum.inr [Ar.c (D.bool false)])) (T.ret (Sum.inl (IntKind.i64.wrap (Prod.fst x + (1 : Int)), PUnit.unit)))))))) (T.ret (Sum.inr [Ar.c (D.bool true)])))
theorem t39 (q_a : Bool) (a : List Rg) (q_b : Bool) (b : List Rg) : runFnX Try.prog G0 (lookS []) (fun f => [(4, [.slot 5 (.int .i64)], none)]) [] 1 60 4 39 Try.f39 [.c (.sl q_a a.length 2 (eRg.F a)), .c (.sl q_b b.length 2 (eRg.F b))] =
    tr39 q_a a q_b b := by kernel_rfl
theorem w39 (q : Bool) (a : List Rg) (q' : Bool) (b : List Rg) (h : a = b) (h1 : a.length ≤ 100000) : (tr39 q a q' b).wp (fun rs => rsEqv rs [rB true]) := by
  subst h
  unfold tr39
  refine wp_br (fun hb => ?_) (fun hb => ?_)
  · have hb : ((a.length : Int) != (a.length : Int)) = true := hb
    rw [bne_self_eq_false] at hb; cases hb
  refine range_wp (n := a.length) (fun k _ => True) trivial ?_
  rintro k s hk hI
  refine wp_br (fun hb => ?_) (fun hb => ?_)
  · have hlt := lt_of_dec hb
    refine ⟨by show (0 : Int) ≤ k; omega, by show (k : Int) < a.length; omega, by show (0 : Int) ≤ k; omega, by show (k : Int) < a.length; omega, wp_br (fun hx => ?_) (fun hx => ?_)⟩
    · simp at hx
    · exact ⟨hlt, wrap_succ (by omega), trivial⟩
  · exact rsEqv_refl _
namespace M
end M
def dom39 : DomF
  | [.c (.sl _ n_a st_a F_a), .c (.sl _ n_b st_b F_b)] => (match Nat.beq st_a 2 && Nat.beq st_b 2 with
    | true => some ([eRg.Is n_a F_a, eRg.Is n_b F_b, (eRg.list n_a F_a) = (eRg.list n_b F_b), (eRg.list n_a F_a).length ≤ 100000], [rB true])
    | _ => none)
  | _ => none
def v39 : Nat × Sm := (39, fokSm dom39)
theorem C39 : FOK Try.prog G0 gw 39 dom39 := by
  intro ags p r hd hp κ w xs hw hl hG hx
  unfold dom39 at hd
  split at hd
  · rename_i q_a n_a st_a F_a q_b n_b st_b F_b
    split at hd
    · rename_i hst
      simp only [Bool.and_eq_true] at hst
      obtain ⟨g1, g2⟩ := hst
      have g1 := Nat.eq_of_beq_eq_true g1
      have g2 := Nat.eq_of_beq_eq_true g2
      subst g1 g2
      simp only [Option.some.injEq, Prod.mk.injEq] at hd
      obtain ⟨rfl, rfl⟩ := hd
      obtain ⟨hI_a, hI_b, hp⟩ := hp
      have heq : agsEqv [.c (.sl q_a n_a 2 F_a), .c (.sl q_b n_b 2 F_b)] [.c (.sl q_a (eRg.list n_a F_a).length 2 (eRg.F (eRg.list n_a F_a))), .c (.sl q_b (eRg.list n_b F_b).length 2 (eRg.F (eRg.list n_b F_b)))] := ⟨eRg.to id hI_a, eRg.to id hI_b, trivial⟩
      have len_a : (eRg.list n_a F_a).length = n_a := eRg.list_len
      have len_b : (eRg.list n_b F_b).length = n_b := eRg.list_len
      generalize eRg.list n_a F_a = a at *
      generalize eRg.list n_b F_b = b at *
      subst len_a len_b
      exact fokX_fin mixed gw_stable (sl := []) trivial Try.func39 hw hl hG hx heq rfl (t39 _ _ _ _) (w39 _ _ _ _ hp.1 hp.2.1)
    · cases hd
  · cases hd
theorem S39 : SumOK Try.prog G0 gw 39 (fokSm dom39) := fok_sum Try.func39 rfl C39
end Go.Pl
end

section
set_option linter.unusedVariables false
set_option linter.unusedSimpArgs false
set_option maxRecDepth 100000
namespace Go.Pl
open Go.V Go.Proofs
namespace M
end M
end Go.Pl
end

section
set_option linter.unusedVariables false
set_option linter.unusedSimpArgs false
set_option maxRecDepth 100000
namespace Go.Pl
open Go.V Go.Proofs
namespace M
end M
end Go.Pl
end

section
set_option linter.unusedVariables false
set_option linter.unusedSimpArgs false
set_option maxRecDepth 100000
namespace Go.Pl
open Go.V Go.Proofs
end Go.Pl
end

section
set_option linter.unusedVariables false
set_option linter.unusedSimpArgs false
set_option maxRecDepth 100000
namespace Go.Pl
open Go.V Go.Proofs
theorem br_t {α : Type} {b : Bool} {x y : T α} {Q : α → Prop} (h : b = true) (hx : x.wp Q) : (T.br b x y).wp Q := wp_br (fun _ => hx) (fun h' => by rw [h] at h'; cases h')
theorem br_f {α : Type} {b : Bool} {x y : T α} {Q : α → Prop} (h : b = false) (hy : y.wp Q) : (T.br b x y).wp Q := wp_br (fun h' => by rw [h] at h'; cases h') (fun _ => hy)
abbrev cS (sc : List Scale) : List Scale := Enc.list eSc (List.length sc) (Enc.F eSc sc)
abbrev cR (ag : List Rg) : List Rg := Enc.list eRg (List.length ag) (Enc.F eRg ag)
abbrev iS (sc : List Scale) : Prop := Enc.Is eSc (List.length sc) (Enc.F eSc sc)
abbrev iR (ag : List Rg) : Prop := Enc.Is eRg (List.length ag) (Enc.F eRg ag)
end Go.Pl
end

section
set_option linter.unusedVariables false
set_option linter.unusedSimpArgs false
set_option maxRecDepth 100000
namespace Go.Pl
open Go.V Go.Proofs
namespace M
end M
theorem idx_none {p : Nat → Bool} : ∀ (n k : Nat), M.firstIdx p n k < 0 → ∀ i, k ≤ i → i < k + n → p i = false := by
  intro n
  induction n with
  | zero => intro k _ i h1 h2; omega
  | succ n ih =>
    intro k h i h1 h2
    simp only [M.firstIdx] at h
    cases hp : p k with
    | true => rw [hp] at h; have h : (k : Int) < 0 := h; omega
    | false =>
      rw [hp] at h
      rcases Nat.lt_or_ge k i with hl | hl
      · exact ih (k + 1) h i (by omega) (by omega)
      · obtain rfl : i = k := by omega
        exact hp
end Go.Pl
end

section
set_option linter.unusedVariables false
set_option linter.unusedSimpArgs false
set_option maxRecDepth 100000
namespace Go.Pl
open Go.V Go.Proofs
end Go.Pl
end

section
set_option linter.unusedVariables false
set_option linter.unusedSimpArgs false
set_option maxRecDepth 100000
namespace Go.Pl
open Go.V Go.Proofs
end Go.Pl
end

section
set_option linter.unusedVariables false
set_option linter.unusedSimpArgs false
set_option maxRecDepth 100000
namespace Go.Pl
open Go.V Go.Proofs
end Go.Pl
end

section
set_option linter.unusedVariables false
set_option linter.unusedSimpArgs false
set_option maxRecDepth 100000
namespace Go.Pl
open Go.V Go.Proofs
end Go.Pl
end

section
set_option linter.unusedVariables false
set_option linter.unusedSimpArgs false
set_option maxRecDepth 100000
namespace Go.Pl
open Go.V Go.Proofs
namespace M
end M
end Go.Pl
end

section
set_option linter.unusedVariables false
set_option linter.unusedSimpArgs false
set_option maxRecDepth 100000
namespace Go.Pl
open Go.V Go.Proofs
namespace M
end M
end Go.Pl
end

section
set_option linter.unusedVariables false
set_option linter.unusedSimpArgs false
set_option maxRecDepth 100000
namespace Go.Pl
open Go.V Go.Proofs
namespace M
end M
end Go.Pl
end

section
set_option linter.unusedVariables false
set_option linter.unusedSimpArgs false
set_option maxRecDepth 100000
namespace Go.Pl
open Go.V Go.Proofs
end Go.Pl
end

section
set_option linter.unusedVariables false
set_option linter.unusedSimpArgs false
set_option maxRecDepth 100000
namespace Go.Pl
open Go.V Go.Proofs
namespace M
def room (d : Dem) (den : Int) (pa : List Int) : Int := IntKind.i64.wrap (IntKind.i64.wrap (d.am * den) - dot d.co pa)
end M
end Go.Pl
end

section
set_option linter.unusedVariables false
set_option linter.unusedSimpArgs false
set_option maxRecDepth 100000
namespace Go.Pl
open Go.V Go.Proofs
namespace M
def zeroR (de : List Dem) (den : Int) (pa : List Int) (k : Nat) : Bool := room (de.getD k dfD) den pa == 0
def bindK (z : Nat → Bool) (k : Nat) : List Int := ((List.range k).filter z).map (fun i : Nat => (i : Int))
def binds (de : List Dem) (den : Int) (pa : List Int) : List Int := bindK (zeroR de den pa) de.length
end M
end Go.Pl
end

section
set_option linter.unusedVariables false
set_option linter.unusedSimpArgs false
set_option maxRecDepth 100000
namespace Go.Pl
open Go.V Go.Proofs
theorem first_zero : ∀ {l : List Int}, M.first l = 0 → ∀ x, x ∈ l → x = 0 := by
  intro l
  induction l with
  | nil => intro _ x hx; cases hx
  | cons a l ih =>
    intro h x hx
    rw [first_of] at h
    split at h
    · rename_i ha
      rcases List.mem_cons.1 hx with rfl | hx
      · exact ha
      · exact ih h x hx
    · rename_i ha; exact absurd h ha
structure RightP (mo ga : List Int) (de : List Dem) : Prop where
  n0 : 0 < mo.length
  n4 : mo.length ≤ 4
  lg : ga.length = mo.length
  ld : de.length ≤ 8
  rm : ∀ x, x ∈ mo → 0 ≤ x ∧ x ≤ 1000000
  rg : ∀ x, x ∈ ga → -100 ≤ x ∧ x ≤ 100
  rd : ∀ d, d ∈ de → d.co.length = mo.length ∧ (∀ x, x ∈ d.co → -100 ≤ x ∧ x ≤ 100) ∧ -1000000 ≤ d.am ∧ d.am ≤ 1000000
namespace M
end M
end Go.Pl
end

section
set_option linter.unusedVariables false
set_option linter.unusedSimpArgs false
set_option maxRecDepth 100000
namespace Go.Pl
open Go.V Go.Proofs
namespace M
def stN (g : Rg → Int) (sc : List Scale) (fl : List Rg) : Nat → Nat → Int → Int → Int × Int
  | 0, _, N, D => (N, D)
  | m + 1, i, N, D => stN g sc fl m (i + 1) (N * g (fl.getD i dfR) + D * (1000 * (sc.getD i dfS).vol)) (D * g (fl.getD i dfR))
def steady (g : Rg → Int) (sc : List Scale) (nw : Int) (fl : List Rg) (i : Nat) : Int × Int := (nw + (stN g sc fl (sc.length - i) i 0 1).1 / (stN g sc fl (sc.length - i) i 0 1).2, nw - (-(stN g sc fl (sc.length - i) i 0 1).1) / (stN g sc fl (sc.length - i) i 0 1).2)
end M
theorem ediv_at {N D k : Int} (hD : 0 < D) (h1 : k * D ≤ N) (h2 : N < (k + 1) * D) : N / D = k := by
  have a := (Int.le_ediv_iff_mul_le hD).2 h1
  have b := (Int.ediv_lt_iff_lt_mul hD).2 h2
  omega
theorem tdm {n f : Int} (hn : 0 ≤ n) (hf : 0 < f) : n.tdiv f * f + n.tmod f = n ∧ 0 ≤ n.tmod f ∧ n.tmod f < f ∧ 0 ≤ n.tdiv f ∧ n.tdiv f ≤ n := by
  rw [Int.tdiv_eq_ediv_of_nonneg hn, Int.tmod_eq_emod_of_nonneg hn]
  refine ⟨Int.ediv_mul_add_emod .., Int.emod_nonneg _ (by omega), Int.emod_lt_of_pos _ hf, Int.ediv_nonneg hn (by omega), Int.ediv_le_self _ hn⟩
theorem stepK {x y f n A C D N s nw q r z w : Int} (h1 : y * A = D) (h2 : (s - nw) * D + x * A + C * y = N) (h3 : q * f + r = n) (h4 : z * (y * f) + w = x * f + r * y) : (y * f) * A = D * f ∧ (s + q + z - nw) * (D * f) + w * A + C * (y * f) = N * f + D * n := by
  constructor
  · rw [← h1, Int.mul_right_comm]
  · have e1 : w = x * f + r * y - z * (y * f) := by omega
    have e2 : n = q * f + r := by omega
    subst e1 e2 h1 h2
    grind
theorem step1 {x y f v s : Int} (hx : 0 ≤ x ∧ x < y) (hy : y ≤ 100000) (hf : 0 < f ∧ f ≤ 100000) (hv : 0 ≤ v ∧ v ≤ 20000) (hs : 0 ≤ s ∧ s ≤ 1000000000) :
    IntKind.i64.wrap (y * f) = y * f ∧ 0 < y * f ∧ y * f ≤ 100000 * y ∧ ∃ q r z w : Int, q * f + r = 1000 * v ∧ z * (y * f) + w = x * f + r * y ∧ (0 ≤ w ∧ w < y * f) ∧
      stS s x y f (IntKind.i64.wrap (1000 * v)) = s + q + z ∧ (stX x y f (IntKind.i64.wrap (1000 * v))).tmod (y * f) = w ∧ 0 ≤ s + q + z ∧ s + q + z ≤ s + 20000002 := by
  have hn : IntKind.i64.wrap (1000 * v) = 1000 * v := wrap_id (by omega) (by omega)
  rw [hn]
  obtain ⟨t1, t2, t3, t4, t5⟩ := tdm (n := 1000 * v) (f := f) (by omega) hf.1
  have hyf : y * f ≤ 100000 * y := by rw [Int.mul_comm 100000]; exact Int.mul_le_mul_of_nonneg_left hf.2 (by omega)
  have hyf0 : 0 < y * f := Int.mul_pos (by omega) hf.1
  have hxf : x * f ≤ y * f := Int.mul_le_mul_of_nonneg_right (by omega) (by omega)
  have hxf' : x * f < y * f := Int.mul_lt_mul_of_pos_right hx.2 hf.1
  have hxf0 : 0 ≤ x * f := Int.mul_nonneg hx.1 (by omega)
  have hry : (1000 * v).tmod f * y ≤ y * f := by rw [Int.mul_comm y]; exact Int.mul_le_mul_of_nonneg_right (by omega) (by omega)
  have hry0 : 0 ≤ (1000 * v).tmod f * y := Int.mul_nonneg t2 (by omega)
  have hq : (1000 * v).tdiv f ≤ 20000000 := by omega
  have e1 : stX x y f (1000 * v) = x * f + (1000 * v).tmod f * y := by
    unfold stX
    rw [wrap_id (n := x * f) (by omega) (by omega), wrap_id (n := (1000 * v).tmod f * y) (by omega) (by omega), wrap_id (by omega) (by omega)]
  have e0 : IntKind.i64.wrap (y * f) = y * f := wrap_id (by omega) (by omega)
  obtain ⟨u1, u2, u3, u4, u5⟩ := tdm (n := x * f + (1000 * v).tmod f * y) (f := y * f) (by omega) hyf0
  have hz : (x * f + (1000 * v).tmod f * y).tdiv (y * f) ≤ 1 := by
    rcases Int.lt_or_le 1 ((x * f + (1000 * v).tmod f * y).tdiv (y * f)) with h | h
    · exfalso
      have h2 : 2 * (y * f) ≤ (x * f + (1000 * v).tmod f * y).tdiv (y * f) * (y * f) := Int.mul_le_mul_of_nonneg_right (by omega) (by omega)
      omega
    · exact h
  refine ⟨e0, hyf0, hyf, _, _, _, _, t1, u1, ⟨u2, u3⟩, ?_, by rw [e1], by omega, by omega⟩
  unfold stS
  rw [e1, e0, wrap_id (n := (1000 * v).tdiv f) (by omega) (by omega), wrap_id (n := s + (1000 * v).tdiv f) (by omega) (by omega), wrap_id (n := (x * f + (1000 * v).tmod f * y).tdiv (y * f)) (by omega) (by omega), wrap_id (by omega) (by omega)]
theorem stEnd_wp {ta tc : Bool} {s a b c d nw N D : Int} (hD : b * d = D) (hN : (s - nw) * D + a * d + c * b = N) (ha : 0 ≤ a ∧ a < b) (hc : 0 ≤ c ∧ c < d) (hb : b ≤ 10000000000) (hd : d ≤ 10000000000) (hs : 0 ≤ s ∧ s ≤ 1000000000) (hta : ta = false → a = 0) (htc : tc = false → c = 0) :
    (stEnd ta tc s a b c d).wp (fun rs => rsEqv rs [.agg [dI (nw + N / D), dI (nw - (-N) / D)]]) := by
  have hr : IntKind.i64.wrap (d - c) = d - c := wrap_id (by omega) (by omega)
  have ka : i64ok a := by unfold i64ok; omega
  have kr : i64ok (d - c) := by unfold i64ok; omega
  have kb : 0 < b ∧ b < 9223372036854775808 := by omega
  have kd : 0 < d ∧ d < 9223372036854775808 := by omega
  have hD0 : 0 < D := by rw [← hD]; exact Int.mul_pos kb.1 kd.1
  have had : a * d < D := by rw [← hD]; exact Int.mul_lt_mul_of_pos_right ha.2 kd.1
  have had0 : 0 ≤ a * d := Int.mul_nonneg ha.1 (by omega)
  have hcb : c * b < D := by rw [← hD, Int.mul_comm b]; exact Int.mul_lt_mul_of_pos_right hc.2 kb.1
  have hcb0 : 0 ≤ c * b := Int.mul_nonneg hc.1 (by omega)
  have hrb : (d - c) * b = D - c * b := by rw [Int.sub_mul, ← hD, Int.mul_comm b]
  have hW : IntKind.i64.wrap (s + 1) = s + 1 := wrap_id (by omega) (by omega)
  have hW2 : IntKind.i64.wrap (s + 1 + 1) = s + 2 := by rw [wrap_id (by omega) (by omega)]; omega
  have l1 : M.less a b (d - c) d = decide (a * d < D - c * b) := by unfold M.less; rw [hrb]
  have l2 : M.less (d - c) d a b = decide (D - c * b < a * d) := by unfold M.less; rw [hrb]
  -- the answers
  have fl : ∀ k : Int, k * D ≤ a * d + c * b → a * d + c * b < (k + 1) * D → N / D = s - nw + k := fun k h1 h2 => by
    refine ediv_at hD0 ?_ ?_
    · rw [← hN, Int.add_mul]; omega
    · rw [← hN, show s - nw + k + 1 = (s - nw) + (k + 1) by omega, Int.add_mul]; omega
  have ce : ∀ k : Int, (k - 1) * D < a * d + c * b → a * d + c * b ≤ k * D → (-N) / D = -(s - nw) - k := fun k h1 h2 => by
    refine ediv_at hD0 ?_ ?_
    · rw [← hN, Int.sub_mul, Int.neg_mul]; omega
    · rw [← hN, show -(s - nw) - k + 1 = -(s - nw) - (k - 1) by omega, Int.sub_mul (-(s - nw)), Int.neg_mul]; omega
  have ans : ∀ {x y : Int}, N / D = x - nw → (-N) / D = nw - y → rsEqv [.agg [dI x, dI y]] [.agg [dI (nw + N / D), dI (nw - (-N) / D)]] := by
    intro x y h1 h2
    rw [h1, h2, show nw + (x - nw) = x by omega, show nw - (nw - y) = y by omega]; exact rsEqv_refl _
  have tailT : ¬ a * d < D - c * b → (stTail a b (d - c) d (s + 1)).wp (fun rs => rsEqv rs [.agg [dI (nw + N / D), dI (nw - (-N) / D)]]) := by
    intro hge
    have h1 := fl 1 (by omega) (by omega)
    refine ⟨ka, kr, kb, kd, wp_br (fun _ => ⟨kr, ka, kd, kb, wp_br (fun hx => ?_) (fun hx => ?_)⟩) (fun hx => ?_)⟩
    · rw [l2, Bool.not_not] at hx
      have hx := of_decide_eq_true hx
      have h2 := ce 2 (by omega) (by omega)
      rw [hW2]
      exact ans (by omega) (by omega)
    · rw [l2, Bool.not_not] at hx
      have hx := of_decide_eq_false hx
      have h2 := ce 1 (by omega) (by omega)
      exact ans (by omega) (by omega)
    · rw [l1, decide_eq_false hge] at hx; cases hx
  have tailF : a * d < D - c * b → 0 < a * d + c * b → (stTail a b (d - c) d s).wp (fun rs => rsEqv rs [.agg [dI (nw + N / D), dI (nw - (-N) / D)]]) := by
    intro hlt hpos
    have h1 := fl 0 (by omega) (by omega)
    have h2 := ce 1 (by omega) (by omega)
    refine ⟨ka, kr, kb, kd, wp_br (fun hx => ?_) (fun hx => ?_)⟩
    · rw [l1, decide_eq_true hlt] at hx; cases hx
    · rw [hW]
      exact ans (by omega) (by omega)
  have zero : a = 0 → c = 0 → rsEqv [.agg [dI s, dI s]] [.agg [dI (nw + N / D), dI (nw - (-N) / D)]] := by
    intro h1 h2
    subst h1 h2
    exact ans (by have := fl 0 (by omega) (by omega); omega) (by have := ce 0 (by omega) (by omega); omega)
  unfold stEnd
  rw [hr]
  refine ⟨ka, kr, kb, kd, wp_br (fun hx => ?_) (fun hx => ?_)⟩
  · rw [l1, Bool.not_eq_true'] at hx
    have hx := of_decide_eq_false hx
    rw [hW]
    have hcc : c = 0 → a = 0 → False := by
      intro h1 h2
      subst h1 h2
      omega
    have hC : a = 0 → (stC tc a b c (d - c) d (s + 1)).wp (fun rs => rsEqv rs [.agg [dI (nw + N / D), dI (nw - (-N) / D)]]) := by
      intro h0
      unfold stC
      cases tc with
      | false => exact (hcc (htc rfl) h0).elim
      | true => exact wp_br (fun hy => (hcc (by simpa using hy) h0).elim) (fun _ => tailT hx)
    unfold stOut
    cases ta with
    | false => exact hC (hta rfl)
    | true => exact wp_br (fun hy => hC (by simpa using hy)) (fun _ => tailT hx)
  · rw [l1, Bool.not_eq_false'] at hx
    have hx := of_decide_eq_true hx
    have hC : a = 0 → (stC tc a b c (d - c) d s).wp (fun rs => rsEqv rs [.agg [dI (nw + N / D), dI (nw - (-N) / D)]]) := by
      intro h0
      unfold stC
      cases tc with
      | false => exact zero h0 (htc rfl)
      | true =>
        refine wp_br (fun hy => zero h0 (by simpa using hy)) (fun hy => tailF hx ?_)
        have hy : ¬ c = 0 := by simpa using hy
        have : 0 < c * b := Int.mul_pos (by omega) kb.1
        omega
    unfold stOut
    cases ta with
    | false => exact hC (hta rfl)
    | true =>
      refine wp_br (fun hy => hC (by simpa using hy)) (fun hy => tailF hx ?_)
      have hy : ¬ a = 0 := by simpa using hy
      have : 0 < a * d := Int.mul_pos (by omega) kd.1
      omega
def capB (i : Nat) : Int := match i with | 0 => 1 | 1 => 100000 | 2 => 100000 | _ => 10000000000
def capD (i : Nat) : Int := match i with | 0 => 1 | 1 => 1 | 2 => 100000 | 3 => 100000 | _ => 10000000000
theorem stT_wp {g : Rg → Int} {sc : List Scale} {fl : List Rg} {nw : Int} (h4 : sc.length ≤ 4) (hfl : fl.length = sc.length) (hv : ∀ k, k < sc.length → 0 ≤ (sc.getD k dfS).vol ∧ (sc.getD k dfS).vol ≤ 20000) : ∀ (m i : Nat) (ta tc : Bool) (s a b c d N D : Int), i + m = sc.length → (∀ k, i ≤ k → k < sc.length → 0 < g (fl.getD k dfR) ∧ g (fl.getD k dfR) ≤ 100000) →
    b * d = D → (s - nw) * D + a * d + c * b = N → (0 ≤ a ∧ a < b) → (0 ≤ c ∧ c < d) → b ≤ capB i → d ≤ capD i → 0 ≤ s → s ≤ 100000 + (i : Int) * 20000002 → (ta = false → a = 0) → (tc = false → c = 0) →
    (stT g sc fl ta tc m i s a b c d).wp (fun rs => rsEqv rs [.agg [dI (nw + (M.stN g sc fl m i N D).1 / (M.stN g sc fl m i N D).2), dI (nw - (-(M.stN g sc fl m i N D).1) / (M.stN g sc fl m i N D).2)]]) := by
  intro m
  induction m with
  | zero =>
    intro i ta tc s a b c d N D hi _ hD hN ha hc hb hd hs hs2 hta htc
    have hb' : b ≤ 10000000000 := by
      have : capB i ≤ 10000000000 := by unfold capB; split <;> omega
      omega
    have hd' : d ≤ 10000000000 := by
      have : capD i ≤ 10000000000 := by unfold capD; split <;> omega
      omega
    exact stEnd_wp hD hN ha hc hb' hd' (by omega) hta htc
  | succ m ih =>
    intro i ta tc s a b c d N D hi hg hD hN ha hc hb hd hs hs2 hta htc
    have hf := hg i (Nat.le_refl _) (by omega)
    have hvi := hv i (by omega)
    have hgn : ∀ k, i + 1 ≤ k → k < sc.length → 0 < g (fl.getD k dfR) ∧ g (fl.getD k dfR) ≤ 100000 := fun k h1 h2 => hg k (by omega) h2
    have hsb : s ≤ 1000000000 := by omega
    simp only [stT, M.stN]
    generalize hf0 : g (fl.getD i dfR) = f at *
    generalize (sc.getD i dfS).vol = v at *
    refine ⟨Enc.is_F _ _ _, by omega, by omega, by omega, by omega, by omega, by omega, ?_⟩
    have even : b ≤ 100000 → 100000 * b ≤ capB (i + 1) → d ≤ capD (i + 1) → (T.need (IntKind.i64.wrap (b * f) ≠ 0) (T.need (IntKind.i64.wrap (b * f) ≠ 0)
          (stT g sc fl true tc m (i + 1) (stS s a b f (IntKind.i64.wrap (1000 * v))) ((stX a b f (IntKind.i64.wrap (1000 * v))).tmod (IntKind.i64.wrap (b * f))) (IntKind.i64.wrap (b * f)) c d))).wp (fun rs => rsEqv rs [.agg [dI (nw + (M.stN g sc fl m (i + 1) (N * f + D * (1000 * v)) (D * f)).1 / (M.stN g sc fl m (i + 1) (N * f + D * (1000 * v)) (D * f)).2), dI (nw - (-(M.stN g sc fl m (i + 1) (N * f + D * (1000 * v)) (D * f)).1) / (M.stN g sc fl m (i + 1) (N * f + D * (1000 * v)) (D * f)).2)]]) := by
      intro hb5 hbn hdn
      obtain ⟨e0, e1, e2, q, r, z, w, k1, k2, k3, k4, k5, k6, k7⟩ := step1 (s := s) ha hb5 hf hvi ⟨hs, hsb⟩
      rw [e0, k4, k5]
      obtain ⟨p1, p2⟩ := stepK hD hN k1 k2
      exact ⟨by omega, by omega, ih (i + 1) true tc _ _ _ _ _ _ _ (by omega) hgn p1 p2 k3 hc (by omega) hdn k6 (by rw [Int.natCast_succ, Int.add_mul]; omega) (fun h => by cases h) htc⟩
    have odd : d ≤ 100000 → 100000 * d ≤ capD (i + 1) → b ≤ capB (i + 1) → (T.need (IntKind.i64.wrap (d * f) ≠ 0) (T.need (IntKind.i64.wrap (d * f) ≠ 0)
          (stT g sc fl ta true m (i + 1) (stS s c d f (IntKind.i64.wrap (1000 * v))) a b ((stX c d f (IntKind.i64.wrap (1000 * v))).tmod (IntKind.i64.wrap (d * f))) (IntKind.i64.wrap (d * f))))).wp (fun rs => rsEqv rs [.agg [dI (nw + (M.stN g sc fl m (i + 1) (N * f + D * (1000 * v)) (D * f)).1 / (M.stN g sc fl m (i + 1) (N * f + D * (1000 * v)) (D * f)).2), dI (nw - (-(M.stN g sc fl m (i + 1) (N * f + D * (1000 * v)) (D * f)).1) / (M.stN g sc fl m (i + 1) (N * f + D * (1000 * v)) (D * f)).2)]]) := by
      intro hd5 hdn hbn
      obtain ⟨e0, e1, e2, q, r, z, w, k1, k2, k3, k4, k5, k6, k7⟩ := step1 (s := s) hc hd5 hf hvi ⟨hs, hsb⟩
      rw [e0, k4, k5]
      have hD' : d * b = D := by rw [Int.mul_comm]; exact hD
      have hN' : (s - nw) * D + c * b + a * d = N := by omega
      obtain ⟨p1, p2⟩ := stepK hD' hN' k1 k2
      have p1' : b * (d * f) = D * f := by rw [Int.mul_comm]; exact p1
      have p2' : (s + q + z - nw) * (D * f) + a * (d * f) + w * b = N * f + D * (1000 * v) := by omega
      exact ⟨by omega, by omega, ih (i + 1) ta true _ _ _ _ _ _ _ (by omega) hgn p1' p2' ha k3 hbn (by omega) k6 (by rw [Int.natCast_succ, Int.add_mul]; omega) hta (fun h => by cases h)⟩
    have hi3 : i = 0 ∨ i = 1 ∨ i = 2 ∨ i = 3 := by omega
    rcases hi3 with rfl | rfl | rfl | rfl
    · exact even (by have : b ≤ 1 := hb; omega) (by have : b ≤ 1 := hb; show 100000 * b ≤ 100000; omega) (by have : d ≤ 1 := hd; show d ≤ 1; omega)
    · exact odd (by have : d ≤ 1 := hd; omega) (by have : d ≤ 1 := hd; show 100000 * d ≤ 100000; omega) (by have : b ≤ 100000 := hb; show b ≤ 100000; omega)
    · exact even (by have : b ≤ 100000 := hb; omega) (by have : b ≤ 100000 := hb; show 100000 * b ≤ 10000000000; omega) (by have : d ≤ 100000 := hd; show d ≤ 100000; omega)
    · exact odd (by have : d ≤ 100000 := hd; omega) (by have : d ≤ 100000 := hd; show 100000 * d ≤ 10000000000; omega) (by have : b ≤ 10000000000 := hb; show b ≤ 10000000000; omega)
theorem st_wp {g : Rg → Int} {sc : List Scale} {fl : List Rg} {nw : Int} (hnw : 0 ≤ nw ∧ nw ≤ 100000) (h4 : sc.length ≤ 4) (hfl : fl.length = sc.length) (hv : ∀ k, k < sc.length → 0 ≤ (sc.getD k dfS).vol ∧ (sc.getD k dfS).vol ≤ 20000) {i : Nat} (hi : i < sc.length) (hg : ∀ k, i ≤ k → k < sc.length → 0 < g (fl.getD k dfR) ∧ g (fl.getD k dfR) ≤ 100000) :
    (stT g sc fl false false (sc.length - i) i nw 0 1 0 1).wp (fun rs => rsEqv rs [.agg [dI (M.steady g sc nw fl i).1, dI (M.steady g sc nw fl i).2]]) := by
  have hi3 : i = 0 ∨ i = 1 ∨ i = 2 ∨ i = 3 := by omega
  exact stT_wp h4 hfl hv (sc.length - i) i false false nw 0 1 0 1 0 1 (by omega) hg (by omega) (by omega) (by omega) (by omega) (by rcases hi3 with rfl | rfl | rfl | rfl <;> decide) (by rcases hi3 with rfl | rfl | rfl | rfl <;> decide) hnw.1 (by omega) (fun _ => rfl) (fun _ => rfl)
end Go.Pl
end

section
set_option linter.unusedVariables false
set_option linter.unusedSimpArgs false
set_option maxRecDepth 100000
namespace Go.Pl
open Go.V Go.Proofs
namespace M
def gh (r : Rg) : Int := r.hi
def gl (r : Rg) : Int := r.lo
def stLo (g : Rg → Int) (sc : List Scale) (nw : Int) (fl : List Rg) (i : Nat) : Int := (steady g sc nw fl i).1
def stHi (g : Rg → Int) (sc : List Scale) (nw : Int) (fl : List Rg) (i : Nat) : Int := (steady g sc nw fl i).2
end M
def gOf (g : Nat) : Option (Rg → Int) := match Nat.beq g 111, Nat.beq g 112, Nat.beq g 185 with
  | true, _, _ => some M.gh
  | _, true, _ => some M.gl
  | _, _, true => some M.gh
  | _, _, _ => none
theorem gOf_cases {g : Nat} {fd : Rg → Int} (h : gOf g = some fd) : (g = 111 ∧ fd = M.gh) ∨ (g = 112 ∧ fd = M.gl) ∨ (g = 185 ∧ fd = M.gh) := by
  unfold gOf at h
  cases h1 : Nat.beq g 111 with
  | true => rw [h1] at h; cases h; exact .inl ⟨Nat.eq_of_beq_eq_true h1, rfl⟩
  | false =>
    cases h2 : Nat.beq g 112 with
    | true => rw [h1, h2] at h; cases h; exact .inr (.inl ⟨Nat.eq_of_beq_eq_true h2, rfl⟩)
    | false =>
      cases h3 : Nat.beq g 185 with
      | true => rw [h1, h2, h3] at h; cases h; exact .inr (.inr ⟨Nat.eq_of_beq_eq_true h3, rfl⟩)
      | false => rw [h1, h2, h3] at h; cases h
def dom110 : DomF
  | [.agg [.sl _ n st F, .int .i64 nw], .c (.int .i64 i), .c (.fc g k G)] => (match G 0 with
    | .sl _ m st2 F2 => (match Nat.beq st 4 && Nat.beq st2 2 && Nat.beq k 1, gOf g with
      | true, some fd => some ([eSc.Is n F, eRg.Is m F2, m = n, n ≤ 4, 0 ≤ i, i < n, 0 ≤ nw ∧ nw ≤ 100000, ∀ k, k < n → 0 ≤ ((eSc.list n F).getD k dfS).vol ∧ ((eSc.list n F).getD k dfS).vol ≤ 20000, ∀ k, i.toNat ≤ k → k < n → 0 < fd ((eRg.list m F2).getD k dfR) ∧ fd ((eRg.list m F2).getD k dfR) ≤ 100000],
          [.agg [dI (M.stLo fd (eSc.list n F) nw (eRg.list m F2) i.toNat), dI (M.stHi fd (eSc.list n F) nw (eRg.list m F2) i.toNat)]])
      | _, _ => none)
    | _ => none)
  | _ => none
def v110 : Nat × Sm := (110, fokSm dom110)
theorem C110 : FOK Try.prog G0 gw 110 dom110 := by
  intro ags p r hd hp κ w xs hw hl hG hx
  unfold dom110 at hd
  split at hd
  · rename_i q n st F nw i g k G
    split at hd
    · rename_i q2 m st2 F2 hG0
      split at hd
      · rename_i fd hst hgf
        simp only [Bool.and_eq_true] at hst
        have g1 := Nat.eq_of_beq_eq_true hst.1.1
        have g2 := Nat.eq_of_beq_eq_true hst.1.2
        have g3 := Nat.eq_of_beq_eq_true hst.2
        subst g1 g2 g3
        simp only [Option.some.injEq, Prod.mk.injEq] at hd
        obtain ⟨rfl, rfl⟩ := hd
        obtain ⟨i1, i2, hm, h4, hi0, hin, hnw, hv, hf, _⟩ := hp
        obtain ⟨j, rfl⟩ := Int.eq_ofNat_of_zero_le hi0
        have heq : agsEqv [.agg [.sl q n 4 F, .int .i64 nw], .c (.int .i64 (j : Int)), .c (.fc g 1 G)] [.agg [.sl q (eSc.list n F).length 4 (eSc.F (eSc.list n F)), dI nw], .c (dI (j : Int)), .c (.fc g 1 (fun _ => .sl q2 (eRg.list m F2).length 2 (eRg.F (eRg.list m F2))))] := by
          refine ⟨⟨eSc.to id i1, rfl, trivial⟩, Ag.eqv_refl _, ⟨rfl, rfl, fun j hj => ?_⟩, trivial⟩
          obtain rfl : j = 0 := Nat.lt_one_iff.1 hj
          rw [hG0]; exact eRg.to id i2
        have len1 : (eSc.list n F).length = n := eSc.list_len
        have len2 : (eRg.list m F2).length = m := eRg.list_len
        generalize eSc.list n F = sc at *
        generalize eRg.list m F2 = fl at *
        subst len1 len2
        have hj : j < sc.length := by omega
        have hw1 := st_wp (g := fd) hnw h4 hm hv hj (fun k h1 h2 => hf k h1 h2)
        rcases gOf_cases hgf with ⟨rfl, rfl⟩ | ⟨rfl, rfl⟩ | ⟨rfl, rfl⟩
        · exact fokX_fin mixed gw_stable (sl := [v131, v111]) ⟨S131, S111, trivial⟩ Try.func110 hw hl hG hx heq rfl (t110g_111 q q2 sc fl nw j hm h4 hj) hw1
        · exact fokX_fin mixed gw_stable (sl := [v131, v112]) ⟨S131, S112, trivial⟩ Try.func110 hw hl hG hx heq rfl (t110g_112 q q2 sc fl nw j hm h4 hj) hw1
        · exact fokX_fin mixed gw_stable (sl := [v131, v185]) ⟨S131, S185, trivial⟩ Try.func110 hw hl hG hx heq rfl (t110g_185 q q2 sc fl nw j hm h4 hj) hw1
      · cases hd
    · cases hd
  · cases hd
theorem S110 : SumOK Try.prog G0 gw 110 (fokSm dom110) := fok_sum Try.func110 rfl C110
end Go.Pl
end

section
set_option linter.unusedVariables false
set_option linter.unusedSimpArgs false
set_option maxRecDepth 100000
namespace Go.Pl
open Go.V Go.Proofs
abbrev dS (sc : List Scale) : List Scale := Enc.list eSc (List.length sc) (Enc.F eSc (cS sc))
abbrev jS (sc : List Scale) : Prop := Enc.Is eSc (List.length sc) (Enc.F eSc (cS sc))
abbrev xF (sc : List Scale) (d : Int) : List Rg := M.flows (dS sc) d
theorem dS_eq (sc : List Scale) : dS sc = sc := by
  have h : cS sc = sc := Enc.list_F eSc sc
  unfold dS
  rw [h, Enc.list_F]
theorem jS_ok (sc : List Scale) : jS sc := by
  have h : cS sc = sc := Enc.list_F eSc sc
  unfold jS
  rw [h]; exact Enc.is_F _ _ _
theorem scale_right {c : Scale} (h : M.scaleErr c = 0) : (1 ≤ c.vol ∧ c.vol ≤ 20000) ∧ (0 ≤ c.l ∧ c.l ≤ c.h ∧ c.h ≤ c.vol) ∧ 0 ≤ c.least ∧ c.least ≤ 100000 := by
  unfold M.scaleErr at h
  have z := first_zero h
  have a1 := within_iff.1 (unl_zero (by decide) (z _ (List.mem_cons_self ..)))
  have a2 := z _ (List.mem_cons_of_mem _ (List.mem_cons_self ..))
  have a3 := within_iff.1 (unl_zero (by decide) (z _ (List.mem_cons_of_mem _ (List.mem_cons_of_mem _ (List.mem_cons_self ..)))))
  unfold M.rgErr at a2
  have y := first_zero a2
  have b1 := unl_zero (by decide) (y _ (List.mem_cons_self ..))
  have b2 := of_decide_eq_true (unl_zero (by decide) (y _ (List.mem_cons_of_mem _ (List.mem_cons_self ..))))
  rw [Bool.and_eq_true] at b1
  have c1 := within_iff.1 b1.1
  have c2 := within_iff.1 b1.2
  exact ⟨a1, ⟨c1.1, b2, c2.2⟩, a3⟩
theorem draw_right {d : Int} (h : M.drawErr d = 0) : 0 ≤ d ∧ d ≤ 20000 := within_iff.1 (unl_zero (by decide) h)
theorem fl_right {sc : List Scale} {nw d : Int} (hs : (M.checkSys sc nw).2 = 0) (hd : M.drawErr d = 0) : ∀ k, k ≤ sc.length → 0 ≤ (M.fl sc d k).lo ∧ (M.fl sc d k).lo ≤ (M.fl sc d k).hi ∧ (M.fl sc d k).hi ≤ 20000 + 20000 * (k : Int) := by
  obtain ⟨h0, h4, hn, hr⟩ := sys_right hs
  have hd := draw_right hd
  intro k
  induction k with
  | zero => intro _; exact ⟨hd.1, Int.le_refl _, by show d ≤ _; omega⟩
  | succ k ih =>
    intro hk
    obtain ⟨i1, i2, i3⟩ := ih (by omega)
    obtain ⟨s1, s2, s3⟩ := scale_right (hr k (by omega))
    have e1 : (M.fl sc d (k + 1)).lo = IntKind.i64.wrap ((M.fl sc d k).lo + (sc.getD k dfS).l) := rfl
    have e2 : (M.fl sc d (k + 1)).hi = IntKind.i64.wrap ((M.fl sc d k).hi + (sc.getD k dfS).h) := rfl
    rw [e1, e2, wrap_id (by omega) (by omega), wrap_id (by omega) (by omega)]
    exact ⟨by omega, by omega, by omega⟩
theorem flows_right {sc : List Scale} {nw d : Int} (hs : (M.checkSys sc nw).2 = 0) (hd : M.drawErr d = 0) {k : Nat} (hk : k < sc.length) : 0 ≤ ((M.flows sc d).getD k dfR).lo ∧ ((M.flows sc d).getD k dfR).lo ≤ ((M.flows sc d).getD k dfR).hi ∧ ((M.flows sc d).getD k dfR).hi ≤ 100000 := by
  rw [flows_get hk]
  obtain ⟨h1, h2, h3⟩ := fl_right hs hd (k + 1) hk
  have := (sys_right hs).2.1
  exact ⟨h1, h2, by omega⟩
namespace M
def zeroF (sc : List Scale) (d : Int) : Int := firstIdx (fun k => ((flows sc d).getD k dfR).lo == 0) sc.length 0
def stRow (sc : List Scale) (nw d : Int) (k : Nat) : Rg := ⟨stLo gh sc nw (flows sc d) k, stHi gl sc nw (flows sc d) k⟩
def stAll (sc : List Scale) (nw d : Int) : List Rg := (List.range sc.length).map (stRow sc nw d)
def stX (sc : List Scale) (nw d : Int) : List Rg × Int := cond (decide (zeroF sc d < 0)) (cond (decide (over sc (flows sc d) ≥ 0)) ([], 16) (stAll sc nw d, 0)) ([], 11)
def stRes (sc : List Scale) (nw d : Int) : List Rg × Int := cond (first [(checkSys sc nw).2, drawErr d] != 0) ([], first [(checkSys sc nw).2, drawErr d]) (stX sc nw d)
end M
theorem stAll_len (sc : List Scale) (nw d : Int) : (M.stAll sc nw d).length = sc.length := by simp [M.stAll]
theorem stAll_get {sc : List Scale} {nw d : Int} {k : Nat} (h : k < sc.length) : (M.stAll sc nw d).getD k dfR = M.stRow sc nw d k := by simp [M.stAll, h]
def tr35 (q_sc : Bool) (sc : List Scale) (new : Int) (d : Int) : T (List Ar) :=
    T.need (iS sc) (T.need (List.length sc ≤ (100000 : Nat)) (T.br (M.first [Prod.snd (M.checkSys (cS sc) new), M.drawErr d] != (0 : Int)) (T.ret [Ar.c (D.sl false (0 : Nat) (0 : Nat) fun (x x_1 : Nat) => D.nilp), Ar.c (D.int IntKind.i64 (M.first [Prod.snd (M.checkSys (cS sc) new), M.drawErr d]))]) (T.need (jS sc) (T.need (List.length (dS sc) ≤ (100000 : Nat)) (T.loop (Int × PUnit) ((0 : Int), PUnit.unit) fun (x : Int × PUnit) => T.br (decide (Prod.fst x < (Nat.cast (R := Int) (List.length (xF sc d))))) (T.need ((0 : Int) ≤ Prod.fst x) (T.need (Prod.fst x < (Nat.cast (R := Int) (List.length (xF sc d)))) (T.br (Rg.lo (List.getD (xF sc d) (Int.toNat (Prod.fst x)) dfR) == (0 : Int)) (T.ret (Sum.inr [Ar.c (D.sl false (0 : Nat) (0 : Nat) fun (x x_1 : Nat) => D.nilp), Ar.c (D.int IntKind.i64 (11 : Int))])) (T.ret (Sum.inl (IntKind.i64.wrap (Prod.fst x + (1 : Int)), PUnit.unit)))))) (T.need (jS sc) (T.need (iR (xF sc d)) (T.need (List.length (cR (xF sc d)) ≤ List.length (dS sc)) (T.need (List.length (dS sc) ≤ (100000 : Nat)) (T.br (decide (M.over (dS sc) (cR (xF sc d)) ≥ (0 : Int))) (T.ret (Sum.inr [Ar.c (D.sl false (0 : Nat) (0 : Nat) fun (x x_1 : Nat) => D.nilp), Ar.c (D.int IntKind.i64 (16 : Int))])) (T.loop2 (Int × PUnit × PUnit) (Int × List Rg × PUnit) (Sum.inl ((0 : Int), PUnit.unit, PUnit.unit)) (fun (x_1 : Int × PUnit × PUnit) => T.br (decide (Prod.fst x_1 < (Nat.cast (R := Int) (List.length (xF sc d))))) (T.need (jS sc) (T.need (iR (xF sc d)) (T.need (List.length (xF sc d) = List.length sc) (T.need (List.length sc ≤ (4 : Nat)) (T.need ((0 : Int) ≤ Prod.fst x_1) (T.need (Prod.fst x_1 < (Nat.cast (R := Int) (List.length sc))) (T.need ((0 : Int) ≤ new ∧ new ≤ (100000 : Int)) (T.need (∀ (k : Nat), k < List.length sc → (0 : Int) ≤ Scale.vol (List.getD (dS sc) k dfS) ∧ Scale.vol (List.getD (dS sc) k dfS) ≤ (20000 : Int)) (T.need (∀ (k : Nat), Int.toNat (Prod.fst x_1) ≤ k → k < List.length sc → (0 : Int) < M.gh (List.getD (cR (xF sc d)) k dfR) ∧ M.gh (List.getD (cR (xF sc d)) k dfR) ≤ (100000 : Int)) (T.need (jS sc) (T.need (iR (xF sc d)) (T.need (List.length (xF sc d) = List.length sc) (T.need (List.length sc ≤ (4 : Nat)) (T.need ((0 : Int) ≤ Prod.fst x_1) (T.need (Prod.fst x_1 < (Nat.cast (R := Int) (List.length sc))) (T.need ((0 : Int) ≤ new ∧ new ≤ (100000 : Int)) (T.need (∀ (k : Nat), k < List.length sc → (0 : Int) ≤ Scale.vol (List.getD (dS sc) k dfS) ∧ Scale.vol (List.getD (dS sc) k dfS) ≤ (20000 : Int)) (T.need (∀ (k : Nat), Int.toNat (Prod.fst x_1) ≤ k → k < List.length sc → (0 : Int) < M.gl (List.getD (cR (xF sc d)) k dfR) ∧ M.gl (List.getD (cR (xF sc d)) k dfR) ≤ (100000 : Int)) (T.need ((1 : Nat) ≤ (1000000 : Nat)) (T.need (Enc.Is eRg (1 : Nat) (joinF (0 : Nat) (fun (x x_2 : Nat) => D.nilp) fun (i j : Nat) => List.getD [D.int IntKind.i64 (M.stLo M.gh (dS sc) new (cR (xF sc d)) (Int.toNat (Prod.fst x_1))), D.int IntKind.i64 (M.stHi M.gl (dS sc) new (cR (xF sc d)) (Int.toNat (Prod.fst x_1)))] (i * (2 : Nat) + j) D.nilp)) (T.need ((1 : Nat) ≤ (1 : Nat)) (T.ret (Sum.inl (Sum.inr (IntKind.i64.wrap (Prod.fst x_1 + (1 : Int)), Enc.list eRg (1 : Nat) (joinF (0 : Nat) (fun (x x_2 : Nat) => D.nilp) fun (i j : Nat) => List.getD [D.int IntKind.i64 (M.stLo M.gh (dS sc) new (cR (xF sc d)) (Int.toNat (Prod.fst x_1))), D.int IntKind.i64 (M.stHi M.gl (dS sc) new (cR (xF sc d)) (Int.toNat (Prod.fst x_1)))] (i * (2 : Nat) + j) D.nilp), PUnit.unit))))))))))))))))))))))))) (T.ret (Sum.inr (Sum.inr [Ar.c (D.sl false (0 : Nat) (0 : Nat) fun (x x_2 : Nat) => D.nilp), Ar.c (D.int IntKind.i64 (0 : Int))])))) fun (y : Int × List Rg × PUnit) => T.br (decide (Prod.fst y < (Nat.cast (R := Int) (List.length (xF sc d))))) (T.need (jS sc) (T.need (iR (xF sc d)) (T.need (List.length (xF sc d) = List.length sc) (T.need (List.length sc ≤ (4 : Nat)) (T.need ((0 : Int) ≤ Prod.fst y) (T.need (Prod.fst y < (Nat.cast (R := Int) (List.length sc))) (T.need ((0 : Int) ≤ new ∧ new ≤ (100000 : Int)) (T.need (∀ (k : Nat), k < List.length sc → (0 : Int) ≤ Scale.vol (List.getD (dS sc) k dfS) ∧ Scale.vol (List.getD (dS sc) k dfS) ≤ (20000 : Int)) (T.need (∀ (k : Nat), Int.toNat (Prod.fst y) ≤ k → k < List.length sc → (0 : Int) < M.gh (List.getD (cR (xF sc d)) k dfR) ∧ M.gh (List.getD (cR (xF sc d)) k dfR) ≤ (100000 : Int)) (T.need (jS sc) (T.need (iR (xF sc d)) (T.need (List.length (xF sc d) = List.length sc) (T.need (List.length sc ≤ (4 : Nat)) (T.need ((0 : Int) ≤ Prod.fst y) (T.need (Prod.fst y < (Nat.cast (R := Int) (List.length sc))) (T.need ((0 : Int) ≤ new ∧ new ≤ (100000 : Int)) (T.need (∀ (k : Nat), k < List.length sc → (0 : Int) ≤ Scale.vol (List.getD (dS sc) k dfS) ∧ Scale.vol (List.getD (dS sc) k dfS) ≤ (20000 : Int)) (T.need (∀ (k : Nat), Int.toNat (Prod.fst y) ≤ k → k < List.length sc → (0 : Int) < M.gl (List.getD (cR (xF sc d)) k dfR) ∧ M.gl (List.getD (cR (xF sc d)) k dfR) ≤ (100000 : Int)) (T.need (List.length (Prod.fst (Prod.snd y)) + (1 : Nat) ≤ (1000000 : Nat)) (T.need (List.length (Prod.fst (Prod.snd y)) ≤ List.length (Prod.fst (Prod.snd y))) (T.need (Enc.Is eRg (List.length (Prod.fst (Prod.snd y)) + (1 : Nat)) (joinF (List.length (Prod.fst (Prod.snd y))) (Enc.F eRg (Prod.fst (Prod.snd y))) fun (i j : Nat) => List.getD [D.int IntKind.i64 (M.stLo M.gh (dS sc) new (cR (xF sc d)) (Int.toNat (Prod.fst y))), D.int IntKind.i64 (M.stHi M.gl (dS sc) new (cR (xF sc d)) (Int.toNat (Prod.fst y)))] (i * (2 : Nat) + j) D.nilp)) (T.need (List.length (Prod.fst (Prod.snd y)) + (1 : Nat) ≤ List.length (Prod.fst (Prod.snd y)) + (1 : Nat)) (T.ret (Sum.inl (Sum.inr (IntKind.i64.wrap (Prod.fst y + (1 : Int)), Enc.list eRg (List.length (Prod.fst (Prod.snd y)) + (1 : Nat)) (joinF (List.length (Prod.fst (Prod.snd y))) (Enc.F eRg (Prod.fst (Prod.snd y))) fun (i j : Nat) => List.getD [D.int IntKind.i64 (M.stLo M.gh (dS sc) new (cR (xF sc d)) (Int.toNat (Prod.fst y))), D.int IntKind.i64 (M.stHi M.gl (dS sc) new (cR (xF sc d)) (Int.toNat (Prod.fst y)))] (i * (2 : Nat) + j) D.nilp), PUnit.unit)))))))))))))))))))))))))) (T.need (List.length (Prod.fst (Prod.snd y)) ≤ List.length (Prod.fst (Prod.snd y))) (T.ret (Sum.inr (Sum.inr [Ar.c (D.sl true (List.length (Prod.fst (Prod.snd y))) (2 : Nat) (Enc.F eRg (Prod.fst (Prod.snd y)))), Ar.c (D.int IntKind.i64 (0 : Int))])))))))))))))))
theorem t35 (q_sc : Bool) (sc : List Scale) (new : Int) (d : Int) : runFnX Try.prog G0 (lookS [v103, v104, v95, v107, v108, v109, v110]) (fun _ => [(7, [.slot 33 (.int .i64)], none), (16, [.slot 47 (.int .i64), .slot 11 .nsl], some [.slot 47 (.int .i64), .slot 11 (.rowE 61 eRg)])]) [] 1 90 4 35 Try.f35 [.agg [.sl q_sc sc.length 4 (eSc.F sc), dI new], .c (dI d)] =
    tr35 q_sc sc new d := by kernel_rfl
theorem w35 (q : Bool) (sc : List Scale) (nw d : Int) (hl : sc.length ≤ 100000) : (tr35 q sc nw d).wp (fun rs => rsEqv rs [.c (.sl false (M.stRes sc nw d).1.length 2 (eRg.F (M.stRes sc nw d).1)), rI (M.stRes sc nw d).2]) := by
  unfold tr35 M.stRes
  simp only [xF, dS_eq]
  simp only [cS, cR, iS, iR, Enc.list_F]
  refine ⟨Enc.is_F _ _ _, hl, wp_br (fun hb => by rw [hb]; exact ⟨nil_eqv eRg, rfl, trivial⟩) (fun hb => ?_)⟩
  rw [hb]
  have h0 : M.first [(M.checkSys sc nw).2, M.drawErr d] = 0 := by simpa using hb
  have z := first_zero h0
  have hs : (M.checkSys sc nw).2 = 0 := z _ (List.mem_cons_self ..)
  have hd : M.drawErr d = 0 := z _ (List.mem_cons_of_mem _ (List.mem_cons_self ..))
  obtain ⟨n0, n4, hnw, hr⟩ := sys_right hs
  have hfl := flows_len sc d
  show T.wp _ (fun rs => rsEqv rs [.c (.sl false (M.stX sc nw d).1.length 2 (eRg.F (M.stX sc nw d).1)), rI (M.stX sc nw d).2])
  unfold M.stX M.zeroF
  refine ⟨jS_ok sc, hl, ?_⟩
  obtain ⟨p, hp⟩ : ∃ p : Nat → Bool, p = fun k => ((M.flows sc d).getD k dfR).lo == 0 := ⟨_, rfl⟩
  rw [← hp]
  refine range_wp (n := sc.length) (fun k _ => M.firstIdx p sc.length 0 = M.firstIdx p (sc.length - k) k) rfl ?_
  rintro k u hk hI
  refine wp_br (fun hb => ?_) (fun hb => ?_)
  · have hlt : k < sc.length := by have := lt_of_dec hb; omega
    have hs' := idx_step (p := p) hlt
    refine ⟨by show (0 : Int) ≤ k; omega, by show (k : Int) < (M.flows sc d).length; omega, wp_br (fun hx => ?_) (fun hx => ?_)⟩
    · have hx : p k = true := by rw [hp]; exact hx
      rw [hx] at hs'
      rw [hI, hs']
      show rsEqv _ [.c (.sl false (cond (decide ((k : Int) < 0)) _ ([], 11)).1.length 2 (eRg.F (cond (decide ((k : Int) < 0)) _ ([], 11)).1)), rI (cond (decide ((k : Int) < 0)) _ ([], 11)).2]
      rw [decide_eq_false (by omega)]; exact ⟨nil_eqv eRg, rfl, trivial⟩
    · have hx : p k = false := by rw [hp]; exact hx
      rw [hx] at hs'
      exact ⟨hlt, wrap_succ (by omega), hI.trans hs'⟩
  have hge := ge_of_dec hb
  obtain rfl : k = sc.length := by omega
  rw [Nat.sub_self] at hI
  rw [hI]
  have hpos : ∀ k, k < sc.length → (0 < M.gh ((M.flows sc d).getD k dfR) ∧ M.gh ((M.flows sc d).getD k dfR) ≤ 100000) ∧ (0 < M.gl ((M.flows sc d).getD k dfR) ∧ M.gl ((M.flows sc d).getD k dfR) ≤ 100000) := by
    intro k hk
    have hz := idx_none sc.length 0 (by rw [hI]; show (-1 : Int) < 0; decide) k (Nat.zero_le _) (by omega)
    rw [hp] at hz
    have hz : ¬ ((M.flows sc d).getD k dfR).lo = 0 := by simpa using hz
    obtain ⟨f1, f2, f3⟩ := flows_right hs hd hk
    unfold M.gh M.gl
    omega
  have hv : ∀ k, k < sc.length → 0 ≤ (sc.getD k dfS).vol ∧ (sc.getD k dfS).vol ≤ 20000 := fun k hk => by have := (scale_right (hr k hk)).1; omega
  refine ⟨jS_ok sc, Enc.is_F _ _ _, by omega, hl, wp_br (fun hb => by rw [hb]; exact ⟨nil_eqv eRg, rfl, trivial⟩) (fun hb => ?_)⟩
  rw [hb]
  have hW := stAll_len sc nw d
  have push : ∀ k, k < sc.length → (M.stAll sc nw d).take k ++ [M.stRow sc nw d k] = (M.stAll sc nw d).take (k + 1) := by
    intro k hk
    rw [← stAll_get hk, take_push (d := dfR) (by omega)]
  show T.wp _ _
  refine ⟨fun z => match z with
    | .inl x => x = ((0 : Int), PUnit.unit, PUnit.unit)
    | .inr y => ∃ k : Nat, 1 ≤ k ∧ k ≤ sc.length ∧ y.1 = k ∧ y.2.1 = (M.stAll sc nw d).take k,
    fun z => match z with | .inl _ => sc.length + 5 | .inr y => sc.length - y.1.toNat, rfl, ?_, ?_⟩
  · rintro x rfl
    refine ⟨fun hb => ?_, fun hb => ?_⟩
    · obtain ⟨o1, o2⟩ := push_one eRg (F := fun _ _ => .nilp) (G := rgG (M.stRow sc nw d 0).lo (M.stRow sc nw d 0).hi) rg_push.1 rg_push.2
      refine ⟨jS_ok sc, Enc.is_F _ _ _, hfl, n4, by dsimp only; omega, by dsimp only; omega, hnw, hv, fun k _ hk => (hpos k hk).1, jS_ok sc, Enc.is_F _ _ _, hfl, n4, by dsimp only; omega, by dsimp only; omega, hnw, hv, fun k _ hk => (hpos k hk).2, by decide, o1, Nat.le_refl _, ⟨1, Nat.le_refl _, n0, rfl, o2.trans (push 0 n0)⟩, ?_⟩
      show sc.length - (1 : Int).toNat < sc.length + 5; omega
    · have : ¬ (0 : Int) < (M.flows sc d).length := of_decide_eq_false hb
      omega
  · rintro ⟨y, acc, u⟩ ⟨k, g1, g2, g3, g5⟩
    simp only at g3 g5
    subst g3
    have hacc : acc.length = k := by rw [g5, List.length_take]; omega
    have hw : IntKind.i64.wrap ((k : Int) + 1) = ((k + 1 : Nat) : Int) := wrap_succ (by omega)
    refine ⟨fun hb => ?_, fun hb => ?_⟩
    · have hlt : k < sc.length := by have := lt_of_dec hb; omega
      obtain ⟨o1, o2⟩ := eRg.push (l := acc) (a := M.stRow sc nw d k) (G := rgG (M.stRow sc nw d k).lo (M.stRow sc nw d k).hi) rg_push.1 rg_push.2
      have o3 : acc ++ [M.stRow sc nw d k] = (M.stAll sc nw d).take (k + 1) := by rw [g5]; exact push k hlt
      have mu : sc.length - (IntKind.i64.wrap ((k : Int) + 1)).toNat < sc.length - (k : Int).toNat := by rw [hw]; omega
      exact ⟨jS_ok sc, Enc.is_F _ _ _, hfl, n4, by dsimp only; omega, by dsimp only; omega, hnw, hv, fun k _ hk => (hpos k hk).1, jS_ok sc, Enc.is_F _ _ _, hfl, n4, by dsimp only; omega, by dsimp only; omega, hnw, hv, fun k _ hk => (hpos k hk).2, by dsimp only; omega, Nat.le_refl _, o1, Nat.le_refl _, ⟨k + 1, by omega, hlt, hw, o2.trans o3⟩, mu⟩
    · have hge := ge_of_dec hb
      obtain rfl : k = sc.length := by omega
      have hfin : acc = M.stAll sc nw d := by rw [g5, List.take_of_length_le (by omega)]
      subst hfin
      exact ⟨Nat.le_refl _, ⟨(fun e => by cases e), rfl, fun _ => rfl, fun i j hi hj => D.eqv_refl _⟩, rfl, trivial⟩
def dom35 : DomF
  | [.agg [.sl _ n_sc st_sc F_sc, .int .i64 new], .c (.int .i64 d)] => (match Nat.beq st_sc 4 with
    | true => some ([eSc.Is n_sc F_sc, (eSc.list n_sc F_sc).length ≤ 100000], [.c (.sl false (M.stRes (eSc.list n_sc F_sc) new d).1.length 2 (eRg.F (M.stRes (eSc.list n_sc F_sc) new d).1)), rI (M.stRes (eSc.list n_sc F_sc) new d).2])
    | _ => none)
  | _ => none
def v35 : Nat × Sm := (35, fokSm dom35)
theorem C35 : FOK Try.prog G0 gw 35 dom35 := by
  intro ags p r hd hp κ w xs hw hl hG hx
  unfold dom35 at hd
  split at hd
  · rename_i q_sc n_sc st_sc F_sc new d
    split at hd
    · rename_i hst
      have g1 := hst
      have g1 := Nat.eq_of_beq_eq_true g1
      subst g1
      simp only [Option.some.injEq, Prod.mk.injEq] at hd
      obtain ⟨rfl, rfl⟩ := hd
      obtain ⟨hI_sc, hp⟩ := hp
      have heq : agsEqv [.agg [.sl q_sc n_sc 4 F_sc, .int .i64 new], .c (.int .i64 d)] [.agg [.sl q_sc (eSc.list n_sc F_sc).length 4 (eSc.F (eSc.list n_sc F_sc)), .int .i64 new], .c (.int .i64 d)] := ⟨⟨eSc.to id hI_sc, rfl, trivial⟩, Ag.eqv_refl _, trivial⟩
      have len_sc : (eSc.list n_sc F_sc).length = n_sc := eSc.list_len
      generalize eSc.list n_sc F_sc = sc at *
      subst len_sc
      exact fokX_fin mixed gw_stable (sl := [v103, v104, v95, v107, v108, v109, v110]) ⟨S103, S104, S95, S107, S108, S109, S110, trivial⟩ Try.func35 hw hl hG hx heq rfl (t35 _ _ _ _) (w35 _ _ _ _ hp.1)
    · cases hd
  · cases hd
theorem S35 : SumOK Try.prog G0 gw 35 (fokSm dom35) := fok_sum Try.func35 rfl C35
end Go.Pl
end

section
set_option linter.unusedVariables false
set_option linter.unusedSimpArgs false
set_option maxRecDepth 100000
namespace Go.Pl
open Go.V Go.Proofs
theorem bad_all {f : Nat → Int} : ∀ (n k : Nat), (∀ i, k ≤ i → i < k + n → f i = 0) → M.badFrom f n k = (0, 0) := by
  intro n
  induction n with
  | zero => intro k _; rfl
  | succ n ih =>
    intro k h
    simp only [M.badFrom]
    rw [h k (Nat.le_refl _) (by omega)]
    exact ih (k + 1) fun i h1 h2 => h i (by omega) (by omega)
namespace M
def kn1 (c : Scale) : Scale := ⟨c.vol, c.l, c.l, c.least⟩
def kn (sc : List Scale) : List Scale := sc.map kn1
end M
theorem kn_len (sc : List Scale) : (M.kn sc).length = sc.length := by simp [M.kn]
theorem kn_get {sc : List Scale} {k : Nat} (h : k < sc.length) : (M.kn sc).getD k dfS = M.kn1 (sc.getD k dfS) := by simp [M.kn, h]
theorem kn_sys {sc : List Scale} {nw : Int} (h : (M.checkSys sc nw).2 = 0) : (M.checkSys (M.kn sc) nw).2 = 0 := by
  obtain ⟨n0, n4, hnw, hr⟩ := sys_right h
  have e0 : M.sysErr0 (M.kn sc) nw = 0 := by
    unfold M.sysErr0
    rw [kn_len, decide_eq_true (by omega), decide_eq_true (by omega), within_iff.2 hnw]; rfl
  unfold M.checkSys
  rw [e0]
  show (M.badFrom _ _ 0).2 = 0
  rw [bad_all _ 0 fun i _ hi => ?_]
  rw [kn_len] at hi
  rw [kn_get (by omega)]
  obtain ⟨s1, s2, s3⟩ := scale_right (hr i (by omega))
  unfold M.scaleErr M.rgErr M.kn1
  dsimp only
  have w1 : M.within (sc.getD i dfS).l 0 (sc.getD i dfS).vol = true := within_iff.2 (by omega)
  rw [within_iff.2 s1, within_iff.2 s3, w1, decide_eq_true (Int.le_refl _)]; rfl
theorem kn_fl (sc : List Scale) (d : Int) : ∀ k, k ≤ sc.length → (M.fl (M.kn sc) d k).lo = (M.fl (M.kn sc) d k).hi := by
  intro k
  induction k with
  | zero => intro _; rfl
  | succ k ih =>
    intro hk
    show IntKind.i64.wrap ((M.fl (M.kn sc) d k).lo + ((M.kn sc).getD k dfS).l) = IntKind.i64.wrap ((M.fl (M.kn sc) d k).hi + ((M.kn sc).getD k dfS).h)
    rw [ih (by omega), kn_get (by omega)]; rfl
theorem stN_from {g : Rg → Int} {sc : List Scale} {fl : List Rg} : ∀ (m i : Nat) (N D : Int), (M.stN g sc fl m i N D).1 = N * (M.stN g sc fl m i 0 1).2 + D * (M.stN g sc fl m i 0 1).1 ∧ (M.stN g sc fl m i N D).2 = D * (M.stN g sc fl m i 0 1).2 := by
  intro m
  induction m with
  | zero => intro i N D; exact ⟨by show N = N * 1 + D * 0; omega, by show D = D * 1; omega⟩
  | succ m ih =>
    intro i N D
    simp only [M.stN]
    obtain ⟨a1, a2⟩ := ih (i + 1) (N * g (fl.getD i dfR) + D * (1000 * (sc.getD i dfS).vol)) (D * g (fl.getD i dfR))
    obtain ⟨b1, b2⟩ := ih (i + 1) (0 * g (fl.getD i dfR) + 1 * (1000 * (sc.getD i dfS).vol)) (1 * g (fl.getD i dfR))
    rw [a1, a2, b1, b2]
    generalize (M.stN g sc fl m (i + 1) 0 1).1 = n
    generalize (M.stN g sc fl m (i + 1) 0 1).2 = e
    generalize g (fl.getD i dfR) = f
    generalize 1000 * (sc.getD i dfS).vol = v
    constructor <;> grind
theorem stN_step {g : Rg → Int} {sc : List Scale} {fl : List Rg} (m i : Nat) : (M.stN g sc fl (m + 1) i 0 1).1 = 1000 * (sc.getD i dfS).vol * (M.stN g sc fl m (i + 1) 0 1).2 + g (fl.getD i dfR) * (M.stN g sc fl m (i + 1) 0 1).1 ∧ (M.stN g sc fl (m + 1) i 0 1).2 = g (fl.getD i dfR) * (M.stN g sc fl m (i + 1) 0 1).2 := by
  have h := stN_from (g := g) (sc := sc) (fl := fl) m (i + 1) (0 * g (fl.getD i dfR) + 1 * (1000 * (sc.getD i dfS).vol)) (1 * g (fl.getD i dfR))
  simp only [M.stN]
  rw [h.1, h.2, Int.zero_mul, Int.one_mul, Int.one_mul, Int.zero_add]
  exact ⟨rfl, rfl⟩
theorem stN_pos {g : Rg → Int} {sc : List Scale} {fl : List Rg} : ∀ (m i : Nat), (∀ k, i ≤ k → k < i + m → 0 < g (fl.getD k dfR)) → 0 < (M.stN g sc fl m i 0 1).2 := by
  intro m
  induction m with
  | zero => intro i _; show (0 : Int) < 1; decide
  | succ m ih =>
    intro i h
    rw [(stN_step m i).2]
    exact Int.mul_pos (h i (Nat.le_refl _) (by omega)) (ih (i + 1) fun k h1 h2 => h k (by omega) (by omega))
theorem stN_congr {g g' : Rg → Int} {sc : List Scale} {fl : List Rg} : ∀ (m i : Nat), (∀ k, i ≤ k → k < i + m → g (fl.getD k dfR) = g' (fl.getD k dfR)) → ∀ N D, M.stN g sc fl m i N D = M.stN g' sc fl m i N D := by
  intro m
  induction m with
  | zero => intro i _ N D; rfl
  | succ m ih =>
    intro i h N D
    simp only [M.stN]
    rw [h i (Nat.le_refl _) (by omega)]
    exact ih (i + 1) (fun k h1 h2 => h k (by omega) (by omega)) _ _
theorem ediv_exact {N D : Int} (hD : 0 < D) (h : N / D = -((-N) / D)) : N / D * D = N := by
  have h1 := Int.ediv_mul_le N (Int.ne_of_gt hD)
  have h2 := Int.ediv_mul_le (-N) (Int.ne_of_gt hD)
  have h3 : (-N) / D = -(N / D) := by omega
  rw [h3, Int.neg_mul] at h2
  omega
theorem floorW_eq {n b : Int} (hn : -1000000000000 ≤ n ∧ n ≤ 1000000000000) (hb : 0 < b) : M.floorW n b = n / b := by
  have ht : n.tdiv b * b + n.tmod b = n := Int.tdiv_mul_add_tmod n b
  have hlt : n.tmod b < b := Int.tmod_lt_of_pos n hb
  have hgt : -b < n.tmod b := by
    have := Int.tmod_lt_of_pos (-n) hb
    rw [Int.neg_tmod] at this
    omega
  have hq : -1000000000000 ≤ n.tdiv b ∧ n.tdiv b ≤ 1000000000000 := by
    have := Int.natAbs_tdiv_le_natAbs n b
    omega
  unfold M.floorW
  by_cases h : n.tmod b < 0
  · rw [decide_eq_true h]
    show IntKind.i64.wrap (IntKind.i64.wrap (n.tdiv b) - 1) = n / b
    rw [wrap_id (n := n.tdiv b) (by omega) (by omega), wrap_id (by omega) (by omega)]
    refine (ediv_at hb ?_ ?_).symm
    · rw [Int.sub_mul]; omega
    · rw [Int.sub_add_cancel]; omega
  · rw [decide_eq_false h]
    show IntKind.i64.wrap (n.tdiv b) = n / b
    rw [wrap_id (by omega) (by omega)]
    refine (ediv_at hb (by omega) ?_).symm
    rw [Int.add_mul]; omega
theorem ceilW_eq {n b : Int} (hn : -1000000000000 ≤ n ∧ n ≤ 1000000000000) (hb : 0 < b) : M.ceilW n b = -((-n) / b) := by
  unfold M.ceilW
  rw [wrap_id (n := 0 - n) (by omega) (by omega), floorW_eq (by omega) hb, show 0 - n = -n by omega]
  have h1 := Int.ediv_mul_le (-n) (Int.ne_of_gt hb)
  have h2 : -1000000000000 ≤ (-n) / b ∧ (-n) / b ≤ 1000000000000 := by
    constructor
    · refine (Int.le_ediv_iff_mul_le hb).2 ?_
      have : -1000000000000 * b ≤ -1000000000000 * 1 := Int.mul_le_mul_of_nonpos_left (by omega) (by omega)
      omega
    · have : (-n) / b < 1000000000001 := (Int.ediv_lt_iff_lt_mul hb).2 (by
        have : 1000000000001 * 1 ≤ 1000000000001 * b := Int.mul_le_mul_of_nonneg_left (by omega) (by omega)
        omega)
      omega
  rw [wrap_id (by omega) (by omega)]; omega
theorem mixed_eq {v f a b : Int} (hv : 0 ≤ v ∧ v ≤ 20000) (hf : 0 ≤ f ∧ f ≤ v) (ha : 0 ≤ a ∧ a ≤ 100000) (hb : 0 ≤ b ∧ b ≤ 100000) : M.mixed v f a b = (v - f) * a + f * b ∧ 0 ≤ (v - f) * a + f * b ∧ (v - f) * a + f * b ≤ 4000000000 := by
  have h1 : (v - f) * a ≤ 20000 * 100000 := Int.mul_le_mul (by omega) ha.2 ha.1 (by omega)
  have h2 : f * b ≤ 20000 * 100000 := Int.mul_le_mul (by omega) hb.2 hb.1 (by omega)
  have h3 : 0 ≤ (v - f) * a := Int.mul_nonneg (by omega) ha.1
  have h4 : 0 ≤ f * b := Int.mul_nonneg hf.1 hb.1
  unfold M.mixed
  rw [wrap_id (n := v - f) (by omega) (by omega), wrap_id (n := (v - f) * a) (by omega) (by omega), wrap_id (n := f * b) (by omega) (by omega), wrap_id (by omega) (by omega)]
  exact ⟨rfl, by omega, by omega⟩
theorem yearK_eq {v f : Int} {a n : Rg} (hv : 0 < v ∧ v ≤ 20000) (hf : 0 ≤ f ∧ f ≤ v) (ha : 0 ≤ a.lo ∧ a.lo ≤ a.hi ∧ a.hi ≤ 100000) (hn : 0 ≤ n.lo ∧ n.lo ≤ n.hi ∧ n.hi ≤ 100000) :
    M.yearK v ⟨f, f⟩ a n = ⟨((v - f) * a.lo + f * n.lo) / v + 1000, -((-((v - f) * a.hi + f * n.hi)) / v) + 1000⟩ := by
  obtain ⟨m1, m2, m3⟩ := mixed_eq (v := v) (f := f) (a := a.lo) (b := n.lo) (by omega) hf (by omega) (by omega)
  obtain ⟨p1, p2, p3⟩ := mixed_eq (v := v) (f := f) (a := a.hi) (b := n.hi) (by omega) hf (by omega) (by omega)
  unfold M.yearK M.mn M.mx
  dsimp only
  rw [m1, p1, if_neg (by omega), if_neg (by omega), floorW_eq (by omega) hv.1, ceilW_eq (by omega) hv.1]
  have b1 : 0 ≤ ((v - f) * a.lo + f * n.lo) / v := Int.ediv_nonneg m2 (by omega)
  have b2 : ((v - f) * a.lo + f * n.lo) / v ≤ (v - f) * a.lo + f * n.lo := Int.ediv_le_self _ m2
  generalize (v - f) * a.hi + f * n.hi = y at *
  have c1 : -y ≤ (-y) / v := by
    refine (Int.le_ediv_iff_mul_le hv.1).2 ?_
    have : y * 1 ≤ y * v := Int.mul_le_mul_of_nonneg_left (by omega) p2
    rw [Int.neg_mul]; omega
  have c2 : (-y) / v ≤ 0 := by
    have : (-y) / v < 1 := (Int.ediv_lt_iff_lt_mul hv.1).2 (by omega)
    omega
  rw [wrap_id (by omega) (by omega), wrap_id (by omega) (by omega)]
end Go.Pl
end
