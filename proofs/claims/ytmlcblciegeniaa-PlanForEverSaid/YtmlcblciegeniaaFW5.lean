/- The parts of the engines, of their contracts and of the plain laws that the claim rests on: A17, A19, A20, A21, A22, A23, A24, A60, A25, A26, A27, A28, A29, A30, A31, A32, A33, A34, A35, A36, A37, A38, A39, A40, A41, A42, A43, A61, A62, A51, A44, A52, A63, A64, A53, A54, A55, A56. -/
import Derived.Test.YtmlcblciegeniaaFW4
set_option linter.unusedVariables false
set_option linter.unusedSimpArgs false
section
set_option linter.unusedVariables false
set_option linter.unusedSimpArgs false
set_option maxRecDepth 100000
namespace Go.Pl
open Go.V Go.Proofs
def four : List D := [.sl true 2 4 (eSc.F [⟨1000, 0, 0, 20000⟩, ⟨1000, 0, 0, 10000⟩]), dI 0]
def nd_t28c : List Prop := [
  Enc.Is eSc (2 : Nat) (Enc.F eSc [(Scale.mk (1000 : Int) (0 : Int) (0 : Int) (20000 : Int)), (Scale.mk (1000 : Int) (0 : Int) (0 : Int) (10000 : Int))]),
  (2 : Nat) ≤ (100000 : Nat),
  Enc.Is eSc (2 : Nat) (Enc.F eSc (Enc.list eSc (2 : Nat) (Enc.F eSc [(Scale.mk (1000 : Int) (0 : Int) (0 : Int) (20000 : Int)), (Scale.mk (1000 : Int) (0 : Int) (0 : Int) (10000 : Int))]))),
  List.length (Enc.list eSc (2 : Nat) (Enc.F eSc (Enc.list eSc (2 : Nat) (Enc.F eSc [(Scale.mk (1000 : Int) (0 : Int) (0 : Int) (20000 : Int)), (Scale.mk (1000 : Int) (0 : Int) (0 : Int) (10000 : Int))])))) ≤ (100000 : Nat),
  Enc.Is eSc (2 : Nat) (Enc.F eSc (Enc.list eSc (2 : Nat) (Enc.F eSc [(Scale.mk (1000 : Int) (0 : Int) (0 : Int) (20000 : Int)), (Scale.mk (1000 : Int) (0 : Int) (0 : Int) (10000 : Int))]))),
  Enc.Is eRg (List.length (M.flows (Enc.list eSc (2 : Nat) (Enc.F eSc (Enc.list eSc (2 : Nat) (Enc.F eSc [(Scale.mk (1000 : Int) (0 : Int) (0 : Int) (20000 : Int)), (Scale.mk (1000 : Int) (0 : Int) (0 : Int) (10000 : Int))])))) (0 : Int))) (Enc.F eRg (M.flows (Enc.list eSc (2 : Nat) (Enc.F eSc (Enc.list eSc (2 : Nat) (Enc.F eSc [(Scale.mk (1000 : Int) (0 : Int) (0 : Int) (20000 : Int)), (Scale.mk (1000 : Int) (0 : Int) (0 : Int) (10000 : Int))])))) (0 : Int))),
  List.length (Enc.list eRg (List.length (M.flows (Enc.list eSc (2 : Nat) (Enc.F eSc (Enc.list eSc (2 : Nat) (Enc.F eSc [(Scale.mk (1000 : Int) (0 : Int) (0 : Int) (20000 : Int)), (Scale.mk (1000 : Int) (0 : Int) (0 : Int) (10000 : Int))])))) (0 : Int))) (Enc.F eRg (M.flows (Enc.list eSc (2 : Nat) (Enc.F eSc (Enc.list eSc (2 : Nat) (Enc.F eSc [(Scale.mk (1000 : Int) (0 : Int) (0 : Int) (20000 : Int)), (Scale.mk (1000 : Int) (0 : Int) (0 : Int) (10000 : Int))])))) (0 : Int)))) ≤ List.length (Enc.list eSc (2 : Nat) (Enc.F eSc (Enc.list eSc (2 : Nat) (Enc.F eSc [(Scale.mk (1000 : Int) (0 : Int) (0 : Int) (20000 : Int)), (Scale.mk (1000 : Int) (0 : Int) (0 : Int) (10000 : Int))])))),
  List.length (Enc.list eSc (2 : Nat) (Enc.F eSc (Enc.list eSc (2 : Nat) (Enc.F eSc [(Scale.mk (1000 : Int) (0 : Int) (0 : Int) (20000 : Int)), (Scale.mk (1000 : Int) (0 : Int) (0 : Int) (10000 : Int))])))) ≤ (100000 : Nat),
  (0 : Int) ≤ (0 : Int),
  (0 : Int) < (2 : Int),
  (0 : Int) ≤ (1 : Int),
  (1 : Int) < (2 : Int),
  Enc.Is eSc (2 : Nat) (Enc.F eSc (Enc.list eSc (2 : Nat) (Enc.F eSc [(Scale.mk (1000 : Int) (0 : Int) (0 : Int) (20000 : Int)), (Scale.mk (1000 : Int) (0 : Int) (0 : Int) (10000 : Int))]))),
  List.length (Enc.list eSc (2 : Nat) (Enc.F eSc (Enc.list eSc (2 : Nat) (Enc.F eSc [(Scale.mk (1000 : Int) (0 : Int) (0 : Int) (20000 : Int)), (Scale.mk (1000 : Int) (0 : Int) (0 : Int) (10000 : Int))])))) ≤ (100000 : Nat),
  Enc.Is eSc (2 : Nat) (Enc.F eSc (Enc.list eSc (2 : Nat) (Enc.F eSc [(Scale.mk (1000 : Int) (0 : Int) (0 : Int) (20000 : Int)), (Scale.mk (1000 : Int) (0 : Int) (0 : Int) (10000 : Int))]))),
  Enc.Is eRg (List.length (M.flows (Enc.list eSc (2 : Nat) (Enc.F eSc (Enc.list eSc (2 : Nat) (Enc.F eSc [(Scale.mk (1000 : Int) (0 : Int) (0 : Int) (20000 : Int)), (Scale.mk (1000 : Int) (0 : Int) (0 : Int) (10000 : Int))])))) (10000 : Int))) (Enc.F eRg (M.flows (Enc.list eSc (2 : Nat) (Enc.F eSc (Enc.list eSc (2 : Nat) (Enc.F eSc [(Scale.mk (1000 : Int) (0 : Int) (0 : Int) (20000 : Int)), (Scale.mk (1000 : Int) (0 : Int) (0 : Int) (10000 : Int))])))) (10000 : Int))),
  List.length (Enc.list eRg (List.length (M.flows (Enc.list eSc (2 : Nat) (Enc.F eSc (Enc.list eSc (2 : Nat) (Enc.F eSc [(Scale.mk (1000 : Int) (0 : Int) (0 : Int) (20000 : Int)), (Scale.mk (1000 : Int) (0 : Int) (0 : Int) (10000 : Int))])))) (10000 : Int))) (Enc.F eRg (M.flows (Enc.list eSc (2 : Nat) (Enc.F eSc (Enc.list eSc (2 : Nat) (Enc.F eSc [(Scale.mk (1000 : Int) (0 : Int) (0 : Int) (20000 : Int)), (Scale.mk (1000 : Int) (0 : Int) (0 : Int) (10000 : Int))])))) (10000 : Int)))) ≤ List.length (Enc.list eSc (2 : Nat) (Enc.F eSc (Enc.list eSc (2 : Nat) (Enc.F eSc [(Scale.mk (1000 : Int) (0 : Int) (0 : Int) (20000 : Int)), (Scale.mk (1000 : Int) (0 : Int) (0 : Int) (10000 : Int))])))),
  List.length (Enc.list eSc (2 : Nat) (Enc.F eSc (Enc.list eSc (2 : Nat) (Enc.F eSc [(Scale.mk (1000 : Int) (0 : Int) (0 : Int) (20000 : Int)), (Scale.mk (1000 : Int) (0 : Int) (0 : Int) (10000 : Int))])))) ≤ (100000 : Nat),
  (0 : Int) ≤ (0 : Int),
  (0 : Int) < (2 : Int),
  Enc.Is eSc (2 : Nat) (Enc.F eSc (Enc.list eSc (2 : Nat) (Enc.F eSc [(Scale.mk (1000 : Int) (0 : Int) (0 : Int) (20000 : Int)), (Scale.mk (1000 : Int) (0 : Int) (0 : Int) (10000 : Int))]))),
  List.length (Enc.list eSc (2 : Nat) (Enc.F eSc (Enc.list eSc (2 : Nat) (Enc.F eSc [(Scale.mk (1000 : Int) (0 : Int) (0 : Int) (20000 : Int)), (Scale.mk (1000 : Int) (0 : Int) (0 : Int) (10000 : Int))])))) ≤ (100000 : Nat),
  Enc.Is eSc (2 : Nat) (Enc.F eSc (Enc.list eSc (2 : Nat) (Enc.F eSc [(Scale.mk (1000 : Int) (0 : Int) (0 : Int) (20000 : Int)), (Scale.mk (1000 : Int) (0 : Int) (0 : Int) (10000 : Int))]))),
  Enc.Is eRg (List.length (M.flows (Enc.list eSc (2 : Nat) (Enc.F eSc (Enc.list eSc (2 : Nat) (Enc.F eSc [(Scale.mk (1000 : Int) (0 : Int) (0 : Int) (20000 : Int)), (Scale.mk (1000 : Int) (0 : Int) (0 : Int) (10000 : Int))])))) (5000 : Int))) (Enc.F eRg (M.flows (Enc.list eSc (2 : Nat) (Enc.F eSc (Enc.list eSc (2 : Nat) (Enc.F eSc [(Scale.mk (1000 : Int) (0 : Int) (0 : Int) (20000 : Int)), (Scale.mk (1000 : Int) (0 : Int) (0 : Int) (10000 : Int))])))) (5000 : Int))),
  List.length (Enc.list eRg (List.length (M.flows (Enc.list eSc (2 : Nat) (Enc.F eSc (Enc.list eSc (2 : Nat) (Enc.F eSc [(Scale.mk (1000 : Int) (0 : Int) (0 : Int) (20000 : Int)), (Scale.mk (1000 : Int) (0 : Int) (0 : Int) (10000 : Int))])))) (5000 : Int))) (Enc.F eRg (M.flows (Enc.list eSc (2 : Nat) (Enc.F eSc (Enc.list eSc (2 : Nat) (Enc.F eSc [(Scale.mk (1000 : Int) (0 : Int) (0 : Int) (20000 : Int)), (Scale.mk (1000 : Int) (0 : Int) (0 : Int) (10000 : Int))])))) (5000 : Int)))) ≤ List.length (Enc.list eSc (2 : Nat) (Enc.F eSc (Enc.list eSc (2 : Nat) (Enc.F eSc [(Scale.mk (1000 : Int) (0 : Int) (0 : Int) (20000 : Int)), (Scale.mk (1000 : Int) (0 : Int) (0 : Int) (10000 : Int))])))),
  List.length (Enc.list eSc (2 : Nat) (Enc.F eSc (Enc.list eSc (2 : Nat) (Enc.F eSc [(Scale.mk (1000 : Int) (0 : Int) (0 : Int) (20000 : Int)), (Scale.mk (1000 : Int) (0 : Int) (0 : Int) (10000 : Int))])))) ≤ (100000 : Nat),
  (0 : Int) ≤ (0 : Int),
  (0 : Int) < (2 : Int),
  Enc.Is eSc (2 : Nat) (Enc.F eSc (Enc.list eSc (2 : Nat) (Enc.F eSc [(Scale.mk (1000 : Int) (0 : Int) (0 : Int) (20000 : Int)), (Scale.mk (1000 : Int) (0 : Int) (0 : Int) (10000 : Int))]))),
  List.length (Enc.list eSc (2 : Nat) (Enc.F eSc (Enc.list eSc (2 : Nat) (Enc.F eSc [(Scale.mk (1000 : Int) (0 : Int) (0 : Int) (20000 : Int)), (Scale.mk (1000 : Int) (0 : Int) (0 : Int) (10000 : Int))])))) ≤ (100000 : Nat),
  Enc.Is eSc (2 : Nat) (Enc.F eSc (Enc.list eSc (2 : Nat) (Enc.F eSc [(Scale.mk (1000 : Int) (0 : Int) (0 : Int) (20000 : Int)), (Scale.mk (1000 : Int) (0 : Int) (0 : Int) (10000 : Int))]))),
  Enc.Is eRg (List.length (M.flows (Enc.list eSc (2 : Nat) (Enc.F eSc (Enc.list eSc (2 : Nat) (Enc.F eSc [(Scale.mk (1000 : Int) (0 : Int) (0 : Int) (20000 : Int)), (Scale.mk (1000 : Int) (0 : Int) (0 : Int) (10000 : Int))])))) (2500 : Int))) (Enc.F eRg (M.flows (Enc.list eSc (2 : Nat) (Enc.F eSc (Enc.list eSc (2 : Nat) (Enc.F eSc [(Scale.mk (1000 : Int) (0 : Int) (0 : Int) (20000 : Int)), (Scale.mk (1000 : Int) (0 : Int) (0 : Int) (10000 : Int))])))) (2500 : Int))),
  List.length (Enc.list eRg (List.length (M.flows (Enc.list eSc (2 : Nat) (Enc.F eSc (Enc.list eSc (2 : Nat) (Enc.F eSc [(Scale.mk (1000 : Int) (0 : Int) (0 : Int) (20000 : Int)), (Scale.mk (1000 : Int) (0 : Int) (0 : Int) (10000 : Int))])))) (2500 : Int))) (Enc.F eRg (M.flows (Enc.list eSc (2 : Nat) (Enc.F eSc (Enc.list eSc (2 : Nat) (Enc.F eSc [(Scale.mk (1000 : Int) (0 : Int) (0 : Int) (20000 : Int)), (Scale.mk (1000 : Int) (0 : Int) (0 : Int) (10000 : Int))])))) (2500 : Int)))) ≤ List.length (Enc.list eSc (2 : Nat) (Enc.F eSc (Enc.list eSc (2 : Nat) (Enc.F eSc [(Scale.mk (1000 : Int) (0 : Int) (0 : Int) (20000 : Int)), (Scale.mk (1000 : Int) (0 : Int) (0 : Int) (10000 : Int))])))),
  List.length (Enc.list eSc (2 : Nat) (Enc.F eSc (Enc.list eSc (2 : Nat) (Enc.F eSc [(Scale.mk (1000 : Int) (0 : Int) (0 : Int) (20000 : Int)), (Scale.mk (1000 : Int) (0 : Int) (0 : Int) (10000 : Int))])))) ≤ (100000 : Nat),
  (0 : Int) ≤ (0 : Int),
  (0 : Int) < (2 : Int),
  Enc.Is eSc (2 : Nat) (Enc.F eSc (Enc.list eSc (2 : Nat) (Enc.F eSc [(Scale.mk (1000 : Int) (0 : Int) (0 : Int) (20000 : Int)), (Scale.mk (1000 : Int) (0 : Int) (0 : Int) (10000 : Int))]))),
  List.length (Enc.list eSc (2 : Nat) (Enc.F eSc (Enc.list eSc (2 : Nat) (Enc.F eSc [(Scale.mk (1000 : Int) (0 : Int) (0 : Int) (20000 : Int)), (Scale.mk (1000 : Int) (0 : Int) (0 : Int) (10000 : Int))])))) ≤ (100000 : Nat),
  Enc.Is eSc (2 : Nat) (Enc.F eSc (Enc.list eSc (2 : Nat) (Enc.F eSc [(Scale.mk (1000 : Int) (0 : Int) (0 : Int) (20000 : Int)), (Scale.mk (1000 : Int) (0 : Int) (0 : Int) (10000 : Int))]))),
  Enc.Is eRg (List.length (M.flows (Enc.list eSc (2 : Nat) (Enc.F eSc (Enc.list eSc (2 : Nat) (Enc.F eSc [(Scale.mk (1000 : Int) (0 : Int) (0 : Int) (20000 : Int)), (Scale.mk (1000 : Int) (0 : Int) (0 : Int) (10000 : Int))])))) (1250 : Int))) (Enc.F eRg (M.flows (Enc.list eSc (2 : Nat) (Enc.F eSc (Enc.list eSc (2 : Nat) (Enc.F eSc [(Scale.mk (1000 : Int) (0 : Int) (0 : Int) (20000 : Int)), (Scale.mk (1000 : Int) (0 : Int) (0 : Int) (10000 : Int))])))) (1250 : Int))),
  List.length (Enc.list eRg (List.length (M.flows (Enc.list eSc (2 : Nat) (Enc.F eSc (Enc.list eSc (2 : Nat) (Enc.F eSc [(Scale.mk (1000 : Int) (0 : Int) (0 : Int) (20000 : Int)), (Scale.mk (1000 : Int) (0 : Int) (0 : Int) (10000 : Int))])))) (1250 : Int))) (Enc.F eRg (M.flows (Enc.list eSc (2 : Nat) (Enc.F eSc (Enc.list eSc (2 : Nat) (Enc.F eSc [(Scale.mk (1000 : Int) (0 : Int) (0 : Int) (20000 : Int)), (Scale.mk (1000 : Int) (0 : Int) (0 : Int) (10000 : Int))])))) (1250 : Int)))) ≤ List.length (Enc.list eSc (2 : Nat) (Enc.F eSc (Enc.list eSc (2 : Nat) (Enc.F eSc [(Scale.mk (1000 : Int) (0 : Int) (0 : Int) (20000 : Int)), (Scale.mk (1000 : Int) (0 : Int) (0 : Int) (10000 : Int))])))),
  List.length (Enc.list eSc (2 : Nat) (Enc.F eSc (Enc.list eSc (2 : Nat) (Enc.F eSc [(Scale.mk (1000 : Int) (0 : Int) (0 : Int) (20000 : Int)), (Scale.mk (1000 : Int) (0 : Int) (0 : Int) (10000 : Int))])))) ≤ (100000 : Nat),
  (0 : Int) ≤ (0 : Int),
  (0 : Int) < (2 : Int),
  Enc.Is eSc (2 : Nat) (Enc.F eSc (Enc.list eSc (2 : Nat) (Enc.F eSc [(Scale.mk (1000 : Int) (0 : Int) (0 : Int) (20000 : Int)), (Scale.mk (1000 : Int) (0 : Int) (0 : Int) (10000 : Int))]))),
  List.length (Enc.list eSc (2 : Nat) (Enc.F eSc (Enc.list eSc (2 : Nat) (Enc.F eSc [(Scale.mk (1000 : Int) (0 : Int) (0 : Int) (20000 : Int)), (Scale.mk (1000 : Int) (0 : Int) (0 : Int) (10000 : Int))])))) ≤ (100000 : Nat),
  Enc.Is eSc (2 : Nat) (Enc.F eSc (Enc.list eSc (2 : Nat) (Enc.F eSc [(Scale.mk (1000 : Int) (0 : Int) (0 : Int) (20000 : Int)), (Scale.mk (1000 : Int) (0 : Int) (0 : Int) (10000 : Int))]))),
  Enc.Is eRg (List.length (M.flows (Enc.list eSc (2 : Nat) (Enc.F eSc (Enc.list eSc (2 : Nat) (Enc.F eSc [(Scale.mk (1000 : Int) (0 : Int) (0 : Int) (20000 : Int)), (Scale.mk (1000 : Int) (0 : Int) (0 : Int) (10000 : Int))])))) (625 : Int))) (Enc.F eRg (M.flows (Enc.list eSc (2 : Nat) (Enc.F eSc (Enc.list eSc (2 : Nat) (Enc.F eSc [(Scale.mk (1000 : Int) (0 : Int) (0 : Int) (20000 : Int)), (Scale.mk (1000 : Int) (0 : Int) (0 : Int) (10000 : Int))])))) (625 : Int))),
  List.length (Enc.list eRg (List.length (M.flows (Enc.list eSc (2 : Nat) (Enc.F eSc (Enc.list eSc (2 : Nat) (Enc.F eSc [(Scale.mk (1000 : Int) (0 : Int) (0 : Int) (20000 : Int)), (Scale.mk (1000 : Int) (0 : Int) (0 : Int) (10000 : Int))])))) (625 : Int))) (Enc.F eRg (M.flows (Enc.list eSc (2 : Nat) (Enc.F eSc (Enc.list eSc (2 : Nat) (Enc.F eSc [(Scale.mk (1000 : Int) (0 : Int) (0 : Int) (20000 : Int)), (Scale.mk (1000 : Int) (0 : Int) (0 : Int) (10000 : Int))])))) (625 : Int)))) ≤ List.length (Enc.list eSc (2 : Nat) (Enc.F eSc (Enc.list eSc (2 : Nat) (Enc.F eSc [(Scale.mk (1000 : Int) (0 : Int) (0 : Int) (20000 : Int)), (Scale.mk (1000 : Int) (0 : Int) (0 : Int) (10000 : Int))])))),
  List.length (Enc.list eSc (2 : Nat) (Enc.F eSc (Enc.list eSc (2 : Nat) (Enc.F eSc [(Scale.mk (1000 : Int) (0 : Int) (0 : Int) (20000 : Int)), (Scale.mk (1000 : Int) (0 : Int) (0 : Int) (10000 : Int))])))) ≤ (100000 : Nat),
  (0 : Int) ≤ (0 : Int),
  (0 : Int) < (2 : Int),
  Same [Ag.agg [D.sl true (2 : Nat) (4 : Nat) (Enc.F eSc (Enc.list eSc (2 : Nat) (Enc.F eSc [(Scale.mk (1000 : Int) (0 : Int) (0 : Int) (20000 : Int)), (Scale.mk (1000 : Int) (0 : Int) (0 : Int) (10000 : Int))]))), D.int IntKind.i64 (0 : Int)], Ag.c (D.int IntKind.i64 (0 : Int)), Ag.c (D.fc (185 : Nat) (List.length [D.sl false (List.length (M.flows (Enc.list eSc (2 : Nat) (Enc.F eSc (Enc.list eSc (2 : Nat) (Enc.F eSc [(Scale.mk (1000 : Int) (0 : Int) (0 : Int) (20000 : Int)), (Scale.mk (1000 : Int) (0 : Int) (0 : Int) (10000 : Int))])))) (625 : Int))) (2 : Nat) (Enc.F eRg (M.flows (Enc.list eSc (2 : Nat) (Enc.F eSc (Enc.list eSc (2 : Nat) (Enc.F eSc [(Scale.mk (1000 : Int) (0 : Int) (0 : Int) (20000 : Int)), (Scale.mk (1000 : Int) (0 : Int) (0 : Int) (10000 : Int))])))) (625 : Int)))]) fun (j : Nat) => List.getD [D.sl false (List.length (M.flows (Enc.list eSc (2 : Nat) (Enc.F eSc (Enc.list eSc (2 : Nat) (Enc.F eSc [(Scale.mk (1000 : Int) (0 : Int) (0 : Int) (20000 : Int)), (Scale.mk (1000 : Int) (0 : Int) (0 : Int) (10000 : Int))])))) (625 : Int))) (2 : Nat) (Enc.F eRg (M.flows (Enc.list eSc (2 : Nat) (Enc.F eSc (Enc.list eSc (2 : Nat) (Enc.F eSc [(Scale.mk (1000 : Int) (0 : Int) (0 : Int) (20000 : Int)), (Scale.mk (1000 : Int) (0 : Int) (0 : Int) (10000 : Int))])))) (625 : Int)))] j D.nilp)] (canon (Row110.g { g := (185 : Nat), i := (0 : Int), d := (625 : Int), lo := (3200 : Int), hi := (3200 : Int) }) (0 : Int) (625 : Int)),
  (0 : Int) ≤ (0 : Int),
  (0 : Int) < (2 : Int),
  Enc.Is eSc (2 : Nat) (Enc.F eSc (Enc.list eSc (2 : Nat) (Enc.F eSc [(Scale.mk (1000 : Int) (0 : Int) (0 : Int) (20000 : Int)), (Scale.mk (1000 : Int) (0 : Int) (0 : Int) (10000 : Int))]))),
  List.length (Enc.list eSc (2 : Nat) (Enc.F eSc (Enc.list eSc (2 : Nat) (Enc.F eSc [(Scale.mk (1000 : Int) (0 : Int) (0 : Int) (20000 : Int)), (Scale.mk (1000 : Int) (0 : Int) (0 : Int) (10000 : Int))])))) ≤ (100000 : Nat),
  Enc.Is eSc (2 : Nat) (Enc.F eSc (Enc.list eSc (2 : Nat) (Enc.F eSc [(Scale.mk (1000 : Int) (0 : Int) (0 : Int) (20000 : Int)), (Scale.mk (1000 : Int) (0 : Int) (0 : Int) (10000 : Int))]))),
  Enc.Is eRg (List.length (M.flows (Enc.list eSc (2 : Nat) (Enc.F eSc (Enc.list eSc (2 : Nat) (Enc.F eSc [(Scale.mk (1000 : Int) (0 : Int) (0 : Int) (20000 : Int)), (Scale.mk (1000 : Int) (0 : Int) (0 : Int) (10000 : Int))])))) (312 : Int))) (Enc.F eRg (M.flows (Enc.list eSc (2 : Nat) (Enc.F eSc (Enc.list eSc (2 : Nat) (Enc.F eSc [(Scale.mk (1000 : Int) (0 : Int) (0 : Int) (20000 : Int)), (Scale.mk (1000 : Int) (0 : Int) (0 : Int) (10000 : Int))])))) (312 : Int))),
  List.length (Enc.list eRg (List.length (M.flows (Enc.list eSc (2 : Nat) (Enc.F eSc (Enc.list eSc (2 : Nat) (Enc.F eSc [(Scale.mk (1000 : Int) (0 : Int) (0 : Int) (20000 : Int)), (Scale.mk (1000 : Int) (0 : Int) (0 : Int) (10000 : Int))])))) (312 : Int))) (Enc.F eRg (M.flows (Enc.list eSc (2 : Nat) (Enc.F eSc (Enc.list eSc (2 : Nat) (Enc.F eSc [(Scale.mk (1000 : Int) (0 : Int) (0 : Int) (20000 : Int)), (Scale.mk (1000 : Int) (0 : Int) (0 : Int) (10000 : Int))])))) (312 : Int)))) ≤ List.length (Enc.list eSc (2 : Nat) (Enc.F eSc (Enc.list eSc (2 : Nat) (Enc.F eSc [(Scale.mk (1000 : Int) (0 : Int) (0 : Int) (20000 : Int)), (Scale.mk (1000 : Int) (0 : Int) (0 : Int) (10000 : Int))])))),
  List.length (Enc.list eSc (2 : Nat) (Enc.F eSc (Enc.list eSc (2 : Nat) (Enc.F eSc [(Scale.mk (1000 : Int) (0 : Int) (0 : Int) (20000 : Int)), (Scale.mk (1000 : Int) (0 : Int) (0 : Int) (10000 : Int))])))) ≤ (100000 : Nat),
  (0 : Int) ≤ (0 : Int),
  (0 : Int) < (2 : Int),
  Same [Ag.agg [D.sl true (2 : Nat) (4 : Nat) (Enc.F eSc (Enc.list eSc (2 : Nat) (Enc.F eSc [(Scale.mk (1000 : Int) (0 : Int) (0 : Int) (20000 : Int)), (Scale.mk (1000 : Int) (0 : Int) (0 : Int) (10000 : Int))]))), D.int IntKind.i64 (0 : Int)], Ag.c (D.int IntKind.i64 (0 : Int)), Ag.c (D.fc (185 : Nat) (List.length [D.sl false (List.length (M.flows (Enc.list eSc (2 : Nat) (Enc.F eSc (Enc.list eSc (2 : Nat) (Enc.F eSc [(Scale.mk (1000 : Int) (0 : Int) (0 : Int) (20000 : Int)), (Scale.mk (1000 : Int) (0 : Int) (0 : Int) (10000 : Int))])))) (312 : Int))) (2 : Nat) (Enc.F eRg (M.flows (Enc.list eSc (2 : Nat) (Enc.F eSc (Enc.list eSc (2 : Nat) (Enc.F eSc [(Scale.mk (1000 : Int) (0 : Int) (0 : Int) (20000 : Int)), (Scale.mk (1000 : Int) (0 : Int) (0 : Int) (10000 : Int))])))) (312 : Int)))]) fun (j : Nat) => List.getD [D.sl false (List.length (M.flows (Enc.list eSc (2 : Nat) (Enc.F eSc (Enc.list eSc (2 : Nat) (Enc.F eSc [(Scale.mk (1000 : Int) (0 : Int) (0 : Int) (20000 : Int)), (Scale.mk (1000 : Int) (0 : Int) (0 : Int) (10000 : Int))])))) (312 : Int))) (2 : Nat) (Enc.F eRg (M.flows (Enc.list eSc (2 : Nat) (Enc.F eSc (Enc.list eSc (2 : Nat) (Enc.F eSc [(Scale.mk (1000 : Int) (0 : Int) (0 : Int) (20000 : Int)), (Scale.mk (1000 : Int) (0 : Int) (0 : Int) (10000 : Int))])))) (312 : Int)))] j D.nilp)] (canon (Row110.g { g := (185 : Nat), i := (0 : Int), d := (312 : Int), lo := (6410 : Int), hi := (6411 : Int) }) (0 : Int) (312 : Int)),
  (0 : Int) ≤ (0 : Int),
  (0 : Int) < (2 : Int),
  Enc.Is eSc (2 : Nat) (Enc.F eSc (Enc.list eSc (2 : Nat) (Enc.F eSc [(Scale.mk (1000 : Int) (0 : Int) (0 : Int) (20000 : Int)), (Scale.mk (1000 : Int) (0 : Int) (0 : Int) (10000 : Int))]))),
  List.length (Enc.list eSc (2 : Nat) (Enc.F eSc (Enc.list eSc (2 : Nat) (Enc.F eSc [(Scale.mk (1000 : Int) (0 : Int) (0 : Int) (20000 : Int)), (Scale.mk (1000 : Int) (0 : Int) (0 : Int) (10000 : Int))])))) ≤ (100000 : Nat),
  Enc.Is eSc (2 : Nat) (Enc.F eSc (Enc.list eSc (2 : Nat) (Enc.F eSc [(Scale.mk (1000 : Int) (0 : Int) (0 : Int) (20000 : Int)), (Scale.mk (1000 : Int) (0 : Int) (0 : Int) (10000 : Int))]))),
  Enc.Is eRg (List.length (M.flows (Enc.list eSc (2 : Nat) (Enc.F eSc (Enc.list eSc (2 : Nat) (Enc.F eSc [(Scale.mk (1000 : Int) (0 : Int) (0 : Int) (20000 : Int)), (Scale.mk (1000 : Int) (0 : Int) (0 : Int) (10000 : Int))])))) (156 : Int))) (Enc.F eRg (M.flows (Enc.list eSc (2 : Nat) (Enc.F eSc (Enc.list eSc (2 : Nat) (Enc.F eSc [(Scale.mk (1000 : Int) (0 : Int) (0 : Int) (20000 : Int)), (Scale.mk (1000 : Int) (0 : Int) (0 : Int) (10000 : Int))])))) (156 : Int))),
  List.length (Enc.list eRg (List.length (M.flows (Enc.list eSc (2 : Nat) (Enc.F eSc (Enc.list eSc (2 : Nat) (Enc.F eSc [(Scale.mk (1000 : Int) (0 : Int) (0 : Int) (20000 : Int)), (Scale.mk (1000 : Int) (0 : Int) (0 : Int) (10000 : Int))])))) (156 : Int))) (Enc.F eRg (M.flows (Enc.list eSc (2 : Nat) (Enc.F eSc (Enc.list eSc (2 : Nat) (Enc.F eSc [(Scale.mk (1000 : Int) (0 : Int) (0 : Int) (20000 : Int)), (Scale.mk (1000 : Int) (0 : Int) (0 : Int) (10000 : Int))])))) (156 : Int)))) ≤ List.length (Enc.list eSc (2 : Nat) (Enc.F eSc (Enc.list eSc (2 : Nat) (Enc.F eSc [(Scale.mk (1000 : Int) (0 : Int) (0 : Int) (20000 : Int)), (Scale.mk (1000 : Int) (0 : Int) (0 : Int) (10000 : Int))])))),
  List.length (Enc.list eSc (2 : Nat) (Enc.F eSc (Enc.list eSc (2 : Nat) (Enc.F eSc [(Scale.mk (1000 : Int) (0 : Int) (0 : Int) (20000 : Int)), (Scale.mk (1000 : Int) (0 : Int) (0 : Int) (10000 : Int))])))) ≤ (100000 : Nat),
  (0 : Int) ≤ (0 : Int),
  (0 : Int) < (2 : Int),
  Same [Ag.agg [D.sl true (2 : Nat) (4 : Nat) (Enc.F eSc (Enc.list eSc (2 : Nat) (Enc.F eSc [(Scale.mk (1000 : Int) (0 : Int) (0 : Int) (20000 : Int)), (Scale.mk (1000 : Int) (0 : Int) (0 : Int) (10000 : Int))]))), D.int IntKind.i64 (0 : Int)], Ag.c (D.int IntKind.i64 (0 : Int)), Ag.c (D.fc (185 : Nat) (List.length [D.sl false (List.length (M.flows (Enc.list eSc (2 : Nat) (Enc.F eSc (Enc.list eSc (2 : Nat) (Enc.F eSc [(Scale.mk (1000 : Int) (0 : Int) (0 : Int) (20000 : Int)), (Scale.mk (1000 : Int) (0 : Int) (0 : Int) (10000 : Int))])))) (156 : Int))) (2 : Nat) (Enc.F eRg (M.flows (Enc.list eSc (2 : Nat) (Enc.F eSc (Enc.list eSc (2 : Nat) (Enc.F eSc [(Scale.mk (1000 : Int) (0 : Int) (0 : Int) (20000 : Int)), (Scale.mk (1000 : Int) (0 : Int) (0 : Int) (10000 : Int))])))) (156 : Int)))]) fun (j : Nat) => List.getD [D.sl false (List.length (M.flows (Enc.list eSc (2 : Nat) (Enc.F eSc (Enc.list eSc (2 : Nat) (Enc.F eSc [(Scale.mk (1000 : Int) (0 : Int) (0 : Int) (20000 : Int)), (Scale.mk (1000 : Int) (0 : Int) (0 : Int) (10000 : Int))])))) (156 : Int))) (2 : Nat) (Enc.F eRg (M.flows (Enc.list eSc (2 : Nat) (Enc.F eSc (Enc.list eSc (2 : Nat) (Enc.F eSc [(Scale.mk (1000 : Int) (0 : Int) (0 : Int) (20000 : Int)), (Scale.mk (1000 : Int) (0 : Int) (0 : Int) (10000 : Int))])))) (156 : Int)))] j D.nilp)] (canon (Row110.g { g := (185 : Nat), i := (0 : Int), d := (156 : Int), lo := (12820 : Int), hi := (12821 : Int) }) (0 : Int) (156 : Int)),
  (0 : Int) ≤ (0 : Int),
  (0 : Int) < (2 : Int),
  Enc.Is eSc (2 : Nat) (Enc.F eSc (Enc.list eSc (2 : Nat) (Enc.F eSc [(Scale.mk (1000 : Int) (0 : Int) (0 : Int) (20000 : Int)), (Scale.mk (1000 : Int) (0 : Int) (0 : Int) (10000 : Int))]))),
  List.length (Enc.list eSc (2 : Nat) (Enc.F eSc (Enc.list eSc (2 : Nat) (Enc.F eSc [(Scale.mk (1000 : Int) (0 : Int) (0 : Int) (20000 : Int)), (Scale.mk (1000 : Int) (0 : Int) (0 : Int) (10000 : Int))])))) ≤ (100000 : Nat),
  Enc.Is eSc (2 : Nat) (Enc.F eSc (Enc.list eSc (2 : Nat) (Enc.F eSc [(Scale.mk (1000 : Int) (0 : Int) (0 : Int) (20000 : Int)), (Scale.mk (1000 : Int) (0 : Int) (0 : Int) (10000 : Int))]))),
  Enc.Is eRg (List.length (M.flows (Enc.list eSc (2 : Nat) (Enc.F eSc (Enc.list eSc (2 : Nat) (Enc.F eSc [(Scale.mk (1000 : Int) (0 : Int) (0 : Int) (20000 : Int)), (Scale.mk (1000 : Int) (0 : Int) (0 : Int) (10000 : Int))])))) (78 : Int))) (Enc.F eRg (M.flows (Enc.list eSc (2 : Nat) (Enc.F eSc (Enc.list eSc (2 : Nat) (Enc.F eSc [(Scale.mk (1000 : Int) (0 : Int) (0 : Int) (20000 : Int)), (Scale.mk (1000 : Int) (0 : Int) (0 : Int) (10000 : Int))])))) (78 : Int))),
  List.length (Enc.list eRg (List.length (M.flows (Enc.list eSc (2 : Nat) (Enc.F eSc (Enc.list eSc (2 : Nat) (Enc.F eSc [(Scale.mk (1000 : Int) (0 : Int) (0 : Int) (20000 : Int)), (Scale.mk (1000 : Int) (0 : Int) (0 : Int) (10000 : Int))])))) (78 : Int))) (Enc.F eRg (M.flows (Enc.list eSc (2 : Nat) (Enc.F eSc (Enc.list eSc (2 : Nat) (Enc.F eSc [(Scale.mk (1000 : Int) (0 : Int) (0 : Int) (20000 : Int)), (Scale.mk (1000 : Int) (0 : Int) (0 : Int) (10000 : Int))])))) (78 : Int)))) ≤ List.length (Enc.list eSc (2 : Nat) (Enc.F eSc (Enc.list eSc (2 : Nat) (Enc.F eSc [(Scale.mk (1000 : Int) (0 : Int) (0 : Int) (20000 : Int)), (Scale.mk (1000 : Int) (0 : Int) (0 : Int) (10000 : Int))])))),
  List.length (Enc.list eSc (2 : Nat) (Enc.F eSc (Enc.list eSc (2 : Nat) (Enc.F eSc [(Scale.mk (1000 : Int) (0 : Int) (0 : Int) (20000 : Int)), (Scale.mk (1000 : Int) (0 : Int) (0 : Int) (10000 : Int))])))) ≤ (100000 : Nat),
  (0 : Int) ≤ (0 : Int),
  (0 : Int) < (2 : Int),
  Same [Ag.agg [D.sl true (2 : Nat) (4 : Nat) (Enc.F eSc (Enc.list eSc (2 : Nat) (Enc.F eSc [(Scale.mk (1000 : Int) (0 : Int) (0 : Int) (20000 : Int)), (Scale.mk (1000 : Int) (0 : Int) (0 : Int) (10000 : Int))]))), D.int IntKind.i64 (0 : Int)], Ag.c (D.int IntKind.i64 (0 : Int)), Ag.c (D.fc (185 : Nat) (List.length [D.sl false (List.length (M.flows (Enc.list eSc (2 : Nat) (Enc.F eSc (Enc.list eSc (2 : Nat) (Enc.F eSc [(Scale.mk (1000 : Int) (0 : Int) (0 : Int) (20000 : Int)), (Scale.mk (1000 : Int) (0 : Int) (0 : Int) (10000 : Int))])))) (78 : Int))) (2 : Nat) (Enc.F eRg (M.flows (Enc.list eSc (2 : Nat) (Enc.F eSc (Enc.list eSc (2 : Nat) (Enc.F eSc [(Scale.mk (1000 : Int) (0 : Int) (0 : Int) (20000 : Int)), (Scale.mk (1000 : Int) (0 : Int) (0 : Int) (10000 : Int))])))) (78 : Int)))]) fun (j : Nat) => List.getD [D.sl false (List.length (M.flows (Enc.list eSc (2 : Nat) (Enc.F eSc (Enc.list eSc (2 : Nat) (Enc.F eSc [(Scale.mk (1000 : Int) (0 : Int) (0 : Int) (20000 : Int)), (Scale.mk (1000 : Int) (0 : Int) (0 : Int) (10000 : Int))])))) (78 : Int))) (2 : Nat) (Enc.F eRg (M.flows (Enc.list eSc (2 : Nat) (Enc.F eSc (Enc.list eSc (2 : Nat) (Enc.F eSc [(Scale.mk (1000 : Int) (0 : Int) (0 : Int) (20000 : Int)), (Scale.mk (1000 : Int) (0 : Int) (0 : Int) (10000 : Int))])))) (78 : Int)))] j D.nilp)] (canon (Row110.g { g := (185 : Nat), i := (0 : Int), d := (78 : Int), lo := (25641 : Int), hi := (25642 : Int) }) (0 : Int) (78 : Int)),
  (0 : Int) ≤ (0 : Int),
  (0 : Int) < (2 : Int),
  (0 : Int) ≤ (1 : Int),
  (1 : Int) < (2 : Int),
  Same [Ag.agg [D.sl true (2 : Nat) (4 : Nat) (Enc.F eSc (Enc.list eSc (2 : Nat) (Enc.F eSc [(Scale.mk (1000 : Int) (0 : Int) (0 : Int) (20000 : Int)), (Scale.mk (1000 : Int) (0 : Int) (0 : Int) (10000 : Int))]))), D.int IntKind.i64 (0 : Int)], Ag.c (D.int IntKind.i64 (1 : Int)), Ag.c (D.fc (185 : Nat) (List.length [D.sl false (List.length (M.flows (Enc.list eSc (2 : Nat) (Enc.F eSc (Enc.list eSc (2 : Nat) (Enc.F eSc [(Scale.mk (1000 : Int) (0 : Int) (0 : Int) (20000 : Int)), (Scale.mk (1000 : Int) (0 : Int) (0 : Int) (10000 : Int))])))) (78 : Int))) (2 : Nat) (Enc.F eRg (M.flows (Enc.list eSc (2 : Nat) (Enc.F eSc (Enc.list eSc (2 : Nat) (Enc.F eSc [(Scale.mk (1000 : Int) (0 : Int) (0 : Int) (20000 : Int)), (Scale.mk (1000 : Int) (0 : Int) (0 : Int) (10000 : Int))])))) (78 : Int)))]) fun (j : Nat) => List.getD [D.sl false (List.length (M.flows (Enc.list eSc (2 : Nat) (Enc.F eSc (Enc.list eSc (2 : Nat) (Enc.F eSc [(Scale.mk (1000 : Int) (0 : Int) (0 : Int) (20000 : Int)), (Scale.mk (1000 : Int) (0 : Int) (0 : Int) (10000 : Int))])))) (78 : Int))) (2 : Nat) (Enc.F eRg (M.flows (Enc.list eSc (2 : Nat) (Enc.F eSc (Enc.list eSc (2 : Nat) (Enc.F eSc [(Scale.mk (1000 : Int) (0 : Int) (0 : Int) (20000 : Int)), (Scale.mk (1000 : Int) (0 : Int) (0 : Int) (10000 : Int))])))) (78 : Int)))] j D.nilp)] (canon (Row110.g { g := (185 : Nat), i := (1 : Int), d := (78 : Int), lo := (12820 : Int), hi := (12821 : Int) }) (1 : Int) (78 : Int)),
  (0 : Int) ≤ (1 : Int),
  (1 : Int) < (2 : Int),
  Enc.Is eSc (2 : Nat) (Enc.F eSc (Enc.list eSc (2 : Nat) (Enc.F eSc [(Scale.mk (1000 : Int) (0 : Int) (0 : Int) (20000 : Int)), (Scale.mk (1000 : Int) (0 : Int) (0 : Int) (10000 : Int))]))),
  List.length (Enc.list eSc (2 : Nat) (Enc.F eSc (Enc.list eSc (2 : Nat) (Enc.F eSc [(Scale.mk (1000 : Int) (0 : Int) (0 : Int) (20000 : Int)), (Scale.mk (1000 : Int) (0 : Int) (0 : Int) (10000 : Int))])))) ≤ (100000 : Nat),
  Enc.Is eSc (2 : Nat) (Enc.F eSc (Enc.list eSc (2 : Nat) (Enc.F eSc [(Scale.mk (1000 : Int) (0 : Int) (0 : Int) (20000 : Int)), (Scale.mk (1000 : Int) (0 : Int) (0 : Int) (10000 : Int))]))),
  Enc.Is eRg (List.length (M.flows (Enc.list eSc (2 : Nat) (Enc.F eSc (Enc.list eSc (2 : Nat) (Enc.F eSc [(Scale.mk (1000 : Int) (0 : Int) (0 : Int) (20000 : Int)), (Scale.mk (1000 : Int) (0 : Int) (0 : Int) (10000 : Int))])))) (117 : Int))) (Enc.F eRg (M.flows (Enc.list eSc (2 : Nat) (Enc.F eSc (Enc.list eSc (2 : Nat) (Enc.F eSc [(Scale.mk (1000 : Int) (0 : Int) (0 : Int) (20000 : Int)), (Scale.mk (1000 : Int) (0 : Int) (0 : Int) (10000 : Int))])))) (117 : Int))),
  List.length (Enc.list eRg (List.length (M.flows (Enc.list eSc (2 : Nat) (Enc.F eSc (Enc.list eSc (2 : Nat) (Enc.F eSc [(Scale.mk (1000 : Int) (0 : Int) (0 : Int) (20000 : Int)), (Scale.mk (1000 : Int) (0 : Int) (0 : Int) (10000 : Int))])))) (117 : Int))) (Enc.F eRg (M.flows (Enc.list eSc (2 : Nat) (Enc.F eSc (Enc.list eSc (2 : Nat) (Enc.F eSc [(Scale.mk (1000 : Int) (0 : Int) (0 : Int) (20000 : Int)), (Scale.mk (1000 : Int) (0 : Int) (0 : Int) (10000 : Int))])))) (117 : Int)))) ≤ List.length (Enc.list eSc (2 : Nat) (Enc.F eSc (Enc.list eSc (2 : Nat) (Enc.F eSc [(Scale.mk (1000 : Int) (0 : Int) (0 : Int) (20000 : Int)), (Scale.mk (1000 : Int) (0 : Int) (0 : Int) (10000 : Int))])))),
  List.length (Enc.list eSc (2 : Nat) (Enc.F eSc (Enc.list eSc (2 : Nat) (Enc.F eSc [(Scale.mk (1000 : Int) (0 : Int) (0 : Int) (20000 : Int)), (Scale.mk (1000 : Int) (0 : Int) (0 : Int) (10000 : Int))])))) ≤ (100000 : Nat),
  (0 : Int) ≤ (0 : Int),
  (0 : Int) < (2 : Int),
  Same [Ag.agg [D.sl true (2 : Nat) (4 : Nat) (Enc.F eSc (Enc.list eSc (2 : Nat) (Enc.F eSc [(Scale.mk (1000 : Int) (0 : Int) (0 : Int) (20000 : Int)), (Scale.mk (1000 : Int) (0 : Int) (0 : Int) (10000 : Int))]))), D.int IntKind.i64 (0 : Int)], Ag.c (D.int IntKind.i64 (0 : Int)), Ag.c (D.fc (185 : Nat) (List.length [D.sl false (List.length (M.flows (Enc.list eSc (2 : Nat) (Enc.F eSc (Enc.list eSc (2 : Nat) (Enc.F eSc [(Scale.mk (1000 : Int) (0 : Int) (0 : Int) (20000 : Int)), (Scale.mk (1000 : Int) (0 : Int) (0 : Int) (10000 : Int))])))) (117 : Int))) (2 : Nat) (Enc.F eRg (M.flows (Enc.list eSc (2 : Nat) (Enc.F eSc (Enc.list eSc (2 : Nat) (Enc.F eSc [(Scale.mk (1000 : Int) (0 : Int) (0 : Int) (20000 : Int)), (Scale.mk (1000 : Int) (0 : Int) (0 : Int) (10000 : Int))])))) (117 : Int)))]) fun (j : Nat) => List.getD [D.sl false (List.length (M.flows (Enc.list eSc (2 : Nat) (Enc.F eSc (Enc.list eSc (2 : Nat) (Enc.F eSc [(Scale.mk (1000 : Int) (0 : Int) (0 : Int) (20000 : Int)), (Scale.mk (1000 : Int) (0 : Int) (0 : Int) (10000 : Int))])))) (117 : Int))) (2 : Nat) (Enc.F eRg (M.flows (Enc.list eSc (2 : Nat) (Enc.F eSc (Enc.list eSc (2 : Nat) (Enc.F eSc [(Scale.mk (1000 : Int) (0 : Int) (0 : Int) (20000 : Int)), (Scale.mk (1000 : Int) (0 : Int) (0 : Int) (10000 : Int))])))) (117 : Int)))] j D.nilp)] (canon (Row110.g { g := (185 : Nat), i := (0 : Int), d := (117 : Int), lo := (17094 : Int), hi := (17095 : Int) }) (0 : Int) (117 : Int)),
  (0 : Int) ≤ (0 : Int),
  (0 : Int) < (2 : Int),
  Enc.Is eSc (2 : Nat) (Enc.F eSc (Enc.list eSc (2 : Nat) (Enc.F eSc [(Scale.mk (1000 : Int) (0 : Int) (0 : Int) (20000 : Int)), (Scale.mk (1000 : Int) (0 : Int) (0 : Int) (10000 : Int))]))),
  List.length (Enc.list eSc (2 : Nat) (Enc.F eSc (Enc.list eSc (2 : Nat) (Enc.F eSc [(Scale.mk (1000 : Int) (0 : Int) (0 : Int) (20000 : Int)), (Scale.mk (1000 : Int) (0 : Int) (0 : Int) (10000 : Int))])))) ≤ (100000 : Nat),
  Enc.Is eSc (2 : Nat) (Enc.F eSc (Enc.list eSc (2 : Nat) (Enc.F eSc [(Scale.mk (1000 : Int) (0 : Int) (0 : Int) (20000 : Int)), (Scale.mk (1000 : Int) (0 : Int) (0 : Int) (10000 : Int))]))),
  Enc.Is eRg (List.length (M.flows (Enc.list eSc (2 : Nat) (Enc.F eSc (Enc.list eSc (2 : Nat) (Enc.F eSc [(Scale.mk (1000 : Int) (0 : Int) (0 : Int) (20000 : Int)), (Scale.mk (1000 : Int) (0 : Int) (0 : Int) (10000 : Int))])))) (97 : Int))) (Enc.F eRg (M.flows (Enc.list eSc (2 : Nat) (Enc.F eSc (Enc.list eSc (2 : Nat) (Enc.F eSc [(Scale.mk (1000 : Int) (0 : Int) (0 : Int) (20000 : Int)), (Scale.mk (1000 : Int) (0 : Int) (0 : Int) (10000 : Int))])))) (97 : Int))),
  List.length (Enc.list eRg (List.length (M.flows (Enc.list eSc (2 : Nat) (Enc.F eSc (Enc.list eSc (2 : Nat) (Enc.F eSc [(Scale.mk (1000 : Int) (0 : Int) (0 : Int) (20000 : Int)), (Scale.mk (1000 : Int) (0 : Int) (0 : Int) (10000 : Int))])))) (97 : Int))) (Enc.F eRg (M.flows (Enc.list eSc (2 : Nat) (Enc.F eSc (Enc.list eSc (2 : Nat) (Enc.F eSc [(Scale.mk (1000 : Int) (0 : Int) (0 : Int) (20000 : Int)), (Scale.mk (1000 : Int) (0 : Int) (0 : Int) (10000 : Int))])))) (97 : Int)))) ≤ List.length (Enc.list eSc (2 : Nat) (Enc.F eSc (Enc.list eSc (2 : Nat) (Enc.F eSc [(Scale.mk (1000 : Int) (0 : Int) (0 : Int) (20000 : Int)), (Scale.mk (1000 : Int) (0 : Int) (0 : Int) (10000 : Int))])))),
  List.length (Enc.list eSc (2 : Nat) (Enc.F eSc (Enc.list eSc (2 : Nat) (Enc.F eSc [(Scale.mk (1000 : Int) (0 : Int) (0 : Int) (20000 : Int)), (Scale.mk (1000 : Int) (0 : Int) (0 : Int) (10000 : Int))])))) ≤ (100000 : Nat),
  (0 : Int) ≤ (0 : Int),
  (0 : Int) < (2 : Int),
  Same [Ag.agg [D.sl true (2 : Nat) (4 : Nat) (Enc.F eSc (Enc.list eSc (2 : Nat) (Enc.F eSc [(Scale.mk (1000 : Int) (0 : Int) (0 : Int) (20000 : Int)), (Scale.mk (1000 : Int) (0 : Int) (0 : Int) (10000 : Int))]))), D.int IntKind.i64 (0 : Int)], Ag.c (D.int IntKind.i64 (0 : Int)), Ag.c (D.fc (185 : Nat) (List.length [D.sl false (List.length (M.flows (Enc.list eSc (2 : Nat) (Enc.F eSc (Enc.list eSc (2 : Nat) (Enc.F eSc [(Scale.mk (1000 : Int) (0 : Int) (0 : Int) (20000 : Int)), (Scale.mk (1000 : Int) (0 : Int) (0 : Int) (10000 : Int))])))) (97 : Int))) (2 : Nat) (Enc.F eRg (M.flows (Enc.list eSc (2 : Nat) (Enc.F eSc (Enc.list eSc (2 : Nat) (Enc.F eSc [(Scale.mk (1000 : Int) (0 : Int) (0 : Int) (20000 : Int)), (Scale.mk (1000 : Int) (0 : Int) (0 : Int) (10000 : Int))])))) (97 : Int)))]) fun (j : Nat) => List.getD [D.sl false (List.length (M.flows (Enc.list eSc (2 : Nat) (Enc.F eSc (Enc.list eSc (2 : Nat) (Enc.F eSc [(Scale.mk (1000 : Int) (0 : Int) (0 : Int) (20000 : Int)), (Scale.mk (1000 : Int) (0 : Int) (0 : Int) (10000 : Int))])))) (97 : Int))) (2 : Nat) (Enc.F eRg (M.flows (Enc.list eSc (2 : Nat) (Enc.F eSc (Enc.list eSc (2 : Nat) (Enc.F eSc [(Scale.mk (1000 : Int) (0 : Int) (0 : Int) (20000 : Int)), (Scale.mk (1000 : Int) (0 : Int) (0 : Int) (10000 : Int))])))) (97 : Int)))] j D.nilp)] (canon (Row110.g { g := (185 : Nat), i := (0 : Int), d := (97 : Int), lo := (20618 : Int), hi := (20619 : Int) }) (0 : Int) (97 : Int)),
  (0 : Int) ≤ (0 : Int),
  (0 : Int) < (2 : Int),
  (0 : Int) ≤ (1 : Int),
  (1 : Int) < (2 : Int),
  Same [Ag.agg [D.sl true (2 : Nat) (4 : Nat) (Enc.F eSc (Enc.list eSc (2 : Nat) (Enc.F eSc [(Scale.mk (1000 : Int) (0 : Int) (0 : Int) (20000 : Int)), (Scale.mk (1000 : Int) (0 : Int) (0 : Int) (10000 : Int))]))), D.int IntKind.i64 (0 : Int)], Ag.c (D.int IntKind.i64 (1 : Int)), Ag.c (D.fc (185 : Nat) (List.length [D.sl false (List.length (M.flows (Enc.list eSc (2 : Nat) (Enc.F eSc (Enc.list eSc (2 : Nat) (Enc.F eSc [(Scale.mk (1000 : Int) (0 : Int) (0 : Int) (20000 : Int)), (Scale.mk (1000 : Int) (0 : Int) (0 : Int) (10000 : Int))])))) (97 : Int))) (2 : Nat) (Enc.F eRg (M.flows (Enc.list eSc (2 : Nat) (Enc.F eSc (Enc.list eSc (2 : Nat) (Enc.F eSc [(Scale.mk (1000 : Int) (0 : Int) (0 : Int) (20000 : Int)), (Scale.mk (1000 : Int) (0 : Int) (0 : Int) (10000 : Int))])))) (97 : Int)))]) fun (j : Nat) => List.getD [D.sl false (List.length (M.flows (Enc.list eSc (2 : Nat) (Enc.F eSc (Enc.list eSc (2 : Nat) (Enc.F eSc [(Scale.mk (1000 : Int) (0 : Int) (0 : Int) (20000 : Int)), (Scale.mk (1000 : Int) (0 : Int) (0 : Int) (10000 : Int))])))) (97 : Int))) (2 : Nat) (Enc.F eRg (M.flows (Enc.list eSc (2 : Nat) (Enc.F eSc (Enc.list eSc (2 : Nat) (Enc.F eSc [(Scale.mk (1000 : Int) (0 : Int) (0 : Int) (20000 : Int)), (Scale.mk (1000 : Int) (0 : Int) (0 : Int) (10000 : Int))])))) (97 : Int)))] j D.nilp)] (canon (Row110.g { g := (185 : Nat), i := (1 : Int), d := (97 : Int), lo := (10309 : Int), hi := (10310 : Int) }) (1 : Int) (97 : Int)),
  (0 : Int) ≤ (1 : Int),
  (1 : Int) < (2 : Int),
  Enc.Is eSc (2 : Nat) (Enc.F eSc (Enc.list eSc (2 : Nat) (Enc.F eSc [(Scale.mk (1000 : Int) (0 : Int) (0 : Int) (20000 : Int)), (Scale.mk (1000 : Int) (0 : Int) (0 : Int) (10000 : Int))]))),
  List.length (Enc.list eSc (2 : Nat) (Enc.F eSc (Enc.list eSc (2 : Nat) (Enc.F eSc [(Scale.mk (1000 : Int) (0 : Int) (0 : Int) (20000 : Int)), (Scale.mk (1000 : Int) (0 : Int) (0 : Int) (10000 : Int))])))) ≤ (100000 : Nat),
  Enc.Is eSc (2 : Nat) (Enc.F eSc (Enc.list eSc (2 : Nat) (Enc.F eSc [(Scale.mk (1000 : Int) (0 : Int) (0 : Int) (20000 : Int)), (Scale.mk (1000 : Int) (0 : Int) (0 : Int) (10000 : Int))]))),
  Enc.Is eRg (List.length (M.flows (Enc.list eSc (2 : Nat) (Enc.F eSc (Enc.list eSc (2 : Nat) (Enc.F eSc [(Scale.mk (1000 : Int) (0 : Int) (0 : Int) (20000 : Int)), (Scale.mk (1000 : Int) (0 : Int) (0 : Int) (10000 : Int))])))) (107 : Int))) (Enc.F eRg (M.flows (Enc.list eSc (2 : Nat) (Enc.F eSc (Enc.list eSc (2 : Nat) (Enc.F eSc [(Scale.mk (1000 : Int) (0 : Int) (0 : Int) (20000 : Int)), (Scale.mk (1000 : Int) (0 : Int) (0 : Int) (10000 : Int))])))) (107 : Int))),
  List.length (Enc.list eRg (List.length (M.flows (Enc.list eSc (2 : Nat) (Enc.F eSc (Enc.list eSc (2 : Nat) (Enc.F eSc [(Scale.mk (1000 : Int) (0 : Int) (0 : Int) (20000 : Int)), (Scale.mk (1000 : Int) (0 : Int) (0 : Int) (10000 : Int))])))) (107 : Int))) (Enc.F eRg (M.flows (Enc.list eSc (2 : Nat) (Enc.F eSc (Enc.list eSc (2 : Nat) (Enc.F eSc [(Scale.mk (1000 : Int) (0 : Int) (0 : Int) (20000 : Int)), (Scale.mk (1000 : Int) (0 : Int) (0 : Int) (10000 : Int))])))) (107 : Int)))) ≤ List.length (Enc.list eSc (2 : Nat) (Enc.F eSc (Enc.list eSc (2 : Nat) (Enc.F eSc [(Scale.mk (1000 : Int) (0 : Int) (0 : Int) (20000 : Int)), (Scale.mk (1000 : Int) (0 : Int) (0 : Int) (10000 : Int))])))),
  List.length (Enc.list eSc (2 : Nat) (Enc.F eSc (Enc.list eSc (2 : Nat) (Enc.F eSc [(Scale.mk (1000 : Int) (0 : Int) (0 : Int) (20000 : Int)), (Scale.mk (1000 : Int) (0 : Int) (0 : Int) (10000 : Int))])))) ≤ (100000 : Nat),
  (0 : Int) ≤ (0 : Int),
  (0 : Int) < (2 : Int),
  Same [Ag.agg [D.sl true (2 : Nat) (4 : Nat) (Enc.F eSc (Enc.list eSc (2 : Nat) (Enc.F eSc [(Scale.mk (1000 : Int) (0 : Int) (0 : Int) (20000 : Int)), (Scale.mk (1000 : Int) (0 : Int) (0 : Int) (10000 : Int))]))), D.int IntKind.i64 (0 : Int)], Ag.c (D.int IntKind.i64 (0 : Int)), Ag.c (D.fc (185 : Nat) (List.length [D.sl false (List.length (M.flows (Enc.list eSc (2 : Nat) (Enc.F eSc (Enc.list eSc (2 : Nat) (Enc.F eSc [(Scale.mk (1000 : Int) (0 : Int) (0 : Int) (20000 : Int)), (Scale.mk (1000 : Int) (0 : Int) (0 : Int) (10000 : Int))])))) (107 : Int))) (2 : Nat) (Enc.F eRg (M.flows (Enc.list eSc (2 : Nat) (Enc.F eSc (Enc.list eSc (2 : Nat) (Enc.F eSc [(Scale.mk (1000 : Int) (0 : Int) (0 : Int) (20000 : Int)), (Scale.mk (1000 : Int) (0 : Int) (0 : Int) (10000 : Int))])))) (107 : Int)))]) fun (j : Nat) => List.getD [D.sl false (List.length (M.flows (Enc.list eSc (2 : Nat) (Enc.F eSc (Enc.list eSc (2 : Nat) (Enc.F eSc [(Scale.mk (1000 : Int) (0 : Int) (0 : Int) (20000 : Int)), (Scale.mk (1000 : Int) (0 : Int) (0 : Int) (10000 : Int))])))) (107 : Int))) (2 : Nat) (Enc.F eRg (M.flows (Enc.list eSc (2 : Nat) (Enc.F eSc (Enc.list eSc (2 : Nat) (Enc.F eSc [(Scale.mk (1000 : Int) (0 : Int) (0 : Int) (20000 : Int)), (Scale.mk (1000 : Int) (0 : Int) (0 : Int) (10000 : Int))])))) (107 : Int)))] j D.nilp)] (canon (Row110.g { g := (185 : Nat), i := (0 : Int), d := (107 : Int), lo := (18691 : Int), hi := (18692 : Int) }) (0 : Int) (107 : Int)),
  (0 : Int) ≤ (0 : Int),
  (0 : Int) < (2 : Int),
  Enc.Is eSc (2 : Nat) (Enc.F eSc (Enc.list eSc (2 : Nat) (Enc.F eSc [(Scale.mk (1000 : Int) (0 : Int) (0 : Int) (20000 : Int)), (Scale.mk (1000 : Int) (0 : Int) (0 : Int) (10000 : Int))]))),
  List.length (Enc.list eSc (2 : Nat) (Enc.F eSc (Enc.list eSc (2 : Nat) (Enc.F eSc [(Scale.mk (1000 : Int) (0 : Int) (0 : Int) (20000 : Int)), (Scale.mk (1000 : Int) (0 : Int) (0 : Int) (10000 : Int))])))) ≤ (100000 : Nat),
  Enc.Is eSc (2 : Nat) (Enc.F eSc (Enc.list eSc (2 : Nat) (Enc.F eSc [(Scale.mk (1000 : Int) (0 : Int) (0 : Int) (20000 : Int)), (Scale.mk (1000 : Int) (0 : Int) (0 : Int) (10000 : Int))]))),
  Enc.Is eRg (List.length (M.flows (Enc.list eSc (2 : Nat) (Enc.F eSc (Enc.list eSc (2 : Nat) (Enc.F eSc [(Scale.mk (1000 : Int) (0 : Int) (0 : Int) (20000 : Int)), (Scale.mk (1000 : Int) (0 : Int) (0 : Int) (10000 : Int))])))) (102 : Int))) (Enc.F eRg (M.flows (Enc.list eSc (2 : Nat) (Enc.F eSc (Enc.list eSc (2 : Nat) (Enc.F eSc [(Scale.mk (1000 : Int) (0 : Int) (0 : Int) (20000 : Int)), (Scale.mk (1000 : Int) (0 : Int) (0 : Int) (10000 : Int))])))) (102 : Int))),
  List.length (Enc.list eRg (List.length (M.flows (Enc.list eSc (2 : Nat) (Enc.F eSc (Enc.list eSc (2 : Nat) (Enc.F eSc [(Scale.mk (1000 : Int) (0 : Int) (0 : Int) (20000 : Int)), (Scale.mk (1000 : Int) (0 : Int) (0 : Int) (10000 : Int))])))) (102 : Int))) (Enc.F eRg (M.flows (Enc.list eSc (2 : Nat) (Enc.F eSc (Enc.list eSc (2 : Nat) (Enc.F eSc [(Scale.mk (1000 : Int) (0 : Int) (0 : Int) (20000 : Int)), (Scale.mk (1000 : Int) (0 : Int) (0 : Int) (10000 : Int))])))) (102 : Int)))) ≤ List.length (Enc.list eSc (2 : Nat) (Enc.F eSc (Enc.list eSc (2 : Nat) (Enc.F eSc [(Scale.mk (1000 : Int) (0 : Int) (0 : Int) (20000 : Int)), (Scale.mk (1000 : Int) (0 : Int) (0 : Int) (10000 : Int))])))),
  List.length (Enc.list eSc (2 : Nat) (Enc.F eSc (Enc.list eSc (2 : Nat) (Enc.F eSc [(Scale.mk (1000 : Int) (0 : Int) (0 : Int) (20000 : Int)), (Scale.mk (1000 : Int) (0 : Int) (0 : Int) (10000 : Int))])))) ≤ (100000 : Nat),
  (0 : Int) ≤ (0 : Int),
  (0 : Int) < (2 : Int),
  Same [Ag.agg [D.sl true (2 : Nat) (4 : Nat) (Enc.F eSc (Enc.list eSc (2 : Nat) (Enc.F eSc [(Scale.mk (1000 : Int) (0 : Int) (0 : Int) (20000 : Int)), (Scale.mk (1000 : Int) (0 : Int) (0 : Int) (10000 : Int))]))), D.int IntKind.i64 (0 : Int)], Ag.c (D.int IntKind.i64 (0 : Int)), Ag.c (D.fc (185 : Nat) (List.length [D.sl false (List.length (M.flows (Enc.list eSc (2 : Nat) (Enc.F eSc (Enc.list eSc (2 : Nat) (Enc.F eSc [(Scale.mk (1000 : Int) (0 : Int) (0 : Int) (20000 : Int)), (Scale.mk (1000 : Int) (0 : Int) (0 : Int) (10000 : Int))])))) (102 : Int))) (2 : Nat) (Enc.F eRg (M.flows (Enc.list eSc (2 : Nat) (Enc.F eSc (Enc.list eSc (2 : Nat) (Enc.F eSc [(Scale.mk (1000 : Int) (0 : Int) (0 : Int) (20000 : Int)), (Scale.mk (1000 : Int) (0 : Int) (0 : Int) (10000 : Int))])))) (102 : Int)))]) fun (j : Nat) => List.getD [D.sl false (List.length (M.flows (Enc.list eSc (2 : Nat) (Enc.F eSc (Enc.list eSc (2 : Nat) (Enc.F eSc [(Scale.mk (1000 : Int) (0 : Int) (0 : Int) (20000 : Int)), (Scale.mk (1000 : Int) (0 : Int) (0 : Int) (10000 : Int))])))) (102 : Int))) (2 : Nat) (Enc.F eRg (M.flows (Enc.list eSc (2 : Nat) (Enc.F eSc (Enc.list eSc (2 : Nat) (Enc.F eSc [(Scale.mk (1000 : Int) (0 : Int) (0 : Int) (20000 : Int)), (Scale.mk (1000 : Int) (0 : Int) (0 : Int) (10000 : Int))])))) (102 : Int)))] j D.nilp)] (canon (Row110.g { g := (185 : Nat), i := (0 : Int), d := (102 : Int), lo := (19607 : Int), hi := (19608 : Int) }) (0 : Int) (102 : Int)),
  (0 : Int) ≤ (0 : Int),
  (0 : Int) < (2 : Int),
  Enc.Is eSc (2 : Nat) (Enc.F eSc (Enc.list eSc (2 : Nat) (Enc.F eSc [(Scale.mk (1000 : Int) (0 : Int) (0 : Int) (20000 : Int)), (Scale.mk (1000 : Int) (0 : Int) (0 : Int) (10000 : Int))]))),
  List.length (Enc.list eSc (2 : Nat) (Enc.F eSc (Enc.list eSc (2 : Nat) (Enc.F eSc [(Scale.mk (1000 : Int) (0 : Int) (0 : Int) (20000 : Int)), (Scale.mk (1000 : Int) (0 : Int) (0 : Int) (10000 : Int))])))) ≤ (100000 : Nat),
  Enc.Is eSc (2 : Nat) (Enc.F eSc (Enc.list eSc (2 : Nat) (Enc.F eSc [(Scale.mk (1000 : Int) (0 : Int) (0 : Int) (20000 : Int)), (Scale.mk (1000 : Int) (0 : Int) (0 : Int) (10000 : Int))]))),
  Enc.Is eRg (List.length (M.flows (Enc.list eSc (2 : Nat) (Enc.F eSc (Enc.list eSc (2 : Nat) (Enc.F eSc [(Scale.mk (1000 : Int) (0 : Int) (0 : Int) (20000 : Int)), (Scale.mk (1000 : Int) (0 : Int) (0 : Int) (10000 : Int))])))) (99 : Int))) (Enc.F eRg (M.flows (Enc.list eSc (2 : Nat) (Enc.F eSc (Enc.list eSc (2 : Nat) (Enc.F eSc [(Scale.mk (1000 : Int) (0 : Int) (0 : Int) (20000 : Int)), (Scale.mk (1000 : Int) (0 : Int) (0 : Int) (10000 : Int))])))) (99 : Int))),
  List.length (Enc.list eRg (List.length (M.flows (Enc.list eSc (2 : Nat) (Enc.F eSc (Enc.list eSc (2 : Nat) (Enc.F eSc [(Scale.mk (1000 : Int) (0 : Int) (0 : Int) (20000 : Int)), (Scale.mk (1000 : Int) (0 : Int) (0 : Int) (10000 : Int))])))) (99 : Int))) (Enc.F eRg (M.flows (Enc.list eSc (2 : Nat) (Enc.F eSc (Enc.list eSc (2 : Nat) (Enc.F eSc [(Scale.mk (1000 : Int) (0 : Int) (0 : Int) (20000 : Int)), (Scale.mk (1000 : Int) (0 : Int) (0 : Int) (10000 : Int))])))) (99 : Int)))) ≤ List.length (Enc.list eSc (2 : Nat) (Enc.F eSc (Enc.list eSc (2 : Nat) (Enc.F eSc [(Scale.mk (1000 : Int) (0 : Int) (0 : Int) (20000 : Int)), (Scale.mk (1000 : Int) (0 : Int) (0 : Int) (10000 : Int))])))),
  List.length (Enc.list eSc (2 : Nat) (Enc.F eSc (Enc.list eSc (2 : Nat) (Enc.F eSc [(Scale.mk (1000 : Int) (0 : Int) (0 : Int) (20000 : Int)), (Scale.mk (1000 : Int) (0 : Int) (0 : Int) (10000 : Int))])))) ≤ (100000 : Nat),
  (0 : Int) ≤ (0 : Int),
  (0 : Int) < (2 : Int),
  Same [Ag.agg [D.sl true (2 : Nat) (4 : Nat) (Enc.F eSc (Enc.list eSc (2 : Nat) (Enc.F eSc [(Scale.mk (1000 : Int) (0 : Int) (0 : Int) (20000 : Int)), (Scale.mk (1000 : Int) (0 : Int) (0 : Int) (10000 : Int))]))), D.int IntKind.i64 (0 : Int)], Ag.c (D.int IntKind.i64 (0 : Int)), Ag.c (D.fc (185 : Nat) (List.length [D.sl false (List.length (M.flows (Enc.list eSc (2 : Nat) (Enc.F eSc (Enc.list eSc (2 : Nat) (Enc.F eSc [(Scale.mk (1000 : Int) (0 : Int) (0 : Int) (20000 : Int)), (Scale.mk (1000 : Int) (0 : Int) (0 : Int) (10000 : Int))])))) (99 : Int))) (2 : Nat) (Enc.F eRg (M.flows (Enc.list eSc (2 : Nat) (Enc.F eSc (Enc.list eSc (2 : Nat) (Enc.F eSc [(Scale.mk (1000 : Int) (0 : Int) (0 : Int) (20000 : Int)), (Scale.mk (1000 : Int) (0 : Int) (0 : Int) (10000 : Int))])))) (99 : Int)))]) fun (j : Nat) => List.getD [D.sl false (List.length (M.flows (Enc.list eSc (2 : Nat) (Enc.F eSc (Enc.list eSc (2 : Nat) (Enc.F eSc [(Scale.mk (1000 : Int) (0 : Int) (0 : Int) (20000 : Int)), (Scale.mk (1000 : Int) (0 : Int) (0 : Int) (10000 : Int))])))) (99 : Int))) (2 : Nat) (Enc.F eRg (M.flows (Enc.list eSc (2 : Nat) (Enc.F eSc (Enc.list eSc (2 : Nat) (Enc.F eSc [(Scale.mk (1000 : Int) (0 : Int) (0 : Int) (20000 : Int)), (Scale.mk (1000 : Int) (0 : Int) (0 : Int) (10000 : Int))])))) (99 : Int)))] j D.nilp)] (canon (Row110.g { g := (185 : Nat), i := (0 : Int), d := (99 : Int), lo := (20202 : Int), hi := (20203 : Int) }) (0 : Int) (99 : Int)),
  (0 : Int) ≤ (0 : Int),
  (0 : Int) < (2 : Int),
  (0 : Int) ≤ (1 : Int),
  (1 : Int) < (2 : Int),
  Same [Ag.agg [D.sl true (2 : Nat) (4 : Nat) (Enc.F eSc (Enc.list eSc (2 : Nat) (Enc.F eSc [(Scale.mk (1000 : Int) (0 : Int) (0 : Int) (20000 : Int)), (Scale.mk (1000 : Int) (0 : Int) (0 : Int) (10000 : Int))]))), D.int IntKind.i64 (0 : Int)], Ag.c (D.int IntKind.i64 (1 : Int)), Ag.c (D.fc (185 : Nat) (List.length [D.sl false (List.length (M.flows (Enc.list eSc (2 : Nat) (Enc.F eSc (Enc.list eSc (2 : Nat) (Enc.F eSc [(Scale.mk (1000 : Int) (0 : Int) (0 : Int) (20000 : Int)), (Scale.mk (1000 : Int) (0 : Int) (0 : Int) (10000 : Int))])))) (99 : Int))) (2 : Nat) (Enc.F eRg (M.flows (Enc.list eSc (2 : Nat) (Enc.F eSc (Enc.list eSc (2 : Nat) (Enc.F eSc [(Scale.mk (1000 : Int) (0 : Int) (0 : Int) (20000 : Int)), (Scale.mk (1000 : Int) (0 : Int) (0 : Int) (10000 : Int))])))) (99 : Int)))]) fun (j : Nat) => List.getD [D.sl false (List.length (M.flows (Enc.list eSc (2 : Nat) (Enc.F eSc (Enc.list eSc (2 : Nat) (Enc.F eSc [(Scale.mk (1000 : Int) (0 : Int) (0 : Int) (20000 : Int)), (Scale.mk (1000 : Int) (0 : Int) (0 : Int) (10000 : Int))])))) (99 : Int))) (2 : Nat) (Enc.F eRg (M.flows (Enc.list eSc (2 : Nat) (Enc.F eSc (Enc.list eSc (2 : Nat) (Enc.F eSc [(Scale.mk (1000 : Int) (0 : Int) (0 : Int) (20000 : Int)), (Scale.mk (1000 : Int) (0 : Int) (0 : Int) (10000 : Int))])))) (99 : Int)))] j D.nilp)] (canon (Row110.g { g := (185 : Nat), i := (1 : Int), d := (99 : Int), lo := (10101 : Int), hi := (10102 : Int) }) (1 : Int) (99 : Int)),
  (0 : Int) ≤ (1 : Int),
  (1 : Int) < (2 : Int),
  Enc.Is eSc (2 : Nat) (Enc.F eSc (Enc.list eSc (2 : Nat) (Enc.F eSc [(Scale.mk (1000 : Int) (0 : Int) (0 : Int) (20000 : Int)), (Scale.mk (1000 : Int) (0 : Int) (0 : Int) (10000 : Int))]))),
  List.length (Enc.list eSc (2 : Nat) (Enc.F eSc (Enc.list eSc (2 : Nat) (Enc.F eSc [(Scale.mk (1000 : Int) (0 : Int) (0 : Int) (20000 : Int)), (Scale.mk (1000 : Int) (0 : Int) (0 : Int) (10000 : Int))])))) ≤ (100000 : Nat),
  Enc.Is eSc (2 : Nat) (Enc.F eSc (Enc.list eSc (2 : Nat) (Enc.F eSc [(Scale.mk (1000 : Int) (0 : Int) (0 : Int) (20000 : Int)), (Scale.mk (1000 : Int) (0 : Int) (0 : Int) (10000 : Int))]))),
  Enc.Is eRg (List.length (M.flows (Enc.list eSc (2 : Nat) (Enc.F eSc (Enc.list eSc (2 : Nat) (Enc.F eSc [(Scale.mk (1000 : Int) (0 : Int) (0 : Int) (20000 : Int)), (Scale.mk (1000 : Int) (0 : Int) (0 : Int) (10000 : Int))])))) (100 : Int))) (Enc.F eRg (M.flows (Enc.list eSc (2 : Nat) (Enc.F eSc (Enc.list eSc (2 : Nat) (Enc.F eSc [(Scale.mk (1000 : Int) (0 : Int) (0 : Int) (20000 : Int)), (Scale.mk (1000 : Int) (0 : Int) (0 : Int) (10000 : Int))])))) (100 : Int))),
  List.length (Enc.list eRg (List.length (M.flows (Enc.list eSc (2 : Nat) (Enc.F eSc (Enc.list eSc (2 : Nat) (Enc.F eSc [(Scale.mk (1000 : Int) (0 : Int) (0 : Int) (20000 : Int)), (Scale.mk (1000 : Int) (0 : Int) (0 : Int) (10000 : Int))])))) (100 : Int))) (Enc.F eRg (M.flows (Enc.list eSc (2 : Nat) (Enc.F eSc (Enc.list eSc (2 : Nat) (Enc.F eSc [(Scale.mk (1000 : Int) (0 : Int) (0 : Int) (20000 : Int)), (Scale.mk (1000 : Int) (0 : Int) (0 : Int) (10000 : Int))])))) (100 : Int)))) ≤ List.length (Enc.list eSc (2 : Nat) (Enc.F eSc (Enc.list eSc (2 : Nat) (Enc.F eSc [(Scale.mk (1000 : Int) (0 : Int) (0 : Int) (20000 : Int)), (Scale.mk (1000 : Int) (0 : Int) (0 : Int) (10000 : Int))])))),
  List.length (Enc.list eSc (2 : Nat) (Enc.F eSc (Enc.list eSc (2 : Nat) (Enc.F eSc [(Scale.mk (1000 : Int) (0 : Int) (0 : Int) (20000 : Int)), (Scale.mk (1000 : Int) (0 : Int) (0 : Int) (10000 : Int))])))) ≤ (100000 : Nat),
  (0 : Int) ≤ (0 : Int),
  (0 : Int) < (2 : Int),
  Same [Ag.agg [D.sl true (2 : Nat) (4 : Nat) (Enc.F eSc (Enc.list eSc (2 : Nat) (Enc.F eSc [(Scale.mk (1000 : Int) (0 : Int) (0 : Int) (20000 : Int)), (Scale.mk (1000 : Int) (0 : Int) (0 : Int) (10000 : Int))]))), D.int IntKind.i64 (0 : Int)], Ag.c (D.int IntKind.i64 (0 : Int)), Ag.c (D.fc (185 : Nat) (List.length [D.sl false (List.length (M.flows (Enc.list eSc (2 : Nat) (Enc.F eSc (Enc.list eSc (2 : Nat) (Enc.F eSc [(Scale.mk (1000 : Int) (0 : Int) (0 : Int) (20000 : Int)), (Scale.mk (1000 : Int) (0 : Int) (0 : Int) (10000 : Int))])))) (100 : Int))) (2 : Nat) (Enc.F eRg (M.flows (Enc.list eSc (2 : Nat) (Enc.F eSc (Enc.list eSc (2 : Nat) (Enc.F eSc [(Scale.mk (1000 : Int) (0 : Int) (0 : Int) (20000 : Int)), (Scale.mk (1000 : Int) (0 : Int) (0 : Int) (10000 : Int))])))) (100 : Int)))]) fun (j : Nat) => List.getD [D.sl false (List.length (M.flows (Enc.list eSc (2 : Nat) (Enc.F eSc (Enc.list eSc (2 : Nat) (Enc.F eSc [(Scale.mk (1000 : Int) (0 : Int) (0 : Int) (20000 : Int)), (Scale.mk (1000 : Int) (0 : Int) (0 : Int) (10000 : Int))])))) (100 : Int))) (2 : Nat) (Enc.F eRg (M.flows (Enc.list eSc (2 : Nat) (Enc.F eSc (Enc.list eSc (2 : Nat) (Enc.F eSc [(Scale.mk (1000 : Int) (0 : Int) (0 : Int) (20000 : Int)), (Scale.mk (1000 : Int) (0 : Int) (0 : Int) (10000 : Int))])))) (100 : Int)))] j D.nilp)] (canon (Row110.g { g := (185 : Nat), i := (0 : Int), d := (100 : Int), lo := (20000 : Int), hi := (20000 : Int) }) (0 : Int) (100 : Int)),
  (0 : Int) ≤ (0 : Int),
  (0 : Int) < (2 : Int),
  (0 : Int) ≤ (1 : Int),
  (1 : Int) < (2 : Int),
  Same [Ag.agg [D.sl true (2 : Nat) (4 : Nat) (Enc.F eSc (Enc.list eSc (2 : Nat) (Enc.F eSc [(Scale.mk (1000 : Int) (0 : Int) (0 : Int) (20000 : Int)), (Scale.mk (1000 : Int) (0 : Int) (0 : Int) (10000 : Int))]))), D.int IntKind.i64 (0 : Int)], Ag.c (D.int IntKind.i64 (1 : Int)), Ag.c (D.fc (185 : Nat) (List.length [D.sl false (List.length (M.flows (Enc.list eSc (2 : Nat) (Enc.F eSc (Enc.list eSc (2 : Nat) (Enc.F eSc [(Scale.mk (1000 : Int) (0 : Int) (0 : Int) (20000 : Int)), (Scale.mk (1000 : Int) (0 : Int) (0 : Int) (10000 : Int))])))) (100 : Int))) (2 : Nat) (Enc.F eRg (M.flows (Enc.list eSc (2 : Nat) (Enc.F eSc (Enc.list eSc (2 : Nat) (Enc.F eSc [(Scale.mk (1000 : Int) (0 : Int) (0 : Int) (20000 : Int)), (Scale.mk (1000 : Int) (0 : Int) (0 : Int) (10000 : Int))])))) (100 : Int)))]) fun (j : Nat) => List.getD [D.sl false (List.length (M.flows (Enc.list eSc (2 : Nat) (Enc.F eSc (Enc.list eSc (2 : Nat) (Enc.F eSc [(Scale.mk (1000 : Int) (0 : Int) (0 : Int) (20000 : Int)), (Scale.mk (1000 : Int) (0 : Int) (0 : Int) (10000 : Int))])))) (100 : Int))) (2 : Nat) (Enc.F eRg (M.flows (Enc.list eSc (2 : Nat) (Enc.F eSc (Enc.list eSc (2 : Nat) (Enc.F eSc [(Scale.mk (1000 : Int) (0 : Int) (0 : Int) (20000 : Int)), (Scale.mk (1000 : Int) (0 : Int) (0 : Int) (10000 : Int))])))) (100 : Int)))] j D.nilp)] (canon (Row110.g { g := (185 : Nat), i := (1 : Int), d := (100 : Int), lo := (10000 : Int), hi := (10000 : Int) }) (1 : Int) (100 : Int)),
  (0 : Int) ≤ (1 : Int),
  (1 : Int) < (2 : Int),
  Enc.Is eSc (2 : Nat) (Enc.F eSc (Enc.list eSc (2 : Nat) (Enc.F eSc [(Scale.mk (1000 : Int) (0 : Int) (0 : Int) (20000 : Int)), (Scale.mk (1000 : Int) (0 : Int) (0 : Int) (10000 : Int))]))),
  List.length (Enc.list eSc (2 : Nat) (Enc.F eSc (Enc.list eSc (2 : Nat) (Enc.F eSc [(Scale.mk (1000 : Int) (0 : Int) (0 : Int) (20000 : Int)), (Scale.mk (1000 : Int) (0 : Int) (0 : Int) (10000 : Int))])))) ≤ (100000 : Nat),
  Enc.Is eSc (2 : Nat) (Enc.F eSc (Enc.list eSc (2 : Nat) (Enc.F eSc [(Scale.mk (1000 : Int) (0 : Int) (0 : Int) (20000 : Int)), (Scale.mk (1000 : Int) (0 : Int) (0 : Int) (10000 : Int))]))),
  Enc.Is eRg (List.length (M.flows (Enc.list eSc (2 : Nat) (Enc.F eSc (Enc.list eSc (2 : Nat) (Enc.F eSc [(Scale.mk (1000 : Int) (0 : Int) (0 : Int) (20000 : Int)), (Scale.mk (1000 : Int) (0 : Int) (0 : Int) (10000 : Int))])))) (101 : Int))) (Enc.F eRg (M.flows (Enc.list eSc (2 : Nat) (Enc.F eSc (Enc.list eSc (2 : Nat) (Enc.F eSc [(Scale.mk (1000 : Int) (0 : Int) (0 : Int) (20000 : Int)), (Scale.mk (1000 : Int) (0 : Int) (0 : Int) (10000 : Int))])))) (101 : Int))),
  List.length (Enc.list eRg (List.length (M.flows (Enc.list eSc (2 : Nat) (Enc.F eSc (Enc.list eSc (2 : Nat) (Enc.F eSc [(Scale.mk (1000 : Int) (0 : Int) (0 : Int) (20000 : Int)), (Scale.mk (1000 : Int) (0 : Int) (0 : Int) (10000 : Int))])))) (101 : Int))) (Enc.F eRg (M.flows (Enc.list eSc (2 : Nat) (Enc.F eSc (Enc.list eSc (2 : Nat) (Enc.F eSc [(Scale.mk (1000 : Int) (0 : Int) (0 : Int) (20000 : Int)), (Scale.mk (1000 : Int) (0 : Int) (0 : Int) (10000 : Int))])))) (101 : Int)))) ≤ List.length (Enc.list eSc (2 : Nat) (Enc.F eSc (Enc.list eSc (2 : Nat) (Enc.F eSc [(Scale.mk (1000 : Int) (0 : Int) (0 : Int) (20000 : Int)), (Scale.mk (1000 : Int) (0 : Int) (0 : Int) (10000 : Int))])))),
  List.length (Enc.list eSc (2 : Nat) (Enc.F eSc (Enc.list eSc (2 : Nat) (Enc.F eSc [(Scale.mk (1000 : Int) (0 : Int) (0 : Int) (20000 : Int)), (Scale.mk (1000 : Int) (0 : Int) (0 : Int) (10000 : Int))])))) ≤ (100000 : Nat),
  (0 : Int) ≤ (0 : Int),
  (0 : Int) < (2 : Int),
  Same [Ag.agg [D.sl true (2 : Nat) (4 : Nat) (Enc.F eSc (Enc.list eSc (2 : Nat) (Enc.F eSc [(Scale.mk (1000 : Int) (0 : Int) (0 : Int) (20000 : Int)), (Scale.mk (1000 : Int) (0 : Int) (0 : Int) (10000 : Int))]))), D.int IntKind.i64 (0 : Int)], Ag.c (D.int IntKind.i64 (0 : Int)), Ag.c (D.fc (185 : Nat) (List.length [D.sl false (List.length (M.flows (Enc.list eSc (2 : Nat) (Enc.F eSc (Enc.list eSc (2 : Nat) (Enc.F eSc [(Scale.mk (1000 : Int) (0 : Int) (0 : Int) (20000 : Int)), (Scale.mk (1000 : Int) (0 : Int) (0 : Int) (10000 : Int))])))) (101 : Int))) (2 : Nat) (Enc.F eRg (M.flows (Enc.list eSc (2 : Nat) (Enc.F eSc (Enc.list eSc (2 : Nat) (Enc.F eSc [(Scale.mk (1000 : Int) (0 : Int) (0 : Int) (20000 : Int)), (Scale.mk (1000 : Int) (0 : Int) (0 : Int) (10000 : Int))])))) (101 : Int)))]) fun (j : Nat) => List.getD [D.sl false (List.length (M.flows (Enc.list eSc (2 : Nat) (Enc.F eSc (Enc.list eSc (2 : Nat) (Enc.F eSc [(Scale.mk (1000 : Int) (0 : Int) (0 : Int) (20000 : Int)), (Scale.mk (1000 : Int) (0 : Int) (0 : Int) (10000 : Int))])))) (101 : Int))) (2 : Nat) (Enc.F eRg (M.flows (Enc.list eSc (2 : Nat) (Enc.F eSc (Enc.list eSc (2 : Nat) (Enc.F eSc [(Scale.mk (1000 : Int) (0 : Int) (0 : Int) (20000 : Int)), (Scale.mk (1000 : Int) (0 : Int) (0 : Int) (10000 : Int))])))) (101 : Int)))] j D.nilp)] (canon (Row110.g { g := (185 : Nat), i := (0 : Int), d := (101 : Int), lo := (19801 : Int), hi := (19802 : Int) }) (0 : Int) (101 : Int)),
  (0 : Int) ≤ (0 : Int),
  (0 : Int) < (2 : Int),
  Enc.Is eSc (2 : Nat) (Enc.F eSc (Enc.list eSc (2 : Nat) (Enc.F eSc [(Scale.mk (1000 : Int) (0 : Int) (0 : Int) (20000 : Int)), (Scale.mk (1000 : Int) (0 : Int) (0 : Int) (10000 : Int))]))),
  List.length (Enc.list eSc (2 : Nat) (Enc.F eSc (Enc.list eSc (2 : Nat) (Enc.F eSc [(Scale.mk (1000 : Int) (0 : Int) (0 : Int) (20000 : Int)), (Scale.mk (1000 : Int) (0 : Int) (0 : Int) (10000 : Int))])))) ≤ (100000 : Nat),
  Enc.Is eSc (2 : Nat) (Enc.F eSc (Enc.list eSc (2 : Nat) (Enc.F eSc [(Scale.mk (1000 : Int) (0 : Int) (0 : Int) (20000 : Int)), (Scale.mk (1000 : Int) (0 : Int) (0 : Int) (10000 : Int))]))),
  Enc.Is eRg (List.length (M.flows (Enc.list eSc (2 : Nat) (Enc.F eSc (Enc.list eSc (2 : Nat) (Enc.F eSc [(Scale.mk (1000 : Int) (0 : Int) (0 : Int) (20000 : Int)), (Scale.mk (1000 : Int) (0 : Int) (0 : Int) (10000 : Int))])))) (101 : Int))) (Enc.F eRg (M.flows (Enc.list eSc (2 : Nat) (Enc.F eSc (Enc.list eSc (2 : Nat) (Enc.F eSc [(Scale.mk (1000 : Int) (0 : Int) (0 : Int) (20000 : Int)), (Scale.mk (1000 : Int) (0 : Int) (0 : Int) (10000 : Int))])))) (101 : Int))),
  List.length (Enc.list eRg (List.length (M.flows (Enc.list eSc (2 : Nat) (Enc.F eSc (Enc.list eSc (2 : Nat) (Enc.F eSc [(Scale.mk (1000 : Int) (0 : Int) (0 : Int) (20000 : Int)), (Scale.mk (1000 : Int) (0 : Int) (0 : Int) (10000 : Int))])))) (101 : Int))) (Enc.F eRg (M.flows (Enc.list eSc (2 : Nat) (Enc.F eSc (Enc.list eSc (2 : Nat) (Enc.F eSc [(Scale.mk (1000 : Int) (0 : Int) (0 : Int) (20000 : Int)), (Scale.mk (1000 : Int) (0 : Int) (0 : Int) (10000 : Int))])))) (101 : Int)))) ≤ List.length (Enc.list eSc (2 : Nat) (Enc.F eSc (Enc.list eSc (2 : Nat) (Enc.F eSc [(Scale.mk (1000 : Int) (0 : Int) (0 : Int) (20000 : Int)), (Scale.mk (1000 : Int) (0 : Int) (0 : Int) (10000 : Int))])))),
  List.length (Enc.list eSc (2 : Nat) (Enc.F eSc (Enc.list eSc (2 : Nat) (Enc.F eSc [(Scale.mk (1000 : Int) (0 : Int) (0 : Int) (20000 : Int)), (Scale.mk (1000 : Int) (0 : Int) (0 : Int) (10000 : Int))])))) ≤ (100000 : Nat),
  (0 : Int) ≤ (0 : Int),
  (0 : Int) < (2 : Int),
  Same [Ag.agg [D.sl true (2 : Nat) (4 : Nat) (Enc.F eSc (Enc.list eSc (2 : Nat) (Enc.F eSc [(Scale.mk (1000 : Int) (0 : Int) (0 : Int) (20000 : Int)), (Scale.mk (1000 : Int) (0 : Int) (0 : Int) (10000 : Int))]))), D.int IntKind.i64 (0 : Int)], Ag.c (D.int IntKind.i64 (0 : Int)), Ag.c (D.fc (185 : Nat) (List.length [D.sl false (List.length (M.flows (Enc.list eSc (2 : Nat) (Enc.F eSc (Enc.list eSc (2 : Nat) (Enc.F eSc [(Scale.mk (1000 : Int) (0 : Int) (0 : Int) (20000 : Int)), (Scale.mk (1000 : Int) (0 : Int) (0 : Int) (10000 : Int))])))) (101 : Int))) (2 : Nat) (Enc.F eRg (M.flows (Enc.list eSc (2 : Nat) (Enc.F eSc (Enc.list eSc (2 : Nat) (Enc.F eSc [(Scale.mk (1000 : Int) (0 : Int) (0 : Int) (20000 : Int)), (Scale.mk (1000 : Int) (0 : Int) (0 : Int) (10000 : Int))])))) (101 : Int)))]) fun (j : Nat) => List.getD [D.sl false (List.length (M.flows (Enc.list eSc (2 : Nat) (Enc.F eSc (Enc.list eSc (2 : Nat) (Enc.F eSc [(Scale.mk (1000 : Int) (0 : Int) (0 : Int) (20000 : Int)), (Scale.mk (1000 : Int) (0 : Int) (0 : Int) (10000 : Int))])))) (101 : Int))) (2 : Nat) (Enc.F eRg (M.flows (Enc.list eSc (2 : Nat) (Enc.F eSc (Enc.list eSc (2 : Nat) (Enc.F eSc [(Scale.mk (1000 : Int) (0 : Int) (0 : Int) (20000 : Int)), (Scale.mk (1000 : Int) (0 : Int) (0 : Int) (10000 : Int))])))) (101 : Int)))] j D.nilp)] (canon (Row110.g { g := (185 : Nat), i := (0 : Int), d := (101 : Int), lo := (19801 : Int), hi := (19802 : Int) }) (0 : Int) (101 : Int)),
  (0 : Int) ≤ (0 : Int),
  (0 : Int) < (2 : Int)]
theorem t28c  : runFnX Try.prog G0 (lookS [v95, v108, v109, v110c]) (fun _ => [(999999, [], none)]) [96, 158] 1 200 6 28 Try.f28 [.agg [.sl true 2 4 (eSc.F [⟨1000, 0, 0, 20000⟩, ⟨1000, 0, 0, 10000⟩]), dI 0]] =
    T.needs nd_t28c (T.ret [Ar.c (D.int IntKind.i64 (100 : Int)), Ar.c (D.int IntKind.i64 (0 : Int)), Ar.c (D.int IntKind.i64 (0 : Int))]) := by kernel_rfl
theorem all_t28c : All nd_t28c := by
  unfold nd_t28c
  repeat (refine ⟨(by first | exact of_decide_eq_true rfl | exact fun i j _ _ => D.eqv_refl _ | exact Enc.is_F _ _ _ | exact fun i j hi _ => absurd hi (Nat.not_lt_zero i) | exact ⟨⟨ag_of_eq (by kernel_rfl), ag_of_eq (by kernel_rfl), ⟨rfl, rfl, fun j hj => by obtain rfl : j = 0 := Nat.lt_one_iff.1 hj; exact D.eqv_of_eq (by kernel_rfl)⟩, trivial⟩⟩), ?_⟩)
  trivial
theorem w_t28c : (T.needs nd_t28c (T.ret [Ar.c (D.int IntKind.i64 (100 : Int)), Ar.c (D.int IntKind.i64 (0 : Int)), Ar.c (D.int IntKind.i64 (0 : Int))])).wp (fun rs => rsEqv rs [rI 100, rI 0, rI 0]) := by
  refine T.needs_wp all_t28c ?_
  exact rsEqv_refl _
def nd_t35c : List Prop := [
  Enc.Is eSc (2 : Nat) (Enc.F eSc [(Scale.mk (1000 : Int) (0 : Int) (0 : Int) (20000 : Int)), (Scale.mk (1000 : Int) (0 : Int) (0 : Int) (10000 : Int))]),
  (2 : Nat) ≤ (100000 : Nat),
  Enc.Is eSc (2 : Nat) (Enc.F eSc (Enc.list eSc (2 : Nat) (Enc.F eSc [(Scale.mk (1000 : Int) (0 : Int) (0 : Int) (20000 : Int)), (Scale.mk (1000 : Int) (0 : Int) (0 : Int) (10000 : Int))]))),
  List.length (Enc.list eSc (2 : Nat) (Enc.F eSc (Enc.list eSc (2 : Nat) (Enc.F eSc [(Scale.mk (1000 : Int) (0 : Int) (0 : Int) (20000 : Int)), (Scale.mk (1000 : Int) (0 : Int) (0 : Int) (10000 : Int))])))) ≤ (100000 : Nat),
  (0 : Int) ≤ (0 : Int),
  (0 : Int) < (2 : Int),
  (0 : Int) ≤ (1 : Int),
  (1 : Int) < (2 : Int),
  Enc.Is eSc (2 : Nat) (Enc.F eSc (Enc.list eSc (2 : Nat) (Enc.F eSc [(Scale.mk (1000 : Int) (0 : Int) (0 : Int) (20000 : Int)), (Scale.mk (1000 : Int) (0 : Int) (0 : Int) (10000 : Int))]))),
  Enc.Is eRg (List.length (M.flows (Enc.list eSc (2 : Nat) (Enc.F eSc (Enc.list eSc (2 : Nat) (Enc.F eSc [(Scale.mk (1000 : Int) (0 : Int) (0 : Int) (20000 : Int)), (Scale.mk (1000 : Int) (0 : Int) (0 : Int) (10000 : Int))])))) (100 : Int))) (Enc.F eRg (M.flows (Enc.list eSc (2 : Nat) (Enc.F eSc (Enc.list eSc (2 : Nat) (Enc.F eSc [(Scale.mk (1000 : Int) (0 : Int) (0 : Int) (20000 : Int)), (Scale.mk (1000 : Int) (0 : Int) (0 : Int) (10000 : Int))])))) (100 : Int))),
  List.length (Enc.list eRg (List.length (M.flows (Enc.list eSc (2 : Nat) (Enc.F eSc (Enc.list eSc (2 : Nat) (Enc.F eSc [(Scale.mk (1000 : Int) (0 : Int) (0 : Int) (20000 : Int)), (Scale.mk (1000 : Int) (0 : Int) (0 : Int) (10000 : Int))])))) (100 : Int))) (Enc.F eRg (M.flows (Enc.list eSc (2 : Nat) (Enc.F eSc (Enc.list eSc (2 : Nat) (Enc.F eSc [(Scale.mk (1000 : Int) (0 : Int) (0 : Int) (20000 : Int)), (Scale.mk (1000 : Int) (0 : Int) (0 : Int) (10000 : Int))])))) (100 : Int)))) ≤ List.length (Enc.list eSc (2 : Nat) (Enc.F eSc (Enc.list eSc (2 : Nat) (Enc.F eSc [(Scale.mk (1000 : Int) (0 : Int) (0 : Int) (20000 : Int)), (Scale.mk (1000 : Int) (0 : Int) (0 : Int) (10000 : Int))])))),
  List.length (Enc.list eSc (2 : Nat) (Enc.F eSc (Enc.list eSc (2 : Nat) (Enc.F eSc [(Scale.mk (1000 : Int) (0 : Int) (0 : Int) (20000 : Int)), (Scale.mk (1000 : Int) (0 : Int) (0 : Int) (10000 : Int))])))) ≤ (100000 : Nat),
  Same [Ag.agg [D.sl true (2 : Nat) (4 : Nat) (Enc.F eSc (Enc.list eSc (2 : Nat) (Enc.F eSc [(Scale.mk (1000 : Int) (0 : Int) (0 : Int) (20000 : Int)), (Scale.mk (1000 : Int) (0 : Int) (0 : Int) (10000 : Int))]))), D.int IntKind.i64 (0 : Int)], Ag.c (D.int IntKind.i64 (0 : Int)), Ag.c (D.fc (111 : Nat) (List.length [D.sl false (List.length (M.flows (Enc.list eSc (2 : Nat) (Enc.F eSc (Enc.list eSc (2 : Nat) (Enc.F eSc [(Scale.mk (1000 : Int) (0 : Int) (0 : Int) (20000 : Int)), (Scale.mk (1000 : Int) (0 : Int) (0 : Int) (10000 : Int))])))) (100 : Int))) (2 : Nat) (Enc.F eRg (M.flows (Enc.list eSc (2 : Nat) (Enc.F eSc (Enc.list eSc (2 : Nat) (Enc.F eSc [(Scale.mk (1000 : Int) (0 : Int) (0 : Int) (20000 : Int)), (Scale.mk (1000 : Int) (0 : Int) (0 : Int) (10000 : Int))])))) (100 : Int)))]) fun (j : Nat) => List.getD [D.sl false (List.length (M.flows (Enc.list eSc (2 : Nat) (Enc.F eSc (Enc.list eSc (2 : Nat) (Enc.F eSc [(Scale.mk (1000 : Int) (0 : Int) (0 : Int) (20000 : Int)), (Scale.mk (1000 : Int) (0 : Int) (0 : Int) (10000 : Int))])))) (100 : Int))) (2 : Nat) (Enc.F eRg (M.flows (Enc.list eSc (2 : Nat) (Enc.F eSc (Enc.list eSc (2 : Nat) (Enc.F eSc [(Scale.mk (1000 : Int) (0 : Int) (0 : Int) (20000 : Int)), (Scale.mk (1000 : Int) (0 : Int) (0 : Int) (10000 : Int))])))) (100 : Int)))] j D.nilp)] (canon (Row110.g { g := (111 : Nat), i := (0 : Int), d := (100 : Int), lo := (20000 : Int), hi := (20000 : Int) }) (0 : Int) (100 : Int)),
  Same [Ag.agg [D.sl true (2 : Nat) (4 : Nat) (Enc.F eSc (Enc.list eSc (2 : Nat) (Enc.F eSc [(Scale.mk (1000 : Int) (0 : Int) (0 : Int) (20000 : Int)), (Scale.mk (1000 : Int) (0 : Int) (0 : Int) (10000 : Int))]))), D.int IntKind.i64 (0 : Int)], Ag.c (D.int IntKind.i64 (0 : Int)), Ag.c (D.fc (112 : Nat) (List.length [D.sl false (List.length (M.flows (Enc.list eSc (2 : Nat) (Enc.F eSc (Enc.list eSc (2 : Nat) (Enc.F eSc [(Scale.mk (1000 : Int) (0 : Int) (0 : Int) (20000 : Int)), (Scale.mk (1000 : Int) (0 : Int) (0 : Int) (10000 : Int))])))) (100 : Int))) (2 : Nat) (Enc.F eRg (M.flows (Enc.list eSc (2 : Nat) (Enc.F eSc (Enc.list eSc (2 : Nat) (Enc.F eSc [(Scale.mk (1000 : Int) (0 : Int) (0 : Int) (20000 : Int)), (Scale.mk (1000 : Int) (0 : Int) (0 : Int) (10000 : Int))])))) (100 : Int)))]) fun (j : Nat) => List.getD [D.sl false (List.length (M.flows (Enc.list eSc (2 : Nat) (Enc.F eSc (Enc.list eSc (2 : Nat) (Enc.F eSc [(Scale.mk (1000 : Int) (0 : Int) (0 : Int) (20000 : Int)), (Scale.mk (1000 : Int) (0 : Int) (0 : Int) (10000 : Int))])))) (100 : Int))) (2 : Nat) (Enc.F eRg (M.flows (Enc.list eSc (2 : Nat) (Enc.F eSc (Enc.list eSc (2 : Nat) (Enc.F eSc [(Scale.mk (1000 : Int) (0 : Int) (0 : Int) (20000 : Int)), (Scale.mk (1000 : Int) (0 : Int) (0 : Int) (10000 : Int))])))) (100 : Int)))] j D.nilp)] (canon (Row110.g { g := (112 : Nat), i := (0 : Int), d := (100 : Int), lo := (20000 : Int), hi := (20000 : Int) }) (0 : Int) (100 : Int)),
  (1 : Nat) ≤ (1000000 : Nat),
  Same [Ag.agg [D.sl true (2 : Nat) (4 : Nat) (Enc.F eSc (Enc.list eSc (2 : Nat) (Enc.F eSc [(Scale.mk (1000 : Int) (0 : Int) (0 : Int) (20000 : Int)), (Scale.mk (1000 : Int) (0 : Int) (0 : Int) (10000 : Int))]))), D.int IntKind.i64 (0 : Int)], Ag.c (D.int IntKind.i64 (1 : Int)), Ag.c (D.fc (111 : Nat) (List.length [D.sl false (List.length (M.flows (Enc.list eSc (2 : Nat) (Enc.F eSc (Enc.list eSc (2 : Nat) (Enc.F eSc [(Scale.mk (1000 : Int) (0 : Int) (0 : Int) (20000 : Int)), (Scale.mk (1000 : Int) (0 : Int) (0 : Int) (10000 : Int))])))) (100 : Int))) (2 : Nat) (Enc.F eRg (M.flows (Enc.list eSc (2 : Nat) (Enc.F eSc (Enc.list eSc (2 : Nat) (Enc.F eSc [(Scale.mk (1000 : Int) (0 : Int) (0 : Int) (20000 : Int)), (Scale.mk (1000 : Int) (0 : Int) (0 : Int) (10000 : Int))])))) (100 : Int)))]) fun (j : Nat) => List.getD [D.sl false (List.length (M.flows (Enc.list eSc (2 : Nat) (Enc.F eSc (Enc.list eSc (2 : Nat) (Enc.F eSc [(Scale.mk (1000 : Int) (0 : Int) (0 : Int) (20000 : Int)), (Scale.mk (1000 : Int) (0 : Int) (0 : Int) (10000 : Int))])))) (100 : Int))) (2 : Nat) (Enc.F eRg (M.flows (Enc.list eSc (2 : Nat) (Enc.F eSc (Enc.list eSc (2 : Nat) (Enc.F eSc [(Scale.mk (1000 : Int) (0 : Int) (0 : Int) (20000 : Int)), (Scale.mk (1000 : Int) (0 : Int) (0 : Int) (10000 : Int))])))) (100 : Int)))] j D.nilp)] (canon (Row110.g { g := (111 : Nat), i := (1 : Int), d := (100 : Int), lo := (10000 : Int), hi := (10000 : Int) }) (1 : Int) (100 : Int)),
  Same [Ag.agg [D.sl true (2 : Nat) (4 : Nat) (Enc.F eSc (Enc.list eSc (2 : Nat) (Enc.F eSc [(Scale.mk (1000 : Int) (0 : Int) (0 : Int) (20000 : Int)), (Scale.mk (1000 : Int) (0 : Int) (0 : Int) (10000 : Int))]))), D.int IntKind.i64 (0 : Int)], Ag.c (D.int IntKind.i64 (1 : Int)), Ag.c (D.fc (112 : Nat) (List.length [D.sl false (List.length (M.flows (Enc.list eSc (2 : Nat) (Enc.F eSc (Enc.list eSc (2 : Nat) (Enc.F eSc [(Scale.mk (1000 : Int) (0 : Int) (0 : Int) (20000 : Int)), (Scale.mk (1000 : Int) (0 : Int) (0 : Int) (10000 : Int))])))) (100 : Int))) (2 : Nat) (Enc.F eRg (M.flows (Enc.list eSc (2 : Nat) (Enc.F eSc (Enc.list eSc (2 : Nat) (Enc.F eSc [(Scale.mk (1000 : Int) (0 : Int) (0 : Int) (20000 : Int)), (Scale.mk (1000 : Int) (0 : Int) (0 : Int) (10000 : Int))])))) (100 : Int)))]) fun (j : Nat) => List.getD [D.sl false (List.length (M.flows (Enc.list eSc (2 : Nat) (Enc.F eSc (Enc.list eSc (2 : Nat) (Enc.F eSc [(Scale.mk (1000 : Int) (0 : Int) (0 : Int) (20000 : Int)), (Scale.mk (1000 : Int) (0 : Int) (0 : Int) (10000 : Int))])))) (100 : Int))) (2 : Nat) (Enc.F eRg (M.flows (Enc.list eSc (2 : Nat) (Enc.F eSc (Enc.list eSc (2 : Nat) (Enc.F eSc [(Scale.mk (1000 : Int) (0 : Int) (0 : Int) (20000 : Int)), (Scale.mk (1000 : Int) (0 : Int) (0 : Int) (10000 : Int))])))) (100 : Int)))] j D.nilp)] (canon (Row110.g { g := (112 : Nat), i := (1 : Int), d := (100 : Int), lo := (10000 : Int), hi := (10000 : Int) }) (1 : Int) (100 : Int)),
  (2 : Nat) ≤ (1000000 : Nat),
  (1 : Nat) ≤ (1 : Nat),
  (2 : Nat) ≤ (2 : Nat)]
theorem t35c  : runFnX Try.prog G0 (lookS [v103, v104, v95, v107, v108, v109, v110c]) (fun _ => [(999999, [], none)]) [] 1 60 3 35 Try.f35 [.agg [.sl true 2 4 (eSc.F [⟨1000, 0, 0, 20000⟩, ⟨1000, 0, 0, 10000⟩]), dI 0], .c (dI 100)] =
    T.needs nd_t35c (T.ret [Ar.c (D.sl true (2 : Nat) (2 : Nat) (joinF (1 : Nat) (joinF (0 : Nat) (fun (x x_1 : Nat) => D.nilp) fun (i j : Nat) => List.getD [D.int IntKind.i64 (20000 : Int), D.int IntKind.i64 (20000 : Int)] (i * (2 : Nat) + j) D.nilp) fun (i j : Nat) => List.getD [D.int IntKind.i64 (10000 : Int), D.int IntKind.i64 (10000 : Int)] (i * (2 : Nat) + j) D.nilp)), Ar.c (D.int IntKind.i64 (0 : Int))]) := by kernel_rfl
theorem all_t35c : All nd_t35c := by
  unfold nd_t35c
  repeat (refine ⟨(by first | exact of_decide_eq_true rfl | exact fun i j _ _ => D.eqv_refl _ | exact Enc.is_F _ _ _ | exact fun i j hi _ => absurd hi (Nat.not_lt_zero i) | exact ⟨⟨ag_of_eq (by kernel_rfl), ag_of_eq (by kernel_rfl), ⟨rfl, rfl, fun j hj => by obtain rfl : j = 0 := Nat.lt_one_iff.1 hj; exact D.eqv_of_eq (by kernel_rfl)⟩, trivial⟩⟩), ?_⟩)
  trivial
theorem w_t35c : (T.needs nd_t35c (T.ret [Ar.c (D.sl true (2 : Nat) (2 : Nat) (joinF (1 : Nat) (joinF (0 : Nat) (fun (x x_1 : Nat) => D.nilp) fun (i j : Nat) => List.getD [D.int IntKind.i64 (20000 : Int), D.int IntKind.i64 (20000 : Int)] (i * (2 : Nat) + j) D.nilp) fun (i j : Nat) => List.getD [D.int IntKind.i64 (10000 : Int), D.int IntKind.i64 (10000 : Int)] (i * (2 : Nat) + j) D.nilp)), Ar.c (D.int IntKind.i64 (0 : Int))])).wp (fun rs => rsEqv rs [.c (.sl true 2 2 (eRg.F [⟨20000, 20000⟩, ⟨10000, 10000⟩])), rI 0]) := by
  refine T.needs_wp all_t35c ?_
  refine ⟨⟨fun _ => rfl, rfl, fun _ => rfl, fun i j hi hj => ?_⟩, rfl, trivial⟩
  match i, hi, j, hj with
  | 0, _, 0, _ => exact D.eqv_refl _
  | 0, _, 1, _ => exact D.eqv_refl _
  | 1, _, 0, _ => exact D.eqv_refl _
  | 1, _, 1, _ => exact D.eqv_refl _
def dom28c : DomF
  | [.agg ds] => some ([Same [.agg ds] [.agg four]], [rI 100, rI 0, rI 0])
  | _ => none
def v28c : Nat × Sm := (28, fokSm dom28c)
theorem C28c : FOK Try.prog G0 gw 28 dom28c := by
  intro ags p r hd hp κ w xs hw hl hG hx
  unfold dom28c at hd
  split at hd
  · simp only [Option.some.injEq, Prod.mk.injEq] at hd
    obtain ⟨rfl, rfl⟩ := hd
    exact fokX_fin mixed gw_stable (sl := [v95, v108, v109, v110c]) ⟨S95, S108, S109, S110c, trivial⟩ Try.func28 hw hl hG hx hp.1.h rfl t28c w_t28c
  · cases hd
theorem S28c : SumOK Try.prog G0 gw 28 (fokSm dom28c) := fok_sum Try.func28 rfl C28c
def dom35c : DomF
  | [.agg ds, .c d] => some ([Same [.agg ds, .c d] [.agg four, .c (dI 100)]], [.c (.sl true 2 2 (eRg.F [⟨20000, 20000⟩, ⟨10000, 10000⟩])), rI 0])
  | _ => none
def v35c : Nat × Sm := (35, fokSm dom35c)
theorem C35c : FOK Try.prog G0 gw 35 dom35c := by
  intro ags p r hd hp κ w xs hw hl hG hx
  unfold dom35c at hd
  split at hd
  · simp only [Option.some.injEq, Prod.mk.injEq] at hd
    obtain ⟨rfl, rfl⟩ := hd
    exact fokX_fin mixed gw_stable (sl := [v103, v104, v95, v107, v108, v109, v110c]) ⟨S103, S104, S95, S107, S108, S109, S110c, trivial⟩ Try.func35 hw hl hG hx hp.1.h rfl t35c w_t35c
  · cases hd
theorem S35c : SumOK Try.prog G0 gw 35 (fokSm dom35c) := fok_sum Try.func35 rfl C35c
end Go.Pl
end

section
set_option linter.unusedVariables false
set_option linter.unusedSimpArgs false
set_option maxRecDepth 100000
namespace Go.Pl
open Go.V Go.Proofs
namespace M
def frac (n d : Int) : Int × Int × Int := cond (small (told1 n d) 1000000000) (cond (decide (told2 n d > 1000000000)) (0, 0, 8) (told1 n d, told2 n d, 0)) (0, 0, 8)
end M
def resF (x : Int × Int × Int) : List Ar := [.agg [dI x.1, dI x.2.1], rI x.2.2]
theorem gcdL2 (n d : Int) : M.gcdL [n, d] = Int.gcd n d := by
  unfold M.gcdL Int.gcd
  simp
def tr85 (n d : Int) : T (List Ar) :=
    T.need (Enc.Is eI (2 : Nat) fun (i j : Nat) => List.getD [D.int IntKind.i64 n, D.int IntKind.i64 d] (i * (1 : Nat) + j) D.nilp) (T.need (List.length (Enc.list eI (2 : Nat) fun (i j : Nat) => List.getD [D.int IntKind.i64 n, D.int IntKind.i64 d] (i * (1 : Nat) + j) D.nilp) ≤ (1000000 : Nat)) (T.need (∀ (x : Int), (x ∈ Enc.list eI (2 : Nat) fun (i j : Nat) => List.getD [D.int IntKind.i64 n, D.int IntKind.i64 d] (i * (nat_lit 0 + (1 : Nat)) + j) D.nilp) → i64ok x) (T.need ((Nat.cast (R := Int) (M.gcdL (Enc.list eI (2 : Nat) fun (i j : Nat) => List.getD [D.int IntKind.i64 n, D.int IntKind.i64 d] (i * (1 : Nat) + j) D.nilp))) ≠ (0 : Int)) (T.need ((Nat.cast (R := Int) (M.gcdL (Enc.list eI (2 : Nat) fun (i j : Nat) => List.getD [D.int IntKind.i64 n, D.int IntKind.i64 d] (i * (1 : Nat) + j) D.nilp))) ≠ (0 : Int)) (T.need ((0 : Int) ≤ (1000000000 : Int) ∧ (1000000000 : Int) < (9223372036854775808 : Int)) (T.br (!M.small (IntKind.wrap IntKind.i64 (Int.tdiv n (Nat.cast (R := Int) (M.gcdL (Enc.list eI (2 : Nat) fun (i j : Nat) => List.getD [D.int IntKind.i64 n, D.int IntKind.i64 d] (i * (1 : Nat) + j) D.nilp))))) (1000000000 : Int)) (T.ret [Ar.agg [D.int IntKind.i64 (0 : Int), D.int IntKind.i64 (0 : Int)], Ar.c (D.int IntKind.i64 (8 : Int))]) (T.br (decide (IntKind.wrap IntKind.i64 (Int.tdiv d (Nat.cast (R := Int) (M.gcdL (Enc.list eI (2 : Nat) fun (i j : Nat) => List.getD [D.int IntKind.i64 n, D.int IntKind.i64 d] (i * (1 : Nat) + j) D.nilp)))) > (1000000000 : Int))) (T.ret [Ar.agg [D.int IntKind.i64 (0 : Int), D.int IntKind.i64 (0 : Int)], Ar.c (D.int IntKind.i64 (8 : Int))]) (T.ret [Ar.agg [D.int IntKind.i64 (IntKind.wrap IntKind.i64 (Int.tdiv n (Nat.cast (R := Int) (M.gcdL (Enc.list eI (2 : Nat) fun (i j : Nat) => List.getD [D.int IntKind.i64 n, D.int IntKind.i64 d] (i * (1 : Nat) + j) D.nilp))))), D.int IntKind.i64 (IntKind.wrap IntKind.i64 (Int.tdiv d (Nat.cast (R := Int) (M.gcdL (Enc.list eI (2 : Nat) fun (i j : Nat) => List.getD [D.int IntKind.i64 n, D.int IntKind.i64 d] (i * (1 : Nat) + j) D.nilp)))))], Ar.c (D.int IntKind.i64 (0 : Int))]))))))))
theorem t85 (n d : Int) : runFnX Try.prog G0 (lookS [v121, v151]) (fun _ => []) [] 1 40 3 85 Try.f85 [.agg [dI n, dI d]] =
    tr85 n d := by kernel_rfl
theorem w85 (n d : Int) (hn : i64ok n) (hd : i64ok d) (h0 : 0 < d) : (tr85 n d).wp (fun rs => rsEqv rs (resF (M.frac n d))) := by
  unfold tr85
  have hl : (eI.list 2 fun (i j : Nat) => List.getD [D.int IntKind.i64 n, D.int IntKind.i64 d] (i * 1 + j) D.nilp) = [n, d] := rfl
  have hl2 : (eI.list 2 fun (i j : Nat) => List.getD [D.int IntKind.i64 n, D.int IntKind.i64 d] (i * (0 + 1) + j) D.nilp) = [n, d] := rfl
  have hg : Int.gcd n d ≠ 0 := by
    intro h
    have := Int.gcd_eq_zero_iff.1 h
    omega
  have w1 := tdiv_ok (n := n) (g := Int.gcd n d) hn
  have w2 := tdiv_ok (n := d) (g := Int.gcd n d) hd
  simp only [hl, gcdL2, w1, w2]
  refine ⟨is_lit2 (D.eqv_refl _) (D.eqv_refl _), of_decide_eq_true rfl, fun x hx => ?_, by omega, by omega, by decide, ?_⟩
  · have hx : x ∈ [n, d] := hx
    simp only [List.mem_cons, List.not_mem_nil, or_false] at hx
    rcases hx with rfl | rfl
    · exact hn
    · exact hd
  · refine wp_br (fun a => ?_) (fun a => wp_br (fun b => ?_) (fun b => ?_))
    · have a : (!M.small (M.told1 n d) 1000000000) = true := a
      rw [Bool.not_eq_true'] at a
      have e : M.frac n d = (0, 0, 8) := by unfold M.frac; rw [a]; rfl
      rw [e]; exact rsEqv_refl _
    · have a : (!M.small (M.told1 n d) 1000000000) = false := a
      rw [Bool.not_eq_false'] at a
      have b : decide (M.told2 n d > 1000000000) = true := b
      have e : M.frac n d = (0, 0, 8) := by unfold M.frac; rw [a, b]; rfl
      rw [e]; exact rsEqv_refl _
    · have a : (!M.small (M.told1 n d) 1000000000) = false := a
      rw [Bool.not_eq_false'] at a
      have b : decide (M.told2 n d > 1000000000) = false := b
      have e : M.frac n d = (M.told1 n d, M.told2 n d, 0) := by unfold M.frac; rw [a, b]; rfl
      rw [e]; exact rsEqv_refl _
def dom85 : DomF
  | [.agg [.int .i64 n, .int .i64 d]] => some ([i64ok n, i64ok d, 0 < d], resF (M.frac n d))
  | _ => none
def v85 : Nat × Sm := (85, fokSm dom85)
theorem C85 : FOK Try.prog G0 gw 85 dom85 := by
  intro ags p r hd hp κ w xs hw hl hG hx
  unfold dom85 at hd
  split at hd
  · rename_i n d
    simp only [Option.some.injEq, Prod.mk.injEq] at hd
    obtain ⟨rfl, rfl⟩ := hd
    exact fokX_fin mixed gw_stable (sl := [v121, v151]) ⟨S121, S151, trivial⟩ Try.func85 hw hl hG hx (agsEqv_refl _) rfl (t85 n d) (w85 n d hp.1 hp.2.1 hp.2.2.1)
  · cases hd
theorem S85 : SumOK Try.prog G0 gw 85 (fokSm dom85) := fok_sum Try.func85 rfl C85
def tr83 (q_mo : Bool) (mo : List Int) (q_ga : Bool) (ga : List Int) (q_de : Bool) (de : List Dem) : T (List Ar) :=
    T.need (Enc.Is eI (List.length mo) (Enc.F eI mo)) (T.need (Enc.Is eI (List.length ga) (Enc.F eI ga)) (T.need (Enc.Is eDm (List.length de) (Enc.F eDm de)) (T.need (List.length (Enc.list eI (List.length mo) (Enc.F eI mo)) ≤ (1000000 : Nat)) (T.need (List.length (Enc.list eI (List.length ga) (Enc.F eI ga)) ≤ (1000000 : Nat)) (T.need (List.length (Enc.list eDm (List.length de) (Enc.F eDm de)) ≤ (1000000 : Nat)) (T.need (∀ (d : Dem), d ∈ Enc.list eDm (List.length de) (Enc.F eDm de) → ByteArray.size (Dem.nm d) ≤ (1000000 : Nat) ∧ List.length (Dem.co d) ≤ (1000000 : Nat)) (T.ret [Ar.agg [D.sl q_mo (List.length mo) (1 : Nat) (Enc.F eI mo), D.sl q_ga (List.length ga) (1 : Nat) (Enc.F eI ga), D.sl q_de (List.length de) (3 : Nat) (Enc.F eDm de)], Ar.c (D.int IntKind.i64 (Prod.snd (M.checkProg (Enc.list eI (List.length mo) (Enc.F eI mo)) (Enc.list eI (List.length ga) (Enc.F eI ga)) (Enc.list eDm (List.length de) (Enc.F eDm de)))))])))))))
theorem t83 (q_mo : Bool) (mo : List Int) (q_ga : Bool) (ga : List Int) (q_de : Bool) (de : List Dem) : runFnX Try.prog G0 (lookS [v42]) (fun _ => []) [] 1 40 3 83 Try.f83 [.agg [.sl q_mo mo.length 1 (eI.F mo), .sl q_ga ga.length 1 (eI.F ga), .sl q_de de.length 3 (eDm.F de)]] =
    tr83 q_mo mo q_ga ga q_de de := by kernel_rfl
theorem w83 (qm : Bool) (mo : List Int) (qg : Bool) (ga : List Int) (qd : Bool) (de : List Dem) (h1 : mo.length ≤ 1000000) (h2 : ga.length ≤ 1000000) (h3 : de.length ≤ 1000000) (hn : ∀ d, d ∈ de → d.nm.size ≤ 1000000 ∧ d.co.length ≤ 1000000) : (tr83 qm mo qg ga qd de).wp (fun rs => rsEqv rs [.agg [.sl qm mo.length 1 (eI.F mo), .sl qg ga.length 1 (eI.F ga), .sl qd de.length 3 (eDm.F de)], rI (M.checkProg mo ga de).2]) := by
  unfold tr83
  simp only [Enc.list_F]
  exact ⟨Enc.is_F _ _ _, Enc.is_F _ _ _, Enc.is_F _ _ _, h1, h2, h3, hn, rsEqv_refl _⟩
def dom83 : DomF
  | [.agg [.sl qm n1 st1 F1, .sl qg n2 st2 F2, .sl qd n3 st3 F3]] => (match Nat.beq st1 1 && Nat.beq st2 1 && Nat.beq st3 3 with
    | true => some ([eI.Is n1 F1, eI.Is n2 F2, eDm.Is n3 F3, n1 ≤ 1000000, n2 ≤ 1000000, n3 ≤ 1000000, ∀ d, d ∈ eDm.list n3 F3 → d.nm.size ≤ 1000000 ∧ d.co.length ≤ 1000000], [.agg [.sl qm n1 1 (eI.F (eI.list n1 F1)), .sl qg n2 1 (eI.F (eI.list n2 F2)), .sl qd n3 3 (eDm.F (eDm.list n3 F3))], rI (M.checkProg (eI.list n1 F1) (eI.list n2 F2) (eDm.list n3 F3)).2])
    | _ => none)
  | _ => none
def v83 : Nat × Sm := (83, fokSm dom83)
theorem C83 : FOK Try.prog G0 gw 83 dom83 := by
  intro ags p r hd hp κ w xs hw hl hG hx
  unfold dom83 at hd
  split at hd
  · rename_i qm n1 st1 F1 qg n2 st2 F2 qd n3 st3 F3
    split at hd
    · rename_i hst
      simp only [Bool.and_eq_true] at hst
      have g1 := Nat.eq_of_beq_eq_true hst.1.1
      have g2 := Nat.eq_of_beq_eq_true hst.1.2
      have g3 := Nat.eq_of_beq_eq_true hst.2
      subst g1 g2 g3
      simp only [Option.some.injEq, Prod.mk.injEq] at hd
      obtain ⟨rfl, rfl⟩ := hd
      obtain ⟨i1, i2, i3, l1, l2, l3, hn, _⟩ := hp
      have heq : agsEqv [.agg [.sl qm n1 1 F1, .sl qg n2 1 F2, .sl qd n3 3 F3]] [.agg [.sl qm (eI.list n1 F1).length 1 (eI.F (eI.list n1 F1)), .sl qg (eI.list n2 F2).length 1 (eI.F (eI.list n2 F2)), .sl qd (eDm.list n3 F3).length 3 (eDm.F (eDm.list n3 F3))]] := ⟨⟨eI.to id i1, eI.to id i2, eDm.to id i3, trivial⟩, trivial⟩
      have e1 : (eI.list n1 F1).length = n1 := Enc.list_len _
      have e2 : (eI.list n2 F2).length = n2 := Enc.list_len _
      have e3 : (eDm.list n3 F3).length = n3 := Enc.list_len _
      have hw0 := w83 qm (eI.list n1 F1) qg (eI.list n2 F2) qd (eDm.list n3 F3) (by omega) (by omega) (by omega) hn
      rw [e1, e2, e3] at hw0
      exact fokX_fin mixed gw_stable (sl := [v42]) ⟨S42, trivial⟩ Try.func83 hw hl hG hx heq rfl (t83 qm _ qg _ qd _) hw0
    · cases hd
  · cases hd
theorem S83 : SumOK Try.prog G0 gw 83 (fokSm dom83) := fok_sum Try.func83 rfl C83
end Go.Pl
end

section
set_option linter.unusedVariables false
set_option linter.unusedSimpArgs false
set_option maxRecDepth 100000
namespace Go.Pl
open Go.V Go.Proofs
def best2 : List Ar := [.agg [dI 34, dI 1, dI 1, dT [10, 2], dI 1, dT [2], dT [1, 0]], rI 0]
def two' : List D := [D.sl true 2 1 (eI.F (eI.list 2 (eI.F [10, 10]))), D.sl true 2 1 (eI.F (eI.list 2 (eI.F [3, 2]))), D.sl true 1 3 (eDm.F (eDm.list 1 (eDm.F [⟨⟨#[97]⟩, [1, 1], 12⟩])))]
theorem two'_eq : two' = two := by kernel_rfl
theorem two1 : Same [.agg two'] [.agg two] := ⟨by rw [two'_eq]; exact agsEqv_refl _⟩
theorem two3 : Same [.agg two', .c (.sl true 2 1 (eI.F (eI.list 2 (eI.F [3, 2])))), .c (.sl false 0 0 (fun _ _ => .nilp))] [.agg two, .c (dT [3, 2]), .c (.sl false 0 0 (fun _ _ => .nilp))] := ⟨by rw [two'_eq]; exact ⟨Ag.eqv_refl _, ag_of_eq (by kernel_rfl), Ag.eqv_refl _, trivial⟩⟩
def nd_t17c : List Prop := [
  Enc.Is eI (2 : Nat) (Enc.F eI [(10 : Int), (10 : Int)]),
  Enc.Is eI (2 : Nat) (Enc.F eI [(3 : Int), (2 : Int)]),
  Enc.Is eDm (1 : Nat) (Enc.F eDm [{ nm := { data := { toList := [(97 : UInt8)] } }, co := [(1 : Int), (1 : Int)], am := (12 : Int) }]),
  (2 : Nat) ≤ (1000000 : Nat),
  (2 : Nat) ≤ (1000000 : Nat),
  (1 : Nat) ≤ (1000000 : Nat),
  ∀ (d : Dem), d ∈ Enc.list eDm (1 : Nat) (Enc.F eDm [{ nm := { data := #[(97 : UInt8)] }, co := [(1 : Int), (1 : Int)], am := (12 : Int) }]) → ByteArray.size (Dem.nm d) ≤ (1000000 : Nat) ∧ List.length (Dem.co d) ≤ (1000000 : Nat),
  Same [Ag.agg [D.sl true (2 : Nat) (1 : Nat) (Enc.F eI (Enc.list eI (2 : Nat) (Enc.F eI [(10 : Int), (10 : Int)]))), D.sl true (2 : Nat) (1 : Nat) (Enc.F eI (Enc.list eI (2 : Nat) (Enc.F eI [(3 : Int), (2 : Int)]))), D.sl true (1 : Nat) (3 : Nat) (Enc.F eDm (Enc.list eDm (1 : Nat) (Enc.F eDm [{ nm := { data := { toList := [(97 : UInt8)] } }, co := [(1 : Int), (1 : Int)], am := (12 : Int) }])))]] [Ag.agg two],
  i64ok (34 : Int),
  i64ok (1 : Int),
  (0 : Int) < (1 : Int),
  Same [Ag.agg [D.sl true (2 : Nat) (1 : Nat) (Enc.F eI (Enc.list eI (2 : Nat) (Enc.F eI [(10 : Int), (10 : Int)]))), D.sl true (2 : Nat) (1 : Nat) (Enc.F eI (Enc.list eI (2 : Nat) (Enc.F eI [(3 : Int), (2 : Int)]))), D.sl true (1 : Nat) (3 : Nat) (Enc.F eDm (Enc.list eDm (1 : Nat) (Enc.F eDm [{ nm := { data := { toList := [(97 : UInt8)] } }, co := [(1 : Int), (1 : Int)], am := (12 : Int) }])))], Ag.c (D.sl true (2 : Nat) (1 : Nat) (Enc.F eI [(3 : Int), (2 : Int)])), Ag.c (D.sl false (0 : Nat) (0 : Nat) fun (x x_1 : Nat) => D.nilp)] [Ag.agg two, Ag.c (dT [(3 : Int), (2 : Int)]), Ag.c (D.sl false (0 : Nat) (0 : Nat) fun (x x_1 : Nat) => D.nilp)]]
theorem t17c  : runFnX Try.prog G0 (lookS [v83, v84c, v85, v86c]) (fun _ => [(999999, [], none)]) [] 1 60 3 17 Try.f17 [.agg two] =
    T.needs nd_t17c (T.ret [Ar.agg [D.int IntKind.i64 (34 : Int), D.int IntKind.i64 (1 : Int), D.int IntKind.i64 (1 : Int), D.sl true (2 : Nat) (1 : Nat) (Enc.F eI [(10 : Int), (2 : Int)]), D.int IntKind.i64 (1 : Int), D.sl true (1 : Nat) (1 : Nat) (Enc.F eI [(2 : Int)]), D.sl true (2 : Nat) (1 : Nat) (Enc.F eI [(1 : Int), (0 : Int)])], Ar.c (D.int IntKind.i64 (0 : Int))]) := by kernel_rfl
theorem all_t17c : All nd_t17c := by
  unfold nd_t17c
  repeat (refine ⟨(by first | exact of_decide_eq_true rfl | exact fun i j _ _ => D.eqv_refl _ | exact Enc.is_F _ _ _ | exact fun i j hi _ => absurd hi (Nat.not_lt_zero i) | exact two1 | exact two3 | exact of_decide_eq_true (by kernel_rfl)), ?_⟩)
  trivial
theorem w_t17c : (T.needs nd_t17c (T.ret [Ar.agg [D.int IntKind.i64 (34 : Int), D.int IntKind.i64 (1 : Int), D.int IntKind.i64 (1 : Int), D.sl true (2 : Nat) (1 : Nat) (Enc.F eI [(10 : Int), (2 : Int)]), D.int IntKind.i64 (1 : Int), D.sl true (1 : Nat) (1 : Nat) (Enc.F eI [(2 : Int)]), D.sl true (2 : Nat) (1 : Nat) (Enc.F eI [(1 : Int), (0 : Int)])], Ar.c (D.int IntKind.i64 (0 : Int))])).wp (fun rs => rsEqv rs best2) := by
  refine T.needs_wp all_t17c ?_
  exact rsEqv_refl _
def nd_t53c : List Prop := [
  Enc.Is eI (2 : Nat) (Enc.F eI [(10 : Int), (10 : Int)]),
  Enc.Is eI (2 : Nat) (Enc.F eI [(3 : Int), (2 : Int)]),
  Enc.Is eDm (1 : Nat) (Enc.F eDm [{ nm := { data := { toList := [(97 : UInt8)] } }, co := [(1 : Int), (1 : Int)], am := (12 : Int) }]),
  (2 : Nat) ≤ (1000000 : Nat),
  (2 : Nat) ≤ (1000000 : Nat),
  (1 : Nat) ≤ (1000000 : Nat),
  ∀ (d : Dem), d ∈ Enc.list eDm (1 : Nat) (Enc.F eDm [{ nm := { data := #[(97 : UInt8)] }, co := [(1 : Int), (1 : Int)], am := (12 : Int) }]) → ByteArray.size (Dem.nm d) ≤ (1000000 : Nat) ∧ List.length (Dem.co d) ≤ (1000000 : Nat),
  ((1 : Int) == (1 : Int)) = true,
  M.within (1 : Int) (1 : Int) (100000000000 : Int) = true,
  Enc.Is eI (1 : Nat) (Enc.F eI [(2 : Int)]),
  (1 : Nat) ≤ (1000000 : Nat),
  (!(badF (170 : Nat) (2 : Int) || false)) = true,
  Enc.Is eI (2 : Nat) (Enc.F eI [(1 : Int), (0 : Int)]),
  (2 : Nat) ≤ (1000000 : Nat),
  Enc.Is eI (2 : Nat) (Enc.F eI [(1 : Int), (0 : Int)]),
  Enc.Is eI (2 : Nat) (Enc.F eI (Enc.list eI (2 : Nat) (Enc.F eI [(10 : Int), (10 : Int)]))),
  List.length (Enc.list eI (2 : Nat) (Enc.F eI [(1 : Int), (0 : Int)])) ≤ (1000000 : Nat),
  List.length (Enc.list eI (2 : Nat) (Enc.F eI [(1 : Int), (0 : Int)])) ≤ List.length (Enc.list eI (2 : Nat) (Enc.F eI (Enc.list eI (2 : Nat) (Enc.F eI [(10 : Int), (10 : Int)])))),
  (0 : Int) ≤ (0 : Int),
  (0 : Int) < (1 : Int),
  (0 : Int) ≤ (0 : Int),
  (0 : Int) < (1 : Int),
  (0 : Int) ≤ (0 : Int),
  (0 : Int) < (2 : Int),
  (0 : Int) ≤ (0 : Int),
  (0 : Int) < (1 : Int),
  (0 : Int) ≤ (0 : Int),
  (0 : Int) < (1 : Int),
  (0 : Int) ≤ (0 : Int),
  (0 : Int) < (2 : Int),
  (0 : Int) ≤ (0 : Int),
  (0 : Int) < (2 : Int),
  (0 : Int) ≤ (1 : Int),
  (1 : Int) < (2 : Int),
  (0 : Int) ≤ (0 : Int),
  (0 : Int) < (1 : Int),
  (0 : Int) ≤ (0 : Int),
  (0 : Int) < (1 : Int),
  (0 : Int) ≤ (1 : Int),
  (1 : Int) < (2 : Int),
  (0 : Int) ≤ (1 : Int),
  (1 : Int) < (2 : Int),
  i64ok (34 : Int),
  i64ok (1 : Int),
  (0 : Int) < (1 : Int)]
theorem t53c  : runFnX Try.prog G0 (lookS [v83, v85, v103, v104, v105, v118, v139]) (fun _ => [(999999, [], none)]) [133, 134, 135] 1 60 6 53 Try.f53 [.agg two, .agg [dI 1, dT [2], dT [1, 0]]] =
    T.needs nd_t53c (T.ret [Ar.agg [D.int IntKind.i64 (34 : Int), D.int IntKind.i64 (1 : Int)], Ar.c (D.int IntKind.i64 (0 : Int))]) := by kernel_rfl
theorem all_t53c : All nd_t53c := by
  unfold nd_t53c
  repeat (refine ⟨(by first | exact of_decide_eq_true rfl | exact fun i j _ _ => D.eqv_refl _ | exact Enc.is_F _ _ _ | exact fun i j hi _ => absurd hi (Nat.not_lt_zero i) | exact of_decide_eq_true (by kernel_rfl)), ?_⟩)
  trivial
theorem w_t53c : (T.needs nd_t53c (T.ret [Ar.agg [D.int IntKind.i64 (34 : Int), D.int IntKind.i64 (1 : Int)], Ar.c (D.int IntKind.i64 (0 : Int))])).wp (fun rs => rsEqv rs [.agg [dI 34, dI 1], rI 0]) := by
  refine T.needs_wp all_t53c ?_
  exact rsEqv_refl _
def dom17c : DomF
  | [.agg ds] => some ([Same [.agg ds] [.agg two]], best2)
  | _ => none
def v17c : Nat × Sm := (17, fokSm dom17c)
theorem C17c : FOK Try.prog G0 gw 17 dom17c := by
  intro ags p r hd hp κ w xs hw hl hG hx
  unfold dom17c at hd
  split at hd
  · simp only [Option.some.injEq, Prod.mk.injEq] at hd
    obtain ⟨rfl, rfl⟩ := hd
    exact fokX_fin mixed gw_stable (sl := [v83, v84c, v85, v86c]) ⟨S83, S84c, S85, S86c, trivial⟩ Try.func17 hw hl hG hx hp.1.h rfl t17c w_t17c
  · cases hd
theorem S17c : SumOK Try.prog G0 gw 17 (fokSm dom17c) := fok_sum Try.func17 rfl C17c
def dom53c : DomF
  | [.agg ds, .agg ws] => some ([Same [.agg ds, .agg ws] [.agg two, .agg [dI 1, dT [2], dT [1, 0]]]], [.agg [dI 34, dI 1], rI 0])
  | _ => none
def v53c : Nat × Sm := (53, fokSm dom53c)
theorem C53c : FOK Try.prog G0 gw 53 dom53c := by
  intro ags p r hd hp κ w xs hw hl hG hx
  unfold dom53c at hd
  split at hd
  · simp only [Option.some.injEq, Prod.mk.injEq] at hd
    obtain ⟨rfl, rfl⟩ := hd
    exact fokX_fin mixed gw_stable (sl := [v83, v85, v103, v104, v105, v118, v139]) ⟨S83, S85, S103, S104, S105, S118, S139, trivial⟩ Try.func53 hw hl hG hx hp.1.h rfl t53c w_t53c
  · cases hd
theorem S53c : SumOK Try.prog G0 gw 53 (fokSm dom53c) := fok_sum Try.func53 rfl C53c
def tr80  : T (List Ar) :=
    T.ret [Ar.agg [D.sl true (2 : Nat) (1 : Nat) fun (i' j : Nat) => List.getD [D.int IntKind.i64 (10 : Int), D.int IntKind.i64 (10 : Int)] (i' * (1 : Nat) + j) D.nilp, D.sl true (2 : Nat) (1 : Nat) fun (i' j : Nat) => List.getD [D.int IntKind.i64 (3 : Int), D.int IntKind.i64 (2 : Int)] (i' * (1 : Nat) + j) D.nilp, D.sl true (1 : Nat) (3 : Nat) fun (i' j : Nat) => List.getD [D.str { data := { toList := [(97 : UInt8)] } }, D.sl true (2 : Nat) (1 : Nat) fun (i' j : Nat) => List.getD [D.int IntKind.i64 (1 : Int), D.int IntKind.i64 (1 : Int)] (i' * (1 : Nat) + j) D.nilp, D.int IntKind.i64 (12 : Int)] (i' * (3 : Nat) + j) D.nilp]]
theorem t80  : runFnX Try.prog G0 (lookS []) (fun _ => []) [] 1 40 6 80 Try.f80 [] =
    tr80  := by kernel_rfl
def tr81  : T (List Ar) :=
    T.ret [Ar.agg [D.sl true (2 : Nat) (4 : Nat) fun (i' j : Nat) => List.getD [D.int IntKind.i64 (1000 : Int), D.int IntKind.i64 (0 : Int), D.int IntKind.i64 (0 : Int), D.int IntKind.i64 (20000 : Int), D.int IntKind.i64 (1000 : Int), D.int IntKind.i64 (0 : Int), D.int IntKind.i64 (0 : Int), D.int IntKind.i64 (10000 : Int)] (i' * (4 : Nat) + j) D.nilp, D.int IntKind.i64 (0 : Int)]]
theorem t81  : runFnX Try.prog G0 (lookS []) (fun _ => []) [] 1 40 6 81 Try.f81 [] =
    tr81  := by kernel_rfl
def tr82 (n : Int) : T (List Ar) :=
    T.ret [Ar.agg [D.int IntKind.i64 n, D.int IntKind.i64 (1 : Int)]]
theorem t82 (n : Int) : runFnX Try.prog G0 (lookS []) (fun _ => []) [] 1 40 3 82 Try.f82 [.c (dI n)] =
    tr82 n := by kernel_rfl
theorem w80 : (tr80).wp (fun rs => rsEqv rs [.agg two]) := by
  unfold tr80
  refine ⟨⟨dT_ok rfl rfl (fun i hi => ?_), dT_ok rfl rfl (fun i hi => ?_), ⟨fun _ => rfl, rfl, fun _ => rfl, fun i j hi hj => ?_⟩, trivial⟩, trivial⟩
  · match i, hi with
    | 0, _ => exact D.eqv_refl _
    | 1, _ => exact D.eqv_refl _
  · match i, hi with
    | 0, _ => exact D.eqv_refl _
    | 1, _ => exact D.eqv_refl _
  · match i, hi, j, hj with
    | 0, _, 0, _ => exact D.eqv_refl _
    | 0, _, 1, _ =>
      refine ⟨fun _ => rfl, rfl, fun _ => rfl, fun i j hi hj => ?_⟩
      obtain rfl : j = 0 := Nat.lt_one_iff.1 hj
      match i, hi with
      | 0, _ => exact D.eqv_refl _
      | 1, _ => exact D.eqv_refl _
    | 0, _, 2, _ => exact D.eqv_refl _
def dom80 : DomF
  | [] => some ([], [.agg two])
  | _ => none
def v80 : Nat × Sm := (80, fokSm dom80)
theorem C80 : FOK Try.prog G0 gw 80 dom80 := by
  intro ags p r hd hp κ w xs hw hl hG hx
  unfold dom80 at hd
  split at hd
  · simp only [Option.some.injEq, Prod.mk.injEq] at hd
    obtain ⟨rfl, rfl⟩ := hd
    exact fokX_fin mixed gw_stable (sl := []) trivial Try.func80 hw hl hG hx (agsEqv_refl _) rfl t80 w80
  · cases hd
theorem S80 : SumOK Try.prog G0 gw 80 (fokSm dom80) := fok_sum Try.func80 rfl C80
theorem w81 : (tr81).wp (fun rs => rsEqv rs [.agg four]) := by
  unfold tr81
  refine ⟨⟨⟨fun _ => rfl, rfl, fun _ => rfl, fun i j hi hj => ?_⟩, rfl, trivial⟩, trivial⟩
  match i, hi, j, hj with
  | 0, _, 0, _ => exact D.eqv_refl _
  | 0, _, 1, _ => exact D.eqv_refl _
  | 0, _, 2, _ => exact D.eqv_refl _
  | 0, _, 3, _ => exact D.eqv_refl _
  | 1, _, 0, _ => exact D.eqv_refl _
  | 1, _, 1, _ => exact D.eqv_refl _
  | 1, _, 2, _ => exact D.eqv_refl _
  | 1, _, 3, _ => exact D.eqv_refl _
def dom81 : DomF
  | [] => some ([], [.agg four])
  | _ => none
def v81 : Nat × Sm := (81, fokSm dom81)
theorem C81 : FOK Try.prog G0 gw 81 dom81 := by
  intro ags p r hd hp κ w xs hw hl hG hx
  unfold dom81 at hd
  split at hd
  · simp only [Option.some.injEq, Prod.mk.injEq] at hd
    obtain ⟨rfl, rfl⟩ := hd
    exact fokX_fin mixed gw_stable (sl := []) trivial Try.func81 hw hl hG hx (agsEqv_refl _) rfl t81 w81
  · cases hd
theorem S81 : SumOK Try.prog G0 gw 81 (fokSm dom81) := fok_sum Try.func81 rfl C81
def dom82 : DomF
  | [.c (.int .i64 n)] => some ([], [.agg [dI n, dI 1]])
  | _ => none
def v82 : Nat × Sm := (82, fokSm dom82)
theorem C82 : FOK Try.prog G0 gw 82 dom82 := by
  intro ags p r hd hp κ w xs hw hl hG hx
  unfold dom82 at hd
  split at hd
  · rename_i n
    simp only [Option.some.injEq, Prod.mk.injEq] at hd
    obtain ⟨rfl, rfl⟩ := hd
    have heq : agsEqv [.c (.int .i64 n)] [.c (.int .i64 n)] := ⟨Ag.eqv_refl _, trivial⟩
    exact fokX_fin mixed gw_stable (sl := []) trivial Try.func82 hw hl hG hx heq rfl (t82 _) (rsEqv_refl _)
  · cases hd
theorem S82 : SumOK Try.prog G0 gw 82 (fokSm dom82) := fok_sum Try.func82 rfl C82
end Go.Pl
end

section
set_option linter.unusedVariables false
set_option linter.unusedSimpArgs false
set_option maxRecDepth 100000
namespace Go.Pl
open Go.V Go.Proofs
theorem sw : Same [.agg two, .agg [dI 1, D.sl true 1 1 fun (i j : Nat) => List.getD [dI 2] (i * 1 + j) D.nilp, D.sl true 2 1 fun (i j : Nat) => List.getD [dI 1, dI 0] (i * 1 + j) D.nilp]] [.agg two, .agg [dI 1, dT [2], dT [1, 0]]] := by
  refine ⟨⟨Ag.eqv_refl _, ⟨rfl, dT_ok rfl rfl (fun i hi => ?_), dT_ok rfl rfl (fun i hi => ?_), trivial⟩, trivial⟩⟩
  · match i, hi with
    | 0, _ => exact D.eqv_refl _
  · match i, hi with
    | 0, _ => exact D.eqv_refl _
    | 1, _ => exact D.eqv_refl _
def nd_t15 : List Prop := [
  Same [Ag.agg [D.sl true (2 : Nat) (1 : Nat) (Enc.F eI [(10 : Int), (10 : Int)]), D.sl true (2 : Nat) (1 : Nat) (Enc.F eI [(3 : Int), (2 : Int)]), D.sl true (1 : Nat) (3 : Nat) (Enc.F eDm [{ nm := { data := { toList := [(97 : UInt8)] } }, co := [(1 : Int), (1 : Int)], am := (12 : Int) }])]] [Ag.agg two],
  Same [Ag.agg [D.sl true (2 : Nat) (1 : Nat) (Enc.F eI [(10 : Int), (10 : Int)]), D.sl true (2 : Nat) (1 : Nat) (Enc.F eI [(3 : Int), (2 : Int)]), D.sl true (1 : Nat) (3 : Nat) (Enc.F eDm [{ nm := { data := { toList := [(97 : UInt8)] } }, co := [(1 : Int), (1 : Int)], am := (12 : Int) }])], Ag.agg [D.int IntKind.i64 (1 : Int), D.sl true (1 : Nat) (1 : Nat) fun (i j : Nat) => List.getD [D.int IntKind.i64 (2 : Int)] (i * (1 : Nat) + j) D.nilp, D.sl true (2 : Nat) (1 : Nat) fun (i j : Nat) => List.getD [D.int IntKind.i64 (1 : Int), D.int IntKind.i64 (0 : Int)] (i * (1 : Nat) + j) D.nilp]] [Ag.agg two, Ag.agg [dI (1 : Int), dT [(2 : Int)], dT [(1 : Int), (0 : Int)]]],
  Same [Ag.agg [D.sl true (2 : Nat) (4 : Nat) (Enc.F eSc [(Scale.mk (1000 : Int) (0 : Int) (0 : Int) (20000 : Int)), (Scale.mk (1000 : Int) (0 : Int) (0 : Int) (10000 : Int))]), D.int IntKind.i64 (0 : Int)]] [Ag.agg four],
  Same [Ag.agg [D.sl true (2 : Nat) (4 : Nat) (Enc.F eSc [(Scale.mk (1000 : Int) (0 : Int) (0 : Int) (20000 : Int)), (Scale.mk (1000 : Int) (0 : Int) (0 : Int) (10000 : Int))]), D.int IntKind.i64 (0 : Int)], Ag.c (D.int IntKind.i64 (100 : Int))] [Ag.agg four, Ag.c (dI (100 : Int))],
  ((34 : Int) == (34 : Int) && ((1 : Int) == (1 : Int) && true)) = true,
  ((34 : Int) == (34 : Int) && ((1 : Int) == (1 : Int) && true)) = true,
  ((2 : Int) == (2 : Int)) = true,
  (0 : Int) ≤ (0 : Int),
  (0 : Int) < (2 : Int)]
theorem t15  : runFnX Try.prog G0 (lookS [v17c, v53c, v28c, v35c, v80, v81, v82]) (fun _ => [(999999, [], none)]) [] 1 60 3 15 Try.f15 [] =
    T.needs nd_t15 (T.ret [Ar.c (D.bool ((20000 : Int) == (20000 : Int) && ((20000 : Int) == (20000 : Int) && true)))]) := by kernel_rfl
theorem all_t15 : All nd_t15 := by
  unfold nd_t15
  repeat (refine ⟨(by first | exact of_decide_eq_true rfl | exact fun i j _ _ => D.eqv_refl _ | exact Enc.is_F _ _ _ | exact fun i j hi _ => absurd hi (Nat.not_lt_zero i) | exact Same.mk (agsEqv_refl _) | exact sw), ?_⟩)
  trivial
theorem w_t15 : (T.needs nd_t15 (T.ret [Ar.c (D.bool ((20000 : Int) == (20000 : Int) && ((20000 : Int) == (20000 : Int) && true)))])).wp (fun rs => rsEqv rs [rB true]) := by
  refine T.needs_wp all_t15 ?_
  exact rsEqv_refl _
def dom15 : DomF
  | [] => some ([], [rB true])
  | _ => none
def v15 : Nat × Sm := (15, fokSm dom15)
theorem C15 : FOK Try.prog G0 gw 15 dom15 := by
  intro ags p r hd hp κ w xs hw hl hG hx
  unfold dom15 at hd
  split at hd
  · simp only [Option.some.injEq, Prod.mk.injEq] at hd
    obtain ⟨rfl, rfl⟩ := hd
    exact fokX_fin mixed gw_stable (sl := [v17c, v53c, v28c, v35c, v80, v81, v82]) ⟨S17c, S53c, S28c, S35c, S80, S81, S82, trivial⟩ Try.func15 hw hl hG hx (agsEqv_refl _) rfl t15 w_t15
  · cases hd
theorem S15 : SumOK Try.prog G0 gw 15 (fokSm dom15) := fok_sum Try.func15 rfl C15
end Go.Pl
end

section
set_option linter.unusedVariables false
set_option linter.unusedSimpArgs false
set_option maxRecDepth 100000
namespace Go.Pl
open Go.V Go.Proofs
namespace M
def agesErr (n : Nat) (ag : List Rg) : Int := cond ((ag.length : Int) != (n : Int)) 10 (badFrom (fun k => rgErr (ag.getD k dfR).lo (ag.getD k dfR).hi 100000) ag.length 0).2
def firstIdx (p : Nat → Bool) : Nat → Nat → Int
  | 0, _ => -1
  | n + 1, k => cond (p k) (k : Int) (firstIdx p n (k + 1))
def floorW (n b : Int) : Int := cond (decide (n.tmod b < 0)) (IntKind.i64.wrap (IntKind.i64.wrap (n.tdiv b) - 1)) (IntKind.i64.wrap (n.tdiv b))
def ceilW (n b : Int) : Int := IntKind.i64.wrap (0 - floorW (IntKind.i64.wrap (0 - n)) b)
def mixed (v f a b : Int) : Int := IntKind.i64.wrap (IntKind.i64.wrap (IntKind.i64.wrap (v - f) * a) + IntKind.i64.wrap (f * b))
end M
theorem idx_step {p : Nat → Bool} {n k : Nat} (h : k < n) : M.firstIdx p (n - k) k = cond (p k) (k : Int) (M.firstIdx p (n - (k + 1)) (k + 1)) := by
  obtain ⟨m, hm⟩ : ∃ m, n - k = m + 1 := ⟨n - k - 1, by omega⟩
  rw [hm, show n - (k + 1) = m by omega]; rfl
theorem idx_range {p : Nat → Bool} : ∀ (n k : Nat), (0 ≤ M.firstIdx p n k → (k : Int) ≤ M.firstIdx p n k) ∧ -1 ≤ M.firstIdx p n k := by
  intro n
  induction n with
  | zero => intro k; simp [M.firstIdx]
  | succ n ih =>
    intro k
    simp only [M.firstIdx]
    cases p k with
    | true => simp only [cond_true]; omega
    | false => simp only [cond_false]; have := ih (k + 1); omega
def tr27 (q_sc : Bool) (sc : List Scale) (new : Int) : T (List Ar) :=
    T.ret [Ar.c (D.bool (decide ((Nat.cast (R := Int) (List.length sc)) ≤ (6 : Int))))]
theorem t27 (q_sc : Bool) (sc : List Scale) (new : Int) : runFnX Try.prog G0 (lookS []) (fun _ => []) [] 1 40 3 27 Try.f27 [.agg [.sl q_sc sc.length 4 (eSc.F sc), dI new]] =
    tr27 q_sc sc new := by kernel_rfl
def dom27 : DomF
  | [.agg [.sl _ n_sc st_sc F_sc, .int .i64 new]] => (match Nat.beq st_sc 4 with
    | true => some ([eSc.Is n_sc F_sc], [rB (decide (((eSc.list n_sc F_sc).length : Int) ≤ 6))])
    | _ => none)
  | _ => none
def v27 : Nat × Sm := (27, fokSm dom27)
theorem C27 : FOK Try.prog G0 gw 27 dom27 := by
  intro ags p r hd hp κ w xs hw hl hG hx
  unfold dom27 at hd
  split at hd
  · rename_i q_sc n_sc st_sc F_sc new
    split at hd
    · rename_i hst
      have g1 := hst
      have g1 := Nat.eq_of_beq_eq_true g1
      subst g1
      simp only [Option.some.injEq, Prod.mk.injEq] at hd
      obtain ⟨rfl, rfl⟩ := hd
      obtain ⟨hI_sc, hp⟩ := hp
      have heq : agsEqv [.agg [.sl q_sc n_sc 4 F_sc, .int .i64 new]] [.agg [.sl q_sc (eSc.list n_sc F_sc).length 4 (eSc.F (eSc.list n_sc F_sc)), .int .i64 new]] := ⟨⟨eSc.to id hI_sc, rfl, trivial⟩, trivial⟩
      have len_sc : (eSc.list n_sc F_sc).length = n_sc := eSc.list_len
      generalize eSc.list n_sc F_sc = sc at *
      subst len_sc
      exact fokX_fin mixed gw_stable (sl := []) trivial Try.func27 hw hl hG hx heq rfl (t27 _ _ _) (rsEqv_refl _)
    · cases hd
  · cases hd
theorem S27 : SumOK Try.prog G0 gw 27 (fokSm dom27) := fok_sum Try.func27 rfl C27
end Go.Pl
end

section
set_option linter.unusedVariables false
set_option linter.unusedSimpArgs false
set_option maxRecDepth 100000
namespace Go.Pl
open Go.V Go.Proofs
namespace M
def mn (a b : Int) : Int := if b < a then b else a
def mx (a b : Int) : Int := if b > a then b else a
def yearK (v : Int) (f a n : Rg) : Rg := ⟨IntKind.i64.wrap (floorW (mn (mixed v f.lo a.lo n.lo) (mixed v f.hi a.lo n.lo)) v + 1000), IntKind.i64.wrap (ceilW (mx (mixed v f.lo a.hi n.hi) (mixed v f.hi a.hi n.hi)) v + 1000)⟩
def nextR (ag : List Rg) (nw : Int) (k : Nat) : Rg := if k + 1 < ag.length then ag.getD (k + 1) dfR else ⟨nw, nw⟩
def year (sc : List Scale) (nw : Int) (ag fl : List Rg) : List Rg := (List.range sc.length).map fun k => yearK (sc.getD k dfS).vol (fl.getD k dfR) (ag.getD k dfR) (nextR ag nw k)
end M
end Go.Pl
end

section
set_option linter.unusedVariables false
set_option linter.unusedSimpArgs false
set_option maxRecDepth 100000
namespace Go.Pl
open Go.V Go.Proofs
namespace M
end M
theorem bad_zero {f : Nat → Int} : ∀ (n k : Nat), (M.badFrom f n k).2 = 0 → ∀ i, k ≤ i → i < k + n → f i = 0 := by
  intro n
  induction n with
  | zero => intro k _ i h1 h2; omega
  | succ n ih =>
    intro k h i h1 h2
    simp only [M.badFrom] at h
    cases hb : (f k != 0) with
    | true =>
      rw [hb] at h
      have h : f k = 0 := h
      rw [h] at hb; cases hb
    | false =>
      rw [hb] at h
      have hk : f k = 0 := by simpa using hb
      rcases Nat.lt_or_ge k i with hl | hl
      · exact ih (k + 1) h i (by omega) (by omega)
      · obtain rfl : i = k := by omega
        exact hk
theorem unl_zero {b : Bool} {e : Int} (he : e ≠ 0) (h : M.unl b e = 0) : b = true := by
  cases b with
  | true => rfl
  | false => exact absurd h he
theorem within_iff {n lo hi : Int} : M.within n lo hi = true ↔ lo ≤ n ∧ n ≤ hi := by
  unfold M.within; rw [Bool.and_eq_true, decide_eq_true_eq, decide_eq_true_eq]
theorem sys_right {sc : List Scale} {nw : Int} (h : (M.checkSys sc nw).2 = 0) : 0 < sc.length ∧ sc.length ≤ 4 ∧ (0 ≤ nw ∧ nw ≤ 100000) ∧ ∀ k, k < sc.length → M.scaleErr (sc.getD k dfS) = 0 := by
  unfold M.checkSys at h
  cases hb : (M.sysErr0 sc nw != 0) with
  | true =>
    rw [hb] at h
    have h : M.sysErr0 sc nw = 0 := h
    rw [h] at hb; cases hb
  | false =>
    rw [hb] at h
    have h0 : M.sysErr0 sc nw = 0 := by simpa using hb
    unfold M.sysErr0 at h0
    rw [first_of] at h0
    split at h0
    · rename_i a
      rw [first_of] at h0
      split at h0
      · rename_i b
        rw [first_of] at h0
        split at h0
        · rename_i c
          have a := of_decide_eq_true (unl_zero (by decide) a)
          have b := of_decide_eq_true (unl_zero (by decide) b)
          have c := within_iff.1 (unl_zero (by decide) c)
          exact ⟨by omega, by omega, c, fun k hk => bad_zero _ _ h k (by omega) (by omega)⟩
        · rename_i c; exact absurd h0 c
      · rename_i b; exact absurd h0 b
    · rename_i a; exact absurd h0 a
end Go.Pl
end

section
set_option linter.unusedVariables false
set_option linter.unusedSimpArgs false
set_option maxRecDepth 100000
namespace Go.Pl
open Go.V Go.Proofs
def val : List Int → Int
  | [] => 0
  | d :: l => d + (1000000000 : Int) * val l
def Dg (l : List Int) : Prop := ∀ x, x ∈ l → 0 ≤ x ∧ x < (1000000000 : Int)
def digN : Nat → Int → List Int
  | 0, _ => []
  | n + 1, z => z % (1000000000 : Int) :: digN n (z / (1000000000 : Int))
def bp : Nat → Int
  | 0 => 1
  | n + 1 => (1000000000 : Int) * bp n
theorem bp_pos : ∀ n, 0 < bp n
  | 0 => by decide
  | n + 1 => Int.mul_pos (by decide) (bp_pos n)
theorem bp_succ (n : Nat) : bp (n + 1) = (1000000000 : Int) * bp n := rfl
theorem digN_len : ∀ (n : Nat) (z : Int), (digN n z).length = n
  | 0, _ => rfl
  | n + 1, z => by simp [digN, digN_len n]
theorem digN_dg : ∀ (n : Nat) (z : Int), Dg (digN n z)
  | 0, _ => fun x hx => by cases hx
  | n + 1, z => fun x hx => by
    rcases List.mem_cons.1 hx with rfl | hx
    · exact ⟨Int.emod_nonneg _ (by decide), Int.emod_lt_of_pos _ (by decide)⟩
    · exact digN_dg n _ x hx
theorem val_digN : ∀ (n : Nat) (z : Int), 0 ≤ z → z < bp n → val (digN n z) = z
  | 0, z, h0, h1 => by
    have : z < 1 := h1
    show (0 : Int) = z
    omega
  | n + 1, z, h0, h1 => by
    have h2 : z / (1000000000 : Int) < bp n := (Int.ediv_lt_iff_lt_mul (by decide)).2 (by rw [Int.mul_comm]; exact h1)
    have h3 := val_digN n (z / (1000000000 : Int)) (Int.ediv_nonneg h0 (by decide)) h2
    show z % (1000000000 : Int) + (1000000000 : Int) * val (digN n (z / (1000000000 : Int))) = z
    rw [h3]
    exact Int.emod_add_mul_ediv z (1000000000 : Int)
theorem val_bnd : ∀ {l : List Int}, Dg l → 0 ≤ val l ∧ val l < bp l.length := by
  intro l
  induction l with
  | nil => intro _; exact ⟨Int.le_refl _, by decide⟩
  | cons d l ih =>
    intro h
    obtain ⟨i1, i2⟩ := ih fun x hx => h x (List.mem_cons_of_mem _ hx)
    have hd := h d (List.mem_cons_self ..)
    show 0 ≤ d + (1000000000 : Int) * val l ∧ d + (1000000000 : Int) * val l < (1000000000 : Int) * bp l.length
    omega
theorem dg_uniq : ∀ {l : List Int}, Dg l → l = digN l.length (val l) := by
  intro l
  induction l with
  | nil => intro _; rfl
  | cons d l ih =>
    intro h
    have hd := h d (List.mem_cons_self ..)
    have hl : Dg l := fun x hx => h x (List.mem_cons_of_mem _ hx)
    have e1 : (d + (1000000000 : Int) * val l) % (1000000000 : Int) = d := by omega
    have e2 : (d + (1000000000 : Int) * val l) / (1000000000 : Int) = val l := by omega
    show d :: l = (d + (1000000000 : Int) * val l) % (1000000000 : Int) :: digN l.length ((d + (1000000000 : Int) * val l) / (1000000000 : Int))
    rw [e1, e2, ← ih hl]
def ndig : Nat → Nat → Nat
  | 0, _ => 0
  | f + 1, n => match n with | 0 => 0 | m + 1 => 1 + ndig f ((m + 1) / 1000000000)
theorem ndig_fuel : ∀ (f g n : Nat), n ≤ f → n ≤ g → ndig f n = ndig g n := by
  intro f
  induction f with
  | zero =>
    intro g n h1 _
    obtain rfl : n = 0 := by omega
    cases g <;> rfl
  | succ f ih =>
    intro g n h1 h2
    cases n with
    | zero => cases g <;> rfl
    | succ m =>
      cases g with
      | zero => omega
      | succ g =>
        have h3 : (m + 1) / 1000000000 ≤ m := by omega
        simp only [ndig]
        rw [ih g _ (by omega) (by omega)]
namespace M
def nd (z : Int) : Nat := ndig z.toNat z.toNat
def dig (z : Int) : List Int := digN (nd z) z
def sgn (z : Int) : Int := if z < 0 then -1 else if z = 0 then 0 else 1
end M
theorem nd_step {z : Int} (h : 0 < z) : M.nd z = M.nd (z / (1000000000 : Int)) + 1 := by
  obtain ⟨n, rfl⟩ := Int.eq_ofNat_of_zero_le (Int.le_of_lt h)
  have e : ((n : Int) / (1000000000 : Int)).toNat = n / 1000000000 := by omega
  unfold M.nd
  rw [e, Int.toNat_natCast]
  cases n with
  | zero => omega
  | succ m =>
    simp only [ndig]
    rw [ndig_fuel m ((m + 1) / 1000000000) ((m + 1) / 1000000000) (by omega) (Nat.le_refl _)]
    omega
theorem dig_step {z : Int} (h : 0 < z) : M.dig z = z % (1000000000 : Int) :: M.dig (z / (1000000000 : Int)) := by
  unfold M.dig
  rw [nd_step h]; rfl
theorem nd_bnd : ∀ (n : Nat) (z : Int), z.toNat = n → 0 ≤ z → z < bp (M.nd z) := by
  intro n
  induction n using Nat.strongRecOn with
  | _ n ih =>
    intro z hn h0
    rcases Int.lt_or_le 0 z with h | h
    · have h1 := ih (z / (1000000000 : Int)).toNat (by omega) (z / (1000000000 : Int)) rfl (by omega)
      rw [nd_step h, bp_succ]
      omega
    · obtain rfl : z = 0 := by omega
      decide
theorem nd_le : ∀ (n : Nat) {z : Int}, 0 ≤ z → z < bp n → M.nd z ≤ n := by
  intro n
  induction n with
  | zero =>
    intro z h0 h1
    have h1 : z < 1 := h1
    obtain rfl : z = 0 := by omega
    exact Nat.le_refl _
  | succ n ih =>
    intro z h0 h1
    rcases Int.lt_or_le 0 z with h | h
    · rw [nd_step h]
      have := ih (z := z / (1000000000 : Int)) (by omega) (by rw [bp_succ] at h1; omega)
      omega
    · obtain rfl : z = 0 := by omega
      exact Nat.zero_le _
theorem dig_dg (z : Int) : Dg (M.dig z) := digN_dg _ _
theorem val_dig {z : Int} (h : 0 ≤ z) : val (M.dig z) = z := val_digN _ _ h (nd_bnd _ z rfl h)
theorem dig_len (z : Int) : (M.dig z).length = M.nd z := digN_len _ _
theorem val_append : ∀ {l k : List Int}, val (l ++ k) = val l + bp l.length * val k := by
  intro l
  induction l with
  | nil => intro k; show val k = 0 + 1 * val k; omega
  | cons d l ih =>
    intro k
    show d + (1000000000 : Int) * val (l ++ k) = d + (1000000000 : Int) * val l + (1000000000 : Int) * bp l.length * val k
    rw [ih, Int.mul_add, ← Int.mul_assoc]; omega
theorem can_of : ∀ {l : List Int}, Dg l → (∀ x, l.getLast? = some x → x ≠ 0) → l = M.dig (val l) := by
  intro l
  induction l with
  | nil => intro _ _; rfl
  | cons d l ih =>
    intro h hl
    have hd := h d (List.mem_cons_self ..)
    have hdl : Dg l := fun x hx => h x (List.mem_cons_of_mem _ hx)
    have hv := (val_bnd hdl).1
    cases l with
    | nil =>
      have hne := hl d rfl
      have : val [d] = d := by show d + (1000000000 : Int) * 0 = d; omega
      rw [this, dig_step (by omega)]
      have e1 : d % (1000000000 : Int) = d := by omega
      have e2 : d / (1000000000 : Int) = 0 := by omega
      rw [e1, e2]; rfl
    | cons e l =>
      have i := ih hdl (fun x hx => hl x (by simpa using hx))
      have hpos : 0 < val (e :: l) := by
        rcases Int.lt_or_le 0 (val (e :: l)) with h0 | h0
        · exact h0
        · have : val (e :: l) = 0 := by omega
          rw [this] at i; cases i
      have hvd : val (d :: e :: l) = d + (1000000000 : Int) * val (e :: l) := rfl
      have hp2 : 0 < val (d :: e :: l) := by rw [hvd]; omega
      rw [dig_step hp2, hvd]
      have e1 : (d + (1000000000 : Int) * val (e :: l)) % (1000000000 : Int) = d := by omega
      have e2 : (d + (1000000000 : Int) * val (e :: l)) / (1000000000 : Int) = val (e :: l) := by omega
      rw [e1, e2, ← i]
theorem mk_val (z : Int) : M.sgn z * val (M.dig z.natAbs) = z := by
  rw [val_dig (show (0 : Int) ≤ (z.natAbs : Int) by omega)]
  unfold M.sgn
  split
  · omega
  · split
    · omega
    · omega
def Can (s : Int) (l : List Int) : Prop := ∃ z : Int, s = M.sgn z ∧ l = M.dig z.natAbs
namespace M
def wv (s : Int) (l : List Int) : Int := s * val l
end M
theorem can_mk (z : Int) : Can (M.sgn z) (M.dig z.natAbs) := ⟨z, rfl, rfl⟩
theorem can_wv {s : Int} {l : List Int} (h : Can s l) : s = M.sgn (M.wv s l) ∧ l = M.dig (M.wv s l).natAbs := by
  obtain ⟨z, rfl, rfl⟩ := h
  unfold M.wv
  rw [mk_val]
  exact ⟨rfl, rfl⟩
theorem can_abs {s : Int} {l : List Int} (h : Can s l) : val l = (M.wv s l).natAbs ∧ l = M.dig (val l) ∧ Dg l := by
  obtain ⟨z, rfl, rfl⟩ := h
  have hv : val (M.dig (z.natAbs : Int)) = z.natAbs := val_dig (by omega)
  unfold M.wv
  rw [mk_val]
  exact ⟨hv, by rw [hv], dig_dg _⟩
end Go.Pl
end

section
set_option linter.unusedVariables false
set_option linter.unusedSimpArgs false
set_option maxRecDepth 100000
namespace Go.Pl
open Go.V Go.Proofs
namespace M
def drawsErr (dr : List Int) : Int := (badFrom (fun k => drawErr (dr.getD k 0)) dr.length 0).2
def yrows (sc : List Scale) (nw : Int) (dr : List Int) : Nat → Nat → List (List Rg) → List (List Rg) × Int
  | 0, _, acc => (acc, 0)
  | m + 1, k, acc => cond (decide (over sc (flows sc (dr.getD k 0)) ≥ 0)) ([], 16) (yrows sc nw dr m (k + 1) (acc ++ [year sc nw (acc.getD k []) (flows sc (dr.getD k 0))]))
def years0 (sc : List Scale) (nw : Int) (ag : List Rg) (dr : List Int) : List (List Rg) × Int := cond (drawsErr dr != 0) ([], drawsErr dr) (yrows sc nw dr dr.length 0 [ag])
def years1 (sc : List Scale) (nw : Int) (ag : List Rg) (dr : List Int) : List (List Rg) × Int := cond (first [agesErr sc.length ag, unl (decide ((dr.length : Int) ≤ 30)) 8] != 0) ([], first [agesErr sc.length ag, unl (decide ((dr.length : Int) ≤ 30)) 8]) (years0 sc nw ag dr)
def years (sc : List Scale) (nw : Int) (ag : List Rg) (dr : List Int) : List (List Rg) × Int := cond ((checkSys sc nw).2 != 0) ([], (checkSys sc nw).2) (years1 sc nw ag dr)
end M
end Go.Pl
end

section
set_option linter.unusedVariables false
set_option linter.unusedSimpArgs false
set_option maxRecDepth 100000
namespace Go.Pl
open Go.V Go.Proofs
namespace M
def after (sc : List Scale) (nw : Int) (ag : List Rg) (dr : List Int) : List Rg × Int := cond ((years sc nw ag dr).2 != 0) ([], (years sc nw ag dr).2) ((years sc nw ag dr).1.getD dr.length [], 0)
end M
theorem getD_mem {α : Type} {l : List α} {i : Nat} {d : α} (h : i < l.length) : l.getD i d ∈ l := by
  rw [List.getD_eq_getElem?_getD, List.getElem?_eq_getElem h]; exact List.getElem_mem h
abbrev resA (x : List Rg × Int) : List Ar := [.c (dR x.1), rI x.2]
end Go.Pl
end

section
set_option linter.unusedVariables false
set_option linter.unusedSimpArgs false
set_option maxRecDepth 100000
namespace Go.Pl
open Go.V Go.Proofs
theorem draw_ok {d : Int} (h : 0 ≤ d ∧ d ≤ 20000) : M.drawErr d = 0 := by
  unfold M.drawErr; rw [within_iff.2 h]; rfl
end Go.Pl
end

section
set_option linter.unusedVariables false
set_option linter.unusedSimpArgs false
set_option maxRecDepth 100000
namespace Go.Pl
open Go.V Go.Proofs
def tr148 (n b : Int) : T (List Ar) :=
    T.need (b ≠ (0 : Int)) (T.need (b ≠ (0 : Int)) (T.br (decide (Int.tmod n b < (0 : Int))) (T.ret [Ar.c (D.int IntKind.i64 (IntKind.i64.wrap (IntKind.i64.wrap (Int.tdiv n b) - (1 : Int))))]) (T.ret [Ar.c (D.int IntKind.i64 (IntKind.i64.wrap (Int.tdiv n b)))])))
theorem t148 (n b : Int) : runFnX Try.prog G0 (lookS []) (fun _ => []) [] 1 60 4 148 Try.f148 [.c (dI n), .c (dI b)] =
    tr148 n b := by kernel_rfl
theorem w148 (n b : Int) (h : b ≠ 0) : (tr148 n b).wp (fun rs => rsEqv rs [rI (M.floorW n b)]) := by
  unfold tr148
  refine ⟨h, h, wp_br (fun hb => ?_) (fun hb => ?_)⟩
  all_goals (refine rI_eqv' ?_; unfold M.floorW; rw [hb]; rfl)
namespace M
end M
def dom148 : DomF
  | [.c (.int .i64 n), .c (.int .i64 b)] => some ([b ≠ 0], [rI (M.floorW n b)])
  | _ => none
def v148 : Nat × Sm := (148, fokSm dom148)
theorem C148 : FOK Try.prog G0 gw 148 dom148 := by
  intro ags p r hd hp κ w xs hw hl hG hx
  unfold dom148 at hd
  split at hd
  · rename_i n b
    simp only [Option.some.injEq, Prod.mk.injEq] at hd
    obtain ⟨rfl, rfl⟩ := hd
    have heq : agsEqv [.c (.int .i64 n), .c (.int .i64 b)] [.c (.int .i64 n), .c (.int .i64 b)] := ⟨Ag.eqv_refl _, Ag.eqv_refl _, trivial⟩
    exact fokX_fin mixed gw_stable (sl := []) trivial Try.func148 hw hl hG hx heq rfl (t148 _ _) (w148 _ _ hp.1)
  · cases hd
theorem S148 : SumOK Try.prog G0 gw 148 (fokSm dom148) := fok_sum Try.func148 rfl C148
theorem t97 (n b : Int) : runFnX Try.prog G0 (lookS [v148]) (fun _ => []) [] 1 60 4 97 Try.f97 [.c (dI n), .c (dI b)] = T.need (b ≠ 0) (T.ret [rI (M.ceilW n b)]) := by kernel_rfl
def dom97 : DomF
  | [.c (.int .i64 n), .c (.int .i64 b)] => some ([b ≠ 0], [rI (M.ceilW n b)])
  | _ => none
def v97 : Nat × Sm := (97, fokSm dom97)
theorem C97 : FOK Try.prog G0 gw 97 dom97 := by
  intro ags p r hd hp κ w xs hw hl hG hx
  unfold dom97 at hd
  split at hd
  · rename_i n b
    simp only [Option.some.injEq, Prod.mk.injEq] at hd
    obtain ⟨rfl, rfl⟩ := hd
    have heq : agsEqv [.c (.int .i64 n), .c (.int .i64 b)] [.c (.int .i64 n), .c (.int .i64 b)] := ⟨Ag.eqv_refl _, Ag.eqv_refl _, trivial⟩
    exact fokX_fin mixed gw_stable (sl := [v148]) ⟨S148, trivial⟩ Try.func97 hw hl hG hx heq rfl (t97 _ _) (⟨hp.1, rsEqv_refl _⟩)
  · cases hd
theorem S97 : SumOK Try.prog G0 gw 97 (fokSm dom97) := fok_sum Try.func97 rfl C97
def dom39 : DomF
  | [.c (.sl _ n_a st_a F_a), .c (.sl _ n_b st_b F_b)] => (match Nat.beq st_a 2 && Nat.beq st_b 2 with
    | true => some ([eRg.Is n_a F_a, eRg.Is n_b F_b, (eRg.list n_a F_a) = (eRg.list n_b F_b), (eRg.list n_a F_a).length ≤ 100000], [rB true])
    | _ => none)
  | _ => none
def v39 : Nat × Sm := (39, fokSm dom39)
end Go.Pl
end

section
set_option linter.unusedVariables false
set_option linter.unusedSimpArgs false
set_option maxRecDepth 100000
namespace Go.Pl
open Go.V Go.Proofs
namespace M
end M
end Go.Pl
end

section
set_option linter.unusedVariables false
set_option linter.unusedSimpArgs false
set_option maxRecDepth 100000
namespace Go.Pl
open Go.V Go.Proofs
namespace M
end M
end Go.Pl
end

section
set_option linter.unusedVariables false
set_option linter.unusedSimpArgs false
set_option maxRecDepth 100000
namespace Go.Pl
open Go.V Go.Proofs
end Go.Pl
end

section
set_option linter.unusedVariables false
set_option linter.unusedSimpArgs false
set_option maxRecDepth 100000
namespace Go.Pl
open Go.V Go.Proofs
theorem br_t {α : Type} {b : Bool} {x y : T α} {Q : α → Prop} (h : b = true) (hx : x.wp Q) : (T.br b x y).wp Q := wp_br (fun _ => hx) (fun h' => by rw [h] at h'; cases h')
theorem br_f {α : Type} {b : Bool} {x y : T α} {Q : α → Prop} (h : b = false) (hy : y.wp Q) : (T.br b x y).wp Q := wp_br (fun h' => by rw [h] at h'; cases h') (fun _ => hy)
abbrev cI (dr : List Int) : List Int := Enc.list eI (List.length dr) (Enc.F eI dr)
abbrev iI (dr : List Int) : Prop := Enc.Is eI (List.length dr) (Enc.F eI dr)
end Go.Pl
end

section
set_option linter.unusedVariables false
set_option linter.unusedSimpArgs false
set_option maxRecDepth 100000
namespace Go.Pl
open Go.V Go.Proofs
namespace M
end M
theorem idx_none {p : Nat → Bool} : ∀ (n k : Nat), M.firstIdx p n k < 0 → ∀ i, k ≤ i → i < k + n → p i = false := by
  intro n
  induction n with
  | zero => intro k _ i h1 h2; omega
  | succ n ih =>
    intro k h i h1 h2
    simp only [M.firstIdx] at h
    cases hp : p k with
    | true => rw [hp] at h; have h : (k : Int) < 0 := h; omega
    | false =>
      rw [hp] at h
      rcases Nat.lt_or_ge k i with hl | hl
      · exact ih (k + 1) h i (by omega) (by omega)
      · obtain rfl : i = k := by omega
        exact hp
end Go.Pl
end

section
set_option linter.unusedVariables false
set_option linter.unusedSimpArgs false
set_option maxRecDepth 100000
namespace Go.Pl
open Go.V Go.Proofs
end Go.Pl
end

section
set_option linter.unusedVariables false
set_option linter.unusedSimpArgs false
set_option maxRecDepth 100000
namespace Go.Pl
open Go.V Go.Proofs
end Go.Pl
end

section
set_option linter.unusedVariables false
set_option linter.unusedSimpArgs false
set_option maxRecDepth 100000
namespace Go.Pl
open Go.V Go.Proofs
end Go.Pl
end

section
set_option linter.unusedVariables false
set_option linter.unusedSimpArgs false
set_option maxRecDepth 100000
namespace Go.Pl
open Go.V Go.Proofs
end Go.Pl
end

section
set_option linter.unusedVariables false
set_option linter.unusedSimpArgs false
set_option maxRecDepth 100000
namespace Go.Pl
open Go.V Go.Proofs
namespace M
end M
end Go.Pl
end

section
set_option linter.unusedVariables false
set_option linter.unusedSimpArgs false
set_option maxRecDepth 100000
namespace Go.Pl
open Go.V Go.Proofs
theorem _root_.Go.V.Enc.toz {α : Type} (E : Enc α) {q : Bool} {n s : Nat} {F : Nat → Nat → D} (h : (Nat.beq s E.st || Nat.beq n 0) = true) (hI : E.Is n F) : (D.sl q n s F).eqv (.sl q (E.list n F).length E.st (E.F (E.list n F))) := by
  rcases Bool.or_eq_true _ _ ▸ h with h | h
  · have h := Nat.eq_of_beq_eq_true h
    subst h
    exact E.to id hI
  · have h := Nat.eq_of_beq_eq_true h
    subst h
    exact ⟨id, rfl, fun h => absurd h (Nat.lt_irrefl 0), fun i j hi _ => absurd hi (Nat.not_lt_zero i)⟩
namespace M
end M
theorem firstIdx_none {p : Nat → Bool} : ∀ (n k : Nat), (∀ i, k ≤ i → i < k + n → p i = false) → M.firstIdx p n k < 0 := by
  intro n
  induction n with
  | zero => intro k _; show (-1 : Int) < 0; decide
  | succ n ih =>
    intro k h
    simp only [M.firstIdx]
    rw [h k (Nat.le_refl _) (by omega)]
    exact ih (k + 1) (fun i h1 h2 => h i (by omega) (by omega))
end Go.Pl
end

section
set_option linter.unusedVariables false
set_option linter.unusedSimpArgs false
set_option maxRecDepth 100000
namespace Go.Pl
open Go.V Go.Proofs
namespace M
end M
end Go.Pl
end

section
set_option linter.unusedVariables false
set_option linter.unusedSimpArgs false
set_option maxRecDepth 100000
namespace Go.Pl
open Go.V Go.Proofs
end Go.Pl
end

section
set_option linter.unusedVariables false
set_option linter.unusedSimpArgs false
set_option maxRecDepth 100000
namespace Go.Pl
open Go.V Go.Proofs
namespace M
def room (d : Dem) (den : Int) (pa : List Int) : Int := IntKind.i64.wrap (IntKind.i64.wrap (d.am * den) - dot d.co pa)
end M
end Go.Pl
end

section
set_option linter.unusedVariables false
set_option linter.unusedSimpArgs false
set_option maxRecDepth 100000
namespace Go.Pl
open Go.V Go.Proofs
namespace M
def zeroR (de : List Dem) (den : Int) (pa : List Int) (k : Nat) : Bool := room (de.getD k dfD) den pa == 0
def bindK (z : Nat → Bool) (k : Nat) : List Int := ((List.range k).filter z).map (fun i : Nat => (i : Int))
def binds (de : List Dem) (den : Int) (pa : List Int) : List Int := bindK (zeroR de den pa) de.length
end M
abbrev inQ (n : Int) : Nat → Nat → D := fun (i j : Nat) => List.getD [D.int IntKind.i64 n] (i * 1 + j) D.nilp
theorem inQ_push {n : Int} : (∀ j, j < eI.st → (inQ n 0 j).eqv (eI.enc n j)) ∧ eI.rd (inQ n 0) = n := by
  refine ⟨fun j hj => ?_, rfl⟩
  obtain rfl : j = 0 := Nat.lt_one_iff.1 hj
  exact D.eqv_refl _
end Go.Pl
end

section
set_option linter.unusedVariables false
set_option linter.unusedSimpArgs false
set_option maxRecDepth 100000
namespace Go.Pl
open Go.V Go.Proofs
theorem val_zero : ∀ {l : List Int}, (∀ x, x ∈ l → x = 0) → val l = 0 := by
  intro l
  induction l with
  | nil => intro _; rfl
  | cons d l ih =>
    intro h
    have h1 := h d (List.mem_cons_self ..)
    have h2 := ih fun x hx => h x (List.mem_cons_of_mem _ hx)
    show d + 1000000000 * val l = 0
    rw [h1, h2]; omega
theorem dg_take {l : List Int} (h : Dg l) (k : Nat) : Dg (l.take k) := fun x hx => h x (List.mem_of_mem_take hx)
theorem dg_at {l : List Int} (h : Dg l) (i : Nat) : 0 ≤ l.getD i 0 ∧ l.getD i 0 < 1000000000 := by
  rcases Nat.lt_or_ge i l.length with hi | hi
  · exact h _ (getD_mem hi)
  · rw [List.getD_eq_getElem?_getD, List.getElem?_eq_none hi]; exact ⟨Int.le_refl _, by decide⟩
theorem val_split (l : List Int) (k : Nat) (hk : k ≤ l.length) : val l = val (l.take k) + bp k * val (l.drop k) := by
  conv => lhs; rw [← List.take_append_drop k l]
  rw [val_append, List.length_take, Nat.min_eq_left hk]
theorem trim_end {l : List Int} (hd : Dg l) {k : Nat} (hk : k ≤ l.length) (hz : ∀ i, k ≤ i → i < l.length → l.getD i 0 = 0) (hl : k = 0 ∨ l.getD (k - 1) 0 ≠ 0) : l.take k = M.dig (val l) := by
  have hv : val l = val (l.take k) := by
    rw [val_split l k hk, val_zero (l := l.drop k) ?_, Int.mul_zero, Int.add_zero]
    intro x hx
    obtain ⟨i, hi, rfl⟩ := List.getElem_of_mem hx
    have hi' : i < l.length - k := by simpa using hi
    have := hz (k + i) (by omega) (by omega)
    rw [List.getElem_drop]
    rw [List.getD_eq_getElem?_getD, List.getElem?_eq_getElem (by omega)] at this
    exact this
  rw [hv]
  refine can_of (dg_take hd k) fun x hx => ?_
  rw [List.getLast?_eq_getElem?, List.length_take, Nat.min_eq_left hk] at hx
  rcases hl with rfl | hl
  · simp at hx
  · rcases Nat.eq_zero_or_pos k with rfl | hp
    · simp at hx
    · rw [List.getElem?_take, if_pos (by omega)] at hx
      rw [List.getD_eq_getElem?_getD, hx] at hl
      exact hl
theorem sl_take {l m : List Int} {k : Nat} (h : l.take k = m) (hk : k ≤ l.length) (q : Bool) {F : Nat → Nat → D} (hF : ∀ i j, F i j = eI.F l i j) : (D.sl q k 1 F).eqv (.sl false m.length 1 (eI.F m)) := by
  subst h
  refine ⟨(fun e => by cases e), by rw [List.length_take, Nat.min_eq_left hk], fun _ => rfl, fun i j hi hj => ?_⟩
  rw [hF]
  have : (l.take k).getD i 0 = l.getD i 0 := by
    simp only [List.getD_eq_getElem?_getD, List.getElem?_take, if_pos hi]
  show (dI (l.getD i 0)).eqv (dI ((l.take k).getD i 0))
  rw [this]; exact D.eqv_refl _
namespace M
def cmp3 (x y : Int) : Int := if x < y then -1 else if x = y then 0 else 1
end M
def tr162 (q_l : Bool) (l : List Int) : T (List Ar) :=
    T.loop (Int × PUnit) ((Nat.cast (R := Int) (List.length l)), PUnit.unit) fun (x : Int × PUnit) => T.br (decide (Prod.fst x > (0 : Int))) (T.need ((0 : Int) ≤ IntKind.i64.wrap (Prod.fst x - (1 : Int))) (T.need (IntKind.i64.wrap (Prod.fst x - (1 : Int)) < (Nat.cast (R := Int) (List.length l))) (T.br (List.getD l (Int.toNat (IntKind.i64.wrap (Prod.fst x - (1 : Int)))) (0 : Int) == (0 : Int)) (T.ret (Sum.inl (IntKind.i64.wrap (Prod.fst x - (1 : Int)), PUnit.unit))) (T.need ((0 : Int) ≤ (0 : Int)) (T.need ((0 : Int) ≤ Prod.fst x) (T.need (Prod.fst x ≤ (Nat.cast (R := Int) (List.length l))) (T.ret (Sum.inr [Ar.c (D.sl false (Int.toNat (Prod.fst x - (0 : Int))) (1 : Nat) fun (i j : Nat) => Enc.F eI l ((0 : Nat) + i) j)])))))))) (T.need ((0 : Int) ≤ (0 : Int)) (T.need ((0 : Int) ≤ Prod.fst x) (T.need (Prod.fst x ≤ (Nat.cast (R := Int) (List.length l))) (T.ret (Sum.inr [Ar.c (D.sl false (Int.toNat (Prod.fst x - (0 : Int))) (1 : Nat) fun (i j : Nat) => Enc.F eI l ((0 : Nat) + i) j)])))))
theorem t162 (q_l : Bool) (l : List Int) : runFnX Try.prog G0 (lookS []) (fun _ => [(2, [.slot 3 (.int .i64)], none)]) [] 1 60 4 162 Try.f162 [.c (.sl q_l l.length 1 (eI.F l))] =
    tr162 q_l l := by kernel_rfl
theorem w162 (q : Bool) (l : List Int) (hd : Dg l) (hl : l.length ≤ 1000000) : (tr162 q l).wp (fun rs => rsEqv rs [.c (.sl false (M.dig (val l)).length 1 (eI.F (M.dig (val l))))]) := by
  unfold tr162
  refine ⟨fun x => ∃ k : Nat, x.1 = k ∧ k ≤ l.length ∧ ∀ i, k ≤ i → i < l.length → l.getD i 0 = 0, fun x => x.1.toNat, ⟨l.length, rfl, Nat.le_refl _, fun i h1 h2 => by omega⟩, ?_⟩
  rintro ⟨y, u⟩ ⟨k, hy, hk, hz⟩
  have hy : y = (k : Int) := hy
  subst hy
  have fin : (k = 0 ∨ l.getD (k - 1) 0 ≠ 0) → rsEqv [Ar.c (D.sl false (Int.toNat ((k : Int) - (0 : Int))) (1 : Nat) fun (i j : Nat) => Enc.F eI l ((0 : Nat) + i) j)] [.c (.sl false (M.dig (val l)).length 1 (eI.F (M.dig (val l))))] := by
    intro h
    rw [show Int.toNat ((k : Int) - 0) = k by omega]
    exact ⟨sl_take (trim_end hd hk hz h) hk false (fun i j => by rw [Nat.zero_add]), trivial⟩
  refine wp_br (fun hb => ?_) (fun hb => ?_)
  · have hb : (k : Int) > 0 := of_decide_eq_true hb
    have e : IntKind.i64.wrap ((k : Int) - 1) = ((k - 1 : Nat) : Int) := by rw [wrap_id (by omega) (by omega)]; omega
    dsimp only
    rw [e, Int.toNat_natCast]
    refine ⟨by omega, by omega, wp_br (fun hx => ?_) (fun hx => ?_)⟩
    · have hx : l.getD (k - 1) 0 = 0 := by simpa using hx
      refine ⟨⟨k - 1, rfl, by omega, fun i h1 h2 => ?_⟩, ?_⟩
      · by_cases h : i = k - 1
        · subst h; exact hx
        · exact hz i (by omega) h2
      · show ((k - 1 : Nat) : Int).toNat < (k : Int).toNat
        omega
    · have hx : ¬ l.getD (k - 1) 0 = 0 := by simpa using hx
      exact ⟨by omega, by omega, by omega, fin (.inr hx)⟩
  · have hb : ¬ (k : Int) > 0 := of_decide_eq_false hb
    exact ⟨by omega, by dsimp only; omega, by dsimp only; omega, fin (.inl (by omega))⟩
def dom162 : DomF
  | [.c (.sl _ n_l st_l F_l)] => (match (Nat.beq st_l 1 || Nat.beq n_l 0) with
    | true => some ([eI.Is n_l F_l, Dg (eI.list n_l F_l), (eI.list n_l F_l).length ≤ 1000000], [.c (.sl false (M.dig (val (eI.list n_l F_l))).length 1 (eI.F (M.dig (val (eI.list n_l F_l)))))])
    | _ => none)
  | _ => none
def v162 : Nat × Sm := (162, fokSm dom162)
theorem C162 : FOK Try.prog G0 gw 162 dom162 := by
  intro ags p r hd hp κ w xs hw hl hG hx
  unfold dom162 at hd
  split at hd
  · rename_i q_l n_l st_l F_l
    split at hd
    · rename_i hst
      have g1 := hst
      simp only [Option.some.injEq, Prod.mk.injEq] at hd
      obtain ⟨rfl, rfl⟩ := hd
      obtain ⟨hI_l, hp⟩ := hp
      have heq : agsEqv [.c (.sl q_l n_l st_l F_l)] [.c (.sl q_l (eI.list n_l F_l).length 1 (eI.F (eI.list n_l F_l)))] := ⟨eI.toz g1 hI_l, trivial⟩
      have len_l : (eI.list n_l F_l).length = n_l := eI.list_len
      generalize eI.list n_l F_l = l at *
      subst len_l
      exact fokX_fin mixed gw_stable (sl := []) trivial Try.func162 hw hl hG hx heq rfl (t162 _ _) (w162 _ _ hp.1 hp.2.1)
    · cases hd
  · cases hd
theorem S162 : SumOK Try.prog G0 gw 162 (fokSm dom162) := fok_sum Try.func162 rfl C162
def tr187 (q_l : Bool) (l : List Int) (i : Int) : T (List Ar) :=
    T.br (decide (i < (Nat.cast (R := Int) (List.length l)))) (T.need ((0 : Int) ≤ i) (T.need (i < (Nat.cast (R := Int) (List.length l))) (T.ret [Ar.c (D.int IntKind.i64 (List.getD l (Int.toNat i) (0 : Int)))]))) (T.ret [Ar.c (D.int IntKind.i64 (0 : Int))])
theorem t187 (q_l : Bool) (l : List Int) (i : Int) : runFnX Try.prog G0 (lookS []) (fun _ => []) [] 1 60 4 187 Try.f187 [.c (.sl q_l l.length 1 (eI.F l)), .c (dI i)] =
    tr187 q_l l i := by kernel_rfl
theorem w187 (q : Bool) (l : List Int) (i : Int) (h0 : 0 ≤ i) : (tr187 q l i).wp (fun rs => rsEqv rs [rI (l.getD i.toNat 0)]) := by
  unfold tr187
  refine wp_br (fun hb => ⟨h0, of_decide_eq_true hb, rsEqv_refl _⟩) (fun hb => ?_)
  have hb : ¬ i < (l.length : Int) := of_decide_eq_false hb
  rw [List.getD_eq_getElem?_getD, List.getElem?_eq_none (by omega)]; exact rsEqv_refl _
def dom187 : DomF
  | [.c (.sl _ n_l st_l F_l), .c (.int .i64 i)] => (match (Nat.beq st_l 1 || Nat.beq n_l 0) with
    | true => some ([eI.Is n_l F_l, 0 ≤ i], [rI ((eI.list n_l F_l).getD i.toNat 0)])
    | _ => none)
  | _ => none
def v187 : Nat × Sm := (187, fokSm dom187)
theorem C187 : FOK Try.prog G0 gw 187 dom187 := by
  intro ags p r hd hp κ w xs hw hl hG hx
  unfold dom187 at hd
  split at hd
  · rename_i q_l n_l st_l F_l i
    split at hd
    · rename_i hst
      have g1 := hst
      simp only [Option.some.injEq, Prod.mk.injEq] at hd
      obtain ⟨rfl, rfl⟩ := hd
      obtain ⟨hI_l, hp⟩ := hp
      have heq : agsEqv [.c (.sl q_l n_l st_l F_l), .c (.int .i64 i)] [.c (.sl q_l (eI.list n_l F_l).length 1 (eI.F (eI.list n_l F_l))), .c (.int .i64 i)] := ⟨eI.toz g1 hI_l, Ag.eqv_refl _, trivial⟩
      have len_l : (eI.list n_l F_l).length = n_l := eI.list_len
      generalize eI.list n_l F_l = l at *
      subst len_l
      exact fokX_fin mixed gw_stable (sl := []) trivial Try.func187 hw hl hG hx heq rfl (t187 _ _ _) (w187 _ _ _ hp.1)
    · cases hd
  · cases hd
theorem S187 : SumOK Try.prog G0 gw 187 (fokSm dom187) := fok_sum Try.func187 rfl C187
theorem val_lt {a b : List Int} (ha : Dg a) (hb : Dg b) {k : Nat} (hk : k < a.length) (hl : a.length = b.length) (hdr : a.drop (k + 1) = b.drop (k + 1)) (hlt : a.getD k 0 < b.getD k 0) : val a < val b := by
  rw [val_split a k (by omega), val_split b k (by omega), getD_drop (d := 0) hk, getD_drop (d := 0) (show k < b.length by omega), hdr]
  have h1 := (val_bnd (dg_take ha k)).2
  have h2 := (val_bnd (dg_take hb k)).1
  rw [List.length_take, Nat.min_eq_left (by omega)] at h1
  show val (a.take k) + bp k * (a.getD k 0 + 1000000000 * val (b.drop (k + 1))) < val (b.take k) + bp k * (b.getD k 0 + 1000000000 * val (b.drop (k + 1)))
  have h3 : bp k * (a.getD k 0 + 1000000000 * val (b.drop (k + 1))) + bp k * 1 ≤ bp k * (b.getD k 0 + 1000000000 * val (b.drop (k + 1))) := by
    rw [← Int.mul_add]
    exact Int.mul_le_mul_of_nonneg_left (by omega) (Int.le_of_lt (bp_pos k))
  omega
theorem nd_lt {x y : Int} (hx : 0 ≤ x) (hy : 0 ≤ y) (h : M.nd x < M.nd y) : x < y := by
  rcases Int.lt_or_le x y with h1 | h1
  · exact h1
  · have := nd_le (M.nd x) hy (Int.lt_of_le_of_lt h1 (nd_bnd _ x rfl hx))
    omega
def tr163 (q_a : Bool) (a : List Int) (q_b : Bool) (b : List Int) : T (List Ar) :=
    T.br ((Nat.cast (R := Int) (List.length a)) != (Nat.cast (R := Int) (List.length b))) (T.br (decide ((Nat.cast (R := Int) (List.length a)) < (Nat.cast (R := Int) (List.length b)))) (T.ret [Ar.c (D.int IntKind.i64 (-1 : Int))]) (T.ret [Ar.c (D.int IntKind.i64 (1 : Int))])) (T.loop (Int × PUnit) (IntKind.i64.wrap ((Nat.cast (R := Int) (List.length a)) - (1 : Int)), PUnit.unit) fun (x : Int × PUnit) => T.br (decide (Prod.fst x ≥ (0 : Int))) (T.need ((0 : Int) ≤ Prod.fst x) (T.need (Prod.fst x < (Nat.cast (R := Int) (List.length a))) (T.need ((0 : Int) ≤ Prod.fst x) (T.need (Prod.fst x < (Nat.cast (R := Int) (List.length b))) (T.br (decide (List.getD a (Int.toNat (Prod.fst x)) (0 : Int) < List.getD b (Int.toNat (Prod.fst x)) (0 : Int))) (T.ret (Sum.inr [Ar.c (D.int IntKind.i64 (-1 : Int))])) (T.need ((0 : Int) ≤ Prod.fst x) (T.need (Prod.fst x < (Nat.cast (R := Int) (List.length a))) (T.need ((0 : Int) ≤ Prod.fst x) (T.need (Prod.fst x < (Nat.cast (R := Int) (List.length b))) (T.br (decide (List.getD a (Int.toNat (Prod.fst x)) (0 : Int) > List.getD b (Int.toNat (Prod.fst x)) (0 : Int))) (T.ret (Sum.inr [Ar.c (D.int IntKind.i64 (1 : Int))])) (T.ret (Sum.inl (IntKind.i64.wrap (Prod.fst x - (1 : Int)), PUnit.unit))))))))))))) (T.ret (Sum.inr [Ar.c (D.int IntKind.i64 (0 : Int))])))
theorem t163 (q_a : Bool) (a : List Int) (q_b : Bool) (b : List Int) : runFnX Try.prog G0 (lookS []) (fun _ => [(6, [.slot 5 (.int .i64)], none)]) [] 1 60 4 163 Try.f163 [.c (.sl q_a a.length 1 (eI.F a)), .c (.sl q_b b.length 1 (eI.F b))] =
    tr163 q_a a q_b b := by kernel_rfl
theorem w163 (qa : Bool) (a : List Int) (qb : Bool) (b : List Int) (ha : Dg a) (hb : Dg b) (ca : a = M.dig (val a)) (cb : b = M.dig (val b)) (hla : a.length ≤ 1000000) : (tr163 qa a qb b).wp (fun rs => rsEqv rs [rI (M.cmp3 (val a) (val b))]) := by
  unfold tr163
  have la : a.length = M.nd (val a) := by conv => lhs; rw [ca]
                                          exact dig_len _
  have lb : b.length = M.nd (val b) := by conv => lhs; rw [cb]
                                          exact dig_len _
  have va := (val_bnd ha).1
  have vb := (val_bnd hb).1
  have lt : val a < val b → rsEqv [rI (-1)] [rI (M.cmp3 (val a) (val b))] := fun h => by unfold M.cmp3; rw [if_pos h]; exact rsEqv_refl _
  have gt : val b < val a → rsEqv [rI 1] [rI (M.cmp3 (val a) (val b))] := fun h => by unfold M.cmp3; rw [if_neg (by omega), if_neg (by omega)]; exact rsEqv_refl _
  have eq : a = b → rsEqv [rI 0] [rI (M.cmp3 (val a) (val b))] := fun h => by subst h; unfold M.cmp3; rw [if_neg (by omega), if_pos rfl]; exact rsEqv_refl _
  refine wp_br (fun h1 => wp_br (fun h2 => lt ?_) (fun h2 => gt ?_)) (fun h1 => ?_)
  · have h2 : (a.length : Int) < b.length := of_decide_eq_true h2
    exact nd_lt va vb (by omega)
  · have h2 : ¬ (a.length : Int) < b.length := of_decide_eq_false h2
    have h1 : ¬ (a.length : Int) = b.length := by simpa using h1
    exact nd_lt vb va (by omega)
  have h1 : (a.length : Int) = b.length := by simpa using h1
  have hl : a.length = b.length := by omega
  refine ⟨fun x => ∃ k : Nat, x.1 = (k : Int) - 1 ∧ k ≤ a.length ∧ a.drop k = b.drop k, fun x => (x.1 + 1).toNat, ⟨a.length, by rw [wrap_id (by omega) (by omega)], Nat.le_refl _, by rw [List.drop_length, hl, List.drop_length]⟩, ?_⟩
  rintro ⟨y, u⟩ ⟨k, hy, hk, hdr⟩
  have hy : y = (k : Int) - 1 := hy
  subst hy
  refine wp_br (fun hx => ?_) (fun hx => ?_)
  · have hx : (k : Int) - 1 ≥ 0 := of_decide_eq_true hx
    have e : ((k : Int) - 1).toNat = k - 1 := by omega
    dsimp only
    rw [e]
    have hk1 : k - 1 + 1 = k := by omega
    refine ⟨by omega, by omega, by omega, by omega, wp_br (fun h2 => lt ?_) (fun h2 => ⟨by omega, by omega, by omega, by omega, wp_br (fun h3 => gt ?_) (fun h3 => ⟨⟨k - 1, ?_, by omega, ?_⟩, ?_⟩)⟩)⟩
    · exact val_lt ha hb (k := k - 1) (by omega) hl (by rw [hk1]; exact hdr) (of_decide_eq_true h2)
    · exact val_lt hb ha (k := k - 1) (by omega) hl.symm (by rw [hk1]; exact hdr.symm) (of_decide_eq_true h3)
    · show IntKind.i64.wrap ((k : Int) - 1 - 1) = ((k - 1 : Nat) : Int) - 1
      rw [wrap_id (by omega) (by omega)]; omega
    · have h2 := of_decide_eq_false h2
      have h3 := of_decide_eq_false h3
      have he : a.getD (k - 1) 0 = b.getD (k - 1) 0 := by omega
      rw [getD_drop (d := 0) (show k - 1 < a.length by omega), getD_drop (d := 0) (show k - 1 < b.length by omega), hk1, hdr, he]
    · show (IntKind.i64.wrap ((k : Int) - 1 - 1) + 1).toNat < ((k : Int) - 1 + 1).toNat
      rw [wrap_id (by omega) (by omega)]; omega
  · have hx : ¬ (k : Int) - 1 ≥ 0 := of_decide_eq_false hx
    obtain rfl : k = 0 := by omega
    exact eq (by simpa using hdr)
def dom163 : DomF
  | [.c (.sl _ n_a st_a F_a), .c (.sl _ n_b st_b F_b)] => (match (Nat.beq st_a 1 || Nat.beq n_a 0) && (Nat.beq st_b 1 || Nat.beq n_b 0) with
    | true => some ([eI.Is n_a F_a, eI.Is n_b F_b, Dg (eI.list n_a F_a), Dg (eI.list n_b F_b), (eI.list n_a F_a) = M.dig (val (eI.list n_a F_a)), (eI.list n_b F_b) = M.dig (val (eI.list n_b F_b)), (eI.list n_a F_a).length ≤ 1000000], [rI (M.cmp3 (val (eI.list n_a F_a)) (val (eI.list n_b F_b)))])
    | _ => none)
  | _ => none
def v163 : Nat × Sm := (163, fokSm dom163)
theorem C163 : FOK Try.prog G0 gw 163 dom163 := by
  intro ags p r hd hp κ w xs hw hl hG hx
  unfold dom163 at hd
  split at hd
  · rename_i q_a n_a st_a F_a q_b n_b st_b F_b
    split at hd
    · rename_i hst
      simp only [Bool.and_eq_true] at hst
      obtain ⟨g1, g2⟩ := hst
      simp only [Option.some.injEq, Prod.mk.injEq] at hd
      obtain ⟨rfl, rfl⟩ := hd
      obtain ⟨hI_a, hI_b, hp⟩ := hp
      have heq : agsEqv [.c (.sl q_a n_a st_a F_a), .c (.sl q_b n_b st_b F_b)] [.c (.sl q_a (eI.list n_a F_a).length 1 (eI.F (eI.list n_a F_a))), .c (.sl q_b (eI.list n_b F_b).length 1 (eI.F (eI.list n_b F_b)))] := ⟨eI.toz g1 hI_a, eI.toz g2 hI_b, trivial⟩
      have len_a : (eI.list n_a F_a).length = n_a := eI.list_len
      have len_b : (eI.list n_b F_b).length = n_b := eI.list_len
      generalize eI.list n_a F_a = a at *
      generalize eI.list n_b F_b = b at *
      subst len_a len_b
      exact fokX_fin mixed gw_stable (sl := []) trivial Try.func163 hw hl hG hx heq rfl (t163 _ _ _ _) (w163 _ _ _ _ hp.1 hp.2.1 hp.2.2.1 hp.2.2.2.1 hp.2.2.2.2.1)
    · cases hd
  · cases hd
theorem S163 : SumOK Try.prog G0 gw 163 (fokSm dom163) := fok_sum Try.func163 rfl C163
end Go.Pl
end

section
set_option linter.unusedVariables false
set_option linter.unusedSimpArgs false
set_option maxRecDepth 100000
namespace Go.Pl
open Go.V Go.Proofs
theorem val_take_succ (l : List Int) (k : Nat) : val (l.take (k + 1)) = val (l.take k) + bp k * l.getD k 0 := by
  rcases Nat.lt_or_ge k l.length with h | h
  · rw [← take_push (d := 0) h, val_append, List.length_take, Nat.min_eq_left (by omega)]
    show _ = _ + bp k * (l.getD k 0)
    have : val [l.getD k 0] = l.getD k 0 := by show l.getD k 0 + 1000000000 * 0 = _; omega
    rw [this]
  · rw [List.take_of_length_le (by omega), List.take_of_length_le h, List.getD_eq_getElem?_getD, List.getElem?_eq_none h]
    simp
theorem dg_push {l : List Int} {x : Int} (h : Dg l) (hx : 0 ≤ x ∧ x < 1000000000) : Dg (l ++ [x]) := fun y hy => by
  rcases List.mem_append.1 hy with hy | hy
  · exact h y hy
  · rw [List.mem_singleton.1 hy]; exact hx
theorem val_push (l : List Int) (x : Int) : val (l ++ [x]) = val l + bp l.length * x := by
  rw [val_append]
  have : val [x] = x := by show x + 1000000000 * 0 = _; omega
  rw [this]
theorem in_1 {x : Int} : eI.Is 1 (joinF 0 (fun _ _ => D.nilp) (inQ x)) ∧ eI.list 1 (joinF 0 (fun _ _ => D.nilp) (inQ x)) = [x] := push_one eI (F := fun _ _ => .nilp) (G := inQ x) inQ_push.1 inQ_push.2
theorem in_more {l : List Int} {x : Int} : eI.Is (l.length + 1) (joinF l.length (eI.F l) (inQ x)) ∧ eI.list (l.length + 1) (joinF l.length (eI.F l) (inQ x)) = l ++ [x] := eI.push (l := l) (a := x) (G := inQ x) inQ_push.1 inQ_push.2
theorem sub_step {a b acc : List Int} {k : Nat} {w x w' : Int} (hl : acc.length = k) (hv : val acc = val (a.take k) - val (b.take k) + bp k * w) (hx : x = a.getD k 0 - b.getD k 0 - w + 1000000000 * w') :
    val (acc ++ [x]) = val (a.take (k + 1)) - val (b.take (k + 1)) + bp (k + 1) * w' := by
  rw [val_push, val_take_succ, val_take_succ, hv, hl, bp_succ, hx]
  generalize bp k = B
  grind
structure SubI (a b : List Int) (k : Nat) (w : Int) (acc : List Int) : Prop where
  len : acc.length = k
  dg : Dg acc
  w01 : w = 0 ∨ w = 1
  v : val acc = val (a.take k) - val (b.take k) + bp k * w
def tr164 (q_a : Bool) (a : List Int) (q_b : Bool) (b : List Int) : T (List Ar) :=
    T.loop2 (Int × Int × PUnit × PUnit) (Int × Int × List Int × PUnit) (Sum.inl ((0 : Int), (0 : Int), PUnit.unit, PUnit.unit)) (fun (x : Int × Int × PUnit × PUnit) => T.br (decide (Prod.fst x < (Nat.cast (R := Int) (List.length a)))) (T.need ((0 : Int) ≤ Prod.fst x) (T.need (Prod.fst x < (Nat.cast (R := Int) (List.length a))) (T.need (iI b) (T.need ((0 : Int) ≤ Prod.fst x) (T.br (decide (IntKind.i64.wrap (IntKind.i64.wrap (List.getD a (Int.toNat (Prod.fst x)) (0 : Int) - List.getD (cI b) (Int.toNat (Prod.fst x)) (0 : Int)) - Prod.fst (Prod.snd x)) < (0 : Int))) (T.need ((1 : Nat) ≤ (1000000 : Nat)) (T.need (Enc.Is eI (1 : Nat) (joinF (0 : Nat) (fun (x x_1 : Nat) => D.nilp) fun (i j : Nat) => List.getD [D.int IntKind.i64 (IntKind.i64.wrap (IntKind.i64.wrap (IntKind.i64.wrap (List.getD a (Int.toNat (Prod.fst x)) (0 : Int) - List.getD (cI b) (Int.toNat (Prod.fst x)) (0 : Int)) - Prod.fst (Prod.snd x)) + (1000000000 : Int)))] (i * (1 : Nat) + j) D.nilp)) (T.need ((1 : Nat) ≤ (1 : Nat)) (T.ret (Sum.inl (Sum.inr (IntKind.i64.wrap (Prod.fst x + (1 : Int)), (1 : Int), Enc.list eI (1 : Nat) (joinF (0 : Nat) (fun (x x_1 : Nat) => D.nilp) fun (i j : Nat) => List.getD [D.int IntKind.i64 (IntKind.i64.wrap (IntKind.i64.wrap (IntKind.i64.wrap (List.getD a (Int.toNat (Prod.fst x)) (0 : Int) - List.getD (cI b) (Int.toNat (Prod.fst x)) (0 : Int)) - Prod.fst (Prod.snd x)) + (1000000000 : Int)))] (i * (1 : Nat) + j) D.nilp), PUnit.unit))))))) (T.need ((1 : Nat) ≤ (1000000 : Nat)) (T.need (Enc.Is eI (1 : Nat) (joinF (0 : Nat) (fun (x x_1 : Nat) => D.nilp) fun (i j : Nat) => List.getD [D.int IntKind.i64 (IntKind.i64.wrap (IntKind.i64.wrap (List.getD a (Int.toNat (Prod.fst x)) (0 : Int) - List.getD (cI b) (Int.toNat (Prod.fst x)) (0 : Int)) - Prod.fst (Prod.snd x)))] (i * (1 : Nat) + j) D.nilp)) (T.need ((1 : Nat) ≤ (1 : Nat)) (T.ret (Sum.inl (Sum.inr (IntKind.i64.wrap (Prod.fst x + (1 : Int)), (0 : Int), Enc.list eI (1 : Nat) (joinF (0 : Nat) (fun (x x_1 : Nat) => D.nilp) fun (i j : Nat) => List.getD [D.int IntKind.i64 (IntKind.i64.wrap (IntKind.i64.wrap (List.getD a (Int.toNat (Prod.fst x)) (0 : Int) - List.getD (cI b) (Int.toNat (Prod.fst x)) (0 : Int)) - Prod.fst (Prod.snd x)))] (i * (1 : Nat) + j) D.nilp), PUnit.unit)))))))))))) (T.need (Enc.Is eI (0 : Nat) fun (x x_1 : Nat) => D.nilp) (T.need (Dg (Enc.list eI (0 : Nat) fun (x x_1 : Nat) => D.nilp)) (T.need (List.length (Enc.list eI (0 : Nat) fun (x x_1 : Nat) => D.nilp) ≤ (1000000 : Nat)) (T.ret (Sum.inr [Ar.c (D.sl false (List.length (M.dig (0 : Int))) (1 : Nat) (Enc.F eI (M.dig (0 : Int))))])))))) fun (y : Int × Int × List Int × PUnit) => T.br (decide (Prod.fst y < (Nat.cast (R := Int) (List.length a)))) (T.need ((0 : Int) ≤ Prod.fst y) (T.need (Prod.fst y < (Nat.cast (R := Int) (List.length a))) (T.need (iI b) (T.need ((0 : Int) ≤ Prod.fst y) (T.br (decide (IntKind.i64.wrap (IntKind.i64.wrap (List.getD a (Int.toNat (Prod.fst y)) (0 : Int) - List.getD (cI b) (Int.toNat (Prod.fst y)) (0 : Int)) - Prod.fst (Prod.snd y)) < (0 : Int))) (T.need (List.length (Prod.fst (Prod.snd (Prod.snd y))) + (1 : Nat) ≤ (1000000 : Nat)) (T.need (List.length (Prod.fst (Prod.snd (Prod.snd y))) ≤ List.length (Prod.fst (Prod.snd (Prod.snd y)))) (T.need (Enc.Is eI (List.length (Prod.fst (Prod.snd (Prod.snd y))) + (1 : Nat)) (joinF (List.length (Prod.fst (Prod.snd (Prod.snd y)))) (Enc.F eI (Prod.fst (Prod.snd (Prod.snd y)))) fun (i j : Nat) => List.getD [D.int IntKind.i64 (IntKind.i64.wrap (IntKind.i64.wrap (IntKind.i64.wrap (List.getD a (Int.toNat (Prod.fst y)) (0 : Int) - List.getD (cI b) (Int.toNat (Prod.fst y)) (0 : Int)) - Prod.fst (Prod.snd y)) + (1000000000 : Int)))] (i * (1 : Nat) + j) D.nilp)) (T.need (List.length (Prod.fst (Prod.snd (Prod.snd y))) + (1 : Nat) ≤ List.length (Prod.fst (Prod.snd (Prod.snd y))) + (1 : Nat)) (T.ret (Sum.inl (Sum.inr (IntKind.i64.wrap (Prod.fst y + (1 : Int)), (1 : Int), Enc.list eI (List.length (Prod.fst (Prod.snd (Prod.snd y))) + (1 : Nat)) (joinF (List.length (Prod.fst (Prod.snd (Prod.snd y)))) (Enc.F eI (Prod.fst (Prod.snd (Prod.snd y)))) fun (i j : Nat) => List.getD [D.int IntKind.i64 (IntKind.i64.wrap (IntKind.i64.wrap (IntKind.i64.wrap (List.getD a (Int.toNat (Prod.fst y)) (0 : Int) - List.getD (cI b) (Int.toNat (Prod.fst y)) (0 : Int)) - Prod.fst (Prod.snd y)) + (1000000000 : Int)))] (i * (1 : Nat) + j) D.nilp), PUnit.unit)))))))) (T.need (List.length (Prod.fst (Prod.snd (Prod.snd y))) + (1 : Nat) ≤ (1000000 : Nat)) (T.need (List.length (Prod.fst (Prod.snd (Prod.snd y))) ≤ List.length (Prod.fst (Prod.snd (Prod.snd y)))) (T.need (Enc.Is eI (List.length (Prod.fst (Prod.snd (Prod.snd y))) + (1 : Nat)) (joinF (List.length (Prod.fst (Prod.snd (Prod.snd y)))) (Enc.F eI (Prod.fst (Prod.snd (Prod.snd y)))) fun (i j : Nat) => List.getD [D.int IntKind.i64 (IntKind.i64.wrap (IntKind.i64.wrap (List.getD a (Int.toNat (Prod.fst y)) (0 : Int) - List.getD (cI b) (Int.toNat (Prod.fst y)) (0 : Int)) - Prod.fst (Prod.snd y)))] (i * (1 : Nat) + j) D.nilp)) (T.need (List.length (Prod.fst (Prod.snd (Prod.snd y))) + (1 : Nat) ≤ List.length (Prod.fst (Prod.snd (Prod.snd y))) + (1 : Nat)) (T.ret (Sum.inl (Sum.inr (IntKind.i64.wrap (Prod.fst y + (1 : Int)), (0 : Int), Enc.list eI (List.length (Prod.fst (Prod.snd (Prod.snd y))) + (1 : Nat)) (joinF (List.length (Prod.fst (Prod.snd (Prod.snd y)))) (Enc.F eI (Prod.fst (Prod.snd (Prod.snd y)))) fun (i j : Nat) => List.getD [D.int IntKind.i64 (IntKind.i64.wrap (IntKind.i64.wrap (List.getD a (Int.toNat (Prod.fst y)) (0 : Int) - List.getD (cI b) (Int.toNat (Prod.fst y)) (0 : Int)) - Prod.fst (Prod.snd y)))] (i * (1 : Nat) + j) D.nilp), PUnit.unit))))))))))))) (T.need (List.length (Prod.fst (Prod.snd (Prod.snd y))) ≤ List.length (Prod.fst (Prod.snd (Prod.snd y)))) (T.need (Enc.Is eI (List.length (Prod.fst (Prod.snd (Prod.snd y)))) (Enc.F eI (Prod.fst (Prod.snd (Prod.snd y))))) (T.need (Dg (Enc.list eI (List.length (Prod.fst (Prod.snd (Prod.snd y)))) (Enc.F eI (Prod.fst (Prod.snd (Prod.snd y)))))) (T.need (List.length (Enc.list eI (List.length (Prod.fst (Prod.snd (Prod.snd y)))) (Enc.F eI (Prod.fst (Prod.snd (Prod.snd y))))) ≤ (1000000 : Nat)) (T.ret (Sum.inr [Ar.c (D.sl false (List.length (M.dig (val (Enc.list eI (List.length (Prod.fst (Prod.snd (Prod.snd y)))) (Enc.F eI (Prod.fst (Prod.snd (Prod.snd y)))))))) (1 : Nat) (Enc.F eI (M.dig (val (Enc.list eI (List.length (Prod.fst (Prod.snd (Prod.snd y)))) (Enc.F eI (Prod.fst (Prod.snd (Prod.snd y)))))))))]))))))
theorem t164 (q_a : Bool) (a : List Int) (q_b : Bool) (b : List Int) : runFnX Try.prog G0 (lookS [v187, v162]) (fun _ => [(4, [.slot 7 (.int .i64), .slot 6 (.int .i64), .slot 5 .nsl], some [.slot 7 (.int .i64), .slot 6 (.int .i64), .slot 5 (.rowE 3 eI)])]) [] 1 60 4 164 Try.f164 [.c (.sl q_a a.length 1 (eI.F a)), .c (.sl q_b b.length 1 (eI.F b))] =
    tr164 q_a a q_b b := by kernel_rfl
theorem w164 (qa : Bool) (a : List Int) (qb : Bool) (b : List Int) (ha : Dg a) (hb : Dg b) (hle : val b ≤ val a) (hlen : b.length ≤ a.length) (hla : a.length ≤ 100000) : (tr164 qa a qb b).wp (fun rs => rsEqv rs [.c (.sl false (M.dig (val a - val b)).length 1 (eI.F (M.dig (val a - val b))))]) := by
  unfold tr164
  simp only [cI, iI, Enc.list_F]
  refine ⟨fun z => match z with
    | .inl x => x = ((0 : Int), (0 : Int), PUnit.unit, PUnit.unit)
    | .inr y => ∃ k : Nat, y.1 = k ∧ k ≤ a.length ∧ SubI a b k y.2.1 y.2.2.1,
    fun z => match z with | .inl _ => a.length + 5 | .inr y => a.length - y.1.toNat, rfl, ?_, ?_⟩
  · rintro x rfl
    refine wp_br (fun hx => ?_) (fun hx => ?_)
    · have h0 : 0 < a.length := by have : (0 : Int) < a.length := of_decide_eq_true hx; omega
      have da := dg_at ha 0
      have db := dg_at hb 0
      have e1 : IntKind.i64.wrap (IntKind.i64.wrap (a.getD 0 0 - b.getD 0 0) - 0) = a.getD 0 0 - b.getD 0 0 := by rw [wrap_id (n := a.getD 0 0 - b.getD 0 0) (by omega) (by omega), wrap_id (by omega) (by omega)]; omega
      refine ⟨by dsimp only; omega, by dsimp only; omega, Enc.is_F _ _ _, Int.le_refl _, ?_⟩
      show T.wp (T.br (decide (IntKind.i64.wrap (IntKind.i64.wrap (a.getD 0 0 - b.getD 0 0) - 0) < 0)) _ _) _
      dsimp only [Int.toNat_zero]
      simp only [e1]
      have fin : ∀ x w' : Int, 0 ≤ x ∧ x < 1000000000 → w' = 0 ∨ w' = 1 → x = a.getD 0 0 - b.getD 0 0 - 0 + 1000000000 * w' → SubI a b 1 w' [x] := fun x w' h1 h2 h3 => ⟨rfl, fun y hy => by rw [List.mem_singleton.1 hy]; exact h1, h2, sub_step (acc := []) (k := 0) rfl rfl h3⟩
      refine wp_br (fun hy => ?_) (fun hy => ?_)
      · have hy := of_decide_eq_true hy
        have e2 : IntKind.i64.wrap (a.getD 0 0 - b.getD 0 0 + 1000000000) = a.getD 0 0 - b.getD 0 0 + 1000000000 := wrap_id (by omega) (by omega)
        simp only [e2]
        obtain ⟨o1, o2⟩ := in_1 (x := a.getD 0 0 - b.getD 0 0 + 1000000000)
        refine ⟨by decide, o1, Nat.le_refl _, ⟨1, rfl, h0, ?_⟩, ?_⟩
        · rw [o2]; exact fin _ 1 (by omega) (.inr rfl) (by omega)
        · show a.length - (1 : Int).toNat < a.length + 5; omega
      · have hy := of_decide_eq_false hy
        obtain ⟨o1, o2⟩ := in_1 (x := a.getD 0 0 - b.getD 0 0)
        refine ⟨by decide, o1, Nat.le_refl _, ⟨1, rfl, h0, ?_⟩, ?_⟩
        · rw [o2]; exact fin _ 0 (by omega) (.inl rfl) (by omega)
        · show a.length - (1 : Int).toNat < a.length + 5; omega
    · have h0 : a.length = 0 := by have : ¬ (0 : Int) < a.length := of_decide_eq_false hx; omega
      obtain rfl := List.length_eq_zero_iff.1 h0
      obtain rfl := List.length_eq_zero_iff.1 (show b.length = 0 by omega)
      exact ⟨(fun i j hi _ => absurd hi (Nat.not_lt_zero i)), (fun x hx => by cases hx), by decide, rsEqv_refl _⟩
  · rintro ⟨y, w, acc, u⟩ ⟨k, hy, hk, hI⟩
    have hy : y = (k : Int) := hy
    subst hy
    have hI : SubI a b k w acc := hI
    obtain ⟨i1, i2, i3, i4⟩ := hI
    have hw : IntKind.i64.wrap ((k : Int) + 1) = ((k + 1 : Nat) : Int) := wrap_succ (by omega)
    refine wp_br (fun hx => ?_) (fun hx => ?_)
    · have hlt := lt_of_dec hx
      have da := dg_at ha k
      have db := dg_at hb k
      have mu : a.length - (IntKind.i64.wrap ((k : Int) + 1)).toNat < a.length - (k : Int).toNat := by rw [hw]; omega
      have e1 : IntKind.i64.wrap (IntKind.i64.wrap (a.getD k 0 - b.getD k 0) - w) = a.getD k 0 - b.getD k 0 - w := by rw [wrap_id (n := a.getD k 0 - b.getD k 0) (by omega) (by omega), wrap_id (by omega) (by omega)]
      refine ⟨by dsimp only; omega, by dsimp only; omega, Enc.is_F _ _ _, by dsimp only; omega, ?_⟩
      dsimp only [Int.toNat_natCast]
      simp only [e1]
      have fin : ∀ x w' : Int, 0 ≤ x ∧ x < 1000000000 → w' = 0 ∨ w' = 1 → x = a.getD k 0 - b.getD k 0 - w + 1000000000 * w' → SubI a b (k + 1) w' (acc ++ [x]) := fun x w' h1 h2 h3 => ⟨by rw [List.length_append, i1]; rfl, dg_push i2 h1, h2, sub_step i1 i4 h3⟩
      refine wp_br (fun hz => ?_) (fun hz => ?_)
      · have hz := of_decide_eq_true hz
        have e2 : IntKind.i64.wrap (a.getD k 0 - b.getD k 0 - w + 1000000000) = a.getD k 0 - b.getD k 0 - w + 1000000000 := wrap_id (by omega) (by omega)
        simp only [e2]
        obtain ⟨o1, o2⟩ := in_more (l := acc) (x := a.getD k 0 - b.getD k 0 - w + 1000000000)
        exact ⟨by omega, Nat.le_refl _, o1, Nat.le_refl _, ⟨k + 1, hw, hlt, by rw [o2]; exact fin _ 1 (by omega) (.inr rfl) (by omega)⟩, mu⟩
      · have hz := of_decide_eq_false hz
        obtain ⟨o1, o2⟩ := in_more (l := acc) (x := a.getD k 0 - b.getD k 0 - w)
        exact ⟨by omega, Nat.le_refl _, o1, Nat.le_refl _, ⟨k + 1, hw, hlt, by rw [o2]; exact fin _ 0 (by omega) (.inl rfl) (by omega)⟩, mu⟩
    · have hge := ge_of_dec hx
      obtain rfl : k = a.length := by omega
      rw [List.take_of_length_le (Nat.le_refl _), List.take_of_length_le hlen] at i4
      have hvb := val_bnd i2
      rw [i1] at hvb
      have hw0 : w = 0 := by
        rcases i3 with h | h
        · exact h
        · rw [h, Int.mul_one] at i4; omega
      rw [hw0, Int.mul_zero, Int.add_zero] at i4
      refine ⟨?_, Enc.is_F _ _ _, i2, by show acc.length ≤ _; omega, ?_⟩
      · first | exact Nat.le_refl _ | (dsimp only; omega)
      · dsimp only
        rw [i4]; exact rsEqv_refl _
def dom164 : DomF
  | [.c (.sl _ n_a st_a F_a), .c (.sl _ n_b st_b F_b)] => (match (Nat.beq st_a 1 || Nat.beq n_a 0) && (Nat.beq st_b 1 || Nat.beq n_b 0) with
    | true => some ([eI.Is n_a F_a, eI.Is n_b F_b, Dg (eI.list n_a F_a), Dg (eI.list n_b F_b), val (eI.list n_b F_b) ≤ val (eI.list n_a F_a), (eI.list n_b F_b).length ≤ (eI.list n_a F_a).length, (eI.list n_a F_a).length ≤ 100000], [.c (.sl false (M.dig (val (eI.list n_a F_a) - val (eI.list n_b F_b))).length 1 (eI.F (M.dig (val (eI.list n_a F_a) - val (eI.list n_b F_b)))))])
    | _ => none)
  | _ => none
def v164 : Nat × Sm := (164, fokSm dom164)
theorem C164 : FOK Try.prog G0 gw 164 dom164 := by
  intro ags p r hd hp κ w xs hw hl hG hx
  unfold dom164 at hd
  split at hd
  · rename_i q_a n_a st_a F_a q_b n_b st_b F_b
    split at hd
    · rename_i hst
      simp only [Bool.and_eq_true] at hst
      obtain ⟨g1, g2⟩ := hst
      simp only [Option.some.injEq, Prod.mk.injEq] at hd
      obtain ⟨rfl, rfl⟩ := hd
      obtain ⟨hI_a, hI_b, hp⟩ := hp
      have heq : agsEqv [.c (.sl q_a n_a st_a F_a), .c (.sl q_b n_b st_b F_b)] [.c (.sl q_a (eI.list n_a F_a).length 1 (eI.F (eI.list n_a F_a))), .c (.sl q_b (eI.list n_b F_b).length 1 (eI.F (eI.list n_b F_b)))] := ⟨eI.toz g1 hI_a, eI.toz g2 hI_b, trivial⟩
      have len_a : (eI.list n_a F_a).length = n_a := eI.list_len
      have len_b : (eI.list n_b F_b).length = n_b := eI.list_len
      generalize eI.list n_a F_a = a at *
      generalize eI.list n_b F_b = b at *
      subst len_a len_b
      exact fokX_fin mixed gw_stable (sl := [v187, v162]) ⟨S187, S162, trivial⟩ Try.func164 hw hl hG hx heq rfl (t164 _ _ _ _) (w164 _ _ _ _ hp.1 hp.2.1 hp.2.2.1 hp.2.2.2.1 hp.2.2.2.2.1)
    · cases hd
  · cases hd
theorem S164 : SumOK Try.prog G0 gw 164 (fokSm dom164) := fok_sum Try.func164 rfl C164
end Go.Pl
end

section
set_option linter.unusedVariables false
set_option linter.unusedSimpArgs false
set_option maxRecDepth 100000
namespace Go.Pl
open Go.V Go.Proofs
def stTail (a b r d out : Int) : T (List Ar) :=
  T.need (i64ok a) (T.need (i64ok r) (T.need (0 < b ∧ b < 9223372036854775808) (T.need (0 < d ∧ d < 9223372036854775808) (T.br (!M.less a b r d)
    (T.need (i64ok r) (T.need (i64ok a) (T.need (0 < d ∧ d < 9223372036854775808) (T.need (0 < b ∧ b < 9223372036854775808) (T.br (!!M.less r d a b) (T.ret [.agg [dI out, dI (IntKind.i64.wrap (out + 1))]]) (T.ret [.agg [dI out, dI out]]))))))
    (T.ret [.agg [dI out, dI (IntKind.i64.wrap (out + 1))]])))))
def stC (tc : Bool) (a b c r d out : Int) : T (List Ar) := match tc with | true => T.br (c == 0) (T.ret [.agg [dI out, dI out]]) (stTail a b r d out) | false => T.ret [.agg [dI out, dI out]]
def stOut (ta tc : Bool) (a b c r d out : Int) : T (List Ar) := match ta with | true => T.br (a == 0) (stC tc a b c r d out) (stTail a b r d out) | false => stC tc a b c r d out
def stEnd (ta tc : Bool) (s a b c d : Int) : T (List Ar) :=
  T.need (i64ok a) (T.need (i64ok (IntKind.i64.wrap (d - c))) (T.need (0 < b ∧ b < 9223372036854775808) (T.need (0 < d ∧ d < 9223372036854775808) (T.br (!M.less a b (IntKind.i64.wrap (d - c)) d) (stOut ta tc a b c (IntKind.i64.wrap (d - c)) d (IntKind.i64.wrap (s + 1))) (stOut ta tc a b c (IntKind.i64.wrap (d - c)) d s)))))
def stX (x y f n : Int) : Int := IntKind.i64.wrap (IntKind.i64.wrap (x * f) + IntKind.i64.wrap (n.tmod f * y))
def stS (s x y f n : Int) : Int := IntKind.i64.wrap (IntKind.i64.wrap (s + IntKind.i64.wrap (n.tdiv f)) + IntKind.i64.wrap ((stX x y f n).tdiv (IntKind.i64.wrap (y * f))))
def stT (g : Rg → Int) (sc : List Scale) (fl : List Rg) : Bool → Bool → Nat → Nat → Int → Int → Int → Int → Int → T (List Ar)
  | ta, tc, 0, _, s, a, b, c, d => stEnd ta tc s a b c d
  | ta, tc, m + 1, i, s, a, b, c, d =>
    T.need (eRg.Is fl.length (eRg.F fl)) (T.need (0 ≤ (i : Int)) (T.need ((i : Int) < fl.length) (T.need (0 ≤ (i : Int)) (T.need ((i : Int) < sc.length) (T.need (g (fl.getD i dfR) ≠ 0) (T.need (g (fl.getD i dfR) ≠ 0)
      (match Nat.beq (i % 2) 0 with
      | true => T.need (IntKind.i64.wrap (b * g (fl.getD i dfR)) ≠ 0) (T.need (IntKind.i64.wrap (b * g (fl.getD i dfR)) ≠ 0)
          (stT g sc fl true tc m (i + 1) (stS s a b (g (fl.getD i dfR)) (IntKind.i64.wrap (1000 * (sc.getD i dfS).vol))) ((stX a b (g (fl.getD i dfR)) (IntKind.i64.wrap (1000 * (sc.getD i dfS).vol))).tmod (IntKind.i64.wrap (b * g (fl.getD i dfR)))) (IntKind.i64.wrap (b * g (fl.getD i dfR))) c d))
      | false => T.need (IntKind.i64.wrap (d * g (fl.getD i dfR)) ≠ 0) (T.need (IntKind.i64.wrap (d * g (fl.getD i dfR)) ≠ 0)
          (stT g sc fl ta true m (i + 1) (stS s c d (g (fl.getD i dfR)) (IntKind.i64.wrap (1000 * (sc.getD i dfS).vol))) a b ((stX c d (g (fl.getD i dfR)) (IntKind.i64.wrap (1000 * (sc.getD i dfS).vol))).tmod (IntKind.i64.wrap (d * g (fl.getD i dfR)))) (IntKind.i64.wrap (d * g (fl.getD i dfR))))))))))))
theorem t110_1_0_111 (q q2 : Bool) (s0 : Scale) (f0 : Rg) (nw : Int) : runFnX Try.prog G0 (lookS [v131, v111]) (fun _ => [(1000028, [], none), (3000009, [], none)]) [] 1 60 3 110 Try.f110 [.agg [.sl q 1 4 (eSc.F [s0]), dI nw], .c (dI 0), .c (.fc 111 1 (fun _ => .sl q2 1 2 (eRg.F [f0])))] = stT (fun r => r.hi) [s0] [f0] false false 1 0 nw 0 1 0 1 := by kernel_rfl
theorem t110_2_0_111 (q q2 : Bool) (s0 s1 : Scale) (f0 f1 : Rg) (nw : Int) : runFnX Try.prog G0 (lookS [v131, v111]) (fun _ => [(1000028, [], none), (3000009, [], none)]) [] 1 60 3 110 Try.f110 [.agg [.sl q 2 4 (eSc.F [s0, s1]), dI nw], .c (dI 0), .c (.fc 111 1 (fun _ => .sl q2 2 2 (eRg.F [f0, f1])))] = stT (fun r => r.hi) [s0, s1] [f0, f1] false false 2 0 nw 0 1 0 1 := by kernel_rfl
theorem t110_2_1_111 (q q2 : Bool) (s0 s1 : Scale) (f0 f1 : Rg) (nw : Int) : runFnX Try.prog G0 (lookS [v131, v111]) (fun _ => [(1000028, [], none), (3000009, [], none)]) [] 1 60 3 110 Try.f110 [.agg [.sl q 2 4 (eSc.F [s0, s1]), dI nw], .c (dI 1), .c (.fc 111 1 (fun _ => .sl q2 2 2 (eRg.F [f0, f1])))] = stT (fun r => r.hi) [s0, s1] [f0, f1] false false 1 1 nw 0 1 0 1 := by kernel_rfl
theorem t110_3_0_111 (q q2 : Bool) (s0 s1 s2 : Scale) (f0 f1 f2 : Rg) (nw : Int) : runFnX Try.prog G0 (lookS [v131, v111]) (fun _ => [(1000028, [], none), (3000009, [], none)]) [] 1 60 3 110 Try.f110 [.agg [.sl q 3 4 (eSc.F [s0, s1, s2]), dI nw], .c (dI 0), .c (.fc 111 1 (fun _ => .sl q2 3 2 (eRg.F [f0, f1, f2])))] = stT (fun r => r.hi) [s0, s1, s2] [f0, f1, f2] false false 3 0 nw 0 1 0 1 := by kernel_rfl
theorem t110_3_1_111 (q q2 : Bool) (s0 s1 s2 : Scale) (f0 f1 f2 : Rg) (nw : Int) : runFnX Try.prog G0 (lookS [v131, v111]) (fun _ => [(1000028, [], none), (3000009, [], none)]) [] 1 60 3 110 Try.f110 [.agg [.sl q 3 4 (eSc.F [s0, s1, s2]), dI nw], .c (dI 1), .c (.fc 111 1 (fun _ => .sl q2 3 2 (eRg.F [f0, f1, f2])))] = stT (fun r => r.hi) [s0, s1, s2] [f0, f1, f2] false false 2 1 nw 0 1 0 1 := by kernel_rfl
theorem t110_3_2_111 (q q2 : Bool) (s0 s1 s2 : Scale) (f0 f1 f2 : Rg) (nw : Int) : runFnX Try.prog G0 (lookS [v131, v111]) (fun _ => [(1000028, [], none), (3000009, [], none)]) [] 1 60 3 110 Try.f110 [.agg [.sl q 3 4 (eSc.F [s0, s1, s2]), dI nw], .c (dI 2), .c (.fc 111 1 (fun _ => .sl q2 3 2 (eRg.F [f0, f1, f2])))] = stT (fun r => r.hi) [s0, s1, s2] [f0, f1, f2] false false 1 2 nw 0 1 0 1 := by kernel_rfl
theorem t110_4_0_111 (q q2 : Bool) (s0 s1 s2 s3 : Scale) (f0 f1 f2 f3 : Rg) (nw : Int) : runFnX Try.prog G0 (lookS [v131, v111]) (fun _ => [(1000028, [], none), (3000009, [], none)]) [] 1 60 3 110 Try.f110 [.agg [.sl q 4 4 (eSc.F [s0, s1, s2, s3]), dI nw], .c (dI 0), .c (.fc 111 1 (fun _ => .sl q2 4 2 (eRg.F [f0, f1, f2, f3])))] = stT (fun r => r.hi) [s0, s1, s2, s3] [f0, f1, f2, f3] false false 4 0 nw 0 1 0 1 := by kernel_rfl
theorem t110_4_1_111 (q q2 : Bool) (s0 s1 s2 s3 : Scale) (f0 f1 f2 f3 : Rg) (nw : Int) : runFnX Try.prog G0 (lookS [v131, v111]) (fun _ => [(1000028, [], none), (3000009, [], none)]) [] 1 60 3 110 Try.f110 [.agg [.sl q 4 4 (eSc.F [s0, s1, s2, s3]), dI nw], .c (dI 1), .c (.fc 111 1 (fun _ => .sl q2 4 2 (eRg.F [f0, f1, f2, f3])))] = stT (fun r => r.hi) [s0, s1, s2, s3] [f0, f1, f2, f3] false false 3 1 nw 0 1 0 1 := by kernel_rfl
theorem t110_4_2_111 (q q2 : Bool) (s0 s1 s2 s3 : Scale) (f0 f1 f2 f3 : Rg) (nw : Int) : runFnX Try.prog G0 (lookS [v131, v111]) (fun _ => [(1000028, [], none), (3000009, [], none)]) [] 1 60 3 110 Try.f110 [.agg [.sl q 4 4 (eSc.F [s0, s1, s2, s3]), dI nw], .c (dI 2), .c (.fc 111 1 (fun _ => .sl q2 4 2 (eRg.F [f0, f1, f2, f3])))] = stT (fun r => r.hi) [s0, s1, s2, s3] [f0, f1, f2, f3] false false 2 2 nw 0 1 0 1 := by kernel_rfl
theorem t110_4_3_111 (q q2 : Bool) (s0 s1 s2 s3 : Scale) (f0 f1 f2 f3 : Rg) (nw : Int) : runFnX Try.prog G0 (lookS [v131, v111]) (fun _ => [(1000028, [], none), (3000009, [], none)]) [] 1 60 3 110 Try.f110 [.agg [.sl q 4 4 (eSc.F [s0, s1, s2, s3]), dI nw], .c (dI 3), .c (.fc 111 1 (fun _ => .sl q2 4 2 (eRg.F [f0, f1, f2, f3])))] = stT (fun r => r.hi) [s0, s1, s2, s3] [f0, f1, f2, f3] false false 1 3 nw 0 1 0 1 := by kernel_rfl
theorem t110_1_0_112 (q q2 : Bool) (s0 : Scale) (f0 : Rg) (nw : Int) : runFnX Try.prog G0 (lookS [v131, v112]) (fun _ => [(1000028, [], none), (3000009, [], none)]) [] 1 60 3 110 Try.f110 [.agg [.sl q 1 4 (eSc.F [s0]), dI nw], .c (dI 0), .c (.fc 112 1 (fun _ => .sl q2 1 2 (eRg.F [f0])))] = stT (fun r => r.lo) [s0] [f0] false false 1 0 nw 0 1 0 1 := by kernel_rfl
theorem t110_2_0_112 (q q2 : Bool) (s0 s1 : Scale) (f0 f1 : Rg) (nw : Int) : runFnX Try.prog G0 (lookS [v131, v112]) (fun _ => [(1000028, [], none), (3000009, [], none)]) [] 1 60 3 110 Try.f110 [.agg [.sl q 2 4 (eSc.F [s0, s1]), dI nw], .c (dI 0), .c (.fc 112 1 (fun _ => .sl q2 2 2 (eRg.F [f0, f1])))] = stT (fun r => r.lo) [s0, s1] [f0, f1] false false 2 0 nw 0 1 0 1 := by kernel_rfl
theorem t110_2_1_112 (q q2 : Bool) (s0 s1 : Scale) (f0 f1 : Rg) (nw : Int) : runFnX Try.prog G0 (lookS [v131, v112]) (fun _ => [(1000028, [], none), (3000009, [], none)]) [] 1 60 3 110 Try.f110 [.agg [.sl q 2 4 (eSc.F [s0, s1]), dI nw], .c (dI 1), .c (.fc 112 1 (fun _ => .sl q2 2 2 (eRg.F [f0, f1])))] = stT (fun r => r.lo) [s0, s1] [f0, f1] false false 1 1 nw 0 1 0 1 := by kernel_rfl
theorem t110_3_0_112 (q q2 : Bool) (s0 s1 s2 : Scale) (f0 f1 f2 : Rg) (nw : Int) : runFnX Try.prog G0 (lookS [v131, v112]) (fun _ => [(1000028, [], none), (3000009, [], none)]) [] 1 60 3 110 Try.f110 [.agg [.sl q 3 4 (eSc.F [s0, s1, s2]), dI nw], .c (dI 0), .c (.fc 112 1 (fun _ => .sl q2 3 2 (eRg.F [f0, f1, f2])))] = stT (fun r => r.lo) [s0, s1, s2] [f0, f1, f2] false false 3 0 nw 0 1 0 1 := by kernel_rfl
theorem t110_3_1_112 (q q2 : Bool) (s0 s1 s2 : Scale) (f0 f1 f2 : Rg) (nw : Int) : runFnX Try.prog G0 (lookS [v131, v112]) (fun _ => [(1000028, [], none), (3000009, [], none)]) [] 1 60 3 110 Try.f110 [.agg [.sl q 3 4 (eSc.F [s0, s1, s2]), dI nw], .c (dI 1), .c (.fc 112 1 (fun _ => .sl q2 3 2 (eRg.F [f0, f1, f2])))] = stT (fun r => r.lo) [s0, s1, s2] [f0, f1, f2] false false 2 1 nw 0 1 0 1 := by kernel_rfl
theorem t110_3_2_112 (q q2 : Bool) (s0 s1 s2 : Scale) (f0 f1 f2 : Rg) (nw : Int) : runFnX Try.prog G0 (lookS [v131, v112]) (fun _ => [(1000028, [], none), (3000009, [], none)]) [] 1 60 3 110 Try.f110 [.agg [.sl q 3 4 (eSc.F [s0, s1, s2]), dI nw], .c (dI 2), .c (.fc 112 1 (fun _ => .sl q2 3 2 (eRg.F [f0, f1, f2])))] = stT (fun r => r.lo) [s0, s1, s2] [f0, f1, f2] false false 1 2 nw 0 1 0 1 := by kernel_rfl
theorem t110_4_0_112 (q q2 : Bool) (s0 s1 s2 s3 : Scale) (f0 f1 f2 f3 : Rg) (nw : Int) : runFnX Try.prog G0 (lookS [v131, v112]) (fun _ => [(1000028, [], none), (3000009, [], none)]) [] 1 60 3 110 Try.f110 [.agg [.sl q 4 4 (eSc.F [s0, s1, s2, s3]), dI nw], .c (dI 0), .c (.fc 112 1 (fun _ => .sl q2 4 2 (eRg.F [f0, f1, f2, f3])))] = stT (fun r => r.lo) [s0, s1, s2, s3] [f0, f1, f2, f3] false false 4 0 nw 0 1 0 1 := by kernel_rfl
theorem t110_4_1_112 (q q2 : Bool) (s0 s1 s2 s3 : Scale) (f0 f1 f2 f3 : Rg) (nw : Int) : runFnX Try.prog G0 (lookS [v131, v112]) (fun _ => [(1000028, [], none), (3000009, [], none)]) [] 1 60 3 110 Try.f110 [.agg [.sl q 4 4 (eSc.F [s0, s1, s2, s3]), dI nw], .c (dI 1), .c (.fc 112 1 (fun _ => .sl q2 4 2 (eRg.F [f0, f1, f2, f3])))] = stT (fun r => r.lo) [s0, s1, s2, s3] [f0, f1, f2, f3] false false 3 1 nw 0 1 0 1 := by kernel_rfl
theorem t110_4_2_112 (q q2 : Bool) (s0 s1 s2 s3 : Scale) (f0 f1 f2 f3 : Rg) (nw : Int) : runFnX Try.prog G0 (lookS [v131, v112]) (fun _ => [(1000028, [], none), (3000009, [], none)]) [] 1 60 3 110 Try.f110 [.agg [.sl q 4 4 (eSc.F [s0, s1, s2, s3]), dI nw], .c (dI 2), .c (.fc 112 1 (fun _ => .sl q2 4 2 (eRg.F [f0, f1, f2, f3])))] = stT (fun r => r.lo) [s0, s1, s2, s3] [f0, f1, f2, f3] false false 2 2 nw 0 1 0 1 := by kernel_rfl
theorem t110_4_3_112 (q q2 : Bool) (s0 s1 s2 s3 : Scale) (f0 f1 f2 f3 : Rg) (nw : Int) : runFnX Try.prog G0 (lookS [v131, v112]) (fun _ => [(1000028, [], none), (3000009, [], none)]) [] 1 60 3 110 Try.f110 [.agg [.sl q 4 4 (eSc.F [s0, s1, s2, s3]), dI nw], .c (dI 3), .c (.fc 112 1 (fun _ => .sl q2 4 2 (eRg.F [f0, f1, f2, f3])))] = stT (fun r => r.lo) [s0, s1, s2, s3] [f0, f1, f2, f3] false false 1 3 nw 0 1 0 1 := by kernel_rfl
theorem t110_1_0_185 (q q2 : Bool) (s0 : Scale) (f0 : Rg) (nw : Int) : runFnX Try.prog G0 (lookS [v131, v185]) (fun _ => [(1000028, [], none), (3000009, [], none)]) [] 1 60 3 110 Try.f110 [.agg [.sl q 1 4 (eSc.F [s0]), dI nw], .c (dI 0), .c (.fc 185 1 (fun _ => .sl q2 1 2 (eRg.F [f0])))] = stT (fun r => r.hi) [s0] [f0] false false 1 0 nw 0 1 0 1 := by kernel_rfl
theorem t110_2_0_185 (q q2 : Bool) (s0 s1 : Scale) (f0 f1 : Rg) (nw : Int) : runFnX Try.prog G0 (lookS [v131, v185]) (fun _ => [(1000028, [], none), (3000009, [], none)]) [] 1 60 3 110 Try.f110 [.agg [.sl q 2 4 (eSc.F [s0, s1]), dI nw], .c (dI 0), .c (.fc 185 1 (fun _ => .sl q2 2 2 (eRg.F [f0, f1])))] = stT (fun r => r.hi) [s0, s1] [f0, f1] false false 2 0 nw 0 1 0 1 := by kernel_rfl
theorem t110_2_1_185 (q q2 : Bool) (s0 s1 : Scale) (f0 f1 : Rg) (nw : Int) : runFnX Try.prog G0 (lookS [v131, v185]) (fun _ => [(1000028, [], none), (3000009, [], none)]) [] 1 60 3 110 Try.f110 [.agg [.sl q 2 4 (eSc.F [s0, s1]), dI nw], .c (dI 1), .c (.fc 185 1 (fun _ => .sl q2 2 2 (eRg.F [f0, f1])))] = stT (fun r => r.hi) [s0, s1] [f0, f1] false false 1 1 nw 0 1 0 1 := by kernel_rfl
theorem t110_3_0_185 (q q2 : Bool) (s0 s1 s2 : Scale) (f0 f1 f2 : Rg) (nw : Int) : runFnX Try.prog G0 (lookS [v131, v185]) (fun _ => [(1000028, [], none), (3000009, [], none)]) [] 1 60 3 110 Try.f110 [.agg [.sl q 3 4 (eSc.F [s0, s1, s2]), dI nw], .c (dI 0), .c (.fc 185 1 (fun _ => .sl q2 3 2 (eRg.F [f0, f1, f2])))] = stT (fun r => r.hi) [s0, s1, s2] [f0, f1, f2] false false 3 0 nw 0 1 0 1 := by kernel_rfl
theorem t110_3_1_185 (q q2 : Bool) (s0 s1 s2 : Scale) (f0 f1 f2 : Rg) (nw : Int) : runFnX Try.prog G0 (lookS [v131, v185]) (fun _ => [(1000028, [], none), (3000009, [], none)]) [] 1 60 3 110 Try.f110 [.agg [.sl q 3 4 (eSc.F [s0, s1, s2]), dI nw], .c (dI 1), .c (.fc 185 1 (fun _ => .sl q2 3 2 (eRg.F [f0, f1, f2])))] = stT (fun r => r.hi) [s0, s1, s2] [f0, f1, f2] false false 2 1 nw 0 1 0 1 := by kernel_rfl
theorem t110_3_2_185 (q q2 : Bool) (s0 s1 s2 : Scale) (f0 f1 f2 : Rg) (nw : Int) : runFnX Try.prog G0 (lookS [v131, v185]) (fun _ => [(1000028, [], none), (3000009, [], none)]) [] 1 60 3 110 Try.f110 [.agg [.sl q 3 4 (eSc.F [s0, s1, s2]), dI nw], .c (dI 2), .c (.fc 185 1 (fun _ => .sl q2 3 2 (eRg.F [f0, f1, f2])))] = stT (fun r => r.hi) [s0, s1, s2] [f0, f1, f2] false false 1 2 nw 0 1 0 1 := by kernel_rfl
theorem t110_4_0_185 (q q2 : Bool) (s0 s1 s2 s3 : Scale) (f0 f1 f2 f3 : Rg) (nw : Int) : runFnX Try.prog G0 (lookS [v131, v185]) (fun _ => [(1000028, [], none), (3000009, [], none)]) [] 1 60 3 110 Try.f110 [.agg [.sl q 4 4 (eSc.F [s0, s1, s2, s3]), dI nw], .c (dI 0), .c (.fc 185 1 (fun _ => .sl q2 4 2 (eRg.F [f0, f1, f2, f3])))] = stT (fun r => r.hi) [s0, s1, s2, s3] [f0, f1, f2, f3] false false 4 0 nw 0 1 0 1 := by kernel_rfl
theorem t110_4_1_185 (q q2 : Bool) (s0 s1 s2 s3 : Scale) (f0 f1 f2 f3 : Rg) (nw : Int) : runFnX Try.prog G0 (lookS [v131, v185]) (fun _ => [(1000028, [], none), (3000009, [], none)]) [] 1 60 3 110 Try.f110 [.agg [.sl q 4 4 (eSc.F [s0, s1, s2, s3]), dI nw], .c (dI 1), .c (.fc 185 1 (fun _ => .sl q2 4 2 (eRg.F [f0, f1, f2, f3])))] = stT (fun r => r.hi) [s0, s1, s2, s3] [f0, f1, f2, f3] false false 3 1 nw 0 1 0 1 := by kernel_rfl
theorem t110_4_2_185 (q q2 : Bool) (s0 s1 s2 s3 : Scale) (f0 f1 f2 f3 : Rg) (nw : Int) : runFnX Try.prog G0 (lookS [v131, v185]) (fun _ => [(1000028, [], none), (3000009, [], none)]) [] 1 60 3 110 Try.f110 [.agg [.sl q 4 4 (eSc.F [s0, s1, s2, s3]), dI nw], .c (dI 2), .c (.fc 185 1 (fun _ => .sl q2 4 2 (eRg.F [f0, f1, f2, f3])))] = stT (fun r => r.hi) [s0, s1, s2, s3] [f0, f1, f2, f3] false false 2 2 nw 0 1 0 1 := by kernel_rfl
theorem t110_4_3_185 (q q2 : Bool) (s0 s1 s2 s3 : Scale) (f0 f1 f2 f3 : Rg) (nw : Int) : runFnX Try.prog G0 (lookS [v131, v185]) (fun _ => [(1000028, [], none), (3000009, [], none)]) [] 1 60 3 110 Try.f110 [.agg [.sl q 4 4 (eSc.F [s0, s1, s2, s3]), dI nw], .c (dI 3), .c (.fc 185 1 (fun _ => .sl q2 4 2 (eRg.F [f0, f1, f2, f3])))] = stT (fun r => r.hi) [s0, s1, s2, s3] [f0, f1, f2, f3] false false 1 3 nw 0 1 0 1 := by kernel_rfl
theorem t110g_111 (q q2 : Bool) (sc : List Scale) (fl : List Rg) (nw : Int) (i : Nat) (hl : fl.length = sc.length) (h4 : sc.length ≤ 4) (hi : i < sc.length) : runFnX Try.prog G0 (lookS [v131, v111]) (fun _ => [(1000028, [], none), (3000009, [], none)]) [] 1 60 3 110 Try.f110 [.agg [.sl q sc.length 4 (eSc.F sc), dI nw], .c (dI i), .c (.fc 111 1 (fun _ => .sl q2 fl.length 2 (eRg.F fl)))] = stT (fun r => r.hi) sc fl false false (sc.length - i) i nw 0 1 0 1 := by
  match sc, fl, hl, h4, hi with
  | [s0], [f0], _, _, hi =>
    match i, hi with
    | 0, _ => exact t110_1_0_111 _ _ _ _ _
  | [s0, s1], [f0, f1], _, _, hi =>
    match i, hi with
    | 0, _ => exact t110_2_0_111 _ _ _ _ _ _ _
    | 1, _ => exact t110_2_1_111 _ _ _ _ _ _ _
  | [s0, s1, s2], [f0, f1, f2], _, _, hi =>
    match i, hi with
    | 0, _ => exact t110_3_0_111 _ _ _ _ _ _ _ _ _
    | 1, _ => exact t110_3_1_111 _ _ _ _ _ _ _ _ _
    | 2, _ => exact t110_3_2_111 _ _ _ _ _ _ _ _ _
  | [s0, s1, s2, s3], [f0, f1, f2, f3], _, _, hi =>
    match i, hi with
    | 0, _ => exact t110_4_0_111 _ _ _ _ _ _ _ _ _ _ _
    | 1, _ => exact t110_4_1_111 _ _ _ _ _ _ _ _ _ _ _
    | 2, _ => exact t110_4_2_111 _ _ _ _ _ _ _ _ _ _ _
    | 3, _ => exact t110_4_3_111 _ _ _ _ _ _ _ _ _ _ _
  | [], _, _, _, hi => exact absurd hi (Nat.not_lt_zero _)
  | _ :: _ :: _ :: _ :: _ :: _, _, _, h4, _ => exact absurd h4 (by simp)
theorem t110g_112 (q q2 : Bool) (sc : List Scale) (fl : List Rg) (nw : Int) (i : Nat) (hl : fl.length = sc.length) (h4 : sc.length ≤ 4) (hi : i < sc.length) : runFnX Try.prog G0 (lookS [v131, v112]) (fun _ => [(1000028, [], none), (3000009, [], none)]) [] 1 60 3 110 Try.f110 [.agg [.sl q sc.length 4 (eSc.F sc), dI nw], .c (dI i), .c (.fc 112 1 (fun _ => .sl q2 fl.length 2 (eRg.F fl)))] = stT (fun r => r.lo) sc fl false false (sc.length - i) i nw 0 1 0 1 := by
  match sc, fl, hl, h4, hi with
  | [s0], [f0], _, _, hi =>
    match i, hi with
    | 0, _ => exact t110_1_0_112 _ _ _ _ _
  | [s0, s1], [f0, f1], _, _, hi =>
    match i, hi with
    | 0, _ => exact t110_2_0_112 _ _ _ _ _ _ _
    | 1, _ => exact t110_2_1_112 _ _ _ _ _ _ _
  | [s0, s1, s2], [f0, f1, f2], _, _, hi =>
    match i, hi with
    | 0, _ => exact t110_3_0_112 _ _ _ _ _ _ _ _ _
    | 1, _ => exact t110_3_1_112 _ _ _ _ _ _ _ _ _
    | 2, _ => exact t110_3_2_112 _ _ _ _ _ _ _ _ _
  | [s0, s1, s2, s3], [f0, f1, f2, f3], _, _, hi =>
    match i, hi with
    | 0, _ => exact t110_4_0_112 _ _ _ _ _ _ _ _ _ _ _
    | 1, _ => exact t110_4_1_112 _ _ _ _ _ _ _ _ _ _ _
    | 2, _ => exact t110_4_2_112 _ _ _ _ _ _ _ _ _ _ _
    | 3, _ => exact t110_4_3_112 _ _ _ _ _ _ _ _ _ _ _
  | [], _, _, _, hi => exact absurd hi (Nat.not_lt_zero _)
  | _ :: _ :: _ :: _ :: _ :: _, _, _, h4, _ => exact absurd h4 (by simp)
theorem t110g_185 (q q2 : Bool) (sc : List Scale) (fl : List Rg) (nw : Int) (i : Nat) (hl : fl.length = sc.length) (h4 : sc.length ≤ 4) (hi : i < sc.length) : runFnX Try.prog G0 (lookS [v131, v185]) (fun _ => [(1000028, [], none), (3000009, [], none)]) [] 1 60 3 110 Try.f110 [.agg [.sl q sc.length 4 (eSc.F sc), dI nw], .c (dI i), .c (.fc 185 1 (fun _ => .sl q2 fl.length 2 (eRg.F fl)))] = stT (fun r => r.hi) sc fl false false (sc.length - i) i nw 0 1 0 1 := by
  match sc, fl, hl, h4, hi with
  | [s0], [f0], _, _, hi =>
    match i, hi with
    | 0, _ => exact t110_1_0_185 _ _ _ _ _
  | [s0, s1], [f0, f1], _, _, hi =>
    match i, hi with
    | 0, _ => exact t110_2_0_185 _ _ _ _ _ _ _
    | 1, _ => exact t110_2_1_185 _ _ _ _ _ _ _
  | [s0, s1, s2], [f0, f1, f2], _, _, hi =>
    match i, hi with
    | 0, _ => exact t110_3_0_185 _ _ _ _ _ _ _ _ _
    | 1, _ => exact t110_3_1_185 _ _ _ _ _ _ _ _ _
    | 2, _ => exact t110_3_2_185 _ _ _ _ _ _ _ _ _
  | [s0, s1, s2, s3], [f0, f1, f2, f3], _, _, hi =>
    match i, hi with
    | 0, _ => exact t110_4_0_185 _ _ _ _ _ _ _ _ _ _ _
    | 1, _ => exact t110_4_1_185 _ _ _ _ _ _ _ _ _ _ _
    | 2, _ => exact t110_4_2_185 _ _ _ _ _ _ _ _ _ _ _
    | 3, _ => exact t110_4_3_185 _ _ _ _ _ _ _ _ _ _ _
  | [], _, _, _, hi => exact absurd hi (Nat.not_lt_zero _)
  | _ :: _ :: _ :: _ :: _ :: _, _, _, h4, _ => exact absurd h4 (by simp)
end Go.Pl
end

section
set_option linter.unusedVariables false
set_option linter.unusedSimpArgs false
set_option maxRecDepth 100000
namespace Go.Pl
open Go.V Go.Proofs
theorem first_zero : ∀ {l : List Int}, M.first l = 0 → ∀ x, x ∈ l → x = 0 := by
  intro l
  induction l with
  | nil => intro _ x hx; cases hx
  | cons a l ih =>
    intro h x hx
    rw [first_of] at h
    split at h
    · rename_i ha
      rcases List.mem_cons.1 hx with rfl | hx
      · exact ha
      · exact ih h x hx
    · rename_i ha; exact absurd h ha
structure RightP (mo ga : List Int) (de : List Dem) : Prop where
  n0 : 0 < mo.length
  n4 : mo.length ≤ 4
  lg : ga.length = mo.length
  ld : de.length ≤ 8
  rm : ∀ x, x ∈ mo → 0 ≤ x ∧ x ≤ 1000000
  rg : ∀ x, x ∈ ga → -100 ≤ x ∧ x ≤ 100
  rd : ∀ d, d ∈ de → d.co.length = mo.length ∧ (∀ x, x ∈ d.co → -100 ≤ x ∧ x ≤ 100) ∧ -1000000 ≤ d.am ∧ d.am ≤ 1000000
namespace M
end M
end Go.Pl
end

section
set_option linter.unusedVariables false
set_option linter.unusedSimpArgs false
set_option maxRecDepth 100000
namespace Go.Pl
open Go.V Go.Proofs
namespace M
def stN (g : Rg → Int) (sc : List Scale) (fl : List Rg) : Nat → Nat → Int → Int → Int × Int
  | 0, _, N, D => (N, D)
  | m + 1, i, N, D => stN g sc fl m (i + 1) (N * g (fl.getD i dfR) + D * (1000 * (sc.getD i dfS).vol)) (D * g (fl.getD i dfR))
def steady (g : Rg → Int) (sc : List Scale) (nw : Int) (fl : List Rg) (i : Nat) : Int × Int := (nw + (stN g sc fl (sc.length - i) i 0 1).1 / (stN g sc fl (sc.length - i) i 0 1).2, nw - (-(stN g sc fl (sc.length - i) i 0 1).1) / (stN g sc fl (sc.length - i) i 0 1).2)
end M
theorem ediv_at {N D k : Int} (hD : 0 < D) (h1 : k * D ≤ N) (h2 : N < (k + 1) * D) : N / D = k := by
  have a := (Int.le_ediv_iff_mul_le hD).2 h1
  have b := (Int.ediv_lt_iff_lt_mul hD).2 h2
  omega
theorem tdm {n f : Int} (hn : 0 ≤ n) (hf : 0 < f) : n.tdiv f * f + n.tmod f = n ∧ 0 ≤ n.tmod f ∧ n.tmod f < f ∧ 0 ≤ n.tdiv f ∧ n.tdiv f ≤ n := by
  rw [Int.tdiv_eq_ediv_of_nonneg hn, Int.tmod_eq_emod_of_nonneg hn]
  refine ⟨Int.ediv_mul_add_emod .., Int.emod_nonneg _ (by omega), Int.emod_lt_of_pos _ hf, Int.ediv_nonneg hn (by omega), Int.ediv_le_self _ hn⟩
theorem stepK {x y f n A C D N s nw q r z w : Int} (h1 : y * A = D) (h2 : (s - nw) * D + x * A + C * y = N) (h3 : q * f + r = n) (h4 : z * (y * f) + w = x * f + r * y) : (y * f) * A = D * f ∧ (s + q + z - nw) * (D * f) + w * A + C * (y * f) = N * f + D * n := by
  constructor
  · rw [← h1, Int.mul_right_comm]
  · have e1 : w = x * f + r * y - z * (y * f) := by omega
    have e2 : n = q * f + r := by omega
    subst e1 e2 h1 h2
    grind
theorem step1 {x y f v s : Int} (hx : 0 ≤ x ∧ x < y) (hy : y ≤ 100000) (hf : 0 < f ∧ f ≤ 100000) (hv : 0 ≤ v ∧ v ≤ 20000) (hs : 0 ≤ s ∧ s ≤ 1000000000) :
    IntKind.i64.wrap (y * f) = y * f ∧ 0 < y * f ∧ y * f ≤ 100000 * y ∧ ∃ q r z w : Int, q * f + r = 1000 * v ∧ z * (y * f) + w = x * f + r * y ∧ (0 ≤ w ∧ w < y * f) ∧
      stS s x y f (IntKind.i64.wrap (1000 * v)) = s + q + z ∧ (stX x y f (IntKind.i64.wrap (1000 * v))).tmod (y * f) = w ∧ 0 ≤ s + q + z ∧ s + q + z ≤ s + 20000002 := by
  have hn : IntKind.i64.wrap (1000 * v) = 1000 * v := wrap_id (by omega) (by omega)
  rw [hn]
  obtain ⟨t1, t2, t3, t4, t5⟩ := tdm (n := 1000 * v) (f := f) (by omega) hf.1
  have hyf : y * f ≤ 100000 * y := by rw [Int.mul_comm 100000]; exact Int.mul_le_mul_of_nonneg_left hf.2 (by omega)
  have hyf0 : 0 < y * f := Int.mul_pos (by omega) hf.1
  have hxf : x * f ≤ y * f := Int.mul_le_mul_of_nonneg_right (by omega) (by omega)
  have hxf' : x * f < y * f := Int.mul_lt_mul_of_pos_right hx.2 hf.1
  have hxf0 : 0 ≤ x * f := Int.mul_nonneg hx.1 (by omega)
  have hry : (1000 * v).tmod f * y ≤ y * f := by rw [Int.mul_comm y]; exact Int.mul_le_mul_of_nonneg_right (by omega) (by omega)
  have hry0 : 0 ≤ (1000 * v).tmod f * y := Int.mul_nonneg t2 (by omega)
  have hq : (1000 * v).tdiv f ≤ 20000000 := by omega
  have e1 : stX x y f (1000 * v) = x * f + (1000 * v).tmod f * y := by
    unfold stX
    rw [wrap_id (n := x * f) (by omega) (by omega), wrap_id (n := (1000 * v).tmod f * y) (by omega) (by omega), wrap_id (by omega) (by omega)]
  have e0 : IntKind.i64.wrap (y * f) = y * f := wrap_id (by omega) (by omega)
  obtain ⟨u1, u2, u3, u4, u5⟩ := tdm (n := x * f + (1000 * v).tmod f * y) (f := y * f) (by omega) hyf0
  have hz : (x * f + (1000 * v).tmod f * y).tdiv (y * f) ≤ 1 := by
    rcases Int.lt_or_le 1 ((x * f + (1000 * v).tmod f * y).tdiv (y * f)) with h | h
    · exfalso
      have h2 : 2 * (y * f) ≤ (x * f + (1000 * v).tmod f * y).tdiv (y * f) * (y * f) := Int.mul_le_mul_of_nonneg_right (by omega) (by omega)
      omega
    · exact h
  refine ⟨e0, hyf0, hyf, _, _, _, _, t1, u1, ⟨u2, u3⟩, ?_, by rw [e1], by omega, by omega⟩
  unfold stS
  rw [e1, e0, wrap_id (n := (1000 * v).tdiv f) (by omega) (by omega), wrap_id (n := s + (1000 * v).tdiv f) (by omega) (by omega), wrap_id (n := (x * f + (1000 * v).tmod f * y).tdiv (y * f)) (by omega) (by omega), wrap_id (by omega) (by omega)]
theorem stEnd_wp {ta tc : Bool} {s a b c d nw N D : Int} (hD : b * d = D) (hN : (s - nw) * D + a * d + c * b = N) (ha : 0 ≤ a ∧ a < b) (hc : 0 ≤ c ∧ c < d) (hb : b ≤ 10000000000) (hd : d ≤ 10000000000) (hs : 0 ≤ s ∧ s ≤ 1000000000) (hta : ta = false → a = 0) (htc : tc = false → c = 0) :
    (stEnd ta tc s a b c d).wp (fun rs => rsEqv rs [.agg [dI (nw + N / D), dI (nw - (-N) / D)]]) := by
  have hr : IntKind.i64.wrap (d - c) = d - c := wrap_id (by omega) (by omega)
  have ka : i64ok a := by unfold i64ok; omega
  have kr : i64ok (d - c) := by unfold i64ok; omega
  have kb : 0 < b ∧ b < 9223372036854775808 := by omega
  have kd : 0 < d ∧ d < 9223372036854775808 := by omega
  have hD0 : 0 < D := by rw [← hD]; exact Int.mul_pos kb.1 kd.1
  have had : a * d < D := by rw [← hD]; exact Int.mul_lt_mul_of_pos_right ha.2 kd.1
  have had0 : 0 ≤ a * d := Int.mul_nonneg ha.1 (by omega)
  have hcb : c * b < D := by rw [← hD, Int.mul_comm b]; exact Int.mul_lt_mul_of_pos_right hc.2 kb.1
  have hcb0 : 0 ≤ c * b := Int.mul_nonneg hc.1 (by omega)
  have hrb : (d - c) * b = D - c * b := by rw [Int.sub_mul, ← hD, Int.mul_comm b]
  have hW : IntKind.i64.wrap (s + 1) = s + 1 := wrap_id (by omega) (by omega)
  have hW2 : IntKind.i64.wrap (s + 1 + 1) = s + 2 := by rw [wrap_id (by omega) (by omega)]; omega
  have l1 : M.less a b (d - c) d = decide (a * d < D - c * b) := by unfold M.less; rw [hrb]
  have l2 : M.less (d - c) d a b = decide (D - c * b < a * d) := by unfold M.less; rw [hrb]
  -- the answers
  have fl : ∀ k : Int, k * D ≤ a * d + c * b → a * d + c * b < (k + 1) * D → N / D = s - nw + k := fun k h1 h2 => by
    refine ediv_at hD0 ?_ ?_
    · rw [← hN, Int.add_mul]; omega
    · rw [← hN, show s - nw + k + 1 = (s - nw) + (k + 1) by omega, Int.add_mul]; omega
  have ce : ∀ k : Int, (k - 1) * D < a * d + c * b → a * d + c * b ≤ k * D → (-N) / D = -(s - nw) - k := fun k h1 h2 => by
    refine ediv_at hD0 ?_ ?_
    · rw [← hN, Int.sub_mul, Int.neg_mul]; omega
    · rw [← hN, show -(s - nw) - k + 1 = -(s - nw) - (k - 1) by omega, Int.sub_mul (-(s - nw)), Int.neg_mul]; omega
  have ans : ∀ {x y : Int}, N / D = x - nw → (-N) / D = nw - y → rsEqv [.agg [dI x, dI y]] [.agg [dI (nw + N / D), dI (nw - (-N) / D)]] := by
    intro x y h1 h2
    rw [h1, h2, show nw + (x - nw) = x by omega, show nw - (nw - y) = y by omega]; exact rsEqv_refl _
  have tailT : ¬ a * d < D - c * b → (stTail a b (d - c) d (s + 1)).wp (fun rs => rsEqv rs [.agg [dI (nw + N / D), dI (nw - (-N) / D)]]) := by
    intro hge
    have h1 := fl 1 (by omega) (by omega)
    refine ⟨ka, kr, kb, kd, wp_br (fun _ => ⟨kr, ka, kd, kb, wp_br (fun hx => ?_) (fun hx => ?_)⟩) (fun hx => ?_)⟩
    · rw [l2, Bool.not_not] at hx
      have hx := of_decide_eq_true hx
      have h2 := ce 2 (by omega) (by omega)
      rw [hW2]
      exact ans (by omega) (by omega)
    · rw [l2, Bool.not_not] at hx
      have hx := of_decide_eq_false hx
      have h2 := ce 1 (by omega) (by omega)
      exact ans (by omega) (by omega)
    · rw [l1, decide_eq_false hge] at hx; cases hx
  have tailF : a * d < D - c * b → 0 < a * d + c * b → (stTail a b (d - c) d s).wp (fun rs => rsEqv rs [.agg [dI (nw + N / D), dI (nw - (-N) / D)]]) := by
    intro hlt hpos
    have h1 := fl 0 (by omega) (by omega)
    have h2 := ce 1 (by omega) (by omega)
    refine ⟨ka, kr, kb, kd, wp_br (fun hx => ?_) (fun hx => ?_)⟩
    · rw [l1, decide_eq_true hlt] at hx; cases hx
    · rw [hW]
      exact ans (by omega) (by omega)
  have zero : a = 0 → c = 0 → rsEqv [.agg [dI s, dI s]] [.agg [dI (nw + N / D), dI (nw - (-N) / D)]] := by
    intro h1 h2
    subst h1 h2
    exact ans (by have := fl 0 (by omega) (by omega); omega) (by have := ce 0 (by omega) (by omega); omega)
  unfold stEnd
  rw [hr]
  refine ⟨ka, kr, kb, kd, wp_br (fun hx => ?_) (fun hx => ?_)⟩
  · rw [l1, Bool.not_eq_true'] at hx
    have hx := of_decide_eq_false hx
    rw [hW]
    have hcc : c = 0 → a = 0 → False := by
      intro h1 h2
      subst h1 h2
      omega
    have hC : a = 0 → (stC tc a b c (d - c) d (s + 1)).wp (fun rs => rsEqv rs [.agg [dI (nw + N / D), dI (nw - (-N) / D)]]) := by
      intro h0
      unfold stC
      cases tc with
      | false => exact (hcc (htc rfl) h0).elim
      | true => exact wp_br (fun hy => (hcc (by simpa using hy) h0).elim) (fun _ => tailT hx)
    unfold stOut
    cases ta with
    | false => exact hC (hta rfl)
    | true => exact wp_br (fun hy => hC (by simpa using hy)) (fun _ => tailT hx)
  · rw [l1, Bool.not_eq_false'] at hx
    have hx := of_decide_eq_true hx
    have hC : a = 0 → (stC tc a b c (d - c) d s).wp (fun rs => rsEqv rs [.agg [dI (nw + N / D), dI (nw - (-N) / D)]]) := by
      intro h0
      unfold stC
      cases tc with
      | false => exact zero h0 (htc rfl)
      | true =>
        refine wp_br (fun hy => zero h0 (by simpa using hy)) (fun hy => tailF hx ?_)
        have hy : ¬ c = 0 := by simpa using hy
        have : 0 < c * b := Int.mul_pos (by omega) kb.1
        omega
    unfold stOut
    cases ta with
    | false => exact hC (hta rfl)
    | true =>
      refine wp_br (fun hy => hC (by simpa using hy)) (fun hy => tailF hx ?_)
      have hy : ¬ a = 0 := by simpa using hy
      have : 0 < a * d := Int.mul_pos (by omega) kd.1
      omega
def capB (i : Nat) : Int := match i with | 0 => 1 | 1 => 100000 | 2 => 100000 | _ => 10000000000
def capD (i : Nat) : Int := match i with | 0 => 1 | 1 => 1 | 2 => 100000 | 3 => 100000 | _ => 10000000000
theorem stT_wp {g : Rg → Int} {sc : List Scale} {fl : List Rg} {nw : Int} (h4 : sc.length ≤ 4) (hfl : fl.length = sc.length) (hv : ∀ k, k < sc.length → 0 ≤ (sc.getD k dfS).vol ∧ (sc.getD k dfS).vol ≤ 20000) : ∀ (m i : Nat) (ta tc : Bool) (s a b c d N D : Int), i + m = sc.length → (∀ k, i ≤ k → k < sc.length → 0 < g (fl.getD k dfR) ∧ g (fl.getD k dfR) ≤ 100000) →
    b * d = D → (s - nw) * D + a * d + c * b = N → (0 ≤ a ∧ a < b) → (0 ≤ c ∧ c < d) → b ≤ capB i → d ≤ capD i → 0 ≤ s → s ≤ 100000 + (i : Int) * 20000002 → (ta = false → a = 0) → (tc = false → c = 0) →
    (stT g sc fl ta tc m i s a b c d).wp (fun rs => rsEqv rs [.agg [dI (nw + (M.stN g sc fl m i N D).1 / (M.stN g sc fl m i N D).2), dI (nw - (-(M.stN g sc fl m i N D).1) / (M.stN g sc fl m i N D).2)]]) := by
  intro m
  induction m with
  | zero =>
    intro i ta tc s a b c d N D hi _ hD hN ha hc hb hd hs hs2 hta htc
    have hb' : b ≤ 10000000000 := by
      have : capB i ≤ 10000000000 := by unfold capB; split <;> omega
      omega
    have hd' : d ≤ 10000000000 := by
      have : capD i ≤ 10000000000 := by unfold capD; split <;> omega
      omega
    exact stEnd_wp hD hN ha hc hb' hd' (by omega) hta htc
  | succ m ih =>
    intro i ta tc s a b c d N D hi hg hD hN ha hc hb hd hs hs2 hta htc
    have hf := hg i (Nat.le_refl _) (by omega)
    have hvi := hv i (by omega)
    have hgn : ∀ k, i + 1 ≤ k → k < sc.length → 0 < g (fl.getD k dfR) ∧ g (fl.getD k dfR) ≤ 100000 := fun k h1 h2 => hg k (by omega) h2
    have hsb : s ≤ 1000000000 := by omega
    simp only [stT, M.stN]
    generalize hf0 : g (fl.getD i dfR) = f at *
    generalize (sc.getD i dfS).vol = v at *
    refine ⟨Enc.is_F _ _ _, by omega, by omega, by omega, by omega, by omega, by omega, ?_⟩
    have even : b ≤ 100000 → 100000 * b ≤ capB (i + 1) → d ≤ capD (i + 1) → (T.need (IntKind.i64.wrap (b * f) ≠ 0) (T.need (IntKind.i64.wrap (b * f) ≠ 0)
          (stT g sc fl true tc m (i + 1) (stS s a b f (IntKind.i64.wrap (1000 * v))) ((stX a b f (IntKind.i64.wrap (1000 * v))).tmod (IntKind.i64.wrap (b * f))) (IntKind.i64.wrap (b * f)) c d))).wp (fun rs => rsEqv rs [.agg [dI (nw + (M.stN g sc fl m (i + 1) (N * f + D * (1000 * v)) (D * f)).1 / (M.stN g sc fl m (i + 1) (N * f + D * (1000 * v)) (D * f)).2), dI (nw - (-(M.stN g sc fl m (i + 1) (N * f + D * (1000 * v)) (D * f)).1) / (M.stN g sc fl m (i + 1) (N * f + D * (1000 * v)) (D * f)).2)]]) := by
      intro hb5 hbn hdn
      obtain ⟨e0, e1, e2, q, r, z, w, k1, k2, k3, k4, k5, k6, k7⟩ := step1 (s := s) ha hb5 hf hvi ⟨hs, hsb⟩
      rw [e0, k4, k5]
      obtain ⟨p1, p2⟩ := stepK hD hN k1 k2
      exact ⟨by omega, by omega, ih (i + 1) true tc _ _ _ _ _ _ _ (by omega) hgn p1 p2 k3 hc (by omega) hdn k6 (by rw [Int.natCast_succ, Int.add_mul]; omega) (fun h => by cases h) htc⟩
    have odd : d ≤ 100000 → 100000 * d ≤ capD (i + 1) → b ≤ capB (i + 1) → (T.need (IntKind.i64.wrap (d * f) ≠ 0) (T.need (IntKind.i64.wrap (d * f) ≠ 0)
          (stT g sc fl ta true m (i + 1) (stS s c d f (IntKind.i64.wrap (1000 * v))) a b ((stX c d f (IntKind.i64.wrap (1000 * v))).tmod (IntKind.i64.wrap (d * f))) (IntKind.i64.wrap (d * f))))).wp (fun rs => rsEqv rs [.agg [dI (nw + (M.stN g sc fl m (i + 1) (N * f + D * (1000 * v)) (D * f)).1 / (M.stN g sc fl m (i + 1) (N * f + D * (1000 * v)) (D * f)).2), dI (nw - (-(M.stN g sc fl m (i + 1) (N * f + D * (1000 * v)) (D * f)).1) / (M.stN g sc fl m (i + 1) (N * f + D * (1000 * v)) (D * f)).2)]]) := by
      intro hd5 hdn hbn
      obtain ⟨e0, e1, e2, q, r, z, w, k1, k2, k3, k4, k5, k6, k7⟩ := step1 (s := s) hc hd5 hf hvi ⟨hs, hsb⟩
      rw [e0, k4, k5]
      have hD' : d * b = D := by rw [Int.mul_comm]; exact hD
      have hN' : (s - nw) * D + c * b + a * d = N := by omega
      obtain ⟨p1, p2⟩ := stepK hD' hN' k1 k2
      have p1' : b * (d * f) = D * f := by rw [Int.mul_comm]; exact p1
      have p2' : (s + q + z - nw) * (D * f) + a * (d * f) + w * b = N * f + D * (1000 * v) := by omega
      exact ⟨by omega, by omega, ih (i + 1) ta true _ _ _ _ _ _ _ (by omega) hgn p1' p2' ha k3 hbn (by omega) k6 (by rw [Int.natCast_succ, Int.add_mul]; omega) hta (fun h => by cases h)⟩
    have hi3 : i = 0 ∨ i = 1 ∨ i = 2 ∨ i = 3 := by omega
    rcases hi3 with rfl | rfl | rfl | rfl
    · exact even (by have : b ≤ 1 := hb; omega) (by have : b ≤ 1 := hb; show 100000 * b ≤ 100000; omega) (by have : d ≤ 1 := hd; show d ≤ 1; omega)
    · exact odd (by have : d ≤ 1 := hd; omega) (by have : d ≤ 1 := hd; show 100000 * d ≤ 100000; omega) (by have : b ≤ 100000 := hb; show b ≤ 100000; omega)
    · exact even (by have : b ≤ 100000 := hb; omega) (by have : b ≤ 100000 := hb; show 100000 * b ≤ 10000000000; omega) (by have : d ≤ 100000 := hd; show d ≤ 100000; omega)
    · exact odd (by have : d ≤ 100000 := hd; omega) (by have : d ≤ 100000 := hd; show 100000 * d ≤ 10000000000; omega) (by have : b ≤ 10000000000 := hb; show b ≤ 10000000000; omega)
theorem st_wp {g : Rg → Int} {sc : List Scale} {fl : List Rg} {nw : Int} (hnw : 0 ≤ nw ∧ nw ≤ 100000) (h4 : sc.length ≤ 4) (hfl : fl.length = sc.length) (hv : ∀ k, k < sc.length → 0 ≤ (sc.getD k dfS).vol ∧ (sc.getD k dfS).vol ≤ 20000) {i : Nat} (hi : i < sc.length) (hg : ∀ k, i ≤ k → k < sc.length → 0 < g (fl.getD k dfR) ∧ g (fl.getD k dfR) ≤ 100000) :
    (stT g sc fl false false (sc.length - i) i nw 0 1 0 1).wp (fun rs => rsEqv rs [.agg [dI (M.steady g sc nw fl i).1, dI (M.steady g sc nw fl i).2]]) := by
  have hi3 : i = 0 ∨ i = 1 ∨ i = 2 ∨ i = 3 := by omega
  exact stT_wp h4 hfl hv (sc.length - i) i false false nw 0 1 0 1 0 1 (by omega) hg (by omega) (by omega) (by omega) (by omega) (by rcases hi3 with rfl | rfl | rfl | rfl <;> decide) (by rcases hi3 with rfl | rfl | rfl | rfl <;> decide) hnw.1 (by omega) (fun _ => rfl) (fun _ => rfl)
end Go.Pl
end

section
set_option linter.unusedVariables false
set_option linter.unusedSimpArgs false
set_option maxRecDepth 100000
namespace Go.Pl
open Go.V Go.Proofs
def mxl (a b : List Int) : Nat := max a.length b.length
namespace M
def addN (a b : List Int) : Nat := if val a + val b < bp (mxl a b) then mxl a b else mxl a b + 1
def addD (a b : List Int) : List Int := digN (addN a b) (val a + val b)
end M
structure AddI (a b : List Int) (k : Nat) (w : Int) (acc : List Int) : Prop where
  kle : k ≤ mxl a b + 1
  len : acc.length = k
  dg : Dg acc
  w01 : w = 0 ∨ w = 1
  last : k = mxl a b + 1 → w = 0
  big : mxl a b < k → bp (mxl a b) ≤ val a + val b
  v : val acc + bp k * w = val (a.take k) + val (b.take k)
theorem AddI.step {a b : List Int} (ha : Dg a) (hb : Dg b) {k : Nat} {w : Int} {acc : List Int} (h : AddI a b k w acc) (hgo : k < a.length ∨ k < b.length ∨ w > 0) :
    IntKind.i64.wrap (IntKind.i64.wrap (a.getD k 0 + b.getD k 0) + w) = a.getD k 0 + b.getD k 0 + w ∧ IntKind.i64.wrap ((a.getD k 0 + b.getD k 0 + w).tdiv 1000000000) = (a.getD k 0 + b.getD k 0 + w) / 1000000000 ∧ (a.getD k 0 + b.getD k 0 + w).tmod 1000000000 = (a.getD k 0 + b.getD k 0 + w) % 1000000000 ∧
      AddI a b (k + 1) ((a.getD k 0 + b.getD k 0 + w) / 1000000000) (acc ++ [(a.getD k 0 + b.getD k 0 + w) % 1000000000]) := by
  have da := dg_at ha k
  have db := dg_at hb k
  have hw := h.w01
  have h1 : IntKind.i64.wrap (IntKind.i64.wrap (a.getD k 0 + b.getD k 0) + w) = a.getD k 0 + b.getD k 0 + w := by rw [wrap_id (n := a.getD k 0 + b.getD k 0) (by omega) (by omega), wrap_id (by omega) (by omega)]
  have hq := Int.tdiv_eq_ediv_of_nonneg (a := a.getD k 0 + b.getD k 0 + w) (b := 1000000000) (by omega)
  have hr := Int.tmod_eq_emod_of_nonneg (a := a.getD k 0 + b.getD k 0 + w) (b := 1000000000) (by omega)
  have hmx : mxl a b = a.length ∨ mxl a b = b.length := by unfold mxl; omega
  have hmx2 : a.length ≤ mxl a b ∧ b.length ≤ mxl a b := by unfold mxl; omega
  have out : mxl a b ≤ k → a.getD k 0 = 0 ∧ b.getD k 0 = 0 := fun hk => by
    rw [List.getD_eq_getElem?_getD, List.getElem?_eq_none (by omega), List.getD_eq_getElem?_getD, List.getElem?_eq_none (by omega)]
    exact ⟨rfl, rfl⟩
  have hk := h.kle
  have hl := h.last
  refine ⟨h1, by rw [hq]; exact wrap_id (by omega) (by omega), hr, ?_⟩
  have hv : val (acc ++ [(a.getD k 0 + b.getD k 0 + w) % 1000000000]) + bp (k + 1) * ((a.getD k 0 + b.getD k 0 + w) / 1000000000) = val (a.take (k + 1)) + val (b.take (k + 1)) := by
    rw [val_push, val_take_succ, val_take_succ, h.len, bp_succ]
    have := h.v
    have e := Int.emod_add_mul_ediv (a.getD k 0 + b.getD k 0 + w) 1000000000
    generalize (a.getD k 0 + b.getD k 0 + w) % 1000000000 = r at *
    generalize (a.getD k 0 + b.getD k 0 + w) / 1000000000 = q at *
    generalize bp k = B at *
    grind
  refine ⟨by omega, by rw [List.length_append, h.len]; rfl, dg_push h.dg (by omega), by omega, fun hk1 => ?_, fun hk1 => ?_, hv⟩
  · have := out (by omega); omega
  · by_cases hb2 : mxl a b < k
    · exact h.big hb2
    · have hk2 : k = mxl a b := by omega
      have hw1 : w = 1 := by omega
      have := h.v
      rw [hw1, Int.mul_one, hk2, List.take_of_length_le hmx2.1, List.take_of_length_le hmx2.2] at this
      have := (val_bnd h.dg).1
      omega
theorem AddI.fin {a b : List Int} (ha : Dg a) (hb : Dg b) {k : Nat} {w : Int} {acc : List Int} (h : AddI a b k w acc) (h1 : a.length ≤ k) (h2 : b.length ≤ k) (h3 : ¬ w > 0) : acc = M.addD a b := by
  have hw : w = 0 := by have := h.w01; omega
  have hv := h.v
  rw [hw, Int.mul_zero, Int.add_zero, List.take_of_length_le h1, List.take_of_length_le h2] at hv
  have e := dg_uniq h.dg
  rw [h.len, hv] at e
  rw [e]
  have hb2 := val_bnd h.dg
  rw [h.len, hv] at hb2
  have hmx : mxl a b ≤ k := by unfold mxl; omega
  have hk := h.kle
  unfold M.addD M.addN
  by_cases hlt : mxl a b < k
  · have := h.big hlt
    rw [if_neg (by omega), show k = mxl a b + 1 by omega]
  · have hk2 : k = mxl a b := by omega
    rw [hk2] at hb2
    rw [if_pos hb2.2, hk2]
theorem addI0 (a b : List Int) : AddI a b 0 0 [] := ⟨Nat.zero_le _, rfl, fun x hx => (by cases hx), .inl rfl, fun _ => rfl, fun h => absurd h (Nat.not_lt_zero _), rfl⟩
theorem add_bp {a b : List Int} (ha : Dg a) (hb : Dg b) : val a + val b < bp (M.addN a b) := by
  unfold M.addN
  split
  · rename_i h; exact h
  · have h1 := (val_bnd ha).2
    have h2 := (val_bnd hb).2
    have mono : ∀ n m : Nat, n ≤ m → bp n ≤ bp m := by
      intro n m hnm
      induction m with
      | zero => obtain rfl : n = 0 := by omega
                exact Int.le_refl _
      | succ m ih =>
        rcases Nat.lt_or_ge n (m + 1) with h | h
        · have := ih (by omega)
          have := bp_pos m
          rw [bp_succ]; omega
        · obtain rfl : n = m + 1 := by omega
          exact Int.le_refl _
    have h3 := mono a.length (mxl a b) (by unfold mxl; omega)
    have h4 := mono b.length (mxl a b) (by unfold mxl; omega)
    have := bp_pos (mxl a b)
    rw [bp_succ]; omega
theorem addD_ok {a b : List Int} (ha : Dg a) (hb : Dg b) : Dg (M.addD a b) ∧ val (M.addD a b) = val a + val b ∧ (M.addD a b).length ≤ mxl a b + 1 := by
  refine ⟨digN_dg _ _, val_digN _ _ (by have := (val_bnd ha).1; have := (val_bnd hb).1; omega) (add_bp ha hb), ?_⟩
  unfold M.addD
  rw [digN_len]
  unfold M.addN
  split <;> omega
def tr186 (q_a : Bool) (a : List Int) (q_b : Bool) (b : List Int) : T (List Ar) :=
    T.loop2 (Int × Int × PUnit × PUnit) (Int × Int × List Int × PUnit) (Sum.inl ((0 : Int), (0 : Int), PUnit.unit, PUnit.unit)) (fun (x : Int × Int × PUnit × PUnit) => T.br (decide (Prod.fst x < (Nat.cast (R := Int) (List.length a)))) (T.need (iI a) (T.need ((0 : Int) ≤ Prod.fst x) (T.need (iI b) (T.need ((0 : Int) ≤ Prod.fst x) (T.need ((1 : Nat) ≤ (1000000 : Nat)) (T.need (Enc.Is eI (1 : Nat) (joinF (0 : Nat) (fun (x x_1 : Nat) => D.nilp) fun (i j : Nat) => List.getD [D.int IntKind.i64 (Int.tmod (IntKind.i64.wrap (IntKind.i64.wrap (List.getD (cI a) (Int.toNat (Prod.fst x)) (0 : Int) + List.getD (cI b) (Int.toNat (Prod.fst x)) (0 : Int)) + Prod.fst (Prod.snd x))) (1000000000 : Int))] (i * (1 : Nat) + j) D.nilp)) (T.need ((1 : Nat) ≤ (1 : Nat)) (T.ret (Sum.inl (Sum.inr (IntKind.i64.wrap (Prod.fst x + (1 : Int)), IntKind.i64.wrap (Int.tdiv (IntKind.i64.wrap (IntKind.i64.wrap (List.getD (cI a) (Int.toNat (Prod.fst x)) (0 : Int) + List.getD (cI b) (Int.toNat (Prod.fst x)) (0 : Int)) + Prod.fst (Prod.snd x))) (1000000000 : Int)), Enc.list eI (1 : Nat) (joinF (0 : Nat) (fun (x x_1 : Nat) => D.nilp) fun (i j : Nat) => List.getD [D.int IntKind.i64 (Int.tmod (IntKind.i64.wrap (IntKind.i64.wrap (List.getD (cI a) (Int.toNat (Prod.fst x)) (0 : Int) + List.getD (cI b) (Int.toNat (Prod.fst x)) (0 : Int)) + Prod.fst (Prod.snd x))) (1000000000 : Int))] (i * (1 : Nat) + j) D.nilp), PUnit.unit))))))))))) (T.br (decide (Prod.fst x < (Nat.cast (R := Int) (List.length b)))) (T.need (iI a) (T.need ((0 : Int) ≤ Prod.fst x) (T.need (iI b) (T.need ((0 : Int) ≤ Prod.fst x) (T.need ((1 : Nat) ≤ (1000000 : Nat)) (T.need (Enc.Is eI (1 : Nat) (joinF (0 : Nat) (fun (x x_1 : Nat) => D.nilp) fun (i j : Nat) => List.getD [D.int IntKind.i64 (Int.tmod (IntKind.i64.wrap (IntKind.i64.wrap (List.getD (cI a) (Int.toNat (Prod.fst x)) (0 : Int) + List.getD (cI b) (Int.toNat (Prod.fst x)) (0 : Int)) + Prod.fst (Prod.snd x))) (1000000000 : Int))] (i * (1 : Nat) + j) D.nilp)) (T.need ((1 : Nat) ≤ (1 : Nat)) (T.ret (Sum.inl (Sum.inr (IntKind.i64.wrap (Prod.fst x + (1 : Int)), IntKind.i64.wrap (Int.tdiv (IntKind.i64.wrap (IntKind.i64.wrap (List.getD (cI a) (Int.toNat (Prod.fst x)) (0 : Int) + List.getD (cI b) (Int.toNat (Prod.fst x)) (0 : Int)) + Prod.fst (Prod.snd x))) (1000000000 : Int)), Enc.list eI (1 : Nat) (joinF (0 : Nat) (fun (x x_1 : Nat) => D.nilp) fun (i j : Nat) => List.getD [D.int IntKind.i64 (Int.tmod (IntKind.i64.wrap (IntKind.i64.wrap (List.getD (cI a) (Int.toNat (Prod.fst x)) (0 : Int) + List.getD (cI b) (Int.toNat (Prod.fst x)) (0 : Int)) + Prod.fst (Prod.snd x))) (1000000000 : Int))] (i * (1 : Nat) + j) D.nilp), PUnit.unit))))))))))) (T.br (decide (Prod.fst (Prod.snd x) > (0 : Int))) (T.need (iI a) (T.need ((0 : Int) ≤ Prod.fst x) (T.need (iI b) (T.need ((0 : Int) ≤ Prod.fst x) (T.need ((1 : Nat) ≤ (1000000 : Nat)) (T.need (Enc.Is eI (1 : Nat) (joinF (0 : Nat) (fun (x x_1 : Nat) => D.nilp) fun (i j : Nat) => List.getD [D.int IntKind.i64 (Int.tmod (IntKind.i64.wrap (IntKind.i64.wrap (List.getD (cI a) (Int.toNat (Prod.fst x)) (0 : Int) + List.getD (cI b) (Int.toNat (Prod.fst x)) (0 : Int)) + Prod.fst (Prod.snd x))) (1000000000 : Int))] (i * (1 : Nat) + j) D.nilp)) (T.need ((1 : Nat) ≤ (1 : Nat)) (T.ret (Sum.inl (Sum.inr (IntKind.i64.wrap (Prod.fst x + (1 : Int)), IntKind.i64.wrap (Int.tdiv (IntKind.i64.wrap (IntKind.i64.wrap (List.getD (cI a) (Int.toNat (Prod.fst x)) (0 : Int) + List.getD (cI b) (Int.toNat (Prod.fst x)) (0 : Int)) + Prod.fst (Prod.snd x))) (1000000000 : Int)), Enc.list eI (1 : Nat) (joinF (0 : Nat) (fun (x x_1 : Nat) => D.nilp) fun (i j : Nat) => List.getD [D.int IntKind.i64 (Int.tmod (IntKind.i64.wrap (IntKind.i64.wrap (List.getD (cI a) (Int.toNat (Prod.fst x)) (0 : Int) + List.getD (cI b) (Int.toNat (Prod.fst x)) (0 : Int)) + Prod.fst (Prod.snd x))) (1000000000 : Int))] (i * (1 : Nat) + j) D.nilp), PUnit.unit))))))))))) (T.ret (Sum.inr [Ar.c (D.sl false (0 : Nat) (0 : Nat) fun (x x_1 : Nat) => D.nilp)]))))) fun (y : Int × Int × List Int × PUnit) => T.br (decide (Prod.fst y < (Nat.cast (R := Int) (List.length a)))) (T.need (iI a) (T.need ((0 : Int) ≤ Prod.fst y) (T.need (iI b) (T.need ((0 : Int) ≤ Prod.fst y) (T.need (List.length (Prod.fst (Prod.snd (Prod.snd y))) + (1 : Nat) ≤ (1000000 : Nat)) (T.need (List.length (Prod.fst (Prod.snd (Prod.snd y))) ≤ List.length (Prod.fst (Prod.snd (Prod.snd y)))) (T.need (Enc.Is eI (List.length (Prod.fst (Prod.snd (Prod.snd y))) + (1 : Nat)) (joinF (List.length (Prod.fst (Prod.snd (Prod.snd y)))) (Enc.F eI (Prod.fst (Prod.snd (Prod.snd y)))) fun (i j : Nat) => List.getD [D.int IntKind.i64 (Int.tmod (IntKind.i64.wrap (IntKind.i64.wrap (List.getD (cI a) (Int.toNat (Prod.fst y)) (0 : Int) + List.getD (cI b) (Int.toNat (Prod.fst y)) (0 : Int)) + Prod.fst (Prod.snd y))) (1000000000 : Int))] (i * (1 : Nat) + j) D.nilp)) (T.need (List.length (Prod.fst (Prod.snd (Prod.snd y))) + (1 : Nat) ≤ List.length (Prod.fst (Prod.snd (Prod.snd y))) + (1 : Nat)) (T.ret (Sum.inl (Sum.inr (IntKind.i64.wrap (Prod.fst y + (1 : Int)), IntKind.i64.wrap (Int.tdiv (IntKind.i64.wrap (IntKind.i64.wrap (List.getD (cI a) (Int.toNat (Prod.fst y)) (0 : Int) + List.getD (cI b) (Int.toNat (Prod.fst y)) (0 : Int)) + Prod.fst (Prod.snd y))) (1000000000 : Int)), Enc.list eI (List.length (Prod.fst (Prod.snd (Prod.snd y))) + (1 : Nat)) (joinF (List.length (Prod.fst (Prod.snd (Prod.snd y)))) (Enc.F eI (Prod.fst (Prod.snd (Prod.snd y)))) fun (i j : Nat) => List.getD [D.int IntKind.i64 (Int.tmod (IntKind.i64.wrap (IntKind.i64.wrap (List.getD (cI a) (Int.toNat (Prod.fst y)) (0 : Int) + List.getD (cI b) (Int.toNat (Prod.fst y)) (0 : Int)) + Prod.fst (Prod.snd y))) (1000000000 : Int))] (i * (1 : Nat) + j) D.nilp), PUnit.unit)))))))))))) (T.br (decide (Prod.fst y < (Nat.cast (R := Int) (List.length b)))) (T.need (iI a) (T.need ((0 : Int) ≤ Prod.fst y) (T.need (iI b) (T.need ((0 : Int) ≤ Prod.fst y) (T.need (List.length (Prod.fst (Prod.snd (Prod.snd y))) + (1 : Nat) ≤ (1000000 : Nat)) (T.need (List.length (Prod.fst (Prod.snd (Prod.snd y))) ≤ List.length (Prod.fst (Prod.snd (Prod.snd y)))) (T.need (Enc.Is eI (List.length (Prod.fst (Prod.snd (Prod.snd y))) + (1 : Nat)) (joinF (List.length (Prod.fst (Prod.snd (Prod.snd y)))) (Enc.F eI (Prod.fst (Prod.snd (Prod.snd y)))) fun (i j : Nat) => List.getD [D.int IntKind.i64 (Int.tmod (IntKind.i64.wrap (IntKind.i64.wrap (List.getD (cI a) (Int.toNat (Prod.fst y)) (0 : Int) + List.getD (cI b) (Int.toNat (Prod.fst y)) (0 : Int)) + Prod.fst (Prod.snd y))) (1000000000 : Int))] (i * (1 : Nat) + j) D.nilp)) (T.need (List.length (Prod.fst (Prod.snd (Prod.snd y))) + (1 : Nat) ≤ List.length (Prod.fst (Prod.snd (Prod.snd y))) + (1 : Nat)) (T.ret (Sum.inl (Sum.inr (IntKind.i64.wrap (Prod.fst y + (1 : Int)), IntKind.i64.wrap (Int.tdiv (IntKind.i64.wrap (IntKind.i64.wrap (List.getD (cI a) (Int.toNat (Prod.fst y)) (0 : Int) + List.getD (cI b) (Int.toNat (Prod.fst y)) (0 : Int)) + Prod.fst (Prod.snd y))) (1000000000 : Int)), Enc.list eI (List.length (Prod.fst (Prod.snd (Prod.snd y))) + (1 : Nat)) (joinF (List.length (Prod.fst (Prod.snd (Prod.snd y)))) (Enc.F eI (Prod.fst (Prod.snd (Prod.snd y)))) fun (i j : Nat) => List.getD [D.int IntKind.i64 (Int.tmod (IntKind.i64.wrap (IntKind.i64.wrap (List.getD (cI a) (Int.toNat (Prod.fst y)) (0 : Int) + List.getD (cI b) (Int.toNat (Prod.fst y)) (0 : Int)) + Prod.fst (Prod.snd y))) (1000000000 : Int))] (i * (1 : Nat) + j) D.nilp), PUnit.unit)))))))))))) (T.br (decide (Prod.fst (Prod.snd y) > (0 : Int))) (T.need (iI a) (T.need ((0 : Int) ≤ Prod.fst y) (T.need (iI b) (T.need ((0 : Int) ≤ Prod.fst y) (T.need (List.length (Prod.fst (Prod.snd (Prod.snd y))) + (1 : Nat) ≤ (1000000 : Nat)) (T.need (List.length (Prod.fst (Prod.snd (Prod.snd y))) ≤ List.length (Prod.fst (Prod.snd (Prod.snd y)))) (T.need (Enc.Is eI (List.length (Prod.fst (Prod.snd (Prod.snd y))) + (1 : Nat)) (joinF (List.length (Prod.fst (Prod.snd (Prod.snd y)))) (Enc.F eI (Prod.fst (Prod.snd (Prod.snd y)))) fun (i j : Nat) => List.getD [D.int IntKind.i64 (Int.tmod (IntKind.i64.wrap (IntKind.i64.wrap (List.getD (cI a) (Int.toNat (Prod.fst y)) (0 : Int) + List.getD (cI b) (Int.toNat (Prod.fst y)) (0 : Int)) + Prod.fst (Prod.snd y))) (1000000000 : Int))] (i * (1 : Nat) + j) D.nilp)) (T.need (List.length (Prod.fst (Prod.snd (Prod.snd y))) + (1 : Nat) ≤ List.length (Prod.fst (Prod.snd (Prod.snd y))) + (1 : Nat)) (T.ret (Sum.inl (Sum.inr (IntKind.i64.wrap (Prod.fst y + (1 : Int)), IntKind.i64.wrap (Int.tdiv (IntKind.i64.wrap (IntKind.i64.wrap (List.getD (cI a) (Int.toNat (Prod.fst y)) (0 : Int) + List.getD (cI b) (Int.toNat (Prod.fst y)) (0 : Int)) + Prod.fst (Prod.snd y))) (1000000000 : Int)), Enc.list eI (List.length (Prod.fst (Prod.snd (Prod.snd y))) + (1 : Nat)) (joinF (List.length (Prod.fst (Prod.snd (Prod.snd y)))) (Enc.F eI (Prod.fst (Prod.snd (Prod.snd y)))) fun (i j : Nat) => List.getD [D.int IntKind.i64 (Int.tmod (IntKind.i64.wrap (IntKind.i64.wrap (List.getD (cI a) (Int.toNat (Prod.fst y)) (0 : Int) + List.getD (cI b) (Int.toNat (Prod.fst y)) (0 : Int)) + Prod.fst (Prod.snd y))) (1000000000 : Int))] (i * (1 : Nat) + j) D.nilp), PUnit.unit)))))))))))) (T.need (List.length (Prod.fst (Prod.snd (Prod.snd y))) ≤ List.length (Prod.fst (Prod.snd (Prod.snd y)))) (T.ret (Sum.inr [Ar.c (D.sl true (List.length (Prod.fst (Prod.snd (Prod.snd y)))) (1 : Nat) (Enc.F eI (Prod.fst (Prod.snd (Prod.snd y)))))])))))
theorem t186 (q_a : Bool) (a : List Int) (q_b : Bool) (b : List Int) : runFnX Try.prog G0 (lookS [v187]) (fun _ => [(4, [.slot 7 (.int .i64), .slot 6 (.int .i64), .slot 5 .nsl], some [.slot 7 (.int .i64), .slot 6 (.int .i64), .slot 5 (.rowE 3 eI)])]) [] 1 60 4 186 Try.f186 [.c (.sl q_a a.length 1 (eI.F a)), .c (.sl q_b b.length 1 (eI.F b))] =
    tr186 q_a a q_b b := by kernel_rfl
theorem w186 (qa : Bool) (a : List Int) (qb : Bool) (b : List Int) (ha : Dg a) (hb : Dg b) (hla : a.length ≤ 100000) (hlb : b.length ≤ 100000) : (tr186 qa a qb b).wp (fun rs => rsEqv rs [.c (.sl false (M.addD a b).length 1 (eI.F (M.addD a b)))]) := by
  unfold tr186
  simp only [cI, iI, Enc.list_F]
  have hm : mxl a b ≤ 100000 := by unfold mxl; omega
  refine ⟨fun z => match z with
    | .inl x => x = ((0 : Int), (0 : Int), PUnit.unit, PUnit.unit)
    | .inr y => ∃ k : Nat, y.1 = k ∧ AddI a b k y.2.1 y.2.2.1,
    fun z => match z with | .inl _ => mxl a b + 10 | .inr y => mxl a b + 2 - y.1.toNat, rfl, ?_, ?_⟩
  · rintro x rfl
    have st : (0 < a.length ∨ 0 < b.length ∨ (0 : Int) > 0) → IntKind.i64.wrap (IntKind.i64.wrap (a.getD 0 0 + b.getD 0 0) + 0) = a.getD 0 0 + b.getD 0 0 + 0 ∧ IntKind.i64.wrap ((a.getD 0 0 + b.getD 0 0 + 0).tdiv 1000000000) = (a.getD 0 0 + b.getD 0 0 + 0) / 1000000000 ∧ (a.getD 0 0 + b.getD 0 0 + 0).tmod 1000000000 = (a.getD 0 0 + b.getD 0 0 + 0) % 1000000000 ∧ AddI a b 1 ((a.getD 0 0 + b.getD 0 0 + 0) / 1000000000) [(a.getD 0 0 + b.getD 0 0 + 0) % 1000000000] := fun h => (addI0 a b).step ha hb h
    refine wp_br (fun hx => ?_) (fun hx => wp_br (fun hy => ?_) (fun hy => wp_br (fun hz => ?_) (fun hz => ?_)))
    · have hx : (0 : Int) < a.length := of_decide_eq_true hx
      obtain ⟨s1, s2, s3, s4⟩ := st (.inl (by omega))
      dsimp only [Int.toNat_zero]
      simp only [s1, s2, s3]
      obtain ⟨o1, o2⟩ := in_1 (x := (a.getD 0 0 + b.getD 0 0 + 0) % 1000000000)
      refine ⟨Enc.is_F _ _ _, Int.le_refl _, Enc.is_F _ _ _, Int.le_refl _, by decide, o1, Nat.le_refl _, ⟨1, rfl, by rw [o2]; exact s4⟩, ?_⟩
      show mxl a b + 2 - (1 : Int).toNat < mxl a b + 10
      omega
    · have hy : (0 : Int) < b.length := of_decide_eq_true hy
      obtain ⟨s1, s2, s3, s4⟩ := st (.inr (.inl (by omega)))
      dsimp only [Int.toNat_zero]
      simp only [s1, s2, s3]
      obtain ⟨o1, o2⟩ := in_1 (x := (a.getD 0 0 + b.getD 0 0 + 0) % 1000000000)
      refine ⟨Enc.is_F _ _ _, Int.le_refl _, Enc.is_F _ _ _, Int.le_refl _, by decide, o1, Nat.le_refl _, ⟨1, rfl, by rw [o2]; exact s4⟩, ?_⟩
      show mxl a b + 2 - (1 : Int).toNat < mxl a b + 10
      omega
    · have hz : (0 : Int) > 0 := of_decide_eq_true hz
      omega
    · have hx : ¬ (0 : Int) < a.length := of_decide_eq_false hx
      have hy : ¬ (0 : Int) < b.length := of_decide_eq_false hy
      have := (addI0 a b).fin ha hb (by omega) (by omega) (by omega)
      rw [← this]
      exact ⟨nil_eqv eI, trivial⟩
  · rintro ⟨y, w, acc, u⟩ ⟨k, hy, hI⟩
    have hy : y = (k : Int) := hy
    subst hy
    have hI : AddI a b k w acc := hI
    have hk := hI.kle
    have hl := hI.len
    have hw : IntKind.i64.wrap ((k : Int) + 1) = ((k + 1 : Nat) : Int) := wrap_succ (by omega)
    have mu : mxl a b + 2 - (IntKind.i64.wrap ((k : Int) + 1)).toNat < mxl a b + 2 - (k : Int).toNat := by rw [hw]; omega
    refine wp_br (fun hx => ?_) (fun hx => wp_br (fun hy => ?_) (fun hy => wp_br (fun hz => ?_) (fun hz => ?_)))
    · have hlt := lt_of_dec hx
      obtain ⟨s1, s2, s3, s4⟩ := hI.step ha hb (.inl hlt)
      dsimp only [Int.toNat_natCast]
      simp only [s1, s2, s3]
      obtain ⟨o1, o2⟩ := in_more (l := acc) (x := (a.getD k 0 + b.getD k 0 + w) % 1000000000)
      exact ⟨Enc.is_F _ _ _, by omega, Enc.is_F _ _ _, by omega, by omega, Nat.le_refl _, o1, Nat.le_refl _, ⟨k + 1, hw, by rw [o2]; exact s4⟩, mu⟩
    · have hlt := lt_of_dec hy
      obtain ⟨s1, s2, s3, s4⟩ := hI.step ha hb (.inr (.inl hlt))
      dsimp only [Int.toNat_natCast]
      simp only [s1, s2, s3]
      obtain ⟨o1, o2⟩ := in_more (l := acc) (x := (a.getD k 0 + b.getD k 0 + w) % 1000000000)
      exact ⟨Enc.is_F _ _ _, by omega, Enc.is_F _ _ _, by omega, by omega, Nat.le_refl _, o1, Nat.le_refl _, ⟨k + 1, hw, by rw [o2]; exact s4⟩, mu⟩
    · have hz : w > 0 := of_decide_eq_true hz
      obtain ⟨s1, s2, s3, s4⟩ := hI.step ha hb (.inr (.inr hz))
      dsimp only [Int.toNat_natCast]
      simp only [s1, s2, s3]
      obtain ⟨o1, o2⟩ := in_more (l := acc) (x := (a.getD k 0 + b.getD k 0 + w) % 1000000000)
      exact ⟨Enc.is_F _ _ _, by omega, Enc.is_F _ _ _, by omega, by omega, Nat.le_refl _, o1, Nat.le_refl _, ⟨k + 1, hw, by rw [o2]; exact s4⟩, mu⟩
    · have h1 := ge_of_dec hx
      have h2 := ge_of_dec hy
      have hz : ¬ w > 0 := of_decide_eq_false hz
      rw [← hI.fin ha hb h1 h2 hz]
      exact ⟨Nat.le_refl _, ⟨(fun e => by cases e), rfl, fun _ => rfl, fun i j hi hj => D.eqv_refl _⟩, trivial⟩
def dom186 : DomF
  | [.c (.sl _ n_a st_a F_a), .c (.sl _ n_b st_b F_b)] => (match (Nat.beq st_a 1 || Nat.beq n_a 0) && (Nat.beq st_b 1 || Nat.beq n_b 0) with
    | true => some ([eI.Is n_a F_a, eI.Is n_b F_b, Dg (eI.list n_a F_a), Dg (eI.list n_b F_b), (eI.list n_a F_a).length ≤ 100000, (eI.list n_b F_b).length ≤ 100000], [.c (.sl false (M.addD (eI.list n_a F_a) (eI.list n_b F_b)).length 1 (eI.F (M.addD (eI.list n_a F_a) (eI.list n_b F_b))))])
    | _ => none)
  | _ => none
def v186 : Nat × Sm := (186, fokSm dom186)
theorem C186 : FOK Try.prog G0 gw 186 dom186 := by
  intro ags p r hd hp κ w xs hw hl hG hx
  unfold dom186 at hd
  split at hd
  · rename_i q_a n_a st_a F_a q_b n_b st_b F_b
    split at hd
    · rename_i hst
      simp only [Bool.and_eq_true] at hst
      obtain ⟨g1, g2⟩ := hst
      simp only [Option.some.injEq, Prod.mk.injEq] at hd
      obtain ⟨rfl, rfl⟩ := hd
      obtain ⟨hI_a, hI_b, hp⟩ := hp
      have heq : agsEqv [.c (.sl q_a n_a st_a F_a), .c (.sl q_b n_b st_b F_b)] [.c (.sl q_a (eI.list n_a F_a).length 1 (eI.F (eI.list n_a F_a))), .c (.sl q_b (eI.list n_b F_b).length 1 (eI.F (eI.list n_b F_b)))] := ⟨eI.toz g1 hI_a, eI.toz g2 hI_b, trivial⟩
      have len_a : (eI.list n_a F_a).length = n_a := eI.list_len
      have len_b : (eI.list n_b F_b).length = n_b := eI.list_len
      generalize eI.list n_a F_a = a at *
      generalize eI.list n_b F_b = b at *
      subst len_a len_b
      exact fokX_fin mixed gw_stable (sl := [v187]) ⟨S187, trivial⟩ Try.func186 hw hl hG hx heq rfl (t186 _ _ _ _) (w186 _ _ _ _ hp.1 hp.2.1 hp.2.2.1 hp.2.2.2.1)
    · cases hd
  · cases hd
theorem S186 : SumOK Try.prog G0 gw 186 (fokSm dom186) := fok_sum Try.func186 rfl C186
namespace M
def wos (s z : Int) : Int := if z = 0 then 0 else s
end M
theorem dig_nil {z : Int} (h : 0 ≤ z) : ((M.dig z).length : Int) = 0 ↔ z = 0 := by
  constructor
  · intro h1
    have h2 := val_dig h
    have : M.dig z = [] := List.length_eq_zero_iff.1 (by omega)
    rw [this] at h2
    exact h2.symm
  · rintro rfl; rfl
def tr161 (s : Int) (q_l : Bool) (l : List Int) : T (List Ar) :=
    T.need (iI l) (T.need (Dg (cI l)) (T.need (List.length (cI l) ≤ (1000000 : Nat)) (T.br ((Nat.cast (R := Int) (List.length (M.dig (val (cI l))))) == (0 : Int)) (T.ret [Ar.agg [D.int IntKind.i64 (0 : Int), D.sl false (List.length (M.dig (val (cI l)))) (1 : Nat) (Enc.F eI (M.dig (val (cI l))))]]) (T.ret [Ar.agg [D.int IntKind.i64 s, D.sl false (List.length (M.dig (val (cI l)))) (1 : Nat) (Enc.F eI (M.dig (val (cI l))))]]))))
theorem t161 (s : Int) (q_l : Bool) (l : List Int) : runFnX Try.prog G0 (lookS [v162]) (fun _ => []) [] 1 60 4 161 Try.f161 [.c (dI s), .c (.sl q_l l.length 1 (eI.F l))] =
    tr161 s q_l l := by kernel_rfl
theorem w161 (s : Int) (q : Bool) (l : List Int) (hd : Dg l) (hl : l.length ≤ 1000000) : (tr161 s q l).wp (fun rs => rsEqv rs [.agg [dI (M.wos s (val l)), .sl false (M.dig (val l)).length 1 (eI.F (M.dig (val l)))]]) := by
  unfold tr161 M.wos
  simp only [cI, iI, Enc.list_F]
  have h0 := (val_bnd hd).1
  refine ⟨Enc.is_F _ _ _, hd, hl, wp_br (fun hb => ?_) (fun hb => ?_)⟩
  · rw [if_pos ((dig_nil h0).1 (by simpa using hb))]; exact rsEqv_refl _
  · rw [if_neg (fun h => by rw [beq_eq_false_iff_ne] at hb; exact hb ((dig_nil h0).2 h))]; exact rsEqv_refl _
def dom161 : DomF
  | [.c (.int .i64 s), .c (.sl _ n_l st_l F_l)] => (match (Nat.beq st_l 1 || Nat.beq n_l 0) with
    | true => some ([eI.Is n_l F_l, Dg (eI.list n_l F_l), (eI.list n_l F_l).length ≤ 1000000], [.agg [dI (M.wos s (val (eI.list n_l F_l))), .sl false (M.dig (val (eI.list n_l F_l))).length 1 (eI.F (M.dig (val (eI.list n_l F_l))))]])
    | _ => none)
  | _ => none
def v161 : Nat × Sm := (161, fokSm dom161)
theorem C161 : FOK Try.prog G0 gw 161 dom161 := by
  intro ags p r hd hp κ w xs hw hl hG hx
  unfold dom161 at hd
  split at hd
  · rename_i s q_l n_l st_l F_l
    split at hd
    · rename_i hst
      have g1 := hst
      simp only [Option.some.injEq, Prod.mk.injEq] at hd
      obtain ⟨rfl, rfl⟩ := hd
      obtain ⟨hI_l, hp⟩ := hp
      have heq : agsEqv [.c (.int .i64 s), .c (.sl q_l n_l st_l F_l)] [.c (.int .i64 s), .c (.sl q_l (eI.list n_l F_l).length 1 (eI.F (eI.list n_l F_l)))] := ⟨Ag.eqv_refl _, eI.toz g1 hI_l, trivial⟩
      have len_l : (eI.list n_l F_l).length = n_l := eI.list_len
      generalize eI.list n_l F_l = l at *
      subst len_l
      exact fokX_fin mixed gw_stable (sl := [v162]) ⟨S162, trivial⟩ Try.func161 hw hl hG hx heq rfl (t161 _ _ _) (w161 _ _ _ hp.1 hp.2.1)
    · cases hd
  · cases hd
theorem S161 : SumOK Try.prog G0 gw 161 (fokSm dom161) := fok_sum Try.func161 rfl C161
end Go.Pl
end

section
set_option linter.unusedVariables false
set_option linter.unusedSimpArgs false
set_option maxRecDepth 100000
namespace Go.Pl
open Go.V Go.Proofs
namespace M
def mag (z : Int) : List Int := dig (z.natAbs : Int)
end M
structure OfI (n c : Int) (acc : List Int) : Prop where
  dg : Dg acc
  v : val acc + bp acc.length * c = n
  c0 : 0 ≤ c
  sz : acc.length = 0 ∧ c ≤ 9223372036854775807 ∨ acc.length = 1 ∧ c ≤ 9223372036 ∨ acc.length = 2 ∧ c ≤ 9 ∨ acc.length = 3 ∧ c = 0
theorem OfI.step {n c : Int} {acc : List Int} (h : OfI n c acc) (hc : c > 0) :
    c.tmod 1000000000 = c % 1000000000 ∧ IntKind.i64.wrap (c.tdiv 1000000000) = c / 1000000000 ∧ acc.length ≤ 2 ∧ OfI n (c / 1000000000) (acc ++ [c % 1000000000]) := by
  have h0 := h.c0
  have hs := h.sz
  have hr := Int.tmod_eq_emod_of_nonneg (a := c) (b := 1000000000) h0
  have hq := Int.tdiv_eq_ediv_of_nonneg (a := c) (b := 1000000000) h0
  refine ⟨hr, by rw [hq]; exact wrap_id (by omega) (by omega), by omega, dg_push h.dg (by omega), ?_, by omega, by rw [List.length_append, List.length_singleton]; omega⟩
  rw [val_push, List.length_append, List.length_singleton, bp_succ]
  have := h.v
  have e := Int.emod_add_mul_ediv c 1000000000
  generalize c % 1000000000 = r at *
  generalize c / 1000000000 = q at *
  generalize bp acc.length = B at *
  grind
theorem OfI.fin {n c : Int} {acc : List Int} (h : OfI n c acc) (hc : ¬ c > 0) : val acc = n := by
  have h0 := h.c0
  obtain rfl : c = 0 := by omega
  have := h.v
  rwa [Int.mul_zero, Int.add_zero] at this
theorem wos_sgn {s n : Int} (h : n < 0 ∧ s = -1 ∨ 0 ≤ n ∧ s = 1) : M.wos s (n.natAbs : Int) = M.sgn n := by
  unfold M.wos M.sgn
  split <;> split <;> (try split) <;> omega
theorem hnil : eI.Is 0 (fun _ _ => D.nilp) := fun i j hi => absurd hi (Nat.not_lt_zero i)
def tr102 (n : Int) : T (List Ar) :=
    T.br (decide (n < (0 : Int))) (T.loop2 (Int × PUnit × PUnit) (Int × List Int × PUnit) (Sum.inl (IntKind.i64.wrap ((0 : Int) - n), PUnit.unit, PUnit.unit)) (fun (x : Int × PUnit × PUnit) => T.br (decide (Prod.fst x > (0 : Int))) (T.need ((1 : Nat) ≤ (1000000 : Nat)) (T.need (Enc.Is eI (1 : Nat) (joinF (0 : Nat) (fun (x x_1 : Nat) => D.nilp) fun (i j : Nat) => List.getD [D.int IntKind.i64 (Int.tmod (Prod.fst x) (1000000000 : Int))] (i * (1 : Nat) + j) D.nilp)) (T.need ((1 : Nat) ≤ (1 : Nat)) (T.ret (Sum.inl (Sum.inr (IntKind.i64.wrap (Int.tdiv (Prod.fst x) (1000000000 : Int)), Enc.list eI (1 : Nat) (joinF (0 : Nat) (fun (x x_1 : Nat) => D.nilp) fun (i j : Nat) => List.getD [D.int IntKind.i64 (Int.tmod (Prod.fst x) (1000000000 : Int))] (i * (1 : Nat) + j) D.nilp), PUnit.unit))))))) (T.need (Enc.Is eI (0 : Nat) fun (x x_1 : Nat) => D.nilp) (T.need (Dg (Enc.list eI (0 : Nat) fun (x x_1 : Nat) => D.nilp)) (T.need (List.length (Enc.list eI (0 : Nat) fun (x x_1 : Nat) => D.nilp) ≤ (1000000 : Nat)) (T.ret (Sum.inr [Ar.agg [D.int IntKind.i64 (0 : Int), D.sl false (List.length (M.dig (0 : Int))) (1 : Nat) (Enc.F eI (M.dig (0 : Int)))]])))))) fun (y : Int × List Int × PUnit) => T.br (decide (Prod.fst y > (0 : Int))) (T.need (List.length (Prod.fst (Prod.snd y)) + (1 : Nat) ≤ (1000000 : Nat)) (T.need (List.length (Prod.fst (Prod.snd y)) ≤ List.length (Prod.fst (Prod.snd y))) (T.need (Enc.Is eI (List.length (Prod.fst (Prod.snd y)) + (1 : Nat)) (joinF (List.length (Prod.fst (Prod.snd y))) (Enc.F eI (Prod.fst (Prod.snd y))) fun (i j : Nat) => List.getD [D.int IntKind.i64 (Int.tmod (Prod.fst y) (1000000000 : Int))] (i * (1 : Nat) + j) D.nilp)) (T.need (List.length (Prod.fst (Prod.snd y)) + (1 : Nat) ≤ List.length (Prod.fst (Prod.snd y)) + (1 : Nat)) (T.ret (Sum.inl (Sum.inr (IntKind.i64.wrap (Int.tdiv (Prod.fst y) (1000000000 : Int)), Enc.list eI (List.length (Prod.fst (Prod.snd y)) + (1 : Nat)) (joinF (List.length (Prod.fst (Prod.snd y))) (Enc.F eI (Prod.fst (Prod.snd y))) fun (i j : Nat) => List.getD [D.int IntKind.i64 (Int.tmod (Prod.fst y) (1000000000 : Int))] (i * (1 : Nat) + j) D.nilp), PUnit.unit)))))))) (T.need (List.length (Prod.fst (Prod.snd y)) ≤ List.length (Prod.fst (Prod.snd y))) (T.need (Enc.Is eI (List.length (Prod.fst (Prod.snd y))) (Enc.F eI (Prod.fst (Prod.snd y)))) (T.need (Dg (Enc.list eI (List.length (Prod.fst (Prod.snd y))) (Enc.F eI (Prod.fst (Prod.snd y))))) (T.need (List.length (Enc.list eI (List.length (Prod.fst (Prod.snd y))) (Enc.F eI (Prod.fst (Prod.snd y)))) ≤ (1000000 : Nat)) (T.ret (Sum.inr [Ar.agg [D.int IntKind.i64 (M.wos (-1 : Int) (val (Enc.list eI (List.length (Prod.fst (Prod.snd y))) (Enc.F eI (Prod.fst (Prod.snd y)))))), D.sl false (List.length (M.dig (val (Enc.list eI (List.length (Prod.fst (Prod.snd y))) (Enc.F eI (Prod.fst (Prod.snd y))))))) (1 : Nat) (Enc.F eI (M.dig (val (Enc.list eI (List.length (Prod.fst (Prod.snd y))) (Enc.F eI (Prod.fst (Prod.snd y)))))))]]))))))) (T.loop2 (Int × PUnit × PUnit) (Int × List Int × PUnit) (Sum.inl (n, PUnit.unit, PUnit.unit)) (fun (x : Int × PUnit × PUnit) => T.br (decide (Prod.fst x > (0 : Int))) (T.need ((1 : Nat) ≤ (1000000 : Nat)) (T.need (Enc.Is eI (1 : Nat) (joinF (0 : Nat) (fun (x x_1 : Nat) => D.nilp) fun (i j : Nat) => List.getD [D.int IntKind.i64 (Int.tmod (Prod.fst x) (1000000000 : Int))] (i * (1 : Nat) + j) D.nilp)) (T.need ((1 : Nat) ≤ (1 : Nat)) (T.ret (Sum.inl (Sum.inr (IntKind.i64.wrap (Int.tdiv (Prod.fst x) (1000000000 : Int)), Enc.list eI (1 : Nat) (joinF (0 : Nat) (fun (x x_1 : Nat) => D.nilp) fun (i j : Nat) => List.getD [D.int IntKind.i64 (Int.tmod (Prod.fst x) (1000000000 : Int))] (i * (1 : Nat) + j) D.nilp), PUnit.unit))))))) (T.need (Enc.Is eI (0 : Nat) fun (x x_1 : Nat) => D.nilp) (T.need (Dg (Enc.list eI (0 : Nat) fun (x x_1 : Nat) => D.nilp)) (T.need (List.length (Enc.list eI (0 : Nat) fun (x x_1 : Nat) => D.nilp) ≤ (1000000 : Nat)) (T.ret (Sum.inr [Ar.agg [D.int IntKind.i64 (0 : Int), D.sl false (List.length (M.dig (0 : Int))) (1 : Nat) (Enc.F eI (M.dig (0 : Int)))]])))))) fun (y : Int × List Int × PUnit) => T.br (decide (Prod.fst y > (0 : Int))) (T.need (List.length (Prod.fst (Prod.snd y)) + (1 : Nat) ≤ (1000000 : Nat)) (T.need (List.length (Prod.fst (Prod.snd y)) ≤ List.length (Prod.fst (Prod.snd y))) (T.need (Enc.Is eI (List.length (Prod.fst (Prod.snd y)) + (1 : Nat)) (joinF (List.length (Prod.fst (Prod.snd y))) (Enc.F eI (Prod.fst (Prod.snd y))) fun (i j : Nat) => List.getD [D.int IntKind.i64 (Int.tmod (Prod.fst y) (1000000000 : Int))] (i * (1 : Nat) + j) D.nilp)) (T.need (List.length (Prod.fst (Prod.snd y)) + (1 : Nat) ≤ List.length (Prod.fst (Prod.snd y)) + (1 : Nat)) (T.ret (Sum.inl (Sum.inr (IntKind.i64.wrap (Int.tdiv (Prod.fst y) (1000000000 : Int)), Enc.list eI (List.length (Prod.fst (Prod.snd y)) + (1 : Nat)) (joinF (List.length (Prod.fst (Prod.snd y))) (Enc.F eI (Prod.fst (Prod.snd y))) fun (i j : Nat) => List.getD [D.int IntKind.i64 (Int.tmod (Prod.fst y) (1000000000 : Int))] (i * (1 : Nat) + j) D.nilp), PUnit.unit)))))))) (T.need (List.length (Prod.fst (Prod.snd y)) ≤ List.length (Prod.fst (Prod.snd y))) (T.need (Enc.Is eI (List.length (Prod.fst (Prod.snd y))) (Enc.F eI (Prod.fst (Prod.snd y)))) (T.need (Dg (Enc.list eI (List.length (Prod.fst (Prod.snd y))) (Enc.F eI (Prod.fst (Prod.snd y))))) (T.need (List.length (Enc.list eI (List.length (Prod.fst (Prod.snd y))) (Enc.F eI (Prod.fst (Prod.snd y)))) ≤ (1000000 : Nat)) (T.ret (Sum.inr [Ar.agg [D.int IntKind.i64 (M.wos (1 : Int) (val (Enc.list eI (List.length (Prod.fst (Prod.snd y))) (Enc.F eI (Prod.fst (Prod.snd y)))))), D.sl false (List.length (M.dig (val (Enc.list eI (List.length (Prod.fst (Prod.snd y))) (Enc.F eI (Prod.fst (Prod.snd y))))))) (1 : Nat) (Enc.F eI (M.dig (val (Enc.list eI (List.length (Prod.fst (Prod.snd y))) (Enc.F eI (Prod.fst (Prod.snd y)))))))]])))))))
theorem t102 (n : Int) : runFnX Try.prog G0 (lookS [v161]) (fun _ => [(5, [.slot 0 (.int .i64), .slot 4 .nsl], some [.slot 0 (.int .i64), .slot 4 (.rowE 3 eI)])]) [] 1 60 4 102 Try.f102 [.c (dI n)] =
    tr102 n := by kernel_rfl
theorem w102 (n : Int) (h1 : -9223372036854775807 ≤ n) (h2 : n ≤ 9223372036854775807) : (tr102 n).wp (fun rs => rsEqv rs [.agg [dI (M.sgn (n)), .sl false (M.mag (n)).length 1 (eI.F (M.mag (n)))]]) := by
  unfold tr102
  refine wp_br (fun hb => ?_) (fun hb => ?_)
  · have hb : n < 0 := of_decide_eq_true hb
    rw [show (0 : Int) - n = (n.natAbs : Int) by omega, wrap_id (n := (n.natAbs : Int)) (by omega) (by omega)]
    have ws : M.wos (-1) (n.natAbs : Int) = M.sgn n := wos_sgn (.inl ⟨hb, rfl⟩)
    refine ⟨fun z => match z with
      | .inl x => x = ((n.natAbs : Int), PUnit.unit, PUnit.unit)
      | .inr y => OfI n.natAbs y.1 y.2.1,
      fun z => match z with | .inl x => x.1.toNat + 1 | .inr y => y.1.toNat, rfl, ?_, ?_⟩
    · rintro x rfl
      have hI : OfI n.natAbs n.natAbs [] := ⟨fun x hx => (by cases hx), by show 0 + 1 * (n.natAbs : Int) = _; omega, by omega, .inl ⟨rfl, by omega⟩⟩
      refine wp_br (fun hx => ?_) (fun hx => ?_)
      · have hx : (n.natAbs : Int) > 0 := of_decide_eq_true hx
        obtain ⟨s1, s2, s3, s4⟩ := hI.step hx
        dsimp only
        simp only [s1, s2]
        obtain ⟨o1, o2⟩ := in_1 (x := (n.natAbs : Int) % 1000000000)
        refine ⟨by decide, o1, Nat.le_refl _, by rw [o2]; exact s4, ?_⟩
        show ((n.natAbs : Int) / 1000000000).toNat < (n.natAbs : Int).toNat + 1
        omega
      · have hx : ¬ (n.natAbs : Int) > 0 := of_decide_eq_false hx
        obtain rfl : n = 0 := by omega
        exact ⟨hnil, fun x hx => (by cases hx), by decide, rsEqv_refl _⟩
    · rintro ⟨c, acc, u⟩ hI
      have hI : OfI n.natAbs c acc := hI
      refine wp_br (fun hx => ?_) (fun hx => ?_)
      · have hx : c > 0 := of_decide_eq_true hx
        obtain ⟨s1, s2, s3, s4⟩ := hI.step hx
        dsimp only
        simp only [s1, s2]
        obtain ⟨o1, o2⟩ := in_more (l := acc) (x := c % 1000000000)
        refine ⟨by omega, Nat.le_refl _, o1, Nat.le_refl _, by rw [o2]; exact s4, ?_⟩
        show (c / 1000000000).toNat < c.toNat
        omega
      · have hx : ¬ c > 0 := of_decide_eq_false hx
        have hv := hI.fin hx
        have hs := hI.sz
        dsimp only
        simp only [Enc.list_F, hv, ws]
        exact ⟨Nat.le_refl _, Enc.is_F _ _ _, hI.dg, by omega, rsEqv_refl _⟩
  · have hb : ¬ n < 0 := of_decide_eq_false hb
    have ws : M.wos 1 (n.natAbs : Int) = M.sgn n := wos_sgn (.inr ⟨by omega, rfl⟩)
    have hn : n = (n.natAbs : Int) := by omega
    conv => arg 1; rw [hn]
    refine ⟨fun z => match z with
      | .inl x => x = ((n.natAbs : Int), PUnit.unit, PUnit.unit)
      | .inr y => OfI n.natAbs y.1 y.2.1,
      fun z => match z with | .inl x => x.1.toNat + 1 | .inr y => y.1.toNat, rfl, ?_, ?_⟩
    · rintro x rfl
      have hI : OfI n.natAbs n.natAbs [] := ⟨fun x hx => (by cases hx), by show 0 + 1 * (n.natAbs : Int) = _; omega, by omega, .inl ⟨rfl, by omega⟩⟩
      refine wp_br (fun hx => ?_) (fun hx => ?_)
      · have hx : (n.natAbs : Int) > 0 := of_decide_eq_true hx
        obtain ⟨s1, s2, s3, s4⟩ := hI.step hx
        dsimp only
        simp only [s1, s2]
        obtain ⟨o1, o2⟩ := in_1 (x := (n.natAbs : Int) % 1000000000)
        refine ⟨by decide, o1, Nat.le_refl _, by rw [o2]; exact s4, ?_⟩
        show ((n.natAbs : Int) / 1000000000).toNat < (n.natAbs : Int).toNat + 1
        omega
      · have hx : ¬ (n.natAbs : Int) > 0 := of_decide_eq_false hx
        obtain rfl : n = 0 := by omega
        exact ⟨hnil, fun x hx => (by cases hx), by decide, rsEqv_refl _⟩
    · rintro ⟨c, acc, u⟩ hI
      have hI : OfI n.natAbs c acc := hI
      refine wp_br (fun hx => ?_) (fun hx => ?_)
      · have hx : c > 0 := of_decide_eq_true hx
        obtain ⟨s1, s2, s3, s4⟩ := hI.step hx
        dsimp only
        simp only [s1, s2]
        obtain ⟨o1, o2⟩ := in_more (l := acc) (x := c % 1000000000)
        refine ⟨by omega, Nat.le_refl _, o1, Nat.le_refl _, by rw [o2]; exact s4, ?_⟩
        show (c / 1000000000).toNat < c.toNat
        omega
      · have hx : ¬ c > 0 := of_decide_eq_false hx
        have hv := hI.fin hx
        have hs := hI.sz
        dsimp only
        simp only [Enc.list_F, hv, ws]
        exact ⟨Nat.le_refl _, Enc.is_F _ _ _, hI.dg, by omega, rsEqv_refl _⟩
def dom102 : DomF
  | [.c (.int .i64 n)] => some ([-9223372036854775807 ≤ n, n ≤ 9223372036854775807], [.agg [dI (M.sgn (n)), .sl false (M.mag (n)).length 1 (eI.F (M.mag (n)))]])
  | _ => none
def v102 : Nat × Sm := (102, fokSm dom102)
theorem C102 : FOK Try.prog G0 gw 102 dom102 := by
  intro ags p r hd hp κ w xs hw hl hG hx
  unfold dom102 at hd
  split at hd
  · rename_i n
    simp only [Option.some.injEq, Prod.mk.injEq] at hd
    obtain ⟨rfl, rfl⟩ := hd
    have heq : agsEqv [.c (.int .i64 n)] [.c (.int .i64 n)] := ⟨Ag.eqv_refl _, trivial⟩
    exact fokX_fin mixed gw_stable (sl := [v161]) ⟨S161, trivial⟩ Try.func102 hw hl hG hx heq rfl (t102 _) (w102 _ hp.1 hp.2.1)
  · cases hd
theorem S102 : SumOK Try.prog G0 gw 102 (fokSm dom102) := fok_sum Try.func102 rfl C102
def tr117 (sga : Int) (q_dia : Bool) (dia : List Int) : T (List Ar) :=
    T.ret [Ar.agg [D.int IntKind.i64 (IntKind.i64.wrap ((0 : Int) - sga)), D.sl q_dia (List.length dia) (1 : Nat) (Enc.F eI dia)]]
theorem t117 (sga : Int) (q_dia : Bool) (dia : List Int) : runFnX Try.prog G0 (lookS []) (fun _ => []) [] 1 60 4 117 Try.f117 [.agg [dI sga, .sl q_dia dia.length 1 (eI.F dia)]] =
    tr117 sga q_dia dia := by kernel_rfl
theorem sgn_neg (x : Int) : M.sgn (-x) = - M.sgn x := by
  unfold M.sgn
  split <;> split <;> (try split) <;> (try split) <;> omega
theorem sgn_bd (x : Int) : M.sgn x = -1 ∨ M.sgn x = 0 ∨ M.sgn x = 1 := by
  unfold M.sgn
  split
  · exact .inl rfl
  · split
    · exact .inr (.inl rfl)
    · exact .inr (.inr rfl)
theorem w117 (s : Int) (q : Bool) (l : List Int) (hc : Can s l) : (tr117 s q l).wp (fun rs => rsEqv rs [.agg [dI (M.sgn (-M.wv s l)), .sl false (M.mag (-M.wv s l)).length 1 (eI.F (M.mag (-M.wv s l)))]]) := by
  obtain ⟨x, rfl, rfl⟩ := hc
  have e : M.wv (M.sgn x) (M.dig x.natAbs) = x := mk_val x
  unfold tr117
  have := sgn_bd x
  rw [e, show M.mag (-x) = M.dig x.natAbs by unfold M.mag; rw [Int.natAbs_neg], sgn_neg, wrap_id (n := (0 : Int) - M.sgn x) (by omega) (by omega), Int.zero_sub]
  exact ⟨⟨rfl, ⟨(fun e => by cases e), rfl, fun _ => rfl, fun i j hi hj => D.eqv_refl _⟩, trivial⟩, trivial⟩
def dom117 : DomF
  | [.agg [.int .i64 sga, .sl _ n_dia st_dia F_dia]] => (match (Nat.beq st_dia 1 || Nat.beq n_dia 0) with
    | true => some ([eI.Is n_dia F_dia, Can sga (eI.list n_dia F_dia)], [.agg [dI (M.sgn (-M.wv sga (eI.list n_dia F_dia))), .sl false (M.mag (-M.wv sga (eI.list n_dia F_dia))).length 1 (eI.F (M.mag (-M.wv sga (eI.list n_dia F_dia))))]])
    | _ => none)
  | _ => none
def v117 : Nat × Sm := (117, fokSm dom117)
theorem C117 : FOK Try.prog G0 gw 117 dom117 := by
  intro ags p r hd hp κ w xs hw hl hG hx
  unfold dom117 at hd
  split at hd
  · rename_i sga q_dia n_dia st_dia F_dia
    split at hd
    · rename_i hst
      have g1 := hst
      simp only [Option.some.injEq, Prod.mk.injEq] at hd
      obtain ⟨rfl, rfl⟩ := hd
      obtain ⟨hI_dia, hp⟩ := hp
      have heq : agsEqv [.agg [.int .i64 sga, .sl q_dia n_dia st_dia F_dia]] [.agg [.int .i64 sga, .sl q_dia (eI.list n_dia F_dia).length 1 (eI.F (eI.list n_dia F_dia))]] := ⟨⟨rfl, eI.toz g1 hI_dia, trivial⟩, trivial⟩
      have len_dia : (eI.list n_dia F_dia).length = n_dia := eI.list_len
      generalize eI.list n_dia F_dia = dia at *
      subst len_dia
      exact fokX_fin mixed gw_stable (sl := []) trivial Try.func117 hw hl hG hx heq rfl (t117 _ _ _) (w117 _ _ _ hp.1)
    · cases hd
  · cases hd
theorem S117 : SumOK Try.prog G0 gw 117 (fokSm dom117) := fok_sum Try.func117 rfl C117
def tr159 (sga : Int) (q_dia : Bool) (dia : List Int) (sgb : Int) (q_dib : Bool) (dib : List Int) : T (List Ar) :=
    T.br (sga == (0 : Int)) (T.ret [Ar.agg [D.int IntKind.i64 sgb, D.sl q_dib (List.length dib) (1 : Nat) (Enc.F eI dib)]]) (T.br (sgb == (0 : Int)) (T.ret [Ar.agg [D.int IntKind.i64 sga, D.sl q_dia (List.length dia) (1 : Nat) (Enc.F eI dia)]]) (T.br (sga == sgb) (T.need (iI dia) (T.need (iI dib) (T.need (Dg (cI dia)) (T.need (Dg (cI dib)) (T.need (List.length (cI dia) ≤ (100000 : Nat)) (T.need (List.length (cI dib) ≤ (100000 : Nat)) (T.need (Enc.Is eI (List.length (M.addD (cI dia) (cI dib))) (Enc.F eI (M.addD (cI dia) (cI dib)))) (T.need (Dg (Enc.list eI (List.length (M.addD (cI dia) (cI dib))) (Enc.F eI (M.addD (cI dia) (cI dib))))) (T.need (List.length (Enc.list eI (List.length (M.addD (cI dia) (cI dib))) (Enc.F eI (M.addD (cI dia) (cI dib)))) ≤ (1000000 : Nat)) (T.ret [Ar.agg [D.int IntKind.i64 (M.wos sga (val (Enc.list eI (List.length (M.addD (cI dia) (cI dib))) (Enc.F eI (M.addD (cI dia) (cI dib)))))), D.sl false (List.length (M.dig (val (Enc.list eI (List.length (M.addD (cI dia) (cI dib))) (Enc.F eI (M.addD (cI dia) (cI dib))))))) (1 : Nat) (Enc.F eI (M.dig (val (Enc.list eI (List.length (M.addD (cI dia) (cI dib))) (Enc.F eI (M.addD (cI dia) (cI dib)))))))]])))))))))) (T.need (iI dia) (T.need (iI dib) (T.need (Dg (cI dia)) (T.need (Dg (cI dib)) (T.need (cI dia = M.dig (val (cI dia))) (T.need (cI dib = M.dig (val (cI dib))) (T.need (List.length (cI dia) ≤ (1000000 : Nat)) (T.br (M.cmp3 (val (cI dia)) (val (cI dib)) == (0 : Int)) (T.ret [Ar.agg [D.int IntKind.i64 (0 : Int), D.sl false (0 : Nat) (0 : Nat) fun (x x_1 : Nat) => D.nilp]]) (T.br (decide (M.cmp3 (val (cI dia)) (val (cI dib)) > (0 : Int))) (T.need (iI dia) (T.need (iI dib) (T.need (Dg (cI dia)) (T.need (Dg (cI dib)) (T.need (val (cI dib) ≤ val (cI dia)) (T.need (List.length (cI dib) ≤ List.length (cI dia)) (T.need (List.length (cI dia) ≤ (100000 : Nat)) (T.need (Enc.Is eI (List.length (M.dig (val (cI dia) - val (cI dib)))) (Enc.F eI (M.dig (val (cI dia) - val (cI dib))))) (T.need (Dg (Enc.list eI (List.length (M.dig (val (cI dia) - val (cI dib)))) (Enc.F eI (M.dig (val (cI dia) - val (cI dib)))))) (T.need (List.length (Enc.list eI (List.length (M.dig (val (cI dia) - val (cI dib)))) (Enc.F eI (M.dig (val (cI dia) - val (cI dib))))) ≤ (1000000 : Nat)) (T.ret [Ar.agg [D.int IntKind.i64 (M.wos sga (val (Enc.list eI (List.length (M.dig (val (cI dia) - val (cI dib)))) (Enc.F eI (M.dig (val (cI dia) - val (cI dib))))))), D.sl false (List.length (M.dig (val (Enc.list eI (List.length (M.dig (val (cI dia) - val (cI dib)))) (Enc.F eI (M.dig (val (cI dia) - val (cI dib)))))))) (1 : Nat) (Enc.F eI (M.dig (val (Enc.list eI (List.length (M.dig (val (cI dia) - val (cI dib)))) (Enc.F eI (M.dig (val (cI dia) - val (cI dib))))))))]]))))))))))) (T.need (iI dib) (T.need (iI dia) (T.need (Dg (cI dib)) (T.need (Dg (cI dia)) (T.need (val (cI dia) ≤ val (cI dib)) (T.need (List.length (cI dia) ≤ List.length (cI dib)) (T.need (List.length (cI dib) ≤ (100000 : Nat)) (T.need (Enc.Is eI (List.length (M.dig (val (cI dib) - val (cI dia)))) (Enc.F eI (M.dig (val (cI dib) - val (cI dia))))) (T.need (Dg (Enc.list eI (List.length (M.dig (val (cI dib) - val (cI dia)))) (Enc.F eI (M.dig (val (cI dib) - val (cI dia)))))) (T.need (List.length (Enc.list eI (List.length (M.dig (val (cI dib) - val (cI dia)))) (Enc.F eI (M.dig (val (cI dib) - val (cI dia))))) ≤ (1000000 : Nat)) (T.ret [Ar.agg [D.int IntKind.i64 (M.wos sgb (val (Enc.list eI (List.length (M.dig (val (cI dib) - val (cI dia)))) (Enc.F eI (M.dig (val (cI dib) - val (cI dia))))))), D.sl false (List.length (M.dig (val (Enc.list eI (List.length (M.dig (val (cI dib) - val (cI dia)))) (Enc.F eI (M.dig (val (cI dib) - val (cI dia)))))))) (1 : Nat) (Enc.F eI (M.dig (val (Enc.list eI (List.length (M.dig (val (cI dib) - val (cI dia)))) (Enc.F eI (M.dig (val (cI dib) - val (cI dia))))))))]]))))))))))))))))))))))
theorem t159 (sga : Int) (q_dia : Bool) (dia : List Int) (sgb : Int) (q_dib : Bool) (dib : List Int) : runFnX Try.prog G0 (lookS [v161, v163, v164, v186]) (fun _ => []) [] 1 60 4 159 Try.f159 [.agg [dI sga, .sl q_dia dia.length 1 (eI.F dia)], .agg [dI sgb, .sl q_dib dib.length 1 (eI.F dib)]] =
    tr159 sga q_dia dia sgb q_dib dib := by kernel_rfl
theorem sgn_zero {x : Int} (h : M.sgn x = 0) : x = 0 := by
  unfold M.sgn at h
  split at h
  · omega
  · split at h
    · assumption
    · omega
theorem w_any {x y z : Int} {q : Bool} {l : List Int} (h : x = M.sgn z) (h2 : l = M.dig (z.natAbs : Int)) (_ : y = z) : rsEqv [.agg [dI x, .sl q l.length 1 (eI.F l)]] [.agg [dI (M.sgn (z)), .sl false (M.mag (z)).length 1 (eI.F (M.mag (z)))]] := by
  subst h h2
  exact ⟨⟨rfl, ⟨(fun e => by cases e), rfl, fun _ => rfl, fun i j hi hj => D.eqv_refl _⟩, trivial⟩, trivial⟩
theorem w159 (x : Int) (qa : Bool) (y : Int) (qb : Bool) (hx : (M.dig (x.natAbs : Int)).length ≤ 90000) (hy : (M.dig (y.natAbs : Int)).length ≤ 90000) : (tr159 (M.sgn x) qa (M.dig x.natAbs) (M.sgn y) qb (M.dig y.natAbs)).wp (fun rs => rsEqv rs [.agg [dI (M.sgn (x + y)), .sl false (M.mag (x + y)).length 1 (eI.F (M.mag (x + y)))]]) := by
  unfold tr159
  have vx : val (M.dig (x.natAbs : Int)) = x.natAbs := val_dig (by omega)
  have vy : val (M.dig (y.natAbs : Int)) = y.natAbs := val_dig (by omega)
  have dx := dig_dg (x.natAbs : Int)
  have dy := dig_dg (y.natAbs : Int)
  obtain ⟨a1, a2, a3⟩ := addD_ok dx dy
  rw [vx, vy] at a2
  have hm : mxl (M.dig (x.natAbs : Int)) (M.dig (y.natAbs : Int)) ≤ 90000 := by unfold mxl; omega
  have sub : ∀ {u v : Int}, 0 ≤ u → u ≤ v → val (M.dig (v - u)) = v - u := fun h1 h2 => val_dig (by omega)
  have sln : ∀ {u v : Int}, 0 ≤ u → u ≤ v → (M.dig (v - u)).length ≤ (M.dig v).length := fun {u v} h1 h2 => by
    rw [dig_len, dig_len]
    exact nd_le _ (by omega) (Int.lt_of_le_of_lt (show v - u ≤ v by omega) (nd_bnd _ v rfl (by omega)))
  have lle : ∀ {u v : Int}, 0 ≤ u → u ≤ v → (M.dig u).length ≤ (M.dig v).length := fun {u v} h1 h2 => by
    rw [dig_len, dig_len]
    exact nd_le _ h1 (Int.lt_of_le_of_lt h2 (nd_bnd _ v rfl (by omega)))
  simp only [cI, iI, Enc.list_F, vx, vy, a2]
  refine wp_br (fun h => ?_) (fun h => wp_br (fun h2 => ?_) (fun h2 => wp_br (fun h3 => ?_) (fun h3 => ?_)))
  · obtain rfl := sgn_zero (by simpa using h)
    rw [Int.zero_add]
    exact w_any rfl rfl rfl
  · obtain rfl := sgn_zero (by simpa using h2)
    rw [Int.add_zero]
    exact w_any rfl rfl rfl
  · have h3 : M.sgn x = M.sgn y := by simpa using h3
    have e : ((x.natAbs : Int) + y.natAbs) = ((x + y).natAbs : Int) ∧ M.wos (M.sgn x) ((x.natAbs : Int) + y.natAbs) = M.sgn (x + y) := by
      have h : ¬ M.sgn x = 0 := by simpa using h
      unfold M.wos
      revert h3 h
      unfold M.sgn
      repeat' split
      all_goals (intros; omega)
    refine ⟨Enc.is_F _ _ _, Enc.is_F _ _ _, dx, dy, by omega, by omega, Enc.is_F _ _ _, a1, by omega, ?_⟩
    rw [e.2, e.1]; exact rsEqv_refl _
  · have h3 : ¬ M.sgn x = M.sgn y := by simpa using h3
    have h : ¬ M.sgn x = 0 := by simpa using h
    have h2 : ¬ M.sgn y = 0 := by simpa using h2
    refine ⟨Enc.is_F _ _ _, Enc.is_F _ _ _, dx, dy, trivial, trivial, by omega, wp_br (fun h4 => ?_) (fun h4 => wp_br (fun h5 => ?_) (fun h5 => ?_))⟩
    · have h4 : M.cmp3 (x.natAbs : Int) y.natAbs = 0 := by simpa using h4
      have e : x + y = 0 := by
        unfold M.cmp3 at h4
        split at h4
        · omega
        · split at h4
          · revert h3 h h2
            unfold M.sgn
            repeat' split
            all_goals (intros; omega)
          · omega
      rw [e]
      exact ⟨⟨rfl, nil_eqv eI, trivial⟩, trivial⟩
    · have h5 : M.cmp3 (x.natAbs : Int) y.natAbs > 0 := of_decide_eq_true h5
      have hlt : (y.natAbs : Int) < x.natAbs := by
        unfold M.cmp3 at h5
        split at h5
        · omega
        · split at h5 <;> omega
      have e : ((x.natAbs : Int) - y.natAbs) = ((x + y).natAbs : Int) ∧ M.wos (M.sgn x) ((x.natAbs : Int) - y.natAbs) = M.sgn (x + y) := by
        unfold M.wos
        revert h3 h h2
        unfold M.sgn
        repeat' split
        all_goals (intros; omega)
      have s1 := sub (u := (y.natAbs : Int)) (v := (x.natAbs : Int)) (by omega) (by omega)
      have s2 := sln (u := (y.natAbs : Int)) (v := (x.natAbs : Int)) (by omega) (by omega)
      simp only [s1]
      refine ⟨Enc.is_F _ _ _, Enc.is_F _ _ _, dx, dy, by omega, lle (by omega) (by omega), by omega, Enc.is_F _ _ _, dig_dg _, by omega, ?_⟩
      rw [e.2, e.1]; exact rsEqv_refl _
    · have h5 : ¬ M.cmp3 (x.natAbs : Int) y.natAbs > 0 := of_decide_eq_false h5
      have h4 : ¬ M.cmp3 (x.natAbs : Int) y.natAbs = 0 := by simpa using h4
      have hlt : (x.natAbs : Int) < y.natAbs := by
        unfold M.cmp3 at h5 h4
        split at h5
        · omega
        · split at h5
          · simp_all
          · omega
      have e : ((y.natAbs : Int) - x.natAbs) = ((x + y).natAbs : Int) ∧ M.wos (M.sgn y) ((y.natAbs : Int) - x.natAbs) = M.sgn (x + y) := by
        unfold M.wos
        revert h3 h h2
        unfold M.sgn
        repeat' split
        all_goals (intros; omega)
      have s1 := sub (u := (x.natAbs : Int)) (v := (y.natAbs : Int)) (by omega) (by omega)
      have s2 := sln (u := (x.natAbs : Int)) (v := (y.natAbs : Int)) (by omega) (by omega)
      simp only [s1]
      refine ⟨Enc.is_F _ _ _, Enc.is_F _ _ _, dy, dx, by omega, lle (by omega) (by omega), by omega, Enc.is_F _ _ _, dig_dg _, by omega, ?_⟩
      rw [e.2, e.1]; exact rsEqv_refl _
theorem w159' (s : Int) (qa : Bool) (a : List Int) (t : Int) (qb : Bool) (b : List Int) (hs : Can s a) (ht : Can t b) (hx : a.length ≤ 90000) (hy : b.length ≤ 90000) : (tr159 s qa a t qb b).wp (fun rs => rsEqv rs [.agg [dI (M.sgn (M.wv s a + M.wv t b)), .sl false (M.mag (M.wv s a + M.wv t b)).length 1 (eI.F (M.mag (M.wv s a + M.wv t b)))]]) := by
  obtain ⟨x, rfl, rfl⟩ := hs
  obtain ⟨y, rfl, rfl⟩ := ht
  have e1 : M.wv (M.sgn x) (M.dig x.natAbs) = x := mk_val x
  have e2 : M.wv (M.sgn y) (M.dig y.natAbs) = y := mk_val y
  rw [e1, e2]
  exact w159 x qa y qb hx hy
def dom159 : DomF
  | [.agg [.int .i64 sga, .sl _ n_dia st_dia F_dia], .agg [.int .i64 sgb, .sl _ n_dib st_dib F_dib]] => (match (Nat.beq st_dia 1 || Nat.beq n_dia 0) && (Nat.beq st_dib 1 || Nat.beq n_dib 0) with
    | true => some ([eI.Is n_dia F_dia, eI.Is n_dib F_dib, Can sga (eI.list n_dia F_dia), Can sgb (eI.list n_dib F_dib), (eI.list n_dia F_dia).length ≤ 90000, (eI.list n_dib F_dib).length ≤ 90000], [.agg [dI (M.sgn (M.wv sga (eI.list n_dia F_dia) + M.wv sgb (eI.list n_dib F_dib))), .sl false (M.mag (M.wv sga (eI.list n_dia F_dia) + M.wv sgb (eI.list n_dib F_dib))).length 1 (eI.F (M.mag (M.wv sga (eI.list n_dia F_dia) + M.wv sgb (eI.list n_dib F_dib))))]])
    | _ => none)
  | _ => none
def v159 : Nat × Sm := (159, fokSm dom159)
theorem C159 : FOK Try.prog G0 gw 159 dom159 := by
  intro ags p r hd hp κ w xs hw hl hG hx
  unfold dom159 at hd
  split at hd
  · rename_i sga q_dia n_dia st_dia F_dia sgb q_dib n_dib st_dib F_dib
    split at hd
    · rename_i hst
      simp only [Bool.and_eq_true] at hst
      obtain ⟨g1, g2⟩ := hst
      simp only [Option.some.injEq, Prod.mk.injEq] at hd
      obtain ⟨rfl, rfl⟩ := hd
      obtain ⟨hI_dia, hI_dib, hp⟩ := hp
      have heq : agsEqv [.agg [.int .i64 sga, .sl q_dia n_dia st_dia F_dia], .agg [.int .i64 sgb, .sl q_dib n_dib st_dib F_dib]] [.agg [.int .i64 sga, .sl q_dia (eI.list n_dia F_dia).length 1 (eI.F (eI.list n_dia F_dia))], .agg [.int .i64 sgb, .sl q_dib (eI.list n_dib F_dib).length 1 (eI.F (eI.list n_dib F_dib))]] := ⟨⟨rfl, eI.toz g1 hI_dia, trivial⟩, ⟨rfl, eI.toz g2 hI_dib, trivial⟩, trivial⟩
      have len_dia : (eI.list n_dia F_dia).length = n_dia := eI.list_len
      have len_dib : (eI.list n_dib F_dib).length = n_dib := eI.list_len
      generalize eI.list n_dia F_dia = dia at *
      generalize eI.list n_dib F_dib = dib at *
      subst len_dia len_dib
      exact fokX_fin mixed gw_stable (sl := [v161, v163, v164, v186]) ⟨S161, S163, S164, S186, trivial⟩ Try.func159 hw hl hG hx heq rfl (t159 _ _ _ _ _ _) (w159' _ _ _ _ _ _ hp.1 hp.2.1 hp.2.2.1 hp.2.2.2.1)
    · cases hd
  · cases hd
theorem S159 : SumOK Try.prog G0 gw 159 (fokSm dom159) := fok_sum Try.func159 rfl C159
end Go.Pl
end

section
set_option linter.unusedVariables false
set_option linter.unusedSimpArgs false
set_option maxRecDepth 100000
namespace Go.Pl
open Go.V Go.Proofs
namespace M
def gh (r : Rg) : Int := r.hi
def gl (r : Rg) : Int := r.lo
def stLo (g : Rg → Int) (sc : List Scale) (nw : Int) (fl : List Rg) (i : Nat) : Int := (steady g sc nw fl i).1
def stHi (g : Rg → Int) (sc : List Scale) (nw : Int) (fl : List Rg) (i : Nat) : Int := (steady g sc nw fl i).2
end M
def gOf (g : Nat) : Option (Rg → Int) := match Nat.beq g 111, Nat.beq g 112, Nat.beq g 185 with
  | true, _, _ => some M.gh
  | _, true, _ => some M.gl
  | _, _, true => some M.gh
  | _, _, _ => none
theorem gOf_cases {g : Nat} {fd : Rg → Int} (h : gOf g = some fd) : (g = 111 ∧ fd = M.gh) ∨ (g = 112 ∧ fd = M.gl) ∨ (g = 185 ∧ fd = M.gh) := by
  unfold gOf at h
  cases h1 : Nat.beq g 111 with
  | true => rw [h1] at h; cases h; exact .inl ⟨Nat.eq_of_beq_eq_true h1, rfl⟩
  | false =>
    cases h2 : Nat.beq g 112 with
    | true => rw [h1, h2] at h; cases h; exact .inr (.inl ⟨Nat.eq_of_beq_eq_true h2, rfl⟩)
    | false =>
      cases h3 : Nat.beq g 185 with
      | true => rw [h1, h2, h3] at h; cases h; exact .inr (.inr ⟨Nat.eq_of_beq_eq_true h3, rfl⟩)
      | false => rw [h1, h2, h3] at h; cases h
def dom110 : DomF
  | [.agg [.sl _ n st F, .int .i64 nw], .c (.int .i64 i), .c (.fc g k G)] => (match G 0 with
    | .sl _ m st2 F2 => (match Nat.beq st 4 && Nat.beq st2 2 && Nat.beq k 1, gOf g with
      | true, some fd => some ([eSc.Is n F, eRg.Is m F2, m = n, n ≤ 4, 0 ≤ i, i < n, 0 ≤ nw ∧ nw ≤ 100000, ∀ k, k < n → 0 ≤ ((eSc.list n F).getD k dfS).vol ∧ ((eSc.list n F).getD k dfS).vol ≤ 20000, ∀ k, i.toNat ≤ k → k < n → 0 < fd ((eRg.list m F2).getD k dfR) ∧ fd ((eRg.list m F2).getD k dfR) ≤ 100000],
          [.agg [dI (M.stLo fd (eSc.list n F) nw (eRg.list m F2) i.toNat), dI (M.stHi fd (eSc.list n F) nw (eRg.list m F2) i.toNat)]])
      | _, _ => none)
    | _ => none)
  | _ => none
def v110 : Nat × Sm := (110, fokSm dom110)
theorem C110 : FOK Try.prog G0 gw 110 dom110 := by
  intro ags p r hd hp κ w xs hw hl hG hx
  unfold dom110 at hd
  split at hd
  · rename_i q n st F nw i g k G
    split at hd
    · rename_i q2 m st2 F2 hG0
      split at hd
      · rename_i fd hst hgf
        simp only [Bool.and_eq_true] at hst
        have g1 := Nat.eq_of_beq_eq_true hst.1.1
        have g2 := Nat.eq_of_beq_eq_true hst.1.2
        have g3 := Nat.eq_of_beq_eq_true hst.2
        subst g1 g2 g3
        simp only [Option.some.injEq, Prod.mk.injEq] at hd
        obtain ⟨rfl, rfl⟩ := hd
        obtain ⟨i1, i2, hm, h4, hi0, hin, hnw, hv, hf, _⟩ := hp
        obtain ⟨j, rfl⟩ := Int.eq_ofNat_of_zero_le hi0
        have heq : agsEqv [.agg [.sl q n 4 F, .int .i64 nw], .c (.int .i64 (j : Int)), .c (.fc g 1 G)] [.agg [.sl q (eSc.list n F).length 4 (eSc.F (eSc.list n F)), dI nw], .c (dI (j : Int)), .c (.fc g 1 (fun _ => .sl q2 (eRg.list m F2).length 2 (eRg.F (eRg.list m F2))))] := by
          refine ⟨⟨eSc.to id i1, rfl, trivial⟩, Ag.eqv_refl _, ⟨rfl, rfl, fun j hj => ?_⟩, trivial⟩
          obtain rfl : j = 0 := Nat.lt_one_iff.1 hj
          rw [hG0]; exact eRg.to id i2
        have len1 : (eSc.list n F).length = n := eSc.list_len
        have len2 : (eRg.list m F2).length = m := eRg.list_len
        generalize eSc.list n F = sc at *
        generalize eRg.list m F2 = fl at *
        subst len1 len2
        have hj : j < sc.length := by omega
        have hw1 := st_wp (g := fd) hnw h4 hm hv hj (fun k h1 h2 => hf k h1 h2)
        rcases gOf_cases hgf with ⟨rfl, rfl⟩ | ⟨rfl, rfl⟩ | ⟨rfl, rfl⟩
        · exact fokX_fin mixed gw_stable (sl := [v131, v111]) ⟨S131, S111, trivial⟩ Try.func110 hw hl hG hx heq rfl (t110g_111 q q2 sc fl nw j hm h4 hj) hw1
        · exact fokX_fin mixed gw_stable (sl := [v131, v112]) ⟨S131, S112, trivial⟩ Try.func110 hw hl hG hx heq rfl (t110g_112 q q2 sc fl nw j hm h4 hj) hw1
        · exact fokX_fin mixed gw_stable (sl := [v131, v185]) ⟨S131, S185, trivial⟩ Try.func110 hw hl hG hx heq rfl (t110g_185 q q2 sc fl nw j hm h4 hj) hw1
      · cases hd
    · cases hd
  · cases hd
theorem S110 : SumOK Try.prog G0 gw 110 (fokSm dom110) := fok_sum Try.func110 rfl C110
end Go.Pl
end

section
set_option linter.unusedVariables false
set_option linter.unusedSimpArgs false
set_option maxRecDepth 100000
namespace Go.Pl
open Go.V Go.Proofs
theorem scale_right {c : Scale} (h : M.scaleErr c = 0) : (1 ≤ c.vol ∧ c.vol ≤ 20000) ∧ (0 ≤ c.l ∧ c.l ≤ c.h ∧ c.h ≤ c.vol) ∧ 0 ≤ c.least ∧ c.least ≤ 100000 := by
  unfold M.scaleErr at h
  have z := first_zero h
  have a1 := within_iff.1 (unl_zero (by decide) (z _ (List.mem_cons_self ..)))
  have a2 := z _ (List.mem_cons_of_mem _ (List.mem_cons_self ..))
  have a3 := within_iff.1 (unl_zero (by decide) (z _ (List.mem_cons_of_mem _ (List.mem_cons_of_mem _ (List.mem_cons_self ..)))))
  unfold M.rgErr at a2
  have y := first_zero a2
  have b1 := unl_zero (by decide) (y _ (List.mem_cons_self ..))
  have b2 := of_decide_eq_true (unl_zero (by decide) (y _ (List.mem_cons_of_mem _ (List.mem_cons_self ..))))
  rw [Bool.and_eq_true] at b1
  have c1 := within_iff.1 b1.1
  have c2 := within_iff.1 b1.2
  exact ⟨a1, ⟨c1.1, b2, c2.2⟩, a3⟩
theorem draw_right {d : Int} (h : M.drawErr d = 0) : 0 ≤ d ∧ d ≤ 20000 := within_iff.1 (unl_zero (by decide) h)
theorem fl_right {sc : List Scale} {nw d : Int} (hs : (M.checkSys sc nw).2 = 0) (hd : M.drawErr d = 0) : ∀ k, k ≤ sc.length → 0 ≤ (M.fl sc d k).lo ∧ (M.fl sc d k).lo ≤ (M.fl sc d k).hi ∧ (M.fl sc d k).hi ≤ 20000 + 20000 * (k : Int) := by
  obtain ⟨h0, h4, hn, hr⟩ := sys_right hs
  have hd := draw_right hd
  intro k
  induction k with
  | zero => intro _; exact ⟨hd.1, Int.le_refl _, by show d ≤ _; omega⟩
  | succ k ih =>
    intro hk
    obtain ⟨i1, i2, i3⟩ := ih (by omega)
    obtain ⟨s1, s2, s3⟩ := scale_right (hr k (by omega))
    have e1 : (M.fl sc d (k + 1)).lo = IntKind.i64.wrap ((M.fl sc d k).lo + (sc.getD k dfS).l) := rfl
    have e2 : (M.fl sc d (k + 1)).hi = IntKind.i64.wrap ((M.fl sc d k).hi + (sc.getD k dfS).h) := rfl
    rw [e1, e2, wrap_id (by omega) (by omega), wrap_id (by omega) (by omega)]
    exact ⟨by omega, by omega, by omega⟩
theorem flows_right {sc : List Scale} {nw d : Int} (hs : (M.checkSys sc nw).2 = 0) (hd : M.drawErr d = 0) {k : Nat} (hk : k < sc.length) : 0 ≤ ((M.flows sc d).getD k dfR).lo ∧ ((M.flows sc d).getD k dfR).lo ≤ ((M.flows sc d).getD k dfR).hi ∧ ((M.flows sc d).getD k dfR).hi ≤ 100000 := by
  rw [flows_get hk]
  obtain ⟨h1, h2, h3⟩ := fl_right hs hd (k + 1) hk
  have := (sys_right hs).2.1
  exact ⟨h1, h2, by omega⟩
namespace M
def zeroF (sc : List Scale) (d : Int) : Int := firstIdx (fun k => ((flows sc d).getD k dfR).lo == 0) sc.length 0
def stRow (sc : List Scale) (nw d : Int) (k : Nat) : Rg := ⟨stLo gh sc nw (flows sc d) k, stHi gl sc nw (flows sc d) k⟩
def stAll (sc : List Scale) (nw d : Int) : List Rg := (List.range sc.length).map (stRow sc nw d)
def stX (sc : List Scale) (nw d : Int) : List Rg × Int := cond (decide (zeroF sc d < 0)) (cond (decide (over sc (flows sc d) ≥ 0)) ([], 16) (stAll sc nw d, 0)) ([], 11)
def stRes (sc : List Scale) (nw d : Int) : List Rg × Int := cond (first [(checkSys sc nw).2, drawErr d] != 0) ([], first [(checkSys sc nw).2, drawErr d]) (stX sc nw d)
end M
def dom35 : DomF
  | [.agg [.sl _ n_sc st_sc F_sc, .int .i64 new], .c (.int .i64 d)] => (match Nat.beq st_sc 4 with
    | true => some ([eSc.Is n_sc F_sc, (eSc.list n_sc F_sc).length ≤ 100000], [.c (.sl false (M.stRes (eSc.list n_sc F_sc) new d).1.length 2 (eRg.F (M.stRes (eSc.list n_sc F_sc) new d).1)), rI (M.stRes (eSc.list n_sc F_sc) new d).2])
    | _ => none)
  | _ => none
def v35 : Nat × Sm := (35, fokSm dom35)
end Go.Pl
end

section
set_option linter.unusedVariables false
set_option linter.unusedSimpArgs false
set_option maxRecDepth 100000
namespace Go.Pl
open Go.V Go.Proofs
theorem bad_all {f : Nat → Int} : ∀ (n k : Nat), (∀ i, k ≤ i → i < k + n → f i = 0) → M.badFrom f n k = (0, 0) := by
  intro n
  induction n with
  | zero => intro k _; rfl
  | succ n ih =>
    intro k h
    simp only [M.badFrom]
    rw [h k (Nat.le_refl _) (by omega)]
    exact ih (k + 1) fun i h1 h2 => h i (by omega) (by omega)
namespace M
end M
theorem stN_from {g : Rg → Int} {sc : List Scale} {fl : List Rg} : ∀ (m i : Nat) (N D : Int), (M.stN g sc fl m i N D).1 = N * (M.stN g sc fl m i 0 1).2 + D * (M.stN g sc fl m i 0 1).1 ∧ (M.stN g sc fl m i N D).2 = D * (M.stN g sc fl m i 0 1).2 := by
  intro m
  induction m with
  | zero => intro i N D; exact ⟨by show N = N * 1 + D * 0; omega, by show D = D * 1; omega⟩
  | succ m ih =>
    intro i N D
    simp only [M.stN]
    obtain ⟨a1, a2⟩ := ih (i + 1) (N * g (fl.getD i dfR) + D * (1000 * (sc.getD i dfS).vol)) (D * g (fl.getD i dfR))
    obtain ⟨b1, b2⟩ := ih (i + 1) (0 * g (fl.getD i dfR) + 1 * (1000 * (sc.getD i dfS).vol)) (1 * g (fl.getD i dfR))
    rw [a1, a2, b1, b2]
    generalize (M.stN g sc fl m (i + 1) 0 1).1 = n
    generalize (M.stN g sc fl m (i + 1) 0 1).2 = e
    generalize g (fl.getD i dfR) = f
    generalize 1000 * (sc.getD i dfS).vol = v
    constructor <;> grind
theorem stN_step {g : Rg → Int} {sc : List Scale} {fl : List Rg} (m i : Nat) : (M.stN g sc fl (m + 1) i 0 1).1 = 1000 * (sc.getD i dfS).vol * (M.stN g sc fl m (i + 1) 0 1).2 + g (fl.getD i dfR) * (M.stN g sc fl m (i + 1) 0 1).1 ∧ (M.stN g sc fl (m + 1) i 0 1).2 = g (fl.getD i dfR) * (M.stN g sc fl m (i + 1) 0 1).2 := by
  have h := stN_from (g := g) (sc := sc) (fl := fl) m (i + 1) (0 * g (fl.getD i dfR) + 1 * (1000 * (sc.getD i dfS).vol)) (1 * g (fl.getD i dfR))
  simp only [M.stN]
  rw [h.1, h.2, Int.zero_mul, Int.one_mul, Int.one_mul, Int.zero_add]
  exact ⟨rfl, rfl⟩
theorem floorW_eq {n b : Int} (hn : -1000000000000 ≤ n ∧ n ≤ 1000000000000) (hb : 0 < b) : M.floorW n b = n / b := by
  have ht : n.tdiv b * b + n.tmod b = n := Int.tdiv_mul_add_tmod n b
  have hlt : n.tmod b < b := Int.tmod_lt_of_pos n hb
  have hgt : -b < n.tmod b := by
    have := Int.tmod_lt_of_pos (-n) hb
    rw [Int.neg_tmod] at this
    omega
  have hq : -1000000000000 ≤ n.tdiv b ∧ n.tdiv b ≤ 1000000000000 := by
    have := Int.natAbs_tdiv_le_natAbs n b
    omega
  unfold M.floorW
  by_cases h : n.tmod b < 0
  · rw [decide_eq_true h]
    show IntKind.i64.wrap (IntKind.i64.wrap (n.tdiv b) - 1) = n / b
    rw [wrap_id (n := n.tdiv b) (by omega) (by omega), wrap_id (by omega) (by omega)]
    refine (ediv_at hb ?_ ?_).symm
    · rw [Int.sub_mul]; omega
    · rw [Int.sub_add_cancel]; omega
  · rw [decide_eq_false h]
    show IntKind.i64.wrap (n.tdiv b) = n / b
    rw [wrap_id (by omega) (by omega)]
    refine (ediv_at hb (by omega) ?_).symm
    rw [Int.add_mul]; omega
theorem ceilW_eq {n b : Int} (hn : -1000000000000 ≤ n ∧ n ≤ 1000000000000) (hb : 0 < b) : M.ceilW n b = -((-n) / b) := by
  unfold M.ceilW
  rw [wrap_id (n := 0 - n) (by omega) (by omega), floorW_eq (by omega) hb, show 0 - n = -n by omega]
  have h1 := Int.ediv_mul_le (-n) (Int.ne_of_gt hb)
  have h2 : -1000000000000 ≤ (-n) / b ∧ (-n) / b ≤ 1000000000000 := by
    constructor
    · refine (Int.le_ediv_iff_mul_le hb).2 ?_
      have : -1000000000000 * b ≤ -1000000000000 * 1 := Int.mul_le_mul_of_nonpos_left (by omega) (by omega)
      omega
    · have : (-n) / b < 1000000000001 := (Int.ediv_lt_iff_lt_mul hb).2 (by
        have : 1000000000001 * 1 ≤ 1000000000001 * b := Int.mul_le_mul_of_nonneg_left (by omega) (by omega)
        omega)
      omega
  rw [wrap_id (by omega) (by omega)]; omega
end Go.Pl
end

section
set_option linter.unusedVariables false
set_option linter.unusedSimpArgs false
set_option maxRecDepth 100000
namespace Go.Pl
open Go.V Go.Proofs
theorem put_row {α : Type} (E : Enc α) {l : List α} {i : Nat} {b : α} {F' : Nat → Nat → D} (hi : i < l.length) (hF : ∀ k, k ≠ i → F' k = E.F l k) (hj : ∀ j, j < E.st → (F' i j).eqv (E.enc b j)) (hr : E.rd (F' i) = b) : E.Is l.length F' ∧ E.list l.length F' = l.set i b := by
  constructor
  · intro k j hk hj'
    by_cases h : k = i
    · subst h
      rw [hr]; exact hj j hj'
    · rw [hF k h]
      have : E.rd (E.F l k) = l.getD k E.dflt := E.law _
      rw [this]; exact D.eqv_refl _
  · apply List.ext_getElem
    · simp [Enc.list]
    · intro k h1 h2
      simp only [Enc.list, List.getElem_map, List.getElem_range, List.getElem_set]
      by_cases h : i = k
      · subst h
        rw [if_pos rfl]; exact hr
      · rw [if_neg h, hF k (fun e => h e.symm)]
        have : E.rd (E.F l k) = l.getD k E.dflt := E.law _
        rw [this]
        have hk : k < l.length := by simpa using h2
        simp [List.getD_eq_getElem?_getD, List.getElem?_eq_getElem hk]
theorem putF_ne {i j n : Nat} {ds : List D} {F : Nat → Nat → D} : ∀ k, k ≠ i → putF i j n ds F k = F k := by
  intro k h
  funext j'
  unfold putF
  have : Nat.beq k i = false := by
    cases hb : Nat.beq k i with
    | false => rfl
    | true => exact absurd (Nat.eq_of_beq_eq_true hb) h
  rw [this]; rfl
theorem over_none {sc : List Scale} {fl : List Rg} : ∀ (n k : Nat), M.overF sc fl n k < 0 → ∀ i, k ≤ i → i < k + n → (fl.getD i dfR).hi ≤ (sc.getD i dfS).vol := by
  intro n
  induction n with
  | zero => intro k _ i h1 h2; omega
  | succ n ih =>
    intro k h i h1 h2
    simp only [M.overF] at h
    cases hb : decide ((fl.getD k dfR).hi > (sc.getD k dfS).vol) with
    | true => rw [hb] at h; have h : (k : Int) < 0 := h; omega
    | false =>
      rw [hb] at h
      have hb := of_decide_eq_false hb
      rcases Nat.lt_or_ge k i with hl | hl
      · exact ih (k + 1) h i (by omega) (by omega)
      · obtain rfl : i = k := by omega
        omega
structure Stead (sc : List Scale) (nw d : Int) : Prop where
  sys : (M.checkSys sc nw).2 = 0
  draw : M.drawErr d = 0
  same : ∀ k, k < sc.length → ((M.flows sc d).getD k dfR).lo = ((M.flows sc d).getD k dfR).hi
  pos : ∀ k, k < sc.length → 0 < ((M.flows sc d).getD k dfR).lo
  over : M.over sc (M.flows sc d) < 0
theorem Stead.vol {sc : List Scale} {nw d : Int} (h : Stead sc nw d) {k : Nat} (hk : k < sc.length) : 0 < ((M.flows sc d).getD k dfR).lo ∧ ((M.flows sc d).getD k dfR).lo ≤ (sc.getD k dfS).vol ∧ (sc.getD k dfS).vol ≤ 20000 := by
  have h1 := over_none _ 0 h.over k (Nat.zero_le _) (by rw [flows_len]; omega)
  have h2 := (scale_right ((sys_right h.sys).2.2.2 k hk)).1
  have h3 := h.same k hk
  exact ⟨h.pos k hk, by omega, h2.2⟩
structure AgOk (n : Nat) (ag : List Rg) : Prop where
  len : ag.length = n
  row : ∀ k, k < n → 0 ≤ (ag.getD k dfR).lo ∧ (ag.getD k dfR).lo ≤ (ag.getD k dfR).hi ∧ (ag.getD k dfR).hi ≤ 100000
end Go.Pl
end
