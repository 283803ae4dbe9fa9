/- The parts of the engines, of their contracts and of the plain laws that the claim rests on: B57, R0, RG. -/
import Derived.Test.YtaigoebipeplpaaFA5
import Derived.ChangeSame
import Derived.ChangeVars
import Derived.ProofKit
import Derived.LaidMore
import Derived.OpenShut
import Derived.Carry
import Derived.ChangeArms
set_option linter.unusedVariables false
set_option linter.unusedSimpArgs false
section
set_option linter.unusedVariables false
set_option linter.unusedSimpArgs false
set_option maxRecDepth 100000
namespace Go.Bl
open Go.V Go.Proofs
theorem wp_true {α : Type} {t e : T α} {Q : α → Prop} : (T.br true t e).wp Q = t.wp Q := propext ⟨fun h => h.1 rfl, fun h => ⟨fun _ => h, fun e => by cases e⟩⟩
theorem wp_false {α : Type} {t e : T α} {Q : α → Prop} : (T.br false t e).wp Q = e.wp Q := propext ⟨fun h => h.2 rfl, fun h => ⟨(fun e => by cases e), fun _ => h⟩⟩
theorem wp_needE {α : Type} {p : Prop} {t : T α} {Q : α → Prop} : (T.need p t).wp Q = (p ∧ t.wp Q) := rfl
theorem ne_true {a : Int} (h : a ≠ 0) : (a != 0) = true := by simpa using h
theorem ne_false : ((0 : Int) != 0) = false := rfl
def tr9 (l : List Cask) (s : Sample) (ps : List Int) : T (List Ar) :=
    T.br (!true) (T.ret [Ar.c (D.bool false)]) (T.need (Enc.Is eC (List.length l) (Enc.F eC l)) (T.br (!M.someN (6 : Nat) (Enc.list eC (List.length l) (Enc.F eC l))) (T.ret [Ar.c (D.bool true)]) (T.br (decide ((Nat.cast (R := Int) (List.length ps)) > (12 : Int))) (T.ret [Ar.c (D.bool true)]) (T.need (Enc.Is eC (List.length l) (Enc.F eC l)) (T.need (List.length (Enc.list eC (List.length l) (Enc.F eC l)) ≤ (1000000 : Nat)) (T.need (Enc.Is eI (List.length ps) (Enc.F eI ps)) (T.need (List.length (Enc.list eI (List.length ps) (Enc.F eI ps)) ≤ (1000000 : Nat)) (T.need (Enc.Is eC (List.length l) (Enc.F eC (Enc.list eC (List.length l) (Enc.F eC l)))) (T.need (Enc.Is eI (List.length ps) (Enc.F eI (Enc.list eI (List.length ps) (Enc.F eI ps)))) (T.need (∀ (c : Cask), c ∈ Enc.list eC (List.length l) (Enc.F eC (Enc.list eC (List.length l) (Enc.F eC l))) → ByteArray.size (Cask.nm c) ≤ (1000000 : Nat)) (T.need (List.length (Enc.list eC (List.length l) (Enc.F eC (Enc.list eC (List.length l) (Enc.F eC l)))) ≤ (100000 : Nat)) (T.need (List.length (Enc.list eI (List.length ps) (Enc.F eI (Enc.list eI (List.length ps) (Enc.F eI ps)))) ≤ (1000000 : Nat)) (T.need (Enc.Is eC (List.length l) (Enc.F eC l)) (T.need (List.length (Enc.list eC (List.length l) (Enc.F eC l)) ≤ (1000000 : Nat)) (T.need (Enc.Is eI (List.length ps) (Enc.F eI ps)) (T.need (List.length (Enc.list eI (List.length ps) (Enc.F eI ps)) ≤ (1000000 : Nat)) (T.need (Enc.Is eC (List.length l) (Enc.F eC (Enc.list eC (List.length l) (Enc.F eC l)))) (T.need (Enc.Is eI (List.length ps) (Enc.F eI (Enc.list eI (List.length ps) (Enc.F eI ps)))) (T.need (∀ (c : Cask), c ∈ Enc.list eC (List.length l) (Enc.F eC (Enc.list eC (List.length l) (Enc.F eC l))) → ByteArray.size (Cask.nm c) ≤ (1000000 : Nat)) (T.need (List.length (Enc.list eC (List.length l) (Enc.F eC (Enc.list eC (List.length l) (Enc.F eC l)))) ≤ (100000 : Nat)) (T.need (List.length (Enc.list eI (List.length ps) (Enc.F eI (Enc.list eI (List.length ps) (Enc.F eI ps)))) ≤ (1000000 : Nat)) (T.need (Enc.Is eC (List.length l) (Enc.F eC l)) (T.need (∀ (c : Cask), c ∈ Enc.list eC (List.length l) (Enc.F eC l) → ByteArray.size (Cask.nm c) ≤ (1000000 : Nat)) (T.br (M.wholeErr (Enc.list eC (List.length l) (Enc.F eC l)) != (0 : Int)) (T.br (M.Means.e (M.means (Enc.list eC (List.length l) (Enc.F eC (Enc.list eC (List.length l) (Enc.F eC l)))) (Enc.list eI (List.length ps) (Enc.F eI (Enc.list eI (List.length ps) (Enc.F eI ps))))) == M.wholeErr (Enc.list eC (List.length l) (Enc.F eC l))) (T.br (Prod.snd (M.checkWhole (Enc.list eC (List.length l) (Enc.F eC (Enc.list eC (List.length l) (Enc.F eC l)))) s (Enc.list eI (List.length ps) (Enc.F eI (Enc.list eI (List.length ps) (Enc.F eI ps))))) == M.wholeErr (Enc.list eC (List.length l) (Enc.F eC l))) (T.br ((M.Means.r0 (M.means (Enc.list eC (List.length l) (Enc.F eC (Enc.list eC (List.length l) (Enc.F eC l)))) (Enc.list eI (List.length ps) (Enc.F eI (Enc.list eI (List.length ps) (Enc.F eI ps)))))).1 == (0 : Int) && ((M.Means.r0 (M.means (Enc.list eC (List.length l) (Enc.F eC (Enc.list eC (List.length l) (Enc.F eC l)))) (Enc.list eI (List.length ps) (Enc.F eI (Enc.list eI (List.length ps) (Enc.F eI ps)))))).2 == (0 : Int) && true) && ((M.Means.r1 (M.means (Enc.list eC (List.length l) (Enc.F eC (Enc.list eC (List.length l) (Enc.F eC l)))) (Enc.list eI (List.length ps) (Enc.F eI (Enc.list eI (List.length ps) (Enc.F eI ps)))))).1 == (0 : Int) && ((M.Means.r1 (M.means (Enc.list eC (List.length l) (Enc.F eC (Enc.list eC (List.length l) (Enc.F eC l)))) (Enc.list eI (List.length ps) (Enc.F eI (Enc.list eI (List.length ps) (Enc.F eI ps)))))).2 == (0 : Int) && true) && ((M.Means.r2 (M.means (Enc.list eC (List.length l) (Enc.F eC (Enc.list eC (List.length l) (Enc.F eC l)))) (Enc.list eI (List.length ps) (Enc.F eI (Enc.list eI (List.length ps) (Enc.F eI ps)))))).1 == (0 : Int) && ((M.Means.r2 (M.means (Enc.list eC (List.length l) (Enc.F eC (Enc.list eC (List.length l) (Enc.F eC l)))) (Enc.list eI (List.length ps) (Enc.F eI (Enc.list eI (List.length ps) (Enc.F eI ps)))))).2 == (0 : Int) && true) && ((M.Means.r3 (M.means (Enc.list eC (List.length l) (Enc.F eC (Enc.list eC (List.length l) (Enc.F eC l)))) (Enc.list eI (List.length ps) (Enc.F eI (Enc.list eI (List.length ps) (Enc.F eI ps)))))).1 == (0 : Int) && ((M.Means.r3 (M.means (Enc.list eC (List.length l) (Enc.F eC (Enc.list eC (List.length l) (Enc.F eC l)))) (Enc.list eI (List.length ps) (Enc.F eI (Enc.list eI (List.length ps) (Enc.F eI ps)))))).2 == (0 : Int) && true) && true)))) (T.ret [Ar.c (D.bool (Prod.fst (M.checkWhole (Enc.list eC (List.length l) (Enc.F eC (Enc.list eC (List.length l) (Enc.F eC l)))) s (Enc.list eI (List.length ps) (Enc.F eI (Enc.list eI (List.length ps) (Enc.F eI ps))))) == (0 : Int)))]) (T.ret [Ar.c (D.bool false)])) (T.ret [Ar.c (D.bool false)])) (T.ret [Ar.c (D.bool false)])) (T.need (Enc.Is eC (List.length l) (Enc.F eC l)) (T.need (Enc.Is eI (List.length ps) (Enc.F eI ps)) (T.need (List.length (Enc.list eC (List.length l) (Enc.F eC l)) ≤ (1000000 : Nat)) (T.need (List.length (Enc.list eI (List.length ps) (Enc.F eI ps)) ≤ (1000000 : Nat)) (T.br (M.listErr (List.length (Enc.list eC (List.length l) (Enc.F eC l))) (Enc.list eI (List.length ps) (Enc.F eI ps)) != (0 : Int)) (T.br (M.Means.e (M.means (Enc.list eC (List.length l) (Enc.F eC (Enc.list eC (List.length l) (Enc.F eC l)))) (Enc.list eI (List.length ps) (Enc.F eI (Enc.list eI (List.length ps) (Enc.F eI ps))))) != M.listErr (List.length (Enc.list eC (List.length l) (Enc.F eC l))) (Enc.list eI (List.length ps) (Enc.F eI ps))) (T.ret [Ar.c (D.bool false)]) (T.br (!((M.Means.r0 (M.means (Enc.list eC (List.length l) (Enc.F eC (Enc.list eC (List.length l) (Enc.F eC l)))) (Enc.list eI (List.length ps) (Enc.F eI (Enc.list eI (List.length ps) (Enc.F eI ps)))))).1 == (0 : Int) && ((M.Means.r0 (M.means (Enc.list eC (List.length l) (Enc.F eC (Enc.list eC (List.length l) (Enc.F eC l)))) (Enc.list eI (List.length ps) (Enc.F eI (Enc.list eI (List.length ps) (Enc.F eI ps)))))).2 == (0 : Int) && true) && ((M.Means.r1 (M.means (Enc.list eC (List.length l) (Enc.F eC (Enc.list eC (List.length l) (Enc.F eC l)))) (Enc.list eI (List.length ps) (Enc.F eI (Enc.list eI (List.length ps) (Enc.F eI ps)))))).1 == (0 : Int) && ((M.Means.r1 (M.means (Enc.list eC (List.length l) (Enc.F eC (Enc.list eC (List.length l) (Enc.F eC l)))) (Enc.list eI (List.length ps) (Enc.F eI (Enc.list eI (List.length ps) (Enc.F eI ps)))))).2 == (0 : Int) && true) && ((M.Means.r2 (M.means (Enc.list eC (List.length l) (Enc.F eC (Enc.list eC (List.length l) (Enc.F eC l)))) (Enc.list eI (List.length ps) (Enc.F eI (Enc.list eI (List.length ps) (Enc.F eI ps)))))).1 == (0 : Int) && ((M.Means.r2 (M.means (Enc.list eC (List.length l) (Enc.F eC (Enc.list eC (List.length l) (Enc.F eC l)))) (Enc.list eI (List.length ps) (Enc.F eI (Enc.list eI (List.length ps) (Enc.F eI ps)))))).2 == (0 : Int) && true) && ((M.Means.r3 (M.means (Enc.list eC (List.length l) (Enc.F eC (Enc.list eC (List.length l) (Enc.F eC l)))) (Enc.list eI (List.length ps) (Enc.F eI (Enc.list eI (List.length ps) (Enc.F eI ps)))))).1 == (0 : Int) && ((M.Means.r3 (M.means (Enc.list eC (List.length l) (Enc.F eC (Enc.list eC (List.length l) (Enc.F eC l)))) (Enc.list eI (List.length ps) (Enc.F eI (Enc.list eI (List.length ps) (Enc.F eI ps)))))).2 == (0 : Int) && true) && true))))) (T.ret [Ar.c (D.bool false)]) (T.br (M.checkSample s == (0 : Int)) (T.br (M.listErr (List.length (Enc.list eC (List.length l) (Enc.F eC l))) (Enc.list eI (List.length ps) (Enc.F eI ps)) != (0 : Int)) (T.br (Prod.snd (M.checkWhole (Enc.list eC (List.length l) (Enc.F eC (Enc.list eC (List.length l) (Enc.F eC l)))) s (Enc.list eI (List.length ps) (Enc.F eI (Enc.list eI (List.length ps) (Enc.F eI ps))))) == M.listErr (List.length (Enc.list eC (List.length l) (Enc.F eC l))) (Enc.list eI (List.length ps) (Enc.F eI ps))) (T.ret [Ar.c (D.bool (Prod.fst (M.checkWhole (Enc.list eC (List.length l) (Enc.F eC (Enc.list eC (List.length l) (Enc.F eC l)))) s (Enc.list eI (List.length ps) (Enc.F eI (Enc.list eI (List.length ps) (Enc.F eI ps))))) == (0 : Int)))]) (T.ret [Ar.c (D.bool false)])) (T.need (Enc.Is eC (List.length l) (Enc.F eC l)) (T.need (Enc.Is eI (List.length ps) (Enc.F eI ps)) (T.need (List.length (Enc.list eC (List.length l) (Enc.F eC l)) ≤ (100000 : Nat)) (T.need (List.length (Enc.list eI (List.length ps) (Enc.F eI ps)) ≤ (1000000 : Nat)) (T.need (Prod.snd (M.checkCasks (Enc.list eC (List.length l) (Enc.F eC l))) = (0 : Int)) (T.need (M.checkSample s = (0 : Int)) (T.br (Prod.snd (M.checkWhole (Enc.list eC (List.length l) (Enc.F eC (Enc.list eC (List.length l) (Enc.F eC l)))) s (Enc.list eI (List.length ps) (Enc.F eI (Enc.list eI (List.length ps) (Enc.F eI ps))))) == Prod.snd (M.wholeR (Enc.list eC (List.length l) (Enc.F eC l)) s (Enc.list eI (List.length ps) (Enc.F eI ps)))) (T.ret [Ar.c (D.bool (Prod.fst (M.checkWhole (Enc.list eC (List.length l) (Enc.F eC (Enc.list eC (List.length l) (Enc.F eC l)))) s (Enc.list eI (List.length ps) (Enc.F eI (Enc.list eI (List.length ps) (Enc.F eI ps))))) == Prod.fst (M.wholeR (Enc.list eC (List.length l) (Enc.F eC l)) s (Enc.list eI (List.length ps) (Enc.F eI ps)))))]) (T.ret [Ar.c (D.bool false)]))))))))) (T.br (M.checkSample s != (0 : Int)) (T.br (Prod.snd (M.checkWhole (Enc.list eC (List.length l) (Enc.F eC (Enc.list eC (List.length l) (Enc.F eC l)))) s (Enc.list eI (List.length ps) (Enc.F eI (Enc.list eI (List.length ps) (Enc.F eI ps))))) == M.checkSample s) (T.ret [Ar.c (D.bool (Prod.fst (M.checkWhole (Enc.list eC (List.length l) (Enc.F eC (Enc.list eC (List.length l) (Enc.F eC l)))) s (Enc.list eI (List.length ps) (Enc.F eI (Enc.list eI (List.length ps) (Enc.F eI ps))))) == (0 : Int)))]) (T.ret [Ar.c (D.bool false)])) (T.need (Enc.Is eC (List.length l) (Enc.F eC l)) (T.need (Enc.Is eI (List.length ps) (Enc.F eI ps)) (T.need (List.length (Enc.list eC (List.length l) (Enc.F eC l)) ≤ (100000 : Nat)) (T.need (List.length (Enc.list eI (List.length ps) (Enc.F eI ps)) ≤ (1000000 : Nat)) (T.need (Prod.snd (M.checkCasks (Enc.list eC (List.length l) (Enc.F eC l))) = (0 : Int)) (T.need (M.checkSample s = (0 : Int)) (T.br (Prod.snd (M.checkWhole (Enc.list eC (List.length l) (Enc.F eC (Enc.list eC (List.length l) (Enc.F eC l)))) s (Enc.list eI (List.length ps) (Enc.F eI (Enc.list eI (List.length ps) (Enc.F eI ps))))) == Prod.snd (M.wholeR (Enc.list eC (List.length l) (Enc.F eC l)) s (Enc.list eI (List.length ps) (Enc.F eI ps)))) (T.ret [Ar.c (D.bool (Prod.fst (M.checkWhole (Enc.list eC (List.length l) (Enc.F eC (Enc.list eC (List.length l) (Enc.F eC l)))) s (Enc.list eI (List.length ps) (Enc.F eI (Enc.list eI (List.length ps) (Enc.F eI ps))))) == Prod.fst (M.wholeR (Enc.list eC (List.length l) (Enc.F eC l)) s (Enc.list eI (List.length ps) (Enc.F eI ps)))))]) (T.ret [Ar.c (D.bool false)])))))))))))) (T.need (Enc.Is eC (List.length l) (Enc.F eC l)) (T.need (Enc.Is eI (List.length ps) (Enc.F eI ps)) (T.need (List.length (Enc.list eC (List.length l) (Enc.F eC l)) ≤ (100000 : Nat)) (T.need (List.length (Enc.list eI (List.length ps) (Enc.F eI ps)) ≤ (1000000 : Nat)) (T.need (Prod.snd (M.checkCasks (Enc.list eC (List.length l) (Enc.F eC l))) = (0 : Int)) (T.br (M.Means.e (M.means (Enc.list eC (List.length l) (Enc.F eC (Enc.list eC (List.length l) (Enc.F eC l)))) (Enc.list eI (List.length ps) (Enc.F eI (Enc.list eI (List.length ps) (Enc.F eI ps))))) != M.Means.e (M.meansR (Enc.list eC (List.length l) (Enc.F eC l)) (Enc.list eI (List.length ps) (Enc.F eI ps)))) (T.ret [Ar.c (D.bool false)]) (T.br (!((M.Means.r0 (M.means (Enc.list eC (List.length l) (Enc.F eC (Enc.list eC (List.length l) (Enc.F eC l)))) (Enc.list eI (List.length ps) (Enc.F eI (Enc.list eI (List.length ps) (Enc.F eI ps)))))).1 == (M.Means.r0 (M.meansR (Enc.list eC (List.length l) (Enc.F eC l)) (Enc.list eI (List.length ps) (Enc.F eI ps)))).1 && ((M.Means.r0 (M.means (Enc.list eC (List.length l) (Enc.F eC (Enc.list eC (List.length l) (Enc.F eC l)))) (Enc.list eI (List.length ps) (Enc.F eI (Enc.list eI (List.length ps) (Enc.F eI ps)))))).2 == (M.Means.r0 (M.meansR (Enc.list eC (List.length l) (Enc.F eC l)) (Enc.list eI (List.length ps) (Enc.F eI ps)))).2 && true) && ((M.Means.r1 (M.means (Enc.list eC (List.length l) (Enc.F eC (Enc.list eC (List.length l) (Enc.F eC l)))) (Enc.list eI (List.length ps) (Enc.F eI (Enc.list eI (List.length ps) (Enc.F eI ps)))))).1 == (M.Means.r1 (M.meansR (Enc.list eC (List.length l) (Enc.F eC l)) (Enc.list eI (List.length ps) (Enc.F eI ps)))).1 && ((M.Means.r1 (M.means (Enc.list eC (List.length l) (Enc.F eC (Enc.list eC (List.length l) (Enc.F eC l)))) (Enc.list eI (List.length ps) (Enc.F eI (Enc.list eI (List.length ps) (Enc.F eI ps)))))).2 == (M.Means.r1 (M.meansR (Enc.list eC (List.length l) (Enc.F eC l)) (Enc.list eI (List.length ps) (Enc.F eI ps)))).2 && true) && ((M.Means.r2 (M.means (Enc.list eC (List.length l) (Enc.F eC (Enc.list eC (List.length l) (Enc.F eC l)))) (Enc.list eI (List.length ps) (Enc.F eI (Enc.list eI (List.length ps) (Enc.F eI ps)))))).1 == (M.Means.r2 (M.meansR (Enc.list eC (List.length l) (Enc.F eC l)) (Enc.list eI (List.length ps) (Enc.F eI ps)))).1 && ((M.Means.r2 (M.means (Enc.list eC (List.length l) (Enc.F eC (Enc.list eC (List.length l) (Enc.F eC l)))) (Enc.list eI (List.length ps) (Enc.F eI (Enc.list eI (List.length ps) (Enc.F eI ps)))))).2 == (M.Means.r2 (M.meansR (Enc.list eC (List.length l) (Enc.F eC l)) (Enc.list eI (List.length ps) (Enc.F eI ps)))).2 && true) && ((M.Means.r3 (M.means (Enc.list eC (List.length l) (Enc.F eC (Enc.list eC (List.length l) (Enc.F eC l)))) (Enc.list eI (List.length ps) (Enc.F eI (Enc.list eI (List.length ps) (Enc.F eI ps)))))).1 == (M.Means.r3 (M.meansR (Enc.list eC (List.length l) (Enc.F eC l)) (Enc.list eI (List.length ps) (Enc.F eI ps)))).1 && ((M.Means.r3 (M.means (Enc.list eC (List.length l) (Enc.F eC (Enc.list eC (List.length l) (Enc.F eC l)))) (Enc.list eI (List.length ps) (Enc.F eI (Enc.list eI (List.length ps) (Enc.F eI ps)))))).2 == (M.Means.r3 (M.meansR (Enc.list eC (List.length l) (Enc.F eC l)) (Enc.list eI (List.length ps) (Enc.F eI ps)))).2 && true) && true))))) (T.ret [Ar.c (D.bool false)]) (T.br (M.checkSample s == (0 : Int)) (T.br (M.listErr (List.length (Enc.list eC (List.length l) (Enc.F eC l))) (Enc.list eI (List.length ps) (Enc.F eI ps)) != (0 : Int)) (T.br (Prod.snd (M.checkWhole (Enc.list eC (List.length l) (Enc.F eC (Enc.list eC (List.length l) (Enc.F eC l)))) s (Enc.list eI (List.length ps) (Enc.F eI (Enc.list eI (List.length ps) (Enc.F eI ps))))) == M.listErr (List.length (Enc.list eC (List.length l) (Enc.F eC l))) (Enc.list eI (List.length ps) (Enc.F eI ps))) (T.ret [Ar.c (D.bool (Prod.fst (M.checkWhole (Enc.list eC (List.length l) (Enc.F eC (Enc.list eC (List.length l) (Enc.F eC l)))) s (Enc.list eI (List.length ps) (Enc.F eI (Enc.list eI (List.length ps) (Enc.F eI ps))))) == (0 : Int)))]) (T.ret [Ar.c (D.bool false)])) (T.need (Enc.Is eC (List.length l) (Enc.F eC l)) (T.need (Enc.Is eI (List.length ps) (Enc.F eI ps)) (T.need (List.length (Enc.list eC (List.length l) (Enc.F eC l)) ≤ (100000 : Nat)) (T.need (List.length (Enc.list eI (List.length ps) (Enc.F eI ps)) ≤ (1000000 : Nat)) (T.need (Prod.snd (M.checkCasks (Enc.list eC (List.length l) (Enc.F eC l))) = (0 : Int)) (T.need (M.checkSample s = (0 : Int)) (T.br (Prod.snd (M.checkWhole (Enc.list eC (List.length l) (Enc.F eC (Enc.list eC (List.length l) (Enc.F eC l)))) s (Enc.list eI (List.length ps) (Enc.F eI (Enc.list eI (List.length ps) (Enc.F eI ps))))) == Prod.snd (M.wholeR (Enc.list eC (List.length l) (Enc.F eC l)) s (Enc.list eI (List.length ps) (Enc.F eI ps)))) (T.ret [Ar.c (D.bool (Prod.fst (M.checkWhole (Enc.list eC (List.length l) (Enc.F eC (Enc.list eC (List.length l) (Enc.F eC l)))) s (Enc.list eI (List.length ps) (Enc.F eI (Enc.list eI (List.length ps) (Enc.F eI ps))))) == Prod.fst (M.wholeR (Enc.list eC (List.length l) (Enc.F eC l)) s (Enc.list eI (List.length ps) (Enc.F eI ps)))))]) (T.ret [Ar.c (D.bool false)]))))))))) (T.br (M.checkSample s != (0 : Int)) (T.br (Prod.snd (M.checkWhole (Enc.list eC (List.length l) (Enc.F eC (Enc.list eC (List.length l) (Enc.F eC l)))) s (Enc.list eI (List.length ps) (Enc.F eI (Enc.list eI (List.length ps) (Enc.F eI ps))))) == M.checkSample s) (T.ret [Ar.c (D.bool (Prod.fst (M.checkWhole (Enc.list eC (List.length l) (Enc.F eC (Enc.list eC (List.length l) (Enc.F eC l)))) s (Enc.list eI (List.length ps) (Enc.F eI (Enc.list eI (List.length ps) (Enc.F eI ps))))) == (0 : Int)))]) (T.ret [Ar.c (D.bool false)])) (T.need (Enc.Is eC (List.length l) (Enc.F eC l)) (T.need (Enc.Is eI (List.length ps) (Enc.F eI ps)) (T.need (List.length (Enc.list eC (List.length l) (Enc.F eC l)) ≤ (100000 : Nat)) (T.need (List.length (Enc.list eI (List.length ps) (Enc.F eI ps)) ≤ (1000000 : Nat)) (T.need (Prod.snd (M.checkCasks (Enc.list eC (List.length l) (Enc.F eC l))) = (0 : Int)) (T.need (M.checkSample s = (0 : Int)) (T.br (Prod.snd (M.checkWhole (Enc.list eC (List.length l) (Enc.F eC (Enc.list eC (List.length l) (Enc.F eC l)))) s (Enc.list eI (List.length ps) (Enc.F eI (Enc.list eI (List.length ps) (Enc.F eI ps))))) == Prod.snd (M.wholeR (Enc.list eC (List.length l) (Enc.F eC l)) s (Enc.list eI (List.length ps) (Enc.F eI ps)))) (T.ret [Ar.c (D.bool (Prod.fst (M.checkWhole (Enc.list eC (List.length l) (Enc.F eC (Enc.list eC (List.length l) (Enc.F eC l)))) s (Enc.list eI (List.length ps) (Enc.F eI (Enc.list eI (List.length ps) (Enc.F eI ps))))) == Prod.fst (M.wholeR (Enc.list eC (List.length l) (Enc.F eC l)) s (Enc.list eI (List.length ps) (Enc.F eI ps)))))]) (T.ret [Ar.c (D.bool false)]))))))))))))))))))))))))))))))))))))))))))))))
theorem t9 (q_l : Bool) (l : List Cask) (sv l0 h0 l1 h1 l2 h2 l3 h3 : Int) (q_ps : Bool) (ps : List Int) : runFnX Try.prog G0 (lookS [v18, v29, v21, v41, v40, v42, v31, v43, v44, v32, v45]) (fun _ => []) [] 1 20 3 9 Try.f9 [.c (.sl q_l l.length 7 (eC.F l)), .agg [dI sv, dI l0, dI h0, dI l1, dI h1, dI l2, dI h2, dI l3, dI h3], .c (.sl q_ps ps.length 1 (eI.F ps))] =
    tr9 l (⟨sv, ⟨l0, h0⟩, ⟨l1, h1⟩, ⟨l2, h2⟩, ⟨l3, h3⟩⟩ : Sample) ps := by kernel_rfl
theorem w9 (l : List Cask) (s : Sample) (ps : List Int) : (tr9 l s ps).wp (fun rs => rsEqv rs [rB true]) := by
  unfold tr9
  simp only [Enc.list_F]
  refine wp_br (fun hb => absurd hb (by decide)) (fun _ => ⟨Enc.is_F _ _ _, wp_br (fun _ => rsEqv_refl _) (fun hb => wp_br (fun _ => rsEqv_refl _) (fun hc => ?_))⟩)
  have hs : M.someN 6 l = true := by simpa using hb
  obtain ⟨hl, hn⟩ := someN_small hs
  have hn' : ∀ c, c ∈ l → c.nm.size ≤ 1000000 := fun c hc => Nat.le_trans (hn c hc) (by decide)
  have hl' : l.length ≤ 1000000 := by omega
  have hl5 : l.length ≤ 100000 := by omega
  have hp' : ps.length ≤ 1000000 := by
    have : ¬ (ps.length : Int) > 12 := of_decide_eq_false hc
    omega
  have hW : M.wholeErr l = (M.checkCasks l).2 := rfl
  have hE : M.wholeErrS l s ps = M.first [M.wholeErr l, M.checkSample s, M.listErr l.length ps] := rfl
  have hF : M.meansErr l ps = M.first [M.wholeErr l, M.listErr l.length ps] := rfl
  rw [first_cons] at hE hF
  by_cases h1 : M.wholeErr l = 0
  · rw [if_pos h1, first_cons] at hE
    rw [if_pos h1, first_cons] at hF
    have hck : (M.checkCasks l).2 = 0 := h1
    by_cases h2 : M.listErr l.length ps = 0
    · rw [if_pos h2] at hF
      have hF : M.meansErr l ps = 0 := hF
      have em : M.means l ps = M.meansR l ps := by unfold M.means; rw [hF]; rfl
      by_cases h3 : M.checkSample s = 0
      · rw [if_pos h3, first_cons, if_pos h2] at hE
        have hE : M.wholeErrS l s ps = 0 := hE
        have ew : M.checkWhole l s ps = M.wholeR l s ps := by unfold M.checkWhole; rw [hE]; rfl
        simp only [em, ew, h1, h2, h3, hck, ne_false, beq_self_eq_true, bne_self_eq_false, Bool.and_self, Bool.and_true, Bool.not_true, wp_needE, wp_true, wp_false]
        repeat' first | exact Enc.is_F _ _ _ | assumption | exact rsEqv_refl _ | constructor
      · rw [if_neg h3] at hE
        have ew : M.checkWhole l s ps = (0, M.checkSample s) := by unfold M.checkWhole; rw [hE, ne_true h3]; rfl
        simp only [em, ew, h1, h2, ne_true h3, beq_of_ne h3, hck, ne_false, beq_self_eq_true, bne_self_eq_false, Bool.and_self, Bool.and_true, Bool.not_true, wp_needE, wp_true, wp_false]
        repeat' first | exact Enc.is_F _ _ _ | assumption | exact rsEqv_refl _ | constructor
    · rw [if_neg h2] at hF
      have em : M.means l ps = M.noMeans (M.listErr l.length ps) := by unfold M.means; rw [hF, ne_true h2]; rfl
      by_cases h3 : M.checkSample s = 0
      · rw [if_pos h3, first_cons, if_neg h2] at hE
        have ew : M.checkWhole l s ps = (0, M.listErr l.length ps) := by unfold M.checkWhole; rw [hE, ne_true h2]; rfl
        simp only [em, ew, M.noMeans, h1, h3, ne_true h2, hck, ne_false, beq_self_eq_true, bne_self_eq_false, Bool.and_self, Bool.and_true, Bool.not_true, wp_needE, wp_true, wp_false]
        repeat' first | exact Enc.is_F _ _ _ | assumption | exact rsEqv_refl _ | constructor
      · rw [if_neg h3] at hE
        have ew : M.checkWhole l s ps = (0, M.checkSample s) := by unfold M.checkWhole; rw [hE, ne_true h3]; rfl
        simp only [em, ew, M.noMeans, h1, ne_true h2, ne_true h3, beq_of_ne h3, hck, ne_false, beq_self_eq_true, bne_self_eq_false, Bool.and_self, Bool.and_true, Bool.not_true, wp_needE, wp_true, wp_false]
        repeat' first | exact Enc.is_F _ _ _ | assumption | exact rsEqv_refl _ | constructor
  · rw [if_neg h1] at hE hF
    have em : M.means l ps = M.noMeans (M.wholeErr l) := by unfold M.means; rw [hF, ne_true h1]; rfl
    have ew : M.checkWhole l s ps = (0, M.wholeErr l) := by unfold M.checkWhole; rw [hE, ne_true h1]; rfl
    simp only [em, ew, M.noMeans, ne_true h1, beq_self_eq_true, Bool.and_self, Bool.and_true, wp_needE, wp_true, wp_false]
    repeat' first | exact Enc.is_F _ _ _ | assumption | exact rsEqv_refl _ | constructor
def dom9 : DomF
  | [.c (.sl _ n_l st_l F_l), .agg [.int .i64 sv, .int .i64 l0, .int .i64 h0, .int .i64 l1, .int .i64 h1, .int .i64 l2, .int .i64 h2, .int .i64 l3, .int .i64 h3], .c (.sl _ n_ps st_ps F_ps)] => (match Nat.beq st_l 7 && Nat.beq st_ps 1 with
    | true => some ([eC.Is n_l F_l, eI.Is n_ps F_ps], [rB true])
    | _ => none)
  | _ => none
theorem C9 : FOK Try.prog G0 gw 9 dom9 := by
  intro ags p r hd hp κ w xs hw hl hG hx
  unfold dom9 at hd
  split at hd
  · rename_i q_l n_l st_l F_l sv l0 h0 l1 h1 l2 h2 l3 h3 q_ps n_ps st_ps F_ps
    split at hd
    · rename_i hst
      simp only [Bool.and_eq_true] at hst
      obtain ⟨g1, g2⟩ := hst
      have g1 := Nat.eq_of_beq_eq_true g1
      have g2 := Nat.eq_of_beq_eq_true g2
      subst g1 g2
      simp only [Option.some.injEq, Prod.mk.injEq] at hd
      obtain ⟨rfl, rfl⟩ := hd
      obtain ⟨hI_l, hI_ps, hp⟩ := hp
      have heq : agsEqv [.c (.sl q_l n_l 7 F_l), .agg [.int .i64 sv, .int .i64 l0, .int .i64 h0, .int .i64 l1, .int .i64 h1, .int .i64 l2, .int .i64 h2, .int .i64 l3, .int .i64 h3], .c (.sl q_ps n_ps 1 F_ps)] [.c (.sl q_l (eC.list n_l F_l).length 7 (eC.F (eC.list n_l F_l))), .agg [.int .i64 sv, .int .i64 l0, .int .i64 h0, .int .i64 l1, .int .i64 h1, .int .i64 l2, .int .i64 h2, .int .i64 l3, .int .i64 h3], .c (.sl q_ps (eI.list n_ps F_ps).length 1 (eI.F (eI.list n_ps F_ps)))] := ⟨eC.to id hI_l, Ag.eqv_refl _, eI.to id hI_ps, trivial⟩
      have len_l : (eC.list n_l F_l).length = n_l := eC.list_len
      have len_ps : (eI.list n_ps F_ps).length = n_ps := eI.list_len
      generalize eC.list n_l F_l = l at *
      generalize eI.list n_ps F_ps = ps at *
      subst len_l len_ps
      exact fokX_fin mixed gw_stable (sl := [v18, v29, v21, v41, v40, v42, v31, v43, v44, v32, v45]) ⟨S18, S29, S21, S41, S40, S42, S31, S43, S44, S32, S45, trivial⟩ Try.func9 hw hl hG hx heq rfl (t9 q_l l sv l0 h0 l1 h1 l2 h2 l3 h3 q_ps ps) (w9 l _ ps)
    · cases hd
  · cases hd
end Go.Bl
end

section
set_option linter.unusedVariables false
set_option linter.unusedSimpArgs false
namespace Go.Rw
open Go Go.ChangeShapes Go.WideShapes Go.RowKit Go.ChangeAt
open Go.V (F2 D fullK fullK_cell f2_append f2_len f2_get)
section
variable {H : Type} {enc : TypeId × Value → H} {P : Program} {w : World} {base : Nat} {sp : Nat → Bool} {hd : Bool}
theorem trodAll_below (hl : laidOutB P = true) {W W' : World} (hb : Below W.heap.size W W') : ∀ {ts : List TypeId} {vs : List Value} {ds : List (DataW H)} {ps : List MemPlace},
    (∀ t ∈ ts, P.readableRec t = true ∧ t < P.types.size) → DataW.TrodAll enc P W 0 (fun _ => true) true ts vs ds ps → (∀ x ∈ ps, x.block < W.heap.size) →
    DataW.TrodAll enc P W' 0 (fun b => decide (b < W.heap.size)) true ts vs ds ps
  | [], _, _, _, _, h, _ => by
    obtain ⟨rfl, rfl, rfl⟩ := trodAll_nil h
    exact trodAll_mk0
  | t :: ts, _, _, _, hr, h, hlt => by
    obtain ⟨v, vs1, d, ds1, a, b, rfl, rfl, rfl, h1, h2⟩ := trodAll_cons h
    refine ⟨a, b, ?_, trodAll_below hl hb (fun u hu => hr u (List.mem_cons_of_mem _ hu)) h2 fun x hx => hlt x (List.mem_append_right _ hx), rfl⟩
    have ht := hr t (List.mem_cons_self ..)
    exact Below.trod hl ht.1 ht.2 h1 hb fun x hx => hlt x (List.mem_append_left _ hx)
theorem law_post {fn : Func} {s : ChangeSpec} {apart fresh handsOn : Bool} {W W' : World} {args : Array Value} {ds gs : List (DataW H)} {before : List MemPlace} {tb : TypeId} (hl : laidOutB P = true)
    (hr : ∀ t ∈ fn.params.toList, P.readableRec t = true ∧ t < P.types.size) (hv : s.vars = []) (hrt : fn.resultTypes = #[tb]) (hbool : P.underlying tb = some .bool)
    (hfn : s.fn H ds = { results := [.lit (.bool true)], args := ds })
    (hW : DataW.Whole enc P fn.params.toList s.vars apart W args.toList ds gs before) (hb : Below W.heap.size W W') : s.post enc P fn apart fresh handsOn false W args (.bool true) W' := by
  have hW' := hW
  obtain ⟨p, q, hA, hV, rfl, _, _⟩ := hW'
  have hlt : ∀ x ∈ p ++ q, x.block < W.heap.size := fun x hx => hW.lt x hx
  rw [hv] at hV
  have hgs : gs = [] ∧ q = [] := by
    cases gs with
    | nil => exact ⟨rfl, hV⟩
    | cons g r => exact absurd hV (by intro h; cases h)
  obtain ⟨rfl, rfl⟩ := hgs
  have e : s.fn H (ds ++ []) = { results := [.lit (.bool true)], args := ds } := by rw [List.append_nil]; exact hfn
  refine ⟨ds, [], _, [], p, [], hW, ?_, ?_, ?_, hb.frame _, fun h => by cases h⟩
  · rw [e, hrt]
    exact trodAll_mk1 (shut_bool hbool true)
  · rw [e]
    exact trodAll_below hl hb hr hA fun x hx => hlt x (List.mem_append_left _ hx)
  · rw [e, hv]
    rfl
end
end Go.Rw
end

section
set_option linter.unusedVariables false
set_option linter.unusedSimpArgs false
namespace Go.Rw
open Go Go.ChangeShapes Go.WideShapes Go.RowKit Go.ChangeAt
open Go.V (F2 D fullK fullK_cell f2_append f2_len f2_get)
inductive SK where
  | i
  | s
  | sl (sh : List SK)
inductive DG : SK → D → Prop where
  | i (n : Int) : DG .i (.int .i64 n)
  | s (t : ByteArray) : DG .s (.str t)
  | sl (sh : List SK) (len : Nat) (F : Nat → Nat → D) (h : ∀ i j k, i < len → sh[j]? = some k → DG k (F i j)) : DG (.sl sh) (.sl false len sh.length F)
def MG (w : World) (k : SK) (v : Value) : Prop := ∃ d, DG k d ∧ D.rel (fullK w) d v
def sgFs (P : Program) (g : TypeId → Option (List SK)) : List Field → Nat → Nat → Option (List SK)
  | [], o, c => (match Nat.beq o c with | true => some [] | false => none)
  | f :: fs, o, c => (match Nat.beq f.offset o, g f.type, sgFs P g fs (o + P.cellsOf f.type) c with
    | true, some a, some b => some (a ++ b)
    | _, _, _ => none)
def sgArr (l : List SK) : Nat → List SK
  | 0 => []
  | n + 1 => l ++ sgArr l n
def sg (P : Program) : Nat → TypeId → Option (List SK)
  | 0, _ => none
  | k + 1, t => match P.underlying t with
    | some (.int .i64) => some [.i]
    | some .string => some [.s]
    | some (.struct fs) => sgFs P (sg P k) fs.toList 0 (P.cellsOf t)
    | some (.array n e) => (match sg P k e, Nat.beq (P.cellsOf t) (n * P.cellsOf e) with | some l, true => some (sgArr l n) | _, _ => none)
    | some (.slice e) => (match sg P k e with | some sh => (match Nat.beq (P.cellsOf e) sh.length && Nat.blt 0 sh.length with | true => some [.sl sh] | false => none) | none => none)
    | _ => none
section
variable {H : Type} {enc : TypeId × Value → H} {P : Program} {w : World} {base : Nat} {sp : Nat → Bool} {hd : Bool}
theorem sgFs_spec {R : SK → Value → Prop} {g : TypeId → Option (List SK)} : ∀ (fs : List Field) (o c : Nat) (cs : List Value) {l : List SK}, sgFs P g fs o c = some l → cs.length = c →
    (∀ f ∈ fs, ∀ l', g f.type = some l' → F2 R l' ((cs.drop f.offset).take (P.cellsOf f.type))) → F2 R l (cs.drop o)
  | [], o, c, cs, l, h, hl, _ => by
    unfold sgFs at h
    split at h
    · rename_i hb
      have : o = c := Nat.eq_of_beq_eq_true hb
      simp only [Option.some.injEq] at h
      subst h
      rw [this, ← hl, List.drop_length]
      exact .nil
    · cases h
  | f :: fs, o, c, cs, l, h, hl, hf => by
    simp only [sgFs] at h
    split at h
    · rename_i a b hb ha hrest
      have ho : f.offset = o := Nat.eq_of_beq_eq_true hb
      simp only [Option.some.injEq] at h
      subst h
      have h1 := hf f (List.mem_cons_self ..) a ha
      have h2 := sgFs_spec fs _ c cs hrest hl fun g hg => hf g (List.mem_cons_of_mem _ hg)
      rw [ho] at h1
      have e : cs.drop o = (cs.drop o).take (P.cellsOf f.type) ++ (cs.drop o).drop (P.cellsOf f.type) := (List.take_append_drop _ _).symm
      rw [e, List.drop_drop]
      exact f2_append h1 h2
    · cases h
theorem sgArr_spec {R : SK → Value → Prop} {l : List SK} {c : Nat} : ∀ (n : Nat) (cs : List Value), cs.length = n * c → (∀ i, i < n → F2 R l ((cs.drop (i * c)).take c)) → F2 R (sgArr l n) cs
  | 0, cs, h, _ => by
    have : cs = [] := List.length_eq_zero_iff.1 (by simpa using h)
    subst this
    exact .nil
  | n + 1, cs, h, hf => by
    have h0 := hf 0 (by omega)
    rw [Nat.zero_mul, List.drop_zero] at h0
    have hr := sgArr_spec (c := c) n (cs.drop c) (by rw [List.length_drop, h, Nat.succ_mul]; omega) fun i hi => by
      have := hf (i + 1) (by omega)
      rw [List.drop_drop, show c + i * c = (i + 1) * c by rw [Nat.succ_mul]; omega]
      exact this
    rw [← List.take_append_drop c cs]
    exact f2_append h0 hr
theorem trod_sg : ∀ (k fuel : Nat) (t : TypeId) (cs : List Value) (x : DataW H × List MemPlace) {l : List SK}, sg P k t = some l → DataW.trod enc P w base sp hd fuel t cs = some x → F2 (MG w) l cs
  | 0, _, _, _, _, _, h, _ => by cases h
  | k + 1, fuel, t, cs, x, l, h, hx => by
    unfold sg at h
    split at h
    · rename_i ht
      simp only [Option.some.injEq] at h
      subst h
      obtain ⟨n, rfl, rfl, _⟩ := DataW.trod_int ht hx
      exact .cons ⟨.int .i64 n, .i n, rfl⟩ .nil
    · rename_i ht
      simp only [Option.some.injEq] at h
      subst h
      obtain ⟨s, rfl, rfl, _⟩ := DataW.trod_string ht hx
      exact .cons ⟨.str s, .s s, rfl⟩ .nil
    · rename_i fs ht
      obtain ⟨xs, n, _, rfl, hl, hlen, hf⟩ := DataW.trod_struct ht hx
      have := sgFs_spec (P := P) (R := MG w) fs.toList 0 (P.cellsOf t) cs h hl (by
        intro f hm l' hl'
        obtain ⟨i, hi, hi'⟩ := List.getElem_of_mem hm
        have hgi : fs[i]? = some f := by rw [← Array.getElem?_toList, List.getElem?_eq_getElem hi, hi']
        have hlt : i < xs.length := by rw [hlen]; exact (Array.getElem?_eq_some_iff.1 hgi).1
        have hy : xs[i]? = some xs[i] := List.getElem?_eq_getElem hlt
        have := hf i f hgi
        rw [hy] at this
        exact trod_sg k n f.type _ _ hl' this)
      simpa using this
    · rename_i n e ht
      split at h
      · rename_i l' hl' hcb
        simp only [Option.some.injEq] at h
        subst h
        obtain ⟨xs, m, _, ex, hlen, hl, hel⟩ := DataW.trod_array ht hx
        have hcz : P.cellsOf t = n * P.cellsOf e := Nat.eq_of_beq_eq_true hcb
        refine sgArr_spec (c := P.cellsOf e) n cs (by rw [← hcz]; exact hlen) fun i hi => ?_
        have hlt : i < xs.length := by omega
        have hy : xs[i]? = some xs[i] := List.getElem?_eq_getElem hlt
        have := hel i hi
        rw [hy] at this
        exact trod_sg k m e _ _ hl' this
      · cases h
    · rename_i e ht
      split at h
      · rename_i sh hsh
        split at h
        · rename_i hc
          simp only [Option.some.injEq] at h
          subst h
          rw [Bool.and_eq_true] at hc
          have hn : P.cellsOf e = sh.length := Nat.eq_of_beq_eq_true hc.1
          have hn0 : 0 < sh.length := Nat.le_of_ble_eq_true hc.2
          rcases DataW.trod_slice ht hx with ⟨h1, _⟩ | ⟨a, len0, cap0, elems, rest, n', _, h1, _, _, hlc, _, hel, hget, _⟩
          · rw [h1]
            exact .cons ⟨.sl false 0 sh.length (fun _ _ => .nilp), .sl sh 0 _ (fun i j k hi => by omega), .inl ⟨rfl, rfl, rfl⟩⟩ .nil
          · rw [h1]
            rw [hn] at hget
            have each : ∀ i, i < len0 → ∀ j, j < sh.length → ∃ d, (∀ k', sh[j]? = some k' → DG k' d) ∧ ∃ y, w.cell? ((a.add (i * sh.length)).add j) = some y ∧ D.rel (fullK w) d y := by
              intro i hi j hj
              have hg := hget i hi
              have hlt : i < elems.length := by omega
              rw [List.getElem?_eq_getElem hlt] at hg
              simp only [Option.bind_eq_some_iff] at hg
              obtain ⟨cs, hcs, hx⟩ := hg
              have hF := trod_sg k n' e cs _ hsh hx
              obtain ⟨_, hl, hcell⟩ := World.cells?_some hcs
              obtain ⟨y, hy, hm⟩ := f2_get hF (i := j) (List.getElem?_eq_getElem hj)
              obtain ⟨d, hd1, hd2⟩ := hm
              have hcj := hcell j hj
              exact ⟨d, fun k' hk' => by rw [List.getElem?_eq_getElem hj] at hk'; cases hk'; exact hd1, y, by rw [hcj, hy], hd2⟩
            have spot0 : 0 < len0 → a.spot = none := by
              intro hp
              obtain ⟨_, _, y, hy, _⟩ := each 0 hp 0 hn0
              have := World.cell?_spot hy
              simpa [Addr.add] using this
            refine .cons ⟨.sl false len0 sh.length (fun i j => if h : i < len0 ∧ j < sh.length then Classical.choose (each i h.1 j h.2) else .nilp), .sl sh len0 _ (fun i j k' hi hk' => ?_), .inr ⟨a, cap0, rfl, hlc, spot0, fun i j hi hj => ?_⟩⟩ .nil
            · have hj : j < sh.length := (List.getElem?_eq_some_iff.1 hk').1
              simp only [dif_pos (And.intro hi hj)]
              exact (Classical.choose_spec (each i hi j hj)).1 k' hk'
            · obtain ⟨_, y, hy, hr⟩ := Classical.choose_spec (each i hi j hj)
              have hp : a.spot = none := spot0 (by omega)
              have e1 : (a.add (i * sh.length)).add j = ⟨a.block, a.off + i * sh.length + j, none⟩ := by
                obtain ⟨b, off, spot⟩ := a
                simp only at hp
                subst hp
                rw [Go.WideShapes.add_plain, Go.WideShapes.add_plain]
              rw [e1] at hy
              refine ⟨_, fullK_cell hy, ?_⟩
              simp only [dif_pos (And.intro hi hj)]
              exact hr
        · cases h
      · cases h
    · cases h
theorem open_sl {r : Reach} {b0 : Nat} {t e : TypeId} {v : Value} {d : DataW H} {p : List MemPlace} (k : Nat) {sh : List SK} (ht : P.underlying t = some (.slice e)) (ha : sg P k t = some [.sl sh])
    (hv : Value.okWide P w r b0 t v) (h : DataW.Trod enc P w base sp hd t v d p) : MG w (.sl sh) v := by
  obtain ⟨a0, len0, cap0, rfl⟩ := okWide_slice ht hv
  obtain ⟨fuel, hf⟩ := h
  have hc : (Value.slice a0 len0 cap0).cells.toList = [Value.slice a0 len0 cap0] := rfl
  rw [hc] at hf
  have := trod_sg k fuel t _ _ ha hf
  cases this with
  | cons h _ => exact h
theorem open_st {r : Reach} {b0 : Nat} {t : TypeId} {fs : Array Field} {v : Value} {d : DataW H} {p : List MemPlace} (k : Nat) {l : List SK} (ht : P.underlying t = some (.struct fs)) (ha : sg P k t = some l)
    (hv : Value.okWide P w r b0 t v) (h : DataW.Trod enc P w base sp hd t v d p) : ∃ cs : List Value, F2 (MG w) l cs ∧ v = .agg cs.toArray := by
  obtain ⟨cs, rfl, hsz⟩ := okWide_struct ht hv
  obtain ⟨fuel, hf⟩ := h
  have hF : F2 (MG w) l cs.toList := trod_sg k fuel t _ _ ha hf
  exact ⟨cs.toList, hF, by rw [Array.toArray_toList]⟩
theorem mg_i {v : Value} (h : MG w .i v) : ∃ n, v = .int .i64 n := by
  obtain ⟨d, hd, hr⟩ := h
  cases hd with
  | i n => exact ⟨n, hr⟩
theorem mg_sl {sh : List SK} {v : Value} (h : MG w (.sl sh) v) : ∃ (len : Nat) (F : Nat → Nat → D), (D.sl false len sh.length F).rel (fullK w) v ∧ ∀ i j k, i < len → sh[j]? = some k → DG k (F i j) := by
  obtain ⟨d, hd, hr⟩ := h
  cases hd with
  | sl _ len F hF => exact ⟨len, F, hr, hF⟩
theorem dg_i {d : D} (h : DG .i d) : ∃ n, d = .int .i64 n := by cases h with | i n => exact ⟨n, rfl⟩
theorem dg_s {d : D} (h : DG .s d) : ∃ n, d = .str n := by cases h with | s n => exact ⟨n, rfl⟩
end
end Go.Rw
end
