/- The parts of the engines, of their contracts and of the plain laws that the claim rests on: A46, A47, A48, P1, P2, P3, P4, P5, A49, A50. -/
import Derived.Test.YtmlcblciegeniaaFP5
set_option linter.unusedVariables false
set_option linter.unusedSimpArgs false
section
set_option linter.unusedVariables false
set_option linter.unusedSimpArgs false
set_option maxRecDepth 100000
namespace Go.Pl
open Go.V Go.Proofs
abbrev xP (mo ga : List Int) (de : List Dem) (den : Int) (pa : List Int) := M.ptRes (cI (cI mo)) (cI (cI ga)) (cD (cD de)) den (cI (cI pa))
abbrev xB (mo ga : List Int) (de : List Dem) (den : Int) (pa : List Int) := M.brkRes (cI (cI mo)) (cI (cI ga)) (cD (cD de)) den (cI (cI pa))
abbrev xN (mo ga : List Int) (de : List Dem) (den : Int) (pa : List Int) := M.bindRes (cI (cI mo)) (cI (cI ga)) (cD (cD de)) den (cI (cI pa))
abbrev xC (mo ga : List Int) (de : List Dem) (den : Int) (pa : List Int) := M.ckPt (cI mo) (cI ga) (cD de) den (cI pa)
theorem open_bad {mo ga : List Int} {de : List Dem} {den : Int} {pa : List Int} {e : Int} (he : e ≠ 0) (h : M.openPt mo ga de den pa = e) : M.ptRes mo ga de den pa = (0, 0, e) ∧ M.brkRes mo ga de den pa = (0, e) ∧ M.bindRes mo ga de den pa = ([], e) := by
  unfold M.ptRes M.brkRes M.bindRes
  rw [h, bne_iff_ne.2 he]
  exact ⟨rfl, rfl, rfl⟩
theorem few_mem {de : List Dem} (f4 : ∀ i, i < de.length → (de.getD i dfD).nm.size ≤ 20 ∧ (de.getD i dfD).co.length ≤ 6) : ∀ d, d ∈ de → d.nm.size ≤ 1000000 ∧ d.co.length ≤ 1000000 := by
  intro d hd
  obtain ⟨k, hk, rfl⟩ := List.getElem_of_mem hd
  have := f4 k hk
  rw [List.getD_eq_getElem?_getD, List.getElem?_eq_getElem hk] at this
  exact ⟨by have := this.1; simp only [Option.getD_some] at this; omega, by have := this.2; simp only [Option.getD_some] at this; omega⟩
theorem law10 (mo ga : List Int) (de : List Dem) (den : Int) (pa : List Int) :
    (∃ e, e ≠ 0 ∧ M.ptRes mo ga de den pa = (0, 0, e) ∧ M.brkRes mo ga de den pa = (0, e) ∧ M.bindRes mo ga de den pa = ([], e) ∧ ((M.checkProg mo ga de).2 = e ∨ ((M.checkProg mo ga de).2 = 0 ∧ M.ptErr mo den pa = e))) ∨
    ((M.checkProg mo ga de).2 = 0 ∧ M.ptErr mo den pa = 0 ∧ M.ptRes mo ga de den pa = M.ckPt mo ga de den pa ∧ M.bindRes mo ga de den pa = (M.binds de den pa, 0) ∧
      ((M.brk de den pa < 0 ∧ M.brkRes mo ga de den pa = (0, 12)) ∨ (0 ≤ M.brk de den pa ∧ M.brkRes mo ga de den pa = (M.brk de den pa, 0)))) := by
  by_cases h1 : (M.checkProg mo ga de).2 = 0
  case neg =>
    have h : M.openPt mo ga de den pa = (M.checkProg mo ga de).2 := by rw [openPt_eq, bne_iff_ne.2 h1]; rfl
    obtain ⟨a, b, c⟩ := open_bad h1 h
    exact .inl ⟨_, h1, a, b, c, .inl rfl⟩
  by_cases h2 : M.ptErr mo den pa = 0
  case neg =>
    have h : M.openPt mo ga de den pa = M.ptErr mo den pa := by rw [openPt_eq, h1]; rfl
    obtain ⟨a, b, c⟩ := open_bad h2 h
    exact .inl ⟨_, h2, a, b, c, .inr ⟨h1, rfl⟩⟩
  have h : M.openPt mo ga de den pa = 0 := by rw [openPt_eq, h1]; exact h2
  refine .inr ⟨h1, h2, by unfold M.ptRes; rw [h]; rfl, by unfold M.bindRes; rw [h]; rfl, ?_⟩
  by_cases h3 : M.brk de den pa < 0
  · exact .inl ⟨h3, by unfold M.brkRes; rw [h, decide_eq_true h3]; rfl⟩
  · exact .inr ⟨by omega, by unfold M.brkRes; rw [h, decide_eq_false h3]; rfl⟩
def tr10 (q_mo : Bool) (mo : List Int) (q_ga : Bool) (ga : List Int) (q_de : Bool) (de : List Dem) (denx : Int) (q_pax : Bool) (pax : List Int) : T (List Ar) :=
    T.br (!true) cN (T.need (iI mo) (T.need (iI ga) (T.need (iD de) (T.br (!M.few (cI mo) (cI ga) (cD de)) (T.ret [Ar.c (D.bool true)]) (T.br (decide ((Nat.cast (R := Int) (List.length pax)) > (6 : Int))) (T.ret [Ar.c (D.bool true)]) (T.need (iI mo) (T.need (iI ga) (T.need (iD de) (T.need (List.length (cI mo) ≤ (1000000 : Nat)) (T.need (List.length (cI ga) ≤ (1000000 : Nat)) (T.need (List.length (cD de) ≤ (1000000 : Nat)) (T.need (∀ (d : Dem), d ∈ cD de → List.length (Dem.co d) ≤ (1000000 : Nat)) (T.need (iI pax) (T.need (List.length (cI pax) ≤ (1000000 : Nat)) (T.need (iI (cI mo)) (T.need (iI (cI ga)) (T.need (iD (cD de)) (T.need (iI (cI pax)) (T.need (List.length (cI (cI mo)) ≤ (1000000 : Nat)) (T.need (List.length (cI (cI ga)) ≤ (1000000 : Nat)) (T.need (List.length (cD (cD de)) ≤ (1000000 : Nat)) (T.need (∀ (d : Dem), d ∈ cD (cD de) → ByteArray.size (Dem.nm d) ≤ (1000000 : Nat) ∧ List.length (Dem.co d) ≤ (1000000 : Nat)) (T.need (List.length (cI (cI pax)) ≤ (1000000 : Nat)) (T.need (iI mo) (T.need (iI ga) (T.need (iD de) (T.need (List.length (cI mo) ≤ (1000000 : Nat)) (T.need (List.length (cI ga) ≤ (1000000 : Nat)) (T.need (List.length (cD de) ≤ (1000000 : Nat)) (T.need (∀ (d : Dem), d ∈ cD de → List.length (Dem.co d) ≤ (1000000 : Nat)) (T.need (iI pax) (T.need (List.length (cI pax) ≤ (1000000 : Nat)) (T.need (iI (cI mo)) (T.need (iI (cI ga)) (T.need (iD (cD de)) (T.need (iI (cI pax)) (T.need (List.length (cI (cI mo)) ≤ (1000000 : Nat)) (T.need (List.length (cI (cI ga)) ≤ (1000000 : Nat)) (T.need (List.length (cD (cD de)) ≤ (1000000 : Nat)) (T.need (∀ (d : Dem), d ∈ cD (cD de) → ByteArray.size (Dem.nm d) ≤ (1000000 : Nat) ∧ List.length (Dem.co d) ≤ (1000000 : Nat)) (T.need (List.length (cI (cI pax)) ≤ (1000000 : Nat)) (T.need (iI mo) (T.need (iI ga) (T.need (iD de) (T.need (List.length (cI mo) ≤ (1000000 : Nat)) (T.need (List.length (cI ga) ≤ (1000000 : Nat)) (T.need (List.length (cD de) ≤ (1000000 : Nat)) (T.need (∀ (d : Dem), d ∈ cD de → List.length (Dem.co d) ≤ (1000000 : Nat)) (T.need (iI pax) (T.need (List.length (cI pax) ≤ (1000000 : Nat)) (T.need (iI (cI mo)) (T.need (iI (cI ga)) (T.need (iD (cD de)) (T.need (iI (cI pax)) (T.need (List.length (cI (cI mo)) ≤ (1000000 : Nat)) (T.need (List.length (cI (cI ga)) ≤ (1000000 : Nat)) (T.need (List.length (cD (cD de)) ≤ (1000000 : Nat)) (T.need (∀ (d : Dem), d ∈ cD (cD de) → ByteArray.size (Dem.nm d) ≤ (1000000 : Nat) ∧ List.length (Dem.co d) ≤ (1000000 : Nat)) (T.need (List.length (cI (cI pax)) ≤ (1000000 : Nat)) (T.need (iI mo) (T.need (iI ga) (T.need (iD de) (T.need (List.length (cI mo) ≤ (1000000 : Nat)) (T.need (List.length (cD de) ≤ (1000000 : Nat)) (T.need (∀ (d : Dem), d ∈ cD de → ByteArray.size (Dem.nm d) ≤ (1000000 : Nat) ∧ List.length (Dem.co d) ≤ (1000000 : Nat)) (T.br (Prod.snd (M.checkProg (cI mo) (cI ga) (cD de)) == (0 : Int)) (T.need (iI mo) (T.need (iI ga) (T.need (iD de) (T.need (iI pax) (T.need (List.length (cI pax) ≤ (1000000 : Nat)) (T.br (M.ptErr (cI mo) denx (cI pax) != (0 : Int)) (T.br (Prod.snd (Prod.snd (xP mo ga de denx pax)) == M.ptErr (cI mo) denx (cI pax)) (T.br (Prod.snd (xB mo ga de denx pax) == M.ptErr (cI mo) denx (cI pax)) (T.br (Prod.snd (xN mo ga de denx pax) == M.ptErr (cI mo) denx (cI pax)) (T.br (Prod.fst (xP mo ga de denx pax) == (0 : Int) && (Prod.fst (Prod.snd (xP mo ga de denx pax)) == (0 : Int) && true)) (T.br (Prod.fst (xB mo ga de denx pax) == (0 : Int)) (T.ret [Ar.c (D.bool ((Nat.cast (R := Int) (List.length (Prod.fst (xN mo ga de denx pax)))) == (0 : Int)))]) cN) cN) cN) cN) cN) (T.need (iI mo) (T.need (iI ga) (T.need (iD de) (T.need (iI pax) (T.need (Prod.snd (M.checkProg (cI mo) (cI ga) (cD de)) = (0 : Int)) (T.need (M.ptErr (cI mo) denx (cI pax) = (0 : Int)) (T.need (iI mo) (T.need (iI ga) (T.need (iD de) (T.need (iI pax) (T.need (List.length (cD de) ≤ (1000000 : Nat)) (T.need (∀ (d : Dem), d ∈ cD de → List.length (Dem.co d) ≤ (1000000 : Nat) ∧ List.length (Dem.co d) ≤ List.length (cI pax)) (T.br (decide (M.brk (cD de) denx (cI pax) < (0 : Int))) (T.br (Prod.snd (xB mo ga de denx pax) != (12 : Int)) cN (T.br (Prod.fst (xB mo ga de denx pax) != (0 : Int)) cN (T.br (decide (M.brk (cD de) denx (cI pax) ≥ (0 : Int))) (T.br (Prod.snd (xB mo ga de denx pax) != (0 : Int)) cN (T.br (Prod.fst (xB mo ga de denx pax) != M.brk (cD de) denx (cI pax)) cN (T.br (Prod.snd (Prod.snd (xP mo ga de denx pax)) == Prod.snd (Prod.snd (xC mo ga de denx pax))) (T.br (Prod.fst (xP mo ga de denx pax) == Prod.fst (xC mo ga de denx pax) && (Prod.fst (Prod.snd (xP mo ga de denx pax)) == Prod.fst (Prod.snd (xC mo ga de denx pax)) && true)) (T.br (Prod.snd (xN mo ga de denx pax) == (0 : Int)) (T.need (iI mo) (T.need (iI ga) (T.need (iD de) (T.need (iI pax) (T.need (List.length (cD de) ≤ (1000000 : Nat)) (T.need (∀ (d : Dem), d ∈ cD de → List.length (Dem.co d) ≤ (1000000 : Nat) ∧ List.length (Dem.co d) ≤ List.length (cI pax)) (T.need (iI (Prod.fst (xN mo ga de denx pax))) (T.need (iI (M.binds (cD de) denx (cI pax))) (T.need (List.length (cI (Prod.fst (xN mo ga de denx pax))) ≤ (1000000 : Nat)) (T.ret [Ar.c (D.bool (decide (cI (Prod.fst (xN mo ga de denx pax)) = cI (M.binds (cD de) denx (cI pax)))))])))))))))) cN) cN) cN))) (T.br (Prod.snd (Prod.snd (xP mo ga de denx pax)) == Prod.snd (Prod.snd (xC mo ga de denx pax))) (T.br (Prod.fst (xP mo ga de denx pax) == Prod.fst (xC mo ga de denx pax) && (Prod.fst (Prod.snd (xP mo ga de denx pax)) == Prod.fst (Prod.snd (xC mo ga de denx pax)) && true)) (T.br (Prod.snd (xN mo ga de denx pax) == (0 : Int)) (T.need (iI mo) (T.need (iI ga) (T.need (iD de) (T.need (iI pax) (T.need (List.length (cD de) ≤ (1000000 : Nat)) (T.need (∀ (d : Dem), d ∈ cD de → List.length (Dem.co d) ≤ (1000000 : Nat) ∧ List.length (Dem.co d) ≤ List.length (cI pax)) (T.need (iI (Prod.fst (xN mo ga de denx pax))) (T.need (iI (M.binds (cD de) denx (cI pax))) (T.need (List.length (cI (Prod.fst (xN mo ga de denx pax))) ≤ (1000000 : Nat)) (T.ret [Ar.c (D.bool (decide (cI (Prod.fst (xN mo ga de denx pax)) = cI (M.binds (cD de) denx (cI pax)))))])))))))))) cN) cN) cN)))) (T.br (decide (M.brk (cD de) denx (cI pax) ≥ (0 : Int))) (T.br (Prod.snd (xB mo ga de denx pax) != (0 : Int)) cN (T.br (Prod.fst (xB mo ga de denx pax) != M.brk (cD de) denx (cI pax)) cN (T.br (Prod.snd (Prod.snd (xP mo ga de denx pax)) == Prod.snd (Prod.snd (xC mo ga de denx pax))) (T.br (Prod.fst (xP mo ga de denx pax) == Prod.fst (xC mo ga de denx pax) && (Prod.fst (Prod.snd (xP mo ga de denx pax)) == Prod.fst (Prod.snd (xC mo ga de denx pax)) && true)) (T.br (Prod.snd (xN mo ga de denx pax) == (0 : Int)) (T.need (iI mo) (T.need (iI ga) (T.need (iD de) (T.need (iI pax) (T.need (List.length (cD de) ≤ (1000000 : Nat)) (T.need (∀ (d : Dem), d ∈ cD de → List.length (Dem.co d) ≤ (1000000 : Nat) ∧ List.length (Dem.co d) ≤ List.length (cI pax)) (T.need (iI (Prod.fst (xN mo ga de denx pax))) (T.need (iI (M.binds (cD de) denx (cI pax))) (T.need (List.length (cI (Prod.fst (xN mo ga de denx pax))) ≤ (1000000 : Nat)) (T.ret [Ar.c (D.bool (decide (cI (Prod.fst (xN mo ga de denx pax)) = cI (M.binds (cD de) denx (cI pax)))))])))))))))) cN) cN) cN))) (T.br (Prod.snd (Prod.snd (xP mo ga de denx pax)) == Prod.snd (Prod.snd (xC mo ga de denx pax))) (T.br (Prod.fst (xP mo ga de denx pax) == Prod.fst (xC mo ga de denx pax) && (Prod.fst (Prod.snd (xP mo ga de denx pax)) == Prod.fst (Prod.snd (xC mo ga de denx pax)) && true)) (T.br (Prod.snd (xN mo ga de denx pax) == (0 : Int)) (T.need (iI mo) (T.need (iI ga) (T.need (iD de) (T.need (iI pax) (T.need (List.length (cD de) ≤ (1000000 : Nat)) (T.need (∀ (d : Dem), d ∈ cD de → List.length (Dem.co d) ≤ (1000000 : Nat) ∧ List.length (Dem.co d) ≤ List.length (cI pax)) (T.need (iI (Prod.fst (xN mo ga de denx pax))) (T.need (iI (M.binds (cD de) denx (cI pax))) (T.need (List.length (cI (Prod.fst (xN mo ga de denx pax))) ≤ (1000000 : Nat)) (T.ret [Ar.c (D.bool (decide (cI (Prod.fst (xN mo ga de denx pax)) = cI (M.binds (cD de) denx (cI pax)))))])))))))))) cN) cN) cN))))))))))))))))))))) (T.br (Prod.snd (M.checkProg (cI mo) (cI ga) (cD de)) != (0 : Int)) (T.br (Prod.snd (Prod.snd (xP mo ga de denx pax)) == Prod.snd (M.checkProg (cI mo) (cI ga) (cD de))) (T.br (Prod.snd (xB mo ga de denx pax) == Prod.snd (M.checkProg (cI mo) (cI ga) (cD de))) (T.br (Prod.snd (xN mo ga de denx pax) == Prod.snd (M.checkProg (cI mo) (cI ga) (cD de))) (T.br (Prod.fst (xP mo ga de denx pax) == (0 : Int) && (Prod.fst (Prod.snd (xP mo ga de denx pax)) == (0 : Int) && true)) (T.br (Prod.fst (xB mo ga de denx pax) == (0 : Int)) (T.ret [Ar.c (D.bool ((Nat.cast (R := Int) (List.length (Prod.fst (xN mo ga de denx pax)))) == (0 : Int)))]) cN) cN) cN) cN) cN) (T.need (iI mo) (T.need (iI ga) (T.need (iD de) (T.need (iI pax) (T.need (Prod.snd (M.checkProg (cI mo) (cI ga) (cD de)) = (0 : Int)) (T.need (M.ptErr (cI mo) denx (cI pax) = (0 : Int)) (T.need (iI mo) (T.need (iI ga) (T.need (iD de) (T.need (iI pax) (T.need (List.length (cD de) ≤ (1000000 : Nat)) (T.need (∀ (d : Dem), d ∈ cD de → List.length (Dem.co d) ≤ (1000000 : Nat) ∧ List.length (Dem.co d) ≤ List.length (cI pax)) (T.br (decide (M.brk (cD de) denx (cI pax) < (0 : Int))) (T.br (Prod.snd (xB mo ga de denx pax) != (12 : Int)) cN (T.br (Prod.fst (xB mo ga de denx pax) != (0 : Int)) cN (T.br (decide (M.brk (cD de) denx (cI pax) ≥ (0 : Int))) (T.br (Prod.snd (xB mo ga de denx pax) != (0 : Int)) cN (T.br (Prod.fst (xB mo ga de denx pax) != M.brk (cD de) denx (cI pax)) cN (T.br (Prod.snd (Prod.snd (xP mo ga de denx pax)) == Prod.snd (Prod.snd (xC mo ga de denx pax))) (T.br (Prod.fst (xP mo ga de denx pax) == Prod.fst (xC mo ga de denx pax) && (Prod.fst (Prod.snd (xP mo ga de denx pax)) == Prod.fst (Prod.snd (xC mo ga de denx pax)) && true)) (T.br (Prod.snd (xN mo ga de denx pax) == (0 : Int)) (T.need (iI mo) (T.need (iI ga) (T.need (iD de) (T.need (iI pax) (T.need (List.length (cD de) ≤ (1000000 : Nat)) (T.need (∀ (d : Dem), d ∈ cD de → List.length (Dem.co d) ≤ (1000000 : Nat) ∧ List.length (Dem.co d) ≤ List.length (cI pax)) (T.need (iI (Prod.fst (xN mo ga de denx pax))) (T.need (iI (M.binds (cD de) denx (cI pax))) (T.need (List.length (cI (Prod.fst (xN mo ga de denx pax))) ≤ (1000000 : Nat)) (T.ret [Ar.c (D.bool (decide (cI (Prod.fst (xN mo ga de denx pax)) = cI (M.binds (cD de) denx (cI pax)))))])))))))))) cN) cN) cN))) (T.br (Prod.snd (Prod.snd (xP mo ga de denx pax)) == Prod.snd (Prod.snd (xC mo ga de denx pax))) (T.br (Prod.fst (xP mo ga de denx pax) == Prod.fst (xC mo ga de denx pax) && (Prod.fst (Prod.snd (xP mo ga de denx pax)) == Prod.fst (Prod.snd (xC mo ga de denx pax)) && true)) (T.br (Prod.snd (xN mo ga de denx pax) == (0 : Int)) (T.need (iI mo) (T.need (iI ga) (T.need (iD de) (T.need (iI pax) (T.need (List.length (cD de) ≤ (1000000 : Nat)) (T.need (∀ (d : Dem), d ∈ cD de → List.length (Dem.co d) ≤ (1000000 : Nat) ∧ List.length (Dem.co d) ≤ List.length (cI pax)) (T.need (iI (Prod.fst (xN mo ga de denx pax))) (T.need (iI (M.binds (cD de) denx (cI pax))) (T.need (List.length (cI (Prod.fst (xN mo ga de denx pax))) ≤ (1000000 : Nat)) (T.ret [Ar.c (D.bool (decide (cI (Prod.fst (xN mo ga de denx pax)) = cI (M.binds (cD de) denx (cI pax)))))])))))))))) cN) cN) cN)))) (T.br (decide (M.brk (cD de) denx (cI pax) ≥ (0 : Int))) (T.br (Prod.snd (xB mo ga de denx pax) != (0 : Int)) cN (T.br (Prod.fst (xB mo ga de denx pax) != M.brk (cD de) denx (cI pax)) cN (T.br (Prod.snd (Prod.snd (xP mo ga de denx pax)) == Prod.snd (Prod.snd (xC mo ga de denx pax))) (T.br (Prod.fst (xP mo ga de denx pax) == Prod.fst (xC mo ga de denx pax) && (Prod.fst (Prod.snd (xP mo ga de denx pax)) == Prod.fst (Prod.snd (xC mo ga de denx pax)) && true)) (T.br (Prod.snd (xN mo ga de denx pax) == (0 : Int)) (T.need (iI mo) (T.need (iI ga) (T.need (iD de) (T.need (iI pax) (T.need (List.length (cD de) ≤ (1000000 : Nat)) (T.need (∀ (d : Dem), d ∈ cD de → List.length (Dem.co d) ≤ (1000000 : Nat) ∧ List.length (Dem.co d) ≤ List.length (cI pax)) (T.need (iI (Prod.fst (xN mo ga de denx pax))) (T.need (iI (M.binds (cD de) denx (cI pax))) (T.need (List.length (cI (Prod.fst (xN mo ga de denx pax))) ≤ (1000000 : Nat)) (T.ret [Ar.c (D.bool (decide (cI (Prod.fst (xN mo ga de denx pax)) = cI (M.binds (cD de) denx (cI pax)))))])))))))))) cN) cN) cN))) (T.br (Prod.snd (Prod.snd (xP mo ga de denx pax)) == Prod.snd (Prod.snd (xC mo ga de denx pax))) (T.br (Prod.fst (xP mo ga de denx pax) == Prod.fst (xC mo ga de denx pax) && (Prod.fst (Prod.snd (xP mo ga de denx pax)) == Prod.fst (Prod.snd (xC mo ga de denx pax)) && true)) (T.br (Prod.snd (xN mo ga de denx pax) == (0 : Int)) (T.need (iI mo) (T.need (iI ga) (T.need (iD de) (T.need (iI pax) (T.need (List.length (cD de) ≤ (1000000 : Nat)) (T.need (∀ (d : Dem), d ∈ cD de → List.length (Dem.co d) ≤ (1000000 : Nat) ∧ List.length (Dem.co d) ≤ List.length (cI pax)) (T.need (iI (Prod.fst (xN mo ga de denx pax))) (T.need (iI (M.binds (cD de) denx (cI pax))) (T.need (List.length (cI (Prod.fst (xN mo ga de denx pax))) ≤ (1000000 : Nat)) (T.ret [Ar.c (D.bool (decide (cI (Prod.fst (xN mo ga de denx pax)) = cI (M.binds (cD de) denx (cI pax)))))])))))))))) cN) cN) cN))))))))))))))))))))))))))))))))))))))))))))))))))))))))))))))))))))))))))))))))))
theorem t10 (q_mo : Bool) (mo : List Int) (q_ga : Bool) (ga : List Int) (q_de : Bool) (de : List Dem) (denx : Int) (q_pax : Bool) (pax : List Int) : runFnX Try.prog G0 (lookS [v15, v41, v18, v58, v57, v63, v64, v19, v23, v25, v65, v51, v49]) (fun _ => []) [] 1 150 4 10 Try.f10 [.agg [.sl q_mo mo.length 1 (eI.F mo), .sl q_ga ga.length 1 (eI.F ga), .sl q_de de.length 3 (eDm.F de)], .agg [dI denx, .sl q_pax pax.length 1 (eI.F pax)]] =
    tr10 q_mo mo q_ga ga q_de de denx q_pax pax := by kernel_rfl
theorem w10 (qm : Bool) (mo : List Int) (qg : Bool) (ga : List Int) (qd : Bool) (de : List Dem) (den : Int) (qp : Bool) (pa : List Int) : (tr10 qm mo qg ga qd de den qp pa).wp (fun rs => rsEqv rs [rB true]) := by
  unfold tr10
  simp only [xP, xB, xN, xC, cI, cD, iI, iD, cN, Enc.list_F]
  refine wp_br (fun hb => by cases hb) (fun _ => ⟨Enc.is_F _ _ _, Enc.is_F _ _ _, Enc.is_F _ _ _, wp_br (fun _ => rsEqv_refl _) (fun hf => wp_br (fun _ => rsEqv_refl _) (fun hl => ?_))⟩)
  have hf : M.few mo ga de = true := by simpa using hf
  have hl : ¬ (pa.length : Int) > 6 := of_decide_eq_false hl
  obtain ⟨f1, f2, f3, f4⟩ := few_yes hf
  have g1 : mo.length ≤ 1000000 := by omega
  have g2 : ga.length ≤ 1000000 := by omega
  have g3 : de.length ≤ 1000000 := by omega
  have g4 : pa.length ≤ 1000000 := by omega
  have hn : ∀ d, d ∈ de → d.nm.size ≤ 1000000 ∧ d.co.length ≤ 1000000 := few_mem f4
  have hn' : ∀ d, d ∈ de → d.co.length ≤ 1000000 := fun d hd => (hn d hd).2
  rcases law10 mo ga de den pa with ⟨e, he, hP, hB, hN, hE⟩ | ⟨hE, hE2, hP, hN, hB⟩
  · have hb : (e == 0) = false := by simpa using he
    have hb' : (e != 0) = true := bne_iff_ne.2 he
    rw [hP, hB, hN]
    rcases hE with hE | ⟨hE, hE2⟩
    · rw [hE]
      repeat (first | exact rsEqv_refl _ | refine ⟨Enc.is_F _ _ _, ?_⟩ | refine ⟨g1, ?_⟩ | refine ⟨g2, ?_⟩ | refine ⟨g3, ?_⟩ | refine ⟨g4, ?_⟩ | refine ⟨hn, ?_⟩ | refine ⟨hn', ?_⟩ | refine br_f hb ?_ | refine br_t hb' ?_ | refine br_t (beq_self_eq_true e) ?_ | refine br_t rfl ?_)
    · rw [hE, hE2]
      repeat (first | exact rsEqv_refl _ | refine ⟨Enc.is_F _ _ _, ?_⟩ | refine ⟨g1, ?_⟩ | refine ⟨g2, ?_⟩ | refine ⟨g3, ?_⟩ | refine ⟨g4, ?_⟩ | refine ⟨hn, ?_⟩ | refine ⟨hn', ?_⟩ | refine br_f hb ?_ | refine br_t hb' ?_ | refine br_t (beq_self_eq_true e) ?_ | refine br_t rfl ?_)
  · have hR := prog_right hE
    obtain ⟨p1, p2, p3⟩ := pt_right hE2
    have hn2 : ∀ d, d ∈ de → d.co.length ≤ 1000000 ∧ d.co.length ≤ pa.length := fun d hd => ⟨hn' d hd, by rw [(hR.rd d hd).1, p1]; exact Nat.le_refl _⟩
    have hz : (M.checkProg mo ga de).2 = 0 := hE
    have hz2 : M.ptErr mo den pa = 0 := hE2
    have hbl : (M.binds de den pa).length ≤ 1000000 := Nat.le_trans (bindK_len _ _) g3
    rw [hP, hN, hE, hE2]
    rcases hB with ⟨h0, hB⟩ | ⟨h0, hB⟩
    · rw [hB]
      repeat (first | exact rsEqv_refl _ | refine ⟨Enc.is_F _ _ _, ?_⟩ | refine ⟨g1, ?_⟩ | refine ⟨g2, ?_⟩ | refine ⟨g3, ?_⟩ | refine ⟨g4, ?_⟩ | refine ⟨hn, ?_⟩ | refine ⟨hn', ?_⟩ | refine ⟨hn2, ?_⟩ | refine ⟨rfl, ?_⟩ | refine ⟨trivial, ?_⟩ | refine ⟨hbl, ?_⟩ | refine br_t (decide_eq_true h0) ?_ | refine br_f (decide_eq_false (show ¬ M.brk de den pa ≥ 0 by omega)) ?_ | refine br_f rfl ?_ | refine br_t rfl ?_ | refine br_f (bne_self_eq_false _) ?_ | refine br_t (beq_self_eq_true _) ?_ | refine br_t (by simp only [beq_self_eq_true, Bool.and_self]) ?_ | exact rB_eqv (decide_eq_true rfl))
    · rw [hB]
      repeat (first | exact rsEqv_refl _ | refine ⟨Enc.is_F _ _ _, ?_⟩ | refine ⟨g1, ?_⟩ | refine ⟨g2, ?_⟩ | refine ⟨g3, ?_⟩ | refine ⟨g4, ?_⟩ | refine ⟨hn, ?_⟩ | refine ⟨hn', ?_⟩ | refine ⟨hn2, ?_⟩ | refine ⟨rfl, ?_⟩ | refine ⟨trivial, ?_⟩ | refine ⟨hbl, ?_⟩ | refine br_f (decide_eq_false (show ¬ M.brk de den pa < 0 by omega)) ?_ | refine br_t (decide_eq_true (show M.brk de den pa ≥ 0 from h0)) ?_ | refine br_f rfl ?_ | refine br_t rfl ?_ | refine br_f (bne_self_eq_false _) ?_ | refine br_t (beq_self_eq_true _) ?_ | refine br_t (by simp only [beq_self_eq_true, Bool.and_self]) ?_ | exact rB_eqv (decide_eq_true rfl))
def dom10 : DomF
  | [.agg [.sl _ n_mo st_mo F_mo, .sl _ n_ga st_ga F_ga, .sl _ n_de st_de F_de], .agg [.int .i64 denx, .sl _ n_pax st_pax F_pax]] => (match Nat.beq st_mo 1 && Nat.beq st_ga 1 && Nat.beq st_de 3 && Nat.beq st_pax 1 with
    | true => some ([eI.Is n_mo F_mo, eI.Is n_ga F_ga, eDm.Is n_de F_de, eI.Is n_pax F_pax], [rB true])
    | _ => none)
  | _ => none
theorem C10 : FOK Try.prog G0 gw 10 dom10 := by
  intro ags p r hd hp κ w xs hw hl hG hx
  unfold dom10 at hd
  split at hd
  · rename_i q_mo n_mo st_mo F_mo q_ga n_ga st_ga F_ga q_de n_de st_de F_de denx q_pax n_pax st_pax F_pax
    split at hd
    · rename_i hst
      simp only [Bool.and_eq_true] at hst
      obtain ⟨⟨⟨g1, g2⟩, g3⟩, g4⟩ := hst
      have g1 := Nat.eq_of_beq_eq_true g1
      have g2 := Nat.eq_of_beq_eq_true g2
      have g3 := Nat.eq_of_beq_eq_true g3
      have g4 := Nat.eq_of_beq_eq_true g4
      subst g1 g2 g3 g4
      simp only [Option.some.injEq, Prod.mk.injEq] at hd
      obtain ⟨rfl, rfl⟩ := hd
      obtain ⟨hI_mo, hI_ga, hI_de, hI_pax, hp⟩ := hp
      have heq : agsEqv [.agg [.sl q_mo n_mo 1 F_mo, .sl q_ga n_ga 1 F_ga, .sl q_de n_de 3 F_de], .agg [.int .i64 denx, .sl q_pax n_pax 1 F_pax]] [.agg [.sl q_mo (eI.list n_mo F_mo).length 1 (eI.F (eI.list n_mo F_mo)), .sl q_ga (eI.list n_ga F_ga).length 1 (eI.F (eI.list n_ga F_ga)), .sl q_de (eDm.list n_de F_de).length 3 (eDm.F (eDm.list n_de F_de))], .agg [.int .i64 denx, .sl q_pax (eI.list n_pax F_pax).length 1 (eI.F (eI.list n_pax F_pax))]] := ⟨⟨eI.to id hI_mo, eI.to id hI_ga, eDm.to id hI_de, trivial⟩, ⟨rfl, eI.to id hI_pax, trivial⟩, trivial⟩
      have len_mo : (eI.list n_mo F_mo).length = n_mo := eI.list_len
      have len_ga : (eI.list n_ga F_ga).length = n_ga := eI.list_len
      have len_de : (eDm.list n_de F_de).length = n_de := eDm.list_len
      have len_pax : (eI.list n_pax F_pax).length = n_pax := eI.list_len
      generalize eI.list n_mo F_mo = mo at *
      generalize eI.list n_ga F_ga = ga at *
      generalize eDm.list n_de F_de = de at *
      generalize eI.list n_pax F_pax = pax at *
      subst len_mo len_ga len_de len_pax
      exact fokX_fin mixed gw_stable (sl := [v15, v41, v18, v58, v57, v63, v64, v19, v23, v25, v65, v51, v49]) ⟨S15, S41, S18, S58, S57, S63, S64, S19, S23, S25, S65, S51, S49, trivial⟩ Try.func10 hw hl hG hx heq rfl (t10 _ _ _ _ _ _ _ _ _) (w10 _ _ _ _ _ _ _ _ _)
    · cases hd
  · cases hd
end Go.Pl
end

section
set_option linter.unusedVariables false
set_option linter.unusedSimpArgs false
set_option maxRecDepth 100000
namespace Go.Pl
open Go.V Go.Proofs
namespace M
def wOk (den : Int) (wd wt : List Int) : Bool := cond (within den 1 100000000000) (cond (!wd.any (badF 170)) (!wt.any (badF 170)) false) false
def wErr (mo : List Int) (de : List Dem) (den : Int) (wd wt : List Int) : Int := first [unl (cond ((wd.length : Int) == (de.length : Int)) ((wt.length : Int) == (mo.length : Int)) false) 10, unl (wOk den wd wt) 2]
def openW (mo ga : List Int) (de : List Dem) (den : Int) (wd wt : List Int) : Int := first [(checkProg mo ga de).2, unl (cond ((wd.length : Int) == (de.length : Int)) ((wt.length : Int) == (mo.length : Int)) false) 10, unl (wOk den wd wt) 2]
def onK (de : List Dem) (wd wt : List Int) (i k : Nat) : Int := (List.range k).foldl (fun a j => IntKind.i64.wrap (a + IntKind.i64.wrap (wd.getD j 0 * (de.getD j dfD).co.getD i 0))) (wt.getD i 0)
def putsF (n : Nat) (de : List Dem) (wd wt : List Int) (least : Nat → Int) : Bool := decide (firstIdx (fun i => decide (onK de wd wt i de.length < least i)) n 0 < 0)
def putsL (n : Nat) (de : List Dem) (den : Int) (wd wt le : List Int) : Bool := putsF n de wd wt (fun i => IntKind.i64.wrap (le.getD i 0 * den))
def bndK (mo : List Int) (de : List Dem) (wd wt : List Int) (k : Nat) : Int := (List.range k).foldl (fun a j => IntKind.i64.wrap (a + IntKind.i64.wrap (wd.getD j 0 * (de.getD j dfD).am))) (dot wt mo)
def bndW (mo : List Int) (de : List Dem) (wd wt : List Int) : Int := bndK mo de wd wt de.length
def cmp (n d m e : Int) : Int := cond (decide (IntKind.i64.wrap (n * e) < IntKind.i64.wrap (m * d))) (-1) (cond (decide (IntKind.i64.wrap (n * e) > IntKind.i64.wrap (m * d))) 1 0)
end M
theorem openW_eq (mo ga : List Int) (de : List Dem) (den : Int) (wd wt : List Int) : M.openW mo ga de den wd wt = cond ((M.checkProg mo ga de).2 != 0) (M.checkProg mo ga de).2 (M.wErr mo de den wd wt) := by
  unfold M.openW M.wErr
  rw [first_of]
  by_cases h : (M.checkProg mo ga de).2 = 0
  · rw [if_pos h, h]; rfl
  · rw [if_neg h, bne_iff_ne.2 h]; rfl
def tr54 (denw : Int) (q_dew : Bool) (dew : List Int) (q_tow : Bool) (tow : List Int) : T (List Ar) :=
    T.need (iI dew) (T.need (List.length (cI dew) ≤ (1000000 : Nat)) (T.need (iI tow) (T.need (List.length (cI tow) ≤ (1000000 : Nat)) (T.ret [Ar.agg [D.int IntKind.i64 denw, D.sl true (List.length (cI dew)) (1 : Nat) (Enc.F eI (cI dew)), D.sl true (List.length (cI tow)) (1 : Nat) (Enc.F eI (cI tow))]]))))
theorem t54 (denw : Int) (q_dew : Bool) (dew : List Int) (q_tow : Bool) (tow : List Int) : runFnX Try.prog G0 (lookS [v71]) (fun _ => []) [] 1 60 4 54 Try.f54 [.agg [dI denw, .sl q_dew dew.length 1 (eI.F dew), .sl q_tow tow.length 1 (eI.F tow)]] =
    tr54 denw q_dew dew q_tow tow := by kernel_rfl
theorem w54 (den : Int) (qw : Bool) (wd : List Int) (qt : Bool) (wt : List Int) (h1 : wd.length ≤ 1000000) (h2 : wt.length ≤ 1000000) : (tr54 den qw wd qt wt).wp (fun rs => rsEqv rs [.agg [dI den, .sl true wd.length 1 (eI.F wd), .sl true wt.length 1 (eI.F wt)]]) := by
  unfold tr54
  simp only [cI, iI, Enc.list_F]
  exact ⟨Enc.is_F _ _ _, h1, Enc.is_F _ _ _, h2, rsEqv_refl _⟩
def dom54 : DomF
  | [.agg [.int .i64 denw, .sl _ n_dew st_dew F_dew, .sl _ n_tow st_tow F_tow]] => (match Nat.beq st_dew 1 && Nat.beq st_tow 1 with
    | true => some ([eI.Is n_dew F_dew, eI.Is n_tow F_tow, (eI.list n_dew F_dew).length ≤ 1000000, (eI.list n_tow F_tow).length ≤ 1000000], [.agg [dI denw, .sl true (eI.list n_dew F_dew).length 1 (eI.F (eI.list n_dew F_dew)), .sl true (eI.list n_tow F_tow).length 1 (eI.F (eI.list n_tow F_tow))]])
    | _ => none)
  | _ => none
def v54 : Nat × Sm := (54, fokSm dom54)
theorem C54 : FOK Try.prog G0 gw 54 dom54 := by
  intro ags p r hd hp κ w xs hw hl hG hx
  unfold dom54 at hd
  split at hd
  · rename_i denw q_dew n_dew st_dew F_dew q_tow n_tow st_tow F_tow
    split at hd
    · rename_i hst
      simp only [Bool.and_eq_true] at hst
      obtain ⟨g1, g2⟩ := hst
      have g1 := Nat.eq_of_beq_eq_true g1
      have g2 := Nat.eq_of_beq_eq_true g2
      subst g1 g2
      simp only [Option.some.injEq, Prod.mk.injEq] at hd
      obtain ⟨rfl, rfl⟩ := hd
      obtain ⟨hI_dew, hI_tow, hp⟩ := hp
      have heq : agsEqv [.agg [.int .i64 denw, .sl q_dew n_dew 1 F_dew, .sl q_tow n_tow 1 F_tow]] [.agg [.int .i64 denw, .sl q_dew (eI.list n_dew F_dew).length 1 (eI.F (eI.list n_dew F_dew)), .sl q_tow (eI.list n_tow F_tow).length 1 (eI.F (eI.list n_tow F_tow))]] := ⟨⟨rfl, eI.to id hI_dew, eI.to id hI_tow, trivial⟩, trivial⟩
      have len_dew : (eI.list n_dew F_dew).length = n_dew := eI.list_len
      have len_tow : (eI.list n_tow F_tow).length = n_tow := eI.list_len
      generalize eI.list n_dew F_dew = dew at *
      generalize eI.list n_tow F_tow = tow at *
      subst len_dew len_tow
      exact fokX_fin mixed gw_stable (sl := [v71]) ⟨S71, trivial⟩ Try.func54 hw hl hG hx heq rfl (t54 _ _ _ _ _) (w54 _ _ _ _ _ hp.1 hp.2.1)
    · cases hd
  · cases hd
theorem S54 : SumOK Try.prog G0 gw 54 (fokSm dom54) := fok_sum Try.func54 rfl C54
def tr24 (q_mo : Bool) (mo : List Int) (q_ga : Bool) (ga : List Int) (q_de : Bool) (de : List Dem) (denw : Int) (q_dew : Bool) (dew : List Int) (q_tow : Bool) (tow : List Int) : T (List Ar) :=
    T.br ((Nat.cast (R := Int) (List.length dew)) != (Nat.cast (R := Int) (List.length de))) (T.ret [Ar.c (D.int IntKind.i64 (10 : Int))]) (T.br ((Nat.cast (R := Int) (List.length tow)) != (Nat.cast (R := Int) (List.length mo))) (T.ret [Ar.c (D.int IntKind.i64 (10 : Int))]) (T.br (!M.within denw (1 : Int) (100000000000 : Int)) (T.ret [Ar.c (D.int IntKind.i64 (2 : Int))]) (T.loop (Int × PUnit) ((0 : Int), PUnit.unit) fun (x : Int × PUnit) => T.br (decide (Prod.fst x < (Nat.cast (R := Int) (List.length dew)))) (T.need ((0 : Int) ≤ Prod.fst x) (T.need (Prod.fst x < (Nat.cast (R := Int) (List.length dew))) (T.br (!M.within (List.getD dew (Int.toNat (Prod.fst x)) (0 : Int)) (0 : Int) (100000000000 : Int)) (T.ret (Sum.inr [Ar.c (D.int IntKind.i64 (2 : Int))])) (T.ret (Sum.inl (IntKind.i64.wrap (Prod.fst x + (1 : Int)), PUnit.unit)))))) (T.loop (Int × PUnit) ((0 : Int), PUnit.unit) fun (x_1 : Int × PUnit) => T.br (decide (Prod.fst x_1 < (Nat.cast (R := Int) (List.length tow)))) (T.need ((0 : Int) ≤ Prod.fst x_1) (T.need (Prod.fst x_1 < (Nat.cast (R := Int) (List.length tow))) (T.br (!M.within (List.getD tow (Int.toNat (Prod.fst x_1)) (0 : Int)) (0 : Int) (100000000000 : Int)) (T.ret (Sum.inr (Sum.inr [Ar.c (D.int IntKind.i64 (2 : Int))]))) (T.ret (Sum.inl (IntKind.i64.wrap (Prod.fst x_1 + (1 : Int)), PUnit.unit)))))) (T.ret (Sum.inr (Sum.inr [Ar.c (D.int IntKind.i64 (0 : Int))])))))))
theorem t24 (q_mo : Bool) (mo : List Int) (q_ga : Bool) (ga : List Int) (q_de : Bool) (de : List Dem) (denw : Int) (q_dew : Bool) (dew : List Int) (q_tow : Bool) (tow : List Int) : runFnX Try.prog G0 (lookS [v45]) (fun _ => [(6, [.slot 5 (.int .i64)], none), (11, [.slot 6 (.int .i64)], none)]) [] 1 60 4 24 Try.f24 [.agg [.sl q_mo mo.length 1 (eI.F mo), .sl q_ga ga.length 1 (eI.F ga), .sl q_de de.length 3 (eDm.F de)], .agg [dI denw, .sl q_dew dew.length 1 (eI.F dew), .sl q_tow tow.length 1 (eI.F tow)]] =
    tr24 q_mo mo q_ga ga q_de de denw q_dew dew q_tow tow := by kernel_rfl
theorem w24 (qm : Bool) (mo : List Int) (qg : Bool) (ga : List Int) (qd : Bool) (de : List Dem) (den : Int) (qw : Bool) (wd : List Int) (qt : Bool) (wt : List Int) (h1 : wd.length ≤ 1000000) (h2 : wt.length ≤ 1000000) :
    (tr24 qm mo qg ga qd de den qw wd qt wt).wp (fun rs => rsEqv rs [rI (M.wErr mo de den wd wt)]) := by
  unfold tr24
  have er : ∀ e : Int, M.wErr mo de den wd wt = e → rsEqv [rI e] [rI (M.wErr mo de den wd wt)] := fun e h => by rw [h]; exact rsEqv_refl _
  refine wp_br (fun hb => er 10 ?_) (fun hb => ?_)
  · have hb : ((wd.length : Int) == (de.length : Int)) = false := by simpa using hb
    unfold M.wErr; rw [hb]; rfl
  have hb1 : ((wd.length : Int) == (de.length : Int)) = true := by simpa using hb
  refine wp_br (fun hb => er 10 ?_) (fun hb => ?_)
  · have hb : ((wt.length : Int) == (mo.length : Int)) = false := by simpa using hb
    unfold M.wErr; rw [hb1, hb]; rfl
  have hb2 : ((wt.length : Int) == (mo.length : Int)) = true := by simpa using hb
  refine wp_br (fun hb => er 2 ?_) (fun hb => ?_)
  · have hb : M.within den 1 100000000000 = false := by simpa using hb
    unfold M.wErr M.wOk; rw [hb1, hb2, hb]; rfl
  have hb3 : M.within den 1 100000000000 = true := by simpa using hb
  have hitwd : wd.any (badF 170) = true → rsEqv [rI 2] [rI (M.wErr mo de den wd wt)] := fun h => er 2 (by unfold M.wErr M.wOk; rw [hb1, hb2, hb3, h]; rfl)
  refine range_wp (n := wd.length) (fun k _ => wd.any (badF 170) = (wd.drop k).any (badF 170)) rfl ?_
  rintro kwd uwd hkwd hIwd
  refine wp_br (fun hb => ?_) (fun hb => ?_)
  · have hlt := lt_of_dec hb
    have hs := any_step (is := badF 170) hlt
    refine ⟨by show (0 : Int) ≤ kwd; omega, by show (kwd : Int) < wd.length; omega, wp_br (fun hx => ?_) (fun hx => ?_)⟩
    · have hx : badF 170 (wd.getD kwd 0) = true := hx
      rw [hx, Bool.true_or] at hs
      exact hitwd (hIwd.trans hs)
    · have hx : badF 170 (wd.getD kwd 0) = false := hx
      rw [hx, Bool.false_or] at hs
      exact ⟨hlt, wrap_succ (by omega), hIwd.trans hs⟩
  have hge := ge_of_dec hb
  obtain rfl : kwd = wd.length := by omega
  rw [List.drop_length] at hIwd
  have hIwd : wd.any (badF 170) = false := hIwd
  have hitwt : wt.any (badF 170) = true → rsEqv [rI 2] [rI (M.wErr mo de den wd wt)] := fun h => er 2 (by unfold M.wErr M.wOk; rw [hb1, hb2, hb3, hIwd, h]; rfl)
  refine range_wp (n := wt.length) (fun k _ => wt.any (badF 170) = (wt.drop k).any (badF 170)) rfl ?_
  rintro kwt uwt hkwt hIwt
  refine wp_br (fun hb => ?_) (fun hb => ?_)
  · have hlt := lt_of_dec hb
    have hs := any_step (is := badF 170) hlt
    refine ⟨by show (0 : Int) ≤ kwt; omega, by show (kwt : Int) < wt.length; omega, wp_br (fun hx => ?_) (fun hx => ?_)⟩
    · have hx : badF 170 (wt.getD kwt 0) = true := hx
      rw [hx, Bool.true_or] at hs
      exact hitwt (hIwt.trans hs)
    · have hx : badF 170 (wt.getD kwt 0) = false := hx
      rw [hx, Bool.false_or] at hs
      exact ⟨hlt, wrap_succ (by omega), hIwt.trans hs⟩
  have hge := ge_of_dec hb
  obtain rfl : kwt = wt.length := by omega
  rw [List.drop_length] at hIwt
  have hIwt : wt.any (badF 170) = false := hIwt
  exact er 0 (by unfold M.wErr M.wOk; rw [hb1, hb2, hb3, hIwd, hIwt]; rfl)
def dom24 : DomF
  | [.agg [.sl _ n_mo st_mo F_mo, .sl _ n_ga st_ga F_ga, .sl _ n_de st_de F_de], .agg [.int .i64 denw, .sl _ n_dew st_dew F_dew, .sl _ n_tow st_tow F_tow]] => (match Nat.beq st_mo 1 && Nat.beq st_ga 1 && Nat.beq st_de 3 && Nat.beq st_dew 1 && Nat.beq st_tow 1 with
    | true => some ([eI.Is n_mo F_mo, eI.Is n_ga F_ga, eDm.Is n_de F_de, eI.Is n_dew F_dew, eI.Is n_tow F_tow, (eI.list n_dew F_dew).length ≤ 1000000, (eI.list n_tow F_tow).length ≤ 1000000], [rI (M.wErr (eI.list n_mo F_mo) (eDm.list n_de F_de) denw (eI.list n_dew F_dew) (eI.list n_tow F_tow))])
    | _ => none)
  | _ => none
def v24 : Nat × Sm := (24, fokSm dom24)
theorem C24 : FOK Try.prog G0 gw 24 dom24 := by
  intro ags p r hd hp κ w xs hw hl hG hx
  unfold dom24 at hd
  split at hd
  · rename_i q_mo n_mo st_mo F_mo q_ga n_ga st_ga F_ga q_de n_de st_de F_de denw q_dew n_dew st_dew F_dew q_tow n_tow st_tow F_tow
    split at hd
    · rename_i hst
      simp only [Bool.and_eq_true] at hst
      obtain ⟨⟨⟨⟨g1, g2⟩, g3⟩, g4⟩, g5⟩ := hst
      have g1 := Nat.eq_of_beq_eq_true g1
      have g2 := Nat.eq_of_beq_eq_true g2
      have g3 := Nat.eq_of_beq_eq_true g3
      have g4 := Nat.eq_of_beq_eq_true g4
      have g5 := Nat.eq_of_beq_eq_true g5
      subst g1 g2 g3 g4 g5
      simp only [Option.some.injEq, Prod.mk.injEq] at hd
      obtain ⟨rfl, rfl⟩ := hd
      obtain ⟨hI_mo, hI_ga, hI_de, hI_dew, hI_tow, hp⟩ := hp
      have heq : agsEqv [.agg [.sl q_mo n_mo 1 F_mo, .sl q_ga n_ga 1 F_ga, .sl q_de n_de 3 F_de], .agg [.int .i64 denw, .sl q_dew n_dew 1 F_dew, .sl q_tow n_tow 1 F_tow]] [.agg [.sl q_mo (eI.list n_mo F_mo).length 1 (eI.F (eI.list n_mo F_mo)), .sl q_ga (eI.list n_ga F_ga).length 1 (eI.F (eI.list n_ga F_ga)), .sl q_de (eDm.list n_de F_de).length 3 (eDm.F (eDm.list n_de F_de))], .agg [.int .i64 denw, .sl q_dew (eI.list n_dew F_dew).length 1 (eI.F (eI.list n_dew F_dew)), .sl q_tow (eI.list n_tow F_tow).length 1 (eI.F (eI.list n_tow F_tow))]] := ⟨⟨eI.to id hI_mo, eI.to id hI_ga, eDm.to id hI_de, trivial⟩, ⟨rfl, eI.to id hI_dew, eI.to id hI_tow, trivial⟩, trivial⟩
      have len_mo : (eI.list n_mo F_mo).length = n_mo := eI.list_len
      have len_ga : (eI.list n_ga F_ga).length = n_ga := eI.list_len
      have len_de : (eDm.list n_de F_de).length = n_de := eDm.list_len
      have len_dew : (eI.list n_dew F_dew).length = n_dew := eI.list_len
      have len_tow : (eI.list n_tow F_tow).length = n_tow := eI.list_len
      generalize eI.list n_mo F_mo = mo at *
      generalize eI.list n_ga F_ga = ga at *
      generalize eDm.list n_de F_de = de at *
      generalize eI.list n_dew F_dew = dew at *
      generalize eI.list n_tow F_tow = tow at *
      subst len_mo len_ga len_de len_dew len_tow
      exact fokX_fin mixed gw_stable (sl := [v45]) ⟨S45, trivial⟩ Try.func24 hw hl hG hx heq rfl (t24 _ _ _ _ _ _ _ _ _ _ _) (w24 _ _ _ _ _ _ _ _ _ _ _ hp.1 hp.2.1)
    · cases hd
  · cases hd
theorem S24 : SumOK Try.prog G0 gw 24 (fokSm dom24) := fok_sum Try.func24 rfl C24
def tr93 (q_mo : Bool) (mo : List Int) (q_ga : Bool) (ga : List Int) (q_de : Bool) (de : List Dem) (denw : Int) (q_dew : Bool) (dew : List Int) (q_tow : Bool) (tow : List Int) (q_le : Bool) (le : List Int) : T (List Ar) :=
    T.loop (Int × PUnit) ((0 : Int), PUnit.unit) fun (x : Int × PUnit) => T.br (decide (Prod.fst x < (Nat.cast (R := Int) (List.length mo)))) (T.need ((0 : Int) ≤ Prod.fst x) (T.need (Prod.fst x < (Nat.cast (R := Int) (List.length tow))) (T.loop (Int × Int × PUnit) ((0 : Int), List.getD tow (Int.toNat (Prod.fst x)) (0 : Int), PUnit.unit) fun (x_1 : Int × Int × PUnit) => T.br (decide (Prod.fst x_1 < (Nat.cast (R := Int) (List.length de)))) (T.need ((0 : Int) ≤ Prod.fst x_1) (T.need (Prod.fst x_1 < (Nat.cast (R := Int) (List.length dew))) (T.need ((0 : Int) ≤ Prod.fst x_1) (T.need (Prod.fst x_1 < (Nat.cast (R := Int) (List.length de))) (T.need ((0 : Int) ≤ Prod.fst x) (T.need (Prod.fst x < (Nat.cast (R := Int) (List.length (Dem.co (List.getD de (Int.toNat (Prod.fst x_1)) dfD))))) (T.ret (Sum.inl (IntKind.i64.wrap (Prod.fst x_1 + (1 : Int)), IntKind.i64.wrap (Prod.fst (Prod.snd x_1) + IntKind.i64.wrap (List.getD dew (Int.toNat (Prod.fst x_1)) (0 : Int) * List.getD (Dem.co (List.getD de (Int.toNat (Prod.fst x_1)) dfD)) (Int.toNat (Prod.fst x)) (0 : Int))), PUnit.unit))))))))) (T.need ((0 : Int) ≤ Prod.fst x) (T.need (Prod.fst x < (Nat.cast (R := Int) (List.length le))) (T.br (decide (Prod.fst (Prod.snd x_1) < IntKind.i64.wrap (List.getD le (Int.toNat (Prod.fst x)) (0 : Int) * denw))) (T.ret (Sum.inr (Sum.inr [Ar.c (D.bool false)]))) (T.ret (Sum.inr (Sum.inl (IntKind.i64.wrap (Prod.fst x + (1 : Int)), PUnit.unit)))))))))) (T.ret (Sum.inr [Ar.c (D.bool true)]))
theorem t93 (q_mo : Bool) (mo : List Int) (q_ga : Bool) (ga : List Int) (q_de : Bool) (de : List Dem) (denw : Int) (q_dew : Bool) (dew : List Int) (q_tow : Bool) (tow : List Int) (q_le : Bool) (le : List Int) : runFnX Try.prog G0 (lookS []) (fun _ => [(2, [.slot 7 (.int .i64)], none), (6, [.slot 9 (.int .i64), .slot 8 (.int .i64)], none)]) [] 1 60 4 93 Try.f93 [.agg [.sl q_mo mo.length 1 (eI.F mo), .sl q_ga ga.length 1 (eI.F ga), .sl q_de de.length 3 (eDm.F de)], .agg [dI denw, .sl q_dew dew.length 1 (eI.F dew), .sl q_tow tow.length 1 (eI.F tow)], .c (.sl q_le le.length 1 (eI.F le))] =
    tr93 q_mo mo q_ga ga q_de de denw q_dew dew q_tow tow q_le le := by kernel_rfl
theorem w93 (qm : Bool) (mo : List Int) (qg : Bool) (ga : List Int) (qd : Bool) (de : List Dem) (den : Int) (qw : Bool) (wd : List Int) (qt : Bool) (wt : List Int) (ql : Bool) (le : List Int) (h1 : mo.length ≤ 1000000) (h3 : de.length ≤ 1000000) (hw : mo.length ≤ wt.length) (hd : de.length ≤ wd.length) (hl : mo.length ≤ le.length) (hn : ∀ d, d ∈ de → mo.length ≤ d.co.length) :
    (tr93 qm mo qg ga qd de den qw wd qt wt ql le).wp (fun rs => rsEqv rs [rB (M.putsL mo.length de den wd wt le)]) := by
  unfold tr93 M.putsL M.putsF
  obtain ⟨p, hp⟩ : ∃ p : Nat → Bool, p = fun i => decide (M.onK de wd wt i de.length < IntKind.i64.wrap (le.getD i 0 * den)) := ⟨_, rfl⟩
  rw [← hp]
  refine range_wp (n := mo.length) (fun k _ => M.firstIdx p mo.length 0 = M.firstIdx p (mo.length - k) k) rfl ?_
  rintro k u hk hI
  refine wp_br (fun hb => ?_) (fun hb => ?_)
  · have hlt := lt_of_dec hb
    have hs := idx_step (p := p) hlt
    refine ⟨by show (0 : Int) ≤ k; omega, by show (k : Int) < wt.length; omega, ?_⟩
    refine range_wp (n := de.length) (fun j s => s.1 = M.onK de wd wt k j) rfl ?_
    rintro j ⟨s, u'⟩ hj hJ
    have hJ : s = M.onK de wd wt k j := hJ
    subst hJ
    refine wp_br (fun hb => ?_) (fun hb => ?_)
    · have hjt := lt_of_dec hb
      exact ⟨by show (0 : Int) ≤ j; omega, by show (j : Int) < wd.length; omega, by show (0 : Int) ≤ j; omega, by show (j : Int) < de.length; omega, by show (0 : Int) ≤ k; omega, by have := hn _ (getD_mem (d := dfD) hjt); show (k : Int) < _; show (k : Int) < (de.getD j dfD).co.length; omega, hjt, wrap_succ (by omega), by unfold M.onK; rw [foldl_succ]; rfl⟩
    · have hge := ge_of_dec hb
      obtain rfl : j = de.length := by omega
      refine ⟨by show (0 : Int) ≤ k; omega, by show (k : Int) < le.length; omega, wp_br (fun hx => ?_) (fun hx => ?_)⟩
      · have hx : p k = true := by rw [hp]; exact hx
        rw [hx] at hs
        show rsEqv _ _
        rw [hI, hs]
        show rsEqv _ [rB (decide ((k : Int) < 0))]
        rw [decide_eq_false (by omega)]; exact rsEqv_refl _
      · have hx : p k = false := by rw [hp]; exact hx
        rw [hx] at hs
        exact ⟨hlt, wrap_succ (by omega), hI.trans hs⟩
  · have hge := ge_of_dec hb
    obtain rfl : k = mo.length := by omega
    rw [Nat.sub_self] at hI
    rw [hI]; exact rsEqv_refl _
def dom93 : DomF
  | [.agg [.sl _ n_mo st_mo F_mo, .sl _ n_ga st_ga F_ga, .sl _ n_de st_de F_de], .agg [.int .i64 denw, .sl _ n_dew st_dew F_dew, .sl _ n_tow st_tow F_tow], .c (.sl _ n_le st_le F_le)] => (match Nat.beq st_mo 1 && Nat.beq st_ga 1 && Nat.beq st_de 3 && Nat.beq st_dew 1 && Nat.beq st_tow 1 && Nat.beq st_le 1 with
    | true => some ([eI.Is n_mo F_mo, eI.Is n_ga F_ga, eDm.Is n_de F_de, eI.Is n_dew F_dew, eI.Is n_tow F_tow, eI.Is n_le F_le, (eI.list n_mo F_mo).length ≤ 1000000, (eDm.list n_de F_de).length ≤ 1000000, (eI.list n_mo F_mo).length ≤ (eI.list n_tow F_tow).length, (eDm.list n_de F_de).length ≤ (eI.list n_dew F_dew).length, (eI.list n_mo F_mo).length ≤ (eI.list n_le F_le).length, ∀ d, d ∈ (eDm.list n_de F_de) → (eI.list n_mo F_mo).length ≤ d.co.length], [rB (M.putsL (eI.list n_mo F_mo).length (eDm.list n_de F_de) denw (eI.list n_dew F_dew) (eI.list n_tow F_tow) (eI.list n_le F_le))])
    | _ => none)
  | _ => none
def v93 : Nat × Sm := (93, fokSm dom93)
theorem C93 : FOK Try.prog G0 gw 93 dom93 := by
  intro ags p r hd hp κ w xs hw hl hG hx
  unfold dom93 at hd
  split at hd
  · rename_i q_mo n_mo st_mo F_mo q_ga n_ga st_ga F_ga q_de n_de st_de F_de denw q_dew n_dew st_dew F_dew q_tow n_tow st_tow F_tow q_le n_le st_le F_le
    split at hd
    · rename_i hst
      simp only [Bool.and_eq_true] at hst
      obtain ⟨⟨⟨⟨⟨g1, g2⟩, g3⟩, g4⟩, g5⟩, g6⟩ := hst
      have g1 := Nat.eq_of_beq_eq_true g1
      have g2 := Nat.eq_of_beq_eq_true g2
      have g3 := Nat.eq_of_beq_eq_true g3
      have g4 := Nat.eq_of_beq_eq_true g4
      have g5 := Nat.eq_of_beq_eq_true g5
      have g6 := Nat.eq_of_beq_eq_true g6
      subst g1 g2 g3 g4 g5 g6
      simp only [Option.some.injEq, Prod.mk.injEq] at hd
      obtain ⟨rfl, rfl⟩ := hd
      obtain ⟨hI_mo, hI_ga, hI_de, hI_dew, hI_tow, hI_le, hp⟩ := hp
      have heq : agsEqv [.agg [.sl q_mo n_mo 1 F_mo, .sl q_ga n_ga 1 F_ga, .sl q_de n_de 3 F_de], .agg [.int .i64 denw, .sl q_dew n_dew 1 F_dew, .sl q_tow n_tow 1 F_tow], .c (.sl q_le n_le 1 F_le)] [.agg [.sl q_mo (eI.list n_mo F_mo).length 1 (eI.F (eI.list n_mo F_mo)), .sl q_ga (eI.list n_ga F_ga).length 1 (eI.F (eI.list n_ga F_ga)), .sl q_de (eDm.list n_de F_de).length 3 (eDm.F (eDm.list n_de F_de))], .agg [.int .i64 denw, .sl q_dew (eI.list n_dew F_dew).length 1 (eI.F (eI.list n_dew F_dew)), .sl q_tow (eI.list n_tow F_tow).length 1 (eI.F (eI.list n_tow F_tow))], .c (.sl q_le (eI.list n_le F_le).length 1 (eI.F (eI.list n_le F_le)))] := ⟨⟨eI.to id hI_mo, eI.to id hI_ga, eDm.to id hI_de, trivial⟩, ⟨rfl, eI.to id hI_dew, eI.to id hI_tow, trivial⟩, eI.to id hI_le, trivial⟩
      have len_mo : (eI.list n_mo F_mo).length = n_mo := eI.list_len
      have len_ga : (eI.list n_ga F_ga).length = n_ga := eI.list_len
      have len_de : (eDm.list n_de F_de).length = n_de := eDm.list_len
      have len_dew : (eI.list n_dew F_dew).length = n_dew := eI.list_len
      have len_tow : (eI.list n_tow F_tow).length = n_tow := eI.list_len
      have len_le : (eI.list n_le F_le).length = n_le := eI.list_len
      generalize eI.list n_mo F_mo = mo at *
      generalize eI.list n_ga F_ga = ga at *
      generalize eDm.list n_de F_de = de at *
      generalize eI.list n_dew F_dew = dew at *
      generalize eI.list n_tow F_tow = tow at *
      generalize eI.list n_le F_le = le at *
      subst len_mo len_ga len_de len_dew len_tow len_le
      exact fokX_fin mixed gw_stable (sl := []) trivial Try.func93 hw hl hG hx heq rfl (t93 _ _ _ _ _ _ _ _ _ _ _ _ _) (w93 _ _ _ _ _ _ _ _ _ _ _ _ _ hp.1 hp.2.1 hp.2.2.1 hp.2.2.2.1 hp.2.2.2.2.1 hp.2.2.2.2.2.1)
    · cases hd
  · cases hd
theorem S93 : SumOK Try.prog G0 gw 93 (fokSm dom93) := fok_sum Try.func93 rfl C93
def tr94 (q_mo : Bool) (mo : List Int) (q_ga : Bool) (ga : List Int) (q_de : Bool) (de : List Dem) (denw : Int) (q_dew : Bool) (dew : List Int) (q_tow : Bool) (tow : List Int) : T (List Ar) :=
    T.need (iI tow) (T.need (iI mo) (T.need (List.length (cI tow) ≤ (1000000 : Nat)) (T.need (List.length (cI tow) ≤ List.length (cI mo)) (T.loop (Int × Int × PUnit) ((0 : Int), M.dot (cI tow) (cI mo), PUnit.unit) fun (x : Int × Int × PUnit) => T.br (decide (Prod.fst x < (Nat.cast (R := Int) (List.length de)))) (T.need ((0 : Int) ≤ Prod.fst x) (T.need (Prod.fst x < (Nat.cast (R := Int) (List.length dew))) (T.need ((0 : Int) ≤ Prod.fst x) (T.need (Prod.fst x < (Nat.cast (R := Int) (List.length de))) (T.ret (Sum.inl (IntKind.i64.wrap (Prod.fst x + (1 : Int)), IntKind.i64.wrap (Prod.fst (Prod.snd x) + IntKind.i64.wrap (List.getD dew (Int.toNat (Prod.fst x)) (0 : Int) * Dem.am (List.getD de (Int.toNat (Prod.fst x)) dfD))), PUnit.unit))))))) (T.ret (Sum.inr [Ar.c (D.int IntKind.i64 (Prod.fst (Prod.snd x)))]))))))
theorem t94 (q_mo : Bool) (mo : List Int) (q_ga : Bool) (ga : List Int) (q_de : Bool) (de : List Dem) (denw : Int) (q_dew : Bool) (dew : List Int) (q_tow : Bool) (tow : List Int) : runFnX Try.prog G0 (lookS [v90]) (fun _ => [(3, [.slot 6 (.int .i64), .slot 5 (.int .i64)], none)]) [] 1 60 4 94 Try.f94 [.agg [.sl q_mo mo.length 1 (eI.F mo), .sl q_ga ga.length 1 (eI.F ga), .sl q_de de.length 3 (eDm.F de)], .agg [dI denw, .sl q_dew dew.length 1 (eI.F dew), .sl q_tow tow.length 1 (eI.F tow)]] =
    tr94 q_mo mo q_ga ga q_de de denw q_dew dew q_tow tow := by kernel_rfl
theorem w94 (qm : Bool) (mo : List Int) (qg : Bool) (ga : List Int) (qd : Bool) (de : List Dem) (den : Int) (qw : Bool) (wd : List Int) (qt : Bool) (wt : List Int) (h2 : wt.length ≤ 1000000) (h3 : de.length ≤ 1000000) (hw : wt.length ≤ mo.length) (hd : de.length ≤ wd.length) :
    (tr94 qm mo qg ga qd de den qw wd qt wt).wp (fun rs => rsEqv rs [rI (M.bndW mo de wd wt)]) := by
  unfold tr94 M.bndW
  simp only [cI, iI, Enc.list_F]
  refine ⟨Enc.is_F _ _ _, Enc.is_F _ _ _, h2, hw, ?_⟩
  refine range_wp (n := de.length) (fun j s => s.1 = M.bndK mo de wd wt j) rfl ?_
  rintro j ⟨s, u'⟩ hj hJ
  have hJ : s = M.bndK mo de wd wt j := hJ
  subst hJ
  refine wp_br (fun hb => ?_) (fun hb => ?_)
  · have hjt := lt_of_dec hb
    exact ⟨by show (0 : Int) ≤ j; omega, by show (j : Int) < wd.length; omega, by show (0 : Int) ≤ j; omega, by show (j : Int) < de.length; omega, hjt, wrap_succ (by omega), by unfold M.bndK; rw [foldl_succ]; rfl⟩
  · have hge := ge_of_dec hb
    obtain rfl : j = de.length := by omega
    exact rsEqv_refl _
def dom94 : DomF
  | [.agg [.sl _ n_mo st_mo F_mo, .sl _ n_ga st_ga F_ga, .sl _ n_de st_de F_de], .agg [.int .i64 denw, .sl _ n_dew st_dew F_dew, .sl _ n_tow st_tow F_tow]] => (match Nat.beq st_mo 1 && Nat.beq st_ga 1 && Nat.beq st_de 3 && Nat.beq st_dew 1 && Nat.beq st_tow 1 with
    | true => some ([eI.Is n_mo F_mo, eI.Is n_ga F_ga, eDm.Is n_de F_de, eI.Is n_dew F_dew, eI.Is n_tow F_tow, (eI.list n_tow F_tow).length ≤ 1000000, (eDm.list n_de F_de).length ≤ 1000000, (eI.list n_tow F_tow).length ≤ (eI.list n_mo F_mo).length, (eDm.list n_de F_de).length ≤ (eI.list n_dew F_dew).length], [rI (M.bndW (eI.list n_mo F_mo) (eDm.list n_de F_de) (eI.list n_dew F_dew) (eI.list n_tow F_tow))])
    | _ => none)
  | _ => none
def v94 : Nat × Sm := (94, fokSm dom94)
theorem C94 : FOK Try.prog G0 gw 94 dom94 := by
  intro ags p r hd hp κ w xs hw hl hG hx
  unfold dom94 at hd
  split at hd
  · rename_i q_mo n_mo st_mo F_mo q_ga n_ga st_ga F_ga q_de n_de st_de F_de denw q_dew n_dew st_dew F_dew q_tow n_tow st_tow F_tow
    split at hd
    · rename_i hst
      simp only [Bool.and_eq_true] at hst
      obtain ⟨⟨⟨⟨g1, g2⟩, g3⟩, g4⟩, g5⟩ := hst
      have g1 := Nat.eq_of_beq_eq_true g1
      have g2 := Nat.eq_of_beq_eq_true g2
      have g3 := Nat.eq_of_beq_eq_true g3
      have g4 := Nat.eq_of_beq_eq_true g4
      have g5 := Nat.eq_of_beq_eq_true g5
      subst g1 g2 g3 g4 g5
      simp only [Option.some.injEq, Prod.mk.injEq] at hd
      obtain ⟨rfl, rfl⟩ := hd
      obtain ⟨hI_mo, hI_ga, hI_de, hI_dew, hI_tow, hp⟩ := hp
      have heq : agsEqv [.agg [.sl q_mo n_mo 1 F_mo, .sl q_ga n_ga 1 F_ga, .sl q_de n_de 3 F_de], .agg [.int .i64 denw, .sl q_dew n_dew 1 F_dew, .sl q_tow n_tow 1 F_tow]] [.agg [.sl q_mo (eI.list n_mo F_mo).length 1 (eI.F (eI.list n_mo F_mo)), .sl q_ga (eI.list n_ga F_ga).length 1 (eI.F (eI.list n_ga F_ga)), .sl q_de (eDm.list n_de F_de).length 3 (eDm.F (eDm.list n_de F_de))], .agg [.int .i64 denw, .sl q_dew (eI.list n_dew F_dew).length 1 (eI.F (eI.list n_dew F_dew)), .sl q_tow (eI.list n_tow F_tow).length 1 (eI.F (eI.list n_tow F_tow))]] := ⟨⟨eI.to id hI_mo, eI.to id hI_ga, eDm.to id hI_de, trivial⟩, ⟨rfl, eI.to id hI_dew, eI.to id hI_tow, trivial⟩, trivial⟩
      have len_mo : (eI.list n_mo F_mo).length = n_mo := eI.list_len
      have len_ga : (eI.list n_ga F_ga).length = n_ga := eI.list_len
      have len_de : (eDm.list n_de F_de).length = n_de := eDm.list_len
      have len_dew : (eI.list n_dew F_dew).length = n_dew := eI.list_len
      have len_tow : (eI.list n_tow F_tow).length = n_tow := eI.list_len
      generalize eI.list n_mo F_mo = mo at *
      generalize eI.list n_ga F_ga = ga at *
      generalize eDm.list n_de F_de = de at *
      generalize eI.list n_dew F_dew = dew at *
      generalize eI.list n_tow F_tow = tow at *
      subst len_mo len_ga len_de len_dew len_tow
      exact fokX_fin mixed gw_stable (sl := [v90]) ⟨S90, trivial⟩ Try.func94 hw hl hG hx heq rfl (t94 _ _ _ _ _ _ _ _ _ _ _) (w94 _ _ _ _ _ _ _ _ _ _ _ hp.1 hp.2.1 hp.2.2.1 hp.2.2.2.1)
    · cases hd
  · cases hd
theorem S94 : SumOK Try.prog G0 gw 94 (fokSm dom94) := fok_sum Try.func94 rfl C94
def tr59 (n d m e : Int) : T (List Ar) :=
    T.br (decide (IntKind.i64.wrap (n * e) < IntKind.i64.wrap (m * d))) (T.ret [Ar.c (D.int IntKind.i64 (-1 : Int))]) (T.br (decide (IntKind.i64.wrap (n * e) > IntKind.i64.wrap (m * d))) (T.ret [Ar.c (D.int IntKind.i64 (1 : Int))]) (T.ret [Ar.c (D.int IntKind.i64 (0 : Int))]))
theorem t59 (n d m e : Int) : runFnX Try.prog G0 (lookS []) (fun _ => []) [] 1 60 4 59 Try.f59 [.agg [.int .i64 n, .int .i64 d], .agg [.int .i64 m, .int .i64 e]] =
    tr59 n d m e := by kernel_rfl
theorem w59 (n d m e : Int) : (tr59 n d m e).wp (fun rs => rsEqv rs [rI (M.cmp n d m e)]) := by
  unfold tr59 M.cmp
  exact wp_br (fun hb => by rw [hb]; exact rsEqv_refl _) (fun hb => wp_br (fun hc => by rw [hb, hc]; exact rsEqv_refl _) (fun hc => by rw [hb, hc]; exact rsEqv_refl _))
def dom59 : DomF
  | [.agg [.int .i64 n, .int .i64 d], .agg [.int .i64 m, .int .i64 e]] => some ([], [rI (M.cmp n d m e)])
  | _ => none
def v59 : Nat × Sm := (59, fokSm dom59)
theorem C59 : FOK Try.prog G0 gw 59 dom59 := by
  intro ags p r hd hp κ w xs hw hl hG hx
  unfold dom59 at hd
  split at hd
  · rename_i n d m e
    simp only [Option.some.injEq, Prod.mk.injEq] at hd
    obtain ⟨rfl, rfl⟩ := hd
    exact fokX_fin mixed gw_stable (sl := []) trivial Try.func59 hw hl hG hx (agsEqv_refl _) rfl (t59 n d m e) (w59 n d m e)
  · cases hd
theorem S59 : SumOK Try.prog G0 gw 59 (fokSm dom59) := fok_sum Try.func59 rfl C59
def tr133 (q_mo : Bool) (mo : List Int) (q_ga : Bool) (ga : List Int) (q_de : Bool) (de : List Dem) (denw : Int) (q_dew : Bool) (dew : List Int) (q_tow : Bool) (tow : List Int) : T (List Ar) :=
    T.need (iI mo) (T.need (iI ga) (T.need (iD de) (T.need (List.length mo ≤ (1000000 : Nat)) (T.need (List.length ga ≤ (1000000 : Nat)) (T.need (List.length de ≤ (1000000 : Nat)) (T.need (∀ (d : Dem), d ∈ cD de → ByteArray.size (Dem.nm d) ≤ (1000000 : Nat) ∧ List.length (Dem.co d) ≤ (1000000 : Nat)) (T.br ((Nat.cast (R := Int) (List.length dew)) == (Nat.cast (R := Int) (List.length de))) (T.br (M.within denw (1 : Int) (100000000000 : Int)) (T.br (!List.any (cI dew) (badF (170 : Nat))) (T.need (((Nat.cast (R := Int) (List.length dew)) == (Nat.cast (R := Int) (List.length de))) = true) (T.need (M.within denw (1 : Int) (100000000000 : Int) = true) (T.need (iI dew) (T.need (List.length dew ≤ (1000000 : Nat)) (T.need ((!List.any (cI dew) (badF (170 : Nat))) = true) (T.need (iI tow) (T.need (List.length tow ≤ (1000000 : Nat)) (T.ret [Ar.agg [D.sl q_mo (List.length mo) (1 : Nat) (Enc.F eI (cI mo)), D.sl q_ga (List.length ga) (1 : Nat) (Enc.F eI (cI ga)), D.sl q_de (List.length de) (3 : Nat) (Enc.F eDm (cD de))], Ar.c (D.int IntKind.i64 (M.first [Prod.snd (M.checkProg (cI mo) (cI ga) (cD de)), M.unl ((Nat.cast (R := Int) (List.length tow)) == (Nat.cast (R := Int) (List.length mo))) (10 : Int), M.unl (!List.any (cI tow) (badF (170 : Nat))) (2 : Int)]))])))))))) (T.need (((Nat.cast (R := Int) (List.length dew)) == (Nat.cast (R := Int) (List.length de))) = true) (T.need (M.within denw (1 : Int) (100000000000 : Int) = true) (T.need (iI dew) (T.need (List.length dew ≤ (1000000 : Nat)) (T.need ((!List.any (cI dew) (badF (170 : Nat))) = false) (T.ret [Ar.agg [D.sl q_mo (List.length mo) (1 : Nat) (Enc.F eI (cI mo)), D.sl q_ga (List.length ga) (1 : Nat) (Enc.F eI (cI ga)), D.sl q_de (List.length de) (3 : Nat) (Enc.F eDm (cD de))], Ar.c (D.int IntKind.i64 (M.first [Prod.snd (M.checkProg (cI mo) (cI ga) (cD de)), M.unl ((Nat.cast (R := Int) (List.length tow)) == (Nat.cast (R := Int) (List.length mo))) (10 : Int), (2 : Int)]))]))))))) (T.need (((Nat.cast (R := Int) (List.length dew)) == (Nat.cast (R := Int) (List.length de))) = true) (T.need (M.within denw (1 : Int) (100000000000 : Int) = false) (T.ret [Ar.agg [D.sl q_mo (List.length mo) (1 : Nat) (Enc.F eI (cI mo)), D.sl q_ga (List.length ga) (1 : Nat) (Enc.F eI (cI ga)), D.sl q_de (List.length de) (3 : Nat) (Enc.F eDm (cD de))], Ar.c (D.int IntKind.i64 (M.first [Prod.snd (M.checkProg (cI mo) (cI ga) (cD de)), M.unl ((Nat.cast (R := Int) (List.length tow)) == (Nat.cast (R := Int) (List.length mo))) (10 : Int), (2 : Int)]))])))) (T.br (M.within denw (1 : Int) (100000000000 : Int)) (T.br (!List.any (cI dew) (badF (170 : Nat))) (T.need (((Nat.cast (R := Int) (List.length dew)) == (Nat.cast (R := Int) (List.length de))) = false) (T.need (M.within denw (1 : Int) (100000000000 : Int) = true) (T.need (iI dew) (T.need (List.length dew ≤ (1000000 : Nat)) (T.need ((!List.any (cI dew) (badF (170 : Nat))) = true) (T.need (iI tow) (T.need (List.length tow ≤ (1000000 : Nat)) (T.ret [Ar.agg [D.sl q_mo (List.length mo) (1 : Nat) (Enc.F eI (cI mo)), D.sl q_ga (List.length ga) (1 : Nat) (Enc.F eI (cI ga)), D.sl q_de (List.length de) (3 : Nat) (Enc.F eDm (cD de))], Ar.c (D.int IntKind.i64 (M.first [Prod.snd (M.checkProg (cI mo) (cI ga) (cD de)), (10 : Int), M.unl (!List.any (cI tow) (badF (170 : Nat))) (2 : Int)]))])))))))) (T.need (((Nat.cast (R := Int) (List.length dew)) == (Nat.cast (R := Int) (List.length de))) = false) (T.need (M.within denw (1 : Int) (100000000000 : Int) = true) (T.need (iI dew) (T.need (List.length dew ≤ (1000000 : Nat)) (T.need ((!List.any (cI dew) (badF (170 : Nat))) = false) (T.ret [Ar.agg [D.sl q_mo (List.length mo) (1 : Nat) (Enc.F eI (cI mo)), D.sl q_ga (List.length ga) (1 : Nat) (Enc.F eI (cI ga)), D.sl q_de (List.length de) (3 : Nat) (Enc.F eDm (cD de))], Ar.c (D.int IntKind.i64 (M.first [Prod.snd (M.checkProg (cI mo) (cI ga) (cD de)), (10 : Int), (2 : Int)]))]))))))) (T.need (((Nat.cast (R := Int) (List.length dew)) == (Nat.cast (R := Int) (List.length de))) = false) (T.need (M.within denw (1 : Int) (100000000000 : Int) = false) (T.ret [Ar.agg [D.sl q_mo (List.length mo) (1 : Nat) (Enc.F eI (cI mo)), D.sl q_ga (List.length ga) (1 : Nat) (Enc.F eI (cI ga)), D.sl q_de (List.length de) (3 : Nat) (Enc.F eDm (cD de))], Ar.c (D.int IntKind.i64 (M.first [Prod.snd (M.checkProg (cI mo) (cI ga) (cD de)), (10 : Int), (2 : Int)]))])))))))))))
theorem t133 (q_mo : Bool) (mo : List Int) (q_ga : Bool) (ga : List Int) (q_de : Bool) (de : List Dem) (denw : Int) (q_dew : Bool) (dew : List Int) (q_tow : Bool) (tow : List Int) : runFnX Try.prog G0 (lookS [v83, v118, v103, v104, v105]) (fun _ => []) [] 1 90 4 133 Try.f133 [.agg [.sl q_mo mo.length 1 (eI.F mo), .sl q_ga ga.length 1 (eI.F ga), .sl q_de de.length 3 (eDm.F de)], .agg [dI denw, .sl q_dew dew.length 1 (eI.F dew), .sl q_tow tow.length 1 (eI.F tow)]] =
    tr133 q_mo mo q_ga ga q_de de denw q_dew dew q_tow tow := by kernel_rfl
theorem w133 (qm : Bool) (mo : List Int) (qg : Bool) (ga : List Int) (qd : Bool) (de : List Dem) (den : Int) (qw : Bool) (wd : List Int) (qt : Bool) (wt : List Int) (h1 : mo.length ≤ 1000000) (h2 : ga.length ≤ 1000000) (h3 : de.length ≤ 1000000) (hn : ∀ d, d ∈ de → d.nm.size ≤ 1000000 ∧ d.co.length ≤ 1000000) (h4 : wd.length ≤ 1000000) (h5 : wt.length ≤ 1000000) :
    (tr133 qm mo qg ga qd de den qw wd qt wt).wp (fun rs => rsEqv rs [.agg [.sl qm mo.length 1 (eI.F mo), .sl qg ga.length 1 (eI.F ga), .sl qd de.length 3 (eDm.F de)], rI (M.openW mo ga de den wd wt)]) := by
  unfold tr133
  simp only [cI, cD, iI, iD, Enc.list_F]
  repeat (first | refine ⟨Enc.is_F _ _ _, ?_⟩ | refine ⟨h1, ?_⟩ | refine ⟨h2, ?_⟩ | refine ⟨h3, ?_⟩ | refine ⟨h4, ?_⟩ | refine ⟨h5, ?_⟩ | refine ⟨hn, ?_⟩ | refine ⟨by assumption, ?_⟩)
  refine wp_br (fun a => ?_) (fun a => ?_)
  all_goals
    repeat (first | refine ⟨Enc.is_F _ _ _, ?_⟩ | refine ⟨h1, ?_⟩ | refine ⟨h2, ?_⟩ | refine ⟨h3, ?_⟩ | refine ⟨h4, ?_⟩ | refine ⟨h5, ?_⟩ | refine ⟨hn, ?_⟩ | refine ⟨by assumption, ?_⟩)
    refine wp_br (fun b => ?_) (fun b => ?_)
    · repeat (first | refine ⟨Enc.is_F _ _ _, ?_⟩ | refine ⟨h1, ?_⟩ | refine ⟨h2, ?_⟩ | refine ⟨h3, ?_⟩ | refine ⟨h4, ?_⟩ | refine ⟨h5, ?_⟩ | refine ⟨hn, ?_⟩ | refine ⟨by assumption, ?_⟩)
      refine wp_br (fun c => ?_) (fun c => ?_)
      all_goals
        repeat (first | refine ⟨Enc.is_F _ _ _, ?_⟩ | refine ⟨h1, ?_⟩ | refine ⟨h2, ?_⟩ | refine ⟨h3, ?_⟩ | refine ⟨h4, ?_⟩ | refine ⟨h5, ?_⟩ | refine ⟨hn, ?_⟩ | refine ⟨by assumption, ?_⟩)
        show rsEqv _ [_, rI (M.openW mo ga de den wd wt)]
        unfold M.openW M.wOk
        simp only [a, b, c, cond_true, cond_false]
        exact rsEqv_refl _
    · repeat (first | refine ⟨Enc.is_F _ _ _, ?_⟩ | refine ⟨h1, ?_⟩ | refine ⟨h2, ?_⟩ | refine ⟨h3, ?_⟩ | refine ⟨h4, ?_⟩ | refine ⟨h5, ?_⟩ | refine ⟨hn, ?_⟩ | refine ⟨by assumption, ?_⟩)
      show rsEqv _ [_, rI (M.openW mo ga de den wd wt)]
      unfold M.openW M.wOk
      simp only [a, b, cond_true, cond_false]
      exact rsEqv_refl _
def dom133 : DomF
  | [.agg [.sl q_mo n_mo st_mo F_mo, .sl q_ga n_ga st_ga F_ga, .sl q_de n_de st_de F_de], .agg [.int .i64 denw, .sl q_dew n_dew st_dew F_dew, .sl q_tow n_tow st_tow F_tow]] => (match Nat.beq st_mo 1 && Nat.beq st_ga 1 && Nat.beq st_de 3 && Nat.beq st_dew 1 && Nat.beq st_tow 1 with
    | true => some ([eI.Is n_mo F_mo, eI.Is n_ga F_ga, eDm.Is n_de F_de, eI.Is n_dew F_dew, eI.Is n_tow F_tow, (eI.list n_mo F_mo).length ≤ 1000000, (eI.list n_ga F_ga).length ≤ 1000000, (eDm.list n_de F_de).length ≤ 1000000, ∀ d, d ∈ (eDm.list n_de F_de) → d.nm.size ≤ 1000000 ∧ d.co.length ≤ 1000000, (eI.list n_dew F_dew).length ≤ 1000000, (eI.list n_tow F_tow).length ≤ 1000000], [.agg [.sl q_mo (eI.list n_mo F_mo).length 1 (eI.F (eI.list n_mo F_mo)), .sl q_ga (eI.list n_ga F_ga).length 1 (eI.F (eI.list n_ga F_ga)), .sl q_de (eDm.list n_de F_de).length 3 (eDm.F (eDm.list n_de F_de))], rI (M.openW (eI.list n_mo F_mo) (eI.list n_ga F_ga) (eDm.list n_de F_de) denw (eI.list n_dew F_dew) (eI.list n_tow F_tow))])
    | _ => none)
  | _ => none
def v133 : Nat × Sm := (133, fokSm dom133)
theorem C133 : FOK Try.prog G0 gw 133 dom133 := by
  intro ags p r hd hp κ w xs hw hl hG hx
  unfold dom133 at hd
  split at hd
  · rename_i q_mo n_mo st_mo F_mo q_ga n_ga st_ga F_ga q_de n_de st_de F_de denw q_dew n_dew st_dew F_dew q_tow n_tow st_tow F_tow
    split at hd
    · rename_i hst
      simp only [Bool.and_eq_true] at hst
      obtain ⟨⟨⟨⟨g1, g2⟩, g3⟩, g4⟩, g5⟩ := hst
      have g1 := Nat.eq_of_beq_eq_true g1
      have g2 := Nat.eq_of_beq_eq_true g2
      have g3 := Nat.eq_of_beq_eq_true g3
      have g4 := Nat.eq_of_beq_eq_true g4
      have g5 := Nat.eq_of_beq_eq_true g5
      subst g1 g2 g3 g4 g5
      simp only [Option.some.injEq, Prod.mk.injEq] at hd
      obtain ⟨rfl, rfl⟩ := hd
      obtain ⟨hI_mo, hI_ga, hI_de, hI_dew, hI_tow, hp⟩ := hp
      have heq : agsEqv [.agg [.sl q_mo n_mo 1 F_mo, .sl q_ga n_ga 1 F_ga, .sl q_de n_de 3 F_de], .agg [.int .i64 denw, .sl q_dew n_dew 1 F_dew, .sl q_tow n_tow 1 F_tow]] [.agg [.sl q_mo (eI.list n_mo F_mo).length 1 (eI.F (eI.list n_mo F_mo)), .sl q_ga (eI.list n_ga F_ga).length 1 (eI.F (eI.list n_ga F_ga)), .sl q_de (eDm.list n_de F_de).length 3 (eDm.F (eDm.list n_de F_de))], .agg [.int .i64 denw, .sl q_dew (eI.list n_dew F_dew).length 1 (eI.F (eI.list n_dew F_dew)), .sl q_tow (eI.list n_tow F_tow).length 1 (eI.F (eI.list n_tow F_tow))]] := ⟨⟨eI.to id hI_mo, eI.to id hI_ga, eDm.to id hI_de, trivial⟩, ⟨rfl, eI.to id hI_dew, eI.to id hI_tow, trivial⟩, trivial⟩
      have len_mo : (eI.list n_mo F_mo).length = n_mo := eI.list_len
      have len_ga : (eI.list n_ga F_ga).length = n_ga := eI.list_len
      have len_de : (eDm.list n_de F_de).length = n_de := eDm.list_len
      have len_dew : (eI.list n_dew F_dew).length = n_dew := eI.list_len
      have len_tow : (eI.list n_tow F_tow).length = n_tow := eI.list_len
      generalize eI.list n_mo F_mo = mo at *
      generalize eI.list n_ga F_ga = ga at *
      generalize eDm.list n_de F_de = de at *
      generalize eI.list n_dew F_dew = dew at *
      generalize eI.list n_tow F_tow = tow at *
      subst len_mo len_ga len_de len_dew len_tow
      exact fokX_fin mixed gw_stable (sl := [v83, v118, v103, v104, v105]) ⟨S83, S118, S103, S104, S105, trivial⟩ Try.func133 hw hl hG hx heq rfl (t133 _ _ _ _ _ _ _ _ _ _ _) (w133 _ _ _ _ _ _ _ _ _ _ _ hp.1 hp.2.1 hp.2.2.1 hp.2.2.2.1 hp.2.2.2.2.1 hp.2.2.2.2.2.1)
    · cases hd
  · cases hd
theorem S133 : SumOK Try.prog G0 gw 133 (fokSm dom133) := fok_sum Try.func133 rfl C133
end Go.Pl
end

section
set_option linter.unusedVariables false
set_option linter.unusedSimpArgs false
set_option maxRecDepth 100000
namespace Go.Pl
open Go.V Go.Proofs
def sumK (f : Nat → Int) (k : Nat) : Int := (List.range k).foldl (fun a j => a + f j) 0
theorem sumK_succ (f : Nat → Int) (k : Nat) : sumK f (k + 1) = sumK f k + f k := by unfold sumK; rw [foldl_succ]
theorem fold_exact {f : Nat → Int} {a0 A0 F : Int} (h0 : -A0 ≤ a0 ∧ a0 ≤ A0) : ∀ k : Nat, k ≤ 8 → (∀ j, j < k → -F ≤ f j ∧ f j ≤ F) → 0 ≤ F → A0 + 8 * F ≤ 9000000000000000000 →
    (List.range k).foldl (fun a j => IntKind.i64.wrap (a + IntKind.i64.wrap (f j))) a0 = a0 + sumK f k ∧ -(k * F) ≤ sumK f k ∧ sumK f k ≤ k * F := by
  intro k
  induction k with
  | zero => intro _ _ _ _; exact ⟨by simp [sumK], by simp [sumK], by simp [sumK]⟩
  | succ k ih =>
    intro hk hf hF hA
    obtain ⟨i1, i2, i3⟩ := ih (by omega) (fun j hj => hf j (by omega)) hF hA
    have hfk := hf k (by omega)
    rw [foldl_succ, i1, sumK_succ]
    have hkF : (k : Int) * F ≤ 7 * F := Int.mul_le_mul_of_nonneg_right (by omega) hF
    have hk1 : ((k + 1 : Nat) : Int) * F = (k : Int) * F + F := by rw [Int.natCast_succ, Int.add_mul, Int.one_mul]
    rw [hk1]
    generalize (k : Int) * F = kF at *
    rw [wrap_id (n := f k) (by omega) (by omega), wrap_id (by omega) (by omega)]
    exact ⟨by omega, by omega, by omega⟩
theorem wt_right {mo : List Int} {de : List Dem} {den : Int} {wd wt : List Int} (h : M.wErr mo de den wd wt = 0) : wd.length = de.length ∧ wt.length = mo.length ∧ (1 ≤ den ∧ den ≤ 100000000000) ∧ (∀ x, x ∈ wd → 0 ≤ x ∧ x ≤ 100000000000) ∧ ∀ x, x ∈ wt → 0 ≤ x ∧ x ≤ 100000000000 := by
  unfold M.wErr at h
  have z := first_zero h
  have a1 := unl_zero (by decide) (z _ (List.mem_cons_self ..))
  have a2 := unl_zero (by decide) (z _ (List.mem_cons_of_mem _ (List.mem_cons_self ..)))
  cases h1 : ((wd.length : Int) == (de.length : Int)) with
  | false => rw [h1] at a1; cases a1
  | true =>
    rw [h1] at a1
    have a1 : (wt.length : Int) = mo.length := by simpa using a1
    have h1 : (wd.length : Int) = de.length := by simpa using h1
    unfold M.wOk at a2
    cases hw : M.within den 1 100000000000 with
    | false => rw [hw] at a2; cases a2
    | true =>
      rw [hw] at a2
      cases hx : (!wd.any (badF 170)) with
      | false => rw [hx] at a2; cases a2
      | true =>
        rw [hx] at a2
        exact ⟨by omega, by omega, within_iff.1 hw, fun x hx' => within_of (any_none hx x hx') rfl, fun x hx' => within_of (any_none a2 x hx') rfl⟩
theorem openW_right {mo ga : List Int} {de : List Dem} {den : Int} {wd wt : List Int} (h : M.openW mo ga de den wd wt = 0) : (M.checkProg mo ga de).2 = 0 ∧ M.wErr mo de den wd wt = 0 := by
  rw [openW_eq] at h
  by_cases hc : (M.checkProg mo ga de).2 = 0
  · rw [hc] at h; exact ⟨hc, h⟩
  · rw [bne_iff_ne.2 hc] at h; exact absurd h hc
theorem getD_bnd {l : List Int} {lo hi : Int} (h0 : lo ≤ 0 ∧ 0 ≤ hi) (h : ∀ x, x ∈ l → lo ≤ x ∧ x ≤ hi) (i : Nat) : lo ≤ l.getD i 0 ∧ l.getD i 0 ≤ hi := by
  rcases Nat.lt_or_ge i l.length with hi' | hi'
  · exact h _ (getD_mem hi')
  · rw [List.getD_eq_getElem?_getD, List.getElem?_eq_none hi']; simpa using h0
def onX (de : List Dem) (wd wt : List Int) (i : Nat) : Int := wt.getD i 0 + sumK (fun j => wd.getD j 0 * (de.getD j dfD).co.getD i 0) de.length
def bndX (mo : List Int) (de : List Dem) (wd wt : List Int) : Int := dotK wt mo wt.length + sumK (fun j => wd.getD j 0 * (de.getD j dfD).am) de.length
theorem dem_bnd {mo ga : List Int} {de : List Dem} (hR : RightP mo ga de) (j i : Nat) : (-100 ≤ (de.getD j dfD).co.getD i 0 ∧ (de.getD j dfD).co.getD i 0 ≤ 100) ∧ -1000000 ≤ (de.getD j dfD).am ∧ (de.getD j dfD).am ≤ 1000000 := by
  rcases Nat.lt_or_ge j de.length with hj | hj
  · obtain ⟨_, h2, h3⟩ := hR.rd _ (getD_mem (d := dfD) hj)
    exact ⟨getD_bnd (by omega) h2 i, h3⟩
  · have e : de.getD j dfD = dfD := by rw [List.getD_eq_getElem?_getD, List.getElem?_eq_none hj]; rfl
    rw [e]
    exact ⟨by simp [dfD], by simp [dfD]⟩
theorem on_exact {mo ga : List Int} {de : List Dem} {den : Int} {wd wt : List Int} (hR : RightP mo ga de) (hW : M.wErr mo de den wd wt = 0) (i : Nat) : M.onK de wd wt i de.length = onX de wd wt i ∧ -100000000000000 ≤ onX de wd wt i ∧ onX de wd wt i ≤ 100000000000000 := by
  obtain ⟨_, _, _, w4, w5⟩ := wt_right hW
  have hwt := getD_bnd (by omega) w5 i
  obtain ⟨e1, e2, e3⟩ := fold_exact (f := fun j => wd.getD j 0 * (de.getD j dfD).co.getD i 0) (a0 := wt.getD i 0) (A0 := 100000000000) (F := 10000000000000) (by omega) de.length hR.ld (fun j _ => by
    have h1 := getD_bnd (by omega) w4 j
    have h2 := (dem_bnd hR j i).1
    have := mul_bnd (A := 100000000000) (B := 100) (x := wd.getD j 0) (y := (de.getD j dfD).co.getD i 0) (by omega) (by omega) (by omega)
    simpa using this) (by omega) (by omega)
  have hd := hR.ld
  refine ⟨e1, ?_, ?_⟩
  · unfold onX; omega
  · unfold onX; omega
theorem bnd_exact {mo ga : List Int} {de : List Dem} {den : Int} {wd wt : List Int} (hR : RightP mo ga de) (hW : M.wErr mo de den wd wt = 0) : M.bndW mo de wd wt = bndX mo de wd wt ∧ i64ok (M.bndW mo de wd wt) ∧ i64ok den := by
  obtain ⟨w1, w2, w3, w4, w5⟩ := wt_right hW
  have hn := hR.n4
  have hd := hR.ld
  obtain ⟨d1, d2, d3⟩ := dot_exact (A := 100000000000) (B := 1000000) (u := wt) (v := mo) (by omega) (by omega) (fun x hx => by have := w5 x hx; omega) (fun x hx => by have := hR.rm x hx; omega) (by omega) (by omega)
  have hl : (wt.length : Int) ≤ 4 := by omega
  obtain ⟨e1, e2, e3⟩ := fold_exact (f := fun j => wd.getD j 0 * (de.getD j dfD).am) (a0 := M.dot wt mo) (A0 := 400000000000000000) (F := 100000000000000000) (by omega) de.length hR.ld (fun j _ => by
    have h1 := getD_bnd (by omega) w4 j
    have h2 := (dem_bnd hR j 0).2
    have := mul_bnd (A := 100000000000) (B := 1000000) (x := wd.getD j 0) (y := (de.getD j dfD).am) (by omega) (by omega) (by omega)
    simpa using this) (by omega) (by omega)
  have e : M.bndW mo de wd wt = bndX mo de wd wt := by
    unfold M.bndW M.bndK bndX
    rw [e1, d1]
  refine ⟨e, ?_, ?_⟩
  · rw [e]
    unfold bndX
    rw [← d1]
    unfold i64ok
    omega
  · unfold i64ok; omega
namespace M
def ckW (mo ga : List Int) (de : List Dem) (den : Int) (wd wt : List Int) : Int × Int × Int := cond (putsL mo.length de den wd wt ga) (frac (bndW mo de wd wt) den) (0, 0, 20)
def refu (mo : List Int) (de : List Dem) (wd wt : List Int) : Bool := cond (putsF mo.length de wd wt (fun _ => 0)) (decide (bndW mo de wd wt < 0)) false
def ckWRes (mo ga : List Int) (de : List Dem) (den : Int) (wd wt : List Int) : Int × Int × Int := cond (openW mo ga de den wd wt != 0) (0, 0, openW mo ga de den wd wt) (ckW mo ga de den wd wt)
def ckRRes (mo ga : List Int) (de : List Dem) (den : Int) (wd wt : List Int) : Int := cond (openW mo ga de den wd wt != 0) (openW mo ga de den wd wt) (unl (refu mo de wd wt) 20)
end M
def tr26 (q_mo : Bool) (mo : List Int) (q_ga : Bool) (ga : List Int) (q_de : Bool) (de : List Dem) (denw : Int) (q_dew : Bool) (dew : List Int) (q_tow : Bool) (tow : List Int) : T (List Ar) :=
    T.need (iI mo) (T.need (iI ga) (T.need (iD de) (T.need (iI dew) (T.need (iI tow) (T.need (iI ga) (T.need (List.length (cI mo) ≤ (1000000 : Nat)) (T.need (List.length (cD de) ≤ (1000000 : Nat)) (T.need (List.length (cI mo) ≤ List.length (cI tow)) (T.need (List.length (cD de) ≤ List.length (cI dew)) (T.need (List.length (cI mo) ≤ List.length (cI ga)) (T.need (∀ (d : Dem), d ∈ cD de → List.length (cI mo) ≤ List.length (Dem.co d)) (T.br (!M.putsL (List.length (cI mo)) (cD de) denw (cI dew) (cI tow) (cI ga)) (T.ret [Ar.agg [D.int IntKind.i64 (0 : Int), D.int IntKind.i64 (0 : Int)], Ar.c (D.int IntKind.i64 (20 : Int))]) (T.need (iI mo) (T.need (iI ga) (T.need (iD de) (T.need (iI dew) (T.need (iI tow) (T.need (List.length (cI tow) ≤ (1000000 : Nat)) (T.need (List.length (cD de) ≤ (1000000 : Nat)) (T.need (List.length (cI tow) ≤ List.length (cI mo)) (T.need (List.length (cD de) ≤ List.length (cI dew)) (T.need (i64ok (M.bndW (cI mo) (cD de) (cI dew) (cI tow))) (T.need (i64ok denw) (T.need ((0 : Int) < denw) (T.ret [Ar.agg [D.int IntKind.i64 (Prod.fst (M.frac (M.bndW (cI mo) (cD de) (cI dew) (cI tow)) denw)), D.int IntKind.i64 (Prod.fst (Prod.snd (M.frac (M.bndW (cI mo) (cD de) (cI dew) (cI tow)) denw)))], Ar.c (D.int IntKind.i64 (Prod.snd (Prod.snd (M.frac (M.bndW (cI mo) (cD de) (cI dew) (cI tow)) denw))))])))))))))))))))))))))))))
theorem t26 (q_mo : Bool) (mo : List Int) (q_ga : Bool) (ga : List Int) (q_de : Bool) (de : List Dem) (denw : Int) (q_dew : Bool) (dew : List Int) (q_tow : Bool) (tow : List Int) : runFnX Try.prog G0 (lookS [v93, v94, v92]) (fun _ => []) [] 1 60 4 26 Try.f26 [.agg [.sl q_mo mo.length 1 (eI.F mo), .sl q_ga ga.length 1 (eI.F ga), .sl q_de de.length 3 (eDm.F de)], .agg [dI denw, .sl q_dew dew.length 1 (eI.F dew), .sl q_tow tow.length 1 (eI.F tow)]] =
    tr26 q_mo mo q_ga ga q_de de denw q_dew dew q_tow tow := by kernel_rfl
theorem w26 (qm : Bool) (mo : List Int) (qg : Bool) (ga : List Int) (qd : Bool) (de : List Dem) (den : Int) (qw : Bool) (wd : List Int) (qt : Bool) (wt : List Int) (hc : (M.checkProg mo ga de).2 = 0) (hW : M.wErr mo de den wd wt = 0) :
    (tr26 qm mo qg ga qd de den qw wd qt wt).wp (fun rs => rsEqv rs (resF (M.ckW mo ga de den wd wt))) := by
  unfold tr26 M.ckW
  have hR := prog_right hc
  obtain ⟨w1, w2, w3, w4, w5⟩ := wt_right hW
  obtain ⟨x1, x2, x3⟩ := bnd_exact hR hW
  have f1 := hR.n4; have f2 := hR.ld; have f3 := hR.lg
  have fd : ∀ d, d ∈ de → mo.length ≤ d.co.length := fun d hd => by rw [(hR.rd d hd).1]; exact Nat.le_refl _
  have m1 : mo.length ≤ 1000000 := by omega
  have m2 : de.length ≤ 1000000 := by omega
  have m3 : mo.length ≤ wt.length := by omega
  have m4 : de.length ≤ wd.length := by omega
  have m5 : wt.length ≤ 1000000 := by omega
  have m6 : wt.length ≤ mo.length := by omega
  simp only [cI, cD, iI, iD, Enc.list_F]
  refine ⟨Enc.is_F _ _ _, Enc.is_F _ _ _, Enc.is_F _ _ _, Enc.is_F _ _ _, Enc.is_F _ _ _, Enc.is_F _ _ _, m1, m2, m3, m4, by omega, fd, wp_br (fun hb => ?_) (fun hb => ?_)⟩
  · rw [Bool.not_eq_true'] at hb
    rw [hb]; exact rsEqv_refl _
  · rw [Bool.not_eq_false'] at hb
    rw [hb]
    exact ⟨Enc.is_F _ _ _, Enc.is_F _ _ _, Enc.is_F _ _ _, Enc.is_F _ _ _, Enc.is_F _ _ _, m5, m2, m6, m4, x2, x3, by omega, rsEqv_refl _⟩
def dom26 : DomF
  | [.agg [.sl _ n_mo st_mo F_mo, .sl _ n_ga st_ga F_ga, .sl _ n_de st_de F_de], .agg [.int .i64 denw, .sl _ n_dew st_dew F_dew, .sl _ n_tow st_tow F_tow]] => (match Nat.beq st_mo 1 && Nat.beq st_ga 1 && Nat.beq st_de 3 && Nat.beq st_dew 1 && Nat.beq st_tow 1 with
    | true => some ([eI.Is n_mo F_mo, eI.Is n_ga F_ga, eDm.Is n_de F_de, eI.Is n_dew F_dew, eI.Is n_tow F_tow, (M.checkProg (eI.list n_mo F_mo) (eI.list n_ga F_ga) (eDm.list n_de F_de)).2 = 0, M.wErr (eI.list n_mo F_mo) (eDm.list n_de F_de) denw (eI.list n_dew F_dew) (eI.list n_tow F_tow) = 0], resF (M.ckW (eI.list n_mo F_mo) (eI.list n_ga F_ga) (eDm.list n_de F_de) denw (eI.list n_dew F_dew) (eI.list n_tow F_tow)))
    | _ => none)
  | _ => none
def v26 : Nat × Sm := (26, fokSm dom26)
theorem C26 : FOK Try.prog G0 gw 26 dom26 := by
  intro ags p r hd hp κ w xs hw hl hG hx
  unfold dom26 at hd
  split at hd
  · rename_i q_mo n_mo st_mo F_mo q_ga n_ga st_ga F_ga q_de n_de st_de F_de denw q_dew n_dew st_dew F_dew q_tow n_tow st_tow F_tow
    split at hd
    · rename_i hst
      simp only [Bool.and_eq_true] at hst
      obtain ⟨⟨⟨⟨g1, g2⟩, g3⟩, g4⟩, g5⟩ := hst
      have g1 := Nat.eq_of_beq_eq_true g1
      have g2 := Nat.eq_of_beq_eq_true g2
      have g3 := Nat.eq_of_beq_eq_true g3
      have g4 := Nat.eq_of_beq_eq_true g4
      have g5 := Nat.eq_of_beq_eq_true g5
      subst g1 g2 g3 g4 g5
      simp only [Option.some.injEq, Prod.mk.injEq] at hd
      obtain ⟨rfl, rfl⟩ := hd
      obtain ⟨hI_mo, hI_ga, hI_de, hI_dew, hI_tow, hp⟩ := hp
      have heq : agsEqv [.agg [.sl q_mo n_mo 1 F_mo, .sl q_ga n_ga 1 F_ga, .sl q_de n_de 3 F_de], .agg [.int .i64 denw, .sl q_dew n_dew 1 F_dew, .sl q_tow n_tow 1 F_tow]] [.agg [.sl q_mo (eI.list n_mo F_mo).length 1 (eI.F (eI.list n_mo F_mo)), .sl q_ga (eI.list n_ga F_ga).length 1 (eI.F (eI.list n_ga F_ga)), .sl q_de (eDm.list n_de F_de).length 3 (eDm.F (eDm.list n_de F_de))], .agg [.int .i64 denw, .sl q_dew (eI.list n_dew F_dew).length 1 (eI.F (eI.list n_dew F_dew)), .sl q_tow (eI.list n_tow F_tow).length 1 (eI.F (eI.list n_tow F_tow))]] := ⟨⟨eI.to id hI_mo, eI.to id hI_ga, eDm.to id hI_de, trivial⟩, ⟨rfl, eI.to id hI_dew, eI.to id hI_tow, trivial⟩, trivial⟩
      have len_mo : (eI.list n_mo F_mo).length = n_mo := eI.list_len
      have len_ga : (eI.list n_ga F_ga).length = n_ga := eI.list_len
      have len_de : (eDm.list n_de F_de).length = n_de := eDm.list_len
      have len_dew : (eI.list n_dew F_dew).length = n_dew := eI.list_len
      have len_tow : (eI.list n_tow F_tow).length = n_tow := eI.list_len
      generalize eI.list n_mo F_mo = mo at *
      generalize eI.list n_ga F_ga = ga at *
      generalize eDm.list n_de F_de = de at *
      generalize eI.list n_dew F_dew = dew at *
      generalize eI.list n_tow F_tow = tow at *
      subst len_mo len_ga len_de len_dew len_tow
      exact fokX_fin mixed gw_stable (sl := [v93, v94, v92]) ⟨S93, S94, S92, trivial⟩ Try.func26 hw hl hG hx heq rfl (t26 _ _ _ _ _ _ _ _ _ _ _) (w26 _ _ _ _ _ _ _ _ _ _ _ hp.1 hp.2.1)
    · cases hd
  · cases hd
theorem S26 : SumOK Try.prog G0 gw 26 (fokSm dom26) := fok_sum Try.func26 rfl C26
def tr56 (q_mo : Bool) (mo : List Int) (q_ga : Bool) (ga : List Int) (q_de : Bool) (de : List Dem) (denw : Int) (q_dew : Bool) (dew : List Int) (q_tow : Bool) (tow : List Int) : T (List Ar) :=
    T.br (M.putsL (List.length (cI mo)) (cD de) denw (cI dew) (cI tow) (Enc.list eI (Int.toNat (Nat.cast (R := Int) (List.length mo))) fun (x j : Nat) => List.getD [D.int IntKind.i64 (0 : Int)] j D.nilp)) (T.need ((0 : Int) ≤ (Nat.cast (R := Int) (List.length mo))) (T.need ((Nat.cast (R := Int) (List.length mo)) ≤ (Nat.cast (R := Int) (List.length mo))) (T.need ((Nat.cast (R := Int) (List.length mo)) ≤ (1000000 : Int)) (T.need (Int.toNat (Nat.cast (R := Int) (List.length mo)) ≤ Int.toNat (Nat.cast (R := Int) (List.length mo))) (T.need (iI mo) (T.need (iI ga) (T.need (iD de) (T.need (iI dew) (T.need (iI tow) (T.need (Enc.Is eI (Int.toNat (Nat.cast (R := Int) (List.length mo))) fun (x j : Nat) => List.getD [D.int IntKind.i64 (0 : Int)] j D.nilp) (T.need (List.length (cI mo) ≤ (1000000 : Nat)) (T.need (List.length (cD de) ≤ (1000000 : Nat)) (T.need (List.length (cI mo) ≤ List.length (cI tow)) (T.need (List.length (cD de) ≤ List.length (cI dew)) (T.need (List.length (cI mo) ≤ List.length (Enc.list eI (Int.toNat (Nat.cast (R := Int) (List.length mo))) fun (x j : Nat) => List.getD [D.int IntKind.i64 (0 : Int)] j D.nilp)) (T.need (∀ (d : Dem), d ∈ cD de → List.length (cI mo) ≤ List.length (Dem.co d)) (T.need (M.putsL (List.length (cI mo)) (cD de) denw (cI dew) (cI tow) (Enc.list eI (Int.toNat (Nat.cast (R := Int) (List.length mo))) fun (x j : Nat) => List.getD [D.int IntKind.i64 (0 : Int)] j D.nilp) = true) (T.need (iI mo) (T.need (iI ga) (T.need (iD de) (T.need (iI dew) (T.need (iI tow) (T.need (List.length (cI tow) ≤ (1000000 : Nat)) (T.need (List.length (cD de) ≤ (1000000 : Nat)) (T.need (List.length (cI tow) ≤ List.length (cI mo)) (T.need (List.length (cD de) ≤ List.length (cI dew)) (T.ret [Ar.c (D.bool (decide (M.bndW (cI mo) (cD de) (cI dew) (cI tow) < (0 : Int))))]))))))))))))))))))))))))))) (T.need ((0 : Int) ≤ (Nat.cast (R := Int) (List.length mo))) (T.need ((Nat.cast (R := Int) (List.length mo)) ≤ (Nat.cast (R := Int) (List.length mo))) (T.need ((Nat.cast (R := Int) (List.length mo)) ≤ (1000000 : Int)) (T.need (Int.toNat (Nat.cast (R := Int) (List.length mo)) ≤ Int.toNat (Nat.cast (R := Int) (List.length mo))) (T.need (iI mo) (T.need (iI ga) (T.need (iD de) (T.need (iI dew) (T.need (iI tow) (T.need (Enc.Is eI (Int.toNat (Nat.cast (R := Int) (List.length mo))) fun (x j : Nat) => List.getD [D.int IntKind.i64 (0 : Int)] j D.nilp) (T.need (List.length (cI mo) ≤ (1000000 : Nat)) (T.need (List.length (cD de) ≤ (1000000 : Nat)) (T.need (List.length (cI mo) ≤ List.length (cI tow)) (T.need (List.length (cD de) ≤ List.length (cI dew)) (T.need (List.length (cI mo) ≤ List.length (Enc.list eI (Int.toNat (Nat.cast (R := Int) (List.length mo))) fun (x j : Nat) => List.getD [D.int IntKind.i64 (0 : Int)] j D.nilp)) (T.need (∀ (d : Dem), d ∈ cD de → List.length (cI mo) ≤ List.length (Dem.co d)) (T.need (M.putsL (List.length (cI mo)) (cD de) denw (cI dew) (cI tow) (Enc.list eI (Int.toNat (Nat.cast (R := Int) (List.length mo))) fun (x j : Nat) => List.getD [D.int IntKind.i64 (0 : Int)] j D.nilp) = false) (T.ret [Ar.c (D.bool false)]))))))))))))))))))
theorem t56 (q_mo : Bool) (mo : List Int) (q_ga : Bool) (ga : List Int) (q_de : Bool) (de : List Dem) (denw : Int) (q_dew : Bool) (dew : List Int) (q_tow : Bool) (tow : List Int) : runFnX Try.prog G0 (lookS [v93, v94]) (fun _ => []) [] 1 60 4 56 Try.f56 [.agg [.sl q_mo mo.length 1 (eI.F mo), .sl q_ga ga.length 1 (eI.F ga), .sl q_de de.length 3 (eDm.F de)], .agg [dI denw, .sl q_dew dew.length 1 (eI.F dew), .sl q_tow tow.length 1 (eI.F tow)]] =
    tr56 q_mo mo q_ga ga q_de de denw q_dew dew q_tow tow := by kernel_rfl
abbrev zL (n : Nat) : List Int := Enc.list eI (Int.toNat (Nat.cast (R := Int) n)) fun (x j : Nat) => List.getD [D.int IntKind.i64 (0 : Int)] j D.nilp
theorem zL_eq (n : Nat) : zL n = List.replicate n 0 := by
  have h : ∀ m : Nat, (List.range m).map (fun _ => (0 : Int)) = List.replicate m 0 := by
    intro m
    apply List.ext_getElem
    · simp
    · intro i h1 h2; simp
  exact h n
theorem zL_puts (n : Nat) (de : List Dem) (den : Int) (wd wt : List Int) (m : Nat) : M.putsL n de den wd wt (zL m) = M.putsF n de wd wt (fun _ => 0) := by
  unfold M.putsL
  congr 1
  funext i
  have : (zL m).getD i 0 = 0 := by
    rw [zL_eq]
    rcases Nat.lt_or_ge i m with h | h
    · rw [List.getD_eq_getElem?_getD, List.getElem?_eq_getElem (by simpa using h)]; simp
    · rw [List.getD_eq_getElem?_getD, List.getElem?_eq_none (by simpa using h)]; rfl
  rw [this, Int.zero_mul]
  exact wrap_id (by omega) (by omega)
theorem w56 (qm : Bool) (mo : List Int) (qg : Bool) (ga : List Int) (qd : Bool) (de : List Dem) (den : Int) (qw : Bool) (wd : List Int) (qt : Bool) (wt : List Int) (hc : (M.checkProg mo ga de).2 = 0) (hW : M.wErr mo de den wd wt = 0) :
    (tr56 qm mo qg ga qd de den qw wd qt wt).wp (fun rs => rsEqv rs [rB (M.refu mo de wd wt)]) := by
  unfold tr56 M.refu
  have hR := prog_right hc
  obtain ⟨w1, w2, w3, w4, w5⟩ := wt_right hW
  obtain ⟨x1, x2, x3⟩ := bnd_exact hR hW
  have f1 := hR.n4; have f2 := hR.ld; have f3 := hR.lg
  have fd : ∀ d, d ∈ de → mo.length ≤ d.co.length := fun d hd => by rw [(hR.rd d hd).1]; exact Nat.le_refl _
  have m1 : mo.length ≤ 1000000 := by omega
  have m2 : de.length ≤ 1000000 := by omega
  have m3 : mo.length ≤ wt.length := by omega
  have m4 : de.length ≤ wd.length := by omega
  have m5 : wt.length ≤ 1000000 := by omega
  have m6 : wt.length ≤ mo.length := by omega
  have hz : Enc.Is eI (Int.toNat (Nat.cast (R := Int) (List.length mo))) fun (x j : Nat) => List.getD [D.int IntKind.i64 (0 : Int)] j D.nilp := by
    intro i j hi hj
    have hj : j < 1 := hj
    obtain rfl : j = 0 := by omega
    exact D.eqv_refl _
  have hzl : mo.length ≤ (zL mo.length).length := by rw [zL_eq]; simp
  have hmi : (mo.length : Int) ≤ 1000000 := by omega
  have he := zL_puts mo.length de den wd wt mo.length
  simp only [cI, cD, iI, iD, Enc.list_F]
  refine wp_br (fun hb => ?_) (fun hb => ?_)
  · have hb' := he.symm.trans hb
    rw [hb']
    exact ⟨by omega, Int.le_refl _, hmi, Nat.le_refl _, Enc.is_F _ _ _, Enc.is_F _ _ _, Enc.is_F _ _ _, Enc.is_F _ _ _, Enc.is_F _ _ _, hz, m1, m2, m3, m4, hzl, fd, hb, Enc.is_F _ _ _, Enc.is_F _ _ _, Enc.is_F _ _ _, Enc.is_F _ _ _, Enc.is_F _ _ _, m5, m2, m6, m4, rsEqv_refl _⟩
  · have hb' := he.symm.trans hb
    rw [hb']
    exact ⟨by omega, Int.le_refl _, hmi, Nat.le_refl _, Enc.is_F _ _ _, Enc.is_F _ _ _, Enc.is_F _ _ _, Enc.is_F _ _ _, Enc.is_F _ _ _, hz, m1, m2, m3, m4, hzl, fd, hb, rsEqv_refl _⟩
def dom56 : DomF
  | [.agg [.sl _ n_mo st_mo F_mo, .sl _ n_ga st_ga F_ga, .sl _ n_de st_de F_de], .agg [.int .i64 denw, .sl _ n_dew st_dew F_dew, .sl _ n_tow st_tow F_tow]] => (match Nat.beq st_mo 1 && Nat.beq st_ga 1 && Nat.beq st_de 3 && Nat.beq st_dew 1 && Nat.beq st_tow 1 with
    | true => some ([eI.Is n_mo F_mo, eI.Is n_ga F_ga, eDm.Is n_de F_de, eI.Is n_dew F_dew, eI.Is n_tow F_tow, (M.checkProg (eI.list n_mo F_mo) (eI.list n_ga F_ga) (eDm.list n_de F_de)).2 = 0, M.wErr (eI.list n_mo F_mo) (eDm.list n_de F_de) denw (eI.list n_dew F_dew) (eI.list n_tow F_tow) = 0], [rB (M.refu (eI.list n_mo F_mo) (eDm.list n_de F_de) (eI.list n_dew F_dew) (eI.list n_tow F_tow))])
    | _ => none)
  | _ => none
def v56 : Nat × Sm := (56, fokSm dom56)
theorem C56 : FOK Try.prog G0 gw 56 dom56 := by
  intro ags p r hd hp κ w xs hw hl hG hx
  unfold dom56 at hd
  split at hd
  · rename_i q_mo n_mo st_mo F_mo q_ga n_ga st_ga F_ga q_de n_de st_de F_de denw q_dew n_dew st_dew F_dew q_tow n_tow st_tow F_tow
    split at hd
    · rename_i hst
      simp only [Bool.and_eq_true] at hst
      obtain ⟨⟨⟨⟨g1, g2⟩, g3⟩, g4⟩, g5⟩ := hst
      have g1 := Nat.eq_of_beq_eq_true g1
      have g2 := Nat.eq_of_beq_eq_true g2
      have g3 := Nat.eq_of_beq_eq_true g3
      have g4 := Nat.eq_of_beq_eq_true g4
      have g5 := Nat.eq_of_beq_eq_true g5
      subst g1 g2 g3 g4 g5
      simp only [Option.some.injEq, Prod.mk.injEq] at hd
      obtain ⟨rfl, rfl⟩ := hd
      obtain ⟨hI_mo, hI_ga, hI_de, hI_dew, hI_tow, hp⟩ := hp
      have heq : agsEqv [.agg [.sl q_mo n_mo 1 F_mo, .sl q_ga n_ga 1 F_ga, .sl q_de n_de 3 F_de], .agg [.int .i64 denw, .sl q_dew n_dew 1 F_dew, .sl q_tow n_tow 1 F_tow]] [.agg [.sl q_mo (eI.list n_mo F_mo).length 1 (eI.F (eI.list n_mo F_mo)), .sl q_ga (eI.list n_ga F_ga).length 1 (eI.F (eI.list n_ga F_ga)), .sl q_de (eDm.list n_de F_de).length 3 (eDm.F (eDm.list n_de F_de))], .agg [.int .i64 denw, .sl q_dew (eI.list n_dew F_dew).length 1 (eI.F (eI.list n_dew F_dew)), .sl q_tow (eI.list n_tow F_tow).length 1 (eI.F (eI.list n_tow F_tow))]] := ⟨⟨eI.to id hI_mo, eI.to id hI_ga, eDm.to id hI_de, trivial⟩, ⟨rfl, eI.to id hI_dew, eI.to id hI_tow, trivial⟩, trivial⟩
      have len_mo : (eI.list n_mo F_mo).length = n_mo := eI.list_len
      have len_ga : (eI.list n_ga F_ga).length = n_ga := eI.list_len
      have len_de : (eDm.list n_de F_de).length = n_de := eDm.list_len
      have len_dew : (eI.list n_dew F_dew).length = n_dew := eI.list_len
      have len_tow : (eI.list n_tow F_tow).length = n_tow := eI.list_len
      generalize eI.list n_mo F_mo = mo at *
      generalize eI.list n_ga F_ga = ga at *
      generalize eDm.list n_de F_de = de at *
      generalize eI.list n_dew F_dew = dew at *
      generalize eI.list n_tow F_tow = tow at *
      subst len_mo len_ga len_de len_dew len_tow
      exact fokX_fin mixed gw_stable (sl := [v93, v94]) ⟨S93, S94, trivial⟩ Try.func56 hw hl hG hx heq rfl (t56 _ _ _ _ _ _ _ _ _ _ _) (w56 _ _ _ _ _ _ _ _ _ _ _ hp.1 hp.2.1)
    · cases hd
  · cases hd
theorem S56 : SumOK Try.prog G0 gw 56 (fokSm dom56) := fok_sum Try.func56 rfl C56
def tr55 (q_mo : Bool) (mo : List Int) (q_ga : Bool) (ga : List Int) (q_de : Bool) (de : List Dem) (denw : Int) (q_dew : Bool) (dew : List Int) (q_tow : Bool) (tow : List Int) : T (List Ar) :=
    T.need (iI mo) (T.need (iI ga) (T.need (iD de) (T.need (iI dew) (T.need (iI tow) (T.need (List.length (cI mo) ≤ (1000000 : Nat)) (T.need (List.length (cI ga) ≤ (1000000 : Nat)) (T.need (List.length (cD de) ≤ (1000000 : Nat)) (T.need (∀ (d : Dem), d ∈ cD de → ByteArray.size (Dem.nm d) ≤ (1000000 : Nat) ∧ List.length (Dem.co d) ≤ (1000000 : Nat)) (T.need (List.length (cI dew) ≤ (1000000 : Nat)) (T.need (List.length (cI tow) ≤ (1000000 : Nat)) (T.br (M.openW (cI mo) (cI ga) (cD de) denw (cI dew) (cI tow) != (0 : Int)) (T.ret [Ar.c (D.int IntKind.i64 (M.openW (cI mo) (cI ga) (cD de) denw (cI dew) (cI tow)))]) (T.need (iI tow) (T.need (iI (cI mo)) (T.need (List.length (cI tow) ≤ (1000000 : Nat)) (T.need (List.length (cI tow) ≤ List.length (cI (cI mo))) (T.loop (Int × Int × PUnit) ((0 : Int), M.dot (cI tow) (cI (cI mo)), PUnit.unit) fun (x : Int × Int × PUnit) => T.br (decide (Prod.fst x < (Nat.cast (R := Int) (List.length (cD de))))) (T.need ((0 : Int) ≤ Prod.fst x) (T.need (Prod.fst x < (Nat.cast (R := Int) (List.length (cD de)))) (T.need ((0 : Int) ≤ Prod.fst x) (T.need (Prod.fst x < (Nat.cast (R := Int) (List.length dew))) (T.ret (Sum.inl (IntKind.i64.wrap (Prod.fst x + (1 : Int)), IntKind.i64.wrap (Prod.fst (Prod.snd x) + IntKind.i64.wrap (List.getD dew (Int.toNat (Prod.fst x)) (0 : Int) * Dem.am (List.getD (cD de) (Int.toNat (Prod.fst x)) dfD))), PUnit.unit))))))) (T.loop (Int × Bool × PUnit) ((0 : Int), true, PUnit.unit) fun (x_1 : Int × Bool × PUnit) => T.br (decide (Prod.fst x_1 < (Nat.cast (R := Int) (List.length tow)))) (T.need ((0 : Int) ≤ Prod.fst x_1) (T.need (Prod.fst x_1 < (Nat.cast (R := Int) (List.length tow))) (T.loop (Int × Int × PUnit) ((0 : Int), List.getD tow (Int.toNat (Prod.fst x_1)) (0 : Int), PUnit.unit) fun (x_2 : Int × Int × PUnit) => T.br (decide (Prod.fst x_2 < (Nat.cast (R := Int) (List.length (cD de))))) (T.need ((0 : Int) ≤ Prod.fst x_2) (T.need (Prod.fst x_2 < (Nat.cast (R := Int) (List.length (cD de)))) (T.need ((0 : Int) ≤ Prod.fst x_2) (T.need (Prod.fst x_2 < (Nat.cast (R := Int) (List.length dew))) (T.need ((0 : Int) ≤ Prod.fst x_1) (T.need (Prod.fst x_1 < (Nat.cast (R := Int) (List.length (Dem.co (List.getD (cD de) (Int.toNat (Prod.fst x_2)) dfD))))) (T.ret (Sum.inl (IntKind.i64.wrap (Prod.fst x_2 + (1 : Int)), IntKind.i64.wrap (Prod.fst (Prod.snd x_2) + IntKind.i64.wrap (List.getD dew (Int.toNat (Prod.fst x_2)) (0 : Int) * List.getD (Dem.co (List.getD (cD de) (Int.toNat (Prod.fst x_2)) dfD)) (Int.toNat (Prod.fst x_1)) (0 : Int))), PUnit.unit))))))))) (T.br (Prod.fst (Prod.snd x_1)) (T.ret (Sum.inr (Sum.inl (IntKind.i64.wrap (Prod.fst x_1 + (1 : Int)), decide (Prod.fst (Prod.snd x_2) ≥ (0 : Int)), PUnit.unit)))) (T.ret (Sum.inr (Sum.inl (IntKind.i64.wrap (Prod.fst x_1 + (1 : Int)), false, PUnit.unit)))))))) (T.br (Prod.fst (Prod.snd x_1)) (T.ret (Sum.inr (Sum.inr [Ar.c (D.int IntKind.i64 (M.unl (decide (Prod.fst (Prod.snd x) < (0 : Int))) (20 : Int)))]))) (T.ret (Sum.inr (Sum.inr [Ar.c (D.int IntKind.i64 (20 : Int))])))))))))))))))))))))
theorem t55 (q_mo : Bool) (mo : List Int) (q_ga : Bool) (ga : List Int) (q_de : Bool) (de : List Dem) (denw : Int) (q_dew : Bool) (dew : List Int) (q_tow : Bool) (tow : List Int) : runFnX Try.prog G0 (lookS [v133, v139, v104]) (fun f => match f with | 134 => [(3, [.slot 26 (.int .i64), .slot 9 (.int .i64)], none), (8, [.slot 45 (.int .i64), .slot 8 .bool], none), (11, [.slot 54 (.int .i64), .slot 13 (.int .i64)], none)] | _ => []) [134, 136] 1 90 6 55 Try.f55 [.agg [.sl q_mo mo.length 1 (eI.F mo), .sl q_ga ga.length 1 (eI.F ga), .sl q_de de.length 3 (eDm.F de)], .agg [dI denw, .sl q_dew dew.length 1 (eI.F dew), .sl q_tow tow.length 1 (eI.F tow)]] =
    tr55 q_mo mo q_ga ga q_de de denw q_dew dew q_tow tow := by kernel_rfl
theorem w55 (qm : Bool) (mo : List Int) (qg : Bool) (ga : List Int) (qd : Bool) (de : List Dem) (den : Int) (qw : Bool) (wd : List Int) (qt : Bool) (wt : List Int) (h1 : mo.length ≤ 1000000) (h2 : ga.length ≤ 1000000) (h3 : de.length ≤ 1000000) (hn : ∀ d, d ∈ de → d.nm.size ≤ 1000000 ∧ d.co.length ≤ 1000000) (h4 : wd.length ≤ 1000000) (h5 : wt.length ≤ 1000000) :
    (tr55 qm mo qg ga qd de den qw wd qt wt).wp (fun rs => rsEqv rs [rI (M.ckRRes mo ga de den wd wt)]) := by
  unfold tr55 M.ckRRes
  simp only [cI, cD, iI, iD, Enc.list_F]
  refine ⟨Enc.is_F _ _ _, Enc.is_F _ _ _, Enc.is_F _ _ _, Enc.is_F _ _ _, Enc.is_F _ _ _, h1, h2, h3, hn, h4, h5, wp_br (fun hb => by rw [hb]; exact rsEqv_refl _) (fun hb => ?_)⟩
  rw [hb]
  have h0 : M.openW mo ga de den wd wt = 0 := by simpa using hb
  obtain ⟨hc, hW⟩ := openW_right h0
  have hR := prog_right hc
  obtain ⟨w1, w2, w3, w4, w5⟩ := wt_right hW
  obtain ⟨x1, x2, x3⟩ := bnd_exact hR hW
  have f1 := hR.n4; have f2 := hR.ld; have f3 := hR.lg
  have fd : ∀ d, d ∈ de → mo.length ≤ d.co.length := fun d hd => by rw [(hR.rd d hd).1]; exact Nat.le_refl _
  have m1 : mo.length ≤ 1000000 := by omega
  have m2 : de.length ≤ 1000000 := by omega
  have m3 : mo.length ≤ wt.length := by omega
  have m4 : de.length ≤ wd.length := by omega
  have m5 : wt.length ≤ 1000000 := by omega
  have m6 : wt.length ≤ mo.length := by omega
  show T.wp _ (fun rs => rsEqv rs [rI (M.unl (M.refu mo de wd wt) 20)])
  refine ⟨Enc.is_F _ _ _, Enc.is_F _ _ _, m5, m6, ?_⟩
  refine range_wp (n := de.length) (fun j s => s.1 = M.bndK mo de wd wt j) rfl ?_
  rintro j ⟨s, u'⟩ hj hJ
  have hJ : s = M.bndK mo de wd wt j := hJ
  subst hJ
  refine wp_br (fun hb => ?_) (fun hb => ?_)
  · have hjt := lt_of_dec hb
    exact ⟨by show (0 : Int) ≤ j; omega, by show (j : Int) < de.length; omega, by show (0 : Int) ≤ j; omega, by show (j : Int) < wd.length; omega, hjt, wrap_succ (by omega), by unfold M.bndK; rw [foldl_succ]; rfl⟩
  have hge := ge_of_dec hb
  obtain rfl : j = de.length := by omega
  obtain ⟨p, hp⟩ : ∃ p : Nat → Bool, p = fun i => decide (M.onK de wd wt i de.length < 0) := ⟨_, rfl⟩
  refine range_wp (n := wt.length) (fun k s => s.1 = true ∧ M.firstIdx p mo.length 0 = M.firstIdx p (mo.length - k) k ∨ s.1 = false ∧ 0 ≤ M.firstIdx p mo.length 0) (.inl ⟨rfl, rfl⟩) ?_
  rintro k ⟨ok, u⟩ hk hI
  refine wp_br (fun hb => ?_) (fun hb => ?_)
  · have hlt := lt_of_dec hb
    have hs := idx_step (p := p) (show k < mo.length by omega)
    refine ⟨by show (0 : Int) ≤ k; omega, by show (k : Int) < wt.length; omega, ?_⟩
    refine range_wp (n := de.length) (fun j s => s.1 = M.onK de wd wt k j) rfl ?_
    rintro j ⟨s, u'⟩ hj hJ
    have hJ : s = M.onK de wd wt k j := hJ
    subst hJ
    refine wp_br (fun hb => ?_) (fun hb => ?_)
    · have hjt := lt_of_dec hb
      exact ⟨by show (0 : Int) ≤ j; omega, by show (j : Int) < de.length; omega, by show (0 : Int) ≤ j; omega, by show (j : Int) < wd.length; omega, by show (0 : Int) ≤ k; omega, by have := fd _ (getD_mem (d := dfD) hjt); show (k : Int) < (de.getD j dfD).co.length; omega, hjt, wrap_succ (by omega), by unfold M.onK; rw [foldl_succ]; rfl⟩
    · have hge := ge_of_dec hb
      obtain rfl : j = de.length := by omega
      refine wp_br (fun hx => ?_) (fun hx => ?_)
      · have hx : ok = true := hx
        rcases hI with ⟨_, hI⟩ | ⟨hI, _⟩
        · have hI : M.firstIdx p mo.length 0 = M.firstIdx p (mo.length - k) k := hI
          refine ⟨hlt, wrap_succ (by omega), ?_⟩
          by_cases hq : p k = true
          · refine .inr ⟨?_, ?_⟩
            · have hq : decide (M.onK de wd wt k de.length < 0) = true := by rw [hp] at hq; exact hq
              have hq := of_decide_eq_true hq
              exact decide_eq_false (by show ¬ M.onK de wd wt k de.length ≥ 0; omega)
            · rw [hI, hs, hq]; show (0 : Int) ≤ k; omega
          · have hq : p k = false := by simpa using hq
            refine .inl ⟨?_, by rw [hI, hs, hq]; rfl⟩
            have hq : decide (M.onK de wd wt k de.length < 0) = false := by rw [hp] at hq; exact hq
            have hq := of_decide_eq_false hq
            exact decide_eq_true (by show M.onK de wd wt k de.length ≥ 0; omega)
        · have hI : ok = false := hI
          rw [hx] at hI; cases hI
      · have hx : ok = false := hx
        rcases hI with ⟨hI, _⟩ | ⟨_, hI⟩
        · have hI : ok = true := hI
          rw [hx] at hI; cases hI
        · exact ⟨hlt, wrap_succ (by omega), .inr ⟨rfl, hI⟩⟩
  have hge := ge_of_dec hb
  obtain rfl : k = wt.length := by omega
  refine wp_br (fun hx => ?_) (fun hx => ?_)
  · have hx : ok = true := hx
    rcases hI with ⟨_, hI⟩ | ⟨hI, _⟩
    · have hI : M.firstIdx p mo.length 0 = M.firstIdx p (mo.length - wt.length) wt.length := hI
      rw [show mo.length - wt.length = 0 by omega] at hI
      have hP : M.putsF mo.length de wd wt (fun _ => 0) = true := by unfold M.putsF; exact decide_eq_true (by rw [← hp, hI]; show (-1 : Int) < 0; decide)
      unfold M.refu; rw [hP]; exact rsEqv_refl _
    · have hI : ok = false := hI
      rw [hx] at hI; cases hI
  · have hx : ok = false := hx
    rcases hI with ⟨hI, _⟩ | ⟨_, hI⟩
    · have hI : ok = true := hI
      rw [hx] at hI; cases hI
    · have hP : M.putsF mo.length de wd wt (fun _ => 0) = false := by unfold M.putsF; exact decide_eq_false (by rw [← hp]; omega)
      unfold M.refu; rw [hP]; exact rsEqv_refl _
def dom55 : DomF
  | [.agg [.sl _ n_mo st_mo F_mo, .sl _ n_ga st_ga F_ga, .sl _ n_de st_de F_de], .agg [.int .i64 denw, .sl _ n_dew st_dew F_dew, .sl _ n_tow st_tow F_tow]] => (match Nat.beq st_mo 1 && Nat.beq st_ga 1 && Nat.beq st_de 3 && Nat.beq st_dew 1 && Nat.beq st_tow 1 with
    | true => some ([eI.Is n_mo F_mo, eI.Is n_ga F_ga, eDm.Is n_de F_de, eI.Is n_dew F_dew, eI.Is n_tow F_tow, (eI.list n_mo F_mo).length ≤ 1000000, (eI.list n_ga F_ga).length ≤ 1000000, (eDm.list n_de F_de).length ≤ 1000000, ∀ d, d ∈ (eDm.list n_de F_de) → d.nm.size ≤ 1000000 ∧ d.co.length ≤ 1000000, (eI.list n_dew F_dew).length ≤ 1000000, (eI.list n_tow F_tow).length ≤ 1000000], [rI (M.ckRRes (eI.list n_mo F_mo) (eI.list n_ga F_ga) (eDm.list n_de F_de) denw (eI.list n_dew F_dew) (eI.list n_tow F_tow))])
    | _ => none)
  | _ => none
def v55 : Nat × Sm := (55, fokSm dom55)
theorem C55 : FOK Try.prog G0 gw 55 dom55 := by
  intro ags p r hd hp κ w xs hw hl hG hx
  unfold dom55 at hd
  split at hd
  · rename_i q_mo n_mo st_mo F_mo q_ga n_ga st_ga F_ga q_de n_de st_de F_de denw q_dew n_dew st_dew F_dew q_tow n_tow st_tow F_tow
    split at hd
    · rename_i hst
      simp only [Bool.and_eq_true] at hst
      obtain ⟨⟨⟨⟨g1, g2⟩, g3⟩, g4⟩, g5⟩ := hst
      have g1 := Nat.eq_of_beq_eq_true g1
      have g2 := Nat.eq_of_beq_eq_true g2
      have g3 := Nat.eq_of_beq_eq_true g3
      have g4 := Nat.eq_of_beq_eq_true g4
      have g5 := Nat.eq_of_beq_eq_true g5
      subst g1 g2 g3 g4 g5
      simp only [Option.some.injEq, Prod.mk.injEq] at hd
      obtain ⟨rfl, rfl⟩ := hd
      obtain ⟨hI_mo, hI_ga, hI_de, hI_dew, hI_tow, hp⟩ := hp
      have heq : agsEqv [.agg [.sl q_mo n_mo 1 F_mo, .sl q_ga n_ga 1 F_ga, .sl q_de n_de 3 F_de], .agg [.int .i64 denw, .sl q_dew n_dew 1 F_dew, .sl q_tow n_tow 1 F_tow]] [.agg [.sl q_mo (eI.list n_mo F_mo).length 1 (eI.F (eI.list n_mo F_mo)), .sl q_ga (eI.list n_ga F_ga).length 1 (eI.F (eI.list n_ga F_ga)), .sl q_de (eDm.list n_de F_de).length 3 (eDm.F (eDm.list n_de F_de))], .agg [.int .i64 denw, .sl q_dew (eI.list n_dew F_dew).length 1 (eI.F (eI.list n_dew F_dew)), .sl q_tow (eI.list n_tow F_tow).length 1 (eI.F (eI.list n_tow F_tow))]] := ⟨⟨eI.to id hI_mo, eI.to id hI_ga, eDm.to id hI_de, trivial⟩, ⟨rfl, eI.to id hI_dew, eI.to id hI_tow, trivial⟩, trivial⟩
      have len_mo : (eI.list n_mo F_mo).length = n_mo := eI.list_len
      have len_ga : (eI.list n_ga F_ga).length = n_ga := eI.list_len
      have len_de : (eDm.list n_de F_de).length = n_de := eDm.list_len
      have len_dew : (eI.list n_dew F_dew).length = n_dew := eI.list_len
      have len_tow : (eI.list n_tow F_tow).length = n_tow := eI.list_len
      generalize eI.list n_mo F_mo = mo at *
      generalize eI.list n_ga F_ga = ga at *
      generalize eDm.list n_de F_de = de at *
      generalize eI.list n_dew F_dew = dew at *
      generalize eI.list n_tow F_tow = tow at *
      subst len_mo len_ga len_de len_dew len_tow
      exact fokX_fin mixed gw_stable (sl := [v133, v139, v104]) ⟨S133, S139, S104, trivial⟩ Try.func55 hw hl hG hx heq rfl (t55 _ _ _ _ _ _ _ _ _ _ _) (w55 _ _ _ _ _ _ _ _ _ _ _ hp.1 hp.2.1 hp.2.2.1 hp.2.2.2.1 hp.2.2.2.2.1 hp.2.2.2.2.2.1)
    · cases hd
  · cases hd
theorem S55 : SumOK Try.prog G0 gw 55 (fokSm dom55) := fok_sum Try.func55 rfl C55
def tr53 (q_mo : Bool) (mo : List Int) (q_ga : Bool) (ga : List Int) (q_de : Bool) (de : List Dem) (denw : Int) (q_dew : Bool) (dew : List Int) (q_tow : Bool) (tow : List Int) : T (List Ar) :=
    T.need (iI mo) (T.need (iI ga) (T.need (iD de) (T.need (iI dew) (T.need (iI tow) (T.need (List.length (cI mo) ≤ (1000000 : Nat)) (T.need (List.length (cI ga) ≤ (1000000 : Nat)) (T.need (List.length (cD de) ≤ (1000000 : Nat)) (T.need (∀ (d : Dem), d ∈ cD de → ByteArray.size (Dem.nm d) ≤ (1000000 : Nat) ∧ List.length (Dem.co d) ≤ (1000000 : Nat)) (T.need (List.length (cI dew) ≤ (1000000 : Nat)) (T.need (List.length (cI tow) ≤ (1000000 : Nat)) (T.br (M.openW (cI mo) (cI ga) (cD de) denw (cI dew) (cI tow) != (0 : Int)) (T.ret [Ar.agg [D.int IntKind.i64 (0 : Int), D.int IntKind.i64 (0 : Int)], Ar.c (D.int IntKind.i64 (M.openW (cI mo) (cI ga) (cD de) denw (cI dew) (cI tow)))]) (T.need (iI tow) (T.need (iI (cI mo)) (T.need (List.length (cI tow) ≤ (1000000 : Nat)) (T.need (List.length (cI tow) ≤ List.length (cI (cI mo))) (T.loop (Int × Int × PUnit) ((0 : Int), M.dot (cI tow) (cI (cI mo)), PUnit.unit) fun (x : Int × Int × PUnit) => T.br (decide (Prod.fst x < (Nat.cast (R := Int) (List.length (cD de))))) (T.need ((0 : Int) ≤ Prod.fst x) (T.need (Prod.fst x < (Nat.cast (R := Int) (List.length (cD de)))) (T.need ((0 : Int) ≤ Prod.fst x) (T.need (Prod.fst x < (Nat.cast (R := Int) (List.length dew))) (T.ret (Sum.inl (IntKind.i64.wrap (Prod.fst x + (1 : Int)), IntKind.i64.wrap (Prod.fst (Prod.snd x) + IntKind.i64.wrap (List.getD dew (Int.toNat (Prod.fst x)) (0 : Int) * Dem.am (List.getD (cD de) (Int.toNat (Prod.fst x)) dfD))), PUnit.unit))))))) (T.loop (Int × Bool × PUnit) ((0 : Int), true, PUnit.unit) fun (x_1 : Int × Bool × PUnit) => T.br (decide (Prod.fst x_1 < (Nat.cast (R := Int) (List.length tow)))) (T.need ((0 : Int) ≤ Prod.fst x_1) (T.need (Prod.fst x_1 < (Nat.cast (R := Int) (List.length tow))) (T.loop (Int × Int × PUnit) ((0 : Int), List.getD tow (Int.toNat (Prod.fst x_1)) (0 : Int), PUnit.unit) fun (x_2 : Int × Int × PUnit) => T.br (decide (Prod.fst x_2 < (Nat.cast (R := Int) (List.length (cD de))))) (T.need ((0 : Int) ≤ Prod.fst x_2) (T.need (Prod.fst x_2 < (Nat.cast (R := Int) (List.length (cD de)))) (T.need ((0 : Int) ≤ Prod.fst x_2) (T.need (Prod.fst x_2 < (Nat.cast (R := Int) (List.length dew))) (T.need ((0 : Int) ≤ Prod.fst x_1) (T.need (Prod.fst x_1 < (Nat.cast (R := Int) (List.length (Dem.co (List.getD (cD de) (Int.toNat (Prod.fst x_2)) dfD))))) (T.ret (Sum.inl (IntKind.i64.wrap (Prod.fst x_2 + (1 : Int)), IntKind.i64.wrap (Prod.fst (Prod.snd x_2) + IntKind.i64.wrap (List.getD dew (Int.toNat (Prod.fst x_2)) (0 : Int) * List.getD (Dem.co (List.getD (cD de) (Int.toNat (Prod.fst x_2)) dfD)) (Int.toNat (Prod.fst x_1)) (0 : Int))), PUnit.unit))))))))) (T.br (Prod.fst (Prod.snd x_1)) (T.need ((0 : Int) ≤ Prod.fst x_1) (T.need (Prod.fst x_1 < (Nat.cast (R := Int) (List.length ga))) (T.ret (Sum.inr (Sum.inl (IntKind.i64.wrap (Prod.fst x_1 + (1 : Int)), decide (Prod.fst (Prod.snd x_2) ≥ IntKind.i64.wrap (List.getD ga (Int.toNat (Prod.fst x_1)) (0 : Int) * denw)), PUnit.unit)))))) (T.ret (Sum.inr (Sum.inl (IntKind.i64.wrap (Prod.fst x_1 + (1 : Int)), false, PUnit.unit)))))))) (T.br (!Prod.fst (Prod.snd x_1)) (T.ret (Sum.inr (Sum.inr [Ar.agg [D.int IntKind.i64 (0 : Int), D.int IntKind.i64 (0 : Int)], Ar.c (D.int IntKind.i64 (20 : Int))]))) (T.need (i64ok (Prod.fst (Prod.snd x))) (T.need (i64ok denw) (T.need ((0 : Int) < denw) (T.ret (Sum.inr (Sum.inr [Ar.agg [D.int IntKind.i64 (Prod.fst (M.frac (Prod.fst (Prod.snd x)) denw)), D.int IntKind.i64 (Prod.fst (Prod.snd (M.frac (Prod.fst (Prod.snd x)) denw)))], Ar.c (D.int IntKind.i64 (Prod.snd (Prod.snd (M.frac (Prod.fst (Prod.snd x)) denw))))]))))))))))))))))))))))))
theorem t53 (q_mo : Bool) (mo : List Int) (q_ga : Bool) (ga : List Int) (q_de : Bool) (de : List Dem) (denw : Int) (q_dew : Bool) (dew : List Int) (q_tow : Bool) (tow : List Int) : runFnX Try.prog G0 (lookS [v133, v139, v85]) (fun f => match f with | 134 => [(3, [.slot 26 (.int .i64), .slot 9 (.int .i64)], none), (8, [.slot 45 (.int .i64), .slot 8 .bool], none), (11, [.slot 54 (.int .i64), .slot 13 (.int .i64)], none)] | _ => []) [134, 135] 1 90 6 53 Try.f53 [.agg [.sl q_mo mo.length 1 (eI.F mo), .sl q_ga ga.length 1 (eI.F ga), .sl q_de de.length 3 (eDm.F de)], .agg [dI denw, .sl q_dew dew.length 1 (eI.F dew), .sl q_tow tow.length 1 (eI.F tow)]] =
    tr53 q_mo mo q_ga ga q_de de denw q_dew dew q_tow tow := by kernel_rfl
theorem w53 (qm : Bool) (mo : List Int) (qg : Bool) (ga : List Int) (qd : Bool) (de : List Dem) (den : Int) (qw : Bool) (wd : List Int) (qt : Bool) (wt : List Int) (h1 : mo.length ≤ 1000000) (h2 : ga.length ≤ 1000000) (h3 : de.length ≤ 1000000) (hn : ∀ d, d ∈ de → d.nm.size ≤ 1000000 ∧ d.co.length ≤ 1000000) (h4 : wd.length ≤ 1000000) (h5 : wt.length ≤ 1000000) :
    (tr53 qm mo qg ga qd de den qw wd qt wt).wp (fun rs => rsEqv rs (resF (M.ckWRes mo ga de den wd wt))) := by
  unfold tr53 M.ckWRes
  simp only [cI, cD, iI, iD, Enc.list_F]
  refine ⟨Enc.is_F _ _ _, Enc.is_F _ _ _, Enc.is_F _ _ _, Enc.is_F _ _ _, Enc.is_F _ _ _, h1, h2, h3, hn, h4, h5, wp_br (fun hb => by rw [hb]; exact rsEqv_refl _) (fun hb => ?_)⟩
  rw [hb]
  have h0 : M.openW mo ga de den wd wt = 0 := by simpa using hb
  obtain ⟨hc, hW⟩ := openW_right h0
  have hR := prog_right hc
  obtain ⟨w1, w2, w3, w4, w5⟩ := wt_right hW
  obtain ⟨x1, x2, x3⟩ := bnd_exact hR hW
  have f1 := hR.n4; have f2 := hR.ld; have f3 := hR.lg
  have fd : ∀ d, d ∈ de → mo.length ≤ d.co.length := fun d hd => by rw [(hR.rd d hd).1]; exact Nat.le_refl _
  have m1 : mo.length ≤ 1000000 := by omega
  have m2 : de.length ≤ 1000000 := by omega
  have m3 : mo.length ≤ wt.length := by omega
  have m4 : de.length ≤ wd.length := by omega
  have m5 : wt.length ≤ 1000000 := by omega
  have m6 : wt.length ≤ mo.length := by omega
  show T.wp _ (fun rs => rsEqv rs (resF (M.ckW mo ga de den wd wt)))
  refine ⟨Enc.is_F _ _ _, Enc.is_F _ _ _, m5, m6, ?_⟩
  refine range_wp (n := de.length) (fun j s => s.1 = M.bndK mo de wd wt j) rfl ?_
  rintro j ⟨s, u'⟩ hj hJ
  have hJ : s = M.bndK mo de wd wt j := hJ
  subst hJ
  refine wp_br (fun hb => ?_) (fun hb => ?_)
  · have hjt := lt_of_dec hb
    exact ⟨by show (0 : Int) ≤ j; omega, by show (j : Int) < de.length; omega, by show (0 : Int) ≤ j; omega, by show (j : Int) < wd.length; omega, hjt, wrap_succ (by omega), by unfold M.bndK; rw [foldl_succ]; rfl⟩
  have hge := ge_of_dec hb
  obtain rfl : j = de.length := by omega
  obtain ⟨p, hp⟩ : ∃ p : Nat → Bool, p = fun i => decide (M.onK de wd wt i de.length < IntKind.i64.wrap (ga.getD i 0 * den)) := ⟨_, rfl⟩
  refine range_wp (n := wt.length) (fun k s => s.1 = true ∧ M.firstIdx p mo.length 0 = M.firstIdx p (mo.length - k) k ∨ s.1 = false ∧ 0 ≤ M.firstIdx p mo.length 0) (.inl ⟨rfl, rfl⟩) ?_
  rintro k ⟨ok, u⟩ hk hI
  refine wp_br (fun hb => ?_) (fun hb => ?_)
  · have hlt := lt_of_dec hb
    have hs := idx_step (p := p) (show k < mo.length by omega)
    refine ⟨by show (0 : Int) ≤ k; omega, by show (k : Int) < wt.length; omega, ?_⟩
    refine range_wp (n := de.length) (fun j s => s.1 = M.onK de wd wt k j) rfl ?_
    rintro j ⟨s, u'⟩ hj hJ
    have hJ : s = M.onK de wd wt k j := hJ
    subst hJ
    refine wp_br (fun hb => ?_) (fun hb => ?_)
    · have hjt := lt_of_dec hb
      exact ⟨by show (0 : Int) ≤ j; omega, by show (j : Int) < de.length; omega, by show (0 : Int) ≤ j; omega, by show (j : Int) < wd.length; omega, by show (0 : Int) ≤ k; omega, by have := fd _ (getD_mem (d := dfD) hjt); show (k : Int) < (de.getD j dfD).co.length; omega, hjt, wrap_succ (by omega), by unfold M.onK; rw [foldl_succ]; rfl⟩
    · have hge := ge_of_dec hb
      obtain rfl : j = de.length := by omega
      refine wp_br (fun hx => ?_) (fun hx => ?_)
      · have hx : ok = true := hx
        rcases hI with ⟨_, hI⟩ | ⟨hI, _⟩
        · have hI : M.firstIdx p mo.length 0 = M.firstIdx p (mo.length - k) k := hI
          refine ⟨by show (0 : Int) ≤ k; omega, by show (k : Int) < ga.length; omega, hlt, wrap_succ (by omega), ?_⟩
          by_cases hq : p k = true
          · refine .inr ⟨?_, ?_⟩
            · have hq : decide (M.onK de wd wt k de.length < IntKind.i64.wrap (ga.getD k 0 * den)) = true := by rw [hp] at hq; exact hq
              have hq := of_decide_eq_true hq
              exact decide_eq_false (by show ¬ M.onK de wd wt k de.length ≥ IntKind.i64.wrap (ga.getD k 0 * den); omega)
            · rw [hI, hs, hq]; show (0 : Int) ≤ k; omega
          · have hq : p k = false := by simpa using hq
            refine .inl ⟨?_, by rw [hI, hs, hq]; rfl⟩
            have hq : decide (M.onK de wd wt k de.length < IntKind.i64.wrap (ga.getD k 0 * den)) = false := by rw [hp] at hq; exact hq
            have hq := of_decide_eq_false hq
            exact decide_eq_true (by show M.onK de wd wt k de.length ≥ IntKind.i64.wrap (ga.getD k 0 * den); omega)
        · have hI : ok = false := hI
          rw [hx] at hI; cases hI
      · have hx : ok = false := hx
        rcases hI with ⟨hI, _⟩ | ⟨_, hI⟩
        · have hI : ok = true := hI
          rw [hx] at hI; cases hI
        · exact ⟨hlt, wrap_succ (by omega), .inr ⟨rfl, hI⟩⟩
  have hge := ge_of_dec hb
  obtain rfl : k = wt.length := by omega
  refine wp_br (fun hx => ?_) (fun hx => ?_)
  · have hx : ok = false := by simpa using hx
    rcases hI with ⟨hI, _⟩ | ⟨_, hI⟩
    · have hI : ok = true := hI
      rw [hx] at hI; cases hI
    · have hP : M.putsL mo.length de den wd wt ga = false := by unfold M.putsL M.putsF; exact decide_eq_false (by rw [← hp]; omega)
      unfold M.ckW; rw [hP]; exact rsEqv_refl _
  · have hx : ok = true := by simpa using hx
    rcases hI with ⟨_, hI⟩ | ⟨hI, _⟩
    · have hI : M.firstIdx p mo.length 0 = M.firstIdx p (mo.length - wt.length) wt.length := hI
      rw [show mo.length - wt.length = 0 by omega] at hI
      have hP : M.putsL mo.length de den wd wt ga = true := by unfold M.putsL M.putsF; exact decide_eq_true (by rw [← hp, hI]; show (-1 : Int) < 0; decide)
      unfold M.ckW; rw [hP]; exact ⟨x2, x3, by omega, rsEqv_refl _⟩
    · have hI : ok = false := hI
      rw [hx] at hI; cases hI
def dom53 : DomF
  | [.agg [.sl _ n_mo st_mo F_mo, .sl _ n_ga st_ga F_ga, .sl _ n_de st_de F_de], .agg [.int .i64 denw, .sl _ n_dew st_dew F_dew, .sl _ n_tow st_tow F_tow]] => (match Nat.beq st_mo 1 && Nat.beq st_ga 1 && Nat.beq st_de 3 && Nat.beq st_dew 1 && Nat.beq st_tow 1 with
    | true => some ([eI.Is n_mo F_mo, eI.Is n_ga F_ga, eDm.Is n_de F_de, eI.Is n_dew F_dew, eI.Is n_tow F_tow, (eI.list n_mo F_mo).length ≤ 1000000, (eI.list n_ga F_ga).length ≤ 1000000, (eDm.list n_de F_de).length ≤ 1000000, ∀ d, d ∈ (eDm.list n_de F_de) → d.nm.size ≤ 1000000 ∧ d.co.length ≤ 1000000, (eI.list n_dew F_dew).length ≤ 1000000, (eI.list n_tow F_tow).length ≤ 1000000], resF (M.ckWRes (eI.list n_mo F_mo) (eI.list n_ga F_ga) (eDm.list n_de F_de) denw (eI.list n_dew F_dew) (eI.list n_tow F_tow)))
    | _ => none)
  | _ => none
def v53 : Nat × Sm := (53, fokSm dom53)
theorem C53 : FOK Try.prog G0 gw 53 dom53 := by
  intro ags p r hd hp κ w xs hw hl hG hx
  unfold dom53 at hd
  split at hd
  · rename_i q_mo n_mo st_mo F_mo q_ga n_ga st_ga F_ga q_de n_de st_de F_de denw q_dew n_dew st_dew F_dew q_tow n_tow st_tow F_tow
    split at hd
    · rename_i hst
      simp only [Bool.and_eq_true] at hst
      obtain ⟨⟨⟨⟨g1, g2⟩, g3⟩, g4⟩, g5⟩ := hst
      have g1 := Nat.eq_of_beq_eq_true g1
      have g2 := Nat.eq_of_beq_eq_true g2
      have g3 := Nat.eq_of_beq_eq_true g3
      have g4 := Nat.eq_of_beq_eq_true g4
      have g5 := Nat.eq_of_beq_eq_true g5
      subst g1 g2 g3 g4 g5
      simp only [Option.some.injEq, Prod.mk.injEq] at hd
      obtain ⟨rfl, rfl⟩ := hd
      obtain ⟨hI_mo, hI_ga, hI_de, hI_dew, hI_tow, hp⟩ := hp
      have heq : agsEqv [.agg [.sl q_mo n_mo 1 F_mo, .sl q_ga n_ga 1 F_ga, .sl q_de n_de 3 F_de], .agg [.int .i64 denw, .sl q_dew n_dew 1 F_dew, .sl q_tow n_tow 1 F_tow]] [.agg [.sl q_mo (eI.list n_mo F_mo).length 1 (eI.F (eI.list n_mo F_mo)), .sl q_ga (eI.list n_ga F_ga).length 1 (eI.F (eI.list n_ga F_ga)), .sl q_de (eDm.list n_de F_de).length 3 (eDm.F (eDm.list n_de F_de))], .agg [.int .i64 denw, .sl q_dew (eI.list n_dew F_dew).length 1 (eI.F (eI.list n_dew F_dew)), .sl q_tow (eI.list n_tow F_tow).length 1 (eI.F (eI.list n_tow F_tow))]] := ⟨⟨eI.to id hI_mo, eI.to id hI_ga, eDm.to id hI_de, trivial⟩, ⟨rfl, eI.to id hI_dew, eI.to id hI_tow, trivial⟩, trivial⟩
      have len_mo : (eI.list n_mo F_mo).length = n_mo := eI.list_len
      have len_ga : (eI.list n_ga F_ga).length = n_ga := eI.list_len
      have len_de : (eDm.list n_de F_de).length = n_de := eDm.list_len
      have len_dew : (eI.list n_dew F_dew).length = n_dew := eI.list_len
      have len_tow : (eI.list n_tow F_tow).length = n_tow := eI.list_len
      generalize eI.list n_mo F_mo = mo at *
      generalize eI.list n_ga F_ga = ga at *
      generalize eDm.list n_de F_de = de at *
      generalize eI.list n_dew F_dew = dew at *
      generalize eI.list n_tow F_tow = tow at *
      subst len_mo len_ga len_de len_dew len_tow
      exact fokX_fin mixed gw_stable (sl := [v133, v139, v85]) ⟨S133, S139, S85, trivial⟩ Try.func53 hw hl hG hx heq rfl (t53 _ _ _ _ _ _ _ _ _ _ _) (w53 _ _ _ _ _ _ _ _ _ _ _ hp.1 hp.2.1 hp.2.2.1 hp.2.2.2.1 hp.2.2.2.2.1 hp.2.2.2.2.2.1)
    · cases hd
  · cases hd
theorem S53 : SumOK Try.prog G0 gw 53 (fokSm dom53) := fok_sum Try.func53 rfl C53
end Go.Pl
end

section
set_option linter.unusedVariables false
set_option linter.unusedSimpArgs false
namespace Go.Lp
def alt {α : Type} (f : α → List α → Rat) : List α → Rat
  | [] => 0
  | c :: cs => f c cs - alt (fun d ds => f d (c :: ds)) cs
def D {α β : Type} (f : α → β → Rat) : List α → List β → Rat
  | [], _ => 1
  | r :: rs, cols => alt (fun c cs => f r c * D f rs cs) cols
section
variable {α β : Type}
variable {f : α → β → Rat}
end
abbrev Vec := Nat → Rat
def Vec.add (u v : Vec) : Vec := fun c => u c + v c
end Go.Lp
end

section
set_option linter.unusedVariables false
set_option linter.unusedSimpArgs false
namespace Go.Lp
section
variable {α β : Type}
variable {f : α → β → Rat}
def turn (f : α → β → Rat) (cols : List β) (v : α) (g : α → Rat) : List α → List α → Rat
  | _, [] => 0
  | A, r :: Q => g r * D f (A ++ v :: Q) cols + turn f cols v g (A ++ [r]) Q
end
end Go.Lp
end

section
set_option linter.unusedVariables false
set_option linter.unusedSimpArgs false
namespace Go.Lp
section
variable {α β : Type} (f : α → β → Rat) (b : α → Rat) (w : β → Rat) (cols : List β)
end
section
variable {α β : Type} {f : α → β → Rat} {b : α → Rat} {w : β → Rat} {cols : List β}
end
end Go.Lp
end

section
set_option linter.unusedVariables false
set_option linter.unusedSimpArgs false
namespace Go.Lp
section
variable {α β : Type}
end
end Go.Lp
end

section
set_option linter.unusedVariables false
set_option linter.unusedSimpArgs false
namespace Go.Lp
def smI {α : Type} (g : α → Int) : List α → Int
  | [] => 0
  | a :: l => g a + smI g l
section
variable {α β γ : Type}
theorem smI_congr {g h : α → Int} : ∀ {l : List α}, (∀ a, a ∈ l → g a = h a) → smI g l = smI h l := by
  intro l
  induction l with
  | nil => intro _; rfl
  | cons a l ih => intro e; simp only [smI]; rw [e a (List.mem_cons_self ..), ih fun b hb => e b (List.mem_cons_of_mem _ hb)]
theorem smI_append {g : α → Int} : ∀ {l k : List α}, smI g (l ++ k) = smI g l + smI g k := by
  intro l
  induction l with
  | nil => intro k; simp only [List.nil_append, smI]; omega
  | cons a l ih => intro k; simp only [List.cons_append, smI]; rw [ih]; omega
theorem smI_add {g h : α → Int} : ∀ {l : List α}, smI (fun a => g a + h a) l = smI g l + smI h l := by
  intro l
  induction l with
  | nil => simp only [smI]; omega
  | cons a l ih => simp only [smI]; rw [ih]; omega
theorem smI_smul {k : Int} {g : α → Int} : ∀ {l : List α}, smI (fun a => k * g a) l = k * smI g l := by
  intro l
  induction l with
  | nil => simp only [smI]; omega
  | cons a l ih => simp only [smI]; rw [ih, Int.mul_add]
theorem smI_zero : ∀ {l : List α}, smI (fun _ => (0 : Int)) l = 0 := by
  intro l
  induction l with
  | nil => rfl
  | cons a l ih => simp only [smI]; rw [ih]; omega
theorem smI_comm {F : α → β → Int} : ∀ {l : List α} {k : List β}, smI (fun a => smI (F a) k) l = smI (fun b => smI (fun a => F a b) l) k := by
  intro l
  induction l with
  | nil => intro k; simp only [smI]; rw [smI_zero]
  | cons a l ih => intro k; simp only [smI]; rw [ih, smI_add]
theorem smI_le {g h : α → Int} : ∀ {l : List α}, (∀ a, a ∈ l → g a ≤ h a) → smI g l ≤ smI h l := by
  intro l
  induction l with
  | nil => intro _; exact Int.le_refl _
  | cons a l ih =>
    intro e
    have h1 := e a (List.mem_cons_self ..)
    have h2 := ih fun b hb => e b (List.mem_cons_of_mem _ hb)
    simp only [smI]
    omega
end
end Go.Lp
end

section
set_option linter.unusedVariables false
set_option linter.unusedSimpArgs false
set_option maxRecDepth 100000
namespace Go.Pl
open Go.V Go.Proofs Go.Lp
theorem sumK_smI (f : Nat → Int) : ∀ k, sumK f k = smI f (List.range k) := by
  intro k
  induction k with
  | zero => rfl
  | succ k ih => rw [sumK_succ, List.range_succ, smI_append, ih]; simp [smI]
theorem dotK_smI (u v : List Int) (k : Nat) : dotK u v k = smI (fun i => u.getD i 0 * v.getD i 0) (List.range k) := sumK_smI _ k
theorem smI_mulr {α : Type} {g : α → Int} {k : Int} {l : List α} : smI g l * k = smI (fun a => g a * k) l := by
  rw [Int.mul_comm, ← smI_smul]
  exact smI_congr fun a _ => Int.mul_comm _ _
structure Allowed (mo : List Int) (de : List Dem) (den : Int) (pa : List Int) : Prop where
  top : ∀ i, i < mo.length → pa.getD i 0 ≤ mo.getD i 0 * den
  room : ∀ j, j < de.length → dotK (de.getD j dfD).co pa mo.length ≤ (de.getD j dfD).am * den
theorem room_exact {mo ga : List Int} {de : List Dem} {den : Int} {pa : List Int} (hR : RightP mo ga de) (hP : M.ptErr mo den pa = 0) {j : Nat} (hj : j < de.length) : M.room (de.getD j dfD) den pa = (de.getD j dfD).am * den - dotK (de.getD j dfD).co pa mo.length := by
  obtain ⟨p1, p2, p3⟩ := pt_right hP
  obtain ⟨r1, r2, r3⟩ := hR.rd _ (getD_mem (d := dfD) hj)
  have hn := hR.n4
  obtain ⟨d1, d2, d3⟩ := dot_exact (A := 100) (B := 1000000000000000) (u := (de.getD j dfD).co) (v := pa) (by omega) (by omega) r2 (fun x hx => by have := p3 x hx; omega) (by omega) (by omega)
  have hm := mul_bnd (A := 1000000) (B := 100000000000) (x := (de.getD j dfD).am) (y := den) (by omega) r3 (by omega)
  have hl : ((de.getD j dfD).co.length : Int) ≤ 4 := by omega
  unfold M.room
  rw [← r1]
  rw [d1] at d2 d3 ⊢
  generalize (de.getD j dfD).am * den = z at *
  rw [wrap_id (n := z) (by omega) (by omega), wrap_id (by omega) (by omega)]
theorem over_exact {mo ga : List Int} {de : List Dem} {den : Int} {pa : List Int} (hR : RightP mo ga de) (hP : M.ptErr mo den pa = 0) (i : Nat) : IntKind.i64.wrap (mo.getD i 0 * den) = mo.getD i 0 * den := by
  obtain ⟨p1, p2, p3⟩ := pt_right hP
  have h1 := getD_bnd (l := mo) (lo := 0) (hi := 1000000) (by omega) hR.rm i
  have hm := mul_bnd (A := 1000000) (B := 100000000000) (x := mo.getD i 0) (y := den) (by omega) (by omega) (by omega)
  exact wrap_id (by omega) (by omega)
theorem allow_zero {mo : List Int} {de : List Dem} {den : Int} {pa : List Int} : M.allowE mo de den pa = 0 ↔ M.firstIdx (M.overP mo den pa) mo.length 0 < 0 ∧ M.brk de den pa < 0 := by
  unfold M.allowE
  by_cases h1 : M.firstIdx (M.overP mo den pa) mo.length 0 < 0
  · rw [decide_eq_true h1]
    by_cases h2 : M.brk de den pa < 0
    · rw [decide_eq_true h2]; exact ⟨fun _ => ⟨h1, h2⟩, fun _ => rfl⟩
    · rw [decide_eq_false h2]; exact ⟨fun h => (by cases h), fun h => absurd h.2 h2⟩
  · rw [decide_eq_false h1]; exact ⟨fun h => (by cases h), fun h => absurd h.1 h1⟩
theorem idx_iff {p : Nat → Bool} {n : Nat} : M.firstIdx p n 0 < 0 ↔ ∀ i, i < n → p i = false :=
  ⟨fun h i hi => idx_none n 0 h i (Nat.zero_le _) (by omega), fun h => firstIdx_none n 0 fun i _ hi => h i (by omega)⟩
theorem allowed_iff {mo ga : List Int} {de : List Dem} {den : Int} {pa : List Int} (hR : RightP mo ga de) (hP : M.ptErr mo den pa = 0) : M.allowE mo de den pa = 0 ↔ Allowed mo de den pa := by
  rw [allow_zero]
  unfold M.brk
  rw [idx_iff, idx_iff]
  constructor
  · rintro ⟨h1, h2⟩
    refine ⟨fun i hi => ?_, fun j hj => ?_⟩
    · have := of_decide_eq_false (h1 i hi)
      rw [over_exact hR hP] at this
      omega
    · have := of_decide_eq_false (h2 j hj)
      rw [room_exact hR hP hj] at this
      omega
  · intro h
    refine ⟨fun i hi => decide_eq_false ?_, fun j hj => decide_eq_false ?_⟩
    · rw [over_exact hR hP]
      have := h.top i hi
      omega
    · rw [room_exact hR hP hj]
      have := h.room j hj
      omega
theorem weak_plan {mo ga : List Int} {de : List Dem} {denx denw : Int} {pa wd wt : List Int} (hR : RightP mo ga de) (hP : M.ptErr mo denx pa = 0) (hW : M.wErr mo de denw wd wt = 0) (hA : Allowed mo de denx pa) {g : Nat → Int} (hg : ∀ i, i < mo.length → g i ≤ onX de wd wt i) :
    smI (fun i => g i * pa.getD i 0) (List.range mo.length) ≤ bndX mo de wd wt * denx := by
  obtain ⟨p1, p2, p3⟩ := pt_right hP
  obtain ⟨w1, w2, w3, w4, w5⟩ := wt_right hW
  have hpa := fun i => getD_bnd (l := pa) (lo := 0) (hi := 1000000000000000) (by omega) p3 i
  have hwd := fun i => getD_bnd (l := wd) (lo := 0) (hi := 100000000000) (by omega) w4 i
  have hwt := fun i => getD_bnd (l := wt) (lo := 0) (hi := 100000000000) (by omega) w5 i
  have s1 : smI (fun i => g i * pa.getD i 0) (List.range mo.length) ≤ smI (fun i => onX de wd wt i * pa.getD i 0) (List.range mo.length) :=
    smI_le fun i hi => Int.mul_le_mul_of_nonneg_right (hg i (List.mem_range.1 hi)) (hpa i).1
  have s2 : smI (fun i => onX de wd wt i * pa.getD i 0) (List.range mo.length) = smI (fun i => wt.getD i 0 * pa.getD i 0) (List.range mo.length) + smI (fun j => wd.getD j 0 * dotK (de.getD j dfD).co pa mo.length) (List.range de.length) := by
    have e : smI (fun j => wd.getD j 0 * dotK (de.getD j dfD).co pa mo.length) (List.range de.length) = smI (fun i => smI (fun j => wd.getD j 0 * ((de.getD j dfD).co.getD i 0 * pa.getD i 0)) (List.range de.length)) (List.range mo.length) := by
      rw [smI_comm]
      exact smI_congr fun j _ => by rw [dotK_smI, smI_smul]
    rw [e, ← smI_add]
    refine smI_congr fun i _ => ?_
    unfold onX
    rw [sumK_smI, Int.add_mul, smI_mulr]
    congr 1
    exact smI_congr fun j _ => Int.mul_assoc _ _ _
  have s3 : smI (fun i => wt.getD i 0 * pa.getD i 0) (List.range mo.length) ≤ smI (fun i => wt.getD i 0 * mo.getD i 0 * denx) (List.range mo.length) := smI_le fun i hi => by
    rw [Int.mul_assoc]
    exact Int.mul_le_mul_of_nonneg_left (hA.top i (List.mem_range.1 hi)) (hwt i).1
  have s4 : smI (fun j => wd.getD j 0 * dotK (de.getD j dfD).co pa mo.length) (List.range de.length) ≤ smI (fun j => wd.getD j 0 * (de.getD j dfD).am * denx) (List.range de.length) := smI_le fun j hj => by
    rw [Int.mul_assoc]
    exact Int.mul_le_mul_of_nonneg_left (hA.room j (List.mem_range.1 hj)) (hwd j).1
  have s5 : bndX mo de wd wt * denx = smI (fun i => wt.getD i 0 * mo.getD i 0 * denx) (List.range mo.length) + smI (fun j => wd.getD j 0 * (de.getD j dfD).am * denx) (List.range de.length) := by
    unfold bndX
    rw [Int.add_mul, dotK_smI, sumK_smI, smI_mulr, smI_mulr, w2]
  omega
theorem puts_iff {mo ga : List Int} {de : List Dem} {den : Int} {wd wt : List Int} (hR : RightP mo ga de) (hW : M.wErr mo de den wd wt = 0) (least : Nat → Int) : M.putsF mo.length de wd wt least = true ↔ ∀ i, i < mo.length → least i ≤ onX de wd wt i := by
  unfold M.putsF
  rw [decide_eq_true_iff, idx_iff]
  refine forall_congr' fun i => forall_congr' fun _ => ?_
  rw [(on_exact hR hW i).1, decide_eq_false_iff_not]
  omega
theorem gain_wrap {mo ga : List Int} {de : List Dem} {den : Int} {wd wt : List Int} (hR : RightP mo ga de) (hW : M.wErr mo de den wd wt = 0) (i : Nat) : IntKind.i64.wrap (ga.getD i 0 * den) = ga.getD i 0 * den := by
  obtain ⟨w1, w2, w3, w4, w5⟩ := wt_right hW
  have h1 := getD_bnd (l := ga) (lo := -100) (hi := 100) (by omega) hR.rg i
  have hm := mul_bnd (A := 100) (B := 100000000000) (x := ga.getD i 0) (y := den) (by omega) (by omega) (by omega)
  exact wrap_id (by omega) (by omega)
theorem gain_le {mo ga : List Int} {de : List Dem} {denx denw : Int} {pa wd wt : List Int} (hR : RightP mo ga de) (hP : M.ptErr mo denx pa = 0) (hW : M.wErr mo de denw wd wt = 0) (hA : Allowed mo de denx pa) (hp : M.putsL mo.length de denw wd wt ga = true) :
    M.dot ga pa * denw ≤ M.bndW mo de wd wt * denx := by
  have h := (puts_iff hR hW _).1 hp
  have hg : ∀ i, i < mo.length → ga.getD i 0 * denw ≤ onX de wd wt i := fun i hi => by have := h i hi; rw [gain_wrap hR hW] at this; exact this
  have hw := weak_plan hR hP hW hA hg
  rw [(bnd_exact hR hW).1]
  obtain ⟨p1, p2, p3⟩ := pt_right hP
  obtain ⟨d1, _, _⟩ := dot_exact (A := 100) (B := 1000000000000000) (u := ga) (v := pa) (by omega) (by omega) hR.rg (fun x hx => by have := p3 x hx; omega) (by omega) (by have := hR.lg; have := hR.n4; omega)
  rw [d1, dotK_smI, smI_mulr, hR.lg]
  refine Int.le_trans (Int.le_of_eq (smI_congr fun i _ => ?_)) hw
  rw [Int.mul_assoc, Int.mul_assoc, Int.mul_comm denw]
theorem not_refuted {mo ga : List Int} {de : List Dem} {denx denw : Int} {pa wd wt : List Int} (hR : RightP mo ga de) (hP : M.ptErr mo denx pa = 0) (hW : M.wErr mo de denw wd wt = 0) (hA : Allowed mo de denx pa) : M.refu mo de wd wt = false := by
  cases hr : M.refu mo de wd wt with
  | false => rfl
  | true =>
    exfalso
    unfold M.refu at hr
    cases hp : M.putsF mo.length de wd wt (fun _ => 0) with
    | false => rw [hp] at hr; cases hr
    | true =>
      rw [hp] at hr
      have hr : M.bndW mo de wd wt < 0 := of_decide_eq_true hr
      have h := (puts_iff hR hW _).1 hp
      have hw := weak_plan hR hP hW hA h
      rw [(bnd_exact hR hW).1] at hr
      obtain ⟨p1, p2, p3⟩ := pt_right hP
      have e : smI (fun i => (0 : Int) * pa.getD i 0) (List.range mo.length) = 0 := by
        rw [show (fun i => (0 : Int) * pa.getD i 0) = fun _ => (0 : Int) by funext i; exact Int.zero_mul _]
        exact smI_zero
      rw [e] at hw
      have : bndX mo de wd wt * denx < 0 := Int.mul_neg_of_neg_of_pos hr (by omega)
      omega
theorem told_mul {n d : Int} (hd : 0 < d) : ∃ g : Int, 0 < g ∧ n = M.told1 n d * g ∧ d = M.told2 n d * g := by
  have hg : Int.gcd n d ≠ 0 := fun h => by have := Int.gcd_eq_zero_iff.1 h; omega
  refine ⟨(Int.gcd n d : Nat), by omega, ?_, ?_⟩
  · unfold M.told1
    exact (Int.tdiv_mul_cancel (Int.gcd_dvd_left ..)).symm
  · unfold M.told2
    exact (Int.tdiv_mul_cancel (Int.gcd_dvd_right ..)).symm
theorem frac_ok {n d : Int} (h : (M.frac n d).2.2 = 0) : M.frac n d = (M.told1 n d, M.told2 n d, 0) ∧ (-1000000000 ≤ M.told1 n d ∧ M.told1 n d ≤ 1000000000) ∧ M.told2 n d ≤ 1000000000 := by
  unfold M.frac at h ⊢
  cases h1 : M.small (M.told1 n d) 1000000000 with
  | false => rw [h1] at h; cases h
  | true =>
    rw [h1] at h
    cases h2 : decide (M.told2 n d > 1000000000) with
    | true => rw [h2] at h; cases h
    | false =>
      have h2 := of_decide_eq_false h2
      exact ⟨rfl, within_iff.1 h1, by omega⟩
theorem told2_pos {n d : Int} (hd : 0 < d) : 0 < M.told2 n d := by
  obtain ⟨g, hg, _, h2⟩ := told_mul (n := n) hd
  rcases Int.lt_or_le 0 (M.told2 n d) with h | h
  · exact h
  · have := Int.mul_nonpos_of_nonpos_of_nonneg h (Int.le_of_lt hg)
    omega
theorem cmp_le {n d m e : Int} (hd : 0 < d) (he : 0 < e) (h : n * e ≤ m * d) (h1 : (M.frac n d).2.2 = 0) (h2 : (M.frac m e).2.2 = 0) : M.cmp (M.frac n d).1 (M.frac n d).2.1 (M.frac m e).1 (M.frac m e).2.1 ≤ 0 := by
  obtain ⟨f1, a1, a2⟩ := frac_ok h1
  obtain ⟨f2, b1, b2⟩ := frac_ok h2
  rw [f1, f2]
  show M.cmp (M.told1 n d) (M.told2 n d) (M.told1 m e) (M.told2 m e) ≤ 0
  obtain ⟨g, hg, g1, g2⟩ := told_mul (n := n) hd
  obtain ⟨k, hk, k1, k2⟩ := told_mul (n := m) he
  have c1 := told2_pos (n := n) hd
  have c2 := told2_pos (n := m) he
  generalize M.told1 n d = x at *
  generalize M.told2 n d = y at *
  generalize M.told1 m e = z at *
  generalize M.told2 m e = w at *
  have key : x * w ≤ z * y := by
    rw [g1, g2, k1, k2] at h
    have h : (x * w) * (g * k) ≤ (z * y) * (g * k) := by
      have e1 : x * g * (w * k) = (x * w) * (g * k) := by rw [Int.mul_assoc, Int.mul_assoc, Int.mul_left_comm g]
      have e2 : z * k * (y * g) = (z * y) * (g * k) := by rw [Int.mul_assoc, Int.mul_assoc, Int.mul_left_comm k, Int.mul_comm k]
      rw [← e1, ← e2]; exact h
    exact Int.le_of_mul_le_mul_right h (Int.mul_pos hg hk)
  have m1 := mul_bnd (A := 1000000000) (B := 1000000000) (x := x) (y := w) (by omega) a1 (by omega)
  have m2 := mul_bnd (A := 1000000000) (B := 1000000000) (x := z) (y := y) (by omega) b1 (by omega)
  unfold M.cmp
  generalize x * w = u at *
  generalize z * y = v at *
  rw [wrap_id (n := u) (by omega) (by omega), wrap_id (n := v) (by omega) (by omega), decide_eq_false (show ¬ u > v by omega)]
  cases decide (u < v) <;> decide
end Go.Pl
end

section
set_option linter.unusedVariables false
set_option linter.unusedSimpArgs false
set_option maxRecDepth 100000
namespace Go.Pl
open Go.V Go.Proofs
abbrev yW (mo ga : List Int) (de : List Dem) (den : Int) (wd wt : List Int) := M.ckWRes (cI (cI mo)) (cI (cI ga)) (cD (cD de)) den (cI (cI wd)) (cI (cI wt))
abbrev yR (mo ga : List Int) (de : List Dem) (den : Int) (wd wt : List Int) := M.ckRRes (cI (cI mo)) (cI (cI ga)) (cD (cD de)) den (cI (cI wd)) (cI (cI wt))
abbrev yC (mo ga : List Int) (de : List Dem) (den : Int) (wd wt : List Int) := M.ckW (cI mo) (cI ga) (cD de) den (cI wd) (cI wt)
theorem openW_bad {mo ga : List Int} {de : List Dem} {den : Int} {wd wt : List Int} {e : Int} (he : e ≠ 0) (h : M.openW mo ga de den wd wt = e) : M.ckWRes mo ga de den wd wt = (0, 0, e) ∧ M.ckRRes mo ga de den wd wt = e := by
  unfold M.ckWRes M.ckRRes
  rw [h, bne_iff_ne.2 he]
  exact ⟨rfl, rfl⟩
theorem law8 (mo ga : List Int) (de : List Dem) (den : Int) (wd wt : List Int) :
    (∃ e, e ≠ 0 ∧ M.ckWRes mo ga de den wd wt = (0, 0, e) ∧ M.ckRRes mo ga de den wd wt = e ∧ ((M.checkProg mo ga de).2 = e ∨ ((M.checkProg mo ga de).2 = 0 ∧ M.wErr mo de den wd wt = e))) ∨
    ((M.checkProg mo ga de).2 = 0 ∧ M.wErr mo de den wd wt = 0 ∧ M.ckWRes mo ga de den wd wt = M.ckW mo ga de den wd wt ∧ M.ckRRes mo ga de den wd wt = M.unl (M.refu mo de wd wt) 20) := by
  by_cases h1 : (M.checkProg mo ga de).2 = 0
  case neg =>
    have h : M.openW mo ga de den wd wt = (M.checkProg mo ga de).2 := by rw [openW_eq, bne_iff_ne.2 h1]; rfl
    obtain ⟨a, b⟩ := openW_bad h1 h
    exact .inl ⟨_, h1, a, b, .inl rfl⟩
  by_cases h2 : M.wErr mo de den wd wt = 0
  case neg =>
    have h : M.openW mo ga de den wd wt = M.wErr mo de den wd wt := by rw [openW_eq, h1]; rfl
    obtain ⟨a, b⟩ := openW_bad h2 h
    exact .inl ⟨_, h2, a, b, .inr ⟨h1, rfl⟩⟩
  have h : M.openW mo ga de den wd wt = 0 := by rw [openW_eq, h1]; exact h2
  exact .inr ⟨h1, h2, by unfold M.ckWRes; rw [h]; rfl, by unfold M.ckRRes; rw [h]; rfl⟩
theorem ckPt_ok {mo ga : List Int} {de : List Dem} {den : Int} {pa : List Int} (h : (M.ckPt mo ga de den pa).2.2 = 0) : M.allowE mo de den pa = 0 ∧ (M.frac (M.dot ga pa) den).2.2 = 0 ∧ M.ckPt mo ga de den pa = M.frac (M.dot ga pa) den := by
  unfold M.ckPt at h ⊢
  by_cases ha : M.allowE mo de den pa = 0
  · rw [ha] at h ⊢
    exact ⟨rfl, h, rfl⟩
  · rw [bne_iff_ne.2 ha] at h
    exact absurd h ha
theorem ckW_ok {mo ga : List Int} {de : List Dem} {den : Int} {wd wt : List Int} (h : (M.ckW mo ga de den wd wt).2.2 = 0) : M.putsL mo.length de den wd wt ga = true ∧ (M.frac (M.bndW mo de wd wt) den).2.2 = 0 ∧ M.ckW mo ga de den wd wt = M.frac (M.bndW mo de wd wt) den := by
  unfold M.ckW at h ⊢
  cases hp : M.putsL mo.length de den wd wt ga with
  | false => rw [hp] at h; cases h
  | true => rw [hp] at h; exact ⟨rfl, h, rfl⟩
def tr8 (q_mo : Bool) (mo : List Int) (q_ga : Bool) (ga : List Int) (q_de : Bool) (de : List Dem) (denw : Int) (q_dew : Bool) (dew : List Int) (q_tow : Bool) (tow : List Int) (denx : Int) (q_pax : Bool) (pax : List Int) : T (List Ar) :=
    T.br (!true) cN (T.need (iI mo) (T.need (iI ga) (T.need (iD de) (T.br (!M.few (cI mo) (cI ga) (cD de)) (T.ret [Ar.c (D.bool true)]) (T.br (decide ((Nat.cast (R := Int) (List.length dew)) > (10 : Int))) (T.ret [Ar.c (D.bool true)]) (T.br (decide ((Nat.cast (R := Int) (List.length tow)) > (6 : Int))) (T.ret [Ar.c (D.bool true)]) (T.br (decide ((Nat.cast (R := Int) (List.length pax)) > (6 : Int))) (T.ret [Ar.c (D.bool true)]) (T.need (iI mo) (T.need (iI ga) (T.need (iD de) (T.need (List.length (cI mo) ≤ (1000000 : Nat)) (T.need (List.length (cI ga) ≤ (1000000 : Nat)) (T.need (List.length (cD de) ≤ (1000000 : Nat)) (T.need (∀ (d : Dem), d ∈ cD de → List.length (Dem.co d) ≤ (1000000 : Nat)) (T.need (iI dew) (T.need (iI tow) (T.need (List.length (cI dew) ≤ (1000000 : Nat)) (T.need (List.length (cI tow) ≤ (1000000 : Nat)) (T.need (iI (cI mo)) (T.need (iI (cI ga)) (T.need (iD (cD de)) (T.need (iI (cI dew)) (T.need (iI (cI tow)) (T.need (List.length (cI (cI mo)) ≤ (1000000 : Nat)) (T.need (List.length (cI (cI ga)) ≤ (1000000 : Nat)) (T.need (List.length (cD (cD de)) ≤ (1000000 : Nat)) (T.need (∀ (d : Dem), d ∈ cD (cD de) → ByteArray.size (Dem.nm d) ≤ (1000000 : Nat) ∧ List.length (Dem.co d) ≤ (1000000 : Nat)) (T.need (List.length (cI (cI dew)) ≤ (1000000 : Nat)) (T.need (List.length (cI (cI tow)) ≤ (1000000 : Nat)) (T.need (iI mo) (T.need (iI ga) (T.need (iD de) (T.need (List.length (cI mo) ≤ (1000000 : Nat)) (T.need (List.length (cI ga) ≤ (1000000 : Nat)) (T.need (List.length (cD de) ≤ (1000000 : Nat)) (T.need (∀ (d : Dem), d ∈ cD de → List.length (Dem.co d) ≤ (1000000 : Nat)) (T.need (iI dew) (T.need (iI tow) (T.need (List.length (cI dew) ≤ (1000000 : Nat)) (T.need (List.length (cI tow) ≤ (1000000 : Nat)) (T.need (iI (cI mo)) (T.need (iI (cI ga)) (T.need (iD (cD de)) (T.need (iI (cI dew)) (T.need (iI (cI tow)) (T.need (List.length (cI (cI mo)) ≤ (1000000 : Nat)) (T.need (List.length (cI (cI ga)) ≤ (1000000 : Nat)) (T.need (List.length (cD (cD de)) ≤ (1000000 : Nat)) (T.need (∀ (d : Dem), d ∈ cD (cD de) → ByteArray.size (Dem.nm d) ≤ (1000000 : Nat) ∧ List.length (Dem.co d) ≤ (1000000 : Nat)) (T.need (List.length (cI (cI dew)) ≤ (1000000 : Nat)) (T.need (List.length (cI (cI tow)) ≤ (1000000 : Nat)) (T.need (iI mo) (T.need (iI ga) (T.need (iD de) (T.need (List.length (cI mo) ≤ (1000000 : Nat)) (T.need (List.length (cD de) ≤ (1000000 : Nat)) (T.need (∀ (d : Dem), d ∈ cD de → ByteArray.size (Dem.nm d) ≤ (1000000 : Nat) ∧ List.length (Dem.co d) ≤ (1000000 : Nat)) (T.br (Prod.snd (M.checkProg (cI mo) (cI ga) (cD de)) == (0 : Int)) (T.need (iI mo) (T.need (iI ga) (T.need (iD de) (T.need (iI dew) (T.need (iI tow) (T.need (List.length (cI dew) ≤ (1000000 : Nat)) (T.need (List.length (cI tow) ≤ (1000000 : Nat)) (T.br (M.wErr (cI mo) (cD de) denw (cI dew) (cI tow) != (0 : Int)) (T.br (Prod.snd (Prod.snd (yW mo ga de denw dew tow)) == M.wErr (cI mo) (cD de) denw (cI dew) (cI tow)) (T.br (yR mo ga de denw dew tow == M.wErr (cI mo) (cD de) denw (cI dew) (cI tow)) (T.ret [Ar.c (D.bool (Prod.fst (yW mo ga de denw dew tow) == (0 : Int) && (Prod.fst (Prod.snd (yW mo ga de denw dew tow)) == (0 : Int) && true)))]) cN) cN) (T.need (iI mo) (T.need (iI ga) (T.need (iD de) (T.need (iI dew) (T.need (iI tow) (T.need (Prod.snd (M.checkProg (cI mo) (cI ga) (cD de)) = (0 : Int)) (T.need (M.wErr (cI mo) (cD de) denw (cI dew) (cI tow) = (0 : Int)) (T.br (Prod.snd (Prod.snd (yW mo ga de denw dew tow)) != Prod.snd (Prod.snd (yC mo ga de denw dew tow))) cN (T.br (!(Prod.fst (yW mo ga de denw dew tow) == Prod.fst (yC mo ga de denw dew tow) && (Prod.fst (Prod.snd (yW mo ga de denw dew tow)) == Prod.fst (Prod.snd (yC mo ga de denw dew tow)) && true))) cN (T.need (iI mo) (T.need (iI ga) (T.need (iD de) (T.need (iI dew) (T.need (iI tow) (T.need (Prod.snd (M.checkProg (cI mo) (cI ga) (cD de)) = (0 : Int)) (T.need (M.wErr (cI mo) (cD de) denw (cI dew) (cI tow) = (0 : Int)) (T.br (!(yR mo ga de denw dew tow == (0 : Int)) == M.refu (cI mo) (cD de) (cI dew) (cI tow)) cN (T.br (yR mo ga de denw dew tow != (0 : Int)) (T.br (yR mo ga de denw dew tow != (20 : Int)) cN (T.need (iI mo) (T.need (iI ga) (T.need (iD de) (T.need (iI pax) (T.need (List.length (cI pax) ≤ (1000000 : Nat)) (T.br (M.ptErr (cI mo) denx (cI pax) != (0 : Int)) (T.ret [Ar.c (D.bool true)]) (T.need (iI mo) (T.need (iI ga) (T.need (iD de) (T.need (List.length (cI mo) ≤ (1000000 : Nat)) (T.need (List.length (cI ga) ≤ (1000000 : Nat)) (T.need (List.length (cD de) ≤ (1000000 : Nat)) (T.need (∀ (d : Dem), d ∈ cD de → List.length (Dem.co d) ≤ (1000000 : Nat)) (T.need (iI pax) (T.need (List.length (cI pax) ≤ (1000000 : Nat)) (T.need (iI (cI mo)) (T.need (iI (cI ga)) (T.need (iD (cD de)) (T.need (iI (cI pax)) (T.need (List.length (cI (cI mo)) ≤ (1000000 : Nat)) (T.need (List.length (cI (cI ga)) ≤ (1000000 : Nat)) (T.need (List.length (cD (cD de)) ≤ (1000000 : Nat)) (T.need (∀ (d : Dem), d ∈ cD (cD de) → ByteArray.size (Dem.nm d) ≤ (1000000 : Nat) ∧ List.length (Dem.co d) ≤ (1000000 : Nat)) (T.need (List.length (cI (cI pax)) ≤ (1000000 : Nat)) (T.br (Prod.snd (Prod.snd (xP mo ga de denx pax)) != (0 : Int)) (T.ret [Ar.c (D.bool true)]) (T.br (yR mo ga de denw dew tow != (0 : Int)) (T.br (Prod.snd (Prod.snd (yW mo ga de denw dew tow)) != (0 : Int)) (T.ret [Ar.c (D.bool true)]) (T.ret [Ar.c (D.bool (decide (M.cmp (Prod.fst (xP mo ga de denx pax)) (Prod.fst (Prod.snd (xP mo ga de denx pax))) (Prod.fst (yW mo ga de denw dew tow)) (Prod.fst (Prod.snd (yW mo ga de denw dew tow))) ≤ (0 : Int))))])) cN))))))))))))))))))))))))))) (T.need (iI mo) (T.need (iI ga) (T.need (iD de) (T.need (iI pax) (T.need (List.length (cI pax) ≤ (1000000 : Nat)) (T.br (M.ptErr (cI mo) denx (cI pax) != (0 : Int)) (T.ret [Ar.c (D.bool true)]) (T.need (iI mo) (T.need (iI ga) (T.need (iD de) (T.need (List.length (cI mo) ≤ (1000000 : Nat)) (T.need (List.length (cI ga) ≤ (1000000 : Nat)) (T.need (List.length (cD de) ≤ (1000000 : Nat)) (T.need (∀ (d : Dem), d ∈ cD de → List.length (Dem.co d) ≤ (1000000 : Nat)) (T.need (iI pax) (T.need (List.length (cI pax) ≤ (1000000 : Nat)) (T.need (iI (cI mo)) (T.need (iI (cI ga)) (T.need (iD (cD de)) (T.need (iI (cI pax)) (T.need (List.length (cI (cI mo)) ≤ (1000000 : Nat)) (T.need (List.length (cI (cI ga)) ≤ (1000000 : Nat)) (T.need (List.length (cD (cD de)) ≤ (1000000 : Nat)) (T.need (∀ (d : Dem), d ∈ cD (cD de) → ByteArray.size (Dem.nm d) ≤ (1000000 : Nat) ∧ List.length (Dem.co d) ≤ (1000000 : Nat)) (T.need (List.length (cI (cI pax)) ≤ (1000000 : Nat)) (T.br (Prod.snd (Prod.snd (xP mo ga de denx pax)) != (0 : Int)) (T.ret [Ar.c (D.bool true)]) (T.br (yR mo ga de denw dew tow != (0 : Int)) (T.br (Prod.snd (Prod.snd (yW mo ga de denw dew tow)) != (0 : Int)) (T.ret [Ar.c (D.bool true)]) (T.ret [Ar.c (D.bool (decide (M.cmp (Prod.fst (xP mo ga de denx pax)) (Prod.fst (Prod.snd (xP mo ga de denx pax))) (Prod.fst (yW mo ga de denw dew tow)) (Prod.fst (Prod.snd (yW mo ga de denw dew tow))) ≤ (0 : Int))))])) cN)))))))))))))))))))))))))))))))))))))))))))))))))))) (T.br (Prod.snd (M.checkProg (cI mo) (cI ga) (cD de)) != (0 : Int)) (T.br (Prod.snd (Prod.snd (yW mo ga de denw dew tow)) == Prod.snd (M.checkProg (cI mo) (cI ga) (cD de))) (T.br (yR mo ga de denw dew tow == Prod.snd (M.checkProg (cI mo) (cI ga) (cD de))) (T.ret [Ar.c (D.bool (Prod.fst (yW mo ga de denw dew tow) == (0 : Int) && (Prod.fst (Prod.snd (yW mo ga de denw dew tow)) == (0 : Int) && true)))]) cN) cN) (T.need (iI mo) (T.need (iI ga) (T.need (iD de) (T.need (iI dew) (T.need (iI tow) (T.need (Prod.snd (M.checkProg (cI mo) (cI ga) (cD de)) = (0 : Int)) (T.need (M.wErr (cI mo) (cD de) denw (cI dew) (cI tow) = (0 : Int)) (T.br (Prod.snd (Prod.snd (yW mo ga de denw dew tow)) != Prod.snd (Prod.snd (yC mo ga de denw dew tow))) cN (T.br (!(Prod.fst (yW mo ga de denw dew tow) == Prod.fst (yC mo ga de denw dew tow) && (Prod.fst (Prod.snd (yW mo ga de denw dew tow)) == Prod.fst (Prod.snd (yC mo ga de denw dew tow)) && true))) cN (T.need (iI mo) (T.need (iI ga) (T.need (iD de) (T.need (iI dew) (T.need (iI tow) (T.need (Prod.snd (M.checkProg (cI mo) (cI ga) (cD de)) = (0 : Int)) (T.need (M.wErr (cI mo) (cD de) denw (cI dew) (cI tow) = (0 : Int)) (T.br (!(yR mo ga de denw dew tow == (0 : Int)) == M.refu (cI mo) (cD de) (cI dew) (cI tow)) cN (T.br (yR mo ga de denw dew tow != (0 : Int)) (T.br (yR mo ga de denw dew tow != (20 : Int)) cN (T.need (iI mo) (T.need (iI ga) (T.need (iD de) (T.need (iI pax) (T.need (List.length (cI pax) ≤ (1000000 : Nat)) (T.br (M.ptErr (cI mo) denx (cI pax) != (0 : Int)) (T.ret [Ar.c (D.bool true)]) (T.need (iI mo) (T.need (iI ga) (T.need (iD de) (T.need (List.length (cI mo) ≤ (1000000 : Nat)) (T.need (List.length (cI ga) ≤ (1000000 : Nat)) (T.need (List.length (cD de) ≤ (1000000 : Nat)) (T.need (∀ (d : Dem), d ∈ cD de → List.length (Dem.co d) ≤ (1000000 : Nat)) (T.need (iI pax) (T.need (List.length (cI pax) ≤ (1000000 : Nat)) (T.need (iI (cI mo)) (T.need (iI (cI ga)) (T.need (iD (cD de)) (T.need (iI (cI pax)) (T.need (List.length (cI (cI mo)) ≤ (1000000 : Nat)) (T.need (List.length (cI (cI ga)) ≤ (1000000 : Nat)) (T.need (List.length (cD (cD de)) ≤ (1000000 : Nat)) (T.need (∀ (d : Dem), d ∈ cD (cD de) → ByteArray.size (Dem.nm d) ≤ (1000000 : Nat) ∧ List.length (Dem.co d) ≤ (1000000 : Nat)) (T.need (List.length (cI (cI pax)) ≤ (1000000 : Nat)) (T.br (Prod.snd (Prod.snd (xP mo ga de denx pax)) != (0 : Int)) (T.ret [Ar.c (D.bool true)]) (T.br (yR mo ga de denw dew tow != (0 : Int)) (T.br (Prod.snd (Prod.snd (yW mo ga de denw dew tow)) != (0 : Int)) (T.ret [Ar.c (D.bool true)]) (T.ret [Ar.c (D.bool (decide (M.cmp (Prod.fst (xP mo ga de denx pax)) (Prod.fst (Prod.snd (xP mo ga de denx pax))) (Prod.fst (yW mo ga de denw dew tow)) (Prod.fst (Prod.snd (yW mo ga de denw dew tow))) ≤ (0 : Int))))])) cN))))))))))))))))))))))))))) (T.need (iI mo) (T.need (iI ga) (T.need (iD de) (T.need (iI pax) (T.need (List.length (cI pax) ≤ (1000000 : Nat)) (T.br (M.ptErr (cI mo) denx (cI pax) != (0 : Int)) (T.ret [Ar.c (D.bool true)]) (T.need (iI mo) (T.need (iI ga) (T.need (iD de) (T.need (List.length (cI mo) ≤ (1000000 : Nat)) (T.need (List.length (cI ga) ≤ (1000000 : Nat)) (T.need (List.length (cD de) ≤ (1000000 : Nat)) (T.need (∀ (d : Dem), d ∈ cD de → List.length (Dem.co d) ≤ (1000000 : Nat)) (T.need (iI pax) (T.need (List.length (cI pax) ≤ (1000000 : Nat)) (T.need (iI (cI mo)) (T.need (iI (cI ga)) (T.need (iD (cD de)) (T.need (iI (cI pax)) (T.need (List.length (cI (cI mo)) ≤ (1000000 : Nat)) (T.need (List.length (cI (cI ga)) ≤ (1000000 : Nat)) (T.need (List.length (cD (cD de)) ≤ (1000000 : Nat)) (T.need (∀ (d : Dem), d ∈ cD (cD de) → ByteArray.size (Dem.nm d) ≤ (1000000 : Nat) ∧ List.length (Dem.co d) ≤ (1000000 : Nat)) (T.need (List.length (cI (cI pax)) ≤ (1000000 : Nat)) (T.br (Prod.snd (Prod.snd (xP mo ga de denx pax)) != (0 : Int)) (T.ret [Ar.c (D.bool true)]) (T.br (yR mo ga de denw dew tow != (0 : Int)) (T.br (Prod.snd (Prod.snd (yW mo ga de denw dew tow)) != (0 : Int)) (T.ret [Ar.c (D.bool true)]) (T.ret [Ar.c (D.bool (decide (M.cmp (Prod.fst (xP mo ga de denx pax)) (Prod.fst (Prod.snd (xP mo ga de denx pax))) (Prod.fst (yW mo ga de denw dew tow)) (Prod.fst (Prod.snd (yW mo ga de denw dew tow))) ≤ (0 : Int))))])) cN)))))))))))))))))))))))))))))))))))))))))))))))))))))))))))))))))))))))))))))))))))))))))))))))))))))))
theorem t8 (q_mo : Bool) (mo : List Int) (q_ga : Bool) (ga : List Int) (q_de : Bool) (de : List Dem) (denw : Int) (q_dew : Bool) (dew : List Int) (q_tow : Bool) (tow : List Int) (denx : Int) (q_pax : Bool) (pax : List Int) : runFnX Try.prog G0 (lookS [v15, v41, v18, v54, v53, v55, v19, v24, v26, v56, v23, v58, v57, v59]) (fun _ => []) [] 1 150 4 8 Try.f8 [.agg [.sl q_mo mo.length 1 (eI.F mo), .sl q_ga ga.length 1 (eI.F ga), .sl q_de de.length 3 (eDm.F de)], .agg [dI denw, .sl q_dew dew.length 1 (eI.F dew), .sl q_tow tow.length 1 (eI.F tow)], .agg [dI denx, .sl q_pax pax.length 1 (eI.F pax)]] =
    tr8 q_mo mo q_ga ga q_de de denw q_dew dew q_tow tow denx q_pax pax := by kernel_rfl
theorem w8 (qm : Bool) (mo : List Int) (qg : Bool) (ga : List Int) (qd : Bool) (de : List Dem) (denw : Int) (qw : Bool) (wd : List Int) (qt : Bool) (wt : List Int) (denx : Int) (qp : Bool) (pa : List Int) : (tr8 qm mo qg ga qd de denw qw wd qt wt denx qp pa).wp (fun rs => rsEqv rs [rB true]) := by
  unfold tr8
  simp only [xP, yW, yR, yC, cI, cD, iI, iD, cN, Enc.list_F]
  refine wp_br (fun hb => by cases hb) (fun _ => ⟨Enc.is_F _ _ _, Enc.is_F _ _ _, Enc.is_F _ _ _, wp_br (fun _ => rsEqv_refl _) (fun hf => wp_br (fun _ => rsEqv_refl _) (fun hl1 => wp_br (fun _ => rsEqv_refl _) (fun hl2 => wp_br (fun _ => rsEqv_refl _) (fun hl3 => ?_))))⟩)
  have hf : M.few mo ga de = true := by simpa using hf
  have hl1 : ¬ (wd.length : Int) > 10 := of_decide_eq_false hl1
  have hl2 : ¬ (wt.length : Int) > 6 := of_decide_eq_false hl2
  have hl3 : ¬ (pa.length : Int) > 6 := of_decide_eq_false hl3
  obtain ⟨f1, f2, f3, f4⟩ := few_yes hf
  have g1 : mo.length ≤ 1000000 := by omega
  have g2 : ga.length ≤ 1000000 := by omega
  have g3 : de.length ≤ 1000000 := by omega
  have g4 : pa.length ≤ 1000000 := by omega
  have g5 : wd.length ≤ 1000000 := by omega
  have g6 : wt.length ≤ 1000000 := by omega
  have hn : ∀ d, d ∈ de → d.nm.size ≤ 1000000 ∧ d.co.length ≤ 1000000 := few_mem f4
  have hn' : ∀ d, d ∈ de → d.co.length ≤ 1000000 := fun d hd => (hn d hd).2
  rcases law8 mo ga de denw wd wt with ⟨e, he, hC, hR, hE⟩ | ⟨hE, hE2, hC, hR⟩
  · have hb : (e == 0) = false := by simpa using he
    have hb' : (e != 0) = true := bne_iff_ne.2 he
    rw [hC, hR]
    rcases hE with hE | ⟨hE, hE2⟩
    · rw [hE]
      repeat (first | exact rsEqv_refl _ | refine ⟨Enc.is_F _ _ _, ?_⟩ | refine ⟨g1, ?_⟩ | refine ⟨g2, ?_⟩ | refine ⟨g3, ?_⟩ | refine ⟨g4, ?_⟩ | refine ⟨g5, ?_⟩ | refine ⟨g6, ?_⟩ | refine ⟨hn, ?_⟩ | refine ⟨hn', ?_⟩ | refine br_f hb ?_ | refine br_t hb' ?_ | refine br_t (beq_self_eq_true e) ?_ | refine br_t rfl ?_)
    · rw [hE, hE2]
      repeat (first | exact rsEqv_refl _ | refine ⟨Enc.is_F _ _ _, ?_⟩ | refine ⟨g1, ?_⟩ | refine ⟨g2, ?_⟩ | refine ⟨g3, ?_⟩ | refine ⟨g4, ?_⟩ | refine ⟨g5, ?_⟩ | refine ⟨g6, ?_⟩ | refine ⟨hn, ?_⟩ | refine ⟨hn', ?_⟩ | refine br_f hb ?_ | refine br_t hb' ?_ | refine br_t (beq_self_eq_true e) ?_ | refine br_t rfl ?_)
  · have hRP := prog_right hE
    have hz : (M.checkProg mo ga de).2 = 0 := hE
    have hz2 : M.wErr mo de denw wd wt = 0 := hE2
    have hw3 := (wt_right hE2).2.2.1
    rw [hC, hR, hE, hE2]
    cases hrf : M.refu mo de wd wt with
    | true =>
      repeat (first | refine ⟨Enc.is_F _ _ _, ?_⟩ | refine ⟨g1, ?_⟩ | refine ⟨g2, ?_⟩ | refine ⟨g3, ?_⟩ | refine ⟨g4, ?_⟩ | refine ⟨g5, ?_⟩ | refine ⟨g6, ?_⟩ | refine ⟨hn, ?_⟩ | refine ⟨hn', ?_⟩ | refine ⟨rfl, ?_⟩ | refine ⟨trivial, ?_⟩ | refine br_t (beq_self_eq_true (0 : Int)) ?_ | refine br_f (bne_self_eq_false _) ?_ | refine br_f (by simp only [beq_self_eq_true, Bool.and_self, Bool.not_true]) ?_ | refine br_f (show (!((M.unl true 20 == 0) == true)) = false from rfl) ?_ | refine br_f (show (M.unl true 20 != 0) = false from rfl) ?_)
      refine wp_br (fun _ => rsEqv_refl _) (fun hb => ?_)
      have hP : M.ptErr mo denx pa = 0 := by simpa using hb
      have hpr : M.ptRes mo ga de denx pa = M.ckPt mo ga de denx pa := by unfold M.ptRes; rw [openPt_eq, hE, hP]; rfl
      rw [hpr]
      repeat (first | refine ⟨Enc.is_F _ _ _, ?_⟩ | refine ⟨g1, ?_⟩ | refine ⟨g2, ?_⟩ | refine ⟨g3, ?_⟩ | refine ⟨g4, ?_⟩ | refine ⟨g5, ?_⟩ | refine ⟨g6, ?_⟩ | refine ⟨hn, ?_⟩ | refine ⟨hn', ?_⟩)
      refine wp_br (fun _ => rsEqv_refl _) (fun hb => ?_)
      have hk : (M.ckPt mo ga de denx pa).2.2 = 0 := by simpa using hb
      have hA := (allowed_iff hRP hP).1 (ckPt_ok hk).1
      have := not_refuted hRP hP hE2 hA
      rw [hrf] at this; cases this
    | false =>
      repeat (first | refine ⟨Enc.is_F _ _ _, ?_⟩ | refine ⟨g1, ?_⟩ | refine ⟨g2, ?_⟩ | refine ⟨g3, ?_⟩ | refine ⟨g4, ?_⟩ | refine ⟨g5, ?_⟩ | refine ⟨g6, ?_⟩ | refine ⟨hn, ?_⟩ | refine ⟨hn', ?_⟩ | refine ⟨rfl, ?_⟩ | refine ⟨trivial, ?_⟩ | refine br_t (beq_self_eq_true (0 : Int)) ?_ | refine br_f (bne_self_eq_false _) ?_ | refine br_f (by simp only [beq_self_eq_true, Bool.and_self, Bool.not_true]) ?_ | refine br_f (show (!((M.unl false 20 == 0) == false)) = false from rfl) ?_ | refine br_t (show (M.unl false 20 != 0) = true from rfl) ?_ | refine br_f (show (M.unl false 20 != 20) = false from rfl) ?_)
      refine wp_br (fun _ => rsEqv_refl _) (fun hb => ?_)
      have hP : M.ptErr mo denx pa = 0 := by simpa using hb
      have hpr : M.ptRes mo ga de denx pa = M.ckPt mo ga de denx pa := by unfold M.ptRes; rw [openPt_eq, hE, hP]; rfl
      rw [hpr]
      repeat (first | refine ⟨Enc.is_F _ _ _, ?_⟩ | refine ⟨g1, ?_⟩ | refine ⟨g2, ?_⟩ | refine ⟨g3, ?_⟩ | refine ⟨g4, ?_⟩ | refine ⟨g5, ?_⟩ | refine ⟨g6, ?_⟩ | refine ⟨hn, ?_⟩ | refine ⟨hn', ?_⟩)
      refine wp_br (fun _ => rsEqv_refl _) (fun hb => ?_)
      have hk : (M.ckPt mo ga de denx pa).2.2 = 0 := by simpa using hb
      obtain ⟨k1, k2, k3⟩ := ckPt_ok hk
      have hA := (allowed_iff hRP hP).1 k1
      refine br_t (show (M.unl false 20 != 0) = true from rfl) ?_
      refine wp_br (fun _ => rsEqv_refl _) (fun hb => ?_)
      have hw : (M.ckW mo ga de denw wd wt).2.2 = 0 := by simpa using hb
      obtain ⟨c1, c2, c3⟩ := ckW_ok hw
      rw [k3, c3]
      have hx := (pt_right hP).2.1
      exact rB_eqv (decide_eq_true (cmp_le (by omega) (by omega) (gain_le hRP hP hE2 hA c1) k2 c2))
def dom8 : DomF
  | [.agg [.sl _ n_mo st_mo F_mo, .sl _ n_ga st_ga F_ga, .sl _ n_de st_de F_de], .agg [.int .i64 denw, .sl _ n_dew st_dew F_dew, .sl _ n_tow st_tow F_tow], .agg [.int .i64 denx, .sl _ n_pax st_pax F_pax]] => (match Nat.beq st_mo 1 && Nat.beq st_ga 1 && Nat.beq st_de 3 && Nat.beq st_dew 1 && Nat.beq st_tow 1 && Nat.beq st_pax 1 with
    | true => some ([eI.Is n_mo F_mo, eI.Is n_ga F_ga, eDm.Is n_de F_de, eI.Is n_dew F_dew, eI.Is n_tow F_tow, eI.Is n_pax F_pax], [rB true])
    | _ => none)
  | _ => none
theorem C8 : FOK Try.prog G0 gw 8 dom8 := by
  intro ags p r hd hp κ w xs hw hl hG hx
  unfold dom8 at hd
  split at hd
  · rename_i q_mo n_mo st_mo F_mo q_ga n_ga st_ga F_ga q_de n_de st_de F_de denw q_dew n_dew st_dew F_dew q_tow n_tow st_tow F_tow denx q_pax n_pax st_pax F_pax
    split at hd
    · rename_i hst
      simp only [Bool.and_eq_true] at hst
      obtain ⟨⟨⟨⟨⟨g1, g2⟩, g3⟩, g4⟩, g5⟩, g6⟩ := hst
      have g1 := Nat.eq_of_beq_eq_true g1
      have g2 := Nat.eq_of_beq_eq_true g2
      have g3 := Nat.eq_of_beq_eq_true g3
      have g4 := Nat.eq_of_beq_eq_true g4
      have g5 := Nat.eq_of_beq_eq_true g5
      have g6 := Nat.eq_of_beq_eq_true g6
      subst g1 g2 g3 g4 g5 g6
      simp only [Option.some.injEq, Prod.mk.injEq] at hd
      obtain ⟨rfl, rfl⟩ := hd
      obtain ⟨hI_mo, hI_ga, hI_de, hI_dew, hI_tow, hI_pax, hp⟩ := hp
      have heq : agsEqv [.agg [.sl q_mo n_mo 1 F_mo, .sl q_ga n_ga 1 F_ga, .sl q_de n_de 3 F_de], .agg [.int .i64 denw, .sl q_dew n_dew 1 F_dew, .sl q_tow n_tow 1 F_tow], .agg [.int .i64 denx, .sl q_pax n_pax 1 F_pax]] [.agg [.sl q_mo (eI.list n_mo F_mo).length 1 (eI.F (eI.list n_mo F_mo)), .sl q_ga (eI.list n_ga F_ga).length 1 (eI.F (eI.list n_ga F_ga)), .sl q_de (eDm.list n_de F_de).length 3 (eDm.F (eDm.list n_de F_de))], .agg [.int .i64 denw, .sl q_dew (eI.list n_dew F_dew).length 1 (eI.F (eI.list n_dew F_dew)), .sl q_tow (eI.list n_tow F_tow).length 1 (eI.F (eI.list n_tow F_tow))], .agg [.int .i64 denx, .sl q_pax (eI.list n_pax F_pax).length 1 (eI.F (eI.list n_pax F_pax))]] := ⟨⟨eI.to id hI_mo, eI.to id hI_ga, eDm.to id hI_de, trivial⟩, ⟨rfl, eI.to id hI_dew, eI.to id hI_tow, trivial⟩, ⟨rfl, eI.to id hI_pax, trivial⟩, trivial⟩
      have len_mo : (eI.list n_mo F_mo).length = n_mo := eI.list_len
      have len_ga : (eI.list n_ga F_ga).length = n_ga := eI.list_len
      have len_de : (eDm.list n_de F_de).length = n_de := eDm.list_len
      have len_dew : (eI.list n_dew F_dew).length = n_dew := eI.list_len
      have len_tow : (eI.list n_tow F_tow).length = n_tow := eI.list_len
      have len_pax : (eI.list n_pax F_pax).length = n_pax := eI.list_len
      generalize eI.list n_mo F_mo = mo at *
      generalize eI.list n_ga F_ga = ga at *
      generalize eDm.list n_de F_de = de at *
      generalize eI.list n_dew F_dew = dew at *
      generalize eI.list n_tow F_tow = tow at *
      generalize eI.list n_pax F_pax = pax at *
      subst len_mo len_ga len_de len_dew len_tow len_pax
      exact fokX_fin mixed gw_stable (sl := [v15, v41, v18, v54, v53, v55, v19, v24, v26, v56, v23, v58, v57, v59]) ⟨S15, S41, S18, S54, S53, S55, S19, S24, S26, S56, S23, S58, S57, S59, trivial⟩ Try.func8 hw hl hG hx heq rfl (t8 _ _ _ _ _ _ _ _ _ _ _ _ _ _) (w8 _ _ _ _ _ _ _ _ _ _ _ _ _ _)
    · cases hd
  · cases hd
end Go.Pl
end
