/- The parts of the engines, of their contracts and of the plain laws that the claim rests on: B62, B63, R0, RG. -/
import Derived.Test.YtaigoebipeplpaaFA5
import Derived.ChangeSame
import Derived.ChangeVars
import Derived.ProofKit
import Derived.LaidMore
import Derived.OpenShut
import Derived.Carry
import Derived.ChangeArms
set_option linter.unusedVariables false
set_option linter.unusedSimpArgs false
section
set_option linter.unusedVariables false
set_option linter.unusedSimpArgs false
set_option maxRecDepth 100000
namespace Go.Bl
open Go.V Go.Proofs
theorem pow_cast (k : Nat) : (2 : Int) ^ k = ((2 ^ k : Nat) : Int) := by
  induction k with
  | zero => rfl
  | succ k ih => rw [Int.pow_succ, ih, Nat.pow_succ]; omega
theorem shl_len {n : Nat} (h : n ≤ 10) : IntKind.wrap IntKind.i64 ((1 : Int) * (2 : Int) ^ min (Int.toNat (n : Int)) 64) = ((2 ^ n : Nat) : Int) := by
  have := two_pow_le h
  rw [Int.toNat_natCast, Nat.min_eq_left (by omega), Int.one_mul, pow_cast]
  generalize 2 ^ n = p at *
  exact wrap_id (by omega) (by omega)
theorem bit_and {c k : Nat} (hc : c < 2000) (hk : k ≤ 10) : IntKind.wrap IntKind.i64 (Nat.cast (R := Int) (BitVec.toNat (BitVec.ofInt (64 : Nat) (Int.fdiv (c : Int) ((2 : Int) ^ min (Int.toNat (k : Int)) (64 : Nat))) &&& BitVec.ofInt (64 : Nat) (1 : Int)))) = ((c / 2 ^ k % 2 : Nat) : Int) := by
  have h1 : c / 2 ^ k ≤ c := Nat.div_le_self _ _
  rw [Int.toNat_natCast, Nat.min_eq_left (by omega), pow_cast, ← Int.ofNat_fdiv]
  generalize c / 2 ^ k = a at *
  have e3 : BitVec.ofInt 64 ((a : Nat) : Int) = BitVec.ofNat 64 a := BitVec.ofInt_natCast 64 a
  have e4 : BitVec.ofInt 64 (1 : Int) = BitVec.ofNat 64 1 := rfl
  rw [e3, e4, BitVec.toNat_and, BitVec.toNat_ofNat, BitVec.toNat_ofNat, Nat.mod_eq_of_lt (show a < 2 ^ 64 by omega), show 1 % 2 ^ 64 = 1 from rfl, Nat.and_one_is_mod]
  exact wrap_id (by omega) (by omega)
theorem bit_isA {c k : Nat} (hc : c < 2000) (hk : k ≤ 10) (h : (IntKind.wrap IntKind.i64 (Nat.cast (R := Int) (BitVec.toNat (BitVec.ofInt (64 : Nat) (Int.fdiv (c : Int) ((2 : Int) ^ min (Int.toNat (k : Int)) (64 : Nat))) &&& BitVec.ofInt (64 : Nat) (1 : Int)))) == (1 : Int)) = true) : c / 2 ^ k % 2 = 1 := by
  rw [bit_and hc hk] at h
  have : ((c / 2 ^ k % 2 : Nat) : Int) = 1 := by simpa using h
  omega
theorem bit_notA {c k : Nat} (hc : c < 2000) (hk : k ≤ 10) (h : (IntKind.wrap IntKind.i64 (Nat.cast (R := Int) (BitVec.toNat (BitVec.ofInt (64 : Nat) (Int.fdiv (c : Int) ((2 : Int) ^ min (Int.toNat (k : Int)) (64 : Nat))) &&& BitVec.ofInt (64 : Nat) (1 : Int)))) == (1 : Int)) = false) : ¬ c / 2 ^ k % 2 = 1 := by
  rw [bit_and hc hk] at h
  have : ¬ ((c / 2 ^ k % 2 : Nat) : Int) = 1 := by simpa using h
  omega
theorem list_nil (F : Nat → Nat → D) : eI.list 0 F = [] := rfl
theorem is_nil (F : Nat → Nat → D) : eI.Is 0 F := fun i j hi => absurd hi (Nat.not_lt_zero i)
theorem wholeR_bad {l : List Cask} {s : Sample} {ps : List Int} (h : (M.meets l (M.wholeP l ps) s != 0) = true) : ((M.wholeR l s ps).2 != 0) = true := by
  unfold M.wholeR; rw [h]; exact h
theorem wholeR_ok {l : List Cask} {s : Sample} {ps : List Int} (h : (M.meets l (M.wholeP l ps) s != 0) = false) : ((M.wholeR l s ps).2 != 0) = false ∧ (M.wholeR l s ps).1 = M.sumP Cask.cost l (M.wholeP l ps) := by
  unfold M.wholeR; rw [h]; exact ⟨rfl, rfl⟩
theorem none_meets {l : List Cask} {s : Sample} (h : RightT l) (hs : M.checkSample s = 0) : (M.meets l (M.wholeP l []) s != 0) = true := by
  have := none_bad h hs
  cases e : M.meets l (M.wholeP l []) s != 0
  · rw [(wholeR_ok e).1] at this; cases this
  · rfl
theorem len_diff {a b : Nat} (ha : a ≤ 10) (hb : b ≤ 10) : IntKind.wrap IntKind.i64 ((a : Int) - (b : Int)) = (a : Int) - b := wrap_id (by omega) (by omega)
def tr30 (l : List Cask) (s : Sample) : T (List Ar) :=
    T.need (Enc.Is eC (List.length l) (Enc.F eC l)) (T.need (∀ (c : Cask), c ∈ Enc.list eC (List.length l) (Enc.F eC l) → ByteArray.size (Cask.nm c) ≤ (1000000 : Nat)) (T.br (M.first [Prod.snd (M.checkCasks (Enc.list eC (List.length l) (Enc.F eC l))), M.checkSample s] != (0 : Int)) (T.ret [Ar.c (D.sl false (0 : Nat) (0 : Nat) fun (x x_1 : Nat) => D.nilp), Ar.c (D.int IntKind.i64 (0 : Int)), Ar.c (D.int IntKind.i64 (M.first [Prod.snd (M.checkCasks (Enc.list eC (List.length l) (Enc.F eC l))), M.checkSample s]))]) (T.need ((0 : Int) ≤ (Nat.cast (R := Int) (List.length l))) (T.loop2 (Int × PUnit × Int × PUnit) (Int × List Int × Int × PUnit) (Sum.inl ((0 : Int), PUnit.unit, (0 : Int), PUnit.unit)) (fun (x : Int × PUnit × Int × PUnit) => T.br (decide (Prod.fst x < IntKind.wrap IntKind.i64 ((1 : Int) * (2 : Int) ^ min (Int.toNat (Nat.cast (R := Int) (List.length l))) (64 : Nat)))) (T.loop2 (Int × PUnit × PUnit) (Int × List Int × PUnit) (Sum.inl ((0 : Int), PUnit.unit, PUnit.unit)) (fun (x_1 : Int × PUnit × PUnit) => T.br (decide (Prod.fst x_1 < (Nat.cast (R := Int) (List.length l)))) (T.need ((0 : Int) ≤ Prod.fst x_1) (T.br (IntKind.wrap IntKind.i64 (Nat.cast (R := Int) (BitVec.toNat (BitVec.ofInt (64 : Nat) (Int.fdiv (Prod.fst x) ((2 : Int) ^ min (Int.toNat (Prod.fst x_1)) (64 : Nat))) &&& BitVec.ofInt (64 : Nat) (1 : Int)))) == (1 : Int)) (T.need ((1 : Nat) ≤ (1000000 : Nat)) (T.need (Enc.Is eI (1 : Nat) (joinF (0 : Nat) (fun (x x_2 : Nat) => D.nilp) (oneF (Prod.fst x_1)))) (T.need ((1 : Nat) ≤ (1 : Nat)) (T.ret (Sum.inl (Sum.inr (IntKind.wrap IntKind.i64 (Prod.fst x_1 + (1 : Int)), Enc.list eI (1 : Nat) (joinF (0 : Nat) (fun (x x_2 : Nat) => D.nilp) (oneF (Prod.fst x_1))), PUnit.unit))))))) (T.ret (Sum.inl (Sum.inl (IntKind.wrap IntKind.i64 (Prod.fst x_1 + (1 : Int)), PUnit.unit, PUnit.unit)))))) (T.need (Enc.Is eC (List.length l) (Enc.F eC l)) (T.need (Enc.Is eI (0 : Nat) fun (x x_2 : Nat) => D.nilp) (T.need (List.length (Enc.list eC (List.length l) (Enc.F eC l)) ≤ (1000000 : Nat)) (T.need ((0 : Nat) ≤ (1000000 : Nat)) (T.need (∀ (i : Nat), i < List.length (Enc.list eI (0 : Nat) fun (x x_2 : Nat) => D.nilp) → (0 : Int) ≤ List.getD (Enc.list eI (0 : Nat) fun (x x_2 : Nat) => D.nilp) i (0 : Int) ∧ List.getD (Enc.list eI (0 : Nat) fun (x x_2 : Nat) => D.nilp) i (0 : Int) < (Nat.cast (R := Int) (List.length (Enc.list eC (List.length l) (Enc.F eC l))))) (T.need (Enc.Is eC (List.length l) (Enc.F eC (Enc.list eC (List.length l) (Enc.F eC l)))) (T.need (Enc.Is eI (List.length l) (Enc.F eI (M.wholeP (Enc.list eC (List.length l) (Enc.F eC l)) (Enc.list eI (0 : Nat) fun (x x_2 : Nat) => D.nilp)))) (T.need (List.length (Enc.list eI (List.length l) (Enc.F eI (M.wholeP (Enc.list eC (List.length l) (Enc.F eC l)) (Enc.list eI (0 : Nat) fun (x x_2 : Nat) => D.nilp)))) ≤ List.length (Enc.list eC (List.length l) (Enc.F eC (Enc.list eC (List.length l) (Enc.F eC l))))) (T.need (List.length (Enc.list eI (List.length l) (Enc.F eI (M.wholeP (Enc.list eC (List.length l) (Enc.F eC l)) (Enc.list eI (0 : Nat) fun (x x_2 : Nat) => D.nilp)))) ≤ (1000 : Nat)) (T.br (M.meets (Enc.list eC (List.length l) (Enc.F eC (Enc.list eC (List.length l) (Enc.F eC l)))) (Enc.list eI (List.length l) (Enc.F eI (M.wholeP (Enc.list eC (List.length l) (Enc.F eC l)) (Enc.list eI (0 : Nat) fun (x x_2 : Nat) => D.nilp)))) s != (0 : Int)) (T.ret (Sum.inr (Sum.inl (Sum.inl (IntKind.wrap IntKind.i64 (Prod.fst x + (1 : Int)), PUnit.unit, Prod.fst (Prod.snd (Prod.snd x)), PUnit.unit))))) (T.need (Enc.Is eC (List.length l) (Enc.F eC (Enc.list eC (List.length l) (Enc.F eC l)))) (T.need (Enc.Is eI (List.length l) (Enc.F eI (M.wholeP (Enc.list eC (List.length l) (Enc.F eC l)) (Enc.list eI (0 : Nat) fun (x x_2 : Nat) => D.nilp)))) (T.need (List.length l ≤ List.length l) (T.need (List.length l ≤ (1000 : Nat)) (T.need ((1 : Int) ≠ (0 : Int)) (T.need ((1 : Nat) < (9223372036854775808 : Nat)) (T.need (Int.natAbs (M.sumP Cask.cost (Enc.list eC (List.length l) (Enc.F eC (Enc.list eC (List.length l) (Enc.F eC l)))) (Enc.list eI (List.length l) (Enc.F eI (M.wholeP (Enc.list eC (List.length l) (Enc.F eC l)) (Enc.list eI (0 : Nat) fun (x x_2 : Nat) => D.nilp))))) < (9223372036854775808 : Nat)) (T.ret (Sum.inr (Sum.inl (Sum.inl (IntKind.wrap IntKind.i64 (Prod.fst x + (1 : Int)), PUnit.unit, M.told1 (M.sumP Cask.cost (Enc.list eC (List.length l) (Enc.F eC (Enc.list eC (List.length l) (Enc.F eC l)))) (Enc.list eI (List.length l) (Enc.F eI (M.wholeP (Enc.list eC (List.length l) (Enc.F eC l)) (Enc.list eI (0 : Nat) fun (x x_2 : Nat) => D.nilp))))) (1 : Int), PUnit.unit))))))))))))))))))))))) fun (y : Int × List Int × PUnit) => T.br (decide (Prod.fst y < (Nat.cast (R := Int) (List.length l)))) (T.need ((0 : Int) ≤ Prod.fst y) (T.br (IntKind.wrap IntKind.i64 (Nat.cast (R := Int) (BitVec.toNat (BitVec.ofInt (64 : Nat) (Int.fdiv (Prod.fst x) ((2 : Int) ^ min (Int.toNat (Prod.fst y)) (64 : Nat))) &&& BitVec.ofInt (64 : Nat) (1 : Int)))) == (1 : Int)) (T.need (List.length (Prod.fst (Prod.snd y)) + (1 : Nat) ≤ (1000000 : Nat)) (T.need (List.length (Prod.fst (Prod.snd y)) ≤ List.length (Prod.fst (Prod.snd y))) (T.need (Enc.Is eI (List.length (Prod.fst (Prod.snd y)) + (1 : Nat)) (joinF (List.length (Prod.fst (Prod.snd y))) (Enc.F eI (Prod.fst (Prod.snd y))) (oneF (Prod.fst y)))) (T.need (List.length (Prod.fst (Prod.snd y)) + (1 : Nat) ≤ List.length (Prod.fst (Prod.snd y)) + (1 : Nat)) (T.ret (Sum.inl (Sum.inr (IntKind.wrap IntKind.i64 (Prod.fst y + (1 : Int)), Enc.list eI (List.length (Prod.fst (Prod.snd y)) + (1 : Nat)) (joinF (List.length (Prod.fst (Prod.snd y))) (Enc.F eI (Prod.fst (Prod.snd y))) (oneF (Prod.fst y))), PUnit.unit)))))))) (T.need (Enc.Is eI (List.length (Prod.fst (Prod.snd y))) (Enc.F eI (Prod.fst (Prod.snd y)))) (T.need (List.length (Prod.fst (Prod.snd y)) ≤ List.length (Prod.fst (Prod.snd y))) (T.ret (Sum.inl (Sum.inr (IntKind.wrap IntKind.i64 (Prod.fst y + (1 : Int)), Enc.list eI (List.length (Prod.fst (Prod.snd y))) (Enc.F eI (Prod.fst (Prod.snd y))), PUnit.unit)))))))) (T.need (List.length (Prod.fst (Prod.snd y)) ≤ List.length (Prod.fst (Prod.snd y))) (T.need (Enc.Is eC (List.length l) (Enc.F eC l)) (T.need (Enc.Is eI (List.length (Prod.fst (Prod.snd y))) (Enc.F eI (Prod.fst (Prod.snd y)))) (T.need (List.length (Enc.list eC (List.length l) (Enc.F eC l)) ≤ (1000000 : Nat)) (T.need (List.length (Enc.list eI (List.length (Prod.fst (Prod.snd y))) (Enc.F eI (Prod.fst (Prod.snd y)))) ≤ (1000000 : Nat)) (T.need (∀ (i : Nat), i < List.length (Enc.list eI (List.length (Prod.fst (Prod.snd y))) (Enc.F eI (Prod.fst (Prod.snd y)))) → (0 : Int) ≤ List.getD (Enc.list eI (List.length (Prod.fst (Prod.snd y))) (Enc.F eI (Prod.fst (Prod.snd y)))) i (0 : Int) ∧ List.getD (Enc.list eI (List.length (Prod.fst (Prod.snd y))) (Enc.F eI (Prod.fst (Prod.snd y)))) i (0 : Int) < (Nat.cast (R := Int) (List.length (Enc.list eC (List.length l) (Enc.F eC l))))) (T.need (Enc.Is eC (List.length l) (Enc.F eC (Enc.list eC (List.length l) (Enc.F eC l)))) (T.need (Enc.Is eI (List.length l) (Enc.F eI (M.wholeP (Enc.list eC (List.length l) (Enc.F eC l)) (Enc.list eI (List.length (Prod.fst (Prod.snd y))) (Enc.F eI (Prod.fst (Prod.snd y))))))) (T.need (List.length (Enc.list eI (List.length l) (Enc.F eI (M.wholeP (Enc.list eC (List.length l) (Enc.F eC l)) (Enc.list eI (List.length (Prod.fst (Prod.snd y))) (Enc.F eI (Prod.fst (Prod.snd y))))))) ≤ List.length (Enc.list eC (List.length l) (Enc.F eC (Enc.list eC (List.length l) (Enc.F eC l))))) (T.need (List.length (Enc.list eI (List.length l) (Enc.F eI (M.wholeP (Enc.list eC (List.length l) (Enc.F eC l)) (Enc.list eI (List.length (Prod.fst (Prod.snd y))) (Enc.F eI (Prod.fst (Prod.snd y))))))) ≤ (1000 : Nat)) (T.br (M.meets (Enc.list eC (List.length l) (Enc.F eC (Enc.list eC (List.length l) (Enc.F eC l)))) (Enc.list eI (List.length l) (Enc.F eI (M.wholeP (Enc.list eC (List.length l) (Enc.F eC l)) (Enc.list eI (List.length (Prod.fst (Prod.snd y))) (Enc.F eI (Prod.fst (Prod.snd y))))))) s != (0 : Int)) (T.ret (Sum.inr (Sum.inl (Sum.inl (IntKind.wrap IntKind.i64 (Prod.fst x + (1 : Int)), PUnit.unit, Prod.fst (Prod.snd (Prod.snd x)), PUnit.unit))))) (T.need (Enc.Is eC (List.length l) (Enc.F eC (Enc.list eC (List.length l) (Enc.F eC l)))) (T.need (Enc.Is eI (List.length l) (Enc.F eI (M.wholeP (Enc.list eC (List.length l) (Enc.F eC l)) (Enc.list eI (List.length (Prod.fst (Prod.snd y))) (Enc.F eI (Prod.fst (Prod.snd y))))))) (T.need (List.length l ≤ List.length l) (T.need (List.length l ≤ (1000 : Nat)) (T.need ((1 : Int) ≠ (0 : Int)) (T.need ((1 : Nat) < (9223372036854775808 : Nat)) (T.need (Int.natAbs (M.sumP Cask.cost (Enc.list eC (List.length l) (Enc.F eC (Enc.list eC (List.length l) (Enc.F eC l)))) (Enc.list eI (List.length l) (Enc.F eI (M.wholeP (Enc.list eC (List.length l) (Enc.F eC l)) (Enc.list eI (List.length (Prod.fst (Prod.snd y))) (Enc.F eI (Prod.fst (Prod.snd y)))))))) < (9223372036854775808 : Nat)) (T.need (Enc.Is eI (List.length (Prod.fst (Prod.snd y))) (Enc.F eI (Prod.fst (Prod.snd y)))) (T.need (List.length (Prod.fst (Prod.snd y)) ≤ List.length (Prod.fst (Prod.snd y))) (T.ret (Sum.inr (Sum.inl (Sum.inr (IntKind.wrap IntKind.i64 (Prod.fst x + (1 : Int)), Enc.list eI (List.length (Prod.fst (Prod.snd y))) (Enc.F eI (Prod.fst (Prod.snd y))), M.told1 (M.sumP Cask.cost (Enc.list eC (List.length l) (Enc.F eC (Enc.list eC (List.length l) (Enc.F eC l)))) (Enc.list eI (List.length l) (Enc.F eI (M.wholeP (Enc.list eC (List.length l) (Enc.F eC l)) (Enc.list eI (List.length (Prod.fst (Prod.snd y))) (Enc.F eI (Prod.fst (Prod.snd y)))))))) (1 : Int), PUnit.unit)))))))))))))))))))))))))) (T.ret (Sum.inr [Ar.c (D.sl false (0 : Nat) (0 : Nat) fun (x x_1 : Nat) => D.nilp), Ar.c (D.int IntKind.i64 (0 : Int)), Ar.c (D.int IntKind.i64 (12 : Int))]))) fun (y : Int × List Int × Int × PUnit) => T.br (decide (Prod.fst y < IntKind.wrap IntKind.i64 ((1 : Int) * (2 : Int) ^ min (Int.toNat (Nat.cast (R := Int) (List.length l))) (64 : Nat)))) (T.loop2 (Int × PUnit × PUnit) (Int × List Int × PUnit) (Sum.inl ((0 : Int), PUnit.unit, PUnit.unit)) (fun (x : Int × PUnit × PUnit) => T.br (decide (Prod.fst x < (Nat.cast (R := Int) (List.length l)))) (T.need ((0 : Int) ≤ Prod.fst x) (T.br (IntKind.wrap IntKind.i64 (Nat.cast (R := Int) (BitVec.toNat (BitVec.ofInt (64 : Nat) (Int.fdiv (Prod.fst y) ((2 : Int) ^ min (Int.toNat (Prod.fst x)) (64 : Nat))) &&& BitVec.ofInt (64 : Nat) (1 : Int)))) == (1 : Int)) (T.need ((1 : Nat) ≤ (1000000 : Nat)) (T.need (Enc.Is eI (1 : Nat) (joinF (0 : Nat) (fun (x x_1 : Nat) => D.nilp) (oneF (Prod.fst x)))) (T.need ((1 : Nat) ≤ (1 : Nat)) (T.ret (Sum.inl (Sum.inr (IntKind.wrap IntKind.i64 (Prod.fst x + (1 : Int)), Enc.list eI (1 : Nat) (joinF (0 : Nat) (fun (x x_1 : Nat) => D.nilp) (oneF (Prod.fst x))), PUnit.unit))))))) (T.ret (Sum.inl (Sum.inl (IntKind.wrap IntKind.i64 (Prod.fst x + (1 : Int)), PUnit.unit, PUnit.unit)))))) (T.need (Enc.Is eC (List.length l) (Enc.F eC l)) (T.need (Enc.Is eI (0 : Nat) fun (x x_1 : Nat) => D.nilp) (T.need (List.length (Enc.list eC (List.length l) (Enc.F eC l)) ≤ (1000000 : Nat)) (T.need ((0 : Nat) ≤ (1000000 : Nat)) (T.need (∀ (i : Nat), i < List.length (Enc.list eI (0 : Nat) fun (x x_1 : Nat) => D.nilp) → (0 : Int) ≤ List.getD (Enc.list eI (0 : Nat) fun (x x_1 : Nat) => D.nilp) i (0 : Int) ∧ List.getD (Enc.list eI (0 : Nat) fun (x x_1 : Nat) => D.nilp) i (0 : Int) < (Nat.cast (R := Int) (List.length (Enc.list eC (List.length l) (Enc.F eC l))))) (T.need (Enc.Is eC (List.length l) (Enc.F eC (Enc.list eC (List.length l) (Enc.F eC l)))) (T.need (Enc.Is eI (List.length l) (Enc.F eI (M.wholeP (Enc.list eC (List.length l) (Enc.F eC l)) (Enc.list eI (0 : Nat) fun (x x_1 : Nat) => D.nilp)))) (T.need (List.length (Enc.list eI (List.length l) (Enc.F eI (M.wholeP (Enc.list eC (List.length l) (Enc.F eC l)) (Enc.list eI (0 : Nat) fun (x x_1 : Nat) => D.nilp)))) ≤ List.length (Enc.list eC (List.length l) (Enc.F eC (Enc.list eC (List.length l) (Enc.F eC l))))) (T.need (List.length (Enc.list eI (List.length l) (Enc.F eI (M.wholeP (Enc.list eC (List.length l) (Enc.F eC l)) (Enc.list eI (0 : Nat) fun (x x_1 : Nat) => D.nilp)))) ≤ (1000 : Nat)) (T.br (M.meets (Enc.list eC (List.length l) (Enc.F eC (Enc.list eC (List.length l) (Enc.F eC l)))) (Enc.list eI (List.length l) (Enc.F eI (M.wholeP (Enc.list eC (List.length l) (Enc.F eC l)) (Enc.list eI (0 : Nat) fun (x x_1 : Nat) => D.nilp)))) s != (0 : Int)) (T.need (Enc.Is eI (List.length (Prod.fst (Prod.snd y))) (Enc.F eI (Prod.fst (Prod.snd y)))) (T.ret (Sum.inr (Sum.inl (Sum.inr (IntKind.wrap IntKind.i64 (Prod.fst y + (1 : Int)), Enc.list eI (List.length (Prod.fst (Prod.snd y))) (Enc.F eI (Prod.fst (Prod.snd y))), Prod.fst (Prod.snd (Prod.snd y)), PUnit.unit)))))) (T.need (Enc.Is eC (List.length l) (Enc.F eC (Enc.list eC (List.length l) (Enc.F eC l)))) (T.need (Enc.Is eI (List.length l) (Enc.F eI (M.wholeP (Enc.list eC (List.length l) (Enc.F eC l)) (Enc.list eI (0 : Nat) fun (x x_1 : Nat) => D.nilp)))) (T.need (List.length l ≤ List.length l) (T.need (List.length l ≤ (1000 : Nat)) (T.need ((1 : Int) ≠ (0 : Int)) (T.need ((1 : Nat) < (9223372036854775808 : Nat)) (T.need (Int.natAbs (M.sumP Cask.cost (Enc.list eC (List.length l) (Enc.F eC (Enc.list eC (List.length l) (Enc.F eC l)))) (Enc.list eI (List.length l) (Enc.F eI (M.wholeP (Enc.list eC (List.length l) (Enc.F eC l)) (Enc.list eI (0 : Nat) fun (x x_1 : Nat) => D.nilp))))) < (9223372036854775808 : Nat)) (T.br (decide (M.told1 (M.sumP Cask.cost (Enc.list eC (List.length l) (Enc.F eC (Enc.list eC (List.length l) (Enc.F eC l)))) (Enc.list eI (List.length l) (Enc.F eI (M.wholeP (Enc.list eC (List.length l) (Enc.F eC l)) (Enc.list eI (0 : Nat) fun (x x_1 : Nat) => D.nilp))))) (1 : Int) < Prod.fst (Prod.snd (Prod.snd y)))) (T.br (decide (M.told1 (M.sumP Cask.cost (Enc.list eC (List.length l) (Enc.F eC (Enc.list eC (List.length l) (Enc.F eC l)))) (Enc.list eI (List.length l) (Enc.F eI (M.wholeP (Enc.list eC (List.length l) (Enc.F eC l)) (Enc.list eI (0 : Nat) fun (x x_1 : Nat) => D.nilp))))) (1 : Int) < Prod.fst (Prod.snd (Prod.snd y)))) (T.ret (Sum.inr (Sum.inl (Sum.inl (IntKind.wrap IntKind.i64 (Prod.fst y + (1 : Int)), PUnit.unit, M.told1 (M.sumP Cask.cost (Enc.list eC (List.length l) (Enc.F eC (Enc.list eC (List.length l) (Enc.F eC l)))) (Enc.list eI (List.length l) (Enc.F eI (M.wholeP (Enc.list eC (List.length l) (Enc.F eC l)) (Enc.list eI (0 : Nat) fun (x x_1 : Nat) => D.nilp))))) (1 : Int), PUnit.unit))))) (T.need (Enc.Is eI (List.length (Prod.fst (Prod.snd y))) (Enc.F eI (Prod.fst (Prod.snd y)))) (T.ret (Sum.inr (Sum.inl (Sum.inr (IntKind.wrap IntKind.i64 (Prod.fst y + (1 : Int)), Enc.list eI (List.length (Prod.fst (Prod.snd y))) (Enc.F eI (Prod.fst (Prod.snd y))), Prod.fst (Prod.snd (Prod.snd y)), PUnit.unit))))))) (T.br (M.told1 (M.sumP Cask.cost (Enc.list eC (List.length l) (Enc.F eC (Enc.list eC (List.length l) (Enc.F eC l)))) (Enc.list eI (List.length l) (Enc.F eI (M.wholeP (Enc.list eC (List.length l) (Enc.F eC l)) (Enc.list eI (0 : Nat) fun (x x_1 : Nat) => D.nilp))))) (1 : Int) == Prod.fst (Prod.snd (Prod.snd y))) (T.br (decide (IntKind.wrap IntKind.i64 ((0 : Int) - (Nat.cast (R := Int) (List.length (Prod.fst (Prod.snd y))))) < (0 : Int))) (T.ret (Sum.inr (Sum.inl (Sum.inl (IntKind.wrap IntKind.i64 (Prod.fst y + (1 : Int)), PUnit.unit, M.told1 (M.sumP Cask.cost (Enc.list eC (List.length l) (Enc.F eC (Enc.list eC (List.length l) (Enc.F eC l)))) (Enc.list eI (List.length l) (Enc.F eI (M.wholeP (Enc.list eC (List.length l) (Enc.F eC l)) (Enc.list eI (0 : Nat) fun (x x_1 : Nat) => D.nilp))))) (1 : Int), PUnit.unit))))) (T.br (IntKind.wrap IntKind.i64 ((0 : Int) - (Nat.cast (R := Int) (List.length (Prod.fst (Prod.snd y))))) == (0 : Int)) (T.need (Enc.Is eI (0 : Nat) fun (x x_1 : Nat) => D.nilp) (T.need (Enc.Is eI (List.length (Prod.fst (Prod.snd y))) (Enc.F eI (Prod.fst (Prod.snd y)))) (T.need ((0 : Nat) ≤ (1000000 : Nat)) (T.need (List.length (Enc.list eI (List.length (Prod.fst (Prod.snd y))) (Enc.F eI (Prod.fst (Prod.snd y)))) ≤ (1000000 : Nat)) (T.br (decide (M.lexc (Enc.list eI (0 : Nat) fun (x x_1 : Nat) => D.nilp) (Enc.list eI (List.length (Prod.fst (Prod.snd y))) (Enc.F eI (Prod.fst (Prod.snd y)))) < (0 : Int))) (T.ret (Sum.inr (Sum.inl (Sum.inl (IntKind.wrap IntKind.i64 (Prod.fst y + (1 : Int)), PUnit.unit, M.told1 (M.sumP Cask.cost (Enc.list eC (List.length l) (Enc.F eC (Enc.list eC (List.length l) (Enc.F eC l)))) (Enc.list eI (List.length l) (Enc.F eI (M.wholeP (Enc.list eC (List.length l) (Enc.F eC l)) (Enc.list eI (0 : Nat) fun (x x_1 : Nat) => D.nilp))))) (1 : Int), PUnit.unit))))) (T.need (Enc.Is eI (List.length (Prod.fst (Prod.snd y))) (Enc.F eI (Prod.fst (Prod.snd y)))) (T.ret (Sum.inr (Sum.inl (Sum.inr (IntKind.wrap IntKind.i64 (Prod.fst y + (1 : Int)), Enc.list eI (List.length (Prod.fst (Prod.snd y))) (Enc.F eI (Prod.fst (Prod.snd y))), Prod.fst (Prod.snd (Prod.snd y)), PUnit.unit))))))))))) (T.need (Enc.Is eI (List.length (Prod.fst (Prod.snd y))) (Enc.F eI (Prod.fst (Prod.snd y)))) (T.ret (Sum.inr (Sum.inl (Sum.inr (IntKind.wrap IntKind.i64 (Prod.fst y + (1 : Int)), Enc.list eI (List.length (Prod.fst (Prod.snd y))) (Enc.F eI (Prod.fst (Prod.snd y))), Prod.fst (Prod.snd (Prod.snd y)), PUnit.unit)))))))) (T.need (Enc.Is eI (List.length (Prod.fst (Prod.snd y))) (Enc.F eI (Prod.fst (Prod.snd y)))) (T.ret (Sum.inr (Sum.inl (Sum.inr (IntKind.wrap IntKind.i64 (Prod.fst y + (1 : Int)), Enc.list eI (List.length (Prod.fst (Prod.snd y))) (Enc.F eI (Prod.fst (Prod.snd y))), Prod.fst (Prod.snd (Prod.snd y)), PUnit.unit)))))))))))))))))))))))))) fun (y_1 : Int × List Int × PUnit) => T.br (decide (Prod.fst y_1 < (Nat.cast (R := Int) (List.length l)))) (T.need ((0 : Int) ≤ Prod.fst y_1) (T.br (IntKind.wrap IntKind.i64 (Nat.cast (R := Int) (BitVec.toNat (BitVec.ofInt (64 : Nat) (Int.fdiv (Prod.fst y) ((2 : Int) ^ min (Int.toNat (Prod.fst y_1)) (64 : Nat))) &&& BitVec.ofInt (64 : Nat) (1 : Int)))) == (1 : Int)) (T.need (List.length (Prod.fst (Prod.snd y_1)) + (1 : Nat) ≤ (1000000 : Nat)) (T.need (List.length (Prod.fst (Prod.snd y_1)) ≤ List.length (Prod.fst (Prod.snd y_1))) (T.need (Enc.Is eI (List.length (Prod.fst (Prod.snd y_1)) + (1 : Nat)) (joinF (List.length (Prod.fst (Prod.snd y_1))) (Enc.F eI (Prod.fst (Prod.snd y_1))) (oneF (Prod.fst y_1)))) (T.need (List.length (Prod.fst (Prod.snd y_1)) + (1 : Nat) ≤ List.length (Prod.fst (Prod.snd y_1)) + (1 : Nat)) (T.ret (Sum.inl (Sum.inr (IntKind.wrap IntKind.i64 (Prod.fst y_1 + (1 : Int)), Enc.list eI (List.length (Prod.fst (Prod.snd y_1)) + (1 : Nat)) (joinF (List.length (Prod.fst (Prod.snd y_1))) (Enc.F eI (Prod.fst (Prod.snd y_1))) (oneF (Prod.fst y_1))), PUnit.unit)))))))) (T.need (Enc.Is eI (List.length (Prod.fst (Prod.snd y_1))) (Enc.F eI (Prod.fst (Prod.snd y_1)))) (T.need (List.length (Prod.fst (Prod.snd y_1)) ≤ List.length (Prod.fst (Prod.snd y_1))) (T.ret (Sum.inl (Sum.inr (IntKind.wrap IntKind.i64 (Prod.fst y_1 + (1 : Int)), Enc.list eI (List.length (Prod.fst (Prod.snd y_1))) (Enc.F eI (Prod.fst (Prod.snd y_1))), PUnit.unit)))))))) (T.need (List.length (Prod.fst (Prod.snd y_1)) ≤ List.length (Prod.fst (Prod.snd y_1))) (T.need (Enc.Is eC (List.length l) (Enc.F eC l)) (T.need (Enc.Is eI (List.length (Prod.fst (Prod.snd y_1))) (Enc.F eI (Prod.fst (Prod.snd y_1)))) (T.need (List.length (Enc.list eC (List.length l) (Enc.F eC l)) ≤ (1000000 : Nat)) (T.need (List.length (Enc.list eI (List.length (Prod.fst (Prod.snd y_1))) (Enc.F eI (Prod.fst (Prod.snd y_1)))) ≤ (1000000 : Nat)) (T.need (∀ (i : Nat), i < List.length (Enc.list eI (List.length (Prod.fst (Prod.snd y_1))) (Enc.F eI (Prod.fst (Prod.snd y_1)))) → (0 : Int) ≤ List.getD (Enc.list eI (List.length (Prod.fst (Prod.snd y_1))) (Enc.F eI (Prod.fst (Prod.snd y_1)))) i (0 : Int) ∧ List.getD (Enc.list eI (List.length (Prod.fst (Prod.snd y_1))) (Enc.F eI (Prod.fst (Prod.snd y_1)))) i (0 : Int) < (Nat.cast (R := Int) (List.length (Enc.list eC (List.length l) (Enc.F eC l))))) (T.need (Enc.Is eC (List.length l) (Enc.F eC (Enc.list eC (List.length l) (Enc.F eC l)))) (T.need (Enc.Is eI (List.length l) (Enc.F eI (M.wholeP (Enc.list eC (List.length l) (Enc.F eC l)) (Enc.list eI (List.length (Prod.fst (Prod.snd y_1))) (Enc.F eI (Prod.fst (Prod.snd y_1))))))) (T.need (List.length (Enc.list eI (List.length l) (Enc.F eI (M.wholeP (Enc.list eC (List.length l) (Enc.F eC l)) (Enc.list eI (List.length (Prod.fst (Prod.snd y_1))) (Enc.F eI (Prod.fst (Prod.snd y_1))))))) ≤ List.length (Enc.list eC (List.length l) (Enc.F eC (Enc.list eC (List.length l) (Enc.F eC l))))) (T.need (List.length (Enc.list eI (List.length l) (Enc.F eI (M.wholeP (Enc.list eC (List.length l) (Enc.F eC l)) (Enc.list eI (List.length (Prod.fst (Prod.snd y_1))) (Enc.F eI (Prod.fst (Prod.snd y_1))))))) ≤ (1000 : Nat)) (T.br (M.meets (Enc.list eC (List.length l) (Enc.F eC (Enc.list eC (List.length l) (Enc.F eC l)))) (Enc.list eI (List.length l) (Enc.F eI (M.wholeP (Enc.list eC (List.length l) (Enc.F eC l)) (Enc.list eI (List.length (Prod.fst (Prod.snd y_1))) (Enc.F eI (Prod.fst (Prod.snd y_1))))))) s != (0 : Int)) (T.need (Enc.Is eI (List.length (Prod.fst (Prod.snd y))) (Enc.F eI (Prod.fst (Prod.snd y)))) (T.ret (Sum.inr (Sum.inl (Sum.inr (IntKind.wrap IntKind.i64 (Prod.fst y + (1 : Int)), Enc.list eI (List.length (Prod.fst (Prod.snd y))) (Enc.F eI (Prod.fst (Prod.snd y))), Prod.fst (Prod.snd (Prod.snd y)), PUnit.unit)))))) (T.need (Enc.Is eC (List.length l) (Enc.F eC (Enc.list eC (List.length l) (Enc.F eC l)))) (T.need (Enc.Is eI (List.length l) (Enc.F eI (M.wholeP (Enc.list eC (List.length l) (Enc.F eC l)) (Enc.list eI (List.length (Prod.fst (Prod.snd y_1))) (Enc.F eI (Prod.fst (Prod.snd y_1))))))) (T.need (List.length l ≤ List.length l) (T.need (List.length l ≤ (1000 : Nat)) (T.need ((1 : Int) ≠ (0 : Int)) (T.need ((1 : Nat) < (9223372036854775808 : Nat)) (T.need (Int.natAbs (M.sumP Cask.cost (Enc.list eC (List.length l) (Enc.F eC (Enc.list eC (List.length l) (Enc.F eC l)))) (Enc.list eI (List.length l) (Enc.F eI (M.wholeP (Enc.list eC (List.length l) (Enc.F eC l)) (Enc.list eI (List.length (Prod.fst (Prod.snd y_1))) (Enc.F eI (Prod.fst (Prod.snd y_1)))))))) < (9223372036854775808 : Nat)) (T.br (decide (M.told1 (M.sumP Cask.cost (Enc.list eC (List.length l) (Enc.F eC (Enc.list eC (List.length l) (Enc.F eC l)))) (Enc.list eI (List.length l) (Enc.F eI (M.wholeP (Enc.list eC (List.length l) (Enc.F eC l)) (Enc.list eI (List.length (Prod.fst (Prod.snd y_1))) (Enc.F eI (Prod.fst (Prod.snd y_1)))))))) (1 : Int) < Prod.fst (Prod.snd (Prod.snd y)))) (T.br (decide (M.told1 (M.sumP Cask.cost (Enc.list eC (List.length l) (Enc.F eC (Enc.list eC (List.length l) (Enc.F eC l)))) (Enc.list eI (List.length l) (Enc.F eI (M.wholeP (Enc.list eC (List.length l) (Enc.F eC l)) (Enc.list eI (List.length (Prod.fst (Prod.snd y_1))) (Enc.F eI (Prod.fst (Prod.snd y_1)))))))) (1 : Int) < Prod.fst (Prod.snd (Prod.snd y)))) (T.need (Enc.Is eI (List.length (Prod.fst (Prod.snd y_1))) (Enc.F eI (Prod.fst (Prod.snd y_1)))) (T.need (List.length (Prod.fst (Prod.snd y_1)) ≤ List.length (Prod.fst (Prod.snd y_1))) (T.ret (Sum.inr (Sum.inl (Sum.inr (IntKind.wrap IntKind.i64 (Prod.fst y + (1 : Int)), Enc.list eI (List.length (Prod.fst (Prod.snd y_1))) (Enc.F eI (Prod.fst (Prod.snd y_1))), M.told1 (M.sumP Cask.cost (Enc.list eC (List.length l) (Enc.F eC (Enc.list eC (List.length l) (Enc.F eC l)))) (Enc.list eI (List.length l) (Enc.F eI (M.wholeP (Enc.list eC (List.length l) (Enc.F eC l)) (Enc.list eI (List.length (Prod.fst (Prod.snd y_1))) (Enc.F eI (Prod.fst (Prod.snd y_1)))))))) (1 : Int), PUnit.unit))))))) (T.need (Enc.Is eI (List.length (Prod.fst (Prod.snd y))) (Enc.F eI (Prod.fst (Prod.snd y)))) (T.ret (Sum.inr (Sum.inl (Sum.inr (IntKind.wrap IntKind.i64 (Prod.fst y + (1 : Int)), Enc.list eI (List.length (Prod.fst (Prod.snd y))) (Enc.F eI (Prod.fst (Prod.snd y))), Prod.fst (Prod.snd (Prod.snd y)), PUnit.unit))))))) (T.br (M.told1 (M.sumP Cask.cost (Enc.list eC (List.length l) (Enc.F eC (Enc.list eC (List.length l) (Enc.F eC l)))) (Enc.list eI (List.length l) (Enc.F eI (M.wholeP (Enc.list eC (List.length l) (Enc.F eC l)) (Enc.list eI (List.length (Prod.fst (Prod.snd y_1))) (Enc.F eI (Prod.fst (Prod.snd y_1)))))))) (1 : Int) == Prod.fst (Prod.snd (Prod.snd y))) (T.br (decide (IntKind.wrap IntKind.i64 ((Nat.cast (R := Int) (List.length (Prod.fst (Prod.snd y_1)))) - (Nat.cast (R := Int) (List.length (Prod.fst (Prod.snd y))))) < (0 : Int))) (T.need (Enc.Is eI (List.length (Prod.fst (Prod.snd y_1))) (Enc.F eI (Prod.fst (Prod.snd y_1)))) (T.need (List.length (Prod.fst (Prod.snd y_1)) ≤ List.length (Prod.fst (Prod.snd y_1))) (T.ret (Sum.inr (Sum.inl (Sum.inr (IntKind.wrap IntKind.i64 (Prod.fst y + (1 : Int)), Enc.list eI (List.length (Prod.fst (Prod.snd y_1))) (Enc.F eI (Prod.fst (Prod.snd y_1))), M.told1 (M.sumP Cask.cost (Enc.list eC (List.length l) (Enc.F eC (Enc.list eC (List.length l) (Enc.F eC l)))) (Enc.list eI (List.length l) (Enc.F eI (M.wholeP (Enc.list eC (List.length l) (Enc.F eC l)) (Enc.list eI (List.length (Prod.fst (Prod.snd y_1))) (Enc.F eI (Prod.fst (Prod.snd y_1)))))))) (1 : Int), PUnit.unit))))))) (T.br (IntKind.wrap IntKind.i64 ((Nat.cast (R := Int) (List.length (Prod.fst (Prod.snd y_1)))) - (Nat.cast (R := Int) (List.length (Prod.fst (Prod.snd y))))) == (0 : Int)) (T.need (List.length (Prod.fst (Prod.snd y_1)) ≤ List.length (Prod.fst (Prod.snd y_1))) (T.need (Enc.Is eI (List.length (Prod.fst (Prod.snd y_1))) (Enc.F eI (Prod.fst (Prod.snd y_1)))) (T.need (Enc.Is eI (List.length (Prod.fst (Prod.snd y))) (Enc.F eI (Prod.fst (Prod.snd y)))) (T.need (List.length (Enc.list eI (List.length (Prod.fst (Prod.snd y_1))) (Enc.F eI (Prod.fst (Prod.snd y_1)))) ≤ (1000000 : Nat)) (T.need (List.length (Enc.list eI (List.length (Prod.fst (Prod.snd y))) (Enc.F eI (Prod.fst (Prod.snd y)))) ≤ (1000000 : Nat)) (T.br (decide (M.lexc (Enc.list eI (List.length (Prod.fst (Prod.snd y_1))) (Enc.F eI (Prod.fst (Prod.snd y_1)))) (Enc.list eI (List.length (Prod.fst (Prod.snd y))) (Enc.F eI (Prod.fst (Prod.snd y)))) < (0 : Int))) (T.need (Enc.Is eI (List.length (Prod.fst (Prod.snd y_1))) (Enc.F eI (Prod.fst (Prod.snd y_1)))) (T.need (List.length (Prod.fst (Prod.snd y_1)) ≤ List.length (Prod.fst (Prod.snd y_1))) (T.ret (Sum.inr (Sum.inl (Sum.inr (IntKind.wrap IntKind.i64 (Prod.fst y + (1 : Int)), Enc.list eI (List.length (Prod.fst (Prod.snd y_1))) (Enc.F eI (Prod.fst (Prod.snd y_1))), M.told1 (M.sumP Cask.cost (Enc.list eC (List.length l) (Enc.F eC (Enc.list eC (List.length l) (Enc.F eC l)))) (Enc.list eI (List.length l) (Enc.F eI (M.wholeP (Enc.list eC (List.length l) (Enc.F eC l)) (Enc.list eI (List.length (Prod.fst (Prod.snd y_1))) (Enc.F eI (Prod.fst (Prod.snd y_1)))))))) (1 : Int), PUnit.unit))))))) (T.need (Enc.Is eI (List.length (Prod.fst (Prod.snd y))) (Enc.F eI (Prod.fst (Prod.snd y)))) (T.ret (Sum.inr (Sum.inl (Sum.inr (IntKind.wrap IntKind.i64 (Prod.fst y + (1 : Int)), Enc.list eI (List.length (Prod.fst (Prod.snd y))) (Enc.F eI (Prod.fst (Prod.snd y))), Prod.fst (Prod.snd (Prod.snd y)), PUnit.unit)))))))))))) (T.need (Enc.Is eI (List.length (Prod.fst (Prod.snd y))) (Enc.F eI (Prod.fst (Prod.snd y)))) (T.ret (Sum.inr (Sum.inl (Sum.inr (IntKind.wrap IntKind.i64 (Prod.fst y + (1 : Int)), Enc.list eI (List.length (Prod.fst (Prod.snd y))) (Enc.F eI (Prod.fst (Prod.snd y))), Prod.fst (Prod.snd (Prod.snd y)), PUnit.unit)))))))) (T.need (Enc.Is eI (List.length (Prod.fst (Prod.snd y))) (Enc.F eI (Prod.fst (Prod.snd y)))) (T.ret (Sum.inr (Sum.inl (Sum.inr (IntKind.wrap IntKind.i64 (Prod.fst y + (1 : Int)), Enc.list eI (List.length (Prod.fst (Prod.snd y))) (Enc.F eI (Prod.fst (Prod.snd y))), Prod.fst (Prod.snd (Prod.snd y)), PUnit.unit))))))))))))))))))))))))))) (T.ret (Sum.inr [Ar.c (D.sl true (List.length (Prod.fst (Prod.snd y))) (1 : Nat) (Enc.F eI (Prod.fst (Prod.snd y)))), Ar.c (D.int IntKind.i64 (Prod.fst (Prod.snd (Prod.snd y)))), Ar.c (D.int IntKind.i64 (0 : Int))]))))))
theorem t30 (q_l : Bool) (l : List Cask) (sv l0 h0 l1 h1 l2 h2 l3 h3 : Int) : runFnX Try.prog G0 (lookS [v47, v49, v64, v90z, v91, v68, v92z]) (fun _ => [(8, [.slot 33 (.int .i64), .slot 9 .nsl, .slot 10 (.int .i64)], some [.slot 33 (.int .i64), .slot 9 (.imE eI), .slot 10 (.int .i64)]), (12, [.slot 38 (.int .i64), .slot 12 .nsl], some [.slot 38 (.int .i64), .slot 12 (.rowE 3 eI)])]) [] 1 40 5 30 Try.f30 [.c (.sl q_l l.length 7 (eC.F l)), .agg [dI sv, dI l0, dI h0, dI l1, dI h1, dI l2, dI h2, dI l3, dI h3]] =
    tr30 l (⟨sv, ⟨l0, h0⟩, ⟨l1, h1⟩, ⟨l2, h2⟩, ⟨l3, h3⟩⟩ : Sample) := by kernel_rfl
theorem w30 (l : List Cask) (s : Sample) (hn : ∀ c, c ∈ l → c.nm.size ≤ 1000000) (hl : l.length ≤ 100000) : (tr30 l s).wp (fun rs => rsEqv rs (resBW (M.best30 l s))) := by
  unfold tr30
  simp only [Enc.list_F, list_whole, list_nil, told_one]
  have hl6 : l.length ≤ 1000000 := by omega
  repeat (refine ⟨by first | exact Enc.is_F _ _ _ | exact Nat.le_refl _ | assumption | decide | omega, ?_⟩)
  refine wp_br (fun hb => ?_) (fun hb => ?_)
  · have hb : (M.first [(M.checkCasks l).2, M.checkSample s] != 0) = true := hb
    have : M.best30 l s = ([], 0, M.first [(M.checkCasks l).2, M.checkSample s]) := by unfold M.best30; rw [hb]; rfl
    rw [this]
    exact ⟨⟨(fun e => by cases e), rfl, fun h => absurd h (Nat.lt_irrefl 0), fun i j hi => absurd hi (Nat.not_lt_zero i)⟩, rsEqv_refl _⟩
  have hb : (M.first [(M.checkCasks l).2, M.checkSample s] != 0) = false := hb
  have he : M.best30 l s = M.bestRW l s := by unfold M.best30; rw [hb]; rfl
  rw [he]
  have hb0 : M.first [(M.checkCasks l).2, M.checkSample s] = 0 := by simpa using hb
  have hz := first_nil _ hb0
  have hr := casks_ten (hz (M.checkCasks l).2 (by simp))
  have hs : M.checkSample s = 0 := hz _ (by simp)
  have h10 := hr.n10
  have g3 : l.length ≤ 1000 := by omega
  have hP := two_pow_le hr.n10
  have h2 : 1 ≤ 2 ^ l.length := Nat.one_le_two_pow
  have hR : M.bestRW l s = M.tellW (M.bestUpW l s (2 ^ l.length)) := rfl
  refine ⟨by show (0 : Int) ≤ (l.length : Int); omega, ?_⟩
  simp only [shl_len h10]
  generalize 2 ^ l.length = K at *
  refine ⟨fun z => match z with
    | .inl x => ∃ c : Nat, c ≤ K ∧ x.1 = c ∧ M.bestUpW l s c = none
    | .inr y => ∃ c : Nat, c ≤ K ∧ y.1 = c ∧ y.2.1.length ≤ 10 ∧ M.bestUpW l s c = some (y.2.1, y.2.2.1),
    fun z => match z with | .inl x => K - x.1.toNat | .inr y => K - y.1.toNat, ⟨0, by omega, rfl, rfl⟩, ?_, ?_⟩
  · rintro ⟨x, u1, cost, u2⟩ ⟨c, hc2, hx, hB⟩
    simp only at hx
    subst hx
    refine ⟨fun hb => ?_, fun hb => ?_⟩
    · have hlt := lt_of_dec hb
      have hw := wrap_succ (k := c) (by omega)
      refine ⟨fun z => match z with
        | .inl x => ∃ k : Nat, k ≤ l.length ∧ x.1 = k ∧ M.bitsL c k = []
        | .inr y => ∃ k : Nat, k ≤ l.length ∧ y.1 = k ∧ y.2.1 = M.bitsL c k,
        fun z => match z with | .inl x => l.length - x.1.toNat | .inr y => l.length - y.1.toNat, ⟨0, Nat.zero_le _, rfl, rfl⟩, ?_, ?_⟩
      · rintro ⟨i, u3, u4⟩ ⟨k, hk, hi, hbt⟩
        simp only at hi
        subst hi
        refine ⟨fun hb2 => ⟨by show (0 : Int) ≤ k; omega, fun h1 => ?_, fun h1 => ?_⟩, fun hb2 => ?_⟩
        · have hlt2 := lt_of_dec hb2
          have hw2 := wrap_succ (k := k) (by omega)
          obtain ⟨o1, o2⟩ := one_first (k : Int)
          refine ⟨by decide, o1, Nat.le_refl _, ⟨k + 1, hlt2, hw2, ?_⟩, ?_⟩
          · rw [bits_succ, if_pos (bit_isA (by omega) (by omega) h1), hbt]; exact o2
          · show l.length - (IntKind.wrap IntKind.i64 ((k : Int) + 1)).toNat < l.length - ((k : Int)).toNat
            rw [hw2]; omega
        · have hlt2 := lt_of_dec hb2
          have hw2 := wrap_succ (k := k) (by omega)
          refine ⟨⟨k + 1, hlt2, hw2, ?_⟩, ?_⟩
          · rw [bits_succ, if_neg (bit_notA (by omega) (by omega) h1), hbt]
          · show l.length - (IntKind.wrap IntKind.i64 ((k : Int) + 1)).toNat < l.length - ((k : Int)).toNat
            rw [hw2]; omega
        · obtain rfl : k = l.length := by have := ge_of_dec hb2; omega
          have hS := bestUpW_succ l s c
          rw [hB, hbt, pickW_bad (none_bad hr hs)] at hS
          have hmeas : K - (IntKind.wrap IntKind.i64 ((c : Int) + 1)).toNat < K - ((c : Int)).toNat := by rw [hw]; omega
          have hW := whole_len l []
          have g1 : (M.wholeP l []).length ≤ l.length := by omega
          have g2 : (M.wholeP l []).length ≤ 1000 := by omega
          have hi0 : ∀ i : Nat, i < ([] : List Int).length → 0 ≤ ([] : List Int).getD i 0 ∧ ([] : List Int).getD i 0 < (l.length : Int) := fun i hi => absurd hi (Nat.not_lt_zero i)
          have hn0 := is_nil fun (_ _ : Nat) => D.nilp
          repeat (refine ⟨by first | exact Enc.is_F _ _ _ | exact Nat.le_refl _ | assumption | decide | omega, ?_⟩)
          refine wp_br (fun _ => ?_) (fun e => absurd e (by rw [none_meets hr hs]; decide))
          repeat (refine ⟨by first | exact Enc.is_F _ _ _ | exact Nat.le_refl _ | assumption | decide | omega, ?_⟩)
          exact ⟨⟨c + 1, by omega, hw, hS⟩, hmeas⟩
      · rintro ⟨i, acc, u4⟩ ⟨k, hk, hi, hbt⟩
        simp only at hi hbt
        subst hi hbt
        have hbl := bits_len c k
        refine ⟨fun hb2 => ⟨by show (0 : Int) ≤ k; omega, fun h1 => ?_, fun h1 => ?_⟩, fun hb2 => ?_⟩
        · have hlt2 := lt_of_dec hb2
          have hw2 := wrap_succ (k := k) (by omega)
          obtain ⟨o1, o2⟩ := one_push (M.bitsL c k) (k : Int)
          refine ⟨by show (M.bitsL c k).length + 1 ≤ 1000000; omega, Nat.le_refl _, o1, Nat.le_refl _, ⟨k + 1, hlt2, hw2, ?_⟩, ?_⟩
          · rw [bits_succ, if_pos (bit_isA (by omega) (by omega) h1)]; exact o2
          · show l.length - (IntKind.wrap IntKind.i64 ((k : Int) + 1)).toNat < l.length - ((k : Int)).toNat
            rw [hw2]; omega
        · have hlt2 := lt_of_dec hb2
          have hw2 := wrap_succ (k := k) (by omega)
          refine ⟨Enc.is_F _ _ _, Nat.le_refl _, ⟨k + 1, hlt2, hw2, ?_⟩, ?_⟩
          · rw [bits_succ, if_neg (bit_notA (by omega) (by omega) h1)]
          · show l.length - (IntKind.wrap IntKind.i64 ((k : Int) + 1)).toNat < l.length - ((k : Int)).toNat
            rw [hw2]; omega
        · obtain rfl : k = l.length := by have := ge_of_dec hb2; omega
          have hS := bestUpW_succ l s c
          rw [hB] at hS
          have hin : ∀ i : Nat, i < (M.bitsL c l.length).length → 0 ≤ (M.bitsL c l.length).getD i 0 ∧ (M.bitsL c l.length).getD i 0 < (l.length : Int) := fun i hi => bits_at hi
          have hml : (M.bitsL c l.length).length ≤ 1000000 := by omega
          have hmeas : K - (IntKind.wrap IntKind.i64 ((c : Int) + 1)).toNat < K - ((c : Int)).toNat := by rw [hw]; omega
          generalize M.bitsL c l.length = ps at *
          have hW := whole_len l ps
          have g1 : (M.wholeP l ps).length ≤ l.length := by omega
          have g2 : (M.wholeP l ps).length ≤ 1000 := by omega
          have hcs := (sumW (ps := ps) hr (of := Cask.cost) fun i hi => by have := (hr.rc i hi).cost; omega).2
          have g4 : (M.sumP Cask.cost l (M.wholeP l ps)).natAbs < 9223372036854775808 := by omega
          repeat (refine ⟨by first | exact Enc.is_F _ _ _ | exact Nat.le_refl _ | assumption | decide | omega, ?_⟩)
          refine wp_br (fun hd => ?_) (fun hd => ?_)
          · repeat (refine ⟨by first | exact Enc.is_F _ _ _ | exact Nat.le_refl _ | assumption | decide | omega, ?_⟩)
            rw [pickW_bad (wholeR_bad hd)] at hS
            exact ⟨⟨c + 1, by omega, hw, hS⟩, hmeas⟩
          · obtain ⟨hd1, hd2⟩ := wholeR_ok hd
            repeat (refine ⟨by first | exact Enc.is_F _ _ _ | exact Nat.le_refl _ | assumption | decide | omega, ?_⟩)
            rw [pickW_none hd1, hd2] at hS
            exact ⟨⟨c + 1, by omega, hw, by show ps.length ≤ 10; omega, hS⟩, hmeas⟩
    · obtain rfl : c = K := by have := ge_of_dec hb; omega
      show rsEqv [.c nilD, rI 0, rI 12] _
      rw [hR, hB]
      exact ⟨⟨(fun e => by cases e), rfl, fun h => absurd h (Nat.lt_irrefl 0), fun i j hi => absurd hi (Nat.not_lt_zero i)⟩, rsEqv_refl _⟩
  · rintro ⟨x, b, m, u2⟩ ⟨c, hc2, hx, hb10, hB⟩
    simp only at hx hb10 hB
    subst hx
    refine ⟨fun hb => ?_, fun hb => ?_⟩
    · have hlt := lt_of_dec hb
      have hw := wrap_succ (k := c) (by omega)
      refine ⟨fun z => match z with
        | .inl x => ∃ k : Nat, k ≤ l.length ∧ x.1 = k ∧ M.bitsL c k = []
        | .inr y => ∃ k : Nat, k ≤ l.length ∧ y.1 = k ∧ y.2.1 = M.bitsL c k,
        fun z => match z with | .inl x => l.length - x.1.toNat | .inr y => l.length - y.1.toNat, ⟨0, Nat.zero_le _, rfl, rfl⟩, ?_, ?_⟩
      · rintro ⟨i, u3, u4⟩ ⟨k, hk, hi, hbt⟩
        simp only at hi
        subst hi
        refine ⟨fun hb2 => ⟨by show (0 : Int) ≤ k; omega, fun h1 => ?_, fun h1 => ?_⟩, fun hb2 => ?_⟩
        · have hlt2 := lt_of_dec hb2
          have hw2 := wrap_succ (k := k) (by omega)
          obtain ⟨o1, o2⟩ := one_first (k : Int)
          refine ⟨by decide, o1, Nat.le_refl _, ⟨k + 1, hlt2, hw2, ?_⟩, ?_⟩
          · rw [bits_succ, if_pos (bit_isA (by omega) (by omega) h1), hbt]; exact o2
          · show l.length - (IntKind.wrap IntKind.i64 ((k : Int) + 1)).toNat < l.length - ((k : Int)).toNat
            rw [hw2]; omega
        · have hlt2 := lt_of_dec hb2
          have hw2 := wrap_succ (k := k) (by omega)
          refine ⟨⟨k + 1, hlt2, hw2, ?_⟩, ?_⟩
          · rw [bits_succ, if_neg (bit_notA (by omega) (by omega) h1), hbt]
          · show l.length - (IntKind.wrap IntKind.i64 ((k : Int) + 1)).toNat < l.length - ((k : Int)).toNat
            rw [hw2]; omega
        · obtain rfl : k = l.length := by have := ge_of_dec hb2; omega
          have hS := bestUpW_succ l s c
          rw [hB, hbt, pickW_bad (none_bad hr hs)] at hS
          have hmeas : K - (IntKind.wrap IntKind.i64 ((c : Int) + 1)).toNat < K - ((c : Int)).toNat := by rw [hw]; omega
          have hW := whole_len l []
          have g1 : (M.wholeP l []).length ≤ l.length := by omega
          have g2 : (M.wholeP l []).length ≤ 1000 := by omega
          have hi0 : ∀ i : Nat, i < ([] : List Int).length → 0 ≤ ([] : List Int).getD i 0 ∧ ([] : List Int).getD i 0 < (l.length : Int) := fun i hi => absurd hi (Nat.not_lt_zero i)
          have hn0 := is_nil fun (_ _ : Nat) => D.nilp
          repeat (refine ⟨by first | exact Enc.is_F _ _ _ | exact Nat.le_refl _ | assumption | decide | omega, ?_⟩)
          refine wp_br (fun _ => ?_) (fun e => absurd e (by rw [none_meets hr hs]; decide))
          repeat (refine ⟨by first | exact Enc.is_F _ _ _ | exact Nat.le_refl _ | assumption | decide | omega, ?_⟩)
          exact ⟨⟨c + 1, by omega, hw, hb10, hS⟩, hmeas⟩
      · rintro ⟨i, acc, u4⟩ ⟨k, hk, hi, hbt⟩
        simp only at hi hbt
        subst hi hbt
        have hbl := bits_len c k
        refine ⟨fun hb2 => ⟨by show (0 : Int) ≤ k; omega, fun h1 => ?_, fun h1 => ?_⟩, fun hb2 => ?_⟩
        · have hlt2 := lt_of_dec hb2
          have hw2 := wrap_succ (k := k) (by omega)
          obtain ⟨o1, o2⟩ := one_push (M.bitsL c k) (k : Int)
          refine ⟨by show (M.bitsL c k).length + 1 ≤ 1000000; omega, Nat.le_refl _, o1, Nat.le_refl _, ⟨k + 1, hlt2, hw2, ?_⟩, ?_⟩
          · rw [bits_succ, if_pos (bit_isA (by omega) (by omega) h1)]; exact o2
          · show l.length - (IntKind.wrap IntKind.i64 ((k : Int) + 1)).toNat < l.length - ((k : Int)).toNat
            rw [hw2]; omega
        · have hlt2 := lt_of_dec hb2
          have hw2 := wrap_succ (k := k) (by omega)
          refine ⟨Enc.is_F _ _ _, Nat.le_refl _, ⟨k + 1, hlt2, hw2, ?_⟩, ?_⟩
          · rw [bits_succ, if_neg (bit_notA (by omega) (by omega) h1)]
          · show l.length - (IntKind.wrap IntKind.i64 ((k : Int) + 1)).toNat < l.length - ((k : Int)).toNat
            rw [hw2]; omega
        · obtain rfl : k = l.length := by have := ge_of_dec hb2; omega
          have hS := bestUpW_succ l s c
          rw [hB] at hS
          have hin : ∀ i : Nat, i < (M.bitsL c l.length).length → 0 ≤ (M.bitsL c l.length).getD i 0 ∧ (M.bitsL c l.length).getD i 0 < (l.length : Int) := fun i hi => bits_at hi
          have hml : (M.bitsL c l.length).length ≤ 1000000 := by omega
          have hmeas : K - (IntKind.wrap IntKind.i64 ((c : Int) + 1)).toNat < K - ((c : Int)).toNat := by rw [hw]; omega
          generalize M.bitsL c l.length = ps at *
          have hW := whole_len l ps
          have g1 : (M.wholeP l ps).length ≤ l.length := by omega
          have g2 : (M.wholeP l ps).length ≤ 1000 := by omega
          have hcs := (sumW (ps := ps) hr (of := Cask.cost) fun i hi => by have := (hr.rc i hi).cost; omega).2
          have g4 : (M.sumP Cask.cost l (M.wholeP l ps)).natAbs < 9223372036854775808 := by omega
          have hmb : b.length ≤ 1000000 := by omega
          have hp10 : ps.length ≤ 10 := by omega
          have keep : M.pickW l s (some (b, m)) ps = some (b, m) → (∃ c' : Nat, c' ≤ K ∧ IntKind.wrap IntKind.i64 ((c : Int) + 1) = c' ∧ b.length ≤ 10 ∧ M.bestUpW l s c' = some (b, m)) ∧ K - (IntKind.wrap IntKind.i64 ((c : Int) + 1)).toNat < K - ((c : Int)).toNat :=
            fun e => ⟨⟨c + 1, by omega, hw, hb10, hS.trans e⟩, hmeas⟩
          repeat (refine ⟨by first | exact Enc.is_F _ _ _ | exact Nat.le_refl _ | assumption | decide | omega, ?_⟩)
          refine wp_br (fun hd => ?_) (fun hd => ?_)
          · repeat (refine ⟨by first | exact Enc.is_F _ _ _ | exact Nat.le_refl _ | assumption | decide | omega, ?_⟩)
            exact keep (pickW_bad (wholeR_bad hd))
          obtain ⟨hd1, hd2⟩ := wholeR_ok hd
          have hyes := pickW_yes (b := b) (m := m) hd1
          have hno := pickW_no (b := b) (m := m) hd1
          rw [hd2] at hyes hno
          have take : M.pickW l s (some (b, m)) ps = some (ps, M.sumP Cask.cost l (M.wholeP l ps)) → (∃ c' : Nat, c' ≤ K ∧ IntKind.wrap IntKind.i64 ((c : Int) + 1) = c' ∧ ps.length ≤ 10 ∧ M.bestUpW l s c' = some (ps, M.sumP Cask.cost l (M.wholeP l ps))) ∧ K - (IntKind.wrap IntKind.i64 ((c : Int) + 1)).toNat < K - ((c : Int)).toNat :=
            fun e => ⟨⟨c + 1, by omega, hw, hp10, hS.trans e⟩, hmeas⟩
          repeat (refine ⟨by first | exact Enc.is_F _ _ _ | exact Nat.le_refl _ | assumption | decide | omega, ?_⟩)
          generalize M.sumP Cask.cost l (M.wholeP l ps) = V at *
          refine wp_br (fun he => ?_) (fun he => ?_)
          · refine wp_br (fun _ => ?_) (fun he2 => absurd (he.symm.trans he2) (by decide))
            repeat (refine ⟨by first | exact Enc.is_F _ _ _ | exact Nat.le_refl _ | assumption | decide | omega, ?_⟩)
            exact take (hyes (by unfold M.better; rw [he]; rfl))
          refine wp_br (fun hf => ?_) (fun hf => ?_)
          · refine wp_br (fun hg => ?_) (fun hg => ?_)
            · have hg : IntKind.wrap IntKind.i64 ((ps.length : Int) - (b.length : Int)) < 0 := of_decide_eq_true hg
              rw [len_diff hp10 hb10] at hg
              repeat (refine ⟨by first | exact Enc.is_F _ _ _ | exact Nat.le_refl _ | assumption | decide | omega, ?_⟩)
              refine take (hyes ?_)
              unfold M.better
              rw [he, hf, show decide (ps.length < b.length) = true from decide_eq_true (by omega)]; rfl
            have hg : ¬ IntKind.wrap IntKind.i64 ((ps.length : Int) - (b.length : Int)) < 0 := of_decide_eq_false hg
            rw [len_diff hp10 hb10] at hg
            have hg' : decide (ps.length < b.length) = false := decide_eq_false (by omega)
            refine wp_br (fun hh => ?_) (fun hh => ?_)
            · have hh : (IntKind.wrap IntKind.i64 ((ps.length : Int) - (b.length : Int)) == 0) = true := hh
              rw [len_diff hp10 hb10] at hh
              have hh : (ps.length : Int) - (b.length : Int) = 0 := by simpa using hh
              have hh1 : ps.length = b.length := by omega
              have hh' : (ps.length == b.length) = true := by simpa using hh1
              repeat (refine ⟨by first | exact Enc.is_F _ _ _ | exact Nat.le_refl _ | assumption | decide | omega, ?_⟩)
              refine wp_br (fun hi => ?_) (fun hi => ?_)
              · have hi : decide (M.lexc ps b < 0) = true := hi
                rw [lexc_lt] at hi
                repeat (refine ⟨by first | exact Enc.is_F _ _ _ | exact Nat.le_refl _ | assumption | decide | omega, ?_⟩)
                refine take (hyes ?_)
                unfold M.better
                rw [he, hf, hg', hh', hi]; rfl
              · have hi : decide (M.lexc ps b < 0) = false := hi
                rw [lexc_lt] at hi
                repeat (refine ⟨by first | exact Enc.is_F _ _ _ | exact Nat.le_refl _ | assumption | decide | omega, ?_⟩)
                refine keep (hno ?_)
                unfold M.better
                rw [he, hf, hg', hh', hi]; rfl
            · have hh : (IntKind.wrap IntKind.i64 ((ps.length : Int) - (b.length : Int)) == 0) = false := hh
              rw [len_diff hp10 hb10] at hh
              have hh : ¬ (ps.length : Int) - (b.length : Int) = 0 := by simpa using hh
              have hh1 : ¬ ps.length = b.length := by omega
              have hh' : (ps.length == b.length) = false := by simpa using hh1
              repeat (refine ⟨by first | exact Enc.is_F _ _ _ | exact Nat.le_refl _ | assumption | decide | omega, ?_⟩)
              refine keep (hno ?_)
              unfold M.better
              rw [he, hf, hg', hh']; rfl
          · repeat (refine ⟨by first | exact Enc.is_F _ _ _ | exact Nat.le_refl _ | assumption | decide | omega, ?_⟩)
            refine keep (hno ?_)
            unfold M.better
            rw [he, hf]; rfl
    · obtain rfl : c = K := by have := ge_of_dec hb; omega
      repeat (refine ⟨by first | exact Enc.is_F _ _ _ | exact Nat.le_refl _ | assumption | decide | omega, ?_⟩)
      show rsEqv [.c (.sl true b.length 1 (eI.F b)), rI m, rI 0] _
      rw [hR, hB]
      exact ⟨sl_eqv, rsEqv_refl _⟩
theorem C30 : FOK Try.prog G0 gw 30 dom30 := by
  intro ags p r hd hp κ w xs hw hl hG hx
  unfold dom30 at hd
  split at hd
  · rename_i q_l n_l st_l F_l sv l0 h0 l1 h1 l2 h2 l3 h3
    split at hd
    · rename_i hst
      have g1 := hst
      have g1 := Nat.eq_of_beq_eq_true g1
      subst g1
      simp only [Option.some.injEq, Prod.mk.injEq] at hd
      obtain ⟨rfl, rfl⟩ := hd
      obtain ⟨hI_l, hp⟩ := hp
      have heq : agsEqv [.c (.sl q_l n_l 7 F_l), .agg [.int .i64 sv, .int .i64 l0, .int .i64 h0, .int .i64 l1, .int .i64 h1, .int .i64 l2, .int .i64 h2, .int .i64 l3, .int .i64 h3]] [.c (.sl q_l (eC.list n_l F_l).length 7 (eC.F (eC.list n_l F_l))), .agg [.int .i64 sv, .int .i64 l0, .int .i64 h0, .int .i64 l1, .int .i64 h1, .int .i64 l2, .int .i64 h2, .int .i64 l3, .int .i64 h3]] := ⟨eC.to id hI_l, Ag.eqv_refl _, trivial⟩
      have len_l : (eC.list n_l F_l).length = n_l := eC.list_len
      generalize eC.list n_l F_l = l at *
      subst len_l
      exact fokX_fin mixed gw_stable (sl := [v47, v49, v64, v90z, v91, v68, v92z]) ⟨S47, S49, S64, S90z, S91, S68, S92z, trivial⟩ Try.func30 hw hl hG hx heq rfl (t30 q_l l sv l0 h0 l1 h1 l2 h2 l3 h3) (w30 l _ hp.1 hp.2.1)
    · cases hd
  · cases hd
theorem S30 : SumOK Try.prog G0 gw 30 (fokSm dom30) := fok_sum Try.func30 rfl C30
end Go.Bl
end

section
set_option linter.unusedVariables false
set_option linter.unusedSimpArgs false
set_option maxRecDepth 100000
namespace Go.Bl
open Go.V Go.Proofs
def tr6 (l : List Cask) (s : Sample) : T (List Ar) :=
    T.br (!true) (T.ret [Ar.c (D.bool false)]) (T.need (Enc.Is eC (List.length l) (Enc.F eC l)) (T.br (!M.someN (6 : Nat) (Enc.list eC (List.length l) (Enc.F eC l))) (T.ret [Ar.c (D.bool true)]) (T.need (Enc.Is eC (List.length l) (Enc.F eC l)) (T.need (List.length (Enc.list eC (List.length l) (Enc.F eC l)) ≤ (1000000 : Nat)) (T.need (Enc.Is eC (List.length l) (Enc.F eC (Enc.list eC (List.length l) (Enc.F eC l)))) (T.need (∀ (c : Cask), c ∈ Enc.list eC (List.length l) (Enc.F eC (Enc.list eC (List.length l) (Enc.F eC l))) → ByteArray.size (Cask.nm c) ≤ (1000000 : Nat)) (T.need (List.length (Enc.list eC (List.length l) (Enc.F eC (Enc.list eC (List.length l) (Enc.F eC l)))) ≤ (100000 : Nat)) (T.need (Enc.Is eC (List.length l) (Enc.F eC l)) (T.need (∀ (c : Cask), c ∈ Enc.list eC (List.length l) (Enc.F eC l) → ByteArray.size (Cask.nm c) ≤ (1000000 : Nat)) (T.br (M.wholeErr (Enc.list eC (List.length l) (Enc.F eC l)) == (0 : Int)) (T.br (M.checkSample s != (0 : Int)) (T.br (Prod.snd (Prod.snd (M.best30 (Enc.list eC (List.length l) (Enc.F eC (Enc.list eC (List.length l) (Enc.F eC l)))) s)) == M.checkSample s) (T.br ((Nat.cast (R := Int) (List.length (Prod.fst (M.best30 (Enc.list eC (List.length l) (Enc.F eC (Enc.list eC (List.length l) (Enc.F eC l)))) s)))) == (0 : Int)) (T.ret [Ar.c (D.bool (Prod.fst (Prod.snd (M.best30 (Enc.list eC (List.length l) (Enc.F eC (Enc.list eC (List.length l) (Enc.F eC l)))) s)) == (0 : Int)))]) (T.ret [Ar.c (D.bool false)])) (T.ret [Ar.c (D.bool false)])) (T.need (Enc.Is eC (List.length l) (Enc.F eC l)) (T.need (Prod.snd (M.checkCasks (Enc.list eC (List.length l) (Enc.F eC l))) = (0 : Int)) (T.need (M.checkSample s = (0 : Int)) (T.br (Prod.snd (Prod.snd (M.best30 (Enc.list eC (List.length l) (Enc.F eC (Enc.list eC (List.length l) (Enc.F eC l)))) s)) == Prod.snd (Prod.snd (M.bestRW (Enc.list eC (List.length l) (Enc.F eC l)) s))) (T.need (Enc.Is eI (List.length (Prod.fst (M.best30 (Enc.list eC (List.length l) (Enc.F eC (Enc.list eC (List.length l) (Enc.F eC l)))) s))) (Enc.F eI (Prod.fst (M.best30 (Enc.list eC (List.length l) (Enc.F eC (Enc.list eC (List.length l) (Enc.F eC l)))) s)))) (T.need (Enc.Is eI (List.length (Prod.fst (M.bestRW (Enc.list eC (List.length l) (Enc.F eC l)) s))) (Enc.F eI (Prod.fst (M.bestRW (Enc.list eC (List.length l) (Enc.F eC l)) s)))) (T.need (List.length (Enc.list eI (List.length (Prod.fst (M.best30 (Enc.list eC (List.length l) (Enc.F eC (Enc.list eC (List.length l) (Enc.F eC l)))) s))) (Enc.F eI (Prod.fst (M.best30 (Enc.list eC (List.length l) (Enc.F eC (Enc.list eC (List.length l) (Enc.F eC l)))) s)))) ≤ (1000000 : Nat)) (T.br (M.intsEq (Enc.list eI (List.length (Prod.fst (M.best30 (Enc.list eC (List.length l) (Enc.F eC (Enc.list eC (List.length l) (Enc.F eC l)))) s))) (Enc.F eI (Prod.fst (M.best30 (Enc.list eC (List.length l) (Enc.F eC (Enc.list eC (List.length l) (Enc.F eC l)))) s)))) (Enc.list eI (List.length (Prod.fst (M.bestRW (Enc.list eC (List.length l) (Enc.F eC l)) s))) (Enc.F eI (Prod.fst (M.bestRW (Enc.list eC (List.length l) (Enc.F eC l)) s))))) (T.ret [Ar.c (D.bool (Prod.fst (Prod.snd (M.best30 (Enc.list eC (List.length l) (Enc.F eC (Enc.list eC (List.length l) (Enc.F eC l)))) s)) == Prod.fst (Prod.snd (M.bestRW (Enc.list eC (List.length l) (Enc.F eC l)) s))))]) (T.ret [Ar.c (D.bool false)]))))) (T.ret [Ar.c (D.bool false)])))))) (T.br (M.wholeErr (Enc.list eC (List.length l) (Enc.F eC l)) != (0 : Int)) (T.br (Prod.snd (Prod.snd (M.best30 (Enc.list eC (List.length l) (Enc.F eC (Enc.list eC (List.length l) (Enc.F eC l)))) s)) == M.wholeErr (Enc.list eC (List.length l) (Enc.F eC l))) (T.br ((Nat.cast (R := Int) (List.length (Prod.fst (M.best30 (Enc.list eC (List.length l) (Enc.F eC (Enc.list eC (List.length l) (Enc.F eC l)))) s)))) == (0 : Int)) (T.ret [Ar.c (D.bool (Prod.fst (Prod.snd (M.best30 (Enc.list eC (List.length l) (Enc.F eC (Enc.list eC (List.length l) (Enc.F eC l)))) s)) == (0 : Int)))]) (T.ret [Ar.c (D.bool false)])) (T.ret [Ar.c (D.bool false)])) (T.need (Enc.Is eC (List.length l) (Enc.F eC l)) (T.need (Prod.snd (M.checkCasks (Enc.list eC (List.length l) (Enc.F eC l))) = (0 : Int)) (T.need (M.checkSample s = (0 : Int)) (T.br (Prod.snd (Prod.snd (M.best30 (Enc.list eC (List.length l) (Enc.F eC (Enc.list eC (List.length l) (Enc.F eC l)))) s)) == Prod.snd (Prod.snd (M.bestRW (Enc.list eC (List.length l) (Enc.F eC l)) s))) (T.need (Enc.Is eI (List.length (Prod.fst (M.best30 (Enc.list eC (List.length l) (Enc.F eC (Enc.list eC (List.length l) (Enc.F eC l)))) s))) (Enc.F eI (Prod.fst (M.best30 (Enc.list eC (List.length l) (Enc.F eC (Enc.list eC (List.length l) (Enc.F eC l)))) s)))) (T.need (Enc.Is eI (List.length (Prod.fst (M.bestRW (Enc.list eC (List.length l) (Enc.F eC l)) s))) (Enc.F eI (Prod.fst (M.bestRW (Enc.list eC (List.length l) (Enc.F eC l)) s)))) (T.need (List.length (Enc.list eI (List.length (Prod.fst (M.best30 (Enc.list eC (List.length l) (Enc.F eC (Enc.list eC (List.length l) (Enc.F eC l)))) s))) (Enc.F eI (Prod.fst (M.best30 (Enc.list eC (List.length l) (Enc.F eC (Enc.list eC (List.length l) (Enc.F eC l)))) s)))) ≤ (1000000 : Nat)) (T.br (M.intsEq (Enc.list eI (List.length (Prod.fst (M.best30 (Enc.list eC (List.length l) (Enc.F eC (Enc.list eC (List.length l) (Enc.F eC l)))) s))) (Enc.F eI (Prod.fst (M.best30 (Enc.list eC (List.length l) (Enc.F eC (Enc.list eC (List.length l) (Enc.F eC l)))) s)))) (Enc.list eI (List.length (Prod.fst (M.bestRW (Enc.list eC (List.length l) (Enc.F eC l)) s))) (Enc.F eI (Prod.fst (M.bestRW (Enc.list eC (List.length l) (Enc.F eC l)) s))))) (T.ret [Ar.c (D.bool (Prod.fst (Prod.snd (M.best30 (Enc.list eC (List.length l) (Enc.F eC (Enc.list eC (List.length l) (Enc.F eC l)))) s)) == Prod.fst (Prod.snd (M.bestRW (Enc.list eC (List.length l) (Enc.F eC l)) s))))]) (T.ret [Ar.c (D.bool false)]))))) (T.ret [Ar.c (D.bool false)]))))))))))))))))
theorem t6 (q_l : Bool) (l : List Cask) (sv l0 h0 l1 h1 l2 h2 l3 h3 : Int) : runFnX Try.prog G0 (lookS [v18, v29, v21, v30, v31, v32, v33, v34]) (fun _ => []) [] 1 20 3 6 Try.f6 [.c (.sl q_l l.length 7 (eC.F l)), .agg [dI sv, dI l0, dI h0, dI l1, dI h1, dI l2, dI h2, dI l3, dI h3]] =
    tr6 l (⟨sv, ⟨l0, h0⟩, ⟨l1, h1⟩, ⟨l2, h2⟩, ⟨l3, h3⟩⟩ : Sample) := by kernel_rfl
theorem w6 (l : List Cask) (s : Sample) : (tr6 l s).wp (fun rs => rsEqv rs [rB true]) := by
  unfold tr6
  simp only [Enc.list_F]
  refine wp_br (fun hb => absurd hb (by decide)) (fun _ => ⟨Enc.is_F _ _ _, wp_br (fun _ => rsEqv_refl _) (fun hb => ?_)⟩)
  have hs : M.someN 6 l = true := by simpa using hb
  obtain ⟨hl, hn⟩ := someN_small hs
  have hn' : ∀ c, c ∈ l → c.nm.size ≤ 1000000 := fun c hc => Nat.le_trans (hn c hc) (by decide)
  have hl' : l.length ≤ 1000000 := by omega
  have hl5 : l.length ≤ 100000 := by omega
  have hW : M.wholeErr l = (M.checkCasks l).2 := rfl
  have hE : M.first [(M.checkCasks l).2, M.checkSample s] = if M.wholeErr l = 0 then M.first [M.checkSample s] else M.wholeErr l := first_cons _ _
  by_cases h1 : M.wholeErr l = 0
  · rw [if_pos h1] at hE
    have hck : (M.checkCasks l).2 = 0 := h1
    by_cases h2 : M.checkSample s = 0
    · have hE2 : M.first [M.checkSample s] = if M.checkSample s = 0 then M.first [] else M.checkSample s := first_cons _ _
      rw [if_pos h2] at hE2
      rw [hE2] at hE
      have hE : M.first [(M.checkCasks l).2, M.checkSample s] = 0 := hE
      have em : M.best30 l s = M.bestRW l s := by unfold M.best30; rw [hE]; rfl
      have hb10 : (M.bestRW l s).1.length ≤ 1000000 := bestRW_len (casks_ten hck) s
      have hq : M.intsEq (M.bestRW l s).1 (M.bestRW l s).1 = true := by unfold M.intsEq; exact decide_eq_true rfl
      simp only [em, h1, h2, hck, hq, ne_false, beq_self_eq_true, bne_self_eq_false, Bool.and_self, Bool.and_true, Bool.not_true, wp_needE, wp_true, wp_false]
      repeat' first | exact Enc.is_F _ _ _ | assumption | exact rsEqv_refl _ | exact fun _ => rsEqv_refl _ | exact fun e => absurd e (by decide) | constructor
    · have hE2 : M.first [M.checkSample s] = if M.checkSample s = 0 then M.first [] else M.checkSample s := first_cons _ _
      rw [if_neg h2] at hE2
      rw [hE2] at hE
      have em : M.best30 l s = ([], 0, M.checkSample s) := by unfold M.best30; rw [hE, ne_true h2]; rfl
      simp only [em, h1, ne_true h2, beq_of_ne h2, hck, ne_false, beq_self_eq_true, bne_self_eq_false, Bool.and_self, Bool.and_true, Bool.not_true, wp_needE, wp_true, wp_false, List.length_nil]
      repeat' first | exact Enc.is_F _ _ _ | assumption | exact rsEqv_refl _ | exact fun _ => rsEqv_refl _ | exact fun e => absurd e (by decide) | constructor
  · rw [if_neg h1] at hE
    have em : M.best30 l s = ([], 0, M.wholeErr l) := by unfold M.best30; rw [hE, ne_true h1]; rfl
    simp only [em, ne_true h1, beq_of_ne h1, ne_false, beq_self_eq_true, bne_self_eq_false, Bool.and_self, Bool.and_true, Bool.not_true, wp_needE, wp_true, wp_false, List.length_nil]
    repeat' first | exact Enc.is_F _ _ _ | assumption | exact rsEqv_refl _ | exact fun _ => rsEqv_refl _ | exact fun e => absurd e (by decide) | constructor
def dom6 : DomF
  | [.c (.sl _ n_l st_l F_l), .agg [.int .i64 sv, .int .i64 l0, .int .i64 h0, .int .i64 l1, .int .i64 h1, .int .i64 l2, .int .i64 h2, .int .i64 l3, .int .i64 h3]] => (match Nat.beq st_l 7 with
    | true => some ([eC.Is n_l F_l], [rB true])
    | _ => none)
  | _ => none
theorem C6 : FOK Try.prog G0 gw 6 dom6 := by
  intro ags p r hd hp κ w xs hw hl hG hx
  unfold dom6 at hd
  split at hd
  · rename_i q_l n_l st_l F_l sv l0 h0 l1 h1 l2 h2 l3 h3
    split at hd
    · rename_i hst
      have g1 := hst
      have g1 := Nat.eq_of_beq_eq_true g1
      subst g1
      simp only [Option.some.injEq, Prod.mk.injEq] at hd
      obtain ⟨rfl, rfl⟩ := hd
      obtain ⟨hI_l, hp⟩ := hp
      have heq : agsEqv [.c (.sl q_l n_l 7 F_l), .agg [.int .i64 sv, .int .i64 l0, .int .i64 h0, .int .i64 l1, .int .i64 h1, .int .i64 l2, .int .i64 h2, .int .i64 l3, .int .i64 h3]] [.c (.sl q_l (eC.list n_l F_l).length 7 (eC.F (eC.list n_l F_l))), .agg [.int .i64 sv, .int .i64 l0, .int .i64 h0, .int .i64 l1, .int .i64 h1, .int .i64 l2, .int .i64 h2, .int .i64 l3, .int .i64 h3]] := ⟨eC.to id hI_l, Ag.eqv_refl _, trivial⟩
      have len_l : (eC.list n_l F_l).length = n_l := eC.list_len
      generalize eC.list n_l F_l = l at *
      subst len_l
      exact fokX_fin mixed gw_stable (sl := [v18, v29, v21, v30, v31, v32, v33, v34]) ⟨S18, S29, S21, S30, S31, S32, S33, S34, trivial⟩ Try.func6 hw hl hG hx heq rfl (t6 q_l l sv l0 h0 l1 h1 l2 h2 l3 h3) (w6 l _)
    · cases hd
  · cases hd
end Go.Bl
end

section
set_option linter.unusedVariables false
set_option linter.unusedSimpArgs false
namespace Go.Rw
open Go Go.ChangeShapes Go.WideShapes Go.RowKit Go.ChangeAt
open Go.V (F2 D fullK fullK_cell f2_append f2_len f2_get)
section
variable {H : Type} {enc : TypeId × Value → H} {P : Program} {w : World} {base : Nat} {sp : Nat → Bool} {hd : Bool}
theorem trodAll_below (hl : laidOutB P = true) {W W' : World} (hb : Below W.heap.size W W') : ∀ {ts : List TypeId} {vs : List Value} {ds : List (DataW H)} {ps : List MemPlace},
    (∀ t ∈ ts, P.readableRec t = true ∧ t < P.types.size) → DataW.TrodAll enc P W 0 (fun _ => true) true ts vs ds ps → (∀ x ∈ ps, x.block < W.heap.size) →
    DataW.TrodAll enc P W' 0 (fun b => decide (b < W.heap.size)) true ts vs ds ps
  | [], _, _, _, _, h, _ => by
    obtain ⟨rfl, rfl, rfl⟩ := trodAll_nil h
    exact trodAll_mk0
  | t :: ts, _, _, _, hr, h, hlt => by
    obtain ⟨v, vs1, d, ds1, a, b, rfl, rfl, rfl, h1, h2⟩ := trodAll_cons h
    refine ⟨a, b, ?_, trodAll_below hl hb (fun u hu => hr u (List.mem_cons_of_mem _ hu)) h2 fun x hx => hlt x (List.mem_append_right _ hx), rfl⟩
    have ht := hr t (List.mem_cons_self ..)
    exact Below.trod hl ht.1 ht.2 h1 hb fun x hx => hlt x (List.mem_append_left _ hx)
theorem law_post {fn : Func} {s : ChangeSpec} {apart fresh handsOn : Bool} {W W' : World} {args : Array Value} {ds gs : List (DataW H)} {before : List MemPlace} {tb : TypeId} (hl : laidOutB P = true)
    (hr : ∀ t ∈ fn.params.toList, P.readableRec t = true ∧ t < P.types.size) (hv : s.vars = []) (hrt : fn.resultTypes = #[tb]) (hbool : P.underlying tb = some .bool)
    (hfn : s.fn H ds = { results := [.lit (.bool true)], args := ds })
    (hW : DataW.Whole enc P fn.params.toList s.vars apart W args.toList ds gs before) (hb : Below W.heap.size W W') : s.post enc P fn apart fresh handsOn false W args (.bool true) W' := by
  have hW' := hW
  obtain ⟨p, q, hA, hV, rfl, _, _⟩ := hW'
  have hlt : ∀ x ∈ p ++ q, x.block < W.heap.size := fun x hx => hW.lt x hx
  rw [hv] at hV
  have hgs : gs = [] ∧ q = [] := by
    cases gs with
    | nil => exact ⟨rfl, hV⟩
    | cons g r => exact absurd hV (by intro h; cases h)
  obtain ⟨rfl, rfl⟩ := hgs
  have e : s.fn H (ds ++ []) = { results := [.lit (.bool true)], args := ds } := by rw [List.append_nil]; exact hfn
  refine ⟨ds, [], _, [], p, [], hW, ?_, ?_, ?_, hb.frame _, fun h => by cases h⟩
  · rw [e, hrt]
    exact trodAll_mk1 (shut_bool hbool true)
  · rw [e]
    exact trodAll_below hl hb hr hA fun x hx => hlt x (List.mem_append_left _ hx)
  · rw [e, hv]
    rfl
end
end Go.Rw
end

section
set_option linter.unusedVariables false
set_option linter.unusedSimpArgs false
namespace Go.Rw
open Go Go.ChangeShapes Go.WideShapes Go.RowKit Go.ChangeAt
open Go.V (F2 D fullK fullK_cell f2_append f2_len f2_get)
inductive SK where
  | i
  | s
  | sl (sh : List SK)
inductive DG : SK → D → Prop where
  | i (n : Int) : DG .i (.int .i64 n)
  | s (t : ByteArray) : DG .s (.str t)
  | sl (sh : List SK) (len : Nat) (F : Nat → Nat → D) (h : ∀ i j k, i < len → sh[j]? = some k → DG k (F i j)) : DG (.sl sh) (.sl false len sh.length F)
def MG (w : World) (k : SK) (v : Value) : Prop := ∃ d, DG k d ∧ D.rel (fullK w) d v
def sgFs (P : Program) (g : TypeId → Option (List SK)) : List Field → Nat → Nat → Option (List SK)
  | [], o, c => (match Nat.beq o c with | true => some [] | false => none)
  | f :: fs, o, c => (match Nat.beq f.offset o, g f.type, sgFs P g fs (o + P.cellsOf f.type) c with
    | true, some a, some b => some (a ++ b)
    | _, _, _ => none)
def sgArr (l : List SK) : Nat → List SK
  | 0 => []
  | n + 1 => l ++ sgArr l n
def sg (P : Program) : Nat → TypeId → Option (List SK)
  | 0, _ => none
  | k + 1, t => match P.underlying t with
    | some (.int .i64) => some [.i]
    | some .string => some [.s]
    | some (.struct fs) => sgFs P (sg P k) fs.toList 0 (P.cellsOf t)
    | some (.array n e) => (match sg P k e, Nat.beq (P.cellsOf t) (n * P.cellsOf e) with | some l, true => some (sgArr l n) | _, _ => none)
    | some (.slice e) => (match sg P k e with | some sh => (match Nat.beq (P.cellsOf e) sh.length && Nat.blt 0 sh.length with | true => some [.sl sh] | false => none) | none => none)
    | _ => none
section
variable {H : Type} {enc : TypeId × Value → H} {P : Program} {w : World} {base : Nat} {sp : Nat → Bool} {hd : Bool}
theorem sgFs_spec {R : SK → Value → Prop} {g : TypeId → Option (List SK)} : ∀ (fs : List Field) (o c : Nat) (cs : List Value) {l : List SK}, sgFs P g fs o c = some l → cs.length = c →
    (∀ f ∈ fs, ∀ l', g f.type = some l' → F2 R l' ((cs.drop f.offset).take (P.cellsOf f.type))) → F2 R l (cs.drop o)
  | [], o, c, cs, l, h, hl, _ => by
    unfold sgFs at h
    split at h
    · rename_i hb
      have : o = c := Nat.eq_of_beq_eq_true hb
      simp only [Option.some.injEq] at h
      subst h
      rw [this, ← hl, List.drop_length]
      exact .nil
    · cases h
  | f :: fs, o, c, cs, l, h, hl, hf => by
    simp only [sgFs] at h
    split at h
    · rename_i a b hb ha hrest
      have ho : f.offset = o := Nat.eq_of_beq_eq_true hb
      simp only [Option.some.injEq] at h
      subst h
      have h1 := hf f (List.mem_cons_self ..) a ha
      have h2 := sgFs_spec fs _ c cs hrest hl fun g hg => hf g (List.mem_cons_of_mem _ hg)
      rw [ho] at h1
      have e : cs.drop o = (cs.drop o).take (P.cellsOf f.type) ++ (cs.drop o).drop (P.cellsOf f.type) := (List.take_append_drop _ _).symm
      rw [e, List.drop_drop]
      exact f2_append h1 h2
    · cases h
theorem sgArr_spec {R : SK → Value → Prop} {l : List SK} {c : Nat} : ∀ (n : Nat) (cs : List Value), cs.length = n * c → (∀ i, i < n → F2 R l ((cs.drop (i * c)).take c)) → F2 R (sgArr l n) cs
  | 0, cs, h, _ => by
    have : cs = [] := List.length_eq_zero_iff.1 (by simpa using h)
    subst this
    exact .nil
  | n + 1, cs, h, hf => by
    have h0 := hf 0 (by omega)
    rw [Nat.zero_mul, List.drop_zero] at h0
    have hr := sgArr_spec (c := c) n (cs.drop c) (by rw [List.length_drop, h, Nat.succ_mul]; omega) fun i hi => by
      have := hf (i + 1) (by omega)
      rw [List.drop_drop, show c + i * c = (i + 1) * c by rw [Nat.succ_mul]; omega]
      exact this
    rw [← List.take_append_drop c cs]
    exact f2_append h0 hr
theorem trod_sg : ∀ (k fuel : Nat) (t : TypeId) (cs : List Value) (x : DataW H × List MemPlace) {l : List SK}, sg P k t = some l → DataW.trod enc P w base sp hd fuel t cs = some x → F2 (MG w) l cs
  | 0, _, _, _, _, _, h, _ => by cases h
  | k + 1, fuel, t, cs, x, l, h, hx => by
    unfold sg at h
    split at h
    · rename_i ht
      simp only [Option.some.injEq] at h
      subst h
      obtain ⟨n, rfl, rfl, _⟩ := DataW.trod_int ht hx
      exact .cons ⟨.int .i64 n, .i n, rfl⟩ .nil
    · rename_i ht
      simp only [Option.some.injEq] at h
      subst h
      obtain ⟨s, rfl, rfl, _⟩ := DataW.trod_string ht hx
      exact .cons ⟨.str s, .s s, rfl⟩ .nil
    · rename_i fs ht
      obtain ⟨xs, n, _, rfl, hl, hlen, hf⟩ := DataW.trod_struct ht hx
      have := sgFs_spec (P := P) (R := MG w) fs.toList 0 (P.cellsOf t) cs h hl (by
        intro f hm l' hl'
        obtain ⟨i, hi, hi'⟩ := List.getElem_of_mem hm
        have hgi : fs[i]? = some f := by rw [← Array.getElem?_toList, List.getElem?_eq_getElem hi, hi']
        have hlt : i < xs.length := by rw [hlen]; exact (Array.getElem?_eq_some_iff.1 hgi).1
        have hy : xs[i]? = some xs[i] := List.getElem?_eq_getElem hlt
        have := hf i f hgi
        rw [hy] at this
        exact trod_sg k n f.type _ _ hl' this)
      simpa using this
    · rename_i n e ht
      split at h
      · rename_i l' hl' hcb
        simp only [Option.some.injEq] at h
        subst h
        obtain ⟨xs, m, _, ex, hlen, hl, hel⟩ := DataW.trod_array ht hx
        have hcz : P.cellsOf t = n * P.cellsOf e := Nat.eq_of_beq_eq_true hcb
        refine sgArr_spec (c := P.cellsOf e) n cs (by rw [← hcz]; exact hlen) fun i hi => ?_
        have hlt : i < xs.length := by omega
        have hy : xs[i]? = some xs[i] := List.getElem?_eq_getElem hlt
        have := hel i hi
        rw [hy] at this
        exact trod_sg k m e _ _ hl' this
      · cases h
    · rename_i e ht
      split at h
      · rename_i sh hsh
        split at h
        · rename_i hc
          simp only [Option.some.injEq] at h
          subst h
          rw [Bool.and_eq_true] at hc
          have hn : P.cellsOf e = sh.length := Nat.eq_of_beq_eq_true hc.1
          have hn0 : 0 < sh.length := Nat.le_of_ble_eq_true hc.2
          rcases DataW.trod_slice ht hx with ⟨h1, _⟩ | ⟨a, len0, cap0, elems, rest, n', _, h1, _, _, hlc, _, hel, hget, _⟩
          · rw [h1]
            exact .cons ⟨.sl false 0 sh.length (fun _ _ => .nilp), .sl sh 0 _ (fun i j k hi => by omega), .inl ⟨rfl, rfl, rfl⟩⟩ .nil
          · rw [h1]
            rw [hn] at hget
            have each : ∀ i, i < len0 → ∀ j, j < sh.length → ∃ d, (∀ k', sh[j]? = some k' → DG k' d) ∧ ∃ y, w.cell? ((a.add (i * sh.length)).add j) = some y ∧ D.rel (fullK w) d y := by
              intro i hi j hj
              have hg := hget i hi
              have hlt : i < elems.length := by omega
              rw [List.getElem?_eq_getElem hlt] at hg
              simp only [Option.bind_eq_some_iff] at hg
              obtain ⟨cs, hcs, hx⟩ := hg
              have hF := trod_sg k n' e cs _ hsh hx
              obtain ⟨_, hl, hcell⟩ := World.cells?_some hcs
              obtain ⟨y, hy, hm⟩ := f2_get hF (i := j) (List.getElem?_eq_getElem hj)
              obtain ⟨d, hd1, hd2⟩ := hm
              have hcj := hcell j hj
              exact ⟨d, fun k' hk' => by rw [List.getElem?_eq_getElem hj] at hk'; cases hk'; exact hd1, y, by rw [hcj, hy], hd2⟩
            have spot0 : 0 < len0 → a.spot = none := by
              intro hp
              obtain ⟨_, _, y, hy, _⟩ := each 0 hp 0 hn0
              have := World.cell?_spot hy
              simpa [Addr.add] using this
            refine .cons ⟨.sl false len0 sh.length (fun i j => if h : i < len0 ∧ j < sh.length then Classical.choose (each i h.1 j h.2) else .nilp), .sl sh len0 _ (fun i j k' hi hk' => ?_), .inr ⟨a, cap0, rfl, hlc, spot0, fun i j hi hj => ?_⟩⟩ .nil
            · have hj : j < sh.length := (List.getElem?_eq_some_iff.1 hk').1
              simp only [dif_pos (And.intro hi hj)]
              exact (Classical.choose_spec (each i hi j hj)).1 k' hk'
            · obtain ⟨_, y, hy, hr⟩ := Classical.choose_spec (each i hi j hj)
              have hp : a.spot = none := spot0 (by omega)
              have e1 : (a.add (i * sh.length)).add j = ⟨a.block, a.off + i * sh.length + j, none⟩ := by
                obtain ⟨b, off, spot⟩ := a
                simp only at hp
                subst hp
                rw [Go.WideShapes.add_plain, Go.WideShapes.add_plain]
              rw [e1] at hy
              refine ⟨_, fullK_cell hy, ?_⟩
              simp only [dif_pos (And.intro hi hj)]
              exact hr
        · cases h
      · cases h
    · cases h
theorem open_sl {r : Reach} {b0 : Nat} {t e : TypeId} {v : Value} {d : DataW H} {p : List MemPlace} (k : Nat) {sh : List SK} (ht : P.underlying t = some (.slice e)) (ha : sg P k t = some [.sl sh])
    (hv : Value.okWide P w r b0 t v) (h : DataW.Trod enc P w base sp hd t v d p) : MG w (.sl sh) v := by
  obtain ⟨a0, len0, cap0, rfl⟩ := okWide_slice ht hv
  obtain ⟨fuel, hf⟩ := h
  have hc : (Value.slice a0 len0 cap0).cells.toList = [Value.slice a0 len0 cap0] := rfl
  rw [hc] at hf
  have := trod_sg k fuel t _ _ ha hf
  cases this with
  | cons h _ => exact h
theorem open_st {r : Reach} {b0 : Nat} {t : TypeId} {fs : Array Field} {v : Value} {d : DataW H} {p : List MemPlace} (k : Nat) {l : List SK} (ht : P.underlying t = some (.struct fs)) (ha : sg P k t = some l)
    (hv : Value.okWide P w r b0 t v) (h : DataW.Trod enc P w base sp hd t v d p) : ∃ cs : List Value, F2 (MG w) l cs ∧ v = .agg cs.toArray := by
  obtain ⟨cs, rfl, hsz⟩ := okWide_struct ht hv
  obtain ⟨fuel, hf⟩ := h
  have hF : F2 (MG w) l cs.toList := trod_sg k fuel t _ _ ha hf
  exact ⟨cs.toList, hF, by rw [Array.toArray_toList]⟩
theorem mg_i {v : Value} (h : MG w .i v) : ∃ n, v = .int .i64 n := by
  obtain ⟨d, hd, hr⟩ := h
  cases hd with
  | i n => exact ⟨n, hr⟩
theorem mg_sl {sh : List SK} {v : Value} (h : MG w (.sl sh) v) : ∃ (len : Nat) (F : Nat → Nat → D), (D.sl false len sh.length F).rel (fullK w) v ∧ ∀ i j k, i < len → sh[j]? = some k → DG k (F i j) := by
  obtain ⟨d, hd, hr⟩ := h
  cases hd with
  | sl _ len F hF => exact ⟨len, F, hr, hF⟩
theorem dg_i {d : D} (h : DG .i d) : ∃ n, d = .int .i64 n := by cases h with | i n => exact ⟨n, rfl⟩
theorem dg_s {d : D} (h : DG .s d) : ∃ n, d = .str n := by cases h with | s n => exact ⟨n, rfl⟩
end
end Go.Rw
end
