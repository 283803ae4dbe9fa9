/- Chapter 3, plain laws: rates are found back, the end. -/
import Derived.Test.YtcgdcocmnmkhlaaDoorL5
set_option linter.unusedVariables false
set_option linter.unusedSimpArgs false
namespace Go.Fl.L
open Go.Fl.M
theorem times {a b c d h l k : Int} (ha : 0 ≤ a) (hb : 0 ≤ b) (hd : 0 ≤ d) (hc : 0 ≤ c) (hl : 0 < l) (hk : 0 ≤ k) (hlh : l ≤ h) (h1 : a * h ≤ c * 1000000) (h2 : b * k ≤ d * l) : (a * b) * k ≤ (c * d) * 1000000 := by
  have m : (a * h) * (b * k) ≤ (c * 1000000) * (d * l) := prod_le (Int.mul_nonneg ha (by omega)) h1 (Int.mul_nonneg hb hk) h2
  have m2 : ((a * b) * k) * l ≤ ((a * b) * k) * h := Int.mul_le_mul_of_nonneg_left hlh (Int.mul_nonneg (Int.mul_nonneg ha hb) hk)
  have e1 : (a * h) * (b * k) = ((a * b) * k) * h := by simp only [Int.mul_comm, Int.mul_left_comm, Int.mul_assoc]
  have e2 : (c * 1000000) * (d * l) = ((c * d) * 1000000) * l := by simp only [Int.mul_comm, Int.mul_left_comm, Int.mul_assoc]
  rw [e1, e2] at m
  exact Int.le_of_mul_le_mul_right (Int.le_trans m2 m) hl
theorem times' {a b c d h l k : Int} (ha : 0 ≤ a) (hb : 0 ≤ b) (hd : 0 ≤ d) (hc : 0 ≤ c) (hl : 0 < l) (hk : 0 ≤ k) (hlh : l ≤ h) (h1 : c * 1000000 ≤ a * l) (h2 : d * h ≤ b * k) : (c * d) * 1000000 ≤ (a * b) * k := by
  have m : (c * 1000000) * (d * h) ≤ (a * l) * (b * k) := prod_le (Int.mul_nonneg hc (by omega)) h1 (Int.mul_nonneg hd (by omega)) h2
  have m2 : ((a * b) * k) * l ≤ ((a * b) * k) * h := Int.mul_le_mul_of_nonneg_left hlh (Int.mul_nonneg (Int.mul_nonneg ha hb) hk)
  have e1 : (a * l) * (b * k) = ((a * b) * k) * l := by simp only [Int.mul_comm, Int.mul_left_comm, Int.mul_assoc]
  have e2 : (c * 1000000) * (d * h) = ((c * d) * 1000000) * h := by simp only [Int.mul_comm, Int.mul_left_comm, Int.mul_assoc]
  rw [e1, e2] at m
  exact Int.le_of_mul_le_mul_right (Int.le_trans m m2) (by omega)
theorem common_self (a : Rg) : common a a = a := by
  unfold common maxI minI
  simp
theorem rgIn_self (a : Rg) : rgIn a a = true := by simp [rgIn]
structure Back (w : Wine) (r : Rate) (d : Int) : Prop where
  fv : (after w r d).v1 ≤ 100000
  ff : (RatesOf w (after w r d) d).2 = 0
  fa : (RatesOf w (after w r d) d).1.a ≤ r.a
  fb : r.b ≤ (RatesOf w (after w r d) d).1.b
  fc : (RatesOf w (after w r d) d).1.c ≤ r.c
  fd : r.d ≤ (RatesOf w (after w r d) d).1.d
  fe : Explains r 0 w d (after w r d) = (2, 0)
theorem back {w : Wine} {r : Rate} {d : Int} (h : taskErr w r d = 0) (hd : d ≠ 0) (hv : w.v0 ≠ 0) (hs : w.s0 ≠ 0) (ha : (After w r d).2 = 0) : Back w r d := by
  rcases after_two h with ⟨_, hA, h1, h2⟩ | h8
  · obtain ⟨ok, o2, ⟨v0, v1⟩, ⟨s0, s1⟩, ⟨n1, n2, n3⟩, ⟨n4, n5, n6⟩⟩ := after_ok h h1 h2
    obtain ⟨hw, hr, d0, d1⟩ := taskErr_zero.1 h
    have w1 := hw.v0; have w2 := hw.v; have w3 := hw.v1; have w4 := hw.s0; have w5 := hw.s; have w6 := hw.s1
    have x1 := ok.v0; have x2 := ok.v; have x3 := ok.v1; have x4 := ok.s0; have x5 := ok.s; have x6 := ok.s1
    have m0 := mul_le w1 (by omega : w.v0 ≤ 100000) w4 (by omega : w.s0 ≤ 10000)
    have m1 := mul_le (by omega : 0 ≤ w.v1) w3 (by omega : 0 ≤ w.s1) w6
    have m2 := mul_le x1 (by omega : (after w r d).v0 ≤ 100000) x4 (by omega : (after w r d).s0 ≤ 10000)
    have m3 := mul_le (by omega : 0 ≤ (after w r d).v1) x3 (by omega : 0 ≤ (after w r d).s1) x6
    have e1 : alcohol w = ⟨w.v0 * w.s0, w.v1 * w.s1⟩ := by unfold alcohol; rw [W_id (by omega) (by omega), W_id (by omega) (by omega)]
    have e2 : alcohol (after w r d) = ⟨(after w r d).v0 * (after w r d).s0, (after w r d).v1 * (after w r d).s1⟩ := by unfold alcohol; rw [W_id (by omega) (by omega), W_id (by omega) (by omega)]
    have c1 := rate_in (b0 := w.v0) (b1 := w.v1) (x0 := (after w r d).v0) (x1 := (after w r d).v1) (lo := r.a) (hi := r.b) (d := d) (by omega) w2 (by omega) x1 (by omega) (by omega) (by omega) (by omega) d1 hr.a hr.b hr.b1 v1 v0
    have c2 := rate_in (b0 := w.v0 * w.s0) (b1 := w.v1 * w.s1) (x0 := (after w r d).v0 * (after w r d).s0) (x1 := (after w r d).v1 * (after w r d).s1) (lo := r.c) (hi := r.d) (d := d) (Int.mul_pos (by omega) (by omega)) (prod_le w1 w2 w4 w5) (by omega) m2.1 m3.1 (by omega) (by omega) (by omega) d1 hr.c hr.d hr.d1
      (times (by omega) (by omega) (by omega) (by omega) (by omega) (by omega) (by omega) v1 s1) (times' (by omega) (by omega) (by omega) (by omega) (by omega) (by omega) (by omega) v0 s0)
    have hab := hr.b; have hcd := hr.d
    have k1 : rgOk (rateOf w.v (after w r d).v d) = true := decide_eq_true (Int.le_trans c1.1 (Int.le_trans hab c1.2))
    have k2 : rgOk (rateOf (alcohol w) (alcohol (after w r d)) d) = true := by rw [e1, e2]; exact decide_eq_true (Int.le_trans c2.1 (Int.le_trans hcd c2.2))
    have er : ratesErr w (after w r d) d = 0 := by
      unfold ratesErr
      rw [first_nil]
      simp only [List.mem_cons, List.not_mem_nil, or_false, forall_eq_or_imp, forall_eq]
      refine ⟨checkWine_zero.2 hw, checkWine_zero.2 ok, (unl_zero (by decide)).2 (within_iff.2 ⟨by omega, d1⟩), (unl_zero (by decide)).2 ?_⟩
      rw [decide_eq_true (by omega : w.v0 > 0), cond_true]
      exact decide_eq_true (by omega)
    have R : RatesOf w (after w r d) d = (Rate.mk2 (rateOf w.v (after w r d).v d) (rateOf (alcohol w) (alcohol (after w r d)) d), 0) := by
      unfold RatesOf
      rw [er, rate_eq, rate_eq, k1, k2]
      rfl
    refine ⟨x3, by rw [R], by rw [R]; exact c1.1, by rw [R]; exact c1.2, by rw [R, e1, e2]; exact c2.1, by rw [R, e1, e2]; exact c2.2, ?_⟩
    have ee : explErr r 0 w d (after w r d) = 0 := by
      unfold explErr
      rw [first_nil]
      simp only [List.mem_cons, List.not_mem_nil, or_false, forall_eq_or_imp, forall_eq]
      exact ⟨checkRate_zero.2 hr, measureErr_zero.2 ⟨by omega, hw⟩, measureErr_zero.2 ⟨by omega, ok⟩⟩
    have ed : W (d - 0) = d := by rw [W_id (by omega) (by omega)]; omega
    have eb : betweenErr 0 d = 0 := by
      unfold betweenErr
      rw [first_nil]
      simp only [List.mem_cons, List.not_mem_nil, or_false, forall_eq_or_imp, forall_eq]
      exact ⟨(unl_zero (by decide)).2 (decide_eq_true (by omega)), (unl_zero (by decide)).2 (decide_eq_true (by rw [ed]; exact d1))⟩
    have wo : wOk (commonW (after w r d) (after w r d)) = true := by
      have : commonW (after w r d) (after w r d) = after w r d := by
        unfold commonW
        rw [common_self, common_self, common_self]
        rfl
      rw [this]
      have q1 : rgOk (after w r d).v = true := decide_eq_true x2
      have q2 : rgOk (after w r d).s = true := decide_eq_true x5
      have q3 : rgOk (after w r d).c = true := decide_eq_true ok.c
      unfold wOk
      rw [q1, q2, q3]
      rfl
    have wi : wIn (after w r d) (after w r d) = true := by
      unfold wIn
      rw [rgIn_self, rgIn_self, rgIn_self]
      rfl
    unfold Explains
    rw [ee, eb, ed, ha, hA, wo, wi]
    rfl
  · rw [ha] at h8; cases h8
end Go.Fl.L
