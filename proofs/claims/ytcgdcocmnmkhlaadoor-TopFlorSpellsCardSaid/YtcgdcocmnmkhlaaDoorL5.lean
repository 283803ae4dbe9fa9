/- Chapter 3, plain laws: rates are found back. -/
import Derived.Test.YtcgdcocmnmkhlaaDoorL4
set_option linter.unusedVariables false
set_option linter.unusedSimpArgs false
namespace Go.Fl.L
open Go.Fl.M
/-- What becomes of a wine within the limits is a wine. -/
theorem after_ok {w : Wine} {r : Rate} {d : Int} (h : taskErr w r d = 0) (hs : (after w r d).s1 ≤ 10000) (hc : (after w r d).c1 ≤ 100000) : OkW (after w r d) ∧ (after w r d).v1 ≤ w.v1 ∧
    ((after w r d).v0 * 1000000 ≤ w.v0 * (1000000 - r.b * d) ∧ w.v1 * (1000000 - r.a * d) ≤ (after w r d).v1 * 1000000) ∧
    ((after w r d).s0 * (1000000 - r.a * d) ≤ w.s0 * (1000000 - r.d * d) ∧ w.s1 * (1000000 - r.c * d) ≤ (after w r d).s1 * (1000000 - r.b * d)) ∧
    (0 ≤ r.a * d ∧ r.a * d ≤ r.b * d ∧ r.b * d ≤ 730000) ∧ (0 ≤ r.c * d ∧ r.c * d ≤ r.d * d ∧ r.d * d ≤ 730000) := by
  obtain ⟨⟨w1, w2, w3, w4, w5, w6, w7, w8, w9⟩, ⟨r1, r2, r3, r4, r5, r6⟩, d0, d1⟩ := taskErr_zero.1 h
  obtain ⟨e1, e2, b1, b2, b3⟩ := left_eq (r := r.w) r1 r2 r3 d0 d1
  obtain ⟨e3, e4, b4, b5, b6⟩ := left_eq (r := r.al) r4 r5 r6 d0 d1
  have ea : r.w.lo = r.a := rfl
  have eb : r.w.hi = r.b := rfl
  have ec : r.al.lo = r.c := rfl
  have ed : r.al.hi = r.d := rfl
  rw [eb] at e1; rw [ea] at e2; rw [ed] at e3; rw [ec] at e4
  have n1 := mul_le (by omega : 0 ≤ r.a) (by omega : r.a ≤ 2000) d0 d1
  have n2 := mul_le (by omega : 0 ≤ r.b) (by omega : r.b ≤ 2000) d0 d1
  have n3 := mul_le (by omega : 0 ≤ r.c) (by omega : r.c ≤ 2000) d0 d1
  have n4 := mul_le (by omega : 0 ≤ r.d) (by omega : r.d ≤ 2000) d0 d1
  have g1 : (after w r d).v0 = floor (W (w.v0 * (left r.w d).lo)) 1000000 := rfl
  have g2 : (after w r d).v1 = ceiling (W (w.v1 * (left r.w d).hi)) 1000000 := rfl
  have g3 : (after w r d).s0 = floor (W (w.s0 * (left r.al d).lo)) (left r.w d).hi := rfl
  have g4 : (after w r d).s1 = ceiling (W (w.s1 * (left r.al d).hi)) (left r.w d).lo := rfl
  have g5 : (after w r d).c0 = floor (W (w.c0 * 1000000)) (left r.w d).hi := rfl
  have g6 : (after w r d).c1 = ceiling (W (w.c1 * 1000000)) (left r.w d).lo := rfl
  have u0 := mul_le (by omega : 0 ≤ w.v0) (by omega : w.v0 ≤ 100000) (by omega : 0 ≤ (left r.w d).lo) (by omega : (left r.w d).lo ≤ 1000000)
  have u1 := mul_le (by omega : 0 ≤ w.v1) (by omega : w.v1 ≤ 100000) (by omega : 0 ≤ (left r.w d).hi) (by omega : (left r.w d).hi ≤ 1000000)
  have u2 := mul_le (by omega : 0 ≤ w.s0) (by omega : w.s0 ≤ 10000) (by omega : 0 ≤ (left r.al d).lo) (by omega : (left r.al d).lo ≤ 1000000)
  have u3 := mul_le (by omega : 0 ≤ w.s1) (by omega : w.s1 ≤ 10000) (by omega : 0 ≤ (left r.al d).hi) (by omega : (left r.al d).hi ≤ 1000000)
  rw [W_id (by omega) (by omega)] at g1 g2 g3 g4 g5 g6
  have y1 := floor_mul (n := w.v0 * (left r.w d).lo) (b := 1000000) (by omega) (by omega) (by omega)
  have y2 := ceiling_mul (n := w.v1 * (left r.w d).hi) (b := 1000000) (by omega) (by omega) (by omega)
  have y3 := floor_mul (n := w.s0 * (left r.al d).lo) (b := (left r.w d).hi) (by omega) (by omega) (by omega)
  have y4 := ceiling_mul (n := w.s1 * (left r.al d).hi) (b := (left r.w d).lo) (by omega) (by omega) (by omega)
  have y5 := floor_mul (n := w.c0 * 1000000) (b := (left r.w d).hi) (by omega) (by omega) (by omega)
  have y6 := ceiling_mul (n := w.c1 * 1000000) (b := (left r.w d).lo) (by omega) (by omega) (by omega)
  have z1 := floor_nonneg (n := w.v0 * (left r.w d).lo) (b := 1000000) (by omega) (by omega) (by omega)
  have z3 := floor_nonneg (n := w.s0 * (left r.al d).lo) (b := (left r.w d).hi) (by omega) (by omega) (by omega)
  have z5 := floor_nonneg (n := w.c0 * 1000000) (b := (left r.w d).hi) (by omega) (by omega) (by omega)
  have z4 := ceiling_nonneg (n := w.s1 * (left r.al d).hi) (b := (left r.w d).lo) (by omega) (by omega) (by omega)
  have z6 := ceiling_nonneg (n := w.c1 * 1000000) (b := (left r.w d).lo) (by omega) (by omega) (by omega)
  rw [← g1] at y1 z1
  rw [← g2] at y2
  rw [← g3] at y3 z3
  rw [← g4] at y4 z4
  rw [← g5] at y5 z5
  rw [← g6] at y6 z6
  have m1 : r.a * d ≤ r.b * d := Int.mul_le_mul_of_nonneg_right r2 d0
  have m2 : r.c * d ≤ r.d * d := Int.mul_le_mul_of_nonneg_right r5 d0
  have k1 := prod_le w1 w2 (by omega : 0 ≤ (left r.w d).lo) b2
  have k2 := prod_le w4 w5 (by omega : 0 ≤ (left r.al d).lo) b5
  have k3 := (mul_le (by omega : 0 ≤ w.v1) (Int.le_refl w.v1) (by omega : 0 ≤ (left r.w d).hi) (by omega : (left r.w d).hi ≤ 1000000)).2
  have o1 : (after w r d).v0 ≤ (after w r d).v1 := by omega
  have o2 : (after w r d).v1 ≤ w.v1 := by omega
  have o3 : (after w r d).s0 ≤ (after w r d).s1 := by
    apply Classical.byContradiction
    intro hn
    have h1 : (after w r d).s1 + 1 ≤ (after w r d).s0 := by omega
    have h2 := prod_le (by omega : 0 ≤ (after w r d).s1 + 1) h1 (by omega : 0 ≤ (left r.w d).lo) b2
    rw [Int.add_mul, Int.one_mul] at h2
    omega
  have o5 : (after w r d).c0 ≤ (after w r d).c1 := by
    apply Classical.byContradiction
    intro hn
    have h1 : (after w r d).c1 + 1 ≤ (after w r d).c0 := by omega
    have h2 := prod_le (by omega : 0 ≤ (after w r d).c1 + 1) h1 (by omega : 0 ≤ (left r.w d).lo) b2
    rw [Int.add_mul, Int.one_mul] at h2
    omega
  rw [e1] at y1 y4
  rw [e2] at y2 y3
  rw [e3] at y3
  rw [e4] at y4
  exact ⟨⟨z1, o1, by omega, z3, o3, hs, z5, o5, hc⟩, o2, ⟨y1.1, y2.1⟩, ⟨y3.1, y4.1⟩, ⟨n1.1, m1, n2.2⟩, ⟨n3.1, m2, n4.2⟩⟩

/-- THE RATE LIES IN WHAT IS TOLD. b: before, x: behind; the numbers are amounts. -/
theorem rate_in {b0 b1 x0 x1 lo hi d : Int} (hb0 : 0 < b0) (hb : b0 ≤ b1) (hb1 : b1 ≤ 1000000000) (hx0 : 0 ≤ x0) (hx1 : 0 ≤ x1) (hx1' : x1 ≤ 1000000000) (hx0' : x0 ≤ 1000000000) (hd : 1 ≤ d) (hd1 : d ≤ 365)
    (hlo : 0 ≤ lo) (hll : lo ≤ hi) (hhi : hi ≤ 2000) (h1 : b1 * (1000000 - lo * d) ≤ x1 * 1000000) (h0 : x0 * 1000000 ≤ b0 * (1000000 - hi * d)) :
    (rateOf ⟨b0, b1⟩ ⟨x0, x1⟩ d).lo ≤ lo ∧ hi ≤ (rateOf ⟨b0, b1⟩ ⟨x0, x1⟩ d).hi := by
  have n1 := mul_le hlo (by omega : lo ≤ 2000) (by omega : 0 ≤ d) hd1
  have n2 := mul_le (by omega : 0 ≤ hi) hhi (by omega : 0 ≤ d) hd1
  have d0 := mul_le (by omega : 0 ≤ b0) (by omega : b0 ≤ 1000000000) (by omega : 0 ≤ d) hd1
  have d1 := mul_le (by omega : 0 ≤ b1) hb1 (by omega : 0 ≤ d) hd1
  have q0 : 0 < b0 * d := Int.mul_pos hb0 (by omega)
  have q1 : 0 < b1 * d := Int.mul_pos (by omega) (by omega)
  have k1 : b0 * (1000000 - lo * d) ≤ b1 * (1000000 - lo * d) := Int.mul_le_mul_of_nonneg_right hb (by omega)
  have k2 : b0 * (1000000 - hi * d) ≤ b1 * (1000000 - hi * d) := Int.mul_le_mul_of_nonneg_right hb (by omega)
  have x2 : b0 * (1000000 - lo * d) = b0 * 1000000 - lo * (b0 * d) := by rw [Int.mul_sub]; congr 1; rw [← Int.mul_assoc, ← Int.mul_assoc, Int.mul_comm b0 lo]
  have x3 : b1 * (1000000 - hi * d) = b1 * 1000000 - hi * (b1 * d) := by rw [Int.mul_sub]; congr 1; rw [← Int.mul_assoc, ← Int.mul_assoc, Int.mul_comm b1 hi]
  unfold rateOf
  simp only
  have a1 : W (1000000 * W (b0 - x1)) = 1000000 * (b0 - x1) := by rw [W_id (n := b0 - x1) (by omega) (by omega), W_id (by omega) (by omega)]
  have a2 : W (1000000 * W (b1 - x0)) = 1000000 * (b1 - x0) := by rw [W_id (n := b1 - x0) (by omega) (by omega), W_id (by omega) (by omega)]
  have a3 : W (b0 * d) = b0 * d := W_id (by omega) (by omega)
  have a4 : W (b1 * d) = b1 * d := W_id (by omega) (by omega)
  rw [a1, a2, a3, a4]
  constructor
  · have : floor (1000000 * (b0 - x1)) (b0 * d) ≤ lo := by
      apply Int.le_of_lt_add_one
      rw [floor_eq q0 (by omega) (by omega)]
      apply Int.ediv_lt_of_lt_mul q0
      rw [Int.add_mul, Int.one_mul]
      omega
    unfold maxI
    split <;> omega
  · have : hi ≤ ceiling (1000000 * (b1 - x0)) (b1 * d) := by
      apply Classical.byContradiction
      intro hn
      have h2 : ceiling (1000000 * (b1 - x0)) (b1 * d) ≤ hi - 1 := by omega
      rw [ceiling_le q1 (by omega) (by omega), Int.sub_mul, Int.one_mul] at h2
      omega
    unfold minI
    split <;> omega
end Go.Fl.L
