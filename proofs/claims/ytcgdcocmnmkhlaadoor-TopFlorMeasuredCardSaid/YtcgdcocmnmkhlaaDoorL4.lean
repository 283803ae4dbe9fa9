/- Chapter 3, plain laws: every permitted rate. -/
import Derived.Test.YtcgdcocmnmkhlaaDoorL3
import Derived.Test.YtcgdcocmnmkhlaaDoorL2
set_option linter.unusedVariables false
set_option linter.unusedSimpArgs false
namespace Go.Fl.L
open Go.Fl.M
theorem prod_le {a b c d : Int} (ha : 0 ≤ a) (hab : a ≤ b) (hc : 0 ≤ c) (hcd : c ≤ d) : a * c ≤ b * d := (mul_le (by omega) hab hc hcd).2
theorem floor_nonneg {n b : Int} (hb : 0 < b) (h1 : 0 ≤ n) (h2 : n ≤ 1000000000000000000) : 0 ≤ floor n b :=
  (le_floor hb (by omega) h2).2 (by omega)
theorem ceiling_nonneg {n b : Int} (hb : 0 < b) (h1 : 0 ≤ n) (h2 : n ≤ 1000000000000000000) : 0 ≤ ceiling n b := by
  have := ceiling_mul hb (n := n) (by omega) h2
  apply Classical.byContradiction
  intro h
  have h3 : ceiling n b ≤ -1 := by omega
  have := Int.mul_le_mul_of_nonneg_right h3 (by omega : 0 ≤ b)
  omega
theorem after_two {w : Wine} {r : Rate} {d : Int} (h : taskErr w r d = 0) : ((After w r d).2 = 0 ∧ (After w r d).1 = after w r d ∧ (after w r d).s1 ≤ 10000 ∧ (after w r d).c1 ≤ 100000) ∨ (After w r d).2 = 8 := by
  rw [after_eq h]
  unfold rAfter
  rw [rAfterW_eq]
  by_cases h1 : (after w r d).s1 > 10000
  · right; rw [decide_eq_true h1]; rfl
  · by_cases h2 : (after w r d).c1 > 100000
    · right; rw [decide_eq_false h1, decide_eq_true h2]; rfl
    · left; rw [decide_eq_false h1, decide_eq_false h2]; exact ⟨rfl, rfl, by omega, by omega⟩
structure TrueIn (w : Wine) (r : Rate) (d v s c p q : Int) : Prop where
  loss : between (W (v * W (p * d))) 1000000 (rLossOf w r d) = true
  vol : between (W (v * W (1000000 - W (p * d)))) 1000000 ⟨(after w r d).v0, (after w r d).v1⟩ = true
  str : between (W (s * W (1000000 - W (q * d)))) (W (1000000 - W (p * d))) ⟨(after w r d).s0, (after w r d).s1⟩ = true
  sug : between (W (c * 1000000)) (W (1000000 - W (p * d))) ⟨(after w r d).c0, (after w r d).c1⟩ = true
  ne : W (1000000 - W (p * d)) ≠ 0
theorem true_in {w : Wine} {r : Rate} {d v s c p q : Int} (h : taskErr w r d = 0) (hv : w.v0 ≤ v ∧ v ≤ w.v1) (hs : w.s0 ≤ s ∧ s ≤ w.s1) (hc : w.c0 ≤ c ∧ c ≤ w.c1) (hp : r.a ≤ p ∧ p ≤ r.b) (hq : r.c ≤ q ∧ q ≤ r.d) :
    TrueIn w r d v s c p q := by
  obtain ⟨⟨w1, w2, w3, w4, w5, w6, w7, w8, w9⟩, ⟨r1, r2, r3, r4, r5, r6⟩, d0, d1⟩ := taskErr_zero.1 h
  obtain ⟨e1, e2, b1, b2, b3⟩ := left_eq (r := r.w) r1 r2 r3 d0 d1
  obtain ⟨e3, e4, b4, b5, b6⟩ := left_eq (r := r.al) r4 r5 r6 d0 d1
  have ea : r.w.lo = r.a := rfl
  have eb : r.w.hi = r.b := rfl
  have ec : r.al.lo = r.c := rfl
  have ed : r.al.hi = r.d := rfl
  rw [eb] at e1; rw [ea] at e2; rw [ed] at e3; rw [ec] at e4
  have p1 := prod_le r1 hp.1 d0 (Int.le_refl d)
  have p2 := prod_le (by omega) hp.2 d0 (Int.le_refl d)
  have q1 := prod_le r4 hq.1 d0 (Int.le_refl d)
  have q2 := prod_le (by omega) hq.2 d0 (Int.le_refl d)
  have n1 := mul_le (by omega : 0 ≤ r.a) (by omega : r.a ≤ 2000) d0 d1
  have n2 := mul_le (by omega : 0 ≤ r.b) (by omega : r.b ≤ 2000) d0 d1
  have n3 := mul_le (by omega : 0 ≤ r.c) (by omega : r.c ≤ 2000) d0 d1
  have n4 := mul_le (by omega : 0 ≤ r.d) (by omega : r.d ≤ 2000) d0 d1
  have ef : W (p * d) = p * d := W_id (by omega) (by omega)
  have eq' : W (q * d) = q * d := W_id (by omega) (by omega)
  have el : W (1000000 - p * d) = 1000000 - p * d := W_id (by omega) (by omega)
  have es : W (1000000 - q * d) = 1000000 - q * d := W_id (by omega) (by omega)
  -- the left ones
  generalize hL : (left r.w d).lo = wl at *
  generalize hH : (left r.w d).hi = wh at *
  generalize hAL : (left r.al d).lo = al at *
  generalize hAH : (left r.al d).hi = ah at *
  generalize hF : p * d = f at *
  generalize hG : q * d = g at *
  constructor
  · rw [hF, ef]
    have t0 := mul_le (by omega : 0 ≤ w.v0) (by omega : w.v0 ≤ 100000) (by omega : 0 ≤ r.a) (by omega : r.a ≤ 2000)
    have t1 := mul_le (by omega : 0 ≤ w.v1) (by omega : w.v1 ≤ 100000) (by omega : 0 ≤ r.b) (by omega : r.b ≤ 2000)
    have t2 := mul_le (by omega : 0 ≤ v) (by omega : v ≤ 100000) (by omega : 0 ≤ f) (by omega : f ≤ 730000)
    have u0 := mul_le t0.1 t0.2 d0 d1
    have u1 := mul_le t1.1 t1.2 d0 d1
    have x0 : W (W (w.v0 * r.a) * d) = w.v0 * (r.a * d) := by rw [W_id (n := w.v0 * r.a) (by omega) (by omega), W_id (by omega) (by omega), Int.mul_assoc]
    have x1 : W (W (w.v1 * r.b) * d) = w.v1 * (r.b * d) := by rw [W_id (n := w.v1 * r.b) (by omega) (by omega), W_id (by omega) (by omega), Int.mul_assoc]
    rw [Int.mul_assoc] at u0 u1
    have xv : W (v * f) = v * f := W_id (by omega) (by omega)
    rw [xv]
    unfold rLossOf
    rw [x0, x1]
    have y0 := floor_mul (n := w.v0 * (r.a * d)) (b := 1000000) (by omega) (by omega) (by omega)
    have y1 := ceiling_mul (n := w.v1 * (r.b * d)) (b := 1000000) (by omega) (by omega) (by omega)
    have z0 := prod_le (by omega : 0 ≤ w.v0) hv.1 n1.1 p1
    have z1 := prod_le (by omega : 0 ≤ v) hv.2 (by omega : 0 ≤ f) p2
    exact between_true (by omega) (by omega) (by omega) (by omega) (Int.le_trans y0.1 z0) (Int.le_trans z1 y1.1)
  · rw [hF, ef, el]
    have t2 := mul_le (by omega : 0 ≤ v) (by omega : v ≤ 100000) (by omega : 0 ≤ 1000000 - f) (by omega : 1000000 - f ≤ 1000000)
    have xv : W (v * (1000000 - f)) = v * (1000000 - f) := W_id (by omega) (by omega)
    rw [xv]
    have u0 := mul_le (by omega : 0 ≤ w.v0) (by omega : w.v0 ≤ 100000) (by omega : 0 ≤ wl) (by omega : wl ≤ 1000000)
    have u1 := mul_le (by omega : 0 ≤ w.v1) (by omega : w.v1 ≤ 100000) (by omega : 0 ≤ wh) (by omega : wh ≤ 1000000)
    simp only [after, hL, hH]
    rw [W_id (n := w.v0 * wl) (by omega) (by omega), W_id (n := w.v1 * wh) (by omega) (by omega)]
    have y0 := floor_mul (n := w.v0 * wl) (b := 1000000) (by omega) (by omega) (by omega)
    have y1 := ceiling_mul (n := w.v1 * wh) (b := 1000000) (by omega) (by omega) (by omega)
    have z0 := prod_le (by omega : 0 ≤ w.v0) hv.1 (by omega : 0 ≤ wl) (by omega : wl ≤ 1000000 - f)
    have z1 := prod_le (by omega : 0 ≤ v) hv.2 (by omega : 0 ≤ 1000000 - f) (by omega : 1000000 - f ≤ wh)
    exact between_true (by omega) (by omega) (by omega) (by omega) (Int.le_trans y0.1 z0) (Int.le_trans z1 y1.1)
  · rw [hF, hG, ef, el, eq', es]
    have t2 := mul_le (by omega : 0 ≤ s) (by omega : s ≤ 10000) (by omega : 0 ≤ 1000000 - g) (by omega : 1000000 - g ≤ 1000000)
    have xv : W (s * (1000000 - g)) = s * (1000000 - g) := W_id (by omega) (by omega)
    rw [xv]
    have u0 := mul_le (by omega : 0 ≤ w.s0) (by omega : w.s0 ≤ 10000) (by omega : 0 ≤ al) (by omega : al ≤ 1000000)
    have u1 := mul_le (by omega : 0 ≤ w.s1) (by omega : w.s1 ≤ 10000) (by omega : 0 ≤ ah) (by omega : ah ≤ 1000000)
    simp only [after, hL, hH, hAL, hAH]
    rw [W_id (n := w.s0 * al) (by omega) (by omega), W_id (n := w.s1 * ah) (by omega) (by omega)]
    have y0 := floor_mul (n := w.s0 * al) (b := wh) (by omega) (by omega) (by omega)
    have y1 := ceiling_mul (n := w.s1 * ah) (b := wl) (by omega) (by omega) (by omega)
    have y2 := floor_nonneg (n := w.s0 * al) (b := wh) (by omega) (by omega) (by omega)
    have y3 := ceiling_nonneg (n := w.s1 * ah) (b := wl) (by omega) (by omega) (by omega)
    have z0 := prod_le (by omega : 0 ≤ w.s0) hs.1 (by omega : 0 ≤ al) (by omega : al ≤ 1000000 - g)
    have z1 := prod_le (by omega : 0 ≤ s) hs.2 (by omega : 0 ≤ 1000000 - g) (by omega : 1000000 - g ≤ ah)
    have k0 := Int.mul_le_mul_of_nonneg_left (by omega : 1000000 - f ≤ wh) y2
    have k1 := Int.mul_le_mul_of_nonneg_left (by omega : wl ≤ 1000000 - f) y3
    exact between_true (by omega) (by omega) (by omega) (by omega) (Int.le_trans k0 (Int.le_trans y0.1 z0)) (Int.le_trans z1 (Int.le_trans y1.1 k1))
  · rw [hF, ef, el]
    have xv : W (c * 1000000) = c * 1000000 := W_id (by omega) (by omega)
    rw [xv]
    simp only [after, hL, hH]
    rw [W_id (n := w.c0 * 1000000) (by omega) (by omega), W_id (n := w.c1 * 1000000) (by omega) (by omega)]
    have y0 := floor_mul (n := w.c0 * 1000000) (b := wh) (by omega) (by omega) (by omega)
    have y1 := ceiling_mul (n := w.c1 * 1000000) (b := wl) (by omega) (by omega) (by omega)
    have y2 := floor_nonneg (n := w.c0 * 1000000) (b := wh) (by omega) (by omega) (by omega)
    have y3 := ceiling_nonneg (n := w.c1 * 1000000) (b := wl) (by omega) (by omega) (by omega)
    have k0 := Int.mul_le_mul_of_nonneg_left (by omega : 1000000 - f ≤ wh) y2
    have k1 := Int.mul_le_mul_of_nonneg_left (by omega : wl ≤ 1000000 - f) y3
    exact between_true (by omega) (by omega) (by omega) (by omega) (Int.le_trans k0 (Int.le_trans y0.1 (by omega))) (Int.le_trans (by omega : c * 1000000 ≤ w.c1 * 1000000) (Int.le_trans y1.1 k1))
  · rw [hF, ef, el]; omega
end Go.Fl.L
