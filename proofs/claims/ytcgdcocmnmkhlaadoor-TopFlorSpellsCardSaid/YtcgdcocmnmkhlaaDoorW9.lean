/- Chapter 3, plain laws: a true wine, its numbers as quotients, lies in what is told behind one spell, and behind two. -/
import Derived.Test.YtcgdcocmnmkhlaaDoorWA
set_option linter.unusedVariables false
set_option linter.unusedSimpArgs false
namespace Go.Fl.L
open Go.Fl.M

/-- A true wine: volume V / A, strength S / B, sugar C / E. -/
structure TrueAt (w : Wine) (V A S B C E : Int) : Prop where
  A0 : 0 < A
  B0 : 0 < B
  E0 : 0 < E
  V0 : w.v0 * A ≤ V
  V1 : V ≤ w.v1 * A
  S0 : w.s0 * B ≤ S
  S1 : S ≤ w.s1 * B
  C0 : w.c0 * E ≤ C
  C1 : C ≤ w.c1 * E
theorem low {y w N D h l g a : Int} (hy : 0 ≤ y) (h1 : y * h ≤ w * a) (hD : 0 ≤ D) (hw : 0 ≤ w) (hN : w * D ≤ N) (ha : 0 ≤ a) (hag : a ≤ g) (hl : 0 ≤ l) (hlh : l ≤ h) : y * (D * l) ≤ N * g := by
  have e1 : y * (D * l) = (y * l) * D := by rw [Int.mul_comm D l, Int.mul_assoc]
  have e2 : (w * a) * D = (w * D) * a := by rw [Int.mul_assoc, Int.mul_comm a D, ← Int.mul_assoc]
  rw [e1]
  have s1 : (y * l) * D ≤ (y * h) * D := Int.mul_le_mul_of_nonneg_right (Int.mul_le_mul_of_nonneg_left hlh hy) hD
  have s2 : (y * h) * D ≤ (w * a) * D := Int.mul_le_mul_of_nonneg_right h1 hD
  have s3 := prod_le (Int.mul_nonneg hw hD) hN ha hag
  rw [e2] at s2
  exact Int.le_trans s1 (Int.le_trans s2 s3)
theorem upp {y w N D h l g a : Int} (hy : 0 ≤ y) (h1 : w * a ≤ y * h) (hD : 0 ≤ D) (hN0 : 0 ≤ N) (hN : N ≤ w * D) (hg : 0 ≤ g) (hag : g ≤ a) (hlh : h ≤ l) : N * g ≤ y * (D * l) := by
  have e1 : y * (D * l) = (y * l) * D := by rw [Int.mul_comm D l, Int.mul_assoc]
  have e2 : (w * a) * D = (w * D) * a := by rw [Int.mul_assoc, Int.mul_comm a D, ← Int.mul_assoc]
  rw [e1]
  have s1 : (y * h) * D ≤ (y * l) * D := Int.mul_le_mul_of_nonneg_right (Int.mul_le_mul_of_nonneg_left hlh hy) hD
  have s2 : (w * a) * D ≤ (y * h) * D := Int.mul_le_mul_of_nonneg_right h1 hD
  have s3 := prod_le hN0 hN hg hag
  rw [e2] at s2
  exact Int.le_trans s3 (Int.le_trans s2 s1)
theorem rate_day {a b p d : Int} (ha : 0 ≤ a) (h1 : a ≤ p) (h2 : p ≤ b) (hb : b ≤ 2000) (d0 : 0 ≤ d) (d1 : d ≤ 365) : a * d ≤ p * d ∧ p * d ≤ b * d ∧ 0 ≤ p * d ∧ p * d ≤ 730000 := by
  have q1 := prod_le ha h1 d0 (Int.le_refl d)
  have q2 := prod_le (by omega) h2 d0 (Int.le_refl d)
  have q3 := mul_le (by omega : 0 ≤ p) (by omega : p ≤ 2000) d0 d1
  omega
theorem true_step {w : Wine} {r : Rate} {d V A S B C E p q : Int} (h : taskErr w r d = 0) (t : TrueAt w V A S B C E) (hp : r.a ≤ p ∧ p ≤ r.b) (hq : r.c ≤ q ∧ q ≤ r.d) :
    TrueAt (after w r d) (V * (1000000 - p * d)) (A * 1000000) (S * (1000000 - q * d)) (B * (1000000 - p * d)) (C * 1000000) (E * (1000000 - p * d)) := by
  obtain ⟨⟨w1, w2, w3, w4, w5, w6, w7, w8, w9⟩, ⟨r1, r2, r3, r4, r5, r6⟩, d0, d1⟩ := taskErr_zero.1 h
  obtain ⟨e1, e2, b1, b2, b3⟩ := left_eq (r := r.w) r1 r2 r3 d0 d1
  obtain ⟨e3, e4, b4, b5, b6⟩ := left_eq (r := r.al) r4 r5 r6 d0 d1
  have ea : r.w.lo = r.a := rfl
  have eb : r.w.hi = r.b := rfl
  have ec : r.al.lo = r.c := rfl
  have ed : r.al.hi = r.d := rfl
  rw [eb] at e1; rw [ea] at e2; rw [ed] at e3; rw [ec] at e4
  obtain ⟨p1, p2, p3, p4⟩ := rate_day r1 hp.1 hp.2 r3 d0 d1
  obtain ⟨q1, q2, q3, q4⟩ := rate_day r4 hq.1 hq.2 r6 d0 d1
  have g1 : (after w r d).v0 = floor (W (w.v0 * (left r.w d).lo)) 1000000 := rfl
  have g2 : (after w r d).v1 = ceiling (W (w.v1 * (left r.w d).hi)) 1000000 := rfl
  have g3 : (after w r d).s0 = floor (W (w.s0 * (left r.al d).lo)) (left r.w d).hi := rfl
  have g4 : (after w r d).s1 = ceiling (W (w.s1 * (left r.al d).hi)) (left r.w d).lo := rfl
  have g5 : (after w r d).c0 = floor (W (w.c0 * 1000000)) (left r.w d).hi := rfl
  have g6 : (after w r d).c1 = ceiling (W (w.c1 * 1000000)) (left r.w d).lo := rfl
  have u0 := mul_le (by omega : 0 ≤ w.v0) (by omega : w.v0 ≤ 100000) (by omega : 0 ≤ (left r.w d).lo) (by omega : (left r.w d).lo ≤ 1000000)
  have u1 := mul_le (by omega : 0 ≤ w.v1) (by omega : w.v1 ≤ 100000) (by omega : 0 ≤ (left r.w d).hi) (by omega : (left r.w d).hi ≤ 1000000)
  have u2 := mul_le (by omega : 0 ≤ w.s0) (by omega : w.s0 ≤ 10000) (by omega : 0 ≤ (left r.al d).lo) (by omega : (left r.al d).lo ≤ 1000000)
  have u3 := mul_le (by omega : 0 ≤ w.s1) (by omega : w.s1 ≤ 10000) (by omega : 0 ≤ (left r.al d).hi) (by omega : (left r.al d).hi ≤ 1000000)
  rw [W_id (by omega) (by omega)] at g1 g2 g3 g4 g5 g6
  have y1 := (floor_mul (n := w.v0 * (left r.w d).lo) (b := 1000000) (by omega) (by omega) (by omega)).1
  have y2 := (ceiling_mul (n := w.v1 * (left r.w d).hi) (b := 1000000) (by omega) (by omega) (by omega)).1
  have y3 := (floor_mul (n := w.s0 * (left r.al d).lo) (b := (left r.w d).hi) (by omega) (by omega) (by omega)).1
  have y4 := (ceiling_mul (n := w.s1 * (left r.al d).hi) (b := (left r.w d).lo) (by omega) (by omega) (by omega)).1
  have y5 := (floor_mul (n := w.c0 * 1000000) (b := (left r.w d).hi) (by omega) (by omega) (by omega)).1
  have y6 := (ceiling_mul (n := w.c1 * 1000000) (b := (left r.w d).lo) (by omega) (by omega) (by omega)).1
  have z1 := floor_nonneg (n := w.v0 * (left r.w d).lo) (b := 1000000) (by omega) (by omega) (by omega)
  have z2 := ceiling_nonneg (n := w.v1 * (left r.w d).hi) (b := 1000000) (by omega) (by omega) (by omega)
  have z3 := floor_nonneg (n := w.s0 * (left r.al d).lo) (b := (left r.w d).hi) (by omega) (by omega) (by omega)
  have z5 := floor_nonneg (n := w.c0 * 1000000) (b := (left r.w d).hi) (by omega) (by omega) (by omega)
  have z4 := ceiling_nonneg (n := w.s1 * (left r.al d).hi) (b := (left r.w d).lo) (by omega) (by omega) (by omega)
  have z6 := ceiling_nonneg (n := w.c1 * 1000000) (b := (left r.w d).lo) (by omega) (by omega) (by omega)
  rw [← g1] at y1 z1
  rw [← g2] at y2 z2
  rw [← g3] at y3 z3
  rw [← g4] at y4 z4
  rw [← g5] at y5 z5
  rw [← g6] at y6 z6
  have A0 := t.A0; have B0 := t.B0; have E0 := t.E0
  have nV : 0 ≤ V := Int.le_trans (Int.mul_nonneg w1 (by omega)) t.V0
  have nS : 0 ≤ S := Int.le_trans (Int.mul_nonneg w4 (by omega)) t.S0
  have nC : 0 ≤ C := Int.le_trans (Int.mul_nonneg w7 (by omega)) t.C0
  refine ⟨by omega, Int.mul_pos B0 (by omega), Int.mul_pos E0 (by omega), ?_, ?_, ?_, ?_, ?_, ?_⟩
  · exact low z1 y1 (by omega) w1 t.V0 (by omega) (by omega) (by omega) (Int.le_refl _)
  · exact upp z2 y2 (by omega) nV t.V1 (by omega) (by omega) (Int.le_refl _)
  · exact low z3 y3 (by omega) w4 t.S0 (by omega) (by omega) (by omega) (by omega)
  · exact upp z4 y4 (by omega) nS t.S1 (by omega) (by omega) (by omega)
  · exact low z5 y5 (by omega) w7 t.C0 (by omega) (Int.le_refl _) (by omega) (by omega)
  · exact upp z6 y6 (by omega) nC t.C1 (by omega) (Int.le_refl _) (by omega)
structure Two (x : Wine) (v s c l1 l2 g1 g2 : Int) : Prop where
  vol : between (W (v * W (W (1 * W (1000000 - W l1)) * W (1000000 - W l2)))) 1000000000000 ⟨x.v0, x.v1⟩ = true
  str : between (W (s * W (W (1 * W (1000000 - W g1)) * W (1000000 - W g2)))) (W (W (1 * W (1000000 - W l1)) * W (1000000 - W l2))) ⟨x.s0, x.s1⟩ = true
  sug : between (W (c * 1000000000000)) (W (W (1 * W (1000000 - W l1)) * W (1000000 - W l2))) ⟨x.c0, x.c1⟩ = true
  ne : W (W (1 * W (1000000 - W l1)) * W (1000000 - W l2)) ≠ 0
theorem two_in {w : Wine} {r u : Rate} {d e v s c p1 p2 q1 q2 : Int} (h1 : taskErr w r d = 0) (h2 : taskErr (after w r d) u e = 0) (hv : w.v0 ≤ v ∧ v ≤ w.v1) (hs : w.s0 ≤ s ∧ s ≤ w.s1) (hc : w.c0 ≤ c ∧ c ≤ w.c1)
    (hp1 : r.a ≤ p1 ∧ p1 ≤ r.b) (hq1 : r.c ≤ q1 ∧ q1 ≤ r.d) (hp2 : u.a ≤ p2 ∧ p2 ≤ u.b) (hq2 : u.c ≤ q2 ∧ q2 ≤ u.d) :
    Two (after (after w r d) u e) v s c (p1 * d) (p2 * e) (q1 * d) (q2 * e) := by
  obtain ⟨ow, or, d0, d1⟩ := taskErr_zero.1 h1
  obtain ⟨ox, ou, e0, e1⟩ := taskErr_zero.1 h2
  have t0 : TrueAt w v 1 s 1 c 1 := ⟨by omega, by omega, by omega, by omega, by omega, by omega, by omega, by omega, by omega⟩
  have t := true_step h2 (true_step h1 t0 hp1 hq1) hp2 hq2
  have a1 := (rate_day or.a hp1.1 hp1.2 or.b1 d0 d1).2.2
  have a2 := (rate_day or.c hq1.1 hq1.2 or.d1 d0 d1).2.2
  have a3 := (rate_day ou.a hp2.1 hp2.2 ou.b1 e0 e1).2.2
  have a4 := (rate_day ou.c hq2.1 hq2.2 ou.d1 e0 e1).2.2
  have w1 := ow.v0; have w3 := ow.v1; have w4 := ow.s0; have w6 := ow.s1; have w7 := ow.c0; have w9 := ow.c1
  generalize p1 * d = l1 at *
  generalize p2 * e = l2 at *
  generalize q1 * d = g1 at *
  generalize q2 * e = g2 at *
  have b1 := mul_le (by omega : 0 ≤ 1000000 - l1) (by omega : 1000000 - l1 ≤ 1000000) (by omega : 0 ≤ 1000000 - l2) (by omega : 1000000 - l2 ≤ 1000000)
  have b2 := mul_le (by omega : 0 ≤ 1000000 - g1) (by omega : 1000000 - g1 ≤ 1000000) (by omega : 0 ≤ 1000000 - g2) (by omega : 1000000 - g2 ≤ 1000000)
  have b3 : 0 < (1000000 - l1) * (1000000 - l2) := Int.mul_pos (by omega) (by omega)
  have f1 : W (W (1 * W (1000000 - W l1)) * W (1000000 - W l2)) = (1000000 - l1) * (1000000 - l2) := by
    rw [W_id (n := l1) (by omega) (by omega), W_id (n := l2) (by omega) (by omega), W_id (n := 1000000 - l1) (by omega) (by omega), W_id (n := 1000000 - l2) (by omega) (by omega), Int.one_mul, W_id (n := 1000000 - l1) (by omega) (by omega), W_id (by omega) (by omega)]
  have f2 : W (W (1 * W (1000000 - W g1)) * W (1000000 - W g2)) = (1000000 - g1) * (1000000 - g2) := by
    rw [W_id (n := g1) (by omega) (by omega), W_id (n := g2) (by omega) (by omega), W_id (n := 1000000 - g1) (by omega) (by omega), W_id (n := 1000000 - g2) (by omega) (by omega), Int.one_mul, W_id (n := 1000000 - g1) (by omega) (by omega), W_id (by omega) (by omega)]
  have V0 := t.V0; have V1 := t.V1; have S0 := t.S0; have S1 := t.S1; have C0 := t.C0; have C1 := t.C1
  rw [Int.mul_assoc v] at V0 V1
  rw [Int.mul_assoc s, Int.one_mul] at S0 S1
  rw [Int.one_mul] at C0 C1
  generalize (1000000 - l1) * (1000000 - l2) = L at *
  generalize (1000000 - g1) * (1000000 - g2) = G at *
  have c1 := mul_le (by omega : 0 ≤ v) (by omega : v ≤ 100000) b1.1 b1.2
  have c2 := mul_le (by omega : 0 ≤ s) (by omega : s ≤ 10000) b2.1 b2.2
  constructor
  · rw [f1, W_id (by omega) (by omega)]
    have k0 : (after (after w r d) u e).v0 * 1000000000000 ≤ v * L := by omega
    have k1 : v * L ≤ (after (after w r d) u e).v1 * 1000000000000 := by omega
    exact between_true (by omega) (by omega) (by omega) (by omega) k0 k1
  · rw [f1, f2, W_id (by omega) (by omega)]
    exact between_true b3 (by omega) (by omega) (by omega) S0 S1
  · rw [f1, W_id (by omega) (by omega)]
    have k0 : (after (after w r d) u e).c0 * L ≤ c * 1000000000000 := by omega
    have k1 : c * 1000000000000 ≤ (after (after w r d) u e).c1 * L := by omega
    exact between_true b3 (by omega) (by omega) (by omega) k0 k1
  · rw [f1]; omega
end Go.Fl.L
