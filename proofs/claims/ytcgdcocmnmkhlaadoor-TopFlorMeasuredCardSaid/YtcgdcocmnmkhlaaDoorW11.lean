/- Chapter 3, plain laws: a true wine that is measured a second time, within ends: it is followed, and its rates are found back. -/
import Derived.Test.YtcgdcocmnmkhlaaDoorW9
set_option linter.unusedVariables false
set_option linter.unusedSimpArgs false
namespace Go.Fl.L
open Go.Fl.M

theorem rate_true {b0 b1 x0 x1 f d : Int} (hb0 : 0 < b0) (hb : b0 ≤ b1) (hb1 : b1 ≤ 1000000000) (hx0 : 0 ≤ x0) (hx1 : 0 ≤ x1) (hx1' : x1 ≤ 1000000000) (hx0' : x0 ≤ 1000000000) (hd : 1 ≤ d) (hd1 : d ≤ 365)
    (hf : 0 ≤ f) (hf2 : f ≤ 2000) (h1 : b0 * (1000000 - f * d) ≤ x1 * 1000000) (h0 : x0 * 1000000 ≤ b1 * (1000000 - f * d)) :
    (rateOf ⟨b0, b1⟩ ⟨x0, x1⟩ d).lo ≤ f ∧ f ≤ (rateOf ⟨b0, b1⟩ ⟨x0, x1⟩ d).hi := by
  have n1 := mul_le hf hf2 (by omega : 0 ≤ d) hd1
  have d0 := mul_le (by omega : 0 ≤ b0) (by omega : b0 ≤ 1000000000) (by omega : 0 ≤ d) hd1
  have d1 := mul_le (by omega : 0 ≤ b1) hb1 (by omega : 0 ≤ d) hd1
  have q0 : 0 < b0 * d := Int.mul_pos hb0 (by omega)
  have q1 : 0 < b1 * d := Int.mul_pos (by omega) (by omega)
  have x2 : b0 * (1000000 - f * d) = b0 * 1000000 - f * (b0 * d) := by rw [Int.mul_sub]; congr 1; rw [← Int.mul_assoc, ← Int.mul_assoc, Int.mul_comm b0 f]
  have x3 : b1 * (1000000 - f * d) = b1 * 1000000 - f * (b1 * d) := by rw [Int.mul_sub]; congr 1; rw [← Int.mul_assoc, ← Int.mul_assoc, Int.mul_comm b1 f]
  unfold rateOf
  simp only
  have a1 : W (1000000 * W (b0 - x1)) = 1000000 * (b0 - x1) := by rw [W_id (n := b0 - x1) (by omega) (by omega), W_id (by omega) (by omega)]
  have a2 : W (1000000 * W (b1 - x0)) = 1000000 * (b1 - x0) := by rw [W_id (n := b1 - x0) (by omega) (by omega), W_id (by omega) (by omega)]
  have a3 : W (b0 * d) = b0 * d := W_id (by omega) (by omega)
  have a4 : W (b1 * d) = b1 * d := W_id (by omega) (by omega)
  rw [a1, a2, a3, a4]
  constructor
  · have : floor (1000000 * (b0 - x1)) (b0 * d) ≤ f := by
      apply Int.le_of_lt_add_one
      rw [floor_eq q0 (by omega) (by omega)]
      apply Int.ediv_lt_of_lt_mul q0
      rw [Int.add_mul, Int.one_mul]
      omega
    unfold maxI
    split <;> omega
  · have : f ≤ ceiling (1000000 * (b1 - x0)) (b1 * d) := by
      apply Classical.byContradiction
      intro hn
      have h2 : ceiling (1000000 * (b1 - x0)) (b1 * d) ≤ f - 1 := by omega
      rw [ceiling_le q1 (by omega) (by omega), Int.sub_mul, Int.one_mul] at h2
      omega
    unfold minI
    split <;> omega
/-- A number's whole ends, and so much more on both sides. -/
def wideLo (n d b : Int) : Int := if W (floor n d - b) > 0 then W (floor n d - b) else 0
def wideHi (n d b : Int) : Int := W (ceiling n d + b)
theorem wide {n d b : Int} (hd : 0 < d) (h1 : 0 ≤ n) (h2 : n ≤ 100000000000000000) (hb : 0 ≤ b ∧ b ≤ 9) : wideLo n d b * d ≤ n ∧ n ≤ wideHi n d b * d := by
  have f1 := floor_bd hd (n := n) (by omega) (by omega)
  have f2 := (floor_mul hd (n := n) (by omega) (by omega)).1
  have c1 := (ceiling_mul hd (n := n) (by omega) (by omega)).1
  have c2 := (ceiling_le hd (n := n) (q := 1000000000000000000) (by omega) (by omega)).2 (by
    have : 1000000000000000000 * 1 ≤ 1000000000000000000 * d := Int.mul_le_mul_of_nonneg_left (by omega) (by omega)
    omega)
  have c3 := ceiling_nonneg hd h1 (by omega)
  unfold wideLo wideHi
  rw [W_id (n := floor n d - b) (by omega) (by omega), W_id (n := ceiling n d + b) (by omega) (by omega)]
  constructor
  · split
    · have : (floor n d - b) * d ≤ floor n d * d := Int.mul_le_mul_of_nonneg_right (by omega) (by omega)
      omega
    · omega
  · have : ceiling n d * d ≤ (ceiling n d + b) * d := Int.mul_le_mul_of_nonneg_right (by omega) (by omega)
    omega
theorem lo_max {a b A V : Int} (h1 : a * A ≤ V) (h2 : b * A ≤ V) : maxI a b * A ≤ V := by
  unfold maxI; split <;> assumption
theorem hi_min {a b A V : Int} (h1 : V ≤ a * A) (h2 : V ≤ b * A) : V ≤ minI a b * A := by
  unfold minI; split <;> assumption
theorem true_common {x y : Wine} {V A S B C E : Int} (hx : TrueAt x V A S B C E) (hy : TrueAt y V A S B C E) : TrueAt (commonW x y) V A S B C E :=
  ⟨hx.A0, hx.B0, hx.E0, lo_max hx.V0 hy.V0, hi_min hx.V1 hy.V1, lo_max hx.S0 hy.S0, hi_min hx.S1 hy.S1, lo_max hx.C0 hy.C0, hi_min hx.C1 hy.C1⟩
theorem true_wOk {x : Wine} {V A S B C E : Int} (h : TrueAt x V A S B C E) : wOk x = true := by
  have h1 : rgOk x.v = true := decide_eq_true (Int.le_of_mul_le_mul_right (Int.le_trans h.V0 h.V1) h.A0)
  have h2 : rgOk x.s = true := decide_eq_true (Int.le_of_mul_le_mul_right (Int.le_trans h.S0 h.S1) h.B0)
  have h3 : rgOk x.c = true := decide_eq_true (Int.le_of_mul_le_mul_right (Int.le_trans h.C0 h.C1) h.E0)
  show cond (rgOk x.v) (cond (rgOk x.s) (rgOk x.c) false) false = true
  rw [h1, h2, h3]; rfl
theorem rates_true {w y : Wine} {d v s c f g : Int} (hw : OkW w) (hy : OkW y) (hd : 1 ≤ d ∧ d ≤ 365) (hv0 : w.v0 ≠ 0) (hs0 : w.s0 ≠ 0) (hv : w.v0 ≤ v ∧ v ≤ w.v1) (hs : w.s0 ≤ s ∧ s ≤ w.s1)
    (hf : 0 ≤ f ∧ f ≤ 2000) (hg : 0 ≤ g ∧ g ≤ 2000)
    (t : TrueAt y (v * (1000000 - f * d)) 1000000 (s * (1000000 - g * d)) (1000000 - f * d) (c * 1000000) (1000000 - f * d)) :
    (RatesOf w y d).2 = 0 ∧ (RatesOf w y d).1.a ≤ f ∧ f ≤ (RatesOf w y d).1.b ∧ (RatesOf w y d).1.c ≤ g ∧ g ≤ (RatesOf w y d).1.d := by
  have w1 := hw.v0; have w2 := hw.v; have w3 := hw.v1; have w4 := hw.s0; have w5 := hw.s; have w6 := hw.s1
  have x1 := hy.v0; have x2 := hy.v; have x3 := hy.v1; have x4 := hy.s0; have x5 := hy.s; have x6 := hy.s1
  have m0 := mul_le w1 (by omega : w.v0 ≤ 100000) w4 (by omega : w.s0 ≤ 10000)
  have m1 := mul_le (by omega : 0 ≤ w.v1) w3 (by omega : 0 ≤ w.s1) w6
  have m2 := mul_le x1 (by omega : y.v0 ≤ 100000) x4 (by omega : y.s0 ≤ 10000)
  have m3 := mul_le (by omega : 0 ≤ y.v1) x3 (by omega : 0 ≤ y.s1) x6
  have e1 : alcohol w = ⟨w.v0 * w.s0, w.v1 * w.s1⟩ := by unfold alcohol; rw [W_id (by omega) (by omega), W_id (by omega) (by omega)]
  have e2 : alcohol y = ⟨y.v0 * y.s0, y.v1 * y.s1⟩ := by unfold alcohol; rw [W_id (by omega) (by omega), W_id (by omega) (by omega)]
  have p1 := mul_le hf.1 hf.2 (by omega : 0 ≤ d) hd.2
  have p2 := mul_le hg.1 hg.2 (by omega : 0 ≤ d) hd.2
  have V0 := t.V0; have V1 := t.V1; have S0 := t.S0; have S1 := t.S1
  have j1 : w.v0 * (1000000 - f * d) ≤ v * (1000000 - f * d) := Int.mul_le_mul_of_nonneg_right hv.1 (by omega)
  have j2 : v * (1000000 - f * d) ≤ w.v1 * (1000000 - f * d) := Int.mul_le_mul_of_nonneg_right hv.2 (by omega)
  have c1 := rate_true (b0 := w.v0) (b1 := w.v1) (x0 := y.v0) (x1 := y.v1) (f := f) (d := d) (by omega) w2 (by omega) x1 (by omega) (by omega) (by omega) (by omega) hd.2 hf.1 hf.2 (by omega) (by omega)
  have a1 := times (a := v) (b := s) (c := y.v1) (d := y.s1) (h := 1000000 - f * d) (l := 1000000 - f * d) (k := 1000000 - g * d) (by omega) (by omega) (by omega) (by omega) (by omega) (by omega) (Int.le_refl _) V1 S1
  have a2 := times' (a := v) (b := s) (c := y.v0) (d := y.s0) (h := 1000000 - f * d) (l := 1000000 - f * d) (k := 1000000 - g * d) (by omega) (by omega) (by omega) (by omega) (by omega) (by omega) (Int.le_refl _) V0 S0
  have q1 : w.v0 * w.s0 ≤ v * s := prod_le w1 hv.1 w4 hs.1
  have q2 : v * s ≤ w.v1 * w.s1 := prod_le (by omega) hv.2 (by omega) hs.2
  have j3 : (w.v0 * w.s0) * (1000000 - g * d) ≤ (v * s) * (1000000 - g * d) := Int.mul_le_mul_of_nonneg_right q1 (by omega)
  have j4 : (v * s) * (1000000 - g * d) ≤ (w.v1 * w.s1) * (1000000 - g * d) := Int.mul_le_mul_of_nonneg_right q2 (by omega)
  have c2 := rate_true (b0 := w.v0 * w.s0) (b1 := w.v1 * w.s1) (x0 := y.v0 * y.s0) (x1 := y.v1 * y.s1) (f := g) (d := d) (Int.mul_pos (by omega) (by omega)) (Int.le_trans q1 q2) (by omega) m2.1 m3.1 (by omega) (by omega) (by omega) hd.2 hg.1 hg.2
    (Int.le_trans j3 a1) (Int.le_trans a2 j4)
  have k1 : rgOk (rateOf w.v y.v d) = true := decide_eq_true (Int.le_trans c1.1 c1.2)
  have k2 : rgOk (rateOf (alcohol w) (alcohol y) d) = true := by rw [e1, e2]; exact decide_eq_true (Int.le_trans c2.1 c2.2)
  have er : ratesErr w y d = 0 := by
    unfold ratesErr
    rw [first_nil]
    simp only [List.mem_cons, List.not_mem_nil, or_false, forall_eq_or_imp, forall_eq]
    refine ⟨checkWine_zero.2 hw, checkWine_zero.2 hy, (unl_zero (by decide)).2 (within_iff.2 hd), (unl_zero (by decide)).2 ?_⟩
    rw [decide_eq_true (by omega : w.v0 > 0), cond_true]
    exact decide_eq_true (by omega)
  have R : RatesOf w y d = (Rate.mk2 (rateOf w.v y.v d) (rateOf (alcohol w) (alcohol y) d), 0) := by
    unfold RatesOf
    rw [er, rate_eq, rate_eq, k1, k2]
    rfl
  rw [R, e1, e2]
  exact ⟨rfl, c1.1, c1.2, c2.1, c2.2⟩
end Go.Fl.L
namespace Go.Fl2
open Go.V Go.Fl
theorem meas {w y : M.Wine} {r : M.Rate} {d V S C B : Int} (hw : L.OkW w) (hy : L.OkW y) (hr : L.OkR r) (hd : 1 ≤ d ∧ d ≤ 365) (t : L.TrueAt y V 1000000 S B C B)
    (t2 : L.TrueAt (M.after w r d) V 1000000 S B C B) :
    followed r [⟨10, w⟩, ⟨M.W (10 + d), y⟩] = ([], 1, 8) ∨ followed r [⟨10, w⟩, ⟨M.W (10 + d), y⟩] = ([w, M.commonW (M.after w r d) y], 0, 0) := by
  have ed : M.W (10 + d) = 10 + d := L.W_id (by omega) (by omega)
  rw [ed]
  have e0 : folErr r [⟨10, w⟩, ⟨10 + d, y⟩] = 0 := by
    unfold folErr
    rw [L.first_nil]
    simp only [List.mem_cons, List.not_mem_nil, or_false, forall_eq_or_imp, forall_eq]
    exact ⟨L.checkRate_zero.2 hr, rfl, rfl⟩
  have m0 : M.measureErr 10 w = 0 := L.measureErr_zero.2 ⟨by omega, hw⟩
  have m1 : M.measureErr (10 + d) y = 0 := L.measureErr_zero.2 ⟨by omega, hy⟩
  have b0 : M.betweenErr 10 (10 + d) = 0 := by
    unfold M.betweenErr
    rw [L.first_nil]
    simp only [List.mem_cons, List.not_mem_nil, or_false, forall_eq_or_imp, forall_eq]
    rw [L.unl_zero (by decide), L.unl_zero (by decide), L.W_id (by omega) (by omega)]
    exact ⟨decide_eq_true (by omega), decide_eq_true (by omega)⟩
  have c0 : chkF [⟨10, w⟩, ⟨10 + d, y⟩] 0 = 0 := m0
  have c1 : chkF [⟨10, w⟩, ⟨10 + d, y⟩] 1 = 0 := by
    show cond (M.measureErr (10 + d) y == 0) (M.betweenErr 10 (10 + d)) (M.measureErr (10 + d) y) = 0
    rw [m1, b0]; rfl
  have hF : firstBad (chkF [⟨10, w⟩, ⟨10 + d, y⟩]) 0 2 = none := by
    simp only [firstBad]
    rw [c0, c1]; rfl
  have h1 : M.taskErr w r d = 0 := L.taskErr_zero.2 ⟨hw, hr, by omega⟩
  have e3 : followed r [⟨10, w⟩, ⟨10 + d, y⟩] = fol M.After r [⟨10, w⟩, ⟨10 + d, y⟩] 1 [w] 1 := by
    unfold followed
    rw [e0]
    show folRest M.After chkF r [⟨10, w⟩, ⟨10 + d, y⟩] = _
    unfold folRest
    show (match firstBad (chkF [⟨10, w⟩, ⟨10 + d, y⟩]) 0 2 with | some (k, e) => _ | none => _) = _
    rw [hF]; rfl
  rw [e3]
  have e4 : M.W (10 + d - 10) = d := by rw [L.W_id (by omega) (by omega)]; omega
  have e5 : fol M.After r [⟨10, w⟩, ⟨10 + d, y⟩] 1 [w] 1 = cond ((M.After w r d).2 != 0) ([], (1 : Int), (M.After w r d).2)
      (cond (M.wOk (M.commonW (M.After w r d).1 y)) ([w, M.commonW (M.After w r d).1 y], 0, 0) ([], (1 : Int), 13)) := by
    show cond ((M.After w r (M.W (10 + d - 10))).2 != 0) ([], (1 : Int), (M.After w r (M.W (10 + d - 10))).2)
      (cond (M.wOk (M.commonW (M.After w r (M.W (10 + d - 10))).1 y)) ([w, M.commonW (M.After w r (M.W (10 + d - 10))).1 y], 0, 0) ([], (1 : Int), 13)) = _
    rw [e4]
  rw [e5]
  rcases L.after_two h1 with ⟨a1, a2, a3, a4⟩ | h8
  · rw [a1, a2, L.true_wOk (L.true_common t2 t)]; exact .inr rfl
  · rw [h8]; exact .inl rfl
end Go.Fl2
