/- Chapter 3, plain laws: every permitted rate; rates are found back. -/
import Derived.Test.YtcgdcocmnmkhlaaDoorL
set_option linter.unusedVariables false
set_option linter.unusedSimpArgs false
namespace Go.Fl.M
/-- n / d against m. -/
def compare1 (n d m : Int) : Int :=
  cond (decide (floor n d < m)) (-1) (cond (decide (floor n d > m)) 1 (cond (W (n - W (floor n d * d)) == 0) 0 1))
def between (n d : Int) (r : Rg) : Bool := cond (decide (compare1 n d r.lo ≥ 0)) (decide (compare1 n d r.hi ≤ 0)) false
end Go.Fl.M
namespace Go.Fl.L
open Go.Fl.M
theorem floor_eq {n b : Int} (hb : 0 < b) (h1 : -1000000000000000000 ≤ n) (h2 : n ≤ 1000000000000000000) : floor n b = n / b := by
  unfold floor
  have e := Int.tmod_add_mul_tdiv n b
  have eb := Int.emod_add_mul_ediv n b
  have m0 := Int.emod_nonneg n (by omega : b ≠ 0)
  have m1 := Int.emod_lt_of_pos n hb
  have tl : -b < n.tmod b ∧ n.tmod b < b := by
    exact ⟨Int.lt_tmod_of_pos n hb, Int.tmod_lt_of_pos n hb⟩
  have key : (n.tmod b < 0 → n / b = n.tdiv b - 1) ∧ (¬ n.tmod b < 0 → n / b = n.tdiv b) := by
    constructor
    · intro h
      have : b * (n.tdiv b - 1) ≤ n ∧ n < b * (n.tdiv b - 1) + b := by
        have : b * (n.tdiv b - 1) = b * n.tdiv b - b := by rw [Int.mul_sub, Int.mul_one]
        omega
      refine Int.le_antisymm ?_ ?_
      · apply Int.le_of_lt_add_one
        apply Int.ediv_lt_of_lt_mul hb
        have : (n.tdiv b - 1 + 1) * b = b * (n.tdiv b - 1) + b := by rw [Int.add_mul, Int.mul_comm b, Int.one_mul]
        omega
      · apply Int.le_ediv_of_mul_le hb
        rw [Int.mul_comm]; omega
    · intro h
      refine Int.le_antisymm ?_ ?_
      · apply Int.le_of_lt_add_one
        apply Int.ediv_lt_of_lt_mul hb
        have : (n.tdiv b + 1) * b = b * n.tdiv b + b := by rw [Int.add_mul, Int.mul_comm b, Int.one_mul]
        omega
      · apply Int.le_ediv_of_mul_le hb
        rw [Int.mul_comm]; omega
  have bd : -1000000000000000000 ≤ n / b ∧ n / b ≤ 1000000000000000000 := by
    constructor
    · apply Int.le_ediv_of_mul_le hb
      have : -1000000000000000000 * b ≤ -1000000000000000000 * 1 := by omega
      omega
    · apply Int.ediv_le_of_le_mul hb
      have : 1000000000000000000 * 1 ≤ 1000000000000000000 * b := by omega
      omega
  by_cases h : n.tmod b < 0
  · rw [decide_eq_true h, cond_true]
    have := key.1 h
    rw [W_id (n := n.tdiv b) (by omega) (by omega), W_id (by omega) (by omega)]; omega
  · rw [decide_eq_false h, cond_false]
    have := key.2 h
    rw [W_id (by omega) (by omega)]; omega
theorem floor_mul {n b : Int} (hb : 0 < b) (h1 : -1000000000000000000 ≤ n) (h2 : n ≤ 1000000000000000000) : floor n b * b ≤ n ∧ n < floor n b * b + b := by
  rw [floor_eq hb h1 h2]
  have e := Int.emod_add_mul_ediv n b
  have m0 := Int.emod_nonneg n (by omega : b ≠ 0)
  have m1 := Int.emod_lt_of_pos n hb
  rw [Int.mul_comm]
  omega
theorem floor_bd {n b : Int} (hb : 0 < b) (h1 : -1000000000000000000 ≤ n) (h2 : n ≤ 1000000000000000000) : -1000000000000000000 ≤ floor n b ∧ floor n b ≤ 1000000000000000000 := by
  rw [floor_eq hb h1 h2]
  constructor
  · apply Int.le_ediv_of_mul_le hb
    have : -1000000000000000000 * b ≤ -1000000000000000000 * 1 := by omega
    omega
  · apply Int.ediv_le_of_le_mul hb
    have : 1000000000000000000 * 1 ≤ 1000000000000000000 * b := by omega
    omega
theorem ceiling_mul {n b : Int} (hb : 0 < b) (h1 : -1000000000000000000 ≤ n) (h2 : n ≤ 1000000000000000000) : n ≤ ceiling n b * b ∧ ceiling n b * b < n + b := by
  unfold ceiling
  have e : W (0 - n) = -n := by rw [W_id (by omega) (by omega)]; omega
  rw [e]
  have b1 := floor_bd hb (n := -n) (by omega) (by omega)
  have b2 := floor_mul hb (n := -n) (by omega) (by omega)
  rw [W_id (by omega) (by omega)]
  have : (0 - floor (-n) b) * b = -(floor (-n) b * b) := by rw [Int.sub_mul, Int.zero_mul]; omega
  omega
/-- lo ≤ floor, by its multiple. -/
theorem le_floor {n b q : Int} (hb : 0 < b) (h1 : -1000000000000000000 ≤ n) (h2 : n ≤ 1000000000000000000) : q ≤ floor n b ↔ q * b ≤ n := by
  rw [floor_eq hb h1 h2]
  exact Int.le_ediv_iff_mul_le hb
theorem ceiling_le {n b q : Int} (hb : 0 < b) (h1 : -1000000000000000000 ≤ n) (h2 : n ≤ 1000000000000000000) : ceiling n b ≤ q ↔ n ≤ q * b := by
  have b1 := floor_bd hb (n := -n) (by omega) (by omega)
  have e : ceiling n b = - floor (-n) b := by
    unfold ceiling
    have e : W (0 - n) = -n := by rw [W_id (by omega) (by omega)]; omega
    rw [e, W_id (by omega) (by omega)]; omega
  have := le_floor hb (n := -n) (q := -q) (by omega) (by omega)
  have e2 : -q * b = -(q * b) := Int.neg_mul q b
  rw [e]
  constructor
  · intro h; have := this.1 (by omega); omega
  · intro h; have := this.2 (by omega); omega
theorem between_true {n d : Int} {r : Rg} (hd : 0 < d) (h1 : -100000000000000000 ≤ n) (h2 : n ≤ 100000000000000000) (hd2 : d ≤ 100000000000000000) (hl : r.lo * d ≤ n) (hh : n ≤ r.hi * d) : between n d r = true := by
  have f1 := (le_floor hd (by omega) (by omega) (q := r.lo)).2 hl
  have fm := floor_mul hd (n := n) (by omega) (by omega)
  have fb := floor_bd hd (n := n) (by omega) (by omega)
  have e1 : W (floor n d * d) = floor n d * d := W_id (by omega) (by omega)
  have e2 : W (n - floor n d * d) = n - floor n d * d := W_id (by omega) (by omega)
  have c1 : compare1 n d r.lo ≥ 0 := by
    unfold compare1
    rw [e1, e2, decide_eq_false (by omega), cond_false]
    cases decide (floor n d > r.lo)
    · rw [cond_false]
      cases (n - floor n d * d == 0) <;> simp
    · simp
  have c2 : compare1 n d r.hi ≤ 0 := by
    unfold compare1
    rw [e1, e2]
    by_cases h : floor n d < r.hi
    · rw [decide_eq_true h]; simp
    · rw [decide_eq_false h, cond_false]
      have g : floor n d ≤ r.hi := by
        apply Int.le_of_lt_add_one
        rw [floor_eq hd (by omega) (by omega)]
        apply Int.ediv_lt_of_lt_mul hd
        rw [Int.add_mul, Int.one_mul]; omega
      have g' : floor n d = r.hi := by omega
      rw [decide_eq_false (by omega), cond_false]
      have : (n - floor n d * d == 0) = true := by
        rw [beq_iff_eq]
        rw [g'] at fm ⊢
        omega
      rw [this, cond_true]
      decide
  unfold between
  rw [decide_eq_true c1, cond_true, decide_eq_true c2]
theorem mod_bd {n b : Int} (hb : 0 < b) (hb2 : b ≤ 1000000000000) : 0 ≤ mod n b ∧ mod n b < b := by
  have tl : -b < n.tmod b ∧ n.tmod b < b := by
    exact ⟨Int.lt_tmod_of_pos n hb, Int.tmod_lt_of_pos n hb⟩
  unfold mod
  by_cases h : n.tmod b < 0
  · rw [decide_eq_true h, cond_true, W_id (by omega) (by omega)]; omega
  · rw [decide_eq_false h, cond_false]; omega
theorem pick_bd {r : Rg} {b : Int} (h0 : 0 ≤ r.lo) (h : r.lo ≤ r.hi) (h1 : r.hi ≤ 100000000000) : r.lo ≤ pick r b ∧ pick r b ≤ r.hi := by
  unfold pick
  have e : W (W (r.hi - r.lo) + 1) = r.hi - r.lo + 1 := by rw [W_id (n := r.hi - r.lo) (by omega) (by omega), W_id (by omega) (by omega)]
  have e2 := mod_bd (n := b) (b := r.hi - r.lo + 1) (by omega) (by omega)
  rw [e, W_id (by omega) (by omega)]
  omega
theorem pick_ne {r : Rg} (h0 : 0 ≤ r.lo) (h : r.lo ≤ r.hi) (h1 : r.hi ≤ 100000000000) : W (W (r.hi - r.lo) + 1) ≠ 0 := by
  have e : W (W (r.hi - r.lo) + 1) = r.hi - r.lo + 1 := by rw [W_id (n := r.hi - r.lo) (by omega) (by omega), W_id (by omega) (by omega)]
  omega
end Go.Fl.L
