/- Plain laws on the functions of chapter 3: what no error says of the numbers. -/
import Derived.Test.YtcgdcocmnmkhlaaDoorM
set_option linter.unusedVariables false
set_option linter.unusedSimpArgs false
namespace Go.Fl.L
open Go.Fl.M

theorem W_id {n : Int} (h1 : -9223372036854775808 ≤ n) (h2 : n ≤ 9223372036854775807) : W n = n := by
  unfold W; rw [IntKind.wrap_i64]; omega

theorem first_nil {l : List Int} : first l = 0 ↔ ∀ e ∈ l, e = 0 := by
  induction l with
  | nil => simp [first]
  | cons e l ih =>
    simp only [first]
    by_cases h : e = 0
    · subst h; simp [ih]
    · have : (e != 0) = true := by simp [h]
      rw [this]; simp [h]

theorem ne_false {e : Int} : (e != 0) = false ↔ e = 0 := by simp
theorem unl_zero {b : Bool} {e : Int} (he : e ≠ 0) : unl b e = 0 ↔ b = true := by cases b <;> simp [unl, he]
theorem within_iff {n lo hi : Int} : within n lo hi = true ↔ lo ≤ n ∧ n ≤ hi := by
  unfold within
  by_cases h : lo ≤ n <;> simp [h]
theorem spanErr_zero {r : Rg} {most : Int} : spanErr r most = 0 ↔ 0 ≤ r.lo ∧ r.lo ≤ r.hi ∧ r.hi ≤ most := by
  unfold spanErr
  rw [first_nil]
  simp only [List.mem_cons, List.not_mem_nil, or_false, forall_eq_or_imp, forall_eq]
  rw [unl_zero (by decide), unl_zero (by decide)]
  by_cases h : within r.lo 0 most = true
  · rw [h]; simp only [cond_true, within_iff, decide_eq_true_eq]; rw [within_iff] at h; omega
  · have h' : within r.lo 0 most = false := by simpa using h
    rw [h']; simp only [cond_false]
    rw [within_iff] at h
    constructor
    · intro hh; cases hh.1
    · intro hh; exact absurd (by omega) h

/-- A wine's numbers. -/
structure OkW (w : Wine) : Prop where
  v0 : 0 ≤ w.v0
  v : w.v0 ≤ w.v1
  v1 : w.v1 ≤ 100000
  s0 : 0 ≤ w.s0
  s : w.s0 ≤ w.s1
  s1 : w.s1 ≤ 10000
  c0 : 0 ≤ w.c0
  c : w.c0 ≤ w.c1
  c1 : w.c1 ≤ 100000
structure OkR (r : Rate) : Prop where
  a : 0 ≤ r.a
  b : r.a ≤ r.b
  b1 : r.b ≤ 2000
  c : 0 ≤ r.c
  d : r.c ≤ r.d
  d1 : r.d ≤ 2000
theorem cond_ne_zero {a b : Int} : cond (a != 0) a b = 0 ↔ a = 0 ∧ b = 0 := by
  by_cases h : a = 0
  · subst h; simp
  · have : (a != 0) = true := by simp [h]
    rw [this]; simp [h]
theorem checkWine_zero {w : Wine} : checkWine w = 0 ↔ OkW w := by
  unfold checkWine
  rw [cond_ne_zero, cond_ne_zero, cond_ne_zero, spanErr_zero, spanErr_zero, spanErr_zero]
  constructor
  · rintro ⟨⟨a1, a2, a3⟩, ⟨b1, b2, b3⟩, ⟨c1, c2, c3⟩, _⟩; exact ⟨a1, a2, a3, b1, b2, b3, c1, c2, c3⟩
  · rintro ⟨a1, a2, a3, b1, b2, b3, c1, c2, c3⟩; exact ⟨⟨a1, a2, a3⟩, ⟨b1, b2, b3⟩, ⟨c1, c2, c3⟩, rfl⟩
theorem checkRate_zero {r : Rate} : checkRate r = 0 ↔ OkR r := by
  unfold checkRate
  rw [first_nil]
  simp only [List.mem_cons, List.not_mem_nil, or_false, forall_eq_or_imp, forall_eq, spanErr_zero]
  constructor
  · rintro ⟨⟨a1, a2, a3⟩, ⟨b1, b2, b3⟩⟩; exact ⟨a1, a2, a3, b1, b2, b3⟩
  · rintro ⟨a1, a2, a3, b1, b2, b3⟩; exact ⟨⟨a1, a2, a3⟩, ⟨b1, b2, b3⟩⟩
theorem daysErr_zero {d : Int} : daysErr d = 0 ↔ 0 ≤ d ∧ d ≤ 365 := by unfold daysErr; rw [unl_zero (by decide), within_iff]
theorem strengthErr_zero {d : Int} : strengthErr d = 0 ↔ 0 ≤ d ∧ d ≤ 10000 := by unfold strengthErr; rw [unl_zero (by decide), within_iff]

theorem taskErr_zero {w : Wine} {r : Rate} {d : Int} : taskErr w r d = 0 ↔ OkW w ∧ OkR r ∧ 0 ≤ d ∧ d ≤ 365 := by
  unfold taskErr
  rw [first_nil]
  simp only [List.mem_cons, List.not_mem_nil, or_false, forall_eq_or_imp, forall_eq, checkWine_zero, checkRate_zero, daysErr_zero]

/-- What is left behind some days. -/
theorem mul_le {a d A D : Int} (h0 : 0 ≤ a) (h1 : a ≤ A) (h2 : 0 ≤ d) (h3 : d ≤ D) : 0 ≤ a * d ∧ a * d ≤ A * D :=
  ⟨Int.mul_nonneg h0 h2, Int.mul_le_mul h1 h3 h2 (by omega)⟩
theorem left_eq {r : Rg} {d : Int} (h0 : 0 ≤ r.lo) (h : r.lo ≤ r.hi) (h1 : r.hi ≤ 2000) (hd : 0 ≤ d) (hd1 : d ≤ 365) :
    (left r d).lo = 1000000 - r.hi * d ∧ (left r d).hi = 1000000 - r.lo * d ∧ 270000 ≤ (left r d).lo ∧ (left r d).lo ≤ (left r d).hi ∧ (left r d).hi ≤ 1000000 := by
  have b1 := mul_le (by omega) h1 hd hd1
  have b2 := mul_le h0 (by omega : r.lo ≤ 2000) hd hd1
  have b3 : r.lo * d ≤ r.hi * d := Int.mul_le_mul_of_nonneg_right h hd
  have e1 : (left r d).lo = 1000000 - r.hi * d := by
    unfold left; simp only
    rw [W_id (n := r.hi * d) (by omega) (by omega), W_id (by omega) (by omega)]
  have e2 : (left r d).hi = 1000000 - r.lo * d := by
    unfold left; simp only
    rw [W_id (n := r.lo * d) (by omega) (by omega), W_id (by omega) (by omega)]
  rw [e1, e2]
  exact ⟨rfl, rfl, by omega, by omega, by omega⟩
theorem task_left {r : Rate} {d : Int} (hr : OkR r) (hd : 0 ≤ d ∧ d ≤ 365) : (left r.w d).hi ≠ 0 ∧ (left r.w d).lo ≠ 0 := by
  obtain ⟨_, _, h1, h2, _⟩ := left_eq (r := r.w) hr.a hr.b hr.b1 hd.1 hd.2
  exact ⟨by omega, by omega⟩
theorem task_hi {w : Wine} {r : Rate} {d : Int} (h : (first [checkWine w, checkRate r, daysErr d] != 0) = false) : (left (Rate.w r) d).hi ≠ 0 := by
  have := taskErr_zero.1 (ne_false.1 h)
  exact (task_left this.2.1 this.2.2).1
theorem task_lo {w : Wine} {r : Rate} {d : Int} (h : (first [checkWine w, checkRate r, daysErr d] != 0) = false) : (left (Rate.w r) d).lo ≠ 0 := by
  have := taskErr_zero.1 (ne_false.1 h)
  exact (task_left this.2.1 this.2.2).2

/- the reference's errors are the program's -/
theorem rangeErr_eq (r : Rg) (most : Int) : rangeErr r most = spanErr r most := by
  unfold rangeErr spanErr
  have e : cond (decide (r.lo > r.hi)) (9 : Int) 0 = cond (decide (r.lo ≤ r.hi)) 0 9 := by
    by_cases h : r.lo ≤ r.hi
    · have h' : ¬ r.lo > r.hi := by omega
      rw [decide_eq_true h, decide_eq_false h']; rfl
    · have h' : r.lo > r.hi := by omega
      rw [decide_eq_false h, decide_eq_true h']; rfl
  cases h1 : within r.lo 0 most <;> cases h2 : within r.hi 0 most <;> simp only [cond_true, cond_false]
  · rfl
  · rfl
  · rfl
  · rw [e]; cases decide (r.lo ≤ r.hi) <;> rfl
theorem first3_eq (a b c : Int) : first3 a b c = first [a, b, c] := by
  unfold first3
  simp only [first]
  by_cases h : c = 0
  · subst h; simp
  · have : (c != 0) = true := by simp [h]
    rw [this]; simp
theorem first_end0 (l : List Int) : first (l ++ [0]) = first l := by
  induction l with
  | nil => rfl
  | cons e l ih => simp only [List.cons_append, first, ih]
theorem rCheckWine_eq (w : Wine) : rCheckWine w = checkWine w := by
  unfold rCheckWine checkWine
  rw [first3_eq, rangeErr_eq, rangeErr_eq, rangeErr_eq]
  simp only [first]
theorem rCheckRate_eq (r : Rate) : rCheckRate r = checkRate r := by
  unfold rCheckRate checkRate
  rw [first3_eq, rangeErr_eq, rangeErr_eq]
  exact first_end0 [_, _]
theorem rCheckLaw_eq (r : Rate) : rCheckLaw r = checkLaw r := by
  unfold rCheckLaw checkLaw
  rw [first3_eq, rangeErr_eq, rangeErr_eq]
  exact first_end0 [_, _]
theorem rDaysErr_eq (d : Int) : rDaysErr d = daysErr d := rfl
theorem rStrengthErr_eq (d : Int) : rStrengthErr d = strengthErr d := rfl
theorem rTaskErr_eq (w : Wine) (r : Rate) (d : Int) : rTaskErr w r d = taskErr w r d := by
  unfold rTaskErr taskErr
  rw [first3_eq, rCheckWine_eq, rCheckRate_eq, rDaysErr_eq]
theorem rMeasureErr_eq (d : Int) (w : Wine) : rMeasureErr d w = measureErr d w := by
  unfold rMeasureErr measureErr
  cases h : within d 0 100000
  · rfl
  · simp only [unl, cond_true, first, rCheckWine_eq]
    by_cases h : checkWine w = 0
    · rw [h]; rfl
    · have : (checkWine w != 0) = true := by simp [h]
      rw [this]; rfl

/- conditions of divisions -/
theorem rates_b {b a : Wine} {d x : Int} (hw : OkW b) (hd : 1 ≤ d ∧ d ≤ 365) (hv : 0 < b.v0) (hs : 0 < b.s0) :
    W (b.v0 * d) ≠ 0 ∧ W (b.v1 * d) ≠ 0 ∧ W ((alcohol b).lo * d) ≠ 0 ∧ W ((alcohol b).hi * d) ≠ 0 := by
  have h1 := hw.v; have h2 := hw.v1; have h3 := hw.s; have h4 := hw.s1
  have pos : ∀ x y : Int, 0 < x → 0 < y → 0 < x * y := fun x y => Int.mul_pos
  have m1 := mul_le (d := d) (D := 365) (by omega : 0 ≤ b.v0) (by omega : b.v0 ≤ 100000) (by omega) hd.2
  have m2 := mul_le (d := d) (D := 365) (by omega : 0 ≤ b.v1) h2 (by omega) hd.2
  have m3 := mul_le (d := b.s0) (D := 10000) (by omega : 0 ≤ b.v0) (by omega : b.v0 ≤ 100000) (by omega) (by omega)
  have m4 := mul_le (d := b.s1) (D := 10000) (by omega : 0 ≤ b.v1) h2 (by omega) (by omega)
  have p1 := pos _ _ hv (by omega : 0 < d)
  have p2 := pos b.v1 d (by omega) (by omega)
  have p3 := pos _ _ hv hs
  have p4 := pos b.v1 b.s1 (by omega) (by omega)
  have e3 : (alcohol b).lo = b.v0 * b.s0 := W_id (by omega) (by omega)
  have e4 : (alcohol b).hi = b.v1 * b.s1 := W_id (by omega) (by omega)
  have m5 := mul_le (d := d) (D := 365) (by omega : 0 ≤ b.v0 * b.s0) (by omega : b.v0 * b.s0 ≤ 1000000000) (by omega) hd.2
  have m6 := mul_le (d := d) (D := 365) (by omega : 0 ≤ b.v1 * b.s1) (by omega : b.v1 * b.s1 ≤ 1000000000) (by omega) hd.2
  have p5 := pos _ _ p3 (by omega : 0 < d)
  have p6 := pos _ _ p4 (by omega : 0 < d)
  rw [e3, e4, W_id (n := b.v0 * d) (by omega) (by omega), W_id (n := b.v1 * d) (by omega) (by omega), W_id (n := b.v0 * b.s0 * d) (by omega) (by omega), W_id (n := b.v1 * b.s1 * d) (by omega) (by omega)]
  exact ⟨by omega, by omega, by omega, by omega⟩
theorem ratesErr_zero {b a : Wine} {d : Int} {q : Bool} (h : (first [checkWine b, checkWine a, unl (within d 1 365) 2, unl q 25] != 0) = false) : OkW b ∧ OkW a ∧ (1 ≤ d ∧ d ≤ 365) ∧ q = true := by
  have := first_nil.1 (ne_false.1 h)
  simp only [List.mem_cons, List.not_mem_nil, or_false, forall_eq_or_imp, forall_eq, checkWine_zero] at this
  rw [unl_zero (by decide), unl_zero (by decide), within_iff] at this
  exact this
theorem r43 {v0 v1 s0 s1 c0 c1 d : Int} {a : Wine} (hv : decide (v0 > 0) = true) (h : (first [checkWine ⟨v0, v1, s0, s1, c0, c1⟩, checkWine a, unl (within d 1 365) 2, unl (decide (s0 > 0)) 25] != 0) = false) :
    W (v0 * d) ≠ 0 ∧ W (v1 * d) ≠ 0 ∧ W ((alcohol ⟨v0, v1, s0, s1, c0, c1⟩).lo * d) ≠ 0 ∧ W ((alcohol ⟨v0, v1, s0, s1, c0, c1⟩).hi * d) ≠ 0 := by
  obtain ⟨h1, h2, h3, h4⟩ := ratesErr_zero h
  exact rates_b (a := a) (x := 0) h1 h3 (of_decide_eq_true hv) (of_decide_eq_true h4)
theorem r43f {b a : Wine} {d : Int} (h : (first [checkWine b, checkWine a, unl (within d 1 365) 2, unl false 25] != 0) = false) : False := by
  obtain ⟨h1, h2, h3, h4⟩ := ratesErr_zero h
  cases h4
theorem spirit_ne {w : Wine} {x y : Int} (h : (first [checkWine w, strengthErr x, strengthErr y, unl (decide (x > y)) 11] != 0) = false) : W (x - y) ≠ 0 := by
  have := first_nil.1 (ne_false.1 h)
  simp only [List.mem_cons, List.not_mem_nil, or_false, forall_eq_or_imp, forall_eq, checkWine_zero, strengthErr_zero] at this
  rw [unl_zero (by decide), decide_eq_true_eq] at this
  rw [W_id (by omega) (by omega)]; omega
theorem rspirit_ne {w : Wine} {x y : Int} (h : (first3 (rCheckWine w) (rStrengthErr x) (rStrengthErr y) != 0) = false) (hxy : decide (x ≤ y) = false) : W (x - y) ≠ 0 := by
  rw [first3_eq, rCheckWine_eq, rStrengthErr_eq, rStrengthErr_eq] at h
  have := first_nil.1 (ne_false.1 h)
  simp only [List.mem_cons, List.not_mem_nil, or_false, forall_eq_or_imp, forall_eq, checkWine_zero, strengthErr_zero] at this
  rw [decide_eq_false_iff_not] at hxy
  rw [W_id (by omega) (by omega)]; omega
theorem rratesErr {b a : Wine} (h : (first3 (rCheckWine b) (rCheckWine a) 0 != 0) = false) : OkW b ∧ OkW a := by
  rw [first3_eq, rCheckWine_eq, rCheckWine_eq] at h
  have := first_nil.1 (ne_false.1 h)
  simp only [List.mem_cons, List.not_mem_nil, or_false, forall_eq_or_imp, forall_eq, checkWine_zero] at this
  exact ⟨this.1, this.2.1⟩
theorem r44 {v0 v1 s0 s1 c0 c1 d : Int} {a : Wine} (h : (first3 (rCheckWine ⟨v0, v1, s0, s1, c0, c1⟩) (rCheckWine a) 0 != 0) = false) (hd : (!within d 1 365) = false) (hv : (v0 == 0) = false) (hs : (s0 == 0) = false) :
    W (v0 * d) ≠ 0 ∧ W (v1 * d) ≠ 0 ∧ W ((alcohol ⟨v0, v1, s0, s1, c0, c1⟩).lo * d) ≠ 0 ∧ W ((alcohol ⟨v0, v1, s0, s1, c0, c1⟩).hi * d) ≠ 0 := by
  obtain ⟨h1, h2⟩ := rratesErr h
  rw [Bool.not_eq_false', within_iff] at hd
  have hv' : v0 ≠ 0 := by simpa using hv
  have hs' : s0 ≠ 0 := by simpa using hs
  have := h1.v0; have := h1.s0
  simp only at *
  exact rates_b (a := a) (x := 0) h1 hd (by simp only; omega) (by simp only; omega)
theorem measureErr_zero {d : Int} {w : Wine} : measureErr d w = 0 ↔ (0 ≤ d ∧ d ≤ 100000) ∧ OkW w := by
  unfold measureErr
  rw [first_nil]
  simp only [List.mem_cons, List.not_mem_nil, or_false, forall_eq_or_imp, forall_eq, checkWine_zero]
  rw [unl_zero (by decide), within_iff]
theorem r46 {r : Rate} {da db : Int} {a b : Wine} (h : (first3 (rCheckRate r) (rMeasureErr da a) (rMeasureErr db b) != 0) = false) (hb : (rBetweenErr da db != 0) = false) :
    (left (Rate.w r) (W (db - da))).hi ≠ 0 ∧ (left (Rate.w r) (W (db - da))).lo ≠ 0 := by
  rw [first3_eq, rCheckRate_eq, rMeasureErr_eq, rMeasureErr_eq] at h
  have := first_nil.1 (ne_false.1 h)
  simp only [List.mem_cons, List.not_mem_nil, or_false, forall_eq_or_imp, forall_eq, checkRate_zero, measureErr_zero] at this
  have hb' := ne_false.1 hb
  unfold rBetweenErr at hb'
  refine task_left this.1 ?_
  have e : W (db - da) = db - da := W_id (by omega) (by omega)
  by_cases h1 : db ≤ da
  · rw [decide_eq_true h1] at hb'; cases hb'
  · rw [decide_eq_false h1, cond_false] at hb'
    by_cases h2 : W (db - da) > 365
    · rw [decide_eq_true h2] at hb'; cases hb'
    · omega
end Go.Fl.L
