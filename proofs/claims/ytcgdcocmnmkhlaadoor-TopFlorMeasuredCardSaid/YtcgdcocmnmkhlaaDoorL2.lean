/- Chapter 3, plain laws: what the program computes is what the reference computes. -/
import Derived.Test.YtcgdcocmnmkhlaaDoorF9
set_option linter.unusedVariables false
set_option linter.unusedSimpArgs false
namespace Go.Fl.L
open Go.Fl.M

theorem bne_true {e : Int} : (e != 0) = true ↔ e ≠ 0 := by simp
theorem first_cons (e : Int) (l : List Int) : first (e :: l) = if e = 0 then first l else e := by
  by_cases h : e = 0
  · subst h; simp [first]
  · have : (e != 0) = true := by simp [h]
    rw [first, this, if_neg h]; rfl
theorem first_nil' : first [] = 0 := rfl
theorem cond_bne {α : Type} (e : Int) (a b : α) : cond (e != 0) a b = if e = 0 then b else a := by
  by_cases h : e = 0
  · subst h; simp
  · have : (e != 0) = true := by simp [h]
    rw [this, if_neg h]; rfl
theorem cond_dec {α : Type} (p : Prop) [Decidable p] (a b : α) : cond (decide p) a b = if p then a else b := by
  by_cases h : p <;> simp [h]
theorem unl_dec (p : Prop) [Decidable p] (e : Int) : unl (decide p) e = if p then 0 else e := cond_dec p 0 e
theorem drawn_eq (w : Wine) (x : Rg) : Drawn w x = rDrawn w x := by
  unfold Drawn rDrawn drawnErr
  simp only [first3_eq, rCheckWine_eq, rangeErr_eq, cond_bne, cond_dec, unl_dec, first_cons, first_nil']
  generalize checkWine w = a
  generalize spanErr x 100000 = b
  by_cases ha : a = 0 <;> by_cases hb : b = 0 <;> by_cases hc : w.v0 < x.hi
  all_goals (first | (have hc' : ¬ (w.v0 ≥ x.hi) := by omega) | (have hc' : w.v0 ≥ x.hi := by omega))
  all_goals simp only [ha, hb, hc, hc', if_true, if_false, ne_eq, not_false_eq_true, reduceIte, Int.reduceEq]
theorem safe_eq (w : Wine) (r : Rate) (k : Int) : SafeDays w r k = rSafeDays w r k := by
  have e : (fun d => (after w r d).s0) = (fun d => (rStrength w r d).lo) := rfl
  unfold SafeDays rSafeDays safeErr
  rw [e]
  simp only [first3_eq, rCheckWine_eq, rCheckRate_eq, rStrengthErr_eq, cond_bne, cond_dec, unl_dec, first_cons, first_nil']
  generalize checkWine w = a
  generalize checkRate r = b
  generalize strengthErr k = c
  by_cases ha : a = 0 <;> by_cases hb : b = 0 <;> by_cases hcc : c = 0 <;> by_cases hc : w.s0 < k
  all_goals (first | (have hc' : ¬ (w.s0 ≥ k) := by omega) | (have hc' : w.s0 ≥ k := by omega))
  all_goals simp only [ha, hb, hcc, hc, hc', if_true, if_false, ne_eq, not_false_eq_true, reduceIte, Int.reduceEq]
theorem common_lo (a b : Rg) : (common a b).lo = maxI a.lo b.lo := rfl
theorem common_hi (a b : Rg) : (common a b).hi = minI a.hi b.hi := rfl
theorem rgEq_common (a b : Rg) : rgEq (common a b) a = rgIn a b := by
  rw [Bool.eq_iff_iff]
  simp only [rgEq, rgIn, common_lo, common_hi, maxI, minI, cond_dec, Bool.and_true, Bool.and_eq_true, beq_iff_eq]
  grind
theorem legal_eq (w : Wine) (x : Rate) : LegalIs w x = rLegalIs w x := by
  unfold LegalIs rLegalIs lawErr legalIs
  rw [rgEq_common, rgEq_common]
  simp only [first3_eq, rCheckWine_eq, rCheckLaw_eq, first_cons, first_nil', cond_bne, rgOk]
  generalize checkWine w = a
  generalize checkLaw x = b
  generalize rgIn w.s x.w = p
  generalize rgIn w.c x.al = q
  generalize common w.s x.w = s
  generalize common w.c x.al = t
  simp only [cond_dec]
  by_cases ha : a = 0 <;> by_cases hb : b = 0 <;> by_cases hs : s.lo ≤ s.hi <;> by_cases ht : t.lo ≤ t.hi
  all_goals (first | (have hs' : ¬ (s.lo > s.hi) := by omega) | (have hs' : s.lo > s.hi := by omega))
  all_goals (first | (have ht' : ¬ (t.lo > t.hi) := by omega) | (have ht' : t.lo > t.hi := by omega))
  all_goals (cases p <;> cases q <;> simp [ha, hb, hs, ht, hs', ht'])
theorem wEq_common (a b : Wine) : wEq (commonW a b) a = wIn a b := by
  have h1 := rgEq_common a.v b.v
  have h2 := rgEq_common a.s b.s
  have h3 := rgEq_common a.c b.c
  unfold wIn
  rw [← h1, ← h2, ← h3]
  have e : wEq (commonW a b) a = (rgEq (common a.v b.v) a.v && (rgEq (common a.s b.s) a.s && (rgEq (common a.c b.c) a.c && true))) := rfl
  rw [e]
  cases rgEq (common a.v b.v) a.v <;> cases rgEq (common a.s b.s) a.s <;> cases rgEq (common a.c b.c) a.c <;> rfl
theorem after_eq {w : Wine} {r : Rate} {d : Int} (h : taskErr w r d = 0) : After w r d = rAfter w r d := by
  unfold After rAfter
  rw [h, rAfterW_eq]
  rfl
theorem after_err {w : Wine} {r : Rate} {d : Int} (h : taskErr w r d ≠ 0) : After w r d = (wine0, taskErr w r d) := by
  unfold After
  rw [cond_bne, if_neg h]
theorem loss_err {w : Wine} {r : Rate} {d : Int} (h : taskErr w r d ≠ 0) : LossOf w r d = (rg0, taskErr w r d) := by
  unfold LossOf
  rw [cond_bne, if_neg h]
theorem loss_eq {w : Wine} {r : Rate} {d : Int} (h : taskErr w r d = 0) : LossOf w r d = (rLossOf w r d, 0) := by
  obtain ⟨hw, hr, h0, h1⟩ := taskErr_zero.1 h
  unfold LossOf
  rw [h]
  have e : ((0 : Int) != 0) = false := rfl
  rw [e, cond_false]
  obtain ⟨e1, e2, b1, b2, b3⟩ := left_eq (r := r.w) hr.a hr.b hr.b1 h0 h1
  have ea : r.w.lo = r.a := rfl
  have eb : r.w.hi = r.b := rfl
  rw [eb] at e1; rw [ea] at e2
  have m1 := mul_le hr.a (by have := hr.b; have := hr.b1; omega : r.a ≤ 2000) h0 h1
  have m2 := mul_le (by have := hr.b; have := hr.a; omega) hr.b1 h0 h1
  have n1 := mul_le hw.v0 (by have := hw.v; have := hw.v1; omega : w.v0 ≤ 100000) hr.a (by have := hr.b; have := hr.b1; omega : r.a ≤ 2000)
  have n2 := mul_le (by have := hw.v; have := hw.v0; omega) hw.v1 (by have := hr.b; have := hr.a; omega) hr.b1
  have c1 : W (1000000 - (left r.w d).hi) = r.a * d := by rw [e2, W_id (by omega) (by omega)]; omega
  have c2 : W (1000000 - (left r.w d).lo) = r.b * d := by rw [e1, W_id (by omega) (by omega)]; omega
  have d1 : W (w.v0 * r.a) = w.v0 * r.a := W_id (by omega) (by omega)
  have d2 : W (w.v1 * r.b) = w.v1 * r.b := W_id (by omega) (by omega)
  unfold lossOf rLossOf
  rw [c1, c2, d1, d2, Int.mul_assoc, Int.mul_assoc]
theorem between_eq (a b : Int) (h : -9000000000000000000 ≤ b - a) (h' : b - a ≤ 9000000000000000000) : betweenErr a b = rBetweenErr a b := by
  unfold betweenErr rBetweenErr
  rw [W_id (by omega) (by omega)]
  simp only [first_cons, first_nil', unl_dec, cond_dec]
  grind
theorem expl_eq (r : Rate) (da : Int) (a : Wine) (db : Int) (b : Wine) : Explains r da a db b = rExplains r da a db b := by
  unfold Explains rExplains explErr
  rw [first3_eq, rCheckRate_eq, rMeasureErr_eq, rMeasureErr_eq, wEq_common]
  by_cases h : first [checkRate r, measureErr da a, measureErr db b] = 0
  · have h' := first_nil.1 h
    simp only [List.mem_cons, List.not_mem_nil, or_false, forall_eq_or_imp, forall_eq, checkRate_zero, measureErr_zero] at h'
    obtain ⟨hr, ⟨ha1, ha2⟩, ⟨hb1, hb2⟩⟩ := h'
    rw [between_eq da db (by omega) (by omega)]
    by_cases hb : rBetweenErr da db = 0
    · have e : W (db - da) = db - da := W_id (by omega) (by omega)
      have ht : taskErr a r (W (db - da)) = 0 := by
        rw [taskErr_zero]
        refine ⟨ha2, hr, ?_⟩
        rw [e]
        unfold rBetweenErr at hb
        rw [e] at hb
        simp only [cond_dec] at hb
        grind
      rw [after_eq ht]
    · simp only [cond_bne, h, hb, if_true, if_false]
  · simp only [cond_bne, h, if_false]
theorem rate_eq (b a : Rg) (d : Int) : rate b a d = rateOf b a d := by
  unfold rate rateOf common
  generalize floor (W (1000000 * W (b.lo - a.hi))) (W (b.lo * d)) = x
  generalize ceiling (W (1000000 * W (b.hi - a.lo))) (W (b.hi * d)) = y
  have e1 : maxI x 0 = maxI 0 x := by unfold maxI; grind
  have e2 : minI y 2000 = minI 2000 y := by unfold minI; grind
  show (⟨maxI x 0, minI y 2000⟩ : Rg) = _
  rw [e1, e2]
theorem rates_eq (b a : Wine) (d : Int) : RatesOf b a d = rRatesOf b a d := by
  unfold RatesOf rRatesOf ratesErr
  rw [rate_eq, rate_eq]
  simp only [first3_eq, rCheckWine_eq, rgOk]
  generalize rateOf b.v a.v d = x
  generalize rateOf (alcohol b) (alcohol a) d = y
  by_cases hb : checkWine b = 0
  · have hw := checkWine_zero.1 hb
    have h1 := hw.v0
    have h2 := hw.s0
    generalize checkWine a = c
    cases hd : within d 1 365 <;> by_cases hc : c = 0 <;> by_cases hv : b.v0 = 0 <;> by_cases hs : b.s0 = 0
    all_goals (first | (have hv' : ¬ (b.v0 > 0) := by omega) | (have hv' : b.v0 > 0 := by omega))
    all_goals (first | (have hs' : ¬ (b.s0 > 0) := by omega) | (have hs' : b.s0 > 0 := by omega))
    all_goals simp only [cond_bne, cond_dec, first_cons, first_nil', hb, hc, hv, hs, hv', hs', unl, if_true, if_false, cond_true, cond_false, Int.reduceEq, reduceIte]
    all_goals grind
  · simp only [cond_bne, first_cons, hb, if_false]
end Go.Fl.L
