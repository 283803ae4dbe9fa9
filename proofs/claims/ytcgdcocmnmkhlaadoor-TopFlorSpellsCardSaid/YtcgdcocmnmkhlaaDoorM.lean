/- What the functions of chapter 3 compute, in plain Lean: one function of the same name for each. -/
import Derived.WalkKit
namespace Go.Fl.M

@[reducible] def W (n : Int) : Int := IntKind.i64.wrap n

structure Rg where
  lo : Int
  hi : Int
structure Wine where
  v0 : Int
  v1 : Int
  s0 : Int
  s1 : Int
  c0 : Int
  c1 : Int
structure Rate where
  a : Int
  b : Int
  c : Int
  d : Int
def Wine.v (w : Wine) : Rg := ⟨w.v0, w.v1⟩
def Wine.s (w : Wine) : Rg := ⟨w.s0, w.s1⟩
def Wine.c (w : Wine) : Rg := ⟨w.c0, w.c1⟩
def Rate.w (r : Rate) : Rg := ⟨r.a, r.b⟩
def Rate.al (r : Rate) : Rg := ⟨r.c, r.d⟩
def Wine.mk3 (v s c : Rg) : Wine := ⟨v.lo, v.hi, s.lo, s.hi, c.lo, c.hi⟩
def wine0 : Wine := ⟨0, 0, 0, 0, 0, 0⟩
def rate0 : Rate := ⟨0, 0, 0, 0⟩
def rg0 : Rg := ⟨0, 0⟩

def within (n lo hi : Int) : Bool := cond (decide (lo ≤ n)) (decide (n ≤ hi)) false
def unl (ok : Bool) (e : Int) : Int := cond ok 0 e
def first : List Int → Int
  | [] => 0
  | e :: l => cond (e != 0) e (first l)
def floor (n b : Int) : Int := cond (decide (n.tmod b < 0)) (W (W (n.tdiv b) - 1)) (W (n.tdiv b))
def ceiling (n b : Int) : Int := W (0 - floor (W (0 - n)) b)
def spanErr (r : Rg) (most : Int) : Int := first [unl (cond (within r.lo 0 most) (within r.hi 0 most) false) 2, unl (decide (r.lo ≤ r.hi)) 9]
def maxI (x y : Int) : Int := if y > x then y else x
def minI (x y : Int) : Int := if y < x then y else x
def common (a b : Rg) : Rg := ⟨maxI a.lo b.lo, minI a.hi b.hi⟩
def rgOk (a : Rg) : Bool := decide (a.lo ≤ a.hi)
def rgIn (a b : Rg) : Bool := cond (decide (b.lo ≤ a.lo)) (decide (a.hi ≤ b.hi)) false
def checkWine (w : Wine) : Int := cond (spanErr w.v 100000 != 0) (spanErr w.v 100000) (cond (spanErr w.s 10000 != 0) (spanErr w.s 10000) (cond (spanErr w.c 100000 != 0) (spanErr w.c 100000) 0))
def checkRate (r : Rate) : Int := first [spanErr r.w 2000, spanErr r.al 2000]
def checkLaw (x : Rate) : Int := first [spanErr x.w 10000, spanErr x.al 100000]
def daysErr (d : Int) : Int := unl (within d 0 365) 2
def strengthErr (n : Int) : Int := unl (within n 0 10000) 2
def left (r : Rg) (d : Int) : Rg := ⟨W (1000000 - W (r.hi * d)), W (1000000 - W (r.lo * d))⟩
def after (w : Wine) (r : Rate) (d : Int) : Wine :=
  ⟨floor (W (w.v0 * (left r.w d).lo)) 1000000, ceiling (W (w.v1 * (left r.w d).hi)) 1000000,
   floor (W (w.s0 * (left r.al d).lo)) (left r.w d).hi, ceiling (W (w.s1 * (left r.al d).hi)) (left r.w d).lo,
   floor (W (w.c0 * 1000000)) (left r.w d).hi, ceiling (W (w.c1 * 1000000)) (left r.w d).lo⟩


/- the program -/
def wE (e : Int) (w : Wine) : Wine × Int := cond (e != 0) (wine0, e) (w, 0)
def taskErr (w : Wine) (r : Rate) (d : Int) : Int := first [checkWine w, checkRate r, daysErr d]
def After (w : Wine) (r : Rate) (d : Int) : Wine × Int :=
  cond (taskErr w r d != 0) (wine0, taskErr w r d)
    (cond (decide ((after w r d).s1 > 10000)) (wine0, 8) (cond (decide ((after w r d).c1 > 100000)) (wine0, 8) (after w r d, 0)))
def lossOf (w : Wine) (r : Rate) (d : Int) : Rg :=
  ⟨floor (W (w.v0 * W (1000000 - (left r.w d).hi))) 1000000, ceiling (W (w.v1 * W (1000000 - (left r.w d).lo))) 1000000⟩
def LossOf (w : Wine) (r : Rate) (d : Int) : Rg × Int := cond (taskErr w r d != 0) (rg0, taskErr w r d) (lossOf w r d, 0)
def drawnErr (w : Wine) (x : Rg) : Int := first [checkWine w, spanErr x 100000, unl (decide (w.v0 ≥ x.hi)) 24]
def Drawn (w : Wine) (x : Rg) : Wine × Int := cond (drawnErr w x != 0) (wine0, drawnErr w x) ({ w with v0 := W (w.v0 - x.hi), v1 := W (w.v1 - x.lo) }, 0)
def legalIs (w : Wine) (x : Rate) : Int :=
  cond (rgOk (common w.s x.w)) (cond (rgIn w.s x.w)
      (cond (rgOk (common w.c x.al)) (cond (rgIn w.c x.al) 2 1) 0)
      (cond (rgOk (common w.c x.al)) 1 0)) 0
def lawErr (w : Wine) (x : Rate) : Int := first [checkWine w, checkLaw x]
def LegalIs (w : Wine) (x : Rate) : Int × Int := cond (lawErr w x != 0) (0, lawErr w x) (legalIs w x, 0)
def alcohol (w : Wine) : Rg := ⟨W (w.v0 * w.s0), W (w.v1 * w.s1)⟩
def rateBy (before after days : Int) : Int × Int := (W (1000000 * W (before - after)), W (before * days))
def rate (before after : Rg) (days : Int) : Rg :=
  common ⟨floor (W (1000000 * W (before.lo - after.hi))) (W (before.lo * days)), ceiling (W (1000000 * W (before.hi - after.lo))) (W (before.hi * days))⟩ ⟨0, 2000⟩
def ratesErr (b a : Wine) (d : Int) : Int := first [checkWine b, checkWine a, unl (within d 1 365) 2, unl (cond (decide (b.v0 > 0)) (decide (b.s0 > 0)) false) 25]
def Rate.mk2 (a b : Rg) : Rate := ⟨a.lo, a.hi, b.lo, b.hi⟩
def RatesOf (b a : Wine) (d : Int) : Rate × Int :=
  cond (ratesErr b a d != 0) (rate0, ratesErr b a d)
    (cond (rgOk (rate b.v a.v d)) (cond (rgOk (rate (alcohol b) (alcohol a) d)) (Rate.mk2 (rate b.v a.v d) (rate (alcohol b) (alcohol a) d), 0) (rate0, 13)) (rate0, 13))
def measureErr (d : Int) (w : Wine) : Int := first [unl (within d 0 100000) 2, checkWine w]
def betweenErr (a b : Int) : Int := first [unl (decide (b > a)) 9, unl (decide (W (b - a) ≤ 365)) 8]
def commonW (a b : Wine) : Wine := Wine.mk3 (common a.v b.v) (common a.s b.s) (common a.c b.c)
def wOk (a : Wine) : Bool := cond (rgOk a.v) (cond (rgOk a.s) (rgOk a.c) false) false
def wIn (a b : Wine) : Bool := cond (rgIn a.v b.v) (cond (rgIn a.s b.s) (rgIn a.c b.c) false) false
def explErr (r : Rate) (da : Int) (a : Wine) (db : Int) (b : Wine) : Int := first [checkRate r, measureErr da a, measureErr db b]
def Explains (r : Rate) (da : Int) (a : Wine) (db : Int) (b : Wine) : Int × Int :=
  cond (explErr r da a db b != 0) (0, explErr r da a db b)
    (cond (betweenErr da db != 0) (0, betweenErr da db)
      (cond ((After a r (W (db - da))).2 != 0) (0, (After a r (W (db - da))).2)
        (cond (wOk (commonW (After a r (W (db - da))).1 b)) (cond (wIn (After a r (W (db - da))).1 b) (2, 0) (1, 0)) (0, 0))))
def spiritErr (w : Wine) (x y : Int) : Int := first [checkWine w, strengthErr x, strengthErr y, unl (decide (x > y)) 11]
def need (volume strength target spirit : Int) : Int := ceiling (W (volume * maxI 0 (W (target - strength)))) (W (spirit - target))
def SpiritFor (w : Wine) (spirit target : Int) : Rg × Int :=
  cond (spiritErr w spirit target != 0) (rg0, spiritErr w spirit target)
    (cond (decide (need w.v1 w.s0 target spirit > 100000)) (rg0, 8) (⟨need w.v0 w.s1 target spirit, need w.v1 w.s0 target spirit⟩, 0))

/- the reference -/
def rangeErr (r : Rg) (most : Int) : Int := cond (within r.lo 0 most) (cond (within r.hi 0 most) (cond (decide (r.lo > r.hi)) 9 0) 2) 2
def first3 (a b c : Int) : Int := cond (a != 0) a (cond (b != 0) b c)
def rCheckWine (w : Wine) : Int := first3 (rangeErr w.v 100000) (rangeErr w.s 10000) (rangeErr w.c 100000)
def rCheckRate (r : Rate) : Int := first3 (rangeErr r.w 2000) (rangeErr r.al 2000) 0
def rCheckLaw (x : Rate) : Int := first3 (rangeErr x.w 10000) (rangeErr x.al 100000) 0
def rDaysErr (d : Int) : Int := cond (within d 0 365) 0 2
def rStrengthErr (n : Int) : Int := cond (within n 0 10000) 0 2
def rTaskErr (w : Wine) (r : Rate) (d : Int) : Int := first3 (rCheckWine w) (rCheckRate r) (rDaysErr d)
def rStrength (w : Wine) (r : Rate) (d : Int) : Rg := ⟨floor (W (w.s0 * (left r.al d).lo)) (left r.w d).hi, ceiling (W (w.s1 * (left r.al d).hi)) (left r.w d).lo⟩
def rAfterW (w : Wine) (r : Rate) (d : Int) : Wine :=
  ⟨floor (W (w.v0 * (left r.w d).lo)) 1000000, ceiling (W (w.v1 * (left r.w d).hi)) 1000000, (rStrength w r d).lo, (rStrength w r d).hi,
   floor (W (w.c0 * 1000000)) (left r.w d).hi, ceiling (W (w.c1 * 1000000)) (left r.w d).lo⟩
theorem rAfterW_eq (w : Wine) (r : Rate) (d : Int) : rAfterW w r d = after w r d := by simp only [rAfterW, rStrength, after]
def rAfter (w : Wine) (r : Rate) (d : Int) : Wine × Int :=
  cond (decide ((rAfterW w r d).s1 > 10000)) (wine0, 8) (cond (decide ((rAfterW w r d).c1 > 100000)) (wine0, 8) (rAfterW w r d, 0))
def rLossOf (w : Wine) (r : Rate) (d : Int) : Rg := ⟨floor (W (W (w.v0 * r.a) * d)) 1000000, ceiling (W (W (w.v1 * r.b) * d)) 1000000⟩
def rDrawn (w : Wine) (x : Rg) : Wine × Int :=
  cond (first3 (rCheckWine w) (rangeErr x 100000) 0 != 0) (wine0, first3 (rCheckWine w) (rangeErr x 100000) 0)
    (cond (decide (w.v0 < x.hi)) (wine0, 24) ({ w with v0 := W (w.v0 - x.hi), v1 := W (w.v1 - x.lo) }, 0))
def rgEq (a b : Rg) : Bool := (a.lo == b.lo) && ((a.hi == b.hi) && true)
def rLegalIs (w : Wine) (x : Rate) : Int × Int :=
  cond (first3 (rCheckWine w) (rCheckLaw x) 0 != 0) (0, first3 (rCheckWine w) (rCheckLaw x) 0)
    (cond (decide ((common w.s x.w).lo > (common w.s x.w).hi)) (0, 0) (cond (decide ((common w.c x.al).lo > (common w.c x.al).hi)) (0, 0)
      (cond (rgEq (common w.s x.w) w.s) (cond (rgEq (common w.c x.al) w.c) (2, 0) (1, 0)) (1, 0))))
def rateOf (b a : Rg) (d : Int) : Rg :=
  ⟨maxI 0 (floor (W (1000000 * W (b.lo - a.hi))) (W (b.lo * d))), minI 2000 (ceiling (W (1000000 * W (b.hi - a.lo))) (W (b.hi * d)))⟩
def rRatesOf (b a : Wine) (d : Int) : Rate × Int :=
  cond (first3 (rCheckWine b) (rCheckWine a) 0 != 0) (rate0, first3 (rCheckWine b) (rCheckWine a) 0)
    (cond (within d 1 365)
      (cond (b.v0 == 0) (rate0, 25) (cond (b.s0 == 0) (rate0, 25)
        (cond (decide ((rateOf b.v a.v d).lo > (rateOf b.v a.v d).hi)) (rate0, 13)
          (cond (decide ((rateOf (alcohol b) (alcohol a) d).lo > (rateOf (alcohol b) (alcohol a) d).hi)) (rate0, 13)
            (Rate.mk2 (rateOf b.v a.v d) (rateOf (alcohol b) (alcohol a) d), 0)))))
      (rate0, 2))
def rMeasureErr (d : Int) (w : Wine) : Int := cond (within d 0 100000) (rCheckWine w) 2
def rBetweenErr (a b : Int) : Int := cond (decide (b ≤ a)) 9 (cond (decide (W (b - a) > 365)) 8 0)
def wEq (a b : Wine) : Bool := ((a.v0 == b.v0) && ((a.v1 == b.v1) && true)) && (((a.s0 == b.s0) && ((a.s1 == b.s1) && true)) && (((a.c0 == b.c0) && ((a.c1 == b.c1) && true)) && true))
def rExplains (r : Rate) (da : Int) (a : Wine) (db : Int) (b : Wine) : Int × Int :=
  cond (first3 (rCheckRate r) (rMeasureErr da a) (rMeasureErr db b) != 0) (0, first3 (rCheckRate r) (rMeasureErr da a) (rMeasureErr db b))
    (cond (rBetweenErr da db != 0) (0, rBetweenErr da db)
      (cond ((rAfter a r (W (db - da))).2 != 0) (0, (rAfter a r (W (db - da))).2)
        (cond (wOk (commonW (rAfter a r (W (db - da))).1 b)) (cond (wEq (commonW (rAfter a r (W (db - da))).1 b) (rAfter a r (W (db - da))).1) (2, 0) (1, 0)) (0, 0))))
def needed (volume own strength target : Int) : Int := cond (decide (own ≥ target)) 0 (ceiling (W (volume * W (target - own))) (W (strength - target)))
def rSpiritFor (w : Wine) (x y : Int) : Rg × Int :=
  cond (first3 (rCheckWine w) (rStrengthErr x) (rStrengthErr y) != 0) (rg0, first3 (rCheckWine w) (rStrengthErr x) (rStrengthErr y))
    (cond (decide (x ≤ y)) (rg0, 11) (cond (decide (needed w.v1 w.s0 x y > 100000)) (rg0, 8) (⟨needed w.v0 w.s1 x y, needed w.v1 w.s0 x y⟩, 0)))

/- the statements -/
def mod (n b : Int) : Int := cond (decide (n.tmod b < 0)) (W (n.tmod b + b)) (n.tmod b)
def pick (r : Rg) (b : Int) : Int := W (r.lo + mod b (W (W (r.hi - r.lo) + 1)))
def reach (volume own spirit strength target : Int) : Bool := decide (W (W (volume * own) + W (spirit * strength)) ≥ W (target * W (volume + spirit)))
end Go.Fl.M
