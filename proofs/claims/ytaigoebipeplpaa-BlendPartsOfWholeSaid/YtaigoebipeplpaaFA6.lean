/- The parts of the engines, of their contracts and of the plain laws that the claim rests on: L7, B41, B42, B43, B44, B45, B46, B47, B48, L8, L9, L10, B50, B54, B55, L11, B56, B57, B58, R0, RG. -/
import Derived.Test.YtaigoebipeplpaaFA5
import Derived.ChangeSame
import Derived.ChangeVars
import Derived.ProofKit
import Derived.LaidMore
import Derived.OpenShut
import Derived.Carry
import Derived.ChangeArms
set_option linter.unusedVariables false
set_option linter.unusedSimpArgs false
section
set_option linter.unusedVariables false
set_option linter.unusedSimpArgs false
set_option maxRecDepth 100000
namespace Go.Bl
open Go.V Go.Proofs Go.Lp
section
variable {l : List Cask} {s : Sample} {x : M.Corner}
theorem costs_en {j : Nat} (hj : j < l.length) : en (M.costs l) j = (l.getD j dfC).cost := by
  unfold M.costs en
  rw [List.getD_eq_getElem?_getD, List.getElem?_map, List.getD_eq_getElem?_getD, List.getElem?_eq_getElem hj]; rfl
def cost (l : List Cask) (pt : List Int) : Int := smI (fun j => (l.getD j dfC).cost * en pt j) (List.range l.length)
theorem Blend.congr {pt pt' : List Int} {den far : Int} (hb : Blend l s pt den far) (h : ∀ i, i < l.length → en pt' i = en pt i) : Blend l s pt' den far := by
  refine ⟨hb.dp, fun i hi => by rw [h i hi]; exact hb.p0 i hi, fun i hi => by rw [h i hi]; exact hb.p1 i hi, ?_, fun k hk => ?_, fun k hk => ?_⟩
  · rw [← hb.sum]; exact smI_congr fun i hi => h i (List.mem_range.1 hi)
  · rw [smI_congr fun i hi => by rw [h i (List.mem_range.1 hi)]]; exact hb.hi k hk
  · rw [smI_congr fun i hi => by rw [h i (List.mem_range.1 hi)]]; exact hb.lo k hk
theorem Blend.mono {pt : List Int} {den far far' : Int} (hb : Blend l s pt den far) (h : far ≤ far') : Blend l s pt den far' :=
  ⟨hb.dp, hb.p0, hb.p1, hb.sum, fun k hk => Int.le_trans (hb.hi k hk) h, fun k hk => Int.le_trans (hb.lo k hk) h⟩
structure BestS (l : List Cask) (s : Sample) (x : M.Corner) : Prop where
  b : Blend l s x.pt x.den 0
  d : x.den ≤ 200000000000
  pl : x.pt.length = l.length
  p : Proof l s (M.costs l) (M.wtsOf x l.length)
  eq : bound l s (M.wtsOf x l.length) * x.den = (M.wtsOf x l.length).den * cost l x.pt
  tb : x.tight.length ≤ x.by_.length ∧ x.tight.length ≤ 1000 ∧ WhichOK l.length x.tight
theorem which_ok {e : Nat} {c : Cond} (hc : c ∈ M.limits l s e) : 0 ≤ c.which ∧ (c.kind = 1 → c.which < (l.length : Int)) ∧ (c.kind ≠ 1 → c.kind ≠ 0 → c.which < 4) := by
  rcases limits_cases hc with ⟨i, hi, rfl⟩ | ⟨i, hi, rfl⟩ | ⟨k, hk, rfl⟩ | ⟨k, hk, rfl⟩
  · exact ⟨Int.natCast_nonneg i, fun h => absurd h (show (0 : Int) ≠ 1 by decide), fun _ h => absurd rfl h⟩
  · exact ⟨Int.natCast_nonneg i, fun _ => by show (i : Int) < _; omega, fun h => absurd rfl h⟩
  · exact ⟨Int.natCast_nonneg k, fun h => absurd h (show (2 : Int) ≠ 1 by decide), fun _ _ => by show (k : Int) < _; omega⟩
  · exact ⟨Int.natCast_nonneg k, fun h => absurd h (show (3 : Int) ≠ 1 by decide), fun _ _ => by show (k : Int) < _; omega⟩
theorem opt_tb {n e : Nat} {sh wo : List Int} {sum : Int} (hn : n ≤ 5) (ho : Opt n sh sum wo (M.limits l s e) x) : x.tight.length ≤ x.by_.length ∧ x.tight.length ≤ 1000 ∧ WhichOK l.length x.tight :=
  ⟨by rw [ho.bl]; exact Nat.le_refl _, by have := ho.tl; omega, fun c hc => which_ok (ho.sub.subset hc)⟩
theorem costs_small (h : RightL l s) : ∀ j, j < l.length + 0 → (en (M.costs l) j).natAbs ≤ 1000 := by
  intro j hj
  rw [costs_en hj]
  have := (h.rc j hj).cost; omega
theorem best_some (h : RightL l s) (hp : M.pBest l s = some x) : BestS l s x := by
  have hc := costs_small h
  have hl : (M.costs l).length = l.length + 0 := costs_len l
  have ho := psolve_some (small_of h (e := 0) (by decide) hl (ent_of hl hc)) hp
  obtain ⟨b1, _⟩ := conds_blend h (by decide) ho.den ho.sum ho.all
  obtain ⟨p1, p2, p3, _⟩ := opt_wts h (by decide) hl (fun j hj => by unfold Kb; rw [if_pos (show j < l.length from hj)]; exact hc j hj) (W := fun _ => 1000) hc (num_cost _ h.n4) ho
  refine ⟨b1, ?_, ho.pl, p1, ?_, opt_tb (by have := h.n4; omega) ho⟩
  · rw [← ho.wdE.trans ho.denE.symm, ← p2]; exact p1.den.2
  · rw [p3, p2]
    congr 1
    exact smI_congr fun j hj => by rw [costs_en (List.mem_range.1 hj)]
theorem argmin (f : Nat → Int) : ∀ m, 1 ≤ m → ∃ j, j < m ∧ ∀ c, c < m → f j ≤ f c
  | 0, h => absurd h (by decide)
  | 1, _ => ⟨0, by decide, fun c hc => by rw [show c = 0 by omega]; exact Int.le_refl _⟩
  | m + 2, _ => by
    obtain ⟨j, hj, hm⟩ := argmin f (m + 1) (by omega)
    by_cases h : f j ≤ f (m + 1)
    · refine ⟨j, by omega, fun c hc => ?_⟩
      by_cases e : c = m + 1
      · rw [e]; exact h
      · exact hm c (by omega)
    · refine ⟨m + 1, by omega, fun c hc => ?_⟩
      by_cases e : c = m + 1
      · rw [e]; exact Int.le_refl _
      · have := hm c (by omega); omega
theorem best_none (h : RightL l s) (hp : M.pBest l s = none) {pt : List Int} {den : Int} (hb : Blend l s pt den 0) : False := by
  have hc := costs_small h
  have hl : (M.costs l).length = l.length + 0 := costs_len l
  obtain ⟨j, hj, hm⟩ := argmin (en (M.costs l)) l.length h.n1
  exact prog_none h (e := 0) (by decide) hl (ent_of hl hc) hj (fun c hc => by have hc : c < l.length := hc; rw [if_pos hc, Int.mul_one]; exact hm c hc) hp hb (Int.le_refl _)
structure NearS (l : List Cask) (s : Sample) (x : M.Corner) : Prop where
  b : Blend l s x.pt x.den (en x.pt l.length)
  f0 : 0 ≤ en x.pt l.length
  d : x.den ≤ 200000000000
  pl : x.pt.length = l.length + 1
  p : Proof l s (M.far l) (M.wtsOf x l.length)
  eq : bound l s (M.wtsOf x l.length) * x.den = (M.wtsOf x l.length).den * en x.pt l.length
  ws : wsum (M.wtsOf x l.length) ≤ (M.wtsOf x l.length).den
  tb : x.tight.length ≤ x.by_.length ∧ x.tight.length ≤ 1000 ∧ WhichOK l.length x.tight
theorem Blend.parts (h : RightL l s) {pt : List Int} {den far : Int} (hb : Blend l s pt den far) (hd : den ≤ 200000000000) (hl : pt.length = l.length) : RightP l den pt := by
  refine ⟨hl, ⟨hb.dp, hd⟩, fun i hi => ⟨hb.p0 i hi, ?_⟩⟩
  have h1 := hb.p1 i hi
  have h2 := (h.rc i hi).vol
  have h3 : (l.getD i dfC).vol * den ≤ 10000 * 200000000000 := Int.mul_le_mul h2.2 hd (Int.le_of_lt hb.dp) (by decide)
  show pt.getD i 0 ≤ _
  have h1 : pt.getD i 0 ≤ (l.getD i dfC).vol * den := h1
  omega
theorem sum_vol (h : RightL l s) {pt : List Int} {den : Int} (hp : RightP l den pt) : M.sumP (fun _ => 1) l pt = smI (fun i => en pt i) (List.range l.length) := by
  rw [(vol_bound h.n4 hp).1, smI_dot]; rfl
theorem sum_cost (h : RightL l s) {pt : List Int} {den : Int} (hp : RightP l den pt) : M.sumP Cask.cost l pt = cost l pt := by
  rw [(sumP_eq h.n4 hp (of := Cask.cost) fun i hi => by have := (h.rc i hi).cost; omega).1]
  unfold cost
  rw [smI_dot]
  exact dot_congr fun i _ => Int.mul_comm _ _
theorem open_of (h : RightL l s) {pt : List Int} {den far : Int} (hb : Blend l s pt den far) (hd : den ≤ 200000000000) (hl : pt.length = l.length) : OpenR l s den pt := by
  have hp := hb.parts h hd hl
  refine ⟨h.n4, h.rc, hp, ?_, ⟨h.lo 0 (by decide), h.hi 0 (by decide)⟩, ⟨h.lo 1 (by decide), h.hi 1 (by decide)⟩, ⟨h.lo 2 (by decide), h.hi 2 (by decide)⟩, ⟨h.lo 3 (by decide), h.hi 3 (by decide)⟩⟩
  rw [sum_vol h hp, hb.sum]
  have := Int.mul_pos (show 0 < s.vol by have := h.v; omega) hb.dp
  omega
theorem away_le (h : RightL l s) {pt : List Int} {den : Int} (ho : OpenR l s den pt) {F : Int} : M.away l pt s ≤ F ↔ 0 ≤ F ∧ ∀ k, k < 4 → smI (fun i => (M.val (l.getD i dfC) k - (M.rg s k).hi) * en pt i) (List.range l.length) ≤ F ∧ smI (fun i => ((M.rg s k).lo - M.val (l.getD i dfC) k) * en pt i) (List.range l.length) ≤ F := by
  have hk : ∀ (k : Nat) (of : Cask → Int), k < 4 → (∀ c, of c = M.val c k) → M.valL l pt of (M.rg s k).hi = smI (fun i => (M.val (l.getD i dfC) k - (M.rg s k).hi) * en pt i) (List.range l.length) ∧ IntKind.i64.wrap (0 - M.valL l pt of (M.rg s k).lo) = smI (fun i => ((M.rg s k).lo - M.val (l.getD i dfC) k) * en pt i) (List.range l.length) := by
    intro k of hk hof
    have hof' : ∀ i, i < l.length → 0 ≤ of (l.getD i dfC) ∧ of (l.getD i dfC) ≤ 1000 := fun i hi => by rw [hof]; exact (h.rc i hi).val k
    have h1 := valL_eq h.n4 ho.parts hof' (h.hi k hk)
    have h2 := valL_eq h.n4 ho.parts hof' (h.lo k hk)
    have h3 := (kind_eq h.n4 ho.parts hof' (h.lo k hk) (h.hi k hk)).2.2.1
    constructor
    · rw [h1.1, ← smI_dot]
      refine smI_congr fun i _ => ?_
      rw [hof, Int.mul_comm]; rfl
    · rw [h3, h2.1, ← smI_dot, Int.zero_sub, ← smI_neg]
      refine smI_congr fun i _ => ?_
      rw [hof, ← Int.mul_neg, Int.mul_comm, Int.neg_sub]; rfl
  obtain ⟨a1, a2⟩ := hk 0 (M.kOf 0) (by decide) (fun _ => rfl)
  obtain ⟨b1, b2⟩ := hk 1 (M.kOf 1) (by decide) (fun _ => rfl)
  obtain ⟨c1, c2⟩ := hk 2 (M.kOf 2) (by decide) (fun _ => rfl)
  obtain ⟨d1, d2⟩ := hk 3 (M.kOf 3) (by decide) (fun _ => rfl)
  rw [← (far_away ho).1]
  unfold M.farR M.farK
  rw [show s.r0 = M.rg s 0 from rfl, show s.r1 = M.rg s 1 from rfl, show s.r2 = M.rg s 2 from rfl, show s.r3 = M.rg s 3 from rfl, a1, a2, b1, b2, c1, c2, d1, d2]
  simp only [mx_le]
  constructor
  · rintro ⟨⟨⟨⟨⟨⟨⟨⟨x0, x1⟩, x2⟩, x3⟩, x4⟩, x5⟩, x6⟩, x7⟩, x8⟩
    refine ⟨x0, fun k hk => ?_⟩
    rcases four hk with rfl | rfl | rfl | rfl
    · exact ⟨x2, x1⟩
    · exact ⟨x4, x3⟩
    · exact ⟨x6, x5⟩
    · exact ⟨x8, x7⟩
  · rintro ⟨x0, hx⟩
    exact ⟨⟨⟨⟨⟨⟨⟨⟨x0, (hx 0 (by decide)).2⟩, (hx 0 (by decide)).1⟩, (hx 1 (by decide)).2⟩, (hx 1 (by decide)).1⟩, (hx 2 (by decide)).2⟩, (hx 2 (by decide)).1⟩, (hx 3 (by decide)).2⟩, (hx 3 (by decide)).1⟩
theorem best_okay (l : List Cask) (s : Sample) : BestOK l s := by
  intro he
  have h := task_right he
  have hc := costs_small h
  obtain ⟨a1, a2, a3, a4, a5⟩ := limits_small h (e := 0) (by decide)
  refine ⟨h.n1, h.n4, fun c hc => by rw [shares_len]; exact a3 c hc, turnOK (by rw [shares_len]; have := h.n4; omega) a2 (fun c hc => ⟨by rw [shares_len]; exact a3 c hc, a4 c hc⟩), fun x hx => ?_⟩
  have hb := best_some h hx
  have ho := open_of h hb.b hb.d hb.pl
  exact ⟨⟨Nat.le_of_eq hb.pl, by have := hb.b.dp; omega, by have := hb.b.dp; have := hb.d; unfold i64ok; omega, hb.tb.1, hb.tb.2.1, hb.tb.2.2⟩, cost_ok ho⟩
end
end Go.Bl
end

section
set_option linter.unusedVariables false
set_option linter.unusedSimpArgs false
set_option maxRecDepth 100000
namespace Go.Bl
open Go.V Go.Proofs
end Go.Bl
end

section
set_option linter.unusedVariables false
set_option linter.unusedSimpArgs false
set_option maxRecDepth 100000
namespace Go.Bl
open Go.V Go.Proofs
namespace M
def wOk (w : Wts) : Bool := allB isWeight [w.x0, w.x1, w.x2, w.x3] && allB isWeight [w.y0, w.y1, w.y2, w.y3] && allB isWeight w.casks
def wHead (w : Wts) : Bool := within w.den 1 200000000000 && within w.each (-100000000000000) 100000000000000
def openW (l : List Cask) (s : Sample) (w : Wts) : Int := first [casksErr l, checkSample s, unl (wHead w) 2, unl ((w.casks.length : Int) == (l.length : Int)) 10, unl (wOk w) 2]
def giveK (x y v lo hi g : Int) : Int := IntKind.i64.wrap (IntKind.i64.wrap (g - IntKind.i64.wrap (x * IntKind.i64.wrap (v - hi))) - IntKind.i64.wrap (y * IntKind.i64.wrap (lo - v)))
def giveR (l : List Cask) (s : Sample) (w : Wts) (i : Nat) : Int :=
  giveK w.x3 w.y3 (l.getD i dfC).k3 s.r3.lo s.r3.hi (giveK w.x2 w.y2 (l.getD i dfC).k2 s.r2.lo s.r2.hi (giveK w.x1 w.y1 (l.getD i dfC).k1 s.r1.lo s.r1.hi (giveK w.x0 w.y0 (l.getD i dfC).k0 s.r0.lo s.r0.hi (IntKind.i64.wrap (w.each - w.casks.getD i 0)))))
def boundR (l : List Cask) (s : Sample) (w : Wts) : Int := (List.range l.length).foldl (fun a i => IntKind.i64.wrap (a - IntKind.i64.wrap (w.casks.getD i 0 * (l.getD i dfC).vol))) (IntKind.i64.wrap (w.each * s.vol))
end M
theorem not_true {b : Bool} (h : (!b) = true) : b = false := by cases b <;> simp_all
theorem not_false' {b : Bool} (h : (!b) = false) : b = true := by cases b <;> simp_all
end Go.Bl
end

section
set_option linter.unusedVariables false
set_option linter.unusedSimpArgs false
set_option maxRecDepth 100000
namespace Go.Bl
open Go.V Go.Proofs
namespace M
def fails (l : List Cask) (s : Sample) (w : Wts) : Int := cond (openW l s w != 0) (openW l s w) (cond ((List.range l.length).any fun i => decide (giveR l s w i > 0)) 20 (unl (decide (boundR l s w > 0)) 20))
end M
structure RightW (l : List Cask) (s : Sample) (w : Wts) : Prop where
  rl : RightL l s
  den : 1 ≤ w.den ∧ w.den ≤ 200000000000
  each : w.each.natAbs ≤ 100000000000000
  len : w.casks.length = l.length
  all : Each (fun b => 0 ≤ b ∧ b ≤ 100000000000000) w
section
variable {l : List Cask} {s : Sample} {w : Wts}
end
section
variable {l : List Cask} {s : Sample} {w : Wts}
end
end Go.Bl
end

section
set_option linter.unusedVariables false
set_option linter.unusedSimpArgs false
set_option maxRecDepth 100000
namespace Go.Bl
open Go.V Go.Proofs
end Go.Bl
end

section
set_option linter.unusedVariables false
set_option linter.unusedSimpArgs false
set_option maxRecDepth 100000
namespace Go.Bl
open Go.V Go.Proofs
def tr94 (n d : Int) : T (List Ar) :=
    T.need (d ≠ (0 : Int)) (T.need (d ≠ (0 : Int)) (T.br (decide (Int.tmod n d < (0 : Int))) (T.ret [Ar.c (D.int IntKind.i64 (IntKind.wrap IntKind.i64 (IntKind.wrap IntKind.i64 (Int.tdiv n d) - (1 : Int))))]) (T.ret [Ar.c (D.int IntKind.i64 (IntKind.wrap IntKind.i64 (Int.tdiv n d)))])))
theorem t94 (n d : Int) : runFnX Try.prog G0 (lookS []) (fun _ => []) [] 1 20 3 94 Try.f94 [.c (dI n), .c (dI d)] =
    tr94 n d := by kernel_rfl
theorem floor_eq {n d : Int} (hd : 0 < d) : (n.tmod d < 0 → n.tdiv d - 1 = n / d) ∧ (¬ n.tmod d < 0 → n.tdiv d = n / d) := by
  have h1 := Int.emod_nonneg n (show d ≠ 0 by omega)
  have h2 := Int.emod_lt_of_pos n hd
  have e1 := Int.tdiv_eq_ediv (a := n) (b := d)
  have e2 := Int.tmod_eq_emod (a := n) (b := d)
  by_cases h : 0 ≤ n ∨ d ∣ n
  · rw [if_pos h] at e1 e2
    constructor <;> intro <;> omega
  · rw [if_neg h] at e1 e2
    rw [Int.sign_eq_one_of_pos hd] at e1
    constructor <;> intro <;> omega
theorem ediv_ok {n d : Int} (h : i64ok n) : (n / d).natAbs < 9223372036854775808 := Nat.lt_of_le_of_lt (Int.natAbs_ediv_le_natAbs n d) h
theorem w94 {n d : Int} (hd : 0 < d) (h : i64ok n) : (tr94 n d).wp (fun rs => rsEqv rs [rI (n / d)]) := by
  unfold tr94
  have ht : (n.tdiv d).natAbs < 9223372036854775808 := Nat.lt_of_le_of_lt (Int.natAbs_tdiv_le_natAbs n d) h
  have he := ediv_ok (d := d) h
  obtain ⟨f1, f2⟩ := floor_eq (n := n) hd
  refine ⟨by omega, by omega, fun hb => ?_, fun hb => ?_⟩
  · have hb := f1 (of_decide_eq_true hb)
    rw [wrap_id (n := n.tdiv d) (by omega) (by omega), hb, wrap_id (by omega) (by omega)]
    exact rsEqv_refl _
  · have hb := f2 (of_decide_eq_false hb)
    rw [wrap_id (n := n.tdiv d) (by omega) (by omega), hb]
    exact rsEqv_refl _
def dom94 : DomF
  | [.c (.int .i64 n), .c (.int .i64 d)] => some ([0 < d, i64ok n], [rI (n / d)])
  | _ => none
def v94 : Nat × Sm := (94, fokSm dom94)
theorem C94 : FOK Try.prog G0 gw 94 dom94 := by
  intro ags p r hd hp κ w xs hw hl hG hx
  unfold dom94 at hd
  split at hd
  · rename_i n d
    simp only [Option.some.injEq, Prod.mk.injEq] at hd
    obtain ⟨rfl, rfl⟩ := hd
    have heq : agsEqv [.c (.int .i64 n), .c (.int .i64 d)] [.c (.int .i64 n), .c (.int .i64 d)] := ⟨Ag.eqv_refl _, Ag.eqv_refl _, trivial⟩
    exact fokX_fin mixed gw_stable (sl := []) trivial Try.func94 hw hl hG hx heq rfl (t94 n d) (w94 hp.1 hp.2.1)
  · cases hd
theorem S94 : SumOK Try.prog G0 gw 94 (fokSm dom94) := fok_sum Try.func94 rfl C94
def tr39 (n d m k : Int) : T (List Ar) :=
    T.loop (Int × Int × Int × Int × PUnit) (n, d, m, k, PUnit.unit) fun (x : Int × Int × Int × Int × PUnit) => T.need ((0 : Int) < Prod.fst (Prod.snd x)) (T.need (Int.natAbs (Prod.fst x) < (9223372036854775808 : Nat)) (T.need ((0 : Int) < Prod.fst (Prod.snd (Prod.snd (Prod.snd x)))) (T.need (Int.natAbs (Prod.fst (Prod.snd (Prod.snd x))) < (9223372036854775808 : Nat)) (T.br (decide (Prod.fst x / Prod.fst (Prod.snd x) < Prod.fst (Prod.snd (Prod.snd x)) / Prod.fst (Prod.snd (Prod.snd (Prod.snd x))))) (T.ret (Sum.inr [Ar.c (D.int IntKind.i64 (-1 : Int))])) (T.br (decide (Prod.fst x / Prod.fst (Prod.snd x) > Prod.fst (Prod.snd (Prod.snd x)) / Prod.fst (Prod.snd (Prod.snd (Prod.snd x))))) (T.ret (Sum.inr [Ar.c (D.int IntKind.i64 (1 : Int))])) (T.br (IntKind.wrap IntKind.i64 (Prod.fst x - IntKind.wrap IntKind.i64 (Prod.fst x / Prod.fst (Prod.snd x) * Prod.fst (Prod.snd x))) == (0 : Int)) (T.br (IntKind.wrap IntKind.i64 (Prod.fst (Prod.snd (Prod.snd x)) - IntKind.wrap IntKind.i64 (Prod.fst (Prod.snd (Prod.snd x)) / Prod.fst (Prod.snd (Prod.snd (Prod.snd x))) * Prod.fst (Prod.snd (Prod.snd (Prod.snd x))))) == (0 : Int)) (T.ret (Sum.inr [Ar.c (D.int IntKind.i64 (0 : Int))])) (T.br (IntKind.wrap IntKind.i64 (Prod.fst x - IntKind.wrap IntKind.i64 (Prod.fst x / Prod.fst (Prod.snd x) * Prod.fst (Prod.snd x))) == (0 : Int)) (T.ret (Sum.inr [Ar.c (D.int IntKind.i64 (-1 : Int))])) (T.br (IntKind.wrap IntKind.i64 (Prod.fst (Prod.snd (Prod.snd x)) - IntKind.wrap IntKind.i64 (Prod.fst (Prod.snd (Prod.snd x)) / Prod.fst (Prod.snd (Prod.snd (Prod.snd x))) * Prod.fst (Prod.snd (Prod.snd (Prod.snd x))))) == (0 : Int)) (T.ret (Sum.inr [Ar.c (D.int IntKind.i64 (1 : Int))])) (T.ret (Sum.inl (Prod.fst (Prod.snd (Prod.snd (Prod.snd x))), IntKind.wrap IntKind.i64 (Prod.fst (Prod.snd (Prod.snd x)) - IntKind.wrap IntKind.i64 (Prod.fst (Prod.snd (Prod.snd x)) / Prod.fst (Prod.snd (Prod.snd (Prod.snd x))) * Prod.fst (Prod.snd (Prod.snd (Prod.snd x))))), Prod.fst (Prod.snd x), IntKind.wrap IntKind.i64 (Prod.fst x - IntKind.wrap IntKind.i64 (Prod.fst x / Prod.fst (Prod.snd x) * Prod.fst (Prod.snd x))), PUnit.unit)))))) (T.br (IntKind.wrap IntKind.i64 (Prod.fst x - IntKind.wrap IntKind.i64 (Prod.fst x / Prod.fst (Prod.snd x) * Prod.fst (Prod.snd x))) == (0 : Int)) (T.ret (Sum.inr [Ar.c (D.int IntKind.i64 (-1 : Int))])) (T.br (IntKind.wrap IntKind.i64 (Prod.fst (Prod.snd (Prod.snd x)) - IntKind.wrap IntKind.i64 (Prod.fst (Prod.snd (Prod.snd x)) / Prod.fst (Prod.snd (Prod.snd (Prod.snd x))) * Prod.fst (Prod.snd (Prod.snd (Prod.snd x))))) == (0 : Int)) (T.ret (Sum.inr [Ar.c (D.int IntKind.i64 (1 : Int))])) (T.ret (Sum.inl (Prod.fst (Prod.snd (Prod.snd (Prod.snd x))), IntKind.wrap IntKind.i64 (Prod.fst (Prod.snd (Prod.snd x)) - IntKind.wrap IntKind.i64 (Prod.fst (Prod.snd (Prod.snd x)) / Prod.fst (Prod.snd (Prod.snd (Prod.snd x))) * Prod.fst (Prod.snd (Prod.snd (Prod.snd x))))), Prod.fst (Prod.snd x), IntKind.wrap IntKind.i64 (Prod.fst x - IntKind.wrap IntKind.i64 (Prod.fst x / Prod.fst (Prod.snd x) * Prod.fst (Prod.snd x))), PUnit.unit)))))))))))
theorem t39 (n d m k : Int) : runFnX Try.prog G0 (lookS [v94]) (fun _ => [(1, [.slot 0 (.int .i64), .slot 1 (.int .i64), .slot 2 (.int .i64), .slot 3 (.int .i64)], none)]) [] 1 20 3 39 Try.f39 [.c (dI n), .c (dI d), .c (dI m), .c (dI k)] =
    tr39 n d m k := by kernel_rfl
namespace M
def cmp (n d m k : Int) : Int := if n * k < m * d then -1 else if n * k = m * d then 0 else 1
end M
theorem wrap_emod {n d : Int} (hd : 0 < d) (h : i64ok d) : IntKind.i64.wrap (n - IntKind.i64.wrap (n / d * d)) = n % d := by
  have h0 := Int.emod_nonneg n (show d ≠ 0 by omega)
  have h1 := Int.emod_lt_of_pos n hd
  have h2 := Int.mul_ediv_add_emod n d
  rw [Int.mul_comm] at h2
  have e : IntKind.i64.wrap (n - IntKind.i64.wrap (n / d * d)) = IntKind.i64.wrap (n - n / d * d) := by simp only [IntKind.wrap_i64]; omega
  rw [e, show n - n / d * d = n % d by omega]
  unfold i64ok at h
  exact wrap_id (by omega) (by omega)
theorem cmp_lt {n d m k : Int} (hd : 0 < d) (hk : 0 < k) (h : n / d < m / k) : M.cmp n d m k = -1 := by
  have h1 := Int.mul_ediv_add_emod n d
  have h2 := Int.mul_ediv_add_emod m k
  have r1 := Int.emod_lt_of_pos n hd
  have r2 := Int.emod_nonneg m (show k ≠ 0 by omega)
  have a1 : d * (n / d + 1) ≤ d * (m / k) := Int.mul_le_mul_of_nonneg_left (by omega) (by omega)
  rw [Int.mul_add, Int.mul_one] at a1
  have a2 : n < d * (m / k) := by omega
  have a3 : n * k < d * (m / k) * k := Int.mul_lt_mul_of_pos_right a2 hk
  have a4 : (k * (m / k)) * d ≤ m * d := Int.mul_le_mul_of_nonneg_right (by omega) (by omega)
  have a5 : d * (m / k) * k = (k * (m / k)) * d := by rw [Int.mul_comm k, Int.mul_comm d, Int.mul_assoc, Int.mul_assoc, Int.mul_comm d k]
  unfold M.cmp
  rw [if_pos (by omega)]
theorem cmp_swap (n d m k : Int) : M.cmp m k n d = - M.cmp n d m k := by
  unfold M.cmp
  by_cases h1 : n * k < m * d
  · rw [if_pos h1, if_neg (by omega), if_neg (by omega)]
    rfl
  · rw [if_neg h1]
    by_cases h2 : n * k = m * d
    · rw [if_pos h2, if_neg (by omega), if_pos h2.symm]; rfl
    · rw [if_neg h2, if_pos (by omega)]
theorem cmp_rest {n d m k : Int} (h : n / d = m / k) : M.cmp n d m k = M.cmp (n % d) d (m % k) k := by
  have h1 := Int.mul_ediv_add_emod n d
  have h2 := Int.mul_ediv_add_emod m k
  have e1 : n * k = d * (n / d) * k + n % d * k := by rw [← Int.add_mul, h1]
  have e2 : m * d = d * (n / d) * k + m % k * d := by
    rw [h]
    have : d * (m / k) * k = k * (m / k) * d := by rw [Int.mul_comm k, Int.mul_comm d, Int.mul_assoc, Int.mul_assoc, Int.mul_comm d k]
    rw [this, ← Int.add_mul, h2]
  unfold M.cmp
  rw [e1, e2]
  by_cases h1 : n % d * k < m % k * d
  · rw [if_pos h1, if_pos (by omega)]
  · rw [if_neg h1, if_neg (by omega)]
    by_cases h2 : n % d * k = m % k * d
    · rw [if_pos h2, if_pos (by omega)]
    · rw [if_neg h2, if_neg (by omega)]
theorem cmp_turn (r d t k : Int) : M.cmp k t d r = M.cmp r d t k := by
  unfold M.cmp
  rw [Int.mul_comm k r, Int.mul_comm d t]
theorem w39 {n d m k : Int} (hd : 0 < d) (hk : 0 < k) (h1 : i64ok n) (h2 : i64ok d) (h3 : i64ok m) (h4 : i64ok k) : (tr39 n d m k).wp (fun rs => rsEqv rs [rI (M.cmp n d m k)]) := by
  unfold tr39
  refine ⟨fun x => 0 < x.2.1 ∧ 0 < x.2.2.2.1 ∧ i64ok x.1 ∧ i64ok x.2.1 ∧ i64ok x.2.2.1 ∧ i64ok x.2.2.2.1 ∧ M.cmp x.1 x.2.1 x.2.2.1 x.2.2.2.1 = M.cmp n d m k, fun x => (x.2.1 + x.2.2.2.1).toNat, ⟨hd, hk, h1, h2, h3, h4, rfl⟩, ?_⟩
  rintro ⟨a, b, c, e, u⟩ ⟨g1, g2, g3, g4, g5, g6, g7⟩
  simp only at g1 g2 g3 g4 g5 g6 g7
  have ra0 := Int.emod_nonneg a (show b ≠ 0 by omega)
  have ra1 := Int.emod_lt_of_pos a g1
  have rc0 := Int.emod_nonneg c (show e ≠ 0 by omega)
  have rc1 := Int.emod_lt_of_pos c g2
  have hwa : IntKind.i64.wrap (a - IntKind.i64.wrap (a / b * b)) = a % b := wrap_emod g1 g4
  have hwc : IntKind.i64.wrap (c - IntKind.i64.wrap (c / e * e)) = c % e := wrap_emod g2 g6
  simp only [hwa, hwc]
  refine ⟨g1, g3, g2, g5, fun hb => ?_, fun hb => ?_⟩
  · have hb := of_decide_eq_true hb
    rw [← g7, cmp_lt g1 g2 hb]; exact rsEqv_refl _
  have hb := of_decide_eq_false hb
  refine ⟨fun hc => ?_, fun hc => ?_⟩
  · have hc := of_decide_eq_true hc
    rw [← g7, cmp_swap c e a b, cmp_lt g2 g1 hc]; exact rsEqv_refl _
  have hc := of_decide_eq_false hc
  have hr := cmp_rest (show a / b = c / e by omega)
  have zero : a % b = 0 → c % e ≠ 0 → M.cmp n d m k = -1 := by
    intro e1 e2
    have := Int.mul_pos (show 0 < c % e by omega) g1
    rw [← g7, hr, e1]; unfold M.cmp; rw [Int.zero_mul, if_pos this]
  have one : c % e = 0 → a % b ≠ 0 → M.cmp n d m k = 1 := by
    intro e1 e2
    have := Int.mul_pos (show 0 < a % b by omega) g2
    rw [← g7, hr, e1]; unfold M.cmp; rw [Int.zero_mul, if_neg (by omega), if_neg (by omega)]
  have nxt : a % b ≠ 0 → c % e ≠ 0 → (0 < c % e ∧ 0 < a % b ∧ i64ok e ∧ i64ok (c % e) ∧ i64ok b ∧ i64ok (a % b) ∧ M.cmp e (c % e) b (a % b) = M.cmp n d m k) ∧ (c % e + a % b).toNat < (b + e).toNat := by
    intro e1 e2
    refine ⟨⟨by omega, by omega, g6, by unfold i64ok at *; omega, g4, by unfold i64ok at *; omega, ?_⟩, by omega⟩
    rw [cmp_turn, ← hr, g7]
  refine ⟨fun hx => ?_, fun hx => ?_⟩
  · have hx := eq_of_beq hx
    refine ⟨fun hy => ?_, fun hy => ?_⟩
    · have hy := eq_of_beq hy
      have : M.cmp n d m k = 0 := by rw [← g7, hr, hx, hy]; unfold M.cmp; rw [Int.zero_mul, Int.zero_mul]; rfl
      rw [this]; exact rsEqv_refl _
    · have hy : c % e ≠ 0 := by intro e9; rw [e9] at hy; exact absurd hy (by decide)
      refine ⟨fun hz => ?_, fun hz => ?_⟩
      · rw [zero hx hy]; exact rsEqv_refl _
      · rw [hx] at hz; exact absurd hz (by decide)
  · have hx : a % b ≠ 0 := by intro e9; rw [e9] at hx; exact absurd hx (by decide)
    refine ⟨fun hz => absurd (eq_of_beq hz) hx, fun hz => ⟨fun hy => ?_, fun hy => ?_⟩⟩
    · rw [one (eq_of_beq hy) hx]; exact rsEqv_refl _
    · have hy : c % e ≠ 0 := by intro e9; rw [e9] at hy; exact absurd hy (by decide)
      exact nxt hx hy
def dom39 : DomF
  | [.c (.int .i64 n), .c (.int .i64 d), .c (.int .i64 m), .c (.int .i64 k)] => some ([0 < d, 0 < k, i64ok n, i64ok d, i64ok m, i64ok k], [rI (M.cmp n d m k)])
  | _ => none
def v39 : Nat × Sm := (39, fokSm dom39)
theorem C39 : FOK Try.prog G0 gw 39 dom39 := by
  intro ags p r hd hp κ w xs hw hl hG hx
  unfold dom39 at hd
  split at hd
  · rename_i n d m k
    simp only [Option.some.injEq, Prod.mk.injEq] at hd
    obtain ⟨rfl, rfl⟩ := hd
    have heq : agsEqv [.c (.int .i64 n), .c (.int .i64 d), .c (.int .i64 m), .c (.int .i64 k)] [.c (.int .i64 n), .c (.int .i64 d), .c (.int .i64 m), .c (.int .i64 k)] := ⟨Ag.eqv_refl _, Ag.eqv_refl _, Ag.eqv_refl _, Ag.eqv_refl _, trivial⟩
    exact fokX_fin mixed gw_stable (sl := [v94]) ⟨S94, trivial⟩ Try.func39 hw hl hG hx heq rfl (t39 n d m k) (w39 hp.1 hp.2.1 hp.2.2.1 hp.2.2.2.1 hp.2.2.2.2.1 hp.2.2.2.2.2.1)
  · cases hd
theorem S39 : SumOK Try.prog G0 gw 39 (fokSm dom39) := fok_sum Try.func39 rfl C39
end Go.Bl
end

section
set_option linter.unusedVariables false
set_option linter.unusedSimpArgs false
set_option maxRecDepth 100000
namespace Go.Bl
open Go.V Go.Proofs
open Go.Lp
theorem told_spec {n d : Int} (hd : 0 < d) : ∃ g : Int, 0 < g ∧ M.told1 n d * g = n ∧ M.told2 n d * g = d := by
  refine ⟨(Int.gcd n d : Nat), ?_, ?_, ?_⟩
  · have : 0 < Int.gcd n d := Int.gcd_pos_of_ne_zero_right _ (by omega)
    omega
  · exact Int.tdiv_mul_cancel (Int.gcd_dvd_left ..)
  · exact Int.tdiv_mul_cancel (Int.gcd_dvd_right ..)
theorem told_pos {n d : Int} (hd : 0 < d) : 0 < M.told2 n d := by
  obtain ⟨g, h0, _, h2⟩ := told_spec (n := n) hd
  rw [← h2] at hd
  rcases Int.lt_trichotomy (M.told2 n d) 0 with h | h | h
  · have := Int.mul_neg_of_neg_of_pos h h0; omega
  · rw [h, Int.zero_mul] at hd; omega
  · exact h
theorem mul_ge {a g : Int} (hg : 0 < g) : a.natAbs ≤ (a * g).natAbs := by
  rw [Int.natAbs_mul]
  exact Nat.le_mul_of_pos_right _ (by omega)
theorem told_ok {n d : Int} (hd : 0 < d) : (M.told1 n d).natAbs ≤ n.natAbs ∧ (M.told2 n d).natAbs ≤ d.natAbs := by
  obtain ⟨g, h0, h1, h2⟩ := told_spec (n := n) hd
  have a := mul_ge (a := M.told1 n d) h0
  have b := mul_ge (a := M.told2 n d) h0
  rw [h1] at a; rw [h2] at b
  exact ⟨a, b⟩
theorem cmp_scale {a b c e g h : Int} (hg : 0 < g) (hh : 0 < h) : M.cmp (a * g) (b * g) (c * h) (e * h) = M.cmp a b c e := by
  have hp := Int.mul_pos hg hh
  have e1 : a * g * (e * h) = a * e * (g * h) := by rw [Int.mul_assoc, Int.mul_left_comm g, ← Int.mul_assoc]
  have e2 : c * h * (b * g) = c * b * (g * h) := by rw [Int.mul_assoc, Int.mul_left_comm h, ← Int.mul_assoc, Int.mul_comm h g]
  unfold M.cmp
  rw [e1, e2]
  by_cases h1 : a * e < c * b
  · rw [if_pos h1, if_pos (Int.mul_lt_mul_of_pos_right h1 hp)]
  · rw [if_neg h1, if_neg (fun e9 => h1 (Int.lt_of_mul_lt_mul_right e9 (Int.le_of_lt hp)))]
    by_cases h2 : a * e = c * b
    · rw [if_pos h2, if_pos (by rw [h2])]
    · rw [if_neg h2, if_neg (fun e9 => h2 (Int.eq_of_mul_eq_mul_right (by omega) e9))]
theorem each_nn {P : Int → Prop} {w : Wts} (h : Each P w) (hp : ∀ b, P b → 0 ≤ b) : Each (fun b => 0 ≤ b) w := by
  obtain ⟨g1, ⟨g2, g3, g4, g5⟩, g6, g7, g8, g9⟩ := h
  exact ⟨fun i => hp _ (g1 i), ⟨hp _ g2, hp _ g3, hp _ g4, hp _ g5⟩, hp _ g6, hp _ g7, hp _ g8, hp _ g9⟩
end Go.Bl
end

section
set_option linter.unusedVariables false
set_option linter.unusedSimpArgs false
set_option maxRecDepth 100000
namespace Go.Bl
open Go.V Go.Proofs
namespace M
def wideR (r : Rg) (d : Int) : Rg := ⟨if IntKind.i64.wrap (r.lo - d) > 0 then IntKind.i64.wrap (r.lo - d) else 0, if IntKind.i64.wrap (r.hi + d) < 1000 then IntKind.i64.wrap (r.hi + d) else 1000⟩
def wide (s : Sample) (d : Int) : Sample := ⟨s.vol, wideR s.r0 d, wideR s.r1 d, wideR s.r2 d, wideR s.r3 d⟩
end M
end Go.Bl
end

section
set_option linter.unusedVariables false
set_option linter.unusedSimpArgs false
set_option maxRecDepth 100000
namespace Go.Bl
open Go.V Go.Proofs
def dom20f : DomF
  | [.c (.sl _ n_l st_l F_l), .agg [.int .i64 sv, .int .i64 l0, .int .i64 h0, .int .i64 l1, .int .i64 h1, .int .i64 l2, .int .i64 h2, .int .i64 l3, .int .i64 h3]] => (match Nat.beq st_l 7 with
    | true => some ([eC.Is n_l F_l, ∀ c, c ∈ (eC.list n_l F_l) → c.nm.size ≤ 1000000], resB (M.best (eC.list n_l F_l) ⟨sv, ⟨l0, h0⟩, ⟨l1, h1⟩, ⟨l2, h2⟩, ⟨l3, h3⟩⟩))
    | _ => none)
  | _ => none
def v20f : Nat × Sm := (20, fokSm dom20f)
theorem C20f : FOK Try.prog G0 gw 20 dom20f := by
  intro ags p r hd hp κ w xs hw hl hG hx
  unfold dom20f at hd
  split at hd
  · rename_i q_l n_l st_l F_l sv l0 h0 l1 h1 l2 h2 l3 h3
    split at hd
    · rename_i hst
      simp only [Option.some.injEq, Prod.mk.injEq] at hd
      obtain ⟨rfl, rfl⟩ := hd
      obtain ⟨hI, hn, _⟩ := hp
      have g1 := Nat.eq_of_beq_eq_true hst
      subst g1
      refine C20 _ _ _ (rfl : dom20 _ = _) ?_ κ w xs hw hl hG hx
      exact ⟨hI, hn, best_okay _ _, trivial⟩
    · cases hd
  · cases hd
theorem S20f : SumOK Try.prog G0 gw 20 (fokSm dom20f) := fok_sum Try.func20 rfl C20f
end Go.Bl
end

section
set_option linter.unusedVariables false
set_option linter.unusedSimpArgs false
set_option maxRecDepth 100000
namespace Go.Bl
open Go.V Go.Proofs Go.Lp
theorem cmp_le {n d m k : Int} (h : n * k ≤ m * d) : M.cmp n d m k ≤ 0 := by
  unfold M.cmp
  by_cases h1 : n * k < m * d
  · rw [if_pos h1]; decide
  · rw [if_neg h1, if_pos (by omega)]; decide
section
variable {l : List Cask} {s : Sample} {x : M.Corner}
theorem best_le (hx : BestS l s x) {pt : List Int} {den : Int} (hb : Blend l s pt den 0) : cost l x.pt * den ≤ cost l pt * x.den := by
  have hw := weak_blend hb (each_nn hx.p.all fun b hb => hb.1) (g := fun j => en (M.costs l) j * (M.wtsOf x l.length).den) hx.p.gift
  rw [Int.mul_zero, Int.add_zero] at hw
  have e : smI (fun j => en (M.costs l) j * (M.wtsOf x l.length).den * en pt j) (List.range l.length) = (M.wtsOf x l.length).den * cost l pt := by
    unfold cost
    rw [← smI_smul]
    exact smI_congr fun j hj => by rw [costs_en (List.mem_range.1 hj), Int.mul_comm (l.getD j dfC).cost, Int.mul_assoc]
  rw [e] at hw
  have h1 := Int.mul_le_mul_of_nonneg_right hw (Int.le_of_lt hx.b.dp)
  have h2 : bound l s (M.wtsOf x l.length) * den * x.den = (M.wtsOf x l.length).den * (cost l x.pt * den) := by rw [Int.mul_right_comm, hx.eq, Int.mul_assoc]
  rw [h2, Int.mul_assoc] at h1
  exact Int.le_of_mul_le_mul_left h1 (by have := hx.p.den; omega)
theorem best_cases (he : M.taskErr l s = 0) : (∃ x, BestS l s x ∧ M.best l s = M.bestC l x) ∨ ((∀ pt den, ¬ Blend l s pt den 0) ∧ M.best l s = ⟨0, 0, 0, [], M.zeroW, 12⟩) := by
  have h := task_right he
  have hb : M.best l s = (match M.pBest l s with | some x => M.bestC l x | none => ⟨0, 0, 0, [], M.zeroW, 12⟩) := by
    unfold M.best; rw [he]; rfl
  cases hp : M.pBest l s with
  | some x => exact .inl ⟨x, best_some h hp, by rw [hb, hp]⟩
  | none => exact .inr ⟨fun pt den hq => best_none h hp hq, by rw [hb, hp]⟩
theorem best_i64 (h : RightL l s) (hx : BestS l s x) : (cost l x.pt).natAbs < 9223372036854775808 ∧ x.den.natAbs < 9223372036854775808 := by
  have ho := open_of h hx.b hx.d hx.pl
  have h1 := cost_ok ho
  rw [sum_cost h ho.parts] at h1
  have := hx.b.dp; have := hx.d
  exact ⟨h1, by omega⟩
structure Wide (s s' : Sample) (d : Int) : Prop where
  d0 : 0 ≤ d ∧ d ≤ 1000
  v : s'.vol = s.vol
  hi : ∀ k, k < 4 → (M.rg s k).hi ≤ (M.rg s' k).hi ∧ (M.rg s' k).hi ≤ (M.rg s k).hi + d ∧ ((M.rg s' k).hi = 1000 ∨ (M.rg s' k).hi = (M.rg s k).hi + d)
  lo : ∀ k, k < 4 → (M.rg s' k).lo ≤ (M.rg s k).lo ∧ (M.rg s k).lo - d ≤ (M.rg s' k).lo ∧ ((M.rg s' k).lo = 0 ∨ (M.rg s' k).lo = (M.rg s k).lo - d)
end
end Go.Bl
end

section
set_option linter.unusedVariables false
set_option linter.unusedSimpArgs false
set_option maxRecDepth 100000
namespace Go.Bl
open Go.V Go.Proofs Go.Lp
section
variable {l : List Cask} {s : Sample} {x : M.Corner}
end
section
variable {l : List Cask} {s : Sample} {x : M.Corner}
theorem ceil_spec {n d : Int} (hd : 0 < d) : (-((-n) / d) - 1) * d < n ∧ n ≤ -((-n) / d) * d := by
  have h1 := Int.mul_ediv_add_emod (-n) d
  have h2 := Int.emod_nonneg (-n) (show d ≠ 0 by omega)
  have h3 := Int.emod_lt_of_pos (-n) hd
  rw [Int.mul_comm] at h1
  rw [Int.sub_mul, Int.neg_mul]
  omega
end
end Go.Bl
end

section
set_option linter.unusedVariables false
set_option linter.unusedSimpArgs false
set_option maxRecDepth 100000
namespace Go.Bl
open Go.V Go.Proofs Go.Lp
structure Rev (l k : List Cask) : Prop where
  len : k.length = l.length
  at_ : ∀ i, i < l.length → k.getD i dfC = l.getD (l.length - 1 - i) dfC
theorem Rev.symm {l k : List Cask} (h : Rev l k) : Rev k l := by
  refine ⟨h.len.symm, fun i hi => ?_⟩
  have := h.at_ (k.length - 1 - i) (by rw [h.len] at hi ⊢; omega)
  rw [this]
  congr 1
  rw [h.len] at hi ⊢
  omega
section
variable {l k : List Cask} {s : Sample}
theorem bestC_eq (h : RightL l s) {x : M.Corner} (hx : BestS l s x) : M.bestC l x = ⟨M.told1 (cost l x.pt) x.den, M.told2 (cost l x.pt) x.den, x.den, x.pt, M.wtsOf x l.length, 0⟩ := by
  have ho := open_of h hx.b hx.d hx.pl
  unfold M.bestC; rw [sum_cost h ho.parts]
end
end Go.Bl
end

section
set_option linter.unusedVariables false
set_option linter.unusedSimpArgs false
set_option maxRecDepth 100000
namespace Go.Bl
open Go.V Go.Proofs
end Go.Bl
end

section
set_option linter.unusedVariables false
set_option linter.unusedSimpArgs false
set_option maxRecDepth 100000
namespace Go.Bl
open Go.V Go.Proofs
def tr96 (l : List Cask) (ps : List Int) : T (List Ar) :=
    T.br ((Nat.cast (R := Int) (List.length ps)) == (0 : Int)) (T.ret [Ar.c (D.int IntKind.i64 (25 : Int))]) (T.loop (Int × PUnit) ((0 : Int), PUnit.unit) fun (x : Int × PUnit) => T.br (decide (Prod.fst x < (Nat.cast (R := Int) (List.length ps)))) (T.need ((0 : Int) ≤ Prod.fst x) (T.need (Prod.fst x < (Nat.cast (R := Int) (List.length ps))) (T.br (Prod.fst x == (0 : Int)) (T.br (M.first [M.unl (M.within (List.getD ps (Int.toNat (Prod.fst x)) (0 : Int)) (0 : Int) (IntKind.wrap IntKind.i64 ((Nat.cast (R := Int) (List.length l)) - (1 : Int)))) (6 : Int), (0 : Int)] != (0 : Int)) (T.ret (Sum.inr [Ar.c (D.int IntKind.i64 (M.first [M.unl (M.within (List.getD ps (Int.toNat (Prod.fst x)) (0 : Int)) (0 : Int) (IntKind.wrap IntKind.i64 ((Nat.cast (R := Int) (List.length l)) - (1 : Int)))) (6 : Int), (0 : Int)]))])) (T.ret (Sum.inl (IntKind.wrap IntKind.i64 (Prod.fst x + (1 : Int)), PUnit.unit)))) (T.need ((0 : Int) ≤ if IntKind.wrap IntKind.i64 (Prod.fst x - (1 : Int)) > (0 : Int) then IntKind.wrap IntKind.i64 (Prod.fst x - (1 : Int)) else (0 : Int)) (T.need ((if IntKind.wrap IntKind.i64 (Prod.fst x - (1 : Int)) > (0 : Int) then IntKind.wrap IntKind.i64 (Prod.fst x - (1 : Int)) else (0 : Int)) < (Nat.cast (R := Int) (List.length ps))) (T.br (M.first [M.unl (M.within (List.getD ps (Int.toNat (Prod.fst x)) (0 : Int)) (0 : Int) (IntKind.wrap IntKind.i64 ((Nat.cast (R := Int) (List.length l)) - (1 : Int)))) (6 : Int), M.unl (decide (List.getD ps (Int.toNat (Prod.fst x)) (0 : Int) > List.getD ps (Int.toNat (if IntKind.wrap IntKind.i64 (Prod.fst x - (1 : Int)) > (0 : Int) then IntKind.wrap IntKind.i64 (Prod.fst x - (1 : Int)) else (0 : Int))) (0 : Int))) (9 : Int)] != (0 : Int)) (T.ret (Sum.inr [Ar.c (D.int IntKind.i64 (M.first [M.unl (M.within (List.getD ps (Int.toNat (Prod.fst x)) (0 : Int)) (0 : Int) (IntKind.wrap IntKind.i64 ((Nat.cast (R := Int) (List.length l)) - (1 : Int)))) (6 : Int), M.unl (decide (List.getD ps (Int.toNat (Prod.fst x)) (0 : Int) > List.getD ps (Int.toNat (if IntKind.wrap IntKind.i64 (Prod.fst x - (1 : Int)) > (0 : Int) then IntKind.wrap IntKind.i64 (Prod.fst x - (1 : Int)) else (0 : Int))) (0 : Int))) (9 : Int)]))])) (T.ret (Sum.inl (IntKind.wrap IntKind.i64 (Prod.fst x + (1 : Int)), PUnit.unit))))))))) (T.ret (Sum.inr [Ar.c (D.int IntKind.i64 (0 : Int))])))
theorem t96 (q_l : Bool) (l : List Cask) (q_ps : Bool) (ps : List Int) : runFnX Try.prog G0 (lookS [v102, v80, v64]) (fun _ => [(4, [.slot 13 (.int .i64)], none)]) [] 1 40 5 96 Try.f96 [.c (.sl q_l l.length 7 (eC.F l)), .c (.sl q_ps ps.length 1 (eI.F ps))] =
    tr96 l ps := by kernel_rfl
def tr43 (l : List Cask) (ps : List Int) : T (List Ar) :=
    T.br ((Nat.cast (R := Int) (List.length ps)) == (0 : Int)) (T.ret [Ar.c (D.int IntKind.i64 (25 : Int))]) (T.loop (Int × PUnit) ((0 : Int), PUnit.unit) fun (x : Int × PUnit) => T.br (decide (Prod.fst x < (Nat.cast (R := Int) (List.length ps)))) (T.need ((0 : Int) ≤ Prod.fst x) (T.need (Prod.fst x < (Nat.cast (R := Int) (List.length ps))) (T.br (!M.within (List.getD ps (Int.toNat (Prod.fst x)) (0 : Int)) (0 : Int) (IntKind.wrap IntKind.i64 ((Nat.cast (R := Int) (List.length l)) - (1 : Int)))) (T.ret (Sum.inr [Ar.c (D.int IntKind.i64 (6 : Int))])) (T.br (decide (Prod.fst x > (0 : Int))) (T.need (decide (Prod.fst x > (0 : Int)) = true) (T.need ((0 : Int) ≤ Prod.fst x) (T.need (Prod.fst x < (Nat.cast (R := Int) (List.length ps))) (T.need ((0 : Int) ≤ IntKind.wrap IntKind.i64 (Prod.fst x - (1 : Int))) (T.need (IntKind.wrap IntKind.i64 (Prod.fst x - (1 : Int)) < (Nat.cast (R := Int) (List.length ps))) (T.br (decide (List.getD ps (Int.toNat (Prod.fst x)) (0 : Int) ≤ List.getD ps (Int.toNat (IntKind.wrap IntKind.i64 (Prod.fst x - (1 : Int)))) (0 : Int))) (T.ret (Sum.inr [Ar.c (D.int IntKind.i64 (9 : Int))])) (T.ret (Sum.inl (IntKind.wrap IntKind.i64 (Prod.fst x + (1 : Int)), PUnit.unit))))))))) (T.need (decide (Prod.fst x > (0 : Int)) = false) (T.ret (Sum.inl (IntKind.wrap IntKind.i64 (Prod.fst x + (1 : Int)), PUnit.unit)))))))) (T.ret (Sum.inr [Ar.c (D.int IntKind.i64 (0 : Int))])))
theorem t43 (q_l : Bool) (l : List Cask) (q_ps : Bool) (ps : List Int) : runFnX Try.prog G0 (lookS [v35]) (fun _ => [(4, [.slot 5 (.int .i64)], none)]) [] 1 40 5 43 Try.f43 [.c (.sl q_l l.length 7 (eC.F l)), .c (.sl q_ps ps.length 1 (eI.F ps))] =
    tr43 l ps := by kernel_rfl
def tr90 (q_l : Bool) (l : List Cask) (ps : List Int) : T (List Ar) :=
    T.need ((0 : Int) ≤ (Nat.cast (R := Int) (List.length l))) (T.need ((Nat.cast (R := Int) (List.length l)) ≤ (Nat.cast (R := Int) (List.length l))) (T.need ((Nat.cast (R := Int) (List.length l)) ≤ (1000000 : Int)) (T.need (Enc.Is eI (Int.toNat (Nat.cast (R := Int) (List.length l))) fun (x j : Nat) => List.getD [D.int IntKind.i64 (0 : Int)] j D.nilp) (T.need (Int.toNat (Nat.cast (R := Int) (List.length l)) ≤ Int.toNat (Nat.cast (R := Int) (List.length l))) (T.loop (Int × D × Int × List Int × PUnit) ((0 : Int), D.sl q_l (List.length l) (7 : Nat) (Enc.F eC l), (1 : Int), Enc.list eI (Int.toNat (Nat.cast (R := Int) (List.length l))) fun (x j : Nat) => List.getD [D.int IntKind.i64 (0 : Int)] j D.nilp, PUnit.unit) fun (x : Int × D × Int × List Int × PUnit) => T.br (decide (Prod.fst x < (Nat.cast (R := Int) (List.length ps)))) (T.need ((0 : Int) ≤ Prod.fst x) (T.need (Prod.fst x < (Nat.cast (R := Int) (List.length ps))) (T.need ((0 : Int) ≤ List.getD ps (Int.toNat (Prod.fst x)) (0 : Int)) (T.need (List.getD ps (Int.toNat (Prod.fst x)) (0 : Int) < (Nat.cast (R := Int) (List.length l))) (T.need ((0 : Int) ≤ List.getD ps (Int.toNat (Prod.fst x)) (0 : Int)) (T.need (List.getD ps (Int.toNat (Prod.fst x)) (0 : Int) < (Nat.cast (R := Int) (List.length (Prod.fst (Prod.snd (Prod.snd (Prod.snd x))))))) (T.need (Int.toNat (List.getD ps (Int.toNat (Prod.fst x)) (0 : Int)) < List.length (Prod.fst (Prod.snd (Prod.snd (Prod.snd x))))) (T.need (Enc.Is eI (List.length (Prod.fst (Prod.snd (Prod.snd (Prod.snd x))))) (putF (Int.toNat (List.getD ps (Int.toNat (Prod.fst x)) (0 : Int))) (0 : Nat) (1 : Nat) [D.int IntKind.i64 (List.getD l (Int.toNat (List.getD ps (Int.toNat (Prod.fst x)) (Enc.dflt eI))) (Enc.dflt eC)).2] (Enc.F eI (Prod.fst (Prod.snd (Prod.snd (Prod.snd x))))))) (T.need (List.length (Prod.fst (Prod.snd (Prod.snd (Prod.snd x)))) ≤ List.length (Prod.fst (Prod.snd (Prod.snd (Prod.snd x))))) (T.ret (Sum.inl (IntKind.wrap IntKind.i64 (Prod.fst x + (1 : Int)), (Prod.snd x).1, Prod.fst (Prod.snd (Prod.snd x)), Enc.list eI (List.length (Prod.fst (Prod.snd (Prod.snd (Prod.snd x))))) (putF (Int.toNat (List.getD ps (Int.toNat (Prod.fst x)) (0 : Int))) (0 : Nat) (1 : Nat) [D.int IntKind.i64 (List.getD l (Int.toNat (List.getD ps (Int.toNat (Prod.fst x)) (Enc.dflt eI))) (Enc.dflt eC)).2] (Enc.F eI (Prod.fst (Prod.snd (Prod.snd (Prod.snd x)))))), PUnit.unit)))))))))))) (T.need (List.length (Prod.fst (Prod.snd (Prod.snd (Prod.snd x)))) ≤ List.length (Prod.fst (Prod.snd (Prod.snd (Prod.snd x))))) (T.ret (Sum.inr [Ar.agg [(Prod.snd x).1, D.int IntKind.i64 (Prod.fst (Prod.snd (Prod.snd x))), D.sl true (List.length (Prod.fst (Prod.snd (Prod.snd (Prod.snd x))))) (1 : Nat) (Enc.F eI (Prod.fst (Prod.snd (Prod.snd (Prod.snd x)))))]]))))))))
theorem t90 (q_l : Bool) (l : List Cask) (q_ps : Bool) (ps : List Int) : runFnX Try.prog G0 (lookS []) (fun _ => [(3, [.slot 16 (.int .i64), .blk 5 [.im, .int .i64, .rowE 3 eI]], none)]) [] 1 40 5 90 Try.f90 [.c (.sl q_l l.length 7 (eC.F l)), .c (.sl q_ps ps.length 1 (eI.F ps))] =
    tr90 q_l l ps := by kernel_rfl
namespace M
def has (ps : List Int) (k : Int) : Bool := ps.any fun n => n == k
def wholeP (l : List Cask) (ps : List Int) : List Int := (List.range l.length).map fun (i : Nat) => if has ps i then (l.getD i dfC).vol else 0
end M
theorem listFrom_hit {n : Nat} {cs : List Int} {k : Nat} (hk : k < cs.length) (h : M.listErrAt n cs k ≠ 0) : M.listFrom n cs (cs.length - k) k = M.listErrAt n cs k := by
  obtain ⟨m, hm⟩ : ∃ m, cs.length - k = m + 1 := ⟨cs.length - k - 1, by omega⟩
  rw [hm]
  unfold M.listFrom
  rw [show (M.listErrAt n cs k != 0) = true by simpa using h]; rfl
theorem listFrom_next {n : Nat} {cs : List Int} {k : Nat} (hk : k < cs.length) (h : M.listErrAt n cs k = 0) : M.listFrom n cs (cs.length - k) k = M.listFrom n cs (cs.length - (k + 1)) (k + 1) := by
  obtain ⟨m, hm⟩ : ∃ m, cs.length - k = m + 1 := ⟨cs.length - k - 1, by omega⟩
  rw [hm, show cs.length - (k + 1) = m by omega]
  conv => lhs; unfold M.listFrom
  rw [h]; rfl
theorem listErr_zero {n : Nat} {cs : List Int} (h : cs.length = 0) : M.listErr n cs = 25 := by unfold M.listErr; rw [decide_eq_true h]; rfl
theorem listErr_pos {n : Nat} {cs : List Int} (h : cs.length ≠ 0) : M.listErr n cs = M.listFrom n cs (cs.length - 0) 0 := by unfold M.listErr; rw [decide_eq_false h]; rfl
theorem w96 (l : List Cask) (ps : List Int) (hl : l.length ≤ 1000000) (hp : ps.length ≤ 1000000) : (tr96 l ps).wp (fun rs => rsEqv rs [rI (M.listErr l.length ps)]) := by
  unfold tr96
  have hw : IntKind.i64.wrap ((l.length : Int) - 1) = (l.length : Int) - 1 := wrap_id (by omega) (by omega)
  simp only [hw]
  refine wp_br (fun hb => ?_) (fun hb => ?_)
  · have hb := eq_of_beq hb
    rw [listErr_zero (by omega)]; exact rsEqv_refl _
  have hne : ps.length ≠ 0 := by intro e; rw [e] at hb; exact absurd hb (by decide)
  rw [listErr_pos hne]
  refine range_wp (n := ps.length) (fun k _ => M.listFrom l.length ps (ps.length - 0) 0 = M.listFrom l.length ps (ps.length - k) k) rfl ?_
  rintro k u hk hI
  refine ⟨fun hb => ?_, fun hb => ?_⟩
  · have hlt := lt_of_dec hb
    refine ⟨by show (0 : Int) ≤ k; omega, by show (k : Int) < ps.length; omega, fun hz => ?_, fun hz => ?_⟩
    · have hz : (k : Int) = 0 := eq_of_beq hz
      have hz : k = 0 := by omega
      subst hz
      have e : M.listErrAt l.length ps 0 = M.first [M.unl (M.within (ps.getD 0 0) 0 ((l.length : Int) - 1)) 6, 0] := rfl
      refine ⟨fun hc => ?_, fun hc => ?_⟩
      · have hc : (M.listErrAt l.length ps 0 != 0) = true := hc
        rw [hI, listFrom_hit hlt (by simpa using hc)]; exact rsEqv_refl _
      · have hc : (M.listErrAt l.length ps 0 != 0) = false := hc
        refine ⟨hlt, wrap_succ (k := 0) (by omega), ?_⟩
        rw [hI]; exact listFrom_next hlt (by simpa using hc)
    · have hz : k ≠ 0 := by intro e; subst e; simp at hz
      have e1 : IntKind.i64.wrap ((k : Int) - 1) = (k : Int) - 1 := wrap_id (by omega) (by omega)
      have e2 : (if (k : Int) - 1 > 0 then (k : Int) - 1 else 0) = ((k - 1 : Nat) : Int) := by split <;> omega
      have eb : Nat.beq k 0 = false := by cases k with | zero => exact absurd rfl hz | succ k => rfl
      have e : M.listErrAt l.length ps k = M.first [M.unl (M.within (ps.getD k 0) 0 ((l.length : Int) - 1)) 6, M.unl (decide (ps.getD k 0 > ps.getD (k - 1) 0)) 9] := by unfold M.listErrAt; rw [eb]; rfl
      dsimp only
      rw [e1, e2]
      refine ⟨by omega, by omega, fun hc => ?_, fun hc => ?_⟩
      · have hc : (M.listErrAt l.length ps k != 0) = true := by rw [e]; exact hc
        rw [hI, listFrom_hit hlt (by simpa using hc), e]; exact rsEqv_refl _
      · have hc : (M.listErrAt l.length ps k != 0) = false := by rw [e]; exact hc
        refine ⟨hlt, wrap_succ (k := k) (by omega), ?_⟩
        rw [hI]; exact listFrom_next hlt (by simpa using hc)
  · have hge := ge_of_dec hb
    rw [hI, show ps.length - k = 0 by omega]
    exact rsEqv_refl _
theorem w43 (l : List Cask) (ps : List Int) (hl : l.length ≤ 1000000) (hp : ps.length ≤ 1000000) : (tr43 l ps).wp (fun rs => rsEqv rs [rI (M.listErr l.length ps)]) := by
  unfold tr43
  have hw : IntKind.i64.wrap ((l.length : Int) - 1) = (l.length : Int) - 1 := wrap_id (by omega) (by omega)
  simp only [hw]
  refine wp_br (fun hb => ?_) (fun hb => ?_)
  · have hb := eq_of_beq hb
    rw [listErr_zero (by omega)]; exact rsEqv_refl _
  have hne : ps.length ≠ 0 := by intro e; rw [e] at hb; exact absurd hb (by decide)
  rw [listErr_pos hne]
  refine range_wp (n := ps.length) (fun k _ => M.listFrom l.length ps (ps.length - 0) 0 = M.listFrom l.length ps (ps.length - k) k) rfl ?_
  rintro k u hk hI
  refine ⟨fun hb => ?_, fun hb => ?_⟩
  · have hlt := lt_of_dec hb
    refine ⟨by show (0 : Int) ≤ k; omega, by show (k : Int) < ps.length; omega, fun hc => ?_, fun hc => ?_⟩
    · have hc : M.within (ps.getD k 0) 0 ((l.length : Int) - 1) = false := not_true hc
      have e : M.listErrAt l.length ps k = 6 := by unfold M.listErrAt; rw [hc]; rfl
      rw [hI, listFrom_hit hlt (by rw [e]; decide), e]; exact rsEqv_refl _
    · have hc : M.within (ps.getD k 0) 0 ((l.length : Int) - 1) = true := not_false' hc
      refine ⟨fun hz => ?_, fun hz => ?_⟩
      · have hk0 : (k : Int) > 0 := of_decide_eq_true hz
        have e1 : IntKind.i64.wrap ((k : Int) - 1) = ((k - 1 : Nat) : Int) := by rw [wrap_id (by omega) (by omega)]; omega
        have eb : Nat.beq k 0 = false := by cases k with | zero => omega | succ k => rfl
        dsimp only
        rw [e1]
        have e : M.listErrAt l.length ps k = M.unl (decide (ps.getD k 0 > ps.getD (k - 1) 0)) 9 := by
          unfold M.listErrAt; rw [eb, hc]
          show M.first [0, M.unl (decide (ps.getD k 0 > ps.getD (k - 1) 0)) 9] = _
          rw [first_cons, if_pos rfl, first_cons]
          split
          · rename_i h; rw [h]; rfl
          · rfl
        refine ⟨hz, by omega, by omega, by omega, by omega, fun hd => ?_, fun hd => ?_⟩
        · have hd : ps.getD k 0 ≤ ps.getD (k - 1) 0 := of_decide_eq_true hd
          rw [decide_eq_false (by omega)] at e
          have e : M.listErrAt l.length ps k = 9 := e
          rw [hI, listFrom_hit hlt (by rw [e]; decide), e]; exact rsEqv_refl _
        · have hd : ¬ ps.getD k 0 ≤ ps.getD (k - 1) 0 := of_decide_eq_false hd
          rw [decide_eq_true (by omega)] at e
          refine ⟨hlt, wrap_succ (k := k) (by omega), ?_⟩
          rw [hI]; exact listFrom_next hlt e
      · have hk0 : ¬ (k : Int) > 0 := of_decide_eq_false hz
        have hk0 : k = 0 := by omega
        subst hk0
        have e : M.listErrAt l.length ps 0 = 0 := by unfold M.listErrAt; rw [hc]; rfl
        refine ⟨rfl, hlt, wrap_succ (k := 0) (by omega), ?_⟩
        rw [hI]; exact listFrom_next hlt e
  · have hge := ge_of_dec hb
    rw [hI, show ps.length - k = 0 by omega]
    exact rsEqv_refl _
theorem has_take {ps : List Int} {k : Nat} {x : Int} (hk : k < ps.length) : M.has (ps.take (k + 1)) x = (M.has (ps.take k) x || (ps.getD k 0 == x)) := by
  unfold M.has
  rw [take_push (d := 0) hk, List.any_append]
  simp
theorem w90 (q_l : Bool) (l : List Cask) (ps : List Int) (hl : l.length ≤ 1000000) (hp : ps.length ≤ 1000000) (hin : ∀ i, i < ps.length → 0 ≤ ps.getD i 0 ∧ ps.getD i 0 < l.length) : (tr90 q_l l ps).wp (fun rs => rsEqv rs [.agg [.sl false l.length 7 (eC.F l), dI 1, .sl false l.length 1 (eI.F (M.wholeP l ps))]]) := by
  unfold tr90
  obtain ⟨z1, z2⟩ := zeros_int l.length
  have hn : ((l.length : Nat) : Int).toNat = l.length := Int.toNat_natCast _
  simp only [hn, z2]
  refine ⟨by omega, Int.le_refl _, by omega, z1, Nat.le_refl _, ?_⟩
  refine range_wp (S := D × Int × List Int × PUnit) (n := ps.length) (fun k s => s.1 = D.sl q_l l.length 7 (eC.F l) ∧ s.2.1 = 1 ∧ s.2.2.1 = M.wholeP l (ps.take k)) ?_ ?_
  · refine ⟨rfl, rfl, ?_⟩
    show List.replicate l.length 0 = M.wholeP l (ps.take 0)
    unfold M.wholeP
    rw [List.take_zero]
    apply List.ext_getElem
    · simp
    · intro i h1 h2; simp [M.has]
  · rintro k ⟨a, d, acc, u⟩ hk ⟨i1, i2, i3⟩
    simp only at i1 i2 i3
    subst i1 i2 i3
    have hlen : ∀ q, (M.wholeP l q).length = l.length := fun q => by simp [M.wholeP]
    have gw : ∀ (q : List Int) (i : Nat) (h : i < (M.wholeP l q).length), (M.wholeP l q)[i] = if M.has q i then (l.getD i dfC).vol else 0 := by
      intro q i h; simp [M.wholeP]
    refine ⟨fun hb => ?_, fun hb => ?_⟩
    · have hlt := lt_of_dec hb
      have hr := hin k hlt
      obtain ⟨m, hm⟩ : ∃ m : Nat, ps.getD k 0 = m := ⟨(ps.getD k 0).toNat, by omega⟩
      have hml : m < l.length := by omega
      obtain ⟨p1, p2⟩ := put_int (l := M.wholeP l (ps.take k)) (i := m) (b := (l.getD m dfC).vol) (by rw [hlen]; exact hml)
      have hmn : (ps.getD k 0).toNat = m := by omega
      refine ⟨by show (0 : Int) ≤ k; omega, by show (k : Int) < ps.length; omega, hr.1, hr.2, hr.1, ?_, ?_, ?_, Nat.le_refl _, ⟨hlt, wrap_succ (k := k) (by omega), rfl, rfl, ?_⟩⟩
      · show ps.getD k 0 < ((M.wholeP l (ps.take k)).length : Int); rw [hlen]; exact hr.2
      · show (ps.getD k 0).toNat < (M.wholeP l (ps.take k)).length; rw [hlen, hmn]; exact hml
      · show eI.Is _ (putF (ps.getD k 0).toNat 0 1 [dI (l.getD (ps.getD k 0).toNat dfC).vol] _); rw [hmn]; exact p1
      · show eI.list _ (putF (ps.getD k 0).toNat 0 1 [dI (l.getD (ps.getD k 0).toNat dfC).vol] _) = _
        rw [hmn]
        refine p2.trans ?_
        apply List.ext_getElem
        · simp [M.wholeP]
        · intro i h1 h2
          have hi : i < l.length := by simpa [M.wholeP] using h2
          rw [List.getElem_set, gw, gw, has_take hlt, hm]
          by_cases e : m = i
          · subst e; simp
          · rw [if_neg e]
            have : ((m : Int) == (i : Int)) = false := beq_of_ne (by omega)
            rw [this, Bool.or_false]
    · have hge := ge_of_dec hb
      have e : ps.take k = ps := List.take_of_length_le (by omega)
      refine ⟨Nat.le_refl _, ⟨sl_eqv, rfl, ?_, trivial⟩, trivial⟩
      show (D.sl true (M.wholeP l (ps.take k)).length 1 (eI.F (M.wholeP l (ps.take k)))).eqv _
      rw [e, hlen]; exact sl_eqv
def dom96 : DomF
  | [.c (.sl _ n_l st_l F_l), .c (.sl _ n_ps st_ps F_ps)] => (match Nat.beq st_l 7 && Nat.beq st_ps 1 with
    | true => some ([eC.Is n_l F_l, eI.Is n_ps F_ps, (eC.list n_l F_l).length ≤ 1000000, (eI.list n_ps F_ps).length ≤ 1000000], [rI (M.listErr (eC.list n_l F_l).length (eI.list n_ps F_ps))])
    | _ => none)
  | _ => none
def v96 : Nat × Sm := (96, fokSm dom96)
theorem C96 : FOK Try.prog G0 gw 96 dom96 := by
  intro ags p r hd hp κ w xs hw hl hG hx
  unfold dom96 at hd
  split at hd
  · rename_i q_l n_l st_l F_l q_ps n_ps st_ps F_ps
    split at hd
    · rename_i hst
      simp only [Bool.and_eq_true] at hst
      obtain ⟨g1, g2⟩ := hst
      have g1 := Nat.eq_of_beq_eq_true g1
      have g2 := Nat.eq_of_beq_eq_true g2
      subst g1 g2
      simp only [Option.some.injEq, Prod.mk.injEq] at hd
      obtain ⟨rfl, rfl⟩ := hd
      obtain ⟨hI_l, hI_ps, hp⟩ := hp
      have heq : agsEqv [.c (.sl q_l n_l 7 F_l), .c (.sl q_ps n_ps 1 F_ps)] [.c (.sl q_l (eC.list n_l F_l).length 7 (eC.F (eC.list n_l F_l))), .c (.sl q_ps (eI.list n_ps F_ps).length 1 (eI.F (eI.list n_ps F_ps)))] := ⟨eC.to id hI_l, eI.to id hI_ps, trivial⟩
      have len_l : (eC.list n_l F_l).length = n_l := eC.list_len
      have len_ps : (eI.list n_ps F_ps).length = n_ps := eI.list_len
      generalize eC.list n_l F_l = l at *
      generalize eI.list n_ps F_ps = ps at *
      subst len_l len_ps
      exact fokX_fin mixed gw_stable (sl := [v102, v80, v64]) ⟨S102, S80, S64, trivial⟩ Try.func96 hw hl hG hx heq rfl (t96 q_l l q_ps ps) (w96 l ps hp.1 hp.2.1)
    · cases hd
  · cases hd
theorem S96 : SumOK Try.prog G0 gw 96 (fokSm dom96) := fok_sum Try.func96 rfl C96
def dom43 : DomF
  | [.c (.sl _ n_l st_l F_l), .c (.sl _ n_ps st_ps F_ps)] => (match Nat.beq st_l 7 && Nat.beq st_ps 1 with
    | true => some ([eC.Is n_l F_l, eI.Is n_ps F_ps, (eC.list n_l F_l).length ≤ 1000000, (eI.list n_ps F_ps).length ≤ 1000000], [rI (M.listErr (eC.list n_l F_l).length (eI.list n_ps F_ps))])
    | _ => none)
  | _ => none
def v43 : Nat × Sm := (43, fokSm dom43)
theorem C43 : FOK Try.prog G0 gw 43 dom43 := by
  intro ags p r hd hp κ w xs hw hl hG hx
  unfold dom43 at hd
  split at hd
  · rename_i q_l n_l st_l F_l q_ps n_ps st_ps F_ps
    split at hd
    · rename_i hst
      simp only [Bool.and_eq_true] at hst
      obtain ⟨g1, g2⟩ := hst
      have g1 := Nat.eq_of_beq_eq_true g1
      have g2 := Nat.eq_of_beq_eq_true g2
      subst g1 g2
      simp only [Option.some.injEq, Prod.mk.injEq] at hd
      obtain ⟨rfl, rfl⟩ := hd
      obtain ⟨hI_l, hI_ps, hp⟩ := hp
      have heq : agsEqv [.c (.sl q_l n_l 7 F_l), .c (.sl q_ps n_ps 1 F_ps)] [.c (.sl q_l (eC.list n_l F_l).length 7 (eC.F (eC.list n_l F_l))), .c (.sl q_ps (eI.list n_ps F_ps).length 1 (eI.F (eI.list n_ps F_ps)))] := ⟨eC.to id hI_l, eI.to id hI_ps, trivial⟩
      have len_l : (eC.list n_l F_l).length = n_l := eC.list_len
      have len_ps : (eI.list n_ps F_ps).length = n_ps := eI.list_len
      generalize eC.list n_l F_l = l at *
      generalize eI.list n_ps F_ps = ps at *
      subst len_l len_ps
      exact fokX_fin mixed gw_stable (sl := [v35]) ⟨S35, trivial⟩ Try.func43 hw hl hG hx heq rfl (t43 q_l l q_ps ps) (w43 l ps hp.1 hp.2.1)
    · cases hd
  · cases hd
theorem S43 : SumOK Try.prog G0 gw 43 (fokSm dom43) := fok_sum Try.func43 rfl C43
def dom90 : DomF
  | [.c (.sl _ n_l st_l F_l), .c (.sl _ n_ps st_ps F_ps)] => (match Nat.beq st_l 7 && Nat.beq st_ps 1 with
    | true => some ([eC.Is n_l F_l, eI.Is n_ps F_ps, (eC.list n_l F_l).length ≤ 1000000, (eI.list n_ps F_ps).length ≤ 1000000, ∀ i, i < (eI.list n_ps F_ps).length → 0 ≤ (eI.list n_ps F_ps).getD i 0 ∧ (eI.list n_ps F_ps).getD i 0 < ((eC.list n_l F_l).length : Int)], [.agg [.sl false n_l 7 (eC.F (eC.list n_l F_l)), dI 1, .sl false n_l 1 (eI.F (M.wholeP (eC.list n_l F_l) (eI.list n_ps F_ps)))]])
    | _ => none)
  | _ => none
def v90 : Nat × Sm := (90, fokSm dom90)
theorem C90 : FOK Try.prog G0 gw 90 dom90 := by
  intro ags p r hd hp κ w xs hw hl hG hx
  unfold dom90 at hd
  split at hd
  · rename_i q_l n_l st_l F_l q_ps n_ps st_ps F_ps
    split at hd
    · rename_i hst
      simp only [Bool.and_eq_true] at hst
      obtain ⟨g1, g2⟩ := hst
      have g1 := Nat.eq_of_beq_eq_true g1
      have g2 := Nat.eq_of_beq_eq_true g2
      subst g1 g2
      simp only [Option.some.injEq, Prod.mk.injEq] at hd
      obtain ⟨rfl, rfl⟩ := hd
      obtain ⟨hI_l, hI_ps, hp⟩ := hp
      have heq : agsEqv [.c (.sl q_l n_l 7 F_l), .c (.sl q_ps n_ps 1 F_ps)] [.c (.sl q_l (eC.list n_l F_l).length 7 (eC.F (eC.list n_l F_l))), .c (.sl q_ps (eI.list n_ps F_ps).length 1 (eI.F (eI.list n_ps F_ps)))] := ⟨eC.to id hI_l, eI.to id hI_ps, trivial⟩
      have len_l : (eC.list n_l F_l).length = n_l := eC.list_len
      have len_ps : (eI.list n_ps F_ps).length = n_ps := eI.list_len
      generalize eC.list n_l F_l = l at *
      generalize eI.list n_ps F_ps = ps at *
      subst len_l len_ps
      exact fokX_fin mixed gw_stable (sl := []) trivial Try.func90 hw hl hG hx heq rfl (t90 q_l l q_ps ps) (w90 q_l l ps hp.1 hp.2.1 hp.2.2.1)
    · cases hd
  · cases hd
theorem S90 : SumOK Try.prog G0 gw 90 (fokSm dom90) := fok_sum Try.func90 rfl C90
end Go.Bl
end

section
set_option linter.unusedVariables false
set_option linter.unusedSimpArgs false
set_option maxRecDepth 100000
namespace Go.Bl
open Go.V Go.Proofs
theorem whole_len (l : List Cask) (q : List Int) : (M.wholeP l q).length = l.length := by simp [M.wholeP]
theorem whole_get {l : List Cask} {q : List Int} {i : Nat} (h : i < l.length) : (M.wholeP l q).getD i 0 = if M.has q i then (l.getD i dfC).vol else 0 := map_getD h
end Go.Bl
end

section
set_option linter.unusedVariables false
set_option linter.unusedSimpArgs false
set_option maxRecDepth 100000
namespace Go.Bl
open Go.V Go.Proofs Go.Lp
theorem fold_small {f : Int → Nat → Int} {y : Nat → Int} {n : Nat} (hf : ∀ a i, i < n → f a i = IntKind.i64.wrap (a + y i)) (hy : ∀ i, i < n → (y i).natAbs ≤ 10000000) (hn : n ≤ 10) :
    (List.range n).foldl f 0 = dot y n ∧ (dot y n).natAbs ≤ n * 10000000 := by
  have key : ∀ k, k ≤ n → (List.range k).foldl f 0 = dot y k ∧ (dot y k).natAbs ≤ k * 10000000 := by
    intro k
    induction k with
    | zero => intro _; exact ⟨rfl, by show (0 : Int).natAbs ≤ _; simp⟩
    | succ k ih =>
      intro hk
      obtain ⟨h1, h2⟩ := ih (by omega)
      have hb := hy k (by omega)
      have e : dot y (k + 1) = dot y k + y k := rfl
      have hb' : (dot y (k + 1)).natAbs ≤ (k + 1) * 10000000 := by rw [e]; omega
      refine ⟨?_, hb'⟩
      rw [foldl_succ, h1, hf _ _ (by omega), ← e]
      exact wrap_id (by omega) (by omega)
  exact key n (Nat.le_refl n)
structure RightT (l : List Cask) : Prop where
  n1 : 1 ≤ l.length
  n10 : l.length ≤ 10
  rc : ∀ i, i < l.length → RightC (l.getD i dfC)
theorem casks_ten {l : List Cask} (h : (M.checkCasks l).2 = 0) : RightT l := by
  unfold M.checkCasks at h
  cases e0 : decide (l.length = 0)
  · rw [e0] at h
    have h : (cond (decide (10 < l.length)) ((0 : Int), (8 : Int)) (M.casksFrom l l.length 0)).2 = 0 := h
    cases e1 : decide (10 < l.length)
    · rw [e1] at h
      have h : (M.casksFrom l l.length 0).2 = 0 := h
      have e0 := of_decide_eq_false e0
      have e1 := of_decide_eq_false e1
      refine ⟨by omega, by omega, fun i hi => ?_⟩
      have hc := casksFrom_zero _ _ h i (Nat.zero_le _) (by omega)
      unfold M.caskErr at hc
      exact rightC_spec (unl_zero (e := 2) (by decide) (first_nil _ hc _ (List.mem_cons_of_mem _ (List.mem_cons_of_mem _ (List.mem_cons_self ..)))))
    · rw [e1] at h
      exact absurd (show (8 : Int) = 0 from h) (by decide)
  · rw [e0] at h
    exact absurd (show (10 : Int) = 0 from h) (by decide)
section
variable {l : List Cask} {ps : List Int} {s : Sample}
theorem whole_b (h : RightT l) {i : Nat} (hi : i < l.length) : 0 ≤ (M.wholeP l ps).getD i 0 ∧ (M.wholeP l ps).getD i 0 ≤ 10000 := by
  rw [whole_get hi]
  have := (h.rc i hi).vol
  split <;> omega
theorem mul_tiny {p w : Int} (hp : 0 ≤ p ∧ p ≤ 10000) (hw : w.natAbs ≤ 1000) : (p * w).natAbs ≤ 10000000 := by
  rw [Int.natAbs_mul]
  exact Nat.mul_le_mul (show p.natAbs ≤ 10000 by omega) hw
theorem sumW (h : RightT l) {of : Cask → Int} (hof : ∀ i, i < l.length → (of (l.getD i dfC)).natAbs ≤ 1000) :
    M.sumP of l (M.wholeP l ps) = dot (fun i => (M.wholeP l ps).getD i 0 * of (l.getD i dfC)) l.length ∧ (M.sumP of l (M.wholeP l ps)).natAbs ≤ 100000000 := by
  have hf := fold_small (f := fun a i => IntKind.i64.wrap (a + IntKind.i64.wrap ((M.wholeP l ps).getD i 0 * of (l.getD i dfC)))) (y := fun i => (M.wholeP l ps).getD i 0 * of (l.getD i dfC)) (n := l.length)
    (fun a i _ => wrap_add_wrap _ _) (fun i hi => mul_tiny (whole_b h hi) (hof i hi)) h.n10
  have e : M.sumP of l (M.wholeP l ps) = (List.range l.length).foldl (fun a i => IntKind.i64.wrap (a + IntKind.i64.wrap ((M.wholeP l ps).getD i 0 * of (l.getD i dfC)))) 0 := by unfold M.sumP; rw [whole_len]
  have := h.n10
  rw [e, hf.1]
  exact ⟨rfl, by omega⟩
theorem valW (h : RightT l) {of : Cask → Int} {c : Int} (hof : ∀ i, i < l.length → 0 ≤ of (l.getD i dfC) ∧ of (l.getD i dfC) ≤ 1000) (hc : 0 ≤ c ∧ c ≤ 1000) :
    M.valL l (M.wholeP l ps) of c = dot (fun i => (M.wholeP l ps).getD i 0 * (of (l.getD i dfC) - c)) l.length ∧ (M.valL l (M.wholeP l ps) of c).natAbs ≤ 100000000 := by
  have hf := fold_small (f := fun a i => IntKind.i64.wrap (a + IntKind.i64.wrap ((M.wholeP l ps).getD i 0 * IntKind.i64.wrap (of (l.getD i dfC) - c)))) (y := fun i => (M.wholeP l ps).getD i 0 * (of (l.getD i dfC) - c)) (n := l.length)
    (fun a i hi => by have := hof i hi; rw [wrap_add_wrap, wrap_id (n := of (l.getD i dfC) - c) (by omega) (by omega)]) (fun i hi => mul_tiny (whole_b h hi) (by have := hof i hi; omega)) h.n10
  have e : M.valL l (M.wholeP l ps) of c = (List.range l.length).foldl (fun a i => IntKind.i64.wrap (a + IntKind.i64.wrap ((M.wholeP l ps).getD i 0 * IntKind.i64.wrap (of (l.getD i dfC) - c)))) 0 := rfl
  have := h.n10
  rw [e, hf.1]
  exact ⟨rfl, by omega⟩
theorem dot_nn {y : Nat → Int} : ∀ {n : Nat}, (∀ i, i < n → 0 ≤ y i) → 0 ≤ dot y n
  | 0, _ => Int.le_refl _
  | n + 1, h => by
    have h1 := dot_nn (n := n) fun i hi => h i (by omega)
    have h2 := h n (by omega)
    show 0 ≤ dot y n + y n
    omega
theorem volW (h : RightT l) : M.sumP (fun _ => 1) l (M.wholeP l ps) = dot (fun i => (M.wholeP l ps).getD i 0) l.length ∧ 0 ≤ M.sumP (fun _ => 1) l (M.wholeP l ps) ∧ M.sumP (fun _ => 1) l (M.wholeP l ps) ≤ 100000000 := by
  have hs := sumW (ps := ps) h (of := fun _ => 1) (fun i hi => by decide)
  have e : dot (fun i => (M.wholeP l ps).getD i 0 * 1) l.length = dot (fun i => (M.wholeP l ps).getD i 0) l.length := dot_congr fun i _ => Int.mul_one _
  have h0 := dot_nn (y := fun i => (M.wholeP l ps).getD i 0) (n := l.length) fun i hi => (whole_b h hi).1
  have h1 := hs.1
  rw [e] at h1
  exact ⟨h1, by rw [h1]; exact h0, by have := hs.2; omega⟩
theorem val0W (h : RightT l) {of : Cask → Int} (hof : ∀ i, i < l.length → 0 ≤ of (l.getD i dfC) ∧ of (l.getD i dfC) ≤ 1000) : M.valL l (M.wholeP l ps) of 0 = M.sumP of l (M.wholeP l ps) ∧ 0 ≤ M.sumP of l (M.wholeP l ps) ∧ M.sumP of l (M.wholeP l ps) ≤ 100000000 := by
  have h1 := valW (ps := ps) h hof (c := 0) (by decide)
  have h2 := sumW (ps := ps) h (of := of) (fun i hi => by have := hof i hi; omega)
  have e : dot (fun i => (M.wholeP l ps).getD i 0 * (of (l.getD i dfC) - 0)) l.length = dot (fun i => (M.wholeP l ps).getD i 0 * of (l.getD i dfC)) l.length := dot_congr fun i _ => by rw [Int.sub_zero]
  have h0 := dot_nn (y := fun i => (M.wholeP l ps).getD i 0 * of (l.getD i dfC)) (n := l.length) fun i hi => Int.mul_nonneg (whole_b h hi).1 (hof i hi).1
  refine ⟨by rw [h1.1, e, h2.1], by rw [h2.1]; exact h0, by have := h2.2; omega⟩
theorem told_one (n : Int) : M.told1 n 1 = n := by
  unfold M.told1
  rw [Int.gcd_one_right]
  exact Int.tdiv_one n
theorem ediv_of {a V q : Int} (hV : 0 < V) (h1 : q * V ≤ a) (h2 : a < (q + 1) * V) : a / V = q := by
  have e := Int.mul_ediv_add_emod a V
  have r0 := Int.emod_nonneg a (show V ≠ 0 by omega)
  have r1 := Int.emod_lt_of_pos a hV
  rw [Int.mul_comm] at e
  rcases Int.lt_trichotomy (a / V) q with h | h | h
  · have := Int.mul_le_mul_of_nonneg_right (show a / V + 1 ≤ q by omega) (Int.le_of_lt hV)
    rw [Int.add_mul, Int.one_mul] at this; omega
  · exact h
  · have := Int.mul_le_mul_of_nonneg_right (show q + 1 ≤ a / V by omega) (Int.le_of_lt hV); omega
theorem ceil_up {n V : Int} (hV : 0 < V) : (n + V - 1) / V = -((-n) / V) := by
  obtain ⟨c1, c2⟩ := ceil_spec (n := n) hV
  rw [Int.sub_mul, Int.one_mul] at c1
  exact ediv_of hV (by omega) (by rw [Int.add_mul, Int.one_mul]; omega)
theorem listErr_in {n : Nat} (hp : M.listErr n ps = 0) : ps.length ≠ 0 ∧ ∀ i, i < ps.length → (0 ≤ ps.getD i 0 ∧ ps.getD i 0 < (n : Int)) ∧ (i ≠ 0 → ps.getD (i - 1) 0 < ps.getD i 0) := by
  have key : ∀ (m i : Nat), M.listFrom n ps m i = 0 → ∀ j, i ≤ j → j < i + m → M.listErrAt n ps j = 0 := by
    intro m
    induction m with
    | zero => intro i _ j h1 h2; omega
    | succ m ih =>
      intro i h j h1 h2
      unfold M.listFrom at h
      obtain ⟨a, b⟩ := cond_zero h
      rcases Nat.eq_or_lt_of_le h1 with rfl | hlt
      · exact a
      · exact ih (i + 1) b j hlt (by omega)
  by_cases h0 : ps.length = 0
  · rw [listErr_zero h0] at hp; exact absurd hp (by decide)
  · refine ⟨h0, fun i hi => ?_⟩
    rw [listErr_pos h0] at hp
    have := key _ _ hp i (Nat.zero_le _) (by omega)
    unfold M.listErrAt at this
    have hz := first_nil _ this
    have hw := within_spec (unl_zero (by decide) (hz (M.unl (M.within (ps.getD i 0) 0 ((n : Int) - 1)) 6) (by simp)))
    refine ⟨by omega, fun hne => ?_⟩
    have h2 := unl_zero (by decide) (hz (M.unl (cond (Nat.beq i 0) true (decide (ps.getD i 0 > ps.getD (i - 1) 0))) 9) (by simp))
    have eb : Nat.beq i 0 = false := by cases i with | zero => exact absurd rfl hne | succ k => rfl
    rw [eb] at h2
    exact of_decide_eq_true h2
end
end Go.Bl
end

section
set_option linter.unusedVariables false
set_option linter.unusedSimpArgs false
set_option maxRecDepth 100000
namespace Go.Bl
open Go.V Go.Proofs
namespace M
def wholeR (l : List Cask) (s : Sample) (ps : List Int) : Int × Int := cond (meets l (wholeP l ps) s != 0) (0, meets l (wholeP l ps) s) (sumP Cask.cost l (wholeP l ps), 0)
def wholeErrS (l : List Cask) (s : Sample) (ps : List Int) : Int := first [(checkCasks l).2, checkSample s, listErr l.length ps]
def checkWhole (l : List Cask) (s : Sample) (ps : List Int) : Int × Int := cond (wholeErrS l s ps != 0) (0, wholeErrS l s ps) (wholeR l s ps)
structure Means where
  r0 : Rg
  r1 : Rg
  r2 : Rg
  r3 : Rg
  e : Int
end M
theorem list_whole (l : List Cask) (ps : List Int) : eI.list l.length (eI.F (M.wholeP l ps)) = M.wholeP l ps := by
  have := Enc.list_F eI (M.wholeP l ps)
  rw [whole_len] at this; exact this
def resP2 (x : Int × Int) : List Ar := [rI x.1, rI x.2]
def tr42 (l : List Cask) (s : Sample) (ps : List Int) : T (List Ar) :=
    T.need (Enc.Is eC (List.length l) (Enc.F eC l)) (T.need (∀ (c : Cask), c ∈ Enc.list eC (List.length l) (Enc.F eC l) → ByteArray.size (Cask.nm c) ≤ (1000000 : Nat)) (T.need (Enc.Is eC (List.length l) (Enc.F eC l)) (T.need (Enc.Is eI (List.length ps) (Enc.F eI ps)) (T.need (List.length (Enc.list eC (List.length l) (Enc.F eC l)) ≤ (1000000 : Nat)) (T.need (List.length (Enc.list eI (List.length ps) (Enc.F eI ps)) ≤ (1000000 : Nat)) (T.br (M.first [Prod.snd (M.checkCasks (Enc.list eC (List.length l) (Enc.F eC l))), M.checkSample s, M.listErr (List.length (Enc.list eC (List.length l) (Enc.F eC l))) (Enc.list eI (List.length ps) (Enc.F eI ps))] != (0 : Int)) (T.ret [Ar.c (D.int IntKind.i64 (0 : Int)), Ar.c (D.int IntKind.i64 (M.first [Prod.snd (M.checkCasks (Enc.list eC (List.length l) (Enc.F eC l))), M.checkSample s, M.listErr (List.length (Enc.list eC (List.length l) (Enc.F eC l))) (Enc.list eI (List.length ps) (Enc.F eI ps))]))]) (T.need (Enc.Is eC (List.length l) (Enc.F eC l)) (T.need (Enc.Is eI (List.length ps) (Enc.F eI ps)) (T.need (List.length (Enc.list eC (List.length l) (Enc.F eC l)) ≤ (1000000 : Nat)) (T.need (List.length (Enc.list eI (List.length ps) (Enc.F eI ps)) ≤ (1000000 : Nat)) (T.need (∀ (i : Nat), i < List.length (Enc.list eI (List.length ps) (Enc.F eI ps)) → (0 : Int) ≤ List.getD (Enc.list eI (List.length ps) (Enc.F eI ps)) i (0 : Int) ∧ List.getD (Enc.list eI (List.length ps) (Enc.F eI ps)) i (0 : Int) < (Nat.cast (R := Int) (List.length (Enc.list eC (List.length l) (Enc.F eC l))))) (T.need (Enc.Is eC (List.length l) (Enc.F eC (Enc.list eC (List.length l) (Enc.F eC l)))) (T.need (Enc.Is eI (List.length l) (Enc.F eI (M.wholeP (Enc.list eC (List.length l) (Enc.F eC l)) (Enc.list eI (List.length ps) (Enc.F eI ps))))) (T.need (List.length (Enc.list eI (List.length l) (Enc.F eI (M.wholeP (Enc.list eC (List.length l) (Enc.F eC l)) (Enc.list eI (List.length ps) (Enc.F eI ps))))) ≤ List.length (Enc.list eC (List.length l) (Enc.F eC (Enc.list eC (List.length l) (Enc.F eC l))))) (T.need (List.length (Enc.list eI (List.length l) (Enc.F eI (M.wholeP (Enc.list eC (List.length l) (Enc.F eC l)) (Enc.list eI (List.length ps) (Enc.F eI ps))))) ≤ (1000 : Nat)) (T.br (M.meets (Enc.list eC (List.length l) (Enc.F eC (Enc.list eC (List.length l) (Enc.F eC l)))) (Enc.list eI (List.length l) (Enc.F eI (M.wholeP (Enc.list eC (List.length l) (Enc.F eC l)) (Enc.list eI (List.length ps) (Enc.F eI ps))))) s != (0 : Int)) (T.ret [Ar.c (D.int IntKind.i64 (0 : Int)), Ar.c (D.int IntKind.i64 (M.meets (Enc.list eC (List.length l) (Enc.F eC (Enc.list eC (List.length l) (Enc.F eC l)))) (Enc.list eI (List.length l) (Enc.F eI (M.wholeP (Enc.list eC (List.length l) (Enc.F eC l)) (Enc.list eI (List.length ps) (Enc.F eI ps))))) s))]) (T.need (Enc.Is eC (List.length l) (Enc.F eC (Enc.list eC (List.length l) (Enc.F eC l)))) (T.need (Enc.Is eI (List.length l) (Enc.F eI (M.wholeP (Enc.list eC (List.length l) (Enc.F eC l)) (Enc.list eI (List.length ps) (Enc.F eI ps))))) (T.need (List.length l ≤ List.length l) (T.need (List.length l ≤ (1000 : Nat)) (T.need ((1 : Int) ≠ (0 : Int)) (T.need ((1 : Nat) < (9223372036854775808 : Nat)) (T.need (Int.natAbs (M.sumP Cask.cost (Enc.list eC (List.length l) (Enc.F eC (Enc.list eC (List.length l) (Enc.F eC l)))) (Enc.list eI (List.length l) (Enc.F eI (M.wholeP (Enc.list eC (List.length l) (Enc.F eC l)) (Enc.list eI (List.length ps) (Enc.F eI ps)))))) < (9223372036854775808 : Nat)) (T.ret [Ar.c (D.int IntKind.i64 (M.told1 (M.sumP (fun (self : Cask) => self.3) (Enc.list eC (List.length l) (Enc.F eC (Enc.list eC (List.length l) (Enc.F eC l)))) (Enc.list eI (List.length l) (Enc.F eI (M.wholeP (Enc.list eC (List.length l) (Enc.F eC l)) (Enc.list eI (List.length ps) (Enc.F eI ps)))))) (1 : Int))), Ar.c (D.int IntKind.i64 (0 : Int))]))))))))))))))))))))))))
theorem t42 (q_l : Bool) (l : List Cask) (sv l0 h0 l1 h1 l2 h2 l3 h3 : Int) (q_ps : Bool) (ps : List Int) : runFnX Try.prog G0 (lookS [v47, v49, v96, v64, v90, v91, v68]) (fun _ => []) [] 1 40 5 42 Try.f42 [.c (.sl q_l l.length 7 (eC.F l)), .agg [dI sv, dI l0, dI h0, dI l1, dI h1, dI l2, dI h2, dI l3, dI h3], .c (.sl q_ps ps.length 1 (eI.F ps))] =
    tr42 l (⟨sv, ⟨l0, h0⟩, ⟨l1, h1⟩, ⟨l2, h2⟩, ⟨l3, h3⟩⟩ : Sample) ps := by kernel_rfl
theorem w42 (l : List Cask) (s : Sample) (ps : List Int) (hn : ∀ c, c ∈ l → c.nm.size ≤ 1000000) (hl : l.length ≤ 100000) (hp : ps.length ≤ 1000000) : (tr42 l s ps).wp (fun rs => rsEqv rs (resP2 (M.checkWhole l s ps))) := by
  unfold tr42
  simp only [Enc.list_F, list_whole]
  have hl6 : l.length ≤ 1000000 := by omega
  iterate 6 refine ⟨by first | exact Enc.is_F _ _ _ | assumption | exact Nat.le_refl _ | decide, ?_⟩
  refine wp_br (fun hb => ?_) (fun hb => ?_)
  · have hb : (M.wholeErrS l s ps != 0) = true := hb
    have : M.checkWhole l s ps = (0, M.wholeErrS l s ps) := by unfold M.checkWhole; rw [hb]; rfl
    rw [this]; exact rsEqv_refl _
  have hb : (M.wholeErrS l s ps != 0) = false := hb
  have hb0 : M.wholeErrS l s ps = 0 := by simpa using hb
  have hz := first_nil _ (show M.first [(M.checkCasks l).2, M.checkSample s, M.listErr l.length ps] = 0 from hb0)
  have hr := casks_ten (hz (M.checkCasks l).2 (by simp))
  have hli := listErr_in (hz (M.listErr l.length ps) (by simp))
  have hin : ∀ i, i < ps.length → 0 ≤ ps.getD i 0 ∧ ps.getD i 0 < (l.length : Int) := fun i hi => (hli.2 i hi).1
  have hc := (sumW (ps := ps) hr (of := Cask.cost) fun i hi => by have := (hr.rc i hi).cost; omega).2
  have hW := whole_len l ps
  have h10 := hr.n10
  have g1 : (M.wholeP l ps).length ≤ l.length := by omega
  have g2 : (M.wholeP l ps).length ≤ 1000 := by omega
  have g3 : l.length ≤ 1000 := by omega
  have e0 : M.checkWhole l s ps = M.wholeR l s ps := by unfold M.checkWhole; rw [hb]; rfl
  rw [e0]
  iterate 9 refine ⟨by first | exact Enc.is_F _ _ _ | assumption | exact Nat.le_refl _ | decide, ?_⟩
  refine wp_br (fun hc => ?_) (fun hc => ?_)
  · have : M.wholeR l s ps = (0, M.meets l (M.wholeP l ps) s) := by unfold M.wholeR; rw [hc]; rfl
    rw [this]; exact rsEqv_refl _
  have : M.wholeR l s ps = (M.sumP Cask.cost l (M.wholeP l ps), 0) := by unfold M.wholeR; rw [hc]; rfl
  rw [this]
  have g4 : (M.sumP Cask.cost l (M.wholeP l ps)).natAbs < 9223372036854775808 := by omega
  iterate 7 refine ⟨by first | exact Enc.is_F _ _ _ | assumption | exact Nat.le_refl _ | decide, ?_⟩
  show rsEqv [rI (M.told1 (M.sumP Cask.cost l (M.wholeP l ps)) 1), rI 0] _
  rw [told_one]; exact rsEqv_refl _
theorem kinds {l' : List Cask} (h : RightT l') {ps : List Int} (k : Int) (hk : k = 0 ∨ k = 1 ∨ k = 2 ∨ k = 3) : M.valL l' (M.wholeP l' ps) (M.kOf k) 0 = M.sumP (M.kOf k) l' (M.wholeP l' ps) ∧ 0 ≤ M.sumP (M.kOf k) l' (M.wholeP l' ps) ∧ M.sumP (M.kOf k) l' (M.wholeP l' ps) ≤ 100000000 := by
  refine val0W h fun i hi => ?_
  have := h.rc i hi
  rcases hk with rfl | rfl | rfl | rfl
  · exact this.k0
  · exact this.k1
  · exact this.k2
  · exact this.k3
theorem quo (n V : Int) (h0 : 0 ≤ n) (h1 : n ≤ 100000000) (hV : 0 < V) (hV1 : V ≤ 100000000) : IntKind.i64.wrap (n.tdiv V) = n / V ∧ IntKind.i64.wrap ((IntKind.i64.wrap (IntKind.i64.wrap (n + V) - 1)).tdiv V) = -((-n) / V) := by
  rw [wrap_id (n := n + V) (by omega) (by omega), wrap_id (n := n + V - 1) (by omega) (by omega), Int.tdiv_eq_ediv_of_nonneg h0, Int.tdiv_eq_ediv_of_nonneg (by omega), ← ceil_up hV]
  have a := Int.natAbs_ediv_le_natAbs n V
  have b := Int.natAbs_ediv_le_natAbs (n + V - 1) V
  exact ⟨wrap_id (by omega) (by omega), wrap_id (by omega) (by omega)⟩
def dom42 : DomF
  | [.c (.sl _ n_l st_l F_l), .agg [.int .i64 sv, .int .i64 l0, .int .i64 h0, .int .i64 l1, .int .i64 h1, .int .i64 l2, .int .i64 h2, .int .i64 l3, .int .i64 h3], .c (.sl _ n_ps st_ps F_ps)] => (match Nat.beq st_l 7 && Nat.beq st_ps 1 with
    | true => some ([eC.Is n_l F_l, eI.Is n_ps F_ps, ∀ c, c ∈ (eC.list n_l F_l) → c.nm.size ≤ 1000000, (eC.list n_l F_l).length ≤ 100000, (eI.list n_ps F_ps).length ≤ 1000000], resP2 (M.checkWhole (eC.list n_l F_l) (⟨sv, ⟨l0, h0⟩, ⟨l1, h1⟩, ⟨l2, h2⟩, ⟨l3, h3⟩⟩ : Sample) (eI.list n_ps F_ps)))
    | _ => none)
  | _ => none
def v42 : Nat × Sm := (42, fokSm dom42)
theorem C42 : FOK Try.prog G0 gw 42 dom42 := by
  intro ags p r hd hp κ w xs hw hl hG hx
  unfold dom42 at hd
  split at hd
  · rename_i q_l n_l st_l F_l sv l0 h0 l1 h1 l2 h2 l3 h3 q_ps n_ps st_ps F_ps
    split at hd
    · rename_i hst
      simp only [Bool.and_eq_true] at hst
      obtain ⟨g1, g2⟩ := hst
      have g1 := Nat.eq_of_beq_eq_true g1
      have g2 := Nat.eq_of_beq_eq_true g2
      subst g1 g2
      simp only [Option.some.injEq, Prod.mk.injEq] at hd
      obtain ⟨rfl, rfl⟩ := hd
      obtain ⟨hI_l, hI_ps, hp⟩ := hp
      have heq : agsEqv [.c (.sl q_l n_l 7 F_l), .agg [.int .i64 sv, .int .i64 l0, .int .i64 h0, .int .i64 l1, .int .i64 h1, .int .i64 l2, .int .i64 h2, .int .i64 l3, .int .i64 h3], .c (.sl q_ps n_ps 1 F_ps)] [.c (.sl q_l (eC.list n_l F_l).length 7 (eC.F (eC.list n_l F_l))), .agg [.int .i64 sv, .int .i64 l0, .int .i64 h0, .int .i64 l1, .int .i64 h1, .int .i64 l2, .int .i64 h2, .int .i64 l3, .int .i64 h3], .c (.sl q_ps (eI.list n_ps F_ps).length 1 (eI.F (eI.list n_ps F_ps)))] := ⟨eC.to id hI_l, Ag.eqv_refl _, eI.to id hI_ps, trivial⟩
      have len_l : (eC.list n_l F_l).length = n_l := eC.list_len
      have len_ps : (eI.list n_ps F_ps).length = n_ps := eI.list_len
      generalize eC.list n_l F_l = l at *
      generalize eI.list n_ps F_ps = ps at *
      subst len_l len_ps
      exact fokX_fin mixed gw_stable (sl := [v47, v49, v96, v64, v90, v91, v68]) ⟨S47, S49, S96, S64, S90, S91, S68, trivial⟩ Try.func42 hw hl hG hx heq rfl (t42 q_l l sv l0 h0 l1 h1 l2 h2 l3 h3 q_ps ps) (w42 l _ ps hp.1 hp.2.1 hp.2.2.1)
    · cases hd
  · cases hd
theorem S42 : SumOK Try.prog G0 gw 42 (fokSm dom42) := fok_sum Try.func42 rfl C42
end Go.Bl
end

section
set_option linter.unusedVariables false
set_option linter.unusedSimpArgs false
set_option maxRecDepth 100000
namespace Go.Bl
open Go.V Go.Proofs
end Go.Bl
end

section
set_option linter.unusedVariables false
set_option linter.unusedSimpArgs false
set_option maxRecDepth 100000
namespace Go.Bl
open Go.V Go.Proofs
def sX (x : Int × Int × Int × Int × Int × Int × Int × Int × Int × Int × PUnit) : Sample := ⟨(Prod.fst (Prod.snd x)), ⟨(Prod.fst (Prod.snd (Prod.snd x))), (Prod.fst (Prod.snd (Prod.snd (Prod.snd x))))⟩, ⟨(Prod.fst (Prod.snd (Prod.snd (Prod.snd (Prod.snd x))))), (Prod.fst (Prod.snd (Prod.snd (Prod.snd (Prod.snd (Prod.snd x))))))⟩, ⟨(Prod.fst (Prod.snd (Prod.snd (Prod.snd (Prod.snd (Prod.snd (Prod.snd x))))))), (Prod.fst (Prod.snd (Prod.snd (Prod.snd (Prod.snd (Prod.snd (Prod.snd (Prod.snd x))))))))⟩, ⟨(Prod.fst (Prod.snd (Prod.snd (Prod.snd (Prod.snd (Prod.snd (Prod.snd (Prod.snd (Prod.snd x))))))))), (Prod.fst (Prod.snd (Prod.snd (Prod.snd (Prod.snd (Prod.snd (Prod.snd (Prod.snd (Prod.snd (Prod.snd x))))))))))⟩⟩
abbrev St10 : Type := Int × Int × Int × Int × Int × Int × Int × Int × Int × Int × PUnit
def trF10 (l : List Cask) (v : Sample) (ps : List Int) : T (St10 ⊕ List Ar) :=
    T.br (M.checkSample v != (0 : Int)) (T.ret (Sum.inr [Ar.c (D.bool true)])) (T.need (Enc.Is eC (List.length l) (Enc.F eC l)) (T.need (List.length (Enc.list eC (List.length l) (Enc.F eC l)) ≤ (1000000 : Nat)) (T.need (Enc.Is eI (List.length ps) (Enc.F eI ps)) (T.need (List.length (Enc.list eI (List.length ps) (Enc.F eI ps)) ≤ (1000000 : Nat)) (T.need (Enc.Is eC (List.length l) (Enc.F eC (Enc.list eC (List.length l) (Enc.F eC l)))) (T.need (Enc.Is eI (List.length ps) (Enc.F eI (Enc.list eI (List.length ps) (Enc.F eI ps)))) (T.need (∀ (c : Cask), c ∈ Enc.list eC (List.length l) (Enc.F eC (Enc.list eC (List.length l) (Enc.F eC l))) → ByteArray.size (Cask.nm c) ≤ (1000000 : Nat)) (T.need (List.length (Enc.list eC (List.length l) (Enc.F eC (Enc.list eC (List.length l) (Enc.F eC l)))) ≤ (100000 : Nat)) (T.need (List.length (Enc.list eI (List.length ps) (Enc.F eI (Enc.list eI (List.length ps) (Enc.F eI ps)))) ≤ (1000000 : Nat)) (T.br (Prod.snd (M.checkWhole (Enc.list eC (List.length l) (Enc.F eC (Enc.list eC (List.length l) (Enc.F eC l)))) v (Enc.list eI (List.length ps) (Enc.F eI (Enc.list eI (List.length ps) (Enc.F eI ps))))) != (0 : Int)) (T.ret (Sum.inr [Ar.c (D.bool (Prod.snd (M.checkWhole (Enc.list eC (List.length l) (Enc.F eC (Enc.list eC (List.length l) (Enc.F eC l)))) v (Enc.list eI (List.length ps) (Enc.F eI (Enc.list eI (List.length ps) (Enc.F eI ps))))) == (13 : Int)))])) (T.need (Enc.Is eC (List.length l) (Enc.F eC l)) (T.need (List.length (Enc.list eC (List.length l) (Enc.F eC l)) ≤ (1000000 : Nat)) (T.need (Enc.Is eC (List.length l) (Enc.F eC (Enc.list eC (List.length l) (Enc.F eC l)))) (T.need (∀ (c : Cask), c ∈ Enc.list eC (List.length l) (Enc.F eC (Enc.list eC (List.length l) (Enc.F eC l))) → ByteArray.size (Cask.nm c) ≤ (1000000 : Nat)) (T.br ((M.best (Enc.list eC (List.length l) (Enc.F eC (Enc.list eC (List.length l) (Enc.F eC l)))) v).6 == (0 : Int)) (T.br (decide ((M.best (Enc.list eC (List.length l) (Enc.F eC (Enc.list eC (List.length l) (Enc.F eC l)))) v).2 > (0 : Int))) (T.need ((0 : Int) < (M.best (Enc.list eC (List.length l) (Enc.F eC (Enc.list eC (List.length l) (Enc.F eC l)))) v).2) (T.need ((0 : Int) < (1 : Int)) (T.need (Int.natAbs (BestR.c0 (M.best (Enc.list eC (List.length l) (Enc.F eC (Enc.list eC (List.length l) (Enc.F eC l)))) v)) < (9223372036854775808 : Nat)) (T.need (Int.natAbs (BestR.c1 (M.best (Enc.list eC (List.length l) (Enc.F eC (Enc.list eC (List.length l) (Enc.F eC l)))) v)) < (9223372036854775808 : Nat)) (T.need (Int.natAbs (Prod.fst (M.checkWhole (Enc.list eC (List.length l) (Enc.F eC (Enc.list eC (List.length l) (Enc.F eC l)))) v (Enc.list eI (List.length ps) (Enc.F eI (Enc.list eI (List.length ps) (Enc.F eI ps)))))) < (9223372036854775808 : Nat)) (T.need ((1 : Nat) < (9223372036854775808 : Nat)) (T.ret (Sum.inr [Ar.c (D.bool (decide (M.cmp (M.best (Enc.list eC (List.length l) (Enc.F eC (Enc.list eC (List.length l) (Enc.F eC l)))) v).1 (M.best (Enc.list eC (List.length l) (Enc.F eC (Enc.list eC (List.length l) (Enc.F eC l)))) v).2 (Prod.fst (M.checkWhole (Enc.list eC (List.length l) (Enc.F eC (Enc.list eC (List.length l) (Enc.F eC l)))) v (Enc.list eI (List.length ps) (Enc.F eI (Enc.list eI (List.length ps) (Enc.F eI ps)))))) (1 : Int) ≤ (0 : Int))))])))))))) (T.ret (Sum.inr [Ar.c (D.bool false)]))) (T.ret (Sum.inr [Ar.c (D.bool false)])))))))))))))))))
def tr10 (l : List Cask) (s : Sample) (ps : List Int) : T (List Ar) :=
    T.br (!true) (T.ret [Ar.c (D.bool false)]) (T.need (Enc.Is eC (List.length l) (Enc.F eC l)) (T.br (!M.someN (4 : Nat) (Enc.list eC (List.length l) (Enc.F eC l))) (T.ret [Ar.c (D.bool true)]) (T.need (Enc.Is eC (List.length l) (Enc.F eC l)) (T.need (∀ (c : Cask), c ∈ Enc.list eC (List.length l) (Enc.F eC l) → ByteArray.size (Cask.nm c) ≤ (1000000 : Nat)) (T.br (M.casksErr (Enc.list eC (List.length l) (Enc.F eC l)) != (0 : Int)) (T.ret [Ar.c (D.bool true)]) (T.br (decide ((Nat.cast (R := Int) (List.length ps)) > (4 : Int))) (T.ret [Ar.c (D.bool true)]) (T.need (Enc.Is eC (List.length l) (Enc.F eC l)) (T.need (Enc.Is eI (List.length ps) (Enc.F eI ps)) (T.need (List.length (Enc.list eC (List.length l) (Enc.F eC l)) ≤ (1000000 : Nat)) (T.need (List.length (Enc.list eI (List.length ps) (Enc.F eI ps)) ≤ (1000000 : Nat)) (T.br (M.listErr (List.length (Enc.list eC (List.length l) (Enc.F eC l))) (Enc.list eI (List.length ps) (Enc.F eI ps)) != (0 : Int)) (T.ret [Ar.c (D.bool true)]) (T.loop (Int × Int × Int × Int × Int × Int × Int × Int × Int × Int × PUnit) ((0 : Int), (0 : Int), s.r0.lo, s.r0.hi, s.r1.lo, s.r1.hi, s.r2.lo, s.r2.hi, s.r3.lo, s.r3.hi, PUnit.unit) fun (x : Int × Int × Int × Int × Int × Int × Int × Int × Int × Int × PUnit) => T.br (decide (Prod.fst x < (Nat.cast (R := Int) (List.length ps)))) (T.need ((0 : Int) ≤ Prod.fst x) (T.need (Prod.fst x < (Nat.cast (R := Int) (List.length ps))) (T.need ((0 : Int) ≤ List.getD ps (Int.toNat (Prod.fst x)) (0 : Int)) (T.need (List.getD ps (Int.toNat (Prod.fst x)) (0 : Int) < (Nat.cast (R := Int) (List.length l))) (T.ret (Sum.inl (IntKind.wrap IntKind.i64 (Prod.fst x + (1 : Int)), IntKind.wrap IntKind.i64 (Prod.fst (Prod.snd x) + (List.getD l (Int.toNat (List.getD ps (Int.toNat (Prod.fst x)) (Enc.dflt eI))) (Enc.dflt eC)).2), Prod.fst (Prod.snd (Prod.snd x)), Prod.fst (Prod.snd (Prod.snd (Prod.snd x))), Prod.fst (Prod.snd (Prod.snd (Prod.snd (Prod.snd x)))), Prod.fst (Prod.snd (Prod.snd (Prod.snd (Prod.snd (Prod.snd x))))), Prod.fst (Prod.snd (Prod.snd (Prod.snd (Prod.snd (Prod.snd (Prod.snd x)))))), Prod.fst (Prod.snd (Prod.snd (Prod.snd (Prod.snd (Prod.snd (Prod.snd (Prod.snd x))))))), Prod.fst (Prod.snd (Prod.snd (Prod.snd (Prod.snd (Prod.snd (Prod.snd (Prod.snd (Prod.snd x)))))))), Prod.fst (Prod.snd (Prod.snd (Prod.snd (Prod.snd (Prod.snd (Prod.snd (Prod.snd (Prod.snd (Prod.snd x))))))))), PUnit.unit))))))) (trF10 l (sX x) ps)))))))))))))
theorem t10 (q_l : Bool) (l : List Cask) (sv l0 h0 l1 h1 l2 h2 l3 h3 : Int) (q_ps : Bool) (ps : List Int) : runFnX Try.prog G0 (lookS [v18, v19, v21, v41, v46, v43, v32, v42, v20f, v39]) (fun _ => [(7, [.slot 7 (.int .i64), .blk 4 [.int .i64, .int .i64, .int .i64, .int .i64, .int .i64, .int .i64, .int .i64, .int .i64, .int .i64]], none)]) [] 1 20 3 10 Try.f10 [.c (.sl q_l l.length 7 (eC.F l)), .agg [dI sv, dI l0, dI h0, dI l1, dI h1, dI l2, dI h2, dI l3, dI h3], .c (.sl q_ps ps.length 1 (eI.F ps))] =
    tr10 l (⟨sv, ⟨l0, h0⟩, ⟨l1, h1⟩, ⟨l2, h2⟩, ⟨l3, h3⟩⟩ : Sample) ps := by kernel_rfl
open Go.Lp
def volAt (l : List Cask) (ps : List Int) (k : Nat) : Int := (List.range k).foldl (fun a i => IntKind.i64.wrap (a + (l.getD (ps.getD i 0).toNat dfC).vol)) 0
theorem volAt_succ (l : List Cask) (ps : List Int) (k : Nat) : volAt l ps (k + 1) = IntKind.i64.wrap (volAt l ps k + (l.getD (ps.getD k 0).toNat dfC).vol) := by unfold volAt; rw [foldl_succ]
def volSum (l : List Cask) (ps : List Int) : Int := smI (fun i => (M.wholeP l ps).getD i 0) (List.range l.length)
theorem casks_two {l : List Cask} (h : M.casksErr l = 0) : (M.checkCasks l).2 = 0 := by
  unfold M.casksErr at h
  exact first_nil _ h _ (List.mem_cons_self ..)
theorem list_mono {n : Nat} {ps : List Int} (hp : M.listErr n ps = 0) : ∀ i j, i < j → j < ps.length → ps.getD i 0 < ps.getD j 0 := by
  obtain ⟨_, h⟩ := listErr_in hp
  intro i j
  induction j with
  | zero => intro h; omega
  | succ j ih =>
    intro hij hj
    have := (h (j + 1) hj).2 (by omega)
    rw [Nat.add_sub_cancel] at this
    by_cases e : i = j
    · subst e; exact this
    · have := ih (by omega) (by omega); omega
theorem vol_sum {l : List Cask} {ps : List Int} (hr : RightT l) (hp : M.listErr l.length ps = 0) (h4 : ps.length ≤ 10) : volAt l ps ps.length = volSum l ps := by
  obtain ⟨_, hin⟩ := listErr_in hp
  have hm := list_mono hp
  have key : ∀ k, k ≤ ps.length → volAt l ps k = smI (fun i => (M.wholeP l (ps.take k)).getD i 0) (List.range l.length) ∧ 0 ≤ volAt l ps k ∧ volAt l ps k ≤ k * 10000 := by
    intro k
    induction k with
    | zero =>
      intro _
      refine ⟨?_, Int.le_refl _, by show (0 : Int) ≤ _; simp⟩
      show (0 : Int) = _
      rw [smI_congr (h := fun _ => 0) (fun i hi => by rw [whole_get (List.mem_range.1 hi), List.take_zero]; rfl), smI_zero]
    | succ k ih =>
      intro hk
      obtain ⟨h1, h2, h3⟩ := ih (by omega)
      have hr1 := (hin k (by omega)).1
      obtain ⟨m, hmk⟩ : ∃ m : Nat, ps.getD k 0 = m := ⟨(ps.getD k 0).toNat, by omega⟩
      have hml : m < l.length := by omega
      have hvm := (hr.rc m hml).vol
      have e : (ps.getD k 0).toNat = m := by omega
      have hno : M.has (ps.take k) (m : Int) = false := by
        rw [Bool.eq_false_iff]; intro hh
        obtain ⟨x, hx, hxe⟩ := List.any_eq_true.1 hh
        have hxe := eq_of_beq hxe
        obtain ⟨j, hj, rfl⟩ := List.getElem_of_mem hx
        have hjk : j < k := by rw [List.length_take] at hj; omega
        have := hm j k hjk (by omega)
        rw [List.getElem_take] at hxe
        rw [List.getD_eq_getElem?_getD, List.getElem?_eq_getElem (by omega)] at this
        have : ps[j] < ps.getD k 0 := this
        omega
      rw [volAt_succ, e, h1]
      have e2 : smI (fun i => (M.wholeP l (ps.take (k + 1))).getD i 0) (List.range l.length) = smI (fun i => (M.wholeP l (ps.take k)).getD i 0) (List.range l.length) + (l.getD m dfC).vol := by
        rw [smI_congr (h := fun i => (M.wholeP l (ps.take k)).getD i 0 + if i = m then (l.getD m dfC).vol else 0) (fun i hi => by
          have hi := List.mem_range.1 hi
          rw [whole_get hi, whole_get hi, has_take (by omega), hmk]
          by_cases e3 : i = m
          · subst e3; rw [hno]; simp
          · rw [if_neg e3, show ((m : Int) == (i : Int)) = false from beq_of_ne (by omega), Bool.or_false]; omega), smI_if, if_pos hml]
      rw [← h1] at e2 ⊢
      rw [e2]
      have hw : IntKind.i64.wrap (volAt l ps k + (l.getD m dfC).vol) = volAt l ps k + (l.getD m dfC).vol := wrap_id (by omega) (by omega)
      rw [hw]
      refine ⟨rfl, by omega, ?_⟩
      have : ((k + 1 : Nat) : Int) * 10000 = (k : Int) * 10000 + 10000 := by omega
      omega
  have := (key ps.length (Nat.le_refl _)).1
  rw [List.take_of_length_le (Nat.le_refl _)] at this
  exact this
theorem parts_whole {l : List Cask} {v : Sample} {ps : List Int} (hc : M.casksErr l = 0) (hls : M.listErr l.length ps = 0) (hs : M.checkSample v = 0) (hv : v.vol = volSum l ps) :
    ((M.checkWhole l v ps).2 ≠ 0 → (M.checkWhole l v ps).2 = 13) ∧ ((M.checkWhole l v ps).2 = 0 → (M.best l v).e = 0 ∧ (M.best l v).c1 > 0 ∧ (M.best l v).c0.natAbs < 9223372036854775808 ∧ (M.best l v).c1.natAbs < 9223372036854775808 ∧ (M.checkWhole l v ps).1.natAbs < 9223372036854775808 ∧
      M.cmp (M.best l v).c0 (M.best l v).c1 (M.checkWhole l v ps).1 1 ≤ 0) := by
  have hck := casks_two hc
  have ht : M.taskErr l v = 0 := by unfold M.taskErr; rw [hc, hs]; rfl
  have h := task_right ht
  have hr := casks_ten hck
  have hE : M.wholeErrS l v ps = 0 := by unfold M.wholeErrS; rw [hck, hs, hls]; rfl
  have ew : M.checkWhole l v ps = M.wholeR l v ps := by unfold M.checkWhole; rw [hE]; rfl
  obtain ⟨u1, u2, u3⟩ := volW (ps := ps) hr
  have hV : M.sumP (fun _ => 1) l (M.wholeP l ps) = v.vol := by rw [u1, hv]; unfold volSum; rw [smI_dot]
  have hM : M.meets l (M.wholeP l ps) v = M.unl (decide (M.away l (M.wholeP l ps) v ≤ 0)) 13 := by
    unfold M.meets
    rw [hV, decide_eq_true (Int.le_refl _)]
    show M.first [0, M.unl (decide (M.away l (M.wholeP l ps) v ≤ 0)) 13] = _
    rw [first_cons, if_pos rfl, first_cons]
    split
    · rename_i e; rw [e]; rfl
    · rfl
  rw [ew]
  by_cases ha : M.away l (M.wholeP l ps) v ≤ 0
  · rw [decide_eq_true ha] at hM
    have hM : M.meets l (M.wholeP l ps) v = 0 := hM
    have eR : M.wholeR l v ps = (M.sumP Cask.cost l (M.wholeP l ps), 0) := by unfold M.wholeR; rw [hM]; rfl
    rw [eR]
    refine ⟨fun e => absurd rfl e, fun _ => ?_⟩
    have hP : RightP l 1 (M.wholeP l ps) := ⟨whole_len l ps, by decide, fun i hi => by have := whole_b (ps := ps) hr hi; omega⟩
    have hO : OpenR l v 1 (M.wholeP l ps) := ⟨h.n4, h.rc, hP, by rw [hV]; have := h.v; omega, ⟨h.lo 0 (by decide), h.hi 0 (by decide)⟩, ⟨h.lo 1 (by decide), h.hi 1 (by decide)⟩, ⟨h.lo 2 (by decide), h.hi 2 (by decide)⟩, ⟨h.lo 3 (by decide), h.hi 3 (by decide)⟩⟩
    obtain ⟨_, hk⟩ := (away_le h hO).1 ha
    have hB : Blend l v (M.wholeP l ps) 1 0 := by
      refine ⟨by decide, fun i hi => (whole_b hr hi).1, fun i hi => ?_, ?_, fun k hk' => (hk k hk').1, fun k hk' => (hk k hk').2⟩
      · show (M.wholeP l ps).getD i 0 ≤ _
        rw [whole_get hi]
        have := (hr.rc i hi).vol
        split <;> omega
      · rw [hv, Int.mul_one]; rfl
    have hcost := sum_cost h hP
    have hcb := (sumW (ps := ps) hr (of := Cask.cost) fun i hi => by have := (hr.rc i hi).cost; omega).2
    rcases best_cases ht with ⟨x, hx, ex⟩ | ⟨hno, _⟩
    · rw [ex, bestC_eq h hx]
      have q := told_ok (n := cost l x.pt) hx.b.dp
      have i1 := best_i64 h hx
      refine ⟨rfl, told_pos hx.b.dp, Nat.lt_of_le_of_lt q.1 i1.1, Nat.lt_of_le_of_lt q.2 i1.2, by show (M.sumP Cask.cost l (M.wholeP l ps)).natAbs < _; omega, ?_⟩
      show M.cmp (M.told1 (cost l x.pt) x.den) (M.told2 (cost l x.pt) x.den) (M.sumP Cask.cost l (M.wholeP l ps)) 1 ≤ 0
      obtain ⟨g, g0, g1, g2⟩ := told_spec (n := cost l x.pt) hx.b.dp
      rw [← cmp_scale (g := g) (h := 1) g0 (by decide), g1, g2, Int.mul_one, Int.mul_one, hcost]
      exact cmp_le (best_le hx hB)
    · exact absurd hB (hno _ _)
  · rw [decide_eq_false ha] at hM
    have hM : M.meets l (M.wholeP l ps) v = 13 := hM
    have eR : M.wholeR l v ps = (0, 13) := by unfold M.wholeR; rw [hM]; rfl
    rw [eR]
    exact ⟨fun _ => rfl, fun e => absurd (show (13 : Int) = 0 from e) (by decide)⟩
theorem wF10 (l : List Cask) (v : Sample) (ps : List Int) {Q : St10 ⊕ List Ar → Prop} (hQ : Q (.inr [rB true])) (hn : ∀ c, c ∈ l → c.nm.size ≤ 1000000) (hl : l.length ≤ 100000) (hp : ps.length ≤ 1000000) (hc : M.casksErr l = 0) (hls : M.listErr l.length ps = 0) (hv : v.vol = volSum l ps) : (trF10 l v ps).wp Q := by
  unfold trF10
  simp only [Enc.list_F]
  have hl6 : l.length ≤ 1000000 := by omega
  refine wp_br (fun _ => hQ) (fun hs => ?_)
  have hs : M.checkSample v = 0 := by simpa using hs
  obtain ⟨k1, k2⟩ := parts_whole hc hls hs hv
  generalize M.best l v = B at *
  generalize M.checkWhole l v ps = C at *
  obtain ⟨c1, c2⟩ := C
  simp only at k1 k2
  iterate 9 refine ⟨by first | exact Enc.is_F _ _ _ | assumption | exact Nat.le_refl _ | decide, ?_⟩
  refine wp_br (fun hb => ?_) (fun hb => ?_)
  · show Q (.inr [rB (c2 == 13)])
    rw [k1 (by simpa using hb)]; exact hQ
  obtain ⟨q0, q1, q2, q3, q4, q5⟩ := k2 (by simpa using hb)
  iterate 4 refine ⟨by first | exact Enc.is_F _ _ _ | assumption | exact Nat.le_refl _ | decide, ?_⟩
  refine wp_br (fun _ => wp_br (fun _ => ⟨q1, by decide, q2, q3, q4, by decide, ?_⟩) (fun e => absurd q1 (of_decide_eq_false e))) (fun e => by rw [q0] at e; exact absurd e (by decide))
  show Q (.inr [rB (decide (M.cmp B.c0 B.c1 c1 1 ≤ 0))])
  rw [decide_eq_true q5]; exact hQ
theorem w10 (l : List Cask) (s : Sample) (ps : List Int) : (tr10 l s ps).wp (fun rs => rsEqv rs [rB true]) := by
  unfold tr10
  simp only [Enc.list_F]
  refine wp_br (fun hb => absurd hb (by decide)) (fun _ => ⟨Enc.is_F _ _ _, wp_br (fun _ => rsEqv_refl _) (fun hb => ?_)⟩)
  have hs : M.someN 4 l = true := by simpa using hb
  obtain ⟨hl, hn⟩ := someN_small hs
  have hn' : ∀ c, c ∈ l → c.nm.size ≤ 1000000 := fun c hc => Nat.le_trans (hn c hc) (by decide)
  have hl' : l.length ≤ 1000000 := by omega
  have hl5 : l.length ≤ 100000 := by omega
  iterate 2 refine ⟨by first | exact Enc.is_F _ _ _ | assumption | exact Nat.le_refl _ | decide, ?_⟩
  refine wp_br (fun _ => rsEqv_refl _) (fun hc => wp_br (fun _ => rsEqv_refl _) (fun h4 => ?_))
  have hc : M.casksErr l = 0 := by simpa using hc
  have h4 : ¬ (ps.length : Int) > 4 := of_decide_eq_false h4
  have hp : ps.length ≤ 1000000 := by omega
  iterate 4 refine ⟨by first | exact Enc.is_F _ _ _ | assumption | exact Nat.le_refl _ | decide, ?_⟩
  refine wp_br (fun _ => rsEqv_refl _) (fun hls => ?_)
  have hls : M.listErr l.length ps = 0 := by simpa using hls
  obtain ⟨_, hin⟩ := listErr_in hls
  refine range_wp (n := ps.length) (fun k x => x = (volAt l ps k, s.r0.lo, s.r0.hi, s.r1.lo, s.r1.hi, s.r2.lo, s.r2.hi, s.r3.lo, s.r3.hi, PUnit.unit)) rfl ?_
  rintro k x hk hI
  subst hI
  refine ⟨fun hb => ?_, fun hb => ?_⟩
  · have hlt := lt_of_dec hb
    have hr := (hin k hlt).1
    refine ⟨by show (0 : Int) ≤ k; omega, by show (k : Int) < ps.length; omega, hr.1, hr.2, hlt, wrap_succ (k := k) (by omega), ?_⟩
    rw [volAt_succ]; rfl
  · have hge := ge_of_dec hb
    obtain rfl : k = ps.length := by omega
    exact wF10 l _ ps (rsEqv_refl _) hn' hl5 hp hc hls (vol_sum (casks_ten (casks_two hc)) hls (by omega))
def dom10 : DomF
  | [.c (.sl _ n_l st_l F_l), .agg [.int .i64 sv, .int .i64 l0, .int .i64 h0, .int .i64 l1, .int .i64 h1, .int .i64 l2, .int .i64 h2, .int .i64 l3, .int .i64 h3], .c (.sl _ n_ps st_ps F_ps)] => (match Nat.beq st_l 7 && Nat.beq st_ps 1 with
    | true => some ([eC.Is n_l F_l, eI.Is n_ps F_ps], [rB true])
    | _ => none)
  | _ => none
theorem C10 : FOK Try.prog G0 gw 10 dom10 := by
  intro ags p r hd hp κ w xs hw hl hG hx
  unfold dom10 at hd
  split at hd
  · rename_i q_l n_l st_l F_l sv l0 h0 l1 h1 l2 h2 l3 h3 q_ps n_ps st_ps F_ps
    split at hd
    · rename_i hst
      simp only [Bool.and_eq_true] at hst
      obtain ⟨g1, g2⟩ := hst
      have g1 := Nat.eq_of_beq_eq_true g1
      have g2 := Nat.eq_of_beq_eq_true g2
      subst g1 g2
      simp only [Option.some.injEq, Prod.mk.injEq] at hd
      obtain ⟨rfl, rfl⟩ := hd
      obtain ⟨hI_l, hI_ps, hp⟩ := hp
      have heq : agsEqv [.c (.sl q_l n_l 7 F_l), .agg [.int .i64 sv, .int .i64 l0, .int .i64 h0, .int .i64 l1, .int .i64 h1, .int .i64 l2, .int .i64 h2, .int .i64 l3, .int .i64 h3], .c (.sl q_ps n_ps 1 F_ps)] [.c (.sl q_l (eC.list n_l F_l).length 7 (eC.F (eC.list n_l F_l))), .agg [.int .i64 sv, .int .i64 l0, .int .i64 h0, .int .i64 l1, .int .i64 h1, .int .i64 l2, .int .i64 h2, .int .i64 l3, .int .i64 h3], .c (.sl q_ps (eI.list n_ps F_ps).length 1 (eI.F (eI.list n_ps F_ps)))] := ⟨eC.to id hI_l, Ag.eqv_refl _, eI.to id hI_ps, trivial⟩
      have len_l : (eC.list n_l F_l).length = n_l := eC.list_len
      have len_ps : (eI.list n_ps F_ps).length = n_ps := eI.list_len
      generalize eC.list n_l F_l = l at *
      generalize eI.list n_ps F_ps = ps at *
      subst len_l len_ps
      exact fokX_fin mixed gw_stable (sl := [v18, v19, v21, v41, v46, v43, v32, v42, v20f, v39]) ⟨S18, S19, S21, S41, S46, S43, S32, S42, S20f, S39, trivial⟩ Try.func10 hw hl hG hx heq rfl (t10 q_l l sv l0 h0 l1 h1 l2 h2 l3 h3 q_ps ps) (w10 l _ ps)
    · cases hd
  · cases hd
end Go.Bl
end

section
set_option linter.unusedVariables false
set_option linter.unusedSimpArgs false
namespace Go.Rw
open Go Go.ChangeShapes Go.WideShapes Go.RowKit Go.ChangeAt
open Go.V (F2 D fullK fullK_cell f2_append f2_len f2_get)
section
variable {H : Type} {enc : TypeId × Value → H} {P : Program} {w : World} {base : Nat} {sp : Nat → Bool} {hd : Bool}
theorem trodAll_below (hl : laidOutB P = true) {W W' : World} (hb : Below W.heap.size W W') : ∀ {ts : List TypeId} {vs : List Value} {ds : List (DataW H)} {ps : List MemPlace},
    (∀ t ∈ ts, P.readableRec t = true ∧ t < P.types.size) → DataW.TrodAll enc P W 0 (fun _ => true) true ts vs ds ps → (∀ x ∈ ps, x.block < W.heap.size) →
    DataW.TrodAll enc P W' 0 (fun b => decide (b < W.heap.size)) true ts vs ds ps
  | [], _, _, _, _, h, _ => by
    obtain ⟨rfl, rfl, rfl⟩ := trodAll_nil h
    exact trodAll_mk0
  | t :: ts, _, _, _, hr, h, hlt => by
    obtain ⟨v, vs1, d, ds1, a, b, rfl, rfl, rfl, h1, h2⟩ := trodAll_cons h
    refine ⟨a, b, ?_, trodAll_below hl hb (fun u hu => hr u (List.mem_cons_of_mem _ hu)) h2 fun x hx => hlt x (List.mem_append_right _ hx), rfl⟩
    have ht := hr t (List.mem_cons_self ..)
    exact Below.trod hl ht.1 ht.2 h1 hb fun x hx => hlt x (List.mem_append_left _ hx)
theorem law_post {fn : Func} {s : ChangeSpec} {apart fresh handsOn : Bool} {W W' : World} {args : Array Value} {ds gs : List (DataW H)} {before : List MemPlace} {tb : TypeId} (hl : laidOutB P = true)
    (hr : ∀ t ∈ fn.params.toList, P.readableRec t = true ∧ t < P.types.size) (hv : s.vars = []) (hrt : fn.resultTypes = #[tb]) (hbool : P.underlying tb = some .bool)
    (hfn : s.fn H ds = { results := [.lit (.bool true)], args := ds })
    (hW : DataW.Whole enc P fn.params.toList s.vars apart W args.toList ds gs before) (hb : Below W.heap.size W W') : s.post enc P fn apart fresh handsOn false W args (.bool true) W' := by
  have hW' := hW
  obtain ⟨p, q, hA, hV, rfl, _, _⟩ := hW'
  have hlt : ∀ x ∈ p ++ q, x.block < W.heap.size := fun x hx => hW.lt x hx
  rw [hv] at hV
  have hgs : gs = [] ∧ q = [] := by
    cases gs with
    | nil => exact ⟨rfl, hV⟩
    | cons g r => exact absurd hV (by intro h; cases h)
  obtain ⟨rfl, rfl⟩ := hgs
  have e : s.fn H (ds ++ []) = { results := [.lit (.bool true)], args := ds } := by rw [List.append_nil]; exact hfn
  refine ⟨ds, [], _, [], p, [], hW, ?_, ?_, ?_, hb.frame _, fun h => by cases h⟩
  · rw [e, hrt]
    exact trodAll_mk1 (shut_bool hbool true)
  · rw [e]
    exact trodAll_below hl hb hr hA fun x hx => hlt x (List.mem_append_left _ hx)
  · rw [e, hv]
    rfl
end
end Go.Rw
end

section
set_option linter.unusedVariables false
set_option linter.unusedSimpArgs false
namespace Go.Rw
open Go Go.ChangeShapes Go.WideShapes Go.RowKit Go.ChangeAt
open Go.V (F2 D fullK fullK_cell f2_append f2_len f2_get)
inductive SK where
  | i
  | s
  | sl (sh : List SK)
inductive DG : SK → D → Prop where
  | i (n : Int) : DG .i (.int .i64 n)
  | s (t : ByteArray) : DG .s (.str t)
  | sl (sh : List SK) (len : Nat) (F : Nat → Nat → D) (h : ∀ i j k, i < len → sh[j]? = some k → DG k (F i j)) : DG (.sl sh) (.sl false len sh.length F)
def MG (w : World) (k : SK) (v : Value) : Prop := ∃ d, DG k d ∧ D.rel (fullK w) d v
def sgFs (P : Program) (g : TypeId → Option (List SK)) : List Field → Nat → Nat → Option (List SK)
  | [], o, c => (match Nat.beq o c with | true => some [] | false => none)
  | f :: fs, o, c => (match Nat.beq f.offset o, g f.type, sgFs P g fs (o + P.cellsOf f.type) c with
    | true, some a, some b => some (a ++ b)
    | _, _, _ => none)
def sgArr (l : List SK) : Nat → List SK
  | 0 => []
  | n + 1 => l ++ sgArr l n
def sg (P : Program) : Nat → TypeId → Option (List SK)
  | 0, _ => none
  | k + 1, t => match P.underlying t with
    | some (.int .i64) => some [.i]
    | some .string => some [.s]
    | some (.struct fs) => sgFs P (sg P k) fs.toList 0 (P.cellsOf t)
    | some (.array n e) => (match sg P k e, Nat.beq (P.cellsOf t) (n * P.cellsOf e) with | some l, true => some (sgArr l n) | _, _ => none)
    | some (.slice e) => (match sg P k e with | some sh => (match Nat.beq (P.cellsOf e) sh.length && Nat.blt 0 sh.length with | true => some [.sl sh] | false => none) | none => none)
    | _ => none
section
variable {H : Type} {enc : TypeId × Value → H} {P : Program} {w : World} {base : Nat} {sp : Nat → Bool} {hd : Bool}
theorem sgFs_spec {R : SK → Value → Prop} {g : TypeId → Option (List SK)} : ∀ (fs : List Field) (o c : Nat) (cs : List Value) {l : List SK}, sgFs P g fs o c = some l → cs.length = c →
    (∀ f ∈ fs, ∀ l', g f.type = some l' → F2 R l' ((cs.drop f.offset).take (P.cellsOf f.type))) → F2 R l (cs.drop o)
  | [], o, c, cs, l, h, hl, _ => by
    unfold sgFs at h
    split at h
    · rename_i hb
      have : o = c := Nat.eq_of_beq_eq_true hb
      simp only [Option.some.injEq] at h
      subst h
      rw [this, ← hl, List.drop_length]
      exact .nil
    · cases h
  | f :: fs, o, c, cs, l, h, hl, hf => by
    simp only [sgFs] at h
    split at h
    · rename_i a b hb ha hrest
      have ho : f.offset = o := Nat.eq_of_beq_eq_true hb
      simp only [Option.some.injEq] at h
      subst h
      have h1 := hf f (List.mem_cons_self ..) a ha
      have h2 := sgFs_spec fs _ c cs hrest hl fun g hg => hf g (List.mem_cons_of_mem _ hg)
      rw [ho] at h1
      have e : cs.drop o = (cs.drop o).take (P.cellsOf f.type) ++ (cs.drop o).drop (P.cellsOf f.type) := (List.take_append_drop _ _).symm
      rw [e, List.drop_drop]
      exact f2_append h1 h2
    · cases h
theorem sgArr_spec {R : SK → Value → Prop} {l : List SK} {c : Nat} : ∀ (n : Nat) (cs : List Value), cs.length = n * c → (∀ i, i < n → F2 R l ((cs.drop (i * c)).take c)) → F2 R (sgArr l n) cs
  | 0, cs, h, _ => by
    have : cs = [] := List.length_eq_zero_iff.1 (by simpa using h)
    subst this
    exact .nil
  | n + 1, cs, h, hf => by
    have h0 := hf 0 (by omega)
    rw [Nat.zero_mul, List.drop_zero] at h0
    have hr := sgArr_spec (c := c) n (cs.drop c) (by rw [List.length_drop, h, Nat.succ_mul]; omega) fun i hi => by
      have := hf (i + 1) (by omega)
      rw [List.drop_drop, show c + i * c = (i + 1) * c by rw [Nat.succ_mul]; omega]
      exact this
    rw [← List.take_append_drop c cs]
    exact f2_append h0 hr
theorem trod_sg : ∀ (k fuel : Nat) (t : TypeId) (cs : List Value) (x : DataW H × List MemPlace) {l : List SK}, sg P k t = some l → DataW.trod enc P w base sp hd fuel t cs = some x → F2 (MG w) l cs
  | 0, _, _, _, _, _, h, _ => by cases h
  | k + 1, fuel, t, cs, x, l, h, hx => by
    unfold sg at h
    split at h
    · rename_i ht
      simp only [Option.some.injEq] at h
      subst h
      obtain ⟨n, rfl, rfl, _⟩ := DataW.trod_int ht hx
      exact .cons ⟨.int .i64 n, .i n, rfl⟩ .nil
    · rename_i ht
      simp only [Option.some.injEq] at h
      subst h
      obtain ⟨s, rfl, rfl, _⟩ := DataW.trod_string ht hx
      exact .cons ⟨.str s, .s s, rfl⟩ .nil
    · rename_i fs ht
      obtain ⟨xs, n, _, rfl, hl, hlen, hf⟩ := DataW.trod_struct ht hx
      have := sgFs_spec (P := P) (R := MG w) fs.toList 0 (P.cellsOf t) cs h hl (by
        intro f hm l' hl'
        obtain ⟨i, hi, hi'⟩ := List.getElem_of_mem hm
        have hgi : fs[i]? = some f := by rw [← Array.getElem?_toList, List.getElem?_eq_getElem hi, hi']
        have hlt : i < xs.length := by rw [hlen]; exact (Array.getElem?_eq_some_iff.1 hgi).1
        have hy : xs[i]? = some xs[i] := List.getElem?_eq_getElem hlt
        have := hf i f hgi
        rw [hy] at this
        exact trod_sg k n f.type _ _ hl' this)
      simpa using this
    · rename_i n e ht
      split at h
      · rename_i l' hl' hcb
        simp only [Option.some.injEq] at h
        subst h
        obtain ⟨xs, m, _, ex, hlen, hl, hel⟩ := DataW.trod_array ht hx
        have hcz : P.cellsOf t = n * P.cellsOf e := Nat.eq_of_beq_eq_true hcb
        refine sgArr_spec (c := P.cellsOf e) n cs (by rw [← hcz]; exact hlen) fun i hi => ?_
        have hlt : i < xs.length := by omega
        have hy : xs[i]? = some xs[i] := List.getElem?_eq_getElem hlt
        have := hel i hi
        rw [hy] at this
        exact trod_sg k m e _ _ hl' this
      · cases h
    · rename_i e ht
      split at h
      · rename_i sh hsh
        split at h
        · rename_i hc
          simp only [Option.some.injEq] at h
          subst h
          rw [Bool.and_eq_true] at hc
          have hn : P.cellsOf e = sh.length := Nat.eq_of_beq_eq_true hc.1
          have hn0 : 0 < sh.length := Nat.le_of_ble_eq_true hc.2
          rcases DataW.trod_slice ht hx with ⟨h1, _⟩ | ⟨a, len0, cap0, elems, rest, n', _, h1, _, _, hlc, _, hel, hget, _⟩
          · rw [h1]
            exact .cons ⟨.sl false 0 sh.length (fun _ _ => .nilp), .sl sh 0 _ (fun i j k hi => by omega), .inl ⟨rfl, rfl, rfl⟩⟩ .nil
          · rw [h1]
            rw [hn] at hget
            have each : ∀ i, i < len0 → ∀ j, j < sh.length → ∃ d, (∀ k', sh[j]? = some k' → DG k' d) ∧ ∃ y, w.cell? ((a.add (i * sh.length)).add j) = some y ∧ D.rel (fullK w) d y := by
              intro i hi j hj
              have hg := hget i hi
              have hlt : i < elems.length := by omega
              rw [List.getElem?_eq_getElem hlt] at hg
              simp only [Option.bind_eq_some_iff] at hg
              obtain ⟨cs, hcs, hx⟩ := hg
              have hF := trod_sg k n' e cs _ hsh hx
              obtain ⟨_, hl, hcell⟩ := World.cells?_some hcs
              obtain ⟨y, hy, hm⟩ := f2_get hF (i := j) (List.getElem?_eq_getElem hj)
              obtain ⟨d, hd1, hd2⟩ := hm
              have hcj := hcell j hj
              exact ⟨d, fun k' hk' => by rw [List.getElem?_eq_getElem hj] at hk'; cases hk'; exact hd1, y, by rw [hcj, hy], hd2⟩
            have spot0 : 0 < len0 → a.spot = none := by
              intro hp
              obtain ⟨_, _, y, hy, _⟩ := each 0 hp 0 hn0
              have := World.cell?_spot hy
              simpa [Addr.add] using this
            refine .cons ⟨.sl false len0 sh.length (fun i j => if h : i < len0 ∧ j < sh.length then Classical.choose (each i h.1 j h.2) else .nilp), .sl sh len0 _ (fun i j k' hi hk' => ?_), .inr ⟨a, cap0, rfl, hlc, spot0, fun i j hi hj => ?_⟩⟩ .nil
            · have hj : j < sh.length := (List.getElem?_eq_some_iff.1 hk').1
              simp only [dif_pos (And.intro hi hj)]
              exact (Classical.choose_spec (each i hi j hj)).1 k' hk'
            · obtain ⟨_, y, hy, hr⟩ := Classical.choose_spec (each i hi j hj)
              have hp : a.spot = none := spot0 (by omega)
              have e1 : (a.add (i * sh.length)).add j = ⟨a.block, a.off + i * sh.length + j, none⟩ := by
                obtain ⟨b, off, spot⟩ := a
                simp only at hp
                subst hp
                rw [Go.WideShapes.add_plain, Go.WideShapes.add_plain]
              rw [e1] at hy
              refine ⟨_, fullK_cell hy, ?_⟩
              simp only [dif_pos (And.intro hi hj)]
              exact hr
        · cases h
      · cases h
    · cases h
theorem open_sl {r : Reach} {b0 : Nat} {t e : TypeId} {v : Value} {d : DataW H} {p : List MemPlace} (k : Nat) {sh : List SK} (ht : P.underlying t = some (.slice e)) (ha : sg P k t = some [.sl sh])
    (hv : Value.okWide P w r b0 t v) (h : DataW.Trod enc P w base sp hd t v d p) : MG w (.sl sh) v := by
  obtain ⟨a0, len0, cap0, rfl⟩ := okWide_slice ht hv
  obtain ⟨fuel, hf⟩ := h
  have hc : (Value.slice a0 len0 cap0).cells.toList = [Value.slice a0 len0 cap0] := rfl
  rw [hc] at hf
  have := trod_sg k fuel t _ _ ha hf
  cases this with
  | cons h _ => exact h
theorem open_st {r : Reach} {b0 : Nat} {t : TypeId} {fs : Array Field} {v : Value} {d : DataW H} {p : List MemPlace} (k : Nat) {l : List SK} (ht : P.underlying t = some (.struct fs)) (ha : sg P k t = some l)
    (hv : Value.okWide P w r b0 t v) (h : DataW.Trod enc P w base sp hd t v d p) : ∃ cs : List Value, F2 (MG w) l cs ∧ v = .agg cs.toArray := by
  obtain ⟨cs, rfl, hsz⟩ := okWide_struct ht hv
  obtain ⟨fuel, hf⟩ := h
  have hF : F2 (MG w) l cs.toList := trod_sg k fuel t _ _ ha hf
  exact ⟨cs.toList, hF, by rw [Array.toArray_toList]⟩
theorem mg_i {v : Value} (h : MG w .i v) : ∃ n, v = .int .i64 n := by
  obtain ⟨d, hd, hr⟩ := h
  cases hd with
  | i n => exact ⟨n, hr⟩
theorem mg_sl {sh : List SK} {v : Value} (h : MG w (.sl sh) v) : ∃ (len : Nat) (F : Nat → Nat → D), (D.sl false len sh.length F).rel (fullK w) v ∧ ∀ i j k, i < len → sh[j]? = some k → DG k (F i j) := by
  obtain ⟨d, hd, hr⟩ := h
  cases hd with
  | sl _ len F hF => exact ⟨len, F, hr, hF⟩
theorem dg_i {d : D} (h : DG .i d) : ∃ n, d = .int .i64 n := by cases h with | i n => exact ⟨n, rfl⟩
theorem dg_s {d : D} (h : DG .s d) : ∃ n, d = .str n := by cases h with | s n => exact ⟨n, rfl⟩
end
end Go.Rw
end
