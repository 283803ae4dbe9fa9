/- The parts of the engines, of their contracts and of the plain laws that the claim rests on: L7, B41, B42, B43, B44, B45, B46, B47, B48, L8, B49, R0, RG, L9, L10, B50, B51, B53, B52. -/
import Derived.Test.YtaigoebipeplpaaFA5
import Derived.ChangeSame
import Derived.ChangeVars
import Derived.ProofKit
import Derived.LaidMore
import Derived.OpenShut
import Derived.Carry
import Derived.ChangeArms
set_option linter.unusedVariables false
set_option linter.unusedSimpArgs false
section
set_option linter.unusedVariables false
set_option linter.unusedSimpArgs false
set_option maxRecDepth 100000
namespace Go.Bl
open Go.V Go.Proofs Go.Lp
section
variable {l : List Cask} {s : Sample} {x : M.Corner}
theorem costs_en {j : Nat} (hj : j < l.length) : en (M.costs l) j = (l.getD j dfC).cost := by
  unfold M.costs en
  rw [List.getD_eq_getElem?_getD, List.getElem?_map, List.getD_eq_getElem?_getD, List.getElem?_eq_getElem hj]; rfl
theorem far_en {j : Nat} (hj : j < l.length + 1) : en (M.far l) j = if j = l.length then 1 else 0 := by
  unfold M.far en
  by_cases h : j < l.length
  · rw [if_neg (by omega), List.getD_eq_getElem?_getD, List.getElem?_append_left (by simpa using h), List.getElem?_map, List.getElem?_eq_getElem h]; rfl
  · obtain rfl : j = l.length := by omega
    rw [if_pos rfl, List.getD_eq_getElem?_getD, List.getElem?_append_right (by simp)]; simp
def cost (l : List Cask) (pt : List Int) : Int := smI (fun j => (l.getD j dfC).cost * en pt j) (List.range l.length)
theorem Blend.congr {pt pt' : List Int} {den far : Int} (hb : Blend l s pt den far) (h : ∀ i, i < l.length → en pt' i = en pt i) : Blend l s pt' den far := by
  refine ⟨hb.dp, fun i hi => by rw [h i hi]; exact hb.p0 i hi, fun i hi => by rw [h i hi]; exact hb.p1 i hi, ?_, fun k hk => ?_, fun k hk => ?_⟩
  · rw [← hb.sum]; exact smI_congr fun i hi => h i (List.mem_range.1 hi)
  · rw [smI_congr fun i hi => by rw [h i (List.mem_range.1 hi)]]; exact hb.hi k hk
  · rw [smI_congr fun i hi => by rw [h i (List.mem_range.1 hi)]]; exact hb.lo k hk
theorem Blend.mono {pt : List Int} {den far far' : Int} (hb : Blend l s pt den far) (h : far ≤ far') : Blend l s pt den far' :=
  ⟨hb.dp, hb.p0, hb.p1, hb.sum, fun k hk => Int.le_trans (hb.hi k hk) h, fun k hk => Int.le_trans (hb.lo k hk) h⟩
structure BestS (l : List Cask) (s : Sample) (x : M.Corner) : Prop where
  b : Blend l s x.pt x.den 0
  d : x.den ≤ 200000000000
  pl : x.pt.length = l.length
  p : Proof l s (M.costs l) (M.wtsOf x l.length)
  eq : bound l s (M.wtsOf x l.length) * x.den = (M.wtsOf x l.length).den * cost l x.pt
  tb : x.tight.length ≤ x.by_.length ∧ x.tight.length ≤ 1000 ∧ WhichOK l.length x.tight
theorem which_ok {e : Nat} {c : Cond} (hc : c ∈ M.limits l s e) : 0 ≤ c.which ∧ (c.kind = 1 → c.which < (l.length : Int)) ∧ (c.kind ≠ 1 → c.kind ≠ 0 → c.which < 4) := by
  rcases limits_cases hc with ⟨i, hi, rfl⟩ | ⟨i, hi, rfl⟩ | ⟨k, hk, rfl⟩ | ⟨k, hk, rfl⟩
  · exact ⟨Int.natCast_nonneg i, fun h => absurd h (show (0 : Int) ≠ 1 by decide), fun _ h => absurd rfl h⟩
  · exact ⟨Int.natCast_nonneg i, fun _ => by show (i : Int) < _; omega, fun h => absurd rfl h⟩
  · exact ⟨Int.natCast_nonneg k, fun h => absurd h (show (2 : Int) ≠ 1 by decide), fun _ _ => by show (k : Int) < _; omega⟩
  · exact ⟨Int.natCast_nonneg k, fun h => absurd h (show (3 : Int) ≠ 1 by decide), fun _ _ => by show (k : Int) < _; omega⟩
theorem opt_tb {n e : Nat} {sh wo : List Int} {sum : Int} (hn : n ≤ 5) (ho : Opt n sh sum wo (M.limits l s e) x) : x.tight.length ≤ x.by_.length ∧ x.tight.length ≤ 1000 ∧ WhichOK l.length x.tight :=
  ⟨by rw [ho.bl]; exact Nat.le_refl _, by have := ho.tl; omega, fun c hc => which_ok (ho.sub.subset hc)⟩
theorem costs_small (h : RightL l s) : ∀ j, j < l.length + 0 → (en (M.costs l) j).natAbs ≤ 1000 := by
  intro j hj
  rw [costs_en hj]
  have := (h.rc j hj).cost; omega
theorem best_some (h : RightL l s) (hp : M.pBest l s = some x) : BestS l s x := by
  have hc := costs_small h
  have hl : (M.costs l).length = l.length + 0 := costs_len l
  have ho := psolve_some (small_of h (e := 0) (by decide) hl (ent_of hl hc)) hp
  obtain ⟨b1, _⟩ := conds_blend h (by decide) ho.den ho.sum ho.all
  obtain ⟨p1, p2, p3, _⟩ := opt_wts h (by decide) hl (fun j hj => by unfold Kb; rw [if_pos (show j < l.length from hj)]; exact hc j hj) (W := fun _ => 1000) hc (num_cost _ h.n4) ho
  refine ⟨b1, ?_, ho.pl, p1, ?_, opt_tb (by have := h.n4; omega) ho⟩
  · rw [← ho.wdE.trans ho.denE.symm, ← p2]; exact p1.den.2
  · rw [p3, p2]
    congr 1
    exact smI_congr fun j hj => by rw [costs_en (List.mem_range.1 hj)]
theorem argmin (f : Nat → Int) : ∀ m, 1 ≤ m → ∃ j, j < m ∧ ∀ c, c < m → f j ≤ f c
  | 0, h => absurd h (by decide)
  | 1, _ => ⟨0, by decide, fun c hc => by rw [show c = 0 by omega]; exact Int.le_refl _⟩
  | m + 2, _ => by
    obtain ⟨j, hj, hm⟩ := argmin f (m + 1) (by omega)
    by_cases h : f j ≤ f (m + 1)
    · refine ⟨j, by omega, fun c hc => ?_⟩
      by_cases e : c = m + 1
      · rw [e]; exact h
      · exact hm c (by omega)
    · refine ⟨m + 1, by omega, fun c hc => ?_⟩
      by_cases e : c = m + 1
      · rw [e]; exact Int.le_refl _
      · have := hm c (by omega); omega
theorem best_none (h : RightL l s) (hp : M.pBest l s = none) {pt : List Int} {den : Int} (hb : Blend l s pt den 0) : False := by
  have hc := costs_small h
  have hl : (M.costs l).length = l.length + 0 := costs_len l
  obtain ⟨j, hj, hm⟩ := argmin (en (M.costs l)) l.length h.n1
  exact prog_none h (e := 0) (by decide) hl (ent_of hl hc) hj (fun c hc => by have hc : c < l.length := hc; rw [if_pos hc, Int.mul_one]; exact hm c hc) hp hb (Int.le_refl _)
structure NearS (l : List Cask) (s : Sample) (x : M.Corner) : Prop where
  b : Blend l s x.pt x.den (en x.pt l.length)
  f0 : 0 ≤ en x.pt l.length
  d : x.den ≤ 200000000000
  pl : x.pt.length = l.length + 1
  p : Proof l s (M.far l) (M.wtsOf x l.length)
  eq : bound l s (M.wtsOf x l.length) * x.den = (M.wtsOf x l.length).den * en x.pt l.length
  ws : wsum (M.wtsOf x l.length) ≤ (M.wtsOf x l.length).den
  tb : x.tight.length ≤ x.by_.length ∧ x.tight.length ≤ 1000 ∧ WhichOK l.length x.tight
theorem far_small : ∀ j, j < l.length + 1 → (en (M.far l) j).natAbs ≤ if j < l.length then 0 else 1 := by
  intro j hj
  rw [far_en hj]
  by_cases h : j < l.length
  · rw [if_pos h, if_neg (by omega)]; decide
  · rw [if_neg h, if_pos (by omega)]; decide
theorem near_corner (h : RightL l s) (hp : M.psolve (M.shares l 1) s.vol (M.far l) (M.limits l s 1) = some x) : NearS l s x := by
  have hc := far_small (l := l)
  have hl : (M.far l).length = l.length + 1 := far_len l
  have h1 : ∀ j, j < l.length + 1 → (en (M.far l) j).natAbs ≤ 1 := fun j hj => Nat.le_trans (hc j hj) (by split <;> decide)
  have ho := psolve_some (small_of h (e := 1) (by decide) hl (ent_of hl fun j hj => Nat.le_trans (h1 j hj) (by decide))) hp
  obtain ⟨b1, b2⟩ := conds_blend h (by decide) ho.den ho.sum ho.all
  obtain ⟨p1, p2, p3, p4⟩ := opt_wts h (by decide) hl (fun j hj => Nat.le_trans (h1 j hj) (by unfold Kb; split <;> decide)) (W := fun c => if c < l.length then 0 else 1) hc (num_far _ h.n4) ho
  have p4 := p4 rfl
  rw [far_en (by omega), if_pos rfl] at p4
  refine ⟨b1, b2, ?_, ho.pl, p1, ?_, ?_, opt_tb (by have := h.n4; omega) ho⟩
  · rw [← ho.wdE.trans ho.denE.symm, ← p2]; exact p1.den.2
  · rw [p3, p2]
    congr 1
    unfold dl
    rw [smI_succ, far_en (by omega), if_pos rfl, smI_congr (h := fun _ => 0) (fun j hj => by
      have hj := List.mem_range.1 hj
      rw [far_en (by omega), if_neg (by omega), Int.zero_mul]), smI_zero]
    omega
  · rw [p2]
    have : phi (M.wtsOf x l.length) l.length (fun _ => 0) (fun _ => 1) (fun _ => 1) = wsum (M.wtsOf x l.length) := by
      unfold phi wsum
      rw [smI_congr (h := fun _ => 0) (fun i _ => Int.mul_zero _), smI_zero]
      dsimp only
      omega
    omega
def vols (l : List Cask) : Int := smI (fun i => (l.getD i dfC).vol) (List.range l.length)
theorem near_ex (h : RightL l s) (hv : s.vol ≤ vols l) : ∃ x, M.psolve (M.shares l 1) s.vol (M.far l) (M.limits l s 1) = some x := by
  cases hp : M.psolve (M.shares l 1) s.vol (M.far l) (M.limits l s 1) with
  | some x => exact ⟨x, rfl⟩
  | none =>
    exfalso
    have hl : (M.far l).length = l.length + 1 := far_len l
    have hs := h.v
    have hvp : 0 < vols l := by omega
    obtain ⟨pt, hpt⟩ : ∃ pt, pt = (List.range l.length).map (fun i => (l.getD i dfC).vol * s.vol) ++ [1000 * s.vol * vols l] := ⟨_, rfl⟩
    have e1 : ∀ i, i < l.length → en pt i = (l.getD i dfC).vol * s.vol := by
      intro i hi
      rw [hpt]; unfold en
      rw [List.getD_eq_getElem?_getD, List.getElem?_append_left (by simpa using hi), List.getElem?_map, List.getElem?_range hi]; rfl
    have e2 : en pt l.length = 1000 * s.vol * vols l := by
      rw [hpt]; unfold en
      rw [List.getD_eq_getElem?_getD, List.getElem?_append_right (by simp)]; simp
    have hsum : smI (fun i => en pt i) (List.range l.length) = s.vol * vols l := by
      unfold vols
      rw [← smI_smul]
      exact smI_congr fun i hi => by rw [e1 i (List.mem_range.1 hi), Int.mul_comm]
    have hle : ∀ g : Nat → Int, (∀ i, i < l.length → g i ≤ 1000) → smI (fun i => g i * en pt i) (List.range l.length) ≤ 1000 * s.vol * vols l := by
      intro g hg
      rw [Int.mul_assoc, ← hsum, ← smI_smul]
      refine smI_le fun i hi => ?_
      have hi := List.mem_range.1 hi
      refine Int.mul_le_mul_of_nonneg_right (hg i hi) ?_
      rw [e1 i hi]
      exact Int.mul_nonneg (h.rc i hi).vol.1 (by omega)
    refine prog_none h (e := 1) (by decide) hl (ent_of hl fun j hj => Nat.le_trans (far_small j hj) (by split <;> decide)) (j := 0) h.n1 (fun c hc => ?_) hp (pt := pt) (den := vols l) ?_ ?_
    · have := h.n1
      rw [far_en (by omega), if_neg (by omega), far_en hc]
      split <;> split <;> decide
    · show Blend l s pt (vols l) (en pt l.length)
      rw [e2]
      refine ⟨hvp, fun i hi => ?_, fun i hi => ?_, hsum, fun k hk => hle _ fun i hi => ?_, fun k hk => hle _ fun i hi => ?_⟩
      · rw [e1 i hi]; exact Int.mul_nonneg (h.rc i hi).vol.1 (by omega)
      · rw [e1 i hi]; exact Int.mul_le_mul_of_nonneg_left hv (h.rc i hi).vol.1
      · have := (h.hiF hi hk).2; omega
      · have := (h.loF hi hk).2; omega
    · show 0 ≤ en pt l.length
      rw [e2]
      exact Int.mul_nonneg (Int.mul_nonneg (by decide) (by omega)) (by omega)
theorem Blend.parts (h : RightL l s) {pt : List Int} {den far : Int} (hb : Blend l s pt den far) (hd : den ≤ 200000000000) (hl : pt.length = l.length) : RightP l den pt := by
  refine ⟨hl, ⟨hb.dp, hd⟩, fun i hi => ⟨hb.p0 i hi, ?_⟩⟩
  have h1 := hb.p1 i hi
  have h2 := (h.rc i hi).vol
  have h3 : (l.getD i dfC).vol * den ≤ 10000 * 200000000000 := Int.mul_le_mul h2.2 hd (Int.le_of_lt hb.dp) (by decide)
  show pt.getD i 0 ≤ _
  have h1 : pt.getD i 0 ≤ (l.getD i dfC).vol * den := h1
  omega
theorem sum_vol (h : RightL l s) {pt : List Int} {den : Int} (hp : RightP l den pt) : M.sumP (fun _ => 1) l pt = smI (fun i => en pt i) (List.range l.length) := by
  rw [(vol_bound h.n4 hp).1, smI_dot]; rfl
theorem sum_cost (h : RightL l s) {pt : List Int} {den : Int} (hp : RightP l den pt) : M.sumP Cask.cost l pt = cost l pt := by
  rw [(sumP_eq h.n4 hp (of := Cask.cost) fun i hi => by have := (h.rc i hi).cost; omega).1]
  unfold cost
  rw [smI_dot]
  exact dot_congr fun i _ => Int.mul_comm _ _
theorem open_of (h : RightL l s) {pt : List Int} {den far : Int} (hb : Blend l s pt den far) (hd : den ≤ 200000000000) (hl : pt.length = l.length) : OpenR l s den pt := by
  have hp := hb.parts h hd hl
  refine ⟨h.n4, h.rc, hp, ?_, ⟨h.lo 0 (by decide), h.hi 0 (by decide)⟩, ⟨h.lo 1 (by decide), h.hi 1 (by decide)⟩, ⟨h.lo 2 (by decide), h.hi 2 (by decide)⟩, ⟨h.lo 3 (by decide), h.hi 3 (by decide)⟩⟩
  rw [sum_vol h hp, hb.sum]
  have := Int.mul_pos (show 0 < s.vol by have := h.v; omega) hb.dp
  omega
theorem away_le (h : RightL l s) {pt : List Int} {den : Int} (ho : OpenR l s den pt) {F : Int} : M.away l pt s ≤ F ↔ 0 ≤ F ∧ ∀ k, k < 4 → smI (fun i => (M.val (l.getD i dfC) k - (M.rg s k).hi) * en pt i) (List.range l.length) ≤ F ∧ smI (fun i => ((M.rg s k).lo - M.val (l.getD i dfC) k) * en pt i) (List.range l.length) ≤ F := by
  have hk : ∀ (k : Nat) (of : Cask → Int), k < 4 → (∀ c, of c = M.val c k) → M.valL l pt of (M.rg s k).hi = smI (fun i => (M.val (l.getD i dfC) k - (M.rg s k).hi) * en pt i) (List.range l.length) ∧ IntKind.i64.wrap (0 - M.valL l pt of (M.rg s k).lo) = smI (fun i => ((M.rg s k).lo - M.val (l.getD i dfC) k) * en pt i) (List.range l.length) := by
    intro k of hk hof
    have hof' : ∀ i, i < l.length → 0 ≤ of (l.getD i dfC) ∧ of (l.getD i dfC) ≤ 1000 := fun i hi => by rw [hof]; exact (h.rc i hi).val k
    have h1 := valL_eq h.n4 ho.parts hof' (h.hi k hk)
    have h2 := valL_eq h.n4 ho.parts hof' (h.lo k hk)
    have h3 := (kind_eq h.n4 ho.parts hof' (h.lo k hk) (h.hi k hk)).2.2.1
    constructor
    · rw [h1.1, ← smI_dot]
      refine smI_congr fun i _ => ?_
      rw [hof, Int.mul_comm]; rfl
    · rw [h3, h2.1, ← smI_dot, Int.zero_sub, ← smI_neg]
      refine smI_congr fun i _ => ?_
      rw [hof, ← Int.mul_neg, Int.mul_comm, Int.neg_sub]; rfl
  obtain ⟨a1, a2⟩ := hk 0 (M.kOf 0) (by decide) (fun _ => rfl)
  obtain ⟨b1, b2⟩ := hk 1 (M.kOf 1) (by decide) (fun _ => rfl)
  obtain ⟨c1, c2⟩ := hk 2 (M.kOf 2) (by decide) (fun _ => rfl)
  obtain ⟨d1, d2⟩ := hk 3 (M.kOf 3) (by decide) (fun _ => rfl)
  rw [← (far_away ho).1]
  unfold M.farR M.farK
  rw [show s.r0 = M.rg s 0 from rfl, show s.r1 = M.rg s 1 from rfl, show s.r2 = M.rg s 2 from rfl, show s.r3 = M.rg s 3 from rfl, a1, a2, b1, b2, c1, c2, d1, d2]
  simp only [mx_le]
  constructor
  · rintro ⟨⟨⟨⟨⟨⟨⟨⟨x0, x1⟩, x2⟩, x3⟩, x4⟩, x5⟩, x6⟩, x7⟩, x8⟩
    refine ⟨x0, fun k hk => ?_⟩
    rcases four hk with rfl | rfl | rfl | rfl
    · exact ⟨x2, x1⟩
    · exact ⟨x4, x3⟩
    · exact ⟨x6, x5⟩
    · exact ⟨x8, x7⟩
  · rintro ⟨x0, hx⟩
    exact ⟨⟨⟨⟨⟨⟨⟨⟨x0, (hx 0 (by decide)).2⟩, (hx 0 (by decide)).1⟩, (hx 1 (by decide)).2⟩, (hx 1 (by decide)).1⟩, (hx 2 (by decide)).2⟩, (hx 2 (by decide)).1⟩, (hx 3 (by decide)).2⟩, (hx 3 (by decide)).1⟩
theorem near_away (h : RightL l s) (hx : NearS l s x) : M.away l (x.pt.take l.length) s = en x.pt l.length := by
  have htl : (x.pt.take l.length).length = l.length := by rw [List.length_take, hx.pl]; omega
  have hte : ∀ i, i < l.length → en (x.pt.take l.length) i = en x.pt i := fun i hi => by
    unfold en; rw [List.getD_eq_getElem?_getD, List.getElem?_take, if_pos hi, ← List.getD_eq_getElem?_getD]
  have hb := hx.b.congr hte
  have ho := open_of h hb hx.d htl
  have h1 : M.away l (x.pt.take l.length) s ≤ en x.pt l.length := (away_le h ho).2 ⟨hx.f0, fun k hk => ⟨hb.hi k hk, hb.lo k hk⟩⟩
  obtain ⟨a0, ak⟩ := (away_le h ho).1 (Int.le_refl _)
  have hb' : Blend l s (x.pt.take l.length) x.den (M.away l (x.pt.take l.length) s) := ⟨hb.dp, hb.p0, hb.p1, hb.sum, fun k hk => (ak k hk).1, fun k hk => (ak k hk).2⟩
  have hall : Each (fun b => 0 ≤ b) (M.wtsOf x l.length) := by
    obtain ⟨g1, ⟨g2, g3, g4, g5⟩, g6, g7, g8, g9⟩ := hx.p.all
    exact ⟨fun i => (g1 i).1, ⟨g2.1, g3.1, g4.1, g5.1⟩, g6.1, g7.1, g8.1, g9.1⟩
  have hw := weak_blend hb' hall (g := fun j => en (M.far l) j * (M.wtsOf x l.length).den) hx.p.gift
  rw [smI_congr (h := fun _ => 0) (fun j hj => by
    have hj := List.mem_range.1 hj
    rw [far_en (by omega), if_neg (by omega), Int.zero_mul, Int.zero_mul]), smI_zero, hx.eq, Int.zero_add] at hw
  have h2 := Int.mul_le_mul_of_nonneg_right hx.ws a0
  have h3 : (M.wtsOf x l.length).den * en x.pt l.length ≤ (M.wtsOf x l.length).den * M.away l (x.pt.take l.length) s := Int.le_trans hw h2
  have h4 := Int.le_of_mul_le_mul_left h3 (show 0 < (M.wtsOf x l.length).den by have := hx.p.den; omega)
  omega
theorem best_okay (l : List Cask) (s : Sample) : BestOK l s := by
  intro he
  have h := task_right he
  have hc := costs_small h
  obtain ⟨a1, a2, a3, a4, a5⟩ := limits_small h (e := 0) (by decide)
  refine ⟨h.n1, h.n4, fun c hc => by rw [shares_len]; exact a3 c hc, turnOK (by rw [shares_len]; have := h.n4; omega) a2 (fun c hc => ⟨by rw [shares_len]; exact a3 c hc, a4 c hc⟩), fun x hx => ?_⟩
  have hb := best_some h hx
  have ho := open_of h hb.b hb.d hb.pl
  exact ⟨⟨Nat.le_of_eq hb.pl, by have := hb.b.dp; omega, by have := hb.b.dp; have := hb.d; unfold i64ok; omega, hb.tb.1, hb.tb.2.1, hb.tb.2.2⟩, cost_ok ho⟩
theorem vols_eq (h : RightL l s) : M.volumes l = vols l := by
  have := (fold_dot (f := fun a i => IntKind.i64.wrap (a + (l.getD i dfC).vol)) (y := fun i => (l.getD i dfC).vol) (n := l.length) (fun a i _ => rfl) (fun i hi => by have := (h.rc i hi).vol; omega) h.n4).1
  unfold vols
  rw [smI_dot, ← this]
  rfl
theorem near_right (he : M.nearErr l s = 0) : RightL l s ∧ s.vol ≤ vols l := by
  unfold M.nearErr at he
  have hz := first_nil _ he
  have ht : M.taskErr l s = 0 := by
    unfold M.taskErr
    have h1 := hz (M.casksErr l) (by simp)
    have h2 := hz (M.checkSample s) (by simp)
    rw [h1, h2]; rfl
  have h := task_right ht
  refine ⟨h, ?_⟩
  have h3 := of_decide_eq_true (unl_zero (by decide) (hz (M.unl (decide (M.volumes l ≥ s.vol)) 24) (by simp)))
  rw [vols_eq h] at h3
  exact h3
theorem near_some (h : RightL l s) (hv : s.vol ≤ vols l) : NearS l s (M.pNear l s) := by
  obtain ⟨x, hx⟩ := near_ex h hv
  have : M.pNear l s = x := by unfold M.pNear; rw [hx]; rfl
  rw [this]
  exact near_corner h hx
theorem near_take (h : RightL l s) (hx : NearS l s x) : OpenR l s x.den (x.pt.take l.length) ∧ Blend l s (x.pt.take l.length) x.den (en x.pt l.length) := by
  have htl : (x.pt.take l.length).length = l.length := by rw [List.length_take, hx.pl]; omega
  have hte : ∀ i, i < l.length → en (x.pt.take l.length) i = en x.pt i := fun i hi => by
    unfold en; rw [List.getD_eq_getElem?_getD, List.getElem?_take, if_pos hi, ← List.getD_eq_getElem?_getD]
  have hb := hx.b.congr hte
  exact ⟨open_of h hb hx.d htl, hb⟩
theorem near_okay (l : List Cask) (s : Sample) : NearOK l s := by
  intro he
  obtain ⟨h, hv⟩ := near_right he
  have hx := near_some h hv
  obtain ⟨a1, a2, a3, a4, a5⟩ := limits_small h (e := 1) (by decide)
  obtain ⟨ho, hb⟩ := near_take h hx
  refine ⟨h.n1, h.n4, fun c hc => by rw [shares_len]; exact a3 c hc, turnOK (by rw [shares_len]; have := h.n4; omega) a2 (fun c hc => ⟨by rw [shares_len]; exact a3 c hc, a4 c hc⟩), by rw [hx.pl]; omega, ho.vol, ?_, ?_⟩
  · have := (far_away ho).2.1; unfold i64ok; omega
  · have := (vol_bound h.n4 ho.parts).2; unfold i64ok; omega
end
end Go.Bl
end

section
set_option linter.unusedVariables false
set_option linter.unusedSimpArgs false
set_option maxRecDepth 100000
namespace Go.Bl
open Go.V Go.Proofs
end Go.Bl
end

section
set_option linter.unusedVariables false
set_option linter.unusedSimpArgs false
set_option maxRecDepth 100000
namespace Go.Bl
open Go.V Go.Proofs
namespace M
def wOk (w : Wts) : Bool := allB isWeight [w.x0, w.x1, w.x2, w.x3] && allB isWeight [w.y0, w.y1, w.y2, w.y3] && allB isWeight w.casks
def wHead (w : Wts) : Bool := within w.den 1 200000000000 && within w.each (-100000000000000) 100000000000000
def openW (l : List Cask) (s : Sample) (w : Wts) : Int := first [casksErr l, checkSample s, unl (wHead w) 2, unl ((w.casks.length : Int) == (l.length : Int)) 10, unl (wOk w) 2]
def giveK (x y v lo hi g : Int) : Int := IntKind.i64.wrap (IntKind.i64.wrap (g - IntKind.i64.wrap (x * IntKind.i64.wrap (v - hi))) - IntKind.i64.wrap (y * IntKind.i64.wrap (lo - v)))
def giveR (l : List Cask) (s : Sample) (w : Wts) (i : Nat) : Int :=
  giveK w.x3 w.y3 (l.getD i dfC).k3 s.r3.lo s.r3.hi (giveK w.x2 w.y2 (l.getD i dfC).k2 s.r2.lo s.r2.hi (giveK w.x1 w.y1 (l.getD i dfC).k1 s.r1.lo s.r1.hi (giveK w.x0 w.y0 (l.getD i dfC).k0 s.r0.lo s.r0.hi (IntKind.i64.wrap (w.each - w.casks.getD i 0)))))
def boundR (l : List Cask) (s : Sample) (w : Wts) : Int := (List.range l.length).foldl (fun a i => IntKind.i64.wrap (a - IntKind.i64.wrap (w.casks.getD i 0 * (l.getD i dfC).vol))) (IntKind.i64.wrap (w.each * s.vol))
end M
theorem not_true {b : Bool} (h : (!b) = true) : b = false := by cases b <;> simp_all
theorem not_false' {b : Bool} (h : (!b) = false) : b = true := by cases b <;> simp_all
end Go.Bl
end

section
set_option linter.unusedVariables false
set_option linter.unusedSimpArgs false
set_option maxRecDepth 100000
namespace Go.Bl
open Go.V Go.Proofs
namespace M
def fails (l : List Cask) (s : Sample) (w : Wts) : Int := cond (openW l s w != 0) (openW l s w) (cond ((List.range l.length).any fun i => decide (giveR l s w i > 0)) 20 (unl (decide (boundR l s w > 0)) 20))
end M
structure RightW (l : List Cask) (s : Sample) (w : Wts) : Prop where
  rl : RightL l s
  den : 1 ≤ w.den ∧ w.den ≤ 200000000000
  each : w.each.natAbs ≤ 100000000000000
  len : w.casks.length = l.length
  all : Each (fun b => 0 ≤ b ∧ b ≤ 100000000000000) w
section
variable {l : List Cask} {s : Sample} {w : Wts}
end
section
variable {l : List Cask} {s : Sample} {w : Wts}
end
end Go.Bl
end

section
set_option linter.unusedVariables false
set_option linter.unusedSimpArgs false
set_option maxRecDepth 100000
namespace Go.Bl
open Go.V Go.Proofs
end Go.Bl
end

section
set_option linter.unusedVariables false
set_option linter.unusedSimpArgs false
set_option maxRecDepth 100000
namespace Go.Bl
open Go.V Go.Proofs
def tr94 (n d : Int) : T (List Ar) :=
    T.need (d ≠ (0 : Int)) (T.need (d ≠ (0 : Int)) (T.br (decide (Int.tmod n d < (0 : Int))) (T.ret [Ar.c (D.int IntKind.i64 (IntKind.wrap IntKind.i64 (IntKind.wrap IntKind.i64 (Int.tdiv n d) - (1 : Int))))]) (T.ret [Ar.c (D.int IntKind.i64 (IntKind.wrap IntKind.i64 (Int.tdiv n d)))])))
theorem t94 (n d : Int) : runFnX Try.prog G0 (lookS []) (fun _ => []) [] 1 20 3 94 Try.f94 [.c (dI n), .c (dI d)] =
    tr94 n d := by kernel_rfl
theorem floor_eq {n d : Int} (hd : 0 < d) : (n.tmod d < 0 → n.tdiv d - 1 = n / d) ∧ (¬ n.tmod d < 0 → n.tdiv d = n / d) := by
  have h1 := Int.emod_nonneg n (show d ≠ 0 by omega)
  have h2 := Int.emod_lt_of_pos n hd
  have e1 := Int.tdiv_eq_ediv (a := n) (b := d)
  have e2 := Int.tmod_eq_emod (a := n) (b := d)
  by_cases h : 0 ≤ n ∨ d ∣ n
  · rw [if_pos h] at e1 e2
    constructor <;> intro <;> omega
  · rw [if_neg h] at e1 e2
    rw [Int.sign_eq_one_of_pos hd] at e1
    constructor <;> intro <;> omega
theorem ediv_ok {n d : Int} (h : i64ok n) : (n / d).natAbs < 9223372036854775808 := Nat.lt_of_le_of_lt (Int.natAbs_ediv_le_natAbs n d) h
theorem w94 {n d : Int} (hd : 0 < d) (h : i64ok n) : (tr94 n d).wp (fun rs => rsEqv rs [rI (n / d)]) := by
  unfold tr94
  have ht : (n.tdiv d).natAbs < 9223372036854775808 := Nat.lt_of_le_of_lt (Int.natAbs_tdiv_le_natAbs n d) h
  have he := ediv_ok (d := d) h
  obtain ⟨f1, f2⟩ := floor_eq (n := n) hd
  refine ⟨by omega, by omega, fun hb => ?_, fun hb => ?_⟩
  · have hb := f1 (of_decide_eq_true hb)
    rw [wrap_id (n := n.tdiv d) (by omega) (by omega), hb, wrap_id (by omega) (by omega)]
    exact rsEqv_refl _
  · have hb := f2 (of_decide_eq_false hb)
    rw [wrap_id (n := n.tdiv d) (by omega) (by omega), hb]
    exact rsEqv_refl _
def dom94 : DomF
  | [.c (.int .i64 n), .c (.int .i64 d)] => some ([0 < d, i64ok n], [rI (n / d)])
  | _ => none
def v94 : Nat × Sm := (94, fokSm dom94)
theorem C94 : FOK Try.prog G0 gw 94 dom94 := by
  intro ags p r hd hp κ w xs hw hl hG hx
  unfold dom94 at hd
  split at hd
  · rename_i n d
    simp only [Option.some.injEq, Prod.mk.injEq] at hd
    obtain ⟨rfl, rfl⟩ := hd
    have heq : agsEqv [.c (.int .i64 n), .c (.int .i64 d)] [.c (.int .i64 n), .c (.int .i64 d)] := ⟨Ag.eqv_refl _, Ag.eqv_refl _, trivial⟩
    exact fokX_fin mixed gw_stable (sl := []) trivial Try.func94 hw hl hG hx heq rfl (t94 n d) (w94 hp.1 hp.2.1)
  · cases hd
theorem S94 : SumOK Try.prog G0 gw 94 (fokSm dom94) := fok_sum Try.func94 rfl C94
def tr39 (n d m k : Int) : T (List Ar) :=
    T.loop (Int × Int × Int × Int × PUnit) (n, d, m, k, PUnit.unit) fun (x : Int × Int × Int × Int × PUnit) => T.need ((0 : Int) < Prod.fst (Prod.snd x)) (T.need (Int.natAbs (Prod.fst x) < (9223372036854775808 : Nat)) (T.need ((0 : Int) < Prod.fst (Prod.snd (Prod.snd (Prod.snd x)))) (T.need (Int.natAbs (Prod.fst (Prod.snd (Prod.snd x))) < (9223372036854775808 : Nat)) (T.br (decide (Prod.fst x / Prod.fst (Prod.snd x) < Prod.fst (Prod.snd (Prod.snd x)) / Prod.fst (Prod.snd (Prod.snd (Prod.snd x))))) (T.ret (Sum.inr [Ar.c (D.int IntKind.i64 (-1 : Int))])) (T.br (decide (Prod.fst x / Prod.fst (Prod.snd x) > Prod.fst (Prod.snd (Prod.snd x)) / Prod.fst (Prod.snd (Prod.snd (Prod.snd x))))) (T.ret (Sum.inr [Ar.c (D.int IntKind.i64 (1 : Int))])) (T.br (IntKind.wrap IntKind.i64 (Prod.fst x - IntKind.wrap IntKind.i64 (Prod.fst x / Prod.fst (Prod.snd x) * Prod.fst (Prod.snd x))) == (0 : Int)) (T.br (IntKind.wrap IntKind.i64 (Prod.fst (Prod.snd (Prod.snd x)) - IntKind.wrap IntKind.i64 (Prod.fst (Prod.snd (Prod.snd x)) / Prod.fst (Prod.snd (Prod.snd (Prod.snd x))) * Prod.fst (Prod.snd (Prod.snd (Prod.snd x))))) == (0 : Int)) (T.ret (Sum.inr [Ar.c (D.int IntKind.i64 (0 : Int))])) (T.br (IntKind.wrap IntKind.i64 (Prod.fst x - IntKind.wrap IntKind.i64 (Prod.fst x / Prod.fst (Prod.snd x) * Prod.fst (Prod.snd x))) == (0 : Int)) (T.ret (Sum.inr [Ar.c (D.int IntKind.i64 (-1 : Int))])) (T.br (IntKind.wrap IntKind.i64 (Prod.fst (Prod.snd (Prod.snd x)) - IntKind.wrap IntKind.i64 (Prod.fst (Prod.snd (Prod.snd x)) / Prod.fst (Prod.snd (Prod.snd (Prod.snd x))) * Prod.fst (Prod.snd (Prod.snd (Prod.snd x))))) == (0 : Int)) (T.ret (Sum.inr [Ar.c (D.int IntKind.i64 (1 : Int))])) (T.ret (Sum.inl (Prod.fst (Prod.snd (Prod.snd (Prod.snd x))), IntKind.wrap IntKind.i64 (Prod.fst (Prod.snd (Prod.snd x)) - IntKind.wrap IntKind.i64 (Prod.fst (Prod.snd (Prod.snd x)) / Prod.fst (Prod.snd (Prod.snd (Prod.snd x))) * Prod.fst (Prod.snd (Prod.snd (Prod.snd x))))), Prod.fst (Prod.snd x), IntKind.wrap IntKind.i64 (Prod.fst x - IntKind.wrap IntKind.i64 (Prod.fst x / Prod.fst (Prod.snd x) * Prod.fst (Prod.snd x))), PUnit.unit)))))) (T.br (IntKind.wrap IntKind.i64 (Prod.fst x - IntKind.wrap IntKind.i64 (Prod.fst x / Prod.fst (Prod.snd x) * Prod.fst (Prod.snd x))) == (0 : Int)) (T.ret (Sum.inr [Ar.c (D.int IntKind.i64 (-1 : Int))])) (T.br (IntKind.wrap IntKind.i64 (Prod.fst (Prod.snd (Prod.snd x)) - IntKind.wrap IntKind.i64 (Prod.fst (Prod.snd (Prod.snd x)) / Prod.fst (Prod.snd (Prod.snd (Prod.snd x))) * Prod.fst (Prod.snd (Prod.snd (Prod.snd x))))) == (0 : Int)) (T.ret (Sum.inr [Ar.c (D.int IntKind.i64 (1 : Int))])) (T.ret (Sum.inl (Prod.fst (Prod.snd (Prod.snd (Prod.snd x))), IntKind.wrap IntKind.i64 (Prod.fst (Prod.snd (Prod.snd x)) - IntKind.wrap IntKind.i64 (Prod.fst (Prod.snd (Prod.snd x)) / Prod.fst (Prod.snd (Prod.snd (Prod.snd x))) * Prod.fst (Prod.snd (Prod.snd (Prod.snd x))))), Prod.fst (Prod.snd x), IntKind.wrap IntKind.i64 (Prod.fst x - IntKind.wrap IntKind.i64 (Prod.fst x / Prod.fst (Prod.snd x) * Prod.fst (Prod.snd x))), PUnit.unit)))))))))))
theorem t39 (n d m k : Int) : runFnX Try.prog G0 (lookS [v94]) (fun _ => [(1, [.slot 0 (.int .i64), .slot 1 (.int .i64), .slot 2 (.int .i64), .slot 3 (.int .i64)], none)]) [] 1 20 3 39 Try.f39 [.c (dI n), .c (dI d), .c (dI m), .c (dI k)] =
    tr39 n d m k := by kernel_rfl
namespace M
def cmp (n d m k : Int) : Int := if n * k < m * d then -1 else if n * k = m * d then 0 else 1
end M
theorem wrap_emod {n d : Int} (hd : 0 < d) (h : i64ok d) : IntKind.i64.wrap (n - IntKind.i64.wrap (n / d * d)) = n % d := by
  have h0 := Int.emod_nonneg n (show d ≠ 0 by omega)
  have h1 := Int.emod_lt_of_pos n hd
  have h2 := Int.mul_ediv_add_emod n d
  rw [Int.mul_comm] at h2
  have e : IntKind.i64.wrap (n - IntKind.i64.wrap (n / d * d)) = IntKind.i64.wrap (n - n / d * d) := by simp only [IntKind.wrap_i64]; omega
  rw [e, show n - n / d * d = n % d by omega]
  unfold i64ok at h
  exact wrap_id (by omega) (by omega)
theorem cmp_lt {n d m k : Int} (hd : 0 < d) (hk : 0 < k) (h : n / d < m / k) : M.cmp n d m k = -1 := by
  have h1 := Int.mul_ediv_add_emod n d
  have h2 := Int.mul_ediv_add_emod m k
  have r1 := Int.emod_lt_of_pos n hd
  have r2 := Int.emod_nonneg m (show k ≠ 0 by omega)
  have a1 : d * (n / d + 1) ≤ d * (m / k) := Int.mul_le_mul_of_nonneg_left (by omega) (by omega)
  rw [Int.mul_add, Int.mul_one] at a1
  have a2 : n < d * (m / k) := by omega
  have a3 : n * k < d * (m / k) * k := Int.mul_lt_mul_of_pos_right a2 hk
  have a4 : (k * (m / k)) * d ≤ m * d := Int.mul_le_mul_of_nonneg_right (by omega) (by omega)
  have a5 : d * (m / k) * k = (k * (m / k)) * d := by rw [Int.mul_comm k, Int.mul_comm d, Int.mul_assoc, Int.mul_assoc, Int.mul_comm d k]
  unfold M.cmp
  rw [if_pos (by omega)]
theorem cmp_swap (n d m k : Int) : M.cmp m k n d = - M.cmp n d m k := by
  unfold M.cmp
  by_cases h1 : n * k < m * d
  · rw [if_pos h1, if_neg (by omega), if_neg (by omega)]
    rfl
  · rw [if_neg h1]
    by_cases h2 : n * k = m * d
    · rw [if_pos h2, if_neg (by omega), if_pos h2.symm]; rfl
    · rw [if_neg h2, if_pos (by omega)]
theorem cmp_rest {n d m k : Int} (h : n / d = m / k) : M.cmp n d m k = M.cmp (n % d) d (m % k) k := by
  have h1 := Int.mul_ediv_add_emod n d
  have h2 := Int.mul_ediv_add_emod m k
  have e1 : n * k = d * (n / d) * k + n % d * k := by rw [← Int.add_mul, h1]
  have e2 : m * d = d * (n / d) * k + m % k * d := by
    rw [h]
    have : d * (m / k) * k = k * (m / k) * d := by rw [Int.mul_comm k, Int.mul_comm d, Int.mul_assoc, Int.mul_assoc, Int.mul_comm d k]
    rw [this, ← Int.add_mul, h2]
  unfold M.cmp
  rw [e1, e2]
  by_cases h1 : n % d * k < m % k * d
  · rw [if_pos h1, if_pos (by omega)]
  · rw [if_neg h1, if_neg (by omega)]
    by_cases h2 : n % d * k = m % k * d
    · rw [if_pos h2, if_pos (by omega)]
    · rw [if_neg h2, if_neg (by omega)]
theorem cmp_turn (r d t k : Int) : M.cmp k t d r = M.cmp r d t k := by
  unfold M.cmp
  rw [Int.mul_comm k r, Int.mul_comm d t]
theorem w39 {n d m k : Int} (hd : 0 < d) (hk : 0 < k) (h1 : i64ok n) (h2 : i64ok d) (h3 : i64ok m) (h4 : i64ok k) : (tr39 n d m k).wp (fun rs => rsEqv rs [rI (M.cmp n d m k)]) := by
  unfold tr39
  refine ⟨fun x => 0 < x.2.1 ∧ 0 < x.2.2.2.1 ∧ i64ok x.1 ∧ i64ok x.2.1 ∧ i64ok x.2.2.1 ∧ i64ok x.2.2.2.1 ∧ M.cmp x.1 x.2.1 x.2.2.1 x.2.2.2.1 = M.cmp n d m k, fun x => (x.2.1 + x.2.2.2.1).toNat, ⟨hd, hk, h1, h2, h3, h4, rfl⟩, ?_⟩
  rintro ⟨a, b, c, e, u⟩ ⟨g1, g2, g3, g4, g5, g6, g7⟩
  simp only at g1 g2 g3 g4 g5 g6 g7
  have ra0 := Int.emod_nonneg a (show b ≠ 0 by omega)
  have ra1 := Int.emod_lt_of_pos a g1
  have rc0 := Int.emod_nonneg c (show e ≠ 0 by omega)
  have rc1 := Int.emod_lt_of_pos c g2
  have hwa : IntKind.i64.wrap (a - IntKind.i64.wrap (a / b * b)) = a % b := wrap_emod g1 g4
  have hwc : IntKind.i64.wrap (c - IntKind.i64.wrap (c / e * e)) = c % e := wrap_emod g2 g6
  simp only [hwa, hwc]
  refine ⟨g1, g3, g2, g5, fun hb => ?_, fun hb => ?_⟩
  · have hb := of_decide_eq_true hb
    rw [← g7, cmp_lt g1 g2 hb]; exact rsEqv_refl _
  have hb := of_decide_eq_false hb
  refine ⟨fun hc => ?_, fun hc => ?_⟩
  · have hc := of_decide_eq_true hc
    rw [← g7, cmp_swap c e a b, cmp_lt g2 g1 hc]; exact rsEqv_refl _
  have hc := of_decide_eq_false hc
  have hr := cmp_rest (show a / b = c / e by omega)
  have zero : a % b = 0 → c % e ≠ 0 → M.cmp n d m k = -1 := by
    intro e1 e2
    have := Int.mul_pos (show 0 < c % e by omega) g1
    rw [← g7, hr, e1]; unfold M.cmp; rw [Int.zero_mul, if_pos this]
  have one : c % e = 0 → a % b ≠ 0 → M.cmp n d m k = 1 := by
    intro e1 e2
    have := Int.mul_pos (show 0 < a % b by omega) g2
    rw [← g7, hr, e1]; unfold M.cmp; rw [Int.zero_mul, if_neg (by omega), if_neg (by omega)]
  have nxt : a % b ≠ 0 → c % e ≠ 0 → (0 < c % e ∧ 0 < a % b ∧ i64ok e ∧ i64ok (c % e) ∧ i64ok b ∧ i64ok (a % b) ∧ M.cmp e (c % e) b (a % b) = M.cmp n d m k) ∧ (c % e + a % b).toNat < (b + e).toNat := by
    intro e1 e2
    refine ⟨⟨by omega, by omega, g6, by unfold i64ok at *; omega, g4, by unfold i64ok at *; omega, ?_⟩, by omega⟩
    rw [cmp_turn, ← hr, g7]
  refine ⟨fun hx => ?_, fun hx => ?_⟩
  · have hx := eq_of_beq hx
    refine ⟨fun hy => ?_, fun hy => ?_⟩
    · have hy := eq_of_beq hy
      have : M.cmp n d m k = 0 := by rw [← g7, hr, hx, hy]; unfold M.cmp; rw [Int.zero_mul, Int.zero_mul]; rfl
      rw [this]; exact rsEqv_refl _
    · have hy : c % e ≠ 0 := by intro e9; rw [e9] at hy; exact absurd hy (by decide)
      refine ⟨fun hz => ?_, fun hz => ?_⟩
      · rw [zero hx hy]; exact rsEqv_refl _
      · rw [hx] at hz; exact absurd hz (by decide)
  · have hx : a % b ≠ 0 := by intro e9; rw [e9] at hx; exact absurd hx (by decide)
    refine ⟨fun hz => absurd (eq_of_beq hz) hx, fun hz => ⟨fun hy => ?_, fun hy => ?_⟩⟩
    · rw [one (eq_of_beq hy) hx]; exact rsEqv_refl _
    · have hy : c % e ≠ 0 := by intro e9; rw [e9] at hy; exact absurd hy (by decide)
      exact nxt hx hy
def dom39 : DomF
  | [.c (.int .i64 n), .c (.int .i64 d), .c (.int .i64 m), .c (.int .i64 k)] => some ([0 < d, 0 < k, i64ok n, i64ok d, i64ok m, i64ok k], [rI (M.cmp n d m k)])
  | _ => none
def v39 : Nat × Sm := (39, fokSm dom39)
theorem C39 : FOK Try.prog G0 gw 39 dom39 := by
  intro ags p r hd hp κ w xs hw hl hG hx
  unfold dom39 at hd
  split at hd
  · rename_i n d m k
    simp only [Option.some.injEq, Prod.mk.injEq] at hd
    obtain ⟨rfl, rfl⟩ := hd
    have heq : agsEqv [.c (.int .i64 n), .c (.int .i64 d), .c (.int .i64 m), .c (.int .i64 k)] [.c (.int .i64 n), .c (.int .i64 d), .c (.int .i64 m), .c (.int .i64 k)] := ⟨Ag.eqv_refl _, Ag.eqv_refl _, Ag.eqv_refl _, Ag.eqv_refl _, trivial⟩
    exact fokX_fin mixed gw_stable (sl := [v94]) ⟨S94, trivial⟩ Try.func39 hw hl hG hx heq rfl (t39 n d m k) (w39 hp.1 hp.2.1 hp.2.2.1 hp.2.2.2.1 hp.2.2.2.2.1 hp.2.2.2.2.2.1)
  · cases hd
theorem S39 : SumOK Try.prog G0 gw 39 (fokSm dom39) := fok_sum Try.func39 rfl C39
end Go.Bl
end

section
set_option linter.unusedVariables false
set_option linter.unusedSimpArgs false
set_option maxRecDepth 100000
namespace Go.Bl
open Go.V Go.Proofs
open Go.Lp
theorem told_spec {n d : Int} (hd : 0 < d) : ∃ g : Int, 0 < g ∧ M.told1 n d * g = n ∧ M.told2 n d * g = d := by
  refine ⟨(Int.gcd n d : Nat), ?_, ?_, ?_⟩
  · have : 0 < Int.gcd n d := Int.gcd_pos_of_ne_zero_right _ (by omega)
    omega
  · exact Int.tdiv_mul_cancel (Int.gcd_dvd_left ..)
  · exact Int.tdiv_mul_cancel (Int.gcd_dvd_right ..)
theorem told_pos {n d : Int} (hd : 0 < d) : 0 < M.told2 n d := by
  obtain ⟨g, h0, _, h2⟩ := told_spec (n := n) hd
  rw [← h2] at hd
  rcases Int.lt_trichotomy (M.told2 n d) 0 with h | h | h
  · have := Int.mul_neg_of_neg_of_pos h h0; omega
  · rw [h, Int.zero_mul] at hd; omega
  · exact h
theorem mul_ge {a g : Int} (hg : 0 < g) : a.natAbs ≤ (a * g).natAbs := by
  rw [Int.natAbs_mul]
  exact Nat.le_mul_of_pos_right _ (by omega)
theorem told_ok {n d : Int} (hd : 0 < d) : (M.told1 n d).natAbs ≤ n.natAbs ∧ (M.told2 n d).natAbs ≤ d.natAbs := by
  obtain ⟨g, h0, h1, h2⟩ := told_spec (n := n) hd
  have a := mul_ge (a := M.told1 n d) h0
  have b := mul_ge (a := M.told2 n d) h0
  rw [h1] at a; rw [h2] at b
  exact ⟨a, b⟩
theorem cmp_scale {a b c e g h : Int} (hg : 0 < g) (hh : 0 < h) : M.cmp (a * g) (b * g) (c * h) (e * h) = M.cmp a b c e := by
  have hp := Int.mul_pos hg hh
  have e1 : a * g * (e * h) = a * e * (g * h) := by rw [Int.mul_assoc, Int.mul_left_comm g, ← Int.mul_assoc]
  have e2 : c * h * (b * g) = c * b * (g * h) := by rw [Int.mul_assoc, Int.mul_left_comm h, ← Int.mul_assoc, Int.mul_comm h g]
  unfold M.cmp
  rw [e1, e2]
  by_cases h1 : a * e < c * b
  · rw [if_pos h1, if_pos (Int.mul_lt_mul_of_pos_right h1 hp)]
  · rw [if_neg h1, if_neg (fun e9 => h1 (Int.lt_of_mul_lt_mul_right e9 (Int.le_of_lt hp)))]
    by_cases h2 : a * e = c * b
    · rw [if_pos h2, if_pos (by rw [h2])]
    · rw [if_neg h2, if_neg (fun e9 => h2 (Int.eq_of_mul_eq_mul_right (by omega) e9))]
theorem cmp_told {n d m k : Int} (hd : 0 < d) (hk : 0 < k) : M.cmp (M.told1 n d) (M.told2 n d) (M.told1 m k) (M.told2 m k) = M.cmp n d m k := by
  obtain ⟨g, g0, g1, g2⟩ := told_spec (n := n) hd
  obtain ⟨h, h0, h1, h2⟩ := told_spec (n := m) hk
  rw [← cmp_scale g0 h0, g1, g2, h1, h2]
theorem each_nn {P : Int → Prop} {w : Wts} (h : Each P w) (hp : ∀ b, P b → 0 ≤ b) : Each (fun b => 0 ≤ b) w := by
  obtain ⟨g1, ⟨g2, g3, g4, g5⟩, g6, g7, g8, g9⟩ := h
  exact ⟨fun i => hp _ (g1 i), ⟨hp _ g2, hp _ g3, hp _ g4, hp _ g5⟩, hp _ g6, hp _ g7, hp _ g8, hp _ g9⟩
end Go.Bl
end

section
set_option linter.unusedVariables false
set_option linter.unusedSimpArgs false
set_option maxRecDepth 100000
namespace Go.Bl
open Go.V Go.Proofs
namespace M
def wideR (r : Rg) (d : Int) : Rg := ⟨if IntKind.i64.wrap (r.lo - d) > 0 then IntKind.i64.wrap (r.lo - d) else 0, if IntKind.i64.wrap (r.hi + d) < 1000 then IntKind.i64.wrap (r.hi + d) else 1000⟩
def wide (s : Sample) (d : Int) : Sample := ⟨s.vol, wideR s.r0 d, wideR s.r1 d, wideR s.r2 d, wideR s.r3 d⟩
def zeroS : Sample := ⟨0, ⟨0, 0⟩, ⟨0, 0⟩, ⟨0, 0⟩, ⟨0, 0⟩⟩
def wideErr (s : Sample) (d : Int) : Int := first [checkSample s, unl (within d 0 1000) 2]
def widened (s : Sample) (d : Int) : Sample := cond (wideErr s d != 0) zeroS (wide s d)
end M
def resS (s : Sample) (e : Int) : List Ar := [.agg [dI s.vol, dI s.r0.lo, dI s.r0.hi, dI s.r1.lo, dI s.r1.hi, dI s.r2.lo, dI s.r2.hi, dI s.r3.lo, dI s.r3.hi], rI e]
def tr37 (sv l0 h0 l1 h1 l2 h2 l3 h3 wd : Int) : T (List Ar) :=
    T.br (M.first [M.checkSample { vol := sv, r0 := { lo := l0, hi := h0 }, r1 := { lo := l1, hi := h1 }, r2 := { lo := l2, hi := h2 }, r3 := { lo := l3, hi := h3 } }, M.unl (M.within wd (0 : Int) (1000 : Int)) (2 : Int)] != (0 : Int)) (T.ret [Ar.agg [D.int IntKind.i64 (0 : Int), D.int IntKind.i64 (0 : Int), D.int IntKind.i64 (0 : Int), D.int IntKind.i64 (0 : Int), D.int IntKind.i64 (0 : Int), D.int IntKind.i64 (0 : Int), D.int IntKind.i64 (0 : Int), D.int IntKind.i64 (0 : Int), D.int IntKind.i64 (0 : Int)], Ar.c (D.int IntKind.i64 (M.first [M.checkSample { vol := sv, r0 := { lo := l0, hi := h0 }, r1 := { lo := l1, hi := h1 }, r2 := { lo := l2, hi := h2 }, r3 := { lo := l3, hi := h3 } }, M.unl (M.within wd (0 : Int) (1000 : Int)) (2 : Int)]))]) (T.ret [Ar.agg [D.int IntKind.i64 sv, D.int IntKind.i64 (if IntKind.wrap IntKind.i64 (l0 - wd) > (0 : Int) then IntKind.wrap IntKind.i64 (l0 - wd) else (0 : Int)), D.int IntKind.i64 (if IntKind.wrap IntKind.i64 (h0 + wd) < (1000 : Int) then IntKind.wrap IntKind.i64 (h0 + wd) else (1000 : Int)), D.int IntKind.i64 (if IntKind.wrap IntKind.i64 (l1 - wd) > (0 : Int) then IntKind.wrap IntKind.i64 (l1 - wd) else (0 : Int)), D.int IntKind.i64 (if IntKind.wrap IntKind.i64 (h1 + wd) < (1000 : Int) then IntKind.wrap IntKind.i64 (h1 + wd) else (1000 : Int)), D.int IntKind.i64 (if IntKind.wrap IntKind.i64 (l2 - wd) > (0 : Int) then IntKind.wrap IntKind.i64 (l2 - wd) else (0 : Int)), D.int IntKind.i64 (if IntKind.wrap IntKind.i64 (h2 + wd) < (1000 : Int) then IntKind.wrap IntKind.i64 (h2 + wd) else (1000 : Int)), D.int IntKind.i64 (if IntKind.wrap IntKind.i64 (l3 - wd) > (0 : Int) then IntKind.wrap IntKind.i64 (l3 - wd) else (0 : Int)), D.int IntKind.i64 (if IntKind.wrap IntKind.i64 (h3 + wd) < (1000 : Int) then IntKind.wrap IntKind.i64 (h3 + wd) else (1000 : Int))], Ar.c (D.int IntKind.i64 (0 : Int))])
theorem t37 (sv l0 h0 l1 h1 l2 h2 l3 h3 : Int) (wd : Int) : runFnX Try.prog G0 (lookS [v49, v95, v80, v64]) (fun _ => [(1000023, [], none), (3000022, [], none)]) [] 1 20 3 37 Try.f37 [.agg [dI sv, dI l0, dI h0, dI l1, dI h1, dI l2, dI h2, dI l3, dI h3], .c (dI wd)] =
    tr37 sv l0 h0 l1 h1 l2 h2 l3 h3 wd := by kernel_rfl
def tr38 (sv l0 h0 l1 h1 l2 h2 l3 h3 wd : Int) : T (List Ar) :=
    T.br (M.checkSample { vol := sv, r0 := { lo := l0, hi := h0 }, r1 := { lo := l1, hi := h1 }, r2 := { lo := l2, hi := h2 }, r3 := { lo := l3, hi := h3 } } != (0 : Int)) (T.ret [Ar.agg [D.int IntKind.i64 (0 : Int), D.int IntKind.i64 (0 : Int), D.int IntKind.i64 (0 : Int), D.int IntKind.i64 (0 : Int), D.int IntKind.i64 (0 : Int), D.int IntKind.i64 (0 : Int), D.int IntKind.i64 (0 : Int), D.int IntKind.i64 (0 : Int), D.int IntKind.i64 (0 : Int)], Ar.c (D.int IntKind.i64 (M.checkSample { vol := sv, r0 := { lo := l0, hi := h0 }, r1 := { lo := l1, hi := h1 }, r2 := { lo := l2, hi := h2 }, r3 := { lo := l3, hi := h3 } }))]) (T.br (!M.within wd (0 : Int) (1000 : Int)) (T.ret [Ar.agg [D.int IntKind.i64 (0 : Int), D.int IntKind.i64 (0 : Int), D.int IntKind.i64 (0 : Int), D.int IntKind.i64 (0 : Int), D.int IntKind.i64 (0 : Int), D.int IntKind.i64 (0 : Int), D.int IntKind.i64 (0 : Int), D.int IntKind.i64 (0 : Int), D.int IntKind.i64 (0 : Int)], Ar.c (D.int IntKind.i64 (2 : Int))]) (T.ret [Ar.agg [D.int IntKind.i64 sv, D.int IntKind.i64 (if IntKind.wrap IntKind.i64 (l0 - wd) > (0 : Int) then IntKind.wrap IntKind.i64 (l0 - wd) else (0 : Int)), D.int IntKind.i64 (if IntKind.wrap IntKind.i64 (h0 + wd) < (1000 : Int) then IntKind.wrap IntKind.i64 (h0 + wd) else (1000 : Int)), D.int IntKind.i64 (if IntKind.wrap IntKind.i64 (l1 - wd) > (0 : Int) then IntKind.wrap IntKind.i64 (l1 - wd) else (0 : Int)), D.int IntKind.i64 (if IntKind.wrap IntKind.i64 (h1 + wd) < (1000 : Int) then IntKind.wrap IntKind.i64 (h1 + wd) else (1000 : Int)), D.int IntKind.i64 (if IntKind.wrap IntKind.i64 (l2 - wd) > (0 : Int) then IntKind.wrap IntKind.i64 (l2 - wd) else (0 : Int)), D.int IntKind.i64 (if IntKind.wrap IntKind.i64 (h2 + wd) < (1000 : Int) then IntKind.wrap IntKind.i64 (h2 + wd) else (1000 : Int)), D.int IntKind.i64 (if IntKind.wrap IntKind.i64 (l3 - wd) > (0 : Int) then IntKind.wrap IntKind.i64 (l3 - wd) else (0 : Int)), D.int IntKind.i64 (if IntKind.wrap IntKind.i64 (h3 + wd) < (1000 : Int) then IntKind.wrap IntKind.i64 (h3 + wd) else (1000 : Int))], Ar.c (D.int IntKind.i64 (0 : Int))]))
theorem t38 (sv l0 h0 l1 h1 l2 h2 l3 h3 : Int) (wd : Int) : runFnX Try.prog G0 (lookS [v32, v35]) (fun _ => [(1000019, [], none), (3000007, [], none)]) [] 1 20 3 38 Try.f38 [.agg [dI sv, dI l0, dI h0, dI l1, dI h1, dI l2, dI h2, dI l3, dI h3], .c (dI wd)] =
    tr38 sv l0 h0 l1 h1 l2 h2 l3 h3 wd := by kernel_rfl
theorem w37 (sv l0 h0 l1 h1 l2 h2 l3 h3 wd : Int) : (tr37 sv l0 h0 l1 h1 l2 h2 l3 h3 wd).wp (fun rs => rsEqv rs (resS (M.widened (⟨sv, ⟨l0, h0⟩, ⟨l1, h1⟩, ⟨l2, h2⟩, ⟨l3, h3⟩⟩ : Sample) wd) (M.wideErr (⟨sv, ⟨l0, h0⟩, ⟨l1, h1⟩, ⟨l2, h2⟩, ⟨l3, h3⟩⟩ : Sample) wd))) := by
  unfold tr37
  have key : M.wideErr (⟨sv, ⟨l0, h0⟩, ⟨l1, h1⟩, ⟨l2, h2⟩, ⟨l3, h3⟩⟩ : Sample) wd = M.first [M.checkSample (⟨sv, ⟨l0, h0⟩, ⟨l1, h1⟩, ⟨l2, h2⟩, ⟨l3, h3⟩⟩ : Sample), M.unl (M.within wd 0 1000) 2] := rfl
  refine wp_br (fun hb => ?_) (fun hb => ?_)
  · have e1 : M.widened (⟨sv, ⟨l0, h0⟩, ⟨l1, h1⟩, ⟨l2, h2⟩, ⟨l3, h3⟩⟩ : Sample) wd = M.zeroS := by unfold M.widened; rw [key, hb]; rfl
    rw [e1, key]; exact rsEqv_refl _
  · have e1 : M.widened (⟨sv, ⟨l0, h0⟩, ⟨l1, h1⟩, ⟨l2, h2⟩, ⟨l3, h3⟩⟩ : Sample) wd = M.wide (⟨sv, ⟨l0, h0⟩, ⟨l1, h1⟩, ⟨l2, h2⟩, ⟨l3, h3⟩⟩ : Sample) wd := by unfold M.widened; rw [key, hb]; rfl
    have e2 : M.wideErr (⟨sv, ⟨l0, h0⟩, ⟨l1, h1⟩, ⟨l2, h2⟩, ⟨l3, h3⟩⟩ : Sample) wd = 0 := by rw [key]; simpa using hb
    rw [e1, e2]; exact rsEqv_refl _
theorem w38 (sv l0 h0 l1 h1 l2 h2 l3 h3 wd : Int) : (tr38 sv l0 h0 l1 h1 l2 h2 l3 h3 wd).wp (fun rs => rsEqv rs (resS (M.widened (⟨sv, ⟨l0, h0⟩, ⟨l1, h1⟩, ⟨l2, h2⟩, ⟨l3, h3⟩⟩ : Sample) wd) (M.wideErr (⟨sv, ⟨l0, h0⟩, ⟨l1, h1⟩, ⟨l2, h2⟩, ⟨l3, h3⟩⟩ : Sample) wd))) := by
  unfold tr38
  have key : M.wideErr (⟨sv, ⟨l0, h0⟩, ⟨l1, h1⟩, ⟨l2, h2⟩, ⟨l3, h3⟩⟩ : Sample) wd = M.first [M.checkSample (⟨sv, ⟨l0, h0⟩, ⟨l1, h1⟩, ⟨l2, h2⟩, ⟨l3, h3⟩⟩ : Sample), M.unl (M.within wd 0 1000) 2] := rfl
  rw [first_cons] at key
  refine wp_br (fun hb => ?_) (fun hb => ?_)
  · have hb0 : M.checkSample (⟨sv, ⟨l0, h0⟩, ⟨l1, h1⟩, ⟨l2, h2⟩, ⟨l3, h3⟩⟩ : Sample) ≠ 0 := by simpa using hb
    rw [if_neg hb0] at key
    have e1 : M.widened (⟨sv, ⟨l0, h0⟩, ⟨l1, h1⟩, ⟨l2, h2⟩, ⟨l3, h3⟩⟩ : Sample) wd = M.zeroS := by unfold M.widened; rw [key, hb]; rfl
    rw [e1, key]; exact rsEqv_refl _
  · have hb0 : M.checkSample (⟨sv, ⟨l0, h0⟩, ⟨l1, h1⟩, ⟨l2, h2⟩, ⟨l3, h3⟩⟩ : Sample) = 0 := by simpa using hb
    rw [if_pos hb0] at key
    refine wp_br (fun hc => ?_) (fun hc => ?_)
    · have hc := not_true hc
      rw [hc] at key
      have e2 : M.wideErr (⟨sv, ⟨l0, h0⟩, ⟨l1, h1⟩, ⟨l2, h2⟩, ⟨l3, h3⟩⟩ : Sample) wd = 2 := key
      have e1 : M.widened (⟨sv, ⟨l0, h0⟩, ⟨l1, h1⟩, ⟨l2, h2⟩, ⟨l3, h3⟩⟩ : Sample) wd = M.zeroS := by unfold M.widened; rw [e2]; rfl
      rw [e1, e2]; exact rsEqv_refl _
    · have hc := not_false' hc
      rw [hc] at key
      have e2 : M.wideErr (⟨sv, ⟨l0, h0⟩, ⟨l1, h1⟩, ⟨l2, h2⟩, ⟨l3, h3⟩⟩ : Sample) wd = 0 := key
      have e1 : M.widened (⟨sv, ⟨l0, h0⟩, ⟨l1, h1⟩, ⟨l2, h2⟩, ⟨l3, h3⟩⟩ : Sample) wd = M.wide (⟨sv, ⟨l0, h0⟩, ⟨l1, h1⟩, ⟨l2, h2⟩, ⟨l3, h3⟩⟩ : Sample) wd := by unfold M.widened; rw [e2]; rfl
      rw [e1, e2]; exact rsEqv_refl _
def dom37 : DomF
  | [.agg [.int .i64 sv, .int .i64 l0, .int .i64 h0, .int .i64 l1, .int .i64 h1, .int .i64 l2, .int .i64 h2, .int .i64 l3, .int .i64 h3], .c (.int .i64 wd)] => some ([], resS (M.widened (⟨sv, ⟨l0, h0⟩, ⟨l1, h1⟩, ⟨l2, h2⟩, ⟨l3, h3⟩⟩ : Sample) wd) (M.wideErr (⟨sv, ⟨l0, h0⟩, ⟨l1, h1⟩, ⟨l2, h2⟩, ⟨l3, h3⟩⟩ : Sample) wd))
  | _ => none
def v37 : Nat × Sm := (37, fokSm dom37)
theorem C37 : FOK Try.prog G0 gw 37 dom37 := by
  intro ags p r hd hp κ w xs hw hl hG hx
  unfold dom37 at hd
  split at hd
  · rename_i sv l0 h0 l1 h1 l2 h2 l3 h3 wd
    simp only [Option.some.injEq, Prod.mk.injEq] at hd
    obtain ⟨rfl, rfl⟩ := hd
    have heq : agsEqv [.agg [.int .i64 sv, .int .i64 l0, .int .i64 h0, .int .i64 l1, .int .i64 h1, .int .i64 l2, .int .i64 h2, .int .i64 l3, .int .i64 h3], .c (.int .i64 wd)] [.agg [.int .i64 sv, .int .i64 l0, .int .i64 h0, .int .i64 l1, .int .i64 h1, .int .i64 l2, .int .i64 h2, .int .i64 l3, .int .i64 h3], .c (.int .i64 wd)] := ⟨Ag.eqv_refl _, Ag.eqv_refl _, trivial⟩
    exact fokX_fin mixed gw_stable (sl := [v49, v95, v80, v64]) ⟨S49, S95, S80, S64, trivial⟩ Try.func37 hw hl hG hx heq rfl (t37 sv l0 h0 l1 h1 l2 h2 l3 h3 wd) (w37 sv l0 h0 l1 h1 l2 h2 l3 h3 wd)
  · cases hd
theorem S37 : SumOK Try.prog G0 gw 37 (fokSm dom37) := fok_sum Try.func37 rfl C37
def dom38 : DomF
  | [.agg [.int .i64 sv, .int .i64 l0, .int .i64 h0, .int .i64 l1, .int .i64 h1, .int .i64 l2, .int .i64 h2, .int .i64 l3, .int .i64 h3], .c (.int .i64 wd)] => some ([], resS (M.widened (⟨sv, ⟨l0, h0⟩, ⟨l1, h1⟩, ⟨l2, h2⟩, ⟨l3, h3⟩⟩ : Sample) wd) (M.wideErr (⟨sv, ⟨l0, h0⟩, ⟨l1, h1⟩, ⟨l2, h2⟩, ⟨l3, h3⟩⟩ : Sample) wd))
  | _ => none
def v38 : Nat × Sm := (38, fokSm dom38)
theorem C38 : FOK Try.prog G0 gw 38 dom38 := by
  intro ags p r hd hp κ w xs hw hl hG hx
  unfold dom38 at hd
  split at hd
  · rename_i sv l0 h0 l1 h1 l2 h2 l3 h3 wd
    simp only [Option.some.injEq, Prod.mk.injEq] at hd
    obtain ⟨rfl, rfl⟩ := hd
    have heq : agsEqv [.agg [.int .i64 sv, .int .i64 l0, .int .i64 h0, .int .i64 l1, .int .i64 h1, .int .i64 l2, .int .i64 h2, .int .i64 l3, .int .i64 h3], .c (.int .i64 wd)] [.agg [.int .i64 sv, .int .i64 l0, .int .i64 h0, .int .i64 l1, .int .i64 h1, .int .i64 l2, .int .i64 h2, .int .i64 l3, .int .i64 h3], .c (.int .i64 wd)] := ⟨Ag.eqv_refl _, Ag.eqv_refl _, trivial⟩
    exact fokX_fin mixed gw_stable (sl := [v32, v35]) ⟨S32, S35, trivial⟩ Try.func38 hw hl hG hx heq rfl (t38 sv l0 h0 l1 h1 l2 h2 l3 h3 wd) (w38 sv l0 h0 l1 h1 l2 h2 l3 h3 wd)
  · cases hd
theorem S38 : SumOK Try.prog G0 gw 38 (fokSm dom38) := fok_sum Try.func38 rfl C38
end Go.Bl
end

section
set_option linter.unusedVariables false
set_option linter.unusedSimpArgs false
set_option maxRecDepth 100000
namespace Go.Bl
open Go.V Go.Proofs
def dom20f : DomF
  | [.c (.sl _ n_l st_l F_l), .agg [.int .i64 sv, .int .i64 l0, .int .i64 h0, .int .i64 l1, .int .i64 h1, .int .i64 l2, .int .i64 h2, .int .i64 l3, .int .i64 h3]] => (match Nat.beq st_l 7 with
    | true => some ([eC.Is n_l F_l, ∀ c, c ∈ (eC.list n_l F_l) → c.nm.size ≤ 1000000], resB (M.best (eC.list n_l F_l) ⟨sv, ⟨l0, h0⟩, ⟨l1, h1⟩, ⟨l2, h2⟩, ⟨l3, h3⟩⟩))
    | _ => none)
  | _ => none
def v20f : Nat × Sm := (20, fokSm dom20f)
theorem C20f : FOK Try.prog G0 gw 20 dom20f := by
  intro ags p r hd hp κ w xs hw hl hG hx
  unfold dom20f at hd
  split at hd
  · rename_i q_l n_l st_l F_l sv l0 h0 l1 h1 l2 h2 l3 h3
    split at hd
    · rename_i hst
      simp only [Option.some.injEq, Prod.mk.injEq] at hd
      obtain ⟨rfl, rfl⟩ := hd
      obtain ⟨hI, hn, _⟩ := hp
      have g1 := Nat.eq_of_beq_eq_true hst
      subst g1
      refine C20 _ _ _ (rfl : dom20 _ = _) ?_ κ w xs hw hl hG hx
      exact ⟨hI, hn, best_okay _ _, trivial⟩
    · cases hd
  · cases hd
theorem S20f : SumOK Try.prog G0 gw 20 (fokSm dom20f) := fok_sum Try.func20 rfl C20f
def dom26f : DomF
  | [.c (.sl _ n_l st_l F_l), .agg [.int .i64 sv, .int .i64 l0, .int .i64 h0, .int .i64 l1, .int .i64 h1, .int .i64 l2, .int .i64 h2, .int .i64 l3, .int .i64 h3]] => (match Nat.beq st_l 7 with
    | true => some ([eC.Is n_l F_l, ∀ c, c ∈ (eC.list n_l F_l) → c.nm.size ≤ 1000000, (eC.list n_l F_l).length ≤ 1000000], resN (M.near (eC.list n_l F_l) ⟨sv, ⟨l0, h0⟩, ⟨l1, h1⟩, ⟨l2, h2⟩, ⟨l3, h3⟩⟩))
    | _ => none)
  | _ => none
def v26f : Nat × Sm := (26, fokSm dom26f)
theorem C26f : FOK Try.prog G0 gw 26 dom26f := by
  intro ags p r hd hp κ w xs hw hl hG hx
  unfold dom26f at hd
  split at hd
  · rename_i q_l n_l st_l F_l sv l0 h0 l1 h1 l2 h2 l3 h3
    split at hd
    · rename_i hst
      simp only [Option.some.injEq, Prod.mk.injEq] at hd
      obtain ⟨rfl, rfl⟩ := hd
      obtain ⟨hI, hn, hl9, _⟩ := hp
      have g1 := Nat.eq_of_beq_eq_true hst
      subst g1
      refine C26 _ _ _ (rfl : dom26 _ = _) ?_ κ w xs hw hl hG hx
      exact ⟨hI, hn, hl9, near_okay _ _, trivial⟩
    · cases hd
  · cases hd
theorem S26f : SumOK Try.prog G0 gw 26 (fokSm dom26f) := fok_sum Try.func26 rfl C26f
end Go.Bl
end

section
set_option linter.unusedVariables false
set_option linter.unusedSimpArgs false
set_option maxRecDepth 100000
namespace Go.Bl
open Go.V Go.Proofs Go.Lp
theorem cmp_le {n d m k : Int} (h : n * k ≤ m * d) : M.cmp n d m k ≤ 0 := by
  unfold M.cmp
  by_cases h1 : n * k < m * d
  · rw [if_pos h1]; decide
  · rw [if_neg h1, if_pos (by omega)]; decide
section
variable {l : List Cask} {s : Sample} {x : M.Corner}
theorem best_le (hx : BestS l s x) {pt : List Int} {den : Int} (hb : Blend l s pt den 0) : cost l x.pt * den ≤ cost l pt * x.den := by
  have hw := weak_blend hb (each_nn hx.p.all fun b hb => hb.1) (g := fun j => en (M.costs l) j * (M.wtsOf x l.length).den) hx.p.gift
  rw [Int.mul_zero, Int.add_zero] at hw
  have e : smI (fun j => en (M.costs l) j * (M.wtsOf x l.length).den * en pt j) (List.range l.length) = (M.wtsOf x l.length).den * cost l pt := by
    unfold cost
    rw [← smI_smul]
    exact smI_congr fun j hj => by rw [costs_en (List.mem_range.1 hj), Int.mul_comm (l.getD j dfC).cost, Int.mul_assoc]
  rw [e] at hw
  have h1 := Int.mul_le_mul_of_nonneg_right hw (Int.le_of_lt hx.b.dp)
  have h2 : bound l s (M.wtsOf x l.length) * den * x.den = (M.wtsOf x l.length).den * (cost l x.pt * den) := by rw [Int.mul_right_comm, hx.eq, Int.mul_assoc]
  rw [h2, Int.mul_assoc] at h1
  exact Int.le_of_mul_le_mul_left h1 (by have := hx.p.den; omega)
theorem near_le (hx : NearS l s x) {pt : List Int} {den far : Int} (hb : Blend l s pt den far) (h0 : 0 ≤ far) : en x.pt l.length * den ≤ far * x.den := by
  have hw := weak_blend hb (each_nn hx.p.all fun b hb => hb.1) (g := fun j => en (M.far l) j * (M.wtsOf x l.length).den) hx.p.gift
  rw [smI_congr (h := fun _ => 0) (fun j hj => by
    have hj := List.mem_range.1 hj
    rw [far_en (by omega), if_neg (by omega), Int.zero_mul, Int.zero_mul]), smI_zero, Int.zero_add] at hw
  have hw := Int.le_trans hw (Int.mul_le_mul_of_nonneg_right hx.ws h0)
  have h1 := Int.mul_le_mul_of_nonneg_right hw (Int.le_of_lt hx.b.dp)
  have h2 : bound l s (M.wtsOf x l.length) * den * x.den = (M.wtsOf x l.length).den * (en x.pt l.length * den) := by rw [Int.mul_right_comm, hx.eq, Int.mul_assoc]
  rw [h2, Int.mul_assoc] at h1
  exact Int.le_of_mul_le_mul_left h1 (by have := hx.p.den; omega)
theorem best_cases (he : M.taskErr l s = 0) : (∃ x, BestS l s x ∧ M.best l s = M.bestC l x) ∨ ((∀ pt den, ¬ Blend l s pt den 0) ∧ M.best l s = ⟨0, 0, 0, [], M.zeroW, 12⟩) := by
  have h := task_right he
  have hb : M.best l s = (match M.pBest l s with | some x => M.bestC l x | none => ⟨0, 0, 0, [], M.zeroW, 12⟩) := by
    unfold M.best; rw [he]; rfl
  cases hp : M.pBest l s with
  | some x => exact .inl ⟨x, best_some h hp, by rw [hb, hp]⟩
  | none => exact .inr ⟨fun pt den hq => best_none h hp hq, by rw [hb, hp]⟩
theorem near_err (he : M.taskErr l s = 0) : M.nearErr l s = M.unl (decide (vols l ≥ s.vol)) 24 := by
  have h := task_right he
  unfold M.taskErr at he
  have hz := first_nil _ he
  unfold M.nearErr
  rw [hz (M.casksErr l) (by simp), hz (M.checkSample s) (by simp), vols_eq h, first_cons, if_pos rfl, first_cons, if_pos rfl, first_cons]
  split
  · rename_i e; rw [e]; rfl
  · rfl
theorem near_cases (he : M.taskErr l s = 0) : (vols l < s.vol ∧ M.near l s = ⟨0, [], 0, 0, 24⟩) ∨ (s.vol ≤ vols l ∧ ∃ x, NearS l s x ∧ M.near l s = ⟨x.den, x.pt.take l.length, M.told1 (en x.pt l.length) (s.vol * x.den), M.told2 (en x.pt l.length) (s.vol * x.den), 0⟩) := by
  have h := task_right he
  have hn := near_err he
  by_cases hv : s.vol ≤ vols l
  · rw [decide_eq_true hv] at hn
    have hn : M.nearErr l s = 0 := hn
    have hx := near_some h hv
    refine .inr ⟨hv, M.pNear l s, hx, ?_⟩
    obtain ⟨ho, hb⟩ := near_take h hx
    unfold M.near
    rw [hn]
    show M.nearC l s (M.pNear l s) = _
    unfold M.nearC
    rw [near_away h hx, sum_vol h ho.parts, hb.sum]
  · rw [decide_eq_false hv] at hn
    have hn : M.nearErr l s = 24 := hn
    refine .inl ⟨by omega, ?_⟩
    unfold M.near
    rw [hn]; rfl
theorem near_pos (h : RightL l s) (hx : NearS l s x) : 0 < s.vol * x.den ∧ (en x.pt l.length).natAbs < 9223372036854775808 ∧ (s.vol * x.den).natAbs < 9223372036854775808 := by
  have h1 := h.v
  have h2 := hx.b.dp
  have h3 := hx.d
  obtain ⟨ho, _⟩ := near_take h hx
  have h4 := (far_away ho).2.1
  rw [near_away h hx] at h4
  have m0 := Int.mul_pos (show 0 < s.vol by omega) h2
  have m1 : s.vol * x.den ≤ 10000 * 200000000000 := Int.mul_le_mul h1.2 h3 (by omega) (by decide)
  refine ⟨m0, by omega, by omega⟩
theorem best_i64 (h : RightL l s) (hx : BestS l s x) : (cost l x.pt).natAbs < 9223372036854775808 ∧ x.den.natAbs < 9223372036854775808 := by
  have ho := open_of h hx.b hx.d hx.pl
  have h1 := cost_ok ho
  rw [sum_cost h ho.parts] at h1
  have := hx.b.dp; have := hx.d
  exact ⟨h1, by omega⟩
theorem Blend.sample {s' : Sample} {pt : List Int} {den far : Int} (hb : Blend l s pt den far) (hv : s'.vol = s.vol) (hh : ∀ k, k < 4 → (M.rg s k).hi ≤ (M.rg s' k).hi) (hl : ∀ k, k < 4 → (M.rg s' k).lo ≤ (M.rg s k).lo) : Blend l s' pt den far := by
  refine ⟨hb.dp, hb.p0, hb.p1, by rw [hv]; exact hb.sum, fun k hk => Int.le_trans (smI_le fun i hi => ?_) (hb.hi k hk), fun k hk => Int.le_trans (smI_le fun i hi => ?_) (hb.lo k hk)⟩
  · exact Int.mul_le_mul_of_nonneg_right (by have := hh k hk; omega) (hb.p0 i (List.mem_range.1 hi))
  · exact Int.mul_le_mul_of_nonneg_right (by have := hl k hk; omega) (hb.p0 i (List.mem_range.1 hi))
theorem sample_ok {s : Sample} (hv : 1 ≤ s.vol ∧ s.vol ≤ 10000) (h : ∀ k, k < 4 → (0 ≤ (M.rg s k).lo ∧ (M.rg s k).lo ≤ 1000) ∧ (0 ≤ (M.rg s k).hi ∧ (M.rg s k).hi ≤ 1000) ∧ (M.rg s k).lo ≤ (M.rg s k).hi) : M.checkSample s = 0 := by
  have key : ∀ k, k < 4 → M.rgErr (M.rg s k) = 0 := by
    intro k hk
    obtain ⟨h1, h2, h3⟩ := h k hk
    unfold M.rgErr M.within
    rw [decide_eq_true h1.1, decide_eq_true h1.2, decide_eq_true h2.1, decide_eq_true h2.2, decide_eq_true h3]; rfl
  unfold M.checkSample
  have hw : M.within s.vol 1 10000 = true := by unfold M.within; rw [decide_eq_true hv.1, decide_eq_true hv.2]; rfl
  rw [hw, show M.rgErr s.r0 = 0 from key 0 (by decide), show M.rgErr s.r1 = 0 from key 1 (by decide), show M.rgErr s.r2 = 0 from key 2 (by decide), show M.rgErr s.r3 = 0 from key 3 (by decide)]; rfl
structure Wide (s s' : Sample) (d : Int) : Prop where
  d0 : 0 ≤ d ∧ d ≤ 1000
  v : s'.vol = s.vol
  hi : ∀ k, k < 4 → (M.rg s k).hi ≤ (M.rg s' k).hi ∧ (M.rg s' k).hi ≤ (M.rg s k).hi + d ∧ ((M.rg s' k).hi = 1000 ∨ (M.rg s' k).hi = (M.rg s k).hi + d)
  lo : ∀ k, k < 4 → (M.rg s' k).lo ≤ (M.rg s k).lo ∧ (M.rg s k).lo - d ≤ (M.rg s' k).lo ∧ ((M.rg s' k).lo = 0 ∨ (M.rg s' k).lo = (M.rg s k).lo - d)
theorem widened_spec {d : Int} (h : M.wideErr s d = 0) : Wide s (M.widened s d) d ∧ M.checkSample s = 0 ∧ M.checkSample (M.widened s d) = 0 := by
  have hw : M.widened s d = M.wide s d := by unfold M.widened; rw [h]; rfl
  unfold M.wideErr at h
  have hz := first_nil _ h
  have h1 := hz (M.checkSample s) (by simp)
  have hd := within_spec (unl_zero (by decide) (hz (M.unl (M.within d 0 1000) 2) (by simp)))
  obtain ⟨sv, slo, shi, sle⟩ := sample_right h1
  have key : ∀ r : Rg, (0 ≤ r.lo ∧ r.lo ≤ 1000) → (0 ≤ r.hi ∧ r.hi ≤ 1000) → r.lo ≤ r.hi → (M.wideR r d).lo = (if r.lo - d > 0 then r.lo - d else 0) ∧ (M.wideR r d).hi = (if r.hi + d < 1000 then r.hi + d else 1000) := by
    intro r a b c
    unfold M.wideR
    rw [wrap_id (n := r.lo - d) (by omega) (by omega), wrap_id (n := r.hi + d) (by omega) (by omega)]
    exact ⟨rfl, rfl⟩
  have all : ∀ k, k < 4 → (M.rg (M.wide s d) k).lo = (if (M.rg s k).lo - d > 0 then (M.rg s k).lo - d else 0) ∧ (M.rg (M.wide s d) k).hi = (if (M.rg s k).hi + d < 1000 then (M.rg s k).hi + d else 1000) := by
    intro k hk
    have a := slo k hk; have b := shi k hk; have c := sle k hk
    rcases four hk with rfl | rfl | rfl | rfl <;> exact key _ a b c
  rw [hw]
  refine ⟨⟨hd, rfl, fun k hk => ?_, fun k hk => ?_⟩, h1, sample_ok sv fun k hk => ?_⟩
  · obtain ⟨e1, e2⟩ := all k hk
    have a := slo k hk; have b := shi k hk; have c := sle k hk
    rw [e2]; split <;> omega
  · obtain ⟨e1, e2⟩ := all k hk
    have a := slo k hk; have b := shi k hk; have c := sle k hk
    rw [e1]; split <;> omega
  · obtain ⟨e1, e2⟩ := all k hk
    have a := slo k hk; have b := shi k hk; have c := sle k hk
    rw [e1, e2]; split <;> split <;> omega
theorem task_wide {d : Int} (ht : M.taskErr l s = 0) (h : M.wideErr s d = 0) : M.taskErr l (M.widened s d) = 0 ∧ Wide s (M.widened s d) d := by
  obtain ⟨h1, h2, h3⟩ := widened_spec h
  unfold M.taskErr at ht ⊢
  rw [first_nil _ ht _ (List.mem_cons_self ..), h3]
  exact ⟨rfl, h1⟩
theorem wide_blend {s' : Sample} {d : Int} (hw : Wide s s' d) {pt : List Int} {den far : Int} (hb : Blend l s pt den far) : Blend l s' pt den far :=
  hb.sample hw.v (fun k hk => (hw.hi k hk).1) (fun k hk => (hw.lo k hk).1)
theorem wider_best {d : Int} (ht : M.taskErr l s = 0) (hd : M.wideErr s d = 0) (hb : (M.best l s).e = 0) :
    (M.best l (M.widened s d)).e = 0 ∧ 1 ≤ (M.best l s).c1 ∧ 1 ≤ (M.best l (M.widened s d)).c1 ∧ (M.best l s).c0.natAbs < 9223372036854775808 ∧ (M.best l s).c1.natAbs < 9223372036854775808 ∧ (M.best l (M.widened s d)).c0.natAbs < 9223372036854775808 ∧ (M.best l (M.widened s d)).c1.natAbs < 9223372036854775808 ∧
    M.cmp (M.best l (M.widened s d)).c0 (M.best l (M.widened s d)).c1 (M.best l s).c0 (M.best l s).c1 ≤ 0 := by
  have h := task_right ht
  obtain ⟨ht', hw⟩ := task_wide ht hd
  have h' := task_right ht'
  rcases best_cases ht with ⟨x, hx, ex⟩ | ⟨_, ex⟩
  · rcases best_cases ht' with ⟨y, hy, ey⟩ | ⟨hn, _⟩
    · have hxp : OpenR l s x.den x.pt := open_of h hx.b hx.d hx.pl
      have hyp : OpenR l (M.widened s d) y.den y.pt := open_of h' hy.b hy.d hy.pl
      have e1 : M.bestC l x = ⟨M.told1 (cost l x.pt) x.den, M.told2 (cost l x.pt) x.den, x.den, x.pt, M.wtsOf x l.length, 0⟩ := by unfold M.bestC; rw [sum_cost h hxp.parts]
      have e2 : M.bestC l y = ⟨M.told1 (cost l y.pt) y.den, M.told2 (cost l y.pt) y.den, y.den, y.pt, M.wtsOf y l.length, 0⟩ := by unfold M.bestC; rw [sum_cost h' hyp.parts]
      rw [ex, ey, e1, e2]
      have p1 := told_pos (n := cost l x.pt) hx.b.dp
      have p2 := told_pos (n := cost l y.pt) hy.b.dp
      have q1 := told_ok (n := cost l x.pt) hx.b.dp
      have q2 := told_ok (n := cost l y.pt) hy.b.dp
      have i1 := best_i64 h hx
      have i2 := best_i64 h' hy
      refine ⟨rfl, by show 1 ≤ M.told2 _ _; omega, by show 1 ≤ M.told2 _ _; omega, Nat.lt_of_le_of_lt q1.1 i1.1, Nat.lt_of_le_of_lt q1.2 i1.2, Nat.lt_of_le_of_lt q2.1 i2.1, Nat.lt_of_le_of_lt q2.2 i2.2, ?_⟩
      show M.cmp (M.told1 _ _) (M.told2 _ _) (M.told1 _ _) (M.told2 _ _) ≤ 0
      rw [cmp_told hy.b.dp hx.b.dp]
      exact cmp_le (best_le hy (wide_blend hw hx.b))
    · exact absurd (wide_blend hw hx.b) (hn _ _)
  · rw [ex] at hb; exact absurd (show (12 : Int) = 0 from hb) (by decide)
theorem wider_near {d : Int} (ht : M.taskErr l s = 0) (hd : M.wideErr s d = 0) : ((M.near l s).e ≠ 0 → (M.near l s).e = (M.near l (M.widened s d)).e) ∧ ((M.near l s).e = 0 →
    (M.near l (M.widened s d)).e = 0 ∧ 0 < (M.near l s).d1 ∧ 0 < (M.near l (M.widened s d)).d1 ∧ (M.near l s).d0.natAbs < 9223372036854775808 ∧ (M.near l s).d1.natAbs < 9223372036854775808 ∧ (M.near l (M.widened s d)).d0.natAbs < 9223372036854775808 ∧ (M.near l (M.widened s d)).d1.natAbs < 9223372036854775808 ∧
    M.cmp (M.near l (M.widened s d)).d0 (M.near l (M.widened s d)).d1 (M.near l s).d0 (M.near l s).d1 ≤ 0) := by
  have h := task_right ht
  obtain ⟨ht', hw⟩ := task_wide ht hd
  have h' := task_right ht'
  have hv := hw.v
  rcases near_cases ht with ⟨v1, ex⟩ | ⟨v1, x, hx, ex⟩ <;> rcases near_cases ht' with ⟨v2, ey⟩ | ⟨v2, y, hy, ey⟩
  · rw [ex, ey]; exact ⟨fun _ => rfl, fun e => absurd (show (24 : Int) = 0 from e) (by decide)⟩
  · omega
  · omega
  · rw [ex, ey]
    refine ⟨fun e => absurd rfl e, fun _ => ?_⟩
    obtain ⟨a1, a2, a3⟩ := near_pos h hx
    obtain ⟨b1, b2, b3⟩ := near_pos h' hy
    have p1 := told_pos (n := en x.pt l.length) a1
    have p2 := told_pos (n := en y.pt l.length) b1
    have q1 := told_ok (n := en x.pt l.length) a1
    have q2 := told_ok (n := en y.pt l.length) b1
    refine ⟨rfl, p1, p2, Nat.lt_of_le_of_lt q1.1 a2, Nat.lt_of_le_of_lt q1.2 a3, Nat.lt_of_le_of_lt q2.1 b2, Nat.lt_of_le_of_lt q2.2 b3, ?_⟩
    show M.cmp (M.told1 _ _) (M.told2 _ _) (M.told1 _ _) (M.told2 _ _) ≤ 0
    rw [cmp_told b1 a1]
    have hle := near_le hy (wide_blend hw hx.b) hx.f0
    refine cmp_le ?_
    rw [hv]
    have hvp : 0 ≤ s.vol := by have := h.v; omega
    have := Int.mul_le_mul_of_nonneg_left hle hvp
    rw [Int.mul_left_comm (en y.pt l.length), Int.mul_left_comm (en x.pt l.length)]
    exact this
end
end Go.Bl
end

section
set_option linter.unusedVariables false
set_option linter.unusedSimpArgs false
set_option maxRecDepth 100000
namespace Go.Bl
open Go.V Go.Proofs
def trN8 (l : List Cask) (s : Sample) (wd : Int) : T (List Ar) :=
    T.need (Enc.Is eC (List.length l) (Enc.F eC l)) (T.need (List.length (Enc.list eC (List.length l) (Enc.F eC l)) ≤ (1000000 : Nat)) (T.need (Enc.Is eC (List.length l) (Enc.F eC (Enc.list eC (List.length l) (Enc.F eC l)))) (T.need (∀ (c : Cask), c ∈ Enc.list eC (List.length l) (Enc.F eC (Enc.list eC (List.length l) (Enc.F eC l))) → ByteArray.size (Cask.nm c) ≤ (1000000 : Nat)) (T.need (List.length (Enc.list eC (List.length l) (Enc.F eC (Enc.list eC (List.length l) (Enc.F eC l)))) ≤ (1000000 : Nat)) (T.need (Enc.Is eC (List.length l) (Enc.F eC l)) (T.need (List.length (Enc.list eC (List.length l) (Enc.F eC l)) ≤ (1000000 : Nat)) (T.need (Enc.Is eC (List.length l) (Enc.F eC (Enc.list eC (List.length l) (Enc.F eC l)))) (T.need (∀ (c : Cask), c ∈ Enc.list eC (List.length l) (Enc.F eC (Enc.list eC (List.length l) (Enc.F eC l))) → ByteArray.size (Cask.nm c) ≤ (1000000 : Nat)) (T.need (List.length (Enc.list eC (List.length l) (Enc.F eC (Enc.list eC (List.length l) (Enc.F eC l)))) ≤ (1000000 : Nat)) (T.br ((M.near (Enc.list eC (List.length l) (Enc.F eC (Enc.list eC (List.length l) (Enc.F eC l)))) s).5 != (0 : Int)) (T.ret [Ar.c (D.bool ((M.near (Enc.list eC (List.length l) (Enc.F eC (Enc.list eC (List.length l) (Enc.F eC l)))) s).5 == (M.near (Enc.list eC (List.length l) (Enc.F eC (Enc.list eC (List.length l) (Enc.F eC l)))) (M.widened s wd)).5))]) (T.br ((M.near (Enc.list eC (List.length l) (Enc.F eC (Enc.list eC (List.length l) (Enc.F eC l)))) (M.widened s wd)).5 == (0 : Int)) (T.br (decide ((M.near (Enc.list eC (List.length l) (Enc.F eC (Enc.list eC (List.length l) (Enc.F eC l)))) s).4 > (0 : Int))) (T.br (decide ((M.near (Enc.list eC (List.length l) (Enc.F eC (Enc.list eC (List.length l) (Enc.F eC l)))) (M.widened s wd)).4 > (0 : Int))) (T.need ((0 : Int) < (M.near (Enc.list eC (List.length l) (Enc.F eC (Enc.list eC (List.length l) (Enc.F eC l)))) (M.widened s wd)).4) (T.need ((0 : Int) < (M.near (Enc.list eC (List.length l) (Enc.F eC (Enc.list eC (List.length l) (Enc.F eC l)))) s).4) (T.need (Int.natAbs (NearR.d0 (M.near (Enc.list eC (List.length l) (Enc.F eC (Enc.list eC (List.length l) (Enc.F eC l)))) (M.widened s wd))) < (9223372036854775808 : Nat)) (T.need (Int.natAbs (NearR.d1 (M.near (Enc.list eC (List.length l) (Enc.F eC (Enc.list eC (List.length l) (Enc.F eC l)))) (M.widened s wd))) < (9223372036854775808 : Nat)) (T.need (Int.natAbs (NearR.d0 (M.near (Enc.list eC (List.length l) (Enc.F eC (Enc.list eC (List.length l) (Enc.F eC l)))) s)) < (9223372036854775808 : Nat)) (T.need (Int.natAbs (NearR.d1 (M.near (Enc.list eC (List.length l) (Enc.F eC (Enc.list eC (List.length l) (Enc.F eC l)))) s)) < (9223372036854775808 : Nat)) (T.ret [Ar.c (D.bool (decide (M.cmp (M.near (Enc.list eC (List.length l) (Enc.F eC (Enc.list eC (List.length l) (Enc.F eC l)))) (M.widened s wd)).3 (M.near (Enc.list eC (List.length l) (Enc.F eC (Enc.list eC (List.length l) (Enc.F eC l)))) (M.widened s wd)).4 (M.near (Enc.list eC (List.length l) (Enc.F eC (Enc.list eC (List.length l) (Enc.F eC l)))) s).3 (M.near (Enc.list eC (List.length l) (Enc.F eC (Enc.list eC (List.length l) (Enc.F eC l)))) s).4 ≤ (0 : Int))))]))))))) (T.ret [Ar.c (D.bool false)])) (T.ret [Ar.c (D.bool false)])) (T.ret [Ar.c (D.bool false)]))))))))))))
def tr8 (l : List Cask) (s : Sample) (wd : Int) : T (List Ar) :=
    T.br (!true) (T.ret [Ar.c (D.bool false)]) (T.need (Enc.Is eC (List.length l) (Enc.F eC l)) (T.br (!M.someN (4 : Nat) (Enc.list eC (List.length l) (Enc.F eC l))) (T.ret [Ar.c (D.bool true)]) (T.br (M.wideErr s wd != M.wideErr s wd) (T.ret [Ar.c (D.bool false)]) (T.br (!((M.widened s wd).1 == (M.widened s wd).1 && ((Sample.r0 (M.widened s wd)).1 == (Sample.r0 (M.widened s wd)).1 && ((Sample.r0 (M.widened s wd)).2 == (Sample.r0 (M.widened s wd)).2 && true) && ((Sample.r1 (M.widened s wd)).1 == (Sample.r1 (M.widened s wd)).1 && ((Sample.r1 (M.widened s wd)).2 == (Sample.r1 (M.widened s wd)).2 && true) && ((Sample.r2 (M.widened s wd)).1 == (Sample.r2 (M.widened s wd)).1 && ((Sample.r2 (M.widened s wd)).2 == (Sample.r2 (M.widened s wd)).2 && true) && ((Sample.r3 (M.widened s wd)).1 == (Sample.r3 (M.widened s wd)).1 && ((Sample.r3 (M.widened s wd)).2 == (Sample.r3 (M.widened s wd)).2 && true) && true))) && true))) (T.ret [Ar.c (D.bool false)]) (T.br (M.wideErr s wd != (0 : Int)) (T.ret [Ar.c (D.bool true)]) (T.need (Enc.Is eC (List.length l) (Enc.F eC l)) (T.need (∀ (c : Cask), c ∈ Enc.list eC (List.length l) (Enc.F eC l) → ByteArray.size (Cask.nm c) ≤ (1000000 : Nat)) (T.br (M.taskErr (Enc.list eC (List.length l) (Enc.F eC l)) s != (0 : Int)) (T.ret [Ar.c (D.bool true)]) (T.need (Enc.Is eC (List.length l) (Enc.F eC l)) (T.need (List.length (Enc.list eC (List.length l) (Enc.F eC l)) ≤ (1000000 : Nat)) (T.need (Enc.Is eC (List.length l) (Enc.F eC (Enc.list eC (List.length l) (Enc.F eC l)))) (T.need (∀ (c : Cask), c ∈ Enc.list eC (List.length l) (Enc.F eC (Enc.list eC (List.length l) (Enc.F eC l))) → ByteArray.size (Cask.nm c) ≤ (1000000 : Nat)) (T.need (Enc.Is eC (List.length l) (Enc.F eC l)) (T.need (List.length (Enc.list eC (List.length l) (Enc.F eC l)) ≤ (1000000 : Nat)) (T.need (Enc.Is eC (List.length l) (Enc.F eC (Enc.list eC (List.length l) (Enc.F eC l)))) (T.need (∀ (c : Cask), c ∈ Enc.list eC (List.length l) (Enc.F eC (Enc.list eC (List.length l) (Enc.F eC l))) → ByteArray.size (Cask.nm c) ≤ (1000000 : Nat)) (T.br ((M.best (Enc.list eC (List.length l) (Enc.F eC (Enc.list eC (List.length l) (Enc.F eC l)))) s).6 == (0 : Int)) (T.br ((M.best (Enc.list eC (List.length l) (Enc.F eC (Enc.list eC (List.length l) (Enc.F eC l)))) (M.widened s wd)).6 != (0 : Int)) (T.ret [Ar.c (D.bool false)]) (T.br (decide ((M.best (Enc.list eC (List.length l) (Enc.F eC (Enc.list eC (List.length l) (Enc.F eC l)))) s).2 < (1 : Int))) (T.ret [Ar.c (D.bool false)]) (T.br (decide ((M.best (Enc.list eC (List.length l) (Enc.F eC (Enc.list eC (List.length l) (Enc.F eC l)))) (M.widened s wd)).2 < (1 : Int))) (T.ret [Ar.c (D.bool false)]) (T.need ((0 : Int) < (M.best (Enc.list eC (List.length l) (Enc.F eC (Enc.list eC (List.length l) (Enc.F eC l)))) (M.widened s wd)).2) (T.need ((0 : Int) < (M.best (Enc.list eC (List.length l) (Enc.F eC (Enc.list eC (List.length l) (Enc.F eC l)))) s).2) (T.need (Int.natAbs (BestR.c0 (M.best (Enc.list eC (List.length l) (Enc.F eC (Enc.list eC (List.length l) (Enc.F eC l)))) (M.widened s wd))) < (9223372036854775808 : Nat)) (T.need (Int.natAbs (BestR.c1 (M.best (Enc.list eC (List.length l) (Enc.F eC (Enc.list eC (List.length l) (Enc.F eC l)))) (M.widened s wd))) < (9223372036854775808 : Nat)) (T.need (Int.natAbs (BestR.c0 (M.best (Enc.list eC (List.length l) (Enc.F eC (Enc.list eC (List.length l) (Enc.F eC l)))) s)) < (9223372036854775808 : Nat)) (T.need (Int.natAbs (BestR.c1 (M.best (Enc.list eC (List.length l) (Enc.F eC (Enc.list eC (List.length l) (Enc.F eC l)))) s)) < (9223372036854775808 : Nat)) (T.br (decide (M.cmp (M.best (Enc.list eC (List.length l) (Enc.F eC (Enc.list eC (List.length l) (Enc.F eC l)))) (M.widened s wd)).1 (M.best (Enc.list eC (List.length l) (Enc.F eC (Enc.list eC (List.length l) (Enc.F eC l)))) (M.widened s wd)).2 (M.best (Enc.list eC (List.length l) (Enc.F eC (Enc.list eC (List.length l) (Enc.F eC l)))) s).1 (M.best (Enc.list eC (List.length l) (Enc.F eC (Enc.list eC (List.length l) (Enc.F eC l)))) s).2 > (0 : Int))) (T.ret [Ar.c (D.bool false)]) (trN8 l s wd))))))))))) (trN8 l s wd))))))))))))))))))
theorem t8 (q_l : Bool) (l : List Cask) (sv l0 h0 l1 h1 l2 h2 l3 h3 : Int) (wd : Int) : runFnX Try.prog G0 (lookS [v18, v19, v21, v37, v38, v22, v20f, v26f, v39]) (fun _ => []) [] 1 20 3 8 Try.f8 [.c (.sl q_l l.length 7 (eC.F l)), .agg [dI sv, dI l0, dI h0, dI l1, dI h1, dI l2, dI h2, dI l3, dI h3], .c (dI wd)] =
    tr8 l (⟨sv, ⟨l0, h0⟩, ⟨l1, h1⟩, ⟨l2, h2⟩, ⟨l3, h3⟩⟩ : Sample) wd := by kernel_rfl
theorem wN8 (l : List Cask) (s : Sample) (wd : Int) (hn : ∀ c, c ∈ l → c.nm.size ≤ 1000000) (hl : l.length ≤ 1000000) (ht : M.taskErr l s = 0) (hd : M.wideErr s wd = 0) : (trN8 l s wd).wp (fun rs => rsEqv rs [rB true]) := by
  unfold trN8
  simp only [Enc.list_F]
  obtain ⟨k1, k2⟩ := wider_near ht hd
  generalize M.near l (M.widened s wd) = B at *
  generalize M.near l s = A at *
  iterate 10 refine ⟨by first | exact Enc.is_F _ _ _ | assumption, ?_⟩
  refine wp_br (fun hb => ?_) (fun hb => ?_)
  · rw [k1 (by simpa using hb), beq_self_eq_true]; exact rsEqv_refl _
  · obtain ⟨q0, q1, q2, q3, q4, q5, q6, q7⟩ := k2 (by simpa using hb)
    refine wp_br (fun _ => wp_br (fun _ => wp_br (fun _ => ⟨q2, q1, q5, q6, q3, q4, ?_⟩) (fun e => absurd q2 (of_decide_eq_false e))) (fun e => absurd q1 (of_decide_eq_false e))) (fun e => by rw [q0] at e; exact absurd e (by decide))
    rw [decide_eq_true q7]; exact rsEqv_refl _
theorem w8 (l : List Cask) (s : Sample) (wd : Int) : (tr8 l s wd).wp (fun rs => rsEqv rs [rB true]) := by
  unfold tr8
  simp only [Enc.list_F, beq_self_eq_true, Bool.and_self, Bool.and_true, bne_self_eq_false, Bool.not_true]
  refine wp_br (fun hb => absurd hb (by decide)) (fun _ => ⟨Enc.is_F _ _ _, wp_br (fun _ => rsEqv_refl _) (fun hb => wp_br (fun h => absurd h (by decide)) (fun _ => wp_br (fun h => absurd h (by decide)) (fun _ => wp_br (fun _ => rsEqv_refl _) (fun hd => ?_))))⟩)
  have hs : M.someN 4 l = true := by simpa using hb
  obtain ⟨hl, hn⟩ := someN_small hs
  have hn' : ∀ c, c ∈ l → c.nm.size ≤ 1000000 := fun c hc => Nat.le_trans (hn c hc) (by decide)
  have hl' : l.length ≤ 1000000 := by omega
  have hd : M.wideErr s wd = 0 := by simpa using hd
  iterate 2 refine ⟨by first | exact Enc.is_F _ _ _ | assumption, ?_⟩
  refine wp_br (fun _ => rsEqv_refl _) (fun ht => ?_)
  have ht : M.taskErr l s = 0 := by simpa using ht
  have hN := wN8 l s wd hn' hl' ht hd
  have k1 := wider_best ht hd
  generalize trN8 l s wd = N at *
  generalize M.best l (M.widened s wd) = B at *
  generalize M.best l s = A at *
  iterate 8 refine ⟨by first | exact Enc.is_F _ _ _ | assumption, ?_⟩
  refine wp_br (fun hb => ?_) (fun _ => hN)
  obtain ⟨q0, q1, q2, q3, q4, q5, q6, q7⟩ := k1 (eq_of_beq hb)
  refine wp_br (fun e => by rw [q0] at e; exact absurd e (by decide)) (fun _ => wp_br (fun e => absurd (of_decide_eq_true e) (by omega)) (fun _ => wp_br (fun e => absurd (of_decide_eq_true e) (by omega)) (fun _ => ⟨by omega, by omega, q5, q6, q3, q4, wp_br (fun e => absurd (of_decide_eq_true e) (by omega)) (fun _ => hN)⟩)))
def dom8 : DomF
  | [.c (.sl _ n_l st_l F_l), .agg [.int .i64 sv, .int .i64 l0, .int .i64 h0, .int .i64 l1, .int .i64 h1, .int .i64 l2, .int .i64 h2, .int .i64 l3, .int .i64 h3], .c (.int .i64 wd)] => (match Nat.beq st_l 7 with
    | true => some ([eC.Is n_l F_l], [rB true])
    | _ => none)
  | _ => none
theorem C8 : FOK Try.prog G0 gw 8 dom8 := by
  intro ags p r hd hp κ w xs hw hl hG hx
  unfold dom8 at hd
  split at hd
  · rename_i q_l n_l st_l F_l sv l0 h0 l1 h1 l2 h2 l3 h3 wd
    split at hd
    · rename_i hst
      have g1 := hst
      have g1 := Nat.eq_of_beq_eq_true g1
      subst g1
      simp only [Option.some.injEq, Prod.mk.injEq] at hd
      obtain ⟨rfl, rfl⟩ := hd
      obtain ⟨hI_l, hp⟩ := hp
      have heq : agsEqv [.c (.sl q_l n_l 7 F_l), .agg [.int .i64 sv, .int .i64 l0, .int .i64 h0, .int .i64 l1, .int .i64 h1, .int .i64 l2, .int .i64 h2, .int .i64 l3, .int .i64 h3], .c (.int .i64 wd)] [.c (.sl q_l (eC.list n_l F_l).length 7 (eC.F (eC.list n_l F_l))), .agg [.int .i64 sv, .int .i64 l0, .int .i64 h0, .int .i64 l1, .int .i64 h1, .int .i64 l2, .int .i64 h2, .int .i64 l3, .int .i64 h3], .c (.int .i64 wd)] := ⟨eC.to id hI_l, Ag.eqv_refl _, Ag.eqv_refl _, trivial⟩
      have len_l : (eC.list n_l F_l).length = n_l := eC.list_len
      generalize eC.list n_l F_l = l at *
      subst len_l
      exact fokX_fin mixed gw_stable (sl := [v18, v19, v21, v37, v38, v22, v20f, v26f, v39]) ⟨S18, S19, S21, S37, S38, S22, S20f, S26f, S39, trivial⟩ Try.func8 hw hl hG hx heq rfl (t8 q_l l sv l0 h0 l1 h1 l2 h2 l3 h3 wd) (w8 l _ wd)
    · cases hd
  · cases hd
end Go.Bl
end

section
set_option linter.unusedVariables false
set_option linter.unusedSimpArgs false
namespace Go.Rw
open Go Go.ChangeShapes Go.WideShapes Go.RowKit Go.ChangeAt
open Go.V (F2 D fullK fullK_cell f2_append f2_len f2_get)
section
variable {H : Type} {enc : TypeId × Value → H} {P : Program} {w : World} {base : Nat} {sp : Nat → Bool} {hd : Bool}
theorem trodAll_below (hl : laidOutB P = true) {W W' : World} (hb : Below W.heap.size W W') : ∀ {ts : List TypeId} {vs : List Value} {ds : List (DataW H)} {ps : List MemPlace},
    (∀ t ∈ ts, P.readableRec t = true ∧ t < P.types.size) → DataW.TrodAll enc P W 0 (fun _ => true) true ts vs ds ps → (∀ x ∈ ps, x.block < W.heap.size) →
    DataW.TrodAll enc P W' 0 (fun b => decide (b < W.heap.size)) true ts vs ds ps
  | [], _, _, _, _, h, _ => by
    obtain ⟨rfl, rfl, rfl⟩ := trodAll_nil h
    exact trodAll_mk0
  | t :: ts, _, _, _, hr, h, hlt => by
    obtain ⟨v, vs1, d, ds1, a, b, rfl, rfl, rfl, h1, h2⟩ := trodAll_cons h
    refine ⟨a, b, ?_, trodAll_below hl hb (fun u hu => hr u (List.mem_cons_of_mem _ hu)) h2 fun x hx => hlt x (List.mem_append_right _ hx), rfl⟩
    have ht := hr t (List.mem_cons_self ..)
    exact Below.trod hl ht.1 ht.2 h1 hb fun x hx => hlt x (List.mem_append_left _ hx)
theorem law_post {fn : Func} {s : ChangeSpec} {apart fresh handsOn : Bool} {W W' : World} {args : Array Value} {ds gs : List (DataW H)} {before : List MemPlace} {tb : TypeId} (hl : laidOutB P = true)
    (hr : ∀ t ∈ fn.params.toList, P.readableRec t = true ∧ t < P.types.size) (hv : s.vars = []) (hrt : fn.resultTypes = #[tb]) (hbool : P.underlying tb = some .bool)
    (hfn : s.fn H ds = { results := [.lit (.bool true)], args := ds })
    (hW : DataW.Whole enc P fn.params.toList s.vars apart W args.toList ds gs before) (hb : Below W.heap.size W W') : s.post enc P fn apart fresh handsOn false W args (.bool true) W' := by
  have hW' := hW
  obtain ⟨p, q, hA, hV, rfl, _, _⟩ := hW'
  have hlt : ∀ x ∈ p ++ q, x.block < W.heap.size := fun x hx => hW.lt x hx
  rw [hv] at hV
  have hgs : gs = [] ∧ q = [] := by
    cases gs with
    | nil => exact ⟨rfl, hV⟩
    | cons g r => exact absurd hV (by intro h; cases h)
  obtain ⟨rfl, rfl⟩ := hgs
  have e : s.fn H (ds ++ []) = { results := [.lit (.bool true)], args := ds } := by rw [List.append_nil]; exact hfn
  refine ⟨ds, [], _, [], p, [], hW, ?_, ?_, ?_, hb.frame _, fun h => by cases h⟩
  · rw [e, hrt]
    exact trodAll_mk1 (shut_bool hbool true)
  · rw [e]
    exact trodAll_below hl hb hr hA fun x hx => hlt x (List.mem_append_left _ hx)
  · rw [e, hv]
    rfl
end
end Go.Rw
end

section
set_option linter.unusedVariables false
set_option linter.unusedSimpArgs false
namespace Go.Rw
open Go Go.ChangeShapes Go.WideShapes Go.RowKit Go.ChangeAt
open Go.V (F2 D fullK fullK_cell f2_append f2_len f2_get)
inductive SK where
  | i
  | s
  | sl (sh : List SK)
inductive DG : SK → D → Prop where
  | i (n : Int) : DG .i (.int .i64 n)
  | s (t : ByteArray) : DG .s (.str t)
  | sl (sh : List SK) (len : Nat) (F : Nat → Nat → D) (h : ∀ i j k, i < len → sh[j]? = some k → DG k (F i j)) : DG (.sl sh) (.sl false len sh.length F)
def MG (w : World) (k : SK) (v : Value) : Prop := ∃ d, DG k d ∧ D.rel (fullK w) d v
def sgFs (P : Program) (g : TypeId → Option (List SK)) : List Field → Nat → Nat → Option (List SK)
  | [], o, c => (match Nat.beq o c with | true => some [] | false => none)
  | f :: fs, o, c => (match Nat.beq f.offset o, g f.type, sgFs P g fs (o + P.cellsOf f.type) c with
    | true, some a, some b => some (a ++ b)
    | _, _, _ => none)
def sgArr (l : List SK) : Nat → List SK
  | 0 => []
  | n + 1 => l ++ sgArr l n
def sg (P : Program) : Nat → TypeId → Option (List SK)
  | 0, _ => none
  | k + 1, t => match P.underlying t with
    | some (.int .i64) => some [.i]
    | some .string => some [.s]
    | some (.struct fs) => sgFs P (sg P k) fs.toList 0 (P.cellsOf t)
    | some (.array n e) => (match sg P k e, Nat.beq (P.cellsOf t) (n * P.cellsOf e) with | some l, true => some (sgArr l n) | _, _ => none)
    | some (.slice e) => (match sg P k e with | some sh => (match Nat.beq (P.cellsOf e) sh.length && Nat.blt 0 sh.length with | true => some [.sl sh] | false => none) | none => none)
    | _ => none
section
variable {H : Type} {enc : TypeId × Value → H} {P : Program} {w : World} {base : Nat} {sp : Nat → Bool} {hd : Bool}
theorem sgFs_spec {R : SK → Value → Prop} {g : TypeId → Option (List SK)} : ∀ (fs : List Field) (o c : Nat) (cs : List Value) {l : List SK}, sgFs P g fs o c = some l → cs.length = c →
    (∀ f ∈ fs, ∀ l', g f.type = some l' → F2 R l' ((cs.drop f.offset).take (P.cellsOf f.type))) → F2 R l (cs.drop o)
  | [], o, c, cs, l, h, hl, _ => by
    unfold sgFs at h
    split at h
    · rename_i hb
      have : o = c := Nat.eq_of_beq_eq_true hb
      simp only [Option.some.injEq] at h
      subst h
      rw [this, ← hl, List.drop_length]
      exact .nil
    · cases h
  | f :: fs, o, c, cs, l, h, hl, hf => by
    simp only [sgFs] at h
    split at h
    · rename_i a b hb ha hrest
      have ho : f.offset = o := Nat.eq_of_beq_eq_true hb
      simp only [Option.some.injEq] at h
      subst h
      have h1 := hf f (List.mem_cons_self ..) a ha
      have h2 := sgFs_spec fs _ c cs hrest hl fun g hg => hf g (List.mem_cons_of_mem _ hg)
      rw [ho] at h1
      have e : cs.drop o = (cs.drop o).take (P.cellsOf f.type) ++ (cs.drop o).drop (P.cellsOf f.type) := (List.take_append_drop _ _).symm
      rw [e, List.drop_drop]
      exact f2_append h1 h2
    · cases h
theorem sgArr_spec {R : SK → Value → Prop} {l : List SK} {c : Nat} : ∀ (n : Nat) (cs : List Value), cs.length = n * c → (∀ i, i < n → F2 R l ((cs.drop (i * c)).take c)) → F2 R (sgArr l n) cs
  | 0, cs, h, _ => by
    have : cs = [] := List.length_eq_zero_iff.1 (by simpa using h)
    subst this
    exact .nil
  | n + 1, cs, h, hf => by
    have h0 := hf 0 (by omega)
    rw [Nat.zero_mul, List.drop_zero] at h0
    have hr := sgArr_spec (c := c) n (cs.drop c) (by rw [List.length_drop, h, Nat.succ_mul]; omega) fun i hi => by
      have := hf (i + 1) (by omega)
      rw [List.drop_drop, show c + i * c = (i + 1) * c by rw [Nat.succ_mul]; omega]
      exact this
    rw [← List.take_append_drop c cs]
    exact f2_append h0 hr
theorem trod_sg : ∀ (k fuel : Nat) (t : TypeId) (cs : List Value) (x : DataW H × List MemPlace) {l : List SK}, sg P k t = some l → DataW.trod enc P w base sp hd fuel t cs = some x → F2 (MG w) l cs
  | 0, _, _, _, _, _, h, _ => by cases h
  | k + 1, fuel, t, cs, x, l, h, hx => by
    unfold sg at h
    split at h
    · rename_i ht
      simp only [Option.some.injEq] at h
      subst h
      obtain ⟨n, rfl, rfl, _⟩ := DataW.trod_int ht hx
      exact .cons ⟨.int .i64 n, .i n, rfl⟩ .nil
    · rename_i ht
      simp only [Option.some.injEq] at h
      subst h
      obtain ⟨s, rfl, rfl, _⟩ := DataW.trod_string ht hx
      exact .cons ⟨.str s, .s s, rfl⟩ .nil
    · rename_i fs ht
      obtain ⟨xs, n, _, rfl, hl, hlen, hf⟩ := DataW.trod_struct ht hx
      have := sgFs_spec (P := P) (R := MG w) fs.toList 0 (P.cellsOf t) cs h hl (by
        intro f hm l' hl'
        obtain ⟨i, hi, hi'⟩ := List.getElem_of_mem hm
        have hgi : fs[i]? = some f := by rw [← Array.getElem?_toList, List.getElem?_eq_getElem hi, hi']
        have hlt : i < xs.length := by rw [hlen]; exact (Array.getElem?_eq_some_iff.1 hgi).1
        have hy : xs[i]? = some xs[i] := List.getElem?_eq_getElem hlt
        have := hf i f hgi
        rw [hy] at this
        exact trod_sg k n f.type _ _ hl' this)
      simpa using this
    · rename_i n e ht
      split at h
      · rename_i l' hl' hcb
        simp only [Option.some.injEq] at h
        subst h
        obtain ⟨xs, m, _, ex, hlen, hl, hel⟩ := DataW.trod_array ht hx
        have hcz : P.cellsOf t = n * P.cellsOf e := Nat.eq_of_beq_eq_true hcb
        refine sgArr_spec (c := P.cellsOf e) n cs (by rw [← hcz]; exact hlen) fun i hi => ?_
        have hlt : i < xs.length := by omega
        have hy : xs[i]? = some xs[i] := List.getElem?_eq_getElem hlt
        have := hel i hi
        rw [hy] at this
        exact trod_sg k m e _ _ hl' this
      · cases h
    · rename_i e ht
      split at h
      · rename_i sh hsh
        split at h
        · rename_i hc
          simp only [Option.some.injEq] at h
          subst h
          rw [Bool.and_eq_true] at hc
          have hn : P.cellsOf e = sh.length := Nat.eq_of_beq_eq_true hc.1
          have hn0 : 0 < sh.length := Nat.le_of_ble_eq_true hc.2
          rcases DataW.trod_slice ht hx with ⟨h1, _⟩ | ⟨a, len0, cap0, elems, rest, n', _, h1, _, _, hlc, _, hel, hget, _⟩
          · rw [h1]
            exact .cons ⟨.sl false 0 sh.length (fun _ _ => .nilp), .sl sh 0 _ (fun i j k hi => by omega), .inl ⟨rfl, rfl, rfl⟩⟩ .nil
          · rw [h1]
            rw [hn] at hget
            have each : ∀ i, i < len0 → ∀ j, j < sh.length → ∃ d, (∀ k', sh[j]? = some k' → DG k' d) ∧ ∃ y, w.cell? ((a.add (i * sh.length)).add j) = some y ∧ D.rel (fullK w) d y := by
              intro i hi j hj
              have hg := hget i hi
              have hlt : i < elems.length := by omega
              rw [List.getElem?_eq_getElem hlt] at hg
              simp only [Option.bind_eq_some_iff] at hg
              obtain ⟨cs, hcs, hx⟩ := hg
              have hF := trod_sg k n' e cs _ hsh hx
              obtain ⟨_, hl, hcell⟩ := World.cells?_some hcs
              obtain ⟨y, hy, hm⟩ := f2_get hF (i := j) (List.getElem?_eq_getElem hj)
              obtain ⟨d, hd1, hd2⟩ := hm
              have hcj := hcell j hj
              exact ⟨d, fun k' hk' => by rw [List.getElem?_eq_getElem hj] at hk'; cases hk'; exact hd1, y, by rw [hcj, hy], hd2⟩
            have spot0 : 0 < len0 → a.spot = none := by
              intro hp
              obtain ⟨_, _, y, hy, _⟩ := each 0 hp 0 hn0
              have := World.cell?_spot hy
              simpa [Addr.add] using this
            refine .cons ⟨.sl false len0 sh.length (fun i j => if h : i < len0 ∧ j < sh.length then Classical.choose (each i h.1 j h.2) else .nilp), .sl sh len0 _ (fun i j k' hi hk' => ?_), .inr ⟨a, cap0, rfl, hlc, spot0, fun i j hi hj => ?_⟩⟩ .nil
            · have hj : j < sh.length := (List.getElem?_eq_some_iff.1 hk').1
              simp only [dif_pos (And.intro hi hj)]
              exact (Classical.choose_spec (each i hi j hj)).1 k' hk'
            · obtain ⟨_, y, hy, hr⟩ := Classical.choose_spec (each i hi j hj)
              have hp : a.spot = none := spot0 (by omega)
              have e1 : (a.add (i * sh.length)).add j = ⟨a.block, a.off + i * sh.length + j, none⟩ := by
                obtain ⟨b, off, spot⟩ := a
                simp only at hp
                subst hp
                rw [Go.WideShapes.add_plain, Go.WideShapes.add_plain]
              rw [e1] at hy
              refine ⟨_, fullK_cell hy, ?_⟩
              simp only [dif_pos (And.intro hi hj)]
              exact hr
        · cases h
      · cases h
    · cases h
theorem open_sl {r : Reach} {b0 : Nat} {t e : TypeId} {v : Value} {d : DataW H} {p : List MemPlace} (k : Nat) {sh : List SK} (ht : P.underlying t = some (.slice e)) (ha : sg P k t = some [.sl sh])
    (hv : Value.okWide P w r b0 t v) (h : DataW.Trod enc P w base sp hd t v d p) : MG w (.sl sh) v := by
  obtain ⟨a0, len0, cap0, rfl⟩ := okWide_slice ht hv
  obtain ⟨fuel, hf⟩ := h
  have hc : (Value.slice a0 len0 cap0).cells.toList = [Value.slice a0 len0 cap0] := rfl
  rw [hc] at hf
  have := trod_sg k fuel t _ _ ha hf
  cases this with
  | cons h _ => exact h
theorem open_st {r : Reach} {b0 : Nat} {t : TypeId} {fs : Array Field} {v : Value} {d : DataW H} {p : List MemPlace} (k : Nat) {l : List SK} (ht : P.underlying t = some (.struct fs)) (ha : sg P k t = some l)
    (hv : Value.okWide P w r b0 t v) (h : DataW.Trod enc P w base sp hd t v d p) : ∃ cs : List Value, F2 (MG w) l cs ∧ v = .agg cs.toArray := by
  obtain ⟨cs, rfl, hsz⟩ := okWide_struct ht hv
  obtain ⟨fuel, hf⟩ := h
  have hF : F2 (MG w) l cs.toList := trod_sg k fuel t _ _ ha hf
  exact ⟨cs.toList, hF, by rw [Array.toArray_toList]⟩
theorem mg_i {v : Value} (h : MG w .i v) : ∃ n, v = .int .i64 n := by
  obtain ⟨d, hd, hr⟩ := h
  cases hd with
  | i n => exact ⟨n, hr⟩
theorem mg_sl {sh : List SK} {v : Value} (h : MG w (.sl sh) v) : ∃ (len : Nat) (F : Nat → Nat → D), (D.sl false len sh.length F).rel (fullK w) v ∧ ∀ i j k, i < len → sh[j]? = some k → DG k (F i j) := by
  obtain ⟨d, hd, hr⟩ := h
  cases hd with
  | sl _ len F hF => exact ⟨len, F, hr, hF⟩
theorem dg_i {d : D} (h : DG .i d) : ∃ n, d = .int .i64 n := by cases h with | i n => exact ⟨n, rfl⟩
theorem dg_s {d : D} (h : DG .s d) : ∃ n, d = .str n := by cases h with | s n => exact ⟨n, rfl⟩
end
end Go.Rw
end

section
set_option linter.unusedVariables false
set_option linter.unusedSimpArgs false
set_option maxRecDepth 100000
namespace Go.Bl
open Go.V Go.Proofs Go.Lp
def RB : List (Nat × Nat) → Nat → Bool → Nat
  | [], _, _ => 1
  | (b, f) :: rs, k, true => k * (b * RB rs (k - 1) true) + f * RB rs k false
  | (b, f) :: rs, k, false => k * (b * RB rs (k - 1) false)
theorem altS_sum {g : Nat → List Nat → Nat} {h : Nat → Nat} : ∀ {l : List Nat}, (∀ c cs, (c :: cs).Perm l → g c cs ≤ h c) → altS g l ≤ (l.map h).sum
  | [], _ => Nat.le_refl _
  | c :: cs, H => by
    simp only [altS, List.map_cons, List.sum_cons]
    have h1 := H c cs (List.Perm.refl _)
    have h2 := altS_sum (g := fun d ds => g d (c :: ds)) (h := h) (l := cs) (fun d ds hd => H d (c :: ds) ((List.Perm.swap c d ds).trans (hd.cons c)))
    omega
theorem sum_two {m X Y : Nat} : ∀ {l : List Nat}, (l.map fun c => if c = m then X else Y).sum = l.count m * X + (l.length - l.count m) * Y
  | [] => by simp
  | c :: cs => by
    have hc := List.count_le_length (a := m) (l := cs)
    rw [List.map_cons, List.sum_cons, sum_two, List.count_cons, List.length_cons]
    by_cases h : c = m
    · subst h
      simp only [if_true, beq_self_eq_true]
      rw [show cs.length + 1 - (cs.count c + 1) = cs.length - cs.count c by omega, Nat.succ_mul]
      omega
    · have hb : (c == m) = false := by simpa using h
      rw [if_neg h, hb]
      simp only [Bool.false_eq_true, if_false, Nat.add_zero]
      rw [show cs.length + 1 - cs.count m = (cs.length - cs.count m) + 1 by omega, Nat.succ_mul]
      omega
theorem DI_rows {m : Nat} {f : List Int → Nat → Int} : ∀ {rows : List (List Int)} {ks : List (Nat × Nat)} {cols : List Nat}, rows.length = ks.length → rows.length = cols.length → cols.count m ≤ 1 →
    (∀ i, i < rows.length → ∀ c, c ∈ cols → (f (rows.getD i []) c).natAbs ≤ if c = m then (ks.getD i (0, 0)).2 else (ks.getD i (0, 0)).1) →
    (DI f rows cols).natAbs ≤ RB ks (cols.length - cols.count m) (decide (cols.count m = 1)) := by
  intro rows
  induction rows with
  | nil =>
    intro ks cols h1 h2 _ _
    cases ks with
    | nil => simp [DI, RB]
    | cons k ks => simp at h1
  | cons r rs ih =>
    intro ks cols h1 h2 hm hb
    cases ks with
    | nil => simp at h1
    | cons k ks =>
      obtain ⟨b, g⟩ := k
      simp only [DI]
      have h1' : rs.length = ks.length := by simpa using h1
      simp only [List.length_cons] at h2
      have step : ∀ c cs, (c :: cs).Perm cols → (f r c * DI f rs cs).natAbs ≤ if c = m then g * RB ks (cols.length - cols.count m) false else b * RB ks (cols.length - cols.count m - 1) (decide (cols.count m = 1)) := by
        intro c cs hp
        have hlen := hp.length_eq
        simp only [List.length_cons] at hlen
        have hcnt : cols.count m = cs.count m + if c = m then 1 else 0 := by
          rw [← hp.count_eq m, List.count_cons]
          by_cases e : c = m
          · rw [if_pos e, e]; simp
          · rw [if_neg e]; simp [e]
        have hbc := hb 0 (by simp) c (hp.subset (List.mem_cons_self ..))
        have hi := ih (ks := ks) (cols := cs) h1' (by omega) (by omega) (fun i hi d hd => by
          have := hb (i + 1) (by simp; omega) d (hp.subset (List.mem_cons_of_mem _ hd))
          simpa using this)
        rw [Int.natAbs_mul]
        by_cases e : c = m
        · rw [if_pos e] at hcnt hbc ⊢
          have hz : cs.count m = 0 := by omega
          rw [hz] at hi
          have hk : cols.length - cols.count m = cs.length - 0 := by omega
          rw [hk]
          exact Nat.mul_le_mul hbc hi
        · rw [if_neg e] at hcnt hbc ⊢
          have hk : cols.length - cols.count m - 1 = cs.length - cs.count m := by omega
          rw [hk, show cols.count m = cs.count m by omega]
          exact Nat.mul_le_mul hbc hi
      have hs := Nat.le_trans (altI_le (g := fun c _ => (if c = m then g * RB ks (cols.length - cols.count m) false else b * RB ks (cols.length - cols.count m - 1) (decide (cols.count m = 1)))) step) (altS_sum (h := fun c => if c = m then g * RB ks (cols.length - cols.count m) false else b * RB ks (cols.length - cols.count m - 1) (decide (cols.count m = 1))) (fun c cs _ => Nat.le_refl _))
      rw [sum_two] at hs
      by_cases e : cols.count m = 1
      · rw [e] at hs ⊢
        refine Nat.le_trans hs ?_
        show 1 * (g * RB ks (cols.length - 1) false) + (cols.length - 1) * (b * RB ks (cols.length - 1 - 1) true) ≤ (cols.length - 1) * (b * RB ks (cols.length - 1 - 1) true) + g * RB ks (cols.length - 1) false
        omega
      · have e : cols.count m = 0 := by omega
        rw [e] at hs ⊢
        refine Nat.le_trans hs ?_
        show 0 * (g * RB ks (cols.length - 0) false) + (cols.length - 0) * (b * RB ks (cols.length - 0 - 1) false) ≤ (cols.length - 0) * (b * RB ks (cols.length - 0 - 1) false)
        omega
def kb (k : Int) : Nat × Nat := if k = 0 then (1, 1) else if k = 1 then (1, 0) else (1000, 1)
def kbN : Nat → Nat × Nat
  | 0 => (1, 1)
  | 1 => (1, 0)
  | _ => (1000, 1)
theorem rb1 : RB [(1, 0), kbN 1] 1 true ≤ 200000000 := by decide +kernel
theorem rb2 : ∀ a, a < 3 → ∀ b, b < 3 → (a = 1 ∨ b = 1) → RB [(1, 0), kbN a, kbN b] 2 true ≤ 200000000 := by decide +kernel
theorem rb3 : ∀ a, a < 3 → ∀ b, b < 3 → ∀ c, c < 3 → (a = 1 ∨ b = 1 ∨ c = 1) → RB [(1, 0), kbN a, kbN b, kbN c] 3 true ≤ 200000000 := by decide +kernel
theorem rb4_0 : ∀ b, b < 3 → ∀ c, c < 3 → ∀ d, d < 3 → (0 = 1 ∨ b = 1 ∨ c = 1 ∨ d = 1) → RB [(1, 0), kbN 0, kbN b, kbN c, kbN d] 4 true ≤ 200000000 := by decide +kernel
theorem rb4_1 : ∀ b, b < 3 → ∀ c, c < 3 → ∀ d, d < 3 → (1 = 1 ∨ b = 1 ∨ c = 1 ∨ d = 1) → RB [(1, 0), kbN 1, kbN b, kbN c, kbN d] 4 true ≤ 200000000 := by decide +kernel
theorem rb4_2 : ∀ b, b < 3 → ∀ c, c < 3 → ∀ d, d < 3 → (2 = 1 ∨ b = 1 ∨ c = 1 ∨ d = 1) → RB [(1, 0), kbN 2, kbN b, kbN c, kbN d] 4 true ≤ 200000000 := by decide +kernel
theorem rb4 (a : Nat) (ha : a < 3) (b : Nat) (hb : b < 3) (c : Nat) (hc : c < 3) (d : Nat) (hd : d < 3) (h : a = 1 ∨ b = 1 ∨ c = 1 ∨ d = 1) : RB [(1, 0), kbN a, kbN b, kbN c, kbN d] 4 true ≤ 200000000 := by
  match a, ha with
  | 0, _ => exact rb4_0 b hb c hc d hd h
  | 1, _ => exact rb4_1 b hb c hc d hd h
  | 2, _ => exact rb4_2 b hb c hc d hd h
section
variable {l : List Cask} {s : Sample} {x : M.Corner}
theorem cond_kb (h : RightL l s) {c : Cond} (hc : c ∈ M.limits l s 1) : ∃ k, k < 3 ∧ kb c.kind = kbN k ∧ (c.kind = 1 → k = 1) ∧ ∀ j, j < l.length + 1 → (en c.coefs j).natAbs ≤ if j = l.length then (kbN k).2 else (kbN k).1 := by
  rcases limits_cases hc with ⟨i, hi, rfl⟩ | ⟨i, hi, rfl⟩ | ⟨k, hk, rfl⟩ | ⟨k, hk, rfl⟩
  · refine ⟨0, by decide, rfl, fun h => absurd h (show (0 : Int) ≠ 1 by decide), fun j hj => ?_⟩
    dsimp only
    rw [en_only hj]
    by_cases e1 : j = i <;> by_cases e2 : j = l.length <;> simp [e1, e2, kbN] <;> split <;> decide
  · refine ⟨1, by decide, rfl, fun _ => rfl, fun j hj => ?_⟩
    dsimp only
    rw [en_only hj]
    by_cases e2 : j = l.length
    · rw [if_pos e2, if_neg (by omega)]; decide
    · rw [if_neg e2]; split <;> decide
  · refine ⟨2, by decide, rfl, fun h => absurd h (show (2 : Int) ≠ 1 by decide), fun j hj => ?_⟩
    dsimp only
    rw [en_by hj]
    by_cases e2 : j = l.length
    · rw [if_pos e2, if_pos e2]; decide
    · rw [if_neg e2, if_neg e2]
      obtain ⟨w1, w2⟩ := h.hiF (i := j) (by omega) hk
      rw [w1]; exact w2
  · refine ⟨2, by decide, rfl, fun h => absurd h (show (3 : Int) ≠ 1 by decide), fun j hj => ?_⟩
    dsimp only
    rw [en_by hj]
    by_cases e2 : j = l.length
    · rw [if_pos e2, if_pos e2]; decide
    · rw [if_neg e2, if_neg e2]
      obtain ⟨w1, w2⟩ := h.loF (i := j) (by omega) hk
      rw [w1]; exact w2
theorem count_range {m : Nat} : (List.range (m + 1)).count m = 1 := by
  rw [List.range_succ, List.count_append, List.count_eq_zero.2 (by simp)]
  simp
theorem cap_den (h : RightL l s) {set : List Cond} (hs : set.length = l.length) (hm : ∀ c, c ∈ set → c ∈ M.limits l s 1) (hcap : ∃ c, c ∈ set ∧ c.kind = 1) : (DI en (M.mat (M.shares l 1) set) (List.range (l.length + 1))).natAbs ≤ 200000000 := by
  have hn4 := h.n4; have hn1 := h.n1
  have sh : ∀ j, j < l.length + 1 → (en (M.shares l 1) j).natAbs ≤ if j = l.length then 0 else 1 := by
    intro j hj
    rw [shares_en]; unfold S0
    by_cases e2 : j = l.length
    · rw [if_pos e2, if_neg (by omega)]; decide
    · rw [if_neg e2, if_pos (by omega)]; decide
  have fin : ∀ ks : List (Nat × Nat), ks.length = set.length → (∀ i, i < set.length → ∀ j, j < l.length + 1 → (en (set.getD i dK).coefs j).natAbs ≤ if j = l.length then (ks.getD i (0, 0)).2 else (ks.getD i (0, 0)).1) →
      (DI en (M.mat (M.shares l 1) set) (List.range (l.length + 1))).natAbs ≤ RB ((1, 0) :: ks) l.length true := by
    intro ks hks hb
    have := DI_rows (m := l.length) (f := en) (rows := M.mat (M.shares l 1) set) (ks := (1, 0) :: ks) (cols := List.range (l.length + 1)) (by simp [M.mat, hks]) (by simp [M.mat, hs]) (by rw [count_range]; exact Nat.le_refl _) (fun i hi c hc => by
      have hc := List.mem_range.1 hc
      cases i with
      | zero => exact sh c hc
      | succ i =>
        rw [matS]
        exact hb i (by simp [M.mat] at hi; omega) c hc)
    rw [count_range, List.length_range, Nat.add_sub_cancel] at this
    exact this
  match hset : set, hs with
  | [a], hs =>
    have hl : l.length = 1 := by simpa using hs.symm
    obtain ⟨k, k3, _, k1, kk⟩ := cond_kb h (hm a (by simp))
    obtain ⟨c, hc, hk⟩ := hcap
    have : c = a := by simpa using hc
    subst this
    have e := k1 hk
    subst e
    refine Nat.le_trans (fin [kbN 1] rfl (fun i hi j hj => ?_)) (by rw [hl]; exact rb1)
    obtain rfl : i = 0 := by simpa using hi
    exact kk j hj
  | [a, b], hs =>
    have hl : l.length = 2 := by simpa using hs.symm
    obtain ⟨ka, a3, _, a1, ak⟩ := cond_kb h (hm a (by simp))
    obtain ⟨kb', b3, _, b1, bk⟩ := cond_kb h (hm b (by simp))
    obtain ⟨c, hc, hk⟩ := hcap
    refine Nat.le_trans (fin [kbN ka, kbN kb'] rfl (fun i hi j hj => ?_)) (by
      rw [hl]; refine rb2 ka a3 kb' b3 ?_
      simp only [List.mem_cons, List.not_mem_nil, or_false] at hc
      rcases hc with rfl | rfl
      · exact .inl (a1 hk)
      · exact .inr (b1 hk))
    match i, (show i < 2 from hi) with
    | 0, _ => exact ak j hj
    | 1, _ => exact bk j hj
  | [a, b, c], hs =>
    have hl : l.length = 3 := by simpa using hs.symm
    obtain ⟨ka, a3, _, a1, ak⟩ := cond_kb h (hm a (by simp))
    obtain ⟨kb', b3, _, b1, bk⟩ := cond_kb h (hm b (by simp))
    obtain ⟨kc, c3, _, c1, ck⟩ := cond_kb h (hm c (by simp))
    obtain ⟨x, hc, hk⟩ := hcap
    refine Nat.le_trans (fin [kbN ka, kbN kb', kbN kc] rfl (fun i hi j hj => ?_)) (by
      rw [hl]; refine rb3 ka a3 kb' b3 kc c3 ?_
      simp only [List.mem_cons, List.not_mem_nil, or_false] at hc
      rcases hc with rfl | rfl | rfl
      · exact .inl (a1 hk)
      · exact .inr (.inl (b1 hk))
      · exact .inr (.inr (c1 hk)))
    match i, (show i < 3 from hi) with
    | 0, _ => exact ak j hj
    | 1, _ => exact bk j hj
    | 2, _ => exact ck j hj
  | [a, b, c, d], hs =>
    have hl : l.length = 4 := by simpa using hs.symm
    obtain ⟨ka, a3, _, a1, ak⟩ := cond_kb h (hm a (by simp))
    obtain ⟨kb', b3, _, b1, bk⟩ := cond_kb h (hm b (by simp))
    obtain ⟨kc, c3, _, c1, ck⟩ := cond_kb h (hm c (by simp))
    obtain ⟨kd, d3, _, d1, dk⟩ := cond_kb h (hm d (by simp))
    obtain ⟨x, hc, hk⟩ := hcap
    refine Nat.le_trans (fin [kbN ka, kbN kb', kbN kc, kbN kd] rfl (fun i hi j hj => ?_)) (by
      rw [hl]; refine rb4 ka a3 kb' b3 kc c3 kd d3 ?_
      simp only [List.mem_cons, List.not_mem_nil, or_false] at hc
      rcases hc with rfl | rfl | rfl | rfl
      · exact .inl (a1 hk)
      · exact .inr (.inl (b1 hk))
      · exact .inr (.inr (.inl (c1 hk)))
      · exact .inr (.inr (.inr (d1 hk))))
    match i, (show i < 4 from hi) with
    | 0, _ => exact ak j hj
    | 1, _ => exact bk j hj
    | 2, _ => exact ck j hj
    | 3, _ => exact dk j hj
  | [], hs => exfalso; simp at hs; omega
  | a :: b :: c :: d :: e :: r, hs => exfalso; simp at hs; omega
end
theorem told_mul {v n d : Int} (hv : 0 < v) (hd : 0 < d) : M.told1 (v * n) (v * d) = M.told1 n d ∧ M.told2 (v * n) (v * d) = M.told2 n d := by
  unfold M.told1 M.told2
  have e : ((Int.gcd (v * n) (v * d) : Nat) : Int) = v * (Int.gcd n d : Nat) := by
    rw [Int.gcd_mul_left]
    have : ((v.natAbs * Int.gcd n d : Nat) : Int) = (v.natAbs : Int) * (Int.gcd n d : Nat) := by simp
    rw [this, show (v.natAbs : Int) = v by omega]
  rw [e]
  exact ⟨Int.mul_tdiv_mul_of_pos _ _ hv, Int.mul_tdiv_mul_of_pos _ _ hv⟩
theorem told_congr {n d n' d' : Int} (hd : 0 < d) (hd' : 0 < d') (h : n * d' = n' * d) : M.told1 n d = M.told1 n' d' ∧ M.told2 n d = M.told2 n' d' := by
  have h1 := told_mul (n := n) hd' hd
  have h2 := told_mul (n := n') hd hd'
  rw [← h1.1, ← h1.2, ← h2.1, ← h2.2, Int.mul_comm d' n, h, Int.mul_comm d n', Int.mul_comm d' d]
  exact ⟨rfl, rfl⟩
section
variable {l : List Cask} {s : Sample} {x : M.Corner}
theorem near_opt (h : RightL l s) (hv : s.vol ≤ vols l) : Opt (l.length + 1) (M.shares l 1) s.vol (M.far l) (M.limits l s 1) (M.pNear l s) := by
  obtain ⟨x, hx⟩ := near_ex h hv
  have : M.pNear l s = x := by unfold M.pNear; rw [hx]; rfl
  rw [this]
  have hc := far_small (l := l)
  exact psolve_some (small_of h (e := 1) (by decide) (far_len l) (ent_of (far_len l) fun j hj => Nat.le_trans (hc j hj) (by split <;> decide))) hx
theorem near_is (ht : M.taskErr l s = 0) (hv : s.vol ≤ vols l) : M.near l s = ⟨(M.pNear l s).den, (M.pNear l s).pt.take l.length, M.told1 (en (M.pNear l s).pt l.length) (s.vol * (M.pNear l s).den), M.told2 (en (M.pNear l s).pt l.length) (s.vol * (M.pNear l s).den), 0⟩ := by
  have h := task_right ht
  have hn := near_err ht
  rw [decide_eq_true hv] at hn
  have hn : M.nearErr l s = 0 := hn
  have hx := near_some h hv
  obtain ⟨ho, hb⟩ := near_take h hx
  unfold M.near
  rw [hn]
  show M.nearC l s (M.pNear l s) = _
  unfold M.nearC
  rw [near_away h hx, sum_vol h ho.parts, hb.sum]
theorem sum_le {g pt : Nat → Int} {K : Int} {n : Nat} (hg : ∀ i, i < n → g i ≤ K) (hp : ∀ i, i < n → 0 ≤ pt i) : smI (fun i => g i * pt i) (List.range n) ≤ K * smI pt (List.range n) := by
  rw [← smI_smul]
  exact smI_le fun i hi => Int.mul_le_mul_of_nonneg_right (hg i (List.mem_range.1 hi)) (hp i (List.mem_range.1 hi))
theorem far_le (h : RightL l s) (hx : NearS l s x) : en x.pt l.length ≤ 1000 * (s.vol * x.den) := by
  obtain ⟨ho, hb⟩ := near_take h hx
  rw [← near_away h hx]
  have hp : 0 ≤ s.vol * x.den := Int.mul_nonneg (by have := h.v; omega) (Int.le_of_lt hx.b.dp)
  refine (away_le h ho).2 ⟨by omega, fun k hk => ⟨?_, ?_⟩⟩
  · rw [← hb.sum]
    exact sum_le (g := fun i => M.val (l.getD i dfC) k - (M.rg s k).hi) (fun i hi => by have := (h.hiF hi hk).2; omega) hb.p0
  · rw [← hb.sum]
    exact sum_le (g := fun i => (M.rg s k).lo - M.val (l.getD i dfC) k) (fun i hi => by have := (h.loF hi hk).2; omega) hb.p0
theorem limit_zero {c : Cond} (hc : c ∈ M.limits l s 1) (hk : c.kind ≠ 1) : c.limit = 0 := by
  rcases limits_cases hc with ⟨i, hi, rfl⟩ | ⟨i, hi, rfl⟩ | ⟨k, hk, rfl⟩ | ⟨k, hk, rfl⟩
  · rfl
  · exact absurd rfl hk
  · rfl
  · rfl
theorem far_small2 (h : RightL l s) (hv : s.vol ≤ vols l) : M.told1 (en (M.pNear l s).pt l.length) (s.vol * (M.pNear l s).den) ≤ 2000000000000000 ∧ 0 ≤ M.told1 (en (M.pNear l s).pt l.length) (s.vol * (M.pNear l s).den) := by
  have hx := near_some h hv
  have ho := near_opt h hv
  generalize M.pNear l s = x at *
  obtain ⟨a1, a2, a3⟩ := near_pos h hx
  have hvp : 0 < s.vol := by have := h.v; omega
  have nn : 0 ≤ M.told1 (en x.pt l.length) (s.vol * x.den) := by
    obtain ⟨g, g0, g1, g2⟩ := told_spec (n := en x.pt l.length) a1
    have hf := hx.f0
    rcases Int.lt_or_le (M.told1 (en x.pt l.length) (s.vol * x.den)) 0 with e | e
    · have := Int.mul_neg_of_neg_of_pos e g0; omega
    · exact e
  refine ⟨?_, nn⟩
  by_cases hcap : ∃ c, c ∈ x.tight ∧ c.kind = 1
  · have hd := cap_den h (set := x.tight) (by have := ho.tl; omega) (fun c hc => ho.sub.subset hc) hcap
    have hde := ho.denE
    have hq := (told_ok (n := en x.pt l.length) a1).1
    have hf := far_le h hx
    have m1 : s.vol * x.den ≤ 10000 * 200000000 := Int.mul_le_mul h.v.2 (by omega) (Int.le_of_lt hx.b.dp) (by decide)
    have := hx.f0
    omega
  · have hst := opt_strong ho
    rw [smI_congr (h := fun _ => 0) (fun q hq => by
      have hm := getD_mem (d := dK) (List.mem_range.1 hq)
      rw [limit_zero (ho.sub.subset hm) (fun e => hcap ⟨_, hm, e⟩), Int.mul_zero]), smI_zero, Int.sub_zero] at hst
    have hfl : dl (l.length + 1) (M.far l) x.pt = en x.pt l.length := by
      unfold dl
      rw [smI_succ, far_en (by omega), if_pos rfl, smI_congr (h := fun _ => 0) (fun j hj => by
        have hj := List.mem_range.1 hj
        rw [far_en (by omega), if_neg (by omega), Int.zero_mul]), smI_zero]
      omega
    have hwd : x.wd = x.den := ho.wdE.trans ho.denE.symm
    rw [hfl, hwd, Int.mul_comm] at hst
    have hF := Int.eq_of_mul_eq_mul_left (by have := hx.b.dp; omega) hst
    have ht : M.told1 (en x.pt l.length) (s.vol * x.den) = M.told1 x.each x.den := by
      rw [← hF, Int.mul_comm x.each]; exact (told_mul hvp hx.b.dp).1
    rw [ht] at nn ⊢
    have hq := (told_ok (n := x.each) hx.b.dp).1
    have he := hx.p.each
    have hee : (M.wtsOf x l.length).each = x.each := by
      have hkey : (x.tight.map fun c => (c.kind, c.which)).Nodup := by
        have := keys_nodup l.length h.n4 1 (by decide)
        rw [← limits_keys l s 1] at this
        exact List.Sublist.nodup (ho.sub.map _) this
      exact (weights_spec (wd := x.wd) (each := x.each) (by_ := x.by_) hkey (fun c hc => limits_ok (ho.sub.subset hc))).2.1
    rw [hee] at he
    omega
theorem ceil_spec {n d : Int} (hd : 0 < d) : (-((-n) / d) - 1) * d < n ∧ n ≤ -((-n) / d) * d := by
  have h1 := Int.mul_ediv_add_emod (-n) d
  have h2 := Int.emod_nonneg (-n) (show d ≠ 0 by omega)
  have h3 := Int.emod_lt_of_pos (-n) hd
  rw [Int.mul_comm] at h1
  rw [Int.sub_mul, Int.neg_mul]
  omega
theorem ceil_told {n d : Int} (hd : 0 < d) : (-((-(M.told1 n d)) / M.told2 n d) - 1) * d < n ∧ n ≤ -((-(M.told1 n d)) / M.told2 n d) * d := by
  obtain ⟨g, g0, g1, g2⟩ := told_spec (n := n) hd
  obtain ⟨c1, c2⟩ := ceil_spec (n := M.told1 n d) (told_pos (n := n) hd)
  have m1 := Int.mul_lt_mul_of_pos_right c1 g0
  have m2 := Int.mul_le_mul_of_nonneg_right c2 (Int.le_of_lt g0)
  rw [Int.mul_assoc, g2, g1] at m1
  rw [Int.mul_assoc, g2, g1] at m2
  exact ⟨m1, m2⟩
theorem wide_far {s' : Sample} {d far : Int} (h : RightL l s) (hw : Wide s s' d) {pt : List Int} {den : Int} (hb : Blend l s pt den far) (hf : far ≤ d * (s.vol * den)) : Blend l s' pt den 0 := by
  have key : ∀ g g' : Nat → Int, (∀ i, i < l.length → g' i ≤ 0) ∨ (∀ i, i < l.length → g' i = g i - d) → smI (fun i => g i * en pt i) (List.range l.length) ≤ far → smI (fun i => g' i * en pt i) (List.range l.length) ≤ 0 := by
    intro g g' hg hs
    rcases hg with hg | hg
    · have := sum_le (pt := fun i => en pt i) hg hb.p0
      rw [Int.zero_mul] at this
      exact this
    · have e : smI (fun i => g' i * en pt i) (List.range l.length) = smI (fun i => g i * en pt i) (List.range l.length) - d * (s.vol * den) := by
        rw [← hb.sum, ← smI_smul, Int.sub_eq_add_neg, ← smI_neg, ← smI_add]
        exact smI_congr fun i hi => by rw [hg i (List.mem_range.1 hi), Int.sub_mul, Int.sub_eq_add_neg]
      rw [e]; omega
  refine ⟨hb.dp, hb.p0, hb.p1, by rw [hw.v]; exact hb.sum, fun k hk => ?_, fun k hk => ?_⟩
  · refine key (fun i => M.val (l.getD i dfC) k - (M.rg s k).hi) _ ?_ (hb.hi k hk)
    rcases (hw.hi k hk).2.2 with e | e
    · exact .inl fun i hi => by have := (h.rc i hi).val k; omega
    · exact .inr fun i hi => by omega
  · refine key (fun i => (M.rg s k).lo - M.val (l.getD i dfC) k) _ ?_ (hb.lo k hk)
    rcases (hw.lo k hk).2.2 with e | e
    · exact .inl fun i hi => by have := (h.rc i hi).val k; omega
    · exact .inr fun i hi => by omega
theorem narrow_far {s' : Sample} {d : Int} (hw : Wide s s' d) {pt : List Int} {den : Int} (hb : Blend l s' pt den 0) : Blend l s pt den (d * (s.vol * den)) := by
  have hsum : smI (fun i => en pt i) (List.range l.length) = s.vol * den := by rw [hb.sum, hw.v]
  have key : ∀ g g' : Nat → Int, (∀ i, i < l.length → g i ≤ g' i + d) → smI (fun i => g' i * en pt i) (List.range l.length) ≤ 0 → smI (fun i => g i * en pt i) (List.range l.length) ≤ d * (s.vol * den) := by
    intro g g' hg hs
    have e : smI (fun i => g i * en pt i) (List.range l.length) ≤ smI (fun i => g' i * en pt i) (List.range l.length) + d * (s.vol * den) := by
      rw [← hsum, ← smI_smul, ← smI_add]
      refine smI_le fun i hi => ?_
      rw [← Int.add_mul]
      exact Int.mul_le_mul_of_nonneg_right (hg i (List.mem_range.1 hi)) (hb.p0 i (List.mem_range.1 hi))
    omega
  refine ⟨hb.dp, hb.p0, hb.p1, hsum, fun k hk => ?_, fun k hk => ?_⟩
  · exact key _ (fun i => M.val (l.getD i dfC) k - (M.rg s' k).hi) (fun i _ => by have := (hw.hi k hk).2.1; omega) (hb.hi k hk)
  · exact key _ (fun i => (M.rg s' k).lo - M.val (l.getD i dfC) k) (fun i _ => by have := (hw.lo k hk).2.1; omega) (hb.lo k hk)
theorem enough_blend {pt : List Int} {den far : Int} (hb : Blend l s pt den far) : s.vol ≤ vols l := by
  have h1 : s.vol * den ≤ vols l * den := by
    rw [← hb.sum]
    unfold vols
    rw [smI_mul_right]
    exact smI_le fun i hi => hb.p1 i (List.mem_range.1 hi)
  exact Int.le_of_mul_le_mul_right h1 hb.dp
theorem best_e (ht : M.taskErr l s = 0) : ((M.best l s).e = 0 ↔ ∃ pt den, Blend l s pt den 0) ∧ ((M.best l s).e = 0 ∨ (M.best l s).e = 12) := by
  rcases best_cases ht with ⟨x, hx, ex⟩ | ⟨hn, ex⟩
  · rw [ex]; exact ⟨⟨fun _ => ⟨_, _, hx.b⟩, fun _ => rfl⟩, .inl rfl⟩
  · rw [ex]
    exact ⟨⟨fun e => absurd (show (12 : Int) = 0 from e) (by decide), fun ⟨pt, den, hb⟩ => absurd hb (hn _ _)⟩, .inr rfl⟩
theorem near_is_near (ht : M.taskErr l s = 0) : ((M.near l s).e ≠ 0 → (M.near l s).e = 24 ∧ (M.best l s).e = 12) ∧ ((M.near l s).e = 0 → 0 ≤ (M.near l s).d0 ∧ (M.near l s).d0 ≤ 2000000000000000 ∧ 1 ≤ (M.near l s).d1 ∧ (M.near l s).d1.natAbs < 9223372036854775808 ∧
    ∃ C : Int, C = -((-(M.near l s).d0) / (M.near l s).d1) ∧ 0 ≤ C ∧ C ≤ 1000 ∧ ((C = 0) ↔ (M.best l s).e = 0) ∧ M.wideErr s C = 0 ∧ (M.best l (M.widened s C)).e = 0 ∧ (C ≠ 0 → M.wideErr s (C - 1) = 0 ∧ (M.best l (M.widened s (C - 1))).e = 12)) := by
  have h := task_right ht
  by_cases hv : s.vol ≤ vols l
  · rw [near_is ht hv]
    refine ⟨fun e => absurd rfl e, fun _ => ?_⟩
    have hx := near_some h hv
    have hs := far_small2 h hv
    generalize M.pNear l s = x at *
    obtain ⟨a1, a2, a3⟩ := near_pos h hx
    have hp := told_pos (n := en x.pt l.length) a1
    have hq := told_ok (n := en x.pt l.length) a1
    obtain ⟨c1, c2⟩ := ceil_told (n := en x.pt l.length) a1
    have hf0 := hx.f0
    have hfl := far_le h hx
    refine ⟨hs.2, hs.1, by show 1 ≤ M.told2 _ _; omega, by show (M.told2 _ _).natAbs < _; omega, _, rfl, ?_⟩
    show 0 ≤ -((-(M.told1 (en x.pt l.length) (s.vol * x.den))) / M.told2 (en x.pt l.length) (s.vol * x.den)) ∧ _
    generalize -((-(M.told1 (en x.pt l.length) (s.vol * x.den))) / M.told2 (en x.pt l.length) (s.vol * x.den)) = C at *
    have hC0 : 0 ≤ C := by
      rcases Int.lt_or_le C 0 with e | e
      · have := Int.mul_neg_of_neg_of_pos e a1; omega
      · exact e
    have hC1 : C ≤ 1000 := by
      rcases Int.lt_or_le 1000 C with e | e
      · have := Int.mul_le_mul_of_nonneg_right (show 1000 ≤ C - 1 by omega) (Int.le_of_lt a1); omega
      · exact e
    have hcs : M.checkSample s = 0 := by unfold M.taskErr at ht; exact first_nil _ ht _ (by simp)
    have wok : ∀ d, 0 ≤ d → d ≤ 1000 → M.wideErr s d = 0 := by
      intro d h0 h1
      unfold M.wideErr M.within
      rw [hcs, decide_eq_true h0, decide_eq_true h1]; rfl
    refine ⟨hC0, hC1, ⟨fun e => ?_, fun e => ?_⟩, wok C hC0 hC1, ?_, fun hne => ⟨wok _ (by omega) (by omega), ?_⟩⟩
    · rw [e, Int.zero_mul] at c2
      exact (best_e ht).1.2 ⟨x.pt, x.den, hx.b.mono c2⟩
    · obtain ⟨pt, den, hb⟩ := (best_e ht).1.1 e
      have := near_le hx hb (Int.le_refl _)
      rw [Int.zero_mul] at this
      have hF : en x.pt l.length ≤ 0 := by
        rcases Int.lt_or_le 0 (en x.pt l.length) with e | e
        · have := Int.mul_pos e hb.dp; omega
        · exact e
      rcases Int.lt_or_le 0 C with e | e
      · have := Int.mul_nonneg (show 0 ≤ C - 1 by omega) (Int.le_of_lt a1); omega
      · omega
    · obtain ⟨ht', hw⟩ := task_wide ht (wok C hC0 hC1)
      exact (best_e ht').1.2 ⟨x.pt, x.den, wide_far h hw hx.b c2⟩
    · obtain ⟨ht', hw⟩ := task_wide ht (wok (C - 1) (by omega) (by omega))
      obtain ⟨b1, b2⟩ := best_e ht'
      rcases b2 with e | e
      · exfalso
        obtain ⟨pt, den, hb⟩ := b1.1 e
        have hb' := narrow_far hw hb
        have h0 : 0 ≤ (C - 1) * (s.vol * den) := Int.mul_nonneg (by omega) (Int.mul_nonneg (by have := h.v; omega) (Int.le_of_lt hb.dp))
        have hle := near_le hx hb' h0
        have e1 : (C - 1) * (s.vol * den) * x.den = (C - 1) * (s.vol * x.den) * den := by
          rw [Int.mul_assoc, Int.mul_assoc, Int.mul_assoc, Int.mul_assoc, Int.mul_comm den]
        rw [e1] at hle
        have := Int.le_of_mul_le_mul_right hle hb.dp
        omega
      · exact e
  · have hn := near_err ht
    rw [decide_eq_false hv] at hn
    have hn : M.nearErr l s = 24 := hn
    have e1 : (M.near l s).e = 24 := by unfold M.near; rw [hn]; rfl
    refine ⟨fun _ => ⟨e1, ?_⟩, fun e => by rw [e1] at e; exact absurd e (by decide)⟩
    obtain ⟨b1, b2⟩ := best_e ht
    rcases b2 with e | e
    · obtain ⟨pt, den, hb⟩ := b1.1 e
      exact absurd (enough_blend hb) hv
    · exact e
end
end Go.Bl
end

section
set_option linter.unusedVariables false
set_option linter.unusedSimpArgs false
set_option maxRecDepth 100000
namespace Go.Bl
open Go.V Go.Proofs Go.Lp
theorem smI_cons0 {g : Nat → Int} {n : Nat} : smI g (List.range (n + 1)) = g 0 + smI (fun i => g (i + 1)) (List.range n) := by
  rw [List.range_succ_eq_map]
  simp only [smI]
  rw [smI_map]
theorem smI_rev : ∀ {n : Nat} {g : Nat → Int}, smI (fun i => g (n - 1 - i)) (List.range n) = smI g (List.range n)
  | 0, _ => rfl
  | n + 1, g => by
    rw [smI_cons0, smI_succ (g := g)]
    have e1 : smI (fun i => g (n + 1 - 1 - (i + 1))) (List.range n) = smI (fun i => g (n - 1 - i)) (List.range n) := smI_congr fun i _ => by rw [show n + 1 - 1 - (i + 1) = n - 1 - i by omega]
    rw [e1, smI_rev, show n + 1 - 1 - 0 = n by omega]
    omega
structure Rev (l k : List Cask) : Prop where
  len : k.length = l.length
  at_ : ∀ i, i < l.length → k.getD i dfC = l.getD (l.length - 1 - i) dfC
theorem Rev.symm {l k : List Cask} (h : Rev l k) : Rev k l := by
  refine ⟨h.len.symm, fun i hi => ?_⟩
  have := h.at_ (k.length - 1 - i) (by rw [h.len] at hi ⊢; omega)
  rw [this]
  congr 1
  rw [h.len] at hi ⊢
  omega
theorem rev_rev (l : List Cask) : Rev l l.reverse := by
  refine ⟨List.length_reverse, fun i hi => ?_⟩
  rw [List.getD_eq_getElem?_getD, List.getD_eq_getElem?_getD, List.getElem?_reverse hi]
def revP (m : Nat) (pt : List Int) : List Int := (List.range m).map fun i => en pt (m - 1 - i)
theorem revP_en {m i : Nat} {pt : List Int} (hi : i < m) : en (revP m pt) i = en pt (m - 1 - i) := map_getD hi
section
variable {l k : List Cask} {s : Sample}
theorem rev_sum (h : Rev l k) {G : Cask → Int} {pt : List Int} : smI (fun i => G (k.getD i dfC) * en (revP l.length pt) i) (List.range l.length) = smI (fun i => G (l.getD i dfC) * en pt i) (List.range l.length) := by
  rw [← smI_rev (g := fun i => G (l.getD i dfC) * en pt i)]
  refine smI_congr fun i hi => ?_
  have hi := List.mem_range.1 hi
  rw [h.at_ i hi, revP_en hi]
theorem rev_blend (h : Rev l k) {pt : List Int} {den far : Int} (hb : Blend l s pt den far) : Blend k s (revP l.length pt) den far := by
  refine ⟨hb.dp, fun i hi => ?_, fun i hi => ?_, ?_, fun q hq => ?_, fun q hq => ?_⟩
  · rw [h.len] at hi; rw [revP_en hi]; exact hb.p0 _ (by omega)
  · rw [h.len] at hi; rw [revP_en hi, h.at_ i hi]; exact hb.p1 _ (by omega)
  · rw [h.len, ← hb.sum, ← smI_rev (g := fun i => en pt i)]
    exact smI_congr fun i hi => revP_en (List.mem_range.1 hi)
  · rw [h.len, rev_sum h (G := fun c => M.val c q - (M.rg s q).hi)]; exact hb.hi q hq
  · rw [h.len, rev_sum h (G := fun c => (M.rg s q).lo - M.val c q)]; exact hb.lo q hq
theorem rev_cost (h : Rev l k) {pt : List Int} : cost k (revP l.length pt) = cost l pt := by
  unfold cost
  rw [h.len]
  exact rev_sum h (G := fun c => c.cost)
theorem rev_vols (h : Rev l k) : vols k = vols l := by
  unfold vols
  rw [h.len, ← smI_rev (g := fun i => (l.getD i dfC).vol)]
  exact smI_congr fun i hi => by rw [h.at_ i (List.mem_range.1 hi)]
theorem casksFrom_ok {l : List Cask} : ∀ (n i : Nat), (∀ j, i ≤ j → j < i + n → M.caskErr l j = 0) → (M.casksFrom l n i).2 = 0
  | 0, _, _ => rfl
  | n + 1, i, h => by
    unfold M.casksFrom
    rw [h i (Nat.le_refl _) (by omega)]
    exact casksFrom_ok n (i + 1) fun j h1 h2 => h j (by omega) (by omega)
theorem casks_all {l : List Cask} (h : M.casksErr l = 0) : 1 ≤ l.length ∧ l.length ≤ 4 ∧ ∀ i, i < l.length → M.caskErr l i = 0 := by
  obtain ⟨h1, h4, _⟩ := casks_right h
  refine ⟨h1, h4, fun i hi => ?_⟩
  unfold M.casksErr at h
  have h1 := first_nil _ h _ (List.mem_cons_self ..)
  unfold M.checkCasks at h1
  rw [decide_eq_false (by omega), decide_eq_false (show ¬ 10 < l.length by omega)] at h1
  have h1 : (M.casksFrom l l.length 0).2 = 0 := h1
  exact casksFrom_zero _ _ h1 i (Nat.zero_le _) (by omega)
theorem same_symm (a b : Cask) : M.same a b = M.same b a := by unfold M.same; rw [Bool.eq_iff_iff]; simp only [beq_iff_eq]; exact eq_comm
theorem rev_err (h : Rev l k) (hl : M.casksErr l = 0) : M.casksErr k = 0 := by
  obtain ⟨h1, h4, hc⟩ := casks_all hl
  have split : ∀ i, i < l.length → M.isName (l.getD i dfC).nm = true ∧ M.dup l i = false ∧ M.rightC (l.getD i dfC) = true := by
    intro i hi
    have := hc i hi
    unfold M.caskErr at this
    have hz := first_nil _ this
    have a := unl_zero (by decide) (hz (M.unl (M.isName (l.getD i dfC).nm) 4) (by simp))
    have b := unl_zero (by decide) (hz (M.unl (!M.dup l i) 5) (by simp))
    have c := unl_zero (by decide) (hz (M.unl (M.rightC (l.getD i dfC)) 2) (by simp))
    exact ⟨a, by cases e : M.dup l i <;> simp_all, c⟩
  have ok : ∀ i, i < k.length → M.caskErr k i = 0 := by
    intro i hi
    rw [h.len] at hi
    obtain ⟨a, _, c⟩ := split (l.length - 1 - i) (by omega)
    have hd : M.dup k i = false := by
      refine dup_no fun j hj => ?_
      rw [h.at_ i hi, h.at_ j (by omega), same_symm]
      have hd := (split (l.length - 1 - j) (by omega)).2.1
      cases e : M.same (l.getD (l.length - 1 - i) dfC) (l.getD (l.length - 1 - j) dfC)
      · rfl
      · rw [dup_yes (by omega) e] at hd; cases hd
    unfold M.caskErr
    rw [hd, h.at_ i hi, a, c]; rfl
  have hk : (M.checkCasks k).2 = 0 := by
    unfold M.checkCasks
    rw [decide_eq_false (show ¬ k.length = 0 by have := h.len; omega), decide_eq_false (show ¬ 10 < k.length by have := h.len; omega)]
    exact casksFrom_ok _ _ fun j _ hj => ok j (by omega)
  unfold M.casksErr
  rw [hk, decide_eq_true (show (k.length : Int) ≤ 4 by have := h.len; omega)]; rfl
theorem rev_task (h : Rev l k) (ht : M.taskErr l s = 0) : M.taskErr k s = 0 := by
  unfold M.taskErr at ht ⊢
  rw [rev_err h (first_nil _ ht _ (List.mem_cons_self ..)), first_nil _ ht _ (List.mem_cons_of_mem _ (List.mem_cons_self ..))]; rfl
theorem bestC_eq (h : RightL l s) {x : M.Corner} (hx : BestS l s x) : M.bestC l x = ⟨M.told1 (cost l x.pt) x.den, M.told2 (cost l x.pt) x.den, x.den, x.pt, M.wtsOf x l.length, 0⟩ := by
  have ho := open_of h hx.b hx.d hx.pl
  unfold M.bestC; rw [sum_cost h ho.parts]
theorem rev_best (h : Rev l k) (ht : M.taskErr l s = 0) : (M.best l s).e = (M.best k s).e ∧ (M.best l s).c0 = (M.best k s).c0 ∧ (M.best l s).c1 = (M.best k s).c1 := by
  have ht' := rev_task h ht
  rcases best_cases ht with ⟨x, hx, ex⟩ | ⟨hn, ex⟩ <;> rcases best_cases ht' with ⟨y, hy, ey⟩ | ⟨hm, ey⟩
  · rw [ex, ey, bestC_eq (task_right ht) hx, bestC_eq (task_right ht') hy]
    have h1 := best_le hx (rev_blend h.symm hy.b)
    have h2 := best_le hy (rev_blend h hx.b)
    rw [rev_cost h.symm] at h1
    rw [rev_cost h] at h2
    obtain ⟨e1, e2⟩ := told_congr hx.b.dp hy.b.dp (show cost l x.pt * y.den = cost k y.pt * x.den by omega)
    exact ⟨rfl, e1, e2⟩
  · exact absurd (rev_blend h hx.b) (hm _ _)
  · exact absurd (rev_blend h.symm hy.b) (hn _ _)
  · rw [ex, ey]; exact ⟨rfl, rfl, rfl⟩
theorem rev_near (h : Rev l k) (ht : M.taskErr l s = 0) : (M.near l s).e = (M.near k s).e ∧ (M.near l s).d0 = (M.near k s).d0 ∧ (M.near l s).d1 = (M.near k s).d1 := by
  have ht' := rev_task h ht
  have hv := rev_vols h
  rcases near_cases ht with ⟨v1, ex⟩ | ⟨v1, x, hx, ex⟩ <;> rcases near_cases ht' with ⟨v2, ey⟩ | ⟨v2, y, hy, ey⟩
  · rw [ex, ey]; exact ⟨rfl, rfl, rfl⟩
  · omega
  · omega
  · rw [ex, ey]
    have h1 := near_le hx (rev_blend h.symm hy.b) hy.f0
    have h2 := near_le hy (rev_blend h hx.b) hx.f0
    obtain ⟨a1, _, _⟩ := near_pos (task_right ht) hx
    obtain ⟨b1, _, _⟩ := near_pos (task_right ht') hy
    have e : en x.pt l.length * y.den = en y.pt k.length * x.den := by omega
    obtain ⟨e1, e2⟩ := told_congr a1 b1 (show en x.pt l.length * (s.vol * y.den) = en y.pt k.length * (s.vol * x.den) by rw [Int.mul_left_comm, e, Int.mul_left_comm])
    exact ⟨rfl, e1, e2⟩
def scaleP (m : Nat) (v : Int) (pt : List Int) : List Int := (List.range m).map fun i => v * en pt i
theorem scaleP_en {m i : Nat} {v : Int} {pt : List Int} (hi : i < m) : en (scaleP m v pt) i = v * en pt i := map_getD hi
theorem scale_sum {n : Nat} {v : Int} {G : Nat → Int} {pt : List Int} : smI (fun i => G i * en (scaleP n v pt) i) (List.range n) = v * smI (fun i => G i * en pt i) (List.range n) := by
  rw [← smI_smul]
  exact smI_congr fun i hi => by rw [scaleP_en (List.mem_range.1 hi), Int.mul_left_comm]
theorem less_blend {t : Sample} (h : RightL l s) (hv : t.vol ≤ s.vol) (h0 : 0 ≤ t.vol) (hr : ∀ q, M.rg t q = M.rg s q) {pt : List Int} {den far : Int} (hb : Blend l s pt den far) : Blend l t (scaleP l.length t.vol pt) (s.vol * den) (t.vol * far) := by
  have hsv := h.v
  refine ⟨Int.mul_pos (by omega) hb.dp, fun i hi => ?_, fun i hi => ?_, ?_, fun q hq => ?_, fun q hq => ?_⟩
  · rw [scaleP_en hi]; exact Int.mul_nonneg h0 (hb.p0 i hi)
  · rw [scaleP_en hi]
    have h1 := Int.mul_le_mul_of_nonneg_left (hb.p1 i hi) h0
    have h2 : 0 ≤ (l.getD i dfC).vol * den := Int.mul_nonneg (h.rc i hi).vol.1 (Int.le_of_lt hb.dp)
    have h3 := Int.mul_le_mul_of_nonneg_right hv h2
    rw [Int.mul_left_comm (l.getD i dfC).vol]
    omega
  · rw [smI_congr (h := fun i => t.vol * en pt i) (fun i hi => scaleP_en (List.mem_range.1 hi)), smI_smul, hb.sum]
  · rw [hr, scale_sum (G := fun i => M.val (l.getD i dfC) q - (M.rg s q).hi)]; exact Int.mul_le_mul_of_nonneg_left (hb.hi q hq) h0
  · rw [hr, scale_sum (G := fun i => (M.rg s q).lo - M.val (l.getD i dfC) q)]; exact Int.mul_le_mul_of_nonneg_left (hb.lo q hq) h0
theorem less_cost {v : Int} {pt : List Int} : cost l (scaleP l.length v pt) = v * cost l pt := by
  unfold cost
  exact scale_sum (G := fun i => (l.getD i dfC).cost)
def lessS (s : Sample) (d : Int) : Sample := ⟨s.vol - d, s.r0, s.r1, s.r2, s.r3⟩
theorem less_task {d : Int} (ht : M.taskErr l s = 0) (h0 : 0 ≤ d) (h1 : d ≤ s.vol - 1) : M.taskErr l (lessS s d) = 0 := by
  unfold M.taskErr at ht ⊢
  have hs := first_nil _ ht _ (List.mem_cons_of_mem _ (List.mem_cons_self ..))
  obtain ⟨a, b, c, e⟩ := sample_right hs
  rw [first_nil _ ht _ (List.mem_cons_self ..), sample_ok (s := lessS s d) (by show 1 ≤ s.vol - d ∧ s.vol - d ≤ 10000; omega) (fun q hq => ⟨b q hq, c q hq, e q hq⟩)]; rfl
theorem rg_less (s : Sample) (d : Int) (q : Nat) : M.rg (lessS s d) q = M.rg s q := by
  unfold M.rg lessS; split <;> rfl
theorem less_best {d : Int} (ht : M.taskErr l s = 0) (h0 : 0 ≤ d) (h1 : d ≤ s.vol - 1) (hb : (M.best l s).e = 0) :
    (M.best l (lessS s d)).e = 0 ∧ (1 ≤ (M.best l s).c1 ∧ (M.best l s).c1 ≤ 200000000000) ∧ (1 ≤ (M.best l (lessS s d)).c1 ∧ (M.best l (lessS s d)).c1 ≤ 200000000000) ∧ (M.best l s).c0.natAbs < 9223372036854775808 ∧ (M.best l (lessS s d)).c0.natAbs < 9223372036854775808 ∧
    M.cmp (M.best l (lessS s d)).c0 ((M.best l (lessS s d)).c1 * (s.vol - d)) (M.best l s).c0 ((M.best l s).c1 * s.vol) ≤ 0 := by
  have h := task_right ht
  have ht' := less_task ht h0 h1
  have h' := task_right ht'
  have hsv := h.v
  rcases best_cases ht with ⟨x, hx, ex⟩ | ⟨_, ex⟩
  · have hbl := less_blend (t := lessS s d) h (show s.vol - d ≤ s.vol by omega) (show 0 ≤ s.vol - d by omega) (rg_less s d) hx.b
    rw [Int.mul_zero] at hbl
    rcases best_cases ht' with ⟨y, hy, ey⟩ | ⟨hn, _⟩
    · rw [ex, ey, bestC_eq h hx, bestC_eq h' hy]
      have p1 := told_pos (n := cost l x.pt) hx.b.dp
      have p2 := told_pos (n := cost l y.pt) hy.b.dp
      have q1 := told_ok (n := cost l x.pt) hx.b.dp
      have q2 := told_ok (n := cost l y.pt) hy.b.dp
      have i1 := best_i64 h hx
      have i2 := best_i64 h' hy
      have d1 := hx.d; have d2 := hy.d; have g1 := hx.b.dp; have g2 := hy.b.dp
      refine ⟨rfl, ⟨by show 1 ≤ M.told2 _ _; omega, by show M.told2 _ _ ≤ _; omega⟩, ⟨by show 1 ≤ M.told2 _ _; omega, by show M.told2 _ _ ≤ _; omega⟩, Nat.lt_of_le_of_lt q1.1 i1.1, Nat.lt_of_le_of_lt q2.1 i2.1, ?_⟩
      show M.cmp (M.told1 (cost l y.pt) y.den) (M.told2 (cost l y.pt) y.den * (s.vol - d)) (M.told1 (cost l x.pt) x.den) (M.told2 (cost l x.pt) x.den * s.vol) ≤ 0
      obtain ⟨g, b0, b1, b2⟩ := told_spec (n := cost l x.pt) hx.b.dp
      obtain ⟨e, c0, c1, c2⟩ := told_spec (n := cost l y.pt) hy.b.dp
      rw [← cmp_scale (g := e) (h := g) c0 b0, Int.mul_right_comm, Int.mul_right_comm (M.told2 (cost l x.pt) x.den), b1, b2, c1, c2]
      refine cmp_le ?_
      have := best_le hy hbl
      rw [less_cost] at this
      have e1 : cost l y.pt * (x.den * s.vol) = cost l y.pt * (s.vol * x.den) := by rw [Int.mul_comm x.den]
      have e2 : cost l x.pt * (y.den * (s.vol - d)) = (s.vol - d) * cost l x.pt * y.den := by rw [Int.mul_comm y.den, ← Int.mul_assoc, Int.mul_comm (s.vol - d)]
      rw [e1, e2]
      exact this
    · exact absurd hbl (hn _ _)
  · rw [ex] at hb; exact absurd (show (12 : Int) = 0 from hb) (by decide)
theorem less_near {d : Int} (ht : M.taskErr l s = 0) (h0 : 0 ≤ d) (h1 : d ≤ s.vol - 1) : ((M.near l s).e ≠ 0 → (M.near l s).e = 24) ∧ ((M.near l s).e = 0 →
    (M.near l (lessS s d)).e = 0 ∧ 0 < (M.near l s).d1 ∧ 0 < (M.near l (lessS s d)).d1 ∧ (M.near l s).d0.natAbs < 9223372036854775808 ∧ (M.near l s).d1.natAbs < 9223372036854775808 ∧ (M.near l (lessS s d)).d0.natAbs < 9223372036854775808 ∧ (M.near l (lessS s d)).d1.natAbs < 9223372036854775808 ∧
    M.cmp (M.near l (lessS s d)).d0 (M.near l (lessS s d)).d1 (M.near l s).d0 (M.near l s).d1 ≤ 0) := by
  have h := task_right ht
  have ht' := less_task ht h0 h1
  have h' := task_right ht'
  have hsv := h.v
  have hv : (lessS s d).vol = s.vol - d := rfl
  rcases near_cases ht with ⟨v1, ex⟩ | ⟨v1, x, hx, ex⟩ <;> rcases near_cases ht' with ⟨v2, ey⟩ | ⟨v2, y, hy, ey⟩
  · rw [ex]; exact ⟨fun _ => rfl, fun e => absurd (show (24 : Int) = 0 from e) (by decide)⟩
  · rw [ex]; exact ⟨fun _ => rfl, fun e => absurd (show (24 : Int) = 0 from e) (by decide)⟩
  · omega
  · rw [ex, ey]
    refine ⟨fun e => absurd rfl e, fun _ => ?_⟩
    obtain ⟨a1, a2, a3⟩ := near_pos h hx
    obtain ⟨b1, b2, b3⟩ := near_pos h' hy
    have p1 := told_pos (n := en x.pt l.length) a1
    have p2 := told_pos (n := en y.pt l.length) b1
    have q1 := told_ok (n := en x.pt l.length) a1
    have q2 := told_ok (n := en y.pt l.length) b1
    refine ⟨rfl, p1, p2, Nat.lt_of_le_of_lt q1.1 a2, Nat.lt_of_le_of_lt q1.2 a3, Nat.lt_of_le_of_lt q2.1 b2, Nat.lt_of_le_of_lt q2.2 b3, ?_⟩
    show M.cmp (M.told1 _ _) (M.told2 _ _) (M.told1 _ _) (M.told2 _ _) ≤ 0
    rw [cmp_told b1 a1]
    have hbl := less_blend (t := lessS s d) h (show s.vol - d ≤ s.vol by omega) (show 0 ≤ s.vol - d by omega) (rg_less s d) hx.b
    have hle := near_le hy hbl (Int.mul_nonneg (show 0 ≤ s.vol - d by omega) hx.f0)
    refine cmp_le ?_
    have e1 : en x.pt l.length * ((lessS s d).vol * y.den) = (lessS s d).vol * en x.pt l.length * y.den := by rw [← Int.mul_assoc, Int.mul_comm (en x.pt l.length)]
    rw [e1]
    exact hle
end
end Go.Bl
end

section
set_option linter.unusedVariables false
set_option linter.unusedSimpArgs false
set_option maxRecDepth 100000
namespace Go.Bl
open Go.V Go.Proofs
def tr36 (n d : Int) : T (List Ar) :=
    T.need ((0 : Int) < d) (T.need (Int.natAbs (IntKind.wrap IntKind.i64 ((0 : Int) - n)) < (9223372036854775808 : Nat)) (T.ret [Ar.c (D.int IntKind.i64 (IntKind.wrap IntKind.i64 ((0 : Int) - IntKind.wrap IntKind.i64 ((0 : Int) - n) / d)))]))
theorem t36 (n d : Int) : runFnX Try.prog G0 (lookS [v94]) (fun _ => []) [] 1 20 3 36 Try.f36 [.c (dI n), .c (dI d)] =
    tr36 n d := by kernel_rfl
theorem w36 {n d : Int} (hd : 0 < d) (h : i64ok n) : (tr36 n d).wp (fun rs => rsEqv rs [rI (-((-n) / d))]) := by
  unfold tr36
  unfold i64ok at h
  have e : IntKind.i64.wrap (0 - n) = -n := by rw [wrap_id (by omega) (by omega)]; omega
  rw [e]
  have he := ediv_ok (n := -n) (d := d) (by unfold i64ok; omega)
  rw [wrap_id (n := 0 - -n / d) (by omega) (by omega), show 0 - -n / d = -(-n / d) by omega]
  exact ⟨hd, by omega, rsEqv_refl _⟩
def dom36 : DomF
  | [.c (.int .i64 n), .c (.int .i64 d)] => some ([0 < d, i64ok n], [rI (-((-n) / d))])
  | _ => none
def v36 : Nat × Sm := (36, fokSm dom36)
theorem C36 : FOK Try.prog G0 gw 36 dom36 := by
  intro ags p r hd hp κ w xs hw hl hG hx
  unfold dom36 at hd
  split at hd
  · rename_i n d
    simp only [Option.some.injEq, Prod.mk.injEq] at hd
    obtain ⟨rfl, rfl⟩ := hd
    have heq : agsEqv [.c (.int .i64 n), .c (.int .i64 d)] [.c (.int .i64 n), .c (.int .i64 d)] := ⟨Ag.eqv_refl _, Ag.eqv_refl _, trivial⟩
    exact fokX_fin mixed gw_stable (sl := [v94]) ⟨S94, trivial⟩ Try.func36 hw hl hG hx heq rfl (t36 n d) (w36 hp.1 hp.2.1)
  · cases hd
theorem S36 : SumOK Try.prog G0 gw 36 (fokSm dom36) := fok_sum Try.func36 rfl C36
def tr60 : T (List Ar) :=
    T.need (Enc.Is eC (3 : Nat) FA) (T.need (∀ (c : Cask), (c ∈ Enc.list eC (3 : Nat) FA) → ByteArray.size (Cask.nm c) ≤ (1000000 : Nat)) (T.need (Enc.Is eC (3 : Nat) FA) (T.need ((Enc.list eC (3 : Nat) FA) = [{ nm := { data := { toList := [(100 : UInt8), (114 : UInt8), (121 : UInt8)] } }, vol := (100 : Int), cost := (10 : Int), k0 := (0 : Int), k1 := (0 : Int), k2 := (0 : Int), k3 := (0 : Int) }, { nm := { data := { toList := [(115 : UInt8), (119 : UInt8), (101 : UInt8), (101 : UInt8), (116 : UInt8)] } }, vol := (100 : Int), cost := (30 : Int), k0 := (100 : Int), k1 := (0 : Int), k2 := (0 : Int), k3 := (0 : Int) }, { nm := { data := { toList := [(114 : UInt8), (105 : UInt8), (99 : UInt8), (104 : UInt8)] } }, vol := (50 : Int), cost := (20 : Int), k0 := (200 : Int), k1 := (0 : Int), k2 := (0 : Int), k3 := (0 : Int) }]) (T.need ((exS 60 70) = (exS 60 70)) (T.br ((0 : Int) == (0 : Int)) (T.br ((1250 : Int) == (1250 : Int) && ((1 : Int) == (1 : Int) && true)) (T.br ((0 : Int) == (0 : Int)) (T.br ((2000 : Int) == (2000 : Int)) (T.ret [Ar.c (D.bool ((2 : Int) == (2 : Int)))]) (T.ret [Ar.c (D.bool false)])) (T.ret [Ar.c (D.bool false)])) (T.ret [Ar.c (D.bool false)])) (T.ret [Ar.c (D.bool false)]))))))
theorem t60 : runFnX Try.prog G0 (lookS [v20f, v30c]) (fun _ => []) [61, 62] 1 20 4 60 Try.f60 [] =
    tr60 := by kernel_rfl
theorem w60 : tr60.wp (fun rs => rsEqv rs [rB true]) := by
  unfold tr60
  simp only [lA]
  refine ⟨isA, exC_nm', isA, by first | exact rfl | trivial, by first | exact rfl | trivial, ?_⟩
  refine wp_br (fun _ => ?_) (fun h => absurd h (by decide))
  refine wp_br (fun _ => ?_) (fun h => absurd h (by decide))
  refine wp_br (fun _ => ?_) (fun h => absurd h (by decide))
  refine wp_br (fun _ => ?_) (fun h => absurd h (by decide))
  exact ⟨rfl, trivial⟩
def dom60 : DomF
  | [] => some ([], [rB true])
  | _ => none
def v60 : Nat × Sm := (60, fokSm dom60)
theorem C60 : FOK Try.prog G0 gw 60 dom60 := by
  intro ags p r hd hp κ w xs hw hl hG hx
  unfold dom60 at hd
  split at hd
  · simp only [Option.some.injEq, Prod.mk.injEq] at hd
    obtain ⟨rfl, rfl⟩ := hd
    have heq : agsEqv [] [] := trivial
    exact fokX_fin mixed gw_stable (sl := [v20f, v30c]) ⟨S20f, S30c, trivial⟩ Try.func60 hw hl hG hx heq rfl (t60) (w60)
  · cases hd
theorem S60 : SumOK Try.prog G0 gw 60 (fokSm dom60) := fok_sum Try.func60 rfl C60
end Go.Bl
end

section
set_option linter.unusedVariables false
set_option linter.unusedSimpArgs false
set_option maxRecDepth 100000
namespace Go.Bl
open Go.V Go.Proofs
def tr7 (l : List Cask) (s : Sample) : T (List Ar) :=
    T.br (!true) (T.ret [Ar.c (D.bool false)]) (T.need (Enc.Is eC (List.length l) (Enc.F eC l)) (T.br (!M.someN (4 : Nat) (Enc.list eC (List.length l) (Enc.F eC l))) (T.ret [Ar.c (D.bool true)]) (T.need (Enc.Is eC (List.length l) (Enc.F eC l)) (T.need (∀ (c : Cask), c ∈ Enc.list eC (List.length l) (Enc.F eC l) → ByteArray.size (Cask.nm c) ≤ (1000000 : Nat)) (T.br (M.taskErr (Enc.list eC (List.length l) (Enc.F eC l)) s != (0 : Int)) (T.ret [Ar.c (D.bool true)]) (T.need (Enc.Is eC (List.length l) (Enc.F eC l)) (T.need (List.length (Enc.list eC (List.length l) (Enc.F eC l)) ≤ (1000000 : Nat)) (T.need (Enc.Is eC (List.length l) (Enc.F eC (Enc.list eC (List.length l) (Enc.F eC l)))) (T.need (∀ (c : Cask), c ∈ Enc.list eC (List.length l) (Enc.F eC (Enc.list eC (List.length l) (Enc.F eC l))) → ByteArray.size (Cask.nm c) ≤ (1000000 : Nat)) (T.need (List.length (Enc.list eC (List.length l) (Enc.F eC (Enc.list eC (List.length l) (Enc.F eC l)))) ≤ (1000000 : Nat)) (T.need (Enc.Is eC (List.length l) (Enc.F eC l)) (T.need (List.length (Enc.list eC (List.length l) (Enc.F eC l)) ≤ (1000000 : Nat)) (T.need (Enc.Is eC (List.length l) (Enc.F eC (Enc.list eC (List.length l) (Enc.F eC l)))) (T.need (∀ (c : Cask), c ∈ Enc.list eC (List.length l) (Enc.F eC (Enc.list eC (List.length l) (Enc.F eC l))) → ByteArray.size (Cask.nm c) ≤ (1000000 : Nat)) (T.br ((M.near (Enc.list eC (List.length l) (Enc.F eC (Enc.list eC (List.length l) (Enc.F eC l)))) s).5 != (0 : Int)) (T.br ((M.near (Enc.list eC (List.length l) (Enc.F eC (Enc.list eC (List.length l) (Enc.F eC l)))) s).5 == (24 : Int)) (T.ret [Ar.c (D.bool ((M.best (Enc.list eC (List.length l) (Enc.F eC (Enc.list eC (List.length l) (Enc.F eC l)))) s).6 == (12 : Int)))]) (T.ret [Ar.c (D.bool false)])) (T.br (!M.within (M.near (Enc.list eC (List.length l) (Enc.F eC (Enc.list eC (List.length l) (Enc.F eC l)))) s).3 (0 : Int) (2000000000000000 : Int)) (T.ret [Ar.c (D.bool false)]) (T.br (decide ((M.near (Enc.list eC (List.length l) (Enc.F eC (Enc.list eC (List.length l) (Enc.F eC l)))) s).4 < (1 : Int))) (T.ret [Ar.c (D.bool false)]) (T.need ((0 : Int) < (M.near (Enc.list eC (List.length l) (Enc.F eC (Enc.list eC (List.length l) (Enc.F eC l)))) s).4) (T.need (Int.natAbs (NearR.d0 (M.near (Enc.list eC (List.length l) (Enc.F eC (Enc.list eC (List.length l) (Enc.F eC l)))) s)) < (9223372036854775808 : Nat)) (T.br (decide (-(-(M.near (Enc.list eC (List.length l) (Enc.F eC (Enc.list eC (List.length l) (Enc.F eC l)))) s).3 / (M.near (Enc.list eC (List.length l) (Enc.F eC (Enc.list eC (List.length l) (Enc.F eC l)))) s).4) > (1000 : Int))) (T.ret [Ar.c (D.bool false)]) (T.br (!(-(-(M.near (Enc.list eC (List.length l) (Enc.F eC (Enc.list eC (List.length l) (Enc.F eC l)))) s).3 / (M.near (Enc.list eC (List.length l) (Enc.F eC (Enc.list eC (List.length l) (Enc.F eC l)))) s).4) == (0 : Int)) == ((M.best (Enc.list eC (List.length l) (Enc.F eC (Enc.list eC (List.length l) (Enc.F eC l)))) s).6 == (0 : Int))) (T.ret [Ar.c (D.bool false)]) (T.need (Enc.Is eC (List.length l) (Enc.F eC l)) (T.need (List.length (Enc.list eC (List.length l) (Enc.F eC l)) ≤ (1000000 : Nat)) (T.need (Enc.Is eC (List.length l) (Enc.F eC (Enc.list eC (List.length l) (Enc.F eC l)))) (T.need (∀ (c : Cask), c ∈ Enc.list eC (List.length l) (Enc.F eC (Enc.list eC (List.length l) (Enc.F eC l))) → ByteArray.size (Cask.nm c) ≤ (1000000 : Nat)) (T.br (M.wideErr s (-(-(M.near (Enc.list eC (List.length l) (Enc.F eC (Enc.list eC (List.length l) (Enc.F eC l)))) s).3 / (M.near (Enc.list eC (List.length l) (Enc.F eC (Enc.list eC (List.length l) (Enc.F eC l)))) s).4)) != (0 : Int)) (T.ret [Ar.c (D.bool false)]) (T.br ((M.best (Enc.list eC (List.length l) (Enc.F eC (Enc.list eC (List.length l) (Enc.F eC l)))) (M.widened s (-(-NearR.d0 (M.near (Enc.list eC (List.length l) (Enc.F eC (Enc.list eC (List.length l) (Enc.F eC l)))) s) / NearR.d1 (M.near (Enc.list eC (List.length l) (Enc.F eC (Enc.list eC (List.length l) (Enc.F eC l)))) s))))).6 != (0 : Int)) (T.ret [Ar.c (D.bool false)]) (T.br (-(-(M.near (Enc.list eC (List.length l) (Enc.F eC (Enc.list eC (List.length l) (Enc.F eC l)))) s).3 / (M.near (Enc.list eC (List.length l) (Enc.F eC (Enc.list eC (List.length l) (Enc.F eC l)))) s).4) == (0 : Int)) (T.ret [Ar.c (D.bool true)]) (T.need (Enc.Is eC (List.length l) (Enc.F eC l)) (T.need (List.length (Enc.list eC (List.length l) (Enc.F eC l)) ≤ (1000000 : Nat)) (T.need (Enc.Is eC (List.length l) (Enc.F eC (Enc.list eC (List.length l) (Enc.F eC l)))) (T.need (∀ (c : Cask), c ∈ Enc.list eC (List.length l) (Enc.F eC (Enc.list eC (List.length l) (Enc.F eC l))) → ByteArray.size (Cask.nm c) ≤ (1000000 : Nat)) (T.br (M.wideErr s (IntKind.wrap IntKind.i64 (-(-(M.near (Enc.list eC (List.length l) (Enc.F eC (Enc.list eC (List.length l) (Enc.F eC l)))) s).3 / (M.near (Enc.list eC (List.length l) (Enc.F eC (Enc.list eC (List.length l) (Enc.F eC l)))) s).4) - (1 : Int))) == (0 : Int)) (T.ret [Ar.c (D.bool ((M.best (Enc.list eC (List.length l) (Enc.F eC (Enc.list eC (List.length l) (Enc.F eC l)))) (M.widened s (IntKind.wrap IntKind.i64 (-(-NearR.d0 (M.near (Enc.list eC (List.length l) (Enc.F eC (Enc.list eC (List.length l) (Enc.F eC l)))) s) / NearR.d1 (M.near (Enc.list eC (List.length l) (Enc.F eC (Enc.list eC (List.length l) (Enc.F eC l)))) s)) - (1 : Int))))).6 == (12 : Int)))]) (T.ret [Ar.c (D.bool false)]))))))))))))))))))))))))))))))))))
theorem t7 (q_l : Bool) (l : List Cask) (sv l0 h0 l1 h1 l2 h2 l3 h3 : Int) : runFnX Try.prog G0 (lookS [v18, v19, v21, v35, v36, v37, v22, v20f, v26f]) (fun _ => []) [] 1 20 3 7 Try.f7 [.c (.sl q_l l.length 7 (eC.F l)), .agg [dI sv, dI l0, dI h0, dI l1, dI h1, dI l2, dI h2, dI l3, dI h3]] =
    tr7 l (⟨sv, ⟨l0, h0⟩, ⟨l1, h1⟩, ⟨l2, h2⟩, ⟨l3, h3⟩⟩ : Sample) := by kernel_rfl
theorem w7 (l : List Cask) (s : Sample) : (tr7 l s).wp (fun rs => rsEqv rs [rB true]) := by
  unfold tr7
  simp only [Enc.list_F]
  refine wp_br (fun hb => absurd hb (by decide)) (fun _ => ⟨Enc.is_F _ _ _, wp_br (fun _ => rsEqv_refl _) (fun hb => ?_)⟩)
  have hs : M.someN 4 l = true := by simpa using hb
  obtain ⟨hl, hn⟩ := someN_small hs
  have hn' : ∀ c, c ∈ l → c.nm.size ≤ 1000000 := fun c hc => Nat.le_trans (hn c hc) (by decide)
  have hl' : l.length ≤ 1000000 := by omega
  iterate 2 refine ⟨by first | exact Enc.is_F _ _ _ | assumption, ?_⟩
  refine wp_br (fun _ => rsEqv_refl _) (fun ht => ?_)
  have ht : M.taskErr l s = 0 := by simpa using ht
  obtain ⟨k1, k2⟩ := near_is_near ht
  iterate 9 refine ⟨by first | exact Enc.is_F _ _ _ | assumption, ?_⟩
  refine wp_br (fun he => ?_) (fun he => ?_)
  · obtain ⟨e1, e2⟩ := k1 (by simpa using he)
    rw [e1, e2]
    exact wp_br (fun _ => rsEqv_refl _) (fun h => absurd h (by decide))
  have he : (M.near l s).e = 0 := by simpa using he
  obtain ⟨d0, d2, d1, d3, C, hC, c0, c1, cz, cw, cb, cn⟩ := k2 he
  rw [← hC]
  have hw : IntKind.i64.wrap (C - 1) = C - 1 := wrap_id (by omega) (by omega)
  rw [hw]
  have hin : M.within (M.near l s).d0 0 2000000000000000 = true := by unfold M.within; rw [decide_eq_true d0, decide_eq_true d2]; rfl
  refine wp_br (fun h => by rw [hin] at h; exact absurd h (by decide)) (fun _ => wp_br (fun h => absurd (of_decide_eq_true h) (by omega)) (fun _ => ⟨by omega, by omega, ?_⟩))
  refine wp_br (fun h => absurd (of_decide_eq_true h) (by omega)) (fun _ => ?_)
  refine wp_br (fun h => ?_) (fun _ => ?_)
  · exfalso
    by_cases hz : C = 0
    · rw [cz.1 hz, hz] at h; exact absurd h (by decide)
    · have hz2 : ¬ (M.best l s).e = 0 := fun e9 => hz (cz.2 e9)
      rw [beq_of_ne hz, beq_of_ne hz2] at h; exact absurd h (by decide)
  iterate 4 refine ⟨by first | exact Enc.is_F _ _ _ | assumption, ?_⟩
  refine wp_br (fun h => by rw [cw] at h; exact absurd h (by decide)) (fun _ => wp_br (fun h => by rw [cb] at h; exact absurd h (by decide)) (fun _ => wp_br (fun _ => rsEqv_refl _) (fun hz => ?_)))
  have hz : C ≠ 0 := by intro e9; rw [e9] at hz; exact absurd hz (by decide)
  obtain ⟨n1, n2⟩ := cn hz
  iterate 4 refine ⟨by first | exact Enc.is_F _ _ _ | assumption, ?_⟩
  rw [n1, n2]
  exact wp_br (fun _ => rsEqv_refl _) (fun h => absurd h (by decide))
def dom7 : DomF
  | [.c (.sl _ n_l st_l F_l), .agg [.int .i64 sv, .int .i64 l0, .int .i64 h0, .int .i64 l1, .int .i64 h1, .int .i64 l2, .int .i64 h2, .int .i64 l3, .int .i64 h3]] => (match Nat.beq st_l 7 with
    | true => some ([eC.Is n_l F_l], [rB true])
    | _ => none)
  | _ => none
theorem C7 : FOK Try.prog G0 gw 7 dom7 := by
  intro ags p r hd hp κ w xs hw hl hG hx
  unfold dom7 at hd
  split at hd
  · rename_i q_l n_l st_l F_l sv l0 h0 l1 h1 l2 h2 l3 h3
    split at hd
    · rename_i hst
      have g1 := hst
      have g1 := Nat.eq_of_beq_eq_true g1
      subst g1
      simp only [Option.some.injEq, Prod.mk.injEq] at hd
      obtain ⟨rfl, rfl⟩ := hd
      obtain ⟨hI_l, hp⟩ := hp
      have heq : agsEqv [.c (.sl q_l n_l 7 F_l), .agg [.int .i64 sv, .int .i64 l0, .int .i64 h0, .int .i64 l1, .int .i64 h1, .int .i64 l2, .int .i64 h2, .int .i64 l3, .int .i64 h3]] [.c (.sl q_l (eC.list n_l F_l).length 7 (eC.F (eC.list n_l F_l))), .agg [.int .i64 sv, .int .i64 l0, .int .i64 h0, .int .i64 l1, .int .i64 h1, .int .i64 l2, .int .i64 h2, .int .i64 l3, .int .i64 h3]] := ⟨eC.to id hI_l, Ag.eqv_refl _, trivial⟩
      have len_l : (eC.list n_l F_l).length = n_l := eC.list_len
      generalize eC.list n_l F_l = l at *
      subst len_l
      exact fokX_fin mixed gw_stable (sl := [v18, v19, v21, v35, v36, v37, v22, v20f, v26f]) ⟨S18, S19, S21, S35, S36, S37, S22, S20f, S26f, trivial⟩ Try.func7 hw hl hG hx heq rfl (t7 q_l l sv l0 h0 l1 h1 l2 h2 l3 h3) (w7 l _)
    · cases hd
  · cases hd
end Go.Bl
end

section
set_option linter.unusedVariables false
set_option linter.unusedSimpArgs false
set_option maxRecDepth 100000
namespace Go.Bl
open Go.V Go.Proofs
def oneC (c : Cask) : Nat → Nat → D := fun i j => List.getD [D.str c.1, dI c.2, dI c.3, dI c.4, dI c.5, dI c.6, dI c.7] (i * 7 + j) .nilp
abbrev St5 : Type := (Int × PUnit × PUnit) ⊕ (Int × List Cask × PUnit)
def trF5 (l : List Cask) (s : Sample) (k : List Cask) : T (St5 ⊕ List Ar) :=
    T.need (Enc.Is eC (List.length l) (Enc.F eC l)) (T.need (List.length (Enc.list eC (List.length l) (Enc.F eC l)) ≤ (1000000 : Nat)) (T.need (Enc.Is eC (List.length l) (Enc.F eC (Enc.list eC (List.length l) (Enc.F eC l)))) (T.need (∀ (c : Cask), c ∈ Enc.list eC (List.length l) (Enc.F eC (Enc.list eC (List.length l) (Enc.F eC l))) → ByteArray.size (Cask.nm c) ≤ (1000000 : Nat)) (T.need (List.length (k) ≤ List.length (k)) (T.need (Enc.Is eC (List.length (k)) (Enc.F eC (k))) (T.need (List.length (Enc.list eC (List.length (k)) (Enc.F eC (k))) ≤ (1000000 : Nat)) (T.need (Enc.Is eC (List.length (k)) (Enc.F eC (Enc.list eC (List.length (k)) (Enc.F eC (k))))) (T.need (∀ (c : Cask), c ∈ Enc.list eC (List.length (k)) (Enc.F eC (Enc.list eC (List.length (k)) (Enc.F eC (k)))) → ByteArray.size (Cask.nm c) ≤ (1000000 : Nat)) (T.need (Enc.Is eC (List.length l) (Enc.F eC l)) (T.need (List.length (Enc.list eC (List.length l) (Enc.F eC l)) ≤ (1000000 : Nat)) (T.need (Enc.Is eC (List.length l) (Enc.F eC (Enc.list eC (List.length l) (Enc.F eC l)))) (T.need (∀ (c : Cask), c ∈ Enc.list eC (List.length l) (Enc.F eC (Enc.list eC (List.length l) (Enc.F eC l))) → ByteArray.size (Cask.nm c) ≤ (1000000 : Nat)) (T.need (List.length (Enc.list eC (List.length l) (Enc.F eC (Enc.list eC (List.length l) (Enc.F eC l)))) ≤ (1000000 : Nat)) (T.need (List.length (k) ≤ List.length (k)) (T.need (Enc.Is eC (List.length (k)) (Enc.F eC (k))) (T.need (∀ (c : Cask), c ∈ Enc.list eC (List.length (k)) (Enc.F eC (k)) → ByteArray.size (Cask.nm c) ≤ (1000000 : Nat)) (T.need (List.length (Enc.list eC (List.length (k)) (Enc.F eC (k))) ≤ (1000000 : Nat)) (T.br ((M.best (Enc.list eC (List.length l) (Enc.F eC (Enc.list eC (List.length l) (Enc.F eC l)))) s).6 == (M.best (Enc.list eC (List.length (k)) (Enc.F eC (Enc.list eC (List.length (k)) (Enc.F eC (k))))) s).6) (T.br ((M.best (Enc.list eC (List.length l) (Enc.F eC (Enc.list eC (List.length l) (Enc.F eC l)))) s).1 == (M.best (Enc.list eC (List.length (k)) (Enc.F eC (Enc.list eC (List.length (k)) (Enc.F eC (k))))) s).1 && ((M.best (Enc.list eC (List.length l) (Enc.F eC (Enc.list eC (List.length l) (Enc.F eC l)))) s).2 == (M.best (Enc.list eC (List.length (k)) (Enc.F eC (Enc.list eC (List.length (k)) (Enc.F eC (k))))) s).2 && true)) (T.br ((M.near (Enc.list eC (List.length l) (Enc.F eC (Enc.list eC (List.length l) (Enc.F eC l)))) s).5 == (M.near (Enc.list eC (List.length (k)) (Enc.F eC (k))) s).5) (T.ret (Sum.inr [Ar.c (D.bool ((M.near (Enc.list eC (List.length l) (Enc.F eC (Enc.list eC (List.length l) (Enc.F eC l)))) s).3 == (M.near (Enc.list eC (List.length (k)) (Enc.F eC (k))) s).3 && ((M.near (Enc.list eC (List.length l) (Enc.F eC (Enc.list eC (List.length l) (Enc.F eC l)))) s).4 == (M.near (Enc.list eC (List.length (k)) (Enc.F eC (k))) s).4 && true)))])) (T.ret (Sum.inr [Ar.c (D.bool false)]))) (T.ret (Sum.inr [Ar.c (D.bool false)]))) (T.ret (Sum.inr [Ar.c (D.bool false)]))))))))))))))))))))
def tr5 (l : List Cask) (s : Sample) : T (List Ar) :=
    T.br (!true) (T.ret [Ar.c (D.bool false)]) (T.need (Enc.Is eC (List.length l) (Enc.F eC l)) (T.br (!M.someN (4 : Nat) (Enc.list eC (List.length l) (Enc.F eC l))) (T.ret [Ar.c (D.bool true)]) (T.need (Enc.Is eC (List.length l) (Enc.F eC l)) (T.need (∀ (c : Cask), c ∈ Enc.list eC (List.length l) (Enc.F eC l) → ByteArray.size (Cask.nm c) ≤ (1000000 : Nat)) (T.br (M.taskErr (Enc.list eC (List.length l) (Enc.F eC l)) s != (0 : Int)) (T.ret [Ar.c (D.bool true)]) (T.loop2 (Int × PUnit × PUnit) (Int × List Cask × PUnit) (Sum.inl (IntKind.wrap IntKind.i64 ((Nat.cast (R := Int) (List.length l)) - (1 : Int)), PUnit.unit, PUnit.unit)) (fun (x : Int × PUnit × PUnit) => T.br (decide (Prod.fst x ≥ (0 : Int))) (T.need ((0 : Int) ≤ Prod.fst x) (T.need (Prod.fst x < (Nat.cast (R := Int) (List.length l))) (T.need ((1 : Nat) ≤ (1000000 : Nat)) (T.need (Enc.Is eC (1 : Nat) (joinF (0 : Nat) (fun (x x_1 : Nat) => D.nilp) (oneC (List.getD l (Int.toNat (Prod.fst x)) (Enc.dflt eC))))) (T.need ((1 : Nat) ≤ (1 : Nat)) (T.ret (Sum.inl (Sum.inr (IntKind.wrap IntKind.i64 (Prod.fst x - (1 : Int)), Enc.list eC (1 : Nat) (joinF (0 : Nat) (fun (x x_1 : Nat) => D.nilp) (oneC (List.getD l (Int.toNat (Prod.fst x)) (Enc.dflt eC)))), PUnit.unit))))))))) (T.need (Enc.Is eC (List.length l) (Enc.F eC l)) (T.need (List.length (Enc.list eC (List.length l) (Enc.F eC l)) ≤ (1000000 : Nat)) (T.need (Enc.Is eC (List.length l) (Enc.F eC (Enc.list eC (List.length l) (Enc.F eC l)))) (T.need (∀ (c : Cask), c ∈ Enc.list eC (List.length l) (Enc.F eC (Enc.list eC (List.length l) (Enc.F eC l))) → ByteArray.size (Cask.nm c) ≤ (1000000 : Nat)) T.fail))))) fun (y : Int × List Cask × PUnit) => T.br (decide (Prod.fst y ≥ (0 : Int))) (T.need ((0 : Int) ≤ Prod.fst y) (T.need (Prod.fst y < (Nat.cast (R := Int) (List.length l))) (T.need (List.length (Prod.fst (Prod.snd y)) + (1 : Nat) ≤ (1000000 : Nat)) (T.need (List.length (Prod.fst (Prod.snd y)) ≤ List.length (Prod.fst (Prod.snd y))) (T.need (Enc.Is eC (List.length (Prod.fst (Prod.snd y)) + (1 : Nat)) (joinF (List.length (Prod.fst (Prod.snd y))) (Enc.F eC (Prod.fst (Prod.snd y))) (oneC (List.getD l (Int.toNat (Prod.fst y)) (Enc.dflt eC))))) (T.need (List.length (Prod.fst (Prod.snd y)) + (1 : Nat) ≤ List.length (Prod.fst (Prod.snd y)) + (1 : Nat)) (T.ret (Sum.inl (Sum.inr (IntKind.wrap IntKind.i64 (Prod.fst y - (1 : Int)), Enc.list eC (List.length (Prod.fst (Prod.snd y)) + (1 : Nat)) (joinF (List.length (Prod.fst (Prod.snd y))) (Enc.F eC (Prod.fst (Prod.snd y))) (oneC (List.getD l (Int.toNat (Prod.fst y)) (Enc.dflt eC)))), PUnit.unit)))))))))) (trF5 l s (Prod.fst (Prod.snd y)))))))))
theorem t5 (q_l : Bool) (l : List Cask) (sv l0 h0 l1 h1 l2 h2 l3 h3 : Int) : runFnX Try.prog G0 (lookS [v18, v19, v21, v22, v20f, v26f]) (fun _ => [(7, [.slot 6 (.int .i64), .slot 5 .nsl], some [.slot 6 (.int .i64), .slot 5 (.rowE 55 eC)])]) [] 1 20 3 5 Try.f5 [.c (.sl q_l l.length 7 (eC.F l)), .agg [dI sv, dI l0, dI h0, dI l1, dI h1, dI l2, dI h2, dI l3, dI h3]] =
    tr5 l (⟨sv, ⟨l0, h0⟩, ⟨l1, h1⟩, ⟨l2, h2⟩, ⟨l3, h3⟩⟩ : Sample) := by kernel_rfl
theorem oneC_enc (c : Cask) : ∀ j, j < 7 → (oneC c 0 j).eqv (encC c j) := by
  intro j hj
  match j, hj with
  | 0, _ => exact D.eqv_refl _
  | 1, _ => exact D.eqv_refl _
  | 2, _ => exact D.eqv_refl _
  | 3, _ => exact D.eqv_refl _
  | 4, _ => exact D.eqv_refl _
  | 5, _ => exact D.eqv_refl _
  | 6, _ => exact D.eqv_refl _
theorem cask_push (l : List Cask) (c : Cask) : eC.Is (l.length + 1) (joinF l.length (eC.F l) (oneC c)) ∧ eC.list (l.length + 1) (joinF l.length (eC.F l) (oneC c)) = l ++ [c] :=
  Enc.push eC (a := c) (oneC_enc c) rfl
theorem cask_first (c : Cask) : eC.Is 1 (joinF 0 (fun _ _ => .nilp) (oneC c)) ∧ eC.list 1 (joinF 0 (fun _ _ => .nilp) (oneC c)) = [c] := by
  refine ⟨fun i j hi hj => ?_, rfl⟩
  obtain rfl : i = 0 := by omega
  exact oneC_enc c j hj
theorem wF5 (l : List Cask) (s : Sample) {Q : St5 ⊕ List Ar → Prop} (hQ : Q (.inr [rB true])) (hn' : ∀ c, c ∈ l → c.nm.size ≤ 1000000) (hl' : l.length ≤ 1000000) (ht : M.taskErr l s = 0) : (trF5 l s l.reverse).wp Q := by
  unfold trF5
  simp only [Enc.list_F]
  have hk : ∀ c, c ∈ l.reverse → c.nm.size ≤ 1000000 := fun c hc => hn' c (List.mem_reverse.1 hc)
  have hkl : l.reverse.length ≤ 1000000 := by rw [List.length_reverse]; exact hl'
  obtain ⟨b1, b2, b3⟩ := rev_best (rev_rev l) ht
  obtain ⟨n1, n2, n3⟩ := rev_near (rev_rev l) ht
  generalize M.best l.reverse s = B at *
  generalize M.near l.reverse s = N at *
  generalize M.best l s = A at *
  generalize M.near l s = C at *
  iterate 18 refine ⟨by first | exact Enc.is_F _ _ _ | assumption | exact Nat.le_refl _, ?_⟩
  refine wp_br (fun _ => wp_br (fun _ => wp_br (fun _ => ?_) (fun h => ?_)) (fun h => ?_)) (fun h => ?_)
  · show Q (.inr [rB (C.d0 == N.d0 && (C.d1 == N.d1 && true))])
    rw [n2, n3, beq_self_eq_true, beq_self_eq_true]; exact hQ
  · rw [n1, beq_self_eq_true] at h; cases h
  · have h : (A.c0 == B.c0 && (A.c1 == B.c1 && true)) = false := h
    rw [b2, b3, beq_self_eq_true, beq_self_eq_true] at h; cases h
  · rw [b1, beq_self_eq_true] at h; cases h
theorem w5 (l : List Cask) (s : Sample) : (tr5 l s).wp (fun rs => rsEqv rs [rB true]) := by
  unfold tr5
  simp only [Enc.list_F]
  refine wp_br (fun hb => absurd hb (by decide)) (fun _ => ⟨Enc.is_F _ _ _, wp_br (fun _ => rsEqv_refl _) (fun hb => ?_)⟩)
  have hs : M.someN 4 l = true := by simpa using hb
  obtain ⟨hl, hn⟩ := someN_small hs
  have hn' : ∀ c, c ∈ l → c.nm.size ≤ 1000000 := fun c hc => Nat.le_trans (hn c hc) (by decide)
  have hl' : l.length ≤ 1000000 := by omega
  iterate 2 refine ⟨by first | exact Enc.is_F _ _ _ | assumption | exact Nat.le_refl _, ?_⟩
  refine wp_br (fun _ => rsEqv_refl _) (fun ht => ?_)
  have ht : M.taskErr l s = 0 := by simpa using ht
  have h := task_right ht
  have h1 := h.n1; have h4 := h.n4
  have hcat : ∀ k : Nat, k < l.length → l.reverse.take (l.length - 1 - k) ++ [l.getD k dfC] = l.reverse.take (l.length - k) := by
    intro k hk
    have : l.reverse.getD (l.length - 1 - k) dfC = l.getD k dfC := by
      rw [List.getD_eq_getElem?_getD, List.getD_eq_getElem?_getD, List.getElem?_reverse (by omega)]
      congr 2; omega
    rw [← this, show l.length - k = (l.length - 1 - k) + 1 by omega]
    exact (take_push (by simp; omega)).symm
  refine ⟨fun z => match z with
    | .inl x => x.1 = (l.length : Int) - 1
    | .inr y => -1 ≤ y.1 ∧ y.1 < (l.length : Int) - 1 ∧ y.2.1 = l.reverse.take (l.length - 1 - (y.1 + 1).toNat + 1),
    fun z => match z with | .inl _ => l.length + 5 | .inr y => (y.1 + 1).toNat, ?_, ?_, ?_⟩
  · show IntKind.i64.wrap ((l.length : Int) - 1) = (l.length : Int) - 1
    exact wrap_id (by omega) (by omega)
  · rintro ⟨x, u⟩ hx
    have hx : x = (l.length : Int) - 1 := hx
    obtain ⟨m, hm⟩ : ∃ m : Nat, l.length = m + 1 := ⟨l.length - 1, by omega⟩
    have hx' : x = (m : Int) := by omega
    subst hx'
    refine ⟨fun _ => ?_, fun hb => absurd (show (m : Int) ≥ 0 by omega) (of_decide_eq_false hb)⟩
    obtain ⟨o1, o2⟩ := cask_first (l.getD m dfC)
    refine ⟨by show (0 : Int) ≤ m; omega, by show (m : Int) < l.length; omega, by decide, o1, Nat.le_refl _, ⟨?_, ?_⟩⟩
    · have e : IntKind.i64.wrap ((m : Int) - 1) = (m : Int) - 1 := wrap_id (by omega) (by omega)
      refine ⟨by show -1 ≤ IntKind.i64.wrap ((m : Int) - 1); omega, by show IntKind.i64.wrap ((m : Int) - 1) < _; omega, ?_⟩
      refine o2.trans ?_
      show [l.getD m dfC] = l.reverse.take (l.length - 1 - (IntKind.i64.wrap ((m : Int) - 1) + 1).toNat + 1)
      rw [e, show ((m : Int) - 1 + 1).toNat = m by omega]
      have := hcat m (by omega)
      rw [show l.length - 1 - m = 0 by omega, List.take_zero, List.nil_append] at this
      rw [this]; congr 1; omega
    · show (IntKind.i64.wrap ((m : Int) - 1) + 1).toNat < l.length + 5
      rw [wrap_id (by omega) (by omega)]; omega
  · rintro ⟨y, acc, u⟩ ⟨g1, g2, g3⟩
    simp only at g1 g2 g3
    refine ⟨fun hb => ?_, fun hb => ?_⟩
    · have hb : y ≥ 0 := of_decide_eq_true hb
      obtain ⟨k, rfl⟩ : ∃ k : Nat, y = k := ⟨y.toNat, by omega⟩
      have hk : k < l.length := by omega
      rw [show l.length - 1 - ((k : Int) + 1).toNat + 1 = l.length - 1 - k by omega] at g3
      have hlen : acc.length ≤ l.length := by rw [g3]; simp; omega
      obtain ⟨o1, o2⟩ := cask_push acc (l.getD k dfC)
      refine ⟨by show (0 : Int) ≤ k; omega, by show (k : Int) < l.length; omega, by show acc.length + 1 ≤ 1000000; omega, Nat.le_refl _, o1, Nat.le_refl _, ⟨?_, ?_⟩⟩
      · have e : IntKind.i64.wrap ((k : Int) - 1) = (k : Int) - 1 := wrap_id (by omega) (by omega)
        refine ⟨by show -1 ≤ IntKind.i64.wrap ((k : Int) - 1); omega, by show IntKind.i64.wrap ((k : Int) - 1) < _; omega, ?_⟩
        refine o2.trans ?_
        show acc ++ [l.getD k dfC] = l.reverse.take (l.length - 1 - (IntKind.i64.wrap ((k : Int) - 1) + 1).toNat + 1)
        rw [e, g3, hcat k hk]
        congr 1; omega
      · show (IntKind.i64.wrap ((k : Int) - 1) + 1).toNat < ((k : Int) + 1).toNat
        rw [wrap_id (by omega) (by omega)]; omega
    · have hb : ¬ y ≥ 0 := of_decide_eq_false hb
      have hy : y = -1 := by omega
      subst hy
      have e : acc = l.reverse := by
        rw [g3]
        refine List.take_of_length_le ?_
        simp; omega
      show (trF5 l s acc).wp _
      rw [e]
      exact wF5 l s (rsEqv_refl _) hn' hl' ht
def dom5 : DomF
  | [.c (.sl _ n_l st_l F_l), .agg [.int .i64 sv, .int .i64 l0, .int .i64 h0, .int .i64 l1, .int .i64 h1, .int .i64 l2, .int .i64 h2, .int .i64 l3, .int .i64 h3]] => (match Nat.beq st_l 7 with
    | true => some ([eC.Is n_l F_l], [rB true])
    | _ => none)
  | _ => none
theorem C5 : FOK Try.prog G0 gw 5 dom5 := by
  intro ags p r hd hp κ w xs hw hl hG hx
  unfold dom5 at hd
  split at hd
  · rename_i q_l n_l st_l F_l sv l0 h0 l1 h1 l2 h2 l3 h3
    split at hd
    · rename_i hst
      have g1 := hst
      have g1 := Nat.eq_of_beq_eq_true g1
      subst g1
      simp only [Option.some.injEq, Prod.mk.injEq] at hd
      obtain ⟨rfl, rfl⟩ := hd
      obtain ⟨hI_l, hp⟩ := hp
      have heq : agsEqv [.c (.sl q_l n_l 7 F_l), .agg [.int .i64 sv, .int .i64 l0, .int .i64 h0, .int .i64 l1, .int .i64 h1, .int .i64 l2, .int .i64 h2, .int .i64 l3, .int .i64 h3]] [.c (.sl q_l (eC.list n_l F_l).length 7 (eC.F (eC.list n_l F_l))), .agg [.int .i64 sv, .int .i64 l0, .int .i64 h0, .int .i64 l1, .int .i64 h1, .int .i64 l2, .int .i64 h2, .int .i64 l3, .int .i64 h3]] := ⟨eC.to id hI_l, Ag.eqv_refl _, trivial⟩
      have len_l : (eC.list n_l F_l).length = n_l := eC.list_len
      generalize eC.list n_l F_l = l at *
      subst len_l
      exact fokX_fin mixed gw_stable (sl := [v18, v19, v21, v22, v20f, v26f]) ⟨S18, S19, S21, S22, S20f, S26f, trivial⟩ Try.func5 hw hl hG hx heq rfl (t5 q_l l sv l0 h0 l1 h1 l2 h2 l3 h3) (w5 l _)
    · cases hd
  · cases hd
end Go.Bl
end

section
set_option linter.unusedVariables false
set_option linter.unusedSimpArgs false
set_option maxRecDepth 100000
namespace Go.Bl
open Go.V Go.Proofs
def lessW (s : Sample) (d : Int) : Sample := ⟨IntKind.i64.wrap (s.vol - d), s.r0, s.r1, s.r2, s.r3⟩
def trN16 (l : List Cask) (s : Sample) (wd : Int) : T (List Ar) :=
    T.need (Enc.Is eC (List.length l) (Enc.F eC l)) (T.need (List.length (Enc.list eC (List.length l) (Enc.F eC l)) ≤ (1000000 : Nat)) (T.need (Enc.Is eC (List.length l) (Enc.F eC (Enc.list eC (List.length l) (Enc.F eC l)))) (T.need (∀ (c : Cask), c ∈ Enc.list eC (List.length l) (Enc.F eC (Enc.list eC (List.length l) (Enc.F eC l))) → ByteArray.size (Cask.nm c) ≤ (1000000 : Nat)) (T.need (List.length (Enc.list eC (List.length l) (Enc.F eC (Enc.list eC (List.length l) (Enc.F eC l)))) ≤ (1000000 : Nat)) (T.need (Enc.Is eC (List.length l) (Enc.F eC l)) (T.need (List.length (Enc.list eC (List.length l) (Enc.F eC l)) ≤ (1000000 : Nat)) (T.need (Enc.Is eC (List.length l) (Enc.F eC (Enc.list eC (List.length l) (Enc.F eC l)))) (T.need (∀ (c : Cask), c ∈ Enc.list eC (List.length l) (Enc.F eC (Enc.list eC (List.length l) (Enc.F eC l))) → ByteArray.size (Cask.nm c) ≤ (1000000 : Nat)) (T.need (List.length (Enc.list eC (List.length l) (Enc.F eC (Enc.list eC (List.length l) (Enc.F eC l)))) ≤ (1000000 : Nat)) (T.br ((M.near (Enc.list eC (List.length l) (Enc.F eC (Enc.list eC (List.length l) (Enc.F eC l)))) s).5 != (0 : Int)) (T.ret [Ar.c (D.bool ((M.near (Enc.list eC (List.length l) (Enc.F eC (Enc.list eC (List.length l) (Enc.F eC l)))) s).5 == (24 : Int)))]) (T.br ((M.near (Enc.list eC (List.length l) (Enc.F eC (Enc.list eC (List.length l) (Enc.F eC l)))) (lessW s wd)).5 == (0 : Int)) (T.br (decide ((M.near (Enc.list eC (List.length l) (Enc.F eC (Enc.list eC (List.length l) (Enc.F eC l)))) s).4 > (0 : Int))) (T.br (decide ((M.near (Enc.list eC (List.length l) (Enc.F eC (Enc.list eC (List.length l) (Enc.F eC l)))) (lessW s wd)).4 > (0 : Int))) (T.need ((0 : Int) < (M.near (Enc.list eC (List.length l) (Enc.F eC (Enc.list eC (List.length l) (Enc.F eC l)))) (lessW s wd)).4) (T.need ((0 : Int) < (M.near (Enc.list eC (List.length l) (Enc.F eC (Enc.list eC (List.length l) (Enc.F eC l)))) s).4) (T.need (Int.natAbs (NearR.d0 (M.near (Enc.list eC (List.length l) (Enc.F eC (Enc.list eC (List.length l) (Enc.F eC l)))) (lessW s wd))) < (9223372036854775808 : Nat)) (T.need (Int.natAbs (NearR.d1 (M.near (Enc.list eC (List.length l) (Enc.F eC (Enc.list eC (List.length l) (Enc.F eC l)))) (lessW s wd))) < (9223372036854775808 : Nat)) (T.need (Int.natAbs (NearR.d0 (M.near (Enc.list eC (List.length l) (Enc.F eC (Enc.list eC (List.length l) (Enc.F eC l)))) s)) < (9223372036854775808 : Nat)) (T.need (Int.natAbs (NearR.d1 (M.near (Enc.list eC (List.length l) (Enc.F eC (Enc.list eC (List.length l) (Enc.F eC l)))) s)) < (9223372036854775808 : Nat)) (T.ret [Ar.c (D.bool (decide (M.cmp (M.near (Enc.list eC (List.length l) (Enc.F eC (Enc.list eC (List.length l) (Enc.F eC l)))) (lessW s wd)).3 (M.near (Enc.list eC (List.length l) (Enc.F eC (Enc.list eC (List.length l) (Enc.F eC l)))) (lessW s wd)).4 (M.near (Enc.list eC (List.length l) (Enc.F eC (Enc.list eC (List.length l) (Enc.F eC l)))) s).3 (M.near (Enc.list eC (List.length l) (Enc.F eC (Enc.list eC (List.length l) (Enc.F eC l)))) s).4 ≤ (0 : Int))))]))))))) (T.ret [Ar.c (D.bool false)])) (T.ret [Ar.c (D.bool false)])) (T.ret [Ar.c (D.bool false)]))))))))))))
def tr16 (l : List Cask) (s : Sample) (wd : Int) : T (List Ar) :=
    T.br (!true) (T.ret [Ar.c (D.bool false)]) (T.need (Enc.Is eC (List.length l) (Enc.F eC l)) (T.br (!M.someN (4 : Nat) (Enc.list eC (List.length l) (Enc.F eC l))) (T.ret [Ar.c (D.bool true)]) (T.need (Enc.Is eC (List.length l) (Enc.F eC l)) (T.need (∀ (c : Cask), c ∈ Enc.list eC (List.length l) (Enc.F eC l) → ByteArray.size (Cask.nm c) ≤ (1000000 : Nat)) (T.br (M.taskErr (Enc.list eC (List.length l) (Enc.F eC l)) s != (0 : Int)) (T.ret [Ar.c (D.bool true)]) (T.br (!M.within wd (0 : Int) (IntKind.wrap IntKind.i64 (s.vol - (1 : Int)))) (T.ret [Ar.c (D.bool true)]) (T.need (Enc.Is eC (List.length l) (Enc.F eC l)) (T.need (List.length (Enc.list eC (List.length l) (Enc.F eC l)) ≤ (1000000 : Nat)) (T.need (Enc.Is eC (List.length l) (Enc.F eC (Enc.list eC (List.length l) (Enc.F eC l)))) (T.need (∀ (c : Cask), c ∈ Enc.list eC (List.length l) (Enc.F eC (Enc.list eC (List.length l) (Enc.F eC l))) → ByteArray.size (Cask.nm c) ≤ (1000000 : Nat)) (T.need (Enc.Is eC (List.length l) (Enc.F eC l)) (T.need (List.length (Enc.list eC (List.length l) (Enc.F eC l)) ≤ (1000000 : Nat)) (T.need (Enc.Is eC (List.length l) (Enc.F eC (Enc.list eC (List.length l) (Enc.F eC l)))) (T.need (∀ (c : Cask), c ∈ Enc.list eC (List.length l) (Enc.F eC (Enc.list eC (List.length l) (Enc.F eC l))) → ByteArray.size (Cask.nm c) ≤ (1000000 : Nat)) (T.br ((M.best (Enc.list eC (List.length l) (Enc.F eC (Enc.list eC (List.length l) (Enc.F eC l)))) s).6 == (0 : Int)) (T.br ((M.best (Enc.list eC (List.length l) (Enc.F eC (Enc.list eC (List.length l) (Enc.F eC l)))) (lessW s wd)).6 != (0 : Int)) (T.ret [Ar.c (D.bool false)]) (T.br (decide ((M.best (Enc.list eC (List.length l) (Enc.F eC (Enc.list eC (List.length l) (Enc.F eC l)))) s).2 < (1 : Int))) (T.ret [Ar.c (D.bool false)]) (T.br (decide ((M.best (Enc.list eC (List.length l) (Enc.F eC (Enc.list eC (List.length l) (Enc.F eC l)))) (lessW s wd)).2 < (1 : Int))) (T.ret [Ar.c (D.bool false)]) (T.br (!M.within (M.best (Enc.list eC (List.length l) (Enc.F eC (Enc.list eC (List.length l) (Enc.F eC l)))) s).2 (1 : Int) (200000000000 : Int)) (T.ret [Ar.c (D.bool false)]) (T.br (!M.within (M.best (Enc.list eC (List.length l) (Enc.F eC (Enc.list eC (List.length l) (Enc.F eC l)))) (lessW s wd)).2 (1 : Int) (200000000000 : Int)) (T.ret [Ar.c (D.bool false)]) (T.need ((0 : Int) < IntKind.wrap IntKind.i64 ((M.best (Enc.list eC (List.length l) (Enc.F eC (Enc.list eC (List.length l) (Enc.F eC l)))) (lessW s wd)).2 * IntKind.wrap IntKind.i64 (s.vol - wd))) (T.need ((0 : Int) < IntKind.wrap IntKind.i64 ((M.best (Enc.list eC (List.length l) (Enc.F eC (Enc.list eC (List.length l) (Enc.F eC l)))) s).2 * s.vol)) (T.need (Int.natAbs (BestR.c0 (M.best (Enc.list eC (List.length l) (Enc.F eC (Enc.list eC (List.length l) (Enc.F eC l)))) (lessW s wd))) < (9223372036854775808 : Nat)) (T.need (Int.natAbs (IntKind.wrap IntKind.i64 (BestR.c1 (M.best (Enc.list eC (List.length l) (Enc.F eC (Enc.list eC (List.length l) (Enc.F eC l)))) (lessW s wd)) * IntKind.wrap IntKind.i64 (s.vol - wd))) < (9223372036854775808 : Nat)) (T.need (Int.natAbs (BestR.c0 (M.best (Enc.list eC (List.length l) (Enc.F eC (Enc.list eC (List.length l) (Enc.F eC l)))) s)) < (9223372036854775808 : Nat)) (T.need (Int.natAbs (IntKind.wrap IntKind.i64 (BestR.c1 (M.best (Enc.list eC (List.length l) (Enc.F eC (Enc.list eC (List.length l) (Enc.F eC l)))) s) * s.vol)) < (9223372036854775808 : Nat)) (T.br (decide (M.cmp (M.best (Enc.list eC (List.length l) (Enc.F eC (Enc.list eC (List.length l) (Enc.F eC l)))) (lessW s wd)).1 (IntKind.wrap IntKind.i64 ((M.best (Enc.list eC (List.length l) (Enc.F eC (Enc.list eC (List.length l) (Enc.F eC l)))) (lessW s wd)).2 * IntKind.wrap IntKind.i64 (s.vol - wd))) (M.best (Enc.list eC (List.length l) (Enc.F eC (Enc.list eC (List.length l) (Enc.F eC l)))) s).1 (IntKind.wrap IntKind.i64 ((M.best (Enc.list eC (List.length l) (Enc.F eC (Enc.list eC (List.length l) (Enc.F eC l)))) s).2 * s.vol)) > (0 : Int))) (T.ret [Ar.c (D.bool false)]) (trN16 l s wd))))))))))))) (trN16 l s wd))))))))))))))))
theorem t16 (q_l : Bool) (l : List Cask) (sv l0 h0 l1 h1 l2 h2 l3 h3 : Int) (wd : Int) : runFnX Try.prog G0 (lookS [v60, v19, v21, v35, v22, v20f, v26f, v39]) (fun _ => []) [] 1 20 3 16 Try.f16 [.c (.sl q_l l.length 7 (eC.F l)), .agg [dI sv, dI l0, dI h0, dI l1, dI h1, dI l2, dI h2, dI l3, dI h3], .c (dI wd)] =
    tr16 l (⟨sv, ⟨l0, h0⟩, ⟨l1, h1⟩, ⟨l2, h2⟩, ⟨l3, h3⟩⟩ : Sample) wd := by kernel_rfl
theorem wN16 (l : List Cask) (s : Sample) (wd : Int) (hn : ∀ c, c ∈ l → c.nm.size ≤ 1000000) (hl : l.length ≤ 1000000) (ht : M.taskErr l s = 0) (h0 : 0 ≤ wd) (h1 : wd ≤ s.vol - 1) (e : lessW s wd = lessS s wd) : (trN16 l s wd).wp (fun rs => rsEqv rs [rB true]) := by
  unfold trN16
  simp only [Enc.list_F]
  rw [e]
  obtain ⟨k1, k2⟩ := less_near ht h0 h1
  generalize M.near l (lessS s wd) = B at *
  generalize M.near l s = A at *
  iterate 10 refine ⟨by first | exact Enc.is_F _ _ _ | assumption, ?_⟩
  refine wp_br (fun hb => ?_) (fun hb => ?_)
  · rw [k1 (by simpa using hb)]; exact rsEqv_refl _
  · obtain ⟨q0, q1, q2, q3, q4, q5, q6, q7⟩ := k2 (by simpa using hb)
    refine wp_br (fun _ => wp_br (fun _ => wp_br (fun _ => ⟨q2, q1, q5, q6, q3, q4, ?_⟩) (fun e => absurd q2 (of_decide_eq_false e))) (fun e => absurd q1 (of_decide_eq_false e))) (fun e => by rw [q0] at e; exact absurd e (by decide))
    rw [decide_eq_true q7]; exact rsEqv_refl _
theorem w16 (l : List Cask) (s : Sample) (wd : Int) : (tr16 l s wd).wp (fun rs => rsEqv rs [rB true]) := by
  unfold tr16
  simp only [Enc.list_F]
  refine wp_br (fun hb => absurd hb (by decide)) (fun _ => ⟨Enc.is_F _ _ _, wp_br (fun _ => rsEqv_refl _) (fun hb => ?_)⟩)
  have hs : M.someN 4 l = true := by simpa using hb
  obtain ⟨hl, hn⟩ := someN_small hs
  have hn' : ∀ c, c ∈ l → c.nm.size ≤ 1000000 := fun c hc => Nat.le_trans (hn c hc) (by decide)
  have hl' : l.length ≤ 1000000 := by omega
  iterate 2 refine ⟨by first | exact Enc.is_F _ _ _ | assumption, ?_⟩
  refine wp_br (fun _ => rsEqv_refl _) (fun ht => ?_)
  have ht : M.taskErr l s = 0 := by simpa using ht
  have hv := (task_right ht).v
  refine wp_br (fun _ => rsEqv_refl _) (fun hw => ?_)
  rw [wrap_id (n := s.vol - 1) (by omega) (by omega)] at hw
  obtain ⟨h0, h1⟩ := within_spec (not_false' hw)
  have e1 : IntKind.i64.wrap (s.vol - wd) = s.vol - wd := wrap_id (by omega) (by omega)
  have e : lessW s wd = lessS s wd := by unfold lessW lessS; rw [e1]
  have hN := wN16 l s wd hn' hl' ht h0 h1 e
  have k := less_best ht h0 h1
  rw [e, e1]
  generalize trN16 l s wd = N at *
  generalize M.best l (lessS s wd) = B at *
  generalize M.best l s = A at *
  iterate 8 refine ⟨by first | exact Enc.is_F _ _ _ | assumption, ?_⟩
  refine wp_br (fun hb => ?_) (fun _ => hN)
  obtain ⟨q0, ⟨q1, q2⟩, ⟨q3, q4⟩, q5, q6, q7⟩ := k (eq_of_beq hb)
  have m0 : 0 < B.c1 * (s.vol - wd) := Int.mul_pos (by omega) (by omega)
  have m1 : B.c1 * (s.vol - wd) ≤ 200000000000 * 10000 := Int.mul_le_mul q4 (by omega) (by omega) (by decide)
  have m2 : 0 < A.c1 * s.vol := Int.mul_pos (by omega) (by omega)
  have m3 : A.c1 * s.vol ≤ 200000000000 * 10000 := Int.mul_le_mul q2 (by omega) (by omega) (by decide)
  have w1 : IntKind.i64.wrap (B.c1 * (s.vol - wd)) = B.c1 * (s.vol - wd) := wrap_id (by omega) (by omega)
  have w2 : IntKind.i64.wrap (A.c1 * s.vol) = A.c1 * s.vol := wrap_id (by omega) (by omega)
  have i1 : M.within A.c1 1 200000000000 = true := by unfold M.within; rw [decide_eq_true q1, decide_eq_true q2]; rfl
  have i2 : M.within B.c1 1 200000000000 = true := by unfold M.within; rw [decide_eq_true q3, decide_eq_true q4]; rfl
  rw [w1, w2]
  refine wp_br (fun e => by rw [q0] at e; exact absurd e (by decide)) (fun _ => wp_br (fun e => absurd (of_decide_eq_true e) (by omega)) (fun _ => wp_br (fun e => absurd (of_decide_eq_true e) (by omega)) (fun _ => ?_)))
  refine wp_br (fun e => by rw [i1] at e; exact absurd e (by decide)) (fun _ => wp_br (fun e => by rw [i2] at e; exact absurd e (by decide)) (fun _ => ?_))
  exact ⟨m0, m2, q6, by omega, q5, by omega, wp_br (fun e => absurd (of_decide_eq_true e) (by omega)) (fun _ => hN)⟩
def dom16 : DomF
  | [.c (.sl _ n_l st_l F_l), .agg [.int .i64 sv, .int .i64 l0, .int .i64 h0, .int .i64 l1, .int .i64 h1, .int .i64 l2, .int .i64 h2, .int .i64 l3, .int .i64 h3], .c (.int .i64 wd)] => (match Nat.beq st_l 7 with
    | true => some ([eC.Is n_l F_l], [rB true])
    | _ => none)
  | _ => none
theorem C16 : FOK Try.prog G0 gw 16 dom16 := by
  intro ags p r hd hp κ w xs hw hl hG hx
  unfold dom16 at hd
  split at hd
  · rename_i q_l n_l st_l F_l sv l0 h0 l1 h1 l2 h2 l3 h3 wd
    split at hd
    · rename_i hst
      have g1 := hst
      have g1 := Nat.eq_of_beq_eq_true g1
      subst g1
      simp only [Option.some.injEq, Prod.mk.injEq] at hd
      obtain ⟨rfl, rfl⟩ := hd
      obtain ⟨hI_l, hp⟩ := hp
      have heq : agsEqv [.c (.sl q_l n_l 7 F_l), .agg [.int .i64 sv, .int .i64 l0, .int .i64 h0, .int .i64 l1, .int .i64 h1, .int .i64 l2, .int .i64 h2, .int .i64 l3, .int .i64 h3], .c (.int .i64 wd)] [.c (.sl q_l (eC.list n_l F_l).length 7 (eC.F (eC.list n_l F_l))), .agg [.int .i64 sv, .int .i64 l0, .int .i64 h0, .int .i64 l1, .int .i64 h1, .int .i64 l2, .int .i64 h2, .int .i64 l3, .int .i64 h3], .c (.int .i64 wd)] := ⟨eC.to id hI_l, Ag.eqv_refl _, Ag.eqv_refl _, trivial⟩
      have len_l : (eC.list n_l F_l).length = n_l := eC.list_len
      generalize eC.list n_l F_l = l at *
      subst len_l
      exact fokX_fin mixed gw_stable (sl := [v60, v19, v21, v35, v22, v20f, v26f, v39]) ⟨S60, S19, S21, S35, S22, S20f, S26f, S39, trivial⟩ Try.func16 hw hl hG hx heq rfl (t16 q_l l sv l0 h0 l1 h1 l2 h2 l3 h3 wd) (w16 l _ wd)
    · cases hd
  · cases hd
end Go.Bl
end
