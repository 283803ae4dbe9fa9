/- The parts of the engines, of their contracts and of the plain laws that the claim rests on: L6, L7, B41, B42, B43, B44, B45, B46, B47, B48, B64, L8, L9, L12, B65, B66, L10, B50, B54, B55, L11, B56, B57, B67, R0, RG. -/
import Derived.Test.YtaigoebipeplpaaFA5
import Derived.ChangeSame
import Derived.ChangeVars
import Derived.ProofKit
import Derived.LaidMore
import Derived.OpenShut
import Derived.Carry
import Derived.ChangeArms
set_option linter.unusedVariables false
set_option linter.unusedSimpArgs false
section
set_option linter.unusedVariables false
set_option linter.unusedSimpArgs false
set_option maxRecDepth 100000
namespace Go.Bl
open Go.V Go.Proofs Go.Lp
def wsum (w : Wts) : Int := (w.x0 + w.x1 + w.x2 + w.x3) + (w.y0 + w.y1 + w.y2 + w.y3)
section
variable {l : List Cask} {s : Sample} {e : Nat}
theorem gift_eq (w : Wts) {j : Nat} (hj : j < l.length) : gift l s w j = w.each - en w.casks j - (w.x0 * hiF l s j 0 + w.x1 * hiF l s j 1 + w.x2 * hiF l s j 2 + w.x3 * hiF l s j 3) - (w.y0 * loF l s j 0 + w.y1 * loF l s j 1 + w.y2 * loF l s j 2 + w.y3 * loF l s j 3) := by
  unfold gift phi
  rw [smI_congr (h := fun i => 0 + if i = j then en w.casks j else 0) (fun i _ => by
    dsimp only
    by_cases e1 : i = j
    · subst e1; rw [if_pos rfl, if_pos rfl]; omega
    · rw [if_neg e1, if_neg e1]; omega), smI_if, smI_zero, if_pos hj]
  omega
theorem bound_eq (w : Wts) : bound l s w = w.each * s.vol - smI (fun i => en w.casks i * (l.getD i dfC).vol) (List.range l.length) := by
  unfold bound phi; dsimp only; omega
theorem smI_mul_right {g : Nat → Int} {k : Int} {L : List Nat} : smI g L * k = smI (fun a => g a * k) L := by
  rw [Int.mul_comm, ← smI_smul]; exact smI_congr fun a _ => Int.mul_comm _ _
theorem weak_blend {pt : List Int} {den far : Int} (hb : Blend l s pt den far) {w : Wts} (hw : Each (fun b => 0 ≤ b) w) {g : Nat → Int} (hg : ∀ j, j < l.length → gift l s w j ≤ g j) :
    bound l s w * den ≤ smI (fun j => g j * en pt j) (List.range l.length) + wsum w * far := by
  obtain ⟨hc, ⟨x0, x1, x2, x3⟩, y0, y1, y2, y3⟩ := hw
  have h1 : bound l s w * den = w.each * smI (fun j => en pt j) (List.range l.length) - smI (fun i => en w.casks i * ((l.getD i dfC).vol * den)) (List.range l.length) := by
    rw [bound_eq, Int.sub_mul, hb.sum, Int.mul_assoc, smI_mul_right]
    congr 1
    exact smI_congr fun i _ => Int.mul_assoc _ _ _
  have h2 : smI (fun i => en w.casks i * en pt i) (List.range l.length) ≤ smI (fun i => en w.casks i * ((l.getD i dfC).vol * den)) (List.range l.length) :=
    smI_le fun i hi => Int.mul_le_mul_of_nonneg_left (hb.p1 i (List.mem_range.1 hi)) (hc i)
  have h3 : smI (fun j => gift l s w j * en pt j) (List.range l.length) ≤ smI (fun j => g j * en pt j) (List.range l.length) :=
    smI_le fun j hj => Int.mul_le_mul_of_nonneg_right (hg j (List.mem_range.1 hj)) (hb.p0 j (List.mem_range.1 hj))
  have h4 : smI (fun j => gift l s w j * en pt j) (List.range l.length) = w.each * smI (fun j => en pt j) (List.range l.length) - smI (fun i => en w.casks i * en pt i) (List.range l.length) -
      (w.x0 * smI (fun j => hiF l s j 0 * en pt j) (List.range l.length) + w.x1 * smI (fun j => hiF l s j 1 * en pt j) (List.range l.length) + w.x2 * smI (fun j => hiF l s j 2 * en pt j) (List.range l.length) + w.x3 * smI (fun j => hiF l s j 3 * en pt j) (List.range l.length)) -
      (w.y0 * smI (fun j => loF l s j 0 * en pt j) (List.range l.length) + w.y1 * smI (fun j => loF l s j 1 * en pt j) (List.range l.length) + w.y2 * smI (fun j => loF l s j 2 * en pt j) (List.range l.length) + w.y3 * smI (fun j => loF l s j 3 * en pt j) (List.range l.length)) := by
    simp only [← smI_smul, Int.sub_eq_add_neg, ← smI_neg, ← smI_add]
    refine smI_congr fun j hj => ?_
    rw [gift_eq w (List.mem_range.1 hj)]
    simp only [Int.sub_eq_add_neg, Int.add_mul, Int.neg_mul, Int.mul_assoc]
  have k0 := Int.mul_le_mul_of_nonneg_left (hb.hi 0 (by decide)) x0
  have k1 := Int.mul_le_mul_of_nonneg_left (hb.hi 1 (by decide)) x1
  have k2 := Int.mul_le_mul_of_nonneg_left (hb.hi 2 (by decide)) x2
  have k3 := Int.mul_le_mul_of_nonneg_left (hb.hi 3 (by decide)) x3
  have q0 := Int.mul_le_mul_of_nonneg_left (hb.lo 0 (by decide)) y0
  have q1 := Int.mul_le_mul_of_nonneg_left (hb.lo 1 (by decide)) y1
  have q2 := Int.mul_le_mul_of_nonneg_left (hb.lo 2 (by decide)) y2
  have q3 := Int.mul_le_mul_of_nonneg_left (hb.lo 3 (by decide)) y3
  have e5 : wsum w * far = (w.x0 * far + w.x1 * far + w.x2 * far + w.x3 * far) + (w.y0 * far + w.y1 * far + w.y2 * far + w.y3 * far) := by
    unfold wsum; simp only [Int.add_mul]
  unfold hiF loF at h4
  rw [h1, e5]
  omega
theorem limits_zero {i : Nat} (hi : i < l.length + e) : (M.limits l s e).getD i dK = ⟨0, i, M.only (l.length + e) i (-1), 0⟩ := by
  unfold M.limits
  rw [List.getD_eq_getElem?_getD, List.getElem?_append_left (by simp; omega), List.getElem?_append_left (by simpa using hi), List.getElem?_map, List.getElem?_range hi]
  rfl
def stA (m a c : Nat) : Int := if a = 0 then (if c < m then 1 else 0) else if c + 1 = a then -1 else 0
def stB (m e j : Nat) : List Nat := ((List.range (m + e)).filter fun i => decide (i ≠ j)).map (· + 1)
theorem start_det : ∀ m, m ≤ 4 → ∀ e, e ≤ 1 → ∀ j, j < m → DI (stA m) (0 :: stB m e j) (List.range (m + e)) ≠ 0 := by decide +kernel
theorem start_len : ∀ m, m ≤ 4 → ∀ e, e ≤ 1 → ∀ j, j < m → (stB m e j).length + 1 = m + e := by decide +kernel
theorem stB_mem {m j a : Nat} (h : a ∈ stB m e j) : ∃ i, a = i + 1 ∧ i < m + e ∧ i ≠ j := by
  unfold stB at h
  obtain ⟨i, hi, rfl⟩ := List.mem_map.1 h
  obtain ⟨h1, h2⟩ := List.mem_filter.1 hi
  exact ⟨i, rfl, List.mem_range.1 h1, by simpa using h2⟩
theorem smI_filter {g : Nat → Int} {p : Nat → Bool} : ∀ {L : List Nat}, smI g (L.filter p) = smI (fun a => if p a = true then g a else 0) L
  | [] => rfl
  | a :: L => by
    rw [List.filter_cons]
    split
    · rename_i h; simp only [smI]; rw [if_pos h, smI_filter]
    · rename_i h; simp only [smI]; rw [if_neg h, smI_filter]; omega
theorem rowF_stA {a c : Nat} (ha : a = 0 ∨ ∃ i, a = i + 1 ∧ i < l.length + e) (hc : c < l.length + e) : en ((M.mat (M.shares l e) (M.limits l s e)).getD a []) c = stA l.length a c := by
  rcases ha with rfl | ⟨i, rfl, hi⟩
  · rw [mat0, shares_en]; unfold S0 stA; rw [if_pos rfl]; split <;> rfl
  · rw [matS, limits_zero hi]
    show en (M.only _ i (-1)) c = _
    rw [en_only hc]; unfold stA
    by_cases h : c = i
    · rw [if_pos h, if_neg (by omega), if_pos (by omega)]
    · rw [if_neg h, if_neg (by omega), if_neg (by omega)]
theorem start_sum {m j c : Nat} {wo sh : Nat → Int} (hj : j < m) (hc : c < m + e) (hs : ∀ i, sh i = if i < m then 1 else 0) :
    smI (fun a => (if a = 0 then wo j else wo j * sh (a - 1) - wo (a - 1)) * stA m a c) (0 :: stB m e j) = wo c := by
  simp only [smI]
  unfold stB
  rw [smI_map, smI_filter]
  rw [smI_congr (h := fun i => 0 + if i = c then (if c = j then 0 else - (wo j * sh c - wo c)) else 0) (fun i hi => by
    unfold stA
    rw [if_neg (show ¬ i + 1 = 0 by omega), if_neg (show ¬ i + 1 = 0 by omega), Nat.add_sub_cancel]
    by_cases h : i = c
    · subst h
      rw [if_pos rfl, if_pos rfl]
      by_cases h2 : i = j
      · rw [if_pos h2, if_neg (by simpa using h2)]; omega
      · rw [if_neg h2, if_pos (by simpa using h2)]; omega
    · rw [if_neg h, if_neg (show ¬ c + 1 = i + 1 by omega)]
      split <;> omega), smI_if, smI_zero, if_pos hc]
  unfold stA
  simp only [↓reduceIte]
  by_cases h2 : c = j
  · subst h2; rw [if_pos hj, if_pos rfl]; omega
  · rw [if_neg h2, hs c]
    split <;> omega
theorem rat_cancel {a b d : Rat} (h : d ≠ 0) (e : a * d = b * d) : a = b := by
  have h1 : (a - b) * d = 0 := by grind
  rcases Rat.mul_eq_zero.1 h1 with h2 | h2
  · grind
  · exact absurd h2 h
theorem prog_none (h : RightL l s) (he : e ≤ 1) {wo : List Int} (hwl : wo.length = l.length + e) (hwe : ∀ x, x ∈ wo → x.natAbs ≤ 1000) {j : Nat} (hj : j < l.length) (hjm : ∀ c, c < l.length + e → en wo j * (if c < l.length then 1 else 0) ≤ en wo c)
    (hp : M.psolve (M.shares l e) s.vol wo (M.limits l s e) = none) {pt : List Int} {den : Int} (hb : Blend l s pt den (farOf e l.length pt)) (h0 : 0 ≤ farOf e l.length pt) : False := by
  obtain ⟨b1, b2⟩ := blend_conds h he hb h0
  have hd0 : ((den : Int) : Rat) ≠ 0 := by
    intro e1
    have := Rat.intCast_inj.1 (show ((den : Int) : Rat) = ((0 : Int) : Rat) from e1)
    have := hb.dp; omega
  have hdp : (0 : Rat) < ((den : Int) : Rat) := by
    have := Rat.intCast_lt_intCast.2 hb.dp
    exact this
  have cast : ∀ a : List Int, sm (fun c => ((en a c : Int) : Rat) * (((en pt c : Int) : Rat) / ((den : Int) : Rat))) (List.range (l.length + e)) * ((den : Int) : Rat) = ((dl (l.length + e) a pt : Int) : Rat) := by
    intro a
    unfold dl
    rw [smI_cast, Rat.mul_comm, ← sm_smul]
    refine sm_congr fun c _ => ?_
    rw [Rat.intCast_mul]
    have : ((en pt c : Int) : Rat) / ((den : Int) : Rat) * ((den : Int) : Rat) = ((en pt c : Int) : Rat) := Rat.div_mul_cancel hd0
    rw [Rat.mul_comm, Rat.mul_assoc, this]
  refine psolve_none (small_of h he hwl hwe) hp (B := stB l.length e j) (start_len _ h.n4 e he j hj) (fun a ha => ?_) ?_ ⟨fun a => (((if a = 0 then en wo j else en wo j * (if a - 1 < l.length then 1 else 0) - en wo (a - 1)) : Int) : Rat), fun a ha => ?_, fun c hc => ?_⟩ (fun c => ((en pt c : Int) : Rat) / ((den : Int) : Rat)) ?_ (fun c hc => ?_)
  · obtain ⟨i, rfl, h1, h2⟩ := stB_mem ha
    rw [limits_len]; omega
  · refine (D_ne (f := fun a c => en ((M.mat (M.shares l e) (M.limits l s e)).getD a []) c)).2 ?_
    rw [List.singleton_append, DI_congr (g := stA l.length) (fun a ha c hc => rowF_stA (by
      rcases List.mem_cons.1 ha with rfl | ha
      · exact .inl rfl
      · obtain ⟨i, rfl, h1, _⟩ := stB_mem ha
        exact .inr ⟨i, rfl, h1⟩) (List.mem_range.1 hc))]
    exact start_det _ h.n4 e he j hj
  · obtain ⟨i, rfl, h1, h2⟩ := stB_mem ha
    show ((_ : Int) : Rat) ≤ ((0 : Int) : Rat)
    apply Rat.intCast_le_intCast.2
    rw [if_neg (by omega), Nat.add_sub_cancel]
    have := hjm i h1
    omega
  · have hc := List.mem_range.1 hc
    have key := start_sum (wo := en wo) (sh := fun i => if i < l.length then 1 else 0) (e := e) hj hc (fun _ => rfl)
    unfold woF
    rw [← key, smI_cast, List.singleton_append]
    refine sm_congr fun a ha => ?_
    rw [Rat.intCast_mul]
    unfold rowF
    rw [rowF_stA (by
      rcases List.mem_cons.1 ha with rfl | ha
      · exact .inl rfl
      · obtain ⟨i, rfl, h1, _⟩ := stB_mem ha
        exact .inr ⟨i, rfl, h1⟩) hc]
  · apply rat_cancel hd0
    rw [cast, b1, Rat.intCast_mul]
  · apply Rat.le_of_mul_le_mul_right ?_ hdp
    rw [cast, ← Rat.intCast_mul]
    exact Rat.intCast_le_intCast.2 (b2 c hc)
end
end Go.Bl
end

section
set_option linter.unusedVariables false
set_option linter.unusedSimpArgs false
set_option maxRecDepth 100000
namespace Go.Bl
open Go.V Go.Proofs Go.Lp
section
variable {l : List Cask} {s : Sample} {x : M.Corner}
theorem costs_en {j : Nat} (hj : j < l.length) : en (M.costs l) j = (l.getD j dfC).cost := by
  unfold M.costs en
  rw [List.getD_eq_getElem?_getD, List.getElem?_map, List.getD_eq_getElem?_getD, List.getElem?_eq_getElem hj]; rfl
theorem far_en {j : Nat} (hj : j < l.length + 1) : en (M.far l) j = if j = l.length then 1 else 0 := by
  unfold M.far en
  by_cases h : j < l.length
  · rw [if_neg (by omega), List.getD_eq_getElem?_getD, List.getElem?_append_left (by simpa using h), List.getElem?_map, List.getElem?_eq_getElem h]; rfl
  · obtain rfl : j = l.length := by omega
    rw [if_pos rfl, List.getD_eq_getElem?_getD, List.getElem?_append_right (by simp)]; simp
def cost (l : List Cask) (pt : List Int) : Int := smI (fun j => (l.getD j dfC).cost * en pt j) (List.range l.length)
theorem Blend.congr {pt pt' : List Int} {den far : Int} (hb : Blend l s pt den far) (h : ∀ i, i < l.length → en pt' i = en pt i) : Blend l s pt' den far := by
  refine ⟨hb.dp, fun i hi => by rw [h i hi]; exact hb.p0 i hi, fun i hi => by rw [h i hi]; exact hb.p1 i hi, ?_, fun k hk => ?_, fun k hk => ?_⟩
  · rw [← hb.sum]; exact smI_congr fun i hi => h i (List.mem_range.1 hi)
  · rw [smI_congr fun i hi => by rw [h i (List.mem_range.1 hi)]]; exact hb.hi k hk
  · rw [smI_congr fun i hi => by rw [h i (List.mem_range.1 hi)]]; exact hb.lo k hk
theorem Blend.mono {pt : List Int} {den far far' : Int} (hb : Blend l s pt den far) (h : far ≤ far') : Blend l s pt den far' :=
  ⟨hb.dp, hb.p0, hb.p1, hb.sum, fun k hk => Int.le_trans (hb.hi k hk) h, fun k hk => Int.le_trans (hb.lo k hk) h⟩
structure BestS (l : List Cask) (s : Sample) (x : M.Corner) : Prop where
  b : Blend l s x.pt x.den 0
  d : x.den ≤ 200000000000
  pl : x.pt.length = l.length
  p : Proof l s (M.costs l) (M.wtsOf x l.length)
  eq : bound l s (M.wtsOf x l.length) * x.den = (M.wtsOf x l.length).den * cost l x.pt
  tb : x.tight.length ≤ x.by_.length ∧ x.tight.length ≤ 1000 ∧ WhichOK l.length x.tight
theorem which_ok {e : Nat} {c : Cond} (hc : c ∈ M.limits l s e) : 0 ≤ c.which ∧ (c.kind = 1 → c.which < (l.length : Int)) ∧ (c.kind ≠ 1 → c.kind ≠ 0 → c.which < 4) := by
  rcases limits_cases hc with ⟨i, hi, rfl⟩ | ⟨i, hi, rfl⟩ | ⟨k, hk, rfl⟩ | ⟨k, hk, rfl⟩
  · exact ⟨Int.natCast_nonneg i, fun h => absurd h (show (0 : Int) ≠ 1 by decide), fun _ h => absurd rfl h⟩
  · exact ⟨Int.natCast_nonneg i, fun _ => by show (i : Int) < _; omega, fun h => absurd rfl h⟩
  · exact ⟨Int.natCast_nonneg k, fun h => absurd h (show (2 : Int) ≠ 1 by decide), fun _ _ => by show (k : Int) < _; omega⟩
  · exact ⟨Int.natCast_nonneg k, fun h => absurd h (show (3 : Int) ≠ 1 by decide), fun _ _ => by show (k : Int) < _; omega⟩
theorem opt_tb {n e : Nat} {sh wo : List Int} {sum : Int} (hn : n ≤ 5) (ho : Opt n sh sum wo (M.limits l s e) x) : x.tight.length ≤ x.by_.length ∧ x.tight.length ≤ 1000 ∧ WhichOK l.length x.tight :=
  ⟨by rw [ho.bl]; exact Nat.le_refl _, by have := ho.tl; omega, fun c hc => which_ok (ho.sub.subset hc)⟩
theorem costs_small (h : RightL l s) : ∀ j, j < l.length + 0 → (en (M.costs l) j).natAbs ≤ 1000 := by
  intro j hj
  rw [costs_en hj]
  have := (h.rc j hj).cost; omega
theorem best_some (h : RightL l s) (hp : M.pBest l s = some x) : BestS l s x := by
  have hc := costs_small h
  have hl : (M.costs l).length = l.length + 0 := costs_len l
  have ho := psolve_some (small_of h (e := 0) (by decide) hl (ent_of hl hc)) hp
  obtain ⟨b1, _⟩ := conds_blend h (by decide) ho.den ho.sum ho.all
  obtain ⟨p1, p2, p3, _⟩ := opt_wts h (by decide) hl (fun j hj => by unfold Kb; rw [if_pos (show j < l.length from hj)]; exact hc j hj) (W := fun _ => 1000) hc (num_cost _ h.n4) ho
  refine ⟨b1, ?_, ho.pl, p1, ?_, opt_tb (by have := h.n4; omega) ho⟩
  · rw [← ho.wdE.trans ho.denE.symm, ← p2]; exact p1.den.2
  · rw [p3, p2]
    congr 1
    exact smI_congr fun j hj => by rw [costs_en (List.mem_range.1 hj)]
theorem argmin (f : Nat → Int) : ∀ m, 1 ≤ m → ∃ j, j < m ∧ ∀ c, c < m → f j ≤ f c
  | 0, h => absurd h (by decide)
  | 1, _ => ⟨0, by decide, fun c hc => by rw [show c = 0 by omega]; exact Int.le_refl _⟩
  | m + 2, _ => by
    obtain ⟨j, hj, hm⟩ := argmin f (m + 1) (by omega)
    by_cases h : f j ≤ f (m + 1)
    · refine ⟨j, by omega, fun c hc => ?_⟩
      by_cases e : c = m + 1
      · rw [e]; exact h
      · exact hm c (by omega)
    · refine ⟨m + 1, by omega, fun c hc => ?_⟩
      by_cases e : c = m + 1
      · rw [e]; exact Int.le_refl _
      · have := hm c (by omega); omega
theorem best_none (h : RightL l s) (hp : M.pBest l s = none) {pt : List Int} {den : Int} (hb : Blend l s pt den 0) : False := by
  have hc := costs_small h
  have hl : (M.costs l).length = l.length + 0 := costs_len l
  obtain ⟨j, hj, hm⟩ := argmin (en (M.costs l)) l.length h.n1
  exact prog_none h (e := 0) (by decide) hl (ent_of hl hc) hj (fun c hc => by have hc : c < l.length := hc; rw [if_pos hc, Int.mul_one]; exact hm c hc) hp hb (Int.le_refl _)
structure NearS (l : List Cask) (s : Sample) (x : M.Corner) : Prop where
  b : Blend l s x.pt x.den (en x.pt l.length)
  f0 : 0 ≤ en x.pt l.length
  d : x.den ≤ 200000000000
  pl : x.pt.length = l.length + 1
  p : Proof l s (M.far l) (M.wtsOf x l.length)
  eq : bound l s (M.wtsOf x l.length) * x.den = (M.wtsOf x l.length).den * en x.pt l.length
  ws : wsum (M.wtsOf x l.length) ≤ (M.wtsOf x l.length).den
  tb : x.tight.length ≤ x.by_.length ∧ x.tight.length ≤ 1000 ∧ WhichOK l.length x.tight
theorem far_small : ∀ j, j < l.length + 1 → (en (M.far l) j).natAbs ≤ if j < l.length then 0 else 1 := by
  intro j hj
  rw [far_en hj]
  by_cases h : j < l.length
  · rw [if_pos h, if_neg (by omega)]; decide
  · rw [if_neg h, if_pos (by omega)]; decide
theorem near_corner (h : RightL l s) (hp : M.psolve (M.shares l 1) s.vol (M.far l) (M.limits l s 1) = some x) : NearS l s x := by
  have hc := far_small (l := l)
  have hl : (M.far l).length = l.length + 1 := far_len l
  have h1 : ∀ j, j < l.length + 1 → (en (M.far l) j).natAbs ≤ 1 := fun j hj => Nat.le_trans (hc j hj) (by split <;> decide)
  have ho := psolve_some (small_of h (e := 1) (by decide) hl (ent_of hl fun j hj => Nat.le_trans (h1 j hj) (by decide))) hp
  obtain ⟨b1, b2⟩ := conds_blend h (by decide) ho.den ho.sum ho.all
  obtain ⟨p1, p2, p3, p4⟩ := opt_wts h (by decide) hl (fun j hj => Nat.le_trans (h1 j hj) (by unfold Kb; split <;> decide)) (W := fun c => if c < l.length then 0 else 1) hc (num_far _ h.n4) ho
  have p4 := p4 rfl
  rw [far_en (by omega), if_pos rfl] at p4
  refine ⟨b1, b2, ?_, ho.pl, p1, ?_, ?_, opt_tb (by have := h.n4; omega) ho⟩
  · rw [← ho.wdE.trans ho.denE.symm, ← p2]; exact p1.den.2
  · rw [p3, p2]
    congr 1
    unfold dl
    rw [smI_succ, far_en (by omega), if_pos rfl, smI_congr (h := fun _ => 0) (fun j hj => by
      have hj := List.mem_range.1 hj
      rw [far_en (by omega), if_neg (by omega), Int.zero_mul]), smI_zero]
    omega
  · rw [p2]
    have : phi (M.wtsOf x l.length) l.length (fun _ => 0) (fun _ => 1) (fun _ => 1) = wsum (M.wtsOf x l.length) := by
      unfold phi wsum
      rw [smI_congr (h := fun _ => 0) (fun i _ => Int.mul_zero _), smI_zero]
      dsimp only
      omega
    omega
def vols (l : List Cask) : Int := smI (fun i => (l.getD i dfC).vol) (List.range l.length)
theorem near_ex (h : RightL l s) (hv : s.vol ≤ vols l) : ∃ x, M.psolve (M.shares l 1) s.vol (M.far l) (M.limits l s 1) = some x := by
  cases hp : M.psolve (M.shares l 1) s.vol (M.far l) (M.limits l s 1) with
  | some x => exact ⟨x, rfl⟩
  | none =>
    exfalso
    have hl : (M.far l).length = l.length + 1 := far_len l
    have hs := h.v
    have hvp : 0 < vols l := by omega
    obtain ⟨pt, hpt⟩ : ∃ pt, pt = (List.range l.length).map (fun i => (l.getD i dfC).vol * s.vol) ++ [1000 * s.vol * vols l] := ⟨_, rfl⟩
    have e1 : ∀ i, i < l.length → en pt i = (l.getD i dfC).vol * s.vol := by
      intro i hi
      rw [hpt]; unfold en
      rw [List.getD_eq_getElem?_getD, List.getElem?_append_left (by simpa using hi), List.getElem?_map, List.getElem?_range hi]; rfl
    have e2 : en pt l.length = 1000 * s.vol * vols l := by
      rw [hpt]; unfold en
      rw [List.getD_eq_getElem?_getD, List.getElem?_append_right (by simp)]; simp
    have hsum : smI (fun i => en pt i) (List.range l.length) = s.vol * vols l := by
      unfold vols
      rw [← smI_smul]
      exact smI_congr fun i hi => by rw [e1 i (List.mem_range.1 hi), Int.mul_comm]
    have hle : ∀ g : Nat → Int, (∀ i, i < l.length → g i ≤ 1000) → smI (fun i => g i * en pt i) (List.range l.length) ≤ 1000 * s.vol * vols l := by
      intro g hg
      rw [Int.mul_assoc, ← hsum, ← smI_smul]
      refine smI_le fun i hi => ?_
      have hi := List.mem_range.1 hi
      refine Int.mul_le_mul_of_nonneg_right (hg i hi) ?_
      rw [e1 i hi]
      exact Int.mul_nonneg (h.rc i hi).vol.1 (by omega)
    refine prog_none h (e := 1) (by decide) hl (ent_of hl fun j hj => Nat.le_trans (far_small j hj) (by split <;> decide)) (j := 0) h.n1 (fun c hc => ?_) hp (pt := pt) (den := vols l) ?_ ?_
    · have := h.n1
      rw [far_en (by omega), if_neg (by omega), far_en hc]
      split <;> split <;> decide
    · show Blend l s pt (vols l) (en pt l.length)
      rw [e2]
      refine ⟨hvp, fun i hi => ?_, fun i hi => ?_, hsum, fun k hk => hle _ fun i hi => ?_, fun k hk => hle _ fun i hi => ?_⟩
      · rw [e1 i hi]; exact Int.mul_nonneg (h.rc i hi).vol.1 (by omega)
      · rw [e1 i hi]; exact Int.mul_le_mul_of_nonneg_left hv (h.rc i hi).vol.1
      · have := (h.hiF hi hk).2; omega
      · have := (h.loF hi hk).2; omega
    · show 0 ≤ en pt l.length
      rw [e2]
      exact Int.mul_nonneg (Int.mul_nonneg (by decide) (by omega)) (by omega)
theorem Blend.parts (h : RightL l s) {pt : List Int} {den far : Int} (hb : Blend l s pt den far) (hd : den ≤ 200000000000) (hl : pt.length = l.length) : RightP l den pt := by
  refine ⟨hl, ⟨hb.dp, hd⟩, fun i hi => ⟨hb.p0 i hi, ?_⟩⟩
  have h1 := hb.p1 i hi
  have h2 := (h.rc i hi).vol
  have h3 : (l.getD i dfC).vol * den ≤ 10000 * 200000000000 := Int.mul_le_mul h2.2 hd (Int.le_of_lt hb.dp) (by decide)
  show pt.getD i 0 ≤ _
  have h1 : pt.getD i 0 ≤ (l.getD i dfC).vol * den := h1
  omega
theorem sum_vol (h : RightL l s) {pt : List Int} {den : Int} (hp : RightP l den pt) : M.sumP (fun _ => 1) l pt = smI (fun i => en pt i) (List.range l.length) := by
  rw [(vol_bound h.n4 hp).1, smI_dot]; rfl
theorem open_of (h : RightL l s) {pt : List Int} {den far : Int} (hb : Blend l s pt den far) (hd : den ≤ 200000000000) (hl : pt.length = l.length) : OpenR l s den pt := by
  have hp := hb.parts h hd hl
  refine ⟨h.n4, h.rc, hp, ?_, ⟨h.lo 0 (by decide), h.hi 0 (by decide)⟩, ⟨h.lo 1 (by decide), h.hi 1 (by decide)⟩, ⟨h.lo 2 (by decide), h.hi 2 (by decide)⟩, ⟨h.lo 3 (by decide), h.hi 3 (by decide)⟩⟩
  rw [sum_vol h hp, hb.sum]
  have := Int.mul_pos (show 0 < s.vol by have := h.v; omega) hb.dp
  omega
theorem best_okay (l : List Cask) (s : Sample) : BestOK l s := by
  intro he
  have h := task_right he
  have hc := costs_small h
  obtain ⟨a1, a2, a3, a4, a5⟩ := limits_small h (e := 0) (by decide)
  refine ⟨h.n1, h.n4, fun c hc => by rw [shares_len]; exact a3 c hc, turnOK (by rw [shares_len]; have := h.n4; omega) a2 (fun c hc => ⟨by rw [shares_len]; exact a3 c hc, a4 c hc⟩), fun x hx => ?_⟩
  have hb := best_some h hx
  have ho := open_of h hb.b hb.d hb.pl
  exact ⟨⟨Nat.le_of_eq hb.pl, by have := hb.b.dp; omega, by have := hb.b.dp; have := hb.d; unfold i64ok; omega, hb.tb.1, hb.tb.2.1, hb.tb.2.2⟩, cost_ok ho⟩
theorem vols_eq (h : RightL l s) : M.volumes l = vols l := by
  have := (fold_dot (f := fun a i => IntKind.i64.wrap (a + (l.getD i dfC).vol)) (y := fun i => (l.getD i dfC).vol) (n := l.length) (fun a i _ => rfl) (fun i hi => by have := (h.rc i hi).vol; omega) h.n4).1
  unfold vols
  rw [smI_dot, ← this]
  rfl
theorem near_right (he : M.nearErr l s = 0) : RightL l s ∧ s.vol ≤ vols l := by
  unfold M.nearErr at he
  have hz := first_nil _ he
  have ht : M.taskErr l s = 0 := by
    unfold M.taskErr
    have h1 := hz (M.casksErr l) (by simp)
    have h2 := hz (M.checkSample s) (by simp)
    rw [h1, h2]; rfl
  have h := task_right ht
  refine ⟨h, ?_⟩
  have h3 := of_decide_eq_true (unl_zero (by decide) (hz (M.unl (decide (M.volumes l ≥ s.vol)) 24) (by simp)))
  rw [vols_eq h] at h3
  exact h3
theorem near_some (h : RightL l s) (hv : s.vol ≤ vols l) : NearS l s (M.pNear l s) := by
  obtain ⟨x, hx⟩ := near_ex h hv
  have : M.pNear l s = x := by unfold M.pNear; rw [hx]; rfl
  rw [this]
  exact near_corner h hx
theorem near_take (h : RightL l s) (hx : NearS l s x) : OpenR l s x.den (x.pt.take l.length) ∧ Blend l s (x.pt.take l.length) x.den (en x.pt l.length) := by
  have htl : (x.pt.take l.length).length = l.length := by rw [List.length_take, hx.pl]; omega
  have hte : ∀ i, i < l.length → en (x.pt.take l.length) i = en x.pt i := fun i hi => by
    unfold en; rw [List.getD_eq_getElem?_getD, List.getElem?_take, if_pos hi, ← List.getD_eq_getElem?_getD]
  have hb := hx.b.congr hte
  exact ⟨open_of h hb hx.d htl, hb⟩
theorem near_okay (l : List Cask) (s : Sample) : NearOK l s := by
  intro he
  obtain ⟨h, hv⟩ := near_right he
  have hx := near_some h hv
  obtain ⟨a1, a2, a3, a4, a5⟩ := limits_small h (e := 1) (by decide)
  obtain ⟨ho, hb⟩ := near_take h hx
  refine ⟨h.n1, h.n4, fun c hc => by rw [shares_len]; exact a3 c hc, turnOK (by rw [shares_len]; have := h.n4; omega) a2 (fun c hc => ⟨by rw [shares_len]; exact a3 c hc, a4 c hc⟩), by rw [hx.pl]; omega, ho.vol, ?_, ?_⟩
  · have := (far_away ho).2.1; unfold i64ok; omega
  · have := (vol_bound h.n4 ho.parts).2; unfold i64ok; omega
end
end Go.Bl
end

section
set_option linter.unusedVariables false
set_option linter.unusedSimpArgs false
set_option maxRecDepth 100000
namespace Go.Bl
open Go.V Go.Proofs
end Go.Bl
end

section
set_option linter.unusedVariables false
set_option linter.unusedSimpArgs false
set_option maxRecDepth 100000
namespace Go.Bl
open Go.V Go.Proofs
namespace M
def wOk (w : Wts) : Bool := allB isWeight [w.x0, w.x1, w.x2, w.x3] && allB isWeight [w.y0, w.y1, w.y2, w.y3] && allB isWeight w.casks
def wHead (w : Wts) : Bool := within w.den 1 200000000000 && within w.each (-100000000000000) 100000000000000
def wErr (n : Nat) (w : Wts) : Int := first [unl (wHead w) 2, unl ((w.casks.length : Int) == (n : Int)) 10, unl (wOk w) 2]
def openW (l : List Cask) (s : Sample) (w : Wts) : Int := first [casksErr l, checkSample s, unl (wHead w) 2, unl ((w.casks.length : Int) == (l.length : Int)) 10, unl (wOk w) 2]
def giveK (x y v lo hi g : Int) : Int := IntKind.i64.wrap (IntKind.i64.wrap (g - IntKind.i64.wrap (x * IntKind.i64.wrap (v - hi))) - IntKind.i64.wrap (y * IntKind.i64.wrap (lo - v)))
def giveR (l : List Cask) (s : Sample) (w : Wts) (i : Nat) : Int :=
  giveK w.x3 w.y3 (l.getD i dfC).k3 s.r3.lo s.r3.hi (giveK w.x2 w.y2 (l.getD i dfC).k2 s.r2.lo s.r2.hi (giveK w.x1 w.y1 (l.getD i dfC).k1 s.r1.lo s.r1.hi (giveK w.x0 w.y0 (l.getD i dfC).k0 s.r0.lo s.r0.hi (IntKind.i64.wrap (w.each - w.casks.getD i 0)))))
def boundR (l : List Cask) (s : Sample) (w : Wts) : Int := (List.range l.length).foldl (fun a i => IntKind.i64.wrap (a - IntKind.i64.wrap (w.casks.getD i 0 * (l.getD i dfC).vol))) (IntKind.i64.wrap (w.each * s.vol))
end M
theorem openW_eq (l : List Cask) (s : Sample) (w : Wts) : M.openW l s w = cond (M.taskErr l s != 0) (M.taskErr l s) (M.wErr l.length w) := by
  unfold M.openW M.taskErr M.wErr
  simp only [first_cons]
  by_cases h1 : M.casksErr l = 0
  · rw [if_pos h1, if_pos h1]
    by_cases h2 : M.checkSample s = 0
    · rw [if_pos h2, if_pos h2]; rfl
    · rw [if_neg h2, if_neg h2, show (M.checkSample s != 0) = true by simpa using h2]; rfl
  · rw [if_neg h1, if_neg h1, show (M.casksErr l != 0) = true by simpa using h1]; rfl
def tr76 (l : List Cask) (den each x0 x1 x2 x3 y0 y1 y2 y3 : Int) (ps : List Int) : T (List Ar) :=
    T.br (!M.within den (1 : Int) (200000000000 : Int)) (T.ret [Ar.c (D.int IntKind.i64 (2 : Int))]) (T.br (!M.within each (-100000000000000 : Int) (100000000000000 : Int)) (T.ret [Ar.c (D.int IntKind.i64 (2 : Int))]) (T.br ((Nat.cast (R := Int) (List.length ps)) != (Nat.cast (R := Int) (List.length l))) (T.ret [Ar.c (D.int IntKind.i64 (10 : Int))]) (T.br (!M.within x0 (0 : Int) (100000000000000 : Int)) (T.ret [Ar.c (D.int IntKind.i64 (2 : Int))]) (T.br (!M.within y0 (0 : Int) (100000000000000 : Int)) (T.ret [Ar.c (D.int IntKind.i64 (2 : Int))]) (T.br (!M.within x1 (0 : Int) (100000000000000 : Int)) (T.ret [Ar.c (D.int IntKind.i64 (2 : Int))]) (T.br (!M.within y1 (0 : Int) (100000000000000 : Int)) (T.ret [Ar.c (D.int IntKind.i64 (2 : Int))]) (T.br (!M.within x2 (0 : Int) (100000000000000 : Int)) (T.ret [Ar.c (D.int IntKind.i64 (2 : Int))]) (T.br (!M.within y2 (0 : Int) (100000000000000 : Int)) (T.ret [Ar.c (D.int IntKind.i64 (2 : Int))]) (T.br (!M.within x3 (0 : Int) (100000000000000 : Int)) (T.ret [Ar.c (D.int IntKind.i64 (2 : Int))]) (T.br (!M.within y3 (0 : Int) (100000000000000 : Int)) (T.ret [Ar.c (D.int IntKind.i64 (2 : Int))]) (T.loop (Int × PUnit) ((0 : Int), PUnit.unit) fun (x : Int × PUnit) => T.br (decide (Prod.fst x < (Nat.cast (R := Int) (List.length l)))) (T.need ((0 : Int) ≤ Prod.fst x) (T.need (Prod.fst x < (Nat.cast (R := Int) (List.length ps))) (T.br (!M.within (List.getD ps (Int.toNat (Prod.fst x)) (0 : Int)) (0 : Int) (100000000000000 : Int)) (T.ret (Sum.inr [Ar.c (D.int IntKind.i64 (2 : Int))])) (T.ret (Sum.inl (IntKind.wrap IntKind.i64 (Prod.fst x + (1 : Int)), PUnit.unit)))))) (T.ret (Sum.inr [Ar.c (D.int IntKind.i64 (0 : Int))])))))))))))))
theorem t76 (q_l : Bool) (l : List Cask) (den : Int) (each : Int) (x0 : Int) (x1 : Int) (x2 : Int) (x3 : Int) (y0 : Int) (y1 : Int) (y2 : Int) (y3 : Int) (q_ps : Bool) (ps : List Int) : runFnX Try.prog G0 (lookS [v35]) (fun _ => [(1000024, [], none), (3000005, [], none), (11, [.slot 6 (.int .i64)], none)]) [] 1 40 5 76 Try.f76 [.c (.sl q_l l.length 7 (eC.F l)), .agg [dI den, dI each, dI x0, dI x1, dI x2, dI x3, dI y0, dI y1, dI y2, dI y3, .sl q_ps ps.length 1 (eI.F ps)]] =
    tr76 l den each x0 x1 x2 x3 y0 y1 y2 y3 ps := by kernel_rfl
def tr77 (l : List Cask) (sv l0 h0 l1 h1 l2 h2 l3 h3 : Int) (den each x0 x1 x2 x3 y0 y1 y2 y3 : Int) (ps : List Int) (i : Int) : T (List Ar) :=
    T.need ((0 : Int) ≤ i) (T.need (i < (Nat.cast (R := Int) (List.length ps))) (T.need ((0 : Int) ≤ i) (T.need (i < (Nat.cast (R := Int) (List.length l))) (T.need ((0 : Int) ≤ (0 : Int)) (T.need ((0 : Int) < (4 : Int)) (T.need ((0 : Int) ≤ i) (T.need (i < (Nat.cast (R := Int) (List.length l))) (T.need ((0 : Int) ≤ (0 : Int)) (T.need ((0 : Int) < (4 : Int)) (T.need ((0 : Int) ≤ i) (T.need (i < (Nat.cast (R := Int) (List.length l))) (T.need ((0 : Int) ≤ (1 : Int)) (T.need ((1 : Int) < (4 : Int)) (T.need ((0 : Int) ≤ i) (T.need (i < (Nat.cast (R := Int) (List.length l))) (T.need ((0 : Int) ≤ (1 : Int)) (T.need ((1 : Int) < (4 : Int)) (T.need ((0 : Int) ≤ i) (T.need (i < (Nat.cast (R := Int) (List.length l))) (T.need ((0 : Int) ≤ (2 : Int)) (T.need ((2 : Int) < (4 : Int)) (T.need ((0 : Int) ≤ i) (T.need (i < (Nat.cast (R := Int) (List.length l))) (T.need ((0 : Int) ≤ (2 : Int)) (T.need ((2 : Int) < (4 : Int)) (T.need ((0 : Int) ≤ i) (T.need (i < (Nat.cast (R := Int) (List.length l))) (T.need ((0 : Int) ≤ (3 : Int)) (T.need ((3 : Int) < (4 : Int)) (T.need ((0 : Int) ≤ i) (T.need (i < (Nat.cast (R := Int) (List.length l))) (T.need ((0 : Int) ≤ (3 : Int)) (T.need ((3 : Int) < (4 : Int)) (T.ret [Ar.c (D.int IntKind.i64 (IntKind.wrap IntKind.i64 (IntKind.wrap IntKind.i64 (IntKind.wrap IntKind.i64 (IntKind.wrap IntKind.i64 (IntKind.wrap IntKind.i64 (IntKind.wrap IntKind.i64 (IntKind.wrap IntKind.i64 (IntKind.wrap IntKind.i64 (IntKind.wrap IntKind.i64 (each - List.getD ps (Int.toNat i) (0 : Int)) - IntKind.wrap IntKind.i64 (x0 * IntKind.wrap IntKind.i64 ((List.getD l (Int.toNat i) (Enc.dflt eC)).4 - h0))) - IntKind.wrap IntKind.i64 (y0 * IntKind.wrap IntKind.i64 (l0 - (List.getD l (Int.toNat i) (Enc.dflt eC)).4))) - IntKind.wrap IntKind.i64 (x1 * IntKind.wrap IntKind.i64 ((List.getD l (Int.toNat i) (Enc.dflt eC)).5 - h1))) - IntKind.wrap IntKind.i64 (y1 * IntKind.wrap IntKind.i64 (l1 - (List.getD l (Int.toNat i) (Enc.dflt eC)).5))) - IntKind.wrap IntKind.i64 (x2 * IntKind.wrap IntKind.i64 ((List.getD l (Int.toNat i) (Enc.dflt eC)).6 - h2))) - IntKind.wrap IntKind.i64 (y2 * IntKind.wrap IntKind.i64 (l2 - (List.getD l (Int.toNat i) (Enc.dflt eC)).6))) - IntKind.wrap IntKind.i64 (x3 * IntKind.wrap IntKind.i64 ((List.getD l (Int.toNat i) (Enc.dflt eC)).7 - h3))) - IntKind.wrap IntKind.i64 (y3 * IntKind.wrap IntKind.i64 (l3 - (List.getD l (Int.toNat i) (Enc.dflt eC)).7)))))]))))))))))))))))))))))))))))))))))
theorem t77 (q_l : Bool) (l : List Cask) (sv l0 h0 l1 h1 l2 h2 l3 h3 : Int) (den : Int) (each : Int) (x0 : Int) (x1 : Int) (x2 : Int) (x3 : Int) (y0 : Int) (y1 : Int) (y2 : Int) (y3 : Int) (q_ps : Bool) (ps : List Int) (i : Int) : runFnX Try.prog G0 (lookS []) (fun _ => [(1000020, [], none), (3000010, [], none)]) [] 1 40 5 77 Try.f77 [.c (.sl q_l l.length 7 (eC.F l)), .agg [dI sv, dI l0, dI h0, dI l1, dI h1, dI l2, dI h2, dI l3, dI h3], .agg [dI den, dI each, dI x0, dI x1, dI x2, dI x3, dI y0, dI y1, dI y2, dI y3, .sl q_ps ps.length 1 (eI.F ps)], .c (dI i)] =
    tr77 l sv l0 h0 l1 h1 l2 h2 l3 h3 den each x0 x1 x2 x3 y0 y1 y2 y3 ps i := by kernel_rfl
def tr79 (l : List Cask) (sv l0 h0 l1 h1 l2 h2 l3 h3 : Int) (den each x0 x1 x2 x3 y0 y1 y2 y3 : Int) (ps : List Int) : T (List Ar) :=
    T.loop (Int × Int × PUnit) ((0 : Int), IntKind.wrap IntKind.i64 (each * sv), PUnit.unit) fun (x : Int × Int × PUnit) => T.br (decide (Prod.fst x < (Nat.cast (R := Int) (List.length l)))) (T.need ((0 : Int) ≤ Prod.fst x) (T.need (Prod.fst x < (Nat.cast (R := Int) (List.length ps))) (T.need ((0 : Int) ≤ Prod.fst x) (T.need (Prod.fst x < (Nat.cast (R := Int) (List.length l))) (T.ret (Sum.inl (IntKind.wrap IntKind.i64 (Prod.fst x + (1 : Int)), IntKind.wrap IntKind.i64 (Prod.fst (Prod.snd x) - IntKind.wrap IntKind.i64 (List.getD ps (Int.toNat (Prod.fst x)) (0 : Int) * (List.getD l (Int.toNat (Prod.fst x)) (Enc.dflt eC)).2)), PUnit.unit))))))) (T.ret (Sum.inr [Ar.c (D.int IntKind.i64 (Prod.fst (Prod.snd x)))]))
theorem t79 (q_l : Bool) (l : List Cask) (sv l0 h0 l1 h1 l2 h2 l3 h3 : Int) (den : Int) (each : Int) (x0 : Int) (x1 : Int) (x2 : Int) (x3 : Int) (y0 : Int) (y1 : Int) (y2 : Int) (y3 : Int) (q_ps : Bool) (ps : List Int) : runFnX Try.prog G0 (lookS []) (fun _ => [(3, [.slot 8 (.int .i64), .slot 7 (.int .i64)], none)]) [] 1 40 5 79 Try.f79 [.c (.sl q_l l.length 7 (eC.F l)), .agg [dI sv, dI l0, dI h0, dI l1, dI h1, dI l2, dI h2, dI l3, dI h3], .agg [dI den, dI each, dI x0, dI x1, dI x2, dI x3, dI y0, dI y1, dI y2, dI y3, .sl q_ps ps.length 1 (eI.F ps)]] =
    tr79 l sv l0 h0 l1 h1 l2 h2 l3 h3 den each x0 x1 x2 x3 y0 y1 y2 y3 ps := by kernel_rfl
theorem wErr_a {n : Nat} {w : Wts} (h : M.wHead w = false) : M.wErr n w = 2 := by unfold M.wErr; rw [h]; rfl
theorem wErr_l {n : Nat} {w : Wts} (h : M.wHead w = true) (h2 : ((w.casks.length : Int) == (n : Int)) = false) : M.wErr n w = 10 := by unfold M.wErr; rw [h, h2]; rfl
theorem wErr_r {n : Nat} {w : Wts} (h : M.wHead w = true) (h2 : ((w.casks.length : Int) == (n : Int)) = true) (h3 : M.wOk w = false) : M.wErr n w = 2 := by unfold M.wErr; rw [h, h2, h3]; rfl
theorem wErr_ok {n : Nat} {w : Wts} (h : M.wHead w = true) (h2 : ((w.casks.length : Int) == (n : Int)) = true) (h3 : M.wOk w = true) : M.wErr n w = 0 := by unfold M.wErr; rw [h, h2, h3]; rfl
theorem not_true {b : Bool} (h : (!b) = true) : b = false := by cases b <;> simp_all
theorem not_false' {b : Bool} (h : (!b) = false) : b = true := by cases b <;> simp_all
theorem w76 (l : List Cask) (den each x0 x1 x2 x3 y0 y1 y2 y3 : Int) (ps : List Int) (hl : l.length ≤ 1000000) (hp : ps.length ≤ 1000000) : (tr76 l den each x0 x1 x2 x3 y0 y1 y2 y3 ps).wp (fun rs => rsEqv rs [rI (M.wErr l.length (⟨den, each, x0, x1, x2, x3, y0, y1, y2, y3, ps⟩ : Wts))]) := by
  unfold tr76
  have hA : M.wHead (⟨den, each, x0, x1, x2, x3, y0, y1, y2, y3, ps⟩ : Wts) = (M.within den 1 200000000000 && M.within each (-100000000000000) 100000000000000) := rfl
  have hR : M.wOk (⟨den, each, x0, x1, x2, x3, y0, y1, y2, y3, ps⟩ : Wts) = (M.allB M.isWeight [x0, x1, x2, x3] && M.allB M.isWeight [y0, y1, y2, y3] && M.allB M.isWeight ps) := rfl
  have e4 : ∀ a b c d : Int, M.allB M.isWeight [a, b, c, d] = cond (M.within a 0 100000000000000) (cond (M.within b 0 100000000000000) (cond (M.within c 0 100000000000000) (cond (M.within d 0 100000000000000) true false) false) false) false := fun _ _ _ _ => rfl
  rw [e4, e4] at hR
  obtain ⟨P, hP⟩ : ∃ P, P = M.allB M.isWeight ps := ⟨_, rfl⟩
  rw [← hP] at hR
  refine wp_br (fun h1 => ?_) (fun h1 => ?_)
  · rw [wErr_a (by rw [hA, not_true h1]; rfl)]; exact rsEqv_refl _
  refine wp_br (fun h2 => ?_) (fun h2 => ?_)
  · rw [wErr_a (by rw [hA, not_false' h1, not_true h2]; rfl)]; exact rsEqv_refl _
  rw [not_false' h1, not_false' h2] at hA
  refine wp_br (fun h3 => ?_) (fun h3 => ?_)
  · rw [wErr_l hA (by rw [bne] at h3; exact not_true h3)]; exact rsEqv_refl _
  have hL : ((ps.length : Int) == (l.length : Int)) = true := by rw [bne] at h3; exact not_false' h3
  refine wp_br (fun gx0 => ?_) (fun gx0 => ?_)
  · rw [wErr_r hA hL (by rw [hR, not_true gx0]; simp)]; exact rsEqv_refl _
  refine wp_br (fun gy0 => ?_) (fun gy0 => ?_)
  · rw [wErr_r hA hL (by rw [hR, not_false' gx0, not_true gy0]; simp)]; exact rsEqv_refl _
  refine wp_br (fun gx1 => ?_) (fun gx1 => ?_)
  · rw [wErr_r hA hL (by rw [hR, not_false' gx0, not_false' gy0, not_true gx1]; simp)]; exact rsEqv_refl _
  refine wp_br (fun gy1 => ?_) (fun gy1 => ?_)
  · rw [wErr_r hA hL (by rw [hR, not_false' gx0, not_false' gy0, not_false' gx1, not_true gy1]; simp)]; exact rsEqv_refl _
  refine wp_br (fun gx2 => ?_) (fun gx2 => ?_)
  · rw [wErr_r hA hL (by rw [hR, not_false' gx0, not_false' gy0, not_false' gx1, not_false' gy1, not_true gx2]; simp)]; exact rsEqv_refl _
  refine wp_br (fun gy2 => ?_) (fun gy2 => ?_)
  · rw [wErr_r hA hL (by rw [hR, not_false' gx0, not_false' gy0, not_false' gx1, not_false' gy1, not_false' gx2, not_true gy2]; simp)]; exact rsEqv_refl _
  refine wp_br (fun gx3 => ?_) (fun gx3 => ?_)
  · rw [wErr_r hA hL (by rw [hR, not_false' gx0, not_false' gy0, not_false' gx1, not_false' gy1, not_false' gx2, not_false' gy2, not_true gx3]; simp)]; exact rsEqv_refl _
  refine wp_br (fun gy3 => ?_) (fun gy3 => ?_)
  · rw [wErr_r hA hL (by rw [hR, not_false' gx0, not_false' gy0, not_false' gx1, not_false' gy1, not_false' gx2, not_false' gy2, not_false' gx3, not_true gy3]; simp)]; exact rsEqv_refl _
  rw [not_false' gx0, not_false' gy0, not_false' gx1, not_false' gy1, not_false' gx2, not_false' gy2, not_false' gx3, not_false' gy3] at hR
  have hR : M.wOk (⟨den, each, x0, x1, x2, x3, y0, y1, y2, y3, ps⟩ : Wts) = P := hR
  have hlen : ps.length = l.length := by have := eq_of_beq hL; omega
  refine range_wp (n := l.length) (fun k _ => M.allB M.isWeight ps = M.allB M.isWeight (ps.drop k)) rfl ?_
  rintro k u hk hI
  refine ⟨fun hb => ?_, fun hb => ?_⟩
  · have hlt := lt_of_dec hb
    have hdrop : M.allB M.isWeight ps = cond (M.within (ps.getD k 0) 0 100000000000000) (M.allB M.isWeight (ps.drop (k + 1))) false := by
      rw [hI, getD_drop (d := 0) (by omega)]; rfl
    refine ⟨by show (0 : Int) ≤ k; omega, by show (k : Int) < ps.length; omega, fun hc => ?_, fun hc => ?_⟩
    · have hc : M.within (ps.getD k 0) 0 100000000000000 = false := not_true hc
      rw [wErr_r hA hL (by rw [hR, hP, hdrop, hc]; rfl)]; exact rsEqv_refl _
    · have hc : M.within (ps.getD k 0) 0 100000000000000 = true := not_false' hc
      refine ⟨hlt, wrap_succ (by omega), ?_⟩
      rw [hdrop, hc]; rfl
  · have hge := ge_of_dec hb
    rw [List.drop_of_length_le (l := ps) (by omega)] at hI
    rw [wErr_ok hA hL (by rw [hR, hP, hI]; rfl)]; exact rsEqv_refl _
theorem w77 (l : List Cask) (sv l0 h0 l1 h1 l2 h2 l3 h3 : Int) (den each x0 x1 x2 x3 y0 y1 y2 y3 : Int) (ps : List Int) (i : Int) (g0 : 0 ≤ i) (g1 : i < (ps.length : Int)) (g2 : i < (l.length : Int)) : (tr77 l sv l0 h0 l1 h1 l2 h2 l3 h3 den each x0 x1 x2 x3 y0 y1 y2 y3 ps i).wp (fun rs => rsEqv rs [rI (M.giveR l (⟨sv, ⟨l0, h0⟩, ⟨l1, h1⟩, ⟨l2, h2⟩, ⟨l3, h3⟩⟩ : Sample) (⟨den, each, x0, x1, x2, x3, y0, y1, y2, y3, ps⟩ : Wts) i.toNat)]) := by
  unfold tr77
  iterate 34 refine ⟨by first | assumption | decide, ?_⟩
  exact rsEqv_refl _
theorem w79 (l : List Cask) (sv l0 h0 l1 h1 l2 h2 l3 h3 : Int) (den each x0 x1 x2 x3 y0 y1 y2 y3 : Int) (ps : List Int) (g1 : l.length ≤ ps.length) (g2 : l.length ≤ 1000000) : (tr79 l sv l0 h0 l1 h1 l2 h2 l3 h3 den each x0 x1 x2 x3 y0 y1 y2 y3 ps).wp (fun rs => rsEqv rs [rI (M.boundR l (⟨sv, ⟨l0, h0⟩, ⟨l1, h1⟩, ⟨l2, h2⟩, ⟨l3, h3⟩⟩ : Sample) (⟨den, each, x0, x1, x2, x3, y0, y1, y2, y3, ps⟩ : Wts))]) := by
  unfold tr79
  refine range_wp (n := l.length) (fun k s => s.1 = (List.range k).foldl (fun a i => IntKind.i64.wrap (a - IntKind.i64.wrap (ps.getD i 0 * (l.getD i dfC).vol))) (IntKind.i64.wrap (each * sv))) rfl ?_
  rintro k ⟨a, u⟩ hk hI
  simp only at hI
  refine ⟨fun hb => ?_, fun hb => ?_⟩
  · have hlt := lt_of_dec hb
    refine ⟨by show (0 : Int) ≤ k; omega, by show (k : Int) < ps.length; omega, by show (0 : Int) ≤ k; omega, by show (k : Int) < l.length; omega, hlt, wrap_succ (by omega), ?_⟩
    rw [foldl_succ, ← hI]
    rfl
  · have hge := ge_of_dec hb
    obtain rfl : k = l.length := by omega
    have e : a = M.boundR l (⟨sv, ⟨l0, h0⟩, ⟨l1, h1⟩, ⟨l2, h2⟩, ⟨l3, h3⟩⟩ : Sample) (⟨den, each, x0, x1, x2, x3, y0, y1, y2, y3, ps⟩ : Wts) := hI
    show rsEqv [rI a] _
    rw [e]; exact rsEqv_refl _
def dom76 : DomF
  | [.c (.sl _ n_l st_l F_l), .agg [.int .i64 den, .int .i64 each, .int .i64 x0, .int .i64 x1, .int .i64 x2, .int .i64 x3, .int .i64 y0, .int .i64 y1, .int .i64 y2, .int .i64 y3, .sl _ n_ps st_ps F_ps]] => (match Nat.beq st_l 7 && Nat.beq st_ps 1 with
    | true => some ([eC.Is n_l F_l, eI.Is n_ps F_ps, (eC.list n_l F_l).length ≤ 1000000, (eI.list n_ps F_ps).length ≤ 1000000], [rI (M.wErr (eC.list n_l F_l).length (⟨den, each, x0, x1, x2, x3, y0, y1, y2, y3, (eI.list n_ps F_ps)⟩ : Wts))])
    | _ => none)
  | _ => none
def v76 : Nat × Sm := (76, fokSm dom76)
theorem C76 : FOK Try.prog G0 gw 76 dom76 := by
  intro ags p r hd hp κ w xs hw hl hG hx
  unfold dom76 at hd
  split at hd
  · rename_i q_l n_l st_l F_l den each x0 x1 x2 x3 y0 y1 y2 y3 q_ps n_ps st_ps F_ps
    split at hd
    · rename_i hst
      simp only [Bool.and_eq_true] at hst
      obtain ⟨g1, g2⟩ := hst
      have g1 := Nat.eq_of_beq_eq_true g1
      have g2 := Nat.eq_of_beq_eq_true g2
      subst g1 g2
      simp only [Option.some.injEq, Prod.mk.injEq] at hd
      obtain ⟨rfl, rfl⟩ := hd
      obtain ⟨hI_l, hI_ps, hp⟩ := hp
      have heq : agsEqv [.c (.sl q_l n_l 7 F_l), .agg [.int .i64 den, .int .i64 each, .int .i64 x0, .int .i64 x1, .int .i64 x2, .int .i64 x3, .int .i64 y0, .int .i64 y1, .int .i64 y2, .int .i64 y3, .sl q_ps n_ps 1 F_ps]] [.c (.sl q_l (eC.list n_l F_l).length 7 (eC.F (eC.list n_l F_l))), .agg [.int .i64 den, .int .i64 each, .int .i64 x0, .int .i64 x1, .int .i64 x2, .int .i64 x3, .int .i64 y0, .int .i64 y1, .int .i64 y2, .int .i64 y3, .sl q_ps (eI.list n_ps F_ps).length 1 (eI.F (eI.list n_ps F_ps))]] := ⟨eC.to id hI_l, ⟨rfl, rfl, rfl, rfl, rfl, rfl, rfl, rfl, rfl, rfl, eI.to id hI_ps, trivial⟩, trivial⟩
      have len_l : (eC.list n_l F_l).length = n_l := eC.list_len
      have len_ps : (eI.list n_ps F_ps).length = n_ps := eI.list_len
      generalize eC.list n_l F_l = l at *
      generalize eI.list n_ps F_ps = ps at *
      subst len_l len_ps
      exact fokX_fin mixed gw_stable (sl := [v35]) ⟨S35, trivial⟩ Try.func76 hw hl hG hx heq rfl (t76 q_l l den each x0 x1 x2 x3 y0 y1 y2 y3 q_ps ps) (w76 l den each x0 x1 x2 x3 y0 y1 y2 y3 ps hp.1 hp.2.1)
    · cases hd
  · cases hd
theorem S76 : SumOK Try.prog G0 gw 76 (fokSm dom76) := fok_sum Try.func76 rfl C76
def dom77 : DomF
  | [.c (.sl _ n_l st_l F_l), .agg [.int .i64 sv, .int .i64 l0, .int .i64 h0, .int .i64 l1, .int .i64 h1, .int .i64 l2, .int .i64 h2, .int .i64 l3, .int .i64 h3], .agg [.int .i64 den, .int .i64 each, .int .i64 x0, .int .i64 x1, .int .i64 x2, .int .i64 x3, .int .i64 y0, .int .i64 y1, .int .i64 y2, .int .i64 y3, .sl _ n_ps st_ps F_ps], .c (.int .i64 i)] => (match Nat.beq st_l 7 && Nat.beq st_ps 1 with
    | true => some ([eC.Is n_l F_l, eI.Is n_ps F_ps, 0 ≤ i, i < ((eI.list n_ps F_ps).length : Int), i < ((eC.list n_l F_l).length : Int)], [rI (M.giveR (eC.list n_l F_l) (⟨sv, ⟨l0, h0⟩, ⟨l1, h1⟩, ⟨l2, h2⟩, ⟨l3, h3⟩⟩ : Sample) (⟨den, each, x0, x1, x2, x3, y0, y1, y2, y3, (eI.list n_ps F_ps)⟩ : Wts) i.toNat)])
    | _ => none)
  | _ => none
def v77 : Nat × Sm := (77, fokSm dom77)
theorem C77 : FOK Try.prog G0 gw 77 dom77 := by
  intro ags p r hd hp κ w xs hw hl hG hx
  unfold dom77 at hd
  split at hd
  · rename_i q_l n_l st_l F_l sv l0 h0 l1 h1 l2 h2 l3 h3 den each x0 x1 x2 x3 y0 y1 y2 y3 q_ps n_ps st_ps F_ps i
    split at hd
    · rename_i hst
      simp only [Bool.and_eq_true] at hst
      obtain ⟨g1, g2⟩ := hst
      have g1 := Nat.eq_of_beq_eq_true g1
      have g2 := Nat.eq_of_beq_eq_true g2
      subst g1 g2
      simp only [Option.some.injEq, Prod.mk.injEq] at hd
      obtain ⟨rfl, rfl⟩ := hd
      obtain ⟨hI_l, hI_ps, hp⟩ := hp
      have heq : agsEqv [.c (.sl q_l n_l 7 F_l), .agg [.int .i64 sv, .int .i64 l0, .int .i64 h0, .int .i64 l1, .int .i64 h1, .int .i64 l2, .int .i64 h2, .int .i64 l3, .int .i64 h3], .agg [.int .i64 den, .int .i64 each, .int .i64 x0, .int .i64 x1, .int .i64 x2, .int .i64 x3, .int .i64 y0, .int .i64 y1, .int .i64 y2, .int .i64 y3, .sl q_ps n_ps 1 F_ps], .c (.int .i64 i)] [.c (.sl q_l (eC.list n_l F_l).length 7 (eC.F (eC.list n_l F_l))), .agg [.int .i64 sv, .int .i64 l0, .int .i64 h0, .int .i64 l1, .int .i64 h1, .int .i64 l2, .int .i64 h2, .int .i64 l3, .int .i64 h3], .agg [.int .i64 den, .int .i64 each, .int .i64 x0, .int .i64 x1, .int .i64 x2, .int .i64 x3, .int .i64 y0, .int .i64 y1, .int .i64 y2, .int .i64 y3, .sl q_ps (eI.list n_ps F_ps).length 1 (eI.F (eI.list n_ps F_ps))], .c (.int .i64 i)] := ⟨eC.to id hI_l, Ag.eqv_refl _, ⟨rfl, rfl, rfl, rfl, rfl, rfl, rfl, rfl, rfl, rfl, eI.to id hI_ps, trivial⟩, Ag.eqv_refl _, trivial⟩
      have len_l : (eC.list n_l F_l).length = n_l := eC.list_len
      have len_ps : (eI.list n_ps F_ps).length = n_ps := eI.list_len
      generalize eC.list n_l F_l = l at *
      generalize eI.list n_ps F_ps = ps at *
      subst len_l len_ps
      exact fokX_fin mixed gw_stable (sl := []) trivial Try.func77 hw hl hG hx heq rfl (t77 q_l l sv l0 h0 l1 h1 l2 h2 l3 h3 den each x0 x1 x2 x3 y0 y1 y2 y3 q_ps ps i) (w77 l sv l0 h0 l1 h1 l2 h2 l3 h3 den each x0 x1 x2 x3 y0 y1 y2 y3 ps i hp.1 hp.2.1 hp.2.2.1)
    · cases hd
  · cases hd
theorem S77 : SumOK Try.prog G0 gw 77 (fokSm dom77) := fok_sum Try.func77 rfl C77
def dom79 : DomF
  | [.c (.sl _ n_l st_l F_l), .agg [.int .i64 sv, .int .i64 l0, .int .i64 h0, .int .i64 l1, .int .i64 h1, .int .i64 l2, .int .i64 h2, .int .i64 l3, .int .i64 h3], .agg [.int .i64 den, .int .i64 each, .int .i64 x0, .int .i64 x1, .int .i64 x2, .int .i64 x3, .int .i64 y0, .int .i64 y1, .int .i64 y2, .int .i64 y3, .sl _ n_ps st_ps F_ps]] => (match Nat.beq st_l 7 && Nat.beq st_ps 1 with
    | true => some ([eC.Is n_l F_l, eI.Is n_ps F_ps, (eC.list n_l F_l).length ≤ (eI.list n_ps F_ps).length, (eC.list n_l F_l).length ≤ 1000000], [rI (M.boundR (eC.list n_l F_l) (⟨sv, ⟨l0, h0⟩, ⟨l1, h1⟩, ⟨l2, h2⟩, ⟨l3, h3⟩⟩ : Sample) (⟨den, each, x0, x1, x2, x3, y0, y1, y2, y3, (eI.list n_ps F_ps)⟩ : Wts))])
    | _ => none)
  | _ => none
def v79 : Nat × Sm := (79, fokSm dom79)
theorem C79 : FOK Try.prog G0 gw 79 dom79 := by
  intro ags p r hd hp κ w xs hw hl hG hx
  unfold dom79 at hd
  split at hd
  · rename_i q_l n_l st_l F_l sv l0 h0 l1 h1 l2 h2 l3 h3 den each x0 x1 x2 x3 y0 y1 y2 y3 q_ps n_ps st_ps F_ps
    split at hd
    · rename_i hst
      simp only [Bool.and_eq_true] at hst
      obtain ⟨g1, g2⟩ := hst
      have g1 := Nat.eq_of_beq_eq_true g1
      have g2 := Nat.eq_of_beq_eq_true g2
      subst g1 g2
      simp only [Option.some.injEq, Prod.mk.injEq] at hd
      obtain ⟨rfl, rfl⟩ := hd
      obtain ⟨hI_l, hI_ps, hp⟩ := hp
      have heq : agsEqv [.c (.sl q_l n_l 7 F_l), .agg [.int .i64 sv, .int .i64 l0, .int .i64 h0, .int .i64 l1, .int .i64 h1, .int .i64 l2, .int .i64 h2, .int .i64 l3, .int .i64 h3], .agg [.int .i64 den, .int .i64 each, .int .i64 x0, .int .i64 x1, .int .i64 x2, .int .i64 x3, .int .i64 y0, .int .i64 y1, .int .i64 y2, .int .i64 y3, .sl q_ps n_ps 1 F_ps]] [.c (.sl q_l (eC.list n_l F_l).length 7 (eC.F (eC.list n_l F_l))), .agg [.int .i64 sv, .int .i64 l0, .int .i64 h0, .int .i64 l1, .int .i64 h1, .int .i64 l2, .int .i64 h2, .int .i64 l3, .int .i64 h3], .agg [.int .i64 den, .int .i64 each, .int .i64 x0, .int .i64 x1, .int .i64 x2, .int .i64 x3, .int .i64 y0, .int .i64 y1, .int .i64 y2, .int .i64 y3, .sl q_ps (eI.list n_ps F_ps).length 1 (eI.F (eI.list n_ps F_ps))]] := ⟨eC.to id hI_l, Ag.eqv_refl _, ⟨rfl, rfl, rfl, rfl, rfl, rfl, rfl, rfl, rfl, rfl, eI.to id hI_ps, trivial⟩, trivial⟩
      have len_l : (eC.list n_l F_l).length = n_l := eC.list_len
      have len_ps : (eI.list n_ps F_ps).length = n_ps := eI.list_len
      generalize eC.list n_l F_l = l at *
      generalize eI.list n_ps F_ps = ps at *
      subst len_l len_ps
      exact fokX_fin mixed gw_stable (sl := []) trivial Try.func79 hw hl hG hx heq rfl (t79 q_l l sv l0 h0 l1 h1 l2 h2 l3 h3 den each x0 x1 x2 x3 y0 y1 y2 y3 q_ps ps) (w79 l sv l0 h0 l1 h1 l2 h2 l3 h3 den each x0 x1 x2 x3 y0 y1 y2 y3 ps hp.1 hp.2.1)
    · cases hd
  · cases hd
theorem S79 : SumOK Try.prog G0 gw 79 (fokSm dom79) := fok_sum Try.func79 rfl C79
end Go.Bl
end

section
set_option linter.unusedVariables false
set_option linter.unusedSimpArgs false
set_option maxRecDepth 100000
namespace Go.Bl
open Go.V Go.Proofs
namespace M
def fails (l : List Cask) (s : Sample) (w : Wts) : Int := cond (openW l s w != 0) (openW l s w) (cond ((List.range l.length).any fun i => decide (giveR l s w i > 0)) 20 (unl (decide (boundR l s w > 0)) 20))
end M
structure RightW (l : List Cask) (s : Sample) (w : Wts) : Prop where
  rl : RightL l s
  den : 1 ≤ w.den ∧ w.den ≤ 200000000000
  each : w.each.natAbs ≤ 100000000000000
  len : w.casks.length = l.length
  all : Each (fun b => 0 ≤ b ∧ b ≤ 100000000000000) w
theorem allB_all {is : Int → Bool} : ∀ {l : List Int}, M.allB is l = true → ∀ x, x ∈ l → is x = true
  | [], _, x, hx => by cases hx
  | n :: l, h, x, hx => by
    unfold M.allB at h
    cases hn : is n
    · rw [hn] at h; cases h
    · rw [hn] at h
      rcases List.mem_cons.1 hx with rfl | hx
      · exact hn
      · exact allB_all h x hx
theorem openW_right {l : List Cask} {s : Sample} {w : Wts} (h : M.openW l s w = 0) : RightW l s w := by
  unfold M.openW at h
  have hz := first_nil _ h
  have h1 := hz (M.casksErr l) (by simp)
  have h2 := hz (M.checkSample s) (by simp)
  have h3 := unl_zero (by decide) (hz (M.unl (M.wHead w) 2) (by simp))
  have h4 := unl_zero (by decide) (hz (M.unl ((w.casks.length : Int) == (l.length : Int)) 10) (by simp))
  have h5 := unl_zero (by decide) (hz (M.unl (M.wOk w) 2) (by simp))
  have ht : M.taskErr l s = 0 := by unfold M.taskErr; rw [h1, h2]; rfl
  unfold M.wHead at h3
  rw [Bool.and_eq_true] at h3
  have hd := within_spec h3.1
  have he := within_spec h3.2
  unfold M.wOk at h5
  rw [Bool.and_eq_true, Bool.and_eq_true] at h5
  have ok : ∀ {L : List Int}, M.allB M.isWeight L = true → ∀ x, x ∈ L → 0 ≤ x ∧ x ≤ 100000000000000 := fun hL x hx => within_spec (allB_all hL x hx)
  refine ⟨task_right ht, hd, by omega, by have := eq_of_beq h4; omega, fun i => ?_, ?_, ?_⟩
  · by_cases hi : i < w.casks.length
    · exact ok h5.2 _ (getD_mem hi)
    · rw [en_out (by omega)]; decide
  · exact ⟨ok h5.1.1 _ (by simp), ok h5.1.1 _ (by simp), ok h5.1.1 _ (by simp), ok h5.1.1 _ (by simp)⟩
  · exact ⟨ok h5.1.2 _ (by simp), ok h5.1.2 _ (by simp), ok h5.1.2 _ (by simp), ok h5.1.2 _ (by simp)⟩
theorem giveK_eq {x y v lo hi g : Int} {G : Nat} (hx : 0 ≤ x ∧ x ≤ 100000000000000) (hy : 0 ≤ y ∧ y ≤ 100000000000000) (hv : 0 ≤ v ∧ v ≤ 1000) (hl : 0 ≤ lo ∧ lo ≤ 1000) (hh : 0 ≤ hi ∧ hi ≤ 1000) (hg : g.natAbs ≤ G) (hG : G ≤ 8000000000000000000) :
    M.giveK x y v lo hi g = g - x * (v - hi) - y * (lo - v) ∧ (M.giveK x y v lo hi g).natAbs ≤ G + 200000000000000000 := by
  have b1 : (x * (v - hi)).natAbs ≤ 100000000000000 * 1000 := by rw [Int.natAbs_mul]; exact Nat.mul_le_mul (by omega) (by omega)
  have b2 : (y * (lo - v)).natAbs ≤ 100000000000000 * 1000 := by rw [Int.natAbs_mul]; exact Nat.mul_le_mul (by omega) (by omega)
  have e : M.giveK x y v lo hi g = g - x * (v - hi) - y * (lo - v) := by
    unfold M.giveK
    rw [wrap_id (n := v - hi) (by omega) (by omega), wrap_id (n := lo - v) (by omega) (by omega), wrap_id (n := x * (v - hi)) (by omega) (by omega), wrap_id (n := y * (lo - v)) (by omega) (by omega), wrap_id (n := g - x * (v - hi)) (by omega) (by omega), wrap_id (by omega) (by omega)]
  refine ⟨e, ?_⟩
  rw [e]; omega
theorem fold_sub {y : Nat → Int} {z : Int} (hz : z.natAbs ≤ 1000000000000000000) : ∀ {n : Nat}, n ≤ 4 → (∀ i, i < n → (y i).natAbs ≤ 1000000000000000000) → (List.range n).foldl (fun a i => IntKind.i64.wrap (a - IntKind.i64.wrap (y i))) (IntKind.i64.wrap z) = z - dot y n ∧ (dot y n).natAbs ≤ n * 1000000000000000000
  | 0, _, _ => ⟨by show IntKind.i64.wrap z = z - 0; rw [wrap_id (by omega) (by omega)]; omega, by show (0 : Int).natAbs ≤ _; simp⟩
  | n + 1, hn, hy => by
    obtain ⟨h1, h2⟩ := fold_sub hz (n := n) (by omega) (fun i hi => hy i (by omega))
    have hb := hy n (by omega)
    have e : dot y (n + 1) = dot y n + y n := rfl
    rw [foldl_succ, h1, wrap_id (n := y n) (by omega) (by omega), wrap_id (by omega) (by omega), e]
    constructor <;> omega
section
variable {l : List Cask} {s : Sample} {w : Wts}
theorem giveR_eq (h : RightW l s w) {i : Nat} (hi : i < l.length) : M.giveR l s w i = gift l s w i := by
  obtain ⟨hc, ⟨x0, x1, x2, x3⟩, y0, y1, y2, y3⟩ := h.all
  have hr := h.rl.rc i hi
  have hcs : 0 ≤ w.casks.getD i 0 ∧ w.casks.getD i 0 ≤ 100000000000000 := hc i
  have he := h.each
  have l0 : 0 ≤ s.r0.lo ∧ s.r0.lo ≤ 1000 := h.rl.lo 0 (by decide)
  have h0 : 0 ≤ s.r0.hi ∧ s.r0.hi ≤ 1000 := h.rl.hi 0 (by decide)
  have l1 : 0 ≤ s.r1.lo ∧ s.r1.lo ≤ 1000 := h.rl.lo 1 (by decide)
  have h1 : 0 ≤ s.r1.hi ∧ s.r1.hi ≤ 1000 := h.rl.hi 1 (by decide)
  have l2 : 0 ≤ s.r2.lo ∧ s.r2.lo ≤ 1000 := h.rl.lo 2 (by decide)
  have h2 : 0 ≤ s.r2.hi ∧ s.r2.hi ≤ 1000 := h.rl.hi 2 (by decide)
  have l3 : 0 ≤ s.r3.lo ∧ s.r3.lo ≤ 1000 := h.rl.lo 3 (by decide)
  have h3 : 0 ≤ s.r3.hi ∧ s.r3.hi ≤ 1000 := h.rl.hi 3 (by decide)
  have e0 : IntKind.i64.wrap (w.each - w.casks.getD i 0) = w.each - w.casks.getD i 0 := wrap_id (by omega) (by omega)
  have g0 := giveK_eq (g := w.each - w.casks.getD i 0) (G := 200000000000000) x0 y0 hr.k0 l0 h0 (by omega) (by decide)
  have g1 := giveK_eq (G := 200000000000000 + 200000000000000000) x1 y1 hr.k1 l1 h1 g0.2 (by decide)
  have g2 := giveK_eq (G := 200000000000000 + 200000000000000000 + 200000000000000000) x2 y2 hr.k2 l2 h2 g1.2 (by decide)
  have g3 := giveK_eq (G := 200000000000000 + 200000000000000000 + 200000000000000000 + 200000000000000000) x3 y3 hr.k3 l3 h3 g2.2 (by decide)
  unfold M.giveR
  rw [e0, g3.1, g2.1, g1.1, g0.1, gift_eq w hi]
  unfold hiF loF
  show _ = w.each - w.casks.getD i 0 - (w.x0 * ((l.getD i dfC).k0 - s.r0.hi) + w.x1 * ((l.getD i dfC).k1 - s.r1.hi) + w.x2 * ((l.getD i dfC).k2 - s.r2.hi) + w.x3 * ((l.getD i dfC).k3 - s.r3.hi)) - (w.y0 * (s.r0.lo - (l.getD i dfC).k0) + w.y1 * (s.r1.lo - (l.getD i dfC).k1) + w.y2 * (s.r2.lo - (l.getD i dfC).k2) + w.y3 * (s.r3.lo - (l.getD i dfC).k3))
  omega
theorem boundR_eq (h : RightW l s w) : M.boundR l s w = bound l s w ∧ (bound l s w).natAbs ≤ 5000000000000000000 := by
  have hv := h.rl.v
  have he := h.each
  have hz : (w.each * s.vol).natAbs ≤ 1000000000000000000 := by
    rw [Int.natAbs_mul]; exact Nat.le_trans (Nat.mul_le_mul he (show s.vol.natAbs ≤ 10000 by omega)) (by decide)
  have hy : ∀ i, i < l.length → (w.casks.getD i 0 * (l.getD i dfC).vol).natAbs ≤ 1000000000000000000 := by
    intro i hi
    have h1 : 0 ≤ w.casks.getD i 0 ∧ w.casks.getD i 0 ≤ 100000000000000 := h.all.1 i
    have h2 := (h.rl.rc i hi).vol
    rw [Int.natAbs_mul]
    exact Nat.le_trans (Nat.mul_le_mul (show (w.casks.getD i 0).natAbs ≤ 100000000000000 by omega) (show ((l.getD i dfC).vol).natAbs ≤ 10000 by omega)) (by decide)
  obtain ⟨f1, f2⟩ := fold_sub (y := fun i => w.casks.getD i 0 * (l.getD i dfC).vol) hz h.rl.n4 hy
  have e : bound l s w = w.each * s.vol - dot (fun i => w.casks.getD i 0 * (l.getD i dfC).vol) l.length := by
    rw [bound_eq, smI_dot]; rfl
  have := h.rl.n4
  refine ⟨by rw [e]; exact f1, ?_⟩
  rw [e]; omega
end
theorem any_yes {n k : Nat} {p : Nat → Bool} (hk : k < n) (h : p k = true) : (List.range n).any p = true := List.any_eq_true.2 ⟨k, List.mem_range.2 hk, h⟩
theorem any_no {n : Nat} {p : Nat → Bool} (h : ∀ k, k < n → p k = false) : (List.range n).any p = false := by
  rw [Bool.eq_false_iff]
  intro e
  obtain ⟨k, hk, hp⟩ := List.any_eq_true.1 e
  rw [h k (List.mem_range.1 hk)] at hp; cases hp
section
variable {l : List Cask} {s : Sample} {w : Wts}
theorem fails_err (h : (M.openW l s w != 0) = true) : M.fails l s w = M.openW l s w := by unfold M.fails; rw [h]; rfl
theorem fails_hit (h : (M.openW l s w != 0) = false) {k : Nat} (hk : k < l.length) (hg : decide (M.giveR l s w k > 0) = true) : M.fails l s w = 20 := by
  unfold M.fails; rw [h, any_yes (p := fun i => decide (M.giveR l s w i > 0)) hk hg]; rfl
theorem fails_ok (h : (M.openW l s w != 0) = false) (hg : ∀ k, k < l.length → decide (M.giveR l s w k > 0) = false) : M.fails l s w = M.unl (decide (M.boundR l s w > 0)) 20 := by
  unfold M.fails; rw [h, any_no hg]; rfl
end
def wP (w : Wts) : Wts := ⟨w.den, w.each, w.x0, w.x1, w.x2, w.x3, w.y0, w.y1, w.y2, w.y3, Enc.list eI (List.length w.casks) (Enc.F eI w.casks)⟩
theorem wP_eq (w : Wts) : wP w = w := by unfold wP; rw [Enc.list_F]
def tr58 (l : List Cask) (s : Sample) (w : Wts) : T (List Ar) :=
    T.need (Enc.Is eC (List.length l) (Enc.F eC l)) (T.need (∀ (c : Cask), c ∈ Enc.list eC (List.length l) (Enc.F eC l) → ByteArray.size (Cask.nm c) ≤ (1000000 : Nat)) (T.br (M.taskErr (Enc.list eC (List.length l) (Enc.F eC l)) s != (0 : Int)) (T.ret [Ar.c (D.int IntKind.i64 (M.taskErr (Enc.list eC (List.length l) (Enc.F eC l)) s))]) (T.need (Enc.Is eC (List.length l) (Enc.F eC l)) (T.need (Enc.Is eI (List.length w.casks) (Enc.F eI w.casks)) (T.need (List.length (Enc.list eC (List.length l) (Enc.F eC l)) ≤ (1000000 : Nat)) (T.need (List.length (Enc.list eI (List.length w.casks) (Enc.F eI w.casks)) ≤ (1000000 : Nat)) (T.br (M.wErr (List.length (Enc.list eC (List.length l) (Enc.F eC l))) (wP w) != (0 : Int)) (T.ret [Ar.c (D.int IntKind.i64 (M.wErr (List.length (Enc.list eC (List.length l) (Enc.F eC l))) (wP w)))]) (T.loop (Int × PUnit) ((0 : Int), PUnit.unit) fun (x : Int × PUnit) => T.br (decide (Prod.fst x < (Nat.cast (R := Int) (List.length l)))) (T.need (Enc.Is eC (List.length l) (Enc.F eC l)) (T.need (Enc.Is eI (List.length w.casks) (Enc.F eI w.casks)) (T.need ((0 : Int) ≤ Prod.fst x) (T.need (Prod.fst x < (Nat.cast (R := Int) (List.length (Enc.list eI (List.length w.casks) (Enc.F eI w.casks))))) (T.need (Prod.fst x < (Nat.cast (R := Int) (List.length (Enc.list eC (List.length l) (Enc.F eC l))))) (T.br (decide (M.giveR (Enc.list eC (List.length l) (Enc.F eC l)) s (wP w) (Int.toNat (Prod.fst x)) > (0 : Int))) (T.ret (Sum.inr [Ar.c (D.int IntKind.i64 (20 : Int))])) (T.ret (Sum.inl (IntKind.wrap IntKind.i64 (Prod.fst x + (1 : Int)), PUnit.unit))))))))) (T.need (Enc.Is eC (List.length l) (Enc.F eC l)) (T.need (Enc.Is eI (List.length w.casks) (Enc.F eI w.casks)) (T.need (List.length (Enc.list eC (List.length l) (Enc.F eC l)) ≤ List.length (Enc.list eI (List.length w.casks) (Enc.F eI w.casks))) (T.need (List.length (Enc.list eC (List.length l) (Enc.F eC l)) ≤ (1000000 : Nat)) (T.br (decide (M.boundR (Enc.list eC (List.length l) (Enc.F eC l)) s (wP w) ≤ (0 : Int))) (T.ret (Sum.inr [Ar.c (D.int IntKind.i64 (20 : Int))])) (T.ret (Sum.inr [Ar.c (D.int IntKind.i64 (0 : Int))])))))))))))))))
theorem t58 (q_l : Bool) (l : List Cask) (sv l0 h0 l1 h1 l2 h2 l3 h3 : Int) (den : Int) (each : Int) (x0 : Int) (x1 : Int) (x2 : Int) (x3 : Int) (y0 : Int) (y1 : Int) (y2 : Int) (y3 : Int) (q_ps : Bool) (ps : List Int) : runFnX Try.prog G0 (lookS [v22, v76, v77, v79]) (fun _ => [(8, [.slot 9 (.int .i64)], none)]) [] 1 40 5 58 Try.f58 [.c (.sl q_l l.length 7 (eC.F l)), .agg [dI sv, dI l0, dI h0, dI l1, dI h1, dI l2, dI h2, dI l3, dI h3], .agg [dI den, dI each, dI x0, dI x1, dI x2, dI x3, dI y0, dI y1, dI y2, dI y3, .sl q_ps ps.length 1 (eI.F ps)]] =
    tr58 l (⟨sv, ⟨l0, h0⟩, ⟨l1, h1⟩, ⟨l2, h2⟩, ⟨l3, h3⟩⟩ : Sample) (⟨den, each, x0, x1, x2, x3, y0, y1, y2, y3, ps⟩ : Wts) := by kernel_rfl
theorem w58 (l : List Cask) (s : Sample) (w : Wts) (hn : ∀ c, c ∈ l → c.nm.size ≤ 1000000) (hp : w.casks.length ≤ 1000000) (hl : l.length ≤ 1000000) : (tr58 l s w).wp (fun rs => rsEqv rs [rI (M.fails l s w)]) := by
  unfold tr58
  simp only [Enc.list_F, wP_eq]
  have hoe := openW_eq l s w
  refine ⟨Enc.is_F _ _ _, hn, wp_br (fun hb => ?_) (fun hb => ?_)⟩
  · rw [hb] at hoe
    have hoe : M.openW l s w = M.taskErr l s := hoe
    rw [fails_err (by rw [hoe]; exact hb), hoe]; exact rsEqv_refl _
  rw [hb] at hoe
  have hoe : M.openW l s w = M.wErr l.length w := hoe
  refine ⟨Enc.is_F _ _ _, Enc.is_F _ _ _, hl, hp, wp_br (fun hb => ?_) (fun hb => ?_)⟩
  · rw [fails_err (by rw [hoe]; exact hb), hoe]; exact rsEqv_refl _
  rw [← hoe] at hb
  have ho : M.openW l s w = 0 := by simpa using hb
  have hr := openW_right ho
  have hlen := hr.len
  refine range_wp (n := l.length) (fun k _ => ∀ j, j < k → decide (M.giveR l s w j > 0) = false) (fun j hj => absurd hj (Nat.not_lt_zero _)) ?_
  rintro k u hk hI
  refine ⟨fun hc => ?_, fun hc => ?_⟩
  · have hlt := lt_of_dec hc
    refine ⟨Enc.is_F _ _ _, Enc.is_F _ _ _, by show (0 : Int) ≤ k; omega, by show (k : Int) < w.casks.length; omega, by show (k : Int) < l.length; omega, fun hd => ?_, fun hd => ?_⟩
    · rw [fails_hit hb hlt hd]; exact rsEqv_refl _
    · refine ⟨hlt, wrap_succ (by omega), fun j hj => ?_⟩
      by_cases e : j = k
      · subst e; exact hd
      · exact hI j (by omega)
  · have hge := ge_of_dec hc
    have hf := fails_ok hb (fun j hj => hI j (by omega))
    refine ⟨Enc.is_F _ _ _, Enc.is_F _ _ _, by omega, hl, fun hd => ?_, fun hd => ?_⟩
    · have hd := of_decide_eq_true hd
      rw [hf, decide_eq_false (by omega)]; exact rsEqv_refl _
    · have hd := of_decide_eq_false hd
      rw [hf, decide_eq_true (by omega)]; exact rsEqv_refl _
def dom58 : DomF
  | [.c (.sl _ n_l st_l F_l), .agg [.int .i64 sv, .int .i64 l0, .int .i64 h0, .int .i64 l1, .int .i64 h1, .int .i64 l2, .int .i64 h2, .int .i64 l3, .int .i64 h3], .agg [.int .i64 den, .int .i64 each, .int .i64 x0, .int .i64 x1, .int .i64 x2, .int .i64 x3, .int .i64 y0, .int .i64 y1, .int .i64 y2, .int .i64 y3, .sl _ n_ps st_ps F_ps]] => (match Nat.beq st_l 7 && Nat.beq st_ps 1 with
    | true => some ([eC.Is n_l F_l, eI.Is n_ps F_ps, ∀ c, c ∈ (eC.list n_l F_l) → c.nm.size ≤ 1000000, (eI.list n_ps F_ps).length ≤ 1000000, (eC.list n_l F_l).length ≤ 1000000], [rI (M.fails (eC.list n_l F_l) (⟨sv, ⟨l0, h0⟩, ⟨l1, h1⟩, ⟨l2, h2⟩, ⟨l3, h3⟩⟩ : Sample) (⟨den, each, x0, x1, x2, x3, y0, y1, y2, y3, (eI.list n_ps F_ps)⟩ : Wts))])
    | _ => none)
  | _ => none
def v58 : Nat × Sm := (58, fokSm dom58)
theorem C58 : FOK Try.prog G0 gw 58 dom58 := by
  intro ags p r hd hp κ w xs hw hl hG hx
  unfold dom58 at hd
  split at hd
  · rename_i q_l n_l st_l F_l sv l0 h0 l1 h1 l2 h2 l3 h3 den each x0 x1 x2 x3 y0 y1 y2 y3 q_ps n_ps st_ps F_ps
    split at hd
    · rename_i hst
      simp only [Bool.and_eq_true] at hst
      obtain ⟨g1, g2⟩ := hst
      have g1 := Nat.eq_of_beq_eq_true g1
      have g2 := Nat.eq_of_beq_eq_true g2
      subst g1 g2
      simp only [Option.some.injEq, Prod.mk.injEq] at hd
      obtain ⟨rfl, rfl⟩ := hd
      obtain ⟨hI_l, hI_ps, hp⟩ := hp
      have heq : agsEqv [.c (.sl q_l n_l 7 F_l), .agg [.int .i64 sv, .int .i64 l0, .int .i64 h0, .int .i64 l1, .int .i64 h1, .int .i64 l2, .int .i64 h2, .int .i64 l3, .int .i64 h3], .agg [.int .i64 den, .int .i64 each, .int .i64 x0, .int .i64 x1, .int .i64 x2, .int .i64 x3, .int .i64 y0, .int .i64 y1, .int .i64 y2, .int .i64 y3, .sl q_ps n_ps 1 F_ps]] [.c (.sl q_l (eC.list n_l F_l).length 7 (eC.F (eC.list n_l F_l))), .agg [.int .i64 sv, .int .i64 l0, .int .i64 h0, .int .i64 l1, .int .i64 h1, .int .i64 l2, .int .i64 h2, .int .i64 l3, .int .i64 h3], .agg [.int .i64 den, .int .i64 each, .int .i64 x0, .int .i64 x1, .int .i64 x2, .int .i64 x3, .int .i64 y0, .int .i64 y1, .int .i64 y2, .int .i64 y3, .sl q_ps (eI.list n_ps F_ps).length 1 (eI.F (eI.list n_ps F_ps))]] := ⟨eC.to id hI_l, Ag.eqv_refl _, ⟨rfl, rfl, rfl, rfl, rfl, rfl, rfl, rfl, rfl, rfl, eI.to id hI_ps, trivial⟩, trivial⟩
      have len_l : (eC.list n_l F_l).length = n_l := eC.list_len
      have len_ps : (eI.list n_ps F_ps).length = n_ps := eI.list_len
      generalize eC.list n_l F_l = l at *
      generalize eI.list n_ps F_ps = ps at *
      subst len_l len_ps
      exact fokX_fin mixed gw_stable (sl := [v22, v76, v77, v79]) ⟨S22, S76, S77, S79, trivial⟩ Try.func58 hw hl hG hx heq rfl (t58 q_l l sv l0 h0 l1 h1 l2 h2 l3 h3 den each x0 x1 x2 x3 y0 y1 y2 y3 q_ps ps) (w58 l _ _ hp.1 hp.2.1 hp.2.2.1)
    · cases hd
  · cases hd
theorem S58 : SumOK Try.prog G0 gw 58 (fokSm dom58) := fok_sum Try.func58 rfl C58
end Go.Bl
end

section
set_option linter.unusedVariables false
set_option linter.unusedSimpArgs false
set_option maxRecDepth 100000
namespace Go.Bl
open Go.V Go.Proofs
end Go.Bl
end

section
set_option linter.unusedVariables false
set_option linter.unusedSimpArgs false
set_option maxRecDepth 100000
namespace Go.Bl
open Go.V Go.Proofs
namespace M
end M
end Go.Bl
end

section
set_option linter.unusedVariables false
set_option linter.unusedSimpArgs false
set_option maxRecDepth 100000
namespace Go.Bl
open Go.V Go.Proofs
open Go.Lp
theorem each_nn {P : Int → Prop} {w : Wts} (h : Each P w) (hp : ∀ b, P b → 0 ≤ b) : Each (fun b => 0 ≤ b) w := by
  obtain ⟨g1, ⟨g2, g3, g4, g5⟩, g6, g7, g8, g9⟩ := h
  exact ⟨fun i => hp _ (g1 i), ⟨hp _ g2, hp _ g3, hp _ g4, hp _ g5⟩, hp _ g6, hp _ g7, hp _ g8, hp _ g9⟩
end Go.Bl
end

section
set_option linter.unusedVariables false
set_option linter.unusedSimpArgs false
set_option maxRecDepth 100000
namespace Go.Bl
open Go.V Go.Proofs
namespace M
def wideR (r : Rg) (d : Int) : Rg := ⟨if IntKind.i64.wrap (r.lo - d) > 0 then IntKind.i64.wrap (r.lo - d) else 0, if IntKind.i64.wrap (r.hi + d) < 1000 then IntKind.i64.wrap (r.hi + d) else 1000⟩
def wide (s : Sample) (d : Int) : Sample := ⟨s.vol, wideR s.r0 d, wideR s.r1 d, wideR s.r2 d, wideR s.r3 d⟩
end M
end Go.Bl
end

section
set_option linter.unusedVariables false
set_option linter.unusedSimpArgs false
set_option maxRecDepth 100000
namespace Go.Bl
open Go.V Go.Proofs
def dom20f : DomF
  | [.c (.sl _ n_l st_l F_l), .agg [.int .i64 sv, .int .i64 l0, .int .i64 h0, .int .i64 l1, .int .i64 h1, .int .i64 l2, .int .i64 h2, .int .i64 l3, .int .i64 h3]] => (match Nat.beq st_l 7 with
    | true => some ([eC.Is n_l F_l, ∀ c, c ∈ (eC.list n_l F_l) → c.nm.size ≤ 1000000], resB (M.best (eC.list n_l F_l) ⟨sv, ⟨l0, h0⟩, ⟨l1, h1⟩, ⟨l2, h2⟩, ⟨l3, h3⟩⟩))
    | _ => none)
  | _ => none
def v20f : Nat × Sm := (20, fokSm dom20f)
theorem C20f : FOK Try.prog G0 gw 20 dom20f := by
  intro ags p r hd hp κ w xs hw hl hG hx
  unfold dom20f at hd
  split at hd
  · rename_i q_l n_l st_l F_l sv l0 h0 l1 h1 l2 h2 l3 h3
    split at hd
    · rename_i hst
      simp only [Option.some.injEq, Prod.mk.injEq] at hd
      obtain ⟨rfl, rfl⟩ := hd
      obtain ⟨hI, hn, _⟩ := hp
      have g1 := Nat.eq_of_beq_eq_true hst
      subst g1
      refine C20 _ _ _ (rfl : dom20 _ = _) ?_ κ w xs hw hl hG hx
      exact ⟨hI, hn, best_okay _ _, trivial⟩
    · cases hd
  · cases hd
theorem S20f : SumOK Try.prog G0 gw 20 (fokSm dom20f) := fok_sum Try.func20 rfl C20f
end Go.Bl
end

section
set_option linter.unusedVariables false
set_option linter.unusedSimpArgs false
set_option maxRecDepth 100000
namespace Go.Bl
open Go.V Go.Proofs
def P59 (LL : List Cask) (SS : Sample) : Option M.Corner := (M.psolve (Enc.list eI (List.length (M.shares LL (1 : Nat))) (Enc.F eI (M.shares LL (1 : Nat)))) (Sample.vol SS) (Enc.list eI (List.length (M.far LL)) (Enc.F eI (M.far LL))) (Enc.list eK (List.length (M.limits LL SS (1 : Nat))) (Enc.F eK (M.limits LL SS (1 : Nat)))))
def trF59 (l : List Cask) (s : Sample) (n : Nat) (yes : T (List Ar)) : T (List Ar) :=
    T.need (Enc.Is eC n (Enc.F eC l)) (T.need (∀ (c : Cask), c ∈ (Enc.list eC n (Enc.F eC l)) → ByteArray.size (Cask.nm c) ≤ (1000000 : Nat)) (T.br (M.first [M.casksErr (Enc.list eC n (Enc.F eC l)), M.checkSample s] != (0 : Int)) (T.ret [Ar.agg [D.int IntKind.i64 (0 : Int), D.int IntKind.i64 (0 : Int), D.int IntKind.i64 (0 : Int), D.int IntKind.i64 (0 : Int), D.int IntKind.i64 (0 : Int), D.int IntKind.i64 (0 : Int), D.int IntKind.i64 (0 : Int), D.int IntKind.i64 (0 : Int), D.int IntKind.i64 (0 : Int), D.int IntKind.i64 (0 : Int), D.sl false (0 : Nat) (0 : Nat) fun (x x_1 : Nat) => D.nilp], Ar.c (D.int IntKind.i64 (M.first [M.casksErr (Enc.list eC n (Enc.F eC l)), M.checkSample s]))]) (T.need (Enc.Is eC n (Enc.F eC l)) (T.need (List.length (Enc.list eC n (Enc.F eC l)) ≤ (1000000 : Nat)) (T.br (!decide (M.volumes (Enc.list eC n (Enc.F eC l)) ≥ s.vol)) yes (T.need (Enc.Is eC n (Enc.F eC l)) (T.need ((1 : Nat) ≤ n) (T.need (n ≤ (4 : Nat)) (T.need (Enc.Is eI (List.length (M.shares (Enc.list eC n (Enc.F eC l)) (1 : Nat))) (Enc.F eI (M.shares (Enc.list eC n (Enc.F eC l)) (1 : Nat)))) (T.need (Enc.Is eI (List.length (M.far (Enc.list eC n (Enc.F eC l)))) (Enc.F eI (M.far (Enc.list eC n (Enc.F eC l))))) (T.need (Enc.Is eK (List.length (M.limits (Enc.list eC n (Enc.F eC l)) s (1 : Nat))) (Enc.F eK (M.limits (Enc.list eC n (Enc.F eC l)) s (1 : Nat)))) (T.need ((1 : Nat) ≤ List.length (M.shares (Enc.list eC n (Enc.F eC l)) (1 : Nat))) (T.need (List.length (M.shares (Enc.list eC n (Enc.F eC l)) (1 : Nat)) ≤ (5 : Nat)) (T.need (List.length (M.shares (Enc.list eC n (Enc.F eC l)) (1 : Nat)) = List.length (M.far (Enc.list eC n (Enc.F eC l)))) (T.need (List.length (M.limits (Enc.list eC n (Enc.F eC l)) s (1 : Nat)) ≤ (1000 : Nat)) (T.need (∀ (c : Cond), c ∈ Enc.list eK (List.length (M.limits (Enc.list eC n (Enc.F eC l)) s (1 : Nat))) (Enc.F eK (M.limits (Enc.list eC n (Enc.F eC l)) s (1 : Nat))) → List.length (Cond.coefs c) = List.length (M.shares (Enc.list eC n (Enc.F eC l)) (1 : Nat))) (T.need (∀ (set : List Cond), List.length set + (1 : Nat) = List.length (Enc.list eI (List.length (M.shares (Enc.list eC n (Enc.F eC l)) (1 : Nat))) (Enc.F eI (M.shares (Enc.list eC n (Enc.F eC l)) (1 : Nat)))) → (∀ (c : Cond), c ∈ set → c ∈ Enc.list eK (List.length (M.limits (Enc.list eC n (Enc.F eC l)) s (1 : Nat))) (Enc.F eK (M.limits (Enc.list eC n (Enc.F eC l)) s (1 : Nat)))) → M.det (M.mat (Enc.list eI (List.length (M.shares (Enc.list eC n (Enc.F eC l)) (1 : Nat))) (Enc.F eI (M.shares (Enc.list eC n (Enc.F eC l)) (1 : Nat)))) set) ≠ (0 : Int) → M.det (M.turned (M.mat (Enc.list eI (List.length (M.shares (Enc.list eC n (Enc.F eC l)) (1 : Nat))) (Enc.F eI (M.shares (Enc.list eC n (Enc.F eC l)) (1 : Nat)))) set)) ≠ (0 : Int)) (T.br (!Option.isSome (P59 (Enc.list eC n (Enc.F eC l)) s)) (T.ret [Ar.agg [D.int IntKind.i64 (0 : Int), D.int IntKind.i64 (0 : Int), D.int IntKind.i64 (0 : Int), D.int IntKind.i64 (0 : Int), D.int IntKind.i64 (0 : Int), D.int IntKind.i64 (0 : Int), D.int IntKind.i64 (0 : Int), D.int IntKind.i64 (0 : Int), D.int IntKind.i64 (0 : Int), D.int IntKind.i64 (0 : Int), D.sl false (0 : Nat) (0 : Nat) fun (x x_1 : Nat) => D.nilp], Ar.c (D.int IntKind.i64 (12 : Int))]) (T.need ((0 : Int) ≤ (Nat.cast (R := Int) n)) (T.need ((Nat.cast (R := Int) n) < (Nat.cast (R := Int) (List.length (M.Corner.pt (cOf (P59 (Enc.list eC n (Enc.F eC l)) s)))))) (T.br (List.getD (M.Corner.pt (cOf (P59 (Enc.list eC n (Enc.F eC l)) s))) (Int.toNat (Nat.cast (R := Int) n)) (0 : Int) == (0 : Int)) (T.ret [Ar.agg [D.int IntKind.i64 (0 : Int), D.int IntKind.i64 (0 : Int), D.int IntKind.i64 (0 : Int), D.int IntKind.i64 (0 : Int), D.int IntKind.i64 (0 : Int), D.int IntKind.i64 (0 : Int), D.int IntKind.i64 (0 : Int), D.int IntKind.i64 (0 : Int), D.int IntKind.i64 (0 : Int), D.int IntKind.i64 (0 : Int), D.sl false (0 : Nat) (0 : Nat) fun (x x_1 : Nat) => D.nilp], Ar.c (D.int IntKind.i64 (12 : Int))]) (T.need (Enc.Is eK (List.length (M.Corner.tight (cOf (P59 (Enc.list eC n (Enc.F eC l)) s)))) (Enc.F eK (M.Corner.tight (cOf (P59 (Enc.list eC n (Enc.F eC l)) s))))) (T.need (Enc.Is eI (List.length (M.Corner.by_ (cOf (P59 (Enc.list eC n (Enc.F eC l)) s)))) (Enc.F eI (M.Corner.by_ (cOf (P59 (Enc.list eC n (Enc.F eC l)) s))))) (T.need ((0 : Int) ≤ (Nat.cast (R := Int) n)) (T.need ((Nat.cast (R := Int) n) ≤ (1000 : Int)) (T.need (List.length (M.Corner.tight (cOf (P59 (Enc.list eC n (Enc.F eC l)) s))) ≤ List.length (M.Corner.by_ (cOf (P59 (Enc.list eC n (Enc.F eC l)) s)))) (T.need (List.length (M.Corner.tight (cOf (P59 (Enc.list eC n (Enc.F eC l)) s))) ≤ (1000 : Nat)) (T.need (∀ (c : Cond), c ∈ Enc.list eK (List.length (M.Corner.tight (cOf (P59 (Enc.list eC n (Enc.F eC l)) s)))) (Enc.F eK (M.Corner.tight (cOf (P59 (Enc.list eC n (Enc.F eC l)) s)))) → (0 : Int) ≤ Cond.which c ∧ (Cond.kind c = (1 : Int) → Cond.which c < (Nat.cast (R := Int) n)) ∧ (Cond.kind c ≠ (1 : Int) → Cond.kind c ≠ (0 : Int) → Cond.which c < (4 : Int))) (T.ret [Ar.agg [D.int IntKind.i64 (M.weights (M.Corner.wd (cOf (P59 (Enc.list eC n (Enc.F eC l)) s))) (M.Corner.each (cOf (P59 (Enc.list eC n (Enc.F eC l)) s))) (Enc.list eK (List.length (M.Corner.tight (cOf (P59 (Enc.list eC n (Enc.F eC l)) s)))) (Enc.F eK (M.Corner.tight (cOf (P59 (Enc.list eC n (Enc.F eC l)) s))))) (Enc.list eI (List.length (M.Corner.by_ (cOf (P59 (Enc.list eC n (Enc.F eC l)) s)))) (Enc.F eI (M.Corner.by_ (cOf (P59 (Enc.list eC n (Enc.F eC l)) s))))) (Int.toNat (Nat.cast (R := Int) n))).1, D.int IntKind.i64 (M.weights (M.Corner.wd (cOf (P59 (Enc.list eC n (Enc.F eC l)) s))) (M.Corner.each (cOf (P59 (Enc.list eC n (Enc.F eC l)) s))) (Enc.list eK (List.length (M.Corner.tight (cOf (P59 (Enc.list eC n (Enc.F eC l)) s)))) (Enc.F eK (M.Corner.tight (cOf (P59 (Enc.list eC n (Enc.F eC l)) s))))) (Enc.list eI (List.length (M.Corner.by_ (cOf (P59 (Enc.list eC n (Enc.F eC l)) s)))) (Enc.F eI (M.Corner.by_ (cOf (P59 (Enc.list eC n (Enc.F eC l)) s))))) (Int.toNat (Nat.cast (R := Int) n))).2, D.int IntKind.i64 (M.weights (M.Corner.wd (cOf (P59 (Enc.list eC n (Enc.F eC l)) s))) (M.Corner.each (cOf (P59 (Enc.list eC n (Enc.F eC l)) s))) (Enc.list eK (List.length (M.Corner.tight (cOf (P59 (Enc.list eC n (Enc.F eC l)) s)))) (Enc.F eK (M.Corner.tight (cOf (P59 (Enc.list eC n (Enc.F eC l)) s))))) (Enc.list eI (List.length (M.Corner.by_ (cOf (P59 (Enc.list eC n (Enc.F eC l)) s)))) (Enc.F eI (M.Corner.by_ (cOf (P59 (Enc.list eC n (Enc.F eC l)) s))))) (Int.toNat (Nat.cast (R := Int) n))).3, D.int IntKind.i64 (M.weights (M.Corner.wd (cOf (P59 (Enc.list eC n (Enc.F eC l)) s))) (M.Corner.each (cOf (P59 (Enc.list eC n (Enc.F eC l)) s))) (Enc.list eK (List.length (M.Corner.tight (cOf (P59 (Enc.list eC n (Enc.F eC l)) s)))) (Enc.F eK (M.Corner.tight (cOf (P59 (Enc.list eC n (Enc.F eC l)) s))))) (Enc.list eI (List.length (M.Corner.by_ (cOf (P59 (Enc.list eC n (Enc.F eC l)) s)))) (Enc.F eI (M.Corner.by_ (cOf (P59 (Enc.list eC n (Enc.F eC l)) s))))) (Int.toNat (Nat.cast (R := Int) n))).4, D.int IntKind.i64 (M.weights (M.Corner.wd (cOf (P59 (Enc.list eC n (Enc.F eC l)) s))) (M.Corner.each (cOf (P59 (Enc.list eC n (Enc.F eC l)) s))) (Enc.list eK (List.length (M.Corner.tight (cOf (P59 (Enc.list eC n (Enc.F eC l)) s)))) (Enc.F eK (M.Corner.tight (cOf (P59 (Enc.list eC n (Enc.F eC l)) s))))) (Enc.list eI (List.length (M.Corner.by_ (cOf (P59 (Enc.list eC n (Enc.F eC l)) s)))) (Enc.F eI (M.Corner.by_ (cOf (P59 (Enc.list eC n (Enc.F eC l)) s))))) (Int.toNat (Nat.cast (R := Int) n))).5, D.int IntKind.i64 (M.weights (M.Corner.wd (cOf (P59 (Enc.list eC n (Enc.F eC l)) s))) (M.Corner.each (cOf (P59 (Enc.list eC n (Enc.F eC l)) s))) (Enc.list eK (List.length (M.Corner.tight (cOf (P59 (Enc.list eC n (Enc.F eC l)) s)))) (Enc.F eK (M.Corner.tight (cOf (P59 (Enc.list eC n (Enc.F eC l)) s))))) (Enc.list eI (List.length (M.Corner.by_ (cOf (P59 (Enc.list eC n (Enc.F eC l)) s)))) (Enc.F eI (M.Corner.by_ (cOf (P59 (Enc.list eC n (Enc.F eC l)) s))))) (Int.toNat (Nat.cast (R := Int) n))).6, D.int IntKind.i64 (M.weights (M.Corner.wd (cOf (P59 (Enc.list eC n (Enc.F eC l)) s))) (M.Corner.each (cOf (P59 (Enc.list eC n (Enc.F eC l)) s))) (Enc.list eK (List.length (M.Corner.tight (cOf (P59 (Enc.list eC n (Enc.F eC l)) s)))) (Enc.F eK (M.Corner.tight (cOf (P59 (Enc.list eC n (Enc.F eC l)) s))))) (Enc.list eI (List.length (M.Corner.by_ (cOf (P59 (Enc.list eC n (Enc.F eC l)) s)))) (Enc.F eI (M.Corner.by_ (cOf (P59 (Enc.list eC n (Enc.F eC l)) s))))) (Int.toNat (Nat.cast (R := Int) n))).7, D.int IntKind.i64 (M.weights (M.Corner.wd (cOf (P59 (Enc.list eC n (Enc.F eC l)) s))) (M.Corner.each (cOf (P59 (Enc.list eC n (Enc.F eC l)) s))) (Enc.list eK (List.length (M.Corner.tight (cOf (P59 (Enc.list eC n (Enc.F eC l)) s)))) (Enc.F eK (M.Corner.tight (cOf (P59 (Enc.list eC n (Enc.F eC l)) s))))) (Enc.list eI (List.length (M.Corner.by_ (cOf (P59 (Enc.list eC n (Enc.F eC l)) s)))) (Enc.F eI (M.Corner.by_ (cOf (P59 (Enc.list eC n (Enc.F eC l)) s))))) (Int.toNat (Nat.cast (R := Int) n))).8, D.int IntKind.i64 (M.weights (M.Corner.wd (cOf (P59 (Enc.list eC n (Enc.F eC l)) s))) (M.Corner.each (cOf (P59 (Enc.list eC n (Enc.F eC l)) s))) (Enc.list eK (List.length (M.Corner.tight (cOf (P59 (Enc.list eC n (Enc.F eC l)) s)))) (Enc.F eK (M.Corner.tight (cOf (P59 (Enc.list eC n (Enc.F eC l)) s))))) (Enc.list eI (List.length (M.Corner.by_ (cOf (P59 (Enc.list eC n (Enc.F eC l)) s)))) (Enc.F eI (M.Corner.by_ (cOf (P59 (Enc.list eC n (Enc.F eC l)) s))))) (Int.toNat (Nat.cast (R := Int) n))).9, D.int IntKind.i64 (M.weights (M.Corner.wd (cOf (P59 (Enc.list eC n (Enc.F eC l)) s))) (M.Corner.each (cOf (P59 (Enc.list eC n (Enc.F eC l)) s))) (Enc.list eK (List.length (M.Corner.tight (cOf (P59 (Enc.list eC n (Enc.F eC l)) s)))) (Enc.F eK (M.Corner.tight (cOf (P59 (Enc.list eC n (Enc.F eC l)) s))))) (Enc.list eI (List.length (M.Corner.by_ (cOf (P59 (Enc.list eC n (Enc.F eC l)) s)))) (Enc.F eI (M.Corner.by_ (cOf (P59 (Enc.list eC n (Enc.F eC l)) s))))) (Int.toNat (Nat.cast (R := Int) n))).10, D.sl false (List.length (M.weights (M.Corner.wd (cOf (P59 (Enc.list eC n (Enc.F eC l)) s))) (M.Corner.each (cOf (P59 (Enc.list eC n (Enc.F eC l)) s))) (Enc.list eK (List.length (M.Corner.tight (cOf (P59 (Enc.list eC n (Enc.F eC l)) s)))) (Enc.F eK (M.Corner.tight (cOf (P59 (Enc.list eC n (Enc.F eC l)) s))))) (Enc.list eI (List.length (M.Corner.by_ (cOf (P59 (Enc.list eC n (Enc.F eC l)) s)))) (Enc.F eI (M.Corner.by_ (cOf (P59 (Enc.list eC n (Enc.F eC l)) s))))) (Int.toNat (Nat.cast (R := Int) n))).11) (1 : Nat) (Enc.F eI (M.weights (M.Corner.wd (cOf (P59 (Enc.list eC n (Enc.F eC l)) s))) (M.Corner.each (cOf (P59 (Enc.list eC n (Enc.F eC l)) s))) (Enc.list eK (List.length (M.Corner.tight (cOf (P59 (Enc.list eC n (Enc.F eC l)) s)))) (Enc.F eK (M.Corner.tight (cOf (P59 (Enc.list eC n (Enc.F eC l)) s))))) (Enc.list eI (List.length (M.Corner.by_ (cOf (P59 (Enc.list eC n (Enc.F eC l)) s)))) (Enc.F eI (M.Corner.by_ (cOf (P59 (Enc.list eC n (Enc.F eC l)) s))))) (Int.toNat (Nat.cast (R := Int) n))).11)], Ar.c (D.int IntKind.i64 (0 : Int))])))))))))))))))))))))))))))))
theorem t59 (q_l : Bool) (l : List Cask) (sv l0 h0 l1 h1 l2 h2 l3 h3 : Int) : runFnX Try.prog G0 (lookS [v65, v49, v64, v81, v82, v67, v69]) (fun _ => []) [] 1 40 5 59 Try.f59 [.c (.sl q_l l.length 7 (eC.F l)), .agg [dI sv, dI l0, dI h0, dI l1, dI h1, dI l2, dI h2, dI l3, dI h3]] =
    trF59 l (⟨sv, ⟨l0, h0⟩, ⟨l1, h1⟩, ⟨l2, h2⟩, ⟨l3, h3⟩⟩ : Sample) l.length .fail := by kernel_rfl
theorem t59_1 (q_l : Bool) (l : List Cask) (sv l0 h0 l1 h1 l2 h2 l3 h3 : Int) : runFnX Try.prog G0 (lookS [v65, v49, v64, v81, v82, v67, v69]) (fun f => match Nat.beq f 112 || Nat.beq f 132 || Nat.beq f 147 || Nat.beq f 148 with | true => [(999999, [], none)] | _ => []) [112, 132, 147, 148] 1 60 6 59 Try.f59 [.c (.sl q_l 1 7 (eC.F l)), .agg [dI sv, dI l0, dI h0, dI l1, dI h1, dI l2, dI h2, dI l3, dI h3]] =
    trF59 l (⟨sv, ⟨l0, h0⟩, ⟨l1, h1⟩, ⟨l2, h2⟩, ⟨l3, h3⟩⟩ : Sample) 1 (.ret [.agg [dI 1, dI 1, dI 0, dI 0, dI 0, dI 0, dI 0, dI 0, dI 0, dI 0, .sl true 1 1 (fun i j => List.getD [D.int IntKind.i64 1] (i * 1 + j) .nilp)], .c (dI 0)]) := by kernel_rfl
theorem t59_2 (q_l : Bool) (l : List Cask) (sv l0 h0 l1 h1 l2 h2 l3 h3 : Int) : runFnX Try.prog G0 (lookS [v65, v49, v64, v81, v82, v67, v69]) (fun f => match Nat.beq f 112 || Nat.beq f 132 || Nat.beq f 147 || Nat.beq f 148 with | true => [(999999, [], none)] | _ => []) [112, 132, 147, 148] 1 60 6 59 Try.f59 [.c (.sl q_l 2 7 (eC.F l)), .agg [dI sv, dI l0, dI h0, dI l1, dI h1, dI l2, dI h2, dI l3, dI h3]] =
    trF59 l (⟨sv, ⟨l0, h0⟩, ⟨l1, h1⟩, ⟨l2, h2⟩, ⟨l3, h3⟩⟩ : Sample) 2 (.ret [.agg [dI 1, dI 1, dI 0, dI 0, dI 0, dI 0, dI 0, dI 0, dI 0, dI 0, .sl true 2 1 (fun i j => List.getD [D.int IntKind.i64 1, D.int IntKind.i64 1] (i * 1 + j) .nilp)], .c (dI 0)]) := by kernel_rfl
theorem t59_3 (q_l : Bool) (l : List Cask) (sv l0 h0 l1 h1 l2 h2 l3 h3 : Int) : runFnX Try.prog G0 (lookS [v65, v49, v64, v81, v82, v67, v69]) (fun f => match Nat.beq f 112 || Nat.beq f 132 || Nat.beq f 147 || Nat.beq f 148 with | true => [(999999, [], none)] | _ => []) [112, 132, 147, 148] 1 60 6 59 Try.f59 [.c (.sl q_l 3 7 (eC.F l)), .agg [dI sv, dI l0, dI h0, dI l1, dI h1, dI l2, dI h2, dI l3, dI h3]] =
    trF59 l (⟨sv, ⟨l0, h0⟩, ⟨l1, h1⟩, ⟨l2, h2⟩, ⟨l3, h3⟩⟩ : Sample) 3 (.ret [.agg [dI 1, dI 1, dI 0, dI 0, dI 0, dI 0, dI 0, dI 0, dI 0, dI 0, .sl true 3 1 (fun i j => List.getD [D.int IntKind.i64 1, D.int IntKind.i64 1, D.int IntKind.i64 1] (i * 1 + j) .nilp)], .c (dI 0)]) := by kernel_rfl
theorem t59_4 (q_l : Bool) (l : List Cask) (sv l0 h0 l1 h1 l2 h2 l3 h3 : Int) : runFnX Try.prog G0 (lookS [v65, v49, v64, v81, v82, v67, v69]) (fun f => match Nat.beq f 112 || Nat.beq f 132 || Nat.beq f 147 || Nat.beq f 148 with | true => [(999999, [], none)] | _ => []) [112, 132, 147, 148] 1 60 6 59 Try.f59 [.c (.sl q_l 4 7 (eC.F l)), .agg [dI sv, dI l0, dI h0, dI l1, dI h1, dI l2, dI h2, dI l3, dI h3]] =
    trF59 l (⟨sv, ⟨l0, h0⟩, ⟨l1, h1⟩, ⟨l2, h2⟩, ⟨l3, h3⟩⟩ : Sample) 4 (.ret [.agg [dI 1, dI 1, dI 0, dI 0, dI 0, dI 0, dI 0, dI 0, dI 0, dI 0, .sl true 4 1 (fun i j => List.getD [D.int IntKind.i64 1, D.int IntKind.i64 1, D.int IntKind.i64 1, D.int IntKind.i64 1] (i * 1 + j) .nilp)], .c (dI 0)]) := by kernel_rfl
end Go.Bl
end

section
set_option linter.unusedVariables false
set_option linter.unusedSimpArgs false
set_option maxRecDepth 100000
namespace Go.Bl
open Go.V Go.Proofs Go.Lp
section
variable {l : List Cask} {s : Sample} {x : M.Corner}
theorem near_le (hx : NearS l s x) {pt : List Int} {den far : Int} (hb : Blend l s pt den far) (h0 : 0 ≤ far) : en x.pt l.length * den ≤ far * x.den := by
  have hw := weak_blend hb (each_nn hx.p.all fun b hb => hb.1) (g := fun j => en (M.far l) j * (M.wtsOf x l.length).den) hx.p.gift
  rw [smI_congr (h := fun _ => 0) (fun j hj => by
    have hj := List.mem_range.1 hj
    rw [far_en (by omega), if_neg (by omega), Int.zero_mul, Int.zero_mul]), smI_zero, Int.zero_add] at hw
  have hw := Int.le_trans hw (Int.mul_le_mul_of_nonneg_right hx.ws h0)
  have h1 := Int.mul_le_mul_of_nonneg_right hw (Int.le_of_lt hx.b.dp)
  have h2 : bound l s (M.wtsOf x l.length) * den * x.den = (M.wtsOf x l.length).den * (en x.pt l.length * den) := by rw [Int.mul_right_comm, hx.eq, Int.mul_assoc]
  rw [h2, Int.mul_assoc] at h1
  exact Int.le_of_mul_le_mul_left h1 (by have := hx.p.den; omega)
theorem best_cases (he : M.taskErr l s = 0) : (∃ x, BestS l s x ∧ M.best l s = M.bestC l x) ∨ ((∀ pt den, ¬ Blend l s pt den 0) ∧ M.best l s = ⟨0, 0, 0, [], M.zeroW, 12⟩) := by
  have h := task_right he
  have hb : M.best l s = (match M.pBest l s with | some x => M.bestC l x | none => ⟨0, 0, 0, [], M.zeroW, 12⟩) := by
    unfold M.best; rw [he]; rfl
  cases hp : M.pBest l s with
  | some x => exact .inl ⟨x, best_some h hp, by rw [hb, hp]⟩
  | none => exact .inr ⟨fun pt den hq => best_none h hp hq, by rw [hb, hp]⟩
theorem near_err (he : M.taskErr l s = 0) : M.nearErr l s = M.unl (decide (vols l ≥ s.vol)) 24 := by
  have h := task_right he
  unfold M.taskErr at he
  have hz := first_nil _ he
  unfold M.nearErr
  rw [hz (M.casksErr l) (by simp), hz (M.checkSample s) (by simp), vols_eq h, first_cons, if_pos rfl, first_cons, if_pos rfl, first_cons]
  split
  · rename_i e; rw [e]; rfl
  · rfl
structure Wide (s s' : Sample) (d : Int) : Prop where
  d0 : 0 ≤ d ∧ d ≤ 1000
  v : s'.vol = s.vol
  hi : ∀ k, k < 4 → (M.rg s k).hi ≤ (M.rg s' k).hi ∧ (M.rg s' k).hi ≤ (M.rg s k).hi + d ∧ ((M.rg s' k).hi = 1000 ∨ (M.rg s' k).hi = (M.rg s k).hi + d)
  lo : ∀ k, k < 4 → (M.rg s' k).lo ≤ (M.rg s k).lo ∧ (M.rg s k).lo - d ≤ (M.rg s' k).lo ∧ ((M.rg s' k).lo = 0 ∨ (M.rg s' k).lo = (M.rg s k).lo - d)
end
end Go.Bl
end

section
set_option linter.unusedVariables false
set_option linter.unusedSimpArgs false
set_option maxRecDepth 100000
namespace Go.Bl
open Go.V Go.Proofs Go.Lp
section
variable {l : List Cask} {s : Sample} {x : M.Corner}
end
section
variable {l : List Cask} {s : Sample} {x : M.Corner}
theorem ceil_spec {n d : Int} (hd : 0 < d) : (-((-n) / d) - 1) * d < n ∧ n ≤ -((-n) / d) * d := by
  have h1 := Int.mul_ediv_add_emod (-n) d
  have h2 := Int.emod_nonneg (-n) (show d ≠ 0 by omega)
  have h3 := Int.emod_lt_of_pos (-n) hd
  rw [Int.mul_comm] at h1
  rw [Int.sub_mul, Int.neg_mul]
  omega
theorem enough_blend {pt : List Int} {den far : Int} (hb : Blend l s pt den far) : s.vol ≤ vols l := by
  have h1 : s.vol * den ≤ vols l * den := by
    rw [← hb.sum]
    unfold vols
    rw [smI_mul_right]
    exact smI_le fun i hi => hb.p1 i (List.mem_range.1 hi)
  exact Int.le_of_mul_le_mul_right h1 hb.dp
theorem best_e (ht : M.taskErr l s = 0) : ((M.best l s).e = 0 ↔ ∃ pt den, Blend l s pt den 0) ∧ ((M.best l s).e = 0 ∨ (M.best l s).e = 12) := by
  rcases best_cases ht with ⟨x, hx, ex⟩ | ⟨hn, ex⟩
  · rw [ex]; exact ⟨⟨fun _ => ⟨_, _, hx.b⟩, fun _ => rfl⟩, .inl rfl⟩
  · rw [ex]
    exact ⟨⟨fun e => absurd (show (12 : Int) = 0 from e) (by decide), fun ⟨pt, den, hb⟩ => absurd hb (hn _ _)⟩, .inr rfl⟩
end
end Go.Bl
end

section
set_option linter.unusedVariables false
set_option linter.unusedSimpArgs false
set_option maxRecDepth 100000
namespace Go.Bl
open Go.V Go.Proofs Go.Lp
namespace M
def failW (n : Nat) : Wts := ⟨1, 1, 0, 0, 0, 0, 0, 0, 0, 0, List.replicate n 1⟩
def failR (l : List Cask) (s : Sample) : Wts × Int := cond (decide (volumes l ≥ s.vol)) (cond ((pNear l s).pt.getD l.length 0 == 0) (zeroW, 12) (wtsOf (pNear l s) l.length, 0)) (failW l.length, 0)
def failure (l : List Cask) (s : Sample) : Wts × Int := cond (taskErr l s != 0) (zeroW, taskErr l s) (failR l s)
end M
theorem within_yes {n lo hi : Int} (h : lo ≤ n ∧ n ≤ hi) : M.within n lo hi = true := by
  unfold M.within
  simp [h.1, h.2]
theorem allB_of {is : Int → Bool} : ∀ {l : List Int}, (∀ x, x ∈ l → is x = true) → M.allB is l = true
  | [], _ => rfl
  | n :: l, h => by
    unfold M.allB
    rw [h n (List.mem_cons_self ..)]
    exact allB_of fun x hx => h x (List.mem_cons_of_mem _ hx)
section
variable {l : List Cask} {s : Sample} {w : Wts}
theorem openW_of (ht : M.taskErr l s = 0) (h : RightW l s w) : M.openW l s w = 0 := by
  rw [openW_eq, ht]
  show M.wErr l.length w = 0
  have hw : ∀ x : Int, 0 ≤ x ∧ x ≤ 100000000000000 → M.isWeight x = true := fun x hx => within_yes hx
  refine wErr_ok ?_ (beq_of_eq (by rw [h.len])) ?_
  · unfold M.wHead
    have := h.each
    rw [within_yes h.den, within_yes (by omega)]; rfl
  · obtain ⟨a1, ⟨a2, a3, a4, a5⟩, a6, a7, a8, a9⟩ := h.all
    unfold M.wOk
    rw [allB_of (is := M.isWeight) (l := [w.x0, w.x1, w.x2, w.x3]) (fun x hx => by
        simp only [List.mem_cons, List.not_mem_nil, or_false] at hx
        rcases hx with rfl | rfl | rfl | rfl <;> exact hw _ (by assumption)),
      allB_of (is := M.isWeight) (l := [w.y0, w.y1, w.y2, w.y3]) (fun x hx => by
        simp only [List.mem_cons, List.not_mem_nil, or_false] at hx
        rcases hx with rfl | rfl | rfl | rfl <;> exact hw _ (by assumption)),
      allB_of (is := M.isWeight) (l := w.casks) (fun x hx => by
        obtain ⟨i, hi, rfl⟩ := List.getElem_of_mem hx
        have := a1 i
        unfold en at this
        rw [List.getD_eq_getElem?_getD, List.getElem?_eq_getElem hi] at this
        exact hw _ this)]
    rfl
theorem fails_of (ht : M.taskErr l s = 0) (h : RightW l s w) (hg : ∀ j, j < l.length → gift l s w j ≤ 0) (hb : 0 < bound l s w) : M.fails l s w = 0 := by
  have ho : (M.openW l s w != 0) = false := by rw [openW_of ht h]; rfl
  rw [fails_ok ho (fun k hk => decide_eq_false (by rw [giveR_eq h hk]; have := hg k hk; omega)), (boundR_eq h).1, decide_eq_true (by omega)]
  rfl
theorem fail_near {x : M.Corner} (ht : M.taskErr l s = 0) (hx : NearS l s x) (h0 : 0 < en x.pt l.length) : M.fails l s (M.wtsOf x l.length) = 0 ∧ (M.wtsOf x l.length).casks.length = l.length := by
  have h := task_right ht
  have hp := hx.p
  obtain ⟨a1, ⟨a2, a3, a4, a5⟩, a6, a7, a8, a9⟩ := hp.all
  have hR : RightW l s (M.wtsOf x l.length) := ⟨h, hp.den, hp.each, hp.len, fun i => by have := a1 i; omega, ⟨by omega, by omega, by omega, by omega⟩, ⟨by omega, by omega, by omega, by omega⟩⟩
  refine ⟨fails_of ht hR (fun j hj => ?_) ?_, hp.len⟩
  · have := hp.gift j hj
    rw [far_en (by omega), if_neg (by omega), Int.zero_mul] at this
    exact this
  · have hd := hx.b.dp
    have hpos : 0 < bound l s (M.wtsOf x l.length) * x.den := by
      rw [hx.eq]
      exact Int.mul_pos (by have := hp.den; omega) h0
    exact Int.pos_of_mul_pos_left hpos hd
theorem en_ones {n i : Nat} (h : i < n) : en (List.replicate n 1) i = 1 := by
  unfold en
  rw [List.getD_eq_getElem?_getD, List.getElem?_replicate, if_pos h]; rfl
theorem fail_ones (ht : M.taskErr l s = 0) (hv : vols l < s.vol) : M.fails l s (M.failW l.length) = 0 ∧ (M.failW l.length).casks.length = l.length := by
  have h := task_right ht
  have hlen : (M.failW l.length).casks.length = l.length := List.length_replicate ..
  have hR : RightW l s (M.failW l.length) := by
    have z : (0 : Int) ≤ 0 ∧ (0 : Int) ≤ 100000000000000 := by decide
    refine ⟨h, show (1 : Int) ≤ 1 ∧ (1 : Int) ≤ 200000000000 by decide, show (1 : Int).natAbs ≤ 100000000000000 by decide, hlen, fun i => ?_, ⟨z, z, z, z⟩, ⟨z, z, z, z⟩⟩
    by_cases hi : i < l.length
    · show 0 ≤ en (List.replicate l.length 1) i ∧ en (List.replicate l.length 1) i ≤ _
      rw [en_ones hi]; decide
    · rw [en_out (by rw [hlen]; omega)]; decide
  refine ⟨fails_of ht hR (fun j hj => ?_) ?_, hlen⟩
  · rw [gift_eq _ hj]
    have e : en (M.failW l.length).casks j = 1 := en_ones hj
    rw [e]
    show (1 : Int) - 1 - (0 * _ + 0 * _ + 0 * _ + 0 * _) - (0 * _ + 0 * _ + 0 * _ + 0 * _) ≤ 0
    simp only [Int.zero_mul]
    decide
  · unfold bound phi
    have e : smI (fun i => en (M.failW l.length).casks i * (l.getD i dfC).vol) (List.range l.length) = vols l := by
      unfold vols
      exact smI_congr fun i hi => by
        have : en (M.failW l.length).casks i = 1 := en_ones (List.mem_range.1 hi)
        rw [this, Int.one_mul]
    rw [e]
    show 0 < 1 * s.vol - (vols l + (0 * 0 + 0 * 0 + 0 * 0 + 0 * 0) + (0 * 0 + 0 * 0 + 0 * 0 + 0 * 0))
    omega
theorem one_of_two (ht : M.taskErr l s = 0) : ((M.best l s).e = 0 ∧ M.failure l s = (M.zeroW, 12)) ∨
    ((M.best l s).e = 12 ∧ (M.failure l s).2 = 0 ∧ (M.failure l s).1.casks.length = l.length ∧ M.fails l s (M.failure l s).1 = 0) := by
  have h := task_right ht
  obtain ⟨he, hor⟩ := best_e ht
  have e0 : M.failure l s = M.failR l s := by unfold M.failure; rw [ht]; rfl
  rw [e0]
  unfold M.failR
  rw [vols_eq h]
  by_cases hv : s.vol ≤ vols l
  · rw [decide_eq_true (show vols l ≥ s.vol by omega)]
    have hx := near_some h hv
    generalize M.pNear l s = x at *
    rw [cond_true]
    have eR : (cond (x.pt.getD l.length 0 == 0) ((M.zeroW, 12) : Wts × Int) (M.wtsOf x l.length, 0)) = cond (en x.pt l.length == 0) ((M.zeroW, 12) : Wts × Int) (M.wtsOf x l.length, 0) := rfl
    rw [eR]
    by_cases hz : en x.pt l.length = 0
    · rw [beq_of_eq hz]
      have hb := hx.b
      rw [hz] at hb
      exact .inl ⟨he.2 ⟨_, _, hb⟩, rfl⟩
    · rw [beq_of_ne hz]
      have h0 : 0 < en x.pt l.length := by have := hx.f0; omega
      obtain ⟨f1, f2⟩ := fail_near ht hx h0
      refine .inr ⟨?_, rfl, f2, f1⟩
      rcases hor with e | e
      · obtain ⟨pt, den, hb⟩ := he.1 e
        have := near_le hx hb (Int.le_refl 0)
        rw [Int.zero_mul] at this
        have := Int.mul_pos h0 hb.dp
        omega
      · exact e
  · rw [decide_eq_false (show ¬ vols l ≥ s.vol by omega)]
    obtain ⟨f1, f2⟩ := fail_ones ht (by omega)
    refine .inr ⟨?_, rfl, f2, f1⟩
    rcases hor with e | e
    · obtain ⟨pt, den, hb⟩ := he.1 e
      exact absurd (enough_blend hb) hv
    · exact e
end
end Go.Bl
end

section
set_option linter.unusedVariables false
set_option linter.unusedSimpArgs false
set_option maxRecDepth 100000
namespace Go.Bl
open Go.V Go.Proofs Go.Lp
def resF (x : Wts × Int) : List Ar := [resW x.1, rI x.2]
theorem w59 (l : List Cask) (s : Sample) {yes : T (List Ar)} (hn : ∀ c, c ∈ l → c.nm.size ≤ 1000000) (hl : l.length ≤ 1000000)
    (hyes : M.taskErr l s = 0 → yes.wp (fun rs => rsEqv rs (resF (M.failW l.length, 0)))) : (trF59 l s l.length yes).wp (fun rs => rsEqv rs (resF (M.failure l s))) := by
  have hP : P59 l s = M.psolve (M.shares l 1) s.vol (M.far l) (M.limits l s 1) := by unfold P59; simp only [Enc.list_F]
  have hC : cOf (M.psolve (M.shares l 1) s.vol (M.far l) (M.limits l s 1)) = M.pNear l s := rfl
  have z0 : (nilD).eqv (dL []) := ⟨(fun e => by cases e), rfl, (fun h => absurd h (Nat.lt_irrefl 0)), fun i j hi => absurd hi (Nat.not_lt_zero i)⟩
  unfold trF59
  simp only [Enc.list_F, hP, hC]
  refine ⟨Enc.is_F _ _ _, hn, wp_br (fun hb => ?_) (fun hb => ⟨Enc.is_F _ _ _, hl, ?_⟩)⟩
  · have : M.failure l s = (M.zeroW, M.taskErr l s) := by unfold M.failure; rw [show (M.taskErr l s != 0) = true from hb]; rfl
    rw [this]
    exact ⟨⟨rfl, rfl, rfl, rfl, rfl, rfl, rfl, rfl, rfl, rfl, z0, trivial⟩, rfl, trivial⟩
  have hb' : (M.taskErr l s != 0) = false := hb
  have ht : M.taskErr l s = 0 := by simpa using hb'
  have h := task_right ht
  have e0 : M.failure l s = M.failR l s := by unfold M.failure; rw [hb']; rfl
  rw [e0]
  refine wp_br (fun hv => ?_) (fun hv => ?_)
  · have hv : decide (M.volumes l ≥ s.vol) = false := not_true hv
    have : M.failR l s = (M.failW l.length, 0) := by unfold M.failR; rw [hv]; rfl
    rw [this]
    exact hyes ht
  have hv : decide (M.volumes l ≥ s.vol) = true := not_false' hv
  have hvv : s.vol ≤ vols l := by have := of_decide_eq_true hv; rw [vols_eq h] at this; exact this
  have e1 : M.failR l s = cond ((M.pNear l s).pt.getD l.length 0 == 0) (M.zeroW, 12) (M.wtsOf (M.pNear l s) l.length, 0) := by unfold M.failR; rw [hv]; rfl
  rw [e1]
  have hne : M.nearErr l s = 0 := by rw [near_err ht, decide_eq_true (show vols l ≥ s.vol from hvv)]; rfl
  obtain ⟨h1, h4, hco, htd, _⟩ := near_okay l s hne
  have hx := near_some h hvv
  obtain ⟨t1, t2, t3⟩ := hx.tb
  have hpl := hx.pl
  have hnn : Int.toNat (l.length : Int) = l.length := Int.toNat_natCast _
  obtain ⟨y, hy⟩ := near_ex h hvv
  refine ⟨Enc.is_F _ _ _, h1, h4, Enc.is_F _ _ _, Enc.is_F _ _ _, Enc.is_F _ _ _, by rw [shares_len]; omega, by rw [shares_len]; omega, by rw [shares_len, far_len], by rw [limits_len]; omega, hco, htd, wp_br (fun hs => by rw [hy] at hs; cases hs) (fun _ => ?_)⟩
  refine ⟨by omega, by omega, wp_br (fun hz => ?_) (fun hz => ?_)⟩
  · rw [hnn] at hz
    rw [hz]
    exact ⟨⟨rfl, rfl, rfl, rfl, rfl, rfl, rfl, rfl, rfl, rfl, z0, trivial⟩, rfl, trivial⟩
  · rw [hnn] at hz
    rw [hz]
    simp only [hnn]
    refine ⟨Enc.is_F _ _ _, Enc.is_F _ _ _, by omega, by omega, t1, t2, t3, ?_⟩
    exact ⟨⟨rfl, rfl, rfl, rfl, rfl, rfl, rfl, rfl, rfl, rfl, D.eqv_refl _, trivial⟩, rfl, trivial⟩
end Go.Bl
end

section
set_option linter.unusedVariables false
set_option linter.unusedSimpArgs false
set_option maxRecDepth 100000
namespace Go.Bl
open Go.V Go.Proofs Go.Lp
theorem ones_1 : (D.sl true 1 1 (fun i j => List.getD [D.int IntKind.i64 1] (i * 1 + j) .nilp)).eqv (dL (List.replicate 1 1)) := by
  refine ⟨(fun e => by cases e), rfl, fun _ => rfl, fun i j hi hj => ?_⟩
  obtain rfl : j = 0 := Nat.lt_one_iff.1 hj
  match i, hi with
  | 0, _ => exact D.eqv_refl _
theorem yes_1 {l : List Cask} (h : l.length = 1) : (T.ret [.agg [dI 1, dI 1, dI 0, dI 0, dI 0, dI 0, dI 0, dI 0, dI 0, dI 0, .sl true 1 1 (fun i j => List.getD [D.int IntKind.i64 1] (i * 1 + j) .nilp)], .c (dI 0)] : T (List Ar)).wp (fun rs => rsEqv rs (resF (M.failW l.length, 0))) := by
  rw [h]
  exact ⟨⟨rfl, rfl, rfl, rfl, rfl, rfl, rfl, rfl, rfl, rfl, ones_1, trivial⟩, rfl, trivial⟩
theorem ones_2 : (D.sl true 2 1 (fun i j => List.getD [D.int IntKind.i64 1, D.int IntKind.i64 1] (i * 1 + j) .nilp)).eqv (dL (List.replicate 2 1)) := by
  refine ⟨(fun e => by cases e), rfl, fun _ => rfl, fun i j hi hj => ?_⟩
  obtain rfl : j = 0 := Nat.lt_one_iff.1 hj
  match i, hi with
  | 0, _ => exact D.eqv_refl _
  | 1, _ => exact D.eqv_refl _
theorem yes_2 {l : List Cask} (h : l.length = 2) : (T.ret [.agg [dI 1, dI 1, dI 0, dI 0, dI 0, dI 0, dI 0, dI 0, dI 0, dI 0, .sl true 2 1 (fun i j => List.getD [D.int IntKind.i64 1, D.int IntKind.i64 1] (i * 1 + j) .nilp)], .c (dI 0)] : T (List Ar)).wp (fun rs => rsEqv rs (resF (M.failW l.length, 0))) := by
  rw [h]
  exact ⟨⟨rfl, rfl, rfl, rfl, rfl, rfl, rfl, rfl, rfl, rfl, ones_2, trivial⟩, rfl, trivial⟩
theorem ones_3 : (D.sl true 3 1 (fun i j => List.getD [D.int IntKind.i64 1, D.int IntKind.i64 1, D.int IntKind.i64 1] (i * 1 + j) .nilp)).eqv (dL (List.replicate 3 1)) := by
  refine ⟨(fun e => by cases e), rfl, fun _ => rfl, fun i j hi hj => ?_⟩
  obtain rfl : j = 0 := Nat.lt_one_iff.1 hj
  match i, hi with
  | 0, _ => exact D.eqv_refl _
  | 1, _ => exact D.eqv_refl _
  | 2, _ => exact D.eqv_refl _
theorem yes_3 {l : List Cask} (h : l.length = 3) : (T.ret [.agg [dI 1, dI 1, dI 0, dI 0, dI 0, dI 0, dI 0, dI 0, dI 0, dI 0, .sl true 3 1 (fun i j => List.getD [D.int IntKind.i64 1, D.int IntKind.i64 1, D.int IntKind.i64 1] (i * 1 + j) .nilp)], .c (dI 0)] : T (List Ar)).wp (fun rs => rsEqv rs (resF (M.failW l.length, 0))) := by
  rw [h]
  exact ⟨⟨rfl, rfl, rfl, rfl, rfl, rfl, rfl, rfl, rfl, rfl, ones_3, trivial⟩, rfl, trivial⟩
theorem ones_4 : (D.sl true 4 1 (fun i j => List.getD [D.int IntKind.i64 1, D.int IntKind.i64 1, D.int IntKind.i64 1, D.int IntKind.i64 1] (i * 1 + j) .nilp)).eqv (dL (List.replicate 4 1)) := by
  refine ⟨(fun e => by cases e), rfl, fun _ => rfl, fun i j hi hj => ?_⟩
  obtain rfl : j = 0 := Nat.lt_one_iff.1 hj
  match i, hi with
  | 0, _ => exact D.eqv_refl _
  | 1, _ => exact D.eqv_refl _
  | 2, _ => exact D.eqv_refl _
  | 3, _ => exact D.eqv_refl _
theorem yes_4 {l : List Cask} (h : l.length = 4) : (T.ret [.agg [dI 1, dI 1, dI 0, dI 0, dI 0, dI 0, dI 0, dI 0, dI 0, dI 0, .sl true 4 1 (fun i j => List.getD [D.int IntKind.i64 1, D.int IntKind.i64 1, D.int IntKind.i64 1, D.int IntKind.i64 1] (i * 1 + j) .nilp)], .c (dI 0)] : T (List Ar)).wp (fun rs => rsEqv rs (resF (M.failW l.length, 0))) := by
  rw [h]
  exact ⟨⟨rfl, rfl, rfl, rfl, rfl, rfl, rfl, rfl, rfl, rfl, ones_4, trivial⟩, rfl, trivial⟩
def dom59 : DomF
  | [.c (.sl _ n_l st_l F_l), .agg [.int .i64 sv, .int .i64 l0, .int .i64 h0, .int .i64 l1, .int .i64 h1, .int .i64 l2, .int .i64 h2, .int .i64 l3, .int .i64 h3]] => (match Nat.beq st_l 7 with
    | true => some ([eC.Is n_l F_l, ∀ c, c ∈ (eC.list n_l F_l) → c.nm.size ≤ 1000000, (eC.list n_l F_l).length ≤ 1000000], resF (M.failure (eC.list n_l F_l) (⟨sv, ⟨l0, h0⟩, ⟨l1, h1⟩, ⟨l2, h2⟩, ⟨l3, h3⟩⟩ : Sample)))
    | _ => none)
  | _ => none
def v59 : Nat × Sm := (59, fokSm dom59)
theorem C59 : FOK Try.prog G0 gw 59 dom59 := by
  intro ags p r hd hp κ w xs hw hl hG hx
  unfold dom59 at hd
  split at hd
  · rename_i q_l n_l st_l F_l sv l0 h0 l1 h1 l2 h2 l3 h3
    split at hd
    · rename_i hst
      have g1 := hst
      have g1 := Nat.eq_of_beq_eq_true g1
      subst g1
      simp only [Option.some.injEq, Prod.mk.injEq] at hd
      obtain ⟨rfl, rfl⟩ := hd
      obtain ⟨hI_l, hp⟩ := hp
      have heq : agsEqv [.c (.sl q_l n_l 7 F_l), .agg [.int .i64 sv, .int .i64 l0, .int .i64 h0, .int .i64 l1, .int .i64 h1, .int .i64 l2, .int .i64 h2, .int .i64 l3, .int .i64 h3]] [.c (.sl q_l (eC.list n_l F_l).length 7 (eC.F (eC.list n_l F_l))), .agg [.int .i64 sv, .int .i64 l0, .int .i64 h0, .int .i64 l1, .int .i64 h1, .int .i64 l2, .int .i64 h2, .int .i64 l3, .int .i64 h3]] := ⟨eC.to id hI_l, Ag.eqv_refl _, trivial⟩
      have len_l : (eC.list n_l F_l).length = n_l := eC.list_len
      generalize eC.list n_l F_l = l at *
      subst len_l
      by_cases g1 : l.length = 1
      · have hw59 := w59 l (⟨sv, ⟨l0, h0⟩, ⟨l1, h1⟩, ⟨l2, h2⟩, ⟨l3, h3⟩⟩ : Sample) hp.1 hp.2.1 (fun _ => yes_1 g1)
        rw [g1] at hw59 heq hx
        exact fokX_fin mixed gw_stable (sl := [v65, v49, v64, v81, v82, v67, v69]) ⟨S65, S49, S64, S81, S82, S67, S69, trivial⟩ Try.func59 hw hl hG hx heq rfl (t59_1 q_l l sv l0 h0 l1 h1 l2 h2 l3 h3) hw59
      by_cases g2 : l.length = 2
      · have hw59 := w59 l (⟨sv, ⟨l0, h0⟩, ⟨l1, h1⟩, ⟨l2, h2⟩, ⟨l3, h3⟩⟩ : Sample) hp.1 hp.2.1 (fun _ => yes_2 g2)
        rw [g2] at hw59 heq hx
        exact fokX_fin mixed gw_stable (sl := [v65, v49, v64, v81, v82, v67, v69]) ⟨S65, S49, S64, S81, S82, S67, S69, trivial⟩ Try.func59 hw hl hG hx heq rfl (t59_2 q_l l sv l0 h0 l1 h1 l2 h2 l3 h3) hw59
      by_cases g3 : l.length = 3
      · have hw59 := w59 l (⟨sv, ⟨l0, h0⟩, ⟨l1, h1⟩, ⟨l2, h2⟩, ⟨l3, h3⟩⟩ : Sample) hp.1 hp.2.1 (fun _ => yes_3 g3)
        rw [g3] at hw59 heq hx
        exact fokX_fin mixed gw_stable (sl := [v65, v49, v64, v81, v82, v67, v69]) ⟨S65, S49, S64, S81, S82, S67, S69, trivial⟩ Try.func59 hw hl hG hx heq rfl (t59_3 q_l l sv l0 h0 l1 h1 l2 h2 l3 h3) hw59
      by_cases g4 : l.length = 4
      · have hw59 := w59 l (⟨sv, ⟨l0, h0⟩, ⟨l1, h1⟩, ⟨l2, h2⟩, ⟨l3, h3⟩⟩ : Sample) hp.1 hp.2.1 (fun _ => yes_4 g4)
        rw [g4] at hw59 heq hx
        exact fokX_fin mixed gw_stable (sl := [v65, v49, v64, v81, v82, v67, v69]) ⟨S65, S49, S64, S81, S82, S67, S69, trivial⟩ Try.func59 hw hl hG hx heq rfl (t59_4 q_l l sv l0 h0 l1 h1 l2 h2 l3 h3) hw59
      exact fokX_fin mixed gw_stable (sl := [v65, v49, v64, v81, v82, v67, v69]) ⟨S65, S49, S64, S81, S82, S67, S69, trivial⟩ Try.func59 hw hl hG hx heq rfl (t59 q_l l sv l0 h0 l1 h1 l2 h2 l3 h3) (w59 l (⟨sv, ⟨l0, h0⟩, ⟨l1, h1⟩, ⟨l2, h2⟩, ⟨l3, h3⟩⟩ : Sample) hp.1 hp.2.1 (fun ht => by have h := task_right ht; have := h.n1; have := h.n4; omega))
    · cases hd
  · cases hd
theorem S59 : SumOK Try.prog G0 gw 59 (fokSm dom59) := fok_sum Try.func59 rfl C59
end Go.Bl
end

section
set_option linter.unusedVariables false
set_option linter.unusedSimpArgs false
set_option maxRecDepth 100000
namespace Go.Bl
open Go.V Go.Proofs Go.Lp
structure Rev (l k : List Cask) : Prop where
  len : k.length = l.length
  at_ : ∀ i, i < l.length → k.getD i dfC = l.getD (l.length - 1 - i) dfC
theorem Rev.symm {l k : List Cask} (h : Rev l k) : Rev k l := by
  refine ⟨h.len.symm, fun i hi => ?_⟩
  have := h.at_ (k.length - 1 - i) (by rw [h.len] at hi ⊢; omega)
  rw [this]
  congr 1
  rw [h.len] at hi ⊢
  omega
section
variable {l k : List Cask} {s : Sample}
end
end Go.Bl
end

section
set_option linter.unusedVariables false
set_option linter.unusedSimpArgs false
set_option maxRecDepth 100000
namespace Go.Bl
open Go.V Go.Proofs
end Go.Bl
end

section
set_option linter.unusedVariables false
set_option linter.unusedSimpArgs false
set_option maxRecDepth 100000
namespace Go.Bl
open Go.V Go.Proofs
namespace M
def has (ps : List Int) (k : Int) : Bool := ps.any fun n => n == k
def wholeP (l : List Cask) (ps : List Int) : List Int := (List.range l.length).map fun (i : Nat) => if has ps i then (l.getD i dfC).vol else 0
end M
end Go.Bl
end

section
set_option linter.unusedVariables false
set_option linter.unusedSimpArgs false
set_option maxRecDepth 100000
namespace Go.Bl
open Go.V Go.Proofs
theorem whole_len (l : List Cask) (q : List Int) : (M.wholeP l q).length = l.length := by simp [M.wholeP]
theorem whole_get {l : List Cask} {q : List Int} {i : Nat} (h : i < l.length) : (M.wholeP l q).getD i 0 = if M.has q i then (l.getD i dfC).vol else 0 := map_getD h
end Go.Bl
end

section
set_option linter.unusedVariables false
set_option linter.unusedSimpArgs false
set_option maxRecDepth 100000
namespace Go.Bl
open Go.V Go.Proofs Go.Lp
theorem fold_small {f : Int → Nat → Int} {y : Nat → Int} {n : Nat} (hf : ∀ a i, i < n → f a i = IntKind.i64.wrap (a + y i)) (hy : ∀ i, i < n → (y i).natAbs ≤ 10000000) (hn : n ≤ 10) :
    (List.range n).foldl f 0 = dot y n ∧ (dot y n).natAbs ≤ n * 10000000 := by
  have key : ∀ k, k ≤ n → (List.range k).foldl f 0 = dot y k ∧ (dot y k).natAbs ≤ k * 10000000 := by
    intro k
    induction k with
    | zero => intro _; exact ⟨rfl, by show (0 : Int).natAbs ≤ _; simp⟩
    | succ k ih =>
      intro hk
      obtain ⟨h1, h2⟩ := ih (by omega)
      have hb := hy k (by omega)
      have e : dot y (k + 1) = dot y k + y k := rfl
      have hb' : (dot y (k + 1)).natAbs ≤ (k + 1) * 10000000 := by rw [e]; omega
      refine ⟨?_, hb'⟩
      rw [foldl_succ, h1, hf _ _ (by omega), ← e]
      exact wrap_id (by omega) (by omega)
  exact key n (Nat.le_refl n)
structure RightT (l : List Cask) : Prop where
  n1 : 1 ≤ l.length
  n10 : l.length ≤ 10
  rc : ∀ i, i < l.length → RightC (l.getD i dfC)
section
variable {l : List Cask} {ps : List Int} {s : Sample}
theorem whole_b (h : RightT l) {i : Nat} (hi : i < l.length) : 0 ≤ (M.wholeP l ps).getD i 0 ∧ (M.wholeP l ps).getD i 0 ≤ 10000 := by
  rw [whole_get hi]
  have := (h.rc i hi).vol
  split <;> omega
theorem mul_tiny {p w : Int} (hp : 0 ≤ p ∧ p ≤ 10000) (hw : w.natAbs ≤ 1000) : (p * w).natAbs ≤ 10000000 := by
  rw [Int.natAbs_mul]
  exact Nat.mul_le_mul (show p.natAbs ≤ 10000 by omega) hw
theorem sumW (h : RightT l) {of : Cask → Int} (hof : ∀ i, i < l.length → (of (l.getD i dfC)).natAbs ≤ 1000) :
    M.sumP of l (M.wholeP l ps) = dot (fun i => (M.wholeP l ps).getD i 0 * of (l.getD i dfC)) l.length ∧ (M.sumP of l (M.wholeP l ps)).natAbs ≤ 100000000 := by
  have hf := fold_small (f := fun a i => IntKind.i64.wrap (a + IntKind.i64.wrap ((M.wholeP l ps).getD i 0 * of (l.getD i dfC)))) (y := fun i => (M.wholeP l ps).getD i 0 * of (l.getD i dfC)) (n := l.length)
    (fun a i _ => wrap_add_wrap _ _) (fun i hi => mul_tiny (whole_b h hi) (hof i hi)) h.n10
  have e : M.sumP of l (M.wholeP l ps) = (List.range l.length).foldl (fun a i => IntKind.i64.wrap (a + IntKind.i64.wrap ((M.wholeP l ps).getD i 0 * of (l.getD i dfC)))) 0 := by unfold M.sumP; rw [whole_len]
  have := h.n10
  rw [e, hf.1]
  exact ⟨rfl, by omega⟩
theorem valW (h : RightT l) {of : Cask → Int} {c : Int} (hof : ∀ i, i < l.length → 0 ≤ of (l.getD i dfC) ∧ of (l.getD i dfC) ≤ 1000) (hc : 0 ≤ c ∧ c ≤ 1000) :
    M.valL l (M.wholeP l ps) of c = dot (fun i => (M.wholeP l ps).getD i 0 * (of (l.getD i dfC) - c)) l.length ∧ (M.valL l (M.wholeP l ps) of c).natAbs ≤ 100000000 := by
  have hf := fold_small (f := fun a i => IntKind.i64.wrap (a + IntKind.i64.wrap ((M.wholeP l ps).getD i 0 * IntKind.i64.wrap (of (l.getD i dfC) - c)))) (y := fun i => (M.wholeP l ps).getD i 0 * (of (l.getD i dfC) - c)) (n := l.length)
    (fun a i hi => by have := hof i hi; rw [wrap_add_wrap, wrap_id (n := of (l.getD i dfC) - c) (by omega) (by omega)]) (fun i hi => mul_tiny (whole_b h hi) (by have := hof i hi; omega)) h.n10
  have e : M.valL l (M.wholeP l ps) of c = (List.range l.length).foldl (fun a i => IntKind.i64.wrap (a + IntKind.i64.wrap ((M.wholeP l ps).getD i 0 * IntKind.i64.wrap (of (l.getD i dfC) - c)))) 0 := rfl
  have := h.n10
  rw [e, hf.1]
  exact ⟨rfl, by omega⟩
theorem dot_nn {y : Nat → Int} : ∀ {n : Nat}, (∀ i, i < n → 0 ≤ y i) → 0 ≤ dot y n
  | 0, _ => Int.le_refl _
  | n + 1, h => by
    have h1 := dot_nn (n := n) fun i hi => h i (by omega)
    have h2 := h n (by omega)
    show 0 ≤ dot y n + y n
    omega
theorem val0W (h : RightT l) {of : Cask → Int} (hof : ∀ i, i < l.length → 0 ≤ of (l.getD i dfC) ∧ of (l.getD i dfC) ≤ 1000) : M.valL l (M.wholeP l ps) of 0 = M.sumP of l (M.wholeP l ps) ∧ 0 ≤ M.sumP of l (M.wholeP l ps) ∧ M.sumP of l (M.wholeP l ps) ≤ 100000000 := by
  have h1 := valW (ps := ps) h hof (c := 0) (by decide)
  have h2 := sumW (ps := ps) h (of := of) (fun i hi => by have := hof i hi; omega)
  have e : dot (fun i => (M.wholeP l ps).getD i 0 * (of (l.getD i dfC) - 0)) l.length = dot (fun i => (M.wholeP l ps).getD i 0 * of (l.getD i dfC)) l.length := dot_congr fun i _ => by rw [Int.sub_zero]
  have h0 := dot_nn (y := fun i => (M.wholeP l ps).getD i 0 * of (l.getD i dfC)) (n := l.length) fun i hi => Int.mul_nonneg (whole_b h hi).1 (hof i hi).1
  refine ⟨by rw [h1.1, e, h2.1], by rw [h2.1]; exact h0, by have := h2.2; omega⟩
theorem ediv_of {a V q : Int} (hV : 0 < V) (h1 : q * V ≤ a) (h2 : a < (q + 1) * V) : a / V = q := by
  have e := Int.mul_ediv_add_emod a V
  have r0 := Int.emod_nonneg a (show V ≠ 0 by omega)
  have r1 := Int.emod_lt_of_pos a hV
  rw [Int.mul_comm] at e
  rcases Int.lt_trichotomy (a / V) q with h | h | h
  · have := Int.mul_le_mul_of_nonneg_right (show a / V + 1 ≤ q by omega) (Int.le_of_lt hV)
    rw [Int.add_mul, Int.one_mul] at this; omega
  · exact h
  · have := Int.mul_le_mul_of_nonneg_right (show q + 1 ≤ a / V by omega) (Int.le_of_lt hV); omega
theorem ceil_up {n V : Int} (hV : 0 < V) : (n + V - 1) / V = -((-n) / V) := by
  obtain ⟨c1, c2⟩ := ceil_spec (n := n) hV
  rw [Int.sub_mul, Int.one_mul] at c1
  exact ediv_of hV (by omega) (by rw [Int.add_mul, Int.one_mul]; omega)
end
end Go.Bl
end

section
set_option linter.unusedVariables false
set_option linter.unusedSimpArgs false
set_option maxRecDepth 100000
namespace Go.Bl
open Go.V Go.Proofs
namespace M
structure Means where
  r0 : Rg
  r1 : Rg
  r2 : Rg
  r3 : Rg
  e : Int
end M
theorem kinds {l' : List Cask} (h : RightT l') {ps : List Int} (k : Int) (hk : k = 0 ∨ k = 1 ∨ k = 2 ∨ k = 3) : M.valL l' (M.wholeP l' ps) (M.kOf k) 0 = M.sumP (M.kOf k) l' (M.wholeP l' ps) ∧ 0 ≤ M.sumP (M.kOf k) l' (M.wholeP l' ps) ∧ M.sumP (M.kOf k) l' (M.wholeP l' ps) ≤ 100000000 := by
  refine val0W h fun i hi => ?_
  have := h.rc i hi
  rcases hk with rfl | rfl | rfl | rfl
  · exact this.k0
  · exact this.k1
  · exact this.k2
  · exact this.k3
theorem quo (n V : Int) (h0 : 0 ≤ n) (h1 : n ≤ 100000000) (hV : 0 < V) (hV1 : V ≤ 100000000) : IntKind.i64.wrap (n.tdiv V) = n / V ∧ IntKind.i64.wrap ((IntKind.i64.wrap (IntKind.i64.wrap (n + V) - 1)).tdiv V) = -((-n) / V) := by
  rw [wrap_id (n := n + V) (by omega) (by omega), wrap_id (n := n + V - 1) (by omega) (by omega), Int.tdiv_eq_ediv_of_nonneg h0, Int.tdiv_eq_ediv_of_nonneg (by omega), ← ceil_up hV]
  have a := Int.natAbs_ediv_le_natAbs n V
  have b := Int.natAbs_ediv_le_natAbs (n + V - 1) V
  exact ⟨wrap_id (by omega) (by omega), wrap_id (by omega) (by omega)⟩
end Go.Bl
end

section
set_option linter.unusedVariables false
set_option linter.unusedSimpArgs false
set_option maxRecDepth 100000
namespace Go.Bl
open Go.V Go.Proofs
theorem wp_true {α : Type} {t e : T α} {Q : α → Prop} : (T.br true t e).wp Q = t.wp Q := propext ⟨fun h => h.1 rfl, fun h => ⟨fun _ => h, fun e => by cases e⟩⟩
theorem wp_false {α : Type} {t e : T α} {Q : α → Prop} : (T.br false t e).wp Q = e.wp Q := propext ⟨fun h => h.2 rfl, fun h => ⟨(fun e => by cases e), fun _ => h⟩⟩
theorem wp_needE {α : Type} {p : Prop} {t : T α} {Q : α → Prop} : (T.need p t).wp Q = (p ∧ t.wp Q) := rfl
theorem ne_true {a : Int} (h : a ≠ 0) : (a != 0) = true := by simpa using h
theorem ne_false : ((0 : Int) != 0) = false := rfl
end Go.Bl
end

section
set_option linter.unusedVariables false
set_option linter.unusedSimpArgs false
set_option maxRecDepth 100000
namespace Go.Bl
open Go.V Go.Proofs Go.Lp
def tr14 (l : List Cask) (s : Sample) : T (List Ar) :=
    T.br (!true) (T.ret [Ar.c (D.bool false)]) (T.need (Enc.Is eC (List.length l) (Enc.F eC l)) (T.br (!M.someN (4 : Nat) (Enc.list eC (List.length l) (Enc.F eC l))) (T.ret [Ar.c (D.bool true)]) (T.need (Enc.Is eC (List.length l) (Enc.F eC l)) (T.need (List.length (Enc.list eC (List.length l) (Enc.F eC l)) ≤ (1000000 : Nat)) (T.need (Enc.Is eC (List.length l) (Enc.F eC (Enc.list eC (List.length l) (Enc.F eC l)))) (T.need (∀ (c : Cask), c ∈ Enc.list eC (List.length l) (Enc.F eC (Enc.list eC (List.length l) (Enc.F eC l))) → ByteArray.size (Cask.nm c) ≤ (1000000 : Nat)) (T.need (List.length (Enc.list eC (List.length l) (Enc.F eC (Enc.list eC (List.length l) (Enc.F eC l)))) ≤ (1000000 : Nat)) (T.need (Enc.Is eC (List.length l) (Enc.F eC l)) (T.need (List.length (Enc.list eC (List.length l) (Enc.F eC l)) ≤ (1000000 : Nat)) (T.need (Enc.Is eC (List.length l) (Enc.F eC (Enc.list eC (List.length l) (Enc.F eC l)))) (T.need (∀ (c : Cask), c ∈ Enc.list eC (List.length l) (Enc.F eC (Enc.list eC (List.length l) (Enc.F eC l))) → ByteArray.size (Cask.nm c) ≤ (1000000 : Nat)) (T.need (Enc.Is eC (List.length l) (Enc.F eC l)) (T.need (∀ (c : Cask), c ∈ Enc.list eC (List.length l) (Enc.F eC l) → ByteArray.size (Cask.nm c) ≤ (1000000 : Nat)) (T.br (M.taskErr (Enc.list eC (List.length l) (Enc.F eC l)) s != (0 : Int)) (T.br (Prod.snd (M.failure (Enc.list eC (List.length l) (Enc.F eC (Enc.list eC (List.length l) (Enc.F eC l)))) s) == M.taskErr (Enc.list eC (List.length l) (Enc.F eC l)) s) (T.br ((M.best (Enc.list eC (List.length l) (Enc.F eC (Enc.list eC (List.length l) (Enc.F eC l)))) s).6 == M.taskErr (Enc.list eC (List.length l) (Enc.F eC l)) s) (T.br ((Prod.fst (M.failure (Enc.list eC (List.length l) (Enc.F eC (Enc.list eC (List.length l) (Enc.F eC l)))) s)).1 == (0 : Int)) (T.br ((Prod.fst (M.failure (Enc.list eC (List.length l) (Enc.F eC (Enc.list eC (List.length l) (Enc.F eC l)))) s)).2 == (0 : Int)) (T.ret [Ar.c (D.bool ((Nat.cast (R := Int) (List.length (Prod.fst (M.failure (Enc.list eC (List.length l) (Enc.F eC (Enc.list eC (List.length l) (Enc.F eC l)))) s)).11)) == (0 : Int)))]) (T.ret [Ar.c (D.bool false)])) (T.ret [Ar.c (D.bool false)])) (T.ret [Ar.c (D.bool false)])) (T.ret [Ar.c (D.bool false)])) (T.br ((M.best (Enc.list eC (List.length l) (Enc.F eC (Enc.list eC (List.length l) (Enc.F eC l)))) s).6 == (0 : Int)) (T.br (Prod.snd (M.failure (Enc.list eC (List.length l) (Enc.F eC (Enc.list eC (List.length l) (Enc.F eC l)))) s) == (12 : Int)) (T.br ((Prod.fst (M.failure (Enc.list eC (List.length l) (Enc.F eC (Enc.list eC (List.length l) (Enc.F eC l)))) s)).1 == (0 : Int)) (T.br ((Prod.fst (M.failure (Enc.list eC (List.length l) (Enc.F eC (Enc.list eC (List.length l) (Enc.F eC l)))) s)).2 == (0 : Int)) (T.ret [Ar.c (D.bool ((Nat.cast (R := Int) (List.length (Prod.fst (M.failure (Enc.list eC (List.length l) (Enc.F eC (Enc.list eC (List.length l) (Enc.F eC l)))) s)).11)) == (0 : Int)))]) (T.ret [Ar.c (D.bool false)])) (T.ret [Ar.c (D.bool false)])) (T.ret [Ar.c (D.bool false)])) (T.br ((M.best (Enc.list eC (List.length l) (Enc.F eC (Enc.list eC (List.length l) (Enc.F eC l)))) s).6 == (12 : Int)) (T.br (Prod.snd (M.failure (Enc.list eC (List.length l) (Enc.F eC (Enc.list eC (List.length l) (Enc.F eC l)))) s) == (0 : Int)) (T.br ((Nat.cast (R := Int) (List.length (Prod.fst (M.failure (Enc.list eC (List.length l) (Enc.F eC (Enc.list eC (List.length l) (Enc.F eC l)))) s)).11)) == (Nat.cast (R := Int) (List.length l))) (T.need (Enc.Is eC (List.length l) (Enc.F eC l)) (T.need (Enc.Is eI (List.length (Prod.fst (M.failure (Enc.list eC (List.length l) (Enc.F eC (Enc.list eC (List.length l) (Enc.F eC l)))) s)).11) (Enc.F eI (Prod.fst (M.failure (Enc.list eC (List.length l) (Enc.F eC (Enc.list eC (List.length l) (Enc.F eC l)))) s)).11)) (T.need (∀ (c : Cask), c ∈ Enc.list eC (List.length l) (Enc.F eC l) → ByteArray.size (Cask.nm c) ≤ (1000000 : Nat)) (T.need (List.length (Enc.list eI (List.length (Prod.fst (M.failure (Enc.list eC (List.length l) (Enc.F eC (Enc.list eC (List.length l) (Enc.F eC l)))) s)).11) (Enc.F eI (Prod.fst (M.failure (Enc.list eC (List.length l) (Enc.F eC (Enc.list eC (List.length l) (Enc.F eC l)))) s)).11)) ≤ (1000000 : Nat)) (T.need (List.length (Enc.list eC (List.length l) (Enc.F eC l)) ≤ (1000000 : Nat)) (T.ret [Ar.c (D.bool (M.fails (Enc.list eC (List.length l) (Enc.F eC l)) s { den := (Prod.fst (M.failure (Enc.list eC (List.length l) (Enc.F eC (Enc.list eC (List.length l) (Enc.F eC l)))) s)).1, each := (Prod.fst (M.failure (Enc.list eC (List.length l) (Enc.F eC (Enc.list eC (List.length l) (Enc.F eC l)))) s)).2, x0 := (Prod.fst (M.failure (Enc.list eC (List.length l) (Enc.F eC (Enc.list eC (List.length l) (Enc.F eC l)))) s)).3, x1 := (Prod.fst (M.failure (Enc.list eC (List.length l) (Enc.F eC (Enc.list eC (List.length l) (Enc.F eC l)))) s)).4, x2 := (Prod.fst (M.failure (Enc.list eC (List.length l) (Enc.F eC (Enc.list eC (List.length l) (Enc.F eC l)))) s)).5, x3 := (Prod.fst (M.failure (Enc.list eC (List.length l) (Enc.F eC (Enc.list eC (List.length l) (Enc.F eC l)))) s)).6, y0 := (Prod.fst (M.failure (Enc.list eC (List.length l) (Enc.F eC (Enc.list eC (List.length l) (Enc.F eC l)))) s)).7, y1 := (Prod.fst (M.failure (Enc.list eC (List.length l) (Enc.F eC (Enc.list eC (List.length l) (Enc.F eC l)))) s)).8, y2 := (Prod.fst (M.failure (Enc.list eC (List.length l) (Enc.F eC (Enc.list eC (List.length l) (Enc.F eC l)))) s)).9, y3 := (Prod.fst (M.failure (Enc.list eC (List.length l) (Enc.F eC (Enc.list eC (List.length l) (Enc.F eC l)))) s)).10, casks := Enc.list eI (List.length (Prod.fst (M.failure (Enc.list eC (List.length l) (Enc.F eC (Enc.list eC (List.length l) (Enc.F eC l)))) s)).11) (Enc.F eI (Prod.fst (M.failure (Enc.list eC (List.length l) (Enc.F eC (Enc.list eC (List.length l) (Enc.F eC l)))) s)).11) } == (0 : Int)))])))))) (T.ret [Ar.c (D.bool false)])) (T.ret [Ar.c (D.bool false)])) (T.ret [Ar.c (D.bool false)])))))))))))))))))
theorem t14 (q_l : Bool) (l : List Cask) (sv l0 h0 l1 h1 l2 h2 l3 h3 : Int) : runFnX Try.prog G0 (lookS [v18, v19, v21, v59, v20f, v22, v58]) (fun _ => []) [] 1 20 3 14 Try.f14 [.c (.sl q_l l.length 7 (eC.F l)), .agg [dI sv, dI l0, dI h0, dI l1, dI h1, dI l2, dI h2, dI l3, dI h3]] =
    tr14 l (⟨sv, ⟨l0, h0⟩, ⟨l1, h1⟩, ⟨l2, h2⟩, ⟨l3, h3⟩⟩ : Sample) := by kernel_rfl
theorem w14 (l : List Cask) (s : Sample) : (tr14 l s).wp (fun rs => rsEqv rs [rB true]) := by
  unfold tr14
  simp only [Enc.list_F]
  refine wp_br (fun hb => absurd hb (by decide)) (fun _ => ⟨Enc.is_F _ _ _, wp_br (fun _ => rsEqv_refl _) (fun hb => ?_)⟩)
  have hs : M.someN 4 l = true := by simpa using hb
  obtain ⟨hl, hn⟩ := someN_small hs
  have hn' : ∀ c, c ∈ l → c.nm.size ≤ 1000000 := fun c hc => Nat.le_trans (hn c hc) (by decide)
  have hl' : l.length ≤ 1000000 := by omega
  by_cases ht : M.taskErr l s = 0
  · rcases one_of_two ht with ⟨e1, e2⟩ | ⟨e1, e2, e3, e4⟩
    · simp only [e1, e2, ht, M.zeroW, ne_false, beq_self_eq_true, bne_self_eq_false, Bool.and_self, Bool.and_true, Bool.not_true, wp_needE, wp_true, wp_false, List.length_nil]
      repeat' first | exact Enc.is_F _ _ _ | assumption | exact rsEqv_refl _ | exact fun _ => rsEqv_refl _ | exact fun e => absurd e (by decide) | constructor
    · generalize M.failure l s = F at *
      obtain ⟨⟨a0, a1, a2, a3, a4, a5, a6, a7, a8, a9, cs⟩, e⟩ := F
      simp only at e2 e3 e4
      subst e2
      have h12 : ((12 : Int) == 0) = false := rfl
      have hcs : cs.length ≤ 1000000 := by omega
      simp only [e1, ht, e3, e4, h12, ne_false, beq_self_eq_true, bne_self_eq_false, Bool.and_self, Bool.and_true, Bool.not_true, wp_needE, wp_true, wp_false]
      repeat' first | exact Enc.is_F _ _ _ | assumption | exact rsEqv_refl _ | exact fun _ => rsEqv_refl _ | exact fun e => absurd e (by decide) | constructor
  · have ef : M.failure l s = (M.zeroW, M.taskErr l s) := by unfold M.failure; rw [ne_true ht]; rfl
    have eb : M.best l s = ⟨0, 0, 0, [], M.zeroW, M.taskErr l s⟩ := by unfold M.best; rw [ne_true ht]; rfl
    simp only [ef, eb, M.zeroW, ne_true ht, beq_self_eq_true, Bool.and_self, Bool.and_true, wp_needE, wp_true, wp_false, List.length_nil]
    repeat' first | exact Enc.is_F _ _ _ | assumption | exact rsEqv_refl _ | exact fun _ => rsEqv_refl _ | exact fun e => absurd e (by decide) | constructor
def dom14 : DomF
  | [.c (.sl _ n_l st_l F_l), .agg [.int .i64 sv, .int .i64 l0, .int .i64 h0, .int .i64 l1, .int .i64 h1, .int .i64 l2, .int .i64 h2, .int .i64 l3, .int .i64 h3]] => (match Nat.beq st_l 7 with
    | true => some ([eC.Is n_l F_l], [rB true])
    | _ => none)
  | _ => none
theorem C14 : FOK Try.prog G0 gw 14 dom14 := by
  intro ags p r hd hp κ w xs hw hl hG hx
  unfold dom14 at hd
  split at hd
  · rename_i q_l n_l st_l F_l sv l0 h0 l1 h1 l2 h2 l3 h3
    split at hd
    · rename_i hst
      have g1 := hst
      have g1 := Nat.eq_of_beq_eq_true g1
      subst g1
      simp only [Option.some.injEq, Prod.mk.injEq] at hd
      obtain ⟨rfl, rfl⟩ := hd
      obtain ⟨hI_l, hp⟩ := hp
      have heq : agsEqv [.c (.sl q_l n_l 7 F_l), .agg [.int .i64 sv, .int .i64 l0, .int .i64 h0, .int .i64 l1, .int .i64 h1, .int .i64 l2, .int .i64 h2, .int .i64 l3, .int .i64 h3]] [.c (.sl q_l (eC.list n_l F_l).length 7 (eC.F (eC.list n_l F_l))), .agg [.int .i64 sv, .int .i64 l0, .int .i64 h0, .int .i64 l1, .int .i64 h1, .int .i64 l2, .int .i64 h2, .int .i64 l3, .int .i64 h3]] := ⟨eC.to id hI_l, Ag.eqv_refl _, trivial⟩
      have len_l : (eC.list n_l F_l).length = n_l := eC.list_len
      generalize eC.list n_l F_l = l at *
      subst len_l
      exact fokX_fin mixed gw_stable (sl := [v18, v19, v21, v59, v20f, v22, v58]) ⟨S18, S19, S21, S59, S20f, S22, S58, trivial⟩ Try.func14 hw hl hG hx heq rfl (t14 q_l l sv l0 h0 l1 h1 l2 h2 l3 h3) (w14 l _)
    · cases hd
  · cases hd
end Go.Bl
end

section
set_option linter.unusedVariables false
set_option linter.unusedSimpArgs false
namespace Go.Rw
open Go Go.ChangeShapes Go.WideShapes Go.RowKit Go.ChangeAt
open Go.V (F2 D fullK fullK_cell f2_append f2_len f2_get)
section
variable {H : Type} {enc : TypeId × Value → H} {P : Program} {w : World} {base : Nat} {sp : Nat → Bool} {hd : Bool}
theorem trodAll_below (hl : laidOutB P = true) {W W' : World} (hb : Below W.heap.size W W') : ∀ {ts : List TypeId} {vs : List Value} {ds : List (DataW H)} {ps : List MemPlace},
    (∀ t ∈ ts, P.readableRec t = true ∧ t < P.types.size) → DataW.TrodAll enc P W 0 (fun _ => true) true ts vs ds ps → (∀ x ∈ ps, x.block < W.heap.size) →
    DataW.TrodAll enc P W' 0 (fun b => decide (b < W.heap.size)) true ts vs ds ps
  | [], _, _, _, _, h, _ => by
    obtain ⟨rfl, rfl, rfl⟩ := trodAll_nil h
    exact trodAll_mk0
  | t :: ts, _, _, _, hr, h, hlt => by
    obtain ⟨v, vs1, d, ds1, a, b, rfl, rfl, rfl, h1, h2⟩ := trodAll_cons h
    refine ⟨a, b, ?_, trodAll_below hl hb (fun u hu => hr u (List.mem_cons_of_mem _ hu)) h2 fun x hx => hlt x (List.mem_append_right _ hx), rfl⟩
    have ht := hr t (List.mem_cons_self ..)
    exact Below.trod hl ht.1 ht.2 h1 hb fun x hx => hlt x (List.mem_append_left _ hx)
theorem law_post {fn : Func} {s : ChangeSpec} {apart fresh handsOn : Bool} {W W' : World} {args : Array Value} {ds gs : List (DataW H)} {before : List MemPlace} {tb : TypeId} (hl : laidOutB P = true)
    (hr : ∀ t ∈ fn.params.toList, P.readableRec t = true ∧ t < P.types.size) (hv : s.vars = []) (hrt : fn.resultTypes = #[tb]) (hbool : P.underlying tb = some .bool)
    (hfn : s.fn H ds = { results := [.lit (.bool true)], args := ds })
    (hW : DataW.Whole enc P fn.params.toList s.vars apart W args.toList ds gs before) (hb : Below W.heap.size W W') : s.post enc P fn apart fresh handsOn false W args (.bool true) W' := by
  have hW' := hW
  obtain ⟨p, q, hA, hV, rfl, _, _⟩ := hW'
  have hlt : ∀ x ∈ p ++ q, x.block < W.heap.size := fun x hx => hW.lt x hx
  rw [hv] at hV
  have hgs : gs = [] ∧ q = [] := by
    cases gs with
    | nil => exact ⟨rfl, hV⟩
    | cons g r => exact absurd hV (by intro h; cases h)
  obtain ⟨rfl, rfl⟩ := hgs
  have e : s.fn H (ds ++ []) = { results := [.lit (.bool true)], args := ds } := by rw [List.append_nil]; exact hfn
  refine ⟨ds, [], _, [], p, [], hW, ?_, ?_, ?_, hb.frame _, fun h => by cases h⟩
  · rw [e, hrt]
    exact trodAll_mk1 (shut_bool hbool true)
  · rw [e]
    exact trodAll_below hl hb hr hA fun x hx => hlt x (List.mem_append_left _ hx)
  · rw [e, hv]
    rfl
end
end Go.Rw
end

section
set_option linter.unusedVariables false
set_option linter.unusedSimpArgs false
namespace Go.Rw
open Go Go.ChangeShapes Go.WideShapes Go.RowKit Go.ChangeAt
open Go.V (F2 D fullK fullK_cell f2_append f2_len f2_get)
inductive SK where
  | i
  | s
  | sl (sh : List SK)
inductive DG : SK → D → Prop where
  | i (n : Int) : DG .i (.int .i64 n)
  | s (t : ByteArray) : DG .s (.str t)
  | sl (sh : List SK) (len : Nat) (F : Nat → Nat → D) (h : ∀ i j k, i < len → sh[j]? = some k → DG k (F i j)) : DG (.sl sh) (.sl false len sh.length F)
def MG (w : World) (k : SK) (v : Value) : Prop := ∃ d, DG k d ∧ D.rel (fullK w) d v
def sgFs (P : Program) (g : TypeId → Option (List SK)) : List Field → Nat → Nat → Option (List SK)
  | [], o, c => (match Nat.beq o c with | true => some [] | false => none)
  | f :: fs, o, c => (match Nat.beq f.offset o, g f.type, sgFs P g fs (o + P.cellsOf f.type) c with
    | true, some a, some b => some (a ++ b)
    | _, _, _ => none)
def sgArr (l : List SK) : Nat → List SK
  | 0 => []
  | n + 1 => l ++ sgArr l n
def sg (P : Program) : Nat → TypeId → Option (List SK)
  | 0, _ => none
  | k + 1, t => match P.underlying t with
    | some (.int .i64) => some [.i]
    | some .string => some [.s]
    | some (.struct fs) => sgFs P (sg P k) fs.toList 0 (P.cellsOf t)
    | some (.array n e) => (match sg P k e, Nat.beq (P.cellsOf t) (n * P.cellsOf e) with | some l, true => some (sgArr l n) | _, _ => none)
    | some (.slice e) => (match sg P k e with | some sh => (match Nat.beq (P.cellsOf e) sh.length && Nat.blt 0 sh.length with | true => some [.sl sh] | false => none) | none => none)
    | _ => none
section
variable {H : Type} {enc : TypeId × Value → H} {P : Program} {w : World} {base : Nat} {sp : Nat → Bool} {hd : Bool}
theorem sgFs_spec {R : SK → Value → Prop} {g : TypeId → Option (List SK)} : ∀ (fs : List Field) (o c : Nat) (cs : List Value) {l : List SK}, sgFs P g fs o c = some l → cs.length = c →
    (∀ f ∈ fs, ∀ l', g f.type = some l' → F2 R l' ((cs.drop f.offset).take (P.cellsOf f.type))) → F2 R l (cs.drop o)
  | [], o, c, cs, l, h, hl, _ => by
    unfold sgFs at h
    split at h
    · rename_i hb
      have : o = c := Nat.eq_of_beq_eq_true hb
      simp only [Option.some.injEq] at h
      subst h
      rw [this, ← hl, List.drop_length]
      exact .nil
    · cases h
  | f :: fs, o, c, cs, l, h, hl, hf => by
    simp only [sgFs] at h
    split at h
    · rename_i a b hb ha hrest
      have ho : f.offset = o := Nat.eq_of_beq_eq_true hb
      simp only [Option.some.injEq] at h
      subst h
      have h1 := hf f (List.mem_cons_self ..) a ha
      have h2 := sgFs_spec fs _ c cs hrest hl fun g hg => hf g (List.mem_cons_of_mem _ hg)
      rw [ho] at h1
      have e : cs.drop o = (cs.drop o).take (P.cellsOf f.type) ++ (cs.drop o).drop (P.cellsOf f.type) := (List.take_append_drop _ _).symm
      rw [e, List.drop_drop]
      exact f2_append h1 h2
    · cases h
theorem sgArr_spec {R : SK → Value → Prop} {l : List SK} {c : Nat} : ∀ (n : Nat) (cs : List Value), cs.length = n * c → (∀ i, i < n → F2 R l ((cs.drop (i * c)).take c)) → F2 R (sgArr l n) cs
  | 0, cs, h, _ => by
    have : cs = [] := List.length_eq_zero_iff.1 (by simpa using h)
    subst this
    exact .nil
  | n + 1, cs, h, hf => by
    have h0 := hf 0 (by omega)
    rw [Nat.zero_mul, List.drop_zero] at h0
    have hr := sgArr_spec (c := c) n (cs.drop c) (by rw [List.length_drop, h, Nat.succ_mul]; omega) fun i hi => by
      have := hf (i + 1) (by omega)
      rw [List.drop_drop, show c + i * c = (i + 1) * c by rw [Nat.succ_mul]; omega]
      exact this
    rw [← List.take_append_drop c cs]
    exact f2_append h0 hr
theorem trod_sg : ∀ (k fuel : Nat) (t : TypeId) (cs : List Value) (x : DataW H × List MemPlace) {l : List SK}, sg P k t = some l → DataW.trod enc P w base sp hd fuel t cs = some x → F2 (MG w) l cs
  | 0, _, _, _, _, _, h, _ => by cases h
  | k + 1, fuel, t, cs, x, l, h, hx => by
    unfold sg at h
    split at h
    · rename_i ht
      simp only [Option.some.injEq] at h
      subst h
      obtain ⟨n, rfl, rfl, _⟩ := DataW.trod_int ht hx
      exact .cons ⟨.int .i64 n, .i n, rfl⟩ .nil
    · rename_i ht
      simp only [Option.some.injEq] at h
      subst h
      obtain ⟨s, rfl, rfl, _⟩ := DataW.trod_string ht hx
      exact .cons ⟨.str s, .s s, rfl⟩ .nil
    · rename_i fs ht
      obtain ⟨xs, n, _, rfl, hl, hlen, hf⟩ := DataW.trod_struct ht hx
      have := sgFs_spec (P := P) (R := MG w) fs.toList 0 (P.cellsOf t) cs h hl (by
        intro f hm l' hl'
        obtain ⟨i, hi, hi'⟩ := List.getElem_of_mem hm
        have hgi : fs[i]? = some f := by rw [← Array.getElem?_toList, List.getElem?_eq_getElem hi, hi']
        have hlt : i < xs.length := by rw [hlen]; exact (Array.getElem?_eq_some_iff.1 hgi).1
        have hy : xs[i]? = some xs[i] := List.getElem?_eq_getElem hlt
        have := hf i f hgi
        rw [hy] at this
        exact trod_sg k n f.type _ _ hl' this)
      simpa using this
    · rename_i n e ht
      split at h
      · rename_i l' hl' hcb
        simp only [Option.some.injEq] at h
        subst h
        obtain ⟨xs, m, _, ex, hlen, hl, hel⟩ := DataW.trod_array ht hx
        have hcz : P.cellsOf t = n * P.cellsOf e := Nat.eq_of_beq_eq_true hcb
        refine sgArr_spec (c := P.cellsOf e) n cs (by rw [← hcz]; exact hlen) fun i hi => ?_
        have hlt : i < xs.length := by omega
        have hy : xs[i]? = some xs[i] := List.getElem?_eq_getElem hlt
        have := hel i hi
        rw [hy] at this
        exact trod_sg k m e _ _ hl' this
      · cases h
    · rename_i e ht
      split at h
      · rename_i sh hsh
        split at h
        · rename_i hc
          simp only [Option.some.injEq] at h
          subst h
          rw [Bool.and_eq_true] at hc
          have hn : P.cellsOf e = sh.length := Nat.eq_of_beq_eq_true hc.1
          have hn0 : 0 < sh.length := Nat.le_of_ble_eq_true hc.2
          rcases DataW.trod_slice ht hx with ⟨h1, _⟩ | ⟨a, len0, cap0, elems, rest, n', _, h1, _, _, hlc, _, hel, hget, _⟩
          · rw [h1]
            exact .cons ⟨.sl false 0 sh.length (fun _ _ => .nilp), .sl sh 0 _ (fun i j k hi => by omega), .inl ⟨rfl, rfl, rfl⟩⟩ .nil
          · rw [h1]
            rw [hn] at hget
            have each : ∀ i, i < len0 → ∀ j, j < sh.length → ∃ d, (∀ k', sh[j]? = some k' → DG k' d) ∧ ∃ y, w.cell? ((a.add (i * sh.length)).add j) = some y ∧ D.rel (fullK w) d y := by
              intro i hi j hj
              have hg := hget i hi
              have hlt : i < elems.length := by omega
              rw [List.getElem?_eq_getElem hlt] at hg
              simp only [Option.bind_eq_some_iff] at hg
              obtain ⟨cs, hcs, hx⟩ := hg
              have hF := trod_sg k n' e cs _ hsh hx
              obtain ⟨_, hl, hcell⟩ := World.cells?_some hcs
              obtain ⟨y, hy, hm⟩ := f2_get hF (i := j) (List.getElem?_eq_getElem hj)
              obtain ⟨d, hd1, hd2⟩ := hm
              have hcj := hcell j hj
              exact ⟨d, fun k' hk' => by rw [List.getElem?_eq_getElem hj] at hk'; cases hk'; exact hd1, y, by rw [hcj, hy], hd2⟩
            have spot0 : 0 < len0 → a.spot = none := by
              intro hp
              obtain ⟨_, _, y, hy, _⟩ := each 0 hp 0 hn0
              have := World.cell?_spot hy
              simpa [Addr.add] using this
            refine .cons ⟨.sl false len0 sh.length (fun i j => if h : i < len0 ∧ j < sh.length then Classical.choose (each i h.1 j h.2) else .nilp), .sl sh len0 _ (fun i j k' hi hk' => ?_), .inr ⟨a, cap0, rfl, hlc, spot0, fun i j hi hj => ?_⟩⟩ .nil
            · have hj : j < sh.length := (List.getElem?_eq_some_iff.1 hk').1
              simp only [dif_pos (And.intro hi hj)]
              exact (Classical.choose_spec (each i hi j hj)).1 k' hk'
            · obtain ⟨_, y, hy, hr⟩ := Classical.choose_spec (each i hi j hj)
              have hp : a.spot = none := spot0 (by omega)
              have e1 : (a.add (i * sh.length)).add j = ⟨a.block, a.off + i * sh.length + j, none⟩ := by
                obtain ⟨b, off, spot⟩ := a
                simp only at hp
                subst hp
                rw [Go.WideShapes.add_plain, Go.WideShapes.add_plain]
              rw [e1] at hy
              refine ⟨_, fullK_cell hy, ?_⟩
              simp only [dif_pos (And.intro hi hj)]
              exact hr
        · cases h
      · cases h
    · cases h
theorem open_sl {r : Reach} {b0 : Nat} {t e : TypeId} {v : Value} {d : DataW H} {p : List MemPlace} (k : Nat) {sh : List SK} (ht : P.underlying t = some (.slice e)) (ha : sg P k t = some [.sl sh])
    (hv : Value.okWide P w r b0 t v) (h : DataW.Trod enc P w base sp hd t v d p) : MG w (.sl sh) v := by
  obtain ⟨a0, len0, cap0, rfl⟩ := okWide_slice ht hv
  obtain ⟨fuel, hf⟩ := h
  have hc : (Value.slice a0 len0 cap0).cells.toList = [Value.slice a0 len0 cap0] := rfl
  rw [hc] at hf
  have := trod_sg k fuel t _ _ ha hf
  cases this with
  | cons h _ => exact h
theorem open_st {r : Reach} {b0 : Nat} {t : TypeId} {fs : Array Field} {v : Value} {d : DataW H} {p : List MemPlace} (k : Nat) {l : List SK} (ht : P.underlying t = some (.struct fs)) (ha : sg P k t = some l)
    (hv : Value.okWide P w r b0 t v) (h : DataW.Trod enc P w base sp hd t v d p) : ∃ cs : List Value, F2 (MG w) l cs ∧ v = .agg cs.toArray := by
  obtain ⟨cs, rfl, hsz⟩ := okWide_struct ht hv
  obtain ⟨fuel, hf⟩ := h
  have hF : F2 (MG w) l cs.toList := trod_sg k fuel t _ _ ha hf
  exact ⟨cs.toList, hF, by rw [Array.toArray_toList]⟩
theorem mg_i {v : Value} (h : MG w .i v) : ∃ n, v = .int .i64 n := by
  obtain ⟨d, hd, hr⟩ := h
  cases hd with
  | i n => exact ⟨n, hr⟩
theorem mg_sl {sh : List SK} {v : Value} (h : MG w (.sl sh) v) : ∃ (len : Nat) (F : Nat → Nat → D), (D.sl false len sh.length F).rel (fullK w) v ∧ ∀ i j k, i < len → sh[j]? = some k → DG k (F i j) := by
  obtain ⟨d, hd, hr⟩ := h
  cases hd with
  | sl _ len F hF => exact ⟨len, F, hr, hF⟩
theorem dg_i {d : D} (h : DG .i d) : ∃ n, d = .int .i64 n := by cases h with | i n => exact ⟨n, rfl⟩
theorem dg_s {d : D} (h : DG .s d) : ∃ n, d = .str n := by cases h with | s n => exact ⟨n, rfl⟩
end
end Go.Rw
end
