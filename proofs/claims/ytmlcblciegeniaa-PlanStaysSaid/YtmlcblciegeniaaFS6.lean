/- The parts of the engines, of their contracts and of the plain laws that the claim rests on: A56, A57, R0, RG. -/
import Derived.Test.YtmlcblciegeniaaFS5
import Derived.ChangeSame
import Derived.ChangeVars
import Derived.ProofKit
import Derived.LaidMore
import Derived.OpenShut
import Derived.Carry
import Derived.ChangeArms
set_option linter.unusedVariables false
set_option linter.unusedSimpArgs false
section
set_option linter.unusedVariables false
set_option linter.unusedSimpArgs false
set_option maxRecDepth 100000
namespace Go.Pl
open Go.V Go.Proofs
theorem put_row {α : Type} (E : Enc α) {l : List α} {i : Nat} {b : α} {F' : Nat → Nat → D} (hi : i < l.length) (hF : ∀ k, k ≠ i → F' k = E.F l k) (hj : ∀ j, j < E.st → (F' i j).eqv (E.enc b j)) (hr : E.rd (F' i) = b) : E.Is l.length F' ∧ E.list l.length F' = l.set i b := by
  constructor
  · intro k j hk hj'
    by_cases h : k = i
    · subst h
      rw [hr]; exact hj j hj'
    · rw [hF k h]
      have : E.rd (E.F l k) = l.getD k E.dflt := E.law _
      rw [this]; exact D.eqv_refl _
  · apply List.ext_getElem
    · simp [Enc.list]
    · intro k h1 h2
      simp only [Enc.list, List.getElem_map, List.getElem_range, List.getElem_set]
      by_cases h : i = k
      · subst h
        rw [if_pos rfl]; exact hr
      · rw [if_neg h, hF k (fun e => h e.symm)]
        have : E.rd (E.F l k) = l.getD k E.dflt := E.law _
        rw [this]
        have hk : k < l.length := by simpa using h2
        simp [List.getD_eq_getElem?_getD, List.getElem?_eq_getElem hk]
theorem putF_ne {i j n : Nat} {ds : List D} {F : Nat → Nat → D} : ∀ k, k ≠ i → putF i j n ds F k = F k := by
  intro k h
  funext j'
  unfold putF
  have : Nat.beq k i = false := by
    cases hb : Nat.beq k i with
    | false => rfl
    | true => exact absurd (Nat.eq_of_beq_eq_true hb) h
  rw [this]; rfl
theorem after_one {sc : List Scale} {nw d : Int} {ag : List Rg} (hs : (M.checkSys sc nw).2 = 0) (ha : M.agesErr sc.length ag = 0) (hd : M.drawErr d = 0) (ho : M.over sc (M.flows sc d) < 0) : M.after sc nw ag [d] = (M.year sc nw ag (M.flows sc d), 0) := by
  have e1 : M.drawsErr [d] = 0 := by
    unfold M.drawsErr
    show (M.badFrom _ 1 0).2 = 0
    rw [bad_all 1 0 fun i _ hi => ?_]
    obtain rfl : i = 0 := by omega
    exact hd
  have e2 : M.years sc nw ag [d] = ([ag, M.year sc nw ag (M.flows sc d)], 0) := by
    unfold M.years M.years1 M.years0
    rw [hs, ha, e1]
    show M.yrows sc nw [d] 1 0 [ag] = _
    unfold M.yrows
    show cond (decide (M.over sc (M.flows sc d) ≥ 0)) _ _ = _
    rw [decide_eq_false (by omega)]; rfl
  unfold M.after
  rw [e2]; rfl
theorem over_none {sc : List Scale} {fl : List Rg} : ∀ (n k : Nat), M.overF sc fl n k < 0 → ∀ i, k ≤ i → i < k + n → (fl.getD i dfR).hi ≤ (sc.getD i dfS).vol := by
  intro n
  induction n with
  | zero => intro k _ i h1 h2; omega
  | succ n ih =>
    intro k h i h1 h2
    simp only [M.overF] at h
    cases hb : decide ((fl.getD k dfR).hi > (sc.getD k dfS).vol) with
    | true => rw [hb] at h; have h : (k : Int) < 0 := h; omega
    | false =>
      rw [hb] at h
      have hb := of_decide_eq_false hb
      rcases Nat.lt_or_ge k i with hl | hl
      · exact ih (k + 1) h i (by omega) (by omega)
      · obtain rfl : i = k := by omega
        omega
structure Stead (sc : List Scale) (nw d : Int) : Prop where
  sys : (M.checkSys sc nw).2 = 0
  draw : M.drawErr d = 0
  same : ∀ k, k < sc.length → ((M.flows sc d).getD k dfR).lo = ((M.flows sc d).getD k dfR).hi
  pos : ∀ k, k < sc.length → 0 < ((M.flows sc d).getD k dfR).lo
  over : M.over sc (M.flows sc d) < 0
theorem Stead.vol {sc : List Scale} {nw d : Int} (h : Stead sc nw d) {k : Nat} (hk : k < sc.length) : 0 < ((M.flows sc d).getD k dfR).lo ∧ ((M.flows sc d).getD k dfR).lo ≤ (sc.getD k dfS).vol ∧ (sc.getD k dfS).vol ≤ 20000 := by
  have h1 := over_none _ 0 h.over k (Nat.zero_le _) (by rw [flows_len]; omega)
  have h2 := (scale_right ((sys_right h.sys).2.2.2 k hk)).1
  have h3 := h.same k hk
  exact ⟨h.pos k hk, by omega, h2.2⟩
def agN (sc : List Scale) (nw d : Int) (k : Nat) : Int := if k < sc.length then (M.stRow sc nw d k).lo else nw
theorem stead_step {sc : List Scale} {nw d : Int} (h : Stead sc nw d) (hw : ∀ k, k < sc.length → (M.stRow sc nw d k).lo = (M.stRow sc nw d k).hi) {k : Nat} (hk : k < sc.length) :
    ((M.flows sc d).getD k dfR).lo * (agN sc nw d k - agN sc nw d (k + 1)) = 1000 * (sc.getD k dfS).vol := by
  have hg : ∀ j, j < sc.length → M.gl ((M.flows sc d).getD j dfR) = M.gh ((M.flows sc d).getD j dfR) := fun j hj => h.same j hj
  have ex : ∀ j, j < sc.length → (agN sc nw d j - nw) * (M.stN M.gh sc (M.flows sc d) (sc.length - j) j 0 1).2 = (M.stN M.gh sc (M.flows sc d) (sc.length - j) j 0 1).1 := by
    intro j hj
    have hD : 0 < (M.stN M.gh sc (M.flows sc d) (sc.length - j) j 0 1).2 := stN_pos _ _ fun i h1 h2 => by
      rw [← hg i (by omega)]; exact h.pos i (by omega)
    have e := hw j hj
    have e2 : (M.stRow sc nw d j).lo = nw + (M.stN M.gh sc (M.flows sc d) (sc.length - j) j 0 1).1 / (M.stN M.gh sc (M.flows sc d) (sc.length - j) j 0 1).2 := rfl
    have e3 : (M.stRow sc nw d j).hi = nw - (-(M.stN M.gl sc (M.flows sc d) (sc.length - j) j 0 1).1) / (M.stN M.gl sc (M.flows sc d) (sc.length - j) j 0 1).2 := rfl
    rw [stN_congr (g := M.gl) (g' := M.gh) _ _ (fun i h1 h2 => hg i (by omega))] at e3
    unfold agN
    rw [if_pos hj, e2, show nw + (M.stN M.gh sc (M.flows sc d) (sc.length - j) j 0 1).1 / (M.stN M.gh sc (M.flows sc d) (sc.length - j) j 0 1).2 - nw = (M.stN M.gh sc (M.flows sc d) (sc.length - j) j 0 1).1 / (M.stN M.gh sc (M.flows sc d) (sc.length - j) j 0 1).2 by omega]
    exact ediv_exact hD (by omega)
  have hx := ex k hk
  obtain ⟨m, hm⟩ : ∃ m, sc.length - k = m + 1 := ⟨sc.length - k - 1, by omega⟩
  rw [hm] at hx
  obtain ⟨s1, s2⟩ := stN_step (g := M.gh) (sc := sc) (fl := M.flows sc d) m k
  rw [s1, s2] at hx
  have hDp : 0 < (M.stN M.gh sc (M.flows sc d) m (k + 1) 0 1).2 := stN_pos _ _ fun i h1 h2 => by
    rw [← hg i (by omega)]; exact h.pos i (by omega)
  have hn : (agN sc nw d (k + 1) - nw) * (M.stN M.gh sc (M.flows sc d) m (k + 1) 0 1).2 = (M.stN M.gh sc (M.flows sc d) m (k + 1) 0 1).1 := by
    by_cases hk1 : k + 1 < sc.length
    · have := ex (k + 1) hk1
      rw [show sc.length - (k + 1) = m by omega] at this
      exact this
    · obtain rfl : m = 0 := by omega
      unfold agN
      rw [if_neg hk1]
      show (nw - nw) * 1 = 0
      omega
  have hgk : M.gh ((M.flows sc d).getD k dfR) = ((M.flows sc d).getD k dfR).lo := (h.same k hk).symm
  rw [hgk, ← hn] at hx
  generalize ((M.flows sc d).getD k dfR).lo = f at *
  generalize (M.stN M.gh sc (M.flows sc d) m (k + 1) 0 1).2 = D at *
  generalize agN sc nw d k = A at *
  generalize agN sc nw d (k + 1) = B at *
  generalize 1000 * (sc.getD k dfS).vol = v at *
  have : (f * (A - B)) * D = v * D := by grind
  exact Int.eq_of_mul_eq_mul_right (Int.ne_of_gt hDp) this
structure AgOk (n : Nat) (ag : List Rg) : Prop where
  len : ag.length = n
  row : ∀ k, k < n → 0 ≤ (ag.getD k dfR).lo ∧ (ag.getD k dfR).lo ≤ (ag.getD k dfR).hi ∧ (ag.getD k dfR).hi ≤ 100000
theorem rgErr_iff {lo hi m : Int} : M.rgErr lo hi m = 0 ↔ (0 ≤ lo ∧ lo ≤ hi ∧ hi ≤ m) := by
  unfold M.rgErr
  constructor
  · intro h
    have z := first_zero h
    have b1 := unl_zero (by decide) (z _ (List.mem_cons_self ..))
    have b2 := of_decide_eq_true (unl_zero (by decide) (z _ (List.mem_cons_of_mem _ (List.mem_cons_self ..))))
    rw [Bool.and_eq_true] at b1
    have c1 := within_iff.1 b1.1
    have c2 := within_iff.1 b1.2
    exact ⟨c1.1, b2, c2.2⟩
  · rintro ⟨h1, h2, h3⟩
    have w1 : M.within lo 0 m = true := within_iff.2 (by omega)
    have w2 : M.within hi 0 m = true := within_iff.2 (by omega)
    rw [w1, w2, decide_eq_true h2]; rfl
theorem ages_iff {n : Nat} {ag : List Rg} : M.agesErr n ag = 0 ↔ AgOk n ag := by
  constructor
  · intro h
    have hl := ages_len h
    refine ⟨hl, fun k hk => ?_⟩
    unfold M.agesErr at h
    have hb : ((ag.length : Int) != (n : Int)) = false := by rw [hl]; exact bne_self_eq_false _
    rw [hb] at h
    exact rgErr_iff.1 (bad_zero _ _ h k (Nat.zero_le _) (by omega))
  · intro h
    unfold M.agesErr
    have hb : ((ag.length : Int) != (n : Int)) = false := by rw [h.len]; exact bne_self_eq_false _
    rw [hb]
    show (M.badFrom _ _ 0).2 = 0
    rw [bad_all _ 0 fun i _ hi => rgErr_iff.2 (h.row i (by have := h.len; omega))]
theorem next_ok {n : Nat} {ag : List Rg} {nw : Int} (h : AgOk n ag) (hnw : 0 ≤ nw ∧ nw ≤ 100000) (k : Nat) : 0 ≤ (M.nextR ag nw k).lo ∧ (M.nextR ag nw k).lo ≤ (M.nextR ag nw k).hi ∧ (M.nextR ag nw k).hi ≤ 100000 := by
  unfold M.nextR
  split
  · exact h.row _ (by have := h.len; omega)
  · exact ⟨hnw.1, Int.le_refl _, hnw.2⟩
theorem year_row {sc : List Scale} {nw d : Int} (h : Stead sc nw d) {ag : List Rg} (ha : AgOk sc.length ag) {k : Nat} (hk : k < sc.length) :
    (M.year sc nw ag (M.flows sc d)).getD k dfR = ⟨(((sc.getD k dfS).vol - ((M.flows sc d).getD k dfR).lo) * (ag.getD k dfR).lo + ((M.flows sc d).getD k dfR).lo * (M.nextR ag nw k).lo) / (sc.getD k dfS).vol + 1000,
      -((-(((sc.getD k dfS).vol - ((M.flows sc d).getD k dfR).lo) * (ag.getD k dfR).hi + ((M.flows sc d).getD k dfR).lo * (M.nextR ag nw k).hi)) / (sc.getD k dfS).vol) + 1000⟩ := by
  obtain ⟨v1, v2, v3⟩ := h.vol hk
  have hf : (M.flows sc d).getD k dfR = ⟨((M.flows sc d).getD k dfR).lo, ((M.flows sc d).getD k dfR).lo⟩ := by
    have := h.same k hk
    generalize (M.flows sc d).getD k dfR = r at *
    cases r with
    | mk lo hi => simp only at this; subst this; rfl
  rw [year_get hk, hf]
  exact yearK_eq (by omega) (by omega) (ha.row k hk) (next_ok ha (sys_right h.sys).2.2.1 k)
theorem list_ext {a b : List Rg} (hl : a.length = b.length) (h : ∀ k, k < a.length → a.getD k dfR = b.getD k dfR) : a = b := by
  apply List.ext_getElem hl
  intro k h1 h2
  have := h k h1
  simpa [List.getD_eq_getElem?_getD, List.getElem?_eq_getElem h1, List.getElem?_eq_getElem h2] using this
theorem stead_next {sc : List Scale} {nw d : Int} (hw : ∀ k, k < sc.length → (M.stRow sc nw d k).lo = (M.stRow sc nw d k).hi) {k : Nat} (hk : k < sc.length) : (M.nextR (M.stAll sc nw d) nw k).lo = agN sc nw d (k + 1) ∧ (M.nextR (M.stAll sc nw d) nw k).hi = agN sc nw d (k + 1) := by
  unfold M.nextR agN
  rw [stAll_len]
  by_cases h : k + 1 < sc.length
  · rw [if_pos h, if_pos h, stAll_get h]
    exact ⟨rfl, (hw _ h).symm⟩
  · rw [if_neg h, if_neg h]
    exact ⟨rfl, rfl⟩
theorem stead_stays {sc : List Scale} {nw d : Int} (h : Stead sc nw d) (hw : ∀ k, k < sc.length → (M.stRow sc nw d k).lo = (M.stRow sc nw d k).hi) (ha : AgOk sc.length (M.stAll sc nw d)) : M.year sc nw (M.stAll sc nw d) (M.flows sc d) = M.stAll sc nw d := by
  refine list_ext (by rw [year_len, stAll_len]) fun k hk => ?_
  rw [year_len] at hk
  rw [year_row h ha hk]
  obtain ⟨n1, n2⟩ := stead_next hw hk
  have hs := stead_step h hw hk
  obtain ⟨v1, v2, v3⟩ := h.vol hk
  have a1 : ((M.stAll sc nw d).getD k dfR).lo = agN sc nw d k := by rw [stAll_get hk]; unfold agN; rw [if_pos hk]
  have a2 : ((M.stAll sc nw d).getD k dfR).hi = agN sc nw d k := by rw [stAll_get hk, ← hw k hk]; unfold agN; rw [if_pos hk]
  rw [n1, n2, a1, a2]
  have e : (M.stAll sc nw d).getD k dfR = ⟨agN sc nw d k, agN sc nw d k⟩ := by
    generalize (M.stAll sc nw d).getD k dfR = r at *
    cases r with
    | mk lo hi => simp only at a1 a2; subst a1; rw [a2]
  rw [e]
  generalize agN sc nw d k = A at *
  generalize agN sc nw d (k + 1) = B at *
  generalize ((M.flows sc d).getD k dfR).lo = f at *
  generalize (sc.getD k dfS).vol = v at *
  have m : (v - f) * A + f * B = v * (A - 1000) := by grind
  rw [m]
  have q1 : v * (A - 1000) / v = A - 1000 := Int.mul_ediv_cancel_left _ (by omega)
  have q2 : -(v * (A - 1000)) / v = -(A - 1000) := by rw [← Int.mul_neg]; exact Int.mul_ediv_cancel_left _ (by omega)
  rw [q1, q2]
  congr 1
  · omega
  · omega
theorem ediv_mono {a b v : Int} (hv : 0 < v) (h : a ≤ b) : a / v ≤ b / v := Int.ediv_le_ediv hv h
theorem year_wider {sc : List Scale} {nw d : Int} (h : Stead sc nw d) {ag og : List Rg} (ha : AgOk sc.length ag) (ho : AgOk sc.length og) (hin : ∀ k, k < sc.length → (og.getD k dfR).lo ≤ (ag.getD k dfR).lo ∧ (ag.getD k dfR).hi ≤ (og.getD k dfR).hi) {k : Nat} (hk : k < sc.length) :
    ((M.year sc nw og (M.flows sc d)).getD k dfR).lo ≤ ((M.year sc nw ag (M.flows sc d)).getD k dfR).lo ∧ ((M.year sc nw ag (M.flows sc d)).getD k dfR).hi ≤ ((M.year sc nw og (M.flows sc d)).getD k dfR).hi := by
  rw [year_row h ha hk, year_row h ho hk]
  obtain ⟨v1, v2, v3⟩ := h.vol hk
  have hnx : (M.nextR og nw k).lo ≤ (M.nextR ag nw k).lo ∧ (M.nextR ag nw k).hi ≤ (M.nextR og nw k).hi := by
    unfold M.nextR
    rw [ha.len, ho.len]
    split
    · rename_i hk1; exact hin _ hk1
    · exact ⟨Int.le_refl _, Int.le_refl _⟩
  have hi := hin k hk
  generalize ((M.flows sc d).getD k dfR).lo = f at *
  generalize (sc.getD k dfS).vol = v at *
  have p1 := Int.mul_le_mul_of_nonneg_left hi.1 (show 0 ≤ v - f by omega)
  have p2 := Int.mul_le_mul_of_nonneg_left hnx.1 (show 0 ≤ f by omega)
  have p3 := Int.mul_le_mul_of_nonneg_left hi.2 (show 0 ≤ v - f by omega)
  have p4 := Int.mul_le_mul_of_nonneg_left hnx.2 (show 0 ≤ f by omega)
  have d1 := ediv_mono (v := v) (by omega) (Int.add_le_add p1 p2)
  have d2 := ediv_mono (v := v) (by omega) (Int.neg_le_neg (Int.add_le_add p3 p4))
  exact ⟨by dsimp only; omega, by dsimp only; omega⟩
end Go.Pl
end

section
set_option linter.unusedVariables false
set_option linter.unusedSimpArgs false
set_option maxRecDepth 100000
namespace Go.Pl
open Go.V Go.Proofs
abbrev oneL (d : Int) : List Int := Enc.list eI (1 : Nat) fun (i j : Nat) => List.getD [D.int IntKind.i64 d] (i * (1 : Nat) + j) D.nilp
theorem oneL_eq (d : Int) : oneL d = [d] := rfl
abbrev zS (l : List Scale) : List Scale := Enc.list eSc ((0 : Nat) + List.length l) (joinF (0 : Nat) (fun (i j : Nat) => List.getD [] (i * (4 : Nat) + j) D.nilp) (Enc.F eSc l))
abbrev zR (l : List Rg) : List Rg := Enc.list eRg ((0 : Nat) + List.length l) (joinF (0 : Nat) (fun (i j : Nat) => List.getD [] (i * (2 : Nat) + j) D.nilp) (Enc.F eRg l))
theorem zS_eq (l : List Scale) : zS l = l := by unfold zS; rw [Nat.zero_add, join0, Enc.list_F]
theorem zR_eq (l : List Rg) : zR l = l := by unfold zR; rw [Nat.zero_add, join0, Enc.list_F]
abbrev SRx (x : Int × List Scale × Int × PUnit) (d : Int) := M.stRes (zS (Prod.fst (Prod.snd x))) (Prod.fst (Prod.snd (Prod.snd x))) d
abbrev AFx (x : Int × List Scale × Int × PUnit) (d : Int) := M.after (zS (Prod.fst (Prod.snd x))) (Prod.fst (Prod.snd (Prod.snd x))) (zR (Prod.fst (SRx x d))) (oneL d)
abbrev AFy (x : Int × List Scale × Int × PUnit) (d : Int) (l : List Rg) := M.after (zS (Prod.fst (Prod.snd x))) (Prod.fst (Prod.snd (Prod.snd x))) (Enc.list eRg (List.length l) (Enc.F eRg l)) (oneL d)
def knK (sc : List Scale) (k : Nat) : List Scale := (List.range sc.length).map fun i => if i < k then M.kn1 (sc.getD i dfS) else sc.getD i dfS
theorem knK_len (sc : List Scale) (k : Nat) : (knK sc k).length = sc.length := by simp [knK]
theorem knK_get {sc : List Scale} {k i : Nat} (h : i < sc.length) : (knK sc k).getD i dfS = if i < k then M.kn1 (sc.getD i dfS) else sc.getD i dfS := by simp [knK, h]
theorem scs_ext {a b : List Scale} (hl : a.length = b.length) (h : ∀ k, k < a.length → a.getD k dfS = b.getD k dfS) : a = b := by
  apply List.ext_getElem hl
  intro k h1 h2
  have := h k h1
  simpa [List.getD_eq_getElem?_getD, List.getElem?_eq_getElem h1, List.getElem?_eq_getElem h2] using this
theorem knK_zero (sc : List Scale) : knK sc 0 = sc := scs_ext (knK_len _ _) fun k hk => by
  rw [knK_len] at hk
  rw [knK_get hk, if_neg (by omega)]
theorem knK_end (sc : List Scale) : knK sc sc.length = M.kn sc := scs_ext (by rw [knK_len, kn_len]) fun k hk => by
  rw [knK_len] at hk
  rw [knK_get hk, if_pos hk, kn_get hk]
theorem set_getD {α : Type} {l : List α} {k i : Nat} {x d : α} (h : i < l.length) : (l.set k x).getD i d = if k = i then x else l.getD i d := by
  simp only [List.getD_eq_getElem?_getD, List.getElem?_set]
  by_cases hk : k = i
  · subst hk; simp [h]
  · simp [hk]
theorem knK_set {sc : List Scale} {k : Nat} (hk : k < sc.length) : (knK sc k).set k (M.kn1 (sc.getD k dfS)) = knK sc (k + 1) := scs_ext (by rw [List.length_set, knK_len, knK_len]) fun i hi => by
  rw [List.length_set, knK_len] at hi
  rw [set_getD (by rw [knK_len]; exact hi), knK_get hi, knK_get hi]
  by_cases h1 : k = i
  · subst h1; rw [if_pos rfl, if_pos (by omega)]
  · rw [if_neg h1]
    by_cases h2 : i < k
    · rw [if_pos h2, if_pos (by omega)]
    · rw [if_neg h2, if_neg (by omega)]
theorem beq_self_nat (n : Nat) : Nat.beq n n = true := Nat.beq_refl n
theorem put_kn {l : List Scale} {k n : Nat} {v : Int} (hk : k < l.length) (hn : n = 1) : eSc.Is l.length (putF k 2 n [dI v] (eSc.F l)) ∧ eSc.list l.length (putF k 2 n [dI v] (eSc.F l)) = l.set k ⟨(l.getD k dfS).vol, (l.getD k dfS).l, v, (l.getD k dfS).least⟩ := by
  subst hn
  have at_ : ∀ j, putF k 2 1 [dI v] (eSc.F l) k j = (match Nat.ble 2 j && Nat.blt j 3 with | true => [dI v].getD (j - 2) .nilp | false => eSc.F l k j) := by
    intro j
    unfold putF
    rw [beq_self_nat, Bool.true_and]
    rfl
  refine put_row eSc hk (fun i hi => putF_ne i hi) (fun j hj => ?_) ?_
  · have hj : j < 4 := hj
    rw [at_]
    match j, hj with
    | 0, _ => exact D.eqv_refl _
    | 1, _ => exact D.eqv_refl _
    | 2, _ => exact D.eqv_refl _
    | 3, _ => exact D.eqv_refl _
  · show (⟨rdI _ 0, rdI _ 1, rdI _ 2, rdI _ 3⟩ : Scale) = _
    unfold rdI
    rw [at_, at_, at_, at_]
    rfl
theorem put_rg {l : List Rg} {k n : Nat} {a b : Int} (hk : k < l.length) (hn : n = 2) : eRg.Is l.length (putF k 0 n [dI a, dI b] (eRg.F l)) ∧ eRg.list l.length (putF k 0 n [dI a, dI b] (eRg.F l)) = l.set k ⟨a, b⟩ := by
  subst hn
  have at_ : ∀ j, putF k 0 2 [dI a, dI b] (eRg.F l) k j = (match Nat.ble 0 j && Nat.blt j 2 with | true => [dI a, dI b].getD (j - 0) .nilp | false => eRg.F l k j) := by
    intro j
    unfold putF
    rw [beq_self_nat, Bool.true_and]
    rfl
  refine put_row eRg hk (fun i hi => putF_ne i hi) (fun j hj => ?_) ?_
  · have hj : j < 2 := hj
    rw [at_]
    match j, hj with
    | 0, _ => exact D.eqv_refl _
    | 1, _ => exact D.eqv_refl _
  · show (⟨rdI _ 0, rdI _ 1⟩ : Rg) = _
    unfold rdI
    rw [at_, at_]
    rfl
def wide1 (w : Int) (r : Rg) : Rg := ⟨if r.lo - w > 0 then r.lo - w else 0, if r.hi + w < 100000 then r.hi + w else 100000⟩
def wdK (l : List Rg) (w : Int) (k : Nat) : List Rg := (List.range l.length).map fun i => if i < k then wide1 w (l.getD i dfR) else l.getD i dfR
theorem wdK_len (l : List Rg) (w : Int) (k : Nat) : (wdK l w k).length = l.length := by simp [wdK]
theorem wdK_get {l : List Rg} {w : Int} {k i : Nat} (h : i < l.length) : (wdK l w k).getD i dfR = if i < k then wide1 w (l.getD i dfR) else l.getD i dfR := by simp [wdK, h]
theorem wdK_zero (l : List Rg) (w : Int) : wdK l w 0 = l := list_ext (wdK_len _ _ _) fun k hk => by
  rw [wdK_len] at hk
  rw [wdK_get hk, if_neg (by omega)]
theorem wdK_set {l : List Rg} {w : Int} {k : Nat} (hk : k < l.length) : (wdK l w k).set k (wide1 w (l.getD k dfR)) = wdK l w (k + 1) := list_ext (by rw [List.length_set, wdK_len, wdK_len]) fun i hi => by
  rw [List.length_set, wdK_len] at hi
  rw [set_getD (by rw [wdK_len]; exact hi), wdK_get hi, wdK_get hi]
  by_cases h1 : k = i
  · subst h1; rw [if_pos rfl, if_pos (by omega)]
  · rw [if_neg h1]
    by_cases h2 : i < k
    · rw [if_pos h2, if_pos (by omega)]
    · rw [if_neg h2, if_neg (by omega)]
theorem wide_ok {w : Int} {r : Rg} (hw : 0 ≤ w) (hr : 0 ≤ r.lo ∧ r.lo ≤ r.hi ∧ r.hi ≤ 100000) : (0 ≤ (wide1 w r).lo ∧ (wide1 w r).lo ≤ (wide1 w r).hi ∧ (wide1 w r).hi ≤ 100000) ∧ (wide1 w r).lo ≤ r.lo ∧ r.hi ≤ (wide1 w r).hi := by
  unfold wide1
  dsimp only
  refine ⟨⟨?_, ?_, ?_⟩, ?_, ?_⟩ <;> (try split) <;> (try split) <;> omega
theorem st_cases {sc : List Scale} {nw d : Int} (hs : (M.checkSys sc nw).2 = 0) (hd : M.drawErr d = 0) (hsame : ∀ k, k < sc.length → ((M.flows sc d).getD k dfR).lo = ((M.flows sc d).getD k dfR).hi) :
    M.stRes sc nw d = ([], 11) ∨ M.stRes sc nw d = ([], 16) ∨ (M.stRes sc nw d = (M.stAll sc nw d, 0) ∧ Stead sc nw d) := by
  have e : M.stRes sc nw d = M.stX sc nw d := by unfold M.stRes; rw [hs, hd]; rfl
  rw [e]
  unfold M.stX
  by_cases hz : M.zeroF sc d < 0
  · rw [decide_eq_true hz]
    by_cases ho : M.over sc (M.flows sc d) ≥ 0
    · rw [decide_eq_true ho]; exact .inr (.inl rfl)
    · rw [decide_eq_false ho]
      refine .inr (.inr ⟨rfl, hs, hd, hsame, fun k hk => ?_, by omega⟩)
      have h0 := idx_none sc.length 0 hz k (Nat.zero_le _) (by omega)
      have h0 : ¬ ((M.flows sc d).getD k dfR).lo = 0 := by simpa using h0
      have := (flows_right hs hd hk).1
      omega
  · rw [decide_eq_false hz]; exact .inl rfl
def tr11 (q_sc : Bool) (sc : List Scale) (new : Int) (d : Int) (w : Int) : T (List Ar) :=
    T.br (!true) (T.ret [Ar.c (D.bool false)]) (T.need (iS sc) (T.br (!decide ((Nat.cast (R := Int) (List.length (cS sc))) ≤ (6 : Int))) (T.ret [Ar.c (D.bool true)]) (T.need (iS sc) (T.need (List.length (cS sc) ≤ (100000 : Nat)) (T.br (Prod.snd (M.checkSys (cS sc) new) != (0 : Int)) (T.ret [Ar.c (D.bool true)]) (T.br (M.drawErr d != (0 : Int)) (T.ret [Ar.c (D.bool true)]) (T.need ((0 : Nat) + List.length sc ≤ (1000000 : Nat)) (T.need (Enc.Is eSc ((0 : Nat) + List.length sc) (joinF (0 : Nat) (fun (i j : Nat) => List.getD [] (i * (4 : Nat) + j) D.nilp) (Enc.F eSc sc))) (T.need ((0 : Nat) + List.length sc ≤ (0 : Nat) + List.length sc) (T.loop (Int × List Scale × Int × PUnit) ((0 : Int), Enc.list eSc ((0 : Nat) + List.length sc) (joinF (0 : Nat) (fun (i j : Nat) => List.getD [] (i * (4 : Nat) + j) D.nilp) (Enc.F eSc sc)), new, PUnit.unit) fun (x : Int × List Scale × Int × PUnit) => T.br (decide (Prod.fst x < (Nat.cast (R := Int) (List.length (Prod.fst (Prod.snd x)))))) (T.need ((0 : Int) ≤ Prod.fst x) (T.need (Prod.fst x < (Nat.cast (R := Int) (List.length (Prod.fst (Prod.snd x))))) (T.need (Int.toNat (Prod.fst x) < List.length (Prod.fst (Prod.snd x))) (T.need ((0 : Int) ≤ Prod.fst x) (T.need (Prod.fst x < (Nat.cast (R := Int) (List.length (Prod.fst (Prod.snd x))))) (T.need (Int.toNat (Prod.fst x) < List.length (Prod.fst (Prod.snd x))) (T.need (Enc.Is eSc (List.length (Prod.fst (Prod.snd x))) (putF (Int.toNat (Prod.fst x)) (2 : Nat) (List.length [C.int IntKind.i64 (Scale.l (List.getD (Prod.fst (Prod.snd x)) (Int.toNat (Prod.fst x)) dfS))]) [D.int IntKind.i64 (Scale.l (List.getD (Prod.fst (Prod.snd x)) (Int.toNat (Prod.fst x)) dfS))] (Enc.F eSc (Prod.fst (Prod.snd x))))) (T.need (List.length (Prod.fst (Prod.snd x)) ≤ List.length (Prod.fst (Prod.snd x))) (T.ret (Sum.inl (IntKind.i64.wrap (Prod.fst x + (1 : Int)), Enc.list eSc (List.length (Prod.fst (Prod.snd x))) (putF (Int.toNat (Prod.fst x)) (2 : Nat) (List.length [C.int IntKind.i64 (Scale.l (List.getD (Prod.fst (Prod.snd x)) (Int.toNat (Prod.fst x)) dfS))]) [D.int IntKind.i64 (Scale.l (List.getD (Prod.fst (Prod.snd x)) (Int.toNat (Prod.fst x)) dfS))] (Enc.F eSc (Prod.fst (Prod.snd x)))), Prod.fst (Prod.snd (Prod.snd x)), PUnit.unit))))))))))) (T.need ((0 : Nat) + List.length (Prod.fst (Prod.snd x)) ≤ (1000000 : Nat)) (T.need (List.length (Prod.fst (Prod.snd x)) ≤ List.length (Prod.fst (Prod.snd x))) (T.need ((0 : Nat) + List.length (Prod.fst (Prod.snd x)) ≤ (0 : Nat) + List.length (Prod.fst (Prod.snd x))) (T.need (Enc.Is eSc ((0 : Nat) + List.length (Prod.fst (Prod.snd x))) (joinF (0 : Nat) (fun (i j : Nat) => List.getD [] (i * (4 : Nat) + j) D.nilp) (Enc.F eSc (Prod.fst (Prod.snd x))))) (T.need (List.length (zS (Prod.fst (Prod.snd x))) ≤ (100000 : Nat)) (T.br (Prod.snd (SRx x d) != (0 : Int)) (T.br (Prod.snd (SRx x d) == (11 : Int)) (T.ret (Sum.inr [Ar.c (D.bool true)])) (T.ret (Sum.inr [Ar.c (D.bool (Prod.snd (SRx x d) == (16 : Int)))]))) (T.need (List.length (Prod.fst (Prod.snd x)) ≤ List.length (Prod.fst (Prod.snd x))) (T.need (Enc.Is eSc (List.length (Prod.fst (Prod.snd x))) (Enc.F eSc (Prod.fst (Prod.snd x)))) (T.need (Enc.Is eRg (List.length (Prod.fst (SRx x d))) (Enc.F eRg (Prod.fst (SRx x d)))) (T.need (List.length (Enc.list eRg (List.length (Prod.fst (SRx x d))) (Enc.F eRg (Prod.fst (SRx x d)))) ≤ (100000 : Nat)) (T.loop (Int × Bool × PUnit) ((0 : Int), M.agesErr (List.length (Enc.list eSc (List.length (Prod.fst (Prod.snd x))) (Enc.F eSc (Prod.fst (Prod.snd x))))) (Enc.list eRg (List.length (Prod.fst (SRx x d))) (Enc.F eRg (Prod.fst (SRx x d)))) == (0 : Int), PUnit.unit) fun (x_1 : Int × Bool × PUnit) => T.br (decide (Prod.fst x_1 < (Nat.cast (R := Int) (List.length (Prod.fst (SRx x d)))))) (T.br (Prod.fst (Prod.snd x_1)) (T.need (Prod.fst (Prod.snd x_1) = true) (T.need ((0 : Int) ≤ Prod.fst x_1) (T.need (Prod.fst x_1 < (Nat.cast (R := Int) (List.length (Prod.fst (SRx x d))))) (T.need ((0 : Int) ≤ Prod.fst x_1) (T.need (Prod.fst x_1 < (Nat.cast (R := Int) (List.length (Prod.fst (SRx x d))))) (T.ret (Sum.inl (IntKind.i64.wrap (Prod.fst x_1 + (1 : Int)), Rg.lo (List.getD (Prod.fst (SRx x d)) (Int.toNat (Prod.fst x_1)) dfR) == Rg.hi (List.getD (Prod.fst (SRx x d)) (Int.toNat (Prod.fst x_1)) dfR), PUnit.unit)))))))) (T.need (Prod.fst (Prod.snd x_1) = false) (T.ret (Sum.inl (IntKind.i64.wrap (Prod.fst x_1 + (1 : Int)), false, PUnit.unit))))) (T.br (!Prod.fst (Prod.snd x_1)) (T.ret (Sum.inr (Sum.inr [Ar.c (D.bool true)]))) (T.need ((0 : Nat) + List.length (Prod.fst (Prod.snd x)) ≤ (1000000 : Nat)) (T.need (List.length (Prod.fst (Prod.snd x)) ≤ List.length (Prod.fst (Prod.snd x))) (T.need ((0 : Nat) + List.length (Prod.fst (SRx x d)) ≤ (1000000 : Nat)) (T.need ((0 : Nat) + List.length (Prod.fst (Prod.snd x)) ≤ (0 : Nat) + List.length (Prod.fst (Prod.snd x))) (T.need ((0 : Nat) + List.length (Prod.fst (SRx x d)) ≤ (0 : Nat) + List.length (Prod.fst (SRx x d))) (T.need (Enc.Is eSc ((0 : Nat) + List.length (Prod.fst (Prod.snd x))) (joinF (0 : Nat) (fun (i j : Nat) => List.getD [] (i * (4 : Nat) + j) D.nilp) (Enc.F eSc (Prod.fst (Prod.snd x))))) (T.need (Enc.Is eRg ((0 : Nat) + List.length (Prod.fst (SRx x d))) (joinF (0 : Nat) (fun (i j : Nat) => List.getD [] (i * (2 : Nat) + j) D.nilp) (Enc.F eRg (Prod.fst (SRx x d))))) (T.need (Enc.Is eI (1 : Nat) fun (i j : Nat) => List.getD [D.int IntKind.i64 d] (i * (1 : Nat) + j) D.nilp) (T.need (List.length (zS (Prod.fst (Prod.snd x))) ≤ (100000 : Nat)) (T.need (List.length (zR (Prod.fst (SRx x d))) ≤ (100000 : Nat)) (T.need (List.length (oneL d) ≤ (100000 : Nat)) (T.br (Prod.snd (AFx x d) != (0 : Int)) (T.ret (Sum.inr (Sum.inr [Ar.c (D.bool false)]))) (T.need (Enc.Is eRg (List.length (Prod.fst (AFx x d))) (Enc.F eRg (Prod.fst (AFx x d)))) (T.need (Enc.Is eRg (List.length (Prod.fst (SRx x d))) (Enc.F eRg (Prod.fst (SRx x d)))) (T.need (Enc.list eRg (List.length (Prod.fst (AFx x d))) (Enc.F eRg (Prod.fst (AFx x d))) = Enc.list eRg (List.length (Prod.fst (SRx x d))) (Enc.F eRg (Prod.fst (SRx x d)))) (T.need (List.length (Enc.list eRg (List.length (Prod.fst (AFx x d))) (Enc.F eRg (Prod.fst (AFx x d)))) ≤ (100000 : Nat)) (T.br (!true) (T.ret (Sum.inr (Sum.inr [Ar.c (D.bool false)]))) (T.need ((0 : Nat) + List.length (Prod.fst (SRx x d)) ≤ (1000000 : Nat)) (T.need (Enc.Is eRg ((0 : Nat) + List.length (Prod.fst (SRx x d))) (joinF (0 : Nat) (fun (i j : Nat) => List.getD [] (i * (2 : Nat) + j) D.nilp) (Enc.F eRg (Prod.fst (SRx x d))))) (T.need ((0 : Nat) + List.length (Prod.fst (SRx x d)) ≤ (0 : Nat) + List.length (Prod.fst (SRx x d))) (T.loop (Int × List Rg × PUnit) ((0 : Int), Enc.list eRg ((0 : Nat) + List.length (Prod.fst (SRx x d))) (joinF (0 : Nat) (fun (i j : Nat) => List.getD [] (i * (2 : Nat) + j) D.nilp) (Enc.F eRg (Prod.fst (SRx x d)))), PUnit.unit) fun (x_2 : Int × List Rg × PUnit) => T.br (decide (Prod.fst x_2 < (Nat.cast (R := Int) (List.length (Prod.fst (Prod.snd x_2)))))) (T.need ((0 : Int) ≤ Prod.fst x_2) (T.need (Prod.fst x_2 < (Nat.cast (R := Int) (List.length (Prod.fst (Prod.snd x_2))))) (T.need (Int.toNat (Prod.fst x_2) < List.length (Prod.fst (Prod.snd x_2))) (T.need ((0 : Int) ≤ Prod.fst x_2) (T.need (Prod.fst x_2 < (Nat.cast (R := Int) (List.length (Prod.fst (Prod.snd x_2))))) (T.need (Int.toNat (Prod.fst x_2) < List.length (Prod.fst (Prod.snd x_2))) (T.need ((0 : Int) ≤ Prod.fst x_2) (T.need (Prod.fst x_2 < (Nat.cast (R := Int) (List.length (Prod.fst (Prod.snd x_2))))) (T.need (Int.toNat (Prod.fst x_2) < List.length (Prod.fst (Prod.snd x_2))) (T.need (Enc.Is eRg (List.length (Prod.fst (Prod.snd x_2))) (putF (Int.toNat (Prod.fst x_2)) (0 : Nat) (List.length [C.int IntKind.i64 (if IntKind.i64.wrap (Rg.lo (List.getD (Prod.fst (Prod.snd x_2)) (Int.toNat (Prod.fst x_2)) dfR) - IntKind.i64.wrap w) > (0 : Int) then IntKind.i64.wrap (Rg.lo (List.getD (Prod.fst (Prod.snd x_2)) (Int.toNat (Prod.fst x_2)) dfR) - IntKind.i64.wrap w) else (0 : Int)), C.int IntKind.i64 (if IntKind.i64.wrap (Rg.hi (List.getD (Prod.fst (Prod.snd x_2)) (Int.toNat (Prod.fst x_2)) dfR) + IntKind.i64.wrap w) < (100000 : Int) then IntKind.i64.wrap (Rg.hi (List.getD (Prod.fst (Prod.snd x_2)) (Int.toNat (Prod.fst x_2)) dfR) + IntKind.i64.wrap w) else (100000 : Int))]) [D.int IntKind.i64 (if IntKind.i64.wrap (Rg.lo (List.getD (Prod.fst (Prod.snd x_2)) (Int.toNat (Prod.fst x_2)) dfR) - IntKind.i64.wrap w) > (0 : Int) then IntKind.i64.wrap (Rg.lo (List.getD (Prod.fst (Prod.snd x_2)) (Int.toNat (Prod.fst x_2)) dfR) - IntKind.i64.wrap w) else (0 : Int)), D.int IntKind.i64 (if IntKind.i64.wrap (Rg.hi (List.getD (Prod.fst (Prod.snd x_2)) (Int.toNat (Prod.fst x_2)) dfR) + IntKind.i64.wrap w) < (100000 : Int) then IntKind.i64.wrap (Rg.hi (List.getD (Prod.fst (Prod.snd x_2)) (Int.toNat (Prod.fst x_2)) dfR) + IntKind.i64.wrap w) else (100000 : Int))] (Enc.F eRg (Prod.fst (Prod.snd x_2))))) (T.need (List.length (Prod.fst (Prod.snd x_2)) ≤ List.length (Prod.fst (Prod.snd x_2))) (T.ret (Sum.inl (IntKind.i64.wrap (Prod.fst x_2 + (1 : Int)), Enc.list eRg (List.length (Prod.fst (Prod.snd x_2))) (putF (Int.toNat (Prod.fst x_2)) (0 : Nat) (List.length [C.int IntKind.i64 (if IntKind.i64.wrap (Rg.lo (List.getD (Prod.fst (Prod.snd x_2)) (Int.toNat (Prod.fst x_2)) dfR) - IntKind.i64.wrap w) > (0 : Int) then IntKind.i64.wrap (Rg.lo (List.getD (Prod.fst (Prod.snd x_2)) (Int.toNat (Prod.fst x_2)) dfR) - IntKind.i64.wrap w) else (0 : Int)), C.int IntKind.i64 (if IntKind.i64.wrap (Rg.hi (List.getD (Prod.fst (Prod.snd x_2)) (Int.toNat (Prod.fst x_2)) dfR) + IntKind.i64.wrap w) < (100000 : Int) then IntKind.i64.wrap (Rg.hi (List.getD (Prod.fst (Prod.snd x_2)) (Int.toNat (Prod.fst x_2)) dfR) + IntKind.i64.wrap w) else (100000 : Int))]) [D.int IntKind.i64 (if IntKind.i64.wrap (Rg.lo (List.getD (Prod.fst (Prod.snd x_2)) (Int.toNat (Prod.fst x_2)) dfR) - IntKind.i64.wrap w) > (0 : Int) then IntKind.i64.wrap (Rg.lo (List.getD (Prod.fst (Prod.snd x_2)) (Int.toNat (Prod.fst x_2)) dfR) - IntKind.i64.wrap w) else (0 : Int)), D.int IntKind.i64 (if IntKind.i64.wrap (Rg.hi (List.getD (Prod.fst (Prod.snd x_2)) (Int.toNat (Prod.fst x_2)) dfR) + IntKind.i64.wrap w) < (100000 : Int) then IntKind.i64.wrap (Rg.hi (List.getD (Prod.fst (Prod.snd x_2)) (Int.toNat (Prod.fst x_2)) dfR) + IntKind.i64.wrap w) else (100000 : Int))] (Enc.F eRg (Prod.fst (Prod.snd x_2)))), PUnit.unit)))))))))))))) (T.need ((0 : Nat) + List.length (Prod.fst (Prod.snd x)) ≤ (1000000 : Nat)) (T.need (List.length (Prod.fst (Prod.snd x)) ≤ List.length (Prod.fst (Prod.snd x))) (T.need ((0 : Nat) + List.length (Prod.fst (Prod.snd x)) ≤ (0 : Nat) + List.length (Prod.fst (Prod.snd x))) (T.need (List.length (Prod.fst (Prod.snd x_2)) ≤ List.length (Prod.fst (Prod.snd x_2))) (T.need (Enc.Is eSc ((0 : Nat) + List.length (Prod.fst (Prod.snd x))) (joinF (0 : Nat) (fun (i j : Nat) => List.getD [] (i * (4 : Nat) + j) D.nilp) (Enc.F eSc (Prod.fst (Prod.snd x))))) (T.need (Enc.Is eRg (List.length (Prod.fst (Prod.snd x_2))) (Enc.F eRg (Prod.fst (Prod.snd x_2)))) (T.need (Enc.Is eI (1 : Nat) fun (i j : Nat) => List.getD [D.int IntKind.i64 d] (i * (1 : Nat) + j) D.nilp) (T.need (List.length (zS (Prod.fst (Prod.snd x))) ≤ (100000 : Nat)) (T.need (List.length (Enc.list eRg (List.length (Prod.fst (Prod.snd x_2))) (Enc.F eRg (Prod.fst (Prod.snd x_2)))) ≤ (100000 : Nat)) (T.need (List.length (oneL d) ≤ (100000 : Nat)) (T.br (Prod.snd (AFy x d (Prod.fst (Prod.snd x_2))) != (0 : Int)) (T.ret (Sum.inr (Sum.inr (Sum.inr [Ar.c (D.bool false)])))) (T.br ((Nat.cast (R := Int) (List.length (Prod.fst (AFy x d (Prod.fst (Prod.snd x_2)))))) != (Nat.cast (R := Int) (List.length (Prod.fst (AFx x d))))) (T.ret (Sum.inr (Sum.inr (Sum.inr [Ar.c (D.bool false)])))) (T.loop (Int × PUnit) ((0 : Int), PUnit.unit) fun (x_3 : Int × PUnit) => T.br (decide (Prod.fst x_3 < (Nat.cast (R := Int) (List.length (Prod.fst (AFx x d)))))) (T.br (decide (Rg.lo (List.getD (Prod.fst (AFy x d (Prod.fst (Prod.snd x_2)))) (Int.toNat (Prod.fst x_3)) dfR) > Rg.lo (List.getD (Prod.fst (AFx x d)) (Int.toNat (Prod.fst x_3)) dfR))) (T.need ((0 : Int) ≤ Prod.fst x_3) (T.need (Prod.fst x_3 < (Nat.cast (R := Int) (List.length (Prod.fst (AFy x d (Prod.fst (Prod.snd x_2))))))) (T.need ((0 : Int) ≤ Prod.fst x_3) (T.need (Prod.fst x_3 < (Nat.cast (R := Int) (List.length (Prod.fst (AFx x d))))) (T.need (decide (Rg.lo (List.getD (Prod.fst (AFy x d (Prod.fst (Prod.snd x_2)))) (Int.toNat (Prod.fst x_3)) dfR) > Rg.lo (List.getD (Prod.fst (AFx x d)) (Int.toNat (Prod.fst x_3)) dfR)) = true) (T.ret (Sum.inr (Sum.inr (Sum.inr (Sum.inr [Ar.c (D.bool false)])))))))))) (T.need ((0 : Int) ≤ Prod.fst x_3) (T.need (Prod.fst x_3 < (Nat.cast (R := Int) (List.length (Prod.fst (AFy x d (Prod.fst (Prod.snd x_2))))))) (T.need ((0 : Int) ≤ Prod.fst x_3) (T.need (Prod.fst x_3 < (Nat.cast (R := Int) (List.length (Prod.fst (AFx x d))))) (T.need (decide (Rg.lo (List.getD (Prod.fst (AFy x d (Prod.fst (Prod.snd x_2)))) (Int.toNat (Prod.fst x_3)) dfR) > Rg.lo (List.getD (Prod.fst (AFx x d)) (Int.toNat (Prod.fst x_3)) dfR)) = false) (T.need ((0 : Int) ≤ Prod.fst x_3) (T.need (Prod.fst x_3 < (Nat.cast (R := Int) (List.length (Prod.fst (AFy x d (Prod.fst (Prod.snd x_2))))))) (T.need ((0 : Int) ≤ Prod.fst x_3) (T.need (Prod.fst x_3 < (Nat.cast (R := Int) (List.length (Prod.fst (AFx x d))))) (T.br (decide (Rg.hi (List.getD (Prod.fst (AFy x d (Prod.fst (Prod.snd x_2)))) (Int.toNat (Prod.fst x_3)) dfR) < Rg.hi (List.getD (Prod.fst (AFx x d)) (Int.toNat (Prod.fst x_3)) dfR))) (T.ret (Sum.inr (Sum.inr (Sum.inr (Sum.inr [Ar.c (D.bool false)]))))) (T.ret (Sum.inl (IntKind.i64.wrap (Prod.fst x_3 + (1 : Int)), PUnit.unit)))))))))))))) (T.ret (Sum.inr (Sum.inr (Sum.inr (Sum.inr [Ar.c (D.bool true)])))))))))))))))))))))))))))))))))))))))))))))))))))))))))))))
theorem t11 (q_sc : Bool) (sc : List Scale) (new : Int) (d : Int) (w : Int) : runFnX Try.prog G0 (lookS [v15, v27, v30, v37, v35, v66, v67, v39]) (fun f => match f with | 11 => [(7, [.slot 8 (.int .i64), .blk 7 [.rowE 63 eSc, .int .i64]], none), (15, [.slot 12 (.int .i64), .slot 11 .bool], none), (25, [.slot 16 (.int .i64), .slot 15 (.rowE 61 eRg)], none), (32, [.slot 19 (.int .i64)], none)] | _ => []) [29, 68] 1 120 5 11 Try.f11 [.agg [.sl q_sc sc.length 4 (eSc.F sc), dI new], .c (dI d), .c (.int .u8 w)] =
    tr11 q_sc sc new d w := by kernel_rfl
theorem w11 (q : Bool) (sc : List Scale) (nw d w : Int) (hw : 0 ≤ w ∧ w ≤ 255) : (tr11 q sc nw d w).wp (fun rs => rsEqv rs [rB true]) := by
  unfold tr11
  have hw8 : IntKind.i64.wrap w = w := wrap_id (by omega) (by omega)
  simp only [SRx, AFx, AFy, zS_eq, zR_eq, oneL_eq, hw8]
  simp only [cS, cR, iS, iR, Enc.list_F, Nat.zero_add, join0]
  refine wp_br (fun hb => by cases hb) (fun _ => ⟨Enc.is_F _ _ _, wp_br (fun _ => rsEqv_refl _) (fun hl => ⟨Enc.is_F _ _ _, ?_, wp_br (fun _ => rsEqv_refl _) (fun hs => wp_br (fun _ => rsEqv_refl _) (fun hd => ?_))⟩)⟩)
  · have hl : decide ((sc.length : Int) ≤ 6) = true := by simpa using hl
    have := of_decide_eq_true hl
    omega
  have hs : (M.checkSys sc nw).2 = 0 := by simpa using hs
  have hd : M.drawErr d = 0 := by simpa using hd
  obtain ⟨n0, n4, hnw, hr⟩ := sys_right hs
  refine ⟨by omega, Enc.is_F _ _ _, Nat.le_refl _, ?_⟩
  refine range_wp (n := sc.length) (fun k s => s.1 = knK sc k ∧ s.2.1 = nw) ⟨(knK_zero sc).symm, rfl⟩ ?_
  rintro k ⟨L, nw', u⟩ hk ⟨hL, hN⟩
  have hL : L = knK sc k := hL
  have hN' : nw = nw' := (hN : nw' = nw).symm
  subst hL hN'
  have hLl := knK_len sc k
  refine wp_br (fun hb => ?_) (fun hb => ?_)
  · have hlt : k < sc.length := by have h1 : k < (knK sc k).length := lt_of_dec hb; omega
    have e0 : (knK sc k).getD k dfS = sc.getD k dfS := by rw [knK_get hlt, if_neg (by omega)]
    obtain ⟨o1, o2⟩ := put_kn (l := knK sc k) (k := k) (n := 1) (v := ((knK sc k).getD k dfS).l) (by omega) rfl
    rw [e0] at o2
    have o3 := o2.trans (knK_set hlt)
    rw [e0] at o1
    refine ⟨by show (0 : Int) ≤ k; omega, by show (k : Int) < (knK sc k).length; omega, by show k < (knK sc k).length; omega, by show (0 : Int) ≤ k; omega, by show (k : Int) < (knK sc k).length; omega, by show k < (knK sc k).length; omega, ?_, Nat.le_refl _, hlt, wrap_succ (by omega), ?_, rfl⟩
    · show eSc.Is _ (putF k 2 1 [dI ((knK sc k).getD k dfS).l] (eSc.F (knK sc k)))
      rw [e0]; exact o1
    · show eSc.list _ (putF k 2 1 [dI ((knK sc k).getD k dfS).l] (eSc.F (knK sc k))) = _
      rw [e0]; exact o3
  have hge : k = sc.length := by have h1 : (knK sc k).length ≤ k := ge_of_dec hb; omega
  subst hge
  rw [knK_end] at hLl ⊢
  have hs' : (M.checkSys (M.kn sc) nw).2 = 0 := kn_sys hs
  have hsame : ∀ k, k < (M.kn sc).length → ((M.flows (M.kn sc) d).getD k dfR).lo = ((M.flows (M.kn sc) d).getD k dfR).hi := fun k hk => by rw [flows_get hk]; exact kn_fl sc d (k + 1) (by omega)
  have hkl : (M.kn sc).length = sc.length := kn_len sc
  obtain ⟨kc, hkc⟩ : ∃ kc, kc = M.kn sc := ⟨_, rfl⟩
  rw [← hkc] at hs' hsame hkl ⊢
  clear hkc hL
  dsimp only
  refine ⟨by omega, Nat.le_refl _, Nat.le_refl _, Enc.is_F _ _ _, by omega, ?_⟩
  rcases st_cases hs' hd hsame with hS | hS | ⟨hS, hSt⟩
  · rw [hS]; exact br_t rfl (br_t rfl (rsEqv_refl _))
  · rw [hS]; exact br_t rfl (br_f rfl (rsEqv_refl _))
  rw [hS]
  have hal := stAll_len kc nw d
  refine br_f rfl ⟨Nat.le_refl _, Enc.is_F _ _ _, Enc.is_F _ _ _, by show (M.stAll kc nw d).length ≤ _; omega, ?_⟩
  refine range_wp (n := kc.length) (fun k s => s.1 = true → M.agesErr kc.length (M.stAll kc nw d) = 0 ∧ ∀ i, i < k → (M.stRow kc nw d i).lo = (M.stRow kc nw d i).hi) (fun h => ⟨by simpa using h, fun i hi => absurd hi (Nat.not_lt_zero i)⟩) ?_
  rintro k ⟨ok, u2⟩ hk2 hI
  refine wp_br (fun hb => ?_) (fun hb => ?_)
  · have hlt : k < kc.length := by have h1 : k < (M.stAll kc nw d).length := lt_of_dec hb; omega
    refine wp_br (fun hx => ⟨hx, by show (0 : Int) ≤ k; omega, by show (k : Int) < (M.stAll kc nw d).length; omega, by show (0 : Int) ≤ k; omega, by show (k : Int) < (M.stAll kc nw d).length; omega, hlt, wrap_succ (by omega), fun h => ?_⟩) (fun hx => ⟨hx, hlt, wrap_succ (by omega), fun h => by cases h⟩)
    obtain ⟨h1, h2⟩ := hI hx
    refine ⟨h1, fun i hi => ?_⟩
    rcases Nat.lt_or_ge i k with h3 | h3
    · exact h2 i h3
    · obtain rfl : i = k := by omega
      have h : (((M.stAll kc nw d).getD i dfR).lo == ((M.stAll kc nw d).getD i dfR).hi) = true := h
      rw [stAll_get hlt] at h
      simpa using h
  have hge : k = kc.length := by have h1 : (M.stAll kc nw d).length ≤ k := ge_of_dec hb; omega
  subst hge
  refine wp_br (fun _ => rsEqv_refl _) (fun hx => ?_)
  have hx : ok = true := by simpa using hx
  obtain ⟨hag, hwh⟩ := hI hx
  have hAk := ages_iff.1 hag
  have ho : M.over kc (M.flows kc d) < 0 := hSt.over
  have hA : M.after kc nw (M.stAll kc nw d) [d] = (M.stAll kc nw d, 0) := by rw [after_one hs' hag hd ho, stead_stays hSt hwh hAk]
  rw [hA]
  have hone : eI.Is 1 (fun (i j : Nat) => List.getD [D.int IntKind.i64 d] (i * (1 : Nat) + j) D.nilp) := by
    intro i j hi hj
    obtain rfl : i = 0 := by omega
    obtain rfl : j = 0 := Nat.lt_one_iff.1 hj
    exact D.eqv_refl _
  have l1 : (M.stAll kc nw d).length ≤ 1000000 := by omega
  have l2 : kc.length ≤ 1000000 := by omega
  have l3 : (M.stAll kc nw d).length ≤ 100000 := by omega
  have l4 : kc.length ≤ 100000 := by omega
  refine ⟨l2, Nat.le_refl _, l1, Nat.le_refl _, Nat.le_refl _, Enc.is_F _ _ _, Enc.is_F _ _ _, hone, l4, l3, by show (1 : Nat) ≤ 100000; omega, ?_⟩
  refine br_f rfl ⟨Enc.is_F _ _ _, Enc.is_F _ _ _, rfl, l3, br_f rfl ⟨l1, Enc.is_F _ _ _, Nat.le_refl _, ?_⟩⟩
  refine range_wp (n := kc.length) (fun k s => s.1 = wdK (M.stAll kc nw d) w k) (wdK_zero _ _).symm ?_
  rintro k ⟨O, u3⟩ hk3 hO
  have hO : O = wdK (M.stAll kc nw d) w k := hO
  subst hO
  have hwl := wdK_len (M.stAll kc nw d) w k
  refine wp_br (fun hb => ?_) (fun hb => ?_)
  · have hlt : k < kc.length := by have h1 : k < (wdK (M.stAll kc nw d) w k).length := lt_of_dec hb; omega
    have e0 : (wdK (M.stAll kc nw d) w k).getD k dfR = (M.stAll kc nw d).getD k dfR := by rw [wdK_get (by omega), if_neg (by omega)]
    have hrow := hAk.row k hlt
    have k1 : IntKind.i64.wrap (((M.stAll kc nw d).getD k dfR).lo - w) = ((M.stAll kc nw d).getD k dfR).lo - w := wrap_id (by omega) (by omega)
    have k2 : IntKind.i64.wrap (((M.stAll kc nw d).getD k dfR).hi + w) = ((M.stAll kc nw d).getD k dfR).hi + w := wrap_id (by omega) (by omega)
    obtain ⟨o1, o2⟩ := put_rg (l := wdK (M.stAll kc nw d) w k) (k := k) (n := 2) (a := (wide1 w ((M.stAll kc nw d).getD k dfR)).lo) (b := (wide1 w ((M.stAll kc nw d).getD k dfR)).hi) (by omega) rfl
    have o3 := o2.trans (wdK_set (by omega))
    dsimp only [Int.toNat_natCast]
    simp only [e0, k1, k2]
    exact ⟨by omega, by omega, by omega, by omega, by omega, by omega, by omega, by omega, by omega, o1, Nat.le_refl _, hlt, wrap_succ (by omega), o3⟩
  have hge : k = kc.length := by have h1 : (wdK (M.stAll kc nw d) w k).length ≤ k := ge_of_dec hb; omega
  subst hge
  obtain ⟨O, hOd⟩ : ∃ O, O = wdK (M.stAll kc nw d) w kc.length := ⟨_, rfl⟩
  rw [← hOd] at hwl ⊢
  have hget : ∀ i, i < kc.length → O.getD i dfR = wide1 w ((M.stAll kc nw d).getD i dfR) := fun i hi => by rw [hOd, wdK_get (by omega), if_pos hi]
  have hOk : AgOk kc.length O := ⟨by omega, fun i hi => by rw [hget i hi]; exact (wide_ok hw.1 (hAk.row i hi)).1⟩
  have hin : ∀ i, i < kc.length → (O.getD i dfR).lo ≤ ((M.stAll kc nw d).getD i dfR).lo ∧ ((M.stAll kc nw d).getD i dfR).hi ≤ (O.getD i dfR).hi := fun i hi => by rw [hget i hi]; exact (wide_ok hw.1 (hAk.row i hi)).2
  have hY : M.after kc nw O [d] = (M.year kc nw O (M.flows kc d), 0) := after_one hs' (ages_iff.2 hOk) hd ho
  have hYl := year_len kc nw O (M.flows kc d)
  have hyw := fun i hi => year_wider hSt hAk hOk hin (k := i) hi
  rw [stead_stays hSt hwh hAk] at hyw
  dsimp only
  rw [hY]
  refine ⟨l2, Nat.le_refl _, Nat.le_refl _, Nat.le_refl _, Enc.is_F _ _ _, Enc.is_F _ _ _, hone, l4, by omega, by show (1 : Nat) ≤ 100000; omega, br_f rfl (br_f ?_ ?_)⟩
  · show (((M.year kc nw O (M.flows kc d)).length : Int) != ((M.stAll kc nw d).length : Int)) = false
    rw [hYl, hal]; exact bne_self_eq_false _
  refine range_wp (n := kc.length) (fun _ _ => True) trivial ?_
  rintro k u4 hk4 _
  refine wp_br (fun hb => ?_) (fun hb => rsEqv_refl _)
  have hlt : k < kc.length := by have h1 : k < (M.stAll kc nw d).length := lt_of_dec hb; omega
  obtain ⟨y1, y2⟩ := hyw k hlt
  have f1 : decide (((M.year kc nw O (M.flows kc d)).getD k dfR).lo > ((M.stAll kc nw d).getD k dfR).lo) = false := decide_eq_false (by omega)
  have f2 : decide (((M.year kc nw O (M.flows kc d)).getD k dfR).hi < ((M.stAll kc nw d).getD k dfR).hi) = false := decide_eq_false (by omega)
  refine br_f f1 ⟨by show (0 : Int) ≤ k; omega, by show (k : Int) < (M.year kc nw O (M.flows kc d)).length; omega, by show (0 : Int) ≤ k; omega, by show (k : Int) < (M.stAll kc nw d).length; omega, f1, by show (0 : Int) ≤ k; omega, by show (k : Int) < (M.year kc nw O (M.flows kc d)).length; omega, by show (0 : Int) ≤ k; omega, by show (k : Int) < (M.stAll kc nw d).length; omega, br_f f2 ⟨hlt, wrap_succ (by omega), trivial⟩⟩
def dom11 : DomF
  | [.agg [.sl _ n_sc st_sc F_sc, .int .i64 new], .c (.int .i64 d), .c (.int .u8 w)] => (match Nat.beq st_sc 4 with
    | true => some ([eSc.Is n_sc F_sc, 0 ≤ w ∧ w ≤ 255], [rB true])
    | _ => none)
  | _ => none
theorem C11 : FOK Try.prog G0 gw 11 dom11 := by
  intro ags p r hd hp κ w xs hw hl hG hx
  unfold dom11 at hd
  split at hd
  · rename_i q_sc n_sc st_sc F_sc new d w
    split at hd
    · rename_i hst
      have g1 := hst
      have g1 := Nat.eq_of_beq_eq_true g1
      subst g1
      simp only [Option.some.injEq, Prod.mk.injEq] at hd
      obtain ⟨rfl, rfl⟩ := hd
      obtain ⟨hI_sc, hp⟩ := hp
      have heq : agsEqv [.agg [.sl q_sc n_sc 4 F_sc, .int .i64 new], .c (.int .i64 d), .c (.int .u8 w)] [.agg [.sl q_sc (eSc.list n_sc F_sc).length 4 (eSc.F (eSc.list n_sc F_sc)), .int .i64 new], .c (.int .i64 d), .c (.int .u8 w)] := ⟨⟨eSc.to id hI_sc, rfl, trivial⟩, Ag.eqv_refl _, Ag.eqv_refl _, trivial⟩
      have len_sc : (eSc.list n_sc F_sc).length = n_sc := eSc.list_len
      generalize eSc.list n_sc F_sc = sc at *
      subst len_sc
      exact fokX_fin mixed gw_stable (sl := [v15, v27, v30, v37, v35, v66, v67, v39]) ⟨S15, S27, S30, S37, S35, S66, S67, S39, trivial⟩ Try.func11 hw hl hG hx heq rfl (t11 _ _ _ _ _) (w11 _ _ _ _ _ hp.1)
    · cases hd
  · cases hd
end Go.Pl
end

section
set_option linter.unusedVariables false
set_option linter.unusedSimpArgs false
namespace Go.Rw
open Go Go.ChangeShapes Go.WideShapes Go.RowKit Go.ChangeAt
open Go.V (F2 D fullK fullK_cell f2_append f2_len f2_get)
section
variable {H : Type} {enc : TypeId × Value → H} {P : Program} {w : World} {base : Nat} {sp : Nat → Bool} {hd : Bool}
theorem trodAll_below (hl : laidOutB P = true) {W W' : World} (hb : Below W.heap.size W W') : ∀ {ts : List TypeId} {vs : List Value} {ds : List (DataW H)} {ps : List MemPlace},
    (∀ t ∈ ts, P.readableRec t = true ∧ t < P.types.size) → DataW.TrodAll enc P W 0 (fun _ => true) true ts vs ds ps → (∀ x ∈ ps, x.block < W.heap.size) →
    DataW.TrodAll enc P W' 0 (fun b => decide (b < W.heap.size)) true ts vs ds ps
  | [], _, _, _, _, h, _ => by
    obtain ⟨rfl, rfl, rfl⟩ := trodAll_nil h
    exact trodAll_mk0
  | t :: ts, _, _, _, hr, h, hlt => by
    obtain ⟨v, vs1, d, ds1, a, b, rfl, rfl, rfl, h1, h2⟩ := trodAll_cons h
    refine ⟨a, b, ?_, trodAll_below hl hb (fun u hu => hr u (List.mem_cons_of_mem _ hu)) h2 fun x hx => hlt x (List.mem_append_right _ hx), rfl⟩
    have ht := hr t (List.mem_cons_self ..)
    exact Below.trod hl ht.1 ht.2 h1 hb fun x hx => hlt x (List.mem_append_left _ hx)
theorem law_post {fn : Func} {s : ChangeSpec} {apart fresh handsOn : Bool} {W W' : World} {args : Array Value} {ds gs : List (DataW H)} {before : List MemPlace} {tb : TypeId} (hl : laidOutB P = true)
    (hr : ∀ t ∈ fn.params.toList, P.readableRec t = true ∧ t < P.types.size) (hv : s.vars = []) (hrt : fn.resultTypes = #[tb]) (hbool : P.underlying tb = some .bool)
    (hfn : s.fn H ds = { results := [.lit (.bool true)], args := ds })
    (hW : DataW.Whole enc P fn.params.toList s.vars apart W args.toList ds gs before) (hb : Below W.heap.size W W') : s.post enc P fn apart fresh handsOn false W args (.bool true) W' := by
  have hW' := hW
  obtain ⟨p, q, hA, hV, rfl, _, _⟩ := hW'
  have hlt : ∀ x ∈ p ++ q, x.block < W.heap.size := fun x hx => hW.lt x hx
  rw [hv] at hV
  have hgs : gs = [] ∧ q = [] := by
    cases gs with
    | nil => exact ⟨rfl, hV⟩
    | cons g r => exact absurd hV (by intro h; cases h)
  obtain ⟨rfl, rfl⟩ := hgs
  have e : s.fn H (ds ++ []) = { results := [.lit (.bool true)], args := ds } := by rw [List.append_nil]; exact hfn
  refine ⟨ds, [], _, [], p, [], hW, ?_, ?_, ?_, hb.frame _, fun h => by cases h⟩
  · rw [e, hrt]
    exact trodAll_mk1 (shut_bool hbool true)
  · rw [e]
    exact trodAll_below hl hb hr hA fun x hx => hlt x (List.mem_append_left _ hx)
  · rw [e, hv]
    rfl
end
end Go.Rw
end

section
set_option linter.unusedVariables false
set_option linter.unusedSimpArgs false
namespace Go.Rw
open Go Go.ChangeShapes Go.WideShapes Go.RowKit Go.ChangeAt
open Go.V (F2 D fullK fullK_cell f2_append f2_len f2_get)
inductive SK where
  | i
  | s
  | sl (sh : List SK)
inductive DG : SK → D → Prop where
  | i (n : Int) : DG .i (.int .i64 n)
  | s (t : ByteArray) : DG .s (.str t)
  | sl (sh : List SK) (len : Nat) (F : Nat → Nat → D) (h : ∀ i j k, i < len → sh[j]? = some k → DG k (F i j)) : DG (.sl sh) (.sl false len sh.length F)
def MG (w : World) (k : SK) (v : Value) : Prop := ∃ d, DG k d ∧ D.rel (fullK w) d v
def sgFs (P : Program) (g : TypeId → Option (List SK)) : List Field → Nat → Nat → Option (List SK)
  | [], o, c => (match Nat.beq o c with | true => some [] | false => none)
  | f :: fs, o, c => (match Nat.beq f.offset o, g f.type, sgFs P g fs (o + P.cellsOf f.type) c with
    | true, some a, some b => some (a ++ b)
    | _, _, _ => none)
def sgArr (l : List SK) : Nat → List SK
  | 0 => []
  | n + 1 => l ++ sgArr l n
def sg (P : Program) : Nat → TypeId → Option (List SK)
  | 0, _ => none
  | k + 1, t => match P.underlying t with
    | some (.int .i64) => some [.i]
    | some .string => some [.s]
    | some (.struct fs) => sgFs P (sg P k) fs.toList 0 (P.cellsOf t)
    | some (.array n e) => (match sg P k e, Nat.beq (P.cellsOf t) (n * P.cellsOf e) with | some l, true => some (sgArr l n) | _, _ => none)
    | some (.slice e) => (match sg P k e with | some sh => (match Nat.beq (P.cellsOf e) sh.length && Nat.blt 0 sh.length with | true => some [.sl sh] | false => none) | none => none)
    | _ => none
section
variable {H : Type} {enc : TypeId × Value → H} {P : Program} {w : World} {base : Nat} {sp : Nat → Bool} {hd : Bool}
theorem sgFs_spec {R : SK → Value → Prop} {g : TypeId → Option (List SK)} : ∀ (fs : List Field) (o c : Nat) (cs : List Value) {l : List SK}, sgFs P g fs o c = some l → cs.length = c →
    (∀ f ∈ fs, ∀ l', g f.type = some l' → F2 R l' ((cs.drop f.offset).take (P.cellsOf f.type))) → F2 R l (cs.drop o)
  | [], o, c, cs, l, h, hl, _ => by
    unfold sgFs at h
    split at h
    · rename_i hb
      have : o = c := Nat.eq_of_beq_eq_true hb
      simp only [Option.some.injEq] at h
      subst h
      rw [this, ← hl, List.drop_length]
      exact .nil
    · cases h
  | f :: fs, o, c, cs, l, h, hl, hf => by
    simp only [sgFs] at h
    split at h
    · rename_i a b hb ha hrest
      have ho : f.offset = o := Nat.eq_of_beq_eq_true hb
      simp only [Option.some.injEq] at h
      subst h
      have h1 := hf f (List.mem_cons_self ..) a ha
      have h2 := sgFs_spec fs _ c cs hrest hl fun g hg => hf g (List.mem_cons_of_mem _ hg)
      rw [ho] at h1
      have e : cs.drop o = (cs.drop o).take (P.cellsOf f.type) ++ (cs.drop o).drop (P.cellsOf f.type) := (List.take_append_drop _ _).symm
      rw [e, List.drop_drop]
      exact f2_append h1 h2
    · cases h
theorem sgArr_spec {R : SK → Value → Prop} {l : List SK} {c : Nat} : ∀ (n : Nat) (cs : List Value), cs.length = n * c → (∀ i, i < n → F2 R l ((cs.drop (i * c)).take c)) → F2 R (sgArr l n) cs
  | 0, cs, h, _ => by
    have : cs = [] := List.length_eq_zero_iff.1 (by simpa using h)
    subst this
    exact .nil
  | n + 1, cs, h, hf => by
    have h0 := hf 0 (by omega)
    rw [Nat.zero_mul, List.drop_zero] at h0
    have hr := sgArr_spec (c := c) n (cs.drop c) (by rw [List.length_drop, h, Nat.succ_mul]; omega) fun i hi => by
      have := hf (i + 1) (by omega)
      rw [List.drop_drop, show c + i * c = (i + 1) * c by rw [Nat.succ_mul]; omega]
      exact this
    rw [← List.take_append_drop c cs]
    exact f2_append h0 hr
theorem trod_sg : ∀ (k fuel : Nat) (t : TypeId) (cs : List Value) (x : DataW H × List MemPlace) {l : List SK}, sg P k t = some l → DataW.trod enc P w base sp hd fuel t cs = some x → F2 (MG w) l cs
  | 0, _, _, _, _, _, h, _ => by cases h
  | k + 1, fuel, t, cs, x, l, h, hx => by
    unfold sg at h
    split at h
    · rename_i ht
      simp only [Option.some.injEq] at h
      subst h
      obtain ⟨n, rfl, rfl, _⟩ := DataW.trod_int ht hx
      exact .cons ⟨.int .i64 n, .i n, rfl⟩ .nil
    · rename_i ht
      simp only [Option.some.injEq] at h
      subst h
      obtain ⟨s, rfl, rfl, _⟩ := DataW.trod_string ht hx
      exact .cons ⟨.str s, .s s, rfl⟩ .nil
    · rename_i fs ht
      obtain ⟨xs, n, _, rfl, hl, hlen, hf⟩ := DataW.trod_struct ht hx
      have := sgFs_spec (P := P) (R := MG w) fs.toList 0 (P.cellsOf t) cs h hl (by
        intro f hm l' hl'
        obtain ⟨i, hi, hi'⟩ := List.getElem_of_mem hm
        have hgi : fs[i]? = some f := by rw [← Array.getElem?_toList, List.getElem?_eq_getElem hi, hi']
        have hlt : i < xs.length := by rw [hlen]; exact (Array.getElem?_eq_some_iff.1 hgi).1
        have hy : xs[i]? = some xs[i] := List.getElem?_eq_getElem hlt
        have := hf i f hgi
        rw [hy] at this
        exact trod_sg k n f.type _ _ hl' this)
      simpa using this
    · rename_i n e ht
      split at h
      · rename_i l' hl' hcb
        simp only [Option.some.injEq] at h
        subst h
        obtain ⟨xs, m, _, ex, hlen, hl, hel⟩ := DataW.trod_array ht hx
        have hcz : P.cellsOf t = n * P.cellsOf e := Nat.eq_of_beq_eq_true hcb
        refine sgArr_spec (c := P.cellsOf e) n cs (by rw [← hcz]; exact hlen) fun i hi => ?_
        have hlt : i < xs.length := by omega
        have hy : xs[i]? = some xs[i] := List.getElem?_eq_getElem hlt
        have := hel i hi
        rw [hy] at this
        exact trod_sg k m e _ _ hl' this
      · cases h
    · rename_i e ht
      split at h
      · rename_i sh hsh
        split at h
        · rename_i hc
          simp only [Option.some.injEq] at h
          subst h
          rw [Bool.and_eq_true] at hc
          have hn : P.cellsOf e = sh.length := Nat.eq_of_beq_eq_true hc.1
          have hn0 : 0 < sh.length := Nat.le_of_ble_eq_true hc.2
          rcases DataW.trod_slice ht hx with ⟨h1, _⟩ | ⟨a, len0, cap0, elems, rest, n', _, h1, _, _, hlc, _, hel, hget, _⟩
          · rw [h1]
            exact .cons ⟨.sl false 0 sh.length (fun _ _ => .nilp), .sl sh 0 _ (fun i j k hi => by omega), .inl ⟨rfl, rfl, rfl⟩⟩ .nil
          · rw [h1]
            rw [hn] at hget
            have each : ∀ i, i < len0 → ∀ j, j < sh.length → ∃ d, (∀ k', sh[j]? = some k' → DG k' d) ∧ ∃ y, w.cell? ((a.add (i * sh.length)).add j) = some y ∧ D.rel (fullK w) d y := by
              intro i hi j hj
              have hg := hget i hi
              have hlt : i < elems.length := by omega
              rw [List.getElem?_eq_getElem hlt] at hg
              simp only [Option.bind_eq_some_iff] at hg
              obtain ⟨cs, hcs, hx⟩ := hg
              have hF := trod_sg k n' e cs _ hsh hx
              obtain ⟨_, hl, hcell⟩ := World.cells?_some hcs
              obtain ⟨y, hy, hm⟩ := f2_get hF (i := j) (List.getElem?_eq_getElem hj)
              obtain ⟨d, hd1, hd2⟩ := hm
              have hcj := hcell j hj
              exact ⟨d, fun k' hk' => by rw [List.getElem?_eq_getElem hj] at hk'; cases hk'; exact hd1, y, by rw [hcj, hy], hd2⟩
            have spot0 : 0 < len0 → a.spot = none := by
              intro hp
              obtain ⟨_, _, y, hy, _⟩ := each 0 hp 0 hn0
              have := World.cell?_spot hy
              simpa [Addr.add] using this
            refine .cons ⟨.sl false len0 sh.length (fun i j => if h : i < len0 ∧ j < sh.length then Classical.choose (each i h.1 j h.2) else .nilp), .sl sh len0 _ (fun i j k' hi hk' => ?_), .inr ⟨a, cap0, rfl, hlc, spot0, fun i j hi hj => ?_⟩⟩ .nil
            · have hj : j < sh.length := (List.getElem?_eq_some_iff.1 hk').1
              simp only [dif_pos (And.intro hi hj)]
              exact (Classical.choose_spec (each i hi j hj)).1 k' hk'
            · obtain ⟨_, y, hy, hr⟩ := Classical.choose_spec (each i hi j hj)
              have hp : a.spot = none := spot0 (by omega)
              have e1 : (a.add (i * sh.length)).add j = ⟨a.block, a.off + i * sh.length + j, none⟩ := by
                obtain ⟨b, off, spot⟩ := a
                simp only at hp
                subst hp
                rw [Go.WideShapes.add_plain, Go.WideShapes.add_plain]
              rw [e1] at hy
              refine ⟨_, fullK_cell hy, ?_⟩
              simp only [dif_pos (And.intro hi hj)]
              exact hr
        · cases h
      · cases h
    · cases h
theorem open_st {r : Reach} {b0 : Nat} {t : TypeId} {fs : Array Field} {v : Value} {d : DataW H} {p : List MemPlace} (k : Nat) {l : List SK} (ht : P.underlying t = some (.struct fs)) (ha : sg P k t = some l)
    (hv : Value.okWide P w r b0 t v) (h : DataW.Trod enc P w base sp hd t v d p) : ∃ cs : List Value, F2 (MG w) l cs ∧ v = .agg cs.toArray := by
  obtain ⟨cs, rfl, hsz⟩ := okWide_struct ht hv
  obtain ⟨fuel, hf⟩ := h
  have hF : F2 (MG w) l cs.toList := trod_sg k fuel t _ _ ha hf
  exact ⟨cs.toList, hF, by rw [Array.toArray_toList]⟩
theorem mg_i {v : Value} (h : MG w .i v) : ∃ n, v = .int .i64 n := by
  obtain ⟨d, hd, hr⟩ := h
  cases hd with
  | i n => exact ⟨n, hr⟩
theorem mg_sl {sh : List SK} {v : Value} (h : MG w (.sl sh) v) : ∃ (len : Nat) (F : Nat → Nat → D), (D.sl false len sh.length F).rel (fullK w) v ∧ ∀ i j k, i < len → sh[j]? = some k → DG k (F i j) := by
  obtain ⟨d, hd, hr⟩ := h
  cases hd with
  | sl _ len F hF => exact ⟨len, F, hr, hF⟩
theorem dg_i {d : D} (h : DG .i d) : ∃ n, d = .int .i64 n := by cases h with | i n => exact ⟨n, rfl⟩
theorem dg_s {d : D} (h : DG .s d) : ∃ n, d = .str n := by cases h with | s n => exact ⟨n, rfl⟩
theorem dg_sl {sh : List SK} {d : D} (h : DG (.sl sh) d) : ∃ (len : Nat) (F : Nat → Nat → D), d = .sl false len sh.length F ∧ ∀ i j k, i < len → sh[j]? = some k → DG k (F i j) := by
  cases h with
  | sl _ len F hF => exact ⟨len, F, rfl, hF⟩
end
end Go.Rw
end
