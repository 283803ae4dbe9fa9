/- The engine, part 8: a region in whatever order; code; a function. -/
import Derived.Test.YtcgdcocmnmkhlaaDoorE7
namespace Go.Eng
open Go.RowKit (Below)

/-- All that must hold of a region's record if its order is drawn. -/
def anyOk (ops : Array Oper) (L : List Item) : Bool :=
  match masks ops.toList [] with
  | M => masksOk M ops.toList 0 && allPairsOk ops M L ops.toList L 0

theorem count_set : ∀ {l : List Bool} {j : Nat} (hj : j < l.length), l[j] = false → ((l.set j true).filter id).length = (l.filter id).length + 1
  | [], j, hj, _ => by simp at hj
  | x :: l, 0, _, h => by simp at h; subst h; simp
  | x :: l, j + 1, hj, h => by
    have := count_set (l := l) (j := j) (by simpa using hj) (by simpa using h)
    cases x <;> simp [this]

section
variable {P : Program} {G n0 N : Nat} {sg : FuncId → Option Sm} {gw : World → Prop} {w0 : World} {ρ : Ren} {a : Act} {w : World} {Q : Exit → Act → World → Prop}

theorem mem_ready' {ops : Array Oper} {listed : Array Bool} {j : Nat} (h : j ∈ Region.ready .any ops listed) :
    ∃ o, ops[j]? = some o ∧ j < ops.size ∧ listed.getD j true = false ∧ ∀ e ∈ o.after.toList, Region.binds .any e = true → listed.getD e.on false = true := by
  unfold Region.ready at h
  rw [List.mem_filter, List.mem_range] at h
  obtain ⟨hj, h2⟩ := h
  have ho : ops[j]? = some ops[j] := Array.getElem?_eq_getElem hj
  rw [ho] at h2
  simp only [Option.map_some, Option.getD_some, Bool.and_eq_true, Bool.not_eq_true'] at h2
  refine ⟨_, ho, hj, h2.1, fun e he hb => ?_⟩
  have := Array.all_eq_true_iff_forall_mem.1 h2.2 e (by simpa using he)
  rw [hb] at this
  simpa using this

theorem ready_nil {ops : Array Oper} {listed : Array Bool} (hs : listed.size = ops.size) {M : List Nat} (hM : masksOk M ops.toList 0 = true) (h : Region.ready .any ops listed = []) :
    ∀ i, i < ops.size → listed.getD i false = true := by
  intro i
  induction i using Nat.strongRecOn with
  | _ i ih =>
    intro hi
    cases hl : listed.getD i false with
    | true => rfl
    | false =>
      exfalso
      have ho : ops[i]? = some ops[i] := Array.getElem?_eq_getElem hi
      have hm := (masksOk_at hM (k := i) (o := ops[i]) (by rw [Array.getElem?_toList]; exact ho)).2
      have : i ∈ Region.ready .any ops listed := by
        unfold Region.ready
        rw [List.mem_filter, List.mem_range]
        refine ⟨hi, ?_⟩
        rw [ho]
        simp only [Option.map_some, Option.getD_some, Bool.and_eq_true, Bool.not_eq_true']
        constructor
        · have hi' : i < listed.size := by omega
          rw [Array.getD_eq_getD_getElem?, Array.getElem?_eq_getElem hi'] at hl ⊢
          simpa using hl
        · rw [Array.all_eq_true_iff_forall_mem]
          intro e he
          by_cases hb : Region.binds .any e = true
          · have h1 := hm e (by simpa using he) hb
            rw [hb, ih e.on (by omega) (by omega)]; rfl
          · simp [hb]
      rw [h] at this; simp at this

theorem region_any (hsg : ∀ f σ, sg f = some σ → SumOK P gw f σ) (hst : ∀ w w', gw w → Below w.heap.size w w' → gw w') (hgw0 : gw w0) {ops : Array Oper} {orc : Nat → Option Bool} {c c' : Nat} {s s' : S} {L : List Item} {q : List Prop}
    (hr : rrun P G n0 N sg ops orc ops.toList 0 c s = .done L s' c' q) (hq : All q) (hok : anyOk ops L = true) (h : Rel w0 n0 N ρ s a w) (hgl : ∀ g, g < G → ρ g = some (g, 0))
    (hQ : ∀ a' w' ρ', Rel w0 n0 N ρ' s' a' w' → ρ.le ρ' → Q .normal a' w') : wpAny P .any ops Q ops.size (Array.replicate ops.size false) a w := by
  obtain ⟨hlen, hs', hall⟩ := rrun_spec hr hq
  unfold anyOk at hok
  simp only [Bool.and_eq_true] at hok
  obtain ⟨hM, hP⟩ := hok
  generalize masks ops.toList [] = M at hM hP
  have key : ∀ fuel (listed : Array Bool) (a : Act) (w : World) (ρ1 : Ren), listed.size = ops.size → ops.size ≤ fuel + (listed.toList.filter id).length →
      (∀ j o, ops[j]? = some o → listed.getD j false = true → ∀ e ∈ o.after.toList, Region.binds .any e = true → listed.getD e.on false = true) →
      Rel w0 n0 N ρ1 (runL (fun k => listed.getD k false) L 0 s) a w → ρ.le ρ1 → wpAny P .any ops Q fuel listed a w := by
    have fin : ∀ (listed : Array Bool) (a : Act) (w : World) (ρ1 : Ren), listed.size = ops.size → Region.ready .any ops listed = [] →
        Rel w0 n0 N ρ1 (runL (fun k => listed.getD k false) L 0 s) a w → ρ.le ρ1 → Q .normal a w := by
      intro listed a w ρ1 hs hnil h1 hle
      have hf := ready_nil hs hM hnil
      refine hQ a w ρ1 ?_ hle
      rw [hs', ← runL_all (D := fun k => listed.getD k false) L 0 s (fun k hk => by
        rw [Nat.zero_add]; exact hf k (by rw [hlen] at hk; simpa using hk))]
      exact h1
    intro fuel
    induction fuel with
    | zero =>
      intro listed a w ρ1 hs hcount hcl h1 hle
      have hfull : ∀ i, i < ops.size → listed.getD i false = true := by
        intro i hi
        have hl : (listed.toList.filter id).length = listed.toList.length := by
          have := List.length_filter_le id listed.toList
          simp at this hcount ⊢; omega
        rw [List.length_filter_eq_length_iff] at hl
        have hi' : i < listed.size := by omega
        have := hl listed[i] (by simp)
        rw [Array.getD_eq_getD_getElem?, Array.getElem?_eq_getElem hi']
        simpa using this
      have hnil : Region.ready .any ops listed = [] := by
        rw [List.eq_nil_iff_forall_not_mem]
        intro j hj
        obtain ⟨o, _, hlt, hn, _⟩ := mem_ready' hj
        have := hfull j hlt
        have hi' : j < listed.size := by omega
        rw [Array.getD_eq_getD_getElem?, Array.getElem?_eq_getElem hi'] at hn this
        simp at hn this
        rw [hn] at this; cases this
      exact ⟨hnil, fin listed a w ρ1 hs hnil h1 hle⟩
    | succ fuel ih =>
      intro listed a w ρ1 hs hcount hcl h1 hle
      refine ⟨fun hnil => fin listed a w ρ1 hs hnil h1 hle, ?_⟩
      intro j hj
      obtain ⟨o, ho, hjlt, hnot, hpre⟩ := mem_ready' hj
      have hjs : j < listed.size := by omega
      have hnot' : listed.getD j false = false := by
        rw [Array.getD_eq_getD_getElem?, Array.getElem?_eq_getElem hjs] at hnot ⊢
        simpa using hnot
      have hjL : j < L.length := by rw [hlen]; simpa using hjlt
      obtain ⟨k1, p, k2, k3⟩ := hall j o L[j] (by rw [Array.getElem?_toList]; exact ho) (List.getElem?_eq_getElem hjL)
      simp only [Nat.zero_add] at k2
      have hpairs := allPairsOk_at hP (k := j) (o := o) (y := L[j]) (by rw [Array.getElem?_toList]; exact ho) (List.getElem?_eq_getElem hjL)
      rw [Nat.zero_add] at hpairs
      -- what comes before one that has run has run
      have hdown : ∀ (i k : Nat), listed.getD i false = true → (M.getD i 0).testBit k = true → listed.getD k false = true := by
        intro i
        induction i using Nat.strongRecOn with
        | _ i ihd =>
          intro k hi hk
          have his : i < ops.size := by
            have : i < listed.size := by
              by_cases hlt : i < listed.size
              · exact hlt
              · rw [Array.getD_eq_getD_getElem?, Array.getElem?_eq_none (by omega)] at hi; simp at hi
            omega
          have hoi : ops[i]? = some ops[i] := Array.getElem?_eq_getElem his
          obtain ⟨m1, m2⟩ := masksOk_at hM (k := i) (o := ops[i]) (by rw [Array.getElem?_toList]; exact hoi)
          rw [Nat.zero_add] at m1 m2
          rw [m1] at hk
          obtain ⟨e, he, hb, hor⟩ := maskE_bit hk
          have h1 := hcl i _ hoi hi e he hb
          rcases hor with rfl | hor
          · exact h1
          · exact ihd e.on (m2 e he hb) k h1 hor
      have hbefore : ∀ k, (M.getD j 0).testBit k = true → listed.getD k false = true := by
        intro k hk
        obtain ⟨m1, m2⟩ := masksOk_at hM (k := j) (o := o) (by rw [Array.getElem?_toList]; exact ho)
        rw [Nat.zero_add] at m1 m2
        rw [m1] at hk
        obtain ⟨e, he, hb, hor⟩ := maskE_bit hk
        rcases hor with rfl | hor
        · exact hpre e he hb
        · exact hdown e.on k (hpre e he hb) hor
      -- an operation that j conflicts with has run just if it stands before j
      have hsame : ∀ k x, L[k]? = some x → k ≠ j → conf (uses ops o) x L[j] = true → listed.getD k false = Nat.blt k j := by
        intro k x hx hne hc
        have hp := pairsOk_at hpairs hx (by omega) hc
        rw [Nat.zero_add] at hp
        by_cases hlt : k < j
        · rw [hbefore k (hp.1 hlt)]; rw [eq_comm, Nat.blt_eq]; exact hlt
        · have hgt : j < k := by omega
          have : Nat.blt k j = false := by rw [← Bool.not_eq_true, Nat.blt_eq]; omega
          rw [this]
          cases hk : listed.getD k false with
          | false => rfl
          | true => have := hdown k j hk (hp.2 hgt); rw [hnot'] at this; cases this
      have hmem : ∀ {d : Nat} {l : List Nat}, d ∈ l → l.elem d = true := fun h => List.elem_eq_true_of_mem h
      have a1 : ∀ t, t ∈ uses ops o → (runL (fun k => listed.getD k false) L 0 s).tm t = (runL (fun k => Nat.blt k j) L 0 s).tm t := by
        intro t ht
        refine runL_tm L 0 s s rfl (fun k x hx hxt => ?_)
        rw [Nat.zero_add]
        by_cases e : k = j
        · subst e
          rw [hnot', eq_comm, ← Bool.not_eq_true, Nat.blt_eq]; omega
        · exact hsame k x hx e (by unfold conf; rw [hxt]; simp only [hmem ht, Bool.true_or])
      have a2 : ∀ m, (m ∈ L[j].2.rd ∨ m ∈ L[j].2.touch) → (runL (fun k => listed.getD k false) L 0 s).hp m = (runL (fun k => Nat.blt k j) L 0 s).hp m := by
        intro m hm
        refine runL_hp L 0 s s rfl (fun k x hx hxm => ?_)
        rw [Nat.zero_add]
        by_cases e : k = j
        · subst e
          rw [hnot', eq_comm, ← Bool.not_eq_true, Nat.blt_eq]; omega
        · refine hsame k x hx e ?_
          unfold conf
          rw [Bool.or_eq_true]; right
          rw [List.any_eq_true]
          refine ⟨m, hxm, ?_⟩
          rcases hm with hm | hm
          · rw [hmem hm]; rfl
          · rw [hmem hm]; simp
      have st := stepA_sound (Q := Q) hsg (fun g hg => hle _ _ (hgl g hg)) (hst _ _ hgw0 h1.bel) ho k2 k3 h1 a1 (fun m hm => a2 m (.inl hm)) (fun m hm => a2 m (.inr hm))
      refine wpOp_mono ?_ st
      rintro a' w' ⟨ρ', hrel, hle'⟩
      refine ih (listed.setIfInBounds j true) a' w' ρ' (by simpa using hs) ?_ ?_ ?_ (Ren.le_trans hle hle')
      · have : ((listed.setIfInBounds j true).toList.filter id).length = (listed.toList.filter id).length + 1 := by
          rw [Array.toList_setIfInBounds]
          have hjl : j < listed.toList.length := by simpa using hjs
          have hval : listed.toList[j] = false := by
            rw [Array.getD_eq_getD_getElem?, Array.getElem?_eq_getElem hjs] at hnot'
            simpa using hnot'
          exact count_set hjl hval
        omega
      · intro i oi hoi hi e he hb
        by_cases hij : i = j
        · subst hij
          rw [ho] at hoi; cases hoi
          have := hpre e he hb
          by_cases hej : e.on = i
          · rw [hej] at this; rw [hnot'] at this; cases this
          · rw [getD_set_ne _ (fun h => hej h.symm)]; exact this
        · rw [getD_set_ne _ (fun h => hij h.symm)] at hi
          exact getD_set_true (hcl i oi hoi hi e he hb)
      · have e := runL_ins (D := fun k => listed.getD k false) (D' := fun k => (listed.setIfInBounds j true).getD k false) L[j] L 0 j s (List.getElem?_eq_getElem hjL)
          (by rw [Nat.zero_add]; exact hnot')
          (by rw [Nat.zero_add, Array.getD_eq_getD_getElem?, Array.getElem?_setIfInBounds]; simp [hjs])
          (fun k hk => by rw [Nat.zero_add] at hk; exact getD_set_ne _ (fun h => hk h.symm))
          (fun k y hy hjk hD t => by
            rw [Nat.zero_add] at hD
            have hnc : conf (uses ops o) y L[j] = false := by
              cases hc : conf (uses ops o) y L[j] with
              | false => rfl
              | true =>
                have := hsame k y hy (by omega) hc
                rw [hD, eq_comm, Nat.blt_eq] at this; omega
            unfold conf at hnc
            rw [Bool.or_eq_false_iff] at hnc
            refine doit_comm y L[j] t ?_ ?_
            · intro d hd hd'
              rw [hd] at hnc
              have : d ∈ uses ops o := by unfold uses; rw [k1] at hd'; rw [hd']; simp
              have := hmem this
              simp only at hnc
              rw [this] at hnc; cases hnc.1
            · intro m hm hm'
              have := hnc.2
              rw [List.any_eq_false] at this
              have := this m hm
              rw [hmem hm'] at this; simp at this)
        rw [e, k1]; exact hrel
  refine key ops.size _ a w ρ (by simp) (by omega) ?_ ?_ (Ren.le_refl _)
  · intro j o _ hj
    exfalso
    rw [Array.getD_eq_getD_getElem?, Array.getElem?_replicate] at hj
    split at hj <;> simp at hj
  · have : ∀ (l : List Item) (i : Nat), runL (fun k => (Array.replicate ops.size false).getD k false) l i s = s := by
      intro l
      induction l with
      | nil => intro i; rfl
      | cons x l ih =>
        intro i
        have : (Array.replicate ops.size false).getD i false = false := by
          rw [Array.getD_eq_getD_getElem?, Array.getElem?_replicate]; split <;> simp
        simp only [runL, this, Bool.false_eq_true, if_false]
        exact ih _
    rw [this]; exact h

end
end Go.Eng
