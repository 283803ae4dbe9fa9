/- PlanTexts: whatever the input, the law answers true and its input reads as it did; the row lists variables of the library and flor.limits. Then the tied card. -/
import Derived.Test.YtbjimhgjbhlmnaaGreatDoorFY5
import Derived.Test.YtbjimhgjbhlmnaaGreatDoorTie
import Derived.Test.YtbjimhgjbhlmnaaGreatDoorCards
import Derived.JoinedOf
namespace Go.Proofs.YtbjimhgjbhlmnaaGreatDoor
open Go Go.ChangeShapes Go.WideShapes Go.ChangeAt Go.RowKit
set_option maxRecDepth 100000
theorem f2_cons {α β : Type} {R : α → β → Prop} {a : α} {l : List α} {cs : List β} (h : V.F2 R (a :: l) cs) : ∃ b k, cs = b :: k ∧ R a b ∧ V.F2 R l k := by
  cases h with
  | cons h1 h2 => exact ⟨_, _, rfl, h1, h2⟩
theorem f2_nil {α β : Type} {R : α → β → Prop} {cs : List β} (h : V.F2 R [] cs) : cs = [] := by cases h; rfl
theorem isS {n : Nat} {F : Nat → Nat → V.D} (h : ∀ i j k, i < n → ([.s] : List Rw.SK)[j]? = some k → Rw.DG k (F i j)) : Tx.eS.Is n F := by
  intro i j hi hj
  have hj : j < 1 := hj
  match j, hj with
  | 0, _ => obtain ⟨s, hs⟩ := Rw.dg_s (h i 0 .s hi rfl); show (F i 0).eqv (.str (Tx.rdS (F i) 0)); unfold Tx.rdS; rw [hs]; exact V.D.eqv_refl _
theorem isI {n : Nat} {F : Nat → Nat → V.D} (h : ∀ i j k, i < n → ([.i] : List Rw.SK)[j]? = some k → Rw.DG k (F i j)) : Tx.eI.Is n F := by
  intro i j hi hj
  have hj : j < 1 := hj
  match j, hj with
  | 0, _ => obtain ⟨s, hs, _⟩ := Rw.dg_i (h i 0 .i hi rfl); show (F i 0).eqv (Tx.dI (Tx.rdI (F i) 0)); unfold Tx.rdI; rw [hs]; exact V.D.eqv_refl _
theorem inL {n : Nat} {F : Nat → Nat → V.D} (h : ∀ i j k, i < n → ([.i] : List Rw.SK)[j]? = some k → Rw.DG k (F i j)) : ∀ v, v ∈ Tx.eI.list n F → Tx.inI v := by
  intro v hv
  unfold V.Enc.list at hv
  obtain ⟨i, hi, rfl⟩ := List.mem_map.1 hv
  obtain ⟨s, hs, h1, h2⟩ := Rw.dg_i (h i 0 .i (List.mem_range.1 hi) rfl)
  show Tx.inI (Tx.rdI (F i) 0)
  unfold Tx.rdI; rw [hs]; exact ⟨h1, h2⟩
theorem isC4 {n : Nat} {F : Nat → Nat → V.D} (h : ∀ i j k, i < n → ([.i, .i, .i, .i] : List Rw.SK)[j]? = some k → Rw.DG k (F i j)) : Go.Pl.eSc.Is n F := by
  intro i j hi hj
  have hj : j < 4 := hj
  match j, hj with
  | 0, _ => obtain ⟨s, hs, _⟩ := Rw.dg_i (h i 0 .i hi rfl); show (F i 0).eqv (Go.Pl.dI (Go.Pl.rdI (F i) 0)); unfold Go.Pl.rdI; rw [hs]; exact V.D.eqv_refl _
  | 1, _ => obtain ⟨s, hs, _⟩ := Rw.dg_i (h i 1 .i hi rfl); show (F i 1).eqv (Go.Pl.dI (Go.Pl.rdI (F i) 1)); unfold Go.Pl.rdI; rw [hs]; exact V.D.eqv_refl _
  | 2, _ => obtain ⟨s, hs, _⟩ := Rw.dg_i (h i 2 .i hi rfl); show (F i 2).eqv (Go.Pl.dI (Go.Pl.rdI (F i) 2)); unfold Go.Pl.rdI; rw [hs]; exact V.D.eqv_refl _
  | 3, _ => obtain ⟨s, hs, _⟩ := Rw.dg_i (h i 3 .i hi rfl); show (F i 3).eqv (Go.Pl.dI (Go.Pl.rdI (F i) 3)); unfold Go.Pl.rdI; rw [hs]; exact V.D.eqv_refl _
theorem inC4 {n : Nat} {F : Nat → Nat → V.D} (h : ∀ i j k, i < n → ([.i, .i, .i, .i] : List Rw.SK)[j]? = some k → Rw.DG k (F i j)) : ∀ c, c ∈ Go.Pl.eSc.list n F → ∀ v, v ∈ Tx.M.scL c → Tx.inI v := by
  intro c hc v hv
  unfold V.Enc.list at hc
  obtain ⟨i, hi, rfl⟩ := List.mem_map.1 hc
  have hi := List.mem_range.1 hi
  have key : ∀ j : Nat, ([.i, .i, .i, .i] : List Rw.SK)[j]? = some .i → Tx.inI (Go.Pl.rdI (F i) j) := fun j hj => by
    obtain ⟨s, hs, h1, h2⟩ := Rw.dg_i (h i j .i hi hj)
    unfold Go.Pl.rdI; rw [hs]; exact ⟨h1, h2⟩
  have hv : v ∈ [Go.Pl.rdI (F i) 0, Go.Pl.rdI (F i) 1, Go.Pl.rdI (F i) 2, Go.Pl.rdI (F i) 3] := hv
  simp only [List.mem_cons, List.not_mem_nil, or_false] at hv
  rcases hv with rfl | rfl | rfl | rfl
  · exact key 0 rfl
  · exact key 1 rfl
  · exact key 2 rfl
  · exact key 3 rfl
theorem mg_str {W : World} {v : Value} (h : Rw.MG W .s v) : ∃ s, v = .string s := by
  obtain ⟨d, hd, hr⟩ := h
  obtain ⟨s, rfl⟩ := Rw.dg_s hd
  exact ⟨s, hr⟩
theorem planTexts_lifted (os : Os) (started : os.Started) (H : Type) (enc : TypeId × Value → H) :
    ReturnsInHanded {} Tryz.checked os 4 .any (fun w args => (Rows.planTextsSpec.pre enc Tryz.prog Tryz.f4 [] false w args ∧ laidMetH Tryz.prog laid7 w) ∧ sizedMet enc Tryz.prog Tryz.f4 (OpenSpec.ofChange Rows.planTextsSpec) false w args)
      (Rows.planTextsSpec.post enc Tryz.prog Tryz.f4 false true false false) := by
  refine handed_and (C := Tryz.checked) (X := fun w _ => laidMetH Tryz.prog laid7 w) (fun _ _ _ hh h => h.of_heap hh) own started (by kernel_rfl) Tryz.func4
    (ChangeSpec.witness_shaped (enc := enc) (C := Tryz.checked) (os := os) (X := fun w _ => laidMetH Tryz.prog laid7 w) false (World.laidAll Tryz.prog os laid7) #[.agg #[.slice none 0 0, .int .i64 0], .string ByteArray.empty] 8 (World.laidAll_os _ _ _) (World.shaped_of_RefB (by kernel_rfl) (by kernel_rfl)) (by kernel_rfl) (by kernel_rfl) (by kernel_rfl) (door_met os _)) ?_
  intro W base args ds gs before hval0 hW hsh hL
  have hval : ∀ (j : Nat) t v, Tryz.f4.params[j]? = some t → args[j]? = some v → Value.okWide Tryz.prog W .any base t v := hval0
  have hW' := hW
  obtain ⟨p, q, hA0, hV, rfl, hfz, hnd⟩ := hW
  have hA : DataW.TrodAll enc Tryz.prog W 0 (fun _ => true) true Tryz.f4.params.toList args.toList ds p := hA0
  rw [Tryz.params4] at hA hval
  obtain ⟨v0, v1, d0, d1, p0, p1, rfl, rfl, rfl, h0, h1⟩ := trodAll_two hA
  obtain ⟨k0, g0_0, rfl⟩ := Rw.open_st 9 (l := [.sl [.i, .i, .i, .i], .i]) Tryz.underlying39 (by kernel_rfl) (hval 0 39 v0 rfl rfl) h0
  obtain ⟨b0_0, k0_0, rfl, a0_0, g0_1⟩ := f2_cons g0_0
  obtain ⟨len0_0, f0_0, r0_0, i0_0⟩ := Rw.mg_sl a0_0
  obtain ⟨b0_1, k0_1, rfl, a0_1, g0_2⟩ := f2_cons g0_1
  obtain ⟨x0_1, rfl, r0_1⟩ := Rw.mg_i a0_1
  obtain rfl := f2_nil g0_2
  obtain ⟨s1, rfl⟩ := okWide_string Tryz.underlying9 (hval 1 9 v1 rfl rfl)
  have hc := Tx.C4r [.agg [.sl false len0_0 4 f0_0, .int .i64 x0_1], .c (.str s1)] _ _ rfl ⟨isC4 i0_0, r0_1, inC4 i0_0, trivial⟩ (V.fullK W) W _ (gw_of_laid hL hsh) (V.fullK_lies W) (gin_of_laid hL) (.cons ⟨_, (.cons r0_0 (.cons rfl .nil)), rfl⟩ (.cons rfl .nil))
  refine hc.mono fun e W' ⟨x, _, he, _, _, _, hr, hb⟩ => ?_
  subst he
  have hx : x = .bool true := hr
  subst hx
  have hall : ([39, 9].all fun u => Tryz.prog.readableRec u && decide (u < Tryz.prog.types.size)) = true := by kernel_rfl
  have hread : ∀ t ∈ Tryz.f4.params.toList, Tryz.prog.readableRec t = true ∧ t < Tryz.prog.types.size := by
    intro t ht
    rw [Tryz.params4] at ht
    have h9 := List.all_eq_true.1 hall t ht
    rw [Bool.and_eq_true, decide_eq_true_eq] at h9
    exact h9
  exact ⟨_, rfl, Rw.law_post (P := Tryz.prog) (tb := 4) laidOut hread rfl (by kernel_rfl) Tryz.underlying4 rfl hW' hb⟩
theorem planTexts_holds : Rows.PlanTextsSaid :=
  OpenClaim.holds_of_wide 4 Tryz.f4 rfl rfl rfl rfl rfl rfl rfl ⟨rfl, rfl, rfl, rfl, rfl⟩ rfl rfl rfl rfl rfl (by kernel_rfl) Tryz.func4 (by kernel_rfl)
    (of_decide_eq_true (by kernel_rfl)) (by unfold Func.isWrapper; first | (rw [if_pos (by decide +kernel)]; kernel_rfl) | (rw [if_neg (by decide +kernel)]; exact ⟨rfl, rfl⟩))
    (fun os started H enc _ => planTexts_lifted os started H enc)
theorem planTexts_card : Rows.PlanTextsCardSaid :=
  Claim7.holds_tied_plain_at .later [] [.data, .data, .data, .data, .sentinel, .sentinel, .pinned] true (true, "b9b21e11dbebd2c0b00271ef6b8c691071608bb64311c02d59842101aaf4cb0a") true
    planTexts_holds (fun _ h => by cases h) (by kernel_rfl) (fun _ h => by cases h) planTexts_row_tie rfl ⟨rfl, rfl⟩ (by kernel_rfl) rfl
    (fun f fn hf hfn => by
      obtain rfl : f = 4 := Option.some.inj ((show Tryz.prog.funcNamed "criadera/criaderalaw06.PlanTexts" = some 4 by kernel_rfl).symm.trans hf) |>.symm
      obtain rfl : fn = Tryz.f4 := (Option.some.inj (Tryz.func4.symm.trans hfn)).symm
      exact ⟨by kernel_rfl, fun j t ht => by
        rw [Tryz.params4] at ht
        have hm : t ∈ [39, 9] := by simpa using Array.mem_of_getElem? ht
        have hall : ([39, 9].all fun u => !Tryz.prog.wantsStandIn u) = true := by kernel_rfl
        exact (show Tryz.prog.wantsStandIn t = false by simpa using List.all_eq_true.1 hall t hm)⟩)
    (by kernel_rfl)
#print axioms planTexts_card
end Go.Proofs.YtbjimhgjbhlmnaaGreatDoor
