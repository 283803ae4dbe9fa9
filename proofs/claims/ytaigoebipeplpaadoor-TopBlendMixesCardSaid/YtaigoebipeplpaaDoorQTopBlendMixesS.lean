/- Blended is mixed: whatever the input, the law answers true and its input reads as it did; the row lists flor.limits. Then the tied card. -/
import Derived.Test.YtaigoebipeplpaaDoorFM6
import Derived.Test.YtaigoebipeplpaaDoorTie
import Derived.Test.YtaigoebipeplpaaDoorCards
import Derived.JoinedOf
namespace Go.Proofs.YtaigoebipeplpaaDoor
open Go Go.ChangeShapes Go.WideShapes Go.ChangeAt Go.RowKit
set_option maxRecDepth 100000
theorem isC {n : Nat} {F : Nat → Nat → V.D} (h : ∀ i j k, i < n → ([.s, .i, .i, .i, .i, .i, .i] : List Rw.SK)[j]? = some k → Rw.DG k (F i j)) : Bl.eC.Is n F := by
  intro i j hi hj
  have hj : j < 7 := hj
  match j, hj with
  | 0, _ => obtain ⟨s, hs⟩ := Rw.dg_s (h i 0 .s hi rfl); show (F i 0).eqv (.str (Bl.rdS (F i) 0)); unfold Bl.rdS; rw [hs]; exact V.D.eqv_refl _
  | 1, _ => obtain ⟨s, hs⟩ := Rw.dg_i (h i 1 .i hi rfl); show (F i 1).eqv (Bl.dI (Bl.rdI (F i) 1)); unfold Bl.rdI; rw [hs]; exact V.D.eqv_refl _
  | 2, _ => obtain ⟨s, hs⟩ := Rw.dg_i (h i 2 .i hi rfl); show (F i 2).eqv (Bl.dI (Bl.rdI (F i) 2)); unfold Bl.rdI; rw [hs]; exact V.D.eqv_refl _
  | 3, _ => obtain ⟨s, hs⟩ := Rw.dg_i (h i 3 .i hi rfl); show (F i 3).eqv (Bl.dI (Bl.rdI (F i) 3)); unfold Bl.rdI; rw [hs]; exact V.D.eqv_refl _
  | 4, _ => obtain ⟨s, hs⟩ := Rw.dg_i (h i 4 .i hi rfl); show (F i 4).eqv (Bl.dI (Bl.rdI (F i) 4)); unfold Bl.rdI; rw [hs]; exact V.D.eqv_refl _
  | 5, _ => obtain ⟨s, hs⟩ := Rw.dg_i (h i 5 .i hi rfl); show (F i 5).eqv (Bl.dI (Bl.rdI (F i) 5)); unfold Bl.rdI; rw [hs]; exact V.D.eqv_refl _
  | 6, _ => obtain ⟨s, hs⟩ := Rw.dg_i (h i 6 .i hi rfl); show (F i 6).eqv (Bl.dI (Bl.rdI (F i) 6)); unfold Bl.rdI; rw [hs]; exact V.D.eqv_refl _
theorem isI {n : Nat} {F : Nat → Nat → V.D} (h : ∀ i j k, i < n → ([.i] : List Rw.SK)[j]? = some k → Rw.DG k (F i j)) : Bl.eI.Is n F := by
  intro i j hi hj
  have hj : j < 1 := hj
  match j, hj with
  | 0, _ => obtain ⟨s, hs⟩ := Rw.dg_i (h i 0 .i hi rfl); show (F i 0).eqv (Bl.dI (Bl.rdI (F i) 0)); unfold Bl.rdI; rw [hs]; exact V.D.eqv_refl _
theorem f2_cons {α β : Type} {R : α → β → Prop} {a : α} {l : List α} {cs : List β} (h : V.F2 R (a :: l) cs) : ∃ b k, cs = b :: k ∧ R a b ∧ V.F2 R l k := by
  cases h with
  | cons h1 h2 => exact ⟨_, _, rfl, h1, h2⟩
theorem f2_nil {α β : Type} {R : α → β → Prop} {cs : List β} (h : V.F2 R [] cs) : cs = [] := by cases h; rfl
theorem topBlendMixes_lifted (os : Os) (started : os.Started) (H : Type) (enc : TypeId × Value → H) :
    ReturnsInHanded {} Tryd.checked os 3 .any (fun w args => (Rows.topBlendMixesSpec.pre enc Tryd.prog Tryd.f3 [] false w args ∧ laidMetH Tryd.prog laid1 w) ∧ sizedMet enc Tryd.prog Tryd.f3 (OpenSpec.ofChange Rows.topBlendMixesSpec) false w args)
      (Rows.topBlendMixesSpec.post enc Tryd.prog Tryd.f3 false true false false) := by
  refine returnsInHanded_of_change_and (C := Tryd.checked) (X := fun w _ => laidMetH Tryd.prog laid1 w) (fun _ _ _ hh h => h.of_heap hh) own started (by kernel_rfl) Tryd.func3
    (ChangeSpec.witness_shaped (enc := enc) (C := Tryd.checked) (os := os) (X := fun w _ => laidMetH Tryd.prog laid1 w) false (World.doorLaid Tryd.prog 400 os) #[.slice none 0 0, .slice none 0 0] 8 rfl (World.shaped_of_RefB (by kernel_rfl) (by kernel_rfl)) (by kernel_rfl) (by kernel_rfl) (by kernel_rfl) (door_met os _)) ?_
  intro W base args ds gs before hval0 hW _ _ hL _
  have hval : ∀ (j : Nat) t v, Tryd.f3.params[j]? = some t → args[j]? = some v → Value.okWide Tryd.prog W .any base t v := hval0
  have hW' := hW
  obtain ⟨p, q, hA0, hV, rfl, hfz, hnd⟩ := hW
  have hA : DataW.TrodAll enc Tryd.prog W 0 (fun _ => true) true Tryd.f3.params.toList args.toList ds p := hA0
  rw [Tryd.params3] at hA hval
  obtain ⟨v0, v1, d0, d1, p0, p1, rfl, rfl, rfl, h0, h1⟩ := trodAll_two hA
  obtain ⟨len0, f0, r0, i0⟩ := Rw.mg_sl (Rw.open_sl 9 (sh := [.s, .i, .i, .i, .i, .i, .i]) Tryd.underlying22 (by kernel_rfl) (hval 0 22 v0 rfl rfl) h0)
  obtain ⟨len1, f1, r1, i1⟩ := Rw.mg_sl (Rw.open_sl 9 (sh := [.i]) Tryd.underlying23 (by kernel_rfl) (hval 1 23 v1 rfl rfl) h1)
  have hc := Bl.C3w [.c (.sl false len0 7 f0), .c (.sl false len1 1 f1)] _ _ rfl ⟨isC i0, isI i1, trivial⟩ (V.fullK W) W _ trivial (V.fullK_lies W) (gin_of_laid hL) (.cons r0 (.cons r1 .nil))
  refine hc.mono fun e W' ⟨x, _, he, _, _, _, hr, hb⟩ => ?_
  subst he
  have hx : x = .bool true := hr
  subst hx
  have hall : ([22, 23].all fun u => Tryd.prog.readableRec u && decide (u < Tryd.prog.types.size)) = true := by kernel_rfl
  have hread : ∀ t ∈ Tryd.f3.params.toList, Tryd.prog.readableRec t = true ∧ t < Tryd.prog.types.size := by
    intro t ht
    rw [Tryd.params3] at ht
    have h9 := List.all_eq_true.1 hall t ht
    rw [Bool.and_eq_true, decide_eq_true_eq] at h9
    exact h9
  exact ⟨_, rfl, Rw.law_post (P := Tryd.prog) (tb := 4) laidOut hread rfl (by kernel_rfl) Tryd.underlying4 rfl hW' hb⟩
theorem topBlendMixes_holds : Rows.TopBlendMixesSaid :=
  OpenClaim.holds_of_wide 3 Tryd.f3 rfl rfl rfl rfl rfl rfl rfl ⟨rfl, rfl, rfl, rfl, rfl⟩ rfl rfl rfl rfl rfl (by kernel_rfl) Tryd.func3 (by kernel_rfl)
    (of_decide_eq_true (by kernel_rfl)) (by unfold Func.isWrapper; first | (rw [if_pos (by decide +kernel)]; kernel_rfl) | (rw [if_neg (by decide +kernel)]; exact ⟨rfl, rfl⟩))
    (fun os started H enc _ => topBlendMixes_lifted os started H enc)
theorem topBlendMixes_card : Rows.TopBlendMixesCardSaid :=
  Claim7.holds_tied_plain_at .later [] [.data] true (true, "ad52b73ad081c2d91be61007681286fb25cec037de439a848195073aa5cae409") false
    topBlendMixes_holds (fun _ h => by cases h) (by kernel_rfl) (fun _ h => by cases h) topBlendMixes_row_tie rfl ⟨rfl, rfl⟩ (by kernel_rfl) rfl
    (fun f fn hf hfn => by
      obtain rfl : f = 3 := Option.some.inj ((show Tryd.prog.funcNamed "criadera/criaderatop.TopBlendMixes" = some 3 by kernel_rfl).symm.trans hf) |>.symm
      obtain rfl : fn = Tryd.f3 := (Option.some.inj (Tryd.func3.symm.trans hfn)).symm
      exact ⟨by kernel_rfl, fun j t ht => by
        rw [Tryd.params3] at ht
        have hm : t ∈ [22, 23] := by simpa using Array.mem_of_getElem? ht
        have hall : ([22, 23].all fun u => !Tryd.prog.wantsStandIn u) = true := by kernel_rfl
        exact (show Tryd.prog.wantsStandIn t = false by simpa using List.all_eq_true.1 hall t hm)⟩)
    (by kernel_rfl)
#print axioms topBlendMixes_card
end Go.Proofs.YtaigoebipeplpaaDoor
