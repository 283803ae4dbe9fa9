/- BlendMeets: whatever the input, the law answers true and its input reads as it did; the row without a further condition. -/
import Derived.Test.YtaigoebipeplpaaFA5
import Derived.Test.YtaigoebipeplpaaRows
import Derived.JoinedOf
namespace Go.Proofs.Ytaigoebipeplpaa
open Go Go.ChangeShapes Go.WideShapes Go.ChangeAt Go.RowKit
set_option maxRecDepth 100000
theorem own : ownKnob Try.prog.godebug = none := by kernel_rfl
theorem laidOut : laidOutB Try.prog = true := by kernel_rfl
theorem isC {n : Nat} {F : Nat → Nat → V.D} (h : ∀ i j, i < n → j < 7 → Rw.DT (([true, false, false, false, false, false, false] : List Bool).getD j false) (F i j)) : Bl.eC.Is n F := by
  intro i j hi hj
  have hj : j < 7 := hj
  match j, hj with
  | 0, _ => obtain ⟨s, hs⟩ := h i 0 hi (by decide); show (F i 0).eqv (.str (Bl.rdS (F i) 0)); unfold Bl.rdS; rw [hs]; exact V.D.eqv_refl _
  | 1, _ => obtain ⟨s, hs⟩ := h i 1 hi (by decide); show (F i 1).eqv (Bl.dI (Bl.rdI (F i) 1)); unfold Bl.rdI; rw [hs]; exact V.D.eqv_refl _
  | 2, _ => obtain ⟨s, hs⟩ := h i 2 hi (by decide); show (F i 2).eqv (Bl.dI (Bl.rdI (F i) 2)); unfold Bl.rdI; rw [hs]; exact V.D.eqv_refl _
  | 3, _ => obtain ⟨s, hs⟩ := h i 3 hi (by decide); show (F i 3).eqv (Bl.dI (Bl.rdI (F i) 3)); unfold Bl.rdI; rw [hs]; exact V.D.eqv_refl _
  | 4, _ => obtain ⟨s, hs⟩ := h i 4 hi (by decide); show (F i 4).eqv (Bl.dI (Bl.rdI (F i) 4)); unfold Bl.rdI; rw [hs]; exact V.D.eqv_refl _
  | 5, _ => obtain ⟨s, hs⟩ := h i 5 hi (by decide); show (F i 5).eqv (Bl.dI (Bl.rdI (F i) 5)); unfold Bl.rdI; rw [hs]; exact V.D.eqv_refl _
  | 6, _ => obtain ⟨s, hs⟩ := h i 6 hi (by decide); show (F i 6).eqv (Bl.dI (Bl.rdI (F i) 6)); unfold Bl.rdI; rw [hs]; exact V.D.eqv_refl _
theorem isI {n : Nat} {F : Nat → Nat → V.D} (h : ∀ i j, i < n → j < 1 → Rw.DT (([false] : List Bool).getD j false) (F i j)) : Bl.eI.Is n F := by
  intro i j hi hj
  have hj : j < 1 := hj
  match j, hj with
  | 0, _ => obtain ⟨s, hs⟩ := h i 0 hi (by decide); show (F i 0).eqv (Bl.dI (Bl.rdI (F i) 0)); unfold Bl.rdI; rw [hs]; exact V.D.eqv_refl _
theorem mt9 {cs : List Value} (h : V.F2 Rw.MT [false, false, false, false, false, false, false, false, false] cs) : ∃ x0 x1 x2 x3 x4 x5 x6 x7 x8 : Int, cs = [.int .i64 x0, .int .i64 x1, .int .i64 x2, .int .i64 x3, .int .i64 x4, .int .i64 x5, .int .i64 x6, .int .i64 x7, .int .i64 x8] := by
  rcases h with _ | ⟨⟨x0, rfl⟩, h⟩
  rcases h with _ | ⟨⟨x1, rfl⟩, h⟩
  rcases h with _ | ⟨⟨x2, rfl⟩, h⟩
  rcases h with _ | ⟨⟨x3, rfl⟩, h⟩
  rcases h with _ | ⟨⟨x4, rfl⟩, h⟩
  rcases h with _ | ⟨⟨x5, rfl⟩, h⟩
  rcases h with _ | ⟨⟨x6, rfl⟩, h⟩
  rcases h with _ | ⟨⟨x7, rfl⟩, h⟩
  rcases h with _ | ⟨⟨x8, rfl⟩, h⟩
  rcases h with _ | _
  exact ⟨x0, x1, x2, x3, x4, x5, x6, x7, x8, rfl⟩
theorem blendMeets_lifted (os : Os) (started : os.Started) (H : Type) (enc : TypeId × Value → H) :
    ReturnsInHanded {} Try.checked os 12 .any (Rows.blendMeetsSpec.pre6 enc Try.prog Try.f12 Rows.blendMeetsRow.domain false) (Rows.blendMeetsSpec.post enc Try.prog Try.f12 false true false false) := by
  refine returnsInHanded_of_change (C := Try.checked) own started (by kernel_rfl) Try.func12
    (ChangeSpec.witness6 (enc := enc) (C := Try.checked) false ⟨#[], #[.slice none 0 0, .agg #[.int .i64 0, .int .i64 0, .int .i64 0, .int .i64 0, .int .i64 0, .int .i64 0, .int .i64 0, .int .i64 0, .int .i64 0], .agg #[.int .i64 0, .slice none 0 0]], []⟩ 8 (by kernel_rfl) (by kernel_rfl) (by kernel_rfl) (by kernel_rfl)) ?_
  intro W base args ds gs before hval0 hW _ _
  have hval : ∀ (j : Nat) t v, Try.f12.params[j]? = some t → args[j]? = some v → Value.okWide Try.prog W .any base t v := hval0
  have hW' := hW
  obtain ⟨p, q, hA0, hV, rfl, hfz, hnd⟩ := hW
  have hA : DataW.TrodAll enc Try.prog W 0 (fun _ => true) true Try.f12.params.toList args.toList ds p := hA0
  rw [Try.params12] at hA hval
  obtain ⟨v0, v1, v2, d0, d1, d2, p0, p1, p2, rfl, rfl, rfl, h0, h1, h2⟩ := trodAll_three hA
  obtain ⟨len0, f0, r0, i0⟩ := Rw.open_slS 9 7 (sh := [true, false, false, false, false, false, false]) Try.underlying22 (by kernel_rfl) (by kernel_rfl) rfl (by decide) (hval 0 22 v0 rfl rfl) h0
  obtain ⟨cs1, hc1, rfl, rfl⟩ := Rw.open_aggS 9 (sh := [false, false, false, false, false, false, false, false, false]) Try.underlying27 (by kernel_rfl) (hval 1 27 v1 rfl rfl) h1
  obtain ⟨x1_0, x1_1, x1_2, x1_3, x1_4, x1_5, x1_6, x1_7, x1_8, rfl⟩ := mt9 hc1
  obtain ⟨m2, y2, len2, f2, rfl, r2, i2⟩ := Rw.open_numSl 9 1 (sh := [false]) Try.underlying33 (by kernel_rfl) rfl rfl ⟨rfl, rfl⟩ ⟨rfl, rfl⟩ Try.underlying3 Try.underlying31 (by kernel_rfl) (by kernel_rfl) (by kernel_rfl) (by kernel_rfl) rfl (by decide) (hval 2 33 v2 rfl rfl) h2
  have hc := Bl.C12 [.c (.sl false len0 7 f0), .agg [.int .i64 x1_0, .int .i64 x1_1, .int .i64 x1_2, .int .i64 x1_3, .int .i64 x1_4, .int .i64 x1_5, .int .i64 x1_6, .int .i64 x1_7, .int .i64 x1_8], .agg [.int .i64 m2, .sl false len2 1 f2]] _ _ rfl ⟨isC i0, isI i2, trivial⟩ (V.fullK W) W _ trivial (V.fullK_lies W) (fun _ _ _ e => by cases e) (.cons r0 (.cons ⟨_, (.cons rfl (.cons rfl (.cons rfl (.cons rfl (.cons rfl (.cons rfl (.cons rfl (.cons rfl (.cons rfl .nil))))))))), rfl⟩ (.cons ⟨_, (.cons rfl (.cons r2 .nil)), rfl⟩ .nil)))
  refine hc.mono fun e W' ⟨x, _, he, _, _, _, hr, hb⟩ => ?_
  subst he
  have hx : x = .bool true := hr
  subst hx
  have hall : ([22, 27, 33].all fun u => Try.prog.readableRec u && decide (u < Try.prog.types.size)) = true := by kernel_rfl
  have hread : ∀ t ∈ Try.f12.params.toList, Try.prog.readableRec t = true ∧ t < Try.prog.types.size := by
    intro t ht
    rw [Try.params12] at ht
    have h9 := List.all_eq_true.1 hall t ht
    rw [Bool.and_eq_true, decide_eq_true_eq] at h9
    exact h9
  exact ⟨_, rfl, Rw.law_post (P := Try.prog) (tb := 4) laidOut hread rfl (by kernel_rfl) Try.underlying4 rfl hW' hb⟩
theorem blendMeets_holds : Rows.BlendMeetsSaid :=
  OpenClaim.holds_of_wide 12 Try.f12 rfl rfl rfl rfl rfl rfl rfl ⟨rfl, rfl, rfl, rfl, rfl⟩ rfl rfl rfl rfl rfl (by kernel_rfl) Try.func12 (by kernel_rfl)
    (of_decide_eq_true (by kernel_rfl)) (by unfold Func.isWrapper; first | (rw [if_pos (by decide +kernel)]; kernel_rfl) | (rw [if_neg (by decide +kernel)]; exact ⟨rfl, rfl⟩))
    (fun os started H enc _ => blendMeets_lifted os started H enc)
#print axioms blendMeets_holds
end Go.Proofs.Ytaigoebipeplpaa
