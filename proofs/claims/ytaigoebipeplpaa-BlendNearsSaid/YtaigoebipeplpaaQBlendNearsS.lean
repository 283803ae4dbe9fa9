/- BlendNears: whatever the input, the law answers true and its input reads as it did; the row without a further condition. -/
import Derived.Test.YtaigoebipeplpaaFO7
import Derived.Test.YtaigoebipeplpaaRows
import Derived.JoinedOf
namespace Go.Proofs.Ytaigoebipeplpaa
open Go Go.ChangeShapes Go.WideShapes Go.ChangeAt Go.RowKit
set_option maxRecDepth 100000
theorem own : ownKnob Try.prog.godebug = none := by kernel_rfl
theorem laidOut : laidOutB Try.prog = true := by kernel_rfl
theorem isC {n : Nat} {F : Nat → Nat → V.D} (h : ∀ i j k, i < n → ([.s, .i, .i, .i, .i, .i, .i] : List Rw.SK)[j]? = some k → Rw.DG k (F i j)) : Bl.eC.Is n F := by
  intro i j hi hj
  have hj : j < 7 := hj
  match j, hj with
  | 0, _ => obtain ⟨s, hs⟩ := Rw.dg_s (h i 0 .s hi rfl); show (F i 0).eqv (.str (Bl.rdS (F i) 0)); unfold Bl.rdS; rw [hs]; exact V.D.eqv_refl _
  | 1, _ => obtain ⟨s, hs⟩ := Rw.dg_i (h i 1 .i hi rfl); show (F i 1).eqv (Bl.dI (Bl.rdI (F i) 1)); unfold Bl.rdI; rw [hs]; exact V.D.eqv_refl _
  | 2, _ => obtain ⟨s, hs⟩ := Rw.dg_i (h i 2 .i hi rfl); show (F i 2).eqv (Bl.dI (Bl.rdI (F i) 2)); unfold Bl.rdI; rw [hs]; exact V.D.eqv_refl _
  | 3, _ => obtain ⟨s, hs⟩ := Rw.dg_i (h i 3 .i hi rfl); show (F i 3).eqv (Bl.dI (Bl.rdI (F i) 3)); unfold Bl.rdI; rw [hs]; exact V.D.eqv_refl _
  | 4, _ => obtain ⟨s, hs⟩ := Rw.dg_i (h i 4 .i hi rfl); show (F i 4).eqv (Bl.dI (Bl.rdI (F i) 4)); unfold Bl.rdI; rw [hs]; exact V.D.eqv_refl _
  | 5, _ => obtain ⟨s, hs⟩ := Rw.dg_i (h i 5 .i hi rfl); show (F i 5).eqv (Bl.dI (Bl.rdI (F i) 5)); unfold Bl.rdI; rw [hs]; exact V.D.eqv_refl _
  | 6, _ => obtain ⟨s, hs⟩ := Rw.dg_i (h i 6 .i hi rfl); show (F i 6).eqv (Bl.dI (Bl.rdI (F i) 6)); unfold Bl.rdI; rw [hs]; exact V.D.eqv_refl _
theorem isI {n : Nat} {F : Nat → Nat → V.D} (h : ∀ i j k, i < n → ([.i] : List Rw.SK)[j]? = some k → Rw.DG k (F i j)) : Bl.eI.Is n F := by
  intro i j hi hj
  have hj : j < 1 := hj
  match j, hj with
  | 0, _ => obtain ⟨s, hs⟩ := Rw.dg_i (h i 0 .i hi rfl); show (F i 0).eqv (Bl.dI (Bl.rdI (F i) 0)); unfold Bl.rdI; rw [hs]; exact V.D.eqv_refl _
theorem f2_cons {α β : Type} {R : α → β → Prop} {a : α} {l : List α} {cs : List β} (h : V.F2 R (a :: l) cs) : ∃ b k, cs = b :: k ∧ R a b ∧ V.F2 R l k := by
  cases h with
  | cons h1 h2 => exact ⟨_, _, rfl, h1, h2⟩
theorem f2_nil {α β : Type} {R : α → β → Prop} {cs : List β} (h : V.F2 R [] cs) : cs = [] := by cases h; rfl
theorem blendNears_lifted (os : Os) (started : os.Started) (H : Type) (enc : TypeId × Value → H) :
    ReturnsInHanded {} Try.checked os 4 .any (Rows.blendNearsSpec.pre6 enc Try.prog Try.f4 Rows.blendNearsRow.domain false) (Rows.blendNearsSpec.post enc Try.prog Try.f4 false true false false) := by
  refine returnsInHanded_of_change (C := Try.checked) own started (by kernel_rfl) Try.func4
    (ChangeSpec.witness6 (enc := enc) (C := Try.checked) false ⟨#[], #[.slice none 0 0, .agg #[.int .i64 0, .int .i64 0, .int .i64 0, .int .i64 0, .int .i64 0, .int .i64 0, .int .i64 0, .int .i64 0, .int .i64 0]], []⟩ 8 (by kernel_rfl) (by kernel_rfl) (by kernel_rfl) (by kernel_rfl)) ?_
  intro W base args ds gs before hval0 hW _ _
  have hval : ∀ (j : Nat) t v, Try.f4.params[j]? = some t → args[j]? = some v → Value.okWide Try.prog W .any base t v := hval0
  have hW' := hW
  obtain ⟨p, q, hA0, hV, rfl, hfz, hnd⟩ := hW
  have hA : DataW.TrodAll enc Try.prog W 0 (fun _ => true) true Try.f4.params.toList args.toList ds p := hA0
  rw [Try.params4] at hA hval
  obtain ⟨v0, v1, d0, d1, p0, p1, rfl, rfl, rfl, h0, h1⟩ := trodAll_two hA
  obtain ⟨len0, f0, r0, i0⟩ := Rw.mg_sl (Rw.open_sl 9 (sh := [.s, .i, .i, .i, .i, .i, .i]) Try.underlying22 (by kernel_rfl) (hval 0 22 v0 rfl rfl) h0)
  obtain ⟨k1, g1_0, rfl⟩ := Rw.open_st 9 (l := [.i, .i, .i, .i, .i, .i, .i, .i, .i]) Try.underlying27 (by kernel_rfl) (hval 1 27 v1 rfl rfl) h1
  obtain ⟨b1_0, k1_0, rfl, a1_0, g1_1⟩ := f2_cons g1_0
  obtain ⟨x1_0, rfl⟩ := Rw.mg_i a1_0
  obtain ⟨b1_1, k1_1, rfl, a1_1, g1_2⟩ := f2_cons g1_1
  obtain ⟨x1_1, rfl⟩ := Rw.mg_i a1_1
  obtain ⟨b1_2, k1_2, rfl, a1_2, g1_3⟩ := f2_cons g1_2
  obtain ⟨x1_2, rfl⟩ := Rw.mg_i a1_2
  obtain ⟨b1_3, k1_3, rfl, a1_3, g1_4⟩ := f2_cons g1_3
  obtain ⟨x1_3, rfl⟩ := Rw.mg_i a1_3
  obtain ⟨b1_4, k1_4, rfl, a1_4, g1_5⟩ := f2_cons g1_4
  obtain ⟨x1_4, rfl⟩ := Rw.mg_i a1_4
  obtain ⟨b1_5, k1_5, rfl, a1_5, g1_6⟩ := f2_cons g1_5
  obtain ⟨x1_5, rfl⟩ := Rw.mg_i a1_5
  obtain ⟨b1_6, k1_6, rfl, a1_6, g1_7⟩ := f2_cons g1_6
  obtain ⟨x1_6, rfl⟩ := Rw.mg_i a1_6
  obtain ⟨b1_7, k1_7, rfl, a1_7, g1_8⟩ := f2_cons g1_7
  obtain ⟨x1_7, rfl⟩ := Rw.mg_i a1_7
  obtain ⟨b1_8, k1_8, rfl, a1_8, g1_9⟩ := f2_cons g1_8
  obtain ⟨x1_8, rfl⟩ := Rw.mg_i a1_8
  obtain rfl := f2_nil g1_9
  have hc := Bl.C4z [.c (.sl false len0 7 f0), .agg [.int .i64 x1_0, .int .i64 x1_1, .int .i64 x1_2, .int .i64 x1_3, .int .i64 x1_4, .int .i64 x1_5, .int .i64 x1_6, .int .i64 x1_7, .int .i64 x1_8]] _ _ rfl ⟨isC i0, trivial⟩ (V.fullK W) W _ trivial (V.fullK_lies W) (fun _ _ _ e => by cases e) (.cons r0 (.cons ⟨_, (.cons rfl (.cons rfl (.cons rfl (.cons rfl (.cons rfl (.cons rfl (.cons rfl (.cons rfl (.cons rfl .nil))))))))), rfl⟩ .nil))
  refine hc.mono fun e W' ⟨x, _, he, _, _, _, hr, hb⟩ => ?_
  subst he
  have hx : x = .bool true := hr
  subst hx
  have hall : ([22, 27].all fun u => Try.prog.readableRec u && decide (u < Try.prog.types.size)) = true := by kernel_rfl
  have hread : ∀ t ∈ Try.f4.params.toList, Try.prog.readableRec t = true ∧ t < Try.prog.types.size := by
    intro t ht
    rw [Try.params4] at ht
    have h9 := List.all_eq_true.1 hall t ht
    rw [Bool.and_eq_true, decide_eq_true_eq] at h9
    exact h9
  exact ⟨_, rfl, Rw.law_post (P := Try.prog) (tb := 4) laidOut hread rfl (by kernel_rfl) Try.underlying4 rfl hW' hb⟩
theorem blendNears_holds : Rows.BlendNearsSaid :=
  OpenClaim.holds_of_wide 4 Try.f4 rfl rfl rfl rfl rfl rfl rfl ⟨rfl, rfl, rfl, rfl, rfl⟩ rfl rfl rfl rfl rfl (by kernel_rfl) Try.func4 (by kernel_rfl)
    (of_decide_eq_true (by kernel_rfl)) (by unfold Func.isWrapper; first | (rw [if_pos (by decide +kernel)]; kernel_rfl) | (rw [if_neg (by decide +kernel)]; exact ⟨rfl, rfl⟩))
    (fun os started H enc _ => blendNears_lifted os started H enc)
#print axioms blendNears_holds
end Go.Proofs.Ytaigoebipeplpaa
