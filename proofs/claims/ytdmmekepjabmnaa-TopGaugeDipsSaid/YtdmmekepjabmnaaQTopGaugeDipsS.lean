/- TopGaugeDips: whatever the input, the law answers true and its input reads as it did; the row without a further condition. -/
import Derived.Test.YtdmmekepjabmnaaFG4
import Derived.Test.YtdmmekepjabmnaaRows
import Derived.JoinedOf
namespace Go.Proofs.Ytdmmekepjabmnaa
open Go Go.ChangeShapes Go.WideShapes Go.ChangeAt Go.RowKit
set_option maxRecDepth 100000
theorem own : ownKnob Try.prog.godebug = none := by kernel_rfl
theorem laidOut : laidOutB Try.prog = true := by kernel_rfl
theorem isSt {n : Nat} {F : Nat → Nat → V.D} (h : ∀ i j k, i < n → ([.i, .i, .i] : List Rw.SK)[j]? = some k → Rw.DG k (F i j)) : Ga.eSt.Is n F := by
  intro i j hi hj
  have hj : j < 3 := hj
  match j, hj with
  | 0, _ => obtain ⟨s, hs, _⟩ := Rw.dg_i (h i 0 .i hi rfl); show (F i 0).eqv (Bl.dI (Bl.rdI (F i) 0)); unfold Bl.rdI; rw [hs]; exact V.D.eqv_refl _
  | 1, _ => obtain ⟨s, hs, _⟩ := Rw.dg_i (h i 1 .i hi rfl); show (F i 1).eqv (Bl.dI (Bl.rdI (F i) 1)); unfold Bl.rdI; rw [hs]; exact V.D.eqv_refl _
  | 2, _ => obtain ⟨s, hs, _⟩ := Rw.dg_i (h i 2 .i hi rfl); show (F i 2).eqv (Bl.dI (Bl.rdI (F i) 2)); unfold Bl.rdI; rw [hs]; exact V.D.eqv_refl _
theorem isDp {n : Nat} {F : Nat → Nat → V.D} (h : ∀ i j k, i < n → ([.i, .i, .i] : List Rw.SK)[j]? = some k → Rw.DG k (F i j)) : Ga.eDp.Is n F := by
  intro i j hi hj
  have hj : j < 3 := hj
  match j, hj with
  | 0, _ => obtain ⟨s, hs, _⟩ := Rw.dg_i (h i 0 .i hi rfl); show (F i 0).eqv (Bl.dI (Bl.rdI (F i) 0)); unfold Bl.rdI; rw [hs]; exact V.D.eqv_refl _
  | 1, _ => obtain ⟨s, hs, _⟩ := Rw.dg_i (h i 1 .i hi rfl); show (F i 1).eqv (Bl.dI (Bl.rdI (F i) 1)); unfold Bl.rdI; rw [hs]; exact V.D.eqv_refl _
  | 2, _ => obtain ⟨s, hs, _⟩ := Rw.dg_i (h i 2 .i hi rfl); show (F i 2).eqv (Bl.dI (Bl.rdI (F i) 2)); unfold Bl.rdI; rw [hs]; exact V.D.eqv_refl _
theorem f2_cons {α β : Type} {R : α → β → Prop} {a : α} {l : List α} {cs : List β} (h : V.F2 R (a :: l) cs) : ∃ b k, cs = b :: k ∧ R a b ∧ V.F2 R l k := by
  cases h with
  | cons h1 h2 => exact ⟨_, _, rfl, h1, h2⟩
theorem f2_nil {α β : Type} {R : α → β → Prop} {cs : List β} (h : V.F2 R [] cs) : cs = [] := by cases h; rfl
theorem mg_s {w : World} {v : Value} (h : Rw.MG w .s v) : ∃ t, v = .string t := by
  obtain ⟨d, hd, hr⟩ := h
  cases hd with
  | s t => exact ⟨t, hr⟩
theorem topGaugeDips_lifted (os : Os) (started : os.Started) (H : Type) (enc : TypeId × Value → H) :
    ReturnsInHanded {} Try.checked os 3 .any (Rows.topGaugeDipsSpec.pre6 enc Try.prog Try.f3 Rows.topGaugeDipsRow.domain false) (Rows.topGaugeDipsSpec.post enc Try.prog Try.f3 false true false false) := by
  refine returnsInHanded_of_change (C := Try.checked) own started (by kernel_rfl) Try.func3
    (ChangeSpec.witness6 (enc := enc) (C := Try.checked) false ⟨#[], #[.agg #[.string .empty, .int .i64 0, .slice none 0 0], .int .i64 0, .slice none 0 0], []⟩ 8 (by kernel_rfl) (by kernel_rfl) (by kernel_rfl) (by kernel_rfl)) ?_
  intro W base args ds gs before hval0 hW _ _
  have hval : ∀ (j : Nat) t v, Try.f3.params[j]? = some t → args[j]? = some v → Value.okWide Try.prog W .any base t v := hval0
  have hW' := hW
  obtain ⟨p, q, hA0, hV, rfl, hfz, hnd⟩ := hW
  have hA : DataW.TrodAll enc Try.prog W 0 (fun _ => true) true Try.f3.params.toList args.toList ds p := hA0
  rw [Try.params3] at hA hval
  obtain ⟨v0, v1, v2, d0, d1, d2, p0, p1, p2, rfl, rfl, rfl, h0, h1, h2⟩ := trodAll_three hA
  obtain ⟨k0, g0_0, rfl⟩ := Rw.open_st 9 (l := [.s, .i, .sl [.i, .i, .i]]) Try.underlying24 (by kernel_rfl) (hval 0 24 v0 rfl rfl) h0
  obtain ⟨b0_0, k0_0, rfl, a0_0, g0_1⟩ := f2_cons g0_0
  obtain ⟨x0_0, rfl⟩ := mg_s a0_0
  obtain ⟨b0_1, k0_1, rfl, a0_1, g0_2⟩ := f2_cons g0_1
  obtain ⟨x0_1, rfl, _, _⟩ := Rw.mg_i a0_1
  obtain ⟨b0_2, k0_2, rfl, a0_2, g0_3⟩ := f2_cons g0_2
  obtain ⟨len0, f0, r0, i0⟩ := Rw.mg_sl a0_2
  obtain rfl := f2_nil g0_3
  obtain ⟨x1, rfl⟩ := okWide_int Try.underlying3 (hval 1 3 v1 rfl rfl)
  obtain ⟨len2, f2, r2, i2⟩ := Rw.mg_sl (Rw.open_sl 9 (sh := [.i, .i, .i]) Try.underlying25 (by kernel_rfl) (hval 2 25 v2 rfl rfl) h2)
  have hc := Ga.C3 [.agg [.str x0_0, .int .i64 x0_1, .sl false len0 3 f0], .c (.int .i64 x1), .c (.sl false len2 3 f2)] _ _ rfl ⟨isSt i0, isDp i2, trivial⟩ (V.fullK W) W _ trivial (V.fullK_lies W) (fun _ _ _ e => by cases e) (.cons ⟨_, (.cons rfl (.cons rfl (.cons r0 .nil))), rfl⟩ (.cons rfl (.cons r2 .nil)))
  refine hc.mono fun e W' ⟨x, _, he, _, _, _, hr, hb⟩ => ?_
  subst he
  have hx : x = .bool true := hr
  subst hx
  have hall : ([24, 3, 25].all fun u => Try.prog.readableRec u && decide (u < Try.prog.types.size)) = true := by kernel_rfl
  have hread : ∀ t ∈ Try.f3.params.toList, Try.prog.readableRec t = true ∧ t < Try.prog.types.size := by
    intro t ht
    rw [Try.params3] at ht
    have h9 := List.all_eq_true.1 hall t ht
    rw [Bool.and_eq_true, decide_eq_true_eq] at h9
    exact h9
  exact ⟨_, rfl, Rw.law_post (P := Try.prog) (tb := 4) laidOut hread rfl (by kernel_rfl) Try.underlying4 rfl hW' hb⟩
theorem topGaugeDips_holds : Rows.TopGaugeDipsSaid :=
  OpenClaim.holds_of_wide 3 Try.f3 rfl rfl rfl rfl rfl rfl rfl ⟨rfl, rfl, rfl, rfl, rfl⟩ rfl rfl rfl rfl rfl (by kernel_rfl) Try.func3 (by kernel_rfl)
    (of_decide_eq_true (by kernel_rfl)) (by unfold Func.isWrapper; first | (rw [if_pos (by decide +kernel)]; kernel_rfl) | (rw [if_neg (by decide +kernel)]; exact ⟨rfl, rfl⟩))
    (fun os started H enc _ => topGaugeDips_lifted os started H enc)
#print axioms topGaugeDips_holds
end Go.Proofs.Ytdmmekepjabmnaa
