/- FlorLossTexts: whatever the input, the law answers true and its input reads as it did; the row lists variables of the library and flor.limits. Then the tied card. -/
import Derived.Test.YtbjimhgjbhlmnaaDoorFT4
import Derived.Test.YtbjimhgjbhlmnaaDoorTie
import Derived.Test.YtbjimhgjbhlmnaaDoorCards
import Derived.JoinedOf
namespace Go.Proofs.YtbjimhgjbhlmnaaDoor
open Go Go.ChangeShapes Go.WideShapes Go.ChangeAt Go.RowKit
set_option maxRecDepth 100000
theorem f2_cons {α β : Type} {R : α → β → Prop} {a : α} {l : List α} {cs : List β} (h : V.F2 R (a :: l) cs) : ∃ b k, cs = b :: k ∧ R a b ∧ V.F2 R l k := by
  cases h with
  | cons h1 h2 => exact ⟨_, _, rfl, h1, h2⟩
theorem f2_nil {α β : Type} {R : α → β → Prop} {cs : List β} (h : V.F2 R [] cs) : cs = [] := by cases h; rfl
theorem mg_str {W : World} {v : Value} (h : Rw.MG W .s v) : ∃ s, v = .string s := by
  obtain ⟨d, hd, hr⟩ := h
  obtain ⟨s, rfl⟩ := Rw.dg_s hd
  exact ⟨s, hr⟩
theorem florLossTexts_lifted (os : Os) (started : os.Started) (H : Type) (enc : TypeId × Value → H) :
    ReturnsInHanded {} Tryd.checked os 4 .any (fun w args => (Rows.florLossTextsSpec.pre enc Tryd.prog Tryd.f4 [] false w args ∧ laidMetH Tryd.prog laid8 w) ∧ sizedMet enc Tryd.prog Tryd.f4 (OpenSpec.ofChange Rows.florLossTextsSpec) false w args)
      (Rows.florLossTextsSpec.post enc Tryd.prog Tryd.f4 false true false false) := by
  refine handed_and (C := Tryd.checked) (X := fun w _ => laidMetH Tryd.prog laid8 w) (fun _ _ _ hh h => h.of_heap hh) own started (by kernel_rfl) Tryd.func4
    (ChangeSpec.witness_shaped (enc := enc) (C := Tryd.checked) (os := os) (X := fun w _ => laidMetH Tryd.prog laid8 w) false (World.laidAll Tryd.prog os laid8) #[.agg #[.string ByteArray.empty, .int .i64 0, .int .i64 0, .int .i64 0, .int .i64 0], .string ByteArray.empty] 8 (World.laidAll_os _ _ _) (World.shaped_of_RefB (by kernel_rfl) (by kernel_rfl)) (by kernel_rfl) (by kernel_rfl) (by kernel_rfl) (door_met os _)) ?_
  intro W base args ds gs before hval0 hW hsh hL
  have hval : ∀ (j : Nat) t v, Tryd.f4.params[j]? = some t → args[j]? = some v → Value.okWide Tryd.prog W .any base t v := hval0
  have hW' := hW
  obtain ⟨p, q, hA0, hV, rfl, hfz, hnd⟩ := hW
  have hA : DataW.TrodAll enc Tryd.prog W 0 (fun _ => true) true Tryd.f4.params.toList args.toList ds p := hA0
  rw [Tryd.params4] at hA hval
  obtain ⟨v0, v1, d0, d1, p0, p1, rfl, rfl, rfl, h0, h1⟩ := trodAll_two hA
  obtain ⟨k0, g0_0, rfl⟩ := Rw.open_st 9 (l := [.s, .i, .i, .i, .i]) Tryd.underlying36 (by kernel_rfl) (hval 0 36 v0 rfl rfl) h0
  obtain ⟨b0_0, k0_0, rfl, a0_0, g0_1⟩ := f2_cons g0_0
  obtain ⟨x0_0, rfl⟩ := mg_str a0_0
  obtain ⟨b0_1, k0_1, rfl, a0_1, g0_2⟩ := f2_cons g0_1
  obtain ⟨x0_1, rfl, r0_1⟩ := Rw.mg_i a0_1
  obtain ⟨b0_2, k0_2, rfl, a0_2, g0_3⟩ := f2_cons g0_2
  obtain ⟨x0_2, rfl, r0_2⟩ := Rw.mg_i a0_2
  obtain ⟨b0_3, k0_3, rfl, a0_3, g0_4⟩ := f2_cons g0_3
  obtain ⟨x0_3, rfl, r0_3⟩ := Rw.mg_i a0_3
  obtain ⟨b0_4, k0_4, rfl, a0_4, g0_5⟩ := f2_cons g0_4
  obtain ⟨x0_4, rfl, r0_4⟩ := Rw.mg_i a0_4
  obtain rfl := f2_nil g0_5
  obtain ⟨s1, rfl⟩ := okWide_string Tryd.underlying9 (hval 1 9 v1 rfl rfl)
  have hc := Tx.C4 [.agg [.str x0_0, .int .i64 x0_1, .int .i64 x0_2, .int .i64 x0_3, .int .i64 x0_4], .c (.str s1)] _ _ rfl ⟨⟨r0_1, r0_2, r0_3, r0_4⟩, trivial⟩ (V.fullK W) W _ (gw_of_laid hL hsh) (V.fullK_lies W) (gin_of_laid hL) (.cons ⟨_, (.cons rfl (.cons rfl (.cons rfl (.cons rfl (.cons rfl .nil))))), rfl⟩ (.cons rfl .nil))
  refine hc.mono fun e W' ⟨x, _, he, _, _, _, hr, hb⟩ => ?_
  subst he
  have hx : x = .bool true := hr
  subst hx
  have hall : ([36, 9].all fun u => Tryd.prog.readableRec u && decide (u < Tryd.prog.types.size)) = true := by kernel_rfl
  have hread : ∀ t ∈ Tryd.f4.params.toList, Tryd.prog.readableRec t = true ∧ t < Tryd.prog.types.size := by
    intro t ht
    rw [Tryd.params4] at ht
    have h9 := List.all_eq_true.1 hall t ht
    rw [Bool.and_eq_true, decide_eq_true_eq] at h9
    exact h9
  exact ⟨_, rfl, Rw.law_post (P := Tryd.prog) (tb := 4) laidOut hread rfl (by kernel_rfl) Tryd.underlying4 rfl hW' hb⟩
theorem florLossTexts_holds : Rows.FlorLossTextsSaid :=
  OpenClaim.holds_of_wide 4 Tryd.f4 rfl rfl rfl rfl rfl rfl rfl ⟨rfl, rfl, rfl, rfl, rfl⟩ rfl rfl rfl rfl rfl (by kernel_rfl) Tryd.func4 (by kernel_rfl)
    (of_decide_eq_true (by kernel_rfl)) (by unfold Func.isWrapper; first | (rw [if_pos (by decide +kernel)]; kernel_rfl) | (rw [if_neg (by decide +kernel)]; exact ⟨rfl, rfl⟩))
    (fun os started H enc _ => florLossTexts_lifted os started H enc)
theorem florLossTexts_card : Rows.FlorLossTextsCardSaid :=
  Claim7.holds_tied_plain_at .later [] [.data, .data, .data, .data, .sentinel, .sentinel, .data, .pinned] true (true, "4202c039a0448f67485e93db6b48488d852e08d05125167fcbabc568119ef081") true
    florLossTexts_holds (fun _ h => by cases h) (by kernel_rfl) (fun _ h => by cases h) florLossTexts_row_tie rfl ⟨rfl, rfl⟩ (by kernel_rfl) rfl
    (fun f fn hf hfn => by
      obtain rfl : f = 4 := Option.some.inj ((show Tryd.prog.funcNamed "criadera/criaderalaw03.FlorLossTexts" = some 4 by kernel_rfl).symm.trans hf) |>.symm
      obtain rfl : fn = Tryd.f4 := (Option.some.inj (Tryd.func4.symm.trans hfn)).symm
      exact ⟨by kernel_rfl, fun j t ht => by
        rw [Tryd.params4] at ht
        have hm : t ∈ [36, 9] := by simpa using Array.mem_of_getElem? ht
        have hall : ([36, 9].all fun u => !Tryd.prog.wantsStandIn u) = true := by kernel_rfl
        exact (show Tryd.prog.wantsStandIn t = false by simpa using List.all_eq_true.1 hall t hm)⟩)
    (by kernel_rfl)
#print axioms florLossTexts_card
end Go.Proofs.YtbjimhgjbhlmnaaDoor
