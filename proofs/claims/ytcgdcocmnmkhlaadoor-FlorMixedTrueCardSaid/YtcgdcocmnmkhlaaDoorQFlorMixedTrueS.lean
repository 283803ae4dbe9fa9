/- FlorMixedTrue: whatever the input, the law answers true and its input reads as it did; the row without a further condition. Then the tied card. -/
import Derived.Test.YtcgdcocmnmkhlaaDoorFB4
import Derived.Test.YtcgdcocmnmkhlaaDoorTie
import Derived.Test.YtcgdcocmnmkhlaaDoorCards
namespace Go.Proofs.YtcgdcocmnmkhlaaDoor
open Go Go.ChangeShapes Go.WideShapes Go.ChangeAt Go.RowKit Go.Eng Go.Fl
set_option maxRecDepth 100000
theorem florMixedTrue_lifted (os : Os) (started : os.Started) (H : Type) (enc : TypeId × Value → H) :
    ReturnsInHanded {} Tryd.checked os 13 .any (fun w args => (Rows.florMixedTrueSpec.pre enc Tryd.prog Tryd.f13 [] false w args ∧ laidMetH Tryd.prog laid1 w) ∧ sizedMet enc Tryd.prog Tryd.f13 (OpenSpec.ofChange Rows.florMixedTrueSpec) false w args)
      (Rows.florMixedTrueSpec.post enc Tryd.prog Tryd.f13 false true false false) := by
  refine returnsInHanded_of_change_and (C := Tryd.checked) (X := fun w _ => laidMetH Tryd.prog laid1 w) (fun _ _ _ hh h => h.of_heap hh) own started (by kernel_rfl) Tryd.func13
    (ChangeSpec.witness_shaped (enc := enc) (C := Tryd.checked) (os := os) (X := fun w _ => laidMetH Tryd.prog laid1 w) false (World.doorLaid Tryd.prog 400 os) #[.slice none 0 0, .slice none 0 0] 8 rfl (World.shaped_of_RefB (by kernel_rfl) (by kernel_rfl)) (by kernel_rfl) (by kernel_rfl) (by kernel_rfl) (door_met os _)) ?_
  intro W base args ds gs before hval0 hW _ _ hL _
  have hval : ∀ (j : Nat) t v, Tryd.f13.params[j]? = some t → args[j]? = some v → Value.okWide Tryd.prog W .any base t v := hval0
  have hW' := hW
  obtain ⟨p, q, hA0, hV, rfl, hfz, hnd⟩ := hW
  have hA : DataW.TrodAll enc Tryd.prog W 0 (fun _ => true) true Tryd.f13.params.toList args.toList ds p := hA0
  rw [Tryd.params13] at hA hval
  obtain ⟨v0, v1, d0, d1, p0, p1, rfl, rfl, rfl, h0, h1⟩ := trodAll_two hA
  obtain ⟨len0, f0, hs0⟩ := Go.V.open_slI 5 6 Tryd.underlying82 (by kernel_rfl) (by kernel_rfl) (by decide) (hval 0 82 v0 rfl rfl) h0
  obtain ⟨len1, f1, hs1⟩ := Go.V.open_slI 5 5 Tryd.underlying96 (by kernel_rfl) (by kernel_rfl) (by decide) (hval 1 96 v1 rfl rfl) h1
  have hc := Go.Fl2.C13v [.c (.sl false len0 6 fun i j => .int .i64 (f0 i j)), .c (.sl false len1 5 fun i j => .int .i64 (f1 i j))] _ _ rfl ⟨Go.Fl2.isI6 f0, Go.Fl2.isI5t f1, trivial⟩ (Go.V.fullK W) W _ (gw_of_laid hL) (Go.V.fullK_lies W) (fun _ _ _ e => by cases e) (.cons hs0 (.cons hs1 .nil))
  refine hc.mono fun e W' ⟨x, _, he, _, _, _, hr, hb⟩ => ?_
  subst he
  have hx : x = .bool true := hr
  subst hx
  have hall : ([82, 96].all fun u => Tryd.prog.readableRec u && decide (u < Tryd.prog.types.size)) = true := by kernel_rfl
  have hread : ∀ t ∈ Tryd.f13.params.toList, Tryd.prog.readableRec t = true ∧ t < Tryd.prog.types.size := by
    intro t ht
    rw [Tryd.params13] at ht
    have h9 := List.all_eq_true.1 hall t ht
    rw [Bool.and_eq_true, decide_eq_true_eq] at h9
    exact h9
  exact ⟨_, rfl, law_post (P := Tryd.prog) (tb := 4) laidOut hread rfl (by kernel_rfl) Tryd.underlying4 rfl hW' hb⟩
theorem florMixedTrue_holds : Rows.FlorMixedTrueSaid :=
  OpenClaim.holds_of_wide 13 Tryd.f13 rfl rfl rfl rfl rfl rfl rfl ⟨rfl, rfl, rfl, rfl, rfl⟩ rfl rfl rfl rfl rfl (by kernel_rfl) Tryd.func13 (by kernel_rfl)
    (of_decide_eq_true (by kernel_rfl)) (by unfold Func.isWrapper; first | (rw [if_pos (by decide +kernel)]; kernel_rfl) | (rw [if_neg (by decide +kernel)]; exact ⟨rfl, rfl⟩))
    (fun os started H enc _ => florMixedTrue_lifted os started H enc)
theorem florMixedTrue_card : Rows.FlorMixedTrueCardSaid :=
  Claim7.holds_tied_plain_at .later [] [.data] true (true, "4c7ef524b5881d19e12948985b782f19a9a88117ac4dbe7e5488c5a3b77f72f3") false
    florMixedTrue_holds (fun _ h => by cases h) (by kernel_rfl) (fun _ h => by cases h) florMixedTrue_row_tie rfl ⟨rfl, rfl⟩ (by kernel_rfl) rfl
    (fun f fn hf hfn => by
      obtain rfl : f = 13 := Option.some.inj ((show Tryd.prog.funcNamed "criadera/criaderalaw03.FlorMixedTrue" = some 13 by kernel_rfl).symm.trans hf) |>.symm
      obtain rfl : fn = Tryd.f13 := (Option.some.inj (Tryd.func13.symm.trans hfn)).symm
      exact ⟨by kernel_rfl, fun j t ht => by
        rw [Tryd.params13] at ht
        have hm : t ∈ [82, 96] := by simpa using Array.mem_of_getElem? ht
        have hall : ([82, 96].all fun u => !Tryd.prog.wantsStandIn u) = true := by kernel_rfl
        exact (show Tryd.prog.wantsStandIn t = false by simpa using List.all_eq_true.1 hall t hm)⟩)
    (by kernel_rfl)
#print axioms florMixedTrue_card
end Go.Proofs.YtcgdcocmnmkhlaaDoor
