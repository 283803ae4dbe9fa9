/- TopFlorSpells: whatever the input, the law answers true and its input reads as it did; the row without a further condition. Then the tied card. -/
import Derived.Test.YtcgdcocmnmkhlaaDoorW10
import Derived.Test.YtcgdcocmnmkhlaaDoorR1
import Derived.Test.YtcgdcocmnmkhlaaDoorR2
import Derived.Test.YtcgdcocmnmkhlaaDoorTie
import Derived.Test.YtcgdcocmnmkhlaaDoorCards
namespace Go.Proofs.YtcgdcocmnmkhlaaDoor
open Go Go.ChangeShapes Go.WideShapes Go.ChangeAt Go.RowKit Go.Eng Go.Fl
set_option maxRecDepth 100000
theorem topFlorSpells_lifted (os : Os) (started : os.Started) (H : Type) (enc : TypeId × Value → H) :
    ReturnsInHanded {} Tryd.checked os 15 .any (fun w args => (Rows.topFlorSpellsSpec.pre enc Tryd.prog Tryd.f15 [] false w args ∧ laidMetH Tryd.prog laid1 w) ∧ sizedMet enc Tryd.prog Tryd.f15 (OpenSpec.ofChange Rows.topFlorSpellsSpec) false w args)
      (Rows.topFlorSpellsSpec.post enc Tryd.prog Tryd.f15 false true false false) := by
  refine returnsInHanded_of_change_and (C := Tryd.checked) (X := fun w _ => laidMetH Tryd.prog laid1 w) (fun _ _ _ hh h => h.of_heap hh) own started (by kernel_rfl) Tryd.func15
    (ChangeSpec.witness_shaped (enc := enc) (C := Tryd.checked) (os := os) (X := fun w _ => laidMetH Tryd.prog laid1 w) false (World.doorLaid Tryd.prog 400 os) #[.agg #[.int .i64 0, .int .i64 0, .int .i64 0, .int .i64 0, .int .i64 0, .int .i64 0], .agg #[.int .i64 0, .int .i64 0, .int .i64 0, .int .i64 0, .int .i64 0, .int .i64 0, .int .i64 0, .int .i64 0, .int .i64 0, .int .i64 0, .int .i64 0, .int .i64 0, .int .i64 0, .int .i64 0], .agg #[.int .i64 0, .int .i64 0, .int .i64 0, .int .i64 0, .int .i64 0]] 8 rfl (World.shaped_of_RefB (by kernel_rfl) (by kernel_rfl)) (by kernel_rfl) (by kernel_rfl) (by kernel_rfl) (door_met os _)) ?_
  intro W base args ds gs before hval0 hW _ _ hL _
  have hval : ∀ (j : Nat) t v, Tryd.f15.params[j]? = some t → args[j]? = some v → Value.okWide Tryd.prog W .any base t v := hval0
  have hW' := hW
  obtain ⟨p, q, hA0, hV, rfl, hfz, hnd⟩ := hW
  have hA : DataW.TrodAll enc Tryd.prog W 0 (fun _ => true) true Tryd.f15.params.toList args.toList ds p := hA0
  rw [Tryd.params15] at hA hval
  obtain ⟨v0, v1, v2, d0, d1, d2, p0, p1, p2, rfl, rfl, rfl, h0, h1, h2⟩ := trodAll_three hA
  obtain ⟨ns0, hn0, rfl, rfl⟩ := open_aggI 7 6 Tryd.underlying25 (by kernel_rfl) (by kernel_rfl) (hval 0 25 v0 rfl rfl) h0
  obtain ⟨x0_0, x0_1, x0_2, x0_3, x0_4, x0_5, rfl⟩ := list6 hn0
  obtain ⟨ns1, hn1, rfl, rfl⟩ := Go.V.open_aggJ 7 14 Tryd.underlying113 (by kernel_rfl) (by kernel_rfl) (hval 1 113 v1 rfl rfl) h1
  obtain ⟨x1_0, x1_1, x1_2, x1_3, x1_4, x1_5, x1_6, x1_7, x1_8, x1_9, x1_10, x1_11, x1_12, x1_13, rfl⟩ := Go.V.list14 hn1
  obtain ⟨ns2, hn2, rfl, rfl⟩ := open_aggI 7 5 Tryd.underlying49 (by kernel_rfl) (by kernel_rfl) (hval 2 49 v2 rfl rfl) h2
  obtain ⟨x2_0, x2_1, x2_2, x2_3, x2_4, rfl⟩ := Go.V.list5 hn2
  have hc := Go.Fl2.C15v [.agg [.int .i64 x0_0, .int .i64 x0_1, .int .i64 x0_2, .int .i64 x0_3, .int .i64 x0_4, .int .i64 x0_5], .agg [.int .i64 x1_0, .int .i64 x1_1, .int .i64 x1_2, .int .i64 x1_3, .int .i64 x1_4, .int .i64 x1_5, .int .i64 x1_6, .int .i64 x1_7, .int .i64 x1_8, .int .i64 x1_9, .int .i64 x1_10, .int .i64 x1_11, .int .i64 x1_12, .int .i64 x1_13], .agg [.int .i64 x2_0, .int .i64 x2_1, .int .i64 x2_2, .int .i64 x2_3, .int .i64 x2_4]] _ _ rfl trivial (Go.V.fullK W) W _ (gw_of_laid hL) (Go.V.fullK_lies W) (fun _ _ _ e => by cases e) (.cons ⟨_, (.cons rfl (.cons rfl (.cons rfl (.cons rfl (.cons rfl (.cons rfl .nil)))))), rfl⟩ (.cons ⟨_, (.cons rfl (.cons rfl (.cons rfl (.cons rfl (.cons rfl (.cons rfl (.cons rfl (.cons rfl (.cons rfl (.cons rfl (.cons rfl (.cons rfl (.cons rfl (.cons rfl .nil)))))))))))))), rfl⟩ (.cons ⟨_, (.cons rfl (.cons rfl (.cons rfl (.cons rfl (.cons rfl .nil))))), rfl⟩ .nil)))
  refine hc.mono fun e W' ⟨x, _, he, _, _, _, hr, hb⟩ => ?_
  subst he
  have hx : x = .bool true := hr
  subst hx
  have hall : ([25, 113, 49].all fun u => Tryd.prog.readableRec u && decide (u < Tryd.prog.types.size)) = true := by kernel_rfl
  have hread : ∀ t ∈ Tryd.f15.params.toList, Tryd.prog.readableRec t = true ∧ t < Tryd.prog.types.size := by
    intro t ht
    rw [Tryd.params15] at ht
    have h9 := List.all_eq_true.1 hall t ht
    rw [Bool.and_eq_true, decide_eq_true_eq] at h9
    exact h9
  exact ⟨_, rfl, law_post (P := Tryd.prog) (tb := 4) laidOut hread rfl (by kernel_rfl) Tryd.underlying4 rfl hW' hb⟩
theorem topFlorSpells_holds : Rows.TopFlorSpellsSaid :=
  OpenClaim.holds_of_wide 15 Tryd.f15 rfl rfl rfl rfl rfl rfl rfl ⟨rfl, rfl, rfl, rfl, rfl⟩ rfl rfl rfl rfl rfl (by kernel_rfl) Tryd.func15 (by kernel_rfl)
    (of_decide_eq_true (by kernel_rfl)) (by unfold Func.isWrapper; first | (rw [if_pos (by decide +kernel)]; kernel_rfl) | (rw [if_neg (by decide +kernel)]; exact ⟨rfl, rfl⟩))
    (fun os started H enc _ => topFlorSpells_lifted os started H enc)
theorem topFlorSpells_card : Rows.TopFlorSpellsCardSaid :=
  Claim7.holds_tied_plain_at .later [] [.data] true (true, "4c7ef524b5881d19e12948985b782f19a9a88117ac4dbe7e5488c5a3b77f72f3") false
    topFlorSpells_holds (fun _ h => by cases h) (by kernel_rfl) (fun _ h => by cases h) topFlorSpells_row_tie rfl ⟨rfl, rfl⟩ (by kernel_rfl) rfl
    (fun f fn hf hfn => by
      obtain rfl : f = 15 := Option.some.inj ((show Tryd.prog.funcNamed "criadera/criaderatop.TopFlorSpells" = some 15 by kernel_rfl).symm.trans hf) |>.symm
      obtain rfl : fn = Tryd.f15 := (Option.some.inj (Tryd.func15.symm.trans hfn)).symm
      exact ⟨by kernel_rfl, fun j t ht => by
        rw [Tryd.params15] at ht
        have hm : t ∈ [25, 113, 49] := by simpa using Array.mem_of_getElem? ht
        have hall : ([25, 113, 49].all fun u => !Tryd.prog.wantsStandIn u) = true := by kernel_rfl
        exact (show Tryd.prog.wantsStandIn t = false by simpa using List.all_eq_true.1 hall t hm)⟩)
    (by kernel_rfl)
#print axioms topFlorSpells_card
end Go.Proofs.YtcgdcocmnmkhlaaDoor
