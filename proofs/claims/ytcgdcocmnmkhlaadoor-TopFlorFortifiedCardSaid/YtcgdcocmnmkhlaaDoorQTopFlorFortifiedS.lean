/- TopFlorFortified: whatever the input, the law answers true and its input reads as it did; the row without a further condition. Then the tied card. -/
import Derived.Test.YtcgdcocmnmkhlaaDoorFA5
import Derived.Test.YtcgdcocmnmkhlaaDoorTie
import Derived.Test.YtcgdcocmnmkhlaaDoorCards
namespace Go.Proofs.YtcgdcocmnmkhlaaDoor
open Go Go.ChangeShapes Go.WideShapes Go.ChangeAt Go.RowKit Go.Eng Go.Fl
set_option maxRecDepth 100000
theorem topFlorFortified_lifted (os : Os) (started : os.Started) (H : Type) (enc : TypeId × Value → H) :
    ReturnsInHanded {} Tryd.checked os 19 .any (fun w args => (Rows.topFlorFortifiedSpec.pre enc Tryd.prog Tryd.f19 [] false w args ∧ laidMetH Tryd.prog laid1 w) ∧ sizedMet enc Tryd.prog Tryd.f19 (OpenSpec.ofChange Rows.topFlorFortifiedSpec) false w args)
      (Rows.topFlorFortifiedSpec.post enc Tryd.prog Tryd.f19 false true false false) := by
  refine returnsInHanded_of_change_and (C := Tryd.checked) (X := fun w _ => laidMetH Tryd.prog laid1 w) (fun _ _ _ hh h => h.of_heap hh) own started (by kernel_rfl) Tryd.func19
    (ChangeSpec.witness_shaped (enc := enc) (C := Tryd.checked) (os := os) (X := fun w _ => laidMetH Tryd.prog laid1 w) false (World.doorLaid Tryd.prog 400 os) #[.agg #[.int .i64 0, .int .i64 0, .int .i64 0, .int .i64 0, .int .i64 0, .int .i64 0], .agg #[.int .i64 0, .int .i64 0, .int .i64 0, .int .i64 0], .agg #[.int .i64 0, .int .i64 0, .int .i64 0]] 8 rfl (World.shaped_of_RefB (by kernel_rfl) (by kernel_rfl)) (by kernel_rfl) (by kernel_rfl) (by kernel_rfl) (door_met os _)) ?_
  intro W base args ds gs before hval0 hW _ _ hL _
  have hval : ∀ (j : Nat) t v, Tryd.f19.params[j]? = some t → args[j]? = some v → Value.okWide Tryd.prog W .any base t v := hval0
  have hW' := hW
  obtain ⟨p, q, hA0, hV, rfl, hfz, hnd⟩ := hW
  have hA : DataW.TrodAll enc Tryd.prog W 0 (fun _ => true) true Tryd.f19.params.toList args.toList ds p := hA0
  rw [Tryd.params19] at hA hval
  obtain ⟨v0, v1, v2, d0, d1, d2, p0, p1, p2, rfl, rfl, rfl, h0, h1, h2⟩ := trodAll_three hA
  obtain ⟨ns0, hn0, rfl, rfl⟩ := open_aggI 7 6 Tryd.underlying25 (by kernel_rfl) (by kernel_rfl) (hval 0 25 v0 rfl rfl) h0
  obtain ⟨x0_0, x0_1, x0_2, x0_3, x0_4, x0_5, rfl⟩ := list6 hn0
  obtain ⟨ns1, hn1, rfl, rfl⟩ := open_aggI 7 4 Tryd.underlying27 (by kernel_rfl) (by kernel_rfl) (hval 1 27 v1 rfl rfl) h1
  obtain ⟨x1_0, x1_1, x1_2, x1_3, rfl⟩ := list4 hn1
  obtain ⟨ns2, hn2, rfl, rfl⟩ := open_aggI 7 3 Tryd.underlying124 (by kernel_rfl) (by kernel_rfl) (hval 2 124 v2 rfl rfl) h2
  obtain ⟨x2_0, x2_1, x2_2, rfl⟩ := list3 hn2
  have hc := Go.Fl2.C19v [.agg [.int .i64 x0_0, .int .i64 x0_1, .int .i64 x0_2, .int .i64 x0_3, .int .i64 x0_4, .int .i64 x0_5], .agg [.int .i64 x1_0, .int .i64 x1_1, .int .i64 x1_2, .int .i64 x1_3], .agg [.int .i64 x2_0, .int .i64 x2_1, .int .i64 x2_2]] _ _ rfl trivial (Go.V.fullK W) W _ (gw_of_laid hL) (Go.V.fullK_lies W) (fun _ _ _ e => by cases e) (.cons ⟨_, (.cons rfl (.cons rfl (.cons rfl (.cons rfl (.cons rfl (.cons rfl .nil)))))), rfl⟩ (.cons ⟨_, (.cons rfl (.cons rfl (.cons rfl (.cons rfl .nil)))), rfl⟩ (.cons ⟨_, (.cons rfl (.cons rfl (.cons rfl .nil))), rfl⟩ .nil)))
  refine hc.mono fun e W' ⟨x, _, he, _, _, _, hr, hb⟩ => ?_
  subst he
  have hx : x = .bool true := hr
  subst hx
  have hall : ([25, 27, 124].all fun u => Tryd.prog.readableRec u && decide (u < Tryd.prog.types.size)) = true := by kernel_rfl
  have hread : ∀ t ∈ Tryd.f19.params.toList, Tryd.prog.readableRec t = true ∧ t < Tryd.prog.types.size := by
    intro t ht
    rw [Tryd.params19] at ht
    have h9 := List.all_eq_true.1 hall t ht
    rw [Bool.and_eq_true, decide_eq_true_eq] at h9
    exact h9
  exact ⟨_, rfl, law_post (P := Tryd.prog) (tb := 4) laidOut hread rfl (by kernel_rfl) Tryd.underlying4 rfl hW' hb⟩
theorem topFlorFortified_holds : Rows.TopFlorFortifiedSaid :=
  OpenClaim.holds_of_wide 19 Tryd.f19 rfl rfl rfl rfl rfl rfl rfl ⟨rfl, rfl, rfl, rfl, rfl⟩ rfl rfl rfl rfl rfl (by kernel_rfl) Tryd.func19 (by kernel_rfl)
    (of_decide_eq_true (by kernel_rfl)) (by unfold Func.isWrapper; first | (rw [if_pos (by decide +kernel)]; kernel_rfl) | (rw [if_neg (by decide +kernel)]; exact ⟨rfl, rfl⟩))
    (fun os started H enc _ => topFlorFortified_lifted os started H enc)
theorem topFlorFortified_card : Rows.TopFlorFortifiedCardSaid :=
  Claim7.holds_tied_plain_at .later [] [.data] true (true, "4c7ef524b5881d19e12948985b782f19a9a88117ac4dbe7e5488c5a3b77f72f3") false
    topFlorFortified_holds (fun _ h => by cases h) (by kernel_rfl) (fun _ h => by cases h) topFlorFortified_row_tie rfl ⟨rfl, rfl⟩ (by kernel_rfl) rfl
    (fun f fn hf hfn => by
      obtain rfl : f = 19 := Option.some.inj ((show Tryd.prog.funcNamed "criadera/criaderatop.TopFlorFortified" = some 19 by kernel_rfl).symm.trans hf) |>.symm
      obtain rfl : fn = Tryd.f19 := (Option.some.inj (Tryd.func19.symm.trans hfn)).symm
      exact ⟨by kernel_rfl, fun j t ht => by
        rw [Tryd.params19] at ht
        have hm : t ∈ [25, 27, 124] := by simpa using Array.mem_of_getElem? ht
        have hall : ([25, 27, 124].all fun u => !Tryd.prog.wantsStandIn u) = true := by kernel_rfl
        exact (show Tryd.prog.wantsStandIn t = false by simpa using List.all_eq_true.1 hall t hm)⟩)
    (by kernel_rfl)
#print axioms topFlorFortified_card
end Go.Proofs.YtcgdcocmnmkhlaaDoor
