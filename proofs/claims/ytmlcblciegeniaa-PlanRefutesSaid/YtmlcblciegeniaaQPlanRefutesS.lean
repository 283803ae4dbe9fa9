/- PlanRefutes: whatever the input, the law answers true and its input reads as it did; the row without a further condition. -/
import Derived.Test.YtmlcblciegeniaaFJ8
import Derived.Test.YtmlcblciegeniaaRows
import Derived.JoinedOf
namespace Go.Proofs.Ytmlcblciegeniaa
open Go Go.ChangeShapes Go.WideShapes Go.ChangeAt Go.RowKit
set_option maxRecDepth 100000
theorem own : ownKnob Try.prog.godebug = none := by kernel_rfl
theorem laidOut : laidOutB Try.prog = true := by kernel_rfl
theorem isS {n : Nat} {F : Nat → Nat → V.D} (h : ∀ i j k, i < n → ([.i, .i, .i, .i] : List Rw.SK)[j]? = some k → Rw.DG k (F i j)) : Pl.eSc.Is n F := by
  intro i j hi hj
  have hj : j < 4 := hj
  match j, hj with
  | 0, _ => obtain ⟨s, hs⟩ := Rw.dg_i (h i 0 .i hi rfl); show (F i 0).eqv (Pl.dI (Pl.rdI (F i) 0)); unfold Pl.rdI; rw [hs]; exact V.D.eqv_refl _
  | 1, _ => obtain ⟨s, hs⟩ := Rw.dg_i (h i 1 .i hi rfl); show (F i 1).eqv (Pl.dI (Pl.rdI (F i) 1)); unfold Pl.rdI; rw [hs]; exact V.D.eqv_refl _
  | 2, _ => obtain ⟨s, hs⟩ := Rw.dg_i (h i 2 .i hi rfl); show (F i 2).eqv (Pl.dI (Pl.rdI (F i) 2)); unfold Pl.rdI; rw [hs]; exact V.D.eqv_refl _
  | 3, _ => obtain ⟨s, hs⟩ := Rw.dg_i (h i 3 .i hi rfl); show (F i 3).eqv (Pl.dI (Pl.rdI (F i) 3)); unfold Pl.rdI; rw [hs]; exact V.D.eqv_refl _
theorem isR {n : Nat} {F : Nat → Nat → V.D} (h : ∀ i j k, i < n → ([.i, .i] : List Rw.SK)[j]? = some k → Rw.DG k (F i j)) : Pl.eRg.Is n F := by
  intro i j hi hj
  have hj : j < 2 := hj
  match j, hj with
  | 0, _ => obtain ⟨s, hs⟩ := Rw.dg_i (h i 0 .i hi rfl); show (F i 0).eqv (Pl.dI (Pl.rdI (F i) 0)); unfold Pl.rdI; rw [hs]; exact V.D.eqv_refl _
  | 1, _ => obtain ⟨s, hs⟩ := Rw.dg_i (h i 1 .i hi rfl); show (F i 1).eqv (Pl.dI (Pl.rdI (F i) 1)); unfold Pl.rdI; rw [hs]; exact V.D.eqv_refl _
theorem isI {n : Nat} {F : Nat → Nat → V.D} (h : ∀ i j k, i < n → ([.i] : List Rw.SK)[j]? = some k → Rw.DG k (F i j)) : Pl.eI.Is n F := by
  intro i j hi hj
  have hj : j < 1 := hj
  match j, hj with
  | 0, _ => obtain ⟨s, hs⟩ := Rw.dg_i (h i 0 .i hi rfl); show (F i 0).eqv (Pl.dI (Pl.rdI (F i) 0)); unfold Pl.rdI; rw [hs]; exact V.D.eqv_refl _
theorem isD {n : Nat} {F : Nat → Nat → V.D} (h : ∀ i j k, i < n → ([.s, .sl [.i], .i] : List Rw.SK)[j]? = some k → Rw.DG k (F i j)) : Pl.eDm.Is n F := by
  intro i j hi hj
  have hj : j < 3 := hj
  match j, hj with
  | 0, _ => obtain ⟨s, hs⟩ := Rw.dg_s (h i 0 .s hi rfl); show (F i 0).eqv (.str (Pl.rdS (F i) 0)); unfold Pl.rdS; rw [hs]; exact V.D.eqv_refl _
  | 1, _ =>
    obtain ⟨len, G, hs, hG⟩ := Rw.dg_sl (h i 1 (.sl [.i]) hi rfl)
    show (F i 1).eqv (Pl.dL (Pl.rdL (F i) 1))
    unfold Pl.rdL
    rw [hs]
    exact Pl.eI.to id (isI hG)
  | 2, _ => obtain ⟨s, hs⟩ := Rw.dg_i (h i 2 .i hi rfl); show (F i 2).eqv (Pl.dI (Pl.rdI (F i) 2)); unfold Pl.rdI; rw [hs]; exact V.D.eqv_refl _
theorem okWide_u8 {P : Program} {w : World} {r : Reach} {base : Nat} {t : TypeId} {v : Value} (ht : P.underlying t = some (.int .u8)) (h : Value.okWide P w r base t v) : ∃ n, v = .int .u8 n ∧ 0 ≤ n ∧ n ≤ 255 := by
  obtain ⟨n, rfl⟩ := okWide_int ht h
  refine ⟨n, rfl, ?_⟩
  have e1 : IntKind.u8.min = 0 := by decide
  have e2 : IntKind.u8.max = 255 := by decide
  simp only [Value.okWide, ht, Cell.okWide] at h
  simp [Cell.ok, ht, IntKind.has] at h
  rw [e1, e2] at h
  omega
theorem f2_cons {α β : Type} {R : α → β → Prop} {a : α} {l : List α} {cs : List β} (h : V.F2 R (a :: l) cs) : ∃ b k, cs = b :: k ∧ R a b ∧ V.F2 R l k := by
  cases h with
  | cons h1 h2 => exact ⟨_, _, rfl, h1, h2⟩
theorem f2_nil {α β : Type} {R : α → β → Prop} {cs : List β} (h : V.F2 R [] cs) : cs = [] := by cases h; rfl
theorem planRefutes_lifted (os : Os) (started : os.Started) (H : Type) (enc : TypeId × Value → H) :
    ReturnsInHanded {} Try.checked os 9 .any (Rows.planRefutesSpec.pre6 enc Try.prog Try.f9 Rows.planRefutesRow.domain false) (Rows.planRefutesSpec.post enc Try.prog Try.f9 false true false false) := by
  refine returnsInHanded_of_change (C := Try.checked) own started (by kernel_rfl) Try.func9
    (ChangeSpec.witness6 (enc := enc) (C := Try.checked) false ⟨#[], #[.agg #[.slice none 0 0, .slice none 0 0, .slice none 0 0]], []⟩ 8 (by kernel_rfl) (by kernel_rfl) (by kernel_rfl) (by kernel_rfl)) ?_
  intro W base args ds gs before hval0 hW _ _
  have hval : ∀ (j : Nat) t v, Try.f9.params[j]? = some t → args[j]? = some v → Value.okWide Try.prog W .any base t v := hval0
  have hW' := hW
  obtain ⟨p, q, hA0, hV, rfl, hfz, hnd⟩ := hW
  have hA : DataW.TrodAll enc Try.prog W 0 (fun _ => true) true Try.f9.params.toList args.toList ds p := hA0
  rw [Try.params9] at hA hval
  obtain ⟨v0, d0, rfl, rfl, h0⟩ := trodAll_one hA
  obtain ⟨k0, g0_0, rfl⟩ := Rw.open_st 9 (l := [.sl [.i], .sl [.i], .sl [.s, .sl [.i], .i]]) Try.underlying25 (by kernel_rfl) (hval 0 25 v0 rfl rfl) h0
  obtain ⟨b0_0, k0_0, rfl, a0_0, g0_1⟩ := f2_cons g0_0
  obtain ⟨len0_0, f0_0, r0_0, i0_0⟩ := Rw.mg_sl a0_0
  obtain ⟨b0_1, k0_1, rfl, a0_1, g0_2⟩ := f2_cons g0_1
  obtain ⟨len0_1, f0_1, r0_1, i0_1⟩ := Rw.mg_sl a0_1
  obtain ⟨b0_2, k0_2, rfl, a0_2, g0_3⟩ := f2_cons g0_2
  obtain ⟨len0_2, f0_2, r0_2, i0_2⟩ := Rw.mg_sl a0_2
  obtain rfl := f2_nil g0_3
  have hc := Pl.C9 [.agg [.sl false len0_0 1 f0_0, .sl false len0_1 1 f0_1, .sl false len0_2 3 f0_2]] _ _ rfl ⟨isI i0_0, isI i0_1, isD i0_2, trivial⟩ (V.fullK W) W _ trivial (V.fullK_lies W) (fun _ _ _ e => by cases e) (.cons ⟨_, (.cons r0_0 (.cons r0_1 (.cons r0_2 .nil))), rfl⟩ .nil)
  refine hc.mono fun e W' ⟨x, _, he, _, _, _, hr, hb⟩ => ?_
  subst he
  have hx : x = .bool true := hr
  subst hx
  have hall : ([25].all fun u => Try.prog.readableRec u && decide (u < Try.prog.types.size)) = true := by kernel_rfl
  have hread : ∀ t ∈ Try.f9.params.toList, Try.prog.readableRec t = true ∧ t < Try.prog.types.size := by
    intro t ht
    rw [Try.params9] at ht
    have h9 := List.all_eq_true.1 hall t ht
    rw [Bool.and_eq_true, decide_eq_true_eq] at h9
    exact h9
  exact ⟨_, rfl, Rw.law_post (P := Try.prog) (tb := 4) laidOut hread rfl (by kernel_rfl) Try.underlying4 rfl hW' hb⟩
theorem planRefutes_holds : Rows.PlanRefutesSaid :=
  OpenClaim.holds_of_wide 9 Try.f9 rfl rfl rfl rfl rfl rfl rfl ⟨rfl, rfl, rfl, rfl, rfl⟩ rfl rfl rfl rfl rfl (by kernel_rfl) Try.func9 (by kernel_rfl)
    (of_decide_eq_true (by kernel_rfl)) (by unfold Func.isWrapper; first | (rw [if_pos (by decide +kernel)]; kernel_rfl) | (rw [if_neg (by decide +kernel)]; exact ⟨rfl, rfl⟩))
    (fun os started H enc _ => planRefutes_lifted os started H enc)
#print axioms planRefutes_holds
end Go.Proofs.Ytmlcblciegeniaa
