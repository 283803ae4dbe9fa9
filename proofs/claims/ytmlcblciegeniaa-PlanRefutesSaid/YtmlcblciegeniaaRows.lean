/-
  No cell of these rows narrows 'for every input' (looked for: loops, veiled, ifaces, maps, wideKeys, modest, calm, conditions, laid).
  DERIVED. THE GIVEN ROWS OF THIS SEAT. 12 by the template 'for every input the law returns true; each argument reads behind the call as it read before'; 0 by the template 'total and deterministic' (their statements: YtmlcblciegeniaaTotals.lean).
  GIVEN WITH THE SEED: the statements are not yours to turn. If you find one false, say at which input.
  Laid BY PROGRAM, IN A SANDBOX (cutbox-rows.mjs): the forced cells as the released guide's own fill.sh prints them over the translation f719204baa1865f0… (all of the seat's roots in one cut). By AI agents, Wed Nov 11 2026. No macro, syntax, notation, axiom, sorry.
-/
import Derived.Test.YtmlcblciegeniaaChecked
import GoSem.Claim
import GoSem.ClaimJoined
import GoSem.ClaimMapViews
import Derived.JoinedTies
import Derived.KernelRfl
namespace Go.Proofs.Ytmlcblciegeniaa
/- THE CELL 'sum', in the pinned program and in every row, IS THE sha256 OF THE DUMP (.gsa) THAT YtmlcblciegeniaaProg.lean LOADS. Nothing in Lean hashes anything: it is a label: what it is worth is what the hold of that sum in a sandbox is worth. -/
noncomputable def Try.pinned : Pinned := { name := "ytmlcblciegeniaa", sum := "f719204baa1865f0626f6729ba6eabf3c02ae90a8b89ba8d7cc6631fdc579a95", checked := Try.checked }
namespace Rows
def none {H : Type} : Left H := { results := [], args := [] }

/-- 'criaderalaw06.PlanBests': WHATEVER THE INPUT: true; the input reads as it did. -/
def planBestsSpec : ChangeSpec := { name := "planBests", fn := fun _ => fun
  | [d] => { results := [.lit (.bool true)], args := [d] }
  | _ => none }
def planBestsRow : OpenClaim := { program := "ytmlcblciegeniaa", sum := "f719204baa1865f0626f6729ba6eabf3c02ae90a8b89ba8d7cc6631fdc579a95", func := "criadera/criaderalaw06.PlanBests", spec := "planBests", unfollowed := true, recurses := true, apart := false }
def PlanBestsSaid : Prop := planBestsRow.holds Try.pinned (OpenSpec.ofChange planBestsSpec)

/-- ITS FALSE NEIGHBOUR: 'it returns false'. Refute it at one input. -/
def planBestsWrong : ChangeSpec := { name := "planBests", fn := fun _ => fun
  | [d] => { results := [.lit (.bool false)], args := [d] }
  | _ => none }
def PlanBestsWrongFalsely : Prop := planBestsRow.holds Try.pinned (OpenSpec.ofChange planBestsWrong)

/-- 'criaderalaw06.PlanForEver': WHATEVER THE INPUT: true; the input reads as it did. -/
def planForEverSpec : ChangeSpec := { name := "planForEver", fn := fun _ => fun
  | [d1, d2] => { results := [.lit (.bool true)], args := [d1, d2] }
  | _ => none }
def planForEverRow : OpenClaim := { program := "ytmlcblciegeniaa", sum := "f719204baa1865f0626f6729ba6eabf3c02ae90a8b89ba8d7cc6631fdc579a95", func := "criadera/criaderalaw06.PlanForEver", spec := "planForEver", unfollowed := true, recurses := true, apart := false }
def PlanForEverSaid : Prop := planForEverRow.holds Try.pinned (OpenSpec.ofChange planForEverSpec)

/-- ITS FALSE NEIGHBOUR: 'it returns false'. Refute it at one input. -/
def planForEverWrong : ChangeSpec := { name := "planForEver", fn := fun _ => fun
  | [d1, d2] => { results := [.lit (.bool false)], args := [d1, d2] }
  | _ => none }
def PlanForEverWrongFalsely : Prop := planForEverRow.holds Try.pinned (OpenSpec.ofChange planForEverWrong)

/-- 'criaderalaw06.PlanSteady': WHATEVER THE INPUT: true; the input reads as it did. -/
def planSteadySpec : ChangeSpec := { name := "planSteady", fn := fun _ => fun
  | [d1, d2] => { results := [.lit (.bool true)], args := [d1, d2] }
  | _ => none }
def planSteadyRow : OpenClaim := { program := "ytmlcblciegeniaa", sum := "f719204baa1865f0626f6729ba6eabf3c02ae90a8b89ba8d7cc6631fdc579a95", func := "criadera/criaderalaw06.PlanSteady", spec := "planSteady", unfollowed := true, recurses := true, apart := false }
def PlanSteadySaid : Prop := planSteadyRow.holds Try.pinned (OpenSpec.ofChange planSteadySpec)

/-- ITS FALSE NEIGHBOUR: 'it returns false'. Refute it at one input. -/
def planSteadyWrong : ChangeSpec := { name := "planSteady", fn := fun _ => fun
  | [d1, d2] => { results := [.lit (.bool false)], args := [d1, d2] }
  | _ => none }
def PlanSteadyWrongFalsely : Prop := planSteadyRow.holds Try.pinned (OpenSpec.ofChange planSteadyWrong)

/-- 'criaderalaw06.PlanPrograms': WHATEVER THE INPUT: true; the input reads as it did. -/
def planProgramsSpec : ChangeSpec := { name := "planPrograms", fn := fun _ => fun
  | [d1, d2] => { results := [.lit (.bool true)], args := [d1, d2] }
  | _ => none }
def planProgramsRow : OpenClaim := { program := "ytmlcblciegeniaa", sum := "f719204baa1865f0626f6729ba6eabf3c02ae90a8b89ba8d7cc6631fdc579a95", func := "criadera/criaderalaw06.PlanPrograms", spec := "planPrograms", unfollowed := true, recurses := true, apart := false }
def PlanProgramsSaid : Prop := planProgramsRow.holds Try.pinned (OpenSpec.ofChange planProgramsSpec)

/-- ITS FALSE NEIGHBOUR: 'it returns false'. Refute it at one input. -/
def planProgramsWrong : ChangeSpec := { name := "planPrograms", fn := fun _ => fun
  | [d1, d2] => { results := [.lit (.bool false)], args := [d1, d2] }
  | _ => none }
def PlanProgramsWrongFalsely : Prop := planProgramsRow.holds Try.pinned (OpenSpec.ofChange planProgramsWrong)

/-- 'criaderalaw06.PlanHolds': WHATEVER THE INPUT: true; the input reads as it did. -/
def planHoldsSpec : ChangeSpec := { name := "planHolds", fn := fun _ => fun
  | [d] => { results := [.lit (.bool true)], args := [d] }
  | _ => none }
def planHoldsRow : OpenClaim := { program := "ytmlcblciegeniaa", sum := "f719204baa1865f0626f6729ba6eabf3c02ae90a8b89ba8d7cc6631fdc579a95", func := "criadera/criaderalaw06.PlanHolds", spec := "planHolds", unfollowed := true, recurses := true, apart := false }
def PlanHoldsSaid : Prop := planHoldsRow.holds Try.pinned (OpenSpec.ofChange planHoldsSpec)

/-- ITS FALSE NEIGHBOUR: 'it returns false'. Refute it at one input. -/
def planHoldsWrong : ChangeSpec := { name := "planHolds", fn := fun _ => fun
  | [d] => { results := [.lit (.bool false)], args := [d] }
  | _ => none }
def PlanHoldsWrongFalsely : Prop := planHoldsRow.holds Try.pinned (OpenSpec.ofChange planHoldsWrong)

/-- 'criaderalaw06.PlanProofs': WHATEVER THE INPUT: true; the input reads as it did. -/
def planProofsSpec : ChangeSpec := { name := "planProofs", fn := fun _ => fun
  | [d1, d2, d3] => { results := [.lit (.bool true)], args := [d1, d2, d3] }
  | _ => none }
def planProofsRow : OpenClaim := { program := "ytmlcblciegeniaa", sum := "f719204baa1865f0626f6729ba6eabf3c02ae90a8b89ba8d7cc6631fdc579a95", func := "criadera/criaderalaw06.PlanProofs", spec := "planProofs", unfollowed := true, recurses := true, apart := false }
def PlanProofsSaid : Prop := planProofsRow.holds Try.pinned (OpenSpec.ofChange planProofsSpec)

/-- ITS FALSE NEIGHBOUR: 'it returns false'. Refute it at one input. -/
def planProofsWrong : ChangeSpec := { name := "planProofs", fn := fun _ => fun
  | [d1, d2, d3] => { results := [.lit (.bool false)], args := [d1, d2, d3] }
  | _ => none }
def PlanProofsWrongFalsely : Prop := planProofsRow.holds Try.pinned (OpenSpec.ofChange planProofsWrong)

/-- 'criaderalaw06.PlanRefutes': WHATEVER THE INPUT: true; the input reads as it did. -/
def planRefutesSpec : ChangeSpec := { name := "planRefutes", fn := fun _ => fun
  | [d] => { results := [.lit (.bool true)], args := [d] }
  | _ => none }
def planRefutesRow : OpenClaim := { program := "ytmlcblciegeniaa", sum := "f719204baa1865f0626f6729ba6eabf3c02ae90a8b89ba8d7cc6631fdc579a95", func := "criadera/criaderalaw06.PlanRefutes", spec := "planRefutes", unfollowed := true, recurses := true, apart := false }
def PlanRefutesSaid : Prop := planRefutesRow.holds Try.pinned (OpenSpec.ofChange planRefutesSpec)

/-- ITS FALSE NEIGHBOUR: 'it returns false'. Refute it at one input. -/
def planRefutesWrong : ChangeSpec := { name := "planRefutes", fn := fun _ => fun
  | [d] => { results := [.lit (.bool false)], args := [d] }
  | _ => none }
def PlanRefutesWrongFalsely : Prop := planRefutesRow.holds Try.pinned (OpenSpec.ofChange planRefutesWrong)

/-- 'criaderalaw06.PlanPoints': WHATEVER THE INPUT: true; the input reads as it did. -/
def planPointsSpec : ChangeSpec := { name := "planPoints", fn := fun _ => fun
  | [d1, d2] => { results := [.lit (.bool true)], args := [d1, d2] }
  | _ => none }
def planPointsRow : OpenClaim := { program := "ytmlcblciegeniaa", sum := "f719204baa1865f0626f6729ba6eabf3c02ae90a8b89ba8d7cc6631fdc579a95", func := "criadera/criaderalaw06.PlanPoints", spec := "planPoints", unfollowed := true, recurses := true, apart := false }
def PlanPointsSaid : Prop := planPointsRow.holds Try.pinned (OpenSpec.ofChange planPointsSpec)

/-- ITS FALSE NEIGHBOUR: 'it returns false'. Refute it at one input. -/
def planPointsWrong : ChangeSpec := { name := "planPoints", fn := fun _ => fun
  | [d1, d2] => { results := [.lit (.bool false)], args := [d1, d2] }
  | _ => none }
def PlanPointsWrongFalsely : Prop := planPointsRow.holds Try.pinned (OpenSpec.ofChange planPointsWrong)

/-- 'criaderalaw06.PlanStays': WHATEVER THE INPUT: true; the input reads as it did. -/
def planStaysSpec : ChangeSpec := { name := "planStays", fn := fun _ => fun
  | [d1, d2, d3] => { results := [.lit (.bool true)], args := [d1, d2, d3] }
  | _ => none }
def planStaysRow : OpenClaim := { program := "ytmlcblciegeniaa", sum := "f719204baa1865f0626f6729ba6eabf3c02ae90a8b89ba8d7cc6631fdc579a95", func := "criadera/criaderalaw06.PlanStays", spec := "planStays", unfollowed := true, recurses := true, apart := false }
def PlanStaysSaid : Prop := planStaysRow.holds Try.pinned (OpenSpec.ofChange planStaysSpec)

/-- ITS FALSE NEIGHBOUR: 'it returns false'. Refute it at one input. -/
def planStaysWrong : ChangeSpec := { name := "planStays", fn := fun _ => fun
  | [d1, d2, d3] => { results := [.lit (.bool false)], args := [d1, d2, d3] }
  | _ => none }
def PlanStaysWrongFalsely : Prop := planStaysRow.holds Try.pinned (OpenSpec.ofChange planStaysWrong)

/-- 'criaderalaw06.PlanNow': WHATEVER THE INPUT: true; the input reads as it did. -/
def planNowSpec : ChangeSpec := { name := "planNow", fn := fun _ => fun
  | [d1, d2] => { results := [.lit (.bool true)], args := [d1, d2] }
  | _ => none }
def planNowRow : OpenClaim := { program := "ytmlcblciegeniaa", sum := "f719204baa1865f0626f6729ba6eabf3c02ae90a8b89ba8d7cc6631fdc579a95", func := "criadera/criaderalaw06.PlanNow", spec := "planNow", unfollowed := true, recurses := true, apart := false }
def PlanNowSaid : Prop := planNowRow.holds Try.pinned (OpenSpec.ofChange planNowSpec)

/-- ITS FALSE NEIGHBOUR: 'it returns false'. Refute it at one input. -/
def planNowWrong : ChangeSpec := { name := "planNow", fn := fun _ => fun
  | [d1, d2] => { results := [.lit (.bool false)], args := [d1, d2] }
  | _ => none }
def PlanNowWrongFalsely : Prop := planNowRow.holds Try.pinned (OpenSpec.ofChange planNowWrong)

/-- 'criaderalaw06.PlanYears': WHATEVER THE INPUT: true; the input reads as it did. -/
def planYearsSpec : ChangeSpec := { name := "planYears", fn := fun _ => fun
  | [d1, d2, d3] => { results := [.lit (.bool true)], args := [d1, d2, d3] }
  | _ => none }
def planYearsRow : OpenClaim := { program := "ytmlcblciegeniaa", sum := "f719204baa1865f0626f6729ba6eabf3c02ae90a8b89ba8d7cc6631fdc579a95", func := "criadera/criaderalaw06.PlanYears", spec := "planYears", unfollowed := true, recurses := true, apart := false }
def PlanYearsSaid : Prop := planYearsRow.holds Try.pinned (OpenSpec.ofChange planYearsSpec)

/-- ITS FALSE NEIGHBOUR: 'it returns false'. Refute it at one input. -/
def planYearsWrong : ChangeSpec := { name := "planYears", fn := fun _ => fun
  | [d1, d2, d3] => { results := [.lit (.bool false)], args := [d1, d2, d3] }
  | _ => none }
def PlanYearsWrongFalsely : Prop := planYearsRow.holds Try.pinned (OpenSpec.ofChange planYearsWrong)

/-- 'criaderatop.TopPlanImplied': WHATEVER THE INPUT: true; the input reads as it did. -/
def topPlanImpliedSpec : ChangeSpec := { name := "topPlanImplied", fn := fun _ => fun
  | [d1, d2] => { results := [.lit (.bool true)], args := [d1, d2] }
  | _ => none }
def topPlanImpliedRow : OpenClaim := { program := "ytmlcblciegeniaa", sum := "f719204baa1865f0626f6729ba6eabf3c02ae90a8b89ba8d7cc6631fdc579a95", func := "criadera/criaderatop.TopPlanImplied", spec := "topPlanImplied", unfollowed := true, recurses := true, apart := false }
def TopPlanImpliedSaid : Prop := topPlanImpliedRow.holds Try.pinned (OpenSpec.ofChange topPlanImpliedSpec)

/-- ITS FALSE NEIGHBOUR: 'it returns false'. Refute it at one input. -/
def topPlanImpliedWrong : ChangeSpec := { name := "topPlanImplied", fn := fun _ => fun
  | [d1, d2] => { results := [.lit (.bool false)], args := [d1, d2] }
  | _ => none }
def TopPlanImpliedWrongFalsely : Prop := topPlanImpliedRow.holds Try.pinned (OpenSpec.ofChange topPlanImpliedWrong)

/- THE SECOND FORM. 'bulk': how many values and letters a reading holds, each counted each time it is reached (what is shared counts as often as it is met; a slice's spare places count too). A statement '..UptoSaid' is the law's where the arguments, and the package variables that the reading takes, are together of bulk at most 1048576: NARROWER than '..Said'. Prove '..Said' where nothing that the law and all that it calls make is longer than what came in: it says more and counts as full. Else prove '..UptoSaid'. A law counts once. -/
mutual
def uptoBulk {H : Type} : DataW H → Nat
  | .lit (.string bytes) => bytes.length + 1
  | .lit _ => 1
  | .nil => 1
  | .ptr d => uptoBulk d + 1
  | .slice elems spare => uptoBulkAll elems + uptoBulkAll spare + 1
  | .agg parts => uptoBulkAll parts + 1
  | .iface _ d => uptoBulk d + 1
  | .map entries => uptoBulkEntries entries + 1
  | .held _ => 1
def uptoBulkAll {H : Type} : List (DataW H) → Nat
  | [] => 0
  | d :: r => uptoBulk d + uptoBulkAll r
def uptoBulkEntries {H : Type} : List (Lit × DataW H) → Nat
  | [] => 0
  | x :: r => uptoBulkEntry x + uptoBulkEntries r
def uptoBulkEntry {H : Type} : Lit × DataW H → Nat
  | (.string bytes, d) => bytes.length + uptoBulk d + 1
  | (_, d) => uptoBulk d + 1
 end
def uptoSmall : (H : Type) → List (DataW H) → Bool := fun _ ds => decide (uptoBulkAll ds ≤ 1048576)
def OpenSpec.upto (s : _root_.Go.ChangeSpec) : _root_.Go.OpenSpec := { _root_.Go.OpenSpec.ofChange s with cond := some uptoSmall }

/-- 'criaderalaw06.PlanBests', WHERE WHAT IT READS IS OF BULK AT MOST 1048576: true; the input reads as it did. -/
def planBestsUptoRow : OpenClaim := { program := "ytmlcblciegeniaa", sum := "f719204baa1865f0626f6729ba6eabf3c02ae90a8b89ba8d7cc6631fdc579a95", func := "criadera/criaderalaw06.PlanBests", spec := "planBests", unfollowed := true, recurses := true, apart := false, narrowed := true }
def PlanBestsUptoSaid : Prop := planBestsUptoRow.holds Try.pinned (OpenSpec.upto planBestsSpec)

/-- 'criaderalaw06.PlanForEver', WHERE WHAT IT READS IS OF BULK AT MOST 1048576: true; the input reads as it did. -/
def planForEverUptoRow : OpenClaim := { program := "ytmlcblciegeniaa", sum := "f719204baa1865f0626f6729ba6eabf3c02ae90a8b89ba8d7cc6631fdc579a95", func := "criadera/criaderalaw06.PlanForEver", spec := "planForEver", unfollowed := true, recurses := true, apart := false, narrowed := true }
def PlanForEverUptoSaid : Prop := planForEverUptoRow.holds Try.pinned (OpenSpec.upto planForEverSpec)

/-- 'criaderalaw06.PlanSteady', WHERE WHAT IT READS IS OF BULK AT MOST 1048576: true; the input reads as it did. -/
def planSteadyUptoRow : OpenClaim := { program := "ytmlcblciegeniaa", sum := "f719204baa1865f0626f6729ba6eabf3c02ae90a8b89ba8d7cc6631fdc579a95", func := "criadera/criaderalaw06.PlanSteady", spec := "planSteady", unfollowed := true, recurses := true, apart := false, narrowed := true }
def PlanSteadyUptoSaid : Prop := planSteadyUptoRow.holds Try.pinned (OpenSpec.upto planSteadySpec)

/-- 'criaderalaw06.PlanPrograms', WHERE WHAT IT READS IS OF BULK AT MOST 1048576: true; the input reads as it did. -/
def planProgramsUptoRow : OpenClaim := { program := "ytmlcblciegeniaa", sum := "f719204baa1865f0626f6729ba6eabf3c02ae90a8b89ba8d7cc6631fdc579a95", func := "criadera/criaderalaw06.PlanPrograms", spec := "planPrograms", unfollowed := true, recurses := true, apart := false, narrowed := true }
def PlanProgramsUptoSaid : Prop := planProgramsUptoRow.holds Try.pinned (OpenSpec.upto planProgramsSpec)

/-- 'criaderalaw06.PlanHolds', WHERE WHAT IT READS IS OF BULK AT MOST 1048576: true; the input reads as it did. -/
def planHoldsUptoRow : OpenClaim := { program := "ytmlcblciegeniaa", sum := "f719204baa1865f0626f6729ba6eabf3c02ae90a8b89ba8d7cc6631fdc579a95", func := "criadera/criaderalaw06.PlanHolds", spec := "planHolds", unfollowed := true, recurses := true, apart := false, narrowed := true }
def PlanHoldsUptoSaid : Prop := planHoldsUptoRow.holds Try.pinned (OpenSpec.upto planHoldsSpec)

/-- 'criaderalaw06.PlanProofs', WHERE WHAT IT READS IS OF BULK AT MOST 1048576: true; the input reads as it did. -/
def planProofsUptoRow : OpenClaim := { program := "ytmlcblciegeniaa", sum := "f719204baa1865f0626f6729ba6eabf3c02ae90a8b89ba8d7cc6631fdc579a95", func := "criadera/criaderalaw06.PlanProofs", spec := "planProofs", unfollowed := true, recurses := true, apart := false, narrowed := true }
def PlanProofsUptoSaid : Prop := planProofsUptoRow.holds Try.pinned (OpenSpec.upto planProofsSpec)

/-- 'criaderalaw06.PlanRefutes', WHERE WHAT IT READS IS OF BULK AT MOST 1048576: true; the input reads as it did. -/
def planRefutesUptoRow : OpenClaim := { program := "ytmlcblciegeniaa", sum := "f719204baa1865f0626f6729ba6eabf3c02ae90a8b89ba8d7cc6631fdc579a95", func := "criadera/criaderalaw06.PlanRefutes", spec := "planRefutes", unfollowed := true, recurses := true, apart := false, narrowed := true }
def PlanRefutesUptoSaid : Prop := planRefutesUptoRow.holds Try.pinned (OpenSpec.upto planRefutesSpec)

/-- 'criaderalaw06.PlanPoints', WHERE WHAT IT READS IS OF BULK AT MOST 1048576: true; the input reads as it did. -/
def planPointsUptoRow : OpenClaim := { program := "ytmlcblciegeniaa", sum := "f719204baa1865f0626f6729ba6eabf3c02ae90a8b89ba8d7cc6631fdc579a95", func := "criadera/criaderalaw06.PlanPoints", spec := "planPoints", unfollowed := true, recurses := true, apart := false, narrowed := true }
def PlanPointsUptoSaid : Prop := planPointsUptoRow.holds Try.pinned (OpenSpec.upto planPointsSpec)

/-- 'criaderalaw06.PlanStays', WHERE WHAT IT READS IS OF BULK AT MOST 1048576: true; the input reads as it did. -/
def planStaysUptoRow : OpenClaim := { program := "ytmlcblciegeniaa", sum := "f719204baa1865f0626f6729ba6eabf3c02ae90a8b89ba8d7cc6631fdc579a95", func := "criadera/criaderalaw06.PlanStays", spec := "planStays", unfollowed := true, recurses := true, apart := false, narrowed := true }
def PlanStaysUptoSaid : Prop := planStaysUptoRow.holds Try.pinned (OpenSpec.upto planStaysSpec)

/-- 'criaderalaw06.PlanNow', WHERE WHAT IT READS IS OF BULK AT MOST 1048576: true; the input reads as it did. -/
def planNowUptoRow : OpenClaim := { program := "ytmlcblciegeniaa", sum := "f719204baa1865f0626f6729ba6eabf3c02ae90a8b89ba8d7cc6631fdc579a95", func := "criadera/criaderalaw06.PlanNow", spec := "planNow", unfollowed := true, recurses := true, apart := false, narrowed := true }
def PlanNowUptoSaid : Prop := planNowUptoRow.holds Try.pinned (OpenSpec.upto planNowSpec)

/-- 'criaderalaw06.PlanYears', WHERE WHAT IT READS IS OF BULK AT MOST 1048576: true; the input reads as it did. -/
def planYearsUptoRow : OpenClaim := { program := "ytmlcblciegeniaa", sum := "f719204baa1865f0626f6729ba6eabf3c02ae90a8b89ba8d7cc6631fdc579a95", func := "criadera/criaderalaw06.PlanYears", spec := "planYears", unfollowed := true, recurses := true, apart := false, narrowed := true }
def PlanYearsUptoSaid : Prop := planYearsUptoRow.holds Try.pinned (OpenSpec.upto planYearsSpec)

/-- 'criaderatop.TopPlanImplied', WHERE WHAT IT READS IS OF BULK AT MOST 1048576: true; the input reads as it did. -/
def topPlanImpliedUptoRow : OpenClaim := { program := "ytmlcblciegeniaa", sum := "f719204baa1865f0626f6729ba6eabf3c02ae90a8b89ba8d7cc6631fdc579a95", func := "criadera/criaderatop.TopPlanImplied", spec := "topPlanImplied", unfollowed := true, recurses := true, apart := false, narrowed := true }
def TopPlanImpliedUptoSaid : Prop := topPlanImpliedUptoRow.holds Try.pinned (OpenSpec.upto topPlanImpliedSpec)

end Rows
end Go.Proofs.Ytmlcblciegeniaa
