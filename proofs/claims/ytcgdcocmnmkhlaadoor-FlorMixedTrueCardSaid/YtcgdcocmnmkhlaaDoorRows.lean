/-
  NARROWER THAN 'FOR EVERY INPUT', by the rows' own cells (each row's printed sentence says how): FlorChecks: laid · FlorDays: laid · FlorTrue: laid · FlorDraws: laid · FlorSpells: laid · FlorKeeps: laid · FlorRates: laid · FlorExplains: laid · FlorFollows: laid · FlorMixes: laid · FlorMixedTrue: laid · FlorFortifies: laid · TopFlorSpells: laid · FlorEnough: laid · FlorRatesBack: laid · TopFlorMeasured: laid · TopFlorFortified: laid.
  DERIVED. THE GIVEN ROWS OF THIS SEAT. 17 by the template 'for every input the law returns true; each argument reads behind the call as it read before'; 0 by the template 'total and deterministic' (their statements: YtcgdcocmnmkhlaaDoorTotals.lean).
  GIVEN WITH THE SEED: the statements are not yours to turn. If you find one false, say at which input.
  Laid BY PROGRAM, IN A SANDBOX (cutbox-rows.mjs): the forced cells as the released guide's own fill.sh prints them over the translation 45f5a8f059a61147… (all of the seat's roots in one cut). By AI agents, Wed Nov 11 2026. No macro, syntax, notation, axiom, sorry.
-/
import Derived.Test.YtcgdcocmnmkhlaaDoorChecked
import GoSem.Claim
import GoSem.ClaimJoined
import GoSem.ClaimMapViews
import Derived.JoinedTies
import Derived.KernelRfl
namespace Go.Proofs.YtcgdcocmnmkhlaaDoor
/- THE CELL 'sum', in the pinned program and in every row, IS THE sha256 OF THE DUMP (.gsa) THAT YtcgdcocmnmkhlaaDoorProg.lean LOADS. Nothing in Lean hashes anything: it is a label: what it is worth is what the hold of that sum in a sandbox is worth. -/
noncomputable def Tryd.pinned : Pinned := { name := "ytcgdcocmnmkhlaadoor", sum := "45f5a8f059a61147a01f7845f563212e34945518981b060597bb895f883fe27f", checked := Tryd.checked }
namespace Rows
def none {H : Type} : Left H := { results := [], args := [] }

/- WHAT THE LISTED PACKAGE-LEVEL VARIABLES READ AS WHEN THE CALL BEGINS. Each datum BY PROGRAM (the guide's laid-datum.mjs) off the statement by which the dump's own 'gosem.cut.vars' lays the variable. In a bare row this is a premise. The card (YtcgdcocmnmkhlaaDoorCards.lean) ties it to the program's text. -/
def laid_criadera_flor_limits {H : Type} : DataW H := .agg [.lit (.int .i64 100000), .lit (.int .i64 10000), .lit (.int .i64 100000)]

/-- 'criaderalaw03.FlorChecks': WHATEVER THE INPUT: true; the input reads as it did. -/
def florChecksSpec : ChangeSpec := { name := "florChecks", fn := fun _ => fun
  | [d1, d2, d3] => { results := [.lit (.bool true)], args := [d1, d2, d3] }
  | _ => none }
def florChecksRow : OpenClaim := { program := "ytcgdcocmnmkhlaadoor", sum := "45f5a8f059a61147a01f7845f563212e34945518981b060597bb895f883fe27f", func := "criadera/criaderalaw03.FlorChecks", spec := "florChecks", unfollowed := true, recurses := true, named := ["criadera/flor.limits"], apart := false, laid := [("criadera/flor.limits", laid_criadera_flor_limits)] }
def FlorChecksSaid : Prop := florChecksRow.holds Tryd.pinned (OpenSpec.ofChange florChecksSpec)

/-- ITS FALSE NEIGHBOUR: 'it returns false'. Refute it at one input. -/
def florChecksWrong : ChangeSpec := { name := "florChecks", fn := fun _ => fun
  | [d1, d2, d3] => { results := [.lit (.bool false)], args := [d1, d2, d3] }
  | _ => none }
def FlorChecksWrongFalsely : Prop := florChecksRow.holds Tryd.pinned (OpenSpec.ofChange florChecksWrong)

/-- 'criaderalaw03.FlorDays': WHATEVER THE INPUT: true; the input reads as it did. -/
def florDaysSpec : ChangeSpec := { name := "florDays", fn := fun _ => fun
  | [d1, d2, d3] => { results := [.lit (.bool true)], args := [d1, d2, d3] }
  | _ => none }
def florDaysRow : OpenClaim := { program := "ytcgdcocmnmkhlaadoor", sum := "45f5a8f059a61147a01f7845f563212e34945518981b060597bb895f883fe27f", func := "criadera/criaderalaw03.FlorDays", spec := "florDays", unfollowed := true, recurses := true, named := ["criadera/flor.limits"], apart := false, laid := [("criadera/flor.limits", laid_criadera_flor_limits)] }
def FlorDaysSaid : Prop := florDaysRow.holds Tryd.pinned (OpenSpec.ofChange florDaysSpec)

/-- ITS FALSE NEIGHBOUR: 'it returns false'. Refute it at one input. -/
def florDaysWrong : ChangeSpec := { name := "florDays", fn := fun _ => fun
  | [d1, d2, d3] => { results := [.lit (.bool false)], args := [d1, d2, d3] }
  | _ => none }
def FlorDaysWrongFalsely : Prop := florDaysRow.holds Tryd.pinned (OpenSpec.ofChange florDaysWrong)

/-- 'criaderalaw03.FlorTrue': WHATEVER THE INPUT: true; the input reads as it did. -/
def florTrueSpec : ChangeSpec := { name := "florTrue", fn := fun _ => fun
  | [d1, d2, d3] => { results := [.lit (.bool true)], args := [d1, d2, d3] }
  | _ => none }
def florTrueRow : OpenClaim := { program := "ytcgdcocmnmkhlaadoor", sum := "45f5a8f059a61147a01f7845f563212e34945518981b060597bb895f883fe27f", func := "criadera/criaderalaw03.FlorTrue", spec := "florTrue", unfollowed := true, recurses := true, named := ["criadera/flor.limits"], apart := false, laid := [("criadera/flor.limits", laid_criadera_flor_limits)] }
def FlorTrueSaid : Prop := florTrueRow.holds Tryd.pinned (OpenSpec.ofChange florTrueSpec)

/-- ITS FALSE NEIGHBOUR: 'it returns false'. Refute it at one input. -/
def florTrueWrong : ChangeSpec := { name := "florTrue", fn := fun _ => fun
  | [d1, d2, d3] => { results := [.lit (.bool false)], args := [d1, d2, d3] }
  | _ => none }
def FlorTrueWrongFalsely : Prop := florTrueRow.holds Tryd.pinned (OpenSpec.ofChange florTrueWrong)

/-- 'criaderalaw03.FlorDraws': WHATEVER THE INPUT: true; the input reads as it did. -/
def florDrawsSpec : ChangeSpec := { name := "florDraws", fn := fun _ => fun
  | [d1, d2] => { results := [.lit (.bool true)], args := [d1, d2] }
  | _ => none }
def florDrawsRow : OpenClaim := { program := "ytcgdcocmnmkhlaadoor", sum := "45f5a8f059a61147a01f7845f563212e34945518981b060597bb895f883fe27f", func := "criadera/criaderalaw03.FlorDraws", spec := "florDraws", unfollowed := true, recurses := true, named := ["criadera/flor.limits"], apart := false, laid := [("criadera/flor.limits", laid_criadera_flor_limits)] }
def FlorDrawsSaid : Prop := florDrawsRow.holds Tryd.pinned (OpenSpec.ofChange florDrawsSpec)

/-- ITS FALSE NEIGHBOUR: 'it returns false'. Refute it at one input. -/
def florDrawsWrong : ChangeSpec := { name := "florDraws", fn := fun _ => fun
  | [d1, d2] => { results := [.lit (.bool false)], args := [d1, d2] }
  | _ => none }
def FlorDrawsWrongFalsely : Prop := florDrawsRow.holds Tryd.pinned (OpenSpec.ofChange florDrawsWrong)

/-- 'criaderalaw03.FlorSpells': WHATEVER THE INPUT: true; the input reads as it did. -/
def florSpellsSpec : ChangeSpec := { name := "florSpells", fn := fun _ => fun
  | [d1, d2] => { results := [.lit (.bool true)], args := [d1, d2] }
  | _ => none }
def florSpellsRow : OpenClaim := { program := "ytcgdcocmnmkhlaadoor", sum := "45f5a8f059a61147a01f7845f563212e34945518981b060597bb895f883fe27f", func := "criadera/criaderalaw03.FlorSpells", spec := "florSpells", unfollowed := true, recurses := true, named := ["criadera/flor.limits"], apart := false, laid := [("criadera/flor.limits", laid_criadera_flor_limits)] }
def FlorSpellsSaid : Prop := florSpellsRow.holds Tryd.pinned (OpenSpec.ofChange florSpellsSpec)

/-- ITS FALSE NEIGHBOUR: 'it returns false'. Refute it at one input. -/
def florSpellsWrong : ChangeSpec := { name := "florSpells", fn := fun _ => fun
  | [d1, d2] => { results := [.lit (.bool false)], args := [d1, d2] }
  | _ => none }
def FlorSpellsWrongFalsely : Prop := florSpellsRow.holds Tryd.pinned (OpenSpec.ofChange florSpellsWrong)

/-- 'criaderalaw03.FlorKeeps': WHATEVER THE INPUT: true; the input reads as it did. -/
def florKeepsSpec : ChangeSpec := { name := "florKeeps", fn := fun _ => fun
  | [d1, d2, d3] => { results := [.lit (.bool true)], args := [d1, d2, d3] }
  | _ => none }
def florKeepsRow : OpenClaim := { program := "ytcgdcocmnmkhlaadoor", sum := "45f5a8f059a61147a01f7845f563212e34945518981b060597bb895f883fe27f", func := "criadera/criaderalaw03.FlorKeeps", spec := "florKeeps", unfollowed := true, recurses := true, named := ["criadera/flor.limits"], apart := false, laid := [("criadera/flor.limits", laid_criadera_flor_limits)] }
def FlorKeepsSaid : Prop := florKeepsRow.holds Tryd.pinned (OpenSpec.ofChange florKeepsSpec)

/-- ITS FALSE NEIGHBOUR: 'it returns false'. Refute it at one input. -/
def florKeepsWrong : ChangeSpec := { name := "florKeeps", fn := fun _ => fun
  | [d1, d2, d3] => { results := [.lit (.bool false)], args := [d1, d2, d3] }
  | _ => none }
def FlorKeepsWrongFalsely : Prop := florKeepsRow.holds Tryd.pinned (OpenSpec.ofChange florKeepsWrong)

/-- 'criaderalaw03.FlorRates': WHATEVER THE INPUT: true; the input reads as it did. -/
def florRatesSpec : ChangeSpec := { name := "florRates", fn := fun _ => fun
  | [d1, d2, d3] => { results := [.lit (.bool true)], args := [d1, d2, d3] }
  | _ => none }
def florRatesRow : OpenClaim := { program := "ytcgdcocmnmkhlaadoor", sum := "45f5a8f059a61147a01f7845f563212e34945518981b060597bb895f883fe27f", func := "criadera/criaderalaw03.FlorRates", spec := "florRates", unfollowed := true, recurses := true, named := ["criadera/flor.limits"], apart := false, laid := [("criadera/flor.limits", laid_criadera_flor_limits)] }
def FlorRatesSaid : Prop := florRatesRow.holds Tryd.pinned (OpenSpec.ofChange florRatesSpec)

/-- ITS FALSE NEIGHBOUR: 'it returns false'. Refute it at one input. -/
def florRatesWrong : ChangeSpec := { name := "florRates", fn := fun _ => fun
  | [d1, d2, d3] => { results := [.lit (.bool false)], args := [d1, d2, d3] }
  | _ => none }
def FlorRatesWrongFalsely : Prop := florRatesRow.holds Tryd.pinned (OpenSpec.ofChange florRatesWrong)

/-- 'criaderalaw03.FlorExplains': WHATEVER THE INPUT: true; the input reads as it did. -/
def florExplainsSpec : ChangeSpec := { name := "florExplains", fn := fun _ => fun
  | [d1, d2, d3] => { results := [.lit (.bool true)], args := [d1, d2, d3] }
  | _ => none }
def florExplainsRow : OpenClaim := { program := "ytcgdcocmnmkhlaadoor", sum := "45f5a8f059a61147a01f7845f563212e34945518981b060597bb895f883fe27f", func := "criadera/criaderalaw03.FlorExplains", spec := "florExplains", unfollowed := true, recurses := true, named := ["criadera/flor.limits"], apart := false, laid := [("criadera/flor.limits", laid_criadera_flor_limits)] }
def FlorExplainsSaid : Prop := florExplainsRow.holds Tryd.pinned (OpenSpec.ofChange florExplainsSpec)

/-- ITS FALSE NEIGHBOUR: 'it returns false'. Refute it at one input. -/
def florExplainsWrong : ChangeSpec := { name := "florExplains", fn := fun _ => fun
  | [d1, d2, d3] => { results := [.lit (.bool false)], args := [d1, d2, d3] }
  | _ => none }
def FlorExplainsWrongFalsely : Prop := florExplainsRow.holds Tryd.pinned (OpenSpec.ofChange florExplainsWrong)

/-- 'criaderalaw03.FlorFollows': WHATEVER THE INPUT: true; the input reads as it did. -/
def florFollowsSpec : ChangeSpec := { name := "florFollows", fn := fun _ => fun
  | [d1, d2] => { results := [.lit (.bool true)], args := [d1, d2] }
  | _ => none }
def florFollowsRow : OpenClaim := { program := "ytcgdcocmnmkhlaadoor", sum := "45f5a8f059a61147a01f7845f563212e34945518981b060597bb895f883fe27f", func := "criadera/criaderalaw03.FlorFollows", spec := "florFollows", unfollowed := true, recurses := true, named := ["criadera/flor.limits"], apart := false, laid := [("criadera/flor.limits", laid_criadera_flor_limits)] }
def FlorFollowsSaid : Prop := florFollowsRow.holds Tryd.pinned (OpenSpec.ofChange florFollowsSpec)

/-- ITS FALSE NEIGHBOUR: 'it returns false'. Refute it at one input. -/
def florFollowsWrong : ChangeSpec := { name := "florFollows", fn := fun _ => fun
  | [d1, d2] => { results := [.lit (.bool false)], args := [d1, d2] }
  | _ => none }
def FlorFollowsWrongFalsely : Prop := florFollowsRow.holds Tryd.pinned (OpenSpec.ofChange florFollowsWrong)

/-- 'criaderalaw03.FlorMixes': WHATEVER THE INPUT: true; the input reads as it did. -/
def florMixesSpec : ChangeSpec := { name := "florMixes", fn := fun _ => fun
  | [d] => { results := [.lit (.bool true)], args := [d] }
  | _ => none }
def florMixesRow : OpenClaim := { program := "ytcgdcocmnmkhlaadoor", sum := "45f5a8f059a61147a01f7845f563212e34945518981b060597bb895f883fe27f", func := "criadera/criaderalaw03.FlorMixes", spec := "florMixes", unfollowed := true, recurses := true, named := ["criadera/flor.limits"], apart := false, laid := [("criadera/flor.limits", laid_criadera_flor_limits)] }
def FlorMixesSaid : Prop := florMixesRow.holds Tryd.pinned (OpenSpec.ofChange florMixesSpec)

/-- ITS FALSE NEIGHBOUR: 'it returns false'. Refute it at one input. -/
def florMixesWrong : ChangeSpec := { name := "florMixes", fn := fun _ => fun
  | [d] => { results := [.lit (.bool false)], args := [d] }
  | _ => none }
def FlorMixesWrongFalsely : Prop := florMixesRow.holds Tryd.pinned (OpenSpec.ofChange florMixesWrong)

/-- 'criaderalaw03.FlorMixedTrue': WHATEVER THE INPUT: true; the input reads as it did. -/
def florMixedTrueSpec : ChangeSpec := { name := "florMixedTrue", fn := fun _ => fun
  | [d1, d2] => { results := [.lit (.bool true)], args := [d1, d2] }
  | _ => none }
def florMixedTrueRow : OpenClaim := { program := "ytcgdcocmnmkhlaadoor", sum := "45f5a8f059a61147a01f7845f563212e34945518981b060597bb895f883fe27f", func := "criadera/criaderalaw03.FlorMixedTrue", spec := "florMixedTrue", unfollowed := true, recurses := true, named := ["criadera/flor.limits"], apart := false, laid := [("criadera/flor.limits", laid_criadera_flor_limits)] }
def FlorMixedTrueSaid : Prop := florMixedTrueRow.holds Tryd.pinned (OpenSpec.ofChange florMixedTrueSpec)

/-- ITS FALSE NEIGHBOUR: 'it returns false'. Refute it at one input. -/
def florMixedTrueWrong : ChangeSpec := { name := "florMixedTrue", fn := fun _ => fun
  | [d1, d2] => { results := [.lit (.bool false)], args := [d1, d2] }
  | _ => none }
def FlorMixedTrueWrongFalsely : Prop := florMixedTrueRow.holds Tryd.pinned (OpenSpec.ofChange florMixedTrueWrong)

/-- 'criaderalaw03.FlorFortifies': WHATEVER THE INPUT: true; the input reads as it did. -/
def florFortifiesSpec : ChangeSpec := { name := "florFortifies", fn := fun _ => fun
  | [d1, d2, d3] => { results := [.lit (.bool true)], args := [d1, d2, d3] }
  | _ => none }
def florFortifiesRow : OpenClaim := { program := "ytcgdcocmnmkhlaadoor", sum := "45f5a8f059a61147a01f7845f563212e34945518981b060597bb895f883fe27f", func := "criadera/criaderalaw03.FlorFortifies", spec := "florFortifies", unfollowed := true, recurses := true, named := ["criadera/flor.limits"], apart := false, laid := [("criadera/flor.limits", laid_criadera_flor_limits)] }
def FlorFortifiesSaid : Prop := florFortifiesRow.holds Tryd.pinned (OpenSpec.ofChange florFortifiesSpec)

/-- ITS FALSE NEIGHBOUR: 'it returns false'. Refute it at one input. -/
def florFortifiesWrong : ChangeSpec := { name := "florFortifies", fn := fun _ => fun
  | [d1, d2, d3] => { results := [.lit (.bool false)], args := [d1, d2, d3] }
  | _ => none }
def FlorFortifiesWrongFalsely : Prop := florFortifiesRow.holds Tryd.pinned (OpenSpec.ofChange florFortifiesWrong)

/-- 'criaderatop.TopFlorSpells': WHATEVER THE INPUT: true; the input reads as it did. -/
def topFlorSpellsSpec : ChangeSpec := { name := "topFlorSpells", fn := fun _ => fun
  | [d1, d2, d3] => { results := [.lit (.bool true)], args := [d1, d2, d3] }
  | _ => none }
def topFlorSpellsRow : OpenClaim := { program := "ytcgdcocmnmkhlaadoor", sum := "45f5a8f059a61147a01f7845f563212e34945518981b060597bb895f883fe27f", func := "criadera/criaderatop.TopFlorSpells", spec := "topFlorSpells", named := ["criadera/flor.limits"], apart := false, laid := [("criadera/flor.limits", laid_criadera_flor_limits)] }
def TopFlorSpellsSaid : Prop := topFlorSpellsRow.holds Tryd.pinned (OpenSpec.ofChange topFlorSpellsSpec)

/-- ITS FALSE NEIGHBOUR: 'it returns false'. Refute it at one input. -/
def topFlorSpellsWrong : ChangeSpec := { name := "topFlorSpells", fn := fun _ => fun
  | [d1, d2, d3] => { results := [.lit (.bool false)], args := [d1, d2, d3] }
  | _ => none }
def TopFlorSpellsWrongFalsely : Prop := topFlorSpellsRow.holds Tryd.pinned (OpenSpec.ofChange topFlorSpellsWrong)

/-- 'criaderalaw03.FlorEnough': WHATEVER THE INPUT: true; the input reads as it did. -/
def florEnoughSpec : ChangeSpec := { name := "florEnough", fn := fun _ => fun
  | [d1, d2, d3] => { results := [.lit (.bool true)], args := [d1, d2, d3] }
  | _ => none }
def florEnoughRow : OpenClaim := { program := "ytcgdcocmnmkhlaadoor", sum := "45f5a8f059a61147a01f7845f563212e34945518981b060597bb895f883fe27f", func := "criadera/criaderalaw03.FlorEnough", spec := "florEnough", unfollowed := true, recurses := true, named := ["criadera/flor.limits"], apart := false, laid := [("criadera/flor.limits", laid_criadera_flor_limits)] }
def FlorEnoughSaid : Prop := florEnoughRow.holds Tryd.pinned (OpenSpec.ofChange florEnoughSpec)

/-- ITS FALSE NEIGHBOUR: 'it returns false'. Refute it at one input. -/
def florEnoughWrong : ChangeSpec := { name := "florEnough", fn := fun _ => fun
  | [d1, d2, d3] => { results := [.lit (.bool false)], args := [d1, d2, d3] }
  | _ => none }
def FlorEnoughWrongFalsely : Prop := florEnoughRow.holds Tryd.pinned (OpenSpec.ofChange florEnoughWrong)

/-- 'criaderalaw03.FlorRatesBack': WHATEVER THE INPUT: true; the input reads as it did. -/
def florRatesBackSpec : ChangeSpec := { name := "florRatesBack", fn := fun _ => fun
  | [d1, d2, d3] => { results := [.lit (.bool true)], args := [d1, d2, d3] }
  | _ => none }
def florRatesBackRow : OpenClaim := { program := "ytcgdcocmnmkhlaadoor", sum := "45f5a8f059a61147a01f7845f563212e34945518981b060597bb895f883fe27f", func := "criadera/criaderalaw03.FlorRatesBack", spec := "florRatesBack", unfollowed := true, recurses := true, named := ["criadera/flor.limits"], apart := false, laid := [("criadera/flor.limits", laid_criadera_flor_limits)] }
def FlorRatesBackSaid : Prop := florRatesBackRow.holds Tryd.pinned (OpenSpec.ofChange florRatesBackSpec)

/-- ITS FALSE NEIGHBOUR: 'it returns false'. Refute it at one input. -/
def florRatesBackWrong : ChangeSpec := { name := "florRatesBack", fn := fun _ => fun
  | [d1, d2, d3] => { results := [.lit (.bool false)], args := [d1, d2, d3] }
  | _ => none }
def FlorRatesBackWrongFalsely : Prop := florRatesBackRow.holds Tryd.pinned (OpenSpec.ofChange florRatesBackWrong)

/-- 'criaderatop.TopFlorMeasured': WHATEVER THE INPUT: true; the input reads as it did. -/
def topFlorMeasuredSpec : ChangeSpec := { name := "topFlorMeasured", fn := fun _ => fun
  | [d1, d2, d3] => { results := [.lit (.bool true)], args := [d1, d2, d3] }
  | _ => none }
def topFlorMeasuredRow : OpenClaim := { program := "ytcgdcocmnmkhlaadoor", sum := "45f5a8f059a61147a01f7845f563212e34945518981b060597bb895f883fe27f", func := "criadera/criaderatop.TopFlorMeasured", spec := "topFlorMeasured", unfollowed := true, recurses := true, named := ["criadera/flor.limits"], apart := false, laid := [("criadera/flor.limits", laid_criadera_flor_limits)] }
def TopFlorMeasuredSaid : Prop := topFlorMeasuredRow.holds Tryd.pinned (OpenSpec.ofChange topFlorMeasuredSpec)

/-- ITS FALSE NEIGHBOUR: 'it returns false'. Refute it at one input. -/
def topFlorMeasuredWrong : ChangeSpec := { name := "topFlorMeasured", fn := fun _ => fun
  | [d1, d2, d3] => { results := [.lit (.bool false)], args := [d1, d2, d3] }
  | _ => none }
def TopFlorMeasuredWrongFalsely : Prop := topFlorMeasuredRow.holds Tryd.pinned (OpenSpec.ofChange topFlorMeasuredWrong)

/-- 'criaderatop.TopFlorFortified': WHATEVER THE INPUT: true; the input reads as it did. -/
def topFlorFortifiedSpec : ChangeSpec := { name := "topFlorFortified", fn := fun _ => fun
  | [d1, d2, d3] => { results := [.lit (.bool true)], args := [d1, d2, d3] }
  | _ => none }
def topFlorFortifiedRow : OpenClaim := { program := "ytcgdcocmnmkhlaadoor", sum := "45f5a8f059a61147a01f7845f563212e34945518981b060597bb895f883fe27f", func := "criadera/criaderatop.TopFlorFortified", spec := "topFlorFortified", unfollowed := true, recurses := true, named := ["criadera/flor.limits"], apart := false, laid := [("criadera/flor.limits", laid_criadera_flor_limits)] }
def TopFlorFortifiedSaid : Prop := topFlorFortifiedRow.holds Tryd.pinned (OpenSpec.ofChange topFlorFortifiedSpec)

/-- ITS FALSE NEIGHBOUR: 'it returns false'. Refute it at one input. -/
def topFlorFortifiedWrong : ChangeSpec := { name := "topFlorFortified", fn := fun _ => fun
  | [d1, d2, d3] => { results := [.lit (.bool false)], args := [d1, d2, d3] }
  | _ => none }
def TopFlorFortifiedWrongFalsely : Prop := topFlorFortifiedRow.holds Tryd.pinned (OpenSpec.ofChange topFlorFortifiedWrong)

/- THE SECOND FORM. 'bulk': how many values and letters a reading holds, each counted each time it is reached (what is shared counts as often as it is met; a slice's spare places count too). A statement '..UptoSaid' is the law's where the arguments, and the package variables that the reading takes, are together of bulk at most 1048576: NARROWER than '..Said'. Prove '..Said' where nothing that the law and all that it calls make is longer than what came in: it says more and counts as full. Else prove '..UptoSaid'. A law counts once. -/
mutual
def uptoBulk {H : Type} : DataW H → Nat
  | .lit (.string bytes) => bytes.length + 1
  | .lit _ => 1
  | .nil => 1
  | .ptr d => uptoBulk d + 1
  | .slice elems spare => uptoBulkAll elems + uptoBulkAll spare + 1
  | .agg parts => uptoBulkAll parts + 1
  | .iface _ d => uptoBulk d + 1
  | .map entries => uptoBulkEntries entries + 1
  | .held _ => 1
def uptoBulkAll {H : Type} : List (DataW H) → Nat
  | [] => 0
  | d :: r => uptoBulk d + uptoBulkAll r
def uptoBulkEntries {H : Type} : List (Lit × DataW H) → Nat
  | [] => 0
  | x :: r => uptoBulkEntry x + uptoBulkEntries r
def uptoBulkEntry {H : Type} : Lit × DataW H → Nat
  | (.string bytes, d) => bytes.length + uptoBulk d + 1
  | (_, d) => uptoBulk d + 1
 end
def uptoSmall : (H : Type) → List (DataW H) → Bool := fun _ ds => decide (uptoBulkAll ds ≤ 1048576)
def OpenSpec.upto (s : _root_.Go.ChangeSpec) : _root_.Go.OpenSpec := { _root_.Go.OpenSpec.ofChange s with cond := some uptoSmall }

/-- 'criaderalaw03.FlorChecks', WHERE WHAT IT READS IS OF BULK AT MOST 1048576: true; the input reads as it did. -/
def florChecksUptoRow : OpenClaim := { program := "ytcgdcocmnmkhlaadoor", sum := "45f5a8f059a61147a01f7845f563212e34945518981b060597bb895f883fe27f", func := "criadera/criaderalaw03.FlorChecks", spec := "florChecks", unfollowed := true, recurses := true, named := ["criadera/flor.limits"], apart := false, laid := [("criadera/flor.limits", laid_criadera_flor_limits)], narrowed := true }
def FlorChecksUptoSaid : Prop := florChecksUptoRow.holds Tryd.pinned (OpenSpec.upto florChecksSpec)

/-- 'criaderalaw03.FlorDays', WHERE WHAT IT READS IS OF BULK AT MOST 1048576: true; the input reads as it did. -/
def florDaysUptoRow : OpenClaim := { program := "ytcgdcocmnmkhlaadoor", sum := "45f5a8f059a61147a01f7845f563212e34945518981b060597bb895f883fe27f", func := "criadera/criaderalaw03.FlorDays", spec := "florDays", unfollowed := true, recurses := true, named := ["criadera/flor.limits"], apart := false, laid := [("criadera/flor.limits", laid_criadera_flor_limits)], narrowed := true }
def FlorDaysUptoSaid : Prop := florDaysUptoRow.holds Tryd.pinned (OpenSpec.upto florDaysSpec)

/-- 'criaderalaw03.FlorTrue', WHERE WHAT IT READS IS OF BULK AT MOST 1048576: true; the input reads as it did. -/
def florTrueUptoRow : OpenClaim := { program := "ytcgdcocmnmkhlaadoor", sum := "45f5a8f059a61147a01f7845f563212e34945518981b060597bb895f883fe27f", func := "criadera/criaderalaw03.FlorTrue", spec := "florTrue", unfollowed := true, recurses := true, named := ["criadera/flor.limits"], apart := false, laid := [("criadera/flor.limits", laid_criadera_flor_limits)], narrowed := true }
def FlorTrueUptoSaid : Prop := florTrueUptoRow.holds Tryd.pinned (OpenSpec.upto florTrueSpec)

/-- 'criaderalaw03.FlorDraws', WHERE WHAT IT READS IS OF BULK AT MOST 1048576: true; the input reads as it did. -/
def florDrawsUptoRow : OpenClaim := { program := "ytcgdcocmnmkhlaadoor", sum := "45f5a8f059a61147a01f7845f563212e34945518981b060597bb895f883fe27f", func := "criadera/criaderalaw03.FlorDraws", spec := "florDraws", unfollowed := true, recurses := true, named := ["criadera/flor.limits"], apart := false, laid := [("criadera/flor.limits", laid_criadera_flor_limits)], narrowed := true }
def FlorDrawsUptoSaid : Prop := florDrawsUptoRow.holds Tryd.pinned (OpenSpec.upto florDrawsSpec)

/-- 'criaderalaw03.FlorSpells', WHERE WHAT IT READS IS OF BULK AT MOST 1048576: true; the input reads as it did. -/
def florSpellsUptoRow : OpenClaim := { program := "ytcgdcocmnmkhlaadoor", sum := "45f5a8f059a61147a01f7845f563212e34945518981b060597bb895f883fe27f", func := "criadera/criaderalaw03.FlorSpells", spec := "florSpells", unfollowed := true, recurses := true, named := ["criadera/flor.limits"], apart := false, laid := [("criadera/flor.limits", laid_criadera_flor_limits)], narrowed := true }
def FlorSpellsUptoSaid : Prop := florSpellsUptoRow.holds Tryd.pinned (OpenSpec.upto florSpellsSpec)

/-- 'criaderalaw03.FlorKeeps', WHERE WHAT IT READS IS OF BULK AT MOST 1048576: true; the input reads as it did. -/
def florKeepsUptoRow : OpenClaim := { program := "ytcgdcocmnmkhlaadoor", sum := "45f5a8f059a61147a01f7845f563212e34945518981b060597bb895f883fe27f", func := "criadera/criaderalaw03.FlorKeeps", spec := "florKeeps", unfollowed := true, recurses := true, named := ["criadera/flor.limits"], apart := false, laid := [("criadera/flor.limits", laid_criadera_flor_limits)], narrowed := true }
def FlorKeepsUptoSaid : Prop := florKeepsUptoRow.holds Tryd.pinned (OpenSpec.upto florKeepsSpec)

/-- 'criaderalaw03.FlorRates', WHERE WHAT IT READS IS OF BULK AT MOST 1048576: true; the input reads as it did. -/
def florRatesUptoRow : OpenClaim := { program := "ytcgdcocmnmkhlaadoor", sum := "45f5a8f059a61147a01f7845f563212e34945518981b060597bb895f883fe27f", func := "criadera/criaderalaw03.FlorRates", spec := "florRates", unfollowed := true, recurses := true, named := ["criadera/flor.limits"], apart := false, laid := [("criadera/flor.limits", laid_criadera_flor_limits)], narrowed := true }
def FlorRatesUptoSaid : Prop := florRatesUptoRow.holds Tryd.pinned (OpenSpec.upto florRatesSpec)

/-- 'criaderalaw03.FlorExplains', WHERE WHAT IT READS IS OF BULK AT MOST 1048576: true; the input reads as it did. -/
def florExplainsUptoRow : OpenClaim := { program := "ytcgdcocmnmkhlaadoor", sum := "45f5a8f059a61147a01f7845f563212e34945518981b060597bb895f883fe27f", func := "criadera/criaderalaw03.FlorExplains", spec := "florExplains", unfollowed := true, recurses := true, named := ["criadera/flor.limits"], apart := false, laid := [("criadera/flor.limits", laid_criadera_flor_limits)], narrowed := true }
def FlorExplainsUptoSaid : Prop := florExplainsUptoRow.holds Tryd.pinned (OpenSpec.upto florExplainsSpec)

/-- 'criaderalaw03.FlorFollows', WHERE WHAT IT READS IS OF BULK AT MOST 1048576: true; the input reads as it did. -/
def florFollowsUptoRow : OpenClaim := { program := "ytcgdcocmnmkhlaadoor", sum := "45f5a8f059a61147a01f7845f563212e34945518981b060597bb895f883fe27f", func := "criadera/criaderalaw03.FlorFollows", spec := "florFollows", unfollowed := true, recurses := true, named := ["criadera/flor.limits"], apart := false, laid := [("criadera/flor.limits", laid_criadera_flor_limits)], narrowed := true }
def FlorFollowsUptoSaid : Prop := florFollowsUptoRow.holds Tryd.pinned (OpenSpec.upto florFollowsSpec)

/-- 'criaderalaw03.FlorMixes', WHERE WHAT IT READS IS OF BULK AT MOST 1048576: true; the input reads as it did. -/
def florMixesUptoRow : OpenClaim := { program := "ytcgdcocmnmkhlaadoor", sum := "45f5a8f059a61147a01f7845f563212e34945518981b060597bb895f883fe27f", func := "criadera/criaderalaw03.FlorMixes", spec := "florMixes", unfollowed := true, recurses := true, named := ["criadera/flor.limits"], apart := false, laid := [("criadera/flor.limits", laid_criadera_flor_limits)], narrowed := true }
def FlorMixesUptoSaid : Prop := florMixesUptoRow.holds Tryd.pinned (OpenSpec.upto florMixesSpec)

/-- 'criaderalaw03.FlorMixedTrue', WHERE WHAT IT READS IS OF BULK AT MOST 1048576: true; the input reads as it did. -/
def florMixedTrueUptoRow : OpenClaim := { program := "ytcgdcocmnmkhlaadoor", sum := "45f5a8f059a61147a01f7845f563212e34945518981b060597bb895f883fe27f", func := "criadera/criaderalaw03.FlorMixedTrue", spec := "florMixedTrue", unfollowed := true, recurses := true, named := ["criadera/flor.limits"], apart := false, laid := [("criadera/flor.limits", laid_criadera_flor_limits)], narrowed := true }
def FlorMixedTrueUptoSaid : Prop := florMixedTrueUptoRow.holds Tryd.pinned (OpenSpec.upto florMixedTrueSpec)

/-- 'criaderalaw03.FlorFortifies', WHERE WHAT IT READS IS OF BULK AT MOST 1048576: true; the input reads as it did. -/
def florFortifiesUptoRow : OpenClaim := { program := "ytcgdcocmnmkhlaadoor", sum := "45f5a8f059a61147a01f7845f563212e34945518981b060597bb895f883fe27f", func := "criadera/criaderalaw03.FlorFortifies", spec := "florFortifies", unfollowed := true, recurses := true, named := ["criadera/flor.limits"], apart := false, laid := [("criadera/flor.limits", laid_criadera_flor_limits)], narrowed := true }
def FlorFortifiesUptoSaid : Prop := florFortifiesUptoRow.holds Tryd.pinned (OpenSpec.upto florFortifiesSpec)

/-- 'criaderatop.TopFlorSpells', WHERE WHAT IT READS IS OF BULK AT MOST 1048576: true; the input reads as it did. -/
def topFlorSpellsUptoRow : OpenClaim := { program := "ytcgdcocmnmkhlaadoor", sum := "45f5a8f059a61147a01f7845f563212e34945518981b060597bb895f883fe27f", func := "criadera/criaderatop.TopFlorSpells", spec := "topFlorSpells", named := ["criadera/flor.limits"], apart := false, laid := [("criadera/flor.limits", laid_criadera_flor_limits)], narrowed := true }
def TopFlorSpellsUptoSaid : Prop := topFlorSpellsUptoRow.holds Tryd.pinned (OpenSpec.upto topFlorSpellsSpec)

/-- 'criaderalaw03.FlorEnough', WHERE WHAT IT READS IS OF BULK AT MOST 1048576: true; the input reads as it did. -/
def florEnoughUptoRow : OpenClaim := { program := "ytcgdcocmnmkhlaadoor", sum := "45f5a8f059a61147a01f7845f563212e34945518981b060597bb895f883fe27f", func := "criadera/criaderalaw03.FlorEnough", spec := "florEnough", unfollowed := true, recurses := true, named := ["criadera/flor.limits"], apart := false, laid := [("criadera/flor.limits", laid_criadera_flor_limits)], narrowed := true }
def FlorEnoughUptoSaid : Prop := florEnoughUptoRow.holds Tryd.pinned (OpenSpec.upto florEnoughSpec)

/-- 'criaderalaw03.FlorRatesBack', WHERE WHAT IT READS IS OF BULK AT MOST 1048576: true; the input reads as it did. -/
def florRatesBackUptoRow : OpenClaim := { program := "ytcgdcocmnmkhlaadoor", sum := "45f5a8f059a61147a01f7845f563212e34945518981b060597bb895f883fe27f", func := "criadera/criaderalaw03.FlorRatesBack", spec := "florRatesBack", unfollowed := true, recurses := true, named := ["criadera/flor.limits"], apart := false, laid := [("criadera/flor.limits", laid_criadera_flor_limits)], narrowed := true }
def FlorRatesBackUptoSaid : Prop := florRatesBackUptoRow.holds Tryd.pinned (OpenSpec.upto florRatesBackSpec)

/-- 'criaderatop.TopFlorMeasured', WHERE WHAT IT READS IS OF BULK AT MOST 1048576: true; the input reads as it did. -/
def topFlorMeasuredUptoRow : OpenClaim := { program := "ytcgdcocmnmkhlaadoor", sum := "45f5a8f059a61147a01f7845f563212e34945518981b060597bb895f883fe27f", func := "criadera/criaderatop.TopFlorMeasured", spec := "topFlorMeasured", unfollowed := true, recurses := true, named := ["criadera/flor.limits"], apart := false, laid := [("criadera/flor.limits", laid_criadera_flor_limits)], narrowed := true }
def TopFlorMeasuredUptoSaid : Prop := topFlorMeasuredUptoRow.holds Tryd.pinned (OpenSpec.upto topFlorMeasuredSpec)

/-- 'criaderatop.TopFlorFortified', WHERE WHAT IT READS IS OF BULK AT MOST 1048576: true; the input reads as it did. -/
def topFlorFortifiedUptoRow : OpenClaim := { program := "ytcgdcocmnmkhlaadoor", sum := "45f5a8f059a61147a01f7845f563212e34945518981b060597bb895f883fe27f", func := "criadera/criaderatop.TopFlorFortified", spec := "topFlorFortified", unfollowed := true, recurses := true, named := ["criadera/flor.limits"], apart := false, laid := [("criadera/flor.limits", laid_criadera_flor_limits)], narrowed := true }
def TopFlorFortifiedUptoSaid : Prop := topFlorFortifiedUptoRow.holds Tryd.pinned (OpenSpec.upto topFlorFortifiedSpec)

end Rows
end Go.Proofs.YtcgdcocmnmkhlaaDoor
