/-
  No cell of these rows narrows 'for every input' (looked for: loops, veiled, ifaces, maps, wideKeys, modest, calm, conditions, laid).
  DERIVED. THE GIVEN ROWS OF THIS SEAT. 15 by the template 'for every input the law returns true; each argument reads behind the call as it read before'; 0 by the template 'total and deterministic' (their statements: YtaigoebipeplpaaTotals.lean).
  GIVEN WITH THE SEED: the statements are not yours to turn. If you find one false, say at which input.
  Laid BY PROGRAM, IN A SANDBOX (cutbox-rows.mjs): the forced cells as the released guide's own fill.sh prints them over the translation 6510966233f86505… (all of the seat's roots in one cut). By AI agents, Wed Nov 11 2026. No macro, syntax, notation, axiom, sorry.
-/
import Derived.Test.YtaigoebipeplpaaChecked
import GoSem.Claim
import GoSem.ClaimJoined
import GoSem.ClaimMapViews
import Derived.JoinedTies
import Derived.KernelRfl
namespace Go.Proofs.Ytaigoebipeplpaa
/- THE CELL 'sum', in the pinned program and in every row, IS THE sha256 OF THE DUMP (.gsa) THAT YtaigoebipeplpaaProg.lean LOADS. Nothing in Lean hashes anything: it is a label: what it is worth is what the hold of that sum in a sandbox is worth. -/
noncomputable def Try.pinned : Pinned := { name := "ytaigoebipeplpaa", sum := "6510966233f86505636767f2e46dcd41ac5740e2660dea506d6ba4ab0b25103a", checked := Try.checked }
namespace Rows
def none {H : Type} : Left H := { results := [], args := [] }

/-- 'criaderalaw08.BlendBests': WHATEVER THE INPUT: true; the input reads as it did. -/
def blendBestsSpec : ChangeSpec := { name := "blendBests", fn := fun _ => fun
  | [d1, d2] => { results := [.lit (.bool true)], args := [d1, d2] }
  | _ => none }
def blendBestsRow : OpenClaim := { program := "ytaigoebipeplpaa", sum := "6510966233f86505636767f2e46dcd41ac5740e2660dea506d6ba4ab0b25103a", func := "criadera/criaderalaw08.BlendBests", spec := "blendBests", unfollowed := true, recurses := true, apart := false }
def BlendBestsSaid : Prop := blendBestsRow.holds Try.pinned (OpenSpec.ofChange blendBestsSpec)

/-- ITS FALSE NEIGHBOUR: 'it returns false'. Refute it at one input. -/
def blendBestsWrong : ChangeSpec := { name := "blendBests", fn := fun _ => fun
  | [d1, d2] => { results := [.lit (.bool false)], args := [d1, d2] }
  | _ => none }
def BlendBestsWrongFalsely : Prop := blendBestsRow.holds Try.pinned (OpenSpec.ofChange blendBestsWrong)

/-- 'criaderalaw08.BlendNears': WHATEVER THE INPUT: true; the input reads as it did. -/
def blendNearsSpec : ChangeSpec := { name := "blendNears", fn := fun _ => fun
  | [d1, d2] => { results := [.lit (.bool true)], args := [d1, d2] }
  | _ => none }
def blendNearsRow : OpenClaim := { program := "ytaigoebipeplpaa", sum := "6510966233f86505636767f2e46dcd41ac5740e2660dea506d6ba4ab0b25103a", func := "criadera/criaderalaw08.BlendNears", spec := "blendNears", unfollowed := true, recurses := true, apart := false }
def BlendNearsSaid : Prop := blendNearsRow.holds Try.pinned (OpenSpec.ofChange blendNearsSpec)

/-- ITS FALSE NEIGHBOUR: 'it returns false'. Refute it at one input. -/
def blendNearsWrong : ChangeSpec := { name := "blendNears", fn := fun _ => fun
  | [d1, d2] => { results := [.lit (.bool false)], args := [d1, d2] }
  | _ => none }
def BlendNearsWrongFalsely : Prop := blendNearsRow.holds Try.pinned (OpenSpec.ofChange blendNearsWrong)

/-- 'criaderalaw08.BlendTurned': WHATEVER THE INPUT: true; the input reads as it did. -/
def blendTurnedSpec : ChangeSpec := { name := "blendTurned", fn := fun _ => fun
  | [d1, d2] => { results := [.lit (.bool true)], args := [d1, d2] }
  | _ => none }
def blendTurnedRow : OpenClaim := { program := "ytaigoebipeplpaa", sum := "6510966233f86505636767f2e46dcd41ac5740e2660dea506d6ba4ab0b25103a", func := "criadera/criaderalaw08.BlendTurned", spec := "blendTurned", unfollowed := true, recurses := true, apart := false }
def BlendTurnedSaid : Prop := blendTurnedRow.holds Try.pinned (OpenSpec.ofChange blendTurnedSpec)

/-- ITS FALSE NEIGHBOUR: 'it returns false'. Refute it at one input. -/
def blendTurnedWrong : ChangeSpec := { name := "blendTurned", fn := fun _ => fun
  | [d1, d2] => { results := [.lit (.bool false)], args := [d1, d2] }
  | _ => none }
def BlendTurnedWrongFalsely : Prop := blendTurnedRow.holds Try.pinned (OpenSpec.ofChange blendTurnedWrong)

/-- 'criaderalaw08.BlendBestWholes': WHATEVER THE INPUT: true; the input reads as it did. -/
def blendBestWholesSpec : ChangeSpec := { name := "blendBestWholes", fn := fun _ => fun
  | [d1, d2] => { results := [.lit (.bool true)], args := [d1, d2] }
  | _ => none }
def blendBestWholesRow : OpenClaim := { program := "ytaigoebipeplpaa", sum := "6510966233f86505636767f2e46dcd41ac5740e2660dea506d6ba4ab0b25103a", func := "criadera/criaderalaw08.BlendBestWholes", spec := "blendBestWholes", unfollowed := true, recurses := true, apart := false }
def BlendBestWholesSaid : Prop := blendBestWholesRow.holds Try.pinned (OpenSpec.ofChange blendBestWholesSpec)

/-- ITS FALSE NEIGHBOUR: 'it returns false'. Refute it at one input. -/
def blendBestWholesWrong : ChangeSpec := { name := "blendBestWholes", fn := fun _ => fun
  | [d1, d2] => { results := [.lit (.bool false)], args := [d1, d2] }
  | _ => none }
def BlendBestWholesWrongFalsely : Prop := blendBestWholesRow.holds Try.pinned (OpenSpec.ofChange blendBestWholesWrong)

/-- 'criaderalaw08.BlendNearIsNear': WHATEVER THE INPUT: true; the input reads as it did. -/
def blendNearIsNearSpec : ChangeSpec := { name := "blendNearIsNear", fn := fun _ => fun
  | [d1, d2] => { results := [.lit (.bool true)], args := [d1, d2] }
  | _ => none }
def blendNearIsNearRow : OpenClaim := { program := "ytaigoebipeplpaa", sum := "6510966233f86505636767f2e46dcd41ac5740e2660dea506d6ba4ab0b25103a", func := "criadera/criaderalaw08.BlendNearIsNear", spec := "blendNearIsNear", unfollowed := true, recurses := true, apart := false }
def BlendNearIsNearSaid : Prop := blendNearIsNearRow.holds Try.pinned (OpenSpec.ofChange blendNearIsNearSpec)

/-- ITS FALSE NEIGHBOUR: 'it returns false'. Refute it at one input. -/
def blendNearIsNearWrong : ChangeSpec := { name := "blendNearIsNear", fn := fun _ => fun
  | [d1, d2] => { results := [.lit (.bool false)], args := [d1, d2] }
  | _ => none }
def BlendNearIsNearWrongFalsely : Prop := blendNearIsNearRow.holds Try.pinned (OpenSpec.ofChange blendNearIsNearWrong)

/-- 'criaderalaw08.BlendWider': WHATEVER THE INPUT: true; the input reads as it did. -/
def blendWiderSpec : ChangeSpec := { name := "blendWider", fn := fun _ => fun
  | [d1, d2, d3] => { results := [.lit (.bool true)], args := [d1, d2, d3] }
  | _ => none }
def blendWiderRow : OpenClaim := { program := "ytaigoebipeplpaa", sum := "6510966233f86505636767f2e46dcd41ac5740e2660dea506d6ba4ab0b25103a", func := "criadera/criaderalaw08.BlendWider", spec := "blendWider", unfollowed := true, recurses := true, apart := false }
def BlendWiderSaid : Prop := blendWiderRow.holds Try.pinned (OpenSpec.ofChange blendWiderSpec)

/-- ITS FALSE NEIGHBOUR: 'it returns false'. Refute it at one input. -/
def blendWiderWrong : ChangeSpec := { name := "blendWider", fn := fun _ => fun
  | [d1, d2, d3] => { results := [.lit (.bool false)], args := [d1, d2, d3] }
  | _ => none }
def BlendWiderWrongFalsely : Prop := blendWiderRow.holds Try.pinned (OpenSpec.ofChange blendWiderWrong)

/-- 'criaderalaw08.BlendWholes': WHATEVER THE INPUT: true; the input reads as it did. -/
def blendWholesSpec : ChangeSpec := { name := "blendWholes", fn := fun _ => fun
  | [d1, d2, d3] => { results := [.lit (.bool true)], args := [d1, d2, d3] }
  | _ => none }
def blendWholesRow : OpenClaim := { program := "ytaigoebipeplpaa", sum := "6510966233f86505636767f2e46dcd41ac5740e2660dea506d6ba4ab0b25103a", func := "criadera/criaderalaw08.BlendWholes", spec := "blendWholes", unfollowed := true, recurses := true, apart := false }
def BlendWholesSaid : Prop := blendWholesRow.holds Try.pinned (OpenSpec.ofChange blendWholesSpec)

/-- ITS FALSE NEIGHBOUR: 'it returns false'. Refute it at one input. -/
def blendWholesWrong : ChangeSpec := { name := "blendWholes", fn := fun _ => fun
  | [d1, d2, d3] => { results := [.lit (.bool false)], args := [d1, d2, d3] }
  | _ => none }
def BlendWholesWrongFalsely : Prop := blendWholesRow.holds Try.pinned (OpenSpec.ofChange blendWholesWrong)

/-- 'criaderalaw08.BlendPartsOfWhole': WHATEVER THE INPUT: true; the input reads as it did. -/
def blendPartsOfWholeSpec : ChangeSpec := { name := "blendPartsOfWhole", fn := fun _ => fun
  | [d1, d2, d3] => { results := [.lit (.bool true)], args := [d1, d2, d3] }
  | _ => none }
def blendPartsOfWholeRow : OpenClaim := { program := "ytaigoebipeplpaa", sum := "6510966233f86505636767f2e46dcd41ac5740e2660dea506d6ba4ab0b25103a", func := "criadera/criaderalaw08.BlendPartsOfWhole", spec := "blendPartsOfWhole", unfollowed := true, recurses := true, apart := false }
def BlendPartsOfWholeSaid : Prop := blendPartsOfWholeRow.holds Try.pinned (OpenSpec.ofChange blendPartsOfWholeSpec)

/-- ITS FALSE NEIGHBOUR: 'it returns false'. Refute it at one input. -/
def blendPartsOfWholeWrong : ChangeSpec := { name := "blendPartsOfWhole", fn := fun _ => fun
  | [d1, d2, d3] => { results := [.lit (.bool false)], args := [d1, d2, d3] }
  | _ => none }
def BlendPartsOfWholeWrongFalsely : Prop := blendPartsOfWholeRow.holds Try.pinned (OpenSpec.ofChange blendPartsOfWholeWrong)

/-- 'criaderalaw08.BlendChecks': WHATEVER THE INPUT: true; the input reads as it did. -/
def blendChecksSpec : ChangeSpec := { name := "blendChecks", fn := fun _ => fun
  | [d1, d2, d3] => { results := [.lit (.bool true)], args := [d1, d2, d3] }
  | _ => none }
def blendChecksRow : OpenClaim := { program := "ytaigoebipeplpaa", sum := "6510966233f86505636767f2e46dcd41ac5740e2660dea506d6ba4ab0b25103a", func := "criadera/criaderalaw08.BlendChecks", spec := "blendChecks", unfollowed := true, recurses := true, apart := false }
def BlendChecksSaid : Prop := blendChecksRow.holds Try.pinned (OpenSpec.ofChange blendChecksSpec)

/-- ITS FALSE NEIGHBOUR: 'it returns false'. Refute it at one input. -/
def blendChecksWrong : ChangeSpec := { name := "blendChecks", fn := fun _ => fun
  | [d1, d2, d3] => { results := [.lit (.bool false)], args := [d1, d2, d3] }
  | _ => none }
def BlendChecksWrongFalsely : Prop := blendChecksRow.holds Try.pinned (OpenSpec.ofChange blendChecksWrong)

/-- 'criaderalaw08.BlendMeets': WHATEVER THE INPUT: true; the input reads as it did. -/
def blendMeetsSpec : ChangeSpec := { name := "blendMeets", fn := fun _ => fun
  | [d1, d2, d3] => { results := [.lit (.bool true)], args := [d1, d2, d3] }
  | _ => none }
def blendMeetsRow : OpenClaim := { program := "ytaigoebipeplpaa", sum := "6510966233f86505636767f2e46dcd41ac5740e2660dea506d6ba4ab0b25103a", func := "criadera/criaderalaw08.BlendMeets", spec := "blendMeets", unfollowed := true, recurses := true, apart := false }
def BlendMeetsSaid : Prop := blendMeetsRow.holds Try.pinned (OpenSpec.ofChange blendMeetsSpec)

/-- ITS FALSE NEIGHBOUR: 'it returns false'. Refute it at one input. -/
def blendMeetsWrong : ChangeSpec := { name := "blendMeets", fn := fun _ => fun
  | [d1, d2, d3] => { results := [.lit (.bool false)], args := [d1, d2, d3] }
  | _ => none }
def BlendMeetsWrongFalsely : Prop := blendMeetsRow.holds Try.pinned (OpenSpec.ofChange blendMeetsWrong)

/-- 'criaderalaw08.BlendProves': WHATEVER THE INPUT: true; the input reads as it did. -/
def blendProvesSpec : ChangeSpec := { name := "blendProves", fn := fun _ => fun
  | [d1, d2, d3] => { results := [.lit (.bool true)], args := [d1, d2, d3] }
  | _ => none }
def blendProvesRow : OpenClaim := { program := "ytaigoebipeplpaa", sum := "6510966233f86505636767f2e46dcd41ac5740e2660dea506d6ba4ab0b25103a", func := "criadera/criaderalaw08.BlendProves", spec := "blendProves", unfollowed := true, recurses := true, apart := false }
def BlendProvesSaid : Prop := blendProvesRow.holds Try.pinned (OpenSpec.ofChange blendProvesSpec)

/-- ITS FALSE NEIGHBOUR: 'it returns false'. Refute it at one input. -/
def blendProvesWrong : ChangeSpec := { name := "blendProves", fn := fun _ => fun
  | [d1, d2, d3] => { results := [.lit (.bool false)], args := [d1, d2, d3] }
  | _ => none }
def BlendProvesWrongFalsely : Prop := blendProvesRow.holds Try.pinned (OpenSpec.ofChange blendProvesWrong)

/-- 'criaderalaw08.BlendFails': WHATEVER THE INPUT: true; the input reads as it did. -/
def blendFailsSpec : ChangeSpec := { name := "blendFails", fn := fun _ => fun
  | [d1, d2] => { results := [.lit (.bool true)], args := [d1, d2] }
  | _ => none }
def blendFailsRow : OpenClaim := { program := "ytaigoebipeplpaa", sum := "6510966233f86505636767f2e46dcd41ac5740e2660dea506d6ba4ab0b25103a", func := "criadera/criaderalaw08.BlendFails", spec := "blendFails", unfollowed := true, recurses := true, apart := false }
def BlendFailsSaid : Prop := blendFailsRow.holds Try.pinned (OpenSpec.ofChange blendFailsSpec)

/-- ITS FALSE NEIGHBOUR: 'it returns false'. Refute it at one input. -/
def blendFailsWrong : ChangeSpec := { name := "blendFails", fn := fun _ => fun
  | [d1, d2] => { results := [.lit (.bool false)], args := [d1, d2] }
  | _ => none }
def BlendFailsWrongFalsely : Prop := blendFailsRow.holds Try.pinned (OpenSpec.ofChange blendFailsWrong)

/-- 'criaderalaw08.BlendCheaper': WHATEVER THE INPUT: true; the input reads as it did. -/
def blendCheaperSpec : ChangeSpec := { name := "blendCheaper", fn := fun _ => fun
  | [d1, d2] => { results := [.lit (.bool true)], args := [d1, d2] }
  | _ => none }
def blendCheaperRow : OpenClaim := { program := "ytaigoebipeplpaa", sum := "6510966233f86505636767f2e46dcd41ac5740e2660dea506d6ba4ab0b25103a", func := "criadera/criaderalaw08.BlendCheaper", spec := "blendCheaper", unfollowed := true, recurses := true, apart := false }
def BlendCheaperSaid : Prop := blendCheaperRow.holds Try.pinned (OpenSpec.ofChange blendCheaperSpec)

/-- ITS FALSE NEIGHBOUR: 'it returns false'. Refute it at one input. -/
def blendCheaperWrong : ChangeSpec := { name := "blendCheaper", fn := fun _ => fun
  | [d1, d2] => { results := [.lit (.bool false)], args := [d1, d2] }
  | _ => none }
def BlendCheaperWrongFalsely : Prop := blendCheaperRow.holds Try.pinned (OpenSpec.ofChange blendCheaperWrong)

/-- 'criaderatop.TopBlendMore': WHATEVER THE INPUT: true; the input reads as it did. -/
def topBlendMoreSpec : ChangeSpec := { name := "topBlendMore", fn := fun _ => fun
  | [d1, d2, d3] => { results := [.lit (.bool true)], args := [d1, d2, d3] }
  | _ => none }
def topBlendMoreRow : OpenClaim := { program := "ytaigoebipeplpaa", sum := "6510966233f86505636767f2e46dcd41ac5740e2660dea506d6ba4ab0b25103a", func := "criadera/criaderatop.TopBlendMore", spec := "topBlendMore", unfollowed := true, recurses := true, apart := false }
def TopBlendMoreSaid : Prop := topBlendMoreRow.holds Try.pinned (OpenSpec.ofChange topBlendMoreSpec)

/-- ITS FALSE NEIGHBOUR: 'it returns false'. Refute it at one input. -/
def topBlendMoreWrong : ChangeSpec := { name := "topBlendMore", fn := fun _ => fun
  | [d1, d2, d3] => { results := [.lit (.bool false)], args := [d1, d2, d3] }
  | _ => none }
def TopBlendMoreWrongFalsely : Prop := topBlendMoreRow.holds Try.pinned (OpenSpec.ofChange topBlendMoreWrong)

/-- 'criaderatop.TopBlendNoneCheaper': WHATEVER THE INPUT: true; the input reads as it did. -/
def topBlendNoneCheaperSpec : ChangeSpec := { name := "topBlendNoneCheaper", fn := fun _ => fun
  | [d1, d2] => { results := [.lit (.bool true)], args := [d1, d2] }
  | _ => none }
def topBlendNoneCheaperRow : OpenClaim := { program := "ytaigoebipeplpaa", sum := "6510966233f86505636767f2e46dcd41ac5740e2660dea506d6ba4ab0b25103a", func := "criadera/criaderatop.TopBlendNoneCheaper", spec := "topBlendNoneCheaper", unfollowed := true, recurses := true, apart := false }
def TopBlendNoneCheaperSaid : Prop := topBlendNoneCheaperRow.holds Try.pinned (OpenSpec.ofChange topBlendNoneCheaperSpec)

/-- ITS FALSE NEIGHBOUR: 'it returns false'. Refute it at one input. -/
def topBlendNoneCheaperWrong : ChangeSpec := { name := "topBlendNoneCheaper", fn := fun _ => fun
  | [d1, d2] => { results := [.lit (.bool false)], args := [d1, d2] }
  | _ => none }
def TopBlendNoneCheaperWrongFalsely : Prop := topBlendNoneCheaperRow.holds Try.pinned (OpenSpec.ofChange topBlendNoneCheaperWrong)

/- THE SECOND FORM. 'bulk': how many values and letters a reading holds, each counted each time it is reached (what is shared counts as often as it is met; a slice's spare places count too). A statement '..UptoSaid' is the law's where the arguments, and the package variables that the reading takes, are together of bulk at most 1048576: NARROWER than '..Said'. Prove '..Said' where nothing that the law and all that it calls make is longer than what came in: it says more and counts as full. Else prove '..UptoSaid'. A law counts once. -/
mutual
def uptoBulk {H : Type} : DataW H → Nat
  | .lit (.string bytes) => bytes.length + 1
  | .lit _ => 1
  | .nil => 1
  | .ptr d => uptoBulk d + 1
  | .slice elems spare => uptoBulkAll elems + uptoBulkAll spare + 1
  | .agg parts => uptoBulkAll parts + 1
  | .iface _ d => uptoBulk d + 1
  | .map entries => uptoBulkEntries entries + 1
  | .held _ => 1
def uptoBulkAll {H : Type} : List (DataW H) → Nat
  | [] => 0
  | d :: r => uptoBulk d + uptoBulkAll r
def uptoBulkEntries {H : Type} : List (Lit × DataW H) → Nat
  | [] => 0
  | x :: r => uptoBulkEntry x + uptoBulkEntries r
def uptoBulkEntry {H : Type} : Lit × DataW H → Nat
  | (.string bytes, d) => bytes.length + uptoBulk d + 1
  | (_, d) => uptoBulk d + 1
 end
def uptoSmall : (H : Type) → List (DataW H) → Bool := fun _ ds => decide (uptoBulkAll ds ≤ 1048576)
def OpenSpec.upto (s : _root_.Go.ChangeSpec) : _root_.Go.OpenSpec := { _root_.Go.OpenSpec.ofChange s with cond := some uptoSmall }

/-- 'criaderalaw08.BlendBests', WHERE WHAT IT READS IS OF BULK AT MOST 1048576: true; the input reads as it did. -/
def blendBestsUptoRow : OpenClaim := { program := "ytaigoebipeplpaa", sum := "6510966233f86505636767f2e46dcd41ac5740e2660dea506d6ba4ab0b25103a", func := "criadera/criaderalaw08.BlendBests", spec := "blendBests", unfollowed := true, recurses := true, apart := false, narrowed := true }
def BlendBestsUptoSaid : Prop := blendBestsUptoRow.holds Try.pinned (OpenSpec.upto blendBestsSpec)

/-- 'criaderalaw08.BlendNears', WHERE WHAT IT READS IS OF BULK AT MOST 1048576: true; the input reads as it did. -/
def blendNearsUptoRow : OpenClaim := { program := "ytaigoebipeplpaa", sum := "6510966233f86505636767f2e46dcd41ac5740e2660dea506d6ba4ab0b25103a", func := "criadera/criaderalaw08.BlendNears", spec := "blendNears", unfollowed := true, recurses := true, apart := false, narrowed := true }
def BlendNearsUptoSaid : Prop := blendNearsUptoRow.holds Try.pinned (OpenSpec.upto blendNearsSpec)

/-- 'criaderalaw08.BlendTurned', WHERE WHAT IT READS IS OF BULK AT MOST 1048576: true; the input reads as it did. -/
def blendTurnedUptoRow : OpenClaim := { program := "ytaigoebipeplpaa", sum := "6510966233f86505636767f2e46dcd41ac5740e2660dea506d6ba4ab0b25103a", func := "criadera/criaderalaw08.BlendTurned", spec := "blendTurned", unfollowed := true, recurses := true, apart := false, narrowed := true }
def BlendTurnedUptoSaid : Prop := blendTurnedUptoRow.holds Try.pinned (OpenSpec.upto blendTurnedSpec)

/-- 'criaderalaw08.BlendBestWholes', WHERE WHAT IT READS IS OF BULK AT MOST 1048576: true; the input reads as it did. -/
def blendBestWholesUptoRow : OpenClaim := { program := "ytaigoebipeplpaa", sum := "6510966233f86505636767f2e46dcd41ac5740e2660dea506d6ba4ab0b25103a", func := "criadera/criaderalaw08.BlendBestWholes", spec := "blendBestWholes", unfollowed := true, recurses := true, apart := false, narrowed := true }
def BlendBestWholesUptoSaid : Prop := blendBestWholesUptoRow.holds Try.pinned (OpenSpec.upto blendBestWholesSpec)

/-- 'criaderalaw08.BlendNearIsNear', WHERE WHAT IT READS IS OF BULK AT MOST 1048576: true; the input reads as it did. -/
def blendNearIsNearUptoRow : OpenClaim := { program := "ytaigoebipeplpaa", sum := "6510966233f86505636767f2e46dcd41ac5740e2660dea506d6ba4ab0b25103a", func := "criadera/criaderalaw08.BlendNearIsNear", spec := "blendNearIsNear", unfollowed := true, recurses := true, apart := false, narrowed := true }
def BlendNearIsNearUptoSaid : Prop := blendNearIsNearUptoRow.holds Try.pinned (OpenSpec.upto blendNearIsNearSpec)

/-- 'criaderalaw08.BlendWider', WHERE WHAT IT READS IS OF BULK AT MOST 1048576: true; the input reads as it did. -/
def blendWiderUptoRow : OpenClaim := { program := "ytaigoebipeplpaa", sum := "6510966233f86505636767f2e46dcd41ac5740e2660dea506d6ba4ab0b25103a", func := "criadera/criaderalaw08.BlendWider", spec := "blendWider", unfollowed := true, recurses := true, apart := false, narrowed := true }
def BlendWiderUptoSaid : Prop := blendWiderUptoRow.holds Try.pinned (OpenSpec.upto blendWiderSpec)

/-- 'criaderalaw08.BlendWholes', WHERE WHAT IT READS IS OF BULK AT MOST 1048576: true; the input reads as it did. -/
def blendWholesUptoRow : OpenClaim := { program := "ytaigoebipeplpaa", sum := "6510966233f86505636767f2e46dcd41ac5740e2660dea506d6ba4ab0b25103a", func := "criadera/criaderalaw08.BlendWholes", spec := "blendWholes", unfollowed := true, recurses := true, apart := false, narrowed := true }
def BlendWholesUptoSaid : Prop := blendWholesUptoRow.holds Try.pinned (OpenSpec.upto blendWholesSpec)

/-- 'criaderalaw08.BlendPartsOfWhole', WHERE WHAT IT READS IS OF BULK AT MOST 1048576: true; the input reads as it did. -/
def blendPartsOfWholeUptoRow : OpenClaim := { program := "ytaigoebipeplpaa", sum := "6510966233f86505636767f2e46dcd41ac5740e2660dea506d6ba4ab0b25103a", func := "criadera/criaderalaw08.BlendPartsOfWhole", spec := "blendPartsOfWhole", unfollowed := true, recurses := true, apart := false, narrowed := true }
def BlendPartsOfWholeUptoSaid : Prop := blendPartsOfWholeUptoRow.holds Try.pinned (OpenSpec.upto blendPartsOfWholeSpec)

/-- 'criaderalaw08.BlendChecks', WHERE WHAT IT READS IS OF BULK AT MOST 1048576: true; the input reads as it did. -/
def blendChecksUptoRow : OpenClaim := { program := "ytaigoebipeplpaa", sum := "6510966233f86505636767f2e46dcd41ac5740e2660dea506d6ba4ab0b25103a", func := "criadera/criaderalaw08.BlendChecks", spec := "blendChecks", unfollowed := true, recurses := true, apart := false, narrowed := true }
def BlendChecksUptoSaid : Prop := blendChecksUptoRow.holds Try.pinned (OpenSpec.upto blendChecksSpec)

/-- 'criaderalaw08.BlendMeets', WHERE WHAT IT READS IS OF BULK AT MOST 1048576: true; the input reads as it did. -/
def blendMeetsUptoRow : OpenClaim := { program := "ytaigoebipeplpaa", sum := "6510966233f86505636767f2e46dcd41ac5740e2660dea506d6ba4ab0b25103a", func := "criadera/criaderalaw08.BlendMeets", spec := "blendMeets", unfollowed := true, recurses := true, apart := false, narrowed := true }
def BlendMeetsUptoSaid : Prop := blendMeetsUptoRow.holds Try.pinned (OpenSpec.upto blendMeetsSpec)

/-- 'criaderalaw08.BlendProves', WHERE WHAT IT READS IS OF BULK AT MOST 1048576: true; the input reads as it did. -/
def blendProvesUptoRow : OpenClaim := { program := "ytaigoebipeplpaa", sum := "6510966233f86505636767f2e46dcd41ac5740e2660dea506d6ba4ab0b25103a", func := "criadera/criaderalaw08.BlendProves", spec := "blendProves", unfollowed := true, recurses := true, apart := false, narrowed := true }
def BlendProvesUptoSaid : Prop := blendProvesUptoRow.holds Try.pinned (OpenSpec.upto blendProvesSpec)

/-- 'criaderalaw08.BlendFails', WHERE WHAT IT READS IS OF BULK AT MOST 1048576: true; the input reads as it did. -/
def blendFailsUptoRow : OpenClaim := { program := "ytaigoebipeplpaa", sum := "6510966233f86505636767f2e46dcd41ac5740e2660dea506d6ba4ab0b25103a", func := "criadera/criaderalaw08.BlendFails", spec := "blendFails", unfollowed := true, recurses := true, apart := false, narrowed := true }
def BlendFailsUptoSaid : Prop := blendFailsUptoRow.holds Try.pinned (OpenSpec.upto blendFailsSpec)

/-- 'criaderalaw08.BlendCheaper', WHERE WHAT IT READS IS OF BULK AT MOST 1048576: true; the input reads as it did. -/
def blendCheaperUptoRow : OpenClaim := { program := "ytaigoebipeplpaa", sum := "6510966233f86505636767f2e46dcd41ac5740e2660dea506d6ba4ab0b25103a", func := "criadera/criaderalaw08.BlendCheaper", spec := "blendCheaper", unfollowed := true, recurses := true, apart := false, narrowed := true }
def BlendCheaperUptoSaid : Prop := blendCheaperUptoRow.holds Try.pinned (OpenSpec.upto blendCheaperSpec)

/-- 'criaderatop.TopBlendMore', WHERE WHAT IT READS IS OF BULK AT MOST 1048576: true; the input reads as it did. -/
def topBlendMoreUptoRow : OpenClaim := { program := "ytaigoebipeplpaa", sum := "6510966233f86505636767f2e46dcd41ac5740e2660dea506d6ba4ab0b25103a", func := "criadera/criaderatop.TopBlendMore", spec := "topBlendMore", unfollowed := true, recurses := true, apart := false, narrowed := true }
def TopBlendMoreUptoSaid : Prop := topBlendMoreUptoRow.holds Try.pinned (OpenSpec.upto topBlendMoreSpec)

/-- 'criaderatop.TopBlendNoneCheaper', WHERE WHAT IT READS IS OF BULK AT MOST 1048576: true; the input reads as it did. -/
def topBlendNoneCheaperUptoRow : OpenClaim := { program := "ytaigoebipeplpaa", sum := "6510966233f86505636767f2e46dcd41ac5740e2660dea506d6ba4ab0b25103a", func := "criadera/criaderatop.TopBlendNoneCheaper", spec := "topBlendNoneCheaper", unfollowed := true, recurses := true, apart := false, narrowed := true }
def TopBlendNoneCheaperUptoSaid : Prop := topBlendNoneCheaperUptoRow.holds Try.pinned (OpenSpec.upto topBlendNoneCheaperSpec)

end Rows
end Go.Proofs.Ytaigoebipeplpaa
