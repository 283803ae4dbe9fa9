/-
  DERIVED. GIVEN WITH THE SEED: THE CARDS: each row of YtbjimhgjbhlmnaaDoorRows.lean that lists a variable, with what it lists TIED to the program's text (the seventh form; the later family's looks); each row that meets fmt, with fmt's text TOLD by the authors' own Lean function (tested against real Go, not proved from fmt's source: count such statements apart). THE CARD IS WHAT COUNTS. Prove the row's statement (the work); the ties are given (YtbjimhgjbhlmnaaDoorTie.lean); close each card by the builder's one call (the guide's Derived/Test/ToyasCard.lean, 'card_holds'). Laid BY PROGRAM, IN A SANDBOX (cutbox-door.mjs). By AI agents, Wed Nov 11 2026. No macro, syntax, notation, axiom, sorry.
-/
import Derived.Test.YtbjimhgjbhlmnaaDoorRows
import GoSem.ClaimSeven
namespace Go.Proofs.YtbjimhgjbhlmnaaDoor
namespace Rows

/-- THE TIED CARD OF 'criaderalaw03.FlorTexts'. -/
def florTextsCard : Claim7 := { stood := { row := florTextsRow, standIns := [], harness := (true, "4202c039a0448f67485e93db6b48488d852e08d05125167fcbabc568119ef081"), looks := true }, kinds := [], alts := [], laidByText := true, laidKinds := [.data, .data, .data, .data, .sentinel, .sentinel, .data, .pinned], laidTests := true, laidLooks := .later }
def FlorTextsCardSaid : Prop := Claim7.holds Tryd.pinned (.plain (OpenSpec.ofChange florTextsSpec)) florTextsCard

/-- THE TIED CARD OF 'criaderalaw03.FlorLossTexts'. -/
def florLossTextsCard : Claim7 := { stood := { row := florLossTextsRow, standIns := [], harness := (true, "4202c039a0448f67485e93db6b48488d852e08d05125167fcbabc568119ef081"), looks := true }, kinds := [], alts := [], laidByText := true, laidKinds := [.data, .data, .data, .data, .sentinel, .sentinel, .data, .pinned], laidTests := true, laidLooks := .later }
def FlorLossTextsCardSaid : Prop := Claim7.holds Tryd.pinned (.plain (OpenSpec.ofChange florLossTextsSpec)) florLossTextsCard

/-- THE SECOND FORM's CARD OF 'criaderalaw03.FlorTexts'. -/
def florTextsUptoCard : Claim7 := { stood := { row := florTextsUptoRow, standIns := [], harness := (true, "4202c039a0448f67485e93db6b48488d852e08d05125167fcbabc568119ef081"), looks := true }, kinds := [], alts := [], laidByText := true, laidKinds := [.data, .data, .data, .data, .sentinel, .sentinel, .data, .pinned], laidTests := true, laidLooks := .later }
def FlorTextsUptoCardSaid : Prop := Claim7.holds Tryd.pinned (.plain (OpenSpec.upto florTextsSpec)) florTextsUptoCard

/-- THE SECOND FORM's CARD OF 'criaderalaw03.FlorLossTexts'. -/
def florLossTextsUptoCard : Claim7 := { stood := { row := florLossTextsUptoRow, standIns := [], harness := (true, "4202c039a0448f67485e93db6b48488d852e08d05125167fcbabc568119ef081"), looks := true }, kinds := [], alts := [], laidByText := true, laidKinds := [.data, .data, .data, .data, .sentinel, .sentinel, .data, .pinned], laidTests := true, laidLooks := .later }
def FlorLossTextsUptoCardSaid : Prop := Claim7.holds Tryd.pinned (.plain (OpenSpec.upto florLossTextsSpec)) florLossTextsUptoCard
end Rows
end Go.Proofs.YtbjimhgjbhlmnaaDoor
