/-
  DERIVED. GIVEN WITH THE SEED: THE CARDS: each row of YtbjimhgjbhlmnaaGreatDoorRows.lean that lists a variable, with what it lists TIED to the program's text (the seventh form; the later family's looks); each row that meets fmt, with fmt's text TOLD by the authors' own Lean function (tested against real Go, not proved from fmt's source: count such statements apart). THE CARD IS WHAT COUNTS. Prove the row's statement (the work); the ties are given (YtbjimhgjbhlmnaaGreatDoorTie.lean); close each card by the builder's one call (the guide's Derived/Test/ToyasCard.lean, 'card_holds'). Laid BY PROGRAM, IN A SANDBOX (cutbox-door.mjs). By AI agents, Wed Nov 11 2026. No macro, syntax, notation, axiom, sorry.
-/
import Derived.Test.YtbjimhgjbhlmnaaGreatDoorRows
import GoSem.ClaimSeven
namespace Go.Proofs.YtbjimhgjbhlmnaaGreatDoor
namespace Rows

/-- THE TIED CARD OF 'criaderalaw08.BlendRecipes'. -/
def blendRecipesCard : Claim7 := { stood := { row := blendRecipesRow, standIns := [], harness := (true, "b9b21e11dbebd2c0b00271ef6b8c691071608bb64311c02d59842101aaf4cb0a"), looks := true }, kinds := [], alts := [], laidByText := true, laidKinds := [.data, .data, .data, .data, .sentinel, .sentinel, .pinned], laidTests := true, laidLooks := .later }
def BlendRecipesCardSaid : Prop := Claim7.holds Tryz.pinned (.plain (OpenSpec.ofChange blendRecipesSpec)) blendRecipesCard

/-- THE TIED CARD OF 'criaderalaw06.PlanTexts'. -/
def planTextsCard : Claim7 := { stood := { row := planTextsRow, standIns := [], harness := (true, "b9b21e11dbebd2c0b00271ef6b8c691071608bb64311c02d59842101aaf4cb0a"), looks := true }, kinds := [], alts := [], laidByText := true, laidKinds := [.data, .data, .data, .data, .sentinel, .sentinel, .pinned], laidTests := true, laidLooks := .later }
def PlanTextsCardSaid : Prop := Claim7.holds Tryz.pinned (.plain (OpenSpec.ofChange planTextsSpec)) planTextsCard

/-- THE SECOND FORM's CARD OF 'criaderalaw08.BlendRecipes'. -/
def blendRecipesUptoCard : Claim7 := { stood := { row := blendRecipesUptoRow, standIns := [], harness := (true, "b9b21e11dbebd2c0b00271ef6b8c691071608bb64311c02d59842101aaf4cb0a"), looks := true }, kinds := [], alts := [], laidByText := true, laidKinds := [.data, .data, .data, .data, .sentinel, .sentinel, .pinned], laidTests := true, laidLooks := .later }
def BlendRecipesUptoCardSaid : Prop := Claim7.holds Tryz.pinned (.plain (OpenSpec.upto blendRecipesSpec)) blendRecipesUptoCard

/-- THE SECOND FORM's CARD OF 'criaderalaw06.PlanTexts'. -/
def planTextsUptoCard : Claim7 := { stood := { row := planTextsUptoRow, standIns := [], harness := (true, "b9b21e11dbebd2c0b00271ef6b8c691071608bb64311c02d59842101aaf4cb0a"), looks := true }, kinds := [], alts := [], laidByText := true, laidKinds := [.data, .data, .data, .data, .sentinel, .sentinel, .pinned], laidTests := true, laidLooks := .later }
def PlanTextsUptoCardSaid : Prop := Claim7.holds Tryz.pinned (.plain (OpenSpec.upto planTextsSpec)) planTextsUptoCard
end Rows
end Go.Proofs.YtbjimhgjbhlmnaaGreatDoor
