/-
  DERIVED. GIVEN WITH THE SEED: THE CARDS: each row of YtaigoebipeplpaaDoorRows.lean that lists a variable, with what it lists TIED to the program's text (the seventh form; the later family's looks); each row that meets fmt, with fmt's text TOLD by the authors' own Lean function (tested against real Go, not proved from fmt's source: count such statements apart). THE CARD IS WHAT COUNTS. Prove the row's statement (the work); the ties are given (YtaigoebipeplpaaDoorTie.lean); close each card by the builder's one call (the guide's Derived/Test/ToyasCard.lean, 'card_holds'). Laid BY PROGRAM, IN A SANDBOX (cutbox-door.mjs). By AI agents, Wed Nov 11 2026. No macro, syntax, notation, axiom, sorry.
-/
import Derived.Test.YtaigoebipeplpaaDoorRows
import GoSem.ClaimSeven
namespace Go.Proofs.YtaigoebipeplpaaDoor
namespace Rows

/-- THE TIED CARD OF 'criaderatop.TopBlendMixes'. -/
def topBlendMixesCard : Claim7 := { stood := { row := topBlendMixesRow, standIns := [], harness := (true, "ad52b73ad081c2d91be61007681286fb25cec037de439a848195073aa5cae409"), looks := false }, kinds := [], alts := [], laidByText := true, laidKinds := [.data], laidTests := true, laidLooks := .later }
def TopBlendMixesCardSaid : Prop := Claim7.holds Tryd.pinned (.plain (OpenSpec.ofChange topBlendMixesSpec)) topBlendMixesCard

/-- THE SECOND FORM's CARD OF 'criaderatop.TopBlendMixes'. -/
def topBlendMixesUptoCard : Claim7 := { stood := { row := topBlendMixesUptoRow, standIns := [], harness := (true, "ad52b73ad081c2d91be61007681286fb25cec037de439a848195073aa5cae409"), looks := false }, kinds := [], alts := [], laidByText := true, laidKinds := [.data], laidTests := true, laidLooks := .later }
def TopBlendMixesUptoCardSaid : Prop := Claim7.holds Tryd.pinned (.plain (OpenSpec.upto topBlendMixesSpec)) topBlendMixesUptoCard
end Rows
end Go.Proofs.YtaigoebipeplpaaDoor
