/-
  DERIVED. GIVEN WITH THE SEED: THE CARDS: each row of YtcgdcocmnmkhlaaDoorRows.lean that lists a variable, with what it lists TIED to the program's text (the seventh form; the later family's looks); each row that meets fmt, with fmt's text TOLD by the authors' own Lean function (tested against real Go, not proved from fmt's source: count such statements apart). THE CARD IS WHAT COUNTS. Prove the row's statement (the work); the ties are given (YtcgdcocmnmkhlaaDoorTie.lean); close each card by the builder's one call (the guide's Derived/Test/ToyasCard.lean, 'card_holds'). Laid BY PROGRAM, IN A SANDBOX (cutbox-door.mjs). By AI agents, Wed Nov 11 2026. No macro, syntax, notation, axiom, sorry.
-/
import Derived.Test.YtcgdcocmnmkhlaaDoorRows
import GoSem.ClaimSeven
namespace Go.Proofs.YtcgdcocmnmkhlaaDoor
namespace Rows

/-- THE TIED CARD OF 'criaderalaw03.FlorChecks'. -/
def florChecksCard : Claim7 := { stood := { row := florChecksRow, standIns := [], harness := (true, "4c7ef524b5881d19e12948985b782f19a9a88117ac4dbe7e5488c5a3b77f72f3"), looks := false }, kinds := [], alts := [], laidByText := true, laidKinds := [.data], laidTests := true, laidLooks := .later }
def FlorChecksCardSaid : Prop := Claim7.holds Tryd.pinned (.plain (OpenSpec.ofChange florChecksSpec)) florChecksCard

/-- THE TIED CARD OF 'criaderalaw03.FlorDays'. -/
def florDaysCard : Claim7 := { stood := { row := florDaysRow, standIns := [], harness := (true, "4c7ef524b5881d19e12948985b782f19a9a88117ac4dbe7e5488c5a3b77f72f3"), looks := false }, kinds := [], alts := [], laidByText := true, laidKinds := [.data], laidTests := true, laidLooks := .later }
def FlorDaysCardSaid : Prop := Claim7.holds Tryd.pinned (.plain (OpenSpec.ofChange florDaysSpec)) florDaysCard

/-- THE TIED CARD OF 'criaderalaw03.FlorTrue'. -/
def florTrueCard : Claim7 := { stood := { row := florTrueRow, standIns := [], harness := (true, "4c7ef524b5881d19e12948985b782f19a9a88117ac4dbe7e5488c5a3b77f72f3"), looks := false }, kinds := [], alts := [], laidByText := true, laidKinds := [.data], laidTests := true, laidLooks := .later }
def FlorTrueCardSaid : Prop := Claim7.holds Tryd.pinned (.plain (OpenSpec.ofChange florTrueSpec)) florTrueCard

/-- THE TIED CARD OF 'criaderalaw03.FlorDraws'. -/
def florDrawsCard : Claim7 := { stood := { row := florDrawsRow, standIns := [], harness := (true, "4c7ef524b5881d19e12948985b782f19a9a88117ac4dbe7e5488c5a3b77f72f3"), looks := false }, kinds := [], alts := [], laidByText := true, laidKinds := [.data], laidTests := true, laidLooks := .later }
def FlorDrawsCardSaid : Prop := Claim7.holds Tryd.pinned (.plain (OpenSpec.ofChange florDrawsSpec)) florDrawsCard

/-- THE TIED CARD OF 'criaderalaw03.FlorSpells'. -/
def florSpellsCard : Claim7 := { stood := { row := florSpellsRow, standIns := [], harness := (true, "4c7ef524b5881d19e12948985b782f19a9a88117ac4dbe7e5488c5a3b77f72f3"), looks := false }, kinds := [], alts := [], laidByText := true, laidKinds := [.data], laidTests := true, laidLooks := .later }
def FlorSpellsCardSaid : Prop := Claim7.holds Tryd.pinned (.plain (OpenSpec.ofChange florSpellsSpec)) florSpellsCard

/-- THE TIED CARD OF 'criaderalaw03.FlorKeeps'. -/
def florKeepsCard : Claim7 := { stood := { row := florKeepsRow, standIns := [], harness := (true, "4c7ef524b5881d19e12948985b782f19a9a88117ac4dbe7e5488c5a3b77f72f3"), looks := false }, kinds := [], alts := [], laidByText := true, laidKinds := [.data], laidTests := true, laidLooks := .later }
def FlorKeepsCardSaid : Prop := Claim7.holds Tryd.pinned (.plain (OpenSpec.ofChange florKeepsSpec)) florKeepsCard

/-- THE TIED CARD OF 'criaderalaw03.FlorRates'. -/
def florRatesCard : Claim7 := { stood := { row := florRatesRow, standIns := [], harness := (true, "4c7ef524b5881d19e12948985b782f19a9a88117ac4dbe7e5488c5a3b77f72f3"), looks := false }, kinds := [], alts := [], laidByText := true, laidKinds := [.data], laidTests := true, laidLooks := .later }
def FlorRatesCardSaid : Prop := Claim7.holds Tryd.pinned (.plain (OpenSpec.ofChange florRatesSpec)) florRatesCard

/-- THE TIED CARD OF 'criaderalaw03.FlorExplains'. -/
def florExplainsCard : Claim7 := { stood := { row := florExplainsRow, standIns := [], harness := (true, "4c7ef524b5881d19e12948985b782f19a9a88117ac4dbe7e5488c5a3b77f72f3"), looks := false }, kinds := [], alts := [], laidByText := true, laidKinds := [.data], laidTests := true, laidLooks := .later }
def FlorExplainsCardSaid : Prop := Claim7.holds Tryd.pinned (.plain (OpenSpec.ofChange florExplainsSpec)) florExplainsCard

/-- THE TIED CARD OF 'criaderalaw03.FlorFollows'. -/
def florFollowsCard : Claim7 := { stood := { row := florFollowsRow, standIns := [], harness := (true, "4c7ef524b5881d19e12948985b782f19a9a88117ac4dbe7e5488c5a3b77f72f3"), looks := false }, kinds := [], alts := [], laidByText := true, laidKinds := [.data], laidTests := true, laidLooks := .later }
def FlorFollowsCardSaid : Prop := Claim7.holds Tryd.pinned (.plain (OpenSpec.ofChange florFollowsSpec)) florFollowsCard

/-- THE TIED CARD OF 'criaderalaw03.FlorMixes'. -/
def florMixesCard : Claim7 := { stood := { row := florMixesRow, standIns := [], harness := (true, "4c7ef524b5881d19e12948985b782f19a9a88117ac4dbe7e5488c5a3b77f72f3"), looks := false }, kinds := [], alts := [], laidByText := true, laidKinds := [.data], laidTests := true, laidLooks := .later }
def FlorMixesCardSaid : Prop := Claim7.holds Tryd.pinned (.plain (OpenSpec.ofChange florMixesSpec)) florMixesCard

/-- THE TIED CARD OF 'criaderalaw03.FlorMixedTrue'. -/
def florMixedTrueCard : Claim7 := { stood := { row := florMixedTrueRow, standIns := [], harness := (true, "4c7ef524b5881d19e12948985b782f19a9a88117ac4dbe7e5488c5a3b77f72f3"), looks := false }, kinds := [], alts := [], laidByText := true, laidKinds := [.data], laidTests := true, laidLooks := .later }
def FlorMixedTrueCardSaid : Prop := Claim7.holds Tryd.pinned (.plain (OpenSpec.ofChange florMixedTrueSpec)) florMixedTrueCard

/-- THE TIED CARD OF 'criaderalaw03.FlorFortifies'. -/
def florFortifiesCard : Claim7 := { stood := { row := florFortifiesRow, standIns := [], harness := (true, "4c7ef524b5881d19e12948985b782f19a9a88117ac4dbe7e5488c5a3b77f72f3"), looks := false }, kinds := [], alts := [], laidByText := true, laidKinds := [.data], laidTests := true, laidLooks := .later }
def FlorFortifiesCardSaid : Prop := Claim7.holds Tryd.pinned (.plain (OpenSpec.ofChange florFortifiesSpec)) florFortifiesCard

/-- THE TIED CARD OF 'criaderatop.TopFlorSpells'. -/
def topFlorSpellsCard : Claim7 := { stood := { row := topFlorSpellsRow, standIns := [], harness := (true, "4c7ef524b5881d19e12948985b782f19a9a88117ac4dbe7e5488c5a3b77f72f3"), looks := false }, kinds := [], alts := [], laidByText := true, laidKinds := [.data], laidTests := true, laidLooks := .later }
def TopFlorSpellsCardSaid : Prop := Claim7.holds Tryd.pinned (.plain (OpenSpec.ofChange topFlorSpellsSpec)) topFlorSpellsCard

/-- THE TIED CARD OF 'criaderalaw03.FlorEnough'. -/
def florEnoughCard : Claim7 := { stood := { row := florEnoughRow, standIns := [], harness := (true, "4c7ef524b5881d19e12948985b782f19a9a88117ac4dbe7e5488c5a3b77f72f3"), looks := false }, kinds := [], alts := [], laidByText := true, laidKinds := [.data], laidTests := true, laidLooks := .later }
def FlorEnoughCardSaid : Prop := Claim7.holds Tryd.pinned (.plain (OpenSpec.ofChange florEnoughSpec)) florEnoughCard

/-- THE TIED CARD OF 'criaderalaw03.FlorRatesBack'. -/
def florRatesBackCard : Claim7 := { stood := { row := florRatesBackRow, standIns := [], harness := (true, "4c7ef524b5881d19e12948985b782f19a9a88117ac4dbe7e5488c5a3b77f72f3"), looks := false }, kinds := [], alts := [], laidByText := true, laidKinds := [.data], laidTests := true, laidLooks := .later }
def FlorRatesBackCardSaid : Prop := Claim7.holds Tryd.pinned (.plain (OpenSpec.ofChange florRatesBackSpec)) florRatesBackCard

/-- THE TIED CARD OF 'criaderatop.TopFlorMeasured'. -/
def topFlorMeasuredCard : Claim7 := { stood := { row := topFlorMeasuredRow, standIns := [], harness := (true, "4c7ef524b5881d19e12948985b782f19a9a88117ac4dbe7e5488c5a3b77f72f3"), looks := false }, kinds := [], alts := [], laidByText := true, laidKinds := [.data], laidTests := true, laidLooks := .later }
def TopFlorMeasuredCardSaid : Prop := Claim7.holds Tryd.pinned (.plain (OpenSpec.ofChange topFlorMeasuredSpec)) topFlorMeasuredCard

/-- THE TIED CARD OF 'criaderatop.TopFlorFortified'. -/
def topFlorFortifiedCard : Claim7 := { stood := { row := topFlorFortifiedRow, standIns := [], harness := (true, "4c7ef524b5881d19e12948985b782f19a9a88117ac4dbe7e5488c5a3b77f72f3"), looks := false }, kinds := [], alts := [], laidByText := true, laidKinds := [.data], laidTests := true, laidLooks := .later }
def TopFlorFortifiedCardSaid : Prop := Claim7.holds Tryd.pinned (.plain (OpenSpec.ofChange topFlorFortifiedSpec)) topFlorFortifiedCard

/-- THE SECOND FORM's CARD OF 'criaderalaw03.FlorChecks'. -/
def florChecksUptoCard : Claim7 := { stood := { row := florChecksUptoRow, standIns := [], harness := (true, "4c7ef524b5881d19e12948985b782f19a9a88117ac4dbe7e5488c5a3b77f72f3"), looks := false }, kinds := [], alts := [], laidByText := true, laidKinds := [.data], laidTests := true, laidLooks := .later }
def FlorChecksUptoCardSaid : Prop := Claim7.holds Tryd.pinned (.plain (OpenSpec.upto florChecksSpec)) florChecksUptoCard

/-- THE SECOND FORM's CARD OF 'criaderalaw03.FlorDays'. -/
def florDaysUptoCard : Claim7 := { stood := { row := florDaysUptoRow, standIns := [], harness := (true, "4c7ef524b5881d19e12948985b782f19a9a88117ac4dbe7e5488c5a3b77f72f3"), looks := false }, kinds := [], alts := [], laidByText := true, laidKinds := [.data], laidTests := true, laidLooks := .later }
def FlorDaysUptoCardSaid : Prop := Claim7.holds Tryd.pinned (.plain (OpenSpec.upto florDaysSpec)) florDaysUptoCard

/-- THE SECOND FORM's CARD OF 'criaderalaw03.FlorTrue'. -/
def florTrueUptoCard : Claim7 := { stood := { row := florTrueUptoRow, standIns := [], harness := (true, "4c7ef524b5881d19e12948985b782f19a9a88117ac4dbe7e5488c5a3b77f72f3"), looks := false }, kinds := [], alts := [], laidByText := true, laidKinds := [.data], laidTests := true, laidLooks := .later }
def FlorTrueUptoCardSaid : Prop := Claim7.holds Tryd.pinned (.plain (OpenSpec.upto florTrueSpec)) florTrueUptoCard

/-- THE SECOND FORM's CARD OF 'criaderalaw03.FlorDraws'. -/
def florDrawsUptoCard : Claim7 := { stood := { row := florDrawsUptoRow, standIns := [], harness := (true, "4c7ef524b5881d19e12948985b782f19a9a88117ac4dbe7e5488c5a3b77f72f3"), looks := false }, kinds := [], alts := [], laidByText := true, laidKinds := [.data], laidTests := true, laidLooks := .later }
def FlorDrawsUptoCardSaid : Prop := Claim7.holds Tryd.pinned (.plain (OpenSpec.upto florDrawsSpec)) florDrawsUptoCard

/-- THE SECOND FORM's CARD OF 'criaderalaw03.FlorSpells'. -/
def florSpellsUptoCard : Claim7 := { stood := { row := florSpellsUptoRow, standIns := [], harness := (true, "4c7ef524b5881d19e12948985b782f19a9a88117ac4dbe7e5488c5a3b77f72f3"), looks := false }, kinds := [], alts := [], laidByText := true, laidKinds := [.data], laidTests := true, laidLooks := .later }
def FlorSpellsUptoCardSaid : Prop := Claim7.holds Tryd.pinned (.plain (OpenSpec.upto florSpellsSpec)) florSpellsUptoCard

/-- THE SECOND FORM's CARD OF 'criaderalaw03.FlorKeeps'. -/
def florKeepsUptoCard : Claim7 := { stood := { row := florKeepsUptoRow, standIns := [], harness := (true, "4c7ef524b5881d19e12948985b782f19a9a88117ac4dbe7e5488c5a3b77f72f3"), looks := false }, kinds := [], alts := [], laidByText := true, laidKinds := [.data], laidTests := true, laidLooks := .later }
def FlorKeepsUptoCardSaid : Prop := Claim7.holds Tryd.pinned (.plain (OpenSpec.upto florKeepsSpec)) florKeepsUptoCard

/-- THE SECOND FORM's CARD OF 'criaderalaw03.FlorRates'. -/
def florRatesUptoCard : Claim7 := { stood := { row := florRatesUptoRow, standIns := [], harness := (true, "4c7ef524b5881d19e12948985b782f19a9a88117ac4dbe7e5488c5a3b77f72f3"), looks := false }, kinds := [], alts := [], laidByText := true, laidKinds := [.data], laidTests := true, laidLooks := .later }
def FlorRatesUptoCardSaid : Prop := Claim7.holds Tryd.pinned (.plain (OpenSpec.upto florRatesSpec)) florRatesUptoCard

/-- THE SECOND FORM's CARD OF 'criaderalaw03.FlorExplains'. -/
def florExplainsUptoCard : Claim7 := { stood := { row := florExplainsUptoRow, standIns := [], harness := (true, "4c7ef524b5881d19e12948985b782f19a9a88117ac4dbe7e5488c5a3b77f72f3"), looks := false }, kinds := [], alts := [], laidByText := true, laidKinds := [.data], laidTests := true, laidLooks := .later }
def FlorExplainsUptoCardSaid : Prop := Claim7.holds Tryd.pinned (.plain (OpenSpec.upto florExplainsSpec)) florExplainsUptoCard

/-- THE SECOND FORM's CARD OF 'criaderalaw03.FlorFollows'. -/
def florFollowsUptoCard : Claim7 := { stood := { row := florFollowsUptoRow, standIns := [], harness := (true, "4c7ef524b5881d19e12948985b782f19a9a88117ac4dbe7e5488c5a3b77f72f3"), looks := false }, kinds := [], alts := [], laidByText := true, laidKinds := [.data], laidTests := true, laidLooks := .later }
def FlorFollowsUptoCardSaid : Prop := Claim7.holds Tryd.pinned (.plain (OpenSpec.upto florFollowsSpec)) florFollowsUptoCard

/-- THE SECOND FORM's CARD OF 'criaderalaw03.FlorMixes'. -/
def florMixesUptoCard : Claim7 := { stood := { row := florMixesUptoRow, standIns := [], harness := (true, "4c7ef524b5881d19e12948985b782f19a9a88117ac4dbe7e5488c5a3b77f72f3"), looks := false }, kinds := [], alts := [], laidByText := true, laidKinds := [.data], laidTests := true, laidLooks := .later }
def FlorMixesUptoCardSaid : Prop := Claim7.holds Tryd.pinned (.plain (OpenSpec.upto florMixesSpec)) florMixesUptoCard

/-- THE SECOND FORM's CARD OF 'criaderalaw03.FlorMixedTrue'. -/
def florMixedTrueUptoCard : Claim7 := { stood := { row := florMixedTrueUptoRow, standIns := [], harness := (true, "4c7ef524b5881d19e12948985b782f19a9a88117ac4dbe7e5488c5a3b77f72f3"), looks := false }, kinds := [], alts := [], laidByText := true, laidKinds := [.data], laidTests := true, laidLooks := .later }
def FlorMixedTrueUptoCardSaid : Prop := Claim7.holds Tryd.pinned (.plain (OpenSpec.upto florMixedTrueSpec)) florMixedTrueUptoCard

/-- THE SECOND FORM's CARD OF 'criaderalaw03.FlorFortifies'. -/
def florFortifiesUptoCard : Claim7 := { stood := { row := florFortifiesUptoRow, standIns := [], harness := (true, "4c7ef524b5881d19e12948985b782f19a9a88117ac4dbe7e5488c5a3b77f72f3"), looks := false }, kinds := [], alts := [], laidByText := true, laidKinds := [.data], laidTests := true, laidLooks := .later }
def FlorFortifiesUptoCardSaid : Prop := Claim7.holds Tryd.pinned (.plain (OpenSpec.upto florFortifiesSpec)) florFortifiesUptoCard

/-- THE SECOND FORM's CARD OF 'criaderatop.TopFlorSpells'. -/
def topFlorSpellsUptoCard : Claim7 := { stood := { row := topFlorSpellsUptoRow, standIns := [], harness := (true, "4c7ef524b5881d19e12948985b782f19a9a88117ac4dbe7e5488c5a3b77f72f3"), looks := false }, kinds := [], alts := [], laidByText := true, laidKinds := [.data], laidTests := true, laidLooks := .later }
def TopFlorSpellsUptoCardSaid : Prop := Claim7.holds Tryd.pinned (.plain (OpenSpec.upto topFlorSpellsSpec)) topFlorSpellsUptoCard

/-- THE SECOND FORM's CARD OF 'criaderalaw03.FlorEnough'. -/
def florEnoughUptoCard : Claim7 := { stood := { row := florEnoughUptoRow, standIns := [], harness := (true, "4c7ef524b5881d19e12948985b782f19a9a88117ac4dbe7e5488c5a3b77f72f3"), looks := false }, kinds := [], alts := [], laidByText := true, laidKinds := [.data], laidTests := true, laidLooks := .later }
def FlorEnoughUptoCardSaid : Prop := Claim7.holds Tryd.pinned (.plain (OpenSpec.upto florEnoughSpec)) florEnoughUptoCard

/-- THE SECOND FORM's CARD OF 'criaderalaw03.FlorRatesBack'. -/
def florRatesBackUptoCard : Claim7 := { stood := { row := florRatesBackUptoRow, standIns := [], harness := (true, "4c7ef524b5881d19e12948985b782f19a9a88117ac4dbe7e5488c5a3b77f72f3"), looks := false }, kinds := [], alts := [], laidByText := true, laidKinds := [.data], laidTests := true, laidLooks := .later }
def FlorRatesBackUptoCardSaid : Prop := Claim7.holds Tryd.pinned (.plain (OpenSpec.upto florRatesBackSpec)) florRatesBackUptoCard

/-- THE SECOND FORM's CARD OF 'criaderatop.TopFlorMeasured'. -/
def topFlorMeasuredUptoCard : Claim7 := { stood := { row := topFlorMeasuredUptoRow, standIns := [], harness := (true, "4c7ef524b5881d19e12948985b782f19a9a88117ac4dbe7e5488c5a3b77f72f3"), looks := false }, kinds := [], alts := [], laidByText := true, laidKinds := [.data], laidTests := true, laidLooks := .later }
def TopFlorMeasuredUptoCardSaid : Prop := Claim7.holds Tryd.pinned (.plain (OpenSpec.upto topFlorMeasuredSpec)) topFlorMeasuredUptoCard

/-- THE SECOND FORM's CARD OF 'criaderatop.TopFlorFortified'. -/
def topFlorFortifiedUptoCard : Claim7 := { stood := { row := topFlorFortifiedUptoRow, standIns := [], harness := (true, "4c7ef524b5881d19e12948985b782f19a9a88117ac4dbe7e5488c5a3b77f72f3"), looks := false }, kinds := [], alts := [], laidByText := true, laidKinds := [.data], laidTests := true, laidLooks := .later }
def TopFlorFortifiedUptoCardSaid : Prop := Claim7.holds Tryd.pinned (.plain (OpenSpec.upto topFlorFortifiedSpec)) topFlorFortifiedUptoCard
end Rows
end Go.Proofs.YtcgdcocmnmkhlaaDoor
