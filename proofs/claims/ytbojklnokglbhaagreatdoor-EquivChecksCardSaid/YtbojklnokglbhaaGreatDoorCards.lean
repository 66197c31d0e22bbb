/-
  DERIVED. GIVEN WITH THE SEED: THE CARDS: each row of YtbojklnokglbhaaGreatDoorRows.lean that lists a variable, with what it lists TIED to the program's text (the seventh form; the later family's looks); each row that meets fmt, with fmt's text TOLD by the authors' own Lean function (tested against real Go, not proved from fmt's source: count such statements apart). THE CARD IS WHAT COUNTS. Prove the row's statement (the work); the ties are given (YtbojklnokglbhaaGreatDoorTie.lean); close each card by the builder's one call (the guide's Derived/Test/ToyasCard.lean, 'card_holds'). Laid BY PROGRAM, IN A SANDBOX (cutbox-door.mjs). By AI agents, Wed Nov 11 2026. No macro, syntax, notation, axiom, sorry.
-/
import Derived.Test.YtbojklnokglbhaaGreatDoorRows
import GoSem.ClaimSeven
namespace Go.Proofs.YtbojklnokglbhaaGreatDoor
namespace Rows

/-- THE TIED CARD OF 'scantlinglaw19.EquivChecks'. -/
def equivChecksCard : Claim7 := { stood := { row := equivChecksRow, standIns := [], harness := (true, "86101a68c49c93d7c5e348d5656415b1d1de394f16f5d4794426d8b93a9e584e"), looks := false }, kinds := [], alts := [], laidByText := true, laidKinds := [.data, .data, .data, .data, .funcs], laidTests := true, laidLooks := .later }
def EquivChecksCardSaid : Prop := Claim7.holds Tryz.pinned (.plain (OpenSpec.ofChange equivChecksSpec)) equivChecksCard

/-- THE TIED CARD OF 'scantlinglaw19.EquivTurned'. -/
def equivTurnedCard : Claim7 := { stood := { row := equivTurnedRow, standIns := [], harness := (true, "86101a68c49c93d7c5e348d5656415b1d1de394f16f5d4794426d8b93a9e584e"), looks := false }, kinds := [], alts := [], laidByText := true, laidKinds := [.data, .data, .data, .data, .funcs], laidTests := true, laidLooks := .later }
def EquivTurnedCardSaid : Prop := Claim7.holds Tryz.pinned (.plain (OpenSpec.ofChange equivTurnedSpec)) equivTurnedCard

/-- THE TIED CARD OF 'scantlinglaw19.EquivBound'. -/
def equivBoundCard : Claim7 := { stood := { row := equivBoundRow, standIns := [], harness := (true, "86101a68c49c93d7c5e348d5656415b1d1de394f16f5d4794426d8b93a9e584e"), looks := false }, kinds := [], alts := [], laidByText := true, laidKinds := [.data, .data, .data, .data, .funcs], laidTests := true, laidLooks := .later }
def EquivBoundCardSaid : Prop := Claim7.holds Tryz.pinned (.plain (OpenSpec.ofChange equivBoundSpec)) equivBoundCard

/-- THE TIED CARD OF 'scantlinglaw19.EquivLinked'. -/
def equivLinkedCard : Claim7 := { stood := { row := equivLinkedRow, standIns := [], harness := (true, "86101a68c49c93d7c5e348d5656415b1d1de394f16f5d4794426d8b93a9e584e"), looks := false }, kinds := [], alts := [], laidByText := true, laidKinds := [.data, .data, .data, .data, .funcs], laidTests := true, laidLooks := .later }
def EquivLinkedCardSaid : Prop := Claim7.holds Tryz.pinned (.plain (OpenSpec.ofChange equivLinkedSpec)) equivLinkedCard

/-- THE TIED CARD OF 'scantlinglaw19.EquivTells'. -/
def equivTellsCard : Claim7 := { stood := { row := equivTellsRow, standIns := [], harness := (true, "86101a68c49c93d7c5e348d5656415b1d1de394f16f5d4794426d8b93a9e584e"), looks := false }, kinds := [], alts := [], laidByText := true, laidKinds := [.data, .data, .data, .data, .funcs], laidTests := true, laidLooks := .later }
def EquivTellsCardSaid : Prop := Claim7.holds Tryz.pinned (.plain (OpenSpec.ofChange equivTellsSpec)) equivTellsCard

/-- THE SECOND FORM's CARD OF 'scantlinglaw19.EquivChecks'. -/
def equivChecksUptoCard : Claim7 := { stood := { row := equivChecksUptoRow, standIns := [], harness := (true, "86101a68c49c93d7c5e348d5656415b1d1de394f16f5d4794426d8b93a9e584e"), looks := false }, kinds := [], alts := [], laidByText := true, laidKinds := [.data, .data, .data, .data, .funcs], laidTests := true, laidLooks := .later }
def EquivChecksUptoCardSaid : Prop := Claim7.holds Tryz.pinned (.plain (OpenSpec.upto equivChecksSpec)) equivChecksUptoCard

/-- THE SECOND FORM's CARD OF 'scantlinglaw19.EquivTurned'. -/
def equivTurnedUptoCard : Claim7 := { stood := { row := equivTurnedUptoRow, standIns := [], harness := (true, "86101a68c49c93d7c5e348d5656415b1d1de394f16f5d4794426d8b93a9e584e"), looks := false }, kinds := [], alts := [], laidByText := true, laidKinds := [.data, .data, .data, .data, .funcs], laidTests := true, laidLooks := .later }
def EquivTurnedUptoCardSaid : Prop := Claim7.holds Tryz.pinned (.plain (OpenSpec.upto equivTurnedSpec)) equivTurnedUptoCard

/-- THE SECOND FORM's CARD OF 'scantlinglaw19.EquivBound'. -/
def equivBoundUptoCard : Claim7 := { stood := { row := equivBoundUptoRow, standIns := [], harness := (true, "86101a68c49c93d7c5e348d5656415b1d1de394f16f5d4794426d8b93a9e584e"), looks := false }, kinds := [], alts := [], laidByText := true, laidKinds := [.data, .data, .data, .data, .funcs], laidTests := true, laidLooks := .later }
def EquivBoundUptoCardSaid : Prop := Claim7.holds Tryz.pinned (.plain (OpenSpec.upto equivBoundSpec)) equivBoundUptoCard

/-- THE SECOND FORM's CARD OF 'scantlinglaw19.EquivLinked'. -/
def equivLinkedUptoCard : Claim7 := { stood := { row := equivLinkedUptoRow, standIns := [], harness := (true, "86101a68c49c93d7c5e348d5656415b1d1de394f16f5d4794426d8b93a9e584e"), looks := false }, kinds := [], alts := [], laidByText := true, laidKinds := [.data, .data, .data, .data, .funcs], laidTests := true, laidLooks := .later }
def EquivLinkedUptoCardSaid : Prop := Claim7.holds Tryz.pinned (.plain (OpenSpec.upto equivLinkedSpec)) equivLinkedUptoCard

/-- THE SECOND FORM's CARD OF 'scantlinglaw19.EquivTells'. -/
def equivTellsUptoCard : Claim7 := { stood := { row := equivTellsUptoRow, standIns := [], harness := (true, "86101a68c49c93d7c5e348d5656415b1d1de394f16f5d4794426d8b93a9e584e"), looks := false }, kinds := [], alts := [], laidByText := true, laidKinds := [.data, .data, .data, .data, .funcs], laidTests := true, laidLooks := .later }
def EquivTellsUptoCardSaid : Prop := Claim7.holds Tryz.pinned (.plain (OpenSpec.upto equivTellsSpec)) equivTellsUptoCard
end Rows
end Go.Proofs.YtbojklnokglbhaaGreatDoor
