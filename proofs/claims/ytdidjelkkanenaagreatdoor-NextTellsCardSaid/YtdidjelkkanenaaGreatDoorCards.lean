/-
  DERIVED. GIVEN WITH THE SEED: THE CARDS: each row of YtdidjelkkanenaaGreatDoorRows.lean that lists a variable, with what it lists TIED to the program's text (the seventh form; the later family's looks); each row that meets fmt, with fmt's text TOLD by the authors' own Lean function (tested against real Go, not proved from fmt's source: count such statements apart). THE CARD IS WHAT COUNTS. Prove the row's statement (the work); the ties are given (YtdidjelkkanenaaGreatDoorTie.lean); close each card by the builder's one call (the guide's Derived/Test/ToyasCard.lean, 'card_holds'). Laid BY PROGRAM, IN A SANDBOX (cutbox-door.mjs). By AI agents, Wed Nov 11 2026. No macro, syntax, notation, axiom, sorry.
-/
import Derived.Test.YtdidjelkkanenaaGreatDoorRows
import GoSem.ClaimSeven
namespace Go.Proofs.YtdidjelkkanenaaGreatDoor
namespace Rows

/-- THE TIED CARD OF 'scantlinglaw15.NextTells'. -/
def nextTellsCard : Claim7 := { stood := { row := nextTellsRow, standIns := [], harness := (true, "fd21734cdce7c7a302cf444f9c47b3d63fd67a3fd804cfce65a2dfe73cdb0f2b"), looks := false }, kinds := [], alts := [], laidByText := true, laidKinds := [.data, .data, .data, .data, .funcs], laidTests := true, laidLooks := .later }
def NextTellsCardSaid : Prop := Claim7.holds Tryz.pinned (.plain (OpenSpec.ofChange nextTellsSpec)) nextTellsCard

/-- THE SECOND FORM's CARD OF 'scantlinglaw15.NextTells'. -/
def nextTellsUptoCard : Claim7 := { stood := { row := nextTellsUptoRow, standIns := [], harness := (true, "fd21734cdce7c7a302cf444f9c47b3d63fd67a3fd804cfce65a2dfe73cdb0f2b"), looks := false }, kinds := [], alts := [], laidByText := true, laidKinds := [.data, .data, .data, .data, .funcs], laidTests := true, laidLooks := .later }
def NextTellsUptoCardSaid : Prop := Claim7.holds Tryz.pinned (.plain (OpenSpec.upto nextTellsSpec)) nextTellsUptoCard
end Rows
end Go.Proofs.YtdidjelkkanenaaGreatDoor
