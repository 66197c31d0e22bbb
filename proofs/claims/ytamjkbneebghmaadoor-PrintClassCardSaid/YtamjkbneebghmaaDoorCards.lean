/-
  DERIVED. GIVEN WITH THE SEED: THE CARDS: each row of YtamjkbneebghmaaDoorRows.lean that lists a variable, with what it lists TIED to the program's text (the seventh form; the later family's looks); each row that meets fmt, with fmt's text TOLD by the authors' own Lean function (tested against real Go, not proved from fmt's source: count such statements apart). THE CARD IS WHAT COUNTS. Prove the row's statement (the work); the ties are given (YtamjkbneebghmaaDoorTie.lean); close each card by the builder's one call (the guide's Derived/Test/ToyasCard.lean, 'card_holds'). Laid BY PROGRAM, IN A SANDBOX (cutbox-door.mjs). By AI agents, Wed Nov 11 2026. No macro, syntax, notation, axiom, sorry.
-/
import Derived.Test.YtamjkbneebghmaaDoorRows
import GoSem.ClaimSeven
namespace Go.Proofs.YtamjkbneebghmaaDoor
namespace Rows

/-- THE TIED CARD OF 'scantlinglaw06.PrintTells'. -/
def printTellsCard : Claim7 := { stood := { row := printTellsRow, standIns := [], harness := (true, "a2ff5133958cf72a7ba4b1285571557e197266a07d3585f987753863214c4272"), looks := false }, kinds := [], alts := [], laidByText := true, laidKinds := [.data, .data, .data, .mapped], laidTests := true, laidLooks := .later }
def PrintTellsCardSaid : Prop := Claim7.holds Tryd.pinned (.plain (OpenSpec.ofChange printTellsSpec)) printTellsCard

/-- THE TIED CARD OF 'scantlinglaw06.PrintClass'. -/
def printClassCard : Claim7 := { stood := { row := printClassRow, standIns := [], harness := (true, "a2ff5133958cf72a7ba4b1285571557e197266a07d3585f987753863214c4272"), looks := false }, kinds := [], alts := [], laidByText := true, laidKinds := [.data, .data, .data, .mapped], laidTests := true, laidLooks := .later }
def PrintClassCardSaid : Prop := Claim7.holds Tryd.pinned (.plain (OpenSpec.ofChange printClassSpec)) printClassCard

/-- THE TIED CARD OF 'scantlinglaw06.PrintDeep'. -/
def printDeepCard : Claim7 := { stood := { row := printDeepRow, standIns := [], harness := (true, "a2ff5133958cf72a7ba4b1285571557e197266a07d3585f987753863214c4272"), looks := false }, kinds := [], alts := [], laidByText := true, laidKinds := [.data, .data, .data, .mapped], laidTests := true, laidLooks := .later }
def PrintDeepCardSaid : Prop := Claim7.holds Tryd.pinned (.plain (OpenSpec.ofChange printDeepSpec)) printDeepCard

/-- THE SECOND FORM's CARD OF 'scantlinglaw06.PrintTells'. -/
def printTellsUptoCard : Claim7 := { stood := { row := printTellsUptoRow, standIns := [], harness := (true, "a2ff5133958cf72a7ba4b1285571557e197266a07d3585f987753863214c4272"), looks := false }, kinds := [], alts := [], laidByText := true, laidKinds := [.data, .data, .data, .mapped], laidTests := true, laidLooks := .later }
def PrintTellsUptoCardSaid : Prop := Claim7.holds Tryd.pinned (.plain (OpenSpec.upto printTellsSpec)) printTellsUptoCard

/-- THE SECOND FORM's CARD OF 'scantlinglaw06.PrintClass'. -/
def printClassUptoCard : Claim7 := { stood := { row := printClassUptoRow, standIns := [], harness := (true, "a2ff5133958cf72a7ba4b1285571557e197266a07d3585f987753863214c4272"), looks := false }, kinds := [], alts := [], laidByText := true, laidKinds := [.data, .data, .data, .mapped], laidTests := true, laidLooks := .later }
def PrintClassUptoCardSaid : Prop := Claim7.holds Tryd.pinned (.plain (OpenSpec.upto printClassSpec)) printClassUptoCard

/-- THE SECOND FORM's CARD OF 'scantlinglaw06.PrintDeep'. -/
def printDeepUptoCard : Claim7 := { stood := { row := printDeepUptoRow, standIns := [], harness := (true, "a2ff5133958cf72a7ba4b1285571557e197266a07d3585f987753863214c4272"), looks := false }, kinds := [], alts := [], laidByText := true, laidKinds := [.data, .data, .data, .mapped], laidTests := true, laidLooks := .later }
def PrintDeepUptoCardSaid : Prop := Claim7.holds Tryd.pinned (.plain (OpenSpec.upto printDeepSpec)) printDeepUptoCard
end Rows
end Go.Proofs.YtamjkbneebghmaaDoor
