/-
  DERIVED. GIVEN WITH THE SEED: THE CARDS: each row of YtahgmdbioafmbaaGreatDoorRows.lean that lists a variable, with what it lists TIED to the program's text (the seventh form; the later family's looks); each row that meets fmt, with fmt's text TOLD by the authors' own Lean function (tested against real Go, not proved from fmt's source: count such statements apart). THE CARD IS WHAT COUNTS. Prove the row's statement (the work); the ties are given (YtahgmdbioafmbaaGreatDoorTie.lean); close each card by the builder's one call (the guide's Derived/Test/ToyasCard.lean, 'card_holds'). Laid BY PROGRAM, IN A SANDBOX (cutbox-door.mjs). By AI agents, Wed Nov 11 2026. No macro, syntax, notation, axiom, sorry.
-/
import Derived.Test.YtahgmdbioafmbaaGreatDoorRows
import GoSem.ClaimSeven
namespace Go.Proofs.YtahgmdbioafmbaaGreatDoor
namespace Rows

/-- THE TIED CARD OF 'scantlinglaw16.SetsTell'. -/
def setsTellCard : Claim7 := { stood := { row := setsTellRow, standIns := [], harness := (true, "efe36d36acdddd768402be0745fa07485adc99084682e1a8060eee219b94d4e7"), looks := false }, kinds := [], alts := [], laidByText := true, laidKinds := [.data, .data, .data, .data, .funcs], laidTests := true, laidLooks := .later }
def SetsTellCardSaid : Prop := Claim7.holds Tryz.pinned (.plain (OpenSpec.ofChange setsTellSpec)) setsTellCard

/-- THE TIED CARD OF 'scantlinglaw16.SetsFollow'. -/
def setsFollowCard : Claim7 := { stood := { row := setsFollowRow, standIns := [], harness := (true, "efe36d36acdddd768402be0745fa07485adc99084682e1a8060eee219b94d4e7"), looks := false }, kinds := [], alts := [], laidByText := true, laidKinds := [.data, .data, .data, .data, .funcs], laidTests := true, laidLooks := .later }
def SetsFollowCardSaid : Prop := Claim7.holds Tryz.pinned (.plain (OpenSpec.ofChange setsFollowSpec)) setsFollowCard

/-- THE TIED CARD OF 'scantlinglaw16.SetsBytes'. -/
def setsBytesCard : Claim7 := { stood := { row := setsBytesRow, standIns := [], harness := (true, "efe36d36acdddd768402be0745fa07485adc99084682e1a8060eee219b94d4e7"), looks := false }, kinds := [], alts := [], laidByText := true, laidKinds := [.data, .data, .data, .data, .funcs], laidTests := true, laidLooks := .later }
def SetsBytesCardSaid : Prop := Claim7.holds Tryz.pinned (.plain (OpenSpec.ofChange setsBytesSpec)) setsBytesCard

/-- THE TIED CARD OF 'scantlinglaw16.SetsParts'. -/
def setsPartsCard : Claim7 := { stood := { row := setsPartsRow, standIns := [], harness := (true, "efe36d36acdddd768402be0745fa07485adc99084682e1a8060eee219b94d4e7"), looks := false }, kinds := [], alts := [], laidByText := true, laidKinds := [.data, .data, .data, .data, .funcs], laidTests := true, laidLooks := .later }
def SetsPartsCardSaid : Prop := Claim7.holds Tryz.pinned (.plain (OpenSpec.ofChange setsPartsSpec)) setsPartsCard

/-- THE TIED CARD OF 'scantlinglaw16.SetsAfter'. -/
def setsAfterCard : Claim7 := { stood := { row := setsAfterRow, standIns := [], harness := (true, "efe36d36acdddd768402be0745fa07485adc99084682e1a8060eee219b94d4e7"), looks := false }, kinds := [], alts := [], laidByText := true, laidKinds := [.data, .data, .data, .data, .funcs], laidTests := true, laidLooks := .later }
def SetsAfterCardSaid : Prop := Claim7.holds Tryz.pinned (.plain (OpenSpec.ofChange setsAfterSpec)) setsAfterCard

/-- THE TIED CARD OF 'scantlinglaw16.SetsOnce'. -/
def setsOnceCard : Claim7 := { stood := { row := setsOnceRow, standIns := [], harness := (true, "efe36d36acdddd768402be0745fa07485adc99084682e1a8060eee219b94d4e7"), looks := false }, kinds := [], alts := [], laidByText := true, laidKinds := [.data, .data, .data, .data, .funcs], laidTests := true, laidLooks := .later }
def SetsOnceCardSaid : Prop := Claim7.holds Tryz.pinned (.plain (OpenSpec.ofChange setsOnceSpec)) setsOnceCard

/-- THE TIED CARD OF 'scantlinglaw18.WordTells'. -/
def wordTellsCard : Claim7 := { stood := { row := wordTellsRow, standIns := [], harness := (true, "efe36d36acdddd768402be0745fa07485adc99084682e1a8060eee219b94d4e7"), looks := false }, kinds := [], alts := [], laidByText := true, laidKinds := [.data, .data, .data, .data, .funcs], laidTests := true, laidLooks := .later }
def WordTellsCardSaid : Prop := Claim7.holds Tryz.pinned (.plain (OpenSpec.ofChange wordTellsSpec)) wordTellsCard

/-- THE TIED CARD OF 'scantlinglaw18.WordLeast'. -/
def wordLeastCard : Claim7 := { stood := { row := wordLeastRow, standIns := [], harness := (true, "efe36d36acdddd768402be0745fa07485adc99084682e1a8060eee219b94d4e7"), looks := false }, kinds := [], alts := [], laidByText := true, laidKinds := [.data, .data, .data, .data, .funcs], laidTests := true, laidLooks := .later }
def WordLeastCardSaid : Prop := Claim7.holds Tryz.pinned (.plain (OpenSpec.ofChange wordLeastSpec)) wordLeastCard

/-- THE TIED CARD OF 'scantlinglaw18.WordBound'. -/
def wordBoundCard : Claim7 := { stood := { row := wordBoundRow, standIns := [], harness := (true, "efe36d36acdddd768402be0745fa07485adc99084682e1a8060eee219b94d4e7"), looks := false }, kinds := [], alts := [], laidByText := true, laidKinds := [.data, .data, .data, .data, .funcs], laidTests := true, laidLooks := .later }
def WordBoundCardSaid : Prop := Claim7.holds Tryz.pinned (.plain (OpenSpec.ofChange wordBoundSpec)) wordBoundCard

/-- THE SECOND FORM's CARD OF 'scantlinglaw16.SetsTell'. -/
def setsTellUptoCard : Claim7 := { stood := { row := setsTellUptoRow, standIns := [], harness := (true, "efe36d36acdddd768402be0745fa07485adc99084682e1a8060eee219b94d4e7"), looks := false }, kinds := [], alts := [], laidByText := true, laidKinds := [.data, .data, .data, .data, .funcs], laidTests := true, laidLooks := .later }
def SetsTellUptoCardSaid : Prop := Claim7.holds Tryz.pinned (.plain (OpenSpec.upto setsTellSpec)) setsTellUptoCard

/-- THE SECOND FORM's CARD OF 'scantlinglaw16.SetsFollow'. -/
def setsFollowUptoCard : Claim7 := { stood := { row := setsFollowUptoRow, standIns := [], harness := (true, "efe36d36acdddd768402be0745fa07485adc99084682e1a8060eee219b94d4e7"), looks := false }, kinds := [], alts := [], laidByText := true, laidKinds := [.data, .data, .data, .data, .funcs], laidTests := true, laidLooks := .later }
def SetsFollowUptoCardSaid : Prop := Claim7.holds Tryz.pinned (.plain (OpenSpec.upto setsFollowSpec)) setsFollowUptoCard

/-- THE SECOND FORM's CARD OF 'scantlinglaw16.SetsBytes'. -/
def setsBytesUptoCard : Claim7 := { stood := { row := setsBytesUptoRow, standIns := [], harness := (true, "efe36d36acdddd768402be0745fa07485adc99084682e1a8060eee219b94d4e7"), looks := false }, kinds := [], alts := [], laidByText := true, laidKinds := [.data, .data, .data, .data, .funcs], laidTests := true, laidLooks := .later }
def SetsBytesUptoCardSaid : Prop := Claim7.holds Tryz.pinned (.plain (OpenSpec.upto setsBytesSpec)) setsBytesUptoCard

/-- THE SECOND FORM's CARD OF 'scantlinglaw16.SetsParts'. -/
def setsPartsUptoCard : Claim7 := { stood := { row := setsPartsUptoRow, standIns := [], harness := (true, "efe36d36acdddd768402be0745fa07485adc99084682e1a8060eee219b94d4e7"), looks := false }, kinds := [], alts := [], laidByText := true, laidKinds := [.data, .data, .data, .data, .funcs], laidTests := true, laidLooks := .later }
def SetsPartsUptoCardSaid : Prop := Claim7.holds Tryz.pinned (.plain (OpenSpec.upto setsPartsSpec)) setsPartsUptoCard

/-- THE SECOND FORM's CARD OF 'scantlinglaw16.SetsAfter'. -/
def setsAfterUptoCard : Claim7 := { stood := { row := setsAfterUptoRow, standIns := [], harness := (true, "efe36d36acdddd768402be0745fa07485adc99084682e1a8060eee219b94d4e7"), looks := false }, kinds := [], alts := [], laidByText := true, laidKinds := [.data, .data, .data, .data, .funcs], laidTests := true, laidLooks := .later }
def SetsAfterUptoCardSaid : Prop := Claim7.holds Tryz.pinned (.plain (OpenSpec.upto setsAfterSpec)) setsAfterUptoCard

/-- THE SECOND FORM's CARD OF 'scantlinglaw16.SetsOnce'. -/
def setsOnceUptoCard : Claim7 := { stood := { row := setsOnceUptoRow, standIns := [], harness := (true, "efe36d36acdddd768402be0745fa07485adc99084682e1a8060eee219b94d4e7"), looks := false }, kinds := [], alts := [], laidByText := true, laidKinds := [.data, .data, .data, .data, .funcs], laidTests := true, laidLooks := .later }
def SetsOnceUptoCardSaid : Prop := Claim7.holds Tryz.pinned (.plain (OpenSpec.upto setsOnceSpec)) setsOnceUptoCard

/-- THE SECOND FORM's CARD OF 'scantlinglaw18.WordTells'. -/
def wordTellsUptoCard : Claim7 := { stood := { row := wordTellsUptoRow, standIns := [], harness := (true, "efe36d36acdddd768402be0745fa07485adc99084682e1a8060eee219b94d4e7"), looks := false }, kinds := [], alts := [], laidByText := true, laidKinds := [.data, .data, .data, .data, .funcs], laidTests := true, laidLooks := .later }
def WordTellsUptoCardSaid : Prop := Claim7.holds Tryz.pinned (.plain (OpenSpec.upto wordTellsSpec)) wordTellsUptoCard

/-- THE SECOND FORM's CARD OF 'scantlinglaw18.WordLeast'. -/
def wordLeastUptoCard : Claim7 := { stood := { row := wordLeastUptoRow, standIns := [], harness := (true, "efe36d36acdddd768402be0745fa07485adc99084682e1a8060eee219b94d4e7"), looks := false }, kinds := [], alts := [], laidByText := true, laidKinds := [.data, .data, .data, .data, .funcs], laidTests := true, laidLooks := .later }
def WordLeastUptoCardSaid : Prop := Claim7.holds Tryz.pinned (.plain (OpenSpec.upto wordLeastSpec)) wordLeastUptoCard

/-- THE SECOND FORM's CARD OF 'scantlinglaw18.WordBound'. -/
def wordBoundUptoCard : Claim7 := { stood := { row := wordBoundUptoRow, standIns := [], harness := (true, "efe36d36acdddd768402be0745fa07485adc99084682e1a8060eee219b94d4e7"), looks := false }, kinds := [], alts := [], laidByText := true, laidKinds := [.data, .data, .data, .data, .funcs], laidTests := true, laidLooks := .later }
def WordBoundUptoCardSaid : Prop := Claim7.holds Tryz.pinned (.plain (OpenSpec.upto wordBoundSpec)) wordBoundUptoCard
end Rows
end Go.Proofs.YtahgmdbioafmbaaGreatDoor
