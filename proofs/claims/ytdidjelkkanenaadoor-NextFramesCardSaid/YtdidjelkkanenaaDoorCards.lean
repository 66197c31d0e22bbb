/-
  DERIVED. GIVEN WITH THE SEED: THE CARDS: each row of YtdidjelkkanenaaDoorRows.lean that lists a variable, with what it lists TIED to the program's text (the seventh form; the later family's looks); each row that meets fmt, with fmt's text TOLD by the authors' own Lean function (tested against real Go, not proved from fmt's source: count such statements apart). THE CARD IS WHAT COUNTS. Prove the row's statement (the work); the ties are given (YtdidjelkkanenaaDoorTie.lean); close each card by the builder's one call (the guide's Derived/Test/ToyasCard.lean, 'card_holds'). Laid BY PROGRAM, IN A SANDBOX (cutbox-door.mjs). By AI agents, Wed Nov 11 2026. No macro, syntax, notation, axiom, sorry.
-/
import Derived.Test.YtdidjelkkanenaaDoorRows
import GoSem.ClaimSeven
namespace Go.Proofs.YtdidjelkkanenaaDoor
namespace Rows

/-- THE TIED CARD OF 'scantlinglaw14.HeadsTells'. -/
def headsTellsCard : Claim7 := { stood := { row := headsTellsRow, standIns := [], harness := (true, "07ccf0e29a1c23fbf2512fd6f8d6e2236f502b4462c8fc143fadb93a20b519df"), looks := false }, kinds := [], alts := [], laidByText := true, laidKinds := [.data, .data, .data, .data], laidTests := true, laidLooks := .later }
def HeadsTellsCardSaid : Prop := Claim7.holds Tryd.pinned (.plain (OpenSpec.ofChange headsTellsSpec)) headsTellsCard

/-- THE TIED CARD OF 'scantlinglaw14.HeadsReady'. -/
def headsReadyCard : Claim7 := { stood := { row := headsReadyRow, standIns := [], harness := (true, "07ccf0e29a1c23fbf2512fd6f8d6e2236f502b4462c8fc143fadb93a20b519df"), looks := false }, kinds := [], alts := [], laidByText := true, laidKinds := [.data, .data, .data, .data], laidTests := true, laidLooks := .later }
def HeadsReadyCardSaid : Prop := Claim7.holds Tryd.pinned (.plain (OpenSpec.ofChange headsReadySpec)) headsReadyCard

/-- THE TIED CARD OF 'scantlinglaw14.HeadsOpen'. -/
def headsOpenCard : Claim7 := { stood := { row := headsOpenRow, standIns := [], harness := (true, "07ccf0e29a1c23fbf2512fd6f8d6e2236f502b4462c8fc143fadb93a20b519df"), looks := false }, kinds := [], alts := [], laidByText := true, laidKinds := [.data, .data, .data, .data], laidTests := true, laidLooks := .later }
def HeadsOpenCardSaid : Prop := Claim7.holds Tryd.pinned (.plain (OpenSpec.ofChange headsOpenSpec)) headsOpenCard

/-- THE TIED CARD OF 'scantlinglaw14.HeadsKeeps'. -/
def headsKeepsCard : Claim7 := { stood := { row := headsKeepsRow, standIns := [], harness := (true, "07ccf0e29a1c23fbf2512fd6f8d6e2236f502b4462c8fc143fadb93a20b519df"), looks := false }, kinds := [], alts := [], laidByText := true, laidKinds := [.data, .data, .data, .data], laidTests := true, laidLooks := .later }
def HeadsKeepsCardSaid : Prop := Claim7.holds Tryd.pinned (.plain (OpenSpec.ofChange headsKeepsSpec)) headsKeepsCard

/-- THE TIED CARD OF 'scantlinglaw14.HeadsWays'. -/
def headsWaysCard : Claim7 := { stood := { row := headsWaysRow, standIns := [], harness := (true, "07ccf0e29a1c23fbf2512fd6f8d6e2236f502b4462c8fc143fadb93a20b519df"), looks := false }, kinds := [], alts := [], laidByText := true, laidKinds := [.data, .data, .data, .data], laidTests := true, laidLooks := .later }
def HeadsWaysCardSaid : Prop := Claim7.holds Tryd.pinned (.plain (OpenSpec.ofChange headsWaysSpec)) headsWaysCard

/-- THE TIED CARD OF 'scantlinglaw15.NextReads'. -/
def nextReadsCard : Claim7 := { stood := { row := nextReadsRow, standIns := [], harness := (true, "07ccf0e29a1c23fbf2512fd6f8d6e2236f502b4462c8fc143fadb93a20b519df"), looks := false }, kinds := [], alts := [], laidByText := true, laidKinds := [.data, .data, .data, .data, .funcs], laidTests := true, laidLooks := .later }
def NextReadsCardSaid : Prop := Claim7.holds Tryd.pinned (.plain (OpenSpec.ofChange nextReadsSpec)) nextReadsCard

/-- THE TIED CARD OF 'scantlinglaw15.NextClasses'. -/
def nextClassesCard : Claim7 := { stood := { row := nextClassesRow, standIns := [], harness := (true, "07ccf0e29a1c23fbf2512fd6f8d6e2236f502b4462c8fc143fadb93a20b519df"), looks := false }, kinds := [], alts := [], laidByText := true, laidKinds := [.data, .data, .data, .data, .funcs], laidTests := true, laidLooks := .later }
def NextClassesCardSaid : Prop := Claim7.holds Tryd.pinned (.plain (OpenSpec.ofChange nextClassesSpec)) nextClassesCard

/-- THE TIED CARD OF 'scantlinglaw15.NextForms'. -/
def nextFormsCard : Claim7 := { stood := { row := nextFormsRow, standIns := [], harness := (true, "07ccf0e29a1c23fbf2512fd6f8d6e2236f502b4462c8fc143fadb93a20b519df"), looks := false }, kinds := [], alts := [], laidByText := true, laidKinds := [.data, .data, .data, .data, .funcs], laidTests := true, laidLooks := .later }
def NextFormsCardSaid : Prop := Claim7.holds Tryd.pinned (.plain (OpenSpec.ofChange nextFormsSpec)) nextFormsCard

/-- THE TIED CARD OF 'scantlinglaw15.NextFrames'. -/
def nextFramesCard : Claim7 := { stood := { row := nextFramesRow, standIns := [], harness := (true, "07ccf0e29a1c23fbf2512fd6f8d6e2236f502b4462c8fc143fadb93a20b519df"), looks := false }, kinds := [], alts := [], laidByText := true, laidKinds := [.data, .data, .data, .data, .funcs], laidTests := true, laidLooks := .later }
def NextFramesCardSaid : Prop := Claim7.holds Tryd.pinned (.plain (OpenSpec.ofChange nextFramesSpec)) nextFramesCard

/-- THE SECOND FORM's CARD OF 'scantlinglaw14.HeadsTells'. -/
def headsTellsUptoCard : Claim7 := { stood := { row := headsTellsUptoRow, standIns := [], harness := (true, "07ccf0e29a1c23fbf2512fd6f8d6e2236f502b4462c8fc143fadb93a20b519df"), looks := false }, kinds := [], alts := [], laidByText := true, laidKinds := [.data, .data, .data, .data], laidTests := true, laidLooks := .later }
def HeadsTellsUptoCardSaid : Prop := Claim7.holds Tryd.pinned (.plain (OpenSpec.upto headsTellsSpec)) headsTellsUptoCard

/-- THE SECOND FORM's CARD OF 'scantlinglaw14.HeadsReady'. -/
def headsReadyUptoCard : Claim7 := { stood := { row := headsReadyUptoRow, standIns := [], harness := (true, "07ccf0e29a1c23fbf2512fd6f8d6e2236f502b4462c8fc143fadb93a20b519df"), looks := false }, kinds := [], alts := [], laidByText := true, laidKinds := [.data, .data, .data, .data], laidTests := true, laidLooks := .later }
def HeadsReadyUptoCardSaid : Prop := Claim7.holds Tryd.pinned (.plain (OpenSpec.upto headsReadySpec)) headsReadyUptoCard

/-- THE SECOND FORM's CARD OF 'scantlinglaw14.HeadsOpen'. -/
def headsOpenUptoCard : Claim7 := { stood := { row := headsOpenUptoRow, standIns := [], harness := (true, "07ccf0e29a1c23fbf2512fd6f8d6e2236f502b4462c8fc143fadb93a20b519df"), looks := false }, kinds := [], alts := [], laidByText := true, laidKinds := [.data, .data, .data, .data], laidTests := true, laidLooks := .later }
def HeadsOpenUptoCardSaid : Prop := Claim7.holds Tryd.pinned (.plain (OpenSpec.upto headsOpenSpec)) headsOpenUptoCard

/-- THE SECOND FORM's CARD OF 'scantlinglaw14.HeadsKeeps'. -/
def headsKeepsUptoCard : Claim7 := { stood := { row := headsKeepsUptoRow, standIns := [], harness := (true, "07ccf0e29a1c23fbf2512fd6f8d6e2236f502b4462c8fc143fadb93a20b519df"), looks := false }, kinds := [], alts := [], laidByText := true, laidKinds := [.data, .data, .data, .data], laidTests := true, laidLooks := .later }
def HeadsKeepsUptoCardSaid : Prop := Claim7.holds Tryd.pinned (.plain (OpenSpec.upto headsKeepsSpec)) headsKeepsUptoCard

/-- THE SECOND FORM's CARD OF 'scantlinglaw14.HeadsWays'. -/
def headsWaysUptoCard : Claim7 := { stood := { row := headsWaysUptoRow, standIns := [], harness := (true, "07ccf0e29a1c23fbf2512fd6f8d6e2236f502b4462c8fc143fadb93a20b519df"), looks := false }, kinds := [], alts := [], laidByText := true, laidKinds := [.data, .data, .data, .data], laidTests := true, laidLooks := .later }
def HeadsWaysUptoCardSaid : Prop := Claim7.holds Tryd.pinned (.plain (OpenSpec.upto headsWaysSpec)) headsWaysUptoCard

/-- THE SECOND FORM's CARD OF 'scantlinglaw15.NextReads'. -/
def nextReadsUptoCard : Claim7 := { stood := { row := nextReadsUptoRow, standIns := [], harness := (true, "07ccf0e29a1c23fbf2512fd6f8d6e2236f502b4462c8fc143fadb93a20b519df"), looks := false }, kinds := [], alts := [], laidByText := true, laidKinds := [.data, .data, .data, .data, .funcs], laidTests := true, laidLooks := .later }
def NextReadsUptoCardSaid : Prop := Claim7.holds Tryd.pinned (.plain (OpenSpec.upto nextReadsSpec)) nextReadsUptoCard

/-- THE SECOND FORM's CARD OF 'scantlinglaw15.NextClasses'. -/
def nextClassesUptoCard : Claim7 := { stood := { row := nextClassesUptoRow, standIns := [], harness := (true, "07ccf0e29a1c23fbf2512fd6f8d6e2236f502b4462c8fc143fadb93a20b519df"), looks := false }, kinds := [], alts := [], laidByText := true, laidKinds := [.data, .data, .data, .data, .funcs], laidTests := true, laidLooks := .later }
def NextClassesUptoCardSaid : Prop := Claim7.holds Tryd.pinned (.plain (OpenSpec.upto nextClassesSpec)) nextClassesUptoCard

/-- THE SECOND FORM's CARD OF 'scantlinglaw15.NextForms'. -/
def nextFormsUptoCard : Claim7 := { stood := { row := nextFormsUptoRow, standIns := [], harness := (true, "07ccf0e29a1c23fbf2512fd6f8d6e2236f502b4462c8fc143fadb93a20b519df"), looks := false }, kinds := [], alts := [], laidByText := true, laidKinds := [.data, .data, .data, .data, .funcs], laidTests := true, laidLooks := .later }
def NextFormsUptoCardSaid : Prop := Claim7.holds Tryd.pinned (.plain (OpenSpec.upto nextFormsSpec)) nextFormsUptoCard

/-- THE SECOND FORM's CARD OF 'scantlinglaw15.NextFrames'. -/
def nextFramesUptoCard : Claim7 := { stood := { row := nextFramesUptoRow, standIns := [], harness := (true, "07ccf0e29a1c23fbf2512fd6f8d6e2236f502b4462c8fc143fadb93a20b519df"), looks := false }, kinds := [], alts := [], laidByText := true, laidKinds := [.data, .data, .data, .data, .funcs], laidTests := true, laidLooks := .later }
def NextFramesUptoCardSaid : Prop := Claim7.holds Tryd.pinned (.plain (OpenSpec.upto nextFramesSpec)) nextFramesUptoCard
end Rows
end Go.Proofs.YtdidjelkkanenaaDoor
