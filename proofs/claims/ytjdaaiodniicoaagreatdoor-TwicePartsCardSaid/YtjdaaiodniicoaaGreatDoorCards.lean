/-
  DERIVED. GIVEN WITH THE SEED: THE CARDS: each row of YtjdaaiodniicoaaGreatDoorRows.lean that lists a variable, with what it lists TIED to the program's text (the seventh form; the later family's looks); each row that meets fmt, with fmt's text TOLD by the authors' own Lean function (tested against real Go, not proved from fmt's source: count such statements apart). THE CARD IS WHAT COUNTS. Prove the row's statement (the work); the ties are given (YtjdaaiodniicoaaGreatDoorTie.lean); close each card by the builder's one call (the guide's Derived/Test/ToyasCard.lean, 'card_holds'). Laid BY PROGRAM, IN A SANDBOX (cutbox-door.mjs). By AI agents, Wed Nov 11 2026. No macro, syntax, notation, axiom, sorry.
-/
import Derived.Test.YtjdaaiodniicoaaGreatDoorRows
import GoSem.ClaimSeven
namespace Go.Proofs.YtjdaaiodniicoaaGreatDoor
namespace Rows

/-- THE TIED CARD OF 'scantlinglaw22.ApartParts'. -/
def apartPartsCard : Claim7 := { stood := { row := apartPartsRow, standIns := [], harness := (true, "c2d6e30f7f447a58a24747c99b81e6cb2e1f87869e308aae90b19226eab167a0"), looks := false }, kinds := [], alts := [], laidByText := true, laidKinds := [.data, .data, .data, .data, .funcs], laidTests := true, laidLooks := .later }
def ApartPartsCardSaid : Prop := Claim7.holds Tryz.pinned (.plain (OpenSpec.ofChange apartPartsSpec)) apartPartsCard

/-- THE TIED CARD OF 'scantlinglaw20.TwiceParts'. -/
def twicePartsCard : Claim7 := { stood := { row := twicePartsRow, standIns := [], harness := (true, "c2d6e30f7f447a58a24747c99b81e6cb2e1f87869e308aae90b19226eab167a0"), looks := false }, kinds := [], alts := [], laidByText := true, laidKinds := [.data, .data, .data, .data, .funcs], laidTests := true, laidLooks := .later }
def TwicePartsCardSaid : Prop := Claim7.holds Tryz.pinned (.plain (OpenSpec.ofChange twicePartsSpec)) twicePartsCard

/-- THE TIED CARD OF 'scantlinglaw20.TwiceBuilt'. -/
def twiceBuiltCard : Claim7 := { stood := { row := twiceBuiltRow, standIns := [], harness := (true, "c2d6e30f7f447a58a24747c99b81e6cb2e1f87869e308aae90b19226eab167a0"), looks := false }, kinds := [], alts := [], laidByText := true, laidKinds := [.data, .data, .data, .data, .funcs], laidTests := true, laidLooks := .later }
def TwiceBuiltCardSaid : Prop := Claim7.holds Tryz.pinned (.plain (OpenSpec.ofChange twiceBuiltSpec)) twiceBuiltCard

/-- THE TIED CARD OF 'scantlinglaw20.TwiceBound'. -/
def twiceBoundCard : Claim7 := { stood := { row := twiceBoundRow, standIns := [], harness := (true, "c2d6e30f7f447a58a24747c99b81e6cb2e1f87869e308aae90b19226eab167a0"), looks := false }, kinds := [], alts := [], laidByText := true, laidKinds := [.data, .data, .data, .data, .funcs], laidTests := true, laidLooks := .later }
def TwiceBoundCardSaid : Prop := Claim7.holds Tryz.pinned (.plain (OpenSpec.ofChange twiceBoundSpec)) twiceBoundCard

/-- THE TIED CARD OF 'scantlinglaw21.PrefixBuilt'. -/
def prefixBuiltCard : Claim7 := { stood := { row := prefixBuiltRow, standIns := [], harness := (true, "c2d6e30f7f447a58a24747c99b81e6cb2e1f87869e308aae90b19226eab167a0"), looks := false }, kinds := [], alts := [], laidByText := true, laidKinds := [.data, .data, .data, .data, .funcs], laidTests := true, laidLooks := .later }
def PrefixBuiltCardSaid : Prop := Claim7.holds Tryz.pinned (.plain (OpenSpec.ofChange prefixBuiltSpec)) prefixBuiltCard

/-- THE TIED CARD OF 'scantlinglaw21.PrefixCut'. -/
def prefixCutCard : Claim7 := { stood := { row := prefixCutRow, standIns := [], harness := (true, "c2d6e30f7f447a58a24747c99b81e6cb2e1f87869e308aae90b19226eab167a0"), looks := false }, kinds := [], alts := [], laidByText := true, laidKinds := [.data, .data, .data, .data, .funcs], laidTests := true, laidLooks := .later }
def PrefixCutCardSaid : Prop := Claim7.holds Tryz.pinned (.plain (OpenSpec.ofChange prefixCutSpec)) prefixCutCard

/-- THE TIED CARD OF 'scantlinglaw21.PrefixBound'. -/
def prefixBoundCard : Claim7 := { stood := { row := prefixBoundRow, standIns := [], harness := (true, "c2d6e30f7f447a58a24747c99b81e6cb2e1f87869e308aae90b19226eab167a0"), looks := false }, kinds := [], alts := [], laidByText := true, laidKinds := [.data, .data, .data, .data, .funcs], laidTests := true, laidLooks := .later }
def PrefixBoundCardSaid : Prop := Claim7.holds Tryz.pinned (.plain (OpenSpec.ofChange prefixBoundSpec)) prefixBoundCard

/-- THE TIED CARD OF 'scantlinglaw21.PrefixTells'. -/
def prefixTellsCard : Claim7 := { stood := { row := prefixTellsRow, standIns := [], harness := (true, "c2d6e30f7f447a58a24747c99b81e6cb2e1f87869e308aae90b19226eab167a0"), looks := false }, kinds := [], alts := [], laidByText := true, laidKinds := [.data, .data, .data, .data, .funcs], laidTests := true, laidLooks := .later }
def PrefixTellsCardSaid : Prop := Claim7.holds Tryz.pinned (.plain (OpenSpec.ofChange prefixTellsSpec)) prefixTellsCard

/-- THE TIED CARD OF 'scantlinglaw22.ApartBound'. -/
def apartBoundCard : Claim7 := { stood := { row := apartBoundRow, standIns := [], harness := (true, "c2d6e30f7f447a58a24747c99b81e6cb2e1f87869e308aae90b19226eab167a0"), looks := false }, kinds := [], alts := [], laidByText := true, laidKinds := [.data, .data, .data, .data, .funcs], laidTests := true, laidLooks := .later }
def ApartBoundCardSaid : Prop := Claim7.holds Tryz.pinned (.plain (OpenSpec.ofChange apartBoundSpec)) apartBoundCard

/-- THE SECOND FORM's CARD OF 'scantlinglaw22.ApartParts'. -/
def apartPartsUptoCard : Claim7 := { stood := { row := apartPartsUptoRow, standIns := [], harness := (true, "c2d6e30f7f447a58a24747c99b81e6cb2e1f87869e308aae90b19226eab167a0"), looks := false }, kinds := [], alts := [], laidByText := true, laidKinds := [.data, .data, .data, .data, .funcs], laidTests := true, laidLooks := .later }
def ApartPartsUptoCardSaid : Prop := Claim7.holds Tryz.pinned (.plain (OpenSpec.upto apartPartsSpec)) apartPartsUptoCard

/-- THE SECOND FORM's CARD OF 'scantlinglaw20.TwiceParts'. -/
def twicePartsUptoCard : Claim7 := { stood := { row := twicePartsUptoRow, standIns := [], harness := (true, "c2d6e30f7f447a58a24747c99b81e6cb2e1f87869e308aae90b19226eab167a0"), looks := false }, kinds := [], alts := [], laidByText := true, laidKinds := [.data, .data, .data, .data, .funcs], laidTests := true, laidLooks := .later }
def TwicePartsUptoCardSaid : Prop := Claim7.holds Tryz.pinned (.plain (OpenSpec.upto twicePartsSpec)) twicePartsUptoCard

/-- THE SECOND FORM's CARD OF 'scantlinglaw20.TwiceBuilt'. -/
def twiceBuiltUptoCard : Claim7 := { stood := { row := twiceBuiltUptoRow, standIns := [], harness := (true, "c2d6e30f7f447a58a24747c99b81e6cb2e1f87869e308aae90b19226eab167a0"), looks := false }, kinds := [], alts := [], laidByText := true, laidKinds := [.data, .data, .data, .data, .funcs], laidTests := true, laidLooks := .later }
def TwiceBuiltUptoCardSaid : Prop := Claim7.holds Tryz.pinned (.plain (OpenSpec.upto twiceBuiltSpec)) twiceBuiltUptoCard

/-- THE SECOND FORM's CARD OF 'scantlinglaw20.TwiceBound'. -/
def twiceBoundUptoCard : Claim7 := { stood := { row := twiceBoundUptoRow, standIns := [], harness := (true, "c2d6e30f7f447a58a24747c99b81e6cb2e1f87869e308aae90b19226eab167a0"), looks := false }, kinds := [], alts := [], laidByText := true, laidKinds := [.data, .data, .data, .data, .funcs], laidTests := true, laidLooks := .later }
def TwiceBoundUptoCardSaid : Prop := Claim7.holds Tryz.pinned (.plain (OpenSpec.upto twiceBoundSpec)) twiceBoundUptoCard

/-- THE SECOND FORM's CARD OF 'scantlinglaw21.PrefixBuilt'. -/
def prefixBuiltUptoCard : Claim7 := { stood := { row := prefixBuiltUptoRow, standIns := [], harness := (true, "c2d6e30f7f447a58a24747c99b81e6cb2e1f87869e308aae90b19226eab167a0"), looks := false }, kinds := [], alts := [], laidByText := true, laidKinds := [.data, .data, .data, .data, .funcs], laidTests := true, laidLooks := .later }
def PrefixBuiltUptoCardSaid : Prop := Claim7.holds Tryz.pinned (.plain (OpenSpec.upto prefixBuiltSpec)) prefixBuiltUptoCard

/-- THE SECOND FORM's CARD OF 'scantlinglaw21.PrefixCut'. -/
def prefixCutUptoCard : Claim7 := { stood := { row := prefixCutUptoRow, standIns := [], harness := (true, "c2d6e30f7f447a58a24747c99b81e6cb2e1f87869e308aae90b19226eab167a0"), looks := false }, kinds := [], alts := [], laidByText := true, laidKinds := [.data, .data, .data, .data, .funcs], laidTests := true, laidLooks := .later }
def PrefixCutUptoCardSaid : Prop := Claim7.holds Tryz.pinned (.plain (OpenSpec.upto prefixCutSpec)) prefixCutUptoCard

/-- THE SECOND FORM's CARD OF 'scantlinglaw21.PrefixBound'. -/
def prefixBoundUptoCard : Claim7 := { stood := { row := prefixBoundUptoRow, standIns := [], harness := (true, "c2d6e30f7f447a58a24747c99b81e6cb2e1f87869e308aae90b19226eab167a0"), looks := false }, kinds := [], alts := [], laidByText := true, laidKinds := [.data, .data, .data, .data, .funcs], laidTests := true, laidLooks := .later }
def PrefixBoundUptoCardSaid : Prop := Claim7.holds Tryz.pinned (.plain (OpenSpec.upto prefixBoundSpec)) prefixBoundUptoCard

/-- THE SECOND FORM's CARD OF 'scantlinglaw21.PrefixTells'. -/
def prefixTellsUptoCard : Claim7 := { stood := { row := prefixTellsUptoRow, standIns := [], harness := (true, "c2d6e30f7f447a58a24747c99b81e6cb2e1f87869e308aae90b19226eab167a0"), looks := false }, kinds := [], alts := [], laidByText := true, laidKinds := [.data, .data, .data, .data, .funcs], laidTests := true, laidLooks := .later }
def PrefixTellsUptoCardSaid : Prop := Claim7.holds Tryz.pinned (.plain (OpenSpec.upto prefixTellsSpec)) prefixTellsUptoCard

/-- THE SECOND FORM's CARD OF 'scantlinglaw22.ApartBound'. -/
def apartBoundUptoCard : Claim7 := { stood := { row := apartBoundUptoRow, standIns := [], harness := (true, "c2d6e30f7f447a58a24747c99b81e6cb2e1f87869e308aae90b19226eab167a0"), looks := false }, kinds := [], alts := [], laidByText := true, laidKinds := [.data, .data, .data, .data, .funcs], laidTests := true, laidLooks := .later }
def ApartBoundUptoCardSaid : Prop := Claim7.holds Tryz.pinned (.plain (OpenSpec.upto apartBoundSpec)) apartBoundUptoCard
end Rows
end Go.Proofs.YtjdaaiodniicoaaGreatDoor
