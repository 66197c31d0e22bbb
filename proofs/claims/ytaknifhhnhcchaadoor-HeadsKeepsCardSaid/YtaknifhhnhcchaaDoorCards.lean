/-
  DERIVED. GIVEN WITH THE SEED: THE CARDS: each row of YtaknifhhnhcchaaDoorRows.lean that lists a variable, with what it lists TIED to the program's text (the seventh form; the later family's looks); each row that meets fmt, with fmt's text TOLD by the authors' own Lean function (tested against real Go, not proved from fmt's source: count such statements apart). THE CARD IS WHAT COUNTS. Prove the row's statement (the work); the ties are given (YtaknifhhnhcchaaDoorTie.lean); close each card by the builder's one call (the guide's Derived/Test/ToyasCard.lean, 'card_holds'). Laid BY PROGRAM, IN A SANDBOX (cutbox-door.mjs). By AI agents, Wed Nov 11 2026. No macro, syntax, notation, axiom, sorry.
-/
import Derived.Test.YtaknifhhnhcchaaDoorRows
import GoSem.ClaimSeven
namespace Go.Proofs.YtaknifhhnhcchaaDoor
namespace Rows

/-- THE TIED CARD OF 'scantlinglaw17.SearchKeeps'. -/
def searchKeepsCard : Claim7 := { stood := { row := searchKeepsRow, standIns := [], harness := (true, "72eeb4f2be6a6e9505f0b5be9cfd7f80a1faf59d06fd093bbf557cfd768ccc3a"), looks := false }, kinds := [], alts := [], laidByText := true, laidKinds := [.data, .data, .data], laidTests := true, laidLooks := .later }
def SearchKeepsCardSaid : Prop := Claim7.holds Tryd.pinned (.plain (OpenSpec.ofChange searchKeepsSpec)) searchKeepsCard

/-- THE TIED CARD OF 'scantlinglaw14.HeadsKeeps'. -/
def headsKeepsCard : Claim7 := { stood := { row := headsKeepsRow, standIns := [], harness := (true, "72eeb4f2be6a6e9505f0b5be9cfd7f80a1faf59d06fd093bbf557cfd768ccc3a"), looks := false }, kinds := [], alts := [], laidByText := true, laidKinds := [.data, .data, .data, .data], laidTests := true, laidLooks := .later }
def HeadsKeepsCardSaid : Prop := Claim7.holds Tryd.pinned (.plain (OpenSpec.ofChange headsKeepsSpec)) headsKeepsCard

/-- THE SECOND FORM's CARD OF 'scantlinglaw17.SearchKeeps'. -/
def searchKeepsUptoCard : Claim7 := { stood := { row := searchKeepsUptoRow, standIns := [], harness := (true, "72eeb4f2be6a6e9505f0b5be9cfd7f80a1faf59d06fd093bbf557cfd768ccc3a"), looks := false }, kinds := [], alts := [], laidByText := true, laidKinds := [.data, .data, .data], laidTests := true, laidLooks := .later }
def SearchKeepsUptoCardSaid : Prop := Claim7.holds Tryd.pinned (.plain (OpenSpec.upto searchKeepsSpec)) searchKeepsUptoCard

/-- THE SECOND FORM's CARD OF 'scantlinglaw14.HeadsKeeps'. -/
def headsKeepsUptoCard : Claim7 := { stood := { row := headsKeepsUptoRow, standIns := [], harness := (true, "72eeb4f2be6a6e9505f0b5be9cfd7f80a1faf59d06fd093bbf557cfd768ccc3a"), looks := false }, kinds := [], alts := [], laidByText := true, laidKinds := [.data, .data, .data, .data], laidTests := true, laidLooks := .later }
def HeadsKeepsUptoCardSaid : Prop := Claim7.holds Tryd.pinned (.plain (OpenSpec.upto headsKeepsSpec)) headsKeepsUptoCard
end Rows
end Go.Proofs.YtaknifhhnhcchaaDoor
