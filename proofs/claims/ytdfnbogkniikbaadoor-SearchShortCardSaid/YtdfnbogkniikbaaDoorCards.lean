/-
  DERIVED. GIVEN WITH THE SEED: THE CARDS: each row of YtdfnbogkniikbaaDoorRows.lean that lists a variable, with what it lists TIED to the program's text (the seventh form; the later family's looks); each row that meets fmt, with fmt's text TOLD by the authors' own Lean function (tested against real Go, not proved from fmt's source: count such statements apart). THE CARD IS WHAT COUNTS. Prove the row's statement (the work); the ties are given (YtdfnbogkniikbaaDoorTie.lean); close each card by the builder's one call (the guide's Derived/Test/ToyasCard.lean, 'card_holds'). Laid BY PROGRAM, IN A SANDBOX (cutbox-door.mjs). By AI agents, Wed Nov 11 2026. No macro, syntax, notation, axiom, sorry.
-/
import Derived.Test.YtdfnbogkniikbaaDoorRows
import GoSem.ClaimSeven
namespace Go.Proofs.YtdfnbogkniikbaaDoor
namespace Rows

/-- THE TIED CARD OF 'scantlinglaw13.ItemTells'. -/
def itemTellsCard : Claim7 := { stood := { row := itemTellsRow, standIns := [], harness := (true, "aa5f2cb85accade2e949b9f94d0579b91f3bcab757f0e828963dd5b1627d8e9b"), looks := false }, kinds := [], alts := [], laidByText := true, laidKinds := [.data, .data, .data], laidTests := true, laidLooks := .later }
def ItemTellsCardSaid : Prop := Claim7.holds Tryd.pinned (.plain (OpenSpec.ofChange itemTellsSpec)) itemTellsCard

/-- THE TIED CARD OF 'scantlinglaw13.ItemOrder'. -/
def itemOrderCard : Claim7 := { stood := { row := itemOrderRow, standIns := [], harness := (true, "aa5f2cb85accade2e949b9f94d0579b91f3bcab757f0e828963dd5b1627d8e9b"), looks := false }, kinds := [], alts := [], laidByText := true, laidKinds := [.data, .data, .data], laidTests := true, laidLooks := .later }
def ItemOrderCardSaid : Prop := Claim7.holds Tryd.pinned (.plain (OpenSpec.ofChange itemOrderSpec)) itemOrderCard

/-- THE TIED CARD OF 'scantlinglaw13.ItemLowers'. -/
def itemLowersCard : Claim7 := { stood := { row := itemLowersRow, standIns := [], harness := (true, "aa5f2cb85accade2e949b9f94d0579b91f3bcab757f0e828963dd5b1627d8e9b"), looks := false }, kinds := [], alts := [], laidByText := true, laidKinds := [.data, .data, .data], laidTests := true, laidLooks := .later }
def ItemLowersCardSaid : Prop := Claim7.holds Tryd.pinned (.plain (OpenSpec.ofChange itemLowersSpec)) itemLowersCard

/-- THE TIED CARD OF 'scantlinglaw13.ItemKeeps'. -/
def itemKeepsCard : Claim7 := { stood := { row := itemKeepsRow, standIns := [], harness := (true, "aa5f2cb85accade2e949b9f94d0579b91f3bcab757f0e828963dd5b1627d8e9b"), looks := false }, kinds := [], alts := [], laidByText := true, laidKinds := [.data, .data, .data], laidTests := true, laidLooks := .later }
def ItemKeepsCardSaid : Prop := Claim7.holds Tryd.pinned (.plain (OpenSpec.ofChange itemKeepsSpec)) itemKeepsCard

/-- THE TIED CARD OF 'scantlinglaw13.ItemForms'. -/
def itemFormsCard : Claim7 := { stood := { row := itemFormsRow, standIns := [], harness := (true, "aa5f2cb85accade2e949b9f94d0579b91f3bcab757f0e828963dd5b1627d8e9b"), looks := false }, kinds := [], alts := [], laidByText := true, laidKinds := [.data, .data, .data], laidTests := true, laidLooks := .later }
def ItemFormsCardSaid : Prop := Claim7.holds Tryd.pinned (.plain (OpenSpec.ofChange itemFormsSpec)) itemFormsCard

/-- THE TIED CARD OF 'scantlinglaw17.SearchFinds'. -/
def searchFindsCard : Claim7 := { stood := { row := searchFindsRow, standIns := [], harness := (true, "aa5f2cb85accade2e949b9f94d0579b91f3bcab757f0e828963dd5b1627d8e9b"), looks := false }, kinds := [], alts := [], laidByText := true, laidKinds := [.data, .data, .data], laidTests := true, laidLooks := .later }
def SearchFindsCardSaid : Prop := Claim7.holds Tryd.pinned (.plain (OpenSpec.ofChange searchFindsSpec)) searchFindsCard

/-- THE TIED CARD OF 'scantlinglaw17.SearchShort'. -/
def searchShortCard : Claim7 := { stood := { row := searchShortRow, standIns := [], harness := (true, "aa5f2cb85accade2e949b9f94d0579b91f3bcab757f0e828963dd5b1627d8e9b"), looks := false }, kinds := [], alts := [], laidByText := true, laidKinds := [.data, .data, .data], laidTests := true, laidLooks := .later }
def SearchShortCardSaid : Prop := Claim7.holds Tryd.pinned (.plain (OpenSpec.ofChange searchShortSpec)) searchShortCard

/-- THE TIED CARD OF 'scantlinglaw17.SearchKeeps'. -/
def searchKeepsCard : Claim7 := { stood := { row := searchKeepsRow, standIns := [], harness := (true, "aa5f2cb85accade2e949b9f94d0579b91f3bcab757f0e828963dd5b1627d8e9b"), looks := false }, kinds := [], alts := [], laidByText := true, laidKinds := [.data, .data, .data], laidTests := true, laidLooks := .later }
def SearchKeepsCardSaid : Prop := Claim7.holds Tryd.pinned (.plain (OpenSpec.ofChange searchKeepsSpec)) searchKeepsCard

/-- THE TIED CARD OF 'scantlinglaw17.SearchOrder'. -/
def searchOrderCard : Claim7 := { stood := { row := searchOrderRow, standIns := [], harness := (true, "aa5f2cb85accade2e949b9f94d0579b91f3bcab757f0e828963dd5b1627d8e9b"), looks := false }, kinds := [], alts := [], laidByText := true, laidKinds := [.data, .data, .data], laidTests := true, laidLooks := .later }
def SearchOrderCardSaid : Prop := Claim7.holds Tryd.pinned (.plain (OpenSpec.ofChange searchOrderSpec)) searchOrderCard

/-- THE SECOND FORM's CARD OF 'scantlinglaw13.ItemTells'. -/
def itemTellsUptoCard : Claim7 := { stood := { row := itemTellsUptoRow, standIns := [], harness := (true, "aa5f2cb85accade2e949b9f94d0579b91f3bcab757f0e828963dd5b1627d8e9b"), looks := false }, kinds := [], alts := [], laidByText := true, laidKinds := [.data, .data, .data], laidTests := true, laidLooks := .later }
def ItemTellsUptoCardSaid : Prop := Claim7.holds Tryd.pinned (.plain (OpenSpec.upto itemTellsSpec)) itemTellsUptoCard

/-- THE SECOND FORM's CARD OF 'scantlinglaw13.ItemOrder'. -/
def itemOrderUptoCard : Claim7 := { stood := { row := itemOrderUptoRow, standIns := [], harness := (true, "aa5f2cb85accade2e949b9f94d0579b91f3bcab757f0e828963dd5b1627d8e9b"), looks := false }, kinds := [], alts := [], laidByText := true, laidKinds := [.data, .data, .data], laidTests := true, laidLooks := .later }
def ItemOrderUptoCardSaid : Prop := Claim7.holds Tryd.pinned (.plain (OpenSpec.upto itemOrderSpec)) itemOrderUptoCard

/-- THE SECOND FORM's CARD OF 'scantlinglaw13.ItemLowers'. -/
def itemLowersUptoCard : Claim7 := { stood := { row := itemLowersUptoRow, standIns := [], harness := (true, "aa5f2cb85accade2e949b9f94d0579b91f3bcab757f0e828963dd5b1627d8e9b"), looks := false }, kinds := [], alts := [], laidByText := true, laidKinds := [.data, .data, .data], laidTests := true, laidLooks := .later }
def ItemLowersUptoCardSaid : Prop := Claim7.holds Tryd.pinned (.plain (OpenSpec.upto itemLowersSpec)) itemLowersUptoCard

/-- THE SECOND FORM's CARD OF 'scantlinglaw13.ItemKeeps'. -/
def itemKeepsUptoCard : Claim7 := { stood := { row := itemKeepsUptoRow, standIns := [], harness := (true, "aa5f2cb85accade2e949b9f94d0579b91f3bcab757f0e828963dd5b1627d8e9b"), looks := false }, kinds := [], alts := [], laidByText := true, laidKinds := [.data, .data, .data], laidTests := true, laidLooks := .later }
def ItemKeepsUptoCardSaid : Prop := Claim7.holds Tryd.pinned (.plain (OpenSpec.upto itemKeepsSpec)) itemKeepsUptoCard

/-- THE SECOND FORM's CARD OF 'scantlinglaw13.ItemForms'. -/
def itemFormsUptoCard : Claim7 := { stood := { row := itemFormsUptoRow, standIns := [], harness := (true, "aa5f2cb85accade2e949b9f94d0579b91f3bcab757f0e828963dd5b1627d8e9b"), looks := false }, kinds := [], alts := [], laidByText := true, laidKinds := [.data, .data, .data], laidTests := true, laidLooks := .later }
def ItemFormsUptoCardSaid : Prop := Claim7.holds Tryd.pinned (.plain (OpenSpec.upto itemFormsSpec)) itemFormsUptoCard

/-- THE SECOND FORM's CARD OF 'scantlinglaw17.SearchFinds'. -/
def searchFindsUptoCard : Claim7 := { stood := { row := searchFindsUptoRow, standIns := [], harness := (true, "aa5f2cb85accade2e949b9f94d0579b91f3bcab757f0e828963dd5b1627d8e9b"), looks := false }, kinds := [], alts := [], laidByText := true, laidKinds := [.data, .data, .data], laidTests := true, laidLooks := .later }
def SearchFindsUptoCardSaid : Prop := Claim7.holds Tryd.pinned (.plain (OpenSpec.upto searchFindsSpec)) searchFindsUptoCard

/-- THE SECOND FORM's CARD OF 'scantlinglaw17.SearchShort'. -/
def searchShortUptoCard : Claim7 := { stood := { row := searchShortUptoRow, standIns := [], harness := (true, "aa5f2cb85accade2e949b9f94d0579b91f3bcab757f0e828963dd5b1627d8e9b"), looks := false }, kinds := [], alts := [], laidByText := true, laidKinds := [.data, .data, .data], laidTests := true, laidLooks := .later }
def SearchShortUptoCardSaid : Prop := Claim7.holds Tryd.pinned (.plain (OpenSpec.upto searchShortSpec)) searchShortUptoCard

/-- THE SECOND FORM's CARD OF 'scantlinglaw17.SearchKeeps'. -/
def searchKeepsUptoCard : Claim7 := { stood := { row := searchKeepsUptoRow, standIns := [], harness := (true, "aa5f2cb85accade2e949b9f94d0579b91f3bcab757f0e828963dd5b1627d8e9b"), looks := false }, kinds := [], alts := [], laidByText := true, laidKinds := [.data, .data, .data], laidTests := true, laidLooks := .later }
def SearchKeepsUptoCardSaid : Prop := Claim7.holds Tryd.pinned (.plain (OpenSpec.upto searchKeepsSpec)) searchKeepsUptoCard

/-- THE SECOND FORM's CARD OF 'scantlinglaw17.SearchOrder'. -/
def searchOrderUptoCard : Claim7 := { stood := { row := searchOrderUptoRow, standIns := [], harness := (true, "aa5f2cb85accade2e949b9f94d0579b91f3bcab757f0e828963dd5b1627d8e9b"), looks := false }, kinds := [], alts := [], laidByText := true, laidKinds := [.data, .data, .data], laidTests := true, laidLooks := .later }
def SearchOrderUptoCardSaid : Prop := Claim7.holds Tryd.pinned (.plain (OpenSpec.upto searchOrderSpec)) searchOrderUptoCard
end Rows
end Go.Proofs.YtdfnbogkniikbaaDoor
