/-
  No cell of these rows narrows 'for every input' (looked for: loops, veiled, ifaces, maps, wideKeys, modest, calm, conditions, laid).
  DERIVED. THE GIVEN ROWS OF THIS SEAT. 11 by the template 'for every input the law returns true; each argument reads behind the call as it read before'; 0 by the template 'total and deterministic' (their statements: YtkdbiiollbeoeaaTotals.lean).
  GIVEN WITH THE SEED: the statements are not yours to turn. If you find one false, say at which input.
  Laid BY PROGRAM, IN A SANDBOX (cutbox-rows.mjs): the forced cells as the released guide's own fill.sh prints them over the translation 3f76f03daf7b63f2… (all of the seat's roots in one cut). By AI agents, Wed Nov 11 2026. No macro, syntax, notation, axiom, sorry.
-/
import Derived.Test.YtkdbiiollbeoeaaChecked
import GoSem.Claim
import GoSem.ClaimJoined
import GoSem.ClaimMapViews
import Derived.JoinedTies
import Derived.KernelRfl
namespace Go.Proofs.Ytkdbiiollbeoeaa
/- THE CELL 'sum', in the pinned program and in every row, IS THE sha256 OF THE DUMP (.gsa) THAT YtkdbiiollbeoeaaProg.lean LOADS. Nothing in Lean hashes anything: it is a label: what it is worth is what the hold of that sum in a sandbox is worth. -/
noncomputable def Try.pinned : Pinned := { name := "ytkdbiiollbeoeaa", sum := "3f76f03daf7b63f294c110d75d400d3d9d6cba7e7075acab95d21ee2a95525c7", checked := Try.checked }
namespace Rows
def none {H : Type} : Left H := { results := [], args := [] }

/-- 'scantlinglaw01.ClassDoes': WHATEVER THE INPUT: true; the input reads as it did. -/
def classDoesSpec : ChangeSpec := { name := "classDoes", fn := fun _ => fun
  | [d1, d2, d3, d4] => { results := [.lit (.bool true)], args := [d1, d2, d3, d4] }
  | _ => none }
def classDoesRow : OpenClaim := { program := "ytkdbiiollbeoeaa", sum := "3f76f03daf7b63f294c110d75d400d3d9d6cba7e7075acab95d21ee2a95525c7", func := "scantling/scantlinglaw01.ClassDoes", spec := "classDoes", apart := false }
def ClassDoesSaid : Prop := classDoesRow.holds Try.pinned (OpenSpec.ofChange classDoesSpec)

/-- ITS FALSE NEIGHBOUR: 'it returns false'. Refute it at one input. -/
def classDoesWrong : ChangeSpec := { name := "classDoes", fn := fun _ => fun
  | [d1, d2, d3, d4] => { results := [.lit (.bool false)], args := [d1, d2, d3, d4] }
  | _ => none }
def ClassDoesWrongFalsely : Prop := classDoesRow.holds Try.pinned (OpenSpec.ofChange classDoesWrong)

/-- 'scantlinglaw01.ClassLaws': WHATEVER THE INPUT: true; the input reads as it did. -/
def classLawsSpec : ChangeSpec := { name := "classLaws", fn := fun _ => fun
  | [d1, d2, d3] => { results := [.lit (.bool true)], args := [d1, d2, d3] }
  | _ => none }
def classLawsRow : OpenClaim := { program := "ytkdbiiollbeoeaa", sum := "3f76f03daf7b63f294c110d75d400d3d9d6cba7e7075acab95d21ee2a95525c7", func := "scantling/scantlinglaw01.ClassLaws", spec := "classLaws", apart := false }
def ClassLawsSaid : Prop := classLawsRow.holds Try.pinned (OpenSpec.ofChange classLawsSpec)

/-- ITS FALSE NEIGHBOUR: 'it returns false'. Refute it at one input. -/
def classLawsWrong : ChangeSpec := { name := "classLaws", fn := fun _ => fun
  | [d1, d2, d3] => { results := [.lit (.bool false)], args := [d1, d2, d3] }
  | _ => none }
def ClassLawsWrongFalsely : Prop := classLawsRow.holds Try.pinned (OpenSpec.ofChange classLawsWrong)

/-- 'scantlinglaw01.ClassRows': WHATEVER THE INPUT: true; the input reads as it did. -/
def classRowsSpec : ChangeSpec := { name := "classRows", fn := fun _ => fun
  | [d1, d2, d3, d4, d5] => { results := [.lit (.bool true)], args := [d1, d2, d3, d4, d5] }
  | _ => none }
def classRowsRow : OpenClaim := { program := "ytkdbiiollbeoeaa", sum := "3f76f03daf7b63f294c110d75d400d3d9d6cba7e7075acab95d21ee2a95525c7", func := "scantling/scantlinglaw01.ClassRows", spec := "classRows", apart := false }
def ClassRowsSaid : Prop := classRowsRow.holds Try.pinned (OpenSpec.ofChange classRowsSpec)

/-- ITS FALSE NEIGHBOUR: 'it returns false'. Refute it at one input. -/
def classRowsWrong : ChangeSpec := { name := "classRows", fn := fun _ => fun
  | [d1, d2, d3, d4, d5] => { results := [.lit (.bool false)], args := [d1, d2, d3, d4, d5] }
  | _ => none }
def ClassRowsWrongFalsely : Prop := classRowsRow.holds Try.pinned (OpenSpec.ofChange classRowsWrong)

/-- 'scantlinglaw01.ClassLeast': WHATEVER THE INPUT: true; the input reads as it did. -/
def classLeastSpec : ChangeSpec := { name := "classLeast", fn := fun _ => fun
  | [d] => { results := [.lit (.bool true)], args := [d] }
  | _ => none }
def classLeastRow : OpenClaim := { program := "ytkdbiiollbeoeaa", sum := "3f76f03daf7b63f294c110d75d400d3d9d6cba7e7075acab95d21ee2a95525c7", func := "scantling/scantlinglaw01.ClassLeast", spec := "classLeast", apart := false }
def ClassLeastSaid : Prop := classLeastRow.holds Try.pinned (OpenSpec.ofChange classLeastSpec)

/-- ITS FALSE NEIGHBOUR: 'it returns false'. Refute it at one input. -/
def classLeastWrong : ChangeSpec := { name := "classLeast", fn := fun _ => fun
  | [d] => { results := [.lit (.bool false)], args := [d] }
  | _ => none }
def ClassLeastWrongFalsely : Prop := classLeastRow.holds Try.pinned (OpenSpec.ofChange classLeastWrong)

/-- 'scantlinglaw01.ClassAdd': WHATEVER THE INPUT: true; the input reads as it did. -/
def classAddSpec : ChangeSpec := { name := "classAdd", fn := fun _ => fun
  | [d1, d2] => { results := [.lit (.bool true)], args := [d1, d2] }
  | _ => none }
def classAddRow : OpenClaim := { program := "ytkdbiiollbeoeaa", sum := "3f76f03daf7b63f294c110d75d400d3d9d6cba7e7075acab95d21ee2a95525c7", func := "scantling/scantlinglaw01.ClassAdd", spec := "classAdd", apart := false }
def ClassAddSaid : Prop := classAddRow.holds Try.pinned (OpenSpec.ofChange classAddSpec)

/-- ITS FALSE NEIGHBOUR: 'it returns false'. Refute it at one input. -/
def classAddWrong : ChangeSpec := { name := "classAdd", fn := fun _ => fun
  | [d1, d2] => { results := [.lit (.bool false)], args := [d1, d2] }
  | _ => none }
def ClassAddWrongFalsely : Prop := classAddRow.holds Try.pinned (OpenSpec.ofChange classAddWrong)

/-- 'scantlinglaw02.SplitTells': WHATEVER THE INPUT: true; the input reads as it did. -/
def splitTellsSpec : ChangeSpec := { name := "splitTells", fn := fun _ => fun
  | [d1, d2, d3] => { results := [.lit (.bool true)], args := [d1, d2, d3] }
  | _ => none }
def splitTellsRow : OpenClaim := { program := "ytkdbiiollbeoeaa", sum := "3f76f03daf7b63f294c110d75d400d3d9d6cba7e7075acab95d21ee2a95525c7", func := "scantling/scantlinglaw02.SplitTells", spec := "splitTells", unfollowed := true, recurses := true, apart := false }
def SplitTellsSaid : Prop := splitTellsRow.holds Try.pinned (OpenSpec.ofChange splitTellsSpec)

/-- ITS FALSE NEIGHBOUR: 'it returns false'. Refute it at one input. -/
def splitTellsWrong : ChangeSpec := { name := "splitTells", fn := fun _ => fun
  | [d1, d2, d3] => { results := [.lit (.bool false)], args := [d1, d2, d3] }
  | _ => none }
def SplitTellsWrongFalsely : Prop := splitTellsRow.holds Try.pinned (OpenSpec.ofChange splitTellsWrong)

/-- 'scantlinglaw02.SplitFine': WHATEVER THE INPUT: true; the input reads as it did. -/
def splitFineSpec : ChangeSpec := { name := "splitFine", fn := fun _ => fun
  | [d] => { results := [.lit (.bool true)], args := [d] }
  | _ => none }
def splitFineRow : OpenClaim := { program := "ytkdbiiollbeoeaa", sum := "3f76f03daf7b63f294c110d75d400d3d9d6cba7e7075acab95d21ee2a95525c7", func := "scantling/scantlinglaw02.SplitFine", spec := "splitFine", unfollowed := true, recurses := true, apart := false }
def SplitFineSaid : Prop := splitFineRow.holds Try.pinned (OpenSpec.ofChange splitFineSpec)

/-- ITS FALSE NEIGHBOUR: 'it returns false'. Refute it at one input. -/
def splitFineWrong : ChangeSpec := { name := "splitFine", fn := fun _ => fun
  | [d] => { results := [.lit (.bool false)], args := [d] }
  | _ => none }
def SplitFineWrongFalsely : Prop := splitFineRow.holds Try.pinned (OpenSpec.ofChange splitFineWrong)

/-- 'scantlinglaw02.SplitOrder': WHATEVER THE INPUT: true; the input reads as it did. -/
def splitOrderSpec : ChangeSpec := { name := "splitOrder", fn := fun _ => fun
  | [d1, d2, d3] => { results := [.lit (.bool true)], args := [d1, d2, d3] }
  | _ => none }
def splitOrderRow : OpenClaim := { program := "ytkdbiiollbeoeaa", sum := "3f76f03daf7b63f294c110d75d400d3d9d6cba7e7075acab95d21ee2a95525c7", func := "scantling/scantlinglaw02.SplitOrder", spec := "splitOrder", unfollowed := true, recurses := true, apart := false }
def SplitOrderSaid : Prop := splitOrderRow.holds Try.pinned (OpenSpec.ofChange splitOrderSpec)

/-- ITS FALSE NEIGHBOUR: 'it returns false'. Refute it at one input. -/
def splitOrderWrong : ChangeSpec := { name := "splitOrder", fn := fun _ => fun
  | [d1, d2, d3] => { results := [.lit (.bool false)], args := [d1, d2, d3] }
  | _ => none }
def SplitOrderWrongFalsely : Prop := splitOrderRow.holds Try.pinned (OpenSpec.ofChange splitOrderWrong)

/-- 'scantlinglaw02.SplitMore': WHATEVER THE INPUT: true; the input reads as it did. -/
def splitMoreSpec : ChangeSpec := { name := "splitMore", fn := fun _ => fun
  | [d1, d2] => { results := [.lit (.bool true)], args := [d1, d2] }
  | _ => none }
def splitMoreRow : OpenClaim := { program := "ytkdbiiollbeoeaa", sum := "3f76f03daf7b63f294c110d75d400d3d9d6cba7e7075acab95d21ee2a95525c7", func := "scantling/scantlinglaw02.SplitMore", spec := "splitMore", unfollowed := true, recurses := true, apart := false }
def SplitMoreSaid : Prop := splitMoreRow.holds Try.pinned (OpenSpec.ofChange splitMoreSpec)

/-- ITS FALSE NEIGHBOUR: 'it returns false'. Refute it at one input. -/
def splitMoreWrong : ChangeSpec := { name := "splitMore", fn := fun _ => fun
  | [d1, d2] => { results := [.lit (.bool false)], args := [d1, d2] }
  | _ => none }
def SplitMoreWrongFalsely : Prop := splitMoreRow.holds Try.pinned (OpenSpec.ofChange splitMoreWrong)

/-- 'scantlinglaw02.SplitHeads': WHATEVER THE INPUT: true; the input reads as it did. -/
def splitHeadsSpec : ChangeSpec := { name := "splitHeads", fn := fun _ => fun
  | [d1, d2] => { results := [.lit (.bool true)], args := [d1, d2] }
  | _ => none }
def splitHeadsRow : OpenClaim := { program := "ytkdbiiollbeoeaa", sum := "3f76f03daf7b63f294c110d75d400d3d9d6cba7e7075acab95d21ee2a95525c7", func := "scantling/scantlinglaw02.SplitHeads", spec := "splitHeads", unfollowed := true, recurses := true, apart := false }
def SplitHeadsSaid : Prop := splitHeadsRow.holds Try.pinned (OpenSpec.ofChange splitHeadsSpec)

/-- ITS FALSE NEIGHBOUR: 'it returns false'. Refute it at one input. -/
def splitHeadsWrong : ChangeSpec := { name := "splitHeads", fn := fun _ => fun
  | [d1, d2] => { results := [.lit (.bool false)], args := [d1, d2] }
  | _ => none }
def SplitHeadsWrongFalsely : Prop := splitHeadsRow.holds Try.pinned (OpenSpec.ofChange splitHeadsWrong)

/-- 'scantlinglaw02.SplitOne': WHATEVER THE INPUT: true; the input reads as it did. -/
def splitOneSpec : ChangeSpec := { name := "splitOne", fn := fun _ => fun
  | [d] => { results := [.lit (.bool true)], args := [d] }
  | _ => none }
def splitOneRow : OpenClaim := { program := "ytkdbiiollbeoeaa", sum := "3f76f03daf7b63f294c110d75d400d3d9d6cba7e7075acab95d21ee2a95525c7", func := "scantling/scantlinglaw02.SplitOne", spec := "splitOne", unfollowed := true, recurses := true, apart := false }
def SplitOneSaid : Prop := splitOneRow.holds Try.pinned (OpenSpec.ofChange splitOneSpec)

/-- ITS FALSE NEIGHBOUR: 'it returns false'. Refute it at one input. -/
def splitOneWrong : ChangeSpec := { name := "splitOne", fn := fun _ => fun
  | [d] => { results := [.lit (.bool false)], args := [d] }
  | _ => none }
def SplitOneWrongFalsely : Prop := splitOneRow.holds Try.pinned (OpenSpec.ofChange splitOneWrong)

/- THE SECOND FORM. 'bulk': how many values and letters a reading holds, each counted each time it is reached (what is shared counts as often as it is met; a slice's spare places count too). A statement '..UptoSaid' is the law's where the arguments, and the package variables that the reading takes, are together of bulk at most 1048576: NARROWER than '..Said'. Prove '..Said' where nothing that the law and all that it calls make is longer than what came in: it says more and counts as full. Else prove '..UptoSaid'. A law counts once. -/
mutual
def uptoBulk {H : Type} : DataW H → Nat
  | .lit (.string bytes) => bytes.length + 1
  | .lit _ => 1
  | .nil => 1
  | .ptr d => uptoBulk d + 1
  | .slice elems spare => uptoBulkAll elems + uptoBulkAll spare + 1
  | .agg parts => uptoBulkAll parts + 1
  | .iface _ d => uptoBulk d + 1
  | .map entries => uptoBulkEntries entries + 1
  | .held _ => 1
def uptoBulkAll {H : Type} : List (DataW H) → Nat
  | [] => 0
  | d :: r => uptoBulk d + uptoBulkAll r
def uptoBulkEntries {H : Type} : List (Lit × DataW H) → Nat
  | [] => 0
  | x :: r => uptoBulkEntry x + uptoBulkEntries r
def uptoBulkEntry {H : Type} : Lit × DataW H → Nat
  | (.string bytes, d) => bytes.length + uptoBulk d + 1
  | (_, d) => uptoBulk d + 1
 end
def uptoSmall : (H : Type) → List (DataW H) → Bool := fun _ ds => decide (uptoBulkAll ds ≤ 1048576)
def OpenSpec.upto (s : _root_.Go.ChangeSpec) : _root_.Go.OpenSpec := { _root_.Go.OpenSpec.ofChange s with cond := some uptoSmall }

/-- 'scantlinglaw01.ClassDoes', WHERE WHAT IT READS IS OF BULK AT MOST 1048576: true; the input reads as it did. -/
def classDoesUptoRow : OpenClaim := { program := "ytkdbiiollbeoeaa", sum := "3f76f03daf7b63f294c110d75d400d3d9d6cba7e7075acab95d21ee2a95525c7", func := "scantling/scantlinglaw01.ClassDoes", spec := "classDoes", apart := false, narrowed := true }
def ClassDoesUptoSaid : Prop := classDoesUptoRow.holds Try.pinned (OpenSpec.upto classDoesSpec)

/-- 'scantlinglaw01.ClassLaws', WHERE WHAT IT READS IS OF BULK AT MOST 1048576: true; the input reads as it did. -/
def classLawsUptoRow : OpenClaim := { program := "ytkdbiiollbeoeaa", sum := "3f76f03daf7b63f294c110d75d400d3d9d6cba7e7075acab95d21ee2a95525c7", func := "scantling/scantlinglaw01.ClassLaws", spec := "classLaws", apart := false, narrowed := true }
def ClassLawsUptoSaid : Prop := classLawsUptoRow.holds Try.pinned (OpenSpec.upto classLawsSpec)

/-- 'scantlinglaw01.ClassRows', WHERE WHAT IT READS IS OF BULK AT MOST 1048576: true; the input reads as it did. -/
def classRowsUptoRow : OpenClaim := { program := "ytkdbiiollbeoeaa", sum := "3f76f03daf7b63f294c110d75d400d3d9d6cba7e7075acab95d21ee2a95525c7", func := "scantling/scantlinglaw01.ClassRows", spec := "classRows", apart := false, narrowed := true }
def ClassRowsUptoSaid : Prop := classRowsUptoRow.holds Try.pinned (OpenSpec.upto classRowsSpec)

/-- 'scantlinglaw01.ClassLeast', WHERE WHAT IT READS IS OF BULK AT MOST 1048576: true; the input reads as it did. -/
def classLeastUptoRow : OpenClaim := { program := "ytkdbiiollbeoeaa", sum := "3f76f03daf7b63f294c110d75d400d3d9d6cba7e7075acab95d21ee2a95525c7", func := "scantling/scantlinglaw01.ClassLeast", spec := "classLeast", apart := false, narrowed := true }
def ClassLeastUptoSaid : Prop := classLeastUptoRow.holds Try.pinned (OpenSpec.upto classLeastSpec)

/-- 'scantlinglaw01.ClassAdd', WHERE WHAT IT READS IS OF BULK AT MOST 1048576: true; the input reads as it did. -/
def classAddUptoRow : OpenClaim := { program := "ytkdbiiollbeoeaa", sum := "3f76f03daf7b63f294c110d75d400d3d9d6cba7e7075acab95d21ee2a95525c7", func := "scantling/scantlinglaw01.ClassAdd", spec := "classAdd", apart := false, narrowed := true }
def ClassAddUptoSaid : Prop := classAddUptoRow.holds Try.pinned (OpenSpec.upto classAddSpec)

/-- 'scantlinglaw02.SplitTells', WHERE WHAT IT READS IS OF BULK AT MOST 1048576: true; the input reads as it did. -/
def splitTellsUptoRow : OpenClaim := { program := "ytkdbiiollbeoeaa", sum := "3f76f03daf7b63f294c110d75d400d3d9d6cba7e7075acab95d21ee2a95525c7", func := "scantling/scantlinglaw02.SplitTells", spec := "splitTells", unfollowed := true, recurses := true, apart := false, narrowed := true }
def SplitTellsUptoSaid : Prop := splitTellsUptoRow.holds Try.pinned (OpenSpec.upto splitTellsSpec)

/-- 'scantlinglaw02.SplitFine', WHERE WHAT IT READS IS OF BULK AT MOST 1048576: true; the input reads as it did. -/
def splitFineUptoRow : OpenClaim := { program := "ytkdbiiollbeoeaa", sum := "3f76f03daf7b63f294c110d75d400d3d9d6cba7e7075acab95d21ee2a95525c7", func := "scantling/scantlinglaw02.SplitFine", spec := "splitFine", unfollowed := true, recurses := true, apart := false, narrowed := true }
def SplitFineUptoSaid : Prop := splitFineUptoRow.holds Try.pinned (OpenSpec.upto splitFineSpec)

/-- 'scantlinglaw02.SplitOrder', WHERE WHAT IT READS IS OF BULK AT MOST 1048576: true; the input reads as it did. -/
def splitOrderUptoRow : OpenClaim := { program := "ytkdbiiollbeoeaa", sum := "3f76f03daf7b63f294c110d75d400d3d9d6cba7e7075acab95d21ee2a95525c7", func := "scantling/scantlinglaw02.SplitOrder", spec := "splitOrder", unfollowed := true, recurses := true, apart := false, narrowed := true }
def SplitOrderUptoSaid : Prop := splitOrderUptoRow.holds Try.pinned (OpenSpec.upto splitOrderSpec)

/-- 'scantlinglaw02.SplitMore', WHERE WHAT IT READS IS OF BULK AT MOST 1048576: true; the input reads as it did. -/
def splitMoreUptoRow : OpenClaim := { program := "ytkdbiiollbeoeaa", sum := "3f76f03daf7b63f294c110d75d400d3d9d6cba7e7075acab95d21ee2a95525c7", func := "scantling/scantlinglaw02.SplitMore", spec := "splitMore", unfollowed := true, recurses := true, apart := false, narrowed := true }
def SplitMoreUptoSaid : Prop := splitMoreUptoRow.holds Try.pinned (OpenSpec.upto splitMoreSpec)

/-- 'scantlinglaw02.SplitHeads', WHERE WHAT IT READS IS OF BULK AT MOST 1048576: true; the input reads as it did. -/
def splitHeadsUptoRow : OpenClaim := { program := "ytkdbiiollbeoeaa", sum := "3f76f03daf7b63f294c110d75d400d3d9d6cba7e7075acab95d21ee2a95525c7", func := "scantling/scantlinglaw02.SplitHeads", spec := "splitHeads", unfollowed := true, recurses := true, apart := false, narrowed := true }
def SplitHeadsUptoSaid : Prop := splitHeadsUptoRow.holds Try.pinned (OpenSpec.upto splitHeadsSpec)

/-- 'scantlinglaw02.SplitOne', WHERE WHAT IT READS IS OF BULK AT MOST 1048576: true; the input reads as it did. -/
def splitOneUptoRow : OpenClaim := { program := "ytkdbiiollbeoeaa", sum := "3f76f03daf7b63f294c110d75d400d3d9d6cba7e7075acab95d21ee2a95525c7", func := "scantling/scantlinglaw02.SplitOne", spec := "splitOne", unfollowed := true, recurses := true, apart := false, narrowed := true }
def SplitOneUptoSaid : Prop := splitOneUptoRow.holds Try.pinned (OpenSpec.upto splitOneSpec)

end Rows
end Go.Proofs.Ytkdbiiollbeoeaa
