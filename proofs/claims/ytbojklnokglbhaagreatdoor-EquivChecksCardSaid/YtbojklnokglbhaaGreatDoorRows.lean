/-
  NARROWER THAN 'FOR EVERY INPUT', by the rows' own cells (each row's printed sentence says how): EquivChecks: laid · EquivTurned: laid · EquivBound: laid · EquivLinked: laid · EquivTells: laid.
  DERIVED. THE GIVEN ROWS OF THIS SEAT. 5 by the template 'for every input the law returns true; each argument reads behind the call as it read before'; 0 by the template 'total and deterministic' (their statements: YtbojklnokglbhaaGreatDoorTotals.lean).
  GIVEN WITH THE SEED: the statements are not yours to turn. If you find one false, say at which input.
  Laid BY PROGRAM, IN A SANDBOX (cutbox-rows.mjs): the forced cells as the released guide's own fill.sh prints them over the translation d1f5d21c5bb92013… (all of the seat's roots in one cut). By AI agents, Wed Nov 11 2026. No macro, syntax, notation, axiom, sorry.
-/
import Derived.Test.YtbojklnokglbhaaGreatDoorChecked
import GoSem.Claim
import GoSem.ClaimJoined
import GoSem.ClaimMapViews
import Derived.JoinedTies
import Derived.KernelRfl
namespace Go.Proofs.YtbojklnokglbhaaGreatDoor
/- THE CELL 'sum', in the pinned program and in every row, IS THE sha256 OF THE DUMP (.gsa) THAT YtbojklnokglbhaaGreatDoorProg.lean LOADS. Nothing in Lean hashes anything: it is a label: what it is worth is what the hold of that sum in a sandbox is worth. -/
noncomputable def Tryz.pinned : Pinned := { name := "ytbojklnokglbhaagreatdoor", sum := "d1f5d21c5bb920138c89872b241d8d5ea196fff2108ec226edba83e9033362c9", checked := Tryz.checked }
namespace Rows
def none {H : Type} : Left H := { results := [], args := [] }

/- WHAT THE LISTED PACKAGE-LEVEL VARIABLES READ AS WHEN THE CALL BEGINS. Each datum BY PROGRAM (the guide's laid-datum.mjs) off the statement by which the dump's own 'gosem.cut.vars' lays the variable. In a bare row this is a premise. The card (YtbojklnokglbhaaGreatDoorCards.lean) ties it to the program's text. -/
def laid_math_bits_deBruijn32tab {H : Type} : DataW H := .agg [.lit (.int .u8 0), .lit (.int .u8 1), .lit (.int .u8 28), .lit (.int .u8 2), .lit (.int .u8 29), .lit (.int .u8 14), .lit (.int .u8 24), .lit (.int .u8 3), .lit (.int .u8 30), .lit (.int .u8 22), .lit (.int .u8 20), .lit (.int .u8 15), .lit (.int .u8 25), .lit (.int .u8 17), .lit (.int .u8 4), .lit (.int .u8 8), .lit (.int .u8 31), .lit (.int .u8 27), .lit (.int .u8 13), .lit (.int .u8 23), .lit (.int .u8 21), .lit (.int .u8 19), .lit (.int .u8 16), .lit (.int .u8 7), .lit (.int .u8 26), .lit (.int .u8 12), .lit (.int .u8 18), .lit (.int .u8 6), .lit (.int .u8 11), .lit (.int .u8 5), .lit (.int .u8 10), .lit (.int .u8 9)]
def laid_math_bits_deBruijn64tab {H : Type} : DataW H := .agg [.lit (.int .u8 0), .lit (.int .u8 1), .lit (.int .u8 56), .lit (.int .u8 2), .lit (.int .u8 57), .lit (.int .u8 49), .lit (.int .u8 28), .lit (.int .u8 3), .lit (.int .u8 61), .lit (.int .u8 58), .lit (.int .u8 42), .lit (.int .u8 50), .lit (.int .u8 38), .lit (.int .u8 29), .lit (.int .u8 17), .lit (.int .u8 4), .lit (.int .u8 62), .lit (.int .u8 47), .lit (.int .u8 59), .lit (.int .u8 36), .lit (.int .u8 45), .lit (.int .u8 43), .lit (.int .u8 51), .lit (.int .u8 22), .lit (.int .u8 53), .lit (.int .u8 39), .lit (.int .u8 33), .lit (.int .u8 30), .lit (.int .u8 24), .lit (.int .u8 18), .lit (.int .u8 12), .lit (.int .u8 5), .lit (.int .u8 63), .lit (.int .u8 55), .lit (.int .u8 48), .lit (.int .u8 27), .lit (.int .u8 60), .lit (.int .u8 41), .lit (.int .u8 37), .lit (.int .u8 16), .lit (.int .u8 46), .lit (.int .u8 35), .lit (.int .u8 44), .lit (.int .u8 21), .lit (.int .u8 52), .lit (.int .u8 32), .lit (.int .u8 23), .lit (.int .u8 11), .lit (.int .u8 54), .lit (.int .u8 26), .lit (.int .u8 40), .lit (.int .u8 15), .lit (.int .u8 34), .lit (.int .u8 20), .lit (.int .u8 31), .lit (.int .u8 10), .lit (.int .u8 25), .lit (.int .u8 14), .lit (.int .u8 19), .lit (.int .u8 9), .lit (.int .u8 13), .lit (.int .u8 8), .lit (.int .u8 7), .lit (.int .u8 6)]
def laid_internal_strconv_uint64pow10 {H : Type} : DataW H := .agg [.lit (.int .u64 1), .lit (.int .u64 10), .lit (.int .u64 100), .lit (.int .u64 1000), .lit (.int .u64 10000), .lit (.int .u64 100000), .lit (.int .u64 1000000), .lit (.int .u64 10000000), .lit (.int .u64 100000000), .lit (.int .u64 1000000000), .lit (.int .u64 10000000000), .lit (.int .u64 100000000000), .lit (.int .u64 1000000000000), .lit (.int .u64 10000000000000), .lit (.int .u64 100000000000000), .lit (.int .u64 1000000000000000), .lit (.int .u64 10000000000000000), .lit (.int .u64 100000000000000000), .lit (.int .u64 1000000000000000000), .lit (.int .u64 10000000000000000000)]
def laid_scantling_heads_readies {H : Type} : DataW H := .agg [.lit (.bool false), .lit (.bool false), .lit (.bool true), .lit (.bool false), .lit (.bool false), .lit (.bool false), .lit (.bool false), .lit (.bool false), .lit (.bool true), .lit (.bool true)]
def laid_scantling_next_steps {H : Type} : DataW H := .iface "func table" (.map [(.int .i64 1, .iface "func" (.lit (.string [40, 115, 99, 97, 110, 116, 108, 105, 110, 103, 47, 110, 101, 120, 116, 46, 115, 116, 101, 112, 41, 46, 110, 111, 100, 101]))), (.int .i64 3, .iface "func" (.lit (.string [40, 115, 99, 97, 110, 116, 108, 105, 110, 103, 47, 110, 101, 120, 116, 46, 115, 116, 101, 112, 41, 46, 116, 101, 120, 116]))), (.int .i64 4, .iface "func" (.lit (.string [40, 115, 99, 97, 110, 116, 108, 105, 110, 103, 47, 110, 101, 120, 116, 46, 115, 116, 101, 112, 41, 46, 104, 97, 108, 102])))])

/-- 'scantlinglaw19.EquivChecks': WHATEVER THE INPUT: true; the input reads as it did. -/
def equivChecksSpec : ChangeSpec := { name := "equivChecks", fn := fun _ => fun
  | [d1, d2, d3, d4, d5] => { results := [.lit (.bool true)], args := [d1, d2, d3, d4, d5] }
  | _ => none }
def equivChecksRow : OpenClaim := { program := "ytbojklnokglbhaagreatdoor", sum := "d1f5d21c5bb920138c89872b241d8d5ea196fff2108ec226edba83e9033362c9", func := "scantling/scantlinglaw19.EquivChecks", spec := "equivChecks", inPlace := ["internal/abi.NoEscape"], unfollowed := true, recurses := true, named := ["internal/strconv.uint64pow10", "math/bits.deBruijn32tab", "math/bits.deBruijn64tab", "scantling/heads.readies", "scantling/next.steps"], plainKeys := false, apart := false, laid := [("math/bits.deBruijn32tab", laid_math_bits_deBruijn32tab), ("math/bits.deBruijn64tab", laid_math_bits_deBruijn64tab), ("internal/strconv.uint64pow10", laid_internal_strconv_uint64pow10), ("scantling/heads.readies", laid_scantling_heads_readies), ("scantling/next.steps", laid_scantling_next_steps)] }
def EquivChecksSaid : Prop := equivChecksRow.holds Tryz.pinned (OpenSpec.ofChange equivChecksSpec)

/-- ITS FALSE NEIGHBOUR: 'it returns false'. Refute it at one input. -/
def equivChecksWrong : ChangeSpec := { name := "equivChecks", fn := fun _ => fun
  | [d1, d2, d3, d4, d5] => { results := [.lit (.bool false)], args := [d1, d2, d3, d4, d5] }
  | _ => none }
def EquivChecksWrongFalsely : Prop := equivChecksRow.holds Tryz.pinned (OpenSpec.ofChange equivChecksWrong)

/-- 'scantlinglaw19.EquivTurned': WHATEVER THE INPUT: true; the input reads as it did. -/
def equivTurnedSpec : ChangeSpec := { name := "equivTurned", fn := fun _ => fun
  | [d1, d2, d3] => { results := [.lit (.bool true)], args := [d1, d2, d3] }
  | _ => none }
def equivTurnedRow : OpenClaim := { program := "ytbojklnokglbhaagreatdoor", sum := "d1f5d21c5bb920138c89872b241d8d5ea196fff2108ec226edba83e9033362c9", func := "scantling/scantlinglaw19.EquivTurned", spec := "equivTurned", inPlace := ["internal/abi.NoEscape"], unfollowed := true, recurses := true, named := ["internal/strconv.uint64pow10", "math/bits.deBruijn32tab", "math/bits.deBruijn64tab", "scantling/heads.readies", "scantling/next.steps"], plainKeys := false, apart := false, laid := [("math/bits.deBruijn32tab", laid_math_bits_deBruijn32tab), ("math/bits.deBruijn64tab", laid_math_bits_deBruijn64tab), ("internal/strconv.uint64pow10", laid_internal_strconv_uint64pow10), ("scantling/heads.readies", laid_scantling_heads_readies), ("scantling/next.steps", laid_scantling_next_steps)] }
def EquivTurnedSaid : Prop := equivTurnedRow.holds Tryz.pinned (OpenSpec.ofChange equivTurnedSpec)

/-- ITS FALSE NEIGHBOUR: 'it returns false'. Refute it at one input. -/
def equivTurnedWrong : ChangeSpec := { name := "equivTurned", fn := fun _ => fun
  | [d1, d2, d3] => { results := [.lit (.bool false)], args := [d1, d2, d3] }
  | _ => none }
def EquivTurnedWrongFalsely : Prop := equivTurnedRow.holds Tryz.pinned (OpenSpec.ofChange equivTurnedWrong)

/-- 'scantlinglaw19.EquivBound': WHATEVER THE INPUT: true; the input reads as it did. -/
def equivBoundSpec : ChangeSpec := { name := "equivBound", fn := fun _ => fun
  | [d1, d2, d3, d4] => { results := [.lit (.bool true)], args := [d1, d2, d3, d4] }
  | _ => none }
def equivBoundRow : OpenClaim := { program := "ytbojklnokglbhaagreatdoor", sum := "d1f5d21c5bb920138c89872b241d8d5ea196fff2108ec226edba83e9033362c9", func := "scantling/scantlinglaw19.EquivBound", spec := "equivBound", inPlace := ["internal/abi.NoEscape"], unfollowed := true, recurses := true, named := ["internal/strconv.uint64pow10", "math/bits.deBruijn32tab", "math/bits.deBruijn64tab", "scantling/heads.readies", "scantling/next.steps"], plainKeys := false, apart := false, laid := [("math/bits.deBruijn32tab", laid_math_bits_deBruijn32tab), ("math/bits.deBruijn64tab", laid_math_bits_deBruijn64tab), ("internal/strconv.uint64pow10", laid_internal_strconv_uint64pow10), ("scantling/heads.readies", laid_scantling_heads_readies), ("scantling/next.steps", laid_scantling_next_steps)] }
def EquivBoundSaid : Prop := equivBoundRow.holds Tryz.pinned (OpenSpec.ofChange equivBoundSpec)

/-- ITS FALSE NEIGHBOUR: 'it returns false'. Refute it at one input. -/
def equivBoundWrong : ChangeSpec := { name := "equivBound", fn := fun _ => fun
  | [d1, d2, d3, d4] => { results := [.lit (.bool false)], args := [d1, d2, d3, d4] }
  | _ => none }
def EquivBoundWrongFalsely : Prop := equivBoundRow.holds Tryz.pinned (OpenSpec.ofChange equivBoundWrong)

/-- 'scantlinglaw19.EquivLinked': WHATEVER THE INPUT: true; the input reads as it did. -/
def equivLinkedSpec : ChangeSpec := { name := "equivLinked", fn := fun _ => fun
  | [d1, d2, d3] => { results := [.lit (.bool true)], args := [d1, d2, d3] }
  | _ => none }
def equivLinkedRow : OpenClaim := { program := "ytbojklnokglbhaagreatdoor", sum := "d1f5d21c5bb920138c89872b241d8d5ea196fff2108ec226edba83e9033362c9", func := "scantling/scantlinglaw19.EquivLinked", spec := "equivLinked", inPlace := ["internal/abi.NoEscape"], unfollowed := true, recurses := true, named := ["internal/strconv.uint64pow10", "math/bits.deBruijn32tab", "math/bits.deBruijn64tab", "scantling/heads.readies", "scantling/next.steps"], plainKeys := false, apart := false, laid := [("math/bits.deBruijn32tab", laid_math_bits_deBruijn32tab), ("math/bits.deBruijn64tab", laid_math_bits_deBruijn64tab), ("internal/strconv.uint64pow10", laid_internal_strconv_uint64pow10), ("scantling/heads.readies", laid_scantling_heads_readies), ("scantling/next.steps", laid_scantling_next_steps)] }
def EquivLinkedSaid : Prop := equivLinkedRow.holds Tryz.pinned (OpenSpec.ofChange equivLinkedSpec)

/-- ITS FALSE NEIGHBOUR: 'it returns false'. Refute it at one input. -/
def equivLinkedWrong : ChangeSpec := { name := "equivLinked", fn := fun _ => fun
  | [d1, d2, d3] => { results := [.lit (.bool false)], args := [d1, d2, d3] }
  | _ => none }
def EquivLinkedWrongFalsely : Prop := equivLinkedRow.holds Tryz.pinned (OpenSpec.ofChange equivLinkedWrong)

/-- 'scantlinglaw19.EquivTells': WHATEVER THE INPUT: true; the input reads as it did. -/
def equivTellsSpec : ChangeSpec := { name := "equivTells", fn := fun _ => fun
  | [d1, d2, d3, d4] => { results := [.lit (.bool true)], args := [d1, d2, d3, d4] }
  | _ => none }
def equivTellsRow : OpenClaim := { program := "ytbojklnokglbhaagreatdoor", sum := "d1f5d21c5bb920138c89872b241d8d5ea196fff2108ec226edba83e9033362c9", func := "scantling/scantlinglaw19.EquivTells", spec := "equivTells", inPlace := ["internal/abi.NoEscape"], unfollowed := true, recurses := true, named := ["internal/strconv.uint64pow10", "math/bits.deBruijn32tab", "math/bits.deBruijn64tab", "scantling/heads.readies", "scantling/next.steps"], plainKeys := false, apart := false, laid := [("math/bits.deBruijn32tab", laid_math_bits_deBruijn32tab), ("math/bits.deBruijn64tab", laid_math_bits_deBruijn64tab), ("internal/strconv.uint64pow10", laid_internal_strconv_uint64pow10), ("scantling/heads.readies", laid_scantling_heads_readies), ("scantling/next.steps", laid_scantling_next_steps)] }
def EquivTellsSaid : Prop := equivTellsRow.holds Tryz.pinned (OpenSpec.ofChange equivTellsSpec)

/-- ITS FALSE NEIGHBOUR: 'it returns false'. Refute it at one input. -/
def equivTellsWrong : ChangeSpec := { name := "equivTells", fn := fun _ => fun
  | [d1, d2, d3, d4] => { results := [.lit (.bool false)], args := [d1, d2, d3, d4] }
  | _ => none }
def EquivTellsWrongFalsely : Prop := equivTellsRow.holds Tryz.pinned (OpenSpec.ofChange equivTellsWrong)

/- THE SECOND FORM. 'bulk': how many values and letters a reading holds, each counted each time it is reached (what is shared counts as often as it is met; a slice's spare places count too). A statement '..UptoSaid' is the law's where the arguments, and the package variables that the reading takes, are together of bulk at most 1048576: NARROWER than '..Said'. Prove '..Said' where nothing that the law and all that it calls make is longer than what came in: it says more and counts as full. Else prove '..UptoSaid'. A law counts once. -/
mutual
def uptoBulk {H : Type} : DataW H → Nat
  | .lit (.string bytes) => bytes.length + 1
  | .lit _ => 1
  | .nil => 1
  | .ptr d => uptoBulk d + 1
  | .slice elems spare => uptoBulkAll elems + uptoBulkAll spare + 1
  | .agg parts => uptoBulkAll parts + 1
  | .iface _ d => uptoBulk d + 1
  | .map entries => uptoBulkEntries entries + 1
  | .held _ => 1
def uptoBulkAll {H : Type} : List (DataW H) → Nat
  | [] => 0
  | d :: r => uptoBulk d + uptoBulkAll r
def uptoBulkEntries {H : Type} : List (Lit × DataW H) → Nat
  | [] => 0
  | x :: r => uptoBulkEntry x + uptoBulkEntries r
def uptoBulkEntry {H : Type} : Lit × DataW H → Nat
  | (.string bytes, d) => bytes.length + uptoBulk d + 1
  | (_, d) => uptoBulk d + 1
 end
def uptoSmall : (H : Type) → List (DataW H) → Bool := fun _ ds => decide (uptoBulkAll ds ≤ 1048576)
def OpenSpec.upto (s : _root_.Go.ChangeSpec) : _root_.Go.OpenSpec := { _root_.Go.OpenSpec.ofChange s with cond := some uptoSmall }

/-- 'scantlinglaw19.EquivChecks', WHERE WHAT IT READS IS OF BULK AT MOST 1048576: true; the input reads as it did. -/
def equivChecksUptoRow : OpenClaim := { program := "ytbojklnokglbhaagreatdoor", sum := "d1f5d21c5bb920138c89872b241d8d5ea196fff2108ec226edba83e9033362c9", func := "scantling/scantlinglaw19.EquivChecks", spec := "equivChecks", inPlace := ["internal/abi.NoEscape"], unfollowed := true, recurses := true, named := ["internal/strconv.uint64pow10", "math/bits.deBruijn32tab", "math/bits.deBruijn64tab", "scantling/heads.readies", "scantling/next.steps"], plainKeys := false, apart := false, laid := [("math/bits.deBruijn32tab", laid_math_bits_deBruijn32tab), ("math/bits.deBruijn64tab", laid_math_bits_deBruijn64tab), ("internal/strconv.uint64pow10", laid_internal_strconv_uint64pow10), ("scantling/heads.readies", laid_scantling_heads_readies), ("scantling/next.steps", laid_scantling_next_steps)], narrowed := true }
def EquivChecksUptoSaid : Prop := equivChecksUptoRow.holds Tryz.pinned (OpenSpec.upto equivChecksSpec)

/-- 'scantlinglaw19.EquivTurned', WHERE WHAT IT READS IS OF BULK AT MOST 1048576: true; the input reads as it did. -/
def equivTurnedUptoRow : OpenClaim := { program := "ytbojklnokglbhaagreatdoor", sum := "d1f5d21c5bb920138c89872b241d8d5ea196fff2108ec226edba83e9033362c9", func := "scantling/scantlinglaw19.EquivTurned", spec := "equivTurned", inPlace := ["internal/abi.NoEscape"], unfollowed := true, recurses := true, named := ["internal/strconv.uint64pow10", "math/bits.deBruijn32tab", "math/bits.deBruijn64tab", "scantling/heads.readies", "scantling/next.steps"], plainKeys := false, apart := false, laid := [("math/bits.deBruijn32tab", laid_math_bits_deBruijn32tab), ("math/bits.deBruijn64tab", laid_math_bits_deBruijn64tab), ("internal/strconv.uint64pow10", laid_internal_strconv_uint64pow10), ("scantling/heads.readies", laid_scantling_heads_readies), ("scantling/next.steps", laid_scantling_next_steps)], narrowed := true }
def EquivTurnedUptoSaid : Prop := equivTurnedUptoRow.holds Tryz.pinned (OpenSpec.upto equivTurnedSpec)

/-- 'scantlinglaw19.EquivBound', WHERE WHAT IT READS IS OF BULK AT MOST 1048576: true; the input reads as it did. -/
def equivBoundUptoRow : OpenClaim := { program := "ytbojklnokglbhaagreatdoor", sum := "d1f5d21c5bb920138c89872b241d8d5ea196fff2108ec226edba83e9033362c9", func := "scantling/scantlinglaw19.EquivBound", spec := "equivBound", inPlace := ["internal/abi.NoEscape"], unfollowed := true, recurses := true, named := ["internal/strconv.uint64pow10", "math/bits.deBruijn32tab", "math/bits.deBruijn64tab", "scantling/heads.readies", "scantling/next.steps"], plainKeys := false, apart := false, laid := [("math/bits.deBruijn32tab", laid_math_bits_deBruijn32tab), ("math/bits.deBruijn64tab", laid_math_bits_deBruijn64tab), ("internal/strconv.uint64pow10", laid_internal_strconv_uint64pow10), ("scantling/heads.readies", laid_scantling_heads_readies), ("scantling/next.steps", laid_scantling_next_steps)], narrowed := true }
def EquivBoundUptoSaid : Prop := equivBoundUptoRow.holds Tryz.pinned (OpenSpec.upto equivBoundSpec)

/-- 'scantlinglaw19.EquivLinked', WHERE WHAT IT READS IS OF BULK AT MOST 1048576: true; the input reads as it did. -/
def equivLinkedUptoRow : OpenClaim := { program := "ytbojklnokglbhaagreatdoor", sum := "d1f5d21c5bb920138c89872b241d8d5ea196fff2108ec226edba83e9033362c9", func := "scantling/scantlinglaw19.EquivLinked", spec := "equivLinked", inPlace := ["internal/abi.NoEscape"], unfollowed := true, recurses := true, named := ["internal/strconv.uint64pow10", "math/bits.deBruijn32tab", "math/bits.deBruijn64tab", "scantling/heads.readies", "scantling/next.steps"], plainKeys := false, apart := false, laid := [("math/bits.deBruijn32tab", laid_math_bits_deBruijn32tab), ("math/bits.deBruijn64tab", laid_math_bits_deBruijn64tab), ("internal/strconv.uint64pow10", laid_internal_strconv_uint64pow10), ("scantling/heads.readies", laid_scantling_heads_readies), ("scantling/next.steps", laid_scantling_next_steps)], narrowed := true }
def EquivLinkedUptoSaid : Prop := equivLinkedUptoRow.holds Tryz.pinned (OpenSpec.upto equivLinkedSpec)

/-- 'scantlinglaw19.EquivTells', WHERE WHAT IT READS IS OF BULK AT MOST 1048576: true; the input reads as it did. -/
def equivTellsUptoRow : OpenClaim := { program := "ytbojklnokglbhaagreatdoor", sum := "d1f5d21c5bb920138c89872b241d8d5ea196fff2108ec226edba83e9033362c9", func := "scantling/scantlinglaw19.EquivTells", spec := "equivTells", inPlace := ["internal/abi.NoEscape"], unfollowed := true, recurses := true, named := ["internal/strconv.uint64pow10", "math/bits.deBruijn32tab", "math/bits.deBruijn64tab", "scantling/heads.readies", "scantling/next.steps"], plainKeys := false, apart := false, laid := [("math/bits.deBruijn32tab", laid_math_bits_deBruijn32tab), ("math/bits.deBruijn64tab", laid_math_bits_deBruijn64tab), ("internal/strconv.uint64pow10", laid_internal_strconv_uint64pow10), ("scantling/heads.readies", laid_scantling_heads_readies), ("scantling/next.steps", laid_scantling_next_steps)], narrowed := true }
def EquivTellsUptoSaid : Prop := equivTellsUptoRow.holds Tryz.pinned (OpenSpec.upto equivTellsSpec)

end Rows
end Go.Proofs.YtbojklnokglbhaaGreatDoor
