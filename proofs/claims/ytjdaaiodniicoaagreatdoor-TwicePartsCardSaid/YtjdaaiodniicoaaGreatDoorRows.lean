/-
  NARROWER THAN 'FOR EVERY INPUT', by the rows' own cells (each row's printed sentence says how): ApartParts: laid · TwiceParts: laid · TwiceBuilt: laid · TwiceBound: laid · PrefixBuilt: laid · PrefixCut: laid · PrefixBound: laid · PrefixTells: laid · ApartBound: laid.
  DERIVED. THE GIVEN ROWS OF THIS SEAT. 9 by the template 'for every input the law returns true; each argument reads behind the call as it read before'; 0 by the template 'total and deterministic' (their statements: YtjdaaiodniicoaaGreatDoorTotals.lean).
  GIVEN WITH THE SEED: the statements are not yours to turn. If you find one false, say at which input.
  Laid BY PROGRAM, IN A SANDBOX (cutbox-rows.mjs): the forced cells as the released guide's own fill.sh prints them over the translation 8e7d3247cba4185f… (all of the seat's roots in one cut). By AI agents, Wed Nov 11 2026. No macro, syntax, notation, axiom, sorry.
-/
import Derived.Test.YtjdaaiodniicoaaGreatDoorChecked
import GoSem.Claim
import GoSem.ClaimJoined
import GoSem.ClaimMapViews
import Derived.JoinedTies
import Derived.KernelRfl
namespace Go.Proofs.YtjdaaiodniicoaaGreatDoor
/- THE CELL 'sum', in the pinned program and in every row, IS THE sha256 OF THE DUMP (.gsa) THAT YtjdaaiodniicoaaGreatDoorProg.lean LOADS. Nothing in Lean hashes anything: it is a label: what it is worth is what the hold of that sum in a sandbox is worth. -/
noncomputable def Tryz.pinned : Pinned := { name := "ytjdaaiodniicoaagreatdoor", sum := "8e7d3247cba4185f4e1c0014347cc8cef991c85c145d0393d7ddca11dc815775", checked := Tryz.checked }
namespace Rows
def none {H : Type} : Left H := { results := [], args := [] }

/- WHAT THE LISTED PACKAGE-LEVEL VARIABLES READ AS WHEN THE CALL BEGINS. Each datum BY PROGRAM (the guide's laid-datum.mjs) off the statement by which the dump's own 'gosem.cut.vars' lays the variable. In a bare row this is a premise. The card (YtjdaaiodniicoaaGreatDoorCards.lean) ties it to the program's text. -/
def laid_math_bits_deBruijn32tab {H : Type} : DataW H := .agg [.lit (.int .u8 0), .lit (.int .u8 1), .lit (.int .u8 28), .lit (.int .u8 2), .lit (.int .u8 29), .lit (.int .u8 14), .lit (.int .u8 24), .lit (.int .u8 3), .lit (.int .u8 30), .lit (.int .u8 22), .lit (.int .u8 20), .lit (.int .u8 15), .lit (.int .u8 25), .lit (.int .u8 17), .lit (.int .u8 4), .lit (.int .u8 8), .lit (.int .u8 31), .lit (.int .u8 27), .lit (.int .u8 13), .lit (.int .u8 23), .lit (.int .u8 21), .lit (.int .u8 19), .lit (.int .u8 16), .lit (.int .u8 7), .lit (.int .u8 26), .lit (.int .u8 12), .lit (.int .u8 18), .lit (.int .u8 6), .lit (.int .u8 11), .lit (.int .u8 5), .lit (.int .u8 10), .lit (.int .u8 9)]
def laid_math_bits_deBruijn64tab {H : Type} : DataW H := .agg [.lit (.int .u8 0), .lit (.int .u8 1), .lit (.int .u8 56), .lit (.int .u8 2), .lit (.int .u8 57), .lit (.int .u8 49), .lit (.int .u8 28), .lit (.int .u8 3), .lit (.int .u8 61), .lit (.int .u8 58), .lit (.int .u8 42), .lit (.int .u8 50), .lit (.int .u8 38), .lit (.int .u8 29), .lit (.int .u8 17), .lit (.int .u8 4), .lit (.int .u8 62), .lit (.int .u8 47), .lit (.int .u8 59), .lit (.int .u8 36), .lit (.int .u8 45), .lit (.int .u8 43), .lit (.int .u8 51), .lit (.int .u8 22), .lit (.int .u8 53), .lit (.int .u8 39), .lit (.int .u8 33), .lit (.int .u8 30), .lit (.int .u8 24), .lit (.int .u8 18), .lit (.int .u8 12), .lit (.int .u8 5), .lit (.int .u8 63), .lit (.int .u8 55), .lit (.int .u8 48), .lit (.int .u8 27), .lit (.int .u8 60), .lit (.int .u8 41), .lit (.int .u8 37), .lit (.int .u8 16), .lit (.int .u8 46), .lit (.int .u8 35), .lit (.int .u8 44), .lit (.int .u8 21), .lit (.int .u8 52), .lit (.int .u8 32), .lit (.int .u8 23), .lit (.int .u8 11), .lit (.int .u8 54), .lit (.int .u8 26), .lit (.int .u8 40), .lit (.int .u8 15), .lit (.int .u8 34), .lit (.int .u8 20), .lit (.int .u8 31), .lit (.int .u8 10), .lit (.int .u8 25), .lit (.int .u8 14), .lit (.int .u8 19), .lit (.int .u8 9), .lit (.int .u8 13), .lit (.int .u8 8), .lit (.int .u8 7), .lit (.int .u8 6)]
def laid_internal_strconv_uint64pow10 {H : Type} : DataW H := .agg [.lit (.int .u64 1), .lit (.int .u64 10), .lit (.int .u64 100), .lit (.int .u64 1000), .lit (.int .u64 10000), .lit (.int .u64 100000), .lit (.int .u64 1000000), .lit (.int .u64 10000000), .lit (.int .u64 100000000), .lit (.int .u64 1000000000), .lit (.int .u64 10000000000), .lit (.int .u64 100000000000), .lit (.int .u64 1000000000000), .lit (.int .u64 10000000000000), .lit (.int .u64 100000000000000), .lit (.int .u64 1000000000000000), .lit (.int .u64 10000000000000000), .lit (.int .u64 100000000000000000), .lit (.int .u64 1000000000000000000), .lit (.int .u64 10000000000000000000)]
def laid_scantling_heads_readies {H : Type} : DataW H := .agg [.lit (.bool false), .lit (.bool false), .lit (.bool true), .lit (.bool false), .lit (.bool false), .lit (.bool false), .lit (.bool false), .lit (.bool false), .lit (.bool true), .lit (.bool true)]
def laid_scantling_next_steps {H : Type} : DataW H := .iface "func table" (.map [(.int .i64 1, .iface "func" (.lit (.string [40, 115, 99, 97, 110, 116, 108, 105, 110, 103, 47, 110, 101, 120, 116, 46, 115, 116, 101, 112, 41, 46, 110, 111, 100, 101]))), (.int .i64 3, .iface "func" (.lit (.string [40, 115, 99, 97, 110, 116, 108, 105, 110, 103, 47, 110, 101, 120, 116, 46, 115, 116, 101, 112, 41, 46, 116, 101, 120, 116]))), (.int .i64 4, .iface "func" (.lit (.string [40, 115, 99, 97, 110, 116, 108, 105, 110, 103, 47, 110, 101, 120, 116, 46, 115, 116, 101, 112, 41, 46, 104, 97, 108, 102])))])

/-- 'scantlinglaw22.ApartParts': WHATEVER THE INPUT: true; the input reads as it did. -/
def apartPartsSpec : ChangeSpec := { name := "apartParts", fn := fun _ => fun
  | [d1, d2, d3] => { results := [.lit (.bool true)], args := [d1, d2, d3] }
  | _ => none }
def apartPartsRow : OpenClaim := { program := "ytjdaaiodniicoaagreatdoor", sum := "8e7d3247cba4185f4e1c0014347cc8cef991c85c145d0393d7ddca11dc815775", func := "scantling/scantlinglaw22.ApartParts", spec := "apartParts", inPlace := ["internal/abi.NoEscape"], unfollowed := true, recurses := true, named := ["internal/strconv.uint64pow10", "math/bits.deBruijn32tab", "math/bits.deBruijn64tab", "scantling/heads.readies", "scantling/next.steps"], plainKeys := false, apart := false, laid := [("math/bits.deBruijn32tab", laid_math_bits_deBruijn32tab), ("math/bits.deBruijn64tab", laid_math_bits_deBruijn64tab), ("internal/strconv.uint64pow10", laid_internal_strconv_uint64pow10), ("scantling/heads.readies", laid_scantling_heads_readies), ("scantling/next.steps", laid_scantling_next_steps)] }
def ApartPartsSaid : Prop := apartPartsRow.holds Tryz.pinned (OpenSpec.ofChange apartPartsSpec)

/-- ITS FALSE NEIGHBOUR: 'it returns false'. Refute it at one input. -/
def apartPartsWrong : ChangeSpec := { name := "apartParts", fn := fun _ => fun
  | [d1, d2, d3] => { results := [.lit (.bool false)], args := [d1, d2, d3] }
  | _ => none }
def ApartPartsWrongFalsely : Prop := apartPartsRow.holds Tryz.pinned (OpenSpec.ofChange apartPartsWrong)

/-- 'scantlinglaw20.TwiceParts': WHATEVER THE INPUT: true; the input reads as it did. -/
def twicePartsSpec : ChangeSpec := { name := "twiceParts", fn := fun _ => fun
  | [d1, d2, d3] => { results := [.lit (.bool true)], args := [d1, d2, d3] }
  | _ => none }
def twicePartsRow : OpenClaim := { program := "ytjdaaiodniicoaagreatdoor", sum := "8e7d3247cba4185f4e1c0014347cc8cef991c85c145d0393d7ddca11dc815775", func := "scantling/scantlinglaw20.TwiceParts", spec := "twiceParts", inPlace := ["internal/abi.NoEscape"], unfollowed := true, recurses := true, named := ["internal/strconv.uint64pow10", "math/bits.deBruijn32tab", "math/bits.deBruijn64tab", "scantling/heads.readies", "scantling/next.steps"], plainKeys := false, apart := false, laid := [("math/bits.deBruijn32tab", laid_math_bits_deBruijn32tab), ("math/bits.deBruijn64tab", laid_math_bits_deBruijn64tab), ("internal/strconv.uint64pow10", laid_internal_strconv_uint64pow10), ("scantling/heads.readies", laid_scantling_heads_readies), ("scantling/next.steps", laid_scantling_next_steps)] }
def TwicePartsSaid : Prop := twicePartsRow.holds Tryz.pinned (OpenSpec.ofChange twicePartsSpec)

/-- ITS FALSE NEIGHBOUR: 'it returns false'. Refute it at one input. -/
def twicePartsWrong : ChangeSpec := { name := "twiceParts", fn := fun _ => fun
  | [d1, d2, d3] => { results := [.lit (.bool false)], args := [d1, d2, d3] }
  | _ => none }
def TwicePartsWrongFalsely : Prop := twicePartsRow.holds Tryz.pinned (OpenSpec.ofChange twicePartsWrong)

/-- 'scantlinglaw20.TwiceBuilt': WHATEVER THE INPUT: true; the input reads as it did. -/
def twiceBuiltSpec : ChangeSpec := { name := "twiceBuilt", fn := fun _ => fun
  | [d1, d2, d3] => { results := [.lit (.bool true)], args := [d1, d2, d3] }
  | _ => none }
def twiceBuiltRow : OpenClaim := { program := "ytjdaaiodniicoaagreatdoor", sum := "8e7d3247cba4185f4e1c0014347cc8cef991c85c145d0393d7ddca11dc815775", func := "scantling/scantlinglaw20.TwiceBuilt", spec := "twiceBuilt", inPlace := ["internal/abi.NoEscape"], unfollowed := true, recurses := true, named := ["internal/strconv.uint64pow10", "math/bits.deBruijn32tab", "math/bits.deBruijn64tab", "scantling/heads.readies", "scantling/next.steps"], plainKeys := false, apart := false, laid := [("math/bits.deBruijn32tab", laid_math_bits_deBruijn32tab), ("math/bits.deBruijn64tab", laid_math_bits_deBruijn64tab), ("internal/strconv.uint64pow10", laid_internal_strconv_uint64pow10), ("scantling/heads.readies", laid_scantling_heads_readies), ("scantling/next.steps", laid_scantling_next_steps)] }
def TwiceBuiltSaid : Prop := twiceBuiltRow.holds Tryz.pinned (OpenSpec.ofChange twiceBuiltSpec)

/-- ITS FALSE NEIGHBOUR: 'it returns false'. Refute it at one input. -/
def twiceBuiltWrong : ChangeSpec := { name := "twiceBuilt", fn := fun _ => fun
  | [d1, d2, d3] => { results := [.lit (.bool false)], args := [d1, d2, d3] }
  | _ => none }
def TwiceBuiltWrongFalsely : Prop := twiceBuiltRow.holds Tryz.pinned (OpenSpec.ofChange twiceBuiltWrong)

/-- 'scantlinglaw20.TwiceBound': WHATEVER THE INPUT: true; the input reads as it did. -/
def twiceBoundSpec : ChangeSpec := { name := "twiceBound", fn := fun _ => fun
  | [d1, d2, d3] => { results := [.lit (.bool true)], args := [d1, d2, d3] }
  | _ => none }
def twiceBoundRow : OpenClaim := { program := "ytjdaaiodniicoaagreatdoor", sum := "8e7d3247cba4185f4e1c0014347cc8cef991c85c145d0393d7ddca11dc815775", func := "scantling/scantlinglaw20.TwiceBound", spec := "twiceBound", inPlace := ["internal/abi.NoEscape"], unfollowed := true, recurses := true, named := ["internal/strconv.uint64pow10", "math/bits.deBruijn32tab", "math/bits.deBruijn64tab", "scantling/heads.readies", "scantling/next.steps"], plainKeys := false, apart := false, laid := [("math/bits.deBruijn32tab", laid_math_bits_deBruijn32tab), ("math/bits.deBruijn64tab", laid_math_bits_deBruijn64tab), ("internal/strconv.uint64pow10", laid_internal_strconv_uint64pow10), ("scantling/heads.readies", laid_scantling_heads_readies), ("scantling/next.steps", laid_scantling_next_steps)] }
def TwiceBoundSaid : Prop := twiceBoundRow.holds Tryz.pinned (OpenSpec.ofChange twiceBoundSpec)

/-- ITS FALSE NEIGHBOUR: 'it returns false'. Refute it at one input. -/
def twiceBoundWrong : ChangeSpec := { name := "twiceBound", fn := fun _ => fun
  | [d1, d2, d3] => { results := [.lit (.bool false)], args := [d1, d2, d3] }
  | _ => none }
def TwiceBoundWrongFalsely : Prop := twiceBoundRow.holds Tryz.pinned (OpenSpec.ofChange twiceBoundWrong)

/-- 'scantlinglaw21.PrefixBuilt': WHATEVER THE INPUT: true; the input reads as it did. -/
def prefixBuiltSpec : ChangeSpec := { name := "prefixBuilt", fn := fun _ => fun
  | [d1, d2, d3] => { results := [.lit (.bool true)], args := [d1, d2, d3] }
  | _ => none }
def prefixBuiltRow : OpenClaim := { program := "ytjdaaiodniicoaagreatdoor", sum := "8e7d3247cba4185f4e1c0014347cc8cef991c85c145d0393d7ddca11dc815775", func := "scantling/scantlinglaw21.PrefixBuilt", spec := "prefixBuilt", inPlace := ["internal/abi.NoEscape"], unfollowed := true, recurses := true, named := ["internal/strconv.uint64pow10", "math/bits.deBruijn32tab", "math/bits.deBruijn64tab", "scantling/heads.readies", "scantling/next.steps"], plainKeys := false, apart := false, laid := [("math/bits.deBruijn32tab", laid_math_bits_deBruijn32tab), ("math/bits.deBruijn64tab", laid_math_bits_deBruijn64tab), ("internal/strconv.uint64pow10", laid_internal_strconv_uint64pow10), ("scantling/heads.readies", laid_scantling_heads_readies), ("scantling/next.steps", laid_scantling_next_steps)] }
def PrefixBuiltSaid : Prop := prefixBuiltRow.holds Tryz.pinned (OpenSpec.ofChange prefixBuiltSpec)

/-- ITS FALSE NEIGHBOUR: 'it returns false'. Refute it at one input. -/
def prefixBuiltWrong : ChangeSpec := { name := "prefixBuilt", fn := fun _ => fun
  | [d1, d2, d3] => { results := [.lit (.bool false)], args := [d1, d2, d3] }
  | _ => none }
def PrefixBuiltWrongFalsely : Prop := prefixBuiltRow.holds Tryz.pinned (OpenSpec.ofChange prefixBuiltWrong)

/-- 'scantlinglaw21.PrefixCut': WHATEVER THE INPUT: true; the input reads as it did. -/
def prefixCutSpec : ChangeSpec := { name := "prefixCut", fn := fun _ => fun
  | [d1, d2, d3] => { results := [.lit (.bool true)], args := [d1, d2, d3] }
  | _ => none }
def prefixCutRow : OpenClaim := { program := "ytjdaaiodniicoaagreatdoor", sum := "8e7d3247cba4185f4e1c0014347cc8cef991c85c145d0393d7ddca11dc815775", func := "scantling/scantlinglaw21.PrefixCut", spec := "prefixCut", inPlace := ["internal/abi.NoEscape"], unfollowed := true, recurses := true, named := ["internal/strconv.uint64pow10", "math/bits.deBruijn32tab", "math/bits.deBruijn64tab", "scantling/heads.readies", "scantling/next.steps"], plainKeys := false, apart := false, laid := [("math/bits.deBruijn32tab", laid_math_bits_deBruijn32tab), ("math/bits.deBruijn64tab", laid_math_bits_deBruijn64tab), ("internal/strconv.uint64pow10", laid_internal_strconv_uint64pow10), ("scantling/heads.readies", laid_scantling_heads_readies), ("scantling/next.steps", laid_scantling_next_steps)] }
def PrefixCutSaid : Prop := prefixCutRow.holds Tryz.pinned (OpenSpec.ofChange prefixCutSpec)

/-- ITS FALSE NEIGHBOUR: 'it returns false'. Refute it at one input. -/
def prefixCutWrong : ChangeSpec := { name := "prefixCut", fn := fun _ => fun
  | [d1, d2, d3] => { results := [.lit (.bool false)], args := [d1, d2, d3] }
  | _ => none }
def PrefixCutWrongFalsely : Prop := prefixCutRow.holds Tryz.pinned (OpenSpec.ofChange prefixCutWrong)

/-- 'scantlinglaw21.PrefixBound': WHATEVER THE INPUT: true; the input reads as it did. -/
def prefixBoundSpec : ChangeSpec := { name := "prefixBound", fn := fun _ => fun
  | [d1, d2, d3] => { results := [.lit (.bool true)], args := [d1, d2, d3] }
  | _ => none }
def prefixBoundRow : OpenClaim := { program := "ytjdaaiodniicoaagreatdoor", sum := "8e7d3247cba4185f4e1c0014347cc8cef991c85c145d0393d7ddca11dc815775", func := "scantling/scantlinglaw21.PrefixBound", spec := "prefixBound", inPlace := ["internal/abi.NoEscape"], unfollowed := true, recurses := true, named := ["internal/strconv.uint64pow10", "math/bits.deBruijn32tab", "math/bits.deBruijn64tab", "scantling/heads.readies", "scantling/next.steps"], plainKeys := false, apart := false, laid := [("math/bits.deBruijn32tab", laid_math_bits_deBruijn32tab), ("math/bits.deBruijn64tab", laid_math_bits_deBruijn64tab), ("internal/strconv.uint64pow10", laid_internal_strconv_uint64pow10), ("scantling/heads.readies", laid_scantling_heads_readies), ("scantling/next.steps", laid_scantling_next_steps)] }
def PrefixBoundSaid : Prop := prefixBoundRow.holds Tryz.pinned (OpenSpec.ofChange prefixBoundSpec)

/-- ITS FALSE NEIGHBOUR: 'it returns false'. Refute it at one input. -/
def prefixBoundWrong : ChangeSpec := { name := "prefixBound", fn := fun _ => fun
  | [d1, d2, d3] => { results := [.lit (.bool false)], args := [d1, d2, d3] }
  | _ => none }
def PrefixBoundWrongFalsely : Prop := prefixBoundRow.holds Tryz.pinned (OpenSpec.ofChange prefixBoundWrong)

/-- 'scantlinglaw21.PrefixTells': WHATEVER THE INPUT: true; the input reads as it did. -/
def prefixTellsSpec : ChangeSpec := { name := "prefixTells", fn := fun _ => fun
  | [d1, d2, d3, d4] => { results := [.lit (.bool true)], args := [d1, d2, d3, d4] }
  | _ => none }
def prefixTellsRow : OpenClaim := { program := "ytjdaaiodniicoaagreatdoor", sum := "8e7d3247cba4185f4e1c0014347cc8cef991c85c145d0393d7ddca11dc815775", func := "scantling/scantlinglaw21.PrefixTells", spec := "prefixTells", inPlace := ["internal/abi.NoEscape"], unfollowed := true, recurses := true, named := ["internal/strconv.uint64pow10", "math/bits.deBruijn32tab", "math/bits.deBruijn64tab", "scantling/heads.readies", "scantling/next.steps"], plainKeys := false, apart := false, laid := [("math/bits.deBruijn32tab", laid_math_bits_deBruijn32tab), ("math/bits.deBruijn64tab", laid_math_bits_deBruijn64tab), ("internal/strconv.uint64pow10", laid_internal_strconv_uint64pow10), ("scantling/heads.readies", laid_scantling_heads_readies), ("scantling/next.steps", laid_scantling_next_steps)] }
def PrefixTellsSaid : Prop := prefixTellsRow.holds Tryz.pinned (OpenSpec.ofChange prefixTellsSpec)

/-- ITS FALSE NEIGHBOUR: 'it returns false'. Refute it at one input. -/
def prefixTellsWrong : ChangeSpec := { name := "prefixTells", fn := fun _ => fun
  | [d1, d2, d3, d4] => { results := [.lit (.bool false)], args := [d1, d2, d3, d4] }
  | _ => none }
def PrefixTellsWrongFalsely : Prop := prefixTellsRow.holds Tryz.pinned (OpenSpec.ofChange prefixTellsWrong)

/-- 'scantlinglaw22.ApartBound': WHATEVER THE INPUT: true; the input reads as it did. -/
def apartBoundSpec : ChangeSpec := { name := "apartBound", fn := fun _ => fun
  | [d1, d2, d3, d4] => { results := [.lit (.bool true)], args := [d1, d2, d3, d4] }
  | _ => none }
def apartBoundRow : OpenClaim := { program := "ytjdaaiodniicoaagreatdoor", sum := "8e7d3247cba4185f4e1c0014347cc8cef991c85c145d0393d7ddca11dc815775", func := "scantling/scantlinglaw22.ApartBound", spec := "apartBound", inPlace := ["internal/abi.NoEscape"], unfollowed := true, recurses := true, named := ["internal/strconv.uint64pow10", "math/bits.deBruijn32tab", "math/bits.deBruijn64tab", "scantling/heads.readies", "scantling/next.steps"], plainKeys := false, apart := false, laid := [("math/bits.deBruijn32tab", laid_math_bits_deBruijn32tab), ("math/bits.deBruijn64tab", laid_math_bits_deBruijn64tab), ("internal/strconv.uint64pow10", laid_internal_strconv_uint64pow10), ("scantling/heads.readies", laid_scantling_heads_readies), ("scantling/next.steps", laid_scantling_next_steps)] }
def ApartBoundSaid : Prop := apartBoundRow.holds Tryz.pinned (OpenSpec.ofChange apartBoundSpec)

/-- ITS FALSE NEIGHBOUR: 'it returns false'. Refute it at one input. -/
def apartBoundWrong : ChangeSpec := { name := "apartBound", fn := fun _ => fun
  | [d1, d2, d3, d4] => { results := [.lit (.bool false)], args := [d1, d2, d3, d4] }
  | _ => none }
def ApartBoundWrongFalsely : Prop := apartBoundRow.holds Tryz.pinned (OpenSpec.ofChange apartBoundWrong)

/- THE SECOND FORM. 'bulk': how many values and letters a reading holds, each counted each time it is reached (what is shared counts as often as it is met; a slice's spare places count too). A statement '..UptoSaid' is the law's where the arguments, and the package variables that the reading takes, are together of bulk at most 1048576: NARROWER than '..Said'. Prove '..Said' where nothing that the law and all that it calls make is longer than what came in: it says more and counts as full. Else prove '..UptoSaid'. A law counts once. -/
mutual
def uptoBulk {H : Type} : DataW H → Nat
  | .lit (.string bytes) => bytes.length + 1
  | .lit _ => 1
  | .nil => 1
  | .ptr d => uptoBulk d + 1
  | .slice elems spare => uptoBulkAll elems + uptoBulkAll spare + 1
  | .agg parts => uptoBulkAll parts + 1
  | .iface _ d => uptoBulk d + 1
  | .map entries => uptoBulkEntries entries + 1
  | .held _ => 1
def uptoBulkAll {H : Type} : List (DataW H) → Nat
  | [] => 0
  | d :: r => uptoBulk d + uptoBulkAll r
def uptoBulkEntries {H : Type} : List (Lit × DataW H) → Nat
  | [] => 0
  | x :: r => uptoBulkEntry x + uptoBulkEntries r
def uptoBulkEntry {H : Type} : Lit × DataW H → Nat
  | (.string bytes, d) => bytes.length + uptoBulk d + 1
  | (_, d) => uptoBulk d + 1
 end
def uptoSmall : (H : Type) → List (DataW H) → Bool := fun _ ds => decide (uptoBulkAll ds ≤ 1048576)
def OpenSpec.upto (s : _root_.Go.ChangeSpec) : _root_.Go.OpenSpec := { _root_.Go.OpenSpec.ofChange s with cond := some uptoSmall }

/-- 'scantlinglaw22.ApartParts', WHERE WHAT IT READS IS OF BULK AT MOST 1048576: true; the input reads as it did. -/
def apartPartsUptoRow : OpenClaim := { program := "ytjdaaiodniicoaagreatdoor", sum := "8e7d3247cba4185f4e1c0014347cc8cef991c85c145d0393d7ddca11dc815775", func := "scantling/scantlinglaw22.ApartParts", spec := "apartParts", inPlace := ["internal/abi.NoEscape"], unfollowed := true, recurses := true, named := ["internal/strconv.uint64pow10", "math/bits.deBruijn32tab", "math/bits.deBruijn64tab", "scantling/heads.readies", "scantling/next.steps"], plainKeys := false, apart := false, laid := [("math/bits.deBruijn32tab", laid_math_bits_deBruijn32tab), ("math/bits.deBruijn64tab", laid_math_bits_deBruijn64tab), ("internal/strconv.uint64pow10", laid_internal_strconv_uint64pow10), ("scantling/heads.readies", laid_scantling_heads_readies), ("scantling/next.steps", laid_scantling_next_steps)], narrowed := true }
def ApartPartsUptoSaid : Prop := apartPartsUptoRow.holds Tryz.pinned (OpenSpec.upto apartPartsSpec)

/-- 'scantlinglaw20.TwiceParts', WHERE WHAT IT READS IS OF BULK AT MOST 1048576: true; the input reads as it did. -/
def twicePartsUptoRow : OpenClaim := { program := "ytjdaaiodniicoaagreatdoor", sum := "8e7d3247cba4185f4e1c0014347cc8cef991c85c145d0393d7ddca11dc815775", func := "scantling/scantlinglaw20.TwiceParts", spec := "twiceParts", inPlace := ["internal/abi.NoEscape"], unfollowed := true, recurses := true, named := ["internal/strconv.uint64pow10", "math/bits.deBruijn32tab", "math/bits.deBruijn64tab", "scantling/heads.readies", "scantling/next.steps"], plainKeys := false, apart := false, laid := [("math/bits.deBruijn32tab", laid_math_bits_deBruijn32tab), ("math/bits.deBruijn64tab", laid_math_bits_deBruijn64tab), ("internal/strconv.uint64pow10", laid_internal_strconv_uint64pow10), ("scantling/heads.readies", laid_scantling_heads_readies), ("scantling/next.steps", laid_scantling_next_steps)], narrowed := true }
def TwicePartsUptoSaid : Prop := twicePartsUptoRow.holds Tryz.pinned (OpenSpec.upto twicePartsSpec)

/-- 'scantlinglaw20.TwiceBuilt', WHERE WHAT IT READS IS OF BULK AT MOST 1048576: true; the input reads as it did. -/
def twiceBuiltUptoRow : OpenClaim := { program := "ytjdaaiodniicoaagreatdoor", sum := "8e7d3247cba4185f4e1c0014347cc8cef991c85c145d0393d7ddca11dc815775", func := "scantling/scantlinglaw20.TwiceBuilt", spec := "twiceBuilt", inPlace := ["internal/abi.NoEscape"], unfollowed := true, recurses := true, named := ["internal/strconv.uint64pow10", "math/bits.deBruijn32tab", "math/bits.deBruijn64tab", "scantling/heads.readies", "scantling/next.steps"], plainKeys := false, apart := false, laid := [("math/bits.deBruijn32tab", laid_math_bits_deBruijn32tab), ("math/bits.deBruijn64tab", laid_math_bits_deBruijn64tab), ("internal/strconv.uint64pow10", laid_internal_strconv_uint64pow10), ("scantling/heads.readies", laid_scantling_heads_readies), ("scantling/next.steps", laid_scantling_next_steps)], narrowed := true }
def TwiceBuiltUptoSaid : Prop := twiceBuiltUptoRow.holds Tryz.pinned (OpenSpec.upto twiceBuiltSpec)

/-- 'scantlinglaw20.TwiceBound', WHERE WHAT IT READS IS OF BULK AT MOST 1048576: true; the input reads as it did. -/
def twiceBoundUptoRow : OpenClaim := { program := "ytjdaaiodniicoaagreatdoor", sum := "8e7d3247cba4185f4e1c0014347cc8cef991c85c145d0393d7ddca11dc815775", func := "scantling/scantlinglaw20.TwiceBound", spec := "twiceBound", inPlace := ["internal/abi.NoEscape"], unfollowed := true, recurses := true, named := ["internal/strconv.uint64pow10", "math/bits.deBruijn32tab", "math/bits.deBruijn64tab", "scantling/heads.readies", "scantling/next.steps"], plainKeys := false, apart := false, laid := [("math/bits.deBruijn32tab", laid_math_bits_deBruijn32tab), ("math/bits.deBruijn64tab", laid_math_bits_deBruijn64tab), ("internal/strconv.uint64pow10", laid_internal_strconv_uint64pow10), ("scantling/heads.readies", laid_scantling_heads_readies), ("scantling/next.steps", laid_scantling_next_steps)], narrowed := true }
def TwiceBoundUptoSaid : Prop := twiceBoundUptoRow.holds Tryz.pinned (OpenSpec.upto twiceBoundSpec)

/-- 'scantlinglaw21.PrefixBuilt', WHERE WHAT IT READS IS OF BULK AT MOST 1048576: true; the input reads as it did. -/
def prefixBuiltUptoRow : OpenClaim := { program := "ytjdaaiodniicoaagreatdoor", sum := "8e7d3247cba4185f4e1c0014347cc8cef991c85c145d0393d7ddca11dc815775", func := "scantling/scantlinglaw21.PrefixBuilt", spec := "prefixBuilt", inPlace := ["internal/abi.NoEscape"], unfollowed := true, recurses := true, named := ["internal/strconv.uint64pow10", "math/bits.deBruijn32tab", "math/bits.deBruijn64tab", "scantling/heads.readies", "scantling/next.steps"], plainKeys := false, apart := false, laid := [("math/bits.deBruijn32tab", laid_math_bits_deBruijn32tab), ("math/bits.deBruijn64tab", laid_math_bits_deBruijn64tab), ("internal/strconv.uint64pow10", laid_internal_strconv_uint64pow10), ("scantling/heads.readies", laid_scantling_heads_readies), ("scantling/next.steps", laid_scantling_next_steps)], narrowed := true }
def PrefixBuiltUptoSaid : Prop := prefixBuiltUptoRow.holds Tryz.pinned (OpenSpec.upto prefixBuiltSpec)

/-- 'scantlinglaw21.PrefixCut', WHERE WHAT IT READS IS OF BULK AT MOST 1048576: true; the input reads as it did. -/
def prefixCutUptoRow : OpenClaim := { program := "ytjdaaiodniicoaagreatdoor", sum := "8e7d3247cba4185f4e1c0014347cc8cef991c85c145d0393d7ddca11dc815775", func := "scantling/scantlinglaw21.PrefixCut", spec := "prefixCut", inPlace := ["internal/abi.NoEscape"], unfollowed := true, recurses := true, named := ["internal/strconv.uint64pow10", "math/bits.deBruijn32tab", "math/bits.deBruijn64tab", "scantling/heads.readies", "scantling/next.steps"], plainKeys := false, apart := false, laid := [("math/bits.deBruijn32tab", laid_math_bits_deBruijn32tab), ("math/bits.deBruijn64tab", laid_math_bits_deBruijn64tab), ("internal/strconv.uint64pow10", laid_internal_strconv_uint64pow10), ("scantling/heads.readies", laid_scantling_heads_readies), ("scantling/next.steps", laid_scantling_next_steps)], narrowed := true }
def PrefixCutUptoSaid : Prop := prefixCutUptoRow.holds Tryz.pinned (OpenSpec.upto prefixCutSpec)

/-- 'scantlinglaw21.PrefixBound', WHERE WHAT IT READS IS OF BULK AT MOST 1048576: true; the input reads as it did. -/
def prefixBoundUptoRow : OpenClaim := { program := "ytjdaaiodniicoaagreatdoor", sum := "8e7d3247cba4185f4e1c0014347cc8cef991c85c145d0393d7ddca11dc815775", func := "scantling/scantlinglaw21.PrefixBound", spec := "prefixBound", inPlace := ["internal/abi.NoEscape"], unfollowed := true, recurses := true, named := ["internal/strconv.uint64pow10", "math/bits.deBruijn32tab", "math/bits.deBruijn64tab", "scantling/heads.readies", "scantling/next.steps"], plainKeys := false, apart := false, laid := [("math/bits.deBruijn32tab", laid_math_bits_deBruijn32tab), ("math/bits.deBruijn64tab", laid_math_bits_deBruijn64tab), ("internal/strconv.uint64pow10", laid_internal_strconv_uint64pow10), ("scantling/heads.readies", laid_scantling_heads_readies), ("scantling/next.steps", laid_scantling_next_steps)], narrowed := true }
def PrefixBoundUptoSaid : Prop := prefixBoundUptoRow.holds Tryz.pinned (OpenSpec.upto prefixBoundSpec)

/-- 'scantlinglaw21.PrefixTells', WHERE WHAT IT READS IS OF BULK AT MOST 1048576: true; the input reads as it did. -/
def prefixTellsUptoRow : OpenClaim := { program := "ytjdaaiodniicoaagreatdoor", sum := "8e7d3247cba4185f4e1c0014347cc8cef991c85c145d0393d7ddca11dc815775", func := "scantling/scantlinglaw21.PrefixTells", spec := "prefixTells", inPlace := ["internal/abi.NoEscape"], unfollowed := true, recurses := true, named := ["internal/strconv.uint64pow10", "math/bits.deBruijn32tab", "math/bits.deBruijn64tab", "scantling/heads.readies", "scantling/next.steps"], plainKeys := false, apart := false, laid := [("math/bits.deBruijn32tab", laid_math_bits_deBruijn32tab), ("math/bits.deBruijn64tab", laid_math_bits_deBruijn64tab), ("internal/strconv.uint64pow10", laid_internal_strconv_uint64pow10), ("scantling/heads.readies", laid_scantling_heads_readies), ("scantling/next.steps", laid_scantling_next_steps)], narrowed := true }
def PrefixTellsUptoSaid : Prop := prefixTellsUptoRow.holds Tryz.pinned (OpenSpec.upto prefixTellsSpec)

/-- 'scantlinglaw22.ApartBound', WHERE WHAT IT READS IS OF BULK AT MOST 1048576: true; the input reads as it did. -/
def apartBoundUptoRow : OpenClaim := { program := "ytjdaaiodniicoaagreatdoor", sum := "8e7d3247cba4185f4e1c0014347cc8cef991c85c145d0393d7ddca11dc815775", func := "scantling/scantlinglaw22.ApartBound", spec := "apartBound", inPlace := ["internal/abi.NoEscape"], unfollowed := true, recurses := true, named := ["internal/strconv.uint64pow10", "math/bits.deBruijn32tab", "math/bits.deBruijn64tab", "scantling/heads.readies", "scantling/next.steps"], plainKeys := false, apart := false, laid := [("math/bits.deBruijn32tab", laid_math_bits_deBruijn32tab), ("math/bits.deBruijn64tab", laid_math_bits_deBruijn64tab), ("internal/strconv.uint64pow10", laid_internal_strconv_uint64pow10), ("scantling/heads.readies", laid_scantling_heads_readies), ("scantling/next.steps", laid_scantling_next_steps)], narrowed := true }
def ApartBoundUptoSaid : Prop := apartBoundUptoRow.holds Tryz.pinned (OpenSpec.upto apartBoundSpec)

end Rows
end Go.Proofs.YtjdaaiodniicoaaGreatDoor
