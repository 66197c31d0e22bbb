/-
  NARROWER THAN 'FOR EVERY INPUT', by the rows' own cells (each row's printed sentence says how): SetsTell: laid · SetsFollow: laid · SetsBytes: laid · SetsParts: laid · SetsAfter: laid · SetsOnce: laid · WordTells: laid · WordLeast: laid · WordBound: laid.
  DERIVED. THE GIVEN ROWS OF THIS SEAT. 9 by the template 'for every input the law returns true; each argument reads behind the call as it read before'; 0 by the template 'total and deterministic' (their statements: YtahgmdbioafmbaaGreatDoorTotals.lean).
  GIVEN WITH THE SEED: the statements are not yours to turn. If you find one false, say at which input.
  Laid BY PROGRAM, IN A SANDBOX (cutbox-rows.mjs): the forced cells as the released guide's own fill.sh prints them over the translation 5176dd623c27ad31… (all of the seat's roots in one cut). By AI agents, Wed Nov 11 2026. No macro, syntax, notation, axiom, sorry.
-/
import Derived.Test.YtahgmdbioafmbaaGreatDoorChecked
import GoSem.Claim
import GoSem.ClaimJoined
import GoSem.ClaimMapViews
import Derived.JoinedTies
import Derived.KernelRfl
namespace Go.Proofs.YtahgmdbioafmbaaGreatDoor
/- THE CELL 'sum', in the pinned program and in every row, IS THE sha256 OF THE DUMP (.gsa) THAT YtahgmdbioafmbaaGreatDoorProg.lean LOADS. Nothing in Lean hashes anything: it is a label: what it is worth is what the hold of that sum in a sandbox is worth. -/
noncomputable def Tryz.pinned : Pinned := { name := "ytahgmdbioafmbaagreatdoor", sum := "5176dd623c27ad31bf49f8dff76c3df118cc4fd7a3b7fa67309531991bbfd950", checked := Tryz.checked }
namespace Rows
def none {H : Type} : Left H := { results := [], args := [] }

/- WHAT THE LISTED PACKAGE-LEVEL VARIABLES READ AS WHEN THE CALL BEGINS. Each datum BY PROGRAM (the guide's laid-datum.mjs) off the statement by which the dump's own 'gosem.cut.vars' lays the variable. In a bare row this is a premise. The card (YtahgmdbioafmbaaGreatDoorCards.lean) ties it to the program's text. -/
def laid_math_bits_deBruijn32tab {H : Type} : DataW H := .agg [.lit (.int .u8 0), .lit (.int .u8 1), .lit (.int .u8 28), .lit (.int .u8 2), .lit (.int .u8 29), .lit (.int .u8 14), .lit (.int .u8 24), .lit (.int .u8 3), .lit (.int .u8 30), .lit (.int .u8 22), .lit (.int .u8 20), .lit (.int .u8 15), .lit (.int .u8 25), .lit (.int .u8 17), .lit (.int .u8 4), .lit (.int .u8 8), .lit (.int .u8 31), .lit (.int .u8 27), .lit (.int .u8 13), .lit (.int .u8 23), .lit (.int .u8 21), .lit (.int .u8 19), .lit (.int .u8 16), .lit (.int .u8 7), .lit (.int .u8 26), .lit (.int .u8 12), .lit (.int .u8 18), .lit (.int .u8 6), .lit (.int .u8 11), .lit (.int .u8 5), .lit (.int .u8 10), .lit (.int .u8 9)]
def laid_math_bits_deBruijn64tab {H : Type} : DataW H := .agg [.lit (.int .u8 0), .lit (.int .u8 1), .lit (.int .u8 56), .lit (.int .u8 2), .lit (.int .u8 57), .lit (.int .u8 49), .lit (.int .u8 28), .lit (.int .u8 3), .lit (.int .u8 61), .lit (.int .u8 58), .lit (.int .u8 42), .lit (.int .u8 50), .lit (.int .u8 38), .lit (.int .u8 29), .lit (.int .u8 17), .lit (.int .u8 4), .lit (.int .u8 62), .lit (.int .u8 47), .lit (.int .u8 59), .lit (.int .u8 36), .lit (.int .u8 45), .lit (.int .u8 43), .lit (.int .u8 51), .lit (.int .u8 22), .lit (.int .u8 53), .lit (.int .u8 39), .lit (.int .u8 33), .lit (.int .u8 30), .lit (.int .u8 24), .lit (.int .u8 18), .lit (.int .u8 12), .lit (.int .u8 5), .lit (.int .u8 63), .lit (.int .u8 55), .lit (.int .u8 48), .lit (.int .u8 27), .lit (.int .u8 60), .lit (.int .u8 41), .lit (.int .u8 37), .lit (.int .u8 16), .lit (.int .u8 46), .lit (.int .u8 35), .lit (.int .u8 44), .lit (.int .u8 21), .lit (.int .u8 52), .lit (.int .u8 32), .lit (.int .u8 23), .lit (.int .u8 11), .lit (.int .u8 54), .lit (.int .u8 26), .lit (.int .u8 40), .lit (.int .u8 15), .lit (.int .u8 34), .lit (.int .u8 20), .lit (.int .u8 31), .lit (.int .u8 10), .lit (.int .u8 25), .lit (.int .u8 14), .lit (.int .u8 19), .lit (.int .u8 9), .lit (.int .u8 13), .lit (.int .u8 8), .lit (.int .u8 7), .lit (.int .u8 6)]
def laid_internal_strconv_uint64pow10 {H : Type} : DataW H := .agg [.lit (.int .u64 1), .lit (.int .u64 10), .lit (.int .u64 100), .lit (.int .u64 1000), .lit (.int .u64 10000), .lit (.int .u64 100000), .lit (.int .u64 1000000), .lit (.int .u64 10000000), .lit (.int .u64 100000000), .lit (.int .u64 1000000000), .lit (.int .u64 10000000000), .lit (.int .u64 100000000000), .lit (.int .u64 1000000000000), .lit (.int .u64 10000000000000), .lit (.int .u64 100000000000000), .lit (.int .u64 1000000000000000), .lit (.int .u64 10000000000000000), .lit (.int .u64 100000000000000000), .lit (.int .u64 1000000000000000000), .lit (.int .u64 10000000000000000000)]
def laid_scantling_heads_readies {H : Type} : DataW H := .agg [.lit (.bool false), .lit (.bool false), .lit (.bool true), .lit (.bool false), .lit (.bool false), .lit (.bool false), .lit (.bool false), .lit (.bool false), .lit (.bool true), .lit (.bool true)]
def laid_scantling_next_steps {H : Type} : DataW H := .iface "func table" (.map [(.int .i64 1, .iface "func" (.lit (.string [40, 115, 99, 97, 110, 116, 108, 105, 110, 103, 47, 110, 101, 120, 116, 46, 115, 116, 101, 112, 41, 46, 110, 111, 100, 101]))), (.int .i64 3, .iface "func" (.lit (.string [40, 115, 99, 97, 110, 116, 108, 105, 110, 103, 47, 110, 101, 120, 116, 46, 115, 116, 101, 112, 41, 46, 116, 101, 120, 116]))), (.int .i64 4, .iface "func" (.lit (.string [40, 115, 99, 97, 110, 116, 108, 105, 110, 103, 47, 110, 101, 120, 116, 46, 115, 116, 101, 112, 41, 46, 104, 97, 108, 102])))])

/-- 'scantlinglaw16.SetsTell': WHATEVER THE INPUT: true; the input reads as it did. -/
def setsTellSpec : ChangeSpec := { name := "setsTell", fn := fun _ => fun
  | [d1, d2, d3, d4] => { results := [.lit (.bool true)], args := [d1, d2, d3, d4] }
  | _ => none }
def setsTellRow : OpenClaim := { program := "ytahgmdbioafmbaagreatdoor", sum := "5176dd623c27ad31bf49f8dff76c3df118cc4fd7a3b7fa67309531991bbfd950", func := "scantling/scantlinglaw16.SetsTell", spec := "setsTell", inPlace := ["internal/abi.NoEscape"], unfollowed := true, recurses := true, named := ["internal/strconv.uint64pow10", "math/bits.deBruijn32tab", "math/bits.deBruijn64tab", "scantling/heads.readies", "scantling/next.steps"], plainKeys := false, apart := false, laid := [("math/bits.deBruijn32tab", laid_math_bits_deBruijn32tab), ("math/bits.deBruijn64tab", laid_math_bits_deBruijn64tab), ("internal/strconv.uint64pow10", laid_internal_strconv_uint64pow10), ("scantling/heads.readies", laid_scantling_heads_readies), ("scantling/next.steps", laid_scantling_next_steps)] }
def SetsTellSaid : Prop := setsTellRow.holds Tryz.pinned (OpenSpec.ofChange setsTellSpec)

/-- ITS FALSE NEIGHBOUR: 'it returns false'. Refute it at one input. -/
def setsTellWrong : ChangeSpec := { name := "setsTell", fn := fun _ => fun
  | [d1, d2, d3, d4] => { results := [.lit (.bool false)], args := [d1, d2, d3, d4] }
  | _ => none }
def SetsTellWrongFalsely : Prop := setsTellRow.holds Tryz.pinned (OpenSpec.ofChange setsTellWrong)

/-- 'scantlinglaw16.SetsFollow': WHATEVER THE INPUT: true; the input reads as it did. -/
def setsFollowSpec : ChangeSpec := { name := "setsFollow", fn := fun _ => fun
  | [d1, d2, d3] => { results := [.lit (.bool true)], args := [d1, d2, d3] }
  | _ => none }
def setsFollowRow : OpenClaim := { program := "ytahgmdbioafmbaagreatdoor", sum := "5176dd623c27ad31bf49f8dff76c3df118cc4fd7a3b7fa67309531991bbfd950", func := "scantling/scantlinglaw16.SetsFollow", spec := "setsFollow", inPlace := ["internal/abi.NoEscape"], unfollowed := true, recurses := true, named := ["internal/strconv.uint64pow10", "math/bits.deBruijn32tab", "math/bits.deBruijn64tab", "scantling/heads.readies", "scantling/next.steps"], plainKeys := false, apart := false, laid := [("math/bits.deBruijn32tab", laid_math_bits_deBruijn32tab), ("math/bits.deBruijn64tab", laid_math_bits_deBruijn64tab), ("internal/strconv.uint64pow10", laid_internal_strconv_uint64pow10), ("scantling/heads.readies", laid_scantling_heads_readies), ("scantling/next.steps", laid_scantling_next_steps)] }
def SetsFollowSaid : Prop := setsFollowRow.holds Tryz.pinned (OpenSpec.ofChange setsFollowSpec)

/-- ITS FALSE NEIGHBOUR: 'it returns false'. Refute it at one input. -/
def setsFollowWrong : ChangeSpec := { name := "setsFollow", fn := fun _ => fun
  | [d1, d2, d3] => { results := [.lit (.bool false)], args := [d1, d2, d3] }
  | _ => none }
def SetsFollowWrongFalsely : Prop := setsFollowRow.holds Tryz.pinned (OpenSpec.ofChange setsFollowWrong)

/-- 'scantlinglaw16.SetsBytes': WHATEVER THE INPUT: true; the input reads as it did. -/
def setsBytesSpec : ChangeSpec := { name := "setsBytes", fn := fun _ => fun
  | [d1, d2, d3] => { results := [.lit (.bool true)], args := [d1, d2, d3] }
  | _ => none }
def setsBytesRow : OpenClaim := { program := "ytahgmdbioafmbaagreatdoor", sum := "5176dd623c27ad31bf49f8dff76c3df118cc4fd7a3b7fa67309531991bbfd950", func := "scantling/scantlinglaw16.SetsBytes", spec := "setsBytes", inPlace := ["internal/abi.NoEscape"], unfollowed := true, recurses := true, named := ["internal/strconv.uint64pow10", "math/bits.deBruijn32tab", "math/bits.deBruijn64tab", "scantling/heads.readies", "scantling/next.steps"], plainKeys := false, apart := false, laid := [("math/bits.deBruijn32tab", laid_math_bits_deBruijn32tab), ("math/bits.deBruijn64tab", laid_math_bits_deBruijn64tab), ("internal/strconv.uint64pow10", laid_internal_strconv_uint64pow10), ("scantling/heads.readies", laid_scantling_heads_readies), ("scantling/next.steps", laid_scantling_next_steps)] }
def SetsBytesSaid : Prop := setsBytesRow.holds Tryz.pinned (OpenSpec.ofChange setsBytesSpec)

/-- ITS FALSE NEIGHBOUR: 'it returns false'. Refute it at one input. -/
def setsBytesWrong : ChangeSpec := { name := "setsBytes", fn := fun _ => fun
  | [d1, d2, d3] => { results := [.lit (.bool false)], args := [d1, d2, d3] }
  | _ => none }
def SetsBytesWrongFalsely : Prop := setsBytesRow.holds Tryz.pinned (OpenSpec.ofChange setsBytesWrong)

/-- 'scantlinglaw16.SetsParts': WHATEVER THE INPUT: true; the input reads as it did. -/
def setsPartsSpec : ChangeSpec := { name := "setsParts", fn := fun _ => fun
  | [d1, d2, d3] => { results := [.lit (.bool true)], args := [d1, d2, d3] }
  | _ => none }
def setsPartsRow : OpenClaim := { program := "ytahgmdbioafmbaagreatdoor", sum := "5176dd623c27ad31bf49f8dff76c3df118cc4fd7a3b7fa67309531991bbfd950", func := "scantling/scantlinglaw16.SetsParts", spec := "setsParts", inPlace := ["internal/abi.NoEscape"], unfollowed := true, recurses := true, named := ["internal/strconv.uint64pow10", "math/bits.deBruijn32tab", "math/bits.deBruijn64tab", "scantling/heads.readies", "scantling/next.steps"], plainKeys := false, apart := false, laid := [("math/bits.deBruijn32tab", laid_math_bits_deBruijn32tab), ("math/bits.deBruijn64tab", laid_math_bits_deBruijn64tab), ("internal/strconv.uint64pow10", laid_internal_strconv_uint64pow10), ("scantling/heads.readies", laid_scantling_heads_readies), ("scantling/next.steps", laid_scantling_next_steps)] }
def SetsPartsSaid : Prop := setsPartsRow.holds Tryz.pinned (OpenSpec.ofChange setsPartsSpec)

/-- ITS FALSE NEIGHBOUR: 'it returns false'. Refute it at one input. -/
def setsPartsWrong : ChangeSpec := { name := "setsParts", fn := fun _ => fun
  | [d1, d2, d3] => { results := [.lit (.bool false)], args := [d1, d2, d3] }
  | _ => none }
def SetsPartsWrongFalsely : Prop := setsPartsRow.holds Tryz.pinned (OpenSpec.ofChange setsPartsWrong)

/-- 'scantlinglaw16.SetsAfter': WHATEVER THE INPUT: true; the input reads as it did. -/
def setsAfterSpec : ChangeSpec := { name := "setsAfter", fn := fun _ => fun
  | [d1, d2, d3] => { results := [.lit (.bool true)], args := [d1, d2, d3] }
  | _ => none }
def setsAfterRow : OpenClaim := { program := "ytahgmdbioafmbaagreatdoor", sum := "5176dd623c27ad31bf49f8dff76c3df118cc4fd7a3b7fa67309531991bbfd950", func := "scantling/scantlinglaw16.SetsAfter", spec := "setsAfter", inPlace := ["internal/abi.NoEscape"], unfollowed := true, recurses := true, named := ["internal/strconv.uint64pow10", "math/bits.deBruijn32tab", "math/bits.deBruijn64tab", "scantling/heads.readies", "scantling/next.steps"], plainKeys := false, apart := false, laid := [("math/bits.deBruijn32tab", laid_math_bits_deBruijn32tab), ("math/bits.deBruijn64tab", laid_math_bits_deBruijn64tab), ("internal/strconv.uint64pow10", laid_internal_strconv_uint64pow10), ("scantling/heads.readies", laid_scantling_heads_readies), ("scantling/next.steps", laid_scantling_next_steps)] }
def SetsAfterSaid : Prop := setsAfterRow.holds Tryz.pinned (OpenSpec.ofChange setsAfterSpec)

/-- ITS FALSE NEIGHBOUR: 'it returns false'. Refute it at one input. -/
def setsAfterWrong : ChangeSpec := { name := "setsAfter", fn := fun _ => fun
  | [d1, d2, d3] => { results := [.lit (.bool false)], args := [d1, d2, d3] }
  | _ => none }
def SetsAfterWrongFalsely : Prop := setsAfterRow.holds Tryz.pinned (OpenSpec.ofChange setsAfterWrong)

/-- 'scantlinglaw16.SetsOnce': WHATEVER THE INPUT: true; the input reads as it did. -/
def setsOnceSpec : ChangeSpec := { name := "setsOnce", fn := fun _ => fun
  | [d1, d2] => { results := [.lit (.bool true)], args := [d1, d2] }
  | _ => none }
def setsOnceRow : OpenClaim := { program := "ytahgmdbioafmbaagreatdoor", sum := "5176dd623c27ad31bf49f8dff76c3df118cc4fd7a3b7fa67309531991bbfd950", func := "scantling/scantlinglaw16.SetsOnce", spec := "setsOnce", inPlace := ["internal/abi.NoEscape"], unfollowed := true, recurses := true, named := ["internal/strconv.uint64pow10", "math/bits.deBruijn32tab", "math/bits.deBruijn64tab", "scantling/heads.readies", "scantling/next.steps"], plainKeys := false, apart := false, laid := [("math/bits.deBruijn32tab", laid_math_bits_deBruijn32tab), ("math/bits.deBruijn64tab", laid_math_bits_deBruijn64tab), ("internal/strconv.uint64pow10", laid_internal_strconv_uint64pow10), ("scantling/heads.readies", laid_scantling_heads_readies), ("scantling/next.steps", laid_scantling_next_steps)] }
def SetsOnceSaid : Prop := setsOnceRow.holds Tryz.pinned (OpenSpec.ofChange setsOnceSpec)

/-- ITS FALSE NEIGHBOUR: 'it returns false'. Refute it at one input. -/
def setsOnceWrong : ChangeSpec := { name := "setsOnce", fn := fun _ => fun
  | [d1, d2] => { results := [.lit (.bool false)], args := [d1, d2] }
  | _ => none }
def SetsOnceWrongFalsely : Prop := setsOnceRow.holds Tryz.pinned (OpenSpec.ofChange setsOnceWrong)

/-- 'scantlinglaw18.WordTells': WHATEVER THE INPUT: true; the input reads as it did. -/
def wordTellsSpec : ChangeSpec := { name := "wordTells", fn := fun _ => fun
  | [d1, d2, d3] => { results := [.lit (.bool true)], args := [d1, d2, d3] }
  | _ => none }
def wordTellsRow : OpenClaim := { program := "ytahgmdbioafmbaagreatdoor", sum := "5176dd623c27ad31bf49f8dff76c3df118cc4fd7a3b7fa67309531991bbfd950", func := "scantling/scantlinglaw18.WordTells", spec := "wordTells", inPlace := ["internal/abi.NoEscape"], unfollowed := true, recurses := true, named := ["internal/strconv.uint64pow10", "math/bits.deBruijn32tab", "math/bits.deBruijn64tab", "scantling/heads.readies", "scantling/next.steps"], plainKeys := false, apart := false, laid := [("math/bits.deBruijn32tab", laid_math_bits_deBruijn32tab), ("math/bits.deBruijn64tab", laid_math_bits_deBruijn64tab), ("internal/strconv.uint64pow10", laid_internal_strconv_uint64pow10), ("scantling/heads.readies", laid_scantling_heads_readies), ("scantling/next.steps", laid_scantling_next_steps)] }
def WordTellsSaid : Prop := wordTellsRow.holds Tryz.pinned (OpenSpec.ofChange wordTellsSpec)

/-- ITS FALSE NEIGHBOUR: 'it returns false'. Refute it at one input. -/
def wordTellsWrong : ChangeSpec := { name := "wordTells", fn := fun _ => fun
  | [d1, d2, d3] => { results := [.lit (.bool false)], args := [d1, d2, d3] }
  | _ => none }
def WordTellsWrongFalsely : Prop := wordTellsRow.holds Tryz.pinned (OpenSpec.ofChange wordTellsWrong)

/-- 'scantlinglaw18.WordLeast': WHATEVER THE INPUT: true; the input reads as it did. -/
def wordLeastSpec : ChangeSpec := { name := "wordLeast", fn := fun _ => fun
  | [d1, d2, d3] => { results := [.lit (.bool true)], args := [d1, d2, d3] }
  | _ => none }
def wordLeastRow : OpenClaim := { program := "ytahgmdbioafmbaagreatdoor", sum := "5176dd623c27ad31bf49f8dff76c3df118cc4fd7a3b7fa67309531991bbfd950", func := "scantling/scantlinglaw18.WordLeast", spec := "wordLeast", inPlace := ["internal/abi.NoEscape"], unfollowed := true, recurses := true, named := ["internal/strconv.uint64pow10", "math/bits.deBruijn32tab", "math/bits.deBruijn64tab", "scantling/heads.readies", "scantling/next.steps"], plainKeys := false, apart := false, laid := [("math/bits.deBruijn32tab", laid_math_bits_deBruijn32tab), ("math/bits.deBruijn64tab", laid_math_bits_deBruijn64tab), ("internal/strconv.uint64pow10", laid_internal_strconv_uint64pow10), ("scantling/heads.readies", laid_scantling_heads_readies), ("scantling/next.steps", laid_scantling_next_steps)] }
def WordLeastSaid : Prop := wordLeastRow.holds Tryz.pinned (OpenSpec.ofChange wordLeastSpec)

/-- ITS FALSE NEIGHBOUR: 'it returns false'. Refute it at one input. -/
def wordLeastWrong : ChangeSpec := { name := "wordLeast", fn := fun _ => fun
  | [d1, d2, d3] => { results := [.lit (.bool false)], args := [d1, d2, d3] }
  | _ => none }
def WordLeastWrongFalsely : Prop := wordLeastRow.holds Tryz.pinned (OpenSpec.ofChange wordLeastWrong)

/-- 'scantlinglaw18.WordBound': WHATEVER THE INPUT: true; the input reads as it did. -/
def wordBoundSpec : ChangeSpec := { name := "wordBound", fn := fun _ => fun
  | [d1, d2, d3] => { results := [.lit (.bool true)], args := [d1, d2, d3] }
  | _ => none }
def wordBoundRow : OpenClaim := { program := "ytahgmdbioafmbaagreatdoor", sum := "5176dd623c27ad31bf49f8dff76c3df118cc4fd7a3b7fa67309531991bbfd950", func := "scantling/scantlinglaw18.WordBound", spec := "wordBound", inPlace := ["internal/abi.NoEscape"], unfollowed := true, recurses := true, named := ["internal/strconv.uint64pow10", "math/bits.deBruijn32tab", "math/bits.deBruijn64tab", "scantling/heads.readies", "scantling/next.steps"], plainKeys := false, apart := false, laid := [("math/bits.deBruijn32tab", laid_math_bits_deBruijn32tab), ("math/bits.deBruijn64tab", laid_math_bits_deBruijn64tab), ("internal/strconv.uint64pow10", laid_internal_strconv_uint64pow10), ("scantling/heads.readies", laid_scantling_heads_readies), ("scantling/next.steps", laid_scantling_next_steps)] }
def WordBoundSaid : Prop := wordBoundRow.holds Tryz.pinned (OpenSpec.ofChange wordBoundSpec)

/-- ITS FALSE NEIGHBOUR: 'it returns false'. Refute it at one input. -/
def wordBoundWrong : ChangeSpec := { name := "wordBound", fn := fun _ => fun
  | [d1, d2, d3] => { results := [.lit (.bool false)], args := [d1, d2, d3] }
  | _ => none }
def WordBoundWrongFalsely : Prop := wordBoundRow.holds Tryz.pinned (OpenSpec.ofChange wordBoundWrong)

/- THE SECOND FORM. 'bulk': how many values and letters a reading holds, each counted each time it is reached (what is shared counts as often as it is met; a slice's spare places count too). A statement '..UptoSaid' is the law's where the arguments, and the package variables that the reading takes, are together of bulk at most 1048576: NARROWER than '..Said'. Prove '..Said' where nothing that the law and all that it calls make is longer than what came in: it says more and counts as full. Else prove '..UptoSaid'. A law counts once. -/
mutual
def uptoBulk {H : Type} : DataW H → Nat
  | .lit (.string bytes) => bytes.length + 1
  | .lit _ => 1
  | .nil => 1
  | .ptr d => uptoBulk d + 1
  | .slice elems spare => uptoBulkAll elems + uptoBulkAll spare + 1
  | .agg parts => uptoBulkAll parts + 1
  | .iface _ d => uptoBulk d + 1
  | .map entries => uptoBulkEntries entries + 1
  | .held _ => 1
def uptoBulkAll {H : Type} : List (DataW H) → Nat
  | [] => 0
  | d :: r => uptoBulk d + uptoBulkAll r
def uptoBulkEntries {H : Type} : List (Lit × DataW H) → Nat
  | [] => 0
  | x :: r => uptoBulkEntry x + uptoBulkEntries r
def uptoBulkEntry {H : Type} : Lit × DataW H → Nat
  | (.string bytes, d) => bytes.length + uptoBulk d + 1
  | (_, d) => uptoBulk d + 1
 end
def uptoSmall : (H : Type) → List (DataW H) → Bool := fun _ ds => decide (uptoBulkAll ds ≤ 1048576)
def OpenSpec.upto (s : _root_.Go.ChangeSpec) : _root_.Go.OpenSpec := { _root_.Go.OpenSpec.ofChange s with cond := some uptoSmall }

/-- 'scantlinglaw16.SetsTell', WHERE WHAT IT READS IS OF BULK AT MOST 1048576: true; the input reads as it did. -/
def setsTellUptoRow : OpenClaim := { program := "ytahgmdbioafmbaagreatdoor", sum := "5176dd623c27ad31bf49f8dff76c3df118cc4fd7a3b7fa67309531991bbfd950", func := "scantling/scantlinglaw16.SetsTell", spec := "setsTell", inPlace := ["internal/abi.NoEscape"], unfollowed := true, recurses := true, named := ["internal/strconv.uint64pow10", "math/bits.deBruijn32tab", "math/bits.deBruijn64tab", "scantling/heads.readies", "scantling/next.steps"], plainKeys := false, apart := false, laid := [("math/bits.deBruijn32tab", laid_math_bits_deBruijn32tab), ("math/bits.deBruijn64tab", laid_math_bits_deBruijn64tab), ("internal/strconv.uint64pow10", laid_internal_strconv_uint64pow10), ("scantling/heads.readies", laid_scantling_heads_readies), ("scantling/next.steps", laid_scantling_next_steps)], narrowed := true }
def SetsTellUptoSaid : Prop := setsTellUptoRow.holds Tryz.pinned (OpenSpec.upto setsTellSpec)

/-- 'scantlinglaw16.SetsFollow', WHERE WHAT IT READS IS OF BULK AT MOST 1048576: true; the input reads as it did. -/
def setsFollowUptoRow : OpenClaim := { program := "ytahgmdbioafmbaagreatdoor", sum := "5176dd623c27ad31bf49f8dff76c3df118cc4fd7a3b7fa67309531991bbfd950", func := "scantling/scantlinglaw16.SetsFollow", spec := "setsFollow", inPlace := ["internal/abi.NoEscape"], unfollowed := true, recurses := true, named := ["internal/strconv.uint64pow10", "math/bits.deBruijn32tab", "math/bits.deBruijn64tab", "scantling/heads.readies", "scantling/next.steps"], plainKeys := false, apart := false, laid := [("math/bits.deBruijn32tab", laid_math_bits_deBruijn32tab), ("math/bits.deBruijn64tab", laid_math_bits_deBruijn64tab), ("internal/strconv.uint64pow10", laid_internal_strconv_uint64pow10), ("scantling/heads.readies", laid_scantling_heads_readies), ("scantling/next.steps", laid_scantling_next_steps)], narrowed := true }
def SetsFollowUptoSaid : Prop := setsFollowUptoRow.holds Tryz.pinned (OpenSpec.upto setsFollowSpec)

/-- 'scantlinglaw16.SetsBytes', WHERE WHAT IT READS IS OF BULK AT MOST 1048576: true; the input reads as it did. -/
def setsBytesUptoRow : OpenClaim := { program := "ytahgmdbioafmbaagreatdoor", sum := "5176dd623c27ad31bf49f8dff76c3df118cc4fd7a3b7fa67309531991bbfd950", func := "scantling/scantlinglaw16.SetsBytes", spec := "setsBytes", inPlace := ["internal/abi.NoEscape"], unfollowed := true, recurses := true, named := ["internal/strconv.uint64pow10", "math/bits.deBruijn32tab", "math/bits.deBruijn64tab", "scantling/heads.readies", "scantling/next.steps"], plainKeys := false, apart := false, laid := [("math/bits.deBruijn32tab", laid_math_bits_deBruijn32tab), ("math/bits.deBruijn64tab", laid_math_bits_deBruijn64tab), ("internal/strconv.uint64pow10", laid_internal_strconv_uint64pow10), ("scantling/heads.readies", laid_scantling_heads_readies), ("scantling/next.steps", laid_scantling_next_steps)], narrowed := true }
def SetsBytesUptoSaid : Prop := setsBytesUptoRow.holds Tryz.pinned (OpenSpec.upto setsBytesSpec)

/-- 'scantlinglaw16.SetsParts', WHERE WHAT IT READS IS OF BULK AT MOST 1048576: true; the input reads as it did. -/
def setsPartsUptoRow : OpenClaim := { program := "ytahgmdbioafmbaagreatdoor", sum := "5176dd623c27ad31bf49f8dff76c3df118cc4fd7a3b7fa67309531991bbfd950", func := "scantling/scantlinglaw16.SetsParts", spec := "setsParts", inPlace := ["internal/abi.NoEscape"], unfollowed := true, recurses := true, named := ["internal/strconv.uint64pow10", "math/bits.deBruijn32tab", "math/bits.deBruijn64tab", "scantling/heads.readies", "scantling/next.steps"], plainKeys := false, apart := false, laid := [("math/bits.deBruijn32tab", laid_math_bits_deBruijn32tab), ("math/bits.deBruijn64tab", laid_math_bits_deBruijn64tab), ("internal/strconv.uint64pow10", laid_internal_strconv_uint64pow10), ("scantling/heads.readies", laid_scantling_heads_readies), ("scantling/next.steps", laid_scantling_next_steps)], narrowed := true }
def SetsPartsUptoSaid : Prop := setsPartsUptoRow.holds Tryz.pinned (OpenSpec.upto setsPartsSpec)

/-- 'scantlinglaw16.SetsAfter', WHERE WHAT IT READS IS OF BULK AT MOST 1048576: true; the input reads as it did. -/
def setsAfterUptoRow : OpenClaim := { program := "ytahgmdbioafmbaagreatdoor", sum := "5176dd623c27ad31bf49f8dff76c3df118cc4fd7a3b7fa67309531991bbfd950", func := "scantling/scantlinglaw16.SetsAfter", spec := "setsAfter", inPlace := ["internal/abi.NoEscape"], unfollowed := true, recurses := true, named := ["internal/strconv.uint64pow10", "math/bits.deBruijn32tab", "math/bits.deBruijn64tab", "scantling/heads.readies", "scantling/next.steps"], plainKeys := false, apart := false, laid := [("math/bits.deBruijn32tab", laid_math_bits_deBruijn32tab), ("math/bits.deBruijn64tab", laid_math_bits_deBruijn64tab), ("internal/strconv.uint64pow10", laid_internal_strconv_uint64pow10), ("scantling/heads.readies", laid_scantling_heads_readies), ("scantling/next.steps", laid_scantling_next_steps)], narrowed := true }
def SetsAfterUptoSaid : Prop := setsAfterUptoRow.holds Tryz.pinned (OpenSpec.upto setsAfterSpec)

/-- 'scantlinglaw16.SetsOnce', WHERE WHAT IT READS IS OF BULK AT MOST 1048576: true; the input reads as it did. -/
def setsOnceUptoRow : OpenClaim := { program := "ytahgmdbioafmbaagreatdoor", sum := "5176dd623c27ad31bf49f8dff76c3df118cc4fd7a3b7fa67309531991bbfd950", func := "scantling/scantlinglaw16.SetsOnce", spec := "setsOnce", inPlace := ["internal/abi.NoEscape"], unfollowed := true, recurses := true, named := ["internal/strconv.uint64pow10", "math/bits.deBruijn32tab", "math/bits.deBruijn64tab", "scantling/heads.readies", "scantling/next.steps"], plainKeys := false, apart := false, laid := [("math/bits.deBruijn32tab", laid_math_bits_deBruijn32tab), ("math/bits.deBruijn64tab", laid_math_bits_deBruijn64tab), ("internal/strconv.uint64pow10", laid_internal_strconv_uint64pow10), ("scantling/heads.readies", laid_scantling_heads_readies), ("scantling/next.steps", laid_scantling_next_steps)], narrowed := true }
def SetsOnceUptoSaid : Prop := setsOnceUptoRow.holds Tryz.pinned (OpenSpec.upto setsOnceSpec)

/-- 'scantlinglaw18.WordTells', WHERE WHAT IT READS IS OF BULK AT MOST 1048576: true; the input reads as it did. -/
def wordTellsUptoRow : OpenClaim := { program := "ytahgmdbioafmbaagreatdoor", sum := "5176dd623c27ad31bf49f8dff76c3df118cc4fd7a3b7fa67309531991bbfd950", func := "scantling/scantlinglaw18.WordTells", spec := "wordTells", inPlace := ["internal/abi.NoEscape"], unfollowed := true, recurses := true, named := ["internal/strconv.uint64pow10", "math/bits.deBruijn32tab", "math/bits.deBruijn64tab", "scantling/heads.readies", "scantling/next.steps"], plainKeys := false, apart := false, laid := [("math/bits.deBruijn32tab", laid_math_bits_deBruijn32tab), ("math/bits.deBruijn64tab", laid_math_bits_deBruijn64tab), ("internal/strconv.uint64pow10", laid_internal_strconv_uint64pow10), ("scantling/heads.readies", laid_scantling_heads_readies), ("scantling/next.steps", laid_scantling_next_steps)], narrowed := true }
def WordTellsUptoSaid : Prop := wordTellsUptoRow.holds Tryz.pinned (OpenSpec.upto wordTellsSpec)

/-- 'scantlinglaw18.WordLeast', WHERE WHAT IT READS IS OF BULK AT MOST 1048576: true; the input reads as it did. -/
def wordLeastUptoRow : OpenClaim := { program := "ytahgmdbioafmbaagreatdoor", sum := "5176dd623c27ad31bf49f8dff76c3df118cc4fd7a3b7fa67309531991bbfd950", func := "scantling/scantlinglaw18.WordLeast", spec := "wordLeast", inPlace := ["internal/abi.NoEscape"], unfollowed := true, recurses := true, named := ["internal/strconv.uint64pow10", "math/bits.deBruijn32tab", "math/bits.deBruijn64tab", "scantling/heads.readies", "scantling/next.steps"], plainKeys := false, apart := false, laid := [("math/bits.deBruijn32tab", laid_math_bits_deBruijn32tab), ("math/bits.deBruijn64tab", laid_math_bits_deBruijn64tab), ("internal/strconv.uint64pow10", laid_internal_strconv_uint64pow10), ("scantling/heads.readies", laid_scantling_heads_readies), ("scantling/next.steps", laid_scantling_next_steps)], narrowed := true }
def WordLeastUptoSaid : Prop := wordLeastUptoRow.holds Tryz.pinned (OpenSpec.upto wordLeastSpec)

/-- 'scantlinglaw18.WordBound', WHERE WHAT IT READS IS OF BULK AT MOST 1048576: true; the input reads as it did. -/
def wordBoundUptoRow : OpenClaim := { program := "ytahgmdbioafmbaagreatdoor", sum := "5176dd623c27ad31bf49f8dff76c3df118cc4fd7a3b7fa67309531991bbfd950", func := "scantling/scantlinglaw18.WordBound", spec := "wordBound", inPlace := ["internal/abi.NoEscape"], unfollowed := true, recurses := true, named := ["internal/strconv.uint64pow10", "math/bits.deBruijn32tab", "math/bits.deBruijn64tab", "scantling/heads.readies", "scantling/next.steps"], plainKeys := false, apart := false, laid := [("math/bits.deBruijn32tab", laid_math_bits_deBruijn32tab), ("math/bits.deBruijn64tab", laid_math_bits_deBruijn64tab), ("internal/strconv.uint64pow10", laid_internal_strconv_uint64pow10), ("scantling/heads.readies", laid_scantling_heads_readies), ("scantling/next.steps", laid_scantling_next_steps)], narrowed := true }
def WordBoundUptoSaid : Prop := wordBoundUptoRow.holds Tryz.pinned (OpenSpec.upto wordBoundSpec)

end Rows
end Go.Proofs.YtahgmdbioafmbaaGreatDoor
