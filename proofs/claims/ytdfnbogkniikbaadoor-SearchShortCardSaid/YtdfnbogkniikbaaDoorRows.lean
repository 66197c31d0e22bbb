/-
  NARROWER THAN 'FOR EVERY INPUT', by the rows' own cells (each row's printed sentence says how): ItemTells: laid · ItemOrder: laid · ItemLowers: laid · ItemKeeps: laid · ItemForms: laid · SearchFinds: laid · SearchShort: laid · SearchKeeps: laid · SearchOrder: laid.
  DERIVED. THE GIVEN ROWS OF THIS SEAT. 9 by the template 'for every input the law returns true; each argument reads behind the call as it read before'; 0 by the template 'total and deterministic' (their statements: YtdfnbogkniikbaaDoorTotals.lean).
  GIVEN WITH THE SEED: the statements are not yours to turn. If you find one false, say at which input.
  Laid BY PROGRAM, IN A SANDBOX (cutbox-rows.mjs): the forced cells as the released guide's own fill.sh prints them over the translation d92624d591a5fe7f… (all of the seat's roots in one cut). By AI agents, Wed Nov 11 2026. No macro, syntax, notation, axiom, sorry.
-/
import Derived.Test.YtdfnbogkniikbaaDoorChecked
import GoSem.Claim
import GoSem.ClaimJoined
import GoSem.ClaimMapViews
import Derived.JoinedTies
import Derived.KernelRfl
namespace Go.Proofs.YtdfnbogkniikbaaDoor
/- THE CELL 'sum', in the pinned program and in every row, IS THE sha256 OF THE DUMP (.gsa) THAT YtdfnbogkniikbaaDoorProg.lean LOADS. Nothing in Lean hashes anything: it is a label: what it is worth is what the hold of that sum in a sandbox is worth. -/
noncomputable def Tryd.pinned : Pinned := { name := "ytdfnbogkniikbaadoor", sum := "d92624d591a5fe7f4dd3b7d915ba0f33f262f7a96e8aa617b80594041ab12497", checked := Tryd.checked }
namespace Rows
def none {H : Type} : Left H := { results := [], args := [] }

/- WHAT THE LISTED PACKAGE-LEVEL VARIABLES READ AS WHEN THE CALL BEGINS. Each datum BY PROGRAM (the guide's laid-datum.mjs) off the statement by which the dump's own 'gosem.cut.vars' lays the variable. In a bare row this is a premise. The card (YtdfnbogkniikbaaDoorCards.lean) ties it to the program's text. -/
def laid_math_bits_deBruijn32tab {H : Type} : DataW H := .agg [.lit (.int .u8 0), .lit (.int .u8 1), .lit (.int .u8 28), .lit (.int .u8 2), .lit (.int .u8 29), .lit (.int .u8 14), .lit (.int .u8 24), .lit (.int .u8 3), .lit (.int .u8 30), .lit (.int .u8 22), .lit (.int .u8 20), .lit (.int .u8 15), .lit (.int .u8 25), .lit (.int .u8 17), .lit (.int .u8 4), .lit (.int .u8 8), .lit (.int .u8 31), .lit (.int .u8 27), .lit (.int .u8 13), .lit (.int .u8 23), .lit (.int .u8 21), .lit (.int .u8 19), .lit (.int .u8 16), .lit (.int .u8 7), .lit (.int .u8 26), .lit (.int .u8 12), .lit (.int .u8 18), .lit (.int .u8 6), .lit (.int .u8 11), .lit (.int .u8 5), .lit (.int .u8 10), .lit (.int .u8 9)]
def laid_math_bits_deBruijn64tab {H : Type} : DataW H := .agg [.lit (.int .u8 0), .lit (.int .u8 1), .lit (.int .u8 56), .lit (.int .u8 2), .lit (.int .u8 57), .lit (.int .u8 49), .lit (.int .u8 28), .lit (.int .u8 3), .lit (.int .u8 61), .lit (.int .u8 58), .lit (.int .u8 42), .lit (.int .u8 50), .lit (.int .u8 38), .lit (.int .u8 29), .lit (.int .u8 17), .lit (.int .u8 4), .lit (.int .u8 62), .lit (.int .u8 47), .lit (.int .u8 59), .lit (.int .u8 36), .lit (.int .u8 45), .lit (.int .u8 43), .lit (.int .u8 51), .lit (.int .u8 22), .lit (.int .u8 53), .lit (.int .u8 39), .lit (.int .u8 33), .lit (.int .u8 30), .lit (.int .u8 24), .lit (.int .u8 18), .lit (.int .u8 12), .lit (.int .u8 5), .lit (.int .u8 63), .lit (.int .u8 55), .lit (.int .u8 48), .lit (.int .u8 27), .lit (.int .u8 60), .lit (.int .u8 41), .lit (.int .u8 37), .lit (.int .u8 16), .lit (.int .u8 46), .lit (.int .u8 35), .lit (.int .u8 44), .lit (.int .u8 21), .lit (.int .u8 52), .lit (.int .u8 32), .lit (.int .u8 23), .lit (.int .u8 11), .lit (.int .u8 54), .lit (.int .u8 26), .lit (.int .u8 40), .lit (.int .u8 15), .lit (.int .u8 34), .lit (.int .u8 20), .lit (.int .u8 31), .lit (.int .u8 10), .lit (.int .u8 25), .lit (.int .u8 14), .lit (.int .u8 19), .lit (.int .u8 9), .lit (.int .u8 13), .lit (.int .u8 8), .lit (.int .u8 7), .lit (.int .u8 6)]
def laid_internal_strconv_uint64pow10 {H : Type} : DataW H := .agg [.lit (.int .u64 1), .lit (.int .u64 10), .lit (.int .u64 100), .lit (.int .u64 1000), .lit (.int .u64 10000), .lit (.int .u64 100000), .lit (.int .u64 1000000), .lit (.int .u64 10000000), .lit (.int .u64 100000000), .lit (.int .u64 1000000000), .lit (.int .u64 10000000000), .lit (.int .u64 100000000000), .lit (.int .u64 1000000000000), .lit (.int .u64 10000000000000), .lit (.int .u64 100000000000000), .lit (.int .u64 1000000000000000), .lit (.int .u64 10000000000000000), .lit (.int .u64 100000000000000000), .lit (.int .u64 1000000000000000000), .lit (.int .u64 10000000000000000000)]

/-- 'scantlinglaw13.ItemTells': WHATEVER THE INPUT: true; the input reads as it did. -/
def itemTellsSpec : ChangeSpec := { name := "itemTells", fn := fun _ => fun
  | [d1, d2, d3] => { results := [.lit (.bool true)], args := [d1, d2, d3] }
  | _ => none }
def itemTellsRow : OpenClaim := { program := "ytdfnbogkniikbaadoor", sum := "d92624d591a5fe7f4dd3b7d915ba0f33f262f7a96e8aa617b80594041ab12497", func := "scantling/scantlinglaw13.ItemTells", spec := "itemTells", inPlace := ["internal/abi.NoEscape"], unfollowed := true, recurses := true, named := ["internal/strconv.uint64pow10", "math/bits.deBruijn32tab", "math/bits.deBruijn64tab"], apart := false, laid := [("math/bits.deBruijn32tab", laid_math_bits_deBruijn32tab), ("math/bits.deBruijn64tab", laid_math_bits_deBruijn64tab), ("internal/strconv.uint64pow10", laid_internal_strconv_uint64pow10)] }
def ItemTellsSaid : Prop := itemTellsRow.holds Tryd.pinned (OpenSpec.ofChange itemTellsSpec)

/-- ITS FALSE NEIGHBOUR: 'it returns false'. Refute it at one input. -/
def itemTellsWrong : ChangeSpec := { name := "itemTells", fn := fun _ => fun
  | [d1, d2, d3] => { results := [.lit (.bool false)], args := [d1, d2, d3] }
  | _ => none }
def ItemTellsWrongFalsely : Prop := itemTellsRow.holds Tryd.pinned (OpenSpec.ofChange itemTellsWrong)

/-- 'scantlinglaw13.ItemOrder': WHATEVER THE INPUT: true; the input reads as it did. -/
def itemOrderSpec : ChangeSpec := { name := "itemOrder", fn := fun _ => fun
  | [d1, d2, d3, d4] => { results := [.lit (.bool true)], args := [d1, d2, d3, d4] }
  | _ => none }
def itemOrderRow : OpenClaim := { program := "ytdfnbogkniikbaadoor", sum := "d92624d591a5fe7f4dd3b7d915ba0f33f262f7a96e8aa617b80594041ab12497", func := "scantling/scantlinglaw13.ItemOrder", spec := "itemOrder", inPlace := ["internal/abi.NoEscape"], unfollowed := true, recurses := true, named := ["internal/strconv.uint64pow10", "math/bits.deBruijn32tab", "math/bits.deBruijn64tab"], apart := false, laid := [("math/bits.deBruijn32tab", laid_math_bits_deBruijn32tab), ("math/bits.deBruijn64tab", laid_math_bits_deBruijn64tab), ("internal/strconv.uint64pow10", laid_internal_strconv_uint64pow10)] }
def ItemOrderSaid : Prop := itemOrderRow.holds Tryd.pinned (OpenSpec.ofChange itemOrderSpec)

/-- ITS FALSE NEIGHBOUR: 'it returns false'. Refute it at one input. -/
def itemOrderWrong : ChangeSpec := { name := "itemOrder", fn := fun _ => fun
  | [d1, d2, d3, d4] => { results := [.lit (.bool false)], args := [d1, d2, d3, d4] }
  | _ => none }
def ItemOrderWrongFalsely : Prop := itemOrderRow.holds Tryd.pinned (OpenSpec.ofChange itemOrderWrong)

/-- 'scantlinglaw13.ItemLowers': WHATEVER THE INPUT: true; the input reads as it did. -/
def itemLowersSpec : ChangeSpec := { name := "itemLowers", fn := fun _ => fun
  | [d1, d2] => { results := [.lit (.bool true)], args := [d1, d2] }
  | _ => none }
def itemLowersRow : OpenClaim := { program := "ytdfnbogkniikbaadoor", sum := "d92624d591a5fe7f4dd3b7d915ba0f33f262f7a96e8aa617b80594041ab12497", func := "scantling/scantlinglaw13.ItemLowers", spec := "itemLowers", inPlace := ["internal/abi.NoEscape"], unfollowed := true, recurses := true, named := ["internal/strconv.uint64pow10", "math/bits.deBruijn32tab", "math/bits.deBruijn64tab"], apart := false, laid := [("math/bits.deBruijn32tab", laid_math_bits_deBruijn32tab), ("math/bits.deBruijn64tab", laid_math_bits_deBruijn64tab), ("internal/strconv.uint64pow10", laid_internal_strconv_uint64pow10)] }
def ItemLowersSaid : Prop := itemLowersRow.holds Tryd.pinned (OpenSpec.ofChange itemLowersSpec)

/-- ITS FALSE NEIGHBOUR: 'it returns false'. Refute it at one input. -/
def itemLowersWrong : ChangeSpec := { name := "itemLowers", fn := fun _ => fun
  | [d1, d2] => { results := [.lit (.bool false)], args := [d1, d2] }
  | _ => none }
def ItemLowersWrongFalsely : Prop := itemLowersRow.holds Tryd.pinned (OpenSpec.ofChange itemLowersWrong)

/-- 'scantlinglaw13.ItemKeeps': WHATEVER THE INPUT: true; the input reads as it did. -/
def itemKeepsSpec : ChangeSpec := { name := "itemKeeps", fn := fun _ => fun
  | [d] => { results := [.lit (.bool true)], args := [d] }
  | _ => none }
def itemKeepsRow : OpenClaim := { program := "ytdfnbogkniikbaadoor", sum := "d92624d591a5fe7f4dd3b7d915ba0f33f262f7a96e8aa617b80594041ab12497", func := "scantling/scantlinglaw13.ItemKeeps", spec := "itemKeeps", inPlace := ["internal/abi.NoEscape"], unfollowed := true, recurses := true, named := ["internal/strconv.uint64pow10", "math/bits.deBruijn32tab", "math/bits.deBruijn64tab"], apart := false, laid := [("math/bits.deBruijn32tab", laid_math_bits_deBruijn32tab), ("math/bits.deBruijn64tab", laid_math_bits_deBruijn64tab), ("internal/strconv.uint64pow10", laid_internal_strconv_uint64pow10)] }
def ItemKeepsSaid : Prop := itemKeepsRow.holds Tryd.pinned (OpenSpec.ofChange itemKeepsSpec)

/-- ITS FALSE NEIGHBOUR: 'it returns false'. Refute it at one input. -/
def itemKeepsWrong : ChangeSpec := { name := "itemKeeps", fn := fun _ => fun
  | [d] => { results := [.lit (.bool false)], args := [d] }
  | _ => none }
def ItemKeepsWrongFalsely : Prop := itemKeepsRow.holds Tryd.pinned (OpenSpec.ofChange itemKeepsWrong)

/-- 'scantlinglaw13.ItemForms': WHATEVER THE INPUT: true; the input reads as it did. -/
def itemFormsSpec : ChangeSpec := { name := "itemForms", fn := fun _ => fun
  | [d1, d2, d3, d4] => { results := [.lit (.bool true)], args := [d1, d2, d3, d4] }
  | _ => none }
def itemFormsRow : OpenClaim := { program := "ytdfnbogkniikbaadoor", sum := "d92624d591a5fe7f4dd3b7d915ba0f33f262f7a96e8aa617b80594041ab12497", func := "scantling/scantlinglaw13.ItemForms", spec := "itemForms", inPlace := ["internal/abi.NoEscape"], unfollowed := true, recurses := true, named := ["internal/strconv.uint64pow10", "math/bits.deBruijn32tab", "math/bits.deBruijn64tab"], apart := false, laid := [("math/bits.deBruijn32tab", laid_math_bits_deBruijn32tab), ("math/bits.deBruijn64tab", laid_math_bits_deBruijn64tab), ("internal/strconv.uint64pow10", laid_internal_strconv_uint64pow10)] }
def ItemFormsSaid : Prop := itemFormsRow.holds Tryd.pinned (OpenSpec.ofChange itemFormsSpec)

/-- ITS FALSE NEIGHBOUR: 'it returns false'. Refute it at one input. -/
def itemFormsWrong : ChangeSpec := { name := "itemForms", fn := fun _ => fun
  | [d1, d2, d3, d4] => { results := [.lit (.bool false)], args := [d1, d2, d3, d4] }
  | _ => none }
def ItemFormsWrongFalsely : Prop := itemFormsRow.holds Tryd.pinned (OpenSpec.ofChange itemFormsWrong)

/-- 'scantlinglaw17.SearchFinds': WHATEVER THE INPUT: true; the input reads as it did. -/
def searchFindsSpec : ChangeSpec := { name := "searchFinds", fn := fun _ => fun
  | [d1, d2] => { results := [.lit (.bool true)], args := [d1, d2] }
  | _ => none }
def searchFindsRow : OpenClaim := { program := "ytdfnbogkniikbaadoor", sum := "d92624d591a5fe7f4dd3b7d915ba0f33f262f7a96e8aa617b80594041ab12497", func := "scantling/scantlinglaw17.SearchFinds", spec := "searchFinds", unfollowed := true, recurses := true, named := ["internal/strconv.uint64pow10", "math/bits.deBruijn32tab", "math/bits.deBruijn64tab"], apart := false, laid := [("math/bits.deBruijn32tab", laid_math_bits_deBruijn32tab), ("math/bits.deBruijn64tab", laid_math_bits_deBruijn64tab), ("internal/strconv.uint64pow10", laid_internal_strconv_uint64pow10)] }
def SearchFindsSaid : Prop := searchFindsRow.holds Tryd.pinned (OpenSpec.ofChange searchFindsSpec)

/-- ITS FALSE NEIGHBOUR: 'it returns false'. Refute it at one input. -/
def searchFindsWrong : ChangeSpec := { name := "searchFinds", fn := fun _ => fun
  | [d1, d2] => { results := [.lit (.bool false)], args := [d1, d2] }
  | _ => none }
def SearchFindsWrongFalsely : Prop := searchFindsRow.holds Tryd.pinned (OpenSpec.ofChange searchFindsWrong)

/-- 'scantlinglaw17.SearchShort': WHATEVER THE INPUT: true; the input reads as it did. -/
def searchShortSpec : ChangeSpec := { name := "searchShort", fn := fun _ => fun
  | [d1, d2] => { results := [.lit (.bool true)], args := [d1, d2] }
  | _ => none }
def searchShortRow : OpenClaim := { program := "ytdfnbogkniikbaadoor", sum := "d92624d591a5fe7f4dd3b7d915ba0f33f262f7a96e8aa617b80594041ab12497", func := "scantling/scantlinglaw17.SearchShort", spec := "searchShort", unfollowed := true, recurses := true, named := ["internal/strconv.uint64pow10", "math/bits.deBruijn32tab", "math/bits.deBruijn64tab"], apart := false, laid := [("math/bits.deBruijn32tab", laid_math_bits_deBruijn32tab), ("math/bits.deBruijn64tab", laid_math_bits_deBruijn64tab), ("internal/strconv.uint64pow10", laid_internal_strconv_uint64pow10)] }
def SearchShortSaid : Prop := searchShortRow.holds Tryd.pinned (OpenSpec.ofChange searchShortSpec)

/-- ITS FALSE NEIGHBOUR: 'it returns false'. Refute it at one input. -/
def searchShortWrong : ChangeSpec := { name := "searchShort", fn := fun _ => fun
  | [d1, d2] => { results := [.lit (.bool false)], args := [d1, d2] }
  | _ => none }
def SearchShortWrongFalsely : Prop := searchShortRow.holds Tryd.pinned (OpenSpec.ofChange searchShortWrong)

/-- 'scantlinglaw17.SearchKeeps': WHATEVER THE INPUT: true; the input reads as it did. -/
def searchKeepsSpec : ChangeSpec := { name := "searchKeeps", fn := fun _ => fun
  | [d1, d2] => { results := [.lit (.bool true)], args := [d1, d2] }
  | _ => none }
def searchKeepsRow : OpenClaim := { program := "ytdfnbogkniikbaadoor", sum := "d92624d591a5fe7f4dd3b7d915ba0f33f262f7a96e8aa617b80594041ab12497", func := "scantling/scantlinglaw17.SearchKeeps", spec := "searchKeeps", unfollowed := true, recurses := true, named := ["internal/strconv.uint64pow10", "math/bits.deBruijn32tab", "math/bits.deBruijn64tab"], apart := false, laid := [("math/bits.deBruijn32tab", laid_math_bits_deBruijn32tab), ("math/bits.deBruijn64tab", laid_math_bits_deBruijn64tab), ("internal/strconv.uint64pow10", laid_internal_strconv_uint64pow10)] }
def SearchKeepsSaid : Prop := searchKeepsRow.holds Tryd.pinned (OpenSpec.ofChange searchKeepsSpec)

/-- ITS FALSE NEIGHBOUR: 'it returns false'. Refute it at one input. -/
def searchKeepsWrong : ChangeSpec := { name := "searchKeeps", fn := fun _ => fun
  | [d1, d2] => { results := [.lit (.bool false)], args := [d1, d2] }
  | _ => none }
def SearchKeepsWrongFalsely : Prop := searchKeepsRow.holds Tryd.pinned (OpenSpec.ofChange searchKeepsWrong)

/-- 'scantlinglaw17.SearchOrder': WHATEVER THE INPUT: true; the input reads as it did. -/
def searchOrderSpec : ChangeSpec := { name := "searchOrder", fn := fun _ => fun
  | [d] => { results := [.lit (.bool true)], args := [d] }
  | _ => none }
def searchOrderRow : OpenClaim := { program := "ytdfnbogkniikbaadoor", sum := "d92624d591a5fe7f4dd3b7d915ba0f33f262f7a96e8aa617b80594041ab12497", func := "scantling/scantlinglaw17.SearchOrder", spec := "searchOrder", unfollowed := true, recurses := true, named := ["internal/strconv.uint64pow10", "math/bits.deBruijn32tab", "math/bits.deBruijn64tab"], apart := false, laid := [("math/bits.deBruijn32tab", laid_math_bits_deBruijn32tab), ("math/bits.deBruijn64tab", laid_math_bits_deBruijn64tab), ("internal/strconv.uint64pow10", laid_internal_strconv_uint64pow10)] }
def SearchOrderSaid : Prop := searchOrderRow.holds Tryd.pinned (OpenSpec.ofChange searchOrderSpec)

/-- ITS FALSE NEIGHBOUR: 'it returns false'. Refute it at one input. -/
def searchOrderWrong : ChangeSpec := { name := "searchOrder", fn := fun _ => fun
  | [d] => { results := [.lit (.bool false)], args := [d] }
  | _ => none }
def SearchOrderWrongFalsely : Prop := searchOrderRow.holds Tryd.pinned (OpenSpec.ofChange searchOrderWrong)

/- THE SECOND FORM. 'bulk': how many values and letters a reading holds, each counted each time it is reached (what is shared counts as often as it is met; a slice's spare places count too). A statement '..UptoSaid' is the law's where the arguments, and the package variables that the reading takes, are together of bulk at most 1048576: NARROWER than '..Said'. Prove '..Said' where nothing that the law and all that it calls make is longer than what came in: it says more and counts as full. Else prove '..UptoSaid'. A law counts once. -/
mutual
def uptoBulk {H : Type} : DataW H → Nat
  | .lit (.string bytes) => bytes.length + 1
  | .lit _ => 1
  | .nil => 1
  | .ptr d => uptoBulk d + 1
  | .slice elems spare => uptoBulkAll elems + uptoBulkAll spare + 1
  | .agg parts => uptoBulkAll parts + 1
  | .iface _ d => uptoBulk d + 1
  | .map entries => uptoBulkEntries entries + 1
  | .held _ => 1
def uptoBulkAll {H : Type} : List (DataW H) → Nat
  | [] => 0
  | d :: r => uptoBulk d + uptoBulkAll r
def uptoBulkEntries {H : Type} : List (Lit × DataW H) → Nat
  | [] => 0
  | x :: r => uptoBulkEntry x + uptoBulkEntries r
def uptoBulkEntry {H : Type} : Lit × DataW H → Nat
  | (.string bytes, d) => bytes.length + uptoBulk d + 1
  | (_, d) => uptoBulk d + 1
 end
def uptoSmall : (H : Type) → List (DataW H) → Bool := fun _ ds => decide (uptoBulkAll ds ≤ 1048576)
def OpenSpec.upto (s : _root_.Go.ChangeSpec) : _root_.Go.OpenSpec := { _root_.Go.OpenSpec.ofChange s with cond := some uptoSmall }

/-- 'scantlinglaw13.ItemTells', WHERE WHAT IT READS IS OF BULK AT MOST 1048576: true; the input reads as it did. -/
def itemTellsUptoRow : OpenClaim := { program := "ytdfnbogkniikbaadoor", sum := "d92624d591a5fe7f4dd3b7d915ba0f33f262f7a96e8aa617b80594041ab12497", func := "scantling/scantlinglaw13.ItemTells", spec := "itemTells", inPlace := ["internal/abi.NoEscape"], unfollowed := true, recurses := true, named := ["internal/strconv.uint64pow10", "math/bits.deBruijn32tab", "math/bits.deBruijn64tab"], apart := false, laid := [("math/bits.deBruijn32tab", laid_math_bits_deBruijn32tab), ("math/bits.deBruijn64tab", laid_math_bits_deBruijn64tab), ("internal/strconv.uint64pow10", laid_internal_strconv_uint64pow10)], narrowed := true }
def ItemTellsUptoSaid : Prop := itemTellsUptoRow.holds Tryd.pinned (OpenSpec.upto itemTellsSpec)

/-- 'scantlinglaw13.ItemOrder', WHERE WHAT IT READS IS OF BULK AT MOST 1048576: true; the input reads as it did. -/
def itemOrderUptoRow : OpenClaim := { program := "ytdfnbogkniikbaadoor", sum := "d92624d591a5fe7f4dd3b7d915ba0f33f262f7a96e8aa617b80594041ab12497", func := "scantling/scantlinglaw13.ItemOrder", spec := "itemOrder", inPlace := ["internal/abi.NoEscape"], unfollowed := true, recurses := true, named := ["internal/strconv.uint64pow10", "math/bits.deBruijn32tab", "math/bits.deBruijn64tab"], apart := false, laid := [("math/bits.deBruijn32tab", laid_math_bits_deBruijn32tab), ("math/bits.deBruijn64tab", laid_math_bits_deBruijn64tab), ("internal/strconv.uint64pow10", laid_internal_strconv_uint64pow10)], narrowed := true }
def ItemOrderUptoSaid : Prop := itemOrderUptoRow.holds Tryd.pinned (OpenSpec.upto itemOrderSpec)

/-- 'scantlinglaw13.ItemLowers', WHERE WHAT IT READS IS OF BULK AT MOST 1048576: true; the input reads as it did. -/
def itemLowersUptoRow : OpenClaim := { program := "ytdfnbogkniikbaadoor", sum := "d92624d591a5fe7f4dd3b7d915ba0f33f262f7a96e8aa617b80594041ab12497", func := "scantling/scantlinglaw13.ItemLowers", spec := "itemLowers", inPlace := ["internal/abi.NoEscape"], unfollowed := true, recurses := true, named := ["internal/strconv.uint64pow10", "math/bits.deBruijn32tab", "math/bits.deBruijn64tab"], apart := false, laid := [("math/bits.deBruijn32tab", laid_math_bits_deBruijn32tab), ("math/bits.deBruijn64tab", laid_math_bits_deBruijn64tab), ("internal/strconv.uint64pow10", laid_internal_strconv_uint64pow10)], narrowed := true }
def ItemLowersUptoSaid : Prop := itemLowersUptoRow.holds Tryd.pinned (OpenSpec.upto itemLowersSpec)

/-- 'scantlinglaw13.ItemKeeps', WHERE WHAT IT READS IS OF BULK AT MOST 1048576: true; the input reads as it did. -/
def itemKeepsUptoRow : OpenClaim := { program := "ytdfnbogkniikbaadoor", sum := "d92624d591a5fe7f4dd3b7d915ba0f33f262f7a96e8aa617b80594041ab12497", func := "scantling/scantlinglaw13.ItemKeeps", spec := "itemKeeps", inPlace := ["internal/abi.NoEscape"], unfollowed := true, recurses := true, named := ["internal/strconv.uint64pow10", "math/bits.deBruijn32tab", "math/bits.deBruijn64tab"], apart := false, laid := [("math/bits.deBruijn32tab", laid_math_bits_deBruijn32tab), ("math/bits.deBruijn64tab", laid_math_bits_deBruijn64tab), ("internal/strconv.uint64pow10", laid_internal_strconv_uint64pow10)], narrowed := true }
def ItemKeepsUptoSaid : Prop := itemKeepsUptoRow.holds Tryd.pinned (OpenSpec.upto itemKeepsSpec)

/-- 'scantlinglaw13.ItemForms', WHERE WHAT IT READS IS OF BULK AT MOST 1048576: true; the input reads as it did. -/
def itemFormsUptoRow : OpenClaim := { program := "ytdfnbogkniikbaadoor", sum := "d92624d591a5fe7f4dd3b7d915ba0f33f262f7a96e8aa617b80594041ab12497", func := "scantling/scantlinglaw13.ItemForms", spec := "itemForms", inPlace := ["internal/abi.NoEscape"], unfollowed := true, recurses := true, named := ["internal/strconv.uint64pow10", "math/bits.deBruijn32tab", "math/bits.deBruijn64tab"], apart := false, laid := [("math/bits.deBruijn32tab", laid_math_bits_deBruijn32tab), ("math/bits.deBruijn64tab", laid_math_bits_deBruijn64tab), ("internal/strconv.uint64pow10", laid_internal_strconv_uint64pow10)], narrowed := true }
def ItemFormsUptoSaid : Prop := itemFormsUptoRow.holds Tryd.pinned (OpenSpec.upto itemFormsSpec)

/-- 'scantlinglaw17.SearchFinds', WHERE WHAT IT READS IS OF BULK AT MOST 1048576: true; the input reads as it did. -/
def searchFindsUptoRow : OpenClaim := { program := "ytdfnbogkniikbaadoor", sum := "d92624d591a5fe7f4dd3b7d915ba0f33f262f7a96e8aa617b80594041ab12497", func := "scantling/scantlinglaw17.SearchFinds", spec := "searchFinds", unfollowed := true, recurses := true, named := ["internal/strconv.uint64pow10", "math/bits.deBruijn32tab", "math/bits.deBruijn64tab"], apart := false, laid := [("math/bits.deBruijn32tab", laid_math_bits_deBruijn32tab), ("math/bits.deBruijn64tab", laid_math_bits_deBruijn64tab), ("internal/strconv.uint64pow10", laid_internal_strconv_uint64pow10)], narrowed := true }
def SearchFindsUptoSaid : Prop := searchFindsUptoRow.holds Tryd.pinned (OpenSpec.upto searchFindsSpec)

/-- 'scantlinglaw17.SearchShort', WHERE WHAT IT READS IS OF BULK AT MOST 1048576: true; the input reads as it did. -/
def searchShortUptoRow : OpenClaim := { program := "ytdfnbogkniikbaadoor", sum := "d92624d591a5fe7f4dd3b7d915ba0f33f262f7a96e8aa617b80594041ab12497", func := "scantling/scantlinglaw17.SearchShort", spec := "searchShort", unfollowed := true, recurses := true, named := ["internal/strconv.uint64pow10", "math/bits.deBruijn32tab", "math/bits.deBruijn64tab"], apart := false, laid := [("math/bits.deBruijn32tab", laid_math_bits_deBruijn32tab), ("math/bits.deBruijn64tab", laid_math_bits_deBruijn64tab), ("internal/strconv.uint64pow10", laid_internal_strconv_uint64pow10)], narrowed := true }
def SearchShortUptoSaid : Prop := searchShortUptoRow.holds Tryd.pinned (OpenSpec.upto searchShortSpec)

/-- 'scantlinglaw17.SearchKeeps', WHERE WHAT IT READS IS OF BULK AT MOST 1048576: true; the input reads as it did. -/
def searchKeepsUptoRow : OpenClaim := { program := "ytdfnbogkniikbaadoor", sum := "d92624d591a5fe7f4dd3b7d915ba0f33f262f7a96e8aa617b80594041ab12497", func := "scantling/scantlinglaw17.SearchKeeps", spec := "searchKeeps", unfollowed := true, recurses := true, named := ["internal/strconv.uint64pow10", "math/bits.deBruijn32tab", "math/bits.deBruijn64tab"], apart := false, laid := [("math/bits.deBruijn32tab", laid_math_bits_deBruijn32tab), ("math/bits.deBruijn64tab", laid_math_bits_deBruijn64tab), ("internal/strconv.uint64pow10", laid_internal_strconv_uint64pow10)], narrowed := true }
def SearchKeepsUptoSaid : Prop := searchKeepsUptoRow.holds Tryd.pinned (OpenSpec.upto searchKeepsSpec)

/-- 'scantlinglaw17.SearchOrder', WHERE WHAT IT READS IS OF BULK AT MOST 1048576: true; the input reads as it did. -/
def searchOrderUptoRow : OpenClaim := { program := "ytdfnbogkniikbaadoor", sum := "d92624d591a5fe7f4dd3b7d915ba0f33f262f7a96e8aa617b80594041ab12497", func := "scantling/scantlinglaw17.SearchOrder", spec := "searchOrder", unfollowed := true, recurses := true, named := ["internal/strconv.uint64pow10", "math/bits.deBruijn32tab", "math/bits.deBruijn64tab"], apart := false, laid := [("math/bits.deBruijn32tab", laid_math_bits_deBruijn32tab), ("math/bits.deBruijn64tab", laid_math_bits_deBruijn64tab), ("internal/strconv.uint64pow10", laid_internal_strconv_uint64pow10)], narrowed := true }
def SearchOrderUptoSaid : Prop := searchOrderUptoRow.holds Tryd.pinned (OpenSpec.upto searchOrderSpec)

end Rows
end Go.Proofs.YtdfnbogkniikbaaDoor
