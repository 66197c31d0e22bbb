/- The data of the program: its structs; what functions proved by hand compute. -/
import Derived.Test.YtdfnbogkniikbaaDoorAF
import Derived.Lib.ItoaNum
namespace Go.Proofs.YtdfnbogkniikbaaDoor.V
open Go
set_option linter.unusedVariables false
abbrev SWay : Type := Int × Int
abbrev SOn_int_search : Type := Int × Int
abbrev SSpace_int_searchR : Type := Int × (Int × Str → Prop) × (Int × (List SOn_int_search) → Prop) × Value
abbrev STable : Type := (List (List SWay)) × (List Bool)
abbrev SThing_ref17 : Type := Int × (List Int)
abbrev SVerdict : Type := Int × (List Int) × (List Int) × Int × Int × Int × Int
abbrev SFound_int_search : Type := SVerdict × Int
abbrev SSpace_int_search : Type := Int × (Int × Str → Prop) × (Int × (List SOn_int_search) → Prop) × (Int × Bool → Prop)
abbrev Smade_int_search : Type := Int × Int × Int
def strconv_Itoa (n : Int) (r : Str) : Prop := InR .i64 n ∧ r = Lib.itoa n
end Go.Proofs.YtdfnbogkniikbaaDoor.V
