/- The data of the program: its structs; what functions proved by hand compute. -/
import Derived.Test.YtdfnbogkniikbaaDoorAB
import Derived.Lib.ItoaNum
namespace Go.Proofs.YtdfnbogkniikbaaDoor.V
open Go
set_option linter.unusedVariables false
abbrev SItem : Type := Int × Int × Int × Int
abbrev SNode : Type := Int × Int × Int × Int × Int × Cl × Str
abbrev SDesc : Type := (List SNode)
/-- A state's numbers. -/
def nums4 (x : SItem) : List Int := [x.1, x.2.1, x.2.2.1, x.2.2.2]
def numsS (s : List SItem) : List Int := s.flatMap nums4
def keyN (l : List Int) : Str := l.flatMap fun n => Lib.itoa n ++ [32]
def keyS (s : List SItem) : Str := keyN (numsS s)
def item_Key (s : List SItem) (r : Str) : Prop := s.length ≤ 1000 ∧ r = keyS s
end Go.Proofs.YtdfnbogkniikbaaDoor.V
