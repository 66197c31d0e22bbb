/- What the functions of layer 2 compute, as relations over plain data (by gen.py). -/
import Derived.Test.YtdfnbogkniikbaaDoorR00
namespace Go.Proofs.YtdfnbogkniikbaaDoor.V
open Go
set_option linter.unusedVariables false
def ref02_Bytes.j1 (r_ : Bool) : Prop := r_ = true
def ref02_Bytes.l1 (a_ : (List Int)) (b_ : (List Int)) (r_ : Bool) (X1 : Prop) : Nat → Int → Prop
  | 0, _ => False
  | k_0 + 1, i9 => ((decide (i9 < (a_.length : Int))) = true → ∃ e17 : Int, at? a_ i9 = some e17 ∧ ∃ e19 : Int, at? b_ i9 = some e19 ∧ (((e17 != e19)) = true → r_ = false) ∧ (((e17 != e19)) = false → (InR .i64 (i9 + 1)) ∧ ref02_Bytes.l1 a_ b_ r_ X1 k_0 (i9 + 1))) ∧ ((decide (i9 < (a_.length : Int))) = false → X1)
def ref02_Bytes (a_ : (List Int)) (b_ : (List Int)) (r_ : Bool) : Prop := ((((a_.length : Int) != (b_.length : Int))) = true → r_ = false) ∧ ((((a_.length : Int) != (b_.length : Int))) = false → ∃ k10, ref02_Bytes.l1 a_ b_ r_ (ref02_Bytes.j1 r_) k10 0)
end Go.Proofs.YtdfnbogkniikbaaDoor.V
