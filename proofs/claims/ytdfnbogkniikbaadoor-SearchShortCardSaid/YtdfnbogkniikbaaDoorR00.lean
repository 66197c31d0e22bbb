/- What the functions of layer 0 compute, as relations over plain data (by gen.py). -/
import Derived.Test.YtdfnbogkniikbaaDoorD
import Derived.Test.YtdfnbogkniikbaaDoorM0
namespace Go.Proofs.YtdfnbogkniikbaaDoor.V
open Go
set_option linter.unusedVariables false
def slices_Reverse_byte_byte.j1 (r_ : (List Int)) (s3 : (List Int)) : Prop := r_ = s3
def slices_Reverse_byte_byte.l1 (X1 : (List Int) → Prop) : Nat → (List Int) → Int → Int → Prop
  | 0, _, _, _ => False
  | k_0 + 1, s5, i6, j7 => ((decide (i6 < j7)) = true → ∃ e14 : Int, at? s5 j7 = some e14 ∧ ∃ e16 : Int, at? s5 i6 = some e16 ∧ ∃ e18 : Int, at? s5 i6 = some e18 ∧ ∃ e20 : Int, at? (s5.set (i6 : Int).toNat e14) j7 = some e20 ∧ (InR .i64 (i6 + 1)) ∧ (InR .i64 (j7 - 1)) ∧ slices_Reverse_byte_byte.l1 X1 k_0 ((s5.set (i6 : Int).toNat e14).set (j7 : Int).toNat e16) (i6 + 1) (j7 - 1)) ∧ ((decide (i6 < j7)) = false → X1 s5)
def slices_Reverse_byte_byte (s_ : (List Int)) (r_ : (List Int)) : Prop := (InR .i64 ((s_.length : Int) - 1)) ∧ ∃ k8, slices_Reverse_byte_byte.l1 (slices_Reverse_byte_byte.j1 r_) k8 s_ 0 ((s_.length : Int) - 1)

def slices_IndexFunc_Lapi_Way_api_Way.j1 (r_ : Int) : Prop := r_ = (-1)
def slices_IndexFunc_Lapi_Way_api_Way.l1 (s_ : (List SWay)) (f_ : (SWay × Bool → Prop)) (r_ : Int) (X1 : Prop) : Nat → Int → Prop
  | 0, _ => False
  | k_0 + 1, v6 => ((decide (v6 < (s_.length : Int))) = true → ∃ e15 : SWay, at? s_ v6 = some e15 ∧ ∃ r17 : Bool, f_ (e15, r17) ∧ ((r17) = true → r_ = v6) ∧ ((r17) = false → (InR .i64 (v6 + 1)) ∧ slices_IndexFunc_Lapi_Way_api_Way.l1 s_ f_ r_ X1 k_0 (v6 + 1))) ∧ ((decide (v6 < (s_.length : Int))) = false → X1)
def slices_IndexFunc_Lapi_Way_api_Way (s_ : (List SWay)) (f_ : (SWay × Bool → Prop)) (r_ : Int) : Prop := ∃ k7, slices_IndexFunc_Lapi_Way_api_Way.l1 s_ f_ r_ (slices_IndexFunc_Lapi_Way_api_Way.j1 r_) k7 0

def slices_ContainsFunc_Lapi_Way_api_Way (s_ : (List SWay)) (f_ : (SWay × Bool → Prop)) (r_ : Bool) : Prop := ∃ r3 : Int, slices_IndexFunc_Lapi_Way_api_Way s_ f_ r3 ∧ r_ = decide (0 ≤ r3)

def slices_IndexFunc_api_Way_api_Way.j1 (r_ : Int) : Prop := r_ = (-1)
def slices_IndexFunc_api_Way_api_Way.l1 (s_ : (List (List SWay))) (f_ : ((List SWay) × Bool → Prop)) (r_ : Int) (X1 : Prop) : Nat → Int → Prop
  | 0, _ => False
  | k_0 + 1, v6 => ((decide (v6 < (s_.length : Int))) = true → ∃ e15 : (List SWay), at? s_ v6 = some e15 ∧ ∃ r17 : Bool, f_ (e15, r17) ∧ ((r17) = true → r_ = v6) ∧ ((r17) = false → (InR .i64 (v6 + 1)) ∧ slices_IndexFunc_api_Way_api_Way.l1 s_ f_ r_ X1 k_0 (v6 + 1))) ∧ ((decide (v6 < (s_.length : Int))) = false → X1)
def slices_IndexFunc_api_Way_api_Way (s_ : (List (List SWay))) (f_ : ((List SWay) × Bool → Prop)) (r_ : Int) : Prop := ∃ k7, slices_IndexFunc_api_Way_api_Way.l1 s_ f_ r_ (slices_IndexFunc_api_Way_api_Way.j1 r_) k7 0

def slices_ContainsFunc_api_Way_api_Way (s_ : (List (List SWay))) (f_ : ((List SWay) × Bool → Prop)) (r_ : Bool) : Prop := ∃ r3 : Int, slices_IndexFunc_api_Way_api_Way s_ f_ r3 ∧ r_ = decide (0 ≤ r3)
end Go.Proofs.YtdfnbogkniikbaaDoor.V
