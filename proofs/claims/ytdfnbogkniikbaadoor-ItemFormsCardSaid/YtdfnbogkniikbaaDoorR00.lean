/- What the functions of layer 0 compute, as relations over plain data (by gen.py). -/
import Derived.Test.YtdfnbogkniikbaaDoorD
import Derived.Test.YtdfnbogkniikbaaDoorM0
namespace Go.Proofs.YtdfnbogkniikbaaDoor.V
open Go
set_option linter.unusedVariables false
def slices_Clone_api_State_api_Item (s_ : (List SItem)) (r_ : (List SItem)) : Prop := ∀ b4 : Bool, (b4 = true → s_ = []) → ((b4) = true → r_ = ([] : (List SItem))) ∧ ((b4) = false → (([] : (List SItem)).length + s_.length ≤ 2147483648) ∧ r_ = ([] : (List SItem)) ++ s_)

def slices_IndexFunc_api_State_api_Item.j1 (r_ : Int) : Prop := r_ = (-1)
def slices_IndexFunc_api_State_api_Item.l1 (s_ : (List SItem)) (f_ : (SItem × Bool → Prop)) (r_ : Int) (X1 : Prop) : Nat → Int → Prop
  | 0, _ => False
  | k_0 + 1, v6 => ((decide (v6 < (s_.length : Int))) = true → ∃ e15 : SItem, at? s_ v6 = some e15 ∧ ∃ r17 : Bool, f_ (e15, r17) ∧ ((r17) = true → r_ = v6) ∧ ((r17) = false → (InR .i64 (v6 + 1)) ∧ slices_IndexFunc_api_State_api_Item.l1 s_ f_ r_ X1 k_0 (v6 + 1))) ∧ ((decide (v6 < (s_.length : Int))) = false → X1)
def slices_IndexFunc_api_State_api_Item (s_ : (List SItem)) (f_ : (SItem × Bool → Prop)) (r_ : Int) : Prop := ∃ k7, slices_IndexFunc_api_State_api_Item.l1 s_ f_ r_ (slices_IndexFunc_api_State_api_Item.j1 r_) k7 0

def slices_ContainsFunc_api_State_api_Item (s_ : (List SItem)) (f_ : (SItem × Bool → Prop)) (r_ : Bool) : Prop := ∃ r3 : Int, slices_IndexFunc_api_State_api_Item s_ f_ r3 ∧ r_ = decide (0 ≤ r3)

def cmp_isNaN_int (x_ : Int) (r_ : Bool) : Prop := r_ = (x_ != x_)

def cmp_Compare_int (x_ : Int) (y_ : Int) (r_ : Int) : Prop := ∃ r3 : Bool, cmp_isNaN_int x_ r3 ∧ ∃ r6 : Bool, cmp_isNaN_int y_ r6 ∧ ((r3) = true → ((r6) = true → r_ = 0) ∧ ((r6) = false → r_ = (-1))) ∧ ((r3) = false → ((r6) = true → r_ = 1) ∧ ((r6) = false → ((decide (x_ < y_)) = true → r_ = (-1)) ∧ ((decide (x_ < y_)) = false → ((decide (y_ < x_)) = true → r_ = 1) ∧ ((decide (y_ < x_)) = false → r_ = 0))))

def slices_CompareFunc_api_State_api_State_api_Item_api_Item.j1 (s1_ : (List SItem)) (s2_ : (List SItem)) (r_ : Int) : Prop := ((decide ((s1_.length : Int) < (s2_.length : Int))) = true → r_ = (-1)) ∧ ((decide ((s1_.length : Int) < (s2_.length : Int))) = false → r_ = 0)
def slices_CompareFunc_api_State_api_State_api_Item_api_Item.l1 (s1_ : (List SItem)) (s2_ : (List SItem)) (cmp_ : (SItem × SItem × Int → Prop)) (r_ : Int) (X1 : Prop) : Nat → Int → Prop
  | 0, _ => False
  | k_0 + 1, v9 => ((decide (v9 < (s1_.length : Int))) = true → ∃ e17 : SItem, at? s1_ v9 = some e17 ∧ ((decide ((s2_.length : Int) ≤ v9)) = true → r_ = 1) ∧ ((decide ((s2_.length : Int) ≤ v9)) = false → ∃ e24 : SItem, at? s2_ v9 = some e24 ∧ ∃ r29 : Int, cmp_ (e17, e24, r29) ∧ (((r29 != 0)) = true → r_ = r29) ∧ (((r29 != 0)) = false → (InR .i64 (v9 + 1)) ∧ slices_CompareFunc_api_State_api_State_api_Item_api_Item.l1 s1_ s2_ cmp_ r_ X1 k_0 (v9 + 1)))) ∧ ((decide (v9 < (s1_.length : Int))) = false → X1)
def slices_CompareFunc_api_State_api_State_api_Item_api_Item (s1_ : (List SItem)) (s2_ : (List SItem)) (cmp_ : (SItem × SItem × Int → Prop)) (r_ : Int) : Prop := ∃ k10, slices_CompareFunc_api_State_api_State_api_Item_api_Item.l1 s1_ s2_ cmp_ r_ (slices_CompareFunc_api_State_api_State_api_Item_api_Item.j1 s1_ s2_ r_) k10 0

def cmp_Or_int.j1 (r_ : Int) : Prop := r_ = 0
def cmp_Or_int.l1 (vals_ : (List Int)) (r_ : Int) (X1 : Prop) : Nat → Int → Prop
  | 0, _ => False
  | k_0 + 1, v7 => ((decide (v7 < (vals_.length : Int))) = true → ∃ e15 : Int, at? vals_ v7 = some e15 ∧ (((e15 != 0)) = true → r_ = e15) ∧ (((e15 != 0)) = false → (InR .i64 (v7 + 1)) ∧ cmp_Or_int.l1 vals_ r_ X1 k_0 (v7 + 1))) ∧ ((decide (v7 < (vals_.length : Int))) = false → X1)
def cmp_Or_int (vals_ : (List Int)) (r_ : Int) : Prop := ∃ k8, cmp_Or_int.l1 vals_ r_ (cmp_Or_int.j1 r_) k8 0
end Go.Proofs.YtdfnbogkniikbaaDoor.V
