/- What the functions of layer 8 compute, as relations over plain data (by gen.py). -/
import Derived.Test.YtdfnbogkniikbaaDoorR04
namespace Go.Proofs.YtdfnbogkniikbaaDoor.V
open Go
set_option linter.unusedVariables false
def ref08_Ways.j1 (i_ : Int) (r_ : Int) (l5 : (List Int)) : Prop := ∃ e9 : Int, at? l5 i_ = some e9 ∧ r_ = e9
def ref08_Ways.j2 (L1_ : (List Int) → Int → Prop) (l11 : (List Int)) (k13 : Int) (w29 : Int) : Prop := (l11.length + [(min 2 w29)].length ≤ 2147483648) ∧ (InR .i64 (k13 + 1)) ∧ L1_ (l11 ++ [(min 2 w29)]) (k13 + 1)
def ref08_Ways.j3 (L2_ : Int → Int → Prop) (w53 : Int) (t54 : Int) (p65 : Int) : Prop := (InR .i64 (w53 + p65)) ∧ (InR .i64 (t54 + 1)) ∧ L2_ (min 2 (w53 + p65)) (t54 + 1)
def ref08_Ways.l3 (l11 : (List Int)) (e21 : SNode) (t54 : Int) (X3 : Int → Prop) : Nat → Int → Int → Prop
  | 0, _, _ => False
  | k_0 + 1, p70, m71 => ((decide (m71 < t54)) = true → ∃ e79 : Int, at? l11 e21.2.1 = some e79 ∧ (InR .i64 (p70 * e79)) ∧ (InR .i64 (m71 + 1)) ∧ ref08_Ways.l3 l11 e21 t54 X3 k_0 (min 2 (p70 * e79)) (m71 + 1)) ∧ ((decide (m71 < t54)) = false → X3 p70)
def ref08_Ways.l2 (l11 : (List Int)) (e21 : SNode) (X2 : Int → Prop) : Nat → Int → Int → Prop
  | 0, _, _ => False
  | k_0 + 1, w53, t54 => ((decide (t54 ≤ e21.2.2.2.2.1)) = true → ∃ k72, ref08_Ways.l3 l11 e21 t54 (ref08_Ways.j3 (ref08_Ways.l2 l11 e21 X2 k_0) w53 t54) k72 1 0) ∧ ((decide (t54 ≤ e21.2.2.2.2.1)) = false → X2 w53)
def ref08_Ways.l1 (d_ : SDesc) (i_ : Int) (X1 : (List Int) → Prop) : Nat → (List Int) → Int → Prop
  | 0, _, _ => False
  | k_0 + 1, l11, k13 => ((decide (k13 ≤ i_)) = true → ∃ e21 : SNode, at? d_ k13 = some e21 ∧ (((e21.1 == 1)) = true → (ref08_Ways.j2 (ref08_Ways.l1 d_ i_ X1 k_0) l11 k13) 1) ∧ (((e21.1 == 1)) = false → (((e21.1 == 4)) = true → ∃ e35 : Int, at? l11 e21.2.1 = some e35 ∧ ∃ e37 : Int, at? l11 e21.2.2.1 = some e37 ∧ (InR .i64 (e35 * e37)) ∧ (ref08_Ways.j2 (ref08_Ways.l1 d_ i_ X1 k_0) l11 k13) (e35 * e37)) ∧ (((e21.1 == 4)) = false → (((e21.1 == 5)) = true → ∃ e41 : Int, at? l11 e21.2.1 = some e41 ∧ ∃ e43 : Int, at? l11 e21.2.2.1 = some e43 ∧ (InR .i64 (e41 + e43)) ∧ (ref08_Ways.j2 (ref08_Ways.l1 d_ i_ X1 k_0) l11 k13) (e41 + e43)) ∧ (((e21.1 == 5)) = false → (((e21.1 == 6)) = true → ∃ e49 : Int, at? l11 e21.2.1 = some e49 ∧ ((decide (0 < e49)) = true → (ref08_Ways.j2 (ref08_Ways.l1 d_ i_ X1 k_0) l11 k13) 2) ∧ ((decide (0 < e49)) = false → (ref08_Ways.j2 (ref08_Ways.l1 d_ i_ X1 k_0) l11 k13) 1)) ∧ (((e21.1 == 6)) = false → (((e21.1 == 7)) = true → ∃ k55, ref08_Ways.l2 l11 e21 (ref08_Ways.j2 (ref08_Ways.l1 d_ i_ X1 k_0) l11 k13) k55 0 e21.2.2.2.1) ∧ (((e21.1 == 7)) = false → (ref08_Ways.j2 (ref08_Ways.l1 d_ i_ X1 k_0) l11 k13) 0)))))) ∧ ((decide (k13 ≤ i_)) = false → X1 l11)
def ref08_Ways (d_ : SDesc) (i_ : Int) (r_ : Int) : Prop := ∃ k14, ref08_Ways.l1 d_ i_ (ref08_Ways.j1 i_ r_) k14 ([] : (List Int)) 0

def ref08_First.j1 (r_ : (Int × Bool)) : Prop := r_ = (0, false)
def ref08_First.l1 (d_ : SDesc) (r_ : (Int × Bool)) (X1 : Prop) : Nat → Int → Prop
  | 0, _ => False
  | k_0 + 1, i6 => ((decide (i6 < (d_.length : Int))) = true → ∃ e14 : SNode, at? d_ i6 = some e14 ∧ ∃ e17 : SNode, (((((e14.1 == 6) || (e14.1 == 7))) = true) → at? d_ i6 = some e17) ∧ ∃ r19 : Int, (((((e14.1 == 6) || (e14.1 == 7))) = true) → ref08_Ways d_ e17.2.1 r19) ∧ (((((e14.1 == 6) || (e14.1 == 7)) && (r19 != 0))) = true → r_ = (i6, true)) ∧ (((((e14.1 == 6) || (e14.1 == 7)) && (r19 != 0))) = false → (InR .i64 (i6 + 1)) ∧ ref08_First.l1 d_ r_ X1 k_0 (i6 + 1))) ∧ ((decide (i6 < (d_.length : Int))) = false → X1)
def ref08_First (d_ : SDesc) (r_ : (Int × Bool)) : Prop := ∃ k7, ref08_First.l1 d_ r_ (ref08_First.j1 r_) k7 0

def ref08_Right (d_ : SDesc) (r_ : Bool) : Prop := ∃ r4 : Bool, ref04_Form d_ r4 ∧ (((!r4)) = true → r_ = false) ∧ (((!r4)) = false → ∃ r8 : (Int × Bool), ref08_First d_ r8 ∧ r_ = (!r8.2))
end Go.Proofs.YtdfnbogkniikbaaDoor.V
