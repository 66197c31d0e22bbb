/- What the functions of layer 4 compute, as relations over plain data (by gen.py). -/
import Derived.Test.YtdfnbogkniikbaaDoorR03
namespace Go.Proofs.YtdfnbogkniikbaaDoor.V
open Go
set_option linter.unusedVariables false
def ref04_Few.j1 (d_ : SDesc) (r_ : Bool) (n5 : Int) : Prop := ∃ b8 : Bool, b8 = ((decide ((d_.length : Int) ≤ 100)) && (decide (n5 ≤ 2000))) ∧ r_ = b8
def ref04_Few.l1 (d_ : SDesc) (X1 : Int → Prop) : Nat → Int → Int → Prop
  | 0, _, _ => False
  | k_0 + 1, n10, i11 => ∃ b17 : Bool, b17 = ((decide (i11 < (d_.length : Int))) && (decide (i11 < 200))) ∧ ((b17) = true → ∃ e20 : SNode, at? d_ i11 = some e20 ∧ (InR .i64 (n10 + (e20.2.2.2.2.2.2.length : Int))) ∧ (InR .i64 (i11 + 1)) ∧ ref04_Few.l1 d_ X1 k_0 (n10 + (e20.2.2.2.2.2.2.length : Int)) (i11 + 1)) ∧ ((b17) = false → X1 n10)
def ref04_Few (d_ : SDesc) (r_ : Bool) : Prop := ∃ k12, ref04_Few.l1 d_ (ref04_Few.j1 d_ r_) k12 0 0

def ref04_text.j1 (s_ : Str) (r_ : Bool) : Prop := ∃ r6 : Bool, (((decide (0 < (s_.length : Int))) = true) → ref03_Utf8 s_ r6) ∧ r_ = ((decide (0 < (s_.length : Int))) && r6)
def ref04_text.l1 (s_ : Str) (r_ : Bool) (X1 : Prop) : Nat → Int → Prop
  | 0, _ => False
  | k_0 + 1, i8 => ((decide (i8 < (s_.length : Int))) = true → ∃ c16 : Int, byte? s_ i8 = some c16 ∧ (((c16 == 34)) = true → r_ = false) ∧ (((c16 == 34)) = false → (InR .i64 (i8 + 1)) ∧ ref04_text.l1 s_ r_ X1 k_0 (i8 + 1))) ∧ ((decide (i8 < (s_.length : Int))) = false → X1)
def ref04_text (s_ : Str) (r_ : Bool) : Prop := ∃ k9, ref04_text.l1 s_ r_ (ref04_text.j1 s_ r_) k9 0

def ref04_First.j1 (n_ : (List SNode) → Int → Int → Prop) (l_ : (List SNode)) (i_ : Int) (r_ : Int) (e6 : SNode) (want48 : SNode) : Prop := (InR .i64 (i_ - 1)) ∧ ∃ r52 : Int, n_ l_ (i_ - 1) r52 ∧ (((e6 != want48)) = true → r_ = (-1)) ∧ (((e6 != want48)) = false → r_ = r52)
def ref04_First.j2 (n_ : (List SNode) → Int → Int → Prop) (l_ : (List SNode)) (i_ : Int) (r_ : Int) (e6 : SNode) (v66 : Bool) : Prop := ((v66) = true → (InR .i64 (i_ - 1)) ∧ (InR .i64 (i_ - 1)) ∧ ∃ r73 : Int, n_ l_ (i_ - 1) r73 ∧ ((decide (r73 < 0)) = true → r_ = (-1)) ∧ ((decide (r73 < 0)) = false → (InR .i64 (r73 - 1)) ∧ (InR .i64 (r73 - 1)) ∧ ∃ r81 : Int, n_ l_ (r73 - 1) r81 ∧ ∃ b85 : Bool, b85 = (e6 != (e6.1, r73 - 1, i_ - 1, 0, 0, (0#256), ([] : Str))) ∧ ((b85) = true → r_ = (-1)) ∧ ((b85) = false → r_ = r81))) ∧ ((v66) = false → r_ = (-1))
def ref04_First.j3 (n_ : (List SNode) → Int → Int → Prop) (l_ : (List SNode)) (i_ : Int) (r_ : Int) (e6 : SNode) (v41 : Bool) : Prop := ((v41) = true → (InR .i64 (i_ - 1)) ∧ (((e6.1 == 7)) = true → ∃ b61 : Bool, b61 = ((decide (e6.2.2.2.1 < 0)) || (decide (e6.2.2.2.2.1 < e6.2.2.2.1))) ∧ (((b61 || (decide (255 < e6.2.2.2.2.1)))) = true → r_ = (-1)) ∧ (((b61 || (decide (255 < e6.2.2.2.2.1)))) = false → (ref04_First.j1 (n_) l_ i_ r_ e6) (e6.1, i_ - 1, 0, e6.2.2.2.1, e6.2.2.2.2.1, (0#256), ([] : Str)))) ∧ (((e6.1 == 7)) = false → (ref04_First.j1 (n_) l_ i_ r_ e6) (e6.1, i_ - 1, 0, 0, 0, (0#256), ([] : Str)))) ∧ ((v41) = false → (((e6.1 == 4)) = true → (ref04_First.j2 (n_) l_ i_ r_ e6) (e6.1 == 4)) ∧ (((e6.1 == 4)) = false → (ref04_First.j2 (n_) l_ i_ r_ e6) (e6.1 == 5)))
def ref04_First.n : Nat → (List SNode) → Int → Int → Prop
  | 0, _, _, _ => False
  | k_ + 1, l_, i_, r_ => ((decide (i_ < 0)) = true → r_ = (-1)) ∧ ((decide (i_ < 0)) = false → ∃ e6 : SNode, at? l_ i_ = some e6 ∧ (((e6.1 == 1)) = true → (((e6 != (e6.1, 0, 0, 0, 0, (0#256), ([] : Str)))) = true → r_ = (-1)) ∧ (((e6 != (e6.1, 0, 0, 0, 0, (0#256), ([] : Str)))) = false → r_ = i_)) ∧ (((e6.1 == 1)) = false → (((e6.1 == 2)) = true → ∃ b23 : Bool, b23 = (e6 != (e6.1, 0, 0, 0, 0, e6.2.2.2.2.2.1, ([] : Str))) ∧ ((b23) = true → r_ = (-1)) ∧ ((b23) = false → r_ = i_)) ∧ (((e6.1 == 2)) = false → (((e6.1 == 3)) = true → ∃ r30 : Bool, ref04_text e6.2.2.2.2.2.2 r30 ∧ (((!r30)) = true → r_ = (-1)) ∧ (((!r30)) = false → ∃ b35 : Bool, b35 = (e6 != (e6.1, 0, 0, 0, 0, (0#256), e6.2.2.2.2.2.2)) ∧ ((b35) = true → r_ = (-1)) ∧ ((b35) = false → r_ = i_))) ∧ (((e6.1 == 3)) = false → (((e6.1 == 6)) = true → (ref04_First.j3 (ref04_First.n k_) l_ i_ r_ e6) (e6.1 == 6)) ∧ (((e6.1 == 6)) = false → (((e6.1 == 7)) = true → (ref04_First.j3 (ref04_First.n k_) l_ i_ r_ e6) (e6.1 == 7)) ∧ (((e6.1 == 7)) = false → (((e6.1 == 8)) = true → (ref04_First.j3 (ref04_First.n k_) l_ i_ r_ e6) (e6.1 == 8)) ∧ (((e6.1 == 8)) = false → (ref04_First.j3 (ref04_First.n k_) l_ i_ r_ e6) (e6.1 == 9))))))))
def ref04_First (l_ : (List SNode)) (i_ : Int) (r_ : Int) : Prop := ∃ k_, ref04_First.n k_ l_ i_ r_

def ref04_Form (d_ : SDesc) (r_ : Bool) : Prop := (((decide (0 < (d_.length : Int))) = true) → InR .i64 ((d_.length : Int) - 1)) ∧ ∃ r4 : Int, (((decide (0 < (d_.length : Int))) = true) → ref04_First d_ ((d_.length : Int) - 1) r4) ∧ r_ = ((decide (0 < (d_.length : Int))) && (r4 == 0))
end Go.Proofs.YtdfnbogkniikbaaDoor.V
