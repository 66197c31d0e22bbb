/- What the functions of layer 1 compute, as relations over plain data (by gen.py). -/
import Derived.Test.YtkdbiiollbeoeaaR00
namespace Go.Proofs.Ytkdbiiollbeoeaa.V
open Go
set_option linter.unusedVariables false
def class_Add.j1 (r_ : Cl) (a7 : Cl) : Prop := r_ = a7
def class_Add.l1 (list_ : (List Int)) (X1 : Cl → Prop) : Nat → Cl → Int → Prop
  | 0, _, _ => False
  | k_0 + 1, a11, v12 => ((decide (v12 < (list_.length : Int))) = true → ∃ e21 : Int, at? list_ v12 = some e21 ∧ (0 ≤ (e21 / 64) ∧ (e21 / 64) < 4) ∧ (0 ≤ (e21 / 64) ∧ (e21 / 64) < 4) ∧ (InR .i64 (v12 + 1)) ∧ class_Add.l1 list_ X1 k_0 (Cl.setw a11 (e21 / 64) (orI (Cl.w a11 (e21 / 64)) (shlI 1 (e21 % 64)))) (v12 + 1)) ∧ ((decide (v12 < (list_.length : Int))) = false → X1 a11)
def class_Add (a_ : Cl) (list_ : (List Int)) (r_ : Cl) : Prop := ∃ k13, class_Add.l1 list_ (class_Add.j1 r_) k13 a_ 0

def class_Of.j1 (r_ : Cl) (a8 : Cl) : Prop := r_ = a8
def class_Of.l1 (from_ : Int) (to_ : Int) (X1 : Cl → Prop) : Nat → Cl → Int → Prop
  | 0, _, _ => False
  | k_0 + 1, a12, v13 => ((decide (v13 < 256)) = true → ∃ b24 : Bool, b24 = ((decide (from_ ≤ v13 % 256)) && (decide (v13 % 256 ≤ to_))) ∧ ((b24) = true → ∃ r26 : Cl, class_Add a12 [v13 % 256] r26 ∧ (InR .i64 (v13 + 1)) ∧ class_Of.l1 from_ to_ X1 k_0 r26 (v13 + 1)) ∧ ((b24) = false → (InR .i64 (v13 + 1)) ∧ class_Of.l1 from_ to_ X1 k_0 a12 (v13 + 1))) ∧ ((decide (v13 < 256)) = false → X1 a12)
def class_Of (from_ : Int) (to_ : Int) (r_ : Cl) : Prop := ∃ k14, class_Of.l1 from_ to_ (class_Of.j1 r_) k14 (0#256) 0

def class_Has (a_ : Cl) (c_ : Int) (r_ : Bool) : Prop := (0 ≤ (c_ / 64) ∧ (c_ / 64) < 4) ∧ ∃ b4 : Bool, b4 = ((andI (shrI (Cl.w a_ (c_ / 64)) (c_ % 64)) 1) == 1) ∧ r_ = b4

def class_Least.j1 (r_ : (Int × Bool)) : Prop := r_ = (0, false)
def class_Least.l1 (a_ : Cl) (r_ : (Int × Bool)) (X1 : Prop) : Nat → Int → Prop
  | 0, _ => False
  | k_0 + 1, v6 => ((decide (v6 < 256)) = true → ∃ r15 : Bool, class_Has a_ (v6 % 256) r15 ∧ ((r15) = true → r_ = (v6 % 256, true)) ∧ ((r15) = false → (InR .i64 (v6 + 1)) ∧ class_Least.l1 a_ r_ X1 k_0 (v6 + 1))) ∧ ((decide (v6 < 256)) = false → X1)
def class_Least (a_ : Cl) (r_ : (Int × Bool)) : Prop := ∃ k7, class_Least.l1 a_ r_ (class_Least.j1 r_) k7 0

def class_Count.j1 (r_ : Int) (n5 : Int) : Prop := r_ = n5
def class_Count.l1 (a_ : Cl) (X1 : Int → Prop) : Nat → Int → Int → Prop
  | 0, _, _ => False
  | k_0 + 1, n8, v9 => ((decide (v9 < 256)) = true → ∃ r18 : Bool, class_Has a_ (v9 % 256) r18 ∧ ((r18) = true → (InR .i64 (n8 + 1)) ∧ (InR .i64 (v9 + 1)) ∧ class_Count.l1 a_ X1 k_0 (n8 + 1) (v9 + 1)) ∧ ((r18) = false → (InR .i64 (v9 + 1)) ∧ class_Count.l1 a_ X1 k_0 n8 (v9 + 1))) ∧ ((decide (v9 < 256)) = false → X1 n8)
def class_Count (a_ : Cl) (r_ : Int) : Prop := ∃ k10, class_Count.l1 a_ (class_Count.j1 r_) k10 0 0

def class_Not.j1 (r_ : Cl) (a7 : Cl) : Prop := r_ = a7
def class_Not.l1 (X1 : Cl → Prop) : Nat → Cl → Int → Prop
  | 0, _, _ => False
  | k_0 + 1, a11, v12 => ((decide (v12 < 4)) = true → (0 ≤ v12 ∧ v12 < 4) ∧ (0 ≤ v12 ∧ v12 < 4) ∧ (InR .i64 (v12 + 1)) ∧ class_Not.l1 X1 k_0 (Cl.setw a11 v12 (xorI 18446744073709551615 (Cl.w a11 v12))) (v12 + 1)) ∧ ((decide (v12 < 4)) = false → X1 a11)
def class_Not (a_ : Cl) (r_ : Cl) : Prop := ∃ k13, class_Not.l1 (class_Not.j1 r_) k13 a_ 0

def class_Join.j1 (r_ : Cl) (a7 : Cl) : Prop := r_ = a7
def class_Join.l1 (b_ : Cl) (X1 : Cl → Prop) : Nat → Cl → Int → Prop
  | 0, _, _ => False
  | k_0 + 1, a11, v12 => ((decide (v12 < 4)) = true → (0 ≤ v12 ∧ v12 < 4) ∧ (0 ≤ v12 ∧ v12 < 4) ∧ (0 ≤ v12 ∧ v12 < 4) ∧ (InR .i64 (v12 + 1)) ∧ class_Join.l1 b_ X1 k_0 (Cl.setw a11 v12 (orI (Cl.w a11 v12) (Cl.w b_ v12))) (v12 + 1)) ∧ ((decide (v12 < 4)) = false → X1 a11)
def class_Join (a_ : Cl) (b_ : Cl) (r_ : Cl) : Prop := ∃ k13, class_Join.l1 b_ (class_Join.j1 r_) k13 a_ 0

def class_Both.j1 (r_ : Cl) (a7 : Cl) : Prop := r_ = a7
def class_Both.l1 (b_ : Cl) (X1 : Cl → Prop) : Nat → Cl → Int → Prop
  | 0, _, _ => False
  | k_0 + 1, a11, v12 => ((decide (v12 < 4)) = true → (0 ≤ v12 ∧ v12 < 4) ∧ (0 ≤ v12 ∧ v12 < 4) ∧ (0 ≤ v12 ∧ v12 < 4) ∧ (InR .i64 (v12 + 1)) ∧ class_Both.l1 b_ X1 k_0 (Cl.setw a11 v12 (andI (Cl.w a11 v12) (Cl.w b_ v12))) (v12 + 1)) ∧ ((decide (v12 < 4)) = false → X1 a11)
def class_Both (a_ : Cl) (b_ : Cl) (r_ : Cl) : Prop := ∃ k13, class_Both.l1 b_ (class_Both.j1 r_) k13 a_ 0

def law01_awake  (r_ : Bool) : Prop := ∃ r3 : Cl, class_Of 97 99 r3 ∧ ∃ r7 : (Int × Bool), class_Least r3 r7 ∧ ∃ r10 : (Int × Bool), class_Least (0#256) r10 ∧ ∃ r13 : Int, class_Count r3 r13 ∧ ∃ r15 : Bool, ((((r13 == 3)) = true) → class_Has r3 98 r15) ∧ ∃ r17 : Bool, (((((r13 == 3) && r15)) = true) → class_Has r3 100 r17) ∧ ∃ b19 : Bool, b19 = (((((r13 == 3) && r15) && (!r17)) && (r7.1 == 97)) && r7.2) ∧ ∃ r21 : Cl, ((((b19 && (!r10.2))) = true) → class_Not r3 r21) ∧ ∃ r23 : Int, ((((b19 && (!r10.2))) = true) → class_Count r21 r23) ∧ ∃ r25 : Cl, (((((b19 && (!r10.2)) && (r23 == 253))) = true) → class_Of 2 1 r25) ∧ ∃ b27 : Bool, b27 = (((b19 && (!r10.2)) && (r23 == 253)) && (r25 == (0#256))) ∧ ∃ r29 : Cl, (((b27) = true) → class_Add (0#256) [0, 255] r29) ∧ ∃ b31 : Bool, b31 = (b27 && (r29 == (Cl.ofWords 1 0 0 9223372036854775808))) ∧ ∃ r33 : Cl, (((b31) = true) → class_Of 1 2 r33) ∧ ∃ r35 : Cl, (((b31) = true) → class_Of 4 4 r35) ∧ ∃ r37 : Cl, (((b31) = true) → class_Join r33 r35 r37) ∧ ∃ r39 : Cl, ((((b31 && (r37 == (Cl.ofWords 22 0 0 0)))) = true) → class_Of 1 4 r39) ∧ ∃ r41 : Cl, ((((b31 && (r37 == (Cl.ofWords 22 0 0 0)))) = true) → class_Of 3 9 r41) ∧ ∃ r43 : Cl, ((((b31 && (r37 == (Cl.ofWords 22 0 0 0)))) = true) → class_Both r39 r41 r43) ∧ ∃ b45 : Bool, b45 = ((b31 && (r37 == (Cl.ofWords 22 0 0 0))) && (r43 == (Cl.ofWords 24 0 0 0))) ∧ r_ = b45

def ref01_Has.j1 (r_ : Bool) (w7 : Int) : Prop := r_ = ((w7 % 2) == 1)
def ref01_Has.l1 (c_ : Int) (X1 : Int → Prop) : Nat → Int → Int → Prop
  | 0, _, _ => False
  | k_0 + 1, w10, i11 => (0 ≤ c_) ∧ ((decide (i11 < c_ % 64)) = true → (InR .i64 (i11 + 1)) ∧ ref01_Has.l1 c_ X1 k_0 (w10 / 2) (i11 + 1)) ∧ ((decide (i11 < c_ % 64)) = false → X1 w10)
def ref01_Has (a_ : Cl) (c_ : Int) (r_ : Bool) : Prop := (0 ≤ c_) ∧ (0 ≤ (c_ / 64) ∧ (c_ / 64) < 4) ∧ ∃ k12, ref01_Has.l1 c_ (ref01_Has.j1 r_) k12 (Cl.w a_ (c_ / 64)) 0

def ref01_Least.j1 (r_ : (Int × Bool)) : Prop := r_ = (0, false)
def ref01_Least.l1 (a_ : Cl) (r_ : (Int × Bool)) (X1 : Prop) : Nat → Int → Prop
  | 0, _ => False
  | k_0 + 1, i6 => ((decide (i6 < 256)) = true → ∃ r14 : Bool, ref01_Has a_ (i6 % 256) r14 ∧ ((r14) = true → r_ = (i6 % 256, true)) ∧ ((r14) = false → (InR .i64 (i6 + 1)) ∧ ref01_Least.l1 a_ r_ X1 k_0 (i6 + 1))) ∧ ((decide (i6 < 256)) = false → X1)
def ref01_Least (a_ : Cl) (r_ : (Int × Bool)) : Prop := ∃ k7, ref01_Least.l1 a_ r_ (ref01_Least.j1 r_) k7 0

def ref01_List.j1 (r_ : (List Bool)) (l5 : (List Bool)) : Prop := r_ = l5
def ref01_List.l1 (a_ : Cl) (X1 : (List Bool) → Prop) : Nat → (List Bool) → Int → Prop
  | 0, _, _ => False
  | k_0 + 1, l9, i11 => ((decide (i11 < 256)) = true → ∃ r18 : Bool, ref01_Has a_ (i11 % 256) r18 ∧ (l9.length + [r18].length ≤ 2147483648) ∧ (InR .i64 (i11 + 1)) ∧ ref01_List.l1 a_ X1 k_0 (l9 ++ [r18]) (i11 + 1)) ∧ ((decide (i11 < 256)) = false → X1 l9)
def ref01_List (a_ : Cl) (r_ : (List Bool)) : Prop := ∃ k12, ref01_List.l1 a_ (ref01_List.j1 r_) k12 [] 0

def ref01_Of.j1 (r_ : Cl) (a8 : Cl) : Prop := r_ = a8
def ref01_Of.j2 (L1_ : Cl → Int → Prop) (w13 : Int) (a23 : Cl) : Prop := (InR .i64 (w13 + 1)) ∧ L1_ a23 (w13 + 1)
def ref01_Of.l2 (l_ : (List Bool)) (w13 : Int) (X2 : Cl → Prop) : Nat → Cl → Int → Int → Prop
  | 0, _, _, _ => False
  | k_0 + 1, a27, bit28, i29 => ((decide (i29 < 64)) = true → (InR .i64 (64 * w13)) ∧ (InR .i64 ((64 * w13) + i29)) ∧ ∃ e41 : Bool, at? l_ ((64 * w13) + i29) = some e41 ∧ ((e41) = true → (0 ≤ w13 ∧ w13 < 4) ∧ (0 ≤ w13 ∧ w13 < 4) ∧ (InR .i64 (i29 + 1)) ∧ ref01_Of.l2 l_ w13 X2 k_0 (Cl.setw a27 w13 (IntKind.wrap .u64 ((Cl.w a27 w13) + bit28))) (IntKind.wrap .u64 (bit28 * 2)) (i29 + 1)) ∧ ((e41) = false → (InR .i64 (i29 + 1)) ∧ ref01_Of.l2 l_ w13 X2 k_0 a27 (IntKind.wrap .u64 (bit28 * 2)) (i29 + 1))) ∧ ((decide (i29 < 64)) = false → X2 a27)
def ref01_Of.l1 (l_ : (List Bool)) (X1 : Cl → Prop) : Nat → Cl → Int → Prop
  | 0, _, _ => False
  | k_0 + 1, a12, w13 => ((decide (w13 < 4)) = true → ∃ k30, ref01_Of.l2 l_ w13 (ref01_Of.j2 (ref01_Of.l1 l_ X1 k_0) w13) k30 a12 1 0) ∧ ((decide (w13 < 4)) = false → X1 a12)
def ref01_Of (l_ : (List Bool)) (r_ : Cl) : Prop := ∃ k14, ref01_Of.l1 l_ (ref01_Of.j1 r_) k14 (0#256) 0

def ref01_Row.j1 (r_ : Cl) (l8 : (List Bool)) : Prop := ∃ r15 : Cl, ref01_Of l8 r15 ∧ r_ = r15
def ref01_Row.l1 (to_ : Int) (X1 : (List Bool) → Prop) : Nat → (List Bool) → Int → Prop
  | 0, _, _ => False
  | k_0 + 1, l17, i19 => ((decide (i19 ≤ to_)) = true → ∃ e27 : Bool, at? l17 i19 = some e27 ∧ (InR .i64 (i19 + 1)) ∧ ref01_Row.l1 to_ X1 k_0 (l17.set (i19 : Int).toNat true) (i19 + 1)) ∧ ((decide (i19 ≤ to_)) = false → X1 l17)
def ref01_Row (from_ : Int) (to_ : Int) (r_ : Cl) : Prop := ∃ k20, ref01_Row.l1 to_ (ref01_Row.j1 r_) k20 (List.replicate 256 false) from_

def ref01_Join.j1 (r_ : Cl) (l13 : (List Bool)) : Prop := ∃ r20 : Cl, ref01_Of l13 r20 ∧ r_ = r20
def ref01_Join.l1 (r9 : (List Bool)) (X1 : (List Bool) → Prop) : Nat → (List Bool) → Int → Prop
  | 0, _, _ => False
  | k_0 + 1, l22, i24 => ((decide (i24 < 256)) = true → ∃ e32 : Bool, at? l22 i24 = some e32 ∧ ∃ e34 : Bool, (((e32) = false) → at? r9 i24 = some e34) ∧ ∃ e36 : Bool, at? l22 i24 = some e36 ∧ (InR .i64 (i24 + 1)) ∧ ref01_Join.l1 r9 X1 k_0 (l22.set (i24 : Int).toNat (e32 || e34)) (i24 + 1)) ∧ ((decide (i24 < 256)) = false → X1 l22)
def ref01_Join (a_ : Cl) (b_ : Cl) (r_ : Cl) : Prop := ∃ r4 : (List Bool), ref01_List a_ r4 ∧ ∃ r9 : (List Bool), ref01_List b_ r9 ∧ ∃ k25, ref01_Join.l1 r9 (ref01_Join.j1 r_) k25 r4 0

def ref01_Both.j1 (r_ : Cl) (l13 : (List Bool)) : Prop := ∃ r20 : Cl, ref01_Of l13 r20 ∧ r_ = r20
def ref01_Both.l1 (r9 : (List Bool)) (X1 : (List Bool) → Prop) : Nat → (List Bool) → Int → Prop
  | 0, _, _ => False
  | k_0 + 1, l22, i24 => ((decide (i24 < 256)) = true → ∃ e32 : Bool, at? l22 i24 = some e32 ∧ ∃ e34 : Bool, (((e32) = true) → at? r9 i24 = some e34) ∧ ∃ e36 : Bool, at? l22 i24 = some e36 ∧ (InR .i64 (i24 + 1)) ∧ ref01_Both.l1 r9 X1 k_0 (l22.set (i24 : Int).toNat (e32 && e34)) (i24 + 1)) ∧ ((decide (i24 < 256)) = false → X1 l22)
def ref01_Both (a_ : Cl) (b_ : Cl) (r_ : Cl) : Prop := ∃ r4 : (List Bool), ref01_List a_ r4 ∧ ∃ r9 : (List Bool), ref01_List b_ r9 ∧ ∃ k25, ref01_Both.l1 r9 (ref01_Both.j1 r_) k25 r4 0

def ref01_Not.j1 (r_ : Cl) (l10 : (List Bool)) : Prop := ∃ r17 : Cl, ref01_Of l10 r17 ∧ r_ = r17
def ref01_Not.l1 (X1 : (List Bool) → Prop) : Nat → (List Bool) → Int → Prop
  | 0, _, _ => False
  | k_0 + 1, l19, i21 => ((decide (i21 < 256)) = true → ∃ e29 : Bool, at? l19 i21 = some e29 ∧ ∃ e31 : Bool, at? l19 i21 = some e31 ∧ (InR .i64 (i21 + 1)) ∧ ref01_Not.l1 X1 k_0 (l19.set (i21 : Int).toNat (!e29)) (i21 + 1)) ∧ ((decide (i21 < 256)) = false → X1 l19)
def ref01_Not (a_ : Cl) (r_ : Cl) : Prop := ∃ r4 : (List Bool), ref01_List a_ r4 ∧ ∃ k22, ref01_Not.l1 (ref01_Not.j1 r_) k22 r4 0

def law01_ClassDoes.j1 (a_ : Cl) (b_ : Cl) (from_ : Int) (to_ : Int) (r_ : Bool) (r8 : (Int × Bool)) (r11 : (Int × Bool)) (n19 : Int) : Prop := ∃ r22 : Cl, class_Of from_ to_ r22 ∧ ∃ r24 : Cl, ref01_Row from_ to_ r24 ∧ ∃ r26 : Bool, ((((r22 == r24)) = true) → class_Has a_ from_ r26) ∧ ∃ r28 : Bool, ((((r22 == r24)) = true) → ref01_Has a_ from_ r28) ∧ ∃ r30 : Cl, (((((r22 == r24) && (r26 == r28))) = true) → class_Add a_ [from_, to_] r30) ∧ ∃ r32 : Cl, (((((r22 == r24) && (r26 == r28))) = true) → ref01_Row from_ from_ r32) ∧ ∃ r34 : Cl, (((((r22 == r24) && (r26 == r28))) = true) → ref01_Row to_ to_ r34) ∧ ∃ r36 : Cl, (((((r22 == r24) && (r26 == r28))) = true) → ref01_Join r32 r34 r36) ∧ ∃ r38 : Cl, (((((r22 == r24) && (r26 == r28))) = true) → ref01_Join a_ r36 r38) ∧ ∃ r40 : Cl, ((((((r22 == r24) && (r26 == r28)) && (r30 == r38))) = true) → class_Join a_ b_ r40) ∧ ∃ r42 : Cl, ((((((r22 == r24) && (r26 == r28)) && (r30 == r38))) = true) → ref01_Join a_ b_ r42) ∧ ∃ b44 : Bool, b44 = ((((r22 == r24) && (r26 == r28)) && (r30 == r38)) && (r40 == r42)) ∧ ∃ r46 : Cl, (((b44) = true) → class_Both a_ b_ r46) ∧ ∃ r48 : Cl, (((b44) = true) → ref01_Both a_ b_ r48) ∧ ∃ r50 : Cl, ((((b44 && (r46 == r48))) = true) → class_Not a_ r50) ∧ ∃ r52 : Cl, ((((b44 && (r46 == r48))) = true) → ref01_Not a_ r52) ∧ ∃ b54 : Bool, b54 = (((b44 && (r46 == r48)) && (r50 == r52)) && (r8.1 == r11.1)) ∧ ∃ r56 : Int, ((((b54 && (r8.2 == r11.2))) = true) → class_Count a_ r56) ∧ r_ = ((b54 && (r8.2 == r11.2)) && (r56 == n19))
def law01_ClassDoes.l1 (r15 : (List Bool)) (X1 : Int → Prop) : Nat → Int → Int → Prop
  | 0, _, _ => False
  | k_0 + 1, n58, i59 => ((decide (i59 < 256)) = true → ∃ e67 : Bool, at? r15 i59 = some e67 ∧ ((e67) = true → (InR .i64 (n58 + 1)) ∧ (InR .i64 (i59 + 1)) ∧ law01_ClassDoes.l1 r15 X1 k_0 (n58 + 1) (i59 + 1)) ∧ ((e67) = false → (InR .i64 (i59 + 1)) ∧ law01_ClassDoes.l1 r15 X1 k_0 n58 (i59 + 1))) ∧ ((decide (i59 < 256)) = false → X1 n58)
def law01_ClassDoes (a_ : Cl) (b_ : Cl) (from_ : Int) (to_ : Int) (r_ : Bool) : Prop := ∃ r4 : Bool, law01_awake  r4 ∧ (((!r4)) = true → r_ = false) ∧ (((!r4)) = false → ∃ r8 : (Int × Bool), class_Least a_ r8 ∧ ∃ r11 : (Int × Bool), ref01_Least a_ r11 ∧ ∃ r15 : (List Bool), ref01_List a_ r15 ∧ ∃ k60, law01_ClassDoes.l1 r15 (law01_ClassDoes.j1 a_ b_ from_ to_ r_ r8 r11) k60 0 0)

def law01_ClassLaws (a_ : Cl) (b_ : Cl) (c_ : Int) (r_ : Bool) : Prop := ∃ r4 : Bool, law01_awake  r4 ∧ (((!r4)) = true → r_ = false) ∧ (((!r4)) = false → ∃ r8 : Cl, class_Join a_ b_ r8 ∧ ∃ r12 : Cl, class_Both a_ b_ r12 ∧ ∃ r18 : Bool, class_Has r8 c_ r18 ∧ ∃ r20 : Bool, class_Has a_ c_ r20 ∧ ∃ r22 : Bool, (((r20) = false) → class_Has b_ c_ r22) ∧ ∃ r24 : Bool, ((((r18 != (r20 || r22))) = false) → class_Has r12 c_ r24) ∧ ∃ r26 : Bool, ((((r18 != (r20 || r22))) = false) → class_Has a_ c_ r26) ∧ ∃ r28 : Bool, (((((r18 != (r20 || r22))) = false) ∧ (r26) = true) → class_Has b_ c_ r28) ∧ ∃ r30 : Cl, (((((r18 != (r20 || r22)) || (r24 != (r26 && r28)))) = false) → class_Not a_ r30) ∧ ∃ r32 : Bool, (((((r18 != (r20 || r22)) || (r24 != (r26 && r28)))) = false) → class_Has r30 c_ r32) ∧ ∃ r34 : Bool, (((((r18 != (r20 || r22)) || (r24 != (r26 && r28)))) = false) → class_Has a_ c_ r34) ∧ ∃ b36 : Bool, b36 = (((r18 != (r20 || r22)) || (r24 != (r26 && r28))) || (r32 == r34)) ∧ ((b36) = true → r_ = false) ∧ ((b36) = false → ∃ r41 : Cl, class_Not r8 r41 ∧ ∃ r43 : Cl, class_Not a_ r43 ∧ ∃ r45 : Cl, class_Not b_ r45 ∧ ∃ r47 : Cl, class_Both r43 r45 r47 ∧ ∃ r49 : Cl, ((((r41 != r47)) = false) → class_Not r12 r49) ∧ ∃ r51 : Cl, ((((r41 != r47)) = false) → class_Not a_ r51) ∧ ∃ r53 : Cl, ((((r41 != r47)) = false) → class_Not b_ r53) ∧ ∃ r55 : Cl, ((((r41 != r47)) = false) → class_Join r51 r53 r55) ∧ ∃ r57 : Cl, (((((r41 != r47) || (r49 != r55))) = false) → class_Not a_ r57) ∧ ∃ r59 : Cl, (((((r41 != r47) || (r49 != r55))) = false) → class_Not r57 r59) ∧ (((((r41 != r47) || (r49 != r55)) || (r59 != a_))) = true → r_ = false) ∧ (((((r41 != r47) || (r49 != r55)) || (r59 != a_))) = false → ∃ r63 : Int, class_Count r8 r63 ∧ ∃ r65 : Int, class_Count r12 r65 ∧ (InR .i64 (r63 + r65)) ∧ ∃ r68 : Int, class_Count a_ r68 ∧ ∃ r70 : Int, class_Count b_ r70 ∧ (InR .i64 (r68 + r70)) ∧ ∃ r73 : Int, (((((r63 + r65) == (r68 + r70))) = true) → class_Count r8 r73) ∧ ∃ r75 : Int, (((((r63 + r65) == (r68 + r70))) = true) → class_Count r12 r75) ∧ ∃ b77 : Bool, b77 = (((r63 + r65) == (r68 + r70)) && ((a_ == b_) == (r73 == r75))) ∧ ∃ r79 : Int, (((b77) = true) → class_Count a_ r79) ∧ ∃ r81 : Cl, (((b77) = true) → class_Not a_ r81) ∧ ∃ r83 : Int, (((b77) = true) → class_Count r81 r83) ∧ (((b77) = true) → InR .i64 (r79 + r83)) ∧ r_ = (b77 && ((r79 + r83) == 256)))))

def law01_ClassRows.j1 (a_ : Cl) (c_ : Int) (r_ : Bool) (r11 : Cl) (more19 : Int) : Prop := ∃ r22 : Bool, class_Has r11 c_ r22 ∧ ∃ r24 : Int, (((r22) = true) → class_Count r11 r24) ∧ ∃ r26 : Int, (((r22) = true) → class_Count a_ r26) ∧ (((r22) = true) → InR .i64 (r26 + more19)) ∧ ∃ r29 : Cl, ((((r22 && (r24 == (r26 + more19)))) = true) → class_Both a_ r11 r29) ∧ ∃ r31 : Cl, (((((r22 && (r24 == (r26 + more19))) && (r29 == a_))) = true) → class_Add a_ [] r31) ∧ ∃ b33 : Bool, b33 = (((r22 && (r24 == (r26 + more19))) && (r29 == a_)) && (r31 == a_)) ∧ ∃ r35 : Cl, (((b33) = true) → class_Add r11 [c_, c_] r35) ∧ r_ = (b33 && (r35 == r11))
def law01_ClassRows.j2 (a_ : Cl) (c_ : Int) (r_ : Bool) : Prop := ∃ r11 : Cl, class_Add a_ [c_] r11 ∧ ∃ r17 : Bool, class_Has a_ c_ r17 ∧ ((r17) = true → (law01_ClassRows.j1 a_ c_ r_ r11) 0) ∧ ((r17) = false → (law01_ClassRows.j1 a_ c_ r_ r11) 1)
def law01_ClassRows (a_ : Cl) (from_ : Int) (mid_ : Int) (to_ : Int) (c_ : Int) (r_ : Bool) : Prop := ∃ r4 : Bool, law01_awake  r4 ∧ (((!r4)) = true → r_ = false) ∧ (((!r4)) = false → ((decide (from_ ≤ to_)) = true → ∃ r38 : Cl, class_Of from_ to_ r38 ∧ ∃ r42 : (Int × Bool), class_Least r38 r42 ∧ ∃ r46 : Int, class_Count r38 r46 ∧ (InR .i64 (to_ - from_)) ∧ (InR .i64 ((to_ - from_) + 1)) ∧ ∃ b50 : Bool, b50 = (((r46 != ((to_ - from_) + 1)) || (!r42.2)) || (r42.1 != from_)) ∧ ∃ r52 : Bool, (((b50) = false) → class_Has r38 to_ r52) ∧ (((b50 || (!r52))) = true → r_ = false) ∧ (((b50 || (!r52))) = false → ∃ r56 : Cl, (((((decide (from_ ≤ mid_)) && (decide (mid_ < to_)))) = true) → class_Of from_ mid_ r56) ∧ ∃ r58 : Cl, (((((decide (from_ ≤ mid_)) && (decide (mid_ < to_)))) = true) → class_Of (IntKind.wrap .u8 (mid_ + 1)) to_ r58) ∧ ∃ r60 : Cl, (((((decide (from_ ≤ mid_)) && (decide (mid_ < to_)))) = true) → class_Join r56 r58 r60) ∧ ∃ b62 : Bool, b62 = (((decide (from_ ≤ mid_)) && (decide (mid_ < to_))) && (r60 != r38)) ∧ ((b62) = true → r_ = false) ∧ ((b62) = false → (law01_ClassRows.j2 a_ c_ r_)))) ∧ ((decide (from_ ≤ to_)) = false → ∃ r66 : Cl, class_Of from_ to_ r66 ∧ ∃ r68 : Int, class_Count r66 r68 ∧ (((r68 != 0)) = true → r_ = false) ∧ (((r68 != 0)) = false → (law01_ClassRows.j2 a_ c_ r_))))

def law01_ClassLeast.j1 (a_ : Cl) (r_ : Bool) (left13 : Cl) (n14 : Int) : Prop := ∃ r17 : Int, class_Count a_ r17 ∧ ∃ r19 : Int, ((((n14 == r17)) = true) → class_Count left13 r19) ∧ r_ = ((n14 == r17) && (r19 == 0))
def law01_ClassLeast.l1 (a_ : Cl) (r_ : Bool) (X1 : Cl → Int → Prop) : Nat → Cl → Int → Int → Int → Prop
  | 0, _, _, _, _ => False
  | k_0 + 1, left21, last22, n23, i24 => ((decide (i24 < 257)) = true → ∃ r32 : (Int × Bool), class_Least left21 r32 ∧ (((!r32.2)) = true → X1 left21 n23) ∧ (((!r32.2)) = false → ∃ r38 : Bool, (((decide (r32.1 ≤ last22)) = false) → class_Has a_ r32.1 r38) ∧ ((((decide (r32.1 ≤ last22)) || (!r38))) = true → r_ = false) ∧ ((((decide (r32.1 ≤ last22)) || (!r38))) = false → (InR .i64 (n23 + 1)) ∧ ∃ r44 : Cl, class_Of r32.1 r32.1 r44 ∧ ∃ r46 : Cl, class_Not r44 r46 ∧ ∃ r48 : Cl, class_Both left21 r46 r48 ∧ (InR .i64 (i24 + 1)) ∧ law01_ClassLeast.l1 a_ r_ X1 k_0 r48 r32.1 (n23 + 1) (i24 + 1)))) ∧ ((decide (i24 < 257)) = false → X1 left21 n23)
def law01_ClassLeast (a_ : Cl) (r_ : Bool) : Prop := ∃ r4 : Bool, law01_awake  r4 ∧ (((!r4)) = true → r_ = false) ∧ (((!r4)) = false → ∃ k25, law01_ClassLeast.l1 a_ r_ (law01_ClassLeast.j1 a_ r_) k25 a_ (-1) 0 0)

def law01_ClassAdd.j1 (r_ : Bool) (r10 : Cl) (back23 : Cl) (join24 : Cl) (n32 : Int) : Prop := ∃ r38 : Int, (((((back23 == r10) && (join24 == r10))) = true) → class_Count r10 r38) ∧ ∃ b40 : Bool, b40 = (((back23 == r10) && (join24 == r10)) && (r38 == n32)) ∧ r_ = b40
def law01_ClassAdd.j2 (L1_ : Int → Int → Prop) (r_ : Bool) (r10 : Cl) (n42 : Int) (c43 : Int) (in58 : Bool) : Prop := ∃ r65 : Bool, class_Has r10 (c43 % 256) r65 ∧ (((in58 != r65)) = true → r_ = false) ∧ (((in58 != r65)) = false → ((in58) = true → (InR .i64 (n42 + 1)) ∧ (InR .i64 (c43 + 1)) ∧ L1_ (n42 + 1) (c43 + 1)) ∧ ((in58) = false → (InR .i64 (c43 + 1)) ∧ L1_ n42 (c43 + 1)))
def law01_ClassAdd.l2 (list_ : (List Int)) (c43 : Int) (X2 : Bool → Prop) : Nat → Bool → Int → Prop
  | 0, _, _ => False
  | k_0 + 1, in72, i73 => ((decide (i73 < (list_.length : Int))) = true → ∃ e83 : Int, (((in72) = false) → at? list_ i73 = some e83) ∧ (InR .i64 (i73 + 1)) ∧ law01_ClassAdd.l2 list_ c43 X2 k_0 (in72 || (e83 == c43)) (i73 + 1)) ∧ ((decide (i73 < (list_.length : Int))) = false → X2 in72)
def law01_ClassAdd.l1 (a_ : Cl) (list_ : (List Int)) (r10 : Cl) (r_ : Bool) (X1 : Int → Prop) : Nat → Int → Int → Prop
  | 0, _, _ => False
  | k_0 + 1, n42, c43 => ((decide (c43 < 256)) = true → ∃ r54 : Bool, class_Has a_ (c43 % 256) r54 ∧ ∃ k74, law01_ClassAdd.l2 list_ c43 (law01_ClassAdd.j2 (law01_ClassAdd.l1 a_ list_ r10 r_ X1 k_0) r_ r10 n42 c43) k74 r54 0) ∧ ((decide (c43 < 256)) = false → X1 n42)
def law01_ClassAdd.j3 (a_ : Cl) (list_ : (List Int)) (r_ : Bool) (r10 : Cl) (back23 : Cl) (join24 : Cl) : Prop := ∃ k44, law01_ClassAdd.l1 a_ list_ r10 r_ (law01_ClassAdd.j1 r_ r10 back23 join24) k44 0 0
def law01_ClassAdd.l3 (list_ : (List Int)) (X3 : Cl → Cl → Prop) : Nat → Cl → Cl → Int → Prop
  | 0, _, _, _ => False
  | k_0 + 1, back86, join87, i88 => ((decide (0 ≤ i88)) = true → ∃ e99 : Int, at? list_ i88 = some e99 ∧ ∃ r101 : Cl, class_Add back86 [e99] r101 ∧ ∃ e103 : Int, at? list_ i88 = some e103 ∧ ∃ e105 : Int, at? list_ i88 = some e105 ∧ ∃ r107 : Cl, class_Of e103 e105 r107 ∧ ∃ r109 : Cl, class_Join join87 r107 r109 ∧ (InR .i64 (i88 - 1)) ∧ law01_ClassAdd.l3 list_ X3 k_0 r101 r109 (i88 - 1)) ∧ ((decide (0 ≤ i88)) = false → X3 back86 join87)
def law01_ClassAdd (a_ : Cl) (list_ : (List Int)) (r_ : Bool) : Prop := ∃ r4 : Bool, law01_awake  r4 ∧ ((((!r4) || (decide (300 < (list_.length : Int))))) = true → ∃ r7 : Bool, law01_awake  r7 ∧ r_ = r7) ∧ ((((!r4) || (decide (300 < (list_.length : Int))))) = false → ∃ r10 : Cl, class_Add a_ list_ r10 ∧ (InR .i64 ((list_.length : Int) - 1)) ∧ ∃ k89, law01_ClassAdd.l3 list_ (law01_ClassAdd.j3 a_ list_ r_ r10) k89 a_ a_ ((list_.length : Int) - 1))
end Go.Proofs.Ytkdbiiollbeoeaa.V
