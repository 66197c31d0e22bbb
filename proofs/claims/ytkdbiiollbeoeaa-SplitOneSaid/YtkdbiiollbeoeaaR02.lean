/- What the functions of layer 2 compute, as relations over plain data (by gen.py). -/
import Derived.Test.YtkdbiiollbeoeaaR01
namespace Go.Proofs.Ytkdbiiollbeoeaa.V
open Go
set_option linter.unusedVariables false
def split_Refine_1 (a_ : Cl) (r_ : Int) : Prop := ∃ r3 : (Int × Bool), class_Least a_ r3 ∧ r_ = r3.1

def split_Refine_2 (a_ : Cl) (b_ : Cl) (cap0_ : (Cl × Int → Prop)) (r_ : Int) : Prop := ∃ r3 : Int, cap0_ (a_, r3) ∧ ∃ r5 : Int, cap0_ (b_, r5) ∧ (InR .i64 (r3 - r5)) ∧ r_ = r3 - r5

def split_Refine.j1 (r_ : (List Cl)) (out5 : (List Cl)) : Prop := ∃ r14 : (List Cl), slices_SortStableFunc_api_Class_api_Class out5 (fun q_ => split_Refine_2 q_.1 q_.2.1 (fun q_ => split_Refine_1 q_.1 q_.2) q_.2.2) r14 ∧ r_ = r14
def split_Refine.j2 (L1_ : (List Cl) → Int → Prop) (v19 : Int) (out38 : (List Cl)) : Prop := (InR .i64 (v19 + 1)) ∧ L1_ out38 (v19 + 1)
def split_Refine.l2 (r32 : Cl) (r36 : Cl) (X2 : (List Cl) → Prop) : Nat → (List Cl) → Int → Prop
  | 0, _, _ => False
  | k_0 + 1, out42, v44 => ((decide (v44 < ([r32, r36].length : Int))) = true → ∃ e52 : Cl, at? [r32, r36] v44 = some e52 ∧ ∃ r57 : Int, class_Count e52 r57 ∧ ((decide (0 < r57)) = true → (out42.length + [e52].length ≤ 2147483648) ∧ (InR .i64 (v44 + 1)) ∧ split_Refine.l2 r32 r36 X2 k_0 (out42 ++ [e52]) (v44 + 1)) ∧ ((decide (0 < r57)) = false → (InR .i64 (v44 + 1)) ∧ split_Refine.l2 r32 r36 X2 k_0 out42 (v44 + 1))) ∧ ((decide (v44 < ([r32, r36].length : Int))) = false → X2 out42)
def split_Refine.l1 (parts_ : (List Cl)) (a_ : Cl) (X1 : (List Cl) → Prop) : Nat → (List Cl) → Int → Prop
  | 0, _, _ => False
  | k_0 + 1, out17, v19 => ((decide (v19 < (parts_.length : Int))) = true → ∃ e27 : Cl, at? parts_ v19 = some e27 ∧ ∃ r32 : Cl, class_Both e27 a_ r32 ∧ ∃ r34 : Cl, class_Not a_ r34 ∧ ∃ r36 : Cl, class_Both e27 r34 r36 ∧ ∃ k45, split_Refine.l2 r32 r36 (split_Refine.j2 (split_Refine.l1 parts_ a_ X1 k_0) v19) k45 out17 0) ∧ ((decide (v19 < (parts_.length : Int))) = false → X1 out17)
def split_Refine (parts_ : (List Cl)) (a_ : Cl) (r_ : (List Cl)) : Prop := ∃ k20, split_Refine.l1 parts_ a_ (split_Refine.j1 r_) k20 [] 0

def split_Parts.j1 (r_ : (List Cl)) (out8 : (List Cl)) : Prop := r_ = out8
def split_Parts.l1 (list_ : (List Cl)) (X1 : (List Cl) → Prop) : Nat → (List Cl) → Int → Prop
  | 0, _, _ => False
  | k_0 + 1, out12, v14 => ((decide (v14 < (list_.length : Int))) = true → ∃ e22 : Cl, at? list_ v14 = some e22 ∧ ∃ r28 : (List Cl), split_Refine out12 e22 r28 ∧ (InR .i64 (v14 + 1)) ∧ split_Parts.l1 list_ X1 k_0 r28 (v14 + 1)) ∧ ((decide (v14 < (list_.length : Int))) = false → X1 out12)
def split_Parts (list_ : (List Cl)) (r_ : (List Cl)) : Prop := ∃ r3 : Cl, class_Not (0#256) r3 ∧ ∃ k15, split_Parts.l1 list_ (split_Parts.j1 r_) k15 [r3] 0

def split_Heads.j1 (r_ : (List Int)) (out7 : (List Int)) : Prop := r_ = out7
def split_Heads.l1 (r5 : (List Cl)) (X1 : (List Int) → Prop) : Nat → (List Int) → Int → Prop
  | 0, _, _ => False
  | k_0 + 1, out11, v13 => ((decide (v13 < (r5.length : Int))) = true → ∃ e21 : Cl, at? r5 v13 = some e21 ∧ ∃ r26 : (Int × Bool), class_Least e21 r26 ∧ (out11.length + [r26.1].length ≤ 2147483648) ∧ (InR .i64 (v13 + 1)) ∧ split_Heads.l1 r5 X1 k_0 (out11 ++ [r26.1]) (v13 + 1)) ∧ ((decide (v13 < (r5.length : Int))) = false → X1 out11)
def split_Heads (list_ : (List Cl)) (r_ : (List Int)) : Prop := ∃ r5 : (List Cl), split_Parts list_ r5 ∧ ∃ k14, split_Heads.l1 r5 (split_Heads.j1 r_) k14 [] 0

def ref02_Bytes.j1 (r_ : Bool) : Prop := r_ = true
def ref02_Bytes.l1 (a_ : (List Int)) (b_ : (List Int)) (r_ : Bool) (X1 : Prop) : Nat → Int → Prop
  | 0, _ => False
  | k_0 + 1, i9 => ((decide (i9 < (a_.length : Int))) = true → ∃ e17 : Int, at? a_ i9 = some e17 ∧ ∃ e19 : Int, at? b_ i9 = some e19 ∧ (((e17 != e19)) = true → r_ = false) ∧ (((e17 != e19)) = false → (InR .i64 (i9 + 1)) ∧ ref02_Bytes.l1 a_ b_ r_ X1 k_0 (i9 + 1))) ∧ ((decide (i9 < (a_.length : Int))) = false → X1)
def ref02_Bytes (a_ : (List Int)) (b_ : (List Int)) (r_ : Bool) : Prop := ((((a_.length : Int) != (b_.length : Int))) = true → r_ = false) ∧ ((((a_.length : Int) != (b_.length : Int))) = false → ∃ k10, ref02_Bytes.l1 a_ b_ r_ (ref02_Bytes.j1 r_) k10 0)

def ref02_Same.j1 (r_ : Bool) : Prop := r_ = true
def ref02_Same.l1 (a_ : (List Cl)) (b_ : (List Cl)) (r_ : Bool) (X1 : Prop) : Nat → Int → Prop
  | 0, _ => False
  | k_0 + 1, i9 => ((decide (i9 < (a_.length : Int))) = true → ∃ e17 : Cl, at? a_ i9 = some e17 ∧ ∃ e19 : Cl, at? b_ i9 = some e19 ∧ (((e17 != e19)) = true → r_ = false) ∧ (((e17 != e19)) = false → (InR .i64 (i9 + 1)) ∧ ref02_Same.l1 a_ b_ r_ X1 k_0 (i9 + 1))) ∧ ((decide (i9 < (a_.length : Int))) = false → X1)
def ref02_Same (a_ : (List Cl)) (b_ : (List Cl)) (r_ : Bool) : Prop := ((((a_.length : Int) != (b_.length : Int))) = true → r_ = false) ∧ ((((a_.length : Int) != (b_.length : Int))) = false → ∃ k10, ref02_Same.l1 a_ b_ r_ (ref02_Same.j1 r_) k10 0)

def law02_awake  (r_ : Bool) : Prop := ∃ r3 : Cl, ref01_Row 3 5 r3 ∧ ∃ r7 : Cl, ref01_Row 5 9 r7 ∧ ∃ r12 : (List Cl), split_Parts [r3, r7] r12 ∧ ∃ r15 : (List Cl), split_Parts [] r15 ∧ ∃ e18 : Cl, (((((r12.length : Int) == 4)) = true) → at? r12 1 = some e18) ∧ ∃ r20 : Cl, (((((r12.length : Int) == 4)) = true) → ref01_Row 3 4 r20) ∧ ∃ e22 : Cl, ((((((r12.length : Int) == 4) && (e18 == r20))) = true) → at? r12 2 = some e22) ∧ ∃ r24 : Cl, ((((((r12.length : Int) == 4) && (e18 == r20))) = true) → ref01_Row 5 5 r24) ∧ ∃ b26 : Bool, b26 = ((((r12.length : Int) == 4) && (e18 == r20)) && (e22 == r24)) ∧ ∃ e28 : Cl, (((b26) = true) → at? r12 3 = some e28) ∧ ∃ r30 : Cl, (((b26) = true) → ref01_Row 6 9 r30) ∧ ∃ b32 : Bool, b32 = ((b26 && (e28 == r30)) && ((r15.length : Int) == 1)) ∧ ∃ e34 : Cl, (((b32) = true) → at? r15 0 = some e34) ∧ ∃ r36 : Cl, (((b32) = true) → ref01_Row 0 255 r36) ∧ ∃ r38 : (List Int), ((((b32 && (e34 == r36))) = true) → split_Heads [r3, r7] r38) ∧ ∃ r40 : Bool, ((((b32 && (e34 == r36))) = true) → ref02_Bytes r38 [0, 3, 5, 6] r40) ∧ ∃ r42 : (List Cl), (((((b32 && (e34 == r36)) && r40)) = true) → split_Refine [r7, r3] r3 r42) ∧ ∃ r44 : Cl, (((((b32 && (e34 == r36)) && r40)) = true) → ref01_Row 5 5 r44) ∧ ∃ r46 : Cl, (((((b32 && (e34 == r36)) && r40)) = true) → ref01_Row 6 9 r46) ∧ ∃ r48 : Bool, (((((b32 && (e34 == r36)) && r40)) = true) → ref02_Same r42 [r3, r44, r46] r48) ∧ r_ = (((b32 && (e34 == r36)) && r40) && r48)

def ref02_like.j1 (r_ : Bool) : Prop := r_ = true
def ref02_like.l1 (list_ : (List Cl)) (c_ : Int) (d_ : Int) (r_ : Bool) (X1 : Prop) : Nat → Int → Prop
  | 0, _ => False
  | k_0 + 1, i6 => ((decide (i6 < (list_.length : Int))) = true → ∃ e14 : Cl, at? list_ i6 = some e14 ∧ ∃ r16 : Bool, ref01_Has e14 c_ r16 ∧ ∃ e18 : Cl, at? list_ i6 = some e18 ∧ ∃ r20 : Bool, ref01_Has e18 d_ r20 ∧ (((r16 != r20)) = true → r_ = false) ∧ (((r16 != r20)) = false → (InR .i64 (i6 + 1)) ∧ ref02_like.l1 list_ c_ d_ r_ X1 k_0 (i6 + 1))) ∧ ((decide (i6 < (list_.length : Int))) = false → X1)
def ref02_like (list_ : (List Cl)) (c_ : Int) (d_ : Int) (r_ : Bool) : Prop := ∃ k7, ref02_like.l1 list_ c_ d_ r_ (ref02_like.j1 r_) k7 0

def ref02_Heads.j1 (r_ : (List Int)) (out5 : (List Int)) : Prop := r_ = out5
def ref02_Heads.j2 (L1_ : (List Int) → Int → Prop) (out9 : (List Int)) (c11 : Int) (alone21 : Bool) : Prop := ((alone21) = true → (out9.length + [c11 % 256].length ≤ 2147483648) ∧ (InR .i64 (c11 + 1)) ∧ L1_ (out9 ++ [c11 % 256]) (c11 + 1)) ∧ ((alone21) = false → (InR .i64 (c11 + 1)) ∧ L1_ out9 (c11 + 1))
def ref02_Heads.l2 (list_ : (List Cl)) (out9 : (List Int)) (c11 : Int) (X2 : Bool → Prop) : Nat → Bool → Int → Prop
  | 0, _, _ => False
  | k_0 + 1, alone28, i29 => ((((decide (i29 < (out9.length : Int))) && alone28)) = true → ∃ e36 : Int, at? out9 i29 = some e36 ∧ ∃ r38 : Bool, ref02_like list_ e36 (c11 % 256) r38 ∧ (InR .i64 (i29 + 1)) ∧ ref02_Heads.l2 list_ out9 c11 X2 k_0 (!r38) (i29 + 1)) ∧ ((((decide (i29 < (out9.length : Int))) && alone28)) = false → X2 alone28)
def ref02_Heads.l1 (list_ : (List Cl)) (X1 : (List Int) → Prop) : Nat → (List Int) → Int → Prop
  | 0, _, _ => False
  | k_0 + 1, out9, c11 => ((decide (c11 < 256)) = true → ∃ k30, ref02_Heads.l2 list_ out9 c11 (ref02_Heads.j2 (ref02_Heads.l1 list_ X1 k_0) out9 c11) k30 true 0) ∧ ((decide (c11 < 256)) = false → X1 out9)
def ref02_Heads (list_ : (List Cl)) (r_ : (List Int)) : Prop := ∃ k12, ref02_Heads.l1 list_ (ref02_Heads.j1 r_) k12 [] 0

def ref02_Parts.j1 (r_ : (List Cl)) (out8 : (List Cl)) : Prop := r_ = out8
def ref02_Parts.j2 (L1_ : (List Cl) → Int → Prop) (out12 : (List Cl)) (i14 : Int) (l26 : (List Bool)) : Prop := ∃ r32 : Cl, ref01_Of l26 r32 ∧ (out12.length + [r32].length ≤ 2147483648) ∧ (InR .i64 (i14 + 1)) ∧ L1_ (out12 ++ [r32]) (i14 + 1)
def ref02_Parts.l2 (list_ : (List Cl)) (r4 : (List Int)) (i14 : Int) (X2 : (List Bool) → Prop) : Nat → (List Bool) → Int → Prop
  | 0, _, _ => False
  | k_0 + 1, l37, c39 => ((decide (c39 < 256)) = true → ∃ e47 : Int, at? r4 i14 = some e47 ∧ ∃ r49 : Bool, ref02_like list_ e47 (c39 % 256) r49 ∧ ∃ e51 : Bool, at? l37 c39 = some e51 ∧ (InR .i64 (c39 + 1)) ∧ ref02_Parts.l2 list_ r4 i14 X2 k_0 (l37.set (c39 : Int).toNat r49) (c39 + 1)) ∧ ((decide (c39 < 256)) = false → X2 l37)
def ref02_Parts.l1 (list_ : (List Cl)) (r4 : (List Int)) (X1 : (List Cl) → Prop) : Nat → (List Cl) → Int → Prop
  | 0, _, _ => False
  | k_0 + 1, out12, i14 => ((decide (i14 < (r4.length : Int))) = true → ∃ k40, ref02_Parts.l2 list_ r4 i14 (ref02_Parts.j2 (ref02_Parts.l1 list_ r4 X1 k_0) out12 i14) k40 (List.replicate 256 false) 0) ∧ ((decide (i14 < (r4.length : Int))) = false → X1 out12)
def ref02_Parts (list_ : (List Cl)) (r_ : (List Cl)) : Prop := ∃ r4 : (List Int), ref02_Heads list_ r4 ∧ ∃ k15, ref02_Parts.l1 list_ r4 (ref02_Parts.j1 r_) k15 [] 0

def ref02_Refine.j1 (r_ : (List Cl)) (out11 : (List Cl)) : Prop := r_ = out11
def ref02_Refine.j2 (L1_ : (List Cl) → Int → Prop) (c17 : Int) (out26 : (List Cl)) : Prop := (InR .i64 (c17 + 1)) ∧ L1_ out26 (c17 + 1)
def ref02_Refine.l2 (l5 : (List Cl)) (c17 : Int) (X2 : (List Cl) → Prop) : Nat → (List Cl) → Int → Prop
  | 0, _, _ => False
  | k_0 + 1, out31, i33 => ((decide (i33 < (l5.length : Int))) = true → ∃ e42 : Cl, at? l5 i33 = some e42 ∧ ∃ r44 : (Int × Bool), ref01_Least e42 r44 ∧ (((r44.2 && (r44.1 == c17))) = true → ∃ e47 : Cl, at? l5 i33 = some e47 ∧ (out31.length + [e47].length ≤ 2147483648) ∧ (InR .i64 (i33 + 1)) ∧ ref02_Refine.l2 l5 c17 X2 k_0 (out31 ++ [e47]) (i33 + 1)) ∧ (((r44.2 && (r44.1 == c17))) = false → (InR .i64 (i33 + 1)) ∧ ref02_Refine.l2 l5 c17 X2 k_0 out31 (i33 + 1))) ∧ ((decide (i33 < (l5.length : Int))) = false → X2 out31)
def ref02_Refine.l1 (l5 : (List Cl)) (X1 : (List Cl) → Prop) : Nat → (List Cl) → Int → Prop
  | 0, _, _ => False
  | k_0 + 1, out15, c17 => ((decide (c17 < 256)) = true → ∃ k34, ref02_Refine.l2 l5 c17 (ref02_Refine.j2 (ref02_Refine.l1 l5 X1 k_0) c17) k34 out15 0) ∧ ((decide (c17 < 256)) = false → X1 out15)
def ref02_Refine.j3 (r_ : (List Cl)) (l5 : (List Cl)) : Prop := ∃ k18, ref02_Refine.l1 l5 (ref02_Refine.j1 r_) k18 [] 0
def ref02_Refine.l3 (parts_ : (List Cl)) (a_ : Cl) (X3 : (List Cl) → Prop) : Nat → (List Cl) → Int → Prop
  | 0, _, _ => False
  | k_0 + 1, l54, i56 => ((decide (i56 < (parts_.length : Int))) = true → ∃ e64 : Cl, at? parts_ i56 = some e64 ∧ ∃ r66 : Cl, ref01_Both e64 a_ r66 ∧ (l54.length + [r66].length ≤ 2147483648) ∧ ∃ e70 : Cl, at? parts_ i56 = some e70 ∧ ∃ r72 : Cl, ref01_Not a_ r72 ∧ ∃ r74 : Cl, ref01_Both e70 r72 r74 ∧ ((l54 ++ [r66]).length + [r74].length ≤ 2147483648) ∧ (InR .i64 (i56 + 1)) ∧ ref02_Refine.l3 parts_ a_ X3 k_0 ((l54 ++ [r66]) ++ [r74]) (i56 + 1)) ∧ ((decide (i56 < (parts_.length : Int))) = false → X3 l54)
def ref02_Refine (parts_ : (List Cl)) (a_ : Cl) (r_ : (List Cl)) : Prop := ∃ k57, ref02_Refine.l3 parts_ a_ (ref02_Refine.j3 r_) k57 [] 0

def law02_SplitTells (list_ : (List Cl)) (parts_ : (List Cl)) (a_ : Cl) (r_ : Bool) : Prop := ∃ r4 : Bool, law02_awake  r4 ∧ ∃ b6 : Bool, b6 = (((!r4) || (decide (12 < (list_.length : Int)))) || (decide (12 < (parts_.length : Int)))) ∧ ((b6) = true → ∃ r9 : Bool, law02_awake  r9 ∧ r_ = r9) ∧ ((b6) = false → ∃ r12 : (List Cl), split_Parts list_ r12 ∧ ∃ r14 : (List Cl), ref02_Parts list_ r14 ∧ ∃ r16 : Bool, ref02_Same r12 r14 r16 ∧ ∃ r18 : (List Int), (((r16) = true) → split_Heads list_ r18) ∧ ∃ r20 : (List Int), (((r16) = true) → ref02_Heads list_ r20) ∧ ∃ r22 : Bool, (((r16) = true) → ref02_Bytes r18 r20 r22) ∧ ∃ r24 : (List Cl), ((((r16 && r22)) = true) → split_Refine parts_ a_ r24) ∧ ∃ r26 : (List Cl), ((((r16 && r22)) = true) → ref02_Refine parts_ a_ r26) ∧ ∃ r28 : Bool, ((((r16 && r22)) = true) → ref02_Same r24 r26 r28) ∧ r_ = ((r16 && r22) && r28))

def law02_SplitFine.j1 (r_ : Bool) (all24 : Cl) : Prop := ∃ r27 : Cl, ref01_Row 0 255 r27 ∧ r_ = (all24 == r27)
def law02_SplitFine.j2 (L1_ : Cl → Int → Prop) (i30 : Int) (r47 : Cl) : Prop := (InR .i64 (i30 + 1)) ∧ L1_ r47 (i30 + 1)
def law02_SplitFine.j3 (L2_ : Int → Prop) (r_ : Bool) (k72 : Int) (apart82 : Bool) : Prop := (((!apart82)) = true → r_ = false) ∧ (((!apart82)) = false → (InR .i64 (k72 + 1)) ∧ L2_ (k72 + 1))
def law02_SplitFine.l3 (list_ : (List Cl)) (r13 : (List Int)) (i30 : Int) (k72 : Int) (X3 : Bool → Prop) : Nat → Bool → Int → Prop
  | 0, _, _ => False
  | k_0 + 1, apart87, m88 => ((decide (m88 < (list_.length : Int))) = true → ∃ e95 : Cl, (((apart87) = false) → at? list_ m88 = some e95) ∧ ∃ e97 : Int, (((apart87) = false) → at? r13 i30 = some e97) ∧ ∃ r99 : Bool, (((apart87) = false) → ref01_Has e95 e97 r99) ∧ ∃ e101 : Cl, (((apart87) = false) → at? list_ m88 = some e101) ∧ ∃ e103 : Int, (((apart87) = false) → at? r13 k72 = some e103) ∧ ∃ r105 : Bool, (((apart87) = false) → ref01_Has e101 e103 r105) ∧ (InR .i64 (m88 + 1)) ∧ law02_SplitFine.l3 list_ r13 i30 k72 X3 k_0 (apart87 || (r99 != r105)) (m88 + 1)) ∧ ((decide (m88 < (list_.length : Int))) = false → X3 apart87)
def law02_SplitFine.l2 (list_ : (List Cl)) (r13 : (List Int)) (i30 : Int) (r_ : Bool) (X2 : Prop) : Nat → Int → Prop
  | 0, _ => False
  | k_0 + 1, k72 => ((decide (k72 < i30)) = true → ∃ k89, law02_SplitFine.l3 list_ r13 i30 k72 (law02_SplitFine.j3 (law02_SplitFine.l2 list_ r13 i30 r_ X2 k_0) r_ k72) k89 false 0) ∧ ((decide (k72 < i30)) = false → X2)
def law02_SplitFine.j4 (L1_ : Cl → Int → Prop) (list_ : (List Cl)) (r_ : Bool) (r13 : (List Int)) (i30 : Int) (r47 : Cl) : Prop := ∃ k73, law02_SplitFine.l2 list_ r13 i30 r_ (law02_SplitFine.j2 (L1_) i30 r47) k73 0
def law02_SplitFine.l4 (list_ : (List Cl)) (r10 : (List Cl)) (i30 : Int) (r_ : Bool) (X4 : Prop) : Nat → Int → Prop
  | 0, _ => False
  | k_0 + 1, k108 => ((decide (k108 < (list_.length : Int))) = true → ∃ e118 : Cl, at? r10 i30 = some e118 ∧ ∃ e120 : Cl, at? list_ k108 = some e120 ∧ ∃ r122 : Cl, ref01_Both e118 e120 r122 ∧ ∃ e127 : Cl, at? r10 i30 = some e127 ∧ ((((r122 != e127) && (r122 != (0#256)))) = true → r_ = false) ∧ ((((r122 != e127) && (r122 != (0#256)))) = false → (InR .i64 (k108 + 1)) ∧ law02_SplitFine.l4 list_ r10 i30 r_ X4 k_0 (k108 + 1))) ∧ ((decide (k108 < (list_.length : Int))) = false → X4)
def law02_SplitFine.l1 (list_ : (List Cl)) (r10 : (List Cl)) (r13 : (List Int)) (r_ : Bool) (X1 : Cl → Prop) : Nat → Cl → Int → Prop
  | 0, _, _ => False
  | k_0 + 1, all29, i30 => ((decide (i30 < (r10.length : Int))) = true → ∃ e39 : Cl, at? r10 i30 = some e39 ∧ ∃ r41 : Cl, ref01_Both all29 e39 r41 ∧ (((r41 != (0#256))) = true → r_ = false) ∧ (((r41 != (0#256))) = false → ∃ e45 : Cl, at? r10 i30 = some e45 ∧ ∃ r47 : Cl, ref01_Join all29 e45 r47 ∧ ∃ e50 : Cl, at? r10 i30 = some e50 ∧ ∃ r52 : (Int × Bool), ref01_Least e50 r52 ∧ ∃ e56 : Int, ((((!r52.2)) = false) → at? r13 i30 = some e56) ∧ ((((((!r52.2) || (r52.1 != e56))) = false) ∧ (decide (0 < i30)) = true) → InR .i64 (i30 - 1)) ∧ ∃ e59 : Int, ((((((!r52.2) || (r52.1 != e56))) = false) ∧ (decide (0 < i30)) = true) → at? r13 (i30 - 1) = some e59) ∧ ∃ e61 : Int, ((((((!r52.2) || (r52.1 != e56))) = false) ∧ (decide (0 < i30)) = true) → at? r13 i30 = some e61) ∧ ∃ b63 : Bool, b63 = (((!r52.2) || (r52.1 != e56)) || ((decide (0 < i30)) && (decide (e61 ≤ e59)))) ∧ ((b63) = true → r_ = false) ∧ ((b63) = false → ∃ k109, law02_SplitFine.l4 list_ r10 i30 r_ (law02_SplitFine.j4 (law02_SplitFine.l1 list_ r10 r13 r_ X1 k_0) list_ r_ r13 i30 r47) k109 0))) ∧ ((decide (i30 < (r10.length : Int))) = false → X1 all29)
def law02_SplitFine (list_ : (List Cl)) (r_ : Bool) : Prop := ∃ r4 : Bool, law02_awake  r4 ∧ ((((!r4) || (decide (12 < (list_.length : Int))))) = true → ∃ r7 : Bool, law02_awake  r7 ∧ r_ = r7) ∧ ((((!r4) || (decide (12 < (list_.length : Int))))) = false → ∃ r10 : (List Cl), split_Parts list_ r10 ∧ ∃ r13 : (List Int), split_Heads list_ r13 ∧ ∃ b17 : Bool, b17 = (((r10.length : Int) != (r13.length : Int)) || ((r10.length : Int) == 0)) ∧ ((b17) = true → r_ = false) ∧ ((b17) = false → ∃ k31, law02_SplitFine.l1 list_ r10 r13 r_ (law02_SplitFine.j1 r_) k31 (0#256) 0))

def law02_SplitOrder.j1 (list_ : (List Cl)) (which_ : Int) (r_ : Bool) (r12 : (List Cl)) (turned17 : (List Cl)) : Prop := (0 < (list_.length : Int)) ∧ (0 ≤ which_) ∧ (list_.length ≤ 2147483648) ∧ ∃ e27 : Cl, at? list_ (which_ % (list_.length : Int)) = some e27 ∧ (list_.length + [e27].length ≤ 2147483648) ∧ ∃ r39 : (List Cl), split_Parts turned17 r39 ∧ ∃ r41 : Bool, ref02_Same r39 r12 r41 ∧ ∃ r43 : (List Cl), (((r41) = true) → split_Parts (list_ ++ [e27]) r43) ∧ ∃ r45 : Bool, (((r41) = true) → ref02_Same r43 r12 r45) ∧ ∃ e47 : Cl, ((((r41 && r45)) = true) → at? list_ (which_ % (list_.length : Int)) = some e47) ∧ ∃ r49 : (List Cl), ((((r41 && r45)) = true) → split_Refine r12 e47 r49) ∧ ∃ r51 : Bool, ((((r41 && r45)) = true) → ref02_Same r49 r12 r51) ∧ r_ = ((r41 && r45) && r51)
def law02_SplitOrder.j2 (L1_ : (List Cl) → Int → Prop) (turned53 : (List Cl)) (i55 : Int) (a73 : Cl) : Prop := (turned53.length + [a73].length ≤ 2147483648) ∧ (InR .i64 (i55 + 1)) ∧ L1_ (turned53 ++ [a73]) (i55 + 1)
def law02_SplitOrder.l1 (list_ : (List Cl)) (turn_ : Int) (X1 : (List Cl) → Prop) : Nat → (List Cl) → Int → Prop
  | 0, _, _ => False
  | k_0 + 1, turned53, i55 => ((decide (i55 < (list_.length : Int))) = true → (InR .i64 (i55 + turn_)) ∧ (0 < (list_.length : Int)) ∧ (0 ≤ (i55 + turn_)) ∧ ∃ e66 : Cl, at? list_ ((i55 + turn_) % (list_.length : Int)) = some e66 ∧ (0 ≤ i55) ∧ ((((i55 % 2) == 1)) = true → ∃ r79 : Cl, ref01_Not e66 r79 ∧ (law02_SplitOrder.j2 (law02_SplitOrder.l1 list_ turn_ X1 k_0) turned53 i55) r79) ∧ ((((i55 % 2) == 1)) = false → (law02_SplitOrder.j2 (law02_SplitOrder.l1 list_ turn_ X1 k_0) turned53 i55) e66)) ∧ ((decide (i55 < (list_.length : Int))) = false → X1 turned53)
def law02_SplitOrder (list_ : (List Cl)) (turn_ : Int) (which_ : Int) (r_ : Bool) : Prop := ∃ r4 : Bool, law02_awake  r4 ∧ ∃ b6 : Bool, b6 = (((!r4) || (decide (10 < (list_.length : Int)))) || ((list_.length : Int) == 0)) ∧ ((b6) = true → ∃ r9 : Bool, law02_awake  r9 ∧ r_ = r9) ∧ ((b6) = false → ∃ r12 : (List Cl), split_Parts list_ r12 ∧ ∃ k56, law02_SplitOrder.l1 list_ turn_ (law02_SplitOrder.j1 list_ which_ r_ r12) k56 [] 0)

def law02_SplitMore.j1 (r_ : Bool) : Prop := r_ = true
def law02_SplitMore.j2 (L1_ : Int → Prop) (r_ : Bool) (i38 : Int) (found48 : Bool) : Prop := (((!found48)) = true → r_ = false) ∧ (((!found48)) = false → (InR .i64 (i38 + 1)) ∧ L1_ (i38 + 1))
def law02_SplitMore.l2 (r10 : (List Cl)) (r20 : (List Cl)) (i38 : Int) (X2 : Bool → Prop) : Nat → Bool → Int → Prop
  | 0, _, _ => False
  | k_0 + 1, found53, k54 => ((decide (k54 < (r10.length : Int))) = true → ∃ e61 : Cl, (((found53) = false) → at? r20 i38 = some e61) ∧ ∃ e63 : Cl, (((found53) = false) → at? r10 k54 = some e63) ∧ ∃ r65 : Cl, (((found53) = false) → ref01_Both e61 e63 r65) ∧ ∃ e67 : Cl, (((found53) = false) → at? r20 i38 = some e67) ∧ (InR .i64 (k54 + 1)) ∧ law02_SplitMore.l2 r10 r20 i38 X2 k_0 (found53 || (r65 == e67)) (k54 + 1)) ∧ ((decide (k54 < (r10.length : Int))) = false → X2 found53)
def law02_SplitMore.l1 (r10 : (List Cl)) (r20 : (List Cl)) (r_ : Bool) (X1 : Prop) : Nat → Int → Prop
  | 0, _ => False
  | k_0 + 1, i38 => ((decide (i38 < (r20.length : Int))) = true → ∃ k55, law02_SplitMore.l2 r10 r20 i38 (law02_SplitMore.j2 (law02_SplitMore.l1 r10 r20 r_ X1 k_0) r_ i38) k55 false 0) ∧ ((decide (i38 < (r20.length : Int))) = false → X1)
def law02_SplitMore (list_ : (List Cl)) (a_ : Cl) (r_ : Bool) : Prop := ∃ r4 : Bool, law02_awake  r4 ∧ ((((!r4) || (decide (10 < (list_.length : Int))))) = true → ∃ r7 : Bool, law02_awake  r7 ∧ r_ = r7) ∧ ((((!r4) || (decide (10 < (list_.length : Int))))) = false → ∃ r10 : (List Cl), split_Parts list_ r10 ∧ (list_.length ≤ 2147483648) ∧ (list_.length + [a_].length ≤ 2147483648) ∧ ∃ r20 : (List Cl), split_Parts (list_ ++ [a_]) r20 ∧ (((decide ((r20.length : Int) < (r10.length : Int))) = false) → InR .i64 (2 * (r10.length : Int))) ∧ ∃ b25 : Bool, b25 = (decide (2 * (r10.length : Int) < (r20.length : Int))) ∧ ∃ b27 : Bool, b27 = ((decide ((r20.length : Int) < (r10.length : Int))) || b25) ∧ ∃ r29 : (List Cl), (((b27) = false) → split_Refine r10 a_ r29) ∧ ∃ r31 : Bool, (((b27) = false) → ref02_Same r20 r29 r31) ∧ (((b27 || (!r31))) = true → r_ = false) ∧ (((b27 || (!r31))) = false → ∃ k39, law02_SplitMore.l1 r10 r20 r_ (law02_SplitMore.j1 r_) k39 0))

def law02_SplitHeads.j1 (r_ : Bool) (list21 : (List Cl)) (r30 : (List Int)) (at35 : Int) : Prop := ∃ r38 : (List Cl), ((((at35 == (r30.length : Int))) = true) → split_Parts list21 r38) ∧ ∃ b40 : Bool, b40 = ((at35 == (r30.length : Int)) && ((r30.length : Int) == (r38.length : Int))) ∧ r_ = b40
def law02_SplitHeads.l1 (cut23 : (List Bool)) (r30 : (List Int)) (r_ : Bool) (X1 : Int → Prop) : Nat → Int → Int → Prop
  | 0, _, _ => False
  | k_0 + 1, at42, c43 => ((decide (c43 < 256)) = true → ∃ e51 : Int, (((decide (at42 < (r30.length : Int))) = true) → at? r30 at42 = some e51) ∧ ∃ b53 : Bool, b53 = ((decide (at42 < (r30.length : Int))) && (e51 == c43)) ∧ ∃ e57 : Bool, (((b53) = true) → at? cut23 c43 = some e57) ∧ (((b53 && (!e57))) = true → r_ = false) ∧ (((b53 && (!e57))) = false → ((b53) = true → (InR .i64 (at42 + 1)) ∧ (InR .i64 (c43 + 1)) ∧ law02_SplitHeads.l1 cut23 r30 r_ X1 k_0 (at42 + 1) (c43 + 1)) ∧ ((b53) = false → (InR .i64 (c43 + 1)) ∧ law02_SplitHeads.l1 cut23 r30 r_ X1 k_0 at42 (c43 + 1)))) ∧ ((decide (c43 < 256)) = false → X1 at42)
def law02_SplitHeads.j2 (r_ : Bool) (list21 : (List Cl)) (cut23 : (List Bool)) : Prop := ∃ r30 : (List Int), split_Heads list21 r30 ∧ ∃ k44, law02_SplitHeads.l1 cut23 r30 r_ (law02_SplitHeads.j1 r_ list21 r30) k44 0 0
def law02_SplitHeads.l2 (from_ : (List Int)) (long_ : (List Int)) (X2 : (List Cl) → (List Bool) → Prop) : Nat → (List Cl) → (List Bool) → Int → Prop
  | 0, _, _, _ => False
  | k_0 + 1, list64, cut66, i68 => ((decide (i68 < (from_.length : Int))) = true → ∃ e77 : Int, at? from_ i68 = some e77 ∧ ∃ e79 : Int, at? long_ i68 = some e79 ∧ (InR .i64 (e77 + e79)) ∧ ∃ e83 : Int, at? from_ i68 = some e83 ∧ ∃ r85 : Cl, ref01_Row e83 ((min 255 (e77 + e79)) % 256) r85 ∧ (list64.length + [r85].length ≤ 2147483648) ∧ ∃ e91 : Int, at? from_ i68 = some e91 ∧ ∃ e93 : Bool, at? cut66 e91 = some e93 ∧ (InR .i64 ((min 255 (e77 + e79)) + 1)) ∧ ∃ e96 : Bool, at? (cut66.set (e91 : Int).toNat true) ((min 255 (e77 + e79)) + 1) = some e96 ∧ (InR .i64 (i68 + 1)) ∧ law02_SplitHeads.l2 from_ long_ X2 k_0 (list64 ++ [r85]) ((cut66.set (e91 : Int).toNat true).set ((min 255 (e77 + e79)) + 1 : Int).toNat true) (i68 + 1)) ∧ ((decide (i68 < (from_.length : Int))) = false → X2 list64 cut66)
def law02_SplitHeads (from_ : (List Int)) (long_ : (List Int)) (r_ : Bool) : Prop := ∃ r4 : Bool, law02_awake  r4 ∧ ∃ b6 : Bool, b6 = (decide ((long_.length : Int) < (from_.length : Int))) ∧ ∃ b8 : Bool, b8 = (((!r4) || (decide (8 < (from_.length : Int)))) || b6) ∧ ((b8) = true → ∃ r11 : Bool, law02_awake  r11 ∧ r_ = r11) ∧ ((b8) = false → ∃ e17 : Bool, at? (List.replicate 257 false) 0 = some e17 ∧ ∃ k69, law02_SplitHeads.l2 from_ long_ (law02_SplitHeads.j2 r_) k69 [] ((List.replicate 257 false).set (0 : Int).toNat true) 0)

def law02_SplitOne.j1 (r_ : Bool) (list33 : (List Cl)) (n40 : Int) : Prop := ∃ r45 : (List Cl), (((decide (40 < n40)) = false) → split_Parts list33 r45) ∧ ∃ b47 : Bool, b47 = ((decide (40 < n40)) || ((r45.length : Int) == n40)) ∧ r_ = b47
def law02_SplitOne.j2 (r_ : Bool) (r11 : Cl) (list33 : (List Cl)) (n35 : Int) : Prop := (((r11 != (0#256))) = true → (InR .i64 (n35 + 1)) ∧ (law02_SplitOne.j1 r_ list33) (n35 + 1)) ∧ (((r11 != (0#256))) = false → (law02_SplitOne.j1 r_ list33) n35)
def law02_SplitOne.l1 (a_ : Cl) (X1 : (List Cl) → Int → Prop) : Nat → (List Cl) → Int → Int → Prop
  | 0, _, _, _ => False
  | k_0 + 1, list50, n52, c53 => ((decide (c53 < 256)) = true → ∃ r62 : Bool, ref01_Has a_ (c53 % 256) r62 ∧ ((r62) = true → ∃ r65 : Cl, ref01_Row (c53 % 256) (c53 % 256) r65 ∧ (list50.length + [r65].length ≤ 2147483648) ∧ (InR .i64 (n52 + 1)) ∧ (InR .i64 (c53 + 1)) ∧ law02_SplitOne.l1 a_ X1 k_0 (list50 ++ [r65]) (n52 + 1) (c53 + 1)) ∧ ((r62) = false → (InR .i64 (c53 + 1)) ∧ law02_SplitOne.l1 a_ X1 k_0 list50 n52 (c53 + 1))) ∧ ((decide (c53 < 256)) = false → X1 list50 n52)
def law02_SplitOne.j3 (a_ : Cl) (r_ : Bool) (r11 : Cl) (some17 : Int) (want22 : Int) : Prop := (((some17 != want22)) = true → r_ = false) ∧ (((some17 != want22)) = false → ∃ k54, law02_SplitOne.l1 a_ (law02_SplitOne.j2 r_ r11) k54 [a_] 0 0)
def law02_SplitOne.j4 (a_ : Cl) (r_ : Bool) (r11 : Cl) (some17 : Int) : Prop := ((((a_ == (0#256)) || (r11 == (0#256)))) = true → (law02_SplitOne.j3 a_ r_ r11 some17) 1) ∧ ((((a_ == (0#256)) || (r11 == (0#256)))) = false → (law02_SplitOne.j3 a_ r_ r11 some17) 2)
def law02_SplitOne.l2 (a_ : Cl) (r8 : (List Cl)) (r11 : Cl) (r_ : Bool) (X2 : Int → Prop) : Nat → Int → Int → Prop
  | 0, _, _ => False
  | k_0 + 1, some73, i74 => ((decide (i74 < (r8.length : Int))) = true → ∃ e83 : Cl, at? r8 i74 = some e83 ∧ ∃ e85 : Cl, ((((e83 != a_)) = true) → at? r8 i74 = some e85) ∧ ((((e83 != a_) && (e85 != r11))) = true → r_ = false) ∧ ((((e83 != a_) && (e85 != r11))) = false → (InR .i64 (some73 + 1)) ∧ (InR .i64 (i74 + 1)) ∧ law02_SplitOne.l2 a_ r8 r11 r_ X2 k_0 (some73 + 1) (i74 + 1))) ∧ ((decide (i74 < (r8.length : Int))) = false → X2 some73)
def law02_SplitOne (a_ : Cl) (r_ : Bool) : Prop := ∃ r4 : Bool, law02_awake  r4 ∧ (((!r4)) = true → r_ = false) ∧ (((!r4)) = false → ∃ r8 : (List Cl), split_Parts [a_] r8 ∧ ∃ r11 : Cl, ref01_Not a_ r11 ∧ ∃ k75, law02_SplitOne.l2 a_ r8 r11 r_ (law02_SplitOne.j4 a_ r_ r11) k75 0 0)
end Go.Proofs.Ytkdbiiollbeoeaa.V
