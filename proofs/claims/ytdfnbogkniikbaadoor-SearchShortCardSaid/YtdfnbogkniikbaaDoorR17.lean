/- What the functions of layer 17 compute, as relations over plain data (by gen.py). -/
import Derived.Test.YtdfnbogkniikbaaDoorR02
namespace Go.Proofs.YtdfnbogkniikbaaDoor.V
open Go
set_option linter.unusedVariables false
def search_Find_1 (i_ : Int) (cap0_ : STable) (r_ : Bool) : Prop := ∃ e3 : Bool, at? cap0_.2 i_ = some e3 ∧ r_ = e3

def search_space_1.j1 (r_ : (List SOn_int_search)) (out7 : (List SOn_int_search)) : Prop := r_ = out7
def search_space_1.l1 (e5 : (List SWay)) (X1 : (List SOn_int_search) → Prop) : Nat → (List SOn_int_search) → Int → Prop
  | 0, _, _ => False
  | k_0 + 1, out11, v13 => ((decide (v13 < (e5.length : Int))) = true → ∃ e21 : SWay, at? e5 v13 = some e21 ∧ (out11.length + [(e21.1, e21.2)].length ≤ 2147483648) ∧ (InR .i64 (v13 + 1)) ∧ search_space_1.l1 e5 X1 k_0 (out11 ++ [(e21.1, e21.2)]) (v13 + 1)) ∧ ((decide (v13 < (e5.length : Int))) = false → X1 out11)
def search_space_1 (i_ : Int) (cap0_ : STable) (r_ : (List SOn_int_search)) : Prop := ∃ e5 : (List SWay), at? cap0_.1 i_ = some e5 ∧ ∃ k14, search_space_1.l1 e5 (search_space_1.j1 r_) k14 ([] : (List SOn_int_search)) 0

def search_space (t_ : STable) (hit_ : (Int × Bool → Prop)) (r_ : SSpace_int_search) : Prop := r_ = (0, (fun q_ => strconv_Itoa q_.1 q_.2), (fun q_ => search_space_1 q_.1 t_ q_.2), hit_)

def search_space_g (t_ : STable) (hit_ : Value) (r_ : SSpace_int_searchR) : Prop := r_ = (0, (fun q_ => strconv_Itoa q_.1 q_.2), (fun q_ => search_space_1 q_.1 t_ q_.2), hit_)

def search_word_int.j1 (r_ : (List Int)) (out4 : (List Int)) : Prop := ∃ r8 : (List Int), slices_Reverse_byte_byte out4 r8 ∧ r_ = r8
def search_word_int.l1 (l_ : (List Smade_int_search)) (X1 : (List Int) → Prop) : Nat → Int → (List Int) → Prop
  | 0, _, _ => False
  | k_0 + 1, i11, out12 => ∃ e19 : Smade_int_search, at? l_ i11 = some e19 ∧ ((decide (0 ≤ e19.2.1)) = true → ∃ e22 : Smade_int_search, at? l_ i11 = some e22 ∧ (out12.length + [e22.2.2].length ≤ 2147483648) ∧ ∃ e26 : Smade_int_search, at? l_ i11 = some e26 ∧ search_word_int.l1 l_ X1 k_0 e26.2.1 (out12 ++ [e22.2.2])) ∧ ((decide (0 ≤ e19.2.1)) = false → X1 out12)
def search_word_int (l_ : (List Smade_int_search)) (i_ : Int) (r_ : (List Int)) : Prop := ∃ k14, search_word_int.l1 l_ (search_word_int.j1 r_) k14 i_ ([] : (List Int))

def search_Space_int_Walk.j1 (r_ : SFound_int_search) (v14 : SFound_int_search) (list15 : (List Smade_int_search)) : Prop := r_ = ((1, [], [], 0, 0, 0, (list15.length : Int)), 0)
def search_Space_int_Walk.j2 (L1_ : SFound_int_search → (List Smade_int_search) → (List (Str × Bool)) → Int → Prop) (v20 : SFound_int_search) (i25 : Int) (list54 : (List Smade_int_search)) (seen56 : (List (Str × Bool))) : Prop := (InR .i64 (i25 + 1)) ∧ L1_ v20 list54 seen56 (i25 + 1)
def search_Space_int_Walk.l2 (s_ : SSpace_int_search) (i25 : Int) (r52 : (List SOn_int_search)) (X2 : (List Smade_int_search) → (List (Str × Bool)) → Prop) : Nat → (List Smade_int_search) → (List (Str × Bool)) → Int → Prop
  | 0, _, _, _ => False
  | k_0 + 1, list63, seen65, v67 => ((decide (v67 < (r52.length : Int))) = true → ∃ e78 : SOn_int_search, at? r52 v67 = some e78 ∧ ∃ r85 : Str, s_.2.1 (e78.2, r85) ∧ (((!(mget seen65 r85 false))) = true → (list63.length + [(e78.2, i25, e78.1)].length ≤ 2147483648) ∧ (InR .i64 (v67 + 1)) ∧ search_Space_int_Walk.l2 s_ i25 r52 X2 k_0 (list63 ++ [(e78.2, i25, e78.1)]) (mput seen65 r85 true) (v67 + 1)) ∧ (((!(mget seen65 r85 false))) = false → (InR .i64 (v67 + 1)) ∧ search_Space_int_Walk.l2 s_ i25 r52 X2 k_0 list63 seen65 (v67 + 1))) ∧ ((decide (v67 < (r52.length : Int))) = false → X2 list63 seen65)
def search_Space_int_Walk.l1 (s_ : SSpace_int_search) (budget_ : Int) (r_ : SFound_int_search) (X1 : SFound_int_search → (List Smade_int_search) → Prop) : Nat → SFound_int_search → (List Smade_int_search) → (List (Str × Bool)) → Int → Prop
  | 0, _, _, _, _ => False
  | k_0 + 1, v20, list21, seen23, i25 => ((decide (i25 < (list21.length : Int))) = true → ((decide (budget_ ≤ i25)) = true → r_ = ((3, [], [], 0, 0, 0, (max budget_ 0)), 0)) ∧ ((decide (budget_ ≤ i25)) = false → ∃ e39 : Smade_int_search, at? list21 i25 = some e39 ∧ ∃ r43 : Bool, s_.2.2.2 (e39.1, r43) ∧ ((r43) = true → ∃ r48 : (List Int), search_word_int list21 i25 r48 ∧ (InR .i64 (i25 + 1)) ∧ r_ = ((2, r48, [], 0, 0, 0, i25 + 1), e39.1)) ∧ ((r43) = false → ∃ r52 : (List SOn_int_search), s_.2.2.1 (e39.1, r52) ∧ ∃ k68, search_Space_int_Walk.l2 s_ i25 r52 (search_Space_int_Walk.j2 (search_Space_int_Walk.l1 s_ budget_ r_ X1 k_0) v20 i25) k68 list21 seen23 0))) ∧ ((decide (i25 < (list21.length : Int))) = false → X1 v20 list21)
def search_Space_int_Walk (s_ : SSpace_int_search) (budget_ : Int) (r_ : SFound_int_search) : Prop := ∃ r10 : Str, s_.2.1 (s_.1, r10) ∧ ∃ k26, search_Space_int_Walk.l1 s_ budget_ r_ (search_Space_int_Walk.j1 r_) k26 ((0, [], [], 0, 0, 0, 0), 0) [(s_.1, (-1), 0)] (mput ([] : (List (Str × Bool))) r10 true) 0

def search_Space_int_Walk_g.j1 (r_ : (SFound_int_search × (List Int))) (v17 : SFound_int_search) (list18 : (List Smade_int_search)) (v20 : (List Int)) : Prop := r_ = (((1, [], [], 0, 0, 0, (list18.length : Int)), 0), v20)
def search_Space_int_Walk_g.j2 (L1_ : SFound_int_search → (List Smade_int_search) → (List (Str × Bool)) → Int → (List Int) → Prop) (v30 : SFound_int_search) (i35 : Int) (v36 : (List Int)) (e58 : Smade_int_search) (list78 : (List Smade_int_search)) (seen80 : (List (Str × Bool))) : Prop := (InR .i64 (i35 + 1)) ∧ L1_ v30 list78 seen80 (i35 + 1) (v36 ++ [e58.1])
def search_Space_int_Walk_g.l2 (s_ : SSpace_int_searchR) (i35 : Int) (r76 : (List SOn_int_search)) (X2 : (List Smade_int_search) → (List (Str × Bool)) → Prop) : Nat → (List Smade_int_search) → (List (Str × Bool)) → Int → Prop
  | 0, _, _, _ => False
  | k_0 + 1, list94, seen96, v98 => ((decide (v98 < (r76.length : Int))) = true → ∃ e116 : SOn_int_search, at? r76 v98 = some e116 ∧ ∃ r125 : Str, s_.2.1 (e116.2, r125) ∧ (((!(mget seen96 r125 false))) = true → (list94.length + [(e116.2, i35, e116.1)].length ≤ 2147483648) ∧ (InR .i64 (v98 + 1)) ∧ search_Space_int_Walk_g.l2 s_ i35 r76 X2 k_0 (list94 ++ [(e116.2, i35, e116.1)]) (mput seen96 r125 true) (v98 + 1)) ∧ (((!(mget seen96 r125 false))) = false → (InR .i64 (v98 + 1)) ∧ search_Space_int_Walk_g.l2 s_ i35 r76 X2 k_0 list94 seen96 (v98 + 1))) ∧ ((decide (v98 < (r76.length : Int))) = false → X2 list94 seen96)
def search_Space_int_Walk_g.l1 (s_ : SSpace_int_searchR) (budget_ : Int) (c_ : Nat) (r_ : (SFound_int_search × (List Int))) (X1 : SFound_int_search → (List Smade_int_search) → (List Int) → Prop) : Nat → SFound_int_search → (List Smade_int_search) → (List (Str × Bool)) → Int → (List Int) → Prop
  | 0, _, _, _, _, _ => False
  | k_0 + 1, v30, list31, seen33, i35, v36 => ((decide (i35 < (list31.length : Int))) = true → ((decide (budget_ ≤ i35)) = true → r_ = (((3, [], [], 0, 0, 0, (max budget_ 0)), 0), v36)) ∧ ((decide (budget_ ≤ i35)) = false → ∃ e58 : Smade_int_search, at? list31 i35 = some e58 ∧ (s_.2.2.2 = hv 55 c_) ∧ (v36.length + 1 ≤ 2147483648) ∧ ((false) = true → ∃ r72 : (List Int), search_word_int list31 i35 r72 ∧ (InR .i64 (i35 + 1)) ∧ r_ = (((2, r72, [], 0, 0, 0, i35 + 1), e58.1), v36 ++ [e58.1])) ∧ ((false) = false → ∃ r76 : (List SOn_int_search), s_.2.2.1 (e58.1, r76) ∧ ∃ k99, search_Space_int_Walk_g.l2 s_ i35 r76 (search_Space_int_Walk_g.j2 (search_Space_int_Walk_g.l1 s_ budget_ c_ r_ X1 k_0) v30 i35 v36 e58) k99 list31 seen33 0))) ∧ ((decide (i35 < (list31.length : Int))) = false → X1 v30 list31 v36)
def search_Space_int_Walk_g (c_ : Nat) (s_ : SSpace_int_searchR) (budget_ : Int) (r_ : (SFound_int_search × (List Int))) : Prop := ∃ r13 : Str, s_.2.1 (s_.1, r13) ∧ ∃ k38, search_Space_int_Walk_g.l1 s_ budget_ c_ r_ (search_Space_int_Walk_g.j1 r_) k38 ((0, [], [], 0, 0, 0, 0), 0) [(s_.1, (-1), 0)] (mput ([] : (List (Str × Bool))) r13 true) 0 ([] : (List Int))

def search_Find (t_ : STable) (budget_ : Int) (r_ : SVerdict) : Prop := ∃ r4 : SSpace_int_search, search_space t_ (fun q_ => search_Find_1 q_.1 t_ q_.2) r4 ∧ ∃ r6 : SFound_int_search, search_Space_int_Walk r4 budget_ r6 ∧ r_ = r6.1

def search_Things (t_ : STable) (r_ : (List Int)) : Prop := ∀ g3 : Nat, ∃ r5 : SSpace_int_searchR, search_space_g t_ (hv 55 g3) r5 ∧ ∃ r7 : (SFound_int_search × (List Int)), search_Space_int_Walk_g g3 r5 (t_.1.length : Int) r7 ∧ r_ = r7.2

def search_Form_1_1 (w_ : SWay) (cap0_ : Int) (r_ : Bool) : Prop := r_ = ((decide (w_.2 < 0)) || (decide (cap0_ ≤ w_.2)))

def search_Form_1 (l_ : (List SWay)) (cap0_ : Int) (r_ : Bool) : Prop := ∃ r3 : Bool, slices_ContainsFunc_Lapi_Way_api_Way l_ (fun q_ => search_Form_1_1 q_.1 cap0_ q_.2) r3 ∧ r_ = r3

def search_Form (t_ : STable) (r_ : Bool) : Prop := ∃ b7 : Bool, b7 = ((decide (0 < (t_.1.length : Int))) && ((t_.2.length : Int) == (t_.1.length : Int))) ∧ ∃ r9 : Bool, (((b7) = true) → slices_ContainsFunc_api_Way_api_Way t_.1 (fun q_ => search_Form_1 q_.1 (t_.1.length : Int) q_.2) r9) ∧ r_ = (b7 && (!r9))

def law17_awake  (r_ : Bool) : Prop := ∃ r8 : SVerdict, search_Find ([[(1, 2), (2, 1)], [(3, 3)], [(4, 0)], ([] : (List SWay))], [false, false, false, true]) 4 r8 ∧ ∃ r14 : (List Int), search_Things ([[(1, 2), (2, 1)], [(3, 3)], [(4, 0)], ([] : (List SWay))], [false, false, false, true]) r14 ∧ ((((r14.length : Int) != 4)) = true → r_ = false) ∧ ((((r14.length : Int) != 4)) = false → ∃ r20 : SVerdict, search_Find ([([] : (List SWay))], [false]) 1 r20 ∧ ∃ r22 : SVerdict, ((((r20.1 == 1)) = true) → search_Find ([([] : (List SWay))], [false]) 0 r22) ∧ ∃ r24 : SVerdict, (((((r20.1 == 1) && (r22.1 == 3))) = true) → search_Find ([([] : (List SWay))], [false]) (-5) r24) ∧ ∃ b26 : Bool, b26 = (((r20.1 == 1) && (r22.1 == 3)) && (r24.2.2.2.2.2.2 == 0)) ∧ ∃ r28 : Bool, (((((b26 && (r8.1 == 2)) && (r8.2.2.2.2.2.2 == 4))) = true) → ref02_Bytes r8.2.1 [2, 3] r28) ∧ ∃ b30 : Bool, b30 = (((b26 && (r8.1 == 2)) && (r8.2.2.2.2.2.2 == 4)) && r28) ∧ ∃ r32 : SVerdict, (((b30) = true) → search_Find ([[(1, 2), (2, 1)], [(3, 3)], [(4, 0)], ([] : (List SWay))], [false, false, false, true]) 3 r32) ∧ ∃ e34 : Int, ((((b30 && (r32.1 == 3))) = true) → at? r14 1 = some e34) ∧ ∃ e36 : Int, (((((b30 && (r32.1 == 3)) && (e34 == 2))) = true) → at? r14 2 = some e36) ∧ ∃ b38 : Bool, b38 = (((b30 && (r32.1 == 3)) && (e34 == 2)) && (e36 == 1)) ∧ ∃ r40 : Bool, (((b38) = true) → search_Form ([[(1, 2), (2, 1)], [(3, 3)], [(4, 0)], ([] : (List SWay))], [false, false, false, true]) r40) ∧ ∃ r42 : Bool, ((((b38 && r40)) = true) → search_Form ([], []) r42) ∧ ∃ r44 : Bool, (((((b38 && r40) && (!r42))) = true) → search_Form ([[(0, 1)]], [false]) r44) ∧ r_ = (((b38 && r40) && (!r42)) && (!r44)))

def ref17_Few.j1 (t_ : STable) (r_ : Bool) (n5 : Int) : Prop := ∃ b8 : Bool, b8 = ((decide ((t_.1.length : Int) ≤ 60)) && (decide ((t_.2.length : Int) ≤ 60))) ∧ r_ = (b8 && (decide (n5 ≤ 400)))
def ref17_Few.l1 (t_ : STable) (X1 : Int → Prop) : Nat → Int → Int → Prop
  | 0, _, _ => False
  | k_0 + 1, n10, i11 => ∃ b17 : Bool, b17 = ((decide (i11 < (t_.1.length : Int))) && (decide (i11 < 100))) ∧ ((b17) = true → ∃ e20 : (List SWay), at? t_.1 i11 = some e20 ∧ (InR .i64 (n10 + (e20.length : Int))) ∧ (InR .i64 (i11 + 1)) ∧ ref17_Few.l1 t_ X1 k_0 (n10 + (e20.length : Int)) (i11 + 1)) ∧ ((b17) = false → X1 n10)
def ref17_Few (t_ : STable) (r_ : Bool) : Prop := ∃ k12, ref17_Few.l1 t_ (ref17_Few.j1 t_ r_) k12 0 0

def ref17_Form.j1 (r_ : Bool) : Prop := r_ = true
def ref17_Form.j2 (L1_ : Int → Prop) (i11 : Int) : Prop := (InR .i64 (i11 + 1)) ∧ L1_ (i11 + 1)
def ref17_Form.l2 (t_ : STable) (i11 : Int) (r_ : Bool) (X2 : Prop) : Nat → Int → Prop
  | 0, _ => False
  | k_0 + 1, k21 => ∃ e27 : (List SWay), at? t_.1 i11 = some e27 ∧ ((decide (k21 < (e27.length : Int))) = true → ∃ e31 : (List SWay), at? t_.1 i11 = some e31 ∧ ∃ e33 : SWay, at? e31 k21 = some e33 ∧ ∃ e35 : (List SWay), (((decide (e33.2 < 0)) = false) → at? t_.1 i11 = some e35) ∧ ∃ e37 : SWay, (((decide (e33.2 < 0)) = false) → at? e35 k21 = some e37) ∧ ∃ b39 : Bool, b39 = ((decide (e33.2 < 0)) || (decide ((t_.1.length : Int) ≤ e37.2))) ∧ ((b39) = true → r_ = false) ∧ ((b39) = false → (InR .i64 (k21 + 1)) ∧ ref17_Form.l2 t_ i11 r_ X2 k_0 (k21 + 1))) ∧ ((decide (k21 < (e27.length : Int))) = false → X2)
def ref17_Form.l1 (t_ : STable) (r_ : Bool) (X1 : Prop) : Nat → Int → Prop
  | 0, _ => False
  | k_0 + 1, i11 => ((decide (i11 < (t_.1.length : Int))) = true → ∃ k22, ref17_Form.l2 t_ i11 r_ (ref17_Form.j2 (ref17_Form.l1 t_ r_ X1 k_0) i11) k22 0) ∧ ((decide (i11 < (t_.1.length : Int))) = false → X1)
def ref17_Form (t_ : STable) (r_ : Bool) : Prop := ∃ b4 : Bool, b4 = (((t_.1.length : Int) == 0) || ((t_.1.length : Int) != (t_.2.length : Int))) ∧ ((b4) = true → r_ = false) ∧ ((b4) = false → ∃ k12, ref17_Form.l1 t_ r_ (ref17_Form.j1 r_) k12 0)

def ref17_Things.j1 (r_ : (List SThing_ref17)) (out6 : (List SThing_ref17)) : Prop := r_ = out6
def ref17_Things.j2 (L1_ : (List SThing_ref17) → Int → Prop) (i12 : Int) (out25 : (List SThing_ref17)) : Prop := (InR .i64 (i12 + 1)) ∧ L1_ out25 (i12 + 1)
def ref17_Things.j3 (L2_ : (List SThing_ref17) → Int → Prop) (i12 : Int) (e22 : (List SWay)) (out29 : (List SThing_ref17)) (k31 : Int) (there41 : Bool) : Prop := (((!there41)) = true → ∃ e46 : SWay, at? e22 k31 = some e46 ∧ ∃ e48 : SThing_ref17, at? out29 i12 = some e48 ∧ (e48.2.length ≤ 2147483648) ∧ ∃ e51 : SWay, at? e22 k31 = some e51 ∧ (e48.2.length + [e51.1].length ≤ 2147483648) ∧ (out29.length + [(e46.2, e48.2 ++ [e51.1])].length ≤ 2147483648) ∧ (InR .i64 (k31 + 1)) ∧ L2_ (out29 ++ [(e46.2, e48.2 ++ [e51.1])]) (k31 + 1)) ∧ (((!there41)) = false → (InR .i64 (k31 + 1)) ∧ L2_ out29 (k31 + 1))
def ref17_Things.l3 (e22 : (List SWay)) (out29 : (List SThing_ref17)) (k31 : Int) (X3 : Bool → Prop) : Nat → Bool → Int → Prop
  | 0, _, _ => False
  | k_0 + 1, there62, m63 => ((decide (m63 < (out29.length : Int))) = true → ∃ e70 : SThing_ref17, (((there62) = false) → at? out29 m63 = some e70) ∧ ∃ e72 : SWay, (((there62) = false) → at? e22 k31 = some e72) ∧ (InR .i64 (m63 + 1)) ∧ ref17_Things.l3 e22 out29 k31 X3 k_0 (there62 || (e70.1 == e72.2)) (m63 + 1)) ∧ ((decide (m63 < (out29.length : Int))) = false → X3 there62)
def ref17_Things.l2 (i12 : Int) (e22 : (List SWay)) (X2 : (List SThing_ref17) → Prop) : Nat → (List SThing_ref17) → Int → Prop
  | 0, _, _ => False
  | k_0 + 1, out29, k31 => ((decide (k31 < (e22.length : Int))) = true → ∃ k64, ref17_Things.l3 e22 out29 k31 (ref17_Things.j3 (ref17_Things.l2 i12 e22 X2 k_0) i12 e22 out29 k31) k64 false 0) ∧ ((decide (k31 < (e22.length : Int))) = false → X2 out29)
def ref17_Things.l1 (t_ : STable) (X1 : (List SThing_ref17) → Prop) : Nat → (List SThing_ref17) → Int → Prop
  | 0, _, _ => False
  | k_0 + 1, out10, i12 => ((decide (i12 < (out10.length : Int))) = true → ∃ e20 : SThing_ref17, at? out10 i12 = some e20 ∧ ∃ e22 : (List SWay), at? t_.1 e20.1 = some e22 ∧ ∃ k32, ref17_Things.l2 i12 e22 (ref17_Things.j2 (ref17_Things.l1 t_ X1 k_0) i12) k32 out10 0) ∧ ((decide (i12 < (out10.length : Int))) = false → X1 out10)
def ref17_Things (t_ : STable) (r_ : (List SThing_ref17)) : Prop := ∃ k13, ref17_Things.l1 t_ (ref17_Things.j1 r_) k13 [(0, [])] 0

def ref17_Find.j1 (budget_ : Int) (r_ : SVerdict) (r4 : (List SThing_ref17)) (v9 : SVerdict) : Prop := ((decide ((r4.length : Int) ≤ (max 0 budget_))) = true → r_ = (1, [], [], 0, 0, 0, (r4.length : Int))) ∧ ((decide ((r4.length : Int) ≤ (max 0 budget_))) = false → r_ = (3, [], [], 0, 0, 0, (max 0 budget_)))
def ref17_Find.l1 (t_ : STable) (budget_ : Int) (r4 : (List SThing_ref17)) (r_ : SVerdict) (X1 : SVerdict → Prop) : Nat → SVerdict → Int → Prop
  | 0, _, _ => False
  | k_0 + 1, v15, i16 => ∃ b22 : Bool, b22 = ((decide (i16 < (r4.length : Int))) && (decide (i16 < (max 0 budget_)))) ∧ ((b22) = true → ∃ e26 : SThing_ref17, at? r4 i16 = some e26 ∧ ∃ e28 : Bool, at? t_.2 e26.1 = some e28 ∧ ((e28) = true → ∃ e31 : SThing_ref17, at? r4 i16 = some e31 ∧ (InR .i64 (i16 + 1)) ∧ r_ = (2, e31.2, [], 0, 0, 0, i16 + 1)) ∧ ((e28) = false → (InR .i64 (i16 + 1)) ∧ ref17_Find.l1 t_ budget_ r4 r_ X1 k_0 v15 (i16 + 1))) ∧ ((b22) = false → X1 v15)
def ref17_Find (t_ : STable) (budget_ : Int) (r_ : SVerdict) : Prop := ∃ r4 : (List SThing_ref17), ref17_Things t_ r4 ∧ ∃ k17, ref17_Find.l1 t_ budget_ r4 r_ (ref17_Find.j1 budget_ r_ r4) k17 (0, [], [], 0, 0, 0, 0) 0

def ref17_Same (a_ : SVerdict) (b_ : SVerdict) (r_ : Bool) : Prop := ∃ r3 : Bool, ((((a_.1 == b_.1)) = true) → ref02_Bytes a_.2.1 b_.2.1 r3) ∧ ∃ r5 : Bool, (((((a_.1 == b_.1) && r3)) = true) → ref02_Bytes a_.2.2.1 b_.2.2.1 r5) ∧ ∃ b7 : Bool, b7 = ((((a_.1 == b_.1) && r3) && r5) && (a_.2.2.2.1 == b_.2.2.2.1)) ∧ ∃ b9 : Bool, b9 = ((b7 && (a_.2.2.2.2.1 == b_.2.2.2.2.1)) && (a_.2.2.2.2.2.1 == b_.2.2.2.2.2.1)) ∧ r_ = (b9 && (a_.2.2.2.2.2.2 == b_.2.2.2.2.2.2))

def law17_SearchFinds.j1 (t_ : STable) (budget_ : Int) (r_ : Bool) : Prop := ∃ r35 : SVerdict, search_Find t_ budget_ r35 ∧ ∃ r37 : SVerdict, ref17_Find t_ budget_ r37 ∧ ∃ r39 : Bool, ref17_Same r35 r37 r39 ∧ r_ = r39
def law17_SearchFinds.l1 (r23 : (List Int)) (r26 : (List SThing_ref17)) (r_ : Bool) (X1 : Prop) : Nat → Int → Prop
  | 0, _ => False
  | k_0 + 1, i41 => ((decide (i41 < (r23.length : Int))) = true → ∃ e49 : Int, at? r23 i41 = some e49 ∧ ∃ e51 : SThing_ref17, at? r26 i41 = some e51 ∧ (((e49 != e51.1)) = true → r_ = false) ∧ (((e49 != e51.1)) = false → (InR .i64 (i41 + 1)) ∧ law17_SearchFinds.l1 r23 r26 r_ X1 k_0 (i41 + 1))) ∧ ((decide (i41 < (r23.length : Int))) = false → X1)
def law17_SearchFinds (t_ : STable) (budget_ : Int) (r_ : Bool) : Prop := ∃ r4 : Bool, law17_awake  r4 ∧ ∃ r6 : Bool, ((((!r4)) = false) → ref17_Few t_ r6) ∧ ∃ r8 : Bool, (((((!r4) || (!r6))) = false) → search_Form t_ r8) ∧ ∃ r10 : Bool, (((((!r4) || (!r6))) = false) → ref17_Form t_ r10) ∧ (((((!r4) || (!r6)) || (r8 != r10))) = true → ∃ r13 : Bool, law17_awake  r13 ∧ ∃ r15 : Bool, (((r13) = true) → ref17_Few t_ r15) ∧ r_ = (r13 && (!r15))) ∧ (((((!r4) || (!r6)) || (r8 != r10))) = false → ∃ r19 : Bool, ref17_Form t_ r19 ∧ (((!r19)) = true → r_ = true) ∧ (((!r19)) = false → ∃ r23 : (List Int), search_Things t_ r23 ∧ ∃ r26 : (List SThing_ref17), ref17_Things t_ r26 ∧ ((((r23.length : Int) != (r26.length : Int))) = true → r_ = false) ∧ ((((r23.length : Int) != (r26.length : Int))) = false → ∃ k42, law17_SearchFinds.l1 r23 r26 r_ (law17_SearchFinds.j1 t_ budget_ r_) k42 0)))

def law17_SearchShort.j1 (t_ : STable) (w_ : (List Int)) (r_ : Bool) (at21 : Int) : Prop := ∃ e25 : Bool, at? t_.2 at21 = some e25 ∧ (((!e25)) = true → r_ = true) ∧ (((!e25)) = false → ∃ r29 : SVerdict, search_Find t_ (t_.1.length : Int) r29 ∧ ∃ b34 : Bool, b34 = (decide ((w_.length : Int) < (r29.2.1.length : Int))) ∧ ((((r29.1 != 2) || b34)) = true → r_ = false) ∧ ((((r29.1 != 2) || b34)) = false → ∃ b38 : Bool, b38 = (decide ((r29.2.1.length : Int) < (w_.length : Int))) ∧ r_ = (b38 || (strLe (strB r29.2.1) (strB w_)))))
def law17_SearchShort.j2 (L1_ : Int → Int → Prop) (r_ : Bool) (i41 : Int) (to51 : Int) : Prop := ((decide (to51 < 0)) = true → r_ = true) ∧ ((decide (to51 < 0)) = false → (InR .i64 (i41 + 1)) ∧ L1_ to51 (i41 + 1))
def law17_SearchShort.l2 (t_ : STable) (w_ : (List Int)) (at40 : Int) (i41 : Int) (X2 : Int → Prop) : Nat → Int → Int → Prop
  | 0, _, _ => False
  | k_0 + 1, to57, k58 => ∃ e64 : (List SWay), at? t_.1 at40 = some e64 ∧ ((decide (k58 < (e64.length : Int))) = true → ∃ e68 : (List SWay), at? t_.1 at40 = some e68 ∧ ∃ e70 : SWay, at? e68 k58 = some e70 ∧ ∃ e72 : Int, at? w_ i41 = some e72 ∧ (((e70.1 == e72)) = true → ∃ e74 : (List SWay), at? t_.1 at40 = some e74 ∧ ∃ e76 : SWay, at? e74 k58 = some e76 ∧ (InR .i64 (k58 + 1)) ∧ law17_SearchShort.l2 t_ w_ at40 i41 X2 k_0 e76.2 (k58 + 1)) ∧ (((e70.1 == e72)) = false → (InR .i64 (k58 + 1)) ∧ law17_SearchShort.l2 t_ w_ at40 i41 X2 k_0 to57 (k58 + 1))) ∧ ((decide (k58 < (e64.length : Int))) = false → X2 to57)
def law17_SearchShort.l1 (t_ : STable) (w_ : (List Int)) (r_ : Bool) (X1 : Int → Prop) : Nat → Int → Int → Prop
  | 0, _, _ => False
  | k_0 + 1, at40, i41 => ((decide (i41 < (w_.length : Int))) = true → ∃ k59, law17_SearchShort.l2 t_ w_ at40 i41 (law17_SearchShort.j2 (law17_SearchShort.l1 t_ w_ r_ X1 k_0) r_ i41) k59 (-1) 0) ∧ ((decide (i41 < (w_.length : Int))) = false → X1 at40)
def law17_SearchShort.j3 (t_ : STable) (w_ : (List Int)) (r_ : Bool) : Prop := ∃ k42, law17_SearchShort.l1 t_ w_ r_ (law17_SearchShort.j1 t_ w_ r_) k42 0 0
def law17_SearchShort.j4 (L3_ : Int → Prop) (i80 : Int) : Prop := (InR .i64 (i80 + 1)) ∧ L3_ (i80 + 1)
def law17_SearchShort.l4 (t_ : STable) (i80 : Int) (r_ : Bool) (X4 : Prop) : Nat → Int → Prop
  | 0, _ => False
  | k_0 + 1, k90 => ∃ e96 : (List SWay), at? t_.1 i80 = some e96 ∧ ((decide (k90 < (e96.length : Int))) = true → ∃ e100 : (List SWay), at? t_.1 i80 = some e100 ∧ (InR .i64 (k90 - 1)) ∧ ∃ e103 : SWay, at? e100 (k90 - 1) = some e103 ∧ ∃ e105 : (List SWay), at? t_.1 i80 = some e105 ∧ ∃ e107 : SWay, at? e105 k90 = some e107 ∧ ((decide (e107.1 ≤ e103.1)) = true → r_ = true) ∧ ((decide (e107.1 ≤ e103.1)) = false → (InR .i64 (k90 + 1)) ∧ law17_SearchShort.l4 t_ i80 r_ X4 k_0 (k90 + 1))) ∧ ((decide (k90 < (e96.length : Int))) = false → X4)
def law17_SearchShort.l3 (t_ : STable) (r_ : Bool) (X3 : Prop) : Nat → Int → Prop
  | 0, _ => False
  | k_0 + 1, i80 => ((decide (i80 < (t_.1.length : Int))) = true → ∃ k91, law17_SearchShort.l4 t_ i80 r_ (law17_SearchShort.j4 (law17_SearchShort.l3 t_ r_ X3 k_0) i80) k91 1) ∧ ((decide (i80 < (t_.1.length : Int))) = false → X3)
def law17_SearchShort (t_ : STable) (w_ : (List Int)) (r_ : Bool) : Prop := ∃ r4 : Bool, law17_awake  r4 ∧ ∃ r6 : Bool, ((((!r4)) = false) → ref17_Few t_ r6) ∧ ∃ r8 : Bool, (((((!r4) || (!r6))) = false) → ref17_Form t_ r8) ∧ ∃ b10 : Bool, b10 = ((((!r4) || (!r6)) || (!r8)) || (decide (12 < (w_.length : Int)))) ∧ ((b10) = true → ∃ r13 : Bool, law17_awake  r13 ∧ r_ = r13) ∧ ((b10) = false → ∃ k81, law17_SearchShort.l3 t_ r_ (law17_SearchShort.j3 t_ w_ r_) k81 0)

def law17_SearchOrder.j1 (r_ : Bool) : Prop := r_ = true
def law17_SearchOrder.j2 (L1_ : Int → Prop) (r_ : Bool) (place21 : (List Int)) (i33 : Int) (first48 : Int) : Prop := ∃ e51 : Int, (((((i33 != 0)) = true) ∧ ((first48 == 0)) = false) → at? place21 i33 = some e51) ∧ ∃ b53 : Bool, b53 = ((i33 != 0) && ((first48 == 0) || (decide (e51 ≤ first48)))) ∧ ((b53) = true → r_ = false) ∧ ((b53) = false → (InR .i64 (i33 + 1)) ∧ L1_ (i33 + 1))
def law17_SearchOrder.j3 (L2_ : Int → Int → Prop) (k58 : Int) (first66 : Int) : Prop := (InR .i64 (k58 + 1)) ∧ L2_ first66 (k58 + 1)
def law17_SearchOrder.l3 (t_ : STable) (r14 : (List Int)) (place21 : (List Int)) (i33 : Int) (k58 : Int) (r_ : Bool) (X3 : Int → Prop) : Nat → Int → Int → Prop
  | 0, _, _ => False
  | k_0 + 1, first69, m70 => ∃ e76 : Int, at? r14 k58 = some e76 ∧ ∃ e78 : (List SWay), at? t_.1 e76 = some e78 ∧ ((decide (m70 < (e78.length : Int))) = true → ∃ e82 : Int, at? r14 k58 = some e82 ∧ ∃ e84 : (List SWay), at? t_.1 e82 = some e84 ∧ ∃ e86 : SWay, at? e84 m70 = some e86 ∧ ∃ e90 : Int, at? place21 e86.2 = some e90 ∧ (((e90 == 0)) = true → r_ = false) ∧ (((e90 == 0)) = false → ((((e86.2 == i33) && (first69 == 0))) = true → (InR .i64 (k58 + 1)) ∧ (InR .i64 (m70 + 1)) ∧ law17_SearchOrder.l3 t_ r14 place21 i33 k58 r_ X3 k_0 (k58 + 1) (m70 + 1)) ∧ ((((e86.2 == i33) && (first69 == 0))) = false → (InR .i64 (m70 + 1)) ∧ law17_SearchOrder.l3 t_ r14 place21 i33 k58 r_ X3 k_0 first69 (m70 + 1)))) ∧ ((decide (m70 < (e78.length : Int))) = false → X3 first69)
def law17_SearchOrder.l2 (t_ : STable) (r14 : (List Int)) (place21 : (List Int)) (i33 : Int) (r_ : Bool) (X2 : Int → Prop) : Nat → Int → Int → Prop
  | 0, _, _ => False
  | k_0 + 1, first57, k58 => ((decide (k58 < (r14.length : Int))) = true → ∃ k71, law17_SearchOrder.l3 t_ r14 place21 i33 k58 r_ (law17_SearchOrder.j3 (law17_SearchOrder.l2 t_ r14 place21 i33 r_ X2 k_0) k58) k71 first57 0) ∧ ((decide (k58 < (r14.length : Int))) = false → X2 first57)
def law17_SearchOrder.l1 (t_ : STable) (r14 : (List Int)) (place21 : (List Int)) (r_ : Bool) (X1 : Prop) : Nat → Int → Prop
  | 0, _ => False
  | k_0 + 1, i33 => ((decide (i33 < (t_.1.length : Int))) = true → ∃ e42 : Int, at? place21 i33 = some e42 ∧ (((e42 == 0)) = true → (InR .i64 (i33 + 1)) ∧ law17_SearchOrder.l1 t_ r14 place21 r_ X1 k_0 (i33 + 1)) ∧ (((e42 == 0)) = false → ∃ k59, law17_SearchOrder.l2 t_ r14 place21 i33 r_ (law17_SearchOrder.j2 (law17_SearchOrder.l1 t_ r14 place21 r_ X1 k_0) r_ place21 i33) k59 0 0)) ∧ ((decide (i33 < (t_.1.length : Int))) = false → X1)
def law17_SearchOrder.j4 (t_ : STable) (r_ : Bool) (r14 : (List Int)) (place21 : (List Int)) : Prop := ∃ e26 : Int, (((((r14.length : Int) == 0)) = false) → at? r14 0 = some e26) ∧ (((((r14.length : Int) == 0) || (e26 != 0))) = true → r_ = false) ∧ (((((r14.length : Int) == 0) || (e26 != 0))) = false → ∃ k34, law17_SearchOrder.l1 t_ r14 place21 r_ (law17_SearchOrder.j1 r_) k34 0)
def law17_SearchOrder.l4 (t_ : STable) (r14 : (List Int)) (r_ : Bool) (X4 : (List Int) → Prop) : Nat → (List Int) → Int → Prop
  | 0, _, _ => False
  | k_0 + 1, place97, i99 => ((decide (i99 < (r14.length : Int))) = true → ∃ e108 : Int, at? r14 i99 = some e108 ∧ ∃ e110 : Int, (((decide (e108 < 0)) = false) → at? r14 i99 = some e110) ∧ ∃ b112 : Bool, b112 = ((decide (e108 < 0)) || (decide ((t_.1.length : Int) ≤ e110))) ∧ ∃ e114 : Int, (((b112) = false) → at? r14 i99 = some e114) ∧ ∃ e116 : Int, (((b112) = false) → at? place97 e114 = some e116) ∧ (((b112 || (decide (0 < e116)))) = true → r_ = false) ∧ (((b112 || (decide (0 < e116)))) = false → ∃ e119 : Int, at? r14 i99 = some e119 ∧ (InR .i64 (i99 + 1)) ∧ ∃ e122 : Int, at? place97 e119 = some e122 ∧ (InR .i64 (i99 + 1)) ∧ law17_SearchOrder.l4 t_ r14 r_ X4 k_0 (place97.set (e119 : Int).toNat (i99 + 1)) (i99 + 1))) ∧ ((decide (i99 < (r14.length : Int))) = false → X4 place97)
def law17_SearchOrder (t_ : STable) (r_ : Bool) : Prop := ∃ r4 : Bool, law17_awake  r4 ∧ ∃ r6 : Bool, ((((!r4)) = false) → ref17_Few t_ r6) ∧ ∃ r8 : Bool, (((((!r4) || (!r6))) = false) → ref17_Form t_ r8) ∧ (((((!r4) || (!r6)) || (!r8))) = true → ∃ r11 : Bool, law17_awake  r11 ∧ r_ = r11) ∧ (((((!r4) || (!r6)) || (!r8))) = false → ∃ r14 : (List Int), search_Things t_ r14 ∧ (0 ≤ (t_.1.length : Int) ∧ (t_.1.length : Int) ≤ 16777216) ∧ ∃ k100, law17_SearchOrder.l4 t_ r14 r_ (law17_SearchOrder.j4 t_ r_ r14) k100 (List.replicate ((t_.1.length : Int) : Int).toNat 0) 0)
end Go.Proofs.YtdfnbogkniikbaaDoor.V
