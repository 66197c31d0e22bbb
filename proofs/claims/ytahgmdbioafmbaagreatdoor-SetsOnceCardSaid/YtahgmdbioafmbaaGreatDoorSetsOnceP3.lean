/-
  The texts that the law's proof needs, part 3.
-/
import Derived.Deep.LoopGhost
import Derived.Laws.AppendOwnNone
import Derived.Lib.Hide
import Derived.Lib.ItoaNum
import Derived.OpenShut
import Derived.Orders
import Derived.Shelf.SlSortCmp.NoneTotal
import Derived.Shelf.SlSortCmp.WholeK
import Derived.WalkKit
import Derived.Test.YtahgmdbioafmbaaGreatDoorSetsOnceP2
namespace Go.Proofs.YtahgmdbioafmbaaGreatDoor.V
open Go
set_option linter.unusedVariables false
def split_Refine_1 (a_ : Cl) (r_ : Int) : Prop:=∃ r3 : (Int × Bool),class_Least a_ r3 ∧ r_ = r3.1
def split_Refine_2 (a_ : Cl) (b_ : Cl) (cap0_ : (Cl × Int → Prop)) (r_ : Int) : Prop:=∃ r3 : Int,cap0_ (a_,r3) ∧ ∃ r5 : Int,cap0_ (b_,r5) ∧ (InR .i64 (r3 - r5)) ∧ r_ = r3 - r5
def split_Refine.j1 (r_ : (List Cl)) (out5 : (List Cl)) : Prop:=∃ r14 : (List Cl),slices_SortStableFunc_api_Class_api_Class out5 (fun q_=>split_Refine_2 q_.1 q_.2.1 (fun q_=>split_Refine_1 q_.1 q_.2) q_.2.2) r14 ∧ r_ = r14
def split_Refine.j2 (L1_ : (List Cl) → Int → Prop) (v19 : Int) (out38 : (List Cl)) : Prop:=(InR .i64 (v19 + 1)) ∧ L1_ out38 (v19 + 1)
def split_Refine.l2 (r32 : Cl) (r36 : Cl) (X2 : (List Cl) → Prop) : Nat → (List Cl) → Int → Prop
 | 0,_,_=>False
 | k_0 + 1,out42,v44=>((decide (v44 < ([r32,r36].length : Int))) = true → ∃ e52 : Cl,at? [r32,r36] v44 = some e52 ∧ ∃ r57 : Int,class_Count e52 r57 ∧ ((decide (0 < r57)) = true → (out42.length + [e52].length ≤ 2147483648) ∧ (InR .i64 (v44 + 1)) ∧ split_Refine.l2 r32 r36 X2 k_0 (out42 ++ [e52]) (v44 + 1)) ∧ ((decide (0 < r57)) = false → (InR .i64 (v44 + 1)) ∧ split_Refine.l2 r32 r36 X2 k_0 out42 (v44 + 1))) ∧ ((decide (v44 < ([r32,r36].length : Int))) = false → X2 out42)
def split_Refine.l1 (parts_ : (List Cl)) (a_ : Cl) (X1 : (List Cl) → Prop) : Nat → (List Cl) → Int → Prop
 | 0,_,_=>False
 | k_0 + 1,out17,v19=>((decide (v19 < (parts_.length : Int))) = true → ∃ e27 : Cl,at? parts_ v19 = some e27 ∧ ∃ r32 : Cl,class_Both e27 a_ r32 ∧ ∃ r34 : Cl,class_Not a_ r34 ∧ ∃ r36 : Cl,class_Both e27 r34 r36 ∧ ∃ k45,split_Refine.l2 r32 r36 (split_Refine.j2 (split_Refine.l1 parts_ a_ X1 k_0) v19) k45 out17 0) ∧ ((decide (v19 < (parts_.length : Int))) = false → X1 out17)
def split_Refine (parts_ : (List Cl)) (a_ : Cl) (r_ : (List Cl)) : Prop:=∃ k20,split_Refine.l1 parts_ a_ (split_Refine.j1 r_) k20 ([] : (List Cl)) 0
def split_Parts.j1 (r_ : (List Cl)) (out8 : (List Cl)) : Prop:=r_ = out8
def split_Parts.l1 (list_ : (List Cl)) (X1 : (List Cl) → Prop) : Nat → (List Cl) → Int → Prop
 | 0,_,_=>False
 | k_0 + 1,out12,v14=>((decide (v14 < (list_.length : Int))) = true → ∃ e22 : Cl,at? list_ v14 = some e22 ∧ ∃ r28 : (List Cl),split_Refine out12 e22 r28 ∧ (InR .i64 (v14 + 1)) ∧ split_Parts.l1 list_ X1 k_0 r28 (v14 + 1)) ∧ ((decide (v14 < (list_.length : Int))) = false → X1 out12)
def split_Parts (list_ : (List Cl)) (r_ : (List Cl)) : Prop:=∃ r3 : Cl,class_Not (0#256) r3 ∧ ∃ k15,split_Parts.l1 list_ (split_Parts.j1 r_) k15 [r3] 0
def split_Heads.j1 (r_ : (List Int)) (out7 : (List Int)) : Prop:=r_ = out7
def split_Heads.l1 (r5 : (List Cl)) (X1 : (List Int) → Prop) : Nat → (List Int) → Int → Prop
 | 0,_,_=>False
 | k_0 + 1,out11,v13=>((decide (v13 < (r5.length : Int))) = true → ∃ e21 : Cl,at? r5 v13 = some e21 ∧ ∃ r26 : (Int × Bool),class_Least e21 r26 ∧ (out11.length + [r26.1].length ≤ 2147483648) ∧ (InR .i64 (v13 + 1)) ∧ split_Heads.l1 r5 X1 k_0 (out11 ++ [r26.1]) (v13 + 1)) ∧ ((decide (v13 < (r5.length : Int))) = false → X1 out11)
def split_Heads (list_ : (List Cl)) (r_ : (List Int)) : Prop:=∃ r5 : (List Cl),split_Parts list_ r5 ∧ ∃ k14,split_Heads.l1 r5 (split_Heads.j1 r_) k14 ([] : (List Int)) 0
def ref02_Bytes.j1 (r_ : Bool) : Prop:=r_ = true
def ref02_Bytes.l1 (a_ : (List Int)) (b_ : (List Int)) (r_ : Bool) (X1 : Prop) : Nat → Int → Prop
 | 0,_=>False
 | k_0 + 1,i9=>((decide (i9 < (a_.length : Int))) = true → ∃ e17 : Int,at? a_ i9 = some e17 ∧ ∃ e19 : Int,at? b_ i9 = some e19 ∧ (((e17 != e19)) = true → r_ = false) ∧ (((e17 != e19)) = false → (InR .i64 (i9 + 1)) ∧ ref02_Bytes.l1 a_ b_ r_ X1 k_0 (i9 + 1))) ∧ ((decide (i9 < (a_.length : Int))) = false → X1)
def ref02_Bytes (a_ : (List Int)) (b_ : (List Int)) (r_ : Bool) : Prop:=((((a_.length : Int) != (b_.length : Int))) = true → r_ = false) ∧ ((((a_.length : Int) != (b_.length : Int))) = false → ∃ k10,ref02_Bytes.l1 a_ b_ r_ (ref02_Bytes.j1 r_) k10 0)
def ref02_like.j1 (r_ : Bool) : Prop:=r_ = true
def ref02_like.l1 (list_ : (List Cl)) (cv_ : Int) (d_ : Int) (r_ : Bool) (X1 : Prop) : Nat → Int → Prop
 | 0,_=>False
 | k_0 + 1,i6=>((decide (i6 < (list_.length : Int))) = true → ∃ e14 : Cl,at? list_ i6 = some e14 ∧ ∃ r16 : Bool,ref01_Has e14 cv_ r16 ∧ ∃ e18 : Cl,at? list_ i6 = some e18 ∧ ∃ r20 : Bool,ref01_Has e18 d_ r20 ∧ (((r16 != r20)) = true → r_ = false) ∧ (((r16 != r20)) = false → (InR .i64 (i6 + 1)) ∧ ref02_like.l1 list_ cv_ d_ r_ X1 k_0 (i6 + 1))) ∧ ((decide (i6 < (list_.length : Int))) = false → X1)
def ref02_like (list_ : (List Cl)) (cv_ : Int) (d_ : Int) (r_ : Bool) : Prop:=∃ k7,ref02_like.l1 list_ cv_ d_ r_ (ref02_like.j1 r_) k7 0
def ref02_Heads.j1 (r_ : (List Int)) (out5 : (List Int)) : Prop:=r_ = out5
def ref02_Heads.j2 (L1_ : (List Int) → Int → Prop) (out9 : (List Int)) (c11 : Int) (alone21 : Bool) : Prop:=((alone21) = true → (out9.length + [c11 % 256].length ≤ 2147483648) ∧ (InR .i64 (c11 + 1)) ∧ L1_ (out9 ++ [c11 % 256]) (c11 + 1)) ∧ ((alone21) = false → (InR .i64 (c11 + 1)) ∧ L1_ out9 (c11 + 1))
def ref02_Heads.l2 (list_ : (List Cl)) (out9 : (List Int)) (c11 : Int) (X2 : Bool → Prop) : Nat → Bool → Int → Prop
 | 0,_,_=>False
 | k_0 + 1,alone28,i29=>((((decide (i29 < (out9.length : Int))) && alone28)) = true → ∃ e36 : Int,at? out9 i29 = some e36 ∧ ∃ r38 : Bool,ref02_like list_ e36 (c11 % 256) r38 ∧ (InR .i64 (i29 + 1)) ∧ ref02_Heads.l2 list_ out9 c11 X2 k_0 (!r38) (i29 + 1)) ∧ ((((decide (i29 < (out9.length : Int))) && alone28)) = false → X2 alone28)
def ref02_Heads.l1 (list_ : (List Cl)) (X1 : (List Int) → Prop) : Nat → (List Int) → Int → Prop
 | 0,_,_=>False
 | k_0 + 1,out9,c11=>((decide (c11 < 256)) = true → ∃ k30,ref02_Heads.l2 list_ out9 c11 (ref02_Heads.j2 (ref02_Heads.l1 list_ X1 k_0) out9 c11) k30 true 0) ∧ ((decide (c11 < 256)) = false → X1 out9)
def ref02_Heads (list_ : (List Cl)) (r_ : (List Int)) : Prop:=∃ k12,ref02_Heads.l1 list_ (ref02_Heads.j1 r_) k12 ([] : (List Int)) 0
def ref02_Same.j1 (r_ : Bool) : Prop:=r_ = true
def ref02_Same.l1 (a_ : (List Cl)) (b_ : (List Cl)) (r_ : Bool) (X1 : Prop) : Nat → Int → Prop
 | 0,_=>False
 | k_0 + 1,i9=>((decide (i9 < (a_.length : Int))) = true → ∃ e17 : Cl,at? a_ i9 = some e17 ∧ ∃ e19 : Cl,at? b_ i9 = some e19 ∧ (((e17 != e19)) = true → r_ = false) ∧ (((e17 != e19)) = false → (InR .i64 (i9 + 1)) ∧ ref02_Same.l1 a_ b_ r_ X1 k_0 (i9 + 1))) ∧ ((decide (i9 < (a_.length : Int))) = false → X1)
def ref02_Same (a_ : (List Cl)) (b_ : (List Cl)) (r_ : Bool) : Prop:=((((a_.length : Int) != (b_.length : Int))) = true → r_ = false) ∧ ((((a_.length : Int) != (b_.length : Int))) = false → ∃ k10,ref02_Same.l1 a_ b_ r_ (ref02_Same.j1 r_) k10 0)
end Go.Proofs.YtahgmdbioafmbaaGreatDoor.V
namespace Go.Proofs.YtahgmdbioafmbaaGreatDoor.V
open Go
set_option linter.unusedVariables false
set_option maxRecDepth 100000
theorem split_Refine_1_ok {a_ : Cl} {r_ : Int} (h : split_Refine_1 a_ r_) : Fn Tryz.prog 165 [(Pd.rep En.cls a_)] (Rq (Pd.rep (En.int .i64) r_)):=by
 unfold split_Refine_1 at h
 refine fn_of Tryz.func165 rfl Tryz.ntmps165 (by rfl) (by simp) fun s0 a hL=>?_
 refine wp_seq_k fun K1 hK1=>rg (sx 1 (t_box (o_t 0 rfl) rfl rfl) hL fun a s e_ hL=>?_)
 refine sx 2 (t_assign (o_i (k:=.i64) (by decide)) rfl rfl) hL fun a s e_ hL=>en' (hK1 _ _ ?_)
 refine wp_seq_k fun K2 hK2=>?_
 obtain ⟨r3,h4,h⟩:=h
 refine rg (sx 6 (t_load ty51 (o_t 1 rfl) rfl rfl) hL fun a s e_ hL=>?_)
 refine sx 7 (t_call ((class_Least_ok h4).tup) (xs:=[.tmp 6]) (.cons (o_t 6 rfl) .nil) rfl rfl) hL fun a s e_ hL=>sx 5 (t_move (o_t 7 rfl) rfl rfl) hL fun a s e_ hL=>sx 8 (t_ext0 (o_t 5 rfl) rfl rfl) hL fun a s e_ hL=>sx 9 (t_ext1 (o_t 5 rfl) rfl rfl) hL fun a s e_ hL=>sx 3 (t_assign (o_t 8 rfl) rfl rfl) hL fun a s e_ hL=>sx 4 (t_assign (o_t 9 rfl) rfl rfl) hL fun a s e_ hL=>en' (hK2 _ _ ?_)
 refine wp_seq_k fun K5 hK5=>rg (sx 10 (t_move (o_t 3 rfl) rfl rfl) hL fun a s e_ hL=>?_)
 refine sx 11 (t_up (o_t 10 rfl) (by decide) Tryz.underlying5 Tryz.underlying3 rfl rfl) hL fun a s e_ hL=>sx 2 (t_assign (o_t 11 rfl) rfl rfl) hL fun a s e_ hL=>en' (hK5 _ _ ?_)
 subst h
 exact wp_ret (retq rfl hL rfl)
theorem split_Refine_2_ok {a_ : Cl} {b_ : Cl} {cap0_ : (Cl × Int → Prop)} {r_ : Int} (h : split_Refine_2 a_ b_ cap0_ r_) : Fn Tryz.prog 167 [(Pd.rep En.cls a_),(Pd.rep En.cls b_),(Pd.ptr EnF209 cap0_)] (Rq (Pd.rep (En.int .i64) r_)):=by
 unfold split_Refine_2 at h
 refine fn_of Tryz.func167 rfl Tryz.ntmps167 (by rfl) (by simp) fun s0 a hL=>?_
 refine wp_seq_k fun K1 hK1=>rg (sx 3 (t_box (o_t 0 rfl) rfl rfl) hL fun a s e_ hL=>?_)
 refine sx 4 (t_box (o_t 1 rfl) rfl rfl) hL fun a s e_ hL=>sx 5 (t_assign (o_i (k:=.i64) (by decide)) rfl rfl) hL fun a s e_ hL=>en' (hK1 _ _ ?_)
 refine wp_seq_k fun K2 hK2=>?_
 obtain ⟨r3,h4,r5,h6,h7,h⟩:=h
 refine rda follows 7 [(Pd.rep EnF209 cap0_),(Pd.rep En.cls a_),(Pd.rep (En.int .i64) r3),(Pd.rep EnF209 cap0_),(Pd.rep En.cls b_),(Pd.rep (En.int .i64) r5),(Pd.rep (En.int .i64) (r3 - r5))] hL (by kernel_rfl) rfl rfl ?_ ?_
 ·refine AllT.cons (t_load ty209 (o_t 2 rfl) rfl rfl) ?_
  refine AllT.cons (t_load ty51 (o_t 3 rfl) rfl rfl) (AllT.cons (t_callf (q:=(a_,r3)) (o_t 6 rfl) h4 (xs:=[.tmp 7]) (.cons (o_t 7 rfl) .nil) (fun _ _ _ h_=>h_) rfl rfl) ?_)
  refine AllT.cons (t_load ty209 (o_t 2 rfl) rfl rfl) (AllT.cons (t_load ty51 (o_t 4 rfl) rfl rfl) ?_)
  refine AllT.cons (t_callf (q:=(b_,r5)) (o_t 9 rfl) h6 (xs:=[.tmp 10]) (.cons (o_t 10 rfl) .nil) (fun _ _ _ h_=>h_) rfl rfl) (AllT.cons (t_sub (o_t 8 rfl) (o_t 11 rfl) h7 rfl rfl) ?_)
  exact AllT.nil
 intro a s e_ hL
 refine sx 5 (t_assign (o_t 12 rfl) rfl rfl) hL fun a s e_ hL=>en' (hK2 _ _ ?_)
 subst h
 exact wp_ret (retq rfl hL rfl)
theorem split_Refine_ok {parts_ : (List Cl)} {a_ : Cl} {r_ : (List Cl)} (h : split_Refine parts_ a_ r_) : Fn Tryz.prog 136 [(Pd.rep (En.slice En.cls) parts_),(Pd.rep En.cls a_)] (Ro En.cls 51 r_):=by
 unfold split_Refine at h
 refine fn_of Tryz.func136 rfl Tryz.ntmps136 (by rfl) (by simp) fun s0 a hL=>?_
 refine wp_seq_k fun K1 hK1=>rg (sx 3 (t_box (o_t 1 rfl) rfl rfl) hL fun a s e_ hL=>?_)
 refine sx 4 (t_assign (o_nil (E:=En.cls) (N:=s0.w.heap.size) (te:=51)) rfl rfl) hL fun a s e_ hL=>en' (hK1 _ _ ?_)
 refine wp_seq_k fun K2 hK2=>rg (sx 5 (t_assign (o_nil (E:=En.cls) (N:=s0.w.heap.size) (te:=51)) rfl rfl) hL fun a s e_ hL=>?_)
 refine en' (hK2 _ _ ?_)
 refine wp_seq_k fun K3 hK3=>wp_seq_k fun K4 hK4=>rg (sx 11 (t_move (o_t 0 rfl) rfl rfl) hL fun a s e_ hL=>?_)
 refine sx 12 (t_len (o_t 11 rfl) Tryz.underlying36 rfl rfl) hL fun a s e_ hL=>sx 13 (t_move (o_i (k:=.i64) (by decide)) rfl rfl) hL fun a s e_ hL=>en' (hK4 _ _ ?_)
 refine wp_block ?_
 have J7 : ∀ (out5 : (List Cl)) (og6 : Option Nat) (a : Act) (s : St),Has N0 43 s0 a s [(5,(Pd.row En.cls s0.w.heap.size 51 og6 out5))] → ((split_Refine.j1 r_) out5) → K3 a s.w:=by
  intro out5 og6 a s hL h
  unfold split_Refine.j1 at h
  show K3 a s.w
  refine hK3 _ _ (wp_seq_k fun K8 hK8=>?_)
  refine rg ?_
  have lt_d10:=hL.rlt 5 rfl
  refine st_alloc EnF209 (z:=(fun _=>False)) 10 hL tyz209 rfl rfl rfl rfl fun a s g9 hg_ hL=>?_
  have d10 : Dis (some g9) og6:=Dis.newg hg_ lt_d10
  refine st_stb (L':=[(5,(Pd.row En.cls s0.w.heap.size 51 og6 out5))]) 10 hL rfl (o_q (Pd.rep EnF209 (fun q_=>split_Refine_1 q_.1 q_.2)) (o_fun (call_of Tryz.func165 rfl (by rfl)) (fun q_ h_=>split_Refine_1_ok h_))) ty209 rfl rfl rfl (.cons (t:=5) rfl (Dis.ow (Dis.symm d10)) .nil) fun s hL=>?_
  refine en' (hK8 _ _ ?_)
  refine wp_seq_k fun K11 hK11=>?_
  obtain ⟨s13,h12,hL⟩:=hL.freezeb (L':=[(5,(Pd.row En.cls s0.w.heap.size 51 og6 out5))]) 10 rfl (.cons (t:=5) rfl (Dis.ow (Dis.symm d10)) .nil)
  rw [← h12]
  clear h12
  generalize s13 = s at *
  obtain ⟨r14,h15,h⟩:=h
  refine rg (sx 39 (t_move (o_t 5 rfl) rfl rfl) hL fun a s e_ hL=>?_)
  refine sx 40 (t_q (Pd.rep EnF211 (fun q_=>split_Refine_2 q_.1 q_.2.1 (fun q_=>split_Refine_1 q_.1 q_.2) q_.2.2)) (t_mkfun (cs:=[.tmp 10]) (.cons (o_t 10 rfl) .nil) (call_of Tryz.func167 rfl (by rfl)) (enc_cons enc_ptr enc_nil) (fun q_ h_=>split_Refine_2_ok h_) rfl rfl)) hL fun a s e_ hL=>st_callr (L':=[(5,(Pd.row En.cls s0.w.heap.size 51 og6 r14))]) 41 (fun v0=>slices_SortStableFunc_api_Class_api_Class_ok v0 h15) hL (o_t 39 rfl) (zs:=[.tmp 40]) (.cons (o_t 40 rfl) .nil) rfl rfl rfl rfl (.turn (t:=5) rfl .nil) fun a s hL=>?_
  refine en' (hK11 _ _ ?_)
  refine wp_seq_k fun K16 hK16=>rg (sx 42 (t_move (o_t 5 rfl) rfl rfl) hL fun a s e_ hL=>?_)
  refine sx 4 (t_assign (o_t 42 rfl) rfl rfl) hL fun a s e_ hL=>en' (hK16 _ _ ?_)
  subst h
  exact wp_ret (reto rfl hL rfl)
 obtain ⟨k20,h⟩:=h
 refine lpg (fun k21 a s=>∃ (out17 : (List Cl)) (v19 : Int) (og18 : Option Nat),Has N0 43 s0 a s [(3,(Pd.ptr En.cls a_)),(5,(Pd.row En.cls s0.w.heap.size 51 og18 out17)),(11,(Pd.rep (En.slice En.cls) parts_)),(12,(Pd.rep (En.int .i64) (parts_.length : Int))),(13,(Pd.rep (En.int .i64) v19))] ∧ split_Refine.l1 parts_ a_ (split_Refine.j1 r_) k21 out17 v19) k20 ⟨([] : (List Cl)),0,none,hL.keep (.cons (t:=3) rfl nE (.cons (t:=5) rfl (fun _ _ h_=>h_) (.cons (t:=11) rfl nE (.cons (t:=12) rfl nE (.cons (t:=13) rfl nE .nil))))),h⟩ ?_
 rintro k21 a s ⟨out17,v19,og18,hL,h⟩ KL22 hKL22
 cases k21 with
 | zero=>exact h.elim
 | succ k21=>
 unfold split_Refine.l1 at h
 refine wp_seq_k fun K23 hK23=>rg (sx 14 (t_lss (o_t 13 rfl) (o_t 12 rfl) rfl rfl) hL fun a s e_ hL=>?_)
 refine en' (hK23 _ _ ?_)
 refine wp_seq_k fun K24 hK24=>cnd hL rfl (fun hb_=>?_) (fun hb_=>?_)
 ·replace h:=h.1 hb_
  refine wp_skip ?_
  show K24 a s.w
  refine hK24 _ _ (wp_seq_k fun K25 hK25=>?_)
  refine wp_block (wp_seq_k fun K26 hK26=>?_)
  obtain ⟨e27,h28,h⟩:=h
  refine rg (sx 15 (t_idx (o_t 11 rfl) (o_t 13 rfl) h28 Tryz.underlying36 ty51 rfl rfl) hL fun a s e_ hL=>?_)
  refine sx 16 (t_load ty51 (o_t 15 rfl) rfl rfl) hL fun a s e_ hL=>?_
  have lt_d30:=hL.rlt 5 rfl
  refine st_alloc En.cls (z:=(0#256)) 7 hL tyz51 rfl rfl rfl rfl fun a s g29 hg_ hL=>?_
  have d30 : Dis (some g29) og18:=Dis.newg hg_ lt_d30
  refine st_stb (L':=[(3,(Pd.ptr En.cls a_)),(5,(Pd.row En.cls s0.w.heap.size 51 og18 out17)),(11,(Pd.rep (En.slice En.cls) parts_)),(12,(Pd.rep (En.int .i64) (parts_.length : Int))),(13,(Pd.rep (En.int .i64) v19))]) 7 hL rfl (o_t 16 rfl) ty51 rfl rfl rfl (.cons (t:=3) rfl nE (.cons (t:=5) rfl (Dis.ow (Dis.symm d30)) (.cons (t:=11) rfl nE (.cons (t:=12) rfl nE (.cons (t:=13) rfl nE .nil))))) fun s hL=>?_
  refine en' (hK26 _ _ ?_)
  refine wp_seq_k fun K31 hK31=>?_
  obtain ⟨r32,h33,r34,h35,r36,h37,h⟩:=h
  refine rda follows 10 [(Pd.rep En.cls e27),(Pd.rep En.cls a_),(Pd.rep En.cls r32),(Pd.rep En.cls e27),(Pd.rep En.cls a_),(Pd.rep En.cls r34),(Pd.rep En.cls r36),(Pd.rep (En.slice En.cls) [r32,r36]),(Pd.rep (En.int .i64) ([r32,r36].length : Int)),(Pd.rep (En.int .i64) 0)] hL (by kernel_rfl) rfl rfl ?_ ?_
  ·refine AllT.cons (t_loadb ty51 (o_t 7 rfl) rfl rfl) ?_
   refine AllT.cons (t_load ty51 (o_t 3 rfl) rfl rfl) (AllT.cons (t_call (class_Both_ok h33) (xs:=[.tmp 17,.tmp 18]) (.cons (o_t 17 rfl) (.cons (o_t 18 rfl) .nil)) rfl rfl) ?_)
   refine AllT.cons (t_loadb ty51 (o_t 7 rfl) rfl rfl) (AllT.cons (t_load ty51 (o_t 3 rfl) rfl rfl) ?_)
   refine AllT.cons (t_call (class_Not_ok h35) (xs:=[.tmp 21]) (.cons (o_t 21 rfl) .nil) rfl rfl) (AllT.cons (t_call (class_Both_ok h37) (xs:=[.tmp 20,.tmp 22]) (.cons (o_t 20 rfl) (.cons (o_t 22 rfl) .nil)) rfl rfl) ?_)
   refine AllT.cons (t_lit (xs:=[.tmp 19,.tmp 23]) (.cons (o_t 19 rfl) (.cons (o_t 23 rfl) .nil)) Tryz.underlying36 ty51 rfl rfl (by decide) rfl rfl) (AllT.cons (t_len (o_t 24 rfl) Tryz.underlying36 rfl rfl) ?_)
   refine AllT.cons (t_move (o_i (k:=.i64) (by decide)) rfl rfl) ?_
   exact AllT.nil
  intro a s e_ hL
  refine en' (hK31 _ _ ?_)
  refine wp_block ?_
  have J40 : ∀ (out38 : (List Cl)) (og39 : Option Nat) (a : Act) (s : St),Has N0 43 s0 a s [(3,(Pd.ptr En.cls a_)),(5,(Pd.row En.cls s0.w.heap.size 51 og39 out38)),(11,(Pd.rep (En.slice En.cls) parts_)),(12,(Pd.rep (En.int .i64) (parts_.length : Int))),(13,(Pd.rep (En.int .i64) v19))] → ((split_Refine.j2 (split_Refine.l1 parts_ a_ (split_Refine.j1 r_) k21) v19) out38) → K25 a s.w:=by
   intro out38 og39 a s hL h
   unfold split_Refine.j2 at h
   show K25 a s.w
   refine hK25 _ _ ?_
   obtain ⟨h41,h⟩:=h
   refine rg (sx 38 (t_add (o_t 13 rfl) (o_i (k:=.i64) (by decide)) h41 rfl rfl) hL fun a s e_ hL=>?_)
   refine sx 13 (t_move (o_t 38 rfl) rfl rfl) hL fun a s e_ hL=>en' ?_
   exact hKL22 k21 a s (Nat.lt_succ_self _) ⟨out38,(v19 + 1),og39,hL.keep (.cons (t:=3) rfl nE (.cons (t:=5) rfl (fun _ _ h_=>h_) (.cons (t:=11) rfl nE (.cons (t:=12) rfl nE (.cons (t:=13) rfl nE .nil))))),h⟩
  obtain ⟨k45,h⟩:=h
  refine lpg (fun k46 a s=>∃ (out42 : (List Cl)) (v44 : Int) (og43 : Option Nat),Has N0 43 s0 a s [(3,(Pd.ptr En.cls a_)),(5,(Pd.row En.cls s0.w.heap.size 51 og43 out42)),(11,(Pd.rep (En.slice En.cls) parts_)),(12,(Pd.rep (En.int .i64) (parts_.length : Int))),(13,(Pd.rep (En.int .i64) v19)),(24,(Pd.rep (En.slice En.cls) [r32,r36])),(25,(Pd.rep (En.int .i64) ([r32,r36].length : Int))),(26,(Pd.rep (En.int .i64) v44))] ∧ split_Refine.l2 r32 r36 (split_Refine.j2 (split_Refine.l1 parts_ a_ (split_Refine.j1 r_) k21) v19) k46 out42 v44) k45 ⟨out17,0,og18,hL.keep (.cons (t:=3) rfl nE (.cons (t:=5) rfl (fun _ _ h_=>h_) (.cons (t:=11) rfl nE (.cons (t:=12) rfl nE (.cons (t:=13) rfl nE (.cons (t:=24) rfl nE (.cons (t:=25) rfl nE (.cons (t:=26) rfl nE .nil)))))))),h⟩ ?_
  rintro k46 a s ⟨out42,v44,og43,hL,h⟩ KL47 hKL47
  cases k46 with
  | zero=>exact h.elim
  | succ k46=>
  unfold split_Refine.l2 at h
  refine wp_seq_k fun K48 hK48=>rg (sx 27 (t_lss (o_t 26 rfl) (o_t 25 rfl) rfl rfl) hL fun a s e_ hL=>?_)
  refine en' (hK48 _ _ ?_)
  refine wp_seq_k fun K49 hK49=>cnd hL rfl (fun hb_=>?_) (fun hb_=>?_)
  ·replace h:=h.1 hb_
   refine wp_skip ?_
   show K49 a s.w
   refine hK49 _ _ (wp_seq_k fun K50 hK50=>?_)
   refine wp_block (wp_seq_k fun K51 hK51=>?_)
   obtain ⟨e52,h53,h⟩:=h
   refine rg (sx 28 (t_idx (o_t 24 rfl) (o_t 26 rfl) h53 Tryz.underlying36 ty51 rfl rfl) hL fun a s e_ hL=>?_)
   refine sx 29 (t_load ty51 (o_t 28 rfl) rfl rfl) hL fun a s e_ hL=>?_
   have lt_d55:=hL.rlt 5 rfl
   refine st_alloc En.cls (z:=(0#256)) 9 hL tyz51 rfl rfl rfl rfl fun a s g54 hg_ hL=>?_
   have d55 : Dis (some g54) og43:=Dis.newg hg_ lt_d55
   refine st_stb (L':=[(3,(Pd.ptr En.cls a_)),(5,(Pd.row En.cls s0.w.heap.size 51 og43 out42)),(11,(Pd.rep (En.slice En.cls) parts_)),(12,(Pd.rep (En.int .i64) (parts_.length : Int))),(13,(Pd.rep (En.int .i64) v19)),(24,(Pd.rep (En.slice En.cls) [r32,r36])),(25,(Pd.rep (En.int .i64) ([r32,r36].length : Int))),(26,(Pd.rep (En.int .i64) v44))]) 9 hL rfl (o_t 29 rfl) ty51 rfl rfl rfl (.cons (t:=3) rfl nE (.cons (t:=5) rfl (Dis.ow (Dis.symm d55)) (.cons (t:=11) rfl nE (.cons (t:=12) rfl nE (.cons (t:=13) rfl nE (.cons (t:=24) rfl nE (.cons (t:=25) rfl nE (.cons (t:=26) rfl nE .nil)))))))) fun s hL=>?_
   refine en' (hK51 _ _ ?_)
   refine wp_seq_k fun K56 hK56=>?_
   obtain ⟨r57,h58,h⟩:=h
   refine rg (sx 30 (t_loadb ty51 (o_t 9 rfl) rfl rfl) hL fun a s e_ hL=>?_)
   refine sx 31 (t_call (class_Count_ok h58) (xs:=[.tmp 30]) (.cons (o_t 30 rfl) .nil) rfl rfl) hL fun a s e_ hL=>sx 32 (t_gtr (o_t 31 rfl) (o_i (k:=.i64) (by decide)) rfl rfl) hL fun a s e_ hL=>en' (hK56 _ _ ?_)
   refine cnd hL rfl (fun hb_=>?_) (fun hb_=>?_)
   ·replace h:=h.1 hb_
    obtain ⟨h59,h⟩:=h
    refine rg (sx 33 (t_move (o_t 5 rfl) rfl rfl) hL fun a s e_ hL=>?_)
    refine sx 34 (t_loadb ty51 (o_t 9 rfl) rfl rfl) hL fun a s e_ hL=>sx 35 (t_lit (xs:=[.tmp 34]) (.cons (o_t 34 rfl) .nil) Tryz.underlying36 ty51 rfl rfl (by decide) rfl rfl) hL fun a s e_ hL=>st_app (L':=[(3,(Pd.ptr En.cls a_)),(11,(Pd.rep (En.slice En.cls) parts_)),(12,(Pd.rep (En.int .i64) (parts_.length : Int))),(13,(Pd.rep (En.int .i64) v19)),(24,(Pd.rep (En.slice En.cls) [r32,r36])),(25,(Pd.rep (En.int .i64) ([r32,r36].length : Int))),(26,(Pd.rep (En.int .i64) v44))]) 36 hL (o_t 33 rfl) (o_t 35 rfl) Tryz.underlying36 ty51 h59 rfl rfl rfl rfl (.cons (t:=3) rfl nE (.cons (t:=11) rfl nE (.cons (t:=12) rfl nE (.cons (t:=13) rfl nE (.cons (t:=24) rfl nE (.cons (t:=25) rfl nE (.cons (t:=26) rfl nE .nil))))))) fun a s og60 hg_ hL=>?_
    refine sx 5 (t_assign (o_t 36 rfl) rfl rfl) hL fun a s e_ hL=>en' (hK50 _ _ ?_)
    obtain ⟨h61,h⟩:=h
    refine rg (sx 37 (t_add (o_t 26 rfl) (o_i (k:=.i64) (by decide)) h61 rfl rfl) hL fun a s e_ hL=>?_)
    refine sx 26 (t_move (o_t 37 rfl) rfl rfl) hL fun a s e_ hL=>en' ?_
    exact hKL47 k46 a s (Nat.lt_succ_self _) ⟨(out42 ++ [e52]),(v44 + 1),og60,hL.keep (.cons (t:=3) rfl nE (.cons (t:=5) rfl (fun _ _ h_=>h_) (.cons (t:=11) rfl nE (.cons (t:=12) rfl nE (.cons (t:=13) rfl nE (.cons (t:=24) rfl nE (.cons (t:=25) rfl nE (.cons (t:=26) rfl nE .nil)))))))),h⟩
   ·replace h:=h.2 hb_
    refine wp_skip ?_
    show K50 a s.w
    refine hK50 _ _ ?_
    obtain ⟨h62,h⟩:=h
    refine rg (sx 37 (t_add (o_t 26 rfl) (o_i (k:=.i64) (by decide)) h62 rfl rfl) hL fun a s e_ hL=>?_)
    refine sx 26 (t_move (o_t 37 rfl) rfl rfl) hL fun a s e_ hL=>en' ?_
    exact hKL47 k46 a s (Nat.lt_succ_self _) ⟨out42,(v44 + 1),og43,hL.keep (.cons (t:=3) rfl nE (.cons (t:=5) rfl (fun _ _ h_=>h_) (.cons (t:=11) rfl nE (.cons (t:=12) rfl nE (.cons (t:=13) rfl nE (.cons (t:=24) rfl nE (.cons (t:=25) rfl nE (.cons (t:=26) rfl nE .nil)))))))),h⟩
  ·replace h:=h.2 hb_
   refine wp_exit ?_
   exact J40 out42 og43 a s (hL.keep (.cons (t:=3) rfl nE (.cons (t:=5) rfl (fun _ _ h_=>h_) (.cons (t:=11) rfl nE (.cons (t:=12) rfl nE (.cons (t:=13) rfl nE .nil)))))) h
 ·replace h:=h.2 hb_
  refine wp_exit ?_
  exact J7 out17 og18 a s (hL.keep (.cons (t:=5) rfl (fun _ _ h_=>h_) .nil)) h
theorem split_Parts_ok {list_ : (List Cl)} {r_ : (List Cl)} (h : split_Parts list_ r_) : Fn Tryz.prog 103 [(Pd.rep (En.slice En.cls) list_)] (Ro En.cls 51 r_):=by
 unfold split_Parts at h
 refine fn_of Tryz.func103 rfl Tryz.ntmps103 (by rfl) (by simp) fun s0 a hL=>?_
 refine wp_seq_k fun K1 hK1=>rg (sx 2 (t_assign (o_nil (E:=En.cls) (N:=s0.w.heap.size) (te:=51)) rfl rfl) hL fun a s e_ hL=>?_)
 refine en' (hK1 _ _ ?_)
 refine wp_seq_k fun K2 hK2=>?_
 obtain ⟨r3,h4,h⟩:=h
 refine rg (sx 6 (t_bcls (x:=(0#256)) Tryz.underlying51 (by rfl) tyz51 (fun _=>by kernel_rfl) rfl rfl) hL fun a s e_ hL=>?_)
 refine sx 7 (t_call (class_Not_ok h4) (xs:=[.tmp 6]) (.cons (o_t 6 rfl) .nil) rfl rfl) hL fun a s e_ hL=>st_lito (xs:=[.tmp 7]) 8 hL (.cons (o_t 7 rfl) .nil) Tryz.underlying36 ty51 rfl rfl (by decide) rfl rfl rfl rfl fun a s g5 hg_ hL=>?_
 refine sx 3 (t_assign (o_t 8 rfl) rfl rfl) hL fun a s e_ hL=>en' (hK2 _ _ ?_)
 refine wp_seq_k fun K6 hK6=>wp_seq_k fun K7 hK7=>rg (sx 9 (t_move (o_t 0 rfl) rfl rfl) hL fun a s e_ hL=>?_)
 refine sx 10 (t_len (o_t 9 rfl) Tryz.underlying36 rfl rfl) hL fun a s e_ hL=>sx 11 (t_move (o_i (k:=.i64) (by decide)) rfl rfl) hL fun a s e_ hL=>en' (hK7 _ _ ?_)
 refine wp_block ?_
 have J10 : ∀ (out8 : (List Cl)) (og9 : Option Nat) (a : Act) (s : St),Has N0 20 s0 a s [(3,(Pd.row En.cls s0.w.heap.size 51 og9 out8))] → ((split_Parts.j1 r_) out8) → K6 a s.w:=by
  intro out8 og9 a s hL h
  unfold split_Parts.j1 at h
  show K6 a s.w
  refine hK6 _ _ (wp_seq_k fun K11 hK11=>?_)
  refine rg (sx 19 (t_move (o_t 3 rfl) rfl rfl) hL fun a s e_ hL=>?_)
  refine sx 2 (t_assign (o_t 19 rfl) rfl rfl) hL fun a s e_ hL=>en' (hK11 _ _ ?_)
  subst h
  exact wp_ret (reto rfl hL rfl)
 obtain ⟨k15,h⟩:=h
 refine lpg (fun k16 a s=>∃ (out12 : (List Cl)) (v14 : Int) (og13 : Option Nat),Has N0 20 s0 a s [(3,(Pd.row En.cls s0.w.heap.size 51 og13 out12)),(9,(Pd.rep (En.slice En.cls) list_)),(10,(Pd.rep (En.int .i64) (list_.length : Int))),(11,(Pd.rep (En.int .i64) v14))] ∧ split_Parts.l1 list_ (split_Parts.j1 r_) k16 out12 v14) k15 ⟨[r3],0,(some g5),hL.keep (.cons (t:=3) rfl (fun _ _ h_=>h_) (.cons (t:=9) rfl nE (.cons (t:=10) rfl nE (.cons (t:=11) rfl nE .nil)))),h⟩ ?_
 rintro k16 a s ⟨out12,v14,og13,hL,h⟩ KL17 hKL17
 cases k16 with
 | zero=>exact h.elim
 | succ k16=>
 unfold split_Parts.l1 at h
 refine wp_seq_k fun K18 hK18=>rg (sx 12 (t_lss (o_t 11 rfl) (o_t 10 rfl) rfl rfl) hL fun a s e_ hL=>?_)
 refine en' (hK18 _ _ ?_)
 refine wp_seq_k fun K19 hK19=>cnd hL rfl (fun hb_=>?_) (fun hb_=>?_)
 ·replace h:=h.1 hb_
  refine wp_skip ?_
  show K19 a s.w
  refine hK19 _ _ (wp_seq_k fun K20 hK20=>?_)
  refine wp_block (wp_seq_k fun K21 hK21=>?_)
  obtain ⟨e22,h23,h⟩:=h
  refine rg (sx 13 (t_idx (o_t 9 rfl) (o_t 11 rfl) h23 Tryz.underlying36 ty51 rfl rfl) hL fun a s e_ hL=>?_)
  refine sx 14 (t_load ty51 (o_t 13 rfl) rfl rfl) hL fun a s e_ hL=>?_
  have lt_d25:=hL.rlt 3 rfl
  refine st_alloc En.cls (z:=(0#256)) 5 hL tyz51 rfl rfl rfl rfl fun a s g24 hg_ hL=>?_
  have d25 : Dis (some g24) og13:=Dis.newg hg_ lt_d25
  refine st_stb (L':=[(3,(Pd.row En.cls s0.w.heap.size 51 og13 out12)),(9,(Pd.rep (En.slice En.cls) list_)),(10,(Pd.rep (En.int .i64) (list_.length : Int))),(11,(Pd.rep (En.int .i64) v14))]) 5 hL rfl (o_t 14 rfl) ty51 rfl rfl rfl (.cons (t:=3) rfl (Dis.ow (Dis.symm d25)) (.cons (t:=9) rfl nE (.cons (t:=10) rfl nE (.cons (t:=11) rfl nE .nil)))) fun s hL=>?_
  refine en' (hK21 _ _ ?_)
  obtain ⟨s27,h26,hL⟩:=hL.freeze (L':=[(5,(Pd.box En.cls s0.w.heap.size g24 e22)),(9,(Pd.rep (En.slice En.cls) list_)),(10,(Pd.rep (En.int .i64) (list_.length : Int))),(11,(Pd.rep (En.int .i64) v14))]) 3 rfl (.cons (t:=5) rfl (Dis.bx d25) (.cons (t:=9) rfl nE (.cons (t:=10) rfl nE (.cons (t:=11) rfl nE .nil))))
  rw [← h26]
  clear h26
  generalize s27 = s at *
  obtain ⟨r28,h29,h⟩:=h
  refine rg (sx 15 (t_move (o_t 3 rfl) rfl rfl) hL fun a s e_ hL=>?_)
  refine sx 16 (t_loadb ty51 (o_t 5 rfl) rfl rfl) hL fun a s e_ hL=>?_
  have lt_d31:=hL.blt 5 rfl
  refine st_callo 17 hL (split_Refine_ok h29) (xs:=[.tmp 15,.tmp 16]) (.cons (o_t 15 rfl) (.cons (o_t 16 rfl) .nil)) rfl rfl rfl rfl fun a s og30 hg_ hL=>?_
  have d31 : Dis og30 (some g24):=Dis.new hg_ lt_d31
  refine sx 3 (t_assign (o_t 17 rfl) rfl rfl) hL fun a s e_ hL=>en' (hK20 _ _ ?_)
  obtain ⟨h32,h⟩:=h
  refine rg (sx 18 (t_add (o_t 11 rfl) (o_i (k:=.i64) (by decide)) h32 rfl rfl) hL fun a s e_ hL=>?_)
  refine sx 11 (t_move (o_t 18 rfl) rfl rfl) hL fun a s e_ hL=>en' ?_
  exact hKL17 k16 a s (Nat.lt_succ_self _) ⟨r28,(v14 + 1),og30,hL.keep (.cons (t:=3) rfl (fun _ _ h_=>h_) (.cons (t:=9) rfl nE (.cons (t:=10) rfl nE (.cons (t:=11) rfl nE .nil)))),h⟩
 ·replace h:=h.2 hb_
  refine wp_exit ?_
  exact J10 out12 og13 a s (hL.keep (.cons (t:=3) rfl (fun _ _ h_=>h_) .nil)) h
theorem split_Heads_ok {list_ : (List Cl)} {r_ : (List Int)} (h : split_Heads list_ r_) : Fn Tryz.prog 65 [(Pd.rep (En.slice En.cls) list_)] (Ro (En.int .u8) 5 r_):=by
 unfold split_Heads at h
 refine fn_of Tryz.func65 rfl Tryz.ntmps65 (by rfl) (by simp) fun s0 a hL=>?_
 refine wp_seq_k fun K1 hK1=>rg (sx 2 (t_assign (o_nil (E:=(En.int .u8)) (N:=s0.w.heap.size) (te:=5)) rfl rfl) hL fun a s e_ hL=>?_)
 refine en' (hK1 _ _ ?_)
 refine wp_seq_k fun K2 hK2=>rg (sx 3 (t_assign (o_nil (E:=(En.int .u8)) (N:=s0.w.heap.size) (te:=5)) rfl rfl) hL fun a s e_ hL=>?_)
 refine en' (hK2 _ _ ?_)
 refine wp_seq_k fun K3 hK3=>wp_seq_k fun K4 hK4=>?_
 obtain ⟨r5,h6,h⟩:=h
 refine rg (sx 8 (t_move (o_t 0 rfl) rfl rfl) hL fun a s e_ hL=>?_)
 refine sx 9 (t_call ((split_Parts_ok h6).frz) (xs:=[.tmp 8]) (.cons (o_t 8 rfl) .nil) rfl rfl) hL fun a s e_ hL=>sx 10 (t_len (o_t 9 rfl) Tryz.underlying36 rfl rfl) hL fun a s e_ hL=>sx 11 (t_move (o_i (k:=.i64) (by decide)) rfl rfl) hL fun a s e_ hL=>en' (hK4 _ _ ?_)
 refine wp_block ?_
 have J9 : ∀ (out7 : (List Int)) (og8 : Option Nat) (a : Act) (s : St),Has N0 26 s0 a s [(3,(Pd.row (En.int .u8) s0.w.heap.size 5 og8 out7))] → ((split_Heads.j1 r_) out7) → K3 a s.w:=by
  intro out7 og8 a s hL h
  unfold split_Heads.j1 at h
  show K3 a s.w
  refine hK3 _ _ (wp_seq_k fun K10 hK10=>?_)
  refine rg (sx 25 (t_move (o_t 3 rfl) rfl rfl) hL fun a s e_ hL=>?_)
  refine sx 2 (t_assign (o_t 25 rfl) rfl rfl) hL fun a s e_ hL=>en' (hK10 _ _ ?_)
  subst h
  exact wp_ret (reto rfl hL rfl)
 obtain ⟨k14,h⟩:=h
 refine lpg (fun k15 a s=>∃ (out11 : (List Int)) (v13 : Int) (og12 : Option Nat),Has N0 26 s0 a s [(3,(Pd.row (En.int .u8) s0.w.heap.size 5 og12 out11)),(9,(Pd.rep (En.slice En.cls) r5)),(10,(Pd.rep (En.int .i64) (r5.length : Int))),(11,(Pd.rep (En.int .i64) v13))] ∧ split_Heads.l1 r5 (split_Heads.j1 r_) k15 out11 v13) k14 ⟨([] : (List Int)),0,none,hL.keep (.cons (t:=3) rfl (fun _ _ h_=>h_) (.cons (t:=9) rfl nE (.cons (t:=10) rfl nE (.cons (t:=11) rfl nE .nil)))),h⟩ ?_
 rintro k15 a s ⟨out11,v13,og12,hL,h⟩ KL16 hKL16
 cases k15 with
 | zero=>exact h.elim
 | succ k15=>
 unfold split_Heads.l1 at h
 refine wp_seq_k fun K17 hK17=>rg (sx 12 (t_lss (o_t 11 rfl) (o_t 10 rfl) rfl rfl) hL fun a s e_ hL=>?_)
 refine en' (hK17 _ _ ?_)
 refine wp_seq_k fun K18 hK18=>cnd hL rfl (fun hb_=>?_) (fun hb_=>?_)
 ·replace h:=h.1 hb_
  refine wp_skip ?_
  show K18 a s.w
  refine hK18 _ _ (wp_seq_k fun K19 hK19=>?_)
  refine wp_block (wp_seq_k fun K20 hK20=>?_)
  obtain ⟨e21,h22,h⟩:=h
  refine rg (sx 13 (t_idx (o_t 9 rfl) (o_t 11 rfl) h22 Tryz.underlying36 ty51 rfl rfl) hL fun a s e_ hL=>?_)
  refine sx 14 (t_load ty51 (o_t 13 rfl) rfl rfl) hL fun a s e_ hL=>?_
  have lt_d24:=hL.rlt 3 rfl
  refine st_alloc En.cls (z:=(0#256)) 5 hL tyz51 rfl rfl rfl rfl fun a s g23 hg_ hL=>?_
  have d24 : Dis (some g23) og12:=Dis.newg hg_ lt_d24
  refine st_stb (L':=[(3,(Pd.row (En.int .u8) s0.w.heap.size 5 og12 out11)),(9,(Pd.rep (En.slice En.cls) r5)),(10,(Pd.rep (En.int .i64) (r5.length : Int))),(11,(Pd.rep (En.int .i64) v13))]) 5 hL rfl (o_t 14 rfl) ty51 rfl rfl rfl (.cons (t:=3) rfl (Dis.ow (Dis.symm d24)) (.cons (t:=9) rfl nE (.cons (t:=10) rfl nE (.cons (t:=11) rfl nE .nil)))) fun s hL=>?_
  refine en' (hK20 _ _ ?_)
  refine wp_seq_k fun K25 hK25=>?_
  obtain ⟨r26,h27,h⟩:=h
  refine rg (sx 16 (t_loadb ty51 (o_t 5 rfl) rfl rfl) hL fun a s e_ hL=>?_)
  refine sx 17 (t_call ((class_Least_ok h27).tup) (xs:=[.tmp 16]) (.cons (o_t 16 rfl) .nil) rfl rfl) hL fun a s e_ hL=>sx 15 (t_move (o_t 17 rfl) rfl rfl) hL fun a s e_ hL=>sx 18 (t_ext0 (o_t 15 rfl) rfl rfl) hL fun a s e_ hL=>sx 19 (t_ext1 (o_t 15 rfl) rfl rfl) hL fun a s e_ hL=>sx 6 (t_assign (o_t 18 rfl) rfl rfl) hL fun a s e_ hL=>sx 7 (t_assign (o_t 19 rfl) rfl rfl) hL fun a s e_ hL=>en' (hK25 _ _ ?_)
  obtain ⟨h28,h⟩:=h
  refine rg (sx 20 (t_move (o_t 3 rfl) rfl rfl) hL fun a s e_ hL=>?_)
  refine sx 21 (t_move (o_t 6 rfl) rfl rfl) hL fun a s e_ hL=>sx 22 (t_lit (xs:=[.tmp 21]) (.cons (o_t 21 rfl) .nil) Tryz.underlying26 ty5 rfl rfl (by decide) rfl rfl) hL fun a s e_ hL=>st_app (L':=[(9,(Pd.rep (En.slice En.cls) r5)),(10,(Pd.rep (En.int .i64) (r5.length : Int))),(11,(Pd.rep (En.int .i64) v13))]) 23 hL (o_t 20 rfl) (o_t 22 rfl) Tryz.underlying26 ty5 h28 rfl rfl rfl rfl (.cons (t:=9) rfl nE (.cons (t:=10) rfl nE (.cons (t:=11) rfl nE .nil))) fun a s og29 hg_ hL=>?_
  refine sx 3 (t_assign (o_t 23 rfl) rfl rfl) hL fun a s e_ hL=>en' (hK19 _ _ ?_)
  obtain ⟨h30,h⟩:=h
  refine rg (sx 24 (t_add (o_t 11 rfl) (o_i (k:=.i64) (by decide)) h30 rfl rfl) hL fun a s e_ hL=>?_)
  refine sx 11 (t_move (o_t 24 rfl) rfl rfl) hL fun a s e_ hL=>en' ?_
  exact hKL16 k15 a s (Nat.lt_succ_self _) ⟨(out11 ++ [r26.1]),(v13 + 1),og29,hL.keep (.cons (t:=3) rfl (fun _ _ h_=>h_) (.cons (t:=9) rfl nE (.cons (t:=10) rfl nE (.cons (t:=11) rfl nE .nil)))),h⟩
 ·replace h:=h.2 hb_
  refine wp_exit ?_
  exact J9 out11 og12 a s (hL.keep (.cons (t:=3) rfl (fun _ _ h_=>h_) .nil)) h
theorem ref02_Bytes_ok {a_ : (List Int)} {b_ : (List Int)} {r_ : Bool} (h : ref02_Bytes a_ b_ r_) : Fn Tryz.prog 23 [(Pd.rep (En.slice (En.int .u8)) a_),(Pd.rep (En.slice (En.int .u8)) b_)] (Rq (Pd.rep En.bool r_)):=by
 unfold ref02_Bytes at h
 refine fn_of Tryz.func23 rfl Tryz.ntmps23 (by rfl) (by simp) fun s0 a hL=>?_
 refine wp_seq_k fun K1 hK1=>rg (sx 4 (t_assign o_b rfl rfl) hL fun a s e_ hL=>?_)
 refine en' (hK1 _ _ ?_)
 refine wp_seq_k fun K2 hK2=>wp_seq_k fun K3 hK3=>rg (sx 6 (t_move (o_t 0 rfl) rfl rfl) hL fun a s e_ hL=>?_)
 refine sx 7 (t_len (o_t 6 rfl) Tryz.underlying26 rfl rfl) hL fun a s e_ hL=>sx 8 (t_move (o_t 1 rfl) rfl rfl) hL fun a s e_ hL=>sx 9 (t_len (o_t 8 rfl) Tryz.underlying26 rfl rfl) hL fun a s e_ hL=>sx 10 (t_nei (o_t 7 rfl) (o_t 9 rfl) rfl rfl) hL fun a s e_ hL=>en' (hK3 _ _ ?_)
 refine cnd hL rfl (fun hb_=>?_) (fun hb_=>?_)
 ·replace h:=h.1 hb_
  refine wp_seq_k fun K4 hK4=>rg (sx 4 (t_assign o_b rfl rfl) hL fun a s e_ hL=>?_)
  refine en' (hK4 _ _ ?_)
  subst h
  exact wp_ret (retq rfl hL rfl)
 ·replace h:=h.2 hb_
  refine wp_skip ?_
  show K2 a s.w
  refine hK2 _ _ (wp_seq_k fun K5 hK5=>?_)
  refine wp_seq_k fun K6 hK6=>rg (sx 5 (t_assign (o_i (k:=.i64) (by decide)) rfl rfl) hL fun a s e_ hL=>?_)
  refine en' (hK6 _ _ ?_)
  refine wp_block ?_
  have J7 : ∀ (a : Act) (s : St),Has N0 26 s0 a s [] → ((ref02_Bytes.j1 r_)) → K5 a s.w:=by
   intro a s hL h
   unfold ref02_Bytes.j1 at h
   show K5 a s.w
   refine hK5 _ _ (wp_seq_k fun K8 hK8=>?_)
   refine rg (sx 4 (t_assign o_b rfl rfl) hL fun a s e_ hL=>?_)
   refine en' (hK8 _ _ ?_)
   subst h
   exact wp_ret (retq rfl hL rfl)
  obtain ⟨k10,h⟩:=h
  refine lpg (fun k11 a s=>∃ (i9 : Int),Has N0 26 s0 a s [(0,(Pd.rep (En.slice (En.int .u8)) a_)),(1,(Pd.rep (En.slice (En.int .u8)) b_)),(5,(Pd.rep (En.int .i64) i9))] ∧ ref02_Bytes.l1 a_ b_ r_ (ref02_Bytes.j1 r_) k11 i9) k10 ⟨0,hL.keep (.cons (t:=0) rfl nE (.cons (t:=1) rfl nE (.cons (t:=5) rfl nE .nil))),h⟩ ?_
  rintro k11 a s ⟨i9,hL,h⟩ KL12 hKL12
  cases k11 with
  | zero=>exact h.elim
  | succ k11=>
  unfold ref02_Bytes.l1 at h
  refine wp_seq_k fun K13 hK13=>wp_seq_k fun K14 hK14=>rg (sx 11 (t_move (o_t 5 rfl) rfl rfl) hL fun a s e_ hL=>?_)
  refine sx 12 (t_move (o_t 0 rfl) rfl rfl) hL fun a s e_ hL=>sx 13 (t_len (o_t 12 rfl) Tryz.underlying26 rfl rfl) hL fun a s e_ hL=>sx 14 (t_lss (o_t 11 rfl) (o_t 13 rfl) rfl rfl) hL fun a s e_ hL=>en' (hK14 _ _ ?_)
  refine cnd hL rfl (fun hb_=>?_) (fun hb_=>?_)
  ·replace h:=h.1 hb_
   refine wp_skip ?_
   show K13 a s.w
   refine hK13 _ _ (wp_seq_k fun K15 hK15=>?_)
   refine wp_block (wp_seq_k fun K16 hK16=>?_)
   obtain ⟨e17,h18,e19,h20,h⟩:=h
   refine rda follows 9 [(Pd.rep (En.slice (En.int .u8)) a_),(Pd.rep (En.int .i64) i9),(Pd.ptr (En.int .u8) e17),(Pd.rep (En.int .u8) e17),(Pd.rep (En.slice (En.int .u8)) b_),(Pd.rep (En.int .i64) i9),(Pd.ptr (En.int .u8) e19),(Pd.rep (En.int .u8) e19),(Pd.rep En.bool (e17 != e19))] hL (by kernel_rfl) rfl rfl ?_ ?_
   ·refine AllT.cons (t_move (o_t 0 rfl) rfl rfl) ?_
    refine AllT.cons (t_move (o_t 5 rfl) rfl rfl) (AllT.cons (t_idx (o_t 17 rfl) (o_t 18 rfl) h18 Tryz.underlying26 ty5 rfl rfl) ?_)
    refine AllT.cons (t_load ty5 (o_t 19 rfl) rfl rfl) (AllT.cons (t_move (o_t 1 rfl) rfl rfl) ?_)
    refine AllT.cons (t_move (o_t 5 rfl) rfl rfl) (AllT.cons (t_idx (o_t 21 rfl) (o_t 22 rfl) h20 Tryz.underlying26 ty5 rfl rfl) ?_)
    refine AllT.cons (t_load ty5 (o_t 23 rfl) rfl rfl) (AllT.cons (t_nei (o_t 20 rfl) (o_t 24 rfl) rfl rfl) ?_)
    exact AllT.nil
   intro a s e_ hL
   refine en' (hK16 _ _ ?_)
   refine cnd hL rfl (fun hb_=>?_) (fun hb_=>?_)
   ·replace h:=h.1 hb_
    refine wp_seq_k fun K21 hK21=>rg (sx 4 (t_assign o_b rfl rfl) hL fun a s e_ hL=>?_)
    refine en' (hK21 _ _ ?_)
    subst h
    exact wp_ret (retq rfl hL rfl)
   ·replace h:=h.2 hb_
    refine wp_skip ?_
    show K15 a s.w
    refine hK15 _ _ ?_
    obtain ⟨h22,h⟩:=h
    refine rg (sx 15 (t_move (o_t 5 rfl) rfl rfl) hL fun a s e_ hL=>?_)
    refine sx 16 (t_add (o_t 15 rfl) (o_i (k:=.i64) (by decide)) h22 rfl rfl) hL fun a s e_ hL=>sx 5 (t_assign (o_t 16 rfl) rfl rfl) hL fun a s e_ hL=>en' ?_
    exact hKL12 k11 a s (Nat.lt_succ_self _) ⟨(i9 + 1),hL.keep (.cons (t:=0) rfl nE (.cons (t:=1) rfl nE (.cons (t:=5) rfl nE .nil))),h⟩
  ·replace h:=h.2 hb_
   refine wp_exit ?_
   exact J7 a s (hL.keep .nil) h
theorem ref02_like_ok {list_ : (List Cl)} {cv_ : Int} {d_ : Int} {r_ : Bool} (h : ref02_like list_ cv_ d_ r_) : Fn Tryz.prog 72 [(Pd.rep (En.slice En.cls) list_),(Pd.rep (En.int .u8) cv_),(Pd.rep (En.int .u8) d_)] (Rq (Pd.rep En.bool r_)):=by
 unfold ref02_like at h
 refine fn_of Tryz.func72 rfl Tryz.ntmps72 (by rfl) (by simp) fun s0 a hL=>?_
 refine wp_seq_k fun K1 hK1=>rg (sx 6 (t_assign o_b rfl rfl) hL fun a s e_ hL=>?_)
 refine en' (hK1 _ _ ?_)
 refine wp_seq_k fun K2 hK2=>wp_seq_k fun K3 hK3=>rg (sx 7 (t_assign (o_i (k:=.i64) (by decide)) rfl rfl) hL fun a s e_ hL=>?_)
 refine en' (hK3 _ _ ?_)
 refine wp_block ?_
 have J4 : ∀ (a : Act) (s : St),Has N0 27 s0 a s [] → ((ref02_like.j1 r_)) → K2 a s.w:=by
  intro a s hL h
  unfold ref02_like.j1 at h
  show K2 a s.w
  refine hK2 _ _ (wp_seq_k fun K5 hK5=>?_)
  refine rg (sx 6 (t_assign o_b rfl rfl) hL fun a s e_ hL=>?_)
  refine en' (hK5 _ _ ?_)
  subst h
  exact wp_ret (retq rfl hL rfl)
 obtain ⟨k7,h⟩:=h
 refine lpg (fun k8 a s=>∃ (i6 : Int),Has N0 27 s0 a s [(0,(Pd.rep (En.slice En.cls) list_)),(1,(Pd.rep (En.int .u8) cv_)),(2,(Pd.rep (En.int .u8) d_)),(7,(Pd.rep (En.int .i64) i6))] ∧ ref02_like.l1 list_ cv_ d_ r_ (ref02_like.j1 r_) k8 i6) k7 ⟨0,hL.keep (.cons (t:=0) rfl nE (.cons (t:=1) rfl nE (.cons (t:=2) rfl nE (.cons (t:=7) rfl nE .nil)))),h⟩ ?_
 rintro k8 a s ⟨i6,hL,h⟩ KL9 hKL9
 cases k8 with
 | zero=>exact h.elim
 | succ k8=>
 unfold ref02_like.l1 at h
 refine wp_seq_k fun K10 hK10=>wp_seq_k fun K11 hK11=>rg (sx 8 (t_move (o_t 7 rfl) rfl rfl) hL fun a s e_ hL=>?_)
 refine sx 9 (t_move (o_t 0 rfl) rfl rfl) hL fun a s e_ hL=>sx 10 (t_len (o_t 9 rfl) Tryz.underlying36 rfl rfl) hL fun a s e_ hL=>sx 11 (t_lss (o_t 8 rfl) (o_t 10 rfl) rfl rfl) hL fun a s e_ hL=>en' (hK11 _ _ ?_)
 refine cnd hL rfl (fun hb_=>?_) (fun hb_=>?_)
 ·replace h:=h.1 hb_
  refine wp_skip ?_
  show K10 a s.w
  refine hK10 _ _ (wp_seq_k fun K12 hK12=>?_)
  refine wp_block (wp_seq_k fun K13 hK13=>?_)
  obtain ⟨e14,h15,r16,h17,e18,h19,r20,h21,h⟩:=h
  refine rda follows 13 [(Pd.rep (En.slice En.cls) list_),(Pd.rep (En.int .i64) i6),(Pd.ptr En.cls e14),(Pd.rep En.cls e14),(Pd.rep (En.int .u8) cv_),(Pd.rep En.bool r16),(Pd.rep (En.slice En.cls) list_),(Pd.rep (En.int .i64) i6),(Pd.ptr En.cls e18),(Pd.rep En.cls e18),(Pd.rep (En.int .u8) d_),(Pd.rep En.bool r20),(Pd.rep En.bool (r16 != r20))] hL (by kernel_rfl) rfl rfl ?_ ?_
  ·refine AllT.cons (t_move (o_t 0 rfl) rfl rfl) ?_
   refine AllT.cons (t_move (o_t 7 rfl) rfl rfl) (AllT.cons (t_idx (o_t 14 rfl) (o_t 15 rfl) h15 Tryz.underlying36 ty51 rfl rfl) ?_)
   refine AllT.cons (t_load ty51 (o_t 16 rfl) rfl rfl) (AllT.cons (t_move (o_t 1 rfl) rfl rfl) ?_)
   refine AllT.cons (t_call (ref01_Has_ok h17) (xs:=[.tmp 17,.tmp 18]) (.cons (o_t 17 rfl) (.cons (o_t 18 rfl) .nil)) rfl rfl) (AllT.cons (t_move (o_t 0 rfl) rfl rfl) ?_)
   refine AllT.cons (t_move (o_t 7 rfl) rfl rfl) (AllT.cons (t_idx (o_t 20 rfl) (o_t 21 rfl) h19 Tryz.underlying36 ty51 rfl rfl) ?_)
   refine AllT.cons (t_load ty51 (o_t 22 rfl) rfl rfl) (AllT.cons (t_move (o_t 2 rfl) rfl rfl) ?_)
   refine AllT.cons (t_call (ref01_Has_ok h21) (xs:=[.tmp 23,.tmp 24]) (.cons (o_t 23 rfl) (.cons (o_t 24 rfl) .nil)) rfl rfl) (AllT.cons (t_neb (o_t 19 rfl) (o_t 25 rfl) Tryz.underlying4 rfl rfl) ?_)
   exact AllT.nil
  intro a s e_ hL
  refine en' (hK13 _ _ ?_)
  refine cnd hL rfl (fun hb_=>?_) (fun hb_=>?_)
  ·replace h:=h.1 hb_
   refine wp_seq_k fun K22 hK22=>rg (sx 6 (t_assign o_b rfl rfl) hL fun a s e_ hL=>?_)
   refine en' (hK22 _ _ ?_)
   subst h
   exact wp_ret (retq rfl hL rfl)
  ·replace h:=h.2 hb_
   refine wp_skip ?_
   show K12 a s.w
   refine hK12 _ _ ?_
   obtain ⟨h23,h⟩:=h
   refine rg (sx 12 (t_move (o_t 7 rfl) rfl rfl) hL fun a s e_ hL=>?_)
   refine sx 13 (t_add (o_t 12 rfl) (o_i (k:=.i64) (by decide)) h23 rfl rfl) hL fun a s e_ hL=>sx 7 (t_assign (o_t 13 rfl) rfl rfl) hL fun a s e_ hL=>en' ?_
   exact hKL9 k8 a s (Nat.lt_succ_self _) ⟨(i6 + 1),hL.keep (.cons (t:=0) rfl nE (.cons (t:=1) rfl nE (.cons (t:=2) rfl nE (.cons (t:=7) rfl nE .nil)))),h⟩
 ·replace h:=h.2 hb_
  refine wp_exit ?_
  exact J4 a s (hL.keep .nil) h
theorem ref02_Heads_ok {list_ : (List Cl)} {r_ : (List Int)} (h : ref02_Heads list_ r_) : Fn Tryz.prog 36 [(Pd.rep (En.slice En.cls) list_)] (Ro (En.int .u8) 5 r_):=by
 unfold ref02_Heads at h
 refine fn_of Tryz.func36 rfl Tryz.ntmps36 (by rfl) (by simp) fun s0 a hL=>?_
 refine wp_seq_k fun K1 hK1=>rg (sx 2 (t_assign (o_nil (E:=(En.int .u8)) (N:=s0.w.heap.size) (te:=5)) rfl rfl) hL fun a s e_ hL=>?_)
 refine en' (hK1 _ _ ?_)
 refine wp_seq_k fun K2 hK2=>rg (sx 3 (t_assign (o_nil (E:=(En.int .u8)) (N:=s0.w.heap.size) (te:=5)) rfl rfl) hL fun a s e_ hL=>?_)
 refine en' (hK2 _ _ ?_)
 refine wp_seq_k fun K3 hK3=>wp_seq_k fun K4 hK4=>rg (sx 4 (t_assign (o_i (k:=.i64) (by decide)) rfl rfl) hL fun a s e_ hL=>?_)
 refine en' (hK4 _ _ ?_)
 refine wp_block ?_
 have J7 : ∀ (out5 : (List Int)) (og6 : Option Nat) (a : Act) (s : St),Has N0 36 s0 a s [(3,(Pd.row (En.int .u8) s0.w.heap.size 5 og6 out5))] → ((ref02_Heads.j1 r_) out5) → K3 a s.w:=by
  intro out5 og6 a s hL h
  unfold ref02_Heads.j1 at h
  show K3 a s.w
  refine hK3 _ _ (wp_seq_k fun K8 hK8=>?_)
  refine rg (sx 35 (t_move (o_t 3 rfl) rfl rfl) hL fun a s e_ hL=>?_)
  refine sx 2 (t_assign (o_t 35 rfl) rfl rfl) hL fun a s e_ hL=>en' (hK8 _ _ ?_)
  subst h
  exact wp_ret (reto rfl hL rfl)
 obtain ⟨k12,h⟩:=h
 refine lpg (fun k13 a s=>∃ (out9 : (List Int)) (c11 : Int) (og10 : Option Nat),Has N0 36 s0 a s [(0,(Pd.rep (En.slice En.cls) list_)),(3,(Pd.row (En.int .u8) s0.w.heap.size 5 og10 out9)),(4,(Pd.rep (En.int .i64) c11))] ∧ ref02_Heads.l1 list_ (ref02_Heads.j1 r_) k13 out9 c11) k12 ⟨([] : (List Int)),0,none,hL.keep (.cons (t:=0) rfl nE (.cons (t:=3) rfl (fun _ _ h_=>h_) (.cons (t:=4) rfl nE .nil))),h⟩ ?_
 rintro k13 a s ⟨out9,c11,og10,hL,h⟩ KL14 hKL14
 cases k13 with
 | zero=>exact h.elim
 | succ k13=>
 unfold ref02_Heads.l1 at h
 refine wp_seq_k fun K15 hK15=>wp_seq_k fun K16 hK16=>rg (sx 7 (t_move (o_t 4 rfl) rfl rfl) hL fun a s e_ hL=>?_)
 refine sx 8 (t_lss (o_t 7 rfl) (o_i (k:=.i64) (by decide)) rfl rfl) hL fun a s e_ hL=>en' (hK16 _ _ ?_)
 refine cnd hL rfl (fun hb_=>?_) (fun hb_=>?_)
 ·replace h:=h.1 hb_
  refine wp_skip ?_
  show K15 a s.w
  refine hK15 _ _ (wp_seq_k fun K17 hK17=>?_)
  refine wp_block (wp_seq_k fun K18 hK18=>?_)
  refine rg (sx 5 (t_assign o_b rfl rfl) hL fun a s e_ hL=>?_)
  refine en' (hK18 _ _ ?_)
  refine wp_seq_k fun K19 hK19=>wp_seq_k fun K20 hK20=>rg (sx 6 (t_assign (o_i (k:=.i64) (by decide)) rfl rfl) hL fun a s e_ hL=>?_)
  refine en' (hK20 _ _ ?_)
  refine wp_block ?_
  have J22 : ∀ (alone21 : Bool) (a : Act) (s : St),Has N0 36 s0 a s [(0,(Pd.rep (En.slice En.cls) list_)),(3,(Pd.row (En.int .u8) s0.w.heap.size 5 og10 out9)),(4,(Pd.rep (En.int .i64) c11)),(5,(Pd.rep En.bool alone21))] → ((ref02_Heads.j2 (ref02_Heads.l1 list_ (ref02_Heads.j1 r_) k13) out9 c11) alone21) → K19 a s.w:=by
   intro alone21 a s hL h
   unfold ref02_Heads.j2 at h
   show K19 a s.w
   refine hK19 _ _ (wp_seq_k fun K23 hK23=>?_)
   refine rg (sx 29 (t_move (o_t 5 rfl) rfl rfl) hL fun a s e_ hL=>?_)
   refine en' (hK23 _ _ ?_)
   refine cnd hL rfl (fun hb_=>?_) (fun hb_=>?_)
   ·replace h:=h.1 hb_
    obtain ⟨h24,h⟩:=h
    refine rg (sx 30 (t_move (o_t 3 rfl) rfl rfl) hL fun a s e_ hL=>?_)
    refine sx 31 (t_move (o_t 4 rfl) rfl rfl) hL fun a s e_ hL=>sx 32 (t_u8 (o_t 31 rfl) Tryz.underlying3 Tryz.underlying5 rfl rfl) hL fun a s e_ hL=>sx 33 (t_lit (xs:=[.tmp 32]) (.cons (o_t 32 rfl) .nil) Tryz.underlying26 ty5 rfl rfl (by decide) rfl rfl) hL fun a s e_ hL=>st_app (L':=[(0,(Pd.rep (En.slice En.cls) list_)),(4,(Pd.rep (En.int .i64) c11))]) 34 hL (o_t 30 rfl) (o_t 33 rfl) Tryz.underlying26 ty5 h24 rfl rfl rfl rfl (.cons (t:=0) rfl nE (.cons (t:=4) rfl nE .nil)) fun a s og25 hg_ hL=>?_
    refine sx 3 (t_assign (o_t 34 rfl) rfl rfl) hL fun a s e_ hL=>en' (hK17 _ _ ?_)
    obtain ⟨h26,h⟩:=h
    refine rg (sx 9 (t_move (o_t 4 rfl) rfl rfl) hL fun a s e_ hL=>?_)
    refine sx 10 (t_add (o_t 9 rfl) (o_i (k:=.i64) (by decide)) h26 rfl rfl) hL fun a s e_ hL=>sx 4 (t_assign (o_t 10 rfl) rfl rfl) hL fun a s e_ hL=>en' ?_
    exact hKL14 k13 a s (Nat.lt_succ_self _) ⟨(out9 ++ [c11 % 256]),(c11 + 1),og25,hL.keep (.cons (t:=0) rfl nE (.cons (t:=3) rfl (fun _ _ h_=>h_) (.cons (t:=4) rfl nE .nil))),h⟩
   ·replace h:=h.2 hb_
    refine wp_skip ?_
    show K17 a s.w
    refine hK17 _ _ ?_
    obtain ⟨h27,h⟩:=h
    refine rg (sx 9 (t_move (o_t 4 rfl) rfl rfl) hL fun a s e_ hL=>?_)
    refine sx 10 (t_add (o_t 9 rfl) (o_i (k:=.i64) (by decide)) h27 rfl rfl) hL fun a s e_ hL=>sx 4 (t_assign (o_t 10 rfl) rfl rfl) hL fun a s e_ hL=>en' ?_
    exact hKL14 k13 a s (Nat.lt_succ_self _) ⟨out9,(c11 + 1),og10,hL.keep (.cons (t:=0) rfl nE (.cons (t:=3) rfl (fun _ _ h_=>h_) (.cons (t:=4) rfl nE .nil))),h⟩
  obtain ⟨k30,h⟩:=h
  refine lpg (fun k31 a s=>∃ (alone28 : Bool) (i29 : Int),Has N0 36 s0 a s [(0,(Pd.rep (En.slice En.cls) list_)),(3,(Pd.row (En.int .u8) s0.w.heap.size 5 og10 out9)),(4,(Pd.rep (En.int .i64) c11)),(5,(Pd.rep En.bool alone28)),(6,(Pd.rep (En.int .i64) i29))] ∧ ref02_Heads.l2 list_ out9 c11 (ref02_Heads.j2 (ref02_Heads.l1 list_ (ref02_Heads.j1 r_) k13) out9 c11) k31 alone28 i29) k30 ⟨true,0,hL.keep (.cons (t:=0) rfl nE (.cons (t:=3) rfl (fun _ _ h_=>h_) (.cons (t:=4) rfl nE (.cons (t:=5) rfl nE (.cons (t:=6) rfl nE .nil))))),h⟩ ?_
  rintro k31 a s ⟨alone28,i29,hL,h⟩ KL32 hKL32
  cases k31 with
  | zero=>exact h.elim
  | succ k31=>
  unfold ref02_Heads.l2 at h
  refine wp_seq_k fun K33 hK33=>wp_seq_k fun K34 hK34=>rg (sx 11 (t_move (o_t 6 rfl) rfl rfl) hL fun a s e_ hL=>?_)
  refine sx 12 (t_move (o_t 3 rfl) rfl rfl) hL fun a s e_ hL=>sx 13 (t_leno (o_t 12 rfl) Tryz.underlying26 rfl rfl) hL fun a s e_ hL=>sx 14 (t_lss (o_t 11 rfl) (o_t 13 rfl) rfl rfl) hL fun a s e_ hL=>sx 15 (t_move (o_t 14 rfl) rfl rfl) hL fun a s e_ hL=>sx 16 (t_g1 rfl rfl rfl (fun hc_=>t_move (o_t 5 rfl) rfl rfl)) hL fun a s e_ hL=>sx 17 (t_and (o_t 15 rfl) (fun hc2_=>(o_w hc2_ 16 rfl)) rfl rfl) hL fun a s e_ hL=>en' (hK34 _ _ ?_)
  refine cnd hL rfl (fun hb_=>?_) (fun hb_=>?_)
  ·replace h:=h.1 hb_
   refine wp_skip ?_
   show K33 a s.w
   refine hK33 _ _ (wp_seq_k fun K35 hK35=>?_)
   refine wp_block ?_
   obtain ⟨e36,h37,r38,h39,h⟩:=h
   refine rg (sx 20 (t_move (o_t 0 rfl) rfl rfl) hL fun a s e_ hL=>?_)
   refine sx 21 (t_move (o_t 3 rfl) rfl rfl) hL fun a s e_ hL=>sx 22 (t_move (o_t 6 rfl) rfl rfl) hL fun a s e_ hL=>sx 23 (t_idxo (o_t 21 rfl) (o_t 22 rfl) h37 Tryz.underlying26 ty5 rfl rfl) hL fun a s e_ hL=>sx 24 (t_loado ty5 (o_t 23 rfl) rfl rfl) hL fun a s e_ hL=>sx 25 (t_move (o_t 4 rfl) rfl rfl) hL fun a s e_ hL=>sx 26 (t_u8 (o_t 25 rfl) Tryz.underlying3 Tryz.underlying5 rfl rfl) hL fun a s e_ hL=>sx 27 (t_call (ref02_like_ok h39) (xs:=[.tmp 20,.tmp 24,.tmp 26]) (.cons (o_t 20 rfl) (.cons (o_t 24 rfl) (.cons (o_t 26 rfl) .nil))) rfl rfl) hL fun a s e_ hL=>sx 28 (t_not (o_t 27 rfl) rfl rfl) hL fun a s e_ hL=>sx 5 (t_assign (o_t 28 rfl) rfl rfl) hL fun a s e_ hL=>?_
   refine en' (hK35 _ _ ?_)
   obtain ⟨h40,h⟩:=h
   refine rg (sx 18 (t_move (o_t 6 rfl) rfl rfl) hL fun a s e_ hL=>?_)
   refine sx 19 (t_add (o_t 18 rfl) (o_i (k:=.i64) (by decide)) h40 rfl rfl) hL fun a s e_ hL=>sx 6 (t_assign (o_t 19 rfl) rfl rfl) hL fun a s e_ hL=>en' ?_
   exact hKL32 k31 a s (Nat.lt_succ_self _) ⟨(!r38),(i29 + 1),hL.keep (.cons (t:=0) rfl nE (.cons (t:=3) rfl (fun _ _ h_=>h_) (.cons (t:=4) rfl nE (.cons (t:=5) rfl nE (.cons (t:=6) rfl nE .nil))))),h⟩
  ·replace h:=h.2 hb_
   refine wp_exit ?_
   exact J22 alone28 a s (hL.keep (.cons (t:=0) rfl nE (.cons (t:=3) rfl (fun _ _ h_=>h_) (.cons (t:=4) rfl nE (.cons (t:=5) rfl nE .nil))))) h
 ·replace h:=h.2 hb_
  refine wp_exit ?_
  exact J7 out9 og10 a s (hL.keep (.cons (t:=3) rfl (fun _ _ h_=>h_) .nil)) h
theorem ref02_Same_ok {a_ : (List Cl)} {b_ : (List Cl)} {r_ : Bool} (h : ref02_Same a_ b_ r_) : Fn Tryz.prog 26 [(Pd.rep (En.slice En.cls) a_),(Pd.rep (En.slice En.cls) b_)] (Rq (Pd.rep En.bool r_)):=by
 unfold ref02_Same at h
 refine fn_of Tryz.func26 rfl Tryz.ntmps26 (by rfl) (by simp) fun s0 a hL=>?_
 refine wp_seq_k fun K1 hK1=>rg (sx 4 (t_assign o_b rfl rfl) hL fun a s e_ hL=>?_)
 refine en' (hK1 _ _ ?_)
 refine wp_seq_k fun K2 hK2=>wp_seq_k fun K3 hK3=>rg (sx 6 (t_move (o_t 0 rfl) rfl rfl) hL fun a s e_ hL=>?_)
 refine sx 7 (t_len (o_t 6 rfl) Tryz.underlying36 rfl rfl) hL fun a s e_ hL=>sx 8 (t_move (o_t 1 rfl) rfl rfl) hL fun a s e_ hL=>sx 9 (t_len (o_t 8 rfl) Tryz.underlying36 rfl rfl) hL fun a s e_ hL=>sx 10 (t_nei (o_t 7 rfl) (o_t 9 rfl) rfl rfl) hL fun a s e_ hL=>en' (hK3 _ _ ?_)
 refine cnd hL rfl (fun hb_=>?_) (fun hb_=>?_)
 ·replace h:=h.1 hb_
  refine wp_seq_k fun K4 hK4=>rg (sx 4 (t_assign o_b rfl rfl) hL fun a s e_ hL=>?_)
  refine en' (hK4 _ _ ?_)
  subst h
  exact wp_ret (retq rfl hL rfl)
 ·replace h:=h.2 hb_
  refine wp_skip ?_
  show K2 a s.w
  refine hK2 _ _ (wp_seq_k fun K5 hK5=>?_)
  refine wp_seq_k fun K6 hK6=>rg (sx 5 (t_assign (o_i (k:=.i64) (by decide)) rfl rfl) hL fun a s e_ hL=>?_)
  refine en' (hK6 _ _ ?_)
  refine wp_block ?_
  have J7 : ∀ (a : Act) (s : St),Has N0 26 s0 a s [] → ((ref02_Same.j1 r_)) → K5 a s.w:=by
   intro a s hL h
   unfold ref02_Same.j1 at h
   show K5 a s.w
   refine hK5 _ _ (wp_seq_k fun K8 hK8=>?_)
   refine rg (sx 4 (t_assign o_b rfl rfl) hL fun a s e_ hL=>?_)
   refine en' (hK8 _ _ ?_)
   subst h
   exact wp_ret (retq rfl hL rfl)
  obtain ⟨k10,h⟩:=h
  refine lpg (fun k11 a s=>∃ (i9 : Int),Has N0 26 s0 a s [(0,(Pd.rep (En.slice En.cls) a_)),(1,(Pd.rep (En.slice En.cls) b_)),(5,(Pd.rep (En.int .i64) i9))] ∧ ref02_Same.l1 a_ b_ r_ (ref02_Same.j1 r_) k11 i9) k10 ⟨0,hL.keep (.cons (t:=0) rfl nE (.cons (t:=1) rfl nE (.cons (t:=5) rfl nE .nil))),h⟩ ?_
  rintro k11 a s ⟨i9,hL,h⟩ KL12 hKL12
  cases k11 with
  | zero=>exact h.elim
  | succ k11=>
  unfold ref02_Same.l1 at h
  refine wp_seq_k fun K13 hK13=>wp_seq_k fun K14 hK14=>rg (sx 11 (t_move (o_t 5 rfl) rfl rfl) hL fun a s e_ hL=>?_)
  refine sx 12 (t_move (o_t 0 rfl) rfl rfl) hL fun a s e_ hL=>sx 13 (t_len (o_t 12 rfl) Tryz.underlying36 rfl rfl) hL fun a s e_ hL=>sx 14 (t_lss (o_t 11 rfl) (o_t 13 rfl) rfl rfl) hL fun a s e_ hL=>en' (hK14 _ _ ?_)
  refine cnd hL rfl (fun hb_=>?_) (fun hb_=>?_)
  ·replace h:=h.1 hb_
   refine wp_skip ?_
   show K13 a s.w
   refine hK13 _ _ (wp_seq_k fun K15 hK15=>?_)
   refine wp_block (wp_seq_k fun K16 hK16=>?_)
   obtain ⟨e17,h18,e19,h20,h⟩:=h
   refine rda follows 9 [(Pd.rep (En.slice En.cls) a_),(Pd.rep (En.int .i64) i9),(Pd.ptr En.cls e17),(Pd.rep En.cls e17),(Pd.rep (En.slice En.cls) b_),(Pd.rep (En.int .i64) i9),(Pd.ptr En.cls e19),(Pd.rep En.cls e19),(Pd.rep En.bool (e17 != e19))] hL (by kernel_rfl) rfl rfl ?_ ?_
   ·refine AllT.cons (t_move (o_t 0 rfl) rfl rfl) ?_
    refine AllT.cons (t_move (o_t 5 rfl) rfl rfl) (AllT.cons (t_idx (o_t 17 rfl) (o_t 18 rfl) h18 Tryz.underlying36 ty51 rfl rfl) ?_)
    refine AllT.cons (t_load ty51 (o_t 19 rfl) rfl rfl) (AllT.cons (t_move (o_t 1 rfl) rfl rfl) ?_)
    refine AllT.cons (t_move (o_t 5 rfl) rfl rfl) (AllT.cons (t_idx (o_t 21 rfl) (o_t 22 rfl) h20 Tryz.underlying36 ty51 rfl rfl) ?_)
    refine AllT.cons (t_load ty51 (o_t 23 rfl) rfl rfl) (AllT.cons (t_nev eq51 (o_t 20 rfl) (o_t 24 rfl) rfl rfl) ?_)
    exact AllT.nil
   intro a s e_ hL
   refine en' (hK16 _ _ ?_)
   refine cnd hL rfl (fun hb_=>?_) (fun hb_=>?_)
   ·replace h:=h.1 hb_
    refine wp_seq_k fun K21 hK21=>rg (sx 4 (t_assign o_b rfl rfl) hL fun a s e_ hL=>?_)
    refine en' (hK21 _ _ ?_)
    subst h
    exact wp_ret (retq rfl hL rfl)
   ·replace h:=h.2 hb_
    refine wp_skip ?_
    show K15 a s.w
    refine hK15 _ _ ?_
    obtain ⟨h22,h⟩:=h
    refine rg (sx 15 (t_move (o_t 5 rfl) rfl rfl) hL fun a s e_ hL=>?_)
    refine sx 16 (t_add (o_t 15 rfl) (o_i (k:=.i64) (by decide)) h22 rfl rfl) hL fun a s e_ hL=>sx 5 (t_assign (o_t 16 rfl) rfl rfl) hL fun a s e_ hL=>en' ?_
    exact hKL12 k11 a s (Nat.lt_succ_self _) ⟨(i9 + 1),hL.keep (.cons (t:=0) rfl nE (.cons (t:=1) rfl nE (.cons (t:=5) rfl nE .nil))),h⟩
  ·replace h:=h.2 hb_
   refine wp_exit ?_
   exact J7 a s (hL.keep .nil) h
end Go.Proofs.YtahgmdbioafmbaaGreatDoor.V
namespace Go.Proofs.YtahgmdbioafmbaaGreatDoor.V
open Go
set_option linter.unusedVariables false
def ref04_moved.j1 (r_ : (List SNode)) (out5 : (List SNode)) : Prop:=r_ = out5
def ref04_moved.j2 (L1_ : (List SNode) → Int → Prop) (out9 : (List SNode)) (i11 : Int) (n30 : SNode) : Prop:=(out9.length + [n30].length ≤ 2147483648) ∧ (InR .i64 (i11 + 1)) ∧ L1_ (out9 ++ [n30]) (i11 + 1)
def ref04_moved.j3 (L1_ : (List SNode) → Int → Prop) (by_ : Int) (out9 : (List SNode)) (i11 : Int) (n25 : SNode) : Prop:=((((n25.1 == 4) || (n25.1 == 5))) = true → (InR .i64 (n25.2.2.1 + by_)) ∧ (ref04_moved.j2 (L1_) out9 i11) (n25.1,n25.2.1,n25.2.2.1 + by_,n25.2.2.2.1,n25.2.2.2.2.1,n25.2.2.2.2.2.1,n25.2.2.2.2.2.2)) ∧ ((((n25.1 == 4) || (n25.1 == 5))) = false → (ref04_moved.j2 (L1_) out9 i11) n25)
def ref04_moved.l1 (l_ : (List SNode)) (by_ : Int) (X1 : (List SNode) → Prop) : Nat → (List SNode) → Int → Prop
 | 0,_,_=>False
 | k_0 + 1,out9,i11=>((decide (i11 < (l_.length : Int))) = true → ∃ e19 : SNode,at? l_ i11 = some e19 ∧ ((decide (4 ≤ e19.1)) = true → (InR .i64 (e19.2.1 + by_)) ∧ (ref04_moved.j3 (ref04_moved.l1 l_ by_ X1 k_0) by_ out9 i11) (e19.1,e19.2.1 + by_,e19.2.2.1,e19.2.2.2.1,e19.2.2.2.2.1,e19.2.2.2.2.2.1,e19.2.2.2.2.2.2)) ∧ ((decide (4 ≤ e19.1)) = false → (ref04_moved.j3 (ref04_moved.l1 l_ by_ X1 k_0) by_ out9 i11) e19)) ∧ ((decide (i11 < (l_.length : Int))) = false → X1 out9)
def ref04_moved (l_ : (List SNode)) (by_ : Int) (r_ : (List SNode)) : Prop:=∃ k12,ref04_moved.l1 l_ by_ (ref04_moved.j1 r_) k12 ([] : (List SNode)) 0
def ref04_Wrap (kind_ : Int) (lo_ : Int) (hi_ : Int) (a_ : SDesc) (r_ : SDesc) : Prop:=∃ r6 : (List SNode),ref04_moved a_ 0 r6 ∧ (InR .i64 ((a_.length : Int) - 1)) ∧ (r6.length + [(kind_,(a_.length : Int) - 1,0,lo_,hi_,(0#256),([] : Str))].length ≤ 2147483648) ∧ r_ = r6 ++ [(kind_,(a_.length : Int) - 1,0,lo_,hi_,(0#256),([] : Str))]
end Go.Proofs.YtahgmdbioafmbaaGreatDoor.V
namespace Go.Proofs.YtahgmdbioafmbaaGreatDoor.V
open Go
set_option linter.unusedVariables false
set_option maxRecDepth 100000
theorem ref04_moved_ok {l_ : (List SNode)} {by_ : Int} {r_ : (List SNode)} (h : ref04_moved l_ by_ r_) : Fn Tryz.prog 84 [(Pd.rep (En.slice En.SNode) l_),(Pd.rep (En.int .i64) by_)] (Ro En.SNode 68 r_):=by
 unfold ref04_moved at h
 refine fn_of Tryz.func84 rfl Tryz.ntmps84 (by rfl) (by simp) fun s0 a hL=>?_
 refine wp_seq_k fun K1 hK1=>rg (sx 4 (t_assign (o_nil (E:=En.SNode) (N:=s0.w.heap.size) (te:=68)) rfl rfl) hL fun a s e_ hL=>?_)
 refine en' (hK1 _ _ ?_)
 refine wp_seq_k fun K2 hK2=>rg (sx 5 (t_assign (o_nil (E:=En.SNode) (N:=s0.w.heap.size) (te:=68)) rfl rfl) hL fun a s e_ hL=>?_)
 refine en' (hK2 _ _ ?_)
 refine wp_seq_k fun K3 hK3=>wp_seq_k fun K4 hK4=>rg (sx 6 (t_assign (o_i (k:=.i64) (by decide)) rfl rfl) hL fun a s e_ hL=>?_)
 refine en' (hK4 _ _ ?_)
 refine wp_block ?_
 have J7 : ∀ (out5 : (List SNode)) (og6 : Option Nat) (a : Act) (s : St),Has N0 44 s0 a s [(5,(Pd.row En.SNode s0.w.heap.size 68 og6 out5))] → ((ref04_moved.j1 r_) out5) → K3 a s.w:=by
  intro out5 og6 a s hL h
  unfold ref04_moved.j1 at h
  show K3 a s.w
  refine hK3 _ _ (wp_seq_k fun K8 hK8=>?_)
  refine rg (sx 43 (t_move (o_t 5 rfl) rfl rfl) hL fun a s e_ hL=>?_)
  refine sx 4 (t_assign (o_t 43 rfl) rfl rfl) hL fun a s e_ hL=>en' (hK8 _ _ ?_)
  subst h
  exact wp_ret (reto rfl hL rfl)
 obtain ⟨k12,h⟩:=h
 refine lpg (fun k13 a s=>∃ (out9 : (List SNode)) (i11 : Int) (og10 : Option Nat),Has N0 44 s0 a s [(0,(Pd.rep (En.slice En.SNode) l_)),(1,(Pd.rep (En.int .i64) by_)),(5,(Pd.row En.SNode s0.w.heap.size 68 og10 out9)),(6,(Pd.rep (En.int .i64) i11))] ∧ ref04_moved.l1 l_ by_ (ref04_moved.j1 r_) k13 out9 i11) k12 ⟨([] : (List SNode)),0,none,hL.keep (.cons (t:=0) rfl nE (.cons (t:=1) rfl nE (.cons (t:=5) rfl (fun _ _ h_=>h_) (.cons (t:=6) rfl nE .nil)))),h⟩ ?_
 rintro k13 a s ⟨out9,i11,og10,hL,h⟩ KL14 hKL14
 cases k13 with
 | zero=>exact h.elim
 | succ k13=>
 unfold ref04_moved.l1 at h
 refine wp_seq_k fun K15 hK15=>wp_seq_k fun K16 hK16=>rg (sx 8 (t_move (o_t 6 rfl) rfl rfl) hL fun a s e_ hL=>?_)
 refine sx 9 (t_move (o_t 0 rfl) rfl rfl) hL fun a s e_ hL=>sx 10 (t_len (o_t 9 rfl) Tryz.underlying22 rfl rfl) hL fun a s e_ hL=>sx 11 (t_lss (o_t 8 rfl) (o_t 10 rfl) rfl rfl) hL fun a s e_ hL=>en' (hK16 _ _ ?_)
 refine cnd hL rfl (fun hb_=>?_) (fun hb_=>?_)
 ·replace h:=h.1 hb_
  refine wp_skip ?_
  show K15 a s.w
  refine hK15 _ _ (wp_seq_k fun K17 hK17=>?_)
  refine wp_block (wp_seq_k fun K18 hK18=>?_)
  obtain ⟨e19,h20,h⟩:=h
  refine rg (sx 14 (t_move (o_t 0 rfl) rfl rfl) hL fun a s e_ hL=>?_)
  refine sx 15 (t_move (o_t 6 rfl) rfl rfl) hL fun a s e_ hL=>sx 16 (t_idx (o_t 14 rfl) (o_t 15 rfl) h20 Tryz.underlying22 ty68 rfl rfl) hL fun a s e_ hL=>sx 17 (t_load ty68 (o_t 16 rfl) rfl rfl) hL fun a s e_ hL=>?_
  have lt_d22:=hL.rlt 5 rfl
  refine st_alloc En.SNode (z:=(0,0,0,0,0,(0#256),([] : Str))) 7 hL tyz68 rfl rfl rfl rfl fun a s g21 hg_ hL=>?_
  have d22 : Dis (some g21) og10:=Dis.newg hg_ lt_d22
  refine st_stb (L':=[(0,(Pd.rep (En.slice En.SNode) l_)),(1,(Pd.rep (En.int .i64) by_)),(5,(Pd.row En.SNode s0.w.heap.size 68 og10 out9)),(6,(Pd.rep (En.int .i64) i11))]) 7 hL rfl (o_t 17 rfl) ty68 rfl rfl rfl (.cons (t:=0) rfl nE (.cons (t:=1) rfl nE (.cons (t:=5) rfl (Dis.ow (Dis.symm d22)) (.cons (t:=6) rfl nE .nil)))) fun s hL=>?_
  refine en' (hK18 _ _ ?_)
  refine wp_seq_k fun K23 hK23=>wp_seq_k fun K24 hK24=>rg (sx 18 (t_fab (off:=0) (o_t 7 rfl) Tryz.underlying68 rfl (prt_fst (prt_all _ _)) rfl ty3 rfl rfl) hL fun a s e_ hL=>?_)
  refine sx 19 (t_loado ty3 (o_t 18 rfl) rfl rfl) hL fun a s e_ hL=>sx 20 (t_geq (o_t 19 rfl) (o_i (k:=.i64) (by decide)) rfl rfl) hL fun a s e_ hL=>en' (hK24 _ _ ?_)
  have J26 : ∀ (n25 : SNode) (a : Act) (s : St),Has N0 44 s0 a s [(0,(Pd.rep (En.slice En.SNode) l_)),(1,(Pd.rep (En.int .i64) by_)),(5,(Pd.row En.SNode s0.w.heap.size 68 og10 out9)),(6,(Pd.rep (En.int .i64) i11)),(7,(Pd.box En.SNode s0.w.heap.size g21 n25))] → Dis og10 (some g21) → ((ref04_moved.j3 (ref04_moved.l1 l_ by_ (ref04_moved.j1 r_) k13) by_ out9 i11) n25) → K23 a s.w:=by
   intro n25 a s hL d27 h
   unfold ref04_moved.j3 at h
   show K23 a s.w
   refine hK23 _ _ (wp_seq_k fun K28 hK28=>?_)
   refine wp_seq_k fun K29 hK29=>rg (sx 26 (t_fab (off:=0) (o_t 7 rfl) Tryz.underlying68 rfl (prt_fst (prt_all _ _)) rfl ty3 rfl rfl) hL fun a s e_ hL=>?_)
   refine sx 27 (t_loado ty3 (o_t 26 rfl) rfl rfl) hL fun a s e_ hL=>sx 28 (t_eqi (o_t 27 rfl) (o_i (k:=.i64) (by decide)) rfl rfl) hL fun a s e_ hL=>sx 29 (t_move (o_t 28 rfl) rfl rfl) hL fun a s e_ hL=>sx 30 (t_g1 rfl rfl rfl (fun hc_=>t_fab (off:=0) (o_t 7 rfl) Tryz.underlying68 rfl (prt_fst (prt_all _ _)) rfl ty3 rfl rfl)) hL fun a s e_ hL=>sx 31 (t_g1 rfl rfl rfl (fun hc_=>t_loado ty3 (o_w hc_ 30 rfl) rfl rfl)) hL fun a s e_ hL=>sx 32 (t_g1 rfl rfl rfl (fun hc_=>t_eqi (o_w hc_ 31 rfl) (o_i (k:=.i64) (by decide)) rfl rfl)) hL fun a s e_ hL=>sx 33 (t_or (o_t 29 rfl) (fun hc2_=>(o_w hc2_ 32 rfl)) rfl rfl) hL fun a s e_ hL=>en' (hK29 _ _ ?_)
   have J31 : ∀ (n30 : SNode) (a : Act) (s : St),Has N0 44 s0 a s [(0,(Pd.rep (En.slice En.SNode) l_)),(1,(Pd.rep (En.int .i64) by_)),(5,(Pd.row En.SNode s0.w.heap.size 68 og10 out9)),(6,(Pd.rep (En.int .i64) i11)),(7,(Pd.box En.SNode s0.w.heap.size g21 n30))] → Dis og10 (some g21) → ((ref04_moved.j2 (ref04_moved.l1 l_ by_ (ref04_moved.j1 r_) k13) out9 i11) n30) → K28 a s.w:=by
    intro n30 a s hL d32 h
    unfold ref04_moved.j2 at h
    show K28 a s.w
    refine hK28 _ _ ?_
    obtain ⟨h33,h⟩:=h
    refine rg (sx 39 (t_move (o_t 5 rfl) rfl rfl) hL fun a s e_ hL=>?_)
    refine sx 40 (t_loadb ty68 (o_t 7 rfl) rfl rfl) hL fun a s e_ hL=>sx 41 (t_lit (xs:=[.tmp 40]) (.cons (o_t 40 rfl) .nil) Tryz.underlying22 ty68 rfl rfl (by decide) rfl rfl) hL fun a s e_ hL=>st_app (L':=[(0,(Pd.rep (En.slice En.SNode) l_)),(1,(Pd.rep (En.int .i64) by_)),(6,(Pd.rep (En.int .i64) i11))]) 42 hL (o_t 39 rfl) (o_t 41 rfl) Tryz.underlying22 ty68 h33 rfl rfl rfl rfl (.cons (t:=0) rfl nE (.cons (t:=1) rfl nE (.cons (t:=6) rfl nE .nil))) fun a s og34 hg_ hL=>?_
    refine sx 5 (t_assign (o_t 42 rfl) rfl rfl) hL fun a s e_ hL=>en' (hK17 _ _ ?_)
    obtain ⟨h35,h⟩:=h
    refine rg (sx 12 (t_move (o_t 6 rfl) rfl rfl) hL fun a s e_ hL=>?_)
    refine sx 13 (t_add (o_t 12 rfl) (o_i (k:=.i64) (by decide)) h35 rfl rfl) hL fun a s e_ hL=>sx 6 (t_assign (o_t 13 rfl) rfl rfl) hL fun a s e_ hL=>en' ?_
    exact hKL14 k13 a s (Nat.lt_succ_self _) ⟨(out9 ++ [n30]),(i11 + 1),og34,hL.keep (.cons (t:=0) rfl nE (.cons (t:=1) rfl nE (.cons (t:=5) rfl (fun _ _ h_=>h_) (.cons (t:=6) rfl nE .nil)))),h⟩
   refine cnd hL rfl (fun hb_=>?_) (fun hb_=>?_)
   ·replace h:=h.1 hb_
    obtain ⟨h36,h⟩:=h
    refine rg (sx 34 (t_fab (off:=2) (o_t 7 rfl) Tryz.underlying68 rfl (prt_snd (prt_snd (prt_fst (prt_all _ _)) rfl) rfl) rfl ty3 rfl rfl) hL fun a s e_ hL=>?_)
    refine sx 35 (t_loado ty3 (o_t 34 rfl) rfl rfl) hL fun a s e_ hL=>sx 36 (t_move (o_t 1 rfl) rfl rfl) hL fun a s e_ hL=>sx 37 (t_add (o_t 35 rfl) (o_t 36 rfl) h36 rfl rfl) hL fun a s e_ hL=>sx 38 (t_fab (off:=2) (o_t 7 rfl) Tryz.underlying68 rfl (prt_snd (prt_snd (prt_fst (prt_all _ _)) rfl) rfl) rfl ty3 rfl rfl) hL fun a s e_ hL=>st_stob (L':=[(0,(Pd.rep (En.slice En.SNode) l_)),(1,(Pd.rep (En.int .i64) by_)),(5,(Pd.row En.SNode s0.w.heap.size 68 og10 out9)),(6,(Pd.rep (En.int .i64) i11))]) 7 hL rfl (o_t 38 rfl) (o_t 37 rfl) (sub_snd (sub_snd (sub_fst (sub_all _ _ _)) rfl) rfl) ty3 rfl rfl rfl (.cons (t:=0) rfl nE (.cons (t:=1) rfl nE (.cons (t:=5) rfl (Dis.ow d27) (.cons (t:=6) rfl nE .nil)))) fun s hL=>?_
    refine en' ?_
    exact J31 (n25.1,n25.2.1,n25.2.2.1 + by_,n25.2.2.2.1,n25.2.2.2.2.1,n25.2.2.2.2.2.1,n25.2.2.2.2.2.2) a s (hL.keep (.cons (t:=0) rfl nE (.cons (t:=1) rfl nE (.cons (t:=5) rfl (fun _ _ h_=>h_) (.cons (t:=6) rfl nE (.cons (t:=7) rfl (fun _ _ h_=>h_) .nil)))))) d27 h
   ·replace h:=h.2 hb_
    refine wp_skip ?_
    exact J31 n25 a s (hL.keep (.cons (t:=0) rfl nE (.cons (t:=1) rfl nE (.cons (t:=5) rfl (fun _ _ h_=>h_) (.cons (t:=6) rfl nE (.cons (t:=7) rfl (fun _ _ h_=>h_) .nil)))))) d27 h
  refine cnd hL rfl (fun hb_=>?_) (fun hb_=>?_)
  ·replace h:=h.1 hb_
   obtain ⟨h37,h⟩:=h
   refine rg (sx 21 (t_fab (off:=1) (o_t 7 rfl) Tryz.underlying68 rfl (prt_snd (prt_fst (prt_all _ _)) rfl) rfl ty3 rfl rfl) hL fun a s e_ hL=>?_)
   refine sx 22 (t_loado ty3 (o_t 21 rfl) rfl rfl) hL fun a s e_ hL=>sx 23 (t_move (o_t 1 rfl) rfl rfl) hL fun a s e_ hL=>sx 24 (t_add (o_t 22 rfl) (o_t 23 rfl) h37 rfl rfl) hL fun a s e_ hL=>sx 25 (t_fab (off:=1) (o_t 7 rfl) Tryz.underlying68 rfl (prt_snd (prt_fst (prt_all _ _)) rfl) rfl ty3 rfl rfl) hL fun a s e_ hL=>st_stob (L':=[(0,(Pd.rep (En.slice En.SNode) l_)),(1,(Pd.rep (En.int .i64) by_)),(5,(Pd.row En.SNode s0.w.heap.size 68 og10 out9)),(6,(Pd.rep (En.int .i64) i11))]) 7 hL rfl (o_t 25 rfl) (o_t 24 rfl) (sub_snd (sub_fst (sub_all _ _ _)) rfl) ty3 rfl rfl rfl (.cons (t:=0) rfl nE (.cons (t:=1) rfl nE (.cons (t:=5) rfl (Dis.ow (Dis.symm d22)) (.cons (t:=6) rfl nE .nil)))) fun s hL=>?_
   refine en' ?_
   exact J26 (e19.1,e19.2.1 + by_,e19.2.2.1,e19.2.2.2.1,e19.2.2.2.2.1,e19.2.2.2.2.2.1,e19.2.2.2.2.2.2) a s (hL.keep (.cons (t:=0) rfl nE (.cons (t:=1) rfl nE (.cons (t:=5) rfl (fun _ _ h_=>h_) (.cons (t:=6) rfl nE (.cons (t:=7) rfl (fun _ _ h_=>h_) .nil)))))) (Dis.symm d22) h
  ·replace h:=h.2 hb_
   refine wp_skip ?_
   exact J26 e19 a s (hL.keep (.cons (t:=0) rfl nE (.cons (t:=1) rfl nE (.cons (t:=5) rfl (fun _ _ h_=>h_) (.cons (t:=6) rfl nE (.cons (t:=7) rfl (fun _ _ h_=>h_) .nil)))))) (Dis.symm d22) h
 ·replace h:=h.2 hb_
  refine wp_exit ?_
  exact J7 out9 og10 a s (hL.keep (.cons (t:=5) rfl (fun _ _ h_=>h_) .nil)) h
theorem ref04_Wrap_ok {kind_ : Int} {lo_ : Int} {hi_ : Int} {a_ : SDesc} {r_ : SDesc} (h : ref04_Wrap kind_ lo_ hi_ a_ r_) : Fn Tryz.prog 48 [(Pd.rep (En.int .i64) kind_),(Pd.rep (En.int .i64) lo_),(Pd.rep (En.int .i64) hi_),(Pd.rep En.SDesc a_)] (Rq (Pd.rep En.SDesc r_)):=by
 unfold ref04_Wrap at h
 refine fn_of Tryz.func48 rfl Tryz.ntmps48 (by rfl) (by simp) fun s0 a hL=>?_
 refine wp_seq_k fun K1 hK1=>rg (sx 7 (t_box (o_t 3 rfl) rfl rfl) hL fun a s e_ hL=>?_)
 refine st_alloc En.SDesc (z:=[]) 8 hL tyz24 rfl rfl rfl rfl fun a s g2 hg_ hL=>?_
 refine en' (hK1 _ _ ?_)
 refine wp_seq_k fun K3 hK3=>?_
 obtain ⟨r6,h7,h8,h11,h⟩:=h
 obtain ⟨K4,hK4,nK4,hL⟩:=hL.mark 999983
 have lt5 : ∀ k,(some g2) = some k → k < K4:=by rw [hK4]; exact hL.blt 8 rfl
 refine rda follows 12 [(Pd.ptr (En.slice En.SNode) a_),(Pd.rep (En.slice En.SNode) a_),(Pd.erow En.SNode s0.w.heap.size K4 68 r6),(Pd.rep (En.int .i64) kind_),(Pd.ptr (En.slice En.SNode) a_),(Pd.rep (En.slice En.SNode) a_),(Pd.rep (En.int .i64) (a_.length : Int)),(Pd.rep (En.int .i64) ((a_.length : Int) - 1)),(Pd.rep (En.int .i64) lo_),(Pd.rep (En.int .i64) hi_),(Pd.rep En.SNode (kind_,(a_.length : Int) - 1,0,lo_,hi_,(0#256),([] : Str))),(Pd.rep (En.slice En.SNode) [(kind_,(a_.length : Int) - 1,0,lo_,hi_,(0#256),([] : Str))])] hL (by kernel_rfl) rfl rfl ?_ ?_
 ·refine AllT.cons (t_fa (off:=0) (o_t 7 rfl) Tryz.underlying24 rfl (prt_solo (prt_all _ _)) rfl ty22 rfl rfl) ?_
  refine AllT.cons (t_load ty22 (o_t 9 rfl) rfl rfl) (AllT.cons (t_callox (K:=K4) (m:=999983) rfl nK4 (ref04_moved_ok h7) (xs:=[.tmp 10,.const (.int .i64 0)]) (.cons (o_t 10 rfl) (.cons (o_i (k:=.i64) (by decide)) .nil)) rfl rfl) ?_)
  refine AllT.cons (t_move (o_t 0 rfl) rfl rfl) (AllT.cons (t_fa (off:=0) (o_t 7 rfl) Tryz.underlying24 rfl (prt_solo (prt_all _ _)) rfl ty22 rfl rfl) ?_)
  refine AllT.cons (t_load ty22 (o_t 13 rfl) rfl rfl) (AllT.cons (t_len (o_t 14 rfl) Tryz.underlying22 rfl rfl) ?_)
  refine AllT.cons (t_sub (o_t 15 rfl) (o_i (k:=.i64) (by decide)) h8 rfl rfl) (AllT.cons (t_move (o_t 1 rfl) rfl rfl) ?_)
  refine AllT.cons (t_move (o_t 2 rfl) rfl rfl) (AllT.cons (t_build (x:=(kind_,(a_.length : Int) - 1,0,lo_,hi_,(0#256),([] : Str))) (ps:=[(0,.tmp 12),(1,.tmp 16),(3,.tmp 17),(4,.tmp 18)]) tyz68 rfl stt68 (.cons (i:=0) (o_t 12 rfl) rfl (sub_fst (sub_all _ _ _)) (.cons (i:=1) (o_t 16 rfl) rfl (sub_snd (sub_fst (sub_all _ _ _)) rfl) (.cons (i:=3) (o_t 17 rfl) rfl (sub_snd (sub_snd (sub_snd (sub_fst (sub_all _ _ _)) rfl) rfl) rfl) (.cons (i:=4) (o_t 18 rfl) rfl (sub_snd (sub_snd (sub_snd (sub_snd (sub_fst (sub_all _ _ _)) rfl) rfl) rfl) rfl) .nil)))) rfl rfl) ?_)
  refine AllT.cons (t_lit (xs:=[.tmp 19]) (.cons (o_t 19 rfl) .nil) Tryz.underlying22 ty68 rfl rfl (by decide) rfl rfl) ?_
  exact AllT.nil
 intro a s e_ hL
 obtain ⟨og9,hg_,hL⟩:=hL.openr 11 rfl
 have d10 : Dis og9 (some g2):=Dis.new hg_ lt5
 have lt_og12_0:=hL.blt 8 rfl
 refine st_app (L':=[(8,(Pd.box En.SDesc s0.w.heap.size g2 []))]) 21 hL (o_t 11 rfl) (o_t 20 rfl) Tryz.underlying22 ty68 h11 rfl rfl rfl rfl (.cons (t:=8) rfl (Dis.bx (Dis.symm d10)) .nil) fun a s og12 hg_ hL=>?_
 have d13 : Dis og12 (some g2):=Dis.app hg_ d10 lt_og12_0
 obtain ⟨s15,h14,hL⟩:=hL.freeze (L':=[(8,(Pd.box En.SDesc s0.w.heap.size g2 []))]) 21 rfl (.cons (t:=8) rfl (Dis.bx (Dis.symm d13)) .nil)
 rw [← h14]
 clear h14
 generalize s15 = s at *
 refine sx 22 (t_build (x:=r6 ++ [(kind_,(a_.length : Int) - 1,0,lo_,hi_,(0#256),([] : Str))]) (ps:=[(0,.tmp 21)]) tyz24 rfl stt24 (.cons (i:=0) (o_t 21 rfl) rfl (sub_solo (sub_all _ _ _)) .nil) rfl rfl) hL fun a s e_ hL=>st_stb (L':=[]) 8 hL rfl (o_t 22 rfl) ty24 rfl rfl rfl .nil fun s hL=>?_
 refine en' (hK3 _ _ ?_)
 subst h
 exact wp_ret (retb rfl ty24 hL rfl)
end Go.Proofs.YtahgmdbioafmbaaGreatDoor.V
namespace Go.Proofs.YtahgmdbioafmbaaGreatDoor.V
open Go
set_option linter.unusedVariables false
def item_Compare_1 (x_ : SItem) (y_ : SItem) (r_ : Int) : Prop:=∃ r3 : Int,cmp_Compare_int x_.1 y_.1 r3 ∧ ∃ r5 : Int,cmp_Compare_int x_.2.1 y_.2.1 r5 ∧ ∃ r7 : Int,cmp_Compare_int x_.2.2.1 y_.2.2.1 r7 ∧ ∃ r9 : Int,cmp_Compare_int x_.2.2.2 y_.2.2.2 r9 ∧ ∃ r11 : Int,cmp_Or_int [r3,r5,r7,r9] r11 ∧ r_ = r11
def item_Compare (a_ : (List SItem)) (b_ : (List SItem)) (r_ : Int) : Prop:=∃ r4 : Int,cmp_Compare_int (a_.length : Int) (b_.length : Int) r4 ∧ (((r4 != 0)) = true → r_ = r4) ∧ (((r4 != 0)) = false → ∃ r9 : Int,slices_CompareFunc_api_State_api_State_api_Item_api_Item a_ b_ (fun q_=>item_Compare_1 q_.1 q_.2.1 q_.2.2) r9 ∧ r_ = r9)
def item_Lower.j1 (r_ : ((List SItem) × Bool)) (out8 : (List SItem)) : Prop:=r_ = (out8,true)
def item_Lower.l1 (r3 : (List SItem)) (r_ : ((List SItem) × Bool)) (X1 : (List SItem) → Prop) : Nat → (List SItem) → Int → Prop
 | 0,_,_=>False
 | k_0 + 1,out12,v14=>((decide (v14 < (r3.length : Int))) = true → ∃ e22 : SItem,at? out12 v14 = some e22 ∧ (((e22.1 != 5)) = true → (InR .i64 (v14 + 1)) ∧ item_Lower.l1 r3 r_ X1 k_0 out12 (v14 + 1)) ∧ (((e22.1 != 5)) = false → ((decide (e22.2.2.1 ≤ 0)) = true → r_ = (([] : (List SItem)),false)) ∧ ((decide (e22.2.2.1 ≤ 0)) = false → ∃ e32 : SItem,at? out12 v14 = some e32 ∧ (InR .i64 (e32.2.2.1 - 1)) ∧ ∃ e35 : SItem,at? out12 v14 = some e35 ∧ (InR .i64 (v14 + 1)) ∧ item_Lower.l1 r3 r_ X1 k_0 (out12.set (v14 : Int).toNat (e35.1,e35.2.1,e32.2.2.1 - 1,e35.2.2.2)) (v14 + 1)))) ∧ ((decide (v14 < (r3.length : Int))) = false → X1 out12)
def item_Lower (s_ : (List SItem)) (r_ : ((List SItem) × Bool)) : Prop:=∃ r3 : (List SItem),slices_Clone_api_State_api_Item s_ r3 ∧ ∃ k15,item_Lower.l1 r3 r_ (item_Lower.j1 r_) k15 r3 0
def item_Start (d_ : SDesc) (r_ : (List SItem)) : Prop:=(InR .i64 ((d_.length : Int) - 1)) ∧ r_ = [(1,(d_.length : Int) - 1,0,0)]
def ref13_numbers.j1 (r_ : (List Int)) (out6 : (List Int)) : Prop:=r_ = out6
def ref13_numbers.l1 (s_ : (List SItem)) (X1 : (List Int) → Prop) : Nat → (List Int) → Int → Prop
 | 0,_,_=>False
 | k_0 + 1,out10,i12=>((decide (i12 < (s_.length : Int))) = true → ∃ e19 : SItem,at? s_ i12 = some e19 ∧ ∃ e21 : SItem,at? s_ i12 = some e21 ∧ ∃ e23 : SItem,at? s_ i12 = some e23 ∧ ∃ e25 : SItem,at? s_ i12 = some e25 ∧ (out10.length + [e19.1,e21.2.1,e23.2.2.1,e25.2.2.2].length ≤ 2147483648) ∧ (InR .i64 (i12 + 1)) ∧ ref13_numbers.l1 s_ X1 k_0 (out10 ++ [e19.1,e21.2.1,e23.2.2.1,e25.2.2.2]) (i12 + 1)) ∧ ((decide (i12 < (s_.length : Int))) = false → X1 out10)
def ref13_numbers (s_ : (List SItem)) (r_ : (List Int)) : Prop:=∃ k13,ref13_numbers.l1 s_ (ref13_numbers.j1 r_) k13 [(s_.length : Int)] 0
def ref13_Compare.j1 (r_ : Int) : Prop:=r_ = 0
def ref13_Compare.l1 (r3 : (List Int)) (r6 : (List Int)) (r_ : Int) (X1 : Prop) : Nat → Int → Prop
 | 0,_=>False
 | k_0 + 1,i12=>∃ b18 : Bool,b18 = ((decide (i12 < (r3.length : Int))) && (decide (i12 < (r6.length : Int)))) ∧ ((b18) = true → ∃ e23 : Int,at? r3 i12 = some e23 ∧ ∃ e25 : Int,at? r6 i12 = some e25 ∧ ((decide (e23 < e25)) = true → r_ = (-1)) ∧ ((decide (e23 < e25)) = false → ∃ e29 : Int,at? r3 i12 = some e29 ∧ ∃ e31 : Int,at? r6 i12 = some e31 ∧ ((decide (e31 < e29)) = true → r_ = 1) ∧ ((decide (e31 < e29)) = false → (InR .i64 (i12 + 1)) ∧ ref13_Compare.l1 r3 r6 r_ X1 k_0 (i12 + 1)))) ∧ ((b18) = false → X1)
def ref13_Compare (a_ : (List SItem)) (b_ : (List SItem)) (r_ : Int) : Prop:=∃ r3 : (List Int),ref13_numbers a_ r3 ∧ ∃ r6 : (List Int),ref13_numbers b_ r6 ∧ ∃ k13,ref13_Compare.l1 r3 r6 r_ (ref13_Compare.j1 r_) k13 0
def ref13_Same (a_ : (List SItem)) (b_ : (List SItem)) (r_ : Bool) : Prop:=∃ r3 : Int,ref13_Compare a_ b_ r3 ∧ r_ = (r3 == 0)
def ref13_Lower.j1 (r_ : ((List SItem) × Bool)) (out5 : (List SItem)) : Prop:=r_ = (out5,true)
def ref13_Lower.j2 (L1_ : (List SItem) → Int → Prop) (out9 : (List SItem)) (i11 : Int) (x25 : SItem) : Prop:=(out9.length + [x25].length ≤ 2147483648) ∧ (InR .i64 (i11 + 1)) ∧ L1_ (out9 ++ [x25]) (i11 + 1)
def ref13_Lower.l1 (s_ : (List SItem)) (r_ : ((List SItem) × Bool)) (X1 : (List SItem) → Prop) : Nat → (List SItem) → Int → Prop
 | 0,_,_=>False
 | k_0 + 1,out9,i11=>((decide (i11 < (s_.length : Int))) = true → ∃ e19 : SItem,at? s_ i11 = some e19 ∧ (((e19.1 == 5)) = true → ((decide (e19.2.2.1 ≤ 0)) = true → r_ = (([] : (List SItem)),false)) ∧ ((decide (e19.2.2.1 ≤ 0)) = false → (InR .i64 (e19.2.2.1 - 1)) ∧ (ref13_Lower.j2 (ref13_Lower.l1 s_ r_ X1 k_0) out9 i11) (e19.1,e19.2.1,e19.2.2.1 - 1,e19.2.2.2))) ∧ (((e19.1 == 5)) = false → (ref13_Lower.j2 (ref13_Lower.l1 s_ r_ X1 k_0) out9 i11) e19)) ∧ ((decide (i11 < (s_.length : Int))) = false → X1 out9)
def ref13_Lower (s_ : (List SItem)) (r_ : ((List SItem) × Bool)) : Prop:=∃ k12,ref13_Lower.l1 s_ r_ (ref13_Lower.j1 r_) k12 ([] : (List SItem)) 0
end Go.Proofs.YtahgmdbioafmbaaGreatDoor.V
namespace Go.Proofs.YtahgmdbioafmbaaGreatDoor.V
open Go
set_option linter.unusedVariables false
set_option maxRecDepth 100000
theorem item_Lower_ok {s_ : (List SItem)} {r_ : ((List SItem) × Bool)} (h : item_Lower s_ r_) : Fn Tryz.prog 118 [(Pd.rep (En.slice En.SItem) s_)] (Ro2 En.SItem 77 r_.1 (Pd.rep En.bool r_.2)):=by
 unfold item_Lower at h
 refine fn_of Tryz.func118 rfl Tryz.ntmps118 (by rfl) (by simp) fun s0 a hL=>?_
 refine wp_seq_k fun K1 hK1=>rg (sx 2 (t_assign (o_nil (E:=En.SItem) (N:=s0.w.heap.size) (te:=77)) rfl rfl) hL fun a s e_ hL=>?_)
 refine sx 3 (t_assign o_b rfl rfl) hL fun a s e_ hL=>en' (hK1 _ _ ?_)
 refine wp_seq_k fun K2 hK2=>?_
 obtain ⟨r3,h4,h⟩:=h
 refine rg (sx 7 (t_move (o_t 0 rfl) rfl rfl) hL fun a s e_ hL=>?_)
 refine st_callo 8 hL (slices_Clone_api_State_api_Item_ok h4) (xs:=[.tmp 7]) (.cons (o_t 7 rfl) .nil) rfl rfl rfl rfl fun a s og5 hg_ hL=>?_
 refine sx 4 (t_assign (o_t 8 rfl) rfl rfl) hL fun a s e_ hL=>en' (hK2 _ _ ?_)
 refine wp_seq_k fun K6 hK6=>wp_seq_k fun K7 hK7=>rg (sx 9 (t_move (o_t 4 rfl) rfl rfl) hL fun a s e_ hL=>?_)
 refine sx 10 (t_leno (o_t 9 rfl) Tryz.underlying47 rfl rfl) hL fun a s e_ hL=>sx 11 (t_move (o_i (k:=.i64) (by decide)) rfl rfl) hL fun a s e_ hL=>en' (hK7 _ _ ?_)
 refine wp_block ?_
 have J10 : ∀ (out8 : (List SItem)) (og9 : Option Nat) (a : Act) (s : St),Has N0 32 s0 a s [(4,(Pd.row En.SItem s0.w.heap.size 77 og9 out8))] → ((item_Lower.j1 r_) out8) → K6 a s.w:=by
  intro out8 og9 a s hL h
  unfold item_Lower.j1 at h
  show K6 a s.w
  refine hK6 _ _ (wp_seq_k fun K11 hK11=>?_)
  refine rg (sx 31 (t_move (o_t 4 rfl) rfl rfl) hL fun a s e_ hL=>?_)
  refine sx 2 (t_assign (o_t 31 rfl) rfl rfl) hL fun a s e_ hL=>sx 3 (t_assign o_b rfl rfl) hL fun a s e_ hL=>en' (hK11 _ _ ?_)
  subst h
  exact wp_ret (reto2 rfl hL rfl rfl)
 obtain ⟨k15,h⟩:=h
 refine lpg (fun k16 a s=>∃ (out12 : (List SItem)) (v14 : Int) (og13 : Option Nat),Has N0 32 s0 a s [(4,(Pd.row En.SItem s0.w.heap.size 77 og13 out12)),(9,(Pd.row En.SItem s0.w.heap.size 77 og13 out12)),(10,(Pd.rep (En.int .i64) (r3.length : Int))),(11,(Pd.rep (En.int .i64) v14))] ∧ item_Lower.l1 r3 r_ (item_Lower.j1 r_) k16 out12 v14) k15 ⟨r3,0,og5,hL.keep (.cons (t:=4) rfl (fun _ _ h_=>h_) (.cons (t:=9) rfl (fun _ _ h_=>h_) (.cons (t:=10) rfl nE (.cons (t:=11) rfl nE .nil)))),h⟩ ?_
 rintro k16 a s ⟨out12,v14,og13,hL,h⟩ KL17 hKL17
 cases k16 with
 | zero=>exact h.elim
 | succ k16=>
 unfold item_Lower.l1 at h
 refine wp_seq_k fun K18 hK18=>rg (sx 12 (t_lss (o_t 11 rfl) (o_t 10 rfl) rfl rfl) hL fun a s e_ hL=>?_)
 refine en' (hK18 _ _ ?_)
 refine wp_seq_k fun K19 hK19=>cnd hL rfl (fun hb_=>?_) (fun hb_=>?_)
 ·replace h:=h.1 hb_
  refine wp_skip ?_
  show K19 a s.w
  refine hK19 _ _ (wp_seq_k fun K20 hK20=>?_)
  refine wp_block (wp_seq_k fun K21 hK21=>?_)
  obtain ⟨e22,h23,h⟩:=h
  refine rg (sx 13 (t_move (o_t 11 rfl) rfl rfl) hL fun a s e_ hL=>?_)
  refine sx 14 (t_idxo (o_t 9 rfl) (o_t 11 rfl) h23 Tryz.underlying47 ty77 rfl rfl) hL fun a s e_ hL=>sx 15 (t_loado ty77 (o_t 14 rfl) rfl rfl) hL fun a s e_ hL=>?_
  have lt_d25:=hL.rlt 4 rfl
  refine st_alloc En.SItem (z:=(0,0,0,0)) 6 hL tyz77 rfl rfl rfl rfl fun a s g24 hg_ hL=>?_
  have d25 : Dis (some g24) og13:=Dis.newg hg_ lt_d25
  refine sx 5 (t_assign (o_t 13 rfl) rfl rfl) hL fun a s e_ hL=>st_stb (L':=[(4,(Pd.row En.SItem s0.w.heap.size 77 og13 out12)),(5,(Pd.rep (En.int .i64) v14)),(9,(Pd.row En.SItem s0.w.heap.size 77 og13 out12)),(10,(Pd.rep (En.int .i64) (r3.length : Int))),(11,(Pd.rep (En.int .i64) v14))]) 6 hL rfl (o_t 15 rfl) ty77 rfl rfl rfl (.cons (t:=4) rfl (Dis.ow (Dis.symm d25)) (.cons (t:=5) rfl nE (.cons (t:=9) rfl (Dis.ow (Dis.symm d25)) (.cons (t:=10) rfl nE (.cons (t:=11) rfl nE .nil))))) fun s hL=>?_
  refine en' (hK21 _ _ ?_)
  refine wp_seq_k fun K26 hK26=>wp_seq_k fun K27 hK27=>rg (sx 16 (t_fab (off:=0) (o_t 6 rfl) Tryz.underlying77 rfl (prt_fst (prt_all _ _)) rfl ty3 rfl rfl) hL fun a s e_ hL=>?_)
  refine sx 17 (t_loado ty3 (o_t 16 rfl) rfl rfl) hL fun a s e_ hL=>sx 18 (t_nei (o_t 17 rfl) (o_i (k:=.i64) (by decide)) rfl rfl) hL fun a s e_ hL=>en' (hK27 _ _ ?_)
  refine cnd hL rfl (fun hb_=>?_) (fun hb_=>?_)
  ·replace h:=h.1 hb_
   refine wp_exit ?_
   show K20 a s.w
   refine hK20 _ _ ?_
   obtain ⟨h28,h⟩:=h
   refine rg (sx 30 (t_add (o_t 11 rfl) (o_i (k:=.i64) (by decide)) h28 rfl rfl) hL fun a s e_ hL=>?_)
   refine sx 11 (t_move (o_t 30 rfl) rfl rfl) hL fun a s e_ hL=>en' ?_
   exact hKL17 k16 a s (Nat.lt_succ_self _) ⟨out12,(v14 + 1),og13,hL.keep (.cons (t:=4) rfl (fun _ _ h_=>h_) (.cons (t:=9) rfl (fun _ _ h_=>h_) (.cons (t:=10) rfl nE (.cons (t:=11) rfl nE .nil)))),h⟩
  ·replace h:=h.2 hb_
   refine wp_skip ?_
   show K26 a s.w
   refine hK26 _ _ (wp_seq_k fun K29 hK29=>?_)
   refine wp_seq_k fun K30 hK30=>rg (sx 19 (t_fab (off:=2) (o_t 6 rfl) Tryz.underlying77 rfl (prt_snd (prt_snd (prt_fst (prt_all _ _)) rfl) rfl) rfl ty3 rfl rfl) hL fun a s e_ hL=>?_)
   refine sx 20 (t_loado ty3 (o_t 19 rfl) rfl rfl) hL fun a s e_ hL=>sx 21 (t_leq (o_t 20 rfl) (o_i (k:=.i64) (by decide)) rfl rfl) hL fun a s e_ hL=>en' (hK30 _ _ ?_)
   refine cnd hL rfl (fun hb_=>?_) (fun hb_=>?_)
   ·replace h:=h.1 hb_
    refine wp_seq_k fun K31 hK31=>rg (sx 2 (t_assign (o_nil (E:=En.SItem) (N:=s0.w.heap.size) (te:=77)) rfl rfl) hL fun a s e_ hL=>?_)
    refine sx 3 (t_assign o_b rfl rfl) hL fun a s e_ hL=>en' (hK31 _ _ ?_)
    subst h
    exact wp_ret (reto2 rfl hL rfl rfl)
   ·replace h:=h.2 hb_
    refine wp_skip ?_
    show K29 a s.w
    refine hK29 _ _ ?_
    obtain ⟨e32,h33,h34,e35,h36,h⟩:=h
    refine rg (sx 22 (t_move (o_t 4 rfl) rfl rfl) hL fun a s e_ hL=>?_)
    refine sx 23 (t_move (o_t 5 rfl) rfl rfl) hL fun a s e_ hL=>sx 24 (t_idxo (o_t 22 rfl) (o_t 23 rfl) h33 Tryz.underlying47 ty77 rfl rfl) hL fun a s e_ hL=>sx 25 (t_fao (off:=2) (o_t 24 rfl) Tryz.underlying77 rfl (prt_snd (prt_snd (prt_fst (prt_all _ _)) rfl) rfl) rfl ty3 rfl rfl) hL fun a s e_ hL=>sx 26 (t_loado ty3 (o_t 25 rfl) rfl rfl) hL fun a s e_ hL=>sx 27 (t_sub (o_t 26 rfl) (o_i (k:=.i64) (by decide)) h34 rfl rfl) hL fun a s e_ hL=>sx 28 (t_idxo (o_t 22 rfl) (o_t 23 rfl) h36 Tryz.underlying47 ty77 rfl rfl) hL fun a s e_ hL=>sx 29 (t_fao (off:=2) (o_t 28 rfl) Tryz.underlying77 rfl (prt_snd (prt_snd (prt_fst (prt_all _ _)) rfl) rfl) rfl ty3 rfl rfl) hL fun a s e_ hL=>st_stor (L':=[(4,(Pd.row En.SItem s0.w.heap.size 77 og13 (out12.set (v14 : Int).toNat (e35.1,e35.2.1,e32.2.2.1 - 1,e35.2.2.2)))),(9,(Pd.row En.SItem s0.w.heap.size 77 og13 (out12.set (v14 : Int).toNat (e35.1,e35.2.1,e32.2.2.1 - 1,e35.2.2.2)))),(10,(Pd.rep (En.int .i64) (r3.length : Int))),(11,(Pd.rep (En.int .i64) v14))]) (off:=2) 4 hL rfl h36 (o_t 29 rfl) (o_t 27 rfl) (sub_snd (sub_snd (sub_fst (sub_all _ _ _)) rfl) rfl) ty3 rfl rfl rfl (.turn (t:=4) rfl (.turn (t:=9) rfl (.cons (t:=10) rfl nE (.cons (t:=11) rfl nE .nil)))) fun s hL=>?_
    refine en' (hK20 _ _ ?_)
    obtain ⟨h37,h⟩:=h
    refine rg (sx 30 (t_add (o_t 11 rfl) (o_i (k:=.i64) (by decide)) h37 rfl rfl) hL fun a s e_ hL=>?_)
    refine sx 11 (t_move (o_t 30 rfl) rfl rfl) hL fun a s e_ hL=>en' ?_
    exact hKL17 k16 a s (Nat.lt_succ_self _) ⟨(out12.set (v14 : Int).toNat (e35.1,e35.2.1,e32.2.2.1 - 1,e35.2.2.2)),(v14 + 1),og13,hL.keep (.cons (t:=4) rfl (fun _ _ h_=>h_) (.cons (t:=9) rfl (fun _ _ h_=>h_) (.cons (t:=10) rfl nE (.cons (t:=11) rfl nE .nil)))),h⟩
 ·replace h:=h.2 hb_
  refine wp_exit ?_
  exact J10 out12 og13 a s (hL.keep (.cons (t:=4) rfl (fun _ _ h_=>h_) .nil)) h
theorem item_Start_ok {d_ : SDesc} {r_ : (List SItem)} (h : item_Start d_ r_) : Fn Tryz.prog 54 [(Pd.rep En.SDesc d_)] (Ro En.SItem 77 r_):=by
 unfold item_Start at h
 refine fn_of Tryz.func54 rfl Tryz.ntmps54 (by rfl) (by simp) fun s0 a hL=>?_
 refine wp_seq_k fun K1 hK1=>rg (sx 1 (t_box (o_t 0 rfl) rfl rfl) hL fun a s e_ hL=>?_)
 refine sx 2 (t_assign (o_nil (E:=En.SItem) (N:=s0.w.heap.size) (te:=77)) rfl rfl) hL fun a s e_ hL=>en' (hK1 _ _ ?_)
 refine wp_seq_k fun K2 hK2=>?_
 obtain ⟨h3,h⟩:=h
 refine rg (sx 3 (t_fa (off:=0) (o_t 1 rfl) Tryz.underlying24 rfl (prt_solo (prt_all _ _)) rfl ty22 rfl rfl) hL fun a s e_ hL=>?_)
 refine sx 4 (t_load ty22 (o_t 3 rfl) rfl rfl) hL fun a s e_ hL=>sx 5 (t_len (o_t 4 rfl) Tryz.underlying22 rfl rfl) hL fun a s e_ hL=>sx 6 (t_sub (o_t 5 rfl) (o_i (k:=.i64) (by decide)) h3 rfl rfl) hL fun a s e_ hL=>sx 7 (t_build (x:=(1,(d_.length : Int) - 1,0,0)) (ps:=[(0,.const (.int .i64 1)),(1,.tmp 6)]) tyz77 rfl stt77 (.cons (i:=0) (o_i (k:=.i64) (by decide)) rfl (sub_fst (sub_all _ _ _)) (.cons (i:=1) (o_t 6 rfl) rfl (sub_snd (sub_fst (sub_all _ _ _)) rfl) .nil)) rfl rfl) hL fun a s e_ hL=>st_lito (xs:=[.tmp 7]) 8 hL (.cons (o_t 7 rfl) .nil) Tryz.underlying47 ty77 rfl rfl (by decide) rfl rfl rfl rfl fun a s g4 hg_ hL=>?_
 refine sx 2 (t_assign (o_t 8 rfl) rfl rfl) hL fun a s e_ hL=>en' (hK2 _ _ ?_)
 subst h
 exact wp_ret (reto rfl hL rfl)
theorem ref13_numbers_ok {s_ : (List SItem)} {r_ : (List Int)} (h : ref13_numbers s_ r_) : Fn Tryz.prog 88 [(Pd.rep (En.slice En.SItem) s_)] (Ro (En.int .i64) 3 r_):=by
 unfold ref13_numbers at h
 refine fn_of Tryz.func88 rfl Tryz.ntmps88 (by rfl) (by simp) fun s0 a hL=>?_
 refine wp_seq_k fun K1 hK1=>rg (sx 2 (t_assign (o_nil (E:=(En.int .i64)) (N:=s0.w.heap.size) (te:=3)) rfl rfl) hL fun a s e_ hL=>?_)
 refine en' (hK1 _ _ ?_)
 refine wp_seq_k fun K2 hK2=>rg (sx 5 (t_move (o_t 0 rfl) rfl rfl) hL fun a s e_ hL=>?_)
 refine sx 6 (t_len (o_t 5 rfl) Tryz.underlying47 rfl rfl) hL fun a s e_ hL=>st_lito (xs:=[.tmp 6]) 7 hL (.cons (o_t 6 rfl) .nil) Tryz.underlying91 ty3 rfl rfl (by decide) rfl rfl rfl rfl fun a s g3 hg_ hL=>?_
 refine sx 3 (t_assign (o_t 7 rfl) rfl rfl) hL fun a s e_ hL=>en' (hK2 _ _ ?_)
 refine wp_seq_k fun K4 hK4=>wp_seq_k fun K5 hK5=>rg (sx 4 (t_assign (o_i (k:=.i64) (by decide)) rfl rfl) hL fun a s e_ hL=>?_)
 refine en' (hK5 _ _ ?_)
 refine wp_block ?_
 have J8 : ∀ (out6 : (List Int)) (og7 : Option Nat) (a : Act) (s : St),Has N0 38 s0 a s [(3,(Pd.row (En.int .i64) s0.w.heap.size 3 og7 out6))] → ((ref13_numbers.j1 r_) out6) → K4 a s.w:=by
  intro out6 og7 a s hL h
  unfold ref13_numbers.j1 at h
  show K4 a s.w
  refine hK4 _ _ (wp_seq_k fun K9 hK9=>?_)
  refine rg (sx 37 (t_move (o_t 3 rfl) rfl rfl) hL fun a s e_ hL=>?_)
  refine sx 2 (t_assign (o_t 37 rfl) rfl rfl) hL fun a s e_ hL=>en' (hK9 _ _ ?_)
  subst h
  exact wp_ret (reto rfl hL rfl)
 obtain ⟨k13,h⟩:=h
 refine lpg (fun k14 a s=>∃ (out10 : (List Int)) (i12 : Int) (og11 : Option Nat),Has N0 38 s0 a s [(0,(Pd.rep (En.slice En.SItem) s_)),(3,(Pd.row (En.int .i64) s0.w.heap.size 3 og11 out10)),(4,(Pd.rep (En.int .i64) i12))] ∧ ref13_numbers.l1 s_ (ref13_numbers.j1 r_) k14 out10 i12) k13 ⟨[(s_.length : Int)],0,(some g3),hL.keep (.cons (t:=0) rfl nE (.cons (t:=3) rfl (fun _ _ h_=>h_) (.cons (t:=4) rfl nE .nil))),h⟩ ?_
 rintro k14 a s ⟨out10,i12,og11,hL,h⟩ KL15 hKL15
 cases k14 with
 | zero=>exact h.elim
 | succ k14=>
 unfold ref13_numbers.l1 at h
 refine wp_seq_k fun K16 hK16=>wp_seq_k fun K17 hK17=>rg (sx 8 (t_move (o_t 4 rfl) rfl rfl) hL fun a s e_ hL=>?_)
 refine sx 9 (t_move (o_t 0 rfl) rfl rfl) hL fun a s e_ hL=>sx 10 (t_len (o_t 9 rfl) Tryz.underlying47 rfl rfl) hL fun a s e_ hL=>sx 11 (t_lss (o_t 8 rfl) (o_t 10 rfl) rfl rfl) hL fun a s e_ hL=>en' (hK17 _ _ ?_)
 refine cnd hL rfl (fun hb_=>?_) (fun hb_=>?_)
 ·replace h:=h.1 hb_
  refine wp_skip ?_
  show K16 a s.w
  refine hK16 _ _ (wp_seq_k fun K18 hK18=>?_)
  refine wp_block ?_
  obtain ⟨e19,h20,e21,h22,e23,h24,e25,h26,h27,h⟩:=h
  refine rda follows 22 [(Pd.row (En.int .i64) s0.w.heap.size 3 og11 out10),(Pd.rep (En.slice En.SItem) s_),(Pd.rep (En.int .i64) i12),(Pd.ptr En.SItem e19),(Pd.ptr (En.int .i64) e19.1),(Pd.rep (En.int .i64) e19.1),(Pd.rep (En.slice En.SItem) s_),(Pd.rep (En.int .i64) i12),(Pd.ptr En.SItem e21),(Pd.ptr (En.int .i64) e21.2.1),(Pd.rep (En.int .i64) e21.2.1),(Pd.rep (En.slice En.SItem) s_),(Pd.rep (En.int .i64) i12),(Pd.ptr En.SItem e23),(Pd.ptr (En.int .i64) e23.2.2.1),(Pd.rep (En.int .i64) e23.2.2.1),(Pd.rep (En.slice En.SItem) s_),(Pd.rep (En.int .i64) i12),(Pd.ptr En.SItem e25),(Pd.ptr (En.int .i64) e25.2.2.2),(Pd.rep (En.int .i64) e25.2.2.2),(Pd.rep (En.slice (En.int .i64)) [e19.1,e21.2.1,e23.2.2.1,e25.2.2.2])] hL (by kernel_rfl) rfl rfl ?_ ?_
  ·refine AllT.cons (t_move (o_t 3 rfl) rfl rfl) ?_
   refine AllT.cons (t_move (o_t 0 rfl) rfl rfl) (AllT.cons (t_move (o_t 4 rfl) rfl rfl) ?_)
   refine AllT.cons (t_idx (o_t 15 rfl) (o_t 16 rfl) h20 Tryz.underlying47 ty77 rfl rfl) (AllT.cons (t_fa (off:=0) (o_t 17 rfl) Tryz.underlying77 rfl (prt_fst (prt_all _ _)) rfl ty3 rfl rfl) ?_)
   refine AllT.cons (t_load ty3 (o_t 18 rfl) rfl rfl) (AllT.cons (t_move (o_t 0 rfl) rfl rfl) ?_)
   refine AllT.cons (t_move (o_t 4 rfl) rfl rfl) (AllT.cons (t_idx (o_t 20 rfl) (o_t 21 rfl) h22 Tryz.underlying47 ty77 rfl rfl) ?_)
   refine AllT.cons (t_fa (off:=1) (o_t 22 rfl) Tryz.underlying77 rfl (prt_snd (prt_fst (prt_all _ _)) rfl) rfl ty3 rfl rfl) (AllT.cons (t_load ty3 (o_t 23 rfl) rfl rfl) ?_)
   refine AllT.cons (t_move (o_t 0 rfl) rfl rfl) (AllT.cons (t_move (o_t 4 rfl) rfl rfl) ?_)
   refine AllT.cons (t_idx (o_t 25 rfl) (o_t 26 rfl) h24 Tryz.underlying47 ty77 rfl rfl) (AllT.cons (t_fa (off:=2) (o_t 27 rfl) Tryz.underlying77 rfl (prt_snd (prt_snd (prt_fst (prt_all _ _)) rfl) rfl) rfl ty3 rfl rfl) ?_)
   refine AllT.cons (t_load ty3 (o_t 28 rfl) rfl rfl) (AllT.cons (t_move (o_t 0 rfl) rfl rfl) ?_)
   refine AllT.cons (t_move (o_t 4 rfl) rfl rfl) (AllT.cons (t_idx (o_t 30 rfl) (o_t 31 rfl) h26 Tryz.underlying47 ty77 rfl rfl) ?_)
   refine AllT.cons (t_fa (off:=3) (o_t 32 rfl) Tryz.underlying77 rfl (prt_snd (prt_snd (prt_snd (prt_all _ _) rfl) rfl) rfl) rfl ty3 rfl rfl) (AllT.cons (t_load ty3 (o_t 33 rfl) rfl rfl) ?_)
   refine AllT.cons (t_lit (xs:=[.tmp 19,.tmp 24,.tmp 29,.tmp 34]) (.cons (o_t 19 rfl) (.cons (o_t 24 rfl) (.cons (o_t 29 rfl) (.cons (o_t 34 rfl) .nil)))) Tryz.underlying91 ty3 rfl rfl (by decide) rfl rfl) ?_
   exact AllT.nil
  intro a s e_ hL
  refine st_app (L':=[(0,(Pd.rep (En.slice En.SItem) s_)),(4,(Pd.rep (En.int .i64) i12))]) 36 hL (o_t 14 rfl) (o_t 35 rfl) Tryz.underlying91 ty3 h27 rfl rfl rfl rfl (.cons (t:=0) rfl nE (.cons (t:=4) rfl nE .nil)) fun a s og28 hg_ hL=>?_
  refine sx 3 (t_assign (o_t 36 rfl) rfl rfl) hL fun a s e_ hL=>en' (hK18 _ _ ?_)
  obtain ⟨h29,h⟩:=h
  refine rg (sx 12 (t_move (o_t 4 rfl) rfl rfl) hL fun a s e_ hL=>?_)
  refine sx 13 (t_add (o_t 12 rfl) (o_i (k:=.i64) (by decide)) h29 rfl rfl) hL fun a s e_ hL=>sx 4 (t_assign (o_t 13 rfl) rfl rfl) hL fun a s e_ hL=>en' ?_
  exact hKL15 k14 a s (Nat.lt_succ_self _) ⟨(out10 ++ [e19.1,e21.2.1,e23.2.2.1,e25.2.2.2]),(i12 + 1),og28,hL.keep (.cons (t:=0) rfl nE (.cons (t:=3) rfl (fun _ _ h_=>h_) (.cons (t:=4) rfl nE .nil))),h⟩
 ·replace h:=h.2 hb_
  refine wp_exit ?_
  exact J8 out10 og11 a s (hL.keep (.cons (t:=3) rfl (fun _ _ h_=>h_) .nil)) h
theorem ref13_Compare_ok {a_ : (List SItem)} {b_ : (List SItem)} {r_ : Int} (h : ref13_Compare a_ b_ r_) : Fn Tryz.prog 52 [(Pd.rep (En.slice En.SItem) a_),(Pd.rep (En.slice En.SItem) b_)] (Rq (Pd.rep (En.int .i64) r_)):=by
 unfold ref13_Compare at h
 refine fn_of Tryz.func52 rfl Tryz.ntmps52 (by rfl) (by simp) fun s0 a hL=>?_
 refine wp_seq_k fun K1 hK1=>rg (sx 4 (t_assign (o_i (k:=.i64) (by decide)) rfl rfl) hL fun a s e_ hL=>?_)
 refine en' (hK1 _ _ ?_)
 refine wp_seq_k fun K2 hK2=>?_
 obtain ⟨r3,h4,h⟩:=h
 refine rg (sx 8 (t_move (o_t 0 rfl) rfl rfl) hL fun a s e_ hL=>?_)
 refine sx 9 (t_call ((ref13_numbers_ok h4).frz) (xs:=[.tmp 8]) (.cons (o_t 8 rfl) .nil) rfl rfl) hL fun a s e_ hL=>sx 5 (t_assign (o_t 9 rfl) rfl rfl) hL fun a s e_ hL=>en' (hK2 _ _ ?_)
 refine wp_seq_k fun K5 hK5=>?_
 obtain ⟨r6,h7,h⟩:=h
 refine rg (sx 10 (t_move (o_t 1 rfl) rfl rfl) hL fun a s e_ hL=>?_)
 refine sx 11 (t_call ((ref13_numbers_ok h7).frz) (xs:=[.tmp 10]) (.cons (o_t 10 rfl) .nil) rfl rfl) hL fun a s e_ hL=>sx 6 (t_assign (o_t 11 rfl) rfl rfl) hL fun a s e_ hL=>en' (hK5 _ _ ?_)
 refine wp_seq_k fun K8 hK8=>wp_seq_k fun K9 hK9=>rg (sx 7 (t_assign (o_i (k:=.i64) (by decide)) rfl rfl) hL fun a s e_ hL=>?_)
 refine en' (hK9 _ _ ?_)
 refine wp_block ?_
 have J10 : ∀ (a : Act) (s : St),Has N0 42 s0 a s [] → ((ref13_Compare.j1 r_)) → K8 a s.w:=by
  intro a s hL h
  unfold ref13_Compare.j1 at h
  show K8 a s.w
  refine hK8 _ _ (wp_seq_k fun K11 hK11=>?_)
  refine rg (sx 4 (t_assign (o_i (k:=.i64) (by decide)) rfl rfl) hL fun a s e_ hL=>?_)
  refine en' (hK11 _ _ ?_)
  subst h
  exact wp_ret (retq rfl hL rfl)
 obtain ⟨k13,h⟩:=h
 refine lpg (fun k14 a s=>∃ (i12 : Int),Has N0 42 s0 a s [(5,(Pd.rep (En.slice (En.int .i64)) r3)),(6,(Pd.rep (En.slice (En.int .i64)) r6)),(7,(Pd.rep (En.int .i64) i12))] ∧ ref13_Compare.l1 r3 r6 r_ (ref13_Compare.j1 r_) k14 i12) k13 ⟨0,hL.keep (.cons (t:=5) rfl nE (.cons (t:=6) rfl nE (.cons (t:=7) rfl nE .nil))),h⟩ ?_
 rintro k14 a s ⟨i12,hL,h⟩ KL15 hKL15
 cases k14 with
 | zero=>exact h.elim
 | succ k14=>
 unfold ref13_Compare.l1 at h
 refine wp_seq_k fun K16 hK16=>wp_seq_k fun K17 hK17=>?_
 obtain ⟨b18,h19,h⟩:=h
 refine rg (sx 12 (t_move (o_t 7 rfl) rfl rfl) hL fun a s e_ hL=>?_)
 refine sx 13 (t_move (o_t 5 rfl) rfl rfl) hL fun a s e_ hL=>sx 14 (t_len (o_t 13 rfl) Tryz.underlying91 rfl rfl) hL fun a s e_ hL=>sx 15 (t_lss (o_t 12 rfl) (o_t 14 rfl) rfl rfl) hL fun a s e_ hL=>sx 16 (t_move (o_t 15 rfl) rfl rfl) hL fun a s e_ hL=>sx 17 (t_g1 rfl rfl rfl (fun hc_=>t_move (o_t 7 rfl) rfl rfl)) hL fun a s e_ hL=>sx 18 (t_g1 rfl rfl rfl (fun hc_=>t_move (o_t 6 rfl) rfl rfl)) hL fun a s e_ hL=>sx 19 (t_g1 rfl rfl rfl (fun hc_=>t_len (o_w hc_ 18 rfl) Tryz.underlying91 rfl rfl)) hL fun a s e_ hL=>sx 20 (t_g1 rfl rfl rfl (fun hc_=>t_lss (o_w hc_ 17 rfl) (o_w hc_ 19 rfl) rfl rfl)) hL fun a s e_ hL=>sx 21 (h19 ▸ (t_and (o_t 16 rfl) (fun hc2_=>(o_w hc2_ 20 rfl)) rfl rfl)) hL fun a s e_ hL=>?_
 refine en' (hK17 _ _ ?_)
 refine cnd hL rfl (fun hb_=>?_) (fun hb_=>?_)
 ·replace h:=h.1 hb_
  refine wp_skip ?_
  show K16 a s.w
  refine hK16 _ _ (wp_seq_k fun K20 hK20=>?_)
  refine wp_block (wp_seq_k fun K21 hK21=>?_)
  refine wp_seq_k fun K22 hK22=>?_
  obtain ⟨e23,h24,e25,h26,h⟩:=h
  refine rda follows 9 [(Pd.rep (En.slice (En.int .i64)) r3),(Pd.rep (En.int .i64) i12),(Pd.ptr (En.int .i64) e23),(Pd.rep (En.int .i64) e23),(Pd.rep (En.slice (En.int .i64)) r6),(Pd.rep (En.int .i64) i12),(Pd.ptr (En.int .i64) e25),(Pd.rep (En.int .i64) e25),(Pd.rep En.bool (decide (e23 < e25)))] hL (by kernel_rfl) rfl rfl ?_ ?_
  ·refine AllT.cons (t_move (o_t 5 rfl) rfl rfl) ?_
   refine AllT.cons (t_move (o_t 7 rfl) rfl rfl) (AllT.cons (t_idx (o_t 24 rfl) (o_t 25 rfl) h24 Tryz.underlying91 ty3 rfl rfl) ?_)
   refine AllT.cons (t_load ty3 (o_t 26 rfl) rfl rfl) (AllT.cons (t_move (o_t 6 rfl) rfl rfl) ?_)
   refine AllT.cons (t_move (o_t 7 rfl) rfl rfl) (AllT.cons (t_idx (o_t 28 rfl) (o_t 29 rfl) h26 Tryz.underlying91 ty3 rfl rfl) ?_)
   refine AllT.cons (t_load ty3 (o_t 30 rfl) rfl rfl) (AllT.cons (t_lss (o_t 27 rfl) (o_t 31 rfl) rfl rfl) ?_)
   exact AllT.nil
  intro a s e_ hL
  refine en' (hK22 _ _ ?_)
  refine cnd hL rfl (fun hb_=>?_) (fun hb_=>?_)
  ·replace h:=h.1 hb_
   refine wp_seq_k fun K27 hK27=>rg (sx 4 (t_assign (o_i (k:=.i64) (by decide)) rfl rfl) hL fun a s e_ hL=>?_)
   refine en' (hK27 _ _ ?_)
   subst h
   exact wp_ret (retq rfl hL rfl)
  ·replace h:=h.2 hb_
   refine wp_skip ?_
   show K21 a s.w
   refine hK21 _ _ (wp_seq_k fun K28 hK28=>?_)
   obtain ⟨e29,h30,e31,h32,h⟩:=h
   refine rda follows 9 [(Pd.rep (En.slice (En.int .i64)) r3),(Pd.rep (En.int .i64) i12),(Pd.ptr (En.int .i64) e29),(Pd.rep (En.int .i64) e29),(Pd.rep (En.slice (En.int .i64)) r6),(Pd.rep (En.int .i64) i12),(Pd.ptr (En.int .i64) e31),(Pd.rep (En.int .i64) e31),(Pd.rep En.bool (decide (e31 < e29)))] hL (by kernel_rfl) rfl rfl ?_ ?_
   ·refine AllT.cons (t_move (o_t 5 rfl) rfl rfl) ?_
    refine AllT.cons (t_move (o_t 7 rfl) rfl rfl) (AllT.cons (t_idx (o_t 33 rfl) (o_t 34 rfl) h30 Tryz.underlying91 ty3 rfl rfl) ?_)
    refine AllT.cons (t_load ty3 (o_t 35 rfl) rfl rfl) (AllT.cons (t_move (o_t 6 rfl) rfl rfl) ?_)
    refine AllT.cons (t_move (o_t 7 rfl) rfl rfl) (AllT.cons (t_idx (o_t 37 rfl) (o_t 38 rfl) h32 Tryz.underlying91 ty3 rfl rfl) ?_)
    refine AllT.cons (t_load ty3 (o_t 39 rfl) rfl rfl) (AllT.cons (t_gtr (o_t 36 rfl) (o_t 40 rfl) rfl rfl) ?_)
    exact AllT.nil
   intro a s e_ hL
   refine en' (hK28 _ _ ?_)
   refine cnd hL rfl (fun hb_=>?_) (fun hb_=>?_)
   ·replace h:=h.1 hb_
    refine wp_seq_k fun K33 hK33=>rg (sx 4 (t_assign (o_i (k:=.i64) (by decide)) rfl rfl) hL fun a s e_ hL=>?_)
    refine en' (hK33 _ _ ?_)
    subst h
    exact wp_ret (retq rfl hL rfl)
   ·replace h:=h.2 hb_
    refine wp_skip ?_
    show K20 a s.w
    refine hK20 _ _ ?_
    obtain ⟨h34,h⟩:=h
    refine rg (sx 22 (t_move (o_t 7 rfl) rfl rfl) hL fun a s e_ hL=>?_)
    refine sx 23 (t_add (o_t 22 rfl) (o_i (k:=.i64) (by decide)) h34 rfl rfl) hL fun a s e_ hL=>sx 7 (t_assign (o_t 23 rfl) rfl rfl) hL fun a s e_ hL=>en' ?_
    exact hKL15 k14 a s (Nat.lt_succ_self _) ⟨(i12 + 1),hL.keep (.cons (t:=5) rfl nE (.cons (t:=6) rfl nE (.cons (t:=7) rfl nE .nil))),h⟩
 ·replace h:=h.2 hb_
  refine wp_exit ?_
  exact J10 a s (hL.keep .nil) h
theorem ref13_Same_ok {a_ : (List SItem)} {b_ : (List SItem)} {r_ : Bool} (h : ref13_Same a_ b_ r_) : Fn Tryz.prog 53 [(Pd.rep (En.slice En.SItem) a_),(Pd.rep (En.slice En.SItem) b_)] (Rq (Pd.rep En.bool r_)):=by
 unfold ref13_Same at h
 refine fn_of Tryz.func53 rfl Tryz.ntmps53 (by rfl) (by simp) fun s0 a hL=>?_
 refine wp_seq_k fun K1 hK1=>rg (sx 4 (t_assign o_b rfl rfl) hL fun a s e_ hL=>?_)
 refine en' (hK1 _ _ ?_)
 refine wp_seq_k fun K2 hK2=>?_
 obtain ⟨r3,h4,h⟩:=h
 refine rg (sx 5 (t_move (o_t 0 rfl) rfl rfl) hL fun a s e_ hL=>?_)
 refine sx 6 (t_move (o_t 1 rfl) rfl rfl) hL fun a s e_ hL=>sx 7 (t_call (ref13_Compare_ok h4) (xs:=[.tmp 5,.tmp 6]) (.cons (o_t 5 rfl) (.cons (o_t 6 rfl) .nil)) rfl rfl) hL fun a s e_ hL=>sx 8 (t_eqi (o_t 7 rfl) (o_i (k:=.i64) (by decide)) rfl rfl) hL fun a s e_ hL=>sx 4 (t_assign (o_t 8 rfl) rfl rfl) hL fun a s e_ hL=>en' (hK2 _ _ ?_)
 subst h
 exact wp_ret (retq rfl hL rfl)
end Go.Proofs.YtahgmdbioafmbaaGreatDoor.V
namespace Go.Proofs.YtahgmdbioafmbaaGreatDoor.V
open Go
set_option linter.unusedVariables false
def heads_Ready (d_ : SDesc) (s_ : (List SItem)) (r_ : Bool) : Prop:=((((s_.length : Int) == 0)) = true → r_ = true) ∧ ((((s_.length : Int) == 0)) = false → ∃ e7 : SItem,at? s_ 0 = some e7 ∧ (((e7.1 == 1)) = true → ∃ e13 : SNode,at? d_ e7.2.1 = some e13 ∧ ∃ e16 : Bool,(((decide (e13.1 < 10)) = true) → at? gdat1 e13.1 = some e16) ∧ r_ = ((decide (e13.1 < 10)) && e16)) ∧ (((e7.1 == 1)) = false → (((e7.1 == 3)) = true → (((e7.1 == 3)) = true → r_ = true) ∧ (((e7.1 == 3)) = false → r_ = false)) ∧ (((e7.1 == 3)) = false → (((e7.1 == 4)) = true → r_ = true) ∧ (((e7.1 == 4)) = false → r_ = false))))
def heads_with (rest_ : (List SItem)) (list_ : (List SItem)) (r_ : (List SItem)) : Prop:=∃ r3 : (List SItem),slices_Concat_api_State_api_Item [list_,rest_] r3 ∧ r_ = r3
def heads_node (i_ : Int) (r_ : SItem) : Prop:=r_ = (1,i_,0,0)
def heads_Open.j1 (r_ : (List (List SItem))) (out35 : (List (List SItem))) : Prop:=r_ = out35
def heads_Open.j2 (s_ : (List SItem)) (r_ : (List (List SItem))) (e4 : SItem) (e9 : SNode) (out27 : (List (List SItem))) : Prop:=((decide (0 < e4.2.2.2)) = true → ∃ r39 : SItem,heads_node e9.2.1 r39 ∧ (InR .i64 (e4.2.2.1 - 1)) ∧ (InR .i64 (e4.2.2.2 - 1)) ∧ ∃ r43 : (List SItem),heads_with (s_.drop (1 : Int).toNat) [r39,(e4.1,e4.2.1,(max (e4.2.2.1 - 1) 0),e4.2.2.2 - 1)] r43 ∧ (out27.length + [r43].length ≤ 2147483648) ∧ (heads_Open.j1 r_) (out27 ++ [r43])) ∧ ((decide (0 < e4.2.2.2)) = false → (heads_Open.j1 r_) out27)
def heads_Open (d_ : SDesc) (s_ : (List SItem)) (r_ : (List (List SItem))) : Prop:=∃ e4 : SItem,at? s_ 0 = some e4 ∧ ((0 : Int) ≤ 1 ∧ 1 ≤ (s_.length : Int)) ∧ ∃ e9 : SNode,at? d_ e4.2.1 = some e9 ∧ ((((e4.1 == 5) && (e4.2.2.1 == 0))) = true → ∃ r16 : (List SItem),heads_with (s_.drop (1 : Int).toNat) ([] : (List SItem)) r16 ∧ r_ = [r16]) ∧ ((((e4.1 == 5) && (e4.2.2.1 == 0))) = false → (((e4.1 == 5)) = true → r_ = ([] : (List (List SItem)))) ∧ (((e4.1 == 5)) = false → (((e4.1 == 2)) = true → (((e4.2.2.1 == 0)) = true → ∃ r47 : (List SItem),heads_with (s_.drop (1 : Int).toNat) ([] : (List SItem)) r47 ∧ (([] : (List (List SItem))).length + [r47].length ≤ 2147483648) ∧ (heads_Open.j2 s_ r_ e4 e9) (([] : (List (List SItem))) ++ [r47])) ∧ (((e4.2.2.1 == 0)) = false → (heads_Open.j2 s_ r_ e4 e9) ([] : (List (List SItem))))) ∧ (((e4.1 == 2)) = false → (((e9.1 == 1)) = true → ∃ r57 : (List SItem),heads_with (s_.drop (1 : Int).toNat) ([] : (List SItem)) r57 ∧ r_ = [r57]) ∧ (((e9.1 == 1)) = false → (((e9.1 == 3)) = true → ∃ r64 : (List SItem),heads_with (s_.drop (1 : Int).toNat) [(3,e4.2.1,0,0)] r64 ∧ r_ = [r64]) ∧ (((e9.1 == 3)) = false → (((e9.1 == 4)) = true → ∃ r71 : SItem,heads_node e9.2.1 r71 ∧ ∃ r73 : SItem,heads_node e9.2.2.1 r73 ∧ ∃ r75 : (List SItem),heads_with (s_.drop (1 : Int).toNat) [r71,r73] r75 ∧ r_ = [r75]) ∧ (((e9.1 == 4)) = false → (((e9.1 == 5)) = true → ∃ r82 : SItem,heads_node e9.2.1 r82 ∧ ∃ r84 : (List SItem),heads_with (s_.drop (1 : Int).toNat) [r82] r84 ∧ ∃ r86 : SItem,heads_node e9.2.2.1 r86 ∧ ∃ r88 : (List SItem),heads_with (s_.drop (1 : Int).toNat) [r86] r88 ∧ r_ = [r84,r88]) ∧ (((e9.1 == 5)) = false → (((e9.1 == 6)) = true → ∃ r95 : (List SItem),heads_with (s_.drop (1 : Int).toNat) ([] : (List SItem)) r95 ∧ ∃ r97 : SItem,heads_node e9.2.1 r97 ∧ ∃ r99 : (List SItem),heads_with (s_.drop (1 : Int).toNat) [r97,e4] r99 ∧ r_ = [r95,r99]) ∧ (((e9.1 == 6)) = false → ∃ r105 : (List SItem),heads_with (s_.drop (1 : Int).toNat) [(2,e4.2.1,e9.2.2.2.1,e9.2.2.2.2.1)] r105 ∧ r_ = [r105]))))))))
def heads_Heads_1 (a_ : SBranch) (b_ : SBranch) (r_ : Int) : Prop:=∃ r3 : Int,item_Compare a_.1 b_.1 r3 ∧ r_ = r3
def ref14_Ready (d_ : SDesc) (s_ : (List SItem)) (r_ : Bool) : Prop:=∃ e4 : SItem,(((((s_.length : Int) == 0)) = false) → at? s_ 0 = some e4) ∧ ∃ e6 : SItem,((((((s_.length : Int) == 0) || (e4.1 == 3))) = false) → at? s_ 0 = some e6) ∧ ∃ b8 : Bool,b8 = ((((s_.length : Int) == 0) || (e4.1 == 3)) || (e6.1 == 4)) ∧ ((b8) = true → r_ = true) ∧ ((b8) = false → ∃ e12 : SItem,at? s_ 0 = some e12 ∧ ∃ e14 : SNode,at? d_ e12.2.1 = some e14 ∧ ∃ e17 : SItem,at? s_ 0 = some e17 ∧ ∃ b19 : Bool,b19 = ((e17.1 == 1) && (((e14.1 == 2) || (e14.1 == 8)) || (e14.1 == 9))) ∧ r_ = b19)
def ref14_ahead (l_ : (List SItem)) (s_ : (List SItem)) (r_ : (List SItem)) : Prop:=(([] : (List SItem)).length + l_.length ≤ 2147483648) ∧ ((([] : (List SItem)) ++ l_).length + s_.length ≤ 2147483648) ∧ r_ = (([] : (List SItem)) ++ l_) ++ s_
def ref14_Add.j1 (s_ : (List SItem)) (many_ : Int) (r_ : (List SBranch)) (out6 : (List SBranch)) (done8 : Bool) : Prop:=(((!done8)) = true → (out6.length + [(s_,many_)].length ≤ 2147483648) ∧ r_ = out6 ++ [(s_,many_)]) ∧ (((!done8)) = false → r_ = out6)
def ref14_Add.j2 (L1_ : (List SBranch) → Bool → Int → Prop) (l_ : (List SBranch)) (i19 : Int) (out43 : (List SBranch)) (done45 : Bool) : Prop:=∃ e47 : SBranch,at? l_ i19 = some e47 ∧ (out43.length + [e47].length ≤ 2147483648) ∧ (InR .i64 (i19 + 1)) ∧ L1_ (out43 ++ [e47]) done45 (i19 + 1)
def ref14_Add.l1 (l_ : (List SBranch)) (s_ : (List SItem)) (many_ : Int) (X1 : (List SBranch) → Bool → Prop) : Nat → (List SBranch) → Bool → Int → Prop
 | 0,_,_,_=>False
 | k_0 + 1,out16,done18,i19=>((decide (i19 < (l_.length : Int))) = true → ∃ e27 : SBranch,at? l_ i19 = some e27 ∧ ∃ r29 : Int,ref13_Compare s_ e27.1 r29 ∧ (((r29 == 0)) = true → ∃ e34 : SBranch,at? l_ i19 = some e34 ∧ (InR .i64 (e34.2 + many_)) ∧ (out16.length + [(s_,(min 2 (e34.2 + many_)))].length ≤ 2147483648) ∧ (InR .i64 (i19 + 1)) ∧ ref14_Add.l1 l_ s_ many_ X1 k_0 (out16 ++ [(s_,(min 2 (e34.2 + many_)))]) true (i19 + 1)) ∧ (((r29 == 0)) = false → ((((decide (r29 < 0)) && (!done18))) = true → (out16.length + [(s_,many_)].length ≤ 2147483648) ∧ (ref14_Add.j2 (ref14_Add.l1 l_ s_ many_ X1 k_0) l_ i19) (out16 ++ [(s_,many_)]) true) ∧ ((((decide (r29 < 0)) && (!done18))) = false → (ref14_Add.j2 (ref14_Add.l1 l_ s_ many_ X1 k_0) l_ i19) out16 done18))) ∧ ((decide (i19 < (l_.length : Int))) = false → X1 out16 done18)
def ref14_Add (l_ : (List SBranch)) (s_ : (List SItem)) (many_ : Int) (r_ : (List SBranch)) : Prop:=∃ k20,ref14_Add.l1 l_ s_ many_ (ref14_Add.j1 s_ many_ r_) k20 ([] : (List SBranch)) false 0
def ref14_Open.j1 (r_ : (List (List SItem))) (out27 : (List (List SItem))) : Prop:=r_ = out27
def ref14_Open.j2 (r_ : (List (List SItem))) (out47 : (List (List SItem))) : Prop:=r_ = out47
def ref14_Open.j3 (s_ : (List SItem)) (r_ : (List (List SItem))) (e3 : SItem) (e9 : SNode) (out39 : (List (List SItem))) : Prop:=((decide (0 < e3.2.2.2)) = true → (InR .i64 (e3.2.2.1 - 1)) ∧ (InR .i64 (e3.2.2.2 - 1)) ∧ ∃ r53 : (List SItem),ref14_ahead [(1,e9.2.1,0,0),(2,e3.2.1,(max 0 (e3.2.2.1 - 1)),e3.2.2.2 - 1)] (s_.drop (1 : Int).toNat) r53 ∧ (out39.length + [r53].length ≤ 2147483648) ∧ (ref14_Open.j2 r_) (out39 ++ [r53])) ∧ ((decide (0 < e3.2.2.2)) = false → (ref14_Open.j2 r_) out39)
def ref14_Open (d_ : SDesc) (s_ : (List SItem)) (r_ : (List (List SItem))) : Prop:=∃ e3 : SItem,at? s_ 0 = some e3 ∧ ((0 : Int) ≤ 1 ∧ 1 ≤ (s_.length : Int)) ∧ ∃ e9 : SNode,at? d_ e3.2.1 = some e9 ∧ (((e3.1 == 5)) = true → (((e3.2.2.1 == 0)) = true → ∃ r31 : (List SItem),ref14_ahead ([] : (List SItem)) (s_.drop (1 : Int).toNat) r31 ∧ (([] : (List (List SItem))).length + [r31].length ≤ 2147483648) ∧ (ref14_Open.j1 r_) (([] : (List (List SItem))) ++ [r31])) ∧ (((e3.2.2.1 == 0)) = false → (ref14_Open.j1 r_) ([] : (List (List SItem))))) ∧ (((e3.1 == 5)) = false → (((e3.1 == 2)) = true → (((e3.2.2.1 == 0)) = true → ∃ r57 : (List SItem),ref14_ahead ([] : (List SItem)) (s_.drop (1 : Int).toNat) r57 ∧ (([] : (List (List SItem))).length + [r57].length ≤ 2147483648) ∧ (ref14_Open.j3 s_ r_ e3 e9) (([] : (List (List SItem))) ++ [r57])) ∧ (((e3.2.2.1 == 0)) = false → (ref14_Open.j3 s_ r_ e3 e9) ([] : (List (List SItem))))) ∧ (((e3.1 == 2)) = false → (((e9.1 == 1)) = true → ∃ r66 : (List SItem),ref14_ahead ([] : (List SItem)) (s_.drop (1 : Int).toNat) r66 ∧ (([] : (List (List SItem))).length + [r66].length ≤ 2147483648) ∧ r_ = ([] : (List (List SItem))) ++ [r66]) ∧ (((e9.1 == 1)) = false → (((e9.1 == 3)) = true → ∃ r72 : (List SItem),ref14_ahead [(3,e3.2.1,0,0)] (s_.drop (1 : Int).toNat) r72 ∧ (([] : (List (List SItem))).length + [r72].length ≤ 2147483648) ∧ r_ = ([] : (List (List SItem))) ++ [r72]) ∧ (((e9.1 == 3)) = false → (((e9.1 == 4)) = true → ∃ r78 : (List SItem),ref14_ahead [(1,e9.2.1,0,0),(1,e9.2.2.1,0,0)] (s_.drop (1 : Int).toNat) r78 ∧ (([] : (List (List SItem))).length + [r78].length ≤ 2147483648) ∧ r_ = ([] : (List (List SItem))) ++ [r78]) ∧ (((e9.1 == 4)) = false → (((e9.1 == 5)) = true → ∃ r84 : (List SItem),ref14_ahead [(1,e9.2.1,0,0)] (s_.drop (1 : Int).toNat) r84 ∧ ∃ r86 : (List SItem),ref14_ahead [(1,e9.2.2.1,0,0)] (s_.drop (1 : Int).toNat) r86 ∧ (([] : (List (List SItem))).length + [r84,r86].length ≤ 2147483648) ∧ r_ = ([] : (List (List SItem))) ++ [r84,r86]) ∧ (((e9.1 == 5)) = false → (((e9.1 == 6)) = true → ∃ r92 : (List SItem),ref14_ahead ([] : (List SItem)) (s_.drop (1 : Int).toNat) r92 ∧ ∃ r94 : (List SItem),ref14_ahead [(1,e9.2.1,0,0),e3] (s_.drop (1 : Int).toNat) r94 ∧ (([] : (List (List SItem))).length + [r92,r94].length ≤ 2147483648) ∧ r_ = ([] : (List (List SItem))) ++ [r92,r94]) ∧ (((e9.1 == 6)) = false → (((e9.1 == 7)) = true → ∃ r100 : (List SItem),ref14_ahead [(2,e3.2.1,e9.2.2.2.1,e9.2.2.2.2.1)] (s_.drop (1 : Int).toNat) r100 ∧ (([] : (List (List SItem))).length + [r100].length ≤ 2147483648) ∧ r_ = ([] : (List (List SItem))) ++ [r100]) ∧ (((e9.1 == 7)) = false → r_ = ([] : (List (List SItem)))))))))))
def ref14_into.j1 (r_ : (List SBranch)) (l16 : (List SBranch)) : Prop:=r_ = l16
def ref14_into.l1 (n_ : SDesc → (List SItem) → (List SBranch) → (List SBranch) → Prop) (d_ : SDesc) (r12 : (List (List SItem))) (X1 : (List SBranch) → Prop) : Nat → (List SBranch) → Int → Prop
 | 0,_,_=>False
 | k_0 + 1,l19,i20=>((decide (i20 < (r12.length : Int))) = true → ∃ e27 : (List SItem),at? r12 i20 = some e27 ∧ ∃ r29 : (List SBranch),n_ d_ e27 l19 r29 ∧ (InR .i64 (i20 + 1)) ∧ ref14_into.l1 n_ d_ r12 X1 k_0 r29 (i20 + 1)) ∧ ((decide (i20 < (r12.length : Int))) = false → X1 l19)
def ref14_into.n : Nat → SDesc → (List SItem) → (List SBranch) → (List SBranch) → Prop
 | 0,_,_,_,_=>False
 | k_ + 1,d_,s_,l_,r_=>∃ r4 : Bool,ref14_Ready d_ s_ r4 ∧ ((r4) = true → ∃ r7 : (List SItem),ref14_ahead ([] : (List SItem)) s_ r7 ∧ ∃ r9 : (List SBranch),ref14_Add l_ r7 1 r9 ∧ r_ = r9) ∧ ((r4) = false → ∃ r12 : (List (List SItem)),ref14_Open d_ s_ r12 ∧ ∃ k21,ref14_into.l1 (ref14_into.n k_) d_ r12 (ref14_into.j1 r_) k21 l_ 0)
def ref14_into (d_ : SDesc) (s_ : (List SItem)) (l_ : (List SBranch)) (r_ : (List SBranch)) : Prop:=∃ k_,ref14_into.n k_ d_ s_ l_ r_
def ref14_Heads (d_ : SDesc) (s_ : (List SItem)) (r_ : (List SBranch)) : Prop:=∃ r3 : (List SBranch),ref14_into d_ s_ ([] : (List SBranch)) r3 ∧ r_ = r3
end Go.Proofs.YtahgmdbioafmbaaGreatDoor.V
namespace Go.Proofs.YtahgmdbioafmbaaGreatDoor.V
open Go
set_option linter.unusedVariables false
set_option maxRecDepth 100000
theorem heads_Ready_ok {d_ : SDesc} {s_ : (List SItem)} {r_ : Bool} (h : heads_Ready d_ s_ r_) : Fn Tryz.prog 142 [(Pd.rep En.SDesc d_),(Pd.rep (En.slice En.SItem) s_)] (Rq (Pd.rep En.bool r_)):=by
 unfold heads_Ready at h
 refine fn_of Tryz.func142 rfl Tryz.ntmps142 (by rfl) (by simp) fun s0 a hL=>?_
 refine wp_seq_k fun K1 hK1=>rg (sx 2 (t_box (o_t 0 rfl) rfl rfl) hL fun a s e_ hL=>?_)
 refine sx 4 (t_assign o_b rfl rfl) hL fun a s e_ hL=>en' (hK1 _ _ ?_)
 refine wp_seq_k fun K2 hK2=>wp_seq_k fun K3 hK3=>rg (sx 7 (t_move (o_t 1 rfl) rfl rfl) hL fun a s e_ hL=>?_)
 refine sx 8 (t_len (o_t 7 rfl) Tryz.underlying47 rfl rfl) hL fun a s e_ hL=>sx 9 (t_eqi (o_t 8 rfl) (o_i (k:=.i64) (by decide)) rfl rfl) hL fun a s e_ hL=>en' (hK3 _ _ ?_)
 refine cnd hL rfl (fun hb_=>?_) (fun hb_=>?_)
 ·replace h:=h.1 hb_
  refine wp_seq_k fun K4 hK4=>rg (sx 4 (t_assign o_b rfl rfl) hL fun a s e_ hL=>?_)
  refine en' (hK4 _ _ ?_)
  subst h
  exact wp_ret (retq rfl hL rfl)
 ·replace h:=h.2 hb_
  refine wp_skip ?_
  show K2 a s.w
  refine hK2 _ _ (wp_seq_k fun K5 hK5=>?_)
  refine wp_seq_k fun K6 hK6=>?_
  obtain ⟨e7,h8,h⟩:=h
  refine rg (sx 10 (t_move (o_t 1 rfl) rfl rfl) hL fun a s e_ hL=>?_)
  refine sx 11 (t_idx (o_t 10 rfl) (o_i (k:=.i64) (by decide)) h8 Tryz.underlying47 ty77 rfl rfl) hL fun a s e_ hL=>sx 12 (t_load ty77 (o_t 11 rfl) rfl rfl) hL fun a s e_ hL=>st_alloc En.SItem (z:=(0,0,0,0)) 5 hL tyz77 rfl rfl rfl rfl fun a s g9 hg_ hL=>?_
  refine st_stb (L':=[(2,(Pd.ptr En.SDesc d_))]) 5 hL rfl (o_t 12 rfl) ty77 rfl rfl rfl (.cons (t:=2) rfl nE .nil) fun s hL=>?_
  refine en' (hK6 _ _ ?_)
  refine wp_seq_k fun K10 hK10=>rg (sx 13 (t_fab (off:=0) (o_t 5 rfl) Tryz.underlying77 rfl (prt_fst (prt_all _ _)) rfl ty3 rfl rfl) hL fun a s e_ hL=>?_)
  refine sx 14 (t_loado ty3 (o_t 13 rfl) rfl rfl) hL fun a s e_ hL=>en' (hK10 _ _ ?_)
  refine wp_block (wp_seq_k fun K11 hK11=>?_)
  refine rg (sx 16 (t_eqi (o_t 14 rfl) (o_i (k:=.i64) (by decide)) rfl rfl) hL fun a s e_ hL=>?_)
  refine sx 15 (t_assign (o_t 16 rfl) rfl rfl) hL fun a s e_ hL=>en' (hK11 _ _ ?_)
  refine cnd hL rfl (fun hb_=>?_) (fun hb_=>?_)
  ·replace h:=h.1 hb_
   refine wp_seq_k fun K12 hK12=>?_
   obtain ⟨e13,h14,h⟩:=h
   refine rg (sx 17 (t_fa (off:=0) (o_t 2 rfl) Tryz.underlying24 rfl (prt_solo (prt_all _ _)) rfl ty22 rfl rfl) hL fun a s e_ hL=>?_)
   refine sx 18 (t_load ty22 (o_t 17 rfl) rfl rfl) hL fun a s e_ hL=>sx 19 (t_fab (off:=1) (o_t 5 rfl) Tryz.underlying77 rfl (prt_snd (prt_fst (prt_all _ _)) rfl) rfl ty3 rfl rfl) hL fun a s e_ hL=>sx 20 (t_loado ty3 (o_t 19 rfl) rfl rfl) hL fun a s e_ hL=>sx 21 (t_idx (o_t 18 rfl) (o_t 20 rfl) h14 Tryz.underlying22 ty68 rfl rfl) hL fun a s e_ hL=>sx 22 (t_fa (off:=0) (o_t 21 rfl) Tryz.underlying68 rfl (prt_fst (prt_all _ _)) rfl ty3 rfl rfl) hL fun a s e_ hL=>sx 23 (t_load ty3 (o_t 22 rfl) rfl rfl) hL fun a s e_ hL=>sx 6 (t_assign (o_t 23 rfl) rfl rfl) hL fun a s e_ hL=>en' (hK12 _ _ ?_)
   refine wp_seq_k fun K15 hK15=>?_
   obtain ⟨e16,h17,h⟩:=h
   refine rg (sx 24 (t_move (o_t 6 rfl) rfl rfl) hL fun a s e_ hL=>?_)
   refine sx 25 (t_lss (o_t 24 rfl) (o_i (k:=.i64) (by decide)) rfl rfl) hL fun a s e_ hL=>sx 26 (t_move (o_t 25 rfl) rfl rfl) hL fun a s e_ hL=>sx 27 (t_g1 rfl rfl rfl (fun hc_=>t_move (o_t 6 rfl) rfl rfl)) hL fun a s e_ hL=>sx 28 (t_g1 rfl rfl rfl (fun hc_=>t_gidxb (g:=1) (xs:=gdat1) (by simp [gtab]) rfl (o_w hc_ 27 rfl) (h17 hc_) Tryz.underlying213 (by rfl) rfl rfl)) hL fun a s e_ hL=>sx 29 (t_g1 rfl rfl rfl (fun hc_=>t_load ty4 (o_w hc_ 28 rfl) rfl rfl)) hL fun a s e_ hL=>sx 30 (t_and (o_t 26 rfl) (fun hc2_=>(o_w hc2_ 29 rfl)) rfl rfl) hL fun a s e_ hL=>sx 4 (t_assign (o_t 30 rfl) rfl rfl) hL fun a s e_ hL=>en' (hK15 _ _ ?_)
   subst h
   exact wp_ret (retq rfl hL rfl)
  ·replace h:=h.2 hb_
   refine wp_seq_k fun K18 hK18=>wp_seq_k fun K19 hK19=>rg (sx 32 (t_eqi (o_t 14 rfl) (o_i (k:=.i64) (by decide)) rfl rfl) hL fun a s e_ hL=>?_)
   refine sx 31 (t_assign (o_t 32 rfl) rfl rfl) hL fun a s e_ hL=>en' (hK19 _ _ ?_)
   refine cnd hL rfl (fun hb_=>?_) (fun hb_=>?_)
   ·replace h:=h.1 hb_
    refine wp_skip ?_
    show K18 a s.w
    refine hK18 _ _ (cnd hL rfl (fun hb_=>?_) (fun hb_=>?_))
    ·replace h:=h.1 hb_
     refine wp_seq_k fun K20 hK20=>rg (sx 4 (t_assign o_b rfl rfl) hL fun a s e_ hL=>?_)
     refine en' (hK20 _ _ ?_)
     subst h
     exact wp_ret (retq rfl hL rfl)
    ·replace h:=h.2 hb_
     refine wp_skip ?_
     show K5 a s.w
     refine hK5 _ _ (wp_seq_k fun K21 hK21=>?_)
     refine rg (sx 4 (t_assign o_b rfl rfl) hL fun a s e_ hL=>?_)
     refine en' (hK21 _ _ ?_)
     subst h
     exact wp_ret (retq rfl hL rfl)
   ·replace h:=h.2 hb_
    refine rg (sx 33 (t_eqi (o_t 14 rfl) (o_i (k:=.i64) (by decide)) rfl rfl) hL fun a s e_ hL=>?_)
    refine sx 31 (t_assign (o_t 33 rfl) rfl rfl) hL fun a s e_ hL=>en' (hK18 _ _ ?_)
    refine cnd hL rfl (fun hb_=>?_) (fun hb_=>?_)
    ·replace h:=h.1 hb_
     refine wp_seq_k fun K22 hK22=>rg (sx 4 (t_assign o_b rfl rfl) hL fun a s e_ hL=>?_)
     refine en' (hK22 _ _ ?_)
     subst h
     exact wp_ret (retq rfl hL rfl)
    ·replace h:=h.2 hb_
     refine wp_skip ?_
     show K5 a s.w
     refine hK5 _ _ (wp_seq_k fun K23 hK23=>?_)
     refine rg (sx 4 (t_assign o_b rfl rfl) hL fun a s e_ hL=>?_)
     refine en' (hK23 _ _ ?_)
     subst h
     exact wp_ret (retq rfl hL rfl)
theorem heads_with_ok {rest_ : (List SItem)} {list_ : (List SItem)} {r_ : (List SItem)} (h : heads_with rest_ list_ r_) : Fn Tryz.prog 169 [(Pd.rep (En.slice En.SItem) rest_),(Pd.rep (En.slice En.SItem) list_)] (Ro En.SItem 77 r_):=by
 unfold heads_with at h
 refine fn_of Tryz.func169 rfl Tryz.ntmps169 (by rfl) (by simp) fun s0 a hL=>?_
 refine wp_seq_k fun K1 hK1=>rg (sx 4 (t_assign (o_nil (E:=En.SItem) (N:=s0.w.heap.size) (te:=77)) rfl rfl) hL fun a s e_ hL=>?_)
 refine en' (hK1 _ _ ?_)
 refine wp_seq_k fun K2 hK2=>?_
 obtain ⟨r3,h4,h⟩:=h
 refine rg (sx 5 (t_move (o_t 1 rfl) rfl rfl) hL fun a s e_ hL=>?_)
 refine sx 6 (t_move (o_t 0 rfl) rfl rfl) hL fun a s e_ hL=>sx 7 (t_lit (xs:=[.tmp 5,.tmp 6]) (.cons (o_t 5 rfl) (.cons (o_t 6 rfl) .nil)) Tryz.underlying25 ty47 rfl rfl (by decide) rfl rfl) hL fun a s e_ hL=>st_callo 8 hL (slices_Concat_api_State_api_Item_ok h4) (xs:=[.tmp 7]) (.cons (o_t 7 rfl) .nil) rfl rfl rfl rfl fun a s og5 hg_ hL=>?_
 refine sx 4 (t_assign (o_t 8 rfl) rfl rfl) hL fun a s e_ hL=>en' (hK2 _ _ ?_)
 subst h
 exact wp_ret (reto rfl hL rfl)
theorem heads_node_ok {i_ : Int} {r_ : SItem} (h : heads_node i_ r_) : Fn Tryz.prog 170 [(Pd.rep (En.int .i64) i_)] (Rq (Pd.rep En.SItem r_)):=by
 unfold heads_node at h
 refine fn_of Tryz.func170 rfl Tryz.ntmps170 (by rfl) (by simp) fun s0 a hL=>?_
 refine wp_seq_k fun K1 hK1=>rg (st_alloc En.SItem (z:=(0,0,0,0)) 2 hL tyz77 rfl rfl rfl rfl fun a s g2 hg_ hL=>?_)
 refine en' (hK1 _ _ ?_)
 refine wp_seq_k fun K3 hK3=>rg (sx 3 (t_move (o_t 0 rfl) rfl rfl) hL fun a s e_ hL=>?_)
 refine sx 4 (t_build (x:=(1,i_,0,0)) (ps:=[(0,.const (.int .i64 1)),(1,.tmp 3)]) tyz77 rfl stt77 (.cons (i:=0) (o_i (k:=.i64) (by decide)) rfl (sub_fst (sub_all _ _ _)) (.cons (i:=1) (o_t 3 rfl) rfl (sub_snd (sub_fst (sub_all _ _ _)) rfl) .nil)) rfl rfl) hL fun a s e_ hL=>st_stb (L':=[]) 2 hL rfl (o_t 4 rfl) ty77 rfl rfl rfl .nil fun s hL=>?_
 refine en' (hK3 _ _ ?_)
 subst h
 exact wp_ret (retb rfl ty77 hL rfl)
theorem heads_Open_ok {d_ : SDesc} {s_ : (List SItem)} {r_ : (List (List SItem))} (h : heads_Open d_ s_ r_) : Fn Tryz.prog 144 [(Pd.rep En.SDesc d_),(Pd.rep (En.slice En.SItem) s_)] (Ro (En.slice En.SItem) 47 r_):=by
 unfold heads_Open at h
 refine fn_of Tryz.func144 rfl Tryz.ntmps144 (by rfl) (by simp) fun s0 a hL=>?_
 refine wp_seq_k fun K1 hK1=>rg (sx 2 (t_box (o_t 0 rfl) rfl rfl) hL fun a s e_ hL=>?_)
 refine sx 4 (t_assign (o_nil (E:=(En.slice En.SItem)) (N:=s0.w.heap.size) (te:=47)) rfl rfl) hL fun a s e_ hL=>en' (hK1 _ _ ?_)
 refine wp_seq_k fun K2 hK2=>?_
 obtain ⟨e4,h5,h6,h⟩:=h
 replace hL:=hL.keep (L':=[(1,(Pd.rep (En.slice En.SItem) s_)),(2,(Pd.ptr En.SDesc d_))]) (.cons (t:=1) rfl nE (.cons (t:=2) rfl nE .nil))
 obtain ⟨K3,hK3,nK3,hL⟩:=hL.mark 999983
 refine rdf 8 follows hL (by kernel_rfl) fun s e_ hL=>?_
 refine fl_take 3 12 hL (by rfl) (by kernel_rfl) (by kernel_rfl) (by kernel_rfl) (fun _ _ _ _ h=>h) (q:=(Pd.rep (En.slice En.SItem) s_)) (y_move (o_t 1 rfl) rfl rfl) rfl rfl fun a hL=>?_
 refine fl_take 4 13 hL (by rfl) (by kernel_rfl) (by kernel_rfl) (by kernel_rfl) (fun _ _ _ _ h=>h) (q:=(Pd.rep (En.slice En.SItem) (s_.drop (1 : Int).toNat))) (y_from (o_t 12 rfl) (o_i (k:=.i64) (by decide)) h6 Tryz.underlying47 ty77 rfl rfl) rfl rfl fun a hL=>?_
 refine rc_go 6 [(Pd.rep (En.slice En.SItem) s_),(Pd.ptr En.SItem e4),(Pd.rep En.SItem e4),(Pd.rep (En.slice En.SItem) s_),(Pd.rep (En.slice En.SItem) (s_.drop (1 : Int).toNat)),(Pd.ebox En.SItem s0.w.heap.size K3 (0,0,0,0))] [3,4] K3 [5] nK3 hL (.cons (t:=13) rfl nE (.cons (t:=12) rfl nE (.cons (t:=999983) rfl nE (.cons (t:=1) rfl nE (.cons (t:=2) rfl nE .nil))))) (by kernel_rfl) (by kernel_rfl) (by kernel_rfl) (by kernel_rfl) (.cons (i:=3) rfl rfl rfl rfl (.cons (i:=4) rfl rfl rfl rfl .nil)) rfl rfl ?_ ?_
 ·refine AllX.t (t_move (o_t 1 rfl) rfl rfl) nE ?_
  refine AllX.t (t_idx (o_t 9 rfl) (o_i (k:=.i64) (by decide)) h5 Tryz.underlying47 ty77 rfl rfl) nE (AllX.t (t_load ty77 (o_t 10 rfl) rfl rfl) nE ?_)
  refine AllX.skip rfl nE (AllX.skip rfl nE ?_)
  refine AllX.c (t_allocx En.SItem (z:=(0,0,0,0)) (K:=K3) (m:=999983) rfl nK3 tyz77 rfl rfl) rfl ?_
  exact AllX.nil
 intro a s e_ hL
 obtain ⟨g7,hg_,hL⟩:=hL.openb 5 rfl
 refine st_stb (L':=[(2,(Pd.ptr En.SDesc d_)),(13,(Pd.rep (En.slice En.SItem) (s_.drop (1 : Int).toNat)))]) 5 hL rfl (o_t 11 rfl) ty77 rfl rfl rfl (.cons (t:=2) rfl nE (.cons (t:=13) rfl nE .nil)) fun s hL=>?_
 refine sx 6 (t_assign (o_t 13 rfl) rfl rfl) hL fun a s e_ hL=>en' (hK2 _ _ ?_)
 refine wp_seq_k fun K8 hK8=>?_
 obtain ⟨e9,h10,h⟩:=h
 refine rg (sx 14 (t_fa (off:=0) (o_t 2 rfl) Tryz.underlying24 rfl (prt_solo (prt_all _ _)) rfl ty22 rfl rfl) hL fun a s e_ hL=>?_)
 refine sx 15 (t_load ty22 (o_t 14 rfl) rfl rfl) hL fun a s e_ hL=>sx 16 (t_fab (off:=1) (o_t 5 rfl) Tryz.underlying77 rfl (prt_snd (prt_fst (prt_all _ _)) rfl) rfl ty3 rfl rfl) hL fun a s e_ hL=>sx 17 (t_loado ty3 (o_t 16 rfl) rfl rfl) hL fun a s e_ hL=>sx 18 (t_idx (o_t 15 rfl) (o_t 17 rfl) h10 Tryz.underlying22 ty68 rfl rfl) hL fun a s e_ hL=>sx 19 (t_load ty68 (o_t 18 rfl) rfl rfl) hL fun a s e_ hL=>?_
 have lt_d12:=hL.blt 5 rfl
 refine st_alloc En.SNode (z:=(0,0,0,0,0,(0#256),([] : Str))) 7 hL tyz68 rfl rfl rfl rfl fun a s g11 hg_ hL=>?_
 have d12 : Dis (some g11) (some g7):=Dis.newg hg_ lt_d12
 refine st_stb (L':=[(5,(Pd.box En.SItem s0.w.heap.size g7 e4)),(6,(Pd.rep (En.slice En.SItem) (s_.drop (1 : Int).toNat)))]) 7 hL rfl (o_t 19 rfl) ty68 rfl rfl rfl (.cons (t:=5) rfl (Dis.bx (Dis.symm d12)) (.cons (t:=6) rfl nE .nil)) fun s hL=>?_
 refine en' (hK8 _ _ ?_)
 refine wp_seq_k fun K13 hK13=>wp_block (wp_seq_k fun K14 hK14=>?_)
 refine rg (sx 21 (t_fab (off:=0) (o_t 5 rfl) Tryz.underlying77 rfl (prt_fst (prt_all _ _)) rfl ty3 rfl rfl) hL fun a s e_ hL=>?_)
 refine sx 22 (t_loado ty3 (o_t 21 rfl) rfl rfl) hL fun a s e_ hL=>sx 23 (t_eqi (o_t 22 rfl) (o_i (k:=.i64) (by decide)) rfl rfl) hL fun a s e_ hL=>sx 24 (t_move (o_t 23 rfl) rfl rfl) hL fun a s e_ hL=>sx 25 (t_g1 rfl rfl rfl (fun hc_=>t_fab (off:=2) (o_t 5 rfl) Tryz.underlying77 rfl (prt_snd (prt_snd (prt_fst (prt_all _ _)) rfl) rfl) rfl ty3 rfl rfl)) hL fun a s e_ hL=>sx 26 (t_g1 rfl rfl rfl (fun hc_=>t_loado ty3 (o_w hc_ 25 rfl) rfl rfl)) hL fun a s e_ hL=>sx 27 (t_g1 rfl rfl rfl (fun hc_=>t_eqi (o_w hc_ 26 rfl) (o_i (k:=.i64) (by decide)) rfl rfl)) hL fun a s e_ hL=>sx 28 (t_and (o_t 24 rfl) (fun hc2_=>(o_w hc2_ 27 rfl)) rfl rfl) hL fun a s e_ hL=>sx 20 (t_assign (o_t 28 rfl) rfl rfl) hL fun a s e_ hL=>en' (hK14 _ _ ?_)
 refine cnd hL rfl (fun hb_=>?_) (fun hb_=>?_)
 ·replace h:=h.1 hb_
  refine wp_seq_k fun K15 hK15=>?_
  obtain ⟨r16,h17,h⟩:=h
  refine rg (sx 29 (t_move (o_t 6 rfl) rfl rfl) hL fun a s e_ hL=>?_)
  refine sx 30 (t_call ((heads_with_ok h17).frz) (xs:=[.tmp 29,.const (.slice none 0 0)]) (.cons (o_t 29 rfl) (.cons o_nilr .nil)) rfl rfl) hL fun a s e_ hL=>?_
  have lt_d20:=hL.blt 7 rfl
  have lt_d19:=hL.blt 5 rfl
  refine st_lito (xs:=[.tmp 30]) 31 hL (.cons (o_t 30 rfl) .nil) Tryz.underlying25 ty47 rfl rfl (by decide) rfl rfl rfl rfl fun a s g18 hg_ hL=>?_
  have d19 : Dis (some g18) (some g7):=Dis.newg hg_ lt_d19
  have d20 : Dis (some g18) (some g11):=Dis.newg hg_ lt_d20
  refine sx 4 (t_assign (o_t 31 rfl) rfl rfl) hL fun a s e_ hL=>en' (hK15 _ _ ?_)
  subst h
  exact wp_ret (reto rfl hL rfl)
 ·replace h:=h.2 hb_
  refine wp_seq_k fun K21 hK21=>rg (sx 33 (t_fab (off:=0) (o_t 5 rfl) Tryz.underlying77 rfl (prt_fst (prt_all _ _)) rfl ty3 rfl rfl) hL fun a s e_ hL=>?_)
  refine sx 34 (t_loado ty3 (o_t 33 rfl) rfl rfl) hL fun a s e_ hL=>sx 35 (t_eqi (o_t 34 rfl) (o_i (k:=.i64) (by decide)) rfl rfl) hL fun a s e_ hL=>sx 32 (t_assign (o_t 35 rfl) rfl rfl) hL fun a s e_ hL=>en' (hK21 _ _ ?_)
  refine cnd hL rfl (fun hb_=>?_) (fun hb_=>?_)
  ·replace h:=h.1 hb_
   refine wp_seq_k fun K22 hK22=>rg (sx 4 (t_assign (o_nil (E:=(En.slice En.SItem)) (N:=s0.w.heap.size) (te:=47)) rfl rfl) hL fun a s e_ hL=>?_)
   refine en' (hK22 _ _ ?_)
   subst h
   exact wp_ret (reto rfl hL rfl)
  ·replace h:=h.2 hb_
   refine wp_seq_k fun K23 hK23=>rg (sx 37 (t_fab (off:=0) (o_t 5 rfl) Tryz.underlying77 rfl (prt_fst (prt_all _ _)) rfl ty3 rfl rfl) hL fun a s e_ hL=>?_)
   refine sx 38 (t_loado ty3 (o_t 37 rfl) rfl rfl) hL fun a s e_ hL=>sx 39 (t_eqi (o_t 38 rfl) (o_i (k:=.i64) (by decide)) rfl rfl) hL fun a s e_ hL=>sx 36 (t_assign (o_t 39 rfl) rfl rfl) hL fun a s e_ hL=>en' (hK23 _ _ ?_)
   refine cnd hL rfl (fun hb_=>?_) (fun hb_=>?_)
   ·replace h:=h.1 hb_
    refine wp_seq_k fun K24 hK24=>rg (sx 8 (t_assign (o_nil (E:=(En.slice En.SItem)) (N:=s0.w.heap.size) (te:=47)) rfl rfl) hL fun a s e_ hL=>?_)
    refine en' (hK24 _ _ ?_)
    refine wp_seq_k fun K25 hK25=>wp_seq_k fun K26 hK26=>rg (sx 40 (t_fab (off:=2) (o_t 5 rfl) Tryz.underlying77 rfl (prt_snd (prt_snd (prt_fst (prt_all _ _)) rfl) rfl) rfl ty3 rfl rfl) hL fun a s e_ hL=>?_)
    refine sx 41 (t_loado ty3 (o_t 40 rfl) rfl rfl) hL fun a s e_ hL=>sx 42 (t_eqi (o_t 41 rfl) (o_i (k:=.i64) (by decide)) rfl rfl) hL fun a s e_ hL=>en' (hK26 _ _ ?_)
    have J29 : ∀ (out27 : (List (List SItem))) (og28 : Option Nat) (a : Act) (s : St),Has N0 139 s0 a s [(5,(Pd.box En.SItem s0.w.heap.size g7 e4)),(6,(Pd.rep (En.slice En.SItem) (s_.drop (1 : Int).toNat))),(7,(Pd.box En.SNode s0.w.heap.size g11 e9)),(8,(Pd.row (En.slice En.SItem) s0.w.heap.size 47 og28 out27))] → Dis (some g7) (some g11) → Dis (some g7) og28 → Dis (some g11) og28 → ((heads_Open.j2 s_ r_ e4 e9) out27) → K25 a s.w:=by
     intro out27 og28 a s hL d30 d31 d32 h
     unfold heads_Open.j2 at h
     show K25 a s.w
     refine hK25 _ _ (wp_seq_k fun K33 hK33=>?_)
     refine wp_seq_k fun K34 hK34=>rg (sx 48 (t_fab (off:=3) (o_t 5 rfl) Tryz.underlying77 rfl (prt_snd (prt_snd (prt_snd (prt_all _ _) rfl) rfl) rfl) rfl ty3 rfl rfl) hL fun a s e_ hL=>?_)
     refine sx 49 (t_loado ty3 (o_t 48 rfl) rfl rfl) hL fun a s e_ hL=>sx 50 (t_gtr (o_t 49 rfl) (o_i (k:=.i64) (by decide)) rfl rfl) hL fun a s e_ hL=>en' (hK34 _ _ ?_)
     have J37 : ∀ (out35 : (List (List SItem))) (og36 : Option Nat) (a : Act) (s : St),Has N0 139 s0 a s [(8,(Pd.row (En.slice En.SItem) s0.w.heap.size 47 og36 out35))] → ((heads_Open.j1 r_) out35) → K33 a s.w:=by
      intro out35 og36 a s hL h
      unfold heads_Open.j1 at h
      show K33 a s.w
      refine hK33 _ _ (wp_seq_k fun K38 hK38=>?_)
      refine rg (sx 72 (t_move (o_t 8 rfl) rfl rfl) hL fun a s e_ hL=>?_)
      refine sx 4 (t_assign (o_t 72 rfl) rfl rfl) hL fun a s e_ hL=>en' (hK38 _ _ ?_)
      subst h
      exact wp_ret (reto rfl hL rfl)
     refine cnd hL rfl (fun hb_=>?_) (fun hb_=>?_)
     ·replace h:=h.1 hb_
      obtain ⟨r39,h40,h41,h42,r43,h44,h45,h⟩:=h
      refine rda follows 20 [(Pd.row (En.slice En.SItem) s0.w.heap.size 47 og28 out27),(Pd.rep (En.slice En.SItem) (s_.drop (1 : Int).toNat)),(Pd.optr (En.int .i64) s0.w.heap.size (some g11) (1) e9.2.1),(Pd.rep (En.int .i64) e9.2.1),(Pd.rep En.SItem r39),(Pd.optr (En.int .i64) s0.w.heap.size (some g7) (0) e4.1),(Pd.rep (En.int .i64) e4.1),(Pd.optr (En.int .i64) s0.w.heap.size (some g7) (1) e4.2.1),(Pd.rep (En.int .i64) e4.2.1),(Pd.optr (En.int .i64) s0.w.heap.size (some g7) (2) e4.2.2.1),(Pd.rep (En.int .i64) e4.2.2.1),(Pd.rep (En.int .i64) (e4.2.2.1 - 1)),(Pd.rep (En.int .i64) (max (e4.2.2.1 - 1) 0)),(Pd.optr (En.int .i64) s0.w.heap.size (some g7) (3) e4.2.2.2),(Pd.rep (En.int .i64) e4.2.2.2),(Pd.rep (En.int .i64) (e4.2.2.2 - 1)),(Pd.rep En.SItem (e4.1,e4.2.1,(max (e4.2.2.1 - 1) 0),e4.2.2.2 - 1)),(Pd.rep (En.slice En.SItem) [r39,(e4.1,e4.2.1,(max (e4.2.2.1 - 1) 0),e4.2.2.2 - 1)]),(Pd.rep (En.slice En.SItem) r43),(Pd.rep (En.slice (En.slice En.SItem)) [r43])] hL (by kernel_rfl) rfl rfl ?_ ?_
      ·refine AllT.cons (t_move (o_t 8 rfl) rfl rfl) ?_
       refine AllT.cons (t_move (o_t 6 rfl) rfl rfl) (AllT.cons (t_fab (off:=1) (o_t 7 rfl) Tryz.underlying68 rfl (prt_snd (prt_fst (prt_all _ _)) rfl) rfl ty3 rfl rfl) ?_)
       refine AllT.cons (t_loado ty3 (o_t 53 rfl) rfl rfl) (AllT.cons (t_call (heads_node_ok h40) (xs:=[.tmp 54]) (.cons (o_t 54 rfl) .nil) rfl rfl) ?_)
       refine AllT.cons (t_fab (off:=0) (o_t 5 rfl) Tryz.underlying77 rfl (prt_fst (prt_all _ _)) rfl ty3 rfl rfl) (AllT.cons (t_loado ty3 (o_t 56 rfl) rfl rfl) ?_)
       refine AllT.cons (t_fab (off:=1) (o_t 5 rfl) Tryz.underlying77 rfl (prt_snd (prt_fst (prt_all _ _)) rfl) rfl ty3 rfl rfl) (AllT.cons (t_loado ty3 (o_t 58 rfl) rfl rfl) ?_)
       refine AllT.cons (t_fab (off:=2) (o_t 5 rfl) Tryz.underlying77 rfl (prt_snd (prt_snd (prt_fst (prt_all _ _)) rfl) rfl) rfl ty3 rfl rfl) (AllT.cons (t_loado ty3 (o_t 60 rfl) rfl rfl) ?_)
       refine AllT.cons (t_sub (o_t 61 rfl) (o_i (k:=.i64) (by decide)) h41 rfl rfl) (AllT.cons (t_max (o_t 62 rfl) (o_i (k:=.i64) (by decide)) rfl rfl) ?_)
       refine AllT.cons (t_fab (off:=3) (o_t 5 rfl) Tryz.underlying77 rfl (prt_snd (prt_snd (prt_snd (prt_all _ _) rfl) rfl) rfl) rfl ty3 rfl rfl) (AllT.cons (t_loado ty3 (o_t 64 rfl) rfl rfl) ?_)
       refine AllT.cons (t_sub (o_t 65 rfl) (o_i (k:=.i64) (by decide)) h42 rfl rfl) (AllT.cons (t_build (x:=(e4.1,e4.2.1,(max (e4.2.2.1 - 1) 0),e4.2.2.2 - 1)) (ps:=[(0,.tmp 57),(1,.tmp 59),(2,.tmp 63),(3,.tmp 66)]) tyz77 rfl stt77 (.cons (i:=0) (o_t 57 rfl) rfl (sub_fst (sub_all _ _ _)) (.cons (i:=1) (o_t 59 rfl) rfl (sub_snd (sub_fst (sub_all _ _ _)) rfl) (.cons (i:=2) (o_t 63 rfl) rfl (sub_snd (sub_snd (sub_fst (sub_all _ _ _)) rfl) rfl) (.cons (i:=3) (o_t 66 rfl) rfl (sub_snd (sub_snd (sub_snd (sub_all _ _ _) rfl) rfl) rfl) .nil)))) rfl rfl) ?_)
       refine AllT.cons (t_lit (xs:=[.tmp 55,.tmp 67]) (.cons (o_t 55 rfl) (.cons (o_t 67 rfl) .nil)) Tryz.underlying46 ty77 rfl rfl (by decide) rfl rfl) (AllT.cons (t_call ((heads_with_ok h44).frz) (xs:=[.tmp 52,.tmp 68]) (.cons (o_t 52 rfl) (.cons (o_t 68 rfl) .nil)) rfl rfl) ?_)
       refine AllT.cons (t_lit (xs:=[.tmp 69]) (.cons (o_t 69 rfl) .nil) Tryz.underlying25 ty47 rfl rfl (by decide) rfl rfl) ?_
       exact AllT.nil
      intro a s e_ hL
      refine st_app (L':=[]) 71 hL (o_t 51 rfl) (o_t 70 rfl) Tryz.underlying25 ty47 h45 rfl rfl rfl rfl .nil fun a s og46 hg_ hL=>?_
      refine sx 8 (t_assign (o_t 71 rfl) rfl rfl) hL fun a s e_ hL=>en' ?_
      exact J37 (out27 ++ [r43]) og46 a s (hL.keep (.cons (t:=8) rfl (fun _ _ h_=>h_) .nil)) h
     ·replace h:=h.2 hb_
      refine wp_skip ?_
      exact J37 out27 og28 a s (hL.keep (.cons (t:=8) rfl (fun _ _ h_=>h_) .nil)) h
    refine cnd hL rfl (fun hb_=>?_) (fun hb_=>?_)
    ·replace h:=h.1 hb_
     obtain ⟨r47,h48,h49,h⟩:=h
     refine rg (sx 43 (t_move (o_t 8 rfl) rfl rfl) hL fun a s e_ hL=>?_)
     refine sx 44 (t_move (o_t 6 rfl) rfl rfl) hL fun a s e_ hL=>sx 45 (t_call ((heads_with_ok h48).frz) (xs:=[.tmp 44,.const (.slice none 0 0)]) (.cons (o_t 44 rfl) (.cons o_nilr .nil)) rfl rfl) hL fun a s e_ hL=>sx 46 (t_lit (xs:=[.tmp 45]) (.cons (o_t 45 rfl) .nil) Tryz.underlying25 ty47 rfl rfl (by decide) rfl rfl) hL fun a s e_ hL=>?_
     have lt_og50_0:=hL.blt 5 rfl
     have lt_og50_1:=hL.blt 7 rfl
     refine st_app (L':=[(5,(Pd.box En.SItem s0.w.heap.size g7 e4)),(6,(Pd.rep (En.slice En.SItem) (s_.drop (1 : Int).toNat))),(7,(Pd.box En.SNode s0.w.heap.size g11 e9)),(8,(Pd.row (En.slice En.SItem) s0.w.heap.size 47 none ([] : (List (List SItem)))))]) 47 hL (o_t 43 rfl) (o_t 46 rfl) Tryz.underlying25 ty47 h49 rfl rfl rfl rfl (.cons (t:=5) rfl (Dis.bx (Dis.symm Dis.none)) (.cons (t:=6) rfl nE (.cons (t:=7) rfl (Dis.bx (Dis.symm Dis.none)) (.cons (t:=8) rfl no_own .nil)))) fun a s og50 hg_ hL=>?_
     have d51 : Dis og50 (some g7):=Dis.app hg_ Dis.none lt_og50_0
     have d52 : Dis og50 (some g11):=Dis.app hg_ Dis.none lt_og50_1
     refine sx 8 (t_assign (o_t 47 rfl) rfl rfl) hL fun a s e_ hL=>en' ?_
     exact J29 (([] : (List (List SItem))) ++ [r47]) og50 a s (hL.keep (.cons (t:=5) rfl (fun _ _ h_=>h_) (.cons (t:=6) rfl nE (.cons (t:=7) rfl (fun _ _ h_=>h_) (.cons (t:=8) rfl (fun _ _ h_=>h_) .nil))))) (Dis.symm d12) (Dis.symm d51) (Dis.symm d52) h
    ·replace h:=h.2 hb_
     refine wp_skip ?_
     exact J29 ([] : (List (List SItem))) none a s (hL.keep (.cons (t:=5) rfl (fun _ _ h_=>h_) (.cons (t:=6) rfl nE (.cons (t:=7) rfl (fun _ _ h_=>h_) (.cons (t:=8) rfl (fun _ _ h_=>h_) .nil))))) (Dis.symm d12) (Dis.symm Dis.none) (Dis.symm Dis.none) h
   ·replace h:=h.2 hb_
    refine wp_skip ?_
    show K13 a s.w
    refine hK13 _ _ (wp_seq_k fun K53 hK53=>?_)
    refine wp_seq_k fun K54 hK54=>rg (sx 73 (t_fab (off:=0) (o_t 7 rfl) Tryz.underlying68 rfl (prt_fst (prt_all _ _)) rfl ty3 rfl rfl) hL fun a s e_ hL=>?_)
    refine sx 74 (t_loado ty3 (o_t 73 rfl) rfl rfl) hL fun a s e_ hL=>en' (hK54 _ _ ?_)
    refine wp_block (wp_seq_k fun K55 hK55=>?_)
    refine rg (sx 76 (t_eqi (o_t 74 rfl) (o_i (k:=.i64) (by decide)) rfl rfl) hL fun a s e_ hL=>?_)
    refine sx 75 (t_assign (o_t 76 rfl) rfl rfl) hL fun a s e_ hL=>en' (hK55 _ _ ?_)
    refine cnd hL rfl (fun hb_=>?_) (fun hb_=>?_)
    ·replace h:=h.1 hb_
     refine wp_seq_k fun K56 hK56=>?_
     obtain ⟨r57,h58,h⟩:=h
     refine rg (sx 77 (t_move (o_t 6 rfl) rfl rfl) hL fun a s e_ hL=>?_)
     refine sx 78 (t_call ((heads_with_ok h58).frz) (xs:=[.tmp 77,.const (.slice none 0 0)]) (.cons (o_t 77 rfl) (.cons o_nilr .nil)) rfl rfl) hL fun a s e_ hL=>?_
     have lt_d61:=hL.blt 7 rfl
     have lt_d60:=hL.blt 5 rfl
     refine st_lito (xs:=[.tmp 78]) 79 hL (.cons (o_t 78 rfl) .nil) Tryz.underlying25 ty47 rfl rfl (by decide) rfl rfl rfl rfl fun a s g59 hg_ hL=>?_
     have d60 : Dis (some g59) (some g7):=Dis.newg hg_ lt_d60
     have d61 : Dis (some g59) (some g11):=Dis.newg hg_ lt_d61
     refine sx 4 (t_assign (o_t 79 rfl) rfl rfl) hL fun a s e_ hL=>en' (hK56 _ _ ?_)
     subst h
     exact wp_ret (reto rfl hL rfl)
    ·replace h:=h.2 hb_
     refine wp_seq_k fun K62 hK62=>rg (sx 81 (t_eqi (o_t 74 rfl) (o_i (k:=.i64) (by decide)) rfl rfl) hL fun a s e_ hL=>?_)
     refine sx 80 (t_assign (o_t 81 rfl) rfl rfl) hL fun a s e_ hL=>en' (hK62 _ _ ?_)
     refine cnd hL rfl (fun hb_=>?_) (fun hb_=>?_)
     ·replace h:=h.1 hb_
      refine wp_seq_k fun K63 hK63=>?_
      obtain ⟨r64,h65,h⟩:=h
      refine rg (sx 82 (t_move (o_t 6 rfl) rfl rfl) hL fun a s e_ hL=>?_)
      refine sx 83 (t_fab (off:=1) (o_t 5 rfl) Tryz.underlying77 rfl (prt_snd (prt_fst (prt_all _ _)) rfl) rfl ty3 rfl rfl) hL fun a s e_ hL=>sx 84 (t_loado ty3 (o_t 83 rfl) rfl rfl) hL fun a s e_ hL=>sx 85 (t_build (x:=(3,e4.2.1,0,0)) (ps:=[(0,.const (.int .i64 3)),(1,.tmp 84)]) tyz77 rfl stt77 (.cons (i:=0) (o_i (k:=.i64) (by decide)) rfl (sub_fst (sub_all _ _ _)) (.cons (i:=1) (o_t 84 rfl) rfl (sub_snd (sub_fst (sub_all _ _ _)) rfl) .nil)) rfl rfl) hL fun a s e_ hL=>sx 86 (t_lit (xs:=[.tmp 85]) (.cons (o_t 85 rfl) .nil) Tryz.underlying46 ty77 rfl rfl (by decide) rfl rfl) hL fun a s e_ hL=>sx 87 (t_call ((heads_with_ok h65).frz) (xs:=[.tmp 82,.tmp 86]) (.cons (o_t 82 rfl) (.cons (o_t 86 rfl) .nil)) rfl rfl) hL fun a s e_ hL=>?_
      have lt_d68:=hL.blt 7 rfl
      have lt_d67:=hL.blt 5 rfl
      refine st_lito (xs:=[.tmp 87]) 88 hL (.cons (o_t 87 rfl) .nil) Tryz.underlying25 ty47 rfl rfl (by decide) rfl rfl rfl rfl fun a s g66 hg_ hL=>?_
      have d67 : Dis (some g66) (some g7):=Dis.newg hg_ lt_d67
      have d68 : Dis (some g66) (some g11):=Dis.newg hg_ lt_d68
      refine sx 4 (t_assign (o_t 88 rfl) rfl rfl) hL fun a s e_ hL=>en' (hK63 _ _ ?_)
      subst h
      exact wp_ret (reto rfl hL rfl)
     ·replace h:=h.2 hb_
      refine wp_seq_k fun K69 hK69=>rg (sx 90 (t_eqi (o_t 74 rfl) (o_i (k:=.i64) (by decide)) rfl rfl) hL fun a s e_ hL=>?_)
      refine sx 89 (t_assign (o_t 90 rfl) rfl rfl) hL fun a s e_ hL=>en' (hK69 _ _ ?_)
      refine cnd hL rfl (fun hb_=>?_) (fun hb_=>?_)
      ·replace h:=h.1 hb_
       refine wp_seq_k fun K70 hK70=>?_
       obtain ⟨r71,h72,r73,h74,r75,h76,h⟩:=h
       refine rda follows 9 [(Pd.rep (En.slice En.SItem) (s_.drop (1 : Int).toNat)),(Pd.optr (En.int .i64) s0.w.heap.size (some g11) (1) e9.2.1),(Pd.rep (En.int .i64) e9.2.1),(Pd.rep En.SItem r71),(Pd.optr (En.int .i64) s0.w.heap.size (some g11) (2) e9.2.2.1),(Pd.rep (En.int .i64) e9.2.2.1),(Pd.rep En.SItem r73),(Pd.rep (En.slice En.SItem) [r71,r73]),(Pd.rep (En.slice En.SItem) r75)] hL (by kernel_rfl) rfl rfl ?_ ?_
       ·refine AllT.cons (t_move (o_t 6 rfl) rfl rfl) ?_
        refine AllT.cons (t_fab (off:=1) (o_t 7 rfl) Tryz.underlying68 rfl (prt_snd (prt_fst (prt_all _ _)) rfl) rfl ty3 rfl rfl) (AllT.cons (t_loado ty3 (o_t 92 rfl) rfl rfl) ?_)
        refine AllT.cons (t_call (heads_node_ok h72) (xs:=[.tmp 93]) (.cons (o_t 93 rfl) .nil) rfl rfl) (AllT.cons (t_fab (off:=2) (o_t 7 rfl) Tryz.underlying68 rfl (prt_snd (prt_snd (prt_fst (prt_all _ _)) rfl) rfl) rfl ty3 rfl rfl) ?_)
        refine AllT.cons (t_loado ty3 (o_t 95 rfl) rfl rfl) (AllT.cons (t_call (heads_node_ok h74) (xs:=[.tmp 96]) (.cons (o_t 96 rfl) .nil) rfl rfl) ?_)
        refine AllT.cons (t_lit (xs:=[.tmp 94,.tmp 97]) (.cons (o_t 94 rfl) (.cons (o_t 97 rfl) .nil)) Tryz.underlying46 ty77 rfl rfl (by decide) rfl rfl) (AllT.cons (t_call ((heads_with_ok h76).frz) (xs:=[.tmp 91,.tmp 98]) (.cons (o_t 91 rfl) (.cons (o_t 98 rfl) .nil)) rfl rfl) ?_)
        exact AllT.nil
       intro a s e_ hL
       have lt_d79:=hL.blt 7 rfl
       have lt_d78:=hL.blt 5 rfl
       refine st_lito (xs:=[.tmp 99]) 100 hL (.cons (o_t 99 rfl) .nil) Tryz.underlying25 ty47 rfl rfl (by decide) rfl rfl rfl rfl fun a s g77 hg_ hL=>?_
       have d78 : Dis (some g77) (some g7):=Dis.newg hg_ lt_d78
       have d79 : Dis (some g77) (some g11):=Dis.newg hg_ lt_d79
       refine sx 4 (t_assign (o_t 100 rfl) rfl rfl) hL fun a s e_ hL=>en' (hK70 _ _ ?_)
       subst h
       exact wp_ret (reto rfl hL rfl)
      ·replace h:=h.2 hb_
       refine wp_seq_k fun K80 hK80=>rg (sx 102 (t_eqi (o_t 74 rfl) (o_i (k:=.i64) (by decide)) rfl rfl) hL fun a s e_ hL=>?_)
       refine sx 101 (t_assign (o_t 102 rfl) rfl rfl) hL fun a s e_ hL=>en' (hK80 _ _ ?_)
       refine cnd hL rfl (fun hb_=>?_) (fun hb_=>?_)
       ·replace h:=h.1 hb_
        refine wp_seq_k fun K81 hK81=>?_
        obtain ⟨r82,h83,r84,h85,r86,h87,r88,h89,h⟩:=h
        refine rda follows 12 [(Pd.rep (En.slice En.SItem) (s_.drop (1 : Int).toNat)),(Pd.optr (En.int .i64) s0.w.heap.size (some g11) (1) e9.2.1),(Pd.rep (En.int .i64) e9.2.1),(Pd.rep En.SItem r82),(Pd.rep (En.slice En.SItem) [r82]),(Pd.rep (En.slice En.SItem) r84),(Pd.rep (En.slice En.SItem) (s_.drop (1 : Int).toNat)),(Pd.optr (En.int .i64) s0.w.heap.size (some g11) (2) e9.2.2.1),(Pd.rep (En.int .i64) e9.2.2.1),(Pd.rep En.SItem r86),(Pd.rep (En.slice En.SItem) [r86]),(Pd.rep (En.slice En.SItem) r88)] hL (by kernel_rfl) rfl rfl ?_ ?_
        ·refine AllT.cons (t_move (o_t 6 rfl) rfl rfl) ?_
         refine AllT.cons (t_fab (off:=1) (o_t 7 rfl) Tryz.underlying68 rfl (prt_snd (prt_fst (prt_all _ _)) rfl) rfl ty3 rfl rfl) (AllT.cons (t_loado ty3 (o_t 104 rfl) rfl rfl) ?_)
         refine AllT.cons (t_call (heads_node_ok h83) (xs:=[.tmp 105]) (.cons (o_t 105 rfl) .nil) rfl rfl) (AllT.cons (t_lit (xs:=[.tmp 106]) (.cons (o_t 106 rfl) .nil) Tryz.underlying46 ty77 rfl rfl (by decide) rfl rfl) ?_)
         refine AllT.cons (t_call ((heads_with_ok h85).frz) (xs:=[.tmp 103,.tmp 107]) (.cons (o_t 103 rfl) (.cons (o_t 107 rfl) .nil)) rfl rfl) (AllT.cons (t_move (o_t 6 rfl) rfl rfl) ?_)
         refine AllT.cons (t_fab (off:=2) (o_t 7 rfl) Tryz.underlying68 rfl (prt_snd (prt_snd (prt_fst (prt_all _ _)) rfl) rfl) rfl ty3 rfl rfl) (AllT.cons (t_loado ty3 (o_t 110 rfl) rfl rfl) ?_)
         refine AllT.cons (t_call (heads_node_ok h87) (xs:=[.tmp 111]) (.cons (o_t 111 rfl) .nil) rfl rfl) (AllT.cons (t_lit (xs:=[.tmp 112]) (.cons (o_t 112 rfl) .nil) Tryz.underlying46 ty77 rfl rfl (by decide) rfl rfl) ?_)
         refine AllT.cons (t_call ((heads_with_ok h89).frz) (xs:=[.tmp 109,.tmp 113]) (.cons (o_t 109 rfl) (.cons (o_t 113 rfl) .nil)) rfl rfl) ?_
         exact AllT.nil
        intro a s e_ hL
        have lt_d92:=hL.blt 7 rfl
        have lt_d91:=hL.blt 5 rfl
        refine st_lito (xs:=[.tmp 108,.tmp 114]) 115 hL (.cons (o_t 108 rfl) (.cons (o_t 114 rfl) .nil)) Tryz.underlying25 ty47 rfl rfl (by decide) rfl rfl rfl rfl fun a s g90 hg_ hL=>?_
        have d91 : Dis (some g90) (some g7):=Dis.newg hg_ lt_d91
        have d92 : Dis (some g90) (some g11):=Dis.newg hg_ lt_d92
        refine sx 4 (t_assign (o_t 115 rfl) rfl rfl) hL fun a s e_ hL=>en' (hK81 _ _ ?_)
        subst h
        exact wp_ret (reto rfl hL rfl)
       ·replace h:=h.2 hb_
        refine wp_seq_k fun K93 hK93=>rg (sx 117 (t_eqi (o_t 74 rfl) (o_i (k:=.i64) (by decide)) rfl rfl) hL fun a s e_ hL=>?_)
        refine sx 116 (t_assign (o_t 117 rfl) rfl rfl) hL fun a s e_ hL=>en' (hK93 _ _ ?_)
        refine cnd hL rfl (fun hb_=>?_) (fun hb_=>?_)
        ·replace h:=h.1 hb_
         refine wp_seq_k fun K94 hK94=>?_
         obtain ⟨r95,h96,r97,h98,r99,h100,h⟩:=h
         refine rda follows 9 [(Pd.rep (En.slice En.SItem) (s_.drop (1 : Int).toNat)),(Pd.rep (En.slice En.SItem) r95),(Pd.rep (En.slice En.SItem) (s_.drop (1 : Int).toNat)),(Pd.optr (En.int .i64) s0.w.heap.size (some g11) (1) e9.2.1),(Pd.rep (En.int .i64) e9.2.1),(Pd.rep En.SItem r97),(Pd.rep En.SItem e4),(Pd.rep (En.slice En.SItem) [r97,e4]),(Pd.rep (En.slice En.SItem) r99)] hL (by kernel_rfl) rfl rfl ?_ ?_
         ·refine AllT.cons (t_move (o_t 6 rfl) rfl rfl) ?_
          refine AllT.cons (t_call ((heads_with_ok h96).frz) (xs:=[.tmp 118,.const (.slice none 0 0)]) (.cons (o_t 118 rfl) (.cons o_nilr .nil)) rfl rfl) (AllT.cons (t_move (o_t 6 rfl) rfl rfl) ?_)
          refine AllT.cons (t_fab (off:=1) (o_t 7 rfl) Tryz.underlying68 rfl (prt_snd (prt_fst (prt_all _ _)) rfl) rfl ty3 rfl rfl) (AllT.cons (t_loado ty3 (o_t 121 rfl) rfl rfl) ?_)
          refine AllT.cons (t_call (heads_node_ok h98) (xs:=[.tmp 122]) (.cons (o_t 122 rfl) .nil) rfl rfl) (AllT.cons (t_loadb ty77 (o_t 5 rfl) rfl rfl) ?_)
          refine AllT.cons (t_lit (xs:=[.tmp 123,.tmp 124]) (.cons (o_t 123 rfl) (.cons (o_t 124 rfl) .nil)) Tryz.underlying46 ty77 rfl rfl (by decide) rfl rfl) (AllT.cons (t_call ((heads_with_ok h100).frz) (xs:=[.tmp 120,.tmp 125]) (.cons (o_t 120 rfl) (.cons (o_t 125 rfl) .nil)) rfl rfl) ?_)
          exact AllT.nil
         intro a s e_ hL
         have lt_d103:=hL.blt 7 rfl
         have lt_d102:=hL.blt 5 rfl
         refine st_lito (xs:=[.tmp 119,.tmp 126]) 127 hL (.cons (o_t 119 rfl) (.cons (o_t 126 rfl) .nil)) Tryz.underlying25 ty47 rfl rfl (by decide) rfl rfl rfl rfl fun a s g101 hg_ hL=>?_
         have d102 : Dis (some g101) (some g7):=Dis.newg hg_ lt_d102
         have d103 : Dis (some g101) (some g11):=Dis.newg hg_ lt_d103
         refine sx 4 (t_assign (o_t 127 rfl) rfl rfl) hL fun a s e_ hL=>en' (hK94 _ _ ?_)
         subst h
         exact wp_ret (reto rfl hL rfl)
        ·replace h:=h.2 hb_
         refine wp_skip ?_
         show K53 a s.w
         refine hK53 _ _ (wp_seq_k fun K104 hK104=>?_)
         obtain ⟨r105,h106,h⟩:=h
         refine rg (sx 128 (t_move (o_t 6 rfl) rfl rfl) hL fun a s e_ hL=>?_)
         refine sx 129 (t_fab (off:=1) (o_t 5 rfl) Tryz.underlying77 rfl (prt_snd (prt_fst (prt_all _ _)) rfl) rfl ty3 rfl rfl) hL fun a s e_ hL=>sx 130 (t_loado ty3 (o_t 129 rfl) rfl rfl) hL fun a s e_ hL=>sx 131 (t_fab (off:=3) (o_t 7 rfl) Tryz.underlying68 rfl (prt_snd (prt_snd (prt_snd (prt_fst (prt_all _ _)) rfl) rfl) rfl) rfl ty3 rfl rfl) hL fun a s e_ hL=>sx 132 (t_loado ty3 (o_t 131 rfl) rfl rfl) hL fun a s e_ hL=>sx 133 (t_fab (off:=4) (o_t 7 rfl) Tryz.underlying68 rfl (prt_snd (prt_snd (prt_snd (prt_snd (prt_fst (prt_all _ _)) rfl) rfl) rfl) rfl) rfl ty3 rfl rfl) hL fun a s e_ hL=>sx 134 (t_loado ty3 (o_t 133 rfl) rfl rfl) hL fun a s e_ hL=>sx 135 (t_build (x:=(2,e4.2.1,e9.2.2.2.1,e9.2.2.2.2.1)) (ps:=[(0,.const (.int .i64 2)),(1,.tmp 130),(2,.tmp 132),(3,.tmp 134)]) tyz77 rfl stt77 (.cons (i:=0) (o_i (k:=.i64) (by decide)) rfl (sub_fst (sub_all _ _ _)) (.cons (i:=1) (o_t 130 rfl) rfl (sub_snd (sub_fst (sub_all _ _ _)) rfl) (.cons (i:=2) (o_t 132 rfl) rfl (sub_snd (sub_snd (sub_fst (sub_all _ _ _)) rfl) rfl) (.cons (i:=3) (o_t 134 rfl) rfl (sub_snd (sub_snd (sub_snd (sub_all _ _ _) rfl) rfl) rfl) .nil)))) rfl rfl) hL fun a s e_ hL=>sx 136 (t_lit (xs:=[.tmp 135]) (.cons (o_t 135 rfl) .nil) Tryz.underlying46 ty77 rfl rfl (by decide) rfl rfl) hL fun a s e_ hL=>sx 137 (t_call ((heads_with_ok h106).frz) (xs:=[.tmp 128,.tmp 136]) (.cons (o_t 128 rfl) (.cons (o_t 136 rfl) .nil)) rfl rfl) hL fun a s e_ hL=>?_
         have lt_d109:=hL.blt 7 rfl
         have lt_d108:=hL.blt 5 rfl
         refine st_lito (xs:=[.tmp 137]) 138 hL (.cons (o_t 137 rfl) .nil) Tryz.underlying25 ty47 rfl rfl (by decide) rfl rfl rfl rfl fun a s g107 hg_ hL=>?_
         have d108 : Dis (some g107) (some g7):=Dis.newg hg_ lt_d108
         have d109 : Dis (some g107) (some g11):=Dis.newg hg_ lt_d109
         refine sx 4 (t_assign (o_t 138 rfl) rfl rfl) hL fun a s e_ hL=>en' (hK104 _ _ ?_)
         subst h
         exact wp_ret (reto rfl hL rfl)
end Go.Proofs.YtahgmdbioafmbaaGreatDoor.V
namespace Go.Proofs.YtahgmdbioafmbaaGreatDoor.VD
open Go
set_option linter.unusedVariables false
structure St where
 w : World
 X : Nat → Prop
 lt : ∀ b,X b → b < w.heap.size
def DR (w w' : World) : Prop:=w.drawn ≤ w'.drawn
theorem DR.eq {w w' : World} (h : w'.drawn = w.drawn) : DR w w':=Nat.le_of_eq h.symm
theorem DR.succ {w w' : World} (h : w'.drawn = w.drawn + 1) : DR w w':=by unfold DR; omega
theorem DR.trans {a b c : World} (h : DR a b) (k : DR b c) : DR a c:=Nat.le_trans h k
structure Mv (T : Nat → Prop) (s s' : St) : Prop where
 dr : DR s.w s'.w
 os : s'.w.os = s.w.os
 tape : s'.w.tape = s.w.tape
 output : s'.w.output = s.w.output
 size : s.w.heap.size ≤ s'.w.heap.size
 blk : ∀ b,b < s.w.heap.size → ¬ T b → s'.w.heap[b]? = s.w.heap[b]?
 tx : ∀ b,T b → s.X b
 xx : ∀ b,s'.X b → s.X b ∨ s.w.heap.size ≤ b
structure Ex (s s' : St) : Prop where
 mv : Mv (fun _=>False) s s'
 keep : ∀ b,s.X b → s'.X b
theorem Mv.refl (T : Nat → Prop) (s : St) (h : ∀ b,T b → s.X b) : Mv T s s:=⟨DR.eq rfl,rfl,rfl,rfl,Nat.le_refl _,fun _ _ _=>rfl,h,fun _ h=>.inl h⟩
theorem Ex.refl (s : St) : Ex s s:=⟨Mv.refl _ s (fun _ h=>h.elim),fun _ h=>h⟩
theorem Ex.trans {a b c : St} (h : Ex a b) (k : Ex b c) : Ex a c:=
 ⟨⟨h.mv.dr.trans k.mv.dr,k.mv.os.trans h.mv.os,k.mv.tape.trans h.mv.tape,k.mv.output.trans h.mv.output,Nat.le_trans h.mv.size k.mv.size,
  fun i hi hn=>(k.mv.blk i (Nat.lt_of_lt_of_le hi h.mv.size) hn).trans (h.mv.blk i hi hn),fun _ h=>h.elim,
  fun i hi=>(k.mv.xx i hi).elim (fun j=>h.mv.xx i j) (fun j=>.inr (Nat.le_trans h.mv.size j))⟩,fun i hi=>k.keep i (h.keep i hi)⟩
def Gl (s : St) : Prop:=(∀ p ∈ V.gtab,¬ s.X p.1 ∧ ∃ t fr,s.w.heap[p.1]? = some (.cells p.2.toArray t fr)) ∧
 ∀ p ∈ V.gmap,¬ s.X p.1 ∧ ∃ m t fr es clock ys,s.w.heap[p.1]? = some (.cells #[.map (some m)] t fr) ∧ ¬ s.X m ∧ s.w.heap[m]? = some (.map es clock) ∧ V.Fmst es clock ys ∧ ys.Perm p.2
theorem Gl.mv {T : Nat → Prop} {s s' : St} (h : Gl s) (m : Mv T s s') : Gl s':=by
 have key : ∀ b o,¬ s.X b → s.w.heap[b]? = some o → ¬ s'.X b ∧ s'.w.heap[b]? = some o:=fun b o h1 h2=>by
  have hlt : b < s.w.heap.size:=(Array.getElem?_eq_some_iff.1 h2).1
  refine ⟨fun hx=>(m.xx _ hx).elim h1 (fun hk=>by omega), ?_⟩
  rw [m.blk _ hlt (fun ht=>h1 (m.tx _ ht))]; exact h2
 refine ⟨fun p hp=>?_,fun p hp=>?_⟩
 ·obtain ⟨h1,t,fr,h2⟩:=h.1 p hp
  obtain ⟨k1,k2⟩:=key _ _ h1 h2
  exact ⟨k1,t,fr,k2⟩
 ·obtain ⟨h1,b,t,fr,es,clock,ys,h2,h3,h4,h5,h6⟩:=h.2 p hp
  obtain ⟨k1,k2⟩:=key _ _ h1 h2
  obtain ⟨k3,k4⟩:=key _ _ h3 h4
  exact ⟨k1,b,t,fr,es,clock,ys,k2,k3,k4,h5,h6⟩
abbrev N0 : Nat → Prop:=fun _=>False
structure Fr (M : Nat → Prop) (s s' : St) : Prop where
 mv : Mv M s s'
 keep : ∀ b,s.X b → s'.X b
theorem Fr.ex {s s' : St} (h : Fr N0 s s') : Ex s s':=⟨h.mv,h.keep⟩
theorem Fr.refl {M : Nat → Prop} {s : St} (h : ∀ b,M b → s.X b) : Fr M s s:=⟨Mv.refl M s h,fun _ h=>h⟩
theorem Fr.trans {M : Nat → Prop} {a b c : St} (h : Fr M a b) (k : Ex b c) : Fr M a c:=
 ⟨⟨h.mv.dr.trans k.mv.dr,k.mv.os.trans h.mv.os,k.mv.tape.trans h.mv.tape,k.mv.output.trans h.mv.output,Nat.le_trans h.mv.size k.mv.size,
  fun i hi hn=>(k.mv.blk i (Nat.lt_of_lt_of_le hi h.mv.size) (fun h=>h)).trans (h.mv.blk i hi hn),h.mv.tx,
  fun i hi=>(k.mv.xx i hi).elim (fun j=>h.mv.xx i j) (fun j=>.inr (Nat.le_trans h.mv.size j))⟩,fun i hi=>k.keep i (h.keep i hi)⟩
structure Pd where
 p : St → Value → Prop
 own : Nat → Prop
 mv : ∀ {T s s' v},Mv T s s' → (∀ b,own b → ¬ T b ∧ (s.X b → s'.X b)) → p s v → p s' v
theorem Pd.ex {q : Pd} {s s' : St} {v : Value} (h : Ex s s') (hq : q.p s v) : q.p s' v:=q.mv h.mv (fun b _=>⟨id,h.keep b⟩) hq
abbrev Lst:=List (Nat × Pd)
def lk : Lst → Nat → Option Pd
 | [],_=>none
 | (d,q) :: r,t=>bif Nat.beq d t then some q else lk r t
structure Has (M : Nat → Prop) (n : Nat) (s0 : St) (a : Act) (s : St) (L : Lst) : Prop where
 size : a.tmps.size = n
 defers : a.defers = []
 ent : Fr M s0 s
 gl : Gl s0
 at_ : ∀ t q,lk L t = some q → q.p s (a.eval (.tmp t))
theorem Has.gls {M : Nat → Prop} {n : Nat} {s0 : St} {a : Act} {s : St} {L : Lst} (h : Has M n s0 a s L) : Gl s:=h.gl.mv h.ent.mv
theorem Has.get {M : Nat → Prop} {n : Nat} {s0 : St} {a : Act} {s : St} {L : Lst} (h : Has M n s0 a s L) (t : Nat) {q : Pd} (e : lk L t = some q) : q.p s (a.eval (.tmp t)):=h.at_ t q e
theorem eval_put_same {a : Act} {d n : Nat} {v : Value} (hn : a.tmps.size = n) (hd : Nat.blt d n = true) : (a.put (some d) v).eval (.tmp d) = v:=by
 have : d < a.tmps.size:=by rw [hn]; exact Nat.le_of_ble_eq_true hd
 simp [Act.eval,Act.put,Array.getD,this]
theorem eval_put_ne {a : Act} {d t : Nat} {v : Value} (h : d ≠ t) : (a.put (some d) v).eval (.tmp t) = a.eval (.tmp t):=by
 simp [Act.eval,Act.put,Array.getElem?_setIfInBounds_ne h]
theorem beq_no {d t : Nat} (h : d ≠ t) : Nat.beq d t = false:=by
 rw [← Bool.not_eq_true]; exact fun e=>h (Nat.eq_of_beq_eq_true e)
theorem Has.put {M : Nat → Prop} {n : Nat} {s0 : St} {a : Act} {s s' : St} {L : Lst} (h : Has M n s0 a s L) (e : Ex s s') {d : Nat} (hd : Nat.blt d n = true) {v : Value} {q : Pd} (hq : q.p s' v) :
  Has M n s0 (a.put (some d) v) s' ((d,q) :: L) where
 size:=by simp [Act.put,h.size]
 defers:=h.defers
 ent:=h.ent.trans e
 gl:=h.gl
 at_:=by
  intro t q' hl
  unfold lk at hl
  by_cases ht : d = t
  ·subst ht
   simp at hl
   subst hl
   rw [eval_put_same h.size hd]; exact hq
  ·have : Nat.beq d t = false:=beq_no ht
   rw [this] at hl
   rw [eval_put_ne ht]
   exact Pd.ex e (h.at_ t q' hl)
theorem Has.ex {M : Nat → Prop} {n : Nat} {s0 : St} {a : Act} {s s' : St} {L : Lst} (h : Has M n s0 a s L) (e : Ex s s') : Has M n s0 a s' L where
 size:=h.size
 defers:=h.defers
 ent:=h.ent.trans e
 gl:=h.gl
 at_:=fun t q hl=>Pd.ex e (h.at_ t q hl)
theorem Has.sub {M : Nat → Prop} {n : Nat} {s0 : St} {a : Act} {s : St} {L L' : Lst} (h : Has M n s0 a s L) (hs : ∀ t q,lk L' t = some q → q.p s (a.eval (.tmp t))) : Has M n s0 a s L':=
 ⟨h.size,h.defers,h.ent,h.gl,hs⟩
theorem Has.cons {M : Nat → Prop} {n : Nat} {s0 : St} {a : Act} {s : St} {L : Lst} (h : Has M n s0 a s L) (d : Nat) {q : Pd} (hq : q.p s (a.eval (.tmp d))) : Has M n s0 a s ((d,q) :: L):=by
 refine ⟨h.size,h.defers,h.ent,h.gl,fun t q' hl=>?_⟩
 unfold lk at hl
 by_cases ht : d = t
 ·subst ht; simp at hl; subst hl; exact hq
 ·have : Nat.beq d t = false:=beq_no ht
  rw [this] at hl; exact h.at_ t q' hl
def OpR (P : Program) (ops : Array Oper) (o : Oper) (a : Act) (s : St) (K : Value → St → Prop) : Prop:=
 ∀ (Q : Exit → Act → World → Prop) (k : Act → World → Prop),(∀ v s',K v s' → k (a.put o.dst v) s'.w) →
  (if Region.wanted o (yielded ops a.tmps) then o.wp P a s.w k Q else k (a.put o.dst undef) s.w)
def T (P : Program) (ops : Array Oper) (o : Oper) (L : Lst) (q : Pd) : Prop:=
 ∀ M n s0 a s,Has M n s0 a s L → OpR P ops o a s (fun v s'=>Ex s s' ∧ q.p s' v)
theorem OpR.of_run {P : Program} {ops : Array Oper} {o : Oper} {a : Act} {s : St} {K : Value → St → Prop} (hg : o.guard = none) {v : Value} {s' : St}
  (h : (execOp a.eval o).run P s.w = .ok (.value v) s'.w) (hK : K v s') : OpR P ops o a s K:=by
 intro Q k hk
 simp only [Region.wanted,hg,if_true]
 unfold Oper.wp
 rw [h]
 exact hk v s' hK
theorem st {P : Program} {ops : Array Oper} {Q : Exit → Act → World → Prop} {rest : List Oper} {o : Oper} {M : Nat → Prop} {n : Nat} {s0 : St} {a : Act} {s : St} {L : Lst} {q : Pd} (d : Nat)
  (h : T P ops o L q) (hd : o.dst = some d) (hn : Nat.blt d n = true) (hL : Has M n s0 a s L)
  (k : ∀ a' s',Ex s s' → Has M n s0 a' s' ((d,q) :: L) → wpList P ops Q rest a' s'.w) : wpList P ops Q (o :: rest) a s.w:=by
 refine wpList_step fun K hK=>?_
 refine h M n s0 a s hL Q K fun v s' ⟨e,hq⟩=>hK _ _ ?_
 rw [hd]
 exact k _ s' e (hL.put e hn hq)
theorem sx {P : Program} {ops : Array Oper} {Q : Exit → Act → World → Prop} {rest : List Oper} {o : Oper} {M : Nat → Prop} {n : Nat} {s0 : St} {a : Act} {s : St} {L : Lst} {q : Pd} (d : Nat)
  (h : T P ops o L q) (hL : Has M n s0 a s L) (k : ∀ a' s',Ex s s' → Has M n s0 a' s' ((d,q) :: L) → wpList P ops Q rest a' s'.w) (hd : o.dst = some d:=by rfl) (hn : Nat.blt d n = true:=by rfl) : wpList P ops Q (o :: rest) a s.w:=st d h hd hn hL k
theorem nE {p : Nat → Prop} (b : Nat) (h : False) : p b:=h.elim
theorem en' {P : Program} {ops : Array Oper} {Q : Exit → Act → World → Prop} {a : Act} {w : World} (h : Q .normal a w) : wpList P ops Q [] a w:=h
theorem rg {P : Program} {id : Nat} {l : List Oper} {Q : Exit → Act → World → Prop} {a : Act} {w : World} (h : wpList P l.toArray Q l a w) : (Code.region id l.toArray false).wp P Q a w:=wp_region_lit h
def depL (ops : Array Oper) (qs : List Pd) : List Edge → Lst → Lst
 | [],L=>L
 | e :: r,L=>match Region.binds .any e,(ops[e.on]?).bind (·.dst),qs[e.on]? with
  | true,some d,some q=>(d,q) :: depL ops qs r L
  | _,_,_=>depL ops qs r L
def reach (ops : Array Oper) : Nat → Nat → Nat → Bool
 | 0,_,_=>false
 | f + 1,i,k=>match ops[i]? with
  | none=>false
  | some o=>(o.after.toList.any fun e=>Region.binds .any e && Nat.beq e.on k) || (o.after.toList.any fun e=>Region.binds .any e && reach ops f e.on k)
theorem reach_listed {ops : Array Oper} {p : Nat → Prop} (hp : ∀ i o,p i → ops[i]? = some o → ∀ e ∈ o.after.toList,Region.binds .any e = true → p e.on) :
  ∀ (f i k : Nat),reach ops f i k = true → (∀ o,ops[i]? = some o → ∀ e ∈ o.after.toList,Region.binds .any e = true → p e.on) → p k:=by
 intro f
 induction f with
 | zero=>intro i k h; cases h
 | succ f ih=>
  intro i k h hi
  unfold reach at h
  cases ho : ops[i]? with
  | none=>rw [ho] at h; cases h
  | some o=>
   simp only [ho,Bool.or_eq_true,List.any_eq_true,Bool.and_eq_true] at h
   rcases h with ⟨e,he,hb,hk⟩ | ⟨e,he,hb,hk⟩
   ·rw [← Nat.eq_of_beq_eq_true hk]; exact hi o ho e he hb
   ·have:=hi o ho e he hb
    exact ih e.on k hk fun o' ho'=>hp e.on o' this ho'
def okDraw (ops : Array Oper) (m n : Nat) (ks : List Nat) (F : List Nat) : Bool:=
 (F.all fun k=>Nat.blt k m) &&
 (List.range ops.size).all fun i=>match ops[i]? with
  | none=>false
  | some o=>(o.after.toList.all fun e=>!Region.binds .any e || Nat.blt e.on i) &&
   (if i < m then F.contains i || (match o.dst with
    | none=>false
    | some d=>Nat.blt d n && ks.all (fun t=>!Nat.beq t d) && (List.range m).all fun j=>Nat.beq j i || !((ops[j]?).bind (·.dst) == some d))
   else (List.range i).all fun k=>F.contains k || reach ops ops.size i k)
theorem mem_ready {ops : Array Oper} {listed : Array Bool} {i : Nat} : i ∈ Region.ready .any ops listed ↔
  i < ops.size ∧ listed.getD i true = false ∧ ∃ o,ops[i]? = some o ∧ ∀ e ∈ o.after.toList,Region.binds .any e = true → listed.getD e.on false = true:=by
 unfold Region.ready
 simp only [List.mem_filter,List.mem_range,Bool.and_eq_true,Bool.not_eq_true']
 constructor
 ·rintro ⟨h1,h2,h3⟩
  refine ⟨h1,h2, ?_⟩
  cases ho : ops[i]? with
  | none=>simp [ho] at h3
  | some o=>
   refine ⟨o,rfl,fun e he hb=>?_⟩
   simp only [ho,Option.map_some,Option.getD_some] at h3
   rw [← Array.all_toList,List.all_eq_true] at h3
   have:=h3 e he
   simpa [hb] using this
 ·rintro ⟨h1,h2,o,ho,h3⟩
  refine ⟨h1,h2, ?_⟩
  simp only [ho,Option.map_some,Option.getD_some]
  rw [← Array.all_toList,List.all_eq_true]
  intro e he
  cases hb : Region.binds .any e
  ·simp
  ·simp [h3 e he hb]
theorem getD_set {listed : Array Bool} {i k : Nat} {d : Bool} (h : i < listed.size) : (listed.setIfInBounds i true).getD k d = if k = i then true else listed.getD k d:=by
 simp only [Array.getD_eq_getD_getElem?,Array.getElem?_setIfInBounds]
 by_cases hk : k = i
 ·subst hk; simp [h]
 ·simp [hk,Ne.symm hk]
theorem wpAny_tail {P : Program} {ops : Array Oper} {Q : Exit → Act → World → Prop} {m n : Nat} {ks F : List Nat} (hok : okDraw ops m n ks F = true) :
  ∀ (f k : Nat) (listed : Array Bool) (a : Act) (w : World),k + f = ops.size → m ≤ k → listed.size = ops.size → (∀ i,i < ops.size → listed.getD i true = decide (i < k)) →
   wpOps P ops Q (List.range' k f) a w → wpAny P .any ops Q f listed a w:=by
 unfold okDraw at hok
 rw [Bool.and_eq_true] at hok
 obtain ⟨hF,hok⟩:=hok
 rw [List.all_eq_true] at hok hF
 intro f
 induction f with
 | zero=>
  intro k listed a w hk hm hs hl h
  refine ⟨?_,h⟩
  cases hr : Region.ready .any ops listed with
  | nil=>rfl
  | cons x xs=>
   have hx : x ∈ Region.ready .any ops listed:=by rw [hr]; simp
   obtain ⟨h1,h2,_⟩:=mem_ready.1 hx
   rw [hl x h1] at h2
   simp at h2; omega
 | succ f ih=>
  intro k listed a w hk hm hs hl h
  rw [List.range'_succ,wpOps_cons] at h
  have hkr : k ∈ Region.ready .any ops listed:=by
   obtain ⟨o,ho⟩ : ∃ o,ops[k]? = some o:=⟨ops[k]'(by omega),by simp⟩
   refine mem_ready.2 ⟨by omega,by rw [hl k (by omega)]; simp,o,ho,fun e he hb=>?_⟩
   have:=hok k (by simp; omega)
   simp only [ho,Bool.and_eq_true] at this
   have h1:=List.all_eq_true.1 this.1 e he
   simp only [hb,Bool.not_true,Bool.false_or] at h1
   have h2 : e.on < k:=Nat.le_of_ble_eq_true h1
   have h3:=hl e.on (by omega)
   have h4 : listed.getD e.on false = listed.getD e.on true:=by simp [Array.getD,hs,show e.on < ops.size by omega]
   rw [h4,h3]; simpa using h2
  refine ⟨fun he=>by rw [he] at hkr; simp at hkr,fun i hi=>?_⟩
  obtain ⟨h1,h2,o,ho,h3⟩:=mem_ready.1 hi
  have hik : ¬ i < k:=by rw [hl i h1] at h2; simpa using h2
  have : i = k:=by
   rcases Nat.lt_or_ge k i with hlt | hge
   ·exfalso
    have h5:=hok i (by simpa using h1)
    simp only [ho,Bool.and_eq_true] at h5
    have h6:=h5.2
    rw [if_neg (by omega),List.all_eq_true] at h6
    have h7:=h6 k (by simpa using hlt)
    have hkF : F.contains k = false:=by
     cases hc : F.contains k
     ·rfl
     ·have:=hF k (by simpa using hc)
      have : k < m:=Nat.le_of_ble_eq_true this
      omega
    rw [hkF,Bool.false_or] at h7
    have h8:=reach_listed (ops:=ops) (p:=fun j=>listed.getD j false = true) (fun j o' hj ho' e he hb=>by
     have hjs : j < ops.size:=by
      rcases Nat.lt_or_ge j ops.size with h | h
      ·exact h
      ·simp [Array.getElem?_eq_none h] at ho'
     have hjk : j < k:=by
      have : listed.getD j false = listed.getD j true:=by simp [Array.getD,hs,hjs]
      rw [this,hl j hjs] at hj; simpa using hj
     have hok2:=hok j (by simpa using hjs)
     simp only [ho',Bool.and_eq_true] at hok2
     have h9:=List.all_eq_true.1 hok2.1 e he
     simp only [hb,Bool.not_true,Bool.false_or] at h9
     have h10 : e.on < j:=Nat.le_of_ble_eq_true h9
     have : listed.getD e.on false = listed.getD e.on true:=by simp [Array.getD,hs,show e.on < ops.size by omega]
     rw [this,hl e.on (by omega)]; simp; omega) _ i k h7 (fun o' ho'=>by rw [ho] at ho'; cases ho'; exact h3)
    have h10 : listed.getD k false = listed.getD k true:=by simp [Array.getD,hs,show k < ops.size by omega]
    rw [h10,hl k (by omega)] at h8
    simp at h8
   ·omega
  subst this
  refine wpOp_mono (fun a w hw=>ih (i + 1) _ a w (by omega) (by omega) (by simpa using hs) (fun j hj=>?_) hw) h
  rw [getD_set (by omega),hl j hj]
  by_cases hj' : j = i
  ·simp [hj']
  ·simp only [if_neg hj',decide_eq_decide]; omega
theorem depL_has {ops : Array Oper} {qs : List Pd} {M : Nat → Prop} {n : Nat} {s0 : St} {a : Act} {s : St} {L : Lst} (hL : Has M n s0 a s L) :
  ∀ (es : List Edge),(∀ e ∈ es,Region.binds .any e = true → ∀ d q,(ops[e.on]?).bind (·.dst) = some d → qs[e.on]? = some q → q.p s (a.eval (.tmp d))) → Has M n s0 a s (depL ops qs es L)
 | [],_=>hL
 | e :: r,h=>by
  have ih:=depL_has hL r (fun e' he'=>h e' (by simp [he']))
  unfold depL
  split
  ·rename_i d q hb hd hq
   exact ih.cons d (h e (by simp) hb d q hd hq)
  ·exact ih
theorem lk_none {L : Lst} {d : Nat} (h : (L.map (·.1)).all (fun t=>!Nat.beq t d) = true) : lk L d = none:=by
 induction L with
 | nil=>rfl
 | cons x r ih=>
  simp only [List.map_cons,List.all_cons,Bool.and_eq_true,Bool.not_eq_true'] at h
  unfold lk
  rw [h.1]; exact ih h.2
def newL (ops : Array Oper) (qs : List Pd) : Nat → Lst → Lst
 | 0,L=>L
 | i + 1,L=>match (ops[i]?).bind (·.dst),qs[i]? with
  | some d,some q=>(d,q) :: newL ops qs i L
  | _,_=>newL ops qs i L
theorem newL_has {ops : Array Oper} {qs : List Pd} {M : Nat → Prop} {n : Nat} {s0 : St} {a : Act} {s : St} {L : Lst} (hL : Has M n s0 a s L) :
  ∀ m,(∀ i,i < m → ∀ d q,(ops[i]?).bind (·.dst) = some d → qs[i]? = some q → q.p s (a.eval (.tmp d))) → Has M n s0 a s (newL ops qs m L)
 | 0,_=>hL
 | m + 1,h=>by
  have ih:=newL_has hL m (fun i hi=>h i (by omega))
  unfold newL
  split
  ·rename_i d q hd hq
   exact ih.cons d (h m (by omega) d q hd hq)
  ·exact ih
theorem rd_key {P : Program} {ops : Array Oper} {Q : Exit → Act → World → Prop} {M : Nat → Prop} {n : Nat} {s0 : St} {s : St} {L : Lst} (m : Nat) (qs : List Pd) (F : List Nat)
  (hok : okDraw ops m n (L.map (·.1)) F = true) (hq : qs.length = m) (hm : m ≤ ops.size)
  (hT : ∀ i o q,i < m → ops[i]? = some o → qs[i]? = some q → F.contains i = false → T P ops o (depL ops qs o.after.toList L) q)
  (hB : ∀ a' s',Ex s s' → Has M n s0 a' s' (newL ops qs m L) → wpOps P ops Q (List.range' m (ops.size - m)) a' s'.w) :
  ∀ (f : Nat) (listed : Array Bool) (a : Act) (s' : St),listed.size = ops.size → ((List.range ops.size).filter (fun i=>!listed.getD i true)).length = f → Ex s s' → Has M n s0 a s' L →
   (∀ i o,listed.getD i false = true → ops[i]? = some o → ∀ e ∈ o.after.toList,Region.binds .any e = true → listed.getD e.on false = true) → (∀ i,i < ops.size → m ≤ i → listed.getD i true = false) →
   (∀ i,i < m → listed.getD i true = true → ∀ d q,(ops[i]?).bind (·.dst) = some d → qs[i]? = some q → q.p s' (a.eval (.tmp d))) → (∀ i ∈ F,listed.getD i true = true) → wpAny P .any ops Q f listed a s'.w:=by
 have hok':=hok
 unfold okDraw at hok'
 rw [Bool.and_eq_true] at hok'
 obtain ⟨hF,hok'⟩:=hok'
 rw [List.all_eq_true] at hok'
 intro f
 induction f with
 | zero=>
  intro listed a s' hs hc e hL' hcl hn hd hl0
  have hall : ∀ i,i < ops.size → listed.getD i true = true:=by
   intro i hi
   have : (List.range ops.size).filter (fun i=>!listed.getD i true) = []:=List.length_eq_zero_iff.1 hc
   rw [List.filter_eq_nil_iff] at this
   have:=this i (by simpa using hi)
   simpa using this
  have hmm : m = ops.size:=by
   rcases Nat.lt_or_ge m ops.size with h | h
   ·have:=hn m h (Nat.le_refl _); rw [hall m h] at this; cases this
   ·omega
  refine wpAny_tail hok 0 ops.size listed a s'.w (by omega) (by omega) hs (fun i hi=>by rw [hall i hi]; simp [hi]) ?_
  have:=hB a s' e (newL_has hL' m fun i hi=>hd i hi (hall i (by omega)))
  rw [hmm] at this; simpa using this
 | succ f ih=>
  intro listed a s' hs hc e hL' hcl hn hd hl0
  by_cases hdone : ∀ i,i < m → listed.getD i true = true
  ·-- the tail
   have hf : f + 1 = ops.size - m:=by
    rw [← hc]
    have h1 : (List.range ops.size).filter (fun i=>!listed.getD i true) = List.range' m (ops.size - m):=by
     have e1 : List.range ops.size = List.range' 0 m ++ List.range' m (ops.size - m):=by
      rw [List.range_eq_range',show ops.size = m + (ops.size - m) by omega,← List.range'_append_1]
      simp
     rw [e1,List.filter_append]
     have e2 : (List.range' 0 m).filter (fun i=>!listed.getD i true) = []:=by
      rw [List.filter_eq_nil_iff]; intro i hi; simp at hi; simp [hdone i hi]
     have e3 : (List.range' m (ops.size - m)).filter (fun i=>!listed.getD i true) = List.range' m (ops.size - m):=by
      rw [List.filter_eq_self]; intro i hi; simp at hi; simp [hn i (by omega) (by omega)]
     rw [e2,e3,List.nil_append]
    rw [h1]; simp
   refine wpAny_tail hok (f + 1) m listed a s'.w (by omega) (Nat.le_refl _) hs (fun i hi=>?_) ?_
   ·by_cases h : i < m
    ·simp [h,hdone i h]
    ·simp [h,hn i hi (by omega)]
   ·rw [hf]; exact hB a s' e (newL_has hL' m fun i hi=>hd i hi (hdone i hi))
  ·have hex : ∃ i,i < m ∧ listed.getD i true = false:=by
    have h1:=Classical.not_forall.1 hdone
    obtain ⟨i,hi⟩:=h1
    rw [Classical.not_imp] at hi
    exact ⟨i,hi.1,by simpa using hi.2⟩
   have hlow : ∀ i,i ∈ Region.ready .any ops listed → i < m:=by
    intro i hi
    obtain ⟨h1,h2,o,ho,h3⟩:=mem_ready.1 hi
    rcases Nat.lt_or_ge i m with h | h
    ·exact h
    ·exfalso
     obtain ⟨k,hk,hkl⟩:=hex
     have h5:=hok' i (by simpa using h1)
     simp only [ho,Bool.and_eq_true] at h5
     have h6:=h5.2
     rw [if_neg (by omega),List.all_eq_true] at h6
     have h7:=h6 k (by simp; omega)
     have hkF : F.contains k = false:=by
      cases hc' : F.contains k
      ·rfl
      ·have:=hl0 k (by simpa using hc'); rw [this] at hkl; cases hkl
     rw [hkF,Bool.false_or] at h7
     have h8:=reach_listed (ops:=ops) (p:=fun j=>listed.getD j false = true) hcl _ i k h7 (fun o' ho'=>by rw [ho] at ho'; cases ho'; exact h3)
     have h10 : listed.getD k false = listed.getD k true:=by simp [Array.getD,hs,show k < ops.size by omega]
     rw [h10,hkl] at h8
     cases h8
   refine ⟨fun hnil=>?_,fun i hi=>?_⟩
   ·-- the least that isn't done is ready
    exfalso
    obtain ⟨k,hk,hmin⟩:=exists_least (p:=fun i=>i < m ∧ listed.getD i true = false) hex
    obtain ⟨o,ho⟩ : ∃ o,ops[k]? = some o:=⟨ops[k]'(by omega),by simp⟩
    have : k ∈ Region.ready .any ops listed:=by
     refine mem_ready.2 ⟨by omega,hk.2,o,ho,fun e he hb=>?_⟩
     have h5:=hok' k (by simp; omega)
     simp only [ho,Bool.and_eq_true] at h5
     have h1:=List.all_eq_true.1 h5.1 e he
     simp only [hb,Bool.not_true,Bool.false_or] at h1
     have h2 : e.on < k:=Nat.le_of_ble_eq_true h1
     have h4 : listed.getD e.on false = listed.getD e.on true:=by simp [Array.getD,hs,show e.on < ops.size by omega]
     rw [h4]
     by_cases h6 : listed.getD e.on true = true
     ·exact h6
     ·have:=hmin e.on ⟨by omega,by simpa using h6⟩; omega
    rw [hnil] at this; simp at this
   ·have him:=hlow i hi
    obtain ⟨h1,h2,o,ho,h3⟩:=mem_ready.1 hi
    obtain ⟨q,hqi⟩ : ∃ q,qs[i]? = some q:=⟨qs[i]'(by omega),by simp⟩
    have h5:=hok' i (by simpa using h1)
    have hiF : F.contains i = false:=by
     cases hc' : F.contains i
     ·rfl
     ·have:=hl0 i (by simpa using hc'); rw [this] at h2; cases h2
    simp only [ho,Bool.and_eq_true,if_pos him,hiF,Bool.false_or] at h5
    obtain ⟨d,hdst⟩ : ∃ d,o.dst = some d:=by
     cases hd' : o.dst with
     | none=>rw [hd'] at h5; simp at h5
     | some d=>exact ⟨d,rfl⟩
    have h6:=h5.2
    rw [hdst] at h6
    simp only [Bool.and_eq_true] at h6
    have hdep : Has M n s0 a s' (depL ops qs o.after.toList L):=by
     refine depL_has hL' _ fun e' he' hb d' q' hd' hq'=>?_
     have h7:=h3 e' he' hb
     have h8:=List.all_eq_true.1 h5.1 e' he'
     simp only [hb,Bool.not_true,Bool.false_or] at h8
     have h9 : e'.on < i:=Nat.le_of_ble_eq_true h8
     have h10 : listed.getD e'.on false = listed.getD e'.on true:=by simp [Array.getD,hs,show e'.on < ops.size by omega]
     exact hd e'.on (by omega) (h10 ▸ h7) d' q' hd' hq'
    have hrun:=hT i o q him ho hqi hiF M n s0 a s' hdep Q (wpAny P .any ops Q f (listed.setIfInBounds i true)) ?_
    ·unfold wpOp
     simp only [ho]
     by_cases hw : Region.wanted o (yielded ops a.tmps) = true
     ·rw [if_pos hw] at hrun ⊢; exact .inl hrun
     ·rw [if_neg hw] at hrun ⊢; exact hrun
    ·rintro v s'' ⟨e',hq'⟩
     have hfresh : lk L d = none:=lk_none h6.1.2
     refine ih _ _ s'' (by simpa using hs) ?_ (e.trans e') ?_ ?_ ?_ ?_ ?_
     ·-- one fewer
      have hnd : ((List.range ops.size).filter (fun j=>!listed.getD j true)).Nodup:=List.Nodup.sublist List.filter_sublist List.nodup_range
      have hmem : i ∈ (List.range ops.size).filter (fun j=>!listed.getD j true):=List.mem_filter.2 ⟨by simpa using h1,by rw [h2]; rfl⟩
      have e1 : (List.range ops.size).filter (fun j=>!(listed.setIfInBounds i true).getD j true) = ((List.range ops.size).filter (fun j=>!listed.getD j true)).filter (fun j=>j != i):=by
       rw [List.filter_filter]
       refine List.filter_congr fun j hj=>?_
       rw [getD_set (by omega)]
       by_cases hji : j = i <;> simp [hji]
      rw [e1,← List.Nodup.erase_eq_filter hnd,List.length_erase_of_mem hmem,hc]; rfl
     ·have hp:=hL'.put e' (d:=d) h6.1.1 hq'
      rw [hdst]
      refine hp.sub fun t q'' hl=>hp.at_ t q'' ?_
      unfold lk
      have : d ≠ t:=fun he=>by rw [he] at hfresh; rw [hfresh] at hl; cases hl
      rw [beq_no this]; exact hl
     ·intro j o' hj ho' e2 he2 hb2
      rw [getD_set (by omega)] at hj ⊢
      split
      ·rfl
      ·by_cases hji : j = i
       ·subst hji; rw [ho] at ho'; cases ho'; exact h3 e2 he2 hb2
       ·rw [if_neg hji] at hj; exact hcl j o' hj ho' e2 he2 hb2
     ·intro j hj hmj
      rw [getD_set (by omega),if_neg (by omega)]; exact hn j hj hmj
     ·intro j hj hlj d' q'' hd' hq''
      rw [hdst]
      by_cases hji : j = i
      ·subst hji
       rw [ho,Option.bind_some,hdst] at hd'
       cases hd'
       rw [hqi] at hq''; cases hq''
       rw [eval_put_same hL'.size h6.1.1]; exact hq'
      ·rw [getD_set (by omega),if_neg hji] at hlj
       have h7:=List.all_eq_true.1 h6.2 j (by simpa using hj)
       have h8 : Nat.beq j i = false:=beq_no hji
       rw [h8,Bool.false_or,hd'] at h7
       have : d ≠ d':=fun he=>by simp [he] at h7
       rw [eval_put_ne this]
       exact Pd.ex e' (hd j hj hlj d' q'' hd' hq'')
     ·intro j hj
      rw [getD_set (by omega)]
      split
      ·rfl
      ·exact hl0 j hj
theorem rd {P : Program} {id : Nat} {ops : Array Oper} {Q : Exit → Act → World → Prop} {M : Nat → Prop} {n : Nat} {s0 : St} {a : Act} {s : St} {L : Lst} (hf : P.follows .mixedOrders = true) (m : Nat) (qs : List Pd)
  (hL : Has M n s0 a s L) (hok : okDraw ops m n (L.map (·.1)) [] = true) (hq : qs.length = m) (hm : m ≤ ops.size)
  (hT : ∀ i o q,i < m → ops[i]? = some o → qs[i]? = some q → T P ops o (depL ops qs o.after.toList L) q)
  (hB : ∀ a' s',Ex s s' → Has M n s0 a' s' (newL ops qs m L) → wpOps P ops Q (List.range' m (ops.size - m)) a' s'.w) : (Code.region id ops true).wp P Q a s.w:=by
 refine wp_region_any hf ?_
 have:=rd_key m qs [] hok hq hm (fun i o q h1 h2 h3 _=>hT i o q h1 h2 h3) hB ops.size (Array.replicate ops.size false) a ⟨{ s.w with drawn:=s.w.drawn + 1 },s.X,s.lt⟩ (by simp) ?_ ⟨⟨DR.succ rfl,rfl,rfl,rfl,Nat.le_refl _,fun _ _ _=>rfl,fun _ h=>h.elim,fun _ h=>.inl h⟩,fun _ h=>h⟩ ?_ ?_ ?_ ?_ (fun i h=>by cases h)
 ·exact this
 ·rw [List.filter_eq_self.2]
  ·simp
  ·intro i hi; simp at hi; simp [hi]
 ·exact hL.ex ⟨⟨DR.succ rfl,rfl,rfl,rfl,Nat.le_refl _,fun _ _ _=>rfl,fun _ h=>h.elim,fun _ h=>.inl h⟩,fun _ h=>h⟩
 ·intro i o h; simp [Array.getD] at h
 ·intro i hi _; simp [hi]
 ·intro i hi h; simp [show i < ops.size by omega] at h
end Go.Proofs.YtahgmdbioafmbaaGreatDoor.VD
namespace Go.Proofs.YtahgmdbioafmbaaGreatDoor.VD
open Go
set_option linter.unusedVariables false
def foot (s : St) : Nat → Prop:=fun b=>b < s.w.heap.size ∧ ¬ s.X b
def Same (S : Nat → Prop) (w w' : World) : Prop:=∀ b,S b → w'.heap[b]? = w.heap[b]?
structure En (α : Type) where
 sz : Nat
 agg : Bool
 R : World → (Nat → Prop) → List Value → α → Prop
 sc : agg = false → sz = 1
 pos : 0 < sz
 len : ∀ {w S cs x},R w S cs x → cs.length = sz
 one : ∀ {w S cs x},R w S cs x → ∀ u ∈ cs,u.oneCell' = true
 mono : ∀ {w S S' cs x},(∀ b,S b → S' b) → R w S cs x → R w S' cs x
 move : ∀ {w w' S cs x},Same S w w' → R w S cs x → R w' S cs x
def En.val {α : Type} (E : En α) (cs : List Value) : Value:=bif E.agg then .agg cs.toArray else cs.headD undef
theorem En.val_cells {α : Type} {E : En α} {w S cs x} (h : E.R w S cs x) : (E.val cs).cells = cs.toArray:=by
 unfold En.val
 cases ha : E.agg
 ·have hl:=E.len h
  rw [E.sc ha] at hl
  match cs,hl with
  | [u],_=>
   have h1:=E.one h u (by simp)
   simp only [cond_false,List.headD_cons]
   cases u <;> first | rfl | simp [Value.oneCell'] at h1
 ·rfl
theorem En.go {α : Type} (E : En α) {T : Nat → Prop} {s s' : St} {cs : List Value} {x : α} (h : Mv T s s') (hR : E.R s.w (foot s) cs x) : E.R s'.w (foot s') cs x:=
 E.mono (fun b hb=>⟨Nat.lt_of_lt_of_le hb.1 h.size,fun hx=>(h.xx b hx).elim hb.2 (fun hk=>by have:=hb.1; omega)⟩)
  (E.move (fun b hb=>h.blk b hb.1 (fun ht=>hb.2 (h.tx b ht))) hR)
def Pd.rep {α : Type} (E : En α) (x : α) : Pd:=
 ⟨fun s v=>∃ cs,v = E.val cs ∧ E.R s.w (foot s) cs x,fun _=>False,fun h _ ⟨cs,hv,hR⟩=>⟨cs,hv,E.go h hR⟩⟩
def CellsAt (w : World) (b o : Nat) (cs : List Value) : Prop:=∀ j u,cs[j]? = some u → w.cell? ⟨b,o + j,none⟩ = some u
theorem CellsAt.same {w w' : World} {b o : Nat} {cs : List Value} (h : CellsAt w b o cs) (hb : w'.heap[b]? = w.heap[b]?) : CellsAt w' b o cs:=
 fun j u hu=>by rw [World.cell?_of_block (w:=w) hb]; exact h j u hu
theorem add_lit (b o j : Nat) : (⟨b,o,none⟩ : Addr).add j = ⟨b,o + j,none⟩:=by unfold Addr.add; split <;> simp_all
def Pd.ptr {α : Type} (E : En α) (x : α) : Pd:=
 ⟨fun s v=>∃ b o cs,v = .pointer (some ⟨b,o,none⟩) ∧ foot s b ∧ CellsAt s.w b o cs ∧ E.R s.w (foot s) cs x,fun _=>False,
  fun {T s s' v} h _ ⟨b,o,cs,hv,hb,hc,hR⟩=>⟨b,o,cs,hv,
   ⟨Nat.lt_of_lt_of_le hb.1 h.size,fun hx=>(h.xx b hx).elim hb.2 (fun hk=>by have:=hb.1; omega)⟩,
   hc.same (h.blk b hb.1 (fun ht=>hb.2 (h.tx b ht))),E.go h hR⟩⟩
def Pd.optr {α : Type} (E : En α) (N : Nat) (og : Option Nat) (o : Nat) (x : α) : Pd:=
 ⟨fun s v=>∃ g,og = some g ∧ v = .pointer (some ⟨g,o,none⟩) ∧ N ≤ g ∧ g < s.w.heap.size ∧ s.X g ∧ ∃ cs,CellsAt s.w g o cs ∧ E.R s.w (foot s) cs x,fun b=>og = some b,
  fun {T s s' v} h hb ⟨g,ho,hv,hN,hg,hx,cs,hc,hR⟩=>⟨g,ho,hv,hN,Nat.lt_of_lt_of_le hg h.size,(hb g ho).2 hx,cs,hc.same (h.blk g hg (hb g ho).1),E.go h hR⟩⟩
def Pd.box {α : Type} (E : En α) (N g : Nat) (x : α) : Pd:=
 ⟨fun s v=>v = .pointer (some ⟨g,0,none⟩) ∧ N ≤ g ∧ s.X g ∧ ∃ cs t,s.w.heap[g]? = some (.cells cs.toArray t (0,0)) ∧ E.R s.w (foot s) cs x,fun b=>b = g,
  fun {T s s' v} h hb ⟨hv,hN,hx,cs,t,hc,hR⟩=>⟨hv,hN,(hb g rfl).2 hx,cs,t,by
   rw [h.blk g (Array.getElem?_eq_some_iff.1 hc).1 (hb g rfl).1]; exact hc,E.go h hR⟩⟩
def InR (k : IntKind) (x : Int) : Prop:=k.min ≤ x ∧ x ≤ k.max
instance (k : IntKind) (x : Int) : Decidable (InR k x):=by unfold InR; infer_instance
def En.int (k : IntKind) : En Int where
 sz:=1
 agg:=false
 R:=fun _ _ cs x=>cs = [.int k x] ∧ InR k x
 sc:=fun _=>rfl
 pos:=Nat.one_pos
 len:=by rintro _ _ _ _ ⟨rfl,_⟩; rfl
 one:=by rintro _ _ _ _ ⟨rfl,_⟩ u hu; simp at hu; subst hu; rfl
 mono:=fun _ h=>h
 move:=fun _ h=>h
def En.bool : En Bool where
 sz:=1
 agg:=false
 R:=fun _ _ cs x=>cs = [.bool x]
 sc:=fun _=>rfl
 pos:=Nat.one_pos
 len:=by rintro _ _ _ _ rfl; rfl
 one:=by rintro _ _ _ _ rfl u hu; simp at hu; subst hu; rfl
 mono:=fun _ h=>h
 move:=fun _ h=>h
theorem rep_int {k : IntKind} {x : Int} {s : St} {v : Value} : (Pd.rep (En.int k) x).p s v ↔ v = .int k x ∧ InR k x:=
 ⟨fun ⟨_,hv,hc,hr⟩=>by subst hc; exact ⟨hv,hr⟩,fun ⟨hv,hr⟩=>⟨[.int k x],hv,rfl,hr⟩⟩
theorem rep_bool {x : Bool} {s : St} {v : Value} : (Pd.rep En.bool x).p s v ↔ v = .bool x:=
 ⟨fun ⟨_,hv,hc⟩=>by cases hc; exact hv,fun hv=>⟨[.bool x],hv,rfl⟩⟩
def Opn (L : Lst) (x : Operand) (q : Pd) : Prop:=∀ M n s0 a s,Has M n s0 a s L → q.p s (a.eval x)
theorem o_t {L : Lst} (t : Nat) {q : Pd} (h : lk L t = some q) : Opn L (.tmp t) q:=fun _ _ _ _ _ hL=>hL.get t h
theorem o_c {L : Lst} {v : Value} {q : Pd} (h : ∀ s,q.p s v) : Opn L (.const v) q:=fun _ _ _ _ s _=>h s
theorem o_i {L : Lst} {k : IntKind} {x : Int} (h : InR k x) : Opn L (.const (.int k x)) (Pd.rep (En.int k) x):=o_c fun _=>rep_int.2 ⟨rfl,h⟩
theorem o_b {L : Lst} {x : Bool} : Opn L (.const (.bool x)) (Pd.rep En.bool x):=o_c fun _=>rep_bool.2 rfl
section
variable {P : Program} {ops : Array Oper} {o : Oper} {L : Lst}
theorem T.mk {q : Pd} (hg : o.guard = none) (h : ∀ M n s0 a s,Has M n s0 a s L → ∃ v s',(execOp a.eval o).run P s.w = .ok (.value v) s'.w ∧ Ex s s' ∧ q.p s' v) : T P ops o L q:=
 fun M n s0 a s hL=>by
  obtain ⟨v,s',h1,h2,h3⟩:=h M n s0 a s hL
  exact OpR.of_run hg h1 ⟨h2,h3⟩
theorem T.pure {q : Pd} (hg : o.guard = none) (h : ∀ M n s0 a s,Has M n s0 a s L → ∃ v,(execOp a.eval o).run P s.w = .ok (.value v) s.w ∧ q.p s v) : T P ops o L q:=
 T.mk hg fun M n s0 a s hL=>let ⟨v,h1,h2⟩:=h M n s0 a s hL; ⟨v,s,h1,Ex.refl s,h2⟩
theorem t_move {x : Operand} {q : Pd} (h : Opn L x q) (ho : o.op = .move x) (hg : o.guard = none) : T P ops o L q:=
 T.pure hg fun M n s0 a s hL=>⟨a.eval x,by unfold execOp; rw [ho]; rfl,h M n s0 a s hL⟩
theorem t_assign {x : Operand} {q : Pd} (h : Opn L x q) (ho : o.op = .assign x) (hg : o.guard = none) : T P ops o L q:=
 T.pure hg fun M n s0 a s hL=>⟨a.eval x,by unfold execOp; rw [ho]; rfl,h M n s0 a s hL⟩
theorem wrap_in {k : IntKind} {x : Int} (h : InR k x) : k.wrap x = x:=by
 unfold InR at h
 cases k <;> simp [IntKind.min,IntKind.max,IntKind.signed,IntKind.bits] at h <;> simp [IntKind.wrap,IntKind.signed,IntKind.bits] <;> omega
theorem t_arith {k : IntKind} {x y : Operand} {a b : Int} (op : BinOp) (f : Int → Int → Int) (hf : ∀ a b,(Op.intArith op k a b : Sem Value) = Pure.pure (.int k (k.wrap (f a b)))) (hop : op = .add ∨ op = .sub ∨ op = .mul)
  (hx : Opn L x (Pd.rep (En.int k) a)) (hy : Opn L y (Pd.rep (En.int k) b)) (hr : InR k (f a b)) {t u : TypeId} (ho : o.op = .binOp op t x y u) (hg : o.guard = none) :
  T P ops o L (Pd.rep (En.int k) (f a b)):=
 T.pure hg fun M n s0 ac s hL=>by
  have h1:=(rep_int.1 (hx M n s0 ac s hL)).1
  have h2:=(rep_int.1 (hy M n s0 ac s hL)).1
  refine ⟨.int k (f a b), ?_,rep_int.2 ⟨rfl,hr⟩⟩
  unfold execOp
  rw [ho]
  simp only [h1,h2]
  rcases hop with rfl | rfl | rfl <;> simp [eqGuard,binOp,hf,wrap_in hr]
theorem t_add {k : IntKind} {x y : Operand} {a b : Int} (hx : Opn L x (Pd.rep (En.int k) a)) (hy : Opn L y (Pd.rep (En.int k) b)) (hr : InR k (a + b)) {t u : TypeId} (ho : o.op = .binOp .add t x y u) (hg : o.guard = none) :
  T P ops o L (Pd.rep (En.int k) (a + b)):=t_arith .add (· + ·) (fun _ _=>rfl) (.inl rfl) hx hy hr ho hg
theorem t_cmp {k : IntKind} {x y : Operand} {a b : Int} (op : BinOp) (f : Int → Int → Bool) (hf : (fun a b=>(Op.intCmp op a b : Sem Value)) = fun a b=>Pure.pure (.bool (f a b)))
  (hop : op = .lss ∨ op = .leq ∨ op = .gtr ∨ op = .geq ∨ op = .eql ∨ op = .neq)
  (hx : Opn L x (Pd.rep (En.int k) a)) (hy : Opn L y (Pd.rep (En.int k) b)) {t u : TypeId} (ho : o.op = .binOp op t x y u) (hg : o.guard = none) :
  T P ops o L (Pd.rep En.bool (f a b)):=
 T.pure hg fun M n s0 ac s hL=>by
  have h1:=(rep_int.1 (hx M n s0 ac s hL)).1
  have h2:=(rep_int.1 (hy M n s0 ac s hL)).1
  have hf' : (Op.intCmp op a b : Sem Value) = Pure.pure (.bool (f a b)):=congrFun (congrFun hf a) b
  refine ⟨.bool (f a b), ?_,rep_bool.2 rfl⟩
  unfold execOp
  rw [ho]
  simp only [h1,h2]
  rcases hop with rfl | rfl | rfl | rfl | rfl | rfl <;> simp [eqGuard,binOp,hf']
theorem t_lss {k : IntKind} {x y : Operand} {a b : Int} (hx : Opn L x (Pd.rep (En.int k) a)) (hy : Opn L y (Pd.rep (En.int k) b)) {t u : TypeId} (ho : o.op = .binOp .lss t x y u) (hg : o.guard = none) :
  T P ops o L (Pd.rep En.bool (decide (a < b))):=t_cmp .lss (fun a b=>decide (a < b)) rfl (.inl rfl) hx hy ho hg
theorem t_gtr {k : IntKind} {x y : Operand} {a b : Int} (hx : Opn L x (Pd.rep (En.int k) a)) (hy : Opn L y (Pd.rep (En.int k) b)) {t u : TypeId} (ho : o.op = .binOp .gtr t x y u) (hg : o.guard = none) :
  T P ops o L (Pd.rep En.bool (decide (b < a))):=t_cmp .gtr (fun a b=>decide (b < a)) rfl (.inr (.inr (.inl rfl))) hx hy ho hg
theorem t_geq {k : IntKind} {x y : Operand} {a b : Int} (hx : Opn L x (Pd.rep (En.int k) a)) (hy : Opn L y (Pd.rep (En.int k) b)) {t u : TypeId} (ho : o.op = .binOp .geq t x y u) (hg : o.guard = none) :
  T P ops o L (Pd.rep En.bool (decide (b ≤ a))):=t_cmp .geq (fun a b=>decide (b ≤ a)) rfl (.inr (.inr (.inr (.inl rfl)))) hx hy ho hg
theorem t_nei {k : IntKind} {x y : Operand} {a b : Int} (hx : Opn L x (Pd.rep (En.int k) a)) (hy : Opn L y (Pd.rep (En.int k) b)) {t u : TypeId} (ho : o.op = .binOp .neq t x y u) (hg : o.guard = none) :
  T P ops o L (Pd.rep En.bool (a != b)):=t_cmp .neq (fun a b=>a != b) rfl (.inr (.inr (.inr (.inr (.inr rfl))))) hx hy ho hg
structure Ty {α : Type} (P : Program) (t : TypeId) (E : En α) : Prop where
 info : ∃ i z,P.info? t = some i ∧ i.size = E.sz ∧ i.zero = some z ∧ z.cells.size = E.sz ∧ i.bytes ≤ 65536
 agg : ∃ d,P.underlying t = some d ∧ (match d with | .struct _ | .array _ _=>true | _=>false) = E.agg
theorem run_isAgg {α : Type} {t : TypeId} {E : En α} (h : Ty P t E) (w : World) : (isAgg t).run P w = .ok E.agg w:=by
 obtain ⟨d,hd,he⟩:=h.agg
 unfold isAgg
 simp only [Sem.run_bind,run_underlying hd,Result.andThen_ok]
 rw [← he]
 cases d <;> rfl
theorem run_sizeOfE {α : Type} {t : TypeId} {E : En α} (h : Ty P t E) (w : World) : (sizeOf t).run P w = .ok E.sz w:=by
 obtain ⟨i,z,hi,he,_⟩:=h.info
 simp [sizeOf,typeInfo,hi,he]
theorem run_loadVarE {α : Type} {t : TypeId} {E : En α} (h : Ty P t E) {w w' : World} {S : Nat → Prop} {cs : List Value} {x : α} (hR : E.R w' S cs x) {b o : Nat} (hc : CellsAt w b o cs) :
  (loadVar t ⟨b,o,none⟩).run P w = .ok (E.val cs) w:=by
 unfold loadVar
 simp only [Sem.run_bind,run_isAgg h,Result.andThen_ok]
 have hl:=E.len hR
 cases ha : E.agg
 ·have h1:=E.sc ha
  rw [h1] at hl
  match cs,hl with
  | [u],_=>
   have:=hc 0 u rfl
   simp [En.val,ha,show w.cell? ⟨b,o,none⟩ = some u from this]
 ·simp only [if_true,Sem.run_bind,run_sizeOfE h,Result.andThen_ok]
  have : (loadCells ⟨b,o,none⟩ E.sz).run P w = .ok cs.toArray w:=by
   rw [← hl]
   exact run_loadCells_list w ⟨b,o,none⟩ cs (fun j v hv=>by rw [add_lit]; exact hc j v hv)
  simp [this,En.val,ha]
theorem t_load {α : Type} {E : En α} {x : α} {y : Operand} {t : TypeId} (ht : Ty P t E) (hy : Opn L y (Pd.ptr E x)) (ho : o.op = .load t y) (hg : o.guard = none) : T P ops o L (Pd.rep E x):=
 T.pure hg fun M n s0 ac s hL=>by
  obtain ⟨b,off,cs,hv,hb,hc,hR⟩:=hy M n s0 ac s hL
  refine ⟨E.val cs, ?_,cs,rfl,hR⟩
  unfold execOp; rw [ho]; simp [hv,Instr.loadAt,Instr.sureAddr,run_loadVarE ht hR hc]
theorem cellsAt_block {w : World} {g : Nat} {cs : List Value} {t : TypeId} {fr : Nat × Nat} (h : w.heap[g]? = some (.cells cs.toArray t fr)) : CellsAt w g 0 cs:=
 fun j u hu=>by rw [Nat.zero_add,cell_of_row w g j cs.toArray t fr h]; simpa using hu
theorem t_loadb {α : Type} {E : En α} {x : α} {y : Operand} {t : TypeId} {N g : Nat} (ht : Ty P t E) (hy : Opn L y (Pd.box E N g x)) (ho : o.op = .load t y) (hg : o.guard = none) : T P ops o L (Pd.rep E x):=
 T.pure hg fun M n s0 ac s hL=>by
  obtain ⟨hv,_,_,cs,t',hc,hR⟩:=hy M n s0 ac s hL
  refine ⟨E.val cs, ?_,cs,rfl,hR⟩
  unfold execOp; rw [ho]; simp [hv,Instr.loadAt,Instr.sureAddr,run_loadVarE ht hR (cellsAt_block hc)]
def St.push (s : St) (ob : Obj) : St:=⟨s.w.alloc ob,s.X,fun b hb=>Nat.lt_of_lt_of_le (s.lt b hb) (by simp)⟩
theorem Ex.push (s : St) (ob : Obj) : Ex s (s.push ob):=
 ⟨⟨DR.eq rfl,rfl,rfl,rfl,by simp [St.push],fun b hb _=>Go.RowKit.Below.heap_alloc s.w ob b hb,fun _ h=>h.elim,fun _ h=>.inl h⟩,fun _ h=>h⟩
end
end Go.Proofs.YtahgmdbioafmbaaGreatDoor.VD
namespace Go.Proofs.YtahgmdbioafmbaaGreatDoor.VD
open Go
set_option linter.unusedVariables false
def at? {α : Type} (xs : List α) (i : Int) : Option α:=if 0 ≤ i then xs[i.toNat]? else none
def Els {α : Type} (E : En α) (w : World) (S : Nat → Prop) (css : List (List Value)) (xs : List α) : Prop:=
 css.length = xs.length ∧ ∀ (i : Nat) (cs : List Value) (x : α),css[i]? = some cs → xs[i]? = some x → E.R w S cs x
theorem Els.lens {α : Type} {E : En α} {w S css} {xs : List α} (h : Els E w S css xs) : ∀ cs ∈ css,cs.length = E.sz:=by
 intro cs hcs
 obtain ⟨i,hi⟩:=List.getElem?_of_mem hcs
 have hlt : i < css.length:=(List.getElem?_eq_some_iff.1 hi).1
 have hx : xs[i]? = some (xs[i]'(h.1 ▸ hlt)):=by simp
 exact E.len (h.2 i cs _ hi hx)
theorem flat_get {css : List (List Value)} {n : Nat} (h : ∀ cs ∈ css,cs.length = n) : ∀ {i : Nat} {cs : List Value} {j : Nat} {u : Value},css[i]? = some cs → cs[j]? = some u → css.flatten[i * n + j]? = some u:=by
 induction css with
 | nil=>intro i cs j u hi; simp at hi
 | cons c r ih=>
  intro i cs j u hi hj
  have hc : c.length = n:=h c (by simp)
  cases i with
  | zero=>
   simp at hi; subst hi
   rw [List.flatten_cons,Nat.zero_mul,Nat.zero_add,List.getElem?_append_left (List.getElem?_eq_some_iff.1 hj).1]; exact hj
  | succ i=>
   simp at hi
   rw [List.flatten_cons,List.getElem?_append_right (by rw [hc,Nat.succ_mul]; omega)]
   rw [show (i + 1) * n + j - c.length = i * n + j by rw [hc,Nat.succ_mul]; omega]
   exact ih (fun x hx=>h x (by simp [hx])) hi hj
def lim : Nat:=9223372036854775807
def SlV {α : Type} (E : En α) (w : World) (S : Nat → Prop) (v : Value) (xs : List α) : Prop:=
 ∃ ad cap,v = .slice ad xs.length cap ∧ xs.length ≤ cap ∧ (ad = none → cap = 0) ∧ xs.length ≤ lim ∧
  (xs ≠ [] → ∃ b off css,ad = some ⟨b,off,none⟩ ∧ S b ∧ Els E w S css xs ∧ CellsAt w b off css.flatten)
def En.slice {α : Type} (E : En α) : En (List α) where
 sz:=1
 agg:=false
 R:=fun w S cs xs=>∃ v,cs = [v] ∧ SlV E w S v xs
 sc:=fun _=>rfl
 pos:=Nat.one_pos
 len:=by rintro _ _ _ _ ⟨v,rfl,_⟩; rfl
 one:=by rintro _ _ _ _ ⟨v,rfl,ad,cap,rfl,_⟩ u hu; simp at hu; subst hu; rfl
 mono:=by
  rintro w S S' cs xs h ⟨v,rfl,ad,cap,hv,h1,h2,h3,h4⟩
  refine ⟨v,rfl,ad,cap,hv,h1,h2,h3,fun hne=>?_⟩
  obtain ⟨b,off,css,e,hb,hE,hc⟩:=h4 hne
  exact ⟨b,off,css,e,h b hb,⟨hE.1,fun i cs x a b=>E.mono h (hE.2 i cs x a b)⟩,hc⟩
 move:=by
  rintro w w' S cs xs h ⟨v,rfl,ad,cap,hv,h1,h2,h3,h4⟩
  refine ⟨v,rfl,ad,cap,hv,h1,h2,h3,fun hne=>?_⟩
  obtain ⟨b,off,css,e,hb,hE,hc⟩:=h4 hne
  exact ⟨b,off,css,e,hb,⟨hE.1,fun i cs x a b=>E.move h (hE.2 i cs x a b)⟩,hc.same (h b hb)⟩
theorem rep_slice {α : Type} {E : En α} {xs : List α} {s : St} {v : Value} : (Pd.rep (En.slice E) xs).p s v ↔ SlV E s.w (foot s) v xs:=
 ⟨fun ⟨_,hv,u,hc,h⟩=>by subst hc; subst hv; exact h,fun h=>⟨[v],rfl,v,rfl,h⟩⟩
section
variable {P : Program} {ops : Array Oper} {o : Oper} {L : Lst}
theorem t_len {α : Type} {E : En α} {xs : List α} {y : Operand} {t te : TypeId} (hy : Opn L y (Pd.rep (En.slice E) xs)) (ht : P.underlying t = some (.slice te)) (ho : o.op = .call { callee:=.builtin .len,args:=#[y],argTypes:=#[t] }) (hg : o.guard = none) :
  T P ops o L (Pd.rep (En.int .i64) xs.length):=
 T.pure hg fun M n s0 ac s hL=>by
  obtain ⟨ad,cap,hv,h1,h2,h3,h4⟩:=rep_slice.1 (hy M n s0 ac s hL)
  refine ⟨.int .i64 xs.length, ?_,rep_int.2 ⟨rfl, ?_⟩⟩
  ·unfold execOp; rw [ho]; simp [resolve,invoke,builtin,hv,Builtin.len_,run_underlying ht,goInt]
  ·simp only [lim] at h3; simp [InR,IntKind.min,IntKind.max,IntKind.signed,IntKind.bits]; omega
theorem t_idx {α : Type} {E : En α} {xs : List α} {e : α} {k : IntKind} {i : Int} {x y : Operand} {t te : TypeId} (hx : Opn L x (Pd.rep (En.slice E) xs)) (hy : Opn L y (Pd.rep (En.int k) i)) (he : at? xs i = some e)
  (ht : P.underlying t = some (.slice te)) (hE : Ty P te E) (ho : o.op = .indexAddr t x y) (hg : o.guard = none) : T P ops o L (Pd.ptr E e):=
 T.pure hg fun M n s0 ac s hL=>by
  obtain ⟨ad,cap,hv,h1,h2,h3,h4⟩:=rep_slice.1 (hx M n s0 ac s hL)
  have hi:=(rep_int.1 (hy M n s0 ac s hL)).1
  unfold at? at he
  split at he
  case isFalse=>cases he
  rename_i h0
  have hlt : i.toNat < xs.length:=(List.getElem?_eq_some_iff.1 he).1
  obtain ⟨b,off,css,e1,hb,hEl,hc⟩:=h4 (by intro h; simp [h] at hlt)
  obtain ⟨cs,hcs⟩ : ∃ cs,css[i.toNat]? = some cs:=⟨css[i.toNat]'(by rw [hEl.1]; exact hlt),by simp⟩
  refine ⟨.pointer (some ⟨b,off + i.toNat * E.sz,none⟩), ?_,b,off + i.toNat * E.sz,cs,rfl,hb, ?_,hEl.2 _ _ _ hcs he⟩
  ·unfold execOp; rw [ho]
   simp only [hv,hi,Instr.indexAt,asIntOf,Sem.run_bind,Sem.run_pure,Result.andThen_ok,run_underlying ht,e1]
   rw [if_pos (by omega)]
   simp [run_sizeOfE hE,add_lit]
  ·intro j u hu
   rw [Nat.add_assoc]; exact hc _ u (flat_get hEl.lens hcs hu)
theorem En.psh {α : Type} (E : En α) {s : St} {ob : Obj} {cs : List Value} {x : α} (h : E.R s.w (foot s) cs x) : E.R (s.push ob).w (foot (s.push ob)) cs x:=E.go (Ex.push s ob).mv h
theorem cellsAt_new (s : St) (cs : List Value) (t : TypeId) : CellsAt (s.push (.cells cs.toArray t)).w s.w.heap.size 0 cs:=
 cellsAt_block (w:=(s.push (.cells cs.toArray t)).w) (t:=t) (fr:=(0,0)) (heap_alloc_new s.w _)
theorem t_box {α : Type} {E : En α} {x : α} {y : Operand} {t : TypeId} (hy : Opn L y (Pd.rep E x)) (ho : o.op = .box t y) (hg : o.guard = none) : T P ops o L (Pd.ptr E x):=
 T.mk hg fun M n s0 ac s hL=>by
  obtain ⟨cs,hv,hR⟩:=hy M n s0 ac s hL
  refine ⟨.pointer (some ⟨s.w.heap.size,0,none⟩),s.push (.cells cs.toArray t), ?_,Ex.push s _,s.w.heap.size,0,cs,rfl,⟨by simp [St.push],fun h=>by have:=s.lt _ h; omega⟩,cellsAt_new s cs t,E.psh hR⟩
  unfold execOp; rw [ho]
  simp only [hv,Instr.box,newVar,newRow,En.val_cells hR,Sem.run_bind,run_newObj,Result.andThen_ok,Sem.run_pure]
  rfl
end
end Go.Proofs.YtahgmdbioafmbaaGreatDoor.VD
namespace Go.Proofs.YtahgmdbioafmbaaGreatDoor.VD
open Go
set_option linter.unusedVariables false
structure Ef (T : Nat → Prop) (s s' : St) : Prop where
 mv : Mv T s s'
 keep : ∀ b,s.X b → ¬ T b → s'.X b
theorem Ef.ex {M T : Nat → Prop} {s0 s s' : St} (h : Fr M s0 s) (e : Ef T s s') (hT : ∀ b,T b → s0.w.heap.size ≤ b) : Fr M s0 s':=
 ⟨⟨h.mv.dr.trans e.mv.dr,e.mv.os.trans h.mv.os,e.mv.tape.trans h.mv.tape,e.mv.output.trans h.mv.output,Nat.le_trans h.mv.size e.mv.size,
  fun b hb hn=>(e.mv.blk b (Nat.lt_of_lt_of_le hb h.mv.size) (fun ht=>by have:=hT b ht; omega)).trans (h.mv.blk b hb hn),h.mv.tx,
  fun b hb=>(e.mv.xx b hb).elim (fun j=>h.mv.xx b j) (fun j=>.inr (Nat.le_trans h.mv.size j))⟩,
  fun b hb=>e.keep b (h.keep b hb) (fun ht=>by have:=hT b ht; have:=s0.lt b hb; omega)⟩
inductive Kp (T : Nat → Prop) (L : Lst) : Lst → Prop
 | nil : Kp T L []
 | cons {t : Nat} {q : Pd} {r : Lst} (hl : lk L t = some q) (hq : ∀ b,q.own b → ¬ T b) (hr : Kp T L r) : Kp T L ((t,q) :: r)
theorem Kp.get {T : Nat → Prop} {L L' : Lst} (h : Kp T L L') : ∀ t q,lk L' t = some q → lk L t = some q ∧ ∀ b,q.own b → ¬ T b:=by
 induction h with
 | nil=>intro t q h; cases h
 | cons hl hq _ ih=>
  rename_i d q' r _
  intro t q h
  unfold lk at h
  by_cases ht : d = t
  ·subst ht; simp at h; subst h; exact ⟨hl,hq⟩
  ·rw [beq_no ht] at h; exact ih t q h
theorem Has.ef {M : Nat → Prop} {n : Nat} {s0 : St} {a : Act} {s s' : St} {L L' : Lst} {T : Nat → Prop} (h : Has M n s0 a s L) (e : Ef T s s') (hT : ∀ b,T b → s0.w.heap.size ≤ b) (hk : Kp T L L') : Has M n s0 a s' L' where
 size:=h.size
 defers:=h.defers
 ent:=e.ex h.ent hT
 gl:=h.gl
 at_:=fun t q hl=>let ⟨h1,h2⟩:=hk.get t q hl; q.mv e.mv (fun b hb=>⟨h2 b hb,fun hx=>e.keep b hx (h2 b hb)⟩) (h.at_ t q h1)
theorem Has.keep {M : Nat → Prop} {n : Nat} {s0 : St} {a : Act} {s : St} {L L' : Lst} (h : Has M n s0 a s L) (hk : Kp (fun _=>False) L L') : Has M n s0 a s L':=h.sub fun t q hl=>h.at_ t q (hk.get t q hl).1
section
variable {P : Program} {ops : Array Oper} {o : Oper} {L : Lst}
def spl (cells : List Value) (off : Nat) (cs : List Value) : List Value:=cells.take off ++ cs ++ cells.drop (off + cs.length)
theorem spl_len {cells cs : List Value} {off : Nat} (h : off + cs.length ≤ cells.length) : (spl cells off cs).length = cells.length:=by simp [spl]; omega
theorem fill_step {place : Nat → Option (Nat × Nat)} {cells cs : List Value} {v : Value} {i off size : Nat} {rest : List (Nat × Value)} (hp : place i = some (off,size)) (hv : v.cells = cs.toArray) (hs : cs.length = size)
  (hl : off + size ≤ cells.length) : Instr.fill place cells.toArray ((i,v) :: rest) = Instr.fill place (spl cells off cs).toArray rest:=by
 conv=>lhs; unfold Instr.fill
 simp only [hp,hv]
 rw [if_neg (by simp [hs]; omega)]
 congr 1
 apply Array.ext_getElem?
 intro j
 rw [← Array.foldl_toList,Array.toList_zipIdx]
 have key : ∀ (l : List Value) (k : Nat) (acc : Array Value),off + k + l.length ≤ acc.size → (List.foldl (fun cs (x : Value × Nat)=>match x with | (c,j)=>cs.setIfInBounds (off + j) c) acc (l.zipIdx k))[j]? = if off + k ≤ j ∧ j < off + k + l.length then l[j - (off + k)]? else acc[j]?:=by
  intro l
  induction l with
  | nil=>intro k acc _; simp; omega
  | cons u r ih=>
   intro k acc hk
   simp only [List.zipIdx_cons,List.foldl_cons]
   rw [ih (k + 1) _ (by simp at hk ⊢; omega)]
   by_cases h1 : off + (k + 1) ≤ j ∧ j < off + (k + 1) + r.length
   ·rw [if_pos h1,if_pos (by simp; omega),show j - (off + k) = (j - (off + (k + 1))) + 1 by omega]; simp
   ·rw [if_neg h1]
    by_cases h2 : j = off + k
    ·subst h2; rw [if_pos (by simp)]; simp at hk; simp [show off + k < acc.size by omega]
    ·rw [if_neg (by simp; omega),Array.getElem?_setIfInBounds_ne (Ne.symm h2)]
 rw [key cs 0 cells.toArray (by simp; omega)]
 simp only [Nat.add_zero,spl,List.getElem?_toArray]
 by_cases h1 : j < off
 ·rw [if_neg (by omega),List.append_assoc,List.getElem?_append_left (by simp; omega),List.getElem?_take,if_pos h1]
 ·by_cases h2 : j < off + cs.length
  ·rw [if_pos (by omega),List.append_assoc,List.getElem?_append_right (by simp; omega),List.getElem?_append_left (by simp; omega)]
   congr 1; simp; omega
  ·rw [if_neg (by omega),List.getElem?_append_right (by simp; omega),List.getElem?_drop]
   congr 1; simp; omega
inductive OpL {α : Type} (E : En α) (L : Lst) : List Operand → List α → Prop
 | nil : OpL E L [] []
 | cons {x : Operand} {e : α} {xs : List Operand} {es : List α} : Opn L x (Pd.rep E e) → OpL E L xs es → OpL E L (x :: xs) (e :: es)
theorem fill_row {α : Type} {E : En α} {M : Nat → Prop} {n : Nat} {s0 : St} {ac : Act} {s : St} {L : Lst} (hL : Has M n s0 ac s L) : ∀ {xs : List Operand} {es : List α},OpL E L xs es → ∀ (k : Nat) (pre : List Value) (cells : List Value),pre.length = k * E.sz → cells.length = (k + xs.length) * E.sz → cells.take (k * E.sz) = pre →
  ∃ css,Els E s.w (foot s) css es ∧ Instr.fill (fun i=>some (i * E.sz,E.sz)) cells.toArray ((xs.zipIdx k).map fun (x,i)=>(i,ac.eval x)) = some (pre ++ css.flatten).toArray:=by
 intro xs es h
 induction h with
 | nil=>
  intro k pre cells hp hc ht
  refine ⟨[],⟨rfl,by simp⟩, ?_⟩
  simp only [List.zipIdx_nil,List.map_nil,Instr.fill,List.flatten_nil,List.append_nil]
  rw [← ht,List.take_of_length_le (by simp at hc; omega)]
 | cons hx _ ih=>
  rename_i x e xs es _
  intro k pre cells hp hc ht
  obtain ⟨cs,hv,hR⟩:=hx M n s0 ac s hL
  have hlen:=E.len hR
  have hsz : k * E.sz + E.sz ≤ cells.length:=by rw [hc,← Nat.succ_mul]; exact Nat.mul_le_mul_right _ (by simp)
  obtain ⟨css,hE,hf⟩:=ih (k + 1) (pre ++ cs) (spl cells (k * E.sz) cs) (by simp [hp,hlen,Nat.succ_mul]) (by rw [spl_len (by omega),hc]; congr 1; simp; omega) (by
   rw [spl,ht]
   rw [List.take_append_of_le_length (by simp [hp,hlen,Nat.succ_mul])]
   rw [List.take_of_length_le (by simp [hp,hlen,Nat.succ_mul])])
  refine ⟨cs :: css,⟨by simp [hE.1], ?_⟩, ?_⟩
  ·intro i c y hi hy
   cases i with
   | zero=>simp at hi hy; subst hi; subst hy; exact hR
   | succ i=>simp at hi hy; exact hE.2 i c y hi hy
  ·simp only [List.zipIdx_cons,List.map_cons]
   rw [fill_step (cs:=cs) (off:=k * E.sz) (size:=E.sz) rfl (by rw [hv]; exact En.val_cells hR) hlen hsz,hf]
   simp
theorem run_lit {α : Type} {E : En α} {t te : TypeId} {xs : List Operand} {es : List α} (hx : OpL E L xs es) (ht : P.underlying t = some (.slice te)) (hE : Ty P te E) {k : Nat} {parts : Array (Nat × Operand)} (hk : k = xs.length) (hp : parts = (xs.zipIdx.map fun (x,i)=>(i,x)).toArray)
  (hs : k * E.sz ≤ 16777216) (ho : o.op = .buildSlice t k parts) {M : Nat → Prop} {n : Nat} {s0 : St} {ac : Act} {s : St} (hL : Has M n s0 ac s L) : es.length = xs.length ∧ ∃ css,Els E s.w (foot s) css es ∧ (execOp ac.eval o).run P s.w = .ok (.value (.slice (some ⟨s.w.heap.size,0,none⟩) es.length es.length)) (s.push (.cells css.flatten.toArray te)).w:=by
 obtain ⟨i,z,hi,he,hz,hzs,_⟩:=hE.info
 have hlen : es.length = xs.length:=by clear hp hk hs ho; induction hx with | nil=>rfl | cons _ _ ih=>simp [ih]
 have hall : ∀ zero : Array Value,∃ css,Els E s.w (foot s) css es ∧ Instr.fill (fun i=>some (i * E.sz,E.sz)) ((Array.range (k * E.sz)).map (zero[· % zero.size]!)) (parts.map fun (i,x)=>(i,ac.eval x)).toList = some css.flatten.toArray:=by
  intro zero
  obtain ⟨css,hEl,hf⟩:=fill_row hL hx 0 [] ((Array.range (k * E.sz)).map (zero[· % zero.size]!)).toList (by simp) (by simp [hk]) (by simp)
  refine ⟨css,hEl, ?_⟩
  have e1 : (parts.map fun (i,x)=>(i,ac.eval x)).toList = (xs.zipIdx 0).map fun (x,i)=>(i,ac.eval x):=by rw [hp]; simp
  rw [e1]
  rw [Array.toArray_toList,List.nil_append] at hf; exact hf
 have hfin : ∃ css,Els E s.w (foot s) css es ∧ (execOp ac.eval o).run P s.w = .ok (.value (.slice (some ⟨s.w.heap.size,0,none⟩) es.length es.length)) (s.push (.cells css.flatten.toArray te)).w:=by
  by_cases h : k * E.sz = 0
  ·obtain ⟨css,hEl,hf⟩:=hall #[]
   refine ⟨css,hEl, ?_⟩
   unfold execOp; rw [ho]
   simp only [Instr.buildSlice,Sem.run_bind,run_underlying ht,Result.andThen_ok,run_sizeOfE hE]
   rw [if_neg (by omega),if_pos h]
   simp only [Sem.run_bind,Sem.run_pure,Result.andThen_ok]
   rw [hf]
   simp [newRow,St.push,hlen,hk]
  ·obtain ⟨css,hEl,hf⟩:=hall z.cells
   refine ⟨css,hEl, ?_⟩
   unfold execOp; rw [ho]
   simp only [Instr.buildSlice,Sem.run_bind,run_underlying ht,Result.andThen_ok,run_sizeOfE hE]
   rw [if_neg (by omega),if_neg h]
   have hzr : (zeroValue te).run P s.w = .ok z s.w:=by simp [zeroValue,typeInfo,hi,hz]
   simp only [Sem.run_bind,hzr,Sem.run_pure,Result.andThen_ok]
   rw [hf]
   simp [newRow,St.push,hlen,hk]
 exact ⟨hlen,hfin⟩
theorem t_lit {α : Type} {E : En α} {t te : TypeId} {xs : List Operand} {es : List α} (hx : OpL E L xs es) (ht : P.underlying t = some (.slice te)) (hE : Ty P te E) {k : Nat} {parts : Array (Nat × Operand)} (hk : k = xs.length) (hp : parts = (xs.zipIdx.map fun (x,i)=>(i,x)).toArray)
  (hs : k * E.sz ≤ 16777216) (ho : o.op = .buildSlice t k parts) (hg : o.guard = none) : T P ops o L (Pd.rep (En.slice E) es):=
 T.mk hg fun M n s0 ac s hL=>by
  obtain ⟨hlen,css,hEl,hr⟩:=run_lit hx ht hE hk hp hs ho hL
  refine ⟨_,_,hr,Ex.push s _,rep_slice.2 ⟨some ⟨s.w.heap.size,0,none⟩,es.length,rfl,Nat.le_refl _,(fun h=>by cases h), ?_,fun _=>⟨s.w.heap.size,0,css,rfl,⟨by simp [St.push],fun h=>by have:=s.lt _ h; omega⟩,⟨hEl.1,fun i cs x a b=>E.psh (hEl.2 i cs x a b)⟩,cellsAt_new s _ te⟩⟩⟩
  rw [hlen,← hk]
  have : k ≤ k * E.sz:=Nat.le_mul_of_pos_right k E.pos
  simp only [lim]; omega
end
end Go.Proofs.YtahgmdbioafmbaaGreatDoor.VD
namespace Go.Proofs.YtahgmdbioafmbaaGreatDoor.VD
open Go
set_option linter.unusedVariables false
def Vals (s : St) : List Pd → List Value → Prop
 | [],[]=>True
 | q :: qs,v :: vs=>q.p s v ∧ Vals s qs vs
 | _,_=>False
structure Fn (P : Program) (f : FuncId) (qs : List Pd) (R : St → St → Value → Prop) : Prop where
 call : ∀ (args : Array Value) (w : World),(callFunc f args).run P w = .ok (.enter f args) w
 run : ∀ s vs,Gl s → Vals s qs vs → Calls P f vs.toArray s.w fun e w'=>∃ v s',e = .returned v ∧ s'.w = w' ∧ Ex s s' ∧ R s s' v
def Rq (q : Pd) : St → St → Value → Prop:=fun _ s' v=>q.p s' v
inductive Opns (L : Lst) : List Operand → List Pd → Prop
 | nil : Opns L [] []
 | cons {x : Operand} {q : Pd} {xs : List Operand} {qs : List Pd} : Opn L x q → Opns L xs qs → Opns L (x :: xs) (q :: qs)
theorem Opns.vals {L : Lst} {xs : List Operand} {qs : List Pd} (h : Opns L xs qs) {M : Nat → Prop} {n : Nat} {s0 : St} {a : Act} {s : St} (hL : Has M n s0 a s L) : Vals s qs (xs.map a.eval):=by
 induction h with
 | nil=>trivial
 | cons hx _ ih=>exact ⟨hx M n s0 a s hL,ih⟩
section
variable {P : Program} {ops : Array Oper} {o : Oper} {L : Lst}
theorem run_callop {f : FuncId} {xs : List Operand} {ats : Array TypeId} {qs R} (hf : Fn P f qs R) (a : Act) (w : World) (ho : o.op = .call { callee:=.value (.func f),args:=xs.toArray,argTypes:=ats }) :
  (execOp a.eval o).run P w = .ok (.enter f (xs.map a.eval).toArray) w:=by
 have h:=hf.call (xs.map a.eval).toArray w
 have e : execOp a.eval o = callFunc f (#[] ++ (xs.toArray).map a.eval ++ #[]):=by unfold execOp; rw [ho]; rfl
 rw [e]
 simpa using h
theorem t_call {f : FuncId} {xs : List Operand} {qs : List Pd} {q : Pd} {ats : Array TypeId} (hf : Fn P f qs (Rq q)) (hx : Opns L xs qs) (ho : o.op = .call { callee:=.value (.func f),args:=xs.toArray,argTypes:=ats }) (hg : o.guard = none) :
  T P ops o L q:=fun M n s0 a s hL Q k hk=>by
 simp only [Region.wanted,hg,if_true]
 unfold Oper.wp
 rw [run_callop hf a s.w ho,Oper.upon_enter]
 refine (hf.run s _ hL.gls (hx.vals hL)).mono fun e w' ⟨v,s',he,hw,hx,hq⟩=>?_
 subst he; subst hw
 exact hk v s' ⟨hx,hq⟩
end
def num : Nat → List Pd → Lst
 | _,[]=>[]
 | k,q :: qs=>(k,q) :: num (k + 1) qs
def Pst (M : Nat → Prop) (R : St → St → Value → Prop) (s0 : St) : Ending → World → Prop:=fun e w'=>∃ v s',e = .returned v ∧ s'.w = w' ∧ Fr M s0 s' ∧ R s0 s' v
theorem num_vals {s : St} : ∀ {qs : List Pd} {vs : List Value} (h : Vals s qs vs) (k t : Nat) (q : Pd),lk (num k qs) t = some q → ∃ v,k ≤ t ∧ vs[t - k]? = some v ∧ q.p s v
 | [],_,_,k,t,q,hl=>by cases hl
 | q' :: qs,[],h,_,_,_,_=>h.elim
 | q' :: qs,v :: vs,h,k,t,q,hl=>by
  unfold num lk at hl
  by_cases ht : k = t
  ·subst ht; simp at hl; subst hl; exact ⟨v,Nat.le_refl _,by simp,h.1⟩
  ·rw [beq_no ht] at hl
   obtain ⟨u,h1,h2,h3⟩:=num_vals h.2 (k + 1) t q hl
   refine ⟨u,by omega, ?_,h3⟩
   rw [show t - k = (t - (k + 1)) + 1 by omega]; simpa using h2
theorem vals_len {s : St} : ∀ {qs : List Pd} {vs : List Value},Vals s qs vs → vs.length = qs.length
 | [],[],_=>rfl
 | [],_ :: _,h=>h.elim
 | _ :: _,[],h=>h.elim
 | _ :: _,_ :: _,h=>by simp [vals_len h.2]
structure Fm (P : Program) (f : FuncId) (M : Nat → Prop) (qs : List Pd) (R : St → St → Value → Prop) : Prop where
 call : ∀ (args : Array Value) (w : World),(callFunc f args).run P w = .ok (.enter f args) w
 run : ∀ s vs,Gl s → (∀ b,M b → s.X b) → Vals s qs vs → Calls P f vs.toArray s.w fun e w'=>∃ v s',e = .returned v ∧ s'.w = w' ∧ Fr M s s' ∧ R s s' v
theorem fm_of {P : Program} {f : FuncId} {fn : Func} {c : Code} {n : Nat} {M : Nat → Prop} {qs : List Pd} {R : St → St → Value → Prop} (hf : P.funcs[f]? = some fn) (hb : fn.body = some c) (hn : fn.ntmps = n) (hm : (fn.name == "runtime.NumGoroutine") = false) (hq : qs.length ≤ n)
  (h : ∀ s0 a,Has M n s0 a s0 (num 0 qs) → c.wp P (bodyPost P fn (Pst M R s0)) a s0.w) : Fm P f M qs R where
 call:=fun args w=>by
  have hm' : ¬ fn.name = "runtime.NumGoroutine":=by simpa using hm
  simp [callFunc,hf,hm',hb]
 run:=fun s vs hg hM hv=>by
  refine calls_of_wp hf hb ?_
  have hl:=vals_len hv
  refine h s _ ⟨?_,rfl,Fr.refl hM,hg,fun t q ht=>?_⟩
  ·simp [hn,hl]; omega
  ·obtain ⟨v,_,h2,h3⟩:=num_vals hv 0 t q ht
   have : (({ tmps:=vs.toArray ++ Array.replicate (fn.ntmps - vs.toArray.size) undef,defers:=[] } : Act).eval (.tmp t)) = v:=by
    simp only [Nat.sub_zero] at h2
    have hlt : t < vs.length:=(List.getElem?_eq_some_iff.1 h2).1
    simp only [Act.eval]
    rw [Array.getD_eq_getD_getElem?,Array.getElem?_append_left (by simpa using hlt)]
    simp [h2]
   rw [this]; exact h3
theorem Fm.fn {P : Program} {f : FuncId} {qs : List Pd} {R : St → St → Value → Prop} (h : Fm P f N0 qs R) : Fn P f qs R:=
 ⟨h.call,fun s vs hg hv=>(h.run s vs hg (fun _ h=>h.elim) hv).mono fun e w' ⟨v,s',he,hw,hx,hr⟩=>⟨v,s',he,hw,hx.ex,hr⟩⟩
theorem fn_of {P : Program} {f : FuncId} {fn : Func} {c : Code} {n : Nat} {qs : List Pd} {R : St → St → Value → Prop} (hf : P.funcs[f]? = some fn) (hb : fn.body = some c) (hn : fn.ntmps = n) (hm : (fn.name == "runtime.NumGoroutine") = false) (hq : qs.length ≤ n)
  (h : ∀ s0 a,Has N0 n s0 a s0 (num 0 qs) → c.wp P (bodyPost P fn (Pst N0 R s0)) a s0.w) : Fn P f qs R:=(fm_of hf hb hn hm hq h).fn
section
variable {P : Program} {fn : Func} {M : Nat → Prop} {n : Nat} {s0 : St} {a : Act} {s : St} {L : Lst} {R : St → St → Value → Prop}
theorem ret1 {t : Nat} (hr : fn.results = #[.tmp t]) (hL : Has M n s0 a s L) (hR : R s0 s (a.eval (.tmp t))) : bodyPost P fn (Pst M R s0) .ret a s.w:=
 ⟨hL.defers,_,results_tmp hr a.tmps P s.w,_,s,rfl,rfl,hL.ent,hR⟩
theorem retq {t : Nat} {q : Pd} (hr : fn.results = #[.tmp t]) (hL : Has M n s0 a s L) (hl : lk L t = some q) : bodyPost P fn (Pst M (Rq q) s0) .ret a s.w:=ret1 hr hL (hL.get t hl)
end
section
variable {P : Program} {Q : Exit → Act → World → Prop} {M : Nat → Prop} {n : Nat} {s0 : St} {a : Act} {s : St} {L : Lst}
theorem cnd {t : Nat} {b : Bool} {x y : Code} (hL : Has M n s0 a s L) (hl : lk L t = some (Pd.rep En.bool b)) (h1 : b = true → x.wp P Q a s.w) (h2 : b = false → y.wp P Q a s.w) : (Code.cond (.tmp t) x y).wp P Q a s.w:=
 wp_cond_split (rep_bool.1 (hL.get t hl)) h1 h2
theorem lpg {c : Code} (I : Nat → Act → St → Prop) (k0 : Nat) (h0 : I k0 a s)
  (round : ∀ k a s,I k a s → ∀ K : Act → World → Prop,(∀ k' a' s',k' < k → I k' a' s' → K a' s'.w) → c.wp P (Exit.then K Q) a s.w) : (Code.loop c).wp P Q a s.w:=by
 refine wp_loop_ghost (fun k a w=>∃ s,s.w = w ∧ I k a s) k0 ⟨s,rfl,h0⟩ ?_
 rintro k a w ⟨s,rfl,hI⟩
 exact round k a s hI _ fun k' a' s' hk hI'=>⟨k',hk,s',rfl,hI'⟩
end
end Go.Proofs.YtahgmdbioafmbaaGreatDoor.VD
namespace Go.Proofs.YtahgmdbioafmbaaGreatDoor.VD
open Go
set_option linter.unusedVariables false
structure TyZ {α : Type} (P : Program) (t : TypeId) (E : En α) (z : α) : Prop where
 zero : ∃ i v cs,P.info? t = some i ∧ i.zero = some v ∧ v.cells = cs.toArray ∧ ∀ w S,E.R w S cs z
def Sub {α β : Type} (E : En α) (off : Nat) (E' : En β) (x x' : α) (y : β) : Prop:=
 off + E'.sz ≤ E.sz ∧ ∀ w S cs cs',E.R w S cs x → E'.R w S cs' y → E.R w S (spl cs off cs') x'
theorem sub_all {α : Type} (E : En α) (x y : α) : Sub E 0 E x y y:=
 ⟨by simp,fun w S cs cs' h h'=>by
  have : spl cs 0 cs' = cs':=by
   have h1:=E.len h
   have h2:=E.len h'
   simp [spl,List.drop_of_length_le (show cs.length ≤ cs'.length by omega)]
  rw [this]; exact h'⟩
def St.pushX (s : St) (ob : Obj) : St:=⟨s.w.alloc ob,fun b=>s.X b ∨ b = s.w.heap.size,fun b hb=>hb.elim (fun h=>Nat.lt_of_lt_of_le (s.lt b h) (by simp)) (fun h=>by subst h; simp)⟩
theorem Ex.pushX (s : St) (ob : Obj) : Ex s (s.pushX ob):=
 ⟨⟨DR.eq rfl,rfl,rfl,rfl,by simp [St.pushX],fun b hb _=>Go.RowKit.Below.heap_alloc s.w _ b hb,fun _ h=>h.elim,fun b hb=>hb.imp id (fun h=>Nat.le_of_eq h.symm)⟩,fun b hb=>.inl hb⟩
section
variable {P : Program} {ops : Array Oper} {o : Oper} {L L' : Lst} {Q : Exit → Act → World → Prop} {rest : List Oper} {M : Nat → Prop} {n : Nat} {s0 : St} {a : Act} {s : St}
theorem st_alloc {α : Type} (E : En α) {z : α} {t : TypeId} (d : Nat) (hL : Has M n s0 a s L) (hz : TyZ P t E z) (ho : o.op = .alloc t) (hg : o.guard = none) (hd : o.dst = some d) (hn : Nat.blt d n = true)
  (k : ∀ a' s' g,s.w.heap.size ≤ g → Has M n s0 a' s' ((d,Pd.box E s0.w.heap.size g z) :: L) → wpList P ops Q rest a' s'.w) : wpList P ops Q (o :: rest) a s.w:=by
 obtain ⟨i,v,cs,h1,h2,h3,h4⟩:=hz.zero
 have hr : (execOp a.eval o).run P s.w = .ok (.value (.pointer (some ⟨s.w.heap.size,0,none⟩))) (s.pushX (.cells cs.toArray t)).w:=by
  unfold execOp; rw [ho]
  simp [Instr.alloc,zeroValue,typeInfo,h1,h2,newVar,newRow,h3,St.pushX]
 refine wpList_plain hg fun K hK=>?_
 unfold Oper.wp
 rw [hr]
 refine hK _ _ ?_
 simp only [hd]
 exact k _ _ s.w.heap.size (Nat.le_refl _) (hL.put (Ex.pushX s _) hn ⟨rfl,hL.ent.mv.size,.inr rfl,cs,t,heap_alloc_new s.w _,h4 _ _⟩)
theorem run_storeE {α : Type} {E : En α} {x : α} {t : TypeId} (ht : Ty P t E) {w w' : World} {S : Nat → Prop} {cs : List Value} (hR : E.R w' S cs x) {g off : Nat} {cur : List Value} {te : TypeId} (hg : w.heap[g]? = some (.cells cur.toArray te (0,0))) (hl : off + E.sz ≤ cur.length) :
  (Instr.storeAt t (.pointer (some ⟨g,off,none⟩)) (E.val cs)).run P w = .ok () (w.setRow g (spl cur off cs).toArray):=by
 have hlen:=E.len hR
 have:=run_storeCells_at P g off te cs 0 cur.toArray w hg (by simp; omega) (E.one hR)
 simp only [Instr.storeAt,Instr.sureAddr,Sem.run_bind,Sem.run_pure,Result.andThen_ok,storeVar,run_sizeOfE ht,En.val_cells hR]
 rw [if_neg (by simp [hlen])]
 simpa [spl] using this
def St.set (s : St) (g : Nat) (cs : List Value) : St:=⟨s.w.setRow g cs.toArray,s.X,fun b hb=>by simpa [World.setRow] using s.lt b hb⟩
theorem Ef.set (s : St) {g : Nat} (cs : List Value) {T : Nat → Prop} (hT : ∀ b,T b ↔ b = g) (hx : s.X g) : Ef T s (s.set g cs):=
 ⟨⟨DR.eq rfl,rfl,rfl,rfl,by simp [St.set,World.setRow],fun b _ hn=>setRow_other s.w g b _ (fun e=>hn ((hT b).2 e)),fun b hb=>by rw [(hT b).1 hb]; exact hx,fun b hb=>.inl hb⟩,fun b hb _=>hb⟩
theorem wp_store {t : TypeId} {x y : Operand} {w' : World} (hr : (Instr.storeAt t (a.eval x) (a.eval y)).run P s.w = .ok () w') (ho : o.op = .store t x y) (hg : o.guard = none) (hd : o.dst = none) (k : wpList P ops Q rest a w') : wpList P ops Q (o :: rest) a s.w:=by
 refine wpList_plain hg fun K hK=>?_
 unfold Oper.wp execOp
 simp only [ho,Sem.run_bind,hr,Result.andThen_ok,Sem.run_pure]
 refine hK _ _ ?_
 simp only [hd]
 exact k
theorem st_stob {α β : Type} {E : En α} {E' : En β} {x0 x1 : α} {y0 y1 : β} {g off : Nat} {x y : Operand} {t : TypeId} (c : Nat) (hL : Has M n s0 a s L) (hc : lk L c = some (Pd.box E s0.w.heap.size g x0)) (hx : Opn L x (Pd.optr E' s0.w.heap.size (some g) off y0)) (hy : Opn L y (Pd.rep E' y1))
  (hs : Sub E off E' x0 x1 y1) (ht : Ty P t E') (ho : o.op = .store t x y) (hg : o.guard = none) (hd : o.dst = none) (hk : Kp (fun b=>some g = some b) L L')
  (k : ∀ s',Has M n s0 a s' ((c,Pd.box E s0.w.heap.size g x1) :: L') → wpList P ops Q rest a s'.w) : wpList P ops Q (o :: rest) a s.w:=by
 obtain ⟨hv,hN,hX,cur,te,hgb,hR⟩:=hL.get c hc
 obtain ⟨g',hgg,hxv,_⟩:=hx M n s0 a s hL
 cases hgg
 obtain ⟨cs,hyv,hR'⟩:=hy M n s0 a s hL
 have hlen:=E.len hR
 have hr:=run_storeE (P:=P) ht hR' (g:=g) (off:=off) hgb (by rw [hlen]; exact hs.1)
 refine wp_store (s:=s) (by rw [hxv,hyv]; exact hr) ho hg hd ?_
 have e : Ef (fun b=>some g = some b) s (s.set g (spl cur off cs)):=Ef.set s _ (fun b=>by simp [eq_comm]) hX
 refine k (s.set g (spl cur off cs)) ((hL.ef e (fun b hb=>by cases hb; exact hN) hk).cons c ⟨hv,hN,hX,_,te,setRow_heap s.w g _ _ te (0,0) hgb, ?_⟩)
 exact E.go e.mv (hs.2 _ _ _ _ hR hR')
theorem st_stb {α : Type} {E : En α} {x0 x1 : α} {g : Nat} {y : Operand} {t : TypeId} (c : Nat) (hL : Has M n s0 a s L) (hc : lk L c = some (Pd.box E s0.w.heap.size g x0)) (hy : Opn L y (Pd.rep E x1))
  (ht : Ty P t E) (ho : o.op = .store t (.tmp c) y) (hg : o.guard = none) (hd : o.dst = none) (hk : Kp (fun b=>some g = some b) L L')
  (k : ∀ s',Has M n s0 a s' ((c,Pd.box E s0.w.heap.size g x1) :: L') → wpList P ops Q rest a s'.w) : wpList P ops Q (o :: rest) a s.w:=by
 refine st_stob (off:=0) (y0:=x0) (E':=E) c hL hc ?_ hy (sub_all E x0 x1) ht ho hg hd hk k
 intro M' n' s0' a' s' hL'
 obtain ⟨hv,hN,hX,cur,te,hgb,hR⟩:=hL'.get c hc
 exact ⟨g,rfl,hv,hN,(Array.getElem?_eq_some_iff.1 hgb).1,hX,cur,cellsAt_block hgb,hR⟩
end
def Dis (a b : Option Nat) : Prop:=∀ k,a = some k → b = some k → False
theorem Dis.symm {a b : Option Nat} (h : Dis a b) : Dis b a:=fun k h1 h2=>h k h2 h1
theorem Dis.bx {g : Nat} {b : Option Nat} (h : Dis (some g) b) : ∀ k,k = g → ¬ b = some k:=fun k h1 h2=>h k (by rw [h1]) h2
theorem Dis.newg {g : Nat} {b : Option Nat} {N : Nat} (h : N ≤ g) (hb : ∀ k,b = some k → k < N) : Dis (some g) b:=fun k h1 h2=>by cases h1; have:=hb g h2; omega
theorem Has.blt {α : Type} {E : En α} {N g : Nat} {x : α} {M : Nat → Prop} {n : Nat} {s0 : St} {a : Act} {s : St} {L : Lst} (h : Has M n s0 a s L) (t : Nat) (hl : lk L t = some (Pd.box E N g x)) : ∀ k,some g = some k → k < s.w.heap.size:=fun k hk=>by
 cases hk
 obtain ⟨_,_,_,_,_,hc,_⟩:=h.get t hl
 exact (Array.getElem?_eq_some_iff.1 hc).1
theorem rdl {P : Program} {id : Nat} {l : List Oper} {Q : Exit → Act → World → Prop} {M : Nat → Prop} {n : Nat} {s0 : St} {a : Act} {s : St} {L : Lst} (hf : P.follows .mixedOrders = true) (m : Nat) (qs : List Pd)
  (hL : Has M n s0 a s L) (hok : okDraw l.toArray m n (L.map (·.1)) [] = true) (hq : qs.length = m) (hm : m ≤ l.length)
  (hT : ∀ i o q,i < m → l[i]? = some o → qs[i]? = some q → T P l.toArray o (depL l.toArray qs o.after.toList L) q)
  (hB : ∀ a' s',Ex s s' → Has M n s0 a' s' (newL l.toArray qs m L) → wpList P l.toArray Q (l.drop m) a' s'.w) : (Code.region id l.toArray true).wp P Q a s.w:=by
 refine rd hf m qs hL hok hq (by simpa using hm) (fun i o q hi ho=>hT i o q hi (by simpa using ho)) fun a' s' e h=>?_
 have:=hB a' s' e h
 rw [← wpOps_eq_wpList (l.drop m) m (fun j=>by simp)] at this
 simpa using this
def AllT (P : Program) (ops : Array Oper) (qs0 : List Pd) (L : Lst) : List Oper → List Pd → Prop
 | _,[]=>True
 | [],_ :: _=>False
 | o :: l,q :: qs=>T P ops o (depL ops qs0 o.after.toList L) q ∧ AllT P ops qs0 L l qs
theorem AllT.at {P : Program} {ops : Array Oper} {qs0 : List Pd} {L : Lst} : ∀ (l : List Oper) (qs : List Pd),AllT P ops qs0 L l qs → ∀ (i : Nat) (o : Oper) (q : Pd),l[i]? = some o → qs[i]? = some q → T P ops o (depL ops qs0 o.after.toList L) q
 | _,[],_,i,o,q,_,hq=>by simp at hq
 | [],_ :: _,h,_,_,_,_,_=>h.elim
 | o' :: l,q' :: qs,h,i,o,q,ho,hq=>by
  cases i with
  | zero=>simp only [List.getElem?_cons_zero,Option.some.injEq] at ho hq; subst ho; subst hq; exact h.1
  | succ i=>simp only [List.getElem?_cons_succ] at ho hq; exact AllT.at l qs h.2 i o q ho hq
theorem AllT.cons {P : Program} {ops : Array Oper} {qs0 : List Pd} {L : Lst} {o : Oper} {l : List Oper} {q : Pd} {qs : List Pd} (h : T P ops o (depL ops qs0 o.after.toList L) q) (h2 : AllT P ops qs0 L l qs) : AllT P ops qs0 L (o :: l) (q :: qs):=⟨h,h2⟩
theorem AllT.nil {P : Program} {ops : Array Oper} {qs0 : List Pd} {L : Lst} {l : List Oper} : AllT P ops qs0 L l []:=by cases l <;> trivial
theorem rda {P : Program} {id : Nat} {l : List Oper} {Q : Exit → Act → World → Prop} {M : Nat → Prop} {n : Nat} {s0 : St} {a : Act} {s : St} {L : Lst} (hf : P.follows .mixedOrders = true) (m : Nat) (qs : List Pd)
  (hL : Has M n s0 a s L) (hok : okDraw l.toArray m n (L.map (·.1)) [] = true) (hq : Nat.beq qs.length m = true) (hm : Nat.ble m l.length = true)
  (hT : AllT P l.toArray qs L l qs)
  (hB : ∀ a' s',Ex s s' → Has M n s0 a' s' (newL l.toArray qs m L) → wpList P l.toArray Q (l.drop m) a' s'.w) : (Code.region id l.toArray true).wp P Q a s.w:=
 rdl hf m qs hL hok (Nat.eq_of_beq_eq_true hq) (Nat.le_of_ble_eq_true hm) (fun i o q _ ho hq=>AllT.at l qs hT i o q ho hq) hB
section
variable {P : Program} {ops : Array Oper} {o : Oper} {L : Lst}
end
end Go.Proofs.YtahgmdbioafmbaaGreatDoor.VD
namespace Go.Proofs.YtahgmdbioafmbaaGreatDoor.VD
open Go
set_option linter.unusedVariables false
section
variable {P : Program} {ops : Array Oper} {o : Oper} {L L' : Lst} {Q : Exit → Act → World → Prop} {rest : List Oper} {M : Nat → Prop} {n : Nat} {s0 : St} {a : Act} {s : St}
end
def En.fun (P : Program) {β : Type} (qs : β → List Pd) (R : β → St → St → Value → Prop) : En (β → Prop) where
 sz:=1
 agg:=false
 R:=fun w S cs F=>(cs = [.nilFunc] ∧ ∀ q,¬ F q) ∨ ∃ (f : FuncId) (first cap : Array Value),cs = [.func (.func f) first cap] ∧ (∀ (args : Array Value) (w : World),(callFunc f args).run P w = .ok (.enter f args) w) ∧
  ∀ s : St,Gl s → (∀ b,S b → foot s b) → Same S w s.w → ∀ q,F q → ∀ vs,Vals s (qs q) vs → Calls P f (first ++ vs.toArray ++ cap) s.w fun e w'=>∃ (v : Value) (s' : St),e = .returned v ∧ s'.w = w' ∧ Ex s s' ∧ R q s s' v
 sc:=fun _=>rfl
 pos:=Nat.one_pos
 len:=by rintro _ _ _ _ (⟨rfl,_⟩ | ⟨_,_,_,rfl,_⟩) <;> rfl
 one:=by rintro _ _ _ _ (⟨rfl,_⟩ | ⟨_,_,_,rfl,_⟩) u hu <;> (simp at hu; subst hu; rfl)
 mono:=by
  rintro w S S' cs F h (h0 | ⟨f,first,cap,hc,h1,h2⟩)
  ·exact .inl h0
  ·exact .inr ⟨f,first,cap,hc,h1,fun s hg ha hb=>h2 s hg (fun b hS=>ha b (h b hS)) fun b hS=>hb b (h b hS)⟩
 move:=by
  rintro w w' S cs F h (h0 | ⟨f,first,cap,hc,h1,h2⟩)
  ·exact .inl h0
  ·exact .inr ⟨f,first,cap,hc,h1,fun s hg ha hb=>h2 s hg ha fun b hS=>(hb b hS).trans (h b hS)⟩
section
variable {P : Program} {ops : Array Oper} {o : Oper} {L : Lst} {β : Type} {qs : β → List Pd} {R : β → St → St → Value → Prop} {F : β → Prop}
theorem o_fun {f : FuncId} (hc : ∀ (args : Array Value) (w : World),(callFunc f args).run P w = .ok (.enter f args) w) (h : ∀ q,F q → Fn P f (qs q) (R q)) : Opn L (.func f) (Pd.rep (En.fun P qs R) F):=
 fun M n s0 a s hL=>⟨[.func (.func f) #[] #[]],rfl,.inr ⟨f,#[],#[],rfl,hc,fun s1 hgl _ _ q hq vs hv=>by simpa using (h q hq).run s1 vs hgl hv⟩⟩
theorem t_callf {t : Nat} {xs : List Operand} {q : β} {q' : Pd} {ats : Array TypeId} (hf : Opn L (.tmp t) (Pd.rep (En.fun P qs R) F)) (hq : F q) (hx : Opns L xs (qs q)) (hR : ∀ s s' v,R q s s' v → q'.p s' v)
  (ho : o.op = .call { callee:=.value (.tmp t),args:=xs.toArray,argTypes:=ats }) (hg : o.guard = none) : T P ops o L q':=fun M n s0 a s hL Q k hk=>by
 simp only [Region.wanted,hg,if_true]
 obtain ⟨cs,hv,h⟩:=hf M n s0 a s hL
 rcases h with ⟨_,h0⟩ | ⟨f,first,cap,hcs,hc,hr⟩
 ·exact (h0 q hq).elim
 subst hcs
 have hv : a.eval (.tmp t) = .func (.func f) first cap:=hv
 have e : (execOp a.eval o).run P s.w = .ok (.enter f (first ++ (xs.map a.eval).toArray ++ cap)) s.w:=by
  have e1 : execOp a.eval o = (do let d ← Deferred.ofValue (a.eval (.tmp t)) (xs.toArray.map a.eval); invoke d.target d.args):=by
   unfold execOp; rw [ho]; rfl
  rw [e1,hv]
  have:=hc (first ++ (xs.map a.eval).toArray ++ cap) s.w
  simpa [Deferred.ofValue,invoke] using this
 unfold Oper.wp
 rw [e,Oper.upon_enter]
 refine (hr s hL.gls (fun _ h=>h) (fun _ _=>rfl) q hq _ (hx.vals hL)).mono fun e w' ⟨v,s',he,hw,hx,hq⟩=>?_
 subst he; subst hw
 exact hk v s' ⟨hx,hR _ _ _ hq⟩
end
theorem call_of {P : Program} {f : FuncId} {fn : Func} {c : Code} (hf : P.funcs[f]? = some fn) (hb : fn.body = some c) (hm : (fn.name == "runtime.NumGoroutine") = false) : ∀ (args : Array Value) (w : World),(callFunc f args).run P w = .ok (.enter f args) w:=fun args w=>by
 have hm' : ¬ fn.name = "runtime.NumGoroutine":=by simpa using hm
 simp [callFunc,hf,hm',hb]
theorem o_q {L : Lst} {x : Operand} (q : Pd) (h : Opn L x q) : Opn L x q:=h
end Go.Proofs.YtahgmdbioafmbaaGreatDoor.VD
namespace Go.Proofs.YtahgmdbioafmbaaGreatDoor.V
open Go Go.Shelf Go.Sort
set_option linter.unusedVariables false
theorem grow_of {w w' : World} (hd : w.drawn ≤ w'.drawn) (ho : w'.os = w.os) (ht : w'.tape = w.tape) (hu : w'.output = w.output) (hs : w.heap.size ≤ w'.heap.size) (hb : ∀ b,b < w.heap.size → w'.heap[b]? = w.heap[b]?) : ∃ q os,w' = Sort.grow (w.drewN q) os:=by
 refine ⟨w'.drawn - w.drawn,w'.heap.extract w.heap.size w'.heap.size, ?_⟩
 have hh : w'.heap = w.heap ++ w'.heap.extract w.heap.size w'.heap.size:=by
  apply Array.ext_getElem?
  intro i
  rw [Array.getElem?_append]
  split
  ·exact hb i ‹_›
  ·rw [Array.getElem?_extract]
   rename_i h
   by_cases hi : i < w'.heap.size
   ·rw [if_pos (by omega)]; congr 1; omega
   ·rw [if_neg (by omega),Array.getElem?_eq_none (by omega)]
 have hd2 : w'.drawn = w.drawn + (w'.drawn - w.drawn):=by omega
 obtain ⟨h1,t1,d1,o1,u1⟩:=w'
 obtain ⟨h0,t0,d0,o0,u0⟩:=w
 simp only at *
 subst ho ht hu
 unfold Sort.grow World.drewN
 simp only
 rw [← hh,← hd2]
theorem cmp_grow {P : Program} {g : FuncId} {α : Type} {E' : VD.En α} {x y : α} {c : Int} (hc : VD.Fn P g [VD.Pd.rep E' x,VD.Pd.rep E' y] (VD.Rq (VD.Pd.rep (VD.En.int .i64) c))) (s : VD.St) (hg : VD.Gl s) {cx cy : List Value} (hx : E'.R s.w (VD.foot s) cx x) (hy : E'.R s.w (VD.foot s) cy y) :
  Calls P g #[E'.val cx,E'.val cy] s.w fun e w'=>e = .returned (.int .i64 c) ∧ ∃ q os',w' = Sort.grow (s.w.drewN q) os':=
 (hc.run s [E'.val cx,E'.val cy] hg ⟨⟨cx,rfl,hx⟩,⟨cy,rfl,hy⟩,trivial⟩).mono fun e w' ⟨v,s',he,hw,hX,hq⟩=>by
  subst he; subst hw
  refine ⟨by rw [(VD.rep_int.1 hq).1],grow_of hX.mv.dr hX.mv.os hX.mv.tape hX.mv.output hX.mv.size fun b hb=>hX.mv.blk b hb id⟩
theorem swo_cmp {α : Type} {cf : α → α → Int} (h0 : ∀ x,cf x x = 0) (ha : ∀ x y,cf y x = -cf x y) (ht : ∀ x y z,cf x y ≤ 0 → cf y z ≤ 0 → cf x z ≤ 0) : SWO (Go.Proofs.ltOf cf) where
 irrefl x:=by unfold Go.Proofs.ltOf; rw [h0]; rfl
 trans x y z h1 h2:=by
  unfold Go.Proofs.ltOf at *
  simp only [decide_eq_true_eq] at *
  have a1:=ha x y; have a2:=ha y z; have a3:=ha x z
  rcases Int.lt_or_le (cf x z) 0 with h | h
  ·exact h
  ·have:=ht z x y (by omega) (by omega)
   omega
 ntrans x y z h1 h2:=by
  unfold Go.Proofs.ltOf at *
  simp only [decide_eq_false_iff_not,Int.not_lt] at *
  have a1:=ha x y; have a2:=ha y z; have a3:=ha x z
  have:=ht z y x (by omega) (by omega)
  omega
theorem put_block {w : World} {b : Nat} {cur : Array Value} {te : TypeId} {F : Array Value} (m : Nat) (os : Array Obj) (hb : w.heap[b]? = some (.cells cur te (0,0))) :
  (Sort.grow (putRow id (Sort.ahead w m) b 0 F) os).heap[b]? = some (.cells (putCells id 0 F cur) te (0,0)):=by
 have hlt:=(Array.getElem?_eq_some_iff.1 hb).1
 unfold Sort.grow putRow mapBlock
 simp only
 rw [Array.getElem?_append_left (by simpa [Sort.ahead] using hlt),Array.getElem?_modify,if_pos rfl]
 show Option.map _ (w.heap[b]?) = _
 rw [hb]; rfl
theorem put_other {w : World} {b c : Nat} {F : Array Value} (m : Nat) (os : Array Obj) (hc : c < w.heap.size) (hne : c ≠ b) : (Sort.grow (putRow id (Sort.ahead w m) b 0 F) os).heap[c]? = w.heap[c]?:=by
 unfold Sort.grow putRow mapBlock
 simp only
 rw [Array.getElem?_append_left (by simpa [Sort.ahead] using hc),Array.getElem?_modify,if_neg (Ne.symm hne)]
 rfl
theorem flat_idx {css : List (List Value)} {k : Nat} (hk : 0 < k) (h : ∀ cs ∈ css,cs.length = k) (j : Nat) : css.flatten[j]? = (css[j / k]?).bind (fun cs=>cs[j % k]?):=by
 cases hi : css[j / k]? with
 | none=>
  rw [Option.bind_none,List.getElem?_eq_none]
  rw [flat_len h]
  have:=List.getElem?_eq_none_iff.1 hi
  have h2:=Nat.div_add_mod j k
  have h3 : css.length * k ≤ (j / k) * k:=Nat.mul_le_mul_right _ this
  rw [Nat.mul_comm] at h2
  omega
 | some cs=>
  have hc : cs.length = k:=h cs (List.mem_of_getElem? hi)
  have hm:=Nat.mod_lt j hk
  have e : cs[j % k]? = some cs[j % k]:=List.getElem?_eq_getElem (by omega)
  have:=flat_get h hi e
  rw [Nat.mul_comm,Nat.div_add_mod] at this
  rw [this,Option.bind_some,e]
theorem fm_sort {P : Program} {ρ : Ren} (L : Go.Proofs.SlLaysF0.n6 P ρ) {α : Type} {E : En α} {E' : VD.En α} {te : TypeId} {g : FuncId} {cf : α → α → Int} (ht24 : ρ.t 24 = te) (hE : Ty P te E) (hA : E.agg = true) (hA' : E'.agg = true) (hR : ∀ {w S cs x},E.R w S cs x → E'.R w S cs x)
  (hf : ∀ (args : Array Value) (w : World),(callFunc (ρ.f 6) args).run P w = .ok (.enter (ρ.f 6) args) w) (eg : ∀ (args : Array Value) (w : World),(callFunc g args).run P w = .ok (.enter g args) w) (hO : SWO (Go.Proofs.ltOf cf)) {xs : List α} (hlen : xs.length ≤ 2147483648)
  (hc : ∀ x ∈ xs,∀ y ∈ xs,VD.Fn P g [VD.Pd.rep E' x,VD.Pd.rep E' y] (VD.Rq (VD.Pd.rep (VD.En.int .i64) (cf x y)))) (v0 : Value) :
  Fm P (ρ.f 6) (fun b=>v0.ownBlock = some b) [Pd.prow E te v0 xs,Pd.is (.func (.func g) #[] #[])] (fun _ s' _=>∃ ys : List α,ys.Perm xs ∧ ys.Pairwise (fun a b=>¬ cf b a < 0) ∧ (Pd.prow E te v0 ys).p s' v0):=by
 refine ⟨hf,fun s vs hgl hX hv=>?_⟩
 match vs,hv with
 | [v,fv],⟨⟨hv0,hrow⟩,hfv,_⟩=>
 have hfv : fv = .func (.func g) #[] #[]:=hfv
 subst hfv
 subst hv0
 obtain ⟨h1,h2,h3,css,hEl,how⟩:=hrow
 by_cases hx0 : xs = []
 ·subst hx0
  obtain ⟨p,cap,rfl⟩ : ∃ p cap,v = .slice p 0 cap:=by
   rcases how.2 with ⟨e,_⟩ | ⟨b,cap,cur,e,_⟩
   ·exact ⟨none,0,e⟩
   ·exact ⟨_,cap,e⟩
  refine (Go.Proofs.AnyF.slices_SortFunc_none L p cap _ s.w).mono fun e w' ⟨he,hw⟩=>?_
  subst he; subst hw
  exact ⟨_,s,rfl,rfl,Fr.refl hX,[],.refl _,List.Pairwise.nil,rfl,h1,h2,h3,css,hEl,how⟩
 have hpos : 0 < xs.length:=List.length_pos_iff.2 hx0
 rcases how.2 with ⟨e,hn⟩ | ⟨b,cap,cur,hvb,hN,hgb,hnc,hcm,hcs,htk⟩
 ·omega
 subst hvb
 have hlens:=hEl.lens
 have hXb : s.X b:=h2 b rfl
 have hblt : b < s.w.heap.size:=s.lt b hXb
 let α':={p : List Value × α // E.R s.w (foot s) p.1 p.2 ∧ p.2 ∈ xs}
 have hel : ∀ i : Fin xs.length,E.R s.w (foot s) (css[i.1]'(by rw [hEl.1]; exact i.2)) xs[i.1] ∧ xs[i.1] ∈ xs:=fun i=>⟨hEl.2 i.1 _ _ (List.getElem?_eq_getElem _) (List.getElem?_eq_getElem _),List.getElem_mem _⟩
 let d : Array α':=Array.ofFn fun i : Fin xs.length=>⟨(css[i.1]'(by rw [hEl.1]; exact i.2),xs[i.1]),hel i⟩
 have hdn : d.size = xs.length:=by simp [d]
 haveI : Inhabited α':=⟨d[0]'(by rw [hdn]; exact hpos)⟩
 let enc : α' → List Value:=fun p=>p.1.1
 have hk : ∀ x : α',(enc x).length = E.sz:=fun x=>E.len x.2.1
 have hone : ∀ x : α',∀ u ∈ enc x,u.oneCell' = true:=fun x=>E.one x.2.1
 have hdl : d.toList.map (fun p=>p.1.1) = css:=by
  apply List.ext_getElem?
  intro i
  simp only [d,List.getElem?_map,Array.toList_ofFn,List.getElem?_ofFn]
  by_cases hi : i < xs.length
  ·rw [dif_pos hi,Option.map_some,List.getElem?_eq_getElem (by rw [hEl.1]; exact hi)]
  ·rw [dif_neg hi,Option.map_none,List.getElem?_eq_none (by rw [hEl.1]; omega)]
 have hdx : d.toList.map (fun p=>p.1.2) = xs:=by
  apply List.ext_getElem?
  intro i
  simp only [d,List.getElem?_map,Array.toList_ofFn,List.getElem?_ofFn]
  by_cases hi : i < xs.length
  ·rw [dif_pos hi,Option.map_some,List.getElem?_eq_getElem hi]
  ·rw [dif_neg hi,Option.map_none,List.getElem?_eq_none (by omega)]
 have hflat : ∀ (q : Array α') (j : Nat),j < q.size * E.sz → (q.toList.map (fun p=>p.1.1)).flatten[j]? = some (flatK enc E.sz q)[j]!:=by
  intro q j hj
  have hjk : j / E.sz < q.size:=Nat.div_lt_of_lt_mul (by rw [Nat.mul_comm]; exact hj)
  rw [flat_idx E.pos (fun cs hcs=>by obtain ⟨p,hp,rfl⟩:=List.mem_map.1 hcs; exact E.len p.2.1),get_flatK _ _ _ _ hj,List.getElem?_map,Array.getElem?_toList,Array.getElem?_eq_getElem hjk]
  simp only [Option.map_some,Option.bind_some]
  rw [getElem!_pos q (j / E.sz) hjk]
  have hm : j % E.sz < (enc q[j / E.sz]).length:=by rw [hk]; exact Nat.mod_lt _ E.pos
  rw [getElem!_pos (enc q[j / E.sz]) _ hm]
  exact List.getElem?_eq_getElem hm
 have hH : HoldsK enc E.sz s.w b 0 d:=by
  intro j hj
  rw [size_flatK] at hj
  have hf:=hflat d j hj
  rw [hdl] at hf
  have hcj : cur[j]? = some (flatK enc E.sz d)[j]!:=by
   rw [← htk,List.getElem?_take] at hf
   split at hf
   ·simpa using hf
   ·cases hf
  refine ⟨?_, ?_⟩
  ·rw [Nat.zero_add,cell_of_row s.w b j cur te (0,0) hgb]; exact hcj
  ·unfold World.frozen?
   simp [hgb]
 have hO' : SWO (Go.Proofs.ltOf fun p q : α'=>cf p.1.2 q.1.2):=⟨fun x=>hO.irrefl x.1.2,fun x y z=>hO.trans x.1.2 y.1.2 z.1.2,fun x y z=>hO.ntrans x.1.2 y.1.2 z.1.2⟩
 have hcmp : Go.Proofs.CmpLays P g #[] enc E.sz (fun p q : α'=>cf p.1.2 q.1.2) b 0 d.size s.w:=by
  intro m os dk hdk x y
  have hsz : s.w.heap.size ≤ (sortWorldK enc E.sz s.w b 0 m dk os).heap.size:=Go.Proofs.size_sortWorldK_c enc E.sz s.w b 0 m dk os
  have hoth : ∀ c,c < s.w.heap.size → c ≠ b → (sortWorldK enc E.sz s.w b 0 m dk os).heap[c]? = s.w.heap[c]?:=fun c hc hne=>put_other m os hc hne
  let sd : VD.St:=⟨sortWorldK enc E.sz s.w b 0 m dk os,fun c=>c = b,fun c hc=>by subst hc; omega⟩
  have hgd : VD.Gl sd:=by
   have key : ∀ c o,¬ s.X c → s.w.heap[c]? = some o → c ≠ b ∧ sd.w.heap[c]? = some o:=fun c o k1 k2=>by
    have hpb : c ≠ b:=fun e=>k1 (e ▸ hXb)
    exact ⟨hpb,(hoth c (Array.getElem?_eq_some_iff.1 k2).1 hpb).trans k2⟩
   refine ⟨fun p hp=>?_,fun p hp=>?_⟩
   ·obtain ⟨k1,t,fr,k2⟩:=hgl.1 p hp
    obtain ⟨k3,k4⟩:=key _ _ k1 k2
    exact ⟨k3,t,fr,k4⟩
   ·obtain ⟨k1,m',t,fr,es,clock,ys,k2,k3,k4,k5,k6⟩:=hgl.2 p hp
    obtain ⟨j1,j2⟩:=key _ _ k1 k2
    obtain ⟨j3,j4⟩:=key _ _ k3 k4
    exact ⟨j1,m',t,fr,es,clock,ys,j2,j3,j4,k5,k6⟩
  have hfoot : ∀ c,foot s c → VD.foot sd c:=fun c hc=>⟨Nat.lt_of_lt_of_le hc.1 hsz,fun e=>hc.2 (e ▸ hXb)⟩
  have conv : ∀ z : α',E'.R sd.w (VD.foot sd) (enc z) z.1.2:=fun z=>E'.mono hfoot (E'.move (fun c hc=>hoth c hc.1 (fun e=>hc.2 (e ▸ hXb))) (hR z.2.1))
  have:=cmp_grow (hc _ x.2.2 _ y.2.2) sd hgd (conv x) (conv y)
  have hval : ∀ z : α',E'.val (enc z) = .agg (enc z).toArray:=fun z=>by unfold VD.En.val; rw [hA']; rfl
  rw [hval,hval] at this
  exact this
 have hmain:=Go.Proofs.AnyQ.slices_SortFunc L E.sz (fun w=>by rw [ht24,← hA]; exact run_isAgg hE w) (fun w=>by rw [ht24]; exact run_sizeOfE hE w) enc hk hone (fun p q : α'=>cf p.1.2 q.1.2) hO' g #[] b 0 cap d s.w eg hcmp hH hblt (by rw [hdn]; omega)
 rw [hdn] at hmain
 refine hmain.mono fun e w' ⟨he,d',m,os,hP,hS,hw⟩=>?_
 subst he; subst hw
 have hd'n : d'.size = xs.length:=hP.1.trans hdn
 have hsz : s.w.heap.size ≤ (sortWorldK enc E.sz s.w b 0 m d' os).heap.size:=Go.Proofs.size_sortWorldK_c enc E.sz s.w b 0 m d' os
 let s' : St:=⟨sortWorldK enc E.sz s.w b 0 m d' os,s.X,fun c hc=>Nat.lt_of_lt_of_le (s.lt c hc) hsz⟩
 have hmv : Mv (fun c=>(Value.slice (some ⟨b,0,none⟩) xs.length cap).ownBlock = some c) s s':=
  ⟨trivial,rfl,rfl,rfl,hsz,fun c hc hne=>put_other m os hc (fun e=>hne (by rw [e]; rfl)),fun c hc=>hX c hc,fun c hc=>.inl hc⟩
 refine ⟨_,s',rfl,rfl,⟨hmv,fun c hc=>hc⟩,d'.toList.map (fun p=>p.1.2), ?_, ?_,rfl,rfl,fun c hc=>h2 c hc,by simp [hd'n]; exact h3,d'.toList.map (fun p=>p.1.1),⟨by simp,fun i cs x hi hx=>?_⟩, ?_⟩
 ·have hp:=(hP.2.2).map (fun p : α'=>p.1.2)
  have e1 : (d'.extract 0 xs.length).toList = d'.toList:=by rw [← hd'n]; simp
  have e2 : (d.extract 0 xs.length).toList = d.toList:=by rw [← hdn]; simp
  rw [e1,e2,hdx] at hp
  exact hp
 ·rw [List.pairwise_iff_getElem]
  intro i j hi hj hij
  simp only [List.length_map,Array.length_toList] at hi hj
  have:=hS i j (Nat.zero_le _) hij (by omega)
  unfold Go.Proofs.ltOf at this
  rw [getElem!_pos d' i hi,getElem!_pos d' j hj] at this
  simpa using this
 ·simp only [List.getElem?_map,Array.getElem?_toList] at hi hx
  cases hq : d'[i]? with
  | none=>rw [hq] at hi; cases hi
  | some q=>
   rw [hq] at hi hx
   simp only [Option.map_some,Option.some.injEq] at hi hx
   subst hi; subst hx
   exact E.go hmv q.2.1
 ·have hfl : (d'.toList.map (fun p=>p.1.1)).flatten.length = d'.size * E.sz:=by
   rw [flat_len (fun cs hcs=>by obtain ⟨p,hp,rfl⟩:=List.mem_map.1 hcs; exact E.len p.2.1)]
   simp
  have hle : d'.size * E.sz ≤ cur.size:=by rw [hcs,hd'n]; exact Nat.mul_le_mul_right _ hnc
  refine ⟨by rw [hfl]; simp,.inr ⟨b,cap,_,by simp [hd'n],Nat.zero_le _,put_block m os hgb,by simp [hd'n]; exact hnc,hcm,by simp [putCells]; exact hcs, ?_⟩⟩
  apply List.ext_getElem?
  intro j
  rw [List.getElem?_take]
  simp only [List.length_map,Array.length_toList]
  split
  ·rename_i hj
   rw [hflat d' j hj,Array.getElem?_toList]
   unfold putCells
   rw [Array.getElem?_mapIdx,Array.getElem?_eq_getElem (by omega)]
   simp only [Option.map_some,id]
   rw [if_pos ⟨Nat.zero_le _,by rw [size_flatK]; omega⟩,Nat.sub_zero]
  ·rename_i hj
   rw [List.getElem?_eq_none (by rw [hfl]; omega)]
end Go.Proofs.YtahgmdbioafmbaaGreatDoor.V
namespace Go.Proofs.YtahgmdbioafmbaaGreatDoor.V
open Go
set_option linter.unusedVariables false
theorem dt {p : Prop} [Decidable p] (h : decide p = true) : p:=of_decide_eq_true h
theorem df {p : Prop} [Decidable p] (h : decide p = false) : ¬ p:=of_decide_eq_false h
theorem upto {σ : Type} {P : Nat → σ → Int → Prop} (n : Nat) (I : Nat → σ → Prop)
  (hs : ∀ i s,i < n → I i s → (∀ k,P (k + 1) s (i : Int)) ∨ ∃ s',I (i + 1) s' ∧ ∀ k,P k s' ((i : Int) + 1) → P (k + 1) s (i : Int))
  (hx : ∀ s,I n s → ∀ k,P (k + 1) s (n : Int)) (s : σ) (h : I 0 s) : ∃ k,P k s 0:=by
 have : ∀ m i s,i + m = n → I i s → ∃ k,P k s (i : Int):=by
  intro m
  induction m with
  | zero=>intro i s hi hI; have : i = n:=by omega
          subst this; exact ⟨1,hx s hI 0⟩
  | succ m ih=>
   intro i s hi hI
   rcases hs i s (by omega) hI with h | ⟨s',h1,h2⟩
   ·exact ⟨1,h 0⟩
   ·obtain ⟨k,hk⟩:=ih (i + 1) s' (by omega) h1
    exact ⟨k + 1,h2 k (by simpa using hk)⟩
 simpa using this n 0 s (by omega) h
theorem run {σ : Type} {P : Nat → σ → Prop} (I : σ → Prop) (μ : σ → Nat) (h : ∀ s,I s → (∀ k,P (k + 1) s) ∨ ∃ s',I s' ∧ μ s' < μ s ∧ ∀ k,P k s' → P (k + 1) s) (s : σ) (hI : I s) : ∃ k,P k s:=by
 have : ∀ m s,μ s < m → I s → ∃ k,P k s:=by
  intro m
  induction m with
  | zero=>intro s hs; omega
  | succ m ih=>
   intro s hs hI
   rcases h s hI with h1 | ⟨s',h1,h2,h3⟩
   ·exact ⟨1,h1 0⟩
   ·obtain ⟨k,hk⟩:=ih s' (by omega) h1
    exact ⟨k + 1,h3 k hk⟩
 exact this (μ s + 1) s (by omega) hI
theorem i64_of {x : Int} (h1 : -9223372036854775808 ≤ x) (h2 : x ≤ 9223372036854775807) : InR .i64 x:=inR_i64.2 ⟨h1,h2⟩
theorem at_nat {α : Type} {xs : List α} {i : Nat} : at? xs (i : Int) = xs[i]?:=by
 unfold at?
 rw [if_pos (by omega)]; simp
def Cl.put (a : Cl) (n : Nat) : Cl:=a ||| BitVec.twoPow 256 n
theorem has_put {a : Cl} {n m : Nat} (hn : n < 256) : (a.put n).has m = (a.has m || decide (n = m)):=by
 unfold Cl.put Cl.has
 rw [BitVec.getLsbD_or,BitVec.getLsbD_twoPow]
 simp [hn]
theorem has_and {a b : Cl} {m : Nat} : (a &&& b).has m = (a.has m && b.has m):=BitVec.getLsbD_and
theorem has_not {a : Cl} {m : Nat} (h : m < 256) : (~~~ a).has m = !a.has m:=by
 unfold Cl.has
 rw [BitVec.getLsbD_not]; simp [h]
theorem has_zero {m : Nat} : Cl.has (0#256) m = false:=by simp [Cl.has]
theorem w_nat (a : Cl) (i : Int) : (Cl.w a i).toNat = a.word i.toNat:=by simp [Cl.w]
theorem has_w {a : Cl} {n : Nat} (h : n < 256) : a.has n = (a.word (n / 64)).testBit (n % 64):=by
 rw [Cl.word_bit]
 simp [Nat.mod_lt,Nat.div_add_mod]
theorem setw_word {a : Cl} {i : Nat} {v : Int} (hv : v.toNat < 2 ^ 64) (j : Nat) (hj : j < 4) : (a.setw (i : Int) v).word j = if j = i then v.toNat else a.word j:=by
 unfold Cl.setw
 have hw : ∀ k,a.word k < 2 ^ 64:=a.word_lt
 have hb : ∀ (c : Prop) [Decidable c] (k : Nat),(if c then v.toNat else a.word k) < 2 ^ 64:=fun c _ k=>by split <;> simp_all
 obtain ⟨h0,h1,h2,h3⟩:=Cl.ofWords_word (hb ((i : Int) = 0) 0) (hb ((i : Int) = 1) 1) (hb ((i : Int) = 2) 2) (hb ((i : Int) = 3) 3)
 match j,hj with
 | 0,_=>rw [h0]; split <;> split <;> first | rfl | omega
 | 1,_=>rw [h1]; split <;> split <;> first | rfl | omega
 | 2,_=>rw [h2]; split <;> split <;> first | rfl | omega
 | 3,_=>rw [h3]; split <;> split <;> first | rfl | omega
theorem has_setw {a : Cl} {i : Nat} {v : Int} (hv : v.toNat < 2 ^ 64) {n : Nat} (hn : n < 256) : (a.setw (i : Int) v).has n = if n / 64 = i then v.toNat.testBit (n % 64) else a.has n:=by
 rw [has_w hn,setw_word hv _ (by omega),has_w hn]
 split <;> rfl
theorem shr_bit {w k : Nat} (hk : k < 64) : (andI (shrI (w : Int) (k : Int)) 1 == 1) = w.testBit k:=by
 unfold andI shrI
 rw [show min ((k : Int)).toNat 64 = k by simp; omega]
 have h : ((w : Int) / 2 ^ k).toNat = w / 2 ^ k:=by
  rw [show ((2 : Int) ^ k) = ((2 ^ k : Nat) : Int) by simp,← Int.natCast_ediv]; exact Int.toNat_natCast _
 rw [h]
 simp only [Int.toNat_one,Nat.and_one_is_mod,Nat.testBit_eq_decide_div_mod_eq]
 have:=Nat.mod_two_eq_zero_or_one (w / 2 ^ k)
 rcases this with h | h <;> rw [h] <;> rfl
theorem shl_one {k : Nat} (hk : k < 64) : shlI 1 (k : Int) = ((2 ^ k : Nat) : Int):=by
 unfold shlI
 rw [show min ((k : Int)).toNat 64 = k by simp; omega,Int.one_mul]
 have : 2 ^ k < 2 ^ 64:=Nat.pow_lt_pow_right (by omega) hk
 rw [show ((2 : Int) ^ k) = ((2 ^ k : Nat) : Int) by simp]
 generalize 2 ^ k = q at *
 omega
theorem put_words {a : Cl} {n : Nat} (hn : n < 256) : a.setw ((n / 64 : Nat) : Int) (orI (Cl.w a ((n / 64 : Nat) : Int)) (shlI 1 ((n % 64 : Nat) : Int))) = a.put n:=by
 apply Cl.ext
 intro c hc
 have hlt : (orI (Cl.w a ((n / 64 : Nat) : Int)) (shlI 1 ((n % 64 : Nat) : Int))).toNat = a.word (n / 64) ||| 2 ^ (n % 64):=by
  rw [shl_one (Nat.mod_lt _ (by omega))]
  unfold orI
  rw [w_nat,Int.toNat_natCast,Int.toNat_natCast,Int.toNat_natCast]
 have hb : a.word (n / 64) ||| 2 ^ (n % 64) < 2 ^ 64:=Nat.or_lt_two_pow (a.word_lt _) (Nat.pow_lt_pow_right (by omega) (Nat.mod_lt _ (by omega)))
 rw [has_setw (by rw [hlt]; exact hb) hc,hlt,has_put hn]
 split
 ·rename_i h
  rw [Nat.testBit_or,Nat.testBit_two_pow,← h,← has_w hc]
  congr 1
  apply decide_eq_decide.2
  omega
 ·rename_i h
  rw [show decide (n = c) = false by simp; intro e; subst e; exact h rfl]; simp
def Cl.row (f t : Int) : Cl:=Cl.of fun n=>decide (f ≤ (n : Int)) && decide ((n : Int) ≤ t)
theorem has_row {f t : Int} {n : Nat} (h : n < 256) : (Cl.row f t).has n = (decide (f ≤ (n : Int)) && decide ((n : Int) ≤ t)):=Cl.of_has _ h
def Cl.least (a : Cl) : Int × Bool:=match (List.range 256).find? a.has with
 | some n=>((n : Int),true)
 | none=>(0,false)
def Cl.count (a : Cl) : Nat:=(List.range 256).countP a.has
def Cl.addL (a : Cl) (l : List Int) : Cl:=l.foldl (fun a c=>a.put c.toNat) a
theorem u8_of {c : Int} (h : InR .u8 c) : ∃ n : Nat,n < 256 ∧ c = n:=by
 rw [inR_u8] at h
 exact ⟨c.toNat,by omega,by omega⟩
theorem u8_nat {n : Nat} (h : n < 256) : InR .u8 (n : Int):=inR_u8.2 ⟨by omega,by omega⟩
theorem least_some {a : Cl} {n : Nat} (h : a.least = ((n : Int),true)) : n < 256 ∧ a.has n = true ∧ ∀ m,m < n → a.has m = false:=by
 unfold Cl.least at h
 split at h
 ·rename_i k hk
  have e : k = n:=by have h2:=(Prod.mk.inj h).1; omega
  subst e
  rw [List.find?_eq_some_iff_getElem] at hk
  obtain ⟨h1,i,h2,h3,h4⟩:=hk
  simp at h2 h3
  subst h3
  refine ⟨h2,h1,fun m hm=>?_⟩
  have:=h4 m hm
  simpa using this
 ·simp at h
theorem least_none {a : Cl} (h : a.least.2 = false) : ∀ m,m < 256 → a.has m = false:=by
 unfold Cl.least at h
 split at h
 ·simp at h
 ·rename_i hk
  intro m hm
  have:=List.find?_eq_none.1 hk m (by simpa using hm)
  simpa using this
theorem least_of {a : Cl} {n : Nat} (hn : n < 256) (h1 : a.has n = true) (h2 : ∀ m,m < n → a.has m = false) : a.least = ((n : Int),true):=by
 have : (List.range 256).find? a.has = some n:=by
  rw [List.find?_eq_some_iff_getElem]
  exact ⟨h1,n,by simpa using hn,by simp,fun j hj=>by simp [h2 j hj]⟩
 simp [Cl.least,this]
theorem least_of_none {a : Cl} (h : ∀ m,m < 256 → a.has m = false) : a.least = (0,false):=by
 have : (List.range 256).find? a.has = none:=by
  rw [List.find?_eq_none]
  intro m hm
  simp [h m (by simpa using hm)]
 simp [Cl.least,this]
def Cl.ofL (l : List Bool) : Cl:=Cl.of fun n=>l.getD n false
theorem has_ofL {l : List Bool} {n : Nat} (h : n < 256) : (Cl.ofL l).has n = l.getD n false:=Cl.of_has _ h
end Go.Proofs.YtahgmdbioafmbaaGreatDoor.V
namespace Go.Proofs.YtahgmdbioafmbaaGreatDoor.V
open Go
set_option linter.unusedVariables false
theorem dig10 : ∀ d : Fin 10,(UInt8.ofNat (48 + d.1)).toNat = 48 + d.1:=by decide
theorem dec_ge (u : Nat) : ∀ c ∈ Lib.decDigits u,48 ≤ c.toNat ∧ c.toNat ≤ 57:=by
 induction u using Nat.strongRecOn with
 | ind u ih=>
  intro c hc
  have hd : ∀ d,d < 10 → (UInt8.ofNat (48 + d)).toNat = 48 + d:=fun d hd=>dig10 ⟨d,hd⟩
  rw [Lib.decDigits] at hc
  split at hc
  ·rename_i h
   rw [List.mem_singleton.1 hc,hd u h]; omega
  ·rename_i h
   rcases List.mem_append.1 hc with hc | hc
   ·exact ih (u / 10) (by omega) c hc
   ·rw [List.mem_singleton.1 hc,hd _ (Nat.mod_lt _ (by omega))]; omega
def valD (l : List UInt8) : Nat:=l.foldl (fun a c=>10 * a + (c.toNat - 48)) 0
theorem valD_dec (u : Nat) : valD (Lib.decDigits u) = u:=by
 induction u using Nat.strongRecOn with
 | ind u ih=>
  have hd : ∀ d,d < 10 → (UInt8.ofNat (48 + d)).toNat = 48 + d:=fun d hd=>dig10 ⟨d,hd⟩
  rw [Lib.decDigits]
  split
  ·rename_i h
   simp only [valD,List.foldl_cons,List.foldl_nil,hd u h]; omega
  ·rename_i h
   have:=ih (u / 10) (by omega)
   unfold valD at this ⊢
   rw [List.foldl_append,this]
   simp only [List.foldl_cons,List.foldl_nil,hd _ (Nat.mod_lt u (show 10 > 0 by omega))]; omega
theorem itoa_chars (n : Int) : ∀ c ∈ Lib.itoa n,c ≠ 32:=by
 intro c hc he
 subst he
 unfold Lib.itoa at hc
 split at hc
 ·rcases List.mem_cons.1 hc with h | h
  ·exact absurd h (by decide)
  ·have:=(dec_ge _ _ h).1; exact absurd this (by decide)
 ·have:=(dec_ge _ _ hc).1; exact absurd this (by decide)
theorem itoa_inj {n m : Int} (h : Lib.itoa n = Lib.itoa m) : n = m:=by
 have no45 : ∀ u (l : List UInt8),Lib.decDigits u ≠ 45 :: l:=fun u l he=>by
  have:=(dec_ge u 45 (by rw [he]; simp)).1
  exact absurd this (by decide)
 unfold Lib.itoa at h
 split at h <;> split at h
 ·have:=congrArg valD (List.cons.inj h).2
  rw [valD_dec,valD_dec] at this; omega
 ·exact absurd h.symm (no45 _ _)
 ·exact absurd h (no45 _ _)
 ·have:=congrArg valD h
  rw [valD_dec,valD_dec] at this; omega
theorem at_none {α : Type} {xs : List α} {i : Int} (h : i < 0 ∨ (xs.length : Int) ≤ i) : at? xs i = none:=by
 unfold at?
 split
 ·exact List.getElem?_eq_none (by omega)
 ·rfl
theorem at_in {α : Type} {xs : List α} {i : Int} (h0 : 0 ≤ i) (h1 : i < (xs.length : Int)) : ∃ x,at? xs i = some x ∧ x ∈ xs:=by
 refine ⟨xs[i.toNat]'(by omega), ?_,List.getElem_mem _⟩
 unfold at?
 rw [if_pos h0]
 exact List.getElem?_eq_getElem _
theorem uptoK {σ : Type} {P : Nat → σ → Int → Prop} (n : Nat) (I : Nat → σ → Prop)
  (hs : ∀ i s k,i < n → I i s → (∀ s',I (i + 1) s' → P k s' ((i : Int) + 1)) → P (k + 1) s (i : Int))
  (hx : ∀ s,I n s → ∀ k,P (k + 1) s (n : Int)) (s : σ) (h : I 0 s) : ∃ k,P k s 0:=by
 have : ∀ m i s,i + m = n → I i s → P (m + 1) s (i : Int):=by
  intro m
  induction m with
  | zero=>intro i s hi hI; have : i = n:=by omega
          subst this; exact hx s hI 0
  | succ m ih=>
   intro i s hi hI
   exact hs i s (m + 1) (by omega) hI fun s' h'=>by simpa using ih (i + 1) s' (by omega) h'
 exact ⟨n + 1,by simpa using this n 0 s (by omega) h⟩
theorem mget_nil {κ ν : Type} [DecidableEq κ] (k : κ) (z : ν) : mget ([] : List (κ × ν)) k z = z:=rfl
theorem mget_cons {κ ν : Type} [DecidableEq κ] (p : κ × ν) (xs : List (κ × ν)) (k : κ) (z : ν) : mget (p :: xs) k z = if p.1 = k then p.2 else mget xs k z:=by
 unfold mget
 rw [List.find?_cons]
 by_cases h : p.1 = k
 ·subst h; simp
 ·have h' : (p.1 == k) = false:=by simpa using h
  rw [h',if_neg h]
theorem mget_mput {κ ν : Type} [DecidableEq κ] (xs : List (κ × ν)) (k k' : κ) (v z : ν) : mget (mput xs k v) k' z = if k = k' then v else mget xs k' z:=by
 have hmap : ∀ xs : List (κ × ν),mget (xs.map (fun p=>bif p.1 == k then (k,v) else p)) k' z = if k = k' then (if mhas xs k = true then v else z) else mget xs k' z:=by
  intro xs
  induction xs with
  | nil=>simp [mget_nil,mhas]
  | cons p xs ih=>
   rw [List.map_cons,mget_cons,ih,mget_cons]
   by_cases hp : p.1 = k
   ·subst hp
    by_cases hk : p.1 = k' <;> simp [hk,mhas]
   ·have : (p.1 == k) = false:=by simpa using hp
    rw [this]
    by_cases hk : k = k'
    ·subst hk
     simp only [mhas,List.any_cons,this,Bool.false_or,cond_false,if_neg hp]
     rfl
    ·simp [hk]
 have happ : ∀ xs : List (κ × ν),mhas xs k = false → mget (xs ++ [(k,v)]) k' z = if k = k' then v else mget xs k' z:=by
  intro xs
  induction xs with
  | nil=>intro _; rw [List.nil_append,mget_cons,mget_nil]
  | cons p xs ih=>
   intro h
   simp only [mhas,List.any_cons,Bool.or_eq_false_iff] at h
   rw [List.cons_append,mget_cons,ih h.2,mget_cons]
   have hp : p.1 ≠ k:=by simpa using h.1
   by_cases hk : k = k'
   ·subst hk; simp [hp]
   ·simp [hk]
 unfold mput
 cases h : mhas xs k
 ·exact happ xs h
 ·rw [cond_true,hmap,h]; simp
end Go.Proofs.YtahgmdbioafmbaaGreatDoor.V
namespace Go.Proofs.YtahgmdbioafmbaaGreatDoor.V
open Go
set_option linter.unusedVariables false
theorem lexI_cons (x y : Int) (a b : List Int) : lexI (x :: a) (y :: b) = if sgnI x y ≠ 0 then sgnI x y else lexI a b:=by
 unfold sgnI
 rw [lexI]
 by_cases h1 : x < y
 ·simp [h1]
 ·by_cases h2 : y < x
  ·simp [h1,h2]
  ·simp [h1,h2]
theorem lexI_nil_left (b : List Int) : lexI [] b = 0:=by cases b <;> rfl
theorem lexI_nil_right (a : List Int) : lexI a [] = 0:=by cases a <;> rfl
theorem cmpItem_lex (x y : SItem) : cmpItem x y = lexI (nums4 x) (nums4 y):=by
 unfold cmpItem nums4
 simp only [lexI_cons,fstNZ,lexI_nil_left]
theorem lexI_app {a b : List Int} (h : a.length = b.length) (u v : List Int) : lexI (a ++ u) (b ++ v) = if lexI a b ≠ 0 then lexI a b else lexI u v:=by
 induction a generalizing b with
 | nil=>
  cases b with
  | nil=>simp [lexI_nil_left]
  | cons y b=>simp at h
 | cons x a ih=>
  cases b with
  | nil=>simp at h
  | cons y b=>
   simp only [List.cons_append,lexI_cons]
   rw [ih (by simpa using h)]
   split <;> simp_all
theorem lexI_self (a : List Int) : lexI a a = 0:=by
 induction a with
 | nil=>rfl
 | cons x a ih=>rw [lexI,if_neg (by omega),if_neg (by omega),ih]
theorem lexI_anti (a b : List Int) : lexI b a = -lexI a b:=by
 induction a generalizing b with
 | nil=>rw [lexI_nil_left,lexI_nil_right]; rfl
 | cons x a ih=>
  cases b with
  | nil=>rw [lexI_nil_left,lexI_nil_right]; rfl
  | cons y b=>
   rw [lexI,lexI]
   by_cases h1 : x < y
   ·rw [if_neg (by omega),if_pos h1,if_pos h1]; rfl
   ·by_cases h2 : y < x
    ·rw [if_pos h2,if_neg h1,if_pos h2]
    ·rw [if_neg h2,if_neg h1,if_neg h1,if_neg h2,ih]
theorem lexI_zero {a b : List Int} (hl : a.length = b.length) (h : lexI a b = 0) : a = b:=by
 induction a generalizing b with
 | nil=>cases b with
  | nil=>rfl
  | cons y b=>simp at hl
 | cons x a ih=>
  cases b with
  | nil=>simp at hl
  | cons y b=>
   rw [lexI] at h
   by_cases h1 : x < y
   ·rw [if_pos h1] at h; cases h
   ·by_cases h2 : y < x
    ·rw [if_neg h1,if_pos h2] at h; cases h
    ·rw [if_neg h1,if_neg h2] at h
     rw [ih (by simpa using hl) h,show x = y by omega]
theorem lexI_trans {a b c : List Int} (h1 : a.length = b.length) (h2 : b.length = c.length) (h : lexI a b < 0) (k : lexI b c < 0) : lexI a c < 0:=by
 induction a generalizing b c with
 | nil=>rw [lexI_nil_left] at h; omega
 | cons x a ih=>
  cases b with
  | nil=>simp at h1
  | cons y b=>
   cases c with
   | nil=>simp at h2
   | cons z c=>
    rw [lexI] at h k ⊢
    by_cases e1 : x < y
    ·by_cases e2 : y < z
     ·rw [if_pos (by omega)]; omega
     ·by_cases e3 : z < y
      ·rw [if_neg e2,if_pos e3] at k; omega
      ·rw [if_pos (by omega)]; omega
    ·by_cases e2 : y < x
     ·rw [if_neg e1,if_pos e2] at h; omega
     ·rw [if_neg e1,if_neg e2] at h
      by_cases e3 : y < z
      ·rw [if_pos (by omega)]; omega
      ·by_cases e4 : z < y
       ·rw [if_neg e3,if_pos e4] at k; omega
       ·rw [if_neg e3,if_neg e4] at k
        rw [if_neg (by omega),if_neg (by omega)]
        exact ih (by simpa using h1) (by simpa using h2) h k
theorem numsS_cons (x : SItem) (s : List SItem) : numsS (x :: s) = nums4 x ++ numsS s:=by simp [numsS]
theorem numsS_length (l : List SItem) : (numsS l).length = 4 * l.length:=by
 induction l with
 | nil=>rfl
 | cons x l ih=>rw [numsS_cons,List.length_append,ih]; simp [nums4]; omega
theorem numsS_inj {s t : List SItem} (h : numsS s = numsS t) : s = t:=by
 induction s generalizing t with
 | nil=>
  cases t with
  | nil=>rfl
  | cons y t=>rw [numsS_cons] at h; simp [numsS,nums4] at h
 | cons x s ih=>
  cases t with
  | nil=>rw [numsS_cons] at h; simp [numsS,nums4] at h
  | cons y t=>
   rw [numsS_cons,numsS_cons] at h
   obtain ⟨x1,x2,x3,x4⟩:=x
   obtain ⟨y1,y2,y3,y4⟩:=y
   simp only [nums4,List.cons_append,List.nil_append,List.cons.injEq] at h
   obtain ⟨rfl,rfl,rfl,rfl,h⟩:=h
   rw [ih h]
theorem cmpS_zero {a b : List SItem} : cmpS a b = 0 ↔ a = b:=by
 constructor
 ·intro h
  unfold cmpS numsL at h
  rw [lexI] at h
  by_cases h1 : (a.length : Int) < (b.length : Int)
  ·rw [if_pos h1] at h; cases h
  ·by_cases h2 : (b.length : Int) < (a.length : Int)
   ·rw [if_neg h1,if_pos h2] at h; cases h
   ·rw [if_neg h1,if_neg h2] at h
    exact numsS_inj (lexI_zero (by rw [numsS_length,numsS_length]; omega) h)
 ·rintro rfl; exact lexI_self _
theorem cmpS_anti (a b : List SItem) : cmpS b a = -cmpS a b:=lexI_anti _ _
theorem cmpS_trans {a b c : List SItem} (h : cmpS a b < 0) (k : cmpS b c < 0) : cmpS a c < 0:=by
 unfold cmpS numsL at *
 rw [lexI] at h k ⊢
 by_cases e1 : (a.length : Int) < (b.length : Int)
 ·by_cases e2 : (b.length : Int) < (c.length : Int)
  ·rw [if_pos (by omega)]; omega
  ·by_cases e3 : (c.length : Int) < (b.length : Int)
   ·rw [if_neg e2,if_pos e3] at k; omega
   ·rw [if_pos (by omega)]; omega
 ·by_cases e2 : (b.length : Int) < (a.length : Int)
  ·rw [if_neg e1,if_pos e2] at h; omega
  ·rw [if_neg e1,if_neg e2] at h
   by_cases e3 : (b.length : Int) < (c.length : Int)
   ·rw [if_pos (by omega)]; omega
   ·by_cases e4 : (c.length : Int) < (b.length : Int)
    ·rw [if_neg e3,if_pos e4] at k; omega
    ·rw [if_neg e3,if_neg e4] at k
     rw [if_neg (by omega),if_neg (by omega)]
     exact lexI_trans (by rw [numsS_length,numsS_length]; omega) (by rw [numsS_length,numsS_length]; omega) h k
theorem cut32 {a b : List UInt8} (ha : ∀ c ∈ a,c ≠ 32) (hb : ∀ c ∈ b,c ≠ 32) {u v : List UInt8} (h : a ++ 32 :: u = b ++ 32 :: v) : a = b ∧ u = v:=by
 induction a generalizing b with
 | nil=>
  cases b with
  | nil=>exact ⟨rfl,(List.cons.inj h).2⟩
  | cons y b=>exact absurd (List.cons.inj h).1.symm (hb y (by simp))
 | cons x a ih=>
  cases b with
  | nil=>exact absurd (List.cons.inj h).1 (ha x (by simp))
  | cons y b=>
   obtain ⟨h1,h2⟩:=List.cons.inj h
   obtain ⟨h3,h4⟩:=ih (fun c hc=>ha c (by simp [hc])) (fun c hc=>hb c (by simp [hc])) h2
   exact ⟨by rw [h1,h3],h4⟩
theorem keyN_cons (z : Int) (l : List Int) : keyN (z :: l) = Lib.itoa z ++ 32 :: keyN l:=by simp [keyN]
theorem keyN_inj {l m : List Int} (h : keyN l = keyN m) : l = m:=by
 induction l generalizing m with
 | nil=>
  cases m with
  | nil=>rfl
  | cons y m=>rw [keyN_cons] at h; simp [keyN] at h
 | cons z l ih=>
  cases m with
  | nil=>rw [keyN_cons] at h; simp [keyN] at h
  | cons y m=>
   rw [keyN_cons,keyN_cons] at h
   obtain ⟨h1,h2⟩:=cut32 (itoa_chars z) (itoa_chars y) h
   rw [itoa_inj h1,ih h2]
theorem keyS_iff {s t : List SItem} : keyS s = keyS t ↔ s = t:=⟨fun h=>numsS_inj (keyN_inj h),fun h=>by rw [h]⟩
def badI (x : SItem) : Bool:=x.1 == 5 && decide (x.2.2.1 ≤ 0)
def low1 (x : SItem) : SItem:=if x.1 = 5 then (x.1,x.2.1,x.2.2.1 - 1,x.2.2.2) else x
def lowF (s : List SItem) : List SItem × Bool:=if s.any badI = true then ([],false) else (s.map low1,true)
end Go.Proofs.YtahgmdbioafmbaaGreatDoor.V
namespace Go.Proofs.YtahgmdbioafmbaaGreatDoor.V
open Go
set_option linter.unusedVariables false
theorem mapM_mono {α β : Type} {f g : α → Option β} (h : ∀ a b,f a = some b → g a = some b) : ∀ (l : List α) (r : List β),l.mapM f = some r → l.mapM g = some r
 | [],r,hr=>by simpa using hr
 | a :: l,r,hr=>by
  rw [List.mapM_cons] at hr ⊢
  cases ha : f a with
  | none=>rw [ha] at hr; simp at hr
  | some b=>
   rw [ha] at hr
   cases hl : l.mapM f with
   | none=>rw [hl] at hr; simp at hr
   | some bs=>
    rw [hl] at hr
    rw [h a b ha,mapM_mono h l bs hl]; exact hr
theorem lv_mono1 (d : List SNode) : ∀ (h : Nat) (s : List SItem) (l : List (List SItem)),lv d h s = some l → lv d (h + 1) s = some l
 | 0,_,_,hl=>by simp [lv] at hl
 | h + 1,s,l,hl=>by
  unfold lv at hl ⊢
  by_cases hr : rdy d s = true
  ·rw [if_pos hr] at hl ⊢; exact hl
  ·rw [if_neg hr] at hl ⊢
   obtain ⟨ls,h1,h2⟩:=Option.map_eq_some_iff.1 hl
   rw [mapM_mono (lv_mono1 d h) _ _ h1,← h2]; rfl
theorem lv_mono {d : List SNode} {h h' : Nat} (hh : h ≤ h') {s : List SItem} {l : List (List SItem)} (hl : lv d h s = some l) : lv d h' s = some l:=by
 obtain ⟨k,rfl⟩ : ∃ k,h' = h + k:=⟨h' - h,by omega⟩
 clear hh
 induction k with
 | zero=>exact hl
 | succ k ih=>exact lv_mono1 d (h + k) s l ih
theorem nzL_aux (d : List SNode) : ∀ (l : List Bool),(d.foldl (fun l n=>l ++ [nzN l n]) l).length = l.length + d.length ∧ l <+: d.foldl (fun l n=>l ++ [nzN l n]) l:=by
 induction d with
 | nil=>intro l; exact ⟨by simp,List.prefix_refl _⟩
 | cons n d ih=>
  intro l
  obtain ⟨h1,h2⟩:=ih (l ++ [nzN l n])
  exact ⟨by rw [List.foldl_cons,h1]; simp; omega,(List.prefix_append _ _).trans h2⟩
theorem nzL_at {d : List SNode} {i : Nat} {n : SNode} (h : d[i]? = some n) : (nzL d)[i]? = some (nzN ((nzL d).take i) n):=by
 have hi:=(List.getElem?_eq_some_iff.1 h).1
 have hd : d = d.take i ++ n :: d.drop (i + 1):=by
  have hn : d[i] = n:=by rw [List.getElem?_eq_getElem hi] at h; exact Option.some.inj h
  rw [← hn,List.getElem_cons_drop,List.take_append_drop]
 have e : nzL d = (d.drop (i + 1)).foldl (fun l n=>l ++ [nzN l n]) (nzL (d.take i) ++ [nzN (nzL (d.take i)) n]):=by
  unfold nzL
  conv=>lhs; rw [hd]
  rw [List.foldl_append,List.foldl_cons]
 have hl : (nzL (d.take i)).length = i:=by
  have:=(nzL_aux (d.take i) []).1
  unfold nzL; rw [this]; simp; omega
 have hp:=(nzL_aux (d.drop (i + 1)) (nzL (d.take i) ++ [nzN (nzL (d.take i)) n])).2
 rw [← e] at hp
 obtain ⟨r,hr⟩:=hp
 have ht : (nzL d).take i = nzL (d.take i):=by rw [← hr,List.append_assoc,List.take_append_of_le_length (by omega),List.take_of_length_le (by omega)]
 rw [ht,← hr,List.append_assoc,List.getElem?_append_right (by omega),hl]; simp
theorem at_take {α : Type} {l : List α} {i : Nat} {k : Int} (h0 : 0 ≤ k) (h1 : k < (i : Int)) : at? (l.take i) k = at? l k:=by
 unfold at?
 rw [if_pos h0,if_pos h0,List.getElem?_take,if_pos (by omega)]
theorem at_nn {α : Type} {l : List α} {i : Int} {x : α} (h : at? l i = some x) : ∃ k : Nat,i = (k : Int) ∧ l[k]? = some x:=by
 unfold at? at h
 split at h
 ·exact ⟨i.toNat,by omega,h⟩
 ·cases h
theorem nz_at {d : List SNode} (hd : ROk d) {i : Int} {n : SNode} (h : at? d i = some n) : nz d i =
  (if n.1 = 1 then true else if n.1 = 4 then nz d n.2.1 && nz d n.2.2.1 else if n.1 = 5 then nz d n.2.1 || nz d n.2.2.1 else if n.1 = 6 then true else if n.1 = 7 then decide (n.2.2.2.1 = 0) else false):=by
 obtain ⟨k,rfl,hk⟩:=at_nn h
 have e:=nzL_at hk
 have e2 : nz d (k : Int) = nzN ((nzL d).take k) n:=by unfold nz; rw [at_nat,e]; rfl
 rw [e2]
 unfold nzN
 by_cases h1 : n.1 = 1
 ·simp [h1]
 ·by_cases h4 : n.1 = 4
  ·obtain ⟨⟨a,b⟩,c,e⟩:=hd.two _ n h (.inl h4)
   rw [if_neg h1,if_pos h4,if_neg h1,if_pos h4,at_take a b,at_take c e]; rfl
  ·by_cases h5 : n.1 = 5
   ·obtain ⟨⟨a,b⟩,c,e⟩:=hd.two _ n h (.inr h5)
    rw [if_neg h1,if_neg h4,if_pos h5,if_neg h1,if_neg h4,if_pos h5,at_take a b,at_take c e]; rfl
   ·by_cases h6 : n.1 = 6
    ·simp [h6]
    ·by_cases h7 : n.1 = 7
     ·obtain ⟨a,b⟩:=hd.one _ n h (.inr (.inl h7))
      have:=hd.nn _ n h (.inr h7)
      unfold nz at this
      rw [if_neg h1,if_neg h4,if_neg h5,if_neg h6,if_pos h7,if_neg h1,if_neg h4,if_neg h5,if_neg h6,if_pos h7,at_take a b,this,Bool.or_false]
     ·simp [h1,h4,h5,h6,h7]
end Go.Proofs.YtahgmdbioafmbaaGreatDoor.V
namespace Go.Proofs.YtahgmdbioafmbaaGreatDoor.V
open Go
set_option linter.unusedVariables false
theorem cmpS_self (a : List SItem) : cmpS a a = 0:=cmpS_zero.2 rfl
theorem cmpS_irr {a : List SItem} (h : cmpS a a < 0) : False:=by rw [cmpS_self] at h; omega
theorem Can.nil : Can (fun _=>0) []:=⟨List.Pairwise.nil,by simp⟩
theorem sat_ne {a b : Nat} (h : sat a = sat b) : (a ≠ 0 ↔ b ≠ 0):=by unfold sat at h; omega
theorem Can.congr {f g : List SItem → Nat} {B : List SBranch} (h : Can f B) (e : ∀ t,sat (f t) = sat (g t)) : Can g B:=
 ⟨h.srt,fun t m=>by rw [h.mem,sat_ne (e t),e t]⟩
theorem srt_uniq : ∀ {B C : List SBranch},B.Pairwise (fun a b=>cmpS a.1 b.1 < 0) → C.Pairwise (fun a b=>cmpS a.1 b.1 < 0) → (∀ x,x ∈ B ↔ x ∈ C) → B = C
 | [],[],_,_,_=>rfl
 | [],c :: C,_,_,h=>by have:=(h c).2 (by simp); cases this
 | b :: B,[],_,_,h=>by have:=(h b).1 (by simp); cases this
 | b :: B,c :: C,hB,hC,h=>by
  rw [List.pairwise_cons] at hB hC
  have e : b = c:=by
   rcases List.mem_cons.1 ((h b).1 (by simp)) with e | hb
   ·exact e
   ·rcases List.mem_cons.1 ((h c).2 (by simp)) with e | hc
    ·exact e.symm
    ·exact (cmpS_irr (cmpS_trans (hB.1 c hc) (hC.1 b hb))).elim
  subst e
  congr 1
  refine srt_uniq hB.2 hC.2 fun x=>⟨fun hx=>?_,fun hx=>?_⟩
  ·rcases List.mem_cons.1 ((h x).1 (by simp [hx])) with e | hh
   ·subst e; exact (cmpS_irr (hB.1 _ hx)).elim
   ·exact hh
  ·rcases List.mem_cons.1 ((h x).2 (by simp [hx])) with e | hh
   ·subst e; exact (cmpS_irr (hC.1 _ hx)).elim
   ·exact hh
theorem Can.uniq {f : List SItem → Nat} {B C : List SBranch} (hB : Can f B) (hC : Can f C) : B = C:=srt_uniq hB.srt hC.srt fun ⟨t,m⟩=>by rw [hB.mem,hC.mem]
theorem Can.keys {f : List SItem → Nat} {B : List SBranch} (h : Can f B) (t : List SItem) : t ∈ B.map (·.1) ↔ f t ≠ 0:=by
 rw [List.mem_map]
 exact ⟨fun ⟨⟨t',m⟩,h1,h2⟩=>by subst h2; exact ((h.mem _ _).1 h1).1,fun h1=>⟨(t,sat (f t)),(h.mem _ _).2 ⟨h1,rfl⟩,rfl⟩⟩
theorem Can.nodup {f : List SItem → Nat} {B : List SBranch} (h : Can f B) : (B.map (·.1)).Nodup:=by
 unfold List.Nodup
 rw [List.pairwise_map]
 exact h.srt.imp fun {a b} hab e=>by rw [e] at hab; exact cmpS_irr hab
theorem Can.many {f : List SItem → Nat} {B : List SBranch} (h : Can f B) {b : SBranch} (hb : b ∈ B) : b.2 = sat (f b.1) ∧ f b.1 ≠ 0 ∧ 1 ≤ b.2 ∧ b.2 ≤ 2:=by
 obtain ⟨h1,h2⟩:=(h.mem b.1 b.2).1 hb
 exact ⟨h2,h1,by unfold sat at h2; omega,by unfold sat at h2; omega⟩
def addB (s : List SItem) (many : Int) : List SBranch → List SBranch
 | []=>[(s,many)]
 | b :: l=>if cmpS s b.1 = 0 then (s,min 2 (b.2 + many)) :: l else if cmpS s b.1 < 0 then (s,many) :: b :: l else b :: addB s many l
theorem addB_mem {s : List SItem} {many : Int} : ∀ {l : List SBranch} {x : SBranch},x ∈ addB s many l → x.1 = s ∨ x ∈ l
 | [],x,h=>by simp only [addB,List.mem_singleton] at h; subst h; exact .inl rfl
 | b :: l,x,h=>by
  unfold addB at h
  split at h
  ·rcases List.mem_cons.1 h with rfl | h
   ·exact .inl rfl
   ·exact .inr (by simp [h])
  ·split at h
   ·rcases List.mem_cons.1 h with rfl | h
    ·exact .inl rfl
    ·exact .inr h
   ·rcases List.mem_cons.1 h with rfl | h
    ·exact .inr (by simp)
    ·exact (addB_mem h).imp id fun h=>by simp [h]
theorem addB_len (s : List SItem) (many : Int) (l : List SBranch) : (addB s many l).length ≤ l.length + 1:=by
 induction l with
 | nil=>simp [addB]
 | cons b l ih=>unfold addB; split; · simp
                split <;> simp; omega
theorem addB_srt {s : List SItem} {many : Int} : ∀ {l : List SBranch},l.Pairwise (fun a b=>cmpS a.1 b.1 < 0) → (addB s many l).Pairwise (fun a b=>cmpS a.1 b.1 < 0)
 | [],_=>by simp [addB]
 | b :: l,h=>by
  rw [List.pairwise_cons] at h
  unfold addB
  split
  ·rename_i h0
   have e:=cmpS_zero.1 h0
   subst e
   exact List.pairwise_cons.2 ⟨h.1,h.2⟩
  ·split
   ·rename_i h1
    refine List.pairwise_cons.2 ⟨fun c hc=>?_,List.pairwise_cons.2 h⟩
    rcases List.mem_cons.1 hc with rfl | hc
    ·exact h1
    ·exact cmpS_trans h1 (h.1 c hc)
   ·rename_i h0 h1
    refine List.pairwise_cons.2 ⟨fun c hc=>?_,addB_srt h.2⟩
    rcases addB_mem hc with e | hc
    ·rw [e]
     have:=cmpS_anti s b.1
     omega
    ·exact h.1 c hc
theorem addB_no {s : List SItem} {many : Int} : ∀ {l : List SBranch},(∀ b ∈ l,b.1 ≠ s) → l.Pairwise (fun a b=>cmpS a.1 b.1 < 0) → ∀ x,x ∈ addB s many l ↔ x = (s,many) ∨ x ∈ l
 | [],_,_,x=>by simp [addB]
 | b :: l,hn,h,x=>by
  rw [List.pairwise_cons] at h
  unfold addB
  rw [if_neg fun h0=>hn b (by simp) (cmpS_zero.1 h0).symm]
  split
  ·simp
  ·rw [List.mem_cons,addB_no (fun c hc=>hn c (by simp [hc])) h.2,List.mem_cons]
   constructor
   ·rintro (h | h | h) <;> simp [h]
   ·rintro (h | h | h) <;> simp [h]
theorem addB_yes {s : List SItem} {many m : Int} : ∀ {l : List SBranch},(s,m) ∈ l → l.Pairwise (fun a b=>cmpS a.1 b.1 < 0) → ∀ x,x ∈ addB s many l ↔ x = (s,min 2 (m + many)) ∨ (x ∈ l ∧ x.1 ≠ s)
 | b :: l,hm,h,x=>by
  rw [List.pairwise_cons] at h
  unfold addB
  by_cases hb : cmpS s b.1 = 0
  ·rw [if_pos hb]
   have e:=cmpS_zero.1 hb
   have hbm : b = (s,m):=by
    rcases List.mem_cons.1 hm with e' | hm
    ·exact e'.symm
    ·have:=h.1 _ hm; rw [← e] at this; exact (cmpS_irr this).elim
   subst hbm
   rw [List.mem_cons,List.mem_cons]
   constructor
   ·rintro (h' | h')
    ·exact .inl h'
    ·refine .inr ⟨.inr h',fun e'=>?_⟩
     have:=h.1 _ h'; rw [e'] at this; exact cmpS_irr this
   ·rintro (h' | ⟨h' | h',h''⟩)
    ·exact .inl h'
    ·subst h'; exact absurd rfl h''
    ·exact .inr h'
  ·rw [if_neg hb]
   have hml : (s,m) ∈ l:=(List.mem_cons.1 hm).resolve_left fun e=>hb (by rw [← e]; exact cmpS_self _)
   have hlt:=h.1 _ hml
   rw [if_neg fun h'=>by have:=cmpS_anti s b.1; have h2 : cmpS b.1 s < 0:=hlt; omega]
   rw [List.mem_cons,addB_yes hml h.2,List.mem_cons]
   have hne : b.1 ≠ s:=fun e=>hb (by rw [e]; exact cmpS_self _)
   constructor
   ·rintro (h' | h' | ⟨h',h''⟩)
    ·subst h'; exact .inr ⟨.inl rfl,hne⟩
    ·exact .inl h'
    ·exact .inr ⟨.inr h',h''⟩
   ·rintro (h' | ⟨h' | h',h''⟩)
    ·exact .inr (.inl h')
    ·exact .inl h'
    ·exact .inr (.inr ⟨h',h''⟩)
theorem Can.add {f : List SItem → Nat} {B : List SBranch} (h : Can f B) (s : List SItem) {n : Nat} (h1 : n ≠ 0) : Can (fun t=>f t + if t = s then n else 0) (addB s (sat n) B):=by
 refine ⟨addB_srt h.srt,fun t m=>?_⟩
 by_cases hs : f s = 0
 ·rw [addB_no (fun b hb e=>by have:=(h.many hb).2.1; rw [e] at this; exact this hs) h.srt,h.mem,Prod.mk.injEq]
  by_cases ht : t = s
  ·subst ht; simp [hs,h1]
  ·simp [ht]
 ·rw [addB_yes ((h.mem s _).2 ⟨hs,rfl⟩) h.srt,h.mem,Prod.mk.injEq]
  by_cases ht : t = s
  ·subst ht
   simp only [true_and,if_true,ne_eq,not_true_eq_false,and_false,or_false]
   have : min 2 (sat (f t) + sat n) = sat (f t + n):=by unfold sat; omega
   rw [this]
   exact ⟨fun e=>⟨by omega,e⟩,fun e=>e.2⟩
  ·simp [ht]
theorem len_sub {α : Type} [DecidableEq α] : ∀ {l U : List α},l.Nodup → (∀ t ∈ l,t ∈ U) → l.length ≤ U.length
 | [],_,_,_=>Nat.zero_le _
 | x :: l,U,hn,h=>by
  rw [List.nodup_cons] at hn
  have hx:=h x (by simp)
  have:=len_sub (l:=l) (U:=U.erase x) hn.2 fun t ht=>(List.mem_erase_of_ne (fun e=>hn.1 (by rw [← e]; exact ht))).2 (h t (by simp [ht]))
  rw [List.length_erase_of_mem hx] at this
  have:=List.length_pos_of_mem hx
  simp only [List.length_cons]; omega
theorem can_len {f : List SItem → Nat} {B : List SBranch} (h : Can f B) {U : List (List SItem)} (hU : ∀ t,f t ≠ 0 → t ∈ U) : B.length ≤ U.length:=by
 have : (B.map (·.1)).length ≤ U.length:=len_sub h.nodup fun t ht=>hU t ((h.keys t).1 ht)
 simpa using this
end Go.Proofs.YtahgmdbioafmbaaGreatDoor.V
namespace Go.Proofs.YtahgmdbioafmbaaGreatDoor.V
open Go
set_option linter.unusedVariables false
theorem cmp_in {x y : Int} : cmp_Compare_int x y (sgnI x y):=by
 refine ⟨false,by simp [cmp_isNaN_int],false,by simp [cmp_isNaN_int],(fun h=>by cases h),fun _=>⟨(fun h=>by cases h),fun _=>⟨fun h=>?_,fun h=>⟨fun h2=>?_,fun h2=>?_⟩⟩⟩⟩
 ·unfold sgnI; rw [if_pos (dt h)]
 ·unfold sgnI; rw [if_neg (df h),if_pos (dt h2)]
 ·unfold sgnI; rw [if_neg (df h),if_neg (df h2)]
theorem or_in {l : List Int} (hl : l.length < 1000000) : cmp_Or_int l (fstNZ l):=by
 refine upto (P:=fun k (_ : Unit) v=>cmp_Or_int.l1 l (fstNZ l) _ k v) l.length (fun i _=>fstNZ l = fstNZ (l.drop i)) ?_ ?_ () (by simp)
 ·intro i _ hi h
  have hat : at? l (i : Int) = some l[i]:=by rw [at_nat]; simp [hi]
  rw [List.drop_eq_getElem_cons hi] at h
  by_cases hz : l[i] = 0
  ·rw [fstNZ,if_neg (by simpa using hz)] at h
   exact .inr ⟨(),h,fun k hk=>⟨fun _=>⟨_,hat,fun hb=>by simp [hz] at hb,fun _=>⟨i64_of (by omega) (by omega),hk⟩⟩,fun h=>absurd (by omega) (df h)⟩⟩
  ·rw [fstNZ,if_pos hz] at h
   exact .inl fun k=>⟨fun _=>⟨_,hat,fun _=>h,fun hb=>by simp at hb; exact absurd hb hz⟩,fun h=>absurd (by omega) (df h)⟩
 ·intro _ h k
  refine ⟨fun h=>absurd (dt h) (by omega),fun _=>?_⟩
  rw [List.drop_length] at h
  exact h
theorem cmp1_in {x y : SItem} : item_Compare_1 x y (lexI (nums4 x) (nums4 y)):=by
 rw [← cmpItem_lex]
 exact ⟨_,cmp_in,_,cmp_in,_,cmp_in,_,cmp_in,_,or_in (by simp),rfl⟩
theorem cmpFunc_in {a b : List SItem} (hl : a.length = b.length) (hs : a.length ≤ 1000) : slices_CompareFunc_api_State_api_State_api_Item_api_Item a b (fun q_=>item_Compare_1 q_.1 q_.2.1 q_.2.2) (lexI (numsS a) (numsS b)):=by
 refine upto (P:=fun k (_ : Unit) v=>slices_CompareFunc_api_State_api_State_api_Item_api_Item.l1 a b (fun q_=>item_Compare_1 q_.1 q_.2.1 q_.2.2) (lexI (numsS a) (numsS b)) _ k v) a.length (fun i _=>lexI (numsS a) (numsS b) = lexI (numsS (a.drop i)) (numsS (b.drop i))) ?_ ?_ () (by simp)
 ·intro i _ hi h
  have ha : at? a (i : Int) = some a[i]:=by rw [at_nat]; simp [hi]
  have hb : at? b (i : Int) = some (b[i]'(by omega)):=by rw [at_nat]; simp [show i < b.length by omega]
  rw [List.drop_eq_getElem_cons hi,List.drop_eq_getElem_cons (show i < b.length by omega),numsS_cons,numsS_cons,lexI_app (by simp [nums4])] at h
  by_cases hz : lexI (nums4 a[i]) (nums4 (b[i]'(by omega))) = 0
  ·rw [if_neg (by simpa using hz)] at h
   refine .inr ⟨(),h,fun k hk=>⟨fun _=>⟨_,ha,fun h2=>absurd (dt h2) (by omega),fun _=>⟨_,hb,lexI (nums4 a[i]) (nums4 (b[i]'(by omega))),cmp1_in,fun h3=>?_,fun _=>⟨i64_of (by omega) (by omega),hk⟩⟩⟩,fun h=>absurd (by omega) (df h)⟩⟩
   rw [hz] at h3; simp at h3
  ·rw [if_pos hz] at h
   refine .inl fun k=>⟨fun _=>⟨_,ha,fun h2=>absurd (dt h2) (by omega),fun _=>⟨_,hb,lexI (nums4 a[i]) (nums4 (b[i]'(by omega))),cmp1_in,fun _=>h,fun h3=>?_⟩⟩,fun h=>absurd (by omega) (df h)⟩
   simp at h3; exact absurd h3 hz
 ·intro _ h k
  refine ⟨fun h=>absurd (dt h) (by omega),fun _=>⟨fun h2=>absurd (dt h2) (by omega),fun _=>?_⟩⟩
  rw [h,List.drop_length]
  exact lexI_nil_left _
theorem item_Compare_in {a b : List SItem} (hs : a.length ≤ 1000) : item_Compare a b (cmpS a b):=by
 have e : cmpS a b = if sgnI (a.length : Int) (b.length : Int) ≠ 0 then sgnI (a.length : Int) (b.length : Int) else lexI (numsS a) (numsS b):=by unfold cmpS numsL; rw [lexI_cons]
 refine ⟨_,cmp_in,fun h=>?_,fun h=>?_⟩
 ·rw [e,if_pos (by simpa using h)]
 ·have h0 : sgnI (a.length : Int) (b.length : Int) = 0:=by simpa using h
  have hl : a.length = b.length:=by
   unfold sgnI at h0
   by_cases h1 : (a.length : Int) < (b.length : Int)
   ·rw [if_pos h1] at h0; cases h0
   ·by_cases h2 : (b.length : Int) < (a.length : Int)
    ·rw [if_neg h1,if_pos h2] at h0; cases h0
    ·omega
  refine ⟨_,cmpFunc_in hl hs, ?_⟩
  rw [e,if_neg (by simpa using h0)]
theorem numsS_snoc (s : List SItem) (x : SItem) : numsS (s ++ [x]) = numsS s ++ nums4 x:=by simp [numsS]
theorem ref13_numbers_in {s : List SItem} (hs : s.length ≤ 1000) : ref13_numbers s (numsL s):=by
 refine upto (P:=fun k (t : List Int) v=>ref13_numbers.l1 s _ k t v) s.length (fun i t=>t = (s.length : Int) :: numsS (s.take i)) ?_ ?_ _ (by simp [numsS])
 ·rintro i t hi rfl
  have hat : at? s (i : Int) = some s[i]:=by rw [at_nat]; simp [hi]
  have hl:=numsS_length (s.take i)
  simp only [List.length_take] at hl
  refine .inr ⟨_,rfl,fun k h=>⟨fun _=>⟨_,hat,_,hat,_,hat,_,hat,by simp only [List.length_cons,List.length_nil]; omega,i64_of (by omega) (by omega), ?_⟩,fun h=>absurd (by omega) (df h)⟩⟩
  rw [List.take_succ_eq_append_getElem hi,numsS_snoc] at h
  exact h
 ·rintro t rfl k
  refine ⟨fun h=>absurd (dt h) (by omega),fun _=>?_⟩
  rw [List.take_length]; rfl
theorem ref13_Compare_in {a b : List SItem} (ha : a.length ≤ 1000) (hb : b.length ≤ 1000) : ref13_Compare a b (cmpS a b):=by
 refine ⟨_,ref13_numbers_in ha,_,ref13_numbers_in hb, ?_⟩
 have la : (numsL a).length ≤ 4001:=by unfold numsL; rw [List.length_cons,numsS_length]; omega
 show ∃ k,ref13_Compare.l1 (numsL a) (numsL b) (cmpS a b) (ref13_Compare.j1 (cmpS a b)) k 0
 unfold cmpS
 generalize numsL a = X at *
 generalize numsL b = Y at *
 refine upto (P:=fun k (_ : Unit) v=>ref13_Compare.l1 X Y (lexI X Y) _ k v) (min X.length Y.length) (fun i _=>lexI X Y = lexI (X.drop i) (Y.drop i)) ?_ ?_ () (by simp)
 ·intro i _ hi h
  have hx : i < X.length:=by omega
  have hy : i < Y.length:=by omega
  have hax : at? X (i : Int) = some X[i]:=by rw [at_nat]; simp [hx]
  have hay : at? Y (i : Int) = some Y[i]:=by rw [at_nat]; simp [hy]
  have hb : (true : Bool) = ((decide ((i : Int) < (X.length : Int))) && (decide ((i : Int) < (Y.length : Int)))):=by simp; omega
  rw [List.drop_eq_getElem_cons hx,List.drop_eq_getElem_cons hy,lexI] at h
  by_cases h1 : X[i] < Y[i]
  ·rw [if_pos h1] at h
   exact .inl fun k=>⟨true,hb,fun _=>⟨_,hax,_,hay,fun _=>h,fun h2=>absurd h1 (df h2)⟩,(fun h=>by cases h)⟩
  ·by_cases h2 : Y[i] < X[i]
   ·rw [if_neg h1,if_pos h2] at h
    exact .inl fun k=>⟨true,hb,fun _=>⟨_,hax,_,hay,fun h3=>absurd (dt h3) h1,fun _=>⟨_,hax,_,hay,fun _=>h,fun h3=>absurd h2 (df h3)⟩⟩,(fun h=>by cases h)⟩
   ·rw [if_neg h1,if_neg h2] at h
    exact .inr ⟨(),h,fun k hk=>⟨true,hb,fun _=>⟨_,hax,_,hay,fun h3=>absurd (dt h3) h1,fun _=>⟨_,hax,_,hay,fun h3=>absurd (dt h3) h2,fun _=>⟨i64_of (by omega) (by omega),hk⟩⟩⟩,(fun h=>by cases h)⟩⟩
 ·intro _ h k
  refine ⟨false,by simp; omega,(fun h=>by cases h),fun _=>?_⟩
  show lexI X Y = 0
  rw [h]
  rcases Nat.le_total X.length Y.length with hle | hle
  ·rw [Nat.min_eq_left hle,List.drop_length]; exact lexI_nil_left _
  ·rw [Nat.min_eq_right hle,List.drop_length]; exact lexI_nil_right _
theorem ref13_Same_in {a b : List SItem} (ha : a.length ≤ 1000) (hb : b.length ≤ 1000) : ref13_Same a b (decide (a = b)):=by
 refine ⟨_,ref13_Compare_in ha hb, ?_⟩
 rw [Bool.eq_iff_iff,decide_eq_true_iff,beq_iff_eq,cmpS_zero]
def ItR (x : SItem) : Prop:=InR .i64 x.1 ∧ InR .i64 x.2.1 ∧ InR .i64 x.2.2.1 ∧ InR .i64 x.2.2.2
theorem clone_in {s : List SItem} (hs : s.length ≤ 1000) : slices_Clone_api_State_api_Item s s:=fun b hb=>⟨fun h=>hb h,fun _=>⟨by simp; omega,by simp⟩⟩
theorem any_take {s : List SItem} {i : Nat} (hi : i < s.length) : (s.take (i + 1)).any badI = ((s.take i).any badI || badI s[i]):=by
 rw [List.take_succ_eq_append_getElem hi,List.any_append]; simp
theorem any_of {s : List SItem} {i : Nat} (hi : i < s.length) (h : badI s[i] = true) : s.any badI = true:=List.any_eq_true.2 ⟨_,List.getElem_mem hi,h⟩
theorem item_Key_in {s : List SItem} (hs : s.length ≤ 1000) : item_Key s (keyS s):=⟨hs,rfl⟩
end Go.Proofs.YtahgmdbioafmbaaGreatDoor.V
