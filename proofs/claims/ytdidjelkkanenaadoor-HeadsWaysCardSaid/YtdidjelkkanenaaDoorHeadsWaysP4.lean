/-
  The texts that the law's proof needs, part 4.
-/
import Derived.Test.YtdidjelkkanenaaDoorHeadsWaysP3
namespace Go.Proofs.YtdidjelkkanenaaDoor.VD
open Go Go.Proofs.YtdidjelkkanenaaDoor.V
set_option linter.unusedVariables false
set_option maxRecDepth 100000
theorem cmp_isNaN_int_ok {x_ : Int} {r_ : Bool} (h : cmp_isNaN_int x_ r_) : Fn Tryd.prog 93 [(Pd.rep (En.int .i64) x_)] (Rq (Pd.rep En.bool r_)) := by
  unfold cmp_isNaN_int at h
  refine fn_of Tryd.func93 rfl Tryd.ntmps93 (by rfl) (by simp) fun s0 a hL => ?_
  refine wp_seq_k fun K1 hK1 => ?_
  refine rg ?_
  refine st 2 (t_assign o_b rfl rfl) rfl rfl hL fun a s e_ hL => ?_
  refine en' ?_
  show K1 a s.w
  refine hK1 _ _ ?_
  refine wp_seq_k fun K2 hK2 => ?_
  refine rg ?_
  refine st 3 (t_move (o_t 0 rfl) rfl rfl) rfl rfl hL fun a s e_ hL => ?_
  refine st 4 (t_move (o_t 0 rfl) rfl rfl) rfl rfl hL fun a s e_ hL => ?_
  refine st 5 (t_nei (o_t 3 rfl) (o_t 4 rfl) rfl rfl) rfl rfl hL fun a s e_ hL => ?_
  refine st 2 (t_assign (o_t 5 rfl) rfl rfl) rfl rfl hL fun a s e_ hL => ?_
  refine en' ?_
  show K2 a s.w
  refine hK2 _ _ ?_
  subst h
  exact wp_ret (retq rfl hL rfl)
theorem cmp_Compare_int_ok {x_ : Int} {y_ : Int} {r_ : Int} (h : cmp_Compare_int x_ y_ r_) : Fn Tryd.prog 67 [(Pd.rep (En.int .i64) x_), (Pd.rep (En.int .i64) y_)] (Rq (Pd.rep (En.int .i64) r_)) := by
  unfold cmp_Compare_int at h
  refine fn_of Tryd.func67 rfl Tryd.ntmps67 (by rfl) (by simp) fun s0 a hL => ?_
  refine wp_seq_k fun K1 hK1 => ?_
  refine rg ?_
  refine st 4 (t_assign (o_i (k := .i64) (by decide)) rfl rfl) rfl rfl hL fun a s e_ hL => ?_
  refine en' ?_
  show K1 a s.w
  refine hK1 _ _ ?_
  refine wp_seq_k fun K2 hK2 => ?_
  obtain ⟨r3, h4, h⟩ := h
  refine rg ?_
  refine st 7 (t_move (o_t 0 rfl) rfl rfl) rfl rfl hL fun a s e_ hL => ?_
  refine st 8 (t_call (cmp_isNaN_int_ok h4) (xs := [.tmp 7]) (.cons (o_t 7 rfl) .nil) rfl rfl) rfl rfl hL fun a s e_ hL => ?_
  refine st 5 (t_assign (o_t 8 rfl) rfl rfl) rfl rfl hL fun a s e_ hL => ?_
  refine en' ?_
  show K2 a s.w
  refine hK2 _ _ ?_
  refine wp_seq_k fun K5 hK5 => ?_
  obtain ⟨r6, h7, h⟩ := h
  refine rg ?_
  refine st 9 (t_move (o_t 1 rfl) rfl rfl) rfl rfl hL fun a s e_ hL => ?_
  refine st 10 (t_call (cmp_isNaN_int_ok h7) (xs := [.tmp 9]) (.cons (o_t 9 rfl) .nil) rfl rfl) rfl rfl hL fun a s e_ hL => ?_
  refine st 6 (t_assign (o_t 10 rfl) rfl rfl) rfl rfl hL fun a s e_ hL => ?_
  refine en' ?_
  show K5 a s.w
  refine hK5 _ _ ?_
  refine wp_seq_k fun K8 hK8 => ?_
  refine wp_seq_k fun K9 hK9 => ?_
  refine rg ?_
  refine st 11 (t_move (o_t 5 rfl) rfl rfl) rfl rfl hL fun a s e_ hL => ?_
  refine en' ?_
  show K9 a s.w
  refine hK9 _ _ ?_
  refine cnd hL rfl (fun hb_ => ?_) (fun hb_ => ?_)
  · replace h := h.1 hb_
    refine wp_seq_k fun K10 hK10 => ?_
    refine wp_seq_k fun K11 hK11 => ?_
    refine rg ?_
    refine st 12 (t_move (o_t 6 rfl) rfl rfl) rfl rfl hL fun a s e_ hL => ?_
    refine en' ?_
    show K11 a s.w
    refine hK11 _ _ ?_
    refine cnd hL rfl (fun hb_ => ?_) (fun hb_ => ?_)
    · replace h := h.1 hb_
      refine wp_seq_k fun K12 hK12 => ?_
      refine rg ?_
      refine st 4 (t_assign (o_i (k := .i64) (by decide)) rfl rfl) rfl rfl hL fun a s e_ hL => ?_
      refine en' ?_
      show K12 a s.w
      refine hK12 _ _ ?_
      subst h
      exact wp_ret (retq rfl hL rfl)
    · replace h := h.2 hb_
      refine wp_skip ?_
      show K10 a s.w
      refine hK10 _ _ ?_
      refine wp_seq_k fun K13 hK13 => ?_
      refine rg ?_
      refine st 4 (t_assign (o_i (k := .i64) (by decide)) rfl rfl) rfl rfl hL fun a s e_ hL => ?_
      refine en' ?_
      show K13 a s.w
      refine hK13 _ _ ?_
      subst h
      exact wp_ret (retq rfl hL rfl)
  · replace h := h.2 hb_
    refine wp_skip ?_
    show K8 a s.w
    refine hK8 _ _ ?_
    refine wp_seq_k fun K14 hK14 => ?_
    refine wp_seq_k fun K15 hK15 => ?_
    refine rg ?_
    refine st 13 (t_move (o_t 6 rfl) rfl rfl) rfl rfl hL fun a s e_ hL => ?_
    refine en' ?_
    show K15 a s.w
    refine hK15 _ _ ?_
    refine cnd hL rfl (fun hb_ => ?_) (fun hb_ => ?_)
    · replace h := h.1 hb_
      refine wp_seq_k fun K16 hK16 => ?_
      refine rg ?_
      refine st 4 (t_assign (o_i (k := .i64) (by decide)) rfl rfl) rfl rfl hL fun a s e_ hL => ?_
      refine en' ?_
      show K16 a s.w
      refine hK16 _ _ ?_
      subst h
      exact wp_ret (retq rfl hL rfl)
    · replace h := h.2 hb_
      refine wp_skip ?_
      show K14 a s.w
      refine hK14 _ _ ?_
      refine wp_seq_k fun K17 hK17 => ?_
      refine wp_seq_k fun K18 hK18 => ?_
      refine rg ?_
      refine st 14 (t_move (o_t 0 rfl) rfl rfl) rfl rfl hL fun a s e_ hL => ?_
      refine st 15 (t_move (o_t 1 rfl) rfl rfl) rfl rfl hL fun a s e_ hL => ?_
      refine st 16 (t_lss (o_t 14 rfl) (o_t 15 rfl) rfl rfl) rfl rfl hL fun a s e_ hL => ?_
      refine en' ?_
      show K18 a s.w
      refine hK18 _ _ ?_
      refine cnd hL rfl (fun hb_ => ?_) (fun hb_ => ?_)
      · replace h := h.1 hb_
        refine wp_seq_k fun K19 hK19 => ?_
        refine rg ?_
        refine st 4 (t_assign (o_i (k := .i64) (by decide)) rfl rfl) rfl rfl hL fun a s e_ hL => ?_
        refine en' ?_
        show K19 a s.w
        refine hK19 _ _ ?_
        subst h
        exact wp_ret (retq rfl hL rfl)
      · replace h := h.2 hb_
        refine wp_skip ?_
        show K17 a s.w
        refine hK17 _ _ ?_
        refine wp_seq_k fun K20 hK20 => ?_
        refine wp_seq_k fun K21 hK21 => ?_
        refine rg ?_
        refine st 17 (t_move (o_t 0 rfl) rfl rfl) rfl rfl hL fun a s e_ hL => ?_
        refine st 18 (t_move (o_t 1 rfl) rfl rfl) rfl rfl hL fun a s e_ hL => ?_
        refine st 19 (t_gtr (o_t 17 rfl) (o_t 18 rfl) rfl rfl) rfl rfl hL fun a s e_ hL => ?_
        refine en' ?_
        show K21 a s.w
        refine hK21 _ _ ?_
        refine cnd hL rfl (fun hb_ => ?_) (fun hb_ => ?_)
        · replace h := h.1 hb_
          refine wp_seq_k fun K22 hK22 => ?_
          refine rg ?_
          refine st 4 (t_assign (o_i (k := .i64) (by decide)) rfl rfl) rfl rfl hL fun a s e_ hL => ?_
          refine en' ?_
          show K22 a s.w
          refine hK22 _ _ ?_
          subst h
          exact wp_ret (retq rfl hL rfl)
        · replace h := h.2 hb_
          refine wp_skip ?_
          show K20 a s.w
          refine hK20 _ _ ?_
          refine wp_seq_k fun K23 hK23 => ?_
          refine rg ?_
          refine st 4 (t_assign (o_i (k := .i64) (by decide)) rfl rfl) rfl rfl hL fun a s e_ hL => ?_
          refine en' ?_
          show K23 a s.w
          refine hK23 _ _ ?_
          subst h
          exact wp_ret (retq rfl hL rfl)
theorem slices_CompareFunc_api_State_api_State_api_Item_api_Item_ok {s1_ : (List SItem)} {s2_ : (List SItem)} {cmp_ : (SItem × SItem × Int → Prop)} {r_ : Int} (h : slices_CompareFunc_api_State_api_State_api_Item_api_Item s1_ s2_ cmp_ r_) : Fn Tryd.prog 68 [(Pd.rep (En.slice En.SItem) s1_), (Pd.rep (En.slice En.SItem) s2_), (Pd.rep EnF108 cmp_)] (Rq (Pd.rep (En.int .i64) r_)) := by
  unfold slices_CompareFunc_api_State_api_State_api_Item_api_Item at h
  refine fn_of Tryd.func68 rfl Tryd.ntmps68 (by rfl) (by simp) fun s0 a hL => ?_
  refine wp_seq_k fun K1 hK1 => ?_
  refine rg ?_
  refine st 6 (t_assign (o_i (k := .i64) (by decide)) rfl rfl) rfl rfl hL fun a s e_ hL => ?_
  refine en' ?_
  show K1 a s.w
  refine hK1 _ _ ?_
  refine wp_seq_k fun K2 hK2 => ?_
  refine wp_seq_k fun K3 hK3 => ?_
  refine rg ?_
  refine st 11 (t_move (o_t 0 rfl) rfl rfl) rfl rfl hL fun a s e_ hL => ?_
  refine st 12 (t_len (o_t 11 rfl) Tryd.underlying26 rfl rfl) rfl rfl hL fun a s e_ hL => ?_
  refine st 13 (t_move (o_i (k := .i64) (by decide)) rfl rfl) rfl rfl hL fun a s e_ hL => ?_
  refine en' ?_
  show K3 a s.w
  refine hK3 _ _ ?_
  refine wp_block ?_
  have J4 : ∀ (a : Act) (s : St), Has N0 39 s0 a s [(0, (Pd.rep (En.slice En.SItem) s1_)), (1, (Pd.rep (En.slice En.SItem) s2_))] → ((slices_CompareFunc_api_State_api_State_api_Item_api_Item.j1 s1_ s2_ r_)) → K2 a s.w := by
    intro a s hL h
    unfold slices_CompareFunc_api_State_api_State_api_Item_api_Item.j1 at h
    show K2 a s.w
    refine hK2 _ _ ?_
    refine wp_seq_k fun K5 hK5 => ?_
    refine wp_seq_k fun K6 hK6 => ?_
    refine rg ?_
    refine st 34 (t_move (o_t 0 rfl) rfl rfl) rfl rfl hL fun a s e_ hL => ?_
    refine st 35 (t_len (o_t 34 rfl) Tryd.underlying26 rfl rfl) rfl rfl hL fun a s e_ hL => ?_
    refine st 36 (t_move (o_t 1 rfl) rfl rfl) rfl rfl hL fun a s e_ hL => ?_
    refine st 37 (t_len (o_t 36 rfl) Tryd.underlying26 rfl rfl) rfl rfl hL fun a s e_ hL => ?_
    refine st 38 (t_lss (o_t 35 rfl) (o_t 37 rfl) rfl rfl) rfl rfl hL fun a s e_ hL => ?_
    refine en' ?_
    show K6 a s.w
    refine hK6 _ _ ?_
    refine cnd hL rfl (fun hb_ => ?_) (fun hb_ => ?_)
    · replace h := h.1 hb_
      refine wp_seq_k fun K7 hK7 => ?_
      refine rg ?_
      refine st 6 (t_assign (o_i (k := .i64) (by decide)) rfl rfl) rfl rfl hL fun a s e_ hL => ?_
      refine en' ?_
      show K7 a s.w
      refine hK7 _ _ ?_
      subst h
      exact wp_ret (retq rfl hL rfl)
    · replace h := h.2 hb_
      refine wp_skip ?_
      show K5 a s.w
      refine hK5 _ _ ?_
      refine wp_seq_k fun K8 hK8 => ?_
      refine rg ?_
      refine st 6 (t_assign (o_i (k := .i64) (by decide)) rfl rfl) rfl rfl hL fun a s e_ hL => ?_
      refine en' ?_
      show K8 a s.w
      refine hK8 _ _ ?_
      subst h
      exact wp_ret (retq rfl hL rfl)
  obtain ⟨k10, h⟩ := h
  refine lpg (fun k11 a s => ∃ (v9 : Int), Has N0 39 s0 a s [(0, (Pd.rep (En.slice En.SItem) s1_)), (1, (Pd.rep (En.slice En.SItem) s2_)), (2, (Pd.rep EnF108 cmp_)), (11, (Pd.rep (En.slice En.SItem) s1_)), (12, (Pd.rep (En.int .i64) (s1_.length : Int))), (13, (Pd.rep (En.int .i64) v9))] ∧ slices_CompareFunc_api_State_api_State_api_Item_api_Item.l1 s1_ s2_ cmp_ r_ (slices_CompareFunc_api_State_api_State_api_Item_api_Item.j1 s1_ s2_ r_) k11 v9) k10 ⟨0, hL.keep (.cons (t := 0) rfl (fun _ h_ => h_.elim) (.cons (t := 1) rfl (fun _ h_ => h_.elim) (.cons (t := 2) rfl (fun _ h_ => h_.elim) (.cons (t := 11) rfl (fun _ h_ => h_.elim) (.cons (t := 12) rfl (fun _ h_ => h_.elim) (.cons (t := 13) rfl (fun _ h_ => h_.elim) .nil)))))), h⟩ ?_
  rintro k11 a s ⟨v9, hL, h⟩ KL12 hKL12
  cases k11 with
  | zero => exact h.elim
  | succ k11 =>
  unfold slices_CompareFunc_api_State_api_State_api_Item_api_Item.l1 at h
  refine wp_seq_k fun K13 hK13 => ?_
  refine rg ?_
  refine st 14 (t_lss (o_t 13 rfl) (o_t 12 rfl) rfl rfl) rfl rfl hL fun a s e_ hL => ?_
  refine en' ?_
  show K13 a s.w
  refine hK13 _ _ ?_
  refine wp_seq_k fun K14 hK14 => ?_
  refine cnd hL rfl (fun hb_ => ?_) (fun hb_ => ?_)
  · replace h := h.1 hb_
    refine wp_skip ?_
    show K14 a s.w
    refine hK14 _ _ ?_
    refine wp_seq_k fun K15 hK15 => ?_
    refine wp_block ?_
    refine wp_seq_k fun K16 hK16 => ?_
    obtain ⟨e17, h18, h⟩ := h
    refine rg ?_
    refine st 15 (t_move (o_t 13 rfl) rfl rfl) rfl rfl hL fun a s e_ hL => ?_
    refine st 16 (t_idx (o_t 11 rfl) (o_t 13 rfl) h18 Tryd.underlying26 ty43 rfl rfl) rfl rfl hL fun a s e_ hL => ?_
    refine st 17 (t_load ty43 (o_t 16 rfl) rfl rfl) rfl rfl hL fun a s e_ hL => ?_
    refine st_alloc En.SItem (z := (0, 0, 0, 0)) 8 hL tyz43 rfl rfl rfl rfl fun a s g19 hg_ hL => ?_
    refine st 7 (t_assign (o_t 15 rfl) rfl rfl) rfl rfl hL fun a s e_ hL => ?_
    refine st_stb (L' := [(0, (Pd.rep (En.slice En.SItem) s1_)), (1, (Pd.rep (En.slice En.SItem) s2_)), (2, (Pd.rep EnF108 cmp_)), (7, (Pd.rep (En.int .i64) v9)), (11, (Pd.rep (En.slice En.SItem) s1_)), (12, (Pd.rep (En.int .i64) (s1_.length : Int))), (13, (Pd.rep (En.int .i64) v9))]) 8 hL rfl (o_t 17 rfl) ty43 rfl rfl rfl (.cons (t := 0) rfl (fun _ h_ => h_.elim) (.cons (t := 1) rfl (fun _ h_ => h_.elim) (.cons (t := 2) rfl (fun _ h_ => h_.elim) (.cons (t := 7) rfl (fun _ h_ => h_.elim) (.cons (t := 11) rfl (fun _ h_ => h_.elim) (.cons (t := 12) rfl (fun _ h_ => h_.elim) (.cons (t := 13) rfl (fun _ h_ => h_.elim) .nil))))))) fun s hL => ?_
    refine en' ?_
    show K16 a s.w
    refine hK16 _ _ ?_
    refine wp_seq_k fun K20 hK20 => ?_
    refine wp_seq_k fun K21 hK21 => ?_
    refine rg ?_
    refine st 18 (t_move (o_t 7 rfl) rfl rfl) rfl rfl hL fun a s e_ hL => ?_
    refine st 19 (t_move (o_t 1 rfl) rfl rfl) rfl rfl hL fun a s e_ hL => ?_
    refine st 20 (t_len (o_t 19 rfl) Tryd.underlying26 rfl rfl) rfl rfl hL fun a s e_ hL => ?_
    refine st 21 (t_geq (o_t 18 rfl) (o_t 20 rfl) rfl rfl) rfl rfl hL fun a s e_ hL => ?_
    refine en' ?_
    show K21 a s.w
    refine hK21 _ _ ?_
    refine cnd hL rfl (fun hb_ => ?_) (fun hb_ => ?_)
    · replace h := h.1 hb_
      refine wp_seq_k fun K22 hK22 => ?_
      refine rg ?_
      refine st 6 (t_assign (o_i (k := .i64) (by decide)) rfl rfl) rfl rfl hL fun a s e_ hL => ?_
      refine en' ?_
      show K22 a s.w
      refine hK22 _ _ ?_
      subst h
      exact wp_ret (retq rfl hL rfl)
    · replace h := h.2 hb_
      refine wp_skip ?_
      show K20 a s.w
      refine hK20 _ _ ?_
      refine wp_seq_k fun K23 hK23 => ?_
      obtain ⟨e24, h25, h⟩ := h
      refine rg ?_
      refine st 22 (t_move (o_t 1 rfl) rfl rfl) rfl rfl hL fun a s e_ hL => ?_
      refine st 23 (t_move (o_t 7 rfl) rfl rfl) rfl rfl hL fun a s e_ hL => ?_
      refine st 24 (t_idx (o_t 22 rfl) (o_t 23 rfl) h25 Tryd.underlying26 ty43 rfl rfl) rfl rfl hL fun a s e_ hL => ?_
      refine st 25 (t_load ty43 (o_t 24 rfl) rfl rfl) rfl rfl hL fun a s e_ hL => ?_
      have lt_d27 := hL.blt 8 rfl
      refine st_alloc En.SItem (z := (0, 0, 0, 0)) 9 hL tyz43 rfl rfl rfl rfl fun a s g26 hg_ hL => ?_
      have d27 : Dis (some g26) (some g19) := Dis.newg hg_ lt_d27
      refine st_stb (L' := [(0, (Pd.rep (En.slice En.SItem) s1_)), (1, (Pd.rep (En.slice En.SItem) s2_)), (2, (Pd.rep EnF108 cmp_)), (8, (Pd.box En.SItem s0.w.heap.size g19 e17)), (11, (Pd.rep (En.slice En.SItem) s1_)), (12, (Pd.rep (En.int .i64) (s1_.length : Int))), (13, (Pd.rep (En.int .i64) v9))]) 9 hL rfl (o_t 25 rfl) ty43 rfl rfl rfl (.cons (t := 0) rfl (fun _ h_ => h_.elim) (.cons (t := 1) rfl (fun _ h_ => h_.elim) (.cons (t := 2) rfl (fun _ h_ => h_.elim) (.cons (t := 8) rfl (Dis.bx (Dis.symm d27)) (.cons (t := 11) rfl (fun _ h_ => h_.elim) (.cons (t := 12) rfl (fun _ h_ => h_.elim) (.cons (t := 13) rfl (fun _ h_ => h_.elim) .nil))))))) fun s hL => ?_
      refine en' ?_
      show K23 a s.w
      refine hK23 _ _ ?_
      refine wp_seq_k fun K28 hK28 => ?_
      obtain ⟨r29, h30, h⟩ := h
      refine rg ?_
      refine st 26 (t_move (o_t 2 rfl) rfl rfl) rfl rfl hL fun a s e_ hL => ?_
      refine st 27 (t_loadb ty43 (o_t 8 rfl) rfl rfl) rfl rfl hL fun a s e_ hL => ?_
      refine st 28 (t_loadb ty43 (o_t 9 rfl) rfl rfl) rfl rfl hL fun a s e_ hL => ?_
      refine st 29 (t_callf (q := (e17, e24, r29)) (o_t 26 rfl) h30 (xs := [.tmp 27, .tmp 28]) (.cons (o_t 27 rfl) (.cons (o_t 28 rfl) .nil)) (fun _ _ _ h_ => h_) rfl rfl) rfl rfl hL fun a s e_ hL => ?_
      refine st 10 (t_assign (o_t 29 rfl) rfl rfl) rfl rfl hL fun a s e_ hL => ?_
      refine en' ?_
      show K28 a s.w
      refine hK28 _ _ ?_
      refine wp_seq_k fun K31 hK31 => ?_
      refine rg ?_
      refine st 30 (t_move (o_t 10 rfl) rfl rfl) rfl rfl hL fun a s e_ hL => ?_
      refine st 31 (t_nei (o_t 30 rfl) (o_i (k := .i64) (by decide)) rfl rfl) rfl rfl hL fun a s e_ hL => ?_
      refine en' ?_
      show K31 a s.w
      refine hK31 _ _ ?_
      refine cnd hL rfl (fun hb_ => ?_) (fun hb_ => ?_)
      · replace h := h.1 hb_
        refine wp_seq_k fun K32 hK32 => ?_
        refine rg ?_
        refine st 32 (t_move (o_t 10 rfl) rfl rfl) rfl rfl hL fun a s e_ hL => ?_
        refine st 6 (t_assign (o_t 32 rfl) rfl rfl) rfl rfl hL fun a s e_ hL => ?_
        refine en' ?_
        show K32 a s.w
        refine hK32 _ _ ?_
        subst h
        exact wp_ret (retq rfl hL rfl)
      · replace h := h.2 hb_
        refine wp_skip ?_
        show K15 a s.w
        refine hK15 _ _ ?_
        obtain ⟨h33, h⟩ := h
        refine rg ?_
        refine st 33 (t_add (o_t 13 rfl) (o_i (k := .i64) (by decide)) h33 rfl rfl) rfl rfl hL fun a s e_ hL => ?_
        refine st 13 (t_move (o_t 33 rfl) rfl rfl) rfl rfl hL fun a s e_ hL => ?_
        refine en' ?_
        exact hKL12 k11 a s (Nat.lt_succ_self _) ⟨(v9 + 1), hL.keep (.cons (t := 0) rfl (fun _ h_ => h_.elim) (.cons (t := 1) rfl (fun _ h_ => h_.elim) (.cons (t := 2) rfl (fun _ h_ => h_.elim) (.cons (t := 11) rfl (fun _ h_ => h_.elim) (.cons (t := 12) rfl (fun _ h_ => h_.elim) (.cons (t := 13) rfl (fun _ h_ => h_.elim) .nil)))))), h⟩
  · replace h := h.2 hb_
    refine wp_exit ?_
    exact J4 a s (hL.keep (.cons (t := 0) rfl (fun _ h_ => h_.elim) (.cons (t := 1) rfl (fun _ h_ => h_.elim) .nil))) h
theorem cmp_Or_int_ok {vals_ : (List Int)} {r_ : Int} (h : cmp_Or_int vals_ r_) : Fn Tryd.prog 70 [(Pd.rep (En.slice (En.int .i64)) vals_)] (Rq (Pd.rep (En.int .i64) r_)) := by
  unfold cmp_Or_int at h
  refine fn_of Tryd.func70 rfl Tryd.ntmps70 (by rfl) (by simp) fun s0 a hL => ?_
  refine wp_seq_k fun K1 hK1 => ?_
  refine rg ?_
  refine st 2 (t_assign (o_i (k := .i64) (by decide)) rfl rfl) rfl rfl hL fun a s e_ hL => ?_
  refine en' ?_
  show K1 a s.w
  refine hK1 _ _ ?_
  refine wp_seq_k fun K2 hK2 => ?_
  refine rg ?_
  refine st 3 (t_assign (o_i (k := .i64) (by decide)) rfl rfl) rfl rfl hL fun a s e_ hL => ?_
  refine en' ?_
  show K2 a s.w
  refine hK2 _ _ ?_
  refine wp_seq_k fun K3 hK3 => ?_
  refine wp_seq_k fun K4 hK4 => ?_
  refine rg ?_
  refine st 6 (t_move (o_t 0 rfl) rfl rfl) rfl rfl hL fun a s e_ hL => ?_
  refine st 7 (t_len (o_t 6 rfl) Tryd.underlying82 rfl rfl) rfl rfl hL fun a s e_ hL => ?_
  refine st 8 (t_move (o_i (k := .i64) (by decide)) rfl rfl) rfl rfl hL fun a s e_ hL => ?_
  refine en' ?_
  show K4 a s.w
  refine hK4 _ _ ?_
  refine wp_block ?_
  have J5 : ∀ (a : Act) (s : St), Has N0 18 s0 a s [(3, (Pd.rep (En.int .i64) 0))] → ((cmp_Or_int.j1 r_)) → K3 a s.w := by
    intro a s hL h
    unfold cmp_Or_int.j1 at h
    show K3 a s.w
    refine hK3 _ _ ?_
    refine wp_seq_k fun K6 hK6 => ?_
    refine rg ?_
    refine st 17 (t_move (o_t 3 rfl) rfl rfl) rfl rfl hL fun a s e_ hL => ?_
    refine st 2 (t_assign (o_t 17 rfl) rfl rfl) rfl rfl hL fun a s e_ hL => ?_
    refine en' ?_
    show K6 a s.w
    refine hK6 _ _ ?_
    subst h
    exact wp_ret (retq rfl hL rfl)
  obtain ⟨k8, h⟩ := h
  refine lpg (fun k9 a s => ∃ (v7 : Int), Has N0 18 s0 a s [(3, (Pd.rep (En.int .i64) 0)), (6, (Pd.rep (En.slice (En.int .i64)) vals_)), (7, (Pd.rep (En.int .i64) (vals_.length : Int))), (8, (Pd.rep (En.int .i64) v7))] ∧ cmp_Or_int.l1 vals_ r_ (cmp_Or_int.j1 r_) k9 v7) k8 ⟨0, hL.keep (.cons (t := 3) rfl (fun _ h_ => h_.elim) (.cons (t := 6) rfl (fun _ h_ => h_.elim) (.cons (t := 7) rfl (fun _ h_ => h_.elim) (.cons (t := 8) rfl (fun _ h_ => h_.elim) .nil)))), h⟩ ?_
  rintro k9 a s ⟨v7, hL, h⟩ KL10 hKL10
  cases k9 with
  | zero => exact h.elim
  | succ k9 =>
  unfold cmp_Or_int.l1 at h
  refine wp_seq_k fun K11 hK11 => ?_
  refine rg ?_
  refine st 9 (t_lss (o_t 8 rfl) (o_t 7 rfl) rfl rfl) rfl rfl hL fun a s e_ hL => ?_
  refine en' ?_
  show K11 a s.w
  refine hK11 _ _ ?_
  refine wp_seq_k fun K12 hK12 => ?_
  refine cnd hL rfl (fun hb_ => ?_) (fun hb_ => ?_)
  · replace h := h.1 hb_
    refine wp_skip ?_
    show K12 a s.w
    refine hK12 _ _ ?_
    refine wp_seq_k fun K13 hK13 => ?_
    refine wp_block ?_
    refine wp_seq_k fun K14 hK14 => ?_
    obtain ⟨e15, h16, h⟩ := h
    refine rg ?_
    refine st 10 (t_idx (o_t 6 rfl) (o_t 8 rfl) h16 Tryd.underlying82 ty3 rfl rfl) rfl rfl hL fun a s e_ hL => ?_
    refine st 11 (t_load ty3 (o_t 10 rfl) rfl rfl) rfl rfl hL fun a s e_ hL => ?_
    refine st 5 (t_assign (o_t 11 rfl) rfl rfl) rfl rfl hL fun a s e_ hL => ?_
    refine en' ?_
    show K14 a s.w
    refine hK14 _ _ ?_
    refine wp_seq_k fun K17 hK17 => ?_
    refine rg ?_
    refine st 12 (t_move (o_t 5 rfl) rfl rfl) rfl rfl hL fun a s e_ hL => ?_
    refine st 13 (t_move (o_t 3 rfl) rfl rfl) rfl rfl hL fun a s e_ hL => ?_
    refine st 14 (t_nei (o_t 12 rfl) (o_t 13 rfl) rfl rfl) rfl rfl hL fun a s e_ hL => ?_
    refine en' ?_
    show K17 a s.w
    refine hK17 _ _ ?_
    refine cnd hL rfl (fun hb_ => ?_) (fun hb_ => ?_)
    · replace h := h.1 hb_
      refine wp_seq_k fun K18 hK18 => ?_
      refine rg ?_
      refine st 15 (t_move (o_t 5 rfl) rfl rfl) rfl rfl hL fun a s e_ hL => ?_
      refine st 2 (t_assign (o_t 15 rfl) rfl rfl) rfl rfl hL fun a s e_ hL => ?_
      refine en' ?_
      show K18 a s.w
      refine hK18 _ _ ?_
      subst h
      exact wp_ret (retq rfl hL rfl)
    · replace h := h.2 hb_
      refine wp_skip ?_
      show K13 a s.w
      refine hK13 _ _ ?_
      obtain ⟨h19, h⟩ := h
      refine rg ?_
      refine st 16 (t_add (o_t 8 rfl) (o_i (k := .i64) (by decide)) h19 rfl rfl) rfl rfl hL fun a s e_ hL => ?_
      refine st 8 (t_move (o_t 16 rfl) rfl rfl) rfl rfl hL fun a s e_ hL => ?_
      refine en' ?_
      exact hKL10 k9 a s (Nat.lt_succ_self _) ⟨(v7 + 1), hL.keep (.cons (t := 3) rfl (fun _ h_ => h_.elim) (.cons (t := 6) rfl (fun _ h_ => h_.elim) (.cons (t := 7) rfl (fun _ h_ => h_.elim) (.cons (t := 8) rfl (fun _ h_ => h_.elim) .nil)))), h⟩
  · replace h := h.2 hb_
    refine wp_exit ?_
    exact J5 a s (hL.keep (.cons (t := 3) rfl (fun _ h_ => h_.elim) .nil)) h
theorem item_Compare_1_ok {x_ : SItem} {y_ : SItem} {r_ : Int} (h : item_Compare_1 x_ y_ r_) : Fn Tryd.prog 69 [(Pd.rep En.SItem x_), (Pd.rep En.SItem y_)] (Rq (Pd.rep (En.int .i64) r_)) := by
  unfold item_Compare_1 at h
  refine fn_of Tryd.func69 rfl Tryd.ntmps69 (by rfl) (by simp) fun s0 a hL => ?_
  refine wp_seq_k fun K1 hK1 => ?_
  refine rg ?_
  refine st 2 (t_box (o_t 0 rfl) rfl rfl) rfl rfl hL fun a s e_ hL => ?_
  refine st 3 (t_box (o_t 1 rfl) rfl rfl) rfl rfl hL fun a s e_ hL => ?_
  refine st 4 (t_assign (o_i (k := .i64) (by decide)) rfl rfl) rfl rfl hL fun a s e_ hL => ?_
  refine en' ?_
  show K1 a s.w
  refine hK1 _ _ ?_
  refine wp_seq_k fun K2 hK2 => ?_
  obtain ⟨r3, h4, r5, h6, r7, h8, r9, h10, r11, h12, h⟩ := h
  refine rda follows 22 [(Pd.ptr (En.int .i64) x_.1), (Pd.rep (En.int .i64) x_.1), (Pd.ptr (En.int .i64) y_.1), (Pd.rep (En.int .i64) y_.1), (Pd.rep (En.int .i64) r3), (Pd.ptr (En.int .i64) x_.2.1), (Pd.rep (En.int .i64) x_.2.1), (Pd.ptr (En.int .i64) y_.2.1), (Pd.rep (En.int .i64) y_.2.1), (Pd.rep (En.int .i64) r5), (Pd.ptr (En.int .i64) x_.2.2.1), (Pd.rep (En.int .i64) x_.2.2.1), (Pd.ptr (En.int .i64) y_.2.2.1), (Pd.rep (En.int .i64) y_.2.2.1), (Pd.rep (En.int .i64) r7), (Pd.ptr (En.int .i64) x_.2.2.2), (Pd.rep (En.int .i64) x_.2.2.2), (Pd.ptr (En.int .i64) y_.2.2.2), (Pd.rep (En.int .i64) y_.2.2.2), (Pd.rep (En.int .i64) r9), (Pd.rep (En.slice (En.int .i64)) [r3, r5, r7, r9]), (Pd.rep (En.int .i64) r11)] hL (by kernel_rfl) rfl rfl ?_ ?_
  · refine AllT.cons (t_fa (off := 0) (o_t 2 rfl) Tryd.underlying43 rfl (prt_fst (prt_all _ _)) rfl ty3 rfl rfl) ?_
    refine AllT.cons (t_load ty3 (o_t 5 rfl) rfl rfl) ?_
    refine AllT.cons (t_fa (off := 0) (o_t 3 rfl) Tryd.underlying43 rfl (prt_fst (prt_all _ _)) rfl ty3 rfl rfl) ?_
    refine AllT.cons (t_load ty3 (o_t 7 rfl) rfl rfl) ?_
    refine AllT.cons (t_call (cmp_Compare_int_ok h4) (xs := [.tmp 6, .tmp 8]) (.cons (o_t 6 rfl) (.cons (o_t 8 rfl) .nil)) rfl rfl) ?_
    refine AllT.cons (t_fa (off := 1) (o_t 2 rfl) Tryd.underlying43 rfl (prt_snd (prt_fst (prt_all _ _)) rfl) rfl ty3 rfl rfl) ?_
    refine AllT.cons (t_load ty3 (o_t 10 rfl) rfl rfl) ?_
    refine AllT.cons (t_fa (off := 1) (o_t 3 rfl) Tryd.underlying43 rfl (prt_snd (prt_fst (prt_all _ _)) rfl) rfl ty3 rfl rfl) ?_
    refine AllT.cons (t_load ty3 (o_t 12 rfl) rfl rfl) ?_
    refine AllT.cons (t_call (cmp_Compare_int_ok h6) (xs := [.tmp 11, .tmp 13]) (.cons (o_t 11 rfl) (.cons (o_t 13 rfl) .nil)) rfl rfl) ?_
    refine AllT.cons (t_fa (off := 2) (o_t 2 rfl) Tryd.underlying43 rfl (prt_snd (prt_snd (prt_fst (prt_all _ _)) rfl) rfl) rfl ty3 rfl rfl) ?_
    refine AllT.cons (t_load ty3 (o_t 15 rfl) rfl rfl) ?_
    refine AllT.cons (t_fa (off := 2) (o_t 3 rfl) Tryd.underlying43 rfl (prt_snd (prt_snd (prt_fst (prt_all _ _)) rfl) rfl) rfl ty3 rfl rfl) ?_
    refine AllT.cons (t_load ty3 (o_t 17 rfl) rfl rfl) ?_
    refine AllT.cons (t_call (cmp_Compare_int_ok h8) (xs := [.tmp 16, .tmp 18]) (.cons (o_t 16 rfl) (.cons (o_t 18 rfl) .nil)) rfl rfl) ?_
    refine AllT.cons (t_fa (off := 3) (o_t 2 rfl) Tryd.underlying43 rfl (prt_snd (prt_snd (prt_snd (prt_all _ _) rfl) rfl) rfl) rfl ty3 rfl rfl) ?_
    refine AllT.cons (t_load ty3 (o_t 20 rfl) rfl rfl) ?_
    refine AllT.cons (t_fa (off := 3) (o_t 3 rfl) Tryd.underlying43 rfl (prt_snd (prt_snd (prt_snd (prt_all _ _) rfl) rfl) rfl) rfl ty3 rfl rfl) ?_
    refine AllT.cons (t_load ty3 (o_t 22 rfl) rfl rfl) ?_
    refine AllT.cons (t_call (cmp_Compare_int_ok h10) (xs := [.tmp 21, .tmp 23]) (.cons (o_t 21 rfl) (.cons (o_t 23 rfl) .nil)) rfl rfl) ?_
    refine AllT.cons (t_lit (xs := [.tmp 9, .tmp 14, .tmp 19, .tmp 24]) (.cons (o_t 9 rfl) (.cons (o_t 14 rfl) (.cons (o_t 19 rfl) (.cons (o_t 24 rfl) .nil)))) Tryd.underlying82 ty3 rfl rfl (by decide) rfl rfl) ?_
    refine AllT.cons (t_call (cmp_Or_int_ok h12) (xs := [.tmp 25]) (.cons (o_t 25 rfl) .nil) rfl rfl) ?_
    exact AllT.nil
  intro a s e_ hL
  refine st 4 (t_assign (o_t 26 rfl) rfl rfl) rfl rfl hL fun a s e_ hL => ?_
  refine en' ?_
  show K2 a s.w
  refine hK2 _ _ ?_
  subst h
  exact wp_ret (retq rfl hL rfl)
theorem item_Compare_ok {a_ : (List SItem)} {b_ : (List SItem)} {r_ : Int} (h : item_Compare a_ b_ r_) : Fn Tryd.prog 47 [(Pd.rep (En.slice En.SItem) a_), (Pd.rep (En.slice En.SItem) b_)] (Rq (Pd.rep (En.int .i64) r_)) := by
  unfold item_Compare at h
  refine fn_of Tryd.func47 rfl Tryd.ntmps47 (by rfl) (by simp) fun s0 a hL => ?_
  refine wp_seq_k fun K1 hK1 => ?_
  refine rg ?_
  refine st 4 (t_assign (o_i (k := .i64) (by decide)) rfl rfl) rfl rfl hL fun a s e_ hL => ?_
  refine en' ?_
  show K1 a s.w
  refine hK1 _ _ ?_
  refine wp_seq_k fun K2 hK2 => ?_
  refine wp_seq_k fun K3 hK3 => ?_
  obtain ⟨r4, h5, h⟩ := h
  refine rg ?_
  refine st 6 (t_move (o_t 0 rfl) rfl rfl) rfl rfl hL fun a s e_ hL => ?_
  refine st 7 (t_len (o_t 6 rfl) Tryd.underlying26 rfl rfl) rfl rfl hL fun a s e_ hL => ?_
  refine st 8 (t_move (o_t 1 rfl) rfl rfl) rfl rfl hL fun a s e_ hL => ?_
  refine st 9 (t_len (o_t 8 rfl) Tryd.underlying26 rfl rfl) rfl rfl hL fun a s e_ hL => ?_
  refine st 10 (t_call (cmp_Compare_int_ok h5) (xs := [.tmp 7, .tmp 9]) (.cons (o_t 7 rfl) (.cons (o_t 9 rfl) .nil)) rfl rfl) rfl rfl hL fun a s e_ hL => ?_
  refine st 5 (t_assign (o_t 10 rfl) rfl rfl) rfl rfl hL fun a s e_ hL => ?_
  refine en' ?_
  show K3 a s.w
  refine hK3 _ _ ?_
  refine wp_seq_k fun K6 hK6 => ?_
  refine rg ?_
  refine st 11 (t_move (o_t 5 rfl) rfl rfl) rfl rfl hL fun a s e_ hL => ?_
  refine st 12 (t_nei (o_t 11 rfl) (o_i (k := .i64) (by decide)) rfl rfl) rfl rfl hL fun a s e_ hL => ?_
  refine en' ?_
  show K6 a s.w
  refine hK6 _ _ ?_
  refine cnd hL rfl (fun hb_ => ?_) (fun hb_ => ?_)
  · replace h := h.1 hb_
    refine wp_seq_k fun K7 hK7 => ?_
    refine rg ?_
    refine st 13 (t_move (o_t 5 rfl) rfl rfl) rfl rfl hL fun a s e_ hL => ?_
    refine st 4 (t_assign (o_t 13 rfl) rfl rfl) rfl rfl hL fun a s e_ hL => ?_
    refine en' ?_
    show K7 a s.w
    refine hK7 _ _ ?_
    subst h
    exact wp_ret (retq rfl hL rfl)
  · replace h := h.2 hb_
    refine wp_skip ?_
    show K2 a s.w
    refine hK2 _ _ ?_
    refine wp_seq_k fun K8 hK8 => ?_
    obtain ⟨r9, h10, h⟩ := h
    refine rg ?_
    refine st 14 (t_move (o_t 0 rfl) rfl rfl) rfl rfl hL fun a s e_ hL => ?_
    refine st 15 (t_move (o_t 1 rfl) rfl rfl) rfl rfl hL fun a s e_ hL => ?_
    refine st 16 (t_call (slices_CompareFunc_api_State_api_State_api_Item_api_Item_ok h10) (xs := [.tmp 14, .tmp 15, .func 69]) (.cons (o_t 14 rfl) (.cons (o_t 15 rfl) (.cons (o_q (Pd.rep EnF108 (fun q_ => item_Compare_1 q_.1 q_.2.1 q_.2.2)) (o_fun (call_of Tryd.func69 rfl (by rfl)) (fun q_ h_ => item_Compare_1_ok h_))) .nil))) rfl rfl) rfl rfl hL fun a s e_ hL => ?_
    refine st 4 (t_assign (o_t 16 rfl) rfl rfl) rfl rfl hL fun a s e_ hL => ?_
    refine en' ?_
    show K8 a s.w
    refine hK8 _ _ ?_
    subst h
    exact wp_ret (retq rfl hL rfl)
theorem heads_Heads_1_ok {a_ : SBranch} {b_ : SBranch} {r_ : Int} (h : heads_Heads_1 a_ b_ r_) : Fn Tryd.prog 46 [(Pd.rep En.SBranch a_), (Pd.rep En.SBranch b_)] (Rq (Pd.rep (En.int .i64) r_)) := by
  unfold heads_Heads_1 at h
  refine fn_of Tryd.func46 rfl Tryd.ntmps46 (by rfl) (by simp) fun s0 a hL => ?_
  refine wp_seq_k fun K1 hK1 => ?_
  refine rg ?_
  refine st 2 (t_box (o_t 0 rfl) rfl rfl) rfl rfl hL fun a s e_ hL => ?_
  refine st 3 (t_box (o_t 1 rfl) rfl rfl) rfl rfl hL fun a s e_ hL => ?_
  refine st 4 (t_assign (o_i (k := .i64) (by decide)) rfl rfl) rfl rfl hL fun a s e_ hL => ?_
  refine en' ?_
  show K1 a s.w
  refine hK1 _ _ ?_
  refine wp_seq_k fun K2 hK2 => ?_
  obtain ⟨r3, h4, h⟩ := h
  refine rg ?_
  refine st 5 (t_fa (off := 0) (o_t 2 rfl) Tryd.underlying38 rfl (prt_fst (prt_all _ _)) rfl ty26 rfl rfl) rfl rfl hL fun a s e_ hL => ?_
  refine st 6 (t_load ty26 (o_t 5 rfl) rfl rfl) rfl rfl hL fun a s e_ hL => ?_
  refine st 7 (t_fa (off := 0) (o_t 3 rfl) Tryd.underlying38 rfl (prt_fst (prt_all _ _)) rfl ty26 rfl rfl) rfl rfl hL fun a s e_ hL => ?_
  refine st 8 (t_load ty26 (o_t 7 rfl) rfl rfl) rfl rfl hL fun a s e_ hL => ?_
  refine st 9 (t_call (item_Compare_ok h4) (xs := [.tmp 6, .tmp 8]) (.cons (o_t 6 rfl) (.cons (o_t 8 rfl) .nil)) rfl rfl) rfl rfl hL fun a s e_ hL => ?_
  refine st 4 (t_assign (o_t 9 rfl) rfl rfl) rfl rfl hL fun a s e_ hL => ?_
  refine en' ?_
  show K2 a s.w
  refine hK2 _ _ ?_
  subst h
  exact wp_ret (retq rfl hL rfl)
end Go.Proofs.YtdidjelkkanenaaDoor.VD
namespace Go.Proofs.YtdidjelkkanenaaDoor.V
open Go Go.Shelf Go.Sort
set_option linter.unusedVariables false
theorem cmpS_le {x y z : List SItem} (h1 : cmpS x y ≤ 0) (h2 : cmpS y z ≤ 0) : cmpS x z ≤ 0 := by
  rcases Int.lt_or_le (cmpS x y) 0 with a | a
  · rcases Int.lt_or_le (cmpS y z) 0 with b | b
    · have := cmpS_trans a b; omega
    · have e : cmpS y z = 0 := by omega
      rw [← cmpS_zero.1 e]; exact h1
  · have e : cmpS x y = 0 := by omega
    rw [cmpS_zero.1 e]; exact h2
theorem swo_branch : SWO (Go.Proofs.ltOf fun x y : SBranch => cmpS x.1 y.1) := swo_cmp (fun x => cmpS_self _) (fun x y => cmpS_anti _ _) fun x y z h1 h2 => cmpS_le h1 h2
theorem srtB_uniq {x y : List SBranch} (hn : (x.map (·.1)).Nodup) (hp : y.Perm x) (hs : y.Pairwise (fun a b => ¬ cmpS b.1 a.1 < 0)) : y = srtB x := by
  have hny : (y.map (·.1)).Nodup := (hp.map (·.1)).nodup_iff.2 hn
  refine srt_uniq ?_ (srtB_srt hn) fun b => by rw [hp.mem_iff, (srtB_perm x).mem_iff]
  have h2 : y.Pairwise (fun a b => a.1 ≠ b.1) := List.pairwise_map.1 hny
  refine (hs.and h2).imp fun {a b} h => ?_
  have h3 := cmpS_anti b.1 a.1
  have h4 : cmpS a.1 b.1 ≠ 0 := fun e => h.2 (cmpS_zero.1 e)
  omega
theorem fm_branch {g : FuncId} (eg : ∀ (args : Array Value) (w : World), (callFunc g args).run Tryd.prog w = .ok (.enter g args) w) {x r : List SBranch} (hn : (x.map (·.1)).Nodup) (hl : x.length ≤ 2147483648) (hr : r = srtB x)
    (hc : ∀ a ∈ x, ∀ b ∈ x, VD.Fn Tryd.prog g [VD.Pd.rep VD.En.SBranch a, VD.Pd.rep VD.En.SBranch b] (VD.Rq (VD.Pd.rep (VD.En.int .i64) (cmpS a.1 b.1)))) (v0 : Value) :
    Fm Tryd.prog 45 (fun b => v0.ownBlock = some b) [Pd.prow En.SBranch 38 v0 x, Pd.is (.func (.func g) #[] #[])] (fun _ s' _ => (Pd.prow En.SBranch 38 v0 r).p s' v0) := by
  have h := fm_sort slsort (E := En.SBranch) (E' := VD.En.SBranch) (te := 38) (g := g) (cf := fun a b : SBranch => cmpS a.1 b.1) rfl ty38 rfl rfl (fun h => h) (call_of Tryd.func45 rfl (by rfl)) eg swo_branch hl hc v0
  refine ⟨h.call, fun s vs hg hM hv => (h.run s vs hg hM hv).mono fun e w' ⟨v, s', he, hw, hfr, ys, hp, hs, hrow⟩ => ⟨v, s', he, hw, hfr, ?_⟩⟩
  rw [hr, ← srtB_uniq hn hp hs]; exact hrow
theorem sort_heads_Heads_1_ok (v0 : Value) {x r : List SBranch} (h : sort_heads_Heads_1 x r) : Fm Tryd.prog 45 (fun b => v0.ownBlock = some b) [Pd.prow En.SBranch 38 v0 x, Pd.is (.func (.func 46) #[] #[])] (fun _ s' _ => (Pd.prow En.SBranch 38 v0 r).p s' v0) := fm_branch (call_of Tryd.func46 rfl (by rfl)) h.1 h.2.2.1 h.2.2.2 (fun a ha b hb => VD.heads_Heads_1_ok ⟨_, item_Compare_in (h.2.1 a ha), rfl⟩) v0
theorem o_isf {L : Lst} {f : FuncId} : Opn L (.func f) (Pd.is (.func (.func f) #[] #[])) := fun _ _ _ _ _ _ => rfl
end Go.Proofs.YtdidjelkkanenaaDoor.V
namespace Go.Proofs.YtdidjelkkanenaaDoor.V
open Go
set_option linter.unusedVariables false
set_option maxRecDepth 100000
noncomputable abbrev Efmp : En (List (Str × SBranch)) := En.fmap En.str kvStr En.SBranch
noncomputable abbrev Efinder : En (SDesc × Option Nat) := En.cat En.SDesc En.mref
theorem tyzFinder : TyZ Tryd.prog 72 Efinder (([], none) : SDesc × Option Nat) := ⟨_, _, ([.slice none 0 0] ++ [.map none]), rfl, rfl, by rfl, fun _ _ => ⟨[.slice none 0 0], [.map none], rfl, ⟨_, rfl, slV_nil _ _ _⟩, rfl⟩⟩
theorem sttFinder : Stt Tryd.prog 72 [(0, 1), (1, 1)] := ⟨_, Tryd.underlying72, by kernel_rfl⟩
theorem tyMap : Ty Tryd.prog 70 En.mref := ⟨⟨_, _, rfl, rfl, rfl, rfl, by decide⟩, _, rfl, rfl⟩
theorem tyvMap : TyV Tryd.prog 73 Efmp [] := ⟨_, [.map none], rfl, by rfl, fun _ _ => ⟨_, rfl, .inl ⟨rfl, rfl⟩⟩⟩
theorem tyvBranch : TyV Tryd.prog 38 En.SBranch (([], 0) : SBranch) := ⟨_, [.slice none 0 0] ++ [.int .i64 0], rfl, by rfl, fun _ _ => ⟨_, _, rfl, ⟨_, rfl, slV_nil _ _ _⟩, ⟨rfl, by decide⟩⟩⟩
def GoodM (d : List SNode) (t : List SItem) (m : List (Str × SBranch)) : Prop := ∃ h l, lv d h t = some l ∧ MapF (fun u => l.count u) m
def InvS (d : List SNode) (xs : List (Str × List (Str × SBranch))) : Prop := ∀ k m, (k, m) ∈ xs → ∃ t, k = keyS t ∧ GoodM d t m
theorem InvS.get {d : List SNode} {xs} (h : InvS d xs) {t : List SItem} (hm : mhas xs (keyS t) = true) : GoodM d t (mget xs (keyS t) []) := by
  obtain ⟨t', e, hg⟩ := h _ _ (mget_in hm [])
  have := keyS_iff.1 e
  subst this; exact hg
theorem InvS.put {d : List SNode} {xs} (h : InvS d xs) {t : List SItem} {m} (hg : GoodM d t m) : InvS d (mput xs (keyS t) m) := by
  intro k m' hm
  rcases mput_mem.1 hm with e | ⟨_, hm⟩
  · cases e; exact ⟨t, rfl, hg⟩
  · exact h k m' hm
theorem InvS.nil (d : List SNode) : InvS d [] := fun k m h => by cases h
abbrev FndOk (d : List SNode) (g : Nat) (t : List SItem) (xs : List (Str × List (Str × SBranch))) : Prop :=
  Fc Tryd.prog 44 En.str kvStr Efmp g xs [Pd.ptr Efinder (d, some g), Pd.rep (En.slice En.SItem) t] (fun i : List (Str × SBranch) × List (Str × List (Str × SBranch)) => GoodM d t i.1 ∧ InvS d i.2) (fun i => Pd.rep Efmp i.1) (fun i => i.2)
theorem no_g {og : Option Nat} {g N : Nat} (hg : g < N) (h : ∀ b, og = some b → N ≤ b) : ∀ b, og = some b → ¬ some g = some b := fun b hb e => by cases e; have := h g hb; omega
theorem no_o {og : Option Nat} {g N : Nat} (hg : g < N) (h : ∀ b, og = some b → N ≤ b) : ∀ b, some g = some b → ¬ og = some b := fun b e hb => by cases e; have := h g hb; omega
structure Left (c : List SItem → Nat) (rem : List (Str × SBranch)) : Prop where
  kn : KN rem
  ent : ∀ p ∈ rem, p.1 = keyS p.2.1 ∧ c p.2.1 ≠ 0 ∧ p.2.2 = sat (c p.2.1)
theorem MapF.left {c : List SItem → Nat} {m : List (Str × SBranch)} (h : MapF c m) : Left c m := ⟨h.kn, fun p hp => (h.mem p.1 p.2).1 hp⟩
theorem Left.perm {c : List SItem → Nat} {l m : List (Str × SBranch)} (h : Left c l) (hp : l.Perm m) : Left c m := ⟨h.kn.perm hp, fun p hm => h.ent p (hp.mem_iff.2 hm)⟩
theorem Left.tail {c : List SItem → Nat} {p : Str × SBranch} {l : List (Str × SBranch)} (h : Left c (p :: l)) : Left c l ∧ keyS p.2.1 ∉ l.map (·.1) := by
  have hk := h.kn
  unfold KN at hk
  rw [List.map_cons, List.nodup_cons] at hk
  exact ⟨⟨hk.2, fun q hq => h.ent q (by simp [hq])⟩, by rw [← (h.ent p (by simp)).1]; exact hk.1⟩
def cnt (f c : List SItem → Nat) (rem : List (Str × SBranch)) (u : List SItem) : Nat := f u + if keyS u ∈ rem.map (·.1) then 0 else c u
theorem cnt_start {f c : List SItem → Nat} {m rem : List (Str × SBranch)} (h : MapF c m) (hp : m.Perm rem) (u : List SItem) : cnt f c rem u = f u := by
  unfold cnt
  by_cases hc : c u = 0
  · simp [hc]
  · rw [if_pos]; · rfl
    exact List.mem_map.2 ⟨(keyS u, (u, sat (c u))), hp.mem_iff.1 ((h.mem _ _).2 ⟨rfl, hc, rfl⟩), rfl⟩
theorem cnt_perm {f c : List SItem → Nat} {l m : List (Str × SBranch)} (hp : l.Perm m) (u : List SItem) : cnt f c l u = cnt f c m u := by
  unfold cnt
  have h := (hp.map (·.1)).mem_iff (a := keyS u)
  by_cases hu : keyS u ∈ l.map (·.1)
  · rw [if_pos hu, if_pos (h.1 hu)]
  · rw [if_neg hu, if_neg (fun k => hu (h.2 k))]
theorem cnt_nil {f c : List SItem → Nat} (u : List SItem) : cnt f c [] u = f u + c u := by simp [cnt]
theorem cnt_step {f c : List SItem → Nat} {p : Str × SBranch} {l : List (Str × SBranch)} (h : Left c (p :: l)) {out : List (Str × SBranch)} (ho : MapF (cnt f c (p :: l)) out) :
    MapF (cnt f c l) (mput out p.1 (p.2.1, min ((mget out p.1 (([], 0) : SBranch)).2 + p.2.2) 2)) := by
  obtain ⟨h1, h2⟩ := h.tail
  obtain ⟨e1, e2, e3⟩ := h.ent p (by simp)
  rw [e1, e3]
  refine (ho.put p.2.1 e2).congr fun t => ?_
  unfold cnt
  simp only [List.map_cons, List.mem_cons, e1, keyS_iff]
  by_cases ht : t = p.2.1
  · subst ht
    rw [if_pos (.inl rfl), if_neg h2, if_pos rfl]; rfl
  · simp only [ht, false_or, if_false, Nat.add_zero]
theorem mapM_len {α β : Type} {f : α → Option β} : ∀ {l : List α} {r : List β}, l.mapM f = some r → r.length = l.length
  | [], r, h => by simp at h; subst h; rfl
  | a :: l, r, h => by
    rw [List.mapM_cons] at h
    cases ha : f a with
    | none => rw [ha] at h; simp at h
    | some b =>
      rw [ha] at h
      cases hl : l.mapM f with
      | none => rw [hl] at h; simp at h
      | some bs =>
        rw [hl] at h
        have e : b :: bs = r := by simpa using h
        rw [← e]; simp [mapM_len hl]
theorem mapM_at {α β : Type} {f : α → Option β} : ∀ {l : List α} {r : List β}, l.mapM f = some r → ∀ {i : Nat} (hi : i < l.length), ∃ b, f l[i] = some b ∧ r[i]? = some b
  | [], r, _, i, hi => by simp at hi
  | a :: l, r, h, i, hi => by
    rw [List.mapM_cons] at h
    cases ha : f a with
    | none => rw [ha] at h; simp at h
    | some b =>
      rw [ha] at h
      cases hl : l.mapM f with
      | none => rw [hl] at h; simp at h
      | some bs =>
        rw [hl] at h
        have e : b :: bs = r := by simpa using h
        subst e
        cases i with
        | zero => exact ⟨b, ha, rfl⟩
        | succ i =>
          obtain ⟨b', h1, h2⟩ := mapM_at hl (i := i) (by simpa using hi)
          exact ⟨b', by simpa using h1, by simpa using h2⟩
theorem take_flat {α : Type} {ls : List (List α)} {i : Nat} {l : List α} (h : ls[i]? = some l) : (ls.take (i + 1)).flatten = (ls.take i).flatten ++ l := by
  have hi := (List.getElem?_eq_some_iff.1 h).1
  have e := (List.getElem?_eq_some_iff.1 h).2
  rw [List.take_succ_eq_append_getElem hi, e, List.flatten_append]
  simp
theorem find_step {d : List SNode} (hd : ROk d) (hk : DOk d) (hl4 : d.length ≤ 400) (g : Nat) {h : Nat} (ih : ∀ (t : List SItem) (l : List (List SItem)), lv d h t = some l → Vs d 400 t → ∀ xs, InvS d xs → FndOk d g t xs) (hd0 : ∃ n, at? d 0 = some n)
    {t : List SItem} {l : List (List SItem)} (hl : lv d (h + 1) t = some l) (hv : Vs d 400 t) {xs : List (Str × List (Str × SBranch))} (hxs : InvS d xs) : FndOk d g t xs := by
  have htl := hv.len
  refine fc_of Tryd.func44 rfl Tryd.ntmps44 (by rfl) (by simp) fun s0 a hL => ?_
  have hgs : g < s0.w.heap.size := by
    obtain ⟨hX, _⟩ := hL.get 999902 rfl
    exact s0.lt g hX
  refine wp_seq_k fun K0 hK0 => ?_
  refine rg ?_
  refine st 4 (t_assign (q := Pd.any) (fun _ _ _ _ _ _ => trivial) rfl rfl) rfl rfl hL fun a s e_ hL => ?_
  refine en' ?_
  show K0 a s.w; refine hK0 _ _ ?_
  refine wp_seq_k fun K1 hK1 => ?_
  refine rg ?_
  refine st 14 (t_move (o_t 1 rfl) rfl rfl) rfl rfl hL fun a s e_ hL => ?_
  refine st 15 (t_call (item_Key_ok (item_Key_in (s := t) (by omega))) (xs := [.tmp 14]) (.cons (o_t 14 rfl) .nil) rfl rfl) rfl rfl hL fun a s e_ hL => ?_
  refine st 5 (t_assign (o_t 15 rfl) rfl rfl) rfl rfl hL fun a s e_ hL => ?_
  refine en' ?_
  show K1 a s.w; refine hK1 _ _ ?_
  refine wp_seq_k fun K2 hK2 => ?_
  refine wp_seq_k fun K3 hK3 => ?_
  refine rg ?_
  refine st 17 (t_move (o_t 0 rfl) rfl rfl) rfl rfl hL fun a s e_ hL => ?_
  refine st 18 (t_nc (o_t 17 rfl) ptr_some rfl rfl) rfl rfl hL fun a s e_ hL => ?_
  refine st 19 (t_fa (off := 1) (o_t 18 rfl) Tryd.underlying72 rfl (prt_snd (prt_all _ _) rfl) rfl tyMap rfl rfl) rfl rfl hL fun a s e_ hL => ?_
  refine st 20 (t_load tyMap (o_t 19 rfl) rfl rfl) rfl rfl hL fun a s e_ hL => ?_
  refine st 21 (t_move (o_t 5 rfl) rfl rfl) rfl rfl hL fun a s e_ hL => ?_
  refine st 22 (t_mgetcok (m := 999902) rfl (o_t 20 rfl) (o_t 21 rfl) Tryd.underlying70 (key_str Tryd.underlying9) tyvMap rfl rfl) rfl rfl hL fun a s e_ hL => ?_
  refine st 16 (t_move (o_t 22 rfl) rfl rfl) rfl rfl hL fun a s e_ hL => ?_
  refine st 23 (t_ext0 (o_t 16 rfl) rfl rfl) rfl rfl hL fun a s e_ hL => ?_
  refine st 24 (t_ext1 (o_t 16 rfl) rfl rfl) rfl rfl hL fun a s e_ hL => ?_
  refine st 6 (t_assign (o_t 23 rfl) rfl rfl) rfl rfl hL fun a s e_ hL => ?_
  refine st 7 (t_assign (o_t 24 rfl) rfl rfl) rfl rfl hL fun a s e_ hL => ?_
  refine en' ?_
  show K3 a s.w; refine hK3 _ _ ?_
  refine wp_seq_k fun K4 hK4 => ?_
  refine rg ?_
  refine st 25 (t_move (o_t 7 rfl) rfl rfl) rfl rfl hL fun a s e_ hL => ?_
  refine en' ?_
  show K4 a s.w; refine hK4 _ _ ?_
  refine cnd hL rfl (fun hb_ => ?_) (fun hb_ => ?_)
  · refine wp_seq_k fun K5 hK5 => ?_
    refine rg ?_
    refine st 26 (t_move (o_t 6 rfl) rfl rfl) rfl rfl hL fun a s e_ hL => ?_
    refine st 4 (t_assign (o_t 26 rfl) rfl rfl) rfl rfl hL fun a s e_ hL => ?_
    refine en' ?_
    show K5 a s.w; refine hK5 _ _ ?_
    exact wp_ret (retc (mget xs (keyS t) [], xs) ⟨hxs.get hb_, hxs⟩ rfl hL rfl rfl)
  refine wp_skip ?_
  show K2 a s.w; refine hK2 _ _ ?_
  refine wp_seq_k fun K6 hK6 => ?_
  refine rg ?_
  refine st_mkmap 27 En.str kvStr En.SBranch hL rfl rfl rfl rfl fun a s g8 hg8 hL => ?_
  have hng : ∀ b, some g8 = some b → s0.w.heap.size ≤ b := fun b hb => (map_lt (hL.get 27 rfl) b hb).1
  refine st 8 (t_assign (o_t 27 rfl) rfl rfl) rfl rfl hL fun a s e_ hL => ?_
  refine en' ?_
  show K6 a s.w; refine hK6 _ _ ?_
  refine wp_seq_k fun K7 hK7 => ?_
  refine wp_seq_k fun K8 hK8 => ?_
  refine rg ?_
  refine st 28 (t_move (o_t 0 rfl) rfl rfl) rfl rfl hL fun a s e_ hL => ?_
  refine st 29 (t_nc (o_t 28 rfl) ptr_some rfl rfl) rfl rfl hL fun a s e_ hL => ?_
  refine st 30 (t_fa (off := 0) (o_t 29 rfl) Tryd.underlying72 rfl (prt_fst (prt_all _ _)) rfl ty24 rfl rfl) rfl rfl hL fun a s e_ hL => ?_
  refine st 31 (t_load ty24 (o_t 30 rfl) rfl rfl) rfl rfl hL fun a s e_ hL => ?_
  refine st 32 (t_move (o_t 1 rfl) rfl rfl) rfl rfl hL fun a s e_ hL => ?_
  refine st 33 (t_call (heads_Ready_ok (heads_Ready_in hd hv.form)) (xs := [.tmp 31, .tmp 32]) (.cons (o_t 31 rfl) (.cons (o_t 32 rfl) .nil)) rfl rfl) rfl rfl hL fun a s e_ hL => ?_
  refine en' ?_
  show K8 a s.w; refine hK8 _ _ ?_
  refine cnd hL rfl (fun hb_ => ?_) (fun hb_ => ?_)
  · have hgood : GoodM d t (mput [] (keyS t) (t, 1)) := ⟨1, [t], by simp [lv, hb_], MapF.one t⟩
    refine wp_seq_k fun K9 hK9 => ?_
    refine rg ?_
    refine st 34 (t_move (o_t 8 rfl) rfl rfl) rfl rfl hL fun a s e_ hL => ?_
    refine st 35 (t_move (o_t 5 rfl) rfl rfl) rfl rfl hL fun a s e_ hL => ?_
    refine st 36 (t_move (o_t 1 rfl) rfl rfl) rfl rfl hL fun a s e_ hL => ?_
    refine st 37 (t_call (slices_Clone_api_State_api_Item_ok (clone_in (s := t) (by omega))).frz (xs := [.tmp 36]) (.cons (o_t 36 rfl) .nil) rfl rfl) rfl rfl hL fun a s e_ hL => ?_
    refine st 38 (t_build (x := ((t, 1) : SBranch)) (ps := [(0, .tmp 37), (1, .const (.int .i64 1))]) tyz38 rfl stt38 (.cons (i := 0) (o_t 37 rfl) rfl (sub_fst (sub_all _ _ _)) (.cons (i := 1) (o_i (k := .i64) (by decide)) rfl (sub_snd (sub_all _ _ _) rfl) .nil)) rfl rfl) rfl rfl hL fun a s e_ hL => ?_
    refine st_mputC (L' := [(0, Pd.ptr Efinder (d, some g)), (5, Pd.rep En.str (keyS t)), (8, Pd.map En.str kvStr En.SBranch s0.w.heap.size (some g8) (mput [] (keyS t) (t, 1))), (999902, Pd.mapc En.str kvStr Efmp g xs)]) hL (o_t 34 rfl) (o_t 35 rfl) (o_t 38 rfl) Tryd.underlying73 (key_str Tryd.underlying9) (.inl rfl) rfl rfl
      (.cons (t := 0) rfl (fun _ h_ => h_.elim) (.cons (t := 5) rfl (fun _ h_ => h_.elim) (.turn (t := 8) rfl (.cons (t := 999902) rfl (no_o hgs hng) .nil)))) fun s hL => ?_
    refine en' ?_
    show K9 a s.w; refine hK9 _ _ ?_
    refine wp_seq_k fun K10 hK10 => ?_
    refine rg ?_
    obtain ⟨s2, hw2, hL⟩ := hL.freezem (L' := [(0, Pd.ptr Efinder (d, some g)), (5, Pd.rep En.str (keyS t)), (999902, Pd.mapc En.str kvStr Efmp g xs)]) 8 rfl (.cons (t := 0) rfl (fun _ h_ => h_.elim) (.cons (t := 5) rfl (fun _ h_ => h_.elim) (.cons (t := 999902) rfl (no_o hgs hng) .nil)))
    rw [← hw2]; clear hw2; generalize s2 = s at *
    refine st 39 (t_move (o_t 0 rfl) rfl rfl) rfl rfl hL fun a s e_ hL => ?_
    refine st 40 (t_nc (o_t 39 rfl) ptr_some rfl rfl) rfl rfl hL fun a s e_ hL => ?_
    refine st 41 (t_fa (off := 1) (o_t 40 rfl) Tryd.underlying72 rfl (prt_snd (prt_all _ _) rfl) rfl tyMap rfl rfl) rfl rfl hL fun a s e_ hL => ?_
    refine st 42 (t_load tyMap (o_t 41 rfl) rfl rfl) rfl rfl hL fun a s e_ hL => ?_
    refine st 43 (t_move (o_t 5 rfl) rfl rfl) rfl rfl hL fun a s e_ hL => ?_
    refine st 44 (t_move (o_t 8 rfl) rfl rfl) rfl rfl hL fun a s e_ hL => ?_
    refine st_mputc (m := 999902) (L' := [(8, Pd.rep Efmp (mput [] (keyS t) (t, 1)))]) hL rfl (.inl rfl) (o_t 42 rfl) (o_t 43 rfl) (o_t 44 rfl) Tryd.underlying70 (key_str Tryd.underlying9) (.inl rfl) rfl rfl (.cons (t := 8) rfl (fun _ h_ => h_.elim) .nil) fun s hL => ?_
    refine en' ?_
    show K10 a s.w; refine hK10 _ _ ?_
    refine wp_seq_k fun K11 hK11 => ?_
    refine rg ?_
    refine st 45 (t_move (o_t 8 rfl) rfl rfl) rfl rfl hL fun a s e_ hL => ?_
    refine st 4 (t_assign (o_t 45 rfl) rfl rfl) rfl rfl hL fun a s e_ hL => ?_
    refine en' ?_
    show K11 a s.w; refine hK11 _ _ ?_
    exact wp_ret (retc (mput [] (keyS t) (t, 1), mput xs (keyS t) (mput [] (keyS t) (t, 1))) ⟨hgood, hxs.put hgood⟩ rfl hL rfl rfl)
  refine wp_skip ?_
  show K7 a s.w; refine hK7 _ _ ?_
  have hrd : rdy d t = false := hb_
  have hopn := hv.opn hd hrd
  obtain ⟨ls, hls, hlf⟩ : ∃ ls, (opn d t).mapM (lv d h) = some ls ∧ ls.flatten = l := by
    unfold lv at hl
    rw [if_neg (by rw [hrd]; simp)] at hl
    exact Option.map_eq_some_iff.1 hl
  have hlen2 := opn_len (d := d) t
  have hlsl : ls.length = (opn d t).length := mapM_len hls
  refine wp_seq_k fun K12 hK12 => ?_
  refine wp_seq_k fun K13 hK13 => ?_
  refine rg ?_
  refine st 46 (t_move (o_t 0 rfl) rfl rfl) rfl rfl hL fun a s e_ hL => ?_
  refine st 47 (t_nc (o_t 46 rfl) ptr_some rfl rfl) rfl rfl hL fun a s e_ hL => ?_
  refine st 48 (t_fa (off := 0) (o_t 47 rfl) Tryd.underlying72 rfl (prt_fst (prt_all _ _)) rfl ty24 rfl rfl) rfl rfl hL fun a s e_ hL => ?_
  refine st 49 (t_load ty24 (o_t 48 rfl) rfl rfl) rfl rfl hL fun a s e_ hL => ?_
  refine st 50 (t_move (o_t 1 rfl) rfl rfl) rfl rfl hL fun a s e_ hL => ?_
  refine st 51 (t_call (heads_Open_ok (heads_Open_in hd hv.form hrd (by omega) hd0)).frz (xs := [.tmp 49, .tmp 50]) (.cons (o_t 49 rfl) (.cons (o_t 50 rfl) .nil)) rfl rfl) rfl rfl hL fun a s e_ hL => ?_
  refine st 52 (t_len (o_t 51 rfl) Tryd.underlying33 rfl rfl) rfl rfl hL fun a s e_ hL => ?_
  refine st 53 (t_move (o_i (k := .i64) (by decide)) rfl rfl) rfl rfl hL fun a s e_ hL => ?_
  refine en' ?_
  show K13 a s.w; refine hK13 _ _ ?_
  refine wp_block ?_
  have hg8s := hng g8 rfl
  have J : ∀ (a : Act) (s : St) (out : List (Str × SBranch)) (ys : List (Str × List (Str × SBranch))), Has (fun b => some g = some b) 88 s0 a s [(0, Pd.ptr Efinder (d, some g)), (5, Pd.rep En.str (keyS t)), (8, Pd.map En.str kvStr En.SBranch s0.w.heap.size (some g8) out), (999902, Pd.mapc En.str kvStr Efmp g ys)] →
      MapF (fun u => l.count u) out → InvS d ys → K12 a s.w := by
    intro a s out ys hL hout hys
    have hgood : GoodM d t out := ⟨h + 1, l, hl, hout⟩
    refine hK12 _ _ ?_
    refine wp_seq_k fun K19 hK19 => ?_
    refine rg ?_
    obtain ⟨s2, hw2, hL⟩ := hL.freezem (L' := [(0, Pd.ptr Efinder (d, some g)), (5, Pd.rep En.str (keyS t)), (999902, Pd.mapc En.str kvStr Efmp g ys)]) 8 rfl (.cons (t := 0) rfl (fun _ h_ => h_.elim) (.cons (t := 5) rfl (fun _ h_ => h_.elim) (.cons (t := 999902) rfl (no_o hgs hng) .nil)))
    rw [← hw2]; clear hw2; generalize s2 = s at *
    refine st 81 (t_move (o_t 0 rfl) rfl rfl) rfl rfl hL fun a s e_ hL => ?_
    refine st 82 (t_nc (o_t 81 rfl) ptr_some rfl rfl) rfl rfl hL fun a s e_ hL => ?_
    refine st 83 (t_fa (off := 1) (o_t 82 rfl) Tryd.underlying72 rfl (prt_snd (prt_all _ _) rfl) rfl tyMap rfl rfl) rfl rfl hL fun a s e_ hL => ?_
    refine st 84 (t_load tyMap (o_t 83 rfl) rfl rfl) rfl rfl hL fun a s e_ hL => ?_
    refine st 85 (t_move (o_t 5 rfl) rfl rfl) rfl rfl hL fun a s e_ hL => ?_
    refine st 86 (t_move (o_t 8 rfl) rfl rfl) rfl rfl hL fun a s e_ hL => ?_
    refine st_mputc (m := 999902) (L' := [(8, Pd.rep Efmp out)]) hL rfl (.inl rfl) (o_t 84 rfl) (o_t 85 rfl) (o_t 86 rfl) Tryd.underlying70 (key_str Tryd.underlying9) (.inl rfl) rfl rfl (.cons (t := 8) rfl (fun _ h_ => h_.elim) .nil) fun s hL => ?_
    refine en' ?_
    show K19 a s.w; refine hK19 _ _ ?_
    refine wp_seq_k fun K20 hK20 => ?_
    refine rg ?_
    refine st 87 (t_move (o_t 8 rfl) rfl rfl) rfl rfl hL fun a s e_ hL => ?_
    refine st 4 (t_assign (o_t 87 rfl) rfl rfl) rfl rfl hL fun a s e_ hL => ?_
    refine en' ?_
    show K20 a s.w; refine hK20 _ _ ?_
    exact wp_ret (retc (out, mput ys (keyS t) out) ⟨hgood, hys.put hgood⟩ rfl hL rfl rfl)
  refine lpg (fun k a s => ∃ (i : Nat) (out : List (Str × SBranch)) (ys : List (Str × List (Str × SBranch))), i + k = (opn d t).length + 1 ∧ Has (fun b => some g = some b) 88 s0 a s [(0, Pd.ptr Efinder (d, some g)), (5, Pd.rep En.str (keyS t)), (8, Pd.map En.str kvStr En.SBranch s0.w.heap.size (some g8) out), (51, Pd.rep (En.slice (En.slice En.SItem)) (opn d t)), (52, Pd.rep (En.int .i64) ((opn d t).length : Int)), (53, Pd.rep (En.int .i64) (i : Int)), (999902, Pd.mapc En.str kvStr Efmp g ys)] ∧
      MapF (fun u => (ls.take i).flatten.count u) out ∧ InvS d ys) ((opn d t).length + 1) ⟨0, [], xs, by omega, hL.keep (.cons (t := 0) rfl (fun _ h_ => h_.elim) (.cons (t := 5) rfl (fun _ h_ => h_.elim) (.cons (t := 8) rfl (fun _ _ h_ => h_) (.cons (t := 51) rfl (fun _ h_ => h_.elim) (.cons (t := 52) rfl (fun _ h_ => h_.elim) (.cons (t := 53) rfl (fun _ h_ => h_.elim) (.cons (t := 999902) rfl (fun _ _ h_ => h_) .nil))))))), MapF.nil, hxs⟩ ?_
  rintro k a s ⟨i, out, ys, hik, hL, hout, hys⟩ KL hKL
  refine wp_seq_k fun K14 hK14 => ?_
  refine rg ?_
  refine st 54 (t_lss (o_t 53 rfl) (o_t 52 rfl) rfl rfl) rfl rfl hL fun a s e_ hL => ?_
  refine en' ?_
  show K14 a s.w; refine hK14 _ _ ?_
  refine wp_seq_k fun K15 hK15 => ?_
  refine cnd hL rfl (fun hb2_ => ?_) (fun hb2_ => ?_)
  case refine_2 =>
    refine wp_exit ?_
    have hi : (opn d t).length ≤ i := by have := df hb2_; omega
    refine J a s out ys (hL.keep (.cons (t := 0) rfl (fun _ h_ => h_.elim) (.cons (t := 5) rfl (fun _ h_ => h_.elim) (.cons (t := 8) rfl (fun _ _ h_ => h_) (.cons (t := 999902) rfl (fun _ _ h_ => h_) .nil))))) ?_ hys
    rw [List.take_of_length_le (by omega), hlf] at hout
    exact hout
  refine wp_skip ?_
  show K15 a s.w; refine hK15 _ _ ?_
  have hi : i < (opn d t).length := by have := dt hb2_; omega
  have hti : at? (opn d t) (i : Int) = some (opn d t)[i] := by rw [at_nat]; simp [hi]
  have hmem : (opn d t)[i] ∈ opn d t := List.getElem_mem hi
  obtain ⟨li, hli, hlsi⟩ := mapM_at hls hi
  refine wp_seq_k fun K18 hK18 => ?_
  refine wp_block ?_
  refine wp_seq_k fun K21 hK21 => ?_
  refine rg ?_
  refine st 55 (t_idx (o_t 51 rfl) (o_t 53 rfl) hti Tryd.underlying33 ty26 rfl rfl) rfl rfl hL fun a s e_ hL => ?_
  refine st 56 (t_load ty26 (o_t 55 rfl) rfl rfl) rfl rfl hL fun a s e_ hL => ?_
  refine st 10 (t_assign (o_t 56 rfl) rfl rfl) rfl rfl hL fun a s e_ hL => ?_
  refine en' ?_
  show K21 a s.w; refine hK21 _ _ ?_
  refine wp_seq_k fun K22 hK22 => ?_
  refine rg ?_
  refine st 57 (t_move (o_t 0 rfl) rfl rfl) rfl rfl hL fun a s e_ hL => ?_
  refine st 58 (t_move (o_t 10 rfl) rfl rfl) rfl rfl hL fun a s e_ hL => ?_
  refine st_callc (L' := [(0, Pd.ptr Efinder (d, some g)), (5, Pd.rep En.str (keyS t)), (8, Pd.map En.str kvStr En.SBranch s0.w.heap.size (some g8) out), (51, Pd.rep (En.slice (En.slice En.SItem)) (opn d t)), (52, Pd.rep (En.int .i64) ((opn d t).length : Int)), (53, Pd.rep (En.int .i64) (i : Int))]) 59 999902 hL (ih _ li hli (hopn _ hmem) ys hys) rfl (.inl rfl) (zs := [.tmp 57, .tmp 58]) (.cons (o_t 57 rfl) (.cons (o_t 58 rfl) .nil)) rfl rfl rfl rfl
    (.cons (t := 0) rfl (fun _ h_ => h_.elim) (.cons (t := 5) rfl (fun _ h_ => h_.elim) (.cons (t := 8) rfl (no_g hgs hng) (.cons (t := 51) rfl (fun _ h_ => h_.elim) (.cons (t := 52) rfl (fun _ h_ => h_.elim) (.cons (t := 53) rfl (fun _ h_ => h_.elim) .nil)))))) fun a s im him hL => ?_
  obtain ⟨m, ys2⟩ := im
  obtain ⟨⟨hh, l2, hl2, hm⟩, hys2⟩ := him
  simp only at hl2 hm hys2
  have hl2e : l2 = li := by
    have h1 := lv_mono (Nat.le_max_left hh h) hl2
    have h2 := lv_mono (Nat.le_max_right hh h) hli
    rw [h1] at h2; exact Option.some.inj h2
  subst hl2e
  have hg8lt := (map_lt (hL.get 8 rfl) g8 rfl).2
  refine st_range 60 hL (o_t 59 rfl) Tryd.underlying73 rfl rfl rfl rfl fun a s r hr hL => ?_
  have hr8 : g8 < r := Nat.lt_of_lt_of_le hg8lt hr
  refine en' ?_
  show K22 a s.w; refine hK22 _ _ ?_
  refine wp_block ?_
  let f := fun u => (ls.take i).flatten.count u
  let c := fun u => l2.count u
  have J2 : ∀ (a : Act) (s : St) (out : List (Str × SBranch)), Has (fun b => some g = some b) 88 s0 a s [(0, Pd.ptr Efinder (d, some g)), (5, Pd.rep En.str (keyS t)), (8, Pd.map En.str kvStr En.SBranch s0.w.heap.size (some g8) out), (51, Pd.rep (En.slice (En.slice En.SItem)) (opn d t)), (52, Pd.rep (En.int .i64) ((opn d t).length : Int)), (53, Pd.rep (En.int .i64) (i : Int)), (999902, Pd.mapc En.str kvStr Efmp g ys2)] →
      MapF (fun u => f u + c u) out → K18 a s.w := by
    intro a s out hL hout
    refine hK18 _ _ ?_
    refine rg ?_
    refine st 80 (t_add (o_t 53 rfl) (o_i (k := .i64) (by decide)) (i64_of (by omega) (by omega)) rfl rfl) rfl rfl hL fun a s e_ hL => ?_
    refine st 53 (t_move (o_t 80 rfl) rfl rfl) rfl rfl hL fun a s e_ hL => ?_
    refine en' ?_
    refine hKL (k - 1) a s (by omega) ⟨i + 1, out, ys2, by omega, hL.keep (.cons (t := 0) rfl (fun _ h_ => h_.elim) (.cons (t := 5) rfl (fun _ h_ => h_.elim) (.cons (t := 8) rfl (fun _ _ h_ => h_) (.cons (t := 51) rfl (fun _ h_ => h_.elim) (.cons (t := 52) rfl (fun _ h_ => h_.elim) (.cons (t := 53) rfl (fun _ h_ => h_.elim) (.cons (t := 999902) rfl (fun _ _ h_ => h_) .nil))))))), ?_, hys2⟩
    refine hout.congr fun u => ?_
    rw [take_flat hlsi, List.count_append]
  refine lpg (fun k a s => ∃ (rem : List (Str × SBranch)) (cur : Option (Str × SBranch)) (out : List (Str × SBranch)), rem.length + 1 = k ∧ Has (fun b => some g = some b) 88 s0 a s [(0, Pd.ptr Efinder (d, some g)), (5, Pd.rep En.str (keyS t)), (8, Pd.map En.str kvStr En.SBranch s0.w.heap.size (some g8) out), (51, Pd.rep (En.slice (En.slice En.SItem)) (opn d t)), (52, Pd.rep (En.int .i64) ((opn d t).length : Int)), (53, Pd.rep (En.int .i64) (i : Int)), (60, Pd.iter En.str kvStr En.SBranch s0.w.heap.size r rem cur), (999902, Pd.mapc En.str kvStr Efmp g ys2)] ∧
      Left c rem ∧ MapF (cnt f c rem) out) (m.length + 1) ⟨m, none, out, rfl, hL.keep (.cons (t := 0) rfl (fun _ h_ => h_.elim) (.cons (t := 5) rfl (fun _ h_ => h_.elim) (.cons (t := 8) rfl (fun _ _ h_ => h_) (.cons (t := 51) rfl (fun _ h_ => h_.elim) (.cons (t := 52) rfl (fun _ h_ => h_.elim) (.cons (t := 53) rfl (fun _ h_ => h_.elim) (.cons (t := 60) rfl (fun _ _ h_ => h_) (.cons (t := 999902) rfl (fun _ _ h_ => h_) .nil)))))))), hm.left, hout.congr fun u => by rw [cnt_start hm (.refl _)]⟩ ?_
  rintro k2 a s ⟨rem, cur, out, hrk, hL, hleft, hout⟩ KM hKM
  refine wp_seq_k fun K23 hK23 => ?_
  refine rg ?_
  have hrs0 : s0.w.heap.size ≤ r := (hL.get 60 rfl).2.1
  refine st_next (L' := [(0, Pd.ptr Efinder (d, some g)), (5, Pd.rep En.str (keyS t)), (8, Pd.map En.str kvStr En.SBranch s0.w.heap.size (some g8) out), (51, Pd.rep (En.slice (En.slice En.SItem)) (opn d t)), (52, Pd.rep (En.int .i64) ((opn d t).length : Int)), (53, Pd.rep (En.int .i64) (i : Int)), (999902, Pd.mapc En.str kvStr Efmp g ys2)]) 61 hL (x := 60) rfl rfl rfl rfl rfl (by decide)
    (.cons (t := 0) rfl (fun _ h_ => h_.elim) (.cons (t := 5) rfl (fun _ h_ => h_.elim) (.cons (t := 8) rfl (fun b hb e => by cases hb; cases e; omega) (.cons (t := 51) rfl (fun _ h_ => h_.elim) (.cons (t := 52) rfl (fun _ h_ => h_.elim) (.cons (t := 53) rfl (fun _ h_ => h_.elim) (.cons (t := 999902) rfl (fun b hb e => by cases hb; cases e; omega) .nil))))))) (fun a hrem hL => ?_) (fun a s p rem' hp hL => ?_)
  · subst hrem
    refine st 62 (t_nx (o_t 61 rfl) rfl rfl) rfl rfl hL fun a s e_ hL => ?_
    refine en' ?_
    show K23 a s.w; refine hK23 _ _ ?_
    refine wp_seq_k fun K24 hK24 => ?_
    refine cnd hL rfl (fun hb3_ => by cases hb3_) (fun _ => ?_)
    refine wp_exit ?_
    refine J2 a s out (hL.keep (.cons (t := 0) rfl (fun _ h_ => h_.elim) (.cons (t := 5) rfl (fun _ h_ => h_.elim) (.cons (t := 8) rfl (fun _ _ h_ => h_) (.cons (t := 51) rfl (fun _ h_ => h_.elim) (.cons (t := 52) rfl (fun _ h_ => h_.elim) (.cons (t := 53) rfl (fun _ h_ => h_.elim) (.cons (t := 999902) rfl (fun _ _ h_ => h_) .nil)))))))) (hout.congr fun u => by rw [cnt_nil])
  have hleft2 := hleft.perm hp
  have hout2 : MapF (cnt f c (p :: rem')) out := hout.congr fun u => by rw [cnt_perm hp]
  obtain ⟨e1, e2, e3⟩ := hleft2.ent p (by simp)
  have hp2 : 1 ≤ p.2.2 ∧ p.2.2 ≤ 2 := by rw [e3]; unfold sat; omega
  have hmg : 0 ≤ (mget out p.1 (([], 0) : SBranch)).2 ∧ (mget out p.1 (([], 0) : SBranch)).2 ≤ 2 := by rw [e1, hout2.get]; unfold sat; omega
  refine st 62 (t_nx (o_t 61 rfl) rfl rfl) rfl rfl hL fun a s e_ hL => ?_
  refine en' ?_
  show K23 a s.w; refine hK23 _ _ ?_
  refine wp_seq_k fun K24 hK24 => ?_
  refine cnd hL rfl (fun _ => ?_) (fun hb3_ => by cases hb3_)
  refine wp_skip ?_
  show K24 a s.w; refine hK24 _ _ ?_
  refine wp_block ?_
  refine wp_seq_k fun K25 hK25 => ?_
  refine rg ?_
  refine st 63 (t_entry (o_t 60 rfl) (key_str Tryd.underlying9) rfl rfl) rfl rfl hL fun a s e_ hL => ?_
  refine st 64 (t_ext0 (o_t 63 rfl) rfl rfl) rfl rfl hL fun a s e_ hL => ?_
  refine st 65 (t_ext1 (o_t 63 rfl) rfl rfl) rfl rfl hL fun a s e_ hL => ?_
  have l8 := (map_lt (hL.get 8 rfl) g8 rfl).2
  have lr := hL.ilt 60 rfl r rfl
  have lg : g < s.w.heap.size := Nat.lt_of_lt_of_le hgs hL.ent.mv.size
  refine st_alloc En.SBranch (z := (([], 0) : SBranch)) 12 hL tyz38 rfl rfl rfl rfl fun a s g12 hg12 hL => ?_
  refine st 11 (t_assign (o_t 64 rfl) rfl rfl) rfl rfl hL fun a s e_ hL => ?_
  refine st_stb (L' := [(0, Pd.ptr Efinder (d, some g)), (5, Pd.rep En.str (keyS t)), (8, Pd.map En.str kvStr En.SBranch s0.w.heap.size (some g8) out), (11, Pd.rep En.str p.1), (51, Pd.rep (En.slice (En.slice En.SItem)) (opn d t)), (52, Pd.rep (En.int .i64) ((opn d t).length : Int)), (53, Pd.rep (En.int .i64) (i : Int)), (60, Pd.iter En.str kvStr En.SBranch s0.w.heap.size r rem' (some p)), (999902, Pd.mapc En.str kvStr Efmp g ys2)]) 12 hL rfl (o_t 65 rfl) ty38 rfl rfl rfl
    (.cons (t := 0) rfl (fun _ h_ => h_.elim) (.cons (t := 5) rfl (fun _ h_ => h_.elim) (.cons (t := 8) rfl (fun b hb e => by cases hb; cases e; omega) (.cons (t := 11) rfl (fun _ h_ => h_.elim) (.cons (t := 51) rfl (fun _ h_ => h_.elim) (.cons (t := 52) rfl (fun _ h_ => h_.elim) (.cons (t := 53) rfl (fun _ h_ => h_.elim) (.cons (t := 60) rfl (fun b hb e => by cases hb; cases e; omega) (.cons (t := 999902) rfl (fun b hb e => by cases hb; cases e; omega) .nil))))))))) fun s hL => ?_
  refine en' ?_
  show K25 a s.w; refine hK25 _ _ ?_
  refine wp_seq_k fun K26 hK26 => ?_
  refine rg ?_
  refine st 66 (t_move (o_t 8 rfl) rfl rfl) rfl rfl hL fun a s e_ hL => ?_
  refine st 67 (t_move (o_t 11 rfl) rfl rfl) rfl rfl hL fun a s e_ hL => ?_
  refine st 68 (t_mget (z := (([], 0) : SBranch)) (o_t 66 rfl) (o_t 67 rfl) Tryd.underlying73 (key_str Tryd.underlying9) tyvBranch rfl rfl) rfl rfl hL fun a s e_ hL => ?_
  have l8 := (map_lt (hL.get 8 rfl) g8 rfl).2
  have lr := hL.ilt 60 rfl r rfl
  have lg : g < s.w.heap.size := Nat.lt_of_lt_of_le hgs hL.ent.mv.size
  have l12 := hL.blt 12 rfl g12 rfl
  refine st_alloc En.SBranch (z := (([], 0) : SBranch)) 13 hL tyz38 rfl rfl rfl rfl fun a s g13 hg13 hL => ?_
  refine st_stb (L' := [(0, Pd.ptr Efinder (d, some g)), (5, Pd.rep En.str (keyS t)), (8, Pd.map En.str kvStr En.SBranch s0.w.heap.size (some g8) out), (11, Pd.rep En.str p.1), (12, Pd.box En.SBranch s0.w.heap.size g12 p.2), (51, Pd.rep (En.slice (En.slice En.SItem)) (opn d t)), (52, Pd.rep (En.int .i64) ((opn d t).length : Int)), (53, Pd.rep (En.int .i64) (i : Int)), (60, Pd.iter En.str kvStr En.SBranch s0.w.heap.size r rem' (some p)), (999902, Pd.mapc En.str kvStr Efmp g ys2)]) 13 hL rfl (o_t 68 rfl) ty38 rfl rfl rfl
    (.cons (t := 0) rfl (fun _ h_ => h_.elim) (.cons (t := 5) rfl (fun _ h_ => h_.elim) (.cons (t := 8) rfl (fun b hb e => by cases hb; cases e; omega) (.cons (t := 11) rfl (fun _ h_ => h_.elim) (.cons (t := 12) rfl (fun b hb e => by cases hb; cases e; omega) (.cons (t := 51) rfl (fun _ h_ => h_.elim) (.cons (t := 52) rfl (fun _ h_ => h_.elim) (.cons (t := 53) rfl (fun _ h_ => h_.elim) (.cons (t := 60) rfl (fun b hb e => by cases hb; cases e; omega) (.cons (t := 999902) rfl (fun b hb e => by cases hb; cases e; omega) .nil)))))))))) fun s hL => ?_
  refine en' ?_
  show K26 a s.w; refine hK26 _ _ ?_
  refine rg ?_
  refine st 69 (t_move (o_t 8 rfl) rfl rfl) rfl rfl hL fun a s e_ hL => ?_
  refine st 70 (t_move (o_t 11 rfl) rfl rfl) rfl rfl hL fun a s e_ hL => ?_
  refine st 71 (t_fab (off := 0) (o_t 12 rfl) Tryd.underlying38 rfl (prt_fst (prt_all _ _)) rfl ty26 rfl rfl) rfl rfl hL fun a s e_ hL => ?_
  refine st 72 (t_loado ty26 (o_t 71 rfl) rfl rfl) rfl rfl hL fun a s e_ hL => ?_
  refine st 73 (t_fab (off := 1) (o_t 13 rfl) Tryd.underlying38 rfl (prt_snd (prt_all _ _) rfl) rfl ty3 rfl rfl) rfl rfl hL fun a s e_ hL => ?_
  refine st 74 (t_loado ty3 (o_t 73 rfl) rfl rfl) rfl rfl hL fun a s e_ hL => ?_
  refine st 75 (t_fab (off := 1) (o_t 12 rfl) Tryd.underlying38 rfl (prt_snd (prt_all _ _) rfl) rfl ty3 rfl rfl) rfl rfl hL fun a s e_ hL => ?_
  refine st 76 (t_loado ty3 (o_t 75 rfl) rfl rfl) rfl rfl hL fun a s e_ hL => ?_
  refine st 77 (t_add (o_t 74 rfl) (o_t 76 rfl) (i64_of (by omega) (by omega)) rfl rfl) rfl rfl hL fun a s e_ hL => ?_
  refine st 78 (t_min (o_t 77 rfl) (o_i (k := .i64) (by decide)) rfl rfl) rfl rfl hL fun a s e_ hL => ?_
  refine st 79 (t_build (x := ((p.2.1, min ((mget out p.1 (([], 0) : SBranch)).2 + p.2.2) 2) : SBranch)) (ps := [(0, .tmp 72), (1, .tmp 78)]) tyz38 rfl stt38 (.cons (i := 0) (o_t 72 rfl) rfl (sub_fst (sub_all _ _ _)) (.cons (i := 1) (o_t 78 rfl) rfl (sub_snd (sub_all _ _ _) rfl) .nil)) rfl rfl) rfl rfl hL fun a s e_ hL => ?_
  refine st_mputC (L' := [(0, Pd.ptr Efinder (d, some g)), (5, Pd.rep En.str (keyS t)), (8, Pd.map En.str kvStr En.SBranch s0.w.heap.size (some g8) (mput out p.1 (p.2.1, min ((mget out p.1 (([], 0) : SBranch)).2 + p.2.2) 2))), (51, Pd.rep (En.slice (En.slice En.SItem)) (opn d t)), (52, Pd.rep (En.int .i64) ((opn d t).length : Int)), (53, Pd.rep (En.int .i64) (i : Int)), (60, Pd.iter En.str kvStr En.SBranch s0.w.heap.size r rem' (some p)), (999902, Pd.mapc En.str kvStr Efmp g ys2)]) hL (o_t 69 rfl) (o_t 70 rfl) (o_t 79 rfl) Tryd.underlying73 (key_str Tryd.underlying9) (.inl rfl) rfl rfl
    (.cons (t := 0) rfl (fun _ h_ => h_.elim) (.cons (t := 5) rfl (fun _ h_ => h_.elim) (.turn (t := 8) rfl (.cons (t := 51) rfl (fun _ h_ => h_.elim) (.cons (t := 52) rfl (fun _ h_ => h_.elim) (.cons (t := 53) rfl (fun _ h_ => h_.elim) (.cons (t := 60) rfl (fun b hb e => by cases hb; cases e; omega) (.cons (t := 999902) rfl (fun b hb e => by cases hb; cases e; omega) .nil)))))))) fun s hL => ?_
  refine en' ?_
  have hpl := hp.length_eq
  simp only [List.length_cons] at hpl
  exact hKM (k2 - 1) a s (by omega) ⟨rem', some p, _, by omega, hL, hleft2.tail.1, cnt_step hleft2 hout2⟩
theorem find_ok {d : List SNode} (hd : ROk d) (hk : DOk d) (hl4 : d.length ≤ 400) (g : Nat) (hd0 : ∃ n, at? d 0 = some n) : ∀ (h : Nat) (t : List SItem) (l : List (List SItem)), lv d h t = some l → Vs d 400 t → ∀ xs, InvS d xs → FndOk d g t xs
  | 0, t, l, hl, _, _, _ => by simp [lv] at hl
  | h + 1, t, l, hl, hv, xs, hxs => find_step hd hk hl4 g (find_ok hd hk hl4 g hd0 h) hd0 hl hv hxs
theorem lv_vs {d : List SNode} (hd : ROk d) {n0 : Nat} : ∀ (h : Nat) (t : List SItem) (l : List (List SItem)), lv d h t = some l → Vs d n0 t → ∀ u ∈ l, Vs d n0 u ∧ rdy d u = true
  | 0, t, l, hl, _ => by simp [lv] at hl
  | h + 1, t, l, hl, hv => by
    intro u hu
    unfold lv at hl
    by_cases hr : rdy d t = true
    · rw [if_pos hr] at hl
      cases hl
      rw [List.mem_singleton.1 hu]; exact ⟨hv, hr⟩
    · rw [if_neg hr] at hl
      obtain ⟨ls, h1, h2⟩ := Option.map_eq_some_iff.1 hl
      subst h2
      obtain ⟨l', hl', hu'⟩ := List.mem_flatten.1 hu
      obtain ⟨i, hi⟩ := List.getElem?_of_mem hl'
      have hil : i < (opn d t).length := by rw [← mapM_len h1]; exact (List.getElem?_eq_some_iff.1 hi).1
      obtain ⟨b, hb1, hb2⟩ := mapM_at h1 hil
      rw [hi] at hb2
      cases hb2
      exact lv_vs hd h _ _ hb1 (hv.opn hd (by simpa using hr) _ (List.getElem_mem hil)) u hu'
theorem heads_Heads_ok {d_ : SDesc} {s_ : List SItem} {r_ : List SBranch} (hh : heads_Heads d_ s_ r_) : Fn Tryd.prog 19 [Pd.rep En.SDesc d_, Pd.rep (En.slice En.SItem) s_] (Ro En.SBranch 38 r_) := by
  obtain ⟨hd, hk, hl4, hne, hf, hs4, hr31, h, l, hl, hcan⟩ := hh
  have hv : Vs d_ 400 s_ := Vs.start hf hs4
  refine fn_of Tryd.func19 rfl Tryd.ntmps19 (by rfl) (by simp) fun s0 a hL => ?_
  refine wp_seq_k fun K0 hK0 => ?_
  refine rg ?_
  refine st 2 (t_box (o_t 0 rfl) rfl rfl) rfl rfl hL fun a s e_ hL => ?_
  refine st 4 (t_assign (q := Pd.any) (fun _ _ _ _ _ _ => trivial) rfl rfl) rfl rfl hL fun a s e_ hL => ?_
  refine en' ?_
  show K0 a s.w; refine hK0 _ _ ?_
  refine wp_seq_k fun K1 hK1 => ?_
  refine rg ?_
  refine st 9 (t_load ty24 (o_t 2 rfl) rfl rfl) rfl rfl hL fun a s e_ hL => ?_
  refine st_mkmap 10 En.str kvStr Efmp hL rfl rfl rfl rfl fun a s g hg hL => ?_
  have hgN : s0.w.heap.size ≤ g := (map_lt (hL.get 10 rfl) g rfl).1
  have hL := hL.mapc 10 999902 rfl
  refine st 11 (t_build (x := ((d_, some g) : SDesc × Option Nat)) (ps := [(0, .tmp 9), (1, .tmp 10)]) tyzFinder rfl sttFinder (.cons (i := 0) (o_t 9 rfl) rfl (sub_fst (sub_all _ _ _)) (.cons (i := 1) (o_t 10 rfl) rfl (sub_snd (sub_all _ _ _) rfl) .nil)) rfl rfl) rfl rfl hL fun a s e_ hL => ?_
  refine st 12 (t_box (o_t 11 rfl) rfl rfl) rfl rfl hL fun a s e_ hL => ?_
  refine st 5 (t_assign (o_t 12 rfl) rfl rfl) rfl rfl hL fun a s e_ hL => ?_
  refine en' ?_
  show K1 a s.w; refine hK1 _ _ ?_
  refine wp_seq_k fun K2 hK2 => ?_
  refine rg ?_
  refine st 6 (t_assign (o_nil (E := En.SBranch) (N := s0.w.heap.size) (te := 38)) rfl rfl) rfl rfl hL fun a s e_ hL => ?_
  refine en' ?_
  show K2 a s.w; refine hK2 _ _ ?_
  refine wp_seq_k fun K3 hK3 => ?_
  refine wp_seq_k fun K4 hK4 => ?_
  refine rg ?_
  refine st 13 (t_move (o_t 5 rfl) rfl rfl) rfl rfl hL fun a s e_ hL => ?_
  refine st 14 (t_move (o_t 1 rfl) rfl rfl) rfl rfl hL fun a s e_ hL => ?_
  have hd0 : ∃ n, at? d_ 0 = some n := by
    cases d_ with
    | nil => exact absurd rfl hne
    | cons n d => exact ⟨n, rfl⟩
  refine st_callc (L' := [(6, Pd.row En.SBranch s0.w.heap.size 38 none [])]) 15 999902 hL (find_ok hd hk hl4 g hd0 h s_ l hl hv [] (InvS.nil _)) rfl (.inr hgN) (zs := [.tmp 13, .tmp 14]) (.cons (o_t 13 rfl) (.cons (o_t 14 rfl) .nil)) rfl rfl rfl rfl
    (.cons (t := 6) rfl no_own .nil) fun a s im him hL => ?_
  obtain ⟨m, ys2⟩ := im
  obtain ⟨⟨h2, l2, hl2, hm⟩, hys2⟩ := him
  simp only at hl2 hm hys2
  have hl2e : l2 = l := by
    have h3 := lv_mono (Nat.le_max_left h2 h) hl2
    have h4 := lv_mono (Nat.le_max_right h2 h) hl
    rw [h3] at h4; exact Option.some.inj h4
  subst hl2e
  refine st_range 16 hL (o_t 15 rfl) Tryd.underlying73 rfl rfl rfl rfl fun a s r hr hL => ?_
  refine en' ?_
  show K4 a s.w; refine hK4 _ _ ?_
  refine wp_block ?_
  have J : ∀ (a : Act) (s : St) (og : Option Nat) (out : List SBranch), Has N0 28 s0 a s [(6, Pd.row En.SBranch s0.w.heap.size 38 og out)] → out.Perm (m.map (·.2)) → K3 a s.w := by
    intro a s og out hL hp
    obtain ⟨hnd, hc2⟩ := hm.can hp
    have hrr : r_ = srtB out := hcan.uniq hc2
    have hlen : out.length ≤ 2147483648 := by
      have := (srtB_perm out).length_eq
      rw [hrr] at hr31; omega
    have hsrt : sort_heads_Heads_1 out r_ := by
      refine ⟨hnd, fun b hb => ?_, hlen, hrr⟩
      obtain ⟨p, hp1, hp2⟩ := List.mem_map.1 (hp.mem_iff.1 hb)
      obtain ⟨k, b'⟩ := p
      simp only at hp2
      subst hp2
      have hc := ((hm.mem k _).1 hp1).2.1
      have hmem : b'.1 ∈ l2 := by
        rcases Nat.eq_zero_or_pos (l2.count b'.1) with h0 | h0
        · exact absurd h0 hc
        · exact List.count_pos_iff.1 h0
      have := (lv_vs hd h s_ l2 hl hv _ hmem).1.len
      omega
    refine hK3 _ _ ?_
    refine wp_seq_k fun K7 hK7 => ?_
    refine rg ?_
    refine st 25 (t_move (o_t 6 rfl) rfl rfl) rfl rfl hL fun a s e_ hL => ?_
    refine st_callr (L' := [(6, Pd.row En.SBranch s0.w.heap.size 38 og r_)]) 26 (fun v0 => sort_heads_Heads_1_ok v0 hsrt) hL (o_t 25 rfl) (zs := [.func 46]) (.cons o_isf .nil) rfl rfl rfl rfl (.turn (t := 6) rfl .nil) fun a s hL => ?_
    refine en' ?_
    show K7 a s.w; refine hK7 _ _ ?_
    refine wp_seq_k fun K8 hK8 => ?_
    refine rg ?_
    refine st 27 (t_move (o_t 6 rfl) rfl rfl) rfl rfl hL fun a s e_ hL => ?_
    refine st 4 (t_assign (o_t 27 rfl) rfl rfl) rfl rfl hL fun a s e_ hL => ?_
    refine en' ?_
    show K8 a s.w; refine hK8 _ _ ?_
    exact wp_ret (reto rfl hL rfl)
  have hmlen : m.length ≤ 2147483648 := by
    have hp := (hm.can (List.Perm.refl (m.map (·.2)))).2
    have e := hcan.uniq hp
    have := (srtB_perm (m.map (·.2))).length_eq
    rw [e] at hr31
    rw [List.length_map] at this
    omega
  refine lpg (fun k a s => ∃ (rem : List (Str × SBranch)) (cur : Option (Str × SBranch)) (og : Option Nat) (out : List SBranch), rem.length + 1 = k ∧ Has N0 28 s0 a s [(6, Pd.row En.SBranch s0.w.heap.size 38 og out), (16, Pd.iter En.str kvStr En.SBranch s0.w.heap.size r rem cur)] ∧ (∀ b, og = some b → ¬ some r = some b) ∧ (out ++ rem.map (·.2)).Perm (m.map (·.2)))
    (m.length + 1) ⟨m, none, none, [], rfl, hL.keep (.cons (t := 6) rfl (fun _ _ h_ => h_) (.cons (t := 16) rfl (fun _ _ h_ => h_) .nil)), (fun b hb => by cases hb), by simp⟩ ?_
  rintro k a s ⟨rem, cur, og, out, hrk, hL, hdis, hperm⟩ KL hKL
  refine wp_seq_k fun K5 hK5 => ?_
  refine rg ?_
  refine st_next (L' := [(6, Pd.row En.SBranch s0.w.heap.size 38 og out)]) 17 hL (x := 16) rfl rfl rfl rfl rfl (by decide) (.cons (t := 6) rfl hdis .nil) (fun a hrem hL => ?_) (fun a s p rem' hp hL => ?_)
  · subst hrem
    refine st 18 (t_nx (o_t 17 rfl) rfl rfl) rfl rfl hL fun a s e_ hL => ?_
    refine en' ?_
    show K5 a s.w; refine hK5 _ _ ?_
    refine wp_seq_k fun K6 hK6 => ?_
    refine cnd hL rfl (fun hb3_ => by cases hb3_) (fun _ => ?_)
    refine wp_exit ?_
    exact J a s og out (hL.keep (.cons (t := 6) rfl (fun _ _ h_ => h_) .nil)) (by simpa using hperm)
  refine st 18 (t_nx (o_t 17 rfl) rfl rfl) rfl rfl hL fun a s e_ hL => ?_
  refine en' ?_
  show K5 a s.w; refine hK5 _ _ ?_
  refine wp_seq_k fun K6 hK6 => ?_
  refine cnd hL rfl (fun _ => ?_) (fun hb3_ => by cases hb3_)
  refine wp_skip ?_
  show K6 a s.w; refine hK6 _ _ ?_
  refine wp_block ?_
  refine wp_seq_k fun K9 hK9 => ?_
  refine rg ?_
  refine st 19 (t_entry (o_t 16 rfl) (key_str Tryd.underlying9) rfl rfl) rfl rfl hL fun a s e_ hL => ?_
  refine st 20 (t_ext1 (o_t 19 rfl) rfl rfl) rfl rfl hL fun a s e_ hL => ?_
  have l6 := hL.rlt 6 rfl
  have lr := hL.ilt 16 rfl r rfl
  refine st_alloc En.SBranch (z := (([], 0) : SBranch)) 8 hL tyz38 rfl rfl rfl rfl fun a s g8 hg8 hL => ?_
  have d6 : ∀ b, og = some b → ¬ some g8 = some b := fun b hb e => by cases e; have := l6 g8 hb; omega
  refine st_stb (L' := [(6, Pd.row En.SBranch s0.w.heap.size 38 og out), (16, Pd.iter En.str kvStr En.SBranch s0.w.heap.size r rem' (some p))]) 8 hL rfl (o_t 20 rfl) ty38 rfl rfl rfl (.cons (t := 6) rfl d6 (.cons (t := 16) rfl (fun b hb e => by cases hb; cases e; omega) .nil)) fun s hL => ?_
  refine en' ?_
  show K9 a s.w; refine hK9 _ _ ?_
  refine rg ?_
  have hpl := hp.length_eq
  simp only [List.length_cons] at hpl
  have hol : out.length + (rem.length : Nat) = m.length := by
    have := hperm.length_eq
    simpa using this
  refine st 21 (t_move (o_t 6 rfl) rfl rfl) rfl rfl hL fun a s e_ hL => ?_
  refine st 22 (t_loadb ty38 (o_t 8 rfl) rfl rfl) rfl rfl hL fun a s e_ hL => ?_
  refine st 23 (t_lit (xs := [.tmp 22]) (.cons (o_t 22 rfl) .nil) Tryd.underlying31 ty38 rfl rfl (by decide) rfl rfl) rfl rfl hL fun a s e_ hL => ?_
  have lr := hL.ilt 16 rfl r rfl
  refine st_app (L' := [(16, Pd.iter En.str kvStr En.SBranch s0.w.heap.size r rem' (some p))]) 24 hL (o_t 21 rfl) (o_t 23 rfl) Tryd.underlying31 ty38 (by simp; omega) rfl rfl rfl rfl (.cons (t := 16) rfl (fun b hb e => hdis b e hb) .nil) fun a s og' hg' hL => ?_
  refine st 6 (t_assign (o_t 24 rfl) rfl rfl) rfl rfl hL fun a s e_ hL => ?_
  refine en' ?_
  refine hKL (k - 1) a s (by omega) ⟨rem', some p, og', out ++ [p.2], by omega, hL.keep (.cons (t := 6) rfl (fun _ _ h_ => h_) (.cons (t := 16) rfl (fun _ _ h_ => h_) .nil)), fun b hb e => ?_, ?_⟩
  · rcases hg' b hb with h3 | h3
    · exact hdis b h3 e
    · cases e; omega
  · refine List.Perm.trans ?_ hperm
    have h5 := hp.map (·.2)
    rw [List.map_cons] at h5
    rw [List.append_assoc, List.singleton_append]
    exact (h5.symm.append_left out)
end Go.Proofs.YtdidjelkkanenaaDoor.V
namespace Go.Proofs.YtdidjelkkanenaaDoor.V
open Go
set_option linter.unusedVariables false
set_option maxRecDepth 100000
theorem law14_awake_ok  {r_ : Bool} (h : law14_awake  r_) : Fn Tryd.prog 12 [] (Rq (Pd.rep En.bool r_)) := by
  unfold law14_awake at h
  refine fn_of Tryd.func12 rfl Tryd.ntmps12 (by rfl) (by simp) fun s0 a hL => ?_
  refine wp_seq_k fun K1 hK1 => ?_
  refine rg ?_
  refine st 0 (t_assign o_b rfl rfl) rfl rfl hL fun a s e_ hL => ?_
  refine en' ?_
  show K1 a s.w
  refine hK1 _ _ ?_
  refine wp_seq_k fun K2 hK2 => ?_
  refine rg ?_
  refine st 9 (t_build (x := (2, 0, 0, 0, 0, (0#256), ([] : Str))) (ps := [(0, .const (.int .i64 2))]) tyz48 rfl stt48 (.cons (i := 0) (o_i (k := .i64) (by decide)) rfl (sub_fst (sub_all _ _ _)) .nil) rfl rfl) rfl rfl hL fun a s e_ hL => ?_
  refine st 10 (t_lit (xs := [.tmp 9]) (.cons (o_t 9 rfl) .nil) Tryd.underlying22 ty48 rfl rfl (by decide) rfl rfl) rfl rfl hL fun a s e_ hL => ?_
  refine st 11 (t_build (x := [(2, 0, 0, 0, 0, (0#256), ([] : Str))]) (ps := [(0, .tmp 10)]) tyz24 rfl stt24 (.cons (i := 0) (o_t 10 rfl) rfl (sub_solo (sub_all _ _ _)) .nil) rfl rfl) rfl rfl hL fun a s e_ hL => ?_
  refine st_alloc En.SDesc (z := []) 1 hL tyz24 rfl rfl rfl rfl fun a s g3 hg_ hL => ?_
  refine st_stb (L' := []) 1 hL rfl (o_t 11 rfl) ty24 rfl rfl rfl .nil fun s hL => ?_
  refine en' ?_
  show K2 a s.w
  refine hK2 _ _ ?_
  refine wp_seq_k fun K4 hK4 => ?_
  refine rg ?_
  refine st 12 (t_build (x := (1, 0, 0, 0, 0, (0#256), ([] : Str))) (ps := [(0, .const (.int .i64 1))]) tyz48 rfl stt48 (.cons (i := 0) (o_i (k := .i64) (by decide)) rfl (sub_fst (sub_all _ _ _)) .nil) rfl rfl) rfl rfl hL fun a s e_ hL => ?_
  refine st 13 (t_lit (xs := [.tmp 12]) (.cons (o_t 12 rfl) .nil) Tryd.underlying22 ty48 rfl rfl (by decide) rfl rfl) rfl rfl hL fun a s e_ hL => ?_
  refine st 14 (t_build (x := [(1, 0, 0, 0, 0, (0#256), ([] : Str))]) (ps := [(0, .tmp 13)]) tyz24 rfl stt24 (.cons (i := 0) (o_t 13 rfl) rfl (sub_solo (sub_all _ _ _)) .nil) rfl rfl) rfl rfl hL fun a s e_ hL => ?_
  have lt_d6 := hL.blt 1 rfl
  refine st_alloc En.SDesc (z := []) 2 hL tyz24 rfl rfl rfl rfl fun a s g5 hg_ hL => ?_
  have d6 : Dis (some g5) (some g3) := Dis.newg hg_ lt_d6
  refine st_stb (L' := [(1, (Pd.box En.SDesc s0.w.heap.size g3 [(2, 0, 0, 0, 0, (0#256), ([] : Str))]))]) 2 hL rfl (o_t 14 rfl) ty24 rfl rfl rfl (.cons (t := 1) rfl (Dis.bx (Dis.symm d6)) .nil) fun s hL => ?_
  refine en' ?_
  show K4 a s.w
  refine hK4 _ _ ?_
  refine wp_seq_k fun K7 hK7 => ?_
  obtain ⟨r8, h9, h⟩ := h
  refine rg ?_
  refine st 15 (t_loadb ty24 (o_t 1 rfl) rfl rfl) rfl rfl hL fun a s e_ hL => ?_
  refine st 16 (t_call (ref04_Wrap_ok h9) (xs := [.const (.int .i64 6), .const (.int .i64 0), .const (.int .i64 0), .tmp 15]) (.cons (o_i (k := .i64) (by decide)) (.cons (o_i (k := .i64) (by decide)) (.cons (o_i (k := .i64) (by decide)) (.cons (o_t 15 rfl) .nil)))) rfl rfl) rfl rfl hL fun a s e_ hL => ?_
  have lt_d12 := hL.blt 2 rfl
  have lt_d11 := hL.blt 1 rfl
  refine st_alloc En.SDesc (z := []) 3 hL tyz24 rfl rfl rfl rfl fun a s g10 hg_ hL => ?_
  have d11 : Dis (some g10) (some g3) := Dis.newg hg_ lt_d11
  have d12 : Dis (some g10) (some g5) := Dis.newg hg_ lt_d12
  refine st_stb (L' := [(1, (Pd.box En.SDesc s0.w.heap.size g3 [(2, 0, 0, 0, 0, (0#256), ([] : Str))])), (2, (Pd.box En.SDesc s0.w.heap.size g5 [(1, 0, 0, 0, 0, (0#256), ([] : Str))]))]) 3 hL rfl (o_t 16 rfl) ty24 rfl rfl rfl (.cons (t := 1) rfl (Dis.bx (Dis.symm d11)) (.cons (t := 2) rfl (Dis.bx (Dis.symm d12)) .nil)) fun s hL => ?_
  refine en' ?_
  show K7 a s.w
  refine hK7 _ _ ?_
  refine wp_seq_k fun K13 hK13 => ?_
  obtain ⟨r14, h15, h⟩ := h
  refine rg ?_
  refine st 17 (t_loadb ty24 (o_t 2 rfl) rfl rfl) rfl rfl hL fun a s e_ hL => ?_
  refine st 18 (t_loadb ty24 (o_t 2 rfl) rfl rfl) rfl rfl hL fun a s e_ hL => ?_
  refine st 19 (t_call (ref04_Pair_ok h15) (xs := [.const (.int .i64 5), .tmp 17, .tmp 18]) (.cons (o_i (k := .i64) (by decide)) (.cons (o_t 17 rfl) (.cons (o_t 18 rfl) .nil))) rfl rfl) rfl rfl hL fun a s e_ hL => ?_
  have lt_d19 := hL.blt 3 rfl
  have lt_d18 := hL.blt 2 rfl
  have lt_d17 := hL.blt 1 rfl
  refine st_alloc En.SDesc (z := []) 4 hL tyz24 rfl rfl rfl rfl fun a s g16 hg_ hL => ?_
  have d17 : Dis (some g16) (some g3) := Dis.newg hg_ lt_d17
  have d18 : Dis (some g16) (some g5) := Dis.newg hg_ lt_d18
  have d19 : Dis (some g16) (some g10) := Dis.newg hg_ lt_d19
  refine st_stb (L' := [(1, (Pd.box En.SDesc s0.w.heap.size g3 [(2, 0, 0, 0, 0, (0#256), ([] : Str))])), (3, (Pd.box En.SDesc s0.w.heap.size g10 r8))]) 4 hL rfl (o_t 19 rfl) ty24 rfl rfl rfl (.cons (t := 1) rfl (Dis.bx (Dis.symm d17)) (.cons (t := 3) rfl (Dis.bx (Dis.symm d19)) .nil)) fun s hL => ?_
  refine en' ?_
  show K13 a s.w
  refine hK13 _ _ ?_
  refine wp_seq_k fun K20 hK20 => ?_
  obtain ⟨r21, h22, r23, h24, h⟩ := h
  refine rda follows 4 [(Pd.rep En.SDesc r8), (Pd.rep En.SDesc r8), (Pd.rep (En.slice En.SItem) r21), (Pd.rep (En.slice En.SBranch) r23)] hL (by kernel_rfl) rfl rfl ?_ ?_
  · refine AllT.cons (t_loadb ty24 (o_t 3 rfl) rfl rfl) ?_
    refine AllT.cons (t_loadb ty24 (o_t 3 rfl) rfl rfl) ?_
    refine AllT.cons (t_call ((law14_start_ok h22).frz) (xs := [.tmp 21]) (.cons (o_t 21 rfl) .nil) rfl rfl) ?_
    refine AllT.cons (t_call ((heads_Heads_ok h24).frz) (xs := [.tmp 20, .tmp 22]) (.cons (o_t 20 rfl) (.cons (o_t 22 rfl) .nil)) rfl rfl) ?_
    exact AllT.nil
  intro a s e_ hL
  refine st 5 (t_assign (o_t 23 rfl) rfl rfl) rfl rfl hL fun a s e_ hL => ?_
  refine en' ?_
  show K20 a s.w
  refine hK20 _ _ ?_
  refine wp_seq_k fun K25 hK25 => ?_
  obtain ⟨r26, h27, r28, h29, h⟩ := h
  refine rda follows 4 [(Pd.rep En.SDesc r14), (Pd.rep En.SDesc r14), (Pd.rep (En.slice En.SItem) r26), (Pd.rep (En.slice En.SBranch) r28)] hL (by kernel_rfl) rfl rfl ?_ ?_
  · refine AllT.cons (t_loadb ty24 (o_t 4 rfl) rfl rfl) ?_
    refine AllT.cons (t_loadb ty24 (o_t 4 rfl) rfl rfl) ?_
    refine AllT.cons (t_call ((law14_start_ok h27).frz) (xs := [.tmp 25]) (.cons (o_t 25 rfl) .nil) rfl rfl) ?_
    refine AllT.cons (t_call ((heads_Heads_ok h29).frz) (xs := [.tmp 24, .tmp 26]) (.cons (o_t 24 rfl) (.cons (o_t 26 rfl) .nil)) rfl rfl) ?_
    exact AllT.nil
  intro a s e_ hL
  refine st 6 (t_assign (o_t 27 rfl) rfl rfl) rfl rfl hL fun a s e_ hL => ?_
  refine en' ?_
  show K25 a s.w
  refine hK25 _ _ ?_
  refine wp_seq_k fun K30 hK30 => ?_
  obtain ⟨r31, h32, r33, h34, h⟩ := h
  refine rda follows 4 [(Pd.rep En.SDesc r8), (Pd.rep En.SDesc r8), (Pd.rep (En.slice En.SItem) r31), (Pd.rep (En.slice (En.slice En.SItem)) r33)] hL (by kernel_rfl) rfl rfl ?_ ?_
  · refine AllT.cons (t_loadb ty24 (o_t 3 rfl) rfl rfl) ?_
    refine AllT.cons (t_loadb ty24 (o_t 3 rfl) rfl rfl) ?_
    refine AllT.cons (t_call ((law14_start_ok h32).frz) (xs := [.tmp 29]) (.cons (o_t 29 rfl) .nil) rfl rfl) ?_
    refine AllT.cons (t_call ((heads_Open_ok h34).frz) (xs := [.tmp 28, .tmp 30]) (.cons (o_t 28 rfl) (.cons (o_t 30 rfl) .nil)) rfl rfl) ?_
    exact AllT.nil
  intro a s e_ hL
  refine st 7 (t_assign (o_t 31 rfl) rfl rfl) rfl rfl hL fun a s e_ hL => ?_
  refine en' ?_
  show K30 a s.w
  refine hK30 _ _ ?_
  refine wp_seq_k fun K35 hK35 => ?_
  obtain ⟨r36, h37, h⟩ := h
  refine rg ?_
  refine st 32 (t_loadb ty24 (o_t 3 rfl) rfl rfl) rfl rfl hL fun a s e_ hL => ?_
  refine st 33 (t_build (x := (5, 0, 1, 0)) (ps := [(0, .const (.int .i64 5)), (2, .const (.int .i64 1))]) tyz43 rfl stt43 (.cons (i := 0) (o_i (k := .i64) (by decide)) rfl (sub_fst (sub_all _ _ _)) (.cons (i := 2) (o_i (k := .i64) (by decide)) rfl (sub_snd (sub_snd (sub_fst (sub_all _ _ _)) rfl) rfl) .nil)) rfl rfl) rfl rfl hL fun a s e_ hL => ?_
  refine st 34 (t_lit (xs := [.tmp 33]) (.cons (o_t 33 rfl) .nil) Tryd.underlying26 ty43 rfl rfl (by decide) rfl rfl) rfl rfl hL fun a s e_ hL => ?_
  refine st 35 (t_call ((heads_Open_ok h37).frz) (xs := [.tmp 32, .tmp 34]) (.cons (o_t 32 rfl) (.cons (o_t 34 rfl) .nil)) rfl rfl) rfl rfl hL fun a s e_ hL => ?_
  refine st 8 (t_assign (o_t 35 rfl) rfl rfl) rfl rfl hL fun a s e_ hL => ?_
  refine en' ?_
  show K35 a s.w
  refine hK35 _ _ ?_
  refine wp_seq_k fun K38 hK38 => ?_
  refine wp_seq_k fun K39 hK39 => ?_
  obtain ⟨b40, h41, h⟩ := h
  refine rg ?_
  refine st 36 (t_move (o_t 5 rfl) rfl rfl) rfl rfl hL fun a s e_ hL => ?_
  refine st 37 (t_len (o_t 36 rfl) Tryd.underlying31 rfl rfl) rfl rfl hL fun a s e_ hL => ?_
  refine st 38 (t_nei (o_t 37 rfl) (o_i (k := .i64) (by decide)) rfl rfl) rfl rfl hL fun a s e_ hL => ?_
  refine st 39 (t_move (o_t 38 rfl) rfl rfl) rfl rfl hL fun a s e_ hL => ?_
  refine st 40 (t_g1 rfl rfl rfl (fun hc_ => t_move (o_t 6 rfl) rfl rfl)) rfl rfl hL fun a s e_ hL => ?_
  refine st 41 (t_g1 rfl rfl rfl (fun hc_ => t_len (o_w hc_ 40 rfl) Tryd.underlying31 rfl rfl)) rfl rfl hL fun a s e_ hL => ?_
  refine st 42 (t_g1 rfl rfl rfl (fun hc_ => t_nei (o_w hc_ 41 rfl) (o_i (k := .i64) (by decide)) rfl rfl)) rfl rfl hL fun a s e_ hL => ?_
  refine st 43 (h41 ▸ (t_or (o_t 39 rfl) (fun hc2_ => (o_w hc2_ 42 rfl)) rfl rfl)) rfl rfl hL fun a s e_ hL => ?_
  refine st 44 (t_move (o_t 43 rfl) rfl rfl) rfl rfl hL fun a s e_ hL => ?_
  refine st 45 (t_g1 rfl rfl rfl (fun hc_ => t_move (o_t 7 rfl) rfl rfl)) rfl rfl hL fun a s e_ hL => ?_
  refine st 46 (t_g1 rfl rfl rfl (fun hc_ => t_len (o_w hc_ 45 rfl) Tryd.underlying33 rfl rfl)) rfl rfl hL fun a s e_ hL => ?_
  refine st 47 (t_g1 rfl rfl rfl (fun hc_ => t_nei (o_w hc_ 46 rfl) (o_i (k := .i64) (by decide)) rfl rfl)) rfl rfl hL fun a s e_ hL => ?_
  refine st 48 (t_or (o_t 44 rfl) (fun hc2_ => (o_w hc2_ 47 rfl)) rfl rfl) rfl rfl hL fun a s e_ hL => ?_
  refine en' ?_
  show K39 a s.w
  refine hK39 _ _ ?_
  refine cnd hL rfl (fun hb_ => ?_) (fun hb_ => ?_)
  · replace h := h.1 hb_
    refine wp_seq_k fun K42 hK42 => ?_
    refine rg ?_
    refine st 0 (t_assign o_b rfl rfl) rfl rfl hL fun a s e_ hL => ?_
    refine en' ?_
    show K42 a s.w
    refine hK42 _ _ ?_
    subst h
    exact wp_ret (retq rfl hL rfl)
  · replace h := h.2 hb_
    refine wp_skip ?_
    show K38 a s.w
    refine hK38 _ _ ?_
    refine wp_seq_k fun K43 hK43 => ?_
    obtain ⟨e44, h45, e46, h47, e48, h49, b50, h51, e52, h53, e54, h55, e56, h57, e58, h59, b60, h61, e62, h63, e64, h65, r66, h67, r68, h69, b70, h71, r72, h73, r74, h75, r76, h77, r78, h79, h⟩ := h
    refine rda follows 77 [(Pd.rep (En.slice En.SBranch) r23), (Pd.ptr En.SBranch e44), (Pd.ptr (En.slice En.SItem) e44.1), (Pd.rep (En.slice En.SItem) e44.1), (Pd.rep (En.int .i64) (e44.1.length : Int)), (Pd.rep En.bool ((e44.1.length : Int) == 0)), (Pd.rep En.bool ((e44.1.length : Int) == 0)), (Pd.when ((((e44.1.length : Int) == 0)) = true) (Pd.rep (En.slice En.SBranch) r23)), (Pd.when ((((e44.1.length : Int) == 0)) = true) (Pd.ptr En.SBranch e46)), (Pd.when ((((e44.1.length : Int) == 0)) = true) (Pd.ptr (En.int .i64) e46.2)), (Pd.when ((((e44.1.length : Int) == 0)) = true) (Pd.rep (En.int .i64) e46.2)), (Pd.when ((((e44.1.length : Int) == 0)) = true) (Pd.rep En.bool (e46.2 == 1))), (Pd.rep En.bool (((e44.1.length : Int) == 0) && (e46.2 == 1))), (Pd.rep En.bool (((e44.1.length : Int) == 0) && (e46.2 == 1))), (Pd.when (((((e44.1.length : Int) == 0) && (e46.2 == 1))) = true) (Pd.rep (En.slice En.SBranch) r23)), (Pd.when (((((e44.1.length : Int) == 0) && (e46.2 == 1))) = true) (Pd.ptr En.SBranch e48)), (Pd.when (((((e44.1.length : Int) == 0) && (e46.2 == 1))) = true) (Pd.ptr (En.slice En.SItem) e48.1)), (Pd.when (((((e44.1.length : Int) == 0) && (e46.2 == 1))) = true) (Pd.rep (En.slice En.SItem) e48.1)), (Pd.when (((((e44.1.length : Int) == 0) && (e46.2 == 1))) = true) (Pd.rep (En.int .i64) (e48.1.length : Int))), (Pd.when (((((e44.1.length : Int) == 0) && (e46.2 == 1))) = true) (Pd.rep En.bool ((e48.1.length : Int) == 2))), (Pd.rep En.bool b50), (Pd.rep En.bool b50), (Pd.when ((b50) = true) (Pd.rep (En.slice En.SBranch) r23)), (Pd.when ((b50) = true) (Pd.ptr En.SBranch e52)), (Pd.when ((b50) = true) (Pd.ptr (En.slice En.SItem) e52.1)), (Pd.when ((b50) = true) (Pd.rep (En.slice En.SItem) e52.1)), (Pd.when ((b50) = true) (Pd.ptr En.SItem e54)), (Pd.when ((b50) = true) (Pd.rep En.SItem e54)), (Pd.when ((b50) = true) (Pd.rep En.SItem (1, 0, 0, 0))), (Pd.when ((b50) = true) (Pd.rep En.bool (e54 == (1, 0, 0, 0)))), (Pd.rep En.bool (b50 && (e54 == (1, 0, 0, 0)))), (Pd.rep En.bool (b50 && (e54 == (1, 0, 0, 0)))), (Pd.when (((b50 && (e54 == (1, 0, 0, 0)))) = true) (Pd.rep (En.slice En.SBranch) r28)), (Pd.when (((b50 && (e54 == (1, 0, 0, 0)))) = true) (Pd.ptr En.SBranch e56)), (Pd.when (((b50 && (e54 == (1, 0, 0, 0)))) = true) (Pd.ptr (En.int .i64) e56.2)), (Pd.when (((b50 && (e54 == (1, 0, 0, 0)))) = true) (Pd.rep (En.int .i64) e56.2)), (Pd.when (((b50 && (e54 == (1, 0, 0, 0)))) = true) (Pd.rep En.bool (e56.2 == 2))), (Pd.rep En.bool ((b50 && (e54 == (1, 0, 0, 0))) && (e56.2 == 2))), (Pd.rep En.bool ((b50 && (e54 == (1, 0, 0, 0))) && (e56.2 == 2))), (Pd.when ((((b50 && (e54 == (1, 0, 0, 0))) && (e56.2 == 2))) = true) (Pd.rep (En.slice (En.slice En.SItem)) r33)), (Pd.when ((((b50 && (e54 == (1, 0, 0, 0))) && (e56.2 == 2))) = true) (Pd.ptr (En.slice En.SItem) e58)), (Pd.when ((((b50 && (e54 == (1, 0, 0, 0))) && (e56.2 == 2))) = true) (Pd.rep (En.slice En.SItem) e58)), (Pd.when ((((b50 && (e54 == (1, 0, 0, 0))) && (e56.2 == 2))) = true) (Pd.rep (En.int .i64) (e58.length : Int))), (Pd.when ((((b50 && (e54 == (1, 0, 0, 0))) && (e56.2 == 2))) = true) (Pd.rep En.bool ((e58.length : Int) == 0))), (Pd.rep En.bool b60), (Pd.rep En.bool b60), (Pd.when ((b60) = true) (Pd.rep (En.slice (En.slice En.SItem)) r33)), (Pd.when ((b60) = true) (Pd.ptr (En.slice En.SItem) e62)), (Pd.when ((b60) = true) (Pd.rep (En.slice En.SItem) e62)), (Pd.when ((b60) = true) (Pd.rep (En.slice En.SBranch) r23)), (Pd.when ((b60) = true) (Pd.ptr En.SBranch e64)), (Pd.when ((b60) = true) (Pd.ptr (En.slice En.SItem) e64.1)), (Pd.when ((b60) = true) (Pd.rep (En.slice En.SItem) e64.1)), (Pd.when ((b60) = true) (Pd.rep En.bool r66)), (Pd.rep En.bool (b60 && r66)), (Pd.rep En.bool (b60 && r66)), (Pd.when (((b60 && r66)) = true) (Pd.rep (En.slice (En.slice En.SItem)) r36)), (Pd.when (((b60 && r66)) = true) (Pd.rep (En.int .i64) (r36.length : Int))), (Pd.when (((b60 && r66)) = true) (Pd.rep En.bool ((r36.length : Int) == 0))), (Pd.rep En.bool ((b60 && r66) && ((r36.length : Int) == 0))), (Pd.rep En.bool ((b60 && r66) && ((r36.length : Int) == 0))), (Pd.when ((((b60 && r66) && ((r36.length : Int) == 0))) = true) (Pd.rep En.SDesc r8)), (Pd.when ((((b60 && r66) && ((r36.length : Int) == 0))) = true) (Pd.rep En.bool r68)), (Pd.rep En.bool b70), (Pd.rep En.bool b70), (Pd.when ((b70) = true) (Pd.rep En.SDesc r8)), (Pd.when ((b70) = true) (Pd.rep En.SDesc r8)), (Pd.when ((b70) = true) (Pd.rep (En.slice En.SItem) r72)), (Pd.when ((b70) = true) (Pd.rep En.bool r74)), (Pd.when ((b70) = true) (Pd.rep En.bool (!r74))), (Pd.rep En.bool (b70 && (!r74))), (Pd.rep En.bool (b70 && (!r74))), (Pd.when (((b70 && (!r74))) = true) (Pd.rep En.SDesc [(2, 0, 0, 0, 0, (0#256), ([] : Str))])), (Pd.when (((b70 && (!r74))) = true) (Pd.rep En.SDesc [(2, 0, 0, 0, 0, (0#256), ([] : Str))])), (Pd.when (((b70 && (!r74))) = true) (Pd.rep (En.slice En.SItem) r76)), (Pd.when (((b70 && (!r74))) = true) (Pd.rep En.bool r78)), (Pd.rep En.bool ((b70 && (!r74)) && r78))] hL (by kernel_rfl) rfl rfl ?_ ?_
    · refine AllT.cons (t_move (o_t 5 rfl) rfl rfl) ?_
      refine AllT.cons (t_idx (o_t 49 rfl) (o_i (k := .i64) (by decide)) h45 Tryd.underlying31 ty38 rfl rfl) ?_
      refine AllT.cons (t_fa (off := 0) (o_t 50 rfl) Tryd.underlying38 rfl (prt_fst (prt_all _ _)) rfl ty26 rfl rfl) ?_
      refine AllT.cons (t_load ty26 (o_t 51 rfl) rfl rfl) ?_
      refine AllT.cons (t_len (o_t 52 rfl) Tryd.underlying26 rfl rfl) ?_
      refine AllT.cons (t_eqi (o_t 53 rfl) (o_i (k := .i64) (by decide)) rfl rfl) ?_
      refine AllT.cons (t_move (o_t 54 rfl) rfl rfl) ?_
      refine AllT.cons (t_g1 rfl rfl rfl (fun hc_ => t_move (o_t 5 rfl) rfl rfl)) ?_
      refine AllT.cons (t_g1 rfl rfl rfl (fun hc_ => t_idx (o_w hc_ 56 rfl) (o_i (k := .i64) (by decide)) (h47 hc_) Tryd.underlying31 ty38 rfl rfl)) ?_
      refine AllT.cons (t_g1 rfl rfl rfl (fun hc_ => t_fa (off := 1) (o_w hc_ 57 rfl) Tryd.underlying38 rfl (prt_snd (prt_all _ _) rfl) rfl ty3 rfl rfl)) ?_
      refine AllT.cons (t_g1 rfl rfl rfl (fun hc_ => t_load ty3 (o_w hc_ 58 rfl) rfl rfl)) ?_
      refine AllT.cons (t_g1 rfl rfl rfl (fun hc_ => t_eqi (o_w hc_ 59 rfl) (o_i (k := .i64) (by decide)) rfl rfl)) ?_
      refine AllT.cons (t_and (o_t 55 rfl) (fun hc2_ => (o_w hc2_ 60 rfl)) rfl rfl) ?_
      refine AllT.cons (t_move (o_t 61 rfl) rfl rfl) ?_
      refine AllT.cons (t_g1 rfl rfl rfl (fun hc_ => t_move (o_t 5 rfl) rfl rfl)) ?_
      refine AllT.cons (t_g1 rfl rfl rfl (fun hc_ => t_idx (o_w hc_ 63 rfl) (o_i (k := .i64) (by decide)) (h49 hc_) Tryd.underlying31 ty38 rfl rfl)) ?_
      refine AllT.cons (t_g1 rfl rfl rfl (fun hc_ => t_fa (off := 0) (o_w hc_ 64 rfl) Tryd.underlying38 rfl (prt_fst (prt_all _ _)) rfl ty26 rfl rfl)) ?_
      refine AllT.cons (t_g1 rfl rfl rfl (fun hc_ => t_load ty26 (o_w hc_ 65 rfl) rfl rfl)) ?_
      refine AllT.cons (t_g1 rfl rfl rfl (fun hc_ => t_len (o_w hc_ 66 rfl) Tryd.underlying26 rfl rfl)) ?_
      refine AllT.cons (t_g1 rfl rfl rfl (fun hc_ => t_eqi (o_w hc_ 67 rfl) (o_i (k := .i64) (by decide)) rfl rfl)) ?_
      refine AllT.cons (h51 ▸ (t_and (o_t 62 rfl) (fun hc2_ => (o_w hc2_ 68 rfl)) rfl rfl)) ?_
      refine AllT.cons (t_move (o_t 69 rfl) rfl rfl) ?_
      refine AllT.cons (t_g1 rfl rfl rfl (fun hc_ => t_move (o_t 5 rfl) rfl rfl)) ?_
      refine AllT.cons (t_g1 rfl rfl rfl (fun hc_ => t_idx (o_w hc_ 71 rfl) (o_i (k := .i64) (by decide)) (h53 hc_) Tryd.underlying31 ty38 rfl rfl)) ?_
      refine AllT.cons (t_g1 rfl rfl rfl (fun hc_ => t_fa (off := 0) (o_w hc_ 72 rfl) Tryd.underlying38 rfl (prt_fst (prt_all _ _)) rfl ty26 rfl rfl)) ?_
      refine AllT.cons (t_g1 rfl rfl rfl (fun hc_ => t_load ty26 (o_w hc_ 73 rfl) rfl rfl)) ?_
      refine AllT.cons (t_g1 rfl rfl rfl (fun hc_ => t_idx (o_w hc_ 74 rfl) (o_i (k := .i64) (by decide)) (h55 hc_) Tryd.underlying26 ty43 rfl rfl)) ?_
      refine AllT.cons (t_g1 rfl rfl rfl (fun hc_ => t_load ty43 (o_w hc_ 75 rfl) rfl rfl)) ?_
      refine AllT.cons (t_g1 rfl rfl rfl (fun hc_ => t_build (x := (1, 0, 0, 0)) (ps := [(0, .const (.int .i64 1))]) tyz43 rfl stt43 (.cons (i := 0) (o_i (k := .i64) (by decide)) rfl (sub_fst (sub_all _ _ _)) .nil) rfl rfl)) ?_
      refine AllT.cons (t_g1 rfl rfl rfl (fun hc_ => t_eqv eq43 (o_w hc_ 76 rfl) (o_w hc_ 77 rfl) rfl rfl)) ?_
      refine AllT.cons (t_and (o_t 70 rfl) (fun hc2_ => (o_w hc2_ 78 rfl)) rfl rfl) ?_
      refine AllT.cons (t_move (o_t 79 rfl) rfl rfl) ?_
      refine AllT.cons (t_g1 rfl rfl rfl (fun hc_ => t_move (o_t 6 rfl) rfl rfl)) ?_
      refine AllT.cons (t_g1 rfl rfl rfl (fun hc_ => t_idx (o_w hc_ 81 rfl) (o_i (k := .i64) (by decide)) (h57 hc_) Tryd.underlying31 ty38 rfl rfl)) ?_
      refine AllT.cons (t_g1 rfl rfl rfl (fun hc_ => t_fa (off := 1) (o_w hc_ 82 rfl) Tryd.underlying38 rfl (prt_snd (prt_all _ _) rfl) rfl ty3 rfl rfl)) ?_
      refine AllT.cons (t_g1 rfl rfl rfl (fun hc_ => t_load ty3 (o_w hc_ 83 rfl) rfl rfl)) ?_
      refine AllT.cons (t_g1 rfl rfl rfl (fun hc_ => t_eqi (o_w hc_ 84 rfl) (o_i (k := .i64) (by decide)) rfl rfl)) ?_
      refine AllT.cons (t_and (o_t 80 rfl) (fun hc2_ => (o_w hc2_ 85 rfl)) rfl rfl) ?_
      refine AllT.cons (t_move (o_t 86 rfl) rfl rfl) ?_
      refine AllT.cons (t_g1 rfl rfl rfl (fun hc_ => t_move (o_t 7 rfl) rfl rfl)) ?_
      refine AllT.cons (t_g1 rfl rfl rfl (fun hc_ => t_idx (o_w hc_ 88 rfl) (o_i (k := .i64) (by decide)) (h59 hc_) Tryd.underlying33 ty26 rfl rfl)) ?_
      refine AllT.cons (t_g1 rfl rfl rfl (fun hc_ => t_load ty26 (o_w hc_ 89 rfl) rfl rfl)) ?_
      refine AllT.cons (t_g1 rfl rfl rfl (fun hc_ => t_len (o_w hc_ 90 rfl) Tryd.underlying26 rfl rfl)) ?_
      refine AllT.cons (t_g1 rfl rfl rfl (fun hc_ => t_eqi (o_w hc_ 91 rfl) (o_i (k := .i64) (by decide)) rfl rfl)) ?_
      refine AllT.cons (h61 ▸ (t_and (o_t 87 rfl) (fun hc2_ => (o_w hc2_ 92 rfl)) rfl rfl)) ?_
      refine AllT.cons (t_move (o_t 93 rfl) rfl rfl) ?_
      refine AllT.cons (t_g1 rfl rfl rfl (fun hc_ => t_move (o_t 7 rfl) rfl rfl)) ?_
      refine AllT.cons (t_g1 rfl rfl rfl (fun hc_ => t_idx (o_w hc_ 95 rfl) (o_i (k := .i64) (by decide)) (h63 hc_) Tryd.underlying33 ty26 rfl rfl)) ?_
      refine AllT.cons (t_g1 rfl rfl rfl (fun hc_ => t_load ty26 (o_w hc_ 96 rfl) rfl rfl)) ?_
      refine AllT.cons (t_g1 rfl rfl rfl (fun hc_ => t_move (o_t 5 rfl) rfl rfl)) ?_
      refine AllT.cons (t_g1 rfl rfl rfl (fun hc_ => t_idx (o_w hc_ 98 rfl) (o_i (k := .i64) (by decide)) (h65 hc_) Tryd.underlying31 ty38 rfl rfl)) ?_
      refine AllT.cons (t_g1 rfl rfl rfl (fun hc_ => t_fa (off := 0) (o_w hc_ 99 rfl) Tryd.underlying38 rfl (prt_fst (prt_all _ _)) rfl ty26 rfl rfl)) ?_
      refine AllT.cons (t_g1 rfl rfl rfl (fun hc_ => t_load ty26 (o_w hc_ 100 rfl) rfl rfl)) ?_
      refine AllT.cons (t_g1 rfl rfl rfl (fun hc_ => t_call (ref13_Same_ok (h67 hc_)) (xs := [.tmp 97, .tmp 101]) (.cons (o_w hc_ 97 rfl) (.cons (o_w hc_ 101 rfl) .nil)) rfl rfl)) ?_
      refine AllT.cons (t_and (o_t 94 rfl) (fun hc2_ => (o_w hc2_ 102 rfl)) rfl rfl) ?_
      refine AllT.cons (t_move (o_t 103 rfl) rfl rfl) ?_
      refine AllT.cons (t_g1 rfl rfl rfl (fun hc_ => t_move (o_t 8 rfl) rfl rfl)) ?_
      refine AllT.cons (t_g1 rfl rfl rfl (fun hc_ => t_len (o_w hc_ 105 rfl) Tryd.underlying33 rfl rfl)) ?_
      refine AllT.cons (t_g1 rfl rfl rfl (fun hc_ => t_eqi (o_w hc_ 106 rfl) (o_i (k := .i64) (by decide)) rfl rfl)) ?_
      refine AllT.cons (t_and (o_t 104 rfl) (fun hc2_ => (o_w hc2_ 107 rfl)) rfl rfl) ?_
      refine AllT.cons (t_move (o_t 108 rfl) rfl rfl) ?_
      refine AllT.cons (t_g1 rfl rfl rfl (fun hc_ => t_loadb ty24 (o_t 3 rfl) rfl rfl)) ?_
      refine AllT.cons (t_g1 rfl rfl rfl (fun hc_ => t_call (heads_Ready_ok (h69 hc_)) (xs := [.tmp 110, .const (.slice none 0 0)]) (.cons (o_w hc_ 110 rfl) (.cons o_nilr .nil)) rfl rfl)) ?_
      refine AllT.cons (h71 ▸ (t_and (o_t 109 rfl) (fun hc2_ => (o_w hc2_ 111 rfl)) rfl rfl)) ?_
      refine AllT.cons (t_move (o_t 112 rfl) rfl rfl) ?_
      refine AllT.cons (t_g1 rfl rfl rfl (fun hc_ => t_loadb ty24 (o_t 3 rfl) rfl rfl)) ?_
      refine AllT.cons (t_g1 rfl rfl rfl (fun hc_ => t_loadb ty24 (o_t 3 rfl) rfl rfl)) ?_
      refine AllT.cons (t_g1 rfl rfl rfl (fun hc_ => t_call ((law14_start_ok (h73 hc_)).frz) (xs := [.tmp 115]) (.cons (o_w hc_ 115 rfl) .nil) rfl rfl)) ?_
      refine AllT.cons (t_g1 rfl rfl rfl (fun hc_ => t_call (heads_Ready_ok (h75 hc_)) (xs := [.tmp 114, .tmp 116]) (.cons (o_w hc_ 114 rfl) (.cons (o_w hc_ 116 rfl) .nil)) rfl rfl)) ?_
      refine AllT.cons (t_g1 rfl rfl rfl (fun hc_ => t_not (o_w hc_ 117 rfl) rfl rfl)) ?_
      refine AllT.cons (t_and (o_t 113 rfl) (fun hc2_ => (o_w hc2_ 118 rfl)) rfl rfl) ?_
      refine AllT.cons (t_move (o_t 119 rfl) rfl rfl) ?_
      refine AllT.cons (t_g1 rfl rfl rfl (fun hc_ => t_loadb ty24 (o_t 1 rfl) rfl rfl)) ?_
      refine AllT.cons (t_g1 rfl rfl rfl (fun hc_ => t_loadb ty24 (o_t 1 rfl) rfl rfl)) ?_
      refine AllT.cons (t_g1 rfl rfl rfl (fun hc_ => t_call ((law14_start_ok (h77 hc_)).frz) (xs := [.tmp 122]) (.cons (o_w hc_ 122 rfl) .nil) rfl rfl)) ?_
      refine AllT.cons (t_g1 rfl rfl rfl (fun hc_ => t_call (heads_Ready_ok (h79 hc_)) (xs := [.tmp 121, .tmp 123]) (.cons (o_w hc_ 121 rfl) (.cons (o_w hc_ 123 rfl) .nil)) rfl rfl)) ?_
      refine AllT.cons (t_and (o_t 120 rfl) (fun hc2_ => (o_w hc2_ 124 rfl)) rfl rfl) ?_
      exact AllT.nil
    intro a s e_ hL
    refine st 0 (t_assign (o_t 125 rfl) rfl rfl) rfl rfl hL fun a s e_ hL => ?_
    refine en' ?_
    show K43 a s.w
    refine hK43 _ _ ?_
    subst h
    exact wp_ret (retq rfl hL rfl)
theorem ref14_Ready_ok {d_ : SDesc} {s_ : (List SItem)} {r_ : Bool} (h : ref14_Ready d_ s_ r_) : Fn Tryd.prog 17 [(Pd.rep En.SDesc d_), (Pd.rep (En.slice En.SItem) s_)] (Rq (Pd.rep En.bool r_)) := by
  unfold ref14_Ready at h
  refine fn_of Tryd.func17 rfl Tryd.ntmps17 (by rfl) (by simp) fun s0 a hL => ?_
  refine wp_seq_k fun K1 hK1 => ?_
  refine rg ?_
  refine st 2 (t_box (o_t 0 rfl) rfl rfl) rfl rfl hL fun a s e_ hL => ?_
  refine st 4 (t_assign o_b rfl rfl) rfl rfl hL fun a s e_ hL => ?_
  refine en' ?_
  show K1 a s.w
  refine hK1 _ _ ?_
  refine wp_seq_k fun K2 hK2 => ?_
  refine wp_seq_k fun K3 hK3 => ?_
  obtain ⟨e4, h5, e6, h7, b8, h9, h⟩ := h
  refine rg ?_
  refine st 6 (t_move (o_t 1 rfl) rfl rfl) rfl rfl hL fun a s e_ hL => ?_
  refine st 7 (t_len (o_t 6 rfl) Tryd.underlying26 rfl rfl) rfl rfl hL fun a s e_ hL => ?_
  refine st 8 (t_eqi (o_t 7 rfl) (o_i (k := .i64) (by decide)) rfl rfl) rfl rfl hL fun a s e_ hL => ?_
  refine st 9 (t_move (o_t 8 rfl) rfl rfl) rfl rfl hL fun a s e_ hL => ?_
  refine st 10 (t_g1 rfl rfl rfl (fun hc_ => t_move (o_t 1 rfl) rfl rfl)) rfl rfl hL fun a s e_ hL => ?_
  refine st 11 (t_g1 rfl rfl rfl (fun hc_ => t_idx (o_w hc_ 10 rfl) (o_i (k := .i64) (by decide)) (h5 hc_) Tryd.underlying26 ty43 rfl rfl)) rfl rfl hL fun a s e_ hL => ?_
  refine st 12 (t_g1 rfl rfl rfl (fun hc_ => t_fa (off := 0) (o_w hc_ 11 rfl) Tryd.underlying43 rfl (prt_fst (prt_all _ _)) rfl ty3 rfl rfl)) rfl rfl hL fun a s e_ hL => ?_
  refine st 13 (t_g1 rfl rfl rfl (fun hc_ => t_load ty3 (o_w hc_ 12 rfl) rfl rfl)) rfl rfl hL fun a s e_ hL => ?_
  refine st 14 (t_g1 rfl rfl rfl (fun hc_ => t_eqi (o_w hc_ 13 rfl) (o_i (k := .i64) (by decide)) rfl rfl)) rfl rfl hL fun a s e_ hL => ?_
  refine st 15 (t_or (o_t 9 rfl) (fun hc2_ => (o_w hc2_ 14 rfl)) rfl rfl) rfl rfl hL fun a s e_ hL => ?_
  refine st 16 (t_move (o_t 15 rfl) rfl rfl) rfl rfl hL fun a s e_ hL => ?_
  refine st 17 (t_g1 rfl rfl rfl (fun hc_ => t_move (o_t 1 rfl) rfl rfl)) rfl rfl hL fun a s e_ hL => ?_
  refine st 18 (t_g1 rfl rfl rfl (fun hc_ => t_idx (o_w hc_ 17 rfl) (o_i (k := .i64) (by decide)) (h7 hc_) Tryd.underlying26 ty43 rfl rfl)) rfl rfl hL fun a s e_ hL => ?_
  refine st 19 (t_g1 rfl rfl rfl (fun hc_ => t_fa (off := 0) (o_w hc_ 18 rfl) Tryd.underlying43 rfl (prt_fst (prt_all _ _)) rfl ty3 rfl rfl)) rfl rfl hL fun a s e_ hL => ?_
  refine st 20 (t_g1 rfl rfl rfl (fun hc_ => t_load ty3 (o_w hc_ 19 rfl) rfl rfl)) rfl rfl hL fun a s e_ hL => ?_
  refine st 21 (t_g1 rfl rfl rfl (fun hc_ => t_eqi (o_w hc_ 20 rfl) (o_i (k := .i64) (by decide)) rfl rfl)) rfl rfl hL fun a s e_ hL => ?_
  refine st 22 (h9 ▸ (t_or (o_t 16 rfl) (fun hc2_ => (o_w hc2_ 21 rfl)) rfl rfl)) rfl rfl hL fun a s e_ hL => ?_
  refine en' ?_
  show K3 a s.w
  refine hK3 _ _ ?_
  refine cnd hL rfl (fun hb_ => ?_) (fun hb_ => ?_)
  · replace h := h.1 hb_
    refine wp_seq_k fun K10 hK10 => ?_
    refine rg ?_
    refine st 4 (t_assign o_b rfl rfl) rfl rfl hL fun a s e_ hL => ?_
    refine en' ?_
    show K10 a s.w
    refine hK10 _ _ ?_
    subst h
    exact wp_ret (retq rfl hL rfl)
  · replace h := h.2 hb_
    refine wp_skip ?_
    show K2 a s.w
    refine hK2 _ _ ?_
    refine wp_seq_k fun K11 hK11 => ?_
    obtain ⟨e12, h13, e14, h15, h⟩ := h
    refine rda follows 9 [(Pd.ptr (En.slice En.SNode) d_), (Pd.rep (En.slice En.SNode) d_), (Pd.rep (En.slice En.SItem) s_), (Pd.ptr En.SItem e12), (Pd.ptr (En.int .i64) e12.2.1), (Pd.rep (En.int .i64) e12.2.1), (Pd.ptr En.SNode e14), (Pd.ptr (En.int .i64) e14.1), (Pd.rep (En.int .i64) e14.1)] hL (by kernel_rfl) rfl rfl ?_ ?_
    · refine AllT.cons (t_fa (off := 0) (o_t 2 rfl) Tryd.underlying24 rfl (prt_solo (prt_all _ _)) rfl ty22 rfl rfl) ?_
      refine AllT.cons (t_load ty22 (o_t 23 rfl) rfl rfl) ?_
      refine AllT.cons (t_move (o_t 1 rfl) rfl rfl) ?_
      refine AllT.cons (t_idx (o_t 25 rfl) (o_i (k := .i64) (by decide)) h13 Tryd.underlying26 ty43 rfl rfl) ?_
      refine AllT.cons (t_fa (off := 1) (o_t 26 rfl) Tryd.underlying43 rfl (prt_snd (prt_fst (prt_all _ _)) rfl) rfl ty3 rfl rfl) ?_
      refine AllT.cons (t_load ty3 (o_t 27 rfl) rfl rfl) ?_
      refine AllT.cons (t_idx (o_t 24 rfl) (o_t 28 rfl) h15 Tryd.underlying22 ty48 rfl rfl) ?_
      refine AllT.cons (t_fa (off := 0) (o_t 29 rfl) Tryd.underlying48 rfl (prt_fst (prt_all _ _)) rfl ty3 rfl rfl) ?_
      refine AllT.cons (t_load ty3 (o_t 30 rfl) rfl rfl) ?_
      exact AllT.nil
    intro a s e_ hL
    refine st 5 (t_assign (o_t 31 rfl) rfl rfl) rfl rfl hL fun a s e_ hL => ?_
    refine en' ?_
    show K11 a s.w
    refine hK11 _ _ ?_
    refine wp_seq_k fun K16 hK16 => ?_
    obtain ⟨e17, h18, b19, h20, h⟩ := h
    refine rg ?_
    refine st 32 (t_move (o_t 1 rfl) rfl rfl) rfl rfl hL fun a s e_ hL => ?_
    refine st 33 (t_idx (o_t 32 rfl) (o_i (k := .i64) (by decide)) h18 Tryd.underlying26 ty43 rfl rfl) rfl rfl hL fun a s e_ hL => ?_
    refine st 34 (t_fa (off := 0) (o_t 33 rfl) Tryd.underlying43 rfl (prt_fst (prt_all _ _)) rfl ty3 rfl rfl) rfl rfl hL fun a s e_ hL => ?_
    refine st 35 (t_load ty3 (o_t 34 rfl) rfl rfl) rfl rfl hL fun a s e_ hL => ?_
    refine st 36 (t_eqi (o_t 35 rfl) (o_i (k := .i64) (by decide)) rfl rfl) rfl rfl hL fun a s e_ hL => ?_
    refine st 37 (t_move (o_t 36 rfl) rfl rfl) rfl rfl hL fun a s e_ hL => ?_
    refine st 38 (t_g1 rfl rfl rfl (fun hc_ => t_move (o_t 5 rfl) rfl rfl)) rfl rfl hL fun a s e_ hL => ?_
    refine st 39 (t_g1 rfl rfl rfl (fun hc_ => t_eqi (o_w hc_ 38 rfl) (o_i (k := .i64) (by decide)) rfl rfl)) rfl rfl hL fun a s e_ hL => ?_
    refine st 40 (t_g1 rfl rfl rfl (fun hc_ => t_move (o_w hc_ 39 rfl) rfl rfl)) rfl rfl hL fun a s e_ hL => ?_
    refine st 41 (t_g rfl rfl rfl (fun hc_ => t_move (o_t 5 rfl) rfl rfl)) rfl rfl hL fun a s e_ hL => ?_
    refine st 42 (t_g rfl rfl rfl (fun hc_ => t_eqi (o_w hc_ 41 rfl) (o_i (k := .i64) (by decide)) rfl rfl)) rfl rfl hL fun a s e_ hL => ?_
    refine st 43 (t_g1 rfl rfl rfl (fun hc_ => t_or (o_w hc_ 40 rfl) (fun hc2_ => (o_w (And.intro hc_ hc2_) 42 rfl)) rfl rfl)) rfl rfl hL fun a s e_ hL => ?_
    refine st 44 (t_g1 rfl rfl rfl (fun hc_ => t_move (o_w hc_ 43 rfl) rfl rfl)) rfl rfl hL fun a s e_ hL => ?_
    refine st 45 (t_g rfl rfl rfl (fun hc_ => t_move (o_t 5 rfl) rfl rfl)) rfl rfl hL fun a s e_ hL => ?_
    refine st 46 (t_g rfl rfl rfl (fun hc_ => t_eqi (o_w hc_ 45 rfl) (o_i (k := .i64) (by decide)) rfl rfl)) rfl rfl hL fun a s e_ hL => ?_
    refine st 47 (t_g1 rfl rfl rfl (fun hc_ => t_or (o_w hc_ 44 rfl) (fun hc2_ => (o_w (And.intro hc_ hc2_) 46 rfl)) rfl rfl)) rfl rfl hL fun a s e_ hL => ?_
    refine st 48 (h20 ▸ (t_and (o_t 37 rfl) (fun hc2_ => (o_w hc2_ 47 rfl)) rfl rfl)) rfl rfl hL fun a s e_ hL => ?_
    refine st 4 (t_assign (o_t 48 rfl) rfl rfl) rfl rfl hL fun a s e_ hL => ?_
    refine en' ?_
    show K16 a s.w
    refine hK16 _ _ ?_
    subst h
    exact wp_ret (retq rfl hL rfl)
theorem ref14_ahead_ok {l_ : (List SItem)} {s_ : (List SItem)} {r_ : (List SItem)} (h : ref14_ahead l_ s_ r_) : Fn Tryd.prog 51 [(Pd.rep (En.slice En.SItem) l_), (Pd.rep (En.slice En.SItem) s_)] (Ro En.SItem 43 r_) := by
  unfold ref14_ahead at h
  refine fn_of Tryd.func51 rfl Tryd.ntmps51 (by rfl) (by simp) fun s0 a hL => ?_
  refine wp_seq_k fun K1 hK1 => ?_
  refine rg ?_
  refine st 4 (t_assign (o_nil (E := En.SItem) (N := s0.w.heap.size) (te := 43)) rfl rfl) rfl rfl hL fun a s e_ hL => ?_
  refine en' ?_
  show K1 a s.w
  refine hK1 _ _ ?_
  refine wp_seq_k fun K2 hK2 => ?_
  obtain ⟨h4, h6, h⟩ := h
  refine rg ?_
  refine st_new En.SItem 5 hL Tryd.underlying26 ty43 rfl rfl rfl rfl fun a s g3 hg_ hL => ?_
  refine st 6 (t_move (o_t 0 rfl) rfl rfl) rfl rfl hL fun a s e_ hL => ?_
  refine st_appu (L' := [(1, (Pd.rep (En.slice En.SItem) s_)), (4, (Pd.row En.SItem s0.w.heap.size 43 none ([] : (List SItem))))]) 7 hL (o_t 5 rfl) (o_t 6 rfl) Tryd.underlying26 Tryd.underlying25 ty43 h4 rfl rfl rfl rfl (.cons (t := 1) rfl (fun _ h_ => h_.elim) (.cons (t := 4) rfl no_own .nil)) fun a s og5 hg_ hL => ?_
  refine st 8 (t_move (o_t 1 rfl) rfl rfl) rfl rfl hL fun a s e_ hL => ?_
  refine st_app (L' := [(4, (Pd.row En.SItem s0.w.heap.size 43 none ([] : (List SItem))))]) 9 hL (o_t 7 rfl) (o_t 8 rfl) Tryd.underlying26 ty43 h6 rfl rfl rfl rfl (.cons (t := 4) rfl no_own .nil) fun a s og7 hg_ hL => ?_
  refine st 4 (t_assign (o_t 9 rfl) rfl rfl) rfl rfl hL fun a s e_ hL => ?_
  refine en' ?_
  show K2 a s.w
  refine hK2 _ _ ?_
  subst h
  exact wp_ret (reto rfl hL rfl)
theorem ref14_Add_ok {l_ : (List SBranch)} {s_ : (List SItem)} {many_ : Int} {r_ : (List SBranch)} (h : ref14_Add l_ s_ many_ r_) : Fn Tryd.prog 28 [(Pd.rep (En.slice En.SBranch) l_), (Pd.rep (En.slice En.SItem) s_), (Pd.rep (En.int .i64) many_)] (Ro En.SBranch 38 r_) := by
  unfold ref14_Add at h
  refine fn_of Tryd.func28 rfl Tryd.ntmps28 (by rfl) (by simp) fun s0 a hL => ?_
  refine wp_seq_k fun K1 hK1 => ?_
  refine rg ?_
  refine st 6 (t_assign (o_nil (E := En.SBranch) (N := s0.w.heap.size) (te := 38)) rfl rfl) rfl rfl hL fun a s e_ hL => ?_
  refine en' ?_
  show K1 a s.w
  refine hK1 _ _ ?_
  refine wp_seq_k fun K2 hK2 => ?_
  refine rg ?_
  refine st 7 (t_assign (o_nil (E := En.SBranch) (N := s0.w.heap.size) (te := 38)) rfl rfl) rfl rfl hL fun a s e_ hL => ?_
  refine en' ?_
  show K2 a s.w
  refine hK2 _ _ ?_
  refine wp_seq_k fun K3 hK3 => ?_
  refine rg ?_
  refine st 8 (t_assign o_b rfl rfl) rfl rfl hL fun a s e_ hL => ?_
  refine en' ?_
  show K3 a s.w
  refine hK3 _ _ ?_
  refine wp_seq_k fun K4 hK4 => ?_
  refine wp_seq_k fun K5 hK5 => ?_
  refine rg ?_
  refine st 9 (t_assign (o_i (k := .i64) (by decide)) rfl rfl) rfl rfl hL fun a s e_ hL => ?_
  refine en' ?_
  show K5 a s.w
  refine hK5 _ _ ?_
  refine wp_block ?_
  have J9 : ∀ (out6 : (List SBranch)) (done8 : Bool) (og7 : Option Nat) (a : Act) (s : St), Has N0 67 s0 a s [(1, (Pd.rep (En.slice En.SItem) s_)), (2, (Pd.rep (En.int .i64) many_)), (7, (Pd.row En.SBranch s0.w.heap.size 38 og7 out6)), (8, (Pd.rep En.bool done8))] → ((ref14_Add.j1 s_ many_ r_) out6 done8) → K4 a s.w := by
    intro out6 done8 og7 a s hL h
    unfold ref14_Add.j1 at h
    show K4 a s.w
    refine hK4 _ _ ?_
    refine wp_seq_k fun K10 hK10 => ?_
    refine wp_seq_k fun K11 hK11 => ?_
    refine rg ?_
    refine st 58 (t_move (o_t 8 rfl) rfl rfl) rfl rfl hL fun a s e_ hL => ?_
    refine st 59 (t_not (o_t 58 rfl) rfl rfl) rfl rfl hL fun a s e_ hL => ?_
    refine en' ?_
    show K11 a s.w
    refine hK11 _ _ ?_
    refine cnd hL rfl (fun hb_ => ?_) (fun hb_ => ?_)
    · replace h := h.1 hb_
      obtain ⟨h12, h⟩ := h
      refine rg ?_
      refine st 60 (t_move (o_t 7 rfl) rfl rfl) rfl rfl hL fun a s e_ hL => ?_
      refine st 61 (t_move (o_t 1 rfl) rfl rfl) rfl rfl hL fun a s e_ hL => ?_
      refine st 62 (t_move (o_t 2 rfl) rfl rfl) rfl rfl hL fun a s e_ hL => ?_
      refine st 63 (t_build (x := (s_, many_)) (ps := [(0, .tmp 61), (1, .tmp 62)]) tyz38 rfl stt38 (.cons (i := 0) (o_t 61 rfl) rfl (sub_fst (sub_all _ _ _)) (.cons (i := 1) (o_t 62 rfl) rfl (sub_snd (sub_all _ _ _) rfl) .nil)) rfl rfl) rfl rfl hL fun a s e_ hL => ?_
      refine st 64 (t_lit (xs := [.tmp 63]) (.cons (o_t 63 rfl) .nil) Tryd.underlying31 ty38 rfl rfl (by decide) rfl rfl) rfl rfl hL fun a s e_ hL => ?_
      refine st_app (L' := []) 65 hL (o_t 60 rfl) (o_t 64 rfl) Tryd.underlying31 ty38 h12 rfl rfl rfl rfl .nil fun a s og13 hg_ hL => ?_
      refine st 7 (t_assign (o_t 65 rfl) rfl rfl) rfl rfl hL fun a s e_ hL => ?_
      refine en' ?_
      show K10 a s.w
      refine hK10 _ _ ?_
      refine wp_seq_k fun K14 hK14 => ?_
      refine rg ?_
      refine st 66 (t_move (o_t 7 rfl) rfl rfl) rfl rfl hL fun a s e_ hL => ?_
      refine st 6 (t_assign (o_t 66 rfl) rfl rfl) rfl rfl hL fun a s e_ hL => ?_
      refine en' ?_
      show K14 a s.w
      refine hK14 _ _ ?_
      subst h
      exact wp_ret (reto rfl hL rfl)
    · replace h := h.2 hb_
      refine wp_skip ?_
      show K10 a s.w
      refine hK10 _ _ ?_
      refine wp_seq_k fun K15 hK15 => ?_
      refine rg ?_
      refine st 66 (t_move (o_t 7 rfl) rfl rfl) rfl rfl hL fun a s e_ hL => ?_
      refine st 6 (t_assign (o_t 66 rfl) rfl rfl) rfl rfl hL fun a s e_ hL => ?_
      refine en' ?_
      show K15 a s.w
      refine hK15 _ _ ?_
      subst h
      exact wp_ret (reto rfl hL rfl)
  obtain ⟨k20, h⟩ := h
  refine lpg (fun k21 a s => ∃ (out16 : (List SBranch)) (done18 : Bool) (i19 : Int) (og17 : Option Nat), Has N0 67 s0 a s [(0, (Pd.rep (En.slice En.SBranch) l_)), (1, (Pd.rep (En.slice En.SItem) s_)), (2, (Pd.rep (En.int .i64) many_)), (7, (Pd.row En.SBranch s0.w.heap.size 38 og17 out16)), (8, (Pd.rep En.bool done18)), (9, (Pd.rep (En.int .i64) i19))] ∧ ref14_Add.l1 l_ s_ many_ (ref14_Add.j1 s_ many_ r_) k21 out16 done18 i19) k20 ⟨([] : (List SBranch)), false, 0, none, hL.keep (.cons (t := 0) rfl (fun _ h_ => h_.elim) (.cons (t := 1) rfl (fun _ h_ => h_.elim) (.cons (t := 2) rfl (fun _ h_ => h_.elim) (.cons (t := 7) rfl (fun _ _ h_ => h_) (.cons (t := 8) rfl (fun _ h_ => h_.elim) (.cons (t := 9) rfl (fun _ h_ => h_.elim) .nil)))))), h⟩ ?_
  rintro k21 a s ⟨out16, done18, i19, og17, hL, h⟩ KL22 hKL22
  cases k21 with
  | zero => exact h.elim
  | succ k21 =>
  unfold ref14_Add.l1 at h
  refine wp_seq_k fun K23 hK23 => ?_
  refine wp_seq_k fun K24 hK24 => ?_
  refine rg ?_
  refine st 11 (t_move (o_t 9 rfl) rfl rfl) rfl rfl hL fun a s e_ hL => ?_
  refine st 12 (t_move (o_t 0 rfl) rfl rfl) rfl rfl hL fun a s e_ hL => ?_
  refine st 13 (t_len (o_t 12 rfl) Tryd.underlying31 rfl rfl) rfl rfl hL fun a s e_ hL => ?_
  refine st 14 (t_lss (o_t 11 rfl) (o_t 13 rfl) rfl rfl) rfl rfl hL fun a s e_ hL => ?_
  refine en' ?_
  show K24 a s.w
  refine hK24 _ _ ?_
  refine cnd hL rfl (fun hb_ => ?_) (fun hb_ => ?_)
  · replace h := h.1 hb_
    refine wp_skip ?_
    show K23 a s.w
    refine hK23 _ _ ?_
    refine wp_seq_k fun K25 hK25 => ?_
    refine wp_block ?_
    refine wp_seq_k fun K26 hK26 => ?_
    obtain ⟨e27, h28, r29, h30, h⟩ := h
    refine rg ?_
    refine st 17 (t_move (o_t 1 rfl) rfl rfl) rfl rfl hL fun a s e_ hL => ?_
    refine st 18 (t_move (o_t 0 rfl) rfl rfl) rfl rfl hL fun a s e_ hL => ?_
    refine st 19 (t_move (o_t 9 rfl) rfl rfl) rfl rfl hL fun a s e_ hL => ?_
    refine st 20 (t_idx (o_t 18 rfl) (o_t 19 rfl) h28 Tryd.underlying31 ty38 rfl rfl) rfl rfl hL fun a s e_ hL => ?_
    refine st 21 (t_fa (off := 0) (o_t 20 rfl) Tryd.underlying38 rfl (prt_fst (prt_all _ _)) rfl ty26 rfl rfl) rfl rfl hL fun a s e_ hL => ?_
    refine st 22 (t_load ty26 (o_t 21 rfl) rfl rfl) rfl rfl hL fun a s e_ hL => ?_
    refine st 23 (t_call (ref13_Compare_ok h30) (xs := [.tmp 17, .tmp 22]) (.cons (o_t 17 rfl) (.cons (o_t 22 rfl) .nil)) rfl rfl) rfl rfl hL fun a s e_ hL => ?_
    refine st 10 (t_assign (o_t 23 rfl) rfl rfl) rfl rfl hL fun a s e_ hL => ?_
    refine en' ?_
    show K26 a s.w
    refine hK26 _ _ ?_
    refine wp_seq_k fun K31 hK31 => ?_
    refine wp_seq_k fun K32 hK32 => ?_
    refine rg ?_
    refine st 24 (t_move (o_t 10 rfl) rfl rfl) rfl rfl hL fun a s e_ hL => ?_
    refine st 25 (t_eqi (o_t 24 rfl) (o_i (k := .i64) (by decide)) rfl rfl) rfl rfl hL fun a s e_ hL => ?_
    refine en' ?_
    show K32 a s.w
    refine hK32 _ _ ?_
    refine cnd hL rfl (fun hb_ => ?_) (fun hb_ => ?_)
    · replace h := h.1 hb_
      refine wp_seq_k fun K33 hK33 => ?_
      obtain ⟨e34, h35, h36, h37, h⟩ := h
      refine rg ?_
      refine st 26 (t_move (o_t 7 rfl) rfl rfl) rfl rfl hL fun a s e_ hL => ?_
      refine st 27 (t_move (o_t 1 rfl) rfl rfl) rfl rfl hL fun a s e_ hL => ?_
      refine st 28 (t_move (o_t 0 rfl) rfl rfl) rfl rfl hL fun a s e_ hL => ?_
      refine st 29 (t_move (o_t 9 rfl) rfl rfl) rfl rfl hL fun a s e_ hL => ?_
      refine st 30 (t_idx (o_t 28 rfl) (o_t 29 rfl) h35 Tryd.underlying31 ty38 rfl rfl) rfl rfl hL fun a s e_ hL => ?_
      refine st 31 (t_fa (off := 1) (o_t 30 rfl) Tryd.underlying38 rfl (prt_snd (prt_all _ _) rfl) rfl ty3 rfl rfl) rfl rfl hL fun a s e_ hL => ?_
      refine st 32 (t_load ty3 (o_t 31 rfl) rfl rfl) rfl rfl hL fun a s e_ hL => ?_
      refine st 33 (t_move (o_t 2 rfl) rfl rfl) rfl rfl hL fun a s e_ hL => ?_
      refine st 34 (t_add (o_t 32 rfl) (o_t 33 rfl) h36 rfl rfl) rfl rfl hL fun a s e_ hL => ?_
      refine st 35 (t_min (o_i (k := .i64) (by decide)) (o_t 34 rfl) rfl rfl) rfl rfl hL fun a s e_ hL => ?_
      refine st 36 (t_build (x := (s_, (min 2 (e34.2 + many_)))) (ps := [(0, .tmp 27), (1, .tmp 35)]) tyz38 rfl stt38 (.cons (i := 0) (o_t 27 rfl) rfl (sub_fst (sub_all _ _ _)) (.cons (i := 1) (o_t 35 rfl) rfl (sub_snd (sub_all _ _ _) rfl) .nil)) rfl rfl) rfl rfl hL fun a s e_ hL => ?_
      refine st 37 (t_lit (xs := [.tmp 36]) (.cons (o_t 36 rfl) .nil) Tryd.underlying31 ty38 rfl rfl (by decide) rfl rfl) rfl rfl hL fun a s e_ hL => ?_
      refine st_app (L' := [(0, (Pd.rep (En.slice En.SBranch) l_)), (1, (Pd.rep (En.slice En.SItem) s_)), (2, (Pd.rep (En.int .i64) many_)), (9, (Pd.rep (En.int .i64) i19))]) 38 hL (o_t 26 rfl) (o_t 37 rfl) Tryd.underlying31 ty38 h37 rfl rfl rfl rfl (.cons (t := 0) rfl (fun _ h_ => h_.elim) (.cons (t := 1) rfl (fun _ h_ => h_.elim) (.cons (t := 2) rfl (fun _ h_ => h_.elim) (.cons (t := 9) rfl (fun _ h_ => h_.elim) .nil)))) fun a s og38 hg_ hL => ?_
      refine st 7 (t_assign (o_t 38 rfl) rfl rfl) rfl rfl hL fun a s e_ hL => ?_
      refine en' ?_
      show K33 a s.w
      refine hK33 _ _ ?_
      refine wp_seq_k fun K39 hK39 => ?_
      refine rg ?_
      refine st 8 (t_assign o_b rfl rfl) rfl rfl hL fun a s e_ hL => ?_
      refine en' ?_
      show K39 a s.w
      refine hK39 _ _ ?_
      refine wp_exit ?_
      show K25 a s.w
      refine hK25 _ _ ?_
      obtain ⟨h40, h⟩ := h
      refine rg ?_
      refine st 15 (t_move (o_t 9 rfl) rfl rfl) rfl rfl hL fun a s e_ hL => ?_
      refine st 16 (t_add (o_t 15 rfl) (o_i (k := .i64) (by decide)) h40 rfl rfl) rfl rfl hL fun a s e_ hL => ?_
      refine st 9 (t_assign (o_t 16 rfl) rfl rfl) rfl rfl hL fun a s e_ hL => ?_
      refine en' ?_
      exact hKL22 k21 a s (Nat.lt_succ_self _) ⟨(out16 ++ [(s_, (min 2 (e34.2 + many_)))]), true, (i19 + 1), og38, hL.keep (.cons (t := 0) rfl (fun _ h_ => h_.elim) (.cons (t := 1) rfl (fun _ h_ => h_.elim) (.cons (t := 2) rfl (fun _ h_ => h_.elim) (.cons (t := 7) rfl (fun _ _ h_ => h_) (.cons (t := 8) rfl (fun _ h_ => h_.elim) (.cons (t := 9) rfl (fun _ h_ => h_.elim) .nil)))))), h⟩
    · replace h := h.2 hb_
      refine wp_skip ?_
      show K31 a s.w
      refine hK31 _ _ ?_
      refine wp_seq_k fun K41 hK41 => ?_
      refine wp_seq_k fun K42 hK42 => ?_
      refine rg ?_
      refine st 39 (t_move (o_t 10 rfl) rfl rfl) rfl rfl hL fun a s e_ hL => ?_
      refine st 40 (t_lss (o_t 39 rfl) (o_i (k := .i64) (by decide)) rfl rfl) rfl rfl hL fun a s e_ hL => ?_
      refine st 41 (t_move (o_t 40 rfl) rfl rfl) rfl rfl hL fun a s e_ hL => ?_
      refine st 42 (t_g1 rfl rfl rfl (fun hc_ => t_move (o_t 8 rfl) rfl rfl)) rfl rfl hL fun a s e_ hL => ?_
      refine st 43 (t_g1 rfl rfl rfl (fun hc_ => t_not (o_w hc_ 42 rfl) rfl rfl)) rfl rfl hL fun a s e_ hL => ?_
      refine st 44 (t_and (o_t 41 rfl) (fun hc2_ => (o_w hc2_ 43 rfl)) rfl rfl) rfl rfl hL fun a s e_ hL => ?_
      refine en' ?_
      show K42 a s.w
      refine hK42 _ _ ?_
      have J46 : ∀ (out43 : (List SBranch)) (done45 : Bool) (og44 : Option Nat) (a : Act) (s : St), Has N0 67 s0 a s [(0, (Pd.rep (En.slice En.SBranch) l_)), (1, (Pd.rep (En.slice En.SItem) s_)), (2, (Pd.rep (En.int .i64) many_)), (7, (Pd.row En.SBranch s0.w.heap.size 38 og44 out43)), (8, (Pd.rep En.bool done45)), (9, (Pd.rep (En.int .i64) i19))] → ((ref14_Add.j2 (ref14_Add.l1 l_ s_ many_ (ref14_Add.j1 s_ many_ r_) k21) l_ i19) out43 done45) → K41 a s.w := by
        intro out43 done45 og44 a s hL h
        unfold ref14_Add.j2 at h
        show K41 a s.w
        refine hK41 _ _ ?_
        obtain ⟨e47, h48, h49, h⟩ := h
        refine rg ?_
        refine st 51 (t_move (o_t 7 rfl) rfl rfl) rfl rfl hL fun a s e_ hL => ?_
        refine st 52 (t_move (o_t 0 rfl) rfl rfl) rfl rfl hL fun a s e_ hL => ?_
        refine st 53 (t_move (o_t 9 rfl) rfl rfl) rfl rfl hL fun a s e_ hL => ?_
        refine st 54 (t_idx (o_t 52 rfl) (o_t 53 rfl) h48 Tryd.underlying31 ty38 rfl rfl) rfl rfl hL fun a s e_ hL => ?_
        refine st 55 (t_load ty38 (o_t 54 rfl) rfl rfl) rfl rfl hL fun a s e_ hL => ?_
        refine st 56 (t_lit (xs := [.tmp 55]) (.cons (o_t 55 rfl) .nil) Tryd.underlying31 ty38 rfl rfl (by decide) rfl rfl) rfl rfl hL fun a s e_ hL => ?_
        refine st_app (L' := [(0, (Pd.rep (En.slice En.SBranch) l_)), (1, (Pd.rep (En.slice En.SItem) s_)), (2, (Pd.rep (En.int .i64) many_)), (8, (Pd.rep En.bool done45)), (9, (Pd.rep (En.int .i64) i19))]) 57 hL (o_t 51 rfl) (o_t 56 rfl) Tryd.underlying31 ty38 h49 rfl rfl rfl rfl (.cons (t := 0) rfl (fun _ h_ => h_.elim) (.cons (t := 1) rfl (fun _ h_ => h_.elim) (.cons (t := 2) rfl (fun _ h_ => h_.elim) (.cons (t := 8) rfl (fun _ h_ => h_.elim) (.cons (t := 9) rfl (fun _ h_ => h_.elim) .nil))))) fun a s og50 hg_ hL => ?_
        refine st 7 (t_assign (o_t 57 rfl) rfl rfl) rfl rfl hL fun a s e_ hL => ?_
        refine en' ?_
        show K25 a s.w
        refine hK25 _ _ ?_
        obtain ⟨h51, h⟩ := h
        refine rg ?_
        refine st 15 (t_move (o_t 9 rfl) rfl rfl) rfl rfl hL fun a s e_ hL => ?_
        refine st 16 (t_add (o_t 15 rfl) (o_i (k := .i64) (by decide)) h51 rfl rfl) rfl rfl hL fun a s e_ hL => ?_
        refine st 9 (t_assign (o_t 16 rfl) rfl rfl) rfl rfl hL fun a s e_ hL => ?_
        refine en' ?_
        exact hKL22 k21 a s (Nat.lt_succ_self _) ⟨(out43 ++ [e47]), done45, (i19 + 1), og50, hL.keep (.cons (t := 0) rfl (fun _ h_ => h_.elim) (.cons (t := 1) rfl (fun _ h_ => h_.elim) (.cons (t := 2) rfl (fun _ h_ => h_.elim) (.cons (t := 7) rfl (fun _ _ h_ => h_) (.cons (t := 8) rfl (fun _ h_ => h_.elim) (.cons (t := 9) rfl (fun _ h_ => h_.elim) .nil)))))), h⟩
      refine cnd hL rfl (fun hb_ => ?_) (fun hb_ => ?_)
      · replace h := h.1 hb_
        refine wp_seq_k fun K52 hK52 => ?_
        obtain ⟨h53, h⟩ := h
        refine rg ?_
        refine st 45 (t_move (o_t 7 rfl) rfl rfl) rfl rfl hL fun a s e_ hL => ?_
        refine st 46 (t_move (o_t 1 rfl) rfl rfl) rfl rfl hL fun a s e_ hL => ?_
        refine st 47 (t_move (o_t 2 rfl) rfl rfl) rfl rfl hL fun a s e_ hL => ?_
        refine st 48 (t_build (x := (s_, many_)) (ps := [(0, .tmp 46), (1, .tmp 47)]) tyz38 rfl stt38 (.cons (i := 0) (o_t 46 rfl) rfl (sub_fst (sub_all _ _ _)) (.cons (i := 1) (o_t 47 rfl) rfl (sub_snd (sub_all _ _ _) rfl) .nil)) rfl rfl) rfl rfl hL fun a s e_ hL => ?_
        refine st 49 (t_lit (xs := [.tmp 48]) (.cons (o_t 48 rfl) .nil) Tryd.underlying31 ty38 rfl rfl (by decide) rfl rfl) rfl rfl hL fun a s e_ hL => ?_
        refine st_app (L' := [(0, (Pd.rep (En.slice En.SBranch) l_)), (1, (Pd.rep (En.slice En.SItem) s_)), (2, (Pd.rep (En.int .i64) many_)), (9, (Pd.rep (En.int .i64) i19))]) 50 hL (o_t 45 rfl) (o_t 49 rfl) Tryd.underlying31 ty38 h53 rfl rfl rfl rfl (.cons (t := 0) rfl (fun _ h_ => h_.elim) (.cons (t := 1) rfl (fun _ h_ => h_.elim) (.cons (t := 2) rfl (fun _ h_ => h_.elim) (.cons (t := 9) rfl (fun _ h_ => h_.elim) .nil)))) fun a s og54 hg_ hL => ?_
        refine st 7 (t_assign (o_t 50 rfl) rfl rfl) rfl rfl hL fun a s e_ hL => ?_
        refine en' ?_
        show K52 a s.w
        refine hK52 _ _ ?_
        refine rg ?_
        refine st 8 (t_assign o_b rfl rfl) rfl rfl hL fun a s e_ hL => ?_
        refine en' ?_
        exact J46 (out16 ++ [(s_, many_)]) true og54 a s (hL.keep (.cons (t := 0) rfl (fun _ h_ => h_.elim) (.cons (t := 1) rfl (fun _ h_ => h_.elim) (.cons (t := 2) rfl (fun _ h_ => h_.elim) (.cons (t := 7) rfl (fun _ _ h_ => h_) (.cons (t := 8) rfl (fun _ h_ => h_.elim) (.cons (t := 9) rfl (fun _ h_ => h_.elim) .nil))))))) h
      · replace h := h.2 hb_
        refine wp_skip ?_
        exact J46 out16 done18 og17 a s (hL.keep (.cons (t := 0) rfl (fun _ h_ => h_.elim) (.cons (t := 1) rfl (fun _ h_ => h_.elim) (.cons (t := 2) rfl (fun _ h_ => h_.elim) (.cons (t := 7) rfl (fun _ _ h_ => h_) (.cons (t := 8) rfl (fun _ h_ => h_.elim) (.cons (t := 9) rfl (fun _ h_ => h_.elim) .nil))))))) h
  · replace h := h.2 hb_
    refine wp_exit ?_
    exact J9 out16 done18 og17 a s (hL.keep (.cons (t := 1) rfl (fun _ h_ => h_.elim) (.cons (t := 2) rfl (fun _ h_ => h_.elim) (.cons (t := 7) rfl (fun _ _ h_ => h_) (.cons (t := 8) rfl (fun _ h_ => h_.elim) .nil))))) h
theorem ref14_Open_ok {d_ : SDesc} {s_ : (List SItem)} {r_ : (List (List SItem))} (h : ref14_Open d_ s_ r_) : Fn Tryd.prog 22 [(Pd.rep En.SDesc d_), (Pd.rep (En.slice En.SItem) s_)] (Ro (En.slice En.SItem) 26 r_) := by
  unfold ref14_Open at h
  refine fn_of Tryd.func22 rfl Tryd.ntmps22 (by rfl) (by simp) fun s0 a hL => ?_
  refine wp_seq_k fun K1 hK1 => ?_
  refine rg ?_
  refine st 2 (t_box (o_t 0 rfl) rfl rfl) rfl rfl hL fun a s e_ hL => ?_
  refine st 4 (t_assign (o_nil (E := (En.slice En.SItem)) (N := s0.w.heap.size) (te := 26)) rfl rfl) rfl rfl hL fun a s e_ hL => ?_
  refine en' ?_
  show K1 a s.w
  refine hK1 _ _ ?_
  refine wp_seq_k fun K2 hK2 => ?_
  obtain ⟨e3, h4, h⟩ := h
  refine rg ?_
  refine st 11 (t_move (o_t 1 rfl) rfl rfl) rfl rfl hL fun a s e_ hL => ?_
  refine st 12 (t_idx (o_t 11 rfl) (o_i (k := .i64) (by decide)) h4 Tryd.underlying26 ty43 rfl rfl) rfl rfl hL fun a s e_ hL => ?_
  refine st 13 (t_load ty43 (o_t 12 rfl) rfl rfl) rfl rfl hL fun a s e_ hL => ?_
  refine st_alloc En.SItem (z := (0, 0, 0, 0)) 5 hL tyz43 rfl rfl rfl rfl fun a s g5 hg_ hL => ?_
  refine st_stb (L' := [(1, (Pd.rep (En.slice En.SItem) s_)), (2, (Pd.ptr En.SDesc d_))]) 5 hL rfl (o_t 13 rfl) ty43 rfl rfl rfl (.cons (t := 1) rfl (fun _ h_ => h_.elim) (.cons (t := 2) rfl (fun _ h_ => h_.elim) .nil)) fun s hL => ?_
  refine en' ?_
  show K2 a s.w
  refine hK2 _ _ ?_
  refine wp_seq_k fun K6 hK6 => ?_
  obtain ⟨h7, h⟩ := h
  refine rg ?_
  refine st 14 (t_move (o_t 1 rfl) rfl rfl) rfl rfl hL fun a s e_ hL => ?_
  refine st 15 (t_from (o_t 14 rfl) (o_i (k := .i64) (by decide)) h7 Tryd.underlying26 ty43 rfl rfl) rfl rfl hL fun a s e_ hL => ?_
  refine st 6 (t_assign (o_t 15 rfl) rfl rfl) rfl rfl hL fun a s e_ hL => ?_
  refine en' ?_
  show K6 a s.w
  refine hK6 _ _ ?_
  refine wp_seq_k fun K8 hK8 => ?_
  obtain ⟨e9, h10, h⟩ := h
  refine rg ?_
  refine st 16 (t_fa (off := 0) (o_t 2 rfl) Tryd.underlying24 rfl (prt_solo (prt_all _ _)) rfl ty22 rfl rfl) rfl rfl hL fun a s e_ hL => ?_
  refine st 17 (t_load ty22 (o_t 16 rfl) rfl rfl) rfl rfl hL fun a s e_ hL => ?_
  refine st 18 (t_fab (off := 1) (o_t 5 rfl) Tryd.underlying43 rfl (prt_snd (prt_fst (prt_all _ _)) rfl) rfl ty3 rfl rfl) rfl rfl hL fun a s e_ hL => ?_
  refine st 19 (t_loado ty3 (o_t 18 rfl) rfl rfl) rfl rfl hL fun a s e_ hL => ?_
  refine st 20 (t_idx (o_t 17 rfl) (o_t 19 rfl) h10 Tryd.underlying22 ty48 rfl rfl) rfl rfl hL fun a s e_ hL => ?_
  refine st 21 (t_load ty48 (o_t 20 rfl) rfl rfl) rfl rfl hL fun a s e_ hL => ?_
  have lt_d12 := hL.blt 5 rfl
  refine st_alloc En.SNode (z := (0, 0, 0, 0, 0, (0#256), ([] : Str))) 7 hL tyz48 rfl rfl rfl rfl fun a s g11 hg_ hL => ?_
  have d12 : Dis (some g11) (some g5) := Dis.newg hg_ lt_d12
  refine st_stb (L' := [(5, (Pd.box En.SItem s0.w.heap.size g5 e3)), (6, (Pd.rep (En.slice En.SItem) (s_.drop (1 : Int).toNat)))]) 7 hL rfl (o_t 21 rfl) ty48 rfl rfl rfl (.cons (t := 5) rfl (Dis.bx (Dis.symm d12)) (.cons (t := 6) rfl (fun _ h_ => h_.elim) .nil)) fun s hL => ?_
  refine en' ?_
  show K8 a s.w
  refine hK8 _ _ ?_
  refine wp_seq_k fun K13 hK13 => ?_
  refine rg ?_
  refine st 22 (t_fab (off := 1) (o_t 7 rfl) Tryd.underlying48 rfl (prt_snd (prt_fst (prt_all _ _)) rfl) rfl ty3 rfl rfl) rfl rfl hL fun a s e_ hL => ?_
  refine st 23 (t_loado ty3 (o_t 22 rfl) rfl rfl) rfl rfl hL fun a s e_ hL => ?_
  refine st 24 (t_build (x := (1, e9.2.1, 0, 0)) (ps := [(0, .const (.int .i64 1)), (1, .tmp 23)]) tyz43 rfl stt43 (.cons (i := 0) (o_i (k := .i64) (by decide)) rfl (sub_fst (sub_all _ _ _)) (.cons (i := 1) (o_t 23 rfl) rfl (sub_snd (sub_fst (sub_all _ _ _)) rfl) .nil)) rfl rfl) rfl rfl hL fun a s e_ hL => ?_
  have lt_d16 := hL.blt 7 rfl
  have lt_d15 := hL.blt 5 rfl
  refine st_alloc En.SItem (z := (0, 0, 0, 0)) 8 hL tyz43 rfl rfl rfl rfl fun a s g14 hg_ hL => ?_
  have d15 : Dis (some g14) (some g5) := Dis.newg hg_ lt_d15
  have d16 : Dis (some g14) (some g11) := Dis.newg hg_ lt_d16
  refine st_stb (L' := [(5, (Pd.box En.SItem s0.w.heap.size g5 e3)), (6, (Pd.rep (En.slice En.SItem) (s_.drop (1 : Int).toNat))), (7, (Pd.box En.SNode s0.w.heap.size g11 e9))]) 8 hL rfl (o_t 24 rfl) ty43 rfl rfl rfl (.cons (t := 5) rfl (Dis.bx (Dis.symm d15)) (.cons (t := 6) rfl (fun _ h_ => h_.elim) (.cons (t := 7) rfl (Dis.bx (Dis.symm d16)) .nil))) fun s hL => ?_
  refine en' ?_
  show K13 a s.w
  refine hK13 _ _ ?_
  refine wp_seq_k fun K17 hK17 => ?_
  refine rg ?_
  refine st 25 (t_fab (off := 2) (o_t 7 rfl) Tryd.underlying48 rfl (prt_snd (prt_snd (prt_fst (prt_all _ _)) rfl) rfl) rfl ty3 rfl rfl) rfl rfl hL fun a s e_ hL => ?_
  refine st 26 (t_loado ty3 (o_t 25 rfl) rfl rfl) rfl rfl hL fun a s e_ hL => ?_
  refine st 27 (t_build (x := (1, e9.2.2.1, 0, 0)) (ps := [(0, .const (.int .i64 1)), (1, .tmp 26)]) tyz43 rfl stt43 (.cons (i := 0) (o_i (k := .i64) (by decide)) rfl (sub_fst (sub_all _ _ _)) (.cons (i := 1) (o_t 26 rfl) rfl (sub_snd (sub_fst (sub_all _ _ _)) rfl) .nil)) rfl rfl) rfl rfl hL fun a s e_ hL => ?_
  have lt_d21 := hL.blt 8 rfl
  have lt_d20 := hL.blt 7 rfl
  have lt_d19 := hL.blt 5 rfl
  refine st_alloc En.SItem (z := (0, 0, 0, 0)) 9 hL tyz43 rfl rfl rfl rfl fun a s g18 hg_ hL => ?_
  have d19 : Dis (some g18) (some g5) := Dis.newg hg_ lt_d19
  have d20 : Dis (some g18) (some g11) := Dis.newg hg_ lt_d20
  have d21 : Dis (some g18) (some g14) := Dis.newg hg_ lt_d21
  refine st_stb (L' := [(5, (Pd.box En.SItem s0.w.heap.size g5 e3)), (6, (Pd.rep (En.slice En.SItem) (s_.drop (1 : Int).toNat))), (7, (Pd.box En.SNode s0.w.heap.size g11 e9)), (8, (Pd.box En.SItem s0.w.heap.size g14 (1, e9.2.1, 0, 0)))]) 9 hL rfl (o_t 27 rfl) ty43 rfl rfl rfl (.cons (t := 5) rfl (Dis.bx (Dis.symm d19)) (.cons (t := 6) rfl (fun _ h_ => h_.elim) (.cons (t := 7) rfl (Dis.bx (Dis.symm d20)) (.cons (t := 8) rfl (Dis.bx (Dis.symm d21)) .nil)))) fun s hL => ?_
  refine en' ?_
  show K17 a s.w
  refine hK17 _ _ ?_
  refine wp_seq_k fun K22 hK22 => ?_
  refine rg ?_
  refine st 10 (t_assign (o_nil (E := (En.slice En.SItem)) (N := s0.w.heap.size) (te := 26)) rfl rfl) rfl rfl hL fun a s e_ hL => ?_
  refine en' ?_
  show K22 a s.w
  refine hK22 _ _ ?_
  refine wp_seq_k fun K23 hK23 => ?_
  refine wp_seq_k fun K24 hK24 => ?_
  refine rg ?_
  refine st 28 (t_fab (off := 0) (o_t 5 rfl) Tryd.underlying43 rfl (prt_fst (prt_all _ _)) rfl ty3 rfl rfl) rfl rfl hL fun a s e_ hL => ?_
  refine st 29 (t_loado ty3 (o_t 28 rfl) rfl rfl) rfl rfl hL fun a s e_ hL => ?_
  refine st 30 (t_eqi (o_t 29 rfl) (o_i (k := .i64) (by decide)) rfl rfl) rfl rfl hL fun a s e_ hL => ?_
  refine en' ?_
  show K24 a s.w
  refine hK24 _ _ ?_
  refine cnd hL rfl (fun hb_ => ?_) (fun hb_ => ?_)
  · replace h := h.1 hb_
    refine wp_seq_k fun K25 hK25 => ?_
    refine wp_seq_k fun K26 hK26 => ?_
    refine rg ?_
    refine st 31 (t_fab (off := 2) (o_t 5 rfl) Tryd.underlying43 rfl (prt_snd (prt_snd (prt_fst (prt_all _ _)) rfl) rfl) rfl ty3 rfl rfl) rfl rfl hL fun a s e_ hL => ?_
    refine st 32 (t_loado ty3 (o_t 31 rfl) rfl rfl) rfl rfl hL fun a s e_ hL => ?_
    refine st 33 (t_eqi (o_t 32 rfl) (o_i (k := .i64) (by decide)) rfl rfl) rfl rfl hL fun a s e_ hL => ?_
    refine en' ?_
    show K26 a s.w
    refine hK26 _ _ ?_
    have J29 : ∀ (out27 : (List (List SItem))) (og28 : Option Nat) (a : Act) (s : St), Has N0 143 s0 a s [(10, (Pd.row (En.slice En.SItem) s0.w.heap.size 26 og28 out27))] → ((ref14_Open.j1 r_) out27) → K25 a s.w := by
      intro out27 og28 a s hL h
      unfold ref14_Open.j1 at h
      show K25 a s.w
      refine hK25 _ _ ?_
      refine wp_seq_k fun K30 hK30 => ?_
      refine rg ?_
      refine st 39 (t_move (o_t 10 rfl) rfl rfl) rfl rfl hL fun a s e_ hL => ?_
      refine st 4 (t_assign (o_t 39 rfl) rfl rfl) rfl rfl hL fun a s e_ hL => ?_
      refine en' ?_
      show K30 a s.w
      refine hK30 _ _ ?_
      subst h
      exact wp_ret (reto rfl hL rfl)
    refine cnd hL rfl (fun hb_ => ?_) (fun hb_ => ?_)
    · replace h := h.1 hb_
      obtain ⟨r31, h32, h33, h⟩ := h
      refine rg ?_
      refine st 34 (t_move (o_t 10 rfl) rfl rfl) rfl rfl hL fun a s e_ hL => ?_
      refine st 35 (t_move (o_t 6 rfl) rfl rfl) rfl rfl hL fun a s e_ hL => ?_
      refine st 36 (t_call ((ref14_ahead_ok h32).frz) (xs := [.const (.slice none 0 0), .tmp 35]) (.cons o_nilr (.cons (o_t 35 rfl) .nil)) rfl rfl) rfl rfl hL fun a s e_ hL => ?_
      refine st 37 (t_lit (xs := [.tmp 36]) (.cons (o_t 36 rfl) .nil) Tryd.underlying33 ty26 rfl rfl (by decide) rfl rfl) rfl rfl hL fun a s e_ hL => ?_
      refine st_app (L' := [(10, (Pd.row (En.slice En.SItem) s0.w.heap.size 26 none ([] : (List (List SItem)))))]) 38 hL (o_t 34 rfl) (o_t 37 rfl) Tryd.underlying33 ty26 h33 rfl rfl rfl rfl (.cons (t := 10) rfl no_own .nil) fun a s og34 hg_ hL => ?_
      refine st 10 (t_assign (o_t 38 rfl) rfl rfl) rfl rfl hL fun a s e_ hL => ?_
      refine en' ?_
      exact J29 (([] : (List (List SItem))) ++ [r31]) og34 a s (hL.keep (.cons (t := 10) rfl (fun _ _ h_ => h_) .nil)) h
    · replace h := h.2 hb_
      refine wp_skip ?_
      exact J29 ([] : (List (List SItem))) none a s (hL.keep (.cons (t := 10) rfl (fun _ _ h_ => h_) .nil)) h
  · replace h := h.2 hb_
    refine wp_skip ?_
    show K23 a s.w
    refine hK23 _ _ ?_
    refine wp_seq_k fun K35 hK35 => ?_
    refine wp_seq_k fun K36 hK36 => ?_
    refine rg ?_
    refine st 40 (t_fab (off := 0) (o_t 5 rfl) Tryd.underlying43 rfl (prt_fst (prt_all _ _)) rfl ty3 rfl rfl) rfl rfl hL fun a s e_ hL => ?_
    refine st 41 (t_loado ty3 (o_t 40 rfl) rfl rfl) rfl rfl hL fun a s e_ hL => ?_
    refine st 42 (t_eqi (o_t 41 rfl) (o_i (k := .i64) (by decide)) rfl rfl) rfl rfl hL fun a s e_ hL => ?_
    refine en' ?_
    show K36 a s.w
    refine hK36 _ _ ?_
    refine cnd hL rfl (fun hb_ => ?_) (fun hb_ => ?_)
    · replace h := h.1 hb_
      refine wp_seq_k fun K37 hK37 => ?_
      refine wp_seq_k fun K38 hK38 => ?_
      refine rg ?_
      refine st 43 (t_fab (off := 2) (o_t 5 rfl) Tryd.underlying43 rfl (prt_snd (prt_snd (prt_fst (prt_all _ _)) rfl) rfl) rfl ty3 rfl rfl) rfl rfl hL fun a s e_ hL => ?_
      refine st 44 (t_loado ty3 (o_t 43 rfl) rfl rfl) rfl rfl hL fun a s e_ hL => ?_
      refine st 45 (t_eqi (o_t 44 rfl) (o_i (k := .i64) (by decide)) rfl rfl) rfl rfl hL fun a s e_ hL => ?_
      refine en' ?_
      show K38 a s.w
      refine hK38 _ _ ?_
      have J41 : ∀ (out39 : (List (List SItem))) (og40 : Option Nat) (a : Act) (s : St), Has N0 143 s0 a s [(5, (Pd.box En.SItem s0.w.heap.size g5 e3)), (6, (Pd.rep (En.slice En.SItem) (s_.drop (1 : Int).toNat))), (8, (Pd.box En.SItem s0.w.heap.size g14 (1, e9.2.1, 0, 0))), (10, (Pd.row (En.slice En.SItem) s0.w.heap.size 26 og40 out39))] → Dis (some g5) (some g14) → Dis (some g5) og40 → Dis (some g14) og40 → ((ref14_Open.j3 s_ r_ e3 e9) out39) → K37 a s.w := by
        intro out39 og40 a s hL d42 d43 d44 h
        unfold ref14_Open.j3 at h
        show K37 a s.w
        refine hK37 _ _ ?_
        refine wp_seq_k fun K45 hK45 => ?_
        refine wp_seq_k fun K46 hK46 => ?_
        refine rg ?_
        refine st 51 (t_fab (off := 3) (o_t 5 rfl) Tryd.underlying43 rfl (prt_snd (prt_snd (prt_snd (prt_all _ _) rfl) rfl) rfl) rfl ty3 rfl rfl) rfl rfl hL fun a s e_ hL => ?_
        refine st 52 (t_loado ty3 (o_t 51 rfl) rfl rfl) rfl rfl hL fun a s e_ hL => ?_
        refine st 53 (t_gtr (o_t 52 rfl) (o_i (k := .i64) (by decide)) rfl rfl) rfl rfl hL fun a s e_ hL => ?_
        refine en' ?_
        show K46 a s.w
        refine hK46 _ _ ?_
        have J49 : ∀ (out47 : (List (List SItem))) (og48 : Option Nat) (a : Act) (s : St), Has N0 143 s0 a s [(10, (Pd.row (En.slice En.SItem) s0.w.heap.size 26 og48 out47))] → ((ref14_Open.j2 r_) out47) → K45 a s.w := by
          intro out47 og48 a s hL h
          unfold ref14_Open.j2 at h
          show K45 a s.w
          refine hK45 _ _ ?_
          refine wp_seq_k fun K50 hK50 => ?_
          refine rg ?_
          refine st 71 (t_move (o_t 10 rfl) rfl rfl) rfl rfl hL fun a s e_ hL => ?_
          refine st 4 (t_assign (o_t 71 rfl) rfl rfl) rfl rfl hL fun a s e_ hL => ?_
          refine en' ?_
          show K50 a s.w
          refine hK50 _ _ ?_
          subst h
          exact wp_ret (reto rfl hL rfl)
        refine cnd hL rfl (fun hb_ => ?_) (fun hb_ => ?_)
        · replace h := h.1 hb_
          obtain ⟨h51, h52, r53, h54, h55, h⟩ := h
          refine rg ?_
          refine st 54 (t_move (o_t 10 rfl) rfl rfl) rfl rfl hL fun a s e_ hL => ?_
          refine st 55 (t_loadb ty43 (o_t 8 rfl) rfl rfl) rfl rfl hL fun a s e_ hL => ?_
          refine st 56 (t_fab (off := 1) (o_t 5 rfl) Tryd.underlying43 rfl (prt_snd (prt_fst (prt_all _ _)) rfl) rfl ty3 rfl rfl) rfl rfl hL fun a s e_ hL => ?_
          refine st 57 (t_loado ty3 (o_t 56 rfl) rfl rfl) rfl rfl hL fun a s e_ hL => ?_
          refine st 58 (t_fab (off := 2) (o_t 5 rfl) Tryd.underlying43 rfl (prt_snd (prt_snd (prt_fst (prt_all _ _)) rfl) rfl) rfl ty3 rfl rfl) rfl rfl hL fun a s e_ hL => ?_
          refine st 59 (t_loado ty3 (o_t 58 rfl) rfl rfl) rfl rfl hL fun a s e_ hL => ?_
          refine st 60 (t_sub (o_t 59 rfl) (o_i (k := .i64) (by decide)) h51 rfl rfl) rfl rfl hL fun a s e_ hL => ?_
          refine st 61 (t_max (o_i (k := .i64) (by decide)) (o_t 60 rfl) rfl rfl) rfl rfl hL fun a s e_ hL => ?_
          refine st 62 (t_fab (off := 3) (o_t 5 rfl) Tryd.underlying43 rfl (prt_snd (prt_snd (prt_snd (prt_all _ _) rfl) rfl) rfl) rfl ty3 rfl rfl) rfl rfl hL fun a s e_ hL => ?_
          refine st 63 (t_loado ty3 (o_t 62 rfl) rfl rfl) rfl rfl hL fun a s e_ hL => ?_
          refine st 64 (t_sub (o_t 63 rfl) (o_i (k := .i64) (by decide)) h52 rfl rfl) rfl rfl hL fun a s e_ hL => ?_
          refine st 65 (t_build (x := (2, e3.2.1, (max 0 (e3.2.2.1 - 1)), e3.2.2.2 - 1)) (ps := [(0, .const (.int .i64 2)), (1, .tmp 57), (2, .tmp 61), (3, .tmp 64)]) tyz43 rfl stt43 (.cons (i := 0) (o_i (k := .i64) (by decide)) rfl (sub_fst (sub_all _ _ _)) (.cons (i := 1) (o_t 57 rfl) rfl (sub_snd (sub_fst (sub_all _ _ _)) rfl) (.cons (i := 2) (o_t 61 rfl) rfl (sub_snd (sub_snd (sub_fst (sub_all _ _ _)) rfl) rfl) (.cons (i := 3) (o_t 64 rfl) rfl (sub_snd (sub_snd (sub_snd (sub_all _ _ _) rfl) rfl) rfl) .nil)))) rfl rfl) rfl rfl hL fun a s e_ hL => ?_
          refine st 66 (t_lit (xs := [.tmp 55, .tmp 65]) (.cons (o_t 55 rfl) (.cons (o_t 65 rfl) .nil)) Tryd.underlying25 ty43 rfl rfl (by decide) rfl rfl) rfl rfl hL fun a s e_ hL => ?_
          refine st 67 (t_move (o_t 6 rfl) rfl rfl) rfl rfl hL fun a s e_ hL => ?_
          refine st 68 (t_call ((ref14_ahead_ok h54).frz) (xs := [.tmp 66, .tmp 67]) (.cons (o_t 66 rfl) (.cons (o_t 67 rfl) .nil)) rfl rfl) rfl rfl hL fun a s e_ hL => ?_
          refine st 69 (t_lit (xs := [.tmp 68]) (.cons (o_t 68 rfl) .nil) Tryd.underlying33 ty26 rfl rfl (by decide) rfl rfl) rfl rfl hL fun a s e_ hL => ?_
          refine st_app (L' := []) 70 hL (o_t 54 rfl) (o_t 69 rfl) Tryd.underlying33 ty26 h55 rfl rfl rfl rfl .nil fun a s og56 hg_ hL => ?_
          refine st 10 (t_assign (o_t 70 rfl) rfl rfl) rfl rfl hL fun a s e_ hL => ?_
          refine en' ?_
          exact J49 (out39 ++ [r53]) og56 a s (hL.keep (.cons (t := 10) rfl (fun _ _ h_ => h_) .nil)) h
        · replace h := h.2 hb_
          refine wp_skip ?_
          exact J49 out39 og40 a s (hL.keep (.cons (t := 10) rfl (fun _ _ h_ => h_) .nil)) h
      refine cnd hL rfl (fun hb_ => ?_) (fun hb_ => ?_)
      · replace h := h.1 hb_
        obtain ⟨r57, h58, h59, h⟩ := h
        refine rg ?_
        refine st 46 (t_move (o_t 10 rfl) rfl rfl) rfl rfl hL fun a s e_ hL => ?_
        refine st 47 (t_move (o_t 6 rfl) rfl rfl) rfl rfl hL fun a s e_ hL => ?_
        refine st 48 (t_call ((ref14_ahead_ok h58).frz) (xs := [.const (.slice none 0 0), .tmp 47]) (.cons o_nilr (.cons (o_t 47 rfl) .nil)) rfl rfl) rfl rfl hL fun a s e_ hL => ?_
        refine st 49 (t_lit (xs := [.tmp 48]) (.cons (o_t 48 rfl) .nil) Tryd.underlying33 ty26 rfl rfl (by decide) rfl rfl) rfl rfl hL fun a s e_ hL => ?_
        have lt_og60_0 := hL.blt 5 rfl
        have lt_og60_1 := hL.blt 8 rfl
        refine st_app (L' := [(5, (Pd.box En.SItem s0.w.heap.size g5 e3)), (6, (Pd.rep (En.slice En.SItem) (s_.drop (1 : Int).toNat))), (8, (Pd.box En.SItem s0.w.heap.size g14 (1, e9.2.1, 0, 0))), (10, (Pd.row (En.slice En.SItem) s0.w.heap.size 26 none ([] : (List (List SItem)))))]) 50 hL (o_t 46 rfl) (o_t 49 rfl) Tryd.underlying33 ty26 h59 rfl rfl rfl rfl (.cons (t := 5) rfl (Dis.bx (Dis.symm Dis.none)) (.cons (t := 6) rfl (fun _ h_ => h_.elim) (.cons (t := 8) rfl (Dis.bx (Dis.symm Dis.none)) (.cons (t := 10) rfl no_own .nil)))) fun a s og60 hg_ hL => ?_
        have d61 : Dis og60 (some g5) := Dis.app hg_ Dis.none lt_og60_0
        have d62 : Dis og60 (some g14) := Dis.app hg_ Dis.none lt_og60_1
        refine st 10 (t_assign (o_t 50 rfl) rfl rfl) rfl rfl hL fun a s e_ hL => ?_
        refine en' ?_
        exact J41 (([] : (List (List SItem))) ++ [r57]) og60 a s (hL.keep (.cons (t := 5) rfl (fun _ _ h_ => h_) (.cons (t := 6) rfl (fun _ h_ => h_.elim) (.cons (t := 8) rfl (fun _ _ h_ => h_) (.cons (t := 10) rfl (fun _ _ h_ => h_) .nil))))) (Dis.symm d15) (Dis.symm d61) (Dis.symm d62) h
      · replace h := h.2 hb_
        refine wp_skip ?_
        exact J41 ([] : (List (List SItem))) none a s (hL.keep (.cons (t := 5) rfl (fun _ _ h_ => h_) (.cons (t := 6) rfl (fun _ h_ => h_.elim) (.cons (t := 8) rfl (fun _ _ h_ => h_) (.cons (t := 10) rfl (fun _ _ h_ => h_) .nil))))) (Dis.symm d15) (Dis.symm Dis.none) (Dis.symm Dis.none) h
    · replace h := h.2 hb_
      refine wp_skip ?_
      show K35 a s.w
      refine hK35 _ _ ?_
      refine wp_seq_k fun K63 hK63 => ?_
      refine wp_seq_k fun K64 hK64 => ?_
      refine rg ?_
      refine st 72 (t_fab (off := 0) (o_t 7 rfl) Tryd.underlying48 rfl (prt_fst (prt_all _ _)) rfl ty3 rfl rfl) rfl rfl hL fun a s e_ hL => ?_
      refine st 73 (t_loado ty3 (o_t 72 rfl) rfl rfl) rfl rfl hL fun a s e_ hL => ?_
      refine en' ?_
      show K64 a s.w
      refine hK64 _ _ ?_
      refine wp_block ?_
      refine wp_seq_k fun K65 hK65 => ?_
      refine rg ?_
      refine st 75 (t_eqi (o_t 73 rfl) (o_i (k := .i64) (by decide)) rfl rfl) rfl rfl hL fun a s e_ hL => ?_
      refine st 74 (t_assign (o_t 75 rfl) rfl rfl) rfl rfl hL fun a s e_ hL => ?_
      refine en' ?_
      show K65 a s.w
      refine hK65 _ _ ?_
      refine cnd hL rfl (fun hb_ => ?_) (fun hb_ => ?_)
      · replace h := h.1 hb_
        obtain ⟨r66, h67, h68, h⟩ := h
        refine rg ?_
        refine st 76 (t_move (o_t 10 rfl) rfl rfl) rfl rfl hL fun a s e_ hL => ?_
        refine st 77 (t_move (o_t 6 rfl) rfl rfl) rfl rfl hL fun a s e_ hL => ?_
        refine st 78 (t_call ((ref14_ahead_ok h67).frz) (xs := [.const (.slice none 0 0), .tmp 77]) (.cons o_nilr (.cons (o_t 77 rfl) .nil)) rfl rfl) rfl rfl hL fun a s e_ hL => ?_
        refine st 79 (t_lit (xs := [.tmp 78]) (.cons (o_t 78 rfl) .nil) Tryd.underlying33 ty26 rfl rfl (by decide) rfl rfl) rfl rfl hL fun a s e_ hL => ?_
        refine st_app (L' := [(10, (Pd.row (En.slice En.SItem) s0.w.heap.size 26 none ([] : (List (List SItem)))))]) 80 hL (o_t 76 rfl) (o_t 79 rfl) Tryd.underlying33 ty26 h68 rfl rfl rfl rfl (.cons (t := 10) rfl no_own .nil) fun a s og69 hg_ hL => ?_
        refine st 10 (t_assign (o_t 80 rfl) rfl rfl) rfl rfl hL fun a s e_ hL => ?_
        refine en' ?_
        show K63 a s.w
        refine hK63 _ _ ?_
        refine wp_seq_k fun K70 hK70 => ?_
        refine rg ?_
        refine st 142 (t_move (o_t 10 rfl) rfl rfl) rfl rfl hL fun a s e_ hL => ?_
        refine st 4 (t_assign (o_t 142 rfl) rfl rfl) rfl rfl hL fun a s e_ hL => ?_
        refine en' ?_
        show K70 a s.w
        refine hK70 _ _ ?_
        subst h
        exact wp_ret (reto rfl hL rfl)
      · replace h := h.2 hb_
        refine wp_seq_k fun K71 hK71 => ?_
        refine rg ?_
        refine st 82 (t_eqi (o_t 73 rfl) (o_i (k := .i64) (by decide)) rfl rfl) rfl rfl hL fun a s e_ hL => ?_
        refine st 81 (t_assign (o_t 82 rfl) rfl rfl) rfl rfl hL fun a s e_ hL => ?_
        refine en' ?_
        show K71 a s.w
        refine hK71 _ _ ?_
        refine cnd hL rfl (fun hb_ => ?_) (fun hb_ => ?_)
        · replace h := h.1 hb_
          obtain ⟨r72, h73, h74, h⟩ := h
          refine rg ?_
          refine st 83 (t_move (o_t 10 rfl) rfl rfl) rfl rfl hL fun a s e_ hL => ?_
          refine st 84 (t_fab (off := 1) (o_t 5 rfl) Tryd.underlying43 rfl (prt_snd (prt_fst (prt_all _ _)) rfl) rfl ty3 rfl rfl) rfl rfl hL fun a s e_ hL => ?_
          refine st 85 (t_loado ty3 (o_t 84 rfl) rfl rfl) rfl rfl hL fun a s e_ hL => ?_
          refine st 86 (t_build (x := (3, e3.2.1, 0, 0)) (ps := [(0, .const (.int .i64 3)), (1, .tmp 85)]) tyz43 rfl stt43 (.cons (i := 0) (o_i (k := .i64) (by decide)) rfl (sub_fst (sub_all _ _ _)) (.cons (i := 1) (o_t 85 rfl) rfl (sub_snd (sub_fst (sub_all _ _ _)) rfl) .nil)) rfl rfl) rfl rfl hL fun a s e_ hL => ?_
          refine st 87 (t_lit (xs := [.tmp 86]) (.cons (o_t 86 rfl) .nil) Tryd.underlying25 ty43 rfl rfl (by decide) rfl rfl) rfl rfl hL fun a s e_ hL => ?_
          refine st 88 (t_move (o_t 6 rfl) rfl rfl) rfl rfl hL fun a s e_ hL => ?_
          refine st 89 (t_call ((ref14_ahead_ok h73).frz) (xs := [.tmp 87, .tmp 88]) (.cons (o_t 87 rfl) (.cons (o_t 88 rfl) .nil)) rfl rfl) rfl rfl hL fun a s e_ hL => ?_
          refine st 90 (t_lit (xs := [.tmp 89]) (.cons (o_t 89 rfl) .nil) Tryd.underlying33 ty26 rfl rfl (by decide) rfl rfl) rfl rfl hL fun a s e_ hL => ?_
          refine st_app (L' := [(10, (Pd.row (En.slice En.SItem) s0.w.heap.size 26 none ([] : (List (List SItem)))))]) 91 hL (o_t 83 rfl) (o_t 90 rfl) Tryd.underlying33 ty26 h74 rfl rfl rfl rfl (.cons (t := 10) rfl no_own .nil) fun a s og75 hg_ hL => ?_
          refine st 10 (t_assign (o_t 91 rfl) rfl rfl) rfl rfl hL fun a s e_ hL => ?_
          refine en' ?_
          show K63 a s.w
          refine hK63 _ _ ?_
          refine wp_seq_k fun K76 hK76 => ?_
          refine rg ?_
          refine st 142 (t_move (o_t 10 rfl) rfl rfl) rfl rfl hL fun a s e_ hL => ?_
          refine st 4 (t_assign (o_t 142 rfl) rfl rfl) rfl rfl hL fun a s e_ hL => ?_
          refine en' ?_
          show K76 a s.w
          refine hK76 _ _ ?_
          subst h
          exact wp_ret (reto rfl hL rfl)
        · replace h := h.2 hb_
          refine wp_seq_k fun K77 hK77 => ?_
          refine rg ?_
          refine st 93 (t_eqi (o_t 73 rfl) (o_i (k := .i64) (by decide)) rfl rfl) rfl rfl hL fun a s e_ hL => ?_
          refine st 92 (t_assign (o_t 93 rfl) rfl rfl) rfl rfl hL fun a s e_ hL => ?_
          refine en' ?_
          show K77 a s.w
          refine hK77 _ _ ?_
          refine cnd hL rfl (fun hb_ => ?_) (fun hb_ => ?_)
          · replace h := h.1 hb_
            obtain ⟨r78, h79, h80, h⟩ := h
            refine rg ?_
            refine st 94 (t_move (o_t 10 rfl) rfl rfl) rfl rfl hL fun a s e_ hL => ?_
            refine st 95 (t_loadb ty43 (o_t 8 rfl) rfl rfl) rfl rfl hL fun a s e_ hL => ?_
            refine st 96 (t_loadb ty43 (o_t 9 rfl) rfl rfl) rfl rfl hL fun a s e_ hL => ?_
            refine st 97 (t_lit (xs := [.tmp 95, .tmp 96]) (.cons (o_t 95 rfl) (.cons (o_t 96 rfl) .nil)) Tryd.underlying25 ty43 rfl rfl (by decide) rfl rfl) rfl rfl hL fun a s e_ hL => ?_
            refine st 98 (t_move (o_t 6 rfl) rfl rfl) rfl rfl hL fun a s e_ hL => ?_
            refine st 99 (t_call ((ref14_ahead_ok h79).frz) (xs := [.tmp 97, .tmp 98]) (.cons (o_t 97 rfl) (.cons (o_t 98 rfl) .nil)) rfl rfl) rfl rfl hL fun a s e_ hL => ?_
            refine st 100 (t_lit (xs := [.tmp 99]) (.cons (o_t 99 rfl) .nil) Tryd.underlying33 ty26 rfl rfl (by decide) rfl rfl) rfl rfl hL fun a s e_ hL => ?_
            refine st_app (L' := [(10, (Pd.row (En.slice En.SItem) s0.w.heap.size 26 none ([] : (List (List SItem)))))]) 101 hL (o_t 94 rfl) (o_t 100 rfl) Tryd.underlying33 ty26 h80 rfl rfl rfl rfl (.cons (t := 10) rfl no_own .nil) fun a s og81 hg_ hL => ?_
            refine st 10 (t_assign (o_t 101 rfl) rfl rfl) rfl rfl hL fun a s e_ hL => ?_
            refine en' ?_
            show K63 a s.w
            refine hK63 _ _ ?_
            refine wp_seq_k fun K82 hK82 => ?_
            refine rg ?_
            refine st 142 (t_move (o_t 10 rfl) rfl rfl) rfl rfl hL fun a s e_ hL => ?_
            refine st 4 (t_assign (o_t 142 rfl) rfl rfl) rfl rfl hL fun a s e_ hL => ?_
            refine en' ?_
            show K82 a s.w
            refine hK82 _ _ ?_
            subst h
            exact wp_ret (reto rfl hL rfl)
          · replace h := h.2 hb_
            refine wp_seq_k fun K83 hK83 => ?_
            refine rg ?_
            refine st 103 (t_eqi (o_t 73 rfl) (o_i (k := .i64) (by decide)) rfl rfl) rfl rfl hL fun a s e_ hL => ?_
            refine st 102 (t_assign (o_t 103 rfl) rfl rfl) rfl rfl hL fun a s e_ hL => ?_
            refine en' ?_
            show K83 a s.w
            refine hK83 _ _ ?_
            refine cnd hL rfl (fun hb_ => ?_) (fun hb_ => ?_)
            · replace h := h.1 hb_
              obtain ⟨r84, h85, r86, h87, h88, h⟩ := h
              refine rda follows 10 [(Pd.row (En.slice En.SItem) s0.w.heap.size 26 none ([] : (List (List SItem)))), (Pd.rep En.SItem (1, e9.2.1, 0, 0)), (Pd.rep (En.slice En.SItem) [(1, e9.2.1, 0, 0)]), (Pd.rep (En.slice En.SItem) (s_.drop (1 : Int).toNat)), (Pd.rep (En.slice En.SItem) r84), (Pd.rep En.SItem (1, e9.2.2.1, 0, 0)), (Pd.rep (En.slice En.SItem) [(1, e9.2.2.1, 0, 0)]), (Pd.rep (En.slice En.SItem) (s_.drop (1 : Int).toNat)), (Pd.rep (En.slice En.SItem) r86), (Pd.rep (En.slice (En.slice En.SItem)) [r84, r86])] hL (by kernel_rfl) rfl rfl ?_ ?_
              · refine AllT.cons (t_move (o_t 10 rfl) rfl rfl) ?_
                refine AllT.cons (t_loadb ty43 (o_t 8 rfl) rfl rfl) ?_
                refine AllT.cons (t_lit (xs := [.tmp 105]) (.cons (o_t 105 rfl) .nil) Tryd.underlying25 ty43 rfl rfl (by decide) rfl rfl) ?_
                refine AllT.cons (t_move (o_t 6 rfl) rfl rfl) ?_
                refine AllT.cons (t_call ((ref14_ahead_ok h85).frz) (xs := [.tmp 106, .tmp 107]) (.cons (o_t 106 rfl) (.cons (o_t 107 rfl) .nil)) rfl rfl) ?_
                refine AllT.cons (t_loadb ty43 (o_t 9 rfl) rfl rfl) ?_
                refine AllT.cons (t_lit (xs := [.tmp 109]) (.cons (o_t 109 rfl) .nil) Tryd.underlying25 ty43 rfl rfl (by decide) rfl rfl) ?_
                refine AllT.cons (t_move (o_t 6 rfl) rfl rfl) ?_
                refine AllT.cons (t_call ((ref14_ahead_ok h87).frz) (xs := [.tmp 110, .tmp 111]) (.cons (o_t 110 rfl) (.cons (o_t 111 rfl) .nil)) rfl rfl) ?_
                refine AllT.cons (t_lit (xs := [.tmp 108, .tmp 112]) (.cons (o_t 108 rfl) (.cons (o_t 112 rfl) .nil)) Tryd.underlying33 ty26 rfl rfl (by decide) rfl rfl) ?_
                exact AllT.nil
              intro a s e_ hL
              refine st_app (L' := [(10, (Pd.row (En.slice En.SItem) s0.w.heap.size 26 none ([] : (List (List SItem)))))]) 114 hL (o_t 104 rfl) (o_t 113 rfl) Tryd.underlying33 ty26 h88 rfl rfl rfl rfl (.cons (t := 10) rfl no_own .nil) fun a s og89 hg_ hL => ?_
              refine st 10 (t_assign (o_t 114 rfl) rfl rfl) rfl rfl hL fun a s e_ hL => ?_
              refine en' ?_
              show K63 a s.w
              refine hK63 _ _ ?_
              refine wp_seq_k fun K90 hK90 => ?_
              refine rg ?_
              refine st 142 (t_move (o_t 10 rfl) rfl rfl) rfl rfl hL fun a s e_ hL => ?_
              refine st 4 (t_assign (o_t 142 rfl) rfl rfl) rfl rfl hL fun a s e_ hL => ?_
              refine en' ?_
              show K90 a s.w
              refine hK90 _ _ ?_
              subst h
              exact wp_ret (reto rfl hL rfl)
            · replace h := h.2 hb_
              refine wp_seq_k fun K91 hK91 => ?_
              refine rg ?_
              refine st 116 (t_eqi (o_t 73 rfl) (o_i (k := .i64) (by decide)) rfl rfl) rfl rfl hL fun a s e_ hL => ?_
              refine st 115 (t_assign (o_t 116 rfl) rfl rfl) rfl rfl hL fun a s e_ hL => ?_
              refine en' ?_
              show K91 a s.w
              refine hK91 _ _ ?_
              refine cnd hL rfl (fun hb_ => ?_) (fun hb_ => ?_)
              · replace h := h.1 hb_
                obtain ⟨r92, h93, r94, h95, h96, h⟩ := h
                refine rda follows 9 [(Pd.row (En.slice En.SItem) s0.w.heap.size 26 none ([] : (List (List SItem)))), (Pd.rep (En.slice En.SItem) (s_.drop (1 : Int).toNat)), (Pd.rep (En.slice En.SItem) r92), (Pd.rep En.SItem (1, e9.2.1, 0, 0)), (Pd.rep En.SItem e3), (Pd.rep (En.slice En.SItem) [(1, e9.2.1, 0, 0), e3]), (Pd.rep (En.slice En.SItem) (s_.drop (1 : Int).toNat)), (Pd.rep (En.slice En.SItem) r94), (Pd.rep (En.slice (En.slice En.SItem)) [r92, r94])] hL (by kernel_rfl) rfl rfl ?_ ?_
                · refine AllT.cons (t_move (o_t 10 rfl) rfl rfl) ?_
                  refine AllT.cons (t_move (o_t 6 rfl) rfl rfl) ?_
                  refine AllT.cons (t_call ((ref14_ahead_ok h93).frz) (xs := [.const (.slice none 0 0), .tmp 118]) (.cons o_nilr (.cons (o_t 118 rfl) .nil)) rfl rfl) ?_
                  refine AllT.cons (t_loadb ty43 (o_t 8 rfl) rfl rfl) ?_
                  refine AllT.cons (t_loadb ty43 (o_t 5 rfl) rfl rfl) ?_
                  refine AllT.cons (t_lit (xs := [.tmp 120, .tmp 121]) (.cons (o_t 120 rfl) (.cons (o_t 121 rfl) .nil)) Tryd.underlying25 ty43 rfl rfl (by decide) rfl rfl) ?_
                  refine AllT.cons (t_move (o_t 6 rfl) rfl rfl) ?_
                  refine AllT.cons (t_call ((ref14_ahead_ok h95).frz) (xs := [.tmp 122, .tmp 123]) (.cons (o_t 122 rfl) (.cons (o_t 123 rfl) .nil)) rfl rfl) ?_
                  refine AllT.cons (t_lit (xs := [.tmp 119, .tmp 124]) (.cons (o_t 119 rfl) (.cons (o_t 124 rfl) .nil)) Tryd.underlying33 ty26 rfl rfl (by decide) rfl rfl) ?_
                  exact AllT.nil
                intro a s e_ hL
                refine st_app (L' := [(10, (Pd.row (En.slice En.SItem) s0.w.heap.size 26 none ([] : (List (List SItem)))))]) 126 hL (o_t 117 rfl) (o_t 125 rfl) Tryd.underlying33 ty26 h96 rfl rfl rfl rfl (.cons (t := 10) rfl no_own .nil) fun a s og97 hg_ hL => ?_
                refine st 10 (t_assign (o_t 126 rfl) rfl rfl) rfl rfl hL fun a s e_ hL => ?_
                refine en' ?_
                show K63 a s.w
                refine hK63 _ _ ?_
                refine wp_seq_k fun K98 hK98 => ?_
                refine rg ?_
                refine st 142 (t_move (o_t 10 rfl) rfl rfl) rfl rfl hL fun a s e_ hL => ?_
                refine st 4 (t_assign (o_t 142 rfl) rfl rfl) rfl rfl hL fun a s e_ hL => ?_
                refine en' ?_
                show K98 a s.w
                refine hK98 _ _ ?_
                subst h
                exact wp_ret (reto rfl hL rfl)
              · replace h := h.2 hb_
                refine wp_seq_k fun K99 hK99 => ?_
                refine rg ?_
                refine st 128 (t_eqi (o_t 73 rfl) (o_i (k := .i64) (by decide)) rfl rfl) rfl rfl hL fun a s e_ hL => ?_
                refine st 127 (t_assign (o_t 128 rfl) rfl rfl) rfl rfl hL fun a s e_ hL => ?_
                refine en' ?_
                show K99 a s.w
                refine hK99 _ _ ?_
                refine cnd hL rfl (fun hb_ => ?_) (fun hb_ => ?_)
                · replace h := h.1 hb_
                  obtain ⟨r100, h101, h102, h⟩ := h
                  refine rg ?_
                  refine st 129 (t_move (o_t 10 rfl) rfl rfl) rfl rfl hL fun a s e_ hL => ?_
                  refine st 130 (t_fab (off := 1) (o_t 5 rfl) Tryd.underlying43 rfl (prt_snd (prt_fst (prt_all _ _)) rfl) rfl ty3 rfl rfl) rfl rfl hL fun a s e_ hL => ?_
                  refine st 131 (t_loado ty3 (o_t 130 rfl) rfl rfl) rfl rfl hL fun a s e_ hL => ?_
                  refine st 132 (t_fab (off := 3) (o_t 7 rfl) Tryd.underlying48 rfl (prt_snd (prt_snd (prt_snd (prt_fst (prt_all _ _)) rfl) rfl) rfl) rfl ty3 rfl rfl) rfl rfl hL fun a s e_ hL => ?_
                  refine st 133 (t_loado ty3 (o_t 132 rfl) rfl rfl) rfl rfl hL fun a s e_ hL => ?_
                  refine st 134 (t_fab (off := 4) (o_t 7 rfl) Tryd.underlying48 rfl (prt_snd (prt_snd (prt_snd (prt_snd (prt_fst (prt_all _ _)) rfl) rfl) rfl) rfl) rfl ty3 rfl rfl) rfl rfl hL fun a s e_ hL => ?_
                  refine st 135 (t_loado ty3 (o_t 134 rfl) rfl rfl) rfl rfl hL fun a s e_ hL => ?_
                  refine st 136 (t_build (x := (2, e3.2.1, e9.2.2.2.1, e9.2.2.2.2.1)) (ps := [(0, .const (.int .i64 2)), (1, .tmp 131), (2, .tmp 133), (3, .tmp 135)]) tyz43 rfl stt43 (.cons (i := 0) (o_i (k := .i64) (by decide)) rfl (sub_fst (sub_all _ _ _)) (.cons (i := 1) (o_t 131 rfl) rfl (sub_snd (sub_fst (sub_all _ _ _)) rfl) (.cons (i := 2) (o_t 133 rfl) rfl (sub_snd (sub_snd (sub_fst (sub_all _ _ _)) rfl) rfl) (.cons (i := 3) (o_t 135 rfl) rfl (sub_snd (sub_snd (sub_snd (sub_all _ _ _) rfl) rfl) rfl) .nil)))) rfl rfl) rfl rfl hL fun a s e_ hL => ?_
                  refine st 137 (t_lit (xs := [.tmp 136]) (.cons (o_t 136 rfl) .nil) Tryd.underlying25 ty43 rfl rfl (by decide) rfl rfl) rfl rfl hL fun a s e_ hL => ?_
                  refine st 138 (t_move (o_t 6 rfl) rfl rfl) rfl rfl hL fun a s e_ hL => ?_
                  refine st 139 (t_call ((ref14_ahead_ok h101).frz) (xs := [.tmp 137, .tmp 138]) (.cons (o_t 137 rfl) (.cons (o_t 138 rfl) .nil)) rfl rfl) rfl rfl hL fun a s e_ hL => ?_
                  refine st 140 (t_lit (xs := [.tmp 139]) (.cons (o_t 139 rfl) .nil) Tryd.underlying33 ty26 rfl rfl (by decide) rfl rfl) rfl rfl hL fun a s e_ hL => ?_
                  refine st_app (L' := [(10, (Pd.row (En.slice En.SItem) s0.w.heap.size 26 none ([] : (List (List SItem)))))]) 141 hL (o_t 129 rfl) (o_t 140 rfl) Tryd.underlying33 ty26 h102 rfl rfl rfl rfl (.cons (t := 10) rfl no_own .nil) fun a s og103 hg_ hL => ?_
                  refine st 10 (t_assign (o_t 141 rfl) rfl rfl) rfl rfl hL fun a s e_ hL => ?_
                  refine en' ?_
                  show K63 a s.w
                  refine hK63 _ _ ?_
                  refine wp_seq_k fun K104 hK104 => ?_
                  refine rg ?_
                  refine st 142 (t_move (o_t 10 rfl) rfl rfl) rfl rfl hL fun a s e_ hL => ?_
                  refine st 4 (t_assign (o_t 142 rfl) rfl rfl) rfl rfl hL fun a s e_ hL => ?_
                  refine en' ?_
                  show K104 a s.w
                  refine hK104 _ _ ?_
                  subst h
                  exact wp_ret (reto rfl hL rfl)
                · replace h := h.2 hb_
                  refine wp_skip ?_
                  show K63 a s.w
                  refine hK63 _ _ ?_
                  refine wp_seq_k fun K105 hK105 => ?_
                  refine rg ?_
                  refine st 142 (t_move (o_t 10 rfl) rfl rfl) rfl rfl hL fun a s e_ hL => ?_
                  refine st 4 (t_assign (o_t 142 rfl) rfl rfl) rfl rfl hL fun a s e_ hL => ?_
                  refine en' ?_
                  show K105 a s.w
                  refine hK105 _ _ ?_
                  subst h
                  exact wp_ret (reto rfl hL rfl)
theorem ref14_into.n_ok (k_ : Nat) : ∀ {d_ : SDesc} {s_ : (List SItem)} {l_ : (List SBranch)} {r_ : (List SBranch)} (h : ref14_into.n k_ d_ s_ l_ r_), Fn Tryd.prog 48 [(Pd.rep En.SDesc d_), (Pd.rep (En.slice En.SItem) s_), (Pd.rep (En.slice En.SBranch) l_)] (Rq (Pd.rep (En.slice En.SBranch) r_)) := by
  induction k_ with
  | zero => intro d_ s_ l_ r_ h; exact h.elim
  | succ k_ ih_ =>
  intro d_ s_ l_ r_ h
  unfold ref14_into.n at h
  refine fn_of Tryd.func48 rfl Tryd.ntmps48 (by rfl) (by simp) fun s0 a hL => ?_
  refine wp_seq_k fun K1 hK1 => ?_
  refine rg ?_
  refine st 3 (t_box (o_t 0 rfl) rfl rfl) rfl rfl hL fun a s e_ hL => ?_
  refine st 6 (t_assign (o_nilr (E := En.SBranch)) rfl rfl) rfl rfl hL fun a s e_ hL => ?_
  refine en' ?_
  show K1 a s.w
  refine hK1 _ _ ?_
  refine wp_seq_k fun K2 hK2 => ?_
  refine wp_seq_k fun K3 hK3 => ?_
  obtain ⟨r4, h5, h⟩ := h
  refine rg ?_
  refine st 9 (t_load ty24 (o_t 3 rfl) rfl rfl) rfl rfl hL fun a s e_ hL => ?_
  refine st 10 (t_move (o_t 1 rfl) rfl rfl) rfl rfl hL fun a s e_ hL => ?_
  refine st 11 (t_call (ref14_Ready_ok h5) (xs := [.tmp 9, .tmp 10]) (.cons (o_t 9 rfl) (.cons (o_t 10 rfl) .nil)) rfl rfl) rfl rfl hL fun a s e_ hL => ?_
  refine en' ?_
  show K3 a s.w
  refine hK3 _ _ ?_
  refine cnd hL rfl (fun hb_ => ?_) (fun hb_ => ?_)
  · replace h := h.1 hb_
    refine wp_seq_k fun K6 hK6 => ?_
    obtain ⟨r7, h8, r9, h10, h⟩ := h
    refine rg ?_
    refine st 12 (t_move (o_t 2 rfl) rfl rfl) rfl rfl hL fun a s e_ hL => ?_
    refine st 13 (t_move (o_t 1 rfl) rfl rfl) rfl rfl hL fun a s e_ hL => ?_
    refine st 14 (t_call ((ref14_ahead_ok h8).frz) (xs := [.const (.slice none 0 0), .tmp 13]) (.cons o_nilr (.cons (o_t 13 rfl) .nil)) rfl rfl) rfl rfl hL fun a s e_ hL => ?_
    refine st 15 (t_call ((ref14_Add_ok h10).frz) (xs := [.tmp 12, .tmp 14, .const (.int .i64 1)]) (.cons (o_t 12 rfl) (.cons (o_t 14 rfl) (.cons (o_i (k := .i64) (by decide)) .nil))) rfl rfl) rfl rfl hL fun a s e_ hL => ?_
    refine st 6 (t_assign (o_t 15 rfl) rfl rfl) rfl rfl hL fun a s e_ hL => ?_
    refine en' ?_
    show K6 a s.w
    refine hK6 _ _ ?_
    subst h
    exact wp_ret (retq rfl hL rfl)
  · replace h := h.2 hb_
    refine wp_skip ?_
    show K2 a s.w
    refine hK2 _ _ ?_
    refine wp_seq_k fun K11 hK11 => ?_
    obtain ⟨r12, h13, h⟩ := h
    refine rg ?_
    refine st 16 (t_load ty24 (o_t 3 rfl) rfl rfl) rfl rfl hL fun a s e_ hL => ?_
    refine st 17 (t_move (o_t 1 rfl) rfl rfl) rfl rfl hL fun a s e_ hL => ?_
    refine st 18 (t_call ((ref14_Open_ok h13).frz) (xs := [.tmp 16, .tmp 17]) (.cons (o_t 16 rfl) (.cons (o_t 17 rfl) .nil)) rfl rfl) rfl rfl hL fun a s e_ hL => ?_
    refine st 7 (t_assign (o_t 18 rfl) rfl rfl) rfl rfl hL fun a s e_ hL => ?_
    refine en' ?_
    show K11 a s.w
    refine hK11 _ _ ?_
    refine wp_seq_k fun K14 hK14 => ?_
    refine wp_seq_k fun K15 hK15 => ?_
    refine rg ?_
    refine st 8 (t_assign (o_i (k := .i64) (by decide)) rfl rfl) rfl rfl hL fun a s e_ hL => ?_
    refine en' ?_
    show K15 a s.w
    refine hK15 _ _ ?_
    refine wp_block ?_
    have J17 : ∀ (l16 : (List SBranch)) (a : Act) (s : St), Has N0 33 s0 a s [(2, (Pd.rep (En.slice En.SBranch) l16))] → ((ref14_into.j1 r_) l16) → K14 a s.w := by
      intro l16 a s hL h
      unfold ref14_into.j1 at h
      show K14 a s.w
      refine hK14 _ _ ?_
      refine wp_seq_k fun K18 hK18 => ?_
      refine rg ?_
      refine st 32 (t_move (o_t 2 rfl) rfl rfl) rfl rfl hL fun a s e_ hL => ?_
      refine st 6 (t_assign (o_t 32 rfl) rfl rfl) rfl rfl hL fun a s e_ hL => ?_
      refine en' ?_
      show K18 a s.w
      refine hK18 _ _ ?_
      subst h
      exact wp_ret (retq rfl hL rfl)
    obtain ⟨k21, h⟩ := h
    refine lpg (fun k22 a s => ∃ (l19 : (List SBranch)) (i20 : Int), Has N0 33 s0 a s [(2, (Pd.rep (En.slice En.SBranch) l19)), (3, (Pd.ptr En.SDesc d_)), (7, (Pd.rep (En.slice (En.slice En.SItem)) r12)), (8, (Pd.rep (En.int .i64) i20))] ∧ ref14_into.l1 (ref14_into.n k_) d_ r12 (ref14_into.j1 r_) k22 l19 i20) k21 ⟨l_, 0, hL.keep (.cons (t := 2) rfl (fun _ h_ => h_.elim) (.cons (t := 3) rfl (fun _ h_ => h_.elim) (.cons (t := 7) rfl (fun _ h_ => h_.elim) (.cons (t := 8) rfl (fun _ h_ => h_.elim) .nil)))), h⟩ ?_
    rintro k22 a s ⟨l19, i20, hL, h⟩ KL23 hKL23
    cases k22 with
    | zero => exact h.elim
    | succ k22 =>
    unfold ref14_into.l1 at h
    refine wp_seq_k fun K24 hK24 => ?_
    refine wp_seq_k fun K25 hK25 => ?_
    refine rg ?_
    refine st 19 (t_move (o_t 8 rfl) rfl rfl) rfl rfl hL fun a s e_ hL => ?_
    refine st 20 (t_move (o_t 7 rfl) rfl rfl) rfl rfl hL fun a s e_ hL => ?_
    refine st 21 (t_len (o_t 20 rfl) Tryd.underlying33 rfl rfl) rfl rfl hL fun a s e_ hL => ?_
    refine st 22 (t_lss (o_t 19 rfl) (o_t 21 rfl) rfl rfl) rfl rfl hL fun a s e_ hL => ?_
    refine en' ?_
    show K25 a s.w
    refine hK25 _ _ ?_
    refine cnd hL rfl (fun hb_ => ?_) (fun hb_ => ?_)
    · replace h := h.1 hb_
      refine wp_skip ?_
      show K24 a s.w
      refine hK24 _ _ ?_
      refine wp_seq_k fun K26 hK26 => ?_
      refine wp_block ?_
      obtain ⟨e27, h28, r29, h30, h⟩ := h
      refine rda follows 7 [(Pd.rep En.SDesc d_), (Pd.rep (En.slice (En.slice En.SItem)) r12), (Pd.rep (En.int .i64) i20), (Pd.ptr (En.slice En.SItem) e27), (Pd.rep (En.slice En.SItem) e27), (Pd.rep (En.slice En.SBranch) l19), (Pd.rep (En.slice En.SBranch) r29)] hL (by kernel_rfl) rfl rfl ?_ ?_
      · refine AllT.cons (t_load ty24 (o_t 3 rfl) rfl rfl) ?_
        refine AllT.cons (t_move (o_t 7 rfl) rfl rfl) ?_
        refine AllT.cons (t_move (o_t 8 rfl) rfl rfl) ?_
        refine AllT.cons (t_idx (o_t 26 rfl) (o_t 27 rfl) h28 Tryd.underlying33 ty26 rfl rfl) ?_
        refine AllT.cons (t_load ty26 (o_t 28 rfl) rfl rfl) ?_
        refine AllT.cons (t_move (o_t 2 rfl) rfl rfl) ?_
        refine AllT.cons (t_call (ih_ h30) (xs := [.tmp 25, .tmp 29, .tmp 30]) (.cons (o_t 25 rfl) (.cons (o_t 29 rfl) (.cons (o_t 30 rfl) .nil))) rfl rfl) ?_
        exact AllT.nil
      intro a s e_ hL
      refine st 2 (t_assign (o_t 31 rfl) rfl rfl) rfl rfl hL fun a s e_ hL => ?_
      refine en' ?_
      show K26 a s.w
      refine hK26 _ _ ?_
      obtain ⟨h31, h⟩ := h
      refine rg ?_
      refine st 23 (t_move (o_t 8 rfl) rfl rfl) rfl rfl hL fun a s e_ hL => ?_
      refine st 24 (t_add (o_t 23 rfl) (o_i (k := .i64) (by decide)) h31 rfl rfl) rfl rfl hL fun a s e_ hL => ?_
      refine st 8 (t_assign (o_t 24 rfl) rfl rfl) rfl rfl hL fun a s e_ hL => ?_
      refine en' ?_
      exact hKL23 k22 a s (Nat.lt_succ_self _) ⟨r29, (i20 + 1), hL.keep (.cons (t := 2) rfl (fun _ h_ => h_.elim) (.cons (t := 3) rfl (fun _ h_ => h_.elim) (.cons (t := 7) rfl (fun _ h_ => h_.elim) (.cons (t := 8) rfl (fun _ h_ => h_.elim) .nil)))), h⟩
    · replace h := h.2 hb_
      refine wp_exit ?_
      exact J17 l19 a s (hL.keep (.cons (t := 2) rfl (fun _ h_ => h_.elim) .nil)) h
end Go.Proofs.YtdidjelkkanenaaDoor.V
namespace Go.Proofs.YtdidjelkkanenaaDoor.V
open Go
set_option linter.unusedVariables false
set_option maxRecDepth 100000
theorem law14_sum_ok {l_ : (List SBranch)} {r_ : Int} (h : law14_sum l_ r_) : Fn Tryd.prog 31 [(Pd.rep (En.slice En.SBranch) l_)] (Rq (Pd.rep (En.int .i64) r_)) := by
  unfold law14_sum at h
  refine fn_of Tryd.func31 rfl Tryd.ntmps31 (by rfl) (by simp) fun s0 a hL => ?_
  refine wp_seq_k fun K1 hK1 => ?_
  refine rg ?_
  refine st 2 (t_assign (o_i (k := .i64) (by decide)) rfl rfl) rfl rfl hL fun a s e_ hL => ?_
  refine en' ?_
  show K1 a s.w
  refine hK1 _ _ ?_
  refine wp_seq_k fun K2 hK2 => ?_
  refine rg ?_
  refine st 3 (t_assign (o_i (k := .i64) (by decide)) rfl rfl) rfl rfl hL fun a s e_ hL => ?_
  refine en' ?_
  show K2 a s.w
  refine hK2 _ _ ?_
  refine wp_seq_k fun K3 hK3 => ?_
  refine wp_seq_k fun K4 hK4 => ?_
  refine rg ?_
  refine st 4 (t_assign (o_i (k := .i64) (by decide)) rfl rfl) rfl rfl hL fun a s e_ hL => ?_
  refine en' ?_
  show K4 a s.w
  refine hK4 _ _ ?_
  refine wp_block ?_
  have J6 : ∀ (n5 : Int) (a : Act) (s : St), Has N0 19 s0 a s [(3, (Pd.rep (En.int .i64) n5))] → ((law14_sum.j1 r_) n5) → K3 a s.w := by
    intro n5 a s hL h
    unfold law14_sum.j1 at h
    show K3 a s.w
    refine hK3 _ _ ?_
    refine wp_seq_k fun K7 hK7 => ?_
    refine rg ?_
    refine st 18 (t_move (o_t 3 rfl) rfl rfl) rfl rfl hL fun a s e_ hL => ?_
    refine st 2 (t_assign (o_t 18 rfl) rfl rfl) rfl rfl hL fun a s e_ hL => ?_
    refine en' ?_
    show K7 a s.w
    refine hK7 _ _ ?_
    subst h
    exact wp_ret (retq rfl hL rfl)
  obtain ⟨k10, h⟩ := h
  refine lpg (fun k11 a s => ∃ (n8 : Int) (i9 : Int), Has N0 19 s0 a s [(0, (Pd.rep (En.slice En.SBranch) l_)), (3, (Pd.rep (En.int .i64) n8)), (4, (Pd.rep (En.int .i64) i9))] ∧ law14_sum.l1 l_ (law14_sum.j1 r_) k11 n8 i9) k10 ⟨0, 0, hL.keep (.cons (t := 0) rfl (fun _ h_ => h_.elim) (.cons (t := 3) rfl (fun _ h_ => h_.elim) (.cons (t := 4) rfl (fun _ h_ => h_.elim) .nil))), h⟩ ?_
  rintro k11 a s ⟨n8, i9, hL, h⟩ KL12 hKL12
  cases k11 with
  | zero => exact h.elim
  | succ k11 =>
  unfold law14_sum.l1 at h
  refine wp_seq_k fun K13 hK13 => ?_
  refine wp_seq_k fun K14 hK14 => ?_
  refine rg ?_
  refine st 5 (t_move (o_t 4 rfl) rfl rfl) rfl rfl hL fun a s e_ hL => ?_
  refine st 6 (t_move (o_t 0 rfl) rfl rfl) rfl rfl hL fun a s e_ hL => ?_
  refine st 7 (t_len (o_t 6 rfl) Tryd.underlying31 rfl rfl) rfl rfl hL fun a s e_ hL => ?_
  refine st 8 (t_lss (o_t 5 rfl) (o_t 7 rfl) rfl rfl) rfl rfl hL fun a s e_ hL => ?_
  refine en' ?_
  show K14 a s.w
  refine hK14 _ _ ?_
  refine cnd hL rfl (fun hb_ => ?_) (fun hb_ => ?_)
  · replace h := h.1 hb_
    refine wp_skip ?_
    show K13 a s.w
    refine hK13 _ _ ?_
    refine wp_seq_k fun K15 hK15 => ?_
    refine wp_block ?_
    obtain ⟨e16, h17, h18, h⟩ := h
    refine rg ?_
    refine st 11 (t_move (o_t 3 rfl) rfl rfl) rfl rfl hL fun a s e_ hL => ?_
    refine st 12 (t_move (o_t 0 rfl) rfl rfl) rfl rfl hL fun a s e_ hL => ?_
    refine st 13 (t_move (o_t 4 rfl) rfl rfl) rfl rfl hL fun a s e_ hL => ?_
    refine st 14 (t_idx (o_t 12 rfl) (o_t 13 rfl) h17 Tryd.underlying31 ty38 rfl rfl) rfl rfl hL fun a s e_ hL => ?_
    refine st 15 (t_fa (off := 1) (o_t 14 rfl) Tryd.underlying38 rfl (prt_snd (prt_all _ _) rfl) rfl ty3 rfl rfl) rfl rfl hL fun a s e_ hL => ?_
    refine st 16 (t_load ty3 (o_t 15 rfl) rfl rfl) rfl rfl hL fun a s e_ hL => ?_
    refine st 17 (t_add (o_t 11 rfl) (o_t 16 rfl) h18 rfl rfl) rfl rfl hL fun a s e_ hL => ?_
    refine st 3 (t_assign (o_t 17 rfl) rfl rfl) rfl rfl hL fun a s e_ hL => ?_
    refine en' ?_
    show K15 a s.w
    refine hK15 _ _ ?_
    obtain ⟨h19, h⟩ := h
    refine rg ?_
    refine st 9 (t_move (o_t 4 rfl) rfl rfl) rfl rfl hL fun a s e_ hL => ?_
    refine st 10 (t_add (o_t 9 rfl) (o_i (k := .i64) (by decide)) h19 rfl rfl) rfl rfl hL fun a s e_ hL => ?_
    refine st 4 (t_assign (o_t 10 rfl) rfl rfl) rfl rfl hL fun a s e_ hL => ?_
    refine en' ?_
    exact hKL12 k11 a s (Nat.lt_succ_self _) ⟨(n8 + e16.2), (i9 + 1), hL.keep (.cons (t := 0) rfl (fun _ h_ => h_.elim) (.cons (t := 3) rfl (fun _ h_ => h_.elim) (.cons (t := 4) rfl (fun _ h_ => h_.elim) .nil))), h⟩
  · replace h := h.2 hb_
    refine wp_exit ?_
    exact J6 n8 a s (hL.keep (.cons (t := 3) rfl (fun _ h_ => h_.elim) .nil)) h
theorem law14_HeadsWays_ok {d_ : SDesc} {ev_ : SDesc} {r_ : Bool} (h : law14_HeadsWays d_ ev_ r_) : Fn Tryd.prog 7 [(Pd.rep En.SDesc d_), (Pd.rep En.SDesc ev_)] (Rq (Pd.rep En.bool r_)) := by
  unfold law14_HeadsWays at h
  refine fn_of Tryd.func7 rfl Tryd.ntmps7 (by rfl) (by simp) fun s0 a hL => ?_
  refine wp_seq_k fun K1 hK1 => ?_
  refine rg ?_
  refine st 2 (t_box (o_t 0 rfl) rfl rfl) rfl rfl hL fun a s e_ hL => ?_
  refine st 3 (t_box (o_t 1 rfl) rfl rfl) rfl rfl hL fun a s e_ hL => ?_
  refine st 4 (t_assign o_b rfl rfl) rfl rfl hL fun a s e_ hL => ?_
  refine en' ?_
  show K1 a s.w
  refine hK1 _ _ ?_
  refine wp_seq_k fun K2 hK2 => ?_
  refine wp_seq_k fun K3 hK3 => ?_
  obtain ⟨r4, h5, r6, h7, r8, h9, r10, h11, r12, h13, b14, h15, b16, h17, h⟩ := h
  refine rg ?_
  refine st 15 (t_call (law14_awake_ok h5) (xs := []) .nil rfl rfl) rfl rfl hL fun a s e_ hL => ?_
  refine st 16 (t_not (o_t 15 rfl) rfl rfl) rfl rfl hL fun a s e_ hL => ?_
  refine st 17 (t_move (o_t 16 rfl) rfl rfl) rfl rfl hL fun a s e_ hL => ?_
  refine st 18 (t_g1 rfl rfl rfl (fun hc_ => t_load ty24 (o_t 2 rfl) rfl rfl)) rfl rfl hL fun a s e_ hL => ?_
  refine st 19 (t_g1 rfl rfl rfl (fun hc_ => t_call (ref04_Few_ok (h7 hc_)) (xs := [.tmp 18]) (.cons (o_w hc_ 18 rfl) .nil) rfl rfl)) rfl rfl hL fun a s e_ hL => ?_
  refine st 20 (t_g1 rfl rfl rfl (fun hc_ => t_not (o_w hc_ 19 rfl) rfl rfl)) rfl rfl hL fun a s e_ hL => ?_
  refine st 21 (t_or (o_t 17 rfl) (fun hc2_ => (o_w hc2_ 20 rfl)) rfl rfl) rfl rfl hL fun a s e_ hL => ?_
  refine st 22 (t_move (o_t 21 rfl) rfl rfl) rfl rfl hL fun a s e_ hL => ?_
  refine st 23 (t_g1 rfl rfl rfl (fun hc_ => t_load ty24 (o_t 3 rfl) rfl rfl)) rfl rfl hL fun a s e_ hL => ?_
  refine st 24 (t_g1 rfl rfl rfl (fun hc_ => t_call (ref04_Few_ok (h9 hc_)) (xs := [.tmp 23]) (.cons (o_w hc_ 23 rfl) .nil) rfl rfl)) rfl rfl hL fun a s e_ hL => ?_
  refine st 25 (t_g1 rfl rfl rfl (fun hc_ => t_not (o_w hc_ 24 rfl) rfl rfl)) rfl rfl hL fun a s e_ hL => ?_
  refine st 26 (t_or (o_t 22 rfl) (fun hc2_ => (o_w hc2_ 25 rfl)) rfl rfl) rfl rfl hL fun a s e_ hL => ?_
  refine st 27 (t_move (o_t 26 rfl) rfl rfl) rfl rfl hL fun a s e_ hL => ?_
  refine st 28 (t_g1 rfl rfl rfl (fun hc_ => t_load ty24 (o_t 2 rfl) rfl rfl)) rfl rfl hL fun a s e_ hL => ?_
  refine st 29 (t_g1 rfl rfl rfl (fun hc_ => t_call (ref08_Right_ok (h11 hc_)) (xs := [.tmp 28]) (.cons (o_w hc_ 28 rfl) .nil) rfl rfl)) rfl rfl hL fun a s e_ hL => ?_
  refine st 30 (t_g1 rfl rfl rfl (fun hc_ => t_not (o_w hc_ 29 rfl) rfl rfl)) rfl rfl hL fun a s e_ hL => ?_
  refine st 31 (t_or (o_t 27 rfl) (fun hc2_ => (o_w hc2_ 30 rfl)) rfl rfl) rfl rfl hL fun a s e_ hL => ?_
  refine st 32 (t_move (o_t 31 rfl) rfl rfl) rfl rfl hL fun a s e_ hL => ?_
  refine st 33 (t_g1 rfl rfl rfl (fun hc_ => t_load ty24 (o_t 3 rfl) rfl rfl)) rfl rfl hL fun a s e_ hL => ?_
  refine st 34 (t_g1 rfl rfl rfl (fun hc_ => t_call (ref08_Right_ok (h13 hc_)) (xs := [.tmp 33]) (.cons (o_w hc_ 33 rfl) .nil) rfl rfl)) rfl rfl hL fun a s e_ hL => ?_
  refine st 35 (t_g1 rfl rfl rfl (fun hc_ => t_not (o_w hc_ 34 rfl) rfl rfl)) rfl rfl hL fun a s e_ hL => ?_
  refine st 36 (h15 ▸ (t_or (o_t 32 rfl) (fun hc2_ => (o_w hc2_ 35 rfl)) rfl rfl)) rfl rfl hL fun a s e_ hL => ?_
  refine st 37 (t_move (o_t 36 rfl) rfl rfl) rfl rfl hL fun a s e_ hL => ?_
  refine st 38 (t_g1 rfl rfl rfl (fun hc_ => t_fa (off := 0) (o_t 2 rfl) Tryd.underlying24 rfl (prt_solo (prt_all _ _)) rfl ty22 rfl rfl)) rfl rfl hL fun a s e_ hL => ?_
  refine st 39 (t_g1 rfl rfl rfl (fun hc_ => t_load ty22 (o_w hc_ 38 rfl) rfl rfl)) rfl rfl hL fun a s e_ hL => ?_
  refine st 40 (t_g1 rfl rfl rfl (fun hc_ => t_len (o_w hc_ 39 rfl) Tryd.underlying22 rfl rfl)) rfl rfl hL fun a s e_ hL => ?_
  refine st 41 (t_g1 rfl rfl rfl (fun hc_ => t_gtr (o_w hc_ 40 rfl) (o_i (k := .i64) (by decide)) rfl rfl)) rfl rfl hL fun a s e_ hL => ?_
  refine st 42 (t_or (o_t 37 rfl) (fun hc2_ => (o_w hc2_ 41 rfl)) rfl rfl) rfl rfl hL fun a s e_ hL => ?_
  refine st 43 (t_move (o_t 42 rfl) rfl rfl) rfl rfl hL fun a s e_ hL => ?_
  refine st 44 (t_g1 rfl rfl rfl (fun hc_ => t_fa (off := 0) (o_t 3 rfl) Tryd.underlying24 rfl (prt_solo (prt_all _ _)) rfl ty22 rfl rfl)) rfl rfl hL fun a s e_ hL => ?_
  refine st 45 (t_g1 rfl rfl rfl (fun hc_ => t_load ty22 (o_w hc_ 44 rfl) rfl rfl)) rfl rfl hL fun a s e_ hL => ?_
  refine st 46 (t_g1 rfl rfl rfl (fun hc_ => t_len (o_w hc_ 45 rfl) Tryd.underlying22 rfl rfl)) rfl rfl hL fun a s e_ hL => ?_
  refine st 47 (t_g1 rfl rfl rfl (fun hc_ => t_gtr (o_w hc_ 46 rfl) (o_i (k := .i64) (by decide)) rfl rfl)) rfl rfl hL fun a s e_ hL => ?_
  refine st 48 (h17 ▸ (t_or (o_t 43 rfl) (fun hc2_ => (o_w hc2_ 47 rfl)) rfl rfl)) rfl rfl hL fun a s e_ hL => ?_
  refine en' ?_
  show K3 a s.w
  refine hK3 _ _ ?_
  refine cnd hL rfl (fun hb_ => ?_) (fun hb_ => ?_)
  · replace h := h.1 hb_
    refine wp_seq_k fun K18 hK18 => ?_
    obtain ⟨r19, h20, h⟩ := h
    refine rg ?_
    refine st 49 (t_call (law14_awake_ok h20) (xs := []) .nil rfl rfl) rfl rfl hL fun a s e_ hL => ?_
    refine st 4 (t_assign (o_t 49 rfl) rfl rfl) rfl rfl hL fun a s e_ hL => ?_
    refine en' ?_
    show K18 a s.w
    refine hK18 _ _ ?_
    subst h
    exact wp_ret (retq rfl hL rfl)
  · replace h := h.2 hb_
    refine wp_skip ?_
    show K2 a s.w
    refine hK2 _ _ ?_
    refine wp_seq_k fun K21 hK21 => ?_
    refine rg ?_
    refine st 50 (t_build (x := (1, 0, 0, 0, 0, (0#256), ([] : Str))) (ps := [(0, .const (.int .i64 1))]) tyz48 rfl stt48 (.cons (i := 0) (o_i (k := .i64) (by decide)) rfl (sub_fst (sub_all _ _ _)) .nil) rfl rfl) rfl rfl hL fun a s e_ hL => ?_
    refine st 51 (t_lit (xs := [.tmp 50]) (.cons (o_t 50 rfl) .nil) Tryd.underlying22 ty48 rfl rfl (by decide) rfl rfl) rfl rfl hL fun a s e_ hL => ?_
    refine st 52 (t_build (x := [(1, 0, 0, 0, 0, (0#256), ([] : Str))]) (ps := [(0, .tmp 51)]) tyz24 rfl stt24 (.cons (i := 0) (o_t 51 rfl) rfl (sub_solo (sub_all _ _ _)) .nil) rfl rfl) rfl rfl hL fun a s e_ hL => ?_
    refine st_alloc En.SDesc (z := []) 5 hL tyz24 rfl rfl rfl rfl fun a s g22 hg_ hL => ?_
    refine st_stb (L' := [(2, (Pd.ptr En.SDesc d_)), (3, (Pd.ptr En.SDesc ev_))]) 5 hL rfl (o_t 52 rfl) ty24 rfl rfl rfl (.cons (t := 2) rfl (fun _ h_ => h_.elim) (.cons (t := 3) rfl (fun _ h_ => h_.elim) .nil)) fun s hL => ?_
    refine en' ?_
    show K21 a s.w
    refine hK21 _ _ ?_
    refine wp_seq_k fun K23 hK23 => ?_
    obtain ⟨r24, h25, h⟩ := h
    refine rg ?_
    refine st 53 (t_load ty24 (o_t 2 rfl) rfl rfl) rfl rfl hL fun a s e_ hL => ?_
    refine st 54 (t_load ty24 (o_t 3 rfl) rfl rfl) rfl rfl hL fun a s e_ hL => ?_
    refine st 55 (t_call (ref04_Pair_ok h25) (xs := [.const (.int .i64 5), .tmp 53, .tmp 54]) (.cons (o_i (k := .i64) (by decide)) (.cons (o_t 53 rfl) (.cons (o_t 54 rfl) .nil))) rfl rfl) rfl rfl hL fun a s e_ hL => ?_
    have lt_d27 := hL.blt 5 rfl
    refine st_alloc En.SDesc (z := []) 6 hL tyz24 rfl rfl rfl rfl fun a s g26 hg_ hL => ?_
    have d27 : Dis (some g26) (some g22) := Dis.newg hg_ lt_d27
    refine st_stb (L' := [(2, (Pd.ptr En.SDesc d_)), (3, (Pd.ptr En.SDesc ev_)), (5, (Pd.box En.SDesc s0.w.heap.size g22 [(1, 0, 0, 0, 0, (0#256), ([] : Str))]))]) 6 hL rfl (o_t 55 rfl) ty24 rfl rfl rfl (.cons (t := 2) rfl (fun _ h_ => h_.elim) (.cons (t := 3) rfl (fun _ h_ => h_.elim) (.cons (t := 5) rfl (Dis.bx (Dis.symm d27)) .nil))) fun s hL => ?_
    refine en' ?_
    show K23 a s.w
    refine hK23 _ _ ?_
    refine wp_seq_k fun K28 hK28 => ?_
    obtain ⟨r29, h30, h⟩ := h
    refine rg ?_
    refine st 56 (t_loadb ty24 (o_t 5 rfl) rfl rfl) rfl rfl hL fun a s e_ hL => ?_
    refine st 57 (t_load ty24 (o_t 2 rfl) rfl rfl) rfl rfl hL fun a s e_ hL => ?_
    refine st 58 (t_call (ref04_Pair_ok h30) (xs := [.const (.int .i64 4), .tmp 56, .tmp 57]) (.cons (o_i (k := .i64) (by decide)) (.cons (o_t 56 rfl) (.cons (o_t 57 rfl) .nil))) rfl rfl) rfl rfl hL fun a s e_ hL => ?_
    have lt_d33 := hL.blt 6 rfl
    have lt_d32 := hL.blt 5 rfl
    refine st_alloc En.SDesc (z := []) 7 hL tyz24 rfl rfl rfl rfl fun a s g31 hg_ hL => ?_
    have d32 : Dis (some g31) (some g22) := Dis.newg hg_ lt_d32
    have d33 : Dis (some g31) (some g26) := Dis.newg hg_ lt_d33
    refine st_stb (L' := [(2, (Pd.ptr En.SDesc d_)), (3, (Pd.ptr En.SDesc ev_)), (6, (Pd.box En.SDesc s0.w.heap.size g26 r24))]) 7 hL rfl (o_t 58 rfl) ty24 rfl rfl rfl (.cons (t := 2) rfl (fun _ h_ => h_.elim) (.cons (t := 3) rfl (fun _ h_ => h_.elim) (.cons (t := 6) rfl (Dis.bx (Dis.symm d33)) .nil))) fun s hL => ?_
    refine en' ?_
    show K28 a s.w
    refine hK28 _ _ ?_
    refine wp_seq_k fun K34 hK34 => ?_
    obtain ⟨r35, h36, h⟩ := h
    refine rg ?_
    refine st 59 (t_load ty24 (o_t 2 rfl) rfl rfl) rfl rfl hL fun a s e_ hL => ?_
    refine st 60 (t_call (ref04_Wrap_ok h36) (xs := [.const (.int .i64 8), .const (.int .i64 0), .const (.int .i64 0), .tmp 59]) (.cons (o_i (k := .i64) (by decide)) (.cons (o_i (k := .i64) (by decide)) (.cons (o_i (k := .i64) (by decide)) (.cons (o_t 59 rfl) .nil)))) rfl rfl) rfl rfl hL fun a s e_ hL => ?_
    have lt_d39 := hL.blt 7 rfl
    have lt_d38 := hL.blt 6 rfl
    refine st_alloc En.SDesc (z := []) 8 hL tyz24 rfl rfl rfl rfl fun a s g37 hg_ hL => ?_
    have d38 : Dis (some g37) (some g26) := Dis.newg hg_ lt_d38
    have d39 : Dis (some g37) (some g31) := Dis.newg hg_ lt_d39
    refine st_stb (L' := [(2, (Pd.ptr En.SDesc d_)), (3, (Pd.ptr En.SDesc ev_)), (6, (Pd.box En.SDesc s0.w.heap.size g26 r24)), (7, (Pd.box En.SDesc s0.w.heap.size g31 r29))]) 8 hL rfl (o_t 60 rfl) ty24 rfl rfl rfl (.cons (t := 2) rfl (fun _ h_ => h_.elim) (.cons (t := 3) rfl (fun _ h_ => h_.elim) (.cons (t := 6) rfl (Dis.bx (Dis.symm d38)) (.cons (t := 7) rfl (Dis.bx (Dis.symm d39)) .nil)))) fun s hL => ?_
    refine en' ?_
    show K34 a s.w
    refine hK34 _ _ ?_
    refine wp_seq_k fun K40 hK40 => ?_
    obtain ⟨r41, h42, r43, h44, h⟩ := h
    refine rda follows 4 [(Pd.rep En.SDesc d_), (Pd.rep En.SDesc d_), (Pd.rep (En.slice En.SItem) r41), (Pd.rep (En.slice En.SBranch) r43)] hL (by kernel_rfl) rfl rfl ?_ ?_
    · refine AllT.cons (t_load ty24 (o_t 2 rfl) rfl rfl) ?_
      refine AllT.cons (t_load ty24 (o_t 2 rfl) rfl rfl) ?_
      refine AllT.cons (t_call ((law14_start_ok h42).frz) (xs := [.tmp 62]) (.cons (o_t 62 rfl) .nil) rfl rfl) ?_
      refine AllT.cons (t_call ((heads_Heads_ok h44).frz) (xs := [.tmp 61, .tmp 63]) (.cons (o_t 61 rfl) (.cons (o_t 63 rfl) .nil)) rfl rfl) ?_
      exact AllT.nil
    intro a s e_ hL
    refine st 9 (t_assign (o_t 64 rfl) rfl rfl) rfl rfl hL fun a s e_ hL => ?_
    refine en' ?_
    show K40 a s.w
    refine hK40 _ _ ?_
    refine wp_seq_k fun K45 hK45 => ?_
    obtain ⟨r46, h47, r48, h49, h⟩ := h
    refine rda follows 4 [(Pd.rep En.SDesc ev_), (Pd.rep En.SDesc ev_), (Pd.rep (En.slice En.SItem) r46), (Pd.rep (En.slice En.SBranch) r48)] hL (by kernel_rfl) rfl rfl ?_ ?_
    · refine AllT.cons (t_load ty24 (o_t 3 rfl) rfl rfl) ?_
      refine AllT.cons (t_load ty24 (o_t 3 rfl) rfl rfl) ?_
      refine AllT.cons (t_call ((law14_start_ok h47).frz) (xs := [.tmp 66]) (.cons (o_t 66 rfl) .nil) rfl rfl) ?_
      refine AllT.cons (t_call ((heads_Heads_ok h49).frz) (xs := [.tmp 65, .tmp 67]) (.cons (o_t 65 rfl) (.cons (o_t 67 rfl) .nil)) rfl rfl) ?_
      exact AllT.nil
    intro a s e_ hL
    refine st 10 (t_assign (o_t 68 rfl) rfl rfl) rfl rfl hL fun a s e_ hL => ?_
    refine en' ?_
    show K45 a s.w
    refine hK45 _ _ ?_
    refine wp_seq_k fun K50 hK50 => ?_
    obtain ⟨r51, h52, r53, h54, h⟩ := h
    refine rda follows 4 [(Pd.rep En.SDesc r24), (Pd.rep En.SDesc r24), (Pd.rep (En.slice En.SItem) r51), (Pd.rep (En.slice En.SBranch) r53)] hL (by kernel_rfl) rfl rfl ?_ ?_
    · refine AllT.cons (t_loadb ty24 (o_t 6 rfl) rfl rfl) ?_
      refine AllT.cons (t_loadb ty24 (o_t 6 rfl) rfl rfl) ?_
      refine AllT.cons (t_call ((law14_start_ok h52).frz) (xs := [.tmp 70]) (.cons (o_t 70 rfl) .nil) rfl rfl) ?_
      refine AllT.cons (t_call ((heads_Heads_ok h54).frz) (xs := [.tmp 69, .tmp 71]) (.cons (o_t 69 rfl) (.cons (o_t 71 rfl) .nil)) rfl rfl) ?_
      exact AllT.nil
    intro a s e_ hL
    refine st 11 (t_assign (o_t 72 rfl) rfl rfl) rfl rfl hL fun a s e_ hL => ?_
    refine en' ?_
    show K50 a s.w
    refine hK50 _ _ ?_
    refine wp_seq_k fun K55 hK55 => ?_
    obtain ⟨r56, h57, r58, h59, h⟩ := h
    refine rda follows 4 [(Pd.rep En.SDesc r35), (Pd.rep En.SDesc r35), (Pd.rep (En.slice En.SItem) r56), (Pd.rep (En.slice En.SBranch) r58)] hL (by kernel_rfl) rfl rfl ?_ ?_
    · refine AllT.cons (t_loadb ty24 (o_t 8 rfl) rfl rfl) ?_
      refine AllT.cons (t_loadb ty24 (o_t 8 rfl) rfl rfl) ?_
      refine AllT.cons (t_call ((law14_start_ok h57).frz) (xs := [.tmp 74]) (.cons (o_t 74 rfl) .nil) rfl rfl) ?_
      refine AllT.cons (t_call ((heads_Heads_ok h59).frz) (xs := [.tmp 73, .tmp 75]) (.cons (o_t 73 rfl) (.cons (o_t 75 rfl) .nil)) rfl rfl) ?_
      exact AllT.nil
    intro a s e_ hL
    refine st 12 (t_assign (o_t 76 rfl) rfl rfl) rfl rfl hL fun a s e_ hL => ?_
    refine en' ?_
    show K55 a s.w
    refine hK55 _ _ ?_
    refine wp_seq_k fun K60 hK60 => ?_
    refine rg ?_
    refine st 13 (t_assign (o_i (k := .i64) (by decide)) rfl rfl) rfl rfl hL fun a s e_ hL => ?_
    refine en' ?_
    show K60 a s.w
    refine hK60 _ _ ?_
    refine wp_seq_k fun K61 hK61 => ?_
    refine wp_seq_k fun K62 hK62 => ?_
    obtain ⟨h63, r64, h65, h66, r67, h68, h⟩ := h
    refine rg ?_
    refine st 77 (t_load ty24 (o_t 2 rfl) rfl rfl) rfl rfl hL fun a s e_ hL => ?_
    refine st 78 (t_fa (off := 0) (o_t 2 rfl) Tryd.underlying24 rfl (prt_solo (prt_all _ _)) rfl ty22 rfl rfl) rfl rfl hL fun a s e_ hL => ?_
    refine st 79 (t_load ty22 (o_t 78 rfl) rfl rfl) rfl rfl hL fun a s e_ hL => ?_
    refine st 80 (t_len (o_t 79 rfl) Tryd.underlying22 rfl rfl) rfl rfl hL fun a s e_ hL => ?_
    refine st 81 (t_sub (o_t 80 rfl) (o_i (k := .i64) (by decide)) h63 rfl rfl) rfl rfl hL fun a s e_ hL => ?_
    refine st 82 (t_call (ref08_Ways_ok h65) (xs := [.tmp 77, .tmp 81]) (.cons (o_t 77 rfl) (.cons (o_t 81 rfl) .nil)) rfl rfl) rfl rfl hL fun a s e_ hL => ?_
    refine st 83 (t_gtr (o_t 82 rfl) (o_i (k := .i64) (by decide)) rfl rfl) rfl rfl hL fun a s e_ hL => ?_
    refine st 84 (t_move (o_t 83 rfl) rfl rfl) rfl rfl hL fun a s e_ hL => ?_
    refine st 85 (t_g1 rfl rfl rfl (fun hc_ => t_load ty24 (o_t 3 rfl) rfl rfl)) rfl rfl hL fun a s e_ hL => ?_
    refine st 86 (t_g1 rfl rfl rfl (fun hc_ => t_fa (off := 0) (o_t 3 rfl) Tryd.underlying24 rfl (prt_solo (prt_all _ _)) rfl ty22 rfl rfl)) rfl rfl hL fun a s e_ hL => ?_
    refine st 87 (t_g1 rfl rfl rfl (fun hc_ => t_load ty22 (o_w hc_ 86 rfl) rfl rfl)) rfl rfl hL fun a s e_ hL => ?_
    refine st 88 (t_g1 rfl rfl rfl (fun hc_ => t_len (o_w hc_ 87 rfl) Tryd.underlying22 rfl rfl)) rfl rfl hL fun a s e_ hL => ?_
    refine st 89 (t_g1 rfl rfl rfl (fun hc_ => t_sub (o_w hc_ 88 rfl) (o_i (k := .i64) (by decide)) (h66 hc_) rfl rfl)) rfl rfl hL fun a s e_ hL => ?_
    refine st 90 (t_g1 rfl rfl rfl (fun hc_ => t_call (ref08_Ways_ok (h68 hc_)) (xs := [.tmp 85, .tmp 89]) (.cons (o_w hc_ 85 rfl) (.cons (o_w hc_ 89 rfl) .nil)) rfl rfl)) rfl rfl hL fun a s e_ hL => ?_
    refine st 91 (t_g1 rfl rfl rfl (fun hc_ => t_gtr (o_w hc_ 90 rfl) (o_i (k := .i64) (by decide)) rfl rfl)) rfl rfl hL fun a s e_ hL => ?_
    refine st 92 (t_and (o_t 84 rfl) (fun hc2_ => (o_w hc2_ 91 rfl)) rfl rfl) rfl rfl hL fun a s e_ hL => ?_
    refine en' ?_
    show K62 a s.w
    refine hK62 _ _ ?_
    have J70 : ∀ (nothing69 : Int) (a : Act) (s : St), Has N0 155 s0 a s [(7, (Pd.box En.SDesc s0.w.heap.size g31 r29)), (8, (Pd.box En.SDesc s0.w.heap.size g37 r35)), (9, (Pd.rep (En.slice En.SBranch) r43)), (10, (Pd.rep (En.slice En.SBranch) r48)), (11, (Pd.rep (En.slice En.SBranch) r53)), (12, (Pd.rep (En.slice En.SBranch) r58)), (13, (Pd.rep (En.int .i64) nothing69))] → Dis (some g31) (some g37) → ((law14_HeadsWays.j1 r_ r29 r35 r43 r48 r53 r58) nothing69) → K61 a s.w := by
      intro nothing69 a s hL d71 h
      unfold law14_HeadsWays.j1 at h
      show K61 a s.w
      refine hK61 _ _ ?_
      refine wp_seq_k fun K72 hK72 => ?_
      refine wp_seq_k fun K73 hK73 => ?_
      obtain ⟨h74, h75, i76, h77, r78, h79, r80, h81, r82, h83, h84, b85, h86, e87, h88, b89, h90, e91, h92, r93, h94, r95, h96, h⟩ := h
      refine rda follows 46 [(Pd.rep (En.slice En.SBranch) r53), (Pd.rep (En.int .i64) (r53.length : Int)), (Pd.rep (En.slice En.SBranch) r43), (Pd.rep (En.int .i64) (r43.length : Int)), (Pd.rep (En.slice En.SBranch) r48), (Pd.rep (En.int .i64) (r48.length : Int)), (Pd.rep (En.int .i64) ((r43.length : Int) + (r48.length : Int))), (Pd.rep (En.int .i64) nothing69), (Pd.rep (En.int .i64) i76), (Pd.rep En.bool ((r53.length : Int) != i76)), (Pd.rep En.bool ((r53.length : Int) != i76)), (Pd.when ((((r53.length : Int) != i76)) = false) (Pd.rep (En.int .i64) nothing69)), (Pd.when ((((r53.length : Int) != i76)) = false) (Pd.rep En.bool (nothing69 == 0))), (Pd.when ((((r53.length : Int) != i76)) = false) (Pd.rep En.bool (nothing69 == 0))), (Pd.when (((((r53.length : Int) != i76)) = false) ∧ ((nothing69 == 0)) = true) (Pd.rep (En.slice En.SBranch) r53)), (Pd.when (((((r53.length : Int) != i76)) = false) ∧ ((nothing69 == 0)) = true) (Pd.rep (En.int .i64) r78)), (Pd.when (((((r53.length : Int) != i76)) = false) ∧ ((nothing69 == 0)) = true) (Pd.rep (En.slice En.SBranch) r43)), (Pd.when (((((r53.length : Int) != i76)) = false) ∧ ((nothing69 == 0)) = true) (Pd.rep (En.int .i64) r80)), (Pd.when (((((r53.length : Int) != i76)) = false) ∧ ((nothing69 == 0)) = true) (Pd.rep (En.slice En.SBranch) r48)), (Pd.when (((((r53.length : Int) != i76)) = false) ∧ ((nothing69 == 0)) = true) (Pd.rep (En.int .i64) r82)), (Pd.when (((((r53.length : Int) != i76)) = false) ∧ ((nothing69 == 0)) = true) (Pd.rep (En.int .i64) (r80 + r82))), (Pd.when (((((r53.length : Int) != i76)) = false) ∧ ((nothing69 == 0)) = true) (Pd.rep En.bool (r78 != (r80 + r82)))), (Pd.when ((((r53.length : Int) != i76)) = false) (Pd.rep En.bool ((nothing69 == 0) && (r78 != (r80 + r82))))), (Pd.rep En.bool b85), (Pd.rep En.bool b85), (Pd.when ((b85) = false) (Pd.rep (En.slice En.SBranch) r58)), (Pd.when ((b85) = false) (Pd.rep (En.int .i64) (r58.length : Int))), (Pd.when ((b85) = false) (Pd.rep En.bool ((r58.length : Int) != 1))), (Pd.rep En.bool (b85 || ((r58.length : Int) != 1))), (Pd.rep En.bool (b85 || ((r58.length : Int) != 1))), (Pd.when (((b85 || ((r58.length : Int) != 1))) = false) (Pd.rep (En.slice En.SBranch) r58)), (Pd.when (((b85 || ((r58.length : Int) != 1))) = false) (Pd.ptr En.SBranch e87)), (Pd.when (((b85 || ((r58.length : Int) != 1))) = false) (Pd.ptr (En.int .i64) e87.2)), (Pd.when (((b85 || ((r58.length : Int) != 1))) = false) (Pd.rep (En.int .i64) e87.2)), (Pd.when (((b85 || ((r58.length : Int) != 1))) = false) (Pd.rep En.bool (e87.2 != 1))), (Pd.rep En.bool b89), (Pd.rep En.bool b89), (Pd.when ((b89) = false) (Pd.rep (En.slice En.SBranch) r58)), (Pd.when ((b89) = false) (Pd.ptr En.SBranch e91)), (Pd.when ((b89) = false) (Pd.ptr (En.slice En.SItem) e91.1)), (Pd.when ((b89) = false) (Pd.rep (En.slice En.SItem) e91.1)), (Pd.when ((b89) = false) (Pd.rep En.SDesc r35)), (Pd.when ((b89) = false) (Pd.rep (En.slice En.SItem) r93)), (Pd.when ((b89) = false) (Pd.rep En.bool r95)), (Pd.when ((b89) = false) (Pd.rep En.bool (!r95))), (Pd.rep En.bool (b89 || (!r95)))] hL (by kernel_rfl) rfl rfl ?_ ?_
      · refine AllT.cons (t_move (o_t 11 rfl) rfl rfl) ?_
        refine AllT.cons (t_len (o_t 93 rfl) Tryd.underlying31 rfl rfl) ?_
        refine AllT.cons (t_move (o_t 9 rfl) rfl rfl) ?_
        refine AllT.cons (t_len (o_t 95 rfl) Tryd.underlying31 rfl rfl) ?_
        refine AllT.cons (t_move (o_t 10 rfl) rfl rfl) ?_
        refine AllT.cons (t_len (o_t 97 rfl) Tryd.underlying31 rfl rfl) ?_
        refine AllT.cons (t_add (o_t 96 rfl) (o_t 98 rfl) h74 rfl rfl) ?_
        refine AllT.cons (t_move (o_t 13 rfl) rfl rfl) ?_
        refine AllT.cons (h77 ▸ (t_sub (o_t 99 rfl) (o_t 100 rfl) h75 rfl rfl)) ?_
        refine AllT.cons (t_nei (o_t 94 rfl) (o_t 101 rfl) rfl rfl) ?_
        refine AllT.cons (t_move (o_t 102 rfl) rfl rfl) ?_
        refine AllT.cons (t_g1 rfl rfl rfl (fun hc_ => t_move (o_t 13 rfl) rfl rfl)) ?_
        refine AllT.cons (t_g1 rfl rfl rfl (fun hc_ => t_eqi (o_w hc_ 104 rfl) (o_i (k := .i64) (by decide)) rfl rfl)) ?_
        refine AllT.cons (t_g1 rfl rfl rfl (fun hc_ => t_move (o_w hc_ 105 rfl) rfl rfl)) ?_
        refine AllT.cons (t_g rfl rfl rfl (fun hc_ => t_move (o_t 11 rfl) rfl rfl)) ?_
        refine AllT.cons (t_g rfl rfl rfl (fun hc_ => t_call (law14_sum_ok (h79 hc_)) (xs := [.tmp 107]) (.cons (o_w hc_ 107 rfl) .nil) rfl rfl)) ?_
        refine AllT.cons (t_g rfl rfl rfl (fun hc_ => t_move (o_t 9 rfl) rfl rfl)) ?_
        refine AllT.cons (t_g rfl rfl rfl (fun hc_ => t_call (law14_sum_ok (h81 hc_)) (xs := [.tmp 109]) (.cons (o_w hc_ 109 rfl) .nil) rfl rfl)) ?_
        refine AllT.cons (t_g rfl rfl rfl (fun hc_ => t_move (o_t 10 rfl) rfl rfl)) ?_
        refine AllT.cons (t_g rfl rfl rfl (fun hc_ => t_call (law14_sum_ok (h83 hc_)) (xs := [.tmp 111]) (.cons (o_w hc_ 111 rfl) .nil) rfl rfl)) ?_
        refine AllT.cons (t_g rfl rfl rfl (fun hc_ => t_add (o_w hc_ 110 rfl) (o_w hc_ 112 rfl) (h84 hc_) rfl rfl)) ?_
        refine AllT.cons (t_g rfl rfl rfl (fun hc_ => t_nei (o_w hc_ 108 rfl) (o_w hc_ 113 rfl) rfl rfl)) ?_
        refine AllT.cons (t_g1 rfl rfl rfl (fun hc_ => t_and (o_w hc_ 106 rfl) (fun hc2_ => (o_w (And.intro hc_ hc2_) 114 rfl)) rfl rfl)) ?_
        refine AllT.cons (h86 ▸ (t_or (o_t 103 rfl) (fun hc2_ => (o_w hc2_ 115 rfl)) rfl rfl)) ?_
        refine AllT.cons (t_move (o_t 116 rfl) rfl rfl) ?_
        refine AllT.cons (t_g1 rfl rfl rfl (fun hc_ => t_move (o_t 12 rfl) rfl rfl)) ?_
        refine AllT.cons (t_g1 rfl rfl rfl (fun hc_ => t_len (o_w hc_ 118 rfl) Tryd.underlying31 rfl rfl)) ?_
        refine AllT.cons (t_g1 rfl rfl rfl (fun hc_ => t_nei (o_w hc_ 119 rfl) (o_i (k := .i64) (by decide)) rfl rfl)) ?_
        refine AllT.cons (t_or (o_t 117 rfl) (fun hc2_ => (o_w hc2_ 120 rfl)) rfl rfl) ?_
        refine AllT.cons (t_move (o_t 121 rfl) rfl rfl) ?_
        refine AllT.cons (t_g1 rfl rfl rfl (fun hc_ => t_move (o_t 12 rfl) rfl rfl)) ?_
        refine AllT.cons (t_g1 rfl rfl rfl (fun hc_ => t_idx (o_w hc_ 123 rfl) (o_i (k := .i64) (by decide)) (h88 hc_) Tryd.underlying31 ty38 rfl rfl)) ?_
        refine AllT.cons (t_g1 rfl rfl rfl (fun hc_ => t_fa (off := 1) (o_w hc_ 124 rfl) Tryd.underlying38 rfl (prt_snd (prt_all _ _) rfl) rfl ty3 rfl rfl)) ?_
        refine AllT.cons (t_g1 rfl rfl rfl (fun hc_ => t_load ty3 (o_w hc_ 125 rfl) rfl rfl)) ?_
        refine AllT.cons (t_g1 rfl rfl rfl (fun hc_ => t_nei (o_w hc_ 126 rfl) (o_i (k := .i64) (by decide)) rfl rfl)) ?_
        refine AllT.cons (h90 ▸ (t_or (o_t 122 rfl) (fun hc2_ => (o_w hc2_ 127 rfl)) rfl rfl)) ?_
        refine AllT.cons (t_move (o_t 128 rfl) rfl rfl) ?_
        refine AllT.cons (t_g1 rfl rfl rfl (fun hc_ => t_move (o_t 12 rfl) rfl rfl)) ?_
        refine AllT.cons (t_g1 rfl rfl rfl (fun hc_ => t_idx (o_w hc_ 130 rfl) (o_i (k := .i64) (by decide)) (h92 hc_) Tryd.underlying31 ty38 rfl rfl)) ?_
        refine AllT.cons (t_g1 rfl rfl rfl (fun hc_ => t_fa (off := 0) (o_w hc_ 131 rfl) Tryd.underlying38 rfl (prt_fst (prt_all _ _)) rfl ty26 rfl rfl)) ?_
        refine AllT.cons (t_g1 rfl rfl rfl (fun hc_ => t_load ty26 (o_w hc_ 132 rfl) rfl rfl)) ?_
        refine AllT.cons (t_g1 rfl rfl rfl (fun hc_ => t_loadb ty24 (o_t 8 rfl) rfl rfl)) ?_
        refine AllT.cons (t_g1 rfl rfl rfl (fun hc_ => t_call ((law14_start_ok (h94 hc_)).frz) (xs := [.tmp 134]) (.cons (o_w hc_ 134 rfl) .nil) rfl rfl)) ?_
        refine AllT.cons (t_g1 rfl rfl rfl (fun hc_ => t_call (ref13_Same_ok (h96 hc_)) (xs := [.tmp 133, .tmp 135]) (.cons (o_w hc_ 133 rfl) (.cons (o_w hc_ 135 rfl) .nil)) rfl rfl)) ?_
        refine AllT.cons (t_g1 rfl rfl rfl (fun hc_ => t_not (o_w hc_ 136 rfl) rfl rfl)) ?_
        refine AllT.cons (t_or (o_t 129 rfl) (fun hc2_ => (o_w hc2_ 137 rfl)) rfl rfl) ?_
        exact AllT.nil
      intro a s e_ hL
      refine en' ?_
      show K73 a s.w
      refine hK73 _ _ ?_
      refine cnd hL rfl (fun hb_ => ?_) (fun hb_ => ?_)
      · replace h := h.1 hb_
        refine wp_seq_k fun K97 hK97 => ?_
        refine rg ?_
        refine st 4 (t_assign o_b rfl rfl) rfl rfl hL fun a s e_ hL => ?_
        refine en' ?_
        show K97 a s.w
        refine hK97 _ _ ?_
        subst h
        exact wp_ret (retq rfl hL rfl)
      · replace h := h.2 hb_
        refine wp_skip ?_
        show K72 a s.w
        refine hK72 _ _ ?_
        refine wp_seq_k fun K98 hK98 => ?_
        obtain ⟨r99, h100, r101, h102, h⟩ := h
        refine rda follows 4 [(Pd.rep En.SDesc r29), (Pd.rep En.SDesc r29), (Pd.rep (En.slice En.SItem) r99), (Pd.rep (En.slice En.SBranch) r101)] hL (by kernel_rfl) rfl rfl ?_ ?_
        · refine AllT.cons (t_loadb ty24 (o_t 7 rfl) rfl rfl) ?_
          refine AllT.cons (t_loadb ty24 (o_t 7 rfl) rfl rfl) ?_
          refine AllT.cons (t_call ((law14_start_ok h100).frz) (xs := [.tmp 140]) (.cons (o_t 140 rfl) .nil) rfl rfl) ?_
          refine AllT.cons (t_call ((heads_Heads_ok h102).frz) (xs := [.tmp 139, .tmp 141]) (.cons (o_t 139 rfl) (.cons (o_t 141 rfl) .nil)) rfl rfl) ?_
          exact AllT.nil
        intro a s e_ hL
        refine st 14 (t_assign (o_t 142 rfl) rfl rfl) rfl rfl hL fun a s e_ hL => ?_
        refine en' ?_
        show K98 a s.w
        refine hK98 _ _ ?_
        refine wp_seq_k fun K103 hK103 => ?_
        obtain ⟨r104, h105, r106, h107, b108, h109, h⟩ := h
        refine rg ?_
        refine st 143 (t_move (o_t 14 rfl) rfl rfl) rfl rfl hL fun a s e_ hL => ?_
        refine st 144 (t_len (o_t 143 rfl) Tryd.underlying31 rfl rfl) rfl rfl hL fun a s e_ hL => ?_
        refine st 145 (t_move (o_t 9 rfl) rfl rfl) rfl rfl hL fun a s e_ hL => ?_
        refine st 146 (t_len (o_t 145 rfl) Tryd.underlying31 rfl rfl) rfl rfl hL fun a s e_ hL => ?_
        refine st 147 (t_eqi (o_t 144 rfl) (o_t 146 rfl) rfl rfl) rfl rfl hL fun a s e_ hL => ?_
        refine st 148 (t_move (o_t 147 rfl) rfl rfl) rfl rfl hL fun a s e_ hL => ?_
        refine st 149 (t_g1 rfl rfl rfl (fun hc_ => t_move (o_t 14 rfl) rfl rfl)) rfl rfl hL fun a s e_ hL => ?_
        refine st 150 (t_g1 rfl rfl rfl (fun hc_ => t_call (law14_sum_ok (h105 hc_)) (xs := [.tmp 149]) (.cons (o_w hc_ 149 rfl) .nil) rfl rfl)) rfl rfl hL fun a s e_ hL => ?_
        refine st 151 (t_g1 rfl rfl rfl (fun hc_ => t_move (o_t 9 rfl) rfl rfl)) rfl rfl hL fun a s e_ hL => ?_
        refine st 152 (t_g1 rfl rfl rfl (fun hc_ => t_call (law14_sum_ok (h107 hc_)) (xs := [.tmp 151]) (.cons (o_w hc_ 151 rfl) .nil) rfl rfl)) rfl rfl hL fun a s e_ hL => ?_
        refine st 153 (t_g1 rfl rfl rfl (fun hc_ => t_eqi (o_w hc_ 150 rfl) (o_w hc_ 152 rfl) rfl rfl)) rfl rfl hL fun a s e_ hL => ?_
        refine st 154 (h109 ▸ (t_and (o_t 148 rfl) (fun hc2_ => (o_w hc2_ 153 rfl)) rfl rfl)) rfl rfl hL fun a s e_ hL => ?_
        refine st 4 (t_assign (o_t 154 rfl) rfl rfl) rfl rfl hL fun a s e_ hL => ?_
        refine en' ?_
        show K103 a s.w
        refine hK103 _ _ ?_
        subst h
        exact wp_ret (retq rfl hL rfl)
    refine cnd hL rfl (fun hb_ => ?_) (fun hb_ => ?_)
    · replace h := h.1 hb_
      refine rg ?_
      refine st 13 (t_assign (o_i (k := .i64) (by decide)) rfl rfl) rfl rfl hL fun a s e_ hL => ?_
      refine en' ?_
      exact J70 1 a s (hL.keep (.cons (t := 7) rfl (fun _ _ h_ => h_) (.cons (t := 8) rfl (fun _ _ h_ => h_) (.cons (t := 9) rfl (fun _ h_ => h_.elim) (.cons (t := 10) rfl (fun _ h_ => h_.elim) (.cons (t := 11) rfl (fun _ h_ => h_.elim) (.cons (t := 12) rfl (fun _ h_ => h_.elim) (.cons (t := 13) rfl (fun _ h_ => h_.elim) .nil)))))))) (Dis.symm d39) h
    · replace h := h.2 hb_
      refine wp_skip ?_
      exact J70 0 a s (hL.keep (.cons (t := 7) rfl (fun _ _ h_ => h_) (.cons (t := 8) rfl (fun _ _ h_ => h_) (.cons (t := 9) rfl (fun _ h_ => h_.elim) (.cons (t := 10) rfl (fun _ h_ => h_.elim) (.cons (t := 11) rfl (fun _ h_ => h_.elim) (.cons (t := 12) rfl (fun _ h_ => h_.elim) (.cons (t := 13) rfl (fun _ h_ => h_.elim) .nil)))))))) (Dis.symm d39) h
end Go.Proofs.YtdidjelkkanenaaDoor.V
namespace Go.Proofs.YtdidjelkkanenaaDoor.V
open Go
set_option linter.unusedVariables false
def Lv (d : List SNode) (s : List SItem) (l : List (List SItem)) : Prop := ∃ h, lv d h s = some l
theorem Lv.uniq {d : List SNode} {s : List SItem} {l m : List (List SItem)} (h : Lv d s l) (k : Lv d s m) : l = m := by
  obtain ⟨a, ha⟩ := h
  obtain ⟨b, hb⟩ := k
  have h1 := lv_mono (Nat.le_max_left a b) ha
  have h2 := lv_mono (Nat.le_max_right a b) hb
  rw [h1] at h2; exact Option.some.inj h2
theorem Lv.ready {d : List SNode} {s : List SItem} (h : rdy d s = true) : Lv d s [s] := ⟨1, by simp [lv, h]⟩
theorem lv_list {d : List SNode} : ∀ (ss : List (List SItem)) (f : List SItem → List (List SItem)), (∀ t ∈ ss, Lv d t (f t)) → ∃ h, ss.mapM (lv d h) = some (ss.map f)
  | [], _, _ => ⟨0, rfl⟩
  | s :: ss, f, hs => by
    obtain ⟨h1, e1⟩ := hs s (by simp)
    obtain ⟨h2, e2⟩ := lv_list ss f fun t ht => hs t (by simp [ht])
    refine ⟨max h1 h2, ?_⟩
    rw [List.mapM_cons, lv_mono (Nat.le_max_left h1 h2) e1, mapM_mono (fun a b hb => lv_mono (Nat.le_max_right h1 h2) hb) _ _ e2]; rfl
theorem Lv.open {d : List SNode} {s : List SItem} (hr : rdy d s = false) (f : List SItem → List (List SItem)) (h : ∀ t ∈ opn d s, Lv d t (f t)) : Lv d s ((opn d s).map f).flatten := by
  obtain ⟨k, e⟩ := lv_list _ f h
  exact ⟨k + 1, by unfold lv; rw [if_neg (by rw [hr]; simp), e]; rfl⟩
def PM (d : List SNode) : Nat → Int → List (List SItem) × Nat
  | 0, _ => ([], 0)
  | k + 1, i => match at? d i with
    | none => ([], 0)
    | some n =>
      if n.1 = 1 then ([], 1)
      else if n.1 = 3 then ([[(3, i, 0, 0)]], 0)
      else if n.1 = 4 then ((PM d k n.2.1).1.map (· ++ [(1, n.2.2.1, 0, 0)]) ++ (List.replicate (PM d k n.2.1).2 (PM d k n.2.2.1).1).flatten, (PM d k n.2.1).2 * (PM d k n.2.2.1).2)
      else if n.1 = 5 then ((PM d k n.2.1).1 ++ (PM d k n.2.2.1).1, (PM d k n.2.1).2 + (PM d k n.2.2.1).2)
      else if n.1 = 6 then ((PM d k n.2.1).1.map (· ++ [(1, i, 0, 0)]), 1)
      else if n.1 = 7 then (if 0 < n.2.2.2.2.1 then (PM d k n.2.1).1.map (· ++ [(2, i, max (n.2.2.2.1 - 1) 0, n.2.2.2.2.1 - 1)]) else [], if n.2.2.2.1 = 0 then 1 else 0)
      else ([[(1, i, 0, 0)]], 0)
theorem PM_fuel {d : List SNode} (hd : ROk d) : ∀ (k k' : Nat) (i : Int), i < (k : Int) → i < (k' : Int) → PM d k i = PM d k' i
  | 0, k', i, h, h' => by
    cases k' with
    | zero => rfl
    | succ k' =>
      have : at? d i = none := by
        unfold at?
        rw [if_neg (by omega)]
      simp [PM, this]
  | k + 1, 0, i, h, h' => by
    have : at? d i = none := by
      unfold at?
      rw [if_neg (by omega)]
    simp [PM, this]
  | k + 1, k' + 1, i, h, h' => by
    cases hn : at? d i with
    | none => simp only [PM, hn]
    | some n =>
      simp only [PM, hn]
      by_cases h1 : n.1 = 1
      · simp [h1]
      · by_cases h3 : n.1 = 3
        · simp [h3]
        · by_cases h4 : n.1 = 4
          · obtain ⟨⟨a, b⟩, c, e⟩ := hd.two _ n hn (.inl h4)
            rw [PM_fuel hd k k' n.2.1 (by omega) (by omega), PM_fuel hd k k' n.2.2.1 (by omega) (by omega)]
          · by_cases h5 : n.1 = 5
            · obtain ⟨⟨a, b⟩, c, e⟩ := hd.two _ n hn (.inr h5)
              rw [PM_fuel hd k k' n.2.1 (by omega) (by omega), PM_fuel hd k k' n.2.2.1 (by omega) (by omega)]
            · by_cases h6 : n.1 = 6
              · obtain ⟨a, b⟩ := hd.one _ n hn (.inl h6)
                rw [PM_fuel hd k k' n.2.1 (by omega) (by omega)]
                simp [h6]
              · by_cases h7 : n.1 = 7
                · obtain ⟨a, b⟩ := hd.one _ n hn (.inr (.inl h7))
                  rw [PM_fuel hd k k' n.2.1 (by omega) (by omega)]
                  simp [h7]
                · simp [h1, h3, h4, h5, h6, h7]
def pm (d : List SNode) (i : Int) : List (List SItem) := (PM d d.length i).1
def nw (d : List SNode) (i : Int) : Nat := (PM d d.length i).2
theorem PM_at {d : List SNode} (hd : ROk d) {i : Int} {n : SNode} (hn : at? d i = some n) : PM d d.length i =
    (if n.1 = 1 then ([], 1)
      else if n.1 = 3 then ([[(3, i, 0, 0)]], 0)
      else if n.1 = 4 then ((pm d n.2.1).map (· ++ [(1, n.2.2.1, 0, 0)]) ++ (List.replicate (nw d n.2.1) (pm d n.2.2.1)).flatten, nw d n.2.1 * nw d n.2.2.1)
      else if n.1 = 5 then (pm d n.2.1 ++ pm d n.2.2.1, nw d n.2.1 + nw d n.2.2.1)
      else if n.1 = 6 then ((pm d n.2.1).map (· ++ [(1, i, 0, 0)]), 1)
      else if n.1 = 7 then (if 0 < n.2.2.2.2.1 then (pm d n.2.1).map (· ++ [(2, i, max (n.2.2.2.1 - 1) 0, n.2.2.2.2.1 - 1)]) else [], if n.2.2.2.1 = 0 then 1 else 0)
      else ([[(1, i, 0, 0)]], 0)) := by
  obtain ⟨hb0, hb1⟩ := at_bound hn
  rw [PM_fuel hd d.length (d.length + 1) i hb1 (by omega)]
  simp only [PM, hn, pm, nw]
theorem nw_zero {d : List SNode} (hd : ROk d) : ∀ (k : Nat) (i : Int) (n : SNode), i < (k : Int) → at? d i = some n → (nw d i ≠ 0 ↔ nz d i = true)
  | 0, i, n, hi, hn => by have := at_bound hn; omega
  | k + 1, i, n, hi, hn => by
    have e := PM_at hd hn
    have en : nw d i = (PM d d.length i).2 := rfl
    rw [en, e, nz_at hd hn]
    by_cases h1 : n.1 = 1
    · simp [h1]
    · by_cases h3 : n.1 = 3
      · simp [h3]
      · by_cases h4 : n.1 = 4
        · obtain ⟨⟨a, b⟩, c, e⟩ := hd.two _ n hn (.inl h4)
          obtain ⟨m1, hm1⟩ := at_lt hn a b
          obtain ⟨m2, hm2⟩ := at_lt hn c e
          have i1 := nw_zero hd k _ m1 (by omega) hm1
          have i2 := nw_zero hd k _ m2 (by omega) hm2
          rw [if_neg h1, if_neg h3, if_pos h4, if_neg h1, if_pos h4, Bool.and_eq_true, ← i1, ← i2]
          simp only
          rw [Nat.mul_ne_zero_iff]
        · by_cases h5 : n.1 = 5
          · obtain ⟨⟨a, b⟩, c, e⟩ := hd.two _ n hn (.inr h5)
            obtain ⟨m1, hm1⟩ := at_lt hn a b
            obtain ⟨m2, hm2⟩ := at_lt hn c e
            have i1 := nw_zero hd k _ m1 (by omega) hm1
            have i2 := nw_zero hd k _ m2 (by omega) hm2
            rw [if_neg h1, if_neg h3, if_neg h4, if_pos h5, if_neg h1, if_neg h4, if_pos h5, Bool.or_eq_true, ← i1, ← i2]
            simp only
            omega
          · by_cases h6 : n.1 = 6
            · simp [h6]
            · by_cases h7 : n.1 = 7
              · by_cases h0 : n.2.2.2.1 = 0 <;> simp [h7, h0]
              · simp [h1, h3, h4, h5, h6, h7]
def pmI (d : List SNode) (x : SItem) : List (List SItem) :=
  if x.1 = 1 then pm d x.2.1
  else if x.1 = 2 then (match at? d x.2.1 with | some n => if 0 < x.2.2.2 then (pm d n.2.1).map (· ++ [(2, x.2.1, max (x.2.2.1 - 1) 0, x.2.2.2 - 1)]) else [] | none => [])
  else if x.1 = 5 then [] else [[x]]
def nwI (d : List SNode) (x : SItem) : Nat :=
  if x.1 = 1 then nw d x.2.1 else if x.1 = 2 then (if x.2.2.1 = 0 then 1 else 0) else if x.1 = 5 then (if x.2.2.1 = 0 then 1 else 0) else 0
abbrev Told (d : List SNode) (P : List (List SItem)) (m : Nat) (rest : List SItem) (s : List SItem) : Prop :=
  ∀ lr, (m ≠ 0 → Lv d rest lr) → ∃ l, Lv d s l ∧ l.Perm (P.map (· ++ rest) ++ (List.replicate m lr).flatten)
theorem perm_flat {α : Type} {a b : List α} (h : a.Perm b) (m : Nat) : (List.replicate m a).flatten.Perm (List.replicate m b).flatten := by
  induction m with
  | zero => exact .refl _
  | succ m ih =>
    rw [List.replicate_succ, List.replicate_succ, List.flatten_cons, List.flatten_cons]
    exact h.append ih
theorem rep_split {α : Type} (m : Nat) (a b : List α) : (List.replicate m (a ++ b)).flatten.Perm ((List.replicate m a).flatten ++ (List.replicate m b).flatten) := by
  induction m with
  | zero => exact .refl _
  | succ m ih =>
    simp only [List.replicate_succ, List.flatten_cons]
    refine (ih.append_left (a ++ b)).trans ?_
    rw [List.append_assoc, List.append_assoc]
    refine List.Perm.append_left a ?_
    rw [← List.append_assoc, ← List.append_assoc]
    exact (List.perm_append_comm).append_right _
theorem rep_rep {α : Type} (m k : Nat) (a : List α) : (List.replicate m (List.replicate k a).flatten).flatten = (List.replicate (m * k) a).flatten := by
  induction m with
  | zero => simp
  | succ m ih => rw [List.replicate_succ, List.flatten_cons, ih, Nat.succ_mul, Nat.add_comm, ← List.replicate_append_replicate, List.flatten_append]
theorem rep_map {α β : Type} (f : α → β) (m : Nat) (a : List α) : ((List.replicate m a).flatten).map f = (List.replicate m (a.map f)).flatten := by
  rw [List.map_flatten, List.map_replicate]
theorem told_seq {d : List SNode} {P1 P2 : List (List SItem)} {m1 m2 : Nat} {b : SItem} {rest s : List SItem} (h1 : Told d P1 m1 (b :: rest) s) (h2 : Told d P2 m2 rest (b :: rest)) : Told d (P1.map (· ++ [b]) ++ (List.replicate m1 P2).flatten) (m1 * m2) rest s := by
  intro lr hlr
  have key : ∃ lb, (m1 ≠ 0 → Lv d (b :: rest) lb ∧ lb.Perm (P2.map (· ++ rest) ++ (List.replicate m2 lr).flatten)) := by
    by_cases h : m1 = 0
    · exact ⟨[], fun k => absurd h k⟩
    · obtain ⟨lb, k1, k2⟩ := h2 lr fun k => hlr (Nat.mul_ne_zero h k)
      exact ⟨lb, fun _ => ⟨k1, k2⟩⟩
  obtain ⟨lb, hlb⟩ := key
  obtain ⟨l, k1, k2⟩ := h1 lb fun k => (hlb k).1
  refine ⟨l, k1, k2.trans ?_⟩
  have e1 : P1.map (· ++ b :: rest) = (P1.map (· ++ [b])).map (· ++ rest) := by
    rw [List.map_map]
    apply List.map_congr_left
    intro p _
    simp
  rw [e1, List.map_append, List.append_assoc]
  refine List.Perm.append_left _ ?_
  by_cases h : m1 = 0
  · subst h; simp
  · refine (perm_flat (hlb h).2 m1).trans ?_
    refine (rep_split m1 _ _).trans ?_
    rw [rep_map, rep_rep]
theorem lv_one {d : List SNode} {s t : List SItem} (hr : rdy d s = false) (ho : opn d s = [t]) {l : List (List SItem)} (h : Lv d t l) : Lv d s l := by
  have := Lv.open hr (fun _ => l) (fun x hx => by rw [ho] at hx; rw [List.mem_singleton.1 hx]; exact h)
  rw [ho] at this
  simpa using this
theorem lv_two {d : List SNode} {s t u : List SItem} (hr : rdy d s = false) (ho : opn d s = [t, u]) {l m : List (List SItem)} (h : Lv d t l) (k : Lv d u m) : Lv d s (l ++ m) := by
  by_cases htu : t = u
  · subst htu
    rw [k.uniq h]
    have := Lv.open hr (fun _ => l) (fun x hx => by rw [ho] at hx; simp at hx; rw [hx]; exact h)
    rw [ho] at this
    simpa using this
  · have := Lv.open hr (fun x => if x = t then l else m) (fun x hx => by
      rw [ho] at hx
      simp only [List.mem_cons, List.not_mem_nil, or_false] at hx
      rcases hx with rfl | rfl
      · simp; exact h
      · simp [Ne.symm htu]; exact k)
    rw [ho] at this
    simpa [Ne.symm htu] using this
theorem lv_none {d : List SNode} {s : List SItem} (hr : rdy d s = false) (ho : opn d s = []) : Lv d s [] := by
  have := Lv.open hr (fun _ => []) (fun x hx => by rw [ho] at hx; cases hx)
  rw [ho] at this
  simpa using this
theorem told_rep {d : List SNode} (hd : ROk d) {i : Int} {n : SNode} (hn : at? d i = some n) (h7 : n.1 = 7) (hA : ∀ rest, Told d (pm d n.2.1) 0 rest ((1, n.2.1, 0, 0) :: rest)) (lo hi : Int) (rest : List SItem) :
    Told d (if 0 < hi then (pm d n.2.1).map (· ++ [(2, i, max (lo - 1) 0, hi - 1)]) else []) (if lo = 0 then 1 else 0) rest ((2, i, lo, hi) :: rest) := by
  intro lr hlr
  have hr : rdy d ((2, i, lo, hi) :: rest) = false := by simp [rdy]
  have ho : opn d ((2, i, lo, hi) :: rest) = (if lo = 0 then [rest] else []) ++ (if 0 < hi then [(1, n.2.1, 0, 0) :: (2, i, max (lo - 1) 0, hi - 1) :: rest] else []) := by
    simp only [opn, hn]
    rw [if_neg (by decide), if_pos trivial]
  obtain ⟨la, ha, hpa⟩ := hA ((2, i, max (lo - 1) 0, hi - 1) :: rest) [] (fun h => absurd rfl h)
  have e1 : (pm d n.2.1).map (· ++ (2, i, max (lo - 1) 0, hi - 1) :: rest) = ((pm d n.2.1).map (· ++ [(2, i, max (lo - 1) 0, hi - 1)])).map (· ++ rest) := by
    rw [List.map_map]
    apply List.map_congr_left
    intro p _
    simp
  rw [e1] at hpa
  simp only [List.replicate_zero, List.flatten_nil, List.append_nil] at hpa
  by_cases h0 : lo = 0
  · have hL := hlr (by simp [h0])
    by_cases h1 : 0 < hi
    · refine ⟨_, lv_two hr (by rw [ho, if_pos h0, if_pos h1]; rfl) hL ha, ?_⟩
      rw [if_pos h1, if_pos h0]
      simp only [List.replicate_one, List.flatten_cons, List.flatten_nil, List.append_nil]
      exact (List.perm_append_comm).trans (hpa.append_right _)
    · refine ⟨_, lv_one hr (by rw [ho, if_pos h0, if_neg h1]; rfl) hL, ?_⟩
      rw [if_neg h1, if_pos h0]; simp
  · by_cases h1 : 0 < hi
    · refine ⟨_, lv_one hr (by rw [ho, if_neg h0, if_pos h1]; rfl) ha, ?_⟩
      rw [if_pos h1, if_neg h0]; simpa using hpa
    · refine ⟨_, lv_none hr (by rw [ho, if_neg h0, if_neg h1]; rfl), ?_⟩
      rw [if_neg h1, if_neg h0]; simp
theorem told_node {d : List SNode} (hd : ROk d) : ∀ (k : Nat) (i : Int) (n : SNode), i < (k : Int) → at? d i = some n → ∀ rest, Told d (pm d i) (nw d i) rest ((1, i, 0, 0) :: rest)
  | 0, i, n, hi, hn, _ => by have := at_bound hn; omega
  | k + 1, i, n, hi, hn, rest => by
    have ih := told_node hd k
    have e := PM_at hd hn
    have ep : pm d i = (PM d d.length i).1 := rfl
    have en : nw d i = (PM d d.length i).2 := rfl
    rw [ep, en, e]
    have hk9 := hd.kind _ n hn
    have rd0 : (n.1 ≠ 2 ∧ n.1 ≠ 8 ∧ n.1 ≠ 9) → rdy d ((1, i, 0, 0) :: rest) = false := fun h => by
      simp only [rdy, hn]
      simp [h.1, h.2.1, h.2.2]
    have op0 : opn d ((1, i, 0, 0) :: rest) = (if n.1 = 1 then [rest] else if n.1 = 3 then [(3, i, 0, 0) :: rest] else if n.1 = 4 then [(1, n.2.1, 0, 0) :: (1, n.2.2.1, 0, 0) :: rest] else if n.1 = 5 then [(1, n.2.1, 0, 0) :: rest, (1, n.2.2.1, 0, 0) :: rest]
        else if n.1 = 6 then [rest, (1, n.2.1, 0, 0) :: (1, i, 0, 0) :: rest] else [(2, i, n.2.2.2.1, n.2.2.2.2.1) :: rest]) := by
      simp only [opn, hn]
      rw [if_neg (by decide), if_neg (by decide)]
    have z0 : ∀ a : Int, 0 ≤ a → a < i → nz d a = false → nw d a = 0 := fun a h0 h1 hz => by
      obtain ⟨m, hm⟩ := at_lt hn h0 h1
      rcases Nat.eq_zero_or_pos (nw d a) with h | h
      · exact h
      · have := (nw_zero hd k a m (by omega) hm).1 (by omega)
        rw [hz] at this; cases this
    by_cases h1 : n.1 = 1
    · rw [if_pos h1]
      intro lr hlr
      refine ⟨lr, lv_one (rd0 (by omega)) (by rw [op0, if_pos h1]) (hlr (by simp)), by simp⟩
    · rw [if_neg h1] at op0 ⊢
      by_cases h3 : n.1 = 3
      · rw [if_pos h3] at op0 ⊢
        intro lr hlr
        exact ⟨_, lv_one (rd0 (by omega)) op0 (Lv.ready (by simp [rdy])), by simp⟩
      · rw [if_neg h3] at op0 ⊢
        by_cases h4 : n.1 = 4
        · rw [if_pos h4] at op0 ⊢
          obtain ⟨⟨a, b⟩, c, e⟩ := hd.two _ n hn (.inl h4)
          obtain ⟨m1, hm1⟩ := at_lt hn a b
          obtain ⟨m2, hm2⟩ := at_lt hn c e
          have := told_seq (ih _ m1 (by omega) hm1 ((1, n.2.2.1, 0, 0) :: rest)) (ih _ m2 (by omega) hm2 rest)
          intro lr hlr
          obtain ⟨l, k1, k2⟩ := this lr hlr
          exact ⟨l, lv_one (rd0 (by omega)) op0 k1, k2⟩
        · rw [if_neg h4] at op0 ⊢
          by_cases h5 : n.1 = 5
          · rw [if_pos h5] at op0 ⊢
            obtain ⟨⟨a, b⟩, c, e⟩ := hd.two _ n hn (.inr h5)
            obtain ⟨m1, hm1⟩ := at_lt hn a b
            obtain ⟨m2, hm2⟩ := at_lt hn c e
            intro lr hlr
            simp only at hlr
            obtain ⟨l1, k1, k2⟩ := ih _ m1 (by omega) hm1 rest lr fun h => hlr (by omega)
            obtain ⟨l2, k3, k4⟩ := ih _ m2 (by omega) hm2 rest lr fun h => hlr (by omega)
            refine ⟨_, lv_two (rd0 (by omega)) op0 k1 k3, (k2.append k4).trans ?_⟩
            rw [List.map_append, ← List.replicate_append_replicate, List.flatten_append, List.append_assoc, List.append_assoc]
            refine List.Perm.append_left _ ?_
            rw [← List.append_assoc, ← List.append_assoc]
            exact (List.perm_append_comm).append_right _
          · rw [if_neg h5] at op0 ⊢
            by_cases h6 : n.1 = 6
            · rw [if_pos h6] at op0 ⊢
              obtain ⟨a, b⟩ := hd.one _ n hn (.inl h6)
              obtain ⟨m1, hm1⟩ := at_lt hn a b
              have hz := z0 _ a b (hd.nn _ n hn (.inl h6))
              intro lr hlr
              have hA := ih _ m1 (by omega) hm1 ((1, i, 0, 0) :: rest) [] (fun h => absurd hz h)
              obtain ⟨l1, k1, k2⟩ := hA
              refine ⟨_, lv_two (rd0 (by omega)) op0 (hlr (by simp)) k1, ?_⟩
              rw [hz] at k2
              have e1 : (pm d n.2.1).map (· ++ (1, i, 0, 0) :: rest) = ((pm d n.2.1).map (· ++ [(1, i, 0, 0)])).map (· ++ rest) := by
                rw [List.map_map]
                apply List.map_congr_left
                intro p _
                simp
              rw [e1] at k2
              simp only [List.replicate_zero, List.flatten_nil, List.append_nil] at k2
              simp only [List.replicate_one, List.flatten_cons, List.flatten_nil, List.append_nil]
              exact (List.perm_append_comm).trans (k2.append_right _)
            · rw [if_neg h6] at op0 ⊢
              by_cases h7 : n.1 = 7
              · rw [if_pos h7]
                obtain ⟨a, b⟩ := hd.one _ n hn (.inr (.inl h7))
                obtain ⟨m1, hm1⟩ := at_lt hn a b
                have hz := z0 _ a b (hd.nn _ n hn (.inr h7))
                have := told_rep hd hn h7 (fun rest => by have := ih _ m1 (by omega) hm1 rest; rw [hz] at this; exact this) n.2.2.2.1 n.2.2.2.2.1 rest
                intro lr hlr
                obtain ⟨l, k1, k2⟩ := this lr hlr
                exact ⟨l, lv_one (rd0 (by omega)) op0 k1, k2⟩
              · rw [if_neg h7]
                intro lr hlr
                refine ⟨_, Lv.ready ?_, by simp⟩
                simp only [rdy, hn]
                have : n.1 = 2 ∨ n.1 = 8 ∨ n.1 = 9 := by omega
                rcases this with h | h | h <;> simp [h]
theorem told_item {d : List SNode} (hd : ROk d) {x : SItem} (hx : formI d x = true) (rest : List SItem) : Told d (pmI d x) (nwI d x) rest (x :: rest) := by
  by_cases h5 : x.1 = 5
  · have e1 : pmI d x = [] := by simp [pmI, h5]
    have e2 : nwI d x = if x.2.2.1 = 0 then 1 else 0 := by simp [nwI, h5]
    rw [e1, e2]
    intro lr hlr
    have hr : rdy d (x :: rest) = false := by simp [rdy, h5]
    by_cases h0 : x.2.2.1 = 0
    · rw [if_pos h0] at hlr ⊢
      refine ⟨lr, lv_one hr (by simp [opn, h5, h0]) (hlr (by simp)), by simp⟩
    · rw [if_neg h0]
      exact ⟨_, lv_none hr (by simp [opn, h5, h0]), by simp⟩
  · obtain ⟨n, hn, hk⟩ := form_node hx h5
    rcases hk with h1 | ⟨h2, h7⟩ | ⟨h3, _⟩ | ⟨h4, _⟩
    · have e : x = (1, x.2.1, 0, 0) := by
        unfold formI at hx
        rw [if_neg h5, hn] at hx
        simp [h1] at hx
        obtain ⟨a, b, c, e⟩ := x
        simp only at h1 hx
        rw [h1, hx.1, hx.2]
      have e1 : pmI d x = pm d x.2.1 := by simp [pmI, h1]
      have e2 : nwI d x = nw d x.2.1 := by simp [nwI, h1]
      have := at_bound hn
      rw [e1, e2]
      have ht := told_node hd d.length _ n (by omega) hn rest
      rw [← e] at ht
      exact ht
    · have e1 : pmI d x = if 0 < x.2.2.2 then (pm d n.2.1).map (· ++ [(2, x.2.1, max (x.2.2.1 - 1) 0, x.2.2.2 - 1)]) else [] := by simp [pmI, h2, hn]
      have e2 : nwI d x = if x.2.2.1 = 0 then 1 else 0 := by simp [nwI, h2]
      rw [e1, e2]
      obtain ⟨a, b⟩ := hd.one _ n hn (.inr (.inl h7))
      obtain ⟨m1, hm1⟩ := at_lt hn a b
      have hb := at_bound hn
      have hz : nw d n.2.1 = 0 := by
        rcases Nat.eq_zero_or_pos (nw d n.2.1) with h | h
        · exact h
        · have := (nw_zero hd d.length _ m1 (by omega) hm1).1 (by omega)
          rw [hd.nn _ n hn (.inr h7)] at this; cases this
      have := told_rep hd hn h7 (fun rest => by have := told_node hd d.length _ m1 (by omega) hm1 rest; rw [hz] at this; exact this) x.2.2.1 x.2.2.2 rest
      obtain ⟨xk, xi, xl, xh⟩ := x
      simp only at h2
      subst h2
      exact this
    · have e1 : pmI d x = [[x]] := by simp [pmI, h3]
      have e2 : nwI d x = 0 := by simp [nwI, h3]
      rw [e1, e2]
      intro lr _
      exact ⟨_, Lv.ready (by simp [rdy, h3]), by simp⟩
    · have e1 : pmI d x = [[x]] := by simp [pmI, h4]
      have e2 : nwI d x = 0 := by simp [nwI, h4]
      rw [e1, e2]
      intro lr _
      exact ⟨_, Lv.ready (by simp [rdy, h4]), by simp⟩
def hds (d : List SNode) : List SItem → List (List SItem)
  | [] => [[]]
  | x :: rest => (pmI d x).map (· ++ rest) ++ (List.replicate (nwI d x) (hds d rest)).flatten
theorem hds_lv {d : List SNode} (hd : ROk d) : ∀ (s : List SItem), formS d s = true → ∃ l, Lv d s l ∧ l.Perm (hds d s)
  | [], _ => ⟨[[]], Lv.ready rfl, .refl _⟩
  | x :: rest, hf => by
    obtain ⟨h1, h2⟩ := form_cons hf
    obtain ⟨lr, k1, k2⟩ := hds_lv hd rest h2
    obtain ⟨l, k3, k4⟩ := told_item hd h1 rest lr fun _ => k1
    exact ⟨l, k3, k4.trans (List.Perm.append_left _ (perm_flat k2 _))⟩
theorem lv_hds {d : List SNode} (hd : ROk d) {s : List SItem} (hf : formS d s = true) {l : List (List SItem)} (h : Lv d s l) : l.Perm (hds d s) := by
  obtain ⟨l', k1, k2⟩ := hds_lv hd s hf
  rw [h.uniq k1]; exact k2
end Go.Proofs.YtdidjelkkanenaaDoor.V
namespace Go.Proofs.YtdidjelkkanenaaDoor.V
open Go
set_option linter.unusedVariables false
theorem exl {ρ : Type} {γ : Sort _} {P : γ → ρ → Prop} (c : γ) (h : ∃ r, P c r) : ∃ r, ∃ c, P c r := let ⟨r, h⟩ := h; ⟨r, c, h⟩
theorem andl {ρ : Type} {A : Prop} {B : ρ → Prop} (a : A) (h : ∃ r, B r) : ∃ r, A ∧ B r := let ⟨r, h⟩ := h; ⟨r, a, h⟩
theorem pick {ρ : Type} [Inhabited ρ] {b : Bool} {X Y : ρ → Prop} (h1 : b = true → ∃ r, X r) (h2 : b = false → ∃ r, Y r) : ∃ r, (b = true → X r) ∧ (b = false → Y r) := by
  cases b
  · obtain ⟨r, h⟩ := h2 rfl
    exact ⟨r, (fun h => by cases h), fun _ => h⟩
  · obtain ⟨r, h⟩ := h1 rfl
    exact ⟨r, fun _ => h, (fun h => by cases h)⟩
def sumT (l : List SNode) : Nat := (l.map fun n => n.2.2.2.2.2.2.length).sum
theorem sumT_le {l : List SNode} (h : ∀ n ∈ l, n.2.2.2.2.2.2.length ≤ 140737488351232) : sumT l ≤ l.length * 140737488351232 := by
  induction l with
  | nil => simp [sumT]
  | cons x l ih =>
    have h1 := h x (by simp)
    have h2 := ih fun n hn => h n (by simp [hn])
    simp only [sumT, List.map_cons, List.sum_cons, List.length_cons] at h2 ⊢
    omega
theorem few_ex {d : List SNode} (ht : ∀ n ∈ d, n.2.2.2.2.2.2.length ≤ 140737488351232) : ∃ r, ref04_Few d r ∧ (r = true → d.length ≤ 100) := by
  refine ⟨decide ((d.length : Int) ≤ 100) && decide (((sumT (d.take (min d.length 200)) : Nat) : Int) ≤ 2000), ?_, fun h => ?_⟩
  · refine upto (P := fun k (s : Int) v => ref04_Few.l1 d _ k s v) (min d.length 200) (fun i s => s = ((sumT (d.take i) : Nat) : Int)) ?_ ?_ _ (by simp [sumT])
    · rintro i s hi rfl
      have hd : i < d.length := by omega
      have h1 := sumT_le (l := d.take i) fun n hn => ht n (List.mem_of_mem_take hn)
      have h2 := ht _ (List.getElem_mem hd)
      have h3 : (d.take i).length = i := by simp; omega
      rw [h3] at h1
      have h4 : i * 140737488351232 ≤ 200 * 140737488351232 := Nat.mul_le_mul_right _ (by omega)
      have e : sumT (d.take (i + 1)) = sumT (d.take i) + d[i].2.2.2.2.2.2.length := by
        unfold sumT
        rw [List.take_succ_eq_append_getElem hd, List.map_append, List.sum_append]
        simp only [List.map_cons, List.map_nil, List.sum_cons, List.sum_nil, Nat.add_zero]
      refine .inr ⟨_, rfl, fun k h => ⟨true, by simp; omega, fun _ => ⟨d[i], by rw [at_nat]; simp [hd], i64_of (by omega) (by omega), i64_of (by omega) (by omega), ?_⟩, (fun h => by cases h)⟩⟩
      rw [e] at h
      simpa using h
    · rintro s rfl k
      exact ⟨false, by simp; omega, (fun h => by cases h), fun _ => ⟨_, rfl, rfl⟩⟩
  · simp only [Bool.and_eq_true, decide_eq_true_eq] at h
    omega
theorem byte_in {s : Str} {i : Int} (h0 : 0 ≤ i) (h1 : i < (s.length : Int)) : ∃ c, byte? s i = some c := by
  obtain ⟨x, hx, _⟩ := at_in h0 h1
  exact ⟨_, by unfold byte?; rw [hx]; rfl⟩
theorem in_ex (s : Str) {i : Int} (f t : Int) (h0 : 0 ≤ i) : ∃ r, ref03_in s i f t r := by
  by_cases h1 : i < (s.length : Int)
  · obtain ⟨c, hc⟩ := byte_in h0 h1
    exact ⟨_, c, fun _ => hc, _, rfl, c, fun _ => hc, rfl⟩
  · exact ⟨_, 0, fun h => absurd (dt h) h1, _, rfl, 0, fun h => absurd h (by simp [h1]), rfl⟩
theorem utf8_ex {s : Str} (hl : s.length ≤ 140737488351232) : ∃ r, ref03_Utf8 s r := by
  have key : ∀ (m : Nat) (i : Int), 0 ≤ i → (s.length : Int) + 4 - i ≤ m → i ≤ (s.length : Int) + 4 → ∃ q : Bool × Nat, ref03_Utf8.l1 s q.1 (ref03_Utf8.j1 q.1) q.2 i := by
    intro m
    induction m with
    | zero =>
      intro i h0 h1 h2
      exact ⟨(true, 1), fun h => absurd (dt h) (by omega), fun _ => rfl⟩
    | succ m ih =>
      intro i h0 h1 h2
      suffices h : ∃ q : Bool × Nat, ref03_Utf8.l1 s q.1 (ref03_Utf8.j1 q.1) (q.2 + 1) i by
        obtain ⟨q, hq⟩ := h
        exact ⟨(q.1, q.2 + 1), hq⟩
      unfold ref03_Utf8.l1
      refine pick (fun hd => ?_) (fun hd => ⟨(true, 0), rfl⟩)
      have hlt := dt hd
      obtain ⟨c, hc⟩ := byte_in h0 hlt
      obtain ⟨r17, h17⟩ := in_ex s (i := i + 1) 128 191 (by omega)
      obtain ⟨r21, h21⟩ := in_ex s (i := i + 2) 128 191 (by omega)
      obtain ⟨r25, h25⟩ := in_ex s (i := i + 3) 128 191 (by omega)
      obtain ⟨r35, h35⟩ := in_ex s (i := i + 1) 160 191 (by omega)
      obtain ⟨r44, h44⟩ := in_ex s (i := i + 1) 128 159 (by omega)
      obtain ⟨r49, h49⟩ := in_ex s (i := i + 1) 144 191 (by omega)
      obtain ⟨r58, h58⟩ := in_ex s (i := i + 1) 128 143 (by omega)
      have i1 : InR .i64 (i + 1) := i64_of (by omega) (by omega)
      have i2 : InR .i64 (i + 2) := i64_of (by omega) (by omega)
      have i3 : InR .i64 (i + 3) := i64_of (by omega) (by omega)
      have i4 : InR .i64 (i + 4) := i64_of (by omega) (by omega)
      have g1 := ih (i + 1) (by omega) (by omega) (by omega)
      have g2 := ih (i + 2) (by omega) (by omega) (by omega)
      have g3 := ih (i + 3) (by omega) (by omega) (by omega)
      have g4 := ih (i + 4) (by omega) (by omega) (by omega)
      refine exl c (andl hc (andl i1 (exl r17 (andl h17 (andl i2 (exl r21 (andl h21 (andl i3 (exl r25 (andl h25 (pick (fun _ => andl i1 g1) (fun _ => ?_))))))))))))
      refine exl _ (andl rfl (pick (fun _ => andl i2 g2) (fun _ => ?_)))
      refine andl (fun _ => i1) (exl r35 (andl (fun _ => h35) (pick (fun _ => andl i3 g3) (fun _ => ?_))))
      refine exl _ (andl rfl (pick (fun _ => andl i3 g3) (fun _ => ?_)))
      refine andl (fun _ => i1) (exl r44 (andl (fun _ => h44) (pick (fun _ => andl i3 g3) (fun _ => ?_))))
      refine andl (fun _ => i1) (exl r49 (andl (fun _ => h49) (pick (fun _ => andl i4 g4) (fun _ => ?_))))
      refine exl _ (andl rfl (pick (fun _ => andl i4 g4) (fun _ => ?_)))
      refine andl (fun _ => i1) (exl r58 (andl (fun _ => h58) (pick (fun _ => andl i4 g4) (fun _ => ?_))))
      exact ⟨(false, 0), rfl⟩
  obtain ⟨q, hq⟩ := key (s.length + 4) 0 (by omega) (by omega) (by omega)
  exact ⟨q.1, q.2, hq⟩
theorem text_ex {s : Str} (hl : s.length ≤ 140737488351232) : ∃ r, ref04_text s r ∧ (r = true → s ≠ []) := by
  obtain ⟨u, hu⟩ := utf8_ex hl
  have tne : ∀ u : Bool, (decide (0 < (s.length : Int)) && u) = true → s ≠ [] := fun u h e => by subst e; simp at h
  have key : ∀ (m : Nat) (i : Int), 0 ≤ i → (s.length : Int) - i ≤ m → i ≤ (s.length : Int) → ∃ q : Bool × Nat, ref04_text.l1 s q.1 (ref04_text.j1 s q.1) q.2 i ∧ (q.1 = true → s ≠ []) := by
    intro m
    induction m with
    | zero =>
      intro i h0 h1 h2
      exact ⟨(decide (0 < (s.length : Int)) && u, 1), ⟨fun h => absurd (dt h) (by omega), fun _ => ⟨u, fun _ => hu, rfl⟩⟩, tne u⟩
    | succ m ih =>
      intro i h0 h1 h2
      by_cases hlt : i < (s.length : Int)
      · obtain ⟨c, hc⟩ := byte_in h0 hlt
        by_cases h34 : c = 34
        · exact ⟨(false, 1), ⟨fun _ => ⟨c, hc, fun _ => rfl, fun h => by simp [h34] at h⟩, fun h => absurd hlt (df h)⟩, (fun h => by cases h)⟩
        · obtain ⟨q, hq, hq2⟩ := ih (i + 1) (by omega) (by omega) (by omega)
          exact ⟨(q.1, q.2 + 1), ⟨fun _ => ⟨c, hc, fun h => by simp at h; exact absurd h h34, fun _ => ⟨i64_of (by omega) (by omega), hq⟩⟩, fun h => absurd hlt (df h)⟩, hq2⟩
      · exact ⟨(decide (0 < (s.length : Int)) && u, 1), ⟨fun h => absurd (dt h) hlt, fun _ => ⟨u, fun _ => hu, rfl⟩⟩, tne u⟩
  obtain ⟨q, hq, hq2⟩ := key s.length 0 (by omega) (by omega) (by omega)
  exact ⟨q.1, ⟨q.2, hq⟩, hq2⟩
end Go.Proofs.YtdidjelkkanenaaDoor.V
namespace Go.Proofs.YtdidjelkkanenaaDoor.V
open Go
set_option linter.unusedVariables false
inductive Tr (l : List SNode) : Int → Int → Prop
  | leaf {i : Int} {e : SNode} (he : at? l i = some e) (hk : e.1 = 1 ∨ e.1 = 2 ∨ e.1 = 3) (hx : e.1 = 3 → e.2.2.2.2.2.2 ≠ []) (h0 : e.2.1 = 0 ∧ e.2.2.1 = 0) : Tr l i i
  | one {f i : Int} {e : SNode} (he : at? l i = some e) (hk : e.1 = 6 ∨ e.1 = 7 ∨ e.1 = 8 ∨ e.1 = 9) (ha : e.2.1 = i - 1) (hb : e.2.2.1 = 0) (hr : e.1 = 7 → 0 ≤ e.2.2.2.1 ∧ e.2.2.2.1 ≤ e.2.2.2.2.1 ∧ e.2.2.2.2.1 ≤ 255) (h : Tr l f (i - 1)) : Tr l f i
  | two {f p i : Int} {e : SNode} (he : at? l i = some e) (hk : e.1 = 4 ∨ e.1 = 5) (ha : e.2.1 = p - 1) (hb : e.2.2.1 = i - 1) (h1 : Tr l p (i - 1)) (h2 : Tr l f (p - 1)) : Tr l f i
theorem Tr.le {l : List SNode} {f i : Int} (h : Tr l f i) : 0 ≤ f ∧ f ≤ i := by
  induction h with
  | leaf he _ _ _ => exact ⟨(at_bound he).1, Int.le_refl _⟩
  | one _ _ _ _ _ _ ih => omega
  | two _ _ _ _ _ _ i1 i2 => omega
theorem Tr.lt {l : List SNode} {f i : Int} (h : Tr l f i) : i < (l.length : Int) := by
  cases h with
  | leaf he _ _ _ => exact (at_bound he).2
  | one he _ _ _ _ _ => exact (at_bound he).2
  | two he _ _ _ _ _ => exact (at_bound he).2
theorem Tr.sub {l : List SNode} {f i : Int} (h : Tr l f i) : ∀ k, f ≤ k → k ≤ i → ∃ g, Tr l g k ∧ f ≤ g := by
  induction h with
  | leaf he hk hx h0 =>
    rename_i i e
    intro k h1 h2
    obtain rfl : k = i := by omega
    exact ⟨k, .leaf he hk hx h0, Int.le_refl _⟩
  | one he hk ha hb hr h ih =>
    rename_i f i e
    intro k h1 h2
    by_cases hki : k = i
    · subst hki; exact ⟨f, .one he hk ha hb hr h, Int.le_refl _⟩
    · exact ih k h1 (by omega)
  | two he hk ha hb h1 h2 i1 i2 =>
    rename_i f p i e
    intro k k1 k2
    have l1 := h1.le
    have l2 := h2.le
    by_cases hki : k = i
    · subst hki; exact ⟨f, .two he hk ha hb h1 h2, Int.le_refl _⟩
    · by_cases hkp : p ≤ k
      · obtain ⟨g, g1, g2⟩ := i1 k hkp (by omega)
        exact ⟨g, g1, by omega⟩
      · exact i2 k k1 (by omega)
def FirstOk (l : List SNode) (i r : Int) : Prop := r = -1 ∨ Tr l r i
theorem first_ex {l : List SNode} (hl : l.length ≤ 1000) (ht : ∀ n ∈ l, n.2.2.2.2.2.2.length ≤ 140737488351232) : ∀ (m : Nat) (i : Int), i < (m : Int) → -1 ≤ i → i < (l.length : Int) → ∃ r, ref04_First.n (m + 1) l i r ∧ FirstOk l i r := by
  intro m
  induction m with
  | zero =>
    intro i h1 h2 h3
    exact ⟨-1, ⟨fun _ => rfl, fun h => absurd (by omega) (df h)⟩, .inl rfl⟩
  | succ m ih =>
    intro i h1 h2 h3
    by_cases h0 : i < 0
    · exact ⟨-1, ⟨fun _ => rfl, fun h => absurd h0 (df h)⟩, .inl rfl⟩
    · obtain ⟨e, he, hm⟩ := at_in (xs := l) (i := i) (by omega) h3
      have i1 : InR .i64 (i - 1) := i64_of (by omega) (by omega)
      obtain ⟨p, hp, hpo⟩ := ih (i - 1) (by omega) (by omega) (by omega)
      have one : ∀ w : SNode, (e = w → w.2.1 = i - 1 ∧ (w.1 = 6 ∨ w.1 = 7 ∨ w.1 = 8 ∨ w.1 = 9) ∧ (w.1 = 7 → 0 ≤ w.2.2.2.1 ∧ w.2.2.2.1 ≤ w.2.2.2.2.1 ∧ w.2.2.2.2.1 ≤ 255) ∧ w.2.2.1 = 0) → ∃ r, ref04_First.j1 (ref04_First.n (m + 1)) l i r e w ∧ FirstOk l i r := by
        intro w hw
        by_cases hew : e = w
        · refine ⟨p, ⟨i1, p, hp, fun h => by simp [hew] at h, fun _ => rfl⟩, ?_⟩
          rcases hpo with rfl | p0
          · exact .inl rfl
          · obtain ⟨w1, w2, w3, w4⟩ := hw hew
            exact .inr (.one he (by rw [hew]; exact w2) (by rw [hew]; exact w1) (by rw [hew]; exact w4) (by rw [hew]; exact w3) p0)
        · exact ⟨-1, ⟨i1, p, hp, fun _ => rfl, fun h => by simp at h; exact absurd h hew⟩, .inl rfl⟩
      have two : (e.1 = 4 ∨ e.1 = 5) → ∃ r, ref04_First.j2 (ref04_First.n (m + 1)) l i r e true ∧ FirstOk l i r := by
        intro hk
        by_cases hp0 : p < 0
        · exact ⟨-1, ⟨fun _ => ⟨i1, i1, p, hp, fun _ => rfl, fun h => absurd hp0 (df h)⟩, (fun h => by cases h)⟩, .inl rfl⟩
        · have htr : Tr l p (i - 1) := by
            rcases hpo with rfl | h
            · omega
            · exact h
          have p1 := htr.le
          obtain ⟨q, hq, hqo⟩ := ih (p - 1) (by omega) (by omega) (by omega)
          have j1 : InR .i64 (p - 1) := i64_of (by omega) (by omega)
          by_cases hew : e = (e.1, p - 1, i - 1, 0, 0, (0#256), ([] : Str))
          · refine ⟨q, ⟨fun _ => ⟨i1, i1, p, hp, fun h => absurd (dt h) hp0, fun _ => ⟨j1, j1, q, hq, false, ?_, (fun h => by cases h), fun _ => rfl⟩⟩, (fun h => by cases h)⟩, ?_⟩
            · have : (e != (e.1, p - 1, i - 1, 0, 0, (0#256), ([] : Str))) = false := by rw [← hew]; simp
              exact this.symm
            · rcases hqo with rfl | q0
              · exact .inl rfl
              · exact .inr (.two he hk (by rw [hew]) (by rw [hew]) htr q0)
          · refine ⟨-1, ⟨fun _ => ⟨i1, i1, p, hp, fun h => absurd (dt h) hp0, fun _ => ⟨j1, j1, q, hq, true, ?_, fun _ => rfl, (fun h => by cases h)⟩⟩, (fun h => by cases h)⟩, .inl rfl⟩
            exact (bne_iff_ne.2 hew).symm
      have three : (e.1 = 6 ∨ e.1 = 7 ∨ e.1 = 8 ∨ e.1 = 9) → ∃ r, ref04_First.j3 (ref04_First.n (m + 1)) l i r e true ∧ FirstOk l i r := by
        intro hk
        by_cases h7 : e.1 = 7
        · by_cases hb : ((decide (e.2.2.2.1 < 0)) || (decide (e.2.2.2.2.1 < e.2.2.2.1)) || (decide (255 < e.2.2.2.2.1))) = true
          · exact ⟨-1, ⟨fun _ => ⟨i1, fun _ => ⟨_, rfl, fun _ => rfl, fun h => by rw [hb] at h; cases h⟩, fun h => by simp [h7] at h⟩, (fun h => by cases h)⟩, .inl rfl⟩
          · obtain ⟨r, hr1, hr2⟩ := one (e.1, i - 1, 0, e.2.2.2.1, e.2.2.2.2.1, (0#256), ([] : Str)) fun _ => ⟨rfl, hk, fun _ => by
              simp only [Bool.or_eq_true, decide_eq_true_eq, not_or] at hb
              exact ⟨by show (0 : Int) ≤ e.2.2.2.1; omega, by show e.2.2.2.1 ≤ e.2.2.2.2.1; omega, by show e.2.2.2.2.1 ≤ 255; omega⟩, rfl⟩
            exact ⟨r, ⟨fun _ => ⟨i1, fun _ => ⟨_, rfl, fun h => absurd h hb, fun _ => hr1⟩, fun h => by simp [h7] at h⟩, (fun h => by cases h)⟩, hr2⟩
        · obtain ⟨r, hr1, hr2⟩ := one (e.1, i - 1, 0, 0, 0, (0#256), ([] : Str)) fun _ => ⟨rfl, hk, fun h => absurd h h7, rfl⟩
          exact ⟨r, ⟨fun _ => ⟨i1, fun h => by simp at h; exact absurd h h7, fun _ => hr1⟩, (fun h => by cases h)⟩, hr2⟩
      have ne : ∀ {a b : Int}, a ≠ b → (a == b) = true → False := fun h k => h (eq_of_beq k)
      have last : ∀ b : Bool, (b = true ↔ e.1 = 9) → e.1 ≠ 6 → e.1 ≠ 7 → e.1 ≠ 8 → ∃ r, ref04_First.j3 (ref04_First.n (m + 1)) l i r e b ∧ FirstOk l i r := by
        intro b hb n6 n7 n8
        cases b
        · have n9 : e.1 ≠ 9 := fun h => by have := hb.2 h; cases this
          by_cases h4 : e.1 = 4
          · obtain ⟨r, hr1, hr2⟩ := two (.inl h4)
            exact ⟨r, ⟨(fun h => by cases h), fun _ => ⟨fun h => by rw [h]; exact hr1, fun h => by simp [h4] at h⟩⟩, hr2⟩
          · by_cases h5 : e.1 = 5
            · obtain ⟨r, hr1, hr2⟩ := two (.inr h5)
              have e5 : (e.1 == 5) = true := by simp [h5]
              exact ⟨r, ⟨(fun h => by cases h), fun _ => ⟨fun h => by simp at h; exact absurd h h4, fun _ => by rw [e5]; exact hr1⟩⟩, hr2⟩
            · have e5 : (e.1 == 5) = false := by simp [h5]
              exact ⟨-1, ⟨(fun h => by cases h), fun _ => ⟨fun h => by simp at h; exact absurd h h4, fun _ => by rw [e5]; exact ⟨(fun h => by cases h), fun _ => rfl⟩⟩⟩, .inl rfl⟩
        · exact three (.inr (.inr (.inr (hb.1 rfl))))
      suffices h : ∃ r, (∃ e6 : SNode, at? l i = some e6 ∧ _) ∧ FirstOk l i r by
        obtain ⟨r, hr, ho⟩ := h
        exact ⟨r, ⟨fun h => absurd (dt h) h0, fun _ => hr⟩, ho⟩
      by_cases k1 : e.1 = 1
      · by_cases hw : e = (e.1, 0, 0, 0, 0, (0#256), ([] : Str))
        · exact ⟨i, ⟨e, he, fun _ => ⟨fun h => by rw [← hw] at h; simp at h, fun _ => rfl⟩, fun h => by simp [k1] at h⟩, .inr (.leaf he (.inl k1) (fun h => by omega) ⟨by rw [hw], by rw [hw]⟩)⟩
        · exact ⟨-1, ⟨e, he, fun _ => ⟨fun _ => rfl, fun h => by simp at h; exact absurd h hw⟩, fun h => by simp [k1] at h⟩, .inl rfl⟩
      · by_cases k2 : e.1 = 2
        · by_cases hw : e = (e.1, 0, 0, 0, 0, e.2.2.2.2.2.1, ([] : Str))
          · exact ⟨i, ⟨e, he, fun h => (ne k1 h).elim, fun _ => ⟨fun _ => ⟨false, by rw [← hw]; simp, (fun h => by cases h), fun _ => rfl⟩, fun h => by simp [k2] at h⟩⟩, .inr (.leaf he (.inr (.inl k2)) (fun h => by omega) ⟨by rw [hw], by rw [hw]⟩)⟩
          · exact ⟨-1, ⟨e, he, fun h => (ne k1 h).elim, fun _ => ⟨fun _ => ⟨true, (bne_iff_ne.2 hw).symm, fun _ => rfl, (fun h => by cases h)⟩, fun h => by simp [k2] at h⟩⟩, .inl rfl⟩
        · by_cases k3 : e.1 = 3
          · obtain ⟨t, htx, htn⟩ := text_ex (ht e hm)
            cases t
            · exact ⟨-1, ⟨e, he, fun h => (ne k1 h).elim, fun _ => ⟨fun h => (ne k2 h).elim, fun _ => ⟨fun _ => ⟨false, htx, fun _ => rfl, (fun h => by cases h)⟩, fun h => by simp [k3] at h⟩⟩⟩, .inl rfl⟩
            · by_cases hw : e = (e.1, 0, 0, 0, 0, (0#256), e.2.2.2.2.2.2)
              · exact ⟨i, ⟨e, he, fun h => (ne k1 h).elim, fun _ => ⟨fun h => (ne k2 h).elim, fun _ => ⟨fun _ => ⟨true, htx, (fun h => by cases h), fun _ => ⟨false, by rw [← hw]; simp, (fun h => by cases h), fun _ => rfl⟩⟩, fun h => by simp [k3] at h⟩⟩⟩, .inr (.leaf he (.inr (.inr k3)) (fun _ => htn rfl) ⟨by rw [hw], by rw [hw]⟩)⟩
              · exact ⟨-1, ⟨e, he, fun h => (ne k1 h).elim, fun _ => ⟨fun h => (ne k2 h).elim, fun _ => ⟨fun _ => ⟨true, htx, (fun h => by cases h), fun _ => ⟨true, (bne_iff_ne.2 hw).symm, fun _ => rfl, (fun h => by cases h)⟩⟩, fun h => by simp [k3] at h⟩⟩⟩, .inl rfl⟩
          · by_cases k6 : e.1 = 6
            · obtain ⟨r, hr1, hr2⟩ := three (.inl k6)
              exact ⟨r, ⟨e, he, fun h => (ne k1 h).elim, fun _ => ⟨fun h => (ne k2 h).elim, fun _ => ⟨fun h => (ne k3 h).elim, fun _ => ⟨fun h => by rw [h]; exact hr1, fun h => by simp [k6] at h⟩⟩⟩⟩, hr2⟩
            · by_cases k7 : e.1 = 7
              · obtain ⟨r, hr1, hr2⟩ := three (.inr (.inl k7))
                exact ⟨r, ⟨e, he, fun h => (ne k1 h).elim, fun _ => ⟨fun h => (ne k2 h).elim, fun _ => ⟨fun h => (ne k3 h).elim, fun _ => ⟨fun h => (ne k6 h).elim, fun _ => ⟨fun h => by rw [h]; exact hr1, fun h => by simp [k7] at h⟩⟩⟩⟩⟩, hr2⟩
              · by_cases k8 : e.1 = 8
                · obtain ⟨r, hr1, hr2⟩ := three (.inr (.inr (.inl k8)))
                  exact ⟨r, ⟨e, he, fun h => (ne k1 h).elim, fun _ => ⟨fun h => (ne k2 h).elim, fun _ => ⟨fun h => (ne k3 h).elim, fun _ => ⟨fun h => (ne k6 h).elim, fun _ => ⟨fun h => (ne k7 h).elim, fun _ => ⟨fun h => by rw [h]; exact hr1, fun h => by simp [k8] at h⟩⟩⟩⟩⟩⟩, hr2⟩
                · obtain ⟨r, hr1, hr2⟩ := last (e.1 == 9) beq_iff_eq k6 k7 k8
                  exact ⟨r, ⟨e, he, fun h => (ne k1 h).elim, fun _ => ⟨fun h => (ne k2 h).elim, fun _ => ⟨fun h => (ne k3 h).elim, fun _ => ⟨fun h => (ne k6 h).elim, fun _ => ⟨fun h => (ne k7 h).elim, fun _ => ⟨fun h => (ne k8 h).elim, fun _ => hr1⟩⟩⟩⟩⟩⟩, hr2⟩
theorem form_ex {d : List SNode} (hl : d.length ≤ 1000) (ht : ∀ n ∈ d, n.2.2.2.2.2.2.length ≤ 140737488351232) : ∃ r, ref04_Form d r ∧ (r = true → Tr d 0 ((d.length : Int) - 1)) := by
  obtain ⟨r, hr, ho⟩ := first_ex hl ht d.length ((d.length : Int) - 1) (by omega) (by omega) (by omega)
  refine ⟨_, ⟨fun _ => i64_of (by omega) (by omega), r, fun _ => ⟨_, hr⟩, rfl⟩, fun h => ?_⟩
  simp only [Bool.and_eq_true, decide_eq_true_eq, beq_iff_eq] at h
  rcases ho with rfl | h2
  · omega
  · rw [h.2] at h2; exact h2
theorem min2 {x : Int} (h : 0 ≤ x) : 0 ≤ min 2 x ∧ min 2 x ≤ 2 := by omega
def powW (a : Nat) (t : Nat) : Nat := if t = 0 then 1 else if a = 0 then 0 else if a = 1 then 1 else 2
theorem powW_le (a t : Nat) : powW a t ≤ 2 := by
  unfold powW
  split
  · omega
  · split
    · omega
    · split <;> omega
theorem powW_step {a : Nat} (ha : a ≤ 2) (t : Nat) : min 2 (powW a t * a) = powW a (t + 1) := by
  have : a = 0 ∨ a = 1 ∨ a = 2 := by omega
  unfold powW
  by_cases ht : t = 0
  · subst ht
    rcases this with rfl | rfl | rfl <;> simp
  · rcases this with rfl | rfl | rfl <;> simp [ht]
def sumW (a lo : Nat) : Nat → Nat
  | 0 => 0
  | m + 1 => min 2 (sumW a lo m + powW a (lo + m))
theorem sumW_le (a lo m : Nat) : sumW a lo m ≤ 2 := by
  cases m with
  | zero => simp [sumW]
  | succ m => simp only [sumW]; omega
theorem sumW_zero (a lo : Nat) : ∀ m, sumW a lo m ≠ 0 ↔ ∃ t, t < m ∧ powW a (lo + t) ≠ 0
  | 0 => by simp [sumW]
  | m + 1 => by
    have ih := sumW_zero a lo m
    simp only [sumW]
    constructor
    · intro h
      by_cases h1 : sumW a lo m ≠ 0
      · obtain ⟨t, h2, h3⟩ := ih.1 h1
        exact ⟨t, by omega, h3⟩
      · exact ⟨m, by omega, by omega⟩
    · rintro ⟨t, h1, h2⟩
      by_cases htm : t = m
      · subst htm; omega
      · have := ih.2 ⟨t, by omega, h2⟩
        omega
theorem powW_zero {a t : Nat} : powW a t ≠ 0 ↔ t = 0 ∨ a ≠ 0 := by
  unfold powW
  by_cases h1 : t = 0
  · simp [h1]
  · by_cases h2 : a = 0
    · simp [h1, h2]
    · rw [if_neg h1, if_neg h2]
      split <;> simp [h1, h2]
structure NOk (d : List SNode) : Prop where
  two : ∀ (i : Int) n, at? d i = some n → (n.1 = 4 ∨ n.1 = 5) → (0 ≤ n.2.1 ∧ n.2.1 < i) ∧ (0 ≤ n.2.2.1 ∧ n.2.2.1 < i)
  one : ∀ (i : Int) n, at? d i = some n → (n.1 = 6 ∨ n.1 = 7 ∨ n.1 = 8 ∨ n.1 = 9) → 0 ≤ n.2.1 ∧ n.2.1 < i
  rep : ∀ (i : Int) n, at? d i = some n → n.1 = 7 → 0 ≤ n.2.2.2.1 ∧ n.2.2.2.1 ≤ n.2.2.2.2.1 ∧ n.2.2.2.2.1 ≤ 255
  kind : ∀ (i : Int) n, at? d i = some n → 1 ≤ n.1 ∧ n.1 ≤ 9
  ntx : ∀ (i : Int) n, at? d i = some n → n.1 = 3 → n.2.2.2.2.2.2 ≠ []
theorem Tr.node {l : List SNode} {f i : Int} (h : Tr l f i) {n : SNode} (hn : at? l i = some n) :
    ((n.1 = 4 ∨ n.1 = 5) → (0 ≤ n.2.1 ∧ n.2.1 < i) ∧ (0 ≤ n.2.2.1 ∧ n.2.2.1 < i)) ∧ ((n.1 = 6 ∨ n.1 = 7 ∨ n.1 = 8 ∨ n.1 = 9) → 0 ≤ n.2.1 ∧ n.2.1 < i) ∧ (n.1 = 7 → 0 ≤ n.2.2.2.1 ∧ n.2.2.2.1 ≤ n.2.2.2.2.1 ∧ n.2.2.2.2.1 ≤ 255) ∧ (1 ≤ n.1 ∧ n.1 ≤ 9) ∧ (n.1 = 3 → n.2.2.2.2.2.2 ≠ []) := by
  cases h with
  | leaf he hk hx h0 =>
    rw [hn] at he; cases he
    exact ⟨fun h => by omega, fun h => by omega, fun h => by omega, by omega, hx⟩
  | one he hk ha hb hr h =>
    rw [hn] at he; cases he
    have := h.le
    exact ⟨fun h => by omega, fun h => by omega, hr, by omega, fun h => by omega⟩
  | two he hk ha hb h1 h2 =>
    rw [hn] at he; cases he
    have := h1.le
    have := h2.le
    exact ⟨fun h => by omega, fun h => by omega, fun h => by omega, by omega, fun h => by omega⟩
theorem Tr.at {d : List SNode} (h : Tr d 0 ((d.length : Int) - 1)) {i : Int} {n : SNode} (hn : at? d i = some n) : ∃ g, Tr d g i := by
  have hb := at_bound hn
  obtain ⟨g, hg, _⟩ := h.sub i hb.1 (by omega)
  exact ⟨g, hg⟩
theorem Tr.nok {d : List SNode} (h : Tr d 0 ((d.length : Int) - 1)) : NOk d :=
  ⟨fun i n hn => let ⟨g, hg⟩ := h.at hn; (hg.node hn).1, fun i n hn => let ⟨g, hg⟩ := h.at hn; (hg.node hn).2.1, fun i n hn => let ⟨g, hg⟩ := h.at hn; (hg.node hn).2.2.1, fun i n hn => let ⟨g, hg⟩ := h.at hn; (hg.node hn).2.2.2.1, fun i n hn => let ⟨g, hg⟩ := h.at hn; (hg.node hn).2.2.2.2⟩
def WV (d : List SNode) : Nat → Int → Nat
  | 0, _ => 0
  | k + 1, i => match at? d i with
    | none => 0
    | some n =>
      if n.1 = 1 then 1
      else if n.1 = 4 then min 2 (WV d k n.2.1 * WV d k n.2.2.1)
      else if n.1 = 5 then min 2 (WV d k n.2.1 + WV d k n.2.2.1)
      else if n.1 = 6 then (if 0 < WV d k n.2.1 then 2 else 1)
      else if n.1 = 7 then sumW (WV d k n.2.1) n.2.2.2.1.toNat (n.2.2.2.2.1 + 1 - n.2.2.2.1).toNat
      else 0
theorem WV_le (d : List SNode) (k : Nat) (i : Int) : WV d k i ≤ 2 := by
  cases k with
  | zero => simp [WV]
  | succ k =>
    unfold WV
    cases at? d i with
    | none => simp
    | some n =>
      simp only
      split
      · omega
      · split
        · omega
        · split
          · omega
          · split
            · split <;> omega
            · split
              · exact sumW_le _ _ _
              · omega
theorem WV_fuel {d : List SNode} (hd : NOk d) : ∀ (k k' : Nat) (i : Int), i < (k : Int) → i < (k' : Int) → WV d k i = WV d k' i
  | 0, k', i, h, h' => by
    have : at? d i = none := by
      unfold at?
      rw [if_neg (by omega)]
    cases k' <;> simp [WV, this]
  | k + 1, 0, i, h, h' => by
    have : at? d i = none := by
      unfold at?
      rw [if_neg (by omega)]
    simp [WV, this]
  | k + 1, k' + 1, i, h, h' => by
    cases hn : at? d i with
    | none => simp only [WV, hn]
    | some n =>
      simp only [WV, hn]
      by_cases h4 : n.1 = 4
      · obtain ⟨⟨a, b⟩, c, e⟩ := hd.two _ n hn (.inl h4)
        rw [WV_fuel hd k k' n.2.1 (by omega) (by omega), WV_fuel hd k k' n.2.2.1 (by omega) (by omega)]
      · by_cases h5 : n.1 = 5
        · obtain ⟨⟨a, b⟩, c, e⟩ := hd.two _ n hn (.inr h5)
          rw [WV_fuel hd k k' n.2.1 (by omega) (by omega), WV_fuel hd k k' n.2.2.1 (by omega) (by omega)]
        · by_cases h6 : n.1 = 6 ∨ n.1 = 7
          · obtain ⟨a, b⟩ := hd.one _ n hn (by omega)
            rw [WV_fuel hd k k' n.2.1 (by omega) (by omega)]
            simp [h4, h5]
          · simp only [not_or] at h6
            simp [h4, h5, h6.1, h6.2]
def wv (d : List SNode) (i : Int) : Nat := WV d d.length i
theorem wv_at {d : List SNode} (hd : NOk d) {i : Int} {n : SNode} (hn : at? d i = some n) : wv d i =
    (if n.1 = 1 then 1
      else if n.1 = 4 then min 2 (wv d n.2.1 * wv d n.2.2.1)
      else if n.1 = 5 then min 2 (wv d n.2.1 + wv d n.2.2.1)
      else if n.1 = 6 then (if 0 < wv d n.2.1 then 2 else 1)
      else if n.1 = 7 then sumW (wv d n.2.1) n.2.2.2.1.toNat (n.2.2.2.2.1 + 1 - n.2.2.2.1).toNat
      else 0) := by
  obtain ⟨hb0, hb1⟩ := at_bound hn
  unfold wv
  rw [WV_fuel hd d.length (d.length + 1) i hb1 (by omega)]
  simp only [WV, hn]
theorem nz_atN {d : List SNode} (hd : NOk d) {i : Int} {n : SNode} (h : at? d i = some n) : nz d i =
    (if n.1 = 1 then true else if n.1 = 4 then nz d n.2.1 && nz d n.2.2.1 else if n.1 = 5 then nz d n.2.1 || nz d n.2.2.1 else if n.1 = 6 then true else if n.1 = 7 then decide (n.2.2.2.1 = 0) || nz d n.2.1 else false) := by
  obtain ⟨k, rfl, hk⟩ := at_nn h
  have e := nzL_at hk
  have e2 : nz d (k : Int) = nzN ((nzL d).take k) n := by unfold nz; rw [at_nat, e]; rfl
  rw [e2]
  unfold nzN
  by_cases h1 : n.1 = 1
  · simp [h1]
  · by_cases h4 : n.1 = 4
    · obtain ⟨⟨a, b⟩, c, e⟩ := hd.two _ n h (.inl h4)
      rw [if_neg h1, if_pos h4, if_neg h1, if_pos h4, at_take a b, at_take c e]; rfl
    · by_cases h5 : n.1 = 5
      · obtain ⟨⟨a, b⟩, c, e⟩ := hd.two _ n h (.inr h5)
        rw [if_neg h1, if_neg h4, if_pos h5, if_neg h1, if_neg h4, if_pos h5, at_take a b, at_take c e]; rfl
      · by_cases h6 : n.1 = 6
        · simp [h6]
        · by_cases h7 : n.1 = 7
          · obtain ⟨a, b⟩ := hd.one _ n h (.inr (.inl h7))
            rw [if_neg h1, if_neg h4, if_neg h5, if_neg h6, if_pos h7, if_neg h1, if_neg h4, if_neg h5, if_neg h6, if_pos h7, at_take a b]; rfl
          · simp [h1, h4, h5, h6, h7]
theorem wv_nz {d : List SNode} (hd : NOk d) : ∀ (k : Nat) (i : Int) (n : SNode), i < (k : Int) → at? d i = some n → (wv d i ≠ 0 ↔ nz d i = true)
  | 0, i, n, hi, hn => by have := at_bound hn; omega
  | k + 1, i, n, hi, hn => by
    have ih := wv_nz hd k
    rw [wv_at hd hn, nz_atN hd hn]
    by_cases h1 : n.1 = 1
    · simp [h1]
    · by_cases h4 : n.1 = 4
      · obtain ⟨⟨a, b⟩, c, e⟩ := hd.two _ n hn (.inl h4)
        obtain ⟨m1, hm1⟩ := at_lt hn a b
        obtain ⟨m2, hm2⟩ := at_lt hn c e
        rw [if_neg h1, if_pos h4, if_neg h1, if_pos h4, Bool.and_eq_true, ← ih _ m1 (by omega) hm1, ← ih _ m2 (by omega) hm2, ← Nat.mul_ne_zero_iff]
        omega
      · by_cases h5 : n.1 = 5
        · obtain ⟨⟨a, b⟩, c, e⟩ := hd.two _ n hn (.inr h5)
          obtain ⟨m1, hm1⟩ := at_lt hn a b
          obtain ⟨m2, hm2⟩ := at_lt hn c e
          rw [if_neg h1, if_neg h4, if_pos h5, if_neg h1, if_neg h4, if_pos h5, Bool.or_eq_true, ← ih _ m1 (by omega) hm1, ← ih _ m2 (by omega) hm2]
          omega
        · by_cases h6 : n.1 = 6
          · simp [h6]; split <;> omega
          · by_cases h7 : n.1 = 7
            · obtain ⟨a, b⟩ := hd.one _ n hn (.inr (.inl h7))
              obtain ⟨r0, r1, r2⟩ := hd.rep _ n hn h7
              obtain ⟨m1, hm1⟩ := at_lt hn a b
              rw [if_neg h1, if_neg h4, if_neg h5, if_neg h6, if_pos h7, if_neg h1, if_neg h4, if_neg h5, if_neg h6, if_pos h7, sumW_zero, Bool.or_eq_true, ← ih _ m1 (by omega) hm1, decide_eq_true_eq]
              constructor
              · rintro ⟨t, h1, h2⟩
                rcases powW_zero.1 h2 with h3 | h3
                · exact .inl (by omega)
                · exact .inr h3
              · rintro (h3 | h3)
                · exact ⟨0, by omega, powW_zero.2 (.inl (by omega))⟩
                · exact ⟨0, by omega, powW_zero.2 (.inr h3)⟩
            · simp [h1, h4, h5, h6, h7]
theorem min_mul (x y : Nat) : min 2 (min 2 x * min 2 y) = min 2 (x * y) := by
  rcases Nat.lt_or_ge x 2 with h | h
  · have : x = 0 ∨ x = 1 := by omega
    rcases this with rfl | rfl <;> simp
  · rcases Nat.lt_or_ge y 2 with h' | h'
    · have : y = 0 ∨ y = 1 := by omega
      rcases this with rfl | rfl <;> simp
    · have : 2 * 2 ≤ x * y := Nat.mul_le_mul h h'
      rw [Nat.min_eq_left h, Nat.min_eq_left h']
      omega
theorem ROk.nok {d : List SNode} (h : ROk d) : NOk d := ⟨h.two, h.one, h.rep, h.kind, h.ntx⟩
theorem sumW_none (lo m : Nat) : sumW 0 lo (m + 1) = if lo = 0 then 1 else 0 := by
  induction m with
  | zero =>
    simp only [sumW, powW, Nat.add_zero, Nat.zero_add]
    split <;> simp
  | succ m ih =>
    rw [sumW, ih]
    unfold powW
    rw [if_neg (show ¬ lo + (m + 1) = 0 by omega)]
    split <;> simp
theorem wv_nw {d : List SNode} (hd : ROk d) : ∀ (k : Nat) (i : Int) (n : SNode), i < (k : Int) → at? d i = some n → wv d i = min 2 (nw d i)
  | 0, i, n, hi, hn => by have := at_bound hn; omega
  | k + 1, i, n, hi, hn => by
    have ih := wv_nw hd k
    have e := PM_at hd hn
    have en : nw d i = (PM d d.length i).2 := rfl
    have hk9 := hd.kind _ n hn
    rw [wv_at hd.nok hn, en, e]
    by_cases h1 : n.1 = 1
    · simp [h1]
    · by_cases h4 : n.1 = 4
      · obtain ⟨⟨a, b⟩, c, e⟩ := hd.two _ n hn (.inl h4)
        obtain ⟨m1, hm1⟩ := at_lt hn a b
        obtain ⟨m2, hm2⟩ := at_lt hn c e
        rw [ih _ m1 (by omega) hm1, ih _ m2 (by omega) hm2]
        simp only [h4]
        exact min_mul _ _
      · by_cases h5 : n.1 = 5
        · obtain ⟨⟨a, b⟩, c, e⟩ := hd.two _ n hn (.inr h5)
          obtain ⟨m1, hm1⟩ := at_lt hn a b
          obtain ⟨m2, hm2⟩ := at_lt hn c e
          rw [ih _ m1 (by omega) hm1, ih _ m2 (by omega) hm2]
          rw [if_neg h1, if_neg h4, if_pos h5, if_neg h1, if_neg (show ¬ n.1 = 3 by omega), if_neg h4, if_pos h5]
          show min 2 (min 2 _ + min 2 _) = min 2 (nw d n.2.1 + nw d n.2.2.1)
          omega
        · have zA : (n.1 = 6 ∨ n.1 = 7) → wv d n.2.1 = 0 := fun h => by
            obtain ⟨a, b⟩ := hd.one _ n hn (by omega)
            obtain ⟨m1, hm1⟩ := at_lt hn a b
            rcases Nat.eq_zero_or_pos (wv d n.2.1) with h0 | h0
            · exact h0
            · have := (wv_nz hd.nok k _ m1 (by omega) hm1).1 (by omega)
              rw [hd.nn _ n hn h] at this; cases this
          by_cases h6 : n.1 = 6
          · rw [zA (.inl h6)]; simp [h6]
          · by_cases h7 : n.1 = 7
            · obtain ⟨r0, r1, r2⟩ := hd.rep _ n hn h7
              rw [zA (.inr h7)]
              obtain ⟨m, hm⟩ : ∃ m, (n.2.2.2.2.1 + 1 - n.2.2.2.1).toNat = m + 1 := ⟨(n.2.2.2.2.1 - n.2.2.2.1).toNat, by omega⟩
              simp only [h7]
              rw [hm, sumW_none]
              by_cases h0 : n.2.2.2.1 = 0
              · simp [h0]
              · have : ¬ n.2.2.2.1.toNat = 0 := by omega
                simp [h0, this]
            · by_cases h3 : n.1 = 3
              · simp [h3]
              · simp [h1, h3, h4, h5, h6, h7]
theorem ways_l3 {l : List Int} {a : Nat} (ha : a ≤ 2) {e : SNode} (h1 : at? l e.2.1 = some (a : Int)) {t : Nat} (ht : t ≤ 255) {Z : Int → Prop} (hZ : Z (powW a t : Int)) :
    ∀ (m v : Nat), v + m = t → ∃ k, ref08_Ways.l3 l e t Z k (powW a v : Int) v
  | 0, v, hv => by
    obtain rfl : v = t := by omega
    exact ⟨1, fun h => absurd (dt h) (by omega), fun _ => hZ⟩
  | m + 1, v, hv => by
    obtain ⟨k, hk⟩ := ways_l3 ha h1 ht hZ m (v + 1) (by omega)
    have e1 : (min 2 ((powW a v : Int) * (a : Int))) = (powW a (v + 1) : Int) := by
      have := Int.natCast_mul (powW a v) a
      rw [← powW_step ha v]; omega
    have hle := powW_le a v
    have hle2 : powW a v * a ≤ 4 := by
      have := Nat.mul_le_mul hle ha
      omega
    exact ⟨k + 1, fun _ => ⟨a, h1, i64_of (by omega) (by rw [← Int.natCast_mul]; omega), i64_of (by omega) (by omega), by rw [e1]; exact hk⟩, fun h => absurd (by omega) (df h)⟩
theorem ways_l2 {l : List Int} {a : Nat} (ha : a ≤ 2) {e : SNode} (h1 : at? l e.2.1 = some (a : Int)) {lo hi : Nat} (hlo : e.2.2.2.1 = lo) (hhi : e.2.2.2.2.1 = hi) (hh : hi ≤ 255) {Z : Int → Prop} (hZ : Z (sumW a lo (hi + 1 - lo) : Int)) :
    ∀ (m j : Nat), j + m = hi + 1 - lo → ∃ k, ref08_Ways.l2 l e Z k (sumW a lo j : Int) ((lo + j : Nat) : Int)
  | 0, j, hj => by
    obtain rfl : j = hi + 1 - lo := by omega
    exact ⟨1, fun h => absurd (dt h) (by omega), fun _ => hZ⟩
  | m + 1, j, hj => by
    obtain ⟨k, hk⟩ := ways_l2 ha h1 hlo hhi hh hZ m (j + 1) (by omega)
    have hs := sumW_le a lo j
    have hp := powW_le a (lo + j)
    have e1 : (min 2 ((sumW a lo j : Int) + (powW a (lo + j) : Int))) = (sumW a lo (j + 1) : Int) := by simp only [sumW]; omega
    obtain ⟨k3, hk3⟩ := ways_l3 ha h1 (t := lo + j) (by omega) (Z := ref08_Ways.j3 (ref08_Ways.l2 l e Z k) (sumW a lo j : Int) ((lo + j : Nat) : Int)) ⟨i64_of (by omega) (by omega), i64_of (by omega) (by omega), by
      rw [e1]; have : (((lo + j : Nat) : Int) + 1) = ((lo + (j + 1) : Nat) : Int) := by omega
      rw [this]; exact hk⟩ (lo + j) 0 (by omega)
    have e0 : (powW a 0 : Int) = 1 := rfl
    rw [e0] at hk3
    exact ⟨k + 1, fun _ => ⟨k3, hk3⟩, fun h => absurd (by omega) (df h)⟩
theorem ref08_Ways_in {d : List SNode} (hl : d.length ≤ 1000) (hd : NOk d) {i : Nat} (h1 : i < d.length) : ref08_Ways d (i : Int) (wv d (i : Int) : Int) := by
  have hat : ∀ (k : Nat) (a : Int), 0 ≤ a → a < (k : Int) → at? ((List.range k).map fun (j : Nat) => (wv d (j : Int) : Int)) a = some (wv d a : Int) := fun k a h0 h1 => by
    obtain ⟨j, rfl⟩ : ∃ j : Nat, a = (j : Int) := ⟨a.toNat, by omega⟩
    rw [at_nat, List.getElem?_map, List.getElem?_range (by omega)]; rfl
  have key : ∀ (m : Nat) (k : Nat), k + m = i + 1 → ∃ f, ref08_Ways.l1 d (i : Int) (ref08_Ways.j1 (i : Int) (wv d (i : Int) : Int)) f ((List.range k).map fun (j : Nat) => (wv d (j : Int) : Int)) (k : Int) := by
    intro m
    induction m with
    | zero =>
      intro k hk
      exact ⟨1, fun h => absurd (dt h) (by omega), fun _ => ⟨_, hat k _ (by omega) (by omega), rfl⟩⟩
    | succ m ih =>
      intro k hk
      obtain ⟨f, hf⟩ := ih (k + 1) (by omega)
      obtain ⟨e, he, _⟩ := at_in (xs := d) (i := (k : Int)) (by omega) (by omega)
      have hw := wv_at hd he
      have next : ∀ w : Nat, min 2 w = wv d (k : Int) → ref08_Ways.j2 (ref08_Ways.l1 d (i : Int) (ref08_Ways.j1 (i : Int) (wv d (i : Int) : Int)) f) ((List.range k).map fun (j : Nat) => (wv d (j : Int) : Int)) (k : Int) (w : Int) := fun w hw => by
        refine ⟨by simp; omega, i64_of (by omega) (by omega), ?_⟩
        have e1 : (min 2 (w : Int)) = (wv d (k : Int) : Int) := by rw [← hw]; omega
        rw [e1]
        have e2 : ((List.range k).map fun (j : Nat) => (wv d (j : Int) : Int)) ++ [(wv d (k : Int) : Int)] = (List.range (k + 1)).map fun (j : Nat) => (wv d (j : Int) : Int) := by
          rw [List.range_succ, List.map_append]; rfl
        rw [e2]; exact hf
      have ne : ∀ {a b : Int}, a ≠ b → (a == b) = true → False := fun h k => h (eq_of_beq k)
      refine ⟨f + 1, fun _ => ⟨e, he, fun h => ?_, fun k1 => ⟨fun h => ?_, fun k4 => ⟨fun h => ?_, fun k5 => ⟨fun h => ?_, fun k6 => ⟨fun h => ?_, fun k7 => ?_⟩⟩⟩⟩⟩, fun h => absurd (by omega) (df h)⟩
      · have h1 : e.1 = 1 := eq_of_beq h
        exact next 1 (by rw [hw, if_pos h1]; rfl)
      · have h1 : e.1 ≠ 1 := by simpa using k1
        have h4 : e.1 = 4 := eq_of_beq h
        rw [if_neg h1, if_pos h4] at hw
        obtain ⟨⟨a0, a1⟩, b0, b1⟩ := hd.two _ e he (.inl h4)
        have l1 := WV_le d d.length e.2.1
        have l2 := WV_le d d.length e.2.2.1
        have hm : wv d e.2.1 * wv d e.2.2.1 ≤ 4 := by have := Nat.mul_le_mul l1 l2; exact this
        refine ⟨_, hat k _ a0 a1, _, hat k _ b0 b1, i64_of (by rw [← Int.natCast_mul]; omega) (by rw [← Int.natCast_mul]; omega), ?_⟩
        rw [← Int.natCast_mul]
        exact next _ hw.symm
      · have h1 : e.1 ≠ 1 := by simpa using k1
        have h4 : e.1 ≠ 4 := by simpa using k4
        have h5 : e.1 = 5 := eq_of_beq h
        rw [if_neg h1, if_neg h4, if_pos h5] at hw
        obtain ⟨⟨a0, a1⟩, b0, b1⟩ := hd.two _ e he (.inr h5)
        have l1 := WV_le d d.length e.2.1
        have l2 := WV_le d d.length e.2.2.1
        unfold wv at *
        refine ⟨_, hat k _ a0 a1, _, hat k _ b0 b1, i64_of (by omega) (by omega), ?_⟩
        exact next (WV d d.length e.2.1 + WV d d.length e.2.2.1) hw.symm
      · have h1 : e.1 ≠ 1 := by simpa using k1
        have h4 : e.1 ≠ 4 := by simpa using k4
        have h5 : e.1 ≠ 5 := by simpa using k5
        have h6 : e.1 = 6 := eq_of_beq h
        rw [if_neg h1, if_neg h4, if_neg h5, if_pos h6] at hw
        obtain ⟨a0, a1⟩ := hd.one _ e he (.inl h6)
        refine ⟨_, hat k _ a0 a1, fun h => ?_, fun h => ?_⟩
        · exact next 2 (by rw [hw, if_pos (by have := dt h; omega)]; rfl)
        · exact next 1 (by rw [hw, if_neg (by have := df h; omega)]; rfl)
      · have h1 : e.1 ≠ 1 := by simpa using k1
        have h4 : e.1 ≠ 4 := by simpa using k4
        have h5 : e.1 ≠ 5 := by simpa using k5
        have h6 : e.1 ≠ 6 := by simpa using k6
        have h7 : e.1 = 7 := eq_of_beq h
        rw [if_neg h1, if_neg h4, if_neg h5, if_neg h6, if_pos h7] at hw
        obtain ⟨a0, a1⟩ := hd.one _ e he (.inr (.inl h7))
        obtain ⟨r0, r1, r2⟩ := hd.rep _ e he h7
        have hs := sumW_le (wv d e.2.1) e.2.2.2.1.toNat (e.2.2.2.2.1 + 1 - e.2.2.2.1).toNat
        have e1 : (e.2.2.2.2.1 + 1 - e.2.2.2.1).toNat = e.2.2.2.2.1.toNat + 1 - e.2.2.2.1.toNat := by omega
        have := ways_l2 (l := (List.range k).map fun (j : Nat) => (wv d (j : Int) : Int)) (WV_le d d.length e.2.1) (e := e) (hat k _ a0 a1) (lo := e.2.2.2.1.toNat) (hi := e.2.2.2.2.1.toNat) (by omega) (by omega) (by omega)
          (Z := ref08_Ways.j2 (ref08_Ways.l1 d (i : Int) (ref08_Ways.j1 (i : Int) (wv d (i : Int) : Int)) f) ((List.range k).map fun (j : Nat) => (wv d (j : Int) : Int)) (k : Int))
          (next _ (by rw [hw, e1]; rw [e1] at hs; exact Nat.min_eq_right hs)) (e.2.2.2.2.1.toNat + 1 - e.2.2.2.1.toNat) 0 (by omega)
        have e2 : ((e.2.2.2.1.toNat + 0 : Nat) : Int) = e.2.2.2.1 := by omega
        rw [e2] at this
        exact this
      · have h1 : e.1 ≠ 1 := by simpa using k1
        have h4 : e.1 ≠ 4 := by simpa using k4
        have h5 : e.1 ≠ 5 := by simpa using k5
        have h6 : e.1 ≠ 6 := by simpa using k6
        have h7 : e.1 ≠ 7 := by simpa using k7
        rw [if_neg h1, if_neg h4, if_neg h5, if_neg h6, if_neg h7] at hw
        exact next 0 (by rw [hw]; rfl)
  obtain ⟨f, hf⟩ := key (i + 1) 0 (by omega)
  exact ⟨f, by simpa using hf⟩
theorem first8_ok {d : List SNode} (hl : d.length ≤ 1000) (hd : NOk d) : ∃ r, ref08_First d r ∧ (r.2 = false → ∀ (i : Int) n, at? d i = some n → (n.1 = 6 ∨ n.1 = 7) → nz d n.2.1 = false) := by
  have key : ∀ (m i : Nat), i + m = d.length → (∀ (k : Int) n, k < (i : Int) → at? d k = some n → (n.1 = 6 ∨ n.1 = 7) → nz d n.2.1 = false) → ∃ q : (Int × Bool) × Nat, ref08_First.l1 d q.1 (ref08_First.j1 q.1) q.2 (i : Int) ∧ (q.1.2 = false → ∀ (i : Int) n, at? d i = some n → (n.1 = 6 ∨ n.1 = 7) → nz d n.2.1 = false) := by
    intro m
    induction m with
    | zero =>
      intro i hi hk
      exact ⟨((0, false), 1), ⟨fun h => absurd (dt h) (by omega), fun _ => rfl⟩, fun _ k n hn => hk k n (by have := at_bound hn; omega) hn⟩
    | succ m ih =>
      intro i hi hk
      obtain ⟨e, he, _⟩ := at_in (xs := d) (i := (i : Int)) (by omega) (by omega)
      have hw : ∃ w, ((((e.1 == 6) || (e.1 == 7))) = true → ref08_Ways d e.2.1 w ∧ (w = 0 → nz d e.2.1 = false)) := by
        by_cases hkk : e.1 = 6 ∨ e.1 = 7
        · obtain ⟨a0, a1⟩ := hd.one _ e he (by omega)
          obtain ⟨mm, hm⟩ := at_lt he a0 a1
          obtain ⟨j, hj⟩ : ∃ j : Nat, e.2.1 = (j : Int) := ⟨e.2.1.toNat, by omega⟩
          refine ⟨(wv d e.2.1 : Int), fun _ => ⟨?_, fun h0 => ?_⟩⟩
          · rw [hj]; exact ref08_Ways_in hl hd (by omega)
          · have := wv_nz hd (d.length) e.2.1 mm (by omega) hm
            cases hz : nz d e.2.1
            · rfl
            · have := this.2 hz
              omega
        · exact ⟨0, fun h => absurd (by simpa using h) hkk⟩
      obtain ⟨w, hw⟩ := hw
      cases hb : (((e.1 == 6) || (e.1 == 7)) && (w != 0))
      · obtain ⟨q, hq, hq2⟩ := ih (i + 1) (by omega) (fun k n hki hn hkk => by
          by_cases hk2 : k = (i : Int)
          · subst hk2
            rw [he] at hn; cases hn
            have h6 : ((e.1 == 6) || (e.1 == 7)) = true := by simpa using hkk
            rw [h6] at hb
            simp at hb
            exact (hw h6).2 hb
          · exact hk k n (by omega) hn hkk)
        exact ⟨(q.1, q.2 + 1), ⟨fun _ => ⟨e, he, e, fun _ => he, w, fun h => (hw h).1, (fun h => by rw [hb] at h; cases h), fun _ => ⟨i64_of (by omega) (by omega), by simpa using hq⟩⟩, fun h => absurd (by omega) (df h)⟩, hq2⟩
      · exact ⟨(((i : Int), true), 1), ⟨fun _ => ⟨e, he, e, fun _ => he, w, fun h => (hw h).1, fun _ => rfl, fun h => by rw [hb] at h; cases h⟩, fun h => absurd (by omega) (df h)⟩, (fun h => by cases h)⟩
  obtain ⟨q, hq, hq2⟩ := key d.length 0 (by omega) (fun k n hk hn => by have := at_bound hn; omega)
  exact ⟨q.1, ⟨q.2, hq⟩, hq2⟩
structure Rt (d : List SNode) : Prop extends ROk d where
  tr : Tr d 0 ((d.length : Int) - 1)
theorem Rt.ne {d : List SNode} (h : Rt d) : d ≠ [] := fun e => by
  have := h.tr.le
  subst e
  simp at this
theorem right_ok {d : List SNode} (hl : d.length ≤ 1000) (ht : ∀ n ∈ d, n.2.2.2.2.2.2.length ≤ 140737488351232) : ∃ r, ref08_Right d r ∧ (r = true → Rt d) := by
  obtain ⟨f, hf, ho⟩ := form_ex hl ht
  cases f
  · exact ⟨false, ⟨false, hf, fun _ => rfl, (fun h => by cases h)⟩, (fun h => by cases h)⟩
  · have hd := (ho rfl).nok
    obtain ⟨w, hw, hw2⟩ := first8_ok hl hd
    refine ⟨!w.2, ⟨true, hf, (fun h => by cases h), fun _ => ⟨w, hw, rfl⟩⟩, fun h => ?_⟩
    have := hw2 (by simpa using h)
    exact ⟨⟨hd.two, hd.one, hd.rep, hd.kind, hd.ntx, this⟩, ho rfl⟩
end Go.Proofs.YtdidjelkkanenaaDoor.V
