/- The walks of the functions of layer 2 (by gen.py). -/
import Derived.Test.YtdfnbogkniikbaaDoorW00a
import Derived.Test.YtdfnbogkniikbaaDoorR02
namespace Go.Proofs.YtdfnbogkniikbaaDoor.V
open Go
set_option linter.unusedVariables false
set_option maxRecDepth 100000
theorem ref02_Bytes_ok {a_ : (List Int)} {b_ : (List Int)} {r_ : Bool} (h : ref02_Bytes a_ b_ r_) : Fn Tryd.prog 49 [(Pd.rep (En.slice (En.int .u8)) a_), (Pd.rep (En.slice (En.int .u8)) b_)] (Rq (Pd.rep En.bool r_)) := by
  unfold ref02_Bytes at h
  refine fn_of Tryd.func49 rfl Tryd.ntmps49 (by rfl) (by simp) fun s0 a hL => ?_
  refine wp_seq_k fun K1 hK1 => ?_
  refine rg ?_
  refine st 4 (t_assign o_b rfl rfl) rfl rfl hL fun a s e_ hL => ?_
  refine en' ?_
  show K1 a s.w
  refine hK1 _ _ ?_
  refine wp_seq_k fun K2 hK2 => ?_
  refine wp_seq_k fun K3 hK3 => ?_
  refine rg ?_
  refine st 6 (t_move (o_t 0 rfl) rfl rfl) rfl rfl hL fun a s e_ hL => ?_
  refine st 7 (t_len (o_t 6 rfl) Tryd.underlying51 rfl rfl) rfl rfl hL fun a s e_ hL => ?_
  refine st 8 (t_move (o_t 1 rfl) rfl rfl) rfl rfl hL fun a s e_ hL => ?_
  refine st 9 (t_len (o_t 8 rfl) Tryd.underlying51 rfl rfl) rfl rfl hL fun a s e_ hL => ?_
  refine st 10 (t_nei (o_t 7 rfl) (o_t 9 rfl) rfl rfl) rfl rfl hL fun a s e_ hL => ?_
  refine en' ?_
  show K3 a s.w
  refine hK3 _ _ ?_
  refine cnd hL rfl (fun hb_ => ?_) (fun hb_ => ?_)
  · replace h := h.1 hb_
    refine wp_seq_k fun K4 hK4 => ?_
    refine rg ?_
    refine st 4 (t_assign o_b rfl rfl) rfl rfl hL fun a s e_ hL => ?_
    refine en' ?_
    show K4 a s.w
    refine hK4 _ _ ?_
    subst h
    exact wp_ret (retq rfl hL rfl)
  · replace h := h.2 hb_
    refine wp_skip ?_
    show K2 a s.w
    refine hK2 _ _ ?_
    refine wp_seq_k fun K5 hK5 => ?_
    refine wp_seq_k fun K6 hK6 => ?_
    refine rg ?_
    refine st 5 (t_assign (o_i (by decide)) rfl rfl) rfl rfl hL fun a s e_ hL => ?_
    refine en' ?_
    show K6 a s.w
    refine hK6 _ _ ?_
    refine wp_block ?_
    have J7 : ∀ (a : Act) (s : St), Has N0 26 s0 a s [] → ((ref02_Bytes.j1 r_)) → K5 a s.w := by
      intro a s hL h
      unfold ref02_Bytes.j1 at h
      show K5 a s.w
      refine hK5 _ _ ?_
      refine wp_seq_k fun K8 hK8 => ?_
      refine rg ?_
      refine st 4 (t_assign o_b rfl rfl) rfl rfl hL fun a s e_ hL => ?_
      refine en' ?_
      show K8 a s.w
      refine hK8 _ _ ?_
      subst h
      exact wp_ret (retq rfl hL rfl)
    obtain ⟨k10, h⟩ := h
    refine lpg (fun k11 a s => ∃ (i9 : Int), Has N0 26 s0 a s [(0, (Pd.rep (En.slice (En.int .u8)) a_)), (1, (Pd.rep (En.slice (En.int .u8)) b_)), (5, (Pd.rep (En.int .i64) i9))] ∧ ref02_Bytes.l1 a_ b_ r_ (ref02_Bytes.j1 r_) k11 i9) k10 ⟨0, hL.keep (.cons (t := 0) rfl (fun _ h_ => h_.elim) (.cons (t := 1) rfl (fun _ h_ => h_.elim) (.cons (t := 5) rfl (fun _ h_ => h_.elim) .nil))), h⟩ ?_
    rintro k11 a s ⟨i9, hL, h⟩ KL12 hKL12
    cases k11 with
    | zero => exact h.elim
    | succ k11 =>
    unfold ref02_Bytes.l1 at h
    refine wp_seq_k fun K13 hK13 => ?_
    refine wp_seq_k fun K14 hK14 => ?_
    refine rg ?_
    refine st 11 (t_move (o_t 5 rfl) rfl rfl) rfl rfl hL fun a s e_ hL => ?_
    refine st 12 (t_move (o_t 0 rfl) rfl rfl) rfl rfl hL fun a s e_ hL => ?_
    refine st 13 (t_len (o_t 12 rfl) Tryd.underlying51 rfl rfl) rfl rfl hL fun a s e_ hL => ?_
    refine st 14 (t_lss (o_t 11 rfl) (o_t 13 rfl) rfl rfl) rfl rfl hL fun a s e_ hL => ?_
    refine en' ?_
    show K14 a s.w
    refine hK14 _ _ ?_
    refine cnd hL rfl (fun hb_ => ?_) (fun hb_ => ?_)
    · replace h := h.1 hb_
      refine wp_skip ?_
      show K13 a s.w
      refine hK13 _ _ ?_
      refine wp_seq_k fun K15 hK15 => ?_
      refine wp_block ?_
      refine wp_seq_k fun K16 hK16 => ?_
      obtain ⟨e17, h18, e19, h20, h⟩ := h
      refine rda follows 9 [(Pd.rep (En.slice (En.int .u8)) a_), (Pd.rep (En.int .i64) i9), (Pd.ptr (En.int .u8) e17), (Pd.rep (En.int .u8) e17), (Pd.rep (En.slice (En.int .u8)) b_), (Pd.rep (En.int .i64) i9), (Pd.ptr (En.int .u8) e19), (Pd.rep (En.int .u8) e19), (Pd.rep En.bool (e17 != e19))] hL (by kernel_rfl) rfl rfl ?_ ?_
      · refine AllT.cons (t_move (o_t 0 rfl) rfl rfl) ?_
        refine AllT.cons (t_move (o_t 5 rfl) rfl rfl) ?_
        refine AllT.cons (t_idx (o_t 17 rfl) (o_t 18 rfl) h18 Tryd.underlying51 ty5 rfl rfl) ?_
        refine AllT.cons (t_load ty5 (o_t 19 rfl) rfl rfl) ?_
        refine AllT.cons (t_move (o_t 1 rfl) rfl rfl) ?_
        refine AllT.cons (t_move (o_t 5 rfl) rfl rfl) ?_
        refine AllT.cons (t_idx (o_t 21 rfl) (o_t 22 rfl) h20 Tryd.underlying51 ty5 rfl rfl) ?_
        refine AllT.cons (t_load ty5 (o_t 23 rfl) rfl rfl) ?_
        refine AllT.cons (t_nei (o_t 20 rfl) (o_t 24 rfl) rfl rfl) ?_
        exact AllT.nil
      intro a s e_ hL
      refine en' ?_
      show K16 a s.w
      refine hK16 _ _ ?_
      refine cnd hL rfl (fun hb_ => ?_) (fun hb_ => ?_)
      · replace h := h.1 hb_
        refine wp_seq_k fun K21 hK21 => ?_
        refine rg ?_
        refine st 4 (t_assign o_b rfl rfl) rfl rfl hL fun a s e_ hL => ?_
        refine en' ?_
        show K21 a s.w
        refine hK21 _ _ ?_
        subst h
        exact wp_ret (retq rfl hL rfl)
      · replace h := h.2 hb_
        refine wp_skip ?_
        show K15 a s.w
        refine hK15 _ _ ?_
        obtain ⟨h22, h⟩ := h
        refine rg ?_
        refine st 15 (t_move (o_t 5 rfl) rfl rfl) rfl rfl hL fun a s e_ hL => ?_
        refine st 16 (t_add (o_t 15 rfl) (o_i (by decide)) h22 rfl rfl) rfl rfl hL fun a s e_ hL => ?_
        refine st 5 (t_assign (o_t 16 rfl) rfl rfl) rfl rfl hL fun a s e_ hL => ?_
        refine en' ?_
        exact hKL12 k11 a s (Nat.lt_succ_self _) ⟨(i9 + 1), hL.keep (.cons (t := 0) rfl (fun _ h_ => h_.elim) (.cons (t := 1) rfl (fun _ h_ => h_.elim) (.cons (t := 5) rfl (fun _ h_ => h_.elim) .nil))), h⟩
    · replace h := h.2 hb_
      refine wp_exit ?_
      exact J7 a s (hL.keep .nil) h
end Go.Proofs.YtdfnbogkniikbaaDoor.V
