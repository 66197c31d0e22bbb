/-
  The texts that the law's proof needs, part 5.
-/
import Derived.Test.YtdidjelkkanenaaGreatDoorNextTellsP4
namespace Go.Proofs.YtdidjelkkanenaaGreatDoor.V
open Go
set_option linter.unusedVariables false
set_option maxRecDepth 100000
theorem next_frame_ok {nv_ : SNode} {ahead_ : Int} {r_ : (List SItem)} (h : next_frame nv_ ahead_ r_) : Fn Tryz.prog 124 [(Pd.rep En.SNode nv_), (Pd.rep (En.int .i64) ahead_)] (Ro En.SItem 51 r_) := by
  unfold next_frame at h
  refine fn_of Tryz.func124 rfl Tryz.ntmps124 (by rfl) (by simp) fun s0 a hL => ?_
  refine wp_seq_k fun K1 hK1 => ?_
  refine rg ?_
  refine st 2 (t_box (o_t 0 rfl) rfl rfl) rfl rfl hL fun a s e_ hL => ?_
  refine st 4 (t_assign (o_nil (E := En.SItem) (N := s0.w.heap.size) (te := 51)) rfl rfl) rfl rfl hL fun a s e_ hL => ?_
  refine en' ?_
  show K1 a s.w
  refine hK1 _ _ ?_
  refine wp_seq_k fun K2 hK2 => ?_
  refine rg ?_
  refine st 5 (t_fa (off := 1) (o_t 2 rfl) Tryz.underlying46 rfl (prt_snd (prt_fst (prt_all _ _)) rfl) rfl ty3 rfl rfl) rfl rfl hL fun a s e_ hL => ?_
  refine st 6 (t_load ty3 (o_t 5 rfl) rfl rfl) rfl rfl hL fun a s e_ hL => ?_
  refine st 7 (t_build (x := (1, nv_.2.1, 0, 0)) (ps := [(0, .const (.int .i64 1)), (1, .tmp 6)]) tyz51 rfl stt51 (.cons (i := 0) (o_i (k := .i64) (by decide)) rfl (sub_fst (sub_all _ _ _)) (.cons (i := 1) (o_t 6 rfl) rfl (sub_snd (sub_fst (sub_all _ _ _)) rfl) .nil)) rfl rfl) rfl rfl hL fun a s e_ hL => ?_
  refine st 8 (t_move (o_t 1 rfl) rfl rfl) rfl rfl hL fun a s e_ hL => ?_
  refine st 9 (t_build (x := (5, 0, ahead_, 0)) (ps := [(0, .const (.int .i64 5)), (2, .tmp 8)]) tyz51 rfl stt51 (.cons (i := 0) (o_i (k := .i64) (by decide)) rfl (sub_fst (sub_all _ _ _)) (.cons (i := 2) (o_t 8 rfl) rfl (sub_snd (sub_snd (sub_fst (sub_all _ _ _)) rfl) rfl) .nil)) rfl rfl) rfl rfl hL fun a s e_ hL => ?_
  refine st_lito (xs := [.tmp 7, .tmp 9]) 10 hL (.cons (o_t 7 rfl) (.cons (o_t 9 rfl) .nil)) Tryz.underlying25 ty51 rfl rfl (by decide) rfl rfl rfl rfl fun a s g3 hg_ hL => ?_
  refine st 4 (t_assign (o_t 10 rfl) rfl rfl) rfl rfl hL fun a s e_ hL => ?_
  refine en' ?_
  show K2 a s.w
  refine hK2 _ _ ?_
  subst h
  exact wp_ret (reto rfl hL rfl)
theorem next_step_node_ok {s_ : Sstep_next} {r_ : ((List SItem) × Bool)} (h : next_step_node s_ r_) : Fn Tryz.prog 122 [(Pd.rep En.Sstep_next s_)] (Ro2 En.SItem 51 r_.1 (Pd.rep En.bool r_.2)) := by
  unfold next_step_node at h
  refine fn_of Tryz.func122 rfl Tryz.ntmps122 (by rfl) (by simp) fun s0 a hL => ?_
  refine wp_seq_k fun K1 hK1 => ?_
  refine rg ?_
  refine st 1 (t_box (o_t 0 rfl) rfl rfl) rfl rfl hL fun a s e_ hL => ?_
  refine st 2 (t_assign (o_nil (E := En.SItem) (N := s0.w.heap.size) (te := 51)) rfl rfl) rfl rfl hL fun a s e_ hL => ?_
  refine st 3 (t_assign o_b rfl rfl) rfl rfl hL fun a s e_ hL => ?_
  refine en' ?_
  show K1 a s.w
  refine hK1 _ _ ?_
  refine wp_seq_k fun K2 hK2 => ?_
  refine wp_seq_k fun K3 hK3 => ?_
  refine rg ?_
  refine st 4 (t_fa (off := 0) (o_t 1 rfl) Tryz.underlying70 rfl (prt_fst (prt_all _ _)) rfl ty46 rfl rfl) rfl rfl hL fun a s e_ hL => ?_
  refine st 5 (t_fa (off := 0) (o_t 4 rfl) Tryz.underlying46 rfl (prt_fst (prt_all _ _)) rfl ty3 rfl rfl) rfl rfl hL fun a s e_ hL => ?_
  refine st 6 (t_load ty3 (o_t 5 rfl) rfl rfl) rfl rfl hL fun a s e_ hL => ?_
  refine en' ?_
  show K3 a s.w
  refine hK3 _ _ ?_
  refine wp_block ?_
  refine wp_seq_k fun K4 hK4 => ?_
  refine rg ?_
  refine st 8 (t_eqi (o_t 6 rfl) (o_i (k := .i64) (by decide)) rfl rfl) rfl rfl hL fun a s e_ hL => ?_
  refine st 7 (t_assign (o_t 8 rfl) rfl rfl) rfl rfl hL fun a s e_ hL => ?_
  refine en' ?_
  show K4 a s.w
  refine hK4 _ _ ?_
  refine cnd hL rfl (fun hb_ => ?_) (fun hb_ => ?_)
  · replace h := h.1 hb_
    refine wp_seq_k fun K5 hK5 => ?_
    obtain ⟨r6, h7, h⟩ := h
    refine rg ?_
    refine st 9 (t_fa (off := 0) (o_t 1 rfl) Tryz.underlying70 rfl (prt_fst (prt_all _ _)) rfl ty46 rfl rfl) rfl rfl hL fun a s e_ hL => ?_
    refine st 10 (t_load ty46 (o_t 9 rfl) rfl rfl) rfl rfl hL fun a s e_ hL => ?_
    refine st 11 (t_fa (off := 14) (o_t 1 rfl) Tryz.underlying70 rfl (prt_snd (prt_snd (prt_all _ _) rfl) rfl) rfl ty5 rfl rfl) rfl rfl hL fun a s e_ hL => ?_
    refine st 12 (t_load ty5 (o_t 11 rfl) rfl rfl) rfl rfl hL fun a s e_ hL => ?_
    refine st 13 (t_up (o_t 12 rfl) (by decide) Tryz.underlying5 Tryz.underlying3 rfl rfl) rfl rfl hL fun a s e_ hL => ?_
    refine st_callo 14 hL (next_frame_ok h7) (xs := [.tmp 10, .tmp 13]) (.cons (o_t 10 rfl) (.cons (o_t 13 rfl) .nil)) rfl rfl rfl rfl fun a s og8 hg_ hL => ?_
    refine st 2 (t_assign (o_t 14 rfl) rfl rfl) rfl rfl hL fun a s e_ hL => ?_
    refine st 3 (t_assign o_b rfl rfl) rfl rfl hL fun a s e_ hL => ?_
    refine en' ?_
    show K5 a s.w
    refine hK5 _ _ ?_
    subst h
    exact wp_ret (reto2 rfl hL rfl rfl)
  · replace h := h.2 hb_
    refine wp_seq_k fun K9 hK9 => ?_
    refine rg ?_
    refine st 16 (t_eqi (o_t 6 rfl) (o_i (k := .i64) (by decide)) rfl rfl) rfl rfl hL fun a s e_ hL => ?_
    refine st 15 (t_assign (o_t 16 rfl) rfl rfl) rfl rfl hL fun a s e_ hL => ?_
    refine en' ?_
    show K9 a s.w
    refine hK9 _ _ ?_
    refine cnd hL rfl (fun hb_ => ?_) (fun hb_ => ?_)
    · replace h := h.1 hb_
      refine wp_seq_k fun K10 hK10 => ?_
      refine rg ?_
      refine st 17 (t_fa (off := 10) (o_t 1 rfl) Tryz.underlying70 rfl (prt_snd (prt_fst (prt_all _ _)) rfl) rfl ty51 rfl rfl) rfl rfl hL fun a s e_ hL => ?_
      refine st 18 (t_fa (off := 1) (o_t 17 rfl) Tryz.underlying51 rfl (prt_snd (prt_fst (prt_all _ _)) rfl) rfl ty3 rfl rfl) rfl rfl hL fun a s e_ hL => ?_
      refine st 19 (t_load ty3 (o_t 18 rfl) rfl rfl) rfl rfl hL fun a s e_ hL => ?_
      refine st 20 (t_fa (off := 14) (o_t 1 rfl) Tryz.underlying70 rfl (prt_snd (prt_snd (prt_all _ _) rfl) rfl) rfl ty5 rfl rfl) rfl rfl hL fun a s e_ hL => ?_
      refine st 21 (t_load ty5 (o_t 20 rfl) rfl rfl) rfl rfl hL fun a s e_ hL => ?_
      refine st 22 (t_up (o_t 21 rfl) (by decide) Tryz.underlying5 Tryz.underlying3 rfl rfl) rfl rfl hL fun a s e_ hL => ?_
      refine st 23 (t_build (x := (4, s_.2.1.2.1, s_.2.2, 0)) (ps := [(0, .const (.int .i64 4)), (1, .tmp 19), (2, .tmp 22)]) tyz51 rfl stt51 (.cons (i := 0) (o_i (k := .i64) (by decide)) rfl (sub_fst (sub_all _ _ _)) (.cons (i := 1) (o_t 19 rfl) rfl (sub_snd (sub_fst (sub_all _ _ _)) rfl) (.cons (i := 2) (o_t 22 rfl) rfl (sub_snd (sub_snd (sub_fst (sub_all _ _ _)) rfl) rfl) .nil))) rfl rfl) rfl rfl hL fun a s e_ hL => ?_
      refine st_lito (xs := [.tmp 23]) 24 hL (.cons (o_t 23 rfl) .nil) Tryz.underlying25 ty51 rfl rfl (by decide) rfl rfl rfl rfl fun a s g11 hg_ hL => ?_
      refine st 2 (t_assign (o_t 24 rfl) rfl rfl) rfl rfl hL fun a s e_ hL => ?_
      refine st 3 (t_assign o_b rfl rfl) rfl rfl hL fun a s e_ hL => ?_
      refine en' ?_
      show K10 a s.w
      refine hK10 _ _ ?_
      subst h
      exact wp_ret (reto2 rfl hL rfl rfl)
    · replace h := h.2 hb_
      refine wp_skip ?_
      show K2 a s.w
      refine hK2 _ _ ?_
      refine wp_seq_k fun K12 hK12 => ?_
      obtain ⟨r13, h14, h⟩ := h
      refine rg ?_
      refine st 25 (t_fa (off := 0) (o_t 1 rfl) Tryz.underlying70 rfl (prt_fst (prt_all _ _)) rfl ty46 rfl rfl) rfl rfl hL fun a s e_ hL => ?_
      refine st 26 (t_fa (off := 5) (o_t 25 rfl) Tryz.underlying46 rfl (prt_snd (prt_snd (prt_snd (prt_snd (prt_snd (prt_fst (prt_all _ _)) rfl) rfl) rfl) rfl) rfl) rfl ty43 rfl rfl) rfl rfl hL fun a s e_ hL => ?_
      refine st 27 (t_load ty43 (o_t 26 rfl) rfl rfl) rfl rfl hL fun a s e_ hL => ?_
      refine st 28 (t_fa (off := 14) (o_t 1 rfl) Tryz.underlying70 rfl (prt_snd (prt_snd (prt_all _ _) rfl) rfl) rfl ty5 rfl rfl) rfl rfl hL fun a s e_ hL => ?_
      refine st 29 (t_load ty5 (o_t 28 rfl) rfl rfl) rfl rfl hL fun a s e_ hL => ?_
      refine st 30 (t_call (class_Has_ok h14) (xs := [.tmp 27, .tmp 29]) (.cons (o_t 27 rfl) (.cons (o_t 29 rfl) .nil)) rfl rfl) rfl rfl hL fun a s e_ hL => ?_
      refine st 2 (t_assign (o_nil (E := En.SItem) (N := s0.w.heap.size) (te := 51)) rfl rfl) rfl rfl hL fun a s e_ hL => ?_
      refine st 3 (t_assign (o_t 30 rfl) rfl rfl) rfl rfl hL fun a s e_ hL => ?_
      refine en' ?_
      show K12 a s.w
      refine hK12 _ _ ?_
      subst h
      exact wp_ret (reto2 rfl hL rfl rfl)
theorem next_step_text_ok {s_ : Sstep_next} {r_ : ((List SItem) × Bool)} (h : next_step_text s_ r_) : Fn Tryz.prog 123 [(Pd.rep En.Sstep_next s_)] (Ro2 En.SItem 51 r_.1 (Pd.rep En.bool r_.2)) := by
  unfold next_step_text at h
  refine fn_of Tryz.func123 rfl Tryz.ntmps123 (by rfl) (by simp) fun s0 a hL => ?_
  refine wp_seq_k fun K1 hK1 => ?_
  refine rg ?_
  refine st 1 (t_box (o_t 0 rfl) rfl rfl) rfl rfl hL fun a s e_ hL => ?_
  refine st 2 (t_assign (o_nil (E := En.SItem) (N := s0.w.heap.size) (te := 51)) rfl rfl) rfl rfl hL fun a s e_ hL => ?_
  refine st 3 (t_assign o_b rfl rfl) rfl rfl hL fun a s e_ hL => ?_
  refine en' ?_
  show K1 a s.w
  refine hK1 _ _ ?_
  refine wp_seq_k fun K2 hK2 => ?_
  refine rg ?_
  refine st 5 (t_fa (off := 10) (o_t 1 rfl) Tryz.underlying70 rfl (prt_snd (prt_fst (prt_all _ _)) rfl) rfl ty51 rfl rfl) rfl rfl hL fun a s e_ hL => ?_
  refine st 6 (t_load ty51 (o_t 5 rfl) rfl rfl) rfl rfl hL fun a s e_ hL => ?_
  refine st_alloc En.SItem (z := (0, 0, 0, 0)) 4 hL tyz51 rfl rfl rfl rfl fun a s g3 hg_ hL => ?_
  refine st_stb (L' := [(1, (Pd.ptr En.Sstep_next s_))]) 4 hL rfl (o_t 6 rfl) ty51 rfl rfl rfl (.cons (t := 1) rfl (fun _ h_ => h_.elim) .nil) fun s hL => ?_
  refine en' ?_
  show K2 a s.w
  refine hK2 _ _ ?_
  refine wp_seq_k fun K4 hK4 => ?_
  obtain ⟨h5, h⟩ := h
  refine rg ?_
  refine st 7 (t_fab (off := 2) (o_t 4 rfl) Tryz.underlying51 rfl (prt_snd (prt_snd (prt_fst (prt_all _ _)) rfl) rfl) rfl ty3 rfl rfl) rfl rfl hL fun a s e_ hL => ?_
  refine st 8 (t_loado ty3 (o_t 7 rfl) rfl rfl) rfl rfl hL fun a s e_ hL => ?_
  refine st 9 (t_add (o_t 8 rfl) (o_i (k := .i64) (by decide)) h5 rfl rfl) rfl rfl hL fun a s e_ hL => ?_
  refine st 10 (t_fab (off := 2) (o_t 4 rfl) Tryz.underlying51 rfl (prt_snd (prt_snd (prt_fst (prt_all _ _)) rfl) rfl) rfl ty3 rfl rfl) rfl rfl hL fun a s e_ hL => ?_
  refine st_stob (L' := [(1, (Pd.ptr En.Sstep_next s_))]) 4 hL rfl (o_t 10 rfl) (o_t 9 rfl) (sub_snd (sub_snd (sub_fst (sub_all _ _ _)) rfl) rfl) ty3 rfl rfl rfl (.cons (t := 1) rfl (fun _ h_ => h_.elim) .nil) fun s hL => ?_
  refine en' ?_
  show K4 a s.w
  refine hK4 _ _ ?_
  refine wp_seq_k fun K6 hK6 => ?_
  refine wp_seq_k fun K7 hK7 => ?_
  obtain ⟨b8, h9, h⟩ := h
  refine rg ?_
  refine st 11 (t_fab (off := 2) (o_t 4 rfl) Tryz.underlying51 rfl (prt_snd (prt_snd (prt_fst (prt_all _ _)) rfl) rfl) rfl ty3 rfl rfl) rfl rfl hL fun a s e_ hL => ?_
  refine st 12 (t_loado ty3 (o_t 11 rfl) rfl rfl) rfl rfl hL fun a s e_ hL => ?_
  refine st 13 (t_fa (off := 0) (o_t 1 rfl) Tryz.underlying70 rfl (prt_fst (prt_all _ _)) rfl ty46 rfl rfl) rfl rfl hL fun a s e_ hL => ?_
  refine st 14 (t_fa (off := 9) (o_t 13 rfl) Tryz.underlying46 rfl (prt_snd (prt_snd (prt_snd (prt_snd (prt_snd (prt_snd (prt_all _ _) rfl) rfl) rfl) rfl) rfl) rfl) rfl ty9 rfl rfl) rfl rfl hL fun a s e_ hL => ?_
  refine st 15 (t_load ty9 (o_t 14 rfl) rfl rfl) rfl rfl hL fun a s e_ hL => ?_
  refine st 16 (t_slen (o_t 15 rfl) Tryz.underlying9 rfl rfl) rfl rfl hL fun a s e_ hL => ?_
  refine st 17 (h9 ▸ (t_eqi (o_t 12 rfl) (o_t 16 rfl) rfl rfl)) rfl rfl hL fun a s e_ hL => ?_
  refine en' ?_
  show K7 a s.w
  refine hK7 _ _ ?_
  refine cnd hL rfl (fun hb_ => ?_) (fun hb_ => ?_)
  · replace h := h.1 hb_
    refine wp_seq_k fun K10 hK10 => ?_
    obtain ⟨c11, h12, h⟩ := h
    refine rda follows 12 [(Pd.ptr En.SNode s_.1), (Pd.ptr En.str s_.1.2.2.2.2.2.2), (Pd.rep En.str s_.1.2.2.2.2.2.2), (Pd.ptr En.SItem s_.2.1), (Pd.ptr (En.int .i64) s_.2.1.2.2.1), (Pd.rep (En.int .i64) s_.2.1.2.2.1), (Pd.rep (En.int .u8) c11), (Pd.ptr (En.int .u8) s_.2.2), (Pd.rep (En.int .u8) s_.2.2), (Pd.rep En.bool (c11 == s_.2.2)), (Pd.row En.SItem s0.w.heap.size 51 none ([] : (List SItem))), (Pd.rep En.bool (c11 == s_.2.2))] hL (by kernel_rfl) rfl rfl ?_ ?_
    · refine AllT.cons (t_fa (off := 0) (o_t 1 rfl) Tryz.underlying70 rfl (prt_fst (prt_all _ _)) rfl ty46 rfl rfl) ?_
      refine AllT.cons (t_fa (off := 9) (o_t 18 rfl) Tryz.underlying46 rfl (prt_snd (prt_snd (prt_snd (prt_snd (prt_snd (prt_snd (prt_all _ _) rfl) rfl) rfl) rfl) rfl) rfl) rfl ty9 rfl rfl) ?_
      refine AllT.cons (t_load ty9 (o_t 19 rfl) rfl rfl) ?_
      refine AllT.cons (t_fa (off := 10) (o_t 1 rfl) Tryz.underlying70 rfl (prt_snd (prt_fst (prt_all _ _)) rfl) rfl ty51 rfl rfl) ?_
      refine AllT.cons (t_fa (off := 2) (o_t 21 rfl) Tryz.underlying51 rfl (prt_snd (prt_snd (prt_fst (prt_all _ _)) rfl) rfl) rfl ty3 rfl rfl) ?_
      refine AllT.cons (t_load ty3 (o_t 22 rfl) rfl rfl) ?_
      refine AllT.cons (t_sidx (o_t 20 rfl) (o_t 23 rfl) h12 Tryz.underlying9 rfl rfl) ?_
      refine AllT.cons (t_fa (off := 14) (o_t 1 rfl) Tryz.underlying70 rfl (prt_snd (prt_snd (prt_all _ _) rfl) rfl) rfl ty5 rfl rfl) ?_
      refine AllT.cons (t_load ty5 (o_t 25 rfl) rfl rfl) ?_
      refine AllT.cons (t_eqi (o_t 24 rfl) (o_t 26 rfl) rfl rfl) ?_
      refine AllT.cons (t_assign (o_nil (E := En.SItem) (N := s0.w.heap.size) (te := 51)) rfl rfl) ?_
      refine AllT.cons (t_assign (o_t 27 rfl) rfl rfl) ?_
      exact AllT.nil
    intro a s e_ hL
    refine en' ?_
    show K10 a s.w
    refine hK10 _ _ ?_
    subst h
    exact wp_ret (reto2 rfl hL rfl rfl)
  · replace h := h.2 hb_
    refine wp_skip ?_
    show K6 a s.w
    refine hK6 _ _ ?_
    refine wp_seq_k fun K13 hK13 => ?_
    obtain ⟨c16, h17, h⟩ := h
    obtain ⟨K14, hK14, nK14, hL⟩ := hL.mark 999983
    have lt15 : ∀ k, (some g3) = some k → k < K14 := by rw [hK14]; exact hL.blt 4 rfl
    refine rda follows 14 [(Pd.rep En.SItem (s_.2.1.1, s_.2.1.2.1, s_.2.1.2.2.1 + 1, s_.2.1.2.2.2)), (Pd.erow En.SItem s0.w.heap.size K14 51 [(s_.2.1.1, s_.2.1.2.1, s_.2.1.2.2.1 + 1, s_.2.1.2.2.2)]), (Pd.ptr En.SNode s_.1), (Pd.ptr En.str s_.1.2.2.2.2.2.2), (Pd.rep En.str s_.1.2.2.2.2.2.2), (Pd.ptr En.SItem s_.2.1), (Pd.ptr (En.int .i64) s_.2.1.2.2.1), (Pd.rep (En.int .i64) s_.2.1.2.2.1), (Pd.rep (En.int .u8) c16), (Pd.ptr (En.int .u8) s_.2.2), (Pd.rep (En.int .u8) s_.2.2), (Pd.rep En.bool (c16 == s_.2.2)), (Pd.erow En.SItem s0.w.heap.size K14 51 [(s_.2.1.1, s_.2.1.2.1, s_.2.1.2.2.1 + 1, s_.2.1.2.2.2)]), (Pd.rep En.bool (c16 == s_.2.2))] hL (by kernel_rfl) rfl rfl ?_ ?_
    · refine AllT.cons (t_loadb ty51 (o_t 4 rfl) rfl rfl) ?_
      refine AllT.cons (t_litx (xs := [.tmp 28]) (K := K14) (m := 999983) rfl nK14 (.cons (o_t 28 rfl) .nil) Tryz.underlying25 ty51 rfl rfl (by decide) rfl rfl) ?_
      refine AllT.cons (t_fa (off := 0) (o_t 1 rfl) Tryz.underlying70 rfl (prt_fst (prt_all _ _)) rfl ty46 rfl rfl) ?_
      refine AllT.cons (t_fa (off := 9) (o_t 30 rfl) Tryz.underlying46 rfl (prt_snd (prt_snd (prt_snd (prt_snd (prt_snd (prt_snd (prt_all _ _) rfl) rfl) rfl) rfl) rfl) rfl) rfl ty9 rfl rfl) ?_
      refine AllT.cons (t_load ty9 (o_t 31 rfl) rfl rfl) ?_
      refine AllT.cons (t_fa (off := 10) (o_t 1 rfl) Tryz.underlying70 rfl (prt_snd (prt_fst (prt_all _ _)) rfl) rfl ty51 rfl rfl) ?_
      refine AllT.cons (t_fa (off := 2) (o_t 33 rfl) Tryz.underlying51 rfl (prt_snd (prt_snd (prt_fst (prt_all _ _)) rfl) rfl) rfl ty3 rfl rfl) ?_
      refine AllT.cons (t_load ty3 (o_t 34 rfl) rfl rfl) ?_
      refine AllT.cons (t_sidx (o_t 32 rfl) (o_t 35 rfl) h17 Tryz.underlying9 rfl rfl) ?_
      refine AllT.cons (t_fa (off := 14) (o_t 1 rfl) Tryz.underlying70 rfl (prt_snd (prt_snd (prt_all _ _) rfl) rfl) rfl ty5 rfl rfl) ?_
      refine AllT.cons (t_load ty5 (o_t 37 rfl) rfl rfl) ?_
      refine AllT.cons (t_eqi (o_t 36 rfl) (o_t 38 rfl) rfl rfl) ?_
      refine AllT.cons (t_assign (o_t 29 rfl) rfl rfl) ?_
      refine AllT.cons (t_assign (o_t 39 rfl) rfl rfl) ?_
      exact AllT.nil
    intro a s e_ hL
    obtain ⟨og18, hg_, hL⟩ := hL.openr 2 rfl
    have d19 : Dis og18 (some g3) := Dis.new hg_ lt15
    refine en' ?_
    show K13 a s.w
    refine hK13 _ _ ?_
    subst h
    exact wp_ret (reto2 rfl hL rfl rfl)
theorem next_step_half_ok {s_ : Sstep_next} {r_ : ((List SItem) × Bool)} (h : next_step_half s_ r_) : Fn Tryz.prog 119 [(Pd.rep En.Sstep_next s_)] (Ro2 En.SItem 51 r_.1 (Pd.rep En.bool r_.2)) := by
  unfold next_step_half at h
  refine fn_of Tryz.func119 rfl Tryz.ntmps119 (by rfl) (by simp) fun s0 a hL => ?_
  refine wp_seq_k fun K1 hK1 => ?_
  refine rg ?_
  refine st 1 (t_box (o_t 0 rfl) rfl rfl) rfl rfl hL fun a s e_ hL => ?_
  refine st 2 (t_assign (o_nil (E := En.SItem) (N := s0.w.heap.size) (te := 51)) rfl rfl) rfl rfl hL fun a s e_ hL => ?_
  refine st 3 (t_assign o_b rfl rfl) rfl rfl hL fun a s e_ hL => ?_
  refine en' ?_
  show K1 a s.w
  refine hK1 _ _ ?_
  refine wp_seq_k fun K2 hK2 => ?_
  obtain ⟨h3, h4, r5, h6, h⟩ := h
  refine rg ?_
  refine st 4 (t_fa (off := 0) (o_t 1 rfl) Tryz.underlying70 rfl (prt_fst (prt_all _ _)) rfl ty46 rfl rfl) rfl rfl hL fun a s e_ hL => ?_
  refine st 5 (t_load ty46 (o_t 4 rfl) rfl rfl) rfl rfl hL fun a s e_ hL => ?_
  refine st 6 (t_fa (off := 10) (o_t 1 rfl) Tryz.underlying70 rfl (prt_snd (prt_fst (prt_all _ _)) rfl) rfl ty51 rfl rfl) rfl rfl hL fun a s e_ hL => ?_
  refine st 7 (t_fa (off := 2) (o_t 6 rfl) Tryz.underlying51 rfl (prt_snd (prt_snd (prt_fst (prt_all _ _)) rfl) rfl) rfl ty3 rfl rfl) rfl rfl hL fun a s e_ hL => ?_
  refine st 8 (t_load ty3 (o_t 7 rfl) rfl rfl) rfl rfl hL fun a s e_ hL => ?_
  refine st 9 (t_mul (o_i (k := .i64) (by decide)) (o_t 8 rfl) h3 rfl rfl) rfl rfl hL fun a s e_ hL => ?_
  refine st 10 (t_fa (off := 14) (o_t 1 rfl) Tryz.underlying70 rfl (prt_snd (prt_snd (prt_all _ _) rfl) rfl) rfl ty5 rfl rfl) rfl rfl hL fun a s e_ hL => ?_
  refine st 11 (t_load ty5 (o_t 10 rfl) rfl rfl) rfl rfl hL fun a s e_ hL => ?_
  refine st 12 (t_up (o_t 11 rfl) (by decide) Tryz.underlying5 Tryz.underlying3 rfl rfl) rfl rfl hL fun a s e_ hL => ?_
  refine st 13 (t_add (o_t 9 rfl) (o_t 12 rfl) h4 rfl rfl) rfl rfl hL fun a s e_ hL => ?_
  refine st_callo 14 hL (next_frame_ok h6) (xs := [.tmp 5, .tmp 13]) (.cons (o_t 5 rfl) (.cons (o_t 13 rfl) .nil)) rfl rfl rfl rfl fun a s og7 hg_ hL => ?_
  refine st 2 (t_assign (o_t 14 rfl) rfl rfl) rfl rfl hL fun a s e_ hL => ?_
  refine st 3 (t_assign o_b rfl rfl) rfl rfl hL fun a s e_ hL => ?_
  refine en' ?_
  show K2 a s.w
  refine hK2 _ _ ?_
  subst h
  exact wp_ret (reto2 rfl hL rfl rfl)
theorem law15_start_ok {d_ : SDesc} {r_ : (List SItem)} (h : law15_start d_ r_) : Fn Tryz.prog 23 [(Pd.rep En.SDesc d_)] (Ro En.SItem 51 r_) := by
  unfold law15_start at h
  refine fn_of Tryz.func23 rfl Tryz.ntmps23 (by rfl) (by simp) fun s0 a hL => ?_
  refine wp_seq_k fun K1 hK1 => ?_
  refine rg ?_
  refine st 1 (t_box (o_t 0 rfl) rfl rfl) rfl rfl hL fun a s e_ hL => ?_
  refine st 2 (t_assign (o_nil (E := En.SItem) (N := s0.w.heap.size) (te := 51)) rfl rfl) rfl rfl hL fun a s e_ hL => ?_
  refine en' ?_
  show K1 a s.w
  refine hK1 _ _ ?_
  refine wp_seq_k fun K2 hK2 => ?_
  obtain ⟨h3, h⟩ := h
  refine rg ?_
  refine st 3 (t_fa (off := 0) (o_t 1 rfl) Tryz.underlying24 rfl (prt_solo (prt_all _ _)) rfl ty22 rfl rfl) rfl rfl hL fun a s e_ hL => ?_
  refine st 4 (t_load ty22 (o_t 3 rfl) rfl rfl) rfl rfl hL fun a s e_ hL => ?_
  refine st 5 (t_len (o_t 4 rfl) Tryz.underlying22 rfl rfl) rfl rfl hL fun a s e_ hL => ?_
  refine st 6 (t_sub (o_t 5 rfl) (o_i (k := .i64) (by decide)) h3 rfl rfl) rfl rfl hL fun a s e_ hL => ?_
  refine st 7 (t_build (x := (1, (d_.length : Int) - 1, 0, 0)) (ps := [(0, .const (.int .i64 1)), (1, .tmp 6)]) tyz51 rfl stt51 (.cons (i := 0) (o_i (k := .i64) (by decide)) rfl (sub_fst (sub_all _ _ _)) (.cons (i := 1) (o_t 6 rfl) rfl (sub_snd (sub_fst (sub_all _ _ _)) rfl) .nil)) rfl rfl) rfl rfl hL fun a s e_ hL => ?_
  refine st_lito (xs := [.tmp 7]) 8 hL (.cons (o_t 7 rfl) .nil) Tryz.underlying26 ty51 rfl rfl (by decide) rfl rfl rfl rfl fun a s g4 hg_ hL => ?_
  refine st 2 (t_assign (o_t 8 rfl) rfl rfl) rfl rfl hL fun a s e_ hL => ?_
  refine en' ?_
  show K2 a s.w
  refine hK2 _ _ ?_
  subst h
  exact wp_ret (reto rfl hL rfl)
theorem dyn0_ok {f_ : Option Nat} {x0_ : Sstep_next} {r_ : ((List SItem) × Bool)} (h : dyn0 f_ x0_ r_) : ∃ f, f_ = some f ∧ Fn Tryz.prog f [Pd.rep En.Sstep_next x0_] (Rq (Pd.tup2 (Pd.rep (En.slice En.SItem) r_.1) (Pd.rep En.bool r_.2))) := by
  rcases h with ⟨e, h⟩ | ⟨e, h⟩ | ⟨e, h⟩
  · exact ⟨122, e, ((next_step_node_ok h).frz2 (Pd.rep_stable _ _)).tup⟩
  · exact ⟨123, e, ((next_step_text_ok h).frz2 (Pd.rep_stable _ _)).tup⟩
  · exact ⟨119, e, ((next_step_half_ok h).frz2 (Pd.rep_stable _ _)).tup⟩
theorem next_Read_ok {d_ : SDesc} {s_ : (List SItem)} {cv_ : Int} {r_ : ((List SItem) × Bool)} (h : next_Read d_ s_ cv_ r_) : Fn Tryz.prog 17 [(Pd.rep En.SDesc d_), (Pd.rep (En.slice En.SItem) s_), (Pd.rep (En.int .u8) cv_)] (Ro2 En.SItem 51 r_.1 (Pd.rep En.bool r_.2)) := by
  unfold next_Read at h
  refine fn_of Tryz.func17 rfl Tryz.ntmps17 (by rfl) (by simp) fun s0 a hL => ?_
  refine wp_seq_k fun K1 hK1 => ?_
  refine rg ?_
  refine st 3 (t_box (o_t 0 rfl) rfl rfl) rfl rfl hL fun a s e_ hL => ?_
  refine st 6 (t_assign (o_nil (E := En.SItem) (N := s0.w.heap.size) (te := 51)) rfl rfl) rfl rfl hL fun a s e_ hL => ?_
  refine st 7 (t_assign o_b rfl rfl) rfl rfl hL fun a s e_ hL => ?_
  refine en' ?_
  show K1 a s.w
  refine hK1 _ _ ?_
  refine wp_seq_k fun K2 hK2 => ?_
  refine wp_seq_k fun K3 hK3 => ?_
  refine rg ?_
  refine st 14 (t_move (o_t 1 rfl) rfl rfl) rfl rfl hL fun a s e_ hL => ?_
  refine st 15 (t_len (o_t 14 rfl) Tryz.underlying26 rfl rfl) rfl rfl hL fun a s e_ hL => ?_
  refine st 16 (t_eqi (o_t 15 rfl) (o_i (k := .i64) (by decide)) rfl rfl) rfl rfl hL fun a s e_ hL => ?_
  refine en' ?_
  show K3 a s.w
  refine hK3 _ _ ?_
  refine cnd hL rfl (fun hb_ => ?_) (fun hb_ => ?_)
  · replace h := h.1 hb_
    refine wp_seq_k fun K4 hK4 => ?_
    refine rg ?_
    refine st 6 (t_assign (o_nil (E := En.SItem) (N := s0.w.heap.size) (te := 51)) rfl rfl) rfl rfl hL fun a s e_ hL => ?_
    refine st 7 (t_assign o_b rfl rfl) rfl rfl hL fun a s e_ hL => ?_
    refine en' ?_
    show K4 a s.w
    refine hK4 _ _ ?_
    subst h
    exact wp_ret (reto2 rfl hL rfl rfl)
  · replace h := h.2 hb_
    refine wp_skip ?_
    show K2 a s.w
    refine hK2 _ _ ?_
    refine wp_seq_k fun K5 hK5 => ?_
    obtain ⟨h6, r7, h8, h⟩ := h
    refine rg ?_
    refine st 18 (t_move (o_t 1 rfl) rfl rfl) rfl rfl hL fun a s e_ hL => ?_
    refine st 19 (t_from (o_t 18 rfl) (o_i (k := .i64) (by decide)) h6 Tryz.underlying26 ty51 rfl rfl) rfl rfl hL fun a s e_ hL => ?_
    refine st 20 (t_call (((item_Lower_ok h8).frz2 (Pd.rep_stable _ _)).tup) (xs := [.tmp 19]) (.cons (o_t 19 rfl) .nil) rfl rfl) rfl rfl hL fun a s e_ hL => ?_
    refine st 17 (t_move (o_t 20 rfl) rfl rfl) rfl rfl hL fun a s e_ hL => ?_
    refine st 21 (t_ext0 (o_t 17 rfl) rfl rfl) rfl rfl hL fun a s e_ hL => ?_
    refine st 22 (t_ext1 (o_t 17 rfl) rfl rfl) rfl rfl hL fun a s e_ hL => ?_
    refine st 8 (t_assign (o_t 21 rfl) rfl rfl) rfl rfl hL fun a s e_ hL => ?_
    refine st 9 (t_assign (o_t 22 rfl) rfl rfl) rfl rfl hL fun a s e_ hL => ?_
    refine en' ?_
    show K5 a s.w
    refine hK5 _ _ ?_
    refine wp_seq_k fun K9 hK9 => ?_
    obtain ⟨e10, h11, h⟩ := h
    refine rda follows 11 [(Pd.rep (En.fmap (En.int .i64) kvI64 En.fid) gfm0), (Pd.rep (En.slice En.SItem) s_), (Pd.ptr En.SItem e10), (Pd.ptr (En.int .i64) e10.1), (Pd.rep (En.int .i64) e10.1), (Pd.tup2 (Pd.rep En.fid (mget gfm0 e10.1 none)) (Pd.rep En.bool (mhas gfm0 e10.1))), (Pd.tup2 (Pd.rep En.fid (mget gfm0 e10.1 none)) (Pd.rep En.bool (mhas gfm0 e10.1))), (Pd.rep En.fid (mget gfm0 e10.1 none)), (Pd.rep En.bool (mhas gfm0 e10.1)), (Pd.rep En.fid (mget gfm0 e10.1 none)), (Pd.rep En.bool (mhas gfm0 e10.1))] hL (by kernel_rfl) rfl rfl ?_ ?_
    · refine AllT.cons (t_load (⟨⟨_, _, rfl, rfl, rfl, rfl, by decide⟩, _, rfl, rfl⟩ : Ty Tryz.prog 67 (En.fmap (En.int .i64) kvI64 En.fid)) (o_gm (g := 0) (by simp [gmap])) rfl rfl) ?_
      refine AllT.cons (t_move (o_t 1 rfl) rfl rfl) ?_
      refine AllT.cons (t_idx (o_t 25 rfl) (o_i (k := .i64) (by decide)) h11 Tryz.underlying26 ty51 rfl rfl) ?_
      refine AllT.cons (t_fa (off := 0) (o_t 26 rfl) Tryz.underlying51 rfl (prt_fst (prt_all _ _)) rfl ty3 rfl rfl) ?_
      refine AllT.cons (t_load ty3 (o_t 27 rfl) rfl rfl) ?_
      refine AllT.cons (t_mgetfok (z := none) (o_t 24 rfl) (o_t 28 rfl) Tryz.underlying67 (key_i64 Tryz.underlying3) (⟨_, [.nilFunc], rfl, by rfl, fun _ _ => rfl⟩ : TyV Tryz.prog 65 En.fid none) rfl rfl) ?_
      refine AllT.cons (t_move (o_t 29 rfl) rfl rfl) ?_
      refine AllT.cons (t_ext0 (o_t 23 rfl) rfl rfl) ?_
      refine AllT.cons (t_ext1 (o_t 23 rfl) rfl rfl) ?_
      refine AllT.cons (t_assign (o_t 30 rfl) rfl rfl) ?_
      refine AllT.cons (t_assign (o_t 31 rfl) rfl rfl) ?_
      exact AllT.nil
    intro a s e_ hL
    refine en' ?_
    show K9 a s.w
    refine hK9 _ _ ?_
    refine wp_seq_k fun K12 hK12 => ?_
    refine wp_seq_k fun K13 hK13 => ?_
    refine rg ?_
    refine st 32 (t_move (o_t 9 rfl) rfl rfl) rfl rfl hL fun a s e_ hL => ?_
    refine st 33 (t_not (o_t 32 rfl) rfl rfl) rfl rfl hL fun a s e_ hL => ?_
    refine st 34 (t_move (o_t 33 rfl) rfl rfl) rfl rfl hL fun a s e_ hL => ?_
    refine st 35 (t_g1 rfl rfl rfl (fun hc_ => t_move (o_t 11 rfl) rfl rfl)) rfl rfl hL fun a s e_ hL => ?_
    refine st 36 (t_g1 rfl rfl rfl (fun hc_ => t_not (o_w hc_ 35 rfl) rfl rfl)) rfl rfl hL fun a s e_ hL => ?_
    refine st 37 (t_or (o_t 34 rfl) (fun hc2_ => (o_w hc2_ 36 rfl)) rfl rfl) rfl rfl hL fun a s e_ hL => ?_
    refine en' ?_
    show K13 a s.w
    refine hK13 _ _ ?_
    refine cnd hL rfl (fun hb_ => ?_) (fun hb_ => ?_)
    · replace h := h.1 hb_
      refine wp_seq_k fun K14 hK14 => ?_
      refine rg ?_
      refine st 6 (t_assign (o_nil (E := En.SItem) (N := s0.w.heap.size) (te := 51)) rfl rfl) rfl rfl hL fun a s e_ hL => ?_
      refine st 7 (t_assign o_b rfl rfl) rfl rfl hL fun a s e_ hL => ?_
      refine en' ?_
      show K14 a s.w
      refine hK14 _ _ ?_
      subst h
      exact wp_ret (reto2 rfl hL rfl rfl)
    · replace h := h.2 hb_
      refine wp_skip ?_
      show K12 a s.w
      refine hK12 _ _ ?_
      refine wp_seq_k fun K15 hK15 => ?_
      obtain ⟨e16, h17, e18, h19, e20, h21, r22, h23, h⟩ := h
      refine rda follows 20 [(Pd.rep En.fid (mget gfm0 e10.1 none)), (Pd.ptr (En.slice En.SNode) d_), (Pd.rep (En.slice En.SNode) d_), (Pd.rep (En.slice En.SItem) s_), (Pd.ptr En.SItem e16), (Pd.ptr (En.int .i64) e16.2.1), (Pd.rep (En.int .i64) e16.2.1), (Pd.ptr En.SNode e18), (Pd.rep En.SNode e18), (Pd.rep (En.slice En.SItem) s_), (Pd.ptr En.SItem e20), (Pd.rep En.SItem e20), (Pd.rep (En.int .u8) cv_), (Pd.rep En.Sstep_next (e18, e20, cv_)), (Pd.tup2 (Pd.rep (En.slice En.SItem) r22.1) (Pd.rep En.bool r22.2)), (Pd.tup2 (Pd.rep (En.slice En.SItem) r22.1) (Pd.rep En.bool r22.2)), (Pd.rep (En.slice En.SItem) r22.1), (Pd.rep En.bool r22.2), (Pd.rep (En.slice En.SItem) r22.1), (Pd.rep En.bool r22.2)] hL (by kernel_rfl) rfl rfl ?_ ?_
      · refine AllT.cons (t_move (o_t 10 rfl) rfl rfl) ?_
        refine AllT.cons (t_fa (off := 0) (o_t 3 rfl) Tryz.underlying24 rfl (prt_solo (prt_all _ _)) rfl ty22 rfl rfl) ?_
        refine AllT.cons (t_load ty22 (o_t 40 rfl) rfl rfl) ?_
        refine AllT.cons (t_move (o_t 1 rfl) rfl rfl) ?_
        refine AllT.cons (t_idx (o_t 42 rfl) (o_i (k := .i64) (by decide)) h17 Tryz.underlying26 ty51 rfl rfl) ?_
        refine AllT.cons (t_fa (off := 1) (o_t 43 rfl) Tryz.underlying51 rfl (prt_snd (prt_fst (prt_all _ _)) rfl) rfl ty3 rfl rfl) ?_
        refine AllT.cons (t_load ty3 (o_t 44 rfl) rfl rfl) ?_
        refine AllT.cons (t_idx (o_t 41 rfl) (o_t 45 rfl) h19 Tryz.underlying22 ty46 rfl rfl) ?_
        refine AllT.cons (t_load ty46 (o_t 46 rfl) rfl rfl) ?_
        refine AllT.cons (t_move (o_t 1 rfl) rfl rfl) ?_
        refine AllT.cons (t_idx (o_t 48 rfl) (o_i (k := .i64) (by decide)) h21 Tryz.underlying26 ty51 rfl rfl) ?_
        refine AllT.cons (t_load ty51 (o_t 49 rfl) rfl rfl) ?_
        refine AllT.cons (t_move (o_t 2 rfl) rfl rfl) ?_
        refine AllT.cons (t_build (x := (e18, e20, cv_)) (ps := [(0, .tmp 47), (1, .tmp 50), (2, .tmp 51)]) tyz70 rfl stt70 (.cons (i := 0) (o_t 47 rfl) rfl (sub_fst (sub_all _ _ _)) (.cons (i := 1) (o_t 50 rfl) rfl (sub_snd (sub_fst (sub_all _ _ _)) rfl) (.cons (i := 2) (o_t 51 rfl) rfl (sub_snd (sub_snd (sub_all _ _ _) rfl) rfl) .nil))) rfl rfl) ?_
        refine AllT.cons (t_callid (dyn0_ok h23) (o_t 39 rfl) (xs := [.tmp 52]) (.cons (o_t 52 rfl) .nil) rfl rfl) ?_
        refine AllT.cons (t_move (o_t 53 rfl) rfl rfl) ?_
        refine AllT.cons (t_ext0 (o_t 38 rfl) rfl rfl) ?_
        refine AllT.cons (t_ext1 (o_t 38 rfl) rfl rfl) ?_
        refine AllT.cons (t_assign (o_t 54 rfl) rfl rfl) ?_
        refine AllT.cons (t_assign (o_t 55 rfl) rfl rfl) ?_
        exact AllT.nil
      intro a s e_ hL
      refine en' ?_
      show K15 a s.w
      refine hK15 _ _ ?_
      refine wp_seq_k fun K24 hK24 => ?_
      refine wp_seq_k fun K25 hK25 => ?_
      refine rg ?_
      refine st 56 (t_move (o_t 13 rfl) rfl rfl) rfl rfl hL fun a s e_ hL => ?_
      refine st 57 (t_not (o_t 56 rfl) rfl rfl) rfl rfl hL fun a s e_ hL => ?_
      refine en' ?_
      show K25 a s.w
      refine hK25 _ _ ?_
      refine cnd hL rfl (fun hb_ => ?_) (fun hb_ => ?_)
      · replace h := h.1 hb_
        refine wp_seq_k fun K26 hK26 => ?_
        refine rg ?_
        refine st 6 (t_assign (o_nil (E := En.SItem) (N := s0.w.heap.size) (te := 51)) rfl rfl) rfl rfl hL fun a s e_ hL => ?_
        refine st 7 (t_assign o_b rfl rfl) rfl rfl hL fun a s e_ hL => ?_
        refine en' ?_
        show K26 a s.w
        refine hK26 _ _ ?_
        subst h
        exact wp_ret (reto2 rfl hL rfl rfl)
      · replace h := h.2 hb_
        refine wp_skip ?_
        show K24 a s.w
        refine hK24 _ _ ?_
        refine wp_seq_k fun K27 hK27 => ?_
        obtain ⟨r28, h29, h⟩ := h
        refine rg ?_
        refine st 58 (t_move (o_t 12 rfl) rfl rfl) rfl rfl hL fun a s e_ hL => ?_
        refine st 59 (t_move (o_t 8 rfl) rfl rfl) rfl rfl hL fun a s e_ hL => ?_
        refine st 60 (t_lit (xs := [.tmp 58, .tmp 59]) (.cons (o_t 58 rfl) (.cons (o_t 59 rfl) .nil)) Tryz.underlying106 ty26 rfl rfl (by decide) rfl rfl) rfl rfl hL fun a s e_ hL => ?_
        refine st_callo 61 hL (slices_Concat_api_State_api_Item_ok h29) (xs := [.tmp 60]) (.cons (o_t 60 rfl) .nil) rfl rfl rfl rfl fun a s og30 hg_ hL => ?_
        refine st 6 (t_assign (o_t 61 rfl) rfl rfl) rfl rfl hL fun a s e_ hL => ?_
        refine st 7 (t_assign o_b rfl rfl) rfl rfl hL fun a s e_ hL => ?_
        refine en' ?_
        show K27 a s.w
        refine hK27 _ _ ?_
        subst h
        exact wp_ret (reto2 rfl hL rfl rfl)
theorem next_On_ok {d_ : SDesc} {s_ : (List SItem)} {cv_ : Int} {r_ : (List SBranch)} (h : next_On d_ s_ cv_ r_) : Fn Tryz.prog 9 [(Pd.rep En.SDesc d_), (Pd.rep (En.slice En.SItem) s_), (Pd.rep (En.int .u8) cv_)] (Ro En.SBranch 53 r_) := by
  unfold next_On at h
  refine fn_of Tryz.func9 rfl Tryz.ntmps9 (by rfl) (by simp) fun s0 a hL => ?_
  refine wp_seq_k fun K1 hK1 => ?_
  refine rg ?_
  refine st 3 (t_box (o_t 0 rfl) rfl rfl) rfl rfl hL fun a s e_ hL => ?_
  refine st 6 (t_assign (o_nil (E := En.SBranch) (N := s0.w.heap.size) (te := 53)) rfl rfl) rfl rfl hL fun a s e_ hL => ?_
  refine en' ?_
  show K1 a s.w
  refine hK1 _ _ ?_
  refine wp_seq_k fun K2 hK2 => ?_
  refine rg ?_
  refine st_mkmap 15 En.str kvStr (En.int .i64) hL rfl rfl rfl rfl fun a s g3 hg_ hL => ?_
  refine st 7 (t_assign (o_t 15 rfl) rfl rfl) rfl rfl hL fun a s e_ hL => ?_
  refine en' ?_
  show K2 a s.w
  refine hK2 _ _ ?_
  refine wp_seq_k fun K4 hK4 => ?_
  refine rg ?_
  refine st 8 (t_assign (o_nil (E := En.SBranch) (N := s0.w.heap.size) (te := 53)) rfl rfl) rfl rfl hL fun a s e_ hL => ?_
  refine en' ?_
  show K4 a s.w
  refine hK4 _ _ ?_
  refine wp_seq_k fun K5 hK5 => ?_
  refine wp_seq_k fun K6 hK6 => ?_
  obtain ⟨r7, h8, h⟩ := h
  refine rg ?_
  refine st 16 (t_load ty24 (o_t 3 rfl) rfl rfl) rfl rfl hL fun a s e_ hL => ?_
  refine st 17 (t_move (o_t 1 rfl) rfl rfl) rfl rfl hL fun a s e_ hL => ?_
  refine st 18 (t_call ((heads_Heads_ok h8).frz) (xs := [.tmp 16, .tmp 17]) (.cons (o_t 16 rfl) (.cons (o_t 17 rfl) .nil)) rfl rfl) rfl rfl hL fun a s e_ hL => ?_
  refine st 19 (t_len (o_t 18 rfl) Tryz.underlying31 rfl rfl) rfl rfl hL fun a s e_ hL => ?_
  refine st 20 (t_move (o_i (k := .i64) (by decide)) rfl rfl) rfl rfl hL fun a s e_ hL => ?_
  refine en' ?_
  show K6 a s.w
  refine hK6 _ _ ?_
  refine wp_block ?_
  have J13 : ∀ (many9 : (List (Str × Int))) (out11 : (List SBranch)) (og10 : Option Nat) (og12 : Option Nat) (a : Act) (s : St), Has N0 76 s0 a s [(7, (Pd.map En.str kvStr (En.int .i64) s0.w.heap.size og10 many9)), (8, (Pd.row En.SBranch s0.w.heap.size 53 og12 out11))] → Dis og10 og12 → ((next_On.j2 r_) many9 out11) → K5 a s.w := by
    intro many9 out11 og10 og12 a s hL d14 h
    unfold next_On.j2 at h
    show K5 a s.w
    refine hK5 _ _ ?_
    refine wp_seq_k fun K15 hK15 => ?_
    refine wp_seq_k fun K16 hK16 => ?_
    refine rg ?_
    refine st 55 (t_move (o_t 8 rfl) rfl rfl) rfl rfl hL fun a s e_ hL => ?_
    refine st 56 (t_leno (o_t 55 rfl) Tryz.underlying31 rfl rfl) rfl rfl hL fun a s e_ hL => ?_
    refine st 57 (t_move (o_i (k := .i64) (by decide)) rfl rfl) rfl rfl hL fun a s e_ hL => ?_
    refine en' ?_
    show K16 a s.w
    refine hK16 _ _ ?_
    refine wp_block ?_
    have J19 : ∀ (out17 : (List SBranch)) (og18 : Option Nat) (a : Act) (s : St), Has N0 76 s0 a s [(8, (Pd.row En.SBranch s0.w.heap.size 53 og18 out17))] → ((next_On.j1 r_) out17) → K15 a s.w := by
      intro out17 og18 a s hL h
      unfold next_On.j1 at h
      show K15 a s.w
      refine hK15 _ _ ?_
      refine wp_seq_k fun K20 hK20 => ?_
      obtain ⟨r21, h22, h⟩ := h
      refine rg ?_
      refine st 73 (t_move (o_t 8 rfl) rfl rfl) rfl rfl hL fun a s e_ hL => ?_
      refine st_callr (L' := [(8, (Pd.row En.SBranch s0.w.heap.size 53 og18 r21))]) 74 (fun v0 => sort_next_On_1_ok v0 h22) hL (o_t 73 rfl) (zs := [.func 30]) (.cons o_isf .nil) rfl rfl rfl rfl (.turn (t := 8) rfl .nil) fun a s hL => ?_
      refine en' ?_
      show K20 a s.w
      refine hK20 _ _ ?_
      refine wp_seq_k fun K23 hK23 => ?_
      refine rg ?_
      refine st 75 (t_move (o_t 8 rfl) rfl rfl) rfl rfl hL fun a s e_ hL => ?_
      refine st 6 (t_assign (o_t 75 rfl) rfl rfl) rfl rfl hL fun a s e_ hL => ?_
      refine en' ?_
      show K23 a s.w
      refine hK23 _ _ ?_
      subst h
      exact wp_ret (reto rfl hL rfl)
    obtain ⟨k27, h⟩ := h
    refine lpg (fun k28 a s => ∃ (out24 : (List SBranch)) (v26 : Int) (og25 : Option Nat), Has N0 76 s0 a s [(7, (Pd.map En.str kvStr (En.int .i64) s0.w.heap.size og10 many9)), (8, (Pd.row En.SBranch s0.w.heap.size 53 og25 out24)), (56, (Pd.rep (En.int .i64) (out11.length : Int))), (57, (Pd.rep (En.int .i64) v26))] ∧ Dis og10 og25 ∧ next_On.l1 many9 out11 (next_On.j1 r_) k28 out24 v26) k27 ⟨out11, 0, og12, hL.keep (.cons (t := 7) rfl (fun _ _ h_ => h_) (.cons (t := 8) rfl (fun _ _ h_ => h_) (.cons (t := 56) rfl (fun _ h_ => h_.elim) (.cons (t := 57) rfl (fun _ h_ => h_.elim) .nil)))), d14, h⟩ ?_
    rintro k28 a s ⟨out24, v26, og25, hL, d30, h⟩ KL29 hKL29
    cases k28 with
    | zero => exact h.elim
    | succ k28 =>
    unfold next_On.l1 at h
    refine wp_seq_k fun K31 hK31 => ?_
    refine rg ?_
    refine st 58 (t_lss (o_t 57 rfl) (o_t 56 rfl) rfl rfl) rfl rfl hL fun a s e_ hL => ?_
    refine en' ?_
    show K31 a s.w
    refine hK31 _ _ ?_
    refine wp_seq_k fun K32 hK32 => ?_
    refine cnd hL rfl (fun hb_ => ?_) (fun hb_ => ?_)
    · replace h := h.1 hb_
      refine wp_skip ?_
      show K32 a s.w
      refine hK32 _ _ ?_
      refine wp_seq_k fun K33 hK33 => ?_
      refine wp_block ?_
      refine wp_seq_k fun K34 hK34 => ?_
      refine rg ?_
      refine st 59 (t_move (o_t 57 rfl) rfl rfl) rfl rfl hL fun a s e_ hL => ?_
      refine st 14 (t_assign (o_t 59 rfl) rfl rfl) rfl rfl hL fun a s e_ hL => ?_
      refine en' ?_
      show K34 a s.w
      refine hK34 _ _ ?_
      obtain ⟨e35, h36, r37, h38, e39, h40, h⟩ := h
      refine rg ?_
      refine st 60 (t_move (o_t 8 rfl) rfl rfl) rfl rfl hL fun a s e_ hL => ?_
      refine st 61 (t_move (o_t 14 rfl) rfl rfl) rfl rfl hL fun a s e_ hL => ?_
      refine st 62 (t_move (o_t 7 rfl) rfl rfl) rfl rfl hL fun a s e_ hL => ?_
      refine st 63 (t_move (o_t 8 rfl) rfl rfl) rfl rfl hL fun a s e_ hL => ?_
      refine st 64 (t_move (o_t 14 rfl) rfl rfl) rfl rfl hL fun a s e_ hL => ?_
      refine st 65 (t_idxo (o_t 63 rfl) (o_t 64 rfl) h36 Tryz.underlying31 ty53 rfl rfl) rfl rfl hL fun a s e_ hL => ?_
      refine st 66 (t_fao (off := 0) (o_t 65 rfl) Tryz.underlying53 rfl (prt_fst (prt_all _ _)) rfl ty26 rfl rfl) rfl rfl hL fun a s e_ hL => ?_
      refine st 67 (t_loado ty26 (o_t 66 rfl) rfl rfl) rfl rfl hL fun a s e_ hL => ?_
      refine st 68 (t_call (item_Key_ok h38) (xs := [.tmp 67]) (.cons (o_t 67 rfl) .nil) rfl rfl) rfl rfl hL fun a s e_ hL => ?_
      refine st 69 (t_mget (o_t 62 rfl) (o_t 68 rfl) Tryz.underlying56 (key_str Tryz.underlying9) tyv3 rfl rfl) rfl rfl hL fun a s e_ hL => ?_
      refine st 70 (t_idxo (o_t 60 rfl) (o_t 61 rfl) h40 Tryz.underlying31 ty53 rfl rfl) rfl rfl hL fun a s e_ hL => ?_
      refine st 71 (t_fao (off := 1) (o_t 70 rfl) Tryz.underlying53 rfl (prt_snd (prt_all _ _) rfl) rfl ty3 rfl rfl) rfl rfl hL fun a s e_ hL => ?_
      refine st_stor (L' := [(7, (Pd.map En.str kvStr (En.int .i64) s0.w.heap.size og10 many9)), (8, (Pd.row En.SBranch s0.w.heap.size 53 og25 (out24.set (v26 : Int).toNat (e39.1, (mget many9 r37 0))))), (56, (Pd.rep (En.int .i64) (out11.length : Int))), (57, (Pd.rep (En.int .i64) v26))]) (off := 1) 8 hL rfl h40 (o_t 71 rfl) (o_t 69 rfl) (sub_snd (sub_all _ _ _) rfl) ty3 rfl rfl rfl (.cons (t := 7) rfl (Dis.ow d30) (.turn (t := 8) rfl (.cons (t := 56) rfl (fun _ h_ => h_.elim) (.cons (t := 57) rfl (fun _ h_ => h_.elim) .nil)))) fun s hL => ?_
      refine en' ?_
      show K33 a s.w
      refine hK33 _ _ ?_
      obtain ⟨h41, h⟩ := h
      refine rg ?_
      refine st 72 (t_add (o_t 57 rfl) (o_i (k := .i64) (by decide)) h41 rfl rfl) rfl rfl hL fun a s e_ hL => ?_
      refine st 57 (t_move (o_t 72 rfl) rfl rfl) rfl rfl hL fun a s e_ hL => ?_
      refine en' ?_
      exact hKL29 k28 a s (Nat.lt_succ_self _) ⟨(out24.set (v26 : Int).toNat (e39.1, (mget many9 r37 0))), (v26 + 1), og25, hL.keep (.cons (t := 7) rfl (fun _ _ h_ => h_) (.cons (t := 8) rfl (fun _ _ h_ => h_) (.cons (t := 56) rfl (fun _ h_ => h_.elim) (.cons (t := 57) rfl (fun _ h_ => h_.elim) .nil)))), d30, h⟩
    · replace h := h.2 hb_
      refine wp_exit ?_
      exact J19 out24 og25 a s (hL.keep (.cons (t := 8) rfl (fun _ _ h_ => h_) .nil)) h
  obtain ⟨k47, h⟩ := h
  refine lpg (fun k48 a s => ∃ (many42 : (List (Str × Int))) (out44 : (List SBranch)) (v46 : Int) (og43 : Option Nat) (og45 : Option Nat), Has N0 76 s0 a s [(2, (Pd.rep (En.int .u8) cv_)), (3, (Pd.ptr En.SDesc d_)), (7, (Pd.map En.str kvStr (En.int .i64) s0.w.heap.size og43 many42)), (8, (Pd.row En.SBranch s0.w.heap.size 53 og45 out44)), (18, (Pd.rep (En.slice En.SBranch) r7)), (19, (Pd.rep (En.int .i64) (r7.length : Int))), (20, (Pd.rep (En.int .i64) v46))] ∧ Dis og43 og45 ∧ next_On.l2 d_ cv_ r7 (next_On.j2 r_) k48 many42 out44 v46) k47 ⟨([] : (List (Str × Int))), ([] : (List SBranch)), 0, (some g3), none, hL.keep (.cons (t := 2) rfl (fun _ h_ => h_.elim) (.cons (t := 3) rfl (fun _ h_ => h_.elim) (.cons (t := 7) rfl (fun _ _ h_ => h_) (.cons (t := 8) rfl (fun _ _ h_ => h_) (.cons (t := 18) rfl (fun _ h_ => h_.elim) (.cons (t := 19) rfl (fun _ h_ => h_.elim) (.cons (t := 20) rfl (fun _ h_ => h_.elim) .nil))))))), (Dis.symm Dis.none), h⟩ ?_
  rintro k48 a s ⟨many42, out44, v46, og43, og45, hL, d50, h⟩ KL49 hKL49
  cases k48 with
  | zero => exact h.elim
  | succ k48 =>
  unfold next_On.l2 at h
  refine wp_seq_k fun K51 hK51 => ?_
  refine rg ?_
  refine st 21 (t_lss (o_t 20 rfl) (o_t 19 rfl) rfl rfl) rfl rfl hL fun a s e_ hL => ?_
  refine en' ?_
  show K51 a s.w
  refine hK51 _ _ ?_
  refine wp_seq_k fun K52 hK52 => ?_
  refine cnd hL rfl (fun hb_ => ?_) (fun hb_ => ?_)
  · replace h := h.1 hb_
    refine wp_skip ?_
    show K52 a s.w
    refine hK52 _ _ ?_
    refine wp_seq_k fun K53 hK53 => ?_
    refine wp_block ?_
    refine wp_seq_k fun K54 hK54 => ?_
    obtain ⟨e55, h56, h⟩ := h
    refine rg ?_
    refine st 22 (t_idx (o_t 18 rfl) (o_t 20 rfl) h56 Tryz.underlying31 ty53 rfl rfl) rfl rfl hL fun a s e_ hL => ?_
    refine st 23 (t_load ty53 (o_t 22 rfl) rfl rfl) rfl rfl hL fun a s e_ hL => ?_
    have lt_d59 := hL.rlt 8 rfl
    have lt_d58 := hL.mlt 7 rfl
    refine st_alloc En.SBranch (z := ([], 0)) 10 hL tyz53 rfl rfl rfl rfl fun a s g57 hg_ hL => ?_
    have d58 : Dis (some g57) og43 := Dis.newg hg_ lt_d58
    have d59 : Dis (some g57) og45 := Dis.newg hg_ lt_d59
    refine st_stb (L' := [(2, (Pd.rep (En.int .u8) cv_)), (3, (Pd.ptr En.SDesc d_)), (7, (Pd.map En.str kvStr (En.int .i64) s0.w.heap.size og43 many42)), (8, (Pd.row En.SBranch s0.w.heap.size 53 og45 out44)), (18, (Pd.rep (En.slice En.SBranch) r7)), (19, (Pd.rep (En.int .i64) (r7.length : Int))), (20, (Pd.rep (En.int .i64) v46))]) 10 hL rfl (o_t 23 rfl) ty53 rfl rfl rfl (.cons (t := 2) rfl (fun _ h_ => h_.elim) (.cons (t := 3) rfl (fun _ h_ => h_.elim) (.cons (t := 7) rfl (Dis.ow (Dis.symm d58)) (.cons (t := 8) rfl (Dis.ow (Dis.symm d59)) (.cons (t := 18) rfl (fun _ h_ => h_.elim) (.cons (t := 19) rfl (fun _ h_ => h_.elim) (.cons (t := 20) rfl (fun _ h_ => h_.elim) .nil))))))) fun s hL => ?_
    refine en' ?_
    show K54 a s.w
    refine hK54 _ _ ?_
    refine wp_seq_k fun K60 hK60 => ?_
    obtain ⟨r61, h62, h⟩ := h
    refine rg ?_
    refine st 25 (t_load ty24 (o_t 3 rfl) rfl rfl) rfl rfl hL fun a s e_ hL => ?_
    refine st 26 (t_fab (off := 0) (o_t 10 rfl) Tryz.underlying53 rfl (prt_fst (prt_all _ _)) rfl ty26 rfl rfl) rfl rfl hL fun a s e_ hL => ?_
    refine st 27 (t_loado ty26 (o_t 26 rfl) rfl rfl) rfl rfl hL fun a s e_ hL => ?_
    refine st 28 (t_move (o_t 2 rfl) rfl rfl) rfl rfl hL fun a s e_ hL => ?_
    refine st 29 (t_call (((next_Read_ok h62).frz2 (Pd.rep_stable _ _)).tup) (xs := [.tmp 25, .tmp 27, .tmp 28]) (.cons (o_t 25 rfl) (.cons (o_t 27 rfl) (.cons (o_t 28 rfl) .nil))) rfl rfl) rfl rfl hL fun a s e_ hL => ?_
    refine st 24 (t_move (o_t 29 rfl) rfl rfl) rfl rfl hL fun a s e_ hL => ?_
    refine st 30 (t_ext0 (o_t 24 rfl) rfl rfl) rfl rfl hL fun a s e_ hL => ?_
    refine st 31 (t_ext1 (o_t 24 rfl) rfl rfl) rfl rfl hL fun a s e_ hL => ?_
    refine st 11 (t_assign (o_t 30 rfl) rfl rfl) rfl rfl hL fun a s e_ hL => ?_
    refine st 12 (t_assign (o_t 31 rfl) rfl rfl) rfl rfl hL fun a s e_ hL => ?_
    refine en' ?_
    show K60 a s.w
    refine hK60 _ _ ?_
    refine wp_seq_k fun K63 hK63 => ?_
    refine wp_seq_k fun K64 hK64 => ?_
    refine rg ?_
    refine st 32 (t_move (o_t 12 rfl) rfl rfl) rfl rfl hL fun a s e_ hL => ?_
    refine st 33 (t_not (o_t 32 rfl) rfl rfl) rfl rfl hL fun a s e_ hL => ?_
    refine en' ?_
    show K64 a s.w
    refine hK64 _ _ ?_
    refine cnd hL rfl (fun hb_ => ?_) (fun hb_ => ?_)
    · replace h := h.1 hb_
      refine wp_exit ?_
      show K53 a s.w
      refine hK53 _ _ ?_
      obtain ⟨h65, h⟩ := h
      refine rg ?_
      refine st 54 (t_add (o_t 20 rfl) (o_i (k := .i64) (by decide)) h65 rfl rfl) rfl rfl hL fun a s e_ hL => ?_
      refine st 20 (t_move (o_t 54 rfl) rfl rfl) rfl rfl hL fun a s e_ hL => ?_
      refine en' ?_
      exact hKL49 k48 a s (Nat.lt_succ_self _) ⟨many42, out44, (v46 + 1), og43, og45, hL.keep (.cons (t := 2) rfl (fun _ h_ => h_.elim) (.cons (t := 3) rfl (fun _ h_ => h_.elim) (.cons (t := 7) rfl (fun _ _ h_ => h_) (.cons (t := 8) rfl (fun _ _ h_ => h_) (.cons (t := 18) rfl (fun _ h_ => h_.elim) (.cons (t := 19) rfl (fun _ h_ => h_.elim) (.cons (t := 20) rfl (fun _ h_ => h_.elim) .nil))))))), d50, h⟩
    · replace h := h.2 hb_
      refine wp_skip ?_
      show K63 a s.w
      refine hK63 _ _ ?_
      refine wp_seq_k fun K66 hK66 => ?_
      obtain ⟨r67, h68, h⟩ := h
      refine rg ?_
      refine st 34 (t_move (o_t 11 rfl) rfl rfl) rfl rfl hL fun a s e_ hL => ?_
      refine st 35 (t_call (item_Key_ok h68) (xs := [.tmp 34]) (.cons (o_t 34 rfl) .nil) rfl rfl) rfl rfl hL fun a s e_ hL => ?_
      refine st 13 (t_assign (o_t 35 rfl) rfl rfl) rfl rfl hL fun a s e_ hL => ?_
      refine en' ?_
      show K66 a s.w
      refine hK66 _ _ ?_
      refine wp_seq_k fun K69 hK69 => ?_
      refine wp_seq_k fun K70 hK70 => ?_
      refine rg ?_
      refine st 36 (t_move (o_t 7 rfl) rfl rfl) rfl rfl hL fun a s e_ hL => ?_
      refine st 37 (t_move (o_t 13 rfl) rfl rfl) rfl rfl hL fun a s e_ hL => ?_
      refine st 38 (t_mget (o_t 36 rfl) (o_t 37 rfl) Tryz.underlying56 (key_str Tryz.underlying9) tyv3 rfl rfl) rfl rfl hL fun a s e_ hL => ?_
      refine st 39 (t_eqi (o_t 38 rfl) (o_i (k := .i64) (by decide)) rfl rfl) rfl rfl hL fun a s e_ hL => ?_
      refine en' ?_
      show K70 a s.w
      refine hK70 _ _ ?_
      have J73 : ∀ (out71 : (List SBranch)) (og72 : Option Nat) (a : Act) (s : St), Has N0 76 s0 a s [(2, (Pd.rep (En.int .u8) cv_)), (3, (Pd.ptr En.SDesc d_)), (7, (Pd.map En.str kvStr (En.int .i64) s0.w.heap.size og43 many42)), (8, (Pd.row En.SBranch s0.w.heap.size 53 og72 out71)), (10, (Pd.box En.SBranch s0.w.heap.size g57 e55)), (13, (Pd.rep En.str r67)), (18, (Pd.rep (En.slice En.SBranch) r7)), (19, (Pd.rep (En.int .i64) (r7.length : Int))), (20, (Pd.rep (En.int .i64) v46))] → Dis og43 og72 → Dis og43 (some g57) → Dis og72 (some g57) → ((next_On.j3 (next_On.l2 d_ cv_ r7 (next_On.j2 r_) k48) many42 v46 e55 r67) out71) → K69 a s.w := by
        intro out71 og72 a s hL d74 d75 d76 h
        unfold next_On.j3 at h
        show K69 a s.w
        refine hK69 _ _ ?_
        obtain ⟨h77, h⟩ := h
        refine rg ?_
        refine st 45 (t_move (o_t 7 rfl) rfl rfl) rfl rfl hL fun a s e_ hL => ?_
        refine st 46 (t_move (o_t 13 rfl) rfl rfl) rfl rfl hL fun a s e_ hL => ?_
        refine st 47 (t_move (o_t 7 rfl) rfl rfl) rfl rfl hL fun a s e_ hL => ?_
        refine st 48 (t_move (o_t 13 rfl) rfl rfl) rfl rfl hL fun a s e_ hL => ?_
        refine st 49 (t_mget (o_t 47 rfl) (o_t 48 rfl) Tryz.underlying56 (key_str Tryz.underlying9) tyv3 rfl rfl) rfl rfl hL fun a s e_ hL => ?_
        refine st 50 (t_fab (off := 1) (o_t 10 rfl) Tryz.underlying53 rfl (prt_snd (prt_all _ _) rfl) rfl ty3 rfl rfl) rfl rfl hL fun a s e_ hL => ?_
        refine st 51 (t_loado ty3 (o_t 50 rfl) rfl rfl) rfl rfl hL fun a s e_ hL => ?_
        refine st 52 (t_add (o_t 49 rfl) (o_t 51 rfl) h77 rfl rfl) rfl rfl hL fun a s e_ hL => ?_
        refine st 53 (t_min (o_t 52 rfl) (o_i (k := .i64) (by decide)) rfl rfl) rfl rfl hL fun a s e_ hL => ?_
        refine st_mputC (L' := [(2, (Pd.rep (En.int .u8) cv_)), (3, (Pd.ptr En.SDesc d_)), (7, (Pd.map En.str kvStr (En.int .i64) s0.w.heap.size og43 (mput many42 r67 (min ((mget many42 r67 0) + e55.2) 2)))), (8, (Pd.row En.SBranch s0.w.heap.size 53 og72 out71)), (18, (Pd.rep (En.slice En.SBranch) r7)), (19, (Pd.rep (En.int .i64) (r7.length : Int))), (20, (Pd.rep (En.int .i64) v46))]) hL (o_t 45 rfl) (o_t 46 rfl) (o_t 53 rfl) Tryz.underlying56 (key_str Tryz.underlying9) (.inl rfl) rfl rfl (.cons (t := 2) rfl (fun _ h_ => h_.elim) (.cons (t := 3) rfl (fun _ h_ => h_.elim) (.turn (t := 7) rfl (.cons (t := 8) rfl (Dis.ow (Dis.symm d74)) (.cons (t := 18) rfl (fun _ h_ => h_.elim) (.cons (t := 19) rfl (fun _ h_ => h_.elim) (.cons (t := 20) rfl (fun _ h_ => h_.elim) .nil))))))) fun s hL => ?_
        refine en' ?_
        show K53 a s.w
        refine hK53 _ _ ?_
        obtain ⟨h78, h⟩ := h
        refine rg ?_
        refine st 54 (t_add (o_t 20 rfl) (o_i (k := .i64) (by decide)) h78 rfl rfl) rfl rfl hL fun a s e_ hL => ?_
        refine st 20 (t_move (o_t 54 rfl) rfl rfl) rfl rfl hL fun a s e_ hL => ?_
        refine en' ?_
        exact hKL49 k48 a s (Nat.lt_succ_self _) ⟨(mput many42 r67 (min ((mget many42 r67 0) + e55.2) 2)), out71, (v46 + 1), og43, og72, hL.keep (.cons (t := 2) rfl (fun _ h_ => h_.elim) (.cons (t := 3) rfl (fun _ h_ => h_.elim) (.cons (t := 7) rfl (fun _ _ h_ => h_) (.cons (t := 8) rfl (fun _ _ h_ => h_) (.cons (t := 18) rfl (fun _ h_ => h_.elim) (.cons (t := 19) rfl (fun _ h_ => h_.elim) (.cons (t := 20) rfl (fun _ h_ => h_.elim) .nil))))))), d74, h⟩
      refine cnd hL rfl (fun hb_ => ?_) (fun hb_ => ?_)
      · replace h := h.1 hb_
        obtain ⟨h79, h⟩ := h
        refine rg ?_
        refine st 40 (t_move (o_t 8 rfl) rfl rfl) rfl rfl hL fun a s e_ hL => ?_
        refine st 41 (t_move (o_t 11 rfl) rfl rfl) rfl rfl hL fun a s e_ hL => ?_
        refine st 42 (t_build (x := (r61.1, 0)) (ps := [(0, .tmp 41)]) tyz53 rfl stt53 (.cons (i := 0) (o_t 41 rfl) rfl (sub_fst (sub_all _ _ _)) .nil) rfl rfl) rfl rfl hL fun a s e_ hL => ?_
        refine st 43 (t_lit (xs := [.tmp 42]) (.cons (o_t 42 rfl) .nil) Tryz.underlying31 ty53 rfl rfl (by decide) rfl rfl) rfl rfl hL fun a s e_ hL => ?_
        have lt_og80_0 := hL.mlt 7 rfl
        have lt_og80_1 := hL.blt 10 rfl
        refine st_app (L' := [(2, (Pd.rep (En.int .u8) cv_)), (3, (Pd.ptr En.SDesc d_)), (7, (Pd.map En.str kvStr (En.int .i64) s0.w.heap.size og43 many42)), (10, (Pd.box En.SBranch s0.w.heap.size g57 e55)), (13, (Pd.rep En.str r67)), (18, (Pd.rep (En.slice En.SBranch) r7)), (19, (Pd.rep (En.int .i64) (r7.length : Int))), (20, (Pd.rep (En.int .i64) v46))]) 44 hL (o_t 40 rfl) (o_t 43 rfl) Tryz.underlying31 ty53 h79 rfl rfl rfl rfl (.cons (t := 2) rfl (fun _ h_ => h_.elim) (.cons (t := 3) rfl (fun _ h_ => h_.elim) (.cons (t := 7) rfl (Dis.ow d50) (.cons (t := 10) rfl (Dis.bx d59) (.cons (t := 13) rfl (fun _ h_ => h_.elim) (.cons (t := 18) rfl (fun _ h_ => h_.elim) (.cons (t := 19) rfl (fun _ h_ => h_.elim) (.cons (t := 20) rfl (fun _ h_ => h_.elim) .nil)))))))) fun a s og80 hg_ hL => ?_
        have d81 : Dis og80 og43 := Dis.app hg_ (Dis.symm d50) lt_og80_0
        have d82 : Dis og80 (some g57) := Dis.app hg_ (Dis.symm d59) lt_og80_1
        refine st 8 (t_assign (o_t 44 rfl) rfl rfl) rfl rfl hL fun a s e_ hL => ?_
        refine en' ?_
        exact J73 (out44 ++ [(r61.1, 0)]) og80 a s (hL.keep (.cons (t := 2) rfl (fun _ h_ => h_.elim) (.cons (t := 3) rfl (fun _ h_ => h_.elim) (.cons (t := 7) rfl (fun _ _ h_ => h_) (.cons (t := 8) rfl (fun _ _ h_ => h_) (.cons (t := 10) rfl (fun _ _ h_ => h_) (.cons (t := 13) rfl (fun _ h_ => h_.elim) (.cons (t := 18) rfl (fun _ h_ => h_.elim) (.cons (t := 19) rfl (fun _ h_ => h_.elim) (.cons (t := 20) rfl (fun _ h_ => h_.elim) .nil)))))))))) (Dis.symm d81) (Dis.symm d58) d82 h
      · replace h := h.2 hb_
        refine wp_skip ?_
        exact J73 out44 og45 a s (hL.keep (.cons (t := 2) rfl (fun _ h_ => h_.elim) (.cons (t := 3) rfl (fun _ h_ => h_.elim) (.cons (t := 7) rfl (fun _ _ h_ => h_) (.cons (t := 8) rfl (fun _ _ h_ => h_) (.cons (t := 10) rfl (fun _ _ h_ => h_) (.cons (t := 13) rfl (fun _ h_ => h_.elim) (.cons (t := 18) rfl (fun _ h_ => h_.elim) (.cons (t := 19) rfl (fun _ h_ => h_.elim) (.cons (t := 20) rfl (fun _ h_ => h_.elim) .nil)))))))))) d50 (Dis.symm d58) (Dis.symm d59) h
  · replace h := h.2 hb_
    refine wp_exit ?_
    exact J13 many42 out44 og43 og45 a s (hL.keep (.cons (t := 7) rfl (fun _ _ h_ => h_) (.cons (t := 8) rfl (fun _ _ h_ => h_) .nil))) d50 h
theorem next_Ends_ok {d_ : SDesc} {s_ : (List SItem)} {r_ : Int} (h : next_Ends d_ s_ r_) : Fn Tryz.prog 11 [(Pd.rep En.SDesc d_), (Pd.rep (En.slice En.SItem) s_)] (Rq (Pd.rep (En.int .i64) r_)) := by
  unfold next_Ends at h
  refine fn_of Tryz.func11 rfl Tryz.ntmps11 (by rfl) (by simp) fun s0 a hL => ?_
  refine wp_seq_k fun K1 hK1 => ?_
  refine rg ?_
  refine st 2 (t_box (o_t 0 rfl) rfl rfl) rfl rfl hL fun a s e_ hL => ?_
  refine st 4 (t_assign (o_i (k := .i64) (by decide)) rfl rfl) rfl rfl hL fun a s e_ hL => ?_
  refine en' ?_
  show K1 a s.w
  refine hK1 _ _ ?_
  refine wp_seq_k fun K2 hK2 => ?_
  refine wp_seq_k fun K3 hK3 => ?_
  obtain ⟨r4, h5, h⟩ := h
  refine rg ?_
  refine st 7 (t_load ty24 (o_t 2 rfl) rfl rfl) rfl rfl hL fun a s e_ hL => ?_
  refine st 8 (t_move (o_t 1 rfl) rfl rfl) rfl rfl hL fun a s e_ hL => ?_
  refine st 9 (t_call ((heads_Heads_ok h5).frz) (xs := [.tmp 7, .tmp 8]) (.cons (o_t 7 rfl) (.cons (o_t 8 rfl) .nil)) rfl rfl) rfl rfl hL fun a s e_ hL => ?_
  refine st 10 (t_len (o_t 9 rfl) Tryz.underlying31 rfl rfl) rfl rfl hL fun a s e_ hL => ?_
  refine st 11 (t_move (o_i (k := .i64) (by decide)) rfl rfl) rfl rfl hL fun a s e_ hL => ?_
  refine en' ?_
  show K3 a s.w
  refine hK3 _ _ ?_
  refine wp_block ?_
  have J6 : ∀ (a : Act) (s : St), Has N0 22 s0 a s [] → ((next_Ends.j1 r_)) → K2 a s.w := by
    intro a s hL h
    unfold next_Ends.j1 at h
    show K2 a s.w
    refine hK2 _ _ ?_
    refine wp_seq_k fun K7 hK7 => ?_
    refine rg ?_
    refine st 4 (t_assign (o_i (k := .i64) (by decide)) rfl rfl) rfl rfl hL fun a s e_ hL => ?_
    refine en' ?_
    show K7 a s.w
    refine hK7 _ _ ?_
    subst h
    exact wp_ret (retq rfl hL rfl)
  obtain ⟨k9, h⟩ := h
  refine lpg (fun k10 a s => ∃ (v8 : Int), Has N0 22 s0 a s [(9, (Pd.rep (En.slice En.SBranch) r4)), (10, (Pd.rep (En.int .i64) (r4.length : Int))), (11, (Pd.rep (En.int .i64) v8))] ∧ next_Ends.l1 r4 r_ (next_Ends.j1 r_) k10 v8) k9 ⟨0, hL.keep (.cons (t := 9) rfl (fun _ h_ => h_.elim) (.cons (t := 10) rfl (fun _ h_ => h_.elim) (.cons (t := 11) rfl (fun _ h_ => h_.elim) .nil))), h⟩ ?_
  rintro k10 a s ⟨v8, hL, h⟩ KL11 hKL11
  cases k10 with
  | zero => exact h.elim
  | succ k10 =>
  unfold next_Ends.l1 at h
  refine wp_seq_k fun K12 hK12 => ?_
  refine rg ?_
  refine st 12 (t_lss (o_t 11 rfl) (o_t 10 rfl) rfl rfl) rfl rfl hL fun a s e_ hL => ?_
  refine en' ?_
  show K12 a s.w
  refine hK12 _ _ ?_
  refine wp_seq_k fun K13 hK13 => ?_
  refine cnd hL rfl (fun hb_ => ?_) (fun hb_ => ?_)
  · replace h := h.1 hb_
    refine wp_skip ?_
    show K13 a s.w
    refine hK13 _ _ ?_
    refine wp_seq_k fun K14 hK14 => ?_
    refine wp_block ?_
    refine wp_seq_k fun K15 hK15 => ?_
    obtain ⟨e16, h17, h⟩ := h
    refine rg ?_
    refine st 13 (t_idx (o_t 9 rfl) (o_t 11 rfl) h17 Tryz.underlying31 ty53 rfl rfl) rfl rfl hL fun a s e_ hL => ?_
    refine st 14 (t_load ty53 (o_t 13 rfl) rfl rfl) rfl rfl hL fun a s e_ hL => ?_
    refine st_alloc En.SBranch (z := ([], 0)) 6 hL tyz53 rfl rfl rfl rfl fun a s g18 hg_ hL => ?_
    refine st_stb (L' := [(9, (Pd.rep (En.slice En.SBranch) r4)), (10, (Pd.rep (En.int .i64) (r4.length : Int))), (11, (Pd.rep (En.int .i64) v8))]) 6 hL rfl (o_t 14 rfl) ty53 rfl rfl rfl (.cons (t := 9) rfl (fun _ h_ => h_.elim) (.cons (t := 10) rfl (fun _ h_ => h_.elim) (.cons (t := 11) rfl (fun _ h_ => h_.elim) .nil))) fun s hL => ?_
    refine en' ?_
    show K15 a s.w
    refine hK15 _ _ ?_
    refine wp_seq_k fun K19 hK19 => ?_
    refine rg ?_
    refine st 15 (t_fab (off := 0) (o_t 6 rfl) Tryz.underlying53 rfl (prt_fst (prt_all _ _)) rfl ty26 rfl rfl) rfl rfl hL fun a s e_ hL => ?_
    refine st 16 (t_loado ty26 (o_t 15 rfl) rfl rfl) rfl rfl hL fun a s e_ hL => ?_
    refine st 17 (t_len (o_t 16 rfl) Tryz.underlying26 rfl rfl) rfl rfl hL fun a s e_ hL => ?_
    refine st 18 (t_eqi (o_t 17 rfl) (o_i (k := .i64) (by decide)) rfl rfl) rfl rfl hL fun a s e_ hL => ?_
    refine en' ?_
    show K19 a s.w
    refine hK19 _ _ ?_
    refine cnd hL rfl (fun hb_ => ?_) (fun hb_ => ?_)
    · replace h := h.1 hb_
      refine wp_seq_k fun K20 hK20 => ?_
      refine rg ?_
      refine st 19 (t_fab (off := 1) (o_t 6 rfl) Tryz.underlying53 rfl (prt_snd (prt_all _ _) rfl) rfl ty3 rfl rfl) rfl rfl hL fun a s e_ hL => ?_
      refine st 20 (t_loado ty3 (o_t 19 rfl) rfl rfl) rfl rfl hL fun a s e_ hL => ?_
      refine st 4 (t_assign (o_t 20 rfl) rfl rfl) rfl rfl hL fun a s e_ hL => ?_
      refine en' ?_
      show K20 a s.w
      refine hK20 _ _ ?_
      subst h
      exact wp_ret (retq rfl hL rfl)
    · replace h := h.2 hb_
      refine wp_skip ?_
      show K14 a s.w
      refine hK14 _ _ ?_
      obtain ⟨h21, h⟩ := h
      refine rg ?_
      refine st 21 (t_add (o_t 11 rfl) (o_i (k := .i64) (by decide)) h21 rfl rfl) rfl rfl hL fun a s e_ hL => ?_
      refine st 11 (t_move (o_t 21 rfl) rfl rfl) rfl rfl hL fun a s e_ hL => ?_
      refine en' ?_
      exact hKL11 k10 a s (Nat.lt_succ_self _) ⟨(v8 + 1), hL.keep (.cons (t := 9) rfl (fun _ h_ => h_.elim) (.cons (t := 10) rfl (fun _ h_ => h_.elim) (.cons (t := 11) rfl (fun _ h_ => h_.elim) .nil))), h⟩
  · replace h := h.2 hb_
    refine wp_exit ?_
    exact J6 a s (hL.keep .nil) h
theorem next_singles_ok  {r_ : (List Cl)} (h : next_singles  r_) : Fn Tryz.prog 35 [] (Ro En.cls 43 r_) := by
  unfold next_singles at h
  refine fn_of Tryz.func35 rfl Tryz.ntmps35 (by rfl) (by simp) fun s0 a hL => ?_
  refine wp_seq_k fun K1 hK1 => ?_
  refine rg ?_
  refine st 0 (t_assign (o_nil (E := En.cls) (N := s0.w.heap.size) (te := 43)) rfl rfl) rfl rfl hL fun a s e_ hL => ?_
  refine en' ?_
  show K1 a s.w
  refine hK1 _ _ ?_
  refine wp_seq_k fun K2 hK2 => ?_
  refine rg ?_
  refine st 1 (t_assign (o_nil (E := En.cls) (N := s0.w.heap.size) (te := 43)) rfl rfl) rfl rfl hL fun a s e_ hL => ?_
  refine en' ?_
  show K2 a s.w
  refine hK2 _ _ ?_
  refine wp_seq_k fun K3 hK3 => ?_
  refine wp_seq_k fun K4 hK4 => ?_
  refine rg ?_
  refine st 3 (t_move (o_i (k := .i64) (by decide)) rfl rfl) rfl rfl hL fun a s e_ hL => ?_
  refine en' ?_
  show K4 a s.w
  refine hK4 _ _ ?_
  refine wp_block ?_
  have J7 : ∀ (out5 : (List Cl)) (og6 : Option Nat) (a : Act) (s : St), Has N0 16 s0 a s [(1, (Pd.row En.cls s0.w.heap.size 43 og6 out5))] → ((next_singles.j1 r_) out5) → K3 a s.w := by
    intro out5 og6 a s hL h
    unfold next_singles.j1 at h
    show K3 a s.w
    refine hK3 _ _ ?_
    refine wp_seq_k fun K8 hK8 => ?_
    refine rg ?_
    refine st 15 (t_move (o_t 1 rfl) rfl rfl) rfl rfl hL fun a s e_ hL => ?_
    refine st 0 (t_assign (o_t 15 rfl) rfl rfl) rfl rfl hL fun a s e_ hL => ?_
    refine en' ?_
    show K8 a s.w
    refine hK8 _ _ ?_
    subst h
    exact wp_ret (reto rfl hL rfl)
  obtain ⟨k12, h⟩ := h
  refine lpg (fun k13 a s => ∃ (out9 : (List Cl)) (v11 : Int) (og10 : Option Nat), Has N0 16 s0 a s [(1, (Pd.row En.cls s0.w.heap.size 43 og10 out9)), (3, (Pd.rep (En.int .i64) v11))] ∧ next_singles.l1 (next_singles.j1 r_) k13 out9 v11) k12 ⟨([] : (List Cl)), 0, none, hL.keep (.cons (t := 1) rfl (fun _ _ h_ => h_) (.cons (t := 3) rfl (fun _ h_ => h_.elim) .nil)), h⟩ ?_
  rintro k13 a s ⟨out9, v11, og10, hL, h⟩ KL14 hKL14
  cases k13 with
  | zero => exact h.elim
  | succ k13 =>
  unfold next_singles.l1 at h
  refine wp_seq_k fun K15 hK15 => ?_
  refine rg ?_
  refine st 4 (t_lss (o_t 3 rfl) (o_i (k := .i64) (by decide)) rfl rfl) rfl rfl hL fun a s e_ hL => ?_
  refine en' ?_
  show K15 a s.w
  refine hK15 _ _ ?_
  refine wp_seq_k fun K16 hK16 => ?_
  refine cnd hL rfl (fun hb_ => ?_) (fun hb_ => ?_)
  · replace h := h.1 hb_
    refine wp_skip ?_
    show K16 a s.w
    refine hK16 _ _ ?_
    refine wp_seq_k fun K17 hK17 => ?_
    refine wp_block ?_
    refine wp_seq_k fun K18 hK18 => ?_
    refine rg ?_
    refine st 5 (t_move (o_t 3 rfl) rfl rfl) rfl rfl hL fun a s e_ hL => ?_
    refine st 2 (t_assign (o_t 5 rfl) rfl rfl) rfl rfl hL fun a s e_ hL => ?_
    refine en' ?_
    show K18 a s.w
    refine hK18 _ _ ?_
    obtain ⟨r19, h20, h21, h⟩ := h
    refine rg ?_
    refine st 6 (t_move (o_t 1 rfl) rfl rfl) rfl rfl hL fun a s e_ hL => ?_
    refine st 7 (t_move (o_t 2 rfl) rfl rfl) rfl rfl hL fun a s e_ hL => ?_
    refine st 8 (t_u8 (o_t 7 rfl) Tryz.underlying3 Tryz.underlying5 rfl rfl) rfl rfl hL fun a s e_ hL => ?_
    refine st 9 (t_move (o_t 2 rfl) rfl rfl) rfl rfl hL fun a s e_ hL => ?_
    refine st 10 (t_u8 (o_t 9 rfl) Tryz.underlying3 Tryz.underlying5 rfl rfl) rfl rfl hL fun a s e_ hL => ?_
    refine st 11 (t_call (class_Of_ok h20) (xs := [.tmp 8, .tmp 10]) (.cons (o_t 8 rfl) (.cons (o_t 10 rfl) .nil)) rfl rfl) rfl rfl hL fun a s e_ hL => ?_
    refine st 12 (t_lit (xs := [.tmp 11]) (.cons (o_t 11 rfl) .nil) Tryz.underlying35 ty43 rfl rfl (by decide) rfl rfl) rfl rfl hL fun a s e_ hL => ?_
    refine st_app (L' := [(3, (Pd.rep (En.int .i64) v11))]) 13 hL (o_t 6 rfl) (o_t 12 rfl) Tryz.underlying35 ty43 h21 rfl rfl rfl rfl (.cons (t := 3) rfl (fun _ h_ => h_.elim) .nil) fun a s og22 hg_ hL => ?_
    refine st 1 (t_assign (o_t 13 rfl) rfl rfl) rfl rfl hL fun a s e_ hL => ?_
    refine en' ?_
    show K17 a s.w
    refine hK17 _ _ ?_
    obtain ⟨h23, h⟩ := h
    refine rg ?_
    refine st 14 (t_add (o_t 3 rfl) (o_i (k := .i64) (by decide)) h23 rfl rfl) rfl rfl hL fun a s e_ hL => ?_
    refine st 3 (t_move (o_t 14 rfl) rfl rfl) rfl rfl hL fun a s e_ hL => ?_
    refine en' ?_
    exact hKL14 k13 a s (Nat.lt_succ_self _) ⟨(out9 ++ [r19]), (v11 + 1), og22, hL.keep (.cons (t := 1) rfl (fun _ _ h_ => h_) (.cons (t := 3) rfl (fun _ h_ => h_.elim) .nil)), h⟩
  · replace h := h.2 hb_
    refine wp_exit ?_
    exact J7 out9 og10 a s (hL.keep (.cons (t := 1) rfl (fun _ _ h_ => h_) .nil)) h
theorem next_Classes_ok {d_ : SDesc} {s_ : (List SItem)} {r_ : (List Cl)} (h : next_Classes d_ s_ r_) : Fn Tryz.prog 14 [(Pd.rep En.SDesc d_), (Pd.rep (En.slice En.SItem) s_)] (Ro En.cls 43 r_) := by
  unfold next_Classes at h
  refine fn_of Tryz.func14 rfl Tryz.ntmps14 (by rfl) (by simp) fun s0 a hL => ?_
  refine wp_seq_k fun K1 hK1 => ?_
  refine rg ?_
  refine st 2 (t_box (o_t 0 rfl) rfl rfl) rfl rfl hL fun a s e_ hL => ?_
  refine st 4 (t_assign (o_nil (E := En.cls) (N := s0.w.heap.size) (te := 43)) rfl rfl) rfl rfl hL fun a s e_ hL => ?_
  refine en' ?_
  show K1 a s.w
  refine hK1 _ _ ?_
  refine wp_seq_k fun K2 hK2 => ?_
  refine rg ?_
  refine st 5 (t_assign (o_nil (E := En.cls) (N := s0.w.heap.size) (te := 43)) rfl rfl) rfl rfl hL fun a s e_ hL => ?_
  refine en' ?_
  show K2 a s.w
  refine hK2 _ _ ?_
  refine wp_seq_k fun K3 hK3 => ?_
  refine wp_seq_k fun K4 hK4 => ?_
  obtain ⟨r5, h6, h⟩ := h
  refine rg ?_
  refine st 10 (t_load ty24 (o_t 2 rfl) rfl rfl) rfl rfl hL fun a s e_ hL => ?_
  refine st 11 (t_move (o_t 1 rfl) rfl rfl) rfl rfl hL fun a s e_ hL => ?_
  refine st 12 (t_call ((heads_Heads_ok h6).frz) (xs := [.tmp 10, .tmp 11]) (.cons (o_t 10 rfl) (.cons (o_t 11 rfl) .nil)) rfl rfl) rfl rfl hL fun a s e_ hL => ?_
  refine st 13 (t_len (o_t 12 rfl) Tryz.underlying31 rfl rfl) rfl rfl hL fun a s e_ hL => ?_
  refine st 14 (t_move (o_i (k := .i64) (by decide)) rfl rfl) rfl rfl hL fun a s e_ hL => ?_
  refine en' ?_
  show K4 a s.w
  refine hK4 _ _ ?_
  refine wp_block ?_
  have J9 : ∀ (out7 : (List Cl)) (og8 : Option Nat) (a : Act) (s : St), Has N0 64 s0 a s [(5, (Pd.row En.cls s0.w.heap.size 43 og8 out7))] → ((next_Classes.j1 r_) out7) → K3 a s.w := by
    intro out7 og8 a s hL h
    unfold next_Classes.j1 at h
    show K3 a s.w
    refine hK3 _ _ ?_
    refine wp_seq_k fun K10 hK10 => ?_
    refine rg ?_
    refine st 63 (t_move (o_t 5 rfl) rfl rfl) rfl rfl hL fun a s e_ hL => ?_
    refine st 4 (t_assign (o_t 63 rfl) rfl rfl) rfl rfl hL fun a s e_ hL => ?_
    refine en' ?_
    show K10 a s.w
    refine hK10 _ _ ?_
    subst h
    exact wp_ret (reto rfl hL rfl)
  obtain ⟨k14, h⟩ := h
  refine lpg (fun k15 a s => ∃ (out11 : (List Cl)) (v13 : Int) (og12 : Option Nat), Has N0 64 s0 a s [(2, (Pd.ptr En.SDesc d_)), (5, (Pd.row En.cls s0.w.heap.size 43 og12 out11)), (12, (Pd.rep (En.slice En.SBranch) r5)), (13, (Pd.rep (En.int .i64) (r5.length : Int))), (14, (Pd.rep (En.int .i64) v13))] ∧ next_Classes.l1 d_ r5 (next_Classes.j1 r_) k15 out11 v13) k14 ⟨([] : (List Cl)), 0, none, hL.keep (.cons (t := 2) rfl (fun _ h_ => h_.elim) (.cons (t := 5) rfl (fun _ _ h_ => h_) (.cons (t := 12) rfl (fun _ h_ => h_.elim) (.cons (t := 13) rfl (fun _ h_ => h_.elim) (.cons (t := 14) rfl (fun _ h_ => h_.elim) .nil))))), h⟩ ?_
  rintro k15 a s ⟨out11, v13, og12, hL, h⟩ KL16 hKL16
  cases k15 with
  | zero => exact h.elim
  | succ k15 =>
  unfold next_Classes.l1 at h
  refine wp_seq_k fun K17 hK17 => ?_
  refine rg ?_
  refine st 15 (t_lss (o_t 14 rfl) (o_t 13 rfl) rfl rfl) rfl rfl hL fun a s e_ hL => ?_
  refine en' ?_
  show K17 a s.w
  refine hK17 _ _ ?_
  refine wp_seq_k fun K18 hK18 => ?_
  refine cnd hL rfl (fun hb_ => ?_) (fun hb_ => ?_)
  · replace h := h.1 hb_
    refine wp_skip ?_
    show K18 a s.w
    refine hK18 _ _ ?_
    refine wp_seq_k fun K19 hK19 => ?_
    refine wp_block ?_
    refine wp_seq_k fun K20 hK20 => ?_
    obtain ⟨e21, h22, h⟩ := h
    refine rg ?_
    refine st 16 (t_idx (o_t 12 rfl) (o_t 14 rfl) h22 Tryz.underlying31 ty53 rfl rfl) rfl rfl hL fun a s e_ hL => ?_
    refine st 17 (t_load ty53 (o_t 16 rfl) rfl rfl) rfl rfl hL fun a s e_ hL => ?_
    have lt_d24 := hL.rlt 5 rfl
    refine st_alloc En.SBranch (z := ([], 0)) 7 hL tyz53 rfl rfl rfl rfl fun a s g23 hg_ hL => ?_
    have d24 : Dis (some g23) og12 := Dis.newg hg_ lt_d24
    refine st_stb (L' := [(2, (Pd.ptr En.SDesc d_)), (5, (Pd.row En.cls s0.w.heap.size 43 og12 out11)), (12, (Pd.rep (En.slice En.SBranch) r5)), (13, (Pd.rep (En.int .i64) (r5.length : Int))), (14, (Pd.rep (En.int .i64) v13))]) 7 hL rfl (o_t 17 rfl) ty53 rfl rfl rfl (.cons (t := 2) rfl (fun _ h_ => h_.elim) (.cons (t := 5) rfl (Dis.ow (Dis.symm d24)) (.cons (t := 12) rfl (fun _ h_ => h_.elim) (.cons (t := 13) rfl (fun _ h_ => h_.elim) (.cons (t := 14) rfl (fun _ h_ => h_.elim) .nil))))) fun s hL => ?_
    refine en' ?_
    show K20 a s.w
    refine hK20 _ _ ?_
    refine wp_seq_k fun K25 hK25 => ?_
    refine wp_seq_k fun K26 hK26 => ?_
    refine rg ?_
    refine st 18 (t_fab (off := 0) (o_t 7 rfl) Tryz.underlying53 rfl (prt_fst (prt_all _ _)) rfl ty26 rfl rfl) rfl rfl hL fun a s e_ hL => ?_
    refine st 19 (t_loado ty26 (o_t 18 rfl) rfl rfl) rfl rfl hL fun a s e_ hL => ?_
    refine st 20 (t_len (o_t 19 rfl) Tryz.underlying26 rfl rfl) rfl rfl hL fun a s e_ hL => ?_
    refine st 21 (t_eqi (o_t 20 rfl) (o_i (k := .i64) (by decide)) rfl rfl) rfl rfl hL fun a s e_ hL => ?_
    refine en' ?_
    show K26 a s.w
    refine hK26 _ _ ?_
    refine cnd hL rfl (fun hb_ => ?_) (fun hb_ => ?_)
    · replace h := h.1 hb_
      refine wp_exit ?_
      show K19 a s.w
      refine hK19 _ _ ?_
      obtain ⟨h27, h⟩ := h
      refine rg ?_
      refine st 62 (t_add (o_t 14 rfl) (o_i (k := .i64) (by decide)) h27 rfl rfl) rfl rfl hL fun a s e_ hL => ?_
      refine st 14 (t_move (o_t 62 rfl) rfl rfl) rfl rfl hL fun a s e_ hL => ?_
      refine en' ?_
      exact hKL16 k15 a s (Nat.lt_succ_self _) ⟨out11, (v13 + 1), og12, hL.keep (.cons (t := 2) rfl (fun _ h_ => h_.elim) (.cons (t := 5) rfl (fun _ _ h_ => h_) (.cons (t := 12) rfl (fun _ h_ => h_.elim) (.cons (t := 13) rfl (fun _ h_ => h_.elim) (.cons (t := 14) rfl (fun _ h_ => h_.elim) .nil))))), h⟩
    · replace h := h.2 hb_
      refine wp_skip ?_
      show K25 a s.w
      refine hK25 _ _ ?_
      refine wp_seq_k fun K28 hK28 => ?_
      obtain ⟨e29, h30, h⟩ := h
      refine rg ?_
      refine st 22 (t_fab (off := 0) (o_t 7 rfl) Tryz.underlying53 rfl (prt_fst (prt_all _ _)) rfl ty26 rfl rfl) rfl rfl hL fun a s e_ hL => ?_
      refine st 23 (t_loado ty26 (o_t 22 rfl) rfl rfl) rfl rfl hL fun a s e_ hL => ?_
      refine st 24 (t_idx (o_t 23 rfl) (o_i (k := .i64) (by decide)) h30 Tryz.underlying26 ty51 rfl rfl) rfl rfl hL fun a s e_ hL => ?_
      refine st 25 (t_load ty51 (o_t 24 rfl) rfl rfl) rfl rfl hL fun a s e_ hL => ?_
      have lt_d33 := hL.blt 7 rfl
      have lt_d32 := hL.rlt 5 rfl
      refine st_alloc En.SItem (z := (0, 0, 0, 0)) 8 hL tyz51 rfl rfl rfl rfl fun a s g31 hg_ hL => ?_
      have d32 : Dis (some g31) og12 := Dis.newg hg_ lt_d32
      have d33 : Dis (some g31) (some g23) := Dis.newg hg_ lt_d33
      refine st_stb (L' := [(2, (Pd.ptr En.SDesc d_)), (5, (Pd.row En.cls s0.w.heap.size 43 og12 out11)), (12, (Pd.rep (En.slice En.SBranch) r5)), (13, (Pd.rep (En.int .i64) (r5.length : Int))), (14, (Pd.rep (En.int .i64) v13))]) 8 hL rfl (o_t 25 rfl) ty51 rfl rfl rfl (.cons (t := 2) rfl (fun _ h_ => h_.elim) (.cons (t := 5) rfl (Dis.ow (Dis.symm d32)) (.cons (t := 12) rfl (fun _ h_ => h_.elim) (.cons (t := 13) rfl (fun _ h_ => h_.elim) (.cons (t := 14) rfl (fun _ h_ => h_.elim) .nil))))) fun s hL => ?_
      refine en' ?_
      show K28 a s.w
      refine hK28 _ _ ?_
      refine wp_seq_k fun K34 hK34 => ?_
      obtain ⟨e35, h36, h⟩ := h
      refine rg ?_
      refine st 26 (t_fa (off := 0) (o_t 2 rfl) Tryz.underlying24 rfl (prt_solo (prt_all _ _)) rfl ty22 rfl rfl) rfl rfl hL fun a s e_ hL => ?_
      refine st 27 (t_load ty22 (o_t 26 rfl) rfl rfl) rfl rfl hL fun a s e_ hL => ?_
      refine st 28 (t_fab (off := 1) (o_t 8 rfl) Tryz.underlying51 rfl (prt_snd (prt_fst (prt_all _ _)) rfl) rfl ty3 rfl rfl) rfl rfl hL fun a s e_ hL => ?_
      refine st 29 (t_loado ty3 (o_t 28 rfl) rfl rfl) rfl rfl hL fun a s e_ hL => ?_
      refine st 30 (t_idx (o_t 27 rfl) (o_t 29 rfl) h36 Tryz.underlying22 ty46 rfl rfl) rfl rfl hL fun a s e_ hL => ?_
      refine st 31 (t_load ty46 (o_t 30 rfl) rfl rfl) rfl rfl hL fun a s e_ hL => ?_
      have lt_d39 := hL.blt 8 rfl
      have lt_d38 := hL.rlt 5 rfl
      refine st_alloc En.SNode (z := (0, 0, 0, 0, 0, (0#256), ([] : Str))) 9 hL tyz46 rfl rfl rfl rfl fun a s g37 hg_ hL => ?_
      have d38 : Dis (some g37) og12 := Dis.newg hg_ lt_d38
      have d39 : Dis (some g37) (some g31) := Dis.newg hg_ lt_d39
      refine st_stb (L' := [(2, (Pd.ptr En.SDesc d_)), (5, (Pd.row En.cls s0.w.heap.size 43 og12 out11)), (8, (Pd.box En.SItem s0.w.heap.size g31 e29)), (12, (Pd.rep (En.slice En.SBranch) r5)), (13, (Pd.rep (En.int .i64) (r5.length : Int))), (14, (Pd.rep (En.int .i64) v13))]) 9 hL rfl (o_t 31 rfl) ty46 rfl rfl rfl (.cons (t := 2) rfl (fun _ h_ => h_.elim) (.cons (t := 5) rfl (Dis.ow (Dis.symm d38)) (.cons (t := 8) rfl (Dis.bx (Dis.symm d39)) (.cons (t := 12) rfl (fun _ h_ => h_.elim) (.cons (t := 13) rfl (fun _ h_ => h_.elim) (.cons (t := 14) rfl (fun _ h_ => h_.elim) .nil)))))) fun s hL => ?_
      refine en' ?_
      show K34 a s.w
      refine hK34 _ _ ?_
      refine wp_block ?_
      refine wp_seq_k fun K40 hK40 => ?_
      refine rg ?_
      refine st 36 (t_fab (off := 0) (o_t 8 rfl) Tryz.underlying51 rfl (prt_fst (prt_all _ _)) rfl ty3 rfl rfl) rfl rfl hL fun a s e_ hL => ?_
      refine st 37 (t_loado ty3 (o_t 36 rfl) rfl rfl) rfl rfl hL fun a s e_ hL => ?_
      refine st 38 (t_eqi (o_t 37 rfl) (o_i (k := .i64) (by decide)) rfl rfl) rfl rfl hL fun a s e_ hL => ?_
      refine st 35 (t_assign (o_t 38 rfl) rfl rfl) rfl rfl hL fun a s e_ hL => ?_
      refine en' ?_
      show K40 a s.w
      refine hK40 _ _ ?_
      refine cnd hL rfl (fun hb_ => ?_) (fun hb_ => ?_)
      · replace h := h.1 hb_
        obtain ⟨c41, h42, c43, h44, r45, h46, h47, h⟩ := h
        refine rda follows 13 [(Pd.row En.cls s0.w.heap.size 43 og12 out11), (Pd.optr En.str s0.w.heap.size (some g37) (9) e35.2.2.2.2.2.2), (Pd.rep En.str e35.2.2.2.2.2.2), (Pd.optr (En.int .i64) s0.w.heap.size (some g31) (2) e29.2.2.1), (Pd.rep (En.int .i64) e29.2.2.1), (Pd.rep (En.int .u8) c41), (Pd.optr En.str s0.w.heap.size (some g37) (9) e35.2.2.2.2.2.2), (Pd.rep En.str e35.2.2.2.2.2.2), (Pd.optr (En.int .i64) s0.w.heap.size (some g31) (2) e29.2.2.1), (Pd.rep (En.int .i64) e29.2.2.1), (Pd.rep (En.int .u8) c43), (Pd.rep En.cls r45), (Pd.rep (En.slice En.cls) [r45])] hL (by kernel_rfl) rfl rfl ?_ ?_
        · refine AllT.cons (t_move (o_t 5 rfl) rfl rfl) ?_
          refine AllT.cons (t_fab (off := 9) (o_t 9 rfl) Tryz.underlying46 rfl (prt_snd (prt_snd (prt_snd (prt_snd (prt_snd (prt_snd (prt_all _ _) rfl) rfl) rfl) rfl) rfl) rfl) rfl ty9 rfl rfl) ?_
          refine AllT.cons (t_loado ty9 (o_t 40 rfl) rfl rfl) ?_
          refine AllT.cons (t_fab (off := 2) (o_t 8 rfl) Tryz.underlying51 rfl (prt_snd (prt_snd (prt_fst (prt_all _ _)) rfl) rfl) rfl ty3 rfl rfl) ?_
          refine AllT.cons (t_loado ty3 (o_t 42 rfl) rfl rfl) ?_
          refine AllT.cons (t_sidx (o_t 41 rfl) (o_t 43 rfl) h42 Tryz.underlying9 rfl rfl) ?_
          refine AllT.cons (t_fab (off := 9) (o_t 9 rfl) Tryz.underlying46 rfl (prt_snd (prt_snd (prt_snd (prt_snd (prt_snd (prt_snd (prt_all _ _) rfl) rfl) rfl) rfl) rfl) rfl) rfl ty9 rfl rfl) ?_
          refine AllT.cons (t_loado ty9 (o_t 45 rfl) rfl rfl) ?_
          refine AllT.cons (t_fab (off := 2) (o_t 8 rfl) Tryz.underlying51 rfl (prt_snd (prt_snd (prt_fst (prt_all _ _)) rfl) rfl) rfl ty3 rfl rfl) ?_
          refine AllT.cons (t_loado ty3 (o_t 47 rfl) rfl rfl) ?_
          refine AllT.cons (t_sidx (o_t 46 rfl) (o_t 48 rfl) h44 Tryz.underlying9 rfl rfl) ?_
          refine AllT.cons (t_call (class_Of_ok h46) (xs := [.tmp 44, .tmp 49]) (.cons (o_t 44 rfl) (.cons (o_t 49 rfl) .nil)) rfl rfl) ?_
          refine AllT.cons (t_lit (xs := [.tmp 50]) (.cons (o_t 50 rfl) .nil) Tryz.underlying35 ty43 rfl rfl (by decide) rfl rfl) ?_
          exact AllT.nil
        intro a s e_ hL
        refine st_app (L' := [(2, (Pd.ptr En.SDesc d_)), (12, (Pd.rep (En.slice En.SBranch) r5)), (13, (Pd.rep (En.int .i64) (r5.length : Int))), (14, (Pd.rep (En.int .i64) v13))]) 52 hL (o_t 39 rfl) (o_t 51 rfl) Tryz.underlying35 ty43 h47 rfl rfl rfl rfl (.cons (t := 2) rfl (fun _ h_ => h_.elim) (.cons (t := 12) rfl (fun _ h_ => h_.elim) (.cons (t := 13) rfl (fun _ h_ => h_.elim) (.cons (t := 14) rfl (fun _ h_ => h_.elim) .nil)))) fun a s og48 hg_ hL => ?_
        refine st 5 (t_assign (o_t 52 rfl) rfl rfl) rfl rfl hL fun a s e_ hL => ?_
        refine en' ?_
        show K19 a s.w
        refine hK19 _ _ ?_
        obtain ⟨h49, h⟩ := h
        refine rg ?_
        refine st 62 (t_add (o_t 14 rfl) (o_i (k := .i64) (by decide)) h49 rfl rfl) rfl rfl hL fun a s e_ hL => ?_
        refine st 14 (t_move (o_t 62 rfl) rfl rfl) rfl rfl hL fun a s e_ hL => ?_
        refine en' ?_
        exact hKL16 k15 a s (Nat.lt_succ_self _) ⟨(out11 ++ [r45]), (v13 + 1), og48, hL.keep (.cons (t := 2) rfl (fun _ h_ => h_.elim) (.cons (t := 5) rfl (fun _ _ h_ => h_) (.cons (t := 12) rfl (fun _ h_ => h_.elim) (.cons (t := 13) rfl (fun _ h_ => h_.elim) (.cons (t := 14) rfl (fun _ h_ => h_.elim) .nil))))), h⟩
      · replace h := h.2 hb_
        refine wp_seq_k fun K50 hK50 => ?_
        refine rg ?_
        refine st 54 (t_fab (off := 0) (o_t 9 rfl) Tryz.underlying46 rfl (prt_fst (prt_all _ _)) rfl ty3 rfl rfl) rfl rfl hL fun a s e_ hL => ?_
        refine st 55 (t_loado ty3 (o_t 54 rfl) rfl rfl) rfl rfl hL fun a s e_ hL => ?_
        refine st 56 (t_eqi (o_t 55 rfl) (o_i (k := .i64) (by decide)) rfl rfl) rfl rfl hL fun a s e_ hL => ?_
        refine st 53 (t_assign (o_t 56 rfl) rfl rfl) rfl rfl hL fun a s e_ hL => ?_
        refine en' ?_
        show K50 a s.w
        refine hK50 _ _ ?_
        refine cnd hL rfl (fun hb_ => ?_) (fun hb_ => ?_)
        · replace h := h.1 hb_
          obtain ⟨h51, h⟩ := h
          refine rg ?_
          refine st 57 (t_move (o_t 5 rfl) rfl rfl) rfl rfl hL fun a s e_ hL => ?_
          refine st 58 (t_fab (off := 5) (o_t 9 rfl) Tryz.underlying46 rfl (prt_snd (prt_snd (prt_snd (prt_snd (prt_snd (prt_fst (prt_all _ _)) rfl) rfl) rfl) rfl) rfl) rfl ty43 rfl rfl) rfl rfl hL fun a s e_ hL => ?_
          refine st 59 (t_loado ty43 (o_t 58 rfl) rfl rfl) rfl rfl hL fun a s e_ hL => ?_
          refine st 60 (t_lit (xs := [.tmp 59]) (.cons (o_t 59 rfl) .nil) Tryz.underlying35 ty43 rfl rfl (by decide) rfl rfl) rfl rfl hL fun a s e_ hL => ?_
          refine st_app (L' := [(2, (Pd.ptr En.SDesc d_)), (12, (Pd.rep (En.slice En.SBranch) r5)), (13, (Pd.rep (En.int .i64) (r5.length : Int))), (14, (Pd.rep (En.int .i64) v13))]) 61 hL (o_t 57 rfl) (o_t 60 rfl) Tryz.underlying35 ty43 h51 rfl rfl rfl rfl (.cons (t := 2) rfl (fun _ h_ => h_.elim) (.cons (t := 12) rfl (fun _ h_ => h_.elim) (.cons (t := 13) rfl (fun _ h_ => h_.elim) (.cons (t := 14) rfl (fun _ h_ => h_.elim) .nil)))) fun a s og52 hg_ hL => ?_
          refine st 5 (t_assign (o_t 61 rfl) rfl rfl) rfl rfl hL fun a s e_ hL => ?_
          refine en' ?_
          show K19 a s.w
          refine hK19 _ _ ?_
          obtain ⟨h53, h⟩ := h
          refine rg ?_
          refine st 62 (t_add (o_t 14 rfl) (o_i (k := .i64) (by decide)) h53 rfl rfl) rfl rfl hL fun a s e_ hL => ?_
          refine st 14 (t_move (o_t 62 rfl) rfl rfl) rfl rfl hL fun a s e_ hL => ?_
          refine en' ?_
          exact hKL16 k15 a s (Nat.lt_succ_self _) ⟨(out11 ++ [e35.2.2.2.2.2.1]), (v13 + 1), og52, hL.keep (.cons (t := 2) rfl (fun _ h_ => h_.elim) (.cons (t := 5) rfl (fun _ _ h_ => h_) (.cons (t := 12) rfl (fun _ h_ => h_.elim) (.cons (t := 13) rfl (fun _ h_ => h_.elim) (.cons (t := 14) rfl (fun _ h_ => h_.elim) .nil))))), h⟩
        · replace h := h.2 hb_
          obtain ⟨r54, h55, h56, h⟩ := h
          refine rg ?_
          refine st 32 (t_move (o_t 5 rfl) rfl rfl) rfl rfl hL fun a s e_ hL => ?_
          refine st 33 (t_call ((next_singles_ok h55).frz) (xs := []) .nil rfl rfl) rfl rfl hL fun a s e_ hL => ?_
          refine st_app (L' := [(2, (Pd.ptr En.SDesc d_)), (12, (Pd.rep (En.slice En.SBranch) r5)), (13, (Pd.rep (En.int .i64) (r5.length : Int))), (14, (Pd.rep (En.int .i64) v13))]) 34 hL (o_t 32 rfl) (o_t 33 rfl) Tryz.underlying35 ty43 h56 rfl rfl rfl rfl (.cons (t := 2) rfl (fun _ h_ => h_.elim) (.cons (t := 12) rfl (fun _ h_ => h_.elim) (.cons (t := 13) rfl (fun _ h_ => h_.elim) (.cons (t := 14) rfl (fun _ h_ => h_.elim) .nil)))) fun a s og57 hg_ hL => ?_
          refine st 5 (t_assign (o_t 34 rfl) rfl rfl) rfl rfl hL fun a s e_ hL => ?_
          refine en' ?_
          show K19 a s.w
          refine hK19 _ _ ?_
          obtain ⟨h58, h⟩ := h
          refine rg ?_
          refine st 62 (t_add (o_t 14 rfl) (o_i (k := .i64) (by decide)) h58 rfl rfl) rfl rfl hL fun a s e_ hL => ?_
          refine st 14 (t_move (o_t 62 rfl) rfl rfl) rfl rfl hL fun a s e_ hL => ?_
          refine en' ?_
          exact hKL16 k15 a s (Nat.lt_succ_self _) ⟨(out11 ++ r54), (v13 + 1), og57, hL.keep (.cons (t := 2) rfl (fun _ h_ => h_.elim) (.cons (t := 5) rfl (fun _ _ h_ => h_) (.cons (t := 12) rfl (fun _ h_ => h_.elim) (.cons (t := 13) rfl (fun _ h_ => h_.elim) (.cons (t := 14) rfl (fun _ h_ => h_.elim) .nil))))), h⟩
  · replace h := h.2 hb_
    refine wp_exit ?_
    exact J9 out11 og12 a s (hL.keep (.cons (t := 5) rfl (fun _ _ h_ => h_) .nil)) h
theorem law15_awake_ok  {r_ : Bool} (h : law15_awake  r_) : Fn Tryz.prog 4 [] (Rq (Pd.rep En.bool r_)) := by
  unfold law15_awake at h
  refine fn_of Tryz.func4 rfl Tryz.ntmps4 (by rfl) (by simp) fun s0 a hL => ?_
  refine wp_seq_k fun K1 hK1 => ?_
  refine rg ?_
  refine st 0 (t_assign o_b rfl rfl) rfl rfl hL fun a s e_ hL => ?_
  refine en' ?_
  show K1 a s.w
  refine hK1 _ _ ?_
  refine wp_seq_k fun K2 hK2 => ?_
  obtain ⟨r3, h4, h⟩ := h
  refine rg ?_
  refine st 12 (t_call (ref01_Row_ok h4) (xs := [.const (.int .u8 5), .const (.int .u8 6)]) (.cons (o_i (k := .u8) (by decide)) (.cons (o_i (k := .u8) (by decide)) .nil)) rfl rfl) rfl rfl hL fun a s e_ hL => ?_
  refine st 13 (t_build (x := (2, 0, 0, 0, 0, r3, ([] : Str))) (ps := [(0, .const (.int .i64 2)), (5, .tmp 12)]) tyz46 rfl stt46 (.cons (i := 0) (o_i (k := .i64) (by decide)) rfl (sub_fst (sub_all _ _ _)) (.cons (i := 5) (o_t 12 rfl) rfl (sub_snd (sub_snd (sub_snd (sub_snd (sub_snd (sub_fst (sub_all _ _ _)) rfl) rfl) rfl) rfl) rfl) .nil)) rfl rfl) rfl rfl hL fun a s e_ hL => ?_
  refine st 14 (t_lit (xs := [.tmp 13]) (.cons (o_t 13 rfl) .nil) Tryz.underlying22 ty46 rfl rfl (by decide) rfl rfl) rfl rfl hL fun a s e_ hL => ?_
  refine st 15 (t_build (x := [(2, 0, 0, 0, 0, r3, ([] : Str))]) (ps := [(0, .tmp 14)]) tyz24 rfl stt24 (.cons (i := 0) (o_t 14 rfl) rfl (sub_solo (sub_all _ _ _)) .nil) rfl rfl) rfl rfl hL fun a s e_ hL => ?_
  refine st_alloc En.SDesc (z := []) 1 hL tyz24 rfl rfl rfl rfl fun a s g5 hg_ hL => ?_
  refine st_stb (L' := []) 1 hL rfl (o_t 15 rfl) ty24 rfl rfl rfl .nil fun s hL => ?_
  refine en' ?_
  show K2 a s.w
  refine hK2 _ _ ?_
  refine wp_seq_k fun K6 hK6 => ?_
  obtain ⟨r7, h8, h⟩ := h
  refine rg ?_
  refine st 16 (t_loadb ty24 (o_t 1 rfl) rfl rfl) rfl rfl hL fun a s e_ hL => ?_
  refine st 17 (t_loadb ty24 (o_t 1 rfl) rfl rfl) rfl rfl hL fun a s e_ hL => ?_
  refine st 18 (t_call (ref04_Pair_ok h8) (xs := [.const (.int .i64 5), .tmp 16, .tmp 17]) (.cons (o_i (k := .i64) (by decide)) (.cons (o_t 16 rfl) (.cons (o_t 17 rfl) .nil))) rfl rfl) rfl rfl hL fun a s e_ hL => ?_
  have lt_d10 := hL.blt 1 rfl
  refine st_alloc En.SDesc (z := []) 2 hL tyz24 rfl rfl rfl rfl fun a s g9 hg_ hL => ?_
  have d10 : Dis (some g9) (some g5) := Dis.newg hg_ lt_d10
  refine st_stb (L' := [(1, (Pd.box En.SDesc s0.w.heap.size g5 [(2, 0, 0, 0, 0, r3, ([] : Str))]))]) 2 hL rfl (o_t 18 rfl) ty24 rfl rfl rfl (.cons (t := 1) rfl (Dis.bx (Dis.symm d10)) .nil) fun s hL => ?_
  refine en' ?_
  show K6 a s.w
  refine hK6 _ _ ?_
  refine wp_seq_k fun K11 hK11 => ?_
  obtain ⟨r12, h13, h⟩ := h
  refine rg ?_
  refine st 19 (t_loadb ty24 (o_t 1 rfl) rfl rfl) rfl rfl hL fun a s e_ hL => ?_
  refine st 20 (t_call (ref04_Wrap_ok h13) (xs := [.const (.int .i64 8), .const (.int .i64 0), .const (.int .i64 0), .tmp 19]) (.cons (o_i (k := .i64) (by decide)) (.cons (o_i (k := .i64) (by decide)) (.cons (o_i (k := .i64) (by decide)) (.cons (o_t 19 rfl) .nil)))) rfl rfl) rfl rfl hL fun a s e_ hL => ?_
  have lt_d16 := hL.blt 2 rfl
  have lt_d15 := hL.blt 1 rfl
  refine st_alloc En.SDesc (z := []) 3 hL tyz24 rfl rfl rfl rfl fun a s g14 hg_ hL => ?_
  have d15 : Dis (some g14) (some g5) := Dis.newg hg_ lt_d15
  have d16 : Dis (some g14) (some g9) := Dis.newg hg_ lt_d16
  refine st_stb (L' := [(1, (Pd.box En.SDesc s0.w.heap.size g5 [(2, 0, 0, 0, 0, r3, ([] : Str))])), (2, (Pd.box En.SDesc s0.w.heap.size g9 r7))]) 3 hL rfl (o_t 20 rfl) ty24 rfl rfl rfl (.cons (t := 1) rfl (Dis.bx (Dis.symm d15)) (.cons (t := 2) rfl (Dis.bx (Dis.symm d16)) .nil)) fun s hL => ?_
  refine en' ?_
  show K11 a s.w
  refine hK11 _ _ ?_
  refine wp_seq_k fun K17 hK17 => ?_
  obtain ⟨r18, h19, r20, h21, h⟩ := h
  refine rda follows 4 [(Pd.rep En.SDesc r7), (Pd.rep En.SDesc r7), (Pd.rep (En.slice En.SItem) r18), (Pd.rep (En.slice En.SBranch) r20)] hL (by kernel_rfl) rfl rfl ?_ ?_
  · refine AllT.cons (t_loadb ty24 (o_t 2 rfl) rfl rfl) ?_
    refine AllT.cons (t_loadb ty24 (o_t 2 rfl) rfl rfl) ?_
    refine AllT.cons (t_call ((law15_start_ok h19).frz) (xs := [.tmp 22]) (.cons (o_t 22 rfl) .nil) rfl rfl) ?_
    refine AllT.cons (t_call ((next_On_ok h21).frz) (xs := [.tmp 21, .tmp 23, .const (.int .u8 5)]) (.cons (o_t 21 rfl) (.cons (o_t 23 rfl) (.cons (o_i (k := .u8) (by decide)) .nil))) rfl rfl) ?_
    exact AllT.nil
  intro a s e_ hL
  refine st 4 (t_assign (o_t 24 rfl) rfl rfl) rfl rfl hL fun a s e_ hL => ?_
  refine en' ?_
  show K17 a s.w
  refine hK17 _ _ ?_
  refine wp_seq_k fun K22 hK22 => ?_
  obtain ⟨r23, h24, r25, h26, h⟩ := h
  refine rda follows 4 [(Pd.rep En.SDesc r12), (Pd.rep En.SDesc r12), (Pd.rep (En.slice En.SItem) r23), (Pd.rep (En.slice En.SBranch) r25)] hL (by kernel_rfl) rfl rfl ?_ ?_
  · refine AllT.cons (t_loadb ty24 (o_t 3 rfl) rfl rfl) ?_
    refine AllT.cons (t_loadb ty24 (o_t 3 rfl) rfl rfl) ?_
    refine AllT.cons (t_call ((law15_start_ok h24).frz) (xs := [.tmp 26]) (.cons (o_t 26 rfl) .nil) rfl rfl) ?_
    refine AllT.cons (t_call ((next_On_ok h26).frz) (xs := [.tmp 25, .tmp 27, .const (.int .u8 7)]) (.cons (o_t 25 rfl) (.cons (o_t 27 rfl) (.cons (o_i (k := .u8) (by decide)) .nil))) rfl rfl) ?_
    exact AllT.nil
  intro a s e_ hL
  refine st 5 (t_assign (o_t 28 rfl) rfl rfl) rfl rfl hL fun a s e_ hL => ?_
  refine en' ?_
  show K22 a s.w
  refine hK22 _ _ ?_
  refine wp_seq_k fun K27 hK27 => ?_
  obtain ⟨r28, h29, r30, h31, h⟩ := h
  refine rda follows 9 [(Pd.rep En.SDesc [(2, 0, 0, 0, 0, r3, ([] : Str))]), (Pd.rep En.SDesc [(2, 0, 0, 0, 0, r3, ([] : Str))]), (Pd.rep (En.slice En.SItem) r28), (Pd.tup2 (Pd.rep (En.slice En.SItem) r30.1) (Pd.rep En.bool r30.2)), (Pd.tup2 (Pd.rep (En.slice En.SItem) r30.1) (Pd.rep En.bool r30.2)), (Pd.rep (En.slice En.SItem) r30.1), (Pd.rep En.bool r30.2), (Pd.rep (En.slice En.SItem) r30.1), (Pd.rep En.bool r30.2)] hL (by kernel_rfl) rfl rfl ?_ ?_
  · refine AllT.cons (t_loadb ty24 (o_t 1 rfl) rfl rfl) ?_
    refine AllT.cons (t_loadb ty24 (o_t 1 rfl) rfl rfl) ?_
    refine AllT.cons (t_call ((law15_start_ok h29).frz) (xs := [.tmp 31]) (.cons (o_t 31 rfl) .nil) rfl rfl) ?_
    refine AllT.cons (t_call (((next_Read_ok h31).frz2 (Pd.rep_stable _ _)).tup) (xs := [.tmp 30, .tmp 32, .const (.int .u8 6)]) (.cons (o_t 30 rfl) (.cons (o_t 32 rfl) (.cons (o_i (k := .u8) (by decide)) .nil))) rfl rfl) ?_
    refine AllT.cons (t_move (o_t 33 rfl) rfl rfl) ?_
    refine AllT.cons (t_ext0 (o_t 29 rfl) rfl rfl) ?_
    refine AllT.cons (t_ext1 (o_t 29 rfl) rfl rfl) ?_
    refine AllT.cons (t_assign (o_t 34 rfl) rfl rfl) ?_
    refine AllT.cons (t_assign (o_t 35 rfl) rfl rfl) ?_
    exact AllT.nil
  intro a s e_ hL
  refine en' ?_
  show K27 a s.w
  refine hK27 _ _ ?_
  refine wp_seq_k fun K32 hK32 => ?_
  obtain ⟨r33, h34, r35, h36, h⟩ := h
  refine rda follows 9 [(Pd.rep En.SDesc [(2, 0, 0, 0, 0, r3, ([] : Str))]), (Pd.rep En.SDesc [(2, 0, 0, 0, 0, r3, ([] : Str))]), (Pd.rep (En.slice En.SItem) r33), (Pd.tup2 (Pd.rep (En.slice En.SItem) r35.1) (Pd.rep En.bool r35.2)), (Pd.tup2 (Pd.rep (En.slice En.SItem) r35.1) (Pd.rep En.bool r35.2)), (Pd.rep (En.slice En.SItem) r35.1), (Pd.rep En.bool r35.2), (Pd.rep (En.slice En.SItem) r35.1), (Pd.rep En.bool r35.2)] hL (by kernel_rfl) rfl rfl ?_ ?_
  · refine AllT.cons (t_loadb ty24 (o_t 1 rfl) rfl rfl) ?_
    refine AllT.cons (t_loadb ty24 (o_t 1 rfl) rfl rfl) ?_
    refine AllT.cons (t_call ((law15_start_ok h34).frz) (xs := [.tmp 38]) (.cons (o_t 38 rfl) .nil) rfl rfl) ?_
    refine AllT.cons (t_call (((next_Read_ok h36).frz2 (Pd.rep_stable _ _)).tup) (xs := [.tmp 37, .tmp 39, .const (.int .u8 7)]) (.cons (o_t 37 rfl) (.cons (o_t 39 rfl) (.cons (o_i (k := .u8) (by decide)) .nil))) rfl rfl) ?_
    refine AllT.cons (t_move (o_t 40 rfl) rfl rfl) ?_
    refine AllT.cons (t_ext0 (o_t 36 rfl) rfl rfl) ?_
    refine AllT.cons (t_ext1 (o_t 36 rfl) rfl rfl) ?_
    refine AllT.cons (t_assign (o_t 41 rfl) rfl rfl) ?_
    refine AllT.cons (t_assign (o_t 42 rfl) rfl rfl) ?_
    exact AllT.nil
  intro a s e_ hL
  refine en' ?_
  show K32 a s.w
  refine hK32 _ _ ?_
  refine wp_seq_k fun K37 hK37 => ?_
  obtain ⟨r38, h39, h⟩ := h
  refine rg ?_
  refine st 44 (t_loadb ty24 (o_t 1 rfl) rfl rfl) rfl rfl hL fun a s e_ hL => ?_
  refine st 45 (t_build (x := (1, 0, 0, 0)) (ps := [(0, .const (.int .i64 1))]) tyz51 rfl stt51 (.cons (i := 0) (o_i (k := .i64) (by decide)) rfl (sub_fst (sub_all _ _ _)) .nil) rfl rfl) rfl rfl hL fun a s e_ hL => ?_
  refine st 46 (t_build (x := (5, 0, 0, 0)) (ps := [(0, .const (.int .i64 5))]) tyz51 rfl stt51 (.cons (i := 0) (o_i (k := .i64) (by decide)) rfl (sub_fst (sub_all _ _ _)) .nil) rfl rfl) rfl rfl hL fun a s e_ hL => ?_
  refine st 47 (t_lit (xs := [.tmp 45, .tmp 46]) (.cons (o_t 45 rfl) (.cons (o_t 46 rfl) .nil)) Tryz.underlying26 ty51 rfl rfl (by decide) rfl rfl) rfl rfl hL fun a s e_ hL => ?_
  refine st 48 (t_call (((next_Read_ok h39).frz2 (Pd.rep_stable _ _)).tup) (xs := [.tmp 44, .tmp 47, .const (.int .u8 5)]) (.cons (o_t 44 rfl) (.cons (o_t 47 rfl) (.cons (o_i (k := .u8) (by decide)) .nil))) rfl rfl) rfl rfl hL fun a s e_ hL => ?_
  refine st 43 (t_move (o_t 48 rfl) rfl rfl) rfl rfl hL fun a s e_ hL => ?_
  refine st 49 (t_ext0 (o_t 43 rfl) rfl rfl) rfl rfl hL fun a s e_ hL => ?_
  refine st 50 (t_ext1 (o_t 43 rfl) rfl rfl) rfl rfl hL fun a s e_ hL => ?_
  refine st 10 (t_assign (o_t 49 rfl) rfl rfl) rfl rfl hL fun a s e_ hL => ?_
  refine st 11 (t_assign (o_t 50 rfl) rfl rfl) rfl rfl hL fun a s e_ hL => ?_
  refine en' ?_
  show K37 a s.w
  refine hK37 _ _ ?_
  refine wp_seq_k fun K40 hK40 => ?_
  refine wp_seq_k fun K41 hK41 => ?_
  obtain ⟨b42, h43, e44, h45, h⟩ := h
  refine rg ?_
  refine st 51 (t_move (o_t 4 rfl) rfl rfl) rfl rfl hL fun a s e_ hL => ?_
  refine st 52 (t_len (o_t 51 rfl) Tryz.underlying31 rfl rfl) rfl rfl hL fun a s e_ hL => ?_
  refine st 53 (t_nei (o_t 52 rfl) (o_i (k := .i64) (by decide)) rfl rfl) rfl rfl hL fun a s e_ hL => ?_
  refine st 54 (t_move (o_t 53 rfl) rfl rfl) rfl rfl hL fun a s e_ hL => ?_
  refine st 55 (t_g1 rfl rfl rfl (fun hc_ => t_move (o_t 5 rfl) rfl rfl)) rfl rfl hL fun a s e_ hL => ?_
  refine st 56 (t_g1 rfl rfl rfl (fun hc_ => t_len (o_w hc_ 55 rfl) Tryz.underlying31 rfl rfl)) rfl rfl hL fun a s e_ hL => ?_
  refine st 57 (t_g1 rfl rfl rfl (fun hc_ => t_nei (o_w hc_ 56 rfl) (o_i (k := .i64) (by decide)) rfl rfl)) rfl rfl hL fun a s e_ hL => ?_
  refine st 58 (h43 ▸ (t_or (o_t 54 rfl) (fun hc2_ => (o_w hc2_ 57 rfl)) rfl rfl)) rfl rfl hL fun a s e_ hL => ?_
  refine st 59 (t_move (o_t 58 rfl) rfl rfl) rfl rfl hL fun a s e_ hL => ?_
  refine st 60 (t_g1 rfl rfl rfl (fun hc_ => t_move (o_t 5 rfl) rfl rfl)) rfl rfl hL fun a s e_ hL => ?_
  refine st 61 (t_g1 rfl rfl rfl (fun hc_ => t_idx (o_w hc_ 60 rfl) (o_i (k := .i64) (by decide)) (h45 hc_) Tryz.underlying31 ty53 rfl rfl)) rfl rfl hL fun a s e_ hL => ?_
  refine st 62 (t_g1 rfl rfl rfl (fun hc_ => t_fa (off := 0) (o_w hc_ 61 rfl) Tryz.underlying53 rfl (prt_fst (prt_all _ _)) rfl ty26 rfl rfl)) rfl rfl hL fun a s e_ hL => ?_
  refine st 63 (t_g1 rfl rfl rfl (fun hc_ => t_load ty26 (o_w hc_ 62 rfl) rfl rfl)) rfl rfl hL fun a s e_ hL => ?_
  refine st 64 (t_g1 rfl rfl rfl (fun hc_ => t_len (o_w hc_ 63 rfl) Tryz.underlying26 rfl rfl)) rfl rfl hL fun a s e_ hL => ?_
  refine st 65 (t_g1 rfl rfl rfl (fun hc_ => t_nei (o_w hc_ 64 rfl) (o_i (k := .i64) (by decide)) rfl rfl)) rfl rfl hL fun a s e_ hL => ?_
  refine st 66 (t_or (o_t 59 rfl) (fun hc2_ => (o_w hc2_ 65 rfl)) rfl rfl) rfl rfl hL fun a s e_ hL => ?_
  refine en' ?_
  show K41 a s.w
  refine hK41 _ _ ?_
  refine cnd hL rfl (fun hb_ => ?_) (fun hb_ => ?_)
  · replace h := h.1 hb_
    refine wp_seq_k fun K46 hK46 => ?_
    refine rg ?_
    refine st 0 (t_assign o_b rfl rfl) rfl rfl hL fun a s e_ hL => ?_
    refine en' ?_
    show K46 a s.w
    refine hK46 _ _ ?_
    subst h
    exact wp_ret (retq rfl hL rfl)
  · replace h := h.2 hb_
    refine wp_skip ?_
    show K40 a s.w
    refine hK40 _ _ ?_
    refine wp_seq_k fun K47 hK47 => ?_
    obtain ⟨e48, h49, e50, h51, e52, h53, b54, h55, e56, h57, e58, h59, e60, h61, e62, h63, b64, h65, b66, h67, r68, h69, r70, h71, r72, h73, r74, h75, r76, h77, b78, h79, r80, h81, r82, h83, h⟩ := h
    refine rda follows 84 [(Pd.rep (En.slice En.SBranch) r20), (Pd.ptr En.SBranch e48), (Pd.ptr (En.int .i64) e48.2), (Pd.rep (En.int .i64) e48.2), (Pd.rep En.bool (e48.2 == 2)), (Pd.rep En.bool (e48.2 == 2)), (Pd.when (((e48.2 == 2)) = true) (Pd.rep (En.slice En.SBranch) r20)), (Pd.when (((e48.2 == 2)) = true) (Pd.ptr En.SBranch e50)), (Pd.when (((e48.2 == 2)) = true) (Pd.ptr (En.slice En.SItem) e50.1)), (Pd.when (((e48.2 == 2)) = true) (Pd.rep (En.slice En.SItem) e50.1)), (Pd.when (((e48.2 == 2)) = true) (Pd.rep (En.int .i64) (e50.1.length : Int))), (Pd.when (((e48.2 == 2)) = true) (Pd.rep En.bool ((e50.1.length : Int) == 0))), (Pd.rep En.bool ((e48.2 == 2) && ((e50.1.length : Int) == 0))), (Pd.rep En.bool ((e48.2 == 2) && ((e50.1.length : Int) == 0))), (Pd.when ((((e48.2 == 2) && ((e50.1.length : Int) == 0))) = true) (Pd.rep (En.slice En.SBranch) r25)), (Pd.when ((((e48.2 == 2) && ((e50.1.length : Int) == 0))) = true) (Pd.ptr En.SBranch e52)), (Pd.when ((((e48.2 == 2) && ((e50.1.length : Int) == 0))) = true) (Pd.ptr (En.int .i64) e52.2)), (Pd.when ((((e48.2 == 2) && ((e50.1.length : Int) == 0))) = true) (Pd.rep (En.int .i64) e52.2)), (Pd.when ((((e48.2 == 2) && ((e50.1.length : Int) == 0))) = true) (Pd.rep En.bool (e52.2 == 1))), (Pd.rep En.bool b54), (Pd.rep En.bool b54), (Pd.when ((b54) = true) (Pd.rep (En.slice En.SBranch) r25)), (Pd.when ((b54) = true) (Pd.ptr En.SBranch e56)), (Pd.when ((b54) = true) (Pd.ptr (En.slice En.SItem) e56.1)), (Pd.when ((b54) = true) (Pd.rep (En.slice En.SItem) e56.1)), (Pd.when ((b54) = true) (Pd.ptr En.SItem e58)), (Pd.when ((b54) = true) (Pd.rep En.SItem e58)), (Pd.when ((b54) = true) (Pd.rep En.SItem (5, 0, 7, 0))), (Pd.when ((b54) = true) (Pd.rep En.bool (e58 == (5, 0, 7, 0)))), (Pd.rep En.bool (b54 && (e58 == (5, 0, 7, 0)))), (Pd.rep En.bool (b54 && (e58 == (5, 0, 7, 0)))), (Pd.when (((b54 && (e58 == (5, 0, 7, 0)))) = true) (Pd.rep (En.slice En.SBranch) r25)), (Pd.when (((b54 && (e58 == (5, 0, 7, 0)))) = true) (Pd.ptr En.SBranch e60)), (Pd.when (((b54 && (e58 == (5, 0, 7, 0)))) = true) (Pd.ptr (En.slice En.SItem) e60.1)), (Pd.when (((b54 && (e58 == (5, 0, 7, 0)))) = true) (Pd.rep (En.slice En.SItem) e60.1)), (Pd.when (((b54 && (e58 == (5, 0, 7, 0)))) = true) (Pd.ptr En.SItem e62)), (Pd.when (((b54 && (e58 == (5, 0, 7, 0)))) = true) (Pd.rep En.SItem e62)), (Pd.when (((b54 && (e58 == (5, 0, 7, 0)))) = true) (Pd.rep En.SItem (1, 0, 0, 0))), (Pd.when (((b54 && (e58 == (5, 0, 7, 0)))) = true) (Pd.rep En.bool (e62 == (1, 0, 0, 0)))), (Pd.rep En.bool b64), (Pd.rep En.bool b64), (Pd.when ((b64) = true) (Pd.rep (En.slice En.SItem) r30.1)), (Pd.when ((b64) = true) (Pd.rep (En.int .i64) (r30.1.length : Int))), (Pd.when ((b64) = true) (Pd.rep En.bool ((r30.1.length : Int) == 0))), (Pd.rep En.bool (b64 && ((r30.1.length : Int) == 0))), (Pd.rep En.bool (b64 && ((r30.1.length : Int) == 0))), (Pd.when (((b64 && ((r30.1.length : Int) == 0))) = true) (Pd.rep En.bool r30.2)), (Pd.rep En.bool ((b64 && ((r30.1.length : Int) == 0)) && r30.2)), (Pd.rep En.bool ((b64 && ((r30.1.length : Int) == 0)) && r30.2)), (Pd.when ((((b64 && ((r30.1.length : Int) == 0)) && r30.2)) = true) (Pd.rep En.bool r35.2)), (Pd.when ((((b64 && ((r30.1.length : Int) == 0)) && r30.2)) = true) (Pd.rep En.bool (!r35.2))), (Pd.rep En.bool b66), (Pd.rep En.bool b66), (Pd.when ((b66) = true) (Pd.rep En.bool r38.2)), (Pd.when ((b66) = true) (Pd.rep En.bool (!r38.2))), (Pd.rep En.bool (b66 && (!r38.2))), (Pd.rep En.bool (b66 && (!r38.2))), (Pd.when (((b66 && (!r38.2))) = true) (Pd.rep En.SDesc [(2, 0, 0, 0, 0, r3, ([] : Str))])), (Pd.when (((b66 && (!r38.2))) = true) (Pd.rep (En.int .i64) r68)), (Pd.when (((b66 && (!r38.2))) = true) (Pd.rep En.bool (r68 == 1))), (Pd.rep En.bool ((b66 && (!r38.2)) && (r68 == 1))), (Pd.rep En.bool ((b66 && (!r38.2)) && (r68 == 1))), (Pd.when ((((b66 && (!r38.2)) && (r68 == 1))) = true) (Pd.rep En.SDesc [(2, 0, 0, 0, 0, r3, ([] : Str))])), (Pd.when ((((b66 && (!r38.2)) && (r68 == 1))) = true) (Pd.rep En.SDesc [(2, 0, 0, 0, 0, r3, ([] : Str))])), (Pd.when ((((b66 && (!r38.2)) && (r68 == 1))) = true) (Pd.rep (En.slice En.SItem) r70)), (Pd.when ((((b66 && (!r38.2)) && (r68 == 1))) = true) (Pd.rep (En.int .i64) r72)), (Pd.when ((((b66 && (!r38.2)) && (r68 == 1))) = true) (Pd.rep En.bool (r72 == 0))), (Pd.rep En.bool (((b66 && (!r38.2)) && (r68 == 1)) && (r72 == 0))), (Pd.rep En.bool (((b66 && (!r38.2)) && (r68 == 1)) && (r72 == 0))), (Pd.when (((((b66 && (!r38.2)) && (r68 == 1)) && (r72 == 0))) = true) (Pd.rep En.SDesc [(2, 0, 0, 0, 0, r3, ([] : Str))])), (Pd.when (((((b66 && (!r38.2)) && (r68 == 1)) && (r72 == 0))) = true) (Pd.rep En.SDesc [(2, 0, 0, 0, 0, r3, ([] : Str))])), (Pd.when (((((b66 && (!r38.2)) && (r68 == 1)) && (r72 == 0))) = true) (Pd.rep (En.slice En.SItem) r74)), (Pd.when (((((b66 && (!r38.2)) && (r68 == 1)) && (r72 == 0))) = true) (Pd.rep (En.slice En.cls) r76)), (Pd.when (((((b66 && (!r38.2)) && (r68 == 1)) && (r72 == 0))) = true) (Pd.rep (En.int .i64) (r76.length : Int))), (Pd.when (((((b66 && (!r38.2)) && (r68 == 1)) && (r72 == 0))) = true) (Pd.rep En.bool ((r76.length : Int) == 1))), (Pd.rep En.bool b78), (Pd.rep En.bool b78), (Pd.when ((b78) = true) (Pd.rep En.SDesc r12)), (Pd.when ((b78) = true) (Pd.rep En.SDesc r12)), (Pd.when ((b78) = true) (Pd.rep (En.slice En.SItem) r80)), (Pd.when ((b78) = true) (Pd.rep (En.slice En.cls) r82)), (Pd.when ((b78) = true) (Pd.rep (En.int .i64) (r82.length : Int))), (Pd.when ((b78) = true) (Pd.rep En.bool ((r82.length : Int) == 256))), (Pd.rep En.bool (b78 && ((r82.length : Int) == 256)))] hL (by kernel_rfl) rfl rfl ?_ ?_
    · refine AllT.cons (t_move (o_t 4 rfl) rfl rfl) ?_
      refine AllT.cons (t_idx (o_t 67 rfl) (o_i (k := .i64) (by decide)) h49 Tryz.underlying31 ty53 rfl rfl) ?_
      refine AllT.cons (t_fa (off := 1) (o_t 68 rfl) Tryz.underlying53 rfl (prt_snd (prt_all _ _) rfl) rfl ty3 rfl rfl) ?_
      refine AllT.cons (t_load ty3 (o_t 69 rfl) rfl rfl) ?_
      refine AllT.cons (t_eqi (o_t 70 rfl) (o_i (k := .i64) (by decide)) rfl rfl) ?_
      refine AllT.cons (t_move (o_t 71 rfl) rfl rfl) ?_
      refine AllT.cons (t_g1 rfl rfl rfl (fun hc_ => t_move (o_t 4 rfl) rfl rfl)) ?_
      refine AllT.cons (t_g1 rfl rfl rfl (fun hc_ => t_idx (o_w hc_ 73 rfl) (o_i (k := .i64) (by decide)) (h51 hc_) Tryz.underlying31 ty53 rfl rfl)) ?_
      refine AllT.cons (t_g1 rfl rfl rfl (fun hc_ => t_fa (off := 0) (o_w hc_ 74 rfl) Tryz.underlying53 rfl (prt_fst (prt_all _ _)) rfl ty26 rfl rfl)) ?_
      refine AllT.cons (t_g1 rfl rfl rfl (fun hc_ => t_load ty26 (o_w hc_ 75 rfl) rfl rfl)) ?_
      refine AllT.cons (t_g1 rfl rfl rfl (fun hc_ => t_len (o_w hc_ 76 rfl) Tryz.underlying26 rfl rfl)) ?_
      refine AllT.cons (t_g1 rfl rfl rfl (fun hc_ => t_eqi (o_w hc_ 77 rfl) (o_i (k := .i64) (by decide)) rfl rfl)) ?_
      refine AllT.cons (t_and (o_t 72 rfl) (fun hc2_ => (o_w hc2_ 78 rfl)) rfl rfl) ?_
      refine AllT.cons (t_move (o_t 79 rfl) rfl rfl) ?_
      refine AllT.cons (t_g1 rfl rfl rfl (fun hc_ => t_move (o_t 5 rfl) rfl rfl)) ?_
      refine AllT.cons (t_g1 rfl rfl rfl (fun hc_ => t_idx (o_w hc_ 81 rfl) (o_i (k := .i64) (by decide)) (h53 hc_) Tryz.underlying31 ty53 rfl rfl)) ?_
      refine AllT.cons (t_g1 rfl rfl rfl (fun hc_ => t_fa (off := 1) (o_w hc_ 82 rfl) Tryz.underlying53 rfl (prt_snd (prt_all _ _) rfl) rfl ty3 rfl rfl)) ?_
      refine AllT.cons (t_g1 rfl rfl rfl (fun hc_ => t_load ty3 (o_w hc_ 83 rfl) rfl rfl)) ?_
      refine AllT.cons (t_g1 rfl rfl rfl (fun hc_ => t_eqi (o_w hc_ 84 rfl) (o_i (k := .i64) (by decide)) rfl rfl)) ?_
      refine AllT.cons (h55 ▸ (t_and (o_t 80 rfl) (fun hc2_ => (o_w hc2_ 85 rfl)) rfl rfl)) ?_
      refine AllT.cons (t_move (o_t 86 rfl) rfl rfl) ?_
      refine AllT.cons (t_g1 rfl rfl rfl (fun hc_ => t_move (o_t 5 rfl) rfl rfl)) ?_
      refine AllT.cons (t_g1 rfl rfl rfl (fun hc_ => t_idx (o_w hc_ 88 rfl) (o_i (k := .i64) (by decide)) (h57 hc_) Tryz.underlying31 ty53 rfl rfl)) ?_
      refine AllT.cons (t_g1 rfl rfl rfl (fun hc_ => t_fa (off := 0) (o_w hc_ 89 rfl) Tryz.underlying53 rfl (prt_fst (prt_all _ _)) rfl ty26 rfl rfl)) ?_
      refine AllT.cons (t_g1 rfl rfl rfl (fun hc_ => t_load ty26 (o_w hc_ 90 rfl) rfl rfl)) ?_
      refine AllT.cons (t_g1 rfl rfl rfl (fun hc_ => t_idx (o_w hc_ 91 rfl) (o_i (k := .i64) (by decide)) (h59 hc_) Tryz.underlying26 ty51 rfl rfl)) ?_
      refine AllT.cons (t_g1 rfl rfl rfl (fun hc_ => t_load ty51 (o_w hc_ 92 rfl) rfl rfl)) ?_
      refine AllT.cons (t_g1 rfl rfl rfl (fun hc_ => t_build (x := (5, 0, 7, 0)) (ps := [(0, .const (.int .i64 5)), (2, .const (.int .i64 7))]) tyz51 rfl stt51 (.cons (i := 0) (o_i (k := .i64) (by decide)) rfl (sub_fst (sub_all _ _ _)) (.cons (i := 2) (o_i (k := .i64) (by decide)) rfl (sub_snd (sub_snd (sub_fst (sub_all _ _ _)) rfl) rfl) .nil)) rfl rfl)) ?_
      refine AllT.cons (t_g1 rfl rfl rfl (fun hc_ => t_eqv eq51 (o_w hc_ 93 rfl) (o_w hc_ 94 rfl) rfl rfl)) ?_
      refine AllT.cons (t_and (o_t 87 rfl) (fun hc2_ => (o_w hc2_ 95 rfl)) rfl rfl) ?_
      refine AllT.cons (t_move (o_t 96 rfl) rfl rfl) ?_
      refine AllT.cons (t_g1 rfl rfl rfl (fun hc_ => t_move (o_t 5 rfl) rfl rfl)) ?_
      refine AllT.cons (t_g1 rfl rfl rfl (fun hc_ => t_idx (o_w hc_ 98 rfl) (o_i (k := .i64) (by decide)) (h61 hc_) Tryz.underlying31 ty53 rfl rfl)) ?_
      refine AllT.cons (t_g1 rfl rfl rfl (fun hc_ => t_fa (off := 0) (o_w hc_ 99 rfl) Tryz.underlying53 rfl (prt_fst (prt_all _ _)) rfl ty26 rfl rfl)) ?_
      refine AllT.cons (t_g1 rfl rfl rfl (fun hc_ => t_load ty26 (o_w hc_ 100 rfl) rfl rfl)) ?_
      refine AllT.cons (t_g1 rfl rfl rfl (fun hc_ => t_idx (o_w hc_ 101 rfl) (o_i (k := .i64) (by decide)) (h63 hc_) Tryz.underlying26 ty51 rfl rfl)) ?_
      refine AllT.cons (t_g1 rfl rfl rfl (fun hc_ => t_load ty51 (o_w hc_ 102 rfl) rfl rfl)) ?_
      refine AllT.cons (t_g1 rfl rfl rfl (fun hc_ => t_build (x := (1, 0, 0, 0)) (ps := [(0, .const (.int .i64 1))]) tyz51 rfl stt51 (.cons (i := 0) (o_i (k := .i64) (by decide)) rfl (sub_fst (sub_all _ _ _)) .nil) rfl rfl)) ?_
      refine AllT.cons (t_g1 rfl rfl rfl (fun hc_ => t_eqv eq51 (o_w hc_ 103 rfl) (o_w hc_ 104 rfl) rfl rfl)) ?_
      refine AllT.cons (h65 ▸ (t_and (o_t 97 rfl) (fun hc2_ => (o_w hc2_ 105 rfl)) rfl rfl)) ?_
      refine AllT.cons (t_move (o_t 106 rfl) rfl rfl) ?_
      refine AllT.cons (t_g1 rfl rfl rfl (fun hc_ => t_move (o_t 6 rfl) rfl rfl)) ?_
      refine AllT.cons (t_g1 rfl rfl rfl (fun hc_ => t_len (o_w hc_ 108 rfl) Tryz.underlying26 rfl rfl)) ?_
      refine AllT.cons (t_g1 rfl rfl rfl (fun hc_ => t_eqi (o_w hc_ 109 rfl) (o_i (k := .i64) (by decide)) rfl rfl)) ?_
      refine AllT.cons (t_and (o_t 107 rfl) (fun hc2_ => (o_w hc2_ 110 rfl)) rfl rfl) ?_
      refine AllT.cons (t_move (o_t 111 rfl) rfl rfl) ?_
      refine AllT.cons (t_g1 rfl rfl rfl (fun hc_ => t_move (o_t 7 rfl) rfl rfl)) ?_
      refine AllT.cons (t_and (o_t 112 rfl) (fun hc2_ => (o_w hc2_ 113 rfl)) rfl rfl) ?_
      refine AllT.cons (t_move (o_t 114 rfl) rfl rfl) ?_
      refine AllT.cons (t_g1 rfl rfl rfl (fun hc_ => t_move (o_t 9 rfl) rfl rfl)) ?_
      refine AllT.cons (t_g1 rfl rfl rfl (fun hc_ => t_not (o_w hc_ 116 rfl) rfl rfl)) ?_
      refine AllT.cons (h67 ▸ (t_and (o_t 115 rfl) (fun hc2_ => (o_w hc2_ 117 rfl)) rfl rfl)) ?_
      refine AllT.cons (t_move (o_t 118 rfl) rfl rfl) ?_
      refine AllT.cons (t_g1 rfl rfl rfl (fun hc_ => t_move (o_t 11 rfl) rfl rfl)) ?_
      refine AllT.cons (t_g1 rfl rfl rfl (fun hc_ => t_not (o_w hc_ 120 rfl) rfl rfl)) ?_
      refine AllT.cons (t_and (o_t 119 rfl) (fun hc2_ => (o_w hc2_ 121 rfl)) rfl rfl) ?_
      refine AllT.cons (t_move (o_t 122 rfl) rfl rfl) ?_
      refine AllT.cons (t_g1 rfl rfl rfl (fun hc_ => t_loadb ty24 (o_t 1 rfl) rfl rfl)) ?_
      refine AllT.cons (t_g1 rfl rfl rfl (fun hc_ => t_call (next_Ends_ok (h69 hc_)) (xs := [.tmp 124, .const (.slice none 0 0)]) (.cons (o_w hc_ 124 rfl) (.cons o_nilr .nil)) rfl rfl)) ?_
      refine AllT.cons (t_g1 rfl rfl rfl (fun hc_ => t_eqi (o_w hc_ 125 rfl) (o_i (k := .i64) (by decide)) rfl rfl)) ?_
      refine AllT.cons (t_and (o_t 123 rfl) (fun hc2_ => (o_w hc2_ 126 rfl)) rfl rfl) ?_
      refine AllT.cons (t_move (o_t 127 rfl) rfl rfl) ?_
      refine AllT.cons (t_g1 rfl rfl rfl (fun hc_ => t_loadb ty24 (o_t 1 rfl) rfl rfl)) ?_
      refine AllT.cons (t_g1 rfl rfl rfl (fun hc_ => t_loadb ty24 (o_t 1 rfl) rfl rfl)) ?_
      refine AllT.cons (t_g1 rfl rfl rfl (fun hc_ => t_call ((law15_start_ok (h71 hc_)).frz) (xs := [.tmp 130]) (.cons (o_w hc_ 130 rfl) .nil) rfl rfl)) ?_
      refine AllT.cons (t_g1 rfl rfl rfl (fun hc_ => t_call (next_Ends_ok (h73 hc_)) (xs := [.tmp 129, .tmp 131]) (.cons (o_w hc_ 129 rfl) (.cons (o_w hc_ 131 rfl) .nil)) rfl rfl)) ?_
      refine AllT.cons (t_g1 rfl rfl rfl (fun hc_ => t_eqi (o_w hc_ 132 rfl) (o_i (k := .i64) (by decide)) rfl rfl)) ?_
      refine AllT.cons (t_and (o_t 128 rfl) (fun hc2_ => (o_w hc2_ 133 rfl)) rfl rfl) ?_
      refine AllT.cons (t_move (o_t 134 rfl) rfl rfl) ?_
      refine AllT.cons (t_g1 rfl rfl rfl (fun hc_ => t_loadb ty24 (o_t 1 rfl) rfl rfl)) ?_
      refine AllT.cons (t_g1 rfl rfl rfl (fun hc_ => t_loadb ty24 (o_t 1 rfl) rfl rfl)) ?_
      refine AllT.cons (t_g1 rfl rfl rfl (fun hc_ => t_call ((law15_start_ok (h75 hc_)).frz) (xs := [.tmp 137]) (.cons (o_w hc_ 137 rfl) .nil) rfl rfl)) ?_
      refine AllT.cons (t_g1 rfl rfl rfl (fun hc_ => t_call ((next_Classes_ok (h77 hc_)).frz) (xs := [.tmp 136, .tmp 138]) (.cons (o_w hc_ 136 rfl) (.cons (o_w hc_ 138 rfl) .nil)) rfl rfl)) ?_
      refine AllT.cons (t_g1 rfl rfl rfl (fun hc_ => t_len (o_w hc_ 139 rfl) Tryz.underlying35 rfl rfl)) ?_
      refine AllT.cons (t_g1 rfl rfl rfl (fun hc_ => t_eqi (o_w hc_ 140 rfl) (o_i (k := .i64) (by decide)) rfl rfl)) ?_
      refine AllT.cons (h79 ▸ (t_and (o_t 135 rfl) (fun hc2_ => (o_w hc2_ 141 rfl)) rfl rfl)) ?_
      refine AllT.cons (t_move (o_t 142 rfl) rfl rfl) ?_
      refine AllT.cons (t_g1 rfl rfl rfl (fun hc_ => t_loadb ty24 (o_t 3 rfl) rfl rfl)) ?_
      refine AllT.cons (t_g1 rfl rfl rfl (fun hc_ => t_loadb ty24 (o_t 3 rfl) rfl rfl)) ?_
      refine AllT.cons (t_g1 rfl rfl rfl (fun hc_ => t_call ((law15_start_ok (h81 hc_)).frz) (xs := [.tmp 145]) (.cons (o_w hc_ 145 rfl) .nil) rfl rfl)) ?_
      refine AllT.cons (t_g1 rfl rfl rfl (fun hc_ => t_call ((next_Classes_ok (h83 hc_)).frz) (xs := [.tmp 144, .tmp 146]) (.cons (o_w hc_ 144 rfl) (.cons (o_w hc_ 146 rfl) .nil)) rfl rfl)) ?_
      refine AllT.cons (t_g1 rfl rfl rfl (fun hc_ => t_len (o_w hc_ 147 rfl) Tryz.underlying35 rfl rfl)) ?_
      refine AllT.cons (t_g1 rfl rfl rfl (fun hc_ => t_eqi (o_w hc_ 148 rfl) (o_i (k := .i64) (by decide)) rfl rfl)) ?_
      refine AllT.cons (t_and (o_t 143 rfl) (fun hc2_ => (o_w hc2_ 149 rfl)) rfl rfl) ?_
      exact AllT.nil
    intro a s e_ hL
    refine st 0 (t_assign (o_t 150 rfl) rfl rfl) rfl rfl hL fun a s e_ hL => ?_
    refine en' ?_
    show K47 a s.w
    refine hK47 _ _ ?_
    subst h
    exact wp_ret (retq rfl hL rfl)
theorem ref15_Fits_ok {d_ : SDesc} {s_ : (List SItem)} {r_ : Bool} (h : ref15_Fits d_ s_ r_) : Fn Tryz.prog 7 [(Pd.rep En.SDesc d_), (Pd.rep (En.slice En.SItem) s_)] (Rq (Pd.rep En.bool r_)) := by
  unfold ref15_Fits at h
  refine fn_of Tryz.func7 rfl Tryz.ntmps7 (by rfl) (by simp) fun s0 a hL => ?_
  refine wp_seq_k fun K1 hK1 => ?_
  refine rg ?_
  refine st 2 (t_box (o_t 0 rfl) rfl rfl) rfl rfl hL fun a s e_ hL => ?_
  refine st 4 (t_assign o_b rfl rfl) rfl rfl hL fun a s e_ hL => ?_
  refine en' ?_
  show K1 a s.w
  refine hK1 _ _ ?_
  refine wp_seq_k fun K2 hK2 => ?_
  obtain ⟨r3, h4, h⟩ := h
  refine rg ?_
  refine st 5 (t_load ty24 (o_t 2 rfl) rfl rfl) rfl rfl hL fun a s e_ hL => ?_
  refine st 6 (t_move (o_t 1 rfl) rfl rfl) rfl rfl hL fun a s e_ hL => ?_
  refine st 7 (t_call (ref14_Fits_ok h4) (xs := [.tmp 5, .tmp 6]) (.cons (o_t 5 rfl) (.cons (o_t 6 rfl) .nil)) rfl rfl) rfl rfl hL fun a s e_ hL => ?_
  refine st 4 (t_assign (o_t 7 rfl) rfl rfl) rfl rfl hL fun a s e_ hL => ?_
  refine en' ?_
  show K2 a s.w
  refine hK2 _ _ ?_
  subst h
  exact wp_ret (retq rfl hL rfl)
theorem ref15_Read_ok {d_ : SDesc} {s_ : (List SItem)} {cv_ : Int} {r_ : ((List SItem) × Bool)} (h : ref15_Read d_ s_ cv_ r_) : Fn Tryz.prog 18 [(Pd.rep En.SDesc d_), (Pd.rep (En.slice En.SItem) s_), (Pd.rep (En.int .u8) cv_)] (Ro2 En.SItem 51 r_.1 (Pd.rep En.bool r_.2)) := by
  unfold ref15_Read at h
  refine fn_of Tryz.func18 rfl Tryz.ntmps18 (by rfl) (by simp) fun s0 a hL => ?_
  refine wp_seq_k fun K1 hK1 => ?_
  refine rg ?_
  refine st 3 (t_box (o_t 0 rfl) rfl rfl) rfl rfl hL fun a s e_ hL => ?_
  refine st 6 (t_assign (o_nil (E := En.SItem) (N := s0.w.heap.size) (te := 51)) rfl rfl) rfl rfl hL fun a s e_ hL => ?_
  refine st 7 (t_assign o_b rfl rfl) rfl rfl hL fun a s e_ hL => ?_
  refine en' ?_
  show K1 a s.w
  refine hK1 _ _ ?_
  refine wp_seq_k fun K2 hK2 => ?_
  refine wp_seq_k fun K3 hK3 => ?_
  refine rg ?_
  refine st 14 (t_move (o_t 1 rfl) rfl rfl) rfl rfl hL fun a s e_ hL => ?_
  refine st 15 (t_len (o_t 14 rfl) Tryz.underlying26 rfl rfl) rfl rfl hL fun a s e_ hL => ?_
  refine st 16 (t_eqi (o_t 15 rfl) (o_i (k := .i64) (by decide)) rfl rfl) rfl rfl hL fun a s e_ hL => ?_
  refine en' ?_
  show K3 a s.w
  refine hK3 _ _ ?_
  refine cnd hL rfl (fun hb_ => ?_) (fun hb_ => ?_)
  · replace h := h.1 hb_
    refine wp_seq_k fun K4 hK4 => ?_
    refine rg ?_
    refine st 6 (t_assign (o_nil (E := En.SItem) (N := s0.w.heap.size) (te := 51)) rfl rfl) rfl rfl hL fun a s e_ hL => ?_
    refine st 7 (t_assign o_b rfl rfl) rfl rfl hL fun a s e_ hL => ?_
    refine en' ?_
    show K4 a s.w
    refine hK4 _ _ ?_
    subst h
    exact wp_ret (reto2 rfl hL rfl rfl)
  · replace h := h.2 hb_
    refine wp_skip ?_
    show K2 a s.w
    refine hK2 _ _ ?_
    refine wp_seq_k fun K5 hK5 => ?_
    obtain ⟨h6, r7, h8, h⟩ := h
    refine rg ?_
    refine st 18 (t_move (o_t 1 rfl) rfl rfl) rfl rfl hL fun a s e_ hL => ?_
    refine st 19 (t_from (o_t 18 rfl) (o_i (k := .i64) (by decide)) h6 Tryz.underlying26 ty51 rfl rfl) rfl rfl hL fun a s e_ hL => ?_
    refine st 20 (t_call (((ref13_Lower_ok h8).frz2 (Pd.rep_stable _ _)).tup) (xs := [.tmp 19]) (.cons (o_t 19 rfl) .nil) rfl rfl) rfl rfl hL fun a s e_ hL => ?_
    refine st 17 (t_move (o_t 20 rfl) rfl rfl) rfl rfl hL fun a s e_ hL => ?_
    refine st 21 (t_ext0 (o_t 17 rfl) rfl rfl) rfl rfl hL fun a s e_ hL => ?_
    refine st 22 (t_ext1 (o_t 17 rfl) rfl rfl) rfl rfl hL fun a s e_ hL => ?_
    refine st 8 (t_assign (o_t 21 rfl) rfl rfl) rfl rfl hL fun a s e_ hL => ?_
    refine st 9 (t_assign (o_t 22 rfl) rfl rfl) rfl rfl hL fun a s e_ hL => ?_
    refine en' ?_
    show K5 a s.w
    refine hK5 _ _ ?_
    refine wp_seq_k fun K9 hK9 => ?_
    refine wp_seq_k fun K10 hK10 => ?_
    refine rg ?_
    refine st 23 (t_move (o_t 9 rfl) rfl rfl) rfl rfl hL fun a s e_ hL => ?_
    refine st 24 (t_not (o_t 23 rfl) rfl rfl) rfl rfl hL fun a s e_ hL => ?_
    refine en' ?_
    show K10 a s.w
    refine hK10 _ _ ?_
    refine cnd hL rfl (fun hb_ => ?_) (fun hb_ => ?_)
    · replace h := h.1 hb_
      refine wp_seq_k fun K11 hK11 => ?_
      refine rg ?_
      refine st 6 (t_assign (o_nil (E := En.SItem) (N := s0.w.heap.size) (te := 51)) rfl rfl) rfl rfl hL fun a s e_ hL => ?_
      refine st 7 (t_assign o_b rfl rfl) rfl rfl hL fun a s e_ hL => ?_
      refine en' ?_
      show K11 a s.w
      refine hK11 _ _ ?_
      subst h
      exact wp_ret (reto2 rfl hL rfl rfl)
    · replace h := h.2 hb_
      refine wp_skip ?_
      show K9 a s.w
      refine hK9 _ _ ?_
      refine wp_seq_k fun K12 hK12 => ?_
      obtain ⟨e13, h14, h⟩ := h
      refine rg ?_
      refine st 25 (t_move (o_t 1 rfl) rfl rfl) rfl rfl hL fun a s e_ hL => ?_
      refine st 26 (t_idx (o_t 25 rfl) (o_i (k := .i64) (by decide)) h14 Tryz.underlying26 ty51 rfl rfl) rfl rfl hL fun a s e_ hL => ?_
      refine st 27 (t_load ty51 (o_t 26 rfl) rfl rfl) rfl rfl hL fun a s e_ hL => ?_
      refine st_alloc En.SItem (z := (0, 0, 0, 0)) 10 hL tyz51 rfl rfl rfl rfl fun a s g15 hg_ hL => ?_
      refine st_stb (L' := [(2, (Pd.rep (En.int .u8) cv_)), (3, (Pd.ptr En.SDesc d_)), (8, (Pd.rep (En.slice En.SItem) r7.1))]) 10 hL rfl (o_t 27 rfl) ty51 rfl rfl rfl (.cons (t := 2) rfl (fun _ h_ => h_.elim) (.cons (t := 3) rfl (fun _ h_ => h_.elim) (.cons (t := 8) rfl (fun _ h_ => h_.elim) .nil))) fun s hL => ?_
      refine en' ?_
      show K12 a s.w
      refine hK12 _ _ ?_
      refine wp_seq_k fun K16 hK16 => ?_
      obtain ⟨e17, h18, h⟩ := h
      refine rg ?_
      refine st 28 (t_fa (off := 0) (o_t 3 rfl) Tryz.underlying24 rfl (prt_solo (prt_all _ _)) rfl ty22 rfl rfl) rfl rfl hL fun a s e_ hL => ?_
      refine st 29 (t_load ty22 (o_t 28 rfl) rfl rfl) rfl rfl hL fun a s e_ hL => ?_
      refine st 30 (t_fab (off := 1) (o_t 10 rfl) Tryz.underlying51 rfl (prt_snd (prt_fst (prt_all _ _)) rfl) rfl ty3 rfl rfl) rfl rfl hL fun a s e_ hL => ?_
      refine st 31 (t_loado ty3 (o_t 30 rfl) rfl rfl) rfl rfl hL fun a s e_ hL => ?_
      refine st 32 (t_idx (o_t 29 rfl) (o_t 31 rfl) h18 Tryz.underlying22 ty46 rfl rfl) rfl rfl hL fun a s e_ hL => ?_
      refine st 33 (t_load ty46 (o_t 32 rfl) rfl rfl) rfl rfl hL fun a s e_ hL => ?_
      have lt_d20 := hL.blt 10 rfl
      refine st_alloc En.SNode (z := (0, 0, 0, 0, 0, (0#256), ([] : Str))) 11 hL tyz46 rfl rfl rfl rfl fun a s g19 hg_ hL => ?_
      have d20 : Dis (some g19) (some g15) := Dis.newg hg_ lt_d20
      refine st_stb (L' := [(2, (Pd.rep (En.int .u8) cv_)), (8, (Pd.rep (En.slice En.SItem) r7.1)), (10, (Pd.box En.SItem s0.w.heap.size g15 e13))]) 11 hL rfl (o_t 33 rfl) ty46 rfl rfl rfl (.cons (t := 2) rfl (fun _ h_ => h_.elim) (.cons (t := 8) rfl (fun _ h_ => h_.elim) (.cons (t := 10) rfl (Dis.bx (Dis.symm d20)) .nil))) fun s hL => ?_
      refine en' ?_
      show K16 a s.w
      refine hK16 _ _ ?_
      refine wp_seq_k fun K21 hK21 => ?_
      refine rg ?_
      refine st 34 (t_fab (off := 1) (o_t 11 rfl) Tryz.underlying46 rfl (prt_snd (prt_fst (prt_all _ _)) rfl) rfl ty3 rfl rfl) rfl rfl hL fun a s e_ hL => ?_
      refine st 35 (t_loado ty3 (o_t 34 rfl) rfl rfl) rfl rfl hL fun a s e_ hL => ?_
      refine st 36 (t_build (x := (1, e17.2.1, 0, 0)) (ps := [(0, .const (.int .i64 1)), (1, .tmp 35)]) tyz51 rfl stt51 (.cons (i := 0) (o_i (k := .i64) (by decide)) rfl (sub_fst (sub_all _ _ _)) (.cons (i := 1) (o_t 35 rfl) rfl (sub_snd (sub_fst (sub_all _ _ _)) rfl) .nil)) rfl rfl) rfl rfl hL fun a s e_ hL => ?_
      have lt_d24 := hL.blt 11 rfl
      have lt_d23 := hL.blt 10 rfl
      refine st_alloc En.SItem (z := (0, 0, 0, 0)) 12 hL tyz51 rfl rfl rfl rfl fun a s g22 hg_ hL => ?_
      have d23 : Dis (some g22) (some g15) := Dis.newg hg_ lt_d23
      have d24 : Dis (some g22) (some g19) := Dis.newg hg_ lt_d24
      refine st_stb (L' := [(2, (Pd.rep (En.int .u8) cv_)), (8, (Pd.rep (En.slice En.SItem) r7.1)), (10, (Pd.box En.SItem s0.w.heap.size g15 e13)), (11, (Pd.box En.SNode s0.w.heap.size g19 e17))]) 12 hL rfl (o_t 36 rfl) ty51 rfl rfl rfl (.cons (t := 2) rfl (fun _ h_ => h_.elim) (.cons (t := 8) rfl (fun _ h_ => h_.elim) (.cons (t := 10) rfl (Dis.bx (Dis.symm d23)) (.cons (t := 11) rfl (Dis.bx (Dis.symm d24)) .nil)))) fun s hL => ?_
      refine en' ?_
      show K21 a s.w
      refine hK21 _ _ ?_
      refine wp_seq_k fun K25 hK25 => ?_
      refine rg ?_
      refine st 13 (t_assign (o_nil (E := En.SItem) (N := s0.w.heap.size) (te := 51)) rfl rfl) rfl rfl hL fun a s e_ hL => ?_
      refine en' ?_
      show K25 a s.w
      refine hK25 _ _ ?_
      refine wp_seq_k fun K26 hK26 => ?_
      refine wp_block ?_
      refine wp_seq_k fun K27 hK27 => ?_
      refine rg ?_
      refine st 38 (t_fab (off := 0) (o_t 10 rfl) Tryz.underlying51 rfl (prt_fst (prt_all _ _)) rfl ty3 rfl rfl) rfl rfl hL fun a s e_ hL => ?_
      refine st 39 (t_loado ty3 (o_t 38 rfl) rfl rfl) rfl rfl hL fun a s e_ hL => ?_
      refine st 40 (t_eqi (o_t 39 rfl) (o_i (k := .i64) (by decide)) rfl rfl) rfl rfl hL fun a s e_ hL => ?_
      refine st 37 (t_assign (o_t 40 rfl) rfl rfl) rfl rfl hL fun a s e_ hL => ?_
      refine en' ?_
      show K27 a s.w
      refine hK27 _ _ ?_
      refine cnd hL rfl (fun hb_ => ?_) (fun hb_ => ?_)
      · replace h := h.1 hb_
        refine wp_seq_k fun K28 hK28 => ?_
        refine wp_seq_k fun K29 hK29 => ?_
        obtain ⟨c30, h31, h⟩ := h
        refine rg ?_
        refine st 41 (t_fab (off := 9) (o_t 11 rfl) Tryz.underlying46 rfl (prt_snd (prt_snd (prt_snd (prt_snd (prt_snd (prt_snd (prt_all _ _) rfl) rfl) rfl) rfl) rfl) rfl) rfl ty9 rfl rfl) rfl rfl hL fun a s e_ hL => ?_
        refine st 42 (t_loado ty9 (o_t 41 rfl) rfl rfl) rfl rfl hL fun a s e_ hL => ?_
        refine st 43 (t_fab (off := 2) (o_t 10 rfl) Tryz.underlying51 rfl (prt_snd (prt_snd (prt_fst (prt_all _ _)) rfl) rfl) rfl ty3 rfl rfl) rfl rfl hL fun a s e_ hL => ?_
        refine st 44 (t_loado ty3 (o_t 43 rfl) rfl rfl) rfl rfl hL fun a s e_ hL => ?_
        refine st 45 (t_sidx (o_t 42 rfl) (o_t 44 rfl) h31 Tryz.underlying9 rfl rfl) rfl rfl hL fun a s e_ hL => ?_
        refine st 46 (t_move (o_t 2 rfl) rfl rfl) rfl rfl hL fun a s e_ hL => ?_
        refine st 47 (t_nei (o_t 45 rfl) (o_t 46 rfl) rfl rfl) rfl rfl hL fun a s e_ hL => ?_
        refine en' ?_
        show K29 a s.w
        refine hK29 _ _ ?_
        refine cnd hL rfl (fun hb_ => ?_) (fun hb_ => ?_)
        · replace h := h.1 hb_
          refine wp_seq_k fun K32 hK32 => ?_
          refine rg ?_
          refine st 6 (t_assign (o_nil (E := En.SItem) (N := s0.w.heap.size) (te := 51)) rfl rfl) rfl rfl hL fun a s e_ hL => ?_
          refine st 7 (t_assign o_b rfl rfl) rfl rfl hL fun a s e_ hL => ?_
          refine en' ?_
          show K32 a s.w
          refine hK32 _ _ ?_
          subst h
          exact wp_ret (reto2 rfl hL rfl rfl)
        · replace h := h.2 hb_
          refine wp_skip ?_
          show K28 a s.w
          refine hK28 _ _ ?_
          refine wp_seq_k fun K33 hK33 => ?_
          obtain ⟨h34, b35, h36, h⟩ := h
          refine rg ?_
          refine st 48 (t_fab (off := 2) (o_t 10 rfl) Tryz.underlying51 rfl (prt_snd (prt_snd (prt_fst (prt_all _ _)) rfl) rfl) rfl ty3 rfl rfl) rfl rfl hL fun a s e_ hL => ?_
          refine st 49 (t_loado ty3 (o_t 48 rfl) rfl rfl) rfl rfl hL fun a s e_ hL => ?_
          refine st 50 (t_add (o_t 49 rfl) (o_i (k := .i64) (by decide)) h34 rfl rfl) rfl rfl hL fun a s e_ hL => ?_
          refine st 51 (t_fab (off := 9) (o_t 11 rfl) Tryz.underlying46 rfl (prt_snd (prt_snd (prt_snd (prt_snd (prt_snd (prt_snd (prt_all _ _) rfl) rfl) rfl) rfl) rfl) rfl) rfl ty9 rfl rfl) rfl rfl hL fun a s e_ hL => ?_
          refine st 52 (t_loado ty9 (o_t 51 rfl) rfl rfl) rfl rfl hL fun a s e_ hL => ?_
          refine st 53 (t_slen (o_t 52 rfl) Tryz.underlying9 rfl rfl) rfl rfl hL fun a s e_ hL => ?_
          refine st 54 (h36 ▸ (t_lss (o_t 50 rfl) (o_t 53 rfl) rfl rfl)) rfl rfl hL fun a s e_ hL => ?_
          refine en' ?_
          show K33 a s.w
          refine hK33 _ _ ?_
          refine cnd hL rfl (fun hb_ => ?_) (fun hb_ => ?_)
          · replace h := h.1 hb_
            obtain ⟨h37, h⟩ := h
            refine rg ?_
            refine st 55 (t_fab (off := 1) (o_t 10 rfl) Tryz.underlying51 rfl (prt_snd (prt_fst (prt_all _ _)) rfl) rfl ty3 rfl rfl) rfl rfl hL fun a s e_ hL => ?_
            refine st 56 (t_loado ty3 (o_t 55 rfl) rfl rfl) rfl rfl hL fun a s e_ hL => ?_
            refine st 57 (t_fab (off := 2) (o_t 10 rfl) Tryz.underlying51 rfl (prt_snd (prt_snd (prt_fst (prt_all _ _)) rfl) rfl) rfl ty3 rfl rfl) rfl rfl hL fun a s e_ hL => ?_
            refine st 58 (t_loado ty3 (o_t 57 rfl) rfl rfl) rfl rfl hL fun a s e_ hL => ?_
            refine st 59 (t_add (o_t 58 rfl) (o_i (k := .i64) (by decide)) h37 rfl rfl) rfl rfl hL fun a s e_ hL => ?_
            refine st 60 (t_build (x := (3, e13.2.1, e13.2.2.1 + 1, 0)) (ps := [(0, .const (.int .i64 3)), (1, .tmp 56), (2, .tmp 59)]) tyz51 rfl stt51 (.cons (i := 0) (o_i (k := .i64) (by decide)) rfl (sub_fst (sub_all _ _ _)) (.cons (i := 1) (o_t 56 rfl) rfl (sub_snd (sub_fst (sub_all _ _ _)) rfl) (.cons (i := 2) (o_t 59 rfl) rfl (sub_snd (sub_snd (sub_fst (sub_all _ _ _)) rfl) rfl) .nil))) rfl rfl) rfl rfl hL fun a s e_ hL => ?_
            have lt_d41 := hL.blt 12 rfl
            have lt_d40 := hL.blt 11 rfl
            have lt_d39 := hL.blt 10 rfl
            refine st_lito (xs := [.tmp 60]) 61 hL (.cons (o_t 60 rfl) .nil) Tryz.underlying26 ty51 rfl rfl (by decide) rfl rfl rfl rfl fun a s g38 hg_ hL => ?_
            have d39 : Dis (some g38) (some g15) := Dis.newg hg_ lt_d39
            have d40 : Dis (some g38) (some g19) := Dis.newg hg_ lt_d40
            have d41 : Dis (some g38) (some g22) := Dis.newg hg_ lt_d41
            refine st 13 (t_assign (o_t 61 rfl) rfl rfl) rfl rfl hL fun a s e_ hL => ?_
            refine en' ?_
            show K26 a s.w
            refine hK26 _ _ ?_
            refine wp_seq_k fun K42 hK42 => ?_
            obtain ⟨h43, h⟩ := h
            refine rg ?_
            refine st 100 (t_move (o_t 13 rfl) rfl rfl) rfl rfl hL fun a s e_ hL => ?_
            refine st 101 (t_move (o_t 8 rfl) rfl rfl) rfl rfl hL fun a s e_ hL => ?_
            refine st_app (L' := []) 102 hL (o_t 100 rfl) (o_t 101 rfl) Tryz.underlying26 ty51 h43 rfl rfl rfl rfl .nil fun a s og44 hg_ hL => ?_
            refine st 6 (t_assign (o_t 102 rfl) rfl rfl) rfl rfl hL fun a s e_ hL => ?_
            refine st 7 (t_assign o_b rfl rfl) rfl rfl hL fun a s e_ hL => ?_
            refine en' ?_
            show K42 a s.w
            refine hK42 _ _ ?_
            subst h
            exact wp_ret (reto2 rfl hL rfl rfl)
          · replace h := h.2 hb_
            refine wp_skip ?_
            show K26 a s.w
            refine hK26 _ _ ?_
            refine wp_seq_k fun K45 hK45 => ?_
            obtain ⟨h46, h⟩ := h
            refine rg ?_
            refine st 100 (t_move (o_t 13 rfl) rfl rfl) rfl rfl hL fun a s e_ hL => ?_
            refine st 101 (t_move (o_t 8 rfl) rfl rfl) rfl rfl hL fun a s e_ hL => ?_
            refine st_app (L' := []) 102 hL (o_t 100 rfl) (o_t 101 rfl) Tryz.underlying26 ty51 h46 rfl rfl rfl rfl .nil fun a s og47 hg_ hL => ?_
            refine st 6 (t_assign (o_t 102 rfl) rfl rfl) rfl rfl hL fun a s e_ hL => ?_
            refine st 7 (t_assign o_b rfl rfl) rfl rfl hL fun a s e_ hL => ?_
            refine en' ?_
            show K45 a s.w
            refine hK45 _ _ ?_
            subst h
            exact wp_ret (reto2 rfl hL rfl rfl)
      · replace h := h.2 hb_
        refine wp_seq_k fun K48 hK48 => ?_
        refine rg ?_
        refine st 63 (t_fab (off := 0) (o_t 10 rfl) Tryz.underlying51 rfl (prt_fst (prt_all _ _)) rfl ty3 rfl rfl) rfl rfl hL fun a s e_ hL => ?_
        refine st 64 (t_loado ty3 (o_t 63 rfl) rfl rfl) rfl rfl hL fun a s e_ hL => ?_
        refine st 65 (t_eqi (o_t 64 rfl) (o_i (k := .i64) (by decide)) rfl rfl) rfl rfl hL fun a s e_ hL => ?_
        refine st 62 (t_assign (o_t 65 rfl) rfl rfl) rfl rfl hL fun a s e_ hL => ?_
        refine en' ?_
        show K48 a s.w
        refine hK48 _ _ ?_
        refine cnd hL rfl (fun hb_ => ?_) (fun hb_ => ?_)
        · replace h := h.1 hb_
          obtain ⟨h49, h50, h⟩ := h
          refine rg ?_
          refine st 66 (t_loadb ty51 (o_t 12 rfl) rfl rfl) rfl rfl hL fun a s e_ hL => ?_
          refine st 67 (t_fab (off := 2) (o_t 10 rfl) Tryz.underlying51 rfl (prt_snd (prt_snd (prt_fst (prt_all _ _)) rfl) rfl) rfl ty3 rfl rfl) rfl rfl hL fun a s e_ hL => ?_
          refine st 68 (t_loado ty3 (o_t 67 rfl) rfl rfl) rfl rfl hL fun a s e_ hL => ?_
          refine st 69 (t_mul (o_i (k := .i64) (by decide)) (o_t 68 rfl) h49 rfl rfl) rfl rfl hL fun a s e_ hL => ?_
          refine st 70 (t_move (o_t 2 rfl) rfl rfl) rfl rfl hL fun a s e_ hL => ?_
          refine st 71 (t_up (o_t 70 rfl) (by decide) Tryz.underlying5 Tryz.underlying3 rfl rfl) rfl rfl hL fun a s e_ hL => ?_
          refine st 72 (t_add (o_t 69 rfl) (o_t 71 rfl) h50 rfl rfl) rfl rfl hL fun a s e_ hL => ?_
          refine st 73 (t_build (x := (5, 0, (256 * e13.2.2.1) + cv_, 0)) (ps := [(0, .const (.int .i64 5)), (2, .tmp 72)]) tyz51 rfl stt51 (.cons (i := 0) (o_i (k := .i64) (by decide)) rfl (sub_fst (sub_all _ _ _)) (.cons (i := 2) (o_t 72 rfl) rfl (sub_snd (sub_snd (sub_fst (sub_all _ _ _)) rfl) rfl) .nil)) rfl rfl) rfl rfl hL fun a s e_ hL => ?_
          have lt_d54 := hL.blt 12 rfl
          have lt_d53 := hL.blt 11 rfl
          have lt_d52 := hL.blt 10 rfl
          refine st_lito (xs := [.tmp 66, .tmp 73]) 74 hL (.cons (o_t 66 rfl) (.cons (o_t 73 rfl) .nil)) Tryz.underlying26 ty51 rfl rfl (by decide) rfl rfl rfl rfl fun a s g51 hg_ hL => ?_
          have d52 : Dis (some g51) (some g15) := Dis.newg hg_ lt_d52
          have d53 : Dis (some g51) (some g19) := Dis.newg hg_ lt_d53
          have d54 : Dis (some g51) (some g22) := Dis.newg hg_ lt_d54
          refine st 13 (t_assign (o_t 74 rfl) rfl rfl) rfl rfl hL fun a s e_ hL => ?_
          refine en' ?_
          show K26 a s.w
          refine hK26 _ _ ?_
          refine wp_seq_k fun K55 hK55 => ?_
          obtain ⟨h56, h⟩ := h
          refine rg ?_
          refine st 100 (t_move (o_t 13 rfl) rfl rfl) rfl rfl hL fun a s e_ hL => ?_
          refine st 101 (t_move (o_t 8 rfl) rfl rfl) rfl rfl hL fun a s e_ hL => ?_
          refine st_app (L' := []) 102 hL (o_t 100 rfl) (o_t 101 rfl) Tryz.underlying26 ty51 h56 rfl rfl rfl rfl .nil fun a s og57 hg_ hL => ?_
          refine st 6 (t_assign (o_t 102 rfl) rfl rfl) rfl rfl hL fun a s e_ hL => ?_
          refine st 7 (t_assign o_b rfl rfl) rfl rfl hL fun a s e_ hL => ?_
          refine en' ?_
          show K55 a s.w
          refine hK55 _ _ ?_
          subst h
          exact wp_ret (reto2 rfl hL rfl rfl)
        · replace h := h.2 hb_
          refine wp_seq_k fun K58 hK58 => ?_
          refine rg ?_
          refine st 76 (t_fab (off := 0) (o_t 11 rfl) Tryz.underlying46 rfl (prt_fst (prt_all _ _)) rfl ty3 rfl rfl) rfl rfl hL fun a s e_ hL => ?_
          refine st 77 (t_loado ty3 (o_t 76 rfl) rfl rfl) rfl rfl hL fun a s e_ hL => ?_
          refine st 78 (t_eqi (o_t 77 rfl) (o_i (k := .i64) (by decide)) rfl rfl) rfl rfl hL fun a s e_ hL => ?_
          refine st 75 (t_assign (o_t 78 rfl) rfl rfl) rfl rfl hL fun a s e_ hL => ?_
          refine en' ?_
          show K58 a s.w
          refine hK58 _ _ ?_
          refine cnd hL rfl (fun hb_ => ?_) (fun hb_ => ?_)
          · replace h := h.1 hb_
            refine rg ?_
            refine st 79 (t_loadb ty51 (o_t 12 rfl) rfl rfl) rfl rfl hL fun a s e_ hL => ?_
            refine st 80 (t_move (o_t 2 rfl) rfl rfl) rfl rfl hL fun a s e_ hL => ?_
            refine st 81 (t_up (o_t 80 rfl) (by decide) Tryz.underlying5 Tryz.underlying3 rfl rfl) rfl rfl hL fun a s e_ hL => ?_
            refine st 82 (t_build (x := (5, 0, cv_, 0)) (ps := [(0, .const (.int .i64 5)), (2, .tmp 81)]) tyz51 rfl stt51 (.cons (i := 0) (o_i (k := .i64) (by decide)) rfl (sub_fst (sub_all _ _ _)) (.cons (i := 2) (o_t 81 rfl) rfl (sub_snd (sub_snd (sub_fst (sub_all _ _ _)) rfl) rfl) .nil)) rfl rfl) rfl rfl hL fun a s e_ hL => ?_
            have lt_d62 := hL.blt 12 rfl
            have lt_d61 := hL.blt 11 rfl
            have lt_d60 := hL.blt 10 rfl
            refine st_lito (xs := [.tmp 79, .tmp 82]) 83 hL (.cons (o_t 79 rfl) (.cons (o_t 82 rfl) .nil)) Tryz.underlying26 ty51 rfl rfl (by decide) rfl rfl rfl rfl fun a s g59 hg_ hL => ?_
            have d60 : Dis (some g59) (some g15) := Dis.newg hg_ lt_d60
            have d61 : Dis (some g59) (some g19) := Dis.newg hg_ lt_d61
            have d62 : Dis (some g59) (some g22) := Dis.newg hg_ lt_d62
            refine st 13 (t_assign (o_t 83 rfl) rfl rfl) rfl rfl hL fun a s e_ hL => ?_
            refine en' ?_
            show K26 a s.w
            refine hK26 _ _ ?_
            refine wp_seq_k fun K63 hK63 => ?_
            obtain ⟨h64, h⟩ := h
            refine rg ?_
            refine st 100 (t_move (o_t 13 rfl) rfl rfl) rfl rfl hL fun a s e_ hL => ?_
            refine st 101 (t_move (o_t 8 rfl) rfl rfl) rfl rfl hL fun a s e_ hL => ?_
            refine st_app (L' := []) 102 hL (o_t 100 rfl) (o_t 101 rfl) Tryz.underlying26 ty51 h64 rfl rfl rfl rfl .nil fun a s og65 hg_ hL => ?_
            refine st 6 (t_assign (o_t 102 rfl) rfl rfl) rfl rfl hL fun a s e_ hL => ?_
            refine st 7 (t_assign o_b rfl rfl) rfl rfl hL fun a s e_ hL => ?_
            refine en' ?_
            show K63 a s.w
            refine hK63 _ _ ?_
            subst h
            exact wp_ret (reto2 rfl hL rfl rfl)
          · replace h := h.2 hb_
            refine wp_seq_k fun K66 hK66 => ?_
            refine rg ?_
            refine st 85 (t_fab (off := 0) (o_t 11 rfl) Tryz.underlying46 rfl (prt_fst (prt_all _ _)) rfl ty3 rfl rfl) rfl rfl hL fun a s e_ hL => ?_
            refine st 86 (t_loado ty3 (o_t 85 rfl) rfl rfl) rfl rfl hL fun a s e_ hL => ?_
            refine st 87 (t_eqi (o_t 86 rfl) (o_i (k := .i64) (by decide)) rfl rfl) rfl rfl hL fun a s e_ hL => ?_
            refine st 84 (t_assign (o_t 87 rfl) rfl rfl) rfl rfl hL fun a s e_ hL => ?_
            refine en' ?_
            show K66 a s.w
            refine hK66 _ _ ?_
            refine cnd hL rfl (fun hb_ => ?_) (fun hb_ => ?_)
            · replace h := h.1 hb_
              refine rg ?_
              refine st 88 (t_fab (off := 1) (o_t 10 rfl) Tryz.underlying51 rfl (prt_snd (prt_fst (prt_all _ _)) rfl) rfl ty3 rfl rfl) rfl rfl hL fun a s e_ hL => ?_
              refine st 89 (t_loado ty3 (o_t 88 rfl) rfl rfl) rfl rfl hL fun a s e_ hL => ?_
              refine st 90 (t_move (o_t 2 rfl) rfl rfl) rfl rfl hL fun a s e_ hL => ?_
              refine st 91 (t_up (o_t 90 rfl) (by decide) Tryz.underlying5 Tryz.underlying3 rfl rfl) rfl rfl hL fun a s e_ hL => ?_
              refine st 92 (t_build (x := (4, e13.2.1, cv_, 0)) (ps := [(0, .const (.int .i64 4)), (1, .tmp 89), (2, .tmp 91)]) tyz51 rfl stt51 (.cons (i := 0) (o_i (k := .i64) (by decide)) rfl (sub_fst (sub_all _ _ _)) (.cons (i := 1) (o_t 89 rfl) rfl (sub_snd (sub_fst (sub_all _ _ _)) rfl) (.cons (i := 2) (o_t 91 rfl) rfl (sub_snd (sub_snd (sub_fst (sub_all _ _ _)) rfl) rfl) .nil))) rfl rfl) rfl rfl hL fun a s e_ hL => ?_
              have lt_d70 := hL.blt 12 rfl
              have lt_d69 := hL.blt 11 rfl
              have lt_d68 := hL.blt 10 rfl
              refine st_lito (xs := [.tmp 92]) 93 hL (.cons (o_t 92 rfl) .nil) Tryz.underlying26 ty51 rfl rfl (by decide) rfl rfl rfl rfl fun a s g67 hg_ hL => ?_
              have d68 : Dis (some g67) (some g15) := Dis.newg hg_ lt_d68
              have d69 : Dis (some g67) (some g19) := Dis.newg hg_ lt_d69
              have d70 : Dis (some g67) (some g22) := Dis.newg hg_ lt_d70
              refine st 13 (t_assign (o_t 93 rfl) rfl rfl) rfl rfl hL fun a s e_ hL => ?_
              refine en' ?_
              show K26 a s.w
              refine hK26 _ _ ?_
              refine wp_seq_k fun K71 hK71 => ?_
              obtain ⟨h72, h⟩ := h
              refine rg ?_
              refine st 100 (t_move (o_t 13 rfl) rfl rfl) rfl rfl hL fun a s e_ hL => ?_
              refine st 101 (t_move (o_t 8 rfl) rfl rfl) rfl rfl hL fun a s e_ hL => ?_
              refine st_app (L' := []) 102 hL (o_t 100 rfl) (o_t 101 rfl) Tryz.underlying26 ty51 h72 rfl rfl rfl rfl .nil fun a s og73 hg_ hL => ?_
              refine st 6 (t_assign (o_t 102 rfl) rfl rfl) rfl rfl hL fun a s e_ hL => ?_
              refine st 7 (t_assign o_b rfl rfl) rfl rfl hL fun a s e_ hL => ?_
              refine en' ?_
              show K71 a s.w
              refine hK71 _ _ ?_
              subst h
              exact wp_ret (reto2 rfl hL rfl rfl)
            · replace h := h.2 hb_
              refine wp_seq_k fun K74 hK74 => ?_
              obtain ⟨r75, h76, h⟩ := h
              refine rg ?_
              refine st 95 (t_fab (off := 5) (o_t 11 rfl) Tryz.underlying46 rfl (prt_snd (prt_snd (prt_snd (prt_snd (prt_snd (prt_fst (prt_all _ _)) rfl) rfl) rfl) rfl) rfl) rfl ty43 rfl rfl) rfl rfl hL fun a s e_ hL => ?_
              refine st 96 (t_loado ty43 (o_t 95 rfl) rfl rfl) rfl rfl hL fun a s e_ hL => ?_
              refine st 97 (t_move (o_t 2 rfl) rfl rfl) rfl rfl hL fun a s e_ hL => ?_
              refine st 98 (t_call (ref01_Has_ok h76) (xs := [.tmp 96, .tmp 97]) (.cons (o_t 96 rfl) (.cons (o_t 97 rfl) .nil)) rfl rfl) rfl rfl hL fun a s e_ hL => ?_
              refine st 99 (t_not (o_t 98 rfl) rfl rfl) rfl rfl hL fun a s e_ hL => ?_
              refine st 94 (t_assign (o_t 99 rfl) rfl rfl) rfl rfl hL fun a s e_ hL => ?_
              refine en' ?_
              show K74 a s.w
              refine hK74 _ _ ?_
              refine cnd hL rfl (fun hb_ => ?_) (fun hb_ => ?_)
              · replace h := h.1 hb_
                refine wp_seq_k fun K77 hK77 => ?_
                refine rg ?_
                refine st 6 (t_assign (o_nil (E := En.SItem) (N := s0.w.heap.size) (te := 51)) rfl rfl) rfl rfl hL fun a s e_ hL => ?_
                refine st 7 (t_assign o_b rfl rfl) rfl rfl hL fun a s e_ hL => ?_
                refine en' ?_
                show K77 a s.w
                refine hK77 _ _ ?_
                subst h
                exact wp_ret (reto2 rfl hL rfl rfl)
              · replace h := h.2 hb_
                refine wp_skip ?_
                show K26 a s.w
                refine hK26 _ _ ?_
                refine wp_seq_k fun K78 hK78 => ?_
                obtain ⟨h79, h⟩ := h
                refine rg ?_
                refine st 100 (t_move (o_t 13 rfl) rfl rfl) rfl rfl hL fun a s e_ hL => ?_
                refine st 101 (t_move (o_t 8 rfl) rfl rfl) rfl rfl hL fun a s e_ hL => ?_
                refine st_app (L' := []) 102 hL (o_t 100 rfl) (o_t 101 rfl) Tryz.underlying26 ty51 h79 rfl rfl rfl rfl .nil fun a s og80 hg_ hL => ?_
                refine st 6 (t_assign (o_t 102 rfl) rfl rfl) rfl rfl hL fun a s e_ hL => ?_
                refine st 7 (t_assign o_b rfl rfl) rfl rfl hL fun a s e_ hL => ?_
                refine en' ?_
                show K78 a s.w
                refine hK78 _ _ ?_
                subst h
                exact wp_ret (reto2 rfl hL rfl rfl)
end Go.Proofs.YtdidjelkkanenaaGreatDoor.V
namespace Go.Proofs.YtdidjelkkanenaaGreatDoor.V
open Go
set_option linter.unusedVariables false
set_option maxRecDepth 100000
theorem ref15_On_ok {d_ : SDesc} {s_ : (List SItem)} {cv_ : Int} {r_ : (List SBranch)} (h : ref15_On d_ s_ cv_ r_) : Fn Tryz.prog 10 [(Pd.rep En.SDesc d_), (Pd.rep (En.slice En.SItem) s_), (Pd.rep (En.int .u8) cv_)] (Ro En.SBranch 53 r_) := by
  unfold ref15_On at h
  refine fn_of Tryz.func10 rfl Tryz.ntmps10 (by rfl) (by simp) fun s0 a hL => ?_
  refine wp_seq_k fun K1 hK1 => ?_
  refine rg ?_
  refine st 3 (t_box (o_t 0 rfl) rfl rfl) rfl rfl hL fun a s e_ hL => ?_
  refine st 6 (t_assign (o_nil (E := En.SBranch) (N := s0.w.heap.size) (te := 53)) rfl rfl) rfl rfl hL fun a s e_ hL => ?_
  refine en' ?_
  show K1 a s.w
  refine hK1 _ _ ?_
  refine wp_seq_k fun K2 hK2 => ?_
  obtain ⟨r3, h4, h⟩ := h
  refine rg ?_
  refine st 12 (t_load ty24 (o_t 3 rfl) rfl rfl) rfl rfl hL fun a s e_ hL => ?_
  refine st 13 (t_move (o_t 1 rfl) rfl rfl) rfl rfl hL fun a s e_ hL => ?_
  refine st 14 (t_call (ref14_Heads_ok h4) (xs := [.tmp 12, .tmp 13]) (.cons (o_t 12 rfl) (.cons (o_t 13 rfl) .nil)) rfl rfl) rfl rfl hL fun a s e_ hL => ?_
  refine st 7 (t_assign (o_t 14 rfl) rfl rfl) rfl rfl hL fun a s e_ hL => ?_
  refine en' ?_
  show K2 a s.w
  refine hK2 _ _ ?_
  refine wp_seq_k fun K5 hK5 => ?_
  refine rg ?_
  refine st 8 (t_assign (o_nil (E := En.SBranch) (N := s0.w.heap.size) (te := 53)) rfl rfl) rfl rfl hL fun a s e_ hL => ?_
  refine en' ?_
  show K5 a s.w
  refine hK5 _ _ ?_
  refine wp_seq_k fun K6 hK6 => ?_
  refine wp_seq_k fun K7 hK7 => ?_
  refine rg ?_
  refine st 9 (t_assign (o_i (k := .i64) (by decide)) rfl rfl) rfl rfl hL fun a s e_ hL => ?_
  refine en' ?_
  show K7 a s.w
  refine hK7 _ _ ?_
  refine wp_block ?_
  have J10 : ∀ (out8 : (List SBranch)) (og9 : Option Nat) (a : Act) (s : St), Has N0 42 s0 a s [(8, (Pd.row En.SBranch s0.w.heap.size 53 og9 out8))] → ((ref15_On.j1 r_) out8) → K6 a s.w := by
    intro out8 og9 a s hL h
    unfold ref15_On.j1 at h
    show K6 a s.w
    refine hK6 _ _ ?_
    refine wp_seq_k fun K11 hK11 => ?_
    refine rg ?_
    refine st 41 (t_move (o_t 8 rfl) rfl rfl) rfl rfl hL fun a s e_ hL => ?_
    refine st 6 (t_assign (o_t 41 rfl) rfl rfl) rfl rfl hL fun a s e_ hL => ?_
    refine en' ?_
    show K11 a s.w
    refine hK11 _ _ ?_
    subst h
    exact wp_ret (reto rfl hL rfl)
  obtain ⟨k15, h⟩ := h
  refine lpg (fun k16 a s => ∃ (out12 : (List SBranch)) (i14 : Int) (og13 : Option Nat), Has N0 42 s0 a s [(2, (Pd.rep (En.int .u8) cv_)), (3, (Pd.ptr En.SDesc d_)), (7, (Pd.rep (En.slice En.SBranch) r3)), (8, (Pd.row En.SBranch s0.w.heap.size 53 og13 out12)), (9, (Pd.rep (En.int .i64) i14))] ∧ ref15_On.l1 d_ cv_ r3 (ref15_On.j1 r_) k16 out12 i14) k15 ⟨([] : (List SBranch)), 0, none, hL.keep (.cons (t := 2) rfl (fun _ h_ => h_.elim) (.cons (t := 3) rfl (fun _ h_ => h_.elim) (.cons (t := 7) rfl (fun _ h_ => h_.elim) (.cons (t := 8) rfl (fun _ _ h_ => h_) (.cons (t := 9) rfl (fun _ h_ => h_.elim) .nil))))), h⟩ ?_
  rintro k16 a s ⟨out12, i14, og13, hL, h⟩ KL17 hKL17
  cases k16 with
  | zero => exact h.elim
  | succ k16 =>
  unfold ref15_On.l1 at h
  refine wp_seq_k fun K18 hK18 => ?_
  refine wp_seq_k fun K19 hK19 => ?_
  refine rg ?_
  refine st 15 (t_move (o_t 9 rfl) rfl rfl) rfl rfl hL fun a s e_ hL => ?_
  refine st 16 (t_move (o_t 7 rfl) rfl rfl) rfl rfl hL fun a s e_ hL => ?_
  refine st 17 (t_len (o_t 16 rfl) Tryz.underlying31 rfl rfl) rfl rfl hL fun a s e_ hL => ?_
  refine st 18 (t_lss (o_t 15 rfl) (o_t 17 rfl) rfl rfl) rfl rfl hL fun a s e_ hL => ?_
  refine en' ?_
  show K19 a s.w
  refine hK19 _ _ ?_
  refine cnd hL rfl (fun hb_ => ?_) (fun hb_ => ?_)
  · replace h := h.1 hb_
    refine wp_skip ?_
    show K18 a s.w
    refine hK18 _ _ ?_
    refine wp_seq_k fun K20 hK20 => ?_
    refine wp_block ?_
    refine wp_seq_k fun K21 hK21 => ?_
    obtain ⟨e22, h23, r24, h25, h⟩ := h
    refine rda follows 13 [(Pd.rep En.SDesc d_), (Pd.rep (En.slice En.SBranch) r3), (Pd.rep (En.int .i64) i14), (Pd.ptr En.SBranch e22), (Pd.ptr (En.slice En.SItem) e22.1), (Pd.rep (En.slice En.SItem) e22.1), (Pd.rep (En.int .u8) cv_), (Pd.tup2 (Pd.rep (En.slice En.SItem) r24.1) (Pd.rep En.bool r24.2)), (Pd.tup2 (Pd.rep (En.slice En.SItem) r24.1) (Pd.rep En.bool r24.2)), (Pd.rep (En.slice En.SItem) r24.1), (Pd.rep En.bool r24.2), (Pd.rep (En.slice En.SItem) r24.1), (Pd.rep En.bool r24.2)] hL (by kernel_rfl) rfl rfl ?_ ?_
    · refine AllT.cons (t_load ty24 (o_t 3 rfl) rfl rfl) ?_
      refine AllT.cons (t_move (o_t 7 rfl) rfl rfl) ?_
      refine AllT.cons (t_move (o_t 9 rfl) rfl rfl) ?_
      refine AllT.cons (t_idx (o_t 23 rfl) (o_t 24 rfl) h23 Tryz.underlying31 ty53 rfl rfl) ?_
      refine AllT.cons (t_fa (off := 0) (o_t 25 rfl) Tryz.underlying53 rfl (prt_fst (prt_all _ _)) rfl ty26 rfl rfl) ?_
      refine AllT.cons (t_load ty26 (o_t 26 rfl) rfl rfl) ?_
      refine AllT.cons (t_move (o_t 2 rfl) rfl rfl) ?_
      refine AllT.cons (t_call (((ref15_Read_ok h25).frz2 (Pd.rep_stable _ _)).tup) (xs := [.tmp 22, .tmp 27, .tmp 28]) (.cons (o_t 22 rfl) (.cons (o_t 27 rfl) (.cons (o_t 28 rfl) .nil))) rfl rfl) ?_
      refine AllT.cons (t_move (o_t 29 rfl) rfl rfl) ?_
      refine AllT.cons (t_ext0 (o_t 21 rfl) rfl rfl) ?_
      refine AllT.cons (t_ext1 (o_t 21 rfl) rfl rfl) ?_
      refine AllT.cons (t_assign (o_t 30 rfl) rfl rfl) ?_
      refine AllT.cons (t_assign (o_t 31 rfl) rfl rfl) ?_
      exact AllT.nil
    intro a s e_ hL
    refine en' ?_
    show K21 a s.w
    refine hK21 _ _ ?_
    refine wp_seq_k fun K26 hK26 => ?_
    refine rg ?_
    refine st 32 (t_move (o_t 11 rfl) rfl rfl) rfl rfl hL fun a s e_ hL => ?_
    refine en' ?_
    show K26 a s.w
    refine hK26 _ _ ?_
    refine cnd hL rfl (fun hb_ => ?_) (fun hb_ => ?_)
    · replace h := h.1 hb_
      obtain ⟨s28, h27, hL⟩ := hL.freeze (L' := [(2, (Pd.rep (En.int .u8) cv_)), (3, (Pd.ptr En.SDesc d_)), (7, (Pd.rep (En.slice En.SBranch) r3)), (9, (Pd.rep (En.int .i64) i14)), (10, (Pd.rep (En.slice En.SItem) r24.1))]) 8 rfl (.cons (t := 2) rfl (fun _ h_ => h_.elim) (.cons (t := 3) rfl (fun _ h_ => h_.elim) (.cons (t := 7) rfl (fun _ h_ => h_.elim) (.cons (t := 9) rfl (fun _ h_ => h_.elim) (.cons (t := 10) rfl (fun _ h_ => h_.elim) .nil)))))
      rw [← h27]
      clear h27
      generalize s28 = s at *
      obtain ⟨e29, h30, r31, h32, h⟩ := h
      refine rg ?_
      refine st 33 (t_move (o_t 8 rfl) rfl rfl) rfl rfl hL fun a s e_ hL => ?_
      refine st 34 (t_move (o_t 10 rfl) rfl rfl) rfl rfl hL fun a s e_ hL => ?_
      refine st 35 (t_move (o_t 7 rfl) rfl rfl) rfl rfl hL fun a s e_ hL => ?_
      refine st 36 (t_move (o_t 9 rfl) rfl rfl) rfl rfl hL fun a s e_ hL => ?_
      refine st 37 (t_idx (o_t 35 rfl) (o_t 36 rfl) h30 Tryz.underlying31 ty53 rfl rfl) rfl rfl hL fun a s e_ hL => ?_
      refine st 38 (t_fa (off := 1) (o_t 37 rfl) Tryz.underlying53 rfl (prt_snd (prt_all _ _) rfl) rfl ty3 rfl rfl) rfl rfl hL fun a s e_ hL => ?_
      refine st 39 (t_load ty3 (o_t 38 rfl) rfl rfl) rfl rfl hL fun a s e_ hL => ?_
      refine st_callo 40 hL (ref14_Add_ok h32) (xs := [.tmp 33, .tmp 34, .tmp 39]) (.cons (o_t 33 rfl) (.cons (o_t 34 rfl) (.cons (o_t 39 rfl) .nil))) rfl rfl rfl rfl fun a s og33 hg_ hL => ?_
      refine st 8 (t_assign (o_t 40 rfl) rfl rfl) rfl rfl hL fun a s e_ hL => ?_
      refine en' ?_
      show K20 a s.w
      refine hK20 _ _ ?_
      obtain ⟨h34, h⟩ := h
      refine rg ?_
      refine st 19 (t_move (o_t 9 rfl) rfl rfl) rfl rfl hL fun a s e_ hL => ?_
      refine st 20 (t_add (o_t 19 rfl) (o_i (k := .i64) (by decide)) h34 rfl rfl) rfl rfl hL fun a s e_ hL => ?_
      refine st 9 (t_assign (o_t 20 rfl) rfl rfl) rfl rfl hL fun a s e_ hL => ?_
      refine en' ?_
      exact hKL17 k16 a s (Nat.lt_succ_self _) ⟨r31, (i14 + 1), og33, hL.keep (.cons (t := 2) rfl (fun _ h_ => h_.elim) (.cons (t := 3) rfl (fun _ h_ => h_.elim) (.cons (t := 7) rfl (fun _ h_ => h_.elim) (.cons (t := 8) rfl (fun _ _ h_ => h_) (.cons (t := 9) rfl (fun _ h_ => h_.elim) .nil))))), h⟩
    · replace h := h.2 hb_
      refine wp_skip ?_
      show K20 a s.w
      refine hK20 _ _ ?_
      obtain ⟨h35, h⟩ := h
      refine rg ?_
      refine st 19 (t_move (o_t 9 rfl) rfl rfl) rfl rfl hL fun a s e_ hL => ?_
      refine st 20 (t_add (o_t 19 rfl) (o_i (k := .i64) (by decide)) h35 rfl rfl) rfl rfl hL fun a s e_ hL => ?_
      refine st 9 (t_assign (o_t 20 rfl) rfl rfl) rfl rfl hL fun a s e_ hL => ?_
      refine en' ?_
      exact hKL17 k16 a s (Nat.lt_succ_self _) ⟨out12, (i14 + 1), og13, hL.keep (.cons (t := 2) rfl (fun _ h_ => h_.elim) (.cons (t := 3) rfl (fun _ h_ => h_.elim) (.cons (t := 7) rfl (fun _ h_ => h_.elim) (.cons (t := 8) rfl (fun _ _ h_ => h_) (.cons (t := 9) rfl (fun _ h_ => h_.elim) .nil))))), h⟩
  · replace h := h.2 hb_
    refine wp_exit ?_
    exact J10 out12 og13 a s (hL.keep (.cons (t := 8) rfl (fun _ _ h_ => h_) .nil)) h
theorem ref15_Ends_ok {d_ : SDesc} {s_ : (List SItem)} {r_ : Int} (h : ref15_Ends d_ s_ r_) : Fn Tryz.prog 12 [(Pd.rep En.SDesc d_), (Pd.rep (En.slice En.SItem) s_)] (Rq (Pd.rep (En.int .i64) r_)) := by
  unfold ref15_Ends at h
  refine fn_of Tryz.func12 rfl Tryz.ntmps12 (by rfl) (by simp) fun s0 a hL => ?_
  refine wp_seq_k fun K1 hK1 => ?_
  refine rg ?_
  refine st 2 (t_box (o_t 0 rfl) rfl rfl) rfl rfl hL fun a s e_ hL => ?_
  refine st 4 (t_assign (o_i (k := .i64) (by decide)) rfl rfl) rfl rfl hL fun a s e_ hL => ?_
  refine en' ?_
  show K1 a s.w
  refine hK1 _ _ ?_
  refine wp_seq_k fun K2 hK2 => ?_
  obtain ⟨r3, h4, h⟩ := h
  refine rg ?_
  refine st 7 (t_load ty24 (o_t 2 rfl) rfl rfl) rfl rfl hL fun a s e_ hL => ?_
  refine st 8 (t_move (o_t 1 rfl) rfl rfl) rfl rfl hL fun a s e_ hL => ?_
  refine st 9 (t_call (ref14_Heads_ok h4) (xs := [.tmp 7, .tmp 8]) (.cons (o_t 7 rfl) (.cons (o_t 8 rfl) .nil)) rfl rfl) rfl rfl hL fun a s e_ hL => ?_
  refine st 5 (t_assign (o_t 9 rfl) rfl rfl) rfl rfl hL fun a s e_ hL => ?_
  refine en' ?_
  show K2 a s.w
  refine hK2 _ _ ?_
  refine wp_seq_k fun K5 hK5 => ?_
  refine wp_seq_k fun K6 hK6 => ?_
  refine rg ?_
  refine st 6 (t_assign (o_i (k := .i64) (by decide)) rfl rfl) rfl rfl hL fun a s e_ hL => ?_
  refine en' ?_
  show K6 a s.w
  refine hK6 _ _ ?_
  refine wp_block ?_
  have J7 : ∀ (a : Act) (s : St), Has N0 28 s0 a s [] → ((ref15_Ends.j1 r_)) → K5 a s.w := by
    intro a s hL h
    unfold ref15_Ends.j1 at h
    show K5 a s.w
    refine hK5 _ _ ?_
    refine wp_seq_k fun K8 hK8 => ?_
    refine rg ?_
    refine st 4 (t_assign (o_i (k := .i64) (by decide)) rfl rfl) rfl rfl hL fun a s e_ hL => ?_
    refine en' ?_
    show K8 a s.w
    refine hK8 _ _ ?_
    subst h
    exact wp_ret (retq rfl hL rfl)
  obtain ⟨k10, h⟩ := h
  refine lpg (fun k11 a s => ∃ (i9 : Int), Has N0 28 s0 a s [(5, (Pd.rep (En.slice En.SBranch) r3)), (6, (Pd.rep (En.int .i64) i9))] ∧ ref15_Ends.l1 r3 r_ (ref15_Ends.j1 r_) k11 i9) k10 ⟨0, hL.keep (.cons (t := 5) rfl (fun _ h_ => h_.elim) (.cons (t := 6) rfl (fun _ h_ => h_.elim) .nil)), h⟩ ?_
  rintro k11 a s ⟨i9, hL, h⟩ KL12 hKL12
  cases k11 with
  | zero => exact h.elim
  | succ k11 =>
  unfold ref15_Ends.l1 at h
  refine wp_seq_k fun K13 hK13 => ?_
  refine wp_seq_k fun K14 hK14 => ?_
  refine rg ?_
  refine st 10 (t_move (o_t 6 rfl) rfl rfl) rfl rfl hL fun a s e_ hL => ?_
  refine st 11 (t_move (o_t 5 rfl) rfl rfl) rfl rfl hL fun a s e_ hL => ?_
  refine st 12 (t_len (o_t 11 rfl) Tryz.underlying31 rfl rfl) rfl rfl hL fun a s e_ hL => ?_
  refine st 13 (t_lss (o_t 10 rfl) (o_t 12 rfl) rfl rfl) rfl rfl hL fun a s e_ hL => ?_
  refine en' ?_
  show K14 a s.w
  refine hK14 _ _ ?_
  refine cnd hL rfl (fun hb_ => ?_) (fun hb_ => ?_)
  · replace h := h.1 hb_
    refine wp_skip ?_
    show K13 a s.w
    refine hK13 _ _ ?_
    refine wp_seq_k fun K15 hK15 => ?_
    refine wp_block ?_
    refine wp_seq_k fun K16 hK16 => ?_
    obtain ⟨e17, h18, h⟩ := h
    refine rg ?_
    refine st 16 (t_move (o_t 5 rfl) rfl rfl) rfl rfl hL fun a s e_ hL => ?_
    refine st 17 (t_move (o_t 6 rfl) rfl rfl) rfl rfl hL fun a s e_ hL => ?_
    refine st 18 (t_idx (o_t 16 rfl) (o_t 17 rfl) h18 Tryz.underlying31 ty53 rfl rfl) rfl rfl hL fun a s e_ hL => ?_
    refine st 19 (t_fa (off := 0) (o_t 18 rfl) Tryz.underlying53 rfl (prt_fst (prt_all _ _)) rfl ty26 rfl rfl) rfl rfl hL fun a s e_ hL => ?_
    refine st 20 (t_load ty26 (o_t 19 rfl) rfl rfl) rfl rfl hL fun a s e_ hL => ?_
    refine st 21 (t_len (o_t 20 rfl) Tryz.underlying26 rfl rfl) rfl rfl hL fun a s e_ hL => ?_
    refine st 22 (t_eqi (o_t 21 rfl) (o_i (k := .i64) (by decide)) rfl rfl) rfl rfl hL fun a s e_ hL => ?_
    refine en' ?_
    show K16 a s.w
    refine hK16 _ _ ?_
    refine cnd hL rfl (fun hb_ => ?_) (fun hb_ => ?_)
    · replace h := h.1 hb_
      refine wp_seq_k fun K19 hK19 => ?_
      obtain ⟨e20, h21, h⟩ := h
      refine rg ?_
      refine st 23 (t_move (o_t 5 rfl) rfl rfl) rfl rfl hL fun a s e_ hL => ?_
      refine st 24 (t_move (o_t 6 rfl) rfl rfl) rfl rfl hL fun a s e_ hL => ?_
      refine st 25 (t_idx (o_t 23 rfl) (o_t 24 rfl) h21 Tryz.underlying31 ty53 rfl rfl) rfl rfl hL fun a s e_ hL => ?_
      refine st 26 (t_fa (off := 1) (o_t 25 rfl) Tryz.underlying53 rfl (prt_snd (prt_all _ _) rfl) rfl ty3 rfl rfl) rfl rfl hL fun a s e_ hL => ?_
      refine st 27 (t_load ty3 (o_t 26 rfl) rfl rfl) rfl rfl hL fun a s e_ hL => ?_
      refine st 4 (t_assign (o_t 27 rfl) rfl rfl) rfl rfl hL fun a s e_ hL => ?_
      refine en' ?_
      show K19 a s.w
      refine hK19 _ _ ?_
      subst h
      exact wp_ret (retq rfl hL rfl)
    · replace h := h.2 hb_
      refine wp_skip ?_
      show K15 a s.w
      refine hK15 _ _ ?_
      obtain ⟨h22, h⟩ := h
      refine rg ?_
      refine st 14 (t_move (o_t 6 rfl) rfl rfl) rfl rfl hL fun a s e_ hL => ?_
      refine st 15 (t_add (o_t 14 rfl) (o_i (k := .i64) (by decide)) h22 rfl rfl) rfl rfl hL fun a s e_ hL => ?_
      refine st 6 (t_assign (o_t 15 rfl) rfl rfl) rfl rfl hL fun a s e_ hL => ?_
      refine en' ?_
      exact hKL12 k11 a s (Nat.lt_succ_self _) ⟨(i9 + 1), hL.keep (.cons (t := 5) rfl (fun _ h_ => h_.elim) (.cons (t := 6) rfl (fun _ h_ => h_.elim) .nil)), h⟩
  · replace h := h.2 hb_
    refine wp_exit ?_
    exact J7 a s (hL.keep .nil) h
theorem ref15_Classes_ok {d_ : SDesc} {s_ : (List SItem)} {r_ : (List Cl)} (h : ref15_Classes d_ s_ r_) : Fn Tryz.prog 15 [(Pd.rep En.SDesc d_), (Pd.rep (En.slice En.SItem) s_)] (Ro En.cls 43 r_) := by
  unfold ref15_Classes at h
  refine fn_of Tryz.func15 rfl Tryz.ntmps15 (by rfl) (by simp) fun s0 a hL => ?_
  refine wp_seq_k fun K1 hK1 => ?_
  refine rg ?_
  refine st 2 (t_box (o_t 0 rfl) rfl rfl) rfl rfl hL fun a s e_ hL => ?_
  refine st 4 (t_assign (o_nil (E := En.cls) (N := s0.w.heap.size) (te := 43)) rfl rfl) rfl rfl hL fun a s e_ hL => ?_
  refine en' ?_
  show K1 a s.w
  refine hK1 _ _ ?_
  refine wp_seq_k fun K2 hK2 => ?_
  obtain ⟨r3, h4, h⟩ := h
  refine rg ?_
  refine st 11 (t_load ty24 (o_t 2 rfl) rfl rfl) rfl rfl hL fun a s e_ hL => ?_
  refine st 12 (t_move (o_t 1 rfl) rfl rfl) rfl rfl hL fun a s e_ hL => ?_
  refine st 13 (t_call (ref14_Heads_ok h4) (xs := [.tmp 11, .tmp 12]) (.cons (o_t 11 rfl) (.cons (o_t 12 rfl) .nil)) rfl rfl) rfl rfl hL fun a s e_ hL => ?_
  refine st 5 (t_assign (o_t 13 rfl) rfl rfl) rfl rfl hL fun a s e_ hL => ?_
  refine en' ?_
  show K2 a s.w
  refine hK2 _ _ ?_
  refine wp_seq_k fun K5 hK5 => ?_
  refine rg ?_
  refine st 6 (t_assign (o_nil (E := En.cls) (N := s0.w.heap.size) (te := 43)) rfl rfl) rfl rfl hL fun a s e_ hL => ?_
  refine en' ?_
  show K5 a s.w
  refine hK5 _ _ ?_
  refine wp_seq_k fun K6 hK6 => ?_
  refine wp_seq_k fun K7 hK7 => ?_
  refine rg ?_
  refine st 7 (t_assign (o_i (k := .i64) (by decide)) rfl rfl) rfl rfl hL fun a s e_ hL => ?_
  refine en' ?_
  show K7 a s.w
  refine hK7 _ _ ?_
  refine wp_block ?_
  have J10 : ∀ (out8 : (List Cl)) (og9 : Option Nat) (a : Act) (s : St), Has N0 83 s0 a s [(6, (Pd.row En.cls s0.w.heap.size 43 og9 out8))] → ((ref15_Classes.j1 r_) out8) → K6 a s.w := by
    intro out8 og9 a s hL h
    unfold ref15_Classes.j1 at h
    show K6 a s.w
    refine hK6 _ _ ?_
    refine wp_seq_k fun K11 hK11 => ?_
    refine rg ?_
    refine st 82 (t_move (o_t 6 rfl) rfl rfl) rfl rfl hL fun a s e_ hL => ?_
    refine st 4 (t_assign (o_t 82 rfl) rfl rfl) rfl rfl hL fun a s e_ hL => ?_
    refine en' ?_
    show K11 a s.w
    refine hK11 _ _ ?_
    subst h
    exact wp_ret (reto rfl hL rfl)
  obtain ⟨k15, h⟩ := h
  refine lpg (fun k16 a s => ∃ (out12 : (List Cl)) (i14 : Int) (og13 : Option Nat), Has N0 83 s0 a s [(2, (Pd.ptr En.SDesc d_)), (5, (Pd.rep (En.slice En.SBranch) r3)), (6, (Pd.row En.cls s0.w.heap.size 43 og13 out12)), (7, (Pd.rep (En.int .i64) i14))] ∧ ref15_Classes.l1 d_ r3 (ref15_Classes.j1 r_) k16 out12 i14) k15 ⟨([] : (List Cl)), 0, none, hL.keep (.cons (t := 2) rfl (fun _ h_ => h_.elim) (.cons (t := 5) rfl (fun _ h_ => h_.elim) (.cons (t := 6) rfl (fun _ _ h_ => h_) (.cons (t := 7) rfl (fun _ h_ => h_.elim) .nil)))), h⟩ ?_
  rintro k16 a s ⟨out12, i14, og13, hL, h⟩ KL17 hKL17
  cases k16 with
  | zero => exact h.elim
  | succ k16 =>
  unfold ref15_Classes.l1 at h
  refine wp_seq_k fun K18 hK18 => ?_
  refine wp_seq_k fun K19 hK19 => ?_
  refine rg ?_
  refine st 14 (t_move (o_t 7 rfl) rfl rfl) rfl rfl hL fun a s e_ hL => ?_
  refine st 15 (t_move (o_t 5 rfl) rfl rfl) rfl rfl hL fun a s e_ hL => ?_
  refine st 16 (t_len (o_t 15 rfl) Tryz.underlying31 rfl rfl) rfl rfl hL fun a s e_ hL => ?_
  refine st 17 (t_lss (o_t 14 rfl) (o_t 16 rfl) rfl rfl) rfl rfl hL fun a s e_ hL => ?_
  refine en' ?_
  show K19 a s.w
  refine hK19 _ _ ?_
  refine cnd hL rfl (fun hb_ => ?_) (fun hb_ => ?_)
  · replace h := h.1 hb_
    refine wp_skip ?_
    show K18 a s.w
    refine hK18 _ _ ?_
    refine wp_seq_k fun K20 hK20 => ?_
    refine wp_block ?_
    refine wp_seq_k fun K21 hK21 => ?_
    refine wp_seq_k fun K22 hK22 => ?_
    obtain ⟨e23, h24, h⟩ := h
    refine rg ?_
    refine st 20 (t_move (o_t 5 rfl) rfl rfl) rfl rfl hL fun a s e_ hL => ?_
    refine st 21 (t_move (o_t 7 rfl) rfl rfl) rfl rfl hL fun a s e_ hL => ?_
    refine st 22 (t_idx (o_t 20 rfl) (o_t 21 rfl) h24 Tryz.underlying31 ty53 rfl rfl) rfl rfl hL fun a s e_ hL => ?_
    refine st 23 (t_fa (off := 0) (o_t 22 rfl) Tryz.underlying53 rfl (prt_fst (prt_all _ _)) rfl ty26 rfl rfl) rfl rfl hL fun a s e_ hL => ?_
    refine st 24 (t_load ty26 (o_t 23 rfl) rfl rfl) rfl rfl hL fun a s e_ hL => ?_
    refine st 25 (t_len (o_t 24 rfl) Tryz.underlying26 rfl rfl) rfl rfl hL fun a s e_ hL => ?_
    refine st 26 (t_eqi (o_t 25 rfl) (o_i (k := .i64) (by decide)) rfl rfl) rfl rfl hL fun a s e_ hL => ?_
    refine en' ?_
    show K22 a s.w
    refine hK22 _ _ ?_
    refine cnd hL rfl (fun hb_ => ?_) (fun hb_ => ?_)
    · replace h := h.1 hb_
      refine wp_exit ?_
      show K20 a s.w
      refine hK20 _ _ ?_
      obtain ⟨h25, h⟩ := h
      refine rg ?_
      refine st 18 (t_move (o_t 7 rfl) rfl rfl) rfl rfl hL fun a s e_ hL => ?_
      refine st 19 (t_add (o_t 18 rfl) (o_i (k := .i64) (by decide)) h25 rfl rfl) rfl rfl hL fun a s e_ hL => ?_
      refine st 7 (t_assign (o_t 19 rfl) rfl rfl) rfl rfl hL fun a s e_ hL => ?_
      refine en' ?_
      exact hKL17 k16 a s (Nat.lt_succ_self _) ⟨out12, (i14 + 1), og13, hL.keep (.cons (t := 2) rfl (fun _ h_ => h_.elim) (.cons (t := 5) rfl (fun _ h_ => h_.elim) (.cons (t := 6) rfl (fun _ _ h_ => h_) (.cons (t := 7) rfl (fun _ h_ => h_.elim) .nil)))), h⟩
    · replace h := h.2 hb_
      refine wp_skip ?_
      show K21 a s.w
      refine hK21 _ _ ?_
      refine wp_seq_k fun K26 hK26 => ?_
      obtain ⟨e27, h28, e29, h30, h⟩ := h
      refine rg ?_
      refine st 27 (t_move (o_t 5 rfl) rfl rfl) rfl rfl hL fun a s e_ hL => ?_
      refine st 28 (t_move (o_t 7 rfl) rfl rfl) rfl rfl hL fun a s e_ hL => ?_
      refine st 29 (t_idx (o_t 27 rfl) (o_t 28 rfl) h28 Tryz.underlying31 ty53 rfl rfl) rfl rfl hL fun a s e_ hL => ?_
      refine st 30 (t_fa (off := 0) (o_t 29 rfl) Tryz.underlying53 rfl (prt_fst (prt_all _ _)) rfl ty26 rfl rfl) rfl rfl hL fun a s e_ hL => ?_
      refine st 31 (t_load ty26 (o_t 30 rfl) rfl rfl) rfl rfl hL fun a s e_ hL => ?_
      refine st 32 (t_idx (o_t 31 rfl) (o_i (k := .i64) (by decide)) h30 Tryz.underlying26 ty51 rfl rfl) rfl rfl hL fun a s e_ hL => ?_
      refine st 33 (t_load ty51 (o_t 32 rfl) rfl rfl) rfl rfl hL fun a s e_ hL => ?_
      have lt_d32 := hL.rlt 6 rfl
      refine st_alloc En.SItem (z := (0, 0, 0, 0)) 8 hL tyz51 rfl rfl rfl rfl fun a s g31 hg_ hL => ?_
      have d32 : Dis (some g31) og13 := Dis.newg hg_ lt_d32
      refine st_stb (L' := [(2, (Pd.ptr En.SDesc d_)), (5, (Pd.rep (En.slice En.SBranch) r3)), (6, (Pd.row En.cls s0.w.heap.size 43 og13 out12)), (7, (Pd.rep (En.int .i64) i14))]) 8 hL rfl (o_t 33 rfl) ty51 rfl rfl rfl (.cons (t := 2) rfl (fun _ h_ => h_.elim) (.cons (t := 5) rfl (fun _ h_ => h_.elim) (.cons (t := 6) rfl (Dis.ow (Dis.symm d32)) (.cons (t := 7) rfl (fun _ h_ => h_.elim) .nil)))) fun s hL => ?_
      refine en' ?_
      show K26 a s.w
      refine hK26 _ _ ?_
      refine wp_seq_k fun K33 hK33 => ?_
      obtain ⟨e34, h35, h⟩ := h
      refine rg ?_
      refine st 34 (t_fa (off := 0) (o_t 2 rfl) Tryz.underlying24 rfl (prt_solo (prt_all _ _)) rfl ty22 rfl rfl) rfl rfl hL fun a s e_ hL => ?_
      refine st 35 (t_load ty22 (o_t 34 rfl) rfl rfl) rfl rfl hL fun a s e_ hL => ?_
      refine st 36 (t_fab (off := 1) (o_t 8 rfl) Tryz.underlying51 rfl (prt_snd (prt_fst (prt_all _ _)) rfl) rfl ty3 rfl rfl) rfl rfl hL fun a s e_ hL => ?_
      refine st 37 (t_loado ty3 (o_t 36 rfl) rfl rfl) rfl rfl hL fun a s e_ hL => ?_
      refine st 38 (t_idx (o_t 35 rfl) (o_t 37 rfl) h35 Tryz.underlying22 ty46 rfl rfl) rfl rfl hL fun a s e_ hL => ?_
      refine st 39 (t_load ty46 (o_t 38 rfl) rfl rfl) rfl rfl hL fun a s e_ hL => ?_
      have lt_d38 := hL.blt 8 rfl
      have lt_d37 := hL.rlt 6 rfl
      refine st_alloc En.SNode (z := (0, 0, 0, 0, 0, (0#256), ([] : Str))) 9 hL tyz46 rfl rfl rfl rfl fun a s g36 hg_ hL => ?_
      have d37 : Dis (some g36) og13 := Dis.newg hg_ lt_d37
      have d38 : Dis (some g36) (some g31) := Dis.newg hg_ lt_d38
      refine st_stb (L' := [(2, (Pd.ptr En.SDesc d_)), (5, (Pd.rep (En.slice En.SBranch) r3)), (6, (Pd.row En.cls s0.w.heap.size 43 og13 out12)), (7, (Pd.rep (En.int .i64) i14)), (8, (Pd.box En.SItem s0.w.heap.size g31 e29))]) 9 hL rfl (o_t 39 rfl) ty46 rfl rfl rfl (.cons (t := 2) rfl (fun _ h_ => h_.elim) (.cons (t := 5) rfl (fun _ h_ => h_.elim) (.cons (t := 6) rfl (Dis.ow (Dis.symm d37)) (.cons (t := 7) rfl (fun _ h_ => h_.elim) (.cons (t := 8) rfl (Dis.bx (Dis.symm d38)) .nil))))) fun s hL => ?_
      refine en' ?_
      show K33 a s.w
      refine hK33 _ _ ?_
      refine wp_seq_k fun K39 hK39 => ?_
      refine rg ?_
      refine st 40 (t_fab (off := 0) (o_t 8 rfl) Tryz.underlying51 rfl (prt_fst (prt_all _ _)) rfl ty3 rfl rfl) rfl rfl hL fun a s e_ hL => ?_
      refine st 41 (t_loado ty3 (o_t 40 rfl) rfl rfl) rfl rfl hL fun a s e_ hL => ?_
      refine st 42 (t_eqi (o_t 41 rfl) (o_i (k := .i64) (by decide)) rfl rfl) rfl rfl hL fun a s e_ hL => ?_
      refine en' ?_
      show K39 a s.w
      refine hK39 _ _ ?_
      refine cnd hL rfl (fun hb_ => ?_) (fun hb_ => ?_)
      · replace h := h.1 hb_
        obtain ⟨c40, h41, c42, h43, r44, h45, h46, h⟩ := h
        refine rda follows 13 [(Pd.row En.cls s0.w.heap.size 43 og13 out12), (Pd.optr En.str s0.w.heap.size (some g36) (9) e34.2.2.2.2.2.2), (Pd.rep En.str e34.2.2.2.2.2.2), (Pd.optr (En.int .i64) s0.w.heap.size (some g31) (2) e29.2.2.1), (Pd.rep (En.int .i64) e29.2.2.1), (Pd.rep (En.int .u8) c40), (Pd.optr En.str s0.w.heap.size (some g36) (9) e34.2.2.2.2.2.2), (Pd.rep En.str e34.2.2.2.2.2.2), (Pd.optr (En.int .i64) s0.w.heap.size (some g31) (2) e29.2.2.1), (Pd.rep (En.int .i64) e29.2.2.1), (Pd.rep (En.int .u8) c42), (Pd.rep En.cls r44), (Pd.rep (En.slice En.cls) [r44])] hL (by kernel_rfl) rfl rfl ?_ ?_
        · refine AllT.cons (t_move (o_t 6 rfl) rfl rfl) ?_
          refine AllT.cons (t_fab (off := 9) (o_t 9 rfl) Tryz.underlying46 rfl (prt_snd (prt_snd (prt_snd (prt_snd (prt_snd (prt_snd (prt_all _ _) rfl) rfl) rfl) rfl) rfl) rfl) rfl ty9 rfl rfl) ?_
          refine AllT.cons (t_loado ty9 (o_t 44 rfl) rfl rfl) ?_
          refine AllT.cons (t_fab (off := 2) (o_t 8 rfl) Tryz.underlying51 rfl (prt_snd (prt_snd (prt_fst (prt_all _ _)) rfl) rfl) rfl ty3 rfl rfl) ?_
          refine AllT.cons (t_loado ty3 (o_t 46 rfl) rfl rfl) ?_
          refine AllT.cons (t_sidx (o_t 45 rfl) (o_t 47 rfl) h41 Tryz.underlying9 rfl rfl) ?_
          refine AllT.cons (t_fab (off := 9) (o_t 9 rfl) Tryz.underlying46 rfl (prt_snd (prt_snd (prt_snd (prt_snd (prt_snd (prt_snd (prt_all _ _) rfl) rfl) rfl) rfl) rfl) rfl) rfl ty9 rfl rfl) ?_
          refine AllT.cons (t_loado ty9 (o_t 49 rfl) rfl rfl) ?_
          refine AllT.cons (t_fab (off := 2) (o_t 8 rfl) Tryz.underlying51 rfl (prt_snd (prt_snd (prt_fst (prt_all _ _)) rfl) rfl) rfl ty3 rfl rfl) ?_
          refine AllT.cons (t_loado ty3 (o_t 51 rfl) rfl rfl) ?_
          refine AllT.cons (t_sidx (o_t 50 rfl) (o_t 52 rfl) h43 Tryz.underlying9 rfl rfl) ?_
          refine AllT.cons (t_call (ref01_Row_ok h45) (xs := [.tmp 48, .tmp 53]) (.cons (o_t 48 rfl) (.cons (o_t 53 rfl) .nil)) rfl rfl) ?_
          refine AllT.cons (t_lit (xs := [.tmp 54]) (.cons (o_t 54 rfl) .nil) Tryz.underlying35 ty43 rfl rfl (by decide) rfl rfl) ?_
          exact AllT.nil
        intro a s e_ hL
        refine st_app (L' := [(2, (Pd.ptr En.SDesc d_)), (5, (Pd.rep (En.slice En.SBranch) r3)), (7, (Pd.rep (En.int .i64) i14))]) 56 hL (o_t 43 rfl) (o_t 55 rfl) Tryz.underlying35 ty43 h46 rfl rfl rfl rfl (.cons (t := 2) rfl (fun _ h_ => h_.elim) (.cons (t := 5) rfl (fun _ h_ => h_.elim) (.cons (t := 7) rfl (fun _ h_ => h_.elim) .nil))) fun a s og47 hg_ hL => ?_
        refine st 6 (t_assign (o_t 56 rfl) rfl rfl) rfl rfl hL fun a s e_ hL => ?_
        refine en' ?_
        show K20 a s.w
        refine hK20 _ _ ?_
        obtain ⟨h48, h⟩ := h
        refine rg ?_
        refine st 18 (t_move (o_t 7 rfl) rfl rfl) rfl rfl hL fun a s e_ hL => ?_
        refine st 19 (t_add (o_t 18 rfl) (o_i (k := .i64) (by decide)) h48 rfl rfl) rfl rfl hL fun a s e_ hL => ?_
        refine st 7 (t_assign (o_t 19 rfl) rfl rfl) rfl rfl hL fun a s e_ hL => ?_
        refine en' ?_
        exact hKL17 k16 a s (Nat.lt_succ_self _) ⟨(out12 ++ [r44]), (i14 + 1), og47, hL.keep (.cons (t := 2) rfl (fun _ h_ => h_.elim) (.cons (t := 5) rfl (fun _ h_ => h_.elim) (.cons (t := 6) rfl (fun _ _ h_ => h_) (.cons (t := 7) rfl (fun _ h_ => h_.elim) .nil)))), h⟩
      · replace h := h.2 hb_
        refine wp_seq_k fun K49 hK49 => ?_
        refine rg ?_
        refine st 57 (t_fab (off := 0) (o_t 8 rfl) Tryz.underlying51 rfl (prt_fst (prt_all _ _)) rfl ty3 rfl rfl) rfl rfl hL fun a s e_ hL => ?_
        refine st 58 (t_loado ty3 (o_t 57 rfl) rfl rfl) rfl rfl hL fun a s e_ hL => ?_
        refine st 59 (t_eqi (o_t 58 rfl) (o_i (k := .i64) (by decide)) rfl rfl) rfl rfl hL fun a s e_ hL => ?_
        refine st 60 (t_move (o_t 59 rfl) rfl rfl) rfl rfl hL fun a s e_ hL => ?_
        refine st 61 (t_g1 rfl rfl rfl (fun hc_ => t_fab (off := 0) (o_t 9 rfl) Tryz.underlying46 rfl (prt_fst (prt_all _ _)) rfl ty3 rfl rfl)) rfl rfl hL fun a s e_ hL => ?_
        refine st 62 (t_g1 rfl rfl rfl (fun hc_ => t_loado ty3 (o_w hc_ 61 rfl) rfl rfl)) rfl rfl hL fun a s e_ hL => ?_
        refine st 63 (t_g1 rfl rfl rfl (fun hc_ => t_eqi (o_w hc_ 62 rfl) (o_i (k := .i64) (by decide)) rfl rfl)) rfl rfl hL fun a s e_ hL => ?_
        refine st 64 (t_and (o_t 60 rfl) (fun hc2_ => (o_w hc2_ 63 rfl)) rfl rfl) rfl rfl hL fun a s e_ hL => ?_
        refine en' ?_
        show K49 a s.w
        refine hK49 _ _ ?_
        refine cnd hL rfl (fun hb_ => ?_) (fun hb_ => ?_)
        · replace h := h.1 hb_
          obtain ⟨h50, h⟩ := h
          refine rg ?_
          refine st 65 (t_move (o_t 6 rfl) rfl rfl) rfl rfl hL fun a s e_ hL => ?_
          refine st 66 (t_fab (off := 5) (o_t 9 rfl) Tryz.underlying46 rfl (prt_snd (prt_snd (prt_snd (prt_snd (prt_snd (prt_fst (prt_all _ _)) rfl) rfl) rfl) rfl) rfl) rfl ty43 rfl rfl) rfl rfl hL fun a s e_ hL => ?_
          refine st 67 (t_loado ty43 (o_t 66 rfl) rfl rfl) rfl rfl hL fun a s e_ hL => ?_
          refine st 68 (t_lit (xs := [.tmp 67]) (.cons (o_t 67 rfl) .nil) Tryz.underlying35 ty43 rfl rfl (by decide) rfl rfl) rfl rfl hL fun a s e_ hL => ?_
          refine st_app (L' := [(2, (Pd.ptr En.SDesc d_)), (5, (Pd.rep (En.slice En.SBranch) r3)), (7, (Pd.rep (En.int .i64) i14))]) 69 hL (o_t 65 rfl) (o_t 68 rfl) Tryz.underlying35 ty43 h50 rfl rfl rfl rfl (.cons (t := 2) rfl (fun _ h_ => h_.elim) (.cons (t := 5) rfl (fun _ h_ => h_.elim) (.cons (t := 7) rfl (fun _ h_ => h_.elim) .nil))) fun a s og51 hg_ hL => ?_
          refine st 6 (t_assign (o_t 69 rfl) rfl rfl) rfl rfl hL fun a s e_ hL => ?_
          refine en' ?_
          show K20 a s.w
          refine hK20 _ _ ?_
          obtain ⟨h52, h⟩ := h
          refine rg ?_
          refine st 18 (t_move (o_t 7 rfl) rfl rfl) rfl rfl hL fun a s e_ hL => ?_
          refine st 19 (t_add (o_t 18 rfl) (o_i (k := .i64) (by decide)) h52 rfl rfl) rfl rfl hL fun a s e_ hL => ?_
          refine st 7 (t_assign (o_t 19 rfl) rfl rfl) rfl rfl hL fun a s e_ hL => ?_
          refine en' ?_
          exact hKL17 k16 a s (Nat.lt_succ_self _) ⟨(out12 ++ [e34.2.2.2.2.2.1]), (i14 + 1), og51, hL.keep (.cons (t := 2) rfl (fun _ h_ => h_.elim) (.cons (t := 5) rfl (fun _ h_ => h_.elim) (.cons (t := 6) rfl (fun _ _ h_ => h_) (.cons (t := 7) rfl (fun _ h_ => h_.elim) .nil)))), h⟩
        · replace h := h.2 hb_
          refine wp_seq_k fun K53 hK53 => ?_
          refine rg ?_
          refine st 10 (t_assign (o_i (k := .i64) (by decide)) rfl rfl) rfl rfl hL fun a s e_ hL => ?_
          refine en' ?_
          show K53 a s.w
          refine hK53 _ _ ?_
          refine wp_block ?_
          have J56 : ∀ (out54 : (List Cl)) (og55 : Option Nat) (a : Act) (s : St), Has N0 83 s0 a s [(2, (Pd.ptr En.SDesc d_)), (5, (Pd.rep (En.slice En.SBranch) r3)), (6, (Pd.row En.cls s0.w.heap.size 43 og55 out54)), (7, (Pd.rep (En.int .i64) i14))] → ((ref15_Classes.j2 (ref15_Classes.l1 d_ r3 (ref15_Classes.j1 r_) k16) i14) out54) → K20 a s.w := by
            intro out54 og55 a s hL h
            unfold ref15_Classes.j2 at h
            show K20 a s.w
            refine hK20 _ _ ?_
            obtain ⟨h57, h⟩ := h
            refine rg ?_
            refine st 18 (t_move (o_t 7 rfl) rfl rfl) rfl rfl hL fun a s e_ hL => ?_
            refine st 19 (t_add (o_t 18 rfl) (o_i (k := .i64) (by decide)) h57 rfl rfl) rfl rfl hL fun a s e_ hL => ?_
            refine st 7 (t_assign (o_t 19 rfl) rfl rfl) rfl rfl hL fun a s e_ hL => ?_
            refine en' ?_
            exact hKL17 k16 a s (Nat.lt_succ_self _) ⟨out54, (i14 + 1), og55, hL.keep (.cons (t := 2) rfl (fun _ h_ => h_.elim) (.cons (t := 5) rfl (fun _ h_ => h_.elim) (.cons (t := 6) rfl (fun _ _ h_ => h_) (.cons (t := 7) rfl (fun _ h_ => h_.elim) .nil)))), h⟩
          obtain ⟨k61, h⟩ := h
          refine lpg (fun k62 a s => ∃ (out58 : (List Cl)) (c60 : Int) (og59 : Option Nat), Has N0 83 s0 a s [(2, (Pd.ptr En.SDesc d_)), (5, (Pd.rep (En.slice En.SBranch) r3)), (6, (Pd.row En.cls s0.w.heap.size 43 og59 out58)), (7, (Pd.rep (En.int .i64) i14)), (10, (Pd.rep (En.int .i64) c60))] ∧ ref15_Classes.l2 (ref15_Classes.j2 (ref15_Classes.l1 d_ r3 (ref15_Classes.j1 r_) k16) i14) k62 out58 c60) k61 ⟨out12, 0, og13, hL.keep (.cons (t := 2) rfl (fun _ h_ => h_.elim) (.cons (t := 5) rfl (fun _ h_ => h_.elim) (.cons (t := 6) rfl (fun _ _ h_ => h_) (.cons (t := 7) rfl (fun _ h_ => h_.elim) (.cons (t := 10) rfl (fun _ h_ => h_.elim) .nil))))), h⟩ ?_
          rintro k62 a s ⟨out58, c60, og59, hL, h⟩ KL63 hKL63
          cases k62 with
          | zero => exact h.elim
          | succ k62 =>
          unfold ref15_Classes.l2 at h
          refine wp_seq_k fun K64 hK64 => ?_
          refine wp_seq_k fun K65 hK65 => ?_
          refine rg ?_
          refine st 70 (t_move (o_t 10 rfl) rfl rfl) rfl rfl hL fun a s e_ hL => ?_
          refine st 71 (t_lss (o_t 70 rfl) (o_i (k := .i64) (by decide)) rfl rfl) rfl rfl hL fun a s e_ hL => ?_
          refine en' ?_
          show K65 a s.w
          refine hK65 _ _ ?_
          refine cnd hL rfl (fun hb_ => ?_) (fun hb_ => ?_)
          · replace h := h.1 hb_
            refine wp_skip ?_
            show K64 a s.w
            refine hK64 _ _ ?_
            refine wp_seq_k fun K66 hK66 => ?_
            refine wp_block ?_
            obtain ⟨r67, h68, h69, h⟩ := h
            refine rg ?_
            refine st 74 (t_move (o_t 6 rfl) rfl rfl) rfl rfl hL fun a s e_ hL => ?_
            refine st 75 (t_move (o_t 10 rfl) rfl rfl) rfl rfl hL fun a s e_ hL => ?_
            refine st 76 (t_u8 (o_t 75 rfl) Tryz.underlying3 Tryz.underlying5 rfl rfl) rfl rfl hL fun a s e_ hL => ?_
            refine st 77 (t_move (o_t 10 rfl) rfl rfl) rfl rfl hL fun a s e_ hL => ?_
            refine st 78 (t_u8 (o_t 77 rfl) Tryz.underlying3 Tryz.underlying5 rfl rfl) rfl rfl hL fun a s e_ hL => ?_
            refine st 79 (t_call (ref01_Row_ok h68) (xs := [.tmp 76, .tmp 78]) (.cons (o_t 76 rfl) (.cons (o_t 78 rfl) .nil)) rfl rfl) rfl rfl hL fun a s e_ hL => ?_
            refine st 80 (t_lit (xs := [.tmp 79]) (.cons (o_t 79 rfl) .nil) Tryz.underlying35 ty43 rfl rfl (by decide) rfl rfl) rfl rfl hL fun a s e_ hL => ?_
            refine st_app (L' := [(2, (Pd.ptr En.SDesc d_)), (5, (Pd.rep (En.slice En.SBranch) r3)), (7, (Pd.rep (En.int .i64) i14)), (10, (Pd.rep (En.int .i64) c60))]) 81 hL (o_t 74 rfl) (o_t 80 rfl) Tryz.underlying35 ty43 h69 rfl rfl rfl rfl (.cons (t := 2) rfl (fun _ h_ => h_.elim) (.cons (t := 5) rfl (fun _ h_ => h_.elim) (.cons (t := 7) rfl (fun _ h_ => h_.elim) (.cons (t := 10) rfl (fun _ h_ => h_.elim) .nil)))) fun a s og70 hg_ hL => ?_
            refine st 6 (t_assign (o_t 81 rfl) rfl rfl) rfl rfl hL fun a s e_ hL => ?_
            refine en' ?_
            show K66 a s.w
            refine hK66 _ _ ?_
            obtain ⟨h71, h⟩ := h
            refine rg ?_
            refine st 72 (t_move (o_t 10 rfl) rfl rfl) rfl rfl hL fun a s e_ hL => ?_
            refine st 73 (t_add (o_t 72 rfl) (o_i (k := .i64) (by decide)) h71 rfl rfl) rfl rfl hL fun a s e_ hL => ?_
            refine st 10 (t_assign (o_t 73 rfl) rfl rfl) rfl rfl hL fun a s e_ hL => ?_
            refine en' ?_
            exact hKL63 k62 a s (Nat.lt_succ_self _) ⟨(out58 ++ [r67]), (c60 + 1), og70, hL.keep (.cons (t := 2) rfl (fun _ h_ => h_.elim) (.cons (t := 5) rfl (fun _ h_ => h_.elim) (.cons (t := 6) rfl (fun _ _ h_ => h_) (.cons (t := 7) rfl (fun _ h_ => h_.elim) (.cons (t := 10) rfl (fun _ h_ => h_.elim) .nil))))), h⟩
          · replace h := h.2 hb_
            refine wp_exit ?_
            exact J56 out58 og59 a s (hL.keep (.cons (t := 2) rfl (fun _ h_ => h_.elim) (.cons (t := 5) rfl (fun _ h_ => h_.elim) (.cons (t := 6) rfl (fun _ _ h_ => h_) (.cons (t := 7) rfl (fun _ h_ => h_.elim) .nil))))) h
  · replace h := h.2 hb_
    refine wp_exit ?_
    exact J10 out12 og13 a s (hL.keep (.cons (t := 6) rfl (fun _ _ h_ => h_) .nil)) h
theorem law15_NextTells_ok {d_ : SDesc} {s_ : (List SItem)} {cv_ : Int} {r_ : Bool} (h : law15_NextTells d_ s_ cv_ r_) : Fn Tryz.prog 3 [(Pd.rep En.SDesc d_), (Pd.rep (En.slice En.SItem) s_), (Pd.rep (En.int .u8) cv_)] (Rq (Pd.rep En.bool r_)) := by
  unfold law15_NextTells at h
  refine fn_of Tryz.func3 rfl Tryz.ntmps3 (by rfl) (by simp) fun s0 a hL => ?_
  refine wp_seq_k fun K1 hK1 => ?_
  refine rg ?_
  refine st 3 (t_box (o_t 0 rfl) rfl rfl) rfl rfl hL fun a s e_ hL => ?_
  refine st 6 (t_assign o_b rfl rfl) rfl rfl hL fun a s e_ hL => ?_
  refine en' ?_
  show K1 a s.w
  refine hK1 _ _ ?_
  refine wp_seq_k fun K2 hK2 => ?_
  refine wp_seq_k fun K3 hK3 => ?_
  obtain ⟨r4, h5, r6, h7, r8, h9, r10, h11, h⟩ := h
  refine rg ?_
  refine st 11 (t_call (law15_awake_ok h5) (xs := []) .nil rfl rfl) rfl rfl hL fun a s e_ hL => ?_
  refine st 12 (t_not (o_t 11 rfl) rfl rfl) rfl rfl hL fun a s e_ hL => ?_
  refine st 13 (t_move (o_t 12 rfl) rfl rfl) rfl rfl hL fun a s e_ hL => ?_
  refine st 14 (t_g1 rfl rfl rfl (fun hc_ => t_load ty24 (o_t 3 rfl) rfl rfl)) rfl rfl hL fun a s e_ hL => ?_
  refine st 15 (t_g1 rfl rfl rfl (fun hc_ => t_call (ref04_Few_ok (h7 hc_)) (xs := [.tmp 14]) (.cons (o_w hc_ 14 rfl) .nil) rfl rfl)) rfl rfl hL fun a s e_ hL => ?_
  refine st 16 (t_g1 rfl rfl rfl (fun hc_ => t_not (o_w hc_ 15 rfl) rfl rfl)) rfl rfl hL fun a s e_ hL => ?_
  refine st 17 (t_or (o_t 13 rfl) (fun hc2_ => (o_w hc2_ 16 rfl)) rfl rfl) rfl rfl hL fun a s e_ hL => ?_
  refine st 18 (t_move (o_t 17 rfl) rfl rfl) rfl rfl hL fun a s e_ hL => ?_
  refine st 19 (t_g1 rfl rfl rfl (fun hc_ => t_load ty24 (o_t 3 rfl) rfl rfl)) rfl rfl hL fun a s e_ hL => ?_
  refine st 20 (t_g1 rfl rfl rfl (fun hc_ => t_call (ref08_Right_ok (h9 hc_)) (xs := [.tmp 19]) (.cons (o_w hc_ 19 rfl) .nil) rfl rfl)) rfl rfl hL fun a s e_ hL => ?_
  refine st 21 (t_g1 rfl rfl rfl (fun hc_ => t_not (o_w hc_ 20 rfl) rfl rfl)) rfl rfl hL fun a s e_ hL => ?_
  refine st 22 (t_or (o_t 18 rfl) (fun hc2_ => (o_w hc2_ 21 rfl)) rfl rfl) rfl rfl hL fun a s e_ hL => ?_
  refine st 23 (t_move (o_t 22 rfl) rfl rfl) rfl rfl hL fun a s e_ hL => ?_
  refine st 24 (t_g1 rfl rfl rfl (fun hc_ => t_load ty24 (o_t 3 rfl) rfl rfl)) rfl rfl hL fun a s e_ hL => ?_
  refine st 25 (t_g1 rfl rfl rfl (fun hc_ => t_move (o_t 1 rfl) rfl rfl)) rfl rfl hL fun a s e_ hL => ?_
  refine st 26 (t_g1 rfl rfl rfl (fun hc_ => t_call (ref15_Fits_ok (h11 hc_)) (xs := [.tmp 24, .tmp 25]) (.cons (o_w hc_ 24 rfl) (.cons (o_w hc_ 25 rfl) .nil)) rfl rfl)) rfl rfl hL fun a s e_ hL => ?_
  refine st 27 (t_g1 rfl rfl rfl (fun hc_ => t_not (o_w hc_ 26 rfl) rfl rfl)) rfl rfl hL fun a s e_ hL => ?_
  refine st 28 (t_or (o_t 23 rfl) (fun hc2_ => (o_w hc2_ 27 rfl)) rfl rfl) rfl rfl hL fun a s e_ hL => ?_
  refine en' ?_
  show K3 a s.w
  refine hK3 _ _ ?_
  refine cnd hL rfl (fun hb_ => ?_) (fun hb_ => ?_)
  · replace h := h.1 hb_
    refine wp_seq_k fun K12 hK12 => ?_
    obtain ⟨r13, h14, h⟩ := h
    refine rg ?_
    refine st 29 (t_call (law15_awake_ok h14) (xs := []) .nil rfl rfl) rfl rfl hL fun a s e_ hL => ?_
    refine st 6 (t_assign (o_t 29 rfl) rfl rfl) rfl rfl hL fun a s e_ hL => ?_
    refine en' ?_
    show K12 a s.w
    refine hK12 _ _ ?_
    subst h
    exact wp_ret (retq rfl hL rfl)
  · replace h := h.2 hb_
    refine wp_skip ?_
    show K2 a s.w
    refine hK2 _ _ ?_
    refine wp_seq_k fun K15 hK15 => ?_
    refine wp_seq_k fun K16 hK16 => ?_
    obtain ⟨r17, h18, r19, h20, r21, h22, r23, h24, r25, h26, r27, h28, r29, h30, r31, h32, h⟩ := h
    refine rda follows 29 [(Pd.rep En.SDesc d_), (Pd.rep (En.slice En.SItem) s_), (Pd.rep (En.int .u8) cv_), (Pd.rep (En.slice En.SBranch) r17), (Pd.rep En.SDesc d_), (Pd.rep (En.slice En.SItem) s_), (Pd.rep (En.int .u8) cv_), (Pd.rep (En.slice En.SBranch) r19), (Pd.rep En.bool r21), (Pd.rep En.bool (!r21)), (Pd.rep En.bool (!r21)), (Pd.when (((!r21)) = false) (Pd.rep En.SDesc d_)), (Pd.when (((!r21)) = false) (Pd.rep (En.slice En.SItem) s_)), (Pd.when (((!r21)) = false) (Pd.rep (En.int .i64) r23)), (Pd.when (((!r21)) = false) (Pd.rep En.SDesc d_)), (Pd.when (((!r21)) = false) (Pd.rep (En.slice En.SItem) s_)), (Pd.when (((!r21)) = false) (Pd.rep (En.int .i64) r25)), (Pd.when (((!r21)) = false) (Pd.rep En.bool (r23 != r25))), (Pd.rep En.bool ((!r21) || (r23 != r25))), (Pd.rep En.bool ((!r21) || (r23 != r25))), (Pd.when ((((!r21) || (r23 != r25))) = false) (Pd.rep En.SDesc d_)), (Pd.when ((((!r21) || (r23 != r25))) = false) (Pd.rep (En.slice En.SItem) s_)), (Pd.when ((((!r21) || (r23 != r25))) = false) (Pd.rep (En.slice En.cls) r27)), (Pd.when ((((!r21) || (r23 != r25))) = false) (Pd.rep En.SDesc d_)), (Pd.when ((((!r21) || (r23 != r25))) = false) (Pd.rep (En.slice En.SItem) s_)), (Pd.when ((((!r21) || (r23 != r25))) = false) (Pd.rep (En.slice En.cls) r29)), (Pd.when ((((!r21) || (r23 != r25))) = false) (Pd.rep En.bool r31)), (Pd.when ((((!r21) || (r23 != r25))) = false) (Pd.rep En.bool (!r31))), (Pd.rep En.bool (((!r21) || (r23 != r25)) || (!r31)))] hL (by kernel_rfl) rfl rfl ?_ ?_
    · refine AllT.cons (t_load ty24 (o_t 3 rfl) rfl rfl) ?_
      refine AllT.cons (t_move (o_t 1 rfl) rfl rfl) ?_
      refine AllT.cons (t_move (o_t 2 rfl) rfl rfl) ?_
      refine AllT.cons (t_call ((next_On_ok h18).frz) (xs := [.tmp 30, .tmp 31, .tmp 32]) (.cons (o_t 30 rfl) (.cons (o_t 31 rfl) (.cons (o_t 32 rfl) .nil))) rfl rfl) ?_
      refine AllT.cons (t_load ty24 (o_t 3 rfl) rfl rfl) ?_
      refine AllT.cons (t_move (o_t 1 rfl) rfl rfl) ?_
      refine AllT.cons (t_move (o_t 2 rfl) rfl rfl) ?_
      refine AllT.cons (t_call ((ref15_On_ok h20).frz) (xs := [.tmp 34, .tmp 35, .tmp 36]) (.cons (o_t 34 rfl) (.cons (o_t 35 rfl) (.cons (o_t 36 rfl) .nil))) rfl rfl) ?_
      refine AllT.cons (t_call (ref14_Same_ok h22) (xs := [.tmp 33, .tmp 37]) (.cons (o_t 33 rfl) (.cons (o_t 37 rfl) .nil)) rfl rfl) ?_
      refine AllT.cons (t_not (o_t 38 rfl) rfl rfl) ?_
      refine AllT.cons (t_move (o_t 39 rfl) rfl rfl) ?_
      refine AllT.cons (t_g1 rfl rfl rfl (fun hc_ => t_load ty24 (o_t 3 rfl) rfl rfl)) ?_
      refine AllT.cons (t_g1 rfl rfl rfl (fun hc_ => t_move (o_t 1 rfl) rfl rfl)) ?_
      refine AllT.cons (t_g1 rfl rfl rfl (fun hc_ => t_call (next_Ends_ok (h24 hc_)) (xs := [.tmp 41, .tmp 42]) (.cons (o_w hc_ 41 rfl) (.cons (o_w hc_ 42 rfl) .nil)) rfl rfl)) ?_
      refine AllT.cons (t_g1 rfl rfl rfl (fun hc_ => t_load ty24 (o_t 3 rfl) rfl rfl)) ?_
      refine AllT.cons (t_g1 rfl rfl rfl (fun hc_ => t_move (o_t 1 rfl) rfl rfl)) ?_
      refine AllT.cons (t_g1 rfl rfl rfl (fun hc_ => t_call (ref15_Ends_ok (h26 hc_)) (xs := [.tmp 44, .tmp 45]) (.cons (o_w hc_ 44 rfl) (.cons (o_w hc_ 45 rfl) .nil)) rfl rfl)) ?_
      refine AllT.cons (t_g1 rfl rfl rfl (fun hc_ => t_nei (o_w hc_ 43 rfl) (o_w hc_ 46 rfl) rfl rfl)) ?_
      refine AllT.cons (t_or (o_t 40 rfl) (fun hc2_ => (o_w hc2_ 47 rfl)) rfl rfl) ?_
      refine AllT.cons (t_move (o_t 48 rfl) rfl rfl) ?_
      refine AllT.cons (t_g1 rfl rfl rfl (fun hc_ => t_load ty24 (o_t 3 rfl) rfl rfl)) ?_
      refine AllT.cons (t_g1 rfl rfl rfl (fun hc_ => t_move (o_t 1 rfl) rfl rfl)) ?_
      refine AllT.cons (t_g1 rfl rfl rfl (fun hc_ => t_call ((next_Classes_ok (h28 hc_)).frz) (xs := [.tmp 50, .tmp 51]) (.cons (o_w hc_ 50 rfl) (.cons (o_w hc_ 51 rfl) .nil)) rfl rfl)) ?_
      refine AllT.cons (t_g1 rfl rfl rfl (fun hc_ => t_load ty24 (o_t 3 rfl) rfl rfl)) ?_
      refine AllT.cons (t_g1 rfl rfl rfl (fun hc_ => t_move (o_t 1 rfl) rfl rfl)) ?_
      refine AllT.cons (t_g1 rfl rfl rfl (fun hc_ => t_call ((ref15_Classes_ok (h30 hc_)).frz) (xs := [.tmp 53, .tmp 54]) (.cons (o_w hc_ 53 rfl) (.cons (o_w hc_ 54 rfl) .nil)) rfl rfl)) ?_
      refine AllT.cons (t_g1 rfl rfl rfl (fun hc_ => t_call (ref02_Same_ok (h32 hc_)) (xs := [.tmp 52, .tmp 55]) (.cons (o_w hc_ 52 rfl) (.cons (o_w hc_ 55 rfl) .nil)) rfl rfl)) ?_
      refine AllT.cons (t_g1 rfl rfl rfl (fun hc_ => t_not (o_w hc_ 56 rfl) rfl rfl)) ?_
      refine AllT.cons (t_or (o_t 49 rfl) (fun hc2_ => (o_w hc2_ 57 rfl)) rfl rfl) ?_
      exact AllT.nil
    intro a s e_ hL
    refine en' ?_
    show K16 a s.w
    refine hK16 _ _ ?_
    refine cnd hL rfl (fun hb_ => ?_) (fun hb_ => ?_)
    · replace h := h.1 hb_
      refine wp_seq_k fun K33 hK33 => ?_
      refine rg ?_
      refine st 6 (t_assign o_b rfl rfl) rfl rfl hL fun a s e_ hL => ?_
      refine en' ?_
      show K33 a s.w
      refine hK33 _ _ ?_
      subst h
      exact wp_ret (retq rfl hL rfl)
    · replace h := h.2 hb_
      refine wp_skip ?_
      show K15 a s.w
      refine hK15 _ _ ?_
      refine wp_seq_k fun K34 hK34 => ?_
      refine wp_seq_k fun K35 hK35 => ?_
      obtain ⟨r36, h37, h⟩ := h
      refine rg ?_
      refine st 59 (t_load ty24 (o_t 3 rfl) rfl rfl) rfl rfl hL fun a s e_ hL => ?_
      refine st 60 (t_move (o_t 1 rfl) rfl rfl) rfl rfl hL fun a s e_ hL => ?_
      refine st 61 (t_call (ref14_Ready_ok h37) (xs := [.tmp 59, .tmp 60]) (.cons (o_t 59 rfl) (.cons (o_t 60 rfl) .nil)) rfl rfl) rfl rfl hL fun a s e_ hL => ?_
      refine st 62 (t_not (o_t 61 rfl) rfl rfl) rfl rfl hL fun a s e_ hL => ?_
      refine en' ?_
      show K35 a s.w
      refine hK35 _ _ ?_
      refine cnd hL rfl (fun hb_ => ?_) (fun hb_ => ?_)
      · replace h := h.1 hb_
        refine wp_seq_k fun K38 hK38 => ?_
        refine rg ?_
        refine st 6 (t_assign o_b rfl rfl) rfl rfl hL fun a s e_ hL => ?_
        refine en' ?_
        show K38 a s.w
        refine hK38 _ _ ?_
        subst h
        exact wp_ret (retq rfl hL rfl)
      · replace h := h.2 hb_
        refine wp_skip ?_
        show K34 a s.w
        refine hK34 _ _ ?_
        refine wp_seq_k fun K39 hK39 => ?_
        obtain ⟨r40, h41, h⟩ := h
        refine rg ?_
        refine st 64 (t_load ty24 (o_t 3 rfl) rfl rfl) rfl rfl hL fun a s e_ hL => ?_
        refine st 65 (t_move (o_t 1 rfl) rfl rfl) rfl rfl hL fun a s e_ hL => ?_
        refine st 66 (t_move (o_t 2 rfl) rfl rfl) rfl rfl hL fun a s e_ hL => ?_
        refine st 67 (t_call (((next_Read_ok h41).frz2 (Pd.rep_stable _ _)).tup) (xs := [.tmp 64, .tmp 65, .tmp 66]) (.cons (o_t 64 rfl) (.cons (o_t 65 rfl) (.cons (o_t 66 rfl) .nil))) rfl rfl) rfl rfl hL fun a s e_ hL => ?_
        refine st 63 (t_move (o_t 67 rfl) rfl rfl) rfl rfl hL fun a s e_ hL => ?_
        refine st 68 (t_ext0 (o_t 63 rfl) rfl rfl) rfl rfl hL fun a s e_ hL => ?_
        refine st 69 (t_ext1 (o_t 63 rfl) rfl rfl) rfl rfl hL fun a s e_ hL => ?_
        refine st 7 (t_assign (o_t 68 rfl) rfl rfl) rfl rfl hL fun a s e_ hL => ?_
        refine st 8 (t_assign (o_t 69 rfl) rfl rfl) rfl rfl hL fun a s e_ hL => ?_
        refine en' ?_
        show K39 a s.w
        refine hK39 _ _ ?_
        refine wp_seq_k fun K42 hK42 => ?_
        obtain ⟨r43, h44, h⟩ := h
        refine rg ?_
        refine st 71 (t_load ty24 (o_t 3 rfl) rfl rfl) rfl rfl hL fun a s e_ hL => ?_
        refine st 72 (t_move (o_t 1 rfl) rfl rfl) rfl rfl hL fun a s e_ hL => ?_
        refine st 73 (t_move (o_t 2 rfl) rfl rfl) rfl rfl hL fun a s e_ hL => ?_
        refine st 74 (t_call (((ref15_Read_ok h44).frz2 (Pd.rep_stable _ _)).tup) (xs := [.tmp 71, .tmp 72, .tmp 73]) (.cons (o_t 71 rfl) (.cons (o_t 72 rfl) (.cons (o_t 73 rfl) .nil))) rfl rfl) rfl rfl hL fun a s e_ hL => ?_
        refine st 70 (t_move (o_t 74 rfl) rfl rfl) rfl rfl hL fun a s e_ hL => ?_
        refine st 75 (t_ext0 (o_t 70 rfl) rfl rfl) rfl rfl hL fun a s e_ hL => ?_
        refine st 76 (t_ext1 (o_t 70 rfl) rfl rfl) rfl rfl hL fun a s e_ hL => ?_
        refine st 9 (t_assign (o_t 75 rfl) rfl rfl) rfl rfl hL fun a s e_ hL => ?_
        refine st 10 (t_assign (o_t 76 rfl) rfl rfl) rfl rfl hL fun a s e_ hL => ?_
        refine en' ?_
        show K42 a s.w
        refine hK42 _ _ ?_
        refine wp_seq_k fun K45 hK45 => ?_
        obtain ⟨r46, h47, h⟩ := h
        refine rg ?_
        refine st 77 (t_move (o_t 7 rfl) rfl rfl) rfl rfl hL fun a s e_ hL => ?_
        refine st 78 (t_move (o_t 9 rfl) rfl rfl) rfl rfl hL fun a s e_ hL => ?_
        refine st 79 (t_call (ref13_Same_ok h47) (xs := [.tmp 77, .tmp 78]) (.cons (o_t 77 rfl) (.cons (o_t 78 rfl) .nil)) rfl rfl) rfl rfl hL fun a s e_ hL => ?_
        refine st 80 (t_move (o_t 79 rfl) rfl rfl) rfl rfl hL fun a s e_ hL => ?_
        refine st 81 (t_g1 rfl rfl rfl (fun hc_ => t_move (o_t 8 rfl) rfl rfl)) rfl rfl hL fun a s e_ hL => ?_
        refine st 82 (t_g1 rfl rfl rfl (fun hc_ => t_move (o_t 10 rfl) rfl rfl)) rfl rfl hL fun a s e_ hL => ?_
        refine st 83 (t_g1 rfl rfl rfl (fun hc_ => t_eqb (o_w hc_ 81 rfl) (o_w hc_ 82 rfl) Tryz.underlying4 rfl rfl)) rfl rfl hL fun a s e_ hL => ?_
        refine st 84 (t_and (o_t 80 rfl) (fun hc2_ => (o_w hc2_ 83 rfl)) rfl rfl) rfl rfl hL fun a s e_ hL => ?_
        refine st 6 (t_assign (o_t 84 rfl) rfl rfl) rfl rfl hL fun a s e_ hL => ?_
        refine en' ?_
        show K45 a s.w
        refine hK45 _ _ ?_
        subst h
        exact wp_ret (retq rfl hL rfl)
end Go.Proofs.YtdidjelkkanenaaGreatDoor.V
namespace Go.Proofs.YtdidjelkkanenaaGreatDoor.V
open Go
set_option linter.unusedVariables false
def Lv (d : List SNode) (s : List SItem) (l : List (List SItem)) : Prop := ∃ h, lv d h s = some l
theorem Lv.uniq {d : List SNode} {s : List SItem} {l m : List (List SItem)} (h : Lv d s l) (k : Lv d s m) : l = m := by
  obtain ⟨a, ha⟩ := h
  obtain ⟨b, hb⟩ := k
  have h1 := lv_mono (Nat.le_max_left a b) ha
  have h2 := lv_mono (Nat.le_max_right a b) hb
  rw [h1] at h2; exact Option.some.inj h2
theorem Lv.ready {d : List SNode} {s : List SItem} (h : rdy d s = true) : Lv d s [s] := ⟨1, by simp [lv, h]⟩
theorem lv_list {d : List SNode} : ∀ (ss : List (List SItem)) (f : List SItem → List (List SItem)), (∀ t ∈ ss, Lv d t (f t)) → ∃ h, ss.mapM (lv d h) = some (ss.map f)
  | [], _, _ => ⟨0, rfl⟩
  | s :: ss, f, hs => by
    obtain ⟨h1, e1⟩ := hs s (by simp)
    obtain ⟨h2, e2⟩ := lv_list ss f fun t ht => hs t (by simp [ht])
    refine ⟨max h1 h2, ?_⟩
    rw [List.mapM_cons, lv_mono (Nat.le_max_left h1 h2) e1, mapM_mono (fun a b hb => lv_mono (Nat.le_max_right h1 h2) hb) _ _ e2]; rfl
theorem Lv.open {d : List SNode} {s : List SItem} (hr : rdy d s = false) (f : List SItem → List (List SItem)) (h : ∀ t ∈ opn d s, Lv d t (f t)) : Lv d s ((opn d s).map f).flatten := by
  obtain ⟨k, e⟩ := lv_list _ f h
  exact ⟨k + 1, by unfold lv; rw [if_neg (by rw [hr]; simp), e]; rfl⟩
def PM (d : List SNode) : Nat → Int → List (List SItem) × Nat
  | 0, _ => ([], 0)
  | k + 1, i => match at? d i with
    | none => ([], 0)
    | some n =>
      if n.1 = 1 then ([], 1)
      else if n.1 = 3 then ([[(3, i, 0, 0)]], 0)
      else if n.1 = 4 then ((PM d k n.2.1).1.map (· ++ [(1, n.2.2.1, 0, 0)]) ++ (List.replicate (PM d k n.2.1).2 (PM d k n.2.2.1).1).flatten, (PM d k n.2.1).2 * (PM d k n.2.2.1).2)
      else if n.1 = 5 then ((PM d k n.2.1).1 ++ (PM d k n.2.2.1).1, (PM d k n.2.1).2 + (PM d k n.2.2.1).2)
      else if n.1 = 6 then ((PM d k n.2.1).1.map (· ++ [(1, i, 0, 0)]), 1)
      else if n.1 = 7 then (if 0 < n.2.2.2.2.1 then (PM d k n.2.1).1.map (· ++ [(2, i, max (n.2.2.2.1 - 1) 0, n.2.2.2.2.1 - 1)]) else [], if n.2.2.2.1 = 0 then 1 else 0)
      else ([[(1, i, 0, 0)]], 0)
theorem PM_fuel {d : List SNode} (hd : ROk d) : ∀ (k k' : Nat) (i : Int), i < (k : Int) → i < (k' : Int) → PM d k i = PM d k' i
  | 0, k', i, h, h' => by
    cases k' with
    | zero => rfl
    | succ k' =>
      have : at? d i = none := by
        unfold at?
        rw [if_neg (by omega)]
      simp [PM, this]
  | k + 1, 0, i, h, h' => by
    have : at? d i = none := by
      unfold at?
      rw [if_neg (by omega)]
    simp [PM, this]
  | k + 1, k' + 1, i, h, h' => by
    cases hn : at? d i with
    | none => simp only [PM, hn]
    | some n =>
      simp only [PM, hn]
      by_cases h1 : n.1 = 1
      · simp [h1]
      · by_cases h3 : n.1 = 3
        · simp [h3]
        · by_cases h4 : n.1 = 4
          · obtain ⟨⟨a, b⟩, c, e⟩ := hd.two _ n hn (.inl h4)
            rw [PM_fuel hd k k' n.2.1 (by omega) (by omega), PM_fuel hd k k' n.2.2.1 (by omega) (by omega)]
          · by_cases h5 : n.1 = 5
            · obtain ⟨⟨a, b⟩, c, e⟩ := hd.two _ n hn (.inr h5)
              rw [PM_fuel hd k k' n.2.1 (by omega) (by omega), PM_fuel hd k k' n.2.2.1 (by omega) (by omega)]
            · by_cases h6 : n.1 = 6
              · obtain ⟨a, b⟩ := hd.one _ n hn (.inl h6)
                rw [PM_fuel hd k k' n.2.1 (by omega) (by omega)]
                simp [h6]
              · by_cases h7 : n.1 = 7
                · obtain ⟨a, b⟩ := hd.one _ n hn (.inr (.inl h7))
                  rw [PM_fuel hd k k' n.2.1 (by omega) (by omega)]
                  simp [h7]
                · simp [h1, h3, h4, h5, h6, h7]
def pm (d : List SNode) (i : Int) : List (List SItem) := (PM d d.length i).1
def nw (d : List SNode) (i : Int) : Nat := (PM d d.length i).2
theorem PM_at {d : List SNode} (hd : ROk d) {i : Int} {n : SNode} (hn : at? d i = some n) : PM d d.length i =
    (if n.1 = 1 then ([], 1)
      else if n.1 = 3 then ([[(3, i, 0, 0)]], 0)
      else if n.1 = 4 then ((pm d n.2.1).map (· ++ [(1, n.2.2.1, 0, 0)]) ++ (List.replicate (nw d n.2.1) (pm d n.2.2.1)).flatten, nw d n.2.1 * nw d n.2.2.1)
      else if n.1 = 5 then (pm d n.2.1 ++ pm d n.2.2.1, nw d n.2.1 + nw d n.2.2.1)
      else if n.1 = 6 then ((pm d n.2.1).map (· ++ [(1, i, 0, 0)]), 1)
      else if n.1 = 7 then (if 0 < n.2.2.2.2.1 then (pm d n.2.1).map (· ++ [(2, i, max (n.2.2.2.1 - 1) 0, n.2.2.2.2.1 - 1)]) else [], if n.2.2.2.1 = 0 then 1 else 0)
      else ([[(1, i, 0, 0)]], 0)) := by
  obtain ⟨hb0, hb1⟩ := at_bound hn
  rw [PM_fuel hd d.length (d.length + 1) i hb1 (by omega)]
  simp only [PM, hn, pm, nw]
theorem nw_zero {d : List SNode} (hd : ROk d) : ∀ (k : Nat) (i : Int) (n : SNode), i < (k : Int) → at? d i = some n → (nw d i ≠ 0 ↔ nz d i = true)
  | 0, i, n, hi, hn => by have := at_bound hn; omega
  | k + 1, i, n, hi, hn => by
    have e := PM_at hd hn
    have en : nw d i = (PM d d.length i).2 := rfl
    rw [en, e, nz_at hd hn]
    by_cases h1 : n.1 = 1
    · simp [h1]
    · by_cases h3 : n.1 = 3
      · simp [h3]
      · by_cases h4 : n.1 = 4
        · obtain ⟨⟨a, b⟩, c, e⟩ := hd.two _ n hn (.inl h4)
          obtain ⟨m1, hm1⟩ := at_lt hn a b
          obtain ⟨m2, hm2⟩ := at_lt hn c e
          have i1 := nw_zero hd k _ m1 (by omega) hm1
          have i2 := nw_zero hd k _ m2 (by omega) hm2
          rw [if_neg h1, if_neg h3, if_pos h4, if_neg h1, if_pos h4, Bool.and_eq_true, ← i1, ← i2]
          simp only
          rw [Nat.mul_ne_zero_iff]
        · by_cases h5 : n.1 = 5
          · obtain ⟨⟨a, b⟩, c, e⟩ := hd.two _ n hn (.inr h5)
            obtain ⟨m1, hm1⟩ := at_lt hn a b
            obtain ⟨m2, hm2⟩ := at_lt hn c e
            have i1 := nw_zero hd k _ m1 (by omega) hm1
            have i2 := nw_zero hd k _ m2 (by omega) hm2
            rw [if_neg h1, if_neg h3, if_neg h4, if_pos h5, if_neg h1, if_neg h4, if_pos h5, Bool.or_eq_true, ← i1, ← i2]
            simp only
            omega
          · by_cases h6 : n.1 = 6
            · simp [h6]
            · by_cases h7 : n.1 = 7
              · by_cases h0 : n.2.2.2.1 = 0 <;> simp [h7, h0]
              · simp [h1, h3, h4, h5, h6, h7]
def pmI (d : List SNode) (x : SItem) : List (List SItem) :=
  if x.1 = 1 then pm d x.2.1
  else if x.1 = 2 then (match at? d x.2.1 with | some n => if 0 < x.2.2.2 then (pm d n.2.1).map (· ++ [(2, x.2.1, max (x.2.2.1 - 1) 0, x.2.2.2 - 1)]) else [] | none => [])
  else if x.1 = 5 then [] else [[x]]
def nwI (d : List SNode) (x : SItem) : Nat :=
  if x.1 = 1 then nw d x.2.1 else if x.1 = 2 then (if x.2.2.1 = 0 then 1 else 0) else if x.1 = 5 then (if x.2.2.1 = 0 then 1 else 0) else 0
abbrev Told (d : List SNode) (P : List (List SItem)) (m : Nat) (rest : List SItem) (s : List SItem) : Prop :=
  ∀ lr, (m ≠ 0 → Lv d rest lr) → ∃ l, Lv d s l ∧ l.Perm (P.map (· ++ rest) ++ (List.replicate m lr).flatten)
theorem perm_flat {α : Type} {a b : List α} (h : a.Perm b) (m : Nat) : (List.replicate m a).flatten.Perm (List.replicate m b).flatten := by
  induction m with
  | zero => exact .refl _
  | succ m ih =>
    rw [List.replicate_succ, List.replicate_succ, List.flatten_cons, List.flatten_cons]
    exact h.append ih
theorem rep_split {α : Type} (m : Nat) (a b : List α) : (List.replicate m (a ++ b)).flatten.Perm ((List.replicate m a).flatten ++ (List.replicate m b).flatten) := by
  induction m with
  | zero => exact .refl _
  | succ m ih =>
    simp only [List.replicate_succ, List.flatten_cons]
    refine (ih.append_left (a ++ b)).trans ?_
    rw [List.append_assoc, List.append_assoc]
    refine List.Perm.append_left a ?_
    rw [← List.append_assoc, ← List.append_assoc]
    exact (List.perm_append_comm).append_right _
theorem rep_rep {α : Type} (m k : Nat) (a : List α) : (List.replicate m (List.replicate k a).flatten).flatten = (List.replicate (m * k) a).flatten := by
  induction m with
  | zero => simp
  | succ m ih => rw [List.replicate_succ, List.flatten_cons, ih, Nat.succ_mul, Nat.add_comm, ← List.replicate_append_replicate, List.flatten_append]
theorem rep_map {α β : Type} (f : α → β) (m : Nat) (a : List α) : ((List.replicate m a).flatten).map f = (List.replicate m (a.map f)).flatten := by
  rw [List.map_flatten, List.map_replicate]
theorem told_seq {d : List SNode} {P1 P2 : List (List SItem)} {m1 m2 : Nat} {b : SItem} {rest s : List SItem} (h1 : Told d P1 m1 (b :: rest) s) (h2 : Told d P2 m2 rest (b :: rest)) : Told d (P1.map (· ++ [b]) ++ (List.replicate m1 P2).flatten) (m1 * m2) rest s := by
  intro lr hlr
  have key : ∃ lb, (m1 ≠ 0 → Lv d (b :: rest) lb ∧ lb.Perm (P2.map (· ++ rest) ++ (List.replicate m2 lr).flatten)) := by
    by_cases h : m1 = 0
    · exact ⟨[], fun k => absurd h k⟩
    · obtain ⟨lb, k1, k2⟩ := h2 lr fun k => hlr (Nat.mul_ne_zero h k)
      exact ⟨lb, fun _ => ⟨k1, k2⟩⟩
  obtain ⟨lb, hlb⟩ := key
  obtain ⟨l, k1, k2⟩ := h1 lb fun k => (hlb k).1
  refine ⟨l, k1, k2.trans ?_⟩
  have e1 : P1.map (· ++ b :: rest) = (P1.map (· ++ [b])).map (· ++ rest) := by
    rw [List.map_map]
    apply List.map_congr_left
    intro p _
    simp
  rw [e1, List.map_append, List.append_assoc]
  refine List.Perm.append_left _ ?_
  by_cases h : m1 = 0
  · subst h; simp
  · refine (perm_flat (hlb h).2 m1).trans ?_
    refine (rep_split m1 _ _).trans ?_
    rw [rep_map, rep_rep]
theorem lv_one {d : List SNode} {s t : List SItem} (hr : rdy d s = false) (ho : opn d s = [t]) {l : List (List SItem)} (h : Lv d t l) : Lv d s l := by
  have := Lv.open hr (fun _ => l) (fun x hx => by rw [ho] at hx; rw [List.mem_singleton.1 hx]; exact h)
  rw [ho] at this
  simpa using this
theorem lv_two {d : List SNode} {s t u : List SItem} (hr : rdy d s = false) (ho : opn d s = [t, u]) {l m : List (List SItem)} (h : Lv d t l) (k : Lv d u m) : Lv d s (l ++ m) := by
  by_cases htu : t = u
  · subst htu
    rw [k.uniq h]
    have := Lv.open hr (fun _ => l) (fun x hx => by rw [ho] at hx; simp at hx; rw [hx]; exact h)
    rw [ho] at this
    simpa using this
  · have := Lv.open hr (fun x => if x = t then l else m) (fun x hx => by
      rw [ho] at hx
      simp only [List.mem_cons, List.not_mem_nil, or_false] at hx
      rcases hx with rfl | rfl
      · simp; exact h
      · simp [Ne.symm htu]; exact k)
    rw [ho] at this
    simpa [Ne.symm htu] using this
theorem lv_none {d : List SNode} {s : List SItem} (hr : rdy d s = false) (ho : opn d s = []) : Lv d s [] := by
  have := Lv.open hr (fun _ => []) (fun x hx => by rw [ho] at hx; cases hx)
  rw [ho] at this
  simpa using this
theorem told_rep {d : List SNode} (hd : ROk d) {i : Int} {n : SNode} (hn : at? d i = some n) (h7 : n.1 = 7) (hA : ∀ rest, Told d (pm d n.2.1) 0 rest ((1, n.2.1, 0, 0) :: rest)) (lo hi : Int) (rest : List SItem) :
    Told d (if 0 < hi then (pm d n.2.1).map (· ++ [(2, i, max (lo - 1) 0, hi - 1)]) else []) (if lo = 0 then 1 else 0) rest ((2, i, lo, hi) :: rest) := by
  intro lr hlr
  have hr : rdy d ((2, i, lo, hi) :: rest) = false := by simp [rdy]
  have ho : opn d ((2, i, lo, hi) :: rest) = (if lo = 0 then [rest] else []) ++ (if 0 < hi then [(1, n.2.1, 0, 0) :: (2, i, max (lo - 1) 0, hi - 1) :: rest] else []) := by
    simp only [opn, hn]
    rw [if_neg (by decide), if_pos trivial]
  obtain ⟨la, ha, hpa⟩ := hA ((2, i, max (lo - 1) 0, hi - 1) :: rest) [] (fun h => absurd rfl h)
  have e1 : (pm d n.2.1).map (· ++ (2, i, max (lo - 1) 0, hi - 1) :: rest) = ((pm d n.2.1).map (· ++ [(2, i, max (lo - 1) 0, hi - 1)])).map (· ++ rest) := by
    rw [List.map_map]
    apply List.map_congr_left
    intro p _
    simp
  rw [e1] at hpa
  simp only [List.replicate_zero, List.flatten_nil, List.append_nil] at hpa
  by_cases h0 : lo = 0
  · have hL := hlr (by simp [h0])
    by_cases h1 : 0 < hi
    · refine ⟨_, lv_two hr (by rw [ho, if_pos h0, if_pos h1]; rfl) hL ha, ?_⟩
      rw [if_pos h1, if_pos h0]
      simp only [List.replicate_one, List.flatten_cons, List.flatten_nil, List.append_nil]
      exact (List.perm_append_comm).trans (hpa.append_right _)
    · refine ⟨_, lv_one hr (by rw [ho, if_pos h0, if_neg h1]; rfl) hL, ?_⟩
      rw [if_neg h1, if_pos h0]; simp
  · by_cases h1 : 0 < hi
    · refine ⟨_, lv_one hr (by rw [ho, if_neg h0, if_pos h1]; rfl) ha, ?_⟩
      rw [if_pos h1, if_neg h0]; simpa using hpa
    · refine ⟨_, lv_none hr (by rw [ho, if_neg h0, if_neg h1]; rfl), ?_⟩
      rw [if_neg h1, if_neg h0]; simp
theorem told_node {d : List SNode} (hd : ROk d) : ∀ (k : Nat) (i : Int) (n : SNode), i < (k : Int) → at? d i = some n → ∀ rest, Told d (pm d i) (nw d i) rest ((1, i, 0, 0) :: rest)
  | 0, i, n, hi, hn, _ => by have := at_bound hn; omega
  | k + 1, i, n, hi, hn, rest => by
    have ih := told_node hd k
    have e := PM_at hd hn
    have ep : pm d i = (PM d d.length i).1 := rfl
    have en : nw d i = (PM d d.length i).2 := rfl
    rw [ep, en, e]
    have hk9 := hd.kind _ n hn
    have rd0 : (n.1 ≠ 2 ∧ n.1 ≠ 8 ∧ n.1 ≠ 9) → rdy d ((1, i, 0, 0) :: rest) = false := fun h => by
      simp only [rdy, hn]
      simp [h.1, h.2.1, h.2.2]
    have op0 : opn d ((1, i, 0, 0) :: rest) = (if n.1 = 1 then [rest] else if n.1 = 3 then [(3, i, 0, 0) :: rest] else if n.1 = 4 then [(1, n.2.1, 0, 0) :: (1, n.2.2.1, 0, 0) :: rest] else if n.1 = 5 then [(1, n.2.1, 0, 0) :: rest, (1, n.2.2.1, 0, 0) :: rest]
        else if n.1 = 6 then [rest, (1, n.2.1, 0, 0) :: (1, i, 0, 0) :: rest] else [(2, i, n.2.2.2.1, n.2.2.2.2.1) :: rest]) := by
      simp only [opn, hn]
      rw [if_neg (by decide), if_neg (by decide)]
    have z0 : ∀ a : Int, 0 ≤ a → a < i → nz d a = false → nw d a = 0 := fun a h0 h1 hz => by
      obtain ⟨m, hm⟩ := at_lt hn h0 h1
      rcases Nat.eq_zero_or_pos (nw d a) with h | h
      · exact h
      · have := (nw_zero hd k a m (by omega) hm).1 (by omega)
        rw [hz] at this; cases this
    by_cases h1 : n.1 = 1
    · rw [if_pos h1]
      intro lr hlr
      refine ⟨lr, lv_one (rd0 (by omega)) (by rw [op0, if_pos h1]) (hlr (by simp)), by simp⟩
    · rw [if_neg h1] at op0 ⊢
      by_cases h3 : n.1 = 3
      · rw [if_pos h3] at op0 ⊢
        intro lr hlr
        exact ⟨_, lv_one (rd0 (by omega)) op0 (Lv.ready (by simp [rdy])), by simp⟩
      · rw [if_neg h3] at op0 ⊢
        by_cases h4 : n.1 = 4
        · rw [if_pos h4] at op0 ⊢
          obtain ⟨⟨a, b⟩, c, e⟩ := hd.two _ n hn (.inl h4)
          obtain ⟨m1, hm1⟩ := at_lt hn a b
          obtain ⟨m2, hm2⟩ := at_lt hn c e
          have := told_seq (ih _ m1 (by omega) hm1 ((1, n.2.2.1, 0, 0) :: rest)) (ih _ m2 (by omega) hm2 rest)
          intro lr hlr
          obtain ⟨l, k1, k2⟩ := this lr hlr
          exact ⟨l, lv_one (rd0 (by omega)) op0 k1, k2⟩
        · rw [if_neg h4] at op0 ⊢
          by_cases h5 : n.1 = 5
          · rw [if_pos h5] at op0 ⊢
            obtain ⟨⟨a, b⟩, c, e⟩ := hd.two _ n hn (.inr h5)
            obtain ⟨m1, hm1⟩ := at_lt hn a b
            obtain ⟨m2, hm2⟩ := at_lt hn c e
            intro lr hlr
            simp only at hlr
            obtain ⟨l1, k1, k2⟩ := ih _ m1 (by omega) hm1 rest lr fun h => hlr (by omega)
            obtain ⟨l2, k3, k4⟩ := ih _ m2 (by omega) hm2 rest lr fun h => hlr (by omega)
            refine ⟨_, lv_two (rd0 (by omega)) op0 k1 k3, (k2.append k4).trans ?_⟩
            rw [List.map_append, ← List.replicate_append_replicate, List.flatten_append, List.append_assoc, List.append_assoc]
            refine List.Perm.append_left _ ?_
            rw [← List.append_assoc, ← List.append_assoc]
            exact (List.perm_append_comm).append_right _
          · rw [if_neg h5] at op0 ⊢
            by_cases h6 : n.1 = 6
            · rw [if_pos h6] at op0 ⊢
              obtain ⟨a, b⟩ := hd.one _ n hn (.inl h6)
              obtain ⟨m1, hm1⟩ := at_lt hn a b
              have hz := z0 _ a b (hd.nn _ n hn (.inl h6))
              intro lr hlr
              have hA := ih _ m1 (by omega) hm1 ((1, i, 0, 0) :: rest) [] (fun h => absurd hz h)
              obtain ⟨l1, k1, k2⟩ := hA
              refine ⟨_, lv_two (rd0 (by omega)) op0 (hlr (by simp)) k1, ?_⟩
              rw [hz] at k2
              have e1 : (pm d n.2.1).map (· ++ (1, i, 0, 0) :: rest) = ((pm d n.2.1).map (· ++ [(1, i, 0, 0)])).map (· ++ rest) := by
                rw [List.map_map]
                apply List.map_congr_left
                intro p _
                simp
              rw [e1] at k2
              simp only [List.replicate_zero, List.flatten_nil, List.append_nil] at k2
              simp only [List.replicate_one, List.flatten_cons, List.flatten_nil, List.append_nil]
              exact (List.perm_append_comm).trans (k2.append_right _)
            · rw [if_neg h6] at op0 ⊢
              by_cases h7 : n.1 = 7
              · rw [if_pos h7]
                obtain ⟨a, b⟩ := hd.one _ n hn (.inr (.inl h7))
                obtain ⟨m1, hm1⟩ := at_lt hn a b
                have hz := z0 _ a b (hd.nn _ n hn (.inr h7))
                have := told_rep hd hn h7 (fun rest => by have := ih _ m1 (by omega) hm1 rest; rw [hz] at this; exact this) n.2.2.2.1 n.2.2.2.2.1 rest
                intro lr hlr
                obtain ⟨l, k1, k2⟩ := this lr hlr
                exact ⟨l, lv_one (rd0 (by omega)) op0 k1, k2⟩
              · rw [if_neg h7]
                intro lr hlr
                refine ⟨_, Lv.ready ?_, by simp⟩
                simp only [rdy, hn]
                have : n.1 = 2 ∨ n.1 = 8 ∨ n.1 = 9 := by omega
                rcases this with h | h | h <;> simp [h]
theorem told_item {d : List SNode} (hd : ROk d) {x : SItem} (hx : formI d x = true) (rest : List SItem) : Told d (pmI d x) (nwI d x) rest (x :: rest) := by
  by_cases h5 : x.1 = 5
  · have e1 : pmI d x = [] := by simp [pmI, h5]
    have e2 : nwI d x = if x.2.2.1 = 0 then 1 else 0 := by simp [nwI, h5]
    rw [e1, e2]
    intro lr hlr
    have hr : rdy d (x :: rest) = false := by simp [rdy, h5]
    by_cases h0 : x.2.2.1 = 0
    · rw [if_pos h0] at hlr ⊢
      refine ⟨lr, lv_one hr (by simp [opn, h5, h0]) (hlr (by simp)), by simp⟩
    · rw [if_neg h0]
      exact ⟨_, lv_none hr (by simp [opn, h5, h0]), by simp⟩
  · obtain ⟨n, hn, hk⟩ := form_node hx h5
    rcases hk with h1 | ⟨h2, h7⟩ | ⟨h3, _⟩ | ⟨h4, _⟩
    · have e : x = (1, x.2.1, 0, 0) := by
        unfold formI at hx
        rw [if_neg h5, hn] at hx
        simp [h1] at hx
        obtain ⟨a, b, c, e⟩ := x
        simp only at h1 hx
        rw [h1, hx.1, hx.2]
      have e1 : pmI d x = pm d x.2.1 := by simp [pmI, h1]
      have e2 : nwI d x = nw d x.2.1 := by simp [nwI, h1]
      have := at_bound hn
      rw [e1, e2]
      have ht := told_node hd d.length _ n (by omega) hn rest
      rw [← e] at ht
      exact ht
    · have e1 : pmI d x = if 0 < x.2.2.2 then (pm d n.2.1).map (· ++ [(2, x.2.1, max (x.2.2.1 - 1) 0, x.2.2.2 - 1)]) else [] := by simp [pmI, h2, hn]
      have e2 : nwI d x = if x.2.2.1 = 0 then 1 else 0 := by simp [nwI, h2]
      rw [e1, e2]
      obtain ⟨a, b⟩ := hd.one _ n hn (.inr (.inl h7))
      obtain ⟨m1, hm1⟩ := at_lt hn a b
      have hb := at_bound hn
      have hz : nw d n.2.1 = 0 := by
        rcases Nat.eq_zero_or_pos (nw d n.2.1) with h | h
        · exact h
        · have := (nw_zero hd d.length _ m1 (by omega) hm1).1 (by omega)
          rw [hd.nn _ n hn (.inr h7)] at this; cases this
      have := told_rep hd hn h7 (fun rest => by have := told_node hd d.length _ m1 (by omega) hm1 rest; rw [hz] at this; exact this) x.2.2.1 x.2.2.2 rest
      obtain ⟨xk, xi, xl, xh⟩ := x
      simp only at h2
      subst h2
      exact this
    · have e1 : pmI d x = [[x]] := by simp [pmI, h3]
      have e2 : nwI d x = 0 := by simp [nwI, h3]
      rw [e1, e2]
      intro lr _
      exact ⟨_, Lv.ready (by simp [rdy, h3]), by simp⟩
    · have e1 : pmI d x = [[x]] := by simp [pmI, h4]
      have e2 : nwI d x = 0 := by simp [nwI, h4]
      rw [e1, e2]
      intro lr _
      exact ⟨_, Lv.ready (by simp [rdy, h4]), by simp⟩
def hds (d : List SNode) : List SItem → List (List SItem)
  | [] => [[]]
  | x :: rest => (pmI d x).map (· ++ rest) ++ (List.replicate (nwI d x) (hds d rest)).flatten
theorem hds_lv {d : List SNode} (hd : ROk d) : ∀ (s : List SItem), formS d s = true → ∃ l, Lv d s l ∧ l.Perm (hds d s)
  | [], _ => ⟨[[]], Lv.ready rfl, .refl _⟩
  | x :: rest, hf => by
    obtain ⟨h1, h2⟩ := form_cons hf
    obtain ⟨lr, k1, k2⟩ := hds_lv hd rest h2
    obtain ⟨l, k3, k4⟩ := told_item hd h1 rest lr fun _ => k1
    exact ⟨l, k3, k4.trans (List.Perm.append_left _ (perm_flat k2 _))⟩
end Go.Proofs.YtdidjelkkanenaaGreatDoor.V
namespace Go.Proofs.YtdidjelkkanenaaGreatDoor.V
open Go
set_option linter.unusedVariables false
theorem exl {ρ : Type} {γ : Sort _} {P : γ → ρ → Prop} (c : γ) (h : ∃ r, P c r) : ∃ r, ∃ c, P c r := let ⟨r, h⟩ := h; ⟨r, c, h⟩
theorem andl {ρ : Type} {A : Prop} {B : ρ → Prop} (a : A) (h : ∃ r, B r) : ∃ r, A ∧ B r := let ⟨r, h⟩ := h; ⟨r, a, h⟩
theorem pick {ρ : Type} [Inhabited ρ] {b : Bool} {X Y : ρ → Prop} (h1 : b = true → ∃ r, X r) (h2 : b = false → ∃ r, Y r) : ∃ r, (b = true → X r) ∧ (b = false → Y r) := by
  cases b
  · obtain ⟨r, h⟩ := h2 rfl
    exact ⟨r, (fun h => by cases h), fun _ => h⟩
  · obtain ⟨r, h⟩ := h1 rfl
    exact ⟨r, fun _ => h, (fun h => by cases h)⟩
def sumT (l : List SNode) : Nat := (l.map fun n => n.2.2.2.2.2.2.length).sum
theorem sumT_le {l : List SNode} (h : ∀ n ∈ l, n.2.2.2.2.2.2.length ≤ 140737488351232) : sumT l ≤ l.length * 140737488351232 := by
  induction l with
  | nil => simp [sumT]
  | cons x l ih =>
    have h1 := h x (by simp)
    have h2 := ih fun n hn => h n (by simp [hn])
    simp only [sumT, List.map_cons, List.sum_cons, List.length_cons] at h2 ⊢
    omega
theorem few_ex {d : List SNode} (ht : ∀ n ∈ d, n.2.2.2.2.2.2.length ≤ 140737488351232) : ∃ r, ref04_Few d r ∧ (r = true → d.length ≤ 100) := by
  refine ⟨decide ((d.length : Int) ≤ 100) && decide (((sumT (d.take (min d.length 200)) : Nat) : Int) ≤ 2000), ?_, fun h => ?_⟩
  · refine upto (P := fun k (s : Int) v => ref04_Few.l1 d _ k s v) (min d.length 200) (fun i s => s = ((sumT (d.take i) : Nat) : Int)) ?_ ?_ _ (by simp [sumT])
    · rintro i s hi rfl
      have hd : i < d.length := by omega
      have h1 := sumT_le (l := d.take i) fun n hn => ht n (List.mem_of_mem_take hn)
      have h2 := ht _ (List.getElem_mem hd)
      have h3 : (d.take i).length = i := by simp; omega
      rw [h3] at h1
      have h4 : i * 140737488351232 ≤ 200 * 140737488351232 := Nat.mul_le_mul_right _ (by omega)
      have e : sumT (d.take (i + 1)) = sumT (d.take i) + d[i].2.2.2.2.2.2.length := by
        unfold sumT
        rw [List.take_succ_eq_append_getElem hd, List.map_append, List.sum_append]
        simp only [List.map_cons, List.map_nil, List.sum_cons, List.sum_nil, Nat.add_zero]
      refine .inr ⟨_, rfl, fun k h => ⟨true, by simp; omega, fun _ => ⟨d[i], by rw [at_nat]; simp [hd], i64_of (by omega) (by omega), i64_of (by omega) (by omega), ?_⟩, (fun h => by cases h)⟩⟩
      rw [e] at h
      simpa using h
    · rintro s rfl k
      exact ⟨false, by simp; omega, (fun h => by cases h), fun _ => ⟨_, rfl, rfl⟩⟩
  · simp only [Bool.and_eq_true, decide_eq_true_eq] at h
    omega
theorem byte_in {s : Str} {i : Int} (h0 : 0 ≤ i) (h1 : i < (s.length : Int)) : ∃ c, byte? s i = some c := by
  obtain ⟨x, hx, _⟩ := at_in h0 h1
  exact ⟨_, by unfold byte?; rw [hx]; rfl⟩
theorem in_ex (s : Str) {i : Int} (f t : Int) (h0 : 0 ≤ i) : ∃ r, ref03_in s i f t r := by
  by_cases h1 : i < (s.length : Int)
  · obtain ⟨c, hc⟩ := byte_in h0 h1
    exact ⟨_, c, fun _ => hc, _, rfl, c, fun _ => hc, rfl⟩
  · exact ⟨_, 0, fun h => absurd (dt h) h1, _, rfl, 0, fun h => absurd h (by simp [h1]), rfl⟩
theorem utf8_ex {s : Str} (hl : s.length ≤ 140737488351232) : ∃ r, ref03_Utf8 s r := by
  have key : ∀ (m : Nat) (i : Int), 0 ≤ i → (s.length : Int) + 4 - i ≤ m → i ≤ (s.length : Int) + 4 → ∃ q : Bool × Nat, ref03_Utf8.l1 s q.1 (ref03_Utf8.j1 q.1) q.2 i := by
    intro m
    induction m with
    | zero =>
      intro i h0 h1 h2
      exact ⟨(true, 1), fun h => absurd (dt h) (by omega), fun _ => rfl⟩
    | succ m ih =>
      intro i h0 h1 h2
      suffices h : ∃ q : Bool × Nat, ref03_Utf8.l1 s q.1 (ref03_Utf8.j1 q.1) (q.2 + 1) i by
        obtain ⟨q, hq⟩ := h
        exact ⟨(q.1, q.2 + 1), hq⟩
      unfold ref03_Utf8.l1
      refine pick (fun hd => ?_) (fun hd => ⟨(true, 0), rfl⟩)
      have hlt := dt hd
      obtain ⟨c, hc⟩ := byte_in h0 hlt
      obtain ⟨r17, h17⟩ := in_ex s (i := i + 1) 128 191 (by omega)
      obtain ⟨r21, h21⟩ := in_ex s (i := i + 2) 128 191 (by omega)
      obtain ⟨r25, h25⟩ := in_ex s (i := i + 3) 128 191 (by omega)
      obtain ⟨r35, h35⟩ := in_ex s (i := i + 1) 160 191 (by omega)
      obtain ⟨r44, h44⟩ := in_ex s (i := i + 1) 128 159 (by omega)
      obtain ⟨r49, h49⟩ := in_ex s (i := i + 1) 144 191 (by omega)
      obtain ⟨r58, h58⟩ := in_ex s (i := i + 1) 128 143 (by omega)
      have i1 : InR .i64 (i + 1) := i64_of (by omega) (by omega)
      have i2 : InR .i64 (i + 2) := i64_of (by omega) (by omega)
      have i3 : InR .i64 (i + 3) := i64_of (by omega) (by omega)
      have i4 : InR .i64 (i + 4) := i64_of (by omega) (by omega)
      have g1 := ih (i + 1) (by omega) (by omega) (by omega)
      have g2 := ih (i + 2) (by omega) (by omega) (by omega)
      have g3 := ih (i + 3) (by omega) (by omega) (by omega)
      have g4 := ih (i + 4) (by omega) (by omega) (by omega)
      refine exl c (andl hc (andl i1 (exl r17 (andl h17 (andl i2 (exl r21 (andl h21 (andl i3 (exl r25 (andl h25 (pick (fun _ => andl i1 g1) (fun _ => ?_))))))))))))
      refine exl _ (andl rfl (pick (fun _ => andl i2 g2) (fun _ => ?_)))
      refine andl (fun _ => i1) (exl r35 (andl (fun _ => h35) (pick (fun _ => andl i3 g3) (fun _ => ?_))))
      refine exl _ (andl rfl (pick (fun _ => andl i3 g3) (fun _ => ?_)))
      refine andl (fun _ => i1) (exl r44 (andl (fun _ => h44) (pick (fun _ => andl i3 g3) (fun _ => ?_))))
      refine andl (fun _ => i1) (exl r49 (andl (fun _ => h49) (pick (fun _ => andl i4 g4) (fun _ => ?_))))
      refine exl _ (andl rfl (pick (fun _ => andl i4 g4) (fun _ => ?_)))
      refine andl (fun _ => i1) (exl r58 (andl (fun _ => h58) (pick (fun _ => andl i4 g4) (fun _ => ?_))))
      exact ⟨(false, 0), rfl⟩
  obtain ⟨q, hq⟩ := key (s.length + 4) 0 (by omega) (by omega) (by omega)
  exact ⟨q.1, q.2, hq⟩
theorem text_ex {s : Str} (hl : s.length ≤ 140737488351232) : ∃ r, ref04_text s r ∧ (r = true → s ≠ []) := by
  obtain ⟨u, hu⟩ := utf8_ex hl
  have tne : ∀ u : Bool, (decide (0 < (s.length : Int)) && u) = true → s ≠ [] := fun u h e => by subst e; simp at h
  have key : ∀ (m : Nat) (i : Int), 0 ≤ i → (s.length : Int) - i ≤ m → i ≤ (s.length : Int) → ∃ q : Bool × Nat, ref04_text.l1 s q.1 (ref04_text.j1 s q.1) q.2 i ∧ (q.1 = true → s ≠ []) := by
    intro m
    induction m with
    | zero =>
      intro i h0 h1 h2
      exact ⟨(decide (0 < (s.length : Int)) && u, 1), ⟨fun h => absurd (dt h) (by omega), fun _ => ⟨u, fun _ => hu, rfl⟩⟩, tne u⟩
    | succ m ih =>
      intro i h0 h1 h2
      by_cases hlt : i < (s.length : Int)
      · obtain ⟨c, hc⟩ := byte_in h0 hlt
        by_cases h34 : c = 34
        · exact ⟨(false, 1), ⟨fun _ => ⟨c, hc, fun _ => rfl, fun h => by simp [h34] at h⟩, fun h => absurd hlt (df h)⟩, (fun h => by cases h)⟩
        · obtain ⟨q, hq, hq2⟩ := ih (i + 1) (by omega) (by omega) (by omega)
          exact ⟨(q.1, q.2 + 1), ⟨fun _ => ⟨c, hc, fun h => by simp at h; exact absurd h h34, fun _ => ⟨i64_of (by omega) (by omega), hq⟩⟩, fun h => absurd hlt (df h)⟩, hq2⟩
      · exact ⟨(decide (0 < (s.length : Int)) && u, 1), ⟨fun h => absurd (dt h) hlt, fun _ => ⟨u, fun _ => hu, rfl⟩⟩, tne u⟩
  obtain ⟨q, hq, hq2⟩ := key s.length 0 (by omega) (by omega) (by omega)
  exact ⟨q.1, ⟨q.2, hq⟩, hq2⟩
end Go.Proofs.YtdidjelkkanenaaGreatDoor.V
namespace Go.Proofs.YtdidjelkkanenaaGreatDoor.V
open Go
set_option linter.unusedVariables false
inductive Tr (l : List SNode) : Int → Int → Prop
  | leaf {i : Int} {e : SNode} (he : at? l i = some e) (hk : e.1 = 1 ∨ e.1 = 2 ∨ e.1 = 3) (hx : e.1 = 3 → e.2.2.2.2.2.2 ≠ []) (h0 : e.2.1 = 0 ∧ e.2.2.1 = 0) : Tr l i i
  | one {f i : Int} {e : SNode} (he : at? l i = some e) (hk : e.1 = 6 ∨ e.1 = 7 ∨ e.1 = 8 ∨ e.1 = 9) (ha : e.2.1 = i - 1) (hb : e.2.2.1 = 0) (hr : e.1 = 7 → 0 ≤ e.2.2.2.1 ∧ e.2.2.2.1 ≤ e.2.2.2.2.1 ∧ e.2.2.2.2.1 ≤ 255) (h : Tr l f (i - 1)) : Tr l f i
  | two {f p i : Int} {e : SNode} (he : at? l i = some e) (hk : e.1 = 4 ∨ e.1 = 5) (ha : e.2.1 = p - 1) (hb : e.2.2.1 = i - 1) (h1 : Tr l p (i - 1)) (h2 : Tr l f (p - 1)) : Tr l f i
theorem Tr.le {l : List SNode} {f i : Int} (h : Tr l f i) : 0 ≤ f ∧ f ≤ i := by
  induction h with
  | leaf he _ _ _ => exact ⟨(at_bound he).1, Int.le_refl _⟩
  | one _ _ _ _ _ _ ih => omega
  | two _ _ _ _ _ _ i1 i2 => omega
theorem Tr.lt {l : List SNode} {f i : Int} (h : Tr l f i) : i < (l.length : Int) := by
  cases h with
  | leaf he _ _ _ => exact (at_bound he).2
  | one he _ _ _ _ _ => exact (at_bound he).2
  | two he _ _ _ _ _ => exact (at_bound he).2
theorem Tr.sub {l : List SNode} {f i : Int} (h : Tr l f i) : ∀ k, f ≤ k → k ≤ i → ∃ g, Tr l g k ∧ f ≤ g := by
  induction h with
  | leaf he hk hx h0 =>
    rename_i i e
    intro k h1 h2
    obtain rfl : k = i := by omega
    exact ⟨k, .leaf he hk hx h0, Int.le_refl _⟩
  | one he hk ha hb hr h ih =>
    rename_i f i e
    intro k h1 h2
    by_cases hki : k = i
    · subst hki; exact ⟨f, .one he hk ha hb hr h, Int.le_refl _⟩
    · exact ih k h1 (by omega)
  | two he hk ha hb h1 h2 i1 i2 =>
    rename_i f p i e
    intro k k1 k2
    have l1 := h1.le
    have l2 := h2.le
    by_cases hki : k = i
    · subst hki; exact ⟨f, .two he hk ha hb h1 h2, Int.le_refl _⟩
    · by_cases hkp : p ≤ k
      · obtain ⟨g, g1, g2⟩ := i1 k hkp (by omega)
        exact ⟨g, g1, by omega⟩
      · exact i2 k k1 (by omega)
def FirstOk (l : List SNode) (i r : Int) : Prop := r = -1 ∨ Tr l r i
theorem first_ex {l : List SNode} (hl : l.length ≤ 1000) (ht : ∀ n ∈ l, n.2.2.2.2.2.2.length ≤ 140737488351232) : ∀ (m : Nat) (i : Int), i < (m : Int) → -1 ≤ i → i < (l.length : Int) → ∃ r, ref04_First.n (m + 1) l i r ∧ FirstOk l i r := by
  intro m
  induction m with
  | zero =>
    intro i h1 h2 h3
    exact ⟨-1, ⟨fun _ => rfl, fun h => absurd (by omega) (df h)⟩, .inl rfl⟩
  | succ m ih =>
    intro i h1 h2 h3
    by_cases h0 : i < 0
    · exact ⟨-1, ⟨fun _ => rfl, fun h => absurd h0 (df h)⟩, .inl rfl⟩
    · obtain ⟨e, he, hm⟩ := at_in (xs := l) (i := i) (by omega) h3
      have i1 : InR .i64 (i - 1) := i64_of (by omega) (by omega)
      obtain ⟨p, hp, hpo⟩ := ih (i - 1) (by omega) (by omega) (by omega)
      have one : ∀ w : SNode, (e = w → w.2.1 = i - 1 ∧ (w.1 = 6 ∨ w.1 = 7 ∨ w.1 = 8 ∨ w.1 = 9) ∧ (w.1 = 7 → 0 ≤ w.2.2.2.1 ∧ w.2.2.2.1 ≤ w.2.2.2.2.1 ∧ w.2.2.2.2.1 ≤ 255) ∧ w.2.2.1 = 0) → ∃ r, ref04_First.j1 (ref04_First.n (m + 1)) l i r e w ∧ FirstOk l i r := by
        intro w hw
        by_cases hew : e = w
        · refine ⟨p, ⟨i1, p, hp, fun h => by simp [hew] at h, fun _ => rfl⟩, ?_⟩
          rcases hpo with rfl | p0
          · exact .inl rfl
          · obtain ⟨w1, w2, w3, w4⟩ := hw hew
            exact .inr (.one he (by rw [hew]; exact w2) (by rw [hew]; exact w1) (by rw [hew]; exact w4) (by rw [hew]; exact w3) p0)
        · exact ⟨-1, ⟨i1, p, hp, fun _ => rfl, fun h => by simp at h; exact absurd h hew⟩, .inl rfl⟩
      have two : (e.1 = 4 ∨ e.1 = 5) → ∃ r, ref04_First.j2 (ref04_First.n (m + 1)) l i r e true ∧ FirstOk l i r := by
        intro hk
        by_cases hp0 : p < 0
        · exact ⟨-1, ⟨fun _ => ⟨i1, i1, p, hp, fun _ => rfl, fun h => absurd hp0 (df h)⟩, (fun h => by cases h)⟩, .inl rfl⟩
        · have htr : Tr l p (i - 1) := by
            rcases hpo with rfl | h
            · omega
            · exact h
          have p1 := htr.le
          obtain ⟨q, hq, hqo⟩ := ih (p - 1) (by omega) (by omega) (by omega)
          have j1 : InR .i64 (p - 1) := i64_of (by omega) (by omega)
          by_cases hew : e = (e.1, p - 1, i - 1, 0, 0, (0#256), ([] : Str))
          · refine ⟨q, ⟨fun _ => ⟨i1, i1, p, hp, fun h => absurd (dt h) hp0, fun _ => ⟨j1, j1, q, hq, false, ?_, (fun h => by cases h), fun _ => rfl⟩⟩, (fun h => by cases h)⟩, ?_⟩
            · have : (e != (e.1, p - 1, i - 1, 0, 0, (0#256), ([] : Str))) = false := by rw [← hew]; simp
              exact this.symm
            · rcases hqo with rfl | q0
              · exact .inl rfl
              · exact .inr (.two he hk (by rw [hew]) (by rw [hew]) htr q0)
          · refine ⟨-1, ⟨fun _ => ⟨i1, i1, p, hp, fun h => absurd (dt h) hp0, fun _ => ⟨j1, j1, q, hq, true, ?_, fun _ => rfl, (fun h => by cases h)⟩⟩, (fun h => by cases h)⟩, .inl rfl⟩
            exact (bne_iff_ne.2 hew).symm
      have three : (e.1 = 6 ∨ e.1 = 7 ∨ e.1 = 8 ∨ e.1 = 9) → ∃ r, ref04_First.j3 (ref04_First.n (m + 1)) l i r e true ∧ FirstOk l i r := by
        intro hk
        by_cases h7 : e.1 = 7
        · by_cases hb : ((decide (e.2.2.2.1 < 0)) || (decide (e.2.2.2.2.1 < e.2.2.2.1)) || (decide (255 < e.2.2.2.2.1))) = true
          · exact ⟨-1, ⟨fun _ => ⟨i1, fun _ => ⟨_, rfl, fun _ => rfl, fun h => by rw [hb] at h; cases h⟩, fun h => by simp [h7] at h⟩, (fun h => by cases h)⟩, .inl rfl⟩
          · obtain ⟨r, hr1, hr2⟩ := one (e.1, i - 1, 0, e.2.2.2.1, e.2.2.2.2.1, (0#256), ([] : Str)) fun _ => ⟨rfl, hk, fun _ => by
              simp only [Bool.or_eq_true, decide_eq_true_eq, not_or] at hb
              exact ⟨by show (0 : Int) ≤ e.2.2.2.1; omega, by show e.2.2.2.1 ≤ e.2.2.2.2.1; omega, by show e.2.2.2.2.1 ≤ 255; omega⟩, rfl⟩
            exact ⟨r, ⟨fun _ => ⟨i1, fun _ => ⟨_, rfl, fun h => absurd h hb, fun _ => hr1⟩, fun h => by simp [h7] at h⟩, (fun h => by cases h)⟩, hr2⟩
        · obtain ⟨r, hr1, hr2⟩ := one (e.1, i - 1, 0, 0, 0, (0#256), ([] : Str)) fun _ => ⟨rfl, hk, fun h => absurd h h7, rfl⟩
          exact ⟨r, ⟨fun _ => ⟨i1, fun h => by simp at h; exact absurd h h7, fun _ => hr1⟩, (fun h => by cases h)⟩, hr2⟩
      have ne : ∀ {a b : Int}, a ≠ b → (a == b) = true → False := fun h k => h (eq_of_beq k)
      have last : ∀ b : Bool, (b = true ↔ e.1 = 9) → e.1 ≠ 6 → e.1 ≠ 7 → e.1 ≠ 8 → ∃ r, ref04_First.j3 (ref04_First.n (m + 1)) l i r e b ∧ FirstOk l i r := by
        intro b hb n6 n7 n8
        cases b
        · have n9 : e.1 ≠ 9 := fun h => by have := hb.2 h; cases this
          by_cases h4 : e.1 = 4
          · obtain ⟨r, hr1, hr2⟩ := two (.inl h4)
            exact ⟨r, ⟨(fun h => by cases h), fun _ => ⟨fun h => by rw [h]; exact hr1, fun h => by simp [h4] at h⟩⟩, hr2⟩
          · by_cases h5 : e.1 = 5
            · obtain ⟨r, hr1, hr2⟩ := two (.inr h5)
              have e5 : (e.1 == 5) = true := by simp [h5]
              exact ⟨r, ⟨(fun h => by cases h), fun _ => ⟨fun h => by simp at h; exact absurd h h4, fun _ => by rw [e5]; exact hr1⟩⟩, hr2⟩
            · have e5 : (e.1 == 5) = false := by simp [h5]
              exact ⟨-1, ⟨(fun h => by cases h), fun _ => ⟨fun h => by simp at h; exact absurd h h4, fun _ => by rw [e5]; exact ⟨(fun h => by cases h), fun _ => rfl⟩⟩⟩, .inl rfl⟩
        · exact three (.inr (.inr (.inr (hb.1 rfl))))
      suffices h : ∃ r, (∃ e6 : SNode, at? l i = some e6 ∧ _) ∧ FirstOk l i r by
        obtain ⟨r, hr, ho⟩ := h
        exact ⟨r, ⟨fun h => absurd (dt h) h0, fun _ => hr⟩, ho⟩
      by_cases k1 : e.1 = 1
      · by_cases hw : e = (e.1, 0, 0, 0, 0, (0#256), ([] : Str))
        · exact ⟨i, ⟨e, he, fun _ => ⟨fun h => by rw [← hw] at h; simp at h, fun _ => rfl⟩, fun h => by simp [k1] at h⟩, .inr (.leaf he (.inl k1) (fun h => by omega) ⟨by rw [hw], by rw [hw]⟩)⟩
        · exact ⟨-1, ⟨e, he, fun _ => ⟨fun _ => rfl, fun h => by simp at h; exact absurd h hw⟩, fun h => by simp [k1] at h⟩, .inl rfl⟩
      · by_cases k2 : e.1 = 2
        · by_cases hw : e = (e.1, 0, 0, 0, 0, e.2.2.2.2.2.1, ([] : Str))
          · exact ⟨i, ⟨e, he, fun h => (ne k1 h).elim, fun _ => ⟨fun _ => ⟨false, by rw [← hw]; simp, (fun h => by cases h), fun _ => rfl⟩, fun h => by simp [k2] at h⟩⟩, .inr (.leaf he (.inr (.inl k2)) (fun h => by omega) ⟨by rw [hw], by rw [hw]⟩)⟩
          · exact ⟨-1, ⟨e, he, fun h => (ne k1 h).elim, fun _ => ⟨fun _ => ⟨true, (bne_iff_ne.2 hw).symm, fun _ => rfl, (fun h => by cases h)⟩, fun h => by simp [k2] at h⟩⟩, .inl rfl⟩
        · by_cases k3 : e.1 = 3
          · obtain ⟨t, htx, htn⟩ := text_ex (ht e hm)
            cases t
            · exact ⟨-1, ⟨e, he, fun h => (ne k1 h).elim, fun _ => ⟨fun h => (ne k2 h).elim, fun _ => ⟨fun _ => ⟨false, htx, fun _ => rfl, (fun h => by cases h)⟩, fun h => by simp [k3] at h⟩⟩⟩, .inl rfl⟩
            · by_cases hw : e = (e.1, 0, 0, 0, 0, (0#256), e.2.2.2.2.2.2)
              · exact ⟨i, ⟨e, he, fun h => (ne k1 h).elim, fun _ => ⟨fun h => (ne k2 h).elim, fun _ => ⟨fun _ => ⟨true, htx, (fun h => by cases h), fun _ => ⟨false, by rw [← hw]; simp, (fun h => by cases h), fun _ => rfl⟩⟩, fun h => by simp [k3] at h⟩⟩⟩, .inr (.leaf he (.inr (.inr k3)) (fun _ => htn rfl) ⟨by rw [hw], by rw [hw]⟩)⟩
              · exact ⟨-1, ⟨e, he, fun h => (ne k1 h).elim, fun _ => ⟨fun h => (ne k2 h).elim, fun _ => ⟨fun _ => ⟨true, htx, (fun h => by cases h), fun _ => ⟨true, (bne_iff_ne.2 hw).symm, fun _ => rfl, (fun h => by cases h)⟩⟩, fun h => by simp [k3] at h⟩⟩⟩, .inl rfl⟩
          · by_cases k6 : e.1 = 6
            · obtain ⟨r, hr1, hr2⟩ := three (.inl k6)
              exact ⟨r, ⟨e, he, fun h => (ne k1 h).elim, fun _ => ⟨fun h => (ne k2 h).elim, fun _ => ⟨fun h => (ne k3 h).elim, fun _ => ⟨fun h => by rw [h]; exact hr1, fun h => by simp [k6] at h⟩⟩⟩⟩, hr2⟩
            · by_cases k7 : e.1 = 7
              · obtain ⟨r, hr1, hr2⟩ := three (.inr (.inl k7))
                exact ⟨r, ⟨e, he, fun h => (ne k1 h).elim, fun _ => ⟨fun h => (ne k2 h).elim, fun _ => ⟨fun h => (ne k3 h).elim, fun _ => ⟨fun h => (ne k6 h).elim, fun _ => ⟨fun h => by rw [h]; exact hr1, fun h => by simp [k7] at h⟩⟩⟩⟩⟩, hr2⟩
              · by_cases k8 : e.1 = 8
                · obtain ⟨r, hr1, hr2⟩ := three (.inr (.inr (.inl k8)))
                  exact ⟨r, ⟨e, he, fun h => (ne k1 h).elim, fun _ => ⟨fun h => (ne k2 h).elim, fun _ => ⟨fun h => (ne k3 h).elim, fun _ => ⟨fun h => (ne k6 h).elim, fun _ => ⟨fun h => (ne k7 h).elim, fun _ => ⟨fun h => by rw [h]; exact hr1, fun h => by simp [k8] at h⟩⟩⟩⟩⟩⟩, hr2⟩
                · obtain ⟨r, hr1, hr2⟩ := last (e.1 == 9) beq_iff_eq k6 k7 k8
                  exact ⟨r, ⟨e, he, fun h => (ne k1 h).elim, fun _ => ⟨fun h => (ne k2 h).elim, fun _ => ⟨fun h => (ne k3 h).elim, fun _ => ⟨fun h => (ne k6 h).elim, fun _ => ⟨fun h => (ne k7 h).elim, fun _ => ⟨fun h => (ne k8 h).elim, fun _ => hr1⟩⟩⟩⟩⟩⟩, hr2⟩
theorem form_ex {d : List SNode} (hl : d.length ≤ 1000) (ht : ∀ n ∈ d, n.2.2.2.2.2.2.length ≤ 140737488351232) : ∃ r, ref04_Form d r ∧ (r = true → Tr d 0 ((d.length : Int) - 1)) := by
  obtain ⟨r, hr, ho⟩ := first_ex hl ht d.length ((d.length : Int) - 1) (by omega) (by omega) (by omega)
  refine ⟨_, ⟨fun _ => i64_of (by omega) (by omega), r, fun _ => ⟨_, hr⟩, rfl⟩, fun h => ?_⟩
  simp only [Bool.and_eq_true, decide_eq_true_eq, beq_iff_eq] at h
  rcases ho with rfl | h2
  · omega
  · rw [h.2] at h2; exact h2
def powW (a : Nat) (t : Nat) : Nat := if t = 0 then 1 else if a = 0 then 0 else if a = 1 then 1 else 2
theorem powW_le (a t : Nat) : powW a t ≤ 2 := by
  unfold powW
  split
  · omega
  · split
    · omega
    · split <;> omega
theorem powW_step {a : Nat} (ha : a ≤ 2) (t : Nat) : min 2 (powW a t * a) = powW a (t + 1) := by
  have : a = 0 ∨ a = 1 ∨ a = 2 := by omega
  unfold powW
  by_cases ht : t = 0
  · subst ht
    rcases this with rfl | rfl | rfl <;> simp
  · rcases this with rfl | rfl | rfl <;> simp [ht]
def sumW (a lo : Nat) : Nat → Nat
  | 0 => 0
  | m + 1 => min 2 (sumW a lo m + powW a (lo + m))
theorem sumW_le (a lo m : Nat) : sumW a lo m ≤ 2 := by
  cases m with
  | zero => simp [sumW]
  | succ m => simp only [sumW]; omega
theorem sumW_zero (a lo : Nat) : ∀ m, sumW a lo m ≠ 0 ↔ ∃ t, t < m ∧ powW a (lo + t) ≠ 0
  | 0 => by simp [sumW]
  | m + 1 => by
    have ih := sumW_zero a lo m
    simp only [sumW]
    constructor
    · intro h
      by_cases h1 : sumW a lo m ≠ 0
      · obtain ⟨t, h2, h3⟩ := ih.1 h1
        exact ⟨t, by omega, h3⟩
      · exact ⟨m, by omega, by omega⟩
    · rintro ⟨t, h1, h2⟩
      by_cases htm : t = m
      · subst htm; omega
      · have := ih.2 ⟨t, by omega, h2⟩
        omega
theorem powW_zero {a t : Nat} : powW a t ≠ 0 ↔ t = 0 ∨ a ≠ 0 := by
  unfold powW
  by_cases h1 : t = 0
  · simp [h1]
  · by_cases h2 : a = 0
    · simp [h1, h2]
    · rw [if_neg h1, if_neg h2]
      split <;> simp [h1, h2]
structure NOk (d : List SNode) : Prop where
  two : ∀ (i : Int) n, at? d i = some n → (n.1 = 4 ∨ n.1 = 5) → (0 ≤ n.2.1 ∧ n.2.1 < i) ∧ (0 ≤ n.2.2.1 ∧ n.2.2.1 < i)
  one : ∀ (i : Int) n, at? d i = some n → (n.1 = 6 ∨ n.1 = 7 ∨ n.1 = 8 ∨ n.1 = 9) → 0 ≤ n.2.1 ∧ n.2.1 < i
  rep : ∀ (i : Int) n, at? d i = some n → n.1 = 7 → 0 ≤ n.2.2.2.1 ∧ n.2.2.2.1 ≤ n.2.2.2.2.1 ∧ n.2.2.2.2.1 ≤ 255
  kind : ∀ (i : Int) n, at? d i = some n → 1 ≤ n.1 ∧ n.1 ≤ 9
  ntx : ∀ (i : Int) n, at? d i = some n → n.1 = 3 → n.2.2.2.2.2.2 ≠ []
theorem Tr.node {l : List SNode} {f i : Int} (h : Tr l f i) {n : SNode} (hn : at? l i = some n) :
    ((n.1 = 4 ∨ n.1 = 5) → (0 ≤ n.2.1 ∧ n.2.1 < i) ∧ (0 ≤ n.2.2.1 ∧ n.2.2.1 < i)) ∧ ((n.1 = 6 ∨ n.1 = 7 ∨ n.1 = 8 ∨ n.1 = 9) → 0 ≤ n.2.1 ∧ n.2.1 < i) ∧ (n.1 = 7 → 0 ≤ n.2.2.2.1 ∧ n.2.2.2.1 ≤ n.2.2.2.2.1 ∧ n.2.2.2.2.1 ≤ 255) ∧ (1 ≤ n.1 ∧ n.1 ≤ 9) ∧ (n.1 = 3 → n.2.2.2.2.2.2 ≠ []) := by
  cases h with
  | leaf he hk hx h0 =>
    rw [hn] at he; cases he
    exact ⟨fun h => by omega, fun h => by omega, fun h => by omega, by omega, hx⟩
  | one he hk ha hb hr h =>
    rw [hn] at he; cases he
    have := h.le
    exact ⟨fun h => by omega, fun h => by omega, hr, by omega, fun h => by omega⟩
  | two he hk ha hb h1 h2 =>
    rw [hn] at he; cases he
    have := h1.le
    have := h2.le
    exact ⟨fun h => by omega, fun h => by omega, fun h => by omega, by omega, fun h => by omega⟩
theorem Tr.at {d : List SNode} (h : Tr d 0 ((d.length : Int) - 1)) {i : Int} {n : SNode} (hn : at? d i = some n) : ∃ g, Tr d g i := by
  have hb := at_bound hn
  obtain ⟨g, hg, _⟩ := h.sub i hb.1 (by omega)
  exact ⟨g, hg⟩
theorem Tr.nok {d : List SNode} (h : Tr d 0 ((d.length : Int) - 1)) : NOk d :=
  ⟨fun i n hn => let ⟨g, hg⟩ := h.at hn; (hg.node hn).1, fun i n hn => let ⟨g, hg⟩ := h.at hn; (hg.node hn).2.1, fun i n hn => let ⟨g, hg⟩ := h.at hn; (hg.node hn).2.2.1, fun i n hn => let ⟨g, hg⟩ := h.at hn; (hg.node hn).2.2.2.1, fun i n hn => let ⟨g, hg⟩ := h.at hn; (hg.node hn).2.2.2.2⟩
def WV (d : List SNode) : Nat → Int → Nat
  | 0, _ => 0
  | k + 1, i => match at? d i with
    | none => 0
    | some n =>
      if n.1 = 1 then 1
      else if n.1 = 4 then min 2 (WV d k n.2.1 * WV d k n.2.2.1)
      else if n.1 = 5 then min 2 (WV d k n.2.1 + WV d k n.2.2.1)
      else if n.1 = 6 then (if 0 < WV d k n.2.1 then 2 else 1)
      else if n.1 = 7 then sumW (WV d k n.2.1) n.2.2.2.1.toNat (n.2.2.2.2.1 + 1 - n.2.2.2.1).toNat
      else 0
theorem WV_le (d : List SNode) (k : Nat) (i : Int) : WV d k i ≤ 2 := by
  cases k with
  | zero => simp [WV]
  | succ k =>
    unfold WV
    cases at? d i with
    | none => simp
    | some n =>
      simp only
      split
      · omega
      · split
        · omega
        · split
          · omega
          · split
            · split <;> omega
            · split
              · exact sumW_le _ _ _
              · omega
theorem WV_fuel {d : List SNode} (hd : NOk d) : ∀ (k k' : Nat) (i : Int), i < (k : Int) → i < (k' : Int) → WV d k i = WV d k' i
  | 0, k', i, h, h' => by
    have : at? d i = none := by
      unfold at?
      rw [if_neg (by omega)]
    cases k' <;> simp [WV, this]
  | k + 1, 0, i, h, h' => by
    have : at? d i = none := by
      unfold at?
      rw [if_neg (by omega)]
    simp [WV, this]
  | k + 1, k' + 1, i, h, h' => by
    cases hn : at? d i with
    | none => simp only [WV, hn]
    | some n =>
      simp only [WV, hn]
      by_cases h4 : n.1 = 4
      · obtain ⟨⟨a, b⟩, c, e⟩ := hd.two _ n hn (.inl h4)
        rw [WV_fuel hd k k' n.2.1 (by omega) (by omega), WV_fuel hd k k' n.2.2.1 (by omega) (by omega)]
      · by_cases h5 : n.1 = 5
        · obtain ⟨⟨a, b⟩, c, e⟩ := hd.two _ n hn (.inr h5)
          rw [WV_fuel hd k k' n.2.1 (by omega) (by omega), WV_fuel hd k k' n.2.2.1 (by omega) (by omega)]
        · by_cases h6 : n.1 = 6 ∨ n.1 = 7
          · obtain ⟨a, b⟩ := hd.one _ n hn (by omega)
            rw [WV_fuel hd k k' n.2.1 (by omega) (by omega)]
            simp [h4, h5]
          · simp only [not_or] at h6
            simp [h4, h5, h6.1, h6.2]
def wv (d : List SNode) (i : Int) : Nat := WV d d.length i
theorem wv_at {d : List SNode} (hd : NOk d) {i : Int} {n : SNode} (hn : at? d i = some n) : wv d i =
    (if n.1 = 1 then 1
      else if n.1 = 4 then min 2 (wv d n.2.1 * wv d n.2.2.1)
      else if n.1 = 5 then min 2 (wv d n.2.1 + wv d n.2.2.1)
      else if n.1 = 6 then (if 0 < wv d n.2.1 then 2 else 1)
      else if n.1 = 7 then sumW (wv d n.2.1) n.2.2.2.1.toNat (n.2.2.2.2.1 + 1 - n.2.2.2.1).toNat
      else 0) := by
  obtain ⟨hb0, hb1⟩ := at_bound hn
  unfold wv
  rw [WV_fuel hd d.length (d.length + 1) i hb1 (by omega)]
  simp only [WV, hn]
theorem nz_atN {d : List SNode} (hd : NOk d) {i : Int} {n : SNode} (h : at? d i = some n) : nz d i =
    (if n.1 = 1 then true else if n.1 = 4 then nz d n.2.1 && nz d n.2.2.1 else if n.1 = 5 then nz d n.2.1 || nz d n.2.2.1 else if n.1 = 6 then true else if n.1 = 7 then decide (n.2.2.2.1 = 0) || nz d n.2.1 else false) := by
  obtain ⟨k, rfl, hk⟩ := at_nn h
  have e := nzL_at hk
  have e2 : nz d (k : Int) = nzN ((nzL d).take k) n := by unfold nz; rw [at_nat, e]; rfl
  rw [e2]
  unfold nzN
  by_cases h1 : n.1 = 1
  · simp [h1]
  · by_cases h4 : n.1 = 4
    · obtain ⟨⟨a, b⟩, c, e⟩ := hd.two _ n h (.inl h4)
      rw [if_neg h1, if_pos h4, if_neg h1, if_pos h4, at_take a b, at_take c e]; rfl
    · by_cases h5 : n.1 = 5
      · obtain ⟨⟨a, b⟩, c, e⟩ := hd.two _ n h (.inr h5)
        rw [if_neg h1, if_neg h4, if_pos h5, if_neg h1, if_neg h4, if_pos h5, at_take a b, at_take c e]; rfl
      · by_cases h6 : n.1 = 6
        · simp [h6]
        · by_cases h7 : n.1 = 7
          · obtain ⟨a, b⟩ := hd.one _ n h (.inr (.inl h7))
            rw [if_neg h1, if_neg h4, if_neg h5, if_neg h6, if_pos h7, if_neg h1, if_neg h4, if_neg h5, if_neg h6, if_pos h7, at_take a b]; rfl
          · simp [h1, h4, h5, h6, h7]
theorem wv_nz {d : List SNode} (hd : NOk d) : ∀ (k : Nat) (i : Int) (n : SNode), i < (k : Int) → at? d i = some n → (wv d i ≠ 0 ↔ nz d i = true)
  | 0, i, n, hi, hn => by have := at_bound hn; omega
  | k + 1, i, n, hi, hn => by
    have ih := wv_nz hd k
    rw [wv_at hd hn, nz_atN hd hn]
    by_cases h1 : n.1 = 1
    · simp [h1]
    · by_cases h4 : n.1 = 4
      · obtain ⟨⟨a, b⟩, c, e⟩ := hd.two _ n hn (.inl h4)
        obtain ⟨m1, hm1⟩ := at_lt hn a b
        obtain ⟨m2, hm2⟩ := at_lt hn c e
        rw [if_neg h1, if_pos h4, if_neg h1, if_pos h4, Bool.and_eq_true, ← ih _ m1 (by omega) hm1, ← ih _ m2 (by omega) hm2, ← Nat.mul_ne_zero_iff]
        omega
      · by_cases h5 : n.1 = 5
        · obtain ⟨⟨a, b⟩, c, e⟩ := hd.two _ n hn (.inr h5)
          obtain ⟨m1, hm1⟩ := at_lt hn a b
          obtain ⟨m2, hm2⟩ := at_lt hn c e
          rw [if_neg h1, if_neg h4, if_pos h5, if_neg h1, if_neg h4, if_pos h5, Bool.or_eq_true, ← ih _ m1 (by omega) hm1, ← ih _ m2 (by omega) hm2]
          omega
        · by_cases h6 : n.1 = 6
          · simp [h6]; split <;> omega
          · by_cases h7 : n.1 = 7
            · obtain ⟨a, b⟩ := hd.one _ n hn (.inr (.inl h7))
              obtain ⟨r0, r1, r2⟩ := hd.rep _ n hn h7
              obtain ⟨m1, hm1⟩ := at_lt hn a b
              rw [if_neg h1, if_neg h4, if_neg h5, if_neg h6, if_pos h7, if_neg h1, if_neg h4, if_neg h5, if_neg h6, if_pos h7, sumW_zero, Bool.or_eq_true, ← ih _ m1 (by omega) hm1, decide_eq_true_eq]
              constructor
              · rintro ⟨t, h1, h2⟩
                rcases powW_zero.1 h2 with h3 | h3
                · exact .inl (by omega)
                · exact .inr h3
              · rintro (h3 | h3)
                · exact ⟨0, by omega, powW_zero.2 (.inl (by omega))⟩
                · exact ⟨0, by omega, powW_zero.2 (.inr h3)⟩
            · simp [h1, h4, h5, h6, h7]
theorem ROk.nok {d : List SNode} (h : ROk d) : NOk d := ⟨h.two, h.one, h.rep, h.kind, h.ntx⟩
theorem ways_l3 {l : List Int} {a : Nat} (ha : a ≤ 2) {e : SNode} (h1 : at? l e.2.1 = some (a : Int)) {t : Nat} (ht : t ≤ 255) {Z : Int → Prop} (hZ : Z (powW a t : Int)) :
    ∀ (m v : Nat), v + m = t → ∃ k, ref08_Ways.l3 l e t Z k (powW a v : Int) v
  | 0, v, hv => by
    obtain rfl : v = t := by omega
    exact ⟨1, fun h => absurd (dt h) (by omega), fun _ => hZ⟩
  | m + 1, v, hv => by
    obtain ⟨k, hk⟩ := ways_l3 ha h1 ht hZ m (v + 1) (by omega)
    have e1 : (min 2 ((powW a v : Int) * (a : Int))) = (powW a (v + 1) : Int) := by
      have := Int.natCast_mul (powW a v) a
      rw [← powW_step ha v]; omega
    have hle := powW_le a v
    have hle2 : powW a v * a ≤ 4 := by
      have := Nat.mul_le_mul hle ha
      omega
    exact ⟨k + 1, fun _ => ⟨a, h1, i64_of (by omega) (by rw [← Int.natCast_mul]; omega), i64_of (by omega) (by omega), by rw [e1]; exact hk⟩, fun h => absurd (by omega) (df h)⟩
theorem ways_l2 {l : List Int} {a : Nat} (ha : a ≤ 2) {e : SNode} (h1 : at? l e.2.1 = some (a : Int)) {lo hi : Nat} (hlo : e.2.2.2.1 = lo) (hhi : e.2.2.2.2.1 = hi) (hh : hi ≤ 255) {Z : Int → Prop} (hZ : Z (sumW a lo (hi + 1 - lo) : Int)) :
    ∀ (m j : Nat), j + m = hi + 1 - lo → ∃ k, ref08_Ways.l2 l e Z k (sumW a lo j : Int) ((lo + j : Nat) : Int)
  | 0, j, hj => by
    obtain rfl : j = hi + 1 - lo := by omega
    exact ⟨1, fun h => absurd (dt h) (by omega), fun _ => hZ⟩
  | m + 1, j, hj => by
    obtain ⟨k, hk⟩ := ways_l2 ha h1 hlo hhi hh hZ m (j + 1) (by omega)
    have hs := sumW_le a lo j
    have hp := powW_le a (lo + j)
    have e1 : (min 2 ((sumW a lo j : Int) + (powW a (lo + j) : Int))) = (sumW a lo (j + 1) : Int) := by simp only [sumW]; omega
    obtain ⟨k3, hk3⟩ := ways_l3 ha h1 (t := lo + j) (by omega) (Z := ref08_Ways.j3 (ref08_Ways.l2 l e Z k) (sumW a lo j : Int) ((lo + j : Nat) : Int)) ⟨i64_of (by omega) (by omega), i64_of (by omega) (by omega), by
      rw [e1]; have : (((lo + j : Nat) : Int) + 1) = ((lo + (j + 1) : Nat) : Int) := by omega
      rw [this]; exact hk⟩ (lo + j) 0 (by omega)
    have e0 : (powW a 0 : Int) = 1 := rfl
    rw [e0] at hk3
    exact ⟨k + 1, fun _ => ⟨k3, hk3⟩, fun h => absurd (by omega) (df h)⟩
theorem ref08_Ways_in {d : List SNode} (hl : d.length ≤ 1000) (hd : NOk d) {i : Nat} (h1 : i < d.length) : ref08_Ways d (i : Int) (wv d (i : Int) : Int) := by
  have hat : ∀ (k : Nat) (a : Int), 0 ≤ a → a < (k : Int) → at? ((List.range k).map fun (j : Nat) => (wv d (j : Int) : Int)) a = some (wv d a : Int) := fun k a h0 h1 => by
    obtain ⟨j, rfl⟩ : ∃ j : Nat, a = (j : Int) := ⟨a.toNat, by omega⟩
    rw [at_nat, List.getElem?_map, List.getElem?_range (by omega)]; rfl
  have key : ∀ (m : Nat) (k : Nat), k + m = i + 1 → ∃ f, ref08_Ways.l1 d (i : Int) (ref08_Ways.j1 (i : Int) (wv d (i : Int) : Int)) f ((List.range k).map fun (j : Nat) => (wv d (j : Int) : Int)) (k : Int) := by
    intro m
    induction m with
    | zero =>
      intro k hk
      exact ⟨1, fun h => absurd (dt h) (by omega), fun _ => ⟨_, hat k _ (by omega) (by omega), rfl⟩⟩
    | succ m ih =>
      intro k hk
      obtain ⟨f, hf⟩ := ih (k + 1) (by omega)
      obtain ⟨e, he, _⟩ := at_in (xs := d) (i := (k : Int)) (by omega) (by omega)
      have hw := wv_at hd he
      have next : ∀ w : Nat, min 2 w = wv d (k : Int) → ref08_Ways.j2 (ref08_Ways.l1 d (i : Int) (ref08_Ways.j1 (i : Int) (wv d (i : Int) : Int)) f) ((List.range k).map fun (j : Nat) => (wv d (j : Int) : Int)) (k : Int) (w : Int) := fun w hw => by
        refine ⟨by simp; omega, i64_of (by omega) (by omega), ?_⟩
        have e1 : (min 2 (w : Int)) = (wv d (k : Int) : Int) := by rw [← hw]; omega
        rw [e1]
        have e2 : ((List.range k).map fun (j : Nat) => (wv d (j : Int) : Int)) ++ [(wv d (k : Int) : Int)] = (List.range (k + 1)).map fun (j : Nat) => (wv d (j : Int) : Int) := by
          rw [List.range_succ, List.map_append]; rfl
        rw [e2]; exact hf
      have ne : ∀ {a b : Int}, a ≠ b → (a == b) = true → False := fun h k => h (eq_of_beq k)
      refine ⟨f + 1, fun _ => ⟨e, he, fun h => ?_, fun k1 => ⟨fun h => ?_, fun k4 => ⟨fun h => ?_, fun k5 => ⟨fun h => ?_, fun k6 => ⟨fun h => ?_, fun k7 => ?_⟩⟩⟩⟩⟩, fun h => absurd (by omega) (df h)⟩
      · have h1 : e.1 = 1 := eq_of_beq h
        exact next 1 (by rw [hw, if_pos h1]; rfl)
      · have h1 : e.1 ≠ 1 := by simpa using k1
        have h4 : e.1 = 4 := eq_of_beq h
        rw [if_neg h1, if_pos h4] at hw
        obtain ⟨⟨a0, a1⟩, b0, b1⟩ := hd.two _ e he (.inl h4)
        have l1 := WV_le d d.length e.2.1
        have l2 := WV_le d d.length e.2.2.1
        have hm : wv d e.2.1 * wv d e.2.2.1 ≤ 4 := by have := Nat.mul_le_mul l1 l2; exact this
        refine ⟨_, hat k _ a0 a1, _, hat k _ b0 b1, i64_of (by rw [← Int.natCast_mul]; omega) (by rw [← Int.natCast_mul]; omega), ?_⟩
        rw [← Int.natCast_mul]
        exact next _ hw.symm
      · have h1 : e.1 ≠ 1 := by simpa using k1
        have h4 : e.1 ≠ 4 := by simpa using k4
        have h5 : e.1 = 5 := eq_of_beq h
        rw [if_neg h1, if_neg h4, if_pos h5] at hw
        obtain ⟨⟨a0, a1⟩, b0, b1⟩ := hd.two _ e he (.inr h5)
        have l1 := WV_le d d.length e.2.1
        have l2 := WV_le d d.length e.2.2.1
        unfold wv at *
        refine ⟨_, hat k _ a0 a1, _, hat k _ b0 b1, i64_of (by omega) (by omega), ?_⟩
        exact next (WV d d.length e.2.1 + WV d d.length e.2.2.1) hw.symm
      · have h1 : e.1 ≠ 1 := by simpa using k1
        have h4 : e.1 ≠ 4 := by simpa using k4
        have h5 : e.1 ≠ 5 := by simpa using k5
        have h6 : e.1 = 6 := eq_of_beq h
        rw [if_neg h1, if_neg h4, if_neg h5, if_pos h6] at hw
        obtain ⟨a0, a1⟩ := hd.one _ e he (.inl h6)
        refine ⟨_, hat k _ a0 a1, fun h => ?_, fun h => ?_⟩
        · exact next 2 (by rw [hw, if_pos (by have := dt h; omega)]; rfl)
        · exact next 1 (by rw [hw, if_neg (by have := df h; omega)]; rfl)
      · have h1 : e.1 ≠ 1 := by simpa using k1
        have h4 : e.1 ≠ 4 := by simpa using k4
        have h5 : e.1 ≠ 5 := by simpa using k5
        have h6 : e.1 ≠ 6 := by simpa using k6
        have h7 : e.1 = 7 := eq_of_beq h
        rw [if_neg h1, if_neg h4, if_neg h5, if_neg h6, if_pos h7] at hw
        obtain ⟨a0, a1⟩ := hd.one _ e he (.inr (.inl h7))
        obtain ⟨r0, r1, r2⟩ := hd.rep _ e he h7
        have hs := sumW_le (wv d e.2.1) e.2.2.2.1.toNat (e.2.2.2.2.1 + 1 - e.2.2.2.1).toNat
        have e1 : (e.2.2.2.2.1 + 1 - e.2.2.2.1).toNat = e.2.2.2.2.1.toNat + 1 - e.2.2.2.1.toNat := by omega
        have := ways_l2 (l := (List.range k).map fun (j : Nat) => (wv d (j : Int) : Int)) (WV_le d d.length e.2.1) (e := e) (hat k _ a0 a1) (lo := e.2.2.2.1.toNat) (hi := e.2.2.2.2.1.toNat) (by omega) (by omega) (by omega)
          (Z := ref08_Ways.j2 (ref08_Ways.l1 d (i : Int) (ref08_Ways.j1 (i : Int) (wv d (i : Int) : Int)) f) ((List.range k).map fun (j : Nat) => (wv d (j : Int) : Int)) (k : Int))
          (next _ (by rw [hw, e1]; rw [e1] at hs; exact Nat.min_eq_right hs)) (e.2.2.2.2.1.toNat + 1 - e.2.2.2.1.toNat) 0 (by omega)
        have e2 : ((e.2.2.2.1.toNat + 0 : Nat) : Int) = e.2.2.2.1 := by omega
        rw [e2] at this
        exact this
      · have h1 : e.1 ≠ 1 := by simpa using k1
        have h4 : e.1 ≠ 4 := by simpa using k4
        have h5 : e.1 ≠ 5 := by simpa using k5
        have h6 : e.1 ≠ 6 := by simpa using k6
        have h7 : e.1 ≠ 7 := by simpa using k7
        rw [if_neg h1, if_neg h4, if_neg h5, if_neg h6, if_neg h7] at hw
        exact next 0 (by rw [hw]; rfl)
  obtain ⟨f, hf⟩ := key (i + 1) 0 (by omega)
  exact ⟨f, by simpa using hf⟩
theorem first8_ok {d : List SNode} (hl : d.length ≤ 1000) (hd : NOk d) : ∃ r, ref08_First d r ∧ (r.2 = false → ∀ (i : Int) n, at? d i = some n → (n.1 = 6 ∨ n.1 = 7) → nz d n.2.1 = false) := by
  have key : ∀ (m i : Nat), i + m = d.length → (∀ (k : Int) n, k < (i : Int) → at? d k = some n → (n.1 = 6 ∨ n.1 = 7) → nz d n.2.1 = false) → ∃ q : (Int × Bool) × Nat, ref08_First.l1 d q.1 (ref08_First.j1 q.1) q.2 (i : Int) ∧ (q.1.2 = false → ∀ (i : Int) n, at? d i = some n → (n.1 = 6 ∨ n.1 = 7) → nz d n.2.1 = false) := by
    intro m
    induction m with
    | zero =>
      intro i hi hk
      exact ⟨((0, false), 1), ⟨fun h => absurd (dt h) (by omega), fun _ => rfl⟩, fun _ k n hn => hk k n (by have := at_bound hn; omega) hn⟩
    | succ m ih =>
      intro i hi hk
      obtain ⟨e, he, _⟩ := at_in (xs := d) (i := (i : Int)) (by omega) (by omega)
      have hw : ∃ w, ((((e.1 == 6) || (e.1 == 7))) = true → ref08_Ways d e.2.1 w ∧ (w = 0 → nz d e.2.1 = false)) := by
        by_cases hkk : e.1 = 6 ∨ e.1 = 7
        · obtain ⟨a0, a1⟩ := hd.one _ e he (by omega)
          obtain ⟨mm, hm⟩ := at_lt he a0 a1
          obtain ⟨j, hj⟩ : ∃ j : Nat, e.2.1 = (j : Int) := ⟨e.2.1.toNat, by omega⟩
          refine ⟨(wv d e.2.1 : Int), fun _ => ⟨?_, fun h0 => ?_⟩⟩
          · rw [hj]; exact ref08_Ways_in hl hd (by omega)
          · have := wv_nz hd (d.length) e.2.1 mm (by omega) hm
            cases hz : nz d e.2.1
            · rfl
            · have := this.2 hz
              omega
        · exact ⟨0, fun h => absurd (by simpa using h) hkk⟩
      obtain ⟨w, hw⟩ := hw
      cases hb : (((e.1 == 6) || (e.1 == 7)) && (w != 0))
      · obtain ⟨q, hq, hq2⟩ := ih (i + 1) (by omega) (fun k n hki hn hkk => by
          by_cases hk2 : k = (i : Int)
          · subst hk2
            rw [he] at hn; cases hn
            have h6 : ((e.1 == 6) || (e.1 == 7)) = true := by simpa using hkk
            rw [h6] at hb
            simp at hb
            exact (hw h6).2 hb
          · exact hk k n (by omega) hn hkk)
        exact ⟨(q.1, q.2 + 1), ⟨fun _ => ⟨e, he, e, fun _ => he, w, fun h => (hw h).1, (fun h => by rw [hb] at h; cases h), fun _ => ⟨i64_of (by omega) (by omega), by simpa using hq⟩⟩, fun h => absurd (by omega) (df h)⟩, hq2⟩
      · exact ⟨(((i : Int), true), 1), ⟨fun _ => ⟨e, he, e, fun _ => he, w, fun h => (hw h).1, fun _ => rfl, fun h => by rw [hb] at h; cases h⟩, fun h => absurd (by omega) (df h)⟩, (fun h => by cases h)⟩
  obtain ⟨q, hq, hq2⟩ := key d.length 0 (by omega) (fun k n hk hn => by have := at_bound hn; omega)
  exact ⟨q.1, ⟨q.2, hq⟩, hq2⟩
structure Rt (d : List SNode) : Prop extends ROk d where
  tr : Tr d 0 ((d.length : Int) - 1)
theorem Rt.ne {d : List SNode} (h : Rt d) : d ≠ [] := fun e => by
  have := h.tr.le
  subst e
  simp at this
theorem right_ok {d : List SNode} (hl : d.length ≤ 1000) (ht : ∀ n ∈ d, n.2.2.2.2.2.2.length ≤ 140737488351232) : ∃ r, ref08_Right d r ∧ (r = true → Rt d) := by
  obtain ⟨f, hf, ho⟩ := form_ex hl ht
  cases f
  · exact ⟨false, ⟨false, hf, fun _ => rfl, (fun h => by cases h)⟩, (fun h => by cases h)⟩
  · have hd := (ho rfl).nok
    obtain ⟨w, hw, hw2⟩ := first8_ok hl hd
    refine ⟨!w.2, ⟨true, hf, (fun h => by cases h), fun _ => ⟨w, hw, rfl⟩⟩, fun h => ?_⟩
    have := hw2 (by simpa using h)
    exact ⟨⟨hd.two, hd.one, hd.rep, hd.kind, hd.ntx, this⟩, ho rfl⟩
end Go.Proofs.YtdidjelkkanenaaGreatDoor.V
namespace Go.Proofs.YtdidjelkkanenaaGreatDoor.V
open Go
set_option linter.unusedVariables false
def CV (d : List SNode) : Nat → Int → List (List SItem)
  | 0, _ => []
  | k + 1, i => match at? d i with
    | none => []
    | some n =>
      if n.1 = 1 then []
      else if n.1 = 3 then [[(3, i, 0, 0)]]
      else if n.1 = 4 then (CV d k n.2.1).map (· ++ [(1, n.2.2.1, 0, 0)]) ++ CV d k n.2.2.1
      else if n.1 = 5 then CV d k n.2.1 ++ CV d k n.2.2.1
      else if n.1 = 6 then (CV d k n.2.1).map (· ++ [(1, i, 0, 0)])
      else if n.1 = 7 then (CV d k n.2.1).map (· ++ [(2, i, max (n.2.2.2.1 - 1) 0, n.2.2.2.2.1 - 1)])
      else [[(1, i, 0, 0)]]
theorem CV_len (d : List SNode) : ∀ (k : Nat) (i : Int), (CV d k i).length ≤ 2 ^ k
  | 0, i => by simp [CV]
  | k + 1, i => by
    have h2 : 2 ^ (k + 1) = 2 ^ k + 2 ^ k := by rw [Nat.pow_succ]; omega
    have hp : 0 < 2 ^ k := Nat.pow_pos (by omega)
    unfold CV
    cases at? d i with
    | none => simp
    | some n =>
      have a := CV_len d k n.2.1
      have b := CV_len d k n.2.2.1
      simp only
      by_cases h1 : n.1 = 1
      · simp [h1]
      · by_cases h3 : n.1 = 3
        · simp [h3]; omega
        · by_cases h4 : n.1 = 4
          · simp [h4]; omega
          · by_cases h5 : n.1 = 5
            · simp [h5]; omega
            · by_cases h6 : n.1 = 6
              · simp [h6]; omega
              · by_cases h7 : n.1 = 7
                · simp [h7]; omega
                · simp [h1, h3, h4, h5, h6, h7]; omega
theorem PM_CV (d : List SNode) : ∀ (k : Nat) (i : Int), ∀ p ∈ (PM d k i).1, p ∈ CV d k i
  | 0, i, p, hp => by simp [PM] at hp
  | k + 1, i, p, hp => by
    unfold PM at hp
    unfold CV
    cases hn : at? d i with
    | none => rw [hn] at hp; simp at hp
    | some n =>
      rw [hn] at hp
      have a := PM_CV d k n.2.1
      have b := PM_CV d k n.2.2.1
      simp only at hp ⊢
      by_cases h1 : n.1 = 1
      · simp [h1] at hp
      · rw [if_neg h1] at hp ⊢
        by_cases h3 : n.1 = 3
        · rw [if_pos h3] at hp ⊢; exact hp
        · rw [if_neg h3] at hp ⊢
          by_cases h4 : n.1 = 4
          · rw [if_pos h4] at hp ⊢
            rcases List.mem_append.1 hp with hp | hp
            · obtain ⟨q, hq, rfl⟩ := List.mem_map.1 hp
              exact List.mem_append.2 (.inl (List.mem_map.2 ⟨q, a q hq, rfl⟩))
            · obtain ⟨l, hl, hp⟩ := List.mem_flatten.1 hp
              rw [List.mem_replicate.1 hl |>.2] at hp
              exact List.mem_append.2 (.inr (b p hp))
          · rw [if_neg h4] at hp ⊢
            by_cases h5 : n.1 = 5
            · rw [if_pos h5] at hp ⊢
              rcases List.mem_append.1 hp with hp | hp
              · exact List.mem_append.2 (.inl (a p hp))
              · exact List.mem_append.2 (.inr (b p hp))
            · rw [if_neg h5] at hp ⊢
              by_cases h6 : n.1 = 6
              · rw [if_pos h6] at hp ⊢
                obtain ⟨q, hq, rfl⟩ := List.mem_map.1 hp
                exact List.mem_map.2 ⟨q, a q hq, rfl⟩
              · rw [if_neg h6] at hp ⊢
                by_cases h7 : n.1 = 7
                · rw [if_pos h7] at hp ⊢
                  simp only at hp
                  split at hp
                  · obtain ⟨q, hq, rfl⟩ := List.mem_map.1 hp
                    exact List.mem_map.2 ⟨q, a q hq, rfl⟩
                  · cases hp
                · rw [if_neg h7] at hp ⊢; exact hp
def CI (d : List SNode) (x : SItem) : List (List SItem) :=
  if x.1 = 1 then CV d d.length x.2.1
  else if x.1 = 2 then (match at? d x.2.1 with | some n => (CV d d.length n.2.1).map (· ++ [(2, x.2.1, max (x.2.2.1 - 1) 0, x.2.2.2 - 1)]) | none => [])
  else [[x]]
theorem CI_len (d : List SNode) (x : SItem) : (CI d x).length ≤ 2 ^ d.length := by
  have hp : 0 < 2 ^ d.length := Nat.pow_pos (by omega)
  unfold CI
  split
  · exact CV_len _ _ _
  · split
    · split
      · rw [List.length_map]; exact CV_len _ _ _
      · simp
    · simp; omega
def CS (d : List SNode) : List SItem → List (List SItem)
  | [] => [[]]
  | x :: rest => (CI d x).map (· ++ rest) ++ CS d rest
theorem CS_len (d : List SNode) : ∀ s : List SItem, (CS d s).length ≤ s.length * 2 ^ d.length + 1
  | [] => by simp [CS]
  | x :: rest => by
    have h1 := CS_len d rest
    have h2 := CI_len d x
    simp only [CS, List.length_append, List.length_map, List.length_cons, Nat.succ_mul]
    omega
theorem pmI_CI (d : List SNode) (x : SItem) : ∀ p ∈ pmI d x, p ∈ CI d x := by
  intro p hp
  unfold pmI at hp
  unfold CI
  by_cases h1 : x.1 = 1
  · rw [if_pos h1] at hp ⊢; exact PM_CV d _ _ p hp
  · rw [if_neg h1] at hp ⊢
    by_cases h2 : x.1 = 2
    · rw [if_pos h2] at hp ⊢
      cases hn : at? d x.2.1 with
      | none => rw [hn] at hp; cases hp
      | some n =>
        rw [hn] at hp
        simp only at hp ⊢
        split at hp
        · obtain ⟨q, hq, rfl⟩ := List.mem_map.1 hp
          exact List.mem_map.2 ⟨q, PM_CV d _ _ q hq, rfl⟩
        · cases hp
    · rw [if_neg h2] at hp ⊢
      split at hp
      · cases hp
      · exact hp
theorem hds_CS (d : List SNode) : ∀ (s : List SItem), ∀ t ∈ hds d s, t ∈ CS d s
  | [], t, ht => ht
  | x :: rest, t, ht => by
    rcases List.mem_append.1 ht with ht | ht
    · obtain ⟨q, hq, rfl⟩ := List.mem_map.1 ht
      exact List.mem_append.2 (.inl (List.mem_map.2 ⟨q, pmI_CI d x q hq, rfl⟩))
    · obtain ⟨l, hl, hp⟩ := List.mem_flatten.1 ht
      rw [List.mem_replicate.1 hl |>.2] at hp
      exact List.mem_append.2 (.inr (hds_CS d rest t hp))
structure BrOk (l : List SBranch) : Prop where
  many : ∀ b ∈ l, 0 ≤ b.2 ∧ b.2 ≤ 2
  len : ∀ b ∈ l, b.1.length ≤ 1000
theorem addB_split {s : List SItem} {many : Int} : ∀ (l : List SBranch) (i : Nat), (∀ b ∈ l.take i, ¬ cmpS s b.1 = 0 ∧ ¬ cmpS s b.1 < 0) → addB s many l = l.take i ++ addB s many (l.drop i)
  | l, 0, _ => rfl
  | [], i + 1, _ => by simp
  | b :: l, i + 1, h => by
    have hb := h b (by simp)
    conv => lhs; unfold addB
    rw [if_neg hb.1, if_neg hb.2, addB_split l i fun c hc => h c (by simp [hc])]
    rfl
theorem ref14_Add_in {l : List SBranch} (hs : l.Pairwise (fun a b => cmpS a.1 b.1 < 0)) (hb : BrOk l) (hl : l.length ≤ 2000000000) {s : List SItem} (hsl : s.length ≤ 1000) {many : Int} (hm : 0 ≤ many ∧ many ≤ 2) : ref14_Add l s many (addB s many l) := by
  refine uptoK (P := fun k (q : List SBranch × Bool) v => ref14_Add.l1 l s many _ k q.1 q.2 v) l.length
    (fun i q => (q.2 = false → q.1 = l.take i ∧ ∀ b ∈ l.take i, ¬ cmpS s b.1 = 0 ∧ ¬ cmpS s b.1 < 0) ∧ (q.2 = true → q.1 ++ l.drop i = addB s many l ∧ ∀ b ∈ l.drop i, cmpS s b.1 < 0)) ?_ ?_ ([], false) ⟨fun _ => ⟨by simp, by simp⟩, (fun h => by cases h)⟩
  · rintro i ⟨out, done⟩ k hi ⟨h1, h2⟩ hk
    have hol : out.length ≤ l.length + 1 := by
      cases done
      · have k1 := (h1 rfl).1
        simp only at k1
        rw [k1]; simp; omega
      · have := congrArg List.length (h2 rfl).1
        have h3 := addB_len s many l
        simp at this; omega
    have hbm : l[i] ∈ l := List.getElem_mem hi
    have hmb := hb.many _ hbm
    have hlb := hb.len _ hbm
    have hat : at? l (i : Int) = some l[i] := by rw [at_nat]; simp [hi]
    have hdr : l.drop i = l[i] :: l.drop (i + 1) := (List.getElem_cons_drop hi).symm
    have htk : l.take (i + 1) = l.take i ++ [l[i]] := List.take_succ_eq_append_getElem hi
    have hsrt : ∀ b ∈ l.drop (i + 1), cmpS l[i].1 b.1 < 0 := by
      have := hs.sublist (List.drop_sublist i l)
      rw [hdr, List.pairwise_cons] at this
      exact this.1
    refine ⟨fun _ => ⟨l[i], hat, _, ref13_Compare_in hsl hlb, fun h0 => ?_, fun h0 => ⟨fun hc => ?_, fun hc => ?_⟩⟩, fun h => absurd (by omega) (df h)⟩
    · have e0 : cmpS s l[i].1 = 0 := by simpa using h0
      refine ⟨l[i], hat, i64_of (by omega) (by omega), by simp; omega, i64_of (by omega) (by omega), hk (out ++ [(s, min 2 (l[i].2 + many))], true) ⟨(fun h => by cases h), fun _ => ?_⟩⟩
      cases done
      · obtain ⟨k1, k2⟩ := h1 rfl
        simp only at k1
        refine ⟨?_, fun b hbb => by rw [cmpS_zero.1 e0]; exact hsrt b hbb⟩
        rw [addB_split l i k2, hdr, k1]
        conv => rhs; unfold addB
        rw [if_pos e0]; simp
      · obtain ⟨k1, k2⟩ := h2 rfl
        have := k2 l[i] (hdr ▸ List.mem_cons_self)
        omega
    · simp only [Bool.and_eq_true, decide_eq_true_eq, Bool.not_eq_true'] at hc
      obtain ⟨c1, c2⟩ := hc
      subst c2
      obtain ⟨k1, k2⟩ := h1 rfl
      simp only at k1
      refine ⟨by simp; omega, l[i], hat, by simp; omega, i64_of (by omega) (by omega), hk (out ++ [(s, many)] ++ [l[i]], true) ⟨(fun h => by cases h), fun _ => ⟨?_, fun b hbb => cmpS_trans c1 (hsrt b hbb)⟩⟩⟩
      rw [addB_split l i k2, hdr, k1]
      conv => rhs; unfold addB
      rw [if_neg (by omega), if_pos c1]; simp
    · have e0 : ¬ cmpS s l[i].1 = 0 := by simpa using h0
      refine ⟨l[i], hat, by simp; omega, i64_of (by omega) (by omega), hk (out ++ [l[i]], done) ⟨fun hd => ?_, fun hd => ?_⟩⟩
      · simp only at hd
        subst hd
        obtain ⟨k1, k2⟩ := h1 rfl
        simp only at k1
        simp only [Bool.not_false, Bool.and_true, decide_eq_false_iff_not] at hc
        refine ⟨by rw [htk, k1], fun b hbb => ?_⟩
        rw [htk] at hbb
        rcases List.mem_append.1 hbb with hbb | hbb
        · exact k2 b hbb
        · rw [List.mem_singleton.1 hbb]; exact ⟨e0, hc⟩
      · simp only at hd
        subst hd
        obtain ⟨k1, k2⟩ := h2 rfl
        refine ⟨?_, fun b hbb => k2 b (hdr ▸ List.mem_cons_of_mem _ hbb)⟩
        rw [← k1, hdr]; simp
  · rintro ⟨out, done⟩ ⟨h1, h2⟩ k
    refine ⟨fun h => absurd (dt h) (by omega), fun _ => ⟨fun hd => ?_, fun hd => ?_⟩⟩
    · have hd' : done = false := by simpa using hd
      subst hd'
      obtain ⟨k1, k2⟩ := h1 rfl
      simp only at k1
      rw [List.take_length] at k1
      refine ⟨by rw [k1]; simp; omega, ?_⟩
      rw [addB_split l l.length k2, k1]
      simp [addB]
    · have hd' : done = true := by simpa using hd
      subst hd'
      obtain ⟨k1, k2⟩ := h2 rfl
      rw [← k1]; simp
theorem Can.brok {f : List SItem → Nat} {B : List SBranch} (h : Can f B) (hl : ∀ t, f t ≠ 0 → t.length ≤ 1000) : BrOk B :=
  ⟨fun b hb => by have := (h.many hb).2.2; omega, fun b hb => hl _ (h.many hb).2.1⟩
theorem into_in {d : List SNode} (hd : ROk d) (hdl : d.length ≤ 400) (hd0 : ∃ n, at? d 0 = some n) (U : List (List SItem)) (hU : U.length ≤ 1000000000) (hU1 : ∀ t ∈ U, t.length ≤ 1000) : ∀ (h : Nat) (s : List SItem) (L : List (List SItem)), lv d h s = some L → Vs d 400 s → ∀ (f : List SItem → Nat) (B : List SBranch), Can f B → (∀ t, f t ≠ 0 → t ∈ U) → (∀ t ∈ L, t ∈ U) → ∃ r, ref14_into.n h d s B r ∧ Can (fun t => f t + L.count t) r
  | 0, s, L, hL, _, _, _, _, _, _ => by simp [lv] at hL
  | h + 1, s, L, hL, hv, f, B, hB, hf, hLU => by
    have hlen := hv.len
    have hBl := can_len hB hf
    have hBo := hB.brok fun t ht => hU1 t (hf t ht)
    cases hr : rdy d s with
    | true =>
      have e : L = [s] := by
        unfold lv at hL
        rw [if_pos hr] at hL; exact (Option.some.inj hL).symm
      subst e
      refine ⟨addB s 1 B, ⟨true, hr ▸ ref14_Ready_in hv.form hd0, fun _ => ⟨s, ahead_in (by simp) (by omega), _, ref14_Add_in hB.srt hBo (by omega) (by omega) (by omega), rfl⟩, (fun h => by cases h)⟩, ?_⟩
      refine (hB.add s (n := 1) (by omega)).congr fun t => ?_
      simp only [List.count_singleton, beq_iff_eq]
      by_cases ht : t = s
      · subst ht; simp
      · simp [ht, Ne.symm ht]
    | false =>
      have hopn := hv.opn hd hr
      obtain ⟨ls, hls, hlf⟩ : ∃ ls, (opn d s).mapM (lv d h) = some ls ∧ ls.flatten = L := by
        unfold lv at hL
        rw [if_neg (by rw [hr]; simp)] at hL
        exact Option.map_eq_some_iff.1 hL
      have hlsl : ls.length = (opn d s).length := mapM_len hls
      have hol := opn_len (d := d) s
      have key : ∀ (m i : Nat) (B' : List SBranch), i + m = (opn d s).length → Can (fun t => f t + (ls.take i).flatten.count t) B' → ∃ (r : List SBranch) (k : Nat), ref14_into.l1 (ref14_into.n h) d (opn d s) (ref14_into.j1 r) k B' (i : Int) ∧ Can (fun t => f t + L.count t) r := by
        intro m
        induction m with
        | zero =>
          intro i B' hi hB'
          refine ⟨B', 1, ⟨fun h => absurd (dt h) (by omega), fun _ => rfl⟩, ?_⟩
          rw [List.take_of_length_le (by omega), hlf] at hB'
          exact hB'
        | succ m ih =>
          intro i B' hi hB'
          have hil : i < (opn d s).length := by omega
          obtain ⟨li, h1, h2⟩ := mapM_at hls hil
          have hsub : ∀ t ∈ li, t ∈ L := fun t ht => by
            rw [← hlf]; exact List.mem_flatten.2 ⟨li, List.mem_of_getElem? h2, ht⟩
          have hsub2 : ∀ t, (ls.take i).flatten.count t ≠ 0 → t ∈ U := fun t ht => by
            have hp : t ∈ (ls.take i).flatten := List.count_pos_iff.1 (by omega)
            obtain ⟨l, hl, ht⟩ := List.mem_flatten.1 hp
            exact hLU t (by rw [← hlf]; exact List.mem_flatten.2 ⟨l, List.mem_of_mem_take hl, ht⟩)
          obtain ⟨r1, hr1, hr2⟩ := into_in hd hdl hd0 U hU hU1 h _ li h1 (hopn _ (List.getElem_mem hil)) _ B' hB' (fun t ht => by
            by_cases h0 : f t = 0
            · exact hsub2 t (by omega)
            · exact hf t h0) (fun t ht => hLU t (hsub t ht))
          obtain ⟨r, k, hk1, hk2⟩ := ih (i + 1) r1 (by omega) (hr2.congr fun t => by rw [take_flat h2, List.count_append, Nat.add_assoc])
          exact ⟨r, k + 1, ⟨fun _ => ⟨_, by rw [at_nat]; simp [hil], r1, hr1, i64_of (by omega) (by omega), by simpa using hk1⟩, fun h => absurd (by omega) (df h)⟩, hk2⟩
      obtain ⟨r, k, hk1, hk2⟩ := key (opn d s).length 0 B (by omega) (hB.congr fun t => by simp)
      exact ⟨r, ⟨false, hr ▸ ref14_Ready_in hv.form hd0, (fun h => by cases h), fun _ => ⟨_, ref14_Open_in hd hv.form hr (by omega) hd0, k, hk1⟩⟩, hk2⟩
theorem nodup_dups {α : Type} [BEq α] [LawfulBEq α] : ∀ (n : Nat) (l : List α), l.length ≤ n → l.eraseDups.Nodup
  | _, [], _ => by simp
  | 0, x :: l, h => by simp at h
  | n + 1, x :: l, h => by
    rw [List.eraseDups_cons, List.nodup_cons]
    refine ⟨fun hx => ?_, nodup_dups n _ (Nat.le_trans (List.length_filter_le _ _) (by simpa using h))⟩
    have := List.mem_eraseDups.1 hx
    simp at this
structure Sm (d : List SNode) (s : List SItem) : Prop where
  rt : Rt d
  len : d.length ≤ 24
  txt : ∀ n ∈ d, n.2.2.2.2.2.2.length ≤ 140737488351232
  form : formS d s = true
  slen : s.length ≤ 40
theorem Sm.dok {d : List SNode} {s : List SItem} (h : Sm d s) : DOk d := ⟨by have := h.len; omega, fun n hn => by have := h.txt n hn; omega⟩
theorem Sm.ne {d : List SNode} {s : List SItem} (h : Sm d s) : ∃ n, at? d 0 = some n := by
  have := h.rt.ne
  cases d with
  | nil => exact absurd rfl this
  | cons n d => exact ⟨n, rfl⟩
theorem Sm.vs {d : List SNode} {s : List SItem} (h : Sm d s) : Vs d 400 s := Vs.start h.form (by have := h.slen; omega)
theorem heads_both {d : List SNode} {s : List SItem} (h : Sm d s) : ∃ B, heads_Heads d s B ∧ ref14_Heads d s B ∧ Can (fun t => (hds d s).count t) B := by
  have hd := h.rt.toROk
  obtain ⟨L, ⟨k, hk⟩, hp⟩ := hds_lv hd s h.form
  have hU : (CS d s).length ≤ 1000000000 := by
    have h1 := CS_len d s
    have h2 : 2 ^ d.length ≤ 2 ^ 24 := Nat.pow_le_pow_right (by omega) h.len
    have h3 := h.slen
    have h4 : s.length * 2 ^ d.length ≤ 40 * 2 ^ 24 := Nat.mul_le_mul h3 h2
    omega
  have hLU : ∀ t ∈ L, t ∈ CS d s := fun t ht => hds_CS d s t (hp.mem_iff.1 ht)
  have hvs := lv_vs hd k s L hk h.vs
  have hLU2 : ∀ t ∈ L, t ∈ L.eraseDups := fun t ht => List.mem_eraseDups.2 ht
  have hUl : L.eraseDups.length ≤ 1000000000 := Nat.le_trans (len_sub (nodup_dups _ L (Nat.le_refl _)) fun t ht => hLU t (List.mem_eraseDups.1 ht)) hU
  have hU1 : ∀ t ∈ L.eraseDups, t.length ≤ 1000 := fun t ht => by
    have := (hvs t (List.mem_eraseDups.1 ht)).1.len
    have := h.len
    omega
  obtain ⟨B, hB1, hB2⟩ := into_in hd (by have := h.len; omega) h.ne L.eraseDups hUl hU1 k s L hk h.vs (fun _ => 0) [] Can.nil (fun t ht => absurd rfl ht) hLU2
  have hB3 : Can (fun t => L.count t) B := hB2.congr fun t => by simp
  have hBl := can_len hB3 (U := L.eraseDups) fun t ht => hLU2 t (List.count_pos_iff.1 (by omega))
  exact ⟨B, ⟨hd, h.dok, by have := h.len; omega, h.rt.ne, h.form, by have := h.slen; omega, by omega, k, L, hk, hB3⟩, ⟨B, ⟨k, hB1⟩, rfl⟩, hB3.congr fun t => by rw [hp.count_eq]⟩
theorem ref14_Same_in {a b : List SBranch} (ha : ∀ x ∈ a, x.1.length ≤ 1000) (hb : ∀ x ∈ b, x.1.length ≤ 1000) (hl : a.length ≤ 2000000000) : ref14_Same a b (decide (a = b)) := by
  by_cases hne : a.length = b.length
  · refine ⟨fun h => absurd h (by simp [hne]), fun _ => ?_⟩
    refine upto (P := fun k (_ : Unit) v => ref14_Same.l1 a b (decide (a = b)) _ k v) a.length (fun i _ => a.take i = b.take i) ?_ ?_ () (by simp)
    · intro i _ hi ht
      have hib : i < b.length := by omega
      have ea : at? a (i : Int) = some a[i] := by rw [at_nat]; simp [hi]
      have eb : at? b (i : Int) = some b[i] := by rw [at_nat]; simp [hib]
      have hs := ref13_Same_in (ha _ (List.getElem_mem hi)) (hb _ (List.getElem_mem hib))
      by_cases hab : a[i] = b[i]
      · refine .inr ⟨(), by rw [List.take_succ_eq_append_getElem hi, List.take_succ_eq_append_getElem hib, ht, hab], fun k hk => ⟨fun _ => ⟨_, ea, _, eb, _, fun _ => ea, _, fun _ => eb, _, fun _ => hs, fun h => ?_, fun _ => ⟨i64_of (by omega) (by omega), hk⟩⟩, fun h => absurd (by omega) (df h)⟩⟩
        rw [hab] at h; simp at h
      · refine .inl fun k => ⟨fun _ => ⟨_, ea, _, eb, _, fun _ => ea, _, fun _ => eb, _, fun _ => hs, fun _ => ?_, fun h => ?_⟩, fun h => absurd (by omega) (df h)⟩
        · simp only [decide_eq_false_iff_not]
          intro e
          subst e; exact hab rfl
        · exfalso
          simp only [Bool.or_eq_false_iff, bne_eq_false_iff_eq, Bool.not_eq_false', decide_eq_true_eq] at h
          exact hab (Prod.ext h.2 h.1)
    · intro _ ht k
      refine ⟨fun h => absurd (dt h) (by omega), fun _ => ?_⟩
      show decide (a = b) = true
      rw [List.take_length, hne, List.take_length] at ht
      simp [ht]
  · refine ⟨fun _ => ?_, fun h => absurd (Int.ofNat.inj (by simpa using h)) hne⟩
    simp only [decide_eq_false_iff_not]
    intro e
    subst e; exact hne rfl
end Go.Proofs.YtdidjelkkanenaaGreatDoor.V
namespace Go.Proofs.YtdidjelkkanenaaGreatDoor.V
open Go
set_option linter.unusedVariables false
theorem item_Lower_in {s : List SItem} (hs : s.length ≤ 1000) (hr : ∀ x ∈ s, ItR x) : item_Lower s (lowF s) := by
  refine ⟨s, clone_in hs, ?_⟩
  refine upto (P := fun k (t : List SItem) v => item_Lower.l1 s (lowF s) _ k t v) s.length (fun i t => t = (s.take i).map low1 ++ s.drop i ∧ (s.take i).any badI = false) ?_ ?_ _ ⟨by simp, by simp⟩
  · rintro i t hi ⟨rfl, hb⟩
    have hl : ((s.take i).map low1).length = i := by simp; omega
    have hat : at? ((s.take i).map low1 ++ s.drop i) (i : Int) = some s[i] := by
      rw [at_nat, List.getElem?_append_right (by omega), hl, Nat.sub_self]
      simp [hi]
    have hset : ∀ y, ((s.take i).map low1 ++ s.drop i).set i y = (s.take i).map low1 ++ [y] ++ s.drop (i + 1) := fun y => by
      rw [List.set_append_right _ _ (by omega), hl, Nat.sub_self, List.drop_eq_getElem_cons hi, List.set_cons_zero]; simp
    have hnext : (s.take (i + 1)).map low1 ++ s.drop (i + 1) = (s.take i).map low1 ++ [low1 s[i]] ++ s.drop (i + 1) := by
      rw [List.take_succ_eq_append_getElem hi, List.map_append]; rfl
    have hri := (hr _ (List.getElem_mem hi)).2.2.1
    rw [inR_i64] at hri
    by_cases h5 : s[i].1 = 5
    · by_cases hlo : s[i].2.2.1 ≤ 0
      · have hbad : badI s[i] = true := by simp [badI, h5, hlo]
        refine .inl fun k => ⟨fun _ => ⟨_, hat, fun h => by simp [h5] at h, fun _ => ⟨fun _ => ?_, fun h => absurd hlo (df h)⟩⟩, fun h => absurd (by omega) (df h)⟩
        unfold lowF; rw [if_pos (any_of hi hbad)]
      · have hbad : badI s[i] = false := by simp [badI, hlo]
        refine .inr ⟨_, ⟨rfl, by rw [any_take hi, hb, hbad]; rfl⟩, fun k h => ⟨fun _ => ⟨_, hat, fun h => by simp [h5] at h, fun _ => ⟨fun h => absurd (dt h) hlo, fun _ => ⟨_, hat, i64_of (by omega) (by omega), _, hat, i64_of (by omega) (by omega), ?_⟩⟩⟩, fun h => absurd (by omega) (df h)⟩⟩
        rw [hnext] at h
        rw [Int.toNat_natCast, hset]
        have e : low1 s[i] = (s[i].1, s[i].2.1, s[i].2.2.1 - 1, s[i].2.2.2) := by unfold low1; rw [if_pos h5]
        rw [← e]; exact h
    · have hbad : badI s[i] = false := by simp [badI, h5]
      refine .inr ⟨_, ⟨rfl, by rw [any_take hi, hb, hbad]; rfl⟩, fun k h => ⟨fun _ => ⟨_, hat, fun _ => ⟨i64_of (by omega) (by omega), ?_⟩, fun h => by simp at h; exact absurd h h5⟩, fun h => absurd (by omega) (df h)⟩⟩
      rw [hnext] at h
      have e : low1 s[i] = s[i] := by unfold low1; rw [if_neg h5]
      rw [e] at h
      rw [List.drop_eq_getElem_cons hi]
      simpa using h
  · rintro t ⟨rfl, hb⟩ k
    refine ⟨fun h => absurd (dt h) (by omega), fun _ => ?_⟩
    rw [List.take_length] at hb
    show lowF s = _
    unfold lowF
    rw [if_neg (by rw [hb]; simp)]
    simp
end Go.Proofs.YtdidjelkkanenaaGreatDoor.V
namespace Go.Proofs.YtdidjelkkanenaaGreatDoor.V
open Go
set_option linter.unusedVariables false
theorem ref13_Lower_in {s : List SItem} (hs : s.length ≤ 1000) (hr : ∀ x ∈ s, ItR x) : ref13_Lower s (lowF s) := by
  refine upto (P := fun k (t : List SItem) v => ref13_Lower.l1 s (lowF s) _ k t v) s.length (fun i t => t = (s.take i).map low1 ∧ (s.take i).any badI = false) ?_ ?_ _ ⟨by simp, by simp⟩
  · rintro i t hi ⟨rfl, hb⟩
    have hl : ((s.take i).map low1).length = i := by simp; omega
    have hat : at? s (i : Int) = some s[i] := by rw [at_nat]; simp [hi]
    have hnext : (s.take (i + 1)).map low1 = (s.take i).map low1 ++ [low1 s[i]] := by
      rw [List.take_succ_eq_append_getElem hi, List.map_append]; rfl
    have hri := (hr _ (List.getElem_mem hi)).2.2.1
    rw [inR_i64] at hri
    have hj : ∀ k, ref13_Lower.l1 s (lowF s) (ref13_Lower.j1 (lowF s)) k ((s.take (i + 1)).map low1) ((i : Int) + 1) → ref13_Lower.j2 (ref13_Lower.l1 s (lowF s) (ref13_Lower.j1 (lowF s)) k) ((s.take i).map low1) (i : Int) (low1 s[i]) := fun k h => by
      refine ⟨by rw [hl]; simp only [List.length_cons, List.length_nil]; omega, i64_of (by omega) (by omega), ?_⟩
      rw [hnext] at h; exact h
    by_cases h5 : s[i].1 = 5
    · by_cases hlo : s[i].2.2.1 ≤ 0
      · have hbad : badI s[i] = true := by simp [badI, h5, hlo]
        refine .inl fun k => ⟨fun _ => ⟨_, hat, fun _ => ⟨fun _ => ?_, fun h => absurd hlo (df h)⟩, fun h => by simp [h5] at h⟩, fun h => absurd (by omega) (df h)⟩
        unfold lowF; rw [if_pos (any_of hi hbad)]
      · have hbad : badI s[i] = false := by simp [badI, hlo]
        refine .inr ⟨_, ⟨rfl, by rw [any_take hi, hb, hbad]; rfl⟩, fun k h => ⟨fun _ => ⟨_, hat, fun _ => ⟨fun h => absurd (dt h) hlo, fun _ => ⟨i64_of (by omega) (by omega), ?_⟩⟩, fun h => by simp [h5] at h⟩, fun h => absurd (by omega) (df h)⟩⟩
        have := hj k h
        unfold low1 at this
        rw [if_pos h5] at this
        exact this
    · have hbad : badI s[i] = false := by simp [badI, h5]
      refine .inr ⟨_, ⟨rfl, by rw [any_take hi, hb, hbad]; rfl⟩, fun k h => ⟨fun _ => ⟨_, hat, fun h => by simp at h; exact absurd h h5, fun _ => ?_⟩, fun h => absurd (by omega) (df h)⟩⟩
      have := hj k h
      unfold low1 at this
      rw [if_neg h5] at this
      exact this
  · rintro t ⟨rfl, hb⟩ k
    refine ⟨fun h => absurd (dt h) (by omega), fun _ => ?_⟩
    rw [List.take_length] at hb
    show lowF s = _
    unfold lowF
    rw [if_neg (by rw [hb]; simp), List.take_length]
end Go.Proofs.YtdidjelkkanenaaGreatDoor.V
