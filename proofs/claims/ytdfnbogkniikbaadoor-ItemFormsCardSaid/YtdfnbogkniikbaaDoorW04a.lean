/- The walks of the functions of layer 4 (by gen.py). -/
import Derived.Test.YtdfnbogkniikbaaDoorW03a
import Derived.Test.YtdfnbogkniikbaaDoorR04
namespace Go.Proofs.YtdfnbogkniikbaaDoor.V
open Go
set_option linter.unusedVariables false
set_option maxRecDepth 100000
theorem ref04_Few_ok {d_ : SDesc} {r_ : Bool} (h : ref04_Few d_ r_) : Fn Tryd.prog 13 [(Pd.rep En.SDesc d_)] (Rq (Pd.rep En.bool r_)) := by
  unfold ref04_Few at h
  refine fn_of Tryd.func13 rfl Tryd.ntmps13 (by rfl) (by simp) fun s0 a hL => ?_
  refine wp_seq_k fun K1 hK1 => ?_
  refine rg ?_
  refine st 1 (t_box (o_t 0 rfl) rfl rfl) rfl rfl hL fun a s e_ hL => ?_
  refine st 2 (t_assign o_b rfl rfl) rfl rfl hL fun a s e_ hL => ?_
  refine en' ?_
  show K1 a s.w
  refine hK1 _ _ ?_
  refine wp_seq_k fun K2 hK2 => ?_
  refine rg ?_
  refine st 3 (t_assign (o_i (by decide)) rfl rfl) rfl rfl hL fun a s e_ hL => ?_
  refine en' ?_
  show K2 a s.w
  refine hK2 _ _ ?_
  refine wp_seq_k fun K3 hK3 => ?_
  refine wp_seq_k fun K4 hK4 => ?_
  refine rg ?_
  refine st 4 (t_assign (o_i (by decide)) rfl rfl) rfl rfl hL fun a s e_ hL => ?_
  refine en' ?_
  show K4 a s.w
  refine hK4 _ _ ?_
  refine wp_block ?_
  have J6 : ∀ (n5 : Int) (a : Act) (s : St), Has N0 33 s0 a s [(1, (Pd.ptr En.SDesc d_)), (3, (Pd.rep (En.int .i64) n5))] → ((ref04_Few.j1 d_ r_) n5) → K3 a s.w := by
    intro n5 a s hL h
    unfold ref04_Few.j1 at h
    show K3 a s.w
    refine hK3 _ _ ?_
    refine wp_seq_k fun K7 hK7 => ?_
    obtain ⟨b8, h9, h⟩ := h
    refine rg ?_
    refine st 25 (t_fa (off := 0) (o_t 1 rfl) Tryd.underlying24 rfl (prt_solo (prt_all _ _)) rfl ty22 rfl rfl) rfl rfl hL fun a s e_ hL => ?_
    refine st 26 (t_load ty22 (o_t 25 rfl) rfl rfl) rfl rfl hL fun a s e_ hL => ?_
    refine st 27 (t_len (o_t 26 rfl) Tryd.underlying22 rfl rfl) rfl rfl hL fun a s e_ hL => ?_
    refine st 28 (t_leq (o_t 27 rfl) (o_i (by decide)) rfl rfl) rfl rfl hL fun a s e_ hL => ?_
    refine st 29 (t_move (o_t 28 rfl) rfl rfl) rfl rfl hL fun a s e_ hL => ?_
    refine st 30 (t_g1 rfl rfl rfl (fun hc_ => t_move (o_t 3 rfl) rfl rfl)) rfl rfl hL fun a s e_ hL => ?_
    refine st 31 (t_g1 rfl rfl rfl (fun hc_ => t_leq (o_w hc_ 30 rfl) (o_i (by decide)) rfl rfl)) rfl rfl hL fun a s e_ hL => ?_
    refine st 32 (h9 ▸ (t_and (o_t 29 rfl) (fun hc2_ => (o_w hc2_ 31 rfl)) rfl rfl)) rfl rfl hL fun a s e_ hL => ?_
    refine st 2 (t_assign (o_t 32 rfl) rfl rfl) rfl rfl hL fun a s e_ hL => ?_
    refine en' ?_
    show K7 a s.w
    refine hK7 _ _ ?_
    subst h
    exact wp_ret (retq rfl hL rfl)
  obtain ⟨k12, h⟩ := h
  refine lpg (fun k13 a s => ∃ (n10 : Int) (i11 : Int), Has N0 33 s0 a s [(1, (Pd.ptr En.SDesc d_)), (3, (Pd.rep (En.int .i64) n10)), (4, (Pd.rep (En.int .i64) i11))] ∧ ref04_Few.l1 d_ (ref04_Few.j1 d_ r_) k13 n10 i11) k12 ⟨0, 0, hL.keep (.cons (t := 1) rfl (fun _ h_ => h_.elim) (.cons (t := 3) rfl (fun _ h_ => h_.elim) (.cons (t := 4) rfl (fun _ h_ => h_.elim) .nil))), h⟩ ?_
  rintro k13 a s ⟨n10, i11, hL, h⟩ KL14 hKL14
  cases k13 with
  | zero => exact h.elim
  | succ k13 =>
  unfold ref04_Few.l1 at h
  refine wp_seq_k fun K15 hK15 => ?_
  refine wp_seq_k fun K16 hK16 => ?_
  obtain ⟨b17, h18, h⟩ := h
  refine rg ?_
  refine st 5 (t_move (o_t 4 rfl) rfl rfl) rfl rfl hL fun a s e_ hL => ?_
  refine st 6 (t_fa (off := 0) (o_t 1 rfl) Tryd.underlying24 rfl (prt_solo (prt_all _ _)) rfl ty22 rfl rfl) rfl rfl hL fun a s e_ hL => ?_
  refine st 7 (t_load ty22 (o_t 6 rfl) rfl rfl) rfl rfl hL fun a s e_ hL => ?_
  refine st 8 (t_len (o_t 7 rfl) Tryd.underlying22 rfl rfl) rfl rfl hL fun a s e_ hL => ?_
  refine st 9 (t_lss (o_t 5 rfl) (o_t 8 rfl) rfl rfl) rfl rfl hL fun a s e_ hL => ?_
  refine st 10 (t_move (o_t 9 rfl) rfl rfl) rfl rfl hL fun a s e_ hL => ?_
  refine st 11 (t_g1 rfl rfl rfl (fun hc_ => t_move (o_t 4 rfl) rfl rfl)) rfl rfl hL fun a s e_ hL => ?_
  refine st 12 (t_g1 rfl rfl rfl (fun hc_ => t_lss (o_w hc_ 11 rfl) (o_i (by decide)) rfl rfl)) rfl rfl hL fun a s e_ hL => ?_
  refine st 13 (h18 ▸ (t_and (o_t 10 rfl) (fun hc2_ => (o_w hc2_ 12 rfl)) rfl rfl)) rfl rfl hL fun a s e_ hL => ?_
  refine en' ?_
  show K16 a s.w
  refine hK16 _ _ ?_
  refine cnd hL rfl (fun hb_ => ?_) (fun hb_ => ?_)
  · replace h := h.1 hb_
    refine wp_skip ?_
    show K15 a s.w
    refine hK15 _ _ ?_
    refine wp_seq_k fun K19 hK19 => ?_
    refine wp_block ?_
    obtain ⟨e20, h21, h22, h⟩ := h
    refine rg ?_
    refine st 16 (t_move (o_t 3 rfl) rfl rfl) rfl rfl hL fun a s e_ hL => ?_
    refine st 17 (t_fa (off := 0) (o_t 1 rfl) Tryd.underlying24 rfl (prt_solo (prt_all _ _)) rfl ty22 rfl rfl) rfl rfl hL fun a s e_ hL => ?_
    refine st 18 (t_load ty22 (o_t 17 rfl) rfl rfl) rfl rfl hL fun a s e_ hL => ?_
    refine st 19 (t_move (o_t 4 rfl) rfl rfl) rfl rfl hL fun a s e_ hL => ?_
    refine st 20 (t_idx (o_t 18 rfl) (o_t 19 rfl) h21 Tryd.underlying22 ty69 rfl rfl) rfl rfl hL fun a s e_ hL => ?_
    refine st 21 (t_fa (off := 9) (o_t 20 rfl) Tryd.underlying69 rfl (prt_snd (prt_snd (prt_snd (prt_snd (prt_snd (prt_snd (prt_all _ _) rfl) rfl) rfl) rfl) rfl) rfl) rfl ty9 rfl rfl) rfl rfl hL fun a s e_ hL => ?_
    refine st 22 (t_load ty9 (o_t 21 rfl) rfl rfl) rfl rfl hL fun a s e_ hL => ?_
    refine st 23 (t_slen (o_t 22 rfl) Tryd.underlying9 rfl rfl) rfl rfl hL fun a s e_ hL => ?_
    refine st 24 (t_add (o_t 16 rfl) (o_t 23 rfl) h22 rfl rfl) rfl rfl hL fun a s e_ hL => ?_
    refine st 3 (t_assign (o_t 24 rfl) rfl rfl) rfl rfl hL fun a s e_ hL => ?_
    refine en' ?_
    show K19 a s.w
    refine hK19 _ _ ?_
    obtain ⟨h23, h⟩ := h
    refine rg ?_
    refine st 14 (t_move (o_t 4 rfl) rfl rfl) rfl rfl hL fun a s e_ hL => ?_
    refine st 15 (t_add (o_t 14 rfl) (o_i (by decide)) h23 rfl rfl) rfl rfl hL fun a s e_ hL => ?_
    refine st 4 (t_assign (o_t 15 rfl) rfl rfl) rfl rfl hL fun a s e_ hL => ?_
    refine en' ?_
    exact hKL14 k13 a s (Nat.lt_succ_self _) ⟨(n10 + (e20.2.2.2.2.2.2.length : Int)), (i11 + 1), hL.keep (.cons (t := 1) rfl (fun _ h_ => h_.elim) (.cons (t := 3) rfl (fun _ h_ => h_.elim) (.cons (t := 4) rfl (fun _ h_ => h_.elim) .nil))), h⟩
  · replace h := h.2 hb_
    refine wp_exit ?_
    exact J6 n10 a s (hL.keep (.cons (t := 1) rfl (fun _ h_ => h_.elim) (.cons (t := 3) rfl (fun _ h_ => h_.elim) .nil))) h

theorem ref04_text_ok {s_ : Str} {r_ : Bool} (h : ref04_text s_ r_) : Fn Tryd.prog 69 [(Pd.rep En.str s_)] (Rq (Pd.rep En.bool r_)) := by
  unfold ref04_text at h
  refine fn_of Tryd.func69 rfl Tryd.ntmps69 (by rfl) (by simp) fun s0 a hL => ?_
  refine wp_seq_k fun K1 hK1 => ?_
  refine rg ?_
  refine st 2 (t_assign o_b rfl rfl) rfl rfl hL fun a s e_ hL => ?_
  refine en' ?_
  show K1 a s.w
  refine hK1 _ _ ?_
  refine wp_seq_k fun K2 hK2 => ?_
  refine wp_seq_k fun K3 hK3 => ?_
  refine rg ?_
  refine st 3 (t_assign (o_i (by decide)) rfl rfl) rfl rfl hL fun a s e_ hL => ?_
  refine en' ?_
  show K3 a s.w
  refine hK3 _ _ ?_
  refine wp_block ?_
  have J4 : ∀ (a : Act) (s : St), Has N0 21 s0 a s [(0, (Pd.rep En.str s_))] → ((ref04_text.j1 s_ r_)) → K2 a s.w := by
    intro a s hL h
    unfold ref04_text.j1 at h
    show K2 a s.w
    refine hK2 _ _ ?_
    refine wp_seq_k fun K5 hK5 => ?_
    obtain ⟨r6, h7, h⟩ := h
    refine rg ?_
    refine st 14 (t_move (o_t 0 rfl) rfl rfl) rfl rfl hL fun a s e_ hL => ?_
    refine st 15 (t_slen (o_t 14 rfl) Tryd.underlying9 rfl rfl) rfl rfl hL fun a s e_ hL => ?_
    refine st 16 (t_gtr (o_t 15 rfl) (o_i (by decide)) rfl rfl) rfl rfl hL fun a s e_ hL => ?_
    refine st 17 (t_move (o_t 16 rfl) rfl rfl) rfl rfl hL fun a s e_ hL => ?_
    refine st 18 (t_g1 rfl rfl rfl (fun hc_ => t_move (o_t 0 rfl) rfl rfl)) rfl rfl hL fun a s e_ hL => ?_
    refine st 19 (t_g1 rfl rfl rfl (fun hc_ => t_call (ref03_Utf8_ok (h7 hc_)) (xs := [.tmp 18]) (.cons (o_w hc_ 18 rfl) .nil) rfl rfl)) rfl rfl hL fun a s e_ hL => ?_
    refine st 20 (t_and (o_t 17 rfl) (fun hc2_ => (o_w hc2_ 19 rfl)) rfl rfl) rfl rfl hL fun a s e_ hL => ?_
    refine st 2 (t_assign (o_t 20 rfl) rfl rfl) rfl rfl hL fun a s e_ hL => ?_
    refine en' ?_
    show K5 a s.w
    refine hK5 _ _ ?_
    subst h
    exact wp_ret (retq rfl hL rfl)
  obtain ⟨k9, h⟩ := h
  refine lpg (fun k10 a s => ∃ (i8 : Int), Has N0 21 s0 a s [(0, (Pd.rep En.str s_)), (3, (Pd.rep (En.int .i64) i8))] ∧ ref04_text.l1 s_ r_ (ref04_text.j1 s_ r_) k10 i8) k9 ⟨0, hL.keep (.cons (t := 0) rfl (fun _ h_ => h_.elim) (.cons (t := 3) rfl (fun _ h_ => h_.elim) .nil)), h⟩ ?_
  rintro k10 a s ⟨i8, hL, h⟩ KL11 hKL11
  cases k10 with
  | zero => exact h.elim
  | succ k10 =>
  unfold ref04_text.l1 at h
  refine wp_seq_k fun K12 hK12 => ?_
  refine wp_seq_k fun K13 hK13 => ?_
  refine rg ?_
  refine st 4 (t_move (o_t 3 rfl) rfl rfl) rfl rfl hL fun a s e_ hL => ?_
  refine st 5 (t_move (o_t 0 rfl) rfl rfl) rfl rfl hL fun a s e_ hL => ?_
  refine st 6 (t_slen (o_t 5 rfl) Tryd.underlying9 rfl rfl) rfl rfl hL fun a s e_ hL => ?_
  refine st 7 (t_lss (o_t 4 rfl) (o_t 6 rfl) rfl rfl) rfl rfl hL fun a s e_ hL => ?_
  refine en' ?_
  show K13 a s.w
  refine hK13 _ _ ?_
  refine cnd hL rfl (fun hb_ => ?_) (fun hb_ => ?_)
  · replace h := h.1 hb_
    refine wp_skip ?_
    show K12 a s.w
    refine hK12 _ _ ?_
    refine wp_seq_k fun K14 hK14 => ?_
    refine wp_block ?_
    refine wp_seq_k fun K15 hK15 => ?_
    obtain ⟨c16, h17, h⟩ := h
    refine rg ?_
    refine st 10 (t_move (o_t 0 rfl) rfl rfl) rfl rfl hL fun a s e_ hL => ?_
    refine st 11 (t_move (o_t 3 rfl) rfl rfl) rfl rfl hL fun a s e_ hL => ?_
    refine st 12 (t_sidx (o_t 10 rfl) (o_t 11 rfl) h17 Tryd.underlying9 rfl rfl) rfl rfl hL fun a s e_ hL => ?_
    refine st 13 (t_eqi (o_t 12 rfl) (o_i (by decide)) rfl rfl) rfl rfl hL fun a s e_ hL => ?_
    refine en' ?_
    show K15 a s.w
    refine hK15 _ _ ?_
    refine cnd hL rfl (fun hb_ => ?_) (fun hb_ => ?_)
    · replace h := h.1 hb_
      refine wp_seq_k fun K18 hK18 => ?_
      refine rg ?_
      refine st 2 (t_assign o_b rfl rfl) rfl rfl hL fun a s e_ hL => ?_
      refine en' ?_
      show K18 a s.w
      refine hK18 _ _ ?_
      subst h
      exact wp_ret (retq rfl hL rfl)
    · replace h := h.2 hb_
      refine wp_skip ?_
      show K14 a s.w
      refine hK14 _ _ ?_
      obtain ⟨h19, h⟩ := h
      refine rg ?_
      refine st 8 (t_move (o_t 3 rfl) rfl rfl) rfl rfl hL fun a s e_ hL => ?_
      refine st 9 (t_add (o_t 8 rfl) (o_i (by decide)) h19 rfl rfl) rfl rfl hL fun a s e_ hL => ?_
      refine st 3 (t_assign (o_t 9 rfl) rfl rfl) rfl rfl hL fun a s e_ hL => ?_
      refine en' ?_
      exact hKL11 k10 a s (Nat.lt_succ_self _) ⟨(i8 + 1), hL.keep (.cons (t := 0) rfl (fun _ h_ => h_.elim) (.cons (t := 3) rfl (fun _ h_ => h_.elim) .nil)), h⟩
  · replace h := h.2 hb_
    refine wp_exit ?_
    exact J4 a s (hL.keep (.cons (t := 0) rfl (fun _ h_ => h_.elim) .nil)) h

theorem ref04_First.n_ok (k_ : Nat) : ∀ {l_ : (List SNode)} {i_ : Int} {r_ : Int} (h : ref04_First.n k_ l_ i_ r_), Fn Tryd.prog 58 [(Pd.rep (En.slice En.SNode) l_), (Pd.rep (En.int .i64) i_)] (Rq (Pd.rep (En.int .i64) r_)) := by
  induction k_ with
  | zero => intro l_ i_ r_ h; exact h.elim
  | succ k_ ih_ =>
  intro l_ i_ r_ h
  unfold ref04_First.n at h
  refine fn_of Tryd.func58 rfl Tryd.ntmps58 (by rfl) (by simp) fun s0 a hL => ?_
  refine wp_seq_k fun K1 hK1 => ?_
  refine rg ?_
  refine st 4 (t_assign (o_i (by decide)) rfl rfl) rfl rfl hL fun a s e_ hL => ?_
  refine en' ?_
  show K1 a s.w
  refine hK1 _ _ ?_
  refine wp_seq_k fun K2 hK2 => ?_
  refine wp_seq_k fun K3 hK3 => ?_
  refine rg ?_
  refine st 9 (t_move (o_t 1 rfl) rfl rfl) rfl rfl hL fun a s e_ hL => ?_
  refine st 10 (t_lss (o_t 9 rfl) (o_i (by decide)) rfl rfl) rfl rfl hL fun a s e_ hL => ?_
  refine en' ?_
  show K3 a s.w
  refine hK3 _ _ ?_
  refine cnd hL rfl (fun hb_ => ?_) (fun hb_ => ?_)
  · replace h := h.1 hb_
    refine wp_seq_k fun K4 hK4 => ?_
    refine rg ?_
    refine st 4 (t_assign (o_i (by decide)) rfl rfl) rfl rfl hL fun a s e_ hL => ?_
    refine en' ?_
    show K4 a s.w
    refine hK4 _ _ ?_
    subst h
    exact wp_ret (retq rfl hL rfl)
  · replace h := h.2 hb_
    refine wp_skip ?_
    show K2 a s.w
    refine hK2 _ _ ?_
    refine wp_seq_k fun K5 hK5 => ?_
    obtain ⟨e6, h7, h⟩ := h
    refine rg ?_
    refine st 11 (t_move (o_t 0 rfl) rfl rfl) rfl rfl hL fun a s e_ hL => ?_
    refine st 12 (t_move (o_t 1 rfl) rfl rfl) rfl rfl hL fun a s e_ hL => ?_
    refine st 13 (t_idx (o_t 11 rfl) (o_t 12 rfl) h7 Tryd.underlying22 ty69 rfl rfl) rfl rfl hL fun a s e_ hL => ?_
    refine st 14 (t_load ty69 (o_t 13 rfl) rfl rfl) rfl rfl hL fun a s e_ hL => ?_
    refine st_alloc En.SNode (z := (0, 0, 0, 0, 0, (0#256), ([] : Str))) 5 hL tyz69 rfl rfl rfl rfl fun a s g8 hg_ hL => ?_
    refine st_stb (L' := [(0, (Pd.rep (En.slice En.SNode) l_)), (1, (Pd.rep (En.int .i64) i_))]) 5 hL rfl (o_t 14 rfl) ty69 rfl rfl rfl (.cons (t := 0) rfl (fun _ h_ => h_.elim) (.cons (t := 1) rfl (fun _ h_ => h_.elim) .nil)) fun s hL => ?_
    refine en' ?_
    show K5 a s.w
    refine hK5 _ _ ?_
    refine wp_seq_k fun K9 hK9 => ?_
    refine rg ?_
    refine st 15 (t_fab (off := 0) (o_t 5 rfl) Tryd.underlying69 rfl (prt_fst (prt_all _ _)) rfl ty3 rfl rfl) rfl rfl hL fun a s e_ hL => ?_
    refine st 16 (t_loado ty3 (o_t 15 rfl) rfl rfl) rfl rfl hL fun a s e_ hL => ?_
    refine st 17 (t_build (x := (e6.1, 0, 0, 0, 0, (0#256), ([] : Str))) (ps := [(0, .tmp 16)]) tyz69 rfl stt69 (.cons (i := 0) (o_t 16 rfl) rfl (sub_fst (sub_all _ _ _)) .nil) rfl rfl) rfl rfl hL fun a s e_ hL => ?_
    have lt_d11 := hL.blt 5 rfl
    refine st_alloc En.SNode (z := (0, 0, 0, 0, 0, (0#256), ([] : Str))) 6 hL tyz69 rfl rfl rfl rfl fun a s g10 hg_ hL => ?_
    have d11 : Dis (some g10) (some g8) := Dis.newg hg_ lt_d11
    refine st_stb (L' := [(0, (Pd.rep (En.slice En.SNode) l_)), (1, (Pd.rep (En.int .i64) i_)), (5, (Pd.box En.SNode s0.w.heap.size g8 e6))]) 6 hL rfl (o_t 17 rfl) ty69 rfl rfl rfl (.cons (t := 0) rfl (fun _ h_ => h_.elim) (.cons (t := 1) rfl (fun _ h_ => h_.elim) (.cons (t := 5) rfl (Dis.bx (Dis.symm d11)) .nil))) fun s hL => ?_
    refine en' ?_
    show K9 a s.w
    refine hK9 _ _ ?_
    refine wp_seq_k fun K12 hK12 => ?_
    refine rg ?_
    refine st 18 (t_move (o_t 1 rfl) rfl rfl) rfl rfl hL fun a s e_ hL => ?_
    refine st 7 (t_assign (o_t 18 rfl) rfl rfl) rfl rfl hL fun a s e_ hL => ?_
    refine en' ?_
    show K12 a s.w
    refine hK12 _ _ ?_
    refine wp_seq_k fun K13 hK13 => ?_
    refine wp_seq_k fun K14 hK14 => ?_
    refine rg ?_
    refine st 19 (t_fab (off := 0) (o_t 5 rfl) Tryd.underlying69 rfl (prt_fst (prt_all _ _)) rfl ty3 rfl rfl) rfl rfl hL fun a s e_ hL => ?_
    refine st 20 (t_loado ty3 (o_t 19 rfl) rfl rfl) rfl rfl hL fun a s e_ hL => ?_
    refine en' ?_
    show K14 a s.w
    refine hK14 _ _ ?_
    refine wp_block ?_
    refine wp_seq_k fun K15 hK15 => ?_
    refine rg ?_
    refine st 22 (t_eqi (o_t 20 rfl) (o_i (by decide)) rfl rfl) rfl rfl hL fun a s e_ hL => ?_
    refine st 21 (t_assign (o_t 22 rfl) rfl rfl) rfl rfl hL fun a s e_ hL => ?_
    refine en' ?_
    show K15 a s.w
    refine hK15 _ _ ?_
    refine cnd hL rfl (fun hb_ => ?_) (fun hb_ => ?_)
    · replace h := h.1 hb_
      refine wp_skip ?_
      show K13 a s.w
      refine hK13 _ _ ?_
      refine wp_seq_k fun K16 hK16 => ?_
      refine wp_seq_k fun K17 hK17 => ?_
      refine rg ?_
      refine st 92 (t_loadb ty69 (o_t 5 rfl) rfl rfl) rfl rfl hL fun a s e_ hL => ?_
      refine st 93 (t_loadb ty69 (o_t 6 rfl) rfl rfl) rfl rfl hL fun a s e_ hL => ?_
      refine st 94 (t_nev eq69 (o_t 92 rfl) (o_t 93 rfl) rfl rfl) rfl rfl hL fun a s e_ hL => ?_
      refine en' ?_
      show K17 a s.w
      refine hK17 _ _ ?_
      refine cnd hL rfl (fun hb_ => ?_) (fun hb_ => ?_)
      · replace h := h.1 hb_
        refine wp_seq_k fun K18 hK18 => ?_
        refine rg ?_
        refine st 4 (t_assign (o_i (by decide)) rfl rfl) rfl rfl hL fun a s e_ hL => ?_
        refine en' ?_
        show K18 a s.w
        refine hK18 _ _ ?_
        subst h
        exact wp_ret (retq rfl hL rfl)
      · replace h := h.2 hb_
        refine wp_skip ?_
        show K16 a s.w
        refine hK16 _ _ ?_
        refine wp_seq_k fun K19 hK19 => ?_
        refine rg ?_
        refine st 95 (t_move (o_t 7 rfl) rfl rfl) rfl rfl hL fun a s e_ hL => ?_
        refine st 4 (t_assign (o_t 95 rfl) rfl rfl) rfl rfl hL fun a s e_ hL => ?_
        refine en' ?_
        show K19 a s.w
        refine hK19 _ _ ?_
        subst h
        exact wp_ret (retq rfl hL rfl)
    · replace h := h.2 hb_
      refine wp_seq_k fun K20 hK20 => ?_
      refine rg ?_
      refine st 24 (t_eqi (o_t 20 rfl) (o_i (by decide)) rfl rfl) rfl rfl hL fun a s e_ hL => ?_
      refine st 23 (t_assign (o_t 24 rfl) rfl rfl) rfl rfl hL fun a s e_ hL => ?_
      refine en' ?_
      show K20 a s.w
      refine hK20 _ _ ?_
      refine cnd hL rfl (fun hb_ => ?_) (fun hb_ => ?_)
      · replace h := h.1 hb_
        refine rg ?_
        refine st 25 (t_fab (off := 5) (o_t 5 rfl) Tryd.underlying69 rfl (prt_snd (prt_snd (prt_snd (prt_snd (prt_snd (prt_fst (prt_all _ _)) rfl) rfl) rfl) rfl) rfl) rfl ty67 rfl rfl) rfl rfl hL fun a s e_ hL => ?_
        refine st 26 (t_loado ty67 (o_t 25 rfl) rfl rfl) rfl rfl hL fun a s e_ hL => ?_
        refine st 27 (t_fab (off := 5) (o_t 6 rfl) Tryd.underlying69 rfl (prt_snd (prt_snd (prt_snd (prt_snd (prt_snd (prt_fst (prt_all _ _)) rfl) rfl) rfl) rfl) rfl) rfl ty67 rfl rfl) rfl rfl hL fun a s e_ hL => ?_
        refine st_stob (L' := [(5, (Pd.box En.SNode s0.w.heap.size g8 e6)), (7, (Pd.rep (En.int .i64) i_))]) 6 hL rfl (o_t 27 rfl) (o_t 26 rfl) (sub_snd (sub_snd (sub_snd (sub_snd (sub_snd (sub_fst (sub_all _ _ _)) rfl) rfl) rfl) rfl) rfl) ty67 rfl rfl rfl (.cons (t := 5) rfl (Dis.bx (Dis.symm d11)) (.cons (t := 7) rfl (fun _ h_ => h_.elim) .nil)) fun s hL => ?_
        refine en' ?_
        show K13 a s.w
        refine hK13 _ _ ?_
        refine wp_seq_k fun K21 hK21 => ?_
        refine wp_seq_k fun K22 hK22 => ?_
        obtain ⟨b23, h24, h⟩ := h
        refine rg ?_
        refine st 92 (t_loadb ty69 (o_t 5 rfl) rfl rfl) rfl rfl hL fun a s e_ hL => ?_
        refine st 93 (t_loadb ty69 (o_t 6 rfl) rfl rfl) rfl rfl hL fun a s e_ hL => ?_
        refine st 94 (h24 ▸ (t_nev eq69 (o_t 92 rfl) (o_t 93 rfl) rfl rfl)) rfl rfl hL fun a s e_ hL => ?_
        refine en' ?_
        show K22 a s.w
        refine hK22 _ _ ?_
        refine cnd hL rfl (fun hb_ => ?_) (fun hb_ => ?_)
        · replace h := h.1 hb_
          refine wp_seq_k fun K25 hK25 => ?_
          refine rg ?_
          refine st 4 (t_assign (o_i (by decide)) rfl rfl) rfl rfl hL fun a s e_ hL => ?_
          refine en' ?_
          show K25 a s.w
          refine hK25 _ _ ?_
          subst h
          exact wp_ret (retq rfl hL rfl)
        · replace h := h.2 hb_
          refine wp_skip ?_
          show K21 a s.w
          refine hK21 _ _ ?_
          refine wp_seq_k fun K26 hK26 => ?_
          refine rg ?_
          refine st 95 (t_move (o_t 7 rfl) rfl rfl) rfl rfl hL fun a s e_ hL => ?_
          refine st 4 (t_assign (o_t 95 rfl) rfl rfl) rfl rfl hL fun a s e_ hL => ?_
          refine en' ?_
          show K26 a s.w
          refine hK26 _ _ ?_
          subst h
          exact wp_ret (retq rfl hL rfl)
      · replace h := h.2 hb_
        refine wp_seq_k fun K27 hK27 => ?_
        refine rg ?_
        refine st 29 (t_eqi (o_t 20 rfl) (o_i (by decide)) rfl rfl) rfl rfl hL fun a s e_ hL => ?_
        refine st 28 (t_assign (o_t 29 rfl) rfl rfl) rfl rfl hL fun a s e_ hL => ?_
        refine en' ?_
        show K27 a s.w
        refine hK27 _ _ ?_
        refine cnd hL rfl (fun hb_ => ?_) (fun hb_ => ?_)
        · replace h := h.1 hb_
          refine wp_seq_k fun K28 hK28 => ?_
          refine rg ?_
          refine st 30 (t_fab (off := 9) (o_t 5 rfl) Tryd.underlying69 rfl (prt_snd (prt_snd (prt_snd (prt_snd (prt_snd (prt_snd (prt_all _ _) rfl) rfl) rfl) rfl) rfl) rfl) rfl ty9 rfl rfl) rfl rfl hL fun a s e_ hL => ?_
          refine st 31 (t_loado ty9 (o_t 30 rfl) rfl rfl) rfl rfl hL fun a s e_ hL => ?_
          refine st 32 (t_fab (off := 9) (o_t 6 rfl) Tryd.underlying69 rfl (prt_snd (prt_snd (prt_snd (prt_snd (prt_snd (prt_snd (prt_all _ _) rfl) rfl) rfl) rfl) rfl) rfl) rfl ty9 rfl rfl) rfl rfl hL fun a s e_ hL => ?_
          refine st_stob (L' := [(5, (Pd.box En.SNode s0.w.heap.size g8 e6)), (7, (Pd.rep (En.int .i64) i_))]) 6 hL rfl (o_t 32 rfl) (o_t 31 rfl) (sub_snd (sub_snd (sub_snd (sub_snd (sub_snd (sub_snd (sub_all _ _ _) rfl) rfl) rfl) rfl) rfl) rfl) ty9 rfl rfl rfl (.cons (t := 5) rfl (Dis.bx (Dis.symm d11)) (.cons (t := 7) rfl (fun _ h_ => h_.elim) .nil)) fun s hL => ?_
          refine en' ?_
          show K28 a s.w
          refine hK28 _ _ ?_
          refine wp_seq_k fun K29 hK29 => ?_
          obtain ⟨r30, h31, h⟩ := h
          refine rg ?_
          refine st 33 (t_fab (off := 9) (o_t 5 rfl) Tryd.underlying69 rfl (prt_snd (prt_snd (prt_snd (prt_snd (prt_snd (prt_snd (prt_all _ _) rfl) rfl) rfl) rfl) rfl) rfl) rfl ty9 rfl rfl) rfl rfl hL fun a s e_ hL => ?_
          refine st 34 (t_loado ty9 (o_t 33 rfl) rfl rfl) rfl rfl hL fun a s e_ hL => ?_
          refine st 35 (t_call (ref04_text_ok h31) (xs := [.tmp 34]) (.cons (o_t 34 rfl) .nil) rfl rfl) rfl rfl hL fun a s e_ hL => ?_
          refine st 36 (t_not (o_t 35 rfl) rfl rfl) rfl rfl hL fun a s e_ hL => ?_
          refine en' ?_
          show K29 a s.w
          refine hK29 _ _ ?_
          refine cnd hL rfl (fun hb_ => ?_) (fun hb_ => ?_)
          · replace h := h.1 hb_
            refine wp_seq_k fun K32 hK32 => ?_
            refine rg ?_
            refine st 4 (t_assign (o_i (by decide)) rfl rfl) rfl rfl hL fun a s e_ hL => ?_
            refine en' ?_
            show K32 a s.w
            refine hK32 _ _ ?_
            subst h
            exact wp_ret (retq rfl hL rfl)
          · replace h := h.2 hb_
            refine wp_skip ?_
            show K13 a s.w
            refine hK13 _ _ ?_
            refine wp_seq_k fun K33 hK33 => ?_
            refine wp_seq_k fun K34 hK34 => ?_
            obtain ⟨b35, h36, h⟩ := h
            refine rg ?_
            refine st 92 (t_loadb ty69 (o_t 5 rfl) rfl rfl) rfl rfl hL fun a s e_ hL => ?_
            refine st 93 (t_loadb ty69 (o_t 6 rfl) rfl rfl) rfl rfl hL fun a s e_ hL => ?_
            refine st 94 (h36 ▸ (t_nev eq69 (o_t 92 rfl) (o_t 93 rfl) rfl rfl)) rfl rfl hL fun a s e_ hL => ?_
            refine en' ?_
            show K34 a s.w
            refine hK34 _ _ ?_
            refine cnd hL rfl (fun hb_ => ?_) (fun hb_ => ?_)
            · replace h := h.1 hb_
              refine wp_seq_k fun K37 hK37 => ?_
              refine rg ?_
              refine st 4 (t_assign (o_i (by decide)) rfl rfl) rfl rfl hL fun a s e_ hL => ?_
              refine en' ?_
              show K37 a s.w
              refine hK37 _ _ ?_
              subst h
              exact wp_ret (retq rfl hL rfl)
            · replace h := h.2 hb_
              refine wp_skip ?_
              show K33 a s.w
              refine hK33 _ _ ?_
              refine wp_seq_k fun K38 hK38 => ?_
              refine rg ?_
              refine st 95 (t_move (o_t 7 rfl) rfl rfl) rfl rfl hL fun a s e_ hL => ?_
              refine st 4 (t_assign (o_t 95 rfl) rfl rfl) rfl rfl hL fun a s e_ hL => ?_
              refine en' ?_
              show K38 a s.w
              refine hK38 _ _ ?_
              subst h
              exact wp_ret (retq rfl hL rfl)
        · replace h := h.2 hb_
          refine wp_seq_k fun K39 hK39 => ?_
          refine wp_seq_k fun K40 hK40 => ?_
          refine rg ?_
          refine st 38 (t_eqi (o_t 20 rfl) (o_i (by decide)) rfl rfl) rfl rfl hL fun a s e_ hL => ?_
          refine st 37 (t_assign (o_t 38 rfl) rfl rfl) rfl rfl hL fun a s e_ hL => ?_
          refine en' ?_
          show K40 a s.w
          refine hK40 _ _ ?_
          have J42 : ∀ (v41 : Bool) (a : Act) (s : St), Has N0 96 s0 a s [(0, (Pd.rep (En.slice En.SNode) l_)), (1, (Pd.rep (En.int .i64) i_)), (5, (Pd.box En.SNode s0.w.heap.size g8 e6)), (6, (Pd.box En.SNode s0.w.heap.size g10 (e6.1, 0, 0, 0, 0, (0#256), ([] : Str)))), (20, (Pd.rep (En.int .i64) e6.1)), (37, (Pd.rep En.bool v41))] → Dis (some g8) (some g10) → ((ref04_First.j3 (ref04_First.n k_) l_ i_ r_ e6) v41) → K39 a s.w := by
            intro v41 a s hL d43 h
            unfold ref04_First.j3 at h
            show K39 a s.w
            refine hK39 _ _ ?_
            refine cnd hL rfl (fun hb_ => ?_) (fun hb_ => ?_)
            · replace h := h.1 hb_
              refine wp_seq_k fun K44 hK44 => ?_
              obtain ⟨h45, h⟩ := h
              refine rg ?_
              refine st 42 (t_move (o_t 1 rfl) rfl rfl) rfl rfl hL fun a s e_ hL => ?_
              refine st 43 (t_sub (o_t 42 rfl) (o_i (by decide)) h45 rfl rfl) rfl rfl hL fun a s e_ hL => ?_
              refine st 44 (t_fab (off := 1) (o_t 6 rfl) Tryd.underlying69 rfl (prt_snd (prt_fst (prt_all _ _)) rfl) rfl ty3 rfl rfl) rfl rfl hL fun a s e_ hL => ?_
              refine st_stob (L' := [(0, (Pd.rep (En.slice En.SNode) l_)), (1, (Pd.rep (En.int .i64) i_)), (5, (Pd.box En.SNode s0.w.heap.size g8 e6))]) 6 hL rfl (o_t 44 rfl) (o_t 43 rfl) (sub_snd (sub_fst (sub_all _ _ _)) rfl) ty3 rfl rfl rfl (.cons (t := 0) rfl (fun _ h_ => h_.elim) (.cons (t := 1) rfl (fun _ h_ => h_.elim) (.cons (t := 5) rfl (Dis.bx d43) .nil))) fun s hL => ?_
              refine en' ?_
              show K44 a s.w
              refine hK44 _ _ ?_
              refine wp_seq_k fun K46 hK46 => ?_
              refine wp_seq_k fun K47 hK47 => ?_
              refine rg ?_
              refine st 45 (t_fab (off := 0) (o_t 5 rfl) Tryd.underlying69 rfl (prt_fst (prt_all _ _)) rfl ty3 rfl rfl) rfl rfl hL fun a s e_ hL => ?_
              refine st 46 (t_loado ty3 (o_t 45 rfl) rfl rfl) rfl rfl hL fun a s e_ hL => ?_
              refine st 47 (t_eqi (o_t 46 rfl) (o_i (by decide)) rfl rfl) rfl rfl hL fun a s e_ hL => ?_
              refine en' ?_
              show K47 a s.w
              refine hK47 _ _ ?_
              have J49 : ∀ (want48 : SNode) (a : Act) (s : St), Has N0 96 s0 a s [(0, (Pd.rep (En.slice En.SNode) l_)), (1, (Pd.rep (En.int .i64) i_)), (5, (Pd.box En.SNode s0.w.heap.size g8 e6)), (6, (Pd.box En.SNode s0.w.heap.size g10 want48))] → Dis (some g8) (some g10) → ((ref04_First.j1 (ref04_First.n k_) l_ i_ r_ e6) want48) → K46 a s.w := by
                intro want48 a s hL d50 h
                unfold ref04_First.j1 at h
                show K46 a s.w
                refine hK46 _ _ ?_
                obtain ⟨h51, r52, h53, h⟩ := h
                refine rg ?_
                refine st 69 (t_move (o_t 0 rfl) rfl rfl) rfl rfl hL fun a s e_ hL => ?_
                refine st 70 (t_move (o_t 1 rfl) rfl rfl) rfl rfl hL fun a s e_ hL => ?_
                refine st 71 (t_sub (o_t 70 rfl) (o_i (by decide)) h51 rfl rfl) rfl rfl hL fun a s e_ hL => ?_
                refine st 72 (t_call (ih_ h53) (xs := [.tmp 69, .tmp 71]) (.cons (o_t 69 rfl) (.cons (o_t 71 rfl) .nil)) rfl rfl) rfl rfl hL fun a s e_ hL => ?_
                refine st 7 (t_assign (o_t 72 rfl) rfl rfl) rfl rfl hL fun a s e_ hL => ?_
                refine en' ?_
                show K13 a s.w
                refine hK13 _ _ ?_
                refine wp_seq_k fun K54 hK54 => ?_
                refine wp_seq_k fun K55 hK55 => ?_
                refine rg ?_
                refine st 92 (t_loadb ty69 (o_t 5 rfl) rfl rfl) rfl rfl hL fun a s e_ hL => ?_
                refine st 93 (t_loadb ty69 (o_t 6 rfl) rfl rfl) rfl rfl hL fun a s e_ hL => ?_
                refine st 94 (t_nev eq69 (o_t 92 rfl) (o_t 93 rfl) rfl rfl) rfl rfl hL fun a s e_ hL => ?_
                refine en' ?_
                show K55 a s.w
                refine hK55 _ _ ?_
                refine cnd hL rfl (fun hb_ => ?_) (fun hb_ => ?_)
                · replace h := h.1 hb_
                  refine wp_seq_k fun K56 hK56 => ?_
                  refine rg ?_
                  refine st 4 (t_assign (o_i (by decide)) rfl rfl) rfl rfl hL fun a s e_ hL => ?_
                  refine en' ?_
                  show K56 a s.w
                  refine hK56 _ _ ?_
                  subst h
                  exact wp_ret (retq rfl hL rfl)
                · replace h := h.2 hb_
                  refine wp_skip ?_
                  show K54 a s.w
                  refine hK54 _ _ ?_
                  refine wp_seq_k fun K57 hK57 => ?_
                  refine rg ?_
                  refine st 95 (t_move (o_t 7 rfl) rfl rfl) rfl rfl hL fun a s e_ hL => ?_
                  refine st 4 (t_assign (o_t 95 rfl) rfl rfl) rfl rfl hL fun a s e_ hL => ?_
                  refine en' ?_
                  show K57 a s.w
                  refine hK57 _ _ ?_
                  subst h
                  exact wp_ret (retq rfl hL rfl)
              refine cnd hL rfl (fun hb_ => ?_) (fun hb_ => ?_)
              · replace h := h.1 hb_
                refine wp_seq_k fun K58 hK58 => ?_
                refine rg ?_
                refine st 48 (t_fab (off := 3) (o_t 5 rfl) Tryd.underlying69 rfl (prt_snd (prt_snd (prt_snd (prt_fst (prt_all _ _)) rfl) rfl) rfl) rfl ty3 rfl rfl) rfl rfl hL fun a s e_ hL => ?_
                refine st 49 (t_loado ty3 (o_t 48 rfl) rfl rfl) rfl rfl hL fun a s e_ hL => ?_
                refine st 50 (t_fab (off := 3) (o_t 6 rfl) Tryd.underlying69 rfl (prt_snd (prt_snd (prt_snd (prt_fst (prt_all _ _)) rfl) rfl) rfl) rfl ty3 rfl rfl) rfl rfl hL fun a s e_ hL => ?_
                refine st_stob (L' := [(0, (Pd.rep (En.slice En.SNode) l_)), (1, (Pd.rep (En.int .i64) i_)), (5, (Pd.box En.SNode s0.w.heap.size g8 e6))]) 6 hL rfl (o_t 50 rfl) (o_t 49 rfl) (sub_snd (sub_snd (sub_snd (sub_fst (sub_all _ _ _)) rfl) rfl) rfl) ty3 rfl rfl rfl (.cons (t := 0) rfl (fun _ h_ => h_.elim) (.cons (t := 1) rfl (fun _ h_ => h_.elim) (.cons (t := 5) rfl (Dis.bx d43) .nil))) fun s hL => ?_
                refine en' ?_
                show K58 a s.w
                refine hK58 _ _ ?_
                refine wp_seq_k fun K59 hK59 => ?_
                refine rg ?_
                refine st 51 (t_fab (off := 4) (o_t 5 rfl) Tryd.underlying69 rfl (prt_snd (prt_snd (prt_snd (prt_snd (prt_fst (prt_all _ _)) rfl) rfl) rfl) rfl) rfl ty3 rfl rfl) rfl rfl hL fun a s e_ hL => ?_
                refine st 52 (t_loado ty3 (o_t 51 rfl) rfl rfl) rfl rfl hL fun a s e_ hL => ?_
                refine st 53 (t_fab (off := 4) (o_t 6 rfl) Tryd.underlying69 rfl (prt_snd (prt_snd (prt_snd (prt_snd (prt_fst (prt_all _ _)) rfl) rfl) rfl) rfl) rfl ty3 rfl rfl) rfl rfl hL fun a s e_ hL => ?_
                refine st_stob (L' := [(0, (Pd.rep (En.slice En.SNode) l_)), (1, (Pd.rep (En.int .i64) i_)), (5, (Pd.box En.SNode s0.w.heap.size g8 e6))]) 6 hL rfl (o_t 53 rfl) (o_t 52 rfl) (sub_snd (sub_snd (sub_snd (sub_snd (sub_fst (sub_all _ _ _)) rfl) rfl) rfl) rfl) ty3 rfl rfl rfl (.cons (t := 0) rfl (fun _ h_ => h_.elim) (.cons (t := 1) rfl (fun _ h_ => h_.elim) (.cons (t := 5) rfl (Dis.bx d43) .nil))) fun s hL => ?_
                refine en' ?_
                show K59 a s.w
                refine hK59 _ _ ?_
                refine wp_seq_k fun K60 hK60 => ?_
                obtain ⟨b61, h62, h⟩ := h
                refine rg ?_
                refine st 54 (t_fab (off := 3) (o_t 5 rfl) Tryd.underlying69 rfl (prt_snd (prt_snd (prt_snd (prt_fst (prt_all _ _)) rfl) rfl) rfl) rfl ty3 rfl rfl) rfl rfl hL fun a s e_ hL => ?_
                refine st 55 (t_loado ty3 (o_t 54 rfl) rfl rfl) rfl rfl hL fun a s e_ hL => ?_
                refine st 56 (t_lss (o_t 55 rfl) (o_i (by decide)) rfl rfl) rfl rfl hL fun a s e_ hL => ?_
                refine st 57 (t_move (o_t 56 rfl) rfl rfl) rfl rfl hL fun a s e_ hL => ?_
                refine st 58 (t_g1 rfl rfl rfl (fun hc_ => t_fab (off := 3) (o_t 5 rfl) Tryd.underlying69 rfl (prt_snd (prt_snd (prt_snd (prt_fst (prt_all _ _)) rfl) rfl) rfl) rfl ty3 rfl rfl)) rfl rfl hL fun a s e_ hL => ?_
                refine st 59 (t_g1 rfl rfl rfl (fun hc_ => t_loado ty3 (o_w hc_ 58 rfl) rfl rfl)) rfl rfl hL fun a s e_ hL => ?_
                refine st 60 (t_g1 rfl rfl rfl (fun hc_ => t_fab (off := 4) (o_t 5 rfl) Tryd.underlying69 rfl (prt_snd (prt_snd (prt_snd (prt_snd (prt_fst (prt_all _ _)) rfl) rfl) rfl) rfl) rfl ty3 rfl rfl)) rfl rfl hL fun a s e_ hL => ?_
                refine st 61 (t_g1 rfl rfl rfl (fun hc_ => t_loado ty3 (o_w hc_ 60 rfl) rfl rfl)) rfl rfl hL fun a s e_ hL => ?_
                refine st 62 (t_g1 rfl rfl rfl (fun hc_ => t_gtr (o_w hc_ 59 rfl) (o_w hc_ 61 rfl) rfl rfl)) rfl rfl hL fun a s e_ hL => ?_
                refine st 63 (h62 ▸ (t_or (o_t 57 rfl) (fun hc2_ => (o_w hc2_ 62 rfl)) rfl rfl)) rfl rfl hL fun a s e_ hL => ?_
                refine st 64 (t_move (o_t 63 rfl) rfl rfl) rfl rfl hL fun a s e_ hL => ?_
                refine st 65 (t_g1 rfl rfl rfl (fun hc_ => t_fab (off := 4) (o_t 5 rfl) Tryd.underlying69 rfl (prt_snd (prt_snd (prt_snd (prt_snd (prt_fst (prt_all _ _)) rfl) rfl) rfl) rfl) rfl ty3 rfl rfl)) rfl rfl hL fun a s e_ hL => ?_
                refine st 66 (t_g1 rfl rfl rfl (fun hc_ => t_loado ty3 (o_w hc_ 65 rfl) rfl rfl)) rfl rfl hL fun a s e_ hL => ?_
                refine st 67 (t_g1 rfl rfl rfl (fun hc_ => t_gtr (o_w hc_ 66 rfl) (o_i (by decide)) rfl rfl)) rfl rfl hL fun a s e_ hL => ?_
                refine st 68 (t_or (o_t 64 rfl) (fun hc2_ => (o_w hc2_ 67 rfl)) rfl rfl) rfl rfl hL fun a s e_ hL => ?_
                refine en' ?_
                show K60 a s.w
                refine hK60 _ _ ?_
                refine cnd hL rfl (fun hb_ => ?_) (fun hb_ => ?_)
                · replace h := h.1 hb_
                  refine wp_seq_k fun K63 hK63 => ?_
                  refine rg ?_
                  refine st 4 (t_assign (o_i (by decide)) rfl rfl) rfl rfl hL fun a s e_ hL => ?_
                  refine en' ?_
                  show K63 a s.w
                  refine hK63 _ _ ?_
                  subst h
                  exact wp_ret (retq rfl hL rfl)
                · replace h := h.2 hb_
                  refine wp_skip ?_
                  exact J49 (e6.1, i_ - 1, 0, e6.2.2.2.1, e6.2.2.2.2.1, (0#256), ([] : Str)) a s (hL.keep (.cons (t := 0) rfl (fun _ h_ => h_.elim) (.cons (t := 1) rfl (fun _ h_ => h_.elim) (.cons (t := 5) rfl (fun _ _ h_ => h_) (.cons (t := 6) rfl (fun _ _ h_ => h_) .nil))))) d43 h
              · replace h := h.2 hb_
                refine wp_skip ?_
                exact J49 (e6.1, i_ - 1, 0, 0, 0, (0#256), ([] : Str)) a s (hL.keep (.cons (t := 0) rfl (fun _ h_ => h_.elim) (.cons (t := 1) rfl (fun _ h_ => h_.elim) (.cons (t := 5) rfl (fun _ _ h_ => h_) (.cons (t := 6) rfl (fun _ _ h_ => h_) .nil))))) d43 h
            · replace h := h.2 hb_
              refine wp_seq_k fun K64 hK64 => ?_
              refine wp_seq_k fun K65 hK65 => ?_
              refine rg ?_
              refine st 74 (t_eqi (o_t 20 rfl) (o_i (by decide)) rfl rfl) rfl rfl hL fun a s e_ hL => ?_
              refine st 73 (t_assign (o_t 74 rfl) rfl rfl) rfl rfl hL fun a s e_ hL => ?_
              refine en' ?_
              show K65 a s.w
              refine hK65 _ _ ?_
              have J67 : ∀ (v66 : Bool) (a : Act) (s : St), Has N0 96 s0 a s [(0, (Pd.rep (En.slice En.SNode) l_)), (1, (Pd.rep (En.int .i64) i_)), (5, (Pd.box En.SNode s0.w.heap.size g8 e6)), (6, (Pd.box En.SNode s0.w.heap.size g10 (e6.1, 0, 0, 0, 0, (0#256), ([] : Str)))), (73, (Pd.rep En.bool v66))] → Dis (some g8) (some g10) → ((ref04_First.j2 (ref04_First.n k_) l_ i_ r_ e6) v66) → K64 a s.w := by
                intro v66 a s hL d68 h
                unfold ref04_First.j2 at h
                show K64 a s.w
                refine hK64 _ _ ?_
                refine cnd hL rfl (fun hb_ => ?_) (fun hb_ => ?_)
                · replace h := h.1 hb_
                  refine wp_seq_k fun K69 hK69 => ?_
                  obtain ⟨h70, h⟩ := h
                  refine rg ?_
                  refine st 76 (t_move (o_t 1 rfl) rfl rfl) rfl rfl hL fun a s e_ hL => ?_
                  refine st 77 (t_sub (o_t 76 rfl) (o_i (by decide)) h70 rfl rfl) rfl rfl hL fun a s e_ hL => ?_
                  refine st 78 (t_fab (off := 2) (o_t 6 rfl) Tryd.underlying69 rfl (prt_snd (prt_snd (prt_fst (prt_all _ _)) rfl) rfl) rfl ty3 rfl rfl) rfl rfl hL fun a s e_ hL => ?_
                  refine st_stob (L' := [(0, (Pd.rep (En.slice En.SNode) l_)), (1, (Pd.rep (En.int .i64) i_)), (5, (Pd.box En.SNode s0.w.heap.size g8 e6))]) 6 hL rfl (o_t 78 rfl) (o_t 77 rfl) (sub_snd (sub_snd (sub_fst (sub_all _ _ _)) rfl) rfl) ty3 rfl rfl rfl (.cons (t := 0) rfl (fun _ h_ => h_.elim) (.cons (t := 1) rfl (fun _ h_ => h_.elim) (.cons (t := 5) rfl (Dis.bx d68) .nil))) fun s hL => ?_
                  refine en' ?_
                  show K69 a s.w
                  refine hK69 _ _ ?_
                  refine wp_seq_k fun K71 hK71 => ?_
                  obtain ⟨h72, r73, h74, h⟩ := h
                  refine rg ?_
                  refine st 79 (t_move (o_t 0 rfl) rfl rfl) rfl rfl hL fun a s e_ hL => ?_
                  refine st 80 (t_move (o_t 1 rfl) rfl rfl) rfl rfl hL fun a s e_ hL => ?_
                  refine st 81 (t_sub (o_t 80 rfl) (o_i (by decide)) h72 rfl rfl) rfl rfl hL fun a s e_ hL => ?_
                  refine st 82 (t_call (ih_ h74) (xs := [.tmp 79, .tmp 81]) (.cons (o_t 79 rfl) (.cons (o_t 81 rfl) .nil)) rfl rfl) rfl rfl hL fun a s e_ hL => ?_
                  refine st 8 (t_assign (o_t 82 rfl) rfl rfl) rfl rfl hL fun a s e_ hL => ?_
                  refine en' ?_
                  show K71 a s.w
                  refine hK71 _ _ ?_
                  refine wp_seq_k fun K75 hK75 => ?_
                  refine wp_seq_k fun K76 hK76 => ?_
                  refine rg ?_
                  refine st 83 (t_move (o_t 8 rfl) rfl rfl) rfl rfl hL fun a s e_ hL => ?_
                  refine st 84 (t_lss (o_t 83 rfl) (o_i (by decide)) rfl rfl) rfl rfl hL fun a s e_ hL => ?_
                  refine en' ?_
                  show K76 a s.w
                  refine hK76 _ _ ?_
                  refine cnd hL rfl (fun hb_ => ?_) (fun hb_ => ?_)
                  · replace h := h.1 hb_
                    refine wp_seq_k fun K77 hK77 => ?_
                    refine rg ?_
                    refine st 4 (t_assign (o_i (by decide)) rfl rfl) rfl rfl hL fun a s e_ hL => ?_
                    refine en' ?_
                    show K77 a s.w
                    refine hK77 _ _ ?_
                    subst h
                    exact wp_ret (retq rfl hL rfl)
                  · replace h := h.2 hb_
                    refine wp_skip ?_
                    show K75 a s.w
                    refine hK75 _ _ ?_
                    refine wp_seq_k fun K78 hK78 => ?_
                    obtain ⟨h79, h⟩ := h
                    refine rg ?_
                    refine st 85 (t_move (o_t 8 rfl) rfl rfl) rfl rfl hL fun a s e_ hL => ?_
                    refine st 86 (t_sub (o_t 85 rfl) (o_i (by decide)) h79 rfl rfl) rfl rfl hL fun a s e_ hL => ?_
                    refine st 87 (t_fab (off := 1) (o_t 6 rfl) Tryd.underlying69 rfl (prt_snd (prt_fst (prt_all _ _)) rfl) rfl ty3 rfl rfl) rfl rfl hL fun a s e_ hL => ?_
                    refine st_stob (L' := [(0, (Pd.rep (En.slice En.SNode) l_)), (5, (Pd.box En.SNode s0.w.heap.size g8 e6)), (8, (Pd.rep (En.int .i64) r73))]) 6 hL rfl (o_t 87 rfl) (o_t 86 rfl) (sub_snd (sub_fst (sub_all _ _ _)) rfl) ty3 rfl rfl rfl (.cons (t := 0) rfl (fun _ h_ => h_.elim) (.cons (t := 5) rfl (Dis.bx d68) (.cons (t := 8) rfl (fun _ h_ => h_.elim) .nil))) fun s hL => ?_
                    refine en' ?_
                    show K78 a s.w
                    refine hK78 _ _ ?_
                    obtain ⟨h80, r81, h82, h⟩ := h
                    refine rg ?_
                    refine st 88 (t_move (o_t 0 rfl) rfl rfl) rfl rfl hL fun a s e_ hL => ?_
                    refine st 89 (t_move (o_t 8 rfl) rfl rfl) rfl rfl hL fun a s e_ hL => ?_
                    refine st 90 (t_sub (o_t 89 rfl) (o_i (by decide)) h80 rfl rfl) rfl rfl hL fun a s e_ hL => ?_
                    refine st 91 (t_call (ih_ h82) (xs := [.tmp 88, .tmp 90]) (.cons (o_t 88 rfl) (.cons (o_t 90 rfl) .nil)) rfl rfl) rfl rfl hL fun a s e_ hL => ?_
                    refine st 7 (t_assign (o_t 91 rfl) rfl rfl) rfl rfl hL fun a s e_ hL => ?_
                    refine en' ?_
                    show K13 a s.w
                    refine hK13 _ _ ?_
                    refine wp_seq_k fun K83 hK83 => ?_
                    refine wp_seq_k fun K84 hK84 => ?_
                    obtain ⟨b85, h86, h⟩ := h
                    refine rg ?_
                    refine st 92 (t_loadb ty69 (o_t 5 rfl) rfl rfl) rfl rfl hL fun a s e_ hL => ?_
                    refine st 93 (t_loadb ty69 (o_t 6 rfl) rfl rfl) rfl rfl hL fun a s e_ hL => ?_
                    refine st 94 (h86 ▸ (t_nev eq69 (o_t 92 rfl) (o_t 93 rfl) rfl rfl)) rfl rfl hL fun a s e_ hL => ?_
                    refine en' ?_
                    show K84 a s.w
                    refine hK84 _ _ ?_
                    refine cnd hL rfl (fun hb_ => ?_) (fun hb_ => ?_)
                    · replace h := h.1 hb_
                      refine wp_seq_k fun K87 hK87 => ?_
                      refine rg ?_
                      refine st 4 (t_assign (o_i (by decide)) rfl rfl) rfl rfl hL fun a s e_ hL => ?_
                      refine en' ?_
                      show K87 a s.w
                      refine hK87 _ _ ?_
                      subst h
                      exact wp_ret (retq rfl hL rfl)
                    · replace h := h.2 hb_
                      refine wp_skip ?_
                      show K83 a s.w
                      refine hK83 _ _ ?_
                      refine wp_seq_k fun K88 hK88 => ?_
                      refine rg ?_
                      refine st 95 (t_move (o_t 7 rfl) rfl rfl) rfl rfl hL fun a s e_ hL => ?_
                      refine st 4 (t_assign (o_t 95 rfl) rfl rfl) rfl rfl hL fun a s e_ hL => ?_
                      refine en' ?_
                      show K88 a s.w
                      refine hK88 _ _ ?_
                      subst h
                      exact wp_ret (retq rfl hL rfl)
                · replace h := h.2 hb_
                  refine wp_seq_k fun K89 hK89 => ?_
                  refine rg ?_
                  refine st 4 (t_assign (o_i (by decide)) rfl rfl) rfl rfl hL fun a s e_ hL => ?_
                  refine en' ?_
                  show K89 a s.w
                  refine hK89 _ _ ?_
                  subst h
                  exact wp_ret (retq rfl hL rfl)
              refine cnd hL rfl (fun hb_ => ?_) (fun hb_ => ?_)
              · replace h := h.1 hb_
                refine wp_skip ?_
                exact J67 (e6.1 == 4) a s (hL.keep (.cons (t := 0) rfl (fun _ h_ => h_.elim) (.cons (t := 1) rfl (fun _ h_ => h_.elim) (.cons (t := 5) rfl (fun _ _ h_ => h_) (.cons (t := 6) rfl (fun _ _ h_ => h_) (.cons (t := 73) rfl (fun _ h_ => h_.elim) .nil)))))) d43 h
              · replace h := h.2 hb_
                refine rg ?_
                refine st 75 (t_eqi (o_t 20 rfl) (o_i (by decide)) rfl rfl) rfl rfl hL fun a s e_ hL => ?_
                refine st 73 (t_assign (o_t 75 rfl) rfl rfl) rfl rfl hL fun a s e_ hL => ?_
                refine en' ?_
                exact J67 (e6.1 == 5) a s (hL.keep (.cons (t := 0) rfl (fun _ h_ => h_.elim) (.cons (t := 1) rfl (fun _ h_ => h_.elim) (.cons (t := 5) rfl (fun _ _ h_ => h_) (.cons (t := 6) rfl (fun _ _ h_ => h_) (.cons (t := 73) rfl (fun _ h_ => h_.elim) .nil)))))) d43 h
          refine cnd hL rfl (fun hb_ => ?_) (fun hb_ => ?_)
          · replace h := h.1 hb_
            refine wp_skip ?_
            exact J42 (e6.1 == 6) a s (hL.keep (.cons (t := 0) rfl (fun _ h_ => h_.elim) (.cons (t := 1) rfl (fun _ h_ => h_.elim) (.cons (t := 5) rfl (fun _ _ h_ => h_) (.cons (t := 6) rfl (fun _ _ h_ => h_) (.cons (t := 20) rfl (fun _ h_ => h_.elim) (.cons (t := 37) rfl (fun _ h_ => h_.elim) .nil))))))) (Dis.symm d11) h
          · replace h := h.2 hb_
            refine wp_seq_k fun K90 hK90 => ?_
            refine rg ?_
            refine st 39 (t_eqi (o_t 20 rfl) (o_i (by decide)) rfl rfl) rfl rfl hL fun a s e_ hL => ?_
            refine st 37 (t_assign (o_t 39 rfl) rfl rfl) rfl rfl hL fun a s e_ hL => ?_
            refine en' ?_
            show K90 a s.w
            refine hK90 _ _ ?_
            refine cnd hL rfl (fun hb_ => ?_) (fun hb_ => ?_)
            · replace h := h.1 hb_
              refine wp_skip ?_
              exact J42 (e6.1 == 7) a s (hL.keep (.cons (t := 0) rfl (fun _ h_ => h_.elim) (.cons (t := 1) rfl (fun _ h_ => h_.elim) (.cons (t := 5) rfl (fun _ _ h_ => h_) (.cons (t := 6) rfl (fun _ _ h_ => h_) (.cons (t := 20) rfl (fun _ h_ => h_.elim) (.cons (t := 37) rfl (fun _ h_ => h_.elim) .nil))))))) (Dis.symm d11) h
            · replace h := h.2 hb_
              refine wp_seq_k fun K91 hK91 => ?_
              refine rg ?_
              refine st 40 (t_eqi (o_t 20 rfl) (o_i (by decide)) rfl rfl) rfl rfl hL fun a s e_ hL => ?_
              refine st 37 (t_assign (o_t 40 rfl) rfl rfl) rfl rfl hL fun a s e_ hL => ?_
              refine en' ?_
              show K91 a s.w
              refine hK91 _ _ ?_
              refine cnd hL rfl (fun hb_ => ?_) (fun hb_ => ?_)
              · replace h := h.1 hb_
                refine wp_skip ?_
                exact J42 (e6.1 == 8) a s (hL.keep (.cons (t := 0) rfl (fun _ h_ => h_.elim) (.cons (t := 1) rfl (fun _ h_ => h_.elim) (.cons (t := 5) rfl (fun _ _ h_ => h_) (.cons (t := 6) rfl (fun _ _ h_ => h_) (.cons (t := 20) rfl (fun _ h_ => h_.elim) (.cons (t := 37) rfl (fun _ h_ => h_.elim) .nil))))))) (Dis.symm d11) h
              · replace h := h.2 hb_
                refine rg ?_
                refine st 41 (t_eqi (o_t 20 rfl) (o_i (by decide)) rfl rfl) rfl rfl hL fun a s e_ hL => ?_
                refine st 37 (t_assign (o_t 41 rfl) rfl rfl) rfl rfl hL fun a s e_ hL => ?_
                refine en' ?_
                exact J42 (e6.1 == 9) a s (hL.keep (.cons (t := 0) rfl (fun _ h_ => h_.elim) (.cons (t := 1) rfl (fun _ h_ => h_.elim) (.cons (t := 5) rfl (fun _ _ h_ => h_) (.cons (t := 6) rfl (fun _ _ h_ => h_) (.cons (t := 20) rfl (fun _ h_ => h_.elim) (.cons (t := 37) rfl (fun _ h_ => h_.elim) .nil))))))) (Dis.symm d11) h
theorem ref04_First_ok {l_ : (List SNode)} {i_ : Int} {r_ : Int} (h : ref04_First l_ i_ r_) : Fn Tryd.prog 58 [(Pd.rep (En.slice En.SNode) l_), (Pd.rep (En.int .i64) i_)] (Rq (Pd.rep (En.int .i64) r_)) := by
  obtain ⟨k_, h⟩ := h
  exact ref04_First.n_ok k_ h

theorem ref04_Form_ok {d_ : SDesc} {r_ : Bool} (h : ref04_Form d_ r_) : Fn Tryd.prog 33 [(Pd.rep En.SDesc d_)] (Rq (Pd.rep En.bool r_)) := by
  unfold ref04_Form at h
  refine fn_of Tryd.func33 rfl Tryd.ntmps33 (by rfl) (by simp) fun s0 a hL => ?_
  refine wp_seq_k fun K1 hK1 => ?_
  refine rg ?_
  refine st 1 (t_box (o_t 0 rfl) rfl rfl) rfl rfl hL fun a s e_ hL => ?_
  refine st 2 (t_assign o_b rfl rfl) rfl rfl hL fun a s e_ hL => ?_
  refine en' ?_
  show K1 a s.w
  refine hK1 _ _ ?_
  refine wp_seq_k fun K2 hK2 => ?_
  obtain ⟨h3, r4, h5, h⟩ := h
  refine rg ?_
  refine st 3 (t_fa (off := 0) (o_t 1 rfl) Tryd.underlying24 rfl (prt_solo (prt_all _ _)) rfl ty22 rfl rfl) rfl rfl hL fun a s e_ hL => ?_
  refine st 4 (t_load ty22 (o_t 3 rfl) rfl rfl) rfl rfl hL fun a s e_ hL => ?_
  refine st 5 (t_len (o_t 4 rfl) Tryd.underlying22 rfl rfl) rfl rfl hL fun a s e_ hL => ?_
  refine st 6 (t_gtr (o_t 5 rfl) (o_i (by decide)) rfl rfl) rfl rfl hL fun a s e_ hL => ?_
  refine st 7 (t_move (o_t 6 rfl) rfl rfl) rfl rfl hL fun a s e_ hL => ?_
  refine st 8 (t_g1 rfl rfl rfl (fun hc_ => t_fa (off := 0) (o_t 1 rfl) Tryd.underlying24 rfl (prt_solo (prt_all _ _)) rfl ty22 rfl rfl)) rfl rfl hL fun a s e_ hL => ?_
  refine st 9 (t_g1 rfl rfl rfl (fun hc_ => t_load ty22 (o_w hc_ 8 rfl) rfl rfl)) rfl rfl hL fun a s e_ hL => ?_
  refine st 10 (t_g1 rfl rfl rfl (fun hc_ => t_fa (off := 0) (o_t 1 rfl) Tryd.underlying24 rfl (prt_solo (prt_all _ _)) rfl ty22 rfl rfl)) rfl rfl hL fun a s e_ hL => ?_
  refine st 11 (t_g1 rfl rfl rfl (fun hc_ => t_load ty22 (o_w hc_ 10 rfl) rfl rfl)) rfl rfl hL fun a s e_ hL => ?_
  refine st 12 (t_g1 rfl rfl rfl (fun hc_ => t_len (o_w hc_ 11 rfl) Tryd.underlying22 rfl rfl)) rfl rfl hL fun a s e_ hL => ?_
  refine st 13 (t_g1 rfl rfl rfl (fun hc_ => t_sub (o_w hc_ 12 rfl) (o_i (by decide)) (h3 hc_) rfl rfl)) rfl rfl hL fun a s e_ hL => ?_
  refine st 14 (t_g1 rfl rfl rfl (fun hc_ => t_call (ref04_First_ok (h5 hc_)) (xs := [.tmp 9, .tmp 13]) (.cons (o_w hc_ 9 rfl) (.cons (o_w hc_ 13 rfl) .nil)) rfl rfl)) rfl rfl hL fun a s e_ hL => ?_
  refine st 15 (t_g1 rfl rfl rfl (fun hc_ => t_eqi (o_w hc_ 14 rfl) (o_i (by decide)) rfl rfl)) rfl rfl hL fun a s e_ hL => ?_
  refine st 16 (t_and (o_t 7 rfl) (fun hc2_ => (o_w hc2_ 15 rfl)) rfl rfl) rfl rfl hL fun a s e_ hL => ?_
  refine st 2 (t_assign (o_t 16 rfl) rfl rfl) rfl rfl hL fun a s e_ hL => ?_
  refine en' ?_
  show K2 a s.w
  refine hK2 _ _ ?_
  subst h
  exact wp_ret (retq rfl hL rfl)
end Go.Proofs.YtdfnbogkniikbaaDoor.V
