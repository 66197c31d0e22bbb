/- The walks of the functions of layer 13 (by gen.py). -/
import Derived.Test.YtdfnbogkniikbaaDoorW08a
import Derived.Test.YtdfnbogkniikbaaDoorR13
namespace Go.Proofs.YtdfnbogkniikbaaDoor.V
open Go
set_option linter.unusedVariables false
set_option maxRecDepth 100000
theorem item_Start_ok {d_ : SDesc} {r_ : (List SItem)} (h : item_Start d_ r_) : Fn Tryd.prog 17 [(Pd.rep En.SDesc d_)] (Ro En.SItem 36 r_) := by
  unfold item_Start at h
  refine fn_of Tryd.func17 rfl Tryd.ntmps17 (by rfl) (by simp) fun s0 a hL => ?_
  refine wp_seq_k fun K1 hK1 => ?_
  refine rg ?_
  refine st 1 (t_box (o_t 0 rfl) rfl rfl) rfl rfl hL fun a s e_ hL => ?_
  refine st 2 (t_assign (o_nil (E := En.SItem) (N := s0.w.heap.size) (te := 36)) rfl rfl) rfl rfl hL fun a s e_ hL => ?_
  refine en' ?_
  show K1 a s.w
  refine hK1 _ _ ?_
  refine wp_seq_k fun K2 hK2 => ?_
  obtain ⟨h3, h⟩ := h
  refine rg ?_
  refine st 3 (t_fa (off := 0) (o_t 1 rfl) Tryd.underlying24 rfl (prt_solo (prt_all _ _)) rfl ty22 rfl rfl) rfl rfl hL fun a s e_ hL => ?_
  refine st 4 (t_load ty22 (o_t 3 rfl) rfl rfl) rfl rfl hL fun a s e_ hL => ?_
  refine st 5 (t_len (o_t 4 rfl) Tryd.underlying22 rfl rfl) rfl rfl hL fun a s e_ hL => ?_
  refine st 6 (t_sub (o_t 5 rfl) (o_i (by decide)) h3 rfl rfl) rfl rfl hL fun a s e_ hL => ?_
  refine st 7 (t_build (x := (1, (d_.length : Int) - 1, 0, 0)) (ps := [(0, .const (.int .i64 1)), (1, .tmp 6)]) tyz36 rfl stt36 (.cons (i := 0) (o_i (by decide)) rfl (sub_fst (sub_all _ _ _)) (.cons (i := 1) (o_t 6 rfl) rfl (sub_snd (sub_fst (sub_all _ _ _)) rfl) .nil)) rfl rfl) rfl rfl hL fun a s e_ hL => ?_
  refine st_lito (xs := [.tmp 7]) 8 hL (.cons (o_t 7 rfl) .nil) Tryd.underlying26 ty36 rfl rfl (by decide) rfl rfl rfl rfl fun a s g4 hg_ hL => ?_
  refine st 2 (t_assign (o_t 8 rfl) rfl rfl) rfl rfl hL fun a s e_ hL => ?_
  refine en' ?_
  show K2 a s.w
  refine hK2 _ _ ?_
  subst h
  exact wp_ret (reto rfl hL rfl)

theorem item_Lower_ok {s_ : (List SItem)} {r_ : ((List SItem) × Bool)} (h : item_Lower s_ r_) : Fn Tryd.prog 15 [(Pd.rep (En.slice En.SItem) s_)] (Ro2 En.SItem 36 r_.1 (Pd.rep En.bool r_.2)) := by
  unfold item_Lower at h
  refine fn_of Tryd.func15 rfl Tryd.ntmps15 (by rfl) (by simp) fun s0 a hL => ?_
  refine wp_seq_k fun K1 hK1 => ?_
  refine rg ?_
  refine st 2 (t_assign (o_nil (E := En.SItem) (N := s0.w.heap.size) (te := 36)) rfl rfl) rfl rfl hL fun a s e_ hL => ?_
  refine st 3 (t_assign o_b rfl rfl) rfl rfl hL fun a s e_ hL => ?_
  refine en' ?_
  show K1 a s.w
  refine hK1 _ _ ?_
  refine wp_seq_k fun K2 hK2 => ?_
  obtain ⟨r3, h4, h⟩ := h
  refine rg ?_
  refine st 7 (t_move (o_t 0 rfl) rfl rfl) rfl rfl hL fun a s e_ hL => ?_
  refine st_callo 8 hL (slices_Clone_api_State_api_Item_ok h4) (xs := [.tmp 7]) (.cons (o_t 7 rfl) .nil) rfl rfl rfl rfl fun a s og5 hg_ hL => ?_
  refine st 4 (t_assign (o_t 8 rfl) rfl rfl) rfl rfl hL fun a s e_ hL => ?_
  refine en' ?_
  show K2 a s.w
  refine hK2 _ _ ?_
  refine wp_seq_k fun K6 hK6 => ?_
  refine wp_seq_k fun K7 hK7 => ?_
  refine rg ?_
  refine st 9 (t_move (o_t 4 rfl) rfl rfl) rfl rfl hL fun a s e_ hL => ?_
  refine st 10 (t_leno (o_t 9 rfl) Tryd.underlying26 rfl rfl) rfl rfl hL fun a s e_ hL => ?_
  refine st 11 (t_move (o_i (by decide)) rfl rfl) rfl rfl hL fun a s e_ hL => ?_
  refine en' ?_
  show K7 a s.w
  refine hK7 _ _ ?_
  refine wp_block ?_
  have J10 : ∀ (out8 : (List SItem)) (og9 : Option Nat) (a : Act) (s : St), Has N0 32 s0 a s [(4, (Pd.row En.SItem s0.w.heap.size 36 og9 out8))] → ((item_Lower.j1 r_) out8) → K6 a s.w := by
    intro out8 og9 a s hL h
    unfold item_Lower.j1 at h
    show K6 a s.w
    refine hK6 _ _ ?_
    refine wp_seq_k fun K11 hK11 => ?_
    refine rg ?_
    refine st 31 (t_move (o_t 4 rfl) rfl rfl) rfl rfl hL fun a s e_ hL => ?_
    refine st 2 (t_assign (o_t 31 rfl) rfl rfl) rfl rfl hL fun a s e_ hL => ?_
    refine st 3 (t_assign o_b rfl rfl) rfl rfl hL fun a s e_ hL => ?_
    refine en' ?_
    show K11 a s.w
    refine hK11 _ _ ?_
    subst h
    exact wp_ret (reto2 rfl hL rfl rfl)
  obtain ⟨k15, h⟩ := h
  refine lpg (fun k16 a s => ∃ (out12 : (List SItem)) (v14 : Int) (og13 : Option Nat), Has N0 32 s0 a s [(4, (Pd.row En.SItem s0.w.heap.size 36 og13 out12)), (9, (Pd.row En.SItem s0.w.heap.size 36 og13 out12)), (10, (Pd.rep (En.int .i64) (r3.length : Int))), (11, (Pd.rep (En.int .i64) v14))] ∧ item_Lower.l1 r3 r_ (item_Lower.j1 r_) k16 out12 v14) k15 ⟨r3, 0, og5, hL.keep (.cons (t := 4) rfl (fun _ _ h_ => h_) (.cons (t := 9) rfl (fun _ _ h_ => h_) (.cons (t := 10) rfl (fun _ h_ => h_.elim) (.cons (t := 11) rfl (fun _ h_ => h_.elim) .nil)))), h⟩ ?_
  rintro k16 a s ⟨out12, v14, og13, hL, h⟩ KL17 hKL17
  cases k16 with
  | zero => exact h.elim
  | succ k16 =>
  unfold item_Lower.l1 at h
  refine wp_seq_k fun K18 hK18 => ?_
  refine rg ?_
  refine st 12 (t_lss (o_t 11 rfl) (o_t 10 rfl) rfl rfl) rfl rfl hL fun a s e_ hL => ?_
  refine en' ?_
  show K18 a s.w
  refine hK18 _ _ ?_
  refine wp_seq_k fun K19 hK19 => ?_
  refine cnd hL rfl (fun hb_ => ?_) (fun hb_ => ?_)
  · replace h := h.1 hb_
    refine wp_skip ?_
    show K19 a s.w
    refine hK19 _ _ ?_
    refine wp_seq_k fun K20 hK20 => ?_
    refine wp_block ?_
    refine wp_seq_k fun K21 hK21 => ?_
    obtain ⟨e22, h23, h⟩ := h
    refine rg ?_
    refine st 13 (t_move (o_t 11 rfl) rfl rfl) rfl rfl hL fun a s e_ hL => ?_
    refine st 14 (t_idxo (o_t 9 rfl) (o_t 11 rfl) h23 Tryd.underlying26 ty36 rfl rfl) rfl rfl hL fun a s e_ hL => ?_
    refine st 15 (t_loado ty36 (o_t 14 rfl) rfl rfl) rfl rfl hL fun a s e_ hL => ?_
    have lt_d25 := hL.rlt 4 rfl
    refine st_alloc En.SItem (z := (0, 0, 0, 0)) 6 hL tyz36 rfl rfl rfl rfl fun a s g24 hg_ hL => ?_
    have d25 : Dis (some g24) og13 := Dis.newg hg_ lt_d25
    refine st 5 (t_assign (o_t 13 rfl) rfl rfl) rfl rfl hL fun a s e_ hL => ?_
    refine st_stb (L' := [(4, (Pd.row En.SItem s0.w.heap.size 36 og13 out12)), (5, (Pd.rep (En.int .i64) v14)), (9, (Pd.row En.SItem s0.w.heap.size 36 og13 out12)), (10, (Pd.rep (En.int .i64) (r3.length : Int))), (11, (Pd.rep (En.int .i64) v14))]) 6 hL rfl (o_t 15 rfl) ty36 rfl rfl rfl (.cons (t := 4) rfl (Dis.ow (Dis.symm d25)) (.cons (t := 5) rfl (fun _ h_ => h_.elim) (.cons (t := 9) rfl (Dis.ow (Dis.symm d25)) (.cons (t := 10) rfl (fun _ h_ => h_.elim) (.cons (t := 11) rfl (fun _ h_ => h_.elim) .nil))))) fun s hL => ?_
    refine en' ?_
    show K21 a s.w
    refine hK21 _ _ ?_
    refine wp_seq_k fun K26 hK26 => ?_
    refine wp_seq_k fun K27 hK27 => ?_
    refine rg ?_
    refine st 16 (t_fab (off := 0) (o_t 6 rfl) Tryd.underlying36 rfl (prt_fst (prt_all _ _)) rfl ty3 rfl rfl) rfl rfl hL fun a s e_ hL => ?_
    refine st 17 (t_loado ty3 (o_t 16 rfl) rfl rfl) rfl rfl hL fun a s e_ hL => ?_
    refine st 18 (t_nei (o_t 17 rfl) (o_i (by decide)) rfl rfl) rfl rfl hL fun a s e_ hL => ?_
    refine en' ?_
    show K27 a s.w
    refine hK27 _ _ ?_
    refine cnd hL rfl (fun hb_ => ?_) (fun hb_ => ?_)
    · replace h := h.1 hb_
      refine wp_exit ?_
      show K20 a s.w
      refine hK20 _ _ ?_
      obtain ⟨h28, h⟩ := h
      refine rg ?_
      refine st 30 (t_add (o_t 11 rfl) (o_i (by decide)) h28 rfl rfl) rfl rfl hL fun a s e_ hL => ?_
      refine st 11 (t_move (o_t 30 rfl) rfl rfl) rfl rfl hL fun a s e_ hL => ?_
      refine en' ?_
      exact hKL17 k16 a s (Nat.lt_succ_self _) ⟨out12, (v14 + 1), og13, hL.keep (.cons (t := 4) rfl (fun _ _ h_ => h_) (.cons (t := 9) rfl (fun _ _ h_ => h_) (.cons (t := 10) rfl (fun _ h_ => h_.elim) (.cons (t := 11) rfl (fun _ h_ => h_.elim) .nil)))), h⟩
    · replace h := h.2 hb_
      refine wp_skip ?_
      show K26 a s.w
      refine hK26 _ _ ?_
      refine wp_seq_k fun K29 hK29 => ?_
      refine wp_seq_k fun K30 hK30 => ?_
      refine rg ?_
      refine st 19 (t_fab (off := 2) (o_t 6 rfl) Tryd.underlying36 rfl (prt_snd (prt_snd (prt_fst (prt_all _ _)) rfl) rfl) rfl ty3 rfl rfl) rfl rfl hL fun a s e_ hL => ?_
      refine st 20 (t_loado ty3 (o_t 19 rfl) rfl rfl) rfl rfl hL fun a s e_ hL => ?_
      refine st 21 (t_leq (o_t 20 rfl) (o_i (by decide)) rfl rfl) rfl rfl hL fun a s e_ hL => ?_
      refine en' ?_
      show K30 a s.w
      refine hK30 _ _ ?_
      refine cnd hL rfl (fun hb_ => ?_) (fun hb_ => ?_)
      · replace h := h.1 hb_
        refine wp_seq_k fun K31 hK31 => ?_
        refine rg ?_
        refine st 2 (t_assign (o_nil (E := En.SItem) (N := s0.w.heap.size) (te := 36)) rfl rfl) rfl rfl hL fun a s e_ hL => ?_
        refine st 3 (t_assign o_b rfl rfl) rfl rfl hL fun a s e_ hL => ?_
        refine en' ?_
        show K31 a s.w
        refine hK31 _ _ ?_
        subst h
        exact wp_ret (reto2 rfl hL rfl rfl)
      · replace h := h.2 hb_
        refine wp_skip ?_
        show K29 a s.w
        refine hK29 _ _ ?_
        obtain ⟨e32, h33, h34, e35, h36, h⟩ := h
        refine rg ?_
        refine st 22 (t_move (o_t 4 rfl) rfl rfl) rfl rfl hL fun a s e_ hL => ?_
        refine st 23 (t_move (o_t 5 rfl) rfl rfl) rfl rfl hL fun a s e_ hL => ?_
        refine st 24 (t_idxo (o_t 22 rfl) (o_t 23 rfl) h33 Tryd.underlying26 ty36 rfl rfl) rfl rfl hL fun a s e_ hL => ?_
        refine st 25 (t_fao (off := 2) (o_t 24 rfl) Tryd.underlying36 rfl (prt_snd (prt_snd (prt_fst (prt_all _ _)) rfl) rfl) rfl ty3 rfl rfl) rfl rfl hL fun a s e_ hL => ?_
        refine st 26 (t_loado ty3 (o_t 25 rfl) rfl rfl) rfl rfl hL fun a s e_ hL => ?_
        refine st 27 (t_sub (o_t 26 rfl) (o_i (by decide)) h34 rfl rfl) rfl rfl hL fun a s e_ hL => ?_
        refine st 28 (t_idxo (o_t 22 rfl) (o_t 23 rfl) h36 Tryd.underlying26 ty36 rfl rfl) rfl rfl hL fun a s e_ hL => ?_
        refine st 29 (t_fao (off := 2) (o_t 28 rfl) Tryd.underlying36 rfl (prt_snd (prt_snd (prt_fst (prt_all _ _)) rfl) rfl) rfl ty3 rfl rfl) rfl rfl hL fun a s e_ hL => ?_
        refine st_stor (L' := [(4, (Pd.row En.SItem s0.w.heap.size 36 og13 (out12.set (v14 : Int).toNat (e35.1, e35.2.1, e32.2.2.1 - 1, e35.2.2.2)))), (9, (Pd.row En.SItem s0.w.heap.size 36 og13 (out12.set (v14 : Int).toNat (e35.1, e35.2.1, e32.2.2.1 - 1, e35.2.2.2)))), (10, (Pd.rep (En.int .i64) (r3.length : Int))), (11, (Pd.rep (En.int .i64) v14))]) (off := 2) 4 hL rfl h36 (o_t 29 rfl) (o_t 27 rfl) (sub_snd (sub_snd (sub_fst (sub_all _ _ _)) rfl) rfl) ty3 rfl rfl rfl (.turn (t := 4) rfl (.turn (t := 9) rfl (.cons (t := 10) rfl (fun _ h_ => h_.elim) (.cons (t := 11) rfl (fun _ h_ => h_.elim) .nil)))) fun s hL => ?_
        refine en' ?_
        show K20 a s.w
        refine hK20 _ _ ?_
        obtain ⟨h37, h⟩ := h
        refine rg ?_
        refine st 30 (t_add (o_t 11 rfl) (o_i (by decide)) h37 rfl rfl) rfl rfl hL fun a s e_ hL => ?_
        refine st 11 (t_move (o_t 30 rfl) rfl rfl) rfl rfl hL fun a s e_ hL => ?_
        refine en' ?_
        exact hKL17 k16 a s (Nat.lt_succ_self _) ⟨(out12.set (v14 : Int).toNat (e35.1, e35.2.1, e32.2.2.1 - 1, e35.2.2.2)), (v14 + 1), og13, hL.keep (.cons (t := 4) rfl (fun _ _ h_ => h_) (.cons (t := 9) rfl (fun _ _ h_ => h_) (.cons (t := 10) rfl (fun _ h_ => h_.elim) (.cons (t := 11) rfl (fun _ h_ => h_.elim) .nil)))), h⟩
  · replace h := h.2 hb_
    refine wp_exit ?_
    exact J10 out12 og13 a s (hL.keep (.cons (t := 4) rfl (fun _ _ h_ => h_) .nil)) h

theorem item_within_ok {n_ : Int} {most_ : Int} {r_ : Bool} (h : item_within n_ most_ r_) : Fn Tryd.prog 61 [(Pd.rep (En.int .i64) n_), (Pd.rep (En.int .i64) most_)] (Rq (Pd.rep En.bool r_)) := by
  unfold item_within at h
  refine fn_of Tryd.func61 rfl Tryd.ntmps61 (by rfl) (by simp) fun s0 a hL => ?_
  refine wp_seq_k fun K1 hK1 => ?_
  refine rg ?_
  refine st 4 (t_assign o_b rfl rfl) rfl rfl hL fun a s e_ hL => ?_
  refine en' ?_
  show K1 a s.w
  refine hK1 _ _ ?_
  refine wp_seq_k fun K2 hK2 => ?_
  refine rg ?_
  refine st 5 (t_move (o_t 0 rfl) rfl rfl) rfl rfl hL fun a s e_ hL => ?_
  refine st 6 (t_geq (o_t 5 rfl) (o_i (by decide)) rfl rfl) rfl rfl hL fun a s e_ hL => ?_
  refine st 7 (t_move (o_t 6 rfl) rfl rfl) rfl rfl hL fun a s e_ hL => ?_
  refine st 8 (t_g1 rfl rfl rfl (fun hc_ => t_move (o_t 0 rfl) rfl rfl)) rfl rfl hL fun a s e_ hL => ?_
  refine st 9 (t_g1 rfl rfl rfl (fun hc_ => t_move (o_t 1 rfl) rfl rfl)) rfl rfl hL fun a s e_ hL => ?_
  refine st 10 (t_g1 rfl rfl rfl (fun hc_ => t_leq (o_w hc_ 8 rfl) (o_w hc_ 9 rfl) rfl rfl)) rfl rfl hL fun a s e_ hL => ?_
  refine st 11 (t_and (o_t 7 rfl) (fun hc2_ => (o_w hc2_ 10 rfl)) rfl rfl) rfl rfl hL fun a s e_ hL => ?_
  refine st 4 (t_assign (o_t 11 rfl) rfl rfl) rfl rfl hL fun a s e_ hL => ?_
  refine en' ?_
  show K2 a s.w
  refine hK2 _ _ ?_
  subst h
  exact wp_ret (retq rfl hL rfl)

theorem item_form_ok {d_ : SDesc} {x_ : SItem} {r_ : Bool} (h : item_form d_ x_ r_) : Fn Tryd.prog 38 [(Pd.rep En.SDesc d_), (Pd.rep En.SItem x_)] (Rq (Pd.rep En.bool r_)) := by
  unfold item_form at h
  refine fn_of Tryd.func38 rfl Tryd.ntmps38 (by rfl) (by simp) fun s0 a hL => ?_
  refine wp_seq_k fun K1 hK1 => ?_
  refine rg ?_
  refine st 2 (t_box (o_t 0 rfl) rfl rfl) rfl rfl hL fun a s e_ hL => ?_
  refine st 3 (t_box (o_t 1 rfl) rfl rfl) rfl rfl hL fun a s e_ hL => ?_
  refine st 4 (t_assign o_b rfl rfl) rfl rfl hL fun a s e_ hL => ?_
  refine en' ?_
  show K1 a s.w
  refine hK1 _ _ ?_
  refine wp_seq_k fun K2 hK2 => ?_
  refine wp_seq_k fun K3 hK3 => ?_
  refine rg ?_
  refine st 6 (t_fa (off := 0) (o_t 3 rfl) Tryd.underlying36 rfl (prt_fst (prt_all _ _)) rfl ty3 rfl rfl) rfl rfl hL fun a s e_ hL => ?_
  refine st 7 (t_load ty3 (o_t 6 rfl) rfl rfl) rfl rfl hL fun a s e_ hL => ?_
  refine st 8 (t_eqi (o_t 7 rfl) (o_i (by decide)) rfl rfl) rfl rfl hL fun a s e_ hL => ?_
  refine en' ?_
  show K3 a s.w
  refine hK3 _ _ ?_
  refine cnd hL rfl (fun hb_ => ?_) (fun hb_ => ?_)
  · replace h := h.1 hb_
    refine wp_seq_k fun K4 hK4 => ?_
    obtain ⟨r5, h6, h⟩ := h
    refine rg ?_
    refine st 9 (t_load ty36 (o_t 3 rfl) rfl rfl) rfl rfl hL fun a s e_ hL => ?_
    refine st 10 (t_fa (off := 0) (o_t 3 rfl) Tryd.underlying36 rfl (prt_fst (prt_all _ _)) rfl ty3 rfl rfl) rfl rfl hL fun a s e_ hL => ?_
    refine st 11 (t_load ty3 (o_t 10 rfl) rfl rfl) rfl rfl hL fun a s e_ hL => ?_
    refine st 12 (t_fa (off := 2) (o_t 3 rfl) Tryd.underlying36 rfl (prt_snd (prt_snd (prt_fst (prt_all _ _)) rfl) rfl) rfl ty3 rfl rfl) rfl rfl hL fun a s e_ hL => ?_
    refine st 13 (t_load ty3 (o_t 12 rfl) rfl rfl) rfl rfl hL fun a s e_ hL => ?_
    refine st 14 (t_build (x := (x_.1, 0, x_.2.2.1, 0)) (ps := [(0, .tmp 11), (2, .tmp 13)]) tyz36 rfl stt36 (.cons (i := 0) (o_t 11 rfl) rfl (sub_fst (sub_all _ _ _)) (.cons (i := 2) (o_t 13 rfl) rfl (sub_snd (sub_snd (sub_fst (sub_all _ _ _)) rfl) rfl) .nil)) rfl rfl) rfl rfl hL fun a s e_ hL => ?_
    refine st 15 (t_eqv eq36 (o_t 9 rfl) (o_t 14 rfl) rfl rfl) rfl rfl hL fun a s e_ hL => ?_
    refine st 16 (t_move (o_t 15 rfl) rfl rfl) rfl rfl hL fun a s e_ hL => ?_
    refine st 17 (t_g1 rfl rfl rfl (fun hc_ => t_fa (off := 2) (o_t 3 rfl) Tryd.underlying36 rfl (prt_snd (prt_snd (prt_fst (prt_all _ _)) rfl) rfl) rfl ty3 rfl rfl)) rfl rfl hL fun a s e_ hL => ?_
    refine st 18 (t_g1 rfl rfl rfl (fun hc_ => t_load ty3 (o_w hc_ 17 rfl) rfl rfl)) rfl rfl hL fun a s e_ hL => ?_
    refine st 19 (t_g1 rfl rfl rfl (fun hc_ => t_call (item_within_ok (h6 hc_)) (xs := [.tmp 18, .const (.int .i64 65535)]) (.cons (o_w hc_ 18 rfl) (.cons (o_i (by decide)) .nil)) rfl rfl)) rfl rfl hL fun a s e_ hL => ?_
    refine st 20 (t_and (o_t 16 rfl) (fun hc2_ => (o_w hc2_ 19 rfl)) rfl rfl) rfl rfl hL fun a s e_ hL => ?_
    refine st 4 (t_assign (o_t 20 rfl) rfl rfl) rfl rfl hL fun a s e_ hL => ?_
    refine en' ?_
    show K4 a s.w
    refine hK4 _ _ ?_
    subst h
    exact wp_ret (retq rfl hL rfl)
  · replace h := h.2 hb_
    refine wp_skip ?_
    show K2 a s.w
    refine hK2 _ _ ?_
    refine wp_seq_k fun K7 hK7 => ?_
    refine wp_seq_k fun K8 hK8 => ?_
    obtain ⟨h9, r10, h11, h⟩ := h
    refine rg ?_
    refine st 21 (t_fa (off := 1) (o_t 3 rfl) Tryd.underlying36 rfl (prt_snd (prt_fst (prt_all _ _)) rfl) rfl ty3 rfl rfl) rfl rfl hL fun a s e_ hL => ?_
    refine st 22 (t_load ty3 (o_t 21 rfl) rfl rfl) rfl rfl hL fun a s e_ hL => ?_
    refine st 23 (t_fa (off := 0) (o_t 2 rfl) Tryd.underlying24 rfl (prt_solo (prt_all _ _)) rfl ty22 rfl rfl) rfl rfl hL fun a s e_ hL => ?_
    refine st 24 (t_load ty22 (o_t 23 rfl) rfl rfl) rfl rfl hL fun a s e_ hL => ?_
    refine st 25 (t_len (o_t 24 rfl) Tryd.underlying22 rfl rfl) rfl rfl hL fun a s e_ hL => ?_
    refine st 26 (t_sub (o_t 25 rfl) (o_i (by decide)) h9 rfl rfl) rfl rfl hL fun a s e_ hL => ?_
    refine st 27 (t_call (item_within_ok h11) (xs := [.tmp 22, .tmp 26]) (.cons (o_t 22 rfl) (.cons (o_t 26 rfl) .nil)) rfl rfl) rfl rfl hL fun a s e_ hL => ?_
    refine st 28 (t_not (o_t 27 rfl) rfl rfl) rfl rfl hL fun a s e_ hL => ?_
    refine en' ?_
    show K8 a s.w
    refine hK8 _ _ ?_
    refine cnd hL rfl (fun hb_ => ?_) (fun hb_ => ?_)
    · replace h := h.1 hb_
      refine wp_seq_k fun K12 hK12 => ?_
      refine rg ?_
      refine st 4 (t_assign o_b rfl rfl) rfl rfl hL fun a s e_ hL => ?_
      refine en' ?_
      show K12 a s.w
      refine hK12 _ _ ?_
      subst h
      exact wp_ret (retq rfl hL rfl)
    · replace h := h.2 hb_
      refine wp_skip ?_
      show K7 a s.w
      refine hK7 _ _ ?_
      refine wp_seq_k fun K13 hK13 => ?_
      obtain ⟨e14, h15, h⟩ := h
      refine rg ?_
      refine st 29 (t_fa (off := 0) (o_t 2 rfl) Tryd.underlying24 rfl (prt_solo (prt_all _ _)) rfl ty22 rfl rfl) rfl rfl hL fun a s e_ hL => ?_
      refine st 30 (t_load ty22 (o_t 29 rfl) rfl rfl) rfl rfl hL fun a s e_ hL => ?_
      refine st 31 (t_fa (off := 1) (o_t 3 rfl) Tryd.underlying36 rfl (prt_snd (prt_fst (prt_all _ _)) rfl) rfl ty3 rfl rfl) rfl rfl hL fun a s e_ hL => ?_
      refine st 32 (t_load ty3 (o_t 31 rfl) rfl rfl) rfl rfl hL fun a s e_ hL => ?_
      refine st 33 (t_idx (o_t 30 rfl) (o_t 32 rfl) h15 Tryd.underlying22 ty69 rfl rfl) rfl rfl hL fun a s e_ hL => ?_
      refine st 34 (t_load ty69 (o_t 33 rfl) rfl rfl) rfl rfl hL fun a s e_ hL => ?_
      refine st_alloc En.SNode (z := (0, 0, 0, 0, 0, (0#256), ([] : Str))) 5 hL tyz69 rfl rfl rfl rfl fun a s g16 hg_ hL => ?_
      refine st_stb (L' := [(3, (Pd.ptr En.SItem x_))]) 5 hL rfl (o_t 34 rfl) ty69 rfl rfl rfl (.cons (t := 3) rfl (fun _ h_ => h_.elim) .nil) fun s hL => ?_
      refine en' ?_
      show K13 a s.w
      refine hK13 _ _ ?_
      refine wp_seq_k fun K17 hK17 => ?_
      refine wp_seq_k fun K18 hK18 => ?_
      refine rg ?_
      refine st 35 (t_fa (off := 0) (o_t 3 rfl) Tryd.underlying36 rfl (prt_fst (prt_all _ _)) rfl ty3 rfl rfl) rfl rfl hL fun a s e_ hL => ?_
      refine st 36 (t_load ty3 (o_t 35 rfl) rfl rfl) rfl rfl hL fun a s e_ hL => ?_
      refine en' ?_
      show K18 a s.w
      refine hK18 _ _ ?_
      refine wp_block ?_
      refine wp_seq_k fun K19 hK19 => ?_
      refine rg ?_
      refine st 38 (t_eqi (o_t 36 rfl) (o_i (by decide)) rfl rfl) rfl rfl hL fun a s e_ hL => ?_
      refine st 37 (t_assign (o_t 38 rfl) rfl rfl) rfl rfl hL fun a s e_ hL => ?_
      refine en' ?_
      show K19 a s.w
      refine hK19 _ _ ?_
      refine cnd hL rfl (fun hb_ => ?_) (fun hb_ => ?_)
      · replace h := h.1 hb_
        refine wp_seq_k fun K20 hK20 => ?_
        refine rg ?_
        refine st 39 (t_load ty36 (o_t 3 rfl) rfl rfl) rfl rfl hL fun a s e_ hL => ?_
        refine st 40 (t_fa (off := 0) (o_t 3 rfl) Tryd.underlying36 rfl (prt_fst (prt_all _ _)) rfl ty3 rfl rfl) rfl rfl hL fun a s e_ hL => ?_
        refine st 41 (t_load ty3 (o_t 40 rfl) rfl rfl) rfl rfl hL fun a s e_ hL => ?_
        refine st 42 (t_fa (off := 1) (o_t 3 rfl) Tryd.underlying36 rfl (prt_snd (prt_fst (prt_all _ _)) rfl) rfl ty3 rfl rfl) rfl rfl hL fun a s e_ hL => ?_
        refine st 43 (t_load ty3 (o_t 42 rfl) rfl rfl) rfl rfl hL fun a s e_ hL => ?_
        refine st 44 (t_build (x := (x_.1, x_.2.1, 0, 0)) (ps := [(0, .tmp 41), (1, .tmp 43)]) tyz36 rfl stt36 (.cons (i := 0) (o_t 41 rfl) rfl (sub_fst (sub_all _ _ _)) (.cons (i := 1) (o_t 43 rfl) rfl (sub_snd (sub_fst (sub_all _ _ _)) rfl) .nil)) rfl rfl) rfl rfl hL fun a s e_ hL => ?_
        refine st 45 (t_eqv eq36 (o_t 39 rfl) (o_t 44 rfl) rfl rfl) rfl rfl hL fun a s e_ hL => ?_
        refine st 4 (t_assign (o_t 45 rfl) rfl rfl) rfl rfl hL fun a s e_ hL => ?_
        refine en' ?_
        show K20 a s.w
        refine hK20 _ _ ?_
        subst h
        exact wp_ret (retq rfl hL rfl)
      · replace h := h.2 hb_
        refine wp_seq_k fun K21 hK21 => ?_
        refine rg ?_
        refine st 47 (t_eqi (o_t 36 rfl) (o_i (by decide)) rfl rfl) rfl rfl hL fun a s e_ hL => ?_
        refine st 46 (t_assign (o_t 47 rfl) rfl rfl) rfl rfl hL fun a s e_ hL => ?_
        refine en' ?_
        show K21 a s.w
        refine hK21 _ _ ?_
        refine cnd hL rfl (fun hb_ => ?_) (fun hb_ => ?_)
        · replace h := h.1 hb_
          refine wp_seq_k fun K22 hK22 => ?_
          obtain ⟨b23, h24, h⟩ := h
          refine rg ?_
          refine st 48 (t_fab (off := 0) (o_t 5 rfl) Tryd.underlying69 rfl (prt_fst (prt_all _ _)) rfl ty3 rfl rfl) rfl rfl hL fun a s e_ hL => ?_
          refine st 49 (t_loado ty3 (o_t 48 rfl) rfl rfl) rfl rfl hL fun a s e_ hL => ?_
          refine st 50 (t_eqi (o_t 49 rfl) (o_i (by decide)) rfl rfl) rfl rfl hL fun a s e_ hL => ?_
          refine st 51 (t_move (o_t 50 rfl) rfl rfl) rfl rfl hL fun a s e_ hL => ?_
          refine st 52 (t_g1 rfl rfl rfl (fun hc_ => t_fa (off := 2) (o_t 3 rfl) Tryd.underlying36 rfl (prt_snd (prt_snd (prt_fst (prt_all _ _)) rfl) rfl) rfl ty3 rfl rfl)) rfl rfl hL fun a s e_ hL => ?_
          refine st 53 (t_g1 rfl rfl rfl (fun hc_ => t_load ty3 (o_w hc_ 52 rfl) rfl rfl)) rfl rfl hL fun a s e_ hL => ?_
          refine st 54 (t_g1 rfl rfl rfl (fun hc_ => t_geq (o_w hc_ 53 rfl) (o_i (by decide)) rfl rfl)) rfl rfl hL fun a s e_ hL => ?_
          refine st 55 (t_and (o_t 51 rfl) (fun hc2_ => (o_w hc2_ 54 rfl)) rfl rfl) rfl rfl hL fun a s e_ hL => ?_
          refine st 56 (t_move (o_t 55 rfl) rfl rfl) rfl rfl hL fun a s e_ hL => ?_
          refine st 57 (t_g1 rfl rfl rfl (fun hc_ => t_fa (off := 2) (o_t 3 rfl) Tryd.underlying36 rfl (prt_snd (prt_snd (prt_fst (prt_all _ _)) rfl) rfl) rfl ty3 rfl rfl)) rfl rfl hL fun a s e_ hL => ?_
          refine st 58 (t_g1 rfl rfl rfl (fun hc_ => t_load ty3 (o_w hc_ 57 rfl) rfl rfl)) rfl rfl hL fun a s e_ hL => ?_
          refine st 59 (t_g1 rfl rfl rfl (fun hc_ => t_fa (off := 3) (o_t 3 rfl) Tryd.underlying36 rfl (prt_snd (prt_snd (prt_snd (prt_all _ _) rfl) rfl) rfl) rfl ty3 rfl rfl)) rfl rfl hL fun a s e_ hL => ?_
          refine st 60 (t_g1 rfl rfl rfl (fun hc_ => t_load ty3 (o_w hc_ 59 rfl) rfl rfl)) rfl rfl hL fun a s e_ hL => ?_
          refine st 61 (t_g1 rfl rfl rfl (fun hc_ => t_leq (o_w hc_ 58 rfl) (o_w hc_ 60 rfl) rfl rfl)) rfl rfl hL fun a s e_ hL => ?_
          refine st 62 (h24 ▸ (t_and (o_t 56 rfl) (fun hc2_ => (o_w hc2_ 61 rfl)) rfl rfl)) rfl rfl hL fun a s e_ hL => ?_
          refine st 63 (t_move (o_t 62 rfl) rfl rfl) rfl rfl hL fun a s e_ hL => ?_
          refine st 64 (t_g1 rfl rfl rfl (fun hc_ => t_fa (off := 3) (o_t 3 rfl) Tryd.underlying36 rfl (prt_snd (prt_snd (prt_snd (prt_all _ _) rfl) rfl) rfl) rfl ty3 rfl rfl)) rfl rfl hL fun a s e_ hL => ?_
          refine st 65 (t_g1 rfl rfl rfl (fun hc_ => t_load ty3 (o_w hc_ 64 rfl) rfl rfl)) rfl rfl hL fun a s e_ hL => ?_
          refine st 66 (t_g1 rfl rfl rfl (fun hc_ => t_fab (off := 4) (o_t 5 rfl) Tryd.underlying69 rfl (prt_snd (prt_snd (prt_snd (prt_snd (prt_fst (prt_all _ _)) rfl) rfl) rfl) rfl) rfl ty3 rfl rfl)) rfl rfl hL fun a s e_ hL => ?_
          refine st 67 (t_g1 rfl rfl rfl (fun hc_ => t_loado ty3 (o_w hc_ 66 rfl) rfl rfl)) rfl rfl hL fun a s e_ hL => ?_
          refine st 68 (t_g1 rfl rfl rfl (fun hc_ => t_leq (o_w hc_ 65 rfl) (o_w hc_ 67 rfl) rfl rfl)) rfl rfl hL fun a s e_ hL => ?_
          refine st 69 (t_and (o_t 63 rfl) (fun hc2_ => (o_w hc2_ 68 rfl)) rfl rfl) rfl rfl hL fun a s e_ hL => ?_
          refine st 4 (t_assign (o_t 69 rfl) rfl rfl) rfl rfl hL fun a s e_ hL => ?_
          refine en' ?_
          show K22 a s.w
          refine hK22 _ _ ?_
          subst h
          exact wp_ret (retq rfl hL rfl)
        · replace h := h.2 hb_
          refine wp_seq_k fun K25 hK25 => ?_
          refine rg ?_
          refine st 71 (t_eqi (o_t 36 rfl) (o_i (by decide)) rfl rfl) rfl rfl hL fun a s e_ hL => ?_
          refine st 70 (t_assign (o_t 71 rfl) rfl rfl) rfl rfl hL fun a s e_ hL => ?_
          refine en' ?_
          show K25 a s.w
          refine hK25 _ _ ?_
          refine cnd hL rfl (fun hb_ => ?_) (fun hb_ => ?_)
          · replace h := h.1 hb_
            refine wp_seq_k fun K26 hK26 => ?_
            obtain ⟨h27, r28, h29, h⟩ := h
            refine rg ?_
            refine st 72 (t_fab (off := 0) (o_t 5 rfl) Tryd.underlying69 rfl (prt_fst (prt_all _ _)) rfl ty3 rfl rfl) rfl rfl hL fun a s e_ hL => ?_
            refine st 73 (t_loado ty3 (o_t 72 rfl) rfl rfl) rfl rfl hL fun a s e_ hL => ?_
            refine st 74 (t_eqi (o_t 73 rfl) (o_i (by decide)) rfl rfl) rfl rfl hL fun a s e_ hL => ?_
            refine st 75 (t_move (o_t 74 rfl) rfl rfl) rfl rfl hL fun a s e_ hL => ?_
            refine st 76 (t_g1 rfl rfl rfl (fun hc_ => t_fa (off := 3) (o_t 3 rfl) Tryd.underlying36 rfl (prt_snd (prt_snd (prt_snd (prt_all _ _) rfl) rfl) rfl) rfl ty3 rfl rfl)) rfl rfl hL fun a s e_ hL => ?_
            refine st 77 (t_g1 rfl rfl rfl (fun hc_ => t_load ty3 (o_w hc_ 76 rfl) rfl rfl)) rfl rfl hL fun a s e_ hL => ?_
            refine st 78 (t_g1 rfl rfl rfl (fun hc_ => t_eqi (o_w hc_ 77 rfl) (o_i (by decide)) rfl rfl)) rfl rfl hL fun a s e_ hL => ?_
            refine st 79 (t_and (o_t 75 rfl) (fun hc2_ => (o_w hc2_ 78 rfl)) rfl rfl) rfl rfl hL fun a s e_ hL => ?_
            refine st 80 (t_move (o_t 79 rfl) rfl rfl) rfl rfl hL fun a s e_ hL => ?_
            refine st 81 (t_g1 rfl rfl rfl (fun hc_ => t_fa (off := 2) (o_t 3 rfl) Tryd.underlying36 rfl (prt_snd (prt_snd (prt_fst (prt_all _ _)) rfl) rfl) rfl ty3 rfl rfl)) rfl rfl hL fun a s e_ hL => ?_
            refine st 82 (t_g1 rfl rfl rfl (fun hc_ => t_load ty3 (o_w hc_ 81 rfl) rfl rfl)) rfl rfl hL fun a s e_ hL => ?_
            refine st 83 (t_g1 rfl rfl rfl (fun hc_ => t_fab (off := 9) (o_t 5 rfl) Tryd.underlying69 rfl (prt_snd (prt_snd (prt_snd (prt_snd (prt_snd (prt_snd (prt_all _ _) rfl) rfl) rfl) rfl) rfl) rfl) rfl ty9 rfl rfl)) rfl rfl hL fun a s e_ hL => ?_
            refine st 84 (t_g1 rfl rfl rfl (fun hc_ => t_loado ty9 (o_w hc_ 83 rfl) rfl rfl)) rfl rfl hL fun a s e_ hL => ?_
            refine st 85 (t_g1 rfl rfl rfl (fun hc_ => t_slen (o_w hc_ 84 rfl) Tryd.underlying9 rfl rfl)) rfl rfl hL fun a s e_ hL => ?_
            refine st 86 (t_g1 rfl rfl rfl (fun hc_ => t_sub (o_w hc_ 85 rfl) (o_i (by decide)) (h27 hc_) rfl rfl)) rfl rfl hL fun a s e_ hL => ?_
            refine st 87 (t_g1 rfl rfl rfl (fun hc_ => t_call (item_within_ok (h29 hc_)) (xs := [.tmp 82, .tmp 86]) (.cons (o_w hc_ 82 rfl) (.cons (o_w hc_ 86 rfl) .nil)) rfl rfl)) rfl rfl hL fun a s e_ hL => ?_
            refine st 88 (t_and (o_t 80 rfl) (fun hc2_ => (o_w hc2_ 87 rfl)) rfl rfl) rfl rfl hL fun a s e_ hL => ?_
            refine st 4 (t_assign (o_t 88 rfl) rfl rfl) rfl rfl hL fun a s e_ hL => ?_
            refine en' ?_
            show K26 a s.w
            refine hK26 _ _ ?_
            subst h
            exact wp_ret (retq rfl hL rfl)
          · replace h := h.2 hb_
            refine wp_seq_k fun K30 hK30 => ?_
            refine rg ?_
            refine st 90 (t_eqi (o_t 36 rfl) (o_i (by decide)) rfl rfl) rfl rfl hL fun a s e_ hL => ?_
            refine st 89 (t_assign (o_t 90 rfl) rfl rfl) rfl rfl hL fun a s e_ hL => ?_
            refine en' ?_
            show K30 a s.w
            refine hK30 _ _ ?_
            refine cnd hL rfl (fun hb_ => ?_) (fun hb_ => ?_)
            · replace h := h.1 hb_
              refine wp_seq_k fun K31 hK31 => ?_
              obtain ⟨r32, h33, h⟩ := h
              refine rg ?_
              refine st 91 (t_fab (off := 0) (o_t 5 rfl) Tryd.underlying69 rfl (prt_fst (prt_all _ _)) rfl ty3 rfl rfl) rfl rfl hL fun a s e_ hL => ?_
              refine st 92 (t_loado ty3 (o_t 91 rfl) rfl rfl) rfl rfl hL fun a s e_ hL => ?_
              refine st 93 (t_eqi (o_t 92 rfl) (o_i (by decide)) rfl rfl) rfl rfl hL fun a s e_ hL => ?_
              refine st 94 (t_move (o_t 93 rfl) rfl rfl) rfl rfl hL fun a s e_ hL => ?_
              refine st 95 (t_g1 rfl rfl rfl (fun hc_ => t_fa (off := 3) (o_t 3 rfl) Tryd.underlying36 rfl (prt_snd (prt_snd (prt_snd (prt_all _ _) rfl) rfl) rfl) rfl ty3 rfl rfl)) rfl rfl hL fun a s e_ hL => ?_
              refine st 96 (t_g1 rfl rfl rfl (fun hc_ => t_load ty3 (o_w hc_ 95 rfl) rfl rfl)) rfl rfl hL fun a s e_ hL => ?_
              refine st 97 (t_g1 rfl rfl rfl (fun hc_ => t_eqi (o_w hc_ 96 rfl) (o_i (by decide)) rfl rfl)) rfl rfl hL fun a s e_ hL => ?_
              refine st 98 (t_and (o_t 94 rfl) (fun hc2_ => (o_w hc2_ 97 rfl)) rfl rfl) rfl rfl hL fun a s e_ hL => ?_
              refine st 99 (t_move (o_t 98 rfl) rfl rfl) rfl rfl hL fun a s e_ hL => ?_
              refine st 100 (t_g1 rfl rfl rfl (fun hc_ => t_fa (off := 2) (o_t 3 rfl) Tryd.underlying36 rfl (prt_snd (prt_snd (prt_fst (prt_all _ _)) rfl) rfl) rfl ty3 rfl rfl)) rfl rfl hL fun a s e_ hL => ?_
              refine st 101 (t_g1 rfl rfl rfl (fun hc_ => t_load ty3 (o_w hc_ 100 rfl) rfl rfl)) rfl rfl hL fun a s e_ hL => ?_
              refine st 102 (t_g1 rfl rfl rfl (fun hc_ => t_call (item_within_ok (h33 hc_)) (xs := [.tmp 101, .const (.int .i64 255)]) (.cons (o_w hc_ 101 rfl) (.cons (o_i (by decide)) .nil)) rfl rfl)) rfl rfl hL fun a s e_ hL => ?_
              refine st 103 (t_and (o_t 99 rfl) (fun hc2_ => (o_w hc2_ 102 rfl)) rfl rfl) rfl rfl hL fun a s e_ hL => ?_
              refine st 4 (t_assign (o_t 103 rfl) rfl rfl) rfl rfl hL fun a s e_ hL => ?_
              refine en' ?_
              show K31 a s.w
              refine hK31 _ _ ?_
              subst h
              exact wp_ret (retq rfl hL rfl)
            · replace h := h.2 hb_
              refine wp_skip ?_
              show K17 a s.w
              refine hK17 _ _ ?_
              refine wp_seq_k fun K34 hK34 => ?_
              refine rg ?_
              refine st 4 (t_assign o_b rfl rfl) rfl rfl hL fun a s e_ hL => ?_
              refine en' ?_
              show K34 a s.w
              refine hK34 _ _ ?_
              subst h
              exact wp_ret (retq rfl hL rfl)

theorem item_Form_1_ok {x_ : SItem} {cap0_ : SDesc} {r_ : Bool} (h : item_Form_1 x_ cap0_ r_) : Fn Tryd.prog 37 [(Pd.rep En.SItem x_), (Pd.ptr En.SDesc cap0_)] (Rq (Pd.rep En.bool r_)) := by
  unfold item_Form_1 at h
  refine fn_of Tryd.func37 rfl Tryd.ntmps37 (by rfl) (by simp) fun s0 a hL => ?_
  refine wp_seq_k fun K1 hK1 => ?_
  refine rg ?_
  refine st 2 (t_box (o_t 0 rfl) rfl rfl) rfl rfl hL fun a s e_ hL => ?_
  refine st 3 (t_assign o_b rfl rfl) rfl rfl hL fun a s e_ hL => ?_
  refine en' ?_
  show K1 a s.w
  refine hK1 _ _ ?_
  refine wp_seq_k fun K2 hK2 => ?_
  obtain ⟨r3, h4, h⟩ := h
  refine rg ?_
  refine st 4 (t_load ty24 (o_t 1 rfl) rfl rfl) rfl rfl hL fun a s e_ hL => ?_
  refine st 5 (t_load ty36 (o_t 2 rfl) rfl rfl) rfl rfl hL fun a s e_ hL => ?_
  refine st 6 (t_call (item_form_ok h4) (xs := [.tmp 4, .tmp 5]) (.cons (o_t 4 rfl) (.cons (o_t 5 rfl) .nil)) rfl rfl) rfl rfl hL fun a s e_ hL => ?_
  refine st 7 (t_not (o_t 6 rfl) rfl rfl) rfl rfl hL fun a s e_ hL => ?_
  refine st 3 (t_assign (o_t 7 rfl) rfl rfl) rfl rfl hL fun a s e_ hL => ?_
  refine en' ?_
  show K2 a s.w
  refine hK2 _ _ ?_
  subst h
  exact wp_ret (retq rfl hL rfl)

theorem item_Form_ok {d_ : SDesc} {s_ : (List SItem)} {r_ : Bool} (h : item_Form d_ s_ r_) : Fn Tryd.prog 18 [(Pd.rep En.SDesc d_), (Pd.rep (En.slice En.SItem) s_)] (Rq (Pd.rep En.bool r_)) := by
  unfold item_Form at h
  refine fn_of Tryd.func18 rfl Tryd.ntmps18 (by rfl) (by simp) fun s0 a hL => ?_
  refine wp_seq_k fun K1 hK1 => ?_
  refine rg ?_
  refine st 2 (t_box (o_t 0 rfl) rfl rfl) rfl rfl hL fun a s e_ hL => ?_
  refine st 4 (t_assign o_b rfl rfl) rfl rfl hL fun a s e_ hL => ?_
  refine en' ?_
  show K1 a s.w
  refine hK1 _ _ ?_
  refine wp_seq_k fun K2 hK2 => ?_
  obtain ⟨r3, h4, h⟩ := h
  refine rg ?_
  refine st 5 (t_move (o_t 1 rfl) rfl rfl) rfl rfl hL fun a s e_ hL => ?_
  refine st 6 (t_q (Pd.rep EnF75 (fun q_ => item_Form_1 q_.1 d_ q_.2)) (t_mkfun (cs := [.tmp 2]) (.cons (o_t 2 rfl) .nil) (call_of Tryd.func37 rfl (by rfl)) (enc_cons enc_ptr enc_nil) (fun q_ h_ => item_Form_1_ok h_) rfl rfl)) rfl rfl hL fun a s e_ hL => ?_
  refine st 7 (t_call (slices_ContainsFunc_api_State_api_Item_ok h4) (xs := [.tmp 5, .tmp 6]) (.cons (o_t 5 rfl) (.cons (o_t 6 rfl) .nil)) rfl rfl) rfl rfl hL fun a s e_ hL => ?_
  refine st 8 (t_not (o_t 7 rfl) rfl rfl) rfl rfl hL fun a s e_ hL => ?_
  refine st 4 (t_assign (o_t 8 rfl) rfl rfl) rfl rfl hL fun a s e_ hL => ?_
  refine en' ?_
  show K2 a s.w
  refine hK2 _ _ ?_
  subst h
  exact wp_ret (retq rfl hL rfl)

theorem item_Compare_1_ok {x_ : SItem} {y_ : SItem} {r_ : Int} (h : item_Compare_1 x_ y_ r_) : Fn Tryd.prog 42 [(Pd.rep En.SItem x_), (Pd.rep En.SItem y_)] (Rq (Pd.rep (En.int .i64) r_)) := by
  unfold item_Compare_1 at h
  refine fn_of Tryd.func42 rfl Tryd.ntmps42 (by rfl) (by simp) fun s0 a hL => ?_
  refine wp_seq_k fun K1 hK1 => ?_
  refine rg ?_
  refine st 2 (t_box (o_t 0 rfl) rfl rfl) rfl rfl hL fun a s e_ hL => ?_
  refine st 3 (t_box (o_t 1 rfl) rfl rfl) rfl rfl hL fun a s e_ hL => ?_
  refine st 4 (t_assign (o_i (by decide)) rfl rfl) rfl rfl hL fun a s e_ hL => ?_
  refine en' ?_
  show K1 a s.w
  refine hK1 _ _ ?_
  refine wp_seq_k fun K2 hK2 => ?_
  obtain ⟨r3, h4, r5, h6, r7, h8, r9, h10, r11, h12, h⟩ := h
  refine rda follows 22 [(Pd.ptr (En.int .i64) x_.1), (Pd.rep (En.int .i64) x_.1), (Pd.ptr (En.int .i64) y_.1), (Pd.rep (En.int .i64) y_.1), (Pd.rep (En.int .i64) r3), (Pd.ptr (En.int .i64) x_.2.1), (Pd.rep (En.int .i64) x_.2.1), (Pd.ptr (En.int .i64) y_.2.1), (Pd.rep (En.int .i64) y_.2.1), (Pd.rep (En.int .i64) r5), (Pd.ptr (En.int .i64) x_.2.2.1), (Pd.rep (En.int .i64) x_.2.2.1), (Pd.ptr (En.int .i64) y_.2.2.1), (Pd.rep (En.int .i64) y_.2.2.1), (Pd.rep (En.int .i64) r7), (Pd.ptr (En.int .i64) x_.2.2.2), (Pd.rep (En.int .i64) x_.2.2.2), (Pd.ptr (En.int .i64) y_.2.2.2), (Pd.rep (En.int .i64) y_.2.2.2), (Pd.rep (En.int .i64) r9), (Pd.rep (En.slice (En.int .i64)) [r3, r5, r7, r9]), (Pd.rep (En.int .i64) r11)] hL (by kernel_rfl) rfl rfl ?_ ?_
  · refine AllT.cons (t_fa (off := 0) (o_t 2 rfl) Tryd.underlying36 rfl (prt_fst (prt_all _ _)) rfl ty3 rfl rfl) ?_
    refine AllT.cons (t_load ty3 (o_t 5 rfl) rfl rfl) ?_
    refine AllT.cons (t_fa (off := 0) (o_t 3 rfl) Tryd.underlying36 rfl (prt_fst (prt_all _ _)) rfl ty3 rfl rfl) ?_
    refine AllT.cons (t_load ty3 (o_t 7 rfl) rfl rfl) ?_
    refine AllT.cons (t_call (cmp_Compare_int_ok h4) (xs := [.tmp 6, .tmp 8]) (.cons (o_t 6 rfl) (.cons (o_t 8 rfl) .nil)) rfl rfl) ?_
    refine AllT.cons (t_fa (off := 1) (o_t 2 rfl) Tryd.underlying36 rfl (prt_snd (prt_fst (prt_all _ _)) rfl) rfl ty3 rfl rfl) ?_
    refine AllT.cons (t_load ty3 (o_t 10 rfl) rfl rfl) ?_
    refine AllT.cons (t_fa (off := 1) (o_t 3 rfl) Tryd.underlying36 rfl (prt_snd (prt_fst (prt_all _ _)) rfl) rfl ty3 rfl rfl) ?_
    refine AllT.cons (t_load ty3 (o_t 12 rfl) rfl rfl) ?_
    refine AllT.cons (t_call (cmp_Compare_int_ok h6) (xs := [.tmp 11, .tmp 13]) (.cons (o_t 11 rfl) (.cons (o_t 13 rfl) .nil)) rfl rfl) ?_
    refine AllT.cons (t_fa (off := 2) (o_t 2 rfl) Tryd.underlying36 rfl (prt_snd (prt_snd (prt_fst (prt_all _ _)) rfl) rfl) rfl ty3 rfl rfl) ?_
    refine AllT.cons (t_load ty3 (o_t 15 rfl) rfl rfl) ?_
    refine AllT.cons (t_fa (off := 2) (o_t 3 rfl) Tryd.underlying36 rfl (prt_snd (prt_snd (prt_fst (prt_all _ _)) rfl) rfl) rfl ty3 rfl rfl) ?_
    refine AllT.cons (t_load ty3 (o_t 17 rfl) rfl rfl) ?_
    refine AllT.cons (t_call (cmp_Compare_int_ok h8) (xs := [.tmp 16, .tmp 18]) (.cons (o_t 16 rfl) (.cons (o_t 18 rfl) .nil)) rfl rfl) ?_
    refine AllT.cons (t_fa (off := 3) (o_t 2 rfl) Tryd.underlying36 rfl (prt_snd (prt_snd (prt_snd (prt_all _ _) rfl) rfl) rfl) rfl ty3 rfl rfl) ?_
    refine AllT.cons (t_load ty3 (o_t 20 rfl) rfl rfl) ?_
    refine AllT.cons (t_fa (off := 3) (o_t 3 rfl) Tryd.underlying36 rfl (prt_snd (prt_snd (prt_snd (prt_all _ _) rfl) rfl) rfl) rfl ty3 rfl rfl) ?_
    refine AllT.cons (t_load ty3 (o_t 22 rfl) rfl rfl) ?_
    refine AllT.cons (t_call (cmp_Compare_int_ok h10) (xs := [.tmp 21, .tmp 23]) (.cons (o_t 21 rfl) (.cons (o_t 23 rfl) .nil)) rfl rfl) ?_
    refine AllT.cons (t_lit (xs := [.tmp 9, .tmp 14, .tmp 19, .tmp 24]) (.cons (o_t 9 rfl) (.cons (o_t 14 rfl) (.cons (o_t 19 rfl) (.cons (o_t 24 rfl) .nil)))) Tryd.underlying47 ty3 rfl rfl (by decide) rfl rfl) ?_
    refine AllT.cons (t_call (cmp_Or_int_ok h12) (xs := [.tmp 25]) (.cons (o_t 25 rfl) .nil) rfl rfl) ?_
    exact AllT.nil
  intro a s e_ hL
  refine st 4 (t_assign (o_t 26 rfl) rfl rfl) rfl rfl hL fun a s e_ hL => ?_
  refine en' ?_
  show K2 a s.w
  refine hK2 _ _ ?_
  subst h
  exact wp_ret (retq rfl hL rfl)

theorem item_Compare_ok {a_ : (List SItem)} {b_ : (List SItem)} {r_ : Int} (h : item_Compare a_ b_ r_) : Fn Tryd.prog 20 [(Pd.rep (En.slice En.SItem) a_), (Pd.rep (En.slice En.SItem) b_)] (Rq (Pd.rep (En.int .i64) r_)) := by
  unfold item_Compare at h
  refine fn_of Tryd.func20 rfl Tryd.ntmps20 (by rfl) (by simp) fun s0 a hL => ?_
  refine wp_seq_k fun K1 hK1 => ?_
  refine rg ?_
  refine st 4 (t_assign (o_i (by decide)) rfl rfl) rfl rfl hL fun a s e_ hL => ?_
  refine en' ?_
  show K1 a s.w
  refine hK1 _ _ ?_
  refine wp_seq_k fun K2 hK2 => ?_
  refine wp_seq_k fun K3 hK3 => ?_
  obtain ⟨r4, h5, h⟩ := h
  refine rg ?_
  refine st 6 (t_move (o_t 0 rfl) rfl rfl) rfl rfl hL fun a s e_ hL => ?_
  refine st 7 (t_len (o_t 6 rfl) Tryd.underlying26 rfl rfl) rfl rfl hL fun a s e_ hL => ?_
  refine st 8 (t_move (o_t 1 rfl) rfl rfl) rfl rfl hL fun a s e_ hL => ?_
  refine st 9 (t_len (o_t 8 rfl) Tryd.underlying26 rfl rfl) rfl rfl hL fun a s e_ hL => ?_
  refine st 10 (t_call (cmp_Compare_int_ok h5) (xs := [.tmp 7, .tmp 9]) (.cons (o_t 7 rfl) (.cons (o_t 9 rfl) .nil)) rfl rfl) rfl rfl hL fun a s e_ hL => ?_
  refine st 5 (t_assign (o_t 10 rfl) rfl rfl) rfl rfl hL fun a s e_ hL => ?_
  refine en' ?_
  show K3 a s.w
  refine hK3 _ _ ?_
  refine wp_seq_k fun K6 hK6 => ?_
  refine rg ?_
  refine st 11 (t_move (o_t 5 rfl) rfl rfl) rfl rfl hL fun a s e_ hL => ?_
  refine st 12 (t_nei (o_t 11 rfl) (o_i (by decide)) rfl rfl) rfl rfl hL fun a s e_ hL => ?_
  refine en' ?_
  show K6 a s.w
  refine hK6 _ _ ?_
  refine cnd hL rfl (fun hb_ => ?_) (fun hb_ => ?_)
  · replace h := h.1 hb_
    refine wp_seq_k fun K7 hK7 => ?_
    refine rg ?_
    refine st 13 (t_move (o_t 5 rfl) rfl rfl) rfl rfl hL fun a s e_ hL => ?_
    refine st 4 (t_assign (o_t 13 rfl) rfl rfl) rfl rfl hL fun a s e_ hL => ?_
    refine en' ?_
    show K7 a s.w
    refine hK7 _ _ ?_
    subst h
    exact wp_ret (retq rfl hL rfl)
  · replace h := h.2 hb_
    refine wp_skip ?_
    show K2 a s.w
    refine hK2 _ _ ?_
    refine wp_seq_k fun K8 hK8 => ?_
    obtain ⟨r9, h10, h⟩ := h
    refine rg ?_
    refine st 14 (t_move (o_t 0 rfl) rfl rfl) rfl rfl hL fun a s e_ hL => ?_
    refine st 15 (t_move (o_t 1 rfl) rfl rfl) rfl rfl hL fun a s e_ hL => ?_
    refine st 16 (t_call (slices_CompareFunc_api_State_api_State_api_Item_api_Item_ok h10) (xs := [.tmp 14, .tmp 15, .func 42]) (.cons (o_t 14 rfl) (.cons (o_t 15 rfl) (.cons (o_q (Pd.rep EnF79 (fun q_ => item_Compare_1 q_.1 q_.2.1 q_.2.2)) (o_fun (call_of Tryd.func42 rfl (by rfl)) (fun q_ h_ => item_Compare_1_ok h_))) .nil))) rfl rfl) rfl rfl hL fun a s e_ hL => ?_
    refine st 4 (t_assign (o_t 16 rfl) rfl rfl) rfl rfl hL fun a s e_ hL => ?_
    refine en' ?_
    show K8 a s.w
    refine hK8 _ _ ?_
    subst h
    exact wp_ret (retq rfl hL rfl)

theorem law13_awake_ok  {r_ : Bool} (h : law13_awake  r_) : Fn Tryd.prog 12 [] (Rq (Pd.rep En.bool r_)) := by
  unfold law13_awake at h
  refine fn_of Tryd.func12 rfl Tryd.ntmps12 (by rfl) (by simp) fun s0 a hL => ?_
  refine wp_seq_k fun K1 hK1 => ?_
  refine rg ?_
  refine st 0 (t_assign o_b rfl rfl) rfl rfl hL fun a s e_ hL => ?_
  refine en' ?_
  show K1 a s.w
  refine hK1 _ _ ?_
  refine wp_seq_k fun K2 hK2 => ?_
  refine rg ?_
  refine st 7 (t_build (x := (3, 0, 0, 0, 0, (0#256), ([97, 98] : Str))) (ps := [(0, .const (.int .i64 3)), (6, .const (.string ⟨#[97, 98]⟩))]) tyz69 rfl stt69 (.cons (i := 0) (o_i (by decide)) rfl (sub_fst (sub_all _ _ _)) (.cons (i := 6) (o_s (by decide)) rfl (sub_snd (sub_snd (sub_snd (sub_snd (sub_snd (sub_snd (sub_all _ _ _) rfl) rfl) rfl) rfl) rfl) rfl) .nil)) rfl rfl) rfl rfl hL fun a s e_ hL => ?_
  refine st 8 (t_lit (xs := [.tmp 7]) (.cons (o_t 7 rfl) .nil) Tryd.underlying22 ty69 rfl rfl (by decide) rfl rfl) rfl rfl hL fun a s e_ hL => ?_
  refine st 9 (t_build (x := [(3, 0, 0, 0, 0, (0#256), ([97, 98] : Str))]) (ps := [(0, .tmp 8)]) tyz24 rfl stt24 (.cons (i := 0) (o_t 8 rfl) rfl (sub_solo (sub_all _ _ _)) .nil) rfl rfl) rfl rfl hL fun a s e_ hL => ?_
  refine st_alloc En.SDesc (z := []) 1 hL tyz24 rfl rfl rfl rfl fun a s g3 hg_ hL => ?_
  refine st_stb (L' := []) 1 hL rfl (o_t 9 rfl) ty24 rfl rfl rfl .nil fun s hL => ?_
  refine en' ?_
  show K2 a s.w
  refine hK2 _ _ ?_
  refine wp_seq_k fun K4 hK4 => ?_
  obtain ⟨r5, h6, h⟩ := h
  refine rg ?_
  refine st 10 (t_loadb ty24 (o_t 1 rfl) rfl rfl) rfl rfl hL fun a s e_ hL => ?_
  refine st 11 (t_call ((item_Start_ok h6).frz) (xs := [.tmp 10]) (.cons (o_t 10 rfl) .nil) rfl rfl) rfl rfl hL fun a s e_ hL => ?_
  refine st 2 (t_assign (o_t 11 rfl) rfl rfl) rfl rfl hL fun a s e_ hL => ?_
  refine en' ?_
  show K4 a s.w
  refine hK4 _ _ ?_
  refine wp_seq_k fun K7 hK7 => ?_
  obtain ⟨r8, h9, h⟩ := h
  refine rg ?_
  refine st 13 (t_build (x := (3, 0, 1, 0)) (ps := [(0, .const (.int .i64 3)), (2, .const (.int .i64 1))]) tyz36 rfl stt36 (.cons (i := 0) (o_i (by decide)) rfl (sub_fst (sub_all _ _ _)) (.cons (i := 2) (o_i (by decide)) rfl (sub_snd (sub_snd (sub_fst (sub_all _ _ _)) rfl) rfl) .nil)) rfl rfl) rfl rfl hL fun a s e_ hL => ?_
  refine st 14 (t_build (x := (5, 0, 3, 0)) (ps := [(0, .const (.int .i64 5)), (2, .const (.int .i64 3))]) tyz36 rfl stt36 (.cons (i := 0) (o_i (by decide)) rfl (sub_fst (sub_all _ _ _)) (.cons (i := 2) (o_i (by decide)) rfl (sub_snd (sub_snd (sub_fst (sub_all _ _ _)) rfl) rfl) .nil)) rfl rfl) rfl rfl hL fun a s e_ hL => ?_
  refine st 15 (t_lit (xs := [.tmp 13, .tmp 14]) (.cons (o_t 13 rfl) (.cons (o_t 14 rfl) .nil)) Tryd.underlying26 ty36 rfl rfl (by decide) rfl rfl) rfl rfl hL fun a s e_ hL => ?_
  refine st 16 (t_call (((item_Lower_ok h9).frz2 (Pd.rep_stable _ _)).tup) (xs := [.tmp 15]) (.cons (o_t 15 rfl) .nil) rfl rfl) rfl rfl hL fun a s e_ hL => ?_
  refine st 12 (t_move (o_t 16 rfl) rfl rfl) rfl rfl hL fun a s e_ hL => ?_
  refine st 17 (t_ext0 (o_t 12 rfl) rfl rfl) rfl rfl hL fun a s e_ hL => ?_
  refine st 18 (t_ext1 (o_t 12 rfl) rfl rfl) rfl rfl hL fun a s e_ hL => ?_
  refine st 3 (t_assign (o_t 17 rfl) rfl rfl) rfl rfl hL fun a s e_ hL => ?_
  refine st 4 (t_assign (o_t 18 rfl) rfl rfl) rfl rfl hL fun a s e_ hL => ?_
  refine en' ?_
  show K7 a s.w
  refine hK7 _ _ ?_
  refine wp_seq_k fun K10 hK10 => ?_
  obtain ⟨r11, h12, h⟩ := h
  refine rg ?_
  refine st 20 (t_build (x := (5, 0, 0, 0)) (ps := [(0, .const (.int .i64 5))]) tyz36 rfl stt36 (.cons (i := 0) (o_i (by decide)) rfl (sub_fst (sub_all _ _ _)) .nil) rfl rfl) rfl rfl hL fun a s e_ hL => ?_
  refine st 21 (t_lit (xs := [.tmp 20]) (.cons (o_t 20 rfl) .nil) Tryd.underlying26 ty36 rfl rfl (by decide) rfl rfl) rfl rfl hL fun a s e_ hL => ?_
  refine st 22 (t_call (((item_Lower_ok h12).frz2 (Pd.rep_stable _ _)).tup) (xs := [.tmp 21]) (.cons (o_t 21 rfl) .nil) rfl rfl) rfl rfl hL fun a s e_ hL => ?_
  refine st 19 (t_move (o_t 22 rfl) rfl rfl) rfl rfl hL fun a s e_ hL => ?_
  refine st 23 (t_ext0 (o_t 19 rfl) rfl rfl) rfl rfl hL fun a s e_ hL => ?_
  refine st 24 (t_ext1 (o_t 19 rfl) rfl rfl) rfl rfl hL fun a s e_ hL => ?_
  refine st 5 (t_assign (o_t 23 rfl) rfl rfl) rfl rfl hL fun a s e_ hL => ?_
  refine st 6 (t_assign (o_t 24 rfl) rfl rfl) rfl rfl hL fun a s e_ hL => ?_
  refine en' ?_
  show K10 a s.w
  refine hK10 _ _ ?_
  refine wp_seq_k fun K13 hK13 => ?_
  refine wp_seq_k fun K14 hK14 => ?_
  obtain ⟨b15, h16, h⟩ := h
  refine rg ?_
  refine st 25 (t_move (o_t 2 rfl) rfl rfl) rfl rfl hL fun a s e_ hL => ?_
  refine st 26 (t_len (o_t 25 rfl) Tryd.underlying26 rfl rfl) rfl rfl hL fun a s e_ hL => ?_
  refine st 27 (t_nei (o_t 26 rfl) (o_i (by decide)) rfl rfl) rfl rfl hL fun a s e_ hL => ?_
  refine st 28 (t_move (o_t 27 rfl) rfl rfl) rfl rfl hL fun a s e_ hL => ?_
  refine st 29 (t_g1 rfl rfl rfl (fun hc_ => t_move (o_t 3 rfl) rfl rfl)) rfl rfl hL fun a s e_ hL => ?_
  refine st 30 (t_g1 rfl rfl rfl (fun hc_ => t_len (o_w hc_ 29 rfl) Tryd.underlying26 rfl rfl)) rfl rfl hL fun a s e_ hL => ?_
  refine st 31 (t_g1 rfl rfl rfl (fun hc_ => t_nei (o_w hc_ 30 rfl) (o_i (by decide)) rfl rfl)) rfl rfl hL fun a s e_ hL => ?_
  refine st 32 (h16 ▸ (t_or (o_t 28 rfl) (fun hc2_ => (o_w hc2_ 31 rfl)) rfl rfl)) rfl rfl hL fun a s e_ hL => ?_
  refine en' ?_
  show K14 a s.w
  refine hK14 _ _ ?_
  refine cnd hL rfl (fun hb_ => ?_) (fun hb_ => ?_)
  · replace h := h.1 hb_
    refine wp_seq_k fun K17 hK17 => ?_
    refine rg ?_
    refine st 0 (t_assign o_b rfl rfl) rfl rfl hL fun a s e_ hL => ?_
    refine en' ?_
    show K17 a s.w
    refine hK17 _ _ ?_
    subst h
    exact wp_ret (retq rfl hL rfl)
  · replace h := h.2 hb_
    refine wp_skip ?_
    show K13 a s.w
    refine hK13 _ _ ?_
    refine wp_seq_k fun K18 hK18 => ?_
    obtain ⟨e19, h20, r21, h22, r23, h24, r25, h26, b27, h28, e29, h30, e31, h32, b33, h34, r35, h36, r37, h38, r39, h40, b41, h42, r43, h44, r45, h46, r47, h48, r49, h50, h⟩ := h
    refine rg ?_
    refine st 33 (t_move (o_t 2 rfl) rfl rfl) rfl rfl hL fun a s e_ hL => ?_
    refine st 34 (t_idx (o_t 33 rfl) (o_i (by decide)) h20 Tryd.underlying26 ty36 rfl rfl) rfl rfl hL fun a s e_ hL => ?_
    refine st 35 (t_load ty36 (o_t 34 rfl) rfl rfl) rfl rfl hL fun a s e_ hL => ?_
    refine st 36 (t_build (x := (1, 0, 0, 0)) (ps := [(0, .const (.int .i64 1))]) tyz36 rfl stt36 (.cons (i := 0) (o_i (by decide)) rfl (sub_fst (sub_all _ _ _)) .nil) rfl rfl) rfl rfl hL fun a s e_ hL => ?_
    refine st 37 (t_eqv eq36 (o_t 35 rfl) (o_t 36 rfl) rfl rfl) rfl rfl hL fun a s e_ hL => ?_
    refine st 38 (t_move (o_t 37 rfl) rfl rfl) rfl rfl hL fun a s e_ hL => ?_
    refine st 39 (t_g1 rfl rfl rfl (fun hc_ => t_loadb ty24 (o_t 1 rfl) rfl rfl)) rfl rfl hL fun a s e_ hL => ?_
    refine st 40 (t_g1 rfl rfl rfl (fun hc_ => t_move (o_t 2 rfl) rfl rfl)) rfl rfl hL fun a s e_ hL => ?_
    refine st 41 (t_g1 rfl rfl rfl (fun hc_ => t_call (item_Form_ok (h22 hc_)) (xs := [.tmp 39, .tmp 40]) (.cons (o_w hc_ 39 rfl) (.cons (o_w hc_ 40 rfl) .nil)) rfl rfl)) rfl rfl hL fun a s e_ hL => ?_
    refine st 42 (t_and (o_t 38 rfl) (fun hc2_ => (o_w hc2_ 41 rfl)) rfl rfl) rfl rfl hL fun a s e_ hL => ?_
    refine st 43 (t_move (o_t 42 rfl) rfl rfl) rfl rfl hL fun a s e_ hL => ?_
    refine st 44 (t_g1 rfl rfl rfl (fun hc_ => t_loadb ty24 (o_t 1 rfl) rfl rfl)) rfl rfl hL fun a s e_ hL => ?_
    refine st 45 (t_g1 rfl rfl rfl (fun hc_ => t_move (o_t 3 rfl) rfl rfl)) rfl rfl hL fun a s e_ hL => ?_
    refine st 46 (t_g1 rfl rfl rfl (fun hc_ => t_call (item_Form_ok (h24 hc_)) (xs := [.tmp 44, .tmp 45]) (.cons (o_w hc_ 44 rfl) (.cons (o_w hc_ 45 rfl) .nil)) rfl rfl)) rfl rfl hL fun a s e_ hL => ?_
    refine st 47 (t_and (o_t 43 rfl) (fun hc2_ => (o_w hc2_ 46 rfl)) rfl rfl) rfl rfl hL fun a s e_ hL => ?_
    refine st 48 (t_move (o_t 47 rfl) rfl rfl) rfl rfl hL fun a s e_ hL => ?_
    refine st 49 (t_g1 rfl rfl rfl (fun hc_ => t_loadb ty24 (o_t 1 rfl) rfl rfl)) rfl rfl hL fun a s e_ hL => ?_
    refine st 50 (t_g1 rfl rfl rfl (fun hc_ => t_build (x := (3, 0, 2, 0)) (ps := [(0, .const (.int .i64 3)), (2, .const (.int .i64 2))]) tyz36 rfl stt36 (.cons (i := 0) (o_i (by decide)) rfl (sub_fst (sub_all _ _ _)) (.cons (i := 2) (o_i (by decide)) rfl (sub_snd (sub_snd (sub_fst (sub_all _ _ _)) rfl) rfl) .nil)) rfl rfl)) rfl rfl hL fun a s e_ hL => ?_
    refine st 51 (t_g1 rfl rfl rfl (fun hc_ => t_lit (xs := [.tmp 50]) (.cons (o_w hc_ 50 rfl) .nil) Tryd.underlying26 ty36 rfl rfl (by decide) rfl rfl)) rfl rfl hL fun a s e_ hL => ?_
    refine st 52 (t_g1 rfl rfl rfl (fun hc_ => t_call (item_Form_ok (h26 hc_)) (xs := [.tmp 49, .tmp 51]) (.cons (o_w hc_ 49 rfl) (.cons (o_w hc_ 51 rfl) .nil)) rfl rfl)) rfl rfl hL fun a s e_ hL => ?_
    refine st 53 (t_g1 rfl rfl rfl (fun hc_ => t_not (o_w hc_ 52 rfl) rfl rfl)) rfl rfl hL fun a s e_ hL => ?_
    refine st 54 (h28 ▸ (t_and (o_t 48 rfl) (fun hc2_ => (o_w hc2_ 53 rfl)) rfl rfl)) rfl rfl hL fun a s e_ hL => ?_
    refine st 55 (t_move (o_t 54 rfl) rfl rfl) rfl rfl hL fun a s e_ hL => ?_
    refine st 56 (t_g1 rfl rfl rfl (fun hc_ => t_move (o_t 4 rfl) rfl rfl)) rfl rfl hL fun a s e_ hL => ?_
    refine st 57 (t_and (o_t 55 rfl) (fun hc2_ => (o_w hc2_ 56 rfl)) rfl rfl) rfl rfl hL fun a s e_ hL => ?_
    refine st 58 (t_move (o_t 57 rfl) rfl rfl) rfl rfl hL fun a s e_ hL => ?_
    refine st 59 (t_g1 rfl rfl rfl (fun hc_ => t_move (o_t 6 rfl) rfl rfl)) rfl rfl hL fun a s e_ hL => ?_
    refine st 60 (t_g1 rfl rfl rfl (fun hc_ => t_not (o_w hc_ 59 rfl) rfl rfl)) rfl rfl hL fun a s e_ hL => ?_
    refine st 61 (t_and (o_t 58 rfl) (fun hc2_ => (o_w hc2_ 60 rfl)) rfl rfl) rfl rfl hL fun a s e_ hL => ?_
    refine st 62 (t_move (o_t 61 rfl) rfl rfl) rfl rfl hL fun a s e_ hL => ?_
    refine st 63 (t_g1 rfl rfl rfl (fun hc_ => t_move (o_t 3 rfl) rfl rfl)) rfl rfl hL fun a s e_ hL => ?_
    refine st 64 (t_g1 rfl rfl rfl (fun hc_ => t_idx (o_w hc_ 63 rfl) (o_i (by decide)) (h30 hc_) Tryd.underlying26 ty36 rfl rfl)) rfl rfl hL fun a s e_ hL => ?_
    refine st 65 (t_g1 rfl rfl rfl (fun hc_ => t_fa (off := 2) (o_w hc_ 64 rfl) Tryd.underlying36 rfl (prt_snd (prt_snd (prt_fst (prt_all _ _)) rfl) rfl) rfl ty3 rfl rfl)) rfl rfl hL fun a s e_ hL => ?_
    refine st 66 (t_g1 rfl rfl rfl (fun hc_ => t_load ty3 (o_w hc_ 65 rfl) rfl rfl)) rfl rfl hL fun a s e_ hL => ?_
    refine st 67 (t_g1 rfl rfl rfl (fun hc_ => t_eqi (o_w hc_ 66 rfl) (o_i (by decide)) rfl rfl)) rfl rfl hL fun a s e_ hL => ?_
    refine st 68 (t_and (o_t 62 rfl) (fun hc2_ => (o_w hc2_ 67 rfl)) rfl rfl) rfl rfl hL fun a s e_ hL => ?_
    refine st 69 (t_move (o_t 68 rfl) rfl rfl) rfl rfl hL fun a s e_ hL => ?_
    refine st 70 (t_g1 rfl rfl rfl (fun hc_ => t_move (o_t 3 rfl) rfl rfl)) rfl rfl hL fun a s e_ hL => ?_
    refine st 71 (t_g1 rfl rfl rfl (fun hc_ => t_idx (o_w hc_ 70 rfl) (o_i (by decide)) (h32 hc_) Tryd.underlying26 ty36 rfl rfl)) rfl rfl hL fun a s e_ hL => ?_
    refine st 72 (t_g1 rfl rfl rfl (fun hc_ => t_fa (off := 2) (o_w hc_ 71 rfl) Tryd.underlying36 rfl (prt_snd (prt_snd (prt_fst (prt_all _ _)) rfl) rfl) rfl ty3 rfl rfl)) rfl rfl hL fun a s e_ hL => ?_
    refine st 73 (t_g1 rfl rfl rfl (fun hc_ => t_load ty3 (o_w hc_ 72 rfl) rfl rfl)) rfl rfl hL fun a s e_ hL => ?_
    refine st 74 (t_g1 rfl rfl rfl (fun hc_ => t_eqi (o_w hc_ 73 rfl) (o_i (by decide)) rfl rfl)) rfl rfl hL fun a s e_ hL => ?_
    refine st 75 (h34 ▸ (t_and (o_t 69 rfl) (fun hc2_ => (o_w hc2_ 74 rfl)) rfl rfl)) rfl rfl hL fun a s e_ hL => ?_
    refine st 76 (t_move (o_t 75 rfl) rfl rfl) rfl rfl hL fun a s e_ hL => ?_
    refine st 77 (t_g1 rfl rfl rfl (fun hc_ => t_move (o_t 2 rfl) rfl rfl)) rfl rfl hL fun a s e_ hL => ?_
    refine st 78 (t_g1 rfl rfl rfl (fun hc_ => t_move (o_t 3 rfl) rfl rfl)) rfl rfl hL fun a s e_ hL => ?_
    refine st 79 (t_g1 rfl rfl rfl (fun hc_ => t_call (item_Compare_ok (h36 hc_)) (xs := [.tmp 77, .tmp 78]) (.cons (o_w hc_ 77 rfl) (.cons (o_w hc_ 78 rfl) .nil)) rfl rfl)) rfl rfl hL fun a s e_ hL => ?_
    refine st 80 (t_g1 rfl rfl rfl (fun hc_ => t_eqi (o_w hc_ 79 rfl) (o_i (by decide)) rfl rfl)) rfl rfl hL fun a s e_ hL => ?_
    refine st 81 (t_and (o_t 76 rfl) (fun hc2_ => (o_w hc2_ 80 rfl)) rfl rfl) rfl rfl hL fun a s e_ hL => ?_
    refine st 82 (t_move (o_t 81 rfl) rfl rfl) rfl rfl hL fun a s e_ hL => ?_
    refine st 83 (t_g1 rfl rfl rfl (fun hc_ => t_move (o_t 3 rfl) rfl rfl)) rfl rfl hL fun a s e_ hL => ?_
    refine st 84 (t_g1 rfl rfl rfl (fun hc_ => t_move (o_t 2 rfl) rfl rfl)) rfl rfl hL fun a s e_ hL => ?_
    refine st 85 (t_g1 rfl rfl rfl (fun hc_ => t_call (item_Compare_ok (h38 hc_)) (xs := [.tmp 83, .tmp 84]) (.cons (o_w hc_ 83 rfl) (.cons (o_w hc_ 84 rfl) .nil)) rfl rfl)) rfl rfl hL fun a s e_ hL => ?_
    refine st 86 (t_g1 rfl rfl rfl (fun hc_ => t_eqi (o_w hc_ 85 rfl) (o_i (by decide)) rfl rfl)) rfl rfl hL fun a s e_ hL => ?_
    refine st 87 (t_and (o_t 82 rfl) (fun hc2_ => (o_w hc2_ 86 rfl)) rfl rfl) rfl rfl hL fun a s e_ hL => ?_
    refine st 88 (t_move (o_t 87 rfl) rfl rfl) rfl rfl hL fun a s e_ hL => ?_
    refine st 89 (t_g1 rfl rfl rfl (fun hc_ => t_move (o_t 3 rfl) rfl rfl)) rfl rfl hL fun a s e_ hL => ?_
    refine st 90 (t_g1 rfl rfl rfl (fun hc_ => t_move (o_t 3 rfl) rfl rfl)) rfl rfl hL fun a s e_ hL => ?_
    refine st 91 (t_g1 rfl rfl rfl (fun hc_ => t_call (item_Compare_ok (h40 hc_)) (xs := [.tmp 89, .tmp 90]) (.cons (o_w hc_ 89 rfl) (.cons (o_w hc_ 90 rfl) .nil)) rfl rfl)) rfl rfl hL fun a s e_ hL => ?_
    refine st 92 (t_g1 rfl rfl rfl (fun hc_ => t_eqi (o_w hc_ 91 rfl) (o_i (by decide)) rfl rfl)) rfl rfl hL fun a s e_ hL => ?_
    refine st 93 (h42 ▸ (t_and (o_t 88 rfl) (fun hc2_ => (o_w hc2_ 92 rfl)) rfl rfl)) rfl rfl hL fun a s e_ hL => ?_
    refine st 94 (t_move (o_t 93 rfl) rfl rfl) rfl rfl hL fun a s e_ hL => ?_
    refine st 95 (t_g1 rfl rfl rfl (fun hc_ => t_move (o_t 2 rfl) rfl rfl)) rfl rfl hL fun a s e_ hL => ?_
    refine st 96 (t_g1 rfl rfl rfl (fun hc_ => t_call (item_Key_ok (h44 hc_)) (xs := [.tmp 95]) (.cons (o_w hc_ 95 rfl) .nil) rfl rfl)) rfl rfl hL fun a s e_ hL => ?_
    refine st 97 (t_g1 rfl rfl rfl (fun hc_ => t_move (o_t 3 rfl) rfl rfl)) rfl rfl hL fun a s e_ hL => ?_
    refine st 98 (t_g1 rfl rfl rfl (fun hc_ => t_call (item_Key_ok (h46 hc_)) (xs := [.tmp 97]) (.cons (o_w hc_ 97 rfl) .nil) rfl rfl)) rfl rfl hL fun a s e_ hL => ?_
    refine st 99 (t_g1 rfl rfl rfl (fun hc_ => t_nev eqv_str (o_w hc_ 96 rfl) (o_w hc_ 98 rfl) rfl rfl)) rfl rfl hL fun a s e_ hL => ?_
    refine st 100 (t_and (o_t 94 rfl) (fun hc2_ => (o_w hc2_ 99 rfl)) rfl rfl) rfl rfl hL fun a s e_ hL => ?_
    refine st 101 (t_move (o_t 100 rfl) rfl rfl) rfl rfl hL fun a s e_ hL => ?_
    refine st 102 (t_g1 rfl rfl rfl (fun hc_ => t_move (o_t 3 rfl) rfl rfl)) rfl rfl hL fun a s e_ hL => ?_
    refine st 103 (t_g1 rfl rfl rfl (fun hc_ => t_call (item_Key_ok (h48 hc_)) (xs := [.tmp 102]) (.cons (o_w hc_ 102 rfl) .nil) rfl rfl)) rfl rfl hL fun a s e_ hL => ?_
    refine st 104 (t_g1 rfl rfl rfl (fun hc_ => t_move (o_t 3 rfl) rfl rfl)) rfl rfl hL fun a s e_ hL => ?_
    refine st 105 (t_g1 rfl rfl rfl (fun hc_ => t_call (item_Key_ok (h50 hc_)) (xs := [.tmp 104]) (.cons (o_w hc_ 104 rfl) .nil) rfl rfl)) rfl rfl hL fun a s e_ hL => ?_
    refine st 106 (t_g1 rfl rfl rfl (fun hc_ => t_eqv eqv_str (o_w hc_ 103 rfl) (o_w hc_ 105 rfl) rfl rfl)) rfl rfl hL fun a s e_ hL => ?_
    refine st 107 (t_and (o_t 101 rfl) (fun hc2_ => (o_w hc2_ 106 rfl)) rfl rfl) rfl rfl hL fun a s e_ hL => ?_
    refine st 0 (t_assign (o_t 107 rfl) rfl rfl) rfl rfl hL fun a s e_ hL => ?_
    refine en' ?_
    show K18 a s.w
    refine hK18 _ _ ?_
    subst h
    exact wp_ret (retq rfl hL rfl)

theorem ref13_Lower_ok {s_ : (List SItem)} {r_ : ((List SItem) × Bool)} (h : ref13_Lower s_ r_) : Fn Tryd.prog 16 [(Pd.rep (En.slice En.SItem) s_)] (Ro2 En.SItem 36 r_.1 (Pd.rep En.bool r_.2)) := by
  unfold ref13_Lower at h
  refine fn_of Tryd.func16 rfl Tryd.ntmps16 (by rfl) (by simp) fun s0 a hL => ?_
  refine wp_seq_k fun K1 hK1 => ?_
  refine rg ?_
  refine st 2 (t_assign (o_nil (E := En.SItem) (N := s0.w.heap.size) (te := 36)) rfl rfl) rfl rfl hL fun a s e_ hL => ?_
  refine st 3 (t_assign o_b rfl rfl) rfl rfl hL fun a s e_ hL => ?_
  refine en' ?_
  show K1 a s.w
  refine hK1 _ _ ?_
  refine wp_seq_k fun K2 hK2 => ?_
  refine rg ?_
  refine st 4 (t_assign (o_nil (E := En.SItem) (N := s0.w.heap.size) (te := 36)) rfl rfl) rfl rfl hL fun a s e_ hL => ?_
  refine en' ?_
  show K2 a s.w
  refine hK2 _ _ ?_
  refine wp_seq_k fun K3 hK3 => ?_
  refine wp_seq_k fun K4 hK4 => ?_
  refine rg ?_
  refine st 5 (t_assign (o_i (by decide)) rfl rfl) rfl rfl hL fun a s e_ hL => ?_
  refine en' ?_
  show K4 a s.w
  refine hK4 _ _ ?_
  refine wp_block ?_
  have J7 : ∀ (out5 : (List SItem)) (og6 : Option Nat) (a : Act) (s : St), Has N0 32 s0 a s [(4, (Pd.row En.SItem s0.w.heap.size 36 og6 out5))] → ((ref13_Lower.j1 r_) out5) → K3 a s.w := by
    intro out5 og6 a s hL h
    unfold ref13_Lower.j1 at h
    show K3 a s.w
    refine hK3 _ _ ?_
    refine wp_seq_k fun K8 hK8 => ?_
    refine rg ?_
    refine st 31 (t_move (o_t 4 rfl) rfl rfl) rfl rfl hL fun a s e_ hL => ?_
    refine st 2 (t_assign (o_t 31 rfl) rfl rfl) rfl rfl hL fun a s e_ hL => ?_
    refine st 3 (t_assign o_b rfl rfl) rfl rfl hL fun a s e_ hL => ?_
    refine en' ?_
    show K8 a s.w
    refine hK8 _ _ ?_
    subst h
    exact wp_ret (reto2 rfl hL rfl rfl)
  obtain ⟨k12, h⟩ := h
  refine lpg (fun k13 a s => ∃ (out9 : (List SItem)) (i11 : Int) (og10 : Option Nat), Has N0 32 s0 a s [(0, (Pd.rep (En.slice En.SItem) s_)), (4, (Pd.row En.SItem s0.w.heap.size 36 og10 out9)), (5, (Pd.rep (En.int .i64) i11))] ∧ ref13_Lower.l1 s_ r_ (ref13_Lower.j1 r_) k13 out9 i11) k12 ⟨([] : (List SItem)), 0, none, hL.keep (.cons (t := 0) rfl (fun _ h_ => h_.elim) (.cons (t := 4) rfl (fun _ _ h_ => h_) (.cons (t := 5) rfl (fun _ h_ => h_.elim) .nil))), h⟩ ?_
  rintro k13 a s ⟨out9, i11, og10, hL, h⟩ KL14 hKL14
  cases k13 with
  | zero => exact h.elim
  | succ k13 =>
  unfold ref13_Lower.l1 at h
  refine wp_seq_k fun K15 hK15 => ?_
  refine wp_seq_k fun K16 hK16 => ?_
  refine rg ?_
  refine st 7 (t_move (o_t 5 rfl) rfl rfl) rfl rfl hL fun a s e_ hL => ?_
  refine st 8 (t_move (o_t 0 rfl) rfl rfl) rfl rfl hL fun a s e_ hL => ?_
  refine st 9 (t_len (o_t 8 rfl) Tryd.underlying26 rfl rfl) rfl rfl hL fun a s e_ hL => ?_
  refine st 10 (t_lss (o_t 7 rfl) (o_t 9 rfl) rfl rfl) rfl rfl hL fun a s e_ hL => ?_
  refine en' ?_
  show K16 a s.w
  refine hK16 _ _ ?_
  refine cnd hL rfl (fun hb_ => ?_) (fun hb_ => ?_)
  · replace h := h.1 hb_
    refine wp_skip ?_
    show K15 a s.w
    refine hK15 _ _ ?_
    refine wp_seq_k fun K17 hK17 => ?_
    refine wp_block ?_
    refine wp_seq_k fun K18 hK18 => ?_
    obtain ⟨e19, h20, h⟩ := h
    refine rg ?_
    refine st 13 (t_move (o_t 0 rfl) rfl rfl) rfl rfl hL fun a s e_ hL => ?_
    refine st 14 (t_move (o_t 5 rfl) rfl rfl) rfl rfl hL fun a s e_ hL => ?_
    refine st 15 (t_idx (o_t 13 rfl) (o_t 14 rfl) h20 Tryd.underlying26 ty36 rfl rfl) rfl rfl hL fun a s e_ hL => ?_
    refine st 16 (t_load ty36 (o_t 15 rfl) rfl rfl) rfl rfl hL fun a s e_ hL => ?_
    have lt_d22 := hL.rlt 4 rfl
    refine st_alloc En.SItem (z := (0, 0, 0, 0)) 6 hL tyz36 rfl rfl rfl rfl fun a s g21 hg_ hL => ?_
    have d22 : Dis (some g21) og10 := Dis.newg hg_ lt_d22
    refine st_stb (L' := [(0, (Pd.rep (En.slice En.SItem) s_)), (4, (Pd.row En.SItem s0.w.heap.size 36 og10 out9)), (5, (Pd.rep (En.int .i64) i11))]) 6 hL rfl (o_t 16 rfl) ty36 rfl rfl rfl (.cons (t := 0) rfl (fun _ h_ => h_.elim) (.cons (t := 4) rfl (Dis.ow (Dis.symm d22)) (.cons (t := 5) rfl (fun _ h_ => h_.elim) .nil))) fun s hL => ?_
    refine en' ?_
    show K18 a s.w
    refine hK18 _ _ ?_
    refine wp_seq_k fun K23 hK23 => ?_
    refine wp_seq_k fun K24 hK24 => ?_
    refine rg ?_
    refine st 17 (t_fab (off := 0) (o_t 6 rfl) Tryd.underlying36 rfl (prt_fst (prt_all _ _)) rfl ty3 rfl rfl) rfl rfl hL fun a s e_ hL => ?_
    refine st 18 (t_loado ty3 (o_t 17 rfl) rfl rfl) rfl rfl hL fun a s e_ hL => ?_
    refine st 19 (t_eqi (o_t 18 rfl) (o_i (by decide)) rfl rfl) rfl rfl hL fun a s e_ hL => ?_
    refine en' ?_
    show K24 a s.w
    refine hK24 _ _ ?_
    have J26 : ∀ (x25 : SItem) (a : Act) (s : St), Has N0 32 s0 a s [(0, (Pd.rep (En.slice En.SItem) s_)), (4, (Pd.row En.SItem s0.w.heap.size 36 og10 out9)), (5, (Pd.rep (En.int .i64) i11)), (6, (Pd.box En.SItem s0.w.heap.size g21 x25))] → Dis og10 (some g21) → ((ref13_Lower.j2 (ref13_Lower.l1 s_ r_ (ref13_Lower.j1 r_) k13) out9 i11) x25) → K23 a s.w := by
      intro x25 a s hL d27 h
      unfold ref13_Lower.j2 at h
      show K23 a s.w
      refine hK23 _ _ ?_
      obtain ⟨h28, h⟩ := h
      refine rg ?_
      refine st 27 (t_move (o_t 4 rfl) rfl rfl) rfl rfl hL fun a s e_ hL => ?_
      refine st 28 (t_loadb ty36 (o_t 6 rfl) rfl rfl) rfl rfl hL fun a s e_ hL => ?_
      refine st 29 (t_lit (xs := [.tmp 28]) (.cons (o_t 28 rfl) .nil) Tryd.underlying26 ty36 rfl rfl (by decide) rfl rfl) rfl rfl hL fun a s e_ hL => ?_
      refine st_app (L' := [(0, (Pd.rep (En.slice En.SItem) s_)), (5, (Pd.rep (En.int .i64) i11))]) 30 hL (o_t 27 rfl) (o_t 29 rfl) Tryd.underlying26 ty36 h28 rfl rfl rfl rfl (.cons (t := 0) rfl (fun _ h_ => h_.elim) (.cons (t := 5) rfl (fun _ h_ => h_.elim) .nil)) fun a s og29 hg_ hL => ?_
      refine st 4 (t_assign (o_t 30 rfl) rfl rfl) rfl rfl hL fun a s e_ hL => ?_
      refine en' ?_
      show K17 a s.w
      refine hK17 _ _ ?_
      obtain ⟨h30, h⟩ := h
      refine rg ?_
      refine st 11 (t_move (o_t 5 rfl) rfl rfl) rfl rfl hL fun a s e_ hL => ?_
      refine st 12 (t_add (o_t 11 rfl) (o_i (by decide)) h30 rfl rfl) rfl rfl hL fun a s e_ hL => ?_
      refine st 5 (t_assign (o_t 12 rfl) rfl rfl) rfl rfl hL fun a s e_ hL => ?_
      refine en' ?_
      exact hKL14 k13 a s (Nat.lt_succ_self _) ⟨(out9 ++ [x25]), (i11 + 1), og29, hL.keep (.cons (t := 0) rfl (fun _ h_ => h_.elim) (.cons (t := 4) rfl (fun _ _ h_ => h_) (.cons (t := 5) rfl (fun _ h_ => h_.elim) .nil))), h⟩
    refine cnd hL rfl (fun hb_ => ?_) (fun hb_ => ?_)
    · replace h := h.1 hb_
      refine wp_seq_k fun K31 hK31 => ?_
      refine wp_seq_k fun K32 hK32 => ?_
      refine rg ?_
      refine st 20 (t_fab (off := 2) (o_t 6 rfl) Tryd.underlying36 rfl (prt_snd (prt_snd (prt_fst (prt_all _ _)) rfl) rfl) rfl ty3 rfl rfl) rfl rfl hL fun a s e_ hL => ?_
      refine st 21 (t_loado ty3 (o_t 20 rfl) rfl rfl) rfl rfl hL fun a s e_ hL => ?_
      refine st 22 (t_leq (o_t 21 rfl) (o_i (by decide)) rfl rfl) rfl rfl hL fun a s e_ hL => ?_
      refine en' ?_
      show K32 a s.w
      refine hK32 _ _ ?_
      refine cnd hL rfl (fun hb_ => ?_) (fun hb_ => ?_)
      · replace h := h.1 hb_
        refine wp_seq_k fun K33 hK33 => ?_
        refine rg ?_
        refine st 2 (t_assign (o_nil (E := En.SItem) (N := s0.w.heap.size) (te := 36)) rfl rfl) rfl rfl hL fun a s e_ hL => ?_
        refine st 3 (t_assign o_b rfl rfl) rfl rfl hL fun a s e_ hL => ?_
        refine en' ?_
        show K33 a s.w
        refine hK33 _ _ ?_
        subst h
        exact wp_ret (reto2 rfl hL rfl rfl)
      · replace h := h.2 hb_
        refine wp_skip ?_
        show K31 a s.w
        refine hK31 _ _ ?_
        obtain ⟨h34, h⟩ := h
        refine rg ?_
        refine st 23 (t_fab (off := 2) (o_t 6 rfl) Tryd.underlying36 rfl (prt_snd (prt_snd (prt_fst (prt_all _ _)) rfl) rfl) rfl ty3 rfl rfl) rfl rfl hL fun a s e_ hL => ?_
        refine st 24 (t_loado ty3 (o_t 23 rfl) rfl rfl) rfl rfl hL fun a s e_ hL => ?_
        refine st 25 (t_sub (o_t 24 rfl) (o_i (by decide)) h34 rfl rfl) rfl rfl hL fun a s e_ hL => ?_
        refine st 26 (t_fab (off := 2) (o_t 6 rfl) Tryd.underlying36 rfl (prt_snd (prt_snd (prt_fst (prt_all _ _)) rfl) rfl) rfl ty3 rfl rfl) rfl rfl hL fun a s e_ hL => ?_
        refine st_stob (L' := [(0, (Pd.rep (En.slice En.SItem) s_)), (4, (Pd.row En.SItem s0.w.heap.size 36 og10 out9)), (5, (Pd.rep (En.int .i64) i11))]) 6 hL rfl (o_t 26 rfl) (o_t 25 rfl) (sub_snd (sub_snd (sub_fst (sub_all _ _ _)) rfl) rfl) ty3 rfl rfl rfl (.cons (t := 0) rfl (fun _ h_ => h_.elim) (.cons (t := 4) rfl (Dis.ow (Dis.symm d22)) (.cons (t := 5) rfl (fun _ h_ => h_.elim) .nil))) fun s hL => ?_
        refine en' ?_
        exact J26 (e19.1, e19.2.1, e19.2.2.1 - 1, e19.2.2.2) a s (hL.keep (.cons (t := 0) rfl (fun _ h_ => h_.elim) (.cons (t := 4) rfl (fun _ _ h_ => h_) (.cons (t := 5) rfl (fun _ h_ => h_.elim) (.cons (t := 6) rfl (fun _ _ h_ => h_) .nil))))) (Dis.symm d22) h
    · replace h := h.2 hb_
      refine wp_skip ?_
      exact J26 e19 a s (hL.keep (.cons (t := 0) rfl (fun _ h_ => h_.elim) (.cons (t := 4) rfl (fun _ _ h_ => h_) (.cons (t := 5) rfl (fun _ h_ => h_.elim) (.cons (t := 6) rfl (fun _ _ h_ => h_) .nil))))) (Dis.symm d22) h
  · replace h := h.2 hb_
    refine wp_exit ?_
    exact J7 out9 og10 a s (hL.keep (.cons (t := 4) rfl (fun _ _ h_ => h_) .nil)) h

theorem ref13_form_ok {d_ : SDesc} {x_ : SItem} {r_ : Bool} (h : ref13_form d_ x_ r_) : Fn Tryd.prog 39 [(Pd.rep En.SDesc d_), (Pd.rep En.SItem x_)] (Rq (Pd.rep En.bool r_)) := by
  unfold ref13_form at h
  refine fn_of Tryd.func39 rfl Tryd.ntmps39 (by rfl) (by simp) fun s0 a hL => ?_
  refine wp_seq_k fun K1 hK1 => ?_
  refine rg ?_
  refine st 2 (t_box (o_t 0 rfl) rfl rfl) rfl rfl hL fun a s e_ hL => ?_
  refine st 3 (t_box (o_t 1 rfl) rfl rfl) rfl rfl hL fun a s e_ hL => ?_
  refine st 4 (t_assign o_b rfl rfl) rfl rfl hL fun a s e_ hL => ?_
  refine en' ?_
  show K1 a s.w
  refine hK1 _ _ ?_
  refine wp_seq_k fun K2 hK2 => ?_
  refine wp_seq_k fun K3 hK3 => ?_
  refine rg ?_
  refine st 6 (t_fa (off := 0) (o_t 3 rfl) Tryd.underlying36 rfl (prt_fst (prt_all _ _)) rfl ty3 rfl rfl) rfl rfl hL fun a s e_ hL => ?_
  refine st 7 (t_load ty3 (o_t 6 rfl) rfl rfl) rfl rfl hL fun a s e_ hL => ?_
  refine st 8 (t_eqi (o_t 7 rfl) (o_i (by decide)) rfl rfl) rfl rfl hL fun a s e_ hL => ?_
  refine en' ?_
  show K3 a s.w
  refine hK3 _ _ ?_
  refine cnd hL rfl (fun hb_ => ?_) (fun hb_ => ?_)
  · replace h := h.1 hb_
    refine wp_seq_k fun K4 hK4 => ?_
    obtain ⟨b5, h6, h⟩ := h
    refine rg ?_
    refine st 9 (t_fa (off := 1) (o_t 3 rfl) Tryd.underlying36 rfl (prt_snd (prt_fst (prt_all _ _)) rfl) rfl ty3 rfl rfl) rfl rfl hL fun a s e_ hL => ?_
    refine st 10 (t_load ty3 (o_t 9 rfl) rfl rfl) rfl rfl hL fun a s e_ hL => ?_
    refine st 11 (t_eqi (o_t 10 rfl) (o_i (by decide)) rfl rfl) rfl rfl hL fun a s e_ hL => ?_
    refine st 12 (t_move (o_t 11 rfl) rfl rfl) rfl rfl hL fun a s e_ hL => ?_
    refine st 13 (t_g1 rfl rfl rfl (fun hc_ => t_fa (off := 3) (o_t 3 rfl) Tryd.underlying36 rfl (prt_snd (prt_snd (prt_snd (prt_all _ _) rfl) rfl) rfl) rfl ty3 rfl rfl)) rfl rfl hL fun a s e_ hL => ?_
    refine st 14 (t_g1 rfl rfl rfl (fun hc_ => t_load ty3 (o_w hc_ 13 rfl) rfl rfl)) rfl rfl hL fun a s e_ hL => ?_
    refine st 15 (t_g1 rfl rfl rfl (fun hc_ => t_eqi (o_w hc_ 14 rfl) (o_i (by decide)) rfl rfl)) rfl rfl hL fun a s e_ hL => ?_
    refine st 16 (t_and (o_t 12 rfl) (fun hc2_ => (o_w hc2_ 15 rfl)) rfl rfl) rfl rfl hL fun a s e_ hL => ?_
    refine st 17 (t_move (o_t 16 rfl) rfl rfl) rfl rfl hL fun a s e_ hL => ?_
    refine st 18 (t_g1 rfl rfl rfl (fun hc_ => t_fa (off := 2) (o_t 3 rfl) Tryd.underlying36 rfl (prt_snd (prt_snd (prt_fst (prt_all _ _)) rfl) rfl) rfl ty3 rfl rfl)) rfl rfl hL fun a s e_ hL => ?_
    refine st 19 (t_g1 rfl rfl rfl (fun hc_ => t_load ty3 (o_w hc_ 18 rfl) rfl rfl)) rfl rfl hL fun a s e_ hL => ?_
    refine st 20 (t_g1 rfl rfl rfl (fun hc_ => t_geq (o_w hc_ 19 rfl) (o_i (by decide)) rfl rfl)) rfl rfl hL fun a s e_ hL => ?_
    refine st 21 (h6 ▸ (t_and (o_t 17 rfl) (fun hc2_ => (o_w hc2_ 20 rfl)) rfl rfl)) rfl rfl hL fun a s e_ hL => ?_
    refine st 22 (t_move (o_t 21 rfl) rfl rfl) rfl rfl hL fun a s e_ hL => ?_
    refine st 23 (t_g1 rfl rfl rfl (fun hc_ => t_fa (off := 2) (o_t 3 rfl) Tryd.underlying36 rfl (prt_snd (prt_snd (prt_fst (prt_all _ _)) rfl) rfl) rfl ty3 rfl rfl)) rfl rfl hL fun a s e_ hL => ?_
    refine st 24 (t_g1 rfl rfl rfl (fun hc_ => t_load ty3 (o_w hc_ 23 rfl) rfl rfl)) rfl rfl hL fun a s e_ hL => ?_
    refine st 25 (t_g1 rfl rfl rfl (fun hc_ => t_leq (o_w hc_ 24 rfl) (o_i (by decide)) rfl rfl)) rfl rfl hL fun a s e_ hL => ?_
    refine st 26 (t_and (o_t 22 rfl) (fun hc2_ => (o_w hc2_ 25 rfl)) rfl rfl) rfl rfl hL fun a s e_ hL => ?_
    refine st 4 (t_assign (o_t 26 rfl) rfl rfl) rfl rfl hL fun a s e_ hL => ?_
    refine en' ?_
    show K4 a s.w
    refine hK4 _ _ ?_
    subst h
    exact wp_ret (retq rfl hL rfl)
  · replace h := h.2 hb_
    refine wp_skip ?_
    show K2 a s.w
    refine hK2 _ _ ?_
    refine wp_seq_k fun K7 hK7 => ?_
    refine wp_seq_k fun K8 hK8 => ?_
    obtain ⟨b9, h10, h⟩ := h
    refine rg ?_
    refine st 27 (t_fa (off := 1) (o_t 3 rfl) Tryd.underlying36 rfl (prt_snd (prt_fst (prt_all _ _)) rfl) rfl ty3 rfl rfl) rfl rfl hL fun a s e_ hL => ?_
    refine st 28 (t_load ty3 (o_t 27 rfl) rfl rfl) rfl rfl hL fun a s e_ hL => ?_
    refine st 29 (t_lss (o_t 28 rfl) (o_i (by decide)) rfl rfl) rfl rfl hL fun a s e_ hL => ?_
    refine st 30 (t_move (o_t 29 rfl) rfl rfl) rfl rfl hL fun a s e_ hL => ?_
    refine st 31 (t_g1 rfl rfl rfl (fun hc_ => t_fa (off := 1) (o_t 3 rfl) Tryd.underlying36 rfl (prt_snd (prt_fst (prt_all _ _)) rfl) rfl ty3 rfl rfl)) rfl rfl hL fun a s e_ hL => ?_
    refine st 32 (t_g1 rfl rfl rfl (fun hc_ => t_load ty3 (o_w hc_ 31 rfl) rfl rfl)) rfl rfl hL fun a s e_ hL => ?_
    refine st 33 (t_g1 rfl rfl rfl (fun hc_ => t_fa (off := 0) (o_t 2 rfl) Tryd.underlying24 rfl (prt_solo (prt_all _ _)) rfl ty22 rfl rfl)) rfl rfl hL fun a s e_ hL => ?_
    refine st 34 (t_g1 rfl rfl rfl (fun hc_ => t_load ty22 (o_w hc_ 33 rfl) rfl rfl)) rfl rfl hL fun a s e_ hL => ?_
    refine st 35 (t_g1 rfl rfl rfl (fun hc_ => t_len (o_w hc_ 34 rfl) Tryd.underlying22 rfl rfl)) rfl rfl hL fun a s e_ hL => ?_
    refine st 36 (t_g1 rfl rfl rfl (fun hc_ => t_geq (o_w hc_ 32 rfl) (o_w hc_ 35 rfl) rfl rfl)) rfl rfl hL fun a s e_ hL => ?_
    refine st 37 (h10 ▸ (t_or (o_t 30 rfl) (fun hc2_ => (o_w hc2_ 36 rfl)) rfl rfl)) rfl rfl hL fun a s e_ hL => ?_
    refine en' ?_
    show K8 a s.w
    refine hK8 _ _ ?_
    refine cnd hL rfl (fun hb_ => ?_) (fun hb_ => ?_)
    · replace h := h.1 hb_
      refine wp_seq_k fun K11 hK11 => ?_
      refine rg ?_
      refine st 4 (t_assign o_b rfl rfl) rfl rfl hL fun a s e_ hL => ?_
      refine en' ?_
      show K11 a s.w
      refine hK11 _ _ ?_
      subst h
      exact wp_ret (retq rfl hL rfl)
    · replace h := h.2 hb_
      refine wp_skip ?_
      show K7 a s.w
      refine hK7 _ _ ?_
      refine wp_seq_k fun K12 hK12 => ?_
      obtain ⟨e13, h14, h⟩ := h
      refine rg ?_
      refine st 38 (t_fa (off := 0) (o_t 2 rfl) Tryd.underlying24 rfl (prt_solo (prt_all _ _)) rfl ty22 rfl rfl) rfl rfl hL fun a s e_ hL => ?_
      refine st 39 (t_load ty22 (o_t 38 rfl) rfl rfl) rfl rfl hL fun a s e_ hL => ?_
      refine st 40 (t_fa (off := 1) (o_t 3 rfl) Tryd.underlying36 rfl (prt_snd (prt_fst (prt_all _ _)) rfl) rfl ty3 rfl rfl) rfl rfl hL fun a s e_ hL => ?_
      refine st 41 (t_load ty3 (o_t 40 rfl) rfl rfl) rfl rfl hL fun a s e_ hL => ?_
      refine st 42 (t_idx (o_t 39 rfl) (o_t 41 rfl) h14 Tryd.underlying22 ty69 rfl rfl) rfl rfl hL fun a s e_ hL => ?_
      refine st 43 (t_load ty69 (o_t 42 rfl) rfl rfl) rfl rfl hL fun a s e_ hL => ?_
      refine st_alloc En.SNode (z := (0, 0, 0, 0, 0, (0#256), ([] : Str))) 5 hL tyz69 rfl rfl rfl rfl fun a s g15 hg_ hL => ?_
      refine st_stb (L' := [(3, (Pd.ptr En.SItem x_))]) 5 hL rfl (o_t 43 rfl) ty69 rfl rfl rfl (.cons (t := 3) rfl (fun _ h_ => h_.elim) .nil) fun s hL => ?_
      refine en' ?_
      show K12 a s.w
      refine hK12 _ _ ?_
      refine wp_seq_k fun K16 hK16 => ?_
      refine wp_seq_k fun K17 hK17 => ?_
      refine rg ?_
      refine st 44 (t_fa (off := 0) (o_t 3 rfl) Tryd.underlying36 rfl (prt_fst (prt_all _ _)) rfl ty3 rfl rfl) rfl rfl hL fun a s e_ hL => ?_
      refine st 45 (t_load ty3 (o_t 44 rfl) rfl rfl) rfl rfl hL fun a s e_ hL => ?_
      refine en' ?_
      show K17 a s.w
      refine hK17 _ _ ?_
      refine wp_block ?_
      refine wp_seq_k fun K18 hK18 => ?_
      refine rg ?_
      refine st 47 (t_eqi (o_t 45 rfl) (o_i (by decide)) rfl rfl) rfl rfl hL fun a s e_ hL => ?_
      refine st 46 (t_assign (o_t 47 rfl) rfl rfl) rfl rfl hL fun a s e_ hL => ?_
      refine en' ?_
      show K18 a s.w
      refine hK18 _ _ ?_
      refine cnd hL rfl (fun hb_ => ?_) (fun hb_ => ?_)
      · replace h := h.1 hb_
        refine wp_seq_k fun K19 hK19 => ?_
        refine rg ?_
        refine st 48 (t_fa (off := 2) (o_t 3 rfl) Tryd.underlying36 rfl (prt_snd (prt_snd (prt_fst (prt_all _ _)) rfl) rfl) rfl ty3 rfl rfl) rfl rfl hL fun a s e_ hL => ?_
        refine st 49 (t_load ty3 (o_t 48 rfl) rfl rfl) rfl rfl hL fun a s e_ hL => ?_
        refine st 50 (t_eqi (o_t 49 rfl) (o_i (by decide)) rfl rfl) rfl rfl hL fun a s e_ hL => ?_
        refine st 51 (t_move (o_t 50 rfl) rfl rfl) rfl rfl hL fun a s e_ hL => ?_
        refine st 52 (t_g1 rfl rfl rfl (fun hc_ => t_fa (off := 3) (o_t 3 rfl) Tryd.underlying36 rfl (prt_snd (prt_snd (prt_snd (prt_all _ _) rfl) rfl) rfl) rfl ty3 rfl rfl)) rfl rfl hL fun a s e_ hL => ?_
        refine st 53 (t_g1 rfl rfl rfl (fun hc_ => t_load ty3 (o_w hc_ 52 rfl) rfl rfl)) rfl rfl hL fun a s e_ hL => ?_
        refine st 54 (t_g1 rfl rfl rfl (fun hc_ => t_eqi (o_w hc_ 53 rfl) (o_i (by decide)) rfl rfl)) rfl rfl hL fun a s e_ hL => ?_
        refine st 55 (t_and (o_t 51 rfl) (fun hc2_ => (o_w hc2_ 54 rfl)) rfl rfl) rfl rfl hL fun a s e_ hL => ?_
        refine st 4 (t_assign (o_t 55 rfl) rfl rfl) rfl rfl hL fun a s e_ hL => ?_
        refine en' ?_
        show K19 a s.w
        refine hK19 _ _ ?_
        subst h
        exact wp_ret (retq rfl hL rfl)
      · replace h := h.2 hb_
        refine wp_seq_k fun K20 hK20 => ?_
        refine rg ?_
        refine st 57 (t_eqi (o_t 45 rfl) (o_i (by decide)) rfl rfl) rfl rfl hL fun a s e_ hL => ?_
        refine st 56 (t_assign (o_t 57 rfl) rfl rfl) rfl rfl hL fun a s e_ hL => ?_
        refine en' ?_
        show K20 a s.w
        refine hK20 _ _ ?_
        refine cnd hL rfl (fun hb_ => ?_) (fun hb_ => ?_)
        · replace h := h.1 hb_
          refine wp_seq_k fun K21 hK21 => ?_
          obtain ⟨b22, h23, h⟩ := h
          refine rg ?_
          refine st 58 (t_fab (off := 0) (o_t 5 rfl) Tryd.underlying69 rfl (prt_fst (prt_all _ _)) rfl ty3 rfl rfl) rfl rfl hL fun a s e_ hL => ?_
          refine st 59 (t_loado ty3 (o_t 58 rfl) rfl rfl) rfl rfl hL fun a s e_ hL => ?_
          refine st 60 (t_eqi (o_t 59 rfl) (o_i (by decide)) rfl rfl) rfl rfl hL fun a s e_ hL => ?_
          refine st 61 (t_move (o_t 60 rfl) rfl rfl) rfl rfl hL fun a s e_ hL => ?_
          refine st 62 (t_g1 rfl rfl rfl (fun hc_ => t_fa (off := 2) (o_t 3 rfl) Tryd.underlying36 rfl (prt_snd (prt_snd (prt_fst (prt_all _ _)) rfl) rfl) rfl ty3 rfl rfl)) rfl rfl hL fun a s e_ hL => ?_
          refine st 63 (t_g1 rfl rfl rfl (fun hc_ => t_load ty3 (o_w hc_ 62 rfl) rfl rfl)) rfl rfl hL fun a s e_ hL => ?_
          refine st 64 (t_g1 rfl rfl rfl (fun hc_ => t_geq (o_w hc_ 63 rfl) (o_i (by decide)) rfl rfl)) rfl rfl hL fun a s e_ hL => ?_
          refine st 65 (t_and (o_t 61 rfl) (fun hc2_ => (o_w hc2_ 64 rfl)) rfl rfl) rfl rfl hL fun a s e_ hL => ?_
          refine st 66 (t_move (o_t 65 rfl) rfl rfl) rfl rfl hL fun a s e_ hL => ?_
          refine st 67 (t_g1 rfl rfl rfl (fun hc_ => t_fa (off := 2) (o_t 3 rfl) Tryd.underlying36 rfl (prt_snd (prt_snd (prt_fst (prt_all _ _)) rfl) rfl) rfl ty3 rfl rfl)) rfl rfl hL fun a s e_ hL => ?_
          refine st 68 (t_g1 rfl rfl rfl (fun hc_ => t_load ty3 (o_w hc_ 67 rfl) rfl rfl)) rfl rfl hL fun a s e_ hL => ?_
          refine st 69 (t_g1 rfl rfl rfl (fun hc_ => t_fa (off := 3) (o_t 3 rfl) Tryd.underlying36 rfl (prt_snd (prt_snd (prt_snd (prt_all _ _) rfl) rfl) rfl) rfl ty3 rfl rfl)) rfl rfl hL fun a s e_ hL => ?_
          refine st 70 (t_g1 rfl rfl rfl (fun hc_ => t_load ty3 (o_w hc_ 69 rfl) rfl rfl)) rfl rfl hL fun a s e_ hL => ?_
          refine st 71 (t_g1 rfl rfl rfl (fun hc_ => t_leq (o_w hc_ 68 rfl) (o_w hc_ 70 rfl) rfl rfl)) rfl rfl hL fun a s e_ hL => ?_
          refine st 72 (h23 ▸ (t_and (o_t 66 rfl) (fun hc2_ => (o_w hc2_ 71 rfl)) rfl rfl)) rfl rfl hL fun a s e_ hL => ?_
          refine st 73 (t_move (o_t 72 rfl) rfl rfl) rfl rfl hL fun a s e_ hL => ?_
          refine st 74 (t_g1 rfl rfl rfl (fun hc_ => t_fa (off := 3) (o_t 3 rfl) Tryd.underlying36 rfl (prt_snd (prt_snd (prt_snd (prt_all _ _) rfl) rfl) rfl) rfl ty3 rfl rfl)) rfl rfl hL fun a s e_ hL => ?_
          refine st 75 (t_g1 rfl rfl rfl (fun hc_ => t_load ty3 (o_w hc_ 74 rfl) rfl rfl)) rfl rfl hL fun a s e_ hL => ?_
          refine st 76 (t_g1 rfl rfl rfl (fun hc_ => t_fab (off := 4) (o_t 5 rfl) Tryd.underlying69 rfl (prt_snd (prt_snd (prt_snd (prt_snd (prt_fst (prt_all _ _)) rfl) rfl) rfl) rfl) rfl ty3 rfl rfl)) rfl rfl hL fun a s e_ hL => ?_
          refine st 77 (t_g1 rfl rfl rfl (fun hc_ => t_loado ty3 (o_w hc_ 76 rfl) rfl rfl)) rfl rfl hL fun a s e_ hL => ?_
          refine st 78 (t_g1 rfl rfl rfl (fun hc_ => t_leq (o_w hc_ 75 rfl) (o_w hc_ 77 rfl) rfl rfl)) rfl rfl hL fun a s e_ hL => ?_
          refine st 79 (t_and (o_t 73 rfl) (fun hc2_ => (o_w hc2_ 78 rfl)) rfl rfl) rfl rfl hL fun a s e_ hL => ?_
          refine st 4 (t_assign (o_t 79 rfl) rfl rfl) rfl rfl hL fun a s e_ hL => ?_
          refine en' ?_
          show K21 a s.w
          refine hK21 _ _ ?_
          subst h
          exact wp_ret (retq rfl hL rfl)
        · replace h := h.2 hb_
          refine wp_seq_k fun K24 hK24 => ?_
          refine rg ?_
          refine st 81 (t_eqi (o_t 45 rfl) (o_i (by decide)) rfl rfl) rfl rfl hL fun a s e_ hL => ?_
          refine st 80 (t_assign (o_t 81 rfl) rfl rfl) rfl rfl hL fun a s e_ hL => ?_
          refine en' ?_
          show K24 a s.w
          refine hK24 _ _ ?_
          refine cnd hL rfl (fun hb_ => ?_) (fun hb_ => ?_)
          · replace h := h.1 hb_
            refine wp_seq_k fun K25 hK25 => ?_
            obtain ⟨b26, h27, b28, h29, h⟩ := h
            refine rg ?_
            refine st 82 (t_fab (off := 0) (o_t 5 rfl) Tryd.underlying69 rfl (prt_fst (prt_all _ _)) rfl ty3 rfl rfl) rfl rfl hL fun a s e_ hL => ?_
            refine st 83 (t_loado ty3 (o_t 82 rfl) rfl rfl) rfl rfl hL fun a s e_ hL => ?_
            refine st 84 (t_eqi (o_t 83 rfl) (o_i (by decide)) rfl rfl) rfl rfl hL fun a s e_ hL => ?_
            refine st 85 (t_move (o_t 84 rfl) rfl rfl) rfl rfl hL fun a s e_ hL => ?_
            refine st 86 (t_g1 rfl rfl rfl (fun hc_ => t_fa (off := 3) (o_t 3 rfl) Tryd.underlying36 rfl (prt_snd (prt_snd (prt_snd (prt_all _ _) rfl) rfl) rfl) rfl ty3 rfl rfl)) rfl rfl hL fun a s e_ hL => ?_
            refine st 87 (t_g1 rfl rfl rfl (fun hc_ => t_load ty3 (o_w hc_ 86 rfl) rfl rfl)) rfl rfl hL fun a s e_ hL => ?_
            refine st 88 (t_g1 rfl rfl rfl (fun hc_ => t_eqi (o_w hc_ 87 rfl) (o_i (by decide)) rfl rfl)) rfl rfl hL fun a s e_ hL => ?_
            refine st 89 (t_and (o_t 85 rfl) (fun hc2_ => (o_w hc2_ 88 rfl)) rfl rfl) rfl rfl hL fun a s e_ hL => ?_
            refine st 90 (t_move (o_t 89 rfl) rfl rfl) rfl rfl hL fun a s e_ hL => ?_
            refine st 91 (t_g1 rfl rfl rfl (fun hc_ => t_fa (off := 2) (o_t 3 rfl) Tryd.underlying36 rfl (prt_snd (prt_snd (prt_fst (prt_all _ _)) rfl) rfl) rfl ty3 rfl rfl)) rfl rfl hL fun a s e_ hL => ?_
            refine st 92 (t_g1 rfl rfl rfl (fun hc_ => t_load ty3 (o_w hc_ 91 rfl) rfl rfl)) rfl rfl hL fun a s e_ hL => ?_
            refine st 93 (t_g1 rfl rfl rfl (fun hc_ => t_geq (o_w hc_ 92 rfl) (o_i (by decide)) rfl rfl)) rfl rfl hL fun a s e_ hL => ?_
            refine st 94 (h27 ▸ (t_and (o_t 90 rfl) (fun hc2_ => (o_w hc2_ 93 rfl)) rfl rfl)) rfl rfl hL fun a s e_ hL => ?_
            refine st 95 (t_move (o_t 94 rfl) rfl rfl) rfl rfl hL fun a s e_ hL => ?_
            refine st 96 (t_g1 rfl rfl rfl (fun hc_ => t_fa (off := 2) (o_t 3 rfl) Tryd.underlying36 rfl (prt_snd (prt_snd (prt_fst (prt_all _ _)) rfl) rfl) rfl ty3 rfl rfl)) rfl rfl hL fun a s e_ hL => ?_
            refine st 97 (t_g1 rfl rfl rfl (fun hc_ => t_load ty3 (o_w hc_ 96 rfl) rfl rfl)) rfl rfl hL fun a s e_ hL => ?_
            refine st 98 (t_g1 rfl rfl rfl (fun hc_ => t_fab (off := 9) (o_t 5 rfl) Tryd.underlying69 rfl (prt_snd (prt_snd (prt_snd (prt_snd (prt_snd (prt_snd (prt_all _ _) rfl) rfl) rfl) rfl) rfl) rfl) rfl ty9 rfl rfl)) rfl rfl hL fun a s e_ hL => ?_
            refine st 99 (t_g1 rfl rfl rfl (fun hc_ => t_loado ty9 (o_w hc_ 98 rfl) rfl rfl)) rfl rfl hL fun a s e_ hL => ?_
            refine st 100 (t_g1 rfl rfl rfl (fun hc_ => t_slen (o_w hc_ 99 rfl) Tryd.underlying9 rfl rfl)) rfl rfl hL fun a s e_ hL => ?_
            refine st 101 (t_g1 rfl rfl rfl (fun hc_ => t_lss (o_w hc_ 97 rfl) (o_w hc_ 100 rfl) rfl rfl)) rfl rfl hL fun a s e_ hL => ?_
            refine st 102 (h29 ▸ (t_and (o_t 95 rfl) (fun hc2_ => (o_w hc2_ 101 rfl)) rfl rfl)) rfl rfl hL fun a s e_ hL => ?_
            refine st 4 (t_assign (o_t 102 rfl) rfl rfl) rfl rfl hL fun a s e_ hL => ?_
            refine en' ?_
            show K25 a s.w
            refine hK25 _ _ ?_
            subst h
            exact wp_ret (retq rfl hL rfl)
          · replace h := h.2 hb_
            refine wp_seq_k fun K30 hK30 => ?_
            refine rg ?_
            refine st 104 (t_eqi (o_t 45 rfl) (o_i (by decide)) rfl rfl) rfl rfl hL fun a s e_ hL => ?_
            refine st 103 (t_assign (o_t 104 rfl) rfl rfl) rfl rfl hL fun a s e_ hL => ?_
            refine en' ?_
            show K30 a s.w
            refine hK30 _ _ ?_
            refine cnd hL rfl (fun hb_ => ?_) (fun hb_ => ?_)
            · replace h := h.1 hb_
              refine wp_seq_k fun K31 hK31 => ?_
              obtain ⟨b32, h33, h⟩ := h
              refine rg ?_
              refine st 105 (t_fab (off := 0) (o_t 5 rfl) Tryd.underlying69 rfl (prt_fst (prt_all _ _)) rfl ty3 rfl rfl) rfl rfl hL fun a s e_ hL => ?_
              refine st 106 (t_loado ty3 (o_t 105 rfl) rfl rfl) rfl rfl hL fun a s e_ hL => ?_
              refine st 107 (t_eqi (o_t 106 rfl) (o_i (by decide)) rfl rfl) rfl rfl hL fun a s e_ hL => ?_
              refine st 108 (t_move (o_t 107 rfl) rfl rfl) rfl rfl hL fun a s e_ hL => ?_
              refine st 109 (t_g1 rfl rfl rfl (fun hc_ => t_fa (off := 3) (o_t 3 rfl) Tryd.underlying36 rfl (prt_snd (prt_snd (prt_snd (prt_all _ _) rfl) rfl) rfl) rfl ty3 rfl rfl)) rfl rfl hL fun a s e_ hL => ?_
              refine st 110 (t_g1 rfl rfl rfl (fun hc_ => t_load ty3 (o_w hc_ 109 rfl) rfl rfl)) rfl rfl hL fun a s e_ hL => ?_
              refine st 111 (t_g1 rfl rfl rfl (fun hc_ => t_eqi (o_w hc_ 110 rfl) (o_i (by decide)) rfl rfl)) rfl rfl hL fun a s e_ hL => ?_
              refine st 112 (t_and (o_t 108 rfl) (fun hc2_ => (o_w hc2_ 111 rfl)) rfl rfl) rfl rfl hL fun a s e_ hL => ?_
              refine st 113 (t_move (o_t 112 rfl) rfl rfl) rfl rfl hL fun a s e_ hL => ?_
              refine st 114 (t_g1 rfl rfl rfl (fun hc_ => t_fa (off := 2) (o_t 3 rfl) Tryd.underlying36 rfl (prt_snd (prt_snd (prt_fst (prt_all _ _)) rfl) rfl) rfl ty3 rfl rfl)) rfl rfl hL fun a s e_ hL => ?_
              refine st 115 (t_g1 rfl rfl rfl (fun hc_ => t_load ty3 (o_w hc_ 114 rfl) rfl rfl)) rfl rfl hL fun a s e_ hL => ?_
              refine st 116 (t_g1 rfl rfl rfl (fun hc_ => t_geq (o_w hc_ 115 rfl) (o_i (by decide)) rfl rfl)) rfl rfl hL fun a s e_ hL => ?_
              refine st 117 (h33 ▸ (t_and (o_t 113 rfl) (fun hc2_ => (o_w hc2_ 116 rfl)) rfl rfl)) rfl rfl hL fun a s e_ hL => ?_
              refine st 118 (t_move (o_t 117 rfl) rfl rfl) rfl rfl hL fun a s e_ hL => ?_
              refine st 119 (t_g1 rfl rfl rfl (fun hc_ => t_fa (off := 2) (o_t 3 rfl) Tryd.underlying36 rfl (prt_snd (prt_snd (prt_fst (prt_all _ _)) rfl) rfl) rfl ty3 rfl rfl)) rfl rfl hL fun a s e_ hL => ?_
              refine st 120 (t_g1 rfl rfl rfl (fun hc_ => t_load ty3 (o_w hc_ 119 rfl) rfl rfl)) rfl rfl hL fun a s e_ hL => ?_
              refine st 121 (t_g1 rfl rfl rfl (fun hc_ => t_leq (o_w hc_ 120 rfl) (o_i (by decide)) rfl rfl)) rfl rfl hL fun a s e_ hL => ?_
              refine st 122 (t_and (o_t 118 rfl) (fun hc2_ => (o_w hc2_ 121 rfl)) rfl rfl) rfl rfl hL fun a s e_ hL => ?_
              refine st 4 (t_assign (o_t 122 rfl) rfl rfl) rfl rfl hL fun a s e_ hL => ?_
              refine en' ?_
              show K31 a s.w
              refine hK31 _ _ ?_
              subst h
              exact wp_ret (retq rfl hL rfl)
            · replace h := h.2 hb_
              refine wp_skip ?_
              show K16 a s.w
              refine hK16 _ _ ?_
              refine wp_seq_k fun K34 hK34 => ?_
              refine rg ?_
              refine st 4 (t_assign o_b rfl rfl) rfl rfl hL fun a s e_ hL => ?_
              refine en' ?_
              show K34 a s.w
              refine hK34 _ _ ?_
              subst h
              exact wp_ret (retq rfl hL rfl)

theorem ref13_Form_ok {d_ : SDesc} {s_ : (List SItem)} {r_ : Bool} (h : ref13_Form d_ s_ r_) : Fn Tryd.prog 19 [(Pd.rep En.SDesc d_), (Pd.rep (En.slice En.SItem) s_)] (Rq (Pd.rep En.bool r_)) := by
  unfold ref13_Form at h
  refine fn_of Tryd.func19 rfl Tryd.ntmps19 (by rfl) (by simp) fun s0 a hL => ?_
  refine wp_seq_k fun K1 hK1 => ?_
  refine rg ?_
  refine st 2 (t_box (o_t 0 rfl) rfl rfl) rfl rfl hL fun a s e_ hL => ?_
  refine st 4 (t_assign o_b rfl rfl) rfl rfl hL fun a s e_ hL => ?_
  refine en' ?_
  show K1 a s.w
  refine hK1 _ _ ?_
  refine wp_seq_k fun K2 hK2 => ?_
  refine wp_seq_k fun K3 hK3 => ?_
  refine rg ?_
  refine st 5 (t_assign (o_i (by decide)) rfl rfl) rfl rfl hL fun a s e_ hL => ?_
  refine en' ?_
  show K3 a s.w
  refine hK3 _ _ ?_
  refine wp_block ?_
  have J4 : ∀ (a : Act) (s : St), Has N0 19 s0 a s [] → ((ref13_Form.j1 r_)) → K2 a s.w := by
    intro a s hL h
    unfold ref13_Form.j1 at h
    show K2 a s.w
    refine hK2 _ _ ?_
    refine wp_seq_k fun K5 hK5 => ?_
    refine rg ?_
    refine st 4 (t_assign o_b rfl rfl) rfl rfl hL fun a s e_ hL => ?_
    refine en' ?_
    show K5 a s.w
    refine hK5 _ _ ?_
    subst h
    exact wp_ret (retq rfl hL rfl)
  obtain ⟨k7, h⟩ := h
  refine lpg (fun k8 a s => ∃ (i6 : Int), Has N0 19 s0 a s [(1, (Pd.rep (En.slice En.SItem) s_)), (2, (Pd.ptr En.SDesc d_)), (5, (Pd.rep (En.int .i64) i6))] ∧ ref13_Form.l1 d_ s_ r_ (ref13_Form.j1 r_) k8 i6) k7 ⟨0, hL.keep (.cons (t := 1) rfl (fun _ h_ => h_.elim) (.cons (t := 2) rfl (fun _ h_ => h_.elim) (.cons (t := 5) rfl (fun _ h_ => h_.elim) .nil))), h⟩ ?_
  rintro k8 a s ⟨i6, hL, h⟩ KL9 hKL9
  cases k8 with
  | zero => exact h.elim
  | succ k8 =>
  unfold ref13_Form.l1 at h
  refine wp_seq_k fun K10 hK10 => ?_
  refine wp_seq_k fun K11 hK11 => ?_
  refine rg ?_
  refine st 6 (t_move (o_t 5 rfl) rfl rfl) rfl rfl hL fun a s e_ hL => ?_
  refine st 7 (t_move (o_t 1 rfl) rfl rfl) rfl rfl hL fun a s e_ hL => ?_
  refine st 8 (t_len (o_t 7 rfl) Tryd.underlying26 rfl rfl) rfl rfl hL fun a s e_ hL => ?_
  refine st 9 (t_lss (o_t 6 rfl) (o_t 8 rfl) rfl rfl) rfl rfl hL fun a s e_ hL => ?_
  refine en' ?_
  show K11 a s.w
  refine hK11 _ _ ?_
  refine cnd hL rfl (fun hb_ => ?_) (fun hb_ => ?_)
  · replace h := h.1 hb_
    refine wp_skip ?_
    show K10 a s.w
    refine hK10 _ _ ?_
    refine wp_seq_k fun K12 hK12 => ?_
    refine wp_block ?_
    refine wp_seq_k fun K13 hK13 => ?_
    obtain ⟨e14, h15, r16, h17, h⟩ := h
    refine rda follows 7 [(Pd.rep En.SDesc d_), (Pd.rep (En.slice En.SItem) s_), (Pd.rep (En.int .i64) i6), (Pd.ptr En.SItem e14), (Pd.rep En.SItem e14), (Pd.rep En.bool r16), (Pd.rep En.bool (!r16))] hL (by kernel_rfl) rfl rfl ?_ ?_
    · refine AllT.cons (t_load ty24 (o_t 2 rfl) rfl rfl) ?_
      refine AllT.cons (t_move (o_t 1 rfl) rfl rfl) ?_
      refine AllT.cons (t_move (o_t 5 rfl) rfl rfl) ?_
      refine AllT.cons (t_idx (o_t 13 rfl) (o_t 14 rfl) h15 Tryd.underlying26 ty36 rfl rfl) ?_
      refine AllT.cons (t_load ty36 (o_t 15 rfl) rfl rfl) ?_
      refine AllT.cons (t_call (ref13_form_ok h17) (xs := [.tmp 12, .tmp 16]) (.cons (o_t 12 rfl) (.cons (o_t 16 rfl) .nil)) rfl rfl) ?_
      refine AllT.cons (t_not (o_t 17 rfl) rfl rfl) ?_
      exact AllT.nil
    intro a s e_ hL
    refine en' ?_
    show K13 a s.w
    refine hK13 _ _ ?_
    refine cnd hL rfl (fun hb_ => ?_) (fun hb_ => ?_)
    · replace h := h.1 hb_
      refine wp_seq_k fun K18 hK18 => ?_
      refine rg ?_
      refine st 4 (t_assign o_b rfl rfl) rfl rfl hL fun a s e_ hL => ?_
      refine en' ?_
      show K18 a s.w
      refine hK18 _ _ ?_
      subst h
      exact wp_ret (retq rfl hL rfl)
    · replace h := h.2 hb_
      refine wp_skip ?_
      show K12 a s.w
      refine hK12 _ _ ?_
      obtain ⟨h19, h⟩ := h
      refine rg ?_
      refine st 10 (t_move (o_t 5 rfl) rfl rfl) rfl rfl hL fun a s e_ hL => ?_
      refine st 11 (t_add (o_t 10 rfl) (o_i (by decide)) h19 rfl rfl) rfl rfl hL fun a s e_ hL => ?_
      refine st 5 (t_assign (o_t 11 rfl) rfl rfl) rfl rfl hL fun a s e_ hL => ?_
      refine en' ?_
      exact hKL9 k8 a s (Nat.lt_succ_self _) ⟨(i6 + 1), hL.keep (.cons (t := 1) rfl (fun _ h_ => h_.elim) (.cons (t := 2) rfl (fun _ h_ => h_.elim) (.cons (t := 5) rfl (fun _ h_ => h_.elim) .nil))), h⟩
  · replace h := h.2 hb_
    refine wp_exit ?_
    exact J4 a s (hL.keep .nil) h

theorem ref13_numbers_ok {s_ : (List SItem)} {r_ : (List Int)} (h : ref13_numbers s_ r_) : Fn Tryd.prog 44 [(Pd.rep (En.slice En.SItem) s_)] (Ro (En.int .i64) 3 r_) := by
  unfold ref13_numbers at h
  refine fn_of Tryd.func44 rfl Tryd.ntmps44 (by rfl) (by simp) fun s0 a hL => ?_
  refine wp_seq_k fun K1 hK1 => ?_
  refine rg ?_
  refine st 2 (t_assign (o_nil (E := (En.int .i64)) (N := s0.w.heap.size) (te := 3)) rfl rfl) rfl rfl hL fun a s e_ hL => ?_
  refine en' ?_
  show K1 a s.w
  refine hK1 _ _ ?_
  refine wp_seq_k fun K2 hK2 => ?_
  refine rg ?_
  refine st 5 (t_move (o_t 0 rfl) rfl rfl) rfl rfl hL fun a s e_ hL => ?_
  refine st 6 (t_len (o_t 5 rfl) Tryd.underlying26 rfl rfl) rfl rfl hL fun a s e_ hL => ?_
  refine st_lito (xs := [.tmp 6]) 7 hL (.cons (o_t 6 rfl) .nil) Tryd.underlying47 ty3 rfl rfl (by decide) rfl rfl rfl rfl fun a s g3 hg_ hL => ?_
  refine st 3 (t_assign (o_t 7 rfl) rfl rfl) rfl rfl hL fun a s e_ hL => ?_
  refine en' ?_
  show K2 a s.w
  refine hK2 _ _ ?_
  refine wp_seq_k fun K4 hK4 => ?_
  refine wp_seq_k fun K5 hK5 => ?_
  refine rg ?_
  refine st 4 (t_assign (o_i (by decide)) rfl rfl) rfl rfl hL fun a s e_ hL => ?_
  refine en' ?_
  show K5 a s.w
  refine hK5 _ _ ?_
  refine wp_block ?_
  have J8 : ∀ (out6 : (List Int)) (og7 : Option Nat) (a : Act) (s : St), Has N0 38 s0 a s [(3, (Pd.row (En.int .i64) s0.w.heap.size 3 og7 out6))] → ((ref13_numbers.j1 r_) out6) → K4 a s.w := by
    intro out6 og7 a s hL h
    unfold ref13_numbers.j1 at h
    show K4 a s.w
    refine hK4 _ _ ?_
    refine wp_seq_k fun K9 hK9 => ?_
    refine rg ?_
    refine st 37 (t_move (o_t 3 rfl) rfl rfl) rfl rfl hL fun a s e_ hL => ?_
    refine st 2 (t_assign (o_t 37 rfl) rfl rfl) rfl rfl hL fun a s e_ hL => ?_
    refine en' ?_
    show K9 a s.w
    refine hK9 _ _ ?_
    subst h
    exact wp_ret (reto rfl hL rfl)
  obtain ⟨k13, h⟩ := h
  refine lpg (fun k14 a s => ∃ (out10 : (List Int)) (i12 : Int) (og11 : Option Nat), Has N0 38 s0 a s [(0, (Pd.rep (En.slice En.SItem) s_)), (3, (Pd.row (En.int .i64) s0.w.heap.size 3 og11 out10)), (4, (Pd.rep (En.int .i64) i12))] ∧ ref13_numbers.l1 s_ (ref13_numbers.j1 r_) k14 out10 i12) k13 ⟨[(s_.length : Int)], 0, (some g3), hL.keep (.cons (t := 0) rfl (fun _ h_ => h_.elim) (.cons (t := 3) rfl (fun _ _ h_ => h_) (.cons (t := 4) rfl (fun _ h_ => h_.elim) .nil))), h⟩ ?_
  rintro k14 a s ⟨out10, i12, og11, hL, h⟩ KL15 hKL15
  cases k14 with
  | zero => exact h.elim
  | succ k14 =>
  unfold ref13_numbers.l1 at h
  refine wp_seq_k fun K16 hK16 => ?_
  refine wp_seq_k fun K17 hK17 => ?_
  refine rg ?_
  refine st 8 (t_move (o_t 4 rfl) rfl rfl) rfl rfl hL fun a s e_ hL => ?_
  refine st 9 (t_move (o_t 0 rfl) rfl rfl) rfl rfl hL fun a s e_ hL => ?_
  refine st 10 (t_len (o_t 9 rfl) Tryd.underlying26 rfl rfl) rfl rfl hL fun a s e_ hL => ?_
  refine st 11 (t_lss (o_t 8 rfl) (o_t 10 rfl) rfl rfl) rfl rfl hL fun a s e_ hL => ?_
  refine en' ?_
  show K17 a s.w
  refine hK17 _ _ ?_
  refine cnd hL rfl (fun hb_ => ?_) (fun hb_ => ?_)
  · replace h := h.1 hb_
    refine wp_skip ?_
    show K16 a s.w
    refine hK16 _ _ ?_
    refine wp_seq_k fun K18 hK18 => ?_
    refine wp_block ?_
    obtain ⟨e19, h20, e21, h22, e23, h24, e25, h26, h27, h⟩ := h
    refine rda follows 22 [(Pd.row (En.int .i64) s0.w.heap.size 3 og11 out10), (Pd.rep (En.slice En.SItem) s_), (Pd.rep (En.int .i64) i12), (Pd.ptr En.SItem e19), (Pd.ptr (En.int .i64) e19.1), (Pd.rep (En.int .i64) e19.1), (Pd.rep (En.slice En.SItem) s_), (Pd.rep (En.int .i64) i12), (Pd.ptr En.SItem e21), (Pd.ptr (En.int .i64) e21.2.1), (Pd.rep (En.int .i64) e21.2.1), (Pd.rep (En.slice En.SItem) s_), (Pd.rep (En.int .i64) i12), (Pd.ptr En.SItem e23), (Pd.ptr (En.int .i64) e23.2.2.1), (Pd.rep (En.int .i64) e23.2.2.1), (Pd.rep (En.slice En.SItem) s_), (Pd.rep (En.int .i64) i12), (Pd.ptr En.SItem e25), (Pd.ptr (En.int .i64) e25.2.2.2), (Pd.rep (En.int .i64) e25.2.2.2), (Pd.rep (En.slice (En.int .i64)) [e19.1, e21.2.1, e23.2.2.1, e25.2.2.2])] hL (by kernel_rfl) rfl rfl ?_ ?_
    · refine AllT.cons (t_move (o_t 3 rfl) rfl rfl) ?_
      refine AllT.cons (t_move (o_t 0 rfl) rfl rfl) ?_
      refine AllT.cons (t_move (o_t 4 rfl) rfl rfl) ?_
      refine AllT.cons (t_idx (o_t 15 rfl) (o_t 16 rfl) h20 Tryd.underlying26 ty36 rfl rfl) ?_
      refine AllT.cons (t_fa (off := 0) (o_t 17 rfl) Tryd.underlying36 rfl (prt_fst (prt_all _ _)) rfl ty3 rfl rfl) ?_
      refine AllT.cons (t_load ty3 (o_t 18 rfl) rfl rfl) ?_
      refine AllT.cons (t_move (o_t 0 rfl) rfl rfl) ?_
      refine AllT.cons (t_move (o_t 4 rfl) rfl rfl) ?_
      refine AllT.cons (t_idx (o_t 20 rfl) (o_t 21 rfl) h22 Tryd.underlying26 ty36 rfl rfl) ?_
      refine AllT.cons (t_fa (off := 1) (o_t 22 rfl) Tryd.underlying36 rfl (prt_snd (prt_fst (prt_all _ _)) rfl) rfl ty3 rfl rfl) ?_
      refine AllT.cons (t_load ty3 (o_t 23 rfl) rfl rfl) ?_
      refine AllT.cons (t_move (o_t 0 rfl) rfl rfl) ?_
      refine AllT.cons (t_move (o_t 4 rfl) rfl rfl) ?_
      refine AllT.cons (t_idx (o_t 25 rfl) (o_t 26 rfl) h24 Tryd.underlying26 ty36 rfl rfl) ?_
      refine AllT.cons (t_fa (off := 2) (o_t 27 rfl) Tryd.underlying36 rfl (prt_snd (prt_snd (prt_fst (prt_all _ _)) rfl) rfl) rfl ty3 rfl rfl) ?_
      refine AllT.cons (t_load ty3 (o_t 28 rfl) rfl rfl) ?_
      refine AllT.cons (t_move (o_t 0 rfl) rfl rfl) ?_
      refine AllT.cons (t_move (o_t 4 rfl) rfl rfl) ?_
      refine AllT.cons (t_idx (o_t 30 rfl) (o_t 31 rfl) h26 Tryd.underlying26 ty36 rfl rfl) ?_
      refine AllT.cons (t_fa (off := 3) (o_t 32 rfl) Tryd.underlying36 rfl (prt_snd (prt_snd (prt_snd (prt_all _ _) rfl) rfl) rfl) rfl ty3 rfl rfl) ?_
      refine AllT.cons (t_load ty3 (o_t 33 rfl) rfl rfl) ?_
      refine AllT.cons (t_lit (xs := [.tmp 19, .tmp 24, .tmp 29, .tmp 34]) (.cons (o_t 19 rfl) (.cons (o_t 24 rfl) (.cons (o_t 29 rfl) (.cons (o_t 34 rfl) .nil)))) Tryd.underlying47 ty3 rfl rfl (by decide) rfl rfl) ?_
      exact AllT.nil
    intro a s e_ hL
    refine st_app (L' := [(0, (Pd.rep (En.slice En.SItem) s_)), (4, (Pd.rep (En.int .i64) i12))]) 36 hL (o_t 14 rfl) (o_t 35 rfl) Tryd.underlying47 ty3 h27 rfl rfl rfl rfl (.cons (t := 0) rfl (fun _ h_ => h_.elim) (.cons (t := 4) rfl (fun _ h_ => h_.elim) .nil)) fun a s og28 hg_ hL => ?_
    refine st 3 (t_assign (o_t 36 rfl) rfl rfl) rfl rfl hL fun a s e_ hL => ?_
    refine en' ?_
    show K18 a s.w
    refine hK18 _ _ ?_
    obtain ⟨h29, h⟩ := h
    refine rg ?_
    refine st 12 (t_move (o_t 4 rfl) rfl rfl) rfl rfl hL fun a s e_ hL => ?_
    refine st 13 (t_add (o_t 12 rfl) (o_i (by decide)) h29 rfl rfl) rfl rfl hL fun a s e_ hL => ?_
    refine st 4 (t_assign (o_t 13 rfl) rfl rfl) rfl rfl hL fun a s e_ hL => ?_
    refine en' ?_
    exact hKL15 k14 a s (Nat.lt_succ_self _) ⟨(out10 ++ [e19.1, e21.2.1, e23.2.2.1, e25.2.2.2]), (i12 + 1), og28, hL.keep (.cons (t := 0) rfl (fun _ h_ => h_.elim) (.cons (t := 3) rfl (fun _ _ h_ => h_) (.cons (t := 4) rfl (fun _ h_ => h_.elim) .nil))), h⟩
  · replace h := h.2 hb_
    refine wp_exit ?_
    exact J8 out10 og11 a s (hL.keep (.cons (t := 3) rfl (fun _ _ h_ => h_) .nil)) h

theorem ref13_Compare_ok {a_ : (List SItem)} {b_ : (List SItem)} {r_ : Int} (h : ref13_Compare a_ b_ r_) : Fn Tryd.prog 21 [(Pd.rep (En.slice En.SItem) a_), (Pd.rep (En.slice En.SItem) b_)] (Rq (Pd.rep (En.int .i64) r_)) := by
  unfold ref13_Compare at h
  refine fn_of Tryd.func21 rfl Tryd.ntmps21 (by rfl) (by simp) fun s0 a hL => ?_
  refine wp_seq_k fun K1 hK1 => ?_
  refine rg ?_
  refine st 4 (t_assign (o_i (by decide)) rfl rfl) rfl rfl hL fun a s e_ hL => ?_
  refine en' ?_
  show K1 a s.w
  refine hK1 _ _ ?_
  refine wp_seq_k fun K2 hK2 => ?_
  obtain ⟨r3, h4, h⟩ := h
  refine rg ?_
  refine st 8 (t_move (o_t 0 rfl) rfl rfl) rfl rfl hL fun a s e_ hL => ?_
  refine st 9 (t_call ((ref13_numbers_ok h4).frz) (xs := [.tmp 8]) (.cons (o_t 8 rfl) .nil) rfl rfl) rfl rfl hL fun a s e_ hL => ?_
  refine st 5 (t_assign (o_t 9 rfl) rfl rfl) rfl rfl hL fun a s e_ hL => ?_
  refine en' ?_
  show K2 a s.w
  refine hK2 _ _ ?_
  refine wp_seq_k fun K5 hK5 => ?_
  obtain ⟨r6, h7, h⟩ := h
  refine rg ?_
  refine st 10 (t_move (o_t 1 rfl) rfl rfl) rfl rfl hL fun a s e_ hL => ?_
  refine st 11 (t_call ((ref13_numbers_ok h7).frz) (xs := [.tmp 10]) (.cons (o_t 10 rfl) .nil) rfl rfl) rfl rfl hL fun a s e_ hL => ?_
  refine st 6 (t_assign (o_t 11 rfl) rfl rfl) rfl rfl hL fun a s e_ hL => ?_
  refine en' ?_
  show K5 a s.w
  refine hK5 _ _ ?_
  refine wp_seq_k fun K8 hK8 => ?_
  refine wp_seq_k fun K9 hK9 => ?_
  refine rg ?_
  refine st 7 (t_assign (o_i (by decide)) rfl rfl) rfl rfl hL fun a s e_ hL => ?_
  refine en' ?_
  show K9 a s.w
  refine hK9 _ _ ?_
  refine wp_block ?_
  have J10 : ∀ (a : Act) (s : St), Has N0 42 s0 a s [] → ((ref13_Compare.j1 r_)) → K8 a s.w := by
    intro a s hL h
    unfold ref13_Compare.j1 at h
    show K8 a s.w
    refine hK8 _ _ ?_
    refine wp_seq_k fun K11 hK11 => ?_
    refine rg ?_
    refine st 4 (t_assign (o_i (by decide)) rfl rfl) rfl rfl hL fun a s e_ hL => ?_
    refine en' ?_
    show K11 a s.w
    refine hK11 _ _ ?_
    subst h
    exact wp_ret (retq rfl hL rfl)
  obtain ⟨k13, h⟩ := h
  refine lpg (fun k14 a s => ∃ (i12 : Int), Has N0 42 s0 a s [(5, (Pd.rep (En.slice (En.int .i64)) r3)), (6, (Pd.rep (En.slice (En.int .i64)) r6)), (7, (Pd.rep (En.int .i64) i12))] ∧ ref13_Compare.l1 r3 r6 r_ (ref13_Compare.j1 r_) k14 i12) k13 ⟨0, hL.keep (.cons (t := 5) rfl (fun _ h_ => h_.elim) (.cons (t := 6) rfl (fun _ h_ => h_.elim) (.cons (t := 7) rfl (fun _ h_ => h_.elim) .nil))), h⟩ ?_
  rintro k14 a s ⟨i12, hL, h⟩ KL15 hKL15
  cases k14 with
  | zero => exact h.elim
  | succ k14 =>
  unfold ref13_Compare.l1 at h
  refine wp_seq_k fun K16 hK16 => ?_
  refine wp_seq_k fun K17 hK17 => ?_
  obtain ⟨b18, h19, h⟩ := h
  refine rg ?_
  refine st 12 (t_move (o_t 7 rfl) rfl rfl) rfl rfl hL fun a s e_ hL => ?_
  refine st 13 (t_move (o_t 5 rfl) rfl rfl) rfl rfl hL fun a s e_ hL => ?_
  refine st 14 (t_len (o_t 13 rfl) Tryd.underlying47 rfl rfl) rfl rfl hL fun a s e_ hL => ?_
  refine st 15 (t_lss (o_t 12 rfl) (o_t 14 rfl) rfl rfl) rfl rfl hL fun a s e_ hL => ?_
  refine st 16 (t_move (o_t 15 rfl) rfl rfl) rfl rfl hL fun a s e_ hL => ?_
  refine st 17 (t_g1 rfl rfl rfl (fun hc_ => t_move (o_t 7 rfl) rfl rfl)) rfl rfl hL fun a s e_ hL => ?_
  refine st 18 (t_g1 rfl rfl rfl (fun hc_ => t_move (o_t 6 rfl) rfl rfl)) rfl rfl hL fun a s e_ hL => ?_
  refine st 19 (t_g1 rfl rfl rfl (fun hc_ => t_len (o_w hc_ 18 rfl) Tryd.underlying47 rfl rfl)) rfl rfl hL fun a s e_ hL => ?_
  refine st 20 (t_g1 rfl rfl rfl (fun hc_ => t_lss (o_w hc_ 17 rfl) (o_w hc_ 19 rfl) rfl rfl)) rfl rfl hL fun a s e_ hL => ?_
  refine st 21 (h19 ▸ (t_and (o_t 16 rfl) (fun hc2_ => (o_w hc2_ 20 rfl)) rfl rfl)) rfl rfl hL fun a s e_ hL => ?_
  refine en' ?_
  show K17 a s.w
  refine hK17 _ _ ?_
  refine cnd hL rfl (fun hb_ => ?_) (fun hb_ => ?_)
  · replace h := h.1 hb_
    refine wp_skip ?_
    show K16 a s.w
    refine hK16 _ _ ?_
    refine wp_seq_k fun K20 hK20 => ?_
    refine wp_block ?_
    refine wp_seq_k fun K21 hK21 => ?_
    refine wp_seq_k fun K22 hK22 => ?_
    obtain ⟨e23, h24, e25, h26, h⟩ := h
    refine rda follows 9 [(Pd.rep (En.slice (En.int .i64)) r3), (Pd.rep (En.int .i64) i12), (Pd.ptr (En.int .i64) e23), (Pd.rep (En.int .i64) e23), (Pd.rep (En.slice (En.int .i64)) r6), (Pd.rep (En.int .i64) i12), (Pd.ptr (En.int .i64) e25), (Pd.rep (En.int .i64) e25), (Pd.rep En.bool (decide (e23 < e25)))] hL (by kernel_rfl) rfl rfl ?_ ?_
    · refine AllT.cons (t_move (o_t 5 rfl) rfl rfl) ?_
      refine AllT.cons (t_move (o_t 7 rfl) rfl rfl) ?_
      refine AllT.cons (t_idx (o_t 24 rfl) (o_t 25 rfl) h24 Tryd.underlying47 ty3 rfl rfl) ?_
      refine AllT.cons (t_load ty3 (o_t 26 rfl) rfl rfl) ?_
      refine AllT.cons (t_move (o_t 6 rfl) rfl rfl) ?_
      refine AllT.cons (t_move (o_t 7 rfl) rfl rfl) ?_
      refine AllT.cons (t_idx (o_t 28 rfl) (o_t 29 rfl) h26 Tryd.underlying47 ty3 rfl rfl) ?_
      refine AllT.cons (t_load ty3 (o_t 30 rfl) rfl rfl) ?_
      refine AllT.cons (t_lss (o_t 27 rfl) (o_t 31 rfl) rfl rfl) ?_
      exact AllT.nil
    intro a s e_ hL
    refine en' ?_
    show K22 a s.w
    refine hK22 _ _ ?_
    refine cnd hL rfl (fun hb_ => ?_) (fun hb_ => ?_)
    · replace h := h.1 hb_
      refine wp_seq_k fun K27 hK27 => ?_
      refine rg ?_
      refine st 4 (t_assign (o_i (by decide)) rfl rfl) rfl rfl hL fun a s e_ hL => ?_
      refine en' ?_
      show K27 a s.w
      refine hK27 _ _ ?_
      subst h
      exact wp_ret (retq rfl hL rfl)
    · replace h := h.2 hb_
      refine wp_skip ?_
      show K21 a s.w
      refine hK21 _ _ ?_
      refine wp_seq_k fun K28 hK28 => ?_
      obtain ⟨e29, h30, e31, h32, h⟩ := h
      refine rda follows 9 [(Pd.rep (En.slice (En.int .i64)) r3), (Pd.rep (En.int .i64) i12), (Pd.ptr (En.int .i64) e29), (Pd.rep (En.int .i64) e29), (Pd.rep (En.slice (En.int .i64)) r6), (Pd.rep (En.int .i64) i12), (Pd.ptr (En.int .i64) e31), (Pd.rep (En.int .i64) e31), (Pd.rep En.bool (decide (e31 < e29)))] hL (by kernel_rfl) rfl rfl ?_ ?_
      · refine AllT.cons (t_move (o_t 5 rfl) rfl rfl) ?_
        refine AllT.cons (t_move (o_t 7 rfl) rfl rfl) ?_
        refine AllT.cons (t_idx (o_t 33 rfl) (o_t 34 rfl) h30 Tryd.underlying47 ty3 rfl rfl) ?_
        refine AllT.cons (t_load ty3 (o_t 35 rfl) rfl rfl) ?_
        refine AllT.cons (t_move (o_t 6 rfl) rfl rfl) ?_
        refine AllT.cons (t_move (o_t 7 rfl) rfl rfl) ?_
        refine AllT.cons (t_idx (o_t 37 rfl) (o_t 38 rfl) h32 Tryd.underlying47 ty3 rfl rfl) ?_
        refine AllT.cons (t_load ty3 (o_t 39 rfl) rfl rfl) ?_
        refine AllT.cons (t_gtr (o_t 36 rfl) (o_t 40 rfl) rfl rfl) ?_
        exact AllT.nil
      intro a s e_ hL
      refine en' ?_
      show K28 a s.w
      refine hK28 _ _ ?_
      refine cnd hL rfl (fun hb_ => ?_) (fun hb_ => ?_)
      · replace h := h.1 hb_
        refine wp_seq_k fun K33 hK33 => ?_
        refine rg ?_
        refine st 4 (t_assign (o_i (by decide)) rfl rfl) rfl rfl hL fun a s e_ hL => ?_
        refine en' ?_
        show K33 a s.w
        refine hK33 _ _ ?_
        subst h
        exact wp_ret (retq rfl hL rfl)
      · replace h := h.2 hb_
        refine wp_skip ?_
        show K20 a s.w
        refine hK20 _ _ ?_
        obtain ⟨h34, h⟩ := h
        refine rg ?_
        refine st 22 (t_move (o_t 7 rfl) rfl rfl) rfl rfl hL fun a s e_ hL => ?_
        refine st 23 (t_add (o_t 22 rfl) (o_i (by decide)) h34 rfl rfl) rfl rfl hL fun a s e_ hL => ?_
        refine st 7 (t_assign (o_t 23 rfl) rfl rfl) rfl rfl hL fun a s e_ hL => ?_
        refine en' ?_
        exact hKL15 k14 a s (Nat.lt_succ_self _) ⟨(i12 + 1), hL.keep (.cons (t := 5) rfl (fun _ h_ => h_.elim) (.cons (t := 6) rfl (fun _ h_ => h_.elim) (.cons (t := 7) rfl (fun _ h_ => h_.elim) .nil))), h⟩
  · replace h := h.2 hb_
    refine wp_exit ?_
    exact J10 a s (hL.keep .nil) h

theorem ref13_Same_ok {a_ : (List SItem)} {b_ : (List SItem)} {r_ : Bool} (h : ref13_Same a_ b_ r_) : Fn Tryd.prog 22 [(Pd.rep (En.slice En.SItem) a_), (Pd.rep (En.slice En.SItem) b_)] (Rq (Pd.rep En.bool r_)) := by
  unfold ref13_Same at h
  refine fn_of Tryd.func22 rfl Tryd.ntmps22 (by rfl) (by simp) fun s0 a hL => ?_
  refine wp_seq_k fun K1 hK1 => ?_
  refine rg ?_
  refine st 4 (t_assign o_b rfl rfl) rfl rfl hL fun a s e_ hL => ?_
  refine en' ?_
  show K1 a s.w
  refine hK1 _ _ ?_
  refine wp_seq_k fun K2 hK2 => ?_
  obtain ⟨r3, h4, h⟩ := h
  refine rg ?_
  refine st 5 (t_move (o_t 0 rfl) rfl rfl) rfl rfl hL fun a s e_ hL => ?_
  refine st 6 (t_move (o_t 1 rfl) rfl rfl) rfl rfl hL fun a s e_ hL => ?_
  refine st 7 (t_call (ref13_Compare_ok h4) (xs := [.tmp 5, .tmp 6]) (.cons (o_t 5 rfl) (.cons (o_t 6 rfl) .nil)) rfl rfl) rfl rfl hL fun a s e_ hL => ?_
  refine st 8 (t_eqi (o_t 7 rfl) (o_i (by decide)) rfl rfl) rfl rfl hL fun a s e_ hL => ?_
  refine st 4 (t_assign (o_t 8 rfl) rfl rfl) rfl rfl hL fun a s e_ hL => ?_
  refine en' ?_
  show K2 a s.w
  refine hK2 _ _ ?_
  subst h
  exact wp_ret (retq rfl hL rfl)

theorem law13_ItemTells_ok {d_ : SDesc} {s_ : (List SItem)} {t_ : (List SItem)} {r_ : Bool} (h : law13_ItemTells d_ s_ t_ r_) : Fn Tryd.prog 3 [(Pd.rep En.SDesc d_), (Pd.rep (En.slice En.SItem) s_), (Pd.rep (En.slice En.SItem) t_)] (Rq (Pd.rep En.bool r_)) := by
  unfold law13_ItemTells at h
  refine fn_of Tryd.func3 rfl Tryd.ntmps3 (by rfl) (by simp) fun s0 a hL => ?_
  refine wp_seq_k fun K1 hK1 => ?_
  refine rg ?_
  refine st 3 (t_box (o_t 0 rfl) rfl rfl) rfl rfl hL fun a s e_ hL => ?_
  refine st 6 (t_assign o_b rfl rfl) rfl rfl hL fun a s e_ hL => ?_
  refine en' ?_
  show K1 a s.w
  refine hK1 _ _ ?_
  refine wp_seq_k fun K2 hK2 => ?_
  refine wp_seq_k fun K3 hK3 => ?_
  obtain ⟨r4, h5, r6, h7, r8, h9, b10, h11, h⟩ := h
  refine rg ?_
  refine st 12 (t_call (law13_awake_ok h5) (xs := []) .nil rfl rfl) rfl rfl hL fun a s e_ hL => ?_
  refine st 13 (t_not (o_t 12 rfl) rfl rfl) rfl rfl hL fun a s e_ hL => ?_
  refine st 14 (t_move (o_t 13 rfl) rfl rfl) rfl rfl hL fun a s e_ hL => ?_
  refine st 15 (t_g1 rfl rfl rfl (fun hc_ => t_load ty24 (o_t 3 rfl) rfl rfl)) rfl rfl hL fun a s e_ hL => ?_
  refine st 16 (t_g1 rfl rfl rfl (fun hc_ => t_call (ref04_Few_ok (h7 hc_)) (xs := [.tmp 15]) (.cons (o_w hc_ 15 rfl) .nil) rfl rfl)) rfl rfl hL fun a s e_ hL => ?_
  refine st 17 (t_g1 rfl rfl rfl (fun hc_ => t_not (o_w hc_ 16 rfl) rfl rfl)) rfl rfl hL fun a s e_ hL => ?_
  refine st 18 (t_or (o_t 14 rfl) (fun hc2_ => (o_w hc2_ 17 rfl)) rfl rfl) rfl rfl hL fun a s e_ hL => ?_
  refine st 19 (t_move (o_t 18 rfl) rfl rfl) rfl rfl hL fun a s e_ hL => ?_
  refine st 20 (t_g1 rfl rfl rfl (fun hc_ => t_load ty24 (o_t 3 rfl) rfl rfl)) rfl rfl hL fun a s e_ hL => ?_
  refine st 21 (t_g1 rfl rfl rfl (fun hc_ => t_call (ref08_Right_ok (h9 hc_)) (xs := [.tmp 20]) (.cons (o_w hc_ 20 rfl) .nil) rfl rfl)) rfl rfl hL fun a s e_ hL => ?_
  refine st 22 (t_g1 rfl rfl rfl (fun hc_ => t_not (o_w hc_ 21 rfl) rfl rfl)) rfl rfl hL fun a s e_ hL => ?_
  refine st 23 (t_or (o_t 19 rfl) (fun hc2_ => (o_w hc2_ 22 rfl)) rfl rfl) rfl rfl hL fun a s e_ hL => ?_
  refine st 24 (t_move (o_t 23 rfl) rfl rfl) rfl rfl hL fun a s e_ hL => ?_
  refine st 25 (t_g1 rfl rfl rfl (fun hc_ => t_move (o_t 1 rfl) rfl rfl)) rfl rfl hL fun a s e_ hL => ?_
  refine st 26 (t_g1 rfl rfl rfl (fun hc_ => t_len (o_w hc_ 25 rfl) Tryd.underlying26 rfl rfl)) rfl rfl hL fun a s e_ hL => ?_
  refine st 27 (t_g1 rfl rfl rfl (fun hc_ => t_gtr (o_w hc_ 26 rfl) (o_i (by decide)) rfl rfl)) rfl rfl hL fun a s e_ hL => ?_
  refine st 28 (h11 ▸ (t_or (o_t 24 rfl) (fun hc2_ => (o_w hc2_ 27 rfl)) rfl rfl)) rfl rfl hL fun a s e_ hL => ?_
  refine st 29 (t_move (o_t 28 rfl) rfl rfl) rfl rfl hL fun a s e_ hL => ?_
  refine st 30 (t_g1 rfl rfl rfl (fun hc_ => t_move (o_t 2 rfl) rfl rfl)) rfl rfl hL fun a s e_ hL => ?_
  refine st 31 (t_g1 rfl rfl rfl (fun hc_ => t_len (o_w hc_ 30 rfl) Tryd.underlying26 rfl rfl)) rfl rfl hL fun a s e_ hL => ?_
  refine st 32 (t_g1 rfl rfl rfl (fun hc_ => t_gtr (o_w hc_ 31 rfl) (o_i (by decide)) rfl rfl)) rfl rfl hL fun a s e_ hL => ?_
  refine st 33 (t_or (o_t 29 rfl) (fun hc2_ => (o_w hc2_ 32 rfl)) rfl rfl) rfl rfl hL fun a s e_ hL => ?_
  refine en' ?_
  show K3 a s.w
  refine hK3 _ _ ?_
  refine cnd hL rfl (fun hb_ => ?_) (fun hb_ => ?_)
  · replace h := h.1 hb_
    refine wp_seq_k fun K12 hK12 => ?_
    obtain ⟨r13, h14, h⟩ := h
    refine rg ?_
    refine st 34 (t_call (law13_awake_ok h14) (xs := []) .nil rfl rfl) rfl rfl hL fun a s e_ hL => ?_
    refine st 6 (t_assign (o_t 34 rfl) rfl rfl) rfl rfl hL fun a s e_ hL => ?_
    refine en' ?_
    show K12 a s.w
    refine hK12 _ _ ?_
    subst h
    exact wp_ret (retq rfl hL rfl)
  · replace h := h.2 hb_
    refine wp_skip ?_
    show K2 a s.w
    refine hK2 _ _ ?_
    refine wp_seq_k fun K15 hK15 => ?_
    obtain ⟨r16, h17, h⟩ := h
    refine rg ?_
    refine st 36 (t_move (o_t 1 rfl) rfl rfl) rfl rfl hL fun a s e_ hL => ?_
    refine st 37 (t_call (((item_Lower_ok h17).frz2 (Pd.rep_stable _ _)).tup) (xs := [.tmp 36]) (.cons (o_t 36 rfl) .nil) rfl rfl) rfl rfl hL fun a s e_ hL => ?_
    refine st 35 (t_move (o_t 37 rfl) rfl rfl) rfl rfl hL fun a s e_ hL => ?_
    refine st 38 (t_ext0 (o_t 35 rfl) rfl rfl) rfl rfl hL fun a s e_ hL => ?_
    refine st 39 (t_ext1 (o_t 35 rfl) rfl rfl) rfl rfl hL fun a s e_ hL => ?_
    refine st 7 (t_assign (o_t 38 rfl) rfl rfl) rfl rfl hL fun a s e_ hL => ?_
    refine st 8 (t_assign (o_t 39 rfl) rfl rfl) rfl rfl hL fun a s e_ hL => ?_
    refine en' ?_
    show K15 a s.w
    refine hK15 _ _ ?_
    refine wp_seq_k fun K18 hK18 => ?_
    obtain ⟨r19, h20, h⟩ := h
    refine rg ?_
    refine st 41 (t_move (o_t 1 rfl) rfl rfl) rfl rfl hL fun a s e_ hL => ?_
    refine st 42 (t_call (((ref13_Lower_ok h20).frz2 (Pd.rep_stable _ _)).tup) (xs := [.tmp 41]) (.cons (o_t 41 rfl) .nil) rfl rfl) rfl rfl hL fun a s e_ hL => ?_
    refine st 40 (t_move (o_t 42 rfl) rfl rfl) rfl rfl hL fun a s e_ hL => ?_
    refine st 43 (t_ext0 (o_t 40 rfl) rfl rfl) rfl rfl hL fun a s e_ hL => ?_
    refine st 44 (t_ext1 (o_t 40 rfl) rfl rfl) rfl rfl hL fun a s e_ hL => ?_
    refine st 9 (t_assign (o_t 43 rfl) rfl rfl) rfl rfl hL fun a s e_ hL => ?_
    refine st 10 (t_assign (o_t 44 rfl) rfl rfl) rfl rfl hL fun a s e_ hL => ?_
    refine en' ?_
    show K18 a s.w
    refine hK18 _ _ ?_
    refine wp_seq_k fun K21 hK21 => ?_
    obtain ⟨r22, h23, h⟩ := h
    refine rg ?_
    refine st 45 (t_load ty24 (o_t 3 rfl) rfl rfl) rfl rfl hL fun a s e_ hL => ?_
    refine st 46 (t_call ((item_Start_ok h23).frz) (xs := [.tmp 45]) (.cons (o_t 45 rfl) .nil) rfl rfl) rfl rfl hL fun a s e_ hL => ?_
    refine st 11 (t_assign (o_t 46 rfl) rfl rfl) rfl rfl hL fun a s e_ hL => ?_
    refine en' ?_
    show K21 a s.w
    refine hK21 _ _ ?_
    refine wp_seq_k fun K24 hK24 => ?_
    obtain ⟨r25, h26, r27, h28, r29, h30, r31, h32, r33, h34, b35, h36, h37, r38, h39, r40, h41, r42, h43, r44, h45, h⟩ := h
    refine rda follows 47 [(Pd.rep En.SDesc d_), (Pd.rep (En.slice En.SItem) s_), (Pd.rep En.bool r25), (Pd.rep En.SDesc d_), (Pd.rep (En.slice En.SItem) s_), (Pd.rep En.bool r27), (Pd.rep En.bool (r25 == r27)), (Pd.rep En.bool (r25 == r27)), (Pd.when (((r25 == r27)) = true) (Pd.rep (En.slice En.SItem) s_)), (Pd.when (((r25 == r27)) = true) (Pd.rep (En.slice En.SItem) t_)), (Pd.when (((r25 == r27)) = true) (Pd.rep (En.int .i64) r29)), (Pd.when (((r25 == r27)) = true) (Pd.rep (En.slice En.SItem) s_)), (Pd.when (((r25 == r27)) = true) (Pd.rep (En.slice En.SItem) t_)), (Pd.when (((r25 == r27)) = true) (Pd.rep (En.int .i64) r31)), (Pd.when (((r25 == r27)) = true) (Pd.rep En.bool (r29 == r31))), (Pd.rep En.bool ((r25 == r27) && (r29 == r31))), (Pd.rep En.bool ((r25 == r27) && (r29 == r31))), (Pd.when ((((r25 == r27) && (r29 == r31))) = true) (Pd.rep (En.slice En.SItem) r16.1)), (Pd.when ((((r25 == r27) && (r29 == r31))) = true) (Pd.rep (En.slice En.SItem) r19.1)), (Pd.when ((((r25 == r27) && (r29 == r31))) = true) (Pd.rep En.bool r33)), (Pd.rep En.bool (((r25 == r27) && (r29 == r31)) && r33)), (Pd.rep En.bool (((r25 == r27) && (r29 == r31)) && r33)), (Pd.when (((((r25 == r27) && (r29 == r31)) && r33)) = true) (Pd.rep En.bool r16.2)), (Pd.when (((((r25 == r27) && (r29 == r31)) && r33)) = true) (Pd.rep En.bool r19.2)), (Pd.when (((((r25 == r27) && (r29 == r31)) && r33)) = true) (Pd.rep En.bool (r16.2 == r19.2))), (Pd.rep En.bool b35), (Pd.rep En.bool b35), (Pd.when ((b35) = true) (Pd.rep (En.slice En.SItem) r22)), (Pd.when ((b35) = true) (Pd.ptr (En.slice En.SNode) d_)), (Pd.when ((b35) = true) (Pd.rep (En.slice En.SNode) d_)), (Pd.when ((b35) = true) (Pd.rep (En.int .i64) (d_.length : Int))), (Pd.when ((b35) = true) (Pd.rep (En.int .i64) ((d_.length : Int) - 1))), (Pd.when ((b35) = true) (Pd.rep En.SItem (1, (d_.length : Int) - 1, 0, 0))), (Pd.when ((b35) = true) (Pd.rep (En.slice En.SItem) [(1, (d_.length : Int) - 1, 0, 0)])), (Pd.when ((b35) = true) (Pd.rep En.bool r38)), (Pd.rep En.bool (b35 && r38)), (Pd.rep En.bool (b35 && r38)), (Pd.when (((b35 && r38)) = true) (Pd.rep (En.slice En.SItem) s_)), (Pd.when (((b35 && r38)) = true) (Pd.rep En.str r40)), (Pd.when (((b35 && r38)) = true) (Pd.rep (En.slice En.SItem) t_)), (Pd.when (((b35 && r38)) = true) (Pd.rep En.str r42)), (Pd.when (((b35 && r38)) = true) (Pd.rep En.bool (r40 == r42))), (Pd.when (((b35 && r38)) = true) (Pd.rep (En.slice En.SItem) s_)), (Pd.when (((b35 && r38)) = true) (Pd.rep (En.slice En.SItem) t_)), (Pd.when (((b35 && r38)) = true) (Pd.rep En.bool r44)), (Pd.when (((b35 && r38)) = true) (Pd.rep En.bool ((r40 == r42) == r44))), (Pd.rep En.bool ((b35 && r38) && ((r40 == r42) == r44)))] hL (by kernel_rfl) rfl rfl ?_ ?_
    · refine AllT.cons (t_load ty24 (o_t 3 rfl) rfl rfl) ?_
      refine AllT.cons (t_move (o_t 1 rfl) rfl rfl) ?_
      refine AllT.cons (t_call (item_Form_ok h26) (xs := [.tmp 47, .tmp 48]) (.cons (o_t 47 rfl) (.cons (o_t 48 rfl) .nil)) rfl rfl) ?_
      refine AllT.cons (t_load ty24 (o_t 3 rfl) rfl rfl) ?_
      refine AllT.cons (t_move (o_t 1 rfl) rfl rfl) ?_
      refine AllT.cons (t_call (ref13_Form_ok h28) (xs := [.tmp 50, .tmp 51]) (.cons (o_t 50 rfl) (.cons (o_t 51 rfl) .nil)) rfl rfl) ?_
      refine AllT.cons (t_eqb (o_t 49 rfl) (o_t 52 rfl) Tryd.underlying4 rfl rfl) ?_
      refine AllT.cons (t_move (o_t 53 rfl) rfl rfl) ?_
      refine AllT.cons (t_g1 rfl rfl rfl (fun hc_ => t_move (o_t 1 rfl) rfl rfl)) ?_
      refine AllT.cons (t_g1 rfl rfl rfl (fun hc_ => t_move (o_t 2 rfl) rfl rfl)) ?_
      refine AllT.cons (t_g1 rfl rfl rfl (fun hc_ => t_call (item_Compare_ok (h30 hc_)) (xs := [.tmp 55, .tmp 56]) (.cons (o_w hc_ 55 rfl) (.cons (o_w hc_ 56 rfl) .nil)) rfl rfl)) ?_
      refine AllT.cons (t_g1 rfl rfl rfl (fun hc_ => t_move (o_t 1 rfl) rfl rfl)) ?_
      refine AllT.cons (t_g1 rfl rfl rfl (fun hc_ => t_move (o_t 2 rfl) rfl rfl)) ?_
      refine AllT.cons (t_g1 rfl rfl rfl (fun hc_ => t_call (ref13_Compare_ok (h32 hc_)) (xs := [.tmp 58, .tmp 59]) (.cons (o_w hc_ 58 rfl) (.cons (o_w hc_ 59 rfl) .nil)) rfl rfl)) ?_
      refine AllT.cons (t_g1 rfl rfl rfl (fun hc_ => t_eqi (o_w hc_ 57 rfl) (o_w hc_ 60 rfl) rfl rfl)) ?_
      refine AllT.cons (t_and (o_t 54 rfl) (fun hc2_ => (o_w hc2_ 61 rfl)) rfl rfl) ?_
      refine AllT.cons (t_move (o_t 62 rfl) rfl rfl) ?_
      refine AllT.cons (t_g1 rfl rfl rfl (fun hc_ => t_move (o_t 7 rfl) rfl rfl)) ?_
      refine AllT.cons (t_g1 rfl rfl rfl (fun hc_ => t_move (o_t 9 rfl) rfl rfl)) ?_
      refine AllT.cons (t_g1 rfl rfl rfl (fun hc_ => t_call (ref13_Same_ok (h34 hc_)) (xs := [.tmp 64, .tmp 65]) (.cons (o_w hc_ 64 rfl) (.cons (o_w hc_ 65 rfl) .nil)) rfl rfl)) ?_
      refine AllT.cons (t_and (o_t 63 rfl) (fun hc2_ => (o_w hc2_ 66 rfl)) rfl rfl) ?_
      refine AllT.cons (t_move (o_t 67 rfl) rfl rfl) ?_
      refine AllT.cons (t_g1 rfl rfl rfl (fun hc_ => t_move (o_t 8 rfl) rfl rfl)) ?_
      refine AllT.cons (t_g1 rfl rfl rfl (fun hc_ => t_move (o_t 10 rfl) rfl rfl)) ?_
      refine AllT.cons (t_g1 rfl rfl rfl (fun hc_ => t_eqb (o_w hc_ 69 rfl) (o_w hc_ 70 rfl) Tryd.underlying4 rfl rfl)) ?_
      refine AllT.cons (h36 ▸ (t_and (o_t 68 rfl) (fun hc2_ => (o_w hc2_ 71 rfl)) rfl rfl)) ?_
      refine AllT.cons (t_move (o_t 72 rfl) rfl rfl) ?_
      refine AllT.cons (t_g1 rfl rfl rfl (fun hc_ => t_move (o_t 11 rfl) rfl rfl)) ?_
      refine AllT.cons (t_g1 rfl rfl rfl (fun hc_ => t_fa (off := 0) (o_t 3 rfl) Tryd.underlying24 rfl (prt_solo (prt_all _ _)) rfl ty22 rfl rfl)) ?_
      refine AllT.cons (t_g1 rfl rfl rfl (fun hc_ => t_load ty22 (o_w hc_ 75 rfl) rfl rfl)) ?_
      refine AllT.cons (t_g1 rfl rfl rfl (fun hc_ => t_len (o_w hc_ 76 rfl) Tryd.underlying22 rfl rfl)) ?_
      refine AllT.cons (t_g1 rfl rfl rfl (fun hc_ => t_sub (o_w hc_ 77 rfl) (o_i (by decide)) (h37 hc_) rfl rfl)) ?_
      refine AllT.cons (t_g1 rfl rfl rfl (fun hc_ => t_build (x := (1, (d_.length : Int) - 1, 0, 0)) (ps := [(0, .const (.int .i64 1)), (1, .tmp 78)]) tyz36 rfl stt36 (.cons (i := 0) (o_i (by decide)) rfl (sub_fst (sub_all _ _ _)) (.cons (i := 1) (o_w hc_ 78 rfl) rfl (sub_snd (sub_fst (sub_all _ _ _)) rfl) .nil)) rfl rfl)) ?_
      refine AllT.cons (t_g1 rfl rfl rfl (fun hc_ => t_lit (xs := [.tmp 79]) (.cons (o_w hc_ 79 rfl) .nil) Tryd.underlying26 ty36 rfl rfl (by decide) rfl rfl)) ?_
      refine AllT.cons (t_g1 rfl rfl rfl (fun hc_ => t_call (ref13_Same_ok (h39 hc_)) (xs := [.tmp 74, .tmp 80]) (.cons (o_w hc_ 74 rfl) (.cons (o_w hc_ 80 rfl) .nil)) rfl rfl)) ?_
      refine AllT.cons (t_and (o_t 73 rfl) (fun hc2_ => (o_w hc2_ 81 rfl)) rfl rfl) ?_
      refine AllT.cons (t_move (o_t 82 rfl) rfl rfl) ?_
      refine AllT.cons (t_g1 rfl rfl rfl (fun hc_ => t_move (o_t 1 rfl) rfl rfl)) ?_
      refine AllT.cons (t_g1 rfl rfl rfl (fun hc_ => t_call (item_Key_ok (h41 hc_)) (xs := [.tmp 84]) (.cons (o_w hc_ 84 rfl) .nil) rfl rfl)) ?_
      refine AllT.cons (t_g1 rfl rfl rfl (fun hc_ => t_move (o_t 2 rfl) rfl rfl)) ?_
      refine AllT.cons (t_g1 rfl rfl rfl (fun hc_ => t_call (item_Key_ok (h43 hc_)) (xs := [.tmp 86]) (.cons (o_w hc_ 86 rfl) .nil) rfl rfl)) ?_
      refine AllT.cons (t_g1 rfl rfl rfl (fun hc_ => t_eqv eqv_str (o_w hc_ 85 rfl) (o_w hc_ 87 rfl) rfl rfl)) ?_
      refine AllT.cons (t_g1 rfl rfl rfl (fun hc_ => t_move (o_t 1 rfl) rfl rfl)) ?_
      refine AllT.cons (t_g1 rfl rfl rfl (fun hc_ => t_move (o_t 2 rfl) rfl rfl)) ?_
      refine AllT.cons (t_g1 rfl rfl rfl (fun hc_ => t_call (ref13_Same_ok (h45 hc_)) (xs := [.tmp 89, .tmp 90]) (.cons (o_w hc_ 89 rfl) (.cons (o_w hc_ 90 rfl) .nil)) rfl rfl)) ?_
      refine AllT.cons (t_g1 rfl rfl rfl (fun hc_ => t_eqb (o_w hc_ 88 rfl) (o_w hc_ 91 rfl) Tryd.underlying4 rfl rfl)) ?_
      refine AllT.cons (t_and (o_t 83 rfl) (fun hc2_ => (o_w hc2_ 92 rfl)) rfl rfl) ?_
      exact AllT.nil
    intro a s e_ hL
    refine st 6 (t_assign (o_t 93 rfl) rfl rfl) rfl rfl hL fun a s e_ hL => ?_
    refine en' ?_
    show K24 a s.w
    refine hK24 _ _ ?_
    subst h
    exact wp_ret (retq rfl hL rfl)

theorem law13_ItemOrder_ok {a_ : (List SItem)} {b_ : (List SItem)} {c_ : (List SItem)} {x_ : SItem} {r_ : Bool} (h : law13_ItemOrder a_ b_ c_ x_ r_) : Fn Tryd.prog 4 [(Pd.rep (En.slice En.SItem) a_), (Pd.rep (En.slice En.SItem) b_), (Pd.rep (En.slice En.SItem) c_), (Pd.rep En.SItem x_)] (Rq (Pd.rep En.bool r_)) := by
  unfold law13_ItemOrder at h
  refine fn_of Tryd.func4 rfl Tryd.ntmps4 (by rfl) (by simp) fun s0 a hL => ?_
  refine wp_seq_k fun K1 hK1 => ?_
  refine rg ?_
  refine st 7 (t_box (o_t 3 rfl) rfl rfl) rfl rfl hL fun a s e_ hL => ?_
  refine st 8 (t_assign o_b rfl rfl) rfl rfl hL fun a s e_ hL => ?_
  refine en' ?_
  show K1 a s.w
  refine hK1 _ _ ?_
  refine wp_seq_k fun K2 hK2 => ?_
  refine wp_seq_k fun K3 hK3 => ?_
  obtain ⟨r4, h5, b6, h7, h⟩ := h
  refine rg ?_
  refine st 10 (t_call (law13_awake_ok h5) (xs := []) .nil rfl rfl) rfl rfl hL fun a s e_ hL => ?_
  refine st 11 (t_not (o_t 10 rfl) rfl rfl) rfl rfl hL fun a s e_ hL => ?_
  refine st 12 (t_move (o_t 11 rfl) rfl rfl) rfl rfl hL fun a s e_ hL => ?_
  refine st 13 (t_g1 rfl rfl rfl (fun hc_ => t_move (o_t 0 rfl) rfl rfl)) rfl rfl hL fun a s e_ hL => ?_
  refine st 14 (t_g1 rfl rfl rfl (fun hc_ => t_len (o_w hc_ 13 rfl) Tryd.underlying26 rfl rfl)) rfl rfl hL fun a s e_ hL => ?_
  refine st 15 (t_g1 rfl rfl rfl (fun hc_ => t_gtr (o_w hc_ 14 rfl) (o_i (by decide)) rfl rfl)) rfl rfl hL fun a s e_ hL => ?_
  refine st 16 (t_or (o_t 12 rfl) (fun hc2_ => (o_w hc2_ 15 rfl)) rfl rfl) rfl rfl hL fun a s e_ hL => ?_
  refine st 17 (t_move (o_t 16 rfl) rfl rfl) rfl rfl hL fun a s e_ hL => ?_
  refine st 18 (t_g1 rfl rfl rfl (fun hc_ => t_move (o_t 1 rfl) rfl rfl)) rfl rfl hL fun a s e_ hL => ?_
  refine st 19 (t_g1 rfl rfl rfl (fun hc_ => t_len (o_w hc_ 18 rfl) Tryd.underlying26 rfl rfl)) rfl rfl hL fun a s e_ hL => ?_
  refine st 20 (t_g1 rfl rfl rfl (fun hc_ => t_gtr (o_w hc_ 19 rfl) (o_i (by decide)) rfl rfl)) rfl rfl hL fun a s e_ hL => ?_
  refine st 21 (h7 ▸ (t_or (o_t 17 rfl) (fun hc2_ => (o_w hc2_ 20 rfl)) rfl rfl)) rfl rfl hL fun a s e_ hL => ?_
  refine st 22 (t_move (o_t 21 rfl) rfl rfl) rfl rfl hL fun a s e_ hL => ?_
  refine st 23 (t_g1 rfl rfl rfl (fun hc_ => t_move (o_t 2 rfl) rfl rfl)) rfl rfl hL fun a s e_ hL => ?_
  refine st 24 (t_g1 rfl rfl rfl (fun hc_ => t_len (o_w hc_ 23 rfl) Tryd.underlying26 rfl rfl)) rfl rfl hL fun a s e_ hL => ?_
  refine st 25 (t_g1 rfl rfl rfl (fun hc_ => t_gtr (o_w hc_ 24 rfl) (o_i (by decide)) rfl rfl)) rfl rfl hL fun a s e_ hL => ?_
  refine st 26 (t_or (o_t 22 rfl) (fun hc2_ => (o_w hc2_ 25 rfl)) rfl rfl) rfl rfl hL fun a s e_ hL => ?_
  refine en' ?_
  show K3 a s.w
  refine hK3 _ _ ?_
  refine cnd hL rfl (fun hb_ => ?_) (fun hb_ => ?_)
  · replace h := h.1 hb_
    refine wp_seq_k fun K8 hK8 => ?_
    obtain ⟨r9, h10, h⟩ := h
    refine rg ?_
    refine st 27 (t_call (law13_awake_ok h10) (xs := []) .nil rfl rfl) rfl rfl hL fun a s e_ hL => ?_
    refine st 8 (t_assign (o_t 27 rfl) rfl rfl) rfl rfl hL fun a s e_ hL => ?_
    refine en' ?_
    show K8 a s.w
    refine hK8 _ _ ?_
    subst h
    exact wp_ret (retq rfl hL rfl)
  · replace h := h.2 hb_
    refine wp_skip ?_
    show K2 a s.w
    refine hK2 _ _ ?_
    refine wp_seq_k fun K11 hK11 => ?_
    refine wp_seq_k fun K12 hK12 => ?_
    obtain ⟨r13, h14, r15, h16, h17, r18, h19, r20, h21, r22, h23, r24, h25, b26, h27, h⟩ := h
    refine rg ?_
    refine st 28 (t_move (o_t 0 rfl) rfl rfl) rfl rfl hL fun a s e_ hL => ?_
    refine st 29 (t_move (o_t 1 rfl) rfl rfl) rfl rfl hL fun a s e_ hL => ?_
    refine st 30 (t_call (item_Compare_ok h14) (xs := [.tmp 28, .tmp 29]) (.cons (o_t 28 rfl) (.cons (o_t 29 rfl) .nil)) rfl rfl) rfl rfl hL fun a s e_ hL => ?_
    refine st 31 (t_move (o_t 1 rfl) rfl rfl) rfl rfl hL fun a s e_ hL => ?_
    refine st 32 (t_move (o_t 0 rfl) rfl rfl) rfl rfl hL fun a s e_ hL => ?_
    refine st 33 (t_call (item_Compare_ok h16) (xs := [.tmp 31, .tmp 32]) (.cons (o_t 31 rfl) (.cons (o_t 32 rfl) .nil)) rfl rfl) rfl rfl hL fun a s e_ hL => ?_
    refine st 34 (t_neg (o_t 33 rfl) h17 rfl rfl) rfl rfl hL fun a s e_ hL => ?_
    refine st 35 (t_nei (o_t 30 rfl) (o_t 34 rfl) rfl rfl) rfl rfl hL fun a s e_ hL => ?_
    refine st 36 (t_move (o_t 35 rfl) rfl rfl) rfl rfl hL fun a s e_ hL => ?_
    refine st 37 (t_g1 rfl rfl rfl (fun hc_ => t_move (o_t 0 rfl) rfl rfl)) rfl rfl hL fun a s e_ hL => ?_
    refine st 38 (t_g1 rfl rfl rfl (fun hc_ => t_move (o_t 0 rfl) rfl rfl)) rfl rfl hL fun a s e_ hL => ?_
    refine st 39 (t_g1 rfl rfl rfl (fun hc_ => t_call (item_Compare_ok (h19 hc_)) (xs := [.tmp 37, .tmp 38]) (.cons (o_w hc_ 37 rfl) (.cons (o_w hc_ 38 rfl) .nil)) rfl rfl)) rfl rfl hL fun a s e_ hL => ?_
    refine st 40 (t_g1 rfl rfl rfl (fun hc_ => t_nei (o_w hc_ 39 rfl) (o_i (by decide)) rfl rfl)) rfl rfl hL fun a s e_ hL => ?_
    refine st 41 (t_or (o_t 36 rfl) (fun hc2_ => (o_w hc2_ 40 rfl)) rfl rfl) rfl rfl hL fun a s e_ hL => ?_
    refine st 42 (t_move (o_t 41 rfl) rfl rfl) rfl rfl hL fun a s e_ hL => ?_
    refine st 43 (t_g1 rfl rfl rfl (fun hc_ => t_move (o_t 0 rfl) rfl rfl)) rfl rfl hL fun a s e_ hL => ?_
    refine st 44 (t_g1 rfl rfl rfl (fun hc_ => t_move (o_t 1 rfl) rfl rfl)) rfl rfl hL fun a s e_ hL => ?_
    refine st 45 (t_g1 rfl rfl rfl (fun hc_ => t_call (item_Compare_ok (h21 hc_)) (xs := [.tmp 43, .tmp 44]) (.cons (o_w hc_ 43 rfl) (.cons (o_w hc_ 44 rfl) .nil)) rfl rfl)) rfl rfl hL fun a s e_ hL => ?_
    refine st 46 (t_g1 rfl rfl rfl (fun hc_ => t_lss (o_w hc_ 45 rfl) (o_i (by decide)) rfl rfl)) rfl rfl hL fun a s e_ hL => ?_
    refine st 47 (t_g1 rfl rfl rfl (fun hc_ => t_move (o_w hc_ 46 rfl) rfl rfl)) rfl rfl hL fun a s e_ hL => ?_
    refine st 48 (t_g rfl rfl rfl (fun hc_ => t_move (o_t 1 rfl) rfl rfl)) rfl rfl hL fun a s e_ hL => ?_
    refine st 49 (t_g rfl rfl rfl (fun hc_ => t_move (o_t 2 rfl) rfl rfl)) rfl rfl hL fun a s e_ hL => ?_
    refine st 50 (t_g rfl rfl rfl (fun hc_ => t_call (item_Compare_ok (h23 hc_)) (xs := [.tmp 48, .tmp 49]) (.cons (o_w hc_ 48 rfl) (.cons (o_w hc_ 49 rfl) .nil)) rfl rfl)) rfl rfl hL fun a s e_ hL => ?_
    refine st 51 (t_g rfl rfl rfl (fun hc_ => t_lss (o_w hc_ 50 rfl) (o_i (by decide)) rfl rfl)) rfl rfl hL fun a s e_ hL => ?_
    refine st 52 (t_g1 rfl rfl rfl (fun hc_ => t_and (o_w hc_ 47 rfl) (fun hc2_ => (o_w (And.intro hc_ hc2_) 51 rfl)) rfl rfl)) rfl rfl hL fun a s e_ hL => ?_
    refine st 53 (t_g1 rfl rfl rfl (fun hc_ => t_move (o_w hc_ 52 rfl) rfl rfl)) rfl rfl hL fun a s e_ hL => ?_
    refine st 54 (t_g rfl rfl rfl (fun hc_ => t_move (o_t 0 rfl) rfl rfl)) rfl rfl hL fun a s e_ hL => ?_
    refine st 55 (t_g rfl rfl rfl (fun hc_ => t_move (o_t 2 rfl) rfl rfl)) rfl rfl hL fun a s e_ hL => ?_
    refine st 56 (t_g rfl rfl rfl (fun hc_ => t_call (item_Compare_ok (h25 hc_)) (xs := [.tmp 54, .tmp 55]) (.cons (o_w hc_ 54 rfl) (.cons (o_w hc_ 55 rfl) .nil)) rfl rfl)) rfl rfl hL fun a s e_ hL => ?_
    refine st 57 (t_g rfl rfl rfl (fun hc_ => t_geq (o_w hc_ 56 rfl) (o_i (by decide)) rfl rfl)) rfl rfl hL fun a s e_ hL => ?_
    refine st 58 (h27 ▸ (t_g1 rfl rfl rfl (fun hc_ => t_and (o_w hc_ 53 rfl) (fun hc2_ => (o_w (And.intro hc_ hc2_) 57 rfl)) rfl rfl))) rfl rfl hL fun a s e_ hL => ?_
    refine st 59 (t_or (o_t 42 rfl) (fun hc2_ => (o_w hc2_ 58 rfl)) rfl rfl) rfl rfl hL fun a s e_ hL => ?_
    refine en' ?_
    show K12 a s.w
    refine hK12 _ _ ?_
    refine cnd hL rfl (fun hb_ => ?_) (fun hb_ => ?_)
    · replace h := h.1 hb_
      refine wp_seq_k fun K28 hK28 => ?_
      refine rg ?_
      refine st 8 (t_assign o_b rfl rfl) rfl rfl hL fun a s e_ hL => ?_
      refine en' ?_
      show K28 a s.w
      refine hK28 _ _ ?_
      subst h
      exact wp_ret (retq rfl hL rfl)
    · replace h := h.2 hb_
      refine wp_skip ?_
      show K11 a s.w
      refine hK11 _ _ ?_
      refine wp_seq_k fun K29 hK29 => ?_
      obtain ⟨h31, h33, h⟩ := h
      obtain ⟨K30, hK30, nK30, hL⟩ := hL.mark 999983
      refine rda follows 5 [(Pd.erow0 s0.w.heap.size K30 36), (Pd.rep (En.slice En.SItem) a_), (Pd.erow En.SItem s0.w.heap.size K30 36 a_), (Pd.rep En.SItem x_), (Pd.rep (En.slice En.SItem) [x_])] hL (by kernel_rfl) rfl rfl ?_ ?_
      · refine AllT.cons (t_newx En.SItem (K := K30) (m := 999983) rfl nK30 Tryd.underlying26 ty36 rfl rfl) ?_
        refine AllT.cons (t_move (o_t 0 rfl) rfl rfl) ?_
        refine AllT.cons (t_app0 (o_t 60 rfl) (o_t 61 rfl) Tryd.underlying26 ty36 h31 (m := 999983) rfl rfl rfl) ?_
        refine AllT.cons (t_load ty36 (o_t 7 rfl) rfl rfl) ?_
        refine AllT.cons (t_lit (xs := [.tmp 63]) (.cons (o_t 63 rfl) .nil) Tryd.underlying26 ty36 rfl rfl (by decide) rfl rfl) ?_
        exact AllT.nil
      intro a s e_ hL
      obtain ⟨og32, hg_, hL⟩ := hL.openr 62 rfl
      refine st_app (L' := [(0, (Pd.rep (En.slice En.SItem) a_)), (1, (Pd.rep (En.slice En.SItem) b_))]) 65 hL (o_t 62 rfl) (o_t 64 rfl) Tryd.underlying26 ty36 h33 rfl rfl rfl rfl (.cons (t := 0) rfl (fun _ h_ => h_.elim) (.cons (t := 1) rfl (fun _ h_ => h_.elim) .nil)) fun a s og34 hg_ hL => ?_
      refine st 9 (t_assign (o_t 65 rfl) rfl rfl) rfl rfl hL fun a s e_ hL => ?_
      refine en' ?_
      show K29 a s.w
      refine hK29 _ _ ?_
      refine wp_seq_k fun K35 hK35 => ?_
      obtain ⟨s37, h36, hL⟩ := hL.freeze (L' := [(0, (Pd.rep (En.slice En.SItem) a_)), (1, (Pd.rep (En.slice En.SItem) b_))]) 9 rfl (.cons (t := 0) rfl (fun _ h_ => h_.elim) (.cons (t := 1) rfl (fun _ h_ => h_.elim) .nil))
      rw [← h36]
      clear h36
      generalize s37 = s at *
      obtain ⟨r38, h39, r40, h41, r42, h43, r44, h45, r46, h47, r48, h49, b50, h51, h⟩ := h
      refine rg ?_
      refine st 66 (t_move (o_t 0 rfl) rfl rfl) rfl rfl hL fun a s e_ hL => ?_
      refine st 67 (t_move (o_t 9 rfl) rfl rfl) rfl rfl hL fun a s e_ hL => ?_
      refine st 68 (t_call (item_Compare_ok h39) (xs := [.tmp 66, .tmp 67]) (.cons (o_t 66 rfl) (.cons (o_t 67 rfl) .nil)) rfl rfl) rfl rfl hL fun a s e_ hL => ?_
      refine st 69 (t_eqi (o_t 68 rfl) (o_i (by decide)) rfl rfl) rfl rfl hL fun a s e_ hL => ?_
      refine st 70 (t_move (o_t 69 rfl) rfl rfl) rfl rfl hL fun a s e_ hL => ?_
      refine st 71 (t_g1 rfl rfl rfl (fun hc_ => t_move (o_t 0 rfl) rfl rfl)) rfl rfl hL fun a s e_ hL => ?_
      refine st 72 (t_g1 rfl rfl rfl (fun hc_ => t_move (o_t 1 rfl) rfl rfl)) rfl rfl hL fun a s e_ hL => ?_
      refine st 73 (t_g1 rfl rfl rfl (fun hc_ => t_call (item_Compare_ok (h41 hc_)) (xs := [.tmp 71, .tmp 72]) (.cons (o_w hc_ 71 rfl) (.cons (o_w hc_ 72 rfl) .nil)) rfl rfl)) rfl rfl hL fun a s e_ hL => ?_
      refine st 74 (t_g1 rfl rfl rfl (fun hc_ => t_eqi (o_w hc_ 73 rfl) (o_i (by decide)) rfl rfl)) rfl rfl hL fun a s e_ hL => ?_
      refine st 75 (t_g1 rfl rfl rfl (fun hc_ => t_move (o_t 0 rfl) rfl rfl)) rfl rfl hL fun a s e_ hL => ?_
      refine st 76 (t_g1 rfl rfl rfl (fun hc_ => t_call (item_Key_ok (h43 hc_)) (xs := [.tmp 75]) (.cons (o_w hc_ 75 rfl) .nil) rfl rfl)) rfl rfl hL fun a s e_ hL => ?_
      refine st 77 (t_g1 rfl rfl rfl (fun hc_ => t_move (o_t 1 rfl) rfl rfl)) rfl rfl hL fun a s e_ hL => ?_
      refine st 78 (t_g1 rfl rfl rfl (fun hc_ => t_call (item_Key_ok (h45 hc_)) (xs := [.tmp 77]) (.cons (o_w hc_ 77 rfl) .nil) rfl rfl)) rfl rfl hL fun a s e_ hL => ?_
      refine st 79 (t_g1 rfl rfl rfl (fun hc_ => t_eqv eqv_str (o_w hc_ 76 rfl) (o_w hc_ 78 rfl) rfl rfl)) rfl rfl hL fun a s e_ hL => ?_
      refine st 80 (t_g1 rfl rfl rfl (fun hc_ => t_eqb (o_w hc_ 74 rfl) (o_w hc_ 79 rfl) Tryd.underlying4 rfl rfl)) rfl rfl hL fun a s e_ hL => ?_
      refine st 81 (t_and (o_t 70 rfl) (fun hc2_ => (o_w hc2_ 80 rfl)) rfl rfl) rfl rfl hL fun a s e_ hL => ?_
      refine st 82 (t_move (o_t 81 rfl) rfl rfl) rfl rfl hL fun a s e_ hL => ?_
      refine st 83 (t_g1 rfl rfl rfl (fun hc_ => t_move (o_t 9 rfl) rfl rfl)) rfl rfl hL fun a s e_ hL => ?_
      refine st 84 (t_g1 rfl rfl rfl (fun hc_ => t_call (item_Key_ok (h47 hc_)) (xs := [.tmp 83]) (.cons (o_w hc_ 83 rfl) .nil) rfl rfl)) rfl rfl hL fun a s e_ hL => ?_
      refine st 85 (t_g1 rfl rfl rfl (fun hc_ => t_move (o_t 0 rfl) rfl rfl)) rfl rfl hL fun a s e_ hL => ?_
      refine st 86 (t_g1 rfl rfl rfl (fun hc_ => t_call (item_Key_ok (h49 hc_)) (xs := [.tmp 85]) (.cons (o_w hc_ 85 rfl) .nil) rfl rfl)) rfl rfl hL fun a s e_ hL => ?_
      refine st 87 (t_g1 rfl rfl rfl (fun hc_ => t_nev eqv_str (o_w hc_ 84 rfl) (o_w hc_ 86 rfl) rfl rfl)) rfl rfl hL fun a s e_ hL => ?_
      refine st 88 (h51 ▸ (t_and (o_t 82 rfl) (fun hc2_ => (o_w hc2_ 87 rfl)) rfl rfl)) rfl rfl hL fun a s e_ hL => ?_
      refine st 8 (t_assign (o_t 88 rfl) rfl rfl) rfl rfl hL fun a s e_ hL => ?_
      refine en' ?_
      show K35 a s.w
      refine hK35 _ _ ?_
      subst h
      exact wp_ret (retq rfl hL rfl)
end Go.Proofs.YtdfnbogkniikbaaDoor.V
