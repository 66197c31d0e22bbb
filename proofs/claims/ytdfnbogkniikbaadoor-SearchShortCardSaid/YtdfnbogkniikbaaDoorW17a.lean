/- The walks of the functions of layer 17 (by gen.py). -/
import Derived.Test.YtdfnbogkniikbaaDoorW02a
import Derived.Test.YtdfnbogkniikbaaDoorR17
namespace Go.Proofs.YtdfnbogkniikbaaDoor.V
open Go
set_option linter.unusedVariables false
set_option maxRecDepth 100000
theorem search_Find_1_ok {i_ : Int} {cap0_ : STable} {r_ : Bool} (h : search_Find_1 i_ cap0_ r_) : Fn Tryd.prog 57 [(Pd.rep (En.int .i64) i_), (Pd.ptr En.STable cap0_)] (Rq (Pd.rep En.bool r_)) := by
  unfold search_Find_1 at h
  refine fn_of Tryd.func57 rfl Tryd.ntmps57 (by rfl) (by simp) fun s0 a hL => ?_
  refine wp_seq_k fun K1 hK1 => ?_
  refine rg ?_
  refine st 3 (t_assign o_b rfl rfl) rfl rfl hL fun a s e_ hL => ?_
  refine en' ?_
  show K1 a s.w
  refine hK1 _ _ ?_
  refine wp_seq_k fun K2 hK2 => ?_
  obtain ⟨e3, h4, h⟩ := h
  refine rg ?_
  refine st 4 (t_fa (off := 1) (o_t 1 rfl) Tryd.underlying45 rfl (prt_snd (prt_all _ _) rfl) rfl ty43 rfl rfl) rfl rfl hL fun a s e_ hL => ?_
  refine st 5 (t_load ty43 (o_t 4 rfl) rfl rfl) rfl rfl hL fun a s e_ hL => ?_
  refine st 6 (t_move (o_t 0 rfl) rfl rfl) rfl rfl hL fun a s e_ hL => ?_
  refine st 7 (t_idx (o_t 5 rfl) (o_t 6 rfl) h4 Tryd.underlying43 ty4 rfl rfl) rfl rfl hL fun a s e_ hL => ?_
  refine st 8 (t_load ty4 (o_t 7 rfl) rfl rfl) rfl rfl hL fun a s e_ hL => ?_
  refine st 3 (t_assign (o_t 8 rfl) rfl rfl) rfl rfl hL fun a s e_ hL => ?_
  refine en' ?_
  show K2 a s.w
  refine hK2 _ _ ?_
  subst h
  exact wp_ret (retq rfl hL rfl)

theorem search_space_1_ok {i_ : Int} {cap0_ : STable} {r_ : (List SOn_int_search)} (h : search_space_1 i_ cap0_ r_) : Fn Tryd.prog 67 [(Pd.rep (En.int .i64) i_), (Pd.ptr En.STable cap0_)] (Ro En.SOn_int_search 112 r_) := by
  unfold search_space_1 at h
  refine fn_of Tryd.func67 rfl Tryd.ntmps67 (by rfl) (by simp) fun s0 a hL => ?_
  refine wp_seq_k fun K1 hK1 => ?_
  refine rg ?_
  refine st 3 (t_assign (o_nil (E := En.SOn_int_search) (N := s0.w.heap.size) (te := 112)) rfl rfl) rfl rfl hL fun a s e_ hL => ?_
  refine en' ?_
  show K1 a s.w
  refine hK1 _ _ ?_
  refine wp_seq_k fun K2 hK2 => ?_
  refine rg ?_
  refine st 4 (t_assign (o_nil (E := En.SOn_int_search) (N := s0.w.heap.size) (te := 112)) rfl rfl) rfl rfl hL fun a s e_ hL => ?_
  refine en' ?_
  show K2 a s.w
  refine hK2 _ _ ?_
  refine wp_seq_k fun K3 hK3 => ?_
  refine wp_seq_k fun K4 hK4 => ?_
  obtain ⟨e5, h6, h⟩ := h
  refine rg ?_
  refine st 7 (t_fa (off := 0) (o_t 1 rfl) Tryd.underlying45 rfl (prt_fst (prt_all _ _)) rfl ty42 rfl rfl) rfl rfl hL fun a s e_ hL => ?_
  refine st 8 (t_load ty42 (o_t 7 rfl) rfl rfl) rfl rfl hL fun a s e_ hL => ?_
  refine st 9 (t_move (o_t 0 rfl) rfl rfl) rfl rfl hL fun a s e_ hL => ?_
  refine st 10 (t_idx (o_t 8 rfl) (o_t 9 rfl) h6 Tryd.underlying42 ty60 rfl rfl) rfl rfl hL fun a s e_ hL => ?_
  refine st 11 (t_load ty60 (o_t 10 rfl) rfl rfl) rfl rfl hL fun a s e_ hL => ?_
  refine st 12 (t_len (o_t 11 rfl) Tryd.underlying60 rfl rfl) rfl rfl hL fun a s e_ hL => ?_
  refine st 13 (t_move (o_i (by decide)) rfl rfl) rfl rfl hL fun a s e_ hL => ?_
  refine en' ?_
  show K4 a s.w
  refine hK4 _ _ ?_
  refine wp_block ?_
  have J9 : ∀ (out7 : (List SOn_int_search)) (og8 : Option Nat) (a : Act) (s : St), Has N0 27 s0 a s [(4, (Pd.row En.SOn_int_search s0.w.heap.size 112 og8 out7))] → ((search_space_1.j1 r_) out7) → K3 a s.w := by
    intro out7 og8 a s hL h
    unfold search_space_1.j1 at h
    show K3 a s.w
    refine hK3 _ _ ?_
    refine wp_seq_k fun K10 hK10 => ?_
    refine rg ?_
    refine st 26 (t_move (o_t 4 rfl) rfl rfl) rfl rfl hL fun a s e_ hL => ?_
    refine st 3 (t_assign (o_t 26 rfl) rfl rfl) rfl rfl hL fun a s e_ hL => ?_
    refine en' ?_
    show K10 a s.w
    refine hK10 _ _ ?_
    subst h
    exact wp_ret (reto rfl hL rfl)
  obtain ⟨k14, h⟩ := h
  refine lpg (fun k15 a s => ∃ (out11 : (List SOn_int_search)) (v13 : Int) (og12 : Option Nat), Has N0 27 s0 a s [(4, (Pd.row En.SOn_int_search s0.w.heap.size 112 og12 out11)), (11, (Pd.rep (En.slice En.SWay) e5)), (12, (Pd.rep (En.int .i64) (e5.length : Int))), (13, (Pd.rep (En.int .i64) v13))] ∧ search_space_1.l1 e5 (search_space_1.j1 r_) k15 out11 v13) k14 ⟨([] : (List SOn_int_search)), 0, none, hL.keep (.cons (t := 4) rfl (fun _ _ h_ => h_) (.cons (t := 11) rfl (fun _ h_ => h_.elim) (.cons (t := 12) rfl (fun _ h_ => h_.elim) (.cons (t := 13) rfl (fun _ h_ => h_.elim) .nil)))), h⟩ ?_
  rintro k15 a s ⟨out11, v13, og12, hL, h⟩ KL16 hKL16
  cases k15 with
  | zero => exact h.elim
  | succ k15 =>
  unfold search_space_1.l1 at h
  refine wp_seq_k fun K17 hK17 => ?_
  refine rg ?_
  refine st 14 (t_lss (o_t 13 rfl) (o_t 12 rfl) rfl rfl) rfl rfl hL fun a s e_ hL => ?_
  refine en' ?_
  show K17 a s.w
  refine hK17 _ _ ?_
  refine wp_seq_k fun K18 hK18 => ?_
  refine cnd hL rfl (fun hb_ => ?_) (fun hb_ => ?_)
  · replace h := h.1 hb_
    refine wp_skip ?_
    show K18 a s.w
    refine hK18 _ _ ?_
    refine wp_seq_k fun K19 hK19 => ?_
    refine wp_block ?_
    refine wp_seq_k fun K20 hK20 => ?_
    obtain ⟨e21, h22, h⟩ := h
    refine rg ?_
    refine st 15 (t_idx (o_t 11 rfl) (o_t 13 rfl) h22 Tryd.underlying60 ty62 rfl rfl) rfl rfl hL fun a s e_ hL => ?_
    refine st 16 (t_load ty62 (o_t 15 rfl) rfl rfl) rfl rfl hL fun a s e_ hL => ?_
    have lt_d24 := hL.rlt 4 rfl
    refine st_alloc En.SWay (z := (0, 0)) 6 hL tyz62 rfl rfl rfl rfl fun a s g23 hg_ hL => ?_
    have d24 : Dis (some g23) og12 := Dis.newg hg_ lt_d24
    refine st_stb (L' := [(4, (Pd.row En.SOn_int_search s0.w.heap.size 112 og12 out11)), (11, (Pd.rep (En.slice En.SWay) e5)), (12, (Pd.rep (En.int .i64) (e5.length : Int))), (13, (Pd.rep (En.int .i64) v13))]) 6 hL rfl (o_t 16 rfl) ty62 rfl rfl rfl (.cons (t := 4) rfl (Dis.ow (Dis.symm d24)) (.cons (t := 11) rfl (fun _ h_ => h_.elim) (.cons (t := 12) rfl (fun _ h_ => h_.elim) (.cons (t := 13) rfl (fun _ h_ => h_.elim) .nil)))) fun s hL => ?_
    refine en' ?_
    show K20 a s.w
    refine hK20 _ _ ?_
    obtain ⟨h25, h⟩ := h
    refine rg ?_
    refine st 17 (t_move (o_t 4 rfl) rfl rfl) rfl rfl hL fun a s e_ hL => ?_
    refine st 18 (t_fab (off := 0) (o_t 6 rfl) Tryd.underlying62 rfl (prt_fst (prt_all _ _)) rfl ty5 rfl rfl) rfl rfl hL fun a s e_ hL => ?_
    refine st 19 (t_loado ty5 (o_t 18 rfl) rfl rfl) rfl rfl hL fun a s e_ hL => ?_
    refine st 20 (t_fab (off := 1) (o_t 6 rfl) Tryd.underlying62 rfl (prt_snd (prt_all _ _) rfl) rfl ty3 rfl rfl) rfl rfl hL fun a s e_ hL => ?_
    refine st 21 (t_loado ty3 (o_t 20 rfl) rfl rfl) rfl rfl hL fun a s e_ hL => ?_
    refine st 22 (t_build (x := (e21.1, e21.2)) (ps := [(0, .tmp 19), (1, .tmp 21)]) tyz112 rfl stt112 (.cons (i := 0) (o_t 19 rfl) rfl (sub_fst (sub_all _ _ _)) (.cons (i := 1) (o_t 21 rfl) rfl (sub_snd (sub_all _ _ _) rfl) .nil)) rfl rfl) rfl rfl hL fun a s e_ hL => ?_
    refine st 23 (t_lit (xs := [.tmp 22]) (.cons (o_t 22 rfl) .nil) Tryd.underlying111 ty112 rfl rfl (by decide) rfl rfl) rfl rfl hL fun a s e_ hL => ?_
    refine st_app (L' := [(11, (Pd.rep (En.slice En.SWay) e5)), (12, (Pd.rep (En.int .i64) (e5.length : Int))), (13, (Pd.rep (En.int .i64) v13))]) 24 hL (o_t 17 rfl) (o_t 23 rfl) Tryd.underlying111 ty112 h25 rfl rfl rfl rfl (.cons (t := 11) rfl (fun _ h_ => h_.elim) (.cons (t := 12) rfl (fun _ h_ => h_.elim) (.cons (t := 13) rfl (fun _ h_ => h_.elim) .nil))) fun a s og26 hg_ hL => ?_
    refine st 4 (t_assign (o_t 24 rfl) rfl rfl) rfl rfl hL fun a s e_ hL => ?_
    refine en' ?_
    show K19 a s.w
    refine hK19 _ _ ?_
    obtain ⟨h27, h⟩ := h
    refine rg ?_
    refine st 25 (t_add (o_t 13 rfl) (o_i (by decide)) h27 rfl rfl) rfl rfl hL fun a s e_ hL => ?_
    refine st 13 (t_move (o_t 25 rfl) rfl rfl) rfl rfl hL fun a s e_ hL => ?_
    refine en' ?_
    exact hKL16 k15 a s (Nat.lt_succ_self _) ⟨(out11 ++ [(e21.1, e21.2)]), (v13 + 1), og26, hL.keep (.cons (t := 4) rfl (fun _ _ h_ => h_) (.cons (t := 11) rfl (fun _ h_ => h_.elim) (.cons (t := 12) rfl (fun _ h_ => h_.elim) (.cons (t := 13) rfl (fun _ h_ => h_.elim) .nil)))), h⟩
  · replace h := h.2 hb_
    refine wp_exit ?_
    exact J9 out11 og12 a s (hL.keep (.cons (t := 4) rfl (fun _ _ h_ => h_) .nil)) h

theorem search_space_ok {t_ : STable} {hit_ : (Int × Bool → Prop)} {r_ : SSpace_int_search} (h : search_space t_ hit_ r_) : Fn Tryd.prog 54 [(Pd.rep En.STable t_), (Pd.rep EnF99 hit_)] (Rq (Pd.rep En.SSpace_int_search r_)) := by
  unfold search_space at h
  refine fn_of Tryd.func54 rfl Tryd.ntmps54 (by rfl) (by simp) fun s0 a hL => ?_
  refine wp_seq_k fun K1 hK1 => ?_
  refine rg ?_
  refine st 2 (t_box (o_t 0 rfl) rfl rfl) rfl rfl hL fun a s e_ hL => ?_
  refine st_alloc En.SSpace_int_search (z := (0, (fun _ => False), (fun _ => False), (fun _ => False))) 4 hL tyz101 rfl rfl rfl rfl fun a s g2 hg_ hL => ?_
  refine en' ?_
  show K1 a s.w
  refine hK1 _ _ ?_
  refine wp_seq_k fun K3 hK3 => ?_
  refine rg ?_
  refine st 5 (t_q (Pd.rep EnF98 (fun q_ => search_space_1 q_.1 t_ q_.2)) (t_mkfun (cs := [.tmp 2]) (.cons (o_t 2 rfl) .nil) (call_of Tryd.func67 rfl (by rfl)) (enc_cons enc_ptr enc_nil) (fun q_ h_ => (search_space_1_ok h_).frz) rfl rfl)) rfl rfl hL fun a s e_ hL => ?_
  refine st 6 (t_move (o_t 1 rfl) rfl rfl) rfl rfl hL fun a s e_ hL => ?_
  refine st 7 (t_build (x := (0, (fun q_ => strconv_Itoa q_.1 q_.2), (fun q_ => search_space_1 q_.1 t_ q_.2), hit_)) (ps := [(0, .const (.int .i64 0)), (1, .func 46), (2, .tmp 5), (3, .tmp 6)]) tyz101 rfl stt101 (.cons (i := 0) (o_i (by decide)) rfl (sub_fst (sub_all _ _ _)) (.cons (i := 1) (o_q (Pd.rep EnF88 (fun q_ => strconv_Itoa q_.1 q_.2)) (o_fun (call_of Tryd.func46 rfl (by rfl)) (fun q_ h_ => strconv_Itoa_ok h_))) rfl (sub_snd (sub_fst (sub_all _ _ _)) rfl) (.cons (i := 2) (o_t 5 rfl) rfl (sub_snd (sub_snd (sub_fst (sub_all _ _ _)) rfl) rfl) (.cons (i := 3) (o_t 6 rfl) rfl (sub_snd (sub_snd (sub_snd (sub_all _ _ _) rfl) rfl) rfl) .nil)))) rfl rfl) rfl rfl hL fun a s e_ hL => ?_
  refine st_stb (L' := []) 4 hL rfl (o_t 7 rfl) ty101 rfl rfl rfl .nil fun s hL => ?_
  refine en' ?_
  show K3 a s.w
  refine hK3 _ _ ?_
  subst h
  exact wp_ret (retb rfl ty101 hL rfl)

theorem search_space_g_ok {t_ : STable} {hit_ : Value} {r_ : SSpace_int_searchR} (h : search_space_g t_ hit_ r_) : Fn Tryd.prog 54 [(Pd.rep En.STable t_), (Pd.rep En.raw hit_)] (Rq (Pd.rep En.SSpace_int_searchR r_)) := by
  unfold search_space_g at h
  refine fn_of Tryd.func54 rfl Tryd.ntmps54 (by rfl) (by simp) fun s0 a hL => ?_
  refine wp_seq_k fun K1 hK1 => ?_
  refine rg ?_
  refine st 2 (t_box (o_t 0 rfl) rfl rfl) rfl rfl hL fun a s e_ hL => ?_
  refine st_alloc En.SSpace_int_searchR (z := (0, (fun _ => False), (fun _ => False), Value.nilFunc)) 4 hL tyz101r rfl rfl rfl rfl fun a s g2 hg_ hL => ?_
  refine en' ?_
  show K1 a s.w
  refine hK1 _ _ ?_
  refine wp_seq_k fun K3 hK3 => ?_
  refine rg ?_
  refine st 5 (t_q (Pd.rep EnF98 (fun q_ => search_space_1 q_.1 t_ q_.2)) (t_mkfun (cs := [.tmp 2]) (.cons (o_t 2 rfl) .nil) (call_of Tryd.func67 rfl (by rfl)) (enc_cons enc_ptr enc_nil) (fun q_ h_ => (search_space_1_ok h_).frz) rfl rfl)) rfl rfl hL fun a s e_ hL => ?_
  refine st 6 (t_move (o_t 1 rfl) rfl rfl) rfl rfl hL fun a s e_ hL => ?_
  refine st 7 (t_build (x := (0, (fun q_ => strconv_Itoa q_.1 q_.2), (fun q_ => search_space_1 q_.1 t_ q_.2), hit_)) (ps := [(0, .const (.int .i64 0)), (1, .func 46), (2, .tmp 5), (3, .tmp 6)]) tyz101r rfl stt101r (.cons (i := 0) (o_i (by decide)) rfl (sub_fst (sub_all _ _ _)) (.cons (i := 1) (o_q (Pd.rep EnF88 (fun q_ => strconv_Itoa q_.1 q_.2)) (o_fun (call_of Tryd.func46 rfl (by rfl)) (fun q_ h_ => strconv_Itoa_ok h_))) rfl (sub_snd (sub_fst (sub_all _ _ _)) rfl) (.cons (i := 2) (o_t 5 rfl) rfl (sub_snd (sub_snd (sub_fst (sub_all _ _ _)) rfl) rfl) (.cons (i := 3) (o_t 6 rfl) rfl (sub_snd (sub_snd (sub_snd (sub_all _ _ _) rfl) rfl) rfl) .nil)))) rfl rfl) rfl rfl hL fun a s e_ hL => ?_
  refine st_stb (L' := []) 4 hL rfl (o_t 7 rfl) ty101r rfl rfl rfl .nil fun s hL => ?_
  refine en' ?_
  show K3 a s.w
  refine hK3 _ _ ?_
  subst h
  exact wp_ret (retb rfl ty101r hL rfl)

theorem search_word_int_ok {l_ : (List Smade_int_search)} {i_ : Int} {r_ : (List Int)} (h : search_word_int l_ i_ r_) : Fn Tryd.prog 68 [(Pd.rep (En.slice En.Smade_int_search) l_), (Pd.rep (En.int .i64) i_)] (Ro (En.int .u8) 5 r_) := by
  unfold search_word_int at h
  refine fn_of Tryd.func68 rfl Tryd.ntmps68 (by rfl) (by simp) fun s0 a hL => ?_
  refine wp_seq_k fun K1 hK1 => ?_
  refine rg ?_
  refine st 4 (t_assign (o_nil (E := (En.int .u8)) (N := s0.w.heap.size) (te := 5)) rfl rfl) rfl rfl hL fun a s e_ hL => ?_
  refine en' ?_
  show K1 a s.w
  refine hK1 _ _ ?_
  refine wp_seq_k fun K2 hK2 => ?_
  refine rg ?_
  refine st 5 (t_assign (o_nil (E := (En.int .u8)) (N := s0.w.heap.size) (te := 5)) rfl rfl) rfl rfl hL fun a s e_ hL => ?_
  refine en' ?_
  show K2 a s.w
  refine hK2 _ _ ?_
  refine wp_seq_k fun K3 hK3 => ?_
  refine wp_block ?_
  have J6 : ∀ (out4 : (List Int)) (og5 : Option Nat) (a : Act) (s : St), Has N0 28 s0 a s [(5, (Pd.row (En.int .u8) s0.w.heap.size 5 og5 out4))] → ((search_word_int.j1 r_) out4) → K3 a s.w := by
    intro out4 og5 a s hL h
    unfold search_word_int.j1 at h
    show K3 a s.w
    refine hK3 _ _ ?_
    refine wp_seq_k fun K7 hK7 => ?_
    obtain ⟨r8, h9, h⟩ := h
    refine rg ?_
    refine st 25 (t_move (o_t 5 rfl) rfl rfl) rfl rfl hL fun a s e_ hL => ?_
    refine st_callr (L' := [(5, (Pd.row (En.int .u8) s0.w.heap.size 5 og5 r8))]) 26 (fun v0 => slices_Reverse_byte_byte_ok v0 h9) hL (o_t 25 rfl) (zs := []) .nil rfl rfl rfl rfl (.turn (t := 5) rfl .nil) fun a s hL => ?_
    refine en' ?_
    show K7 a s.w
    refine hK7 _ _ ?_
    refine wp_seq_k fun K10 hK10 => ?_
    refine rg ?_
    refine st 27 (t_move (o_t 5 rfl) rfl rfl) rfl rfl hL fun a s e_ hL => ?_
    refine st 4 (t_assign (o_t 27 rfl) rfl rfl) rfl rfl hL fun a s e_ hL => ?_
    refine en' ?_
    show K10 a s.w
    refine hK10 _ _ ?_
    subst h
    exact wp_ret (reto rfl hL rfl)
  obtain ⟨k14, h⟩ := h
  refine lpg (fun k15 a s => ∃ (i11 : Int) (out12 : (List Int)) (og13 : Option Nat), Has N0 28 s0 a s [(0, (Pd.rep (En.slice En.Smade_int_search) l_)), (1, (Pd.rep (En.int .i64) i11)), (5, (Pd.row (En.int .u8) s0.w.heap.size 5 og13 out12))] ∧ search_word_int.l1 l_ (search_word_int.j1 r_) k15 i11 out12) k14 ⟨i_, ([] : (List Int)), none, hL.keep (.cons (t := 0) rfl (fun _ h_ => h_.elim) (.cons (t := 1) rfl (fun _ h_ => h_.elim) (.cons (t := 5) rfl (fun _ _ h_ => h_) .nil))), h⟩ ?_
  rintro k15 a s ⟨i11, out12, og13, hL, h⟩ KL16 hKL16
  cases k15 with
  | zero => exact h.elim
  | succ k15 =>
  unfold search_word_int.l1 at h
  refine wp_seq_k fun K17 hK17 => ?_
  refine wp_seq_k fun K18 hK18 => ?_
  obtain ⟨e19, h20, h⟩ := h
  refine rg ?_
  refine st 6 (t_move (o_t 0 rfl) rfl rfl) rfl rfl hL fun a s e_ hL => ?_
  refine st 7 (t_move (o_t 1 rfl) rfl rfl) rfl rfl hL fun a s e_ hL => ?_
  refine st 8 (t_idx (o_t 6 rfl) (o_t 7 rfl) h20 Tryd.underlying115 ty114 rfl rfl) rfl rfl hL fun a s e_ hL => ?_
  refine st 9 (t_fa (off := 1) (o_t 8 rfl) Tryd.underlying114 rfl (prt_snd (prt_fst (prt_all _ _)) rfl) rfl ty3 rfl rfl) rfl rfl hL fun a s e_ hL => ?_
  refine st 10 (t_load ty3 (o_t 9 rfl) rfl rfl) rfl rfl hL fun a s e_ hL => ?_
  refine st 11 (t_geq (o_t 10 rfl) (o_i (by decide)) rfl rfl) rfl rfl hL fun a s e_ hL => ?_
  refine en' ?_
  show K18 a s.w
  refine hK18 _ _ ?_
  refine cnd hL rfl (fun hb_ => ?_) (fun hb_ => ?_)
  · replace h := h.1 hb_
    refine wp_skip ?_
    show K17 a s.w
    refine hK17 _ _ ?_
    refine wp_seq_k fun K21 hK21 => ?_
    refine wp_block ?_
    obtain ⟨e22, h23, h24, h⟩ := h
    refine rg ?_
    refine st 17 (t_move (o_t 5 rfl) rfl rfl) rfl rfl hL fun a s e_ hL => ?_
    refine st 18 (t_move (o_t 0 rfl) rfl rfl) rfl rfl hL fun a s e_ hL => ?_
    refine st 19 (t_move (o_t 1 rfl) rfl rfl) rfl rfl hL fun a s e_ hL => ?_
    refine st 20 (t_idx (o_t 18 rfl) (o_t 19 rfl) h23 Tryd.underlying115 ty114 rfl rfl) rfl rfl hL fun a s e_ hL => ?_
    refine st 21 (t_fa (off := 2) (o_t 20 rfl) Tryd.underlying114 rfl (prt_snd (prt_snd (prt_all _ _) rfl) rfl) rfl ty5 rfl rfl) rfl rfl hL fun a s e_ hL => ?_
    refine st 22 (t_load ty5 (o_t 21 rfl) rfl rfl) rfl rfl hL fun a s e_ hL => ?_
    refine st 23 (t_lit (xs := [.tmp 22]) (.cons (o_t 22 rfl) .nil) Tryd.underlying51 ty5 rfl rfl (by decide) rfl rfl) rfl rfl hL fun a s e_ hL => ?_
    refine st_app (L' := [(0, (Pd.rep (En.slice En.Smade_int_search) l_)), (1, (Pd.rep (En.int .i64) i11))]) 24 hL (o_t 17 rfl) (o_t 23 rfl) Tryd.underlying51 ty5 h24 rfl rfl rfl rfl (.cons (t := 0) rfl (fun _ h_ => h_.elim) (.cons (t := 1) rfl (fun _ h_ => h_.elim) .nil)) fun a s og25 hg_ hL => ?_
    refine st 5 (t_assign (o_t 24 rfl) rfl rfl) rfl rfl hL fun a s e_ hL => ?_
    refine en' ?_
    show K21 a s.w
    refine hK21 _ _ ?_
    obtain ⟨e26, h27, h⟩ := h
    refine rg ?_
    refine st 12 (t_move (o_t 0 rfl) rfl rfl) rfl rfl hL fun a s e_ hL => ?_
    refine st 13 (t_move (o_t 1 rfl) rfl rfl) rfl rfl hL fun a s e_ hL => ?_
    refine st 14 (t_idx (o_t 12 rfl) (o_t 13 rfl) h27 Tryd.underlying115 ty114 rfl rfl) rfl rfl hL fun a s e_ hL => ?_
    refine st 15 (t_fa (off := 1) (o_t 14 rfl) Tryd.underlying114 rfl (prt_snd (prt_fst (prt_all _ _)) rfl) rfl ty3 rfl rfl) rfl rfl hL fun a s e_ hL => ?_
    refine st 16 (t_load ty3 (o_t 15 rfl) rfl rfl) rfl rfl hL fun a s e_ hL => ?_
    refine st 1 (t_assign (o_t 16 rfl) rfl rfl) rfl rfl hL fun a s e_ hL => ?_
    refine en' ?_
    exact hKL16 k15 a s (Nat.lt_succ_self _) ⟨e26.2.1, (out12 ++ [e22.2.2]), og25, hL.keep (.cons (t := 0) rfl (fun _ h_ => h_.elim) (.cons (t := 1) rfl (fun _ h_ => h_.elim) (.cons (t := 5) rfl (fun _ _ h_ => h_) .nil))), h⟩
  · replace h := h.2 hb_
    refine wp_exit ?_
    exact J6 out12 og13 a s (hL.keep (.cons (t := 5) rfl (fun _ _ h_ => h_) .nil)) h

theorem search_Space_int_Walk_ok {s_ : SSpace_int_search} {budget_ : Int} {r_ : SFound_int_search} (h : search_Space_int_Walk s_ budget_ r_) : Fn Tryd.prog 56 [(Pd.rep En.SSpace_int_search s_), (Pd.rep (En.int .i64) budget_)] (Rq (Pd.rep En.SFound_int_search r_)) := by
  unfold search_Space_int_Walk at h
  refine fn_of Tryd.func56 rfl Tryd.ntmps56 (by rfl) (by simp) fun s0 a hL => ?_
  refine wp_seq_k fun K1 hK1 => ?_
  refine rg ?_
  refine st 2 (t_box (o_t 0 rfl) rfl rfl) rfl rfl hL fun a s e_ hL => ?_
  refine st_alloc En.SFound_int_search (z := ((0, [], [], 0, 0, 0, 0), 0)) 4 hL tyz97 rfl rfl rfl rfl fun a s g2 hg_ hL => ?_
  refine en' ?_
  show K1 a s.w
  refine hK1 _ _ ?_
  refine wp_seq_k fun K3 hK3 => ?_
  refine rg ?_
  refine st 12 (t_fa (off := 0) (o_t 2 rfl) Tryd.underlying101 rfl (prt_fst (prt_all _ _)) rfl ty3 rfl rfl) rfl rfl hL fun a s e_ hL => ?_
  refine st 13 (t_load ty3 (o_t 12 rfl) rfl rfl) rfl rfl hL fun a s e_ hL => ?_
  refine st 14 (t_build (x := (s_.1, (-1), 0)) (ps := [(0, .tmp 13), (1, .const (.int .i64 (-1))), (2, .const (.int .u8 0))]) tyz114 rfl stt114 (.cons (i := 0) (o_t 13 rfl) rfl (sub_fst (sub_all _ _ _)) (.cons (i := 1) (o_i (by decide)) rfl (sub_snd (sub_fst (sub_all _ _ _)) rfl) (.cons (i := 2) (o_i (by decide)) rfl (sub_snd (sub_snd (sub_all _ _ _) rfl) rfl) .nil))) rfl rfl) rfl rfl hL fun a s e_ hL => ?_
  have lt_d5 := hL.blt 4 rfl
  refine st_lito (xs := [.tmp 14]) 15 hL (.cons (o_t 14 rfl) .nil) Tryd.underlying115 ty114 rfl rfl (by decide) rfl rfl rfl rfl fun a s g4 hg_ hL => ?_
  have d5 : Dis (some g4) (some g2) := Dis.newg hg_ lt_d5
  refine st 5 (t_assign (o_t 15 rfl) rfl rfl) rfl rfl hL fun a s e_ hL => ?_
  refine en' ?_
  show K3 a s.w
  refine hK3 _ _ ?_
  refine wp_seq_k fun K6 hK6 => ?_
  obtain ⟨r10, h11, h⟩ := h
  refine rg ?_
  have lt_d9 := hL.rlt 15 rfl
  have lt_d8 := hL.blt 4 rfl
  refine st_mkmap 16 En.str kvStr En.bool hL rfl rfl rfl rfl fun a s g7 hg_ hL => ?_
  have d8 : Dis (some g7) (some g2) := Dis.newg hg_ lt_d8
  have d9 : Dis (some g7) (some g4) := Dis.newg hg_ lt_d9
  refine st 17 (t_fa (off := 1) (o_t 2 rfl) Tryd.underlying101 rfl (prt_snd (prt_fst (prt_all _ _)) rfl) rfl ty88 rfl rfl) rfl rfl hL fun a s e_ hL => ?_
  refine st 18 (t_load ty88 (o_t 17 rfl) rfl rfl) rfl rfl hL fun a s e_ hL => ?_
  refine st 19 (t_fa (off := 0) (o_t 2 rfl) Tryd.underlying101 rfl (prt_fst (prt_all _ _)) rfl ty3 rfl rfl) rfl rfl hL fun a s e_ hL => ?_
  refine st 20 (t_load ty3 (o_t 19 rfl) rfl rfl) rfl rfl hL fun a s e_ hL => ?_
  refine st 21 (t_callf (q := (s_.1, r10)) (o_t 18 rfl) h11 (xs := [.tmp 20]) (.cons (o_t 20 rfl) .nil) (fun _ _ _ h_ => h_) rfl rfl) rfl rfl hL fun a s e_ hL => ?_
  refine st_mputC (L' := [(1, (Pd.rep (En.int .i64) budget_)), (2, (Pd.ptr En.SSpace_int_search s_)), (4, (Pd.box En.SFound_int_search s0.w.heap.size g2 ((0, [], [], 0, 0, 0, 0), 0))), (5, (Pd.row En.Smade_int_search s0.w.heap.size 114 (some g4) [(s_.1, (-1), 0)])), (16, (Pd.map En.str kvStr En.bool s0.w.heap.size (some g7) (mput ([] : (List (Str × Bool))) r10 true)))]) hL (o_t 16 rfl) (o_t 21 rfl) o_b Tryd.underlying116 (key_str Tryd.underlying9) (.inr rfl) rfl rfl (.cons (t := 1) rfl (fun _ h_ => h_.elim) (.cons (t := 2) rfl (fun _ h_ => h_.elim) (.cons (t := 4) rfl (Dis.bx (Dis.symm d8)) (.cons (t := 5) rfl (Dis.ow (Dis.symm d9)) (.turn (t := 16) rfl .nil))))) fun s hL => ?_
  refine st 22 (t_move (o_t 16 rfl) rfl rfl) rfl rfl hL fun a s e_ hL => ?_
  refine st 6 (t_assign (o_t 22 rfl) rfl rfl) rfl rfl hL fun a s e_ hL => ?_
  refine en' ?_
  show K6 a s.w
  refine hK6 _ _ ?_
  refine wp_seq_k fun K12 hK12 => ?_
  refine wp_seq_k fun K13 hK13 => ?_
  refine rg ?_
  refine st 7 (t_assign (o_i (by decide)) rfl rfl) rfl rfl hL fun a s e_ hL => ?_
  refine en' ?_
  show K13 a s.w
  refine hK13 _ _ ?_
  refine wp_block ?_
  have J17 : ∀ (v14 : SFound_int_search) (list15 : (List Smade_int_search)) (og16 : Option Nat) (a : Act) (s : St), Has N0 87 s0 a s [(4, (Pd.box En.SFound_int_search s0.w.heap.size g2 v14)), (5, (Pd.row En.Smade_int_search s0.w.heap.size 114 og16 list15))] → Dis (some g2) og16 → ((search_Space_int_Walk.j1 r_) v14 list15) → K12 a s.w := by
    intro v14 list15 og16 a s hL d18 h
    unfold search_Space_int_Walk.j1 at h
    show K12 a s.w
    refine hK12 _ _ ?_
    refine wp_seq_k fun K19 hK19 => ?_
    refine rg ?_
    refine st 83 (t_move (o_t 5 rfl) rfl rfl) rfl rfl hL fun a s e_ hL => ?_
    refine st 84 (t_leno (o_t 83 rfl) Tryd.underlying115 rfl rfl) rfl rfl hL fun a s e_ hL => ?_
    refine st 85 (t_build (x := (1, [], [], 0, 0, 0, (list15.length : Int))) (ps := [(0, .const (.int .i64 1)), (6, .tmp 84)]) tyz57 rfl stt57 (.cons (i := 0) (o_i (by decide)) rfl (sub_fst (sub_all _ _ _)) (.cons (i := 6) (o_t 84 rfl) rfl (sub_snd (sub_snd (sub_snd (sub_snd (sub_snd (sub_snd (sub_all _ _ _) rfl) rfl) rfl) rfl) rfl) rfl) .nil)) rfl rfl) rfl rfl hL fun a s e_ hL => ?_
    refine st 86 (t_build (x := ((1, [], [], 0, 0, 0, (list15.length : Int)), 0)) (ps := [(0, .tmp 85)]) tyz97 rfl stt97 (.cons (i := 0) (o_t 85 rfl) rfl (sub_fst (sub_all _ _ _)) .nil) rfl rfl) rfl rfl hL fun a s e_ hL => ?_
    refine st_stb (L' := []) 4 hL rfl (o_t 86 rfl) ty97 rfl rfl rfl .nil fun s hL => ?_
    refine en' ?_
    show K19 a s.w
    refine hK19 _ _ ?_
    subst h
    exact wp_ret (retb rfl ty97 hL rfl)
  obtain ⟨k26, h⟩ := h
  refine lpg (fun k27 a s => ∃ (v20 : SFound_int_search) (list21 : (List Smade_int_search)) (seen23 : (List (Str × Bool))) (i25 : Int) (og22 : Option Nat) (og24 : Option Nat), Has N0 87 s0 a s [(1, (Pd.rep (En.int .i64) budget_)), (2, (Pd.ptr En.SSpace_int_search s_)), (4, (Pd.box En.SFound_int_search s0.w.heap.size g2 v20)), (5, (Pd.row En.Smade_int_search s0.w.heap.size 114 og22 list21)), (6, (Pd.map En.str kvStr En.bool s0.w.heap.size og24 seen23)), (7, (Pd.rep (En.int .i64) i25))] ∧ Dis (some g2) og22 ∧ Dis (some g2) og24 ∧ Dis og22 og24 ∧ search_Space_int_Walk.l1 s_ budget_ r_ (search_Space_int_Walk.j1 r_) k27 v20 list21 seen23 i25) k26 ⟨((0, [], [], 0, 0, 0, 0), 0), [(s_.1, (-1), 0)], (mput ([] : (List (Str × Bool))) r10 true), 0, (some g4), (some g7), hL.keep (.cons (t := 1) rfl (fun _ h_ => h_.elim) (.cons (t := 2) rfl (fun _ h_ => h_.elim) (.cons (t := 4) rfl (fun _ _ h_ => h_) (.cons (t := 5) rfl (fun _ _ h_ => h_) (.cons (t := 6) rfl (fun _ _ h_ => h_) (.cons (t := 7) rfl (fun _ h_ => h_.elim) .nil)))))), (Dis.symm d5), (Dis.symm d8), (Dis.symm d9), h⟩ ?_
  rintro k27 a s ⟨v20, list21, seen23, i25, og22, og24, hL, d29, d30, d31, h⟩ KL28 hKL28
  cases k27 with
  | zero => exact h.elim
  | succ k27 =>
  unfold search_Space_int_Walk.l1 at h
  refine wp_seq_k fun K32 hK32 => ?_
  refine wp_seq_k fun K33 hK33 => ?_
  refine rg ?_
  refine st 23 (t_move (o_t 7 rfl) rfl rfl) rfl rfl hL fun a s e_ hL => ?_
  refine st 24 (t_move (o_t 5 rfl) rfl rfl) rfl rfl hL fun a s e_ hL => ?_
  refine st 25 (t_leno (o_t 24 rfl) Tryd.underlying115 rfl rfl) rfl rfl hL fun a s e_ hL => ?_
  refine st 26 (t_lss (o_t 23 rfl) (o_t 25 rfl) rfl rfl) rfl rfl hL fun a s e_ hL => ?_
  refine en' ?_
  show K33 a s.w
  refine hK33 _ _ ?_
  refine cnd hL rfl (fun hb_ => ?_) (fun hb_ => ?_)
  · replace h := h.1 hb_
    refine wp_skip ?_
    show K32 a s.w
    refine hK32 _ _ ?_
    refine wp_seq_k fun K34 hK34 => ?_
    refine wp_block ?_
    refine wp_seq_k fun K35 hK35 => ?_
    refine wp_seq_k fun K36 hK36 => ?_
    refine rg ?_
    refine st 29 (t_move (o_t 7 rfl) rfl rfl) rfl rfl hL fun a s e_ hL => ?_
    refine st 30 (t_move (o_t 1 rfl) rfl rfl) rfl rfl hL fun a s e_ hL => ?_
    refine st 31 (t_geq (o_t 29 rfl) (o_t 30 rfl) rfl rfl) rfl rfl hL fun a s e_ hL => ?_
    refine en' ?_
    show K36 a s.w
    refine hK36 _ _ ?_
    refine cnd hL rfl (fun hb_ => ?_) (fun hb_ => ?_)
    · replace h := h.1 hb_
      refine wp_seq_k fun K37 hK37 => ?_
      refine rg ?_
      refine st 32 (t_move (o_t 1 rfl) rfl rfl) rfl rfl hL fun a s e_ hL => ?_
      refine st 33 (t_max (o_t 32 rfl) (o_i (by decide)) rfl rfl) rfl rfl hL fun a s e_ hL => ?_
      refine st 34 (t_build (x := (3, [], [], 0, 0, 0, (max budget_ 0))) (ps := [(0, .const (.int .i64 3)), (6, .tmp 33)]) tyz57 rfl stt57 (.cons (i := 0) (o_i (by decide)) rfl (sub_fst (sub_all _ _ _)) (.cons (i := 6) (o_t 33 rfl) rfl (sub_snd (sub_snd (sub_snd (sub_snd (sub_snd (sub_snd (sub_all _ _ _) rfl) rfl) rfl) rfl) rfl) rfl) .nil)) rfl rfl) rfl rfl hL fun a s e_ hL => ?_
      refine st 35 (t_build (x := ((3, [], [], 0, 0, 0, (max budget_ 0)), 0)) (ps := [(0, .tmp 34)]) tyz97 rfl stt97 (.cons (i := 0) (o_t 34 rfl) rfl (sub_fst (sub_all _ _ _)) .nil) rfl rfl) rfl rfl hL fun a s e_ hL => ?_
      refine st_stb (L' := []) 4 hL rfl (o_t 35 rfl) ty97 rfl rfl rfl .nil fun s hL => ?_
      refine en' ?_
      show K37 a s.w
      refine hK37 _ _ ?_
      subst h
      exact wp_ret (retb rfl ty97 hL rfl)
    · replace h := h.2 hb_
      refine wp_skip ?_
      show K35 a s.w
      refine hK35 _ _ ?_
      refine wp_seq_k fun K38 hK38 => ?_
      obtain ⟨e39, h40, h⟩ := h
      refine rg ?_
      refine st 36 (t_move (o_t 5 rfl) rfl rfl) rfl rfl hL fun a s e_ hL => ?_
      refine st 37 (t_move (o_t 7 rfl) rfl rfl) rfl rfl hL fun a s e_ hL => ?_
      refine st 38 (t_idxo (o_t 36 rfl) (o_t 37 rfl) h40 Tryd.underlying115 ty114 rfl rfl) rfl rfl hL fun a s e_ hL => ?_
      refine st 39 (t_fao (off := 0) (o_t 38 rfl) Tryd.underlying114 rfl (prt_fst (prt_all _ _)) rfl ty3 rfl rfl) rfl rfl hL fun a s e_ hL => ?_
      refine st 40 (t_loado ty3 (o_t 39 rfl) rfl rfl) rfl rfl hL fun a s e_ hL => ?_
      refine st 8 (t_assign (o_t 40 rfl) rfl rfl) rfl rfl hL fun a s e_ hL => ?_
      refine en' ?_
      show K38 a s.w
      refine hK38 _ _ ?_
      refine wp_seq_k fun K41 hK41 => ?_
      refine wp_seq_k fun K42 hK42 => ?_
      obtain ⟨r43, h44, h⟩ := h
      refine rg ?_
      refine st 41 (t_fa (off := 3) (o_t 2 rfl) Tryd.underlying101 rfl (prt_snd (prt_snd (prt_snd (prt_all _ _) rfl) rfl) rfl) rfl ty99 rfl rfl) rfl rfl hL fun a s e_ hL => ?_
      refine st 42 (t_load ty99 (o_t 41 rfl) rfl rfl) rfl rfl hL fun a s e_ hL => ?_
      refine st 43 (t_move (o_t 8 rfl) rfl rfl) rfl rfl hL fun a s e_ hL => ?_
      refine st 44 (t_callf (q := (e39.1, r43)) (o_t 42 rfl) h44 (xs := [.tmp 43]) (.cons (o_t 43 rfl) .nil) (fun _ _ _ h_ => h_) rfl rfl) rfl rfl hL fun a s e_ hL => ?_
      refine en' ?_
      show K42 a s.w
      refine hK42 _ _ ?_
      refine cnd hL rfl (fun hb_ => ?_) (fun hb_ => ?_)
      · replace h := h.1 hb_
        refine wp_seq_k fun K45 hK45 => ?_
        obtain ⟨s47, h46, hL⟩ := hL.freeze (L' := [(4, (Pd.box En.SFound_int_search s0.w.heap.size g2 v20)), (7, (Pd.rep (En.int .i64) i25)), (8, (Pd.rep (En.int .i64) e39.1))]) 5 rfl (.cons (t := 4) rfl (Dis.bx d29) (.cons (t := 7) rfl (fun _ h_ => h_.elim) (.cons (t := 8) rfl (fun _ h_ => h_.elim) .nil)))
        rw [← h46]
        clear h46
        generalize s47 = s at *
        obtain ⟨r48, h49, h50, h⟩ := h
        refine rg ?_
        refine st 45 (t_move (o_t 5 rfl) rfl rfl) rfl rfl hL fun a s e_ hL => ?_
        refine st 46 (t_move (o_t 7 rfl) rfl rfl) rfl rfl hL fun a s e_ hL => ?_
        refine st 47 (t_call ((search_word_int_ok h49).frz) (xs := [.tmp 45, .tmp 46]) (.cons (o_t 45 rfl) (.cons (o_t 46 rfl) .nil)) rfl rfl) rfl rfl hL fun a s e_ hL => ?_
        refine st 48 (t_move (o_t 7 rfl) rfl rfl) rfl rfl hL fun a s e_ hL => ?_
        refine st 49 (t_add (o_t 48 rfl) (o_i (by decide)) h50 rfl rfl) rfl rfl hL fun a s e_ hL => ?_
        refine st 50 (t_build (x := (2, r48, [], 0, 0, 0, i25 + 1)) (ps := [(0, .const (.int .i64 2)), (1, .tmp 47), (6, .tmp 49)]) tyz57 rfl stt57 (.cons (i := 0) (o_i (by decide)) rfl (sub_fst (sub_all _ _ _)) (.cons (i := 1) (o_t 47 rfl) rfl (sub_snd (sub_fst (sub_all _ _ _)) rfl) (.cons (i := 6) (o_t 49 rfl) rfl (sub_snd (sub_snd (sub_snd (sub_snd (sub_snd (sub_snd (sub_all _ _ _) rfl) rfl) rfl) rfl) rfl) rfl) .nil))) rfl rfl) rfl rfl hL fun a s e_ hL => ?_
        refine st 51 (t_move (o_t 8 rfl) rfl rfl) rfl rfl hL fun a s e_ hL => ?_
        refine st 52 (t_build (x := ((2, r48, [], 0, 0, 0, i25 + 1), e39.1)) (ps := [(0, .tmp 50), (1, .tmp 51)]) tyz97 rfl stt97 (.cons (i := 0) (o_t 50 rfl) rfl (sub_fst (sub_all _ _ _)) (.cons (i := 1) (o_t 51 rfl) rfl (sub_snd (sub_all _ _ _) rfl) .nil)) rfl rfl) rfl rfl hL fun a s e_ hL => ?_
        refine st_stb (L' := []) 4 hL rfl (o_t 52 rfl) ty97 rfl rfl rfl .nil fun s hL => ?_
        refine en' ?_
        show K45 a s.w
        refine hK45 _ _ ?_
        subst h
        exact wp_ret (retb rfl ty97 hL rfl)
      · replace h := h.2 hb_
        refine wp_skip ?_
        show K41 a s.w
        refine hK41 _ _ ?_
        refine wp_seq_k fun K51 hK51 => ?_
        obtain ⟨r52, h53, h⟩ := h
        refine rg ?_
        refine st 53 (t_fa (off := 2) (o_t 2 rfl) Tryd.underlying101 rfl (prt_snd (prt_snd (prt_fst (prt_all _ _)) rfl) rfl) rfl ty98 rfl rfl) rfl rfl hL fun a s e_ hL => ?_
        refine st 54 (t_load ty98 (o_t 53 rfl) rfl rfl) rfl rfl hL fun a s e_ hL => ?_
        refine st 55 (t_move (o_t 8 rfl) rfl rfl) rfl rfl hL fun a s e_ hL => ?_
        refine st 56 (t_callf (q := (e39.1, r52)) (o_t 54 rfl) h53 (xs := [.tmp 55]) (.cons (o_t 55 rfl) .nil) (fun _ _ _ h_ => h_) rfl rfl) rfl rfl hL fun a s e_ hL => ?_
        refine st 57 (t_len (o_t 56 rfl) Tryd.underlying111 rfl rfl) rfl rfl hL fun a s e_ hL => ?_
        refine st 58 (t_move (o_i (by decide)) rfl rfl) rfl rfl hL fun a s e_ hL => ?_
        refine en' ?_
        show K51 a s.w
        refine hK51 _ _ ?_
        refine wp_block ?_
        have J58 : ∀ (list54 : (List Smade_int_search)) (seen56 : (List (Str × Bool))) (og55 : Option Nat) (og57 : Option Nat) (a : Act) (s : St), Has N0 87 s0 a s [(1, (Pd.rep (En.int .i64) budget_)), (2, (Pd.ptr En.SSpace_int_search s_)), (4, (Pd.box En.SFound_int_search s0.w.heap.size g2 v20)), (5, (Pd.row En.Smade_int_search s0.w.heap.size 114 og55 list54)), (6, (Pd.map En.str kvStr En.bool s0.w.heap.size og57 seen56)), (7, (Pd.rep (En.int .i64) i25))] → Dis (some g2) og55 → Dis (some g2) og57 → Dis og55 og57 → ((search_Space_int_Walk.j2 (search_Space_int_Walk.l1 s_ budget_ r_ (search_Space_int_Walk.j1 r_) k27) v20 i25) list54 seen56) → K34 a s.w := by
          intro list54 seen56 og55 og57 a s hL d59 d60 d61 h
          unfold search_Space_int_Walk.j2 at h
          show K34 a s.w
          refine hK34 _ _ ?_
          obtain ⟨h62, h⟩ := h
          refine rg ?_
          refine st 27 (t_move (o_t 7 rfl) rfl rfl) rfl rfl hL fun a s e_ hL => ?_
          refine st 28 (t_add (o_t 27 rfl) (o_i (by decide)) h62 rfl rfl) rfl rfl hL fun a s e_ hL => ?_
          refine st 7 (t_assign (o_t 28 rfl) rfl rfl) rfl rfl hL fun a s e_ hL => ?_
          refine en' ?_
          exact hKL28 k27 a s (Nat.lt_succ_self _) ⟨v20, list54, seen56, (i25 + 1), og55, og57, hL.keep (.cons (t := 1) rfl (fun _ h_ => h_.elim) (.cons (t := 2) rfl (fun _ h_ => h_.elim) (.cons (t := 4) rfl (fun _ _ h_ => h_) (.cons (t := 5) rfl (fun _ _ h_ => h_) (.cons (t := 6) rfl (fun _ _ h_ => h_) (.cons (t := 7) rfl (fun _ h_ => h_.elim) .nil)))))), d59, d60, d61, h⟩
        obtain ⟨k68, h⟩ := h
        refine lpg (fun k69 a s => ∃ (list63 : (List Smade_int_search)) (seen65 : (List (Str × Bool))) (v67 : Int) (og64 : Option Nat) (og66 : Option Nat), Has N0 87 s0 a s [(1, (Pd.rep (En.int .i64) budget_)), (2, (Pd.ptr En.SSpace_int_search s_)), (4, (Pd.box En.SFound_int_search s0.w.heap.size g2 v20)), (5, (Pd.row En.Smade_int_search s0.w.heap.size 114 og64 list63)), (6, (Pd.map En.str kvStr En.bool s0.w.heap.size og66 seen65)), (7, (Pd.rep (En.int .i64) i25)), (56, (Pd.rep (En.slice En.SOn_int_search) r52)), (57, (Pd.rep (En.int .i64) (r52.length : Int))), (58, (Pd.rep (En.int .i64) v67))] ∧ Dis (some g2) og64 ∧ Dis (some g2) og66 ∧ Dis og64 og66 ∧ search_Space_int_Walk.l2 s_ i25 r52 (search_Space_int_Walk.j2 (search_Space_int_Walk.l1 s_ budget_ r_ (search_Space_int_Walk.j1 r_) k27) v20 i25) k69 list63 seen65 v67) k68 ⟨list21, seen23, 0, og22, og24, hL.keep (.cons (t := 1) rfl (fun _ h_ => h_.elim) (.cons (t := 2) rfl (fun _ h_ => h_.elim) (.cons (t := 4) rfl (fun _ _ h_ => h_) (.cons (t := 5) rfl (fun _ _ h_ => h_) (.cons (t := 6) rfl (fun _ _ h_ => h_) (.cons (t := 7) rfl (fun _ h_ => h_.elim) (.cons (t := 56) rfl (fun _ h_ => h_.elim) (.cons (t := 57) rfl (fun _ h_ => h_.elim) (.cons (t := 58) rfl (fun _ h_ => h_.elim) .nil))))))))), d29, d30, d31, h⟩ ?_
        rintro k69 a s ⟨list63, seen65, v67, og64, og66, hL, d71, d72, d73, h⟩ KL70 hKL70
        cases k69 with
        | zero => exact h.elim
        | succ k69 =>
        unfold search_Space_int_Walk.l2 at h
        refine wp_seq_k fun K74 hK74 => ?_
        refine rg ?_
        refine st 59 (t_lss (o_t 58 rfl) (o_t 57 rfl) rfl rfl) rfl rfl hL fun a s e_ hL => ?_
        refine en' ?_
        show K74 a s.w
        refine hK74 _ _ ?_
        refine wp_seq_k fun K75 hK75 => ?_
        refine cnd hL rfl (fun hb_ => ?_) (fun hb_ => ?_)
        · replace h := h.1 hb_
          refine wp_skip ?_
          show K75 a s.w
          refine hK75 _ _ ?_
          refine wp_seq_k fun K76 hK76 => ?_
          refine wp_block ?_
          refine wp_seq_k fun K77 hK77 => ?_
          obtain ⟨e78, h79, h⟩ := h
          refine rg ?_
          refine st 60 (t_idx (o_t 56 rfl) (o_t 58 rfl) h79 Tryd.underlying111 ty112 rfl rfl) rfl rfl hL fun a s e_ hL => ?_
          refine st 61 (t_load ty112 (o_t 60 rfl) rfl rfl) rfl rfl hL fun a s e_ hL => ?_
          have lt_d83 := hL.mlt 6 rfl
          have lt_d82 := hL.rlt 5 rfl
          have lt_d81 := hL.blt 4 rfl
          refine st_alloc En.SOn_int_search (z := (0, 0)) 10 hL tyz112 rfl rfl rfl rfl fun a s g80 hg_ hL => ?_
          have d81 : Dis (some g80) (some g2) := Dis.newg hg_ lt_d81
          have d82 : Dis (some g80) og64 := Dis.newg hg_ lt_d82
          have d83 : Dis (some g80) og66 := Dis.newg hg_ lt_d83
          refine st_stb (L' := [(1, (Pd.rep (En.int .i64) budget_)), (2, (Pd.ptr En.SSpace_int_search s_)), (4, (Pd.box En.SFound_int_search s0.w.heap.size g2 v20)), (5, (Pd.row En.Smade_int_search s0.w.heap.size 114 og64 list63)), (6, (Pd.map En.str kvStr En.bool s0.w.heap.size og66 seen65)), (7, (Pd.rep (En.int .i64) i25)), (56, (Pd.rep (En.slice En.SOn_int_search) r52)), (57, (Pd.rep (En.int .i64) (r52.length : Int))), (58, (Pd.rep (En.int .i64) v67))]) 10 hL rfl (o_t 61 rfl) ty112 rfl rfl rfl (.cons (t := 1) rfl (fun _ h_ => h_.elim) (.cons (t := 2) rfl (fun _ h_ => h_.elim) (.cons (t := 4) rfl (Dis.bx (Dis.symm d81)) (.cons (t := 5) rfl (Dis.ow (Dis.symm d82)) (.cons (t := 6) rfl (Dis.ow (Dis.symm d83)) (.cons (t := 7) rfl (fun _ h_ => h_.elim) (.cons (t := 56) rfl (fun _ h_ => h_.elim) (.cons (t := 57) rfl (fun _ h_ => h_.elim) (.cons (t := 58) rfl (fun _ h_ => h_.elim) .nil))))))))) fun s hL => ?_
          refine en' ?_
          show K77 a s.w
          refine hK77 _ _ ?_
          refine wp_seq_k fun K84 hK84 => ?_
          obtain ⟨r85, h86, h⟩ := h
          refine rg ?_
          refine st 62 (t_fa (off := 1) (o_t 2 rfl) Tryd.underlying101 rfl (prt_snd (prt_fst (prt_all _ _)) rfl) rfl ty88 rfl rfl) rfl rfl hL fun a s e_ hL => ?_
          refine st 63 (t_load ty88 (o_t 62 rfl) rfl rfl) rfl rfl hL fun a s e_ hL => ?_
          refine st 64 (t_fab (off := 1) (o_t 10 rfl) Tryd.underlying112 rfl (prt_snd (prt_all _ _) rfl) rfl ty3 rfl rfl) rfl rfl hL fun a s e_ hL => ?_
          refine st 65 (t_loado ty3 (o_t 64 rfl) rfl rfl) rfl rfl hL fun a s e_ hL => ?_
          refine st 66 (t_callf (q := (e78.2, r85)) (o_t 63 rfl) h86 (xs := [.tmp 65]) (.cons (o_t 65 rfl) .nil) (fun _ _ _ h_ => h_) rfl rfl) rfl rfl hL fun a s e_ hL => ?_
          refine st 11 (t_assign (o_t 66 rfl) rfl rfl) rfl rfl hL fun a s e_ hL => ?_
          refine en' ?_
          show K84 a s.w
          refine hK84 _ _ ?_
          refine wp_seq_k fun K87 hK87 => ?_
          refine rg ?_
          refine st 67 (t_move (o_t 6 rfl) rfl rfl) rfl rfl hL fun a s e_ hL => ?_
          refine st 68 (t_move (o_t 11 rfl) rfl rfl) rfl rfl hL fun a s e_ hL => ?_
          refine st 69 (t_mget (o_t 67 rfl) (o_t 68 rfl) Tryd.underlying116 (key_str Tryd.underlying9) tyv4 rfl rfl) rfl rfl hL fun a s e_ hL => ?_
          refine st 70 (t_not (o_t 69 rfl) rfl rfl) rfl rfl hL fun a s e_ hL => ?_
          refine en' ?_
          show K87 a s.w
          refine hK87 _ _ ?_
          refine cnd hL rfl (fun hb_ => ?_) (fun hb_ => ?_)
          · replace h := h.1 hb_
            refine wp_seq_k fun K88 hK88 => ?_
            refine rg ?_
            refine st 71 (t_move (o_t 6 rfl) rfl rfl) rfl rfl hL fun a s e_ hL => ?_
            refine st 72 (t_move (o_t 11 rfl) rfl rfl) rfl rfl hL fun a s e_ hL => ?_
            refine st_mputC (L' := [(1, (Pd.rep (En.int .i64) budget_)), (2, (Pd.ptr En.SSpace_int_search s_)), (4, (Pd.box En.SFound_int_search s0.w.heap.size g2 v20)), (5, (Pd.row En.Smade_int_search s0.w.heap.size 114 og64 list63)), (6, (Pd.map En.str kvStr En.bool s0.w.heap.size og66 (mput seen65 r85 true))), (7, (Pd.rep (En.int .i64) i25)), (10, (Pd.box En.SOn_int_search s0.w.heap.size g80 e78)), (56, (Pd.rep (En.slice En.SOn_int_search) r52)), (57, (Pd.rep (En.int .i64) (r52.length : Int))), (58, (Pd.rep (En.int .i64) v67))]) hL (o_t 71 rfl) (o_t 72 rfl) o_b Tryd.underlying116 (key_str Tryd.underlying9) (.inl rfl) rfl rfl (.cons (t := 1) rfl (fun _ h_ => h_.elim) (.cons (t := 2) rfl (fun _ h_ => h_.elim) (.cons (t := 4) rfl (Dis.bx d72) (.cons (t := 5) rfl (Dis.ow d73) (.turn (t := 6) rfl (.cons (t := 7) rfl (fun _ h_ => h_.elim) (.cons (t := 10) rfl (Dis.bx d83) (.cons (t := 56) rfl (fun _ h_ => h_.elim) (.cons (t := 57) rfl (fun _ h_ => h_.elim) (.cons (t := 58) rfl (fun _ h_ => h_.elim) .nil)))))))))) fun s hL => ?_
            refine en' ?_
            show K88 a s.w
            refine hK88 _ _ ?_
            obtain ⟨h89, h⟩ := h
            refine rg ?_
            refine st 73 (t_move (o_t 5 rfl) rfl rfl) rfl rfl hL fun a s e_ hL => ?_
            refine st 74 (t_fab (off := 1) (o_t 10 rfl) Tryd.underlying112 rfl (prt_snd (prt_all _ _) rfl) rfl ty3 rfl rfl) rfl rfl hL fun a s e_ hL => ?_
            refine st 75 (t_loado ty3 (o_t 74 rfl) rfl rfl) rfl rfl hL fun a s e_ hL => ?_
            refine st 76 (t_move (o_t 7 rfl) rfl rfl) rfl rfl hL fun a s e_ hL => ?_
            refine st 77 (t_fab (off := 0) (o_t 10 rfl) Tryd.underlying112 rfl (prt_fst (prt_all _ _)) rfl ty5 rfl rfl) rfl rfl hL fun a s e_ hL => ?_
            refine st 78 (t_loado ty5 (o_t 77 rfl) rfl rfl) rfl rfl hL fun a s e_ hL => ?_
            refine st 79 (t_build (x := (e78.2, i25, e78.1)) (ps := [(0, .tmp 75), (1, .tmp 76), (2, .tmp 78)]) tyz114 rfl stt114 (.cons (i := 0) (o_t 75 rfl) rfl (sub_fst (sub_all _ _ _)) (.cons (i := 1) (o_t 76 rfl) rfl (sub_snd (sub_fst (sub_all _ _ _)) rfl) (.cons (i := 2) (o_t 78 rfl) rfl (sub_snd (sub_snd (sub_all _ _ _) rfl) rfl) .nil))) rfl rfl) rfl rfl hL fun a s e_ hL => ?_
            refine st 80 (t_lit (xs := [.tmp 79]) (.cons (o_t 79 rfl) .nil) Tryd.underlying115 ty114 rfl rfl (by decide) rfl rfl) rfl rfl hL fun a s e_ hL => ?_
            have lt_og90_0 := hL.blt 4 rfl
            have lt_og90_1 := hL.mlt 6 rfl
            refine st_app (L' := [(1, (Pd.rep (En.int .i64) budget_)), (2, (Pd.ptr En.SSpace_int_search s_)), (4, (Pd.box En.SFound_int_search s0.w.heap.size g2 v20)), (6, (Pd.map En.str kvStr En.bool s0.w.heap.size og66 (mput seen65 r85 true))), (7, (Pd.rep (En.int .i64) i25)), (56, (Pd.rep (En.slice En.SOn_int_search) r52)), (57, (Pd.rep (En.int .i64) (r52.length : Int))), (58, (Pd.rep (En.int .i64) v67))]) 81 hL (o_t 73 rfl) (o_t 80 rfl) Tryd.underlying115 ty114 h89 rfl rfl rfl rfl (.cons (t := 1) rfl (fun _ h_ => h_.elim) (.cons (t := 2) rfl (fun _ h_ => h_.elim) (.cons (t := 4) rfl (Dis.bx d71) (.cons (t := 6) rfl (Dis.ow (Dis.symm d73)) (.cons (t := 7) rfl (fun _ h_ => h_.elim) (.cons (t := 56) rfl (fun _ h_ => h_.elim) (.cons (t := 57) rfl (fun _ h_ => h_.elim) (.cons (t := 58) rfl (fun _ h_ => h_.elim) .nil)))))))) fun a s og90 hg_ hL => ?_
            have d91 : Dis og90 (some g2) := Dis.app hg_ (Dis.symm d71) lt_og90_0
            have d92 : Dis og90 og66 := Dis.app hg_ d73 lt_og90_1
            refine st 5 (t_assign (o_t 81 rfl) rfl rfl) rfl rfl hL fun a s e_ hL => ?_
            refine en' ?_
            show K76 a s.w
            refine hK76 _ _ ?_
            obtain ⟨h93, h⟩ := h
            refine rg ?_
            refine st 82 (t_add (o_t 58 rfl) (o_i (by decide)) h93 rfl rfl) rfl rfl hL fun a s e_ hL => ?_
            refine st 58 (t_move (o_t 82 rfl) rfl rfl) rfl rfl hL fun a s e_ hL => ?_
            refine en' ?_
            exact hKL70 k69 a s (Nat.lt_succ_self _) ⟨(list63 ++ [(e78.2, i25, e78.1)]), (mput seen65 r85 true), (v67 + 1), og90, og66, hL.keep (.cons (t := 1) rfl (fun _ h_ => h_.elim) (.cons (t := 2) rfl (fun _ h_ => h_.elim) (.cons (t := 4) rfl (fun _ _ h_ => h_) (.cons (t := 5) rfl (fun _ _ h_ => h_) (.cons (t := 6) rfl (fun _ _ h_ => h_) (.cons (t := 7) rfl (fun _ h_ => h_.elim) (.cons (t := 56) rfl (fun _ h_ => h_.elim) (.cons (t := 57) rfl (fun _ h_ => h_.elim) (.cons (t := 58) rfl (fun _ h_ => h_.elim) .nil))))))))), (Dis.symm d91), d72, d92, h⟩
          · replace h := h.2 hb_
            refine wp_skip ?_
            show K76 a s.w
            refine hK76 _ _ ?_
            obtain ⟨h94, h⟩ := h
            refine rg ?_
            refine st 82 (t_add (o_t 58 rfl) (o_i (by decide)) h94 rfl rfl) rfl rfl hL fun a s e_ hL => ?_
            refine st 58 (t_move (o_t 82 rfl) rfl rfl) rfl rfl hL fun a s e_ hL => ?_
            refine en' ?_
            exact hKL70 k69 a s (Nat.lt_succ_self _) ⟨list63, seen65, (v67 + 1), og64, og66, hL.keep (.cons (t := 1) rfl (fun _ h_ => h_.elim) (.cons (t := 2) rfl (fun _ h_ => h_.elim) (.cons (t := 4) rfl (fun _ _ h_ => h_) (.cons (t := 5) rfl (fun _ _ h_ => h_) (.cons (t := 6) rfl (fun _ _ h_ => h_) (.cons (t := 7) rfl (fun _ h_ => h_.elim) (.cons (t := 56) rfl (fun _ h_ => h_.elim) (.cons (t := 57) rfl (fun _ h_ => h_.elim) (.cons (t := 58) rfl (fun _ h_ => h_.elim) .nil))))))))), d71, d72, d73, h⟩
        · replace h := h.2 hb_
          refine wp_exit ?_
          exact J58 list63 seen65 og64 og66 a s (hL.keep (.cons (t := 1) rfl (fun _ h_ => h_.elim) (.cons (t := 2) rfl (fun _ h_ => h_.elim) (.cons (t := 4) rfl (fun _ _ h_ => h_) (.cons (t := 5) rfl (fun _ _ h_ => h_) (.cons (t := 6) rfl (fun _ _ h_ => h_) (.cons (t := 7) rfl (fun _ h_ => h_.elim) .nil))))))) d71 d72 d73 h
  · replace h := h.2 hb_
    refine wp_exit ?_
    exact J17 v20 list21 og22 a s (hL.keep (.cons (t := 4) rfl (fun _ _ h_ => h_) (.cons (t := 5) rfl (fun _ _ h_ => h_) .nil))) d29 h

theorem search_Space_int_Walk_g_ok {c_ : Nat} {s_ : SSpace_int_searchR} {budget_ : Int} {r_ : (SFound_int_search × (List Int))} (h : search_Space_int_Walk_g c_ s_ budget_ r_) : Fg Tryd.prog 56 c_ 3 [(Pd.rep En.SSpace_int_searchR s_), (Pd.rep (En.int .i64) budget_)] (fun s v => (Pd.rep En.SFound_int_search r_.1).p s v) r_.2 := by
  unfold search_Space_int_Walk_g at h
  refine fg_of Tryd.func56 rfl Tryd.ntmps56 (by rfl) (by simp) fun s0 a hL => ?_
  refine wp_seq_k fun K1 hK1 => ?_
  refine rg ?_
  refine st 2 (t_box (o_t 0 rfl) rfl rfl) rfl rfl hL fun a s e_ hL => ?_
  have lt_d3 := hL.gltc 999901 rfl
  refine st_alloc En.SFound_int_search (z := ((0, [], [], 0, 0, 0, 0), 0)) 4 hL tyz97 rfl rfl rfl rfl fun a s g2 hg_ hL => ?_
  have d3 : Dis (some g2) (some c_) := Dis.newg hg_ lt_d3
  refine en' ?_
  show K1 a s.w
  refine hK1 _ _ ?_
  refine wp_seq_k fun K4 hK4 => ?_
  refine rg ?_
  refine st 12 (t_fa (off := 0) (o_t 2 rfl) Tryd.underlying101 rfl (prt_fst (prt_all _ _)) rfl ty3 rfl rfl) rfl rfl hL fun a s e_ hL => ?_
  refine st 13 (t_load ty3 (o_t 12 rfl) rfl rfl) rfl rfl hL fun a s e_ hL => ?_
  refine st 14 (t_build (x := (s_.1, (-1), 0)) (ps := [(0, .tmp 13), (1, .const (.int .i64 (-1))), (2, .const (.int .u8 0))]) tyz114 rfl stt114 (.cons (i := 0) (o_t 13 rfl) rfl (sub_fst (sub_all _ _ _)) (.cons (i := 1) (o_i (by decide)) rfl (sub_snd (sub_fst (sub_all _ _ _)) rfl) (.cons (i := 2) (o_i (by decide)) rfl (sub_snd (sub_snd (sub_all _ _ _) rfl) rfl) .nil))) rfl rfl) rfl rfl hL fun a s e_ hL => ?_
  have lt_d7 := hL.blt 4 rfl
  have lt_d6 := hL.gltc 999901 rfl
  refine st_lito (xs := [.tmp 14]) 15 hL (.cons (o_t 14 rfl) .nil) Tryd.underlying115 ty114 rfl rfl (by decide) rfl rfl rfl rfl fun a s g5 hg_ hL => ?_
  have d6 : Dis (some g5) (some c_) := Dis.newg hg_ lt_d6
  have d7 : Dis (some g5) (some g2) := Dis.newg hg_ lt_d7
  refine st 5 (t_assign (o_t 15 rfl) rfl rfl) rfl rfl hL fun a s e_ hL => ?_
  refine en' ?_
  show K4 a s.w
  refine hK4 _ _ ?_
  refine wp_seq_k fun K8 hK8 => ?_
  obtain ⟨r13, h14, h⟩ := h
  refine rg ?_
  have lt_d12 := hL.rlt 15 rfl
  have lt_d11 := hL.blt 4 rfl
  have lt_d10 := hL.gltc 999901 rfl
  refine st_mkmap 16 En.str kvStr En.bool hL rfl rfl rfl rfl fun a s g9 hg_ hL => ?_
  have d10 : Dis (some g9) (some c_) := Dis.newg hg_ lt_d10
  have d11 : Dis (some g9) (some g2) := Dis.newg hg_ lt_d11
  have d12 : Dis (some g9) (some g5) := Dis.newg hg_ lt_d12
  refine st 17 (t_fa (off := 1) (o_t 2 rfl) Tryd.underlying101 rfl (prt_snd (prt_fst (prt_all _ _)) rfl) rfl ty88 rfl rfl) rfl rfl hL fun a s e_ hL => ?_
  refine st 18 (t_load ty88 (o_t 17 rfl) rfl rfl) rfl rfl hL fun a s e_ hL => ?_
  refine st 19 (t_fa (off := 0) (o_t 2 rfl) Tryd.underlying101 rfl (prt_fst (prt_all _ _)) rfl ty3 rfl rfl) rfl rfl hL fun a s e_ hL => ?_
  refine st 20 (t_load ty3 (o_t 19 rfl) rfl rfl) rfl rfl hL fun a s e_ hL => ?_
  refine st 21 (t_callf (q := (s_.1, r13)) (o_t 18 rfl) h14 (xs := [.tmp 20]) (.cons (o_t 20 rfl) .nil) (fun _ _ _ h_ => h_) rfl rfl) rfl rfl hL fun a s e_ hL => ?_
  refine st_mputC (L' := [(1, (Pd.rep (En.int .i64) budget_)), (2, (Pd.ptr En.SSpace_int_searchR s_)), (4, (Pd.box En.SFound_int_search s0.w.heap.size g2 ((0, [], [], 0, 0, 0, 0), 0))), (5, (Pd.row En.Smade_int_search s0.w.heap.size 114 (some g5) [(s_.1, (-1), 0)])), (16, (Pd.map En.str kvStr En.bool s0.w.heap.size (some g9) (mput ([] : (List (Str × Bool))) r13 true))), (999901, (Pd.gh (En.int .i64) s0.w.heap.size 3 c_ none ([] : (List Int))))]) hL (o_t 16 rfl) (o_t 21 rfl) o_b Tryd.underlying116 (key_str Tryd.underlying9) (.inr rfl) rfl rfl (.cons (t := 1) rfl (fun _ h_ => h_.elim) (.cons (t := 2) rfl (fun _ h_ => h_.elim) (.cons (t := 4) rfl (Dis.bx (Dis.symm d11)) (.cons (t := 5) rfl (Dis.ow (Dis.symm d12)) (.turn (t := 16) rfl (.cons (t := 999901) rfl (Dis.o3 (Dis.symm d10) Dis.none) .nil)))))) fun s hL => ?_
  refine st 22 (t_move (o_t 16 rfl) rfl rfl) rfl rfl hL fun a s e_ hL => ?_
  refine st 6 (t_assign (o_t 22 rfl) rfl rfl) rfl rfl hL fun a s e_ hL => ?_
  refine en' ?_
  show K8 a s.w
  refine hK8 _ _ ?_
  refine wp_seq_k fun K15 hK15 => ?_
  refine wp_seq_k fun K16 hK16 => ?_
  refine rg ?_
  refine st 7 (t_assign (o_i (by decide)) rfl rfl) rfl rfl hL fun a s e_ hL => ?_
  refine en' ?_
  show K16 a s.w
  refine hK16 _ _ ?_
  refine wp_block ?_
  have J22 : ∀ (v17 : SFound_int_search) (list18 : (List Smade_int_search)) (v20 : (List Int)) (og19 : Option Nat) (og21 : Option Nat) (a : Act) (s : St), Has (fun b => some c_ = some b) 87 s0 a s [(4, (Pd.box En.SFound_int_search s0.w.heap.size g2 v17)), (5, (Pd.row En.Smade_int_search s0.w.heap.size 114 og19 list18)), (999901, (Pd.gh (En.int .i64) s0.w.heap.size 3 c_ og21 v20))] → Dis (some g2) og19 → Dis (some g2) (some c_) → Dis (some g2) og21 → Dis og19 (some c_) → Dis og19 og21 → Dis (some c_) og21 → ((search_Space_int_Walk_g.j1 r_) v17 list18 v20) → K15 a s.w := by
    intro v17 list18 v20 og19 og21 a s hL d23 d24 d25 d26 d27 d28 h
    unfold search_Space_int_Walk_g.j1 at h
    show K15 a s.w
    refine hK15 _ _ ?_
    refine wp_seq_k fun K29 hK29 => ?_
    refine rg ?_
    refine st 83 (t_move (o_t 5 rfl) rfl rfl) rfl rfl hL fun a s e_ hL => ?_
    refine st 84 (t_leno (o_t 83 rfl) Tryd.underlying115 rfl rfl) rfl rfl hL fun a s e_ hL => ?_
    refine st 85 (t_build (x := (1, [], [], 0, 0, 0, (list18.length : Int))) (ps := [(0, .const (.int .i64 1)), (6, .tmp 84)]) tyz57 rfl stt57 (.cons (i := 0) (o_i (by decide)) rfl (sub_fst (sub_all _ _ _)) (.cons (i := 6) (o_t 84 rfl) rfl (sub_snd (sub_snd (sub_snd (sub_snd (sub_snd (sub_snd (sub_all _ _ _) rfl) rfl) rfl) rfl) rfl) rfl) .nil)) rfl rfl) rfl rfl hL fun a s e_ hL => ?_
    refine st 86 (t_build (x := ((1, [], [], 0, 0, 0, (list18.length : Int)), 0)) (ps := [(0, .tmp 85)]) tyz97 rfl stt97 (.cons (i := 0) (o_t 85 rfl) rfl (sub_fst (sub_all _ _ _)) .nil) rfl rfl) rfl rfl hL fun a s e_ hL => ?_
    refine st_stb (L' := [(999901, (Pd.gh (En.int .i64) s0.w.heap.size 3 c_ og21 v20))]) 4 hL rfl (o_t 86 rfl) ty97 rfl rfl rfl (.cons (t := 999901) rfl (Dis.o3 (Dis.symm d24) (Dis.symm d25)) .nil) fun s hL => ?_
    refine en' ?_
    show K29 a s.w
    refine hK29 _ _ ?_
    subst h
    exact wp_ret (retg rfl ty97 hL rfl rfl)
  obtain ⟨k38, h⟩ := h
  refine lpg (fun k39 a s => ∃ (v30 : SFound_int_search) (list31 : (List Smade_int_search)) (seen33 : (List (Str × Bool))) (i35 : Int) (v36 : (List Int)) (og32 : Option Nat) (og34 : Option Nat) (og37 : Option Nat), Has (fun b => some c_ = some b) 87 s0 a s [(1, (Pd.rep (En.int .i64) budget_)), (2, (Pd.ptr En.SSpace_int_searchR s_)), (4, (Pd.box En.SFound_int_search s0.w.heap.size g2 v30)), (5, (Pd.row En.Smade_int_search s0.w.heap.size 114 og32 list31)), (6, (Pd.map En.str kvStr En.bool s0.w.heap.size og34 seen33)), (7, (Pd.rep (En.int .i64) i35)), (999901, (Pd.gh (En.int .i64) s0.w.heap.size 3 c_ og37 v36))] ∧ Dis (some g2) og32 ∧ Dis (some g2) og34 ∧ Dis (some g2) (some c_) ∧ Dis (some g2) og37 ∧ Dis og32 og34 ∧ Dis og32 (some c_) ∧ Dis og32 og37 ∧ Dis og34 (some c_) ∧ Dis og34 og37 ∧ Dis (some c_) og37 ∧ search_Space_int_Walk_g.l1 s_ budget_ c_ r_ (search_Space_int_Walk_g.j1 r_) k39 v30 list31 seen33 i35 v36) k38 ⟨((0, [], [], 0, 0, 0, 0), 0), [(s_.1, (-1), 0)], (mput ([] : (List (Str × Bool))) r13 true), 0, ([] : (List Int)), (some g5), (some g9), none, hL.keep (.cons (t := 1) rfl (fun _ h_ => h_.elim) (.cons (t := 2) rfl (fun _ h_ => h_.elim) (.cons (t := 4) rfl (fun _ _ h_ => h_) (.cons (t := 5) rfl (fun _ _ h_ => h_) (.cons (t := 6) rfl (fun _ _ h_ => h_) (.cons (t := 7) rfl (fun _ h_ => h_.elim) (.cons (t := 999901) rfl (fun _ _ h_ => h_) .nil))))))), (Dis.symm d7), (Dis.symm d11), d3, (Dis.symm Dis.none), (Dis.symm d12), d6, (Dis.symm Dis.none), d10, (Dis.symm Dis.none), (Dis.symm Dis.none), h⟩ ?_
  rintro k39 a s ⟨v30, list31, seen33, i35, v36, og32, og34, og37, hL, d41, d42, d43, d44, d45, d46, d47, d48, d49, d50, h⟩ KL40 hKL40
  cases k39 with
  | zero => exact h.elim
  | succ k39 =>
  unfold search_Space_int_Walk_g.l1 at h
  refine wp_seq_k fun K51 hK51 => ?_
  refine wp_seq_k fun K52 hK52 => ?_
  refine rg ?_
  refine st 23 (t_move (o_t 7 rfl) rfl rfl) rfl rfl hL fun a s e_ hL => ?_
  refine st 24 (t_move (o_t 5 rfl) rfl rfl) rfl rfl hL fun a s e_ hL => ?_
  refine st 25 (t_leno (o_t 24 rfl) Tryd.underlying115 rfl rfl) rfl rfl hL fun a s e_ hL => ?_
  refine st 26 (t_lss (o_t 23 rfl) (o_t 25 rfl) rfl rfl) rfl rfl hL fun a s e_ hL => ?_
  refine en' ?_
  show K52 a s.w
  refine hK52 _ _ ?_
  refine cnd hL rfl (fun hb_ => ?_) (fun hb_ => ?_)
  · replace h := h.1 hb_
    refine wp_skip ?_
    show K51 a s.w
    refine hK51 _ _ ?_
    refine wp_seq_k fun K53 hK53 => ?_
    refine wp_block ?_
    refine wp_seq_k fun K54 hK54 => ?_
    refine wp_seq_k fun K55 hK55 => ?_
    refine rg ?_
    refine st 29 (t_move (o_t 7 rfl) rfl rfl) rfl rfl hL fun a s e_ hL => ?_
    refine st 30 (t_move (o_t 1 rfl) rfl rfl) rfl rfl hL fun a s e_ hL => ?_
    refine st 31 (t_geq (o_t 29 rfl) (o_t 30 rfl) rfl rfl) rfl rfl hL fun a s e_ hL => ?_
    refine en' ?_
    show K55 a s.w
    refine hK55 _ _ ?_
    refine cnd hL rfl (fun hb_ => ?_) (fun hb_ => ?_)
    · replace h := h.1 hb_
      refine wp_seq_k fun K56 hK56 => ?_
      refine rg ?_
      refine st 32 (t_move (o_t 1 rfl) rfl rfl) rfl rfl hL fun a s e_ hL => ?_
      refine st 33 (t_max (o_t 32 rfl) (o_i (by decide)) rfl rfl) rfl rfl hL fun a s e_ hL => ?_
      refine st 34 (t_build (x := (3, [], [], 0, 0, 0, (max budget_ 0))) (ps := [(0, .const (.int .i64 3)), (6, .tmp 33)]) tyz57 rfl stt57 (.cons (i := 0) (o_i (by decide)) rfl (sub_fst (sub_all _ _ _)) (.cons (i := 6) (o_t 33 rfl) rfl (sub_snd (sub_snd (sub_snd (sub_snd (sub_snd (sub_snd (sub_all _ _ _) rfl) rfl) rfl) rfl) rfl) rfl) .nil)) rfl rfl) rfl rfl hL fun a s e_ hL => ?_
      refine st 35 (t_build (x := ((3, [], [], 0, 0, 0, (max budget_ 0)), 0)) (ps := [(0, .tmp 34)]) tyz97 rfl stt97 (.cons (i := 0) (o_t 34 rfl) rfl (sub_fst (sub_all _ _ _)) .nil) rfl rfl) rfl rfl hL fun a s e_ hL => ?_
      refine st_stb (L' := [(999901, (Pd.gh (En.int .i64) s0.w.heap.size 3 c_ og37 v36))]) 4 hL rfl (o_t 35 rfl) ty97 rfl rfl rfl (.cons (t := 999901) rfl (Dis.o3 (Dis.symm d43) (Dis.symm d44)) .nil) fun s hL => ?_
      refine en' ?_
      show K56 a s.w
      refine hK56 _ _ ?_
      subst h
      exact wp_ret (retg rfl ty97 hL rfl rfl)
    · replace h := h.2 hb_
      refine wp_skip ?_
      show K54 a s.w
      refine hK54 _ _ ?_
      refine wp_seq_k fun K57 hK57 => ?_
      obtain ⟨e58, h59, h⟩ := h
      refine rg ?_
      refine st 36 (t_move (o_t 5 rfl) rfl rfl) rfl rfl hL fun a s e_ hL => ?_
      refine st 37 (t_move (o_t 7 rfl) rfl rfl) rfl rfl hL fun a s e_ hL => ?_
      refine st 38 (t_idxo (o_t 36 rfl) (o_t 37 rfl) h59 Tryd.underlying115 ty114 rfl rfl) rfl rfl hL fun a s e_ hL => ?_
      refine st 39 (t_fao (off := 0) (o_t 38 rfl) Tryd.underlying114 rfl (prt_fst (prt_all _ _)) rfl ty3 rfl rfl) rfl rfl hL fun a s e_ hL => ?_
      refine st 40 (t_loado ty3 (o_t 39 rfl) rfl rfl) rfl rfl hL fun a s e_ hL => ?_
      refine st 8 (t_assign (o_t 40 rfl) rfl rfl) rfl rfl hL fun a s e_ hL => ?_
      refine en' ?_
      show K57 a s.w
      refine hK57 _ _ ?_
      refine wp_seq_k fun K60 hK60 => ?_
      refine wp_seq_k fun K61 hK61 => ?_
      obtain ⟨h62, h63, h⟩ := h
      refine rg ?_
      refine st 41 (t_fa (off := 3) (o_t 2 rfl) Tryd.underlying101 rfl (prt_snd (prt_snd (prt_snd (prt_all _ _) rfl) rfl) rfl) rfl ty99r rfl rfl) rfl rfl hL fun a s e_ hL => ?_
      refine st 42 (t_load ty99r (o_t 41 rfl) rfl rfl) rfl rfl hL fun a s e_ hL => ?_
      refine st 43 (t_move (o_t 8 rfl) rfl rfl) rfl rfl hL fun a s e_ hL => ?_
      have lt_og64_0 := hL.blt 4 rfl
      have lt_og64_1 := hL.rlt 5 rfl
      have lt_og64_2 := hL.mlt 6 rfl
      have lt_og64_3 := hL.gltc 999901 rfl
      refine st_hit (f := 55) (L' := [(1, (Pd.rep (En.int .i64) budget_)), (2, (Pd.ptr En.SSpace_int_searchR s_)), (4, (Pd.box En.SFound_int_search s0.w.heap.size g2 v30)), (5, (Pd.row En.Smade_int_search s0.w.heap.size 114 og32 list31)), (6, (Pd.map En.str kvStr En.bool s0.w.heap.size og34 seen33)), (7, (Pd.rep (En.int .i64) i35)), (8, (Pd.rep (En.int .i64) e58.1))]) 44 hL hit55 rfl rfl (o_t 42 rfl) h62 (o_t 43 rfl) h63 rfl rfl rfl rfl (.cons (t := 1) rfl (fun _ h_ => h_.elim) (.cons (t := 2) rfl (fun _ h_ => h_.elim) (.cons (t := 4) rfl (Dis.o1 d43 d44) (.cons (t := 5) rfl (Dis.o2 d46 d47) (.cons (t := 6) rfl (Dis.o2 d48 d49) (.cons (t := 7) rfl (fun _ h_ => h_.elim) (.cons (t := 8) rfl (fun _ h_ => h_.elim) .nil))))))) fun a s og64 hg_ hL => ?_
      have d65 : Dis og64 (some g2) := Dis.app hg_ (Dis.symm d44) lt_og64_0
      have d66 : Dis og64 og32 := Dis.app hg_ (Dis.symm d47) lt_og64_1
      have d67 : Dis og64 og34 := Dis.app hg_ (Dis.symm d49) lt_og64_2
      have d68 : Dis og64 (some c_) := Dis.app hg_ (Dis.symm d50) lt_og64_3
      refine en' ?_
      show K61 a s.w
      refine hK61 _ _ ?_
      refine cnd hL rfl (fun hb_ => ?_) (fun hb_ => ?_)
      · replace h := h.1 hb_
        refine wp_seq_k fun K69 hK69 => ?_
        obtain ⟨s71, h70, hL⟩ := hL.freeze (L' := [(4, (Pd.box En.SFound_int_search s0.w.heap.size g2 v30)), (7, (Pd.rep (En.int .i64) i35)), (8, (Pd.rep (En.int .i64) e58.1)), (999901, (Pd.gh (En.int .i64) s0.w.heap.size 3 c_ og64 (v36 ++ [e58.1])))]) 5 rfl (.cons (t := 4) rfl (Dis.bx d41) (.cons (t := 7) rfl (fun _ h_ => h_.elim) (.cons (t := 8) rfl (fun _ h_ => h_.elim) (.cons (t := 999901) rfl (Dis.o3 (Dis.symm d46) d66) .nil))))
        rw [← h70]
        clear h70
        generalize s71 = s at *
        obtain ⟨r72, h73, h74, h⟩ := h
        refine rg ?_
        refine st 45 (t_move (o_t 5 rfl) rfl rfl) rfl rfl hL fun a s e_ hL => ?_
        refine st 46 (t_move (o_t 7 rfl) rfl rfl) rfl rfl hL fun a s e_ hL => ?_
        refine st 47 (t_call ((search_word_int_ok h73).frz) (xs := [.tmp 45, .tmp 46]) (.cons (o_t 45 rfl) (.cons (o_t 46 rfl) .nil)) rfl rfl) rfl rfl hL fun a s e_ hL => ?_
        refine st 48 (t_move (o_t 7 rfl) rfl rfl) rfl rfl hL fun a s e_ hL => ?_
        refine st 49 (t_add (o_t 48 rfl) (o_i (by decide)) h74 rfl rfl) rfl rfl hL fun a s e_ hL => ?_
        refine st 50 (t_build (x := (2, r72, [], 0, 0, 0, i35 + 1)) (ps := [(0, .const (.int .i64 2)), (1, .tmp 47), (6, .tmp 49)]) tyz57 rfl stt57 (.cons (i := 0) (o_i (by decide)) rfl (sub_fst (sub_all _ _ _)) (.cons (i := 1) (o_t 47 rfl) rfl (sub_snd (sub_fst (sub_all _ _ _)) rfl) (.cons (i := 6) (o_t 49 rfl) rfl (sub_snd (sub_snd (sub_snd (sub_snd (sub_snd (sub_snd (sub_all _ _ _) rfl) rfl) rfl) rfl) rfl) rfl) .nil))) rfl rfl) rfl rfl hL fun a s e_ hL => ?_
        refine st 51 (t_move (o_t 8 rfl) rfl rfl) rfl rfl hL fun a s e_ hL => ?_
        refine st 52 (t_build (x := ((2, r72, [], 0, 0, 0, i35 + 1), e58.1)) (ps := [(0, .tmp 50), (1, .tmp 51)]) tyz97 rfl stt97 (.cons (i := 0) (o_t 50 rfl) rfl (sub_fst (sub_all _ _ _)) (.cons (i := 1) (o_t 51 rfl) rfl (sub_snd (sub_all _ _ _) rfl) .nil)) rfl rfl) rfl rfl hL fun a s e_ hL => ?_
        refine st_stb (L' := [(999901, (Pd.gh (En.int .i64) s0.w.heap.size 3 c_ og64 (v36 ++ [e58.1])))]) 4 hL rfl (o_t 52 rfl) ty97 rfl rfl rfl (.cons (t := 999901) rfl (Dis.o3 (Dis.symm d43) d65) .nil) fun s hL => ?_
        refine en' ?_
        show K69 a s.w
        refine hK69 _ _ ?_
        subst h
        exact wp_ret (retg rfl ty97 hL rfl rfl)
      · replace h := h.2 hb_
        refine wp_skip ?_
        show K60 a s.w
        refine hK60 _ _ ?_
        refine wp_seq_k fun K75 hK75 => ?_
        obtain ⟨r76, h77, h⟩ := h
        refine rg ?_
        refine st 53 (t_fa (off := 2) (o_t 2 rfl) Tryd.underlying101 rfl (prt_snd (prt_snd (prt_fst (prt_all _ _)) rfl) rfl) rfl ty98 rfl rfl) rfl rfl hL fun a s e_ hL => ?_
        refine st 54 (t_load ty98 (o_t 53 rfl) rfl rfl) rfl rfl hL fun a s e_ hL => ?_
        refine st 55 (t_move (o_t 8 rfl) rfl rfl) rfl rfl hL fun a s e_ hL => ?_
        refine st 56 (t_callf (q := (e58.1, r76)) (o_t 54 rfl) h77 (xs := [.tmp 55]) (.cons (o_t 55 rfl) .nil) (fun _ _ _ h_ => h_) rfl rfl) rfl rfl hL fun a s e_ hL => ?_
        refine st 57 (t_len (o_t 56 rfl) Tryd.underlying111 rfl rfl) rfl rfl hL fun a s e_ hL => ?_
        refine st 58 (t_move (o_i (by decide)) rfl rfl) rfl rfl hL fun a s e_ hL => ?_
        refine en' ?_
        show K75 a s.w
        refine hK75 _ _ ?_
        refine wp_block ?_
        have J82 : ∀ (list78 : (List Smade_int_search)) (seen80 : (List (Str × Bool))) (og79 : Option Nat) (og81 : Option Nat) (a : Act) (s : St), Has (fun b => some c_ = some b) 87 s0 a s [(1, (Pd.rep (En.int .i64) budget_)), (2, (Pd.ptr En.SSpace_int_searchR s_)), (4, (Pd.box En.SFound_int_search s0.w.heap.size g2 v30)), (5, (Pd.row En.Smade_int_search s0.w.heap.size 114 og79 list78)), (6, (Pd.map En.str kvStr En.bool s0.w.heap.size og81 seen80)), (7, (Pd.rep (En.int .i64) i35)), (999901, (Pd.gh (En.int .i64) s0.w.heap.size 3 c_ og64 (v36 ++ [e58.1])))] → Dis (some g2) og79 → Dis (some g2) og81 → Dis (some g2) (some c_) → Dis (some g2) og64 → Dis og79 og81 → Dis og79 (some c_) → Dis og79 og64 → Dis og81 (some c_) → Dis og81 og64 → Dis (some c_) og64 → ((search_Space_int_Walk_g.j2 (search_Space_int_Walk_g.l1 s_ budget_ c_ r_ (search_Space_int_Walk_g.j1 r_) k39) v30 i35 v36 e58) list78 seen80) → K53 a s.w := by
          intro list78 seen80 og79 og81 a s hL d83 d84 d85 d86 d87 d88 d89 d90 d91 d92 h
          unfold search_Space_int_Walk_g.j2 at h
          show K53 a s.w
          refine hK53 _ _ ?_
          obtain ⟨h93, h⟩ := h
          refine rg ?_
          refine st 27 (t_move (o_t 7 rfl) rfl rfl) rfl rfl hL fun a s e_ hL => ?_
          refine st 28 (t_add (o_t 27 rfl) (o_i (by decide)) h93 rfl rfl) rfl rfl hL fun a s e_ hL => ?_
          refine st 7 (t_assign (o_t 28 rfl) rfl rfl) rfl rfl hL fun a s e_ hL => ?_
          refine en' ?_
          exact hKL40 k39 a s (Nat.lt_succ_self _) ⟨v30, list78, seen80, (i35 + 1), (v36 ++ [e58.1]), og79, og81, og64, hL.keep (.cons (t := 1) rfl (fun _ h_ => h_.elim) (.cons (t := 2) rfl (fun _ h_ => h_.elim) (.cons (t := 4) rfl (fun _ _ h_ => h_) (.cons (t := 5) rfl (fun _ _ h_ => h_) (.cons (t := 6) rfl (fun _ _ h_ => h_) (.cons (t := 7) rfl (fun _ h_ => h_.elim) (.cons (t := 999901) rfl (fun _ _ h_ => h_) .nil))))))), d83, d84, d85, d86, d87, d88, d89, d90, d91, d92, h⟩
        obtain ⟨k99, h⟩ := h
        refine lpg (fun k100 a s => ∃ (list94 : (List Smade_int_search)) (seen96 : (List (Str × Bool))) (v98 : Int) (og95 : Option Nat) (og97 : Option Nat), Has (fun b => some c_ = some b) 87 s0 a s [(1, (Pd.rep (En.int .i64) budget_)), (2, (Pd.ptr En.SSpace_int_searchR s_)), (4, (Pd.box En.SFound_int_search s0.w.heap.size g2 v30)), (5, (Pd.row En.Smade_int_search s0.w.heap.size 114 og95 list94)), (6, (Pd.map En.str kvStr En.bool s0.w.heap.size og97 seen96)), (7, (Pd.rep (En.int .i64) i35)), (56, (Pd.rep (En.slice En.SOn_int_search) r76)), (57, (Pd.rep (En.int .i64) (r76.length : Int))), (58, (Pd.rep (En.int .i64) v98)), (999901, (Pd.gh (En.int .i64) s0.w.heap.size 3 c_ og64 (v36 ++ [e58.1])))] ∧ Dis (some g2) og95 ∧ Dis (some g2) og97 ∧ Dis (some g2) (some c_) ∧ Dis (some g2) og64 ∧ Dis og95 og97 ∧ Dis og95 (some c_) ∧ Dis og95 og64 ∧ Dis og97 (some c_) ∧ Dis og97 og64 ∧ Dis (some c_) og64 ∧ search_Space_int_Walk_g.l2 s_ i35 r76 (search_Space_int_Walk_g.j2 (search_Space_int_Walk_g.l1 s_ budget_ c_ r_ (search_Space_int_Walk_g.j1 r_) k39) v30 i35 v36 e58) k100 list94 seen96 v98) k99 ⟨list31, seen33, 0, og32, og34, hL.keep (.cons (t := 1) rfl (fun _ h_ => h_.elim) (.cons (t := 2) rfl (fun _ h_ => h_.elim) (.cons (t := 4) rfl (fun _ _ h_ => h_) (.cons (t := 5) rfl (fun _ _ h_ => h_) (.cons (t := 6) rfl (fun _ _ h_ => h_) (.cons (t := 7) rfl (fun _ h_ => h_.elim) (.cons (t := 56) rfl (fun _ h_ => h_.elim) (.cons (t := 57) rfl (fun _ h_ => h_.elim) (.cons (t := 58) rfl (fun _ h_ => h_.elim) (.cons (t := 999901) rfl (fun _ _ h_ => h_) .nil)))))))))), d41, d42, d43, (Dis.symm d65), d45, d46, (Dis.symm d66), d48, (Dis.symm d67), (Dis.symm d68), h⟩ ?_
        rintro k100 a s ⟨list94, seen96, v98, og95, og97, hL, d102, d103, d104, d105, d106, d107, d108, d109, d110, d111, h⟩ KL101 hKL101
        cases k100 with
        | zero => exact h.elim
        | succ k100 =>
        unfold search_Space_int_Walk_g.l2 at h
        refine wp_seq_k fun K112 hK112 => ?_
        refine rg ?_
        refine st 59 (t_lss (o_t 58 rfl) (o_t 57 rfl) rfl rfl) rfl rfl hL fun a s e_ hL => ?_
        refine en' ?_
        show K112 a s.w
        refine hK112 _ _ ?_
        refine wp_seq_k fun K113 hK113 => ?_
        refine cnd hL rfl (fun hb_ => ?_) (fun hb_ => ?_)
        · replace h := h.1 hb_
          refine wp_skip ?_
          show K113 a s.w
          refine hK113 _ _ ?_
          refine wp_seq_k fun K114 hK114 => ?_
          refine wp_block ?_
          refine wp_seq_k fun K115 hK115 => ?_
          obtain ⟨e116, h117, h⟩ := h
          refine rg ?_
          refine st 60 (t_idx (o_t 56 rfl) (o_t 58 rfl) h117 Tryd.underlying111 ty112 rfl rfl) rfl rfl hL fun a s e_ hL => ?_
          refine st 61 (t_load ty112 (o_t 60 rfl) rfl rfl) rfl rfl hL fun a s e_ hL => ?_
          have lt_d123 := hL.glto 999901 rfl
          have lt_d122 := hL.gltc 999901 rfl
          have lt_d121 := hL.mlt 6 rfl
          have lt_d120 := hL.rlt 5 rfl
          have lt_d119 := hL.blt 4 rfl
          refine st_alloc En.SOn_int_search (z := (0, 0)) 10 hL tyz112 rfl rfl rfl rfl fun a s g118 hg_ hL => ?_
          have d119 : Dis (some g118) (some g2) := Dis.newg hg_ lt_d119
          have d120 : Dis (some g118) og95 := Dis.newg hg_ lt_d120
          have d121 : Dis (some g118) og97 := Dis.newg hg_ lt_d121
          have d122 : Dis (some g118) (some c_) := Dis.newg hg_ lt_d122
          have d123 : Dis (some g118) og64 := Dis.newg hg_ lt_d123
          refine st_stb (L' := [(1, (Pd.rep (En.int .i64) budget_)), (2, (Pd.ptr En.SSpace_int_searchR s_)), (4, (Pd.box En.SFound_int_search s0.w.heap.size g2 v30)), (5, (Pd.row En.Smade_int_search s0.w.heap.size 114 og95 list94)), (6, (Pd.map En.str kvStr En.bool s0.w.heap.size og97 seen96)), (7, (Pd.rep (En.int .i64) i35)), (56, (Pd.rep (En.slice En.SOn_int_search) r76)), (57, (Pd.rep (En.int .i64) (r76.length : Int))), (58, (Pd.rep (En.int .i64) v98)), (999901, (Pd.gh (En.int .i64) s0.w.heap.size 3 c_ og64 (v36 ++ [e58.1])))]) 10 hL rfl (o_t 61 rfl) ty112 rfl rfl rfl (.cons (t := 1) rfl (fun _ h_ => h_.elim) (.cons (t := 2) rfl (fun _ h_ => h_.elim) (.cons (t := 4) rfl (Dis.bx (Dis.symm d119)) (.cons (t := 5) rfl (Dis.ow (Dis.symm d120)) (.cons (t := 6) rfl (Dis.ow (Dis.symm d121)) (.cons (t := 7) rfl (fun _ h_ => h_.elim) (.cons (t := 56) rfl (fun _ h_ => h_.elim) (.cons (t := 57) rfl (fun _ h_ => h_.elim) (.cons (t := 58) rfl (fun _ h_ => h_.elim) (.cons (t := 999901) rfl (Dis.o3 (Dis.symm d122) (Dis.symm d123)) .nil)))))))))) fun s hL => ?_
          refine en' ?_
          show K115 a s.w
          refine hK115 _ _ ?_
          refine wp_seq_k fun K124 hK124 => ?_
          obtain ⟨r125, h126, h⟩ := h
          refine rg ?_
          refine st 62 (t_fa (off := 1) (o_t 2 rfl) Tryd.underlying101 rfl (prt_snd (prt_fst (prt_all _ _)) rfl) rfl ty88 rfl rfl) rfl rfl hL fun a s e_ hL => ?_
          refine st 63 (t_load ty88 (o_t 62 rfl) rfl rfl) rfl rfl hL fun a s e_ hL => ?_
          refine st 64 (t_fab (off := 1) (o_t 10 rfl) Tryd.underlying112 rfl (prt_snd (prt_all _ _) rfl) rfl ty3 rfl rfl) rfl rfl hL fun a s e_ hL => ?_
          refine st 65 (t_loado ty3 (o_t 64 rfl) rfl rfl) rfl rfl hL fun a s e_ hL => ?_
          refine st 66 (t_callf (q := (e116.2, r125)) (o_t 63 rfl) h126 (xs := [.tmp 65]) (.cons (o_t 65 rfl) .nil) (fun _ _ _ h_ => h_) rfl rfl) rfl rfl hL fun a s e_ hL => ?_
          refine st 11 (t_assign (o_t 66 rfl) rfl rfl) rfl rfl hL fun a s e_ hL => ?_
          refine en' ?_
          show K124 a s.w
          refine hK124 _ _ ?_
          refine wp_seq_k fun K127 hK127 => ?_
          refine rg ?_
          refine st 67 (t_move (o_t 6 rfl) rfl rfl) rfl rfl hL fun a s e_ hL => ?_
          refine st 68 (t_move (o_t 11 rfl) rfl rfl) rfl rfl hL fun a s e_ hL => ?_
          refine st 69 (t_mget (o_t 67 rfl) (o_t 68 rfl) Tryd.underlying116 (key_str Tryd.underlying9) tyv4 rfl rfl) rfl rfl hL fun a s e_ hL => ?_
          refine st 70 (t_not (o_t 69 rfl) rfl rfl) rfl rfl hL fun a s e_ hL => ?_
          refine en' ?_
          show K127 a s.w
          refine hK127 _ _ ?_
          refine cnd hL rfl (fun hb_ => ?_) (fun hb_ => ?_)
          · replace h := h.1 hb_
            refine wp_seq_k fun K128 hK128 => ?_
            refine rg ?_
            refine st 71 (t_move (o_t 6 rfl) rfl rfl) rfl rfl hL fun a s e_ hL => ?_
            refine st 72 (t_move (o_t 11 rfl) rfl rfl) rfl rfl hL fun a s e_ hL => ?_
            refine st_mputC (L' := [(1, (Pd.rep (En.int .i64) budget_)), (2, (Pd.ptr En.SSpace_int_searchR s_)), (4, (Pd.box En.SFound_int_search s0.w.heap.size g2 v30)), (5, (Pd.row En.Smade_int_search s0.w.heap.size 114 og95 list94)), (6, (Pd.map En.str kvStr En.bool s0.w.heap.size og97 (mput seen96 r125 true))), (7, (Pd.rep (En.int .i64) i35)), (10, (Pd.box En.SOn_int_search s0.w.heap.size g118 e116)), (56, (Pd.rep (En.slice En.SOn_int_search) r76)), (57, (Pd.rep (En.int .i64) (r76.length : Int))), (58, (Pd.rep (En.int .i64) v98)), (999901, (Pd.gh (En.int .i64) s0.w.heap.size 3 c_ og64 (v36 ++ [e58.1])))]) hL (o_t 71 rfl) (o_t 72 rfl) o_b Tryd.underlying116 (key_str Tryd.underlying9) (.inl rfl) rfl rfl (.cons (t := 1) rfl (fun _ h_ => h_.elim) (.cons (t := 2) rfl (fun _ h_ => h_.elim) (.cons (t := 4) rfl (Dis.bx d103) (.cons (t := 5) rfl (Dis.ow d106) (.turn (t := 6) rfl (.cons (t := 7) rfl (fun _ h_ => h_.elim) (.cons (t := 10) rfl (Dis.bx d121) (.cons (t := 56) rfl (fun _ h_ => h_.elim) (.cons (t := 57) rfl (fun _ h_ => h_.elim) (.cons (t := 58) rfl (fun _ h_ => h_.elim) (.cons (t := 999901) rfl (Dis.o3 (Dis.symm d109) (Dis.symm d110)) .nil))))))))))) fun s hL => ?_
            refine en' ?_
            show K128 a s.w
            refine hK128 _ _ ?_
            obtain ⟨h129, h⟩ := h
            refine rg ?_
            refine st 73 (t_move (o_t 5 rfl) rfl rfl) rfl rfl hL fun a s e_ hL => ?_
            refine st 74 (t_fab (off := 1) (o_t 10 rfl) Tryd.underlying112 rfl (prt_snd (prt_all _ _) rfl) rfl ty3 rfl rfl) rfl rfl hL fun a s e_ hL => ?_
            refine st 75 (t_loado ty3 (o_t 74 rfl) rfl rfl) rfl rfl hL fun a s e_ hL => ?_
            refine st 76 (t_move (o_t 7 rfl) rfl rfl) rfl rfl hL fun a s e_ hL => ?_
            refine st 77 (t_fab (off := 0) (o_t 10 rfl) Tryd.underlying112 rfl (prt_fst (prt_all _ _)) rfl ty5 rfl rfl) rfl rfl hL fun a s e_ hL => ?_
            refine st 78 (t_loado ty5 (o_t 77 rfl) rfl rfl) rfl rfl hL fun a s e_ hL => ?_
            refine st 79 (t_build (x := (e116.2, i35, e116.1)) (ps := [(0, .tmp 75), (1, .tmp 76), (2, .tmp 78)]) tyz114 rfl stt114 (.cons (i := 0) (o_t 75 rfl) rfl (sub_fst (sub_all _ _ _)) (.cons (i := 1) (o_t 76 rfl) rfl (sub_snd (sub_fst (sub_all _ _ _)) rfl) (.cons (i := 2) (o_t 78 rfl) rfl (sub_snd (sub_snd (sub_all _ _ _) rfl) rfl) .nil))) rfl rfl) rfl rfl hL fun a s e_ hL => ?_
            refine st 80 (t_lit (xs := [.tmp 79]) (.cons (o_t 79 rfl) .nil) Tryd.underlying115 ty114 rfl rfl (by decide) rfl rfl) rfl rfl hL fun a s e_ hL => ?_
            have lt_og130_0 := hL.blt 4 rfl
            have lt_og130_1 := hL.mlt 6 rfl
            have lt_og130_2 := hL.gltc 999901 rfl
            have lt_og130_3 := hL.glto 999901 rfl
            refine st_app (L' := [(1, (Pd.rep (En.int .i64) budget_)), (2, (Pd.ptr En.SSpace_int_searchR s_)), (4, (Pd.box En.SFound_int_search s0.w.heap.size g2 v30)), (6, (Pd.map En.str kvStr En.bool s0.w.heap.size og97 (mput seen96 r125 true))), (7, (Pd.rep (En.int .i64) i35)), (56, (Pd.rep (En.slice En.SOn_int_search) r76)), (57, (Pd.rep (En.int .i64) (r76.length : Int))), (58, (Pd.rep (En.int .i64) v98)), (999901, (Pd.gh (En.int .i64) s0.w.heap.size 3 c_ og64 (v36 ++ [e58.1])))]) 81 hL (o_t 73 rfl) (o_t 80 rfl) Tryd.underlying115 ty114 h129 rfl rfl rfl rfl (.cons (t := 1) rfl (fun _ h_ => h_.elim) (.cons (t := 2) rfl (fun _ h_ => h_.elim) (.cons (t := 4) rfl (Dis.bx d102) (.cons (t := 6) rfl (Dis.ow (Dis.symm d106)) (.cons (t := 7) rfl (fun _ h_ => h_.elim) (.cons (t := 56) rfl (fun _ h_ => h_.elim) (.cons (t := 57) rfl (fun _ h_ => h_.elim) (.cons (t := 58) rfl (fun _ h_ => h_.elim) (.cons (t := 999901) rfl (Dis.o3 (Dis.symm d107) (Dis.symm d108)) .nil))))))))) fun a s og130 hg_ hL => ?_
            have d131 : Dis og130 (some g2) := Dis.app hg_ (Dis.symm d102) lt_og130_0
            have d132 : Dis og130 og97 := Dis.app hg_ d106 lt_og130_1
            have d133 : Dis og130 (some c_) := Dis.app hg_ d107 lt_og130_2
            have d134 : Dis og130 og64 := Dis.app hg_ d108 lt_og130_3
            refine st 5 (t_assign (o_t 81 rfl) rfl rfl) rfl rfl hL fun a s e_ hL => ?_
            refine en' ?_
            show K114 a s.w
            refine hK114 _ _ ?_
            obtain ⟨h135, h⟩ := h
            refine rg ?_
            refine st 82 (t_add (o_t 58 rfl) (o_i (by decide)) h135 rfl rfl) rfl rfl hL fun a s e_ hL => ?_
            refine st 58 (t_move (o_t 82 rfl) rfl rfl) rfl rfl hL fun a s e_ hL => ?_
            refine en' ?_
            exact hKL101 k100 a s (Nat.lt_succ_self _) ⟨(list94 ++ [(e116.2, i35, e116.1)]), (mput seen96 r125 true), (v98 + 1), og130, og97, hL.keep (.cons (t := 1) rfl (fun _ h_ => h_.elim) (.cons (t := 2) rfl (fun _ h_ => h_.elim) (.cons (t := 4) rfl (fun _ _ h_ => h_) (.cons (t := 5) rfl (fun _ _ h_ => h_) (.cons (t := 6) rfl (fun _ _ h_ => h_) (.cons (t := 7) rfl (fun _ h_ => h_.elim) (.cons (t := 56) rfl (fun _ h_ => h_.elim) (.cons (t := 57) rfl (fun _ h_ => h_.elim) (.cons (t := 58) rfl (fun _ h_ => h_.elim) (.cons (t := 999901) rfl (fun _ _ h_ => h_) .nil)))))))))), (Dis.symm d131), d103, d104, d105, d132, d133, d134, d109, d110, d111, h⟩
          · replace h := h.2 hb_
            refine wp_skip ?_
            show K114 a s.w
            refine hK114 _ _ ?_
            obtain ⟨h136, h⟩ := h
            refine rg ?_
            refine st 82 (t_add (o_t 58 rfl) (o_i (by decide)) h136 rfl rfl) rfl rfl hL fun a s e_ hL => ?_
            refine st 58 (t_move (o_t 82 rfl) rfl rfl) rfl rfl hL fun a s e_ hL => ?_
            refine en' ?_
            exact hKL101 k100 a s (Nat.lt_succ_self _) ⟨list94, seen96, (v98 + 1), og95, og97, hL.keep (.cons (t := 1) rfl (fun _ h_ => h_.elim) (.cons (t := 2) rfl (fun _ h_ => h_.elim) (.cons (t := 4) rfl (fun _ _ h_ => h_) (.cons (t := 5) rfl (fun _ _ h_ => h_) (.cons (t := 6) rfl (fun _ _ h_ => h_) (.cons (t := 7) rfl (fun _ h_ => h_.elim) (.cons (t := 56) rfl (fun _ h_ => h_.elim) (.cons (t := 57) rfl (fun _ h_ => h_.elim) (.cons (t := 58) rfl (fun _ h_ => h_.elim) (.cons (t := 999901) rfl (fun _ _ h_ => h_) .nil)))))))))), d102, d103, d104, d105, d106, d107, d108, d109, d110, d111, h⟩
        · replace h := h.2 hb_
          refine wp_exit ?_
          exact J82 list94 seen96 og95 og97 a s (hL.keep (.cons (t := 1) rfl (fun _ h_ => h_.elim) (.cons (t := 2) rfl (fun _ h_ => h_.elim) (.cons (t := 4) rfl (fun _ _ h_ => h_) (.cons (t := 5) rfl (fun _ _ h_ => h_) (.cons (t := 6) rfl (fun _ _ h_ => h_) (.cons (t := 7) rfl (fun _ h_ => h_.elim) (.cons (t := 999901) rfl (fun _ _ h_ => h_) .nil)))))))) d102 d103 d104 d105 d106 d107 d108 d109 d110 d111 h
  · replace h := h.2 hb_
    refine wp_exit ?_
    exact J22 v30 list31 v36 og32 og37 a s (hL.keep (.cons (t := 4) rfl (fun _ _ h_ => h_) (.cons (t := 5) rfl (fun _ _ h_ => h_) (.cons (t := 999901) rfl (fun _ _ h_ => h_) .nil)))) d41 d43 d44 d46 d47 d50 h

theorem search_Find_ok {t_ : STable} {budget_ : Int} {r_ : SVerdict} (h : search_Find t_ budget_ r_) : Fn Tryd.prog 31 [(Pd.rep En.STable t_), (Pd.rep (En.int .i64) budget_)] (Rq (Pd.rep En.SVerdict r_)) := by
  unfold search_Find at h
  refine fn_of Tryd.func31 rfl Tryd.ntmps31 (by rfl) (by simp) fun s0 a hL => ?_
  refine wp_seq_k fun K1 hK1 => ?_
  refine rg ?_
  refine st 2 (t_box (o_t 0 rfl) rfl rfl) rfl rfl hL fun a s e_ hL => ?_
  refine st_alloc En.SVerdict (z := (0, [], [], 0, 0, 0, 0)) 4 hL tyz57 rfl rfl rfl rfl fun a s g2 hg_ hL => ?_
  refine en' ?_
  show K1 a s.w
  refine hK1 _ _ ?_
  refine wp_seq_k fun K3 hK3 => ?_
  obtain ⟨r4, h5, r6, h7, h⟩ := h
  refine rg ?_
  refine st 5 (t_load ty45 (o_t 2 rfl) rfl rfl) rfl rfl hL fun a s e_ hL => ?_
  refine st 6 (t_q (Pd.rep EnF99 (fun q_ => search_Find_1 q_.1 t_ q_.2)) (t_mkfun (cs := [.tmp 2]) (.cons (o_t 2 rfl) .nil) (call_of Tryd.func57 rfl (by rfl)) (enc_cons enc_ptr enc_nil) (fun q_ h_ => search_Find_1_ok h_) rfl rfl)) rfl rfl hL fun a s e_ hL => ?_
  refine st 7 (t_call (search_space_ok h5) (xs := [.tmp 5, .tmp 6]) (.cons (o_t 5 rfl) (.cons (o_t 6 rfl) .nil)) rfl rfl) rfl rfl hL fun a s e_ hL => ?_
  refine st 8 (t_move (o_t 1 rfl) rfl rfl) rfl rfl hL fun a s e_ hL => ?_
  refine st 9 (t_call (search_Space_int_Walk_ok h7) (xs := [.tmp 7, .tmp 8]) (.cons (o_t 7 rfl) (.cons (o_t 8 rfl) .nil)) rfl rfl) rfl rfl hL fun a s e_ hL => ?_
  refine st 10 (t_fv (off := 0) (o_t 9 rfl) rfl Tryd.underlying97 rfl (prt_fst (prt_all _ _)) rfl ty57 rfl rfl) rfl rfl hL fun a s e_ hL => ?_
  refine st_stb (L' := []) 4 hL rfl (o_t 10 rfl) ty57 rfl rfl rfl .nil fun s hL => ?_
  refine en' ?_
  show K3 a s.w
  refine hK3 _ _ ?_
  subst h
  exact wp_ret (retb rfl ty57 hL rfl)

theorem search_Things_ok {t_ : STable} {r_ : (List Int)} (h : search_Things t_ r_) : Fn Tryd.prog 28 [(Pd.rep En.STable t_)] (Rq (Pd.rep (En.slice (En.int .i64)) r_)) := by
  unfold search_Things at h
  refine fn_of Tryd.func28 rfl Tryd.ntmps28 (by rfl) (by simp) fun s0 a hL => ?_
  refine wp_seq_k fun K1 hK1 => ?_
  refine rg ?_
  refine st 1 (t_box (o_t 0 rfl) rfl rfl) rfl rfl hL fun a s e_ hL => ?_
  refine st 2 (t_assign (o_nilr (E := (En.int .i64))) rfl rfl) rfl rfl hL fun a s e_ hL => ?_
  refine en' ?_
  show K1 a s.w
  refine hK1 _ _ ?_
  refine wp_seq_k fun K2 hK2 => ?_
  refine rg ?_
  refine st_allocg 3 3 hL tyn47 rfl rfl rfl rfl fun a s g3 hg_ hL => ?_
  replace h := h g3
  refine en' ?_
  show K2 a s.w
  refine hK2 _ _ ?_
  refine wp_seq_k fun K4 hK4 => ?_
  obtain ⟨r5, h6, r7, h8, h⟩ := h
  refine rda follows 6 [(Pd.rep En.STable t_), (Pd.rep En.raw (hv 55 g3)), (Pd.rep En.SSpace_int_searchR r5), (Pd.ptr (En.slice (En.slice En.SWay)) t_.1), (Pd.rep (En.slice (En.slice En.SWay)) t_.1), (Pd.rep (En.int .i64) (t_.1.length : Int))] hL (by kernel_rfl) rfl rfl ?_ ?_
  · refine AllT.cons (t_load ty45 (o_t 1 rfl) rfl rfl) ?_
    refine AllT.cons (t_mkraw (x := 3) rfl rfl rfl) ?_
    refine AllT.cons (t_call (search_space_g_ok h6) (xs := [.tmp 4, .tmp 5]) (.cons (o_t 4 rfl) (.cons (o_t 5 rfl) .nil)) rfl rfl) ?_
    refine AllT.cons (t_fa (off := 0) (o_t 1 rfl) Tryd.underlying45 rfl (prt_fst (prt_all _ _)) rfl ty42 rfl rfl) ?_
    refine AllT.cons (t_load ty42 (o_t 7 rfl) rfl rfl) ?_
    refine AllT.cons (t_len (o_t 8 rfl) Tryd.underlying42 rfl rfl) ?_
    exact AllT.nil
  intro a s e_ hL
  refine st_callg (L' := []) 10 3 hL rfl (search_Space_int_Walk_g_ok h8) (xs := [.tmp 6, .tmp 9]) (.cons (o_t 6 rfl) (.cons (o_t 9 rfl) .nil)) rfl rfl rfl rfl (by decide) .nil fun a s hL => ?_
  refine en' ?_
  show K4 a s.w
  refine hK4 _ _ ?_
  refine wp_seq_k fun K9 hK9 => ?_
  refine rg ?_
  refine st 11 (t_load ty47 (o_t 3 rfl) rfl rfl) rfl rfl hL fun a s e_ hL => ?_
  refine st 2 (t_assign (o_t 11 rfl) rfl rfl) rfl rfl hL fun a s e_ hL => ?_
  refine en' ?_
  show K9 a s.w
  refine hK9 _ _ ?_
  subst h
  exact wp_ret (retq rfl hL rfl)

theorem search_Form_1_1_ok {w_ : SWay} {cap0_ : Int} {r_ : Bool} (h : search_Form_1_1 w_ cap0_ r_) : Fn Tryd.prog 53 [(Pd.rep En.SWay w_), (Pd.ptr (En.int .i64) cap0_)] (Rq (Pd.rep En.bool r_)) := by
  unfold search_Form_1_1 at h
  refine fn_of Tryd.func53 rfl Tryd.ntmps53 (by rfl) (by simp) fun s0 a hL => ?_
  refine wp_seq_k fun K1 hK1 => ?_
  refine rg ?_
  refine st 2 (t_box (o_t 0 rfl) rfl rfl) rfl rfl hL fun a s e_ hL => ?_
  refine st 3 (t_assign o_b rfl rfl) rfl rfl hL fun a s e_ hL => ?_
  refine en' ?_
  show K1 a s.w
  refine hK1 _ _ ?_
  refine wp_seq_k fun K2 hK2 => ?_
  refine rg ?_
  refine st 4 (t_fa (off := 1) (o_t 2 rfl) Tryd.underlying62 rfl (prt_snd (prt_all _ _) rfl) rfl ty3 rfl rfl) rfl rfl hL fun a s e_ hL => ?_
  refine st 5 (t_load ty3 (o_t 4 rfl) rfl rfl) rfl rfl hL fun a s e_ hL => ?_
  refine st 6 (t_lss (o_t 5 rfl) (o_i (by decide)) rfl rfl) rfl rfl hL fun a s e_ hL => ?_
  refine st 7 (t_move (o_t 6 rfl) rfl rfl) rfl rfl hL fun a s e_ hL => ?_
  refine st 8 (t_g1 rfl rfl rfl (fun hc_ => t_fa (off := 1) (o_t 2 rfl) Tryd.underlying62 rfl (prt_snd (prt_all _ _) rfl) rfl ty3 rfl rfl)) rfl rfl hL fun a s e_ hL => ?_
  refine st 9 (t_g1 rfl rfl rfl (fun hc_ => t_load ty3 (o_w hc_ 8 rfl) rfl rfl)) rfl rfl hL fun a s e_ hL => ?_
  refine st 10 (t_g1 rfl rfl rfl (fun hc_ => t_load ty3 (o_t 1 rfl) rfl rfl)) rfl rfl hL fun a s e_ hL => ?_
  refine st 11 (t_g1 rfl rfl rfl (fun hc_ => t_geq (o_w hc_ 9 rfl) (o_w hc_ 10 rfl) rfl rfl)) rfl rfl hL fun a s e_ hL => ?_
  refine st 12 (t_or (o_t 7 rfl) (fun hc2_ => (o_w hc2_ 11 rfl)) rfl rfl) rfl rfl hL fun a s e_ hL => ?_
  refine st 3 (t_assign (o_t 12 rfl) rfl rfl) rfl rfl hL fun a s e_ hL => ?_
  refine en' ?_
  show K2 a s.w
  refine hK2 _ _ ?_
  subst h
  exact wp_ret (retq rfl hL rfl)

theorem search_Form_1_ok {l_ : (List SWay)} {cap0_ : Int} {r_ : Bool} (h : search_Form_1 l_ cap0_ r_) : Fn Tryd.prog 51 [(Pd.rep (En.slice En.SWay) l_), (Pd.ptr (En.int .i64) cap0_)] (Rq (Pd.rep En.bool r_)) := by
  unfold search_Form_1 at h
  refine fn_of Tryd.func51 rfl Tryd.ntmps51 (by rfl) (by simp) fun s0 a hL => ?_
  refine wp_seq_k fun K1 hK1 => ?_
  refine rg ?_
  refine st 3 (t_assign o_b rfl rfl) rfl rfl hL fun a s e_ hL => ?_
  refine en' ?_
  show K1 a s.w
  refine hK1 _ _ ?_
  refine wp_seq_k fun K2 hK2 => ?_
  obtain ⟨r3, h4, h⟩ := h
  refine rg ?_
  refine st 4 (t_move (o_t 0 rfl) rfl rfl) rfl rfl hL fun a s e_ hL => ?_
  refine st 5 (t_q (Pd.rep EnF94 (fun q_ => search_Form_1_1 q_.1 cap0_ q_.2)) (t_mkfun (cs := [.tmp 1]) (.cons (o_t 1 rfl) .nil) (call_of Tryd.func53 rfl (by rfl)) (enc_cons enc_ptr enc_nil) (fun q_ h_ => search_Form_1_1_ok h_) rfl rfl)) rfl rfl hL fun a s e_ hL => ?_
  refine st 6 (t_call (slices_ContainsFunc_Lapi_Way_api_Way_ok h4) (xs := [.tmp 4, .tmp 5]) (.cons (o_t 4 rfl) (.cons (o_t 5 rfl) .nil)) rfl rfl) rfl rfl hL fun a s e_ hL => ?_
  refine st 3 (t_assign (o_t 6 rfl) rfl rfl) rfl rfl hL fun a s e_ hL => ?_
  refine en' ?_
  show K2 a s.w
  refine hK2 _ _ ?_
  subst h
  exact wp_ret (retq rfl hL rfl)

theorem search_Form_ok {t_ : STable} {r_ : Bool} (h : search_Form t_ r_) : Fn Tryd.prog 26 [(Pd.rep En.STable t_)] (Rq (Pd.rep En.bool r_)) := by
  unfold search_Form at h
  refine fn_of Tryd.func26 rfl Tryd.ntmps26 (by rfl) (by simp) fun s0 a hL => ?_
  refine wp_seq_k fun K1 hK1 => ?_
  refine rg ?_
  refine st 1 (t_box (o_t 0 rfl) rfl rfl) rfl rfl hL fun a s e_ hL => ?_
  refine st 2 (t_assign o_b rfl rfl) rfl rfl hL fun a s e_ hL => ?_
  refine en' ?_
  show K1 a s.w
  refine hK1 _ _ ?_
  refine wp_seq_k fun K2 hK2 => ?_
  refine rg ?_
  refine st 4 (t_fa (off := 0) (o_t 1 rfl) Tryd.underlying45 rfl (prt_fst (prt_all _ _)) rfl ty42 rfl rfl) rfl rfl hL fun a s e_ hL => ?_
  refine st 5 (t_load ty42 (o_t 4 rfl) rfl rfl) rfl rfl hL fun a s e_ hL => ?_
  refine st 6 (t_len (o_t 5 rfl) Tryd.underlying42 rfl rfl) rfl rfl hL fun a s e_ hL => ?_
  refine st_alloc (En.int .i64) (z := 0) 3 hL tyz3 rfl rfl rfl rfl fun a s g3 hg_ hL => ?_
  refine st_stb (L' := [(1, (Pd.ptr En.STable t_))]) 3 hL rfl (o_t 6 rfl) ty3 rfl rfl rfl (.cons (t := 1) rfl (fun _ h_ => h_.elim) .nil) fun s hL => ?_
  refine en' ?_
  show K2 a s.w
  refine hK2 _ _ ?_
  refine wp_seq_k fun K4 hK4 => ?_
  obtain ⟨s6, h5, hL⟩ := hL.freezeb (L' := [(1, (Pd.ptr En.STable t_))]) 3 rfl (.cons (t := 1) rfl (fun _ h_ => h_.elim) .nil)
  rw [← h5]
  clear h5
  generalize s6 = s at *
  obtain ⟨b7, h8, r9, h10, h⟩ := h
  refine rg ?_
  refine st 7 (t_load ty3 (o_t 3 rfl) rfl rfl) rfl rfl hL fun a s e_ hL => ?_
  refine st 8 (t_gtr (o_t 7 rfl) (o_i (by decide)) rfl rfl) rfl rfl hL fun a s e_ hL => ?_
  refine st 9 (t_move (o_t 8 rfl) rfl rfl) rfl rfl hL fun a s e_ hL => ?_
  refine st 10 (t_g1 rfl rfl rfl (fun hc_ => t_fa (off := 1) (o_t 1 rfl) Tryd.underlying45 rfl (prt_snd (prt_all _ _) rfl) rfl ty43 rfl rfl)) rfl rfl hL fun a s e_ hL => ?_
  refine st 11 (t_g1 rfl rfl rfl (fun hc_ => t_load ty43 (o_w hc_ 10 rfl) rfl rfl)) rfl rfl hL fun a s e_ hL => ?_
  refine st 12 (t_g1 rfl rfl rfl (fun hc_ => t_len (o_w hc_ 11 rfl) Tryd.underlying43 rfl rfl)) rfl rfl hL fun a s e_ hL => ?_
  refine st 13 (t_g1 rfl rfl rfl (fun hc_ => t_load ty3 (o_t 3 rfl) rfl rfl)) rfl rfl hL fun a s e_ hL => ?_
  refine st 14 (t_g1 rfl rfl rfl (fun hc_ => t_eqi (o_w hc_ 12 rfl) (o_w hc_ 13 rfl) rfl rfl)) rfl rfl hL fun a s e_ hL => ?_
  refine st 15 (h8 ▸ (t_and (o_t 9 rfl) (fun hc2_ => (o_w hc2_ 14 rfl)) rfl rfl)) rfl rfl hL fun a s e_ hL => ?_
  refine st 16 (t_move (o_t 15 rfl) rfl rfl) rfl rfl hL fun a s e_ hL => ?_
  refine st 17 (t_g1 rfl rfl rfl (fun hc_ => t_fa (off := 0) (o_t 1 rfl) Tryd.underlying45 rfl (prt_fst (prt_all _ _)) rfl ty42 rfl rfl)) rfl rfl hL fun a s e_ hL => ?_
  refine st 18 (t_g1 rfl rfl rfl (fun hc_ => t_load ty42 (o_w hc_ 17 rfl) rfl rfl)) rfl rfl hL fun a s e_ hL => ?_
  refine st 19 (t_g1 rfl rfl rfl (fun hc_ => t_q (Pd.rep EnF95 (fun q_ => search_Form_1 q_.1 (t_.1.length : Int) q_.2)) (t_mkfun (cs := [.tmp 3]) (.cons (o_t 3 rfl) .nil) (call_of Tryd.func51 rfl (by rfl)) (enc_cons enc_ptr enc_nil) (fun q_ h_ => search_Form_1_ok h_) rfl rfl))) rfl rfl hL fun a s e_ hL => ?_
  refine st 20 (t_g1 rfl rfl rfl (fun hc_ => t_call (slices_ContainsFunc_api_Way_api_Way_ok (h10 hc_)) (xs := [.tmp 18, .tmp 19]) (.cons (o_w hc_ 18 rfl) (.cons (o_w hc_ 19 rfl) .nil)) rfl rfl)) rfl rfl hL fun a s e_ hL => ?_
  refine st 21 (t_g1 rfl rfl rfl (fun hc_ => t_not (o_w hc_ 20 rfl) rfl rfl)) rfl rfl hL fun a s e_ hL => ?_
  refine st 22 (t_and (o_t 16 rfl) (fun hc2_ => (o_w hc2_ 21 rfl)) rfl rfl) rfl rfl hL fun a s e_ hL => ?_
  refine st 2 (t_assign (o_t 22 rfl) rfl rfl) rfl rfl hL fun a s e_ hL => ?_
  refine en' ?_
  show K4 a s.w
  refine hK4 _ _ ?_
  subst h
  exact wp_ret (retq rfl hL rfl)

theorem law17_awake_ok  {r_ : Bool} (h : law17_awake  r_) : Fn Tryd.prog 24 [] (Rq (Pd.rep En.bool r_)) := by
  unfold law17_awake at h
  refine fn_of Tryd.func24 rfl Tryd.ntmps24 (by rfl) (by simp) fun s0 a hL => ?_
  refine wp_seq_k fun K1 hK1 => ?_
  refine rg ?_
  refine st 0 (t_assign o_b rfl rfl) rfl rfl hL fun a s e_ hL => ?_
  refine en' ?_
  show K1 a s.w
  refine hK1 _ _ ?_
  refine wp_seq_k fun K2 hK2 => ?_
  refine rg ?_
  refine st 5 (t_lit (xs := [.const (.slice none 0 0)]) (.cons o_nilr .nil) Tryd.underlying42 ty60 rfl rfl (by decide) rfl rfl) rfl rfl hL fun a s e_ hL => ?_
  refine st 6 (t_lit (xs := [.const (.bool false)]) (.cons o_b .nil) Tryd.underlying43 ty4 rfl rfl (by decide) rfl rfl) rfl rfl hL fun a s e_ hL => ?_
  refine st 7 (t_build (x := ([([] : (List SWay))], [false])) (ps := [(0, .tmp 5), (1, .tmp 6)]) tyz45 rfl stt45 (.cons (i := 0) (o_t 5 rfl) rfl (sub_fst (sub_all _ _ _)) (.cons (i := 1) (o_t 6 rfl) rfl (sub_snd (sub_all _ _ _) rfl) .nil)) rfl rfl) rfl rfl hL fun a s e_ hL => ?_
  refine st_alloc En.STable (z := ([], [])) 1 hL tyz45 rfl rfl rfl rfl fun a s g3 hg_ hL => ?_
  refine st_stb (L' := []) 1 hL rfl (o_t 7 rfl) ty45 rfl rfl rfl .nil fun s hL => ?_
  refine en' ?_
  show K2 a s.w
  refine hK2 _ _ ?_
  refine wp_seq_k fun K4 hK4 => ?_
  refine rg ?_
  refine st 8 (t_build (x := (1, 2)) (ps := [(0, .const (.int .u8 1)), (1, .const (.int .i64 2))]) tyz62 rfl stt62 (.cons (i := 0) (o_i (by decide)) rfl (sub_fst (sub_all _ _ _)) (.cons (i := 1) (o_i (by decide)) rfl (sub_snd (sub_all _ _ _) rfl) .nil)) rfl rfl) rfl rfl hL fun a s e_ hL => ?_
  refine st 9 (t_build (x := (2, 1)) (ps := [(0, .const (.int .u8 2)), (1, .const (.int .i64 1))]) tyz62 rfl stt62 (.cons (i := 0) (o_i (by decide)) rfl (sub_fst (sub_all _ _ _)) (.cons (i := 1) (o_i (by decide)) rfl (sub_snd (sub_all _ _ _) rfl) .nil)) rfl rfl) rfl rfl hL fun a s e_ hL => ?_
  refine st 10 (t_lit (xs := [.tmp 8, .tmp 9]) (.cons (o_t 8 rfl) (.cons (o_t 9 rfl) .nil)) Tryd.underlying60 ty62 rfl rfl (by decide) rfl rfl) rfl rfl hL fun a s e_ hL => ?_
  refine st 11 (t_build (x := (3, 3)) (ps := [(0, .const (.int .u8 3)), (1, .const (.int .i64 3))]) tyz62 rfl stt62 (.cons (i := 0) (o_i (by decide)) rfl (sub_fst (sub_all _ _ _)) (.cons (i := 1) (o_i (by decide)) rfl (sub_snd (sub_all _ _ _) rfl) .nil)) rfl rfl) rfl rfl hL fun a s e_ hL => ?_
  refine st 12 (t_lit (xs := [.tmp 11]) (.cons (o_t 11 rfl) .nil) Tryd.underlying60 ty62 rfl rfl (by decide) rfl rfl) rfl rfl hL fun a s e_ hL => ?_
  refine st 13 (t_build (x := (4, 0)) (ps := [(0, .const (.int .u8 4)), (1, .const (.int .i64 0))]) tyz62 rfl stt62 (.cons (i := 0) (o_i (by decide)) rfl (sub_fst (sub_all _ _ _)) (.cons (i := 1) (o_i (by decide)) rfl (sub_snd (sub_all _ _ _) rfl) .nil)) rfl rfl) rfl rfl hL fun a s e_ hL => ?_
  refine st 14 (t_lit (xs := [.tmp 13]) (.cons (o_t 13 rfl) .nil) Tryd.underlying60 ty62 rfl rfl (by decide) rfl rfl) rfl rfl hL fun a s e_ hL => ?_
  refine st 15 (t_lit (xs := [.tmp 10, .tmp 12, .tmp 14, .const (.slice none 0 0)]) (.cons (o_t 10 rfl) (.cons (o_t 12 rfl) (.cons (o_t 14 rfl) (.cons o_nilr .nil)))) Tryd.underlying42 ty60 rfl rfl (by decide) rfl rfl) rfl rfl hL fun a s e_ hL => ?_
  refine st 16 (t_lit (xs := [.const (.bool false), .const (.bool false), .const (.bool false), .const (.bool true)]) (.cons o_b (.cons o_b (.cons o_b (.cons o_b .nil)))) Tryd.underlying43 ty4 rfl rfl (by decide) rfl rfl) rfl rfl hL fun a s e_ hL => ?_
  refine st 17 (t_build (x := ([[(1, 2), (2, 1)], [(3, 3)], [(4, 0)], ([] : (List SWay))], [false, false, false, true])) (ps := [(0, .tmp 15), (1, .tmp 16)]) tyz45 rfl stt45 (.cons (i := 0) (o_t 15 rfl) rfl (sub_fst (sub_all _ _ _)) (.cons (i := 1) (o_t 16 rfl) rfl (sub_snd (sub_all _ _ _) rfl) .nil)) rfl rfl) rfl rfl hL fun a s e_ hL => ?_
  have lt_d6 := hL.blt 1 rfl
  refine st_alloc En.STable (z := ([], [])) 2 hL tyz45 rfl rfl rfl rfl fun a s g5 hg_ hL => ?_
  have d6 : Dis (some g5) (some g3) := Dis.newg hg_ lt_d6
  refine st_stb (L' := [(1, (Pd.box En.STable s0.w.heap.size g3 ([([] : (List SWay))], [false])))]) 2 hL rfl (o_t 17 rfl) ty45 rfl rfl rfl (.cons (t := 1) rfl (Dis.bx (Dis.symm d6)) .nil) fun s hL => ?_
  refine en' ?_
  show K4 a s.w
  refine hK4 _ _ ?_
  refine wp_seq_k fun K7 hK7 => ?_
  obtain ⟨r8, h9, h⟩ := h
  refine rg ?_
  refine st 18 (t_loadb ty45 (o_t 2 rfl) rfl rfl) rfl rfl hL fun a s e_ hL => ?_
  refine st 19 (t_call (search_Find_ok h9) (xs := [.tmp 18, .const (.int .i64 4)]) (.cons (o_t 18 rfl) (.cons (o_i (by decide)) .nil)) rfl rfl) rfl rfl hL fun a s e_ hL => ?_
  have lt_d12 := hL.blt 2 rfl
  have lt_d11 := hL.blt 1 rfl
  refine st_alloc En.SVerdict (z := (0, [], [], 0, 0, 0, 0)) 3 hL tyz57 rfl rfl rfl rfl fun a s g10 hg_ hL => ?_
  have d11 : Dis (some g10) (some g3) := Dis.newg hg_ lt_d11
  have d12 : Dis (some g10) (some g5) := Dis.newg hg_ lt_d12
  refine st_stb (L' := [(1, (Pd.box En.STable s0.w.heap.size g3 ([([] : (List SWay))], [false]))), (2, (Pd.box En.STable s0.w.heap.size g5 ([[(1, 2), (2, 1)], [(3, 3)], [(4, 0)], ([] : (List SWay))], [false, false, false, true])))]) 3 hL rfl (o_t 19 rfl) ty57 rfl rfl rfl (.cons (t := 1) rfl (Dis.bx (Dis.symm d11)) (.cons (t := 2) rfl (Dis.bx (Dis.symm d12)) .nil)) fun s hL => ?_
  refine en' ?_
  show K7 a s.w
  refine hK7 _ _ ?_
  refine wp_seq_k fun K13 hK13 => ?_
  obtain ⟨r14, h15, h⟩ := h
  refine rg ?_
  refine st 20 (t_loadb ty45 (o_t 2 rfl) rfl rfl) rfl rfl hL fun a s e_ hL => ?_
  refine st 21 (t_call (search_Things_ok h15) (xs := [.tmp 20]) (.cons (o_t 20 rfl) .nil) rfl rfl) rfl rfl hL fun a s e_ hL => ?_
  refine st 4 (t_assign (o_t 21 rfl) rfl rfl) rfl rfl hL fun a s e_ hL => ?_
  refine en' ?_
  show K13 a s.w
  refine hK13 _ _ ?_
  refine wp_seq_k fun K16 hK16 => ?_
  refine wp_seq_k fun K17 hK17 => ?_
  refine rg ?_
  refine st 22 (t_move (o_t 4 rfl) rfl rfl) rfl rfl hL fun a s e_ hL => ?_
  refine st 23 (t_len (o_t 22 rfl) Tryd.underlying47 rfl rfl) rfl rfl hL fun a s e_ hL => ?_
  refine st 24 (t_nei (o_t 23 rfl) (o_i (by decide)) rfl rfl) rfl rfl hL fun a s e_ hL => ?_
  refine en' ?_
  show K17 a s.w
  refine hK17 _ _ ?_
  refine cnd hL rfl (fun hb_ => ?_) (fun hb_ => ?_)
  · replace h := h.1 hb_
    refine wp_seq_k fun K18 hK18 => ?_
    refine rg ?_
    refine st 0 (t_assign o_b rfl rfl) rfl rfl hL fun a s e_ hL => ?_
    refine en' ?_
    show K18 a s.w
    refine hK18 _ _ ?_
    subst h
    exact wp_ret (retq rfl hL rfl)
  · replace h := h.2 hb_
    refine wp_skip ?_
    show K16 a s.w
    refine hK16 _ _ ?_
    refine wp_seq_k fun K19 hK19 => ?_
    obtain ⟨r20, h21, r22, h23, r24, h25, b26, h27, r28, h29, b30, h31, r32, h33, e34, h35, e36, h37, b38, h39, r40, h41, r42, h43, r44, h45, h⟩ := h
    refine rg ?_
    refine st 25 (t_loadb ty45 (o_t 1 rfl) rfl rfl) rfl rfl hL fun a s e_ hL => ?_
    refine st 26 (t_call (search_Find_ok h21) (xs := [.tmp 25, .const (.int .i64 1)]) (.cons (o_t 25 rfl) (.cons (o_i (by decide)) .nil)) rfl rfl) rfl rfl hL fun a s e_ hL => ?_
    refine st 27 (t_fv (off := 0) (o_t 26 rfl) rfl Tryd.underlying57 rfl (prt_fst (prt_all _ _)) rfl ty3 rfl rfl) rfl rfl hL fun a s e_ hL => ?_
    refine st 28 (t_eqi (o_t 27 rfl) (o_i (by decide)) rfl rfl) rfl rfl hL fun a s e_ hL => ?_
    refine st 29 (t_move (o_t 28 rfl) rfl rfl) rfl rfl hL fun a s e_ hL => ?_
    refine st 30 (t_g1 rfl rfl rfl (fun hc_ => t_loadb ty45 (o_t 1 rfl) rfl rfl)) rfl rfl hL fun a s e_ hL => ?_
    refine st 31 (t_g1 rfl rfl rfl (fun hc_ => t_call (search_Find_ok (h23 hc_)) (xs := [.tmp 30, .const (.int .i64 0)]) (.cons (o_w hc_ 30 rfl) (.cons (o_i (by decide)) .nil)) rfl rfl)) rfl rfl hL fun a s e_ hL => ?_
    refine st 32 (t_g1 rfl rfl rfl (fun hc_ => t_fv (off := 0) (o_w hc_ 31 rfl) rfl Tryd.underlying57 rfl (prt_fst (prt_all _ _)) rfl ty3 rfl rfl)) rfl rfl hL fun a s e_ hL => ?_
    refine st 33 (t_g1 rfl rfl rfl (fun hc_ => t_eqi (o_w hc_ 32 rfl) (o_i (by decide)) rfl rfl)) rfl rfl hL fun a s e_ hL => ?_
    refine st 34 (t_and (o_t 29 rfl) (fun hc2_ => (o_w hc2_ 33 rfl)) rfl rfl) rfl rfl hL fun a s e_ hL => ?_
    refine st 35 (t_move (o_t 34 rfl) rfl rfl) rfl rfl hL fun a s e_ hL => ?_
    refine st 36 (t_g1 rfl rfl rfl (fun hc_ => t_loadb ty45 (o_t 1 rfl) rfl rfl)) rfl rfl hL fun a s e_ hL => ?_
    refine st 37 (t_g1 rfl rfl rfl (fun hc_ => t_call (search_Find_ok (h25 hc_)) (xs := [.tmp 36, .const (.int .i64 (-5))]) (.cons (o_w hc_ 36 rfl) (.cons (o_i (by decide)) .nil)) rfl rfl)) rfl rfl hL fun a s e_ hL => ?_
    refine st 38 (t_g1 rfl rfl rfl (fun hc_ => t_fv (off := 6) (o_w hc_ 37 rfl) rfl Tryd.underlying57 rfl (prt_snd (prt_snd (prt_snd (prt_snd (prt_snd (prt_snd (prt_all _ _) rfl) rfl) rfl) rfl) rfl) rfl) rfl ty3 rfl rfl)) rfl rfl hL fun a s e_ hL => ?_
    refine st 39 (t_g1 rfl rfl rfl (fun hc_ => t_eqi (o_w hc_ 38 rfl) (o_i (by decide)) rfl rfl)) rfl rfl hL fun a s e_ hL => ?_
    refine st 40 (h27 ▸ (t_and (o_t 35 rfl) (fun hc2_ => (o_w hc2_ 39 rfl)) rfl rfl)) rfl rfl hL fun a s e_ hL => ?_
    refine st 41 (t_move (o_t 40 rfl) rfl rfl) rfl rfl hL fun a s e_ hL => ?_
    refine st 42 (t_g1 rfl rfl rfl (fun hc_ => t_fab (off := 0) (o_t 3 rfl) Tryd.underlying57 rfl (prt_fst (prt_all _ _)) rfl ty3 rfl rfl)) rfl rfl hL fun a s e_ hL => ?_
    refine st 43 (t_g1 rfl rfl rfl (fun hc_ => t_loado ty3 (o_w hc_ 42 rfl) rfl rfl)) rfl rfl hL fun a s e_ hL => ?_
    refine st 44 (t_g1 rfl rfl rfl (fun hc_ => t_eqi (o_w hc_ 43 rfl) (o_i (by decide)) rfl rfl)) rfl rfl hL fun a s e_ hL => ?_
    refine st 45 (t_and (o_t 41 rfl) (fun hc2_ => (o_w hc2_ 44 rfl)) rfl rfl) rfl rfl hL fun a s e_ hL => ?_
    refine st 46 (t_move (o_t 45 rfl) rfl rfl) rfl rfl hL fun a s e_ hL => ?_
    refine st 47 (t_g1 rfl rfl rfl (fun hc_ => t_fab (off := 6) (o_t 3 rfl) Tryd.underlying57 rfl (prt_snd (prt_snd (prt_snd (prt_snd (prt_snd (prt_snd (prt_all _ _) rfl) rfl) rfl) rfl) rfl) rfl) rfl ty3 rfl rfl)) rfl rfl hL fun a s e_ hL => ?_
    refine st 48 (t_g1 rfl rfl rfl (fun hc_ => t_loado ty3 (o_w hc_ 47 rfl) rfl rfl)) rfl rfl hL fun a s e_ hL => ?_
    refine st 49 (t_g1 rfl rfl rfl (fun hc_ => t_eqi (o_w hc_ 48 rfl) (o_i (by decide)) rfl rfl)) rfl rfl hL fun a s e_ hL => ?_
    refine st 50 (t_and (o_t 46 rfl) (fun hc2_ => (o_w hc2_ 49 rfl)) rfl rfl) rfl rfl hL fun a s e_ hL => ?_
    refine st 51 (t_move (o_t 50 rfl) rfl rfl) rfl rfl hL fun a s e_ hL => ?_
    refine st 52 (t_g1 rfl rfl rfl (fun hc_ => t_fab (off := 1) (o_t 3 rfl) Tryd.underlying57 rfl (prt_snd (prt_fst (prt_all _ _)) rfl) rfl ty51 rfl rfl)) rfl rfl hL fun a s e_ hL => ?_
    refine st 53 (t_g1 rfl rfl rfl (fun hc_ => t_loado ty51 (o_w hc_ 52 rfl) rfl rfl)) rfl rfl hL fun a s e_ hL => ?_
    refine st 54 (t_g1 rfl rfl rfl (fun hc_ => t_lit (xs := [.const (.int .u8 2), .const (.int .u8 3)]) (.cons (o_i (by decide)) (.cons (o_i (by decide)) .nil)) Tryd.underlying51 ty5 rfl rfl (by decide) rfl rfl)) rfl rfl hL fun a s e_ hL => ?_
    refine st 55 (t_g1 rfl rfl rfl (fun hc_ => t_call (ref02_Bytes_ok (h29 hc_)) (xs := [.tmp 53, .tmp 54]) (.cons (o_w hc_ 53 rfl) (.cons (o_w hc_ 54 rfl) .nil)) rfl rfl)) rfl rfl hL fun a s e_ hL => ?_
    refine st 56 (h31 ▸ (t_and (o_t 51 rfl) (fun hc2_ => (o_w hc2_ 55 rfl)) rfl rfl)) rfl rfl hL fun a s e_ hL => ?_
    refine st 57 (t_move (o_t 56 rfl) rfl rfl) rfl rfl hL fun a s e_ hL => ?_
    refine st 58 (t_g1 rfl rfl rfl (fun hc_ => t_loadb ty45 (o_t 2 rfl) rfl rfl)) rfl rfl hL fun a s e_ hL => ?_
    refine st 59 (t_g1 rfl rfl rfl (fun hc_ => t_call (search_Find_ok (h33 hc_)) (xs := [.tmp 58, .const (.int .i64 3)]) (.cons (o_w hc_ 58 rfl) (.cons (o_i (by decide)) .nil)) rfl rfl)) rfl rfl hL fun a s e_ hL => ?_
    refine st 60 (t_g1 rfl rfl rfl (fun hc_ => t_fv (off := 0) (o_w hc_ 59 rfl) rfl Tryd.underlying57 rfl (prt_fst (prt_all _ _)) rfl ty3 rfl rfl)) rfl rfl hL fun a s e_ hL => ?_
    refine st 61 (t_g1 rfl rfl rfl (fun hc_ => t_eqi (o_w hc_ 60 rfl) (o_i (by decide)) rfl rfl)) rfl rfl hL fun a s e_ hL => ?_
    refine st 62 (t_and (o_t 57 rfl) (fun hc2_ => (o_w hc2_ 61 rfl)) rfl rfl) rfl rfl hL fun a s e_ hL => ?_
    refine st 63 (t_move (o_t 62 rfl) rfl rfl) rfl rfl hL fun a s e_ hL => ?_
    refine st 64 (t_g1 rfl rfl rfl (fun hc_ => t_move (o_t 4 rfl) rfl rfl)) rfl rfl hL fun a s e_ hL => ?_
    refine st 65 (t_g1 rfl rfl rfl (fun hc_ => t_idx (o_w hc_ 64 rfl) (o_i (by decide)) (h35 hc_) Tryd.underlying47 ty3 rfl rfl)) rfl rfl hL fun a s e_ hL => ?_
    refine st 66 (t_g1 rfl rfl rfl (fun hc_ => t_load ty3 (o_w hc_ 65 rfl) rfl rfl)) rfl rfl hL fun a s e_ hL => ?_
    refine st 67 (t_g1 rfl rfl rfl (fun hc_ => t_eqi (o_w hc_ 66 rfl) (o_i (by decide)) rfl rfl)) rfl rfl hL fun a s e_ hL => ?_
    refine st 68 (t_and (o_t 63 rfl) (fun hc2_ => (o_w hc2_ 67 rfl)) rfl rfl) rfl rfl hL fun a s e_ hL => ?_
    refine st 69 (t_move (o_t 68 rfl) rfl rfl) rfl rfl hL fun a s e_ hL => ?_
    refine st 70 (t_g1 rfl rfl rfl (fun hc_ => t_move (o_t 4 rfl) rfl rfl)) rfl rfl hL fun a s e_ hL => ?_
    refine st 71 (t_g1 rfl rfl rfl (fun hc_ => t_idx (o_w hc_ 70 rfl) (o_i (by decide)) (h37 hc_) Tryd.underlying47 ty3 rfl rfl)) rfl rfl hL fun a s e_ hL => ?_
    refine st 72 (t_g1 rfl rfl rfl (fun hc_ => t_load ty3 (o_w hc_ 71 rfl) rfl rfl)) rfl rfl hL fun a s e_ hL => ?_
    refine st 73 (t_g1 rfl rfl rfl (fun hc_ => t_eqi (o_w hc_ 72 rfl) (o_i (by decide)) rfl rfl)) rfl rfl hL fun a s e_ hL => ?_
    refine st 74 (h39 ▸ (t_and (o_t 69 rfl) (fun hc2_ => (o_w hc2_ 73 rfl)) rfl rfl)) rfl rfl hL fun a s e_ hL => ?_
    refine st 75 (t_move (o_t 74 rfl) rfl rfl) rfl rfl hL fun a s e_ hL => ?_
    refine st 76 (t_g1 rfl rfl rfl (fun hc_ => t_loadb ty45 (o_t 2 rfl) rfl rfl)) rfl rfl hL fun a s e_ hL => ?_
    refine st 77 (t_g1 rfl rfl rfl (fun hc_ => t_call (search_Form_ok (h41 hc_)) (xs := [.tmp 76]) (.cons (o_w hc_ 76 rfl) .nil) rfl rfl)) rfl rfl hL fun a s e_ hL => ?_
    refine st 78 (t_and (o_t 75 rfl) (fun hc2_ => (o_w hc2_ 77 rfl)) rfl rfl) rfl rfl hL fun a s e_ hL => ?_
    refine st 79 (t_move (o_t 78 rfl) rfl rfl) rfl rfl hL fun a s e_ hL => ?_
    refine st 80 (t_g1 rfl rfl rfl (fun hc_ => t_build (x := ([], [])) (ps := []) tyz45 rfl stt45 .nil rfl rfl)) rfl rfl hL fun a s e_ hL => ?_
    refine st 81 (t_g1 rfl rfl rfl (fun hc_ => t_call (search_Form_ok (h43 hc_)) (xs := [.tmp 80]) (.cons (o_w hc_ 80 rfl) .nil) rfl rfl)) rfl rfl hL fun a s e_ hL => ?_
    refine st 82 (t_g1 rfl rfl rfl (fun hc_ => t_not (o_w hc_ 81 rfl) rfl rfl)) rfl rfl hL fun a s e_ hL => ?_
    refine st 83 (t_and (o_t 79 rfl) (fun hc2_ => (o_w hc2_ 82 rfl)) rfl rfl) rfl rfl hL fun a s e_ hL => ?_
    refine st 84 (t_move (o_t 83 rfl) rfl rfl) rfl rfl hL fun a s e_ hL => ?_
    refine st 85 (t_g1 rfl rfl rfl (fun hc_ => t_build (x := (0, 1)) (ps := [(1, .const (.int .i64 1))]) tyz62 rfl stt62 (.cons (i := 1) (o_i (by decide)) rfl (sub_snd (sub_all _ _ _) rfl) .nil) rfl rfl)) rfl rfl hL fun a s e_ hL => ?_
    refine st 86 (t_g1 rfl rfl rfl (fun hc_ => t_lit (xs := [.tmp 85]) (.cons (o_w hc_ 85 rfl) .nil) Tryd.underlying60 ty62 rfl rfl (by decide) rfl rfl)) rfl rfl hL fun a s e_ hL => ?_
    refine st 87 (t_g1 rfl rfl rfl (fun hc_ => t_lit (xs := [.tmp 86]) (.cons (o_w hc_ 86 rfl) .nil) Tryd.underlying42 ty60 rfl rfl (by decide) rfl rfl)) rfl rfl hL fun a s e_ hL => ?_
    refine st 88 (t_g1 rfl rfl rfl (fun hc_ => t_lit (xs := [.const (.bool false)]) (.cons o_b .nil) Tryd.underlying43 ty4 rfl rfl (by decide) rfl rfl)) rfl rfl hL fun a s e_ hL => ?_
    refine st 89 (t_g1 rfl rfl rfl (fun hc_ => t_build (x := ([[(0, 1)]], [false])) (ps := [(0, .tmp 87), (1, .tmp 88)]) tyz45 rfl stt45 (.cons (i := 0) (o_w hc_ 87 rfl) rfl (sub_fst (sub_all _ _ _)) (.cons (i := 1) (o_w hc_ 88 rfl) rfl (sub_snd (sub_all _ _ _) rfl) .nil)) rfl rfl)) rfl rfl hL fun a s e_ hL => ?_
    refine st 90 (t_g1 rfl rfl rfl (fun hc_ => t_call (search_Form_ok (h45 hc_)) (xs := [.tmp 89]) (.cons (o_w hc_ 89 rfl) .nil) rfl rfl)) rfl rfl hL fun a s e_ hL => ?_
    refine st 91 (t_g1 rfl rfl rfl (fun hc_ => t_not (o_w hc_ 90 rfl) rfl rfl)) rfl rfl hL fun a s e_ hL => ?_
    refine st 92 (t_and (o_t 84 rfl) (fun hc2_ => (o_w hc2_ 91 rfl)) rfl rfl) rfl rfl hL fun a s e_ hL => ?_
    refine st 0 (t_assign (o_t 92 rfl) rfl rfl) rfl rfl hL fun a s e_ hL => ?_
    refine en' ?_
    show K19 a s.w
    refine hK19 _ _ ?_
    subst h
    exact wp_ret (retq rfl hL rfl)

theorem ref17_Few_ok {t_ : STable} {r_ : Bool} (h : ref17_Few t_ r_) : Fn Tryd.prog 25 [(Pd.rep En.STable t_)] (Rq (Pd.rep En.bool r_)) := by
  unfold ref17_Few at h
  refine fn_of Tryd.func25 rfl Tryd.ntmps25 (by rfl) (by simp) fun s0 a hL => ?_
  refine wp_seq_k fun K1 hK1 => ?_
  refine rg ?_
  refine st 1 (t_box (o_t 0 rfl) rfl rfl) rfl rfl hL fun a s e_ hL => ?_
  refine st 2 (t_assign o_b rfl rfl) rfl rfl hL fun a s e_ hL => ?_
  refine en' ?_
  show K1 a s.w
  refine hK1 _ _ ?_
  refine wp_seq_k fun K2 hK2 => ?_
  refine rg ?_
  refine st 3 (t_assign (o_i (by decide)) rfl rfl) rfl rfl hL fun a s e_ hL => ?_
  refine en' ?_
  show K2 a s.w
  refine hK2 _ _ ?_
  refine wp_seq_k fun K3 hK3 => ?_
  refine wp_seq_k fun K4 hK4 => ?_
  refine rg ?_
  refine st 4 (t_assign (o_i (by decide)) rfl rfl) rfl rfl hL fun a s e_ hL => ?_
  refine en' ?_
  show K4 a s.w
  refine hK4 _ _ ?_
  refine wp_block ?_
  have J6 : ∀ (n5 : Int) (a : Act) (s : St), Has N0 38 s0 a s [(1, (Pd.ptr En.STable t_)), (3, (Pd.rep (En.int .i64) n5))] → ((ref17_Few.j1 t_ r_) n5) → K3 a s.w := by
    intro n5 a s hL h
    unfold ref17_Few.j1 at h
    show K3 a s.w
    refine hK3 _ _ ?_
    refine wp_seq_k fun K7 hK7 => ?_
    obtain ⟨b8, h9, h⟩ := h
    refine rg ?_
    refine st 24 (t_fa (off := 0) (o_t 1 rfl) Tryd.underlying45 rfl (prt_fst (prt_all _ _)) rfl ty42 rfl rfl) rfl rfl hL fun a s e_ hL => ?_
    refine st 25 (t_load ty42 (o_t 24 rfl) rfl rfl) rfl rfl hL fun a s e_ hL => ?_
    refine st 26 (t_len (o_t 25 rfl) Tryd.underlying42 rfl rfl) rfl rfl hL fun a s e_ hL => ?_
    refine st 27 (t_leq (o_t 26 rfl) (o_i (by decide)) rfl rfl) rfl rfl hL fun a s e_ hL => ?_
    refine st 28 (t_move (o_t 27 rfl) rfl rfl) rfl rfl hL fun a s e_ hL => ?_
    refine st 29 (t_g1 rfl rfl rfl (fun hc_ => t_fa (off := 1) (o_t 1 rfl) Tryd.underlying45 rfl (prt_snd (prt_all _ _) rfl) rfl ty43 rfl rfl)) rfl rfl hL fun a s e_ hL => ?_
    refine st 30 (t_g1 rfl rfl rfl (fun hc_ => t_load ty43 (o_w hc_ 29 rfl) rfl rfl)) rfl rfl hL fun a s e_ hL => ?_
    refine st 31 (t_g1 rfl rfl rfl (fun hc_ => t_len (o_w hc_ 30 rfl) Tryd.underlying43 rfl rfl)) rfl rfl hL fun a s e_ hL => ?_
    refine st 32 (t_g1 rfl rfl rfl (fun hc_ => t_leq (o_w hc_ 31 rfl) (o_i (by decide)) rfl rfl)) rfl rfl hL fun a s e_ hL => ?_
    refine st 33 (h9 ▸ (t_and (o_t 28 rfl) (fun hc2_ => (o_w hc2_ 32 rfl)) rfl rfl)) rfl rfl hL fun a s e_ hL => ?_
    refine st 34 (t_move (o_t 33 rfl) rfl rfl) rfl rfl hL fun a s e_ hL => ?_
    refine st 35 (t_g1 rfl rfl rfl (fun hc_ => t_move (o_t 3 rfl) rfl rfl)) rfl rfl hL fun a s e_ hL => ?_
    refine st 36 (t_g1 rfl rfl rfl (fun hc_ => t_leq (o_w hc_ 35 rfl) (o_i (by decide)) rfl rfl)) rfl rfl hL fun a s e_ hL => ?_
    refine st 37 (t_and (o_t 34 rfl) (fun hc2_ => (o_w hc2_ 36 rfl)) rfl rfl) rfl rfl hL fun a s e_ hL => ?_
    refine st 2 (t_assign (o_t 37 rfl) rfl rfl) rfl rfl hL fun a s e_ hL => ?_
    refine en' ?_
    show K7 a s.w
    refine hK7 _ _ ?_
    subst h
    exact wp_ret (retq rfl hL rfl)
  obtain ⟨k12, h⟩ := h
  refine lpg (fun k13 a s => ∃ (n10 : Int) (i11 : Int), Has N0 38 s0 a s [(1, (Pd.ptr En.STable t_)), (3, (Pd.rep (En.int .i64) n10)), (4, (Pd.rep (En.int .i64) i11))] ∧ ref17_Few.l1 t_ (ref17_Few.j1 t_ r_) k13 n10 i11) k12 ⟨0, 0, hL.keep (.cons (t := 1) rfl (fun _ h_ => h_.elim) (.cons (t := 3) rfl (fun _ h_ => h_.elim) (.cons (t := 4) rfl (fun _ h_ => h_.elim) .nil))), h⟩ ?_
  rintro k13 a s ⟨n10, i11, hL, h⟩ KL14 hKL14
  cases k13 with
  | zero => exact h.elim
  | succ k13 =>
  unfold ref17_Few.l1 at h
  refine wp_seq_k fun K15 hK15 => ?_
  refine wp_seq_k fun K16 hK16 => ?_
  obtain ⟨b17, h18, h⟩ := h
  refine rg ?_
  refine st 5 (t_move (o_t 4 rfl) rfl rfl) rfl rfl hL fun a s e_ hL => ?_
  refine st 6 (t_fa (off := 0) (o_t 1 rfl) Tryd.underlying45 rfl (prt_fst (prt_all _ _)) rfl ty42 rfl rfl) rfl rfl hL fun a s e_ hL => ?_
  refine st 7 (t_load ty42 (o_t 6 rfl) rfl rfl) rfl rfl hL fun a s e_ hL => ?_
  refine st 8 (t_len (o_t 7 rfl) Tryd.underlying42 rfl rfl) rfl rfl hL fun a s e_ hL => ?_
  refine st 9 (t_lss (o_t 5 rfl) (o_t 8 rfl) rfl rfl) rfl rfl hL fun a s e_ hL => ?_
  refine st 10 (t_move (o_t 9 rfl) rfl rfl) rfl rfl hL fun a s e_ hL => ?_
  refine st 11 (t_g1 rfl rfl rfl (fun hc_ => t_move (o_t 4 rfl) rfl rfl)) rfl rfl hL fun a s e_ hL => ?_
  refine st 12 (t_g1 rfl rfl rfl (fun hc_ => t_lss (o_w hc_ 11 rfl) (o_i (by decide)) rfl rfl)) rfl rfl hL fun a s e_ hL => ?_
  refine st 13 (h18 ▸ (t_and (o_t 10 rfl) (fun hc2_ => (o_w hc2_ 12 rfl)) rfl rfl)) rfl rfl hL fun a s e_ hL => ?_
  refine en' ?_
  show K16 a s.w
  refine hK16 _ _ ?_
  refine cnd hL rfl (fun hb_ => ?_) (fun hb_ => ?_)
  · replace h := h.1 hb_
    refine wp_skip ?_
    show K15 a s.w
    refine hK15 _ _ ?_
    refine wp_seq_k fun K19 hK19 => ?_
    refine wp_block ?_
    obtain ⟨e20, h21, h22, h⟩ := h
    refine rg ?_
    refine st 16 (t_move (o_t 3 rfl) rfl rfl) rfl rfl hL fun a s e_ hL => ?_
    refine st 17 (t_fa (off := 0) (o_t 1 rfl) Tryd.underlying45 rfl (prt_fst (prt_all _ _)) rfl ty42 rfl rfl) rfl rfl hL fun a s e_ hL => ?_
    refine st 18 (t_load ty42 (o_t 17 rfl) rfl rfl) rfl rfl hL fun a s e_ hL => ?_
    refine st 19 (t_move (o_t 4 rfl) rfl rfl) rfl rfl hL fun a s e_ hL => ?_
    refine st 20 (t_idx (o_t 18 rfl) (o_t 19 rfl) h21 Tryd.underlying42 ty60 rfl rfl) rfl rfl hL fun a s e_ hL => ?_
    refine st 21 (t_load ty60 (o_t 20 rfl) rfl rfl) rfl rfl hL fun a s e_ hL => ?_
    refine st 22 (t_len (o_t 21 rfl) Tryd.underlying60 rfl rfl) rfl rfl hL fun a s e_ hL => ?_
    refine st 23 (t_add (o_t 16 rfl) (o_t 22 rfl) h22 rfl rfl) rfl rfl hL fun a s e_ hL => ?_
    refine st 3 (t_assign (o_t 23 rfl) rfl rfl) rfl rfl hL fun a s e_ hL => ?_
    refine en' ?_
    show K19 a s.w
    refine hK19 _ _ ?_
    obtain ⟨h23, h⟩ := h
    refine rg ?_
    refine st 14 (t_move (o_t 4 rfl) rfl rfl) rfl rfl hL fun a s e_ hL => ?_
    refine st 15 (t_add (o_t 14 rfl) (o_i (by decide)) h23 rfl rfl) rfl rfl hL fun a s e_ hL => ?_
    refine st 4 (t_assign (o_t 15 rfl) rfl rfl) rfl rfl hL fun a s e_ hL => ?_
    refine en' ?_
    exact hKL14 k13 a s (Nat.lt_succ_self _) ⟨(n10 + (e20.length : Int)), (i11 + 1), hL.keep (.cons (t := 1) rfl (fun _ h_ => h_.elim) (.cons (t := 3) rfl (fun _ h_ => h_.elim) (.cons (t := 4) rfl (fun _ h_ => h_.elim) .nil))), h⟩
  · replace h := h.2 hb_
    refine wp_exit ?_
    exact J6 n10 a s (hL.keep (.cons (t := 1) rfl (fun _ h_ => h_.elim) (.cons (t := 3) rfl (fun _ h_ => h_.elim) .nil))) h

theorem ref17_Form_ok {t_ : STable} {r_ : Bool} (h : ref17_Form t_ r_) : Fn Tryd.prog 27 [(Pd.rep En.STable t_)] (Rq (Pd.rep En.bool r_)) := by
  unfold ref17_Form at h
  refine fn_of Tryd.func27 rfl Tryd.ntmps27 (by rfl) (by simp) fun s0 a hL => ?_
  refine wp_seq_k fun K1 hK1 => ?_
  refine rg ?_
  refine st 1 (t_box (o_t 0 rfl) rfl rfl) rfl rfl hL fun a s e_ hL => ?_
  refine st 2 (t_assign o_b rfl rfl) rfl rfl hL fun a s e_ hL => ?_
  refine en' ?_
  show K1 a s.w
  refine hK1 _ _ ?_
  refine wp_seq_k fun K2 hK2 => ?_
  refine wp_seq_k fun K3 hK3 => ?_
  obtain ⟨b4, h5, h⟩ := h
  refine rg ?_
  refine st 5 (t_fa (off := 0) (o_t 1 rfl) Tryd.underlying45 rfl (prt_fst (prt_all _ _)) rfl ty42 rfl rfl) rfl rfl hL fun a s e_ hL => ?_
  refine st 6 (t_load ty42 (o_t 5 rfl) rfl rfl) rfl rfl hL fun a s e_ hL => ?_
  refine st 7 (t_len (o_t 6 rfl) Tryd.underlying42 rfl rfl) rfl rfl hL fun a s e_ hL => ?_
  refine st 8 (t_eqi (o_t 7 rfl) (o_i (by decide)) rfl rfl) rfl rfl hL fun a s e_ hL => ?_
  refine st 9 (t_move (o_t 8 rfl) rfl rfl) rfl rfl hL fun a s e_ hL => ?_
  refine st 10 (t_g1 rfl rfl rfl (fun hc_ => t_fa (off := 0) (o_t 1 rfl) Tryd.underlying45 rfl (prt_fst (prt_all _ _)) rfl ty42 rfl rfl)) rfl rfl hL fun a s e_ hL => ?_
  refine st 11 (t_g1 rfl rfl rfl (fun hc_ => t_load ty42 (o_w hc_ 10 rfl) rfl rfl)) rfl rfl hL fun a s e_ hL => ?_
  refine st 12 (t_g1 rfl rfl rfl (fun hc_ => t_len (o_w hc_ 11 rfl) Tryd.underlying42 rfl rfl)) rfl rfl hL fun a s e_ hL => ?_
  refine st 13 (t_g1 rfl rfl rfl (fun hc_ => t_fa (off := 1) (o_t 1 rfl) Tryd.underlying45 rfl (prt_snd (prt_all _ _) rfl) rfl ty43 rfl rfl)) rfl rfl hL fun a s e_ hL => ?_
  refine st 14 (t_g1 rfl rfl rfl (fun hc_ => t_load ty43 (o_w hc_ 13 rfl) rfl rfl)) rfl rfl hL fun a s e_ hL => ?_
  refine st 15 (t_g1 rfl rfl rfl (fun hc_ => t_len (o_w hc_ 14 rfl) Tryd.underlying43 rfl rfl)) rfl rfl hL fun a s e_ hL => ?_
  refine st 16 (t_g1 rfl rfl rfl (fun hc_ => t_nei (o_w hc_ 12 rfl) (o_w hc_ 15 rfl) rfl rfl)) rfl rfl hL fun a s e_ hL => ?_
  refine st 17 (h5 ▸ (t_or (o_t 9 rfl) (fun hc2_ => (o_w hc2_ 16 rfl)) rfl rfl)) rfl rfl hL fun a s e_ hL => ?_
  refine en' ?_
  show K3 a s.w
  refine hK3 _ _ ?_
  refine cnd hL rfl (fun hb_ => ?_) (fun hb_ => ?_)
  · replace h := h.1 hb_
    refine wp_seq_k fun K6 hK6 => ?_
    refine rg ?_
    refine st 2 (t_assign o_b rfl rfl) rfl rfl hL fun a s e_ hL => ?_
    refine en' ?_
    show K6 a s.w
    refine hK6 _ _ ?_
    subst h
    exact wp_ret (retq rfl hL rfl)
  · replace h := h.2 hb_
    refine wp_skip ?_
    show K2 a s.w
    refine hK2 _ _ ?_
    refine wp_seq_k fun K7 hK7 => ?_
    refine wp_seq_k fun K8 hK8 => ?_
    refine rg ?_
    refine st 3 (t_assign (o_i (by decide)) rfl rfl) rfl rfl hL fun a s e_ hL => ?_
    refine en' ?_
    show K8 a s.w
    refine hK8 _ _ ?_
    refine wp_block ?_
    have J9 : ∀ (a : Act) (s : St), Has N0 60 s0 a s [] → ((ref17_Form.j1 r_)) → K7 a s.w := by
      intro a s hL h
      unfold ref17_Form.j1 at h
      show K7 a s.w
      refine hK7 _ _ ?_
      refine wp_seq_k fun K10 hK10 => ?_
      refine rg ?_
      refine st 2 (t_assign o_b rfl rfl) rfl rfl hL fun a s e_ hL => ?_
      refine en' ?_
      show K10 a s.w
      refine hK10 _ _ ?_
      subst h
      exact wp_ret (retq rfl hL rfl)
    obtain ⟨k12, h⟩ := h
    refine lpg (fun k13 a s => ∃ (i11 : Int), Has N0 60 s0 a s [(1, (Pd.ptr En.STable t_)), (3, (Pd.rep (En.int .i64) i11))] ∧ ref17_Form.l1 t_ r_ (ref17_Form.j1 r_) k13 i11) k12 ⟨0, hL.keep (.cons (t := 1) rfl (fun _ h_ => h_.elim) (.cons (t := 3) rfl (fun _ h_ => h_.elim) .nil)), h⟩ ?_
    rintro k13 a s ⟨i11, hL, h⟩ KL14 hKL14
    cases k13 with
    | zero => exact h.elim
    | succ k13 =>
    unfold ref17_Form.l1 at h
    refine wp_seq_k fun K15 hK15 => ?_
    refine wp_seq_k fun K16 hK16 => ?_
    refine rg ?_
    refine st 18 (t_move (o_t 3 rfl) rfl rfl) rfl rfl hL fun a s e_ hL => ?_
    refine st 19 (t_fa (off := 0) (o_t 1 rfl) Tryd.underlying45 rfl (prt_fst (prt_all _ _)) rfl ty42 rfl rfl) rfl rfl hL fun a s e_ hL => ?_
    refine st 20 (t_load ty42 (o_t 19 rfl) rfl rfl) rfl rfl hL fun a s e_ hL => ?_
    refine st 21 (t_len (o_t 20 rfl) Tryd.underlying42 rfl rfl) rfl rfl hL fun a s e_ hL => ?_
    refine st 22 (t_lss (o_t 18 rfl) (o_t 21 rfl) rfl rfl) rfl rfl hL fun a s e_ hL => ?_
    refine en' ?_
    show K16 a s.w
    refine hK16 _ _ ?_
    refine cnd hL rfl (fun hb_ => ?_) (fun hb_ => ?_)
    · replace h := h.1 hb_
      refine wp_skip ?_
      show K15 a s.w
      refine hK15 _ _ ?_
      refine wp_seq_k fun K17 hK17 => ?_
      refine wp_block ?_
      refine wp_seq_k fun K18 hK18 => ?_
      refine rg ?_
      refine st 4 (t_assign (o_i (by decide)) rfl rfl) rfl rfl hL fun a s e_ hL => ?_
      refine en' ?_
      show K18 a s.w
      refine hK18 _ _ ?_
      refine wp_block ?_
      have J19 : ∀ (a : Act) (s : St), Has N0 60 s0 a s [(1, (Pd.ptr En.STable t_)), (3, (Pd.rep (En.int .i64) i11))] → ((ref17_Form.j2 (ref17_Form.l1 t_ r_ (ref17_Form.j1 r_) k13) i11)) → K17 a s.w := by
        intro a s hL h
        unfold ref17_Form.j2 at h
        show K17 a s.w
        refine hK17 _ _ ?_
        obtain ⟨h20, h⟩ := h
        refine rg ?_
        refine st 23 (t_move (o_t 3 rfl) rfl rfl) rfl rfl hL fun a s e_ hL => ?_
        refine st 24 (t_add (o_t 23 rfl) (o_i (by decide)) h20 rfl rfl) rfl rfl hL fun a s e_ hL => ?_
        refine st 3 (t_assign (o_t 24 rfl) rfl rfl) rfl rfl hL fun a s e_ hL => ?_
        refine en' ?_
        exact hKL14 k13 a s (Nat.lt_succ_self _) ⟨(i11 + 1), hL.keep (.cons (t := 1) rfl (fun _ h_ => h_.elim) (.cons (t := 3) rfl (fun _ h_ => h_.elim) .nil)), h⟩
      obtain ⟨k22, h⟩ := h
      refine lpg (fun k23 a s => ∃ (k21 : Int), Has N0 60 s0 a s [(1, (Pd.ptr En.STable t_)), (3, (Pd.rep (En.int .i64) i11)), (4, (Pd.rep (En.int .i64) k21))] ∧ ref17_Form.l2 t_ i11 r_ (ref17_Form.j2 (ref17_Form.l1 t_ r_ (ref17_Form.j1 r_) k13) i11) k23 k21) k22 ⟨0, hL.keep (.cons (t := 1) rfl (fun _ h_ => h_.elim) (.cons (t := 3) rfl (fun _ h_ => h_.elim) (.cons (t := 4) rfl (fun _ h_ => h_.elim) .nil))), h⟩ ?_
      rintro k23 a s ⟨k21, hL, h⟩ KL24 hKL24
      cases k23 with
      | zero => exact h.elim
      | succ k23 =>
      unfold ref17_Form.l2 at h
      refine wp_seq_k fun K25 hK25 => ?_
      refine wp_seq_k fun K26 hK26 => ?_
      obtain ⟨e27, h28, h⟩ := h
      refine rg ?_
      refine st 25 (t_move (o_t 4 rfl) rfl rfl) rfl rfl hL fun a s e_ hL => ?_
      refine st 26 (t_fa (off := 0) (o_t 1 rfl) Tryd.underlying45 rfl (prt_fst (prt_all _ _)) rfl ty42 rfl rfl) rfl rfl hL fun a s e_ hL => ?_
      refine st 27 (t_load ty42 (o_t 26 rfl) rfl rfl) rfl rfl hL fun a s e_ hL => ?_
      refine st 28 (t_move (o_t 3 rfl) rfl rfl) rfl rfl hL fun a s e_ hL => ?_
      refine st 29 (t_idx (o_t 27 rfl) (o_t 28 rfl) h28 Tryd.underlying42 ty60 rfl rfl) rfl rfl hL fun a s e_ hL => ?_
      refine st 30 (t_load ty60 (o_t 29 rfl) rfl rfl) rfl rfl hL fun a s e_ hL => ?_
      refine st 31 (t_len (o_t 30 rfl) Tryd.underlying60 rfl rfl) rfl rfl hL fun a s e_ hL => ?_
      refine st 32 (t_lss (o_t 25 rfl) (o_t 31 rfl) rfl rfl) rfl rfl hL fun a s e_ hL => ?_
      refine en' ?_
      show K26 a s.w
      refine hK26 _ _ ?_
      refine cnd hL rfl (fun hb_ => ?_) (fun hb_ => ?_)
      · replace h := h.1 hb_
        refine wp_skip ?_
        show K25 a s.w
        refine hK25 _ _ ?_
        refine wp_seq_k fun K29 hK29 => ?_
        refine wp_block ?_
        refine wp_seq_k fun K30 hK30 => ?_
        obtain ⟨e31, h32, e33, h34, e35, h36, e37, h38, b39, h40, h⟩ := h
        refine rda follows 25 [(Pd.ptr (En.slice (En.slice En.SWay)) t_.1), (Pd.rep (En.slice (En.slice En.SWay)) t_.1), (Pd.rep (En.int .i64) i11), (Pd.ptr (En.slice En.SWay) e31), (Pd.rep (En.slice En.SWay) e31), (Pd.rep (En.int .i64) k21), (Pd.ptr En.SWay e33), (Pd.ptr (En.int .i64) e33.2), (Pd.rep (En.int .i64) e33.2), (Pd.rep En.bool (decide (e33.2 < 0))), (Pd.rep En.bool (decide (e33.2 < 0))), (Pd.when ((decide (e33.2 < 0)) = false) (Pd.ptr (En.slice (En.slice En.SWay)) t_.1)), (Pd.when ((decide (e33.2 < 0)) = false) (Pd.rep (En.slice (En.slice En.SWay)) t_.1)), (Pd.when ((decide (e33.2 < 0)) = false) (Pd.rep (En.int .i64) i11)), (Pd.when ((decide (e33.2 < 0)) = false) (Pd.ptr (En.slice En.SWay) e35)), (Pd.when ((decide (e33.2 < 0)) = false) (Pd.rep (En.slice En.SWay) e35)), (Pd.when ((decide (e33.2 < 0)) = false) (Pd.rep (En.int .i64) k21)), (Pd.when ((decide (e33.2 < 0)) = false) (Pd.ptr En.SWay e37)), (Pd.when ((decide (e33.2 < 0)) = false) (Pd.ptr (En.int .i64) e37.2)), (Pd.when ((decide (e33.2 < 0)) = false) (Pd.rep (En.int .i64) e37.2)), (Pd.when ((decide (e33.2 < 0)) = false) (Pd.ptr (En.slice (En.slice En.SWay)) t_.1)), (Pd.when ((decide (e33.2 < 0)) = false) (Pd.rep (En.slice (En.slice En.SWay)) t_.1)), (Pd.when ((decide (e33.2 < 0)) = false) (Pd.rep (En.int .i64) (t_.1.length : Int))), (Pd.when ((decide (e33.2 < 0)) = false) (Pd.rep En.bool (decide ((t_.1.length : Int) ≤ e37.2)))), (Pd.rep En.bool b39)] hL (by kernel_rfl) rfl rfl ?_ ?_
        · refine AllT.cons (t_fa (off := 0) (o_t 1 rfl) Tryd.underlying45 rfl (prt_fst (prt_all _ _)) rfl ty42 rfl rfl) ?_
          refine AllT.cons (t_load ty42 (o_t 35 rfl) rfl rfl) ?_
          refine AllT.cons (t_move (o_t 3 rfl) rfl rfl) ?_
          refine AllT.cons (t_idx (o_t 36 rfl) (o_t 37 rfl) h32 Tryd.underlying42 ty60 rfl rfl) ?_
          refine AllT.cons (t_load ty60 (o_t 38 rfl) rfl rfl) ?_
          refine AllT.cons (t_move (o_t 4 rfl) rfl rfl) ?_
          refine AllT.cons (t_idx (o_t 39 rfl) (o_t 40 rfl) h34 Tryd.underlying60 ty62 rfl rfl) ?_
          refine AllT.cons (t_fa (off := 1) (o_t 41 rfl) Tryd.underlying62 rfl (prt_snd (prt_all _ _) rfl) rfl ty3 rfl rfl) ?_
          refine AllT.cons (t_load ty3 (o_t 42 rfl) rfl rfl) ?_
          refine AllT.cons (t_lss (o_t 43 rfl) (o_i (by decide)) rfl rfl) ?_
          refine AllT.cons (t_move (o_t 44 rfl) rfl rfl) ?_
          refine AllT.cons (t_g1 rfl rfl rfl (fun hc_ => t_fa (off := 0) (o_t 1 rfl) Tryd.underlying45 rfl (prt_fst (prt_all _ _)) rfl ty42 rfl rfl)) ?_
          refine AllT.cons (t_g1 rfl rfl rfl (fun hc_ => t_load ty42 (o_w hc_ 46 rfl) rfl rfl)) ?_
          refine AllT.cons (t_g1 rfl rfl rfl (fun hc_ => t_move (o_t 3 rfl) rfl rfl)) ?_
          refine AllT.cons (t_g1 rfl rfl rfl (fun hc_ => t_idx (o_w hc_ 47 rfl) (o_w hc_ 48 rfl) (h36 hc_) Tryd.underlying42 ty60 rfl rfl)) ?_
          refine AllT.cons (t_g1 rfl rfl rfl (fun hc_ => t_load ty60 (o_w hc_ 49 rfl) rfl rfl)) ?_
          refine AllT.cons (t_g1 rfl rfl rfl (fun hc_ => t_move (o_t 4 rfl) rfl rfl)) ?_
          refine AllT.cons (t_g1 rfl rfl rfl (fun hc_ => t_idx (o_w hc_ 50 rfl) (o_w hc_ 51 rfl) (h38 hc_) Tryd.underlying60 ty62 rfl rfl)) ?_
          refine AllT.cons (t_g1 rfl rfl rfl (fun hc_ => t_fa (off := 1) (o_w hc_ 52 rfl) Tryd.underlying62 rfl (prt_snd (prt_all _ _) rfl) rfl ty3 rfl rfl)) ?_
          refine AllT.cons (t_g1 rfl rfl rfl (fun hc_ => t_load ty3 (o_w hc_ 53 rfl) rfl rfl)) ?_
          refine AllT.cons (t_g1 rfl rfl rfl (fun hc_ => t_fa (off := 0) (o_t 1 rfl) Tryd.underlying45 rfl (prt_fst (prt_all _ _)) rfl ty42 rfl rfl)) ?_
          refine AllT.cons (t_g1 rfl rfl rfl (fun hc_ => t_load ty42 (o_w hc_ 55 rfl) rfl rfl)) ?_
          refine AllT.cons (t_g1 rfl rfl rfl (fun hc_ => t_len (o_w hc_ 56 rfl) Tryd.underlying42 rfl rfl)) ?_
          refine AllT.cons (t_g1 rfl rfl rfl (fun hc_ => t_geq (o_w hc_ 54 rfl) (o_w hc_ 57 rfl) rfl rfl)) ?_
          refine AllT.cons (h40 ▸ (t_or (o_t 45 rfl) (fun hc2_ => (o_w hc2_ 58 rfl)) rfl rfl)) ?_
          exact AllT.nil
        intro a s e_ hL
        refine en' ?_
        show K30 a s.w
        refine hK30 _ _ ?_
        refine cnd hL rfl (fun hb_ => ?_) (fun hb_ => ?_)
        · replace h := h.1 hb_
          refine wp_seq_k fun K41 hK41 => ?_
          refine rg ?_
          refine st 2 (t_assign o_b rfl rfl) rfl rfl hL fun a s e_ hL => ?_
          refine en' ?_
          show K41 a s.w
          refine hK41 _ _ ?_
          subst h
          exact wp_ret (retq rfl hL rfl)
        · replace h := h.2 hb_
          refine wp_skip ?_
          show K29 a s.w
          refine hK29 _ _ ?_
          obtain ⟨h42, h⟩ := h
          refine rg ?_
          refine st 33 (t_move (o_t 4 rfl) rfl rfl) rfl rfl hL fun a s e_ hL => ?_
          refine st 34 (t_add (o_t 33 rfl) (o_i (by decide)) h42 rfl rfl) rfl rfl hL fun a s e_ hL => ?_
          refine st 4 (t_assign (o_t 34 rfl) rfl rfl) rfl rfl hL fun a s e_ hL => ?_
          refine en' ?_
          exact hKL24 k23 a s (Nat.lt_succ_self _) ⟨(k21 + 1), hL.keep (.cons (t := 1) rfl (fun _ h_ => h_.elim) (.cons (t := 3) rfl (fun _ h_ => h_.elim) (.cons (t := 4) rfl (fun _ h_ => h_.elim) .nil))), h⟩
      · replace h := h.2 hb_
        refine wp_exit ?_
        exact J19 a s (hL.keep (.cons (t := 1) rfl (fun _ h_ => h_.elim) (.cons (t := 3) rfl (fun _ h_ => h_.elim) .nil))) h
    · replace h := h.2 hb_
      refine wp_exit ?_
      exact J9 a s (hL.keep .nil) h
end Go.Proofs.YtdfnbogkniikbaaDoor.V
