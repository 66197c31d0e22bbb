/- The walks of the functions of layer 1 (by gen.py). -/
import Derived.Test.YtkdbiiollbeoeaaW00a
import Derived.Test.YtkdbiiollbeoeaaR01
namespace Go.Proofs.Ytkdbiiollbeoeaa.V
open Go
set_option linter.unusedVariables false
theorem class_Add_ok {a_ : Cl} {list_ : (List Int)} {r_ : Cl} (h : class_Add a_ list_ r_) : Fn Try.prog 22 [(Pd.rep En.cls a_), (Pd.rep (En.slice (En.int .u8)) list_)] (Rq (Pd.rep En.cls r_)) := by
  unfold class_Add at h
  refine fn_of Try.func22 rfl Try.ntmps22 (by rfl) (by simp) fun s0 a hL => ?_
  refine wp_seq_k fun K1 hK1 => ?_
  refine rg ?_
  refine st_boxm 2 hL (o_t 0 rfl) rfl rfl rfl rfl fun a s g2 hg_ hL => ?_
  have lt_d4 := hL.blt 2 rfl
  refine st_alloc En.cls (z := (0#256)) 4 hL tyz24 rfl rfl rfl rfl fun a s g3 hg_ hL => ?_
  have d4 : Dis (some g3) (some g2) := Dis.newg hg_ lt_d4
  refine en' ?_
  show K1 a s.w
  refine hK1 _ _ ?_
  refine wp_seq_k fun K5 hK5 => ?_
  refine wp_seq_k fun K6 hK6 => ?_
  refine rg ?_
  refine st 7 (t_move (o_t 1 rfl) rfl rfl) rfl rfl hL fun a s e_ hL => ?_
  refine st 8 (t_len (o_t 7 rfl) Try.underlying40 rfl rfl) rfl rfl hL fun a s e_ hL => ?_
  refine st 9 (t_move (o_i (by decide)) rfl rfl) rfl rfl hL fun a s e_ hL => ?_
  refine en' ?_
  show K6 a s.w
  refine hK6 _ _ ?_
  refine wp_block ?_
  have J8 : ∀ (a7 : Cl) (a : Act) (s : St), Has N0 24 s0 a s [(2, (Pd.box En.cls s0.w.heap.size g2 a7)), (4, (Pd.box En.cls s0.w.heap.size g3 (0#256)))] → Dis (some g2) (some g3) → ((class_Add.j1 r_) a7) → K5 a s.w := by
    intro a7 a s hL d9 h
    unfold class_Add.j1 at h
    show K5 a s.w
    refine hK5 _ _ ?_
    refine wp_seq_k fun K10 hK10 => ?_
    refine rg ?_
    refine st 23 (t_loadb ty24 (o_t 2 rfl) rfl rfl) rfl rfl hL fun a s e_ hL => ?_
    refine st_stb (L' := []) 4 hL rfl (o_t 23 rfl) ty24 rfl rfl rfl .nil fun s hL => ?_
    refine en' ?_
    show K10 a s.w
    refine hK10 _ _ ?_
    subst h
    exact wp_ret (retb rfl ty24 hL rfl)
  obtain ⟨k13, h⟩ := h
  refine lpg (fun k14 a s => ∃ (a11 : Cl) (v12 : Int), Has N0 24 s0 a s [(2, (Pd.box En.cls s0.w.heap.size g2 a11)), (4, (Pd.box En.cls s0.w.heap.size g3 (0#256))), (7, (Pd.rep (En.slice (En.int .u8)) list_)), (8, (Pd.rep (En.int .i64) (list_.length : Int))), (9, (Pd.rep (En.int .i64) v12))] ∧ Dis (some g2) (some g3) ∧ class_Add.l1 list_ (class_Add.j1 r_) k14 a11 v12) k13 ⟨a_, 0, hL.keep (.cons (t := 2) rfl (fun _ _ h_ => h_) (.cons (t := 4) rfl (fun _ _ h_ => h_) (.cons (t := 7) rfl (fun _ h_ => h_.elim) (.cons (t := 8) rfl (fun _ h_ => h_.elim) (.cons (t := 9) rfl (fun _ h_ => h_.elim) .nil))))), (Dis.symm d4), h⟩ ?_
  rintro k14 a s ⟨a11, v12, hL, d16, h⟩ KL15 hKL15
  cases k14 with
  | zero => exact h.elim
  | succ k14 =>
  unfold class_Add.l1 at h
  refine wp_seq_k fun K17 hK17 => ?_
  refine rg ?_
  refine st 10 (t_lss (o_t 9 rfl) (o_t 8 rfl) rfl rfl) rfl rfl hL fun a s e_ hL => ?_
  refine en' ?_
  show K17 a s.w
  refine hK17 _ _ ?_
  refine wp_seq_k fun K18 hK18 => ?_
  refine cnd hL rfl (fun hb_ => ?_) (fun hb_ => ?_)
  · replace h := h.1 hb_
    refine wp_skip ?_
    show K18 a s.w
    refine hK18 _ _ ?_
    refine wp_seq_k fun K19 hK19 => ?_
    refine wp_block ?_
    refine wp_seq_k fun K20 hK20 => ?_
    obtain ⟨e21, h22, h⟩ := h
    refine rg ?_
    refine st 11 (t_idx (o_t 7 rfl) (o_t 9 rfl) h22 Try.underlying40 ty5 rfl rfl) rfl rfl hL fun a s e_ hL => ?_
    refine st 12 (t_load ty5 (o_t 11 rfl) rfl rfl) rfl rfl hL fun a s e_ hL => ?_
    refine st 6 (t_assign (o_t 12 rfl) rfl rfl) rfl rfl hL fun a s e_ hL => ?_
    refine en' ?_
    show K20 a s.w
    refine hK20 _ _ ?_
    obtain ⟨h23, h24, h⟩ := h
    refine rg ?_
    refine st 13 (t_move (o_t 6 rfl) rfl rfl) rfl rfl hL fun a s e_ hL => ?_
    refine st 14 (t_quou (o_t 13 rfl) (o_i (by decide)) (by decide) (by decide) rfl rfl) rfl rfl hL fun a s e_ hL => ?_
    refine st 15 (t_idxcb (o_t 2 rfl) (o_t 14 rfl) h23 Try.underlying24 (by rfl) rfl rfl) rfl rfl hL fun a s e_ hL => ?_
    refine st 16 (t_loado ty22 (o_t 15 rfl) rfl rfl) rfl rfl hL fun a s e_ hL => ?_
    refine st 17 (t_move (o_t 6 rfl) rfl rfl) rfl rfl hL fun a s e_ hL => ?_
    refine st 18 (t_remu (o_t 17 rfl) (o_i (by decide)) (by decide) (by decide) rfl rfl) rfl rfl hL fun a s e_ hL => ?_
    refine st 19 (t_shl (o_i (by decide)) (o_t 18 rfl) (by decide) rfl rfl) rfl rfl hL fun a s e_ hL => ?_
    refine st 20 (t_orb (o_t 16 rfl) (o_t 19 rfl) rfl rfl) rfl rfl hL fun a s e_ hL => ?_
    refine st 21 (t_idxcb (o_t 2 rfl) (o_t 14 rfl) h24 Try.underlying24 (by rfl) rfl rfl) rfl rfl hL fun a s e_ hL => ?_
    refine st_stob (L' := [(4, (Pd.box En.cls s0.w.heap.size g3 (0#256))), (7, (Pd.rep (En.slice (En.int .u8)) list_)), (8, (Pd.rep (En.int .i64) (list_.length : Int))), (9, (Pd.rep (En.int .i64) v12))]) 2 hL rfl (o_t 21 rfl) (o_t 20 rfl) (sub_cls h24) ty22 rfl rfl rfl (.cons (t := 4) rfl (Dis.bx d4) (.cons (t := 7) rfl (fun _ h_ => h_.elim) (.cons (t := 8) rfl (fun _ h_ => h_.elim) (.cons (t := 9) rfl (fun _ h_ => h_.elim) .nil)))) fun s hL => ?_
    refine en' ?_
    show K19 a s.w
    refine hK19 _ _ ?_
    obtain ⟨h25, h⟩ := h
    refine rg ?_
    refine st 22 (t_add (o_t 9 rfl) (o_i (by decide)) h25 rfl rfl) rfl rfl hL fun a s e_ hL => ?_
    refine st 9 (t_move (o_t 22 rfl) rfl rfl) rfl rfl hL fun a s e_ hL => ?_
    refine en' ?_
    exact hKL15 k14 a s (Nat.lt_succ_self _) ⟨(Cl.setw a11 (e21 / 64) (orI (Cl.w a11 (e21 / 64)) (shlI 1 (e21 % 64)))), (v12 + 1), hL.keep (.cons (t := 2) rfl (fun _ _ h_ => h_) (.cons (t := 4) rfl (fun _ _ h_ => h_) (.cons (t := 7) rfl (fun _ h_ => h_.elim) (.cons (t := 8) rfl (fun _ h_ => h_.elim) (.cons (t := 9) rfl (fun _ h_ => h_.elim) .nil))))), d16, h⟩
  · replace h := h.2 hb_
    refine wp_exit ?_
    exact J8 a11 a s (hL.keep (.cons (t := 2) rfl (fun _ _ h_ => h_) (.cons (t := 4) rfl (fun _ _ h_ => h_) .nil))) d16 h

theorem class_Of_ok {from_ : Int} {to_ : Int} {r_ : Cl} (h : class_Of from_ to_ r_) : Fn Try.prog 18 [(Pd.rep (En.int .u8) from_), (Pd.rep (En.int .u8) to_)] (Rq (Pd.rep En.cls r_)) := by
  unfold class_Of at h
  refine fn_of Try.func18 rfl Try.ntmps18 (by rfl) (by simp) fun s0 a hL => ?_
  refine wp_seq_k fun K1 hK1 => ?_
  refine rg ?_
  refine st_alloc En.cls (z := (0#256)) 4 hL tyz24 rfl rfl rfl rfl fun a s g2 hg_ hL => ?_
  refine en' ?_
  show K1 a s.w
  refine hK1 _ _ ?_
  refine wp_seq_k fun K3 hK3 => ?_
  refine rg ?_
  have lt_d5 := hL.blt 4 rfl
  refine st_alloc En.cls (z := (0#256)) 5 hL tyz24 rfl rfl rfl rfl fun a s g4 hg_ hL => ?_
  have d5 : Dis (some g4) (some g2) := Dis.newg hg_ lt_d5
  refine en' ?_
  show K3 a s.w
  refine hK3 _ _ ?_
  refine wp_seq_k fun K6 hK6 => ?_
  refine wp_seq_k fun K7 hK7 => ?_
  refine rg ?_
  refine st 8 (t_move (o_i (by decide)) rfl rfl) rfl rfl hL fun a s e_ hL => ?_
  refine en' ?_
  show K7 a s.w
  refine hK7 _ _ ?_
  refine wp_block ?_
  have J9 : ∀ (a8 : Cl) (a : Act) (s : St), Has N0 27 s0 a s [(4, (Pd.box En.cls s0.w.heap.size g2 (0#256))), (5, (Pd.box En.cls s0.w.heap.size g4 a8))] → Dis (some g2) (some g4) → ((class_Of.j1 r_) a8) → K6 a s.w := by
    intro a8 a s hL d10 h
    unfold class_Of.j1 at h
    show K6 a s.w
    refine hK6 _ _ ?_
    refine wp_seq_k fun K11 hK11 => ?_
    refine rg ?_
    refine st 26 (t_loadb ty24 (o_t 5 rfl) rfl rfl) rfl rfl hL fun a s e_ hL => ?_
    refine st_stb (L' := []) 4 hL rfl (o_t 26 rfl) ty24 rfl rfl rfl .nil fun s hL => ?_
    refine en' ?_
    show K11 a s.w
    refine hK11 _ _ ?_
    subst h
    exact wp_ret (retb rfl ty24 hL rfl)
  obtain ⟨k14, h⟩ := h
  refine lpg (fun k15 a s => ∃ (a12 : Cl) (v13 : Int), Has N0 27 s0 a s [(0, (Pd.rep (En.int .u8) from_)), (1, (Pd.rep (En.int .u8) to_)), (4, (Pd.box En.cls s0.w.heap.size g2 (0#256))), (5, (Pd.box En.cls s0.w.heap.size g4 a12)), (8, (Pd.rep (En.int .i64) v13))] ∧ Dis (some g2) (some g4) ∧ class_Of.l1 from_ to_ (class_Of.j1 r_) k15 a12 v13) k14 ⟨(0#256), 0, hL.keep (.cons (t := 0) rfl (fun _ h_ => h_.elim) (.cons (t := 1) rfl (fun _ h_ => h_.elim) (.cons (t := 4) rfl (fun _ _ h_ => h_) (.cons (t := 5) rfl (fun _ _ h_ => h_) (.cons (t := 8) rfl (fun _ h_ => h_.elim) .nil))))), (Dis.symm d5), h⟩ ?_
  rintro k15 a s ⟨a12, v13, hL, d17, h⟩ KL16 hKL16
  cases k15 with
  | zero => exact h.elim
  | succ k15 =>
  unfold class_Of.l1 at h
  refine wp_seq_k fun K18 hK18 => ?_
  refine rg ?_
  refine st 9 (t_lss (o_t 8 rfl) (o_i (by decide)) rfl rfl) rfl rfl hL fun a s e_ hL => ?_
  refine en' ?_
  show K18 a s.w
  refine hK18 _ _ ?_
  refine wp_seq_k fun K19 hK19 => ?_
  refine cnd hL rfl (fun hb_ => ?_) (fun hb_ => ?_)
  · replace h := h.1 hb_
    refine wp_skip ?_
    show K19 a s.w
    refine hK19 _ _ ?_
    refine wp_seq_k fun K20 hK20 => ?_
    refine wp_block ?_
    refine wp_seq_k fun K21 hK21 => ?_
    refine rg ?_
    refine st 10 (t_move (o_t 8 rfl) rfl rfl) rfl rfl hL fun a s e_ hL => ?_
    refine st 6 (t_assign (o_t 10 rfl) rfl rfl) rfl rfl hL fun a s e_ hL => ?_
    refine en' ?_
    show K21 a s.w
    refine hK21 _ _ ?_
    refine wp_seq_k fun K22 hK22 => ?_
    refine rg ?_
    refine st 11 (t_move (o_t 6 rfl) rfl rfl) rfl rfl hL fun a s e_ hL => ?_
    refine st 12 (t_u8 (o_t 11 rfl) Try.underlying3 Try.underlying5 rfl rfl) rfl rfl hL fun a s e_ hL => ?_
    refine st 7 (t_assign (o_t 12 rfl) rfl rfl) rfl rfl hL fun a s e_ hL => ?_
    refine en' ?_
    show K22 a s.w
    refine hK22 _ _ ?_
    refine wp_seq_k fun K23 hK23 => ?_
    obtain ⟨b24, h25, h⟩ := h
    refine rg ?_
    refine st 13 (t_move (o_t 7 rfl) rfl rfl) rfl rfl hL fun a s e_ hL => ?_
    refine st 14 (t_move (o_t 0 rfl) rfl rfl) rfl rfl hL fun a s e_ hL => ?_
    refine st 15 (t_geq (o_t 13 rfl) (o_t 14 rfl) rfl rfl) rfl rfl hL fun a s e_ hL => ?_
    refine st 16 (t_move (o_t 15 rfl) rfl rfl) rfl rfl hL fun a s e_ hL => ?_
    refine st 17 (t_g1 rfl rfl rfl (fun hc_ => t_move (o_t 7 rfl) rfl rfl)) rfl rfl hL fun a s e_ hL => ?_
    refine st 18 (t_g1 rfl rfl rfl (fun hc_ => t_move (o_t 1 rfl) rfl rfl)) rfl rfl hL fun a s e_ hL => ?_
    refine st 19 (t_g1 rfl rfl rfl (fun hc_ => t_leq (o_w hc_ 17 rfl) (o_w hc_ 18 rfl) rfl rfl)) rfl rfl hL fun a s e_ hL => ?_
    refine st 20 (h25 ▸ (t_and (o_t 16 rfl) (fun hc2_ => (o_w hc2_ 19 rfl)) rfl rfl)) rfl rfl hL fun a s e_ hL => ?_
    refine en' ?_
    show K23 a s.w
    refine hK23 _ _ ?_
    refine cnd hL rfl (fun hb_ => ?_) (fun hb_ => ?_)
    · replace h := h.1 hb_
      obtain ⟨r26, h27, h⟩ := h
      refine rg ?_
      refine st 21 (t_loadb ty24 (o_t 5 rfl) rfl rfl) rfl rfl hL fun a s e_ hL => ?_
      refine st 22 (t_move (o_t 7 rfl) rfl rfl) rfl rfl hL fun a s e_ hL => ?_
      refine st 23 (t_lit (xs := [.tmp 22]) (.cons (o_t 22 rfl) .nil) Try.underlying40 ty5 rfl rfl (by decide) rfl rfl) rfl rfl hL fun a s e_ hL => ?_
      refine st 24 (t_call (class_Add_ok h27) (xs := [.tmp 21, .tmp 23]) (.cons (o_t 21 rfl) (.cons (o_t 23 rfl) .nil)) rfl rfl) rfl rfl hL fun a s e_ hL => ?_
      refine st_stb (L' := [(0, (Pd.rep (En.int .u8) from_)), (1, (Pd.rep (En.int .u8) to_)), (4, (Pd.box En.cls s0.w.heap.size g2 (0#256))), (8, (Pd.rep (En.int .i64) v13))]) 5 hL rfl (o_t 24 rfl) ty24 rfl rfl rfl (.cons (t := 0) rfl (fun _ h_ => h_.elim) (.cons (t := 1) rfl (fun _ h_ => h_.elim) (.cons (t := 4) rfl (Dis.bx d17) (.cons (t := 8) rfl (fun _ h_ => h_.elim) .nil)))) fun s hL => ?_
      refine en' ?_
      show K20 a s.w
      refine hK20 _ _ ?_
      obtain ⟨h28, h⟩ := h
      refine rg ?_
      refine st 25 (t_add (o_t 8 rfl) (o_i (by decide)) h28 rfl rfl) rfl rfl hL fun a s e_ hL => ?_
      refine st 8 (t_move (o_t 25 rfl) rfl rfl) rfl rfl hL fun a s e_ hL => ?_
      refine en' ?_
      exact hKL16 k15 a s (Nat.lt_succ_self _) ⟨r26, (v13 + 1), hL.keep (.cons (t := 0) rfl (fun _ h_ => h_.elim) (.cons (t := 1) rfl (fun _ h_ => h_.elim) (.cons (t := 4) rfl (fun _ _ h_ => h_) (.cons (t := 5) rfl (fun _ _ h_ => h_) (.cons (t := 8) rfl (fun _ h_ => h_.elim) .nil))))), d17, h⟩
    · replace h := h.2 hb_
      refine wp_skip ?_
      show K20 a s.w
      refine hK20 _ _ ?_
      obtain ⟨h29, h⟩ := h
      refine rg ?_
      refine st 25 (t_add (o_t 8 rfl) (o_i (by decide)) h29 rfl rfl) rfl rfl hL fun a s e_ hL => ?_
      refine st 8 (t_move (o_t 25 rfl) rfl rfl) rfl rfl hL fun a s e_ hL => ?_
      refine en' ?_
      exact hKL16 k15 a s (Nat.lt_succ_self _) ⟨a12, (v13 + 1), hL.keep (.cons (t := 0) rfl (fun _ h_ => h_.elim) (.cons (t := 1) rfl (fun _ h_ => h_.elim) (.cons (t := 4) rfl (fun _ _ h_ => h_) (.cons (t := 5) rfl (fun _ _ h_ => h_) (.cons (t := 8) rfl (fun _ h_ => h_.elim) .nil))))), d17, h⟩
  · replace h := h.2 hb_
    refine wp_exit ?_
    exact J9 a12 a s (hL.keep (.cons (t := 4) rfl (fun _ _ h_ => h_) (.cons (t := 5) rfl (fun _ _ h_ => h_) .nil))) d17 h

theorem class_Has_ok {a_ : Cl} {c_ : Int} {r_ : Bool} (h : class_Has a_ c_ r_) : Fn Try.prog 20 [(Pd.rep En.cls a_), (Pd.rep (En.int .u8) c_)] (Rq (Pd.rep En.bool r_)) := by
  unfold class_Has at h
  refine fn_of Try.func20 rfl Try.ntmps20 (by rfl) (by simp) fun s0 a hL => ?_
  refine wp_seq_k fun K1 hK1 => ?_
  refine rg ?_
  refine st 2 (t_box (o_t 0 rfl) rfl rfl) rfl rfl hL fun a s e_ hL => ?_
  refine st 4 (t_assign o_b rfl rfl) rfl rfl hL fun a s e_ hL => ?_
  refine en' ?_
  show K1 a s.w
  refine hK1 _ _ ?_
  refine wp_seq_k fun K2 hK2 => ?_
  obtain ⟨h3, b4, h5, h⟩ := h
  refine rg ?_
  refine st 5 (t_move (o_t 1 rfl) rfl rfl) rfl rfl hL fun a s e_ hL => ?_
  refine st 6 (t_quou (o_t 5 rfl) (o_i (by decide)) (by decide) (by decide) rfl rfl) rfl rfl hL fun a s e_ hL => ?_
  refine st 7 (t_idxc (o_t 2 rfl) (o_t 6 rfl) h3 Try.underlying24 (by rfl) rfl rfl) rfl rfl hL fun a s e_ hL => ?_
  refine st 8 (t_load ty22 (o_t 7 rfl) rfl rfl) rfl rfl hL fun a s e_ hL => ?_
  refine st 9 (t_move (o_t 1 rfl) rfl rfl) rfl rfl hL fun a s e_ hL => ?_
  refine st 10 (t_remu (o_t 9 rfl) (o_i (by decide)) (by decide) (by decide) rfl rfl) rfl rfl hL fun a s e_ hL => ?_
  refine st 11 (t_shr (o_t 8 rfl) (o_t 10 rfl) (by decide) rfl rfl) rfl rfl hL fun a s e_ hL => ?_
  refine st 12 (t_andb (o_t 11 rfl) (o_i (by decide)) rfl rfl) rfl rfl hL fun a s e_ hL => ?_
  refine st 13 (h5 ▸ (t_eqi (o_t 12 rfl) (o_i (by decide)) rfl rfl)) rfl rfl hL fun a s e_ hL => ?_
  refine st 4 (t_assign (o_t 13 rfl) rfl rfl) rfl rfl hL fun a s e_ hL => ?_
  refine en' ?_
  show K2 a s.w
  refine hK2 _ _ ?_
  subst h
  exact wp_ret (retq rfl hL rfl)

theorem class_Least_ok {a_ : Cl} {r_ : (Int × Bool)} (h : class_Least a_ r_) : Fn Try.prog 15 [(Pd.rep En.cls a_)] (Rq2 (Pd.rep (En.int .u8) r_.1) (Pd.rep En.bool r_.2)) := by
  unfold class_Least at h
  refine fn_of Try.func15 rfl Try.ntmps15 (by rfl) (by simp) fun s0 a hL => ?_
  refine wp_seq_k fun K1 hK1 => ?_
  refine rg ?_
  refine st 1 (t_box (o_t 0 rfl) rfl rfl) rfl rfl hL fun a s e_ hL => ?_
  refine st 2 (t_assign (o_i (by decide)) rfl rfl) rfl rfl hL fun a s e_ hL => ?_
  refine st 3 (t_assign o_b rfl rfl) rfl rfl hL fun a s e_ hL => ?_
  refine en' ?_
  show K1 a s.w
  refine hK1 _ _ ?_
  refine wp_seq_k fun K2 hK2 => ?_
  refine wp_seq_k fun K3 hK3 => ?_
  refine rg ?_
  refine st 5 (t_move (o_i (by decide)) rfl rfl) rfl rfl hL fun a s e_ hL => ?_
  refine en' ?_
  show K3 a s.w
  refine hK3 _ _ ?_
  refine wp_block ?_
  have J4 : ∀ (a : Act) (s : St), Has N0 15 s0 a s [] → ((class_Least.j1 r_)) → K2 a s.w := by
    intro a s hL h
    unfold class_Least.j1 at h
    show K2 a s.w
    refine hK2 _ _ ?_
    refine wp_seq_k fun K5 hK5 => ?_
    refine rg ?_
    refine st 2 (t_assign (o_i (by decide)) rfl rfl) rfl rfl hL fun a s e_ hL => ?_
    refine st 3 (t_assign o_b rfl rfl) rfl rfl hL fun a s e_ hL => ?_
    refine en' ?_
    show K5 a s.w
    refine hK5 _ _ ?_
    subst h
    exact wp_ret (ret2 rfl hL rfl rfl)
  obtain ⟨k7, h⟩ := h
  refine lpg (fun k8 a s => ∃ (v6 : Int), Has N0 15 s0 a s [(1, (Pd.ptr En.cls a_)), (5, (Pd.rep (En.int .i64) v6))] ∧ class_Least.l1 a_ r_ (class_Least.j1 r_) k8 v6) k7 ⟨0, hL.keep (.cons (t := 1) rfl (fun _ h_ => h_.elim) (.cons (t := 5) rfl (fun _ h_ => h_.elim) .nil)), h⟩ ?_
  rintro k8 a s ⟨v6, hL, h⟩ KL9 hKL9
  cases k8 with
  | zero => exact h.elim
  | succ k8 =>
  unfold class_Least.l1 at h
  refine wp_seq_k fun K10 hK10 => ?_
  refine rg ?_
  refine st 6 (t_lss (o_t 5 rfl) (o_i (by decide)) rfl rfl) rfl rfl hL fun a s e_ hL => ?_
  refine en' ?_
  show K10 a s.w
  refine hK10 _ _ ?_
  refine wp_seq_k fun K11 hK11 => ?_
  refine cnd hL rfl (fun hb_ => ?_) (fun hb_ => ?_)
  · replace h := h.1 hb_
    refine wp_skip ?_
    show K11 a s.w
    refine hK11 _ _ ?_
    refine wp_seq_k fun K12 hK12 => ?_
    refine wp_block ?_
    refine wp_seq_k fun K13 hK13 => ?_
    refine rg ?_
    refine st 7 (t_move (o_t 5 rfl) rfl rfl) rfl rfl hL fun a s e_ hL => ?_
    refine st 4 (t_assign (o_t 7 rfl) rfl rfl) rfl rfl hL fun a s e_ hL => ?_
    refine en' ?_
    show K13 a s.w
    refine hK13 _ _ ?_
    refine wp_seq_k fun K14 hK14 => ?_
    obtain ⟨r15, h16, h⟩ := h
    refine rg ?_
    refine st 8 (t_load ty24 (o_t 1 rfl) rfl rfl) rfl rfl hL fun a s e_ hL => ?_
    refine st 9 (t_move (o_t 4 rfl) rfl rfl) rfl rfl hL fun a s e_ hL => ?_
    refine st 10 (t_u8 (o_t 9 rfl) Try.underlying3 Try.underlying5 rfl rfl) rfl rfl hL fun a s e_ hL => ?_
    refine st 11 (t_call (class_Has_ok h16) (xs := [.tmp 8, .tmp 10]) (.cons (o_t 8 rfl) (.cons (o_t 10 rfl) .nil)) rfl rfl) rfl rfl hL fun a s e_ hL => ?_
    refine en' ?_
    show K14 a s.w
    refine hK14 _ _ ?_
    refine cnd hL rfl (fun hb_ => ?_) (fun hb_ => ?_)
    · replace h := h.1 hb_
      refine wp_seq_k fun K17 hK17 => ?_
      refine rg ?_
      refine st 12 (t_move (o_t 4 rfl) rfl rfl) rfl rfl hL fun a s e_ hL => ?_
      refine st 13 (t_u8 (o_t 12 rfl) Try.underlying3 Try.underlying5 rfl rfl) rfl rfl hL fun a s e_ hL => ?_
      refine st 2 (t_assign (o_t 13 rfl) rfl rfl) rfl rfl hL fun a s e_ hL => ?_
      refine st 3 (t_assign o_b rfl rfl) rfl rfl hL fun a s e_ hL => ?_
      refine en' ?_
      show K17 a s.w
      refine hK17 _ _ ?_
      subst h
      exact wp_ret (ret2 rfl hL rfl rfl)
    · replace h := h.2 hb_
      refine wp_skip ?_
      show K12 a s.w
      refine hK12 _ _ ?_
      obtain ⟨h18, h⟩ := h
      refine rg ?_
      refine st 14 (t_add (o_t 5 rfl) (o_i (by decide)) h18 rfl rfl) rfl rfl hL fun a s e_ hL => ?_
      refine st 5 (t_move (o_t 14 rfl) rfl rfl) rfl rfl hL fun a s e_ hL => ?_
      refine en' ?_
      exact hKL9 k8 a s (Nat.lt_succ_self _) ⟨(v6 + 1), hL.keep (.cons (t := 1) rfl (fun _ h_ => h_.elim) (.cons (t := 5) rfl (fun _ h_ => h_.elim) .nil)), h⟩
  · replace h := h.2 hb_
    refine wp_exit ?_
    exact J4 a s (hL.keep .nil) h

theorem class_Count_ok {a_ : Cl} {r_ : Int} (h : class_Count a_ r_) : Fn Try.prog 29 [(Pd.rep En.cls a_)] (Rq (Pd.rep (En.int .i64) r_)) := by
  unfold class_Count at h
  refine fn_of Try.func29 rfl Try.ntmps29 (by rfl) (by simp) fun s0 a hL => ?_
  refine wp_seq_k fun K1 hK1 => ?_
  refine rg ?_
  refine st 1 (t_box (o_t 0 rfl) rfl rfl) rfl rfl hL fun a s e_ hL => ?_
  refine st 2 (t_assign (o_i (by decide)) rfl rfl) rfl rfl hL fun a s e_ hL => ?_
  refine en' ?_
  show K1 a s.w
  refine hK1 _ _ ?_
  refine wp_seq_k fun K2 hK2 => ?_
  refine rg ?_
  refine st 3 (t_assign (o_i (by decide)) rfl rfl) rfl rfl hL fun a s e_ hL => ?_
  refine en' ?_
  show K2 a s.w
  refine hK2 _ _ ?_
  refine wp_seq_k fun K3 hK3 => ?_
  refine wp_seq_k fun K4 hK4 => ?_
  refine rg ?_
  refine st 5 (t_move (o_i (by decide)) rfl rfl) rfl rfl hL fun a s e_ hL => ?_
  refine en' ?_
  show K4 a s.w
  refine hK4 _ _ ?_
  refine wp_block ?_
  have J6 : ∀ (n5 : Int) (a : Act) (s : St), Has N0 16 s0 a s [(3, (Pd.rep (En.int .i64) n5))] → ((class_Count.j1 r_) n5) → K3 a s.w := by
    intro n5 a s hL h
    unfold class_Count.j1 at h
    show K3 a s.w
    refine hK3 _ _ ?_
    refine wp_seq_k fun K7 hK7 => ?_
    refine rg ?_
    refine st 15 (t_move (o_t 3 rfl) rfl rfl) rfl rfl hL fun a s e_ hL => ?_
    refine st 2 (t_assign (o_t 15 rfl) rfl rfl) rfl rfl hL fun a s e_ hL => ?_
    refine en' ?_
    show K7 a s.w
    refine hK7 _ _ ?_
    subst h
    exact wp_ret (retq rfl hL rfl)
  obtain ⟨k10, h⟩ := h
  refine lpg (fun k11 a s => ∃ (n8 : Int) (v9 : Int), Has N0 16 s0 a s [(1, (Pd.ptr En.cls a_)), (3, (Pd.rep (En.int .i64) n8)), (5, (Pd.rep (En.int .i64) v9))] ∧ class_Count.l1 a_ (class_Count.j1 r_) k11 n8 v9) k10 ⟨0, 0, hL.keep (.cons (t := 1) rfl (fun _ h_ => h_.elim) (.cons (t := 3) rfl (fun _ h_ => h_.elim) (.cons (t := 5) rfl (fun _ h_ => h_.elim) .nil))), h⟩ ?_
  rintro k11 a s ⟨n8, v9, hL, h⟩ KL12 hKL12
  cases k11 with
  | zero => exact h.elim
  | succ k11 =>
  unfold class_Count.l1 at h
  refine wp_seq_k fun K13 hK13 => ?_
  refine rg ?_
  refine st 6 (t_lss (o_t 5 rfl) (o_i (by decide)) rfl rfl) rfl rfl hL fun a s e_ hL => ?_
  refine en' ?_
  show K13 a s.w
  refine hK13 _ _ ?_
  refine wp_seq_k fun K14 hK14 => ?_
  refine cnd hL rfl (fun hb_ => ?_) (fun hb_ => ?_)
  · replace h := h.1 hb_
    refine wp_skip ?_
    show K14 a s.w
    refine hK14 _ _ ?_
    refine wp_seq_k fun K15 hK15 => ?_
    refine wp_block ?_
    refine wp_seq_k fun K16 hK16 => ?_
    refine rg ?_
    refine st 7 (t_move (o_t 5 rfl) rfl rfl) rfl rfl hL fun a s e_ hL => ?_
    refine st 4 (t_assign (o_t 7 rfl) rfl rfl) rfl rfl hL fun a s e_ hL => ?_
    refine en' ?_
    show K16 a s.w
    refine hK16 _ _ ?_
    refine wp_seq_k fun K17 hK17 => ?_
    obtain ⟨r18, h19, h⟩ := h
    refine rg ?_
    refine st 8 (t_load ty24 (o_t 1 rfl) rfl rfl) rfl rfl hL fun a s e_ hL => ?_
    refine st 9 (t_move (o_t 4 rfl) rfl rfl) rfl rfl hL fun a s e_ hL => ?_
    refine st 10 (t_u8 (o_t 9 rfl) Try.underlying3 Try.underlying5 rfl rfl) rfl rfl hL fun a s e_ hL => ?_
    refine st 11 (t_call (class_Has_ok h19) (xs := [.tmp 8, .tmp 10]) (.cons (o_t 8 rfl) (.cons (o_t 10 rfl) .nil)) rfl rfl) rfl rfl hL fun a s e_ hL => ?_
    refine en' ?_
    show K17 a s.w
    refine hK17 _ _ ?_
    refine cnd hL rfl (fun hb_ => ?_) (fun hb_ => ?_)
    · replace h := h.1 hb_
      obtain ⟨h20, h⟩ := h
      refine rg ?_
      refine st 12 (t_move (o_t 3 rfl) rfl rfl) rfl rfl hL fun a s e_ hL => ?_
      refine st 13 (t_add (o_t 12 rfl) (o_i (by decide)) h20 rfl rfl) rfl rfl hL fun a s e_ hL => ?_
      refine st 3 (t_assign (o_t 13 rfl) rfl rfl) rfl rfl hL fun a s e_ hL => ?_
      refine en' ?_
      show K15 a s.w
      refine hK15 _ _ ?_
      obtain ⟨h21, h⟩ := h
      refine rg ?_
      refine st 14 (t_add (o_t 5 rfl) (o_i (by decide)) h21 rfl rfl) rfl rfl hL fun a s e_ hL => ?_
      refine st 5 (t_move (o_t 14 rfl) rfl rfl) rfl rfl hL fun a s e_ hL => ?_
      refine en' ?_
      exact hKL12 k11 a s (Nat.lt_succ_self _) ⟨(n8 + 1), (v9 + 1), hL.keep (.cons (t := 1) rfl (fun _ h_ => h_.elim) (.cons (t := 3) rfl (fun _ h_ => h_.elim) (.cons (t := 5) rfl (fun _ h_ => h_.elim) .nil))), h⟩
    · replace h := h.2 hb_
      refine wp_skip ?_
      show K15 a s.w
      refine hK15 _ _ ?_
      obtain ⟨h22, h⟩ := h
      refine rg ?_
      refine st 14 (t_add (o_t 5 rfl) (o_i (by decide)) h22 rfl rfl) rfl rfl hL fun a s e_ hL => ?_
      refine st 5 (t_move (o_t 14 rfl) rfl rfl) rfl rfl hL fun a s e_ hL => ?_
      refine en' ?_
      exact hKL12 k11 a s (Nat.lt_succ_self _) ⟨n8, (v9 + 1), hL.keep (.cons (t := 1) rfl (fun _ h_ => h_.elim) (.cons (t := 3) rfl (fun _ h_ => h_.elim) (.cons (t := 5) rfl (fun _ h_ => h_.elim) .nil))), h⟩
  · replace h := h.2 hb_
    refine wp_exit ?_
    exact J6 n8 a s (hL.keep (.cons (t := 3) rfl (fun _ h_ => h_.elim) .nil)) h

theorem class_Not_ok {a_ : Cl} {r_ : Cl} (h : class_Not a_ r_) : Fn Try.prog 27 [(Pd.rep En.cls a_)] (Rq (Pd.rep En.cls r_)) := by
  unfold class_Not at h
  refine fn_of Try.func27 rfl Try.ntmps27 (by rfl) (by simp) fun s0 a hL => ?_
  refine wp_seq_k fun K1 hK1 => ?_
  refine rg ?_
  refine st_boxm 1 hL (o_t 0 rfl) rfl rfl rfl rfl fun a s g2 hg_ hL => ?_
  have lt_d4 := hL.blt 1 rfl
  refine st_alloc En.cls (z := (0#256)) 2 hL tyz24 rfl rfl rfl rfl fun a s g3 hg_ hL => ?_
  have d4 : Dis (some g3) (some g2) := Dis.newg hg_ lt_d4
  refine en' ?_
  show K1 a s.w
  refine hK1 _ _ ?_
  refine wp_seq_k fun K5 hK5 => ?_
  refine wp_seq_k fun K6 hK6 => ?_
  refine rg ?_
  refine st 4 (t_move (o_i (by decide)) rfl rfl) rfl rfl hL fun a s e_ hL => ?_
  refine en' ?_
  show K6 a s.w
  refine hK6 _ _ ?_
  refine wp_block ?_
  have J8 : ∀ (a7 : Cl) (a : Act) (s : St), Has N0 15 s0 a s [(1, (Pd.box En.cls s0.w.heap.size g2 a7)), (2, (Pd.box En.cls s0.w.heap.size g3 (0#256)))] → Dis (some g2) (some g3) → ((class_Not.j1 r_) a7) → K5 a s.w := by
    intro a7 a s hL d9 h
    unfold class_Not.j1 at h
    show K5 a s.w
    refine hK5 _ _ ?_
    refine wp_seq_k fun K10 hK10 => ?_
    refine rg ?_
    refine st 14 (t_loadb ty24 (o_t 1 rfl) rfl rfl) rfl rfl hL fun a s e_ hL => ?_
    refine st_stb (L' := []) 2 hL rfl (o_t 14 rfl) ty24 rfl rfl rfl .nil fun s hL => ?_
    refine en' ?_
    show K10 a s.w
    refine hK10 _ _ ?_
    subst h
    exact wp_ret (retb rfl ty24 hL rfl)
  obtain ⟨k13, h⟩ := h
  refine lpg (fun k14 a s => ∃ (a11 : Cl) (v12 : Int), Has N0 15 s0 a s [(1, (Pd.box En.cls s0.w.heap.size g2 a11)), (2, (Pd.box En.cls s0.w.heap.size g3 (0#256))), (4, (Pd.rep (En.int .i64) v12))] ∧ Dis (some g2) (some g3) ∧ class_Not.l1 (class_Not.j1 r_) k14 a11 v12) k13 ⟨a_, 0, hL.keep (.cons (t := 1) rfl (fun _ _ h_ => h_) (.cons (t := 2) rfl (fun _ _ h_ => h_) (.cons (t := 4) rfl (fun _ h_ => h_.elim) .nil))), (Dis.symm d4), h⟩ ?_
  rintro k14 a s ⟨a11, v12, hL, d16, h⟩ KL15 hKL15
  cases k14 with
  | zero => exact h.elim
  | succ k14 =>
  unfold class_Not.l1 at h
  refine wp_seq_k fun K17 hK17 => ?_
  refine rg ?_
  refine st 5 (t_lss (o_t 4 rfl) (o_i (by decide)) rfl rfl) rfl rfl hL fun a s e_ hL => ?_
  refine en' ?_
  show K17 a s.w
  refine hK17 _ _ ?_
  refine wp_seq_k fun K18 hK18 => ?_
  refine cnd hL rfl (fun hb_ => ?_) (fun hb_ => ?_)
  · replace h := h.1 hb_
    refine wp_skip ?_
    show K18 a s.w
    refine hK18 _ _ ?_
    refine wp_seq_k fun K19 hK19 => ?_
    refine wp_block ?_
    refine wp_seq_k fun K20 hK20 => ?_
    refine rg ?_
    refine st 6 (t_move (o_t 4 rfl) rfl rfl) rfl rfl hL fun a s e_ hL => ?_
    refine st 3 (t_assign (o_t 6 rfl) rfl rfl) rfl rfl hL fun a s e_ hL => ?_
    refine en' ?_
    show K20 a s.w
    refine hK20 _ _ ?_
    obtain ⟨h21, h22, h⟩ := h
    refine rg ?_
    refine st 7 (t_move (o_t 3 rfl) rfl rfl) rfl rfl hL fun a s e_ hL => ?_
    refine st 8 (t_move (o_t 3 rfl) rfl rfl) rfl rfl hL fun a s e_ hL => ?_
    refine st 9 (t_idxcb (o_t 1 rfl) (o_t 8 rfl) h21 Try.underlying24 (by rfl) rfl rfl) rfl rfl hL fun a s e_ hL => ?_
    refine st 10 (t_loado ty22 (o_t 9 rfl) rfl rfl) rfl rfl hL fun a s e_ hL => ?_
    refine st 11 (t_com (o_t 10 rfl) rfl rfl) rfl rfl hL fun a s e_ hL => ?_
    refine st 12 (t_idxcb (o_t 1 rfl) (o_t 7 rfl) h22 Try.underlying24 (by rfl) rfl rfl) rfl rfl hL fun a s e_ hL => ?_
    refine st_stob (L' := [(2, (Pd.box En.cls s0.w.heap.size g3 (0#256))), (4, (Pd.rep (En.int .i64) v12))]) 1 hL rfl (o_t 12 rfl) (o_t 11 rfl) (sub_cls h22) ty22 rfl rfl rfl (.cons (t := 2) rfl (Dis.bx d4) (.cons (t := 4) rfl (fun _ h_ => h_.elim) .nil)) fun s hL => ?_
    refine en' ?_
    show K19 a s.w
    refine hK19 _ _ ?_
    obtain ⟨h23, h⟩ := h
    refine rg ?_
    refine st 13 (t_add (o_t 4 rfl) (o_i (by decide)) h23 rfl rfl) rfl rfl hL fun a s e_ hL => ?_
    refine st 4 (t_move (o_t 13 rfl) rfl rfl) rfl rfl hL fun a s e_ hL => ?_
    refine en' ?_
    exact hKL15 k14 a s (Nat.lt_succ_self _) ⟨(Cl.setw a11 v12 (xorI 18446744073709551615 (Cl.w a11 v12))), (v12 + 1), hL.keep (.cons (t := 1) rfl (fun _ _ h_ => h_) (.cons (t := 2) rfl (fun _ _ h_ => h_) (.cons (t := 4) rfl (fun _ h_ => h_.elim) .nil))), d16, h⟩
  · replace h := h.2 hb_
    refine wp_exit ?_
    exact J8 a11 a s (hL.keep (.cons (t := 1) rfl (fun _ _ h_ => h_) (.cons (t := 2) rfl (fun _ _ h_ => h_) .nil))) d16 h

theorem class_Join_ok {a_ : Cl} {b_ : Cl} {r_ : Cl} (h : class_Join a_ b_ r_) : Fn Try.prog 24 [(Pd.rep En.cls a_), (Pd.rep En.cls b_)] (Rq (Pd.rep En.cls r_)) := by
  unfold class_Join at h
  refine fn_of Try.func24 rfl Try.ntmps24 (by rfl) (by simp) fun s0 a hL => ?_
  refine wp_seq_k fun K1 hK1 => ?_
  refine rg ?_
  refine st_boxm 2 hL (o_t 0 rfl) rfl rfl rfl rfl fun a s g2 hg_ hL => ?_
  refine st 3 (t_box (o_t 1 rfl) rfl rfl) rfl rfl hL fun a s e_ hL => ?_
  have lt_d4 := hL.blt 2 rfl
  refine st_alloc En.cls (z := (0#256)) 4 hL tyz24 rfl rfl rfl rfl fun a s g3 hg_ hL => ?_
  have d4 : Dis (some g3) (some g2) := Dis.newg hg_ lt_d4
  refine en' ?_
  show K1 a s.w
  refine hK1 _ _ ?_
  refine wp_seq_k fun K5 hK5 => ?_
  refine wp_seq_k fun K6 hK6 => ?_
  refine rg ?_
  refine st 6 (t_move (o_i (by decide)) rfl rfl) rfl rfl hL fun a s e_ hL => ?_
  refine en' ?_
  show K6 a s.w
  refine hK6 _ _ ?_
  refine wp_block ?_
  have J8 : ∀ (a7 : Cl) (a : Act) (s : St), Has N0 19 s0 a s [(2, (Pd.box En.cls s0.w.heap.size g2 a7)), (4, (Pd.box En.cls s0.w.heap.size g3 (0#256)))] → Dis (some g2) (some g3) → ((class_Join.j1 r_) a7) → K5 a s.w := by
    intro a7 a s hL d9 h
    unfold class_Join.j1 at h
    show K5 a s.w
    refine hK5 _ _ ?_
    refine wp_seq_k fun K10 hK10 => ?_
    refine rg ?_
    refine st 18 (t_loadb ty24 (o_t 2 rfl) rfl rfl) rfl rfl hL fun a s e_ hL => ?_
    refine st_stb (L' := []) 4 hL rfl (o_t 18 rfl) ty24 rfl rfl rfl .nil fun s hL => ?_
    refine en' ?_
    show K10 a s.w
    refine hK10 _ _ ?_
    subst h
    exact wp_ret (retb rfl ty24 hL rfl)
  obtain ⟨k13, h⟩ := h
  refine lpg (fun k14 a s => ∃ (a11 : Cl) (v12 : Int), Has N0 19 s0 a s [(2, (Pd.box En.cls s0.w.heap.size g2 a11)), (3, (Pd.ptr En.cls b_)), (4, (Pd.box En.cls s0.w.heap.size g3 (0#256))), (6, (Pd.rep (En.int .i64) v12))] ∧ Dis (some g2) (some g3) ∧ class_Join.l1 b_ (class_Join.j1 r_) k14 a11 v12) k13 ⟨a_, 0, hL.keep (.cons (t := 2) rfl (fun _ _ h_ => h_) (.cons (t := 3) rfl (fun _ h_ => h_.elim) (.cons (t := 4) rfl (fun _ _ h_ => h_) (.cons (t := 6) rfl (fun _ h_ => h_.elim) .nil)))), (Dis.symm d4), h⟩ ?_
  rintro k14 a s ⟨a11, v12, hL, d16, h⟩ KL15 hKL15
  cases k14 with
  | zero => exact h.elim
  | succ k14 =>
  unfold class_Join.l1 at h
  refine wp_seq_k fun K17 hK17 => ?_
  refine rg ?_
  refine st 7 (t_lss (o_t 6 rfl) (o_i (by decide)) rfl rfl) rfl rfl hL fun a s e_ hL => ?_
  refine en' ?_
  show K17 a s.w
  refine hK17 _ _ ?_
  refine wp_seq_k fun K18 hK18 => ?_
  refine cnd hL rfl (fun hb_ => ?_) (fun hb_ => ?_)
  · replace h := h.1 hb_
    refine wp_skip ?_
    show K18 a s.w
    refine hK18 _ _ ?_
    refine wp_seq_k fun K19 hK19 => ?_
    refine wp_block ?_
    refine wp_seq_k fun K20 hK20 => ?_
    refine rg ?_
    refine st 8 (t_move (o_t 6 rfl) rfl rfl) rfl rfl hL fun a s e_ hL => ?_
    refine st 5 (t_assign (o_t 8 rfl) rfl rfl) rfl rfl hL fun a s e_ hL => ?_
    refine en' ?_
    show K20 a s.w
    refine hK20 _ _ ?_
    obtain ⟨h21, h22, h23, h⟩ := h
    refine rda follows 8 [(Pd.rep (En.int .i64) v12), (Pd.optr (En.int .u64) s0.w.heap.size (some g2) (v12.toNat) (Cl.w a11 v12)), (Pd.rep (En.int .u64) (Cl.w a11 v12)), (Pd.rep (En.int .i64) v12), (Pd.ptr (En.int .u64) (Cl.w b_ v12)), (Pd.rep (En.int .u64) (Cl.w b_ v12)), (Pd.rep (En.int .u64) (orI (Cl.w a11 v12) (Cl.w b_ v12))), (Pd.optr (En.int .u64) s0.w.heap.size (some g2) (v12.toNat) (Cl.w a11 v12))] hL (by kernel_rfl) rfl rfl ?_ ?_
    · refine AllT.cons (t_move (o_t 5 rfl) rfl rfl) ?_
      refine AllT.cons (t_idxcb (o_t 2 rfl) (o_t 9 rfl) h21 Try.underlying24 (by rfl) rfl rfl) ?_
      refine AllT.cons (t_loado ty22 (o_t 10 rfl) rfl rfl) ?_
      refine AllT.cons (t_move (o_t 5 rfl) rfl rfl) ?_
      refine AllT.cons (t_idxc (o_t 3 rfl) (o_t 12 rfl) h22 Try.underlying24 (by rfl) rfl rfl) ?_
      refine AllT.cons (t_load ty22 (o_t 13 rfl) rfl rfl) ?_
      refine AllT.cons (t_orb (o_t 11 rfl) (o_t 14 rfl) rfl rfl) ?_
      refine AllT.cons (t_idxcb (o_t 2 rfl) (o_t 9 rfl) h23 Try.underlying24 (by rfl) rfl rfl) ?_
      exact AllT.nil
    intro a s e_ hL
    refine st_stob (L' := [(3, (Pd.ptr En.cls b_)), (4, (Pd.box En.cls s0.w.heap.size g3 (0#256))), (6, (Pd.rep (En.int .i64) v12))]) 2 hL rfl (o_t 16 rfl) (o_t 15 rfl) (sub_cls h23) ty22 rfl rfl rfl (.cons (t := 3) rfl (fun _ h_ => h_.elim) (.cons (t := 4) rfl (Dis.bx d4) (.cons (t := 6) rfl (fun _ h_ => h_.elim) .nil))) fun s hL => ?_
    refine en' ?_
    show K19 a s.w
    refine hK19 _ _ ?_
    obtain ⟨h24, h⟩ := h
    refine rg ?_
    refine st 17 (t_add (o_t 6 rfl) (o_i (by decide)) h24 rfl rfl) rfl rfl hL fun a s e_ hL => ?_
    refine st 6 (t_move (o_t 17 rfl) rfl rfl) rfl rfl hL fun a s e_ hL => ?_
    refine en' ?_
    exact hKL15 k14 a s (Nat.lt_succ_self _) ⟨(Cl.setw a11 v12 (orI (Cl.w a11 v12) (Cl.w b_ v12))), (v12 + 1), hL.keep (.cons (t := 2) rfl (fun _ _ h_ => h_) (.cons (t := 3) rfl (fun _ h_ => h_.elim) (.cons (t := 4) rfl (fun _ _ h_ => h_) (.cons (t := 6) rfl (fun _ h_ => h_.elim) .nil)))), d16, h⟩
  · replace h := h.2 hb_
    refine wp_exit ?_
    exact J8 a11 a s (hL.keep (.cons (t := 2) rfl (fun _ _ h_ => h_) (.cons (t := 4) rfl (fun _ _ h_ => h_) .nil))) d16 h

theorem class_Both_ok {a_ : Cl} {b_ : Cl} {r_ : Cl} (h : class_Both a_ b_ r_) : Fn Try.prog 25 [(Pd.rep En.cls a_), (Pd.rep En.cls b_)] (Rq (Pd.rep En.cls r_)) := by
  unfold class_Both at h
  refine fn_of Try.func25 rfl Try.ntmps25 (by rfl) (by simp) fun s0 a hL => ?_
  refine wp_seq_k fun K1 hK1 => ?_
  refine rg ?_
  refine st_boxm 2 hL (o_t 0 rfl) rfl rfl rfl rfl fun a s g2 hg_ hL => ?_
  refine st 3 (t_box (o_t 1 rfl) rfl rfl) rfl rfl hL fun a s e_ hL => ?_
  have lt_d4 := hL.blt 2 rfl
  refine st_alloc En.cls (z := (0#256)) 4 hL tyz24 rfl rfl rfl rfl fun a s g3 hg_ hL => ?_
  have d4 : Dis (some g3) (some g2) := Dis.newg hg_ lt_d4
  refine en' ?_
  show K1 a s.w
  refine hK1 _ _ ?_
  refine wp_seq_k fun K5 hK5 => ?_
  refine wp_seq_k fun K6 hK6 => ?_
  refine rg ?_
  refine st 6 (t_move (o_i (by decide)) rfl rfl) rfl rfl hL fun a s e_ hL => ?_
  refine en' ?_
  show K6 a s.w
  refine hK6 _ _ ?_
  refine wp_block ?_
  have J8 : ∀ (a7 : Cl) (a : Act) (s : St), Has N0 19 s0 a s [(2, (Pd.box En.cls s0.w.heap.size g2 a7)), (4, (Pd.box En.cls s0.w.heap.size g3 (0#256)))] → Dis (some g2) (some g3) → ((class_Both.j1 r_) a7) → K5 a s.w := by
    intro a7 a s hL d9 h
    unfold class_Both.j1 at h
    show K5 a s.w
    refine hK5 _ _ ?_
    refine wp_seq_k fun K10 hK10 => ?_
    refine rg ?_
    refine st 18 (t_loadb ty24 (o_t 2 rfl) rfl rfl) rfl rfl hL fun a s e_ hL => ?_
    refine st_stb (L' := []) 4 hL rfl (o_t 18 rfl) ty24 rfl rfl rfl .nil fun s hL => ?_
    refine en' ?_
    show K10 a s.w
    refine hK10 _ _ ?_
    subst h
    exact wp_ret (retb rfl ty24 hL rfl)
  obtain ⟨k13, h⟩ := h
  refine lpg (fun k14 a s => ∃ (a11 : Cl) (v12 : Int), Has N0 19 s0 a s [(2, (Pd.box En.cls s0.w.heap.size g2 a11)), (3, (Pd.ptr En.cls b_)), (4, (Pd.box En.cls s0.w.heap.size g3 (0#256))), (6, (Pd.rep (En.int .i64) v12))] ∧ Dis (some g2) (some g3) ∧ class_Both.l1 b_ (class_Both.j1 r_) k14 a11 v12) k13 ⟨a_, 0, hL.keep (.cons (t := 2) rfl (fun _ _ h_ => h_) (.cons (t := 3) rfl (fun _ h_ => h_.elim) (.cons (t := 4) rfl (fun _ _ h_ => h_) (.cons (t := 6) rfl (fun _ h_ => h_.elim) .nil)))), (Dis.symm d4), h⟩ ?_
  rintro k14 a s ⟨a11, v12, hL, d16, h⟩ KL15 hKL15
  cases k14 with
  | zero => exact h.elim
  | succ k14 =>
  unfold class_Both.l1 at h
  refine wp_seq_k fun K17 hK17 => ?_
  refine rg ?_
  refine st 7 (t_lss (o_t 6 rfl) (o_i (by decide)) rfl rfl) rfl rfl hL fun a s e_ hL => ?_
  refine en' ?_
  show K17 a s.w
  refine hK17 _ _ ?_
  refine wp_seq_k fun K18 hK18 => ?_
  refine cnd hL rfl (fun hb_ => ?_) (fun hb_ => ?_)
  · replace h := h.1 hb_
    refine wp_skip ?_
    show K18 a s.w
    refine hK18 _ _ ?_
    refine wp_seq_k fun K19 hK19 => ?_
    refine wp_block ?_
    refine wp_seq_k fun K20 hK20 => ?_
    refine rg ?_
    refine st 8 (t_move (o_t 6 rfl) rfl rfl) rfl rfl hL fun a s e_ hL => ?_
    refine st 5 (t_assign (o_t 8 rfl) rfl rfl) rfl rfl hL fun a s e_ hL => ?_
    refine en' ?_
    show K20 a s.w
    refine hK20 _ _ ?_
    obtain ⟨h21, h22, h23, h⟩ := h
    refine rda follows 8 [(Pd.rep (En.int .i64) v12), (Pd.optr (En.int .u64) s0.w.heap.size (some g2) (v12.toNat) (Cl.w a11 v12)), (Pd.rep (En.int .u64) (Cl.w a11 v12)), (Pd.rep (En.int .i64) v12), (Pd.ptr (En.int .u64) (Cl.w b_ v12)), (Pd.rep (En.int .u64) (Cl.w b_ v12)), (Pd.rep (En.int .u64) (andI (Cl.w a11 v12) (Cl.w b_ v12))), (Pd.optr (En.int .u64) s0.w.heap.size (some g2) (v12.toNat) (Cl.w a11 v12))] hL (by kernel_rfl) rfl rfl ?_ ?_
    · refine AllT.cons (t_move (o_t 5 rfl) rfl rfl) ?_
      refine AllT.cons (t_idxcb (o_t 2 rfl) (o_t 9 rfl) h21 Try.underlying24 (by rfl) rfl rfl) ?_
      refine AllT.cons (t_loado ty22 (o_t 10 rfl) rfl rfl) ?_
      refine AllT.cons (t_move (o_t 5 rfl) rfl rfl) ?_
      refine AllT.cons (t_idxc (o_t 3 rfl) (o_t 12 rfl) h22 Try.underlying24 (by rfl) rfl rfl) ?_
      refine AllT.cons (t_load ty22 (o_t 13 rfl) rfl rfl) ?_
      refine AllT.cons (t_andb (o_t 11 rfl) (o_t 14 rfl) rfl rfl) ?_
      refine AllT.cons (t_idxcb (o_t 2 rfl) (o_t 9 rfl) h23 Try.underlying24 (by rfl) rfl rfl) ?_
      exact AllT.nil
    intro a s e_ hL
    refine st_stob (L' := [(3, (Pd.ptr En.cls b_)), (4, (Pd.box En.cls s0.w.heap.size g3 (0#256))), (6, (Pd.rep (En.int .i64) v12))]) 2 hL rfl (o_t 16 rfl) (o_t 15 rfl) (sub_cls h23) ty22 rfl rfl rfl (.cons (t := 3) rfl (fun _ h_ => h_.elim) (.cons (t := 4) rfl (Dis.bx d4) (.cons (t := 6) rfl (fun _ h_ => h_.elim) .nil))) fun s hL => ?_
    refine en' ?_
    show K19 a s.w
    refine hK19 _ _ ?_
    obtain ⟨h24, h⟩ := h
    refine rg ?_
    refine st 17 (t_add (o_t 6 rfl) (o_i (by decide)) h24 rfl rfl) rfl rfl hL fun a s e_ hL => ?_
    refine st 6 (t_move (o_t 17 rfl) rfl rfl) rfl rfl hL fun a s e_ hL => ?_
    refine en' ?_
    exact hKL15 k14 a s (Nat.lt_succ_self _) ⟨(Cl.setw a11 v12 (andI (Cl.w a11 v12) (Cl.w b_ v12))), (v12 + 1), hL.keep (.cons (t := 2) rfl (fun _ _ h_ => h_) (.cons (t := 3) rfl (fun _ h_ => h_.elim) (.cons (t := 4) rfl (fun _ _ h_ => h_) (.cons (t := 6) rfl (fun _ h_ => h_.elim) .nil)))), d16, h⟩
  · replace h := h.2 hb_
    refine wp_exit ?_
    exact J8 a11 a s (hL.keep (.cons (t := 2) rfl (fun _ _ h_ => h_) (.cons (t := 4) rfl (fun _ _ h_ => h_) .nil))) d16 h

theorem law01_awake_ok  {r_ : Bool} (h : law01_awake  r_) : Fn Try.prog 14 [] (Rq (Pd.rep En.bool r_)) := by
  unfold law01_awake at h
  refine fn_of Try.func14 rfl Try.ntmps14 (by rfl) (by simp) fun s0 a hL => ?_
  refine wp_seq_k fun K1 hK1 => ?_
  refine rg ?_
  refine st 0 (t_assign o_b rfl rfl) rfl rfl hL fun a s e_ hL => ?_
  refine en' ?_
  show K1 a s.w
  refine hK1 _ _ ?_
  refine wp_seq_k fun K2 hK2 => ?_
  obtain ⟨r3, h4, h⟩ := h
  refine rg ?_
  refine st 6 (t_call (class_Of_ok h4) (xs := [.const (.int .u8 97), .const (.int .u8 99)]) (.cons (o_i (by decide)) (.cons (o_i (by decide)) .nil)) rfl rfl) rfl rfl hL fun a s e_ hL => ?_
  refine st_alloc En.cls (z := (0#256)) 1 hL tyz24 rfl rfl rfl rfl fun a s g5 hg_ hL => ?_
  refine st_stb (L' := []) 1 hL rfl (o_t 6 rfl) ty24 rfl rfl rfl .nil fun s hL => ?_
  refine en' ?_
  show K2 a s.w
  refine hK2 _ _ ?_
  refine wp_seq_k fun K6 hK6 => ?_
  obtain ⟨r7, h8, h⟩ := h
  refine rg ?_
  refine st 8 (t_loadb ty24 (o_t 1 rfl) rfl rfl) rfl rfl hL fun a s e_ hL => ?_
  refine st 9 (t_call ((class_Least_ok h8).tup) (xs := [.tmp 8]) (.cons (o_t 8 rfl) .nil) rfl rfl) rfl rfl hL fun a s e_ hL => ?_
  refine st 7 (t_move (o_t 9 rfl) rfl rfl) rfl rfl hL fun a s e_ hL => ?_
  refine st 10 (t_ext0 (o_t 7 rfl) rfl rfl) rfl rfl hL fun a s e_ hL => ?_
  refine st 11 (t_ext1 (o_t 7 rfl) rfl rfl) rfl rfl hL fun a s e_ hL => ?_
  refine st 2 (t_assign (o_t 10 rfl) rfl rfl) rfl rfl hL fun a s e_ hL => ?_
  refine st 3 (t_assign (o_t 11 rfl) rfl rfl) rfl rfl hL fun a s e_ hL => ?_
  refine en' ?_
  show K6 a s.w
  refine hK6 _ _ ?_
  refine wp_seq_k fun K9 hK9 => ?_
  obtain ⟨r10, h11, h⟩ := h
  refine rg ?_
  refine st 13 (t_bcls (x := (0#256)) Try.underlying24 (by rfl) tyz24 (fun _ => by kernel_rfl) rfl rfl) rfl rfl hL fun a s e_ hL => ?_
  refine st 14 (t_call ((class_Least_ok h11).tup) (xs := [.tmp 13]) (.cons (o_t 13 rfl) .nil) rfl rfl) rfl rfl hL fun a s e_ hL => ?_
  refine st 12 (t_move (o_t 14 rfl) rfl rfl) rfl rfl hL fun a s e_ hL => ?_
  refine st 15 (t_ext0 (o_t 12 rfl) rfl rfl) rfl rfl hL fun a s e_ hL => ?_
  refine st 16 (t_ext1 (o_t 12 rfl) rfl rfl) rfl rfl hL fun a s e_ hL => ?_
  refine st 4 (t_assign (o_t 15 rfl) rfl rfl) rfl rfl hL fun a s e_ hL => ?_
  refine st 5 (t_assign (o_t 16 rfl) rfl rfl) rfl rfl hL fun a s e_ hL => ?_
  refine en' ?_
  show K9 a s.w
  refine hK9 _ _ ?_
  refine wp_seq_k fun K12 hK12 => ?_
  obtain ⟨r13, h14, r15, h16, r17, h18, b19, h20, r21, h22, r23, h24, r25, h26, b27, h28, r29, h30, b31, h32, r33, h34, r35, h36, r37, h38, r39, h40, r41, h42, r43, h44, b45, h46, h⟩ := h
  refine rg ?_
  refine st 17 (t_loadb ty24 (o_t 1 rfl) rfl rfl) rfl rfl hL fun a s e_ hL => ?_
  refine st 18 (t_call (class_Count_ok h14) (xs := [.tmp 17]) (.cons (o_t 17 rfl) .nil) rfl rfl) rfl rfl hL fun a s e_ hL => ?_
  refine st 19 (t_eqi (o_t 18 rfl) (o_i (by decide)) rfl rfl) rfl rfl hL fun a s e_ hL => ?_
  refine st 20 (t_move (o_t 19 rfl) rfl rfl) rfl rfl hL fun a s e_ hL => ?_
  refine st 21 (t_g1 rfl rfl rfl (fun hc_ => t_loadb ty24 (o_t 1 rfl) rfl rfl)) rfl rfl hL fun a s e_ hL => ?_
  refine st 22 (t_g1 rfl rfl rfl (fun hc_ => t_call (class_Has_ok (h16 hc_)) (xs := [.tmp 21, .const (.int .u8 98)]) (.cons (o_w hc_ 21 rfl) (.cons (o_i (by decide)) .nil)) rfl rfl)) rfl rfl hL fun a s e_ hL => ?_
  refine st 23 (t_and (o_t 20 rfl) (fun hc2_ => (o_w hc2_ 22 rfl)) rfl rfl) rfl rfl hL fun a s e_ hL => ?_
  refine st 24 (t_move (o_t 23 rfl) rfl rfl) rfl rfl hL fun a s e_ hL => ?_
  refine st 25 (t_g1 rfl rfl rfl (fun hc_ => t_loadb ty24 (o_t 1 rfl) rfl rfl)) rfl rfl hL fun a s e_ hL => ?_
  refine st 26 (t_g1 rfl rfl rfl (fun hc_ => t_call (class_Has_ok (h18 hc_)) (xs := [.tmp 25, .const (.int .u8 100)]) (.cons (o_w hc_ 25 rfl) (.cons (o_i (by decide)) .nil)) rfl rfl)) rfl rfl hL fun a s e_ hL => ?_
  refine st 27 (t_g1 rfl rfl rfl (fun hc_ => t_not (o_w hc_ 26 rfl) rfl rfl)) rfl rfl hL fun a s e_ hL => ?_
  refine st 28 (t_and (o_t 24 rfl) (fun hc2_ => (o_w hc2_ 27 rfl)) rfl rfl) rfl rfl hL fun a s e_ hL => ?_
  refine st 29 (t_move (o_t 28 rfl) rfl rfl) rfl rfl hL fun a s e_ hL => ?_
  refine st 30 (t_g1 rfl rfl rfl (fun hc_ => t_move (o_t 2 rfl) rfl rfl)) rfl rfl hL fun a s e_ hL => ?_
  refine st 31 (t_g1 rfl rfl rfl (fun hc_ => t_eqi (o_w hc_ 30 rfl) (o_i (by decide)) rfl rfl)) rfl rfl hL fun a s e_ hL => ?_
  refine st 32 (t_and (o_t 29 rfl) (fun hc2_ => (o_w hc2_ 31 rfl)) rfl rfl) rfl rfl hL fun a s e_ hL => ?_
  refine st 33 (t_move (o_t 32 rfl) rfl rfl) rfl rfl hL fun a s e_ hL => ?_
  refine st 34 (t_g1 rfl rfl rfl (fun hc_ => t_move (o_t 3 rfl) rfl rfl)) rfl rfl hL fun a s e_ hL => ?_
  refine st 35 (h20 ▸ (t_and (o_t 33 rfl) (fun hc2_ => (o_w hc2_ 34 rfl)) rfl rfl)) rfl rfl hL fun a s e_ hL => ?_
  refine st 36 (t_move (o_t 35 rfl) rfl rfl) rfl rfl hL fun a s e_ hL => ?_
  refine st 37 (t_g1 rfl rfl rfl (fun hc_ => t_move (o_t 5 rfl) rfl rfl)) rfl rfl hL fun a s e_ hL => ?_
  refine st 38 (t_g1 rfl rfl rfl (fun hc_ => t_not (o_w hc_ 37 rfl) rfl rfl)) rfl rfl hL fun a s e_ hL => ?_
  refine st 39 (t_and (o_t 36 rfl) (fun hc2_ => (o_w hc2_ 38 rfl)) rfl rfl) rfl rfl hL fun a s e_ hL => ?_
  refine st 40 (t_move (o_t 39 rfl) rfl rfl) rfl rfl hL fun a s e_ hL => ?_
  refine st 41 (t_g1 rfl rfl rfl (fun hc_ => t_loadb ty24 (o_t 1 rfl) rfl rfl)) rfl rfl hL fun a s e_ hL => ?_
  refine st 42 (t_g1 rfl rfl rfl (fun hc_ => t_call (class_Not_ok (h22 hc_)) (xs := [.tmp 41]) (.cons (o_w hc_ 41 rfl) .nil) rfl rfl)) rfl rfl hL fun a s e_ hL => ?_
  refine st 43 (t_g1 rfl rfl rfl (fun hc_ => t_call (class_Count_ok (h24 hc_)) (xs := [.tmp 42]) (.cons (o_w hc_ 42 rfl) .nil) rfl rfl)) rfl rfl hL fun a s e_ hL => ?_
  refine st 44 (t_g1 rfl rfl rfl (fun hc_ => t_eqi (o_w hc_ 43 rfl) (o_i (by decide)) rfl rfl)) rfl rfl hL fun a s e_ hL => ?_
  refine st 45 (t_and (o_t 40 rfl) (fun hc2_ => (o_w hc2_ 44 rfl)) rfl rfl) rfl rfl hL fun a s e_ hL => ?_
  refine st 46 (t_move (o_t 45 rfl) rfl rfl) rfl rfl hL fun a s e_ hL => ?_
  refine st 47 (t_g1 rfl rfl rfl (fun hc_ => t_call (class_Of_ok (h26 hc_)) (xs := [.const (.int .u8 2), .const (.int .u8 1)]) (.cons (o_i (by decide)) (.cons (o_i (by decide)) .nil)) rfl rfl)) rfl rfl hL fun a s e_ hL => ?_
  refine st 48 (t_g1 rfl rfl rfl (fun hc_ => t_bcls (x := (0#256)) Try.underlying24 (by rfl) tyz24 (fun _ => by kernel_rfl) rfl rfl)) rfl rfl hL fun a s e_ hL => ?_
  refine st 49 (t_g1 rfl rfl rfl (fun hc_ => t_eqv eq24 (o_w hc_ 47 rfl) (o_w hc_ 48 rfl) rfl rfl)) rfl rfl hL fun a s e_ hL => ?_
  refine st 50 (h28 ▸ (t_and (o_t 46 rfl) (fun hc2_ => (o_w hc2_ 49 rfl)) rfl rfl)) rfl rfl hL fun a s e_ hL => ?_
  refine st 51 (t_move (o_t 50 rfl) rfl rfl) rfl rfl hL fun a s e_ hL => ?_
  refine st 52 (t_g1 rfl rfl rfl (fun hc_ => t_bcls (x := (0#256)) Try.underlying24 (by rfl) tyz24 (fun _ => by kernel_rfl) rfl rfl)) rfl rfl hL fun a s e_ hL => ?_
  refine st 53 (t_g1 rfl rfl rfl (fun hc_ => t_lit (xs := [.const (.int .u8 0), .const (.int .u8 255)]) (.cons (o_i (by decide)) (.cons (o_i (by decide)) .nil)) Try.underlying40 ty5 rfl rfl (by decide) rfl rfl)) rfl rfl hL fun a s e_ hL => ?_
  refine st 54 (t_g1 rfl rfl rfl (fun hc_ => t_call (class_Add_ok (h30 hc_)) (xs := [.tmp 52, .tmp 53]) (.cons (o_w hc_ 52 rfl) (.cons (o_w hc_ 53 rfl) .nil)) rfl rfl)) rfl rfl hL fun a s e_ hL => ?_
  refine st 55 (t_g1 rfl rfl rfl (fun hc_ => t_bcls (x := (Cl.ofWords 1 0 0 9223372036854775808)) Try.underlying24 (by rfl) tyz24 (fun _ => by kernel_rfl) rfl rfl)) rfl rfl hL fun a s e_ hL => ?_
  refine st 56 (t_g1 rfl rfl rfl (fun hc_ => t_eqv eq24 (o_w hc_ 54 rfl) (o_w hc_ 55 rfl) rfl rfl)) rfl rfl hL fun a s e_ hL => ?_
  refine st 57 (h32 ▸ (t_and (o_t 51 rfl) (fun hc2_ => (o_w hc2_ 56 rfl)) rfl rfl)) rfl rfl hL fun a s e_ hL => ?_
  refine st 58 (t_move (o_t 57 rfl) rfl rfl) rfl rfl hL fun a s e_ hL => ?_
  refine st 59 (t_g1 rfl rfl rfl (fun hc_ => t_call (class_Of_ok (h34 hc_)) (xs := [.const (.int .u8 1), .const (.int .u8 2)]) (.cons (o_i (by decide)) (.cons (o_i (by decide)) .nil)) rfl rfl)) rfl rfl hL fun a s e_ hL => ?_
  refine st 60 (t_g1 rfl rfl rfl (fun hc_ => t_call (class_Of_ok (h36 hc_)) (xs := [.const (.int .u8 4), .const (.int .u8 4)]) (.cons (o_i (by decide)) (.cons (o_i (by decide)) .nil)) rfl rfl)) rfl rfl hL fun a s e_ hL => ?_
  refine st 61 (t_g1 rfl rfl rfl (fun hc_ => t_call (class_Join_ok (h38 hc_)) (xs := [.tmp 59, .tmp 60]) (.cons (o_w hc_ 59 rfl) (.cons (o_w hc_ 60 rfl) .nil)) rfl rfl)) rfl rfl hL fun a s e_ hL => ?_
  refine st 62 (t_g1 rfl rfl rfl (fun hc_ => t_bcls (x := (Cl.ofWords 22 0 0 0)) Try.underlying24 (by rfl) tyz24 (fun _ => by kernel_rfl) rfl rfl)) rfl rfl hL fun a s e_ hL => ?_
  refine st 63 (t_g1 rfl rfl rfl (fun hc_ => t_eqv eq24 (o_w hc_ 61 rfl) (o_w hc_ 62 rfl) rfl rfl)) rfl rfl hL fun a s e_ hL => ?_
  refine st 64 (t_and (o_t 58 rfl) (fun hc2_ => (o_w hc2_ 63 rfl)) rfl rfl) rfl rfl hL fun a s e_ hL => ?_
  refine st 65 (t_move (o_t 64 rfl) rfl rfl) rfl rfl hL fun a s e_ hL => ?_
  refine st 66 (t_g1 rfl rfl rfl (fun hc_ => t_call (class_Of_ok (h40 hc_)) (xs := [.const (.int .u8 1), .const (.int .u8 4)]) (.cons (o_i (by decide)) (.cons (o_i (by decide)) .nil)) rfl rfl)) rfl rfl hL fun a s e_ hL => ?_
  refine st 67 (t_g1 rfl rfl rfl (fun hc_ => t_call (class_Of_ok (h42 hc_)) (xs := [.const (.int .u8 3), .const (.int .u8 9)]) (.cons (o_i (by decide)) (.cons (o_i (by decide)) .nil)) rfl rfl)) rfl rfl hL fun a s e_ hL => ?_
  refine st 68 (t_g1 rfl rfl rfl (fun hc_ => t_call (class_Both_ok (h44 hc_)) (xs := [.tmp 66, .tmp 67]) (.cons (o_w hc_ 66 rfl) (.cons (o_w hc_ 67 rfl) .nil)) rfl rfl)) rfl rfl hL fun a s e_ hL => ?_
  refine st 69 (t_g1 rfl rfl rfl (fun hc_ => t_bcls (x := (Cl.ofWords 24 0 0 0)) Try.underlying24 (by rfl) tyz24 (fun _ => by kernel_rfl) rfl rfl)) rfl rfl hL fun a s e_ hL => ?_
  refine st 70 (t_g1 rfl rfl rfl (fun hc_ => t_eqv eq24 (o_w hc_ 68 rfl) (o_w hc_ 69 rfl) rfl rfl)) rfl rfl hL fun a s e_ hL => ?_
  refine st 71 (h46 ▸ (t_and (o_t 65 rfl) (fun hc2_ => (o_w hc2_ 70 rfl)) rfl rfl)) rfl rfl hL fun a s e_ hL => ?_
  refine st 0 (t_assign (o_t 71 rfl) rfl rfl) rfl rfl hL fun a s e_ hL => ?_
  refine en' ?_
  show K12 a s.w
  refine hK12 _ _ ?_
  subst h
  exact wp_ret (retq rfl hL rfl)

theorem ref01_Has_ok {a_ : Cl} {c_ : Int} {r_ : Bool} (h : ref01_Has a_ c_ r_) : Fn Try.prog 21 [(Pd.rep En.cls a_), (Pd.rep (En.int .u8) c_)] (Rq (Pd.rep En.bool r_)) := by
  unfold ref01_Has at h
  refine fn_of Try.func21 rfl Try.ntmps21 (by rfl) (by simp) fun s0 a hL => ?_
  refine wp_seq_k fun K1 hK1 => ?_
  refine rg ?_
  refine st 2 (t_box (o_t 0 rfl) rfl rfl) rfl rfl hL fun a s e_ hL => ?_
  refine st 4 (t_assign o_b rfl rfl) rfl rfl hL fun a s e_ hL => ?_
  refine en' ?_
  show K1 a s.w
  refine hK1 _ _ ?_
  refine wp_seq_k fun K2 hK2 => ?_
  obtain ⟨h3, h4, h⟩ := h
  refine rg ?_
  refine st 7 (t_move (o_t 1 rfl) rfl rfl) rfl rfl hL fun a s e_ hL => ?_
  refine st 8 (t_up (o_t 7 rfl) (by decide) Try.underlying5 Try.underlying3 rfl rfl) rfl rfl hL fun a s e_ hL => ?_
  refine st 9 (t_quo (o_t 8 rfl) (o_i (by decide)) h3 (by decide) rfl rfl) rfl rfl hL fun a s e_ hL => ?_
  refine st 10 (t_idxc (o_t 2 rfl) (o_t 9 rfl) h4 Try.underlying24 (by rfl) rfl rfl) rfl rfl hL fun a s e_ hL => ?_
  refine st 11 (t_load ty22 (o_t 10 rfl) rfl rfl) rfl rfl hL fun a s e_ hL => ?_
  refine st 5 (t_assign (o_t 11 rfl) rfl rfl) rfl rfl hL fun a s e_ hL => ?_
  refine en' ?_
  show K2 a s.w
  refine hK2 _ _ ?_
  refine wp_seq_k fun K5 hK5 => ?_
  refine wp_seq_k fun K6 hK6 => ?_
  refine rg ?_
  refine st 6 (t_assign (o_i (by decide)) rfl rfl) rfl rfl hL fun a s e_ hL => ?_
  refine en' ?_
  show K6 a s.w
  refine hK6 _ _ ?_
  refine wp_block ?_
  have J8 : ∀ (w7 : Int) (a : Act) (s : St), Has N0 24 s0 a s [(5, (Pd.rep (En.int .u64) w7))] → ((ref01_Has.j1 r_) w7) → K5 a s.w := by
    intro w7 a s hL h
    unfold ref01_Has.j1 at h
    show K5 a s.w
    refine hK5 _ _ ?_
    refine wp_seq_k fun K9 hK9 => ?_
    refine rg ?_
    refine st 21 (t_move (o_t 5 rfl) rfl rfl) rfl rfl hL fun a s e_ hL => ?_
    refine st 22 (t_remu (o_t 21 rfl) (o_i (by decide)) (by decide) (by decide) rfl rfl) rfl rfl hL fun a s e_ hL => ?_
    refine st 23 (t_eqi (o_t 22 rfl) (o_i (by decide)) rfl rfl) rfl rfl hL fun a s e_ hL => ?_
    refine st 4 (t_assign (o_t 23 rfl) rfl rfl) rfl rfl hL fun a s e_ hL => ?_
    refine en' ?_
    show K9 a s.w
    refine hK9 _ _ ?_
    subst h
    exact wp_ret (retq rfl hL rfl)
  obtain ⟨k12, h⟩ := h
  refine lpg (fun k13 a s => ∃ (w10 : Int) (i11 : Int), Has N0 24 s0 a s [(1, (Pd.rep (En.int .u8) c_)), (5, (Pd.rep (En.int .u64) w10)), (6, (Pd.rep (En.int .i64) i11))] ∧ ref01_Has.l1 c_ (ref01_Has.j1 r_) k13 w10 i11) k12 ⟨(Cl.w a_ (c_ / 64)), 0, hL.keep (.cons (t := 1) rfl (fun _ h_ => h_.elim) (.cons (t := 5) rfl (fun _ h_ => h_.elim) (.cons (t := 6) rfl (fun _ h_ => h_.elim) .nil))), h⟩ ?_
  rintro k13 a s ⟨w10, i11, hL, h⟩ KL14 hKL14
  cases k13 with
  | zero => exact h.elim
  | succ k13 =>
  unfold ref01_Has.l1 at h
  refine wp_seq_k fun K15 hK15 => ?_
  refine wp_seq_k fun K16 hK16 => ?_
  obtain ⟨h17, h⟩ := h
  refine rg ?_
  refine st 12 (t_move (o_t 6 rfl) rfl rfl) rfl rfl hL fun a s e_ hL => ?_
  refine st 13 (t_move (o_t 1 rfl) rfl rfl) rfl rfl hL fun a s e_ hL => ?_
  refine st 14 (t_up (o_t 13 rfl) (by decide) Try.underlying5 Try.underlying3 rfl rfl) rfl rfl hL fun a s e_ hL => ?_
  refine st 15 (t_rem (o_t 14 rfl) (o_i (by decide)) h17 (by decide) rfl rfl) rfl rfl hL fun a s e_ hL => ?_
  refine st 16 (t_lss (o_t 12 rfl) (o_t 15 rfl) rfl rfl) rfl rfl hL fun a s e_ hL => ?_
  refine en' ?_
  show K16 a s.w
  refine hK16 _ _ ?_
  refine cnd hL rfl (fun hb_ => ?_) (fun hb_ => ?_)
  · replace h := h.1 hb_
    refine wp_skip ?_
    show K15 a s.w
    refine hK15 _ _ ?_
    refine wp_seq_k fun K18 hK18 => ?_
    refine wp_block ?_
    refine rg ?_
    refine st 19 (t_move (o_t 5 rfl) rfl rfl) rfl rfl hL fun a s e_ hL => ?_
    refine st 20 (t_quou (o_t 19 rfl) (o_i (by decide)) (by decide) (by decide) rfl rfl) rfl rfl hL fun a s e_ hL => ?_
    refine st 5 (t_assign (o_t 20 rfl) rfl rfl) rfl rfl hL fun a s e_ hL => ?_
    refine en' ?_
    show K18 a s.w
    refine hK18 _ _ ?_
    obtain ⟨h19, h⟩ := h
    refine rg ?_
    refine st 17 (t_move (o_t 6 rfl) rfl rfl) rfl rfl hL fun a s e_ hL => ?_
    refine st 18 (t_add (o_t 17 rfl) (o_i (by decide)) h19 rfl rfl) rfl rfl hL fun a s e_ hL => ?_
    refine st 6 (t_assign (o_t 18 rfl) rfl rfl) rfl rfl hL fun a s e_ hL => ?_
    refine en' ?_
    exact hKL14 k13 a s (Nat.lt_succ_self _) ⟨(w10 / 2), (i11 + 1), hL.keep (.cons (t := 1) rfl (fun _ h_ => h_.elim) (.cons (t := 5) rfl (fun _ h_ => h_.elim) (.cons (t := 6) rfl (fun _ h_ => h_.elim) .nil))), h⟩
  · replace h := h.2 hb_
    refine wp_exit ?_
    exact J8 w10 a s (hL.keep (.cons (t := 5) rfl (fun _ h_ => h_.elim) .nil)) h

theorem ref01_Least_ok {a_ : Cl} {r_ : (Int × Bool)} (h : ref01_Least a_ r_) : Fn Try.prog 16 [(Pd.rep En.cls a_)] (Rq2 (Pd.rep (En.int .u8) r_.1) (Pd.rep En.bool r_.2)) := by
  unfold ref01_Least at h
  refine fn_of Try.func16 rfl Try.ntmps16 (by rfl) (by simp) fun s0 a hL => ?_
  refine wp_seq_k fun K1 hK1 => ?_
  refine rg ?_
  refine st 1 (t_box (o_t 0 rfl) rfl rfl) rfl rfl hL fun a s e_ hL => ?_
  refine st 2 (t_assign (o_i (by decide)) rfl rfl) rfl rfl hL fun a s e_ hL => ?_
  refine st 3 (t_assign o_b rfl rfl) rfl rfl hL fun a s e_ hL => ?_
  refine en' ?_
  show K1 a s.w
  refine hK1 _ _ ?_
  refine wp_seq_k fun K2 hK2 => ?_
  refine wp_seq_k fun K3 hK3 => ?_
  refine rg ?_
  refine st 4 (t_assign (o_i (by decide)) rfl rfl) rfl rfl hL fun a s e_ hL => ?_
  refine en' ?_
  show K3 a s.w
  refine hK3 _ _ ?_
  refine wp_block ?_
  have J4 : ∀ (a : Act) (s : St), Has N0 15 s0 a s [] → ((ref01_Least.j1 r_)) → K2 a s.w := by
    intro a s hL h
    unfold ref01_Least.j1 at h
    show K2 a s.w
    refine hK2 _ _ ?_
    refine wp_seq_k fun K5 hK5 => ?_
    refine rg ?_
    refine st 2 (t_assign (o_i (by decide)) rfl rfl) rfl rfl hL fun a s e_ hL => ?_
    refine st 3 (t_assign o_b rfl rfl) rfl rfl hL fun a s e_ hL => ?_
    refine en' ?_
    show K5 a s.w
    refine hK5 _ _ ?_
    subst h
    exact wp_ret (ret2 rfl hL rfl rfl)
  obtain ⟨k7, h⟩ := h
  refine lpg (fun k8 a s => ∃ (i6 : Int), Has N0 15 s0 a s [(1, (Pd.ptr En.cls a_)), (4, (Pd.rep (En.int .i64) i6))] ∧ ref01_Least.l1 a_ r_ (ref01_Least.j1 r_) k8 i6) k7 ⟨0, hL.keep (.cons (t := 1) rfl (fun _ h_ => h_.elim) (.cons (t := 4) rfl (fun _ h_ => h_.elim) .nil)), h⟩ ?_
  rintro k8 a s ⟨i6, hL, h⟩ KL9 hKL9
  cases k8 with
  | zero => exact h.elim
  | succ k8 =>
  unfold ref01_Least.l1 at h
  refine wp_seq_k fun K10 hK10 => ?_
  refine wp_seq_k fun K11 hK11 => ?_
  refine rg ?_
  refine st 5 (t_move (o_t 4 rfl) rfl rfl) rfl rfl hL fun a s e_ hL => ?_
  refine st 6 (t_lss (o_t 5 rfl) (o_i (by decide)) rfl rfl) rfl rfl hL fun a s e_ hL => ?_
  refine en' ?_
  show K11 a s.w
  refine hK11 _ _ ?_
  refine cnd hL rfl (fun hb_ => ?_) (fun hb_ => ?_)
  · replace h := h.1 hb_
    refine wp_skip ?_
    show K10 a s.w
    refine hK10 _ _ ?_
    refine wp_seq_k fun K12 hK12 => ?_
    refine wp_block ?_
    refine wp_seq_k fun K13 hK13 => ?_
    obtain ⟨r14, h15, h⟩ := h
    refine rg ?_
    refine st 9 (t_load ty24 (o_t 1 rfl) rfl rfl) rfl rfl hL fun a s e_ hL => ?_
    refine st 10 (t_move (o_t 4 rfl) rfl rfl) rfl rfl hL fun a s e_ hL => ?_
    refine st 11 (t_u8 (o_t 10 rfl) Try.underlying3 Try.underlying5 rfl rfl) rfl rfl hL fun a s e_ hL => ?_
    refine st 12 (t_call (ref01_Has_ok h15) (xs := [.tmp 9, .tmp 11]) (.cons (o_t 9 rfl) (.cons (o_t 11 rfl) .nil)) rfl rfl) rfl rfl hL fun a s e_ hL => ?_
    refine en' ?_
    show K13 a s.w
    refine hK13 _ _ ?_
    refine cnd hL rfl (fun hb_ => ?_) (fun hb_ => ?_)
    · replace h := h.1 hb_
      refine wp_seq_k fun K16 hK16 => ?_
      refine rg ?_
      refine st 13 (t_move (o_t 4 rfl) rfl rfl) rfl rfl hL fun a s e_ hL => ?_
      refine st 14 (t_u8 (o_t 13 rfl) Try.underlying3 Try.underlying5 rfl rfl) rfl rfl hL fun a s e_ hL => ?_
      refine st 2 (t_assign (o_t 14 rfl) rfl rfl) rfl rfl hL fun a s e_ hL => ?_
      refine st 3 (t_assign o_b rfl rfl) rfl rfl hL fun a s e_ hL => ?_
      refine en' ?_
      show K16 a s.w
      refine hK16 _ _ ?_
      subst h
      exact wp_ret (ret2 rfl hL rfl rfl)
    · replace h := h.2 hb_
      refine wp_skip ?_
      show K12 a s.w
      refine hK12 _ _ ?_
      obtain ⟨h17, h⟩ := h
      refine rg ?_
      refine st 7 (t_move (o_t 4 rfl) rfl rfl) rfl rfl hL fun a s e_ hL => ?_
      refine st 8 (t_add (o_t 7 rfl) (o_i (by decide)) h17 rfl rfl) rfl rfl hL fun a s e_ hL => ?_
      refine st 4 (t_assign (o_t 8 rfl) rfl rfl) rfl rfl hL fun a s e_ hL => ?_
      refine en' ?_
      exact hKL9 k8 a s (Nat.lt_succ_self _) ⟨(i6 + 1), hL.keep (.cons (t := 1) rfl (fun _ h_ => h_.elim) (.cons (t := 4) rfl (fun _ h_ => h_.elim) .nil)), h⟩
  · replace h := h.2 hb_
    refine wp_exit ?_
    exact J4 a s (hL.keep .nil) h

theorem ref01_List_ok {a_ : Cl} {r_ : (List Bool)} (h : ref01_List a_ r_) : Fn Try.prog 17 [(Pd.rep En.cls a_)] (Ro En.bool 4 r_) := by
  unfold ref01_List at h
  refine fn_of Try.func17 rfl Try.ntmps17 (by rfl) (by simp) fun s0 a hL => ?_
  refine wp_seq_k fun K1 hK1 => ?_
  refine rg ?_
  refine st 1 (t_box (o_t 0 rfl) rfl rfl) rfl rfl hL fun a s e_ hL => ?_
  refine st 2 (t_assign (o_nil (E := En.bool) (N := s0.w.heap.size) (te := 4)) rfl rfl) rfl rfl hL fun a s e_ hL => ?_
  refine en' ?_
  show K1 a s.w
  refine hK1 _ _ ?_
  refine wp_seq_k fun K2 hK2 => ?_
  refine rg ?_
  refine st 3 (t_assign (o_nil (E := En.bool) (N := s0.w.heap.size) (te := 4)) rfl rfl) rfl rfl hL fun a s e_ hL => ?_
  refine en' ?_
  show K2 a s.w
  refine hK2 _ _ ?_
  refine wp_seq_k fun K3 hK3 => ?_
  refine wp_seq_k fun K4 hK4 => ?_
  refine rg ?_
  refine st 4 (t_assign (o_i (by decide)) rfl rfl) rfl rfl hL fun a s e_ hL => ?_
  refine en' ?_
  show K4 a s.w
  refine hK4 _ _ ?_
  refine wp_block ?_
  have J7 : ∀ (l5 : (List Bool)) (og6 : Option Nat) (a : Act) (s : St), Has N0 17 s0 a s [(3, (Pd.row En.bool s0.w.heap.size 4 og6 l5))] → ((ref01_List.j1 r_) l5) → K3 a s.w := by
    intro l5 og6 a s hL h
    unfold ref01_List.j1 at h
    show K3 a s.w
    refine hK3 _ _ ?_
    refine wp_seq_k fun K8 hK8 => ?_
    refine rg ?_
    refine st 16 (t_move (o_t 3 rfl) rfl rfl) rfl rfl hL fun a s e_ hL => ?_
    refine st 2 (t_assign (o_t 16 rfl) rfl rfl) rfl rfl hL fun a s e_ hL => ?_
    refine en' ?_
    show K8 a s.w
    refine hK8 _ _ ?_
    subst h
    exact wp_ret (reto rfl hL rfl)
  obtain ⟨k12, h⟩ := h
  refine lpg (fun k13 a s => ∃ (l9 : (List Bool)) (i11 : Int) (og10 : Option Nat), Has N0 17 s0 a s [(1, (Pd.ptr En.cls a_)), (3, (Pd.row En.bool s0.w.heap.size 4 og10 l9)), (4, (Pd.rep (En.int .i64) i11))] ∧ ref01_List.l1 a_ (ref01_List.j1 r_) k13 l9 i11) k12 ⟨[], 0, none, hL.keep (.cons (t := 1) rfl (fun _ h_ => h_.elim) (.cons (t := 3) rfl (fun _ _ h_ => h_) (.cons (t := 4) rfl (fun _ h_ => h_.elim) .nil))), h⟩ ?_
  rintro k13 a s ⟨l9, i11, og10, hL, h⟩ KL14 hKL14
  cases k13 with
  | zero => exact h.elim
  | succ k13 =>
  unfold ref01_List.l1 at h
  refine wp_seq_k fun K15 hK15 => ?_
  refine wp_seq_k fun K16 hK16 => ?_
  refine rg ?_
  refine st 5 (t_move (o_t 4 rfl) rfl rfl) rfl rfl hL fun a s e_ hL => ?_
  refine st 6 (t_lss (o_t 5 rfl) (o_i (by decide)) rfl rfl) rfl rfl hL fun a s e_ hL => ?_
  refine en' ?_
  show K16 a s.w
  refine hK16 _ _ ?_
  refine cnd hL rfl (fun hb_ => ?_) (fun hb_ => ?_)
  · replace h := h.1 hb_
    refine wp_skip ?_
    show K15 a s.w
    refine hK15 _ _ ?_
    refine wp_seq_k fun K17 hK17 => ?_
    refine wp_block ?_
    obtain ⟨r18, h19, h20, h⟩ := h
    refine rg ?_
    refine st 9 (t_move (o_t 3 rfl) rfl rfl) rfl rfl hL fun a s e_ hL => ?_
    refine st 10 (t_load ty24 (o_t 1 rfl) rfl rfl) rfl rfl hL fun a s e_ hL => ?_
    refine st 11 (t_move (o_t 4 rfl) rfl rfl) rfl rfl hL fun a s e_ hL => ?_
    refine st 12 (t_u8 (o_t 11 rfl) Try.underlying3 Try.underlying5 rfl rfl) rfl rfl hL fun a s e_ hL => ?_
    refine st 13 (t_call (ref01_Has_ok h19) (xs := [.tmp 10, .tmp 12]) (.cons (o_t 10 rfl) (.cons (o_t 12 rfl) .nil)) rfl rfl) rfl rfl hL fun a s e_ hL => ?_
    refine st 14 (t_lit (xs := [.tmp 13]) (.cons (o_t 13 rfl) .nil) Try.underlying28 ty4 rfl rfl (by decide) rfl rfl) rfl rfl hL fun a s e_ hL => ?_
    refine st_app (L' := [(1, (Pd.ptr En.cls a_)), (4, (Pd.rep (En.int .i64) i11))]) 15 hL (o_t 9 rfl) (o_t 14 rfl) Try.underlying28 ty4 h20 rfl rfl rfl rfl (.cons (t := 1) rfl (fun _ h_ => h_.elim) (.cons (t := 4) rfl (fun _ h_ => h_.elim) .nil)) fun a s og21 hg_ hL => ?_
    refine st 3 (t_assign (o_t 15 rfl) rfl rfl) rfl rfl hL fun a s e_ hL => ?_
    refine en' ?_
    show K17 a s.w
    refine hK17 _ _ ?_
    obtain ⟨h22, h⟩ := h
    refine rg ?_
    refine st 7 (t_move (o_t 4 rfl) rfl rfl) rfl rfl hL fun a s e_ hL => ?_
    refine st 8 (t_add (o_t 7 rfl) (o_i (by decide)) h22 rfl rfl) rfl rfl hL fun a s e_ hL => ?_
    refine st 4 (t_assign (o_t 8 rfl) rfl rfl) rfl rfl hL fun a s e_ hL => ?_
    refine en' ?_
    exact hKL14 k13 a s (Nat.lt_succ_self _) ⟨(l9 ++ [r18]), (i11 + 1), og21, hL.keep (.cons (t := 1) rfl (fun _ h_ => h_.elim) (.cons (t := 3) rfl (fun _ _ h_ => h_) (.cons (t := 4) rfl (fun _ h_ => h_.elim) .nil))), h⟩
  · replace h := h.2 hb_
    refine wp_exit ?_
    exact J7 l9 og10 a s (hL.keep (.cons (t := 3) rfl (fun _ _ h_ => h_) .nil)) h

theorem ref01_Of_ok {l_ : (List Bool)} {r_ : Cl} (h : ref01_Of l_ r_) : Fn Try.prog 39 [(Pd.rep (En.slice En.bool) l_)] (Rq (Pd.rep En.cls r_)) := by
  unfold ref01_Of at h
  refine fn_of Try.func39 rfl Try.ntmps39 (by rfl) (by simp) fun s0 a hL => ?_
  refine wp_seq_k fun K1 hK1 => ?_
  refine rg ?_
  refine st_alloc En.cls (z := (0#256)) 2 hL tyz24 rfl rfl rfl rfl fun a s g2 hg_ hL => ?_
  refine en' ?_
  show K1 a s.w
  refine hK1 _ _ ?_
  refine wp_seq_k fun K3 hK3 => ?_
  refine rg ?_
  have lt_d5 := hL.blt 2 rfl
  refine st_alloc En.cls (z := (0#256)) 3 hL tyz24 rfl rfl rfl rfl fun a s g4 hg_ hL => ?_
  have d5 : Dis (some g4) (some g2) := Dis.newg hg_ lt_d5
  refine en' ?_
  show K3 a s.w
  refine hK3 _ _ ?_
  refine wp_seq_k fun K6 hK6 => ?_
  refine wp_seq_k fun K7 hK7 => ?_
  refine rg ?_
  refine st 4 (t_assign (o_i (by decide)) rfl rfl) rfl rfl hL fun a s e_ hL => ?_
  refine en' ?_
  show K7 a s.w
  refine hK7 _ _ ?_
  refine wp_block ?_
  have J9 : ∀ (a8 : Cl) (a : Act) (s : St), Has N0 32 s0 a s [(2, (Pd.box En.cls s0.w.heap.size g2 (0#256))), (3, (Pd.box En.cls s0.w.heap.size g4 a8))] → Dis (some g2) (some g4) → ((ref01_Of.j1 r_) a8) → K6 a s.w := by
    intro a8 a s hL d10 h
    unfold ref01_Of.j1 at h
    show K6 a s.w
    refine hK6 _ _ ?_
    refine wp_seq_k fun K11 hK11 => ?_
    refine rg ?_
    refine st 31 (t_loadb ty24 (o_t 3 rfl) rfl rfl) rfl rfl hL fun a s e_ hL => ?_
    refine st_stb (L' := []) 2 hL rfl (o_t 31 rfl) ty24 rfl rfl rfl .nil fun s hL => ?_
    refine en' ?_
    show K11 a s.w
    refine hK11 _ _ ?_
    subst h
    exact wp_ret (retb rfl ty24 hL rfl)
  obtain ⟨k14, h⟩ := h
  refine lpg (fun k15 a s => ∃ (a12 : Cl) (w13 : Int), Has N0 32 s0 a s [(0, (Pd.rep (En.slice En.bool) l_)), (2, (Pd.box En.cls s0.w.heap.size g2 (0#256))), (3, (Pd.box En.cls s0.w.heap.size g4 a12)), (4, (Pd.rep (En.int .i64) w13))] ∧ Dis (some g2) (some g4) ∧ ref01_Of.l1 l_ (ref01_Of.j1 r_) k15 a12 w13) k14 ⟨(0#256), 0, hL.keep (.cons (t := 0) rfl (fun _ h_ => h_.elim) (.cons (t := 2) rfl (fun _ _ h_ => h_) (.cons (t := 3) rfl (fun _ _ h_ => h_) (.cons (t := 4) rfl (fun _ h_ => h_.elim) .nil)))), (Dis.symm d5), h⟩ ?_
  rintro k15 a s ⟨a12, w13, hL, d17, h⟩ KL16 hKL16
  cases k15 with
  | zero => exact h.elim
  | succ k15 =>
  unfold ref01_Of.l1 at h
  refine wp_seq_k fun K18 hK18 => ?_
  refine wp_seq_k fun K19 hK19 => ?_
  refine rg ?_
  refine st 7 (t_move (o_t 4 rfl) rfl rfl) rfl rfl hL fun a s e_ hL => ?_
  refine st 8 (t_lss (o_t 7 rfl) (o_i (by decide)) rfl rfl) rfl rfl hL fun a s e_ hL => ?_
  refine en' ?_
  show K19 a s.w
  refine hK19 _ _ ?_
  refine cnd hL rfl (fun hb_ => ?_) (fun hb_ => ?_)
  · replace h := h.1 hb_
    refine wp_skip ?_
    show K18 a s.w
    refine hK18 _ _ ?_
    refine wp_seq_k fun K20 hK20 => ?_
    refine wp_block ?_
    refine wp_seq_k fun K21 hK21 => ?_
    refine rg ?_
    refine st 5 (t_assign (o_i (by decide)) rfl rfl) rfl rfl hL fun a s e_ hL => ?_
    refine en' ?_
    show K21 a s.w
    refine hK21 _ _ ?_
    refine wp_seq_k fun K22 hK22 => ?_
    refine rg ?_
    refine st 6 (t_assign (o_i (by decide)) rfl rfl) rfl rfl hL fun a s e_ hL => ?_
    refine en' ?_
    show K22 a s.w
    refine hK22 _ _ ?_
    refine wp_block ?_
    have J24 : ∀ (a23 : Cl) (a : Act) (s : St), Has N0 32 s0 a s [(0, (Pd.rep (En.slice En.bool) l_)), (2, (Pd.box En.cls s0.w.heap.size g2 (0#256))), (3, (Pd.box En.cls s0.w.heap.size g4 a23)), (4, (Pd.rep (En.int .i64) w13))] → Dis (some g2) (some g4) → ((ref01_Of.j2 (ref01_Of.l1 l_ (ref01_Of.j1 r_) k15) w13) a23) → K20 a s.w := by
      intro a23 a s hL d25 h
      unfold ref01_Of.j2 at h
      show K20 a s.w
      refine hK20 _ _ ?_
      obtain ⟨h26, h⟩ := h
      refine rg ?_
      refine st 9 (t_move (o_t 4 rfl) rfl rfl) rfl rfl hL fun a s e_ hL => ?_
      refine st 10 (t_add (o_t 9 rfl) (o_i (by decide)) h26 rfl rfl) rfl rfl hL fun a s e_ hL => ?_
      refine st 4 (t_assign (o_t 10 rfl) rfl rfl) rfl rfl hL fun a s e_ hL => ?_
      refine en' ?_
      exact hKL16 k15 a s (Nat.lt_succ_self _) ⟨a23, (w13 + 1), hL.keep (.cons (t := 0) rfl (fun _ h_ => h_.elim) (.cons (t := 2) rfl (fun _ _ h_ => h_) (.cons (t := 3) rfl (fun _ _ h_ => h_) (.cons (t := 4) rfl (fun _ h_ => h_.elim) .nil)))), d25, h⟩
    obtain ⟨k30, h⟩ := h
    refine lpg (fun k31 a s => ∃ (a27 : Cl) (bit28 : Int) (i29 : Int), Has N0 32 s0 a s [(0, (Pd.rep (En.slice En.bool) l_)), (2, (Pd.box En.cls s0.w.heap.size g2 (0#256))), (3, (Pd.box En.cls s0.w.heap.size g4 a27)), (4, (Pd.rep (En.int .i64) w13)), (5, (Pd.rep (En.int .u64) bit28)), (6, (Pd.rep (En.int .i64) i29))] ∧ Dis (some g2) (some g4) ∧ ref01_Of.l2 l_ w13 (ref01_Of.j2 (ref01_Of.l1 l_ (ref01_Of.j1 r_) k15) w13) k31 a27 bit28 i29) k30 ⟨a12, 1, 0, hL.keep (.cons (t := 0) rfl (fun _ h_ => h_.elim) (.cons (t := 2) rfl (fun _ _ h_ => h_) (.cons (t := 3) rfl (fun _ _ h_ => h_) (.cons (t := 4) rfl (fun _ h_ => h_.elim) (.cons (t := 5) rfl (fun _ h_ => h_.elim) (.cons (t := 6) rfl (fun _ h_ => h_.elim) .nil)))))), d17, h⟩ ?_
    rintro k31 a s ⟨a27, bit28, i29, hL, d33, h⟩ KL32 hKL32
    cases k31 with
    | zero => exact h.elim
    | succ k31 =>
    unfold ref01_Of.l2 at h
    refine wp_seq_k fun K34 hK34 => ?_
    refine wp_seq_k fun K35 hK35 => ?_
    refine rg ?_
    refine st 11 (t_move (o_t 6 rfl) rfl rfl) rfl rfl hL fun a s e_ hL => ?_
    refine st 12 (t_lss (o_t 11 rfl) (o_i (by decide)) rfl rfl) rfl rfl hL fun a s e_ hL => ?_
    refine en' ?_
    show K35 a s.w
    refine hK35 _ _ ?_
    refine cnd hL rfl (fun hb_ => ?_) (fun hb_ => ?_)
    · replace h := h.1 hb_
      refine wp_skip ?_
      show K34 a s.w
      refine hK34 _ _ ?_
      refine wp_seq_k fun K36 hK36 => ?_
      refine wp_block ?_
      refine wp_seq_k fun K37 hK37 => ?_
      refine wp_seq_k fun K38 hK38 => ?_
      obtain ⟨h39, h40, e41, h42, h⟩ := h
      refine rg ?_
      refine st 15 (t_move (o_t 0 rfl) rfl rfl) rfl rfl hL fun a s e_ hL => ?_
      refine st 16 (t_move (o_t 4 rfl) rfl rfl) rfl rfl hL fun a s e_ hL => ?_
      refine st 17 (t_mul (o_i (by decide)) (o_t 16 rfl) h39 rfl rfl) rfl rfl hL fun a s e_ hL => ?_
      refine st 18 (t_move (o_t 6 rfl) rfl rfl) rfl rfl hL fun a s e_ hL => ?_
      refine st 19 (t_add (o_t 17 rfl) (o_t 18 rfl) h40 rfl rfl) rfl rfl hL fun a s e_ hL => ?_
      refine st 20 (t_idx (o_t 15 rfl) (o_t 19 rfl) h42 Try.underlying28 ty4 rfl rfl) rfl rfl hL fun a s e_ hL => ?_
      refine st 21 (t_load ty4 (o_t 20 rfl) rfl rfl) rfl rfl hL fun a s e_ hL => ?_
      refine en' ?_
      show K38 a s.w
      refine hK38 _ _ ?_
      refine cnd hL rfl (fun hb_ => ?_) (fun hb_ => ?_)
      · replace h := h.1 hb_
        obtain ⟨h43, h44, h⟩ := h
        refine rg ?_
        refine st 22 (t_move (o_t 4 rfl) rfl rfl) rfl rfl hL fun a s e_ hL => ?_
        refine st 23 (t_move (o_t 4 rfl) rfl rfl) rfl rfl hL fun a s e_ hL => ?_
        refine st 24 (t_idxcb (o_t 3 rfl) (o_t 23 rfl) h43 Try.underlying24 (by rfl) rfl rfl) rfl rfl hL fun a s e_ hL => ?_
        refine st 25 (t_loado ty22 (o_t 24 rfl) rfl rfl) rfl rfl hL fun a s e_ hL => ?_
        refine st 26 (t_move (o_t 5 rfl) rfl rfl) rfl rfl hL fun a s e_ hL => ?_
        refine st 27 (t_addw (o_t 25 rfl) (o_t 26 rfl) rfl rfl) rfl rfl hL fun a s e_ hL => ?_
        refine st 28 (t_idxcb (o_t 3 rfl) (o_t 22 rfl) h44 Try.underlying24 (by rfl) rfl rfl) rfl rfl hL fun a s e_ hL => ?_
        refine st_stob (L' := [(0, (Pd.rep (En.slice En.bool) l_)), (2, (Pd.box En.cls s0.w.heap.size g2 (0#256))), (4, (Pd.rep (En.int .i64) w13)), (5, (Pd.rep (En.int .u64) bit28)), (6, (Pd.rep (En.int .i64) i29))]) 3 hL rfl (o_t 28 rfl) (o_t 27 rfl) (sub_cls h44) ty22 rfl rfl rfl (.cons (t := 0) rfl (fun _ h_ => h_.elim) (.cons (t := 2) rfl (Dis.bx d33) (.cons (t := 4) rfl (fun _ h_ => h_.elim) (.cons (t := 5) rfl (fun _ h_ => h_.elim) (.cons (t := 6) rfl (fun _ h_ => h_.elim) .nil))))) fun s hL => ?_
        refine en' ?_
        show K37 a s.w
        refine hK37 _ _ ?_
        refine rg ?_
        refine st 29 (t_move (o_t 5 rfl) rfl rfl) rfl rfl hL fun a s e_ hL => ?_
        refine st 30 (t_mulw (o_t 29 rfl) (o_i (by decide)) rfl rfl) rfl rfl hL fun a s e_ hL => ?_
        refine st 5 (t_assign (o_t 30 rfl) rfl rfl) rfl rfl hL fun a s e_ hL => ?_
        refine en' ?_
        show K36 a s.w
        refine hK36 _ _ ?_
        obtain ⟨h45, h⟩ := h
        refine rg ?_
        refine st 13 (t_move (o_t 6 rfl) rfl rfl) rfl rfl hL fun a s e_ hL => ?_
        refine st 14 (t_add (o_t 13 rfl) (o_i (by decide)) h45 rfl rfl) rfl rfl hL fun a s e_ hL => ?_
        refine st 6 (t_assign (o_t 14 rfl) rfl rfl) rfl rfl hL fun a s e_ hL => ?_
        refine en' ?_
        exact hKL32 k31 a s (Nat.lt_succ_self _) ⟨(Cl.setw a27 w13 (IntKind.wrap .u64 ((Cl.w a27 w13) + bit28))), (IntKind.wrap .u64 (bit28 * 2)), (i29 + 1), hL.keep (.cons (t := 0) rfl (fun _ h_ => h_.elim) (.cons (t := 2) rfl (fun _ _ h_ => h_) (.cons (t := 3) rfl (fun _ _ h_ => h_) (.cons (t := 4) rfl (fun _ h_ => h_.elim) (.cons (t := 5) rfl (fun _ h_ => h_.elim) (.cons (t := 6) rfl (fun _ h_ => h_.elim) .nil)))))), d33, h⟩
      · replace h := h.2 hb_
        refine wp_skip ?_
        show K37 a s.w
        refine hK37 _ _ ?_
        refine rg ?_
        refine st 29 (t_move (o_t 5 rfl) rfl rfl) rfl rfl hL fun a s e_ hL => ?_
        refine st 30 (t_mulw (o_t 29 rfl) (o_i (by decide)) rfl rfl) rfl rfl hL fun a s e_ hL => ?_
        refine st 5 (t_assign (o_t 30 rfl) rfl rfl) rfl rfl hL fun a s e_ hL => ?_
        refine en' ?_
        show K36 a s.w
        refine hK36 _ _ ?_
        obtain ⟨h46, h⟩ := h
        refine rg ?_
        refine st 13 (t_move (o_t 6 rfl) rfl rfl) rfl rfl hL fun a s e_ hL => ?_
        refine st 14 (t_add (o_t 13 rfl) (o_i (by decide)) h46 rfl rfl) rfl rfl hL fun a s e_ hL => ?_
        refine st 6 (t_assign (o_t 14 rfl) rfl rfl) rfl rfl hL fun a s e_ hL => ?_
        refine en' ?_
        exact hKL32 k31 a s (Nat.lt_succ_self _) ⟨a27, (IntKind.wrap .u64 (bit28 * 2)), (i29 + 1), hL.keep (.cons (t := 0) rfl (fun _ h_ => h_.elim) (.cons (t := 2) rfl (fun _ _ h_ => h_) (.cons (t := 3) rfl (fun _ _ h_ => h_) (.cons (t := 4) rfl (fun _ h_ => h_.elim) (.cons (t := 5) rfl (fun _ h_ => h_.elim) (.cons (t := 6) rfl (fun _ h_ => h_.elim) .nil)))))), d33, h⟩
    · replace h := h.2 hb_
      refine wp_exit ?_
      exact J24 a27 a s (hL.keep (.cons (t := 0) rfl (fun _ h_ => h_.elim) (.cons (t := 2) rfl (fun _ _ h_ => h_) (.cons (t := 3) rfl (fun _ _ h_ => h_) (.cons (t := 4) rfl (fun _ h_ => h_.elim) .nil))))) d33 h
  · replace h := h.2 hb_
    refine wp_exit ?_
    exact J9 a12 a s (hL.keep (.cons (t := 2) rfl (fun _ _ h_ => h_) (.cons (t := 3) rfl (fun _ _ h_ => h_) .nil))) d17 h

theorem ref01_Row_ok {from_ : Int} {to_ : Int} {r_ : Cl} (h : ref01_Row from_ to_ r_) : Fn Try.prog 19 [(Pd.rep (En.int .u8) from_), (Pd.rep (En.int .u8) to_)] (Rq (Pd.rep En.cls r_)) := by
  unfold ref01_Row at h
  refine fn_of Try.func19 rfl Try.ntmps19 (by rfl) (by simp) fun s0 a hL => ?_
  refine wp_seq_k fun K1 hK1 => ?_
  refine rg ?_
  refine st_alloc En.cls (z := (0#256)) 4 hL tyz24 rfl rfl rfl rfl fun a s g2 hg_ hL => ?_
  refine en' ?_
  show K1 a s.w
  refine hK1 _ _ ?_
  refine wp_seq_k fun K3 hK3 => ?_
  refine rg ?_
  have lt_d5 := hL.blt 4 rfl
  refine st_make En.bool (z := false) (m := 256) 7 hL (o_i (by decide)) (o_i (by decide)) (by decide) Try.underlying28 ty4 tyz4 rfl rfl rfl rfl fun a s g4 hg_ hL => ?_
  have d5 : Dis (some g4) (some g2) := Dis.newg hg_ lt_d5
  refine st 5 (t_assign (o_t 7 rfl) rfl rfl) rfl rfl hL fun a s e_ hL => ?_
  refine en' ?_
  show K3 a s.w
  refine hK3 _ _ ?_
  refine wp_seq_k fun K6 hK6 => ?_
  refine wp_seq_k fun K7 hK7 => ?_
  refine rg ?_
  refine st 8 (t_move (o_t 0 rfl) rfl rfl) rfl rfl hL fun a s e_ hL => ?_
  refine st 9 (t_up (o_t 8 rfl) (by decide) Try.underlying5 Try.underlying3 rfl rfl) rfl rfl hL fun a s e_ hL => ?_
  refine st 6 (t_assign (o_t 9 rfl) rfl rfl) rfl rfl hL fun a s e_ hL => ?_
  refine en' ?_
  show K7 a s.w
  refine hK7 _ _ ?_
  refine wp_block ?_
  have J10 : ∀ (l8 : (List Bool)) (og9 : Option Nat) (a : Act) (s : St), Has N0 21 s0 a s [(4, (Pd.box En.cls s0.w.heap.size g2 (0#256))), (5, (Pd.row En.bool s0.w.heap.size 4 og9 l8))] → Dis (some g2) og9 → ((ref01_Row.j1 r_) l8) → K6 a s.w := by
    intro l8 og9 a s hL d11 h
    unfold ref01_Row.j1 at h
    show K6 a s.w
    refine hK6 _ _ ?_
    refine wp_seq_k fun K12 hK12 => ?_
    obtain ⟨s14, h13, hL⟩ := hL.freeze (L' := [(4, (Pd.box En.cls s0.w.heap.size g2 (0#256)))]) 5 rfl (.cons (t := 4) rfl (Dis.bx d11) .nil)
    rw [← h13]
    clear h13
    generalize s14 = s at *
    obtain ⟨r15, h16, h⟩ := h
    refine rg ?_
    refine st 19 (t_move (o_t 5 rfl) rfl rfl) rfl rfl hL fun a s e_ hL => ?_
    refine st 20 (t_call (ref01_Of_ok h16) (xs := [.tmp 19]) (.cons (o_t 19 rfl) .nil) rfl rfl) rfl rfl hL fun a s e_ hL => ?_
    refine st_stb (L' := []) 4 hL rfl (o_t 20 rfl) ty24 rfl rfl rfl .nil fun s hL => ?_
    refine en' ?_
    show K12 a s.w
    refine hK12 _ _ ?_
    subst h
    exact wp_ret (retb rfl ty24 hL rfl)
  obtain ⟨k20, h⟩ := h
  refine lpg (fun k21 a s => ∃ (l17 : (List Bool)) (i19 : Int) (og18 : Option Nat), Has N0 21 s0 a s [(1, (Pd.rep (En.int .u8) to_)), (4, (Pd.box En.cls s0.w.heap.size g2 (0#256))), (5, (Pd.row En.bool s0.w.heap.size 4 og18 l17)), (6, (Pd.rep (En.int .i64) i19))] ∧ Dis (some g2) og18 ∧ ref01_Row.l1 to_ (ref01_Row.j1 r_) k21 l17 i19) k20 ⟨(List.replicate 256 false), from_, (some g4), hL.keep (.cons (t := 1) rfl (fun _ h_ => h_.elim) (.cons (t := 4) rfl (fun _ _ h_ => h_) (.cons (t := 5) rfl (fun _ _ h_ => h_) (.cons (t := 6) rfl (fun _ h_ => h_.elim) .nil)))), (Dis.symm d5), h⟩ ?_
  rintro k21 a s ⟨l17, i19, og18, hL, d23, h⟩ KL22 hKL22
  cases k21 with
  | zero => exact h.elim
  | succ k21 =>
  unfold ref01_Row.l1 at h
  refine wp_seq_k fun K24 hK24 => ?_
  refine wp_seq_k fun K25 hK25 => ?_
  refine rg ?_
  refine st 10 (t_move (o_t 6 rfl) rfl rfl) rfl rfl hL fun a s e_ hL => ?_
  refine st 11 (t_move (o_t 1 rfl) rfl rfl) rfl rfl hL fun a s e_ hL => ?_
  refine st 12 (t_up (o_t 11 rfl) (by decide) Try.underlying5 Try.underlying3 rfl rfl) rfl rfl hL fun a s e_ hL => ?_
  refine st 13 (t_leq (o_t 10 rfl) (o_t 12 rfl) rfl rfl) rfl rfl hL fun a s e_ hL => ?_
  refine en' ?_
  show K25 a s.w
  refine hK25 _ _ ?_
  refine cnd hL rfl (fun hb_ => ?_) (fun hb_ => ?_)
  · replace h := h.1 hb_
    refine wp_skip ?_
    show K24 a s.w
    refine hK24 _ _ ?_
    refine wp_seq_k fun K26 hK26 => ?_
    refine wp_block ?_
    obtain ⟨e27, h28, h⟩ := h
    refine rg ?_
    refine st 16 (t_move (o_t 5 rfl) rfl rfl) rfl rfl hL fun a s e_ hL => ?_
    refine st 17 (t_move (o_t 6 rfl) rfl rfl) rfl rfl hL fun a s e_ hL => ?_
    refine st 18 (t_idxo (o_t 16 rfl) (o_t 17 rfl) h28 Try.underlying28 ty4 rfl rfl) rfl rfl hL fun a s e_ hL => ?_
    refine st_stor (L' := [(1, (Pd.rep (En.int .u8) to_)), (4, (Pd.box En.cls s0.w.heap.size g2 (0#256))), (5, (Pd.row En.bool s0.w.heap.size 4 og18 (l17.set (i19 : Int).toNat true))), (6, (Pd.rep (En.int .i64) i19))]) (off := 0) 5 hL rfl h28 (o_t 18 rfl) o_b (sub_all _ _ _) ty4 rfl rfl rfl (.cons (t := 1) rfl (fun _ h_ => h_.elim) (.cons (t := 4) rfl (Dis.bx d23) (.turn (t := 5) rfl (.cons (t := 6) rfl (fun _ h_ => h_.elim) .nil)))) fun s hL => ?_
    refine en' ?_
    show K26 a s.w
    refine hK26 _ _ ?_
    obtain ⟨h29, h⟩ := h
    refine rg ?_
    refine st 14 (t_move (o_t 6 rfl) rfl rfl) rfl rfl hL fun a s e_ hL => ?_
    refine st 15 (t_add (o_t 14 rfl) (o_i (by decide)) h29 rfl rfl) rfl rfl hL fun a s e_ hL => ?_
    refine st 6 (t_assign (o_t 15 rfl) rfl rfl) rfl rfl hL fun a s e_ hL => ?_
    refine en' ?_
    exact hKL22 k21 a s (Nat.lt_succ_self _) ⟨(l17.set (i19 : Int).toNat true), (i19 + 1), og18, hL.keep (.cons (t := 1) rfl (fun _ h_ => h_.elim) (.cons (t := 4) rfl (fun _ _ h_ => h_) (.cons (t := 5) rfl (fun _ _ h_ => h_) (.cons (t := 6) rfl (fun _ h_ => h_.elim) .nil)))), d23, h⟩
  · replace h := h.2 hb_
    refine wp_exit ?_
    exact J10 l17 og18 a s (hL.keep (.cons (t := 4) rfl (fun _ _ h_ => h_) (.cons (t := 5) rfl (fun _ _ h_ => h_) .nil))) d23 h

theorem ref01_Join_ok {a_ : Cl} {b_ : Cl} {r_ : Cl} (h : ref01_Join a_ b_ r_) : Fn Try.prog 23 [(Pd.rep En.cls a_), (Pd.rep En.cls b_)] (Rq (Pd.rep En.cls r_)) := by
  unfold ref01_Join at h
  refine fn_of Try.func23 rfl Try.ntmps23 (by rfl) (by simp) fun s0 a hL => ?_
  refine wp_seq_k fun K1 hK1 => ?_
  refine rg ?_
  refine st 2 (t_box (o_t 0 rfl) rfl rfl) rfl rfl hL fun a s e_ hL => ?_
  refine st 3 (t_box (o_t 1 rfl) rfl rfl) rfl rfl hL fun a s e_ hL => ?_
  refine st_alloc En.cls (z := (0#256)) 4 hL tyz24 rfl rfl rfl rfl fun a s g2 hg_ hL => ?_
  refine en' ?_
  show K1 a s.w
  refine hK1 _ _ ?_
  refine wp_seq_k fun K3 hK3 => ?_
  obtain ⟨r4, h5, h⟩ := h
  refine rg ?_
  refine st 8 (t_load ty24 (o_t 2 rfl) rfl rfl) rfl rfl hL fun a s e_ hL => ?_
  have lt_d7 := hL.blt 4 rfl
  refine st_callo 9 hL (ref01_List_ok h5) (xs := [.tmp 8]) (.cons (o_t 8 rfl) .nil) rfl rfl rfl rfl fun a s og6 hg_ hL => ?_
  have d7 : Dis og6 (some g2) := Dis.new hg_ lt_d7
  refine st 5 (t_assign (o_t 9 rfl) rfl rfl) rfl rfl hL fun a s e_ hL => ?_
  refine en' ?_
  show K3 a s.w
  refine hK3 _ _ ?_
  refine wp_seq_k fun K8 hK8 => ?_
  obtain ⟨r9, h10, h⟩ := h
  refine rg ?_
  refine st 10 (t_load ty24 (o_t 3 rfl) rfl rfl) rfl rfl hL fun a s e_ hL => ?_
  refine st 11 (t_call ((ref01_List_ok h10).frz) (xs := [.tmp 10]) (.cons (o_t 10 rfl) .nil) rfl rfl) rfl rfl hL fun a s e_ hL => ?_
  refine st 6 (t_assign (o_t 11 rfl) rfl rfl) rfl rfl hL fun a s e_ hL => ?_
  refine en' ?_
  show K8 a s.w
  refine hK8 _ _ ?_
  refine wp_seq_k fun K11 hK11 => ?_
  refine wp_seq_k fun K12 hK12 => ?_
  refine rg ?_
  refine st 7 (t_assign (o_i (by decide)) rfl rfl) rfl rfl hL fun a s e_ hL => ?_
  refine en' ?_
  show K12 a s.w
  refine hK12 _ _ ?_
  refine wp_block ?_
  have J15 : ∀ (l13 : (List Bool)) (og14 : Option Nat) (a : Act) (s : St), Has N0 31 s0 a s [(4, (Pd.box En.cls s0.w.heap.size g2 (0#256))), (5, (Pd.row En.bool s0.w.heap.size 4 og14 l13))] → Dis (some g2) og14 → ((ref01_Join.j1 r_) l13) → K11 a s.w := by
    intro l13 og14 a s hL d16 h
    unfold ref01_Join.j1 at h
    show K11 a s.w
    refine hK11 _ _ ?_
    refine wp_seq_k fun K17 hK17 => ?_
    obtain ⟨s19, h18, hL⟩ := hL.freeze (L' := [(4, (Pd.box En.cls s0.w.heap.size g2 (0#256)))]) 5 rfl (.cons (t := 4) rfl (Dis.bx d16) .nil)
    rw [← h18]
    clear h18
    generalize s19 = s at *
    obtain ⟨r20, h21, h⟩ := h
    refine rg ?_
    refine st 29 (t_move (o_t 5 rfl) rfl rfl) rfl rfl hL fun a s e_ hL => ?_
    refine st 30 (t_call (ref01_Of_ok h21) (xs := [.tmp 29]) (.cons (o_t 29 rfl) .nil) rfl rfl) rfl rfl hL fun a s e_ hL => ?_
    refine st_stb (L' := []) 4 hL rfl (o_t 30 rfl) ty24 rfl rfl rfl .nil fun s hL => ?_
    refine en' ?_
    show K17 a s.w
    refine hK17 _ _ ?_
    subst h
    exact wp_ret (retb rfl ty24 hL rfl)
  obtain ⟨k25, h⟩ := h
  refine lpg (fun k26 a s => ∃ (l22 : (List Bool)) (i24 : Int) (og23 : Option Nat), Has N0 31 s0 a s [(4, (Pd.box En.cls s0.w.heap.size g2 (0#256))), (5, (Pd.row En.bool s0.w.heap.size 4 og23 l22)), (6, (Pd.rep (En.slice En.bool) r9)), (7, (Pd.rep (En.int .i64) i24))] ∧ Dis (some g2) og23 ∧ ref01_Join.l1 r9 (ref01_Join.j1 r_) k26 l22 i24) k25 ⟨r4, 0, og6, hL.keep (.cons (t := 4) rfl (fun _ _ h_ => h_) (.cons (t := 5) rfl (fun _ _ h_ => h_) (.cons (t := 6) rfl (fun _ h_ => h_.elim) (.cons (t := 7) rfl (fun _ h_ => h_.elim) .nil)))), (Dis.symm d7), h⟩ ?_
  rintro k26 a s ⟨l22, i24, og23, hL, d28, h⟩ KL27 hKL27
  cases k26 with
  | zero => exact h.elim
  | succ k26 =>
  unfold ref01_Join.l1 at h
  refine wp_seq_k fun K29 hK29 => ?_
  refine wp_seq_k fun K30 hK30 => ?_
  refine rg ?_
  refine st 12 (t_move (o_t 7 rfl) rfl rfl) rfl rfl hL fun a s e_ hL => ?_
  refine st 13 (t_lss (o_t 12 rfl) (o_i (by decide)) rfl rfl) rfl rfl hL fun a s e_ hL => ?_
  refine en' ?_
  show K30 a s.w
  refine hK30 _ _ ?_
  refine cnd hL rfl (fun hb_ => ?_) (fun hb_ => ?_)
  · replace h := h.1 hb_
    refine wp_skip ?_
    show K29 a s.w
    refine hK29 _ _ ?_
    refine wp_seq_k fun K31 hK31 => ?_
    refine wp_block ?_
    obtain ⟨e32, h33, e34, h35, e36, h37, h⟩ := h
    refine rg ?_
    refine st 16 (t_move (o_t 5 rfl) rfl rfl) rfl rfl hL fun a s e_ hL => ?_
    refine st 17 (t_move (o_t 7 rfl) rfl rfl) rfl rfl hL fun a s e_ hL => ?_
    refine st 18 (t_move (o_t 5 rfl) rfl rfl) rfl rfl hL fun a s e_ hL => ?_
    refine st 19 (t_move (o_t 7 rfl) rfl rfl) rfl rfl hL fun a s e_ hL => ?_
    refine st 20 (t_idxo (o_t 18 rfl) (o_t 19 rfl) h33 Try.underlying28 ty4 rfl rfl) rfl rfl hL fun a s e_ hL => ?_
    refine st 21 (t_loado ty4 (o_t 20 rfl) rfl rfl) rfl rfl hL fun a s e_ hL => ?_
    refine st 22 (t_move (o_t 21 rfl) rfl rfl) rfl rfl hL fun a s e_ hL => ?_
    refine st 23 (t_g1 rfl rfl rfl (fun hc_ => t_move (o_t 6 rfl) rfl rfl)) rfl rfl hL fun a s e_ hL => ?_
    refine st 24 (t_g1 rfl rfl rfl (fun hc_ => t_move (o_t 7 rfl) rfl rfl)) rfl rfl hL fun a s e_ hL => ?_
    refine st 25 (t_g1 rfl rfl rfl (fun hc_ => t_idx (o_w hc_ 23 rfl) (o_w hc_ 24 rfl) (h35 hc_) Try.underlying28 ty4 rfl rfl)) rfl rfl hL fun a s e_ hL => ?_
    refine st 26 (t_g1 rfl rfl rfl (fun hc_ => t_load ty4 (o_w hc_ 25 rfl) rfl rfl)) rfl rfl hL fun a s e_ hL => ?_
    refine st 27 (t_or (o_t 22 rfl) (fun hc2_ => (o_w hc2_ 26 rfl)) rfl rfl) rfl rfl hL fun a s e_ hL => ?_
    refine st 28 (t_idxo (o_t 16 rfl) (o_t 17 rfl) h37 Try.underlying28 ty4 rfl rfl) rfl rfl hL fun a s e_ hL => ?_
    refine st_stor (L' := [(4, (Pd.box En.cls s0.w.heap.size g2 (0#256))), (5, (Pd.row En.bool s0.w.heap.size 4 og23 (l22.set (i24 : Int).toNat (e32 || e34)))), (6, (Pd.rep (En.slice En.bool) r9)), (7, (Pd.rep (En.int .i64) i24))]) (off := 0) 5 hL rfl h37 (o_t 28 rfl) (o_t 27 rfl) (sub_all _ _ _) ty4 rfl rfl rfl (.cons (t := 4) rfl (Dis.bx d28) (.turn (t := 5) rfl (.cons (t := 6) rfl (fun _ h_ => h_.elim) (.cons (t := 7) rfl (fun _ h_ => h_.elim) .nil)))) fun s hL => ?_
    refine en' ?_
    show K31 a s.w
    refine hK31 _ _ ?_
    obtain ⟨h38, h⟩ := h
    refine rg ?_
    refine st 14 (t_move (o_t 7 rfl) rfl rfl) rfl rfl hL fun a s e_ hL => ?_
    refine st 15 (t_add (o_t 14 rfl) (o_i (by decide)) h38 rfl rfl) rfl rfl hL fun a s e_ hL => ?_
    refine st 7 (t_assign (o_t 15 rfl) rfl rfl) rfl rfl hL fun a s e_ hL => ?_
    refine en' ?_
    exact hKL27 k26 a s (Nat.lt_succ_self _) ⟨(l22.set (i24 : Int).toNat (e32 || e34)), (i24 + 1), og23, hL.keep (.cons (t := 4) rfl (fun _ _ h_ => h_) (.cons (t := 5) rfl (fun _ _ h_ => h_) (.cons (t := 6) rfl (fun _ h_ => h_.elim) (.cons (t := 7) rfl (fun _ h_ => h_.elim) .nil)))), d28, h⟩
  · replace h := h.2 hb_
    refine wp_exit ?_
    exact J15 l22 og23 a s (hL.keep (.cons (t := 4) rfl (fun _ _ h_ => h_) (.cons (t := 5) rfl (fun _ _ h_ => h_) .nil))) d28 h

theorem ref01_Both_ok {a_ : Cl} {b_ : Cl} {r_ : Cl} (h : ref01_Both a_ b_ r_) : Fn Try.prog 26 [(Pd.rep En.cls a_), (Pd.rep En.cls b_)] (Rq (Pd.rep En.cls r_)) := by
  unfold ref01_Both at h
  refine fn_of Try.func26 rfl Try.ntmps26 (by rfl) (by simp) fun s0 a hL => ?_
  refine wp_seq_k fun K1 hK1 => ?_
  refine rg ?_
  refine st 2 (t_box (o_t 0 rfl) rfl rfl) rfl rfl hL fun a s e_ hL => ?_
  refine st 3 (t_box (o_t 1 rfl) rfl rfl) rfl rfl hL fun a s e_ hL => ?_
  refine st_alloc En.cls (z := (0#256)) 4 hL tyz24 rfl rfl rfl rfl fun a s g2 hg_ hL => ?_
  refine en' ?_
  show K1 a s.w
  refine hK1 _ _ ?_
  refine wp_seq_k fun K3 hK3 => ?_
  obtain ⟨r4, h5, h⟩ := h
  refine rg ?_
  refine st 8 (t_load ty24 (o_t 2 rfl) rfl rfl) rfl rfl hL fun a s e_ hL => ?_
  have lt_d7 := hL.blt 4 rfl
  refine st_callo 9 hL (ref01_List_ok h5) (xs := [.tmp 8]) (.cons (o_t 8 rfl) .nil) rfl rfl rfl rfl fun a s og6 hg_ hL => ?_
  have d7 : Dis og6 (some g2) := Dis.new hg_ lt_d7
  refine st 5 (t_assign (o_t 9 rfl) rfl rfl) rfl rfl hL fun a s e_ hL => ?_
  refine en' ?_
  show K3 a s.w
  refine hK3 _ _ ?_
  refine wp_seq_k fun K8 hK8 => ?_
  obtain ⟨r9, h10, h⟩ := h
  refine rg ?_
  refine st 10 (t_load ty24 (o_t 3 rfl) rfl rfl) rfl rfl hL fun a s e_ hL => ?_
  refine st 11 (t_call ((ref01_List_ok h10).frz) (xs := [.tmp 10]) (.cons (o_t 10 rfl) .nil) rfl rfl) rfl rfl hL fun a s e_ hL => ?_
  refine st 6 (t_assign (o_t 11 rfl) rfl rfl) rfl rfl hL fun a s e_ hL => ?_
  refine en' ?_
  show K8 a s.w
  refine hK8 _ _ ?_
  refine wp_seq_k fun K11 hK11 => ?_
  refine wp_seq_k fun K12 hK12 => ?_
  refine rg ?_
  refine st 7 (t_assign (o_i (by decide)) rfl rfl) rfl rfl hL fun a s e_ hL => ?_
  refine en' ?_
  show K12 a s.w
  refine hK12 _ _ ?_
  refine wp_block ?_
  have J15 : ∀ (l13 : (List Bool)) (og14 : Option Nat) (a : Act) (s : St), Has N0 31 s0 a s [(4, (Pd.box En.cls s0.w.heap.size g2 (0#256))), (5, (Pd.row En.bool s0.w.heap.size 4 og14 l13))] → Dis (some g2) og14 → ((ref01_Both.j1 r_) l13) → K11 a s.w := by
    intro l13 og14 a s hL d16 h
    unfold ref01_Both.j1 at h
    show K11 a s.w
    refine hK11 _ _ ?_
    refine wp_seq_k fun K17 hK17 => ?_
    obtain ⟨s19, h18, hL⟩ := hL.freeze (L' := [(4, (Pd.box En.cls s0.w.heap.size g2 (0#256)))]) 5 rfl (.cons (t := 4) rfl (Dis.bx d16) .nil)
    rw [← h18]
    clear h18
    generalize s19 = s at *
    obtain ⟨r20, h21, h⟩ := h
    refine rg ?_
    refine st 29 (t_move (o_t 5 rfl) rfl rfl) rfl rfl hL fun a s e_ hL => ?_
    refine st 30 (t_call (ref01_Of_ok h21) (xs := [.tmp 29]) (.cons (o_t 29 rfl) .nil) rfl rfl) rfl rfl hL fun a s e_ hL => ?_
    refine st_stb (L' := []) 4 hL rfl (o_t 30 rfl) ty24 rfl rfl rfl .nil fun s hL => ?_
    refine en' ?_
    show K17 a s.w
    refine hK17 _ _ ?_
    subst h
    exact wp_ret (retb rfl ty24 hL rfl)
  obtain ⟨k25, h⟩ := h
  refine lpg (fun k26 a s => ∃ (l22 : (List Bool)) (i24 : Int) (og23 : Option Nat), Has N0 31 s0 a s [(4, (Pd.box En.cls s0.w.heap.size g2 (0#256))), (5, (Pd.row En.bool s0.w.heap.size 4 og23 l22)), (6, (Pd.rep (En.slice En.bool) r9)), (7, (Pd.rep (En.int .i64) i24))] ∧ Dis (some g2) og23 ∧ ref01_Both.l1 r9 (ref01_Both.j1 r_) k26 l22 i24) k25 ⟨r4, 0, og6, hL.keep (.cons (t := 4) rfl (fun _ _ h_ => h_) (.cons (t := 5) rfl (fun _ _ h_ => h_) (.cons (t := 6) rfl (fun _ h_ => h_.elim) (.cons (t := 7) rfl (fun _ h_ => h_.elim) .nil)))), (Dis.symm d7), h⟩ ?_
  rintro k26 a s ⟨l22, i24, og23, hL, d28, h⟩ KL27 hKL27
  cases k26 with
  | zero => exact h.elim
  | succ k26 =>
  unfold ref01_Both.l1 at h
  refine wp_seq_k fun K29 hK29 => ?_
  refine wp_seq_k fun K30 hK30 => ?_
  refine rg ?_
  refine st 12 (t_move (o_t 7 rfl) rfl rfl) rfl rfl hL fun a s e_ hL => ?_
  refine st 13 (t_lss (o_t 12 rfl) (o_i (by decide)) rfl rfl) rfl rfl hL fun a s e_ hL => ?_
  refine en' ?_
  show K30 a s.w
  refine hK30 _ _ ?_
  refine cnd hL rfl (fun hb_ => ?_) (fun hb_ => ?_)
  · replace h := h.1 hb_
    refine wp_skip ?_
    show K29 a s.w
    refine hK29 _ _ ?_
    refine wp_seq_k fun K31 hK31 => ?_
    refine wp_block ?_
    obtain ⟨e32, h33, e34, h35, e36, h37, h⟩ := h
    refine rg ?_
    refine st 16 (t_move (o_t 5 rfl) rfl rfl) rfl rfl hL fun a s e_ hL => ?_
    refine st 17 (t_move (o_t 7 rfl) rfl rfl) rfl rfl hL fun a s e_ hL => ?_
    refine st 18 (t_move (o_t 5 rfl) rfl rfl) rfl rfl hL fun a s e_ hL => ?_
    refine st 19 (t_move (o_t 7 rfl) rfl rfl) rfl rfl hL fun a s e_ hL => ?_
    refine st 20 (t_idxo (o_t 18 rfl) (o_t 19 rfl) h33 Try.underlying28 ty4 rfl rfl) rfl rfl hL fun a s e_ hL => ?_
    refine st 21 (t_loado ty4 (o_t 20 rfl) rfl rfl) rfl rfl hL fun a s e_ hL => ?_
    refine st 22 (t_move (o_t 21 rfl) rfl rfl) rfl rfl hL fun a s e_ hL => ?_
    refine st 23 (t_g1 rfl rfl rfl (fun hc_ => t_move (o_t 6 rfl) rfl rfl)) rfl rfl hL fun a s e_ hL => ?_
    refine st 24 (t_g1 rfl rfl rfl (fun hc_ => t_move (o_t 7 rfl) rfl rfl)) rfl rfl hL fun a s e_ hL => ?_
    refine st 25 (t_g1 rfl rfl rfl (fun hc_ => t_idx (o_w hc_ 23 rfl) (o_w hc_ 24 rfl) (h35 hc_) Try.underlying28 ty4 rfl rfl)) rfl rfl hL fun a s e_ hL => ?_
    refine st 26 (t_g1 rfl rfl rfl (fun hc_ => t_load ty4 (o_w hc_ 25 rfl) rfl rfl)) rfl rfl hL fun a s e_ hL => ?_
    refine st 27 (t_and (o_t 22 rfl) (fun hc2_ => (o_w hc2_ 26 rfl)) rfl rfl) rfl rfl hL fun a s e_ hL => ?_
    refine st 28 (t_idxo (o_t 16 rfl) (o_t 17 rfl) h37 Try.underlying28 ty4 rfl rfl) rfl rfl hL fun a s e_ hL => ?_
    refine st_stor (L' := [(4, (Pd.box En.cls s0.w.heap.size g2 (0#256))), (5, (Pd.row En.bool s0.w.heap.size 4 og23 (l22.set (i24 : Int).toNat (e32 && e34)))), (6, (Pd.rep (En.slice En.bool) r9)), (7, (Pd.rep (En.int .i64) i24))]) (off := 0) 5 hL rfl h37 (o_t 28 rfl) (o_t 27 rfl) (sub_all _ _ _) ty4 rfl rfl rfl (.cons (t := 4) rfl (Dis.bx d28) (.turn (t := 5) rfl (.cons (t := 6) rfl (fun _ h_ => h_.elim) (.cons (t := 7) rfl (fun _ h_ => h_.elim) .nil)))) fun s hL => ?_
    refine en' ?_
    show K31 a s.w
    refine hK31 _ _ ?_
    obtain ⟨h38, h⟩ := h
    refine rg ?_
    refine st 14 (t_move (o_t 7 rfl) rfl rfl) rfl rfl hL fun a s e_ hL => ?_
    refine st 15 (t_add (o_t 14 rfl) (o_i (by decide)) h38 rfl rfl) rfl rfl hL fun a s e_ hL => ?_
    refine st 7 (t_assign (o_t 15 rfl) rfl rfl) rfl rfl hL fun a s e_ hL => ?_
    refine en' ?_
    exact hKL27 k26 a s (Nat.lt_succ_self _) ⟨(l22.set (i24 : Int).toNat (e32 && e34)), (i24 + 1), og23, hL.keep (.cons (t := 4) rfl (fun _ _ h_ => h_) (.cons (t := 5) rfl (fun _ _ h_ => h_) (.cons (t := 6) rfl (fun _ h_ => h_.elim) (.cons (t := 7) rfl (fun _ h_ => h_.elim) .nil)))), d28, h⟩
  · replace h := h.2 hb_
    refine wp_exit ?_
    exact J15 l22 og23 a s (hL.keep (.cons (t := 4) rfl (fun _ _ h_ => h_) (.cons (t := 5) rfl (fun _ _ h_ => h_) .nil))) d28 h

theorem ref01_Not_ok {a_ : Cl} {r_ : Cl} (h : ref01_Not a_ r_) : Fn Try.prog 28 [(Pd.rep En.cls a_)] (Rq (Pd.rep En.cls r_)) := by
  unfold ref01_Not at h
  refine fn_of Try.func28 rfl Try.ntmps28 (by rfl) (by simp) fun s0 a hL => ?_
  refine wp_seq_k fun K1 hK1 => ?_
  refine rg ?_
  refine st 1 (t_box (o_t 0 rfl) rfl rfl) rfl rfl hL fun a s e_ hL => ?_
  refine st_alloc En.cls (z := (0#256)) 2 hL tyz24 rfl rfl rfl rfl fun a s g2 hg_ hL => ?_
  refine en' ?_
  show K1 a s.w
  refine hK1 _ _ ?_
  refine wp_seq_k fun K3 hK3 => ?_
  obtain ⟨r4, h5, h⟩ := h
  refine rg ?_
  refine st 5 (t_load ty24 (o_t 1 rfl) rfl rfl) rfl rfl hL fun a s e_ hL => ?_
  have lt_d7 := hL.blt 2 rfl
  refine st_callo 6 hL (ref01_List_ok h5) (xs := [.tmp 5]) (.cons (o_t 5 rfl) .nil) rfl rfl rfl rfl fun a s og6 hg_ hL => ?_
  have d7 : Dis og6 (some g2) := Dis.new hg_ lt_d7
  refine st 3 (t_assign (o_t 6 rfl) rfl rfl) rfl rfl hL fun a s e_ hL => ?_
  refine en' ?_
  show K3 a s.w
  refine hK3 _ _ ?_
  refine wp_seq_k fun K8 hK8 => ?_
  refine wp_seq_k fun K9 hK9 => ?_
  refine rg ?_
  refine st 4 (t_assign (o_i (by decide)) rfl rfl) rfl rfl hL fun a s e_ hL => ?_
  refine en' ?_
  show K9 a s.w
  refine hK9 _ _ ?_
  refine wp_block ?_
  have J12 : ∀ (l10 : (List Bool)) (og11 : Option Nat) (a : Act) (s : St), Has N0 21 s0 a s [(2, (Pd.box En.cls s0.w.heap.size g2 (0#256))), (3, (Pd.row En.bool s0.w.heap.size 4 og11 l10))] → Dis (some g2) og11 → ((ref01_Not.j1 r_) l10) → K8 a s.w := by
    intro l10 og11 a s hL d13 h
    unfold ref01_Not.j1 at h
    show K8 a s.w
    refine hK8 _ _ ?_
    refine wp_seq_k fun K14 hK14 => ?_
    obtain ⟨s16, h15, hL⟩ := hL.freeze (L' := [(2, (Pd.box En.cls s0.w.heap.size g2 (0#256)))]) 3 rfl (.cons (t := 2) rfl (Dis.bx d13) .nil)
    rw [← h15]
    clear h15
    generalize s16 = s at *
    obtain ⟨r17, h18, h⟩ := h
    refine rg ?_
    refine st 19 (t_move (o_t 3 rfl) rfl rfl) rfl rfl hL fun a s e_ hL => ?_
    refine st 20 (t_call (ref01_Of_ok h18) (xs := [.tmp 19]) (.cons (o_t 19 rfl) .nil) rfl rfl) rfl rfl hL fun a s e_ hL => ?_
    refine st_stb (L' := []) 2 hL rfl (o_t 20 rfl) ty24 rfl rfl rfl .nil fun s hL => ?_
    refine en' ?_
    show K14 a s.w
    refine hK14 _ _ ?_
    subst h
    exact wp_ret (retb rfl ty24 hL rfl)
  obtain ⟨k22, h⟩ := h
  refine lpg (fun k23 a s => ∃ (l19 : (List Bool)) (i21 : Int) (og20 : Option Nat), Has N0 21 s0 a s [(2, (Pd.box En.cls s0.w.heap.size g2 (0#256))), (3, (Pd.row En.bool s0.w.heap.size 4 og20 l19)), (4, (Pd.rep (En.int .i64) i21))] ∧ Dis (some g2) og20 ∧ ref01_Not.l1 (ref01_Not.j1 r_) k23 l19 i21) k22 ⟨r4, 0, og6, hL.keep (.cons (t := 2) rfl (fun _ _ h_ => h_) (.cons (t := 3) rfl (fun _ _ h_ => h_) (.cons (t := 4) rfl (fun _ h_ => h_.elim) .nil))), (Dis.symm d7), h⟩ ?_
  rintro k23 a s ⟨l19, i21, og20, hL, d25, h⟩ KL24 hKL24
  cases k23 with
  | zero => exact h.elim
  | succ k23 =>
  unfold ref01_Not.l1 at h
  refine wp_seq_k fun K26 hK26 => ?_
  refine wp_seq_k fun K27 hK27 => ?_
  refine rg ?_
  refine st 7 (t_move (o_t 4 rfl) rfl rfl) rfl rfl hL fun a s e_ hL => ?_
  refine st 8 (t_lss (o_t 7 rfl) (o_i (by decide)) rfl rfl) rfl rfl hL fun a s e_ hL => ?_
  refine en' ?_
  show K27 a s.w
  refine hK27 _ _ ?_
  refine cnd hL rfl (fun hb_ => ?_) (fun hb_ => ?_)
  · replace h := h.1 hb_
    refine wp_skip ?_
    show K26 a s.w
    refine hK26 _ _ ?_
    refine wp_seq_k fun K28 hK28 => ?_
    refine wp_block ?_
    obtain ⟨e29, h30, e31, h32, h⟩ := h
    refine rg ?_
    refine st 11 (t_move (o_t 3 rfl) rfl rfl) rfl rfl hL fun a s e_ hL => ?_
    refine st 12 (t_move (o_t 4 rfl) rfl rfl) rfl rfl hL fun a s e_ hL => ?_
    refine st 13 (t_move (o_t 3 rfl) rfl rfl) rfl rfl hL fun a s e_ hL => ?_
    refine st 14 (t_move (o_t 4 rfl) rfl rfl) rfl rfl hL fun a s e_ hL => ?_
    refine st 15 (t_idxo (o_t 13 rfl) (o_t 14 rfl) h30 Try.underlying28 ty4 rfl rfl) rfl rfl hL fun a s e_ hL => ?_
    refine st 16 (t_loado ty4 (o_t 15 rfl) rfl rfl) rfl rfl hL fun a s e_ hL => ?_
    refine st 17 (t_not (o_t 16 rfl) rfl rfl) rfl rfl hL fun a s e_ hL => ?_
    refine st 18 (t_idxo (o_t 11 rfl) (o_t 12 rfl) h32 Try.underlying28 ty4 rfl rfl) rfl rfl hL fun a s e_ hL => ?_
    refine st_stor (L' := [(2, (Pd.box En.cls s0.w.heap.size g2 (0#256))), (3, (Pd.row En.bool s0.w.heap.size 4 og20 (l19.set (i21 : Int).toNat (!e29)))), (4, (Pd.rep (En.int .i64) i21))]) (off := 0) 3 hL rfl h32 (o_t 18 rfl) (o_t 17 rfl) (sub_all _ _ _) ty4 rfl rfl rfl (.cons (t := 2) rfl (Dis.bx d25) (.turn (t := 3) rfl (.cons (t := 4) rfl (fun _ h_ => h_.elim) .nil))) fun s hL => ?_
    refine en' ?_
    show K28 a s.w
    refine hK28 _ _ ?_
    obtain ⟨h33, h⟩ := h
    refine rg ?_
    refine st 9 (t_move (o_t 4 rfl) rfl rfl) rfl rfl hL fun a s e_ hL => ?_
    refine st 10 (t_add (o_t 9 rfl) (o_i (by decide)) h33 rfl rfl) rfl rfl hL fun a s e_ hL => ?_
    refine st 4 (t_assign (o_t 10 rfl) rfl rfl) rfl rfl hL fun a s e_ hL => ?_
    refine en' ?_
    exact hKL24 k23 a s (Nat.lt_succ_self _) ⟨(l19.set (i21 : Int).toNat (!e29)), (i21 + 1), og20, hL.keep (.cons (t := 2) rfl (fun _ _ h_ => h_) (.cons (t := 3) rfl (fun _ _ h_ => h_) (.cons (t := 4) rfl (fun _ h_ => h_.elim) .nil))), d25, h⟩
  · replace h := h.2 hb_
    refine wp_exit ?_
    exact J12 l19 og20 a s (hL.keep (.cons (t := 2) rfl (fun _ _ h_ => h_) (.cons (t := 3) rfl (fun _ _ h_ => h_) .nil))) d25 h

theorem law01_ClassDoes_ok {a_ : Cl} {b_ : Cl} {from_ : Int} {to_ : Int} {r_ : Bool} (h : law01_ClassDoes a_ b_ from_ to_ r_) : Fn Try.prog 3 [(Pd.rep En.cls a_), (Pd.rep En.cls b_), (Pd.rep (En.int .u8) from_), (Pd.rep (En.int .u8) to_)] (Rq (Pd.rep En.bool r_)) := by
  unfold law01_ClassDoes at h
  refine fn_of Try.func3 rfl Try.ntmps3 (by rfl) (by simp) fun s0 a hL => ?_
  refine wp_seq_k fun K1 hK1 => ?_
  refine rg ?_
  refine st 4 (t_box (o_t 0 rfl) rfl rfl) rfl rfl hL fun a s e_ hL => ?_
  refine st 5 (t_box (o_t 1 rfl) rfl rfl) rfl rfl hL fun a s e_ hL => ?_
  refine st 8 (t_assign o_b rfl rfl) rfl rfl hL fun a s e_ hL => ?_
  refine en' ?_
  show K1 a s.w
  refine hK1 _ _ ?_
  refine wp_seq_k fun K2 hK2 => ?_
  refine wp_seq_k fun K3 hK3 => ?_
  obtain ⟨r4, h5, h⟩ := h
  refine rg ?_
  refine st 16 (t_call (law01_awake_ok h5) (xs := []) .nil rfl rfl) rfl rfl hL fun a s e_ hL => ?_
  refine st 17 (t_not (o_t 16 rfl) rfl rfl) rfl rfl hL fun a s e_ hL => ?_
  refine en' ?_
  show K3 a s.w
  refine hK3 _ _ ?_
  refine cnd hL rfl (fun hb_ => ?_) (fun hb_ => ?_)
  · replace h := h.1 hb_
    refine wp_seq_k fun K6 hK6 => ?_
    refine rg ?_
    refine st 8 (t_assign o_b rfl rfl) rfl rfl hL fun a s e_ hL => ?_
    refine en' ?_
    show K6 a s.w
    refine hK6 _ _ ?_
    subst h
    exact wp_ret (retq rfl hL rfl)
  · replace h := h.2 hb_
    refine wp_skip ?_
    show K2 a s.w
    refine hK2 _ _ ?_
    refine wp_seq_k fun K7 hK7 => ?_
    obtain ⟨r8, h9, h⟩ := h
    refine rg ?_
    refine st 19 (t_load ty24 (o_t 4 rfl) rfl rfl) rfl rfl hL fun a s e_ hL => ?_
    refine st 20 (t_call ((class_Least_ok h9).tup) (xs := [.tmp 19]) (.cons (o_t 19 rfl) .nil) rfl rfl) rfl rfl hL fun a s e_ hL => ?_
    refine st 18 (t_move (o_t 20 rfl) rfl rfl) rfl rfl hL fun a s e_ hL => ?_
    refine st 21 (t_ext0 (o_t 18 rfl) rfl rfl) rfl rfl hL fun a s e_ hL => ?_
    refine st 22 (t_ext1 (o_t 18 rfl) rfl rfl) rfl rfl hL fun a s e_ hL => ?_
    refine st 9 (t_assign (o_t 21 rfl) rfl rfl) rfl rfl hL fun a s e_ hL => ?_
    refine st 10 (t_assign (o_t 22 rfl) rfl rfl) rfl rfl hL fun a s e_ hL => ?_
    refine en' ?_
    show K7 a s.w
    refine hK7 _ _ ?_
    refine wp_seq_k fun K10 hK10 => ?_
    obtain ⟨r11, h12, h⟩ := h
    refine rg ?_
    refine st 24 (t_load ty24 (o_t 4 rfl) rfl rfl) rfl rfl hL fun a s e_ hL => ?_
    refine st 25 (t_call ((ref01_Least_ok h12).tup) (xs := [.tmp 24]) (.cons (o_t 24 rfl) .nil) rfl rfl) rfl rfl hL fun a s e_ hL => ?_
    refine st 23 (t_move (o_t 25 rfl) rfl rfl) rfl rfl hL fun a s e_ hL => ?_
    refine st 26 (t_ext0 (o_t 23 rfl) rfl rfl) rfl rfl hL fun a s e_ hL => ?_
    refine st 27 (t_ext1 (o_t 23 rfl) rfl rfl) rfl rfl hL fun a s e_ hL => ?_
    refine st 11 (t_assign (o_t 26 rfl) rfl rfl) rfl rfl hL fun a s e_ hL => ?_
    refine st 12 (t_assign (o_t 27 rfl) rfl rfl) rfl rfl hL fun a s e_ hL => ?_
    refine en' ?_
    show K10 a s.w
    refine hK10 _ _ ?_
    refine wp_seq_k fun K13 hK13 => ?_
    refine rg ?_
    refine st 13 (t_assign (o_i (by decide)) rfl rfl) rfl rfl hL fun a s e_ hL => ?_
    refine en' ?_
    show K13 a s.w
    refine hK13 _ _ ?_
    refine wp_seq_k fun K14 hK14 => ?_
    obtain ⟨r15, h16, h⟩ := h
    refine rg ?_
    refine st 28 (t_load ty24 (o_t 4 rfl) rfl rfl) rfl rfl hL fun a s e_ hL => ?_
    refine st 29 (t_call ((ref01_List_ok h16).frz) (xs := [.tmp 28]) (.cons (o_t 28 rfl) .nil) rfl rfl) rfl rfl hL fun a s e_ hL => ?_
    refine st 14 (t_assign (o_t 29 rfl) rfl rfl) rfl rfl hL fun a s e_ hL => ?_
    refine en' ?_
    show K14 a s.w
    refine hK14 _ _ ?_
    refine wp_seq_k fun K17 hK17 => ?_
    refine wp_seq_k fun K18 hK18 => ?_
    refine rg ?_
    refine st 15 (t_assign (o_i (by decide)) rfl rfl) rfl rfl hL fun a s e_ hL => ?_
    refine en' ?_
    show K18 a s.w
    refine hK18 _ _ ?_
    refine wp_block ?_
    have J20 : ∀ (n19 : Int) (a : Act) (s : St), Has N0 114 s0 a s [(2, (Pd.rep (En.int .u8) from_)), (3, (Pd.rep (En.int .u8) to_)), (4, (Pd.ptr En.cls a_)), (5, (Pd.ptr En.cls b_)), (9, (Pd.rep (En.int .u8) r8.1)), (10, (Pd.rep En.bool r8.2)), (11, (Pd.rep (En.int .u8) r11.1)), (12, (Pd.rep En.bool r11.2)), (13, (Pd.rep (En.int .i64) n19))] → ((law01_ClassDoes.j1 a_ b_ from_ to_ r_ r8 r11) n19) → K17 a s.w := by
      intro n19 a s hL h
      unfold law01_ClassDoes.j1 at h
      show K17 a s.w
      refine hK17 _ _ ?_
      refine wp_seq_k fun K21 hK21 => ?_
      obtain ⟨r22, h23, r24, h25, r26, h27, r28, h29, r30, h31, r32, h33, r34, h35, r36, h37, r38, h39, r40, h41, r42, h43, b44, h45, r46, h47, r48, h49, r50, h51, r52, h53, b54, h55, r56, h57, h⟩ := h
      refine rda follows 74 [(Pd.rep (En.int .u8) from_), (Pd.rep (En.int .u8) to_), (Pd.rep En.cls r22), (Pd.rep (En.int .u8) from_), (Pd.rep (En.int .u8) to_), (Pd.rep En.cls r24), (Pd.rep En.bool (r22 == r24)), (Pd.rep En.bool (r22 == r24)), (Pd.when (((r22 == r24)) = true) (Pd.rep En.cls a_)), (Pd.when (((r22 == r24)) = true) (Pd.rep (En.int .u8) from_)), (Pd.when (((r22 == r24)) = true) (Pd.rep En.bool r26)), (Pd.when (((r22 == r24)) = true) (Pd.rep En.cls a_)), (Pd.when (((r22 == r24)) = true) (Pd.rep (En.int .u8) from_)), (Pd.when (((r22 == r24)) = true) (Pd.rep En.bool r28)), (Pd.when (((r22 == r24)) = true) (Pd.rep En.bool (r26 == r28))), (Pd.rep En.bool ((r22 == r24) && (r26 == r28))), (Pd.rep En.bool ((r22 == r24) && (r26 == r28))), (Pd.when ((((r22 == r24) && (r26 == r28))) = true) (Pd.rep En.cls a_)), (Pd.when ((((r22 == r24) && (r26 == r28))) = true) (Pd.rep (En.int .u8) from_)), (Pd.when ((((r22 == r24) && (r26 == r28))) = true) (Pd.rep (En.int .u8) to_)), (Pd.when ((((r22 == r24) && (r26 == r28))) = true) (Pd.rep (En.slice (En.int .u8)) [from_, to_])), (Pd.when ((((r22 == r24) && (r26 == r28))) = true) (Pd.rep En.cls r30)), (Pd.when ((((r22 == r24) && (r26 == r28))) = true) (Pd.rep En.cls a_)), (Pd.when ((((r22 == r24) && (r26 == r28))) = true) (Pd.rep (En.int .u8) from_)), (Pd.when ((((r22 == r24) && (r26 == r28))) = true) (Pd.rep (En.int .u8) from_)), (Pd.when ((((r22 == r24) && (r26 == r28))) = true) (Pd.rep En.cls r32)), (Pd.when ((((r22 == r24) && (r26 == r28))) = true) (Pd.rep (En.int .u8) to_)), (Pd.when ((((r22 == r24) && (r26 == r28))) = true) (Pd.rep (En.int .u8) to_)), (Pd.when ((((r22 == r24) && (r26 == r28))) = true) (Pd.rep En.cls r34)), (Pd.when ((((r22 == r24) && (r26 == r28))) = true) (Pd.rep En.cls r36)), (Pd.when ((((r22 == r24) && (r26 == r28))) = true) (Pd.rep En.cls r38)), (Pd.when ((((r22 == r24) && (r26 == r28))) = true) (Pd.rep En.bool (r30 == r38))), (Pd.rep En.bool (((r22 == r24) && (r26 == r28)) && (r30 == r38))), (Pd.rep En.bool (((r22 == r24) && (r26 == r28)) && (r30 == r38))), (Pd.when (((((r22 == r24) && (r26 == r28)) && (r30 == r38))) = true) (Pd.rep En.cls a_)), (Pd.when (((((r22 == r24) && (r26 == r28)) && (r30 == r38))) = true) (Pd.rep En.cls b_)), (Pd.when (((((r22 == r24) && (r26 == r28)) && (r30 == r38))) = true) (Pd.rep En.cls r40)), (Pd.when (((((r22 == r24) && (r26 == r28)) && (r30 == r38))) = true) (Pd.rep En.cls a_)), (Pd.when (((((r22 == r24) && (r26 == r28)) && (r30 == r38))) = true) (Pd.rep En.cls b_)), (Pd.when (((((r22 == r24) && (r26 == r28)) && (r30 == r38))) = true) (Pd.rep En.cls r42)), (Pd.when (((((r22 == r24) && (r26 == r28)) && (r30 == r38))) = true) (Pd.rep En.bool (r40 == r42))), (Pd.rep En.bool b44), (Pd.rep En.bool b44), (Pd.when ((b44) = true) (Pd.rep En.cls a_)), (Pd.when ((b44) = true) (Pd.rep En.cls b_)), (Pd.when ((b44) = true) (Pd.rep En.cls r46)), (Pd.when ((b44) = true) (Pd.rep En.cls a_)), (Pd.when ((b44) = true) (Pd.rep En.cls b_)), (Pd.when ((b44) = true) (Pd.rep En.cls r48)), (Pd.when ((b44) = true) (Pd.rep En.bool (r46 == r48))), (Pd.rep En.bool (b44 && (r46 == r48))), (Pd.rep En.bool (b44 && (r46 == r48))), (Pd.when (((b44 && (r46 == r48))) = true) (Pd.rep En.cls a_)), (Pd.when (((b44 && (r46 == r48))) = true) (Pd.rep En.cls r50)), (Pd.when (((b44 && (r46 == r48))) = true) (Pd.rep En.cls a_)), (Pd.when (((b44 && (r46 == r48))) = true) (Pd.rep En.cls r52)), (Pd.when (((b44 && (r46 == r48))) = true) (Pd.rep En.bool (r50 == r52))), (Pd.rep En.bool ((b44 && (r46 == r48)) && (r50 == r52))), (Pd.rep En.bool ((b44 && (r46 == r48)) && (r50 == r52))), (Pd.when ((((b44 && (r46 == r48)) && (r50 == r52))) = true) (Pd.rep (En.int .u8) r8.1)), (Pd.when ((((b44 && (r46 == r48)) && (r50 == r52))) = true) (Pd.rep (En.int .u8) r11.1)), (Pd.when ((((b44 && (r46 == r48)) && (r50 == r52))) = true) (Pd.rep En.bool (r8.1 == r11.1))), (Pd.rep En.bool b54), (Pd.rep En.bool b54), (Pd.when ((b54) = true) (Pd.rep En.bool r8.2)), (Pd.when ((b54) = true) (Pd.rep En.bool r11.2)), (Pd.when ((b54) = true) (Pd.rep En.bool (r8.2 == r11.2))), (Pd.rep En.bool (b54 && (r8.2 == r11.2))), (Pd.rep En.bool (b54 && (r8.2 == r11.2))), (Pd.when (((b54 && (r8.2 == r11.2))) = true) (Pd.rep En.cls a_)), (Pd.when (((b54 && (r8.2 == r11.2))) = true) (Pd.rep (En.int .i64) r56)), (Pd.when (((b54 && (r8.2 == r11.2))) = true) (Pd.rep (En.int .i64) n19)), (Pd.when (((b54 && (r8.2 == r11.2))) = true) (Pd.rep En.bool (r56 == n19))), (Pd.rep En.bool ((b54 && (r8.2 == r11.2)) && (r56 == n19)))] hL (by kernel_rfl) rfl rfl ?_ ?_
      · refine AllT.cons (t_move (o_t 2 rfl) rfl rfl) ?_
        refine AllT.cons (t_move (o_t 3 rfl) rfl rfl) ?_
        refine AllT.cons (t_call (class_Of_ok h23) (xs := [.tmp 40, .tmp 41]) (.cons (o_t 40 rfl) (.cons (o_t 41 rfl) .nil)) rfl rfl) ?_
        refine AllT.cons (t_move (o_t 2 rfl) rfl rfl) ?_
        refine AllT.cons (t_move (o_t 3 rfl) rfl rfl) ?_
        refine AllT.cons (t_call (ref01_Row_ok h25) (xs := [.tmp 43, .tmp 44]) (.cons (o_t 43 rfl) (.cons (o_t 44 rfl) .nil)) rfl rfl) ?_
        refine AllT.cons (t_eqv eq24 (o_t 42 rfl) (o_t 45 rfl) rfl rfl) ?_
        refine AllT.cons (t_move (o_t 46 rfl) rfl rfl) ?_
        refine AllT.cons (t_g1 rfl rfl rfl (fun hc_ => t_load ty24 (o_t 4 rfl) rfl rfl)) ?_
        refine AllT.cons (t_g1 rfl rfl rfl (fun hc_ => t_move (o_t 2 rfl) rfl rfl)) ?_
        refine AllT.cons (t_g1 rfl rfl rfl (fun hc_ => t_call (class_Has_ok (h27 hc_)) (xs := [.tmp 48, .tmp 49]) (.cons (o_w hc_ 48 rfl) (.cons (o_w hc_ 49 rfl) .nil)) rfl rfl)) ?_
        refine AllT.cons (t_g1 rfl rfl rfl (fun hc_ => t_load ty24 (o_t 4 rfl) rfl rfl)) ?_
        refine AllT.cons (t_g1 rfl rfl rfl (fun hc_ => t_move (o_t 2 rfl) rfl rfl)) ?_
        refine AllT.cons (t_g1 rfl rfl rfl (fun hc_ => t_call (ref01_Has_ok (h29 hc_)) (xs := [.tmp 51, .tmp 52]) (.cons (o_w hc_ 51 rfl) (.cons (o_w hc_ 52 rfl) .nil)) rfl rfl)) ?_
        refine AllT.cons (t_g1 rfl rfl rfl (fun hc_ => t_eqb (o_w hc_ 50 rfl) (o_w hc_ 53 rfl) Try.underlying4 rfl rfl)) ?_
        refine AllT.cons (t_and (o_t 47 rfl) (fun hc2_ => (o_w hc2_ 54 rfl)) rfl rfl) ?_
        refine AllT.cons (t_move (o_t 55 rfl) rfl rfl) ?_
        refine AllT.cons (t_g1 rfl rfl rfl (fun hc_ => t_load ty24 (o_t 4 rfl) rfl rfl)) ?_
        refine AllT.cons (t_g1 rfl rfl rfl (fun hc_ => t_move (o_t 2 rfl) rfl rfl)) ?_
        refine AllT.cons (t_g1 rfl rfl rfl (fun hc_ => t_move (o_t 3 rfl) rfl rfl)) ?_
        refine AllT.cons (t_g1 rfl rfl rfl (fun hc_ => t_lit (xs := [.tmp 58, .tmp 59]) (.cons (o_w hc_ 58 rfl) (.cons (o_w hc_ 59 rfl) .nil)) Try.underlying40 ty5 rfl rfl (by decide) rfl rfl)) ?_
        refine AllT.cons (t_g1 rfl rfl rfl (fun hc_ => t_call (class_Add_ok (h31 hc_)) (xs := [.tmp 57, .tmp 60]) (.cons (o_w hc_ 57 rfl) (.cons (o_w hc_ 60 rfl) .nil)) rfl rfl)) ?_
        refine AllT.cons (t_g1 rfl rfl rfl (fun hc_ => t_load ty24 (o_t 4 rfl) rfl rfl)) ?_
        refine AllT.cons (t_g1 rfl rfl rfl (fun hc_ => t_move (o_t 2 rfl) rfl rfl)) ?_
        refine AllT.cons (t_g1 rfl rfl rfl (fun hc_ => t_move (o_t 2 rfl) rfl rfl)) ?_
        refine AllT.cons (t_g1 rfl rfl rfl (fun hc_ => t_call (ref01_Row_ok (h33 hc_)) (xs := [.tmp 63, .tmp 64]) (.cons (o_w hc_ 63 rfl) (.cons (o_w hc_ 64 rfl) .nil)) rfl rfl)) ?_
        refine AllT.cons (t_g1 rfl rfl rfl (fun hc_ => t_move (o_t 3 rfl) rfl rfl)) ?_
        refine AllT.cons (t_g1 rfl rfl rfl (fun hc_ => t_move (o_t 3 rfl) rfl rfl)) ?_
        refine AllT.cons (t_g1 rfl rfl rfl (fun hc_ => t_call (ref01_Row_ok (h35 hc_)) (xs := [.tmp 66, .tmp 67]) (.cons (o_w hc_ 66 rfl) (.cons (o_w hc_ 67 rfl) .nil)) rfl rfl)) ?_
        refine AllT.cons (t_g1 rfl rfl rfl (fun hc_ => t_call (ref01_Join_ok (h37 hc_)) (xs := [.tmp 65, .tmp 68]) (.cons (o_w hc_ 65 rfl) (.cons (o_w hc_ 68 rfl) .nil)) rfl rfl)) ?_
        refine AllT.cons (t_g1 rfl rfl rfl (fun hc_ => t_call (ref01_Join_ok (h39 hc_)) (xs := [.tmp 62, .tmp 69]) (.cons (o_w hc_ 62 rfl) (.cons (o_w hc_ 69 rfl) .nil)) rfl rfl)) ?_
        refine AllT.cons (t_g1 rfl rfl rfl (fun hc_ => t_eqv eq24 (o_w hc_ 61 rfl) (o_w hc_ 70 rfl) rfl rfl)) ?_
        refine AllT.cons (t_and (o_t 56 rfl) (fun hc2_ => (o_w hc2_ 71 rfl)) rfl rfl) ?_
        refine AllT.cons (t_move (o_t 72 rfl) rfl rfl) ?_
        refine AllT.cons (t_g1 rfl rfl rfl (fun hc_ => t_load ty24 (o_t 4 rfl) rfl rfl)) ?_
        refine AllT.cons (t_g1 rfl rfl rfl (fun hc_ => t_load ty24 (o_t 5 rfl) rfl rfl)) ?_
        refine AllT.cons (t_g1 rfl rfl rfl (fun hc_ => t_call (class_Join_ok (h41 hc_)) (xs := [.tmp 74, .tmp 75]) (.cons (o_w hc_ 74 rfl) (.cons (o_w hc_ 75 rfl) .nil)) rfl rfl)) ?_
        refine AllT.cons (t_g1 rfl rfl rfl (fun hc_ => t_load ty24 (o_t 4 rfl) rfl rfl)) ?_
        refine AllT.cons (t_g1 rfl rfl rfl (fun hc_ => t_load ty24 (o_t 5 rfl) rfl rfl)) ?_
        refine AllT.cons (t_g1 rfl rfl rfl (fun hc_ => t_call (ref01_Join_ok (h43 hc_)) (xs := [.tmp 77, .tmp 78]) (.cons (o_w hc_ 77 rfl) (.cons (o_w hc_ 78 rfl) .nil)) rfl rfl)) ?_
        refine AllT.cons (t_g1 rfl rfl rfl (fun hc_ => t_eqv eq24 (o_w hc_ 76 rfl) (o_w hc_ 79 rfl) rfl rfl)) ?_
        refine AllT.cons (h45 ▸ (t_and (o_t 73 rfl) (fun hc2_ => (o_w hc2_ 80 rfl)) rfl rfl)) ?_
        refine AllT.cons (t_move (o_t 81 rfl) rfl rfl) ?_
        refine AllT.cons (t_g1 rfl rfl rfl (fun hc_ => t_load ty24 (o_t 4 rfl) rfl rfl)) ?_
        refine AllT.cons (t_g1 rfl rfl rfl (fun hc_ => t_load ty24 (o_t 5 rfl) rfl rfl)) ?_
        refine AllT.cons (t_g1 rfl rfl rfl (fun hc_ => t_call (class_Both_ok (h47 hc_)) (xs := [.tmp 83, .tmp 84]) (.cons (o_w hc_ 83 rfl) (.cons (o_w hc_ 84 rfl) .nil)) rfl rfl)) ?_
        refine AllT.cons (t_g1 rfl rfl rfl (fun hc_ => t_load ty24 (o_t 4 rfl) rfl rfl)) ?_
        refine AllT.cons (t_g1 rfl rfl rfl (fun hc_ => t_load ty24 (o_t 5 rfl) rfl rfl)) ?_
        refine AllT.cons (t_g1 rfl rfl rfl (fun hc_ => t_call (ref01_Both_ok (h49 hc_)) (xs := [.tmp 86, .tmp 87]) (.cons (o_w hc_ 86 rfl) (.cons (o_w hc_ 87 rfl) .nil)) rfl rfl)) ?_
        refine AllT.cons (t_g1 rfl rfl rfl (fun hc_ => t_eqv eq24 (o_w hc_ 85 rfl) (o_w hc_ 88 rfl) rfl rfl)) ?_
        refine AllT.cons (t_and (o_t 82 rfl) (fun hc2_ => (o_w hc2_ 89 rfl)) rfl rfl) ?_
        refine AllT.cons (t_move (o_t 90 rfl) rfl rfl) ?_
        refine AllT.cons (t_g1 rfl rfl rfl (fun hc_ => t_load ty24 (o_t 4 rfl) rfl rfl)) ?_
        refine AllT.cons (t_g1 rfl rfl rfl (fun hc_ => t_call (class_Not_ok (h51 hc_)) (xs := [.tmp 92]) (.cons (o_w hc_ 92 rfl) .nil) rfl rfl)) ?_
        refine AllT.cons (t_g1 rfl rfl rfl (fun hc_ => t_load ty24 (o_t 4 rfl) rfl rfl)) ?_
        refine AllT.cons (t_g1 rfl rfl rfl (fun hc_ => t_call (ref01_Not_ok (h53 hc_)) (xs := [.tmp 94]) (.cons (o_w hc_ 94 rfl) .nil) rfl rfl)) ?_
        refine AllT.cons (t_g1 rfl rfl rfl (fun hc_ => t_eqv eq24 (o_w hc_ 93 rfl) (o_w hc_ 95 rfl) rfl rfl)) ?_
        refine AllT.cons (t_and (o_t 91 rfl) (fun hc2_ => (o_w hc2_ 96 rfl)) rfl rfl) ?_
        refine AllT.cons (t_move (o_t 97 rfl) rfl rfl) ?_
        refine AllT.cons (t_g1 rfl rfl rfl (fun hc_ => t_move (o_t 9 rfl) rfl rfl)) ?_
        refine AllT.cons (t_g1 rfl rfl rfl (fun hc_ => t_move (o_t 11 rfl) rfl rfl)) ?_
        refine AllT.cons (t_g1 rfl rfl rfl (fun hc_ => t_eqi (o_w hc_ 99 rfl) (o_w hc_ 100 rfl) rfl rfl)) ?_
        refine AllT.cons (h55 ▸ (t_and (o_t 98 rfl) (fun hc2_ => (o_w hc2_ 101 rfl)) rfl rfl)) ?_
        refine AllT.cons (t_move (o_t 102 rfl) rfl rfl) ?_
        refine AllT.cons (t_g1 rfl rfl rfl (fun hc_ => t_move (o_t 10 rfl) rfl rfl)) ?_
        refine AllT.cons (t_g1 rfl rfl rfl (fun hc_ => t_move (o_t 12 rfl) rfl rfl)) ?_
        refine AllT.cons (t_g1 rfl rfl rfl (fun hc_ => t_eqb (o_w hc_ 104 rfl) (o_w hc_ 105 rfl) Try.underlying4 rfl rfl)) ?_
        refine AllT.cons (t_and (o_t 103 rfl) (fun hc2_ => (o_w hc2_ 106 rfl)) rfl rfl) ?_
        refine AllT.cons (t_move (o_t 107 rfl) rfl rfl) ?_
        refine AllT.cons (t_g1 rfl rfl rfl (fun hc_ => t_load ty24 (o_t 4 rfl) rfl rfl)) ?_
        refine AllT.cons (t_g1 rfl rfl rfl (fun hc_ => t_call (class_Count_ok (h57 hc_)) (xs := [.tmp 109]) (.cons (o_w hc_ 109 rfl) .nil) rfl rfl)) ?_
        refine AllT.cons (t_g1 rfl rfl rfl (fun hc_ => t_move (o_t 13 rfl) rfl rfl)) ?_
        refine AllT.cons (t_g1 rfl rfl rfl (fun hc_ => t_eqi (o_w hc_ 110 rfl) (o_w hc_ 111 rfl) rfl rfl)) ?_
        refine AllT.cons (t_and (o_t 108 rfl) (fun hc2_ => (o_w hc2_ 112 rfl)) rfl rfl) ?_
        exact AllT.nil
      intro a s e_ hL
      refine st 8 (t_assign (o_t 113 rfl) rfl rfl) rfl rfl hL fun a s e_ hL => ?_
      refine en' ?_
      show K21 a s.w
      refine hK21 _ _ ?_
      subst h
      exact wp_ret (retq rfl hL rfl)
    obtain ⟨k60, h⟩ := h
    refine lpg (fun k61 a s => ∃ (n58 : Int) (i59 : Int), Has N0 114 s0 a s [(2, (Pd.rep (En.int .u8) from_)), (3, (Pd.rep (En.int .u8) to_)), (4, (Pd.ptr En.cls a_)), (5, (Pd.ptr En.cls b_)), (9, (Pd.rep (En.int .u8) r8.1)), (10, (Pd.rep En.bool r8.2)), (11, (Pd.rep (En.int .u8) r11.1)), (12, (Pd.rep En.bool r11.2)), (13, (Pd.rep (En.int .i64) n58)), (14, (Pd.rep (En.slice En.bool) r15)), (15, (Pd.rep (En.int .i64) i59))] ∧ law01_ClassDoes.l1 r15 (law01_ClassDoes.j1 a_ b_ from_ to_ r_ r8 r11) k61 n58 i59) k60 ⟨0, 0, hL.keep (.cons (t := 2) rfl (fun _ h_ => h_.elim) (.cons (t := 3) rfl (fun _ h_ => h_.elim) (.cons (t := 4) rfl (fun _ h_ => h_.elim) (.cons (t := 5) rfl (fun _ h_ => h_.elim) (.cons (t := 9) rfl (fun _ h_ => h_.elim) (.cons (t := 10) rfl (fun _ h_ => h_.elim) (.cons (t := 11) rfl (fun _ h_ => h_.elim) (.cons (t := 12) rfl (fun _ h_ => h_.elim) (.cons (t := 13) rfl (fun _ h_ => h_.elim) (.cons (t := 14) rfl (fun _ h_ => h_.elim) (.cons (t := 15) rfl (fun _ h_ => h_.elim) .nil))))))))))), h⟩ ?_
    rintro k61 a s ⟨n58, i59, hL, h⟩ KL62 hKL62
    cases k61 with
    | zero => exact h.elim
    | succ k61 =>
    unfold law01_ClassDoes.l1 at h
    refine wp_seq_k fun K63 hK63 => ?_
    refine wp_seq_k fun K64 hK64 => ?_
    refine rg ?_
    refine st 30 (t_move (o_t 15 rfl) rfl rfl) rfl rfl hL fun a s e_ hL => ?_
    refine st 31 (t_lss (o_t 30 rfl) (o_i (by decide)) rfl rfl) rfl rfl hL fun a s e_ hL => ?_
    refine en' ?_
    show K64 a s.w
    refine hK64 _ _ ?_
    refine cnd hL rfl (fun hb_ => ?_) (fun hb_ => ?_)
    · replace h := h.1 hb_
      refine wp_skip ?_
      show K63 a s.w
      refine hK63 _ _ ?_
      refine wp_seq_k fun K65 hK65 => ?_
      refine wp_block ?_
      refine wp_seq_k fun K66 hK66 => ?_
      obtain ⟨e67, h68, h⟩ := h
      refine rg ?_
      refine st 34 (t_move (o_t 14 rfl) rfl rfl) rfl rfl hL fun a s e_ hL => ?_
      refine st 35 (t_move (o_t 15 rfl) rfl rfl) rfl rfl hL fun a s e_ hL => ?_
      refine st 36 (t_idx (o_t 34 rfl) (o_t 35 rfl) h68 Try.underlying28 ty4 rfl rfl) rfl rfl hL fun a s e_ hL => ?_
      refine st 37 (t_load ty4 (o_t 36 rfl) rfl rfl) rfl rfl hL fun a s e_ hL => ?_
      refine en' ?_
      show K66 a s.w
      refine hK66 _ _ ?_
      refine cnd hL rfl (fun hb_ => ?_) (fun hb_ => ?_)
      · replace h := h.1 hb_
        obtain ⟨h69, h⟩ := h
        refine rg ?_
        refine st 38 (t_move (o_t 13 rfl) rfl rfl) rfl rfl hL fun a s e_ hL => ?_
        refine st 39 (t_add (o_t 38 rfl) (o_i (by decide)) h69 rfl rfl) rfl rfl hL fun a s e_ hL => ?_
        refine st 13 (t_assign (o_t 39 rfl) rfl rfl) rfl rfl hL fun a s e_ hL => ?_
        refine en' ?_
        show K65 a s.w
        refine hK65 _ _ ?_
        obtain ⟨h70, h⟩ := h
        refine rg ?_
        refine st 32 (t_move (o_t 15 rfl) rfl rfl) rfl rfl hL fun a s e_ hL => ?_
        refine st 33 (t_add (o_t 32 rfl) (o_i (by decide)) h70 rfl rfl) rfl rfl hL fun a s e_ hL => ?_
        refine st 15 (t_assign (o_t 33 rfl) rfl rfl) rfl rfl hL fun a s e_ hL => ?_
        refine en' ?_
        exact hKL62 k61 a s (Nat.lt_succ_self _) ⟨(n58 + 1), (i59 + 1), hL.keep (.cons (t := 2) rfl (fun _ h_ => h_.elim) (.cons (t := 3) rfl (fun _ h_ => h_.elim) (.cons (t := 4) rfl (fun _ h_ => h_.elim) (.cons (t := 5) rfl (fun _ h_ => h_.elim) (.cons (t := 9) rfl (fun _ h_ => h_.elim) (.cons (t := 10) rfl (fun _ h_ => h_.elim) (.cons (t := 11) rfl (fun _ h_ => h_.elim) (.cons (t := 12) rfl (fun _ h_ => h_.elim) (.cons (t := 13) rfl (fun _ h_ => h_.elim) (.cons (t := 14) rfl (fun _ h_ => h_.elim) (.cons (t := 15) rfl (fun _ h_ => h_.elim) .nil))))))))))), h⟩
      · replace h := h.2 hb_
        refine wp_skip ?_
        show K65 a s.w
        refine hK65 _ _ ?_
        obtain ⟨h71, h⟩ := h
        refine rg ?_
        refine st 32 (t_move (o_t 15 rfl) rfl rfl) rfl rfl hL fun a s e_ hL => ?_
        refine st 33 (t_add (o_t 32 rfl) (o_i (by decide)) h71 rfl rfl) rfl rfl hL fun a s e_ hL => ?_
        refine st 15 (t_assign (o_t 33 rfl) rfl rfl) rfl rfl hL fun a s e_ hL => ?_
        refine en' ?_
        exact hKL62 k61 a s (Nat.lt_succ_self _) ⟨n58, (i59 + 1), hL.keep (.cons (t := 2) rfl (fun _ h_ => h_.elim) (.cons (t := 3) rfl (fun _ h_ => h_.elim) (.cons (t := 4) rfl (fun _ h_ => h_.elim) (.cons (t := 5) rfl (fun _ h_ => h_.elim) (.cons (t := 9) rfl (fun _ h_ => h_.elim) (.cons (t := 10) rfl (fun _ h_ => h_.elim) (.cons (t := 11) rfl (fun _ h_ => h_.elim) (.cons (t := 12) rfl (fun _ h_ => h_.elim) (.cons (t := 13) rfl (fun _ h_ => h_.elim) (.cons (t := 14) rfl (fun _ h_ => h_.elim) (.cons (t := 15) rfl (fun _ h_ => h_.elim) .nil))))))))))), h⟩
    · replace h := h.2 hb_
      refine wp_exit ?_
      exact J20 n58 a s (hL.keep (.cons (t := 2) rfl (fun _ h_ => h_.elim) (.cons (t := 3) rfl (fun _ h_ => h_.elim) (.cons (t := 4) rfl (fun _ h_ => h_.elim) (.cons (t := 5) rfl (fun _ h_ => h_.elim) (.cons (t := 9) rfl (fun _ h_ => h_.elim) (.cons (t := 10) rfl (fun _ h_ => h_.elim) (.cons (t := 11) rfl (fun _ h_ => h_.elim) (.cons (t := 12) rfl (fun _ h_ => h_.elim) (.cons (t := 13) rfl (fun _ h_ => h_.elim) .nil)))))))))) h

theorem law01_ClassLaws_ok {a_ : Cl} {b_ : Cl} {c_ : Int} {r_ : Bool} (h : law01_ClassLaws a_ b_ c_ r_) : Fn Try.prog 4 [(Pd.rep En.cls a_), (Pd.rep En.cls b_), (Pd.rep (En.int .u8) c_)] (Rq (Pd.rep En.bool r_)) := by
  unfold law01_ClassLaws at h
  refine fn_of Try.func4 rfl Try.ntmps4 (by rfl) (by simp) fun s0 a hL => ?_
  refine wp_seq_k fun K1 hK1 => ?_
  refine rg ?_
  refine st 3 (t_box (o_t 0 rfl) rfl rfl) rfl rfl hL fun a s e_ hL => ?_
  refine st 4 (t_box (o_t 1 rfl) rfl rfl) rfl rfl hL fun a s e_ hL => ?_
  refine st 6 (t_assign o_b rfl rfl) rfl rfl hL fun a s e_ hL => ?_
  refine en' ?_
  show K1 a s.w
  refine hK1 _ _ ?_
  refine wp_seq_k fun K2 hK2 => ?_
  refine wp_seq_k fun K3 hK3 => ?_
  obtain ⟨r4, h5, h⟩ := h
  refine rg ?_
  refine st 9 (t_call (law01_awake_ok h5) (xs := []) .nil rfl rfl) rfl rfl hL fun a s e_ hL => ?_
  refine st 10 (t_not (o_t 9 rfl) rfl rfl) rfl rfl hL fun a s e_ hL => ?_
  refine en' ?_
  show K3 a s.w
  refine hK3 _ _ ?_
  refine cnd hL rfl (fun hb_ => ?_) (fun hb_ => ?_)
  · replace h := h.1 hb_
    refine wp_seq_k fun K6 hK6 => ?_
    refine rg ?_
    refine st 6 (t_assign o_b rfl rfl) rfl rfl hL fun a s e_ hL => ?_
    refine en' ?_
    show K6 a s.w
    refine hK6 _ _ ?_
    subst h
    exact wp_ret (retq rfl hL rfl)
  · replace h := h.2 hb_
    refine wp_skip ?_
    show K2 a s.w
    refine hK2 _ _ ?_
    refine wp_seq_k fun K7 hK7 => ?_
    obtain ⟨r8, h9, h⟩ := h
    refine rg ?_
    refine st 11 (t_load ty24 (o_t 3 rfl) rfl rfl) rfl rfl hL fun a s e_ hL => ?_
    refine st 12 (t_load ty24 (o_t 4 rfl) rfl rfl) rfl rfl hL fun a s e_ hL => ?_
    refine st 13 (t_call (class_Join_ok h9) (xs := [.tmp 11, .tmp 12]) (.cons (o_t 11 rfl) (.cons (o_t 12 rfl) .nil)) rfl rfl) rfl rfl hL fun a s e_ hL => ?_
    refine st_alloc En.cls (z := (0#256)) 7 hL tyz24 rfl rfl rfl rfl fun a s g10 hg_ hL => ?_
    refine st_stb (L' := [(2, (Pd.rep (En.int .u8) c_)), (3, (Pd.ptr En.cls a_)), (4, (Pd.ptr En.cls b_))]) 7 hL rfl (o_t 13 rfl) ty24 rfl rfl rfl (.cons (t := 2) rfl (fun _ h_ => h_.elim) (.cons (t := 3) rfl (fun _ h_ => h_.elim) (.cons (t := 4) rfl (fun _ h_ => h_.elim) .nil))) fun s hL => ?_
    refine en' ?_
    show K7 a s.w
    refine hK7 _ _ ?_
    refine wp_seq_k fun K11 hK11 => ?_
    obtain ⟨r12, h13, h⟩ := h
    refine rg ?_
    refine st 14 (t_load ty24 (o_t 3 rfl) rfl rfl) rfl rfl hL fun a s e_ hL => ?_
    refine st 15 (t_load ty24 (o_t 4 rfl) rfl rfl) rfl rfl hL fun a s e_ hL => ?_
    refine st 16 (t_call (class_Both_ok h13) (xs := [.tmp 14, .tmp 15]) (.cons (o_t 14 rfl) (.cons (o_t 15 rfl) .nil)) rfl rfl) rfl rfl hL fun a s e_ hL => ?_
    have lt_d15 := hL.blt 7 rfl
    refine st_alloc En.cls (z := (0#256)) 8 hL tyz24 rfl rfl rfl rfl fun a s g14 hg_ hL => ?_
    have d15 : Dis (some g14) (some g10) := Dis.newg hg_ lt_d15
    refine st_stb (L' := [(2, (Pd.rep (En.int .u8) c_)), (3, (Pd.ptr En.cls a_)), (4, (Pd.ptr En.cls b_)), (7, (Pd.box En.cls s0.w.heap.size g10 r8))]) 8 hL rfl (o_t 16 rfl) ty24 rfl rfl rfl (.cons (t := 2) rfl (fun _ h_ => h_.elim) (.cons (t := 3) rfl (fun _ h_ => h_.elim) (.cons (t := 4) rfl (fun _ h_ => h_.elim) (.cons (t := 7) rfl (Dis.bx (Dis.symm d15)) .nil)))) fun s hL => ?_
    refine en' ?_
    show K11 a s.w
    refine hK11 _ _ ?_
    refine wp_seq_k fun K16 hK16 => ?_
    refine wp_seq_k fun K17 hK17 => ?_
    obtain ⟨r18, h19, r20, h21, r22, h23, r24, h25, r26, h27, r28, h29, r30, h31, r32, h33, r34, h35, b36, h37, h⟩ := h
    refine rda follows 36 [(Pd.rep En.cls r8), (Pd.rep (En.int .u8) c_), (Pd.rep En.bool r18), (Pd.rep En.cls a_), (Pd.rep (En.int .u8) c_), (Pd.rep En.bool r20), (Pd.rep En.bool r20), (Pd.when ((r20) = false) (Pd.rep En.cls b_)), (Pd.when ((r20) = false) (Pd.rep (En.int .u8) c_)), (Pd.when ((r20) = false) (Pd.rep En.bool r22)), (Pd.rep En.bool (r20 || r22)), (Pd.rep En.bool (r18 != (r20 || r22))), (Pd.rep En.bool (r18 != (r20 || r22))), (Pd.when (((r18 != (r20 || r22))) = false) (Pd.rep En.cls r12)), (Pd.when (((r18 != (r20 || r22))) = false) (Pd.rep (En.int .u8) c_)), (Pd.when (((r18 != (r20 || r22))) = false) (Pd.rep En.bool r24)), (Pd.when (((r18 != (r20 || r22))) = false) (Pd.rep En.cls a_)), (Pd.when (((r18 != (r20 || r22))) = false) (Pd.rep (En.int .u8) c_)), (Pd.when (((r18 != (r20 || r22))) = false) (Pd.rep En.bool r26)), (Pd.when (((r18 != (r20 || r22))) = false) (Pd.rep En.bool r26)), (Pd.when ((((r18 != (r20 || r22))) = false) ∧ (r26) = true) (Pd.rep En.cls b_)), (Pd.when ((((r18 != (r20 || r22))) = false) ∧ (r26) = true) (Pd.rep (En.int .u8) c_)), (Pd.when ((((r18 != (r20 || r22))) = false) ∧ (r26) = true) (Pd.rep En.bool r28)), (Pd.when (((r18 != (r20 || r22))) = false) (Pd.rep En.bool (r26 && r28))), (Pd.when (((r18 != (r20 || r22))) = false) (Pd.rep En.bool (r24 != (r26 && r28)))), (Pd.rep En.bool ((r18 != (r20 || r22)) || (r24 != (r26 && r28)))), (Pd.rep En.bool ((r18 != (r20 || r22)) || (r24 != (r26 && r28)))), (Pd.when ((((r18 != (r20 || r22)) || (r24 != (r26 && r28)))) = false) (Pd.rep En.cls a_)), (Pd.when ((((r18 != (r20 || r22)) || (r24 != (r26 && r28)))) = false) (Pd.rep En.cls r30)), (Pd.when ((((r18 != (r20 || r22)) || (r24 != (r26 && r28)))) = false) (Pd.rep (En.int .u8) c_)), (Pd.when ((((r18 != (r20 || r22)) || (r24 != (r26 && r28)))) = false) (Pd.rep En.bool r32)), (Pd.when ((((r18 != (r20 || r22)) || (r24 != (r26 && r28)))) = false) (Pd.rep En.cls a_)), (Pd.when ((((r18 != (r20 || r22)) || (r24 != (r26 && r28)))) = false) (Pd.rep (En.int .u8) c_)), (Pd.when ((((r18 != (r20 || r22)) || (r24 != (r26 && r28)))) = false) (Pd.rep En.bool r34)), (Pd.when ((((r18 != (r20 || r22)) || (r24 != (r26 && r28)))) = false) (Pd.rep En.bool (r32 == r34))), (Pd.rep En.bool b36)] hL (by kernel_rfl) rfl rfl ?_ ?_
    · refine AllT.cons (t_loadb ty24 (o_t 7 rfl) rfl rfl) ?_
      refine AllT.cons (t_move (o_t 2 rfl) rfl rfl) ?_
      refine AllT.cons (t_call (class_Has_ok h19) (xs := [.tmp 17, .tmp 18]) (.cons (o_t 17 rfl) (.cons (o_t 18 rfl) .nil)) rfl rfl) ?_
      refine AllT.cons (t_load ty24 (o_t 3 rfl) rfl rfl) ?_
      refine AllT.cons (t_move (o_t 2 rfl) rfl rfl) ?_
      refine AllT.cons (t_call (class_Has_ok h21) (xs := [.tmp 20, .tmp 21]) (.cons (o_t 20 rfl) (.cons (o_t 21 rfl) .nil)) rfl rfl) ?_
      refine AllT.cons (t_move (o_t 22 rfl) rfl rfl) ?_
      refine AllT.cons (t_g1 rfl rfl rfl (fun hc_ => t_load ty24 (o_t 4 rfl) rfl rfl)) ?_
      refine AllT.cons (t_g1 rfl rfl rfl (fun hc_ => t_move (o_t 2 rfl) rfl rfl)) ?_
      refine AllT.cons (t_g1 rfl rfl rfl (fun hc_ => t_call (class_Has_ok (h23 hc_)) (xs := [.tmp 24, .tmp 25]) (.cons (o_w hc_ 24 rfl) (.cons (o_w hc_ 25 rfl) .nil)) rfl rfl)) ?_
      refine AllT.cons (t_or (o_t 23 rfl) (fun hc2_ => (o_w hc2_ 26 rfl)) rfl rfl) ?_
      refine AllT.cons (t_neb (o_t 19 rfl) (o_t 27 rfl) Try.underlying4 rfl rfl) ?_
      refine AllT.cons (t_move (o_t 28 rfl) rfl rfl) ?_
      refine AllT.cons (t_g1 rfl rfl rfl (fun hc_ => t_loadb ty24 (o_t 8 rfl) rfl rfl)) ?_
      refine AllT.cons (t_g1 rfl rfl rfl (fun hc_ => t_move (o_t 2 rfl) rfl rfl)) ?_
      refine AllT.cons (t_g1 rfl rfl rfl (fun hc_ => t_call (class_Has_ok (h25 hc_)) (xs := [.tmp 30, .tmp 31]) (.cons (o_w hc_ 30 rfl) (.cons (o_w hc_ 31 rfl) .nil)) rfl rfl)) ?_
      refine AllT.cons (t_g1 rfl rfl rfl (fun hc_ => t_load ty24 (o_t 3 rfl) rfl rfl)) ?_
      refine AllT.cons (t_g1 rfl rfl rfl (fun hc_ => t_move (o_t 2 rfl) rfl rfl)) ?_
      refine AllT.cons (t_g1 rfl rfl rfl (fun hc_ => t_call (class_Has_ok (h27 hc_)) (xs := [.tmp 33, .tmp 34]) (.cons (o_w hc_ 33 rfl) (.cons (o_w hc_ 34 rfl) .nil)) rfl rfl)) ?_
      refine AllT.cons (t_g1 rfl rfl rfl (fun hc_ => t_move (o_w hc_ 35 rfl) rfl rfl)) ?_
      refine AllT.cons (t_g rfl rfl rfl (fun hc_ => t_load ty24 (o_t 4 rfl) rfl rfl)) ?_
      refine AllT.cons (t_g rfl rfl rfl (fun hc_ => t_move (o_t 2 rfl) rfl rfl)) ?_
      refine AllT.cons (t_g rfl rfl rfl (fun hc_ => t_call (class_Has_ok (h29 hc_)) (xs := [.tmp 37, .tmp 38]) (.cons (o_w hc_ 37 rfl) (.cons (o_w hc_ 38 rfl) .nil)) rfl rfl)) ?_
      refine AllT.cons (t_g1 rfl rfl rfl (fun hc_ => t_and (o_w hc_ 36 rfl) (fun hc2_ => (o_w ⟨hc_, hc2_⟩ 39 rfl)) rfl rfl)) ?_
      refine AllT.cons (t_g1 rfl rfl rfl (fun hc_ => t_neb (o_w hc_ 32 rfl) (o_w hc_ 40 rfl) Try.underlying4 rfl rfl)) ?_
      refine AllT.cons (t_or (o_t 29 rfl) (fun hc2_ => (o_w hc2_ 41 rfl)) rfl rfl) ?_
      refine AllT.cons (t_move (o_t 42 rfl) rfl rfl) ?_
      refine AllT.cons (t_g1 rfl rfl rfl (fun hc_ => t_load ty24 (o_t 3 rfl) rfl rfl)) ?_
      refine AllT.cons (t_g1 rfl rfl rfl (fun hc_ => t_call (class_Not_ok (h31 hc_)) (xs := [.tmp 44]) (.cons (o_w hc_ 44 rfl) .nil) rfl rfl)) ?_
      refine AllT.cons (t_g1 rfl rfl rfl (fun hc_ => t_move (o_t 2 rfl) rfl rfl)) ?_
      refine AllT.cons (t_g1 rfl rfl rfl (fun hc_ => t_call (class_Has_ok (h33 hc_)) (xs := [.tmp 45, .tmp 46]) (.cons (o_w hc_ 45 rfl) (.cons (o_w hc_ 46 rfl) .nil)) rfl rfl)) ?_
      refine AllT.cons (t_g1 rfl rfl rfl (fun hc_ => t_load ty24 (o_t 3 rfl) rfl rfl)) ?_
      refine AllT.cons (t_g1 rfl rfl rfl (fun hc_ => t_move (o_t 2 rfl) rfl rfl)) ?_
      refine AllT.cons (t_g1 rfl rfl rfl (fun hc_ => t_call (class_Has_ok (h35 hc_)) (xs := [.tmp 48, .tmp 49]) (.cons (o_w hc_ 48 rfl) (.cons (o_w hc_ 49 rfl) .nil)) rfl rfl)) ?_
      refine AllT.cons (t_g1 rfl rfl rfl (fun hc_ => t_eqb (o_w hc_ 47 rfl) (o_w hc_ 50 rfl) Try.underlying4 rfl rfl)) ?_
      refine AllT.cons (h37 ▸ (t_or (o_t 43 rfl) (fun hc2_ => (o_w hc2_ 51 rfl)) rfl rfl)) ?_
      exact AllT.nil
    intro a s e_ hL
    refine en' ?_
    show K17 a s.w
    refine hK17 _ _ ?_
    refine cnd hL rfl (fun hb_ => ?_) (fun hb_ => ?_)
    · replace h := h.1 hb_
      refine wp_seq_k fun K38 hK38 => ?_
      refine rg ?_
      refine st 6 (t_assign o_b rfl rfl) rfl rfl hL fun a s e_ hL => ?_
      refine en' ?_
      show K38 a s.w
      refine hK38 _ _ ?_
      subst h
      exact wp_ret (retq rfl hL rfl)
    · replace h := h.2 hb_
      refine wp_skip ?_
      show K16 a s.w
      refine hK16 _ _ ?_
      refine wp_seq_k fun K39 hK39 => ?_
      refine wp_seq_k fun K40 hK40 => ?_
      obtain ⟨r41, h42, r43, h44, r45, h46, r47, h48, r49, h50, r51, h52, r53, h54, r55, h56, r57, h58, r59, h60, h⟩ := h
      refine rda follows 25 [(Pd.rep En.cls r8), (Pd.rep En.cls r41), (Pd.rep En.cls a_), (Pd.rep En.cls r43), (Pd.rep En.cls b_), (Pd.rep En.cls r45), (Pd.rep En.cls r47), (Pd.rep En.bool (r41 != r47)), (Pd.rep En.bool (r41 != r47)), (Pd.when (((r41 != r47)) = false) (Pd.rep En.cls r12)), (Pd.when (((r41 != r47)) = false) (Pd.rep En.cls r49)), (Pd.when (((r41 != r47)) = false) (Pd.rep En.cls a_)), (Pd.when (((r41 != r47)) = false) (Pd.rep En.cls r51)), (Pd.when (((r41 != r47)) = false) (Pd.rep En.cls b_)), (Pd.when (((r41 != r47)) = false) (Pd.rep En.cls r53)), (Pd.when (((r41 != r47)) = false) (Pd.rep En.cls r55)), (Pd.when (((r41 != r47)) = false) (Pd.rep En.bool (r49 != r55))), (Pd.rep En.bool ((r41 != r47) || (r49 != r55))), (Pd.rep En.bool ((r41 != r47) || (r49 != r55))), (Pd.when ((((r41 != r47) || (r49 != r55))) = false) (Pd.rep En.cls a_)), (Pd.when ((((r41 != r47) || (r49 != r55))) = false) (Pd.rep En.cls r57)), (Pd.when ((((r41 != r47) || (r49 != r55))) = false) (Pd.rep En.cls r59)), (Pd.when ((((r41 != r47) || (r49 != r55))) = false) (Pd.rep En.cls a_)), (Pd.when ((((r41 != r47) || (r49 != r55))) = false) (Pd.rep En.bool (r59 != a_))), (Pd.rep En.bool (((r41 != r47) || (r49 != r55)) || (r59 != a_)))] hL (by kernel_rfl) rfl rfl ?_ ?_
      · refine AllT.cons (t_loadb ty24 (o_t 7 rfl) rfl rfl) ?_
        refine AllT.cons (t_call (class_Not_ok h42) (xs := [.tmp 53]) (.cons (o_t 53 rfl) .nil) rfl rfl) ?_
        refine AllT.cons (t_load ty24 (o_t 3 rfl) rfl rfl) ?_
        refine AllT.cons (t_call (class_Not_ok h44) (xs := [.tmp 55]) (.cons (o_t 55 rfl) .nil) rfl rfl) ?_
        refine AllT.cons (t_load ty24 (o_t 4 rfl) rfl rfl) ?_
        refine AllT.cons (t_call (class_Not_ok h46) (xs := [.tmp 57]) (.cons (o_t 57 rfl) .nil) rfl rfl) ?_
        refine AllT.cons (t_call (class_Both_ok h48) (xs := [.tmp 56, .tmp 58]) (.cons (o_t 56 rfl) (.cons (o_t 58 rfl) .nil)) rfl rfl) ?_
        refine AllT.cons (t_nev eq24 (o_t 54 rfl) (o_t 59 rfl) rfl rfl) ?_
        refine AllT.cons (t_move (o_t 60 rfl) rfl rfl) ?_
        refine AllT.cons (t_g1 rfl rfl rfl (fun hc_ => t_loadb ty24 (o_t 8 rfl) rfl rfl)) ?_
        refine AllT.cons (t_g1 rfl rfl rfl (fun hc_ => t_call (class_Not_ok (h50 hc_)) (xs := [.tmp 62]) (.cons (o_w hc_ 62 rfl) .nil) rfl rfl)) ?_
        refine AllT.cons (t_g1 rfl rfl rfl (fun hc_ => t_load ty24 (o_t 3 rfl) rfl rfl)) ?_
        refine AllT.cons (t_g1 rfl rfl rfl (fun hc_ => t_call (class_Not_ok (h52 hc_)) (xs := [.tmp 64]) (.cons (o_w hc_ 64 rfl) .nil) rfl rfl)) ?_
        refine AllT.cons (t_g1 rfl rfl rfl (fun hc_ => t_load ty24 (o_t 4 rfl) rfl rfl)) ?_
        refine AllT.cons (t_g1 rfl rfl rfl (fun hc_ => t_call (class_Not_ok (h54 hc_)) (xs := [.tmp 66]) (.cons (o_w hc_ 66 rfl) .nil) rfl rfl)) ?_
        refine AllT.cons (t_g1 rfl rfl rfl (fun hc_ => t_call (class_Join_ok (h56 hc_)) (xs := [.tmp 65, .tmp 67]) (.cons (o_w hc_ 65 rfl) (.cons (o_w hc_ 67 rfl) .nil)) rfl rfl)) ?_
        refine AllT.cons (t_g1 rfl rfl rfl (fun hc_ => t_nev eq24 (o_w hc_ 63 rfl) (o_w hc_ 68 rfl) rfl rfl)) ?_
        refine AllT.cons (t_or (o_t 61 rfl) (fun hc2_ => (o_w hc2_ 69 rfl)) rfl rfl) ?_
        refine AllT.cons (t_move (o_t 70 rfl) rfl rfl) ?_
        refine AllT.cons (t_g1 rfl rfl rfl (fun hc_ => t_load ty24 (o_t 3 rfl) rfl rfl)) ?_
        refine AllT.cons (t_g1 rfl rfl rfl (fun hc_ => t_call (class_Not_ok (h58 hc_)) (xs := [.tmp 72]) (.cons (o_w hc_ 72 rfl) .nil) rfl rfl)) ?_
        refine AllT.cons (t_g1 rfl rfl rfl (fun hc_ => t_call (class_Not_ok (h60 hc_)) (xs := [.tmp 73]) (.cons (o_w hc_ 73 rfl) .nil) rfl rfl)) ?_
        refine AllT.cons (t_g1 rfl rfl rfl (fun hc_ => t_load ty24 (o_t 3 rfl) rfl rfl)) ?_
        refine AllT.cons (t_g1 rfl rfl rfl (fun hc_ => t_nev eq24 (o_w hc_ 74 rfl) (o_w hc_ 75 rfl) rfl rfl)) ?_
        refine AllT.cons (t_or (o_t 71 rfl) (fun hc2_ => (o_w hc2_ 76 rfl)) rfl rfl) ?_
        exact AllT.nil
      intro a s e_ hL
      refine en' ?_
      show K40 a s.w
      refine hK40 _ _ ?_
      refine cnd hL rfl (fun hb_ => ?_) (fun hb_ => ?_)
      · replace h := h.1 hb_
        refine wp_seq_k fun K61 hK61 => ?_
        refine rg ?_
        refine st 6 (t_assign o_b rfl rfl) rfl rfl hL fun a s e_ hL => ?_
        refine en' ?_
        show K61 a s.w
        refine hK61 _ _ ?_
        subst h
        exact wp_ret (retq rfl hL rfl)
      · replace h := h.2 hb_
        refine wp_skip ?_
        show K39 a s.w
        refine hK39 _ _ ?_
        refine wp_seq_k fun K62 hK62 => ?_
        obtain ⟨r63, h64, r65, h66, h67, r68, h69, r70, h71, h72, r73, h74, r75, h76, b77, h78, r79, h80, r81, h82, r83, h84, h85, h⟩ := h
        refine rda follows 31 [(Pd.rep En.cls r8), (Pd.rep (En.int .i64) r63), (Pd.rep En.cls r12), (Pd.rep (En.int .i64) r65), (Pd.rep (En.int .i64) (r63 + r65)), (Pd.rep En.cls a_), (Pd.rep (En.int .i64) r68), (Pd.rep En.cls b_), (Pd.rep (En.int .i64) r70), (Pd.rep (En.int .i64) (r68 + r70)), (Pd.rep En.bool ((r63 + r65) == (r68 + r70))), (Pd.rep En.bool ((r63 + r65) == (r68 + r70))), (Pd.when ((((r63 + r65) == (r68 + r70))) = true) (Pd.rep En.cls a_)), (Pd.when ((((r63 + r65) == (r68 + r70))) = true) (Pd.rep En.cls b_)), (Pd.when ((((r63 + r65) == (r68 + r70))) = true) (Pd.rep En.bool (a_ == b_))), (Pd.when ((((r63 + r65) == (r68 + r70))) = true) (Pd.rep En.cls r8)), (Pd.when ((((r63 + r65) == (r68 + r70))) = true) (Pd.rep (En.int .i64) r73)), (Pd.when ((((r63 + r65) == (r68 + r70))) = true) (Pd.rep En.cls r12)), (Pd.when ((((r63 + r65) == (r68 + r70))) = true) (Pd.rep (En.int .i64) r75)), (Pd.when ((((r63 + r65) == (r68 + r70))) = true) (Pd.rep En.bool (r73 == r75))), (Pd.when ((((r63 + r65) == (r68 + r70))) = true) (Pd.rep En.bool ((a_ == b_) == (r73 == r75)))), (Pd.rep En.bool b77), (Pd.rep En.bool b77), (Pd.when ((b77) = true) (Pd.rep En.cls a_)), (Pd.when ((b77) = true) (Pd.rep (En.int .i64) r79)), (Pd.when ((b77) = true) (Pd.rep En.cls a_)), (Pd.when ((b77) = true) (Pd.rep En.cls r81)), (Pd.when ((b77) = true) (Pd.rep (En.int .i64) r83)), (Pd.when ((b77) = true) (Pd.rep (En.int .i64) (r79 + r83))), (Pd.when ((b77) = true) (Pd.rep En.bool ((r79 + r83) == 256))), (Pd.rep En.bool (b77 && ((r79 + r83) == 256)))] hL (by kernel_rfl) rfl rfl ?_ ?_
        · refine AllT.cons (t_loadb ty24 (o_t 7 rfl) rfl rfl) ?_
          refine AllT.cons (t_call (class_Count_ok h64) (xs := [.tmp 78]) (.cons (o_t 78 rfl) .nil) rfl rfl) ?_
          refine AllT.cons (t_loadb ty24 (o_t 8 rfl) rfl rfl) ?_
          refine AllT.cons (t_call (class_Count_ok h66) (xs := [.tmp 80]) (.cons (o_t 80 rfl) .nil) rfl rfl) ?_
          refine AllT.cons (t_add (o_t 79 rfl) (o_t 81 rfl) h67 rfl rfl) ?_
          refine AllT.cons (t_load ty24 (o_t 3 rfl) rfl rfl) ?_
          refine AllT.cons (t_call (class_Count_ok h69) (xs := [.tmp 83]) (.cons (o_t 83 rfl) .nil) rfl rfl) ?_
          refine AllT.cons (t_load ty24 (o_t 4 rfl) rfl rfl) ?_
          refine AllT.cons (t_call (class_Count_ok h71) (xs := [.tmp 85]) (.cons (o_t 85 rfl) .nil) rfl rfl) ?_
          refine AllT.cons (t_add (o_t 84 rfl) (o_t 86 rfl) h72 rfl rfl) ?_
          refine AllT.cons (t_eqi (o_t 82 rfl) (o_t 87 rfl) rfl rfl) ?_
          refine AllT.cons (t_move (o_t 88 rfl) rfl rfl) ?_
          refine AllT.cons (t_g1 rfl rfl rfl (fun hc_ => t_load ty24 (o_t 3 rfl) rfl rfl)) ?_
          refine AllT.cons (t_g1 rfl rfl rfl (fun hc_ => t_load ty24 (o_t 4 rfl) rfl rfl)) ?_
          refine AllT.cons (t_g1 rfl rfl rfl (fun hc_ => t_eqv eq24 (o_w hc_ 90 rfl) (o_w hc_ 91 rfl) rfl rfl)) ?_
          refine AllT.cons (t_g1 rfl rfl rfl (fun hc_ => t_loadb ty24 (o_t 7 rfl) rfl rfl)) ?_
          refine AllT.cons (t_g1 rfl rfl rfl (fun hc_ => t_call (class_Count_ok (h74 hc_)) (xs := [.tmp 93]) (.cons (o_w hc_ 93 rfl) .nil) rfl rfl)) ?_
          refine AllT.cons (t_g1 rfl rfl rfl (fun hc_ => t_loadb ty24 (o_t 8 rfl) rfl rfl)) ?_
          refine AllT.cons (t_g1 rfl rfl rfl (fun hc_ => t_call (class_Count_ok (h76 hc_)) (xs := [.tmp 95]) (.cons (o_w hc_ 95 rfl) .nil) rfl rfl)) ?_
          refine AllT.cons (t_g1 rfl rfl rfl (fun hc_ => t_eqi (o_w hc_ 94 rfl) (o_w hc_ 96 rfl) rfl rfl)) ?_
          refine AllT.cons (t_g1 rfl rfl rfl (fun hc_ => t_eqb (o_w hc_ 92 rfl) (o_w hc_ 97 rfl) Try.underlying4 rfl rfl)) ?_
          refine AllT.cons (h78 ▸ (t_and (o_t 89 rfl) (fun hc2_ => (o_w hc2_ 98 rfl)) rfl rfl)) ?_
          refine AllT.cons (t_move (o_t 99 rfl) rfl rfl) ?_
          refine AllT.cons (t_g1 rfl rfl rfl (fun hc_ => t_load ty24 (o_t 3 rfl) rfl rfl)) ?_
          refine AllT.cons (t_g1 rfl rfl rfl (fun hc_ => t_call (class_Count_ok (h80 hc_)) (xs := [.tmp 101]) (.cons (o_w hc_ 101 rfl) .nil) rfl rfl)) ?_
          refine AllT.cons (t_g1 rfl rfl rfl (fun hc_ => t_load ty24 (o_t 3 rfl) rfl rfl)) ?_
          refine AllT.cons (t_g1 rfl rfl rfl (fun hc_ => t_call (class_Not_ok (h82 hc_)) (xs := [.tmp 103]) (.cons (o_w hc_ 103 rfl) .nil) rfl rfl)) ?_
          refine AllT.cons (t_g1 rfl rfl rfl (fun hc_ => t_call (class_Count_ok (h84 hc_)) (xs := [.tmp 104]) (.cons (o_w hc_ 104 rfl) .nil) rfl rfl)) ?_
          refine AllT.cons (t_g1 rfl rfl rfl (fun hc_ => t_add (o_w hc_ 102 rfl) (o_w hc_ 105 rfl) (h85 hc_) rfl rfl)) ?_
          refine AllT.cons (t_g1 rfl rfl rfl (fun hc_ => t_eqi (o_w hc_ 106 rfl) (o_i (by decide)) rfl rfl)) ?_
          refine AllT.cons (t_and (o_t 100 rfl) (fun hc2_ => (o_w hc2_ 107 rfl)) rfl rfl) ?_
          exact AllT.nil
        intro a s e_ hL
        refine st 6 (t_assign (o_t 108 rfl) rfl rfl) rfl rfl hL fun a s e_ hL => ?_
        refine en' ?_
        show K62 a s.w
        refine hK62 _ _ ?_
        subst h
        exact wp_ret (retq rfl hL rfl)
end Go.Proofs.Ytkdbiiollbeoeaa.V
