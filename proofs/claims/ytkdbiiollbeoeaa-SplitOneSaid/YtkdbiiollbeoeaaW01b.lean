/- The walks of the functions of layer 1 (by gen.py). -/
import Derived.Test.YtkdbiiollbeoeaaW01a
import Derived.Test.YtkdbiiollbeoeaaR01
namespace Go.Proofs.Ytkdbiiollbeoeaa.V
open Go
set_option linter.unusedVariables false
theorem law01_ClassRows_ok {a_ : Cl} {from_ : Int} {mid_ : Int} {to_ : Int} {c_ : Int} {r_ : Bool} (h : law01_ClassRows a_ from_ mid_ to_ c_ r_) : Fn Try.prog 5 [(Pd.rep En.cls a_), (Pd.rep (En.int .u8) from_), (Pd.rep (En.int .u8) mid_), (Pd.rep (En.int .u8) to_), (Pd.rep (En.int .u8) c_)] (Rq (Pd.rep En.bool r_)) := by
  unfold law01_ClassRows at h
  refine fn_of Try.func5 rfl Try.ntmps5 (by rfl) (by simp) fun s0 a hL => ?_
  refine wp_seq_k fun K1 hK1 => ?_
  refine rg ?_
  refine st 5 (t_box (o_t 0 rfl) rfl rfl) rfl rfl hL fun a s e_ hL => ?_
  refine st 10 (t_assign o_b rfl rfl) rfl rfl hL fun a s e_ hL => ?_
  refine en' ?_
  show K1 a s.w
  refine hK1 _ _ ?_
  refine wp_seq_k fun K2 hK2 => ?_
  refine wp_seq_k fun K3 hK3 => ?_
  obtain ⟨r4, h5, h⟩ := h
  refine rg ?_
  refine st 16 (t_call (law01_awake_ok h5) (xs := []) .nil rfl rfl) rfl rfl hL fun a s e_ hL => ?_
  refine st 17 (t_not (o_t 16 rfl) rfl rfl) rfl rfl hL fun a s e_ hL => ?_
  refine en' ?_
  show K3 a s.w
  refine hK3 _ _ ?_
  refine cnd hL rfl (fun hb_ => ?_) (fun hb_ => ?_)
  · replace h := h.1 hb_
    refine wp_seq_k fun K6 hK6 => ?_
    refine rg ?_
    refine st 10 (t_assign o_b rfl rfl) rfl rfl hL fun a s e_ hL => ?_
    refine en' ?_
    show K6 a s.w
    refine hK6 _ _ ?_
    subst h
    exact wp_ret (retq rfl hL rfl)
  · replace h := h.2 hb_
    refine wp_skip ?_
    show K2 a s.w
    refine hK2 _ _ ?_
    refine wp_seq_k fun K7 hK7 => ?_
    refine wp_seq_k fun K8 hK8 => ?_
    refine rg ?_
    refine st 18 (t_move (o_t 1 rfl) rfl rfl) rfl rfl hL fun a s e_ hL => ?_
    refine st 19 (t_move (o_t 3 rfl) rfl rfl) rfl rfl hL fun a s e_ hL => ?_
    refine st 20 (t_leq (o_t 18 rfl) (o_t 19 rfl) rfl rfl) rfl rfl hL fun a s e_ hL => ?_
    refine en' ?_
    show K8 a s.w
    refine hK8 _ _ ?_
    have J9 : ∀ (a : Act) (s : St), Has N0 119 s0 a s [(4, (Pd.rep (En.int .u8) c_)), (5, (Pd.ptr En.cls a_))] → ((law01_ClassRows.j2 a_ c_ r_)) → K7 a s.w := by
      intro a s hL h
      unfold law01_ClassRows.j2 at h
      show K7 a s.w
      refine hK7 _ _ ?_
      refine wp_seq_k fun K10 hK10 => ?_
      obtain ⟨r11, h12, h⟩ := h
      refine rg ?_
      refine st 78 (t_load ty24 (o_t 5 rfl) rfl rfl) rfl rfl hL fun a s e_ hL => ?_
      refine st 79 (t_move (o_t 4 rfl) rfl rfl) rfl rfl hL fun a s e_ hL => ?_
      refine st 80 (t_lit (xs := [.tmp 79]) (.cons (o_t 79 rfl) .nil) Try.underlying40 ty5 rfl rfl (by decide) rfl rfl) rfl rfl hL fun a s e_ hL => ?_
      refine st 81 (t_call (class_Add_ok h12) (xs := [.tmp 78, .tmp 80]) (.cons (o_t 78 rfl) (.cons (o_t 80 rfl) .nil)) rfl rfl) rfl rfl hL fun a s e_ hL => ?_
      refine st_alloc En.cls (z := (0#256)) 14 hL tyz24 rfl rfl rfl rfl fun a s g13 hg_ hL => ?_
      refine st_stb (L' := [(4, (Pd.rep (En.int .u8) c_)), (5, (Pd.ptr En.cls a_))]) 14 hL rfl (o_t 81 rfl) ty24 rfl rfl rfl (.cons (t := 4) rfl (fun _ h_ => h_.elim) (.cons (t := 5) rfl (fun _ h_ => h_.elim) .nil)) fun s hL => ?_
      refine en' ?_
      show K10 a s.w
      refine hK10 _ _ ?_
      refine wp_seq_k fun K14 hK14 => ?_
      refine rg ?_
      refine st 15 (t_assign (o_i (by decide)) rfl rfl) rfl rfl hL fun a s e_ hL => ?_
      refine en' ?_
      show K14 a s.w
      refine hK14 _ _ ?_
      refine wp_seq_k fun K15 hK15 => ?_
      refine wp_seq_k fun K16 hK16 => ?_
      obtain ⟨r17, h18, h⟩ := h
      refine rg ?_
      refine st 82 (t_load ty24 (o_t 5 rfl) rfl rfl) rfl rfl hL fun a s e_ hL => ?_
      refine st 83 (t_move (o_t 4 rfl) rfl rfl) rfl rfl hL fun a s e_ hL => ?_
      refine st 84 (t_call (class_Has_ok h18) (xs := [.tmp 82, .tmp 83]) (.cons (o_t 82 rfl) (.cons (o_t 83 rfl) .nil)) rfl rfl) rfl rfl hL fun a s e_ hL => ?_
      refine en' ?_
      show K16 a s.w
      refine hK16 _ _ ?_
      have J20 : ∀ (more19 : Int) (a : Act) (s : St), Has N0 119 s0 a s [(4, (Pd.rep (En.int .u8) c_)), (5, (Pd.ptr En.cls a_)), (14, (Pd.box En.cls s0.w.heap.size g13 r11)), (15, (Pd.rep (En.int .i64) more19))] → ((law01_ClassRows.j1 a_ c_ r_ r11) more19) → K15 a s.w := by
        intro more19 a s hL h
        unfold law01_ClassRows.j1 at h
        show K15 a s.w
        refine hK15 _ _ ?_
        refine wp_seq_k fun K21 hK21 => ?_
        obtain ⟨r22, h23, r24, h25, r26, h27, h28, r29, h30, r31, h32, b33, h34, r35, h36, h⟩ := h
        refine rda follows 34 [(Pd.rep En.cls r11), (Pd.rep (En.int .u8) c_), (Pd.rep En.bool r22), (Pd.rep En.bool r22), (Pd.when ((r22) = true) (Pd.rep En.cls r11)), (Pd.when ((r22) = true) (Pd.rep (En.int .i64) r24)), (Pd.when ((r22) = true) (Pd.rep En.cls a_)), (Pd.when ((r22) = true) (Pd.rep (En.int .i64) r26)), (Pd.when ((r22) = true) (Pd.rep (En.int .i64) more19)), (Pd.when ((r22) = true) (Pd.rep (En.int .i64) (r26 + more19))), (Pd.when ((r22) = true) (Pd.rep En.bool (r24 == (r26 + more19)))), (Pd.rep En.bool (r22 && (r24 == (r26 + more19)))), (Pd.rep En.bool (r22 && (r24 == (r26 + more19)))), (Pd.when (((r22 && (r24 == (r26 + more19)))) = true) (Pd.rep En.cls a_)), (Pd.when (((r22 && (r24 == (r26 + more19)))) = true) (Pd.rep En.cls r11)), (Pd.when (((r22 && (r24 == (r26 + more19)))) = true) (Pd.rep En.cls r29)), (Pd.when (((r22 && (r24 == (r26 + more19)))) = true) (Pd.rep En.cls a_)), (Pd.when (((r22 && (r24 == (r26 + more19)))) = true) (Pd.rep En.bool (r29 == a_))), (Pd.rep En.bool ((r22 && (r24 == (r26 + more19))) && (r29 == a_))), (Pd.rep En.bool ((r22 && (r24 == (r26 + more19))) && (r29 == a_))), (Pd.when ((((r22 && (r24 == (r26 + more19))) && (r29 == a_))) = true) (Pd.rep En.cls a_)), (Pd.when ((((r22 && (r24 == (r26 + more19))) && (r29 == a_))) = true) (Pd.rep En.cls r31)), (Pd.when ((((r22 && (r24 == (r26 + more19))) && (r29 == a_))) = true) (Pd.rep En.cls a_)), (Pd.when ((((r22 && (r24 == (r26 + more19))) && (r29 == a_))) = true) (Pd.rep En.bool (r31 == a_))), (Pd.rep En.bool b33), (Pd.rep En.bool b33), (Pd.when ((b33) = true) (Pd.rep En.cls r11)), (Pd.when ((b33) = true) (Pd.rep (En.int .u8) c_)), (Pd.when ((b33) = true) (Pd.rep (En.int .u8) c_)), (Pd.when ((b33) = true) (Pd.rep (En.slice (En.int .u8)) [c_, c_])), (Pd.when ((b33) = true) (Pd.rep En.cls r35)), (Pd.when ((b33) = true) (Pd.rep En.cls r11)), (Pd.when ((b33) = true) (Pd.rep En.bool (r35 == r11))), (Pd.rep En.bool (b33 && (r35 == r11)))] hL (by kernel_rfl) rfl rfl ?_ ?_
        · refine AllT.cons (t_loadb ty24 (o_t 14 rfl) rfl rfl) ?_
          refine AllT.cons (t_move (o_t 4 rfl) rfl rfl) ?_
          refine AllT.cons (t_call (class_Has_ok h23) (xs := [.tmp 85, .tmp 86]) (.cons (o_t 85 rfl) (.cons (o_t 86 rfl) .nil)) rfl rfl) ?_
          refine AllT.cons (t_move (o_t 87 rfl) rfl rfl) ?_
          refine AllT.cons (t_g1 rfl rfl rfl (fun hc_ => t_loadb ty24 (o_t 14 rfl) rfl rfl)) ?_
          refine AllT.cons (t_g1 rfl rfl rfl (fun hc_ => t_call (class_Count_ok (h25 hc_)) (xs := [.tmp 89]) (.cons (o_w hc_ 89 rfl) .nil) rfl rfl)) ?_
          refine AllT.cons (t_g1 rfl rfl rfl (fun hc_ => t_load ty24 (o_t 5 rfl) rfl rfl)) ?_
          refine AllT.cons (t_g1 rfl rfl rfl (fun hc_ => t_call (class_Count_ok (h27 hc_)) (xs := [.tmp 91]) (.cons (o_w hc_ 91 rfl) .nil) rfl rfl)) ?_
          refine AllT.cons (t_g1 rfl rfl rfl (fun hc_ => t_move (o_t 15 rfl) rfl rfl)) ?_
          refine AllT.cons (t_g1 rfl rfl rfl (fun hc_ => t_add (o_w hc_ 92 rfl) (o_w hc_ 93 rfl) (h28 hc_) rfl rfl)) ?_
          refine AllT.cons (t_g1 rfl rfl rfl (fun hc_ => t_eqi (o_w hc_ 90 rfl) (o_w hc_ 94 rfl) rfl rfl)) ?_
          refine AllT.cons (t_and (o_t 88 rfl) (fun hc2_ => (o_w hc2_ 95 rfl)) rfl rfl) ?_
          refine AllT.cons (t_move (o_t 96 rfl) rfl rfl) ?_
          refine AllT.cons (t_g1 rfl rfl rfl (fun hc_ => t_load ty24 (o_t 5 rfl) rfl rfl)) ?_
          refine AllT.cons (t_g1 rfl rfl rfl (fun hc_ => t_loadb ty24 (o_t 14 rfl) rfl rfl)) ?_
          refine AllT.cons (t_g1 rfl rfl rfl (fun hc_ => t_call (class_Both_ok (h30 hc_)) (xs := [.tmp 98, .tmp 99]) (.cons (o_w hc_ 98 rfl) (.cons (o_w hc_ 99 rfl) .nil)) rfl rfl)) ?_
          refine AllT.cons (t_g1 rfl rfl rfl (fun hc_ => t_load ty24 (o_t 5 rfl) rfl rfl)) ?_
          refine AllT.cons (t_g1 rfl rfl rfl (fun hc_ => t_eqv eq24 (o_w hc_ 100 rfl) (o_w hc_ 101 rfl) rfl rfl)) ?_
          refine AllT.cons (t_and (o_t 97 rfl) (fun hc2_ => (o_w hc2_ 102 rfl)) rfl rfl) ?_
          refine AllT.cons (t_move (o_t 103 rfl) rfl rfl) ?_
          refine AllT.cons (t_g1 rfl rfl rfl (fun hc_ => t_load ty24 (o_t 5 rfl) rfl rfl)) ?_
          refine AllT.cons (t_g1 rfl rfl rfl (fun hc_ => t_call (class_Add_ok (h32 hc_)) (xs := [.tmp 105, .const (.slice none 0 0)]) (.cons (o_w hc_ 105 rfl) (.cons o_nilr .nil)) rfl rfl)) ?_
          refine AllT.cons (t_g1 rfl rfl rfl (fun hc_ => t_load ty24 (o_t 5 rfl) rfl rfl)) ?_
          refine AllT.cons (t_g1 rfl rfl rfl (fun hc_ => t_eqv eq24 (o_w hc_ 106 rfl) (o_w hc_ 107 rfl) rfl rfl)) ?_
          refine AllT.cons (h34 ▸ (t_and (o_t 104 rfl) (fun hc2_ => (o_w hc2_ 108 rfl)) rfl rfl)) ?_
          refine AllT.cons (t_move (o_t 109 rfl) rfl rfl) ?_
          refine AllT.cons (t_g1 rfl rfl rfl (fun hc_ => t_loadb ty24 (o_t 14 rfl) rfl rfl)) ?_
          refine AllT.cons (t_g1 rfl rfl rfl (fun hc_ => t_move (o_t 4 rfl) rfl rfl)) ?_
          refine AllT.cons (t_g1 rfl rfl rfl (fun hc_ => t_move (o_t 4 rfl) rfl rfl)) ?_
          refine AllT.cons (t_g1 rfl rfl rfl (fun hc_ => t_lit (xs := [.tmp 112, .tmp 113]) (.cons (o_w hc_ 112 rfl) (.cons (o_w hc_ 113 rfl) .nil)) Try.underlying40 ty5 rfl rfl (by decide) rfl rfl)) ?_
          refine AllT.cons (t_g1 rfl rfl rfl (fun hc_ => t_call (class_Add_ok (h36 hc_)) (xs := [.tmp 111, .tmp 114]) (.cons (o_w hc_ 111 rfl) (.cons (o_w hc_ 114 rfl) .nil)) rfl rfl)) ?_
          refine AllT.cons (t_g1 rfl rfl rfl (fun hc_ => t_loadb ty24 (o_t 14 rfl) rfl rfl)) ?_
          refine AllT.cons (t_g1 rfl rfl rfl (fun hc_ => t_eqv eq24 (o_w hc_ 115 rfl) (o_w hc_ 116 rfl) rfl rfl)) ?_
          refine AllT.cons (t_and (o_t 110 rfl) (fun hc2_ => (o_w hc2_ 117 rfl)) rfl rfl) ?_
          exact AllT.nil
        intro a s e_ hL
        refine st 10 (t_assign (o_t 118 rfl) rfl rfl) rfl rfl hL fun a s e_ hL => ?_
        refine en' ?_
        show K21 a s.w
        refine hK21 _ _ ?_
        subst h
        exact wp_ret (retq rfl hL rfl)
      refine cnd hL rfl (fun hb_ => ?_) (fun hb_ => ?_)
      · replace h := h.1 hb_
        refine rg ?_
        refine st 15 (t_assign (o_i (by decide)) rfl rfl) rfl rfl hL fun a s e_ hL => ?_
        refine en' ?_
        exact J20 0 a s (hL.keep (.cons (t := 4) rfl (fun _ h_ => h_.elim) (.cons (t := 5) rfl (fun _ h_ => h_.elim) (.cons (t := 14) rfl (fun _ _ h_ => h_) (.cons (t := 15) rfl (fun _ h_ => h_.elim) .nil))))) h
      · replace h := h.2 hb_
        refine wp_skip ?_
        exact J20 1 a s (hL.keep (.cons (t := 4) rfl (fun _ h_ => h_.elim) (.cons (t := 5) rfl (fun _ h_ => h_.elim) (.cons (t := 14) rfl (fun _ _ h_ => h_) (.cons (t := 15) rfl (fun _ h_ => h_.elim) .nil))))) h
    refine cnd hL rfl (fun hb_ => ?_) (fun hb_ => ?_)
    · replace h := h.1 hb_
      refine wp_seq_k fun K37 hK37 => ?_
      obtain ⟨r38, h39, h⟩ := h
      refine rg ?_
      refine st 21 (t_move (o_t 1 rfl) rfl rfl) rfl rfl hL fun a s e_ hL => ?_
      refine st 22 (t_move (o_t 3 rfl) rfl rfl) rfl rfl hL fun a s e_ hL => ?_
      refine st 23 (t_call (class_Of_ok h39) (xs := [.tmp 21, .tmp 22]) (.cons (o_t 21 rfl) (.cons (o_t 22 rfl) .nil)) rfl rfl) rfl rfl hL fun a s e_ hL => ?_
      refine st_alloc En.cls (z := (0#256)) 11 hL tyz24 rfl rfl rfl rfl fun a s g40 hg_ hL => ?_
      refine st_stb (L' := [(1, (Pd.rep (En.int .u8) from_)), (2, (Pd.rep (En.int .u8) mid_)), (3, (Pd.rep (En.int .u8) to_)), (4, (Pd.rep (En.int .u8) c_)), (5, (Pd.ptr En.cls a_))]) 11 hL rfl (o_t 23 rfl) ty24 rfl rfl rfl (.cons (t := 1) rfl (fun _ h_ => h_.elim) (.cons (t := 2) rfl (fun _ h_ => h_.elim) (.cons (t := 3) rfl (fun _ h_ => h_.elim) (.cons (t := 4) rfl (fun _ h_ => h_.elim) (.cons (t := 5) rfl (fun _ h_ => h_.elim) .nil))))) fun s hL => ?_
      refine en' ?_
      show K37 a s.w
      refine hK37 _ _ ?_
      refine wp_seq_k fun K41 hK41 => ?_
      obtain ⟨r42, h43, h⟩ := h
      refine rg ?_
      refine st 25 (t_loadb ty24 (o_t 11 rfl) rfl rfl) rfl rfl hL fun a s e_ hL => ?_
      refine st 26 (t_call ((class_Least_ok h43).tup) (xs := [.tmp 25]) (.cons (o_t 25 rfl) .nil) rfl rfl) rfl rfl hL fun a s e_ hL => ?_
      refine st 24 (t_move (o_t 26 rfl) rfl rfl) rfl rfl hL fun a s e_ hL => ?_
      refine st 27 (t_ext0 (o_t 24 rfl) rfl rfl) rfl rfl hL fun a s e_ hL => ?_
      refine st 28 (t_ext1 (o_t 24 rfl) rfl rfl) rfl rfl hL fun a s e_ hL => ?_
      refine st 12 (t_assign (o_t 27 rfl) rfl rfl) rfl rfl hL fun a s e_ hL => ?_
      refine st 13 (t_assign (o_t 28 rfl) rfl rfl) rfl rfl hL fun a s e_ hL => ?_
      refine en' ?_
      show K41 a s.w
      refine hK41 _ _ ?_
      refine wp_seq_k fun K44 hK44 => ?_
      refine wp_seq_k fun K45 hK45 => ?_
      obtain ⟨r46, h47, h48, h49, b50, h51, r52, h53, h⟩ := h
      refine rg ?_
      refine st 29 (t_loadb ty24 (o_t 11 rfl) rfl rfl) rfl rfl hL fun a s e_ hL => ?_
      refine st 30 (t_call (class_Count_ok h47) (xs := [.tmp 29]) (.cons (o_t 29 rfl) .nil) rfl rfl) rfl rfl hL fun a s e_ hL => ?_
      refine st 31 (t_move (o_t 3 rfl) rfl rfl) rfl rfl hL fun a s e_ hL => ?_
      refine st 32 (t_up (o_t 31 rfl) (by decide) Try.underlying5 Try.underlying3 rfl rfl) rfl rfl hL fun a s e_ hL => ?_
      refine st 33 (t_move (o_t 1 rfl) rfl rfl) rfl rfl hL fun a s e_ hL => ?_
      refine st 34 (t_up (o_t 33 rfl) (by decide) Try.underlying5 Try.underlying3 rfl rfl) rfl rfl hL fun a s e_ hL => ?_
      refine st 35 (t_sub (o_t 32 rfl) (o_t 34 rfl) h48 rfl rfl) rfl rfl hL fun a s e_ hL => ?_
      refine st 36 (t_add (o_t 35 rfl) (o_i (by decide)) h49 rfl rfl) rfl rfl hL fun a s e_ hL => ?_
      refine st 37 (t_nei (o_t 30 rfl) (o_t 36 rfl) rfl rfl) rfl rfl hL fun a s e_ hL => ?_
      refine st 38 (t_move (o_t 37 rfl) rfl rfl) rfl rfl hL fun a s e_ hL => ?_
      refine st 39 (t_g1 rfl rfl rfl (fun hc_ => t_move (o_t 13 rfl) rfl rfl)) rfl rfl hL fun a s e_ hL => ?_
      refine st 40 (t_g1 rfl rfl rfl (fun hc_ => t_not (o_w hc_ 39 rfl) rfl rfl)) rfl rfl hL fun a s e_ hL => ?_
      refine st 41 (t_or (o_t 38 rfl) (fun hc2_ => (o_w hc2_ 40 rfl)) rfl rfl) rfl rfl hL fun a s e_ hL => ?_
      refine st 42 (t_move (o_t 41 rfl) rfl rfl) rfl rfl hL fun a s e_ hL => ?_
      refine st 43 (t_g1 rfl rfl rfl (fun hc_ => t_move (o_t 12 rfl) rfl rfl)) rfl rfl hL fun a s e_ hL => ?_
      refine st 44 (t_g1 rfl rfl rfl (fun hc_ => t_move (o_t 1 rfl) rfl rfl)) rfl rfl hL fun a s e_ hL => ?_
      refine st 45 (t_g1 rfl rfl rfl (fun hc_ => t_nei (o_w hc_ 43 rfl) (o_w hc_ 44 rfl) rfl rfl)) rfl rfl hL fun a s e_ hL => ?_
      refine st 46 (h51 ▸ (t_or (o_t 42 rfl) (fun hc2_ => (o_w hc2_ 45 rfl)) rfl rfl)) rfl rfl hL fun a s e_ hL => ?_
      refine st 47 (t_move (o_t 46 rfl) rfl rfl) rfl rfl hL fun a s e_ hL => ?_
      refine st 48 (t_g1 rfl rfl rfl (fun hc_ => t_loadb ty24 (o_t 11 rfl) rfl rfl)) rfl rfl hL fun a s e_ hL => ?_
      refine st 49 (t_g1 rfl rfl rfl (fun hc_ => t_move (o_t 3 rfl) rfl rfl)) rfl rfl hL fun a s e_ hL => ?_
      refine st 50 (t_g1 rfl rfl rfl (fun hc_ => t_call (class_Has_ok (h53 hc_)) (xs := [.tmp 48, .tmp 49]) (.cons (o_w hc_ 48 rfl) (.cons (o_w hc_ 49 rfl) .nil)) rfl rfl)) rfl rfl hL fun a s e_ hL => ?_
      refine st 51 (t_g1 rfl rfl rfl (fun hc_ => t_not (o_w hc_ 50 rfl) rfl rfl)) rfl rfl hL fun a s e_ hL => ?_
      refine st 52 (t_or (o_t 47 rfl) (fun hc2_ => (o_w hc2_ 51 rfl)) rfl rfl) rfl rfl hL fun a s e_ hL => ?_
      refine en' ?_
      show K45 a s.w
      refine hK45 _ _ ?_
      refine cnd hL rfl (fun hb_ => ?_) (fun hb_ => ?_)
      · replace h := h.1 hb_
        refine wp_seq_k fun K54 hK54 => ?_
        refine rg ?_
        refine st 10 (t_assign o_b rfl rfl) rfl rfl hL fun a s e_ hL => ?_
        refine en' ?_
        show K54 a s.w
        refine hK54 _ _ ?_
        subst h
        exact wp_ret (retq rfl hL rfl)
      · replace h := h.2 hb_
        refine wp_skip ?_
        show K44 a s.w
        refine hK44 _ _ ?_
        refine wp_seq_k fun K55 hK55 => ?_
        obtain ⟨r56, h57, r58, h59, r60, h61, b62, h63, h⟩ := h
        refine rda follows 20 [(Pd.rep (En.int .u8) mid_), (Pd.rep (En.int .u8) from_), (Pd.rep En.bool (decide (from_ ≤ mid_))), (Pd.rep En.bool (decide (from_ ≤ mid_))), (Pd.when ((decide (from_ ≤ mid_)) = true) (Pd.rep (En.int .u8) mid_)), (Pd.when ((decide (from_ ≤ mid_)) = true) (Pd.rep (En.int .u8) to_)), (Pd.when ((decide (from_ ≤ mid_)) = true) (Pd.rep En.bool (decide (mid_ < to_)))), (Pd.rep En.bool ((decide (from_ ≤ mid_)) && (decide (mid_ < to_)))), (Pd.rep En.bool ((decide (from_ ≤ mid_)) && (decide (mid_ < to_)))), (Pd.when ((((decide (from_ ≤ mid_)) && (decide (mid_ < to_)))) = true) (Pd.rep (En.int .u8) from_)), (Pd.when ((((decide (from_ ≤ mid_)) && (decide (mid_ < to_)))) = true) (Pd.rep (En.int .u8) mid_)), (Pd.when ((((decide (from_ ≤ mid_)) && (decide (mid_ < to_)))) = true) (Pd.rep En.cls r56)), (Pd.when ((((decide (from_ ≤ mid_)) && (decide (mid_ < to_)))) = true) (Pd.rep (En.int .u8) mid_)), (Pd.when ((((decide (from_ ≤ mid_)) && (decide (mid_ < to_)))) = true) (Pd.rep (En.int .u8) (IntKind.wrap .u8 (mid_ + 1)))), (Pd.when ((((decide (from_ ≤ mid_)) && (decide (mid_ < to_)))) = true) (Pd.rep (En.int .u8) to_)), (Pd.when ((((decide (from_ ≤ mid_)) && (decide (mid_ < to_)))) = true) (Pd.rep En.cls r58)), (Pd.when ((((decide (from_ ≤ mid_)) && (decide (mid_ < to_)))) = true) (Pd.rep En.cls r60)), (Pd.when ((((decide (from_ ≤ mid_)) && (decide (mid_ < to_)))) = true) (Pd.rep En.cls r38)), (Pd.when ((((decide (from_ ≤ mid_)) && (decide (mid_ < to_)))) = true) (Pd.rep En.bool (r60 != r38))), (Pd.rep En.bool b62)] hL (by kernel_rfl) rfl rfl ?_ ?_
        · refine AllT.cons (t_move (o_t 2 rfl) rfl rfl) ?_
          refine AllT.cons (t_move (o_t 1 rfl) rfl rfl) ?_
          refine AllT.cons (t_geq (o_t 53 rfl) (o_t 54 rfl) rfl rfl) ?_
          refine AllT.cons (t_move (o_t 55 rfl) rfl rfl) ?_
          refine AllT.cons (t_g1 rfl rfl rfl (fun hc_ => t_move (o_t 2 rfl) rfl rfl)) ?_
          refine AllT.cons (t_g1 rfl rfl rfl (fun hc_ => t_move (o_t 3 rfl) rfl rfl)) ?_
          refine AllT.cons (t_g1 rfl rfl rfl (fun hc_ => t_lss (o_w hc_ 57 rfl) (o_w hc_ 58 rfl) rfl rfl)) ?_
          refine AllT.cons (t_and (o_t 56 rfl) (fun hc2_ => (o_w hc2_ 59 rfl)) rfl rfl) ?_
          refine AllT.cons (t_move (o_t 60 rfl) rfl rfl) ?_
          refine AllT.cons (t_g1 rfl rfl rfl (fun hc_ => t_move (o_t 1 rfl) rfl rfl)) ?_
          refine AllT.cons (t_g1 rfl rfl rfl (fun hc_ => t_move (o_t 2 rfl) rfl rfl)) ?_
          refine AllT.cons (t_g1 rfl rfl rfl (fun hc_ => t_call (class_Of_ok (h57 hc_)) (xs := [.tmp 62, .tmp 63]) (.cons (o_w hc_ 62 rfl) (.cons (o_w hc_ 63 rfl) .nil)) rfl rfl)) ?_
          refine AllT.cons (t_g1 rfl rfl rfl (fun hc_ => t_move (o_t 2 rfl) rfl rfl)) ?_
          refine AllT.cons (t_g1 rfl rfl rfl (fun hc_ => t_addw (o_w hc_ 65 rfl) (o_i (by decide)) rfl rfl)) ?_
          refine AllT.cons (t_g1 rfl rfl rfl (fun hc_ => t_move (o_t 3 rfl) rfl rfl)) ?_
          refine AllT.cons (t_g1 rfl rfl rfl (fun hc_ => t_call (class_Of_ok (h59 hc_)) (xs := [.tmp 66, .tmp 67]) (.cons (o_w hc_ 66 rfl) (.cons (o_w hc_ 67 rfl) .nil)) rfl rfl)) ?_
          refine AllT.cons (t_g1 rfl rfl rfl (fun hc_ => t_call (class_Join_ok (h61 hc_)) (xs := [.tmp 64, .tmp 68]) (.cons (o_w hc_ 64 rfl) (.cons (o_w hc_ 68 rfl) .nil)) rfl rfl)) ?_
          refine AllT.cons (t_g1 rfl rfl rfl (fun hc_ => t_loadb ty24 (o_t 11 rfl) rfl rfl)) ?_
          refine AllT.cons (t_g1 rfl rfl rfl (fun hc_ => t_nev eq24 (o_w hc_ 69 rfl) (o_w hc_ 70 rfl) rfl rfl)) ?_
          refine AllT.cons (h63 ▸ (t_and (o_t 61 rfl) (fun hc2_ => (o_w hc2_ 71 rfl)) rfl rfl)) ?_
          exact AllT.nil
        intro a s e_ hL
        refine en' ?_
        show K55 a s.w
        refine hK55 _ _ ?_
        refine cnd hL rfl (fun hb_ => ?_) (fun hb_ => ?_)
        · replace h := h.1 hb_
          refine wp_seq_k fun K64 hK64 => ?_
          refine rg ?_
          refine st 10 (t_assign o_b rfl rfl) rfl rfl hL fun a s e_ hL => ?_
          refine en' ?_
          show K64 a s.w
          refine hK64 _ _ ?_
          subst h
          exact wp_ret (retq rfl hL rfl)
        · replace h := h.2 hb_
          refine wp_skip ?_
          exact J9 a s (hL.keep (.cons (t := 4) rfl (fun _ h_ => h_.elim) (.cons (t := 5) rfl (fun _ h_ => h_.elim) .nil))) h
    · replace h := h.2 hb_
      refine wp_seq_k fun K65 hK65 => ?_
      obtain ⟨r66, h67, r68, h69, h⟩ := h
      refine rg ?_
      refine st 73 (t_move (o_t 1 rfl) rfl rfl) rfl rfl hL fun a s e_ hL => ?_
      refine st 74 (t_move (o_t 3 rfl) rfl rfl) rfl rfl hL fun a s e_ hL => ?_
      refine st 75 (t_call (class_Of_ok h67) (xs := [.tmp 73, .tmp 74]) (.cons (o_t 73 rfl) (.cons (o_t 74 rfl) .nil)) rfl rfl) rfl rfl hL fun a s e_ hL => ?_
      refine st 76 (t_call (class_Count_ok h69) (xs := [.tmp 75]) (.cons (o_t 75 rfl) .nil) rfl rfl) rfl rfl hL fun a s e_ hL => ?_
      refine st 77 (t_nei (o_t 76 rfl) (o_i (by decide)) rfl rfl) rfl rfl hL fun a s e_ hL => ?_
      refine en' ?_
      show K65 a s.w
      refine hK65 _ _ ?_
      refine cnd hL rfl (fun hb_ => ?_) (fun hb_ => ?_)
      · replace h := h.1 hb_
        refine wp_seq_k fun K70 hK70 => ?_
        refine rg ?_
        refine st 10 (t_assign o_b rfl rfl) rfl rfl hL fun a s e_ hL => ?_
        refine en' ?_
        show K70 a s.w
        refine hK70 _ _ ?_
        subst h
        exact wp_ret (retq rfl hL rfl)
      · replace h := h.2 hb_
        refine wp_skip ?_
        exact J9 a s (hL.keep (.cons (t := 4) rfl (fun _ h_ => h_.elim) (.cons (t := 5) rfl (fun _ h_ => h_.elim) .nil))) h

theorem law01_ClassLeast_ok {a_ : Cl} {r_ : Bool} (h : law01_ClassLeast a_ r_) : Fn Try.prog 6 [(Pd.rep En.cls a_)] (Rq (Pd.rep En.bool r_)) := by
  unfold law01_ClassLeast at h
  refine fn_of Try.func6 rfl Try.ntmps6 (by rfl) (by simp) fun s0 a hL => ?_
  refine wp_seq_k fun K1 hK1 => ?_
  refine rg ?_
  refine st 1 (t_box (o_t 0 rfl) rfl rfl) rfl rfl hL fun a s e_ hL => ?_
  refine st 2 (t_assign o_b rfl rfl) rfl rfl hL fun a s e_ hL => ?_
  refine en' ?_
  show K1 a s.w
  refine hK1 _ _ ?_
  refine wp_seq_k fun K2 hK2 => ?_
  refine wp_seq_k fun K3 hK3 => ?_
  obtain ⟨r4, h5, h⟩ := h
  refine rg ?_
  refine st 9 (t_call (law01_awake_ok h5) (xs := []) .nil rfl rfl) rfl rfl hL fun a s e_ hL => ?_
  refine st 10 (t_not (o_t 9 rfl) rfl rfl) rfl rfl hL fun a s e_ hL => ?_
  refine en' ?_
  show K3 a s.w
  refine hK3 _ _ ?_
  refine cnd hL rfl (fun hb_ => ?_) (fun hb_ => ?_)
  · replace h := h.1 hb_
    refine wp_seq_k fun K6 hK6 => ?_
    refine rg ?_
    refine st 2 (t_assign o_b rfl rfl) rfl rfl hL fun a s e_ hL => ?_
    refine en' ?_
    show K6 a s.w
    refine hK6 _ _ ?_
    subst h
    exact wp_ret (retq rfl hL rfl)
  · replace h := h.2 hb_
    refine wp_skip ?_
    show K2 a s.w
    refine hK2 _ _ ?_
    refine wp_seq_k fun K7 hK7 => ?_
    refine rg ?_
    refine st 11 (t_load ty24 (o_t 1 rfl) rfl rfl) rfl rfl hL fun a s e_ hL => ?_
    refine st_alloc En.cls (z := (0#256)) 3 hL tyz24 rfl rfl rfl rfl fun a s g8 hg_ hL => ?_
    refine st_stb (L' := [(1, (Pd.ptr En.cls a_))]) 3 hL rfl (o_t 11 rfl) ty24 rfl rfl rfl (.cons (t := 1) rfl (fun _ h_ => h_.elim) .nil) fun s hL => ?_
    refine en' ?_
    show K7 a s.w
    refine hK7 _ _ ?_
    refine wp_seq_k fun K9 hK9 => ?_
    refine rg ?_
    refine st 4 (t_assign (o_i (by decide)) rfl rfl) rfl rfl hL fun a s e_ hL => ?_
    refine en' ?_
    show K9 a s.w
    refine hK9 _ _ ?_
    refine wp_seq_k fun K10 hK10 => ?_
    refine rg ?_
    refine st 5 (t_assign (o_i (by decide)) rfl rfl) rfl rfl hL fun a s e_ hL => ?_
    refine en' ?_
    show K10 a s.w
    refine hK10 _ _ ?_
    refine wp_seq_k fun K11 hK11 => ?_
    refine wp_seq_k fun K12 hK12 => ?_
    refine rg ?_
    refine st 6 (t_assign (o_i (by decide)) rfl rfl) rfl rfl hL fun a s e_ hL => ?_
    refine en' ?_
    show K12 a s.w
    refine hK12 _ _ ?_
    refine wp_block ?_
    have J15 : ∀ (left13 : Cl) (n14 : Int) (a : Act) (s : St), Has N0 52 s0 a s [(1, (Pd.ptr En.cls a_)), (3, (Pd.box En.cls s0.w.heap.size g8 left13)), (5, (Pd.rep (En.int .i64) n14))] → ((law01_ClassLeast.j1 a_ r_) left13 n14) → K11 a s.w := by
      intro left13 n14 a s hL h
      unfold law01_ClassLeast.j1 at h
      show K11 a s.w
      refine hK11 _ _ ?_
      refine wp_seq_k fun K16 hK16 => ?_
      obtain ⟨r17, h18, r19, h20, h⟩ := h
      refine rg ?_
      refine st 43 (t_move (o_t 5 rfl) rfl rfl) rfl rfl hL fun a s e_ hL => ?_
      refine st 44 (t_load ty24 (o_t 1 rfl) rfl rfl) rfl rfl hL fun a s e_ hL => ?_
      refine st 45 (t_call (class_Count_ok h18) (xs := [.tmp 44]) (.cons (o_t 44 rfl) .nil) rfl rfl) rfl rfl hL fun a s e_ hL => ?_
      refine st 46 (t_eqi (o_t 43 rfl) (o_t 45 rfl) rfl rfl) rfl rfl hL fun a s e_ hL => ?_
      refine st 47 (t_move (o_t 46 rfl) rfl rfl) rfl rfl hL fun a s e_ hL => ?_
      refine st 48 (t_g1 rfl rfl rfl (fun hc_ => t_loadb ty24 (o_t 3 rfl) rfl rfl)) rfl rfl hL fun a s e_ hL => ?_
      refine st 49 (t_g1 rfl rfl rfl (fun hc_ => t_call (class_Count_ok (h20 hc_)) (xs := [.tmp 48]) (.cons (o_w hc_ 48 rfl) .nil) rfl rfl)) rfl rfl hL fun a s e_ hL => ?_
      refine st 50 (t_g1 rfl rfl rfl (fun hc_ => t_eqi (o_w hc_ 49 rfl) (o_i (by decide)) rfl rfl)) rfl rfl hL fun a s e_ hL => ?_
      refine st 51 (t_and (o_t 47 rfl) (fun hc2_ => (o_w hc2_ 50 rfl)) rfl rfl) rfl rfl hL fun a s e_ hL => ?_
      refine st 2 (t_assign (o_t 51 rfl) rfl rfl) rfl rfl hL fun a s e_ hL => ?_
      refine en' ?_
      show K16 a s.w
      refine hK16 _ _ ?_
      subst h
      exact wp_ret (retq rfl hL rfl)
    obtain ⟨k25, h⟩ := h
    refine lpg (fun k26 a s => ∃ (left21 : Cl) (last22 : Int) (n23 : Int) (i24 : Int), Has N0 52 s0 a s [(1, (Pd.ptr En.cls a_)), (3, (Pd.box En.cls s0.w.heap.size g8 left21)), (4, (Pd.rep (En.int .i64) last22)), (5, (Pd.rep (En.int .i64) n23)), (6, (Pd.rep (En.int .i64) i24))] ∧ law01_ClassLeast.l1 a_ r_ (law01_ClassLeast.j1 a_ r_) k26 left21 last22 n23 i24) k25 ⟨a_, (-1), 0, 0, hL.keep (.cons (t := 1) rfl (fun _ h_ => h_.elim) (.cons (t := 3) rfl (fun _ _ h_ => h_) (.cons (t := 4) rfl (fun _ h_ => h_.elim) (.cons (t := 5) rfl (fun _ h_ => h_.elim) (.cons (t := 6) rfl (fun _ h_ => h_.elim) .nil))))), h⟩ ?_
    rintro k26 a s ⟨left21, last22, n23, i24, hL, h⟩ KL27 hKL27
    cases k26 with
    | zero => exact h.elim
    | succ k26 =>
    unfold law01_ClassLeast.l1 at h
    refine wp_seq_k fun K28 hK28 => ?_
    refine wp_seq_k fun K29 hK29 => ?_
    refine rg ?_
    refine st 12 (t_move (o_t 6 rfl) rfl rfl) rfl rfl hL fun a s e_ hL => ?_
    refine st 13 (t_lss (o_t 12 rfl) (o_i (by decide)) rfl rfl) rfl rfl hL fun a s e_ hL => ?_
    refine en' ?_
    show K29 a s.w
    refine hK29 _ _ ?_
    refine cnd hL rfl (fun hb_ => ?_) (fun hb_ => ?_)
    · replace h := h.1 hb_
      refine wp_skip ?_
      show K28 a s.w
      refine hK28 _ _ ?_
      refine wp_seq_k fun K30 hK30 => ?_
      refine wp_block ?_
      refine wp_seq_k fun K31 hK31 => ?_
      obtain ⟨r32, h33, h⟩ := h
      refine rg ?_
      refine st 17 (t_loadb ty24 (o_t 3 rfl) rfl rfl) rfl rfl hL fun a s e_ hL => ?_
      refine st 18 (t_call ((class_Least_ok h33).tup) (xs := [.tmp 17]) (.cons (o_t 17 rfl) .nil) rfl rfl) rfl rfl hL fun a s e_ hL => ?_
      refine st 16 (t_move (o_t 18 rfl) rfl rfl) rfl rfl hL fun a s e_ hL => ?_
      refine st 19 (t_ext0 (o_t 16 rfl) rfl rfl) rfl rfl hL fun a s e_ hL => ?_
      refine st 20 (t_ext1 (o_t 16 rfl) rfl rfl) rfl rfl hL fun a s e_ hL => ?_
      refine st 7 (t_assign (o_t 19 rfl) rfl rfl) rfl rfl hL fun a s e_ hL => ?_
      refine st 8 (t_assign (o_t 20 rfl) rfl rfl) rfl rfl hL fun a s e_ hL => ?_
      refine en' ?_
      show K31 a s.w
      refine hK31 _ _ ?_
      refine wp_seq_k fun K34 hK34 => ?_
      refine wp_seq_k fun K35 hK35 => ?_
      refine rg ?_
      refine st 21 (t_move (o_t 8 rfl) rfl rfl) rfl rfl hL fun a s e_ hL => ?_
      refine st 22 (t_not (o_t 21 rfl) rfl rfl) rfl rfl hL fun a s e_ hL => ?_
      refine en' ?_
      show K35 a s.w
      refine hK35 _ _ ?_
      refine cnd hL rfl (fun hb_ => ?_) (fun hb_ => ?_)
      · replace h := h.1 hb_
        refine wp_exit ?_
        exact J15 left21 n23 a s (hL.keep (.cons (t := 1) rfl (fun _ h_ => h_.elim) (.cons (t := 3) rfl (fun _ _ h_ => h_) (.cons (t := 5) rfl (fun _ h_ => h_.elim) .nil)))) h
      · replace h := h.2 hb_
        refine wp_skip ?_
        show K34 a s.w
        refine hK34 _ _ ?_
        refine wp_seq_k fun K36 hK36 => ?_
        refine wp_seq_k fun K37 hK37 => ?_
        obtain ⟨r38, h39, h⟩ := h
        refine rg ?_
        refine st 23 (t_move (o_t 7 rfl) rfl rfl) rfl rfl hL fun a s e_ hL => ?_
        refine st 24 (t_up (o_t 23 rfl) (by decide) Try.underlying5 Try.underlying3 rfl rfl) rfl rfl hL fun a s e_ hL => ?_
        refine st 25 (t_move (o_t 4 rfl) rfl rfl) rfl rfl hL fun a s e_ hL => ?_
        refine st 26 (t_leq (o_t 24 rfl) (o_t 25 rfl) rfl rfl) rfl rfl hL fun a s e_ hL => ?_
        refine st 27 (t_move (o_t 26 rfl) rfl rfl) rfl rfl hL fun a s e_ hL => ?_
        refine st 28 (t_g1 rfl rfl rfl (fun hc_ => t_load ty24 (o_t 1 rfl) rfl rfl)) rfl rfl hL fun a s e_ hL => ?_
        refine st 29 (t_g1 rfl rfl rfl (fun hc_ => t_move (o_t 7 rfl) rfl rfl)) rfl rfl hL fun a s e_ hL => ?_
        refine st 30 (t_g1 rfl rfl rfl (fun hc_ => t_call (class_Has_ok (h39 hc_)) (xs := [.tmp 28, .tmp 29]) (.cons (o_w hc_ 28 rfl) (.cons (o_w hc_ 29 rfl) .nil)) rfl rfl)) rfl rfl hL fun a s e_ hL => ?_
        refine st 31 (t_g1 rfl rfl rfl (fun hc_ => t_not (o_w hc_ 30 rfl) rfl rfl)) rfl rfl hL fun a s e_ hL => ?_
        refine st 32 (t_or (o_t 27 rfl) (fun hc2_ => (o_w hc2_ 31 rfl)) rfl rfl) rfl rfl hL fun a s e_ hL => ?_
        refine en' ?_
        show K37 a s.w
        refine hK37 _ _ ?_
        refine cnd hL rfl (fun hb_ => ?_) (fun hb_ => ?_)
        · replace h := h.1 hb_
          refine wp_seq_k fun K40 hK40 => ?_
          refine rg ?_
          refine st 2 (t_assign o_b rfl rfl) rfl rfl hL fun a s e_ hL => ?_
          refine en' ?_
          show K40 a s.w
          refine hK40 _ _ ?_
          subst h
          exact wp_ret (retq rfl hL rfl)
        · replace h := h.2 hb_
          refine wp_skip ?_
          show K36 a s.w
          refine hK36 _ _ ?_
          refine wp_seq_k fun K41 hK41 => ?_
          refine rg ?_
          refine st 33 (t_move (o_t 7 rfl) rfl rfl) rfl rfl hL fun a s e_ hL => ?_
          refine st 34 (t_up (o_t 33 rfl) (by decide) Try.underlying5 Try.underlying3 rfl rfl) rfl rfl hL fun a s e_ hL => ?_
          refine st 4 (t_assign (o_t 34 rfl) rfl rfl) rfl rfl hL fun a s e_ hL => ?_
          refine en' ?_
          show K41 a s.w
          refine hK41 _ _ ?_
          refine wp_seq_k fun K42 hK42 => ?_
          obtain ⟨h43, h⟩ := h
          refine rg ?_
          refine st 35 (t_move (o_t 5 rfl) rfl rfl) rfl rfl hL fun a s e_ hL => ?_
          refine st 36 (t_add (o_t 35 rfl) (o_i (by decide)) h43 rfl rfl) rfl rfl hL fun a s e_ hL => ?_
          refine st 5 (t_assign (o_t 36 rfl) rfl rfl) rfl rfl hL fun a s e_ hL => ?_
          refine en' ?_
          show K42 a s.w
          refine hK42 _ _ ?_
          obtain ⟨r44, h45, r46, h47, r48, h49, h⟩ := h
          refine rda follows 6 [(Pd.rep En.cls left21), (Pd.rep (En.int .u8) r32.1), (Pd.rep (En.int .u8) r32.1), (Pd.rep En.cls r44), (Pd.rep En.cls r46), (Pd.rep En.cls r48)] hL (by kernel_rfl) rfl rfl ?_ ?_
          · refine AllT.cons (t_loadb ty24 (o_t 3 rfl) rfl rfl) ?_
            refine AllT.cons (t_move (o_t 7 rfl) rfl rfl) ?_
            refine AllT.cons (t_move (o_t 7 rfl) rfl rfl) ?_
            refine AllT.cons (t_call (class_Of_ok h45) (xs := [.tmp 38, .tmp 39]) (.cons (o_t 38 rfl) (.cons (o_t 39 rfl) .nil)) rfl rfl) ?_
            refine AllT.cons (t_call (class_Not_ok h47) (xs := [.tmp 40]) (.cons (o_t 40 rfl) .nil) rfl rfl) ?_
            refine AllT.cons (t_call (class_Both_ok h49) (xs := [.tmp 37, .tmp 41]) (.cons (o_t 37 rfl) (.cons (o_t 41 rfl) .nil)) rfl rfl) ?_
            exact AllT.nil
          intro a s e_ hL
          refine st_stb (L' := [(1, (Pd.ptr En.cls a_)), (4, (Pd.rep (En.int .i64) r32.1)), (5, (Pd.rep (En.int .i64) (n23 + 1))), (6, (Pd.rep (En.int .i64) i24))]) 3 hL rfl (o_t 42 rfl) ty24 rfl rfl rfl (.cons (t := 1) rfl (fun _ h_ => h_.elim) (.cons (t := 4) rfl (fun _ h_ => h_.elim) (.cons (t := 5) rfl (fun _ h_ => h_.elim) (.cons (t := 6) rfl (fun _ h_ => h_.elim) .nil)))) fun s hL => ?_
          refine en' ?_
          show K30 a s.w
          refine hK30 _ _ ?_
          obtain ⟨h50, h⟩ := h
          refine rg ?_
          refine st 14 (t_move (o_t 6 rfl) rfl rfl) rfl rfl hL fun a s e_ hL => ?_
          refine st 15 (t_add (o_t 14 rfl) (o_i (by decide)) h50 rfl rfl) rfl rfl hL fun a s e_ hL => ?_
          refine st 6 (t_assign (o_t 15 rfl) rfl rfl) rfl rfl hL fun a s e_ hL => ?_
          refine en' ?_
          exact hKL27 k26 a s (Nat.lt_succ_self _) ⟨r48, r32.1, (n23 + 1), (i24 + 1), hL.keep (.cons (t := 1) rfl (fun _ h_ => h_.elim) (.cons (t := 3) rfl (fun _ _ h_ => h_) (.cons (t := 4) rfl (fun _ h_ => h_.elim) (.cons (t := 5) rfl (fun _ h_ => h_.elim) (.cons (t := 6) rfl (fun _ h_ => h_.elim) .nil))))), h⟩
    · replace h := h.2 hb_
      refine wp_exit ?_
      exact J15 left21 n23 a s (hL.keep (.cons (t := 1) rfl (fun _ h_ => h_.elim) (.cons (t := 3) rfl (fun _ _ h_ => h_) (.cons (t := 5) rfl (fun _ h_ => h_.elim) .nil)))) h

theorem law01_ClassAdd_ok {a_ : Cl} {list_ : (List Int)} {r_ : Bool} (h : law01_ClassAdd a_ list_ r_) : Fn Try.prog 7 [(Pd.rep En.cls a_), (Pd.rep (En.slice (En.int .u8)) list_)] (Rq (Pd.rep En.bool r_)) := by
  unfold law01_ClassAdd at h
  refine fn_of Try.func7 rfl Try.ntmps7 (by rfl) (by simp) fun s0 a hL => ?_
  refine wp_seq_k fun K1 hK1 => ?_
  refine rg ?_
  refine st 2 (t_box (o_t 0 rfl) rfl rfl) rfl rfl hL fun a s e_ hL => ?_
  refine st 4 (t_assign o_b rfl rfl) rfl rfl hL fun a s e_ hL => ?_
  refine en' ?_
  show K1 a s.w
  refine hK1 _ _ ?_
  refine wp_seq_k fun K2 hK2 => ?_
  refine wp_seq_k fun K3 hK3 => ?_
  obtain ⟨r4, h5, h⟩ := h
  refine rg ?_
  refine st 13 (t_call (law01_awake_ok h5) (xs := []) .nil rfl rfl) rfl rfl hL fun a s e_ hL => ?_
  refine st 14 (t_not (o_t 13 rfl) rfl rfl) rfl rfl hL fun a s e_ hL => ?_
  refine st 15 (t_move (o_t 14 rfl) rfl rfl) rfl rfl hL fun a s e_ hL => ?_
  refine st 16 (t_g1 rfl rfl rfl (fun hc_ => t_move (o_t 1 rfl) rfl rfl)) rfl rfl hL fun a s e_ hL => ?_
  refine st 17 (t_g1 rfl rfl rfl (fun hc_ => t_len (o_w hc_ 16 rfl) Try.underlying40 rfl rfl)) rfl rfl hL fun a s e_ hL => ?_
  refine st 18 (t_g1 rfl rfl rfl (fun hc_ => t_gtr (o_w hc_ 17 rfl) (o_i (by decide)) rfl rfl)) rfl rfl hL fun a s e_ hL => ?_
  refine st 19 (t_or (o_t 15 rfl) (fun hc2_ => (o_w hc2_ 18 rfl)) rfl rfl) rfl rfl hL fun a s e_ hL => ?_
  refine en' ?_
  show K3 a s.w
  refine hK3 _ _ ?_
  refine cnd hL rfl (fun hb_ => ?_) (fun hb_ => ?_)
  · replace h := h.1 hb_
    refine wp_seq_k fun K6 hK6 => ?_
    obtain ⟨r7, h8, h⟩ := h
    refine rg ?_
    refine st 20 (t_call (law01_awake_ok h8) (xs := []) .nil rfl rfl) rfl rfl hL fun a s e_ hL => ?_
    refine st 4 (t_assign (o_t 20 rfl) rfl rfl) rfl rfl hL fun a s e_ hL => ?_
    refine en' ?_
    show K6 a s.w
    refine hK6 _ _ ?_
    subst h
    exact wp_ret (retq rfl hL rfl)
  · replace h := h.2 hb_
    refine wp_skip ?_
    show K2 a s.w
    refine hK2 _ _ ?_
    refine wp_seq_k fun K9 hK9 => ?_
    obtain ⟨r10, h11, h⟩ := h
    refine rg ?_
    refine st 21 (t_load ty24 (o_t 2 rfl) rfl rfl) rfl rfl hL fun a s e_ hL => ?_
    refine st 22 (t_move (o_t 1 rfl) rfl rfl) rfl rfl hL fun a s e_ hL => ?_
    refine st 23 (t_call (class_Add_ok h11) (xs := [.tmp 21, .tmp 22]) (.cons (o_t 21 rfl) (.cons (o_t 22 rfl) .nil)) rfl rfl) rfl rfl hL fun a s e_ hL => ?_
    refine st_alloc En.cls (z := (0#256)) 5 hL tyz24 rfl rfl rfl rfl fun a s g12 hg_ hL => ?_
    refine st_stb (L' := [(1, (Pd.rep (En.slice (En.int .u8)) list_)), (2, (Pd.ptr En.cls a_))]) 5 hL rfl (o_t 23 rfl) ty24 rfl rfl rfl (.cons (t := 1) rfl (fun _ h_ => h_.elim) (.cons (t := 2) rfl (fun _ h_ => h_.elim) .nil)) fun s hL => ?_
    refine en' ?_
    show K9 a s.w
    refine hK9 _ _ ?_
    refine wp_seq_k fun K13 hK13 => ?_
    refine rg ?_
    refine st 24 (t_load ty24 (o_t 2 rfl) rfl rfl) rfl rfl hL fun a s e_ hL => ?_
    have lt_d15 := hL.blt 5 rfl
    refine st_alloc En.cls (z := (0#256)) 6 hL tyz24 rfl rfl rfl rfl fun a s g14 hg_ hL => ?_
    have d15 : Dis (some g14) (some g12) := Dis.newg hg_ lt_d15
    refine st_stb (L' := [(1, (Pd.rep (En.slice (En.int .u8)) list_)), (2, (Pd.ptr En.cls a_)), (5, (Pd.box En.cls s0.w.heap.size g12 r10))]) 6 hL rfl (o_t 24 rfl) ty24 rfl rfl rfl (.cons (t := 1) rfl (fun _ h_ => h_.elim) (.cons (t := 2) rfl (fun _ h_ => h_.elim) (.cons (t := 5) rfl (Dis.bx (Dis.symm d15)) .nil))) fun s hL => ?_
    refine en' ?_
    show K13 a s.w
    refine hK13 _ _ ?_
    refine wp_seq_k fun K16 hK16 => ?_
    refine rg ?_
    refine st 25 (t_load ty24 (o_t 2 rfl) rfl rfl) rfl rfl hL fun a s e_ hL => ?_
    have lt_d19 := hL.blt 6 rfl
    have lt_d18 := hL.blt 5 rfl
    refine st_alloc En.cls (z := (0#256)) 7 hL tyz24 rfl rfl rfl rfl fun a s g17 hg_ hL => ?_
    have d18 : Dis (some g17) (some g12) := Dis.newg hg_ lt_d18
    have d19 : Dis (some g17) (some g14) := Dis.newg hg_ lt_d19
    refine st_stb (L' := [(1, (Pd.rep (En.slice (En.int .u8)) list_)), (2, (Pd.ptr En.cls a_)), (5, (Pd.box En.cls s0.w.heap.size g12 r10)), (6, (Pd.box En.cls s0.w.heap.size g14 a_))]) 7 hL rfl (o_t 25 rfl) ty24 rfl rfl rfl (.cons (t := 1) rfl (fun _ h_ => h_.elim) (.cons (t := 2) rfl (fun _ h_ => h_.elim) (.cons (t := 5) rfl (Dis.bx (Dis.symm d18)) (.cons (t := 6) rfl (Dis.bx (Dis.symm d19)) .nil)))) fun s hL => ?_
    refine en' ?_
    show K16 a s.w
    refine hK16 _ _ ?_
    refine wp_seq_k fun K20 hK20 => ?_
    refine wp_seq_k fun K21 hK21 => ?_
    obtain ⟨h22, h⟩ := h
    refine rg ?_
    refine st 26 (t_move (o_t 1 rfl) rfl rfl) rfl rfl hL fun a s e_ hL => ?_
    refine st 27 (t_len (o_t 26 rfl) Try.underlying40 rfl rfl) rfl rfl hL fun a s e_ hL => ?_
    refine st 28 (t_sub (o_t 27 rfl) (o_i (by decide)) h22 rfl rfl) rfl rfl hL fun a s e_ hL => ?_
    refine st 8 (t_assign (o_t 28 rfl) rfl rfl) rfl rfl hL fun a s e_ hL => ?_
    refine en' ?_
    show K21 a s.w
    refine hK21 _ _ ?_
    refine wp_block ?_
    have J25 : ∀ (back23 : Cl) (join24 : Cl) (a : Act) (s : St), Has N0 98 s0 a s [(1, (Pd.rep (En.slice (En.int .u8)) list_)), (2, (Pd.ptr En.cls a_)), (5, (Pd.box En.cls s0.w.heap.size g12 r10)), (6, (Pd.box En.cls s0.w.heap.size g14 back23)), (7, (Pd.box En.cls s0.w.heap.size g17 join24))] → Dis (some g12) (some g14) → Dis (some g12) (some g17) → Dis (some g14) (some g17) → ((law01_ClassAdd.j3 a_ list_ r_ r10) back23 join24) → K20 a s.w := by
      intro back23 join24 a s hL d26 d27 d28 h
      unfold law01_ClassAdd.j3 at h
      show K20 a s.w
      refine hK20 _ _ ?_
      refine wp_seq_k fun K29 hK29 => ?_
      refine rg ?_
      refine st 9 (t_assign (o_i (by decide)) rfl rfl) rfl rfl hL fun a s e_ hL => ?_
      refine en' ?_
      show K29 a s.w
      refine hK29 _ _ ?_
      refine wp_seq_k fun K30 hK30 => ?_
      refine wp_seq_k fun K31 hK31 => ?_
      refine rg ?_
      refine st 10 (t_assign (o_i (by decide)) rfl rfl) rfl rfl hL fun a s e_ hL => ?_
      refine en' ?_
      show K31 a s.w
      refine hK31 _ _ ?_
      refine wp_block ?_
      have J33 : ∀ (n32 : Int) (a : Act) (s : St), Has N0 98 s0 a s [(5, (Pd.box En.cls s0.w.heap.size g12 r10)), (6, (Pd.box En.cls s0.w.heap.size g14 back23)), (7, (Pd.box En.cls s0.w.heap.size g17 join24)), (9, (Pd.rep (En.int .i64) n32))] → Dis (some g12) (some g14) → Dis (some g12) (some g17) → Dis (some g14) (some g17) → ((law01_ClassAdd.j1 r_ r10 back23 join24) n32) → K30 a s.w := by
        intro n32 a s hL d34 d35 d36 h
        unfold law01_ClassAdd.j1 at h
        show K30 a s.w
        refine hK30 _ _ ?_
        refine wp_seq_k fun K37 hK37 => ?_
        obtain ⟨r38, h39, b40, h41, h⟩ := h
        refine rg ?_
        refine st 84 (t_loadb ty24 (o_t 6 rfl) rfl rfl) rfl rfl hL fun a s e_ hL => ?_
        refine st 85 (t_loadb ty24 (o_t 5 rfl) rfl rfl) rfl rfl hL fun a s e_ hL => ?_
        refine st 86 (t_eqv eq24 (o_t 84 rfl) (o_t 85 rfl) rfl rfl) rfl rfl hL fun a s e_ hL => ?_
        refine st 87 (t_move (o_t 86 rfl) rfl rfl) rfl rfl hL fun a s e_ hL => ?_
        refine st 88 (t_g1 rfl rfl rfl (fun hc_ => t_loadb ty24 (o_t 7 rfl) rfl rfl)) rfl rfl hL fun a s e_ hL => ?_
        refine st 89 (t_g1 rfl rfl rfl (fun hc_ => t_loadb ty24 (o_t 5 rfl) rfl rfl)) rfl rfl hL fun a s e_ hL => ?_
        refine st 90 (t_g1 rfl rfl rfl (fun hc_ => t_eqv eq24 (o_w hc_ 88 rfl) (o_w hc_ 89 rfl) rfl rfl)) rfl rfl hL fun a s e_ hL => ?_
        refine st 91 (t_and (o_t 87 rfl) (fun hc2_ => (o_w hc2_ 90 rfl)) rfl rfl) rfl rfl hL fun a s e_ hL => ?_
        refine st 92 (t_move (o_t 91 rfl) rfl rfl) rfl rfl hL fun a s e_ hL => ?_
        refine st 93 (t_g1 rfl rfl rfl (fun hc_ => t_loadb ty24 (o_t 5 rfl) rfl rfl)) rfl rfl hL fun a s e_ hL => ?_
        refine st 94 (t_g1 rfl rfl rfl (fun hc_ => t_call (class_Count_ok (h39 hc_)) (xs := [.tmp 93]) (.cons (o_w hc_ 93 rfl) .nil) rfl rfl)) rfl rfl hL fun a s e_ hL => ?_
        refine st 95 (t_g1 rfl rfl rfl (fun hc_ => t_move (o_t 9 rfl) rfl rfl)) rfl rfl hL fun a s e_ hL => ?_
        refine st 96 (t_g1 rfl rfl rfl (fun hc_ => t_eqi (o_w hc_ 94 rfl) (o_w hc_ 95 rfl) rfl rfl)) rfl rfl hL fun a s e_ hL => ?_
        refine st 97 (h41 ▸ (t_and (o_t 92 rfl) (fun hc2_ => (o_w hc2_ 96 rfl)) rfl rfl)) rfl rfl hL fun a s e_ hL => ?_
        refine st 4 (t_assign (o_t 97 rfl) rfl rfl) rfl rfl hL fun a s e_ hL => ?_
        refine en' ?_
        show K37 a s.w
        refine hK37 _ _ ?_
        subst h
        exact wp_ret (retq rfl hL rfl)
      obtain ⟨k44, h⟩ := h
      refine lpg (fun k45 a s => ∃ (n42 : Int) (c43 : Int), Has N0 98 s0 a s [(1, (Pd.rep (En.slice (En.int .u8)) list_)), (2, (Pd.ptr En.cls a_)), (5, (Pd.box En.cls s0.w.heap.size g12 r10)), (6, (Pd.box En.cls s0.w.heap.size g14 back23)), (7, (Pd.box En.cls s0.w.heap.size g17 join24)), (9, (Pd.rep (En.int .i64) n42)), (10, (Pd.rep (En.int .i64) c43))] ∧ Dis (some g12) (some g14) ∧ Dis (some g12) (some g17) ∧ Dis (some g14) (some g17) ∧ law01_ClassAdd.l1 a_ list_ r10 r_ (law01_ClassAdd.j1 r_ r10 back23 join24) k45 n42 c43) k44 ⟨0, 0, hL.keep (.cons (t := 1) rfl (fun _ h_ => h_.elim) (.cons (t := 2) rfl (fun _ h_ => h_.elim) (.cons (t := 5) rfl (fun _ _ h_ => h_) (.cons (t := 6) rfl (fun _ _ h_ => h_) (.cons (t := 7) rfl (fun _ _ h_ => h_) (.cons (t := 9) rfl (fun _ h_ => h_.elim) (.cons (t := 10) rfl (fun _ h_ => h_.elim) .nil))))))), d26, d27, d28, h⟩ ?_
      rintro k45 a s ⟨n42, c43, hL, d47, d48, d49, h⟩ KL46 hKL46
      cases k45 with
      | zero => exact h.elim
      | succ k45 =>
      unfold law01_ClassAdd.l1 at h
      refine wp_seq_k fun K50 hK50 => ?_
      refine wp_seq_k fun K51 hK51 => ?_
      refine rg ?_
      refine st 51 (t_move (o_t 10 rfl) rfl rfl) rfl rfl hL fun a s e_ hL => ?_
      refine st 52 (t_lss (o_t 51 rfl) (o_i (by decide)) rfl rfl) rfl rfl hL fun a s e_ hL => ?_
      refine en' ?_
      show K51 a s.w
      refine hK51 _ _ ?_
      refine cnd hL rfl (fun hb_ => ?_) (fun hb_ => ?_)
      · replace h := h.1 hb_
        refine wp_skip ?_
        show K50 a s.w
        refine hK50 _ _ ?_
        refine wp_seq_k fun K52 hK52 => ?_
        refine wp_block ?_
        refine wp_seq_k fun K53 hK53 => ?_
        obtain ⟨r54, h55, h⟩ := h
        refine rg ?_
        refine st 55 (t_load ty24 (o_t 2 rfl) rfl rfl) rfl rfl hL fun a s e_ hL => ?_
        refine st 56 (t_move (o_t 10 rfl) rfl rfl) rfl rfl hL fun a s e_ hL => ?_
        refine st 57 (t_u8 (o_t 56 rfl) Try.underlying3 Try.underlying5 rfl rfl) rfl rfl hL fun a s e_ hL => ?_
        refine st 58 (t_call (class_Has_ok h55) (xs := [.tmp 55, .tmp 57]) (.cons (o_t 55 rfl) (.cons (o_t 57 rfl) .nil)) rfl rfl) rfl rfl hL fun a s e_ hL => ?_
        refine st 11 (t_assign (o_t 58 rfl) rfl rfl) rfl rfl hL fun a s e_ hL => ?_
        refine en' ?_
        show K53 a s.w
        refine hK53 _ _ ?_
        refine wp_seq_k fun K56 hK56 => ?_
        refine wp_seq_k fun K57 hK57 => ?_
        refine rg ?_
        refine st 12 (t_assign (o_i (by decide)) rfl rfl) rfl rfl hL fun a s e_ hL => ?_
        refine en' ?_
        show K57 a s.w
        refine hK57 _ _ ?_
        refine wp_block ?_
        have J59 : ∀ (in58 : Bool) (a : Act) (s : St), Has N0 98 s0 a s [(1, (Pd.rep (En.slice (En.int .u8)) list_)), (2, (Pd.ptr En.cls a_)), (5, (Pd.box En.cls s0.w.heap.size g12 r10)), (6, (Pd.box En.cls s0.w.heap.size g14 back23)), (7, (Pd.box En.cls s0.w.heap.size g17 join24)), (9, (Pd.rep (En.int .i64) n42)), (10, (Pd.rep (En.int .i64) c43)), (11, (Pd.rep En.bool in58))] → Dis (some g12) (some g14) → Dis (some g12) (some g17) → Dis (some g14) (some g17) → ((law01_ClassAdd.j2 (law01_ClassAdd.l1 a_ list_ r10 r_ (law01_ClassAdd.j1 r_ r10 back23 join24) k45) r_ r10 n42 c43) in58) → K56 a s.w := by
          intro in58 a s hL d60 d61 d62 h
          unfold law01_ClassAdd.j2 at h
          show K56 a s.w
          refine hK56 _ _ ?_
          refine wp_seq_k fun K63 hK63 => ?_
          refine wp_seq_k fun K64 hK64 => ?_
          obtain ⟨r65, h66, h⟩ := h
          refine rg ?_
          refine st 75 (t_move (o_t 11 rfl) rfl rfl) rfl rfl hL fun a s e_ hL => ?_
          refine st 76 (t_loadb ty24 (o_t 5 rfl) rfl rfl) rfl rfl hL fun a s e_ hL => ?_
          refine st 77 (t_move (o_t 10 rfl) rfl rfl) rfl rfl hL fun a s e_ hL => ?_
          refine st 78 (t_u8 (o_t 77 rfl) Try.underlying3 Try.underlying5 rfl rfl) rfl rfl hL fun a s e_ hL => ?_
          refine st 79 (t_call (class_Has_ok h66) (xs := [.tmp 76, .tmp 78]) (.cons (o_t 76 rfl) (.cons (o_t 78 rfl) .nil)) rfl rfl) rfl rfl hL fun a s e_ hL => ?_
          refine st 80 (t_neb (o_t 75 rfl) (o_t 79 rfl) Try.underlying4 rfl rfl) rfl rfl hL fun a s e_ hL => ?_
          refine en' ?_
          show K64 a s.w
          refine hK64 _ _ ?_
          refine cnd hL rfl (fun hb_ => ?_) (fun hb_ => ?_)
          · replace h := h.1 hb_
            refine wp_seq_k fun K67 hK67 => ?_
            refine rg ?_
            refine st 4 (t_assign o_b rfl rfl) rfl rfl hL fun a s e_ hL => ?_
            refine en' ?_
            show K67 a s.w
            refine hK67 _ _ ?_
            subst h
            exact wp_ret (retq rfl hL rfl)
          · replace h := h.2 hb_
            refine wp_skip ?_
            show K63 a s.w
            refine hK63 _ _ ?_
            refine wp_seq_k fun K68 hK68 => ?_
            refine rg ?_
            refine st 81 (t_move (o_t 11 rfl) rfl rfl) rfl rfl hL fun a s e_ hL => ?_
            refine en' ?_
            show K68 a s.w
            refine hK68 _ _ ?_
            refine cnd hL rfl (fun hb_ => ?_) (fun hb_ => ?_)
            · replace h := h.1 hb_
              obtain ⟨h69, h⟩ := h
              refine rg ?_
              refine st 82 (t_move (o_t 9 rfl) rfl rfl) rfl rfl hL fun a s e_ hL => ?_
              refine st 83 (t_add (o_t 82 rfl) (o_i (by decide)) h69 rfl rfl) rfl rfl hL fun a s e_ hL => ?_
              refine st 9 (t_assign (o_t 83 rfl) rfl rfl) rfl rfl hL fun a s e_ hL => ?_
              refine en' ?_
              show K52 a s.w
              refine hK52 _ _ ?_
              obtain ⟨h70, h⟩ := h
              refine rg ?_
              refine st 53 (t_move (o_t 10 rfl) rfl rfl) rfl rfl hL fun a s e_ hL => ?_
              refine st 54 (t_add (o_t 53 rfl) (o_i (by decide)) h70 rfl rfl) rfl rfl hL fun a s e_ hL => ?_
              refine st 10 (t_assign (o_t 54 rfl) rfl rfl) rfl rfl hL fun a s e_ hL => ?_
              refine en' ?_
              exact hKL46 k45 a s (Nat.lt_succ_self _) ⟨(n42 + 1), (c43 + 1), hL.keep (.cons (t := 1) rfl (fun _ h_ => h_.elim) (.cons (t := 2) rfl (fun _ h_ => h_.elim) (.cons (t := 5) rfl (fun _ _ h_ => h_) (.cons (t := 6) rfl (fun _ _ h_ => h_) (.cons (t := 7) rfl (fun _ _ h_ => h_) (.cons (t := 9) rfl (fun _ h_ => h_.elim) (.cons (t := 10) rfl (fun _ h_ => h_.elim) .nil))))))), d60, d61, d62, h⟩
            · replace h := h.2 hb_
              refine wp_skip ?_
              show K52 a s.w
              refine hK52 _ _ ?_
              obtain ⟨h71, h⟩ := h
              refine rg ?_
              refine st 53 (t_move (o_t 10 rfl) rfl rfl) rfl rfl hL fun a s e_ hL => ?_
              refine st 54 (t_add (o_t 53 rfl) (o_i (by decide)) h71 rfl rfl) rfl rfl hL fun a s e_ hL => ?_
              refine st 10 (t_assign (o_t 54 rfl) rfl rfl) rfl rfl hL fun a s e_ hL => ?_
              refine en' ?_
              exact hKL46 k45 a s (Nat.lt_succ_self _) ⟨n42, (c43 + 1), hL.keep (.cons (t := 1) rfl (fun _ h_ => h_.elim) (.cons (t := 2) rfl (fun _ h_ => h_.elim) (.cons (t := 5) rfl (fun _ _ h_ => h_) (.cons (t := 6) rfl (fun _ _ h_ => h_) (.cons (t := 7) rfl (fun _ _ h_ => h_) (.cons (t := 9) rfl (fun _ h_ => h_.elim) (.cons (t := 10) rfl (fun _ h_ => h_.elim) .nil))))))), d60, d61, d62, h⟩
        obtain ⟨k74, h⟩ := h
        refine lpg (fun k75 a s => ∃ (in72 : Bool) (i73 : Int), Has N0 98 s0 a s [(1, (Pd.rep (En.slice (En.int .u8)) list_)), (2, (Pd.ptr En.cls a_)), (5, (Pd.box En.cls s0.w.heap.size g12 r10)), (6, (Pd.box En.cls s0.w.heap.size g14 back23)), (7, (Pd.box En.cls s0.w.heap.size g17 join24)), (9, (Pd.rep (En.int .i64) n42)), (10, (Pd.rep (En.int .i64) c43)), (11, (Pd.rep En.bool in72)), (12, (Pd.rep (En.int .i64) i73))] ∧ Dis (some g12) (some g14) ∧ Dis (some g12) (some g17) ∧ Dis (some g14) (some g17) ∧ law01_ClassAdd.l2 list_ c43 (law01_ClassAdd.j2 (law01_ClassAdd.l1 a_ list_ r10 r_ (law01_ClassAdd.j1 r_ r10 back23 join24) k45) r_ r10 n42 c43) k75 in72 i73) k74 ⟨r54, 0, hL.keep (.cons (t := 1) rfl (fun _ h_ => h_.elim) (.cons (t := 2) rfl (fun _ h_ => h_.elim) (.cons (t := 5) rfl (fun _ _ h_ => h_) (.cons (t := 6) rfl (fun _ _ h_ => h_) (.cons (t := 7) rfl (fun _ _ h_ => h_) (.cons (t := 9) rfl (fun _ h_ => h_.elim) (.cons (t := 10) rfl (fun _ h_ => h_.elim) (.cons (t := 11) rfl (fun _ h_ => h_.elim) (.cons (t := 12) rfl (fun _ h_ => h_.elim) .nil))))))))), d47, d48, d49, h⟩ ?_
        rintro k75 a s ⟨in72, i73, hL, d77, d78, d79, h⟩ KL76 hKL76
        cases k75 with
        | zero => exact h.elim
        | succ k75 =>
        unfold law01_ClassAdd.l2 at h
        refine wp_seq_k fun K80 hK80 => ?_
        refine wp_seq_k fun K81 hK81 => ?_
        refine rg ?_
        refine st 59 (t_move (o_t 12 rfl) rfl rfl) rfl rfl hL fun a s e_ hL => ?_
        refine st 60 (t_move (o_t 1 rfl) rfl rfl) rfl rfl hL fun a s e_ hL => ?_
        refine st 61 (t_len (o_t 60 rfl) Try.underlying40 rfl rfl) rfl rfl hL fun a s e_ hL => ?_
        refine st 62 (t_lss (o_t 59 rfl) (o_t 61 rfl) rfl rfl) rfl rfl hL fun a s e_ hL => ?_
        refine en' ?_
        show K81 a s.w
        refine hK81 _ _ ?_
        refine cnd hL rfl (fun hb_ => ?_) (fun hb_ => ?_)
        · replace h := h.1 hb_
          refine wp_skip ?_
          show K80 a s.w
          refine hK80 _ _ ?_
          refine wp_seq_k fun K82 hK82 => ?_
          refine wp_block ?_
          obtain ⟨e83, h84, h⟩ := h
          refine rg ?_
          refine st 65 (t_move (o_t 11 rfl) rfl rfl) rfl rfl hL fun a s e_ hL => ?_
          refine st 66 (t_move (o_t 65 rfl) rfl rfl) rfl rfl hL fun a s e_ hL => ?_
          refine st 67 (t_g1 rfl rfl rfl (fun hc_ => t_move (o_t 1 rfl) rfl rfl)) rfl rfl hL fun a s e_ hL => ?_
          refine st 68 (t_g1 rfl rfl rfl (fun hc_ => t_move (o_t 12 rfl) rfl rfl)) rfl rfl hL fun a s e_ hL => ?_
          refine st 69 (t_g1 rfl rfl rfl (fun hc_ => t_idx (o_w hc_ 67 rfl) (o_w hc_ 68 rfl) (h84 hc_) Try.underlying40 ty5 rfl rfl)) rfl rfl hL fun a s e_ hL => ?_
          refine st 70 (t_g1 rfl rfl rfl (fun hc_ => t_load ty5 (o_w hc_ 69 rfl) rfl rfl)) rfl rfl hL fun a s e_ hL => ?_
          refine st 71 (t_g1 rfl rfl rfl (fun hc_ => t_up (o_w hc_ 70 rfl) (by decide) Try.underlying5 Try.underlying3 rfl rfl)) rfl rfl hL fun a s e_ hL => ?_
          refine st 72 (t_g1 rfl rfl rfl (fun hc_ => t_move (o_t 10 rfl) rfl rfl)) rfl rfl hL fun a s e_ hL => ?_
          refine st 73 (t_g1 rfl rfl rfl (fun hc_ => t_eqi (o_w hc_ 71 rfl) (o_w hc_ 72 rfl) rfl rfl)) rfl rfl hL fun a s e_ hL => ?_
          refine st 74 (t_or (o_t 66 rfl) (fun hc2_ => (o_w hc2_ 73 rfl)) rfl rfl) rfl rfl hL fun a s e_ hL => ?_
          refine st 11 (t_assign (o_t 74 rfl) rfl rfl) rfl rfl hL fun a s e_ hL => ?_
          refine en' ?_
          show K82 a s.w
          refine hK82 _ _ ?_
          obtain ⟨h85, h⟩ := h
          refine rg ?_
          refine st 63 (t_move (o_t 12 rfl) rfl rfl) rfl rfl hL fun a s e_ hL => ?_
          refine st 64 (t_add (o_t 63 rfl) (o_i (by decide)) h85 rfl rfl) rfl rfl hL fun a s e_ hL => ?_
          refine st 12 (t_assign (o_t 64 rfl) rfl rfl) rfl rfl hL fun a s e_ hL => ?_
          refine en' ?_
          exact hKL76 k75 a s (Nat.lt_succ_self _) ⟨(in72 || (e83 == c43)), (i73 + 1), hL.keep (.cons (t := 1) rfl (fun _ h_ => h_.elim) (.cons (t := 2) rfl (fun _ h_ => h_.elim) (.cons (t := 5) rfl (fun _ _ h_ => h_) (.cons (t := 6) rfl (fun _ _ h_ => h_) (.cons (t := 7) rfl (fun _ _ h_ => h_) (.cons (t := 9) rfl (fun _ h_ => h_.elim) (.cons (t := 10) rfl (fun _ h_ => h_.elim) (.cons (t := 11) rfl (fun _ h_ => h_.elim) (.cons (t := 12) rfl (fun _ h_ => h_.elim) .nil))))))))), d77, d78, d79, h⟩
        · replace h := h.2 hb_
          refine wp_exit ?_
          exact J59 in72 a s (hL.keep (.cons (t := 1) rfl (fun _ h_ => h_.elim) (.cons (t := 2) rfl (fun _ h_ => h_.elim) (.cons (t := 5) rfl (fun _ _ h_ => h_) (.cons (t := 6) rfl (fun _ _ h_ => h_) (.cons (t := 7) rfl (fun _ _ h_ => h_) (.cons (t := 9) rfl (fun _ h_ => h_.elim) (.cons (t := 10) rfl (fun _ h_ => h_.elim) (.cons (t := 11) rfl (fun _ h_ => h_.elim) .nil))))))))) d77 d78 d79 h
      · replace h := h.2 hb_
        refine wp_exit ?_
        exact J33 n42 a s (hL.keep (.cons (t := 5) rfl (fun _ _ h_ => h_) (.cons (t := 6) rfl (fun _ _ h_ => h_) (.cons (t := 7) rfl (fun _ _ h_ => h_) (.cons (t := 9) rfl (fun _ h_ => h_.elim) .nil))))) d47 d48 d49 h
    obtain ⟨k89, h⟩ := h
    refine lpg (fun k90 a s => ∃ (back86 : Cl) (join87 : Cl) (i88 : Int), Has N0 98 s0 a s [(1, (Pd.rep (En.slice (En.int .u8)) list_)), (2, (Pd.ptr En.cls a_)), (5, (Pd.box En.cls s0.w.heap.size g12 r10)), (6, (Pd.box En.cls s0.w.heap.size g14 back86)), (7, (Pd.box En.cls s0.w.heap.size g17 join87)), (8, (Pd.rep (En.int .i64) i88))] ∧ Dis (some g12) (some g14) ∧ Dis (some g12) (some g17) ∧ Dis (some g14) (some g17) ∧ law01_ClassAdd.l3 list_ (law01_ClassAdd.j3 a_ list_ r_ r10) k90 back86 join87 i88) k89 ⟨a_, a_, ((list_.length : Int) - 1), hL.keep (.cons (t := 1) rfl (fun _ h_ => h_.elim) (.cons (t := 2) rfl (fun _ h_ => h_.elim) (.cons (t := 5) rfl (fun _ _ h_ => h_) (.cons (t := 6) rfl (fun _ _ h_ => h_) (.cons (t := 7) rfl (fun _ _ h_ => h_) (.cons (t := 8) rfl (fun _ h_ => h_.elim) .nil)))))), (Dis.symm d15), (Dis.symm d18), (Dis.symm d19), h⟩ ?_
    rintro k90 a s ⟨back86, join87, i88, hL, d92, d93, d94, h⟩ KL91 hKL91
    cases k90 with
    | zero => exact h.elim
    | succ k90 =>
    unfold law01_ClassAdd.l3 at h
    refine wp_seq_k fun K95 hK95 => ?_
    refine wp_seq_k fun K96 hK96 => ?_
    refine rg ?_
    refine st 29 (t_move (o_t 8 rfl) rfl rfl) rfl rfl hL fun a s e_ hL => ?_
    refine st 30 (t_geq (o_t 29 rfl) (o_i (by decide)) rfl rfl) rfl rfl hL fun a s e_ hL => ?_
    refine en' ?_
    show K96 a s.w
    refine hK96 _ _ ?_
    refine cnd hL rfl (fun hb_ => ?_) (fun hb_ => ?_)
    · replace h := h.1 hb_
      refine wp_skip ?_
      show K95 a s.w
      refine hK95 _ _ ?_
      refine wp_seq_k fun K97 hK97 => ?_
      refine wp_block ?_
      refine wp_seq_k fun K98 hK98 => ?_
      obtain ⟨e99, h100, r101, h102, h⟩ := h
      refine rda follows 7 [(Pd.rep En.cls back86), (Pd.rep (En.slice (En.int .u8)) list_), (Pd.rep (En.int .i64) i88), (Pd.ptr (En.int .u8) e99), (Pd.rep (En.int .u8) e99), (Pd.rep (En.slice (En.int .u8)) [e99]), (Pd.rep En.cls r101)] hL (by kernel_rfl) rfl rfl ?_ ?_
      · refine AllT.cons (t_loadb ty24 (o_t 6 rfl) rfl rfl) ?_
        refine AllT.cons (t_move (o_t 1 rfl) rfl rfl) ?_
        refine AllT.cons (t_move (o_t 8 rfl) rfl rfl) ?_
        refine AllT.cons (t_idx (o_t 34 rfl) (o_t 35 rfl) h100 Try.underlying40 ty5 rfl rfl) ?_
        refine AllT.cons (t_load ty5 (o_t 36 rfl) rfl rfl) ?_
        refine AllT.cons (t_lit (xs := [.tmp 37]) (.cons (o_t 37 rfl) .nil) Try.underlying40 ty5 rfl rfl (by decide) rfl rfl) ?_
        refine AllT.cons (t_call (class_Add_ok h102) (xs := [.tmp 33, .tmp 38]) (.cons (o_t 33 rfl) (.cons (o_t 38 rfl) .nil)) rfl rfl) ?_
        exact AllT.nil
      intro a s e_ hL
      refine st_stb (L' := [(1, (Pd.rep (En.slice (En.int .u8)) list_)), (2, (Pd.ptr En.cls a_)), (5, (Pd.box En.cls s0.w.heap.size g12 r10)), (7, (Pd.box En.cls s0.w.heap.size g17 join87)), (8, (Pd.rep (En.int .i64) i88))]) 6 hL rfl (o_t 39 rfl) ty24 rfl rfl rfl (.cons (t := 1) rfl (fun _ h_ => h_.elim) (.cons (t := 2) rfl (fun _ h_ => h_.elim) (.cons (t := 5) rfl (Dis.bx d92) (.cons (t := 7) rfl (Dis.bx d19) (.cons (t := 8) rfl (fun _ h_ => h_.elim) .nil))))) fun s hL => ?_
      refine en' ?_
      show K98 a s.w
      refine hK98 _ _ ?_
      obtain ⟨e103, h104, e105, h106, r107, h108, r109, h110, h⟩ := h
      refine rda follows 11 [(Pd.rep En.cls join87), (Pd.rep (En.slice (En.int .u8)) list_), (Pd.rep (En.int .i64) i88), (Pd.ptr (En.int .u8) e103), (Pd.rep (En.int .u8) e103), (Pd.rep (En.slice (En.int .u8)) list_), (Pd.rep (En.int .i64) i88), (Pd.ptr (En.int .u8) e105), (Pd.rep (En.int .u8) e105), (Pd.rep En.cls r107), (Pd.rep En.cls r109)] hL (by kernel_rfl) rfl rfl ?_ ?_
      · refine AllT.cons (t_loadb ty24 (o_t 7 rfl) rfl rfl) ?_
        refine AllT.cons (t_move (o_t 1 rfl) rfl rfl) ?_
        refine AllT.cons (t_move (o_t 8 rfl) rfl rfl) ?_
        refine AllT.cons (t_idx (o_t 41 rfl) (o_t 42 rfl) h104 Try.underlying40 ty5 rfl rfl) ?_
        refine AllT.cons (t_load ty5 (o_t 43 rfl) rfl rfl) ?_
        refine AllT.cons (t_move (o_t 1 rfl) rfl rfl) ?_
        refine AllT.cons (t_move (o_t 8 rfl) rfl rfl) ?_
        refine AllT.cons (t_idx (o_t 45 rfl) (o_t 46 rfl) h106 Try.underlying40 ty5 rfl rfl) ?_
        refine AllT.cons (t_load ty5 (o_t 47 rfl) rfl rfl) ?_
        refine AllT.cons (t_call (class_Of_ok h108) (xs := [.tmp 44, .tmp 48]) (.cons (o_t 44 rfl) (.cons (o_t 48 rfl) .nil)) rfl rfl) ?_
        refine AllT.cons (t_call (class_Join_ok h110) (xs := [.tmp 40, .tmp 49]) (.cons (o_t 40 rfl) (.cons (o_t 49 rfl) .nil)) rfl rfl) ?_
        exact AllT.nil
      intro a s e_ hL
      refine st_stb (L' := [(1, (Pd.rep (En.slice (En.int .u8)) list_)), (2, (Pd.ptr En.cls a_)), (5, (Pd.box En.cls s0.w.heap.size g12 r10)), (6, (Pd.box En.cls s0.w.heap.size g14 r101)), (8, (Pd.rep (En.int .i64) i88))]) 7 hL rfl (o_t 50 rfl) ty24 rfl rfl rfl (.cons (t := 1) rfl (fun _ h_ => h_.elim) (.cons (t := 2) rfl (fun _ h_ => h_.elim) (.cons (t := 5) rfl (Dis.bx d93) (.cons (t := 6) rfl (Dis.bx d94) (.cons (t := 8) rfl (fun _ h_ => h_.elim) .nil))))) fun s hL => ?_
      refine en' ?_
      show K97 a s.w
      refine hK97 _ _ ?_
      obtain ⟨h111, h⟩ := h
      refine rg ?_
      refine st 31 (t_move (o_t 8 rfl) rfl rfl) rfl rfl hL fun a s e_ hL => ?_
      refine st 32 (t_sub (o_t 31 rfl) (o_i (by decide)) h111 rfl rfl) rfl rfl hL fun a s e_ hL => ?_
      refine st 8 (t_assign (o_t 32 rfl) rfl rfl) rfl rfl hL fun a s e_ hL => ?_
      refine en' ?_
      exact hKL91 k90 a s (Nat.lt_succ_self _) ⟨r101, r109, (i88 - 1), hL.keep (.cons (t := 1) rfl (fun _ h_ => h_.elim) (.cons (t := 2) rfl (fun _ h_ => h_.elim) (.cons (t := 5) rfl (fun _ _ h_ => h_) (.cons (t := 6) rfl (fun _ _ h_ => h_) (.cons (t := 7) rfl (fun _ _ h_ => h_) (.cons (t := 8) rfl (fun _ h_ => h_.elim) .nil)))))), d92, d93, d94, h⟩
    · replace h := h.2 hb_
      refine wp_exit ?_
      exact J25 back86 join87 a s (hL.keep (.cons (t := 1) rfl (fun _ h_ => h_.elim) (.cons (t := 2) rfl (fun _ h_ => h_.elim) (.cons (t := 5) rfl (fun _ _ h_ => h_) (.cons (t := 6) rfl (fun _ _ h_ => h_) (.cons (t := 7) rfl (fun _ _ h_ => h_) .nil)))))) d92 d93 d94 h
end Go.Proofs.Ytkdbiiollbeoeaa.V
