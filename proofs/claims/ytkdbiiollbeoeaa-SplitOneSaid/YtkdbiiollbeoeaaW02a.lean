/- The walks of the functions of layer 2 (by gen.py). -/
import Derived.Test.YtkdbiiollbeoeaaW01b
import Derived.Test.YtkdbiiollbeoeaaR02
namespace Go.Proofs.Ytkdbiiollbeoeaa.V
open Go
set_option linter.unusedVariables false
theorem split_Refine_1_ok {a_ : Cl} {r_ : Int} (h : split_Refine_1 a_ r_) : Fn Try.prog 41 [(Pd.rep En.cls a_)] (Rq (Pd.rep (En.int .i64) r_)) := by
  unfold split_Refine_1 at h
  refine fn_of Try.func41 rfl Try.ntmps41 (by rfl) (by simp) fun s0 a hL => ?_
  refine wp_seq_k fun K1 hK1 => ?_
  refine rg ?_
  refine st 1 (t_box (o_t 0 rfl) rfl rfl) rfl rfl hL fun a s e_ hL => ?_
  refine st 2 (t_assign (o_i (by decide)) rfl rfl) rfl rfl hL fun a s e_ hL => ?_
  refine en' ?_
  show K1 a s.w
  refine hK1 _ _ ?_
  refine wp_seq_k fun K2 hK2 => ?_
  obtain ⟨r3, h4, h⟩ := h
  refine rg ?_
  refine st 6 (t_load ty24 (o_t 1 rfl) rfl rfl) rfl rfl hL fun a s e_ hL => ?_
  refine st 7 (t_call ((class_Least_ok h4).tup) (xs := [.tmp 6]) (.cons (o_t 6 rfl) .nil) rfl rfl) rfl rfl hL fun a s e_ hL => ?_
  refine st 5 (t_move (o_t 7 rfl) rfl rfl) rfl rfl hL fun a s e_ hL => ?_
  refine st 8 (t_ext0 (o_t 5 rfl) rfl rfl) rfl rfl hL fun a s e_ hL => ?_
  refine st 9 (t_ext1 (o_t 5 rfl) rfl rfl) rfl rfl hL fun a s e_ hL => ?_
  refine st 3 (t_assign (o_t 8 rfl) rfl rfl) rfl rfl hL fun a s e_ hL => ?_
  refine st 4 (t_assign (o_t 9 rfl) rfl rfl) rfl rfl hL fun a s e_ hL => ?_
  refine en' ?_
  show K2 a s.w
  refine hK2 _ _ ?_
  refine wp_seq_k fun K5 hK5 => ?_
  refine rg ?_
  refine st 10 (t_move (o_t 3 rfl) rfl rfl) rfl rfl hL fun a s e_ hL => ?_
  refine st 11 (t_up (o_t 10 rfl) (by decide) Try.underlying5 Try.underlying3 rfl rfl) rfl rfl hL fun a s e_ hL => ?_
  refine st 2 (t_assign (o_t 11 rfl) rfl rfl) rfl rfl hL fun a s e_ hL => ?_
  refine en' ?_
  show K5 a s.w
  refine hK5 _ _ ?_
  subst h
  exact wp_ret (retq rfl hL rfl)

theorem split_Refine_2_ok {a_ : Cl} {b_ : Cl} {cap0_ : (Cl × Int → Prop)} {r_ : Int} (h : split_Refine_2 a_ b_ cap0_ r_) : Fn Try.prog 43 [(Pd.rep En.cls a_), (Pd.rep En.cls b_), (Pd.ptr EnF35 cap0_)] (Rq (Pd.rep (En.int .i64) r_)) := by
  unfold split_Refine_2 at h
  refine fn_of Try.func43 rfl Try.ntmps43 (by rfl) (by simp) fun s0 a hL => ?_
  refine wp_seq_k fun K1 hK1 => ?_
  refine rg ?_
  refine st 3 (t_box (o_t 0 rfl) rfl rfl) rfl rfl hL fun a s e_ hL => ?_
  refine st 4 (t_box (o_t 1 rfl) rfl rfl) rfl rfl hL fun a s e_ hL => ?_
  refine st 5 (t_assign (o_i (by decide)) rfl rfl) rfl rfl hL fun a s e_ hL => ?_
  refine en' ?_
  show K1 a s.w
  refine hK1 _ _ ?_
  refine wp_seq_k fun K2 hK2 => ?_
  obtain ⟨r3, h4, r5, h6, h7, h⟩ := h
  refine rda follows 7 [(Pd.rep EnF35 cap0_), (Pd.rep En.cls a_), (Pd.rep (En.int .i64) r3), (Pd.rep EnF35 cap0_), (Pd.rep En.cls b_), (Pd.rep (En.int .i64) r5), (Pd.rep (En.int .i64) (r3 - r5))] hL (by kernel_rfl) rfl rfl ?_ ?_
  · refine AllT.cons (t_load ty35 (o_t 2 rfl) rfl rfl) ?_
    refine AllT.cons (t_load ty24 (o_t 3 rfl) rfl rfl) ?_
    refine AllT.cons (t_callf (q := (a_, r3)) (o_t 6 rfl) h4 (xs := [.tmp 7]) (.cons (o_t 7 rfl) .nil) (fun _ _ _ h_ => h_) rfl rfl) ?_
    refine AllT.cons (t_load ty35 (o_t 2 rfl) rfl rfl) ?_
    refine AllT.cons (t_load ty24 (o_t 4 rfl) rfl rfl) ?_
    refine AllT.cons (t_callf (q := (b_, r5)) (o_t 9 rfl) h6 (xs := [.tmp 10]) (.cons (o_t 10 rfl) .nil) (fun _ _ _ h_ => h_) rfl rfl) ?_
    refine AllT.cons (t_sub (o_t 8 rfl) (o_t 11 rfl) h7 rfl rfl) ?_
    exact AllT.nil
  intro a s e_ hL
  refine st 5 (t_assign (o_t 12 rfl) rfl rfl) rfl rfl hL fun a s e_ hL => ?_
  refine en' ?_
  show K2 a s.w
  refine hK2 _ _ ?_
  subst h
  exact wp_ret (retq rfl hL rfl)

theorem split_Refine_ok {parts_ : (List Cl)} {a_ : Cl} {r_ : (List Cl)} (h : split_Refine parts_ a_ r_) : Fn Try.prog 37 [(Pd.rep (En.slice En.cls) parts_), (Pd.rep En.cls a_)] (Ro En.cls 24 r_) := by
  unfold split_Refine at h
  refine fn_of Try.func37 rfl Try.ntmps37 (by rfl) (by simp) fun s0 a hL => ?_
  refine wp_seq_k fun K1 hK1 => ?_
  refine rg ?_
  refine st 3 (t_box (o_t 1 rfl) rfl rfl) rfl rfl hL fun a s e_ hL => ?_
  refine st 4 (t_assign (o_nil (E := En.cls) (N := s0.w.heap.size) (te := 24)) rfl rfl) rfl rfl hL fun a s e_ hL => ?_
  refine en' ?_
  show K1 a s.w
  refine hK1 _ _ ?_
  refine wp_seq_k fun K2 hK2 => ?_
  refine rg ?_
  refine st 5 (t_assign (o_nil (E := En.cls) (N := s0.w.heap.size) (te := 24)) rfl rfl) rfl rfl hL fun a s e_ hL => ?_
  refine en' ?_
  show K2 a s.w
  refine hK2 _ _ ?_
  refine wp_seq_k fun K3 hK3 => ?_
  refine wp_seq_k fun K4 hK4 => ?_
  refine rg ?_
  refine st 11 (t_move (o_t 0 rfl) rfl rfl) rfl rfl hL fun a s e_ hL => ?_
  refine st 12 (t_len (o_t 11 rfl) Try.underlying42 rfl rfl) rfl rfl hL fun a s e_ hL => ?_
  refine st 13 (t_move (o_i (by decide)) rfl rfl) rfl rfl hL fun a s e_ hL => ?_
  refine en' ?_
  show K4 a s.w
  refine hK4 _ _ ?_
  refine wp_block ?_
  have J7 : ∀ (out5 : (List Cl)) (og6 : Option Nat) (a : Act) (s : St), Has N0 43 s0 a s [(5, (Pd.row En.cls s0.w.heap.size 24 og6 out5))] → ((split_Refine.j1 r_) out5) → K3 a s.w := by
    intro out5 og6 a s hL h
    unfold split_Refine.j1 at h
    show K3 a s.w
    refine hK3 _ _ ?_
    refine wp_seq_k fun K8 hK8 => ?_
    refine rg ?_
    have lt_d10 := hL.rlt 5 rfl
    refine st_alloc EnF35 (z := (fun _ => False)) 10 hL tyz35 rfl rfl rfl rfl fun a s g9 hg_ hL => ?_
    have d10 : Dis (some g9) og6 := Dis.newg hg_ lt_d10
    refine st_stb (L' := [(5, (Pd.row En.cls s0.w.heap.size 24 og6 out5))]) 10 hL rfl (o_q (Pd.rep EnF35 (fun q_ => split_Refine_1 q_.1 q_.2)) (o_fun (call_of Try.func41 rfl (by rfl)) (fun q_ h_ => split_Refine_1_ok h_))) ty35 rfl rfl rfl (.cons (t := 5) rfl (Dis.ow (Dis.symm d10)) .nil) fun s hL => ?_
    refine en' ?_
    show K8 a s.w
    refine hK8 _ _ ?_
    refine wp_seq_k fun K11 hK11 => ?_
    obtain ⟨s13, h12, hL⟩ := hL.freezeb (L' := [(5, (Pd.row En.cls s0.w.heap.size 24 og6 out5))]) 10 rfl (.cons (t := 5) rfl (Dis.ow (Dis.symm d10)) .nil)
    rw [← h12]
    clear h12
    generalize s13 = s at *
    obtain ⟨r14, h15, h⟩ := h
    refine rg ?_
    refine st 39 (t_move (o_t 5 rfl) rfl rfl) rfl rfl hL fun a s e_ hL => ?_
    refine st 40 (t_q (Pd.rep EnF54 (fun q_ => split_Refine_2 q_.1 q_.2.1 (fun q_ => split_Refine_1 q_.1 q_.2) q_.2.2)) (t_mkfun (cs := [.tmp 10]) (.cons (o_t 10 rfl) .nil) (call_of Try.func43 rfl (by rfl)) (enc_cons enc_ptr enc_nil) (fun q_ h_ => split_Refine_2_ok h_) rfl rfl)) rfl rfl hL fun a s e_ hL => ?_
    refine st_callr (L' := [(5, (Pd.row En.cls s0.w.heap.size 24 og6 r14))]) 41 (fun v0 => slices_SortStableFunc_api_Class_api_Class_ok v0 h15) hL (o_t 39 rfl) (zs := [.tmp 40]) (.cons (o_t 40 rfl) .nil) rfl rfl rfl rfl (.turn (t := 5) rfl .nil) fun a s hL => ?_
    refine en' ?_
    show K11 a s.w
    refine hK11 _ _ ?_
    refine wp_seq_k fun K16 hK16 => ?_
    refine rg ?_
    refine st 42 (t_move (o_t 5 rfl) rfl rfl) rfl rfl hL fun a s e_ hL => ?_
    refine st 4 (t_assign (o_t 42 rfl) rfl rfl) rfl rfl hL fun a s e_ hL => ?_
    refine en' ?_
    show K16 a s.w
    refine hK16 _ _ ?_
    subst h
    exact wp_ret (reto rfl hL rfl)
  obtain ⟨k20, h⟩ := h
  refine lpg (fun k21 a s => ∃ (out17 : (List Cl)) (v19 : Int) (og18 : Option Nat), Has N0 43 s0 a s [(3, (Pd.ptr En.cls a_)), (5, (Pd.row En.cls s0.w.heap.size 24 og18 out17)), (11, (Pd.rep (En.slice En.cls) parts_)), (12, (Pd.rep (En.int .i64) (parts_.length : Int))), (13, (Pd.rep (En.int .i64) v19))] ∧ split_Refine.l1 parts_ a_ (split_Refine.j1 r_) k21 out17 v19) k20 ⟨[], 0, none, hL.keep (.cons (t := 3) rfl (fun _ h_ => h_.elim) (.cons (t := 5) rfl (fun _ _ h_ => h_) (.cons (t := 11) rfl (fun _ h_ => h_.elim) (.cons (t := 12) rfl (fun _ h_ => h_.elim) (.cons (t := 13) rfl (fun _ h_ => h_.elim) .nil))))), h⟩ ?_
  rintro k21 a s ⟨out17, v19, og18, hL, h⟩ KL22 hKL22
  cases k21 with
  | zero => exact h.elim
  | succ k21 =>
  unfold split_Refine.l1 at h
  refine wp_seq_k fun K23 hK23 => ?_
  refine rg ?_
  refine st 14 (t_lss (o_t 13 rfl) (o_t 12 rfl) rfl rfl) rfl rfl hL fun a s e_ hL => ?_
  refine en' ?_
  show K23 a s.w
  refine hK23 _ _ ?_
  refine wp_seq_k fun K24 hK24 => ?_
  refine cnd hL rfl (fun hb_ => ?_) (fun hb_ => ?_)
  · replace h := h.1 hb_
    refine wp_skip ?_
    show K24 a s.w
    refine hK24 _ _ ?_
    refine wp_seq_k fun K25 hK25 => ?_
    refine wp_block ?_
    refine wp_seq_k fun K26 hK26 => ?_
    obtain ⟨e27, h28, h⟩ := h
    refine rg ?_
    refine st 15 (t_idx (o_t 11 rfl) (o_t 13 rfl) h28 Try.underlying42 ty24 rfl rfl) rfl rfl hL fun a s e_ hL => ?_
    refine st 16 (t_load ty24 (o_t 15 rfl) rfl rfl) rfl rfl hL fun a s e_ hL => ?_
    have lt_d30 := hL.rlt 5 rfl
    refine st_alloc En.cls (z := (0#256)) 7 hL tyz24 rfl rfl rfl rfl fun a s g29 hg_ hL => ?_
    have d30 : Dis (some g29) og18 := Dis.newg hg_ lt_d30
    refine st_stb (L' := [(3, (Pd.ptr En.cls a_)), (5, (Pd.row En.cls s0.w.heap.size 24 og18 out17)), (11, (Pd.rep (En.slice En.cls) parts_)), (12, (Pd.rep (En.int .i64) (parts_.length : Int))), (13, (Pd.rep (En.int .i64) v19))]) 7 hL rfl (o_t 16 rfl) ty24 rfl rfl rfl (.cons (t := 3) rfl (fun _ h_ => h_.elim) (.cons (t := 5) rfl (Dis.ow (Dis.symm d30)) (.cons (t := 11) rfl (fun _ h_ => h_.elim) (.cons (t := 12) rfl (fun _ h_ => h_.elim) (.cons (t := 13) rfl (fun _ h_ => h_.elim) .nil))))) fun s hL => ?_
    refine en' ?_
    show K26 a s.w
    refine hK26 _ _ ?_
    refine wp_seq_k fun K31 hK31 => ?_
    obtain ⟨r32, h33, r34, h35, r36, h37, h⟩ := h
    refine rda follows 10 [(Pd.rep En.cls e27), (Pd.rep En.cls a_), (Pd.rep En.cls r32), (Pd.rep En.cls e27), (Pd.rep En.cls a_), (Pd.rep En.cls r34), (Pd.rep En.cls r36), (Pd.rep (En.slice En.cls) [r32, r36]), (Pd.rep (En.int .i64) ([r32, r36].length : Int)), (Pd.rep (En.int .i64) 0)] hL (by kernel_rfl) rfl rfl ?_ ?_
    · refine AllT.cons (t_loadb ty24 (o_t 7 rfl) rfl rfl) ?_
      refine AllT.cons (t_load ty24 (o_t 3 rfl) rfl rfl) ?_
      refine AllT.cons (t_call (class_Both_ok h33) (xs := [.tmp 17, .tmp 18]) (.cons (o_t 17 rfl) (.cons (o_t 18 rfl) .nil)) rfl rfl) ?_
      refine AllT.cons (t_loadb ty24 (o_t 7 rfl) rfl rfl) ?_
      refine AllT.cons (t_load ty24 (o_t 3 rfl) rfl rfl) ?_
      refine AllT.cons (t_call (class_Not_ok h35) (xs := [.tmp 21]) (.cons (o_t 21 rfl) .nil) rfl rfl) ?_
      refine AllT.cons (t_call (class_Both_ok h37) (xs := [.tmp 20, .tmp 22]) (.cons (o_t 20 rfl) (.cons (o_t 22 rfl) .nil)) rfl rfl) ?_
      refine AllT.cons (t_lit (xs := [.tmp 19, .tmp 23]) (.cons (o_t 19 rfl) (.cons (o_t 23 rfl) .nil)) Try.underlying42 ty24 rfl rfl (by decide) rfl rfl) ?_
      refine AllT.cons (t_len (o_t 24 rfl) Try.underlying42 rfl rfl) ?_
      refine AllT.cons (t_move (o_i (by decide)) rfl rfl) ?_
      exact AllT.nil
    intro a s e_ hL
    refine en' ?_
    show K31 a s.w
    refine hK31 _ _ ?_
    refine wp_block ?_
    have J40 : ∀ (out38 : (List Cl)) (og39 : Option Nat) (a : Act) (s : St), Has N0 43 s0 a s [(3, (Pd.ptr En.cls a_)), (5, (Pd.row En.cls s0.w.heap.size 24 og39 out38)), (11, (Pd.rep (En.slice En.cls) parts_)), (12, (Pd.rep (En.int .i64) (parts_.length : Int))), (13, (Pd.rep (En.int .i64) v19))] → ((split_Refine.j2 (split_Refine.l1 parts_ a_ (split_Refine.j1 r_) k21) v19) out38) → K25 a s.w := by
      intro out38 og39 a s hL h
      unfold split_Refine.j2 at h
      show K25 a s.w
      refine hK25 _ _ ?_
      obtain ⟨h41, h⟩ := h
      refine rg ?_
      refine st 38 (t_add (o_t 13 rfl) (o_i (by decide)) h41 rfl rfl) rfl rfl hL fun a s e_ hL => ?_
      refine st 13 (t_move (o_t 38 rfl) rfl rfl) rfl rfl hL fun a s e_ hL => ?_
      refine en' ?_
      exact hKL22 k21 a s (Nat.lt_succ_self _) ⟨out38, (v19 + 1), og39, hL.keep (.cons (t := 3) rfl (fun _ h_ => h_.elim) (.cons (t := 5) rfl (fun _ _ h_ => h_) (.cons (t := 11) rfl (fun _ h_ => h_.elim) (.cons (t := 12) rfl (fun _ h_ => h_.elim) (.cons (t := 13) rfl (fun _ h_ => h_.elim) .nil))))), h⟩
    obtain ⟨k45, h⟩ := h
    refine lpg (fun k46 a s => ∃ (out42 : (List Cl)) (v44 : Int) (og43 : Option Nat), Has N0 43 s0 a s [(3, (Pd.ptr En.cls a_)), (5, (Pd.row En.cls s0.w.heap.size 24 og43 out42)), (11, (Pd.rep (En.slice En.cls) parts_)), (12, (Pd.rep (En.int .i64) (parts_.length : Int))), (13, (Pd.rep (En.int .i64) v19)), (24, (Pd.rep (En.slice En.cls) [r32, r36])), (25, (Pd.rep (En.int .i64) ([r32, r36].length : Int))), (26, (Pd.rep (En.int .i64) v44))] ∧ split_Refine.l2 r32 r36 (split_Refine.j2 (split_Refine.l1 parts_ a_ (split_Refine.j1 r_) k21) v19) k46 out42 v44) k45 ⟨out17, 0, og18, hL.keep (.cons (t := 3) rfl (fun _ h_ => h_.elim) (.cons (t := 5) rfl (fun _ _ h_ => h_) (.cons (t := 11) rfl (fun _ h_ => h_.elim) (.cons (t := 12) rfl (fun _ h_ => h_.elim) (.cons (t := 13) rfl (fun _ h_ => h_.elim) (.cons (t := 24) rfl (fun _ h_ => h_.elim) (.cons (t := 25) rfl (fun _ h_ => h_.elim) (.cons (t := 26) rfl (fun _ h_ => h_.elim) .nil)))))))), h⟩ ?_
    rintro k46 a s ⟨out42, v44, og43, hL, h⟩ KL47 hKL47
    cases k46 with
    | zero => exact h.elim
    | succ k46 =>
    unfold split_Refine.l2 at h
    refine wp_seq_k fun K48 hK48 => ?_
    refine rg ?_
    refine st 27 (t_lss (o_t 26 rfl) (o_t 25 rfl) rfl rfl) rfl rfl hL fun a s e_ hL => ?_
    refine en' ?_
    show K48 a s.w
    refine hK48 _ _ ?_
    refine wp_seq_k fun K49 hK49 => ?_
    refine cnd hL rfl (fun hb_ => ?_) (fun hb_ => ?_)
    · replace h := h.1 hb_
      refine wp_skip ?_
      show K49 a s.w
      refine hK49 _ _ ?_
      refine wp_seq_k fun K50 hK50 => ?_
      refine wp_block ?_
      refine wp_seq_k fun K51 hK51 => ?_
      obtain ⟨e52, h53, h⟩ := h
      refine rg ?_
      refine st 28 (t_idx (o_t 24 rfl) (o_t 26 rfl) h53 Try.underlying42 ty24 rfl rfl) rfl rfl hL fun a s e_ hL => ?_
      refine st 29 (t_load ty24 (o_t 28 rfl) rfl rfl) rfl rfl hL fun a s e_ hL => ?_
      have lt_d55 := hL.rlt 5 rfl
      refine st_alloc En.cls (z := (0#256)) 9 hL tyz24 rfl rfl rfl rfl fun a s g54 hg_ hL => ?_
      have d55 : Dis (some g54) og43 := Dis.newg hg_ lt_d55
      refine st_stb (L' := [(3, (Pd.ptr En.cls a_)), (5, (Pd.row En.cls s0.w.heap.size 24 og43 out42)), (11, (Pd.rep (En.slice En.cls) parts_)), (12, (Pd.rep (En.int .i64) (parts_.length : Int))), (13, (Pd.rep (En.int .i64) v19)), (24, (Pd.rep (En.slice En.cls) [r32, r36])), (25, (Pd.rep (En.int .i64) ([r32, r36].length : Int))), (26, (Pd.rep (En.int .i64) v44))]) 9 hL rfl (o_t 29 rfl) ty24 rfl rfl rfl (.cons (t := 3) rfl (fun _ h_ => h_.elim) (.cons (t := 5) rfl (Dis.ow (Dis.symm d55)) (.cons (t := 11) rfl (fun _ h_ => h_.elim) (.cons (t := 12) rfl (fun _ h_ => h_.elim) (.cons (t := 13) rfl (fun _ h_ => h_.elim) (.cons (t := 24) rfl (fun _ h_ => h_.elim) (.cons (t := 25) rfl (fun _ h_ => h_.elim) (.cons (t := 26) rfl (fun _ h_ => h_.elim) .nil)))))))) fun s hL => ?_
      refine en' ?_
      show K51 a s.w
      refine hK51 _ _ ?_
      refine wp_seq_k fun K56 hK56 => ?_
      obtain ⟨r57, h58, h⟩ := h
      refine rg ?_
      refine st 30 (t_loadb ty24 (o_t 9 rfl) rfl rfl) rfl rfl hL fun a s e_ hL => ?_
      refine st 31 (t_call (class_Count_ok h58) (xs := [.tmp 30]) (.cons (o_t 30 rfl) .nil) rfl rfl) rfl rfl hL fun a s e_ hL => ?_
      refine st 32 (t_gtr (o_t 31 rfl) (o_i (by decide)) rfl rfl) rfl rfl hL fun a s e_ hL => ?_
      refine en' ?_
      show K56 a s.w
      refine hK56 _ _ ?_
      refine cnd hL rfl (fun hb_ => ?_) (fun hb_ => ?_)
      · replace h := h.1 hb_
        obtain ⟨h59, h⟩ := h
        refine rg ?_
        refine st 33 (t_move (o_t 5 rfl) rfl rfl) rfl rfl hL fun a s e_ hL => ?_
        refine st 34 (t_loadb ty24 (o_t 9 rfl) rfl rfl) rfl rfl hL fun a s e_ hL => ?_
        refine st 35 (t_lit (xs := [.tmp 34]) (.cons (o_t 34 rfl) .nil) Try.underlying42 ty24 rfl rfl (by decide) rfl rfl) rfl rfl hL fun a s e_ hL => ?_
        refine st_app (L' := [(3, (Pd.ptr En.cls a_)), (11, (Pd.rep (En.slice En.cls) parts_)), (12, (Pd.rep (En.int .i64) (parts_.length : Int))), (13, (Pd.rep (En.int .i64) v19)), (24, (Pd.rep (En.slice En.cls) [r32, r36])), (25, (Pd.rep (En.int .i64) ([r32, r36].length : Int))), (26, (Pd.rep (En.int .i64) v44))]) 36 hL (o_t 33 rfl) (o_t 35 rfl) Try.underlying42 ty24 h59 rfl rfl rfl rfl (.cons (t := 3) rfl (fun _ h_ => h_.elim) (.cons (t := 11) rfl (fun _ h_ => h_.elim) (.cons (t := 12) rfl (fun _ h_ => h_.elim) (.cons (t := 13) rfl (fun _ h_ => h_.elim) (.cons (t := 24) rfl (fun _ h_ => h_.elim) (.cons (t := 25) rfl (fun _ h_ => h_.elim) (.cons (t := 26) rfl (fun _ h_ => h_.elim) .nil))))))) fun a s og60 hg_ hL => ?_
        refine st 5 (t_assign (o_t 36 rfl) rfl rfl) rfl rfl hL fun a s e_ hL => ?_
        refine en' ?_
        show K50 a s.w
        refine hK50 _ _ ?_
        obtain ⟨h61, h⟩ := h
        refine rg ?_
        refine st 37 (t_add (o_t 26 rfl) (o_i (by decide)) h61 rfl rfl) rfl rfl hL fun a s e_ hL => ?_
        refine st 26 (t_move (o_t 37 rfl) rfl rfl) rfl rfl hL fun a s e_ hL => ?_
        refine en' ?_
        exact hKL47 k46 a s (Nat.lt_succ_self _) ⟨(out42 ++ [e52]), (v44 + 1), og60, hL.keep (.cons (t := 3) rfl (fun _ h_ => h_.elim) (.cons (t := 5) rfl (fun _ _ h_ => h_) (.cons (t := 11) rfl (fun _ h_ => h_.elim) (.cons (t := 12) rfl (fun _ h_ => h_.elim) (.cons (t := 13) rfl (fun _ h_ => h_.elim) (.cons (t := 24) rfl (fun _ h_ => h_.elim) (.cons (t := 25) rfl (fun _ h_ => h_.elim) (.cons (t := 26) rfl (fun _ h_ => h_.elim) .nil)))))))), h⟩
      · replace h := h.2 hb_
        refine wp_skip ?_
        show K50 a s.w
        refine hK50 _ _ ?_
        obtain ⟨h62, h⟩ := h
        refine rg ?_
        refine st 37 (t_add (o_t 26 rfl) (o_i (by decide)) h62 rfl rfl) rfl rfl hL fun a s e_ hL => ?_
        refine st 26 (t_move (o_t 37 rfl) rfl rfl) rfl rfl hL fun a s e_ hL => ?_
        refine en' ?_
        exact hKL47 k46 a s (Nat.lt_succ_self _) ⟨out42, (v44 + 1), og43, hL.keep (.cons (t := 3) rfl (fun _ h_ => h_.elim) (.cons (t := 5) rfl (fun _ _ h_ => h_) (.cons (t := 11) rfl (fun _ h_ => h_.elim) (.cons (t := 12) rfl (fun _ h_ => h_.elim) (.cons (t := 13) rfl (fun _ h_ => h_.elim) (.cons (t := 24) rfl (fun _ h_ => h_.elim) (.cons (t := 25) rfl (fun _ h_ => h_.elim) (.cons (t := 26) rfl (fun _ h_ => h_.elim) .nil)))))))), h⟩
    · replace h := h.2 hb_
      refine wp_exit ?_
      exact J40 out42 og43 a s (hL.keep (.cons (t := 3) rfl (fun _ h_ => h_.elim) (.cons (t := 5) rfl (fun _ _ h_ => h_) (.cons (t := 11) rfl (fun _ h_ => h_.elim) (.cons (t := 12) rfl (fun _ h_ => h_.elim) (.cons (t := 13) rfl (fun _ h_ => h_.elim) .nil)))))) h
  · replace h := h.2 hb_
    refine wp_exit ?_
    exact J7 out17 og18 a s (hL.keep (.cons (t := 5) rfl (fun _ _ h_ => h_) .nil)) h

theorem split_Parts_ok {list_ : (List Cl)} {r_ : (List Cl)} (h : split_Parts list_ r_) : Fn Try.prog 32 [(Pd.rep (En.slice En.cls) list_)] (Ro En.cls 24 r_) := by
  unfold split_Parts at h
  refine fn_of Try.func32 rfl Try.ntmps32 (by rfl) (by simp) fun s0 a hL => ?_
  refine wp_seq_k fun K1 hK1 => ?_
  refine rg ?_
  refine st 2 (t_assign (o_nil (E := En.cls) (N := s0.w.heap.size) (te := 24)) rfl rfl) rfl rfl hL fun a s e_ hL => ?_
  refine en' ?_
  show K1 a s.w
  refine hK1 _ _ ?_
  refine wp_seq_k fun K2 hK2 => ?_
  obtain ⟨r3, h4, h⟩ := h
  refine rg ?_
  refine st 6 (t_bcls (x := (0#256)) Try.underlying24 (by rfl) tyz24 (fun _ => by kernel_rfl) rfl rfl) rfl rfl hL fun a s e_ hL => ?_
  refine st 7 (t_call (class_Not_ok h4) (xs := [.tmp 6]) (.cons (o_t 6 rfl) .nil) rfl rfl) rfl rfl hL fun a s e_ hL => ?_
  refine st_lito (xs := [.tmp 7]) 8 hL (.cons (o_t 7 rfl) .nil) Try.underlying42 ty24 rfl rfl (by decide) rfl rfl rfl rfl fun a s g5 hg_ hL => ?_
  refine st 3 (t_assign (o_t 8 rfl) rfl rfl) rfl rfl hL fun a s e_ hL => ?_
  refine en' ?_
  show K2 a s.w
  refine hK2 _ _ ?_
  refine wp_seq_k fun K6 hK6 => ?_
  refine wp_seq_k fun K7 hK7 => ?_
  refine rg ?_
  refine st 9 (t_move (o_t 0 rfl) rfl rfl) rfl rfl hL fun a s e_ hL => ?_
  refine st 10 (t_len (o_t 9 rfl) Try.underlying42 rfl rfl) rfl rfl hL fun a s e_ hL => ?_
  refine st 11 (t_move (o_i (by decide)) rfl rfl) rfl rfl hL fun a s e_ hL => ?_
  refine en' ?_
  show K7 a s.w
  refine hK7 _ _ ?_
  refine wp_block ?_
  have J10 : ∀ (out8 : (List Cl)) (og9 : Option Nat) (a : Act) (s : St), Has N0 20 s0 a s [(3, (Pd.row En.cls s0.w.heap.size 24 og9 out8))] → ((split_Parts.j1 r_) out8) → K6 a s.w := by
    intro out8 og9 a s hL h
    unfold split_Parts.j1 at h
    show K6 a s.w
    refine hK6 _ _ ?_
    refine wp_seq_k fun K11 hK11 => ?_
    refine rg ?_
    refine st 19 (t_move (o_t 3 rfl) rfl rfl) rfl rfl hL fun a s e_ hL => ?_
    refine st 2 (t_assign (o_t 19 rfl) rfl rfl) rfl rfl hL fun a s e_ hL => ?_
    refine en' ?_
    show K11 a s.w
    refine hK11 _ _ ?_
    subst h
    exact wp_ret (reto rfl hL rfl)
  obtain ⟨k15, h⟩ := h
  refine lpg (fun k16 a s => ∃ (out12 : (List Cl)) (v14 : Int) (og13 : Option Nat), Has N0 20 s0 a s [(3, (Pd.row En.cls s0.w.heap.size 24 og13 out12)), (9, (Pd.rep (En.slice En.cls) list_)), (10, (Pd.rep (En.int .i64) (list_.length : Int))), (11, (Pd.rep (En.int .i64) v14))] ∧ split_Parts.l1 list_ (split_Parts.j1 r_) k16 out12 v14) k15 ⟨[r3], 0, (some g5), hL.keep (.cons (t := 3) rfl (fun _ _ h_ => h_) (.cons (t := 9) rfl (fun _ h_ => h_.elim) (.cons (t := 10) rfl (fun _ h_ => h_.elim) (.cons (t := 11) rfl (fun _ h_ => h_.elim) .nil)))), h⟩ ?_
  rintro k16 a s ⟨out12, v14, og13, hL, h⟩ KL17 hKL17
  cases k16 with
  | zero => exact h.elim
  | succ k16 =>
  unfold split_Parts.l1 at h
  refine wp_seq_k fun K18 hK18 => ?_
  refine rg ?_
  refine st 12 (t_lss (o_t 11 rfl) (o_t 10 rfl) rfl rfl) rfl rfl hL fun a s e_ hL => ?_
  refine en' ?_
  show K18 a s.w
  refine hK18 _ _ ?_
  refine wp_seq_k fun K19 hK19 => ?_
  refine cnd hL rfl (fun hb_ => ?_) (fun hb_ => ?_)
  · replace h := h.1 hb_
    refine wp_skip ?_
    show K19 a s.w
    refine hK19 _ _ ?_
    refine wp_seq_k fun K20 hK20 => ?_
    refine wp_block ?_
    refine wp_seq_k fun K21 hK21 => ?_
    obtain ⟨e22, h23, h⟩ := h
    refine rg ?_
    refine st 13 (t_idx (o_t 9 rfl) (o_t 11 rfl) h23 Try.underlying42 ty24 rfl rfl) rfl rfl hL fun a s e_ hL => ?_
    refine st 14 (t_load ty24 (o_t 13 rfl) rfl rfl) rfl rfl hL fun a s e_ hL => ?_
    have lt_d25 := hL.rlt 3 rfl
    refine st_alloc En.cls (z := (0#256)) 5 hL tyz24 rfl rfl rfl rfl fun a s g24 hg_ hL => ?_
    have d25 : Dis (some g24) og13 := Dis.newg hg_ lt_d25
    refine st_stb (L' := [(3, (Pd.row En.cls s0.w.heap.size 24 og13 out12)), (9, (Pd.rep (En.slice En.cls) list_)), (10, (Pd.rep (En.int .i64) (list_.length : Int))), (11, (Pd.rep (En.int .i64) v14))]) 5 hL rfl (o_t 14 rfl) ty24 rfl rfl rfl (.cons (t := 3) rfl (Dis.ow (Dis.symm d25)) (.cons (t := 9) rfl (fun _ h_ => h_.elim) (.cons (t := 10) rfl (fun _ h_ => h_.elim) (.cons (t := 11) rfl (fun _ h_ => h_.elim) .nil)))) fun s hL => ?_
    refine en' ?_
    show K21 a s.w
    refine hK21 _ _ ?_
    obtain ⟨s27, h26, hL⟩ := hL.freeze (L' := [(5, (Pd.box En.cls s0.w.heap.size g24 e22)), (9, (Pd.rep (En.slice En.cls) list_)), (10, (Pd.rep (En.int .i64) (list_.length : Int))), (11, (Pd.rep (En.int .i64) v14))]) 3 rfl (.cons (t := 5) rfl (Dis.bx d25) (.cons (t := 9) rfl (fun _ h_ => h_.elim) (.cons (t := 10) rfl (fun _ h_ => h_.elim) (.cons (t := 11) rfl (fun _ h_ => h_.elim) .nil))))
    rw [← h26]
    clear h26
    generalize s27 = s at *
    obtain ⟨r28, h29, h⟩ := h
    refine rg ?_
    refine st 15 (t_move (o_t 3 rfl) rfl rfl) rfl rfl hL fun a s e_ hL => ?_
    refine st 16 (t_loadb ty24 (o_t 5 rfl) rfl rfl) rfl rfl hL fun a s e_ hL => ?_
    have lt_d31 := hL.blt 5 rfl
    refine st_callo 17 hL (split_Refine_ok h29) (xs := [.tmp 15, .tmp 16]) (.cons (o_t 15 rfl) (.cons (o_t 16 rfl) .nil)) rfl rfl rfl rfl fun a s og30 hg_ hL => ?_
    have d31 : Dis og30 (some g24) := Dis.new hg_ lt_d31
    refine st 3 (t_assign (o_t 17 rfl) rfl rfl) rfl rfl hL fun a s e_ hL => ?_
    refine en' ?_
    show K20 a s.w
    refine hK20 _ _ ?_
    obtain ⟨h32, h⟩ := h
    refine rg ?_
    refine st 18 (t_add (o_t 11 rfl) (o_i (by decide)) h32 rfl rfl) rfl rfl hL fun a s e_ hL => ?_
    refine st 11 (t_move (o_t 18 rfl) rfl rfl) rfl rfl hL fun a s e_ hL => ?_
    refine en' ?_
    exact hKL17 k16 a s (Nat.lt_succ_self _) ⟨r28, (v14 + 1), og30, hL.keep (.cons (t := 3) rfl (fun _ _ h_ => h_) (.cons (t := 9) rfl (fun _ h_ => h_.elim) (.cons (t := 10) rfl (fun _ h_ => h_.elim) (.cons (t := 11) rfl (fun _ h_ => h_.elim) .nil)))), h⟩
  · replace h := h.2 hb_
    refine wp_exit ?_
    exact J10 out12 og13 a s (hL.keep (.cons (t := 3) rfl (fun _ _ h_ => h_) .nil)) h

theorem split_Heads_ok {list_ : (List Cl)} {r_ : (List Int)} (h : split_Heads list_ r_) : Fn Try.prog 35 [(Pd.rep (En.slice En.cls) list_)] (Ro (En.int .u8) 5 r_) := by
  unfold split_Heads at h
  refine fn_of Try.func35 rfl Try.ntmps35 (by rfl) (by simp) fun s0 a hL => ?_
  refine wp_seq_k fun K1 hK1 => ?_
  refine rg ?_
  refine st 2 (t_assign (o_nil (E := (En.int .u8)) (N := s0.w.heap.size) (te := 5)) rfl rfl) rfl rfl hL fun a s e_ hL => ?_
  refine en' ?_
  show K1 a s.w
  refine hK1 _ _ ?_
  refine wp_seq_k fun K2 hK2 => ?_
  refine rg ?_
  refine st 3 (t_assign (o_nil (E := (En.int .u8)) (N := s0.w.heap.size) (te := 5)) rfl rfl) rfl rfl hL fun a s e_ hL => ?_
  refine en' ?_
  show K2 a s.w
  refine hK2 _ _ ?_
  refine wp_seq_k fun K3 hK3 => ?_
  refine wp_seq_k fun K4 hK4 => ?_
  obtain ⟨r5, h6, h⟩ := h
  refine rg ?_
  refine st 8 (t_move (o_t 0 rfl) rfl rfl) rfl rfl hL fun a s e_ hL => ?_
  refine st 9 (t_call ((split_Parts_ok h6).frz) (xs := [.tmp 8]) (.cons (o_t 8 rfl) .nil) rfl rfl) rfl rfl hL fun a s e_ hL => ?_
  refine st 10 (t_len (o_t 9 rfl) Try.underlying42 rfl rfl) rfl rfl hL fun a s e_ hL => ?_
  refine st 11 (t_move (o_i (by decide)) rfl rfl) rfl rfl hL fun a s e_ hL => ?_
  refine en' ?_
  show K4 a s.w
  refine hK4 _ _ ?_
  refine wp_block ?_
  have J9 : ∀ (out7 : (List Int)) (og8 : Option Nat) (a : Act) (s : St), Has N0 26 s0 a s [(3, (Pd.row (En.int .u8) s0.w.heap.size 5 og8 out7))] → ((split_Heads.j1 r_) out7) → K3 a s.w := by
    intro out7 og8 a s hL h
    unfold split_Heads.j1 at h
    show K3 a s.w
    refine hK3 _ _ ?_
    refine wp_seq_k fun K10 hK10 => ?_
    refine rg ?_
    refine st 25 (t_move (o_t 3 rfl) rfl rfl) rfl rfl hL fun a s e_ hL => ?_
    refine st 2 (t_assign (o_t 25 rfl) rfl rfl) rfl rfl hL fun a s e_ hL => ?_
    refine en' ?_
    show K10 a s.w
    refine hK10 _ _ ?_
    subst h
    exact wp_ret (reto rfl hL rfl)
  obtain ⟨k14, h⟩ := h
  refine lpg (fun k15 a s => ∃ (out11 : (List Int)) (v13 : Int) (og12 : Option Nat), Has N0 26 s0 a s [(3, (Pd.row (En.int .u8) s0.w.heap.size 5 og12 out11)), (9, (Pd.rep (En.slice En.cls) r5)), (10, (Pd.rep (En.int .i64) (r5.length : Int))), (11, (Pd.rep (En.int .i64) v13))] ∧ split_Heads.l1 r5 (split_Heads.j1 r_) k15 out11 v13) k14 ⟨[], 0, none, hL.keep (.cons (t := 3) rfl (fun _ _ h_ => h_) (.cons (t := 9) rfl (fun _ h_ => h_.elim) (.cons (t := 10) rfl (fun _ h_ => h_.elim) (.cons (t := 11) rfl (fun _ h_ => h_.elim) .nil)))), h⟩ ?_
  rintro k15 a s ⟨out11, v13, og12, hL, h⟩ KL16 hKL16
  cases k15 with
  | zero => exact h.elim
  | succ k15 =>
  unfold split_Heads.l1 at h
  refine wp_seq_k fun K17 hK17 => ?_
  refine rg ?_
  refine st 12 (t_lss (o_t 11 rfl) (o_t 10 rfl) rfl rfl) rfl rfl hL fun a s e_ hL => ?_
  refine en' ?_
  show K17 a s.w
  refine hK17 _ _ ?_
  refine wp_seq_k fun K18 hK18 => ?_
  refine cnd hL rfl (fun hb_ => ?_) (fun hb_ => ?_)
  · replace h := h.1 hb_
    refine wp_skip ?_
    show K18 a s.w
    refine hK18 _ _ ?_
    refine wp_seq_k fun K19 hK19 => ?_
    refine wp_block ?_
    refine wp_seq_k fun K20 hK20 => ?_
    obtain ⟨e21, h22, h⟩ := h
    refine rg ?_
    refine st 13 (t_idx (o_t 9 rfl) (o_t 11 rfl) h22 Try.underlying42 ty24 rfl rfl) rfl rfl hL fun a s e_ hL => ?_
    refine st 14 (t_load ty24 (o_t 13 rfl) rfl rfl) rfl rfl hL fun a s e_ hL => ?_
    have lt_d24 := hL.rlt 3 rfl
    refine st_alloc En.cls (z := (0#256)) 5 hL tyz24 rfl rfl rfl rfl fun a s g23 hg_ hL => ?_
    have d24 : Dis (some g23) og12 := Dis.newg hg_ lt_d24
    refine st_stb (L' := [(3, (Pd.row (En.int .u8) s0.w.heap.size 5 og12 out11)), (9, (Pd.rep (En.slice En.cls) r5)), (10, (Pd.rep (En.int .i64) (r5.length : Int))), (11, (Pd.rep (En.int .i64) v13))]) 5 hL rfl (o_t 14 rfl) ty24 rfl rfl rfl (.cons (t := 3) rfl (Dis.ow (Dis.symm d24)) (.cons (t := 9) rfl (fun _ h_ => h_.elim) (.cons (t := 10) rfl (fun _ h_ => h_.elim) (.cons (t := 11) rfl (fun _ h_ => h_.elim) .nil)))) fun s hL => ?_
    refine en' ?_
    show K20 a s.w
    refine hK20 _ _ ?_
    refine wp_seq_k fun K25 hK25 => ?_
    obtain ⟨r26, h27, h⟩ := h
    refine rg ?_
    refine st 16 (t_loadb ty24 (o_t 5 rfl) rfl rfl) rfl rfl hL fun a s e_ hL => ?_
    refine st 17 (t_call ((class_Least_ok h27).tup) (xs := [.tmp 16]) (.cons (o_t 16 rfl) .nil) rfl rfl) rfl rfl hL fun a s e_ hL => ?_
    refine st 15 (t_move (o_t 17 rfl) rfl rfl) rfl rfl hL fun a s e_ hL => ?_
    refine st 18 (t_ext0 (o_t 15 rfl) rfl rfl) rfl rfl hL fun a s e_ hL => ?_
    refine st 19 (t_ext1 (o_t 15 rfl) rfl rfl) rfl rfl hL fun a s e_ hL => ?_
    refine st 6 (t_assign (o_t 18 rfl) rfl rfl) rfl rfl hL fun a s e_ hL => ?_
    refine st 7 (t_assign (o_t 19 rfl) rfl rfl) rfl rfl hL fun a s e_ hL => ?_
    refine en' ?_
    show K25 a s.w
    refine hK25 _ _ ?_
    obtain ⟨h28, h⟩ := h
    refine rg ?_
    refine st 20 (t_move (o_t 3 rfl) rfl rfl) rfl rfl hL fun a s e_ hL => ?_
    refine st 21 (t_move (o_t 6 rfl) rfl rfl) rfl rfl hL fun a s e_ hL => ?_
    refine st 22 (t_lit (xs := [.tmp 21]) (.cons (o_t 21 rfl) .nil) Try.underlying40 ty5 rfl rfl (by decide) rfl rfl) rfl rfl hL fun a s e_ hL => ?_
    refine st_app (L' := [(9, (Pd.rep (En.slice En.cls) r5)), (10, (Pd.rep (En.int .i64) (r5.length : Int))), (11, (Pd.rep (En.int .i64) v13))]) 23 hL (o_t 20 rfl) (o_t 22 rfl) Try.underlying40 ty5 h28 rfl rfl rfl rfl (.cons (t := 9) rfl (fun _ h_ => h_.elim) (.cons (t := 10) rfl (fun _ h_ => h_.elim) (.cons (t := 11) rfl (fun _ h_ => h_.elim) .nil))) fun a s og29 hg_ hL => ?_
    refine st 3 (t_assign (o_t 23 rfl) rfl rfl) rfl rfl hL fun a s e_ hL => ?_
    refine en' ?_
    show K19 a s.w
    refine hK19 _ _ ?_
    obtain ⟨h30, h⟩ := h
    refine rg ?_
    refine st 24 (t_add (o_t 11 rfl) (o_i (by decide)) h30 rfl rfl) rfl rfl hL fun a s e_ hL => ?_
    refine st 11 (t_move (o_t 24 rfl) rfl rfl) rfl rfl hL fun a s e_ hL => ?_
    refine en' ?_
    exact hKL16 k15 a s (Nat.lt_succ_self _) ⟨(out11 ++ [r26.1]), (v13 + 1), og29, hL.keep (.cons (t := 3) rfl (fun _ _ h_ => h_) (.cons (t := 9) rfl (fun _ h_ => h_.elim) (.cons (t := 10) rfl (fun _ h_ => h_.elim) (.cons (t := 11) rfl (fun _ h_ => h_.elim) .nil)))), h⟩
  · replace h := h.2 hb_
    refine wp_exit ?_
    exact J9 out11 og12 a s (hL.keep (.cons (t := 3) rfl (fun _ _ h_ => h_) .nil)) h

theorem ref02_Bytes_ok {a_ : (List Int)} {b_ : (List Int)} {r_ : Bool} (h : ref02_Bytes a_ b_ r_) : Fn Try.prog 34 [(Pd.rep (En.slice (En.int .u8)) a_), (Pd.rep (En.slice (En.int .u8)) b_)] (Rq (Pd.rep En.bool r_)) := by
  unfold ref02_Bytes at h
  refine fn_of Try.func34 rfl Try.ntmps34 (by rfl) (by simp) fun s0 a hL => ?_
  refine wp_seq_k fun K1 hK1 => ?_
  refine rg ?_
  refine st 4 (t_assign o_b rfl rfl) rfl rfl hL fun a s e_ hL => ?_
  refine en' ?_
  show K1 a s.w
  refine hK1 _ _ ?_
  refine wp_seq_k fun K2 hK2 => ?_
  refine wp_seq_k fun K3 hK3 => ?_
  refine rg ?_
  refine st 6 (t_move (o_t 0 rfl) rfl rfl) rfl rfl hL fun a s e_ hL => ?_
  refine st 7 (t_len (o_t 6 rfl) Try.underlying40 rfl rfl) rfl rfl hL fun a s e_ hL => ?_
  refine st 8 (t_move (o_t 1 rfl) rfl rfl) rfl rfl hL fun a s e_ hL => ?_
  refine st 9 (t_len (o_t 8 rfl) Try.underlying40 rfl rfl) rfl rfl hL fun a s e_ hL => ?_
  refine st 10 (t_nei (o_t 7 rfl) (o_t 9 rfl) rfl rfl) rfl rfl hL fun a s e_ hL => ?_
  refine en' ?_
  show K3 a s.w
  refine hK3 _ _ ?_
  refine cnd hL rfl (fun hb_ => ?_) (fun hb_ => ?_)
  · replace h := h.1 hb_
    refine wp_seq_k fun K4 hK4 => ?_
    refine rg ?_
    refine st 4 (t_assign o_b rfl rfl) rfl rfl hL fun a s e_ hL => ?_
    refine en' ?_
    show K4 a s.w
    refine hK4 _ _ ?_
    subst h
    exact wp_ret (retq rfl hL rfl)
  · replace h := h.2 hb_
    refine wp_skip ?_
    show K2 a s.w
    refine hK2 _ _ ?_
    refine wp_seq_k fun K5 hK5 => ?_
    refine wp_seq_k fun K6 hK6 => ?_
    refine rg ?_
    refine st 5 (t_assign (o_i (by decide)) rfl rfl) rfl rfl hL fun a s e_ hL => ?_
    refine en' ?_
    show K6 a s.w
    refine hK6 _ _ ?_
    refine wp_block ?_
    have J7 : ∀ (a : Act) (s : St), Has N0 26 s0 a s [] → ((ref02_Bytes.j1 r_)) → K5 a s.w := by
      intro a s hL h
      unfold ref02_Bytes.j1 at h
      show K5 a s.w
      refine hK5 _ _ ?_
      refine wp_seq_k fun K8 hK8 => ?_
      refine rg ?_
      refine st 4 (t_assign o_b rfl rfl) rfl rfl hL fun a s e_ hL => ?_
      refine en' ?_
      show K8 a s.w
      refine hK8 _ _ ?_
      subst h
      exact wp_ret (retq rfl hL rfl)
    obtain ⟨k10, h⟩ := h
    refine lpg (fun k11 a s => ∃ (i9 : Int), Has N0 26 s0 a s [(0, (Pd.rep (En.slice (En.int .u8)) a_)), (1, (Pd.rep (En.slice (En.int .u8)) b_)), (5, (Pd.rep (En.int .i64) i9))] ∧ ref02_Bytes.l1 a_ b_ r_ (ref02_Bytes.j1 r_) k11 i9) k10 ⟨0, hL.keep (.cons (t := 0) rfl (fun _ h_ => h_.elim) (.cons (t := 1) rfl (fun _ h_ => h_.elim) (.cons (t := 5) rfl (fun _ h_ => h_.elim) .nil))), h⟩ ?_
    rintro k11 a s ⟨i9, hL, h⟩ KL12 hKL12
    cases k11 with
    | zero => exact h.elim
    | succ k11 =>
    unfold ref02_Bytes.l1 at h
    refine wp_seq_k fun K13 hK13 => ?_
    refine wp_seq_k fun K14 hK14 => ?_
    refine rg ?_
    refine st 11 (t_move (o_t 5 rfl) rfl rfl) rfl rfl hL fun a s e_ hL => ?_
    refine st 12 (t_move (o_t 0 rfl) rfl rfl) rfl rfl hL fun a s e_ hL => ?_
    refine st 13 (t_len (o_t 12 rfl) Try.underlying40 rfl rfl) rfl rfl hL fun a s e_ hL => ?_
    refine st 14 (t_lss (o_t 11 rfl) (o_t 13 rfl) rfl rfl) rfl rfl hL fun a s e_ hL => ?_
    refine en' ?_
    show K14 a s.w
    refine hK14 _ _ ?_
    refine cnd hL rfl (fun hb_ => ?_) (fun hb_ => ?_)
    · replace h := h.1 hb_
      refine wp_skip ?_
      show K13 a s.w
      refine hK13 _ _ ?_
      refine wp_seq_k fun K15 hK15 => ?_
      refine wp_block ?_
      refine wp_seq_k fun K16 hK16 => ?_
      obtain ⟨e17, h18, e19, h20, h⟩ := h
      refine rda follows 9 [(Pd.rep (En.slice (En.int .u8)) a_), (Pd.rep (En.int .i64) i9), (Pd.ptr (En.int .u8) e17), (Pd.rep (En.int .u8) e17), (Pd.rep (En.slice (En.int .u8)) b_), (Pd.rep (En.int .i64) i9), (Pd.ptr (En.int .u8) e19), (Pd.rep (En.int .u8) e19), (Pd.rep En.bool (e17 != e19))] hL (by kernel_rfl) rfl rfl ?_ ?_
      · refine AllT.cons (t_move (o_t 0 rfl) rfl rfl) ?_
        refine AllT.cons (t_move (o_t 5 rfl) rfl rfl) ?_
        refine AllT.cons (t_idx (o_t 17 rfl) (o_t 18 rfl) h18 Try.underlying40 ty5 rfl rfl) ?_
        refine AllT.cons (t_load ty5 (o_t 19 rfl) rfl rfl) ?_
        refine AllT.cons (t_move (o_t 1 rfl) rfl rfl) ?_
        refine AllT.cons (t_move (o_t 5 rfl) rfl rfl) ?_
        refine AllT.cons (t_idx (o_t 21 rfl) (o_t 22 rfl) h20 Try.underlying40 ty5 rfl rfl) ?_
        refine AllT.cons (t_load ty5 (o_t 23 rfl) rfl rfl) ?_
        refine AllT.cons (t_nei (o_t 20 rfl) (o_t 24 rfl) rfl rfl) ?_
        exact AllT.nil
      intro a s e_ hL
      refine en' ?_
      show K16 a s.w
      refine hK16 _ _ ?_
      refine cnd hL rfl (fun hb_ => ?_) (fun hb_ => ?_)
      · replace h := h.1 hb_
        refine wp_seq_k fun K21 hK21 => ?_
        refine rg ?_
        refine st 4 (t_assign o_b rfl rfl) rfl rfl hL fun a s e_ hL => ?_
        refine en' ?_
        show K21 a s.w
        refine hK21 _ _ ?_
        subst h
        exact wp_ret (retq rfl hL rfl)
      · replace h := h.2 hb_
        refine wp_skip ?_
        show K15 a s.w
        refine hK15 _ _ ?_
        obtain ⟨h22, h⟩ := h
        refine rg ?_
        refine st 15 (t_move (o_t 5 rfl) rfl rfl) rfl rfl hL fun a s e_ hL => ?_
        refine st 16 (t_add (o_t 15 rfl) (o_i (by decide)) h22 rfl rfl) rfl rfl hL fun a s e_ hL => ?_
        refine st 5 (t_assign (o_t 16 rfl) rfl rfl) rfl rfl hL fun a s e_ hL => ?_
        refine en' ?_
        exact hKL12 k11 a s (Nat.lt_succ_self _) ⟨(i9 + 1), hL.keep (.cons (t := 0) rfl (fun _ h_ => h_.elim) (.cons (t := 1) rfl (fun _ h_ => h_.elim) (.cons (t := 5) rfl (fun _ h_ => h_.elim) .nil))), h⟩
    · replace h := h.2 hb_
      refine wp_exit ?_
      exact J7 a s (hL.keep .nil) h

theorem ref02_Same_ok {a_ : (List Cl)} {b_ : (List Cl)} {r_ : Bool} (h : ref02_Same a_ b_ r_) : Fn Try.prog 31 [(Pd.rep (En.slice En.cls) a_), (Pd.rep (En.slice En.cls) b_)] (Rq (Pd.rep En.bool r_)) := by
  unfold ref02_Same at h
  refine fn_of Try.func31 rfl Try.ntmps31 (by rfl) (by simp) fun s0 a hL => ?_
  refine wp_seq_k fun K1 hK1 => ?_
  refine rg ?_
  refine st 4 (t_assign o_b rfl rfl) rfl rfl hL fun a s e_ hL => ?_
  refine en' ?_
  show K1 a s.w
  refine hK1 _ _ ?_
  refine wp_seq_k fun K2 hK2 => ?_
  refine wp_seq_k fun K3 hK3 => ?_
  refine rg ?_
  refine st 6 (t_move (o_t 0 rfl) rfl rfl) rfl rfl hL fun a s e_ hL => ?_
  refine st 7 (t_len (o_t 6 rfl) Try.underlying42 rfl rfl) rfl rfl hL fun a s e_ hL => ?_
  refine st 8 (t_move (o_t 1 rfl) rfl rfl) rfl rfl hL fun a s e_ hL => ?_
  refine st 9 (t_len (o_t 8 rfl) Try.underlying42 rfl rfl) rfl rfl hL fun a s e_ hL => ?_
  refine st 10 (t_nei (o_t 7 rfl) (o_t 9 rfl) rfl rfl) rfl rfl hL fun a s e_ hL => ?_
  refine en' ?_
  show K3 a s.w
  refine hK3 _ _ ?_
  refine cnd hL rfl (fun hb_ => ?_) (fun hb_ => ?_)
  · replace h := h.1 hb_
    refine wp_seq_k fun K4 hK4 => ?_
    refine rg ?_
    refine st 4 (t_assign o_b rfl rfl) rfl rfl hL fun a s e_ hL => ?_
    refine en' ?_
    show K4 a s.w
    refine hK4 _ _ ?_
    subst h
    exact wp_ret (retq rfl hL rfl)
  · replace h := h.2 hb_
    refine wp_skip ?_
    show K2 a s.w
    refine hK2 _ _ ?_
    refine wp_seq_k fun K5 hK5 => ?_
    refine wp_seq_k fun K6 hK6 => ?_
    refine rg ?_
    refine st 5 (t_assign (o_i (by decide)) rfl rfl) rfl rfl hL fun a s e_ hL => ?_
    refine en' ?_
    show K6 a s.w
    refine hK6 _ _ ?_
    refine wp_block ?_
    have J7 : ∀ (a : Act) (s : St), Has N0 26 s0 a s [] → ((ref02_Same.j1 r_)) → K5 a s.w := by
      intro a s hL h
      unfold ref02_Same.j1 at h
      show K5 a s.w
      refine hK5 _ _ ?_
      refine wp_seq_k fun K8 hK8 => ?_
      refine rg ?_
      refine st 4 (t_assign o_b rfl rfl) rfl rfl hL fun a s e_ hL => ?_
      refine en' ?_
      show K8 a s.w
      refine hK8 _ _ ?_
      subst h
      exact wp_ret (retq rfl hL rfl)
    obtain ⟨k10, h⟩ := h
    refine lpg (fun k11 a s => ∃ (i9 : Int), Has N0 26 s0 a s [(0, (Pd.rep (En.slice En.cls) a_)), (1, (Pd.rep (En.slice En.cls) b_)), (5, (Pd.rep (En.int .i64) i9))] ∧ ref02_Same.l1 a_ b_ r_ (ref02_Same.j1 r_) k11 i9) k10 ⟨0, hL.keep (.cons (t := 0) rfl (fun _ h_ => h_.elim) (.cons (t := 1) rfl (fun _ h_ => h_.elim) (.cons (t := 5) rfl (fun _ h_ => h_.elim) .nil))), h⟩ ?_
    rintro k11 a s ⟨i9, hL, h⟩ KL12 hKL12
    cases k11 with
    | zero => exact h.elim
    | succ k11 =>
    unfold ref02_Same.l1 at h
    refine wp_seq_k fun K13 hK13 => ?_
    refine wp_seq_k fun K14 hK14 => ?_
    refine rg ?_
    refine st 11 (t_move (o_t 5 rfl) rfl rfl) rfl rfl hL fun a s e_ hL => ?_
    refine st 12 (t_move (o_t 0 rfl) rfl rfl) rfl rfl hL fun a s e_ hL => ?_
    refine st 13 (t_len (o_t 12 rfl) Try.underlying42 rfl rfl) rfl rfl hL fun a s e_ hL => ?_
    refine st 14 (t_lss (o_t 11 rfl) (o_t 13 rfl) rfl rfl) rfl rfl hL fun a s e_ hL => ?_
    refine en' ?_
    show K14 a s.w
    refine hK14 _ _ ?_
    refine cnd hL rfl (fun hb_ => ?_) (fun hb_ => ?_)
    · replace h := h.1 hb_
      refine wp_skip ?_
      show K13 a s.w
      refine hK13 _ _ ?_
      refine wp_seq_k fun K15 hK15 => ?_
      refine wp_block ?_
      refine wp_seq_k fun K16 hK16 => ?_
      obtain ⟨e17, h18, e19, h20, h⟩ := h
      refine rda follows 9 [(Pd.rep (En.slice En.cls) a_), (Pd.rep (En.int .i64) i9), (Pd.ptr En.cls e17), (Pd.rep En.cls e17), (Pd.rep (En.slice En.cls) b_), (Pd.rep (En.int .i64) i9), (Pd.ptr En.cls e19), (Pd.rep En.cls e19), (Pd.rep En.bool (e17 != e19))] hL (by kernel_rfl) rfl rfl ?_ ?_
      · refine AllT.cons (t_move (o_t 0 rfl) rfl rfl) ?_
        refine AllT.cons (t_move (o_t 5 rfl) rfl rfl) ?_
        refine AllT.cons (t_idx (o_t 17 rfl) (o_t 18 rfl) h18 Try.underlying42 ty24 rfl rfl) ?_
        refine AllT.cons (t_load ty24 (o_t 19 rfl) rfl rfl) ?_
        refine AllT.cons (t_move (o_t 1 rfl) rfl rfl) ?_
        refine AllT.cons (t_move (o_t 5 rfl) rfl rfl) ?_
        refine AllT.cons (t_idx (o_t 21 rfl) (o_t 22 rfl) h20 Try.underlying42 ty24 rfl rfl) ?_
        refine AllT.cons (t_load ty24 (o_t 23 rfl) rfl rfl) ?_
        refine AllT.cons (t_nev eq24 (o_t 20 rfl) (o_t 24 rfl) rfl rfl) ?_
        exact AllT.nil
      intro a s e_ hL
      refine en' ?_
      show K16 a s.w
      refine hK16 _ _ ?_
      refine cnd hL rfl (fun hb_ => ?_) (fun hb_ => ?_)
      · replace h := h.1 hb_
        refine wp_seq_k fun K21 hK21 => ?_
        refine rg ?_
        refine st 4 (t_assign o_b rfl rfl) rfl rfl hL fun a s e_ hL => ?_
        refine en' ?_
        show K21 a s.w
        refine hK21 _ _ ?_
        subst h
        exact wp_ret (retq rfl hL rfl)
      · replace h := h.2 hb_
        refine wp_skip ?_
        show K15 a s.w
        refine hK15 _ _ ?_
        obtain ⟨h22, h⟩ := h
        refine rg ?_
        refine st 15 (t_move (o_t 5 rfl) rfl rfl) rfl rfl hL fun a s e_ hL => ?_
        refine st 16 (t_add (o_t 15 rfl) (o_i (by decide)) h22 rfl rfl) rfl rfl hL fun a s e_ hL => ?_
        refine st 5 (t_assign (o_t 16 rfl) rfl rfl) rfl rfl hL fun a s e_ hL => ?_
        refine en' ?_
        exact hKL12 k11 a s (Nat.lt_succ_self _) ⟨(i9 + 1), hL.keep (.cons (t := 0) rfl (fun _ h_ => h_.elim) (.cons (t := 1) rfl (fun _ h_ => h_.elim) (.cons (t := 5) rfl (fun _ h_ => h_.elim) .nil))), h⟩
    · replace h := h.2 hb_
      refine wp_exit ?_
      exact J7 a s (hL.keep .nil) h

theorem law02_awake_ok  {r_ : Bool} (h : law02_awake  r_) : Fn Try.prog 30 [] (Rq (Pd.rep En.bool r_)) := by
  unfold law02_awake at h
  refine fn_of Try.func30 rfl Try.ntmps30 (by rfl) (by simp) fun s0 a hL => ?_
  refine wp_seq_k fun K1 hK1 => ?_
  refine rg ?_
  refine st 0 (t_assign o_b rfl rfl) rfl rfl hL fun a s e_ hL => ?_
  refine en' ?_
  show K1 a s.w
  refine hK1 _ _ ?_
  refine wp_seq_k fun K2 hK2 => ?_
  obtain ⟨r3, h4, h⟩ := h
  refine rg ?_
  refine st 5 (t_call (ref01_Row_ok h4) (xs := [.const (.int .u8 3), .const (.int .u8 5)]) (.cons (o_i (by decide)) (.cons (o_i (by decide)) .nil)) rfl rfl) rfl rfl hL fun a s e_ hL => ?_
  refine st_alloc En.cls (z := (0#256)) 1 hL tyz24 rfl rfl rfl rfl fun a s g5 hg_ hL => ?_
  refine st_stb (L' := []) 1 hL rfl (o_t 5 rfl) ty24 rfl rfl rfl .nil fun s hL => ?_
  refine en' ?_
  show K2 a s.w
  refine hK2 _ _ ?_
  refine wp_seq_k fun K6 hK6 => ?_
  obtain ⟨r7, h8, h⟩ := h
  refine rg ?_
  refine st 6 (t_call (ref01_Row_ok h8) (xs := [.const (.int .u8 5), .const (.int .u8 9)]) (.cons (o_i (by decide)) (.cons (o_i (by decide)) .nil)) rfl rfl) rfl rfl hL fun a s e_ hL => ?_
  have lt_d10 := hL.blt 1 rfl
  refine st_alloc En.cls (z := (0#256)) 2 hL tyz24 rfl rfl rfl rfl fun a s g9 hg_ hL => ?_
  have d10 : Dis (some g9) (some g5) := Dis.newg hg_ lt_d10
  refine st_stb (L' := [(1, (Pd.box En.cls s0.w.heap.size g5 r3))]) 2 hL rfl (o_t 6 rfl) ty24 rfl rfl rfl (.cons (t := 1) rfl (Dis.bx (Dis.symm d10)) .nil) fun s hL => ?_
  refine en' ?_
  show K6 a s.w
  refine hK6 _ _ ?_
  refine wp_seq_k fun K11 hK11 => ?_
  obtain ⟨r12, h13, h⟩ := h
  refine rg ?_
  refine st 7 (t_loadb ty24 (o_t 1 rfl) rfl rfl) rfl rfl hL fun a s e_ hL => ?_
  refine st 8 (t_loadb ty24 (o_t 2 rfl) rfl rfl) rfl rfl hL fun a s e_ hL => ?_
  refine st 9 (t_lit (xs := [.tmp 7, .tmp 8]) (.cons (o_t 7 rfl) (.cons (o_t 8 rfl) .nil)) Try.underlying42 ty24 rfl rfl (by decide) rfl rfl) rfl rfl hL fun a s e_ hL => ?_
  refine st 10 (t_call ((split_Parts_ok h13).frz) (xs := [.tmp 9]) (.cons (o_t 9 rfl) .nil) rfl rfl) rfl rfl hL fun a s e_ hL => ?_
  refine st 3 (t_assign (o_t 10 rfl) rfl rfl) rfl rfl hL fun a s e_ hL => ?_
  refine en' ?_
  show K11 a s.w
  refine hK11 _ _ ?_
  refine wp_seq_k fun K14 hK14 => ?_
  obtain ⟨r15, h16, h⟩ := h
  refine rg ?_
  refine st 11 (t_call ((split_Parts_ok h16).frz) (xs := [.const (.slice none 0 0)]) (.cons o_nilr .nil) rfl rfl) rfl rfl hL fun a s e_ hL => ?_
  refine st 4 (t_assign (o_t 11 rfl) rfl rfl) rfl rfl hL fun a s e_ hL => ?_
  refine en' ?_
  show K14 a s.w
  refine hK14 _ _ ?_
  refine wp_seq_k fun K17 hK17 => ?_
  obtain ⟨e18, h19, r20, h21, e22, h23, r24, h25, b26, h27, e28, h29, r30, h31, b32, h33, e34, h35, r36, h37, r38, h39, r40, h41, r42, h43, r44, h45, r46, h47, r48, h49, h⟩ := h
  refine rda follows 56 [(Pd.rep (En.slice En.cls) r12), (Pd.rep (En.int .i64) (r12.length : Int)), (Pd.rep En.bool ((r12.length : Int) == 4)), (Pd.rep En.bool ((r12.length : Int) == 4)), (Pd.when ((((r12.length : Int) == 4)) = true) (Pd.rep (En.slice En.cls) r12)), (Pd.when ((((r12.length : Int) == 4)) = true) (Pd.ptr En.cls e18)), (Pd.when ((((r12.length : Int) == 4)) = true) (Pd.rep En.cls e18)), (Pd.when ((((r12.length : Int) == 4)) = true) (Pd.rep En.cls r20)), (Pd.when ((((r12.length : Int) == 4)) = true) (Pd.rep En.bool (e18 == r20))), (Pd.rep En.bool (((r12.length : Int) == 4) && (e18 == r20))), (Pd.rep En.bool (((r12.length : Int) == 4) && (e18 == r20))), (Pd.when (((((r12.length : Int) == 4) && (e18 == r20))) = true) (Pd.rep (En.slice En.cls) r12)), (Pd.when (((((r12.length : Int) == 4) && (e18 == r20))) = true) (Pd.ptr En.cls e22)), (Pd.when (((((r12.length : Int) == 4) && (e18 == r20))) = true) (Pd.rep En.cls e22)), (Pd.when (((((r12.length : Int) == 4) && (e18 == r20))) = true) (Pd.rep En.cls r24)), (Pd.when (((((r12.length : Int) == 4) && (e18 == r20))) = true) (Pd.rep En.bool (e22 == r24))), (Pd.rep En.bool b26), (Pd.rep En.bool b26), (Pd.when ((b26) = true) (Pd.rep (En.slice En.cls) r12)), (Pd.when ((b26) = true) (Pd.ptr En.cls e28)), (Pd.when ((b26) = true) (Pd.rep En.cls e28)), (Pd.when ((b26) = true) (Pd.rep En.cls r30)), (Pd.when ((b26) = true) (Pd.rep En.bool (e28 == r30))), (Pd.rep En.bool (b26 && (e28 == r30))), (Pd.rep En.bool (b26 && (e28 == r30))), (Pd.when (((b26 && (e28 == r30))) = true) (Pd.rep (En.slice En.cls) r15)), (Pd.when (((b26 && (e28 == r30))) = true) (Pd.rep (En.int .i64) (r15.length : Int))), (Pd.when (((b26 && (e28 == r30))) = true) (Pd.rep En.bool ((r15.length : Int) == 1))), (Pd.rep En.bool b32), (Pd.rep En.bool b32), (Pd.when ((b32) = true) (Pd.rep (En.slice En.cls) r15)), (Pd.when ((b32) = true) (Pd.ptr En.cls e34)), (Pd.when ((b32) = true) (Pd.rep En.cls e34)), (Pd.when ((b32) = true) (Pd.rep En.cls r36)), (Pd.when ((b32) = true) (Pd.rep En.bool (e34 == r36))), (Pd.rep En.bool (b32 && (e34 == r36))), (Pd.rep En.bool (b32 && (e34 == r36))), (Pd.when (((b32 && (e34 == r36))) = true) (Pd.rep En.cls r3)), (Pd.when (((b32 && (e34 == r36))) = true) (Pd.rep En.cls r7)), (Pd.when (((b32 && (e34 == r36))) = true) (Pd.rep (En.slice En.cls) [r3, r7])), (Pd.when (((b32 && (e34 == r36))) = true) (Pd.rep (En.slice (En.int .u8)) r38)), (Pd.when (((b32 && (e34 == r36))) = true) (Pd.rep (En.slice (En.int .u8)) [0, 3, 5, 6])), (Pd.when (((b32 && (e34 == r36))) = true) (Pd.rep En.bool r40)), (Pd.rep En.bool ((b32 && (e34 == r36)) && r40)), (Pd.rep En.bool ((b32 && (e34 == r36)) && r40)), (Pd.when ((((b32 && (e34 == r36)) && r40)) = true) (Pd.rep En.cls r7)), (Pd.when ((((b32 && (e34 == r36)) && r40)) = true) (Pd.rep En.cls r3)), (Pd.when ((((b32 && (e34 == r36)) && r40)) = true) (Pd.rep (En.slice En.cls) [r7, r3])), (Pd.when ((((b32 && (e34 == r36)) && r40)) = true) (Pd.rep En.cls r3)), (Pd.when ((((b32 && (e34 == r36)) && r40)) = true) (Pd.rep (En.slice En.cls) r42)), (Pd.when ((((b32 && (e34 == r36)) && r40)) = true) (Pd.rep En.cls r3)), (Pd.when ((((b32 && (e34 == r36)) && r40)) = true) (Pd.rep En.cls r44)), (Pd.when ((((b32 && (e34 == r36)) && r40)) = true) (Pd.rep En.cls r46)), (Pd.when ((((b32 && (e34 == r36)) && r40)) = true) (Pd.rep (En.slice En.cls) [r3, r44, r46])), (Pd.when ((((b32 && (e34 == r36)) && r40)) = true) (Pd.rep En.bool r48)), (Pd.rep En.bool (((b32 && (e34 == r36)) && r40) && r48))] hL (by kernel_rfl) rfl rfl ?_ ?_
  · refine AllT.cons (t_move (o_t 3 rfl) rfl rfl) ?_
    refine AllT.cons (t_len (o_t 12 rfl) Try.underlying42 rfl rfl) ?_
    refine AllT.cons (t_eqi (o_t 13 rfl) (o_i (by decide)) rfl rfl) ?_
    refine AllT.cons (t_move (o_t 14 rfl) rfl rfl) ?_
    refine AllT.cons (t_g1 rfl rfl rfl (fun hc_ => t_move (o_t 3 rfl) rfl rfl)) ?_
    refine AllT.cons (t_g1 rfl rfl rfl (fun hc_ => t_idx (o_w hc_ 16 rfl) (o_i (by decide)) (h19 hc_) Try.underlying42 ty24 rfl rfl)) ?_
    refine AllT.cons (t_g1 rfl rfl rfl (fun hc_ => t_load ty24 (o_w hc_ 17 rfl) rfl rfl)) ?_
    refine AllT.cons (t_g1 rfl rfl rfl (fun hc_ => t_call (ref01_Row_ok (h21 hc_)) (xs := [.const (.int .u8 3), .const (.int .u8 4)]) (.cons (o_i (by decide)) (.cons (o_i (by decide)) .nil)) rfl rfl)) ?_
    refine AllT.cons (t_g1 rfl rfl rfl (fun hc_ => t_eqv eq24 (o_w hc_ 18 rfl) (o_w hc_ 19 rfl) rfl rfl)) ?_
    refine AllT.cons (t_and (o_t 15 rfl) (fun hc2_ => (o_w hc2_ 20 rfl)) rfl rfl) ?_
    refine AllT.cons (t_move (o_t 21 rfl) rfl rfl) ?_
    refine AllT.cons (t_g1 rfl rfl rfl (fun hc_ => t_move (o_t 3 rfl) rfl rfl)) ?_
    refine AllT.cons (t_g1 rfl rfl rfl (fun hc_ => t_idx (o_w hc_ 23 rfl) (o_i (by decide)) (h23 hc_) Try.underlying42 ty24 rfl rfl)) ?_
    refine AllT.cons (t_g1 rfl rfl rfl (fun hc_ => t_load ty24 (o_w hc_ 24 rfl) rfl rfl)) ?_
    refine AllT.cons (t_g1 rfl rfl rfl (fun hc_ => t_call (ref01_Row_ok (h25 hc_)) (xs := [.const (.int .u8 5), .const (.int .u8 5)]) (.cons (o_i (by decide)) (.cons (o_i (by decide)) .nil)) rfl rfl)) ?_
    refine AllT.cons (t_g1 rfl rfl rfl (fun hc_ => t_eqv eq24 (o_w hc_ 25 rfl) (o_w hc_ 26 rfl) rfl rfl)) ?_
    refine AllT.cons (h27 ▸ (t_and (o_t 22 rfl) (fun hc2_ => (o_w hc2_ 27 rfl)) rfl rfl)) ?_
    refine AllT.cons (t_move (o_t 28 rfl) rfl rfl) ?_
    refine AllT.cons (t_g1 rfl rfl rfl (fun hc_ => t_move (o_t 3 rfl) rfl rfl)) ?_
    refine AllT.cons (t_g1 rfl rfl rfl (fun hc_ => t_idx (o_w hc_ 30 rfl) (o_i (by decide)) (h29 hc_) Try.underlying42 ty24 rfl rfl)) ?_
    refine AllT.cons (t_g1 rfl rfl rfl (fun hc_ => t_load ty24 (o_w hc_ 31 rfl) rfl rfl)) ?_
    refine AllT.cons (t_g1 rfl rfl rfl (fun hc_ => t_call (ref01_Row_ok (h31 hc_)) (xs := [.const (.int .u8 6), .const (.int .u8 9)]) (.cons (o_i (by decide)) (.cons (o_i (by decide)) .nil)) rfl rfl)) ?_
    refine AllT.cons (t_g1 rfl rfl rfl (fun hc_ => t_eqv eq24 (o_w hc_ 32 rfl) (o_w hc_ 33 rfl) rfl rfl)) ?_
    refine AllT.cons (t_and (o_t 29 rfl) (fun hc2_ => (o_w hc2_ 34 rfl)) rfl rfl) ?_
    refine AllT.cons (t_move (o_t 35 rfl) rfl rfl) ?_
    refine AllT.cons (t_g1 rfl rfl rfl (fun hc_ => t_move (o_t 4 rfl) rfl rfl)) ?_
    refine AllT.cons (t_g1 rfl rfl rfl (fun hc_ => t_len (o_w hc_ 37 rfl) Try.underlying42 rfl rfl)) ?_
    refine AllT.cons (t_g1 rfl rfl rfl (fun hc_ => t_eqi (o_w hc_ 38 rfl) (o_i (by decide)) rfl rfl)) ?_
    refine AllT.cons (h33 ▸ (t_and (o_t 36 rfl) (fun hc2_ => (o_w hc2_ 39 rfl)) rfl rfl)) ?_
    refine AllT.cons (t_move (o_t 40 rfl) rfl rfl) ?_
    refine AllT.cons (t_g1 rfl rfl rfl (fun hc_ => t_move (o_t 4 rfl) rfl rfl)) ?_
    refine AllT.cons (t_g1 rfl rfl rfl (fun hc_ => t_idx (o_w hc_ 42 rfl) (o_i (by decide)) (h35 hc_) Try.underlying42 ty24 rfl rfl)) ?_
    refine AllT.cons (t_g1 rfl rfl rfl (fun hc_ => t_load ty24 (o_w hc_ 43 rfl) rfl rfl)) ?_
    refine AllT.cons (t_g1 rfl rfl rfl (fun hc_ => t_call (ref01_Row_ok (h37 hc_)) (xs := [.const (.int .u8 0), .const (.int .u8 255)]) (.cons (o_i (by decide)) (.cons (o_i (by decide)) .nil)) rfl rfl)) ?_
    refine AllT.cons (t_g1 rfl rfl rfl (fun hc_ => t_eqv eq24 (o_w hc_ 44 rfl) (o_w hc_ 45 rfl) rfl rfl)) ?_
    refine AllT.cons (t_and (o_t 41 rfl) (fun hc2_ => (o_w hc2_ 46 rfl)) rfl rfl) ?_
    refine AllT.cons (t_move (o_t 47 rfl) rfl rfl) ?_
    refine AllT.cons (t_g1 rfl rfl rfl (fun hc_ => t_loadb ty24 (o_t 1 rfl) rfl rfl)) ?_
    refine AllT.cons (t_g1 rfl rfl rfl (fun hc_ => t_loadb ty24 (o_t 2 rfl) rfl rfl)) ?_
    refine AllT.cons (t_g1 rfl rfl rfl (fun hc_ => t_lit (xs := [.tmp 49, .tmp 50]) (.cons (o_w hc_ 49 rfl) (.cons (o_w hc_ 50 rfl) .nil)) Try.underlying42 ty24 rfl rfl (by decide) rfl rfl)) ?_
    refine AllT.cons (t_g1 rfl rfl rfl (fun hc_ => t_call ((split_Heads_ok (h39 hc_)).frz) (xs := [.tmp 51]) (.cons (o_w hc_ 51 rfl) .nil) rfl rfl)) ?_
    refine AllT.cons (t_g1 rfl rfl rfl (fun hc_ => t_lit (xs := [.const (.int .u8 0), .const (.int .u8 3), .const (.int .u8 5), .const (.int .u8 6)]) (.cons (o_i (by decide)) (.cons (o_i (by decide)) (.cons (o_i (by decide)) (.cons (o_i (by decide)) .nil)))) Try.underlying40 ty5 rfl rfl (by decide) rfl rfl)) ?_
    refine AllT.cons (t_g1 rfl rfl rfl (fun hc_ => t_call (ref02_Bytes_ok (h41 hc_)) (xs := [.tmp 52, .tmp 53]) (.cons (o_w hc_ 52 rfl) (.cons (o_w hc_ 53 rfl) .nil)) rfl rfl)) ?_
    refine AllT.cons (t_and (o_t 48 rfl) (fun hc2_ => (o_w hc2_ 54 rfl)) rfl rfl) ?_
    refine AllT.cons (t_move (o_t 55 rfl) rfl rfl) ?_
    refine AllT.cons (t_g1 rfl rfl rfl (fun hc_ => t_loadb ty24 (o_t 2 rfl) rfl rfl)) ?_
    refine AllT.cons (t_g1 rfl rfl rfl (fun hc_ => t_loadb ty24 (o_t 1 rfl) rfl rfl)) ?_
    refine AllT.cons (t_g1 rfl rfl rfl (fun hc_ => t_lit (xs := [.tmp 57, .tmp 58]) (.cons (o_w hc_ 57 rfl) (.cons (o_w hc_ 58 rfl) .nil)) Try.underlying42 ty24 rfl rfl (by decide) rfl rfl)) ?_
    refine AllT.cons (t_g1 rfl rfl rfl (fun hc_ => t_loadb ty24 (o_t 1 rfl) rfl rfl)) ?_
    refine AllT.cons (t_g1 rfl rfl rfl (fun hc_ => t_call ((split_Refine_ok (h43 hc_)).frz) (xs := [.tmp 59, .tmp 60]) (.cons (o_w hc_ 59 rfl) (.cons (o_w hc_ 60 rfl) .nil)) rfl rfl)) ?_
    refine AllT.cons (t_g1 rfl rfl rfl (fun hc_ => t_loadb ty24 (o_t 1 rfl) rfl rfl)) ?_
    refine AllT.cons (t_g1 rfl rfl rfl (fun hc_ => t_call (ref01_Row_ok (h45 hc_)) (xs := [.const (.int .u8 5), .const (.int .u8 5)]) (.cons (o_i (by decide)) (.cons (o_i (by decide)) .nil)) rfl rfl)) ?_
    refine AllT.cons (t_g1 rfl rfl rfl (fun hc_ => t_call (ref01_Row_ok (h47 hc_)) (xs := [.const (.int .u8 6), .const (.int .u8 9)]) (.cons (o_i (by decide)) (.cons (o_i (by decide)) .nil)) rfl rfl)) ?_
    refine AllT.cons (t_g1 rfl rfl rfl (fun hc_ => t_lit (xs := [.tmp 62, .tmp 63, .tmp 64]) (.cons (o_w hc_ 62 rfl) (.cons (o_w hc_ 63 rfl) (.cons (o_w hc_ 64 rfl) .nil))) Try.underlying42 ty24 rfl rfl (by decide) rfl rfl)) ?_
    refine AllT.cons (t_g1 rfl rfl rfl (fun hc_ => t_call (ref02_Same_ok (h49 hc_)) (xs := [.tmp 61, .tmp 65]) (.cons (o_w hc_ 61 rfl) (.cons (o_w hc_ 65 rfl) .nil)) rfl rfl)) ?_
    refine AllT.cons (t_and (o_t 56 rfl) (fun hc2_ => (o_w hc2_ 66 rfl)) rfl rfl) ?_
    exact AllT.nil
  intro a s e_ hL
  refine st 0 (t_assign (o_t 67 rfl) rfl rfl) rfl rfl hL fun a s e_ hL => ?_
  refine en' ?_
  show K17 a s.w
  refine hK17 _ _ ?_
  subst h
  exact wp_ret (retq rfl hL rfl)

theorem ref02_like_ok {list_ : (List Cl)} {c_ : Int} {d_ : Int} {r_ : Bool} (h : ref02_like list_ c_ d_ r_) : Fn Try.prog 40 [(Pd.rep (En.slice En.cls) list_), (Pd.rep (En.int .u8) c_), (Pd.rep (En.int .u8) d_)] (Rq (Pd.rep En.bool r_)) := by
  unfold ref02_like at h
  refine fn_of Try.func40 rfl Try.ntmps40 (by rfl) (by simp) fun s0 a hL => ?_
  refine wp_seq_k fun K1 hK1 => ?_
  refine rg ?_
  refine st 6 (t_assign o_b rfl rfl) rfl rfl hL fun a s e_ hL => ?_
  refine en' ?_
  show K1 a s.w
  refine hK1 _ _ ?_
  refine wp_seq_k fun K2 hK2 => ?_
  refine wp_seq_k fun K3 hK3 => ?_
  refine rg ?_
  refine st 7 (t_assign (o_i (by decide)) rfl rfl) rfl rfl hL fun a s e_ hL => ?_
  refine en' ?_
  show K3 a s.w
  refine hK3 _ _ ?_
  refine wp_block ?_
  have J4 : ∀ (a : Act) (s : St), Has N0 27 s0 a s [] → ((ref02_like.j1 r_)) → K2 a s.w := by
    intro a s hL h
    unfold ref02_like.j1 at h
    show K2 a s.w
    refine hK2 _ _ ?_
    refine wp_seq_k fun K5 hK5 => ?_
    refine rg ?_
    refine st 6 (t_assign o_b rfl rfl) rfl rfl hL fun a s e_ hL => ?_
    refine en' ?_
    show K5 a s.w
    refine hK5 _ _ ?_
    subst h
    exact wp_ret (retq rfl hL rfl)
  obtain ⟨k7, h⟩ := h
  refine lpg (fun k8 a s => ∃ (i6 : Int), Has N0 27 s0 a s [(0, (Pd.rep (En.slice En.cls) list_)), (1, (Pd.rep (En.int .u8) c_)), (2, (Pd.rep (En.int .u8) d_)), (7, (Pd.rep (En.int .i64) i6))] ∧ ref02_like.l1 list_ c_ d_ r_ (ref02_like.j1 r_) k8 i6) k7 ⟨0, hL.keep (.cons (t := 0) rfl (fun _ h_ => h_.elim) (.cons (t := 1) rfl (fun _ h_ => h_.elim) (.cons (t := 2) rfl (fun _ h_ => h_.elim) (.cons (t := 7) rfl (fun _ h_ => h_.elim) .nil)))), h⟩ ?_
  rintro k8 a s ⟨i6, hL, h⟩ KL9 hKL9
  cases k8 with
  | zero => exact h.elim
  | succ k8 =>
  unfold ref02_like.l1 at h
  refine wp_seq_k fun K10 hK10 => ?_
  refine wp_seq_k fun K11 hK11 => ?_
  refine rg ?_
  refine st 8 (t_move (o_t 7 rfl) rfl rfl) rfl rfl hL fun a s e_ hL => ?_
  refine st 9 (t_move (o_t 0 rfl) rfl rfl) rfl rfl hL fun a s e_ hL => ?_
  refine st 10 (t_len (o_t 9 rfl) Try.underlying42 rfl rfl) rfl rfl hL fun a s e_ hL => ?_
  refine st 11 (t_lss (o_t 8 rfl) (o_t 10 rfl) rfl rfl) rfl rfl hL fun a s e_ hL => ?_
  refine en' ?_
  show K11 a s.w
  refine hK11 _ _ ?_
  refine cnd hL rfl (fun hb_ => ?_) (fun hb_ => ?_)
  · replace h := h.1 hb_
    refine wp_skip ?_
    show K10 a s.w
    refine hK10 _ _ ?_
    refine wp_seq_k fun K12 hK12 => ?_
    refine wp_block ?_
    refine wp_seq_k fun K13 hK13 => ?_
    obtain ⟨e14, h15, r16, h17, e18, h19, r20, h21, h⟩ := h
    refine rda follows 13 [(Pd.rep (En.slice En.cls) list_), (Pd.rep (En.int .i64) i6), (Pd.ptr En.cls e14), (Pd.rep En.cls e14), (Pd.rep (En.int .u8) c_), (Pd.rep En.bool r16), (Pd.rep (En.slice En.cls) list_), (Pd.rep (En.int .i64) i6), (Pd.ptr En.cls e18), (Pd.rep En.cls e18), (Pd.rep (En.int .u8) d_), (Pd.rep En.bool r20), (Pd.rep En.bool (r16 != r20))] hL (by kernel_rfl) rfl rfl ?_ ?_
    · refine AllT.cons (t_move (o_t 0 rfl) rfl rfl) ?_
      refine AllT.cons (t_move (o_t 7 rfl) rfl rfl) ?_
      refine AllT.cons (t_idx (o_t 14 rfl) (o_t 15 rfl) h15 Try.underlying42 ty24 rfl rfl) ?_
      refine AllT.cons (t_load ty24 (o_t 16 rfl) rfl rfl) ?_
      refine AllT.cons (t_move (o_t 1 rfl) rfl rfl) ?_
      refine AllT.cons (t_call (ref01_Has_ok h17) (xs := [.tmp 17, .tmp 18]) (.cons (o_t 17 rfl) (.cons (o_t 18 rfl) .nil)) rfl rfl) ?_
      refine AllT.cons (t_move (o_t 0 rfl) rfl rfl) ?_
      refine AllT.cons (t_move (o_t 7 rfl) rfl rfl) ?_
      refine AllT.cons (t_idx (o_t 20 rfl) (o_t 21 rfl) h19 Try.underlying42 ty24 rfl rfl) ?_
      refine AllT.cons (t_load ty24 (o_t 22 rfl) rfl rfl) ?_
      refine AllT.cons (t_move (o_t 2 rfl) rfl rfl) ?_
      refine AllT.cons (t_call (ref01_Has_ok h21) (xs := [.tmp 23, .tmp 24]) (.cons (o_t 23 rfl) (.cons (o_t 24 rfl) .nil)) rfl rfl) ?_
      refine AllT.cons (t_neb (o_t 19 rfl) (o_t 25 rfl) Try.underlying4 rfl rfl) ?_
      exact AllT.nil
    intro a s e_ hL
    refine en' ?_
    show K13 a s.w
    refine hK13 _ _ ?_
    refine cnd hL rfl (fun hb_ => ?_) (fun hb_ => ?_)
    · replace h := h.1 hb_
      refine wp_seq_k fun K22 hK22 => ?_
      refine rg ?_
      refine st 6 (t_assign o_b rfl rfl) rfl rfl hL fun a s e_ hL => ?_
      refine en' ?_
      show K22 a s.w
      refine hK22 _ _ ?_
      subst h
      exact wp_ret (retq rfl hL rfl)
    · replace h := h.2 hb_
      refine wp_skip ?_
      show K12 a s.w
      refine hK12 _ _ ?_
      obtain ⟨h23, h⟩ := h
      refine rg ?_
      refine st 12 (t_move (o_t 7 rfl) rfl rfl) rfl rfl hL fun a s e_ hL => ?_
      refine st 13 (t_add (o_t 12 rfl) (o_i (by decide)) h23 rfl rfl) rfl rfl hL fun a s e_ hL => ?_
      refine st 7 (t_assign (o_t 13 rfl) rfl rfl) rfl rfl hL fun a s e_ hL => ?_
      refine en' ?_
      exact hKL9 k8 a s (Nat.lt_succ_self _) ⟨(i6 + 1), hL.keep (.cons (t := 0) rfl (fun _ h_ => h_.elim) (.cons (t := 1) rfl (fun _ h_ => h_.elim) (.cons (t := 2) rfl (fun _ h_ => h_.elim) (.cons (t := 7) rfl (fun _ h_ => h_.elim) .nil)))), h⟩
  · replace h := h.2 hb_
    refine wp_exit ?_
    exact J4 a s (hL.keep .nil) h

theorem ref02_Heads_ok {list_ : (List Cl)} {r_ : (List Int)} (h : ref02_Heads list_ r_) : Fn Try.prog 36 [(Pd.rep (En.slice En.cls) list_)] (Ro (En.int .u8) 5 r_) := by
  unfold ref02_Heads at h
  refine fn_of Try.func36 rfl Try.ntmps36 (by rfl) (by simp) fun s0 a hL => ?_
  refine wp_seq_k fun K1 hK1 => ?_
  refine rg ?_
  refine st 2 (t_assign (o_nil (E := (En.int .u8)) (N := s0.w.heap.size) (te := 5)) rfl rfl) rfl rfl hL fun a s e_ hL => ?_
  refine en' ?_
  show K1 a s.w
  refine hK1 _ _ ?_
  refine wp_seq_k fun K2 hK2 => ?_
  refine rg ?_
  refine st 3 (t_assign (o_nil (E := (En.int .u8)) (N := s0.w.heap.size) (te := 5)) rfl rfl) rfl rfl hL fun a s e_ hL => ?_
  refine en' ?_
  show K2 a s.w
  refine hK2 _ _ ?_
  refine wp_seq_k fun K3 hK3 => ?_
  refine wp_seq_k fun K4 hK4 => ?_
  refine rg ?_
  refine st 4 (t_assign (o_i (by decide)) rfl rfl) rfl rfl hL fun a s e_ hL => ?_
  refine en' ?_
  show K4 a s.w
  refine hK4 _ _ ?_
  refine wp_block ?_
  have J7 : ∀ (out5 : (List Int)) (og6 : Option Nat) (a : Act) (s : St), Has N0 36 s0 a s [(3, (Pd.row (En.int .u8) s0.w.heap.size 5 og6 out5))] → ((ref02_Heads.j1 r_) out5) → K3 a s.w := by
    intro out5 og6 a s hL h
    unfold ref02_Heads.j1 at h
    show K3 a s.w
    refine hK3 _ _ ?_
    refine wp_seq_k fun K8 hK8 => ?_
    refine rg ?_
    refine st 35 (t_move (o_t 3 rfl) rfl rfl) rfl rfl hL fun a s e_ hL => ?_
    refine st 2 (t_assign (o_t 35 rfl) rfl rfl) rfl rfl hL fun a s e_ hL => ?_
    refine en' ?_
    show K8 a s.w
    refine hK8 _ _ ?_
    subst h
    exact wp_ret (reto rfl hL rfl)
  obtain ⟨k12, h⟩ := h
  refine lpg (fun k13 a s => ∃ (out9 : (List Int)) (c11 : Int) (og10 : Option Nat), Has N0 36 s0 a s [(0, (Pd.rep (En.slice En.cls) list_)), (3, (Pd.row (En.int .u8) s0.w.heap.size 5 og10 out9)), (4, (Pd.rep (En.int .i64) c11))] ∧ ref02_Heads.l1 list_ (ref02_Heads.j1 r_) k13 out9 c11) k12 ⟨[], 0, none, hL.keep (.cons (t := 0) rfl (fun _ h_ => h_.elim) (.cons (t := 3) rfl (fun _ _ h_ => h_) (.cons (t := 4) rfl (fun _ h_ => h_.elim) .nil))), h⟩ ?_
  rintro k13 a s ⟨out9, c11, og10, hL, h⟩ KL14 hKL14
  cases k13 with
  | zero => exact h.elim
  | succ k13 =>
  unfold ref02_Heads.l1 at h
  refine wp_seq_k fun K15 hK15 => ?_
  refine wp_seq_k fun K16 hK16 => ?_
  refine rg ?_
  refine st 7 (t_move (o_t 4 rfl) rfl rfl) rfl rfl hL fun a s e_ hL => ?_
  refine st 8 (t_lss (o_t 7 rfl) (o_i (by decide)) rfl rfl) rfl rfl hL fun a s e_ hL => ?_
  refine en' ?_
  show K16 a s.w
  refine hK16 _ _ ?_
  refine cnd hL rfl (fun hb_ => ?_) (fun hb_ => ?_)
  · replace h := h.1 hb_
    refine wp_skip ?_
    show K15 a s.w
    refine hK15 _ _ ?_
    refine wp_seq_k fun K17 hK17 => ?_
    refine wp_block ?_
    refine wp_seq_k fun K18 hK18 => ?_
    refine rg ?_
    refine st 5 (t_assign o_b rfl rfl) rfl rfl hL fun a s e_ hL => ?_
    refine en' ?_
    show K18 a s.w
    refine hK18 _ _ ?_
    refine wp_seq_k fun K19 hK19 => ?_
    refine wp_seq_k fun K20 hK20 => ?_
    refine rg ?_
    refine st 6 (t_assign (o_i (by decide)) rfl rfl) rfl rfl hL fun a s e_ hL => ?_
    refine en' ?_
    show K20 a s.w
    refine hK20 _ _ ?_
    refine wp_block ?_
    have J22 : ∀ (alone21 : Bool) (a : Act) (s : St), Has N0 36 s0 a s [(0, (Pd.rep (En.slice En.cls) list_)), (3, (Pd.row (En.int .u8) s0.w.heap.size 5 og10 out9)), (4, (Pd.rep (En.int .i64) c11)), (5, (Pd.rep En.bool alone21))] → ((ref02_Heads.j2 (ref02_Heads.l1 list_ (ref02_Heads.j1 r_) k13) out9 c11) alone21) → K19 a s.w := by
      intro alone21 a s hL h
      unfold ref02_Heads.j2 at h
      show K19 a s.w
      refine hK19 _ _ ?_
      refine wp_seq_k fun K23 hK23 => ?_
      refine rg ?_
      refine st 29 (t_move (o_t 5 rfl) rfl rfl) rfl rfl hL fun a s e_ hL => ?_
      refine en' ?_
      show K23 a s.w
      refine hK23 _ _ ?_
      refine cnd hL rfl (fun hb_ => ?_) (fun hb_ => ?_)
      · replace h := h.1 hb_
        obtain ⟨h24, h⟩ := h
        refine rg ?_
        refine st 30 (t_move (o_t 3 rfl) rfl rfl) rfl rfl hL fun a s e_ hL => ?_
        refine st 31 (t_move (o_t 4 rfl) rfl rfl) rfl rfl hL fun a s e_ hL => ?_
        refine st 32 (t_u8 (o_t 31 rfl) Try.underlying3 Try.underlying5 rfl rfl) rfl rfl hL fun a s e_ hL => ?_
        refine st 33 (t_lit (xs := [.tmp 32]) (.cons (o_t 32 rfl) .nil) Try.underlying40 ty5 rfl rfl (by decide) rfl rfl) rfl rfl hL fun a s e_ hL => ?_
        refine st_app (L' := [(0, (Pd.rep (En.slice En.cls) list_)), (4, (Pd.rep (En.int .i64) c11))]) 34 hL (o_t 30 rfl) (o_t 33 rfl) Try.underlying40 ty5 h24 rfl rfl rfl rfl (.cons (t := 0) rfl (fun _ h_ => h_.elim) (.cons (t := 4) rfl (fun _ h_ => h_.elim) .nil)) fun a s og25 hg_ hL => ?_
        refine st 3 (t_assign (o_t 34 rfl) rfl rfl) rfl rfl hL fun a s e_ hL => ?_
        refine en' ?_
        show K17 a s.w
        refine hK17 _ _ ?_
        obtain ⟨h26, h⟩ := h
        refine rg ?_
        refine st 9 (t_move (o_t 4 rfl) rfl rfl) rfl rfl hL fun a s e_ hL => ?_
        refine st 10 (t_add (o_t 9 rfl) (o_i (by decide)) h26 rfl rfl) rfl rfl hL fun a s e_ hL => ?_
        refine st 4 (t_assign (o_t 10 rfl) rfl rfl) rfl rfl hL fun a s e_ hL => ?_
        refine en' ?_
        exact hKL14 k13 a s (Nat.lt_succ_self _) ⟨(out9 ++ [c11 % 256]), (c11 + 1), og25, hL.keep (.cons (t := 0) rfl (fun _ h_ => h_.elim) (.cons (t := 3) rfl (fun _ _ h_ => h_) (.cons (t := 4) rfl (fun _ h_ => h_.elim) .nil))), h⟩
      · replace h := h.2 hb_
        refine wp_skip ?_
        show K17 a s.w
        refine hK17 _ _ ?_
        obtain ⟨h27, h⟩ := h
        refine rg ?_
        refine st 9 (t_move (o_t 4 rfl) rfl rfl) rfl rfl hL fun a s e_ hL => ?_
        refine st 10 (t_add (o_t 9 rfl) (o_i (by decide)) h27 rfl rfl) rfl rfl hL fun a s e_ hL => ?_
        refine st 4 (t_assign (o_t 10 rfl) rfl rfl) rfl rfl hL fun a s e_ hL => ?_
        refine en' ?_
        exact hKL14 k13 a s (Nat.lt_succ_self _) ⟨out9, (c11 + 1), og10, hL.keep (.cons (t := 0) rfl (fun _ h_ => h_.elim) (.cons (t := 3) rfl (fun _ _ h_ => h_) (.cons (t := 4) rfl (fun _ h_ => h_.elim) .nil))), h⟩
    obtain ⟨k30, h⟩ := h
    refine lpg (fun k31 a s => ∃ (alone28 : Bool) (i29 : Int), Has N0 36 s0 a s [(0, (Pd.rep (En.slice En.cls) list_)), (3, (Pd.row (En.int .u8) s0.w.heap.size 5 og10 out9)), (4, (Pd.rep (En.int .i64) c11)), (5, (Pd.rep En.bool alone28)), (6, (Pd.rep (En.int .i64) i29))] ∧ ref02_Heads.l2 list_ out9 c11 (ref02_Heads.j2 (ref02_Heads.l1 list_ (ref02_Heads.j1 r_) k13) out9 c11) k31 alone28 i29) k30 ⟨true, 0, hL.keep (.cons (t := 0) rfl (fun _ h_ => h_.elim) (.cons (t := 3) rfl (fun _ _ h_ => h_) (.cons (t := 4) rfl (fun _ h_ => h_.elim) (.cons (t := 5) rfl (fun _ h_ => h_.elim) (.cons (t := 6) rfl (fun _ h_ => h_.elim) .nil))))), h⟩ ?_
    rintro k31 a s ⟨alone28, i29, hL, h⟩ KL32 hKL32
    cases k31 with
    | zero => exact h.elim
    | succ k31 =>
    unfold ref02_Heads.l2 at h
    refine wp_seq_k fun K33 hK33 => ?_
    refine wp_seq_k fun K34 hK34 => ?_
    refine rg ?_
    refine st 11 (t_move (o_t 6 rfl) rfl rfl) rfl rfl hL fun a s e_ hL => ?_
    refine st 12 (t_move (o_t 3 rfl) rfl rfl) rfl rfl hL fun a s e_ hL => ?_
    refine st 13 (t_leno (o_t 12 rfl) Try.underlying40 rfl rfl) rfl rfl hL fun a s e_ hL => ?_
    refine st 14 (t_lss (o_t 11 rfl) (o_t 13 rfl) rfl rfl) rfl rfl hL fun a s e_ hL => ?_
    refine st 15 (t_move (o_t 14 rfl) rfl rfl) rfl rfl hL fun a s e_ hL => ?_
    refine st 16 (t_g1 rfl rfl rfl (fun hc_ => t_move (o_t 5 rfl) rfl rfl)) rfl rfl hL fun a s e_ hL => ?_
    refine st 17 (t_and (o_t 15 rfl) (fun hc2_ => (o_w hc2_ 16 rfl)) rfl rfl) rfl rfl hL fun a s e_ hL => ?_
    refine en' ?_
    show K34 a s.w
    refine hK34 _ _ ?_
    refine cnd hL rfl (fun hb_ => ?_) (fun hb_ => ?_)
    · replace h := h.1 hb_
      refine wp_skip ?_
      show K33 a s.w
      refine hK33 _ _ ?_
      refine wp_seq_k fun K35 hK35 => ?_
      refine wp_block ?_
      obtain ⟨e36, h37, r38, h39, h⟩ := h
      refine rg ?_
      refine st 20 (t_move (o_t 0 rfl) rfl rfl) rfl rfl hL fun a s e_ hL => ?_
      refine st 21 (t_move (o_t 3 rfl) rfl rfl) rfl rfl hL fun a s e_ hL => ?_
      refine st 22 (t_move (o_t 6 rfl) rfl rfl) rfl rfl hL fun a s e_ hL => ?_
      refine st 23 (t_idxo (o_t 21 rfl) (o_t 22 rfl) h37 Try.underlying40 ty5 rfl rfl) rfl rfl hL fun a s e_ hL => ?_
      refine st 24 (t_loado ty5 (o_t 23 rfl) rfl rfl) rfl rfl hL fun a s e_ hL => ?_
      refine st 25 (t_move (o_t 4 rfl) rfl rfl) rfl rfl hL fun a s e_ hL => ?_
      refine st 26 (t_u8 (o_t 25 rfl) Try.underlying3 Try.underlying5 rfl rfl) rfl rfl hL fun a s e_ hL => ?_
      refine st 27 (t_call (ref02_like_ok h39) (xs := [.tmp 20, .tmp 24, .tmp 26]) (.cons (o_t 20 rfl) (.cons (o_t 24 rfl) (.cons (o_t 26 rfl) .nil))) rfl rfl) rfl rfl hL fun a s e_ hL => ?_
      refine st 28 (t_not (o_t 27 rfl) rfl rfl) rfl rfl hL fun a s e_ hL => ?_
      refine st 5 (t_assign (o_t 28 rfl) rfl rfl) rfl rfl hL fun a s e_ hL => ?_
      refine en' ?_
      show K35 a s.w
      refine hK35 _ _ ?_
      obtain ⟨h40, h⟩ := h
      refine rg ?_
      refine st 18 (t_move (o_t 6 rfl) rfl rfl) rfl rfl hL fun a s e_ hL => ?_
      refine st 19 (t_add (o_t 18 rfl) (o_i (by decide)) h40 rfl rfl) rfl rfl hL fun a s e_ hL => ?_
      refine st 6 (t_assign (o_t 19 rfl) rfl rfl) rfl rfl hL fun a s e_ hL => ?_
      refine en' ?_
      exact hKL32 k31 a s (Nat.lt_succ_self _) ⟨(!r38), (i29 + 1), hL.keep (.cons (t := 0) rfl (fun _ h_ => h_.elim) (.cons (t := 3) rfl (fun _ _ h_ => h_) (.cons (t := 4) rfl (fun _ h_ => h_.elim) (.cons (t := 5) rfl (fun _ h_ => h_.elim) (.cons (t := 6) rfl (fun _ h_ => h_.elim) .nil))))), h⟩
    · replace h := h.2 hb_
      refine wp_exit ?_
      exact J22 alone28 a s (hL.keep (.cons (t := 0) rfl (fun _ h_ => h_.elim) (.cons (t := 3) rfl (fun _ _ h_ => h_) (.cons (t := 4) rfl (fun _ h_ => h_.elim) (.cons (t := 5) rfl (fun _ h_ => h_.elim) .nil))))) h
  · replace h := h.2 hb_
    refine wp_exit ?_
    exact J7 out9 og10 a s (hL.keep (.cons (t := 3) rfl (fun _ _ h_ => h_) .nil)) h

theorem ref02_Parts_ok {list_ : (List Cl)} {r_ : (List Cl)} (h : ref02_Parts list_ r_) : Fn Try.prog 33 [(Pd.rep (En.slice En.cls) list_)] (Ro En.cls 24 r_) := by
  unfold ref02_Parts at h
  refine fn_of Try.func33 rfl Try.ntmps33 (by rfl) (by simp) fun s0 a hL => ?_
  refine wp_seq_k fun K1 hK1 => ?_
  refine rg ?_
  refine st 2 (t_assign (o_nil (E := En.cls) (N := s0.w.heap.size) (te := 24)) rfl rfl) rfl rfl hL fun a s e_ hL => ?_
  refine en' ?_
  show K1 a s.w
  refine hK1 _ _ ?_
  refine wp_seq_k fun K2 hK2 => ?_
  refine rg ?_
  refine st 3 (t_assign (o_nil (E := En.cls) (N := s0.w.heap.size) (te := 24)) rfl rfl) rfl rfl hL fun a s e_ hL => ?_
  refine en' ?_
  show K2 a s.w
  refine hK2 _ _ ?_
  refine wp_seq_k fun K3 hK3 => ?_
  obtain ⟨r4, h5, h⟩ := h
  refine rg ?_
  refine st 8 (t_move (o_t 0 rfl) rfl rfl) rfl rfl hL fun a s e_ hL => ?_
  refine st 9 (t_call ((ref02_Heads_ok h5).frz) (xs := [.tmp 8]) (.cons (o_t 8 rfl) .nil) rfl rfl) rfl rfl hL fun a s e_ hL => ?_
  refine st 4 (t_assign (o_t 9 rfl) rfl rfl) rfl rfl hL fun a s e_ hL => ?_
  refine en' ?_
  show K3 a s.w
  refine hK3 _ _ ?_
  refine wp_seq_k fun K6 hK6 => ?_
  refine wp_seq_k fun K7 hK7 => ?_
  refine rg ?_
  refine st 5 (t_assign (o_i (by decide)) rfl rfl) rfl rfl hL fun a s e_ hL => ?_
  refine en' ?_
  show K7 a s.w
  refine hK7 _ _ ?_
  refine wp_block ?_
  have J10 : ∀ (out8 : (List Cl)) (og9 : Option Nat) (a : Act) (s : St), Has N0 38 s0 a s [(3, (Pd.row En.cls s0.w.heap.size 24 og9 out8))] → ((ref02_Parts.j1 r_) out8) → K6 a s.w := by
    intro out8 og9 a s hL h
    unfold ref02_Parts.j1 at h
    show K6 a s.w
    refine hK6 _ _ ?_
    refine wp_seq_k fun K11 hK11 => ?_
    refine rg ?_
    refine st 37 (t_move (o_t 3 rfl) rfl rfl) rfl rfl hL fun a s e_ hL => ?_
    refine st 2 (t_assign (o_t 37 rfl) rfl rfl) rfl rfl hL fun a s e_ hL => ?_
    refine en' ?_
    show K11 a s.w
    refine hK11 _ _ ?_
    subst h
    exact wp_ret (reto rfl hL rfl)
  obtain ⟨k15, h⟩ := h
  refine lpg (fun k16 a s => ∃ (out12 : (List Cl)) (i14 : Int) (og13 : Option Nat), Has N0 38 s0 a s [(0, (Pd.rep (En.slice En.cls) list_)), (3, (Pd.row En.cls s0.w.heap.size 24 og13 out12)), (4, (Pd.rep (En.slice (En.int .u8)) r4)), (5, (Pd.rep (En.int .i64) i14))] ∧ ref02_Parts.l1 list_ r4 (ref02_Parts.j1 r_) k16 out12 i14) k15 ⟨[], 0, none, hL.keep (.cons (t := 0) rfl (fun _ h_ => h_.elim) (.cons (t := 3) rfl (fun _ _ h_ => h_) (.cons (t := 4) rfl (fun _ h_ => h_.elim) (.cons (t := 5) rfl (fun _ h_ => h_.elim) .nil)))), h⟩ ?_
  rintro k16 a s ⟨out12, i14, og13, hL, h⟩ KL17 hKL17
  cases k16 with
  | zero => exact h.elim
  | succ k16 =>
  unfold ref02_Parts.l1 at h
  refine wp_seq_k fun K18 hK18 => ?_
  refine wp_seq_k fun K19 hK19 => ?_
  refine rg ?_
  refine st 10 (t_move (o_t 5 rfl) rfl rfl) rfl rfl hL fun a s e_ hL => ?_
  refine st 11 (t_move (o_t 4 rfl) rfl rfl) rfl rfl hL fun a s e_ hL => ?_
  refine st 12 (t_len (o_t 11 rfl) Try.underlying40 rfl rfl) rfl rfl hL fun a s e_ hL => ?_
  refine st 13 (t_lss (o_t 10 rfl) (o_t 12 rfl) rfl rfl) rfl rfl hL fun a s e_ hL => ?_
  refine en' ?_
  show K19 a s.w
  refine hK19 _ _ ?_
  refine cnd hL rfl (fun hb_ => ?_) (fun hb_ => ?_)
  · replace h := h.1 hb_
    refine wp_skip ?_
    show K18 a s.w
    refine hK18 _ _ ?_
    refine wp_seq_k fun K20 hK20 => ?_
    refine wp_block ?_
    refine wp_seq_k fun K21 hK21 => ?_
    refine rg ?_
    have lt_d23 := hL.rlt 3 rfl
    refine st_make En.bool (z := false) (m := 256) 16 hL (o_i (by decide)) (o_i (by decide)) (by decide) Try.underlying28 ty4 tyz4 rfl rfl rfl rfl fun a s g22 hg_ hL => ?_
    have d23 : Dis (some g22) og13 := Dis.newg hg_ lt_d23
    refine st 6 (t_assign (o_t 16 rfl) rfl rfl) rfl rfl hL fun a s e_ hL => ?_
    refine en' ?_
    show K21 a s.w
    refine hK21 _ _ ?_
    refine wp_seq_k fun K24 hK24 => ?_
    refine wp_seq_k fun K25 hK25 => ?_
    refine rg ?_
    refine st 7 (t_assign (o_i (by decide)) rfl rfl) rfl rfl hL fun a s e_ hL => ?_
    refine en' ?_
    show K25 a s.w
    refine hK25 _ _ ?_
    refine wp_block ?_
    have J28 : ∀ (l26 : (List Bool)) (og27 : Option Nat) (a : Act) (s : St), Has N0 38 s0 a s [(0, (Pd.rep (En.slice En.cls) list_)), (3, (Pd.row En.cls s0.w.heap.size 24 og13 out12)), (4, (Pd.rep (En.slice (En.int .u8)) r4)), (5, (Pd.rep (En.int .i64) i14)), (6, (Pd.row En.bool s0.w.heap.size 4 og27 l26))] → Dis og13 og27 → ((ref02_Parts.j2 (ref02_Parts.l1 list_ r4 (ref02_Parts.j1 r_) k16) out12 i14) l26) → K24 a s.w := by
      intro l26 og27 a s hL d29 h
      unfold ref02_Parts.j2 at h
      show K24 a s.w
      refine hK24 _ _ ?_
      obtain ⟨s31, h30, hL⟩ := hL.freeze (L' := [(0, (Pd.rep (En.slice En.cls) list_)), (3, (Pd.row En.cls s0.w.heap.size 24 og13 out12)), (4, (Pd.rep (En.slice (En.int .u8)) r4)), (5, (Pd.rep (En.int .i64) i14))]) 6 rfl (.cons (t := 0) rfl (fun _ h_ => h_.elim) (.cons (t := 3) rfl (Dis.ow d29) (.cons (t := 4) rfl (fun _ h_ => h_.elim) (.cons (t := 5) rfl (fun _ h_ => h_.elim) .nil))))
      rw [← h30]
      clear h30
      generalize s31 = s at *
      obtain ⟨r32, h33, h34, h⟩ := h
      refine rg ?_
      refine st 32 (t_move (o_t 3 rfl) rfl rfl) rfl rfl hL fun a s e_ hL => ?_
      refine st 33 (t_move (o_t 6 rfl) rfl rfl) rfl rfl hL fun a s e_ hL => ?_
      refine st 34 (t_call (ref01_Of_ok h33) (xs := [.tmp 33]) (.cons (o_t 33 rfl) .nil) rfl rfl) rfl rfl hL fun a s e_ hL => ?_
      refine st 35 (t_lit (xs := [.tmp 34]) (.cons (o_t 34 rfl) .nil) Try.underlying42 ty24 rfl rfl (by decide) rfl rfl) rfl rfl hL fun a s e_ hL => ?_
      refine st_app (L' := [(0, (Pd.rep (En.slice En.cls) list_)), (4, (Pd.rep (En.slice (En.int .u8)) r4)), (5, (Pd.rep (En.int .i64) i14))]) 36 hL (o_t 32 rfl) (o_t 35 rfl) Try.underlying42 ty24 h34 rfl rfl rfl rfl (.cons (t := 0) rfl (fun _ h_ => h_.elim) (.cons (t := 4) rfl (fun _ h_ => h_.elim) (.cons (t := 5) rfl (fun _ h_ => h_.elim) .nil))) fun a s og35 hg_ hL => ?_
      refine st 3 (t_assign (o_t 36 rfl) rfl rfl) rfl rfl hL fun a s e_ hL => ?_
      refine en' ?_
      show K20 a s.w
      refine hK20 _ _ ?_
      obtain ⟨h36, h⟩ := h
      refine rg ?_
      refine st 14 (t_move (o_t 5 rfl) rfl rfl) rfl rfl hL fun a s e_ hL => ?_
      refine st 15 (t_add (o_t 14 rfl) (o_i (by decide)) h36 rfl rfl) rfl rfl hL fun a s e_ hL => ?_
      refine st 5 (t_assign (o_t 15 rfl) rfl rfl) rfl rfl hL fun a s e_ hL => ?_
      refine en' ?_
      exact hKL17 k16 a s (Nat.lt_succ_self _) ⟨(out12 ++ [r32]), (i14 + 1), og35, hL.keep (.cons (t := 0) rfl (fun _ h_ => h_.elim) (.cons (t := 3) rfl (fun _ _ h_ => h_) (.cons (t := 4) rfl (fun _ h_ => h_.elim) (.cons (t := 5) rfl (fun _ h_ => h_.elim) .nil)))), h⟩
    obtain ⟨k40, h⟩ := h
    refine lpg (fun k41 a s => ∃ (l37 : (List Bool)) (c39 : Int) (og38 : Option Nat), Has N0 38 s0 a s [(0, (Pd.rep (En.slice En.cls) list_)), (3, (Pd.row En.cls s0.w.heap.size 24 og13 out12)), (4, (Pd.rep (En.slice (En.int .u8)) r4)), (5, (Pd.rep (En.int .i64) i14)), (6, (Pd.row En.bool s0.w.heap.size 4 og38 l37)), (7, (Pd.rep (En.int .i64) c39))] ∧ Dis og13 og38 ∧ ref02_Parts.l2 list_ r4 i14 (ref02_Parts.j2 (ref02_Parts.l1 list_ r4 (ref02_Parts.j1 r_) k16) out12 i14) k41 l37 c39) k40 ⟨(List.replicate 256 false), 0, (some g22), hL.keep (.cons (t := 0) rfl (fun _ h_ => h_.elim) (.cons (t := 3) rfl (fun _ _ h_ => h_) (.cons (t := 4) rfl (fun _ h_ => h_.elim) (.cons (t := 5) rfl (fun _ h_ => h_.elim) (.cons (t := 6) rfl (fun _ _ h_ => h_) (.cons (t := 7) rfl (fun _ h_ => h_.elim) .nil)))))), (Dis.symm d23), h⟩ ?_
    rintro k41 a s ⟨l37, c39, og38, hL, d43, h⟩ KL42 hKL42
    cases k41 with
    | zero => exact h.elim
    | succ k41 =>
    unfold ref02_Parts.l2 at h
    refine wp_seq_k fun K44 hK44 => ?_
    refine wp_seq_k fun K45 hK45 => ?_
    refine rg ?_
    refine st 17 (t_move (o_t 7 rfl) rfl rfl) rfl rfl hL fun a s e_ hL => ?_
    refine st 18 (t_lss (o_t 17 rfl) (o_i (by decide)) rfl rfl) rfl rfl hL fun a s e_ hL => ?_
    refine en' ?_
    show K45 a s.w
    refine hK45 _ _ ?_
    refine cnd hL rfl (fun hb_ => ?_) (fun hb_ => ?_)
    · replace h := h.1 hb_
      refine wp_skip ?_
      show K44 a s.w
      refine hK44 _ _ ?_
      refine wp_seq_k fun K46 hK46 => ?_
      refine wp_block ?_
      obtain ⟨e47, h48, r49, h50, e51, h52, h⟩ := h
      refine rg ?_
      refine st 21 (t_move (o_t 6 rfl) rfl rfl) rfl rfl hL fun a s e_ hL => ?_
      refine st 22 (t_move (o_t 7 rfl) rfl rfl) rfl rfl hL fun a s e_ hL => ?_
      refine st 23 (t_move (o_t 0 rfl) rfl rfl) rfl rfl hL fun a s e_ hL => ?_
      refine st 24 (t_move (o_t 4 rfl) rfl rfl) rfl rfl hL fun a s e_ hL => ?_
      refine st 25 (t_move (o_t 5 rfl) rfl rfl) rfl rfl hL fun a s e_ hL => ?_
      refine st 26 (t_idx (o_t 24 rfl) (o_t 25 rfl) h48 Try.underlying40 ty5 rfl rfl) rfl rfl hL fun a s e_ hL => ?_
      refine st 27 (t_load ty5 (o_t 26 rfl) rfl rfl) rfl rfl hL fun a s e_ hL => ?_
      refine st 28 (t_move (o_t 7 rfl) rfl rfl) rfl rfl hL fun a s e_ hL => ?_
      refine st 29 (t_u8 (o_t 28 rfl) Try.underlying3 Try.underlying5 rfl rfl) rfl rfl hL fun a s e_ hL => ?_
      refine st 30 (t_call (ref02_like_ok h50) (xs := [.tmp 23, .tmp 27, .tmp 29]) (.cons (o_t 23 rfl) (.cons (o_t 27 rfl) (.cons (o_t 29 rfl) .nil))) rfl rfl) rfl rfl hL fun a s e_ hL => ?_
      refine st 31 (t_idxo (o_t 21 rfl) (o_t 22 rfl) h52 Try.underlying28 ty4 rfl rfl) rfl rfl hL fun a s e_ hL => ?_
      refine st_stor (L' := [(0, (Pd.rep (En.slice En.cls) list_)), (3, (Pd.row En.cls s0.w.heap.size 24 og13 out12)), (4, (Pd.rep (En.slice (En.int .u8)) r4)), (5, (Pd.rep (En.int .i64) i14)), (6, (Pd.row En.bool s0.w.heap.size 4 og38 (l37.set (c39 : Int).toNat r49))), (7, (Pd.rep (En.int .i64) c39))]) (off := 0) 6 hL rfl h52 (o_t 31 rfl) (o_t 30 rfl) (sub_all _ _ _) ty4 rfl rfl rfl (.cons (t := 0) rfl (fun _ h_ => h_.elim) (.cons (t := 3) rfl (Dis.ow d43) (.cons (t := 4) rfl (fun _ h_ => h_.elim) (.cons (t := 5) rfl (fun _ h_ => h_.elim) (.turn (t := 6) rfl (.cons (t := 7) rfl (fun _ h_ => h_.elim) .nil)))))) fun s hL => ?_
      refine en' ?_
      show K46 a s.w
      refine hK46 _ _ ?_
      obtain ⟨h53, h⟩ := h
      refine rg ?_
      refine st 19 (t_move (o_t 7 rfl) rfl rfl) rfl rfl hL fun a s e_ hL => ?_
      refine st 20 (t_add (o_t 19 rfl) (o_i (by decide)) h53 rfl rfl) rfl rfl hL fun a s e_ hL => ?_
      refine st 7 (t_assign (o_t 20 rfl) rfl rfl) rfl rfl hL fun a s e_ hL => ?_
      refine en' ?_
      exact hKL42 k41 a s (Nat.lt_succ_self _) ⟨(l37.set (c39 : Int).toNat r49), (c39 + 1), og38, hL.keep (.cons (t := 0) rfl (fun _ h_ => h_.elim) (.cons (t := 3) rfl (fun _ _ h_ => h_) (.cons (t := 4) rfl (fun _ h_ => h_.elim) (.cons (t := 5) rfl (fun _ h_ => h_.elim) (.cons (t := 6) rfl (fun _ _ h_ => h_) (.cons (t := 7) rfl (fun _ h_ => h_.elim) .nil)))))), d43, h⟩
    · replace h := h.2 hb_
      refine wp_exit ?_
      exact J28 l37 og38 a s (hL.keep (.cons (t := 0) rfl (fun _ h_ => h_.elim) (.cons (t := 3) rfl (fun _ _ h_ => h_) (.cons (t := 4) rfl (fun _ h_ => h_.elim) (.cons (t := 5) rfl (fun _ h_ => h_.elim) (.cons (t := 6) rfl (fun _ _ h_ => h_) .nil)))))) d43 h
  · replace h := h.2 hb_
    refine wp_exit ?_
    exact J10 out12 og13 a s (hL.keep (.cons (t := 3) rfl (fun _ _ h_ => h_) .nil)) h

theorem ref02_Refine_ok {parts_ : (List Cl)} {a_ : Cl} {r_ : (List Cl)} (h : ref02_Refine parts_ a_ r_) : Fn Try.prog 38 [(Pd.rep (En.slice En.cls) parts_), (Pd.rep En.cls a_)] (Ro En.cls 24 r_) := by
  unfold ref02_Refine at h
  refine fn_of Try.func38 rfl Try.ntmps38 (by rfl) (by simp) fun s0 a hL => ?_
  refine wp_seq_k fun K1 hK1 => ?_
  refine rg ?_
  refine st 3 (t_box (o_t 1 rfl) rfl rfl) rfl rfl hL fun a s e_ hL => ?_
  refine st 4 (t_assign (o_nil (E := En.cls) (N := s0.w.heap.size) (te := 24)) rfl rfl) rfl rfl hL fun a s e_ hL => ?_
  refine en' ?_
  show K1 a s.w
  refine hK1 _ _ ?_
  refine wp_seq_k fun K2 hK2 => ?_
  refine rg ?_
  refine st 5 (t_assign (o_nil (E := En.cls) (N := s0.w.heap.size) (te := 24)) rfl rfl) rfl rfl hL fun a s e_ hL => ?_
  refine en' ?_
  show K2 a s.w
  refine hK2 _ _ ?_
  refine wp_seq_k fun K3 hK3 => ?_
  refine wp_seq_k fun K4 hK4 => ?_
  refine rg ?_
  refine st 6 (t_assign (o_i (by decide)) rfl rfl) rfl rfl hL fun a s e_ hL => ?_
  refine en' ?_
  show K4 a s.w
  refine hK4 _ _ ?_
  refine wp_block ?_
  have J7 : ∀ (l5 : (List Cl)) (og6 : Option Nat) (a : Act) (s : St), Has N0 70 s0 a s [(5, (Pd.row En.cls s0.w.heap.size 24 og6 l5))] → ((ref02_Refine.j3 r_) l5) → K3 a s.w := by
    intro l5 og6 a s hL h
    unfold ref02_Refine.j3 at h
    show K3 a s.w
    refine hK3 _ _ ?_
    refine wp_seq_k fun K8 hK8 => ?_
    refine rg ?_
    refine st 7 (t_assign (o_nil (E := En.cls) (N := s0.w.heap.size) (te := 24)) rfl rfl) rfl rfl hL fun a s e_ hL => ?_
    refine en' ?_
    show K8 a s.w
    refine hK8 _ _ ?_
    refine wp_seq_k fun K9 hK9 => ?_
    refine wp_seq_k fun K10 hK10 => ?_
    refine rg ?_
    refine st 8 (t_assign (o_i (by decide)) rfl rfl) rfl rfl hL fun a s e_ hL => ?_
    refine en' ?_
    show K10 a s.w
    refine hK10 _ _ ?_
    refine wp_block ?_
    have J13 : ∀ (out11 : (List Cl)) (og12 : Option Nat) (a : Act) (s : St), Has N0 70 s0 a s [(7, (Pd.row En.cls s0.w.heap.size 24 og12 out11))] → ((ref02_Refine.j1 r_) out11) → K9 a s.w := by
      intro out11 og12 a s hL h
      unfold ref02_Refine.j1 at h
      show K9 a s.w
      refine hK9 _ _ ?_
      refine wp_seq_k fun K14 hK14 => ?_
      refine rg ?_
      refine st 69 (t_move (o_t 7 rfl) rfl rfl) rfl rfl hL fun a s e_ hL => ?_
      refine st 4 (t_assign (o_t 69 rfl) rfl rfl) rfl rfl hL fun a s e_ hL => ?_
      refine en' ?_
      show K14 a s.w
      refine hK14 _ _ ?_
      subst h
      exact wp_ret (reto rfl hL rfl)
    obtain ⟨k18, h⟩ := h
    refine lpg (fun k19 a s => ∃ (out15 : (List Cl)) (c17 : Int) (og16 : Option Nat), Has N0 70 s0 a s [(5, (Pd.row En.cls s0.w.heap.size 24 og6 l5)), (7, (Pd.row En.cls s0.w.heap.size 24 og16 out15)), (8, (Pd.rep (En.int .i64) c17))] ∧ Dis og6 og16 ∧ ref02_Refine.l1 l5 (ref02_Refine.j1 r_) k19 out15 c17) k18 ⟨[], 0, none, hL.keep (.cons (t := 5) rfl (fun _ _ h_ => h_) (.cons (t := 7) rfl (fun _ _ h_ => h_) (.cons (t := 8) rfl (fun _ h_ => h_.elim) .nil))), (Dis.symm Dis.none), h⟩ ?_
    rintro k19 a s ⟨out15, c17, og16, hL, d21, h⟩ KL20 hKL20
    cases k19 with
    | zero => exact h.elim
    | succ k19 =>
    unfold ref02_Refine.l1 at h
    refine wp_seq_k fun K22 hK22 => ?_
    refine wp_seq_k fun K23 hK23 => ?_
    refine rg ?_
    refine st 37 (t_move (o_t 8 rfl) rfl rfl) rfl rfl hL fun a s e_ hL => ?_
    refine st 38 (t_lss (o_t 37 rfl) (o_i (by decide)) rfl rfl) rfl rfl hL fun a s e_ hL => ?_
    refine en' ?_
    show K23 a s.w
    refine hK23 _ _ ?_
    refine cnd hL rfl (fun hb_ => ?_) (fun hb_ => ?_)
    · replace h := h.1 hb_
      refine wp_skip ?_
      show K22 a s.w
      refine hK22 _ _ ?_
      refine wp_seq_k fun K24 hK24 => ?_
      refine wp_block ?_
      refine wp_seq_k fun K25 hK25 => ?_
      refine rg ?_
      refine st 9 (t_assign (o_i (by decide)) rfl rfl) rfl rfl hL fun a s e_ hL => ?_
      refine en' ?_
      show K25 a s.w
      refine hK25 _ _ ?_
      refine wp_block ?_
      have J28 : ∀ (out26 : (List Cl)) (og27 : Option Nat) (a : Act) (s : St), Has N0 70 s0 a s [(5, (Pd.row En.cls s0.w.heap.size 24 og6 l5)), (7, (Pd.row En.cls s0.w.heap.size 24 og27 out26)), (8, (Pd.rep (En.int .i64) c17))] → Dis og6 og27 → ((ref02_Refine.j2 (ref02_Refine.l1 l5 (ref02_Refine.j1 r_) k19) c17) out26) → K24 a s.w := by
        intro out26 og27 a s hL d29 h
        unfold ref02_Refine.j2 at h
        show K24 a s.w
        refine hK24 _ _ ?_
        obtain ⟨h30, h⟩ := h
        refine rg ?_
        refine st 39 (t_move (o_t 8 rfl) rfl rfl) rfl rfl hL fun a s e_ hL => ?_
        refine st 40 (t_add (o_t 39 rfl) (o_i (by decide)) h30 rfl rfl) rfl rfl hL fun a s e_ hL => ?_
        refine st 8 (t_assign (o_t 40 rfl) rfl rfl) rfl rfl hL fun a s e_ hL => ?_
        refine en' ?_
        exact hKL20 k19 a s (Nat.lt_succ_self _) ⟨out26, (c17 + 1), og27, hL.keep (.cons (t := 5) rfl (fun _ _ h_ => h_) (.cons (t := 7) rfl (fun _ _ h_ => h_) (.cons (t := 8) rfl (fun _ h_ => h_.elim) .nil))), d29, h⟩
      obtain ⟨k34, h⟩ := h
      refine lpg (fun k35 a s => ∃ (out31 : (List Cl)) (i33 : Int) (og32 : Option Nat), Has N0 70 s0 a s [(5, (Pd.row En.cls s0.w.heap.size 24 og6 l5)), (7, (Pd.row En.cls s0.w.heap.size 24 og32 out31)), (8, (Pd.rep (En.int .i64) c17)), (9, (Pd.rep (En.int .i64) i33))] ∧ Dis og6 og32 ∧ ref02_Refine.l2 l5 c17 (ref02_Refine.j2 (ref02_Refine.l1 l5 (ref02_Refine.j1 r_) k19) c17) k35 out31 i33) k34 ⟨out15, 0, og16, hL.keep (.cons (t := 5) rfl (fun _ _ h_ => h_) (.cons (t := 7) rfl (fun _ _ h_ => h_) (.cons (t := 8) rfl (fun _ h_ => h_.elim) (.cons (t := 9) rfl (fun _ h_ => h_.elim) .nil)))), d21, h⟩ ?_
      rintro k35 a s ⟨out31, i33, og32, hL, d37, h⟩ KL36 hKL36
      cases k35 with
      | zero => exact h.elim
      | succ k35 =>
      unfold ref02_Refine.l2 at h
      refine wp_seq_k fun K38 hK38 => ?_
      refine wp_seq_k fun K39 hK39 => ?_
      refine rg ?_
      refine st 41 (t_move (o_t 9 rfl) rfl rfl) rfl rfl hL fun a s e_ hL => ?_
      refine st 42 (t_move (o_t 5 rfl) rfl rfl) rfl rfl hL fun a s e_ hL => ?_
      refine st 43 (t_leno (o_t 42 rfl) Try.underlying42 rfl rfl) rfl rfl hL fun a s e_ hL => ?_
      refine st 44 (t_lss (o_t 41 rfl) (o_t 43 rfl) rfl rfl) rfl rfl hL fun a s e_ hL => ?_
      refine en' ?_
      show K39 a s.w
      refine hK39 _ _ ?_
      refine cnd hL rfl (fun hb_ => ?_) (fun hb_ => ?_)
      · replace h := h.1 hb_
        refine wp_skip ?_
        show K38 a s.w
        refine hK38 _ _ ?_
        refine wp_seq_k fun K40 hK40 => ?_
        refine wp_block ?_
        refine wp_seq_k fun K41 hK41 => ?_
        obtain ⟨e42, h43, r44, h45, h⟩ := h
        refine rg ?_
        refine st 48 (t_move (o_t 5 rfl) rfl rfl) rfl rfl hL fun a s e_ hL => ?_
        refine st 49 (t_move (o_t 9 rfl) rfl rfl) rfl rfl hL fun a s e_ hL => ?_
        refine st 50 (t_idxo (o_t 48 rfl) (o_t 49 rfl) h43 Try.underlying42 ty24 rfl rfl) rfl rfl hL fun a s e_ hL => ?_
        refine st 51 (t_loado ty24 (o_t 50 rfl) rfl rfl) rfl rfl hL fun a s e_ hL => ?_
        refine st 52 (t_call ((ref01_Least_ok h45).tup) (xs := [.tmp 51]) (.cons (o_t 51 rfl) .nil) rfl rfl) rfl rfl hL fun a s e_ hL => ?_
        refine st 47 (t_move (o_t 52 rfl) rfl rfl) rfl rfl hL fun a s e_ hL => ?_
        refine st 53 (t_ext0 (o_t 47 rfl) rfl rfl) rfl rfl hL fun a s e_ hL => ?_
        refine st 54 (t_ext1 (o_t 47 rfl) rfl rfl) rfl rfl hL fun a s e_ hL => ?_
        refine st 10 (t_assign (o_t 53 rfl) rfl rfl) rfl rfl hL fun a s e_ hL => ?_
        refine st 11 (t_assign (o_t 54 rfl) rfl rfl) rfl rfl hL fun a s e_ hL => ?_
        refine en' ?_
        show K41 a s.w
        refine hK41 _ _ ?_
        refine wp_seq_k fun K46 hK46 => ?_
        refine rg ?_
        refine st 55 (t_move (o_t 11 rfl) rfl rfl) rfl rfl hL fun a s e_ hL => ?_
        refine st 56 (t_move (o_t 55 rfl) rfl rfl) rfl rfl hL fun a s e_ hL => ?_
        refine st 57 (t_g1 rfl rfl rfl (fun hc_ => t_move (o_t 10 rfl) rfl rfl)) rfl rfl hL fun a s e_ hL => ?_
        refine st 58 (t_g1 rfl rfl rfl (fun hc_ => t_up (o_w hc_ 57 rfl) (by decide) Try.underlying5 Try.underlying3 rfl rfl)) rfl rfl hL fun a s e_ hL => ?_
        refine st 59 (t_g1 rfl rfl rfl (fun hc_ => t_move (o_t 8 rfl) rfl rfl)) rfl rfl hL fun a s e_ hL => ?_
        refine st 60 (t_g1 rfl rfl rfl (fun hc_ => t_eqi (o_w hc_ 58 rfl) (o_w hc_ 59 rfl) rfl rfl)) rfl rfl hL fun a s e_ hL => ?_
        refine st 61 (t_and (o_t 56 rfl) (fun hc2_ => (o_w hc2_ 60 rfl)) rfl rfl) rfl rfl hL fun a s e_ hL => ?_
        refine en' ?_
        show K46 a s.w
        refine hK46 _ _ ?_
        refine cnd hL rfl (fun hb_ => ?_) (fun hb_ => ?_)
        · replace h := h.1 hb_
          obtain ⟨e47, h48, h49, h⟩ := h
          refine rg ?_
          refine st 62 (t_move (o_t 7 rfl) rfl rfl) rfl rfl hL fun a s e_ hL => ?_
          refine st 63 (t_move (o_t 5 rfl) rfl rfl) rfl rfl hL fun a s e_ hL => ?_
          refine st 64 (t_move (o_t 9 rfl) rfl rfl) rfl rfl hL fun a s e_ hL => ?_
          refine st 65 (t_idxo (o_t 63 rfl) (o_t 64 rfl) h48 Try.underlying42 ty24 rfl rfl) rfl rfl hL fun a s e_ hL => ?_
          refine st 66 (t_loado ty24 (o_t 65 rfl) rfl rfl) rfl rfl hL fun a s e_ hL => ?_
          refine st 67 (t_lit (xs := [.tmp 66]) (.cons (o_t 66 rfl) .nil) Try.underlying42 ty24 rfl rfl (by decide) rfl rfl) rfl rfl hL fun a s e_ hL => ?_
          have lt_og50_5 := hL.rlt 5 rfl
          refine st_app (L' := [(5, (Pd.row En.cls s0.w.heap.size 24 og6 l5)), (8, (Pd.rep (En.int .i64) c17)), (9, (Pd.rep (En.int .i64) i33))]) 68 hL (o_t 62 rfl) (o_t 67 rfl) Try.underlying42 ty24 h49 rfl rfl rfl rfl (.cons (t := 5) rfl (Dis.ow d37) (.cons (t := 8) rfl (fun _ h_ => h_.elim) (.cons (t := 9) rfl (fun _ h_ => h_.elim) .nil))) fun a s og50 hg_ hL => ?_
          have d51 : Dis og50 og6 := Dis.app hg_ (Dis.symm d37) lt_og50_5
          refine st 7 (t_assign (o_t 68 rfl) rfl rfl) rfl rfl hL fun a s e_ hL => ?_
          refine en' ?_
          show K40 a s.w
          refine hK40 _ _ ?_
          obtain ⟨h52, h⟩ := h
          refine rg ?_
          refine st 45 (t_move (o_t 9 rfl) rfl rfl) rfl rfl hL fun a s e_ hL => ?_
          refine st 46 (t_add (o_t 45 rfl) (o_i (by decide)) h52 rfl rfl) rfl rfl hL fun a s e_ hL => ?_
          refine st 9 (t_assign (o_t 46 rfl) rfl rfl) rfl rfl hL fun a s e_ hL => ?_
          refine en' ?_
          exact hKL36 k35 a s (Nat.lt_succ_self _) ⟨(out31 ++ [e47]), (i33 + 1), og50, hL.keep (.cons (t := 5) rfl (fun _ _ h_ => h_) (.cons (t := 7) rfl (fun _ _ h_ => h_) (.cons (t := 8) rfl (fun _ h_ => h_.elim) (.cons (t := 9) rfl (fun _ h_ => h_.elim) .nil)))), (Dis.symm d51), h⟩
        · replace h := h.2 hb_
          refine wp_skip ?_
          show K40 a s.w
          refine hK40 _ _ ?_
          obtain ⟨h53, h⟩ := h
          refine rg ?_
          refine st 45 (t_move (o_t 9 rfl) rfl rfl) rfl rfl hL fun a s e_ hL => ?_
          refine st 46 (t_add (o_t 45 rfl) (o_i (by decide)) h53 rfl rfl) rfl rfl hL fun a s e_ hL => ?_
          refine st 9 (t_assign (o_t 46 rfl) rfl rfl) rfl rfl hL fun a s e_ hL => ?_
          refine en' ?_
          exact hKL36 k35 a s (Nat.lt_succ_self _) ⟨out31, (i33 + 1), og32, hL.keep (.cons (t := 5) rfl (fun _ _ h_ => h_) (.cons (t := 7) rfl (fun _ _ h_ => h_) (.cons (t := 8) rfl (fun _ h_ => h_.elim) (.cons (t := 9) rfl (fun _ h_ => h_.elim) .nil)))), d37, h⟩
      · replace h := h.2 hb_
        refine wp_exit ?_
        exact J28 out31 og32 a s (hL.keep (.cons (t := 5) rfl (fun _ _ h_ => h_) (.cons (t := 7) rfl (fun _ _ h_ => h_) (.cons (t := 8) rfl (fun _ h_ => h_.elim) .nil)))) d37 h
    · replace h := h.2 hb_
      refine wp_exit ?_
      exact J13 out15 og16 a s (hL.keep (.cons (t := 7) rfl (fun _ _ h_ => h_) .nil)) h
  obtain ⟨k57, h⟩ := h
  refine lpg (fun k58 a s => ∃ (l54 : (List Cl)) (i56 : Int) (og55 : Option Nat), Has N0 70 s0 a s [(0, (Pd.rep (En.slice En.cls) parts_)), (3, (Pd.ptr En.cls a_)), (5, (Pd.row En.cls s0.w.heap.size 24 og55 l54)), (6, (Pd.rep (En.int .i64) i56))] ∧ ref02_Refine.l3 parts_ a_ (ref02_Refine.j3 r_) k58 l54 i56) k57 ⟨[], 0, none, hL.keep (.cons (t := 0) rfl (fun _ h_ => h_.elim) (.cons (t := 3) rfl (fun _ h_ => h_.elim) (.cons (t := 5) rfl (fun _ _ h_ => h_) (.cons (t := 6) rfl (fun _ h_ => h_.elim) .nil)))), h⟩ ?_
  rintro k58 a s ⟨l54, i56, og55, hL, h⟩ KL59 hKL59
  cases k58 with
  | zero => exact h.elim
  | succ k58 =>
  unfold ref02_Refine.l3 at h
  refine wp_seq_k fun K60 hK60 => ?_
  refine wp_seq_k fun K61 hK61 => ?_
  refine rg ?_
  refine st 12 (t_move (o_t 6 rfl) rfl rfl) rfl rfl hL fun a s e_ hL => ?_
  refine st 13 (t_move (o_t 0 rfl) rfl rfl) rfl rfl hL fun a s e_ hL => ?_
  refine st 14 (t_len (o_t 13 rfl) Try.underlying42 rfl rfl) rfl rfl hL fun a s e_ hL => ?_
  refine st 15 (t_lss (o_t 12 rfl) (o_t 14 rfl) rfl rfl) rfl rfl hL fun a s e_ hL => ?_
  refine en' ?_
  show K61 a s.w
  refine hK61 _ _ ?_
  refine cnd hL rfl (fun hb_ => ?_) (fun hb_ => ?_)
  · replace h := h.1 hb_
    refine wp_skip ?_
    show K60 a s.w
    refine hK60 _ _ ?_
    refine wp_seq_k fun K62 hK62 => ?_
    refine wp_block ?_
    refine wp_seq_k fun K63 hK63 => ?_
    obtain ⟨e64, h65, r66, h67, h68, h⟩ := h
    refine rda follows 8 [(Pd.row En.cls s0.w.heap.size 24 og55 l54), (Pd.rep (En.slice En.cls) parts_), (Pd.rep (En.int .i64) i56), (Pd.ptr En.cls e64), (Pd.rep En.cls e64), (Pd.rep En.cls a_), (Pd.rep En.cls r66), (Pd.rep (En.slice En.cls) [r66])] hL (by kernel_rfl) rfl rfl ?_ ?_
    · refine AllT.cons (t_move (o_t 5 rfl) rfl rfl) ?_
      refine AllT.cons (t_move (o_t 0 rfl) rfl rfl) ?_
      refine AllT.cons (t_move (o_t 6 rfl) rfl rfl) ?_
      refine AllT.cons (t_idx (o_t 19 rfl) (o_t 20 rfl) h65 Try.underlying42 ty24 rfl rfl) ?_
      refine AllT.cons (t_load ty24 (o_t 21 rfl) rfl rfl) ?_
      refine AllT.cons (t_load ty24 (o_t 3 rfl) rfl rfl) ?_
      refine AllT.cons (t_call (ref01_Both_ok h67) (xs := [.tmp 22, .tmp 23]) (.cons (o_t 22 rfl) (.cons (o_t 23 rfl) .nil)) rfl rfl) ?_
      refine AllT.cons (t_lit (xs := [.tmp 24]) (.cons (o_t 24 rfl) .nil) Try.underlying42 ty24 rfl rfl (by decide) rfl rfl) ?_
      exact AllT.nil
    intro a s e_ hL
    refine st_app (L' := [(0, (Pd.rep (En.slice En.cls) parts_)), (3, (Pd.ptr En.cls a_)), (6, (Pd.rep (En.int .i64) i56))]) 26 hL (o_t 18 rfl) (o_t 25 rfl) Try.underlying42 ty24 h68 rfl rfl rfl rfl (.cons (t := 0) rfl (fun _ h_ => h_.elim) (.cons (t := 3) rfl (fun _ h_ => h_.elim) (.cons (t := 6) rfl (fun _ h_ => h_.elim) .nil))) fun a s og69 hg_ hL => ?_
    refine st 5 (t_assign (o_t 26 rfl) rfl rfl) rfl rfl hL fun a s e_ hL => ?_
    refine en' ?_
    show K63 a s.w
    refine hK63 _ _ ?_
    obtain ⟨e70, h71, r72, h73, r74, h75, h76, h⟩ := h
    refine rda follows 9 [(Pd.row En.cls s0.w.heap.size 24 og69 (l54 ++ [r66])), (Pd.rep (En.slice En.cls) parts_), (Pd.rep (En.int .i64) i56), (Pd.ptr En.cls e70), (Pd.rep En.cls e70), (Pd.rep En.cls a_), (Pd.rep En.cls r72), (Pd.rep En.cls r74), (Pd.rep (En.slice En.cls) [r74])] hL (by kernel_rfl) rfl rfl ?_ ?_
    · refine AllT.cons (t_move (o_t 5 rfl) rfl rfl) ?_
      refine AllT.cons (t_move (o_t 0 rfl) rfl rfl) ?_
      refine AllT.cons (t_move (o_t 6 rfl) rfl rfl) ?_
      refine AllT.cons (t_idx (o_t 28 rfl) (o_t 29 rfl) h71 Try.underlying42 ty24 rfl rfl) ?_
      refine AllT.cons (t_load ty24 (o_t 30 rfl) rfl rfl) ?_
      refine AllT.cons (t_load ty24 (o_t 3 rfl) rfl rfl) ?_
      refine AllT.cons (t_call (ref01_Not_ok h73) (xs := [.tmp 32]) (.cons (o_t 32 rfl) .nil) rfl rfl) ?_
      refine AllT.cons (t_call (ref01_Both_ok h75) (xs := [.tmp 31, .tmp 33]) (.cons (o_t 31 rfl) (.cons (o_t 33 rfl) .nil)) rfl rfl) ?_
      refine AllT.cons (t_lit (xs := [.tmp 34]) (.cons (o_t 34 rfl) .nil) Try.underlying42 ty24 rfl rfl (by decide) rfl rfl) ?_
      exact AllT.nil
    intro a s e_ hL
    refine st_app (L' := [(0, (Pd.rep (En.slice En.cls) parts_)), (3, (Pd.ptr En.cls a_)), (6, (Pd.rep (En.int .i64) i56))]) 36 hL (o_t 27 rfl) (o_t 35 rfl) Try.underlying42 ty24 h76 rfl rfl rfl rfl (.cons (t := 0) rfl (fun _ h_ => h_.elim) (.cons (t := 3) rfl (fun _ h_ => h_.elim) (.cons (t := 6) rfl (fun _ h_ => h_.elim) .nil))) fun a s og77 hg_ hL => ?_
    refine st 5 (t_assign (o_t 36 rfl) rfl rfl) rfl rfl hL fun a s e_ hL => ?_
    refine en' ?_
    show K62 a s.w
    refine hK62 _ _ ?_
    obtain ⟨h78, h⟩ := h
    refine rg ?_
    refine st 16 (t_move (o_t 6 rfl) rfl rfl) rfl rfl hL fun a s e_ hL => ?_
    refine st 17 (t_add (o_t 16 rfl) (o_i (by decide)) h78 rfl rfl) rfl rfl hL fun a s e_ hL => ?_
    refine st 6 (t_assign (o_t 17 rfl) rfl rfl) rfl rfl hL fun a s e_ hL => ?_
    refine en' ?_
    exact hKL59 k58 a s (Nat.lt_succ_self _) ⟨((l54 ++ [r66]) ++ [r74]), (i56 + 1), og77, hL.keep (.cons (t := 0) rfl (fun _ h_ => h_.elim) (.cons (t := 3) rfl (fun _ h_ => h_.elim) (.cons (t := 5) rfl (fun _ _ h_ => h_) (.cons (t := 6) rfl (fun _ h_ => h_.elim) .nil)))), h⟩
  · replace h := h.2 hb_
    refine wp_exit ?_
    exact J7 l54 og55 a s (hL.keep (.cons (t := 5) rfl (fun _ _ h_ => h_) .nil)) h

theorem law02_SplitTells_ok {list_ : (List Cl)} {parts_ : (List Cl)} {a_ : Cl} {r_ : Bool} (h : law02_SplitTells list_ parts_ a_ r_) : Fn Try.prog 8 [(Pd.rep (En.slice En.cls) list_), (Pd.rep (En.slice En.cls) parts_), (Pd.rep En.cls a_)] (Rq (Pd.rep En.bool r_)) := by
  unfold law02_SplitTells at h
  refine fn_of Try.func8 rfl Try.ntmps8 (by rfl) (by simp) fun s0 a hL => ?_
  refine wp_seq_k fun K1 hK1 => ?_
  refine rg ?_
  refine st 5 (t_box (o_t 2 rfl) rfl rfl) rfl rfl hL fun a s e_ hL => ?_
  refine st 6 (t_assign o_b rfl rfl) rfl rfl hL fun a s e_ hL => ?_
  refine en' ?_
  show K1 a s.w
  refine hK1 _ _ ?_
  refine wp_seq_k fun K2 hK2 => ?_
  refine wp_seq_k fun K3 hK3 => ?_
  obtain ⟨r4, h5, b6, h7, h⟩ := h
  refine rg ?_
  refine st 7 (t_call (law02_awake_ok h5) (xs := []) .nil rfl rfl) rfl rfl hL fun a s e_ hL => ?_
  refine st 8 (t_not (o_t 7 rfl) rfl rfl) rfl rfl hL fun a s e_ hL => ?_
  refine st 9 (t_move (o_t 8 rfl) rfl rfl) rfl rfl hL fun a s e_ hL => ?_
  refine st 10 (t_g1 rfl rfl rfl (fun hc_ => t_move (o_t 0 rfl) rfl rfl)) rfl rfl hL fun a s e_ hL => ?_
  refine st 11 (t_g1 rfl rfl rfl (fun hc_ => t_len (o_w hc_ 10 rfl) Try.underlying42 rfl rfl)) rfl rfl hL fun a s e_ hL => ?_
  refine st 12 (t_g1 rfl rfl rfl (fun hc_ => t_gtr (o_w hc_ 11 rfl) (o_i (by decide)) rfl rfl)) rfl rfl hL fun a s e_ hL => ?_
  refine st 13 (t_or (o_t 9 rfl) (fun hc2_ => (o_w hc2_ 12 rfl)) rfl rfl) rfl rfl hL fun a s e_ hL => ?_
  refine st 14 (t_move (o_t 13 rfl) rfl rfl) rfl rfl hL fun a s e_ hL => ?_
  refine st 15 (t_g1 rfl rfl rfl (fun hc_ => t_move (o_t 1 rfl) rfl rfl)) rfl rfl hL fun a s e_ hL => ?_
  refine st 16 (t_g1 rfl rfl rfl (fun hc_ => t_len (o_w hc_ 15 rfl) Try.underlying42 rfl rfl)) rfl rfl hL fun a s e_ hL => ?_
  refine st 17 (t_g1 rfl rfl rfl (fun hc_ => t_gtr (o_w hc_ 16 rfl) (o_i (by decide)) rfl rfl)) rfl rfl hL fun a s e_ hL => ?_
  refine st 18 (h7 ▸ (t_or (o_t 14 rfl) (fun hc2_ => (o_w hc2_ 17 rfl)) rfl rfl)) rfl rfl hL fun a s e_ hL => ?_
  refine en' ?_
  show K3 a s.w
  refine hK3 _ _ ?_
  refine cnd hL rfl (fun hb_ => ?_) (fun hb_ => ?_)
  · replace h := h.1 hb_
    refine wp_seq_k fun K8 hK8 => ?_
    obtain ⟨r9, h10, h⟩ := h
    refine rg ?_
    refine st 19 (t_call (law02_awake_ok h10) (xs := []) .nil rfl rfl) rfl rfl hL fun a s e_ hL => ?_
    refine st 6 (t_assign (o_t 19 rfl) rfl rfl) rfl rfl hL fun a s e_ hL => ?_
    refine en' ?_
    show K8 a s.w
    refine hK8 _ _ ?_
    subst h
    exact wp_ret (retq rfl hL rfl)
  · replace h := h.2 hb_
    refine wp_skip ?_
    show K2 a s.w
    refine hK2 _ _ ?_
    refine wp_seq_k fun K11 hK11 => ?_
    obtain ⟨r12, h13, r14, h15, r16, h17, r18, h19, r20, h21, r22, h23, r24, h25, r26, h27, r28, h29, h⟩ := h
    refine rda follows 21 [(Pd.rep (En.slice En.cls) list_), (Pd.rep (En.slice En.cls) r12), (Pd.rep (En.slice En.cls) list_), (Pd.rep (En.slice En.cls) r14), (Pd.rep En.bool r16), (Pd.rep En.bool r16), (Pd.when ((r16) = true) (Pd.rep (En.slice En.cls) list_)), (Pd.when ((r16) = true) (Pd.rep (En.slice (En.int .u8)) r18)), (Pd.when ((r16) = true) (Pd.rep (En.slice En.cls) list_)), (Pd.when ((r16) = true) (Pd.rep (En.slice (En.int .u8)) r20)), (Pd.when ((r16) = true) (Pd.rep En.bool r22)), (Pd.rep En.bool (r16 && r22)), (Pd.rep En.bool (r16 && r22)), (Pd.when (((r16 && r22)) = true) (Pd.rep (En.slice En.cls) parts_)), (Pd.when (((r16 && r22)) = true) (Pd.rep En.cls a_)), (Pd.when (((r16 && r22)) = true) (Pd.rep (En.slice En.cls) r24)), (Pd.when (((r16 && r22)) = true) (Pd.rep (En.slice En.cls) parts_)), (Pd.when (((r16 && r22)) = true) (Pd.rep En.cls a_)), (Pd.when (((r16 && r22)) = true) (Pd.rep (En.slice En.cls) r26)), (Pd.when (((r16 && r22)) = true) (Pd.rep En.bool r28)), (Pd.rep En.bool ((r16 && r22) && r28))] hL (by kernel_rfl) rfl rfl ?_ ?_
    · refine AllT.cons (t_move (o_t 0 rfl) rfl rfl) ?_
      refine AllT.cons (t_call ((split_Parts_ok h13).frz) (xs := [.tmp 20]) (.cons (o_t 20 rfl) .nil) rfl rfl) ?_
      refine AllT.cons (t_move (o_t 0 rfl) rfl rfl) ?_
      refine AllT.cons (t_call ((ref02_Parts_ok h15).frz) (xs := [.tmp 22]) (.cons (o_t 22 rfl) .nil) rfl rfl) ?_
      refine AllT.cons (t_call (ref02_Same_ok h17) (xs := [.tmp 21, .tmp 23]) (.cons (o_t 21 rfl) (.cons (o_t 23 rfl) .nil)) rfl rfl) ?_
      refine AllT.cons (t_move (o_t 24 rfl) rfl rfl) ?_
      refine AllT.cons (t_g1 rfl rfl rfl (fun hc_ => t_move (o_t 0 rfl) rfl rfl)) ?_
      refine AllT.cons (t_g1 rfl rfl rfl (fun hc_ => t_call ((split_Heads_ok (h19 hc_)).frz) (xs := [.tmp 26]) (.cons (o_w hc_ 26 rfl) .nil) rfl rfl)) ?_
      refine AllT.cons (t_g1 rfl rfl rfl (fun hc_ => t_move (o_t 0 rfl) rfl rfl)) ?_
      refine AllT.cons (t_g1 rfl rfl rfl (fun hc_ => t_call ((ref02_Heads_ok (h21 hc_)).frz) (xs := [.tmp 28]) (.cons (o_w hc_ 28 rfl) .nil) rfl rfl)) ?_
      refine AllT.cons (t_g1 rfl rfl rfl (fun hc_ => t_call (ref02_Bytes_ok (h23 hc_)) (xs := [.tmp 27, .tmp 29]) (.cons (o_w hc_ 27 rfl) (.cons (o_w hc_ 29 rfl) .nil)) rfl rfl)) ?_
      refine AllT.cons (t_and (o_t 25 rfl) (fun hc2_ => (o_w hc2_ 30 rfl)) rfl rfl) ?_
      refine AllT.cons (t_move (o_t 31 rfl) rfl rfl) ?_
      refine AllT.cons (t_g1 rfl rfl rfl (fun hc_ => t_move (o_t 1 rfl) rfl rfl)) ?_
      refine AllT.cons (t_g1 rfl rfl rfl (fun hc_ => t_load ty24 (o_t 5 rfl) rfl rfl)) ?_
      refine AllT.cons (t_g1 rfl rfl rfl (fun hc_ => t_call ((split_Refine_ok (h25 hc_)).frz) (xs := [.tmp 33, .tmp 34]) (.cons (o_w hc_ 33 rfl) (.cons (o_w hc_ 34 rfl) .nil)) rfl rfl)) ?_
      refine AllT.cons (t_g1 rfl rfl rfl (fun hc_ => t_move (o_t 1 rfl) rfl rfl)) ?_
      refine AllT.cons (t_g1 rfl rfl rfl (fun hc_ => t_load ty24 (o_t 5 rfl) rfl rfl)) ?_
      refine AllT.cons (t_g1 rfl rfl rfl (fun hc_ => t_call ((ref02_Refine_ok (h27 hc_)).frz) (xs := [.tmp 36, .tmp 37]) (.cons (o_w hc_ 36 rfl) (.cons (o_w hc_ 37 rfl) .nil)) rfl rfl)) ?_
      refine AllT.cons (t_g1 rfl rfl rfl (fun hc_ => t_call (ref02_Same_ok (h29 hc_)) (xs := [.tmp 35, .tmp 38]) (.cons (o_w hc_ 35 rfl) (.cons (o_w hc_ 38 rfl) .nil)) rfl rfl)) ?_
      refine AllT.cons (t_and (o_t 32 rfl) (fun hc2_ => (o_w hc2_ 39 rfl)) rfl rfl) ?_
      exact AllT.nil
    intro a s e_ hL
    refine st 6 (t_assign (o_t 40 rfl) rfl rfl) rfl rfl hL fun a s e_ hL => ?_
    refine en' ?_
    show K11 a s.w
    refine hK11 _ _ ?_
    subst h
    exact wp_ret (retq rfl hL rfl)
end Go.Proofs.Ytkdbiiollbeoeaa.V
