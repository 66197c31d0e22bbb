/-
  The texts that the law's proof needs, part 5.
-/
import Derived.Test.YtdidjelkkanenaaDoorNextFramesP4
namespace Go.Proofs.YtdidjelkkanenaaDoor.V
open Go
set_option linter.unusedVariables false
set_option maxRecDepth 100000
theorem law15_NextFrames_ok {d_ : SDesc} {w_ : (List Int)} {more_ : Int} {r_ : Bool} (h : law15_NextFrames d_ w_ more_ r_) : Fn Tryd.prog 11 [(Pd.rep En.SDesc d_), (Pd.rep (En.slice (En.int .u8)) w_), (Pd.rep (En.int .u8) more_)] (Rq (Pd.rep En.bool r_)) := by
  unfold law15_NextFrames at h
  refine fn_of Tryd.func11 rfl Tryd.ntmps11 (by rfl) (by simp) fun s0 a hL => ?_
  refine wp_seq_k fun K1 hK1=>rg (sx 3 (t_box (o_t 0 rfl) rfl rfl) hL fun a s e_ hL=>?_)
  refine sx 6 (t_assign o_b rfl rfl) hL fun a s e_ hL=>en' (hK1 _ _ ?_)
  refine wp_seq_k fun K2 hK2=>wp_seq_k fun K3 hK3=>?_
  obtain ⟨r4, h5, r6, h7, r8, h9, r10, h11, h⟩ := h
  refine rg (sx 16 (t_call (law15_awake_ok h5) (xs := []) .nil rfl rfl) hL fun a s e_ hL=>?_)
  refine sx 17 (t_not (o_t 16 rfl) rfl rfl) hL fun a s e_ hL=>sx 18 (t_move (o_t 17 rfl) rfl rfl) hL fun a s e_ hL=>sx 19 (t_g1 rfl rfl rfl (fun hc_ => t_load ty24 (o_t 3 rfl) rfl rfl)) hL fun a s e_ hL=>sx 20 (t_g1 rfl rfl rfl (fun hc_ => t_call (ref04_Few_ok (h7 hc_)) (xs := [.tmp 19]) (.cons (o_w hc_ 19 rfl) .nil) rfl rfl)) hL fun a s e_ hL=>sx 21 (t_g1 rfl rfl rfl (fun hc_ => t_not (o_w hc_ 20 rfl) rfl rfl)) hL fun a s e_ hL=>sx 22 (t_or (o_t 18 rfl) (fun hc2_ => (o_w hc2_ 21 rfl)) rfl rfl) hL fun a s e_ hL=>sx 23 (t_move (o_t 22 rfl) rfl rfl) hL fun a s e_ hL=>sx 24 (t_g1 rfl rfl rfl (fun hc_ => t_load ty24 (o_t 3 rfl) rfl rfl)) hL fun a s e_ hL=>sx 25 (t_g1 rfl rfl rfl (fun hc_ => t_move (o_t 1 rfl) rfl rfl)) hL fun a s e_ hL=>?_
  refine sx 26 (t_g1 rfl rfl rfl (fun hc_ => t_call (ref12_Fits_ok (h9 hc_)) (xs := [.tmp 24, .tmp 25]) (.cons (o_w hc_ 24 rfl) (.cons (o_w hc_ 25 rfl) .nil)) rfl rfl)) hL fun a s e_ hL=>sx 27 (t_g1 rfl rfl rfl (fun hc_ => t_not (o_w hc_ 26 rfl) rfl rfl)) hL fun a s e_ hL=>sx 28 (t_or (o_t 23 rfl) (fun hc2_ => (o_w hc2_ 27 rfl)) rfl rfl) hL fun a s e_ hL=>sx 29 (t_move (o_t 28 rfl) rfl rfl) hL fun a s e_ hL=>sx 30 (t_g1 rfl rfl rfl (fun hc_ => t_load ty24 (o_t 3 rfl) rfl rfl)) hL fun a s e_ hL=>sx 31 (t_g1 rfl rfl rfl (fun hc_ => t_call (ref08_Right_ok (h11 hc_)) (xs := [.tmp 30]) (.cons (o_w hc_ 30 rfl) .nil) rfl rfl)) hL fun a s e_ hL=>sx 32 (t_g1 rfl rfl rfl (fun hc_ => t_not (o_w hc_ 31 rfl) rfl rfl)) hL fun a s e_ hL=>sx 33 (t_or (o_t 29 rfl) (fun hc2_ => (o_w hc2_ 32 rfl)) rfl rfl) hL fun a s e_ hL=>en' (hK3 _ _ ?_)
  refine cnd hL rfl (fun hb_ => ?_) (fun hb_ => ?_)
  · replace h := h.1 hb_
    refine wp_seq_k fun K12 hK12=>?_
    obtain ⟨r13, h14, h⟩ := h
    refine rg (sx 34 (t_call (law15_awake_ok h14) (xs := []) .nil rfl rfl) hL fun a s e_ hL=>?_)
    refine sx 6 (t_assign (o_t 34 rfl) rfl rfl) hL fun a s e_ hL=>en' (hK12 _ _ ?_)
    subst h
    exact wp_ret (retq rfl hL rfl)
  · replace h := h.2 hb_
    refine wp_skip ?_
    show K2 a s.w
    refine hK2 _ _ (wp_seq_k fun K15 hK15=>?_)
    obtain ⟨r16, h17, h⟩ := h
    refine rg (sx 35 (t_load ty24 (o_t 3 rfl) rfl rfl) hL fun a s e_ hL=>?_)
    refine sx 36 (t_call (ref04_Wrap_ok h17) (xs := [.const (.int .i64 8), .const (.int .i64 0), .const (.int .i64 0), .tmp 35]) (.cons (o_i (k := .i64) (by decide)) (.cons (o_i (k := .i64) (by decide)) (.cons (o_i (k := .i64) (by decide)) (.cons (o_t 35 rfl) .nil)))) rfl rfl) hL fun a s e_ hL=>st_alloc En.SDesc (z := []) 7 hL tyz24 rfl rfl rfl rfl fun a s g18 hg_ hL => ?_
    refine st_stb (L' := [(1, (Pd.rep (En.slice (En.int .u8)) w_)), (2, (Pd.rep (En.int .u8) more_)), (3, (Pd.ptr En.SDesc d_))]) 7 hL rfl (o_t 36 rfl) ty24 rfl rfl rfl (.cons (t := 1) rfl nE (.cons (t := 2) rfl nE (.cons (t := 3) rfl nE .nil))) fun s hL => ?_
    refine en' (hK15 _ _ ?_)
    refine wp_seq_k fun K19 hK19=>?_
    obtain ⟨r20, h21, r22, h23, h⟩ := h
    refine rda follows 7 [(Pd.rep En.SDesc r16), (Pd.rep En.SDesc r16), (Pd.rep (En.slice En.SItem) r20), (Pd.rep (En.slice (En.int .u8)) w_), (Pd.rep (En.int .i64) (w_.length : Int)), (Pd.rep (En.int .u8) ((w_.length : Int) % 256)), (Pd.rep (En.slice En.SBranch) r22)] hL (by kernel_rfl) rfl rfl ?_ ?_
    · refine AllT.cons (t_loadb ty24 (o_t 7 rfl) rfl rfl) ?_
      refine AllT.cons (t_loadb ty24 (o_t 7 rfl) rfl rfl) (AllT.cons (t_call ((law15_start_ok h21).frz) (xs := [.tmp 38]) (.cons (o_t 38 rfl) .nil) rfl rfl) ?_)
      refine AllT.cons (t_move (o_t 1 rfl) rfl rfl) (AllT.cons (t_len (o_t 40 rfl) Tryd.underlying53 rfl rfl) ?_)
      refine AllT.cons (t_u8 (o_t 41 rfl) Tryd.underlying3 Tryd.underlying5 rfl rfl) (AllT.cons (t_call ((next_On_ok h23).frz) (xs := [.tmp 37, .tmp 39, .tmp 42]) (.cons (o_t 37 rfl) (.cons (o_t 39 rfl) (.cons (o_t 42 rfl) .nil))) rfl rfl) ?_)
      exact AllT.nil
    intro a s e_ hL
    refine sx 8 (t_assign (o_t 43 rfl) rfl rfl) hL fun a s e_ hL=>en' (hK19 _ _ ?_)
    refine wp_seq_k fun K24 hK24=>wp_seq_k fun K25 hK25=>?_
    obtain ⟨e26, h27, e28, h29, b30, h31, e32, h33, e34, h35, h⟩ := h
    refine rg (sx 44 (t_move (o_t 8 rfl) rfl rfl) hL fun a s e_ hL=>?_)
    refine sx 45 (t_len (o_t 44 rfl) Tryd.underlying31 rfl rfl) hL fun a s e_ hL=>sx 46 (t_nei (o_t 45 rfl) (o_i (k := .i64) (by decide)) rfl rfl) hL fun a s e_ hL=>sx 47 (t_move (o_t 46 rfl) rfl rfl) hL fun a s e_ hL=>sx 48 (t_g1 rfl rfl rfl (fun hc_ => t_move (o_t 8 rfl) rfl rfl)) hL fun a s e_ hL=>sx 49 (t_g1 rfl rfl rfl (fun hc_ => t_idx (o_w hc_ 48 rfl) (o_i (k := .i64) (by decide)) (h27 hc_) Tryd.underlying31 ty38 rfl rfl)) hL fun a s e_ hL=>sx 50 (t_g1 rfl rfl rfl (fun hc_ => t_fa (off := 1) (o_w hc_ 49 rfl) Tryd.underlying38 rfl (prt_snd (prt_all _ _) rfl) rfl ty3 rfl rfl)) hL fun a s e_ hL=>sx 51 (t_g1 rfl rfl rfl (fun hc_ => t_load ty3 (o_w hc_ 50 rfl) rfl rfl)) hL fun a s e_ hL=>sx 52 (t_g1 rfl rfl rfl (fun hc_ => t_nei (o_w hc_ 51 rfl) (o_i (k := .i64) (by decide)) rfl rfl)) hL fun a s e_ hL=>sx 53 (t_or (o_t 47 rfl) (fun hc2_ => (o_w hc2_ 52 rfl)) rfl rfl) hL fun a s e_ hL=>?_
    refine sx 54 (t_move (o_t 53 rfl) rfl rfl) hL fun a s e_ hL=>sx 55 (t_g1 rfl rfl rfl (fun hc_ => t_move (o_t 8 rfl) rfl rfl)) hL fun a s e_ hL=>sx 56 (t_g1 rfl rfl rfl (fun hc_ => t_idx (o_w hc_ 55 rfl) (o_i (k := .i64) (by decide)) (h29 hc_) Tryd.underlying31 ty38 rfl rfl)) hL fun a s e_ hL=>sx 57 (t_g1 rfl rfl rfl (fun hc_ => t_fa (off := 0) (o_w hc_ 56 rfl) Tryd.underlying38 rfl (prt_fst (prt_all _ _)) rfl ty26 rfl rfl)) hL fun a s e_ hL=>sx 58 (t_g1 rfl rfl rfl (fun hc_ => t_load ty26 (o_w hc_ 57 rfl) rfl rfl)) hL fun a s e_ hL=>sx 59 (t_g1 rfl rfl rfl (fun hc_ => t_len (o_w hc_ 58 rfl) Tryd.underlying26 rfl rfl)) hL fun a s e_ hL=>sx 60 (t_g1 rfl rfl rfl (fun hc_ => t_nei (o_w hc_ 59 rfl) (o_i (k := .i64) (by decide)) rfl rfl)) hL fun a s e_ hL=>sx 61 (h31 ▸ (t_or (o_t 54 rfl) (fun hc2_ => (o_w hc2_ 60 rfl)) rfl rfl)) hL fun a s e_ hL=>sx 62 (t_move (o_t 61 rfl) rfl rfl) hL fun a s e_ hL=>?_
    refine sx 63 (t_g1 rfl rfl rfl (fun hc_ => t_move (o_t 8 rfl) rfl rfl)) hL fun a s e_ hL=>sx 64 (t_g1 rfl rfl rfl (fun hc_ => t_idx (o_w hc_ 63 rfl) (o_i (k := .i64) (by decide)) (h33 hc_) Tryd.underlying31 ty38 rfl rfl)) hL fun a s e_ hL=>sx 65 (t_g1 rfl rfl rfl (fun hc_ => t_fa (off := 0) (o_w hc_ 64 rfl) Tryd.underlying38 rfl (prt_fst (prt_all _ _)) rfl ty26 rfl rfl)) hL fun a s e_ hL=>sx 66 (t_g1 rfl rfl rfl (fun hc_ => t_load ty26 (o_w hc_ 65 rfl) rfl rfl)) hL fun a s e_ hL=>sx 67 (t_g1 rfl rfl rfl (fun hc_ => t_idx (o_w hc_ 66 rfl) (o_i (k := .i64) (by decide)) (h35 hc_) Tryd.underlying26 ty43 rfl rfl)) hL fun a s e_ hL=>sx 68 (t_g1 rfl rfl rfl (fun hc_ => t_load ty43 (o_w hc_ 67 rfl) rfl rfl)) hL fun a s e_ hL=>sx 69 (t_g1 rfl rfl rfl (fun hc_ => t_move (o_t 1 rfl) rfl rfl)) hL fun a s e_ hL=>sx 70 (t_g1 rfl rfl rfl (fun hc_ => t_len (o_w hc_ 69 rfl) Tryd.underlying53 rfl rfl)) hL fun a s e_ hL=>sx 71 (t_g1 rfl rfl rfl (fun hc_ => t_build (x := (5, 0, (w_.length : Int), 0)) (ps := [(0, .const (.int .i64 5)), (2, .tmp 70)]) tyz43 rfl stt43 (.cons (i := 0) (o_i (k := .i64) (by decide)) rfl (sub_fst (sub_all _ _ _)) (.cons (i := 2) (o_w hc_ 70 rfl) rfl (sub_snd (sub_snd (sub_fst (sub_all _ _ _)) rfl) rfl) .nil)) rfl rfl)) hL fun a s e_ hL=>?_
    refine sx 72 (t_g1 rfl rfl rfl (fun hc_ => t_nev eq43 (o_w hc_ 68 rfl) (o_w hc_ 71 rfl) rfl rfl)) hL fun a s e_ hL=>sx 73 (t_or (o_t 62 rfl) (fun hc2_ => (o_w hc2_ 72 rfl)) rfl rfl) hL fun a s e_ hL=>en' (hK25 _ _ ?_)
    refine cnd hL rfl (fun hb_ => ?_) (fun hb_ => ?_)
    · replace h := h.1 hb_
      refine wp_seq_k fun K36 hK36=>rg (sx 6 (t_assign o_b rfl rfl) hL fun a s e_ hL=>?_)
      refine en' (hK36 _ _ ?_)
      subst h
      exact wp_ret (retq rfl hL rfl)
    · replace h := h.2 hb_
      refine wp_skip ?_
      show K24 a s.w
      refine hK24 _ _ (wp_seq_k fun K37 hK37=>?_)
      refine wp_seq_k fun K38 hK38=>rg (sx 9 (t_assign (o_i (k := .i64) (by decide)) rfl rfl) hL fun a s e_ hL=>?_)
      refine en' (hK38 _ _ ?_)
      refine wp_block ?_
      have J40 : ∀ (l39 : (List SBranch)) (a : Act) (s : St), Has N0 168 s0 a s [(1, (Pd.rep (En.slice (En.int .u8)) w_)), (2, (Pd.rep (En.int .u8) more_)), (3, (Pd.ptr En.SDesc d_)), (7, (Pd.box En.SDesc s0.w.heap.size g18 r16)), (8, (Pd.rep (En.slice En.SBranch) l39))] → ((law15_NextFrames.j2 d_ w_ more_ r_ r16) l39) → K37 a s.w := by
        intro l39 a s hL h
        unfold law15_NextFrames.j2 at h
        show K37 a s.w
        refine hK37 _ _ (wp_seq_k fun K41 hK41=>?_)
        refine rg (sx 14 (t_assign (o_i (k := .i64) (by decide)) rfl rfl) hL fun a s e_ hL=>?_)
        refine en' (hK41 _ _ ?_)
        refine wp_seq_k fun K42 hK42=>wp_seq_k fun K43 hK43=>rg (sx 15 (t_assign (o_i (k := .i64) (by decide)) rfl rfl) hL fun a s e_ hL=>?_)
        refine en' (hK43 _ _ ?_)
        refine wp_block ?_
        have J45 : ∀ (ways44 : Int) (a : Act) (s : St), Has N0 168 s0 a s [(1, (Pd.rep (En.slice (En.int .u8)) w_)), (3, (Pd.ptr En.SDesc d_)), (14, (Pd.rep (En.int .i64) ways44))] → ((law15_NextFrames.j1 d_ w_ r_) ways44) → K42 a s.w := by
          intro ways44 a s hL h
          unfold law15_NextFrames.j1 at h
          show K42 a s.w
          refine hK42 _ _ (wp_seq_k fun K46 hK46=>?_)
          obtain ⟨r47, h48, h⟩ := h
          refine rg (sx 163 (t_move (o_t 14 rfl) rfl rfl) hL fun a s e_ hL=>?_)
          refine sx 164 (t_load ty24 (o_t 3 rfl) rfl rfl) hL fun a s e_ hL=>sx 165 (t_move (o_t 1 rfl) rfl rfl) hL fun a s e_ hL=>sx 166 (t_call (ref12_Ways_ok h48) (xs := [.tmp 164, .tmp 165]) (.cons (o_t 164 rfl) (.cons (o_t 165 rfl) .nil)) rfl rfl) hL fun a s e_ hL=>sx 167 (t_eqi (o_t 163 rfl) (o_t 166 rfl) rfl rfl) hL fun a s e_ hL=>sx 6 (t_assign (o_t 167 rfl) rfl rfl) hL fun a s e_ hL=>en' (hK46 _ _ ?_)
          subst h
          exact wp_ret (retq rfl hL rfl)
        obtain ⟨k51, h⟩ := h
        refine lpg (fun k52 a s => ∃ (ways49 : Int) (k50 : Int), Has N0 168 s0 a s [(1, (Pd.rep (En.slice (En.int .u8)) w_)), (2, (Pd.rep (En.int .u8) more_)), (3, (Pd.ptr En.SDesc d_)), (7, (Pd.box En.SDesc s0.w.heap.size g18 r16)), (8, (Pd.rep (En.slice En.SBranch) l39)), (14, (Pd.rep (En.int .i64) ways49)), (15, (Pd.rep (En.int .i64) k50))] ∧ law15_NextFrames.l1 more_ r16 l39 r_ (law15_NextFrames.j1 d_ w_ r_) k52 ways49 k50) k51 ⟨0, 0, hL.keep (.cons (t := 1) rfl nE (.cons (t := 2) rfl nE (.cons (t := 3) rfl nE (.cons (t := 7) rfl (fun _ _ h_ => h_) (.cons (t := 8) rfl nE (.cons (t := 14) rfl nE (.cons (t := 15) rfl nE .nil))))))), h⟩ ?_
        rintro k52 a s ⟨ways49, k50, hL, h⟩ KL53 hKL53
        cases k52 with
        | zero => exact h.elim
        | succ k52 =>
        unfold law15_NextFrames.l1 at h
        refine wp_seq_k fun K54 hK54=>wp_seq_k fun K55 hK55=>rg (sx 131 (t_move (o_t 15 rfl) rfl rfl) hL fun a s e_ hL=>?_)
        refine sx 132 (t_move (o_t 8 rfl) rfl rfl) hL fun a s e_ hL=>sx 133 (t_len (o_t 132 rfl) Tryd.underlying31 rfl rfl) hL fun a s e_ hL=>sx 134 (t_lss (o_t 131 rfl) (o_t 133 rfl) rfl rfl) hL fun a s e_ hL=>en' (hK55 _ _ ?_)
        refine cnd hL rfl (fun hb_ => ?_) (fun hb_ => ?_)
        · replace h := h.1 hb_
          refine wp_skip ?_
          show K54 a s.w
          refine hK54 _ _ (wp_seq_k fun K56 hK56=>?_)
          refine wp_block (wp_seq_k fun K57 hK57=>?_)
          obtain ⟨e58, h59, e60, h61, r62, h63, h64, h65, h⟩ := h
          refine rda follows 16 [(Pd.rep (En.int .i64) ways49), (Pd.rep (En.slice En.SBranch) l39), (Pd.rep (En.int .i64) k50), (Pd.ptr En.SBranch e58), (Pd.ptr (En.int .i64) e58.2), (Pd.rep (En.int .i64) e58.2), (Pd.rep En.SDesc r16), (Pd.rep (En.slice En.SBranch) l39), (Pd.rep (En.int .i64) k50), (Pd.ptr En.SBranch e60), (Pd.ptr (En.slice En.SItem) e60.1), (Pd.rep (En.slice En.SItem) e60.1), (Pd.rep (En.int .i64) r62), (Pd.rep (En.int .i64) (e58.2 * r62)), (Pd.rep (En.int .i64) (ways49 + (e58.2 * r62))), (Pd.rep (En.int .i64) (min 2 (ways49 + (e58.2 * r62))))] hL (by kernel_rfl) rfl rfl ?_ ?_
          · refine AllT.cons (t_move (o_t 14 rfl) rfl rfl) ?_
            refine AllT.cons (t_move (o_t 8 rfl) rfl rfl) (AllT.cons (t_move (o_t 15 rfl) rfl rfl) ?_)
            refine AllT.cons (t_idx (o_t 138 rfl) (o_t 139 rfl) h59 Tryd.underlying31 ty38 rfl rfl) (AllT.cons (t_fa (off := 1) (o_t 140 rfl) Tryd.underlying38 rfl (prt_snd (prt_all _ _) rfl) rfl ty3 rfl rfl) ?_)
            refine AllT.cons (t_load ty3 (o_t 141 rfl) rfl rfl) (AllT.cons (t_loadb ty24 (o_t 7 rfl) rfl rfl) ?_)
            refine AllT.cons (t_move (o_t 8 rfl) rfl rfl) (AllT.cons (t_move (o_t 15 rfl) rfl rfl) ?_)
            refine AllT.cons (t_idx (o_t 144 rfl) (o_t 145 rfl) h61 Tryd.underlying31 ty38 rfl rfl) (AllT.cons (t_fa (off := 0) (o_t 146 rfl) Tryd.underlying38 rfl (prt_fst (prt_all _ _)) rfl ty26 rfl rfl) ?_)
            refine AllT.cons (t_load ty26 (o_t 147 rfl) rfl rfl) (AllT.cons (t_call (next_Ends_ok h63) (xs := [.tmp 143, .tmp 148]) (.cons (o_t 143 rfl) (.cons (o_t 148 rfl) .nil)) rfl rfl) ?_)
            refine AllT.cons (t_mul (o_t 142 rfl) (o_t 149 rfl) h64 rfl rfl) (AllT.cons (t_add (o_t 137 rfl) (o_t 150 rfl) h65 rfl rfl) ?_)
            refine AllT.cons (t_min (o_i (k := .i64) (by decide)) (o_t 151 rfl) rfl rfl) ?_
            exact AllT.nil
          intro a s e_ hL
          refine sx 14 (t_assign (o_t 152 rfl) rfl rfl) hL fun a s e_ hL=>en' (hK57 _ _ ?_)
          refine wp_seq_k fun K66 hK66=>?_
          obtain ⟨e67, h68, r69, h70, h⟩ := h
          refine rda follows 10 [(Pd.rep En.SDesc r16), (Pd.rep (En.slice En.SBranch) l39), (Pd.rep (En.int .i64) k50), (Pd.ptr En.SBranch e67), (Pd.ptr (En.slice En.SItem) e67.1), (Pd.rep (En.slice En.SItem) e67.1), (Pd.rep (En.int .u8) more_), (Pd.rep (En.slice En.SBranch) r69), (Pd.rep (En.int .i64) (r69.length : Int)), (Pd.rep En.bool ((r69.length : Int) != 0))] hL (by kernel_rfl) rfl rfl ?_ ?_
          · refine AllT.cons (t_loadb ty24 (o_t 7 rfl) rfl rfl) ?_
            refine AllT.cons (t_move (o_t 8 rfl) rfl rfl) (AllT.cons (t_move (o_t 15 rfl) rfl rfl) ?_)
            refine AllT.cons (t_idx (o_t 154 rfl) (o_t 155 rfl) h68 Tryd.underlying31 ty38 rfl rfl) (AllT.cons (t_fa (off := 0) (o_t 156 rfl) Tryd.underlying38 rfl (prt_fst (prt_all _ _)) rfl ty26 rfl rfl) ?_)
            refine AllT.cons (t_load ty26 (o_t 157 rfl) rfl rfl) (AllT.cons (t_move (o_t 2 rfl) rfl rfl) ?_)
            refine AllT.cons (t_call ((next_On_ok h70).frz) (xs := [.tmp 153, .tmp 158, .tmp 159]) (.cons (o_t 153 rfl) (.cons (o_t 158 rfl) (.cons (o_t 159 rfl) .nil))) rfl rfl) (AllT.cons (t_len (o_t 160 rfl) Tryd.underlying31 rfl rfl) ?_)
            refine AllT.cons (t_nei (o_t 161 rfl) (o_i (k := .i64) (by decide)) rfl rfl) ?_
            exact AllT.nil
          intro a s e_ hL
          refine en' (hK66 _ _ ?_)
          refine cnd hL rfl (fun hb_ => ?_) (fun hb_ => ?_)
          · replace h := h.1 hb_
            refine wp_seq_k fun K71 hK71=>rg (sx 6 (t_assign o_b rfl rfl) hL fun a s e_ hL=>?_)
            refine en' (hK71 _ _ ?_)
            subst h
            exact wp_ret (retq rfl hL rfl)
          · replace h := h.2 hb_
            refine wp_skip ?_
            show K56 a s.w
            refine hK56 _ _ ?_
            obtain ⟨h72, h⟩ := h
            refine rg (sx 135 (t_move (o_t 15 rfl) rfl rfl) hL fun a s e_ hL=>?_)
            refine sx 136 (t_add (o_t 135 rfl) (o_i (k := .i64) (by decide)) h72 rfl rfl) hL fun a s e_ hL=>sx 15 (t_assign (o_t 136 rfl) rfl rfl) hL fun a s e_ hL=>en' ?_
            exact hKL53 k52 a s (Nat.lt_succ_self _) ⟨(min 2 (ways49 + (e58.2 * r62))), (k50 + 1), hL.keep (.cons (t := 1) rfl nE (.cons (t := 2) rfl nE (.cons (t := 3) rfl nE (.cons (t := 7) rfl (fun _ _ h_ => h_) (.cons (t := 8) rfl nE (.cons (t := 14) rfl nE (.cons (t := 15) rfl nE .nil))))))), h⟩
        · replace h := h.2 hb_
          refine wp_exit ?_
          exact J45 ways49 a s (hL.keep (.cons (t := 1) rfl nE (.cons (t := 3) rfl nE (.cons (t := 14) rfl nE .nil)))) h
      obtain ⟨k75, h⟩ := h
      refine lpg (fun k76 a s => ∃ (l73 : (List SBranch)) (i74 : Int), Has N0 168 s0 a s [(1, (Pd.rep (En.slice (En.int .u8)) w_)), (2, (Pd.rep (En.int .u8) more_)), (3, (Pd.ptr En.SDesc d_)), (7, (Pd.box En.SDesc s0.w.heap.size g18 r16)), (8, (Pd.rep (En.slice En.SBranch) l73)), (9, (Pd.rep (En.int .i64) i74))] ∧ law15_NextFrames.l2 w_ r16 r_ (law15_NextFrames.j2 d_ w_ more_ r_ r16) k76 l73 i74) k75 ⟨r22, 0, hL.keep (.cons (t := 1) rfl nE (.cons (t := 2) rfl nE (.cons (t := 3) rfl nE (.cons (t := 7) rfl (fun _ _ h_ => h_) (.cons (t := 8) rfl nE (.cons (t := 9) rfl nE .nil)))))), h⟩ ?_
      rintro k76 a s ⟨l73, i74, hL, h⟩ KL77 hKL77
      cases k76 with
      | zero => exact h.elim
      | succ k76 =>
      unfold law15_NextFrames.l2 at h
      refine wp_seq_k fun K78 hK78=>wp_seq_k fun K79 hK79=>rg (sx 74 (t_move (o_t 9 rfl) rfl rfl) hL fun a s e_ hL=>?_)
      refine sx 75 (t_move (o_t 1 rfl) rfl rfl) hL fun a s e_ hL=>sx 76 (t_len (o_t 75 rfl) Tryd.underlying53 rfl rfl) hL fun a s e_ hL=>sx 77 (t_lss (o_t 74 rfl) (o_t 76 rfl) rfl rfl) hL fun a s e_ hL=>en' (hK79 _ _ ?_)
      refine cnd hL rfl (fun hb_ => ?_) (fun hb_ => ?_)
      · replace h := h.1 hb_
        refine wp_skip ?_
        show K78 a s.w
        refine hK78 _ _ (wp_seq_k fun K80 hK80=>?_)
        refine wp_block (wp_seq_k fun K81 hK81=>?_)
        refine rg (sx 10 (t_assign (o_nilr (E := En.SBranch)) rfl rfl) hL fun a s e_ hL=>?_)
        refine en' (hK81 _ _ ?_)
        refine wp_seq_k fun K82 hK82=>wp_seq_k fun K83 hK83=>rg (sx 11 (t_assign (o_i (k := .i64) (by decide)) rfl rfl) hL fun a s e_ hL=>?_)
        refine en' (hK83 _ _ ?_)
        refine wp_block ?_
        have J85 : ∀ (m84 : (List SBranch)) (a : Act) (s : St), Has N0 168 s0 a s [(1, (Pd.rep (En.slice (En.int .u8)) w_)), (2, (Pd.rep (En.int .u8) more_)), (3, (Pd.ptr En.SDesc d_)), (7, (Pd.box En.SDesc s0.w.heap.size g18 r16)), (9, (Pd.rep (En.int .i64) i74)), (10, (Pd.rep (En.slice En.SBranch) m84))] → ((law15_NextFrames.j3 (law15_NextFrames.l2 w_ r16 r_ (law15_NextFrames.j2 d_ w_ more_ r_ r16) k76) i74) m84) → K82 a s.w := by
          intro m84 a s hL h
          unfold law15_NextFrames.j3 at h
          show K82 a s.w
          refine hK82 _ _ (rg ?_)
          refine sx 130 (t_move (o_t 10 rfl) rfl rfl) hL fun a s e_ hL=>sx 8 (t_assign (o_t 130 rfl) rfl rfl) hL fun a s e_ hL=>en' (hK80 _ _ ?_)
          obtain ⟨h86, h⟩ := h
          refine rg (sx 78 (t_move (o_t 9 rfl) rfl rfl) hL fun a s e_ hL=>?_)
          refine sx 79 (t_add (o_t 78 rfl) (o_i (k := .i64) (by decide)) h86 rfl rfl) hL fun a s e_ hL=>sx 9 (t_assign (o_t 79 rfl) rfl rfl) hL fun a s e_ hL=>en' ?_
          exact hKL77 k76 a s (Nat.lt_succ_self _) ⟨m84, (i74 + 1), hL.keep (.cons (t := 1) rfl nE (.cons (t := 2) rfl nE (.cons (t := 3) rfl nE (.cons (t := 7) rfl (fun _ _ h_ => h_) (.cons (t := 8) rfl nE (.cons (t := 9) rfl nE .nil)))))), h⟩
        obtain ⟨k89, h⟩ := h
        refine lpg (fun k90 a s => ∃ (m87 : (List SBranch)) (k88 : Int), Has N0 168 s0 a s [(1, (Pd.rep (En.slice (En.int .u8)) w_)), (2, (Pd.rep (En.int .u8) more_)), (3, (Pd.ptr En.SDesc d_)), (7, (Pd.box En.SDesc s0.w.heap.size g18 r16)), (8, (Pd.rep (En.slice En.SBranch) l73)), (9, (Pd.rep (En.int .i64) i74)), (10, (Pd.rep (En.slice En.SBranch) m87)), (11, (Pd.rep (En.int .i64) k88))] ∧ law15_NextFrames.l3 w_ r16 l73 i74 r_ (law15_NextFrames.j3 (law15_NextFrames.l2 w_ r16 r_ (law15_NextFrames.j2 d_ w_ more_ r_ r16) k76) i74) k90 m87 k88) k89 ⟨([] : (List SBranch)), 0, hL.keep (.cons (t := 1) rfl nE (.cons (t := 2) rfl nE (.cons (t := 3) rfl nE (.cons (t := 7) rfl (fun _ _ h_ => h_) (.cons (t := 8) rfl nE (.cons (t := 9) rfl nE (.cons (t := 10) rfl nE (.cons (t := 11) rfl nE .nil)))))))), h⟩ ?_
        rintro k90 a s ⟨m87, k88, hL, h⟩ KL91 hKL91
        cases k90 with
        | zero => exact h.elim
        | succ k90 =>
        unfold law15_NextFrames.l3 at h
        refine wp_seq_k fun K92 hK92=>wp_seq_k fun K93 hK93=>rg (sx 80 (t_move (o_t 11 rfl) rfl rfl) hL fun a s e_ hL=>?_)
        refine sx 81 (t_move (o_t 8 rfl) rfl rfl) hL fun a s e_ hL=>sx 82 (t_len (o_t 81 rfl) Tryd.underlying31 rfl rfl) hL fun a s e_ hL=>sx 83 (t_lss (o_t 80 rfl) (o_t 82 rfl) rfl rfl) hL fun a s e_ hL=>en' (hK93 _ _ ?_)
        refine cnd hL rfl (fun hb_ => ?_) (fun hb_ => ?_)
        · replace h := h.1 hb_
          refine wp_skip ?_
          show K92 a s.w
          refine hK92 _ _ (wp_seq_k fun K94 hK94=>?_)
          refine wp_block (wp_seq_k fun K95 hK95=>?_)
          refine wp_seq_k fun K96 hK96=>?_
          obtain ⟨e97, h98, r99, h100, h⟩ := h
          refine rda follows 8 [(Pd.rep En.SDesc r16), (Pd.rep (En.slice En.SBranch) l73), (Pd.rep (En.int .i64) k88), (Pd.ptr En.SBranch e97), (Pd.ptr (En.slice En.SItem) e97.1), (Pd.rep (En.slice En.SItem) e97.1), (Pd.rep (En.int .i64) r99), (Pd.rep En.bool (r99 != 0))] hL (by kernel_rfl) rfl rfl ?_ ?_
          · refine AllT.cons (t_loadb ty24 (o_t 7 rfl) rfl rfl) ?_
            refine AllT.cons (t_move (o_t 8 rfl) rfl rfl) (AllT.cons (t_move (o_t 11 rfl) rfl rfl) ?_)
            refine AllT.cons (t_idx (o_t 87 rfl) (o_t 88 rfl) h98 Tryd.underlying31 ty38 rfl rfl) (AllT.cons (t_fa (off := 0) (o_t 89 rfl) Tryd.underlying38 rfl (prt_fst (prt_all _ _)) rfl ty26 rfl rfl) ?_)
            refine AllT.cons (t_load ty26 (o_t 90 rfl) rfl rfl) (AllT.cons (t_call (next_Ends_ok h100) (xs := [.tmp 86, .tmp 91]) (.cons (o_t 86 rfl) (.cons (o_t 91 rfl) .nil)) rfl rfl) ?_)
            refine AllT.cons (t_nei (o_t 92 rfl) (o_i (k := .i64) (by decide)) rfl rfl) ?_
            exact AllT.nil
          intro a s e_ hL
          refine en' (hK96 _ _ ?_)
          refine cnd hL rfl (fun hb_ => ?_) (fun hb_ => ?_)
          · replace h := h.1 hb_
            refine wp_seq_k fun K101 hK101=>rg (sx 6 (t_assign o_b rfl rfl) hL fun a s e_ hL=>?_)
            refine en' (hK101 _ _ ?_)
            subst h
            exact wp_ret (retq rfl hL rfl)
          · replace h := h.2 hb_
            refine wp_skip ?_
            show K95 a s.w
            refine hK95 _ _ (wp_seq_k fun K102 hK102=>?_)
            obtain ⟨e103, h104, e105, h106, r107, h108, h⟩ := h
            refine rda follows 11 [(Pd.rep En.SDesc r16), (Pd.rep (En.slice En.SBranch) l73), (Pd.rep (En.int .i64) k88), (Pd.ptr En.SBranch e103), (Pd.ptr (En.slice En.SItem) e103.1), (Pd.rep (En.slice En.SItem) e103.1), (Pd.rep (En.slice (En.int .u8)) w_), (Pd.rep (En.int .i64) i74), (Pd.ptr (En.int .u8) e105), (Pd.rep (En.int .u8) e105), (Pd.rep (En.slice En.SBranch) r107)] hL (by kernel_rfl) rfl rfl ?_ ?_
            · refine AllT.cons (t_loadb ty24 (o_t 7 rfl) rfl rfl) ?_
              refine AllT.cons (t_move (o_t 8 rfl) rfl rfl) (AllT.cons (t_move (o_t 11 rfl) rfl rfl) ?_)
              refine AllT.cons (t_idx (o_t 95 rfl) (o_t 96 rfl) h104 Tryd.underlying31 ty38 rfl rfl) (AllT.cons (t_fa (off := 0) (o_t 97 rfl) Tryd.underlying38 rfl (prt_fst (prt_all _ _)) rfl ty26 rfl rfl) ?_)
              refine AllT.cons (t_load ty26 (o_t 98 rfl) rfl rfl) (AllT.cons (t_move (o_t 1 rfl) rfl rfl) ?_)
              refine AllT.cons (t_move (o_t 9 rfl) rfl rfl) (AllT.cons (t_idx (o_t 100 rfl) (o_t 101 rfl) h106 Tryd.underlying53 ty5 rfl rfl) ?_)
              refine AllT.cons (t_load ty5 (o_t 102 rfl) rfl rfl) (AllT.cons (t_call ((next_On_ok h108).frz) (xs := [.tmp 94, .tmp 99, .tmp 103]) (.cons (o_t 94 rfl) (.cons (o_t 99 rfl) (.cons (o_t 103 rfl) .nil))) rfl rfl) ?_)
              exact AllT.nil
            intro a s e_ hL
            refine sx 12 (t_assign (o_t 104 rfl) rfl rfl) hL fun a s e_ hL=>en' (hK102 _ _ ?_)
            refine wp_seq_k fun K109 hK109=>rg (sx 13 (t_assign (o_i (k := .i64) (by decide)) rfl rfl) hL fun a s e_ hL=>?_)
            refine en' (hK109 _ _ ?_)
            refine wp_block ?_
            have J111 : ∀ (m110 : (List SBranch)) (a : Act) (s : St), Has N0 168 s0 a s [(1, (Pd.rep (En.slice (En.int .u8)) w_)), (2, (Pd.rep (En.int .u8) more_)), (3, (Pd.ptr En.SDesc d_)), (7, (Pd.box En.SDesc s0.w.heap.size g18 r16)), (8, (Pd.rep (En.slice En.SBranch) l73)), (9, (Pd.rep (En.int .i64) i74)), (10, (Pd.rep (En.slice En.SBranch) m110)), (11, (Pd.rep (En.int .i64) k88))] → ((law15_NextFrames.j4 (law15_NextFrames.l3 w_ r16 l73 i74 r_ (law15_NextFrames.j3 (law15_NextFrames.l2 w_ r16 r_ (law15_NextFrames.j2 d_ w_ more_ r_ r16) k76) i74) k90) k88) m110) → K94 a s.w := by
              intro m110 a s hL h
              unfold law15_NextFrames.j4 at h
              show K94 a s.w
              refine hK94 _ _ ?_
              obtain ⟨h112, h⟩ := h
              refine rg (sx 84 (t_move (o_t 11 rfl) rfl rfl) hL fun a s e_ hL=>?_)
              refine sx 85 (t_add (o_t 84 rfl) (o_i (k := .i64) (by decide)) h112 rfl rfl) hL fun a s e_ hL=>sx 11 (t_assign (o_t 85 rfl) rfl rfl) hL fun a s e_ hL=>en' ?_
              exact hKL91 k90 a s (Nat.lt_succ_self _) ⟨m110, (k88 + 1), hL.keep (.cons (t := 1) rfl nE (.cons (t := 2) rfl nE (.cons (t := 3) rfl nE (.cons (t := 7) rfl (fun _ _ h_ => h_) (.cons (t := 8) rfl nE (.cons (t := 9) rfl nE (.cons (t := 10) rfl nE (.cons (t := 11) rfl nE .nil)))))))), h⟩
            obtain ⟨k115, h⟩ := h
            refine lpg (fun k116 a s => ∃ (m113 : (List SBranch)) (j114 : Int), Has N0 168 s0 a s [(1, (Pd.rep (En.slice (En.int .u8)) w_)), (2, (Pd.rep (En.int .u8) more_)), (3, (Pd.ptr En.SDesc d_)), (7, (Pd.box En.SDesc s0.w.heap.size g18 r16)), (8, (Pd.rep (En.slice En.SBranch) l73)), (9, (Pd.rep (En.int .i64) i74)), (10, (Pd.rep (En.slice En.SBranch) m113)), (11, (Pd.rep (En.int .i64) k88)), (12, (Pd.rep (En.slice En.SBranch) r107)), (13, (Pd.rep (En.int .i64) j114))] ∧ law15_NextFrames.l4 l73 k88 r107 (law15_NextFrames.j4 (law15_NextFrames.l3 w_ r16 l73 i74 r_ (law15_NextFrames.j3 (law15_NextFrames.l2 w_ r16 r_ (law15_NextFrames.j2 d_ w_ more_ r_ r16) k76) i74) k90) k88) k116 m113 j114) k115 ⟨m87, 0, hL.keep (.cons (t := 1) rfl nE (.cons (t := 2) rfl nE (.cons (t := 3) rfl nE (.cons (t := 7) rfl (fun _ _ h_ => h_) (.cons (t := 8) rfl nE (.cons (t := 9) rfl nE (.cons (t := 10) rfl nE (.cons (t := 11) rfl nE (.cons (t := 12) rfl nE (.cons (t := 13) rfl nE .nil)))))))))), h⟩ ?_
            rintro k116 a s ⟨m113, j114, hL, h⟩ KL117 hKL117
            cases k116 with
            | zero => exact h.elim
            | succ k116 =>
            unfold law15_NextFrames.l4 at h
            refine wp_seq_k fun K118 hK118=>wp_seq_k fun K119 hK119=>rg (sx 105 (t_move (o_t 13 rfl) rfl rfl) hL fun a s e_ hL=>?_)
            refine sx 106 (t_move (o_t 12 rfl) rfl rfl) hL fun a s e_ hL=>sx 107 (t_len (o_t 106 rfl) Tryd.underlying31 rfl rfl) hL fun a s e_ hL=>sx 108 (t_lss (o_t 105 rfl) (o_t 107 rfl) rfl rfl) hL fun a s e_ hL=>en' (hK119 _ _ ?_)
            refine cnd hL rfl (fun hb_ => ?_) (fun hb_ => ?_)
            · replace h := h.1 hb_
              refine wp_skip ?_
              show K118 a s.w
              refine hK118 _ _ (wp_seq_k fun K120 hK120=>?_)
              refine wp_block ?_
              obtain ⟨e121, h122, e123, h124, e125, h126, h127, r128, h129, h⟩ := h
              refine rda follows 19 [(Pd.rep (En.slice En.SBranch) m113), (Pd.rep (En.slice En.SBranch) r107), (Pd.rep (En.int .i64) j114), (Pd.ptr En.SBranch e121), (Pd.ptr (En.slice En.SItem) e121.1), (Pd.rep (En.slice En.SItem) e121.1), (Pd.rep (En.slice En.SBranch) l73), (Pd.rep (En.int .i64) k88), (Pd.ptr En.SBranch e123), (Pd.ptr (En.int .i64) e123.2), (Pd.rep (En.int .i64) e123.2), (Pd.rep (En.slice En.SBranch) r107), (Pd.rep (En.int .i64) j114), (Pd.ptr En.SBranch e125), (Pd.ptr (En.int .i64) e125.2), (Pd.rep (En.int .i64) e125.2), (Pd.rep (En.int .i64) (e123.2 * e125.2)), (Pd.rep (En.int .i64) (min 2 (e123.2 * e125.2))), (Pd.rep (En.slice En.SBranch) r128)] hL (by kernel_rfl) rfl rfl ?_ ?_
              · refine AllT.cons (t_move (o_t 10 rfl) rfl rfl) ?_
                refine AllT.cons (t_move (o_t 12 rfl) rfl rfl) (AllT.cons (t_move (o_t 13 rfl) rfl rfl) ?_)
                refine AllT.cons (t_idx (o_t 112 rfl) (o_t 113 rfl) h122 Tryd.underlying31 ty38 rfl rfl) (AllT.cons (t_fa (off := 0) (o_t 114 rfl) Tryd.underlying38 rfl (prt_fst (prt_all _ _)) rfl ty26 rfl rfl) ?_)
                refine AllT.cons (t_load ty26 (o_t 115 rfl) rfl rfl) (AllT.cons (t_move (o_t 8 rfl) rfl rfl) ?_)
                refine AllT.cons (t_move (o_t 11 rfl) rfl rfl) (AllT.cons (t_idx (o_t 117 rfl) (o_t 118 rfl) h124 Tryd.underlying31 ty38 rfl rfl) ?_)
                refine AllT.cons (t_fa (off := 1) (o_t 119 rfl) Tryd.underlying38 rfl (prt_snd (prt_all _ _) rfl) rfl ty3 rfl rfl) (AllT.cons (t_load ty3 (o_t 120 rfl) rfl rfl) ?_)
                refine AllT.cons (t_move (o_t 12 rfl) rfl rfl) (AllT.cons (t_move (o_t 13 rfl) rfl rfl) ?_)
                refine AllT.cons (t_idx (o_t 122 rfl) (o_t 123 rfl) h126 Tryd.underlying31 ty38 rfl rfl) (AllT.cons (t_fa (off := 1) (o_t 124 rfl) Tryd.underlying38 rfl (prt_snd (prt_all _ _) rfl) rfl ty3 rfl rfl) ?_)
                refine AllT.cons (t_load ty3 (o_t 125 rfl) rfl rfl) (AllT.cons (t_mul (o_t 121 rfl) (o_t 126 rfl) h127 rfl rfl) ?_)
                refine AllT.cons (t_min (o_i (k := .i64) (by decide)) (o_t 127 rfl) rfl rfl) (AllT.cons (t_call ((ref14_Add_ok h129).frz) (xs := [.tmp 111, .tmp 116, .tmp 128]) (.cons (o_t 111 rfl) (.cons (o_t 116 rfl) (.cons (o_t 128 rfl) .nil))) rfl rfl) ?_)
                exact AllT.nil
              intro a s e_ hL
              refine sx 10 (t_assign (o_t 129 rfl) rfl rfl) hL fun a s e_ hL=>en' (hK120 _ _ ?_)
              obtain ⟨h130, h⟩ := h
              refine rg (sx 109 (t_move (o_t 13 rfl) rfl rfl) hL fun a s e_ hL=>?_)
              refine sx 110 (t_add (o_t 109 rfl) (o_i (k := .i64) (by decide)) h130 rfl rfl) hL fun a s e_ hL=>sx 13 (t_assign (o_t 110 rfl) rfl rfl) hL fun a s e_ hL=>en' ?_
              exact hKL117 k116 a s (Nat.lt_succ_self _) ⟨r128, (j114 + 1), hL.keep (.cons (t := 1) rfl nE (.cons (t := 2) rfl nE (.cons (t := 3) rfl nE (.cons (t := 7) rfl (fun _ _ h_ => h_) (.cons (t := 8) rfl nE (.cons (t := 9) rfl nE (.cons (t := 10) rfl nE (.cons (t := 11) rfl nE (.cons (t := 12) rfl nE (.cons (t := 13) rfl nE .nil)))))))))), h⟩
            · replace h := h.2 hb_
              refine wp_exit ?_
              exact J111 m113 a s (hL.keep (.cons (t := 1) rfl nE (.cons (t := 2) rfl nE (.cons (t := 3) rfl nE (.cons (t := 7) rfl (fun _ _ h_ => h_) (.cons (t := 8) rfl nE (.cons (t := 9) rfl nE (.cons (t := 10) rfl nE (.cons (t := 11) rfl nE .nil))))))))) h
        · replace h := h.2 hb_
          refine wp_exit ?_
          exact J85 m87 a s (hL.keep (.cons (t := 1) rfl nE (.cons (t := 2) rfl nE (.cons (t := 3) rfl nE (.cons (t := 7) rfl (fun _ _ h_ => h_) (.cons (t := 9) rfl nE (.cons (t := 10) rfl nE .nil))))))) h
      · replace h := h.2 hb_
        refine wp_exit ?_
        exact J40 l73 a s (hL.keep (.cons (t := 1) rfl nE (.cons (t := 2) rfl nE (.cons (t := 3) rfl nE (.cons (t := 7) rfl (fun _ _ h_ => h_) (.cons (t := 8) rfl nE .nil)))))) h
end Go.Proofs.YtdidjelkkanenaaDoor.V
namespace Go.Proofs.YtdidjelkkanenaaDoor.V
open Go
set_option linter.unusedVariables false
def Lv (d : List SNode) (s : List SItem) (l : List (List SItem)) : Prop := ∃ h, lv d h s = some l
theorem Lv.uniq {d : List SNode} {s : List SItem} {l m : List (List SItem)} (h : Lv d s l) (k : Lv d s m) : l = m := by
  obtain ⟨a, ha⟩ := h
  obtain ⟨b, hb⟩ := k
  have h1 := lv_mono (Nat.le_max_left a b) ha
  have h2 := lv_mono (Nat.le_max_right a b) hb
  rw [h1] at h2; exact Option.some.inj h2
theorem Lv.ready {d : List SNode} {s : List SItem} (h : rdy d s = true) : Lv d s [s] := ⟨1, by simp [lv, h]⟩
theorem lv_list {d : List SNode} : ∀ (ss : List (List SItem)) (f : List SItem → List (List SItem)), (∀ t ∈ ss, Lv d t (f t)) → ∃ h, ss.mapM (lv d h) = some (ss.map f)
  | [], _, _ => ⟨0, rfl⟩
  | s :: ss, f, hs => by
    obtain ⟨h1, e1⟩ := hs s (by simp)
    obtain ⟨h2, e2⟩ := lv_list ss f fun t ht => hs t (by simp [ht])
    refine ⟨max h1 h2, ?_⟩
    rw [List.mapM_cons, lv_mono (Nat.le_max_left h1 h2) e1, mapM_mono (fun a b hb => lv_mono (Nat.le_max_right h1 h2) hb) _ _ e2]; rfl
theorem Lv.open {d : List SNode} {s : List SItem} (hr : rdy d s = false) (f : List SItem → List (List SItem)) (h : ∀ t ∈ opn d s, Lv d t (f t)) : Lv d s ((opn d s).map f).flatten := by
  obtain ⟨k, e⟩ := lv_list _ f h
  exact ⟨k + 1, by unfold lv; rw [if_neg (by rw [hr]; simp), e]; rfl⟩
def PM (d : List SNode) : Nat → Int → List (List SItem) × Nat
  | 0, _ => ([], 0)
  | k + 1, i => match at? d i with
    | none => ([], 0)
    | some n =>
      if n.1 = 1 then ([], 1)
      else if n.1 = 3 then ([[(3, i, 0, 0)]], 0)
      else if n.1 = 4 then ((PM d k n.2.1).1.map (· ++ [(1, n.2.2.1, 0, 0)]) ++ (List.replicate (PM d k n.2.1).2 (PM d k n.2.2.1).1).flatten, (PM d k n.2.1).2 * (PM d k n.2.2.1).2)
      else if n.1 = 5 then ((PM d k n.2.1).1 ++ (PM d k n.2.2.1).1, (PM d k n.2.1).2 + (PM d k n.2.2.1).2)
      else if n.1 = 6 then ((PM d k n.2.1).1.map (· ++ [(1, i, 0, 0)]), 1)
      else if n.1 = 7 then (if 0 < n.2.2.2.2.1 then (PM d k n.2.1).1.map (· ++ [(2, i, max (n.2.2.2.1 - 1) 0, n.2.2.2.2.1 - 1)]) else [], if n.2.2.2.1 = 0 then 1 else 0)
      else ([[(1, i, 0, 0)]], 0)
theorem PM_fuel {d : List SNode} (hd : ROk d) : ∀ (k k' : Nat) (i : Int), i < (k : Int) → i < (k' : Int) → PM d k i = PM d k' i
  | 0, k', i, h, h' => by
    cases k' with
    | zero => rfl
    | succ k' =>
      have : at? d i = none := by
        unfold at?
        rw [if_neg (by omega)]
      simp [PM, this]
  | k + 1, 0, i, h, h' => by
    have : at? d i = none := by
      unfold at?
      rw [if_neg (by omega)]
    simp [PM, this]
  | k + 1, k' + 1, i, h, h' => by
    cases hn : at? d i with
    | none => simp only [PM, hn]
    | some n =>
      simp only [PM, hn]
      by_cases h1 : n.1 = 1
      · simp [h1]
      · by_cases h3 : n.1 = 3
        · simp [h3]
        · by_cases h4 : n.1 = 4
          · obtain ⟨⟨a, b⟩, c, e⟩ := hd.two _ n hn (.inl h4)
            rw [PM_fuel hd k k' n.2.1 (by omega) (by omega), PM_fuel hd k k' n.2.2.1 (by omega) (by omega)]
          · by_cases h5 : n.1 = 5
            · obtain ⟨⟨a, b⟩, c, e⟩ := hd.two _ n hn (.inr h5)
              rw [PM_fuel hd k k' n.2.1 (by omega) (by omega), PM_fuel hd k k' n.2.2.1 (by omega) (by omega)]
            · by_cases h6 : n.1 = 6
              · obtain ⟨a, b⟩ := hd.one _ n hn (.inl h6)
                rw [PM_fuel hd k k' n.2.1 (by omega) (by omega)]
                simp [h6]
              · by_cases h7 : n.1 = 7
                · obtain ⟨a, b⟩ := hd.one _ n hn (.inr (.inl h7))
                  rw [PM_fuel hd k k' n.2.1 (by omega) (by omega)]
                  simp [h7]
                · simp [h1, h3, h4, h5, h6, h7]
def pm (d : List SNode) (i : Int) : List (List SItem) := (PM d d.length i).1
def nw (d : List SNode) (i : Int) : Nat := (PM d d.length i).2
theorem PM_at {d : List SNode} (hd : ROk d) {i : Int} {n : SNode} (hn : at? d i = some n) : PM d d.length i =
    (if n.1 = 1 then ([], 1)
      else if n.1 = 3 then ([[(3, i, 0, 0)]], 0)
      else if n.1 = 4 then ((pm d n.2.1).map (· ++ [(1, n.2.2.1, 0, 0)]) ++ (List.replicate (nw d n.2.1) (pm d n.2.2.1)).flatten, nw d n.2.1 * nw d n.2.2.1)
      else if n.1 = 5 then (pm d n.2.1 ++ pm d n.2.2.1, nw d n.2.1 + nw d n.2.2.1)
      else if n.1 = 6 then ((pm d n.2.1).map (· ++ [(1, i, 0, 0)]), 1)
      else if n.1 = 7 then (if 0 < n.2.2.2.2.1 then (pm d n.2.1).map (· ++ [(2, i, max (n.2.2.2.1 - 1) 0, n.2.2.2.2.1 - 1)]) else [], if n.2.2.2.1 = 0 then 1 else 0)
      else ([[(1, i, 0, 0)]], 0)) := by
  obtain ⟨hb0, hb1⟩ := at_bound hn
  rw [PM_fuel hd d.length (d.length + 1) i hb1 (by omega)]
  simp only [PM, hn, pm, nw]
theorem nw_zero {d : List SNode} (hd : ROk d) : ∀ (k : Nat) (i : Int) (n : SNode), i < (k : Int) → at? d i = some n → (nw d i ≠ 0 ↔ nz d i = true)
  | 0, i, n, hi, hn => by have := at_bound hn; omega
  | k + 1, i, n, hi, hn => by
    have e := PM_at hd hn
    have en : nw d i = (PM d d.length i).2 := rfl
    rw [en, e, nz_at hd hn]
    by_cases h1 : n.1 = 1
    · simp [h1]
    · by_cases h3 : n.1 = 3
      · simp [h3]
      · by_cases h4 : n.1 = 4
        · obtain ⟨⟨a, b⟩, c, e⟩ := hd.two _ n hn (.inl h4)
          obtain ⟨m1, hm1⟩ := at_lt hn a b
          obtain ⟨m2, hm2⟩ := at_lt hn c e
          have i1 := nw_zero hd k _ m1 (by omega) hm1
          have i2 := nw_zero hd k _ m2 (by omega) hm2
          rw [if_neg h1, if_neg h3, if_pos h4, if_neg h1, if_pos h4, Bool.and_eq_true, ← i1, ← i2]
          simp only
          rw [Nat.mul_ne_zero_iff]
        · by_cases h5 : n.1 = 5
          · obtain ⟨⟨a, b⟩, c, e⟩ := hd.two _ n hn (.inr h5)
            obtain ⟨m1, hm1⟩ := at_lt hn a b
            obtain ⟨m2, hm2⟩ := at_lt hn c e
            have i1 := nw_zero hd k _ m1 (by omega) hm1
            have i2 := nw_zero hd k _ m2 (by omega) hm2
            rw [if_neg h1, if_neg h3, if_neg h4, if_pos h5, if_neg h1, if_neg h4, if_pos h5, Bool.or_eq_true, ← i1, ← i2]
            simp only
            omega
          · by_cases h6 : n.1 = 6
            · simp [h6]
            · by_cases h7 : n.1 = 7
              · by_cases h0 : n.2.2.2.1 = 0 <;> simp [h7, h0]
              · simp [h1, h3, h4, h5, h6, h7]
def pmI (d : List SNode) (x : SItem) : List (List SItem) :=
  if x.1 = 1 then pm d x.2.1
  else if x.1 = 2 then (match at? d x.2.1 with | some n => if 0 < x.2.2.2 then (pm d n.2.1).map (· ++ [(2, x.2.1, max (x.2.2.1 - 1) 0, x.2.2.2 - 1)]) else [] | none => [])
  else if x.1 = 5 then [] else [[x]]
def nwI (d : List SNode) (x : SItem) : Nat :=
  if x.1 = 1 then nw d x.2.1 else if x.1 = 2 then (if x.2.2.1 = 0 then 1 else 0) else if x.1 = 5 then (if x.2.2.1 = 0 then 1 else 0) else 0
abbrev Told (d : List SNode) (P : List (List SItem)) (m : Nat) (rest : List SItem) (s : List SItem) : Prop :=
  ∀ lr, (m ≠ 0 → Lv d rest lr) → ∃ l, Lv d s l ∧ l.Perm (P.map (· ++ rest) ++ (List.replicate m lr).flatten)
theorem perm_flat {α : Type} {a b : List α} (h : a.Perm b) (m : Nat) : (List.replicate m a).flatten.Perm (List.replicate m b).flatten := by
  induction m with
  | zero => exact .refl _
  | succ m ih =>
    rw [List.replicate_succ, List.replicate_succ, List.flatten_cons, List.flatten_cons]
    exact h.append ih
theorem rep_split {α : Type} (m : Nat) (a b : List α) : (List.replicate m (a ++ b)).flatten.Perm ((List.replicate m a).flatten ++ (List.replicate m b).flatten) := by
  induction m with
  | zero => exact .refl _
  | succ m ih =>
    simp only [List.replicate_succ, List.flatten_cons]
    refine (ih.append_left (a ++ b)).trans ?_
    rw [List.append_assoc, List.append_assoc]
    refine List.Perm.append_left a ?_
    rw [← List.append_assoc, ← List.append_assoc]
    exact (List.perm_append_comm).append_right _
theorem rep_rep {α : Type} (m k : Nat) (a : List α) : (List.replicate m (List.replicate k a).flatten).flatten = (List.replicate (m * k) a).flatten := by
  induction m with
  | zero => simp
  | succ m ih => rw [List.replicate_succ, List.flatten_cons, ih, Nat.succ_mul, Nat.add_comm, ← List.replicate_append_replicate, List.flatten_append]
theorem rep_map {α β : Type} (f : α → β) (m : Nat) (a : List α) : ((List.replicate m a).flatten).map f = (List.replicate m (a.map f)).flatten := by
  rw [List.map_flatten, List.map_replicate]
theorem told_seq {d : List SNode} {P1 P2 : List (List SItem)} {m1 m2 : Nat} {b : SItem} {rest s : List SItem} (h1 : Told d P1 m1 (b :: rest) s) (h2 : Told d P2 m2 rest (b :: rest)) : Told d (P1.map (· ++ [b]) ++ (List.replicate m1 P2).flatten) (m1 * m2) rest s := by
  intro lr hlr
  have key : ∃ lb, (m1 ≠ 0 → Lv d (b :: rest) lb ∧ lb.Perm (P2.map (· ++ rest) ++ (List.replicate m2 lr).flatten)) := by
    by_cases h : m1 = 0
    · exact ⟨[], fun k => absurd h k⟩
    · obtain ⟨lb, k1, k2⟩ := h2 lr fun k => hlr (Nat.mul_ne_zero h k)
      exact ⟨lb, fun _ => ⟨k1, k2⟩⟩
  obtain ⟨lb, hlb⟩ := key
  obtain ⟨l, k1, k2⟩ := h1 lb fun k => (hlb k).1
  refine ⟨l, k1, k2.trans ?_⟩
  have e1 : P1.map (· ++ b :: rest) = (P1.map (· ++ [b])).map (· ++ rest) := by
    rw [List.map_map]
    apply List.map_congr_left
    intro p _
    simp
  rw [e1, List.map_append, List.append_assoc]
  refine List.Perm.append_left _ ?_
  by_cases h : m1 = 0
  · subst h; simp
  · refine (perm_flat (hlb h).2 m1).trans ?_
    refine (rep_split m1 _ _).trans ?_
    rw [rep_map, rep_rep]
theorem lv_one {d : List SNode} {s t : List SItem} (hr : rdy d s = false) (ho : opn d s = [t]) {l : List (List SItem)} (h : Lv d t l) : Lv d s l := by
  have := Lv.open hr (fun _ => l) (fun x hx => by rw [ho] at hx; rw [List.mem_singleton.1 hx]; exact h)
  rw [ho] at this
  simpa using this
theorem lv_two {d : List SNode} {s t u : List SItem} (hr : rdy d s = false) (ho : opn d s = [t, u]) {l m : List (List SItem)} (h : Lv d t l) (k : Lv d u m) : Lv d s (l ++ m) := by
  by_cases htu : t = u
  · subst htu
    rw [k.uniq h]
    have := Lv.open hr (fun _ => l) (fun x hx => by rw [ho] at hx; simp at hx; rw [hx]; exact h)
    rw [ho] at this
    simpa using this
  · have := Lv.open hr (fun x => if x = t then l else m) (fun x hx => by
      rw [ho] at hx
      simp only [List.mem_cons, List.not_mem_nil, or_false] at hx
      rcases hx with rfl | rfl
      · simp; exact h
      · simp [Ne.symm htu]; exact k)
    rw [ho] at this
    simpa [Ne.symm htu] using this
theorem lv_none {d : List SNode} {s : List SItem} (hr : rdy d s = false) (ho : opn d s = []) : Lv d s [] := by
  have := Lv.open hr (fun _ => []) (fun x hx => by rw [ho] at hx; cases hx)
  rw [ho] at this
  simpa using this
theorem told_rep {d : List SNode} (hd : ROk d) {i : Int} {n : SNode} (hn : at? d i = some n) (h7 : n.1 = 7) (hA : ∀ rest, Told d (pm d n.2.1) 0 rest ((1, n.2.1, 0, 0) :: rest)) (lo hi : Int) (rest : List SItem) :
    Told d (if 0 < hi then (pm d n.2.1).map (· ++ [(2, i, max (lo - 1) 0, hi - 1)]) else []) (if lo = 0 then 1 else 0) rest ((2, i, lo, hi) :: rest) := by
  intro lr hlr
  have hr : rdy d ((2, i, lo, hi) :: rest) = false := by simp [rdy]
  have ho : opn d ((2, i, lo, hi) :: rest) = (if lo = 0 then [rest] else []) ++ (if 0 < hi then [(1, n.2.1, 0, 0) :: (2, i, max (lo - 1) 0, hi - 1) :: rest] else []) := by
    simp only [opn, hn]
    rw [if_neg (by decide), if_pos trivial]
  obtain ⟨la, ha, hpa⟩ := hA ((2, i, max (lo - 1) 0, hi - 1) :: rest) [] (fun h => absurd rfl h)
  have e1 : (pm d n.2.1).map (· ++ (2, i, max (lo - 1) 0, hi - 1) :: rest) = ((pm d n.2.1).map (· ++ [(2, i, max (lo - 1) 0, hi - 1)])).map (· ++ rest) := by
    rw [List.map_map]
    apply List.map_congr_left
    intro p _
    simp
  rw [e1] at hpa
  simp only [List.replicate_zero, List.flatten_nil, List.append_nil] at hpa
  by_cases h0 : lo = 0
  · have hL := hlr (by simp [h0])
    by_cases h1 : 0 < hi
    · refine ⟨_, lv_two hr (by rw [ho, if_pos h0, if_pos h1]; rfl) hL ha, ?_⟩
      rw [if_pos h1, if_pos h0]
      simp only [List.replicate_one, List.flatten_cons, List.flatten_nil, List.append_nil]
      exact (List.perm_append_comm).trans (hpa.append_right _)
    · refine ⟨_, lv_one hr (by rw [ho, if_pos h0, if_neg h1]; rfl) hL, ?_⟩
      rw [if_neg h1, if_pos h0]; simp
  · by_cases h1 : 0 < hi
    · refine ⟨_, lv_one hr (by rw [ho, if_neg h0, if_pos h1]; rfl) ha, ?_⟩
      rw [if_pos h1, if_neg h0]; simpa using hpa
    · refine ⟨_, lv_none hr (by rw [ho, if_neg h0, if_neg h1]; rfl), ?_⟩
      rw [if_neg h1, if_neg h0]; simp
theorem told_node {d : List SNode} (hd : ROk d) : ∀ (k : Nat) (i : Int) (n : SNode), i < (k : Int) → at? d i = some n → ∀ rest, Told d (pm d i) (nw d i) rest ((1, i, 0, 0) :: rest)
  | 0, i, n, hi, hn, _ => by have := at_bound hn; omega
  | k + 1, i, n, hi, hn, rest => by
    have ih := told_node hd k
    have e := PM_at hd hn
    have ep : pm d i = (PM d d.length i).1 := rfl
    have en : nw d i = (PM d d.length i).2 := rfl
    rw [ep, en, e]
    have hk9 := hd.kind _ n hn
    have rd0 : (n.1 ≠ 2 ∧ n.1 ≠ 8 ∧ n.1 ≠ 9) → rdy d ((1, i, 0, 0) :: rest) = false := fun h => by
      simp only [rdy, hn]
      simp [h.1, h.2.1, h.2.2]
    have op0 : opn d ((1, i, 0, 0) :: rest) = (if n.1 = 1 then [rest] else if n.1 = 3 then [(3, i, 0, 0) :: rest] else if n.1 = 4 then [(1, n.2.1, 0, 0) :: (1, n.2.2.1, 0, 0) :: rest] else if n.1 = 5 then [(1, n.2.1, 0, 0) :: rest, (1, n.2.2.1, 0, 0) :: rest]
        else if n.1 = 6 then [rest, (1, n.2.1, 0, 0) :: (1, i, 0, 0) :: rest] else [(2, i, n.2.2.2.1, n.2.2.2.2.1) :: rest]) := by
      simp only [opn, hn]
      rw [if_neg (by decide), if_neg (by decide)]
    have z0 : ∀ a : Int, 0 ≤ a → a < i → nz d a = false → nw d a = 0 := fun a h0 h1 hz => by
      obtain ⟨m, hm⟩ := at_lt hn h0 h1
      rcases Nat.eq_zero_or_pos (nw d a) with h | h
      · exact h
      · have := (nw_zero hd k a m (by omega) hm).1 (by omega)
        rw [hz] at this; cases this
    by_cases h1 : n.1 = 1
    · rw [if_pos h1]
      intro lr hlr
      refine ⟨lr, lv_one (rd0 (by omega)) (by rw [op0, if_pos h1]) (hlr (by simp)), by simp⟩
    · rw [if_neg h1] at op0 ⊢
      by_cases h3 : n.1 = 3
      · rw [if_pos h3] at op0 ⊢
        intro lr hlr
        exact ⟨_, lv_one (rd0 (by omega)) op0 (Lv.ready (by simp [rdy])), by simp⟩
      · rw [if_neg h3] at op0 ⊢
        by_cases h4 : n.1 = 4
        · rw [if_pos h4] at op0 ⊢
          obtain ⟨⟨a, b⟩, c, e⟩ := hd.two _ n hn (.inl h4)
          obtain ⟨m1, hm1⟩ := at_lt hn a b
          obtain ⟨m2, hm2⟩ := at_lt hn c e
          have := told_seq (ih _ m1 (by omega) hm1 ((1, n.2.2.1, 0, 0) :: rest)) (ih _ m2 (by omega) hm2 rest)
          intro lr hlr
          obtain ⟨l, k1, k2⟩ := this lr hlr
          exact ⟨l, lv_one (rd0 (by omega)) op0 k1, k2⟩
        · rw [if_neg h4] at op0 ⊢
          by_cases h5 : n.1 = 5
          · rw [if_pos h5] at op0 ⊢
            obtain ⟨⟨a, b⟩, c, e⟩ := hd.two _ n hn (.inr h5)
            obtain ⟨m1, hm1⟩ := at_lt hn a b
            obtain ⟨m2, hm2⟩ := at_lt hn c e
            intro lr hlr
            simp only at hlr
            obtain ⟨l1, k1, k2⟩ := ih _ m1 (by omega) hm1 rest lr fun h => hlr (by omega)
            obtain ⟨l2, k3, k4⟩ := ih _ m2 (by omega) hm2 rest lr fun h => hlr (by omega)
            refine ⟨_, lv_two (rd0 (by omega)) op0 k1 k3, (k2.append k4).trans ?_⟩
            rw [List.map_append, ← List.replicate_append_replicate, List.flatten_append, List.append_assoc, List.append_assoc]
            refine List.Perm.append_left _ ?_
            rw [← List.append_assoc, ← List.append_assoc]
            exact (List.perm_append_comm).append_right _
          · rw [if_neg h5] at op0 ⊢
            by_cases h6 : n.1 = 6
            · rw [if_pos h6] at op0 ⊢
              obtain ⟨a, b⟩ := hd.one _ n hn (.inl h6)
              obtain ⟨m1, hm1⟩ := at_lt hn a b
              have hz := z0 _ a b (hd.nn _ n hn (.inl h6))
              intro lr hlr
              have hA := ih _ m1 (by omega) hm1 ((1, i, 0, 0) :: rest) [] (fun h => absurd hz h)
              obtain ⟨l1, k1, k2⟩ := hA
              refine ⟨_, lv_two (rd0 (by omega)) op0 (hlr (by simp)) k1, ?_⟩
              rw [hz] at k2
              have e1 : (pm d n.2.1).map (· ++ (1, i, 0, 0) :: rest) = ((pm d n.2.1).map (· ++ [(1, i, 0, 0)])).map (· ++ rest) := by
                rw [List.map_map]
                apply List.map_congr_left
                intro p _
                simp
              rw [e1] at k2
              simp only [List.replicate_zero, List.flatten_nil, List.append_nil] at k2
              simp only [List.replicate_one, List.flatten_cons, List.flatten_nil, List.append_nil]
              exact (List.perm_append_comm).trans (k2.append_right _)
            · rw [if_neg h6] at op0 ⊢
              by_cases h7 : n.1 = 7
              · rw [if_pos h7]
                obtain ⟨a, b⟩ := hd.one _ n hn (.inr (.inl h7))
                obtain ⟨m1, hm1⟩ := at_lt hn a b
                have hz := z0 _ a b (hd.nn _ n hn (.inr h7))
                have := told_rep hd hn h7 (fun rest => by have := ih _ m1 (by omega) hm1 rest; rw [hz] at this; exact this) n.2.2.2.1 n.2.2.2.2.1 rest
                intro lr hlr
                obtain ⟨l, k1, k2⟩ := this lr hlr
                exact ⟨l, lv_one (rd0 (by omega)) op0 k1, k2⟩
              · rw [if_neg h7]
                intro lr hlr
                refine ⟨_, Lv.ready ?_, by simp⟩
                simp only [rdy, hn]
                have : n.1 = 2 ∨ n.1 = 8 ∨ n.1 = 9 := by omega
                rcases this with h | h | h <;> simp [h]
theorem told_item {d : List SNode} (hd : ROk d) {x : SItem} (hx : formI d x = true) (rest : List SItem) : Told d (pmI d x) (nwI d x) rest (x :: rest) := by
  by_cases h5 : x.1 = 5
  · have e1 : pmI d x = [] := by simp [pmI, h5]
    have e2 : nwI d x = if x.2.2.1 = 0 then 1 else 0 := by simp [nwI, h5]
    rw [e1, e2]
    intro lr hlr
    have hr : rdy d (x :: rest) = false := by simp [rdy, h5]
    by_cases h0 : x.2.2.1 = 0
    · rw [if_pos h0] at hlr ⊢
      refine ⟨lr, lv_one hr (by simp [opn, h5, h0]) (hlr (by simp)), by simp⟩
    · rw [if_neg h0]
      exact ⟨_, lv_none hr (by simp [opn, h5, h0]), by simp⟩
  · obtain ⟨n, hn, hk⟩ := form_node hx h5
    rcases hk with h1 | ⟨h2, h7⟩ | ⟨h3, _⟩ | ⟨h4, _⟩
    · have e : x = (1, x.2.1, 0, 0) := by
        unfold formI at hx
        rw [if_neg h5, hn] at hx
        simp [h1] at hx
        obtain ⟨a, b, c, e⟩ := x
        simp only at h1 hx
        rw [h1, hx.1, hx.2]
      have e1 : pmI d x = pm d x.2.1 := by simp [pmI, h1]
      have e2 : nwI d x = nw d x.2.1 := by simp [nwI, h1]
      have := at_bound hn
      rw [e1, e2]
      have ht := told_node hd d.length _ n (by omega) hn rest
      rw [← e] at ht
      exact ht
    · have e1 : pmI d x = if 0 < x.2.2.2 then (pm d n.2.1).map (· ++ [(2, x.2.1, max (x.2.2.1 - 1) 0, x.2.2.2 - 1)]) else [] := by simp [pmI, h2, hn]
      have e2 : nwI d x = if x.2.2.1 = 0 then 1 else 0 := by simp [nwI, h2]
      rw [e1, e2]
      obtain ⟨a, b⟩ := hd.one _ n hn (.inr (.inl h7))
      obtain ⟨m1, hm1⟩ := at_lt hn a b
      have hb := at_bound hn
      have hz : nw d n.2.1 = 0 := by
        rcases Nat.eq_zero_or_pos (nw d n.2.1) with h | h
        · exact h
        · have := (nw_zero hd d.length _ m1 (by omega) hm1).1 (by omega)
          rw [hd.nn _ n hn (.inr h7)] at this; cases this
      have := told_rep hd hn h7 (fun rest => by have := told_node hd d.length _ m1 (by omega) hm1 rest; rw [hz] at this; exact this) x.2.2.1 x.2.2.2 rest
      obtain ⟨xk, xi, xl, xh⟩ := x
      simp only at h2
      subst h2
      exact this
    · have e1 : pmI d x = [[x]] := by simp [pmI, h3]
      have e2 : nwI d x = 0 := by simp [nwI, h3]
      rw [e1, e2]
      intro lr _
      exact ⟨_, Lv.ready (by simp [rdy, h3]), by simp⟩
    · have e1 : pmI d x = [[x]] := by simp [pmI, h4]
      have e2 : nwI d x = 0 := by simp [nwI, h4]
      rw [e1, e2]
      intro lr _
      exact ⟨_, Lv.ready (by simp [rdy, h4]), by simp⟩
def hds (d : List SNode) : List SItem → List (List SItem)
  | [] => [[]]
  | x :: rest => (pmI d x).map (· ++ rest) ++ (List.replicate (nwI d x) (hds d rest)).flatten
theorem hds_lv {d : List SNode} (hd : ROk d) : ∀ (s : List SItem), formS d s = true → ∃ l, Lv d s l ∧ l.Perm (hds d s)
  | [], _ => ⟨[[]], Lv.ready rfl, .refl _⟩
  | x :: rest, hf => by
    obtain ⟨h1, h2⟩ := form_cons hf
    obtain ⟨lr, k1, k2⟩ := hds_lv hd rest h2
    obtain ⟨l, k3, k4⟩ := told_item hd h1 rest lr fun _ => k1
    exact ⟨l, k3, k4.trans (List.Perm.append_left _ (perm_flat k2 _))⟩
end Go.Proofs.YtdidjelkkanenaaDoor.V
namespace Go.Proofs.YtdidjelkkanenaaDoor.V
open Go
set_option linter.unusedVariables false
theorem exl {ρ : Type} {γ : Sort _} {P : γ → ρ → Prop} (c : γ) (h : ∃ r, P c r) : ∃ r, ∃ c, P c r := let ⟨r, h⟩ := h; ⟨r, c, h⟩
theorem andl {ρ : Type} {A : Prop} {B : ρ → Prop} (a : A) (h : ∃ r, B r) : ∃ r, A ∧ B r := let ⟨r, h⟩ := h; ⟨r, a, h⟩
theorem pick {ρ : Type} [Inhabited ρ] {b : Bool} {X Y : ρ → Prop} (h1 : b = true → ∃ r, X r) (h2 : b = false → ∃ r, Y r) : ∃ r, (b = true → X r) ∧ (b = false → Y r) := by
  cases b
  · obtain ⟨r, h⟩ := h2 rfl
    exact ⟨r, (fun h => by cases h), fun _ => h⟩
  · obtain ⟨r, h⟩ := h1 rfl
    exact ⟨r, fun _ => h, (fun h => by cases h)⟩
def sumT (l : List SNode) : Nat := (l.map fun n => n.2.2.2.2.2.2.length).sum
theorem sumT_le {l : List SNode} (h : ∀ n ∈ l, n.2.2.2.2.2.2.length ≤ 140737488351232) : sumT l ≤ l.length * 140737488351232 := by
  induction l with
  | nil => simp [sumT]
  | cons x l ih =>
    have h1 := h x (by simp)
    have h2 := ih fun n hn => h n (by simp [hn])
    simp only [sumT, List.map_cons, List.sum_cons, List.length_cons] at h2 ⊢
    omega
theorem few_ex {d : List SNode} (ht : ∀ n ∈ d, n.2.2.2.2.2.2.length ≤ 140737488351232) : ∃ r, ref04_Few d r ∧ (r = true → d.length ≤ 100) := by
  refine ⟨decide ((d.length : Int) ≤ 100) && decide (((sumT (d.take (min d.length 200)) : Nat) : Int) ≤ 2000), ?_, fun h => ?_⟩
  · refine upto (P := fun k (s : Int) v => ref04_Few.l1 d _ k s v) (min d.length 200) (fun i s => s = ((sumT (d.take i) : Nat) : Int)) ?_ ?_ _ (by simp [sumT])
    · rintro i s hi rfl
      have hd : i < d.length := by omega
      have h1 := sumT_le (l := d.take i) fun n hn => ht n (List.mem_of_mem_take hn)
      have h2 := ht _ (List.getElem_mem hd)
      have h3 : (d.take i).length = i := by simp; omega
      rw [h3] at h1
      have h4 : i * 140737488351232 ≤ 200 * 140737488351232 := Nat.mul_le_mul_right _ (by omega)
      have e : sumT (d.take (i + 1)) = sumT (d.take i) + d[i].2.2.2.2.2.2.length := by
        unfold sumT
        rw [List.take_succ_eq_append_getElem hd, List.map_append, List.sum_append]
        simp only [List.map_cons, List.map_nil, List.sum_cons, List.sum_nil, Nat.add_zero]
      refine .inr ⟨_, rfl, fun k h => ⟨true, by simp; omega, fun _ => ⟨d[i], by rw [at_nat]; simp [hd], i64_of (by omega) (by omega), i64_of (by omega) (by omega), ?_⟩, (fun h => by cases h)⟩⟩
      rw [e] at h
      simpa using h
    · rintro s rfl k
      exact ⟨false, by simp; omega, (fun h => by cases h), fun _ => ⟨_, rfl, rfl⟩⟩
  · simp only [Bool.and_eq_true, decide_eq_true_eq] at h
    omega
theorem byte_in {s : Str} {i : Int} (h0 : 0 ≤ i) (h1 : i < (s.length : Int)) : ∃ c, byte? s i = some c := by
  obtain ⟨x, hx, _⟩ := at_in h0 h1
  exact ⟨_, by unfold byte?; rw [hx]; rfl⟩
theorem in_ex (s : Str) {i : Int} (f t : Int) (h0 : 0 ≤ i) : ∃ r, ref03_in s i f t r := by
  by_cases h1 : i < (s.length : Int)
  · obtain ⟨c, hc⟩ := byte_in h0 h1
    exact ⟨_, c, fun _ => hc, _, rfl, c, fun _ => hc, rfl⟩
  · exact ⟨_, 0, fun h => absurd (dt h) h1, _, rfl, 0, fun h => absurd h (by simp [h1]), rfl⟩
theorem utf8_ex {s : Str} (hl : s.length ≤ 140737488351232) : ∃ r, ref03_Utf8 s r := by
  have key : ∀ (m : Nat) (i : Int), 0 ≤ i → (s.length : Int) + 4 - i ≤ m → i ≤ (s.length : Int) + 4 → ∃ q : Bool × Nat, ref03_Utf8.l1 s q.1 (ref03_Utf8.j1 q.1) q.2 i := by
    intro m
    induction m with
    | zero =>
      intro i h0 h1 h2
      exact ⟨(true, 1), fun h => absurd (dt h) (by omega), fun _ => rfl⟩
    | succ m ih =>
      intro i h0 h1 h2
      suffices h : ∃ q : Bool × Nat, ref03_Utf8.l1 s q.1 (ref03_Utf8.j1 q.1) (q.2 + 1) i by
        obtain ⟨q, hq⟩ := h
        exact ⟨(q.1, q.2 + 1), hq⟩
      unfold ref03_Utf8.l1
      refine pick (fun hd => ?_) (fun hd => ⟨(true, 0), rfl⟩)
      have hlt := dt hd
      obtain ⟨c, hc⟩ := byte_in h0 hlt
      obtain ⟨r17, h17⟩ := in_ex s (i := i + 1) 128 191 (by omega)
      obtain ⟨r21, h21⟩ := in_ex s (i := i + 2) 128 191 (by omega)
      obtain ⟨r25, h25⟩ := in_ex s (i := i + 3) 128 191 (by omega)
      obtain ⟨r35, h35⟩ := in_ex s (i := i + 1) 160 191 (by omega)
      obtain ⟨r44, h44⟩ := in_ex s (i := i + 1) 128 159 (by omega)
      obtain ⟨r49, h49⟩ := in_ex s (i := i + 1) 144 191 (by omega)
      obtain ⟨r58, h58⟩ := in_ex s (i := i + 1) 128 143 (by omega)
      have i1 : InR .i64 (i + 1) := i64_of (by omega) (by omega)
      have i2 : InR .i64 (i + 2) := i64_of (by omega) (by omega)
      have i3 : InR .i64 (i + 3) := i64_of (by omega) (by omega)
      have i4 : InR .i64 (i + 4) := i64_of (by omega) (by omega)
      have g1 := ih (i + 1) (by omega) (by omega) (by omega)
      have g2 := ih (i + 2) (by omega) (by omega) (by omega)
      have g3 := ih (i + 3) (by omega) (by omega) (by omega)
      have g4 := ih (i + 4) (by omega) (by omega) (by omega)
      refine exl c (andl hc (andl i1 (exl r17 (andl h17 (andl i2 (exl r21 (andl h21 (andl i3 (exl r25 (andl h25 (pick (fun _ => andl i1 g1) (fun _ => ?_))))))))))))
      refine exl _ (andl rfl (pick (fun _ => andl i2 g2) (fun _ => ?_)))
      refine andl (fun _ => i1) (exl r35 (andl (fun _ => h35) (pick (fun _ => andl i3 g3) (fun _ => ?_))))
      refine exl _ (andl rfl (pick (fun _ => andl i3 g3) (fun _ => ?_)))
      refine andl (fun _ => i1) (exl r44 (andl (fun _ => h44) (pick (fun _ => andl i3 g3) (fun _ => ?_))))
      refine andl (fun _ => i1) (exl r49 (andl (fun _ => h49) (pick (fun _ => andl i4 g4) (fun _ => ?_))))
      refine exl _ (andl rfl (pick (fun _ => andl i4 g4) (fun _ => ?_)))
      refine andl (fun _ => i1) (exl r58 (andl (fun _ => h58) (pick (fun _ => andl i4 g4) (fun _ => ?_))))
      exact ⟨(false, 0), rfl⟩
  obtain ⟨q, hq⟩ := key (s.length + 4) 0 (by omega) (by omega) (by omega)
  exact ⟨q.1, q.2, hq⟩
theorem text_ex {s : Str} (hl : s.length ≤ 140737488351232) : ∃ r, ref04_text s r ∧ (r = true → s ≠ []) := by
  obtain ⟨u, hu⟩ := utf8_ex hl
  have tne : ∀ u : Bool, (decide (0 < (s.length : Int)) && u) = true → s ≠ [] := fun u h e => by subst e; simp at h
  have key : ∀ (m : Nat) (i : Int), 0 ≤ i → (s.length : Int) - i ≤ m → i ≤ (s.length : Int) → ∃ q : Bool × Nat, ref04_text.l1 s q.1 (ref04_text.j1 s q.1) q.2 i ∧ (q.1 = true → s ≠ []) := by
    intro m
    induction m with
    | zero =>
      intro i h0 h1 h2
      exact ⟨(decide (0 < (s.length : Int)) && u, 1), ⟨fun h => absurd (dt h) (by omega), fun _ => ⟨u, fun _ => hu, rfl⟩⟩, tne u⟩
    | succ m ih =>
      intro i h0 h1 h2
      by_cases hlt : i < (s.length : Int)
      · obtain ⟨c, hc⟩ := byte_in h0 hlt
        by_cases h34 : c = 34
        · exact ⟨(false, 1), ⟨fun _ => ⟨c, hc, fun _ => rfl, fun h => by simp [h34] at h⟩, fun h => absurd hlt (df h)⟩, (fun h => by cases h)⟩
        · obtain ⟨q, hq, hq2⟩ := ih (i + 1) (by omega) (by omega) (by omega)
          exact ⟨(q.1, q.2 + 1), ⟨fun _ => ⟨c, hc, fun h => by simp at h; exact absurd h h34, fun _ => ⟨i64_of (by omega) (by omega), hq⟩⟩, fun h => absurd hlt (df h)⟩, hq2⟩
      · exact ⟨(decide (0 < (s.length : Int)) && u, 1), ⟨fun h => absurd (dt h) hlt, fun _ => ⟨u, fun _ => hu, rfl⟩⟩, tne u⟩
  obtain ⟨q, hq, hq2⟩ := key s.length 0 (by omega) (by omega) (by omega)
  exact ⟨q.1, ⟨q.2, hq⟩, hq2⟩
end Go.Proofs.YtdidjelkkanenaaDoor.V
namespace Go.Proofs.YtdidjelkkanenaaDoor.V
open Go
set_option linter.unusedVariables false
inductive Tr (l : List SNode) : Int → Int → Prop
  | leaf {i : Int} {e : SNode} (he : at? l i = some e) (hk : e.1 = 1 ∨ e.1 = 2 ∨ e.1 = 3) (hx : e.1 = 3 → e.2.2.2.2.2.2 ≠ []) (h0 : e.2.1 = 0 ∧ e.2.2.1 = 0) : Tr l i i
  | one {f i : Int} {e : SNode} (he : at? l i = some e) (hk : e.1 = 6 ∨ e.1 = 7 ∨ e.1 = 8 ∨ e.1 = 9) (ha : e.2.1 = i - 1) (hb : e.2.2.1 = 0) (hr : e.1 = 7 → 0 ≤ e.2.2.2.1 ∧ e.2.2.2.1 ≤ e.2.2.2.2.1 ∧ e.2.2.2.2.1 ≤ 255) (h : Tr l f (i - 1)) : Tr l f i
  | two {f p i : Int} {e : SNode} (he : at? l i = some e) (hk : e.1 = 4 ∨ e.1 = 5) (ha : e.2.1 = p - 1) (hb : e.2.2.1 = i - 1) (h1 : Tr l p (i - 1)) (h2 : Tr l f (p - 1)) : Tr l f i
theorem Tr.le {l : List SNode} {f i : Int} (h : Tr l f i) : 0 ≤ f ∧ f ≤ i := by
  induction h with
  | leaf he _ _ _ => exact ⟨(at_bound he).1, Int.le_refl _⟩
  | one _ _ _ _ _ _ ih => omega
  | two _ _ _ _ _ _ i1 i2 => omega
theorem Tr.lt {l : List SNode} {f i : Int} (h : Tr l f i) : i < (l.length : Int) := by
  cases h with
  | leaf he _ _ _ => exact (at_bound he).2
  | one he _ _ _ _ _ => exact (at_bound he).2
  | two he _ _ _ _ _ => exact (at_bound he).2
theorem Tr.sub {l : List SNode} {f i : Int} (h : Tr l f i) : ∀ k, f ≤ k → k ≤ i → ∃ g, Tr l g k ∧ f ≤ g := by
  induction h with
  | leaf he hk hx h0 =>
    rename_i i e
    intro k h1 h2
    obtain rfl : k = i := by omega
    exact ⟨k, .leaf he hk hx h0, Int.le_refl _⟩
  | one he hk ha hb hr h ih =>
    rename_i f i e
    intro k h1 h2
    by_cases hki : k = i
    · subst hki; exact ⟨f, .one he hk ha hb hr h, Int.le_refl _⟩
    · exact ih k h1 (by omega)
  | two he hk ha hb h1 h2 i1 i2 =>
    rename_i f p i e
    intro k k1 k2
    have l1 := h1.le
    have l2 := h2.le
    by_cases hki : k = i
    · subst hki; exact ⟨f, .two he hk ha hb h1 h2, Int.le_refl _⟩
    · by_cases hkp : p ≤ k
      · obtain ⟨g, g1, g2⟩ := i1 k hkp (by omega)
        exact ⟨g, g1, by omega⟩
      · exact i2 k k1 (by omega)
def FirstOk (l : List SNode) (i r : Int) : Prop := r = -1 ∨ Tr l r i
theorem first_ex {l : List SNode} (hl : l.length ≤ 1000) (ht : ∀ n ∈ l, n.2.2.2.2.2.2.length ≤ 140737488351232) : ∀ (m : Nat) (i : Int), i < (m : Int) → -1 ≤ i → i < (l.length : Int) → ∃ r, ref04_First.n (m + 1) l i r ∧ FirstOk l i r := by
  intro m
  induction m with
  | zero =>
    intro i h1 h2 h3
    exact ⟨-1, ⟨fun _ => rfl, fun h => absurd (by omega) (df h)⟩, .inl rfl⟩
  | succ m ih =>
    intro i h1 h2 h3
    by_cases h0 : i < 0
    · exact ⟨-1, ⟨fun _ => rfl, fun h => absurd h0 (df h)⟩, .inl rfl⟩
    · obtain ⟨e, he, hm⟩ := at_in (xs := l) (i := i) (by omega) h3
      have i1 : InR .i64 (i - 1) := i64_of (by omega) (by omega)
      obtain ⟨p, hp, hpo⟩ := ih (i - 1) (by omega) (by omega) (by omega)
      have one : ∀ w : SNode, (e = w → w.2.1 = i - 1 ∧ (w.1 = 6 ∨ w.1 = 7 ∨ w.1 = 8 ∨ w.1 = 9) ∧ (w.1 = 7 → 0 ≤ w.2.2.2.1 ∧ w.2.2.2.1 ≤ w.2.2.2.2.1 ∧ w.2.2.2.2.1 ≤ 255) ∧ w.2.2.1 = 0) → ∃ r, ref04_First.j1 (ref04_First.n (m + 1)) l i r e w ∧ FirstOk l i r := by
        intro w hw
        by_cases hew : e = w
        · refine ⟨p, ⟨i1, p, hp, fun h => by simp [hew] at h, fun _ => rfl⟩, ?_⟩
          rcases hpo with rfl | p0
          · exact .inl rfl
          · obtain ⟨w1, w2, w3, w4⟩ := hw hew
            exact .inr (.one he (by rw [hew]; exact w2) (by rw [hew]; exact w1) (by rw [hew]; exact w4) (by rw [hew]; exact w3) p0)
        · exact ⟨-1, ⟨i1, p, hp, fun _ => rfl, fun h => by simp at h; exact absurd h hew⟩, .inl rfl⟩
      have two : (e.1 = 4 ∨ e.1 = 5) → ∃ r, ref04_First.j2 (ref04_First.n (m + 1)) l i r e true ∧ FirstOk l i r := by
        intro hk
        by_cases hp0 : p < 0
        · exact ⟨-1, ⟨fun _ => ⟨i1, i1, p, hp, fun _ => rfl, fun h => absurd hp0 (df h)⟩, (fun h => by cases h)⟩, .inl rfl⟩
        · have htr : Tr l p (i - 1) := by
            rcases hpo with rfl | h
            · omega
            · exact h
          have p1 := htr.le
          obtain ⟨q, hq, hqo⟩ := ih (p - 1) (by omega) (by omega) (by omega)
          have j1 : InR .i64 (p - 1) := i64_of (by omega) (by omega)
          by_cases hew : e = (e.1, p - 1, i - 1, 0, 0, (0#256), ([] : Str))
          · refine ⟨q, ⟨fun _ => ⟨i1, i1, p, hp, fun h => absurd (dt h) hp0, fun _ => ⟨j1, j1, q, hq, false, ?_, (fun h => by cases h), fun _ => rfl⟩⟩, (fun h => by cases h)⟩, ?_⟩
            · have : (e != (e.1, p - 1, i - 1, 0, 0, (0#256), ([] : Str))) = false := by rw [← hew]; simp
              exact this.symm
            · rcases hqo with rfl | q0
              · exact .inl rfl
              · exact .inr (.two he hk (by rw [hew]) (by rw [hew]) htr q0)
          · refine ⟨-1, ⟨fun _ => ⟨i1, i1, p, hp, fun h => absurd (dt h) hp0, fun _ => ⟨j1, j1, q, hq, true, ?_, fun _ => rfl, (fun h => by cases h)⟩⟩, (fun h => by cases h)⟩, .inl rfl⟩
            exact (bne_iff_ne.2 hew).symm
      have three : (e.1 = 6 ∨ e.1 = 7 ∨ e.1 = 8 ∨ e.1 = 9) → ∃ r, ref04_First.j3 (ref04_First.n (m + 1)) l i r e true ∧ FirstOk l i r := by
        intro hk
        by_cases h7 : e.1 = 7
        · by_cases hb : ((decide (e.2.2.2.1 < 0)) || (decide (e.2.2.2.2.1 < e.2.2.2.1)) || (decide (255 < e.2.2.2.2.1))) = true
          · exact ⟨-1, ⟨fun _ => ⟨i1, fun _ => ⟨_, rfl, fun _ => rfl, fun h => by rw [hb] at h; cases h⟩, fun h => by simp [h7] at h⟩, (fun h => by cases h)⟩, .inl rfl⟩
          · obtain ⟨r, hr1, hr2⟩ := one (e.1, i - 1, 0, e.2.2.2.1, e.2.2.2.2.1, (0#256), ([] : Str)) fun _ => ⟨rfl, hk, fun _ => by
              simp only [Bool.or_eq_true, decide_eq_true_eq, not_or] at hb
              exact ⟨by show (0 : Int) ≤ e.2.2.2.1; omega, by show e.2.2.2.1 ≤ e.2.2.2.2.1; omega, by show e.2.2.2.2.1 ≤ 255; omega⟩, rfl⟩
            exact ⟨r, ⟨fun _ => ⟨i1, fun _ => ⟨_, rfl, fun h => absurd h hb, fun _ => hr1⟩, fun h => by simp [h7] at h⟩, (fun h => by cases h)⟩, hr2⟩
        · obtain ⟨r, hr1, hr2⟩ := one (e.1, i - 1, 0, 0, 0, (0#256), ([] : Str)) fun _ => ⟨rfl, hk, fun h => absurd h h7, rfl⟩
          exact ⟨r, ⟨fun _ => ⟨i1, fun h => by simp at h; exact absurd h h7, fun _ => hr1⟩, (fun h => by cases h)⟩, hr2⟩
      have ne : ∀ {a b : Int}, a ≠ b → (a == b) = true → False := fun h k => h (eq_of_beq k)
      have last : ∀ b : Bool, (b = true ↔ e.1 = 9) → e.1 ≠ 6 → e.1 ≠ 7 → e.1 ≠ 8 → ∃ r, ref04_First.j3 (ref04_First.n (m + 1)) l i r e b ∧ FirstOk l i r := by
        intro b hb n6 n7 n8
        cases b
        · have n9 : e.1 ≠ 9 := fun h => by have := hb.2 h; cases this
          by_cases h4 : e.1 = 4
          · obtain ⟨r, hr1, hr2⟩ := two (.inl h4)
            exact ⟨r, ⟨(fun h => by cases h), fun _ => ⟨fun h => by rw [h]; exact hr1, fun h => by simp [h4] at h⟩⟩, hr2⟩
          · by_cases h5 : e.1 = 5
            · obtain ⟨r, hr1, hr2⟩ := two (.inr h5)
              have e5 : (e.1 == 5) = true := by simp [h5]
              exact ⟨r, ⟨(fun h => by cases h), fun _ => ⟨fun h => by simp at h; exact absurd h h4, fun _ => by rw [e5]; exact hr1⟩⟩, hr2⟩
            · have e5 : (e.1 == 5) = false := by simp [h5]
              exact ⟨-1, ⟨(fun h => by cases h), fun _ => ⟨fun h => by simp at h; exact absurd h h4, fun _ => by rw [e5]; exact ⟨(fun h => by cases h), fun _ => rfl⟩⟩⟩, .inl rfl⟩
        · exact three (.inr (.inr (.inr (hb.1 rfl))))
      suffices h : ∃ r, (∃ e6 : SNode, at? l i = some e6 ∧ _) ∧ FirstOk l i r by
        obtain ⟨r, hr, ho⟩ := h
        exact ⟨r, ⟨fun h => absurd (dt h) h0, fun _ => hr⟩, ho⟩
      by_cases k1 : e.1 = 1
      · by_cases hw : e = (e.1, 0, 0, 0, 0, (0#256), ([] : Str))
        · exact ⟨i, ⟨e, he, fun _ => ⟨fun h => by rw [← hw] at h; simp at h, fun _ => rfl⟩, fun h => by simp [k1] at h⟩, .inr (.leaf he (.inl k1) (fun h => by omega) ⟨by rw [hw], by rw [hw]⟩)⟩
        · exact ⟨-1, ⟨e, he, fun _ => ⟨fun _ => rfl, fun h => by simp at h; exact absurd h hw⟩, fun h => by simp [k1] at h⟩, .inl rfl⟩
      · by_cases k2 : e.1 = 2
        · by_cases hw : e = (e.1, 0, 0, 0, 0, e.2.2.2.2.2.1, ([] : Str))
          · exact ⟨i, ⟨e, he, fun h => (ne k1 h).elim, fun _ => ⟨fun _ => ⟨false, by rw [← hw]; simp, (fun h => by cases h), fun _ => rfl⟩, fun h => by simp [k2] at h⟩⟩, .inr (.leaf he (.inr (.inl k2)) (fun h => by omega) ⟨by rw [hw], by rw [hw]⟩)⟩
          · exact ⟨-1, ⟨e, he, fun h => (ne k1 h).elim, fun _ => ⟨fun _ => ⟨true, (bne_iff_ne.2 hw).symm, fun _ => rfl, (fun h => by cases h)⟩, fun h => by simp [k2] at h⟩⟩, .inl rfl⟩
        · by_cases k3 : e.1 = 3
          · obtain ⟨t, htx, htn⟩ := text_ex (ht e hm)
            cases t
            · exact ⟨-1, ⟨e, he, fun h => (ne k1 h).elim, fun _ => ⟨fun h => (ne k2 h).elim, fun _ => ⟨fun _ => ⟨false, htx, fun _ => rfl, (fun h => by cases h)⟩, fun h => by simp [k3] at h⟩⟩⟩, .inl rfl⟩
            · by_cases hw : e = (e.1, 0, 0, 0, 0, (0#256), e.2.2.2.2.2.2)
              · exact ⟨i, ⟨e, he, fun h => (ne k1 h).elim, fun _ => ⟨fun h => (ne k2 h).elim, fun _ => ⟨fun _ => ⟨true, htx, (fun h => by cases h), fun _ => ⟨false, by rw [← hw]; simp, (fun h => by cases h), fun _ => rfl⟩⟩, fun h => by simp [k3] at h⟩⟩⟩, .inr (.leaf he (.inr (.inr k3)) (fun _ => htn rfl) ⟨by rw [hw], by rw [hw]⟩)⟩
              · exact ⟨-1, ⟨e, he, fun h => (ne k1 h).elim, fun _ => ⟨fun h => (ne k2 h).elim, fun _ => ⟨fun _ => ⟨true, htx, (fun h => by cases h), fun _ => ⟨true, (bne_iff_ne.2 hw).symm, fun _ => rfl, (fun h => by cases h)⟩⟩, fun h => by simp [k3] at h⟩⟩⟩, .inl rfl⟩
          · by_cases k6 : e.1 = 6
            · obtain ⟨r, hr1, hr2⟩ := three (.inl k6)
              exact ⟨r, ⟨e, he, fun h => (ne k1 h).elim, fun _ => ⟨fun h => (ne k2 h).elim, fun _ => ⟨fun h => (ne k3 h).elim, fun _ => ⟨fun h => by rw [h]; exact hr1, fun h => by simp [k6] at h⟩⟩⟩⟩, hr2⟩
            · by_cases k7 : e.1 = 7
              · obtain ⟨r, hr1, hr2⟩ := three (.inr (.inl k7))
                exact ⟨r, ⟨e, he, fun h => (ne k1 h).elim, fun _ => ⟨fun h => (ne k2 h).elim, fun _ => ⟨fun h => (ne k3 h).elim, fun _ => ⟨fun h => (ne k6 h).elim, fun _ => ⟨fun h => by rw [h]; exact hr1, fun h => by simp [k7] at h⟩⟩⟩⟩⟩, hr2⟩
              · by_cases k8 : e.1 = 8
                · obtain ⟨r, hr1, hr2⟩ := three (.inr (.inr (.inl k8)))
                  exact ⟨r, ⟨e, he, fun h => (ne k1 h).elim, fun _ => ⟨fun h => (ne k2 h).elim, fun _ => ⟨fun h => (ne k3 h).elim, fun _ => ⟨fun h => (ne k6 h).elim, fun _ => ⟨fun h => (ne k7 h).elim, fun _ => ⟨fun h => by rw [h]; exact hr1, fun h => by simp [k8] at h⟩⟩⟩⟩⟩⟩, hr2⟩
                · obtain ⟨r, hr1, hr2⟩ := last (e.1 == 9) beq_iff_eq k6 k7 k8
                  exact ⟨r, ⟨e, he, fun h => (ne k1 h).elim, fun _ => ⟨fun h => (ne k2 h).elim, fun _ => ⟨fun h => (ne k3 h).elim, fun _ => ⟨fun h => (ne k6 h).elim, fun _ => ⟨fun h => (ne k7 h).elim, fun _ => ⟨fun h => (ne k8 h).elim, fun _ => hr1⟩⟩⟩⟩⟩⟩, hr2⟩
theorem form_ex {d : List SNode} (hl : d.length ≤ 1000) (ht : ∀ n ∈ d, n.2.2.2.2.2.2.length ≤ 140737488351232) : ∃ r, ref04_Form d r ∧ (r = true → Tr d 0 ((d.length : Int) - 1)) := by
  obtain ⟨r, hr, ho⟩ := first_ex hl ht d.length ((d.length : Int) - 1) (by omega) (by omega) (by omega)
  refine ⟨_, ⟨fun _ => i64_of (by omega) (by omega), r, fun _ => ⟨_, hr⟩, rfl⟩, fun h => ?_⟩
  simp only [Bool.and_eq_true, decide_eq_true_eq, beq_iff_eq] at h
  rcases ho with rfl | h2
  · omega
  · rw [h.2] at h2; exact h2
def powW (a : Nat) (t : Nat) : Nat := if t = 0 then 1 else if a = 0 then 0 else if a = 1 then 1 else 2
theorem powW_le (a t : Nat) : powW a t ≤ 2 := by
  unfold powW
  split
  · omega
  · split
    · omega
    · split <;> omega
theorem powW_step {a : Nat} (ha : a ≤ 2) (t : Nat) : min 2 (powW a t * a) = powW a (t + 1) := by
  have : a = 0 ∨ a = 1 ∨ a = 2 := by omega
  unfold powW
  by_cases ht : t = 0
  · subst ht
    rcases this with rfl | rfl | rfl <;> simp
  · rcases this with rfl | rfl | rfl <;> simp [ht]
def sumW (a lo : Nat) : Nat → Nat
  | 0 => 0
  | m + 1 => min 2 (sumW a lo m + powW a (lo + m))
theorem sumW_le (a lo m : Nat) : sumW a lo m ≤ 2 := by
  cases m with
  | zero => simp [sumW]
  | succ m => simp only [sumW]; omega
theorem sumW_zero (a lo : Nat) : ∀ m, sumW a lo m ≠ 0 ↔ ∃ t, t < m ∧ powW a (lo + t) ≠ 0
  | 0 => by simp [sumW]
  | m + 1 => by
    have ih := sumW_zero a lo m
    simp only [sumW]
    constructor
    · intro h
      by_cases h1 : sumW a lo m ≠ 0
      · obtain ⟨t, h2, h3⟩ := ih.1 h1
        exact ⟨t, by omega, h3⟩
      · exact ⟨m, by omega, by omega⟩
    · rintro ⟨t, h1, h2⟩
      by_cases htm : t = m
      · subst htm; omega
      · have := ih.2 ⟨t, by omega, h2⟩
        omega
theorem powW_zero {a t : Nat} : powW a t ≠ 0 ↔ t = 0 ∨ a ≠ 0 := by
  unfold powW
  by_cases h1 : t = 0
  · simp [h1]
  · by_cases h2 : a = 0
    · simp [h1, h2]
    · rw [if_neg h1, if_neg h2]
      split <;> simp [h1, h2]
structure NOk (d : List SNode) : Prop where
  two : ∀ (i : Int) n, at? d i = some n → (n.1 = 4 ∨ n.1 = 5) → (0 ≤ n.2.1 ∧ n.2.1 < i) ∧ (0 ≤ n.2.2.1 ∧ n.2.2.1 < i)
  one : ∀ (i : Int) n, at? d i = some n → (n.1 = 6 ∨ n.1 = 7 ∨ n.1 = 8 ∨ n.1 = 9) → 0 ≤ n.2.1 ∧ n.2.1 < i
  rep : ∀ (i : Int) n, at? d i = some n → n.1 = 7 → 0 ≤ n.2.2.2.1 ∧ n.2.2.2.1 ≤ n.2.2.2.2.1 ∧ n.2.2.2.2.1 ≤ 255
  kind : ∀ (i : Int) n, at? d i = some n → 1 ≤ n.1 ∧ n.1 ≤ 9
  ntx : ∀ (i : Int) n, at? d i = some n → n.1 = 3 → n.2.2.2.2.2.2 ≠ []
theorem Tr.node {l : List SNode} {f i : Int} (h : Tr l f i) {n : SNode} (hn : at? l i = some n) :
    ((n.1 = 4 ∨ n.1 = 5) → (0 ≤ n.2.1 ∧ n.2.1 < i) ∧ (0 ≤ n.2.2.1 ∧ n.2.2.1 < i)) ∧ ((n.1 = 6 ∨ n.1 = 7 ∨ n.1 = 8 ∨ n.1 = 9) → 0 ≤ n.2.1 ∧ n.2.1 < i) ∧ (n.1 = 7 → 0 ≤ n.2.2.2.1 ∧ n.2.2.2.1 ≤ n.2.2.2.2.1 ∧ n.2.2.2.2.1 ≤ 255) ∧ (1 ≤ n.1 ∧ n.1 ≤ 9) ∧ (n.1 = 3 → n.2.2.2.2.2.2 ≠ []) := by
  cases h with
  | leaf he hk hx h0 =>
    rw [hn] at he; cases he
    exact ⟨fun h => by omega, fun h => by omega, fun h => by omega, by omega, hx⟩
  | one he hk ha hb hr h =>
    rw [hn] at he; cases he
    have := h.le
    exact ⟨fun h => by omega, fun h => by omega, hr, by omega, fun h => by omega⟩
  | two he hk ha hb h1 h2 =>
    rw [hn] at he; cases he
    have := h1.le
    have := h2.le
    exact ⟨fun h => by omega, fun h => by omega, fun h => by omega, by omega, fun h => by omega⟩
theorem Tr.at {d : List SNode} (h : Tr d 0 ((d.length : Int) - 1)) {i : Int} {n : SNode} (hn : at? d i = some n) : ∃ g, Tr d g i := by
  have hb := at_bound hn
  obtain ⟨g, hg, _⟩ := h.sub i hb.1 (by omega)
  exact ⟨g, hg⟩
theorem Tr.nok {d : List SNode} (h : Tr d 0 ((d.length : Int) - 1)) : NOk d :=
  ⟨fun i n hn => let ⟨g, hg⟩ := h.at hn; (hg.node hn).1, fun i n hn => let ⟨g, hg⟩ := h.at hn; (hg.node hn).2.1, fun i n hn => let ⟨g, hg⟩ := h.at hn; (hg.node hn).2.2.1, fun i n hn => let ⟨g, hg⟩ := h.at hn; (hg.node hn).2.2.2.1, fun i n hn => let ⟨g, hg⟩ := h.at hn; (hg.node hn).2.2.2.2⟩
def WV (d : List SNode) : Nat → Int → Nat
  | 0, _ => 0
  | k + 1, i => match at? d i with
    | none => 0
    | some n =>
      if n.1 = 1 then 1
      else if n.1 = 4 then min 2 (WV d k n.2.1 * WV d k n.2.2.1)
      else if n.1 = 5 then min 2 (WV d k n.2.1 + WV d k n.2.2.1)
      else if n.1 = 6 then (if 0 < WV d k n.2.1 then 2 else 1)
      else if n.1 = 7 then sumW (WV d k n.2.1) n.2.2.2.1.toNat (n.2.2.2.2.1 + 1 - n.2.2.2.1).toNat
      else 0
theorem WV_le (d : List SNode) (k : Nat) (i : Int) : WV d k i ≤ 2 := by
  cases k with
  | zero => simp [WV]
  | succ k =>
    unfold WV
    cases at? d i with
    | none => simp
    | some n =>
      simp only
      split
      · omega
      · split
        · omega
        · split
          · omega
          · split
            · split <;> omega
            · split
              · exact sumW_le _ _ _
              · omega
theorem WV_fuel {d : List SNode} (hd : NOk d) : ∀ (k k' : Nat) (i : Int), i < (k : Int) → i < (k' : Int) → WV d k i = WV d k' i
  | 0, k', i, h, h' => by
    have : at? d i = none := by
      unfold at?
      rw [if_neg (by omega)]
    cases k' <;> simp [WV, this]
  | k + 1, 0, i, h, h' => by
    have : at? d i = none := by
      unfold at?
      rw [if_neg (by omega)]
    simp [WV, this]
  | k + 1, k' + 1, i, h, h' => by
    cases hn : at? d i with
    | none => simp only [WV, hn]
    | some n =>
      simp only [WV, hn]
      by_cases h4 : n.1 = 4
      · obtain ⟨⟨a, b⟩, c, e⟩ := hd.two _ n hn (.inl h4)
        rw [WV_fuel hd k k' n.2.1 (by omega) (by omega), WV_fuel hd k k' n.2.2.1 (by omega) (by omega)]
      · by_cases h5 : n.1 = 5
        · obtain ⟨⟨a, b⟩, c, e⟩ := hd.two _ n hn (.inr h5)
          rw [WV_fuel hd k k' n.2.1 (by omega) (by omega), WV_fuel hd k k' n.2.2.1 (by omega) (by omega)]
        · by_cases h6 : n.1 = 6 ∨ n.1 = 7
          · obtain ⟨a, b⟩ := hd.one _ n hn (by omega)
            rw [WV_fuel hd k k' n.2.1 (by omega) (by omega)]
            simp [h4, h5]
          · simp only [not_or] at h6
            simp [h4, h5, h6.1, h6.2]
def wv (d : List SNode) (i : Int) : Nat := WV d d.length i
theorem wv_at {d : List SNode} (hd : NOk d) {i : Int} {n : SNode} (hn : at? d i = some n) : wv d i =
    (if n.1 = 1 then 1
      else if n.1 = 4 then min 2 (wv d n.2.1 * wv d n.2.2.1)
      else if n.1 = 5 then min 2 (wv d n.2.1 + wv d n.2.2.1)
      else if n.1 = 6 then (if 0 < wv d n.2.1 then 2 else 1)
      else if n.1 = 7 then sumW (wv d n.2.1) n.2.2.2.1.toNat (n.2.2.2.2.1 + 1 - n.2.2.2.1).toNat
      else 0) := by
  obtain ⟨hb0, hb1⟩ := at_bound hn
  unfold wv
  rw [WV_fuel hd d.length (d.length + 1) i hb1 (by omega)]
  simp only [WV, hn]
theorem nz_atN {d : List SNode} (hd : NOk d) {i : Int} {n : SNode} (h : at? d i = some n) : nz d i =
    (if n.1 = 1 then true else if n.1 = 4 then nz d n.2.1 && nz d n.2.2.1 else if n.1 = 5 then nz d n.2.1 || nz d n.2.2.1 else if n.1 = 6 then true else if n.1 = 7 then decide (n.2.2.2.1 = 0) || nz d n.2.1 else false) := by
  obtain ⟨k, rfl, hk⟩ := at_nn h
  have e := nzL_at hk
  have e2 : nz d (k : Int) = nzN ((nzL d).take k) n := by unfold nz; rw [at_nat, e]; rfl
  rw [e2]
  unfold nzN
  by_cases h1 : n.1 = 1
  · simp [h1]
  · by_cases h4 : n.1 = 4
    · obtain ⟨⟨a, b⟩, c, e⟩ := hd.two _ n h (.inl h4)
      rw [if_neg h1, if_pos h4, if_neg h1, if_pos h4, at_take a b, at_take c e]; rfl
    · by_cases h5 : n.1 = 5
      · obtain ⟨⟨a, b⟩, c, e⟩ := hd.two _ n h (.inr h5)
        rw [if_neg h1, if_neg h4, if_pos h5, if_neg h1, if_neg h4, if_pos h5, at_take a b, at_take c e]; rfl
      · by_cases h6 : n.1 = 6
        · simp [h6]
        · by_cases h7 : n.1 = 7
          · obtain ⟨a, b⟩ := hd.one _ n h (.inr (.inl h7))
            rw [if_neg h1, if_neg h4, if_neg h5, if_neg h6, if_pos h7, if_neg h1, if_neg h4, if_neg h5, if_neg h6, if_pos h7, at_take a b]; rfl
          · simp [h1, h4, h5, h6, h7]
theorem wv_nz {d : List SNode} (hd : NOk d) : ∀ (k : Nat) (i : Int) (n : SNode), i < (k : Int) → at? d i = some n → (wv d i ≠ 0 ↔ nz d i = true)
  | 0, i, n, hi, hn => by have := at_bound hn; omega
  | k + 1, i, n, hi, hn => by
    have ih := wv_nz hd k
    rw [wv_at hd hn, nz_atN hd hn]
    by_cases h1 : n.1 = 1
    · simp [h1]
    · by_cases h4 : n.1 = 4
      · obtain ⟨⟨a, b⟩, c, e⟩ := hd.two _ n hn (.inl h4)
        obtain ⟨m1, hm1⟩ := at_lt hn a b
        obtain ⟨m2, hm2⟩ := at_lt hn c e
        rw [if_neg h1, if_pos h4, if_neg h1, if_pos h4, Bool.and_eq_true, ← ih _ m1 (by omega) hm1, ← ih _ m2 (by omega) hm2, ← Nat.mul_ne_zero_iff]
        omega
      · by_cases h5 : n.1 = 5
        · obtain ⟨⟨a, b⟩, c, e⟩ := hd.two _ n hn (.inr h5)
          obtain ⟨m1, hm1⟩ := at_lt hn a b
          obtain ⟨m2, hm2⟩ := at_lt hn c e
          rw [if_neg h1, if_neg h4, if_pos h5, if_neg h1, if_neg h4, if_pos h5, Bool.or_eq_true, ← ih _ m1 (by omega) hm1, ← ih _ m2 (by omega) hm2]
          omega
        · by_cases h6 : n.1 = 6
          · simp [h6]; split <;> omega
          · by_cases h7 : n.1 = 7
            · obtain ⟨a, b⟩ := hd.one _ n hn (.inr (.inl h7))
              obtain ⟨r0, r1, r2⟩ := hd.rep _ n hn h7
              obtain ⟨m1, hm1⟩ := at_lt hn a b
              rw [if_neg h1, if_neg h4, if_neg h5, if_neg h6, if_pos h7, if_neg h1, if_neg h4, if_neg h5, if_neg h6, if_pos h7, sumW_zero, Bool.or_eq_true, ← ih _ m1 (by omega) hm1, decide_eq_true_eq]
              constructor
              · rintro ⟨t, h1, h2⟩
                rcases powW_zero.1 h2 with h3 | h3
                · exact .inl (by omega)
                · exact .inr h3
              · rintro (h3 | h3)
                · exact ⟨0, by omega, powW_zero.2 (.inl (by omega))⟩
                · exact ⟨0, by omega, powW_zero.2 (.inr h3)⟩
            · simp [h1, h4, h5, h6, h7]
theorem min_mul (x y : Nat) : min 2 (min 2 x * min 2 y) = min 2 (x * y) := by
  rcases Nat.lt_or_ge x 2 with h | h
  · have : x = 0 ∨ x = 1 := by omega
    rcases this with rfl | rfl <;> simp
  · rcases Nat.lt_or_ge y 2 with h' | h'
    · have : y = 0 ∨ y = 1 := by omega
      rcases this with rfl | rfl <;> simp
    · have : 2 * 2 ≤ x * y := Nat.mul_le_mul h h'
      rw [Nat.min_eq_left h, Nat.min_eq_left h']
      omega
theorem ROk.nok {d : List SNode} (h : ROk d) : NOk d := ⟨h.two, h.one, h.rep, h.kind, h.ntx⟩
theorem ways_l3 {l : List Int} {a : Nat} (ha : a ≤ 2) {e : SNode} (h1 : at? l e.2.1 = some (a : Int)) {t : Nat} (ht : t ≤ 255) {Z : Int → Prop} (hZ : Z (powW a t : Int)) :
    ∀ (m v : Nat), v + m = t → ∃ k, ref08_Ways.l3 l e t Z k (powW a v : Int) v
  | 0, v, hv => by
    obtain rfl : v = t := by omega
    exact ⟨1, fun h => absurd (dt h) (by omega), fun _ => hZ⟩
  | m + 1, v, hv => by
    obtain ⟨k, hk⟩ := ways_l3 ha h1 ht hZ m (v + 1) (by omega)
    have e1 : (min 2 ((powW a v : Int) * (a : Int))) = (powW a (v + 1) : Int) := by
      have := Int.natCast_mul (powW a v) a
      rw [← powW_step ha v]; omega
    have hle := powW_le a v
    have hle2 : powW a v * a ≤ 4 := by
      have := Nat.mul_le_mul hle ha
      omega
    exact ⟨k + 1, fun _ => ⟨a, h1, i64_of (by omega) (by rw [← Int.natCast_mul]; omega), i64_of (by omega) (by omega), by rw [e1]; exact hk⟩, fun h => absurd (by omega) (df h)⟩
theorem ways_l2 {l : List Int} {a : Nat} (ha : a ≤ 2) {e : SNode} (h1 : at? l e.2.1 = some (a : Int)) {lo hi : Nat} (hlo : e.2.2.2.1 = lo) (hhi : e.2.2.2.2.1 = hi) (hh : hi ≤ 255) {Z : Int → Prop} (hZ : Z (sumW a lo (hi + 1 - lo) : Int)) :
    ∀ (m j : Nat), j + m = hi + 1 - lo → ∃ k, ref08_Ways.l2 l e Z k (sumW a lo j : Int) ((lo + j : Nat) : Int)
  | 0, j, hj => by
    obtain rfl : j = hi + 1 - lo := by omega
    exact ⟨1, fun h => absurd (dt h) (by omega), fun _ => hZ⟩
  | m + 1, j, hj => by
    obtain ⟨k, hk⟩ := ways_l2 ha h1 hlo hhi hh hZ m (j + 1) (by omega)
    have hs := sumW_le a lo j
    have hp := powW_le a (lo + j)
    have e1 : (min 2 ((sumW a lo j : Int) + (powW a (lo + j) : Int))) = (sumW a lo (j + 1) : Int) := by simp only [sumW]; omega
    obtain ⟨k3, hk3⟩ := ways_l3 ha h1 (t := lo + j) (by omega) (Z := ref08_Ways.j3 (ref08_Ways.l2 l e Z k) (sumW a lo j : Int) ((lo + j : Nat) : Int)) ⟨i64_of (by omega) (by omega), i64_of (by omega) (by omega), by
      rw [e1]; have : (((lo + j : Nat) : Int) + 1) = ((lo + (j + 1) : Nat) : Int) := by omega
      rw [this]; exact hk⟩ (lo + j) 0 (by omega)
    have e0 : (powW a 0 : Int) = 1 := rfl
    rw [e0] at hk3
    exact ⟨k + 1, fun _ => ⟨k3, hk3⟩, fun h => absurd (by omega) (df h)⟩
theorem ref08_Ways_in {d : List SNode} (hl : d.length ≤ 1000) (hd : NOk d) {i : Nat} (h1 : i < d.length) : ref08_Ways d (i : Int) (wv d (i : Int) : Int) := by
  have hat : ∀ (k : Nat) (a : Int), 0 ≤ a → a < (k : Int) → at? ((List.range k).map fun (j : Nat) => (wv d (j : Int) : Int)) a = some (wv d a : Int) := fun k a h0 h1 => by
    obtain ⟨j, rfl⟩ : ∃ j : Nat, a = (j : Int) := ⟨a.toNat, by omega⟩
    rw [at_nat, List.getElem?_map, List.getElem?_range (by omega)]; rfl
  have key : ∀ (m : Nat) (k : Nat), k + m = i + 1 → ∃ f, ref08_Ways.l1 d (i : Int) (ref08_Ways.j1 (i : Int) (wv d (i : Int) : Int)) f ((List.range k).map fun (j : Nat) => (wv d (j : Int) : Int)) (k : Int) := by
    intro m
    induction m with
    | zero =>
      intro k hk
      exact ⟨1, fun h => absurd (dt h) (by omega), fun _ => ⟨_, hat k _ (by omega) (by omega), rfl⟩⟩
    | succ m ih =>
      intro k hk
      obtain ⟨f, hf⟩ := ih (k + 1) (by omega)
      obtain ⟨e, he, _⟩ := at_in (xs := d) (i := (k : Int)) (by omega) (by omega)
      have hw := wv_at hd he
      have next : ∀ w : Nat, min 2 w = wv d (k : Int) → ref08_Ways.j2 (ref08_Ways.l1 d (i : Int) (ref08_Ways.j1 (i : Int) (wv d (i : Int) : Int)) f) ((List.range k).map fun (j : Nat) => (wv d (j : Int) : Int)) (k : Int) (w : Int) := fun w hw => by
        refine ⟨by simp; omega, i64_of (by omega) (by omega), ?_⟩
        have e1 : (min 2 (w : Int)) = (wv d (k : Int) : Int) := by rw [← hw]; omega
        rw [e1]
        have e2 : ((List.range k).map fun (j : Nat) => (wv d (j : Int) : Int)) ++ [(wv d (k : Int) : Int)] = (List.range (k + 1)).map fun (j : Nat) => (wv d (j : Int) : Int) := by
          rw [List.range_succ, List.map_append]; rfl
        rw [e2]; exact hf
      have ne : ∀ {a b : Int}, a ≠ b → (a == b) = true → False := fun h k => h (eq_of_beq k)
      refine ⟨f + 1, fun _ => ⟨e, he, fun h => ?_, fun k1 => ⟨fun h => ?_, fun k4 => ⟨fun h => ?_, fun k5 => ⟨fun h => ?_, fun k6 => ⟨fun h => ?_, fun k7 => ?_⟩⟩⟩⟩⟩, fun h => absurd (by omega) (df h)⟩
      · have h1 : e.1 = 1 := eq_of_beq h
        exact next 1 (by rw [hw, if_pos h1]; rfl)
      · have h1 : e.1 ≠ 1 := by simpa using k1
        have h4 : e.1 = 4 := eq_of_beq h
        rw [if_neg h1, if_pos h4] at hw
        obtain ⟨⟨a0, a1⟩, b0, b1⟩ := hd.two _ e he (.inl h4)
        have l1 := WV_le d d.length e.2.1
        have l2 := WV_le d d.length e.2.2.1
        have hm : wv d e.2.1 * wv d e.2.2.1 ≤ 4 := by have := Nat.mul_le_mul l1 l2; exact this
        refine ⟨_, hat k _ a0 a1, _, hat k _ b0 b1, i64_of (by rw [← Int.natCast_mul]; omega) (by rw [← Int.natCast_mul]; omega), ?_⟩
        rw [← Int.natCast_mul]
        exact next _ hw.symm
      · have h1 : e.1 ≠ 1 := by simpa using k1
        have h4 : e.1 ≠ 4 := by simpa using k4
        have h5 : e.1 = 5 := eq_of_beq h
        rw [if_neg h1, if_neg h4, if_pos h5] at hw
        obtain ⟨⟨a0, a1⟩, b0, b1⟩ := hd.two _ e he (.inr h5)
        have l1 := WV_le d d.length e.2.1
        have l2 := WV_le d d.length e.2.2.1
        unfold wv at *
        refine ⟨_, hat k _ a0 a1, _, hat k _ b0 b1, i64_of (by omega) (by omega), ?_⟩
        exact next (WV d d.length e.2.1 + WV d d.length e.2.2.1) hw.symm
      · have h1 : e.1 ≠ 1 := by simpa using k1
        have h4 : e.1 ≠ 4 := by simpa using k4
        have h5 : e.1 ≠ 5 := by simpa using k5
        have h6 : e.1 = 6 := eq_of_beq h
        rw [if_neg h1, if_neg h4, if_neg h5, if_pos h6] at hw
        obtain ⟨a0, a1⟩ := hd.one _ e he (.inl h6)
        refine ⟨_, hat k _ a0 a1, fun h => ?_, fun h => ?_⟩
        · exact next 2 (by rw [hw, if_pos (by have := dt h; omega)]; rfl)
        · exact next 1 (by rw [hw, if_neg (by have := df h; omega)]; rfl)
      · have h1 : e.1 ≠ 1 := by simpa using k1
        have h4 : e.1 ≠ 4 := by simpa using k4
        have h5 : e.1 ≠ 5 := by simpa using k5
        have h6 : e.1 ≠ 6 := by simpa using k6
        have h7 : e.1 = 7 := eq_of_beq h
        rw [if_neg h1, if_neg h4, if_neg h5, if_neg h6, if_pos h7] at hw
        obtain ⟨a0, a1⟩ := hd.one _ e he (.inr (.inl h7))
        obtain ⟨r0, r1, r2⟩ := hd.rep _ e he h7
        have hs := sumW_le (wv d e.2.1) e.2.2.2.1.toNat (e.2.2.2.2.1 + 1 - e.2.2.2.1).toNat
        have e1 : (e.2.2.2.2.1 + 1 - e.2.2.2.1).toNat = e.2.2.2.2.1.toNat + 1 - e.2.2.2.1.toNat := by omega
        have := ways_l2 (l := (List.range k).map fun (j : Nat) => (wv d (j : Int) : Int)) (WV_le d d.length e.2.1) (e := e) (hat k _ a0 a1) (lo := e.2.2.2.1.toNat) (hi := e.2.2.2.2.1.toNat) (by omega) (by omega) (by omega)
          (Z := ref08_Ways.j2 (ref08_Ways.l1 d (i : Int) (ref08_Ways.j1 (i : Int) (wv d (i : Int) : Int)) f) ((List.range k).map fun (j : Nat) => (wv d (j : Int) : Int)) (k : Int))
          (next _ (by rw [hw, e1]; rw [e1] at hs; exact Nat.min_eq_right hs)) (e.2.2.2.2.1.toNat + 1 - e.2.2.2.1.toNat) 0 (by omega)
        have e2 : ((e.2.2.2.1.toNat + 0 : Nat) : Int) = e.2.2.2.1 := by omega
        rw [e2] at this
        exact this
      · have h1 : e.1 ≠ 1 := by simpa using k1
        have h4 : e.1 ≠ 4 := by simpa using k4
        have h5 : e.1 ≠ 5 := by simpa using k5
        have h6 : e.1 ≠ 6 := by simpa using k6
        have h7 : e.1 ≠ 7 := by simpa using k7
        rw [if_neg h1, if_neg h4, if_neg h5, if_neg h6, if_neg h7] at hw
        exact next 0 (by rw [hw]; rfl)
  obtain ⟨f, hf⟩ := key (i + 1) 0 (by omega)
  exact ⟨f, by simpa using hf⟩
theorem first8_ok {d : List SNode} (hl : d.length ≤ 1000) (hd : NOk d) : ∃ r, ref08_First d r ∧ (r.2 = false → ∀ (i : Int) n, at? d i = some n → (n.1 = 6 ∨ n.1 = 7) → nz d n.2.1 = false) := by
  have key : ∀ (m i : Nat), i + m = d.length → (∀ (k : Int) n, k < (i : Int) → at? d k = some n → (n.1 = 6 ∨ n.1 = 7) → nz d n.2.1 = false) → ∃ q : (Int × Bool) × Nat, ref08_First.l1 d q.1 (ref08_First.j1 q.1) q.2 (i : Int) ∧ (q.1.2 = false → ∀ (i : Int) n, at? d i = some n → (n.1 = 6 ∨ n.1 = 7) → nz d n.2.1 = false) := by
    intro m
    induction m with
    | zero =>
      intro i hi hk
      exact ⟨((0, false), 1), ⟨fun h => absurd (dt h) (by omega), fun _ => rfl⟩, fun _ k n hn => hk k n (by have := at_bound hn; omega) hn⟩
    | succ m ih =>
      intro i hi hk
      obtain ⟨e, he, _⟩ := at_in (xs := d) (i := (i : Int)) (by omega) (by omega)
      have hw : ∃ w, ((((e.1 == 6) || (e.1 == 7))) = true → ref08_Ways d e.2.1 w ∧ (w = 0 → nz d e.2.1 = false)) := by
        by_cases hkk : e.1 = 6 ∨ e.1 = 7
        · obtain ⟨a0, a1⟩ := hd.one _ e he (by omega)
          obtain ⟨mm, hm⟩ := at_lt he a0 a1
          obtain ⟨j, hj⟩ : ∃ j : Nat, e.2.1 = (j : Int) := ⟨e.2.1.toNat, by omega⟩
          refine ⟨(wv d e.2.1 : Int), fun _ => ⟨?_, fun h0 => ?_⟩⟩
          · rw [hj]; exact ref08_Ways_in hl hd (by omega)
          · have := wv_nz hd (d.length) e.2.1 mm (by omega) hm
            cases hz : nz d e.2.1
            · rfl
            · have := this.2 hz
              omega
        · exact ⟨0, fun h => absurd (by simpa using h) hkk⟩
      obtain ⟨w, hw⟩ := hw
      cases hb : (((e.1 == 6) || (e.1 == 7)) && (w != 0))
      · obtain ⟨q, hq, hq2⟩ := ih (i + 1) (by omega) (fun k n hki hn hkk => by
          by_cases hk2 : k = (i : Int)
          · subst hk2
            rw [he] at hn; cases hn
            have h6 : ((e.1 == 6) || (e.1 == 7)) = true := by simpa using hkk
            rw [h6] at hb
            simp at hb
            exact (hw h6).2 hb
          · exact hk k n (by omega) hn hkk)
        exact ⟨(q.1, q.2 + 1), ⟨fun _ => ⟨e, he, e, fun _ => he, w, fun h => (hw h).1, (fun h => by rw [hb] at h; cases h), fun _ => ⟨i64_of (by omega) (by omega), by simpa using hq⟩⟩, fun h => absurd (by omega) (df h)⟩, hq2⟩
      · exact ⟨(((i : Int), true), 1), ⟨fun _ => ⟨e, he, e, fun _ => he, w, fun h => (hw h).1, fun _ => rfl, fun h => by rw [hb] at h; cases h⟩, fun h => absurd (by omega) (df h)⟩, (fun h => by cases h)⟩
  obtain ⟨q, hq, hq2⟩ := key d.length 0 (by omega) (fun k n hk hn => by have := at_bound hn; omega)
  exact ⟨q.1, ⟨q.2, hq⟩, hq2⟩
structure Rt (d : List SNode) : Prop extends ROk d where
  tr : Tr d 0 ((d.length : Int) - 1)
theorem Rt.ne {d : List SNode} (h : Rt d) : d ≠ [] := fun e => by
  have := h.tr.le
  subst e
  simp at this
theorem right_ok {d : List SNode} (hl : d.length ≤ 1000) (ht : ∀ n ∈ d, n.2.2.2.2.2.2.length ≤ 140737488351232) : ∃ r, ref08_Right d r ∧ (r = true → Rt d) := by
  obtain ⟨f, hf, ho⟩ := form_ex hl ht
  cases f
  · exact ⟨false, ⟨false, hf, fun _ => rfl, (fun h => by cases h)⟩, (fun h => by cases h)⟩
  · have hd := (ho rfl).nok
    obtain ⟨w, hw, hw2⟩ := first8_ok hl hd
    refine ⟨!w.2, ⟨true, hf, (fun h => by cases h), fun _ => ⟨w, hw, rfl⟩⟩, fun h => ?_⟩
    have := hw2 (by simpa using h)
    exact ⟨⟨hd.two, hd.one, hd.rep, hd.kind, hd.ntx, this⟩, ho rfl⟩
end Go.Proofs.YtdidjelkkanenaaDoor.V
namespace Go.Proofs.YtdidjelkkanenaaDoor.V
open Go
set_option linter.unusedVariables false
def CV (d : List SNode) : Nat → Int → List (List SItem)
  | 0, _ => []
  | k + 1, i => match at? d i with
    | none => []
    | some n =>
      if n.1 = 1 then []
      else if n.1 = 3 then [[(3, i, 0, 0)]]
      else if n.1 = 4 then (CV d k n.2.1).map (· ++ [(1, n.2.2.1, 0, 0)]) ++ CV d k n.2.2.1
      else if n.1 = 5 then CV d k n.2.1 ++ CV d k n.2.2.1
      else if n.1 = 6 then (CV d k n.2.1).map (· ++ [(1, i, 0, 0)])
      else if n.1 = 7 then (CV d k n.2.1).map (· ++ [(2, i, max (n.2.2.2.1 - 1) 0, n.2.2.2.2.1 - 1)])
      else [[(1, i, 0, 0)]]
theorem CV_len (d : List SNode) : ∀ (k : Nat) (i : Int), (CV d k i).length ≤ 2 ^ k
  | 0, i => by simp [CV]
  | k + 1, i => by
    have h2 : 2 ^ (k + 1) = 2 ^ k + 2 ^ k := by rw [Nat.pow_succ]; omega
    have hp : 0 < 2 ^ k := Nat.pow_pos (by omega)
    unfold CV
    cases at? d i with
    | none => simp
    | some n =>
      have a := CV_len d k n.2.1
      have b := CV_len d k n.2.2.1
      simp only
      by_cases h1 : n.1 = 1
      · simp [h1]
      · by_cases h3 : n.1 = 3
        · simp [h3]; omega
        · by_cases h4 : n.1 = 4
          · simp [h4]; omega
          · by_cases h5 : n.1 = 5
            · simp [h5]; omega
            · by_cases h6 : n.1 = 6
              · simp [h6]; omega
              · by_cases h7 : n.1 = 7
                · simp [h7]; omega
                · simp [h1, h3, h4, h5, h6, h7]; omega
theorem PM_CV (d : List SNode) : ∀ (k : Nat) (i : Int), ∀ p ∈ (PM d k i).1, p ∈ CV d k i
  | 0, i, p, hp => by simp [PM] at hp
  | k + 1, i, p, hp => by
    unfold PM at hp
    unfold CV
    cases hn : at? d i with
    | none => rw [hn] at hp; simp at hp
    | some n =>
      rw [hn] at hp
      have a := PM_CV d k n.2.1
      have b := PM_CV d k n.2.2.1
      simp only at hp ⊢
      by_cases h1 : n.1 = 1
      · simp [h1] at hp
      · rw [if_neg h1] at hp ⊢
        by_cases h3 : n.1 = 3
        · rw [if_pos h3] at hp ⊢; exact hp
        · rw [if_neg h3] at hp ⊢
          by_cases h4 : n.1 = 4
          · rw [if_pos h4] at hp ⊢
            rcases List.mem_append.1 hp with hp | hp
            · obtain ⟨q, hq, rfl⟩ := List.mem_map.1 hp
              exact List.mem_append.2 (.inl (List.mem_map.2 ⟨q, a q hq, rfl⟩))
            · obtain ⟨l, hl, hp⟩ := List.mem_flatten.1 hp
              rw [List.mem_replicate.1 hl |>.2] at hp
              exact List.mem_append.2 (.inr (b p hp))
          · rw [if_neg h4] at hp ⊢
            by_cases h5 : n.1 = 5
            · rw [if_pos h5] at hp ⊢
              rcases List.mem_append.1 hp with hp | hp
              · exact List.mem_append.2 (.inl (a p hp))
              · exact List.mem_append.2 (.inr (b p hp))
            · rw [if_neg h5] at hp ⊢
              by_cases h6 : n.1 = 6
              · rw [if_pos h6] at hp ⊢
                obtain ⟨q, hq, rfl⟩ := List.mem_map.1 hp
                exact List.mem_map.2 ⟨q, a q hq, rfl⟩
              · rw [if_neg h6] at hp ⊢
                by_cases h7 : n.1 = 7
                · rw [if_pos h7] at hp ⊢
                  simp only at hp
                  split at hp
                  · obtain ⟨q, hq, rfl⟩ := List.mem_map.1 hp
                    exact List.mem_map.2 ⟨q, a q hq, rfl⟩
                  · cases hp
                · rw [if_neg h7] at hp ⊢; exact hp
def CI (d : List SNode) (x : SItem) : List (List SItem) :=
  if x.1 = 1 then CV d d.length x.2.1
  else if x.1 = 2 then (match at? d x.2.1 with | some n => (CV d d.length n.2.1).map (· ++ [(2, x.2.1, max (x.2.2.1 - 1) 0, x.2.2.2 - 1)]) | none => [])
  else [[x]]
theorem CI_len (d : List SNode) (x : SItem) : (CI d x).length ≤ 2 ^ d.length := by
  have hp : 0 < 2 ^ d.length := Nat.pow_pos (by omega)
  unfold CI
  split
  · exact CV_len _ _ _
  · split
    · split
      · rw [List.length_map]; exact CV_len _ _ _
      · simp
    · simp; omega
def CS (d : List SNode) : List SItem → List (List SItem)
  | [] => [[]]
  | x :: rest => (CI d x).map (· ++ rest) ++ CS d rest
theorem CS_len (d : List SNode) : ∀ s : List SItem, (CS d s).length ≤ s.length * 2 ^ d.length + 1
  | [] => by simp [CS]
  | x :: rest => by
    have h1 := CS_len d rest
    have h2 := CI_len d x
    simp only [CS, List.length_append, List.length_map, List.length_cons, Nat.succ_mul]
    omega
theorem pmI_CI (d : List SNode) (x : SItem) : ∀ p ∈ pmI d x, p ∈ CI d x := by
  intro p hp
  unfold pmI at hp
  unfold CI
  by_cases h1 : x.1 = 1
  · rw [if_pos h1] at hp ⊢; exact PM_CV d _ _ p hp
  · rw [if_neg h1] at hp ⊢
    by_cases h2 : x.1 = 2
    · rw [if_pos h2] at hp ⊢
      cases hn : at? d x.2.1 with
      | none => rw [hn] at hp; cases hp
      | some n =>
        rw [hn] at hp
        simp only at hp ⊢
        split at hp
        · obtain ⟨q, hq, rfl⟩ := List.mem_map.1 hp
          exact List.mem_map.2 ⟨q, PM_CV d _ _ q hq, rfl⟩
        · cases hp
    · rw [if_neg h2] at hp ⊢
      split at hp
      · cases hp
      · exact hp
theorem hds_CS (d : List SNode) : ∀ (s : List SItem), ∀ t ∈ hds d s, t ∈ CS d s
  | [], t, ht => ht
  | x :: rest, t, ht => by
    rcases List.mem_append.1 ht with ht | ht
    · obtain ⟨q, hq, rfl⟩ := List.mem_map.1 ht
      exact List.mem_append.2 (.inl (List.mem_map.2 ⟨q, pmI_CI d x q hq, rfl⟩))
    · obtain ⟨l, hl, hp⟩ := List.mem_flatten.1 ht
      rw [List.mem_replicate.1 hl |>.2] at hp
      exact List.mem_append.2 (.inr (hds_CS d rest t hp))
structure BrOk (l : List SBranch) : Prop where
  many : ∀ b ∈ l, 0 ≤ b.2 ∧ b.2 ≤ 2
  len : ∀ b ∈ l, b.1.length ≤ 1000
theorem addB_split {s : List SItem} {many : Int} : ∀ (l : List SBranch) (i : Nat), (∀ b ∈ l.take i, ¬ cmpS s b.1 = 0 ∧ ¬ cmpS s b.1 < 0) → addB s many l = l.take i ++ addB s many (l.drop i)
  | l, 0, _ => rfl
  | [], i + 1, _ => by simp
  | b :: l, i + 1, h => by
    have hb := h b (by simp)
    conv => lhs; unfold addB
    rw [if_neg hb.1, if_neg hb.2, addB_split l i fun c hc => h c (by simp [hc])]
    rfl
theorem ref14_Add_in {l : List SBranch} (hs : l.Pairwise (fun a b => cmpS a.1 b.1 < 0)) (hb : BrOk l) (hl : l.length ≤ 2000000000) {s : List SItem} (hsl : s.length ≤ 1000) {many : Int} (hm : 0 ≤ many ∧ many ≤ 2) : ref14_Add l s many (addB s many l) := by
  refine uptoK (P := fun k (q : List SBranch × Bool) v => ref14_Add.l1 l s many _ k q.1 q.2 v) l.length
    (fun i q => (q.2 = false → q.1 = l.take i ∧ ∀ b ∈ l.take i, ¬ cmpS s b.1 = 0 ∧ ¬ cmpS s b.1 < 0) ∧ (q.2 = true → q.1 ++ l.drop i = addB s many l ∧ ∀ b ∈ l.drop i, cmpS s b.1 < 0)) ?_ ?_ ([], false) ⟨fun _ => ⟨by simp, by simp⟩, (fun h => by cases h)⟩
  · rintro i ⟨out, done⟩ k hi ⟨h1, h2⟩ hk
    have hol : out.length ≤ l.length + 1 := by
      cases done
      · have k1 := (h1 rfl).1
        simp only at k1
        rw [k1]; simp; omega
      · have := congrArg List.length (h2 rfl).1
        have h3 := addB_len s many l
        simp at this; omega
    have hbm : l[i] ∈ l := List.getElem_mem hi
    have hmb := hb.many _ hbm
    have hlb := hb.len _ hbm
    have hat : at? l (i : Int) = some l[i] := by rw [at_nat]; simp [hi]
    have hdr : l.drop i = l[i] :: l.drop (i + 1) := (List.getElem_cons_drop hi).symm
    have htk : l.take (i + 1) = l.take i ++ [l[i]] := List.take_succ_eq_append_getElem hi
    have hsrt : ∀ b ∈ l.drop (i + 1), cmpS l[i].1 b.1 < 0 := by
      have := hs.sublist (List.drop_sublist i l)
      rw [hdr, List.pairwise_cons] at this
      exact this.1
    refine ⟨fun _ => ⟨l[i], hat, _, ref13_Compare_in hsl hlb, fun h0 => ?_, fun h0 => ⟨fun hc => ?_, fun hc => ?_⟩⟩, fun h => absurd (by omega) (df h)⟩
    · have e0 : cmpS s l[i].1 = 0 := by simpa using h0
      refine ⟨l[i], hat, i64_of (by omega) (by omega), by simp; omega, i64_of (by omega) (by omega), hk (out ++ [(s, min 2 (l[i].2 + many))], true) ⟨(fun h => by cases h), fun _ => ?_⟩⟩
      cases done
      · obtain ⟨k1, k2⟩ := h1 rfl
        simp only at k1
        refine ⟨?_, fun b hbb => by rw [cmpS_zero.1 e0]; exact hsrt b hbb⟩
        rw [addB_split l i k2, hdr, k1]
        conv => rhs; unfold addB
        rw [if_pos e0]; simp
      · obtain ⟨k1, k2⟩ := h2 rfl
        have := k2 l[i] (hdr ▸ List.mem_cons_self)
        omega
    · simp only [Bool.and_eq_true, decide_eq_true_eq, Bool.not_eq_true'] at hc
      obtain ⟨c1, c2⟩ := hc
      subst c2
      obtain ⟨k1, k2⟩ := h1 rfl
      simp only at k1
      refine ⟨by simp; omega, l[i], hat, by simp; omega, i64_of (by omega) (by omega), hk (out ++ [(s, many)] ++ [l[i]], true) ⟨(fun h => by cases h), fun _ => ⟨?_, fun b hbb => cmpS_trans c1 (hsrt b hbb)⟩⟩⟩
      rw [addB_split l i k2, hdr, k1]
      conv => rhs; unfold addB
      rw [if_neg (by omega), if_pos c1]; simp
    · have e0 : ¬ cmpS s l[i].1 = 0 := by simpa using h0
      refine ⟨l[i], hat, by simp; omega, i64_of (by omega) (by omega), hk (out ++ [l[i]], done) ⟨fun hd => ?_, fun hd => ?_⟩⟩
      · simp only at hd
        subst hd
        obtain ⟨k1, k2⟩ := h1 rfl
        simp only at k1
        simp only [Bool.not_false, Bool.and_true, decide_eq_false_iff_not] at hc
        refine ⟨by rw [htk, k1], fun b hbb => ?_⟩
        rw [htk] at hbb
        rcases List.mem_append.1 hbb with hbb | hbb
        · exact k2 b hbb
        · rw [List.mem_singleton.1 hbb]; exact ⟨e0, hc⟩
      · simp only at hd
        subst hd
        obtain ⟨k1, k2⟩ := h2 rfl
        refine ⟨?_, fun b hbb => k2 b (hdr ▸ List.mem_cons_of_mem _ hbb)⟩
        rw [← k1, hdr]; simp
  · rintro ⟨out, done⟩ ⟨h1, h2⟩ k
    refine ⟨fun h => absurd (dt h) (by omega), fun _ => ⟨fun hd => ?_, fun hd => ?_⟩⟩
    · have hd' : done = false := by simpa using hd
      subst hd'
      obtain ⟨k1, k2⟩ := h1 rfl
      simp only at k1
      rw [List.take_length] at k1
      refine ⟨by rw [k1]; simp; omega, ?_⟩
      rw [addB_split l l.length k2, k1]
      simp [addB]
    · have hd' : done = true := by simpa using hd
      subst hd'
      obtain ⟨k1, k2⟩ := h2 rfl
      rw [← k1]; simp
theorem Can.brok {f : List SItem → Nat} {B : List SBranch} (h : Can f B) (hl : ∀ t, f t ≠ 0 → t.length ≤ 1000) : BrOk B :=
  ⟨fun b hb => by have := (h.many hb).2.2; omega, fun b hb => hl _ (h.many hb).2.1⟩
theorem into_in {d : List SNode} (hd : ROk d) (hdl : d.length ≤ 400) (hd0 : ∃ n, at? d 0 = some n) (U : List (List SItem)) (hU : U.length ≤ 1000000000) (hU1 : ∀ t ∈ U, t.length ≤ 1000) : ∀ (h : Nat) (s : List SItem) (L : List (List SItem)), lv d h s = some L → Vs d 400 s → ∀ (f : List SItem → Nat) (B : List SBranch), Can f B → (∀ t, f t ≠ 0 → t ∈ U) → (∀ t ∈ L, t ∈ U) → ∃ r, ref14_into.n h d s B r ∧ Can (fun t => f t + L.count t) r
  | 0, s, L, hL, _, _, _, _, _, _ => by simp [lv] at hL
  | h + 1, s, L, hL, hv, f, B, hB, hf, hLU => by
    have hlen := hv.len
    have hBl := can_len hB hf
    have hBo := hB.brok fun t ht => hU1 t (hf t ht)
    cases hr : rdy d s with
    | true =>
      have e : L = [s] := by
        unfold lv at hL
        rw [if_pos hr] at hL; exact (Option.some.inj hL).symm
      subst e
      refine ⟨addB s 1 B, ⟨true, hr ▸ ref14_Ready_in hv.form hd0, fun _ => ⟨s, ahead_in (by simp) (by omega), _, ref14_Add_in hB.srt hBo (by omega) (by omega) (by omega), rfl⟩, (fun h => by cases h)⟩, ?_⟩
      refine (hB.add s (n := 1) (by omega)).congr fun t => ?_
      simp only [List.count_singleton, beq_iff_eq]
      by_cases ht : t = s
      · subst ht; simp
      · simp [ht, Ne.symm ht]
    | false =>
      have hopn := hv.opn hd hr
      obtain ⟨ls, hls, hlf⟩ : ∃ ls, (opn d s).mapM (lv d h) = some ls ∧ ls.flatten = L := by
        unfold lv at hL
        rw [if_neg (by rw [hr]; simp)] at hL
        exact Option.map_eq_some_iff.1 hL
      have hlsl : ls.length = (opn d s).length := mapM_len hls
      have hol := opn_len (d := d) s
      have key : ∀ (m i : Nat) (B' : List SBranch), i + m = (opn d s).length → Can (fun t => f t + (ls.take i).flatten.count t) B' → ∃ (r : List SBranch) (k : Nat), ref14_into.l1 (ref14_into.n h) d (opn d s) (ref14_into.j1 r) k B' (i : Int) ∧ Can (fun t => f t + L.count t) r := by
        intro m
        induction m with
        | zero =>
          intro i B' hi hB'
          refine ⟨B', 1, ⟨fun h => absurd (dt h) (by omega), fun _ => rfl⟩, ?_⟩
          rw [List.take_of_length_le (by omega), hlf] at hB'
          exact hB'
        | succ m ih =>
          intro i B' hi hB'
          have hil : i < (opn d s).length := by omega
          obtain ⟨li, h1, h2⟩ := mapM_at hls hil
          have hsub : ∀ t ∈ li, t ∈ L := fun t ht => by
            rw [← hlf]; exact List.mem_flatten.2 ⟨li, List.mem_of_getElem? h2, ht⟩
          have hsub2 : ∀ t, (ls.take i).flatten.count t ≠ 0 → t ∈ U := fun t ht => by
            have hp : t ∈ (ls.take i).flatten := List.count_pos_iff.1 (by omega)
            obtain ⟨l, hl, ht⟩ := List.mem_flatten.1 hp
            exact hLU t (by rw [← hlf]; exact List.mem_flatten.2 ⟨l, List.mem_of_mem_take hl, ht⟩)
          obtain ⟨r1, hr1, hr2⟩ := into_in hd hdl hd0 U hU hU1 h _ li h1 (hopn _ (List.getElem_mem hil)) _ B' hB' (fun t ht => by
            by_cases h0 : f t = 0
            · exact hsub2 t (by omega)
            · exact hf t h0) (fun t ht => hLU t (hsub t ht))
          obtain ⟨r, k, hk1, hk2⟩ := ih (i + 1) r1 (by omega) (hr2.congr fun t => by rw [take_flat h2, List.count_append, Nat.add_assoc])
          exact ⟨r, k + 1, ⟨fun _ => ⟨_, by rw [at_nat]; simp [hil], r1, hr1, i64_of (by omega) (by omega), by simpa using hk1⟩, fun h => absurd (by omega) (df h)⟩, hk2⟩
      obtain ⟨r, k, hk1, hk2⟩ := key (opn d s).length 0 B (by omega) (hB.congr fun t => by simp)
      exact ⟨r, ⟨false, hr ▸ ref14_Ready_in hv.form hd0, (fun h => by cases h), fun _ => ⟨_, ref14_Open_in hd hv.form hr (by omega) hd0, k, hk1⟩⟩, hk2⟩
theorem nodup_dups {α : Type} [BEq α] [LawfulBEq α] : ∀ (n : Nat) (l : List α), l.length ≤ n → l.eraseDups.Nodup
  | _, [], _ => by simp
  | 0, x :: l, h => by simp at h
  | n + 1, x :: l, h => by
    rw [List.eraseDups_cons, List.nodup_cons]
    refine ⟨fun hx => ?_, nodup_dups n _ (Nat.le_trans (List.length_filter_le _ _) (by simpa using h))⟩
    have := List.mem_eraseDups.1 hx
    simp at this
theorem CV_tr {d : List SNode} {f i : Int} (h : Tr d f i) : ∀ k, ((CV d k i).length : Int) ≤ i - f + 1 := by
  induction h with
  | leaf he hk hx h0 =>
    rename_i i e
    intro k
    cases k with
    | zero => simp [CV]
    | succ k =>
      unfold CV
      rw [he]
      simp only
      rcases hk with h | h | h
      · simp [h]
      · simp [h]
      · simp [h]
  | one he hk ha hb hr t ih =>
    rename_i f i e
    intro k
    have hle := t.le
    cases k with
    | zero => simp [CV]; omega
    | succ k =>
      have := ih k
      unfold CV
      rw [he]
      simp only
      rw [if_neg (by omega), if_neg (by omega), if_neg (by omega), if_neg (by omega), ha]
      split
      · rw [List.length_map]; omega
      · split
        · rw [List.length_map]; omega
        · simp; omega
  | two he hk ha hb t1 t2 i1 i2 =>
    rename_i f p i e
    intro k
    have h1 := t1.le
    have h2 := t2.le
    cases k with
    | zero => simp [CV]; omega
    | succ k =>
      have a1 := i1 k
      have a2 := i2 k
      unfold CV
      rw [he]
      simp only
      rw [if_neg (by omega), if_neg (by omega), ha, hb]
      split
      · rw [List.length_append, List.length_map]; omega
      · split
        · rw [List.length_append]; omega
        · omega
theorem CV_few {d : List SNode} (h : Rt d) (k : Nat) (i : Int) : (CV d k i).length ≤ d.length + 1 := by
  cases hn : at? d i with
  | none => cases k <;> simp [CV, hn]
  | some n =>
    obtain ⟨g, hg⟩ := h.tr.at hn
    have h1 := CV_tr hg k
    have h2 := hg.le
    have h3 := hg.lt
    omega
theorem CS_few {d : List SNode} (h : Rt d) : ∀ s : List SItem, (CS d s).length ≤ s.length * (d.length + 1) + 1
  | [] => by simp [CS]
  | x :: rest => by
    have h1 := CS_few h rest
    have h2 : (CI d x).length ≤ d.length + 1 := by
      unfold CI
      split
      · exact CV_few h _ _
      · split
        · split
          · rw [List.length_map]; exact CV_few h _ _
          · simp
        · simp
    simp only [CS, List.length_append, List.length_map, List.length_cons, Nat.succ_mul]
    omega
structure Sm (d : List SNode) (s : List SItem) : Prop where
  rt : Rt d
  len : d.length ≤ 24
  txt : ∀ n ∈ d, n.2.2.2.2.2.2.length ≤ 140737488351232
  form : formS d s = true
  slen : s.length ≤ 400
theorem Sm.dok {d : List SNode} {s : List SItem} (h : Sm d s) : DOk d := ⟨by have := h.len; omega, fun n hn => by have := h.txt n hn; omega⟩
theorem Sm.ne {d : List SNode} {s : List SItem} (h : Sm d s) : ∃ n, at? d 0 = some n := by
  have := h.rt.ne
  cases d with
  | nil => exact absurd rfl this
  | cons n d => exact ⟨n, rfl⟩
theorem Sm.vs {d : List SNode} {s : List SItem} (h : Sm d s) : Vs d 400 s := Vs.start h.form (by have := h.slen; omega)
theorem heads_both {d : List SNode} {s : List SItem} (h : Sm d s) : ∃ B, heads_Heads d s B ∧ ref14_Heads d s B ∧ Can (fun t => (hds d s).count t) B := by
  have hd := h.rt.toROk
  obtain ⟨L, ⟨k, hk⟩, hp⟩ := hds_lv hd s h.form
  have hU : (CS d s).length ≤ 1000000000 := by
    have h1 := CS_few h.rt s
    have h4 : s.length * (d.length + 1) ≤ 400 * 25 := Nat.mul_le_mul h.slen (by have := h.len; omega)
    omega
  have hLU : ∀ t ∈ L, t ∈ CS d s := fun t ht => hds_CS d s t (hp.mem_iff.1 ht)
  have hvs := lv_vs hd k s L hk h.vs
  have hLU2 : ∀ t ∈ L, t ∈ L.eraseDups := fun t ht => List.mem_eraseDups.2 ht
  have hUl : L.eraseDups.length ≤ 1000000000 := Nat.le_trans (len_sub (nodup_dups _ L (Nat.le_refl _)) fun t ht => hLU t (List.mem_eraseDups.1 ht)) hU
  have hU1 : ∀ t ∈ L.eraseDups, t.length ≤ 1000 := fun t ht => by
    have := (hvs t (List.mem_eraseDups.1 ht)).1.len
    have := h.len
    omega
  obtain ⟨B, hB1, hB2⟩ := into_in hd (by have := h.len; omega) h.ne L.eraseDups hUl hU1 k s L hk h.vs (fun _ => 0) [] Can.nil (fun t ht => absurd rfl ht) hLU2
  have hB3 : Can (fun t => L.count t) B := hB2.congr fun t => by simp
  have hBl := can_len hB3 (U := L.eraseDups) fun t ht => hLU2 t (List.count_pos_iff.1 (by omega))
  exact ⟨B, ⟨hd, h.dok, by have := h.len; omega, h.rt.ne, h.form, by have := h.slen; omega, by omega, k, L, hk, hB3⟩, ⟨B, ⟨k, hB1⟩, rfl⟩, hB3.congr fun t => by rw [hp.count_eq]⟩
end Go.Proofs.YtdidjelkkanenaaDoor.V
namespace Go.Proofs.YtdidjelkkanenaaDoor.V
open Go
set_option linter.unusedVariables false
theorem item_Lower_in {s : List SItem} (hs : s.length ≤ 1000) (hr : ∀ x ∈ s, ItR x) : item_Lower s (lowF s) := by
  refine ⟨s, clone_in hs, ?_⟩
  refine upto (P := fun k (t : List SItem) v => item_Lower.l1 s (lowF s) _ k t v) s.length (fun i t => t = (s.take i).map low1 ++ s.drop i ∧ (s.take i).any badI = false) ?_ ?_ _ ⟨by simp, by simp⟩
  · rintro i t hi ⟨rfl, hb⟩
    have hl : ((s.take i).map low1).length = i := by simp; omega
    have hat : at? ((s.take i).map low1 ++ s.drop i) (i : Int) = some s[i] := by
      rw [at_nat, List.getElem?_append_right (by omega), hl, Nat.sub_self]
      simp [hi]
    have hset : ∀ y, ((s.take i).map low1 ++ s.drop i).set i y = (s.take i).map low1 ++ [y] ++ s.drop (i + 1) := fun y => by
      rw [List.set_append_right _ _ (by omega), hl, Nat.sub_self, List.drop_eq_getElem_cons hi, List.set_cons_zero]; simp
    have hnext : (s.take (i + 1)).map low1 ++ s.drop (i + 1) = (s.take i).map low1 ++ [low1 s[i]] ++ s.drop (i + 1) := by
      rw [List.take_succ_eq_append_getElem hi, List.map_append]; rfl
    have hri := (hr _ (List.getElem_mem hi)).2.2.1
    rw [inR_i64] at hri
    by_cases h5 : s[i].1 = 5
    · by_cases hlo : s[i].2.2.1 ≤ 0
      · have hbad : badI s[i] = true := by simp [badI, h5, hlo]
        refine .inl fun k => ⟨fun _ => ⟨_, hat, fun h => by simp [h5] at h, fun _ => ⟨fun _ => ?_, fun h => absurd hlo (df h)⟩⟩, fun h => absurd (by omega) (df h)⟩
        unfold lowF; rw [if_pos (any_of hi hbad)]
      · have hbad : badI s[i] = false := by simp [badI, hlo]
        refine .inr ⟨_, ⟨rfl, by rw [any_take hi, hb, hbad]; rfl⟩, fun k h => ⟨fun _ => ⟨_, hat, fun h => by simp [h5] at h, fun _ => ⟨fun h => absurd (dt h) hlo, fun _ => ⟨_, hat, i64_of (by omega) (by omega), _, hat, i64_of (by omega) (by omega), ?_⟩⟩⟩, fun h => absurd (by omega) (df h)⟩⟩
        rw [hnext] at h
        rw [Int.toNat_natCast, hset]
        have e : low1 s[i] = (s[i].1, s[i].2.1, s[i].2.2.1 - 1, s[i].2.2.2) := by unfold low1; rw [if_pos h5]
        rw [← e]; exact h
    · have hbad : badI s[i] = false := by simp [badI, h5]
      refine .inr ⟨_, ⟨rfl, by rw [any_take hi, hb, hbad]; rfl⟩, fun k h => ⟨fun _ => ⟨_, hat, fun _ => ⟨i64_of (by omega) (by omega), ?_⟩, fun h => by simp at h; exact absurd h h5⟩, fun h => absurd (by omega) (df h)⟩⟩
      rw [hnext] at h
      have e : low1 s[i] = s[i] := by unfold low1; rw [if_neg h5]
      rw [e] at h
      rw [List.drop_eq_getElem_cons hi]
      simpa using h
  · rintro t ⟨rfl, hb⟩ k
    refine ⟨fun h => absurd (dt h) (by omega), fun _ => ?_⟩
    rw [List.take_length] at hb
    show lowF s = _
    unfold lowF
    rw [if_neg (by rw [hb]; simp)]
    simp
end Go.Proofs.YtdidjelkkanenaaDoor.V
namespace Go.Proofs.YtdidjelkkanenaaDoor.V
open Go
set_option linter.unusedVariables false
def ref02_Same.j1 (r_ : Bool) : Prop := r_ = true
def ref02_Same.l1 (a_ : (List Cl)) (b_ : (List Cl)) (r_ : Bool) (X1 : Prop) : Nat → Int → Prop
  | 0, _ => False
  | k_0 + 1, i9 => ((decide (i9 < (a_.length : Int))) = true → ∃ e17 : Cl, at? a_ i9 = some e17 ∧ ∃ e19 : Cl, at? b_ i9 = some e19 ∧ (((e17 != e19)) = true → r_ = false) ∧ (((e17 != e19)) = false → (InR .i64 (i9 + 1)) ∧ ref02_Same.l1 a_ b_ r_ X1 k_0 (i9 + 1))) ∧ ((decide (i9 < (a_.length : Int))) = false → X1)
def ref02_Same (a_ : (List Cl)) (b_ : (List Cl)) (r_ : Bool) : Prop := ((((a_.length : Int) != (b_.length : Int))) = true → r_ = false) ∧ ((((a_.length : Int) != (b_.length : Int))) = false → ∃ k10, ref02_Same.l1 a_ b_ r_ (ref02_Same.j1 r_) k10 0)
def ref13_Lower.j1 (r_ : ((List SItem) × Bool)) (out5 : (List SItem)) : Prop := r_ = (out5, true)
def ref13_Lower.j2 (L1_ : (List SItem) → Int → Prop) (out9 : (List SItem)) (i11 : Int) (x25 : SItem) : Prop := (out9.length + [x25].length ≤ 2147483648) ∧ (InR .i64 (i11 + 1)) ∧ L1_ (out9 ++ [x25]) (i11 + 1)
def ref13_Lower.l1 (s_ : (List SItem)) (r_ : ((List SItem) × Bool)) (X1 : (List SItem) → Prop) : Nat → (List SItem) → Int → Prop
  | 0, _, _ => False
  | k_0 + 1, out9, i11 => ((decide (i11 < (s_.length : Int))) = true → ∃ e19 : SItem, at? s_ i11 = some e19 ∧ (((e19.1 == 5)) = true → ((decide (e19.2.2.1 ≤ 0)) = true → r_ = (([] : (List SItem)), false)) ∧ ((decide (e19.2.2.1 ≤ 0)) = false → (InR .i64 (e19.2.2.1 - 1)) ∧ (ref13_Lower.j2 (ref13_Lower.l1 s_ r_ X1 k_0) out9 i11) (e19.1, e19.2.1, e19.2.2.1 - 1, e19.2.2.2))) ∧ (((e19.1 == 5)) = false → (ref13_Lower.j2 (ref13_Lower.l1 s_ r_ X1 k_0) out9 i11) e19)) ∧ ((decide (i11 < (s_.length : Int))) = false → X1 out9)
def ref13_Lower (s_ : (List SItem)) (r_ : ((List SItem) × Bool)) : Prop := ∃ k12, ref13_Lower.l1 s_ r_ (ref13_Lower.j1 r_) k12 ([] : (List SItem)) 0
def ref15_Read (d_ : SDesc) (s_ : (List SItem)) (cv_ : Int) (r_ : ((List SItem) × Bool)) : Prop := ((((s_.length : Int) == 0)) = true → r_ = (([] : (List SItem)), false)) ∧ ((((s_.length : Int) == 0)) = false → ((0 : Int) ≤ 1 ∧ 1 ≤ (s_.length : Int)) ∧ ∃ r7 : ((List SItem) × Bool), ref13_Lower (s_.drop (1 : Int).toNat) r7 ∧ (((!r7.2)) = true → r_ = (([] : (List SItem)), false)) ∧ (((!r7.2)) = false → ∃ e13 : SItem, at? s_ 0 = some e13 ∧ ∃ e17 : SNode, at? d_ e13.2.1 = some e17 ∧ (((e13.1 == 3)) = true → ∃ c30 : Int, byte? e17.2.2.2.2.2.2 e13.2.2.1 = some c30 ∧ (((c30 != cv_)) = true → r_ = (([] : (List SItem)), false)) ∧ (((c30 != cv_)) = false → (InR .i64 (e13.2.2.1 + 1)) ∧ ∃ b35 : Bool, b35 = (decide (e13.2.2.1 + 1 < (e17.2.2.2.2.2.2.length : Int))) ∧ ((b35) = true → (InR .i64 (e13.2.2.1 + 1)) ∧ ([(3, e13.2.1, e13.2.2.1 + 1, 0)].length + r7.1.length ≤ 2147483648) ∧ r_ = ([(3, e13.2.1, e13.2.2.1 + 1, 0)] ++ r7.1, true)) ∧ ((b35) = false → (([] : (List SItem)).length + r7.1.length ≤ 2147483648) ∧ r_ = (([] : (List SItem)) ++ r7.1, true)))) ∧ (((e13.1 == 3)) = false → (((e13.1 == 4)) = true → (InR .i64 (256 * e13.2.2.1)) ∧ (InR .i64 ((256 * e13.2.2.1) + cv_)) ∧ ([(1, e17.2.1, 0, 0), (5, 0, (256 * e13.2.2.1) + cv_, 0)].length + r7.1.length ≤ 2147483648) ∧ r_ = ([(1, e17.2.1, 0, 0), (5, 0, (256 * e13.2.2.1) + cv_, 0)] ++ r7.1, true)) ∧ (((e13.1 == 4)) = false → (((e17.1 == 8)) = true → ([(1, e17.2.1, 0, 0), (5, 0, cv_, 0)].length + r7.1.length ≤ 2147483648) ∧ r_ = ([(1, e17.2.1, 0, 0), (5, 0, cv_, 0)] ++ r7.1, true)) ∧ (((e17.1 == 8)) = false → (((e17.1 == 9)) = true → ([(4, e13.2.1, cv_, 0)].length + r7.1.length ≤ 2147483648) ∧ r_ = ([(4, e13.2.1, cv_, 0)] ++ r7.1, true)) ∧ (((e17.1 == 9)) = false → ∃ r75 : Bool, ref01_Has e17.2.2.2.2.2.1 cv_ r75 ∧ (((!r75)) = true → r_ = (([] : (List SItem)), false)) ∧ (((!r75)) = false → (([] : (List SItem)).length + r7.1.length ≤ 2147483648) ∧ r_ = (([] : (List SItem)) ++ r7.1, true))))))))
def ref15_On.j1 (r_ : (List SBranch)) (out8 : (List SBranch)) : Prop := r_ = out8
def ref15_On.l1 (d_ : SDesc) (cv_ : Int) (r3 : (List SBranch)) (X1 : (List SBranch) → Prop) : Nat → (List SBranch) → Int → Prop
  | 0, _, _ => False
  | k_0 + 1, out12, i14 => ((decide (i14 < (r3.length : Int))) = true → ∃ e22 : SBranch, at? r3 i14 = some e22 ∧ ∃ r24 : ((List SItem) × Bool), ref15_Read d_ e22.1 cv_ r24 ∧ ((r24.2) = true → ∃ e29 : SBranch, at? r3 i14 = some e29 ∧ ∃ r31 : (List SBranch), ref14_Add out12 r24.1 e29.2 r31 ∧ (InR .i64 (i14 + 1)) ∧ ref15_On.l1 d_ cv_ r3 X1 k_0 r31 (i14 + 1)) ∧ ((r24.2) = false → (InR .i64 (i14 + 1)) ∧ ref15_On.l1 d_ cv_ r3 X1 k_0 out12 (i14 + 1))) ∧ ((decide (i14 < (r3.length : Int))) = false → X1 out12)
def ref15_On (d_ : SDesc) (s_ : (List SItem)) (cv_ : Int) (r_ : (List SBranch)) : Prop := ∃ r3 : (List SBranch), ref14_Heads d_ s_ r3 ∧ ∃ k15, ref15_On.l1 d_ cv_ r3 (ref15_On.j1 r_) k15 ([] : (List SBranch)) 0
def ref15_Ends.j1 (r_ : Int) : Prop := r_ = 0
def ref15_Ends.l1 (r3 : (List SBranch)) (r_ : Int) (X1 : Prop) : Nat → Int → Prop
  | 0, _ => False
  | k_0 + 1, i9 => ((decide (i9 < (r3.length : Int))) = true → ∃ e17 : SBranch, at? r3 i9 = some e17 ∧ ((((e17.1.length : Int) == 0)) = true → ∃ e20 : SBranch, at? r3 i9 = some e20 ∧ r_ = e20.2) ∧ ((((e17.1.length : Int) == 0)) = false → (InR .i64 (i9 + 1)) ∧ ref15_Ends.l1 r3 r_ X1 k_0 (i9 + 1))) ∧ ((decide (i9 < (r3.length : Int))) = false → X1)
def ref15_Ends (d_ : SDesc) (s_ : (List SItem)) (r_ : Int) : Prop := ∃ r3 : (List SBranch), ref14_Heads d_ s_ r3 ∧ ∃ k10, ref15_Ends.l1 r3 r_ (ref15_Ends.j1 r_) k10 0
def ref15_Classes.j1 (r_ : (List Cl)) (out8 : (List Cl)) : Prop := r_ = out8
def ref15_Classes.j2 (L1_ : (List Cl) → Int → Prop) (i14 : Int) (out54 : (List Cl)) : Prop := (InR .i64 (i14 + 1)) ∧ L1_ out54 (i14 + 1)
def ref15_Classes.l2 (X2 : (List Cl) → Prop) : Nat → (List Cl) → Int → Prop
  | 0, _, _ => False
  | k_0 + 1, out58, c60 => ((decide (c60 < 256)) = true → ∃ r67 : Cl, ref01_Row (c60 % 256) (c60 % 256) r67 ∧ (out58.length + [r67].length ≤ 2147483648) ∧ (InR .i64 (c60 + 1)) ∧ ref15_Classes.l2 X2 k_0 (out58 ++ [r67]) (c60 + 1)) ∧ ((decide (c60 < 256)) = false → X2 out58)
def ref15_Classes.l1 (d_ : SDesc) (r3 : (List SBranch)) (X1 : (List Cl) → Prop) : Nat → (List Cl) → Int → Prop
  | 0, _, _ => False
  | k_0 + 1, out12, i14 => ((decide (i14 < (r3.length : Int))) = true → ∃ e23 : SBranch, at? r3 i14 = some e23 ∧ ((((e23.1.length : Int) == 0)) = true → (InR .i64 (i14 + 1)) ∧ ref15_Classes.l1 d_ r3 X1 k_0 out12 (i14 + 1)) ∧ ((((e23.1.length : Int) == 0)) = false → ∃ e27 : SBranch, at? r3 i14 = some e27 ∧ ∃ e29 : SItem, at? e27.1 0 = some e29 ∧ ∃ e34 : SNode, at? d_ e29.2.1 = some e34 ∧ (((e29.1 == 3)) = true → ∃ c40 : Int, byte? e34.2.2.2.2.2.2 e29.2.2.1 = some c40 ∧ ∃ c42 : Int, byte? e34.2.2.2.2.2.2 e29.2.2.1 = some c42 ∧ ∃ r44 : Cl, ref01_Row c40 c42 r44 ∧ (out12.length + [r44].length ≤ 2147483648) ∧ (InR .i64 (i14 + 1)) ∧ ref15_Classes.l1 d_ r3 X1 k_0 (out12 ++ [r44]) (i14 + 1)) ∧ (((e29.1 == 3)) = false → ((((e29.1 == 1) && (e34.1 == 2))) = true → (out12.length + [e34.2.2.2.2.2.1].length ≤ 2147483648) ∧ (InR .i64 (i14 + 1)) ∧ ref15_Classes.l1 d_ r3 X1 k_0 (out12 ++ [e34.2.2.2.2.2.1]) (i14 + 1)) ∧ ((((e29.1 == 1) && (e34.1 == 2))) = false → ∃ k61, ref15_Classes.l2 (ref15_Classes.j2 (ref15_Classes.l1 d_ r3 X1 k_0) i14) k61 out12 0)))) ∧ ((decide (i14 < (r3.length : Int))) = false → X1 out12)
def ref15_Classes (d_ : SDesc) (s_ : (List SItem)) (r_ : (List Cl)) : Prop := ∃ r3 : (List SBranch), ref14_Heads d_ s_ r3 ∧ ∃ k15, ref15_Classes.l1 d_ r3 (ref15_Classes.j1 r_) k15 ([] : (List Cl)) 0
end Go.Proofs.YtdidjelkkanenaaDoor.V
namespace Go.Proofs.YtdidjelkkanenaaDoor.V
open Go
set_option linter.unusedVariables false
theorem ref13_Lower_in {s : List SItem} (hs : s.length ≤ 1000) (hr : ∀ x ∈ s, ItR x) : ref13_Lower s (lowF s) := by
  refine upto (P := fun k (t : List SItem) v => ref13_Lower.l1 s (lowF s) _ k t v) s.length (fun i t => t = (s.take i).map low1 ∧ (s.take i).any badI = false) ?_ ?_ _ ⟨by simp, by simp⟩
  · rintro i t hi ⟨rfl, hb⟩
    have hl : ((s.take i).map low1).length = i := by simp; omega
    have hat : at? s (i : Int) = some s[i] := by rw [at_nat]; simp [hi]
    have hnext : (s.take (i + 1)).map low1 = (s.take i).map low1 ++ [low1 s[i]] := by
      rw [List.take_succ_eq_append_getElem hi, List.map_append]; rfl
    have hri := (hr _ (List.getElem_mem hi)).2.2.1
    rw [inR_i64] at hri
    have hj : ∀ k, ref13_Lower.l1 s (lowF s) (ref13_Lower.j1 (lowF s)) k ((s.take (i + 1)).map low1) ((i : Int) + 1) → ref13_Lower.j2 (ref13_Lower.l1 s (lowF s) (ref13_Lower.j1 (lowF s)) k) ((s.take i).map low1) (i : Int) (low1 s[i]) := fun k h => by
      refine ⟨by rw [hl]; simp only [List.length_cons, List.length_nil]; omega, i64_of (by omega) (by omega), ?_⟩
      rw [hnext] at h; exact h
    by_cases h5 : s[i].1 = 5
    · by_cases hlo : s[i].2.2.1 ≤ 0
      · have hbad : badI s[i] = true := by simp [badI, h5, hlo]
        refine .inl fun k => ⟨fun _ => ⟨_, hat, fun _ => ⟨fun _ => ?_, fun h => absurd hlo (df h)⟩, fun h => by simp [h5] at h⟩, fun h => absurd (by omega) (df h)⟩
        unfold lowF; rw [if_pos (any_of hi hbad)]
      · have hbad : badI s[i] = false := by simp [badI, hlo]
        refine .inr ⟨_, ⟨rfl, by rw [any_take hi, hb, hbad]; rfl⟩, fun k h => ⟨fun _ => ⟨_, hat, fun _ => ⟨fun h => absurd (dt h) hlo, fun _ => ⟨i64_of (by omega) (by omega), ?_⟩⟩, fun h => by simp [h5] at h⟩, fun h => absurd (by omega) (df h)⟩⟩
        have := hj k h
        unfold low1 at this
        rw [if_pos h5] at this
        exact this
    · have hbad : badI s[i] = false := by simp [badI, h5]
      refine .inr ⟨_, ⟨rfl, by rw [any_take hi, hb, hbad]; rfl⟩, fun k h => ⟨fun _ => ⟨_, hat, fun h => by simp at h; exact absurd h h5, fun _ => ?_⟩, fun h => absurd (by omega) (df h)⟩⟩
      have := hj k h
      unfold low1 at this
      rw [if_neg h5] at this
      exact this
  · rintro t ⟨rfl, hb⟩ k
    refine ⟨fun h => absurd (dt h) (by omega), fun _ => ?_⟩
    rw [List.take_length] at hb
    show lowF s = _
    unfold lowF
    rw [if_neg (by rw [hb]; simp), List.take_length]
end Go.Proofs.YtdidjelkkanenaaDoor.V
namespace Go.Proofs.YtdidjelkkanenaaDoor.V
open Go
set_option linter.unusedVariables false
theorem class_Has_in {a : Cl} {n : Nat} (hn : n < 256) : class_Has a (n : Int) (a.has n) := by
  refine ⟨⟨by omega, by omega⟩, _, rfl, ?_⟩
  rw [show ((n : Int) / 64) = ((n / 64 : Nat) : Int) by omega, show ((n : Int) % 64) = ((n % 64 : Nat) : Int) by omega]
  show _ = (andI (shrI (((a.word ((n / 64 : Nat) : Int).toNat) : Nat) : Int) _) 1 == 1)
  rw [Int.toNat_natCast, shr_bit (Nat.mod_lt _ (by omega)), has_w hn]
theorem class_Has_u8 {a : Cl} {c : Int} (hc : InR .u8 c) : class_Has a c (a.has c.toNat) := by
  obtain ⟨n, hn, rfl⟩ := u8_of hc
  simpa using class_Has_in (a := a) hn
theorem class_Has_mod {a : Cl} {i : Nat} (hi : i < 256) : class_Has a ((i : Int) % 256) (a.has i) := by
  rw [show ((i : Int) % 256) = (i : Int) by omega]; exact class_Has_in hi
theorem class_Add_in {a : Cl} {l : List Int} (hl : ∀ x ∈ l, InR .u8 x) (hn : l.length < 9223372036854775807) : class_Add a l (a.addL l) := by
  refine upto (P := fun k (s : Cl) v => class_Add.l1 l _ k s v) l.length (fun i s => s = a.addL (l.take i)) ?_ ?_ a (by simp [Cl.addL])
  · rintro i s hi rfl
    refine .inr ⟨a.addL (l.take (i + 1)), rfl, fun k h => ?_⟩
    refine ⟨fun _ => ?_, fun h => absurd (by omega) (df h)⟩
    obtain ⟨n, hn, he⟩ := u8_of (hl l[i] (List.getElem_mem hi))
    refine ⟨l[i], by rw [at_nat]; simp [hi], ?_, ?_, i64_of (by omega) (by omega), ?_⟩
    · rw [he]; omega
    · rw [he]; omega
    · rw [he, show ((n : Int) / 64) = ((n / 64 : Nat) : Int) by omega, show ((n : Int) % 64) = ((n % 64 : Nat) : Int) by omega, put_words hn]
      have : (a.addL (l.take i)).put n = a.addL (l.take (i + 1)) := by
        rw [List.take_succ_eq_append_getElem hi]
        simp [Cl.addL, he]
      rw [this]; exact h
  · rintro s rfl k
    exact ⟨fun h => absurd (dt h) (by omega), fun _ => by simp [class_Add.j1]⟩
theorem class_Of_in {f t : Int} : class_Of f t (Cl.row f t) := by
  refine upto (P := fun k (s : Cl) v => class_Of.l1 f t _ k s v) 256 (fun i s => ∀ n, n < 256 → s.has n = (decide (n < i) && (Cl.row f t).has n)) ?_ ?_ _ (by intro n _; simp [has_zero])
  · intro i s hi hs
    refine .inr ⟨if (decide (f ≤ (i : Int)) && decide ((i : Int) ≤ t)) = true then s.put i else s, ?_, fun k h => ?_⟩
    · intro n hn
      split
      · rename_i hc
        rw [has_put hi, hs n hn, has_row hn]
        by_cases e : i = n
        · subst e; simp [hc]
        · simp only [e, decide_false, Bool.or_false]
          congr 1
          apply decide_eq_decide.2; omega
      · rename_i hc
        rw [hs n hn, has_row hn]
        by_cases e : i = n
        · subst e; simp [hc]
        · congr 1
          apply decide_eq_decide.2; omega
    · refine ⟨fun _ => ?_, fun h => absurd (by omega) (df h)⟩
      rw [show ((i : Int) % 256) = i by omega]
      refine ⟨_, rfl, fun hc => ?_, fun hc => ?_⟩
      · rw [if_pos hc] at h
        refine ⟨s.put i, ?_, i64_of (by omega) (by omega), h⟩
        have := class_Add_in (a := s) (l := [(i : Int)]) (by simpa using u8_nat hi) (by simp)
        simpa [Cl.addL] using this
      · rw [if_neg (by simp [hc])] at h
        exact ⟨i64_of (by omega) (by omega), h⟩
  · intro s hs k
    refine ⟨fun h => absurd (dt h) (by omega), fun _ => ?_⟩
    show Cl.row f t = s
    apply Cl.ext
    intro c hc
    rw [hs c hc]; simp [hc]
theorem word_of_bits {r : Cl} {i v : Nat} (hi : i < 4) (hv : v < 2 ^ 64) (h : ∀ j, j < 64 → r.has (64 * i + j) = v.testBit j) : r.word i = v := by
  apply Nat.eq_of_testBit_eq
  intro j
  rw [Cl.word_bit]
  by_cases hj : j < 64
  · simp [hj, h j hj]
  · have : v < 2 ^ j := Nat.lt_of_lt_of_le hv (Nat.pow_le_pow_right (by omega) (by omega))
    simp [hj, Nat.testBit_lt_two_pow this]
theorem ref01_Has_in {a : Cl} {n : Nat} (hn : n < 256) : ref01_Has a (n : Int) (a.has n) := by
  refine ⟨by omega, ⟨by omega, by omega⟩, ?_⟩
  have hw : Cl.w a ((n : Int) / 64) = ((a.word (n / 64) : Nat) : Int) := by
    rw [show ((n : Int) / 64) = ((n / 64 : Nat) : Int) by omega]; rfl
  rw [hw]
  refine upto (P := fun k (s : Int) v => ref01_Has.l1 (n : Int) _ k s v) (n % 64) (fun i s => s = ((a.word (n / 64) / 2 ^ i : Nat) : Int)) ?_ ?_ _ (by simp)
  · rintro i s hi rfl
    refine .inr ⟨_, rfl, fun k h => ⟨by omega, fun _ => ⟨i64_of (by omega) (by omega), ?_⟩, fun h => absurd (by omega) (df h)⟩⟩
    rw [Nat.pow_succ, ← Nat.div_div_eq_div_mul, Int.natCast_ediv] at h
    exact h
  · rintro s rfl k
    refine ⟨by omega, fun h => absurd (dt h) (by omega), fun _ => ?_⟩
    show a.has n = _
    rw [has_w hn, Nat.testBit_eq_decide_div_mod_eq]
    rcases Nat.mod_two_eq_zero_or_one (a.word (n / 64) / 2 ^ (n % 64)) with h | h
    · rw [h, show (((a.word (n / 64) / 2 ^ (n % 64) : Nat) : Int) % 2) = 0 by omega]; rfl
    · rw [h, show (((a.word (n / 64) / 2 ^ (n % 64) : Nat) : Int) % 2) = 1 by omega]; rfl
theorem ref01_Has_u8 {a : Cl} {c : Int} (hc : InR .u8 c) : ref01_Has a c (a.has c.toNat) := by
  obtain ⟨n, hn, rfl⟩ := u8_of hc
  simpa using ref01_Has_in (a := a) hn
end Go.Proofs.YtdidjelkkanenaaDoor.V
namespace Go.Proofs.YtdidjelkkanenaaDoor.V
open Go
set_option linter.unusedVariables false
theorem ref01_Of_l2 {l : List Bool} (hl : l.length = 256) {w : Nat} (hw : w < 4) {X : Cl → Prop} {s : Cl} (h0 : s.word w = 0) (hX : ∀ t : Cl, (∀ j, j < 4 → t.word j = if j = w then bitsOf (fun j => l.getD (64 * w + j) false) 64 else s.word j) → X t) :
    ∃ k, ref01_Of.l2 l (w : Int) X k s 1 0 := by
  refine upto (P := fun k (s : Cl × Int) v => ref01_Of.l2 l (w : Int) X k s.1 s.2 v) 64
    (fun i t => (∀ j, j < 4 → t.1.word j = if j = w then bitsOf (fun j => l.getD (64 * w + j) false) i else s.word j) ∧ t.2 = ((2 ^ i % 2 ^ 64 : Nat) : Int)) ?_ ?_ (s, 1) ?_
  · rintro i ⟨t, b⟩ hi ⟨h1, h2⟩
    simp only at h1 h2
    subst h2
    have hb := bitsOf_lt (fun j => l.getD (64 * w + j) false) (i + 1)
    have hp : 2 ^ (i + 1) ≤ 2 ^ 64 := Nat.pow_le_pow_right (by omega) (by omega)
    have hp2 : 2 ^ i < 2 ^ 64 := Nat.pow_lt_pow_right (by omega) hi
    have hbit : IntKind.wrap .u64 (((2 ^ i % 2 ^ 64 : Nat) : Int) * 2) = ((2 ^ (i + 1) % 2 ^ 64 : Nat) : Int) := by
      rw [wrap_u64, Nat.mod_eq_of_lt hp2, Nat.pow_succ]; omega
    have hat : at? l (64 * (w : Int) + (i : Int)) = some (l.getD (64 * w + i) false) := by
      rw [show (64 * (w : Int) + (i : Int)) = ((64 * w + i : Nat) : Int) by omega, at_nat, List.getElem?_eq_getElem (by omega)]
      simp [List.getD, List.getElem?_eq_getElem (show 64 * w + i < l.length by omega)]
    cases he : l.getD (64 * w + i) false
    · refine .inr ⟨(t, ((2 ^ (i + 1) % 2 ^ 64 : Nat) : Int)), ⟨fun j hj => ?_, rfl⟩, fun k h => ⟨fun _ => ⟨i64_of (by omega) (by omega), i64_of (by omega) (by omega), _, hat, fun hc => (by rw [he] at hc; cases hc), fun _ => ⟨i64_of (by omega) (by omega), ?_⟩⟩, fun h => absurd (by omega) (df h)⟩⟩
      · simp only
        rw [h1 j hj]
        split
        · simp only [bitsOf, he, cond_false]
        · rfl
      · rw [hbit]; exact h
    · refine .inr ⟨(t.setw (w : Int) ((bitsOf (fun j => l.getD (64 * w + j) false) (i + 1) : Nat) : Int), ((2 ^ (i + 1) % 2 ^ 64 : Nat) : Int)), ⟨fun j hj => ?_, rfl⟩, fun k h => ⟨fun _ => ⟨i64_of (by omega) (by omega), i64_of (by omega) (by omega), _, hat, fun _ => ⟨⟨by omega, by omega⟩, ⟨by omega, by omega⟩, i64_of (by omega) (by omega), ?_⟩, fun hc => (by rw [he] at hc; cases hc)⟩, fun h => absurd (by omega) (df h)⟩⟩
      · simp only
        rw [setw_word (by rw [Int.toNat_natCast]; omega) j hj, Int.toNat_natCast]
        split
        · rfl
        · rename_i e; rw [h1 j hj, if_neg e]
      · have hww : (Cl.w t (w : Int)) = ((bitsOf (fun j => l.getD (64 * w + j) false) i : Nat) : Int) := by
          show ((t.word ((w : Int).toNat) : Nat) : Int) = _
          rw [Int.toNat_natCast, h1 w hw, if_pos rfl]
        have hsum : IntKind.wrap .u64 (Cl.w t (w : Int) + ((2 ^ i % 2 ^ 64 : Nat) : Int)) = ((bitsOf (fun j => l.getD (64 * w + j) false) (i + 1) : Nat) : Int) := by
          have e2 : bitsOf (fun j => l.getD (64 * w + j) false) (i + 1) = 2 ^ i + bitsOf (fun j => l.getD (64 * w + j) false) i := by simp only [bitsOf, he, cond_true]
          rw [hww, wrap_u64, Nat.mod_eq_of_lt hp2]
          omega
        rw [hbit, hsum]; exact h
  · rintro ⟨t, b⟩ ⟨h1, _⟩ k
    exact ⟨fun h => absurd (dt h) (by omega), fun _ => hX t h1⟩
  · refine ⟨fun j hj => ?_, by rfl⟩
    split
    · rename_i e; subst e; simpa [bitsOf] using h0
    · rfl
theorem ofL_word {l : List Bool} {w : Nat} (hw : w < 4) : (Cl.ofL l).word w = bitsOf (fun j => l.getD (64 * w + j) false) 64 := by
  refine word_of_bits hw (bitsOf_lt _ 64) fun j hj => ?_
  rw [has_ofL (by omega), bitsOf_bit]
  simp [hj]
theorem ref01_Of_in {l : List Bool} (hl : l.length = 256) : ref01_Of l (Cl.ofL l) := by
  refine upto (P := fun k (s : Cl) v => ref01_Of.l1 l _ k s v) 4 (fun i s => ∀ j, j < 4 → s.word j = if j < i then (Cl.ofL l).word j else 0) ?_ ?_ _ ?_
  · intro i s hi h
    refine .inr ⟨Cl.ofWords (if 0 < i + 1 then (Cl.ofL l).word 0 else 0) (if 1 < i + 1 then (Cl.ofL l).word 1 else 0) (if 2 < i + 1 then (Cl.ofL l).word 2 else 0) (if 3 < i + 1 then (Cl.ofL l).word 3 else 0), ?_, fun k hk => ⟨fun _ => ?_, fun h => absurd (by omega) (df h)⟩⟩
    · have hb : ∀ (c : Prop) [Decidable c] (k : Nat), (if c then (Cl.ofL l).word k else 0) < 2 ^ 64 := fun c _ k => by
        split
        · exact Cl.word_lt _ _
        · omega
      obtain ⟨e0, e1, e2, e3⟩ := Cl.ofWords_word (hb (0 < i + 1) 0) (hb (1 < i + 1) 1) (hb (2 < i + 1) 2) (hb (3 < i + 1) 3)
      intro j hj
      match j, hj with
      | 0, _ => exact e0
      | 1, _ => exact e1
      | 2, _ => exact e2
      | 3, _ => exact e3
    · refine ref01_Of_l2 hl hi (by rw [h i hi, if_neg (by omega)]) fun t ht => ?_
      refine ⟨i64_of (by omega) (by omega), ?_⟩
      have hb : ∀ (c : Prop) [Decidable c] (k : Nat), (if c then (Cl.ofL l).word k else 0) < 2 ^ 64 := fun c _ k => by
        split
        · exact Cl.word_lt _ _
        · omega
      obtain ⟨e0, e1, e2, e3⟩ := Cl.ofWords_word (hb (0 < i + 1) 0) (hb (1 < i + 1) 1) (hb (2 < i + 1) 2) (hb (3 < i + 1) 3)
      have key : ∀ j, j < 4 → t.word j = if j < i + 1 then (Cl.ofL l).word j else 0 := fun j hj => by
        rw [ht j hj]
        by_cases e : j = i
        · subst e; rw [if_pos rfl, if_pos (by omega), ofL_word hj]
        · rw [if_neg e, h j hj]
          by_cases e2 : j < i
          · rw [if_pos e2, if_pos (by omega)]
          · rw [if_neg e2, if_neg (by omega)]
      have : t = _ := Cl.ext_words (x := t) (y := Cl.ofWords (if 0 < i + 1 then (Cl.ofL l).word 0 else 0) (if 1 < i + 1 then (Cl.ofL l).word 1 else 0) (if 2 < i + 1 then (Cl.ofL l).word 2 else 0) (if 3 < i + 1 then (Cl.ofL l).word 3 else 0)) fun j hj => by
        rw [key j hj]
        match j, hj with
        | 0, _ => exact e0.symm
        | 1, _ => exact e1.symm
        | 2, _ => exact e2.symm
        | 3, _ => exact e3.symm
      rw [this]; exact hk
  · intro s h k
    refine ⟨fun h => absurd (dt h) (by omega), fun _ => ?_⟩
    show Cl.ofL l = s
    exact Cl.ext_words fun j hj => by rw [h j hj, if_pos hj]
  · intro j hj
    simp [Cl.word]
theorem ofL_set {l : List Bool} {f : Nat → Bool} (h : ∀ n, n < 256 → l[n]? = some (f n)) : Cl.ofL l = Cl.of f := by
  apply Cl.ext
  intro c hc
  rw [has_ofL hc, Cl.of_has _ hc]
  simp [List.getD, h c hc]
theorem ref01_Row_in {f t : Int} (hf : InR .u8 f) (ht : InR .u8 t) : ref01_Row f t (Cl.row f t) := by
  obtain ⟨f, hf1, rfl⟩ := u8_of hf
  obtain ⟨t, ht1, rfl⟩ := u8_of ht
  refine run (P := fun k (s : List Bool × Int) => ref01_Row.l1 (t : Int) _ k s.1 s.2)
    (fun s => s.1.length = 256 ∧ ∃ i : Nat, s.2 = i ∧ f ≤ i ∧ (i ≤ t + 1 ∨ i = f) ∧ ∀ n, n < 256 → s.1[n]? = some (decide (f ≤ n) && decide (n < i))) (fun s => 257 - s.2.toNat) ?_ (List.replicate 256 false, (f : Int)) ?_
  · rintro ⟨l, i'⟩ ⟨hl, i, hi, h1, h2, h3⟩
    simp only at hl hi h3
    subst hi
    by_cases hc : i ≤ t
    · refine .inr ⟨(l.set i true, ((i + 1 : Nat) : Int)), ⟨by simpa using hl, i + 1, rfl, by omega, by omega, fun n hn => ?_⟩, ?_, fun k h => ⟨fun _ => ⟨l[i]'(by omega), by rw [at_nat]; exact List.getElem?_eq_getElem (by show i < l.length; omega), i64_of (by simp only; omega) (by simp only; omega), ?_⟩, fun h => absurd (by show (i : Int) ≤ (t : Int); omega) (df h)⟩⟩
      · simp only [List.getElem?_set]
        split
        · rename_i e; subst e; simp [show i < l.length by omega, h1]
        · rename_i e
          rw [h3 n hn]; congr 2; apply decide_eq_decide.2; omega
      · simp only [Int.toNat_natCast]; omega
      · simpa using h
    · refine .inl fun k => ⟨fun h => absurd (dt h) (by simp only; omega), fun _ => ⟨Cl.ofL l, ref01_Of_in hl, ?_⟩⟩
      rw [ofL_set h3]
      apply Cl.ext
      intro c hc2
      rw [has_row hc2, Cl.of_has _ hc2]
      by_cases e : f ≤ c
      · have e3 : (decide (c < i) : Bool) = decide (c ≤ t) := decide_eq_decide.2 (by omega)
        rw [e3]
        congr 1
        · apply decide_eq_decide.2; omega
        · apply decide_eq_decide.2; omega
      · rw [decide_eq_false (show ¬ (f : Int) ≤ (c : Int) by omega), decide_eq_false e]
        simp
  · refine ⟨List.length_replicate, f, rfl, Nat.le_refl _, by omega, fun n hn => ?_⟩
    show (List.replicate 256 false)[n]? = _
    rw [List.getElem?_replicate, if_pos hn]
    by_cases e : f ≤ n
    · simp [show ¬ n < f by omega]
    · simp [e]
end Go.Proofs.YtdidjelkkanenaaDoor.V
namespace Go.Proofs.YtdidjelkkanenaaDoor.V
open Go
set_option linter.unusedVariables false
def readF (d : List SNode) (s : List SItem) (c : Int) : List SItem × Bool :=
  match s with
  | [] => ([], false)
  | x :: rest =>
    if (lowF rest).2 = false then ([], false)
    else match at? d x.2.1 with
      | none => ([], false)
      | some n =>
        if x.1 = 3 then (if byte? n.2.2.2.2.2.2 x.2.2.1 = some c then ((if x.2.2.1 + 1 < (n.2.2.2.2.2.2.length : Int) then [(3, x.2.1, x.2.2.1 + 1, 0)] else []) ++ (lowF rest).1, true) else ([], false))
        else if x.1 = 4 then ([(1, n.2.1, 0, 0), (5, 0, 256 * x.2.2.1 + c, 0)] ++ (lowF rest).1, true)
        else if n.1 = 8 then ([(1, n.2.1, 0, 0), (5, 0, c, 0)] ++ (lowF rest).1, true)
        else if n.1 = 9 then ([(4, x.2.1, c, 0)] ++ (lowF rest).1, true)
        else if n.2.2.2.2.2.1.has c.toNat = true then ((lowF rest).1, true) else ([], false)
theorem lowF_len (s : List SItem) : (lowF s).1.length ≤ s.length := by unfold lowF; split <;> simp
theorem readF_len (d : List SNode) (s : List SItem) (c : Int) : (readF d s c).1.length ≤ s.length + 1 := by
  cases s with
  | nil => simp [readF]
  | cons x rest =>
    have := lowF_len rest
    unfold readF
    simp only
    split
    · simp
    · cases at? d x.2.1 with
      | none => simp
      | some n =>
        simp only [List.length_cons]
        split
        · split
          · split <;> simp <;> omega
          · simp
        · split
          · simp; omega
          · split
            · simp; omega
            · split
              · simp; omega
              · split <;> simp; omega
theorem itR_form {d : List SNode} (hd : ROk d) (hl : d.length ≤ 1000) (ht : ∀ n ∈ d, n.2.2.2.2.2.2.length ≤ 140737488351232) {x : SItem} (hx : formI d x = true) : ItR x := by
  unfold formI at hx
  split at hx
  · rename_i h5
    simp only [Bool.and_eq_true, beq_iff_eq, decide_eq_true_eq] at hx
    exact ⟨i64_of (by omega) (by omega), i64_of (by omega) (by omega), i64_of (by omega) (by omega), i64_of (by omega) (by omega)⟩
  · cases hn : at? d x.2.1 with
    | none => rw [hn] at hx; cases hx
    | some n =>
      rw [hn] at hx
      have hb := at_bound hn
      have hm : n ∈ d := by
        obtain ⟨k, _, hk⟩ := at_nn hn
        exact List.mem_of_getElem? hk
      have htn := ht n hm
      simp only at hx
      split at hx
      · rename_i h1
        simp only [Bool.and_eq_true, beq_iff_eq] at hx
        exact ⟨i64_of (by omega) (by omega), i64_of (by omega) (by omega), i64_of (by omega) (by omega), i64_of (by omega) (by omega)⟩
      · split at hx
        · rename_i h2
          simp only [Bool.and_eq_true, beq_iff_eq, decide_eq_true_eq] at hx
          have := hd.rep _ n hn hx.1.1.1
          exact ⟨i64_of (by omega) (by omega), i64_of (by omega) (by omega), i64_of (by omega) (by omega), i64_of (by omega) (by omega)⟩
        · split at hx
          · rename_i h3
            simp only [Bool.and_eq_true, beq_iff_eq, decide_eq_true_eq] at hx
            exact ⟨i64_of (by omega) (by omega), i64_of (by omega) (by omega), i64_of (by omega) (by omega), i64_of (by omega) (by omega)⟩
          · split at hx
            · rename_i h4
              simp only [Bool.and_eq_true, beq_iff_eq, decide_eq_true_eq] at hx
              exact ⟨i64_of (by omega) (by omega), i64_of (by omega) (by omega), i64_of (by omega) (by omega), i64_of (by omega) (by omega)⟩
            · cases hx
theorem itR_all {d : List SNode} (hd : ROk d) (hl : d.length ≤ 1000) (ht : ∀ n ∈ d, n.2.2.2.2.2.2.length ≤ 140737488351232) {s : List SItem} (hs : formS d s = true) : ∀ x ∈ s, ItR x := by
  intro x hx
  unfold formS at hs
  rw [List.all_eq_true] at hs
  exact itR_form hd hl ht (hs x hx)
theorem rdy_kind {d : List SNode} {x : SItem} {rest : List SItem} (hf : formS d (x :: rest) = true) (hr : rdy d (x :: rest) = true) : ∃ n, at? d x.2.1 = some n ∧ n ∈ d ∧ ((x.1 = 1 ∧ (n.1 = 2 ∨ n.1 = 8 ∨ n.1 = 9)) ∨ (x.1 = 3 ∧ n.1 = 3 ∧ x.2.2.2 = 0 ∧ 0 ≤ x.2.2.1 ∧ x.2.2.1 < (n.2.2.2.2.2.2.length : Int)) ∨ (x.1 = 4 ∧ n.1 = 9 ∧ 0 ≤ x.2.2.1 ∧ x.2.2.1 ≤ 255)) := by
  have hx := (form_cons hf).1
  have h5 : x.1 ≠ 5 := fun h => by simp [rdy, h] at hr
  obtain ⟨n, hn, _⟩ := form_node hx h5
  have hm : n ∈ d := by
    obtain ⟨k, _, hk⟩ := at_nn hn
    exact List.mem_of_getElem? hk
  refine ⟨n, hn, hm, ?_⟩
  unfold formI at hx
  rw [if_neg h5, hn] at hx
  simp only [rdy, hn, Bool.or_eq_true, beq_iff_eq, Bool.and_eq_true] at hr
  simp only at hx
  rcases hr with (h3 | h4) | ⟨h1, h2⟩
  · rw [if_neg (by omega), if_neg (by omega), if_pos h3] at hx
    simp only [Bool.and_eq_true, beq_iff_eq, decide_eq_true_eq] at hx
    exact .inr (.inl ⟨h3, hx.1.1.1, hx.1.1.2, hx.1.2, hx.2⟩)
  · rw [if_neg (by omega), if_neg (by omega), if_neg (by omega), if_pos h4] at hx
    simp only [Bool.and_eq_true, beq_iff_eq, decide_eq_true_eq] at hx
    exact .inr (.inr ⟨h4, hx.1.1.1, hx.1.2, hx.2⟩)
  · exact .inl ⟨h1, by omega⟩
theorem byte_at {s : Str} {i : Int} (h0 : 0 ≤ i) (h1 : i < (s.length : Int)) : ∃ c, byte? s i = some c ∧ InR .u8 c := by
  obtain ⟨x, hx, _⟩ := at_in h0 h1
  refine ⟨(x.toNat : Int), by unfold byte?; rw [hx]; rfl, inR_u8.2 ⟨by omega, ?_⟩⟩
  have := x.toNat_lt
  omega
theorem next_Read_in {d : List SNode} (hd : ROk d) (hl : d.length ≤ 1000) (ht : ∀ n ∈ d, n.2.2.2.2.2.2.length ≤ 140737488351232) {s : List SItem} (hs : s.length ≤ 1000) (hf : formS d s = true) (hr : rdy d s = true) {c : Int} (hc : InR .u8 c) : next_Read d s c (readF d s c) := by
  cases s with
  | nil => exact ⟨fun _ => rfl, fun h => by simp at h⟩
  | cons x rest =>
    have hls : rest.length ≤ 1000 := by simp at hs; omega
    have hcr := inR_u8.1 hc
    obtain ⟨n, hn, hm, hk⟩ := rdy_kind hf hr
    have htn := ht n hm
    have hlow := item_Lower_in hls (itR_all hd hl ht (form_cons hf).2)
    have hlen := lowF_len rest
    refine ⟨fun h => by simp at h; omega, fun _ => ⟨⟨by omega, by simp; omega⟩, lowF rest, hlow, x, rfl, fun hb => ?_, fun hb => ⟨x, rfl, n, hn, x, rfl, ?_⟩⟩⟩
    · have hmh : mhas gfmS x.1 = true := by rcases hk with ⟨h, _⟩ | ⟨h, _⟩ | ⟨h, _⟩ <;> rw [h] <;> rfl
      rw [hmh] at hb
      simp only [Bool.not_true, Bool.or_false, Bool.not_eq_true'] at hb
      unfold readF
      simp only
      rw [if_pos hb]
    · simp only [Bool.or_eq_false_iff, Bool.not_eq_false'] at hb
      have hb1 : ¬ (lowF rest).2 = false := by rw [hb.1]; simp
      have cat : ∀ l : List SItem, l.length ≤ 2 → slices_Concat_api_State_api_Item [l, (lowF rest).1] (l ++ (lowF rest).1) := fun l h => concat2_in (by omega) (by omega)
      rcases hk with ⟨h1, h2⟩ | ⟨h3, h4, h5, h6, h7⟩ | ⟨h4, h9, h6, h7⟩
      · -- a node
        have e1 : mget gfmS x.1 none = mget gfmS 1 none := by rw [h1]
        rw [e1]
        rcases h2 with h2 | h2 | h2
        · by_cases hh : n.2.2.2.2.2.1.has c.toNat = true
          · have hrd : readF d (x :: rest) c = ([] ++ (lowF rest).1, true) := by
              unfold readF; simp only [hn]; rw [if_neg hb1, if_neg (by omega), if_neg (by omega), if_neg (by omega), if_neg (by omega), if_pos hh]; rfl
            rw [hrd]
            refine ⟨([], true), .inl ⟨rfl, fun h => by simp [h2] at h, fun _ => ⟨fun h => by simp [h2] at h, fun _ => ⟨_, class_Has_u8 hc, by rw [hh]⟩⟩⟩, fun h => by simp at h, fun _ => ⟨_, cat [] (by simp), rfl⟩⟩
          · have hh' : n.2.2.2.2.2.1.has c.toNat = false := by simpa using hh
            have hrd : readF d (x :: rest) c = ([], false) := by
              unfold readF; simp only [hn]; rw [if_neg hb1, if_neg (by omega), if_neg (by omega), if_neg (by omega), if_neg (by omega), if_neg hh]
            rw [hrd]
            exact ⟨([], false), .inl ⟨rfl, fun h => by simp [h2] at h, fun _ => ⟨fun h => by simp [h2] at h, fun _ => ⟨_, class_Has_u8 hc, by rw [hh']⟩⟩⟩, fun _ => rfl, fun h => by simp at h⟩
        · have hrd : readF d (x :: rest) c = ([(1, n.2.1, 0, 0), (5, 0, c, 0)] ++ (lowF rest).1, true) := by
            unfold readF; simp only [hn]; rw [if_neg hb1, if_neg (by omega), if_neg (by omega), if_pos h2]
          rw [hrd]
          exact ⟨([(1, n.2.1, 0, 0), (5, 0, c, 0)], true), .inl ⟨rfl, fun _ => ⟨_, rfl, rfl⟩, fun h => by simp [h2] at h⟩, fun h => by simp at h, fun _ => ⟨_, cat _ (by simp), rfl⟩⟩
        · have hrd : readF d (x :: rest) c = ([(4, x.2.1, c, 0)] ++ (lowF rest).1, true) := by
            unfold readF; simp only [hn]; rw [if_neg hb1, if_neg (by omega), if_neg (by omega), if_neg (by omega), if_pos h2]
          rw [hrd]
          exact ⟨([(4, x.2.1, c, 0)], true), .inl ⟨rfl, fun h => by simp [h2] at h, fun _ => ⟨fun _ => rfl, fun h => by simp [h2] at h⟩⟩, fun h => by simp at h, fun _ => ⟨_, cat _ (by simp), rfl⟩⟩
      · -- a text
        have e1 : mget gfmS x.1 none = mget gfmS 3 none := by rw [h3]
        rw [e1]
        obtain ⟨b, hb2, _⟩ := byte_at h6 h7
        obtain ⟨xk, xi, xl, xh⟩ := x
        simp only at h3 h5 h6 h7 hb2 hn
        subst h3; subst h5
        by_cases hbc : b = c
        · subst hbc
          by_cases hlast : xl + 1 < (n.2.2.2.2.2.2.length : Int)
          · have hrd : readF d ((3, xi, xl, 0) :: rest) b = ([(3, xi, xl + 1, 0)] ++ (lowF rest).1, true) := by
              unfold readF; simp only [hn]; rw [if_neg hb1, if_pos trivial, if_pos hb2, if_pos hlast]
            rw [hrd]
            refine ⟨([(3, xi, xl + 1, 0)], true), .inr (.inl ⟨rfl, i64_of (by show _ ≤ xl + 1; omega) (by show xl + 1 ≤ _; omega), _, rfl, fun h => ?_, fun _ => ⟨b, hb2, by simp⟩⟩), fun h => by simp at h, fun _ => ⟨_, cat _ (by simp), rfl⟩⟩
            simp at h; omega
          · have hrd : readF d ((3, xi, xl, 0) :: rest) b = ([] ++ (lowF rest).1, true) := by
              unfold readF; simp only [hn]; rw [if_neg hb1, if_pos trivial, if_pos hb2, if_neg hlast]
            rw [hrd]
            refine ⟨([], true), .inr (.inl ⟨rfl, i64_of (by show _ ≤ xl + 1; omega) (by show xl + 1 ≤ _; omega), _, rfl, fun _ => ⟨b, hb2, by simp⟩, fun h => ?_⟩), fun h => by simp at h, fun _ => ⟨_, cat _ (by simp), rfl⟩⟩
            simp at h; omega
        · have hne : ¬ byte? n.2.2.2.2.2.2 xl = some c := by rw [hb2]; simpa using hbc
          have hrd : readF d ((3, xi, xl, 0) :: rest) c = ([], false) := by
            unfold readF; simp only [hn]; rw [if_neg hb1, if_pos trivial, if_neg hne]
          rw [hrd]
          have hbeq : (b == c) = false := by simpa using hbc
          by_cases hlast : xl + 1 = (n.2.2.2.2.2.2.length : Int)
          · refine ⟨([], false), .inr (.inl ⟨rfl, i64_of (by show _ ≤ xl + 1; omega) (by show xl + 1 ≤ _; omega), _, rfl, fun _ => ⟨b, hb2, by rw [hbeq]⟩, fun h => ?_⟩), fun _ => rfl, fun h => by simp at h⟩
            simp at h; omega
          · refine ⟨([(3, xi, xl + 1, 0)], false), .inr (.inl ⟨rfl, i64_of (by show _ ≤ xl + 1; omega) (by show xl + 1 ≤ _; omega), _, rfl, fun h => ?_, fun _ => ⟨b, hb2, by rw [hbeq]⟩⟩), fun _ => rfl, fun h => by simp at h⟩
            simp at h; omega
      · -- half a number
        have e1 : mget gfmS x.1 none = mget gfmS 4 none := by rw [h4]
        rw [e1]
        have hrd : readF d (x :: rest) c = ([(1, n.2.1, 0, 0), (5, 0, 256 * x.2.2.1 + c, 0)] ++ (lowF rest).1, true) := by
          unfold readF; simp only [hn]; rw [if_neg hb1, if_neg (by omega), if_pos h4]
        rw [hrd]
        exact ⟨([(1, n.2.1, 0, 0), (5, 0, 256 * x.2.2.1 + c, 0)], true), .inr (.inr ⟨rfl, i64_of (by show _ ≤ 256 * x.2.2.1; omega) (by show 256 * x.2.2.1 ≤ _; omega), i64_of (by show _ ≤ 256 * x.2.2.1 + c; omega) (by show 256 * x.2.2.1 + c ≤ _; omega), _, rfl, rfl⟩), fun h => by simp at h, fun _ => ⟨_, cat _ (by simp), rfl⟩⟩
theorem ref15_Read_in {d : List SNode} (hd : ROk d) (hl : d.length ≤ 1000) (ht : ∀ n ∈ d, n.2.2.2.2.2.2.length ≤ 140737488351232) {s : List SItem} (hs : s.length ≤ 1000) (hf : formS d s = true) (hr : rdy d s = true) {c : Int} (hc : InR .u8 c) : ref15_Read d s c (readF d s c) := by
  cases s with
  | nil => exact ⟨fun _ => rfl, fun h => by simp at h⟩
  | cons x rest =>
    have hls : rest.length ≤ 1000 := by simp at hs; omega
    have hcr := inR_u8.1 hc
    obtain ⟨n, hn, hm, hk⟩ := rdy_kind hf hr
    have htn := ht n hm
    have hlow := ref13_Lower_in hls (itR_all hd hl ht (form_cons hf).2)
    have hlen := lowF_len rest
    refine ⟨fun h => by simp at h; omega, fun _ => ⟨⟨by omega, by simp; omega⟩, lowF rest, hlow, fun hb => ?_, fun hb => ⟨x, rfl, n, hn, ?_⟩⟩⟩
    · simp only [Bool.not_eq_true'] at hb
      unfold readF
      simp only
      rw [if_pos hb]
    · simp only [Bool.not_eq_false'] at hb
      have hb1 : ¬ (lowF rest).2 = false := by rw [hb]; simp
      rcases hk with ⟨h1, h2⟩ | ⟨h3, h4, h5, h6, h7⟩ | ⟨h4, h9, h6, h7⟩
      · refine ⟨fun h => by simp [h1] at h, fun _ => ⟨fun h => by simp [h1] at h, fun _ => ?_⟩⟩
        rcases h2 with h2 | h2 | h2
        · refine ⟨fun h => by simp [h2] at h, fun _ => ⟨fun h => by simp [h2] at h, fun _ => ⟨_, ref01_Has_u8 hc, fun hh => ?_, fun hh => ⟨by simp; omega, ?_⟩⟩⟩⟩
          · have hh' : ¬ n.2.2.2.2.2.1.has c.toNat = true := by simpa using hh
            unfold readF; simp only [hn]; rw [if_neg hb1, if_neg (by omega), if_neg (by omega), if_neg (by omega), if_neg (by omega), if_neg hh']
          · have hh' : n.2.2.2.2.2.1.has c.toNat = true := by simpa using hh
            unfold readF; simp only [hn]; rw [if_neg hb1, if_neg (by omega), if_neg (by omega), if_neg (by omega), if_neg (by omega), if_pos hh']; rfl
        · refine ⟨fun _ => ⟨by simp; omega, ?_⟩, fun h => by simp [h2] at h⟩
          unfold readF; simp only [hn]; rw [if_neg hb1, if_neg (by omega), if_neg (by omega), if_pos h2]
        · refine ⟨fun h => by simp [h2] at h, fun _ => ⟨fun _ => ⟨by simp; omega, ?_⟩, fun h => by simp [h2] at h⟩⟩
          unfold readF; simp only [hn]; rw [if_neg hb1, if_neg (by omega), if_neg (by omega), if_neg (by omega), if_pos h2]
      · obtain ⟨b, hb2, _⟩ := byte_at h6 h7
        refine ⟨fun _ => ⟨b, hb2, fun hbc => ?_, fun hbc => ⟨i64_of (by omega) (by omega), _, rfl, fun hl2 => ⟨i64_of (by omega) (by omega), by simp; omega, ?_⟩, fun hl2 => ⟨by simp; omega, ?_⟩⟩⟩, fun h => by simp [h3] at h⟩
        · have hne : ¬ byte? n.2.2.2.2.2.2 x.2.2.1 = some c := by rw [hb2]; simpa using hbc
          unfold readF; simp only [hn]; rw [if_neg hb1, if_pos h3, if_neg hne]
        · have he : byte? n.2.2.2.2.2.2 x.2.2.1 = some c := by rw [hb2]; simpa using hbc
          unfold readF; simp only [hn]; rw [if_neg hb1, if_pos h3, if_pos he, if_pos (dt hl2)]
        · have he : byte? n.2.2.2.2.2.2 x.2.2.1 = some c := by rw [hb2]; simpa using hbc
          unfold readF; simp only [hn]; rw [if_neg hb1, if_pos h3, if_pos he, if_neg (df hl2)]
      · refine ⟨fun h => by simp [h4] at h, fun _ => ⟨fun _ => ⟨i64_of (by omega) (by omega), i64_of (by omega) (by omega), by simp; omega, ?_⟩, fun h => by simp [h4] at h⟩⟩
        unfold readF; simp only [hn]; rw [if_neg hb1, if_neg (by omega), if_pos h4]
end Go.Proofs.YtdidjelkkanenaaDoor.V
namespace Go.Proofs.YtdidjelkkanenaaDoor.V
open Go
set_option linter.unusedVariables false
def movN (c : Int) (n : SNode) : SNode := (n.1, if 4 ≤ n.1 then n.2.1 + c else n.2.1, if n.1 = 4 ∨ n.1 = 5 then n.2.2.1 + c else n.2.2.1, n.2.2.2.1, n.2.2.2.2.1, n.2.2.2.2.2.1, n.2.2.2.2.2.2)
def movL (c : Int) (l : List SNode) : List SNode := l.map (movN c)
theorem movL_len (c : Int) (l : List SNode) : (movL c l).length = l.length := List.length_map ..
theorem moved_in {l : List SNode} {c : Int} (hl : l.length ≤ 1000) (hr : ∀ n ∈ l, InR .i64 (n.2.1 + c) ∧ InR .i64 (n.2.2.1 + c)) : ref04_moved l c (movL c l) := by
  refine upto (P := fun k (o : List SNode) v => ref04_moved.l1 l c _ k o v) l.length (fun i o => o = movL c (l.take i)) ?_ ?_ [] (by simp [movL])
  · rintro i o hi rfl
    have hat : at? l (i : Int) = some l[i] := by rw [at_nat]; simp [hi]
    obtain ⟨r1, r2⟩ := hr _ (List.getElem_mem hi)
    have e : movL c (l.take (i + 1)) = movL c (l.take i) ++ [movN c l[i]] := by
      unfold movL
      rw [List.take_succ_eq_append_getElem hi, List.map_append]; rfl
    have hll : (movL c (l.take i)).length = i := by rw [movL_len]; simp; omega
    refine .inr ⟨_, rfl, fun k hk => ⟨fun _ => ⟨l[i], hat, ?_⟩, fun h => absurd (by omega) (df h)⟩⟩
    rw [e] at hk
    have last : ∀ w : SNode, w = movN c l[i] → ref04_moved.j2 (ref04_moved.l1 l c (ref04_moved.j1 (movL c l)) k) (movL c (l.take i)) (i : Int) w := by
      rintro w rfl
      exact ⟨by rw [hll]; simp; omega, i64_of (by omega) (by omega), hk⟩
    generalize l[i] = n at *
    obtain ⟨k0, a, b, lo, hi2, cl, tx⟩ := n
    simp only at r1 r2
    refine ⟨fun h4 => ⟨r1, fun h5 => ⟨r2, last _ ?_⟩, fun h5 => last _ ?_⟩, fun h4 => ⟨fun h5 => ?_, fun h5 => last _ ?_⟩⟩
    · have := dt h4
      simp only at this
      simp only [Bool.or_eq_true, beq_iff_eq] at h5
      simp only [movN, if_pos this, if_pos h5]
    · have := dt h4
      simp only at this
      simp only [Bool.or_eq_false_iff, beq_eq_false_iff_ne] at h5
      have h5' : ¬ (k0 = 4 ∨ k0 = 5) := by omega
      simp only [movN, if_pos this, if_neg h5']
    · exfalso
      have := df h4
      simp only at this
      simp only [Bool.or_eq_true, beq_iff_eq] at h5
      omega
    · have := df h4
      simp only at this
      have h5' : ¬ (k0 = 4 ∨ k0 = 5) := by omega
      simp only [movN, if_neg this, if_neg h5']
  · rintro o rfl k
    refine ⟨fun h => absurd (dt h) (by omega), fun _ => ?_⟩
    show movL c l = movL c (l.take l.length)
    rw [List.take_length]
theorem movN_zero (n : SNode) : movN 0 n = n := by
  obtain ⟨k, a, b, r⟩ := n
  simp [movN]
theorem movL_zero (l : List SNode) : movL 0 l = l := by
  unfold movL
  rw [show movN 0 = id from funext movN_zero, List.map_id]
def pairD (k : Int) (a b : List SNode) : List SNode := (a ++ movL (a.length : Int) b) ++ [(k, (a.length : Int) - 1, ((a.length : Int) + (b.length : Int)) - 1, 0, 0, (0#256), ([] : Str))]
def wrapD (k : Int) (a : List SNode) : List SNode := a ++ [(k, (a.length : Int) - 1, 0, 0, 0, (0#256), ([] : Str))]
structure Sma (d : List SNode) : Prop where
  a : ∀ n ∈ d, 0 ≤ n.2.1 ∧ n.2.1 ≤ (d.length : Int)
  b : ∀ n ∈ d, 0 ≤ n.2.2.1 ∧ n.2.2.1 ≤ (d.length : Int)
theorem Tr.parts {l : List SNode} {f i : Int} (h : Tr l f i) {n : SNode} (hn : at? l i = some n) : (0 ≤ n.2.1 ∧ n.2.1 ≤ i) ∧ (0 ≤ n.2.2.1 ∧ n.2.2.1 ≤ i) := by
  have hb := at_bound hn
  cases h with
  | leaf he hk hx h0 => rw [hn] at he; cases he; omega
  | one he hk ha hb hr h => rw [hn] at he; cases he; have := h.le; omega
  | two he hk ha hb h1 h2 => rw [hn] at he; cases he; have := h1.le; have := h2.le; omega
theorem mem_at {α : Type} {l : List α} {x : α} (h : x ∈ l) : ∃ i : Int, at? l i = some x := by
  obtain ⟨i, hi, e⟩ := List.mem_iff_getElem.1 h
  exact ⟨(i : Int), by rw [at_nat]; simp [hi, e]⟩
theorem Tr.sma {d : List SNode} (h : Tr d 0 ((d.length : Int) - 1)) : Sma d := by
  constructor
  all_goals
    intro n hn
    obtain ⟨i, hi⟩ := mem_at hn
    obtain ⟨g, hg⟩ := h.at hi
    have := hg.parts hi
    have := at_bound hi
    omega
theorem moved_ok {d : List SNode} (h : Tr d 0 ((d.length : Int) - 1)) (hl : d.length ≤ 1000) {c : Int} (h0 : 0 ≤ c) (h1 : c ≤ 1000) : ref04_moved d c (movL c d) :=
  moved_in hl fun n hn => by
    have := h.sma.a n hn
    have := h.sma.b n hn
    exact ⟨i64_of (by omega) (by omega), i64_of (by omega) (by omega)⟩
theorem Pair_in {k : Int} {a b : List SNode} (ha : Tr a 0 ((a.length : Int) - 1)) (hb : Tr b 0 ((b.length : Int) - 1)) (la : a.length ≤ 1000) (lb : b.length ≤ 1000) : ref04_Pair k a b (pairD k a b) := by
  refine ⟨_, moved_ok ha la (Int.le_refl 0) (by omega), _, moved_ok hb lb (c := (a.length : Int)) (by omega) (by omega), by rw [movL_len, movL_len]; omega, i64_of (by omega) (by omega), i64_of (by omega) (by omega), i64_of (by omega) (by omega), by rw [List.length_append, movL_len, movL_len]; simp; omega, ?_⟩
  rw [movL_zero]; rfl
theorem Wrap_in {k : Int} {a : List SNode} (ha : Tr a 0 ((a.length : Int) - 1)) (la : a.length ≤ 1000) : ref04_Wrap k 0 0 a (wrapD k a) := by
  refine ⟨_, moved_ok ha la (Int.le_refl 0) (by omega), i64_of (by omega) (by omega), by rw [movL_len]; simp; omega, ?_⟩
  rw [movL_zero]; rfl
structure Emb (l l' : List SNode) (c : Int) : Prop where
  nn : 0 ≤ c
  at' : ∀ i n, at? l i = some n → at? l' (i + c) = some (movN c n)
theorem Tr.emb {l l' : List SNode} {c : Int} (h : Emb l l' c) {f i : Int} (t : Tr l f i) : Tr l' (f + c) (i + c) := by
  induction t with
  | leaf he hk hx h0 =>
    rename_i i e
    have e1 : movN c e = e := by
      obtain ⟨k, a, b, r⟩ := e
      simp only at hk
      simp only [movN, if_neg (show ¬ 4 ≤ k by omega), if_neg (show ¬ (k = 4 ∨ k = 5) by omega)]
    exact .leaf (e1 ▸ h.at' _ _ he) hk hx h0
  | one he hk ha hb hr t ih =>
    rename_i f i e
    refine .one (h.at' _ _ he) hk ?_ ?_ hr (by have e : i - 1 + c = i + c - 1 := by omega
                                               rw [← e]; exact ih)
    · simp only [movN]; rw [if_pos (by omega)]; omega
    · simp only [movN]; rw [if_neg (by omega)]; exact hb
  | two he hk ha hb t1 t2 i1 i2 =>
    rename_i f p i e
    refine .two (p := p + c) (h.at' _ _ he) hk ?_ ?_ (by have e : i - 1 + c = i + c - 1 := by omega
                                                         rw [← e]; exact i1) (by have e : p - 1 + c = p + c - 1 := by omega
                                                                                 rw [← e]; exact i2)
    · simp only [movN]; rw [if_pos (by omega)]; omega
    · simp only [movN]; rw [if_pos (by omega)]; omega
theorem Emb.get {l l' : List SNode} {c : Int} (h : Emb l l' c) {i : Int} {n : SNode} (hn : at? l i = some n) : ∃ m, at? l' (i + c) = some m ∧ m.1 = n.1 ∧ (4 ≤ n.1 → m.2.1 = n.2.1 + c) ∧ (n.1 = 4 ∨ n.1 = 5 → m.2.2.1 = n.2.2.1 + c) ∧ m.2.2.2.1 = n.2.2.2.1 ∧ m.2.2.2.2.1 = n.2.2.2.2.1 :=
  ⟨movN c n, h.at' _ _ hn, rfl, fun h => if_pos h, fun h => if_pos h, rfl, rfl⟩
theorem nz_emb {l l' : List SNode} {c : Int} (h : Emb l l' c) (hl : NOk l) (hl' : NOk l') : ∀ (k : Nat) (i : Int) (n : SNode), i < (k : Int) → at? l i = some n → nz l' (i + c) = nz l i
  | 0, i, n, hi, hn => by have := at_bound hn; omega
  | k + 1, i, n, hi, hn => by
    have ih := nz_emb h hl hl' k
    obtain ⟨m, hm, f1, f2, f3, f4, f5⟩ := h.get hn
    rw [nz_atN hl hn, nz_atN hl' hm, f1, f4]
    by_cases h1 : n.1 = 1
    · rw [if_pos h1, if_pos h1]
    · rw [if_neg h1, if_neg h1]
      by_cases h4 : n.1 = 4
      · obtain ⟨⟨a, b⟩, c', e⟩ := hl.two _ n hn (.inl h4)
        obtain ⟨m1, hm1⟩ := at_lt hn a b
        obtain ⟨m2, hm2⟩ := at_lt hn c' e
        rw [if_pos h4, if_pos h4, f2 (by omega), f3 (.inl h4), ih _ m1 (by omega) hm1, ih _ m2 (by omega) hm2]
      · rw [if_neg h4, if_neg h4]
        by_cases h5 : n.1 = 5
        · obtain ⟨⟨a, b⟩, c', e⟩ := hl.two _ n hn (.inr h5)
          obtain ⟨m1, hm1⟩ := at_lt hn a b
          obtain ⟨m2, hm2⟩ := at_lt hn c' e
          rw [if_pos h5, if_pos h5, f2 (by omega), f3 (.inr h5), ih _ m1 (by omega) hm1, ih _ m2 (by omega) hm2]
        · rw [if_neg h5, if_neg h5]
          by_cases h6 : n.1 = 6
          · rw [if_pos h6, if_pos h6]
          · rw [if_neg h6, if_neg h6]
            by_cases h7 : n.1 = 7
            · obtain ⟨a, b⟩ := hl.one _ n hn (.inr (.inl h7))
              obtain ⟨m1, hm1⟩ := at_lt hn a b
              rw [if_pos h7, if_pos h7, f2 (by omega), ih _ m1 (by omega) hm1]
            · rw [if_neg h7, if_neg h7]
def shI (c : Int) (x : SItem) : SItem := (x.1, x.2.1 + c, x.2.2.1, x.2.2.2)
def shS (c : Int) (s : List SItem) : List SItem := s.map (shI c)
theorem map_app_sh (c : Int) (L : List (List SItem)) (x : SItem) : (L.map (shS c)).map (· ++ [shI c x]) = (L.map (· ++ [x])).map (shS c) := by
  rw [List.map_map, List.map_map]
  exact List.map_congr_left fun s _ => by simp [shS]
theorem rep_sh (c : Int) (m : Nat) (L : List (List SItem)) : (List.replicate m (L.map (shS c))).flatten = ((List.replicate m L).flatten).map (shS c) := (rep_map _ _ _).symm
theorem PM_emb {l l' : List SNode} {c : Int} (h : Emb l l' c) (hl : ROk l) (hl' : ROk l') : ∀ (k : Nat) (i : Int) (n : SNode), i < (k : Int) → at? l i = some n → pm l' (i + c) = (pm l i).map (shS c) ∧ nw l' (i + c) = nw l i
  | 0, i, n, hi, hn => by have := at_bound hn; omega
  | k + 1, i, n, hi, hn => by
    have ih := PM_emb h hl hl' k
    have e1 : pm l i = (PM l l.length i).1 := rfl
    have e2 : nw l i = (PM l l.length i).2 := rfl
    have e3 : pm l' (i + c) = (PM l' l'.length (i + c)).1 := rfl
    have e4 : nw l' (i + c) = (PM l' l'.length (i + c)).2 := rfl
    obtain ⟨m, hm, f1, f2, f3, f4, f5⟩ := h.get hn
    rw [e1, e2, e3, e4, PM_at hl hn, PM_at hl' hm, f1, f4, f5]
    by_cases h1 : n.1 = 1
    · rw [if_pos h1, if_pos h1]; exact ⟨rfl, rfl⟩
    · by_cases h3 : n.1 = 3
      · rw [if_neg h1, if_neg h1, if_pos h3, if_pos h3]; exact ⟨rfl, rfl⟩
      · by_cases h4 : n.1 = 4
        · obtain ⟨⟨a, b⟩, c', e⟩ := hl.two _ n hn (.inl h4)
          obtain ⟨m1, hm1⟩ := at_lt hn a b
          obtain ⟨m2, hm2⟩ := at_lt hn c' e
          obtain ⟨p1, q1⟩ := ih _ m1 (by omega) hm1
          obtain ⟨p2, q2⟩ := ih _ m2 (by omega) hm2
          have hx : ((1 : Int), n.2.2.1 + c, (0 : Int), (0 : Int)) = shI c (1, n.2.2.1, 0, 0) := rfl
          rw [f2 (by omega), f3 (.inl h4)]
          rw [if_neg h1, if_neg h3, if_pos h4, if_neg h1, if_neg h3, if_pos h4]
          refine ⟨?_, by simp only; rw [q1, q2]⟩
          simp only
          rw [p1, p2, q1, hx, map_app_sh, rep_sh, List.map_append]
        · by_cases h5 : n.1 = 5
          · obtain ⟨⟨a, b⟩, c', e⟩ := hl.two _ n hn (.inr h5)
            obtain ⟨m1, hm1⟩ := at_lt hn a b
            obtain ⟨m2, hm2⟩ := at_lt hn c' e
            obtain ⟨p1, q1⟩ := ih _ m1 (by omega) hm1
            obtain ⟨p2, q2⟩ := ih _ m2 (by omega) hm2
            rw [f2 (by omega), f3 (.inr h5)]
            rw [if_neg h1, if_neg h3, if_neg h4, if_pos h5, if_neg h1, if_neg h3, if_neg h4, if_pos h5]
            refine ⟨?_, by simp only; rw [q1, q2]⟩
            simp only
            rw [p1, p2, List.map_append]
          · by_cases h6 : n.1 = 6
            · obtain ⟨a, b⟩ := hl.one _ n hn (.inl h6)
              obtain ⟨m1, hm1⟩ := at_lt hn a b
              obtain ⟨p1, q1⟩ := ih _ m1 (by omega) hm1
              have hx : ((1 : Int), i + c, (0 : Int), (0 : Int)) = shI c (1, i, 0, 0) := rfl
              rw [f2 (by omega)]
              rw [if_neg h1, if_neg h3, if_neg h4, if_neg h5, if_pos h6, if_neg h1, if_neg h3, if_neg h4, if_neg h5, if_pos h6]
              refine ⟨?_, rfl⟩
              simp only
              rw [p1, hx, map_app_sh]
            · by_cases h7 : n.1 = 7
              · obtain ⟨a, b⟩ := hl.one _ n hn (.inr (.inl h7))
                obtain ⟨m1, hm1⟩ := at_lt hn a b
                obtain ⟨p1, q1⟩ := ih _ m1 (by omega) hm1
                have hx : ((2 : Int), i + c, max (n.2.2.2.1 - 1) 0, n.2.2.2.2.1 - 1) = shI c (2, i, max (n.2.2.2.1 - 1) 0, n.2.2.2.2.1 - 1) := rfl
                rw [f2 (by omega)]
                rw [if_neg h1, if_neg h3, if_neg h4, if_neg h5, if_neg h6, if_pos h7, if_neg h1, if_neg h3, if_neg h4, if_neg h5, if_neg h6, if_pos h7]
                refine ⟨?_, rfl⟩
                simp only
                split
                · rw [p1, hx, map_app_sh]
                · rfl
              · rw [if_neg h1, if_neg h3, if_neg h4, if_neg h5, if_neg h6, if_neg h7, if_neg h1, if_neg h3, if_neg h4, if_neg h5, if_neg h6, if_neg h7]; exact ⟨rfl, rfl⟩
theorem PM_rng {d : List SNode} (hd : ROk d) : ∀ (k : Nat) (i : Int), i < (k : Int) → ∀ p ∈ pm d i, ∃ x q, p = x :: q ∧ 0 ≤ x.2.1 ∧ x.2.1 < (d.length : Int)
  | 0, i, hi, p, hp => by
    have : at? d i = none := at_none (.inl (by omega))
    unfold pm at hp
    rw [PM_fuel hd d.length 0 i] at hp
    · simp [PM] at hp
    · omega
    · omega
  | k + 1, i, hi, p, hp => by
    have ih := PM_rng hd k
    cases hn : at? d i with
    | none =>
      exfalso
      unfold pm at hp
      cases hdl : d.length with
      | zero => rw [hdl] at hp; simp [PM] at hp
      | succ m => rw [hdl] at hp; simp [PM, hn] at hp
    | some n =>
      have hb := at_bound hn
      have e1 : pm d i = (PM d d.length i).1 := rfl
      rw [e1, PM_at hd hn] at hp
      have app : ∀ (a : Int) (y : SItem), a < i → p ∈ (pm d a).map (· ++ [y]) → ∃ x q, p = x :: q ∧ 0 ≤ x.2.1 ∧ x.2.1 < (d.length : Int) := by
        intro a y ha h
        obtain ⟨q, hq, rfl⟩ := List.mem_map.1 h
        obtain ⟨x, q', rfl, h1, h2⟩ := ih a (by omega) q hq
        exact ⟨x, q' ++ [y], rfl, h1, h2⟩
      by_cases h1 : n.1 = 1
      · simp [h1] at hp
      · by_cases h3 : n.1 = 3
        · simp [h3] at hp
          subst hp
          exact ⟨_, _, rfl, hb⟩
        · by_cases h4 : n.1 = 4
          · obtain ⟨⟨a, b⟩, c', e⟩ := hd.two _ n hn (.inl h4)
            rw [if_neg h1, if_neg h3, if_pos h4] at hp
            rcases List.mem_append.1 hp with hp | hp
            · exact app _ _ b hp
            · obtain ⟨l, hl, hp⟩ := List.mem_flatten.1 hp
              rw [List.mem_replicate.1 hl |>.2] at hp
              exact ih _ (by omega) p hp
          · by_cases h5 : n.1 = 5
            · obtain ⟨⟨a, b⟩, c', e⟩ := hd.two _ n hn (.inr h5)
              rw [if_neg h1, if_neg h3, if_neg h4, if_pos h5] at hp
              rcases List.mem_append.1 hp with hp | hp
              · exact ih _ (by omega) p hp
              · exact ih _ (by omega) p hp
            · by_cases h6 : n.1 = 6
              · obtain ⟨a, b⟩ := hd.one _ n hn (.inl h6)
                rw [if_neg h1, if_neg h3, if_neg h4, if_neg h5, if_pos h6] at hp
                exact app _ _ b hp
              · by_cases h7 : n.1 = 7
                · obtain ⟨a, b⟩ := hd.one _ n hn (.inr (.inl h7))
                  rw [if_neg h1, if_neg h3, if_neg h4, if_neg h5, if_neg h6, if_pos h7] at hp
                  simp only at hp
                  split at hp
                  · exact app _ _ b hp
                  · cases hp
                · rw [if_neg h1, if_neg h3, if_neg h4, if_neg h5, if_neg h6, if_neg h7] at hp
                  rw [List.mem_singleton] at hp
                  subst hp
                  exact ⟨_, _, rfl, hb⟩
theorem at_left {α : Type} {a b : List α} {i : Int} {x : α} (h : at? a i = some x) : at? (a ++ b) i = some x := by
  obtain ⟨k, rfl, hk⟩ := at_nn h
  rw [at_nat, List.getElem?_append_left (List.getElem?_eq_some_iff.1 hk).1]; exact hk
theorem at_right {α : Type} {a b : List α} {i : Int} {x : α} (h : at? b i = some x) : at? (a ++ b) (i + (a.length : Int)) = some x := by
  obtain ⟨k, rfl, hk⟩ := at_nn h
  have e : (k : Int) + (a.length : Int) = ((k + a.length : Nat) : Int) := by omega
  rw [e, at_nat, List.getElem?_append_right (by omega), Nat.add_sub_cancel]; exact hk
theorem at_app {α : Type} {a b : List α} {i : Int} {x : α} (h : at? (a ++ b) i = some x) : at? a i = some x ∨ at? b (i - (a.length : Int)) = some x := by
  obtain ⟨k, rfl, hk⟩ := at_nn h
  rcases Nat.lt_or_ge k a.length with hlt | hge
  · rw [List.getElem?_append_left hlt] at hk
    exact .inl (by rw [at_nat]; exact hk)
  · rw [List.getElem?_append_right hge] at hk
    have e : (k : Int) - (a.length : Int) = ((k - a.length : Nat) : Int) := by omega
    exact .inr (by rw [e, at_nat]; exact hk)
theorem at_one {α : Type} {x y : α} {i : Int} (h : at? [x] i = some y) : i = 0 ∧ y = x := by
  have hb := at_bound h
  simp at hb
  obtain rfl : i = 0 := by omega
  cases h
  exact ⟨rfl, rfl⟩
theorem at_movL {c : Int} {l : List SNode} {i : Int} {n : SNode} (h : at? l i = some n) : at? (movL c l) i = some (movN c n) := by
  obtain ⟨k, rfl, hk⟩ := at_nn h
  rw [at_nat]
  unfold movL
  rw [List.getElem?_map, hk]; rfl
theorem at_movL_inv {c : Int} {l : List SNode} {i : Int} {n : SNode} (h : at? (movL c l) i = some n) : ∃ m, at? l i = some m ∧ n = movN c m := by
  obtain ⟨k, rfl, hk⟩ := at_nn h
  unfold movL at hk
  rw [List.getElem?_map] at hk
  obtain ⟨m, h1, h2⟩ := Option.map_eq_some_iff.1 hk
  exact ⟨m, by rw [at_nat]; exact h1, h2.symm⟩
theorem emb_left {a : List SNode} (r : List SNode) : Emb a (a ++ r) 0 := ⟨Int.le_refl _, fun i n h => by rw [movN_zero, Int.add_zero]; exact at_left h⟩
theorem emb_mid {a b r : List SNode} : Emb b ((a ++ movL (a.length : Int) b) ++ r) (a.length : Int) := ⟨by omega, fun i n h => at_left (at_right (at_movL h))⟩
theorem pair_len (k : Int) (a b : List SNode) : (pairD k a b).length = a.length + b.length + 1 := by simp [pairD, movL_len]; omega
theorem wrap_len (k : Int) (a : List SNode) : (wrapD k a).length = a.length + 1 := by simp [wrapD]
theorem pair_root (k : Int) (a b : List SNode) : at? (pairD k a b) ((a.length : Int) + (b.length : Int)) = some (k, (a.length : Int) - 1, ((a.length : Int) + (b.length : Int)) - 1, 0, 0, (0#256), ([] : Str)) := by
  have := at_right (a := a ++ movL (a.length : Int) b) (b := [(k, (a.length : Int) - 1, ((a.length : Int) + (b.length : Int)) - 1, 0, 0, (0#256), ([] : Str))]) (i := 0) rfl
  rw [List.length_append, movL_len] at this
  have e : (0 : Int) + ((a.length + b.length : Nat) : Int) = (a.length : Int) + (b.length : Int) := by omega
  rw [e] at this
  exact this
theorem wrap_root (k : Int) (a : List SNode) : at? (wrapD k a) (a.length : Int) = some (k, (a.length : Int) - 1, 0, 0, 0, (0#256), ([] : Str)) := by
  have := at_right (a := a) (b := [(k, (a.length : Int) - 1, 0, 0, 0, (0#256), ([] : Str))]) (i := 0) rfl
  rw [Int.zero_add] at this
  exact this
theorem pair_rt {k : Int} {a b : List SNode} (ha : Rt a) (hb : Rt b) (hk : k = 4 ∨ k = 5) : Rt (pairD k a b) := by
  have ea : Emb a (pairD k a b) 0 := by unfold pairD; rw [List.append_assoc]; exact emb_left _
  have eb : Emb b (pairD k a b) (a.length : Int) := emb_mid
  have ta := ha.tr.emb ea
  have tb := hb.tr.emb eb
  have tr : Tr (pairD k a b) 0 (((pairD k a b).length : Int) - 1) := by
    have e : (((pairD k a b).length : Int) - 1) = (a.length : Int) + (b.length : Int) := by rw [pair_len]; omega
    rw [e]
    refine .two (p := (a.length : Int)) (pair_root k a b) hk rfl rfl ?_ ?_
    · have e1 : (b.length : Int) - 1 + (a.length : Int) = (a.length : Int) + (b.length : Int) - 1 := by omega
      rw [e1, Int.zero_add] at tb; exact tb
    · rw [Int.add_zero, Int.add_zero] at ta; exact ta
  have nk := tr.nok
  refine ⟨⟨nk.two, nk.one, nk.rep, nk.kind, nk.ntx, fun i n hn h67 => ?_⟩, tr⟩
  unfold pairD at hn
  rcases at_app hn with hn | hn
  · rcases at_app hn with hn | hn
    · obtain ⟨p, q⟩ := ha.one _ n hn (by omega)
      obtain ⟨m, hm⟩ := at_lt hn p q
      have := nz_emb ea ha.nok nk a.length _ m (by have := at_bound hm; omega) hm
      rw [Int.add_zero] at this
      rw [this]
      exact ha.nn _ n hn h67
    · obtain ⟨m0, hm0, rfl⟩ := at_movL_inv hn
      have hk0 : m0.1 = 6 ∨ m0.1 = 7 := h67
      obtain ⟨p, q⟩ := hb.one _ m0 hm0 (by omega)
      obtain ⟨m, hm⟩ := at_lt hm0 p q
      have := nz_emb eb hb.nok nk b.length _ m (by have := at_bound hm; omega) hm
      simp only [movN]
      rw [if_pos (by omega), this]
      exact hb.nn _ m0 hm0 hk0
  · obtain ⟨_, rfl⟩ := at_one hn
    simp only at h67; omega
theorem wrap_rt {k : Int} {a : List SNode} (ha : Rt a) (hk : k = 6 ∨ k = 8 ∨ k = 9) (hz : k = 6 → nz a ((a.length : Int) - 1) = false) : Rt (wrapD k a) := by
  have ea : Emb a (wrapD k a) 0 := emb_left _
  have ta := ha.tr.emb ea
  have tr : Tr (wrapD k a) 0 (((wrapD k a).length : Int) - 1) := by
    have e : (((wrapD k a).length : Int) - 1) = (a.length : Int) := by rw [wrap_len]; omega
    rw [e]
    refine .one (wrap_root k a) (by simp only; omega) rfl rfl (fun h => by simp only at h; omega) ?_
    rw [Int.add_zero, Int.add_zero] at ta; exact ta
  have nk := tr.nok
  have hr := ha.tr.le
  refine ⟨⟨nk.two, nk.one, nk.rep, nk.kind, nk.ntx, fun i n hn h67 => ?_⟩, tr⟩
  unfold wrapD at hn
  have go : ∀ (A : Int) m, at? a A = some m → nz a A = false → nz (wrapD k a) A = false := fun A m hm hz => by
    have := nz_emb ea ha.nok nk a.length _ m (by have := at_bound hm; omega) hm
    rw [Int.add_zero] at this
    rw [this]; exact hz
  rcases at_app hn with hn | hn
  · obtain ⟨p, q⟩ := ha.one _ n hn (by omega)
    obtain ⟨m, hm⟩ := at_lt hn p q
    exact go _ m hm (ha.nn _ n hn h67)
  · obtain ⟨_, rfl⟩ := at_one hn
    simp only at h67 ⊢
    obtain ⟨m, hm, _⟩ := at_in (xs := a) (i := (a.length : Int) - 1) hr.2 (by omega)
    exact go _ m hm (hz (by omega))
theorem leaf_rt {n : SNode} (hk : n.1 = 1 ∨ n.1 = 2) (h0 : n.2.1 = 0 ∧ n.2.2.1 = 0) : Rt [n] := by
  have tr : Tr [n] 0 ((([n] : List SNode).length : Int) - 1) := .leaf (e := n) rfl (by omega) (fun h => by omega) h0
  have nk := tr.nok
  refine ⟨⟨nk.two, nk.one, nk.rep, nk.kind, nk.ntx, fun i m hm h67 => ?_⟩, tr⟩
  obtain ⟨_, rfl⟩ := at_one hm
  omega
end Go.Proofs.YtdidjelkkanenaaDoor.V
namespace Go.Proofs.YtdidjelkkanenaaDoor.V
open Go
set_option linter.unusedVariables false
def sumF (F : List SItem → Nat) (L : List (List SItem)) : Nat := (L.map F).sum
theorem sumF_app (F : List SItem → Nat) (A B : List (List SItem)) : sumF F (A ++ B) = sumF F A + sumF F B := by unfold sumF; rw [List.map_append, List.sum_append]
theorem sumF_rep (F : List SItem → Nat) (m : Nat) (L : List (List SItem)) : sumF F (List.replicate m L).flatten = m * sumF F L := by
  induction m with
  | zero => simp [sumF]
  | succ m ih => rw [List.replicate_succ, List.flatten_cons, sumF_app, ih, Nat.succ_mul, Nat.add_comm]
theorem sumF_map (F : List SItem → Nat) (g : List SItem → List SItem) (L : List (List SItem)) : sumF F (L.map g) = sumF (fun t => F (g t)) L := by unfold sumF; rw [List.map_map]; rfl
theorem sumF_congr {F G : List SItem → Nat} {L : List (List SItem)} (h : ∀ t ∈ L, F t = G t) : sumF F L = sumF G L := by unfold sumF; rw [List.map_congr_left h]
theorem sumF_count (L : List (List SItem)) : L.count [] = sumF (fun t => if t = [] then 1 else 0) L := by
  induction L with
  | nil => rfl
  | cons t L ih =>
    rw [List.count_cons, ih]
    unfold sumF
    rw [List.map_cons, List.sum_cons]
    by_cases h : t = []
    · simp [h]; omega
    · simp [h]
theorem sumF_mul (F : List SItem → Nat) (m : Nat) (L : List (List SItem)) : sumF (fun t => F t * m) L = sumF F L * m := by
  induction L with
  | nil => simp [sumF]
  | cons t L ih =>
    unfold sumF at *
    simp only [List.map_cons, List.sum_cons]
    rw [ih, Nat.add_mul]
theorem pmI_ne {d : List SNode} (hd : ROk d) (x : SItem) : ∀ p ∈ pmI d x, p ≠ [] := by
  intro p hp e
  subst e
  have k1 : ∀ i, [] ∉ pm d i := fun i h => by
    obtain ⟨y, q, e, _⟩ := PM_rng hd (i.toNat + 1) i (by omega) _ h
    cases e
  unfold pmI at hp
  split at hp
  · exact k1 _ hp
  · split at hp
    · split at hp
      · split at hp
        · obtain ⟨q, _, e⟩ := List.mem_map.1 hp
          simp at e
        · cases hp
      · cases hp
    · split at hp
      · cases hp
      · simp at hp
theorem hds_app {d : List SNode} (hd : ROk d) (F : List SItem → Nat) (r : List SItem) : ∀ s, sumF F (hds d (s ++ r)) = sumF (fun t => if t = [] then sumF F (hds d r) else F (t ++ r)) (hds d s)
  | [] => by simp [hds, sumF]
  | x :: s => by
    have ih := hds_app hd F r s
    simp only [List.cons_append, hds]
    rw [sumF_app, sumF_app, sumF_rep, sumF_rep, sumF_map, sumF_map, ih]
    congr 1
    refine sumF_congr fun p hp => ?_
    rw [if_neg (by have := pmI_ne hd x p hp; simp [this]), List.append_assoc]
theorem lowF_app (s r : List SItem) : lowF (s ++ r) = if (lowF s).2 = true ∧ (lowF r).2 = true then ((lowF s).1 ++ (lowF r).1, true) else ([], false) := by
  unfold lowF
  rw [List.any_append, List.map_append]
  cases s.any badI <;> cases r.any badI <;> simp
theorem readF_app {d : List SNode} {t : List SItem} (ht : t ≠ []) (r : List SItem) (c : Int) : readF d (t ++ r) c = if (readF d t c).2 = true ∧ (lowF r).2 = true then ((readF d t c).1 ++ (lowF r).1, true) else ([], false) := by
  cases t with
  | nil => exact absurd rfl ht
  | cons x rest =>
    have hl := lowF_app rest r
    cases h1 : (lowF rest).2
    · have e1 : readF d (x :: rest) c = ([], false) := by unfold readF; simp only; rw [if_pos h1]
      have e2 : (lowF (rest ++ r)).2 = false := by rw [hl, h1]; simp
      rw [e1]
      rw [List.cons_append]
      unfold readF
      simp only
      rw [if_pos e2]
      simp
    · cases h2 : (lowF r).2
      · have e2 : (lowF (rest ++ r)).2 = false := by rw [hl, h2]; simp
        rw [List.cons_append]
        have e3 : readF d (x :: (rest ++ r)) c = ([], false) := by unfold readF; simp only; rw [if_pos e2]
        rw [e3, if_neg (by simp)]
      · have e2 : lowF (rest ++ r) = ((lowF rest).1 ++ (lowF r).1, true) := by rw [hl, h1, h2]; simp
        rw [List.cons_append]
        unfold readF
        simp only [e2]
        rw [if_neg (show ¬ true = false by simp), if_neg (show ¬ (lowF rest).2 = false by rw [h1]; simp)]
        cases hn : at? d x.2.1 with
        | none => simp
        | some n =>
          simp only
          by_cases h3 : x.1 = 3
          · rw [if_pos h3, if_pos h3]
            split
            · simp
            · simp
          · rw [if_neg h3, if_neg h3]
            by_cases h4 : x.1 = 4
            · rw [if_pos h4, if_pos h4]; simp
            · rw [if_neg h4, if_neg h4]
              by_cases h8 : n.1 = 8
              · rw [if_pos h8, if_pos h8]; simp
              · rw [if_neg h8, if_neg h8]
                by_cases h9 : n.1 = 9
                · rw [if_pos h9, if_pos h9]; simp
                · rw [if_neg h9, if_neg h9]
                  by_cases hh : n.2.2.2.2.2.1.has c.toNat = true
                  · rw [if_pos hh, if_pos hh]; simp
                  · rw [if_neg hh, if_neg hh]; simp
def wyn (d : List SNode) : List Int → List SItem → Nat
  | [], s => (hds d s).count []
  | c :: w, s => sumF (fun t => if (readF d t c).2 = true then wyn d w (readF d t c).1 else 0) (hds d s)
def lows : Nat → List SItem → Option (List SItem)
  | 0, s => some s
  | p + 1, s => if (lowF s).2 = true then lows p (lowF s).1 else none
def wynO (d : List SNode) (w : List Int) : Option (List SItem) → Nat
  | some s => wyn d w s
  | none => 0
theorem wynO_some (d : List SNode) (w : List Int) (s : List SItem) : wynO d w (some s) = wyn d w s := rfl
def cutS (F : List Int → List Int → Nat) : List Int → Nat
  | [] => F [] []
  | c :: w => F [] (c :: w) + cutS (fun a b => F (c :: a) b) w
theorem cutS_congr {F G : List Int → List Int → Nat} : ∀ {w : List Int}, (∀ a b, a ++ b = w → F a b = G a b) → cutS F w = cutS G w
  | [], h => h [] [] rfl
  | c :: w, h => by
    unfold cutS
    rw [h [] (c :: w) rfl, cutS_congr fun a b e => h (c :: a) b (by simp [e])]
theorem cutS_zero : ∀ (w : List Int), cutS (fun _ _ => 0) w = 0
  | [] => rfl
  | c :: w => by unfold cutS; rw [cutS_zero w]
theorem cutS_add (F G : List Int → List Int → Nat) : ∀ (w : List Int), cutS (fun a b => F a b + G a b) w = cutS F w + cutS G w
  | [] => rfl
  | c :: w => by unfold cutS; rw [cutS_add (fun a b => F (c :: a) b) (fun a b => G (c :: a) b) w]; omega
theorem cutS_sum (g : List SItem → List Int → List Int → Nat) (w : List Int) : ∀ (L : List (List SItem)), cutS (fun a b => sumF (fun t => g t a b) L) w = sumF (fun t => cutS (g t) w) L
  | [] => by simp [sumF, cutS_zero]
  | t :: L => by
    have ih := cutS_sum g w L
    have e : (fun a b => sumF (fun t => g t a b) (t :: L)) = fun a b => g t a b + sumF (fun t => g t a b) L := by
      funext a b; simp [sumF]
    rw [e, cutS_add, ih]
    simp [sumF]
theorem wyn_app {d : List SNode} (hd : ROk d) : ∀ (w : List Int) (s r : List SItem), wyn d w (s ++ r) = cutS (fun a b => wyn d a s * wynO d b (lows a.length r)) w
  | [], s, r => by
    simp only [wyn, cutS, List.length_nil, lows, wynO_some]
    rw [sumF_count, hds_app hd, sumF_count (hds d s), ← sumF_mul]
    refine sumF_congr fun t _ => ?_
    by_cases ht : t = []
    · rw [if_pos ht, if_pos ht, ← sumF_count, Nat.one_mul]
    · rw [if_neg ht, if_neg ht, if_neg (by simp [ht])]; simp
  | c :: w, s, r => by
    have ih := wyn_app hd w
    simp only [wyn, cutS, List.length_nil, lows, wynO_some]
    rw [hds_app hd]
    cases hl : (lowF r).2
    · -- nothing behind may be lowered
      have e0 : cutS (fun a b => sumF (fun t => if (readF d t c).2 = true then wyn d a (readF d t c).1 else 0) (hds d s) * wynO d b (lows (c :: a).length r)) w = 0 := by
        have : (fun a b => sumF (fun t => if (readF d t c).2 = true then wyn d a (readF d t c).1 else 0) (hds d s) * wynO d b (lows (c :: a).length r)) = fun _ _ => 0 := by
          funext a b
          simp [lows, hl, wynO]
        rw [this, cutS_zero]
      rw [e0, Nat.add_zero, sumF_count, ← sumF_mul]
      refine sumF_congr fun t _ => ?_
      by_cases ht : t = []
      · rw [if_pos ht, if_pos ht, Nat.one_mul]
      · rw [if_neg ht, if_neg ht, readF_app ht, hl]; simp
    · have e0 : cutS (fun a b => sumF (fun t => if (readF d t c).2 = true then wyn d a (readF d t c).1 else 0) (hds d s) * wynO d b (lows (c :: a).length r)) w
          = sumF (fun t => if (readF d t c).2 = true then wyn d w ((readF d t c).1 ++ (lowF r).1) else 0) (hds d s) := by
        have e1 : (fun a b => sumF (fun t => if (readF d t c).2 = true then wyn d a (readF d t c).1 else 0) (hds d s) * wynO d b (lows (c :: a).length r))
            = fun (a : List Int) b => sumF (fun t => (if (readF d t c).2 = true then wyn d a (readF d t c).1 else 0) * wynO d b (lows a.length (lowF r).1)) (hds d s) := by
          funext a b
          rw [sumF_mul]
          simp [lows, hl]
        rw [e1, cutS_sum (fun t a b => (if (readF d t c).2 = true then wyn d a (readF d t c).1 else 0) * wynO d b (lows a.length (lowF r).1))]
        refine sumF_congr fun t _ => ?_
        cases hr : (readF d t c).2
        · simp [cutS_zero]
        · simp only [if_true]
          rw [ih]
      rw [e0, sumF_count, ← sumF_mul]
      have e2 : ∀ (A B : List SItem → Nat) (L : List (List SItem)), sumF A L + sumF B L = sumF (fun t => A t + B t) L := by
        intro A B L
        induction L with
        | nil => rfl
        | cons t L ih => unfold sumF at *; simp only [List.map_cons, List.sum_cons]; omega
      rw [e2]
      refine sumF_congr fun t _ => ?_
      by_cases ht : t = []
      · subst ht
        simp [readF]
      · rw [if_neg ht, if_neg ht, readF_app ht, hl]
        cases hr : (readF d t c).2
        · simp
        · simp
end Go.Proofs.YtdidjelkkanenaaDoor.V
namespace Go.Proofs.YtdidjelkkanenaaDoor.V
open Go
set_option linter.unusedVariables false
def nodeW (d : List SNode) (i : Int) (w : List Int) : Nat := wyn d w [(1, i, 0, 0)]
theorem wyn_same {d : List SNode} {s s' : List SItem} (h : ∀ F, sumF F (hds d s) = sumF F (hds d s')) (w : List Int) : wyn d w s = wyn d w s' := by
  cases w with
  | nil => simp only [wyn]; rw [sumF_count, sumF_count, h]
  | cons c w => simp only [wyn]; rw [h]
theorem wyn_two {d : List SNode} {s s1 s2 : List SItem} (h : ∀ F, sumF F (hds d s) = sumF F (hds d s1) + sumF F (hds d s2)) (w : List Int) : wyn d w s = wyn d w s1 + wyn d w s2 := by
  cases w with
  | nil => simp only [wyn]; rw [sumF_count, sumF_count, sumF_count, h]
  | cons c w => simp only [wyn]; rw [h]
theorem wyn_nil (d : List SNode) (w : List Int) : wyn d w [] = if w = [] then 1 else 0 := by
  cases w with
  | nil => simp [wyn, hds]
  | cons c w => simp [wyn, hds, sumF, readF]
theorem hds_st (d : List SNode) (r : Int) : hds d [(1, r, 0, 0)] = pm d r ++ (List.replicate (nw d r) [[]]).flatten := by
  have e1 : pmI d (1, r, 0, 0) = pm d r := rfl
  have e2 : nwI d (1, r, 0, 0) = nw d r := rfl
  simp only [hds, e1, e2, List.append_nil]
  rw [List.map_id']
theorem sum_start (d : List SNode) (F : List SItem → Nat) (i : Int) : sumF F (hds d [(1, i, 0, 0)]) = sumF F (pm d i) + nw d i * F [] := by
  have e1 : pmI d (1, i, 0, 0) = pm d i := rfl
  have e2 : nwI d (1, i, 0, 0) = nw d i := rfl
  simp only [hds, e1, e2, List.append_nil]
  rw [List.map_id', sumF_app, sumF_rep]
  simp [sumF]
theorem sum_first (d : List SNode) (F : List SItem → Nat) (i : Int) (r : List SItem) : sumF F (hds d ((1, i, 0, 0) :: r)) = sumF (fun p => F (p ++ r)) (pm d i) + nw d i * sumF F (hds d r) := by
  have e1 : pmI d (1, i, 0, 0) = pm d i := rfl
  have e2 : nwI d (1, i, 0, 0) = nw d i := rfl
  simp only [hds, e1, e2]
  rw [sumF_app, sumF_rep, sumF_map]
theorem nw_none {d : List SNode} (hd : ROk d) {i : Int} {n : SNode} (hn : at? d i = some n) (h : n.1 = 6 ∨ n.1 = 7) : nw d n.2.1 = 0 := by
  obtain ⟨p, q⟩ := hd.one _ n hn (by omega)
  obtain ⟨m, hm⟩ := at_lt hn p q
  have := nw_zero hd (n.2.1.toNat + 1) _ m (by omega) hm
  rw [hd.nn _ n hn h] at this
  rcases Nat.eq_zero_or_pos (nw d n.2.1) with h0 | h0
  · exact h0
  · have := this.1 (by omega); cases this
def NoEnd (s : List SItem) : Prop := ∀ x ∈ s, x.1 ≠ 5
theorem lowF_plain {s : List SItem} (h : NoEnd s) : lowF s = (s, true) := by
  unfold lowF
  have h1 : s.any badI = false := by
    rw [List.any_eq_false]
    intro x hx
    simp [badI, h x hx]
  rw [h1]
  simp only [Bool.false_eq_true, if_false, Prod.mk.injEq, and_true]
  have : ∀ x ∈ s, low1 x = id x := fun x hx => by unfold low1; rw [if_neg (h x hx)]; rfl
  rw [List.map_congr_left this, List.map_id]
theorem lows_plain {s : List SItem} (h : NoEnd s) : ∀ p, lows p s = some s
  | 0 => rfl
  | p + 1 => by
    unfold lows
    rw [lowF_plain h]
    simp only [if_true]
    exact lows_plain h p
theorem wyn_plain {d : List SNode} (hd : ROk d) (w : List Int) (s : List SItem) {r : List SItem} (h : NoEnd r) : wyn d w (s ++ r) = cutS (fun a b => wyn d a s * wyn d b r) w := by
  rw [wyn_app hd]
  exact cutS_congr fun a b _ => by rw [lows_plain h, wynO_some]
section
variable {d : List SNode} (hd : ROk d) {i : Int} {n : SNode} (hn : at? d i = some n)
include hd hn
theorem node_empty (h : n.1 = 1) (w : List Int) : nodeW d i w = if w = [] then 1 else 0 := by
  have e := PM_at hd hn
  rw [if_pos h] at e
  have e1 : pm d i = [] := by unfold pm; rw [e]
  have e2 : nw d i = 1 := by unfold nw; rw [e]
  unfold nodeW
  rw [← wyn_nil d w]
  refine wyn_same (fun F => ?_) w
  rw [sum_start, e1, e2]
  simp [hds, sumF]
theorem node_seq (h : n.1 = 4) (w : List Int) : nodeW d i w = cutS (fun a b => nodeW d n.2.1 a * nodeW d n.2.2.1 b) w := by
  have e := PM_at hd hn
  rw [if_neg (by omega), if_neg (by omega), if_pos h] at e
  have e1 : pm d i = (pm d n.2.1).map (· ++ [(1, n.2.2.1, 0, 0)]) ++ (List.replicate (nw d n.2.1) (pm d n.2.2.1)).flatten := by
    have : pm d i = (PM d d.length i).1 := rfl
    rw [this, e]
  have e2 : nw d i = nw d n.2.1 * nw d n.2.2.1 := by
    have : nw d i = (PM d d.length i).2 := rfl
    rw [this, e]
  unfold nodeW
  rw [← wyn_plain hd w [(1, n.2.1, 0, 0)] (r := [(1, n.2.2.1, 0, 0)]) (by intro x hx; rw [List.mem_singleton.1 hx]; simp)]
  refine wyn_same (fun F => ?_) w
  rw [sum_start, List.singleton_append, sum_first, sum_start, e1, e2, sumF_app, sumF_map, sumF_rep, Nat.mul_add, Nat.mul_assoc, Nat.add_assoc]
theorem node_or (h : n.1 = 5) (w : List Int) : nodeW d i w = nodeW d n.2.1 w + nodeW d n.2.2.1 w := by
  have e := PM_at hd hn
  rw [if_neg (by omega), if_neg (by omega), if_neg (by omega), if_pos h] at e
  have e1 : pm d i = pm d n.2.1 ++ pm d n.2.2.1 := by
    have : pm d i = (PM d d.length i).1 := rfl
    rw [this, e]
  have e2 : nw d i = nw d n.2.1 + nw d n.2.2.1 := by
    have : nw d i = (PM d d.length i).2 := rfl
    rw [this, e]
  unfold nodeW
  refine wyn_two (fun F => ?_) w
  rw [sum_start, sum_start, sum_start, e1, e2, sumF_app, Nat.add_mul]
  omega
theorem node_star (h : n.1 = 6) (w : List Int) : nodeW d i w = (if w = [] then 1 else 0) + cutS (fun a b => nodeW d n.2.1 a * nodeW d i b) w := by
  have e := PM_at hd hn
  rw [if_neg (by omega), if_neg (by omega), if_neg (by omega), if_neg (by omega), if_pos h] at e
  have e1 : pm d i = (pm d n.2.1).map (· ++ [(1, i, 0, 0)]) := by
    have : pm d i = (PM d d.length i).1 := rfl
    rw [this, e]
  have e2 : nw d i = 1 := by
    have : nw d i = (PM d d.length i).2 := rfl
    rw [this, e]
  have z := nw_none hd hn (.inl h)
  unfold nodeW
  rw [← wyn_plain hd w [(1, n.2.1, 0, 0)] (r := [(1, i, 0, 0)]) (by intro x hx; rw [List.mem_singleton.1 hx]; simp), ← wyn_nil d w]
  refine wyn_two (fun F => ?_) w
  rw [sum_start, List.singleton_append, sum_first, e1, e2, z, sumF_map]
  simp [hds, sumF]
  omega
theorem item_rep (h : n.1 = 7) (lo hi : Int) (w : List Int) : wyn d w [(2, i, lo, hi)] = (if lo = 0 ∧ w = [] then 1 else 0) + if 0 < hi then cutS (fun a b => nodeW d n.2.1 a * wyn d b [(2, i, max (lo - 1) 0, hi - 1)]) w else 0 := by
  have z := nw_none hd hn (.inr h)
  have e1 : pmI d (2, i, lo, hi) = if 0 < hi then (pm d n.2.1).map (· ++ [(2, i, max (lo - 1) 0, hi - 1)]) else [] := by
    unfold pmI
    simp [hn]
  have e2 : nwI d (2, i, lo, hi) = if lo = 0 then 1 else 0 := by simp [nwI]
  have base : ∀ F, sumF F (hds d [(2, i, lo, hi)]) = (if lo = 0 then F [] else 0) + if 0 < hi then sumF F (hds d ([(1, n.2.1, 0, 0)] ++ [(2, i, max (lo - 1) 0, hi - 1)])) else 0 := by
    intro F
    simp only [List.singleton_append]
    rw [sum_first, z]
    have e3 : hds d [(2, i, lo, hi)] = (pmI d (2, i, lo, hi)).map (· ++ []) ++ (List.replicate (nwI d (2, i, lo, hi)) [[]]).flatten := rfl
    rw [e3, sumF_app, sumF_rep, e1, e2, sumF_map]
    by_cases h0 : lo = 0
    · by_cases h1 : 0 < hi
      · simp only [if_pos h0, if_pos h1, List.append_nil]; rw [sumF_map]; simp [sumF]; omega
      · simp only [if_pos h0, if_neg h1]; simp [sumF]
    · by_cases h1 : 0 < hi
      · simp only [if_neg h0, if_pos h1, List.append_nil]; rw [sumF_map]; simp [sumF]
      · simp only [if_neg h0, if_neg h1]; simp [sumF]
  have ap := wyn_plain hd w [(1, n.2.1, 0, 0)] (r := [(2, i, max (lo - 1) 0, hi - 1)]) (by intro x hx; rw [List.mem_singleton.1 hx]; simp)
  unfold nodeW
  rw [← ap]
  cases w with
  | nil =>
    simp only [wyn]
    rw [sumF_count, base, ← sumF_count]
    by_cases h0 : lo = 0 <;> simp [h0]
  | cons c w =>
    simp only [wyn]
    rw [base]
    by_cases h0 : lo = 0 <;> simp [h0, readF]
theorem node_rep (h : n.1 = 7) (w : List Int) : nodeW d i w = wyn d w [(2, i, n.2.2.2.1, n.2.2.2.2.1)] := by
  have e := PM_at hd hn
  rw [if_neg (by omega), if_neg (by omega), if_neg (by omega), if_neg (by omega), if_neg (by omega), if_pos h] at e
  have e1 : pm d i = if 0 < n.2.2.2.2.1 then (pm d n.2.1).map (· ++ [(2, i, max (n.2.2.2.1 - 1) 0, n.2.2.2.2.1 - 1)]) else [] := by
    have : pm d i = (PM d d.length i).1 := rfl
    rw [this, e]
  have e2 : nw d i = if n.2.2.2.1 = 0 then 1 else 0 := by
    have : nw d i = (PM d d.length i).2 := rfl
    rw [this, e]
  have e3 : pmI d (2, i, n.2.2.2.1, n.2.2.2.2.1) = pm d i := by rw [e1]; unfold pmI; simp [hn]
  have e4 : nwI d (2, i, n.2.2.2.1, n.2.2.2.2.1) = nw d i := by rw [e2]; simp [nwI]
  unfold nodeW
  refine wyn_same (fun F => ?_) w
  have e5 : hds d [(2, i, n.2.2.2.1, n.2.2.2.2.1)] = (pmI d (2, i, n.2.2.2.1, n.2.2.2.2.1)).map (· ++ []) ++ (List.replicate (nwI d (2, i, n.2.2.2.1, n.2.2.2.2.1)) [[]]).flatten := rfl
  rw [e5, e3, e4]
  rfl
theorem pm_ready (h : n.1 = 2 ∨ n.1 = 8 ∨ n.1 = 9) : pm d i = [[(1, i, 0, 0)]] ∧ nw d i = 0 := by
  have e := PM_at hd hn
  rw [if_neg (by omega), if_neg (by omega), if_neg (by omega), if_neg (by omega), if_neg (by omega), if_neg (by omega)] at e
  have h1 : pm d i = (PM d d.length i).1 := rfl
  have h2 : nw d i = (PM d d.length i).2 := rfl
  rw [h1, h2, e]; exact ⟨rfl, rfl⟩
theorem node_ready (h : n.1 = 2 ∨ n.1 = 8 ∨ n.1 = 9) : nodeW d i [] = 0 ∧ ∀ c w, nodeW d i (c :: w) = if (readF d [(1, i, 0, 0)] c).2 = true then wyn d w (readF d [(1, i, 0, 0)] c).1 else 0 := by
  obtain ⟨e1, e2⟩ := pm_ready hd hn h
  have e3 : hds d [(1, i, 0, 0)] = [[(1, i, 0, 0)]] := by rw [hds_st, e1, e2]; rfl
  unfold nodeW
  refine ⟨by simp [wyn, e3], fun c w => by simp [wyn, e3, sumF]⟩
theorem node_bytes (h : n.1 = 2) (w : List Int) : nodeW d i w = match w with | [] => 0 | c :: w => if n.2.2.2.2.2.1.has c.toNat = true ∧ w = [] then 1 else 0 := by
  obtain ⟨k1, k2⟩ := node_ready hd hn (.inl h)
  cases w with
  | nil => exact k1
  | cons c w =>
    rw [k2]
    have e : readF d [(1, i, 0, 0)] c = if n.2.2.2.2.2.1.has c.toNat = true then ([], true) else ([], false) := by
      unfold readF
      simp only [hn]
      rw [if_neg (by simp [lowF]), if_neg (by decide), if_neg (by decide), if_neg (by omega), if_neg (by omega)]
      rfl
    rw [e]
    by_cases hh : n.2.2.2.2.2.1.has c.toNat = true
    · rw [if_pos hh]
      simp only [if_true]
      rw [wyn_nil]
      simp [hh]
    · rw [if_neg hh]
      simp [hh]
end
end Go.Proofs.YtdidjelkkanenaaDoor.V
namespace Go.Proofs.YtdidjelkkanenaaDoor.V
open Go
set_option linter.unusedVariables false
theorem cutS_end {F : List Int → List Int → Nat} : ∀ {w : List Int}, (∀ a b, a ++ b = w → b ≠ [] → F a b = 0) → cutS F w = F w []
  | [], _ => rfl
  | c :: w, h => by
    unfold cutS
    rw [h [] (c :: w) rfl (by simp), Nat.zero_add]
    exact cutS_end fun a b e hb => h (c :: a) b (by simp [e]) hb
theorem lows_end (m : Int) (hm : 0 ≤ m) : ∀ p : Nat, lows p [(5, 0, m, 0)] = if (p : Int) ≤ m then some [(5, 0, m - p, 0)] else none := by
  intro p
  induction p generalizing m with
  | zero => simp [lows, hm]
  | succ p ih =>
    unfold lows
    by_cases h0 : m ≤ 0
    · have e : lowF [(5, 0, m, 0)] = ([], false) := by simp [lowF, badI, h0]
      rw [e, if_neg (by simp), if_neg (by omega)]
    · have e : lowF [(5, 0, m, 0)] = ([(5, 0, m - 1, 0)], true) := by simp [lowF, badI, low1, h0]
      rw [e]
      simp only [if_true]
      rw [ih (m - 1) (by omega)]
      by_cases h1 : ((p + 1 : Nat) : Int) ≤ m
      · rw [if_pos (by omega), if_pos h1]
        congr 3
        simp; omega
      · rw [if_neg (by omega), if_neg h1]
theorem wyn_end (d : List SNode) (m : Int) (w : List Int) : wyn d w [(5, 0, m, 0)] = if m = 0 ∧ w = [] then 1 else 0 := by
  have e : hds d [(5, 0, m, 0)] = if m = 0 then [[]] else [] := by
    have e1 : pmI d (5, 0, m, 0) = [] := by simp [pmI]
    have e2 : nwI d (5, 0, m, 0) = if m = 0 then 1 else 0 := by simp [nwI]
    have e3 : hds d [(5, 0, m, 0)] = (pmI d (5, 0, m, 0)).map (· ++ []) ++ (List.replicate (nwI d (5, 0, m, 0)) [[]]).flatten := rfl
    rw [e3, e1, e2]
    split <;> rfl
  cases w with
  | nil => simp only [wyn, e]; split <;> simp_all
  | cons c w => simp only [wyn, e]; split <;> simp [sumF, readF]
section
variable {d : List SNode} (hd : ROk d)
include hd
theorem wyn_held (i : Int) {c : Int} (hc : 0 ≤ c) (w : List Int) : wyn d w [(1, i, 0, 0), (5, 0, c, 0)] = if (w.length : Int) = c then nodeW d i w else 0 := by
  have e := wyn_app hd w [(1, i, 0, 0)] [(5, 0, c, 0)]
  rw [List.singleton_append] at e
  rw [e, cutS_end]
  · rw [lows_end c hc]
    unfold nodeW
    by_cases h : (w.length : Int) = c
    · rw [if_pos (by omega), if_pos h, wynO_some, wyn_end, if_pos ⟨by omega, rfl⟩, Nat.mul_one]
    · rw [if_neg h]
      by_cases h1 : (w.length : Int) ≤ c
      · rw [if_pos h1, wynO_some, wyn_end, if_neg (by omega)]; simp
      · rw [if_neg h1]; simp [wynO]
  · intro a b hab hb
    rw [lows_end c hc]
    split
    · rw [wynO_some, wyn_end, if_neg (by simp [hb])]; simp
    · simp [wynO]
variable {i : Int} {n : SNode} (hn : at? d i = some n)
include hn
theorem node_frame (h : n.1 = 8) (w : List Int) (hw : ∀ c ∈ w, 0 ≤ c) : nodeW d i w = match w with | [] => 0 | c :: w => if (w.length : Int) = c then nodeW d n.2.1 w else 0 := by
  obtain ⟨k1, k2⟩ := node_ready hd hn (.inr (.inl h))
  cases w with
  | nil => exact k1
  | cons c w =>
    rw [k2]
    have e : readF d [(1, i, 0, 0)] c = ([(1, n.2.1, 0, 0), (5, 0, c, 0)], true) := by
      unfold readF
      simp only [hn]
      rw [if_neg (by simp [lowF]), if_neg (by decide), if_neg (by decide), if_pos h]
      rfl
    rw [e]
    simp only [if_true]
    exact wyn_held hd n.2.1 (hw c (by simp)) w
theorem node_wide (h : n.1 = 9) (w : List Int) (hw : ∀ c ∈ w, 0 ≤ c) : nodeW d i w = match w with | [] => 0 | [_] => 0 | c :: b :: w => if (w.length : Int) = 256 * c + b then nodeW d n.2.1 w else 0 := by
  obtain ⟨k1, k2⟩ := node_ready hd hn (.inr (.inr h))
  cases w with
  | nil => exact k1
  | cons c w =>
    rw [k2]
    have e : readF d [(1, i, 0, 0)] c = ([(4, i, c, 0)], true) := by
      unfold readF
      simp only [hn]
      rw [if_neg (by simp [lowF]), if_neg (by decide), if_neg (by decide), if_neg (by omega), if_pos h]
      rfl
    rw [e]
    simp only [if_true]
    have e4 : hds d [(4, i, c, 0)] = [[(4, i, c, 0)]] := by
      have e1 : pmI d (4, i, c, 0) = [[(4, i, c, 0)]] := by simp [pmI]
      have e2 : nwI d (4, i, c, 0) = 0 := by simp [nwI]
      have e3 : hds d [(4, i, c, 0)] = (pmI d (4, i, c, 0)).map (· ++ []) ++ (List.replicate (nwI d (4, i, c, 0)) [[]]).flatten := rfl
      rw [e3, e1, e2]; rfl
    cases w with
    | nil => simp [wyn, e4]
    | cons b w =>
      have e5 : readF d [(4, i, c, 0)] b = ([(1, n.2.1, 0, 0), (5, 0, 256 * c + b, 0)], true) := by
        unfold readF
        simp only [hn]
        rw [if_neg (by simp [lowF]), if_neg (by decide), if_pos trivial]
        rfl
      simp only [wyn, e4]
      have hc0 := hw c (by simp)
      have hb0 := hw b (by simp)
      have : sumF (fun t => if (readF d t b).2 = true then wyn d w (readF d t b).1 else 0) [[(4, i, c, 0)]] = wyn d w [(1, n.2.1, 0, 0), (5, 0, 256 * c + b, 0)] := by
        simp [sumF, e5]
      rw [this]
      exact wyn_held hd n.2.1 (by omega) w
omit hd in
theorem wyn_text (h : n.1 = 3) : ∀ (w : List Int) (lo : Nat), lo < n.2.2.2.2.2.2.length → wyn d w [(3, i, (lo : Int), 0)] = if w = (n.2.2.2.2.2.2.map fun b => (b.toNat : Int)).drop lo then 1 else 0 := by
  have e3 : ∀ lo : Int, hds d [(3, i, lo, 0)] = [[(3, i, lo, 0)]] := fun lo => by
    have e1 : pmI d (3, i, lo, 0) = [[(3, i, lo, 0)]] := by simp [pmI]
    have e2 : nwI d (3, i, lo, 0) = 0 := by simp [nwI]
    have e3 : hds d [(3, i, lo, 0)] = (pmI d (3, i, lo, 0)).map (· ++ []) ++ (List.replicate (nwI d (3, i, lo, 0)) [[]]).flatten := rfl
    rw [e3, e1, e2]; rfl
  intro w
  induction w with
  | nil =>
    intro lo hlo
    rw [if_neg (by
      intro e
      have := congrArg List.length e
      simp at this
      omega)]
    simp [wyn, e3]
  | cons c w ih =>
    intro lo hlo
    have hb : byte? n.2.2.2.2.2.2 (lo : Int) = some ((n.2.2.2.2.2.2[lo]).toNat : Int) := by
      unfold byte?
      rw [at_nat, List.getElem?_eq_getElem hlo]; rfl
    have hdr : (n.2.2.2.2.2.2.map fun b => (b.toNat : Int)).drop lo = ((n.2.2.2.2.2.2[lo]).toNat : Int) :: (n.2.2.2.2.2.2.map fun b => (b.toNat : Int)).drop (lo + 1) := by
      rw [List.drop_eq_getElem_cons (by simpa using hlo)]; simp
    have hr : readF d [(3, i, (lo : Int), 0)] c = if byte? n.2.2.2.2.2.2 (lo : Int) = some c then (if (lo : Int) + 1 < (n.2.2.2.2.2.2.length : Int) then [(3, i, (lo : Int) + 1, 0)] else [], true) else ([], false) := by
      unfold readF
      simp only [hn]
      rw [if_neg (by simp [lowF]), if_pos trivial]
      split
      · split <;> rfl
      · rfl
    simp only [wyn, e3]
    have es : sumF (fun t => if (readF d t c).2 = true then wyn d w (readF d t c).1 else 0) [[(3, i, (lo : Int), 0)]] = if (readF d [(3, i, (lo : Int), 0)] c).2 = true then wyn d w (readF d [(3, i, (lo : Int), 0)] c).1 else 0 := by simp [sumF]
    rw [es, hdr]
    by_cases hc : ((n.2.2.2.2.2.2[lo]).toNat : Int) = c
    · have hr2 : readF d [(3, i, (lo : Int), 0)] c = (if (lo : Int) + 1 < (n.2.2.2.2.2.2.length : Int) then [(3, i, (lo : Int) + 1, 0)] else [], true) := by rw [hr, hb, if_pos (by rw [hc])]
      rw [hr2]
      simp only [if_true]
      by_cases hl : lo + 1 < n.2.2.2.2.2.2.length
      · rw [if_pos (show (lo : Int) + 1 < (n.2.2.2.2.2.2.length : Int) by omega)]
        have := ih (lo + 1) hl
        have ec : ((lo + 1 : Nat) : Int) = (lo : Int) + 1 := by omega
        rw [ec] at this
        rw [this, hc]
        simp
      · rw [if_neg (show ¬ (lo : Int) + 1 < (n.2.2.2.2.2.2.length : Int) by omega), wyn_nil, hc]
        have : (n.2.2.2.2.2.2.map fun b => (b.toNat : Int)).drop (lo + 1) = [] := List.drop_of_length_le (by simp; omega)
        rw [this]
        simp
    · have hr2 : readF d [(3, i, (lo : Int), 0)] c = ([], false) := by rw [hr, hb, if_neg (by simpa using hc)]
      rw [hr2]
      simp only [Bool.false_eq_true, if_false]
      rw [if_neg]
      intro e
      injection e with e1 e2
      exact hc e1.symm
theorem node_text (h : n.1 = 3) (w : List Int) : nodeW d i w = if w = (n.2.2.2.2.2.2.map fun b => (b.toNat : Int)) then 1 else 0 := by
  have hne := hd.ntx _ n hn h
  have hlo : 0 < n.2.2.2.2.2.2.length := List.length_pos_iff.2 hne
  have e := PM_at hd hn
  rw [if_neg (by omega), if_pos h] at e
  have e1 : pm d i = [[(3, i, 0, 0)]] := by
    have : pm d i = (PM d d.length i).1 := rfl
    rw [this, e]
  have e2 : nw d i = 0 := by
    have : nw d i = (PM d d.length i).2 := rfl
    rw [this, e]
  have := wyn_text hn h w 0 hlo
  rw [List.drop_zero] at this
  rw [← this]
  unfold nodeW
  refine wyn_same (fun F => ?_) w
  rw [sum_start, e1, e2]
  have e3 : pmI d (3, i, ((0 : Nat) : Int), 0) = [[(3, i, 0, 0)]] := by simp [pmI]
  have e4 : nwI d (3, i, ((0 : Nat) : Int), 0) = 0 := by simp [nwI]
  have e5 : hds d [(3, i, ((0 : Nat) : Int), 0)] = (pmI d (3, i, ((0 : Nat) : Int), 0)).map (· ++ []) ++ (List.replicate (nwI d (3, i, ((0 : Nat) : Int), 0)) [[]]).flatten := rfl
  rw [e5, e3, e4]
  simp [sumF]
end
end Go.Proofs.YtdidjelkkanenaaDoor.V
namespace Go.Proofs.YtdidjelkkanenaaDoor.V
open Go
set_option linter.unusedVariables false
def rowF (N : Nat) (g : Nat → Int) : List Int := (List.range (N + 1)).map g
theorem rowF_len (N : Nat) (g : Nat → Int) : (rowF N g).length = N + 1 := by simp [rowF]
theorem rowF_at {N : Nat} {g : Nat → Int} {q : Nat} (h : q ≤ N) : at? (rowF N g) (q : Int) = some (g q) := by
  rw [at_nat]
  unfold rowF
  rw [List.getElem?_map, List.getElem?_range (by omega)]; rfl
theorem rowF_set (N : Nat) (g : Nat → Int) (q : Nat) (v : Int) : (rowF N g).set q v = rowF N (fun k => if k = q then v else g k) := by
  apply List.ext_getElem
  · simp [rowF]
  · intro i h1 h2
    rw [List.getElem_set]
    simp only [rowF, List.getElem_map, List.getElem_range]
    by_cases h : q = i
    · subst h; simp
    · rw [if_neg h, if_neg (fun e => h e.symm)]
theorem rowF_congr {N : Nat} {g h : Nat → Int} (e : ∀ q, q ≤ N → g q = h q) : rowF N g = rowF N h := by
  unfold rowF
  refine List.map_congr_left fun q hq => e q ?_
  have := List.mem_range.1 hq
  omega
theorem zero_in {w : List Int} (hw : w.length ≤ 1000) : ref12_zero w (rowF w.length fun _ => 0) := by
  refine ⟨i64_of (by omega) (by omega), ⟨by omega, by omega⟩, ?_⟩
  have e : ((w.length : Int) + 1).toNat = w.length + 1 := by omega
  rw [e]
  apply List.ext_getElem
  · simp [rowF]
  · intro i h1 h2; simp [rowF]
theorem plus_in {N : Nat} (hN : N ≤ 1000) {g h : Nat → Int} {t : Int} (hg : ∀ q, 0 ≤ g q ∧ g q ≤ 2) (hh : ∀ q, 0 ≤ h q ∧ h q ≤ 2) (ht : 0 ≤ t ∧ t ≤ 2) : ref12_plus (rowF N g) (rowF N h) t (rowF N fun q => min 2 (g q + t * h q)) := by
  refine ⟨by rw [rowF_len]; simp; omega, ?_⟩
  refine upto (P := fun k (o : List Int) v => ref12_plus.l1 (rowF N h) t _ k o v) (N + 1) (fun i o => o = rowF N fun q => if q < i then min 2 (g q + t * h q) else g q) ?_ ?_ _ (by simp)
  · rintro i o hi rfl
    have e1 : at? (rowF N fun q => if q < i then min 2 (g q + t * h q) else g q) (i : Int) = some (g i) := by
      rw [rowF_at (by omega), if_neg (by omega)]
    have e2 : at? (rowF N h) (i : Int) = some (h i) := rowF_at (by omega)
    have hp : 0 ≤ t * h i ∧ t * h i ≤ 4 := by
      have h1 := hh i
      have : t = 0 ∨ t = 1 ∨ t = 2 := by omega
      rcases this with rfl | rfl | rfl <;> omega
    have hgi := hg i
    refine .inr ⟨_, rfl, fun k hk => ⟨fun _ => ⟨_, e1, _, e2, i64_of (by omega) (by omega), i64_of (by omega) (by omega), _, e1, i64_of (by omega) (by omega), ?_⟩, fun hx => absurd (by rw [rowF_len]; omega) (df hx)⟩⟩
    rw [Int.toNat_natCast, rowF_set]
    have : (rowF N fun k => if k = i then min 2 (g i + t * h i) else if k < i then min 2 (g k + t * h k) else g k) = rowF N fun q => if q < i + 1 then min 2 (g q + t * h q) else g q := rowF_congr fun q _ => by
      by_cases h1 : q = i
      · subst h1; simp
      · rw [if_neg h1]
        by_cases h2 : q < i
        · rw [if_pos h2, if_pos (by omega)]
        · rw [if_neg h2, if_neg (by omega)]
    rw [this]; exact hk
  · rintro o rfl k
    refine ⟨fun hx => absurd (dt hx) (by rw [rowF_len]; omega), fun _ => ?_⟩
    show rowF N _ = rowF N _
    exact rowF_congr fun q hq => by rw [if_pos (by omega)]
theorem sat_rng (n : Nat) : 0 ≤ sat n ∧ sat n ≤ 2 := by unfold sat; omega
theorem sat_more (x a b : Nat) : min 2 (sat x + sat a * sat b) = sat (x + a * b) := by
  have h := min_mul a b
  have e : (sat a * sat b : Int) = ((min 2 a * min 2 b : Nat) : Int) := by unfold sat; rw [Int.natCast_mul]
  rw [e]
  generalize min 2 a * min 2 b = P at *
  generalize a * b = Q at *
  unfold sat
  omega
theorem sat_plus (x b : Nat) : min 2 (sat x + 1 * sat b) = sat (x + b) := by unfold sat; omega
def sumK (K : Nat) (f : Nat → Nat) : Nat := ((List.range K).map f).sum
theorem sumK_succ (K : Nat) (f : Nat → Nat) : sumK (K + 1) f = sumK K f + f K := by
  unfold sumK
  rw [List.range_succ, List.map_append, List.sum_append]; simp
theorem sumK_zero (K : Nat) : sumK K (fun _ => 0) = 0 := by
  induction K with
  | zero => rfl
  | succ K ih => rw [sumK_succ, ih]
theorem sumK_congr {K : Nat} {f g : Nat → Nat} (h : ∀ k, k < K → f k = g k) : sumK K f = sumK K g := by
  unfold sumK
  rw [List.map_congr_left fun k hk => h k (List.mem_range.1 hk)]
theorem sumK_pick {K m : Nat} (hm : m < K) {f g : Nat → Nat} (h1 : ∀ k, k ≠ m → f k = g k) (h2 : g m = 0) : sumK K f = f m + sumK K g := by
  induction K with
  | zero => omega
  | succ K ih =>
    rw [sumK_succ, sumK_succ]
    by_cases h : m = K
    · subst h
      rw [h2, sumK_congr fun k hk => h1 k (by omega)]; omega
    · rw [ih (by omega), h1 K (fun e => h e.symm)]; omega
def seg (w : List Int) (p q : Nat) : List Int := (w.take q).drop p
theorem seg_self (w : List Int) (p : Nat) : seg w p p = [] := by
  unfold seg
  exact List.drop_of_length_le (by rw [List.length_take]; omega)
theorem seg_cons {w : List Int} {p q : Nat} (h : p < q) (hq : q ≤ w.length) : seg w p q = w[p]'(by omega) :: seg w (p + 1) q := by
  unfold seg
  rw [List.drop_eq_getElem_cons (by rw [List.length_take]; omega)]
  simp
theorem cutS_seg {w : List Int} : ∀ (m p q : Nat) (F : List Int → List Int → Nat), q = p + m → q ≤ w.length → cutS F (seg w p q) = sumK (w.length + 1) fun k => if p ≤ k ∧ k ≤ q then F (seg w p k) (seg w k q) else 0 := by
  intro m
  induction m with
  | zero =>
    intro p q F h hq
    have : q = p := by omega
    subst this
    rw [sumK_pick (m := q) (by omega) (g := fun _ => 0) (fun k hk => if_neg (by omega)) rfl, sumK_zero, if_pos ⟨Nat.le_refl _, Nat.le_refl _⟩, seg_self]
    rfl
  | succ m ih =>
    intro p q F h hq
    have hp : p < w.length := by omega
    have pick := sumK_pick (K := w.length + 1) (m := p) (by omega) (f := fun k => if p ≤ k ∧ k ≤ q then F (seg w p k) (seg w k q) else 0) (g := fun k => if p + 1 ≤ k ∧ k ≤ q then F (seg w p k) (seg w k q) else 0) (fun k hk => by
      by_cases h1 : p ≤ k ∧ k ≤ q
      · rw [if_pos h1, if_pos (by omega)]
      · rw [if_neg h1, if_neg (by omega)]) (if_neg (by omega))
    rw [pick]
    rw [if_pos (by omega), seg_self, seg_cons (show p < q by omega) hq]
    simp only [cutS]
    rw [ih (p + 1) q _ (by omega) hq]
    congr 1
    refine sumK_congr fun k hk => ?_
    by_cases h1 : p + 1 ≤ k ∧ k ≤ q
    · rw [if_pos h1, if_pos h1, seg_cons (show p < k by omega) (by omega)]
    · rw [if_neg h1, if_neg h1]
theorem through_in {n_ : SDesc → Int → List Int → Int → List Int → Prop} {d : SDesc} {i : Int} {w : List Int} (hw : w.length ≤ 1000) {A : Nat → Nat} {B : Nat → Nat → Nat} (hB : ∀ k, k ≤ w.length → A k ≠ 0 → n_ d i w (k : Int) (rowF w.length fun q => sat (B k q))) :
    ref12_through.b n_ d i w (rowF w.length fun k => sat (A k)) (rowF w.length fun q => sat (sumK (w.length + 1) fun k => A k * B k q)) := by
  refine ⟨_, zero_in hw, ?_⟩
  refine upto (P := fun k (o : List Int) v => ref12_through.l1 n_ d i w (rowF w.length fun k => sat (A k)) _ k o v) (w.length + 1) (fun K o => o = rowF w.length fun q => sat (sumK K fun k => A k * B k q)) ?_ ?_ _ ?_
  · rintro K o hK rfl
    have e1 : at? (rowF w.length fun k => sat (A k)) (K : Int) = some (sat (A K)) := rowF_at (by omega)
    refine .inr ⟨_, rfl, fun k hk => ⟨fun _ => ⟨_, e1, fun h0 => ?_, fun h0 => ⟨i64_of (by omega) (by omega), ?_⟩⟩, fun hx => absurd (by rw [rowF_len]; omega) (df hx)⟩⟩
    · have h0 : A K ≠ 0 := by have := dt h0; unfold sat at this; omega
      refine ⟨_, hB K (by omega) h0, _, e1, _, plus_in hw (fun q => sat_rng _) (fun q => sat_rng _) (sat_rng _), i64_of (by omega) (by omega), ?_⟩
      have : (rowF w.length fun q => min 2 (sat (sumK K fun k => A k * B k q) + sat (A K) * sat (B K q))) = rowF w.length fun q => sat (sumK (K + 1) fun k => A k * B k q) := rowF_congr fun q _ => by rw [sat_more, sumK_succ]
      rw [this]; exact hk
    · have h0 : A K = 0 := by have := df h0; unfold sat at this; omega
      have : (rowF w.length fun q => sat (sumK K fun k => A k * B k q)) = rowF w.length fun q => sat (sumK (K + 1) fun k => A k * B k q) := rowF_congr fun q _ => by rw [sumK_succ, h0]; simp
      rw [this]; exact hk
  · rintro o rfl k
    exact ⟨fun hx => absurd (dt hx) (by rw [rowF_len]; omega), fun _ => rfl⟩
  · rfl
def powN (f : List Int → Nat) : Nat → List Int → Nat
  | 0, u => if u = [] then 1 else 0
  | t + 1, u => cutS (fun a b => powN f t a * f b) u
theorem powN_succ (f : List Int → Nat) (t : Nat) (u : List Int) : powN f (t + 1) u = cutS (fun a b => powN f t a * f b) u := rfl
def powQ (f : List Int → Nat) (w : List Int) (p t q : Nat) : Nat := if p ≤ q then powN f t (seg w p q) else 0
def endQ (f : List Int → Nat) (w : List Int) (k q : Nat) : Nat := if k ≤ q then f (seg w k q) else 0
theorem powQ_succ {f : List Int → Nat} {w : List Int} {p t q : Nat} (hq : q ≤ w.length) : powQ f w p (t + 1) q = sumK (w.length + 1) fun k => powQ f w p t k * endQ f w k q := by
  unfold powQ endQ
  by_cases h : p ≤ q
  · rw [if_pos h, powN_succ, cutS_seg (q - p) p q _ (by omega) hq]
    refine sumK_congr fun k hk => ?_
    by_cases h1 : p ≤ k
    · by_cases h2 : k ≤ q
      · rw [if_pos ⟨h1, h2⟩, if_pos h1, if_pos h2]
      · rw [if_neg (by omega), if_neg h2]; simp
    · rw [if_neg (by omega), if_neg h1]; simp
  · rw [if_neg h]
    have : (fun k => (if p ≤ k then powN f t (seg w p k) else 0) * if k ≤ q then f (seg w k q) else 0) = fun _ => 0 := by
      funext k
      by_cases h1 : p ≤ k
      · rw [if_neg (show ¬ k ≤ q by omega)]; simp
      · rw [if_neg h1]; simp
    rw [this, sumK_zero]
theorem times_l2 {n_ : SDesc → Int → List Int → Int → List Int → Prop} {d : SDesc} {i : Int} {w : List Int} (hw : w.length ≤ 1000) {A : Nat → Nat} {B : Nat → Nat → Nat} (hB : ∀ k, k ≤ w.length → A k ≠ 0 → n_ d i w (k : Int) (rowF w.length fun q => sat (B k q))) (hz : ∀ k, B k k = 0) {X : List Int → Prop}
    (hX : X (rowF w.length fun q => sat (sumK (w.length + 1) fun k => A k * B k q))) : ∃ k, ref12_times.l2 n_ d i w (rowF w.length fun k => sat (A k)) X k (rowF w.length fun _ => 0) 0 := by
  refine upto (P := fun k (o : List Int) v => ref12_times.l2 n_ d i w (rowF w.length fun k => sat (A k)) X k o v) (w.length + 1) (fun K o => o = rowF w.length fun q => sat (sumK K fun k => A k * B k q)) ?_ ?_ _ rfl
  · rintro K o hK rfl
    have e1 : at? (rowF w.length fun k => sat (A k)) (K : Int) = some (sat (A K)) := rowF_at (by omega)
    refine .inr ⟨_, rfl, fun k hk => ⟨fun _ => ⟨_, e1, fun h0 => ?_, fun h0 => ⟨i64_of (by omega) (by omega), ?_⟩⟩, fun hx => absurd (by rw [rowF_len]; omega) (df hx)⟩⟩
    · have h0 : A K ≠ 0 := by have := dt h0; unfold sat at this; omega
      have es : (rowF w.length fun q => sat (B K q)).set (K : Int).toNat 0 = rowF w.length fun q => sat (B K q) := by
        rw [Int.toNat_natCast, rowF_set]
        refine rowF_congr fun q _ => ?_
        by_cases hq : q = K
        · subst hq; rw [if_pos rfl, hz]; rfl
        · rw [if_neg hq]
      refine ⟨_, hB K (by omega) h0, _, rowF_at (by omega), _, e1, _, by rw [es]; exact plus_in hw (fun q => sat_rng _) (fun q => sat_rng _) (sat_rng _), i64_of (by omega) (by omega), ?_⟩
      have : (rowF w.length fun q => min 2 (sat (sumK K fun k => A k * B k q) + sat (A K) * sat (B K q))) = rowF w.length fun q => sat (sumK (K + 1) fun k => A k * B k q) := rowF_congr fun q _ => by rw [sat_more, sumK_succ]
      rw [this]; exact hk
    · have h0 : A K = 0 := by have := df h0; unfold sat at this; omega
      have : (rowF w.length fun q => sat (sumK K fun k => A k * B k q)) = rowF w.length fun q => sat (sumK (K + 1) fun k => A k * B k q) := rowF_congr fun q _ => by rw [sumK_succ, h0]; simp
      rw [this]; exact hk
  · rintro o rfl k
    exact ⟨fun hx => absurd (dt hx) (by rw [rowF_len]; omega), fun _ => hX⟩
def triesN (w : List Int) (hi : Int) : Nat := if 0 ≤ hi ∧ hi ≤ (w.length : Int) + 1 then hi.toNat + 1 else w.length + 2
theorem times_in {n_ : SDesc → Int → List Int → Int → List Int → Prop} {d : SDesc} {i : Int} {w : List Int} (hw : w.length ≤ 1000) {p : Nat} (hp : p ≤ w.length) {f : List Int → Nat} (hf : f [] = 0) (lo hi : Int)
    (hB : ∀ k, p ≤ k → k ≤ w.length → n_ d i w (k : Int) (rowF w.length fun q => sat (endQ f w k q))) :
    ref12_times.b n_ d i w (p : Int) lo hi (rowF w.length fun q => sat (sumK (triesN w hi) fun t => if lo ≤ (t : Int) then powQ f w p t q else 0)) := by
  refine ⟨_, zero_in hw, _, rowF_at hp, _, zero_in hw, ?_⟩
  refine upto (P := fun k (s : List Int × List Int) v => ref12_times.l1 n_ d i w lo hi _ _ k s.1 s.2 v) (w.length + 2) (fun T s => (s.1 = rowF w.length fun q => sat (powQ f w p T q)) ∧ (s.2 = rowF w.length fun q => sat (sumK T fun t => if lo ≤ (t : Int) then powQ f w p t q else 0)) ∧ (0 ≤ hi → (T : Int) ≤ hi)) ?_ ?_ (_, _) ⟨?_, rfl, fun h => by omega⟩
  · rintro T ⟨now, out⟩ hT ⟨h1, h2, h3⟩
    simp only at h1 h2
    subst h1; subst h2
    have es : ∀ q, sumK (T + 1) (fun t => if lo ≤ (t : Int) then powQ f w p t q else 0) = sumK T (fun t => if lo ≤ (t : Int) then powQ f w p t q else 0) + if lo ≤ (T : Int) then powQ f w p T q else 0 := fun q => sumK_succ _ _
    have hplus : lo ≤ (T : Int) → ref12_plus (rowF w.length fun q => sat (sumK T fun t => if lo ≤ (t : Int) then powQ f w p t q else 0)) (rowF w.length fun q => sat (powQ f w p T q)) 1 (rowF w.length fun q => sat (sumK (T + 1) fun t => if lo ≤ (t : Int) then powQ f w p t q else 0)) := fun hl => by
      have := plus_in hw (g := fun q => sat (sumK T fun t => if lo ≤ (t : Int) then powQ f w p t q else 0)) (h := fun q => sat (powQ f w p T q)) (t := 1) (fun q => sat_rng _) (fun q => sat_rng _) (by omega)
      have e : (rowF w.length fun q => min 2 (sat (sumK T fun t => if lo ≤ (t : Int) then powQ f w p t q else 0) + 1 * sat (powQ f w p T q))) = rowF w.length fun q => sat (sumK (T + 1) fun t => if lo ≤ (t : Int) then powQ f w p t q else 0) := rowF_congr fun q _ => by rw [sat_plus, es, if_pos hl]
      rw [e] at this; exact this
    have hsame : ¬ lo ≤ (T : Int) → (rowF w.length fun q => sat (sumK T fun t => if lo ≤ (t : Int) then powQ f w p t q else 0)) = rowF w.length fun q => sat (sumK (T + 1) fun t => if lo ≤ (t : Int) then powQ f w p t q else 0) := fun hl => rowF_congr fun q _ => by rw [es, if_neg hl, Nat.add_zero]
    by_cases hhi : (T : Int) = hi
    · -- the last one
      have eT : triesN w hi = T + 1 := by unfold triesN; rw [if_pos (by omega)]; omega
      refine .inl fun k => ⟨i64_of (by omega) (by omega), fun _ => ⟨fun hl => ⟨_, hplus (dt hl), fun _ => ?_, fun h => absurd hhi (ne_of_beq_false h)⟩, fun hl => ⟨fun _ => ?_, fun h => absurd hhi (ne_of_beq_false h)⟩⟩, fun hx => absurd (by omega) (df hx)⟩
      · show rowF _ _ = rowF _ _
        rw [eT]
      · show rowF _ _ = rowF _ _
        rw [eT, hsame (df hl)]
    · have e2 : (rowF w.length fun q => sat (sumK (w.length + 1) fun k => powQ f w p T k * endQ f w k q)) = rowF w.length fun q => sat (powQ f w p (T + 1) q) := rowF_congr fun q hq => by rw [powQ_succ hq]
      have inner : ∀ (out' : List Int) (k : Nat), (ref12_times.l1 n_ d i w lo hi (rowF w.length fun q => sat (sumK (triesN w hi) fun t => if lo ≤ (t : Int) then powQ f w p t q else 0)) (ref12_times.j1 (rowF w.length fun q => sat (sumK (triesN w hi) fun t => if lo ≤ (t : Int) then powQ f w p t q else 0))) k (rowF w.length fun q => sat (powQ f w p (T + 1) q)) out' ((T : Int) + 1)) →
          ref12_times.j3 n_ (ref12_times.l1 n_ d i w lo hi (rowF w.length fun q => sat (sumK (triesN w hi) fun t => if lo ≤ (t : Int) then powQ f w p t q else 0)) (ref12_times.j1 (rowF w.length fun q => sat (sumK (triesN w hi) fun t => if lo ≤ (t : Int) then powQ f w p t q else 0))) k) d i w hi (rowF w.length fun q => sat (sumK (triesN w hi) fun t => if lo ≤ (t : Int) then powQ f w p t q else 0)) (rowF w.length fun q => sat (powQ f w p T q)) (T : Int) out' := by
        intro out' k hk
        refine ⟨fun h => absurd (eq_of_beq h) hhi, fun _ => ⟨_, zero_in hw, ?_⟩⟩
        refine times_l2 hw (A := fun k => powQ f w p T k) (B := endQ f w) (fun k hk hA => hB k (by
          rcases Nat.lt_or_ge k p with h | h
          · exact absurd (if_neg (by omega)) hA
          · exact h) hk) (fun k => by unfold endQ; rw [if_pos (Nat.le_refl k), seg_self, hf]) ?_
        rw [e2]
        exact ⟨i64_of (by omega) (by omega), hk⟩
      refine .inr ⟨(_, _), ⟨rfl, rfl, fun h => by have := h3 h; omega⟩, fun k hk => ⟨i64_of (by omega) (by omega), fun _ => ⟨fun hl => ⟨_, hplus (dt hl), inner _ k hk⟩, fun hl => by rw [hsame (df hl)]; exact inner _ k hk⟩, fun hx => absurd (by omega) (df hx)⟩⟩
  · rintro ⟨now, out⟩ ⟨h1, h2, h3⟩ k
    simp only at h1 h2
    subst h1; subst h2
    refine ⟨i64_of (by omega) (by omega), fun hx => absurd (dt hx) (by omega), fun _ => ?_⟩
    show rowF _ _ = rowF _ _
    have eT : triesN w hi = w.length + 2 := by unfold triesN; rw [if_neg (by omega)]
    rw [eT]
  · simp only
    rw [Int.toNat_natCast, rowF_set]
    refine rowF_congr fun q hq => ?_
    unfold powQ powN
    by_cases h : q = p
    · subst h; rw [if_pos rfl, if_pos (Nat.le_refl q), seg_self]; rfl
    · rw [if_neg h]
      by_cases h1 : p ≤ q
      · rw [if_pos h1, if_neg]
        · rfl
        · rw [seg_cons (by omega) hq]; simp
      · rw [if_neg h1]; rfl
end Go.Proofs.YtdidjelkkanenaaDoor.V
namespace Go.Proofs.YtdidjelkkanenaaDoor.V
open Go
set_option linter.unusedVariables false
theorem cutS_assoc : ∀ (u : List Int) (g : List Int → List Int → List Int → Nat), cutS (fun a c => cutS (fun x y => g x y c) a) u = cutS (fun x e => cutS (fun y c => g x y c) e) u
  | [], g => rfl
  | c :: u, g => by
    have ih := cutS_assoc u (fun x y e => g (c :: x) y e)
    have e1 : (fun a b => cutS (fun x y => g x y b) (c :: a)) = fun a b => g [] (c :: a) b + cutS (fun x y => g (c :: x) y b) a := by
      funext a b; rfl
    have h1 : cutS (fun a b => cutS (fun x y => g x y b) (c :: a)) u = cutS (fun y e => g [] (c :: y) e) u + cutS (fun x e => cutS (fun y b => g (c :: x) y b) e) u := by rw [e1, cutS_add, ih]
    have h2 : cutS (fun a c => cutS (fun x y => g x y c) a) (c :: u) = g [] [] (c :: u) + cutS (fun a b => cutS (fun x y => g x y b) (c :: a)) u := rfl
    have h3 : cutS (fun x e => cutS (fun y c => g x y c) e) (c :: u) = (g [] [] (c :: u) + cutS (fun y e => g [] (c :: y) e) u) + cutS (fun x e => cutS (fun y b => g (c :: x) y b) e) u := rfl
    exact h2.trans ((congrArg _ h1).trans ((Nat.add_assoc _ _ _).symm.trans h3.symm))
theorem cutS_mul (F : List Int → List Int → Nat) (m : Nat) : ∀ u, cutS (fun a b => F a b * m) u = cutS F u * m
  | [] => rfl
  | c :: u => by
    unfold cutS
    rw [cutS_mul (fun a b => F (c :: a) b) m u, Nat.add_mul]
theorem cutS_lmul (F : List Int → List Int → Nat) (m : Nat) : ∀ u, cutS (fun a b => m * F a b) u = m * cutS F u
  | [] => rfl
  | c :: u => by
    unfold cutS
    rw [cutS_lmul (fun a b => F (c :: a) b) m u, Nat.mul_add]
theorem cutS_sumK (F : Nat → List Int → List Int → Nat) (u : List Int) : ∀ T, cutS (fun a b => sumK T fun t => F t a b) u = sumK T fun t => cutS (F t) u
  | 0 => by simp only [sumK, List.range_zero, List.map_nil, List.sum_nil]; exact cutS_zero u
  | T + 1 => by
    have e : (fun a b => sumK (T + 1) fun t => F t a b) = fun a b => (sumK T fun t => F t a b) + F T a b := by funext a b; rw [sumK_succ]
    rw [e, cutS_add, cutS_sumK F u T, sumK_succ]
theorem sumK_lmul (m : Nat) (f : Nat → Nat) : ∀ T, m * sumK T f = sumK T fun t => m * f t
  | 0 => by simp [sumK]
  | T + 1 => by rw [sumK_succ, sumK_succ, Nat.mul_add, sumK_lmul m f T]
theorem sumK_front (T : Nat) (f : Nat → Nat) : sumK (T + 1) f = f 0 + sumK T fun t => f (t + 1) := by
  induction T with
  | zero => simp [sumK]
  | succ T ih => rw [sumK_succ, ih, sumK_succ]; omega
theorem cut_first (F : List Int → List Int → Nat) : ∀ u, (∀ a b, a ++ b = u → a ≠ [] → F a b = 0) → cutS F u = F [] u
  | [], _ => rfl
  | c :: u, h => by
    unfold cutS
    rw [cutS_congr (G := fun _ _ => 0) fun a b e => h (c :: a) b (by simp [e]) (by simp), cutS_zero]
    rfl
section
variable {f : List Int → Nat}
theorem pow_left : ∀ (t : Nat) (u : List Int), powN f (t + 1) u = cutS (fun a b => f a * powN f t b) u
  | 0, u => by
    rw [powN_succ]
    have e1 : cutS (fun a b => powN f 0 a * f b) u = f u := by
      rw [cut_first _ u fun a b _ ha => by simp [powN, ha]]
      simp [powN]
    have e2 : cutS (fun a b => f a * powN f 0 b) u = f u := by
      rw [cutS_end fun a b _ hb => by simp [powN, hb]]
      simp [powN]
    rw [e1, e2]
  | t + 1, u => by
    rw [powN_succ]
    have e1 : (fun a b => powN f (t + 1) a * f b) = fun a c => cutS (fun x y => f x * powN f t y * f c) a := by
      funext a c
      rw [pow_left t a, cutS_mul]
    have e2 : (fun x e => cutS (fun y c => f x * powN f t y * f c) e) = fun x e => f x * powN f (t + 1) e := by
      funext x e
      rw [powN_succ, ← cutS_lmul]
      congr 1
      funext y c
      rw [Nat.mul_assoc]
    rw [e1, cutS_assoc, e2]
theorem pow_none (hf : f [] = 0) : ∀ (t : Nat) (u : List Int), u.length < t → powN f t u = 0
  | 0, u, h => by omega
  | t + 1, u, h => by
    rw [powN_succ]
    rw [cutS_congr (G := fun _ _ => 0) fun a b e => ?_, cutS_zero]
    by_cases hb : b = []
    · rw [hb, hf, Nat.mul_zero]
    · have hl : a.length < t := by
        have := congrArg List.length e
        have := List.length_pos_iff.2 hb
        simp at *
        omega
      rw [pow_none hf t a hl, Nat.zero_mul]
theorem pow_more (hf : f [] = 0) {T T' : Nat} {u : List Int} (h : u.length < T) (h' : T ≤ T') (c : Nat → Bool) : (sumK T' fun t => if c t = true then powN f t u else 0) = sumK T fun t => if c t = true then powN f t u else 0 := by
  obtain ⟨m, rfl⟩ : ∃ m, T' = T + m := ⟨T' - T, by omega⟩
  clear h'
  induction m with
  | zero => rfl
  | succ m ih =>
    rw [← Nat.add_assoc, sumK_succ, ih, pow_none hf (T + m) u (by omega)]
    simp
theorem star_pow (hf : f [] = 0) {g : List Int → Nat} (hg : ∀ u, g u = (if u = [] then 1 else 0) + cutS (fun a b => f a * g b) u) : ∀ (m : Nat) (u : List Int), u.length ≤ m → ∀ T, u.length < T → g u = sumK T fun t => powN f t u
  | m, u, hm, T, hT => by
    obtain ⟨T', rfl⟩ : ∃ T', T = T' + 1 := ⟨T - 1, by omega⟩
    rw [hg, sumK_front]
    congr 1
    have e : cutS (fun a b => f a * g b) u = cutS (fun a b => sumK T' fun t => f a * powN f t b) u := by
      refine cutS_congr fun a b e => ?_
      by_cases ha : a = []
      · rw [ha, hf, Nat.zero_mul, ← sumK_lmul, Nat.zero_mul]
      · have hl : b.length < u.length := by
          have := congrArg List.length e
          have := List.length_pos_iff.2 ha
          simp at *
          omega
        cases m with
        | zero => omega
        | succ m => rw [star_pow hf hg m b (by omega) T' (by omega), sumK_lmul]
    rw [e, cutS_sumK (fun t a b => f a * powN f t b)]
    exact sumK_congr fun t _ => (pow_left t u).symm
theorem rep_pow {R : Int → Int → List Int → Nat} (hR : ∀ lo hi u, R lo hi u = (if lo = 0 ∧ u = [] then 1 else 0) + if 0 < hi then cutS (fun a b => f a * R (max (lo - 1) 0) (hi - 1) b) u else 0) : ∀ (h : Nat) (lo : Int) (u : List Int), 0 ≤ lo → lo ≤ (h : Int) → R lo (h : Int) u = sumK (h + 1) fun t => if lo ≤ (t : Int) then powN f t u else 0
  | 0, lo, u, h0, h1 => by
    have : lo = 0 := by omega
    subst this
    rw [hR, if_neg (show ¬ 0 < ((0 : Nat) : Int) by omega)]
    simp [sumK, powN]
  | h + 1, lo, u, h0, h1 => by
    rw [hR, if_pos (show 0 < ((h + 1 : Nat) : Int) by omega), sumK_front]
    have e0 : ((h + 1 : Nat) : Int) - 1 = (h : Int) := by omega
    rw [e0]
    congr 1
    · by_cases hl : lo = 0
      · subst hl; simp [powN]
      · rw [if_neg (by omega), if_neg (by omega)]
    · have e : cutS (fun a b => f a * R (max (lo - 1) 0) (h : Int) b) u = cutS (fun a b => sumK (h + 1) fun t => f a * if max (lo - 1) 0 ≤ (t : Int) then powN f t b else 0) u := by
        refine cutS_congr fun a b _ => ?_
        rw [rep_pow hR h (max (lo - 1) 0) b (by omega) (by omega), sumK_lmul]
      rw [e, cutS_sumK (fun t a b => f a * if max (lo - 1) 0 ≤ (t : Int) then powN f t b else 0)]
      refine sumK_congr fun t _ => ?_
      by_cases hl : lo ≤ ((t + 1 : Nat) : Int)
      · rw [if_pos hl, pow_left]
        refine cutS_congr fun a b _ => ?_
        rw [if_pos (by omega)]
      · rw [if_neg hl, cutS_congr (G := fun _ _ => 0) fun a b _ => by rw [if_neg (by omega), Nat.mul_zero], cutS_zero]
end
end Go.Proofs.YtdidjelkkanenaaDoor.V
namespace Go.Proofs.YtdidjelkkanenaaDoor.V
open Go
set_option linter.unusedVariables false
theorem seg_len {w : List Int} {p q : Nat} (h : p ≤ q) (hq : q ≤ w.length) : (seg w p q).length = q - p := by
  unfold seg
  rw [List.length_drop, List.length_take]; omega
theorem seg_nil {w : List Int} {p q : Nat} (h : p ≤ q) (hq : q ≤ w.length) : seg w p q = [] ↔ q = p := by
  constructor
  · intro e
    have := seg_len h hq
    rw [e] at this
    simp at this; omega
  · rintro rfl; exact seg_self w q
theorem pm_cnt {d : List SNode} (hd : ROk d) (r : Int) : (pm d r).count [] = 0 := by
  rw [List.count_eq_zero]
  intro h
  obtain ⟨x, q, e, _⟩ := PM_rng hd (r.toNat + 1) r (by omega) _ h
  cases e
def rowN (d : List SNode) (i : Int) (w : List Int) (p : Nat) : List Int := rowF w.length fun q => sat (endQ (nodeW d i) w p q)
theorem conv_row {f g : List Int → Nat} {w : List Int} {p q : Nat} (hq : q ≤ w.length) : (if p ≤ q then cutS (fun a b => f a * g b) (seg w p q) else 0) = sumK (w.length + 1) fun k => endQ f w p k * endQ g w k q := by
  unfold endQ
  by_cases h : p ≤ q
  · rw [if_pos h, cutS_seg (q - p) p q _ (by omega) hq]
    refine sumK_congr fun k hk => ?_
    by_cases h1 : p ≤ k
    · by_cases h2 : k ≤ q
      · rw [if_pos ⟨h1, h2⟩, if_pos h1, if_pos h2]
      · rw [if_neg (by omega), if_neg h2]; simp
    · rw [if_neg (by omega), if_neg h1]; simp
  · rw [if_neg h]
    have : (fun k => (if p ≤ k then f (seg w p k) else 0) * if k ≤ q then g (seg w k q) else 0) = fun _ => 0 := by
      funext k
      by_cases h1 : p ≤ k
      · rw [if_neg (show ¬ k ≤ q by omega)]; simp
      · rw [if_neg h1]; simp
    rw [this, sumK_zero]
section
variable {d : List SNode} (hd : ROk d) {i : Int} {n : SNode} (hn : at? d i = some n) {w : List Int} {p : Nat}
include hd hn
theorem row_empty (h : n.1 = 1) : rowN d i w p = (rowF w.length fun _ => 0).set p 1 := by
  rw [rowF_set]
  refine rowF_congr fun q hq => ?_
  unfold endQ
  by_cases h1 : p ≤ q
  · rw [if_pos h1, node_empty hd hn h]
    by_cases h2 : q = p
    · rw [if_pos ((seg_nil h1 hq).2 h2), if_pos h2]; rfl
    · rw [if_neg (fun e => h2 ((seg_nil h1 hq).1 e)), if_neg h2]; rfl
  · rw [if_neg h1, if_neg (by omega)]; rfl
theorem row_bytes (h : n.1 = 2) : rowN d i w p = if hlt : p < w.length then (if n.2.2.2.2.2.1.has (w[p]).toNat = true then (rowF w.length fun _ => 0).set (p + 1) 1 else rowF w.length fun _ => 0) else rowF w.length fun _ => 0 := by
  have key : ∀ q, q ≤ w.length → endQ (nodeW d i) w p q = if hlt : p < w.length then (if n.2.2.2.2.2.1.has (w[p]).toNat = true ∧ q = p + 1 then 1 else 0) else 0 := by
    intro q hq
    unfold endQ
    by_cases h1 : p ≤ q
    · rw [if_pos h1, node_bytes hd hn h]
      by_cases h2 : q = p
      · subst h2
        rw [seg_self]
        simp only
        split
        · rw [if_neg (by omega)]
        · rfl
      · have hlt : p < w.length := by omega
        rw [dif_pos hlt, seg_cons (by omega) hq]
        simp only
        by_cases h3 : q = p + 1
        · have : seg w (p + 1) q = [] := (seg_nil (by omega) hq).2 h3
          rw [this]
          simp [h3]
        · have : ¬ seg w (p + 1) q = [] := fun e => h3 ((seg_nil (by omega) hq).1 e)
          simp [this, h3]
    · rw [if_neg h1]
      split
      · rw [if_neg (by omega)]
      · rfl
  by_cases hlt : p < w.length
  · rw [dif_pos hlt]
    by_cases hh : n.2.2.2.2.2.1.has (w[p]).toNat = true
    · rw [if_pos hh, rowF_set]
      refine rowF_congr fun q hq => ?_
      rw [key q hq, dif_pos hlt]
      by_cases h3 : q = p + 1
      · rw [if_pos ⟨hh, h3⟩, if_pos h3]; rfl
      · rw [if_neg (by omega), if_neg h3]; rfl
    · rw [if_neg hh]
      refine rowF_congr fun q hq => ?_
      rw [key q hq, dif_pos hlt, if_neg (fun e => hh e.1)]; rfl
  · rw [dif_neg hlt]
    refine rowF_congr fun q hq => ?_
    rw [key q hq, dif_neg hlt]; rfl
theorem row_seq (h : n.1 = 4) : rowN d i w p = rowF w.length fun q => sat (sumK (w.length + 1) fun k => endQ (nodeW d n.2.1) w p k * endQ (nodeW d n.2.2.1) w k q) := by
  refine rowF_congr fun q hq => ?_
  rw [← conv_row hq]
  unfold endQ
  by_cases h1 : p ≤ q
  · rw [if_pos h1, if_pos h1, node_seq hd hn h]
  · rw [if_neg h1, if_neg h1]
theorem row_or (h : n.1 = 5) : rowN d i w p = rowF w.length fun q => min 2 (sat (endQ (nodeW d n.2.1) w p q) + 1 * sat (endQ (nodeW d n.2.2.1) w p q)) := by
  refine rowF_congr fun q hq => ?_
  rw [sat_plus]
  unfold endQ
  by_cases h1 : p ≤ q
  · rw [if_pos h1, if_pos h1, if_pos h1, node_or hd hn h]
  · rw [if_neg h1, if_neg h1, if_neg h1]
theorem part_none (h : n.1 = 6 ∨ n.1 = 7) : nodeW d n.2.1 [] = 0 := by
  have := nw_none hd hn h
  unfold nodeW
  simp only [wyn]
  rw [hds_st, this]
  simp only [List.replicate_zero, List.flatten_nil, List.append_nil]
  exact pm_cnt hd n.2.1
theorem row_star (h : n.1 = 6) : rowN d i w p = rowF w.length fun q => sat (sumK (triesN w (-1)) fun t => if (0 : Int) ≤ (t : Int) then powQ (nodeW d n.2.1) w p t q else 0) := by
  refine rowF_congr fun q hq => ?_
  have eT : triesN w (-1) = w.length + 2 := by unfold triesN; rw [if_neg (by omega)]
  rw [eT]
  unfold endQ powQ
  by_cases h1 : p ≤ q
  · rw [if_pos h1, star_pow (part_none hd hn (.inl h)) (fun u => node_star hd hn h u) _ (seg w p q) (Nat.le_refl _) (w.length + 2) (by rw [seg_len h1 hq]; omega)]
    refine congrArg sat (sumK_congr fun t _ => ?_)
    rw [if_pos (by omega), if_pos h1]
  · rw [if_neg h1]
    have : (fun t : Nat => if (0 : Int) ≤ (t : Int) then (if p ≤ q then powN (nodeW d n.2.1) t (seg w p q) else 0) else 0) = fun _ => 0 := by
      funext t; rw [if_neg h1]; simp
    rw [this, sumK_zero]
theorem row_rep (h : n.1 = 7) : rowN d i w p = rowF w.length fun q => sat (sumK (triesN w n.2.2.2.2.1) fun t => if n.2.2.2.1 ≤ (t : Int) then powQ (nodeW d n.2.1) w p t q else 0) := by
  obtain ⟨r0, r1, r2⟩ := hd.rep _ n hn h
  obtain ⟨hi, hhi⟩ : ∃ hi : Nat, n.2.2.2.2.1 = (hi : Int) := ⟨n.2.2.2.2.1.toNat, by omega⟩
  refine rowF_congr fun q hq => ?_
  unfold endQ powQ
  by_cases h1 : p ≤ q
  · rw [if_pos h1, node_rep hd hn h, hhi, rep_pow (R := fun lo hi u => wyn d u [(2, i, lo, hi)]) (f := nodeW d n.2.1) (fun lo hi u => item_rep hd hn h lo hi u) hi n.2.2.2.1 (seg w p q) r0 (by omega)]
    have e1 : (sumK (triesN w (hi : Int)) fun t => if n.2.2.2.1 ≤ (t : Int) then (if p ≤ q then powN (nodeW d n.2.1) t (seg w p q) else 0) else 0) = sumK (triesN w (hi : Int)) fun t => if decide (n.2.2.2.1 ≤ (t : Int)) = true then powN (nodeW d n.2.1) t (seg w p q) else 0 := sumK_congr fun t _ => by
      rw [if_pos h1]
      simp
    have e2 : (sumK (hi + 1) fun t => if n.2.2.2.1 ≤ (t : Int) then powN (nodeW d n.2.1) t (seg w p q) else 0) = sumK (hi + 1) fun t => if decide (n.2.2.2.1 ≤ (t : Int)) = true then powN (nodeW d n.2.1) t (seg w p q) else 0 := sumK_congr fun t _ => by simp
    rw [e1, e2]
    unfold triesN
    by_cases h2 : (hi : Int) ≤ (w.length : Int) + 1
    · rw [if_pos (by omega)]
      congr 2
    · rw [if_neg (by omega), pow_more (part_none hd hn (.inr h)) (T := w.length + 2) (T' := hi + 1) (by rw [seg_len h1 hq]; omega) (by omega)]
  · rw [if_neg h1]
    have : (fun t : Nat => if n.2.2.2.1 ≤ (t : Int) then (if p ≤ q then powN (nodeW d n.2.1) t (seg w p q) else 0) else 0) = fun _ => 0 := by
      funext t; rw [if_neg h1]; simp
    rw [this, sumK_zero]
theorem row_text (h : n.1 = 3) : rowN d i w p = if p + n.2.2.2.2.2.2.length ≤ w.length ∧ seg w p (p + n.2.2.2.2.2.2.length) = (n.2.2.2.2.2.2.map fun b => (b.toNat : Int)) then (rowF w.length fun _ => 0).set (p + n.2.2.2.2.2.2.length) 1 else rowF w.length fun _ => 0 := by
  have key : ∀ q, q ≤ w.length → endQ (nodeW d i) w p q = if (p + n.2.2.2.2.2.2.length ≤ w.length ∧ seg w p (p + n.2.2.2.2.2.2.length) = (n.2.2.2.2.2.2.map fun b => (b.toNat : Int))) ∧ q = p + n.2.2.2.2.2.2.length then 1 else 0 := by
    intro q hq
    unfold endQ
    by_cases h1 : p ≤ q
    · rw [if_pos h1, node_text hd hn h]
      by_cases h2 : q = p + n.2.2.2.2.2.2.length
      · subst h2
        by_cases h3 : seg w p (p + n.2.2.2.2.2.2.length) = (n.2.2.2.2.2.2.map fun b => (b.toNat : Int))
        · rw [if_pos h3, if_pos ⟨⟨hq, h3⟩, rfl⟩]
        · rw [if_neg h3, if_neg fun e => h3 e.1.2]
      · rw [if_neg, if_neg fun e => h2 e.2]
        intro e
        have := congrArg List.length e
        rw [seg_len h1 hq, List.length_map] at this
        omega
    · rw [if_neg h1, if_neg (by omega)]
  by_cases hc : p + n.2.2.2.2.2.2.length ≤ w.length ∧ seg w p (p + n.2.2.2.2.2.2.length) = (n.2.2.2.2.2.2.map fun b => (b.toNat : Int))
  · rw [if_pos hc, rowF_set]
    refine rowF_congr fun q hq => ?_
    rw [key q hq]
    by_cases h3 : q = p + n.2.2.2.2.2.2.length
    · rw [if_pos ⟨hc, h3⟩, if_pos h3]; rfl
    · rw [if_neg fun e => h3 e.2, if_neg h3]; rfl
  · rw [if_neg hc]
    refine rowF_congr fun q hq => ?_
    rw [key q hq, if_neg fun e => hc e.1]; rfl
theorem row_frame (h : n.1 = 8) (hw : ∀ c ∈ w, 0 ≤ c) : rowN d i w p = if hlt : p < w.length then (if p + 1 + (w[p]).toNat ≤ w.length then (rowF w.length fun _ => 0).set (p + 1 + (w[p]).toNat) (sat (nodeW d n.2.1 (seg w (p + 1) (p + 1 + (w[p]).toNat)))) else rowF w.length fun _ => 0) else rowF w.length fun _ => 0 := by
  have hs : ∀ a b, ∀ c ∈ seg w a b, 0 ≤ c := fun a b c hc => hw c (List.mem_of_mem_take (List.mem_of_mem_drop hc))
  have key : ∀ q, q ≤ w.length → endQ (nodeW d i) w p q = if hlt : p < w.length then (if q = p + 1 + (w[p]).toNat then nodeW d n.2.1 (seg w (p + 1) q) else 0) else 0 := by
    intro q hq
    unfold endQ
    by_cases h1 : p ≤ q
    · rw [if_pos h1]
      by_cases h2 : q = p
      · subst h2
        have f0 : nodeW d i [] = 0 := node_frame hd hn h [] (by simp)
        rw [seg_self, f0]
        split
        · rw [if_neg (by omega)]
        · rfl
      · have hlt : p < w.length := by omega
        have h0 := hw _ (List.getElem_mem hlt)
        have hsq := hs p q
        rw [seg_cons (by omega) hq] at hsq
        have f1 : nodeW d i (w[p] :: seg w (p + 1) q) = if ((seg w (p + 1) q).length : Int) = w[p] then nodeW d n.2.1 (seg w (p + 1) q) else 0 := node_frame hd hn h _ hsq
        rw [dif_pos hlt, seg_cons (by omega) hq, f1]
        rw [seg_len (by omega) hq]
        by_cases h3 : q = p + 1 + (w[p]).toNat
        · rw [if_pos h3, if_pos (by omega)]
        · rw [if_neg h3, if_neg (by omega)]
    · rw [if_neg h1]
      split
      · rw [if_neg (by omega)]
      · rfl
  by_cases hlt : p < w.length
  · rw [dif_pos hlt]
    by_cases hh : p + 1 + (w[p]).toNat ≤ w.length
    · rw [if_pos hh, rowF_set]
      refine rowF_congr fun q hq => ?_
      rw [key q hq, dif_pos hlt]
      by_cases h3 : q = p + 1 + (w[p]).toNat
      · rw [if_pos h3, if_pos h3, h3]
      · rw [if_neg h3, if_neg h3]; rfl
    · rw [if_neg hh]
      refine rowF_congr fun q hq => ?_
      rw [key q hq, dif_pos hlt, if_neg (by omega)]; rfl
  · rw [dif_neg hlt]
    refine rowF_congr fun q hq => ?_
    rw [key q hq, dif_neg hlt]; rfl
theorem row_wide (h : n.1 = 9) (hw : ∀ c ∈ w, 0 ≤ c) : rowN d i w p = if hlt : p + 1 < w.length then (if p + 2 + (256 * (w[p]) + w[p + 1]).toNat ≤ w.length then (rowF w.length fun _ => 0).set (p + 2 + (256 * (w[p]) + w[p + 1]).toNat) (sat (nodeW d n.2.1 (seg w (p + 2) (p + 2 + (256 * (w[p]) + w[p + 1]).toNat)))) else rowF w.length fun _ => 0) else rowF w.length fun _ => 0 := by
  have hs : ∀ a b, ∀ c ∈ seg w a b, 0 ≤ c := fun a b c hc => hw c (List.mem_of_mem_take (List.mem_of_mem_drop hc))
  have key : ∀ q, q ≤ w.length → endQ (nodeW d i) w p q = if hlt : p + 1 < w.length then (if q = p + 2 + (256 * (w[p]) + w[p + 1]).toNat then nodeW d n.2.1 (seg w (p + 2) q) else 0) else 0 := by
    intro q hq
    unfold endQ
    by_cases h1 : p ≤ q
    · rw [if_pos h1]
      by_cases h2 : q = p
      · subst h2
        have f0 : nodeW d i [] = 0 := node_wide hd hn h [] (by simp)
        rw [seg_self, f0]
        split
        · rw [if_neg (by omega)]
        · rfl
      · have hsq := hs p q
        by_cases h4 : q = p + 1
        · rw [seg_cons (by omega) hq, (seg_nil (by omega) hq).2 h4] at hsq
          have f1 : nodeW d i [w[p]'(by omega)] = 0 := node_wide hd hn h _ hsq
          rw [seg_cons (by omega) hq, (seg_nil (by omega) hq).2 h4, f1]
          split
          · rw [if_neg (by omega)]
          · rfl
        · have hlt : p + 1 < w.length := by omega
          have h0 := hw _ (List.getElem_mem (show p < w.length by omega))
          have h5 := hw _ (List.getElem_mem hlt)
          rw [seg_cons (by omega) hq, seg_cons (by omega) hq] at hsq
          have f1 : nodeW d i (w[p] :: w[p + 1] :: seg w (p + 1 + 1) q) = if ((seg w (p + 1 + 1) q).length : Int) = 256 * w[p] + w[p + 1] then nodeW d n.2.1 (seg w (p + 1 + 1) q) else 0 := node_wide hd hn h _ hsq
          rw [dif_pos hlt, seg_cons (by omega) hq, seg_cons (by omega) hq, f1]
          rw [seg_len (by omega) hq]
          by_cases h3 : q = p + 2 + (256 * (w[p]) + w[p + 1]).toNat
          · rw [if_pos h3, if_pos (by omega)]
          · rw [if_neg h3, if_neg (by omega)]
    · rw [if_neg h1]
      split
      · rw [if_neg (by omega)]
      · rfl
  by_cases hlt : p + 1 < w.length
  · rw [dif_pos hlt]
    by_cases hh : p + 2 + (256 * (w[p]) + w[p + 1]).toNat ≤ w.length
    · rw [if_pos hh, rowF_set]
      refine rowF_congr fun q hq => ?_
      rw [key q hq, dif_pos hlt]
      by_cases h3 : q = p + 2 + (256 * (w[p]) + w[p + 1]).toNat
      · rw [if_pos h3, if_pos h3, h3]
      · rw [if_neg h3, if_neg h3]; rfl
    · rw [if_neg hh]
      refine rowF_congr fun q hq => ?_
      rw [key q hq, dif_pos hlt, if_neg (by omega)]; rfl
  · rw [dif_neg hlt]
    refine rowF_congr fun q hq => ?_
    rw [key q hq, dif_neg hlt]; rfl
end
end Go.Proofs.YtdidjelkkanenaaDoor.V
namespace Go.Proofs.YtdidjelkkanenaaDoor.V
open Go
set_option linter.unusedVariables false
theorem strB_back (s : Str) : strB (s.map fun b => (b.toNat : Int)) = s := by
  unfold strB
  rw [List.map_map]
  have : ∀ b ∈ s, ((fun n : Int => UInt8.ofNat n.toNat) ∘ fun b : UInt8 => (b.toNat : Int)) b = id b := fun b _ => by simp
  rw [List.map_congr_left this, List.map_id]
theorem strB_iff {l : List Int} (hl : ∀ c ∈ l, InR .u8 c) {s : Str} : strB l = s ↔ l = s.map fun b => (b.toNat : Int) := by
  constructor
  · rintro rfl
    unfold strB
    rw [List.map_map]
    have : ∀ c ∈ l, ((fun b : UInt8 => (b.toNat : Int)) ∘ fun n : Int => UInt8.ofNat n.toNat) c = id c := fun c hc => by
      have := inR_u8.1 (hl c hc)
      simp only [Function.comp, id, UInt8.toNat_ofNat']
      omega
    rw [List.map_congr_left this, List.map_id]
  · rintro rfl
    exact strB_back s
theorem ends_in {d : List SNode} (hd : ROk d) (ht : ∀ n ∈ d, n.2.2.2.2.2.2.length ≤ 140737488351232) : ∀ (k : Nat) (i : Int) (n : SNode), i < (k : Int) → at? d i = some n → ∀ (w : List Int), w.length ≤ 1000 → (∀ c ∈ w, InR .u8 c) → ∀ p : Nat, p ≤ w.length → ref12_ends.n k d i w (p : Int) (rowN d i w p)
  | 0, i, n, hi, hn, w, hw, hu, p, hp => by have := at_bound hn; omega
  | k + 1, i, n, hi, hn, w, hw, hu, p, hp => by
    have ih := ends_in hd ht k
    have hw0 : ∀ c ∈ w, 0 ≤ c := fun c hc => (inR_u8.1 (hu c hc)).1
    have hk9 := hd.kind _ n hn
    have z : ∀ q : Nat, q ≤ w.length → at? (rowF w.length fun _ => (0 : Int)) (q : Int) = some 0 := fun q hq => rowF_at hq
    have hm : n ∈ d := by
      obtain ⟨j, _, hj⟩ := at_nn hn
      exact List.mem_of_getElem? hj
    have no : ∀ {a : Int}, n.1 ≠ a → ¬ (n.1 == a) = true := fun h e => h (eq_of_beq e)
    refine ⟨n, hn, _, zero_in hw, fun h => ⟨0, z p hp, ?_⟩, fun k1 => ⟨fun h => ?_, fun k2 => ⟨fun h => ?_, fun k3 => ⟨fun h => ?_, fun k4 => ⟨fun h => ?_, fun k5 => ⟨fun h => ?_, fun k6 => ⟨fun h => ?_, fun k7 => ⟨fun h => ?_, fun k8 => ⟨fun h => ?_, fun k9 => ?_⟩⟩⟩⟩⟩⟩⟩⟩⟩
    · rw [row_empty hd hn (eq_of_beq h), Int.toNat_natCast]
    · -- a byte of a class
      rw [row_bytes hd hn (eq_of_beq h)]
      by_cases hlt : p < w.length
      · rw [dif_pos hlt]
        have hat : at? w (p : Int) = some w[p] := by rw [at_nat]; simp [hlt]
        refine ⟨w[p], fun _ => hat, _, fun _ => ref01_Has_u8 (hu _ (List.getElem_mem hlt)), fun hb => ?_, fun hb => ?_⟩
        · simp only [Bool.and_eq_true, decide_eq_true_eq] at hb
          have e : (p : Int) + 1 = ((p + 1 : Nat) : Int) := by omega
          rw [if_pos hb.2, e]
          exact ⟨i64_of (by omega) (by omega), 0, z _ (by omega), by rw [Int.toNat_natCast]⟩
        · have hh : ¬ n.2.2.2.2.2.1.has (w[p]).toNat = true := by
            intro e
            rw [e] at hb
            simp at hb; omega
          rw [if_neg hh]
      · rw [dif_neg hlt]
        exact ⟨0, fun hx => absurd (dt hx) (by omega), false, fun hx => absurd (dt hx) (by omega), fun hb => by simp at hb, fun _ => rfl⟩
    · -- a text
      rw [row_text hd hn (eq_of_beq h)]
      have htl := ht n hm
      have e : (p : Int) + (n.2.2.2.2.2.2.length : Int) = ((p + n.2.2.2.2.2.2.length : Nat) : Int) := by omega
      have hsu : ∀ c ∈ seg w p (p + n.2.2.2.2.2.2.length), InR .u8 c := fun c hc => hu c (List.mem_of_mem_take (List.mem_of_mem_drop hc))
      rw [e]
      refine ⟨i64_of (by omega) (by omega), _, rfl, fun hb => i64_of (by omega) (by omega), fun hb => ?_, _, rfl, fun hb => ?_, fun hb => ?_⟩
      · have := dt hb; omega
      · simp only [Bool.and_eq_true, decide_eq_true_eq, beq_iff_eq] at hb
        obtain ⟨b1, b2⟩ := hb
        have b2' : seg w p (p + n.2.2.2.2.2.2.length) = _ := (strB_iff hsu).1 b2
        rw [if_pos ⟨by omega, b2'⟩]
        exact ⟨i64_of (by omega) (by omega), 0, z _ (by omega), by rw [Int.toNat_natCast]⟩
      · rw [if_neg]
        rintro ⟨b1, b2⟩
        have b2' : strB ((w.take ((p + n.2.2.2.2.2.2.length : Nat) : Int).toNat).drop ((p : Nat) : Int).toNat) = n.2.2.2.2.2.2 := (strB_iff hsu).2 b2
        rw [b2'] at hb
        simp at hb; omega
    · -- one behind the other
      have h4 := eq_of_beq h
      obtain ⟨⟨a, b⟩, c, e⟩ := hd.two _ n hn (.inl h4)
      obtain ⟨m1, hm1⟩ := at_lt hn a b
      obtain ⟨m2, hm2⟩ := at_lt hn c e
      refine ⟨_, ih _ m1 (by omega) hm1 w hw hu p hp, _, through_in hw (A := fun k => endQ (nodeW d n.2.1) w p k) (B := endQ (nodeW d n.2.2.1) w) (fun q hq _ => ih _ m2 (by omega) hm2 w hw hu q hq), ?_⟩
      rw [row_seq hd hn h4]
    · have h5 := eq_of_beq h
      obtain ⟨⟨a, b⟩, c, e⟩ := hd.two _ n hn (.inr h5)
      obtain ⟨m1, hm1⟩ := at_lt hn a b
      obtain ⟨m2, hm2⟩ := at_lt hn c e
      refine ⟨_, ih _ m1 (by omega) hm1 w hw hu p hp, _, ih _ m2 (by omega) hm2 w hw hu p hp, _, plus_in hw (fun q => sat_rng _) (fun q => sat_rng _) (by omega), ?_⟩
      rw [row_or hd hn h5]
    · have h6 := eq_of_beq h
      obtain ⟨a, b⟩ := hd.one _ n hn (.inl h6)
      obtain ⟨m1, hm1⟩ := at_lt hn a b
      refine ⟨_, times_in hw hp (part_none hd hn (.inl h6)) 0 (-1) (fun q _ hq => ih _ m1 (by omega) hm1 w hw hu q hq), ?_⟩
      rw [row_star hd hn h6]
    · have h7 := eq_of_beq h
      obtain ⟨a, b⟩ := hd.one _ n hn (.inr (.inl h7))
      obtain ⟨m1, hm1⟩ := at_lt hn a b
      refine ⟨_, times_in hw hp (part_none hd hn (.inr h7)) _ _ (fun q _ hq => ih _ m1 (by omega) hm1 w hw hu q hq), ?_⟩
      rw [row_rep hd hn h7]
    · -- a frame
      have h8 := eq_of_beq h
      obtain ⟨a, b⟩ := hd.one _ n hn (.inr (.inr (.inl h8)))
      obtain ⟨m1, hm1⟩ := at_lt hn a b
      rw [row_frame hd hn h8 hw0]
      refine ⟨fun hx => ?_, fun hx => by rw [dif_neg (by have := df hx; omega)]⟩
      have hlt : p < w.length := by have := dt hx; omega
      have hat : at? w (p : Int) = some w[p] := by rw [at_nat]; simp [hlt]
      have hb := inR_u8.1 (hu _ (List.getElem_mem hlt))
      have e : (p : Int) + 1 + w[p] = ((p + 1 + (w[p]).toNat : Nat) : Int) := by omega
      rw [dif_pos hlt]
      refine ⟨i64_of (by omega) (by omega), w[p], hat, i64_of (by omega) (by omega), fun hy => ?_, fun hy => by rw [if_neg (by have := df hy; omega)]⟩
      have hle : p + 1 + (w[p]).toNat ≤ w.length := by have := dt hy; omega
      rw [if_pos hle, e, Int.toNat_natCast]
      have hwt : (w.take (p + 1 + (w[p]).toNat)).length = p + 1 + (w[p]).toNat := by rw [List.length_take]; omega
      have e1 : (p : Int) + 1 = ((p + 1 : Nat) : Int) := by omega
      refine ⟨⟨by omega, by omega⟩, i64_of (by omega) (by omega), _, by rw [e1]; exact ih _ m1 (by omega) hm1 (w.take (p + 1 + (w[p]).toNat)) (by omega) (fun c hc => hu c (List.mem_of_mem_take hc)) (p + 1) (by omega), _, by unfold rowN; exact rowF_at (by omega), 0, z _ hle, ?_⟩
      have es : seg (w.take (p + 1 + (w[p]).toNat)) (p + 1) (p + 1 + (w[p]).toNat) = seg w (p + 1) (p + 1 + (w[p]).toNat) := by unfold seg; rw [List.take_take, Nat.min_self]
      unfold endQ
      rw [if_pos (by omega), es]
    · have h9 := eq_of_beq h
      obtain ⟨a, b⟩ := hd.one _ n hn (.inr (.inr (.inr h9)))
      obtain ⟨m1, hm1⟩ := at_lt hn a b
      rw [row_wide hd hn h9 hw0]
      refine ⟨i64_of (by omega) (by omega), fun hx => ?_, fun hx => by rw [dif_neg (by have := df hx; omega)]⟩
      have hlt : p + 1 < w.length := by have := dt hx; omega
      have hat : at? w (p : Int) = some w[p] := by rw [at_nat]; simp [show p < w.length by omega]
      have e1 : (p : Int) + 1 = ((p + 1 : Nat) : Int) := by omega
      have hat1 : at? w ((p : Int) + 1) = some w[p + 1] := by rw [e1, at_nat]; simp [hlt]
      have hb := inR_u8.1 (hu _ (List.getElem_mem (show p < w.length by omega)))
      have hb1 := inR_u8.1 (hu _ (List.getElem_mem hlt))
      have e : (p : Int) + 2 + 256 * w[p] + w[p + 1] = ((p + 2 + (256 * w[p] + w[p + 1]).toNat : Nat) : Int) := by omega
      rw [dif_pos hlt]
      refine ⟨i64_of (by omega) (by omega), w[p], hat, i64_of (by omega) (by omega), i64_of (by omega) (by omega), i64_of (by omega) (by omega), w[p + 1], hat1, i64_of (by omega) (by omega), _, rfl, fun hy => ?_, fun hy => by rw [if_neg (by have := df hy; omega)]⟩
      have hle : p + 2 + (256 * w[p] + w[p + 1]).toNat ≤ w.length := by have := dt hy; omega
      rw [if_pos hle, e, Int.toNat_natCast]
      have hwt : (w.take (p + 2 + (256 * w[p] + w[p + 1]).toNat)).length = p + 2 + (256 * w[p] + w[p + 1]).toNat := by rw [List.length_take]; omega
      have e2 : (p : Int) + 2 = ((p + 2 : Nat) : Int) := by omega
      refine ⟨⟨by omega, by omega⟩, i64_of (by omega) (by omega), _, by rw [e2]; exact ih _ m1 (by omega) hm1 (w.take (p + 2 + (256 * w[p] + w[p + 1]).toNat)) (by omega) (fun c hc => hu c (List.mem_of_mem_take hc)) (p + 2) (by omega), _, by unfold rowN; exact rowF_at (by omega), 0, z _ hle, ?_⟩
      have es : seg (w.take (p + 2 + (256 * w[p] + w[p + 1]).toNat)) (p + 2) (p + 2 + (256 * w[p] + w[p + 1]).toNat) = seg w (p + 2) (p + 2 + (256 * w[p] + w[p + 1]).toNat) := by unfold seg; rw [List.take_take, Nat.min_self]
      unfold endQ
      rw [if_pos (by omega), es]
    · exfalso
      have j1 := ne_of_beq_false k1
      have j2 := ne_of_beq_false k2
      have j3 := ne_of_beq_false k3
      have j4 := ne_of_beq_false k4
      have j5 := ne_of_beq_false k5
      have j6 := ne_of_beq_false k6
      have j7 := ne_of_beq_false k7
      have j8 := ne_of_beq_false k8
      have j9 := ne_of_beq_false k9
      omega
theorem ref12_Ways_in {d : List SNode} (h : Rt d) (hl : d.length ≤ 1000) (ht : ∀ n ∈ d, n.2.2.2.2.2.2.length ≤ 140737488351232) {w : List Int} (hw : w.length ≤ 1000) (hu : ∀ c ∈ w, InR .u8 c) : ref12_Ways d w (sat (nodeW d ((d.length : Int) - 1) w)) := by
  have hr := h.tr.le
  obtain ⟨m, hm, _⟩ := at_in (xs := d) (i := (d.length : Int) - 1) hr.2 (by omega)
  refine ⟨i64_of (by omega) (by omega), _, ⟨d.length, ends_in h.toROk ht d.length _ m (by omega) hm w hw hu 0 (by omega)⟩, _, by unfold rowN; exact rowF_at (Nat.le_refl _), ?_⟩
  have es : seg w 0 w.length = w := by unfold seg; simp
  unfold endQ
  rw [if_pos (by omega), es]
end Go.Proofs.YtdidjelkkanenaaDoor.V
namespace Go.Proofs.YtdidjelkkanenaaDoor.V
open Go
set_option linter.unusedVariables false
theorem heads_few {d : List SNode} {s : List SItem} (h : Sm d s) {B : List SBranch} (hB : Can (fun t => (hds d s).count t) B) : B.length ≤ 10001 := by
  have h0 := can_len hB (U := CS d s) fun t ht => hds_CS d s t (List.count_pos_iff.1 (by omega))
  have h1 := CS_few h.rt s
  have h3 := h.slen
  have h4 : s.length * (d.length + 1) ≤ 400 * 25 := Nat.mul_le_mul h3 (by have := h.len; omega)
  omega
theorem heads_ok {d : List SNode} {s : List SItem} (h : Sm d s) {t : List SItem} (ht : (hds d s).count t ≠ 0) : t.length ≤ 424 ∧ rdy d t = true ∧ formS d t = true := by
  obtain ⟨L, ⟨k, hk⟩, hp⟩ := hds_lv h.rt.toROk s h.form
  have hm : t ∈ L := hp.mem_iff.2 (List.count_pos_iff.1 (by omega))
  obtain ⟨h1, h2⟩ := lv_vs h.rt.toROk (n0 := 400) k s L hk (Vs.start h.form h.slen) t hm
  have := h1.len
  have := h.len
  exact ⟨by omega, h2, h1.form⟩
def fB (d : List SNode) (c : Int) (B : List SBranch) (u : List SItem) : Nat := (B.map fun b => if (readF d b.1 c).2 = true ∧ (readF d b.1 c).1 = u then b.2.toNat else 0).sum
theorem fB_snoc (d : List SNode) (c : Int) (B : List SBranch) (b : SBranch) (u : List SItem) : fB d c (B ++ [b]) u = fB d c B u + if (readF d b.1 c).2 = true ∧ (readF d b.1 c).1 = u then b.2.toNat else 0 := by
  simp [fB]
theorem fB_pos {d : List SNode} {c : Int} {B : List SBranch} {u : List SItem} (h : fB d c B u ≠ 0) : ∃ b ∈ B, (readF d b.1 c).2 = true ∧ (readF d b.1 c).1 = u := by
  induction B with
  | nil => simp [fB] at h
  | cons b B ih =>
    by_cases hb : (readF d b.1 c).2 = true ∧ (readF d b.1 c).1 = u
    · exact ⟨b, by simp, hb⟩
    · have e : fB d c (b :: B) u = fB d c B u := by
        unfold fB; rw [List.map_cons, List.sum_cons, if_neg hb, Nat.zero_add]
      rw [e] at h
      obtain ⟨b', h1, h2⟩ := ih h
      exact ⟨b', by simp [h1], h2⟩
structure HOk (d : List SNode) (B : List SBranch) : Prop where
  few : B.length ≤ 10001
  ok : ∀ b ∈ B, b.1.length ≤ 424 ∧ rdy d b.1 = true ∧ formS d b.1 = true
  many : ∀ b ∈ B, 1 ≤ b.2 ∧ b.2 ≤ 2
theorem Sm.hok {d : List SNode} {s : List SItem} (h : Sm d s) {B : List SBranch} (hB : Can (fun t => (hds d s).count t) B) : HOk d B :=
  ⟨heads_few h hB, fun b hb => heads_ok h (hB.many hb).2.1, fun b hb => (hB.many hb).2.2⟩
theorem fB_read {d : List SNode} {c : Int} {B : List SBranch} (h : HOk d B) {u : List SItem} (hu : fB d c B u ≠ 0) : u.length ≤ 425 := by
  obtain ⟨b, hb, _, rfl⟩ := fB_pos hu
  have := readF_len d b.1 c
  have := (h.ok b hb).1
  omega
theorem onB_len {d : List SNode} {c : Int} {B : List SBranch} {R : List SBranch} (hR : Can (fB d c B) R) : R.length ≤ B.length := by
  have := can_len hR (U := B.map fun b => (readF d b.1 c).1) fun u hu => by
    obtain ⟨b, hb, _, e⟩ := fB_pos hu
    exact List.mem_map.2 ⟨b, hb, e⟩
  simpa using this
theorem HOk.take {d : List SNode} {B : List SBranch} (h : HOk d B) (i : Nat) : HOk d (B.take i) :=
  ⟨by have := h.few; rw [List.length_take]; omega, fun b hb => h.ok b (List.mem_of_mem_take hb), fun b hb => h.many b (List.mem_of_mem_take hb)⟩
section
variable {d : List SNode} (hd : ROk d) (hl : d.length ≤ 1000) (ht : ∀ n ∈ d, n.2.2.2.2.2.2.length ≤ 140737488351232) {c : Int} (hc : InR .u8 c) {B : List SBranch} (hB : HOk d B)
include hd hl ht hc hB
theorem ref15_On_l : ∃ R, (∃ k, ref15_On.l1 d c B (ref15_On.j1 R) k [] 0) ∧ Can (fB d c B) R := by
  have key : ∀ (m i : Nat) (out : List SBranch), i + m = B.length → Can (fB d c (B.take i)) out → ∃ (R : List SBranch) (k : Nat), ref15_On.l1 d c B (ref15_On.j1 R) k out (i : Int) ∧ Can (fB d c B) R := by
    intro m
    induction m with
    | zero =>
      intro i out hi ho
      rw [List.take_of_length_le (by omega)] at ho
      exact ⟨out, 1, ⟨fun h => absurd (dt h) (by omega), fun _ => rfl⟩, ho⟩
    | succ m ih =>
      intro i out hi ho
      have hil : i < B.length := by omega
      have hat : at? B (i : Int) = some B[i] := by rw [at_nat]; simp [hil]
      have hbm := List.getElem_mem hil
      obtain ⟨b1, b2, b3⟩ := hB.ok _ hbm
      obtain ⟨m1, m2⟩ := hB.many _ hbm
      have hrd := ref15_Read_in hd hl ht (by omega) b3 b2 hc
      have e := fB_snoc d c (B.take i) B[i]
      rw [← List.take_succ_eq_append_getElem hil] at e
      have hfew := hB.few
      cases hr : (readF d B[i].1 c).2
      · obtain ⟨R, k, hk1, hk2⟩ := ih (i + 1) out (by omega) (ho.congr fun t => by rw [e, hr]; simp)
        exact ⟨R, k + 1, ⟨fun _ => ⟨_, hat, _, hrd, (fun h => by rw [hr] at h; cases h), fun _ => ⟨i64_of (by omega) (by omega), hk1⟩⟩, fun h => absurd (by omega) (df h)⟩, hk2⟩
      · have hn : (B[i].2.toNat : Nat) ≠ 0 := by omega
        have hsat : sat B[i].2.toNat = B[i].2 := by unfold sat; omega
        have hadd := ho.add (readF d B[i].1 c).1 hn
        rw [hsat] at hadd
        have hol := onB_len ho
        have hbo : BrOk out := ho.brok fun t ht => by have := fB_read (hB.take i) ht; omega
        have hrl := readF_len d B[i].1 c
        obtain ⟨R, k, hk1, hk2⟩ := ih (i + 1) (addB (readF d B[i].1 c).1 B[i].2 out) (by omega) (hadd.congr fun t => by
          rw [e, hr]
          simp only [true_and, eq_comm])
        exact ⟨R, k + 1, ⟨fun _ => ⟨_, hat, _, hrd, fun _ => ⟨_, hat, _, ref14_Add_in ho.srt hbo (by rw [List.length_take] at hol; omega) (by omega) ⟨by omega, by omega⟩, i64_of (by omega) (by omega), hk1⟩, (fun h => by rw [hr] at h; cases h)⟩, fun h => absurd (by omega) (df h)⟩, hk2⟩
  obtain ⟨R, k, h1, h2⟩ := key B.length 0 [] (by omega) (Can.nil.congr fun t => by simp [fB])
  exact ⟨R, ⟨k, h1⟩, h2⟩
structure MapN (f : List SItem → Nat) (m : List (Str × Int)) : Prop where
  kn : KN m
  mem : ∀ k v, (k, v) ∈ m ↔ ∃ u, k = keyS u ∧ f u ≠ 0 ∧ v = sat (f u)
omit hd hl ht hc hB in
theorem MapN.get {f : List SItem → Nat} {m} (h : MapN f m) (u : List SItem) : mget m (keyS u) (0 : Int) = sat (f u) := by
  by_cases hu : f u = 0
  · rw [mget_none fun p hp e => ?_]
    · rw [hu]; rfl
    · obtain ⟨k, v⟩ := p
      obtain ⟨w, h1, h2, _⟩ := (h.mem k v).1 hp
      simp only at e
      rw [e] at h1
      rw [keyS_iff.1 h1] at hu
      exact h2 hu
  · have hm := (h.mem (keyS u) (sat (f u))).2 ⟨u, rfl, hu, rfl⟩
    exact mget_mem h.kn hm (0 : Int)
omit hd hl ht hc hB in
theorem MapN.put {f : List SItem → Nat} {m} (h : MapN f m) (u : List SItem) {n : Nat} (hn : n ≠ 0) {v : Int} (hv : v = sat (f u + n)) : MapN (fun t => f t + if t = u then n else 0) (mput m (keyS u) v) := by
  refine ⟨mput_kn h.kn _ _, fun k w => ?_⟩
  rw [mput_mem, h.mem, Prod.mk.injEq]
  constructor
  · rintro (⟨h1, h2⟩ | ⟨h1, u', h2, h3, h4⟩)
    · exact ⟨u, h1, by simp; omega, by rw [h2, hv]; simp⟩
    · have hne : u' ≠ u := fun e => h1 (by rw [h2, e])
      exact ⟨u', h2, by simp [hne, h3], by rw [h4]; simp [hne]⟩
  · rintro ⟨u', h1, h2, h3⟩
    by_cases e : u' = u
    · subst e; exact .inl ⟨h1, by rw [h3, hv]; simp⟩
    · refine .inr ⟨fun e' => e (keyS_iff.1 (h1.symm.trans e')), u', h1, ?_, ?_⟩
      · simpa [e] using h2
      · rw [h3]; simp [e]
theorem next_On_l : ∃ R, (∃ k, next_On.l2 d c B (next_On.j2 R) k [] [] 0) ∧ Can (fB d c B) R := by
  have hfew := hB.few
  have last : ∀ (many : List (Str × Int)) (out : List SBranch), MapN (fB d c B) many → (out.map (·.1)).Nodup → (∀ u, u ∈ out.map (·.1) ↔ fB d c B u ≠ 0) → out.length ≤ 10001 → ∃ R, next_On.j2 R many out ∧ Can (fB d c B) R := by
    intro many out hm hn ho hlen
    have hlo : ∀ b ∈ out, b.1.length ≤ 1000 := fun b hb => by
      have := fB_read hB ((ho b.1).1 (List.mem_map.2 ⟨b, hb, rfl⟩)); omega
    let out' := out.map fun b => (b.1, sat (fB d c B b.1))
    have e1 : out'.map (·.1) = out.map (·.1) := by simp [out', Function.comp_def]
    have hn' : (out'.map (·.1)).Nodup := by rw [e1]; exact hn
    have hcan : Can (fB d c B) (srtB out') := by
      refine ⟨srtB_srt hn', fun t m => ?_⟩
      rw [(srtB_perm out').mem_iff]
      constructor
      · intro h
        obtain ⟨b, hb, e⟩ := List.mem_map.1 h
        simp only [Prod.mk.injEq] at e
        obtain ⟨rfl, rfl⟩ := e
        exact ⟨(ho _).1 (List.mem_map.2 ⟨b, hb, rfl⟩), rfl⟩
      · rintro ⟨h1, h2⟩
        obtain ⟨b, hb, e⟩ := List.mem_map.1 ((ho t).2 h1)
        exact List.mem_map.2 ⟨b, hb, by rw [e, h2]⟩
    refine ⟨srtB out', ?_, hcan⟩
    refine upto (P := fun k (o : List SBranch) v => next_On.l1 many out (next_On.j1 (srtB out')) k o v) out.length (fun i o => o = out'.take i ++ out.drop i) ?_ ?_ out (by simp)
    · rintro i o hi rfl
      have hl1 : (out'.take i).length = i := by simp [out']; omega
      have hat : at? (out'.take i ++ out.drop i) (i : Int) = some out[i] := by
        rw [at_nat, List.getElem?_append_right (by omega), hl1, Nat.sub_self]; simp [hi]
      have hset : (out'.take i ++ out.drop i).set i (out[i].1, sat (fB d c B out[i].1)) = out'.take (i + 1) ++ out.drop (i + 1) := by
        rw [List.set_append_right _ _ (by omega), hl1, Nat.sub_self, List.drop_eq_getElem_cons hi, List.set_cons_zero, List.take_succ_eq_append_getElem (show i < out'.length by simp [out']; exact hi)]
        simp [out']
      refine .inr ⟨_, rfl, fun k hk => ⟨fun _ => ⟨_, hat, _, ⟨hlo _ (List.getElem_mem hi), rfl⟩, _, hat, i64_of (by omega) (by omega), ?_⟩, fun h => absurd (by omega) (df h)⟩⟩
      rw [hm.get, Int.toNat_natCast, hset]
      exact hk
    · rintro o rfl k
      refine ⟨fun h => absurd (dt h) (by omega), fun _ => ?_⟩
      have hl2 : out'.length = out.length := by simp [out']
      rw [List.take_of_length_le (by omega), List.drop_length, List.append_nil]
      exact ⟨_, ⟨hn', fun b hb => by
        obtain ⟨b', hb', rfl⟩ := List.mem_map.1 hb
        exact hlo b' hb', by omega, rfl⟩, rfl⟩
  have key : ∀ (m i : Nat) (many : List (Str × Int)) (out : List SBranch), i + m = B.length → MapN (fB d c (B.take i)) many → (out.map (·.1)).Nodup → (∀ u, u ∈ out.map (·.1) ↔ fB d c (B.take i) u ≠ 0) → out.length ≤ i → ∃ (R : List SBranch) (k : Nat), next_On.l2 d c B (next_On.j2 R) k many out (i : Int) ∧ Can (fB d c B) R := by
    intro m
    induction m with
    | zero =>
      intro i many out hi hm hn ho hlen
      rw [List.take_of_length_le (by omega)] at hm ho
      obtain ⟨R, h1, h2⟩ := last many out hm hn ho (by omega)
      exact ⟨R, 1, ⟨fun h => absurd (dt h) (by omega), fun _ => h1⟩, h2⟩
    | succ m ih =>
      intro i many out hi hm hn ho hlen
      have hil : i < B.length := by omega
      have hat : at? B (i : Int) = some B[i] := by rw [at_nat]; simp [hil]
      have hbm := List.getElem_mem hil
      obtain ⟨b1, b2, b3⟩ := hB.ok _ hbm
      obtain ⟨m1, m2⟩ := hB.many _ hbm
      have hrd := next_Read_in hd hl ht (by omega) b3 b2 hc
      have hrl := readF_len d B[i].1 c
      have e := fB_snoc d c (B.take i) B[i]
      rw [← List.take_succ_eq_append_getElem hil] at e
      cases hr : (readF d B[i].1 c).2
      · have e0 : ∀ u, fB d c (B.take (i + 1)) u = fB d c (B.take i) u := fun u => by rw [e, hr]; simp
        have e0' : fB d c (B.take (i + 1)) = fB d c (B.take i) := funext e0
        obtain ⟨R, k, hk1, hk2⟩ := ih (i + 1) many out (by omega) (by rw [e0']; exact hm) hn (by rw [e0']; exact ho) (by omega)
        exact ⟨R, k + 1, ⟨fun _ => ⟨_, hat, _, hrd, fun _ => ⟨i64_of (by omega) (by omega), hk1⟩, (fun h => by rw [hr] at h; cases h)⟩, fun h => absurd (by omega) (df h)⟩, hk2⟩
      · have hn0 : B[i].2.toNat ≠ 0 := by omega
        have hg := hm.get (readF d B[i].1 c).1
        have hv : min (mget many (keyS (readF d B[i].1 c).1) 0 + B[i].2) 2 = sat (fB d c (B.take i) (readF d B[i].1 c).1 + B[i].2.toNat) := by
          rw [hg]; unfold sat; omega
        have e0' : fB d c (B.take (i + 1)) = fun t => fB d c (B.take i) t + if t = (readF d B[i].1 c).1 then B[i].2.toNat else 0 := funext fun u => by
          rw [e, hr]
          simp only [true_and, eq_comm]
        have hput := hm.put (readF d B[i].1 c).1 hn0 hv
        rw [← e0'] at hput
        have hin : InR .i64 (mget many (keyS (readF d B[i].1 c).1) 0 + B[i].2) := by rw [hg]; unfold sat; exact i64_of (by omega) (by omega)
        by_cases h0 : fB d c (B.take i) (readF d B[i].1 c).1 = 0
        · obtain ⟨R, k, hk1, hk2⟩ := ih (i + 1) _ (out ++ [((readF d B[i].1 c).1, 0)]) (by omega) hput (by
            rw [List.map_append, List.nodup_append]
            refine ⟨hn, by simp, fun a ha b hb e => ?_⟩
            simp at hb
            subst hb; subst e
            exact (ho _).1 ha h0) (fun u => by
            rw [e0', List.map_append, List.mem_append, ho]
            by_cases hu : u = (readF d B[i].1 c).1
            · subst hu; simp; omega
            · simp [hu]) (by simp; omega)
          refine ⟨R, k + 1, ⟨fun _ => ⟨_, hat, _, hrd, fun h => by rw [hr] at h; simp at h, fun _ => ⟨_, ⟨by omega, rfl⟩, fun _ => ⟨by simp; omega, hin, i64_of (by omega) (by omega), hk1⟩, fun h => ?_⟩⟩, fun h => absurd (by omega) (df h)⟩, hk2⟩
          rw [hg, h0] at h; simp [sat] at h
        · obtain ⟨R, k, hk1, hk2⟩ := ih (i + 1) _ out (by omega) hput hn (fun u => by
            rw [e0', ho]
            by_cases hu : u = (readF d B[i].1 c).1
            · subst hu; simp [h0]
            · simp [hu]) (by omega)
          refine ⟨R, k + 1, ⟨fun _ => ⟨_, hat, _, hrd, fun h => by rw [hr] at h; simp at h, fun _ => ⟨_, ⟨by omega, rfl⟩, fun h => ?_, fun _ => ⟨hin, i64_of (by omega) (by omega), hk1⟩⟩⟩, fun h => absurd (by omega) (df h)⟩, hk2⟩
          exfalso
          rw [hg] at h
          have := eq_of_beq h
          unfold sat at this
          omega
  obtain ⟨R, k, h1, h2⟩ := key B.length 0 [] [] (by omega) ⟨List.nodup_nil, fun k v => by simp [fB]⟩ (by simp) (by simp [fB]) (by simp)
  exact ⟨R, ⟨k, h1⟩, h2⟩
end
theorem on_both {d : List SNode} {s : List SItem} (h : Sm d s) {c : Int} (hc : InR .u8 c) : ∃ B R, heads_Heads d s B ∧ Can (fun t => (hds d s).count t) B ∧ next_On d s c R ∧ ref15_On d s c R ∧ Can (fB d c B) R := by
  obtain ⟨B, b1, b2, b3⟩ := heads_both h
  have hB := h.hok b3
  have hl : d.length ≤ 1000 := by have := h.len; omega
  obtain ⟨R, ⟨k, h1⟩, h2⟩ := next_On_l h.rt.toROk hl h.txt hc hB
  obtain ⟨R', ⟨k', h1'⟩, h2'⟩ := ref15_On_l h.rt.toROk hl h.txt hc hB
  have e := h2'.uniq h2
  subst e
  exact ⟨B, R', b1, b3, ⟨B, b1, k, h1⟩, ⟨B, b2, k', h1'⟩, h2⟩
end Go.Proofs.YtdidjelkkanenaaDoor.V
