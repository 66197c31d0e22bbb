/- The walks of the functions of layer 2 (by gen.py). -/
import Derived.Test.YtkdbiiollbeoeaaW02a
import Derived.Test.YtkdbiiollbeoeaaR02
namespace Go.Proofs.Ytkdbiiollbeoeaa.V
open Go
set_option linter.unusedVariables false
theorem law02_SplitFine_ok {list_ : (List Cl)} {r_ : Bool} (h : law02_SplitFine list_ r_) : Fn Try.prog 9 [(Pd.rep (En.slice En.cls) list_)] (Rq (Pd.rep En.bool r_)) := by
  unfold law02_SplitFine at h
  refine fn_of Try.func9 rfl Try.ntmps9 (by rfl) (by simp) fun s0 a hL => ?_
  refine wp_seq_k fun K1 hK1 => ?_
  refine rg ?_
  refine st 2 (t_assign o_b rfl rfl) rfl rfl hL fun a s e_ hL => ?_
  refine en' ?_
  show K1 a s.w
  refine hK1 _ _ ?_
  refine wp_seq_k fun K2 hK2 => ?_
  refine wp_seq_k fun K3 hK3 => ?_
  obtain ⟨r4, h5, h⟩ := h
  refine rg ?_
  refine st 14 (t_call (law02_awake_ok h5) (xs := []) .nil rfl rfl) rfl rfl hL fun a s e_ hL => ?_
  refine st 15 (t_not (o_t 14 rfl) rfl rfl) rfl rfl hL fun a s e_ hL => ?_
  refine st 16 (t_move (o_t 15 rfl) rfl rfl) rfl rfl hL fun a s e_ hL => ?_
  refine st 17 (t_g1 rfl rfl rfl (fun hc_ => t_move (o_t 0 rfl) rfl rfl)) rfl rfl hL fun a s e_ hL => ?_
  refine st 18 (t_g1 rfl rfl rfl (fun hc_ => t_len (o_w hc_ 17 rfl) Try.underlying42 rfl rfl)) rfl rfl hL fun a s e_ hL => ?_
  refine st 19 (t_g1 rfl rfl rfl (fun hc_ => t_gtr (o_w hc_ 18 rfl) (o_i (by decide)) rfl rfl)) rfl rfl hL fun a s e_ hL => ?_
  refine st 20 (t_or (o_t 16 rfl) (fun hc2_ => (o_w hc2_ 19 rfl)) rfl rfl) rfl rfl hL fun a s e_ hL => ?_
  refine en' ?_
  show K3 a s.w
  refine hK3 _ _ ?_
  refine cnd hL rfl (fun hb_ => ?_) (fun hb_ => ?_)
  · replace h := h.1 hb_
    refine wp_seq_k fun K6 hK6 => ?_
    obtain ⟨r7, h8, h⟩ := h
    refine rg ?_
    refine st 21 (t_call (law02_awake_ok h8) (xs := []) .nil rfl rfl) rfl rfl hL fun a s e_ hL => ?_
    refine st 2 (t_assign (o_t 21 rfl) rfl rfl) rfl rfl hL fun a s e_ hL => ?_
    refine en' ?_
    show K6 a s.w
    refine hK6 _ _ ?_
    subst h
    exact wp_ret (retq rfl hL rfl)
  · replace h := h.2 hb_
    refine wp_skip ?_
    show K2 a s.w
    refine hK2 _ _ ?_
    refine wp_seq_k fun K9 hK9 => ?_
    obtain ⟨r10, h11, h⟩ := h
    refine rg ?_
    refine st 22 (t_move (o_t 0 rfl) rfl rfl) rfl rfl hL fun a s e_ hL => ?_
    refine st 23 (t_call ((split_Parts_ok h11).frz) (xs := [.tmp 22]) (.cons (o_t 22 rfl) .nil) rfl rfl) rfl rfl hL fun a s e_ hL => ?_
    refine st 3 (t_assign (o_t 23 rfl) rfl rfl) rfl rfl hL fun a s e_ hL => ?_
    refine en' ?_
    show K9 a s.w
    refine hK9 _ _ ?_
    refine wp_seq_k fun K12 hK12 => ?_
    obtain ⟨r13, h14, h⟩ := h
    refine rg ?_
    refine st 24 (t_move (o_t 0 rfl) rfl rfl) rfl rfl hL fun a s e_ hL => ?_
    refine st 25 (t_call ((split_Heads_ok h14).frz) (xs := [.tmp 24]) (.cons (o_t 24 rfl) .nil) rfl rfl) rfl rfl hL fun a s e_ hL => ?_
    refine st 4 (t_assign (o_t 25 rfl) rfl rfl) rfl rfl hL fun a s e_ hL => ?_
    refine en' ?_
    show K12 a s.w
    refine hK12 _ _ ?_
    refine wp_seq_k fun K15 hK15 => ?_
    refine wp_seq_k fun K16 hK16 => ?_
    obtain ⟨b17, h18, h⟩ := h
    refine rg ?_
    refine st 26 (t_move (o_t 3 rfl) rfl rfl) rfl rfl hL fun a s e_ hL => ?_
    refine st 27 (t_len (o_t 26 rfl) Try.underlying42 rfl rfl) rfl rfl hL fun a s e_ hL => ?_
    refine st 28 (t_move (o_t 4 rfl) rfl rfl) rfl rfl hL fun a s e_ hL => ?_
    refine st 29 (t_len (o_t 28 rfl) Try.underlying40 rfl rfl) rfl rfl hL fun a s e_ hL => ?_
    refine st 30 (t_nei (o_t 27 rfl) (o_t 29 rfl) rfl rfl) rfl rfl hL fun a s e_ hL => ?_
    refine st 31 (t_move (o_t 30 rfl) rfl rfl) rfl rfl hL fun a s e_ hL => ?_
    refine st 32 (t_g1 rfl rfl rfl (fun hc_ => t_move (o_t 3 rfl) rfl rfl)) rfl rfl hL fun a s e_ hL => ?_
    refine st 33 (t_g1 rfl rfl rfl (fun hc_ => t_len (o_w hc_ 32 rfl) Try.underlying42 rfl rfl)) rfl rfl hL fun a s e_ hL => ?_
    refine st 34 (t_g1 rfl rfl rfl (fun hc_ => t_eqi (o_w hc_ 33 rfl) (o_i (by decide)) rfl rfl)) rfl rfl hL fun a s e_ hL => ?_
    refine st 35 (h18 ▸ (t_or (o_t 31 rfl) (fun hc2_ => (o_w hc2_ 34 rfl)) rfl rfl)) rfl rfl hL fun a s e_ hL => ?_
    refine en' ?_
    show K16 a s.w
    refine hK16 _ _ ?_
    refine cnd hL rfl (fun hb_ => ?_) (fun hb_ => ?_)
    · replace h := h.1 hb_
      refine wp_seq_k fun K19 hK19 => ?_
      refine rg ?_
      refine st 2 (t_assign o_b rfl rfl) rfl rfl hL fun a s e_ hL => ?_
      refine en' ?_
      show K19 a s.w
      refine hK19 _ _ ?_
      subst h
      exact wp_ret (retq rfl hL rfl)
    · replace h := h.2 hb_
      refine wp_skip ?_
      show K15 a s.w
      refine hK15 _ _ ?_
      refine wp_seq_k fun K20 hK20 => ?_
      refine rg ?_
      refine st_alloc En.cls (z := (0#256)) 5 hL tyz24 rfl rfl rfl rfl fun a s g21 hg_ hL => ?_
      refine en' ?_
      show K20 a s.w
      refine hK20 _ _ ?_
      refine wp_seq_k fun K22 hK22 => ?_
      refine wp_seq_k fun K23 hK23 => ?_
      refine rg ?_
      refine st 6 (t_assign (o_i (by decide)) rfl rfl) rfl rfl hL fun a s e_ hL => ?_
      refine en' ?_
      show K23 a s.w
      refine hK23 _ _ ?_
      refine wp_block ?_
      have J25 : ∀ (all24 : Cl) (a : Act) (s : St), Has N0 154 s0 a s [(5, (Pd.box En.cls s0.w.heap.size g21 all24))] → ((law02_SplitFine.j1 r_) all24) → K22 a s.w := by
        intro all24 a s hL h
        unfold law02_SplitFine.j1 at h
        show K22 a s.w
        refine hK22 _ _ ?_
        refine wp_seq_k fun K26 hK26 => ?_
        obtain ⟨r27, h28, h⟩ := h
        refine rda follows 3 [(Pd.rep En.cls all24), (Pd.rep En.cls r27), (Pd.rep En.bool (all24 == r27))] hL (by kernel_rfl) rfl rfl ?_ ?_
        · refine AllT.cons (t_loadb ty24 (o_t 5 rfl) rfl rfl) ?_
          refine AllT.cons (t_call (ref01_Row_ok h28) (xs := [.const (.int .u8 0), .const (.int .u8 255)]) (.cons (o_i (by decide)) (.cons (o_i (by decide)) .nil)) rfl rfl) ?_
          refine AllT.cons (t_eqv eq24 (o_t 151 rfl) (o_t 152 rfl) rfl rfl) ?_
          exact AllT.nil
        intro a s e_ hL
        refine st 2 (t_assign (o_t 153 rfl) rfl rfl) rfl rfl hL fun a s e_ hL => ?_
        refine en' ?_
        show K26 a s.w
        refine hK26 _ _ ?_
        subst h
        exact wp_ret (retq rfl hL rfl)
      obtain ⟨k31, h⟩ := h
      refine lpg (fun k32 a s => ∃ (all29 : Cl) (i30 : Int), Has N0 154 s0 a s [(0, (Pd.rep (En.slice En.cls) list_)), (3, (Pd.rep (En.slice En.cls) r10)), (4, (Pd.rep (En.slice (En.int .u8)) r13)), (5, (Pd.box En.cls s0.w.heap.size g21 all29)), (6, (Pd.rep (En.int .i64) i30))] ∧ law02_SplitFine.l1 list_ r10 r13 r_ (law02_SplitFine.j1 r_) k32 all29 i30) k31 ⟨(0#256), 0, hL.keep (.cons (t := 0) rfl (fun _ h_ => h_.elim) (.cons (t := 3) rfl (fun _ h_ => h_.elim) (.cons (t := 4) rfl (fun _ h_ => h_.elim) (.cons (t := 5) rfl (fun _ _ h_ => h_) (.cons (t := 6) rfl (fun _ h_ => h_.elim) .nil))))), h⟩ ?_
      rintro k32 a s ⟨all29, i30, hL, h⟩ KL33 hKL33
      cases k32 with
      | zero => exact h.elim
      | succ k32 =>
      unfold law02_SplitFine.l1 at h
      refine wp_seq_k fun K34 hK34 => ?_
      refine wp_seq_k fun K35 hK35 => ?_
      refine rg ?_
      refine st 36 (t_move (o_t 6 rfl) rfl rfl) rfl rfl hL fun a s e_ hL => ?_
      refine st 37 (t_move (o_t 3 rfl) rfl rfl) rfl rfl hL fun a s e_ hL => ?_
      refine st 38 (t_len (o_t 37 rfl) Try.underlying42 rfl rfl) rfl rfl hL fun a s e_ hL => ?_
      refine st 39 (t_lss (o_t 36 rfl) (o_t 38 rfl) rfl rfl) rfl rfl hL fun a s e_ hL => ?_
      refine en' ?_
      show K35 a s.w
      refine hK35 _ _ ?_
      refine cnd hL rfl (fun hb_ => ?_) (fun hb_ => ?_)
      · replace h := h.1 hb_
        refine wp_skip ?_
        show K34 a s.w
        refine hK34 _ _ ?_
        refine wp_seq_k fun K36 hK36 => ?_
        refine wp_block ?_
        refine wp_seq_k fun K37 hK37 => ?_
        refine wp_seq_k fun K38 hK38 => ?_
        obtain ⟨e39, h40, r41, h42, h⟩ := h
        refine rda follows 8 [(Pd.rep En.cls all29), (Pd.rep (En.slice En.cls) r10), (Pd.rep (En.int .i64) i30), (Pd.ptr En.cls e39), (Pd.rep En.cls e39), (Pd.rep En.cls r41), (Pd.rep En.cls (0#256)), (Pd.rep En.bool (r41 != (0#256)))] hL (by kernel_rfl) rfl rfl ?_ ?_
        · refine AllT.cons (t_loadb ty24 (o_t 5 rfl) rfl rfl) ?_
          refine AllT.cons (t_move (o_t 3 rfl) rfl rfl) ?_
          refine AllT.cons (t_move (o_t 6 rfl) rfl rfl) ?_
          refine AllT.cons (t_idx (o_t 43 rfl) (o_t 44 rfl) h40 Try.underlying42 ty24 rfl rfl) ?_
          refine AllT.cons (t_load ty24 (o_t 45 rfl) rfl rfl) ?_
          refine AllT.cons (t_call (ref01_Both_ok h42) (xs := [.tmp 42, .tmp 46]) (.cons (o_t 42 rfl) (.cons (o_t 46 rfl) .nil)) rfl rfl) ?_
          refine AllT.cons (t_bcls (x := (0#256)) Try.underlying24 (by rfl) tyz24 (fun _ => by kernel_rfl) rfl rfl) ?_
          refine AllT.cons (t_nev eq24 (o_t 47 rfl) (o_t 48 rfl) rfl rfl) ?_
          exact AllT.nil
        intro a s e_ hL
        refine en' ?_
        show K38 a s.w
        refine hK38 _ _ ?_
        refine cnd hL rfl (fun hb_ => ?_) (fun hb_ => ?_)
        · replace h := h.1 hb_
          refine wp_seq_k fun K43 hK43 => ?_
          refine rg ?_
          refine st 2 (t_assign o_b rfl rfl) rfl rfl hL fun a s e_ hL => ?_
          refine en' ?_
          show K43 a s.w
          refine hK43 _ _ ?_
          subst h
          exact wp_ret (retq rfl hL rfl)
        · replace h := h.2 hb_
          refine wp_skip ?_
          show K37 a s.w
          refine hK37 _ _ ?_
          refine wp_seq_k fun K44 hK44 => ?_
          obtain ⟨e45, h46, r47, h48, h⟩ := h
          refine rda follows 6 [(Pd.rep En.cls all29), (Pd.rep (En.slice En.cls) r10), (Pd.rep (En.int .i64) i30), (Pd.ptr En.cls e45), (Pd.rep En.cls e45), (Pd.rep En.cls r47)] hL (by kernel_rfl) rfl rfl ?_ ?_
          · refine AllT.cons (t_loadb ty24 (o_t 5 rfl) rfl rfl) ?_
            refine AllT.cons (t_move (o_t 3 rfl) rfl rfl) ?_
            refine AllT.cons (t_move (o_t 6 rfl) rfl rfl) ?_
            refine AllT.cons (t_idx (o_t 51 rfl) (o_t 52 rfl) h46 Try.underlying42 ty24 rfl rfl) ?_
            refine AllT.cons (t_load ty24 (o_t 53 rfl) rfl rfl) ?_
            refine AllT.cons (t_call (ref01_Join_ok h48) (xs := [.tmp 50, .tmp 54]) (.cons (o_t 50 rfl) (.cons (o_t 54 rfl) .nil)) rfl rfl) ?_
            exact AllT.nil
          intro a s e_ hL
          refine st_stb (L' := [(0, (Pd.rep (En.slice En.cls) list_)), (3, (Pd.rep (En.slice En.cls) r10)), (4, (Pd.rep (En.slice (En.int .u8)) r13)), (6, (Pd.rep (En.int .i64) i30))]) 5 hL rfl (o_t 55 rfl) ty24 rfl rfl rfl (.cons (t := 0) rfl (fun _ h_ => h_.elim) (.cons (t := 3) rfl (fun _ h_ => h_.elim) (.cons (t := 4) rfl (fun _ h_ => h_.elim) (.cons (t := 6) rfl (fun _ h_ => h_.elim) .nil)))) fun s hL => ?_
          refine en' ?_
          show K44 a s.w
          refine hK44 _ _ ?_
          refine wp_seq_k fun K49 hK49 => ?_
          obtain ⟨e50, h51, r52, h53, h⟩ := h
          refine rg ?_
          refine st 57 (t_move (o_t 3 rfl) rfl rfl) rfl rfl hL fun a s e_ hL => ?_
          refine st 58 (t_move (o_t 6 rfl) rfl rfl) rfl rfl hL fun a s e_ hL => ?_
          refine st 59 (t_idx (o_t 57 rfl) (o_t 58 rfl) h51 Try.underlying42 ty24 rfl rfl) rfl rfl hL fun a s e_ hL => ?_
          refine st 60 (t_load ty24 (o_t 59 rfl) rfl rfl) rfl rfl hL fun a s e_ hL => ?_
          refine st 61 (t_call ((ref01_Least_ok h53).tup) (xs := [.tmp 60]) (.cons (o_t 60 rfl) .nil) rfl rfl) rfl rfl hL fun a s e_ hL => ?_
          refine st 56 (t_move (o_t 61 rfl) rfl rfl) rfl rfl hL fun a s e_ hL => ?_
          refine st 62 (t_ext0 (o_t 56 rfl) rfl rfl) rfl rfl hL fun a s e_ hL => ?_
          refine st 63 (t_ext1 (o_t 56 rfl) rfl rfl) rfl rfl hL fun a s e_ hL => ?_
          refine st 7 (t_assign (o_t 62 rfl) rfl rfl) rfl rfl hL fun a s e_ hL => ?_
          refine st 8 (t_assign (o_t 63 rfl) rfl rfl) rfl rfl hL fun a s e_ hL => ?_
          refine en' ?_
          show K49 a s.w
          refine hK49 _ _ ?_
          refine wp_seq_k fun K54 hK54 => ?_
          refine wp_seq_k fun K55 hK55 => ?_
          obtain ⟨e56, h57, h58, e59, h60, e61, h62, b63, h64, h⟩ := h
          refine rda follows 26 [(Pd.rep En.bool r52.2), (Pd.rep En.bool (!r52.2)), (Pd.rep En.bool (!r52.2)), (Pd.when (((!r52.2)) = false) (Pd.rep (En.int .u8) r52.1)), (Pd.when (((!r52.2)) = false) (Pd.rep (En.slice (En.int .u8)) r13)), (Pd.when (((!r52.2)) = false) (Pd.rep (En.int .i64) i30)), (Pd.when (((!r52.2)) = false) (Pd.ptr (En.int .u8) e56)), (Pd.when (((!r52.2)) = false) (Pd.rep (En.int .u8) e56)), (Pd.when (((!r52.2)) = false) (Pd.rep En.bool (r52.1 != e56))), (Pd.rep En.bool ((!r52.2) || (r52.1 != e56))), (Pd.rep En.bool ((!r52.2) || (r52.1 != e56))), (Pd.when ((((!r52.2) || (r52.1 != e56))) = false) (Pd.rep (En.int .i64) i30)), (Pd.when ((((!r52.2) || (r52.1 != e56))) = false) (Pd.rep En.bool (decide (0 < i30)))), (Pd.when ((((!r52.2) || (r52.1 != e56))) = false) (Pd.rep En.bool (decide (0 < i30)))), (Pd.when (((((!r52.2) || (r52.1 != e56))) = false) ∧ (decide (0 < i30)) = true) (Pd.rep (En.slice (En.int .u8)) r13)), (Pd.when (((((!r52.2) || (r52.1 != e56))) = false) ∧ (decide (0 < i30)) = true) (Pd.rep (En.int .i64) i30)), (Pd.when (((((!r52.2) || (r52.1 != e56))) = false) ∧ (decide (0 < i30)) = true) (Pd.rep (En.int .i64) (i30 - 1))), (Pd.when (((((!r52.2) || (r52.1 != e56))) = false) ∧ (decide (0 < i30)) = true) (Pd.ptr (En.int .u8) e59)), (Pd.when (((((!r52.2) || (r52.1 != e56))) = false) ∧ (decide (0 < i30)) = true) (Pd.rep (En.int .u8) e59)), (Pd.when (((((!r52.2) || (r52.1 != e56))) = false) ∧ (decide (0 < i30)) = true) (Pd.rep (En.slice (En.int .u8)) r13)), (Pd.when (((((!r52.2) || (r52.1 != e56))) = false) ∧ (decide (0 < i30)) = true) (Pd.rep (En.int .i64) i30)), (Pd.when (((((!r52.2) || (r52.1 != e56))) = false) ∧ (decide (0 < i30)) = true) (Pd.ptr (En.int .u8) e61)), (Pd.when (((((!r52.2) || (r52.1 != e56))) = false) ∧ (decide (0 < i30)) = true) (Pd.rep (En.int .u8) e61)), (Pd.when (((((!r52.2) || (r52.1 != e56))) = false) ∧ (decide (0 < i30)) = true) (Pd.rep En.bool (decide (e61 ≤ e59)))), (Pd.when ((((!r52.2) || (r52.1 != e56))) = false) (Pd.rep En.bool ((decide (0 < i30)) && (decide (e61 ≤ e59))))), (Pd.rep En.bool b63)] hL (by kernel_rfl) rfl rfl ?_ ?_
          · refine AllT.cons (t_move (o_t 8 rfl) rfl rfl) ?_
            refine AllT.cons (t_not (o_t 64 rfl) rfl rfl) ?_
            refine AllT.cons (t_move (o_t 65 rfl) rfl rfl) ?_
            refine AllT.cons (t_g1 rfl rfl rfl (fun hc_ => t_move (o_t 7 rfl) rfl rfl)) ?_
            refine AllT.cons (t_g1 rfl rfl rfl (fun hc_ => t_move (o_t 4 rfl) rfl rfl)) ?_
            refine AllT.cons (t_g1 rfl rfl rfl (fun hc_ => t_move (o_t 6 rfl) rfl rfl)) ?_
            refine AllT.cons (t_g1 rfl rfl rfl (fun hc_ => t_idx (o_w hc_ 68 rfl) (o_w hc_ 69 rfl) (h57 hc_) Try.underlying40 ty5 rfl rfl)) ?_
            refine AllT.cons (t_g1 rfl rfl rfl (fun hc_ => t_load ty5 (o_w hc_ 70 rfl) rfl rfl)) ?_
            refine AllT.cons (t_g1 rfl rfl rfl (fun hc_ => t_nei (o_w hc_ 67 rfl) (o_w hc_ 71 rfl) rfl rfl)) ?_
            refine AllT.cons (t_or (o_t 66 rfl) (fun hc2_ => (o_w hc2_ 72 rfl)) rfl rfl) ?_
            refine AllT.cons (t_move (o_t 73 rfl) rfl rfl) ?_
            refine AllT.cons (t_g1 rfl rfl rfl (fun hc_ => t_move (o_t 6 rfl) rfl rfl)) ?_
            refine AllT.cons (t_g1 rfl rfl rfl (fun hc_ => t_gtr (o_w hc_ 75 rfl) (o_i (by decide)) rfl rfl)) ?_
            refine AllT.cons (t_g1 rfl rfl rfl (fun hc_ => t_move (o_w hc_ 76 rfl) rfl rfl)) ?_
            refine AllT.cons (t_g rfl rfl rfl (fun hc_ => t_move (o_t 4 rfl) rfl rfl)) ?_
            refine AllT.cons (t_g rfl rfl rfl (fun hc_ => t_move (o_t 6 rfl) rfl rfl)) ?_
            refine AllT.cons (t_g rfl rfl rfl (fun hc_ => t_sub (o_w hc_ 79 rfl) (o_i (by decide)) (h58 hc_) rfl rfl)) ?_
            refine AllT.cons (t_g rfl rfl rfl (fun hc_ => t_idx (o_w hc_ 78 rfl) (o_w hc_ 80 rfl) (h60 hc_) Try.underlying40 ty5 rfl rfl)) ?_
            refine AllT.cons (t_g rfl rfl rfl (fun hc_ => t_load ty5 (o_w hc_ 81 rfl) rfl rfl)) ?_
            refine AllT.cons (t_g rfl rfl rfl (fun hc_ => t_move (o_t 4 rfl) rfl rfl)) ?_
            refine AllT.cons (t_g rfl rfl rfl (fun hc_ => t_move (o_t 6 rfl) rfl rfl)) ?_
            refine AllT.cons (t_g rfl rfl rfl (fun hc_ => t_idx (o_w hc_ 83 rfl) (o_w hc_ 84 rfl) (h62 hc_) Try.underlying40 ty5 rfl rfl)) ?_
            refine AllT.cons (t_g rfl rfl rfl (fun hc_ => t_load ty5 (o_w hc_ 85 rfl) rfl rfl)) ?_
            refine AllT.cons (t_g rfl rfl rfl (fun hc_ => t_geq (o_w hc_ 82 rfl) (o_w hc_ 86 rfl) rfl rfl)) ?_
            refine AllT.cons (t_g1 rfl rfl rfl (fun hc_ => t_and (o_w hc_ 77 rfl) (fun hc2_ => (o_w ⟨hc_, hc2_⟩ 87 rfl)) rfl rfl)) ?_
            refine AllT.cons (h64 ▸ (t_or (o_t 74 rfl) (fun hc2_ => (o_w hc2_ 88 rfl)) rfl rfl)) ?_
            exact AllT.nil
          intro a s e_ hL
          refine en' ?_
          show K55 a s.w
          refine hK55 _ _ ?_
          refine cnd hL rfl (fun hb_ => ?_) (fun hb_ => ?_)
          · replace h := h.1 hb_
            refine wp_seq_k fun K65 hK65 => ?_
            refine rg ?_
            refine st 2 (t_assign o_b rfl rfl) rfl rfl hL fun a s e_ hL => ?_
            refine en' ?_
            show K65 a s.w
            refine hK65 _ _ ?_
            subst h
            exact wp_ret (retq rfl hL rfl)
          · replace h := h.2 hb_
            refine wp_skip ?_
            show K54 a s.w
            refine hK54 _ _ ?_
            refine wp_seq_k fun K66 hK66 => ?_
            refine wp_seq_k fun K67 hK67 => ?_
            refine rg ?_
            refine st 9 (t_assign (o_i (by decide)) rfl rfl) rfl rfl hL fun a s e_ hL => ?_
            refine en' ?_
            show K67 a s.w
            refine hK67 _ _ ?_
            refine wp_block ?_
            have J68 : ∀ (a : Act) (s : St), Has N0 154 s0 a s [(0, (Pd.rep (En.slice En.cls) list_)), (3, (Pd.rep (En.slice En.cls) r10)), (4, (Pd.rep (En.slice (En.int .u8)) r13)), (5, (Pd.box En.cls s0.w.heap.size g21 r47)), (6, (Pd.rep (En.int .i64) i30))] → ((law02_SplitFine.j4 (law02_SplitFine.l1 list_ r10 r13 r_ (law02_SplitFine.j1 r_) k32) list_ r_ r13 i30 r47)) → K66 a s.w := by
              intro a s hL h
              unfold law02_SplitFine.j4 at h
              show K66 a s.w
              refine hK66 _ _ ?_
              refine wp_seq_k fun K69 hK69 => ?_
              refine rg ?_
              refine st 11 (t_assign (o_i (by decide)) rfl rfl) rfl rfl hL fun a s e_ hL => ?_
              refine en' ?_
              show K69 a s.w
              refine hK69 _ _ ?_
              refine wp_block ?_
              have J70 : ∀ (a : Act) (s : St), Has N0 154 s0 a s [(0, (Pd.rep (En.slice En.cls) list_)), (3, (Pd.rep (En.slice En.cls) r10)), (4, (Pd.rep (En.slice (En.int .u8)) r13)), (5, (Pd.box En.cls s0.w.heap.size g21 r47)), (6, (Pd.rep (En.int .i64) i30))] → ((law02_SplitFine.j2 (law02_SplitFine.l1 list_ r10 r13 r_ (law02_SplitFine.j1 r_) k32) i30 r47)) → K36 a s.w := by
                intro a s hL h
                unfold law02_SplitFine.j2 at h
                show K36 a s.w
                refine hK36 _ _ ?_
                obtain ⟨h71, h⟩ := h
                refine rg ?_
                refine st 40 (t_move (o_t 6 rfl) rfl rfl) rfl rfl hL fun a s e_ hL => ?_
                refine st 41 (t_add (o_t 40 rfl) (o_i (by decide)) h71 rfl rfl) rfl rfl hL fun a s e_ hL => ?_
                refine st 6 (t_assign (o_t 41 rfl) rfl rfl) rfl rfl hL fun a s e_ hL => ?_
                refine en' ?_
                exact hKL33 k32 a s (Nat.lt_succ_self _) ⟨r47, (i30 + 1), hL.keep (.cons (t := 0) rfl (fun _ h_ => h_.elim) (.cons (t := 3) rfl (fun _ h_ => h_.elim) (.cons (t := 4) rfl (fun _ h_ => h_.elim) (.cons (t := 5) rfl (fun _ _ h_ => h_) (.cons (t := 6) rfl (fun _ h_ => h_.elim) .nil))))), h⟩
              obtain ⟨k73, h⟩ := h
              refine lpg (fun k74 a s => ∃ (k72 : Int), Has N0 154 s0 a s [(0, (Pd.rep (En.slice En.cls) list_)), (3, (Pd.rep (En.slice En.cls) r10)), (4, (Pd.rep (En.slice (En.int .u8)) r13)), (5, (Pd.box En.cls s0.w.heap.size g21 r47)), (6, (Pd.rep (En.int .i64) i30)), (11, (Pd.rep (En.int .i64) k72))] ∧ law02_SplitFine.l2 list_ r13 i30 r_ (law02_SplitFine.j2 (law02_SplitFine.l1 list_ r10 r13 r_ (law02_SplitFine.j1 r_) k32) i30 r47) k74 k72) k73 ⟨0, hL.keep (.cons (t := 0) rfl (fun _ h_ => h_.elim) (.cons (t := 3) rfl (fun _ h_ => h_.elim) (.cons (t := 4) rfl (fun _ h_ => h_.elim) (.cons (t := 5) rfl (fun _ _ h_ => h_) (.cons (t := 6) rfl (fun _ h_ => h_.elim) (.cons (t := 11) rfl (fun _ h_ => h_.elim) .nil)))))), h⟩ ?_
              rintro k74 a s ⟨k72, hL, h⟩ KL75 hKL75
              cases k74 with
              | zero => exact h.elim
              | succ k74 =>
              unfold law02_SplitFine.l2 at h
              refine wp_seq_k fun K76 hK76 => ?_
              refine wp_seq_k fun K77 hK77 => ?_
              refine rg ?_
              refine st 116 (t_move (o_t 11 rfl) rfl rfl) rfl rfl hL fun a s e_ hL => ?_
              refine st 117 (t_move (o_t 6 rfl) rfl rfl) rfl rfl hL fun a s e_ hL => ?_
              refine st 118 (t_lss (o_t 116 rfl) (o_t 117 rfl) rfl rfl) rfl rfl hL fun a s e_ hL => ?_
              refine en' ?_
              show K77 a s.w
              refine hK77 _ _ ?_
              refine cnd hL rfl (fun hb_ => ?_) (fun hb_ => ?_)
              · replace h := h.1 hb_
                refine wp_skip ?_
                show K76 a s.w
                refine hK76 _ _ ?_
                refine wp_seq_k fun K78 hK78 => ?_
                refine wp_block ?_
                refine wp_seq_k fun K79 hK79 => ?_
                refine rg ?_
                refine st 12 (t_assign o_b rfl rfl) rfl rfl hL fun a s e_ hL => ?_
                refine en' ?_
                show K79 a s.w
                refine hK79 _ _ ?_
                refine wp_seq_k fun K80 hK80 => ?_
                refine wp_seq_k fun K81 hK81 => ?_
                refine rg ?_
                refine st 13 (t_assign (o_i (by decide)) rfl rfl) rfl rfl hL fun a s e_ hL => ?_
                refine en' ?_
                show K81 a s.w
                refine hK81 _ _ ?_
                refine wp_block ?_
                have J83 : ∀ (apart82 : Bool) (a : Act) (s : St), Has N0 154 s0 a s [(0, (Pd.rep (En.slice En.cls) list_)), (3, (Pd.rep (En.slice En.cls) r10)), (4, (Pd.rep (En.slice (En.int .u8)) r13)), (5, (Pd.box En.cls s0.w.heap.size g21 r47)), (6, (Pd.rep (En.int .i64) i30)), (11, (Pd.rep (En.int .i64) k72)), (12, (Pd.rep En.bool apart82))] → ((law02_SplitFine.j3 (law02_SplitFine.l2 list_ r13 i30 r_ (law02_SplitFine.j2 (law02_SplitFine.l1 list_ r10 r13 r_ (law02_SplitFine.j1 r_) k32) i30 r47) k74) r_ k72) apart82) → K80 a s.w := by
                  intro apart82 a s hL h
                  unfold law02_SplitFine.j3 at h
                  show K80 a s.w
                  refine hK80 _ _ ?_
                  refine wp_seq_k fun K84 hK84 => ?_
                  refine rg ?_
                  refine st 149 (t_move (o_t 12 rfl) rfl rfl) rfl rfl hL fun a s e_ hL => ?_
                  refine st 150 (t_not (o_t 149 rfl) rfl rfl) rfl rfl hL fun a s e_ hL => ?_
                  refine en' ?_
                  show K84 a s.w
                  refine hK84 _ _ ?_
                  refine cnd hL rfl (fun hb_ => ?_) (fun hb_ => ?_)
                  · replace h := h.1 hb_
                    refine wp_seq_k fun K85 hK85 => ?_
                    refine rg ?_
                    refine st 2 (t_assign o_b rfl rfl) rfl rfl hL fun a s e_ hL => ?_
                    refine en' ?_
                    show K85 a s.w
                    refine hK85 _ _ ?_
                    subst h
                    exact wp_ret (retq rfl hL rfl)
                  · replace h := h.2 hb_
                    refine wp_skip ?_
                    show K78 a s.w
                    refine hK78 _ _ ?_
                    obtain ⟨h86, h⟩ := h
                    refine rg ?_
                    refine st 119 (t_move (o_t 11 rfl) rfl rfl) rfl rfl hL fun a s e_ hL => ?_
                    refine st 120 (t_add (o_t 119 rfl) (o_i (by decide)) h86 rfl rfl) rfl rfl hL fun a s e_ hL => ?_
                    refine st 11 (t_assign (o_t 120 rfl) rfl rfl) rfl rfl hL fun a s e_ hL => ?_
                    refine en' ?_
                    exact hKL75 k74 a s (Nat.lt_succ_self _) ⟨(k72 + 1), hL.keep (.cons (t := 0) rfl (fun _ h_ => h_.elim) (.cons (t := 3) rfl (fun _ h_ => h_.elim) (.cons (t := 4) rfl (fun _ h_ => h_.elim) (.cons (t := 5) rfl (fun _ _ h_ => h_) (.cons (t := 6) rfl (fun _ h_ => h_.elim) (.cons (t := 11) rfl (fun _ h_ => h_.elim) .nil)))))), h⟩
                obtain ⟨k89, h⟩ := h
                refine lpg (fun k90 a s => ∃ (apart87 : Bool) (m88 : Int), Has N0 154 s0 a s [(0, (Pd.rep (En.slice En.cls) list_)), (3, (Pd.rep (En.slice En.cls) r10)), (4, (Pd.rep (En.slice (En.int .u8)) r13)), (5, (Pd.box En.cls s0.w.heap.size g21 r47)), (6, (Pd.rep (En.int .i64) i30)), (11, (Pd.rep (En.int .i64) k72)), (12, (Pd.rep En.bool apart87)), (13, (Pd.rep (En.int .i64) m88))] ∧ law02_SplitFine.l3 list_ r13 i30 k72 (law02_SplitFine.j3 (law02_SplitFine.l2 list_ r13 i30 r_ (law02_SplitFine.j2 (law02_SplitFine.l1 list_ r10 r13 r_ (law02_SplitFine.j1 r_) k32) i30 r47) k74) r_ k72) k90 apart87 m88) k89 ⟨false, 0, hL.keep (.cons (t := 0) rfl (fun _ h_ => h_.elim) (.cons (t := 3) rfl (fun _ h_ => h_.elim) (.cons (t := 4) rfl (fun _ h_ => h_.elim) (.cons (t := 5) rfl (fun _ _ h_ => h_) (.cons (t := 6) rfl (fun _ h_ => h_.elim) (.cons (t := 11) rfl (fun _ h_ => h_.elim) (.cons (t := 12) rfl (fun _ h_ => h_.elim) (.cons (t := 13) rfl (fun _ h_ => h_.elim) .nil)))))))), h⟩ ?_
                rintro k90 a s ⟨apart87, m88, hL, h⟩ KL91 hKL91
                cases k90 with
                | zero => exact h.elim
                | succ k90 =>
                unfold law02_SplitFine.l3 at h
                refine wp_seq_k fun K92 hK92 => ?_
                refine wp_seq_k fun K93 hK93 => ?_
                refine rg ?_
                refine st 121 (t_move (o_t 13 rfl) rfl rfl) rfl rfl hL fun a s e_ hL => ?_
                refine st 122 (t_move (o_t 0 rfl) rfl rfl) rfl rfl hL fun a s e_ hL => ?_
                refine st 123 (t_len (o_t 122 rfl) Try.underlying42 rfl rfl) rfl rfl hL fun a s e_ hL => ?_
                refine st 124 (t_lss (o_t 121 rfl) (o_t 123 rfl) rfl rfl) rfl rfl hL fun a s e_ hL => ?_
                refine en' ?_
                show K93 a s.w
                refine hK93 _ _ ?_
                refine cnd hL rfl (fun hb_ => ?_) (fun hb_ => ?_)
                · replace h := h.1 hb_
                  refine wp_skip ?_
                  show K92 a s.w
                  refine hK92 _ _ ?_
                  refine wp_seq_k fun K94 hK94 => ?_
                  refine wp_block ?_
                  obtain ⟨e95, h96, e97, h98, r99, h100, e101, h102, e103, h104, r105, h106, h⟩ := h
                  refine rda follows 22 [(Pd.rep En.bool apart87), (Pd.rep En.bool apart87), (Pd.when ((apart87) = false) (Pd.rep (En.slice En.cls) list_)), (Pd.when ((apart87) = false) (Pd.rep (En.int .i64) m88)), (Pd.when ((apart87) = false) (Pd.ptr En.cls e95)), (Pd.when ((apart87) = false) (Pd.rep En.cls e95)), (Pd.when ((apart87) = false) (Pd.rep (En.slice (En.int .u8)) r13)), (Pd.when ((apart87) = false) (Pd.rep (En.int .i64) i30)), (Pd.when ((apart87) = false) (Pd.ptr (En.int .u8) e97)), (Pd.when ((apart87) = false) (Pd.rep (En.int .u8) e97)), (Pd.when ((apart87) = false) (Pd.rep En.bool r99)), (Pd.when ((apart87) = false) (Pd.rep (En.slice En.cls) list_)), (Pd.when ((apart87) = false) (Pd.rep (En.int .i64) m88)), (Pd.when ((apart87) = false) (Pd.ptr En.cls e101)), (Pd.when ((apart87) = false) (Pd.rep En.cls e101)), (Pd.when ((apart87) = false) (Pd.rep (En.slice (En.int .u8)) r13)), (Pd.when ((apart87) = false) (Pd.rep (En.int .i64) k72)), (Pd.when ((apart87) = false) (Pd.ptr (En.int .u8) e103)), (Pd.when ((apart87) = false) (Pd.rep (En.int .u8) e103)), (Pd.when ((apart87) = false) (Pd.rep En.bool r105)), (Pd.when ((apart87) = false) (Pd.rep En.bool (r99 != r105))), (Pd.rep En.bool (apart87 || (r99 != r105)))] hL (by kernel_rfl) rfl rfl ?_ ?_
                  · refine AllT.cons (t_move (o_t 12 rfl) rfl rfl) ?_
                    refine AllT.cons (t_move (o_t 127 rfl) rfl rfl) ?_
                    refine AllT.cons (t_g1 rfl rfl rfl (fun hc_ => t_move (o_t 0 rfl) rfl rfl)) ?_
                    refine AllT.cons (t_g1 rfl rfl rfl (fun hc_ => t_move (o_t 13 rfl) rfl rfl)) ?_
                    refine AllT.cons (t_g1 rfl rfl rfl (fun hc_ => t_idx (o_w hc_ 129 rfl) (o_w hc_ 130 rfl) (h96 hc_) Try.underlying42 ty24 rfl rfl)) ?_
                    refine AllT.cons (t_g1 rfl rfl rfl (fun hc_ => t_load ty24 (o_w hc_ 131 rfl) rfl rfl)) ?_
                    refine AllT.cons (t_g1 rfl rfl rfl (fun hc_ => t_move (o_t 4 rfl) rfl rfl)) ?_
                    refine AllT.cons (t_g1 rfl rfl rfl (fun hc_ => t_move (o_t 6 rfl) rfl rfl)) ?_
                    refine AllT.cons (t_g1 rfl rfl rfl (fun hc_ => t_idx (o_w hc_ 133 rfl) (o_w hc_ 134 rfl) (h98 hc_) Try.underlying40 ty5 rfl rfl)) ?_
                    refine AllT.cons (t_g1 rfl rfl rfl (fun hc_ => t_load ty5 (o_w hc_ 135 rfl) rfl rfl)) ?_
                    refine AllT.cons (t_g1 rfl rfl rfl (fun hc_ => t_call (ref01_Has_ok (h100 hc_)) (xs := [.tmp 132, .tmp 136]) (.cons (o_w hc_ 132 rfl) (.cons (o_w hc_ 136 rfl) .nil)) rfl rfl)) ?_
                    refine AllT.cons (t_g1 rfl rfl rfl (fun hc_ => t_move (o_t 0 rfl) rfl rfl)) ?_
                    refine AllT.cons (t_g1 rfl rfl rfl (fun hc_ => t_move (o_t 13 rfl) rfl rfl)) ?_
                    refine AllT.cons (t_g1 rfl rfl rfl (fun hc_ => t_idx (o_w hc_ 138 rfl) (o_w hc_ 139 rfl) (h102 hc_) Try.underlying42 ty24 rfl rfl)) ?_
                    refine AllT.cons (t_g1 rfl rfl rfl (fun hc_ => t_load ty24 (o_w hc_ 140 rfl) rfl rfl)) ?_
                    refine AllT.cons (t_g1 rfl rfl rfl (fun hc_ => t_move (o_t 4 rfl) rfl rfl)) ?_
                    refine AllT.cons (t_g1 rfl rfl rfl (fun hc_ => t_move (o_t 11 rfl) rfl rfl)) ?_
                    refine AllT.cons (t_g1 rfl rfl rfl (fun hc_ => t_idx (o_w hc_ 142 rfl) (o_w hc_ 143 rfl) (h104 hc_) Try.underlying40 ty5 rfl rfl)) ?_
                    refine AllT.cons (t_g1 rfl rfl rfl (fun hc_ => t_load ty5 (o_w hc_ 144 rfl) rfl rfl)) ?_
                    refine AllT.cons (t_g1 rfl rfl rfl (fun hc_ => t_call (ref01_Has_ok (h106 hc_)) (xs := [.tmp 141, .tmp 145]) (.cons (o_w hc_ 141 rfl) (.cons (o_w hc_ 145 rfl) .nil)) rfl rfl)) ?_
                    refine AllT.cons (t_g1 rfl rfl rfl (fun hc_ => t_neb (o_w hc_ 137 rfl) (o_w hc_ 146 rfl) Try.underlying4 rfl rfl)) ?_
                    refine AllT.cons (t_or (o_t 128 rfl) (fun hc2_ => (o_w hc2_ 147 rfl)) rfl rfl) ?_
                    exact AllT.nil
                  intro a s e_ hL
                  refine st 12 (t_assign (o_t 148 rfl) rfl rfl) rfl rfl hL fun a s e_ hL => ?_
                  refine en' ?_
                  show K94 a s.w
                  refine hK94 _ _ ?_
                  obtain ⟨h107, h⟩ := h
                  refine rg ?_
                  refine st 125 (t_move (o_t 13 rfl) rfl rfl) rfl rfl hL fun a s e_ hL => ?_
                  refine st 126 (t_add (o_t 125 rfl) (o_i (by decide)) h107 rfl rfl) rfl rfl hL fun a s e_ hL => ?_
                  refine st 13 (t_assign (o_t 126 rfl) rfl rfl) rfl rfl hL fun a s e_ hL => ?_
                  refine en' ?_
                  exact hKL91 k90 a s (Nat.lt_succ_self _) ⟨(apart87 || (r99 != r105)), (m88 + 1), hL.keep (.cons (t := 0) rfl (fun _ h_ => h_.elim) (.cons (t := 3) rfl (fun _ h_ => h_.elim) (.cons (t := 4) rfl (fun _ h_ => h_.elim) (.cons (t := 5) rfl (fun _ _ h_ => h_) (.cons (t := 6) rfl (fun _ h_ => h_.elim) (.cons (t := 11) rfl (fun _ h_ => h_.elim) (.cons (t := 12) rfl (fun _ h_ => h_.elim) (.cons (t := 13) rfl (fun _ h_ => h_.elim) .nil)))))))), h⟩
                · replace h := h.2 hb_
                  refine wp_exit ?_
                  exact J83 apart87 a s (hL.keep (.cons (t := 0) rfl (fun _ h_ => h_.elim) (.cons (t := 3) rfl (fun _ h_ => h_.elim) (.cons (t := 4) rfl (fun _ h_ => h_.elim) (.cons (t := 5) rfl (fun _ _ h_ => h_) (.cons (t := 6) rfl (fun _ h_ => h_.elim) (.cons (t := 11) rfl (fun _ h_ => h_.elim) (.cons (t := 12) rfl (fun _ h_ => h_.elim) .nil)))))))) h
              · replace h := h.2 hb_
                refine wp_exit ?_
                exact J70 a s (hL.keep (.cons (t := 0) rfl (fun _ h_ => h_.elim) (.cons (t := 3) rfl (fun _ h_ => h_.elim) (.cons (t := 4) rfl (fun _ h_ => h_.elim) (.cons (t := 5) rfl (fun _ _ h_ => h_) (.cons (t := 6) rfl (fun _ h_ => h_.elim) .nil)))))) h
            obtain ⟨k109, h⟩ := h
            refine lpg (fun k110 a s => ∃ (k108 : Int), Has N0 154 s0 a s [(0, (Pd.rep (En.slice En.cls) list_)), (3, (Pd.rep (En.slice En.cls) r10)), (4, (Pd.rep (En.slice (En.int .u8)) r13)), (5, (Pd.box En.cls s0.w.heap.size g21 r47)), (6, (Pd.rep (En.int .i64) i30)), (9, (Pd.rep (En.int .i64) k108))] ∧ law02_SplitFine.l4 list_ r10 i30 r_ (law02_SplitFine.j4 (law02_SplitFine.l1 list_ r10 r13 r_ (law02_SplitFine.j1 r_) k32) list_ r_ r13 i30 r47) k110 k108) k109 ⟨0, hL.keep (.cons (t := 0) rfl (fun _ h_ => h_.elim) (.cons (t := 3) rfl (fun _ h_ => h_.elim) (.cons (t := 4) rfl (fun _ h_ => h_.elim) (.cons (t := 5) rfl (fun _ _ h_ => h_) (.cons (t := 6) rfl (fun _ h_ => h_.elim) (.cons (t := 9) rfl (fun _ h_ => h_.elim) .nil)))))), h⟩ ?_
            rintro k110 a s ⟨k108, hL, h⟩ KL111 hKL111
            cases k110 with
            | zero => exact h.elim
            | succ k110 =>
            unfold law02_SplitFine.l4 at h
            refine wp_seq_k fun K112 hK112 => ?_
            refine wp_seq_k fun K113 hK113 => ?_
            refine rg ?_
            refine st 90 (t_move (o_t 9 rfl) rfl rfl) rfl rfl hL fun a s e_ hL => ?_
            refine st 91 (t_move (o_t 0 rfl) rfl rfl) rfl rfl hL fun a s e_ hL => ?_
            refine st 92 (t_len (o_t 91 rfl) Try.underlying42 rfl rfl) rfl rfl hL fun a s e_ hL => ?_
            refine st 93 (t_lss (o_t 90 rfl) (o_t 92 rfl) rfl rfl) rfl rfl hL fun a s e_ hL => ?_
            refine en' ?_
            show K113 a s.w
            refine hK113 _ _ ?_
            refine cnd hL rfl (fun hb_ => ?_) (fun hb_ => ?_)
            · replace h := h.1 hb_
              refine wp_skip ?_
              show K112 a s.w
              refine hK112 _ _ ?_
              refine wp_seq_k fun K114 hK114 => ?_
              refine wp_block ?_
              refine wp_seq_k fun K115 hK115 => ?_
              obtain ⟨e118, h119, e120, h121, r122, h123, h⟩ := h
              obtain ⟨K116, hK116, nK116, hL⟩ := hL.mark 999983
              have lt117 : ∀ k, (some g21) = some k → k < K116 := by rw [hK116]; exact hL.blt 5 rfl
              refine rda follows 10 [(Pd.rep (En.slice En.cls) r10), (Pd.rep (En.int .i64) i30), (Pd.ptr En.cls e118), (Pd.rep En.cls e118), (Pd.rep (En.slice En.cls) list_), (Pd.rep (En.int .i64) k108), (Pd.ptr En.cls e120), (Pd.rep En.cls e120), (Pd.rep En.cls r122), (Pd.ebox En.cls s0.w.heap.size K116 (0#256))] hL (by kernel_rfl) rfl rfl ?_ ?_
              · refine AllT.cons (t_move (o_t 3 rfl) rfl rfl) ?_
                refine AllT.cons (t_move (o_t 6 rfl) rfl rfl) ?_
                refine AllT.cons (t_idx (o_t 96 rfl) (o_t 97 rfl) h119 Try.underlying42 ty24 rfl rfl) ?_
                refine AllT.cons (t_load ty24 (o_t 98 rfl) rfl rfl) ?_
                refine AllT.cons (t_move (o_t 0 rfl) rfl rfl) ?_
                refine AllT.cons (t_move (o_t 9 rfl) rfl rfl) ?_
                refine AllT.cons (t_idx (o_t 100 rfl) (o_t 101 rfl) h121 Try.underlying42 ty24 rfl rfl) ?_
                refine AllT.cons (t_load ty24 (o_t 102 rfl) rfl rfl) ?_
                refine AllT.cons (t_call (ref01_Both_ok h123) (xs := [.tmp 99, .tmp 103]) (.cons (o_t 99 rfl) (.cons (o_t 103 rfl) .nil)) rfl rfl) ?_
                refine AllT.cons (t_allocx En.cls (z := (0#256)) (K := K116) (m := 999983) rfl nK116 tyz24 rfl rfl) ?_
                exact AllT.nil
              intro a s e_ hL
              obtain ⟨g124, hg_, hL⟩ := hL.openb 10 rfl
              have d125 : Dis (some g124) (some g21) := Dis.newg hg_ lt117
              refine st_stb (L' := [(0, (Pd.rep (En.slice En.cls) list_)), (3, (Pd.rep (En.slice En.cls) r10)), (4, (Pd.rep (En.slice (En.int .u8)) r13)), (5, (Pd.box En.cls s0.w.heap.size g21 r47)), (6, (Pd.rep (En.int .i64) i30)), (9, (Pd.rep (En.int .i64) k108))]) 10 hL rfl (o_t 104 rfl) ty24 rfl rfl rfl (.cons (t := 0) rfl (fun _ h_ => h_.elim) (.cons (t := 3) rfl (fun _ h_ => h_.elim) (.cons (t := 4) rfl (fun _ h_ => h_.elim) (.cons (t := 5) rfl (Dis.bx (Dis.symm d125)) (.cons (t := 6) rfl (fun _ h_ => h_.elim) (.cons (t := 9) rfl (fun _ h_ => h_.elim) .nil)))))) fun s hL => ?_
              refine en' ?_
              show K115 a s.w
              refine hK115 _ _ ?_
              refine wp_seq_k fun K126 hK126 => ?_
              obtain ⟨e127, h128, h⟩ := h
              refine rda follows 11 [(Pd.rep En.cls r122), (Pd.rep (En.slice En.cls) r10), (Pd.rep (En.int .i64) i30), (Pd.ptr En.cls e127), (Pd.rep En.cls e127), (Pd.rep En.bool (r122 != e127)), (Pd.rep En.bool (r122 != e127)), (Pd.when (((r122 != e127)) = true) (Pd.rep En.cls r122)), (Pd.when (((r122 != e127)) = true) (Pd.rep En.cls (0#256))), (Pd.when (((r122 != e127)) = true) (Pd.rep En.bool (r122 != (0#256)))), (Pd.rep En.bool ((r122 != e127) && (r122 != (0#256))))] hL (by kernel_rfl) rfl rfl ?_ ?_
              · refine AllT.cons (t_loadb ty24 (o_t 10 rfl) rfl rfl) ?_
                refine AllT.cons (t_move (o_t 3 rfl) rfl rfl) ?_
                refine AllT.cons (t_move (o_t 6 rfl) rfl rfl) ?_
                refine AllT.cons (t_idx (o_t 106 rfl) (o_t 107 rfl) h128 Try.underlying42 ty24 rfl rfl) ?_
                refine AllT.cons (t_load ty24 (o_t 108 rfl) rfl rfl) ?_
                refine AllT.cons (t_nev eq24 (o_t 105 rfl) (o_t 109 rfl) rfl rfl) ?_
                refine AllT.cons (t_move (o_t 110 rfl) rfl rfl) ?_
                refine AllT.cons (t_g1 rfl rfl rfl (fun hc_ => t_loadb ty24 (o_t 10 rfl) rfl rfl)) ?_
                refine AllT.cons (t_g1 rfl rfl rfl (fun hc_ => t_bcls (x := (0#256)) Try.underlying24 (by rfl) tyz24 (fun _ => by kernel_rfl) rfl rfl)) ?_
                refine AllT.cons (t_g1 rfl rfl rfl (fun hc_ => t_nev eq24 (o_w hc_ 112 rfl) (o_w hc_ 113 rfl) rfl rfl)) ?_
                refine AllT.cons (t_and (o_t 111 rfl) (fun hc2_ => (o_w hc2_ 114 rfl)) rfl rfl) ?_
                exact AllT.nil
              intro a s e_ hL
              refine en' ?_
              show K126 a s.w
              refine hK126 _ _ ?_
              refine cnd hL rfl (fun hb_ => ?_) (fun hb_ => ?_)
              · replace h := h.1 hb_
                refine wp_seq_k fun K129 hK129 => ?_
                refine rg ?_
                refine st 2 (t_assign o_b rfl rfl) rfl rfl hL fun a s e_ hL => ?_
                refine en' ?_
                show K129 a s.w
                refine hK129 _ _ ?_
                subst h
                exact wp_ret (retq rfl hL rfl)
              · replace h := h.2 hb_
                refine wp_skip ?_
                show K114 a s.w
                refine hK114 _ _ ?_
                obtain ⟨h130, h⟩ := h
                refine rg ?_
                refine st 94 (t_move (o_t 9 rfl) rfl rfl) rfl rfl hL fun a s e_ hL => ?_
                refine st 95 (t_add (o_t 94 rfl) (o_i (by decide)) h130 rfl rfl) rfl rfl hL fun a s e_ hL => ?_
                refine st 9 (t_assign (o_t 95 rfl) rfl rfl) rfl rfl hL fun a s e_ hL => ?_
                refine en' ?_
                exact hKL111 k110 a s (Nat.lt_succ_self _) ⟨(k108 + 1), hL.keep (.cons (t := 0) rfl (fun _ h_ => h_.elim) (.cons (t := 3) rfl (fun _ h_ => h_.elim) (.cons (t := 4) rfl (fun _ h_ => h_.elim) (.cons (t := 5) rfl (fun _ _ h_ => h_) (.cons (t := 6) rfl (fun _ h_ => h_.elim) (.cons (t := 9) rfl (fun _ h_ => h_.elim) .nil)))))), h⟩
            · replace h := h.2 hb_
              refine wp_exit ?_
              exact J68 a s (hL.keep (.cons (t := 0) rfl (fun _ h_ => h_.elim) (.cons (t := 3) rfl (fun _ h_ => h_.elim) (.cons (t := 4) rfl (fun _ h_ => h_.elim) (.cons (t := 5) rfl (fun _ _ h_ => h_) (.cons (t := 6) rfl (fun _ h_ => h_.elim) .nil)))))) h
      · replace h := h.2 hb_
        refine wp_exit ?_
        exact J25 all29 a s (hL.keep (.cons (t := 5) rfl (fun _ _ h_ => h_) .nil)) h

theorem law02_SplitOrder_ok {list_ : (List Cl)} {turn_ : Int} {which_ : Int} {r_ : Bool} (h : law02_SplitOrder list_ turn_ which_ r_) : Fn Try.prog 10 [(Pd.rep (En.slice En.cls) list_), (Pd.rep (En.int .u8) turn_), (Pd.rep (En.int .u8) which_)] (Rq (Pd.rep En.bool r_)) := by
  unfold law02_SplitOrder at h
  refine fn_of Try.func10 rfl Try.ntmps10 (by rfl) (by simp) fun s0 a hL => ?_
  refine wp_seq_k fun K1 hK1 => ?_
  refine rg ?_
  refine st 6 (t_assign o_b rfl rfl) rfl rfl hL fun a s e_ hL => ?_
  refine en' ?_
  show K1 a s.w
  refine hK1 _ _ ?_
  refine wp_seq_k fun K2 hK2 => ?_
  refine wp_seq_k fun K3 hK3 => ?_
  obtain ⟨r4, h5, b6, h7, h⟩ := h
  refine rg ?_
  refine st 13 (t_call (law02_awake_ok h5) (xs := []) .nil rfl rfl) rfl rfl hL fun a s e_ hL => ?_
  refine st 14 (t_not (o_t 13 rfl) rfl rfl) rfl rfl hL fun a s e_ hL => ?_
  refine st 15 (t_move (o_t 14 rfl) rfl rfl) rfl rfl hL fun a s e_ hL => ?_
  refine st 16 (t_g1 rfl rfl rfl (fun hc_ => t_move (o_t 0 rfl) rfl rfl)) rfl rfl hL fun a s e_ hL => ?_
  refine st 17 (t_g1 rfl rfl rfl (fun hc_ => t_len (o_w hc_ 16 rfl) Try.underlying42 rfl rfl)) rfl rfl hL fun a s e_ hL => ?_
  refine st 18 (t_g1 rfl rfl rfl (fun hc_ => t_gtr (o_w hc_ 17 rfl) (o_i (by decide)) rfl rfl)) rfl rfl hL fun a s e_ hL => ?_
  refine st 19 (t_or (o_t 15 rfl) (fun hc2_ => (o_w hc2_ 18 rfl)) rfl rfl) rfl rfl hL fun a s e_ hL => ?_
  refine st 20 (t_move (o_t 19 rfl) rfl rfl) rfl rfl hL fun a s e_ hL => ?_
  refine st 21 (t_g1 rfl rfl rfl (fun hc_ => t_move (o_t 0 rfl) rfl rfl)) rfl rfl hL fun a s e_ hL => ?_
  refine st 22 (t_g1 rfl rfl rfl (fun hc_ => t_len (o_w hc_ 21 rfl) Try.underlying42 rfl rfl)) rfl rfl hL fun a s e_ hL => ?_
  refine st 23 (t_g1 rfl rfl rfl (fun hc_ => t_eqi (o_w hc_ 22 rfl) (o_i (by decide)) rfl rfl)) rfl rfl hL fun a s e_ hL => ?_
  refine st 24 (h7 ▸ (t_or (o_t 20 rfl) (fun hc2_ => (o_w hc2_ 23 rfl)) rfl rfl)) rfl rfl hL fun a s e_ hL => ?_
  refine en' ?_
  show K3 a s.w
  refine hK3 _ _ ?_
  refine cnd hL rfl (fun hb_ => ?_) (fun hb_ => ?_)
  · replace h := h.1 hb_
    refine wp_seq_k fun K8 hK8 => ?_
    obtain ⟨r9, h10, h⟩ := h
    refine rg ?_
    refine st 25 (t_call (law02_awake_ok h10) (xs := []) .nil rfl rfl) rfl rfl hL fun a s e_ hL => ?_
    refine st 6 (t_assign (o_t 25 rfl) rfl rfl) rfl rfl hL fun a s e_ hL => ?_
    refine en' ?_
    show K8 a s.w
    refine hK8 _ _ ?_
    subst h
    exact wp_ret (retq rfl hL rfl)
  · replace h := h.2 hb_
    refine wp_skip ?_
    show K2 a s.w
    refine hK2 _ _ ?_
    refine wp_seq_k fun K11 hK11 => ?_
    obtain ⟨r12, h13, h⟩ := h
    refine rg ?_
    refine st 26 (t_move (o_t 0 rfl) rfl rfl) rfl rfl hL fun a s e_ hL => ?_
    refine st 27 (t_call ((split_Parts_ok h13).frz) (xs := [.tmp 26]) (.cons (o_t 26 rfl) .nil) rfl rfl) rfl rfl hL fun a s e_ hL => ?_
    refine st 7 (t_assign (o_t 27 rfl) rfl rfl) rfl rfl hL fun a s e_ hL => ?_
    refine en' ?_
    show K11 a s.w
    refine hK11 _ _ ?_
    refine wp_seq_k fun K14 hK14 => ?_
    refine rg ?_
    refine st 8 (t_assign (o_nil (E := En.cls) (N := s0.w.heap.size) (te := 24)) rfl rfl) rfl rfl hL fun a s e_ hL => ?_
    refine en' ?_
    show K14 a s.w
    refine hK14 _ _ ?_
    refine wp_seq_k fun K15 hK15 => ?_
    refine wp_seq_k fun K16 hK16 => ?_
    refine rg ?_
    refine st 9 (t_assign (o_i (by decide)) rfl rfl) rfl rfl hL fun a s e_ hL => ?_
    refine en' ?_
    show K16 a s.w
    refine hK16 _ _ ?_
    refine wp_block ?_
    have J19 : ∀ (turned17 : (List Cl)) (og18 : Option Nat) (a : Act) (s : St), Has N0 87 s0 a s [(0, (Pd.rep (En.slice En.cls) list_)), (2, (Pd.rep (En.int .u8) which_)), (7, (Pd.rep (En.slice En.cls) r12)), (8, (Pd.row En.cls s0.w.heap.size 24 og18 turned17))] → ((law02_SplitOrder.j1 list_ which_ r_ r12) turned17) → K15 a s.w := by
      intro turned17 og18 a s hL h
      unfold law02_SplitOrder.j1 at h
      show K15 a s.w
      refine hK15 _ _ ?_
      refine wp_seq_k fun K20 hK20 => ?_
      obtain ⟨h21, h22, h⟩ := h
      refine rg ?_
      refine st 53 (t_move (o_t 2 rfl) rfl rfl) rfl rfl hL fun a s e_ hL => ?_
      refine st 54 (t_up (o_t 53 rfl) (by decide) Try.underlying5 Try.underlying3 rfl rfl) rfl rfl hL fun a s e_ hL => ?_
      refine st 55 (t_move (o_t 0 rfl) rfl rfl) rfl rfl hL fun a s e_ hL => ?_
      refine st 56 (t_len (o_t 55 rfl) Try.underlying42 rfl rfl) rfl rfl hL fun a s e_ hL => ?_
      refine st 57 (t_rem (o_t 54 rfl) (o_t 56 rfl) h22 h21 rfl rfl) rfl rfl hL fun a s e_ hL => ?_
      refine st 11 (t_assign (o_t 57 rfl) rfl rfl) rfl rfl hL fun a s e_ hL => ?_
      refine en' ?_
      show K20 a s.w
      refine hK20 _ _ ?_
      refine wp_seq_k fun K23 hK23 => ?_
      obtain ⟨h26, e27, h28, h31, h⟩ := h
      obtain ⟨K24, hK24, nK24, hL⟩ := hL.mark 999983
      have lt25 : ∀ k, og18 = some k → k < K24 := by rw [hK24]; exact hL.rlt 8 rfl
      refine rda follows 8 [(Pd.erow0 s0.w.heap.size K24 24), (Pd.rep (En.slice En.cls) list_), (Pd.erow En.cls s0.w.heap.size K24 24 list_), (Pd.rep (En.slice En.cls) list_), (Pd.rep (En.int .i64) (which_ % (list_.length : Int))), (Pd.ptr En.cls e27), (Pd.rep En.cls e27), (Pd.rep (En.slice En.cls) [e27])] hL (by kernel_rfl) rfl rfl ?_ ?_
      · refine AllT.cons (t_newx En.cls (K := K24) (m := 999983) rfl nK24 Try.underlying42 ty24 rfl rfl) ?_
        refine AllT.cons (t_move (o_t 0 rfl) rfl rfl) ?_
        refine AllT.cons (t_app0 (o_t 58 rfl) (o_t 59 rfl) Try.underlying42 ty24 h26 (m := 999983) rfl rfl rfl) ?_
        refine AllT.cons (t_move (o_t 0 rfl) rfl rfl) ?_
        refine AllT.cons (t_move (o_t 11 rfl) rfl rfl) ?_
        refine AllT.cons (t_idx (o_t 61 rfl) (o_t 62 rfl) h28 Try.underlying42 ty24 rfl rfl) ?_
        refine AllT.cons (t_load ty24 (o_t 63 rfl) rfl rfl) ?_
        refine AllT.cons (t_lit (xs := [.tmp 64]) (.cons (o_t 64 rfl) .nil) Try.underlying42 ty24 rfl rfl (by decide) rfl rfl) ?_
        exact AllT.nil
      intro a s e_ hL
      obtain ⟨og29, hg_, hL⟩ := hL.openr 60 rfl
      have d30 : Dis og29 og18 := Dis.new hg_ lt25
      have lt_og32_8 := hL.rlt 8 rfl
      refine st_app (L' := [(0, (Pd.rep (En.slice En.cls) list_)), (7, (Pd.rep (En.slice En.cls) r12)), (8, (Pd.row En.cls s0.w.heap.size 24 og18 turned17)), (11, (Pd.rep (En.int .i64) (which_ % (list_.length : Int))))]) 66 hL (o_t 60 rfl) (o_t 65 rfl) Try.underlying42 ty24 h31 rfl rfl rfl rfl (.cons (t := 0) rfl (fun _ h_ => h_.elim) (.cons (t := 7) rfl (fun _ h_ => h_.elim) (.cons (t := 8) rfl (Dis.ow (Dis.symm d30)) (.cons (t := 11) rfl (fun _ h_ => h_.elim) .nil)))) fun a s og32 hg_ hL => ?_
      have d33 : Dis og32 og18 := Dis.app hg_ d30 lt_og32_8
      refine st 12 (t_assign (o_t 66 rfl) rfl rfl) rfl rfl hL fun a s e_ hL => ?_
      refine en' ?_
      show K23 a s.w
      refine hK23 _ _ ?_
      refine wp_seq_k fun K34 hK34 => ?_
      obtain ⟨s36, h35, hL⟩ := hL.freeze (L' := [(0, (Pd.rep (En.slice En.cls) list_)), (7, (Pd.rep (En.slice En.cls) r12)), (11, (Pd.rep (En.int .i64) (which_ % (list_.length : Int)))), (12, (Pd.row En.cls s0.w.heap.size 24 og32 (list_ ++ [e27])))]) 8 rfl (.cons (t := 0) rfl (fun _ h_ => h_.elim) (.cons (t := 7) rfl (fun _ h_ => h_.elim) (.cons (t := 11) rfl (fun _ h_ => h_.elim) (.cons (t := 12) rfl (Dis.ow d33) .nil))))
      rw [← h35]
      clear h35
      generalize s36 = s at *
      obtain ⟨s38, h37, hL⟩ := hL.freeze (L' := [(0, (Pd.rep (En.slice En.cls) list_)), (7, (Pd.rep (En.slice En.cls) r12)), (8, (Pd.rep (En.slice En.cls) turned17)), (11, (Pd.rep (En.int .i64) (which_ % (list_.length : Int))))]) 12 rfl (.cons (t := 0) rfl (fun _ h_ => h_.elim) (.cons (t := 7) rfl (fun _ h_ => h_.elim) (.cons (t := 8) rfl (fun _ h_ => h_.elim) (.cons (t := 11) rfl (fun _ h_ => h_.elim) .nil))))
      rw [← h37]
      clear h37
      generalize s38 = s at *
      obtain ⟨r39, h40, r41, h42, r43, h44, r45, h46, e47, h48, r49, h50, r51, h52, h⟩ := h
      refine rg ?_
      refine st 67 (t_move (o_t 8 rfl) rfl rfl) rfl rfl hL fun a s e_ hL => ?_
      refine st 68 (t_call ((split_Parts_ok h40).frz) (xs := [.tmp 67]) (.cons (o_t 67 rfl) .nil) rfl rfl) rfl rfl hL fun a s e_ hL => ?_
      refine st 69 (t_move (o_t 7 rfl) rfl rfl) rfl rfl hL fun a s e_ hL => ?_
      refine st 70 (t_call (ref02_Same_ok h42) (xs := [.tmp 68, .tmp 69]) (.cons (o_t 68 rfl) (.cons (o_t 69 rfl) .nil)) rfl rfl) rfl rfl hL fun a s e_ hL => ?_
      refine st 71 (t_move (o_t 70 rfl) rfl rfl) rfl rfl hL fun a s e_ hL => ?_
      refine st 72 (t_g1 rfl rfl rfl (fun hc_ => t_move (o_t 12 rfl) rfl rfl)) rfl rfl hL fun a s e_ hL => ?_
      refine st 73 (t_g1 rfl rfl rfl (fun hc_ => t_call ((split_Parts_ok (h44 hc_)).frz) (xs := [.tmp 72]) (.cons (o_w hc_ 72 rfl) .nil) rfl rfl)) rfl rfl hL fun a s e_ hL => ?_
      refine st 74 (t_g1 rfl rfl rfl (fun hc_ => t_move (o_t 7 rfl) rfl rfl)) rfl rfl hL fun a s e_ hL => ?_
      refine st 75 (t_g1 rfl rfl rfl (fun hc_ => t_call (ref02_Same_ok (h46 hc_)) (xs := [.tmp 73, .tmp 74]) (.cons (o_w hc_ 73 rfl) (.cons (o_w hc_ 74 rfl) .nil)) rfl rfl)) rfl rfl hL fun a s e_ hL => ?_
      refine st 76 (t_and (o_t 71 rfl) (fun hc2_ => (o_w hc2_ 75 rfl)) rfl rfl) rfl rfl hL fun a s e_ hL => ?_
      refine st 77 (t_move (o_t 76 rfl) rfl rfl) rfl rfl hL fun a s e_ hL => ?_
      refine st 78 (t_g1 rfl rfl rfl (fun hc_ => t_move (o_t 7 rfl) rfl rfl)) rfl rfl hL fun a s e_ hL => ?_
      refine st 79 (t_g1 rfl rfl rfl (fun hc_ => t_move (o_t 0 rfl) rfl rfl)) rfl rfl hL fun a s e_ hL => ?_
      refine st 80 (t_g1 rfl rfl rfl (fun hc_ => t_move (o_t 11 rfl) rfl rfl)) rfl rfl hL fun a s e_ hL => ?_
      refine st 81 (t_g1 rfl rfl rfl (fun hc_ => t_idx (o_w hc_ 79 rfl) (o_w hc_ 80 rfl) (h48 hc_) Try.underlying42 ty24 rfl rfl)) rfl rfl hL fun a s e_ hL => ?_
      refine st 82 (t_g1 rfl rfl rfl (fun hc_ => t_load ty24 (o_w hc_ 81 rfl) rfl rfl)) rfl rfl hL fun a s e_ hL => ?_
      refine st 83 (t_g1 rfl rfl rfl (fun hc_ => t_call ((split_Refine_ok (h50 hc_)).frz) (xs := [.tmp 78, .tmp 82]) (.cons (o_w hc_ 78 rfl) (.cons (o_w hc_ 82 rfl) .nil)) rfl rfl)) rfl rfl hL fun a s e_ hL => ?_
      refine st 84 (t_g1 rfl rfl rfl (fun hc_ => t_move (o_t 7 rfl) rfl rfl)) rfl rfl hL fun a s e_ hL => ?_
      refine st 85 (t_g1 rfl rfl rfl (fun hc_ => t_call (ref02_Same_ok (h52 hc_)) (xs := [.tmp 83, .tmp 84]) (.cons (o_w hc_ 83 rfl) (.cons (o_w hc_ 84 rfl) .nil)) rfl rfl)) rfl rfl hL fun a s e_ hL => ?_
      refine st 86 (t_and (o_t 77 rfl) (fun hc2_ => (o_w hc2_ 85 rfl)) rfl rfl) rfl rfl hL fun a s e_ hL => ?_
      refine st 6 (t_assign (o_t 86 rfl) rfl rfl) rfl rfl hL fun a s e_ hL => ?_
      refine en' ?_
      show K34 a s.w
      refine hK34 _ _ ?_
      subst h
      exact wp_ret (retq rfl hL rfl)
    obtain ⟨k56, h⟩ := h
    refine lpg (fun k57 a s => ∃ (turned53 : (List Cl)) (i55 : Int) (og54 : Option Nat), Has N0 87 s0 a s [(0, (Pd.rep (En.slice En.cls) list_)), (1, (Pd.rep (En.int .u8) turn_)), (2, (Pd.rep (En.int .u8) which_)), (7, (Pd.rep (En.slice En.cls) r12)), (8, (Pd.row En.cls s0.w.heap.size 24 og54 turned53)), (9, (Pd.rep (En.int .i64) i55))] ∧ law02_SplitOrder.l1 list_ turn_ (law02_SplitOrder.j1 list_ which_ r_ r12) k57 turned53 i55) k56 ⟨[], 0, none, hL.keep (.cons (t := 0) rfl (fun _ h_ => h_.elim) (.cons (t := 1) rfl (fun _ h_ => h_.elim) (.cons (t := 2) rfl (fun _ h_ => h_.elim) (.cons (t := 7) rfl (fun _ h_ => h_.elim) (.cons (t := 8) rfl (fun _ _ h_ => h_) (.cons (t := 9) rfl (fun _ h_ => h_.elim) .nil)))))), h⟩ ?_
    rintro k57 a s ⟨turned53, i55, og54, hL, h⟩ KL58 hKL58
    cases k57 with
    | zero => exact h.elim
    | succ k57 =>
    unfold law02_SplitOrder.l1 at h
    refine wp_seq_k fun K59 hK59 => ?_
    refine wp_seq_k fun K60 hK60 => ?_
    refine rg ?_
    refine st 28 (t_move (o_t 9 rfl) rfl rfl) rfl rfl hL fun a s e_ hL => ?_
    refine st 29 (t_move (o_t 0 rfl) rfl rfl) rfl rfl hL fun a s e_ hL => ?_
    refine st 30 (t_len (o_t 29 rfl) Try.underlying42 rfl rfl) rfl rfl hL fun a s e_ hL => ?_
    refine st 31 (t_lss (o_t 28 rfl) (o_t 30 rfl) rfl rfl) rfl rfl hL fun a s e_ hL => ?_
    refine en' ?_
    show K60 a s.w
    refine hK60 _ _ ?_
    refine cnd hL rfl (fun hb_ => ?_) (fun hb_ => ?_)
    · replace h := h.1 hb_
      refine wp_skip ?_
      show K59 a s.w
      refine hK59 _ _ ?_
      refine wp_seq_k fun K61 hK61 => ?_
      refine wp_block ?_
      refine wp_seq_k fun K62 hK62 => ?_
      obtain ⟨h63, h64, h65, e66, h67, h⟩ := h
      refine rg ?_
      refine st 34 (t_move (o_t 0 rfl) rfl rfl) rfl rfl hL fun a s e_ hL => ?_
      refine st 35 (t_move (o_t 9 rfl) rfl rfl) rfl rfl hL fun a s e_ hL => ?_
      refine st 36 (t_move (o_t 1 rfl) rfl rfl) rfl rfl hL fun a s e_ hL => ?_
      refine st 37 (t_up (o_t 36 rfl) (by decide) Try.underlying5 Try.underlying3 rfl rfl) rfl rfl hL fun a s e_ hL => ?_
      refine st 38 (t_add (o_t 35 rfl) (o_t 37 rfl) h63 rfl rfl) rfl rfl hL fun a s e_ hL => ?_
      refine st 39 (t_move (o_t 0 rfl) rfl rfl) rfl rfl hL fun a s e_ hL => ?_
      refine st 40 (t_len (o_t 39 rfl) Try.underlying42 rfl rfl) rfl rfl hL fun a s e_ hL => ?_
      refine st 41 (t_rem (o_t 38 rfl) (o_t 40 rfl) h65 h64 rfl rfl) rfl rfl hL fun a s e_ hL => ?_
      refine st 42 (t_idx (o_t 34 rfl) (o_t 41 rfl) h67 Try.underlying42 ty24 rfl rfl) rfl rfl hL fun a s e_ hL => ?_
      refine st 43 (t_load ty24 (o_t 42 rfl) rfl rfl) rfl rfl hL fun a s e_ hL => ?_
      have lt_d69 := hL.rlt 8 rfl
      refine st_alloc En.cls (z := (0#256)) 10 hL tyz24 rfl rfl rfl rfl fun a s g68 hg_ hL => ?_
      have d69 : Dis (some g68) og54 := Dis.newg hg_ lt_d69
      refine st_stb (L' := [(0, (Pd.rep (En.slice En.cls) list_)), (1, (Pd.rep (En.int .u8) turn_)), (2, (Pd.rep (En.int .u8) which_)), (7, (Pd.rep (En.slice En.cls) r12)), (8, (Pd.row En.cls s0.w.heap.size 24 og54 turned53)), (9, (Pd.rep (En.int .i64) i55))]) 10 hL rfl (o_t 43 rfl) ty24 rfl rfl rfl (.cons (t := 0) rfl (fun _ h_ => h_.elim) (.cons (t := 1) rfl (fun _ h_ => h_.elim) (.cons (t := 2) rfl (fun _ h_ => h_.elim) (.cons (t := 7) rfl (fun _ h_ => h_.elim) (.cons (t := 8) rfl (Dis.ow (Dis.symm d69)) (.cons (t := 9) rfl (fun _ h_ => h_.elim) .nil)))))) fun s hL => ?_
      refine en' ?_
      show K62 a s.w
      refine hK62 _ _ ?_
      refine wp_seq_k fun K70 hK70 => ?_
      refine wp_seq_k fun K71 hK71 => ?_
      obtain ⟨h72, h⟩ := h
      refine rg ?_
      refine st 44 (t_move (o_t 9 rfl) rfl rfl) rfl rfl hL fun a s e_ hL => ?_
      refine st 45 (t_rem (o_t 44 rfl) (o_i (by decide)) h72 (by decide) rfl rfl) rfl rfl hL fun a s e_ hL => ?_
      refine st 46 (t_eqi (o_t 45 rfl) (o_i (by decide)) rfl rfl) rfl rfl hL fun a s e_ hL => ?_
      refine en' ?_
      show K71 a s.w
      refine hK71 _ _ ?_
      have J74 : ∀ (a73 : Cl) (a : Act) (s : St), Has N0 87 s0 a s [(0, (Pd.rep (En.slice En.cls) list_)), (1, (Pd.rep (En.int .u8) turn_)), (2, (Pd.rep (En.int .u8) which_)), (7, (Pd.rep (En.slice En.cls) r12)), (8, (Pd.row En.cls s0.w.heap.size 24 og54 turned53)), (9, (Pd.rep (En.int .i64) i55)), (10, (Pd.box En.cls s0.w.heap.size g68 a73))] → Dis og54 (some g68) → ((law02_SplitOrder.j2 (law02_SplitOrder.l1 list_ turn_ (law02_SplitOrder.j1 list_ which_ r_ r12) k57) turned53 i55) a73) → K70 a s.w := by
        intro a73 a s hL d75 h
        unfold law02_SplitOrder.j2 at h
        show K70 a s.w
        refine hK70 _ _ ?_
        obtain ⟨h76, h⟩ := h
        refine rg ?_
        refine st 49 (t_move (o_t 8 rfl) rfl rfl) rfl rfl hL fun a s e_ hL => ?_
        refine st 50 (t_loadb ty24 (o_t 10 rfl) rfl rfl) rfl rfl hL fun a s e_ hL => ?_
        refine st 51 (t_lit (xs := [.tmp 50]) (.cons (o_t 50 rfl) .nil) Try.underlying42 ty24 rfl rfl (by decide) rfl rfl) rfl rfl hL fun a s e_ hL => ?_
        refine st_app (L' := [(0, (Pd.rep (En.slice En.cls) list_)), (1, (Pd.rep (En.int .u8) turn_)), (2, (Pd.rep (En.int .u8) which_)), (7, (Pd.rep (En.slice En.cls) r12)), (9, (Pd.rep (En.int .i64) i55))]) 52 hL (o_t 49 rfl) (o_t 51 rfl) Try.underlying42 ty24 h76 rfl rfl rfl rfl (.cons (t := 0) rfl (fun _ h_ => h_.elim) (.cons (t := 1) rfl (fun _ h_ => h_.elim) (.cons (t := 2) rfl (fun _ h_ => h_.elim) (.cons (t := 7) rfl (fun _ h_ => h_.elim) (.cons (t := 9) rfl (fun _ h_ => h_.elim) .nil))))) fun a s og77 hg_ hL => ?_
        refine st 8 (t_assign (o_t 52 rfl) rfl rfl) rfl rfl hL fun a s e_ hL => ?_
        refine en' ?_
        show K61 a s.w
        refine hK61 _ _ ?_
        obtain ⟨h78, h⟩ := h
        refine rg ?_
        refine st 32 (t_move (o_t 9 rfl) rfl rfl) rfl rfl hL fun a s e_ hL => ?_
        refine st 33 (t_add (o_t 32 rfl) (o_i (by decide)) h78 rfl rfl) rfl rfl hL fun a s e_ hL => ?_
        refine st 9 (t_assign (o_t 33 rfl) rfl rfl) rfl rfl hL fun a s e_ hL => ?_
        refine en' ?_
        exact hKL58 k57 a s (Nat.lt_succ_self _) ⟨(turned53 ++ [a73]), (i55 + 1), og77, hL.keep (.cons (t := 0) rfl (fun _ h_ => h_.elim) (.cons (t := 1) rfl (fun _ h_ => h_.elim) (.cons (t := 2) rfl (fun _ h_ => h_.elim) (.cons (t := 7) rfl (fun _ h_ => h_.elim) (.cons (t := 8) rfl (fun _ _ h_ => h_) (.cons (t := 9) rfl (fun _ h_ => h_.elim) .nil)))))), h⟩
      refine cnd hL rfl (fun hb_ => ?_) (fun hb_ => ?_)
      · replace h := h.1 hb_
        obtain ⟨r79, h80, h⟩ := h
        refine rg ?_
        refine st 47 (t_loadb ty24 (o_t 10 rfl) rfl rfl) rfl rfl hL fun a s e_ hL => ?_
        refine st 48 (t_call (ref01_Not_ok h80) (xs := [.tmp 47]) (.cons (o_t 47 rfl) .nil) rfl rfl) rfl rfl hL fun a s e_ hL => ?_
        refine st_stb (L' := [(0, (Pd.rep (En.slice En.cls) list_)), (1, (Pd.rep (En.int .u8) turn_)), (2, (Pd.rep (En.int .u8) which_)), (7, (Pd.rep (En.slice En.cls) r12)), (8, (Pd.row En.cls s0.w.heap.size 24 og54 turned53)), (9, (Pd.rep (En.int .i64) i55))]) 10 hL rfl (o_t 48 rfl) ty24 rfl rfl rfl (.cons (t := 0) rfl (fun _ h_ => h_.elim) (.cons (t := 1) rfl (fun _ h_ => h_.elim) (.cons (t := 2) rfl (fun _ h_ => h_.elim) (.cons (t := 7) rfl (fun _ h_ => h_.elim) (.cons (t := 8) rfl (Dis.ow (Dis.symm d69)) (.cons (t := 9) rfl (fun _ h_ => h_.elim) .nil)))))) fun s hL => ?_
        refine en' ?_
        exact J74 r79 a s (hL.keep (.cons (t := 0) rfl (fun _ h_ => h_.elim) (.cons (t := 1) rfl (fun _ h_ => h_.elim) (.cons (t := 2) rfl (fun _ h_ => h_.elim) (.cons (t := 7) rfl (fun _ h_ => h_.elim) (.cons (t := 8) rfl (fun _ _ h_ => h_) (.cons (t := 9) rfl (fun _ h_ => h_.elim) (.cons (t := 10) rfl (fun _ _ h_ => h_) .nil)))))))) (Dis.symm d69) h
      · replace h := h.2 hb_
        refine wp_skip ?_
        exact J74 e66 a s (hL.keep (.cons (t := 0) rfl (fun _ h_ => h_.elim) (.cons (t := 1) rfl (fun _ h_ => h_.elim) (.cons (t := 2) rfl (fun _ h_ => h_.elim) (.cons (t := 7) rfl (fun _ h_ => h_.elim) (.cons (t := 8) rfl (fun _ _ h_ => h_) (.cons (t := 9) rfl (fun _ h_ => h_.elim) (.cons (t := 10) rfl (fun _ _ h_ => h_) .nil)))))))) (Dis.symm d69) h
    · replace h := h.2 hb_
      refine wp_exit ?_
      exact J19 turned53 og54 a s (hL.keep (.cons (t := 0) rfl (fun _ h_ => h_.elim) (.cons (t := 2) rfl (fun _ h_ => h_.elim) (.cons (t := 7) rfl (fun _ h_ => h_.elim) (.cons (t := 8) rfl (fun _ _ h_ => h_) .nil))))) h

theorem law02_SplitMore_ok {list_ : (List Cl)} {a_ : Cl} {r_ : Bool} (h : law02_SplitMore list_ a_ r_) : Fn Try.prog 11 [(Pd.rep (En.slice En.cls) list_), (Pd.rep En.cls a_)] (Rq (Pd.rep En.bool r_)) := by
  unfold law02_SplitMore at h
  refine fn_of Try.func11 rfl Try.ntmps11 (by rfl) (by simp) fun s0 a hL => ?_
  refine wp_seq_k fun K1 hK1 => ?_
  refine rg ?_
  refine st 3 (t_box (o_t 1 rfl) rfl rfl) rfl rfl hL fun a s e_ hL => ?_
  refine st 4 (t_assign o_b rfl rfl) rfl rfl hL fun a s e_ hL => ?_
  refine en' ?_
  show K1 a s.w
  refine hK1 _ _ ?_
  refine wp_seq_k fun K2 hK2 => ?_
  refine wp_seq_k fun K3 hK3 => ?_
  obtain ⟨r4, h5, h⟩ := h
  refine rg ?_
  refine st 10 (t_call (law02_awake_ok h5) (xs := []) .nil rfl rfl) rfl rfl hL fun a s e_ hL => ?_
  refine st 11 (t_not (o_t 10 rfl) rfl rfl) rfl rfl hL fun a s e_ hL => ?_
  refine st 12 (t_move (o_t 11 rfl) rfl rfl) rfl rfl hL fun a s e_ hL => ?_
  refine st 13 (t_g1 rfl rfl rfl (fun hc_ => t_move (o_t 0 rfl) rfl rfl)) rfl rfl hL fun a s e_ hL => ?_
  refine st 14 (t_g1 rfl rfl rfl (fun hc_ => t_len (o_w hc_ 13 rfl) Try.underlying42 rfl rfl)) rfl rfl hL fun a s e_ hL => ?_
  refine st 15 (t_g1 rfl rfl rfl (fun hc_ => t_gtr (o_w hc_ 14 rfl) (o_i (by decide)) rfl rfl)) rfl rfl hL fun a s e_ hL => ?_
  refine st 16 (t_or (o_t 12 rfl) (fun hc2_ => (o_w hc2_ 15 rfl)) rfl rfl) rfl rfl hL fun a s e_ hL => ?_
  refine en' ?_
  show K3 a s.w
  refine hK3 _ _ ?_
  refine cnd hL rfl (fun hb_ => ?_) (fun hb_ => ?_)
  · replace h := h.1 hb_
    refine wp_seq_k fun K6 hK6 => ?_
    obtain ⟨r7, h8, h⟩ := h
    refine rg ?_
    refine st 17 (t_call (law02_awake_ok h8) (xs := []) .nil rfl rfl) rfl rfl hL fun a s e_ hL => ?_
    refine st 4 (t_assign (o_t 17 rfl) rfl rfl) rfl rfl hL fun a s e_ hL => ?_
    refine en' ?_
    show K6 a s.w
    refine hK6 _ _ ?_
    subst h
    exact wp_ret (retq rfl hL rfl)
  · replace h := h.2 hb_
    refine wp_skip ?_
    show K2 a s.w
    refine hK2 _ _ ?_
    refine wp_seq_k fun K9 hK9 => ?_
    obtain ⟨r10, h11, h⟩ := h
    refine rg ?_
    refine st 18 (t_move (o_t 0 rfl) rfl rfl) rfl rfl hL fun a s e_ hL => ?_
    refine st 19 (t_call ((split_Parts_ok h11).frz) (xs := [.tmp 18]) (.cons (o_t 18 rfl) .nil) rfl rfl) rfl rfl hL fun a s e_ hL => ?_
    refine st 5 (t_assign (o_t 19 rfl) rfl rfl) rfl rfl hL fun a s e_ hL => ?_
    refine en' ?_
    show K9 a s.w
    refine hK9 _ _ ?_
    refine wp_seq_k fun K12 hK12 => ?_
    obtain ⟨h14, h16, r20, h21, h⟩ := h
    obtain ⟨K13, hK13, nK13, hL⟩ := hL.mark 999983
    refine rda follows 5 [(Pd.erow0 s0.w.heap.size K13 24), (Pd.rep (En.slice En.cls) list_), (Pd.erow En.cls s0.w.heap.size K13 24 list_), (Pd.rep En.cls a_), (Pd.rep (En.slice En.cls) [a_])] hL (by kernel_rfl) rfl rfl ?_ ?_
    · refine AllT.cons (t_newx En.cls (K := K13) (m := 999983) rfl nK13 Try.underlying42 ty24 rfl rfl) ?_
      refine AllT.cons (t_move (o_t 0 rfl) rfl rfl) ?_
      refine AllT.cons (t_app0 (o_t 20 rfl) (o_t 21 rfl) Try.underlying42 ty24 h14 (m := 999983) rfl rfl rfl) ?_
      refine AllT.cons (t_load ty24 (o_t 3 rfl) rfl rfl) ?_
      refine AllT.cons (t_lit (xs := [.tmp 23]) (.cons (o_t 23 rfl) .nil) Try.underlying42 ty24 rfl rfl (by decide) rfl rfl) ?_
      exact AllT.nil
    intro a s e_ hL
    obtain ⟨og15, hg_, hL⟩ := hL.openr 22 rfl
    refine st_app (L' := [(3, (Pd.ptr En.cls a_)), (5, (Pd.rep (En.slice En.cls) r10))]) 25 hL (o_t 22 rfl) (o_t 24 rfl) Try.underlying42 ty24 h16 rfl rfl rfl rfl (.cons (t := 3) rfl (fun _ h_ => h_.elim) (.cons (t := 5) rfl (fun _ h_ => h_.elim) .nil)) fun a s og17 hg_ hL => ?_
    obtain ⟨s19, h18, hL⟩ := hL.freeze (L' := [(3, (Pd.ptr En.cls a_)), (5, (Pd.rep (En.slice En.cls) r10))]) 25 rfl (.cons (t := 3) rfl (fun _ h_ => h_.elim) (.cons (t := 5) rfl (fun _ h_ => h_.elim) .nil))
    rw [← h18]
    clear h18
    generalize s19 = s at *
    refine st 26 (t_call ((split_Parts_ok h21).frz) (xs := [.tmp 25]) (.cons (o_t 25 rfl) .nil) rfl rfl) rfl rfl hL fun a s e_ hL => ?_
    refine st 6 (t_assign (o_t 26 rfl) rfl rfl) rfl rfl hL fun a s e_ hL => ?_
    refine en' ?_
    show K12 a s.w
    refine hK12 _ _ ?_
    refine wp_seq_k fun K22 hK22 => ?_
    refine wp_seq_k fun K23 hK23 => ?_
    obtain ⟨h24, b25, h26, b27, h28, r29, h30, r31, h32, h⟩ := h
    refine rg ?_
    refine st 27 (t_move (o_t 6 rfl) rfl rfl) rfl rfl hL fun a s e_ hL => ?_
    refine st 28 (t_len (o_t 27 rfl) Try.underlying42 rfl rfl) rfl rfl hL fun a s e_ hL => ?_
    refine st 29 (t_move (o_t 5 rfl) rfl rfl) rfl rfl hL fun a s e_ hL => ?_
    refine st 30 (t_len (o_t 29 rfl) Try.underlying42 rfl rfl) rfl rfl hL fun a s e_ hL => ?_
    refine st 31 (t_lss (o_t 28 rfl) (o_t 30 rfl) rfl rfl) rfl rfl hL fun a s e_ hL => ?_
    refine st 32 (t_move (o_t 31 rfl) rfl rfl) rfl rfl hL fun a s e_ hL => ?_
    refine st 33 (t_g1 rfl rfl rfl (fun hc_ => t_move (o_t 6 rfl) rfl rfl)) rfl rfl hL fun a s e_ hL => ?_
    refine st 34 (t_g1 rfl rfl rfl (fun hc_ => t_len (o_w hc_ 33 rfl) Try.underlying42 rfl rfl)) rfl rfl hL fun a s e_ hL => ?_
    refine st 35 (t_g1 rfl rfl rfl (fun hc_ => t_move (o_t 5 rfl) rfl rfl)) rfl rfl hL fun a s e_ hL => ?_
    refine st 36 (t_g1 rfl rfl rfl (fun hc_ => t_len (o_w hc_ 35 rfl) Try.underlying42 rfl rfl)) rfl rfl hL fun a s e_ hL => ?_
    refine st 37 (t_g1 rfl rfl rfl (fun hc_ => t_mul (o_i (by decide)) (o_w hc_ 36 rfl) (h24 hc_) rfl rfl)) rfl rfl hL fun a s e_ hL => ?_
    refine st 38 (h26 ▸ (t_g1 rfl rfl rfl (fun hc_ => t_gtr (o_w hc_ 34 rfl) (o_w hc_ 37 rfl) rfl rfl))) rfl rfl hL fun a s e_ hL => ?_
    refine st 39 (h28 ▸ (t_or (o_t 32 rfl) (fun hc2_ => (o_w hc2_ 38 rfl)) rfl rfl)) rfl rfl hL fun a s e_ hL => ?_
    refine st 40 (t_move (o_t 39 rfl) rfl rfl) rfl rfl hL fun a s e_ hL => ?_
    refine st 41 (t_g1 rfl rfl rfl (fun hc_ => t_move (o_t 6 rfl) rfl rfl)) rfl rfl hL fun a s e_ hL => ?_
    refine st 42 (t_g1 rfl rfl rfl (fun hc_ => t_move (o_t 5 rfl) rfl rfl)) rfl rfl hL fun a s e_ hL => ?_
    refine st 43 (t_g1 rfl rfl rfl (fun hc_ => t_load ty24 (o_t 3 rfl) rfl rfl)) rfl rfl hL fun a s e_ hL => ?_
    refine st 44 (t_g1 rfl rfl rfl (fun hc_ => t_call ((split_Refine_ok (h30 hc_)).frz) (xs := [.tmp 42, .tmp 43]) (.cons (o_w hc_ 42 rfl) (.cons (o_w hc_ 43 rfl) .nil)) rfl rfl)) rfl rfl hL fun a s e_ hL => ?_
    refine st 45 (t_g1 rfl rfl rfl (fun hc_ => t_call (ref02_Same_ok (h32 hc_)) (xs := [.tmp 41, .tmp 44]) (.cons (o_w hc_ 41 rfl) (.cons (o_w hc_ 44 rfl) .nil)) rfl rfl)) rfl rfl hL fun a s e_ hL => ?_
    refine st 46 (t_g1 rfl rfl rfl (fun hc_ => t_not (o_w hc_ 45 rfl) rfl rfl)) rfl rfl hL fun a s e_ hL => ?_
    refine st 47 (t_or (o_t 40 rfl) (fun hc2_ => (o_w hc2_ 46 rfl)) rfl rfl) rfl rfl hL fun a s e_ hL => ?_
    refine en' ?_
    show K23 a s.w
    refine hK23 _ _ ?_
    refine cnd hL rfl (fun hb_ => ?_) (fun hb_ => ?_)
    · replace h := h.1 hb_
      refine wp_seq_k fun K33 hK33 => ?_
      refine rg ?_
      refine st 4 (t_assign o_b rfl rfl) rfl rfl hL fun a s e_ hL => ?_
      refine en' ?_
      show K33 a s.w
      refine hK33 _ _ ?_
      subst h
      exact wp_ret (retq rfl hL rfl)
    · replace h := h.2 hb_
      refine wp_skip ?_
      show K22 a s.w
      refine hK22 _ _ ?_
      refine wp_seq_k fun K34 hK34 => ?_
      refine wp_seq_k fun K35 hK35 => ?_
      refine rg ?_
      refine st 7 (t_assign (o_i (by decide)) rfl rfl) rfl rfl hL fun a s e_ hL => ?_
      refine en' ?_
      show K35 a s.w
      refine hK35 _ _ ?_
      refine wp_block ?_
      have J36 : ∀ (a : Act) (s : St), Has N0 79 s0 a s [] → ((law02_SplitMore.j1 r_)) → K34 a s.w := by
        intro a s hL h
        unfold law02_SplitMore.j1 at h
        show K34 a s.w
        refine hK34 _ _ ?_
        refine wp_seq_k fun K37 hK37 => ?_
        refine rg ?_
        refine st 4 (t_assign o_b rfl rfl) rfl rfl hL fun a s e_ hL => ?_
        refine en' ?_
        show K37 a s.w
        refine hK37 _ _ ?_
        subst h
        exact wp_ret (retq rfl hL rfl)
      obtain ⟨k39, h⟩ := h
      refine lpg (fun k40 a s => ∃ (i38 : Int), Has N0 79 s0 a s [(5, (Pd.rep (En.slice En.cls) r10)), (6, (Pd.rep (En.slice En.cls) r20)), (7, (Pd.rep (En.int .i64) i38))] ∧ law02_SplitMore.l1 r10 r20 r_ (law02_SplitMore.j1 r_) k40 i38) k39 ⟨0, hL.keep (.cons (t := 5) rfl (fun _ h_ => h_.elim) (.cons (t := 6) rfl (fun _ h_ => h_.elim) (.cons (t := 7) rfl (fun _ h_ => h_.elim) .nil))), h⟩ ?_
      rintro k40 a s ⟨i38, hL, h⟩ KL41 hKL41
      cases k40 with
      | zero => exact h.elim
      | succ k40 =>
      unfold law02_SplitMore.l1 at h
      refine wp_seq_k fun K42 hK42 => ?_
      refine wp_seq_k fun K43 hK43 => ?_
      refine rg ?_
      refine st 48 (t_move (o_t 7 rfl) rfl rfl) rfl rfl hL fun a s e_ hL => ?_
      refine st 49 (t_move (o_t 6 rfl) rfl rfl) rfl rfl hL fun a s e_ hL => ?_
      refine st 50 (t_len (o_t 49 rfl) Try.underlying42 rfl rfl) rfl rfl hL fun a s e_ hL => ?_
      refine st 51 (t_lss (o_t 48 rfl) (o_t 50 rfl) rfl rfl) rfl rfl hL fun a s e_ hL => ?_
      refine en' ?_
      show K43 a s.w
      refine hK43 _ _ ?_
      refine cnd hL rfl (fun hb_ => ?_) (fun hb_ => ?_)
      · replace h := h.1 hb_
        refine wp_skip ?_
        show K42 a s.w
        refine hK42 _ _ ?_
        refine wp_seq_k fun K44 hK44 => ?_
        refine wp_block ?_
        refine wp_seq_k fun K45 hK45 => ?_
        refine rg ?_
        refine st 8 (t_assign o_b rfl rfl) rfl rfl hL fun a s e_ hL => ?_
        refine en' ?_
        show K45 a s.w
        refine hK45 _ _ ?_
        refine wp_seq_k fun K46 hK46 => ?_
        refine wp_seq_k fun K47 hK47 => ?_
        refine rg ?_
        refine st 9 (t_assign (o_i (by decide)) rfl rfl) rfl rfl hL fun a s e_ hL => ?_
        refine en' ?_
        show K47 a s.w
        refine hK47 _ _ ?_
        refine wp_block ?_
        have J49 : ∀ (found48 : Bool) (a : Act) (s : St), Has N0 79 s0 a s [(5, (Pd.rep (En.slice En.cls) r10)), (6, (Pd.rep (En.slice En.cls) r20)), (7, (Pd.rep (En.int .i64) i38)), (8, (Pd.rep En.bool found48))] → ((law02_SplitMore.j2 (law02_SplitMore.l1 r10 r20 r_ (law02_SplitMore.j1 r_) k40) r_ i38) found48) → K46 a s.w := by
          intro found48 a s hL h
          unfold law02_SplitMore.j2 at h
          show K46 a s.w
          refine hK46 _ _ ?_
          refine wp_seq_k fun K50 hK50 => ?_
          refine rg ?_
          refine st 77 (t_move (o_t 8 rfl) rfl rfl) rfl rfl hL fun a s e_ hL => ?_
          refine st 78 (t_not (o_t 77 rfl) rfl rfl) rfl rfl hL fun a s e_ hL => ?_
          refine en' ?_
          show K50 a s.w
          refine hK50 _ _ ?_
          refine cnd hL rfl (fun hb_ => ?_) (fun hb_ => ?_)
          · replace h := h.1 hb_
            refine wp_seq_k fun K51 hK51 => ?_
            refine rg ?_
            refine st 4 (t_assign o_b rfl rfl) rfl rfl hL fun a s e_ hL => ?_
            refine en' ?_
            show K51 a s.w
            refine hK51 _ _ ?_
            subst h
            exact wp_ret (retq rfl hL rfl)
          · replace h := h.2 hb_
            refine wp_skip ?_
            show K44 a s.w
            refine hK44 _ _ ?_
            obtain ⟨h52, h⟩ := h
            refine rg ?_
            refine st 52 (t_move (o_t 7 rfl) rfl rfl) rfl rfl hL fun a s e_ hL => ?_
            refine st 53 (t_add (o_t 52 rfl) (o_i (by decide)) h52 rfl rfl) rfl rfl hL fun a s e_ hL => ?_
            refine st 7 (t_assign (o_t 53 rfl) rfl rfl) rfl rfl hL fun a s e_ hL => ?_
            refine en' ?_
            exact hKL41 k40 a s (Nat.lt_succ_self _) ⟨(i38 + 1), hL.keep (.cons (t := 5) rfl (fun _ h_ => h_.elim) (.cons (t := 6) rfl (fun _ h_ => h_.elim) (.cons (t := 7) rfl (fun _ h_ => h_.elim) .nil))), h⟩
        obtain ⟨k55, h⟩ := h
        refine lpg (fun k56 a s => ∃ (found53 : Bool) (k54 : Int), Has N0 79 s0 a s [(5, (Pd.rep (En.slice En.cls) r10)), (6, (Pd.rep (En.slice En.cls) r20)), (7, (Pd.rep (En.int .i64) i38)), (8, (Pd.rep En.bool found53)), (9, (Pd.rep (En.int .i64) k54))] ∧ law02_SplitMore.l2 r10 r20 i38 (law02_SplitMore.j2 (law02_SplitMore.l1 r10 r20 r_ (law02_SplitMore.j1 r_) k40) r_ i38) k56 found53 k54) k55 ⟨false, 0, hL.keep (.cons (t := 5) rfl (fun _ h_ => h_.elim) (.cons (t := 6) rfl (fun _ h_ => h_.elim) (.cons (t := 7) rfl (fun _ h_ => h_.elim) (.cons (t := 8) rfl (fun _ h_ => h_.elim) (.cons (t := 9) rfl (fun _ h_ => h_.elim) .nil))))), h⟩ ?_
        rintro k56 a s ⟨found53, k54, hL, h⟩ KL57 hKL57
        cases k56 with
        | zero => exact h.elim
        | succ k56 =>
        unfold law02_SplitMore.l2 at h
        refine wp_seq_k fun K58 hK58 => ?_
        refine wp_seq_k fun K59 hK59 => ?_
        refine rg ?_
        refine st 54 (t_move (o_t 9 rfl) rfl rfl) rfl rfl hL fun a s e_ hL => ?_
        refine st 55 (t_move (o_t 5 rfl) rfl rfl) rfl rfl hL fun a s e_ hL => ?_
        refine st 56 (t_len (o_t 55 rfl) Try.underlying42 rfl rfl) rfl rfl hL fun a s e_ hL => ?_
        refine st 57 (t_lss (o_t 54 rfl) (o_t 56 rfl) rfl rfl) rfl rfl hL fun a s e_ hL => ?_
        refine en' ?_
        show K59 a s.w
        refine hK59 _ _ ?_
        refine cnd hL rfl (fun hb_ => ?_) (fun hb_ => ?_)
        · replace h := h.1 hb_
          refine wp_skip ?_
          show K58 a s.w
          refine hK58 _ _ ?_
          refine wp_seq_k fun K60 hK60 => ?_
          refine wp_block ?_
          obtain ⟨e61, h62, e63, h64, r65, h66, e67, h68, h⟩ := h
          refine rda follows 17 [(Pd.rep En.bool found53), (Pd.rep En.bool found53), (Pd.when ((found53) = false) (Pd.rep (En.slice En.cls) r20)), (Pd.when ((found53) = false) (Pd.rep (En.int .i64) i38)), (Pd.when ((found53) = false) (Pd.ptr En.cls e61)), (Pd.when ((found53) = false) (Pd.rep En.cls e61)), (Pd.when ((found53) = false) (Pd.rep (En.slice En.cls) r10)), (Pd.when ((found53) = false) (Pd.rep (En.int .i64) k54)), (Pd.when ((found53) = false) (Pd.ptr En.cls e63)), (Pd.when ((found53) = false) (Pd.rep En.cls e63)), (Pd.when ((found53) = false) (Pd.rep En.cls r65)), (Pd.when ((found53) = false) (Pd.rep (En.slice En.cls) r20)), (Pd.when ((found53) = false) (Pd.rep (En.int .i64) i38)), (Pd.when ((found53) = false) (Pd.ptr En.cls e67)), (Pd.when ((found53) = false) (Pd.rep En.cls e67)), (Pd.when ((found53) = false) (Pd.rep En.bool (r65 == e67))), (Pd.rep En.bool (found53 || (r65 == e67)))] hL (by kernel_rfl) rfl rfl ?_ ?_
          · refine AllT.cons (t_move (o_t 8 rfl) rfl rfl) ?_
            refine AllT.cons (t_move (o_t 60 rfl) rfl rfl) ?_
            refine AllT.cons (t_g1 rfl rfl rfl (fun hc_ => t_move (o_t 6 rfl) rfl rfl)) ?_
            refine AllT.cons (t_g1 rfl rfl rfl (fun hc_ => t_move (o_t 7 rfl) rfl rfl)) ?_
            refine AllT.cons (t_g1 rfl rfl rfl (fun hc_ => t_idx (o_w hc_ 62 rfl) (o_w hc_ 63 rfl) (h62 hc_) Try.underlying42 ty24 rfl rfl)) ?_
            refine AllT.cons (t_g1 rfl rfl rfl (fun hc_ => t_load ty24 (o_w hc_ 64 rfl) rfl rfl)) ?_
            refine AllT.cons (t_g1 rfl rfl rfl (fun hc_ => t_move (o_t 5 rfl) rfl rfl)) ?_
            refine AllT.cons (t_g1 rfl rfl rfl (fun hc_ => t_move (o_t 9 rfl) rfl rfl)) ?_
            refine AllT.cons (t_g1 rfl rfl rfl (fun hc_ => t_idx (o_w hc_ 66 rfl) (o_w hc_ 67 rfl) (h64 hc_) Try.underlying42 ty24 rfl rfl)) ?_
            refine AllT.cons (t_g1 rfl rfl rfl (fun hc_ => t_load ty24 (o_w hc_ 68 rfl) rfl rfl)) ?_
            refine AllT.cons (t_g1 rfl rfl rfl (fun hc_ => t_call (ref01_Both_ok (h66 hc_)) (xs := [.tmp 65, .tmp 69]) (.cons (o_w hc_ 65 rfl) (.cons (o_w hc_ 69 rfl) .nil)) rfl rfl)) ?_
            refine AllT.cons (t_g1 rfl rfl rfl (fun hc_ => t_move (o_t 6 rfl) rfl rfl)) ?_
            refine AllT.cons (t_g1 rfl rfl rfl (fun hc_ => t_move (o_t 7 rfl) rfl rfl)) ?_
            refine AllT.cons (t_g1 rfl rfl rfl (fun hc_ => t_idx (o_w hc_ 71 rfl) (o_w hc_ 72 rfl) (h68 hc_) Try.underlying42 ty24 rfl rfl)) ?_
            refine AllT.cons (t_g1 rfl rfl rfl (fun hc_ => t_load ty24 (o_w hc_ 73 rfl) rfl rfl)) ?_
            refine AllT.cons (t_g1 rfl rfl rfl (fun hc_ => t_eqv eq24 (o_w hc_ 70 rfl) (o_w hc_ 74 rfl) rfl rfl)) ?_
            refine AllT.cons (t_or (o_t 61 rfl) (fun hc2_ => (o_w hc2_ 75 rfl)) rfl rfl) ?_
            exact AllT.nil
          intro a s e_ hL
          refine st 8 (t_assign (o_t 76 rfl) rfl rfl) rfl rfl hL fun a s e_ hL => ?_
          refine en' ?_
          show K60 a s.w
          refine hK60 _ _ ?_
          obtain ⟨h69, h⟩ := h
          refine rg ?_
          refine st 58 (t_move (o_t 9 rfl) rfl rfl) rfl rfl hL fun a s e_ hL => ?_
          refine st 59 (t_add (o_t 58 rfl) (o_i (by decide)) h69 rfl rfl) rfl rfl hL fun a s e_ hL => ?_
          refine st 9 (t_assign (o_t 59 rfl) rfl rfl) rfl rfl hL fun a s e_ hL => ?_
          refine en' ?_
          exact hKL57 k56 a s (Nat.lt_succ_self _) ⟨(found53 || (r65 == e67)), (k54 + 1), hL.keep (.cons (t := 5) rfl (fun _ h_ => h_.elim) (.cons (t := 6) rfl (fun _ h_ => h_.elim) (.cons (t := 7) rfl (fun _ h_ => h_.elim) (.cons (t := 8) rfl (fun _ h_ => h_.elim) (.cons (t := 9) rfl (fun _ h_ => h_.elim) .nil))))), h⟩
        · replace h := h.2 hb_
          refine wp_exit ?_
          exact J49 found53 a s (hL.keep (.cons (t := 5) rfl (fun _ h_ => h_.elim) (.cons (t := 6) rfl (fun _ h_ => h_.elim) (.cons (t := 7) rfl (fun _ h_ => h_.elim) (.cons (t := 8) rfl (fun _ h_ => h_.elim) .nil))))) h
      · replace h := h.2 hb_
        refine wp_exit ?_
        exact J36 a s (hL.keep .nil) h

theorem law02_SplitHeads_ok {from_ : (List Int)} {long_ : (List Int)} {r_ : Bool} (h : law02_SplitHeads from_ long_ r_) : Fn Try.prog 12 [(Pd.rep (En.slice (En.int .u8)) from_), (Pd.rep (En.slice (En.int .u8)) long_)] (Rq (Pd.rep En.bool r_)) := by
  unfold law02_SplitHeads at h
  refine fn_of Try.func12 rfl Try.ntmps12 (by rfl) (by simp) fun s0 a hL => ?_
  refine wp_seq_k fun K1 hK1 => ?_
  refine rg ?_
  refine st 4 (t_assign o_b rfl rfl) rfl rfl hL fun a s e_ hL => ?_
  refine en' ?_
  show K1 a s.w
  refine hK1 _ _ ?_
  refine wp_seq_k fun K2 hK2 => ?_
  refine wp_seq_k fun K3 hK3 => ?_
  obtain ⟨r4, h5, b6, h7, b8, h9, h⟩ := h
  refine rg ?_
  refine st 13 (t_call (law02_awake_ok h5) (xs := []) .nil rfl rfl) rfl rfl hL fun a s e_ hL => ?_
  refine st 14 (t_not (o_t 13 rfl) rfl rfl) rfl rfl hL fun a s e_ hL => ?_
  refine st 15 (t_move (o_t 14 rfl) rfl rfl) rfl rfl hL fun a s e_ hL => ?_
  refine st 16 (t_g1 rfl rfl rfl (fun hc_ => t_move (o_t 0 rfl) rfl rfl)) rfl rfl hL fun a s e_ hL => ?_
  refine st 17 (t_g1 rfl rfl rfl (fun hc_ => t_len (o_w hc_ 16 rfl) Try.underlying40 rfl rfl)) rfl rfl hL fun a s e_ hL => ?_
  refine st 18 (t_g1 rfl rfl rfl (fun hc_ => t_gtr (o_w hc_ 17 rfl) (o_i (by decide)) rfl rfl)) rfl rfl hL fun a s e_ hL => ?_
  refine st 19 (t_or (o_t 15 rfl) (fun hc2_ => (o_w hc2_ 18 rfl)) rfl rfl) rfl rfl hL fun a s e_ hL => ?_
  refine st 20 (t_move (o_t 19 rfl) rfl rfl) rfl rfl hL fun a s e_ hL => ?_
  refine st 21 (t_g1 rfl rfl rfl (fun hc_ => t_move (o_t 1 rfl) rfl rfl)) rfl rfl hL fun a s e_ hL => ?_
  refine st 22 (t_g1 rfl rfl rfl (fun hc_ => t_len (o_w hc_ 21 rfl) Try.underlying40 rfl rfl)) rfl rfl hL fun a s e_ hL => ?_
  refine st 23 (t_g1 rfl rfl rfl (fun hc_ => t_move (o_t 0 rfl) rfl rfl)) rfl rfl hL fun a s e_ hL => ?_
  refine st 24 (t_g1 rfl rfl rfl (fun hc_ => t_len (o_w hc_ 23 rfl) Try.underlying40 rfl rfl)) rfl rfl hL fun a s e_ hL => ?_
  refine st 25 (h7 ▸ (t_g1 rfl rfl rfl (fun hc_ => t_lss (o_w hc_ 22 rfl) (o_w hc_ 24 rfl) rfl rfl))) rfl rfl hL fun a s e_ hL => ?_
  refine st 26 (h9 ▸ (t_or (o_t 20 rfl) (fun hc2_ => (o_w hc2_ 25 rfl)) rfl rfl)) rfl rfl hL fun a s e_ hL => ?_
  refine en' ?_
  show K3 a s.w
  refine hK3 _ _ ?_
  refine cnd hL rfl (fun hb_ => ?_) (fun hb_ => ?_)
  · replace h := h.1 hb_
    refine wp_seq_k fun K10 hK10 => ?_
    obtain ⟨r11, h12, h⟩ := h
    refine rg ?_
    refine st 27 (t_call (law02_awake_ok h12) (xs := []) .nil rfl rfl) rfl rfl hL fun a s e_ hL => ?_
    refine st 4 (t_assign (o_t 27 rfl) rfl rfl) rfl rfl hL fun a s e_ hL => ?_
    refine en' ?_
    show K10 a s.w
    refine hK10 _ _ ?_
    subst h
    exact wp_ret (retq rfl hL rfl)
  · replace h := h.2 hb_
    refine wp_skip ?_
    show K2 a s.w
    refine hK2 _ _ ?_
    refine wp_seq_k fun K13 hK13 => ?_
    refine rg ?_
    refine st 5 (t_assign (o_nil (E := En.cls) (N := s0.w.heap.size) (te := 24)) rfl rfl) rfl rfl hL fun a s e_ hL => ?_
    refine en' ?_
    show K13 a s.w
    refine hK13 _ _ ?_
    refine wp_seq_k fun K14 hK14 => ?_
    refine rg ?_
    refine st_make En.bool (z := false) (m := 257) 28 hL (o_i (by decide)) (o_i (by decide)) (by decide) Try.underlying28 ty4 tyz4 rfl rfl rfl rfl fun a s g15 hg_ hL => ?_
    refine st 6 (t_assign (o_t 28 rfl) rfl rfl) rfl rfl hL fun a s e_ hL => ?_
    refine en' ?_
    show K14 a s.w
    refine hK14 _ _ ?_
    refine wp_seq_k fun K16 hK16 => ?_
    obtain ⟨e17, h18, h⟩ := h
    refine rg ?_
    refine st 29 (t_move (o_t 6 rfl) rfl rfl) rfl rfl hL fun a s e_ hL => ?_
    refine st 30 (t_idxo (o_t 29 rfl) (o_i (by decide)) h18 Try.underlying28 ty4 rfl rfl) rfl rfl hL fun a s e_ hL => ?_
    refine st_stor (L' := [(0, (Pd.rep (En.slice (En.int .u8)) from_)), (1, (Pd.rep (En.slice (En.int .u8)) long_)), (5, (Pd.row En.cls s0.w.heap.size 24 none [])), (6, (Pd.row En.bool s0.w.heap.size 4 (some g15) ((List.replicate 257 false).set (0 : Int).toNat true)))]) (off := 0) 6 hL rfl h18 (o_t 30 rfl) o_b (sub_all _ _ _) ty4 rfl rfl rfl (.cons (t := 0) rfl (fun _ h_ => h_.elim) (.cons (t := 1) rfl (fun _ h_ => h_.elim) (.cons (t := 5) rfl no_own (.turn (t := 6) rfl .nil)))) fun s hL => ?_
    refine en' ?_
    show K16 a s.w
    refine hK16 _ _ ?_
    refine wp_seq_k fun K19 hK19 => ?_
    refine wp_seq_k fun K20 hK20 => ?_
    refine rg ?_
    refine st 7 (t_assign (o_i (by decide)) rfl rfl) rfl rfl hL fun a s e_ hL => ?_
    refine en' ?_
    show K20 a s.w
    refine hK20 _ _ ?_
    refine wp_block ?_
    have J25 : ∀ (list21 : (List Cl)) (cut23 : (List Bool)) (og22 : Option Nat) (og24 : Option Nat) (a : Act) (s : St), Has N0 112 s0 a s [(5, (Pd.row En.cls s0.w.heap.size 24 og22 list21)), (6, (Pd.row En.bool s0.w.heap.size 4 og24 cut23))] → Dis og22 og24 → ((law02_SplitHeads.j2 r_) list21 cut23) → K19 a s.w := by
      intro list21 cut23 og22 og24 a s hL d26 h
      unfold law02_SplitHeads.j2 at h
      show K19 a s.w
      refine hK19 _ _ ?_
      refine wp_seq_k fun K27 hK27 => ?_
      obtain ⟨s29, h28, hL⟩ := hL.freeze (L' := [(6, (Pd.row En.bool s0.w.heap.size 4 og24 cut23))]) 5 rfl (.cons (t := 6) rfl (Dis.ow (Dis.symm d26)) .nil)
      rw [← h28]
      clear h28
      generalize s29 = s at *
      obtain ⟨r30, h31, h⟩ := h
      refine rg ?_
      refine st 70 (t_move (o_t 5 rfl) rfl rfl) rfl rfl hL fun a s e_ hL => ?_
      refine st 71 (t_call ((split_Heads_ok h31).frz) (xs := [.tmp 70]) (.cons (o_t 70 rfl) .nil) rfl rfl) rfl rfl hL fun a s e_ hL => ?_
      refine st 9 (t_assign (o_t 71 rfl) rfl rfl) rfl rfl hL fun a s e_ hL => ?_
      refine en' ?_
      show K27 a s.w
      refine hK27 _ _ ?_
      refine wp_seq_k fun K32 hK32 => ?_
      refine rg ?_
      refine st 10 (t_assign (o_i (by decide)) rfl rfl) rfl rfl hL fun a s e_ hL => ?_
      refine en' ?_
      show K32 a s.w
      refine hK32 _ _ ?_
      refine wp_seq_k fun K33 hK33 => ?_
      refine wp_seq_k fun K34 hK34 => ?_
      refine rg ?_
      refine st 11 (t_assign (o_i (by decide)) rfl rfl) rfl rfl hL fun a s e_ hL => ?_
      refine en' ?_
      show K34 a s.w
      refine hK34 _ _ ?_
      refine wp_block ?_
      have J36 : ∀ (at35 : Int) (a : Act) (s : St), Has N0 112 s0 a s [(5, (Pd.rep (En.slice En.cls) list21)), (9, (Pd.rep (En.slice (En.int .u8)) r30)), (10, (Pd.rep (En.int .i64) at35))] → ((law02_SplitHeads.j1 r_ list21 r30) at35) → K33 a s.w := by
        intro at35 a s hL h
        unfold law02_SplitHeads.j1 at h
        show K33 a s.w
        refine hK33 _ _ ?_
        refine wp_seq_k fun K37 hK37 => ?_
        obtain ⟨r38, h39, b40, h41, h⟩ := h
        refine rg ?_
        refine st 100 (t_move (o_t 10 rfl) rfl rfl) rfl rfl hL fun a s e_ hL => ?_
        refine st 101 (t_move (o_t 9 rfl) rfl rfl) rfl rfl hL fun a s e_ hL => ?_
        refine st 102 (t_len (o_t 101 rfl) Try.underlying40 rfl rfl) rfl rfl hL fun a s e_ hL => ?_
        refine st 103 (t_eqi (o_t 100 rfl) (o_t 102 rfl) rfl rfl) rfl rfl hL fun a s e_ hL => ?_
        refine st 104 (t_move (o_t 103 rfl) rfl rfl) rfl rfl hL fun a s e_ hL => ?_
        refine st 105 (t_g1 rfl rfl rfl (fun hc_ => t_move (o_t 9 rfl) rfl rfl)) rfl rfl hL fun a s e_ hL => ?_
        refine st 106 (t_g1 rfl rfl rfl (fun hc_ => t_len (o_w hc_ 105 rfl) Try.underlying40 rfl rfl)) rfl rfl hL fun a s e_ hL => ?_
        refine st 107 (t_g1 rfl rfl rfl (fun hc_ => t_move (o_t 5 rfl) rfl rfl)) rfl rfl hL fun a s e_ hL => ?_
        refine st 108 (t_g1 rfl rfl rfl (fun hc_ => t_call ((split_Parts_ok (h39 hc_)).frz) (xs := [.tmp 107]) (.cons (o_w hc_ 107 rfl) .nil) rfl rfl)) rfl rfl hL fun a s e_ hL => ?_
        refine st 109 (t_g1 rfl rfl rfl (fun hc_ => t_len (o_w hc_ 108 rfl) Try.underlying42 rfl rfl)) rfl rfl hL fun a s e_ hL => ?_
        refine st 110 (t_g1 rfl rfl rfl (fun hc_ => t_eqi (o_w hc_ 106 rfl) (o_w hc_ 109 rfl) rfl rfl)) rfl rfl hL fun a s e_ hL => ?_
        refine st 111 (h41 ▸ (t_and (o_t 104 rfl) (fun hc2_ => (o_w hc2_ 110 rfl)) rfl rfl)) rfl rfl hL fun a s e_ hL => ?_
        refine st 4 (t_assign (o_t 111 rfl) rfl rfl) rfl rfl hL fun a s e_ hL => ?_
        refine en' ?_
        show K37 a s.w
        refine hK37 _ _ ?_
        subst h
        exact wp_ret (retq rfl hL rfl)
      obtain ⟨k44, h⟩ := h
      refine lpg (fun k45 a s => ∃ (at42 : Int) (c43 : Int), Has N0 112 s0 a s [(5, (Pd.rep (En.slice En.cls) list21)), (6, (Pd.row En.bool s0.w.heap.size 4 og24 cut23)), (9, (Pd.rep (En.slice (En.int .u8)) r30)), (10, (Pd.rep (En.int .i64) at42)), (11, (Pd.rep (En.int .i64) c43))] ∧ law02_SplitHeads.l1 cut23 r30 r_ (law02_SplitHeads.j1 r_ list21 r30) k45 at42 c43) k44 ⟨0, 0, hL.keep (.cons (t := 5) rfl (fun _ h_ => h_.elim) (.cons (t := 6) rfl (fun _ _ h_ => h_) (.cons (t := 9) rfl (fun _ h_ => h_.elim) (.cons (t := 10) rfl (fun _ h_ => h_.elim) (.cons (t := 11) rfl (fun _ h_ => h_.elim) .nil))))), h⟩ ?_
      rintro k45 a s ⟨at42, c43, hL, h⟩ KL46 hKL46
      cases k45 with
      | zero => exact h.elim
      | succ k45 =>
      unfold law02_SplitHeads.l1 at h
      refine wp_seq_k fun K47 hK47 => ?_
      refine wp_seq_k fun K48 hK48 => ?_
      refine rg ?_
      refine st 72 (t_move (o_t 11 rfl) rfl rfl) rfl rfl hL fun a s e_ hL => ?_
      refine st 73 (t_lss (o_t 72 rfl) (o_i (by decide)) rfl rfl) rfl rfl hL fun a s e_ hL => ?_
      refine en' ?_
      show K48 a s.w
      refine hK48 _ _ ?_
      refine cnd hL rfl (fun hb_ => ?_) (fun hb_ => ?_)
      · replace h := h.1 hb_
        refine wp_skip ?_
        show K47 a s.w
        refine hK47 _ _ ?_
        refine wp_seq_k fun K49 hK49 => ?_
        refine wp_block ?_
        refine wp_seq_k fun K50 hK50 => ?_
        obtain ⟨e51, h52, b53, h54, h⟩ := h
        refine rg ?_
        refine st 76 (t_move (o_t 10 rfl) rfl rfl) rfl rfl hL fun a s e_ hL => ?_
        refine st 77 (t_move (o_t 9 rfl) rfl rfl) rfl rfl hL fun a s e_ hL => ?_
        refine st 78 (t_len (o_t 77 rfl) Try.underlying40 rfl rfl) rfl rfl hL fun a s e_ hL => ?_
        refine st 79 (t_lss (o_t 76 rfl) (o_t 78 rfl) rfl rfl) rfl rfl hL fun a s e_ hL => ?_
        refine st 80 (t_move (o_t 79 rfl) rfl rfl) rfl rfl hL fun a s e_ hL => ?_
        refine st 81 (t_g1 rfl rfl rfl (fun hc_ => t_move (o_t 9 rfl) rfl rfl)) rfl rfl hL fun a s e_ hL => ?_
        refine st 82 (t_g1 rfl rfl rfl (fun hc_ => t_move (o_t 10 rfl) rfl rfl)) rfl rfl hL fun a s e_ hL => ?_
        refine st 83 (t_g1 rfl rfl rfl (fun hc_ => t_idx (o_w hc_ 81 rfl) (o_w hc_ 82 rfl) (h52 hc_) Try.underlying40 ty5 rfl rfl)) rfl rfl hL fun a s e_ hL => ?_
        refine st 84 (t_g1 rfl rfl rfl (fun hc_ => t_load ty5 (o_w hc_ 83 rfl) rfl rfl)) rfl rfl hL fun a s e_ hL => ?_
        refine st 85 (t_g1 rfl rfl rfl (fun hc_ => t_up (o_w hc_ 84 rfl) (by decide) Try.underlying5 Try.underlying3 rfl rfl)) rfl rfl hL fun a s e_ hL => ?_
        refine st 86 (t_g1 rfl rfl rfl (fun hc_ => t_move (o_t 11 rfl) rfl rfl)) rfl rfl hL fun a s e_ hL => ?_
        refine st 87 (t_g1 rfl rfl rfl (fun hc_ => t_eqi (o_w hc_ 85 rfl) (o_w hc_ 86 rfl) rfl rfl)) rfl rfl hL fun a s e_ hL => ?_
        refine st 88 (h54 ▸ (t_and (o_t 80 rfl) (fun hc2_ => (o_w hc2_ 87 rfl)) rfl rfl)) rfl rfl hL fun a s e_ hL => ?_
        refine st 12 (t_assign (o_t 88 rfl) rfl rfl) rfl rfl hL fun a s e_ hL => ?_
        refine en' ?_
        show K50 a s.w
        refine hK50 _ _ ?_
        refine wp_seq_k fun K55 hK55 => ?_
        refine wp_seq_k fun K56 hK56 => ?_
        obtain ⟨e57, h58, h⟩ := h
        refine rg ?_
        refine st 89 (t_move (o_t 12 rfl) rfl rfl) rfl rfl hL fun a s e_ hL => ?_
        refine st 90 (t_move (o_t 89 rfl) rfl rfl) rfl rfl hL fun a s e_ hL => ?_
        refine st 91 (t_g1 rfl rfl rfl (fun hc_ => t_move (o_t 6 rfl) rfl rfl)) rfl rfl hL fun a s e_ hL => ?_
        refine st 92 (t_g1 rfl rfl rfl (fun hc_ => t_move (o_t 11 rfl) rfl rfl)) rfl rfl hL fun a s e_ hL => ?_
        refine st 93 (t_g1 rfl rfl rfl (fun hc_ => t_idxo (o_w hc_ 91 rfl) (o_w hc_ 92 rfl) (h58 hc_) Try.underlying28 ty4 rfl rfl)) rfl rfl hL fun a s e_ hL => ?_
        refine st 94 (t_g1 rfl rfl rfl (fun hc_ => t_loado ty4 (o_w hc_ 93 rfl) rfl rfl)) rfl rfl hL fun a s e_ hL => ?_
        refine st 95 (t_g1 rfl rfl rfl (fun hc_ => t_not (o_w hc_ 94 rfl) rfl rfl)) rfl rfl hL fun a s e_ hL => ?_
        refine st 96 (t_and (o_t 90 rfl) (fun hc2_ => (o_w hc2_ 95 rfl)) rfl rfl) rfl rfl hL fun a s e_ hL => ?_
        refine en' ?_
        show K56 a s.w
        refine hK56 _ _ ?_
        refine cnd hL rfl (fun hb_ => ?_) (fun hb_ => ?_)
        · replace h := h.1 hb_
          refine wp_seq_k fun K59 hK59 => ?_
          refine rg ?_
          refine st 4 (t_assign o_b rfl rfl) rfl rfl hL fun a s e_ hL => ?_
          refine en' ?_
          show K59 a s.w
          refine hK59 _ _ ?_
          subst h
          exact wp_ret (retq rfl hL rfl)
        · replace h := h.2 hb_
          refine wp_skip ?_
          show K55 a s.w
          refine hK55 _ _ ?_
          refine wp_seq_k fun K60 hK60 => ?_
          refine rg ?_
          refine st 97 (t_move (o_t 12 rfl) rfl rfl) rfl rfl hL fun a s e_ hL => ?_
          refine en' ?_
          show K60 a s.w
          refine hK60 _ _ ?_
          refine cnd hL rfl (fun hb_ => ?_) (fun hb_ => ?_)
          · replace h := h.1 hb_
            obtain ⟨h61, h⟩ := h
            refine rg ?_
            refine st 98 (t_move (o_t 10 rfl) rfl rfl) rfl rfl hL fun a s e_ hL => ?_
            refine st 99 (t_add (o_t 98 rfl) (o_i (by decide)) h61 rfl rfl) rfl rfl hL fun a s e_ hL => ?_
            refine st 10 (t_assign (o_t 99 rfl) rfl rfl) rfl rfl hL fun a s e_ hL => ?_
            refine en' ?_
            show K49 a s.w
            refine hK49 _ _ ?_
            obtain ⟨h62, h⟩ := h
            refine rg ?_
            refine st 74 (t_move (o_t 11 rfl) rfl rfl) rfl rfl hL fun a s e_ hL => ?_
            refine st 75 (t_add (o_t 74 rfl) (o_i (by decide)) h62 rfl rfl) rfl rfl hL fun a s e_ hL => ?_
            refine st 11 (t_assign (o_t 75 rfl) rfl rfl) rfl rfl hL fun a s e_ hL => ?_
            refine en' ?_
            exact hKL46 k45 a s (Nat.lt_succ_self _) ⟨(at42 + 1), (c43 + 1), hL.keep (.cons (t := 5) rfl (fun _ h_ => h_.elim) (.cons (t := 6) rfl (fun _ _ h_ => h_) (.cons (t := 9) rfl (fun _ h_ => h_.elim) (.cons (t := 10) rfl (fun _ h_ => h_.elim) (.cons (t := 11) rfl (fun _ h_ => h_.elim) .nil))))), h⟩
          · replace h := h.2 hb_
            refine wp_skip ?_
            show K49 a s.w
            refine hK49 _ _ ?_
            obtain ⟨h63, h⟩ := h
            refine rg ?_
            refine st 74 (t_move (o_t 11 rfl) rfl rfl) rfl rfl hL fun a s e_ hL => ?_
            refine st 75 (t_add (o_t 74 rfl) (o_i (by decide)) h63 rfl rfl) rfl rfl hL fun a s e_ hL => ?_
            refine st 11 (t_assign (o_t 75 rfl) rfl rfl) rfl rfl hL fun a s e_ hL => ?_
            refine en' ?_
            exact hKL46 k45 a s (Nat.lt_succ_self _) ⟨at42, (c43 + 1), hL.keep (.cons (t := 5) rfl (fun _ h_ => h_.elim) (.cons (t := 6) rfl (fun _ _ h_ => h_) (.cons (t := 9) rfl (fun _ h_ => h_.elim) (.cons (t := 10) rfl (fun _ h_ => h_.elim) (.cons (t := 11) rfl (fun _ h_ => h_.elim) .nil))))), h⟩
      · replace h := h.2 hb_
        refine wp_exit ?_
        exact J36 at42 a s (hL.keep (.cons (t := 5) rfl (fun _ h_ => h_.elim) (.cons (t := 9) rfl (fun _ h_ => h_.elim) (.cons (t := 10) rfl (fun _ h_ => h_.elim) .nil)))) h
    obtain ⟨k69, h⟩ := h
    refine lpg (fun k70 a s => ∃ (list64 : (List Cl)) (cut66 : (List Bool)) (i68 : Int) (og65 : Option Nat) (og67 : Option Nat), Has N0 112 s0 a s [(0, (Pd.rep (En.slice (En.int .u8)) from_)), (1, (Pd.rep (En.slice (En.int .u8)) long_)), (5, (Pd.row En.cls s0.w.heap.size 24 og65 list64)), (6, (Pd.row En.bool s0.w.heap.size 4 og67 cut66)), (7, (Pd.rep (En.int .i64) i68))] ∧ Dis og65 og67 ∧ law02_SplitHeads.l2 from_ long_ (law02_SplitHeads.j2 r_) k70 list64 cut66 i68) k69 ⟨[], ((List.replicate 257 false).set (0 : Int).toNat true), 0, none, (some g15), hL.keep (.cons (t := 0) rfl (fun _ h_ => h_.elim) (.cons (t := 1) rfl (fun _ h_ => h_.elim) (.cons (t := 5) rfl (fun _ _ h_ => h_) (.cons (t := 6) rfl (fun _ _ h_ => h_) (.cons (t := 7) rfl (fun _ h_ => h_.elim) .nil))))), Dis.none, h⟩ ?_
    rintro k70 a s ⟨list64, cut66, i68, og65, og67, hL, d72, h⟩ KL71 hKL71
    cases k70 with
    | zero => exact h.elim
    | succ k70 =>
    unfold law02_SplitHeads.l2 at h
    refine wp_seq_k fun K73 hK73 => ?_
    refine wp_seq_k fun K74 hK74 => ?_
    refine rg ?_
    refine st 31 (t_move (o_t 7 rfl) rfl rfl) rfl rfl hL fun a s e_ hL => ?_
    refine st 32 (t_move (o_t 0 rfl) rfl rfl) rfl rfl hL fun a s e_ hL => ?_
    refine st 33 (t_len (o_t 32 rfl) Try.underlying40 rfl rfl) rfl rfl hL fun a s e_ hL => ?_
    refine st 34 (t_lss (o_t 31 rfl) (o_t 33 rfl) rfl rfl) rfl rfl hL fun a s e_ hL => ?_
    refine en' ?_
    show K74 a s.w
    refine hK74 _ _ ?_
    refine cnd hL rfl (fun hb_ => ?_) (fun hb_ => ?_)
    · replace h := h.1 hb_
      refine wp_skip ?_
      show K73 a s.w
      refine hK73 _ _ ?_
      refine wp_seq_k fun K75 hK75 => ?_
      refine wp_block ?_
      refine wp_seq_k fun K76 hK76 => ?_
      obtain ⟨e77, h78, e79, h80, h81, h⟩ := h
      refine rda follows 12 [(Pd.rep (En.slice (En.int .u8)) from_), (Pd.rep (En.int .i64) i68), (Pd.ptr (En.int .u8) e77), (Pd.rep (En.int .u8) e77), (Pd.rep (En.int .i64) e77), (Pd.rep (En.slice (En.int .u8)) long_), (Pd.rep (En.int .i64) i68), (Pd.ptr (En.int .u8) e79), (Pd.rep (En.int .u8) e79), (Pd.rep (En.int .i64) e79), (Pd.rep (En.int .i64) (e77 + e79)), (Pd.rep (En.int .i64) (min 255 (e77 + e79)))] hL (by kernel_rfl) rfl rfl ?_ ?_
      · refine AllT.cons (t_move (o_t 0 rfl) rfl rfl) ?_
        refine AllT.cons (t_move (o_t 7 rfl) rfl rfl) ?_
        refine AllT.cons (t_idx (o_t 37 rfl) (o_t 38 rfl) h78 Try.underlying40 ty5 rfl rfl) ?_
        refine AllT.cons (t_load ty5 (o_t 39 rfl) rfl rfl) ?_
        refine AllT.cons (t_up (o_t 40 rfl) (by decide) Try.underlying5 Try.underlying3 rfl rfl) ?_
        refine AllT.cons (t_move (o_t 1 rfl) rfl rfl) ?_
        refine AllT.cons (t_move (o_t 7 rfl) rfl rfl) ?_
        refine AllT.cons (t_idx (o_t 42 rfl) (o_t 43 rfl) h80 Try.underlying40 ty5 rfl rfl) ?_
        refine AllT.cons (t_load ty5 (o_t 44 rfl) rfl rfl) ?_
        refine AllT.cons (t_up (o_t 45 rfl) (by decide) Try.underlying5 Try.underlying3 rfl rfl) ?_
        refine AllT.cons (t_add (o_t 41 rfl) (o_t 46 rfl) h81 rfl rfl) ?_
        refine AllT.cons (t_min (o_i (by decide)) (o_t 47 rfl) rfl rfl) ?_
        exact AllT.nil
      intro a s e_ hL
      refine st 8 (t_assign (o_t 48 rfl) rfl rfl) rfl rfl hL fun a s e_ hL => ?_
      refine en' ?_
      show K76 a s.w
      refine hK76 _ _ ?_
      refine wp_seq_k fun K82 hK82 => ?_
      obtain ⟨e83, h84, r85, h86, h87, h⟩ := h
      refine rg ?_
      refine st 49 (t_move (o_t 5 rfl) rfl rfl) rfl rfl hL fun a s e_ hL => ?_
      refine st 50 (t_move (o_t 0 rfl) rfl rfl) rfl rfl hL fun a s e_ hL => ?_
      refine st 51 (t_move (o_t 7 rfl) rfl rfl) rfl rfl hL fun a s e_ hL => ?_
      refine st 52 (t_idx (o_t 50 rfl) (o_t 51 rfl) h84 Try.underlying40 ty5 rfl rfl) rfl rfl hL fun a s e_ hL => ?_
      refine st 53 (t_load ty5 (o_t 52 rfl) rfl rfl) rfl rfl hL fun a s e_ hL => ?_
      refine st 54 (t_move (o_t 8 rfl) rfl rfl) rfl rfl hL fun a s e_ hL => ?_
      refine st 55 (t_u8 (o_t 54 rfl) Try.underlying3 Try.underlying5 rfl rfl) rfl rfl hL fun a s e_ hL => ?_
      refine st 56 (t_call (ref01_Row_ok h86) (xs := [.tmp 53, .tmp 55]) (.cons (o_t 53 rfl) (.cons (o_t 55 rfl) .nil)) rfl rfl) rfl rfl hL fun a s e_ hL => ?_
      refine st 57 (t_lit (xs := [.tmp 56]) (.cons (o_t 56 rfl) .nil) Try.underlying42 ty24 rfl rfl (by decide) rfl rfl) rfl rfl hL fun a s e_ hL => ?_
      have lt_og88_6 := hL.rlt 6 rfl
      refine st_app (L' := [(0, (Pd.rep (En.slice (En.int .u8)) from_)), (1, (Pd.rep (En.slice (En.int .u8)) long_)), (6, (Pd.row En.bool s0.w.heap.size 4 og67 cut66)), (7, (Pd.rep (En.int .i64) i68)), (8, (Pd.rep (En.int .i64) (min 255 (e77 + e79))))]) 58 hL (o_t 49 rfl) (o_t 57 rfl) Try.underlying42 ty24 h87 rfl rfl rfl rfl (.cons (t := 0) rfl (fun _ h_ => h_.elim) (.cons (t := 1) rfl (fun _ h_ => h_.elim) (.cons (t := 6) rfl (Dis.ow (Dis.symm d72)) (.cons (t := 7) rfl (fun _ h_ => h_.elim) (.cons (t := 8) rfl (fun _ h_ => h_.elim) .nil))))) fun a s og88 hg_ hL => ?_
      have d89 : Dis og88 og67 := Dis.app hg_ d72 lt_og88_6
      refine st 5 (t_assign (o_t 58 rfl) rfl rfl) rfl rfl hL fun a s e_ hL => ?_
      refine en' ?_
      show K82 a s.w
      refine hK82 _ _ ?_
      refine wp_seq_k fun K90 hK90 => ?_
      obtain ⟨e91, h92, e93, h94, h⟩ := h
      refine rg ?_
      refine st 59 (t_move (o_t 6 rfl) rfl rfl) rfl rfl hL fun a s e_ hL => ?_
      refine st 60 (t_move (o_t 0 rfl) rfl rfl) rfl rfl hL fun a s e_ hL => ?_
      refine st 61 (t_move (o_t 7 rfl) rfl rfl) rfl rfl hL fun a s e_ hL => ?_
      refine st 62 (t_idx (o_t 60 rfl) (o_t 61 rfl) h92 Try.underlying40 ty5 rfl rfl) rfl rfl hL fun a s e_ hL => ?_
      refine st 63 (t_load ty5 (o_t 62 rfl) rfl rfl) rfl rfl hL fun a s e_ hL => ?_
      refine st 64 (t_up (o_t 63 rfl) (by decide) Try.underlying5 Try.underlying3 rfl rfl) rfl rfl hL fun a s e_ hL => ?_
      refine st 65 (t_idxo (o_t 59 rfl) (o_t 64 rfl) h94 Try.underlying28 ty4 rfl rfl) rfl rfl hL fun a s e_ hL => ?_
      refine st_stor (L' := [(0, (Pd.rep (En.slice (En.int .u8)) from_)), (1, (Pd.rep (En.slice (En.int .u8)) long_)), (5, (Pd.row En.cls s0.w.heap.size 24 og88 (list64 ++ [r85]))), (6, (Pd.row En.bool s0.w.heap.size 4 og67 (cut66.set (e91 : Int).toNat true))), (7, (Pd.rep (En.int .i64) i68)), (8, (Pd.rep (En.int .i64) (min 255 (e77 + e79))))]) (off := 0) 6 hL rfl h94 (o_t 65 rfl) o_b (sub_all _ _ _) ty4 rfl rfl rfl (.cons (t := 0) rfl (fun _ h_ => h_.elim) (.cons (t := 1) rfl (fun _ h_ => h_.elim) (.cons (t := 5) rfl (Dis.ow d89) (.turn (t := 6) rfl (.cons (t := 7) rfl (fun _ h_ => h_.elim) (.cons (t := 8) rfl (fun _ h_ => h_.elim) .nil)))))) fun s hL => ?_
      refine en' ?_
      show K90 a s.w
      refine hK90 _ _ ?_
      obtain ⟨h95, e96, h97, h⟩ := h
      refine rg ?_
      refine st 66 (t_move (o_t 6 rfl) rfl rfl) rfl rfl hL fun a s e_ hL => ?_
      refine st 67 (t_move (o_t 8 rfl) rfl rfl) rfl rfl hL fun a s e_ hL => ?_
      refine st 68 (t_add (o_t 67 rfl) (o_i (by decide)) h95 rfl rfl) rfl rfl hL fun a s e_ hL => ?_
      refine st 69 (t_idxo (o_t 66 rfl) (o_t 68 rfl) h97 Try.underlying28 ty4 rfl rfl) rfl rfl hL fun a s e_ hL => ?_
      refine st_stor (L' := [(0, (Pd.rep (En.slice (En.int .u8)) from_)), (1, (Pd.rep (En.slice (En.int .u8)) long_)), (5, (Pd.row En.cls s0.w.heap.size 24 og88 (list64 ++ [r85]))), (6, (Pd.row En.bool s0.w.heap.size 4 og67 ((cut66.set (e91 : Int).toNat true).set ((min 255 (e77 + e79)) + 1 : Int).toNat true))), (7, (Pd.rep (En.int .i64) i68))]) (off := 0) 6 hL rfl h97 (o_t 69 rfl) o_b (sub_all _ _ _) ty4 rfl rfl rfl (.cons (t := 0) rfl (fun _ h_ => h_.elim) (.cons (t := 1) rfl (fun _ h_ => h_.elim) (.cons (t := 5) rfl (Dis.ow d89) (.turn (t := 6) rfl (.cons (t := 7) rfl (fun _ h_ => h_.elim) .nil))))) fun s hL => ?_
      refine en' ?_
      show K75 a s.w
      refine hK75 _ _ ?_
      obtain ⟨h98, h⟩ := h
      refine rg ?_
      refine st 35 (t_move (o_t 7 rfl) rfl rfl) rfl rfl hL fun a s e_ hL => ?_
      refine st 36 (t_add (o_t 35 rfl) (o_i (by decide)) h98 rfl rfl) rfl rfl hL fun a s e_ hL => ?_
      refine st 7 (t_assign (o_t 36 rfl) rfl rfl) rfl rfl hL fun a s e_ hL => ?_
      refine en' ?_
      exact hKL71 k70 a s (Nat.lt_succ_self _) ⟨(list64 ++ [r85]), ((cut66.set (e91 : Int).toNat true).set ((min 255 (e77 + e79)) + 1 : Int).toNat true), (i68 + 1), og88, og67, hL.keep (.cons (t := 0) rfl (fun _ h_ => h_.elim) (.cons (t := 1) rfl (fun _ h_ => h_.elim) (.cons (t := 5) rfl (fun _ _ h_ => h_) (.cons (t := 6) rfl (fun _ _ h_ => h_) (.cons (t := 7) rfl (fun _ h_ => h_.elim) .nil))))), d89, h⟩
    · replace h := h.2 hb_
      refine wp_exit ?_
      exact J25 list64 cut66 og65 og67 a s (hL.keep (.cons (t := 5) rfl (fun _ _ h_ => h_) (.cons (t := 6) rfl (fun _ _ h_ => h_) .nil))) d72 h

theorem law02_SplitOne_ok {a_ : Cl} {r_ : Bool} (h : law02_SplitOne a_ r_) : Fn Try.prog 13 [(Pd.rep En.cls a_)] (Rq (Pd.rep En.bool r_)) := by
  unfold law02_SplitOne at h
  refine fn_of Try.func13 rfl Try.ntmps13 (by rfl) (by simp) fun s0 a hL => ?_
  refine wp_seq_k fun K1 hK1 => ?_
  refine rg ?_
  refine st 1 (t_box (o_t 0 rfl) rfl rfl) rfl rfl hL fun a s e_ hL => ?_
  refine st 2 (t_assign o_b rfl rfl) rfl rfl hL fun a s e_ hL => ?_
  refine en' ?_
  show K1 a s.w
  refine hK1 _ _ ?_
  refine wp_seq_k fun K2 hK2 => ?_
  refine wp_seq_k fun K3 hK3 => ?_
  obtain ⟨r4, h5, h⟩ := h
  refine rg ?_
  refine st 11 (t_call (law02_awake_ok h5) (xs := []) .nil rfl rfl) rfl rfl hL fun a s e_ hL => ?_
  refine st 12 (t_not (o_t 11 rfl) rfl rfl) rfl rfl hL fun a s e_ hL => ?_
  refine en' ?_
  show K3 a s.w
  refine hK3 _ _ ?_
  refine cnd hL rfl (fun hb_ => ?_) (fun hb_ => ?_)
  · replace h := h.1 hb_
    refine wp_seq_k fun K6 hK6 => ?_
    refine rg ?_
    refine st 2 (t_assign o_b rfl rfl) rfl rfl hL fun a s e_ hL => ?_
    refine en' ?_
    show K6 a s.w
    refine hK6 _ _ ?_
    subst h
    exact wp_ret (retq rfl hL rfl)
  · replace h := h.2 hb_
    refine wp_skip ?_
    show K2 a s.w
    refine hK2 _ _ ?_
    refine wp_seq_k fun K7 hK7 => ?_
    obtain ⟨r8, h9, h⟩ := h
    refine rg ?_
    refine st 13 (t_load ty24 (o_t 1 rfl) rfl rfl) rfl rfl hL fun a s e_ hL => ?_
    refine st 14 (t_lit (xs := [.tmp 13]) (.cons (o_t 13 rfl) .nil) Try.underlying42 ty24 rfl rfl (by decide) rfl rfl) rfl rfl hL fun a s e_ hL => ?_
    refine st 15 (t_call ((split_Parts_ok h9).frz) (xs := [.tmp 14]) (.cons (o_t 14 rfl) .nil) rfl rfl) rfl rfl hL fun a s e_ hL => ?_
    refine st 3 (t_assign (o_t 15 rfl) rfl rfl) rfl rfl hL fun a s e_ hL => ?_
    refine en' ?_
    show K7 a s.w
    refine hK7 _ _ ?_
    refine wp_seq_k fun K10 hK10 => ?_
    obtain ⟨r11, h12, h⟩ := h
    refine rg ?_
    refine st 16 (t_load ty24 (o_t 1 rfl) rfl rfl) rfl rfl hL fun a s e_ hL => ?_
    refine st 17 (t_call (ref01_Not_ok h12) (xs := [.tmp 16]) (.cons (o_t 16 rfl) .nil) rfl rfl) rfl rfl hL fun a s e_ hL => ?_
    refine st_alloc En.cls (z := (0#256)) 4 hL tyz24 rfl rfl rfl rfl fun a s g13 hg_ hL => ?_
    refine st_stb (L' := [(1, (Pd.ptr En.cls a_)), (3, (Pd.rep (En.slice En.cls) r8))]) 4 hL rfl (o_t 17 rfl) ty24 rfl rfl rfl (.cons (t := 1) rfl (fun _ h_ => h_.elim) (.cons (t := 3) rfl (fun _ h_ => h_.elim) .nil)) fun s hL => ?_
    refine en' ?_
    show K10 a s.w
    refine hK10 _ _ ?_
    refine wp_seq_k fun K14 hK14 => ?_
    refine rg ?_
    refine st 5 (t_assign (o_i (by decide)) rfl rfl) rfl rfl hL fun a s e_ hL => ?_
    refine en' ?_
    show K14 a s.w
    refine hK14 _ _ ?_
    refine wp_seq_k fun K15 hK15 => ?_
    refine wp_seq_k fun K16 hK16 => ?_
    refine rg ?_
    refine st 6 (t_assign (o_i (by decide)) rfl rfl) rfl rfl hL fun a s e_ hL => ?_
    refine en' ?_
    show K16 a s.w
    refine hK16 _ _ ?_
    refine wp_block ?_
    have J18 : ∀ (some17 : Int) (a : Act) (s : St), Has N0 85 s0 a s [(1, (Pd.ptr En.cls a_)), (4, (Pd.box En.cls s0.w.heap.size g13 r11)), (5, (Pd.rep (En.int .i64) some17))] → ((law02_SplitOne.j4 a_ r_ r11) some17) → K15 a s.w := by
      intro some17 a s hL h
      unfold law02_SplitOne.j4 at h
      show K15 a s.w
      refine hK15 _ _ ?_
      refine wp_seq_k fun K19 hK19 => ?_
      refine rg ?_
      refine st 7 (t_assign (o_i (by decide)) rfl rfl) rfl rfl hL fun a s e_ hL => ?_
      refine en' ?_
      show K19 a s.w
      refine hK19 _ _ ?_
      refine wp_seq_k fun K20 hK20 => ?_
      refine wp_seq_k fun K21 hK21 => ?_
      refine rg ?_
      refine st 40 (t_load ty24 (o_t 1 rfl) rfl rfl) rfl rfl hL fun a s e_ hL => ?_
      refine st 41 (t_bcls (x := (0#256)) Try.underlying24 (by rfl) tyz24 (fun _ => by kernel_rfl) rfl rfl) rfl rfl hL fun a s e_ hL => ?_
      refine st 42 (t_eqv eq24 (o_t 40 rfl) (o_t 41 rfl) rfl rfl) rfl rfl hL fun a s e_ hL => ?_
      refine st 43 (t_move (o_t 42 rfl) rfl rfl) rfl rfl hL fun a s e_ hL => ?_
      refine st 44 (t_g1 rfl rfl rfl (fun hc_ => t_loadb ty24 (o_t 4 rfl) rfl rfl)) rfl rfl hL fun a s e_ hL => ?_
      refine st 45 (t_g1 rfl rfl rfl (fun hc_ => t_bcls (x := (0#256)) Try.underlying24 (by rfl) tyz24 (fun _ => by kernel_rfl) rfl rfl)) rfl rfl hL fun a s e_ hL => ?_
      refine st 46 (t_g1 rfl rfl rfl (fun hc_ => t_eqv eq24 (o_w hc_ 44 rfl) (o_w hc_ 45 rfl) rfl rfl)) rfl rfl hL fun a s e_ hL => ?_
      refine st 47 (t_or (o_t 43 rfl) (fun hc2_ => (o_w hc2_ 46 rfl)) rfl rfl) rfl rfl hL fun a s e_ hL => ?_
      refine en' ?_
      show K21 a s.w
      refine hK21 _ _ ?_
      have J23 : ∀ (want22 : Int) (a : Act) (s : St), Has N0 85 s0 a s [(1, (Pd.ptr En.cls a_)), (4, (Pd.box En.cls s0.w.heap.size g13 r11)), (5, (Pd.rep (En.int .i64) some17)), (7, (Pd.rep (En.int .i64) want22))] → ((law02_SplitOne.j3 a_ r_ r11 some17) want22) → K20 a s.w := by
        intro want22 a s hL h
        unfold law02_SplitOne.j3 at h
        show K20 a s.w
        refine hK20 _ _ ?_
        refine wp_seq_k fun K24 hK24 => ?_
        refine wp_seq_k fun K25 hK25 => ?_
        refine rg ?_
        refine st 48 (t_move (o_t 5 rfl) rfl rfl) rfl rfl hL fun a s e_ hL => ?_
        refine st 49 (t_move (o_t 7 rfl) rfl rfl) rfl rfl hL fun a s e_ hL => ?_
        refine st 50 (t_nei (o_t 48 rfl) (o_t 49 rfl) rfl rfl) rfl rfl hL fun a s e_ hL => ?_
        refine en' ?_
        show K25 a s.w
        refine hK25 _ _ ?_
        refine cnd hL rfl (fun hb_ => ?_) (fun hb_ => ?_)
        · replace h := h.1 hb_
          refine wp_seq_k fun K26 hK26 => ?_
          refine rg ?_
          refine st 2 (t_assign o_b rfl rfl) rfl rfl hL fun a s e_ hL => ?_
          refine en' ?_
          show K26 a s.w
          refine hK26 _ _ ?_
          subst h
          exact wp_ret (retq rfl hL rfl)
        · replace h := h.2 hb_
          refine wp_skip ?_
          show K24 a s.w
          refine hK24 _ _ ?_
          refine wp_seq_k fun K27 hK27 => ?_
          refine rg ?_
          refine st 51 (t_load ty24 (o_t 1 rfl) rfl rfl) rfl rfl hL fun a s e_ hL => ?_
          have lt_d29 := hL.blt 4 rfl
          refine st_lito (xs := [.tmp 51]) 52 hL (.cons (o_t 51 rfl) .nil) Try.underlying42 ty24 rfl rfl (by decide) rfl rfl rfl rfl fun a s g28 hg_ hL => ?_
          have d29 : Dis (some g28) (some g13) := Dis.newg hg_ lt_d29
          refine st 8 (t_assign (o_t 52 rfl) rfl rfl) rfl rfl hL fun a s e_ hL => ?_
          refine en' ?_
          show K27 a s.w
          refine hK27 _ _ ?_
          refine wp_seq_k fun K30 hK30 => ?_
          refine rg ?_
          refine st 9 (t_assign (o_i (by decide)) rfl rfl) rfl rfl hL fun a s e_ hL => ?_
          refine en' ?_
          show K30 a s.w
          refine hK30 _ _ ?_
          refine wp_seq_k fun K31 hK31 => ?_
          refine wp_seq_k fun K32 hK32 => ?_
          refine rg ?_
          refine st 10 (t_assign (o_i (by decide)) rfl rfl) rfl rfl hL fun a s e_ hL => ?_
          refine en' ?_
          show K32 a s.w
          refine hK32 _ _ ?_
          refine wp_block ?_
          have J36 : ∀ (list33 : (List Cl)) (n35 : Int) (og34 : Option Nat) (a : Act) (s : St), Has N0 85 s0 a s [(4, (Pd.box En.cls s0.w.heap.size g13 r11)), (8, (Pd.row En.cls s0.w.heap.size 24 og34 list33)), (9, (Pd.rep (En.int .i64) n35))] → Dis (some g13) og34 → ((law02_SplitOne.j2 r_ r11) list33 n35) → K31 a s.w := by
            intro list33 n35 og34 a s hL d37 h
            unfold law02_SplitOne.j2 at h
            show K31 a s.w
            refine hK31 _ _ ?_
            refine wp_seq_k fun K38 hK38 => ?_
            refine wp_seq_k fun K39 hK39 => ?_
            refine rg ?_
            refine st 71 (t_loadb ty24 (o_t 4 rfl) rfl rfl) rfl rfl hL fun a s e_ hL => ?_
            refine st 72 (t_bcls (x := (0#256)) Try.underlying24 (by rfl) tyz24 (fun _ => by kernel_rfl) rfl rfl) rfl rfl hL fun a s e_ hL => ?_
            refine st 73 (t_nev eq24 (o_t 71 rfl) (o_t 72 rfl) rfl rfl) rfl rfl hL fun a s e_ hL => ?_
            refine en' ?_
            show K39 a s.w
            refine hK39 _ _ ?_
            have J41 : ∀ (n40 : Int) (a : Act) (s : St), Has N0 85 s0 a s [(8, (Pd.row En.cls s0.w.heap.size 24 og34 list33)), (9, (Pd.rep (En.int .i64) n40))] → ((law02_SplitOne.j1 r_ list33) n40) → K38 a s.w := by
              intro n40 a s hL h
              unfold law02_SplitOne.j1 at h
              show K38 a s.w
              refine hK38 _ _ ?_
              refine wp_seq_k fun K42 hK42 => ?_
              obtain ⟨s44, h43, hL⟩ := hL.freeze (L' := [(9, (Pd.rep (En.int .i64) n40))]) 8 rfl (.cons (t := 9) rfl (fun _ h_ => h_.elim) .nil)
              rw [← h43]
              clear h43
              generalize s44 = s at *
              obtain ⟨r45, h46, b47, h48, h⟩ := h
              refine rg ?_
              refine st 76 (t_move (o_t 9 rfl) rfl rfl) rfl rfl hL fun a s e_ hL => ?_
              refine st 77 (t_gtr (o_t 76 rfl) (o_i (by decide)) rfl rfl) rfl rfl hL fun a s e_ hL => ?_
              refine st 78 (t_move (o_t 77 rfl) rfl rfl) rfl rfl hL fun a s e_ hL => ?_
              refine st 79 (t_g1 rfl rfl rfl (fun hc_ => t_move (o_t 8 rfl) rfl rfl)) rfl rfl hL fun a s e_ hL => ?_
              refine st 80 (t_g1 rfl rfl rfl (fun hc_ => t_call ((split_Parts_ok (h46 hc_)).frz) (xs := [.tmp 79]) (.cons (o_w hc_ 79 rfl) .nil) rfl rfl)) rfl rfl hL fun a s e_ hL => ?_
              refine st 81 (t_g1 rfl rfl rfl (fun hc_ => t_len (o_w hc_ 80 rfl) Try.underlying42 rfl rfl)) rfl rfl hL fun a s e_ hL => ?_
              refine st 82 (t_g1 rfl rfl rfl (fun hc_ => t_move (o_t 9 rfl) rfl rfl)) rfl rfl hL fun a s e_ hL => ?_
              refine st 83 (t_g1 rfl rfl rfl (fun hc_ => t_eqi (o_w hc_ 81 rfl) (o_w hc_ 82 rfl) rfl rfl)) rfl rfl hL fun a s e_ hL => ?_
              refine st 84 (h48 ▸ (t_or (o_t 78 rfl) (fun hc2_ => (o_w hc2_ 83 rfl)) rfl rfl)) rfl rfl hL fun a s e_ hL => ?_
              refine st 2 (t_assign (o_t 84 rfl) rfl rfl) rfl rfl hL fun a s e_ hL => ?_
              refine en' ?_
              show K42 a s.w
              refine hK42 _ _ ?_
              subst h
              exact wp_ret (retq rfl hL rfl)
            refine cnd hL rfl (fun hb_ => ?_) (fun hb_ => ?_)
            · replace h := h.1 hb_
              obtain ⟨h49, h⟩ := h
              refine rg ?_
              refine st 74 (t_move (o_t 9 rfl) rfl rfl) rfl rfl hL fun a s e_ hL => ?_
              refine st 75 (t_add (o_t 74 rfl) (o_i (by decide)) h49 rfl rfl) rfl rfl hL fun a s e_ hL => ?_
              refine st 9 (t_assign (o_t 75 rfl) rfl rfl) rfl rfl hL fun a s e_ hL => ?_
              refine en' ?_
              exact J41 (n35 + 1) a s (hL.keep (.cons (t := 8) rfl (fun _ _ h_ => h_) (.cons (t := 9) rfl (fun _ h_ => h_.elim) .nil))) h
            · replace h := h.2 hb_
              refine wp_skip ?_
              exact J41 n35 a s (hL.keep (.cons (t := 8) rfl (fun _ _ h_ => h_) (.cons (t := 9) rfl (fun _ h_ => h_.elim) .nil))) h
          obtain ⟨k54, h⟩ := h
          refine lpg (fun k55 a s => ∃ (list50 : (List Cl)) (n52 : Int) (c53 : Int) (og51 : Option Nat), Has N0 85 s0 a s [(1, (Pd.ptr En.cls a_)), (4, (Pd.box En.cls s0.w.heap.size g13 r11)), (8, (Pd.row En.cls s0.w.heap.size 24 og51 list50)), (9, (Pd.rep (En.int .i64) n52)), (10, (Pd.rep (En.int .i64) c53))] ∧ Dis (some g13) og51 ∧ law02_SplitOne.l1 a_ (law02_SplitOne.j2 r_ r11) k55 list50 n52 c53) k54 ⟨[a_], 0, 0, (some g28), hL.keep (.cons (t := 1) rfl (fun _ h_ => h_.elim) (.cons (t := 4) rfl (fun _ _ h_ => h_) (.cons (t := 8) rfl (fun _ _ h_ => h_) (.cons (t := 9) rfl (fun _ h_ => h_.elim) (.cons (t := 10) rfl (fun _ h_ => h_.elim) .nil))))), (Dis.symm d29), h⟩ ?_
          rintro k55 a s ⟨list50, n52, c53, og51, hL, d57, h⟩ KL56 hKL56
          cases k55 with
          | zero => exact h.elim
          | succ k55 =>
          unfold law02_SplitOne.l1 at h
          refine wp_seq_k fun K58 hK58 => ?_
          refine wp_seq_k fun K59 hK59 => ?_
          refine rg ?_
          refine st 53 (t_move (o_t 10 rfl) rfl rfl) rfl rfl hL fun a s e_ hL => ?_
          refine st 54 (t_lss (o_t 53 rfl) (o_i (by decide)) rfl rfl) rfl rfl hL fun a s e_ hL => ?_
          refine en' ?_
          show K59 a s.w
          refine hK59 _ _ ?_
          refine cnd hL rfl (fun hb_ => ?_) (fun hb_ => ?_)
          · replace h := h.1 hb_
            refine wp_skip ?_
            show K58 a s.w
            refine hK58 _ _ ?_
            refine wp_seq_k fun K60 hK60 => ?_
            refine wp_block ?_
            refine wp_seq_k fun K61 hK61 => ?_
            obtain ⟨r62, h63, h⟩ := h
            refine rg ?_
            refine st 57 (t_load ty24 (o_t 1 rfl) rfl rfl) rfl rfl hL fun a s e_ hL => ?_
            refine st 58 (t_move (o_t 10 rfl) rfl rfl) rfl rfl hL fun a s e_ hL => ?_
            refine st 59 (t_u8 (o_t 58 rfl) Try.underlying3 Try.underlying5 rfl rfl) rfl rfl hL fun a s e_ hL => ?_
            refine st 60 (t_call (ref01_Has_ok h63) (xs := [.tmp 57, .tmp 59]) (.cons (o_t 57 rfl) (.cons (o_t 59 rfl) .nil)) rfl rfl) rfl rfl hL fun a s e_ hL => ?_
            refine en' ?_
            show K61 a s.w
            refine hK61 _ _ ?_
            refine cnd hL rfl (fun hb_ => ?_) (fun hb_ => ?_)
            · replace h := h.1 hb_
              refine wp_seq_k fun K64 hK64 => ?_
              obtain ⟨r65, h66, h67, h⟩ := h
              refine rg ?_
              refine st 61 (t_move (o_t 8 rfl) rfl rfl) rfl rfl hL fun a s e_ hL => ?_
              refine st 62 (t_move (o_t 10 rfl) rfl rfl) rfl rfl hL fun a s e_ hL => ?_
              refine st 63 (t_u8 (o_t 62 rfl) Try.underlying3 Try.underlying5 rfl rfl) rfl rfl hL fun a s e_ hL => ?_
              refine st 64 (t_move (o_t 10 rfl) rfl rfl) rfl rfl hL fun a s e_ hL => ?_
              refine st 65 (t_u8 (o_t 64 rfl) Try.underlying3 Try.underlying5 rfl rfl) rfl rfl hL fun a s e_ hL => ?_
              refine st 66 (t_call (ref01_Row_ok h66) (xs := [.tmp 63, .tmp 65]) (.cons (o_t 63 rfl) (.cons (o_t 65 rfl) .nil)) rfl rfl) rfl rfl hL fun a s e_ hL => ?_
              refine st 67 (t_lit (xs := [.tmp 66]) (.cons (o_t 66 rfl) .nil) Try.underlying42 ty24 rfl rfl (by decide) rfl rfl) rfl rfl hL fun a s e_ hL => ?_
              have lt_og68_4 := hL.blt 4 rfl
              refine st_app (L' := [(1, (Pd.ptr En.cls a_)), (4, (Pd.box En.cls s0.w.heap.size g13 r11)), (9, (Pd.rep (En.int .i64) n52)), (10, (Pd.rep (En.int .i64) c53))]) 68 hL (o_t 61 rfl) (o_t 67 rfl) Try.underlying42 ty24 h67 rfl rfl rfl rfl (.cons (t := 1) rfl (fun _ h_ => h_.elim) (.cons (t := 4) rfl (Dis.bx d57) (.cons (t := 9) rfl (fun _ h_ => h_.elim) (.cons (t := 10) rfl (fun _ h_ => h_.elim) .nil)))) fun a s og68 hg_ hL => ?_
              have d69 : Dis og68 (some g13) := Dis.app hg_ (Dis.symm d57) lt_og68_4
              refine st 8 (t_assign (o_t 68 rfl) rfl rfl) rfl rfl hL fun a s e_ hL => ?_
              refine en' ?_
              show K64 a s.w
              refine hK64 _ _ ?_
              obtain ⟨h70, h⟩ := h
              refine rg ?_
              refine st 69 (t_move (o_t 9 rfl) rfl rfl) rfl rfl hL fun a s e_ hL => ?_
              refine st 70 (t_add (o_t 69 rfl) (o_i (by decide)) h70 rfl rfl) rfl rfl hL fun a s e_ hL => ?_
              refine st 9 (t_assign (o_t 70 rfl) rfl rfl) rfl rfl hL fun a s e_ hL => ?_
              refine en' ?_
              show K60 a s.w
              refine hK60 _ _ ?_
              obtain ⟨h71, h⟩ := h
              refine rg ?_
              refine st 55 (t_move (o_t 10 rfl) rfl rfl) rfl rfl hL fun a s e_ hL => ?_
              refine st 56 (t_add (o_t 55 rfl) (o_i (by decide)) h71 rfl rfl) rfl rfl hL fun a s e_ hL => ?_
              refine st 10 (t_assign (o_t 56 rfl) rfl rfl) rfl rfl hL fun a s e_ hL => ?_
              refine en' ?_
              exact hKL56 k55 a s (Nat.lt_succ_self _) ⟨(list50 ++ [r65]), (n52 + 1), (c53 + 1), og68, hL.keep (.cons (t := 1) rfl (fun _ h_ => h_.elim) (.cons (t := 4) rfl (fun _ _ h_ => h_) (.cons (t := 8) rfl (fun _ _ h_ => h_) (.cons (t := 9) rfl (fun _ h_ => h_.elim) (.cons (t := 10) rfl (fun _ h_ => h_.elim) .nil))))), (Dis.symm d69), h⟩
            · replace h := h.2 hb_
              refine wp_skip ?_
              show K60 a s.w
              refine hK60 _ _ ?_
              obtain ⟨h72, h⟩ := h
              refine rg ?_
              refine st 55 (t_move (o_t 10 rfl) rfl rfl) rfl rfl hL fun a s e_ hL => ?_
              refine st 56 (t_add (o_t 55 rfl) (o_i (by decide)) h72 rfl rfl) rfl rfl hL fun a s e_ hL => ?_
              refine st 10 (t_assign (o_t 56 rfl) rfl rfl) rfl rfl hL fun a s e_ hL => ?_
              refine en' ?_
              exact hKL56 k55 a s (Nat.lt_succ_self _) ⟨list50, n52, (c53 + 1), og51, hL.keep (.cons (t := 1) rfl (fun _ h_ => h_.elim) (.cons (t := 4) rfl (fun _ _ h_ => h_) (.cons (t := 8) rfl (fun _ _ h_ => h_) (.cons (t := 9) rfl (fun _ h_ => h_.elim) (.cons (t := 10) rfl (fun _ h_ => h_.elim) .nil))))), d57, h⟩
          · replace h := h.2 hb_
            refine wp_exit ?_
            exact J36 list50 n52 og51 a s (hL.keep (.cons (t := 4) rfl (fun _ _ h_ => h_) (.cons (t := 8) rfl (fun _ _ h_ => h_) (.cons (t := 9) rfl (fun _ h_ => h_.elim) .nil)))) d57 h
      refine cnd hL rfl (fun hb_ => ?_) (fun hb_ => ?_)
      · replace h := h.1 hb_
        refine rg ?_
        refine st 7 (t_assign (o_i (by decide)) rfl rfl) rfl rfl hL fun a s e_ hL => ?_
        refine en' ?_
        exact J23 1 a s (hL.keep (.cons (t := 1) rfl (fun _ h_ => h_.elim) (.cons (t := 4) rfl (fun _ _ h_ => h_) (.cons (t := 5) rfl (fun _ h_ => h_.elim) (.cons (t := 7) rfl (fun _ h_ => h_.elim) .nil))))) h
      · replace h := h.2 hb_
        refine wp_skip ?_
        exact J23 2 a s (hL.keep (.cons (t := 1) rfl (fun _ h_ => h_.elim) (.cons (t := 4) rfl (fun _ _ h_ => h_) (.cons (t := 5) rfl (fun _ h_ => h_.elim) (.cons (t := 7) rfl (fun _ h_ => h_.elim) .nil))))) h
    obtain ⟨k75, h⟩ := h
    refine lpg (fun k76 a s => ∃ (some73 : Int) (i74 : Int), Has N0 85 s0 a s [(1, (Pd.ptr En.cls a_)), (3, (Pd.rep (En.slice En.cls) r8)), (4, (Pd.box En.cls s0.w.heap.size g13 r11)), (5, (Pd.rep (En.int .i64) some73)), (6, (Pd.rep (En.int .i64) i74))] ∧ law02_SplitOne.l2 a_ r8 r11 r_ (law02_SplitOne.j4 a_ r_ r11) k76 some73 i74) k75 ⟨0, 0, hL.keep (.cons (t := 1) rfl (fun _ h_ => h_.elim) (.cons (t := 3) rfl (fun _ h_ => h_.elim) (.cons (t := 4) rfl (fun _ _ h_ => h_) (.cons (t := 5) rfl (fun _ h_ => h_.elim) (.cons (t := 6) rfl (fun _ h_ => h_.elim) .nil))))), h⟩ ?_
    rintro k76 a s ⟨some73, i74, hL, h⟩ KL77 hKL77
    cases k76 with
    | zero => exact h.elim
    | succ k76 =>
    unfold law02_SplitOne.l2 at h
    refine wp_seq_k fun K78 hK78 => ?_
    refine wp_seq_k fun K79 hK79 => ?_
    refine rg ?_
    refine st 18 (t_move (o_t 6 rfl) rfl rfl) rfl rfl hL fun a s e_ hL => ?_
    refine st 19 (t_move (o_t 3 rfl) rfl rfl) rfl rfl hL fun a s e_ hL => ?_
    refine st 20 (t_len (o_t 19 rfl) Try.underlying42 rfl rfl) rfl rfl hL fun a s e_ hL => ?_
    refine st 21 (t_lss (o_t 18 rfl) (o_t 20 rfl) rfl rfl) rfl rfl hL fun a s e_ hL => ?_
    refine en' ?_
    show K79 a s.w
    refine hK79 _ _ ?_
    refine cnd hL rfl (fun hb_ => ?_) (fun hb_ => ?_)
    · replace h := h.1 hb_
      refine wp_skip ?_
      show K78 a s.w
      refine hK78 _ _ ?_
      refine wp_seq_k fun K80 hK80 => ?_
      refine wp_block ?_
      refine wp_seq_k fun K81 hK81 => ?_
      refine wp_seq_k fun K82 hK82 => ?_
      obtain ⟨e83, h84, e85, h86, h⟩ := h
      refine rda follows 14 [(Pd.rep (En.slice En.cls) r8), (Pd.rep (En.int .i64) i74), (Pd.ptr En.cls e83), (Pd.rep En.cls e83), (Pd.rep En.cls a_), (Pd.rep En.bool (e83 != a_)), (Pd.rep En.bool (e83 != a_)), (Pd.when (((e83 != a_)) = true) (Pd.rep (En.slice En.cls) r8)), (Pd.when (((e83 != a_)) = true) (Pd.rep (En.int .i64) i74)), (Pd.when (((e83 != a_)) = true) (Pd.ptr En.cls e85)), (Pd.when (((e83 != a_)) = true) (Pd.rep En.cls e85)), (Pd.when (((e83 != a_)) = true) (Pd.rep En.cls r11)), (Pd.when (((e83 != a_)) = true) (Pd.rep En.bool (e85 != r11))), (Pd.rep En.bool ((e83 != a_) && (e85 != r11)))] hL (by kernel_rfl) rfl rfl ?_ ?_
      · refine AllT.cons (t_move (o_t 3 rfl) rfl rfl) ?_
        refine AllT.cons (t_move (o_t 6 rfl) rfl rfl) ?_
        refine AllT.cons (t_idx (o_t 24 rfl) (o_t 25 rfl) h84 Try.underlying42 ty24 rfl rfl) ?_
        refine AllT.cons (t_load ty24 (o_t 26 rfl) rfl rfl) ?_
        refine AllT.cons (t_load ty24 (o_t 1 rfl) rfl rfl) ?_
        refine AllT.cons (t_nev eq24 (o_t 27 rfl) (o_t 28 rfl) rfl rfl) ?_
        refine AllT.cons (t_move (o_t 29 rfl) rfl rfl) ?_
        refine AllT.cons (t_g1 rfl rfl rfl (fun hc_ => t_move (o_t 3 rfl) rfl rfl)) ?_
        refine AllT.cons (t_g1 rfl rfl rfl (fun hc_ => t_move (o_t 6 rfl) rfl rfl)) ?_
        refine AllT.cons (t_g1 rfl rfl rfl (fun hc_ => t_idx (o_w hc_ 31 rfl) (o_w hc_ 32 rfl) (h86 hc_) Try.underlying42 ty24 rfl rfl)) ?_
        refine AllT.cons (t_g1 rfl rfl rfl (fun hc_ => t_load ty24 (o_w hc_ 33 rfl) rfl rfl)) ?_
        refine AllT.cons (t_g1 rfl rfl rfl (fun hc_ => t_loadb ty24 (o_t 4 rfl) rfl rfl)) ?_
        refine AllT.cons (t_g1 rfl rfl rfl (fun hc_ => t_nev eq24 (o_w hc_ 34 rfl) (o_w hc_ 35 rfl) rfl rfl)) ?_
        refine AllT.cons (t_and (o_t 30 rfl) (fun hc2_ => (o_w hc2_ 36 rfl)) rfl rfl) ?_
        exact AllT.nil
      intro a s e_ hL
      refine en' ?_
      show K82 a s.w
      refine hK82 _ _ ?_
      refine cnd hL rfl (fun hb_ => ?_) (fun hb_ => ?_)
      · replace h := h.1 hb_
        refine wp_seq_k fun K87 hK87 => ?_
        refine rg ?_
        refine st 2 (t_assign o_b rfl rfl) rfl rfl hL fun a s e_ hL => ?_
        refine en' ?_
        show K87 a s.w
        refine hK87 _ _ ?_
        subst h
        exact wp_ret (retq rfl hL rfl)
      · replace h := h.2 hb_
        refine wp_skip ?_
        show K81 a s.w
        refine hK81 _ _ ?_
        obtain ⟨h88, h⟩ := h
        refine rg ?_
        refine st 38 (t_move (o_t 5 rfl) rfl rfl) rfl rfl hL fun a s e_ hL => ?_
        refine st 39 (t_add (o_t 38 rfl) (o_i (by decide)) h88 rfl rfl) rfl rfl hL fun a s e_ hL => ?_
        refine st 5 (t_assign (o_t 39 rfl) rfl rfl) rfl rfl hL fun a s e_ hL => ?_
        refine en' ?_
        show K80 a s.w
        refine hK80 _ _ ?_
        obtain ⟨h89, h⟩ := h
        refine rg ?_
        refine st 22 (t_move (o_t 6 rfl) rfl rfl) rfl rfl hL fun a s e_ hL => ?_
        refine st 23 (t_add (o_t 22 rfl) (o_i (by decide)) h89 rfl rfl) rfl rfl hL fun a s e_ hL => ?_
        refine st 6 (t_assign (o_t 23 rfl) rfl rfl) rfl rfl hL fun a s e_ hL => ?_
        refine en' ?_
        exact hKL77 k76 a s (Nat.lt_succ_self _) ⟨(some73 + 1), (i74 + 1), hL.keep (.cons (t := 1) rfl (fun _ h_ => h_.elim) (.cons (t := 3) rfl (fun _ h_ => h_.elim) (.cons (t := 4) rfl (fun _ _ h_ => h_) (.cons (t := 5) rfl (fun _ h_ => h_.elim) (.cons (t := 6) rfl (fun _ h_ => h_.elim) .nil))))), h⟩
    · replace h := h.2 hb_
      refine wp_exit ?_
      exact J18 some73 a s (hL.keep (.cons (t := 1) rfl (fun _ h_ => h_.elim) (.cons (t := 4) rfl (fun _ _ h_ => h_) (.cons (t := 5) rfl (fun _ h_ => h_.elim) .nil)))) h
end Go.Proofs.Ytkdbiiollbeoeaa.V
