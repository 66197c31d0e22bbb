/- The walks of the functions of layer 3 (by gen.py). -/
import Derived.Test.YtdfnbogkniikbaaDoorW00a
import Derived.Test.YtdfnbogkniikbaaDoorR03
namespace Go.Proofs.YtdfnbogkniikbaaDoor.V
open Go
set_option linter.unusedVariables false
set_option maxRecDepth 100000
theorem ref03_in_ok {s_ : Str} {i_ : Int} {from_ : Int} {to_ : Int} {r_ : Bool} (h : ref03_in s_ i_ from_ to_ r_) : Fn Tryd.prog 78 [(Pd.rep En.str s_), (Pd.rep (En.int .i64) i_), (Pd.rep (En.int .i64) from_), (Pd.rep (En.int .i64) to_)] (Rq (Pd.rep En.bool r_)) := by
  unfold ref03_in at h
  refine fn_of Tryd.func78 rfl Tryd.ntmps78 (by rfl) (by simp) fun s0 a hL => ?_
  refine wp_seq_k fun K1 hK1 => ?_
  refine rg ?_
  refine st 8 (t_assign o_b rfl rfl) rfl rfl hL fun a s e_ hL => ?_
  refine en' ?_
  show K1 a s.w
  refine hK1 _ _ ?_
  refine wp_seq_k fun K2 hK2 => ?_
  obtain ⟨c3, h4, b5, h6, c7, h8, h⟩ := h
  refine rg ?_
  refine st 9 (t_move (o_t 1 rfl) rfl rfl) rfl rfl hL fun a s e_ hL => ?_
  refine st 10 (t_move (o_t 0 rfl) rfl rfl) rfl rfl hL fun a s e_ hL => ?_
  refine st 11 (t_slen (o_t 10 rfl) Tryd.underlying9 rfl rfl) rfl rfl hL fun a s e_ hL => ?_
  refine st 12 (t_lss (o_t 9 rfl) (o_t 11 rfl) rfl rfl) rfl rfl hL fun a s e_ hL => ?_
  refine st 13 (t_move (o_t 12 rfl) rfl rfl) rfl rfl hL fun a s e_ hL => ?_
  refine st 14 (t_g1 rfl rfl rfl (fun hc_ => t_move (o_t 0 rfl) rfl rfl)) rfl rfl hL fun a s e_ hL => ?_
  refine st 15 (t_g1 rfl rfl rfl (fun hc_ => t_move (o_t 1 rfl) rfl rfl)) rfl rfl hL fun a s e_ hL => ?_
  refine st 16 (t_g1 rfl rfl rfl (fun hc_ => t_sidx (o_w hc_ 14 rfl) (o_w hc_ 15 rfl) (h4 hc_) Tryd.underlying9 rfl rfl)) rfl rfl hL fun a s e_ hL => ?_
  refine st 17 (t_g1 rfl rfl rfl (fun hc_ => t_up (o_w hc_ 16 rfl) (by decide) Tryd.underlying5 Tryd.underlying3 rfl rfl)) rfl rfl hL fun a s e_ hL => ?_
  refine st 18 (t_g1 rfl rfl rfl (fun hc_ => t_move (o_t 2 rfl) rfl rfl)) rfl rfl hL fun a s e_ hL => ?_
  refine st 19 (t_g1 rfl rfl rfl (fun hc_ => t_geq (o_w hc_ 17 rfl) (o_w hc_ 18 rfl) rfl rfl)) rfl rfl hL fun a s e_ hL => ?_
  refine st 20 (h6 ▸ (t_and (o_t 13 rfl) (fun hc2_ => (o_w hc2_ 19 rfl)) rfl rfl)) rfl rfl hL fun a s e_ hL => ?_
  refine st 21 (t_move (o_t 20 rfl) rfl rfl) rfl rfl hL fun a s e_ hL => ?_
  refine st 22 (t_g1 rfl rfl rfl (fun hc_ => t_move (o_t 0 rfl) rfl rfl)) rfl rfl hL fun a s e_ hL => ?_
  refine st 23 (t_g1 rfl rfl rfl (fun hc_ => t_move (o_t 1 rfl) rfl rfl)) rfl rfl hL fun a s e_ hL => ?_
  refine st 24 (t_g1 rfl rfl rfl (fun hc_ => t_sidx (o_w hc_ 22 rfl) (o_w hc_ 23 rfl) (h8 hc_) Tryd.underlying9 rfl rfl)) rfl rfl hL fun a s e_ hL => ?_
  refine st 25 (t_g1 rfl rfl rfl (fun hc_ => t_up (o_w hc_ 24 rfl) (by decide) Tryd.underlying5 Tryd.underlying3 rfl rfl)) rfl rfl hL fun a s e_ hL => ?_
  refine st 26 (t_g1 rfl rfl rfl (fun hc_ => t_move (o_t 3 rfl) rfl rfl)) rfl rfl hL fun a s e_ hL => ?_
  refine st 27 (t_g1 rfl rfl rfl (fun hc_ => t_leq (o_w hc_ 25 rfl) (o_w hc_ 26 rfl) rfl rfl)) rfl rfl hL fun a s e_ hL => ?_
  refine st 28 (t_and (o_t 21 rfl) (fun hc2_ => (o_w hc2_ 27 rfl)) rfl rfl) rfl rfl hL fun a s e_ hL => ?_
  refine st 8 (t_assign (o_t 28 rfl) rfl rfl) rfl rfl hL fun a s e_ hL => ?_
  refine en' ?_
  show K2 a s.w
  refine hK2 _ _ ?_
  subst h
  exact wp_ret (retq rfl hL rfl)

theorem ref03_Utf8_ok {s_ : Str} {r_ : Bool} (h : ref03_Utf8 s_ r_) : Fn Tryd.prog 73 [(Pd.rep En.str s_)] (Rq (Pd.rep En.bool r_)) := by
  unfold ref03_Utf8 at h
  refine fn_of Tryd.func73 rfl Tryd.ntmps73 (by rfl) (by simp) fun s0 a hL => ?_
  refine wp_seq_k fun K1 hK1 => ?_
  refine rg ?_
  refine st 2 (t_assign o_b rfl rfl) rfl rfl hL fun a s e_ hL => ?_
  refine en' ?_
  show K1 a s.w
  refine hK1 _ _ ?_
  refine wp_seq_k fun K2 hK2 => ?_
  refine rg ?_
  refine st 3 (t_assign (o_i (by decide)) rfl rfl) rfl rfl hL fun a s e_ hL => ?_
  refine en' ?_
  show K2 a s.w
  refine hK2 _ _ ?_
  refine wp_seq_k fun K3 hK3 => ?_
  refine wp_block ?_
  have J4 : ∀ (a : Act) (s : St), Has N0 148 s0 a s [] → ((ref03_Utf8.j1 r_)) → K3 a s.w := by
    intro a s hL h
    unfold ref03_Utf8.j1 at h
    show K3 a s.w
    refine hK3 _ _ ?_
    refine wp_seq_k fun K5 hK5 => ?_
    refine rg ?_
    refine st 2 (t_assign o_b rfl rfl) rfl rfl hL fun a s e_ hL => ?_
    refine en' ?_
    show K5 a s.w
    refine hK5 _ _ ?_
    subst h
    exact wp_ret (retq rfl hL rfl)
  obtain ⟨k7, h⟩ := h
  refine lpg (fun k8 a s => ∃ (i6 : Int), Has N0 148 s0 a s [(0, (Pd.rep En.str s_)), (3, (Pd.rep (En.int .i64) i6))] ∧ ref03_Utf8.l1 s_ r_ (ref03_Utf8.j1 r_) k8 i6) k7 ⟨0, hL.keep (.cons (t := 0) rfl (fun _ h_ => h_.elim) (.cons (t := 3) rfl (fun _ h_ => h_.elim) .nil)), h⟩ ?_
  rintro k8 a s ⟨i6, hL, h⟩ KL9 hKL9
  cases k8 with
  | zero => exact h.elim
  | succ k8 =>
  unfold ref03_Utf8.l1 at h
  refine wp_seq_k fun K10 hK10 => ?_
  refine wp_seq_k fun K11 hK11 => ?_
  refine rg ?_
  refine st 8 (t_move (o_t 3 rfl) rfl rfl) rfl rfl hL fun a s e_ hL => ?_
  refine st 9 (t_move (o_t 0 rfl) rfl rfl) rfl rfl hL fun a s e_ hL => ?_
  refine st 10 (t_slen (o_t 9 rfl) Tryd.underlying9 rfl rfl) rfl rfl hL fun a s e_ hL => ?_
  refine st 11 (t_lss (o_t 8 rfl) (o_t 10 rfl) rfl rfl) rfl rfl hL fun a s e_ hL => ?_
  refine en' ?_
  show K11 a s.w
  refine hK11 _ _ ?_
  refine cnd hL rfl (fun hb_ => ?_) (fun hb_ => ?_)
  · replace h := h.1 hb_
    refine wp_skip ?_
    show K10 a s.w
    refine hK10 _ _ ?_
    refine wp_block ?_
    refine wp_seq_k fun K12 hK12 => ?_
    obtain ⟨c13, h14, h⟩ := h
    refine rg ?_
    refine st 12 (t_move (o_t 0 rfl) rfl rfl) rfl rfl hL fun a s e_ hL => ?_
    refine st 13 (t_move (o_t 3 rfl) rfl rfl) rfl rfl hL fun a s e_ hL => ?_
    refine st 14 (t_sidx (o_t 12 rfl) (o_t 13 rfl) h14 Tryd.underlying9 rfl rfl) rfl rfl hL fun a s e_ hL => ?_
    refine st 15 (t_up (o_t 14 rfl) (by decide) Tryd.underlying5 Tryd.underlying3 rfl rfl) rfl rfl hL fun a s e_ hL => ?_
    refine st 4 (t_assign (o_t 15 rfl) rfl rfl) rfl rfl hL fun a s e_ hL => ?_
    refine en' ?_
    show K12 a s.w
    refine hK12 _ _ ?_
    refine wp_seq_k fun K15 hK15 => ?_
    obtain ⟨h16, r17, h18, h⟩ := h
    refine rg ?_
    refine st 16 (t_move (o_t 0 rfl) rfl rfl) rfl rfl hL fun a s e_ hL => ?_
    refine st 17 (t_move (o_t 3 rfl) rfl rfl) rfl rfl hL fun a s e_ hL => ?_
    refine st 18 (t_add (o_t 17 rfl) (o_i (by decide)) h16 rfl rfl) rfl rfl hL fun a s e_ hL => ?_
    refine st 19 (t_call (ref03_in_ok h18) (xs := [.tmp 16, .tmp 18, .const (.int .i64 128), .const (.int .i64 191)]) (.cons (o_t 16 rfl) (.cons (o_t 18 rfl) (.cons (o_i (by decide)) (.cons (o_i (by decide)) .nil)))) rfl rfl) rfl rfl hL fun a s e_ hL => ?_
    refine st 5 (t_assign (o_t 19 rfl) rfl rfl) rfl rfl hL fun a s e_ hL => ?_
    refine en' ?_
    show K15 a s.w
    refine hK15 _ _ ?_
    refine wp_seq_k fun K19 hK19 => ?_
    obtain ⟨h20, r21, h22, h⟩ := h
    refine rg ?_
    refine st 20 (t_move (o_t 0 rfl) rfl rfl) rfl rfl hL fun a s e_ hL => ?_
    refine st 21 (t_move (o_t 3 rfl) rfl rfl) rfl rfl hL fun a s e_ hL => ?_
    refine st 22 (t_add (o_t 21 rfl) (o_i (by decide)) h20 rfl rfl) rfl rfl hL fun a s e_ hL => ?_
    refine st 23 (t_call (ref03_in_ok h22) (xs := [.tmp 20, .tmp 22, .const (.int .i64 128), .const (.int .i64 191)]) (.cons (o_t 20 rfl) (.cons (o_t 22 rfl) (.cons (o_i (by decide)) (.cons (o_i (by decide)) .nil)))) rfl rfl) rfl rfl hL fun a s e_ hL => ?_
    refine st 6 (t_assign (o_t 23 rfl) rfl rfl) rfl rfl hL fun a s e_ hL => ?_
    refine en' ?_
    show K19 a s.w
    refine hK19 _ _ ?_
    refine wp_seq_k fun K23 hK23 => ?_
    obtain ⟨h24, r25, h26, h⟩ := h
    refine rg ?_
    refine st 24 (t_move (o_t 0 rfl) rfl rfl) rfl rfl hL fun a s e_ hL => ?_
    refine st 25 (t_move (o_t 3 rfl) rfl rfl) rfl rfl hL fun a s e_ hL => ?_
    refine st 26 (t_add (o_t 25 rfl) (o_i (by decide)) h24 rfl rfl) rfl rfl hL fun a s e_ hL => ?_
    refine st 27 (t_call (ref03_in_ok h26) (xs := [.tmp 24, .tmp 26, .const (.int .i64 128), .const (.int .i64 191)]) (.cons (o_t 24 rfl) (.cons (o_t 26 rfl) (.cons (o_i (by decide)) (.cons (o_i (by decide)) .nil)))) rfl rfl) rfl rfl hL fun a s e_ hL => ?_
    refine st 7 (t_assign (o_t 27 rfl) rfl rfl) rfl rfl hL fun a s e_ hL => ?_
    refine en' ?_
    show K23 a s.w
    refine hK23 _ _ ?_
    refine wp_block ?_
    refine wp_seq_k fun K27 hK27 => ?_
    refine rg ?_
    refine st 29 (t_move (o_t 4 rfl) rfl rfl) rfl rfl hL fun a s e_ hL => ?_
    refine st 30 (t_lss (o_t 29 rfl) (o_i (by decide)) rfl rfl) rfl rfl hL fun a s e_ hL => ?_
    refine st 28 (t_assign (o_t 30 rfl) rfl rfl) rfl rfl hL fun a s e_ hL => ?_
    refine en' ?_
    show K27 a s.w
    refine hK27 _ _ ?_
    refine cnd hL rfl (fun hb_ => ?_) (fun hb_ => ?_)
    · replace h := h.1 hb_
      obtain ⟨h28, h⟩ := h
      refine rg ?_
      refine st 31 (t_move (o_t 3 rfl) rfl rfl) rfl rfl hL fun a s e_ hL => ?_
      refine st 32 (t_add (o_t 31 rfl) (o_i (by decide)) h28 rfl rfl) rfl rfl hL fun a s e_ hL => ?_
      refine st 3 (t_assign (o_t 32 rfl) rfl rfl) rfl rfl hL fun a s e_ hL => ?_
      refine en' ?_
      exact hKL9 k8 a s (Nat.lt_succ_self _) ⟨(i6 + 1), hL.keep (.cons (t := 0) rfl (fun _ h_ => h_.elim) (.cons (t := 3) rfl (fun _ h_ => h_.elim) .nil)), h⟩
    · replace h := h.2 hb_
      refine wp_seq_k fun K29 hK29 => ?_
      obtain ⟨b30, h31, h⟩ := h
      refine rg ?_
      refine st 34 (t_move (o_t 4 rfl) rfl rfl) rfl rfl hL fun a s e_ hL => ?_
      refine st 35 (t_geq (o_t 34 rfl) (o_i (by decide)) rfl rfl) rfl rfl hL fun a s e_ hL => ?_
      refine st 36 (t_move (o_t 35 rfl) rfl rfl) rfl rfl hL fun a s e_ hL => ?_
      refine st 37 (t_g1 rfl rfl rfl (fun hc_ => t_move (o_t 4 rfl) rfl rfl)) rfl rfl hL fun a s e_ hL => ?_
      refine st 38 (t_g1 rfl rfl rfl (fun hc_ => t_leq (o_w hc_ 37 rfl) (o_i (by decide)) rfl rfl)) rfl rfl hL fun a s e_ hL => ?_
      refine st 39 (t_and (o_t 36 rfl) (fun hc2_ => (o_w hc2_ 38 rfl)) rfl rfl) rfl rfl hL fun a s e_ hL => ?_
      refine st 40 (t_move (o_t 39 rfl) rfl rfl) rfl rfl hL fun a s e_ hL => ?_
      refine st 41 (t_g1 rfl rfl rfl (fun hc_ => t_move (o_t 5 rfl) rfl rfl)) rfl rfl hL fun a s e_ hL => ?_
      refine st 42 (h31 ▸ (t_and (o_t 40 rfl) (fun hc2_ => (o_w hc2_ 41 rfl)) rfl rfl)) rfl rfl hL fun a s e_ hL => ?_
      refine st 33 (t_assign (o_t 42 rfl) rfl rfl) rfl rfl hL fun a s e_ hL => ?_
      refine en' ?_
      show K29 a s.w
      refine hK29 _ _ ?_
      refine cnd hL rfl (fun hb_ => ?_) (fun hb_ => ?_)
      · replace h := h.1 hb_
        obtain ⟨h32, h⟩ := h
        refine rg ?_
        refine st 43 (t_move (o_t 3 rfl) rfl rfl) rfl rfl hL fun a s e_ hL => ?_
        refine st 44 (t_add (o_t 43 rfl) (o_i (by decide)) h32 rfl rfl) rfl rfl hL fun a s e_ hL => ?_
        refine st 3 (t_assign (o_t 44 rfl) rfl rfl) rfl rfl hL fun a s e_ hL => ?_
        refine en' ?_
        exact hKL9 k8 a s (Nat.lt_succ_self _) ⟨(i6 + 2), hL.keep (.cons (t := 0) rfl (fun _ h_ => h_.elim) (.cons (t := 3) rfl (fun _ h_ => h_.elim) .nil)), h⟩
      · replace h := h.2 hb_
        refine wp_seq_k fun K33 hK33 => ?_
        obtain ⟨h34, r35, h36, h⟩ := h
        refine rg ?_
        refine st 46 (t_move (o_t 4 rfl) rfl rfl) rfl rfl hL fun a s e_ hL => ?_
        refine st 47 (t_eqi (o_t 46 rfl) (o_i (by decide)) rfl rfl) rfl rfl hL fun a s e_ hL => ?_
        refine st 48 (t_move (o_t 47 rfl) rfl rfl) rfl rfl hL fun a s e_ hL => ?_
        refine st 49 (t_g1 rfl rfl rfl (fun hc_ => t_move (o_t 0 rfl) rfl rfl)) rfl rfl hL fun a s e_ hL => ?_
        refine st 50 (t_g1 rfl rfl rfl (fun hc_ => t_move (o_t 3 rfl) rfl rfl)) rfl rfl hL fun a s e_ hL => ?_
        refine st 51 (t_g1 rfl rfl rfl (fun hc_ => t_add (o_w hc_ 50 rfl) (o_i (by decide)) (h34 hc_) rfl rfl)) rfl rfl hL fun a s e_ hL => ?_
        refine st 52 (t_g1 rfl rfl rfl (fun hc_ => t_call (ref03_in_ok (h36 hc_)) (xs := [.tmp 49, .tmp 51, .const (.int .i64 160), .const (.int .i64 191)]) (.cons (o_w hc_ 49 rfl) (.cons (o_w hc_ 51 rfl) (.cons (o_i (by decide)) (.cons (o_i (by decide)) .nil)))) rfl rfl)) rfl rfl hL fun a s e_ hL => ?_
        refine st 53 (t_and (o_t 48 rfl) (fun hc2_ => (o_w hc2_ 52 rfl)) rfl rfl) rfl rfl hL fun a s e_ hL => ?_
        refine st 54 (t_move (o_t 53 rfl) rfl rfl) rfl rfl hL fun a s e_ hL => ?_
        refine st 55 (t_g1 rfl rfl rfl (fun hc_ => t_move (o_t 6 rfl) rfl rfl)) rfl rfl hL fun a s e_ hL => ?_
        refine st 56 (t_and (o_t 54 rfl) (fun hc2_ => (o_w hc2_ 55 rfl)) rfl rfl) rfl rfl hL fun a s e_ hL => ?_
        refine st 45 (t_assign (o_t 56 rfl) rfl rfl) rfl rfl hL fun a s e_ hL => ?_
        refine en' ?_
        show K33 a s.w
        refine hK33 _ _ ?_
        refine cnd hL rfl (fun hb_ => ?_) (fun hb_ => ?_)
        · replace h := h.1 hb_
          obtain ⟨h37, h⟩ := h
          refine rg ?_
          refine st 57 (t_move (o_t 3 rfl) rfl rfl) rfl rfl hL fun a s e_ hL => ?_
          refine st 58 (t_add (o_t 57 rfl) (o_i (by decide)) h37 rfl rfl) rfl rfl hL fun a s e_ hL => ?_
          refine st 3 (t_assign (o_t 58 rfl) rfl rfl) rfl rfl hL fun a s e_ hL => ?_
          refine en' ?_
          exact hKL9 k8 a s (Nat.lt_succ_self _) ⟨(i6 + 3), hL.keep (.cons (t := 0) rfl (fun _ h_ => h_.elim) (.cons (t := 3) rfl (fun _ h_ => h_.elim) .nil)), h⟩
        · replace h := h.2 hb_
          refine wp_seq_k fun K38 hK38 => ?_
          obtain ⟨b39, h40, h⟩ := h
          refine rg ?_
          refine st 60 (t_move (o_t 4 rfl) rfl rfl) rfl rfl hL fun a s e_ hL => ?_
          refine st 61 (t_geq (o_t 60 rfl) (o_i (by decide)) rfl rfl) rfl rfl hL fun a s e_ hL => ?_
          refine st 62 (t_move (o_t 61 rfl) rfl rfl) rfl rfl hL fun a s e_ hL => ?_
          refine st 63 (t_g1 rfl rfl rfl (fun hc_ => t_move (o_t 4 rfl) rfl rfl)) rfl rfl hL fun a s e_ hL => ?_
          refine st 64 (t_g1 rfl rfl rfl (fun hc_ => t_leq (o_w hc_ 63 rfl) (o_i (by decide)) rfl rfl)) rfl rfl hL fun a s e_ hL => ?_
          refine st 65 (t_and (o_t 62 rfl) (fun hc2_ => (o_w hc2_ 64 rfl)) rfl rfl) rfl rfl hL fun a s e_ hL => ?_
          refine st 66 (t_move (o_t 65 rfl) rfl rfl) rfl rfl hL fun a s e_ hL => ?_
          refine st 67 (t_g1 rfl rfl rfl (fun hc_ => t_move (o_t 4 rfl) rfl rfl)) rfl rfl hL fun a s e_ hL => ?_
          refine st 68 (t_g1 rfl rfl rfl (fun hc_ => t_eqi (o_w hc_ 67 rfl) (o_i (by decide)) rfl rfl)) rfl rfl hL fun a s e_ hL => ?_
          refine st 69 (h40 ▸ (t_or (o_t 66 rfl) (fun hc2_ => (o_w hc2_ 68 rfl)) rfl rfl)) rfl rfl hL fun a s e_ hL => ?_
          refine st 70 (t_move (o_t 69 rfl) rfl rfl) rfl rfl hL fun a s e_ hL => ?_
          refine st 71 (t_g1 rfl rfl rfl (fun hc_ => t_move (o_t 4 rfl) rfl rfl)) rfl rfl hL fun a s e_ hL => ?_
          refine st 72 (t_g1 rfl rfl rfl (fun hc_ => t_eqi (o_w hc_ 71 rfl) (o_i (by decide)) rfl rfl)) rfl rfl hL fun a s e_ hL => ?_
          refine st 73 (t_or (o_t 70 rfl) (fun hc2_ => (o_w hc2_ 72 rfl)) rfl rfl) rfl rfl hL fun a s e_ hL => ?_
          refine st 74 (t_move (o_t 73 rfl) rfl rfl) rfl rfl hL fun a s e_ hL => ?_
          refine st 75 (t_g1 rfl rfl rfl (fun hc_ => t_move (o_t 5 rfl) rfl rfl)) rfl rfl hL fun a s e_ hL => ?_
          refine st 76 (t_and (o_t 74 rfl) (fun hc2_ => (o_w hc2_ 75 rfl)) rfl rfl) rfl rfl hL fun a s e_ hL => ?_
          refine st 77 (t_move (o_t 76 rfl) rfl rfl) rfl rfl hL fun a s e_ hL => ?_
          refine st 78 (t_g1 rfl rfl rfl (fun hc_ => t_move (o_t 6 rfl) rfl rfl)) rfl rfl hL fun a s e_ hL => ?_
          refine st 79 (t_and (o_t 77 rfl) (fun hc2_ => (o_w hc2_ 78 rfl)) rfl rfl) rfl rfl hL fun a s e_ hL => ?_
          refine st 59 (t_assign (o_t 79 rfl) rfl rfl) rfl rfl hL fun a s e_ hL => ?_
          refine en' ?_
          show K38 a s.w
          refine hK38 _ _ ?_
          refine cnd hL rfl (fun hb_ => ?_) (fun hb_ => ?_)
          · replace h := h.1 hb_
            obtain ⟨h41, h⟩ := h
            refine rg ?_
            refine st 80 (t_move (o_t 3 rfl) rfl rfl) rfl rfl hL fun a s e_ hL => ?_
            refine st 81 (t_add (o_t 80 rfl) (o_i (by decide)) h41 rfl rfl) rfl rfl hL fun a s e_ hL => ?_
            refine st 3 (t_assign (o_t 81 rfl) rfl rfl) rfl rfl hL fun a s e_ hL => ?_
            refine en' ?_
            exact hKL9 k8 a s (Nat.lt_succ_self _) ⟨(i6 + 3), hL.keep (.cons (t := 0) rfl (fun _ h_ => h_.elim) (.cons (t := 3) rfl (fun _ h_ => h_.elim) .nil)), h⟩
          · replace h := h.2 hb_
            refine wp_seq_k fun K42 hK42 => ?_
            obtain ⟨h43, r44, h45, h⟩ := h
            refine rg ?_
            refine st 83 (t_move (o_t 4 rfl) rfl rfl) rfl rfl hL fun a s e_ hL => ?_
            refine st 84 (t_eqi (o_t 83 rfl) (o_i (by decide)) rfl rfl) rfl rfl hL fun a s e_ hL => ?_
            refine st 85 (t_move (o_t 84 rfl) rfl rfl) rfl rfl hL fun a s e_ hL => ?_
            refine st 86 (t_g1 rfl rfl rfl (fun hc_ => t_move (o_t 0 rfl) rfl rfl)) rfl rfl hL fun a s e_ hL => ?_
            refine st 87 (t_g1 rfl rfl rfl (fun hc_ => t_move (o_t 3 rfl) rfl rfl)) rfl rfl hL fun a s e_ hL => ?_
            refine st 88 (t_g1 rfl rfl rfl (fun hc_ => t_add (o_w hc_ 87 rfl) (o_i (by decide)) (h43 hc_) rfl rfl)) rfl rfl hL fun a s e_ hL => ?_
            refine st 89 (t_g1 rfl rfl rfl (fun hc_ => t_call (ref03_in_ok (h45 hc_)) (xs := [.tmp 86, .tmp 88, .const (.int .i64 128), .const (.int .i64 159)]) (.cons (o_w hc_ 86 rfl) (.cons (o_w hc_ 88 rfl) (.cons (o_i (by decide)) (.cons (o_i (by decide)) .nil)))) rfl rfl)) rfl rfl hL fun a s e_ hL => ?_
            refine st 90 (t_and (o_t 85 rfl) (fun hc2_ => (o_w hc2_ 89 rfl)) rfl rfl) rfl rfl hL fun a s e_ hL => ?_
            refine st 91 (t_move (o_t 90 rfl) rfl rfl) rfl rfl hL fun a s e_ hL => ?_
            refine st 92 (t_g1 rfl rfl rfl (fun hc_ => t_move (o_t 6 rfl) rfl rfl)) rfl rfl hL fun a s e_ hL => ?_
            refine st 93 (t_and (o_t 91 rfl) (fun hc2_ => (o_w hc2_ 92 rfl)) rfl rfl) rfl rfl hL fun a s e_ hL => ?_
            refine st 82 (t_assign (o_t 93 rfl) rfl rfl) rfl rfl hL fun a s e_ hL => ?_
            refine en' ?_
            show K42 a s.w
            refine hK42 _ _ ?_
            refine cnd hL rfl (fun hb_ => ?_) (fun hb_ => ?_)
            · replace h := h.1 hb_
              obtain ⟨h46, h⟩ := h
              refine rg ?_
              refine st 94 (t_move (o_t 3 rfl) rfl rfl) rfl rfl hL fun a s e_ hL => ?_
              refine st 95 (t_add (o_t 94 rfl) (o_i (by decide)) h46 rfl rfl) rfl rfl hL fun a s e_ hL => ?_
              refine st 3 (t_assign (o_t 95 rfl) rfl rfl) rfl rfl hL fun a s e_ hL => ?_
              refine en' ?_
              exact hKL9 k8 a s (Nat.lt_succ_self _) ⟨(i6 + 3), hL.keep (.cons (t := 0) rfl (fun _ h_ => h_.elim) (.cons (t := 3) rfl (fun _ h_ => h_.elim) .nil)), h⟩
            · replace h := h.2 hb_
              refine wp_seq_k fun K47 hK47 => ?_
              obtain ⟨h48, r49, h50, h⟩ := h
              refine rg ?_
              refine st 97 (t_move (o_t 4 rfl) rfl rfl) rfl rfl hL fun a s e_ hL => ?_
              refine st 98 (t_eqi (o_t 97 rfl) (o_i (by decide)) rfl rfl) rfl rfl hL fun a s e_ hL => ?_
              refine st 99 (t_move (o_t 98 rfl) rfl rfl) rfl rfl hL fun a s e_ hL => ?_
              refine st 100 (t_g1 rfl rfl rfl (fun hc_ => t_move (o_t 0 rfl) rfl rfl)) rfl rfl hL fun a s e_ hL => ?_
              refine st 101 (t_g1 rfl rfl rfl (fun hc_ => t_move (o_t 3 rfl) rfl rfl)) rfl rfl hL fun a s e_ hL => ?_
              refine st 102 (t_g1 rfl rfl rfl (fun hc_ => t_add (o_w hc_ 101 rfl) (o_i (by decide)) (h48 hc_) rfl rfl)) rfl rfl hL fun a s e_ hL => ?_
              refine st 103 (t_g1 rfl rfl rfl (fun hc_ => t_call (ref03_in_ok (h50 hc_)) (xs := [.tmp 100, .tmp 102, .const (.int .i64 144), .const (.int .i64 191)]) (.cons (o_w hc_ 100 rfl) (.cons (o_w hc_ 102 rfl) (.cons (o_i (by decide)) (.cons (o_i (by decide)) .nil)))) rfl rfl)) rfl rfl hL fun a s e_ hL => ?_
              refine st 104 (t_and (o_t 99 rfl) (fun hc2_ => (o_w hc2_ 103 rfl)) rfl rfl) rfl rfl hL fun a s e_ hL => ?_
              refine st 105 (t_move (o_t 104 rfl) rfl rfl) rfl rfl hL fun a s e_ hL => ?_
              refine st 106 (t_g1 rfl rfl rfl (fun hc_ => t_move (o_t 6 rfl) rfl rfl)) rfl rfl hL fun a s e_ hL => ?_
              refine st 107 (t_and (o_t 105 rfl) (fun hc2_ => (o_w hc2_ 106 rfl)) rfl rfl) rfl rfl hL fun a s e_ hL => ?_
              refine st 108 (t_move (o_t 107 rfl) rfl rfl) rfl rfl hL fun a s e_ hL => ?_
              refine st 109 (t_g1 rfl rfl rfl (fun hc_ => t_move (o_t 7 rfl) rfl rfl)) rfl rfl hL fun a s e_ hL => ?_
              refine st 110 (t_and (o_t 108 rfl) (fun hc2_ => (o_w hc2_ 109 rfl)) rfl rfl) rfl rfl hL fun a s e_ hL => ?_
              refine st 96 (t_assign (o_t 110 rfl) rfl rfl) rfl rfl hL fun a s e_ hL => ?_
              refine en' ?_
              show K47 a s.w
              refine hK47 _ _ ?_
              refine cnd hL rfl (fun hb_ => ?_) (fun hb_ => ?_)
              · replace h := h.1 hb_
                obtain ⟨h51, h⟩ := h
                refine rg ?_
                refine st 111 (t_move (o_t 3 rfl) rfl rfl) rfl rfl hL fun a s e_ hL => ?_
                refine st 112 (t_add (o_t 111 rfl) (o_i (by decide)) h51 rfl rfl) rfl rfl hL fun a s e_ hL => ?_
                refine st 3 (t_assign (o_t 112 rfl) rfl rfl) rfl rfl hL fun a s e_ hL => ?_
                refine en' ?_
                exact hKL9 k8 a s (Nat.lt_succ_self _) ⟨(i6 + 4), hL.keep (.cons (t := 0) rfl (fun _ h_ => h_.elim) (.cons (t := 3) rfl (fun _ h_ => h_.elim) .nil)), h⟩
              · replace h := h.2 hb_
                refine wp_seq_k fun K52 hK52 => ?_
                obtain ⟨b53, h54, h⟩ := h
                refine rg ?_
                refine st 114 (t_move (o_t 4 rfl) rfl rfl) rfl rfl hL fun a s e_ hL => ?_
                refine st 115 (t_geq (o_t 114 rfl) (o_i (by decide)) rfl rfl) rfl rfl hL fun a s e_ hL => ?_
                refine st 116 (t_move (o_t 115 rfl) rfl rfl) rfl rfl hL fun a s e_ hL => ?_
                refine st 117 (t_g1 rfl rfl rfl (fun hc_ => t_move (o_t 4 rfl) rfl rfl)) rfl rfl hL fun a s e_ hL => ?_
                refine st 118 (t_g1 rfl rfl rfl (fun hc_ => t_leq (o_w hc_ 117 rfl) (o_i (by decide)) rfl rfl)) rfl rfl hL fun a s e_ hL => ?_
                refine st 119 (t_and (o_t 116 rfl) (fun hc2_ => (o_w hc2_ 118 rfl)) rfl rfl) rfl rfl hL fun a s e_ hL => ?_
                refine st 120 (t_move (o_t 119 rfl) rfl rfl) rfl rfl hL fun a s e_ hL => ?_
                refine st 121 (t_g1 rfl rfl rfl (fun hc_ => t_move (o_t 5 rfl) rfl rfl)) rfl rfl hL fun a s e_ hL => ?_
                refine st 122 (h54 ▸ (t_and (o_t 120 rfl) (fun hc2_ => (o_w hc2_ 121 rfl)) rfl rfl)) rfl rfl hL fun a s e_ hL => ?_
                refine st 123 (t_move (o_t 122 rfl) rfl rfl) rfl rfl hL fun a s e_ hL => ?_
                refine st 124 (t_g1 rfl rfl rfl (fun hc_ => t_move (o_t 6 rfl) rfl rfl)) rfl rfl hL fun a s e_ hL => ?_
                refine st 125 (t_and (o_t 123 rfl) (fun hc2_ => (o_w hc2_ 124 rfl)) rfl rfl) rfl rfl hL fun a s e_ hL => ?_
                refine st 126 (t_move (o_t 125 rfl) rfl rfl) rfl rfl hL fun a s e_ hL => ?_
                refine st 127 (t_g1 rfl rfl rfl (fun hc_ => t_move (o_t 7 rfl) rfl rfl)) rfl rfl hL fun a s e_ hL => ?_
                refine st 128 (t_and (o_t 126 rfl) (fun hc2_ => (o_w hc2_ 127 rfl)) rfl rfl) rfl rfl hL fun a s e_ hL => ?_
                refine st 113 (t_assign (o_t 128 rfl) rfl rfl) rfl rfl hL fun a s e_ hL => ?_
                refine en' ?_
                show K52 a s.w
                refine hK52 _ _ ?_
                refine cnd hL rfl (fun hb_ => ?_) (fun hb_ => ?_)
                · replace h := h.1 hb_
                  obtain ⟨h55, h⟩ := h
                  refine rg ?_
                  refine st 129 (t_move (o_t 3 rfl) rfl rfl) rfl rfl hL fun a s e_ hL => ?_
                  refine st 130 (t_add (o_t 129 rfl) (o_i (by decide)) h55 rfl rfl) rfl rfl hL fun a s e_ hL => ?_
                  refine st 3 (t_assign (o_t 130 rfl) rfl rfl) rfl rfl hL fun a s e_ hL => ?_
                  refine en' ?_
                  exact hKL9 k8 a s (Nat.lt_succ_self _) ⟨(i6 + 4), hL.keep (.cons (t := 0) rfl (fun _ h_ => h_.elim) (.cons (t := 3) rfl (fun _ h_ => h_.elim) .nil)), h⟩
                · replace h := h.2 hb_
                  refine wp_seq_k fun K56 hK56 => ?_
                  obtain ⟨h57, r58, h59, h⟩ := h
                  refine rg ?_
                  refine st 132 (t_move (o_t 4 rfl) rfl rfl) rfl rfl hL fun a s e_ hL => ?_
                  refine st 133 (t_eqi (o_t 132 rfl) (o_i (by decide)) rfl rfl) rfl rfl hL fun a s e_ hL => ?_
                  refine st 134 (t_move (o_t 133 rfl) rfl rfl) rfl rfl hL fun a s e_ hL => ?_
                  refine st 135 (t_g1 rfl rfl rfl (fun hc_ => t_move (o_t 0 rfl) rfl rfl)) rfl rfl hL fun a s e_ hL => ?_
                  refine st 136 (t_g1 rfl rfl rfl (fun hc_ => t_move (o_t 3 rfl) rfl rfl)) rfl rfl hL fun a s e_ hL => ?_
                  refine st 137 (t_g1 rfl rfl rfl (fun hc_ => t_add (o_w hc_ 136 rfl) (o_i (by decide)) (h57 hc_) rfl rfl)) rfl rfl hL fun a s e_ hL => ?_
                  refine st 138 (t_g1 rfl rfl rfl (fun hc_ => t_call (ref03_in_ok (h59 hc_)) (xs := [.tmp 135, .tmp 137, .const (.int .i64 128), .const (.int .i64 143)]) (.cons (o_w hc_ 135 rfl) (.cons (o_w hc_ 137 rfl) (.cons (o_i (by decide)) (.cons (o_i (by decide)) .nil)))) rfl rfl)) rfl rfl hL fun a s e_ hL => ?_
                  refine st 139 (t_and (o_t 134 rfl) (fun hc2_ => (o_w hc2_ 138 rfl)) rfl rfl) rfl rfl hL fun a s e_ hL => ?_
                  refine st 140 (t_move (o_t 139 rfl) rfl rfl) rfl rfl hL fun a s e_ hL => ?_
                  refine st 141 (t_g1 rfl rfl rfl (fun hc_ => t_move (o_t 6 rfl) rfl rfl)) rfl rfl hL fun a s e_ hL => ?_
                  refine st 142 (t_and (o_t 140 rfl) (fun hc2_ => (o_w hc2_ 141 rfl)) rfl rfl) rfl rfl hL fun a s e_ hL => ?_
                  refine st 143 (t_move (o_t 142 rfl) rfl rfl) rfl rfl hL fun a s e_ hL => ?_
                  refine st 144 (t_g1 rfl rfl rfl (fun hc_ => t_move (o_t 7 rfl) rfl rfl)) rfl rfl hL fun a s e_ hL => ?_
                  refine st 145 (t_and (o_t 143 rfl) (fun hc2_ => (o_w hc2_ 144 rfl)) rfl rfl) rfl rfl hL fun a s e_ hL => ?_
                  refine st 131 (t_assign (o_t 145 rfl) rfl rfl) rfl rfl hL fun a s e_ hL => ?_
                  refine en' ?_
                  show K56 a s.w
                  refine hK56 _ _ ?_
                  refine cnd hL rfl (fun hb_ => ?_) (fun hb_ => ?_)
                  · replace h := h.1 hb_
                    obtain ⟨h60, h⟩ := h
                    refine rg ?_
                    refine st 146 (t_move (o_t 3 rfl) rfl rfl) rfl rfl hL fun a s e_ hL => ?_
                    refine st 147 (t_add (o_t 146 rfl) (o_i (by decide)) h60 rfl rfl) rfl rfl hL fun a s e_ hL => ?_
                    refine st 3 (t_assign (o_t 147 rfl) rfl rfl) rfl rfl hL fun a s e_ hL => ?_
                    refine en' ?_
                    exact hKL9 k8 a s (Nat.lt_succ_self _) ⟨(i6 + 4), hL.keep (.cons (t := 0) rfl (fun _ h_ => h_.elim) (.cons (t := 3) rfl (fun _ h_ => h_.elim) .nil)), h⟩
                  · replace h := h.2 hb_
                    refine wp_seq_k fun K61 hK61 => ?_
                    refine rg ?_
                    refine st 2 (t_assign o_b rfl rfl) rfl rfl hL fun a s e_ hL => ?_
                    refine en' ?_
                    show K61 a s.w
                    refine hK61 _ _ ?_
                    subst h
                    exact wp_ret (retq rfl hL rfl)
  · replace h := h.2 hb_
    refine wp_exit ?_
    exact J4 a s (hL.keep .nil) h
end Go.Proofs.YtdfnbogkniikbaaDoor.V
