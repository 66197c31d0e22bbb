/- The walks of the functions of layer 13 (by gen.py). -/
import Derived.Test.YtdfnbogkniikbaaDoorW13a
import Derived.Test.YtdfnbogkniikbaaDoorR13
namespace Go.Proofs.YtdfnbogkniikbaaDoor.V
open Go
set_option linter.unusedVariables false
set_option maxRecDepth 100000
theorem law13_ItemLowers_ok {d_ : SDesc} {s_ : (List SItem)} {r_ : Bool} (h : law13_ItemLowers d_ s_ r_) : Fn Tryd.prog 5 [(Pd.rep En.SDesc d_), (Pd.rep (En.slice En.SItem) s_)] (Rq (Pd.rep En.bool r_)) := by
  unfold law13_ItemLowers at h
  refine fn_of Tryd.func5 rfl Tryd.ntmps5 (by rfl) (by simp) fun s0 a hL => ?_
  refine wp_seq_k fun K1 hK1 => ?_
  refine rg ?_
  refine st 2 (t_box (o_t 0 rfl) rfl rfl) rfl rfl hL fun a s e_ hL => ?_
  refine st 4 (t_assign o_b rfl rfl) rfl rfl hL fun a s e_ hL => ?_
  refine en' ?_
  show K1 a s.w
  refine hK1 _ _ ?_
  refine wp_seq_k fun K2 hK2 => ?_
  refine wp_seq_k fun K3 hK3 => ?_
  obtain ⟨r4, h5, r6, h7, r8, h9, b10, h11, r12, h13, h⟩ := h
  refine rg ?_
  refine st 16 (t_call (law13_awake_ok h5) (xs := []) .nil rfl rfl) rfl rfl hL fun a s e_ hL => ?_
  refine st 17 (t_not (o_t 16 rfl) rfl rfl) rfl rfl hL fun a s e_ hL => ?_
  refine st 18 (t_move (o_t 17 rfl) rfl rfl) rfl rfl hL fun a s e_ hL => ?_
  refine st 19 (t_g1 rfl rfl rfl (fun hc_ => t_load ty24 (o_t 2 rfl) rfl rfl)) rfl rfl hL fun a s e_ hL => ?_
  refine st 20 (t_g1 rfl rfl rfl (fun hc_ => t_call (ref04_Few_ok (h7 hc_)) (xs := [.tmp 19]) (.cons (o_w hc_ 19 rfl) .nil) rfl rfl)) rfl rfl hL fun a s e_ hL => ?_
  refine st 21 (t_g1 rfl rfl rfl (fun hc_ => t_not (o_w hc_ 20 rfl) rfl rfl)) rfl rfl hL fun a s e_ hL => ?_
  refine st 22 (t_or (o_t 18 rfl) (fun hc2_ => (o_w hc2_ 21 rfl)) rfl rfl) rfl rfl hL fun a s e_ hL => ?_
  refine st 23 (t_move (o_t 22 rfl) rfl rfl) rfl rfl hL fun a s e_ hL => ?_
  refine st 24 (t_g1 rfl rfl rfl (fun hc_ => t_load ty24 (o_t 2 rfl) rfl rfl)) rfl rfl hL fun a s e_ hL => ?_
  refine st 25 (t_g1 rfl rfl rfl (fun hc_ => t_call (ref08_Right_ok (h9 hc_)) (xs := [.tmp 24]) (.cons (o_w hc_ 24 rfl) .nil) rfl rfl)) rfl rfl hL fun a s e_ hL => ?_
  refine st 26 (t_g1 rfl rfl rfl (fun hc_ => t_not (o_w hc_ 25 rfl) rfl rfl)) rfl rfl hL fun a s e_ hL => ?_
  refine st 27 (t_or (o_t 23 rfl) (fun hc2_ => (o_w hc2_ 26 rfl)) rfl rfl) rfl rfl hL fun a s e_ hL => ?_
  refine st 28 (t_move (o_t 27 rfl) rfl rfl) rfl rfl hL fun a s e_ hL => ?_
  refine st 29 (t_g1 rfl rfl rfl (fun hc_ => t_move (o_t 1 rfl) rfl rfl)) rfl rfl hL fun a s e_ hL => ?_
  refine st 30 (t_g1 rfl rfl rfl (fun hc_ => t_len (o_w hc_ 29 rfl) Tryd.underlying26 rfl rfl)) rfl rfl hL fun a s e_ hL => ?_
  refine st 31 (t_g1 rfl rfl rfl (fun hc_ => t_gtr (o_w hc_ 30 rfl) (o_i (by decide)) rfl rfl)) rfl rfl hL fun a s e_ hL => ?_
  refine st 32 (h11 ▸ (t_or (o_t 28 rfl) (fun hc2_ => (o_w hc2_ 31 rfl)) rfl rfl)) rfl rfl hL fun a s e_ hL => ?_
  refine st 33 (t_move (o_t 32 rfl) rfl rfl) rfl rfl hL fun a s e_ hL => ?_
  refine st 34 (t_g1 rfl rfl rfl (fun hc_ => t_load ty24 (o_t 2 rfl) rfl rfl)) rfl rfl hL fun a s e_ hL => ?_
  refine st 35 (t_g1 rfl rfl rfl (fun hc_ => t_move (o_t 1 rfl) rfl rfl)) rfl rfl hL fun a s e_ hL => ?_
  refine st 36 (t_g1 rfl rfl rfl (fun hc_ => t_call (ref13_Form_ok (h13 hc_)) (xs := [.tmp 34, .tmp 35]) (.cons (o_w hc_ 34 rfl) (.cons (o_w hc_ 35 rfl) .nil)) rfl rfl)) rfl rfl hL fun a s e_ hL => ?_
  refine st 37 (t_g1 rfl rfl rfl (fun hc_ => t_not (o_w hc_ 36 rfl) rfl rfl)) rfl rfl hL fun a s e_ hL => ?_
  refine st 38 (t_or (o_t 33 rfl) (fun hc2_ => (o_w hc2_ 37 rfl)) rfl rfl) rfl rfl hL fun a s e_ hL => ?_
  refine en' ?_
  show K3 a s.w
  refine hK3 _ _ ?_
  refine cnd hL rfl (fun hb_ => ?_) (fun hb_ => ?_)
  · replace h := h.1 hb_
    refine wp_seq_k fun K14 hK14 => ?_
    obtain ⟨r15, h16, h⟩ := h
    refine rg ?_
    refine st 39 (t_call (law13_awake_ok h16) (xs := []) .nil rfl rfl) rfl rfl hL fun a s e_ hL => ?_
    refine st 4 (t_assign (o_t 39 rfl) rfl rfl) rfl rfl hL fun a s e_ hL => ?_
    refine en' ?_
    show K14 a s.w
    refine hK14 _ _ ?_
    subst h
    exact wp_ret (retq rfl hL rfl)
  · replace h := h.2 hb_
    refine wp_skip ?_
    show K2 a s.w
    refine hK2 _ _ ?_
    refine wp_seq_k fun K17 hK17 => ?_
    refine rg ?_
    refine st 5 (t_assign (o_i (by decide)) rfl rfl) rfl rfl hL fun a s e_ hL => ?_
    refine en' ?_
    show K17 a s.w
    refine hK17 _ _ ?_
    refine wp_seq_k fun K18 hK18 => ?_
    refine wp_seq_k fun K19 hK19 => ?_
    refine rg ?_
    refine st 6 (t_assign (o_i (by decide)) rfl rfl) rfl rfl hL fun a s e_ hL => ?_
    refine en' ?_
    show K19 a s.w
    refine hK19 _ _ ?_
    refine wp_block ?_
    have J21 : ∀ (nearest20 : Int) (a : Act) (s : St), Has N0 151 s0 a s [(1, (Pd.rep (En.slice En.SItem) s_)), (2, (Pd.ptr En.SDesc d_)), (5, (Pd.rep (En.int .i64) nearest20))] → ((law13_ItemLowers.j4 d_ s_ r_) nearest20) → K18 a s.w := by
      intro nearest20 a s hL h
      unfold law13_ItemLowers.j4 at h
      show K18 a s.w
      refine hK18 _ _ ?_
      refine wp_seq_k fun K22 hK22 => ?_
      obtain ⟨r23, h24, h⟩ := h
      refine rg ?_
      refine st 71 (t_move (o_t 1 rfl) rfl rfl) rfl rfl hL fun a s e_ hL => ?_
      refine st 72 (t_call (((item_Lower_ok h24).frz2 (Pd.rep_stable _ _)).tup) (xs := [.tmp 71]) (.cons (o_t 71 rfl) .nil) rfl rfl) rfl rfl hL fun a s e_ hL => ?_
      refine st 70 (t_move (o_t 72 rfl) rfl rfl) rfl rfl hL fun a s e_ hL => ?_
      refine st 73 (t_ext0 (o_t 70 rfl) rfl rfl) rfl rfl hL fun a s e_ hL => ?_
      refine st 74 (t_ext1 (o_t 70 rfl) rfl rfl) rfl rfl hL fun a s e_ hL => ?_
      refine st 7 (t_assign (o_t 73 rfl) rfl rfl) rfl rfl hL fun a s e_ hL => ?_
      refine st 8 (t_assign (o_t 74 rfl) rfl rfl) rfl rfl hL fun a s e_ hL => ?_
      refine en' ?_
      show K22 a s.w
      refine hK22 _ _ ?_
      refine wp_seq_k fun K25 hK25 => ?_
      refine wp_seq_k fun K26 hK26 => ?_
      refine rg ?_
      refine st 75 (t_move (o_t 8 rfl) rfl rfl) rfl rfl hL fun a s e_ hL => ?_
      refine st 76 (t_move (o_t 5 rfl) rfl rfl) rfl rfl hL fun a s e_ hL => ?_
      refine st 77 (t_nei (o_t 76 rfl) (o_i (by decide)) rfl rfl) rfl rfl hL fun a s e_ hL => ?_
      refine st 78 (t_neb (o_t 75 rfl) (o_t 77 rfl) Tryd.underlying4 rfl rfl) rfl rfl hL fun a s e_ hL => ?_
      refine en' ?_
      show K26 a s.w
      refine hK26 _ _ ?_
      refine cnd hL rfl (fun hb_ => ?_) (fun hb_ => ?_)
      · replace h := h.1 hb_
        refine wp_seq_k fun K27 hK27 => ?_
        refine rg ?_
        refine st 4 (t_assign o_b rfl rfl) rfl rfl hL fun a s e_ hL => ?_
        refine en' ?_
        show K27 a s.w
        refine hK27 _ _ ?_
        subst h
        exact wp_ret (retq rfl hL rfl)
      · replace h := h.2 hb_
        refine wp_skip ?_
        show K25 a s.w
        refine hK25 _ _ ?_
        refine wp_seq_k fun K28 hK28 => ?_
        refine wp_seq_k fun K29 hK29 => ?_
        refine rg ?_
        refine st 79 (t_move (o_t 8 rfl) rfl rfl) rfl rfl hL fun a s e_ hL => ?_
        refine st 80 (t_not (o_t 79 rfl) rfl rfl) rfl rfl hL fun a s e_ hL => ?_
        refine en' ?_
        show K29 a s.w
        refine hK29 _ _ ?_
        refine cnd hL rfl (fun hb_ => ?_) (fun hb_ => ?_)
        · replace h := h.1 hb_
          refine wp_seq_k fun K30 hK30 => ?_
          refine rg ?_
          refine st 81 (t_move (o_t 7 rfl) rfl rfl) rfl rfl hL fun a s e_ hL => ?_
          refine st 82 (t_len (o_t 81 rfl) Tryd.underlying26 rfl rfl) rfl rfl hL fun a s e_ hL => ?_
          refine st 83 (t_eqi (o_t 82 rfl) (o_i (by decide)) rfl rfl) rfl rfl hL fun a s e_ hL => ?_
          refine st 4 (t_assign (o_t 83 rfl) rfl rfl) rfl rfl hL fun a s e_ hL => ?_
          refine en' ?_
          show K30 a s.w
          refine hK30 _ _ ?_
          subst h
          exact wp_ret (retq rfl hL rfl)
        · replace h := h.2 hb_
          refine wp_skip ?_
          show K28 a s.w
          refine hK28 _ _ ?_
          refine wp_seq_k fun K31 hK31 => ?_
          refine wp_seq_k fun K32 hK32 => ?_
          obtain ⟨r33, h34, b35, h36, h⟩ := h
          refine rg ?_
          refine st 84 (t_move (o_t 7 rfl) rfl rfl) rfl rfl hL fun a s e_ hL => ?_
          refine st 85 (t_len (o_t 84 rfl) Tryd.underlying26 rfl rfl) rfl rfl hL fun a s e_ hL => ?_
          refine st 86 (t_move (o_t 1 rfl) rfl rfl) rfl rfl hL fun a s e_ hL => ?_
          refine st 87 (t_len (o_t 86 rfl) Tryd.underlying26 rfl rfl) rfl rfl hL fun a s e_ hL => ?_
          refine st 88 (t_nei (o_t 85 rfl) (o_t 87 rfl) rfl rfl) rfl rfl hL fun a s e_ hL => ?_
          refine st 89 (t_move (o_t 88 rfl) rfl rfl) rfl rfl hL fun a s e_ hL => ?_
          refine st 90 (t_g1 rfl rfl rfl (fun hc_ => t_load ty24 (o_t 2 rfl) rfl rfl)) rfl rfl hL fun a s e_ hL => ?_
          refine st 91 (t_g1 rfl rfl rfl (fun hc_ => t_move (o_t 7 rfl) rfl rfl)) rfl rfl hL fun a s e_ hL => ?_
          refine st 92 (t_g1 rfl rfl rfl (fun hc_ => t_call (item_Form_ok (h34 hc_)) (xs := [.tmp 90, .tmp 91]) (.cons (o_w hc_ 90 rfl) (.cons (o_w hc_ 91 rfl) .nil)) rfl rfl)) rfl rfl hL fun a s e_ hL => ?_
          refine st 93 (t_g1 rfl rfl rfl (fun hc_ => t_not (o_w hc_ 92 rfl) rfl rfl)) rfl rfl hL fun a s e_ hL => ?_
          refine st 94 (h36 ▸ (t_or (o_t 89 rfl) (fun hc2_ => (o_w hc2_ 93 rfl)) rfl rfl)) rfl rfl hL fun a s e_ hL => ?_
          refine en' ?_
          show K32 a s.w
          refine hK32 _ _ ?_
          refine cnd hL rfl (fun hb_ => ?_) (fun hb_ => ?_)
          · replace h := h.1 hb_
            refine wp_seq_k fun K37 hK37 => ?_
            refine rg ?_
            refine st 4 (t_assign o_b rfl rfl) rfl rfl hL fun a s e_ hL => ?_
            refine en' ?_
            show K37 a s.w
            refine hK37 _ _ ?_
            subst h
            exact wp_ret (retq rfl hL rfl)
          · replace h := h.2 hb_
            refine wp_skip ?_
            show K31 a s.w
            refine hK31 _ _ ?_
            refine wp_seq_k fun K38 hK38 => ?_
            refine wp_seq_k fun K39 hK39 => ?_
            refine rg ?_
            refine st 9 (t_assign (o_i (by decide)) rfl rfl) rfl rfl hL fun a s e_ hL => ?_
            refine en' ?_
            show K39 a s.w
            refine hK39 _ _ ?_
            refine wp_block ?_
            have J40 : ∀ (a : Act) (s : St), Has N0 151 s0 a s [(1, (Pd.rep (En.slice En.SItem) s_)), (5, (Pd.rep (En.int .i64) nearest20)), (7, (Pd.rep (En.slice En.SItem) r23.1))] → ((law13_ItemLowers.j2 s_ r_ nearest20 r23)) → K38 a s.w := by
              intro a s hL h
              unfold law13_ItemLowers.j2 at h
              show K38 a s.w
              refine hK38 _ _ ?_
              refine wp_seq_k fun K41 hK41 => ?_
              refine wp_seq_k fun K42 hK42 => ?_
              refine rg ?_
              refine st 118 (t_move (o_t 5 rfl) rfl rfl) rfl rfl hL fun a s e_ hL => ?_
              refine st 119 (t_lss (o_t 118 rfl) (o_i (by decide)) rfl rfl) rfl rfl hL fun a s e_ hL => ?_
              refine en' ?_
              show K42 a s.w
              refine hK42 _ _ ?_
              refine cnd hL rfl (fun hb_ => ?_) (fun hb_ => ?_)
              · replace h := h.1 hb_
                refine wp_seq_k fun K43 hK43 => ?_
                obtain ⟨r44, h45, h⟩ := h
                refine rg ?_
                refine st 120 (t_move (o_t 7 rfl) rfl rfl) rfl rfl hL fun a s e_ hL => ?_
                refine st 121 (t_move (o_t 1 rfl) rfl rfl) rfl rfl hL fun a s e_ hL => ?_
                refine st 122 (t_call (ref13_Same_ok h45) (xs := [.tmp 120, .tmp 121]) (.cons (o_t 120 rfl) (.cons (o_t 121 rfl) .nil)) rfl rfl) rfl rfl hL fun a s e_ hL => ?_
                refine st 4 (t_assign (o_t 122 rfl) rfl rfl) rfl rfl hL fun a s e_ hL => ?_
                refine en' ?_
                show K43 a s.w
                refine hK43 _ _ ?_
                subst h
                exact wp_ret (retq rfl hL rfl)
              · replace h := h.2 hb_
                refine wp_skip ?_
                show K41 a s.w
                refine hK41 _ _ ?_
                refine wp_seq_k fun K46 hK46 => ?_
                refine wp_seq_k fun K47 hK47 => ?_
                refine rg ?_
                refine st 11 (t_assign (o_i (by decide)) rfl rfl) rfl rfl hL fun a s e_ hL => ?_
                refine en' ?_
                show K47 a s.w
                refine hK47 _ _ ?_
                refine wp_block ?_
                have J49 : ∀ (a48 : (List SItem)) (a : Act) (s : St), Has N0 151 s0 a s [(5, (Pd.rep (En.int .i64) nearest20)), (7, (Pd.rep (En.slice En.SItem) a48))] → ((law13_ItemLowers.j1 r_ nearest20) a48) → K46 a s.w := by
                  intro a48 a s hL h
                  unfold law13_ItemLowers.j1 at h
                  show K46 a s.w
                  refine hK46 _ _ ?_
                  refine wp_seq_k fun K50 hK50 => ?_
                  obtain ⟨r51, h52, h⟩ := h
                  refine rg ?_
                  refine st 141 (t_move (o_t 7 rfl) rfl rfl) rfl rfl hL fun a s e_ hL => ?_
                  refine st 142 (t_call (((item_Lower_ok h52).frz2 (Pd.rep_stable _ _)).tup) (xs := [.tmp 141]) (.cons (o_t 141 rfl) .nil) rfl rfl) rfl rfl hL fun a s e_ hL => ?_
                  refine st 140 (t_move (o_t 142 rfl) rfl rfl) rfl rfl hL fun a s e_ hL => ?_
                  refine st 143 (t_ext0 (o_t 140 rfl) rfl rfl) rfl rfl hL fun a s e_ hL => ?_
                  refine st 144 (t_ext1 (o_t 140 rfl) rfl rfl) rfl rfl hL fun a s e_ hL => ?_
                  refine st 14 (t_assign (o_t 143 rfl) rfl rfl) rfl rfl hL fun a s e_ hL => ?_
                  refine st 15 (t_assign (o_t 144 rfl) rfl rfl) rfl rfl hL fun a s e_ hL => ?_
                  refine en' ?_
                  show K50 a s.w
                  refine hK50 _ _ ?_
                  refine wp_seq_k fun K53 hK53 => ?_
                  refine rg ?_
                  refine st 145 (t_move (o_t 15 rfl) rfl rfl) rfl rfl hL fun a s e_ hL => ?_
                  refine st 146 (t_not (o_t 145 rfl) rfl rfl) rfl rfl hL fun a s e_ hL => ?_
                  refine st 147 (t_move (o_t 146 rfl) rfl rfl) rfl rfl hL fun a s e_ hL => ?_
                  refine st 148 (t_g1 rfl rfl rfl (fun hc_ => t_move (o_t 5 rfl) rfl rfl)) rfl rfl hL fun a s e_ hL => ?_
                  refine st 149 (t_g1 rfl rfl rfl (fun hc_ => t_gtr (o_w hc_ 148 rfl) (o_i (by decide)) rfl rfl)) rfl rfl hL fun a s e_ hL => ?_
                  refine st 150 (t_or (o_t 147 rfl) (fun hc2_ => (o_w hc2_ 149 rfl)) rfl rfl) rfl rfl hL fun a s e_ hL => ?_
                  refine st 4 (t_assign (o_t 150 rfl) rfl rfl) rfl rfl hL fun a s e_ hL => ?_
                  refine en' ?_
                  show K53 a s.w
                  refine hK53 _ _ ?_
                  subst h
                  exact wp_ret (retq rfl hL rfl)
                obtain ⟨k56, h⟩ := h
                refine lpg (fun k57 a s => ∃ (a54 : (List SItem)) (n55 : Int), Has N0 151 s0 a s [(5, (Pd.rep (En.int .i64) nearest20)), (7, (Pd.rep (En.slice En.SItem) a54)), (11, (Pd.rep (En.int .i64) n55))] ∧ law13_ItemLowers.l1 nearest20 r_ (law13_ItemLowers.j1 r_ nearest20) k57 a54 n55) k56 ⟨r23.1, 1, hL.keep (.cons (t := 5) rfl (fun _ h_ => h_.elim) (.cons (t := 7) rfl (fun _ h_ => h_.elim) (.cons (t := 11) rfl (fun _ h_ => h_.elim) .nil))), h⟩ ?_
                rintro k57 a s ⟨a54, n55, hL, h⟩ KL58 hKL58
                cases k57 with
                | zero => exact h.elim
                | succ k57 =>
                unfold law13_ItemLowers.l1 at h
                refine wp_seq_k fun K59 hK59 => ?_
                refine wp_seq_k fun K60 hK60 => ?_
                obtain ⟨b61, h62, h⟩ := h
                refine rg ?_
                refine st 123 (t_move (o_t 11 rfl) rfl rfl) rfl rfl hL fun a s e_ hL => ?_
                refine st 124 (t_move (o_t 5 rfl) rfl rfl) rfl rfl hL fun a s e_ hL => ?_
                refine st 125 (t_lss (o_t 123 rfl) (o_t 124 rfl) rfl rfl) rfl rfl hL fun a s e_ hL => ?_
                refine st 126 (t_move (o_t 125 rfl) rfl rfl) rfl rfl hL fun a s e_ hL => ?_
                refine st 127 (t_g1 rfl rfl rfl (fun hc_ => t_move (o_t 11 rfl) rfl rfl)) rfl rfl hL fun a s e_ hL => ?_
                refine st 128 (t_g1 rfl rfl rfl (fun hc_ => t_lss (o_w hc_ 127 rfl) (o_i (by decide)) rfl rfl)) rfl rfl hL fun a s e_ hL => ?_
                refine st 129 (h62 ▸ (t_and (o_t 126 rfl) (fun hc2_ => (o_w hc2_ 128 rfl)) rfl rfl)) rfl rfl hL fun a s e_ hL => ?_
                refine en' ?_
                show K60 a s.w
                refine hK60 _ _ ?_
                refine cnd hL rfl (fun hb_ => ?_) (fun hb_ => ?_)
                · replace h := h.1 hb_
                  refine wp_skip ?_
                  show K59 a s.w
                  refine hK59 _ _ ?_
                  refine wp_seq_k fun K63 hK63 => ?_
                  refine wp_block ?_
                  refine wp_seq_k fun K64 hK64 => ?_
                  obtain ⟨r65, h66, h⟩ := h
                  refine rg ?_
                  refine st 133 (t_move (o_t 7 rfl) rfl rfl) rfl rfl hL fun a s e_ hL => ?_
                  refine st 134 (t_call (((item_Lower_ok h66).frz2 (Pd.rep_stable _ _)).tup) (xs := [.tmp 133]) (.cons (o_t 133 rfl) .nil) rfl rfl) rfl rfl hL fun a s e_ hL => ?_
                  refine st 132 (t_move (o_t 134 rfl) rfl rfl) rfl rfl hL fun a s e_ hL => ?_
                  refine st 135 (t_ext0 (o_t 132 rfl) rfl rfl) rfl rfl hL fun a s e_ hL => ?_
                  refine st 136 (t_ext1 (o_t 132 rfl) rfl rfl) rfl rfl hL fun a s e_ hL => ?_
                  refine st 12 (t_assign (o_t 135 rfl) rfl rfl) rfl rfl hL fun a s e_ hL => ?_
                  refine st 13 (t_assign (o_t 136 rfl) rfl rfl) rfl rfl hL fun a s e_ hL => ?_
                  refine en' ?_
                  show K64 a s.w
                  refine hK64 _ _ ?_
                  refine wp_seq_k fun K67 hK67 => ?_
                  refine wp_seq_k fun K68 hK68 => ?_
                  refine rg ?_
                  refine st 137 (t_move (o_t 13 rfl) rfl rfl) rfl rfl hL fun a s e_ hL => ?_
                  refine st 138 (t_not (o_t 137 rfl) rfl rfl) rfl rfl hL fun a s e_ hL => ?_
                  refine en' ?_
                  show K68 a s.w
                  refine hK68 _ _ ?_
                  refine cnd hL rfl (fun hb_ => ?_) (fun hb_ => ?_)
                  · replace h := h.1 hb_
                    refine wp_seq_k fun K69 hK69 => ?_
                    refine rg ?_
                    refine st 4 (t_assign o_b rfl rfl) rfl rfl hL fun a s e_ hL => ?_
                    refine en' ?_
                    show K69 a s.w
                    refine hK69 _ _ ?_
                    subst h
                    exact wp_ret (retq rfl hL rfl)
                  · replace h := h.2 hb_
                    refine wp_skip ?_
                    show K67 a s.w
                    refine hK67 _ _ ?_
                    refine rg ?_
                    refine st 139 (t_move (o_t 12 rfl) rfl rfl) rfl rfl hL fun a s e_ hL => ?_
                    refine st 7 (t_assign (o_t 139 rfl) rfl rfl) rfl rfl hL fun a s e_ hL => ?_
                    refine en' ?_
                    show K63 a s.w
                    refine hK63 _ _ ?_
                    obtain ⟨h70, h⟩ := h
                    refine rg ?_
                    refine st 130 (t_move (o_t 11 rfl) rfl rfl) rfl rfl hL fun a s e_ hL => ?_
                    refine st 131 (t_add (o_t 130 rfl) (o_i (by decide)) h70 rfl rfl) rfl rfl hL fun a s e_ hL => ?_
                    refine st 11 (t_assign (o_t 131 rfl) rfl rfl) rfl rfl hL fun a s e_ hL => ?_
                    refine en' ?_
                    exact hKL58 k57 a s (Nat.lt_succ_self _) ⟨r65.1, (n55 + 1), hL.keep (.cons (t := 5) rfl (fun _ h_ => h_.elim) (.cons (t := 7) rfl (fun _ h_ => h_.elim) (.cons (t := 11) rfl (fun _ h_ => h_.elim) .nil))), h⟩
                · replace h := h.2 hb_
                  refine wp_exit ?_
                  exact J49 a54 a s (hL.keep (.cons (t := 5) rfl (fun _ h_ => h_.elim) (.cons (t := 7) rfl (fun _ h_ => h_.elim) .nil))) h
            obtain ⟨k72, h⟩ := h
            refine lpg (fun k73 a s => ∃ (i71 : Int), Has N0 151 s0 a s [(1, (Pd.rep (En.slice En.SItem) s_)), (5, (Pd.rep (En.int .i64) nearest20)), (7, (Pd.rep (En.slice En.SItem) r23.1)), (9, (Pd.rep (En.int .i64) i71))] ∧ law13_ItemLowers.l2 s_ r23 r_ (law13_ItemLowers.j2 s_ r_ nearest20 r23) k73 i71) k72 ⟨0, hL.keep (.cons (t := 1) rfl (fun _ h_ => h_.elim) (.cons (t := 5) rfl (fun _ h_ => h_.elim) (.cons (t := 7) rfl (fun _ h_ => h_.elim) (.cons (t := 9) rfl (fun _ h_ => h_.elim) .nil)))), h⟩ ?_
            rintro k73 a s ⟨i71, hL, h⟩ KL74 hKL74
            cases k73 with
            | zero => exact h.elim
            | succ k73 =>
            unfold law13_ItemLowers.l2 at h
            refine wp_seq_k fun K75 hK75 => ?_
            refine wp_seq_k fun K76 hK76 => ?_
            refine rg ?_
            refine st 95 (t_move (o_t 9 rfl) rfl rfl) rfl rfl hL fun a s e_ hL => ?_
            refine st 96 (t_move (o_t 1 rfl) rfl rfl) rfl rfl hL fun a s e_ hL => ?_
            refine st 97 (t_len (o_t 96 rfl) Tryd.underlying26 rfl rfl) rfl rfl hL fun a s e_ hL => ?_
            refine st 98 (t_lss (o_t 95 rfl) (o_t 97 rfl) rfl rfl) rfl rfl hL fun a s e_ hL => ?_
            refine en' ?_
            show K76 a s.w
            refine hK76 _ _ ?_
            refine cnd hL rfl (fun hb_ => ?_) (fun hb_ => ?_)
            · replace h := h.1 hb_
              refine wp_skip ?_
              show K75 a s.w
              refine hK75 _ _ ?_
              refine wp_seq_k fun K77 hK77 => ?_
              refine wp_block ?_
              refine wp_seq_k fun K78 hK78 => ?_
              obtain ⟨e79, h80, h⟩ := h
              refine rg ?_
              refine st 101 (t_move (o_t 7 rfl) rfl rfl) rfl rfl hL fun a s e_ hL => ?_
              refine st 102 (t_move (o_t 9 rfl) rfl rfl) rfl rfl hL fun a s e_ hL => ?_
              refine st 103 (t_idx (o_t 101 rfl) (o_t 102 rfl) h80 Tryd.underlying26 ty36 rfl rfl) rfl rfl hL fun a s e_ hL => ?_
              refine st 104 (t_load ty36 (o_t 103 rfl) rfl rfl) rfl rfl hL fun a s e_ hL => ?_
              refine st_alloc En.SItem (z := (0, 0, 0, 0)) 10 hL tyz36 rfl rfl rfl rfl fun a s g81 hg_ hL => ?_
              refine st_stb (L' := [(1, (Pd.rep (En.slice En.SItem) s_)), (5, (Pd.rep (En.int .i64) nearest20)), (7, (Pd.rep (En.slice En.SItem) r23.1)), (9, (Pd.rep (En.int .i64) i71))]) 10 hL rfl (o_t 104 rfl) ty36 rfl rfl rfl (.cons (t := 1) rfl (fun _ h_ => h_.elim) (.cons (t := 5) rfl (fun _ h_ => h_.elim) (.cons (t := 7) rfl (fun _ h_ => h_.elim) (.cons (t := 9) rfl (fun _ h_ => h_.elim) .nil)))) fun s hL => ?_
              refine en' ?_
              show K78 a s.w
              refine hK78 _ _ ?_
              refine wp_seq_k fun K82 hK82 => ?_
              refine wp_seq_k fun K83 hK83 => ?_
              refine rg ?_
              refine st 105 (t_fab (off := 0) (o_t 10 rfl) Tryd.underlying36 rfl (prt_fst (prt_all _ _)) rfl ty3 rfl rfl) rfl rfl hL fun a s e_ hL => ?_
              refine st 106 (t_loado ty3 (o_t 105 rfl) rfl rfl) rfl rfl hL fun a s e_ hL => ?_
              refine st 107 (t_eqi (o_t 106 rfl) (o_i (by decide)) rfl rfl) rfl rfl hL fun a s e_ hL => ?_
              refine en' ?_
              show K83 a s.w
              refine hK83 _ _ ?_
              have J85 : ∀ (x84 : SItem) (a : Act) (s : St), Has N0 151 s0 a s [(1, (Pd.rep (En.slice En.SItem) s_)), (5, (Pd.rep (En.int .i64) nearest20)), (7, (Pd.rep (En.slice En.SItem) r23.1)), (9, (Pd.rep (En.int .i64) i71)), (10, (Pd.box En.SItem s0.w.heap.size g81 x84))] → ((law13_ItemLowers.j3 (law13_ItemLowers.l2 s_ r23 r_ (law13_ItemLowers.j2 s_ r_ nearest20 r23) k73) s_ r_ i71) x84) → K82 a s.w := by
                intro x84 a s hL h
                unfold law13_ItemLowers.j3 at h
                show K82 a s.w
                refine hK82 _ _ ?_
                refine wp_seq_k fun K86 hK86 => ?_
                obtain ⟨e87, h88, h⟩ := h
                refine rda follows 6 [(Pd.rep En.SItem x84), (Pd.rep (En.slice En.SItem) s_), (Pd.rep (En.int .i64) i71), (Pd.ptr En.SItem e87), (Pd.rep En.SItem e87), (Pd.rep En.bool (x84 != e87))] hL (by kernel_rfl) rfl rfl ?_ ?_
                · refine AllT.cons (t_loadb ty36 (o_t 10 rfl) rfl rfl) ?_
                  refine AllT.cons (t_move (o_t 1 rfl) rfl rfl) ?_
                  refine AllT.cons (t_move (o_t 9 rfl) rfl rfl) ?_
                  refine AllT.cons (t_idx (o_t 113 rfl) (o_t 114 rfl) h88 Tryd.underlying26 ty36 rfl rfl) ?_
                  refine AllT.cons (t_load ty36 (o_t 115 rfl) rfl rfl) ?_
                  refine AllT.cons (t_nev eq36 (o_t 112 rfl) (o_t 116 rfl) rfl rfl) ?_
                  exact AllT.nil
                intro a s e_ hL
                refine en' ?_
                show K86 a s.w
                refine hK86 _ _ ?_
                refine cnd hL rfl (fun hb_ => ?_) (fun hb_ => ?_)
                · replace h := h.1 hb_
                  refine wp_seq_k fun K89 hK89 => ?_
                  refine rg ?_
                  refine st 4 (t_assign o_b rfl rfl) rfl rfl hL fun a s e_ hL => ?_
                  refine en' ?_
                  show K89 a s.w
                  refine hK89 _ _ ?_
                  subst h
                  exact wp_ret (retq rfl hL rfl)
                · replace h := h.2 hb_
                  refine wp_skip ?_
                  show K77 a s.w
                  refine hK77 _ _ ?_
                  obtain ⟨h90, h⟩ := h
                  refine rg ?_
                  refine st 99 (t_move (o_t 9 rfl) rfl rfl) rfl rfl hL fun a s e_ hL => ?_
                  refine st 100 (t_add (o_t 99 rfl) (o_i (by decide)) h90 rfl rfl) rfl rfl hL fun a s e_ hL => ?_
                  refine st 9 (t_assign (o_t 100 rfl) rfl rfl) rfl rfl hL fun a s e_ hL => ?_
                  refine en' ?_
                  exact hKL74 k73 a s (Nat.lt_succ_self _) ⟨(i71 + 1), hL.keep (.cons (t := 1) rfl (fun _ h_ => h_.elim) (.cons (t := 5) rfl (fun _ h_ => h_.elim) (.cons (t := 7) rfl (fun _ h_ => h_.elim) (.cons (t := 9) rfl (fun _ h_ => h_.elim) .nil)))), h⟩
              refine cnd hL rfl (fun hb_ => ?_) (fun hb_ => ?_)
              · replace h := h.1 hb_
                obtain ⟨h91, h⟩ := h
                refine rg ?_
                refine st 108 (t_fab (off := 2) (o_t 10 rfl) Tryd.underlying36 rfl (prt_snd (prt_snd (prt_fst (prt_all _ _)) rfl) rfl) rfl ty3 rfl rfl) rfl rfl hL fun a s e_ hL => ?_
                refine st 109 (t_loado ty3 (o_t 108 rfl) rfl rfl) rfl rfl hL fun a s e_ hL => ?_
                refine st 110 (t_add (o_t 109 rfl) (o_i (by decide)) h91 rfl rfl) rfl rfl hL fun a s e_ hL => ?_
                refine st 111 (t_fab (off := 2) (o_t 10 rfl) Tryd.underlying36 rfl (prt_snd (prt_snd (prt_fst (prt_all _ _)) rfl) rfl) rfl ty3 rfl rfl) rfl rfl hL fun a s e_ hL => ?_
                refine st_stob (L' := [(1, (Pd.rep (En.slice En.SItem) s_)), (5, (Pd.rep (En.int .i64) nearest20)), (7, (Pd.rep (En.slice En.SItem) r23.1)), (9, (Pd.rep (En.int .i64) i71))]) 10 hL rfl (o_t 111 rfl) (o_t 110 rfl) (sub_snd (sub_snd (sub_fst (sub_all _ _ _)) rfl) rfl) ty3 rfl rfl rfl (.cons (t := 1) rfl (fun _ h_ => h_.elim) (.cons (t := 5) rfl (fun _ h_ => h_.elim) (.cons (t := 7) rfl (fun _ h_ => h_.elim) (.cons (t := 9) rfl (fun _ h_ => h_.elim) .nil)))) fun s hL => ?_
                refine en' ?_
                exact J85 (e79.1, e79.2.1, e79.2.2.1 + 1, e79.2.2.2) a s (hL.keep (.cons (t := 1) rfl (fun _ h_ => h_.elim) (.cons (t := 5) rfl (fun _ h_ => h_.elim) (.cons (t := 7) rfl (fun _ h_ => h_.elim) (.cons (t := 9) rfl (fun _ h_ => h_.elim) (.cons (t := 10) rfl (fun _ _ h_ => h_) .nil)))))) h
              · replace h := h.2 hb_
                refine wp_skip ?_
                exact J85 e79 a s (hL.keep (.cons (t := 1) rfl (fun _ h_ => h_.elim) (.cons (t := 5) rfl (fun _ h_ => h_.elim) (.cons (t := 7) rfl (fun _ h_ => h_.elim) (.cons (t := 9) rfl (fun _ h_ => h_.elim) (.cons (t := 10) rfl (fun _ _ h_ => h_) .nil)))))) h
            · replace h := h.2 hb_
              refine wp_exit ?_
              exact J40 a s (hL.keep (.cons (t := 1) rfl (fun _ h_ => h_.elim) (.cons (t := 5) rfl (fun _ h_ => h_.elim) (.cons (t := 7) rfl (fun _ h_ => h_.elim) .nil)))) h
    obtain ⟨k94, h⟩ := h
    refine lpg (fun k95 a s => ∃ (nearest92 : Int) (i93 : Int), Has N0 151 s0 a s [(1, (Pd.rep (En.slice En.SItem) s_)), (2, (Pd.ptr En.SDesc d_)), (5, (Pd.rep (En.int .i64) nearest92)), (6, (Pd.rep (En.int .i64) i93))] ∧ law13_ItemLowers.l3 s_ (law13_ItemLowers.j4 d_ s_ r_) k95 nearest92 i93) k94 ⟨(-1), 0, hL.keep (.cons (t := 1) rfl (fun _ h_ => h_.elim) (.cons (t := 2) rfl (fun _ h_ => h_.elim) (.cons (t := 5) rfl (fun _ h_ => h_.elim) (.cons (t := 6) rfl (fun _ h_ => h_.elim) .nil)))), h⟩ ?_
    rintro k95 a s ⟨nearest92, i93, hL, h⟩ KL96 hKL96
    cases k95 with
    | zero => exact h.elim
    | succ k95 =>
    unfold law13_ItemLowers.l3 at h
    refine wp_seq_k fun K97 hK97 => ?_
    refine wp_seq_k fun K98 hK98 => ?_
    refine rg ?_
    refine st 40 (t_move (o_t 6 rfl) rfl rfl) rfl rfl hL fun a s e_ hL => ?_
    refine st 41 (t_move (o_t 1 rfl) rfl rfl) rfl rfl hL fun a s e_ hL => ?_
    refine st 42 (t_len (o_t 41 rfl) Tryd.underlying26 rfl rfl) rfl rfl hL fun a s e_ hL => ?_
    refine st 43 (t_lss (o_t 40 rfl) (o_t 42 rfl) rfl rfl) rfl rfl hL fun a s e_ hL => ?_
    refine en' ?_
    show K98 a s.w
    refine hK98 _ _ ?_
    refine cnd hL rfl (fun hb_ => ?_) (fun hb_ => ?_)
    · replace h := h.1 hb_
      refine wp_skip ?_
      show K97 a s.w
      refine hK97 _ _ ?_
      refine wp_seq_k fun K99 hK99 => ?_
      refine wp_block ?_
      refine wp_seq_k fun K100 hK100 => ?_
      obtain ⟨e101, h102, e103, h104, b105, h106, h⟩ := h
      refine rg ?_
      refine st 46 (t_move (o_t 1 rfl) rfl rfl) rfl rfl hL fun a s e_ hL => ?_
      refine st 47 (t_move (o_t 6 rfl) rfl rfl) rfl rfl hL fun a s e_ hL => ?_
      refine st 48 (t_idx (o_t 46 rfl) (o_t 47 rfl) h102 Tryd.underlying26 ty36 rfl rfl) rfl rfl hL fun a s e_ hL => ?_
      refine st 49 (t_fa (off := 0) (o_t 48 rfl) Tryd.underlying36 rfl (prt_fst (prt_all _ _)) rfl ty3 rfl rfl) rfl rfl hL fun a s e_ hL => ?_
      refine st 50 (t_load ty3 (o_t 49 rfl) rfl rfl) rfl rfl hL fun a s e_ hL => ?_
      refine st 51 (t_eqi (o_t 50 rfl) (o_i (by decide)) rfl rfl) rfl rfl hL fun a s e_ hL => ?_
      refine st 52 (t_move (o_t 51 rfl) rfl rfl) rfl rfl hL fun a s e_ hL => ?_
      refine st 53 (t_g1 rfl rfl rfl (fun hc_ => t_move (o_t 5 rfl) rfl rfl)) rfl rfl hL fun a s e_ hL => ?_
      refine st 54 (t_g1 rfl rfl rfl (fun hc_ => t_lss (o_w hc_ 53 rfl) (o_i (by decide)) rfl rfl)) rfl rfl hL fun a s e_ hL => ?_
      refine st 55 (t_g1 rfl rfl rfl (fun hc_ => t_move (o_w hc_ 54 rfl) rfl rfl)) rfl rfl hL fun a s e_ hL => ?_
      refine st 56 (t_g rfl rfl rfl (fun hc_ => t_move (o_t 1 rfl) rfl rfl)) rfl rfl hL fun a s e_ hL => ?_
      refine st 57 (t_g rfl rfl rfl (fun hc_ => t_move (o_t 6 rfl) rfl rfl)) rfl rfl hL fun a s e_ hL => ?_
      refine st 58 (t_g rfl rfl rfl (fun hc_ => t_idx (o_w hc_ 56 rfl) (o_w hc_ 57 rfl) (h104 hc_) Tryd.underlying26 ty36 rfl rfl)) rfl rfl hL fun a s e_ hL => ?_
      refine st 59 (t_g rfl rfl rfl (fun hc_ => t_fa (off := 2) (o_w hc_ 58 rfl) Tryd.underlying36 rfl (prt_snd (prt_snd (prt_fst (prt_all _ _)) rfl) rfl) rfl ty3 rfl rfl)) rfl rfl hL fun a s e_ hL => ?_
      refine st 60 (t_g rfl rfl rfl (fun hc_ => t_load ty3 (o_w hc_ 59 rfl) rfl rfl)) rfl rfl hL fun a s e_ hL => ?_
      refine st 61 (t_g rfl rfl rfl (fun hc_ => t_move (o_t 5 rfl) rfl rfl)) rfl rfl hL fun a s e_ hL => ?_
      refine st 62 (t_g rfl rfl rfl (fun hc_ => t_lss (o_w hc_ 60 rfl) (o_w hc_ 61 rfl) rfl rfl)) rfl rfl hL fun a s e_ hL => ?_
      refine st 63 (h106 ▸ (t_g1 rfl rfl rfl (fun hc_ => t_or (o_w hc_ 55 rfl) (fun hc2_ => (o_w (And.intro hc_ hc2_) 62 rfl)) rfl rfl))) rfl rfl hL fun a s e_ hL => ?_
      refine st 64 (t_and (o_t 52 rfl) (fun hc2_ => (o_w hc2_ 63 rfl)) rfl rfl) rfl rfl hL fun a s e_ hL => ?_
      refine en' ?_
      show K100 a s.w
      refine hK100 _ _ ?_
      refine cnd hL rfl (fun hb_ => ?_) (fun hb_ => ?_)
      · replace h := h.1 hb_
        obtain ⟨e107, h108, h⟩ := h
        refine rg ?_
        refine st 65 (t_move (o_t 1 rfl) rfl rfl) rfl rfl hL fun a s e_ hL => ?_
        refine st 66 (t_move (o_t 6 rfl) rfl rfl) rfl rfl hL fun a s e_ hL => ?_
        refine st 67 (t_idx (o_t 65 rfl) (o_t 66 rfl) h108 Tryd.underlying26 ty36 rfl rfl) rfl rfl hL fun a s e_ hL => ?_
        refine st 68 (t_fa (off := 2) (o_t 67 rfl) Tryd.underlying36 rfl (prt_snd (prt_snd (prt_fst (prt_all _ _)) rfl) rfl) rfl ty3 rfl rfl) rfl rfl hL fun a s e_ hL => ?_
        refine st 69 (t_load ty3 (o_t 68 rfl) rfl rfl) rfl rfl hL fun a s e_ hL => ?_
        refine st 5 (t_assign (o_t 69 rfl) rfl rfl) rfl rfl hL fun a s e_ hL => ?_
        refine en' ?_
        show K99 a s.w
        refine hK99 _ _ ?_
        obtain ⟨h109, h⟩ := h
        refine rg ?_
        refine st 44 (t_move (o_t 6 rfl) rfl rfl) rfl rfl hL fun a s e_ hL => ?_
        refine st 45 (t_add (o_t 44 rfl) (o_i (by decide)) h109 rfl rfl) rfl rfl hL fun a s e_ hL => ?_
        refine st 6 (t_assign (o_t 45 rfl) rfl rfl) rfl rfl hL fun a s e_ hL => ?_
        refine en' ?_
        exact hKL96 k95 a s (Nat.lt_succ_self _) ⟨e107.2.2.1, (i93 + 1), hL.keep (.cons (t := 1) rfl (fun _ h_ => h_.elim) (.cons (t := 2) rfl (fun _ h_ => h_.elim) (.cons (t := 5) rfl (fun _ h_ => h_.elim) (.cons (t := 6) rfl (fun _ h_ => h_.elim) .nil)))), h⟩
      · replace h := h.2 hb_
        refine wp_skip ?_
        show K99 a s.w
        refine hK99 _ _ ?_
        obtain ⟨h110, h⟩ := h
        refine rg ?_
        refine st 44 (t_move (o_t 6 rfl) rfl rfl) rfl rfl hL fun a s e_ hL => ?_
        refine st 45 (t_add (o_t 44 rfl) (o_i (by decide)) h110 rfl rfl) rfl rfl hL fun a s e_ hL => ?_
        refine st 6 (t_assign (o_t 45 rfl) rfl rfl) rfl rfl hL fun a s e_ hL => ?_
        refine en' ?_
        exact hKL96 k95 a s (Nat.lt_succ_self _) ⟨nearest92, (i93 + 1), hL.keep (.cons (t := 1) rfl (fun _ h_ => h_.elim) (.cons (t := 2) rfl (fun _ h_ => h_.elim) (.cons (t := 5) rfl (fun _ h_ => h_.elim) (.cons (t := 6) rfl (fun _ h_ => h_.elim) .nil)))), h⟩
    · replace h := h.2 hb_
      refine wp_exit ?_
      exact J21 nearest92 a s (hL.keep (.cons (t := 1) rfl (fun _ h_ => h_.elim) (.cons (t := 2) rfl (fun _ h_ => h_.elim) (.cons (t := 5) rfl (fun _ h_ => h_.elim) .nil)))) h

theorem law13_ItemKeeps_ok {s_ : (List SItem)} {r_ : Bool} (h : law13_ItemKeeps s_ r_) : Fn Tryd.prog 6 [(Pd.rep (En.slice En.SItem) s_)] (Rq (Pd.rep En.bool r_)) := by
  unfold law13_ItemKeeps at h
  refine fn_of Tryd.func6 rfl Tryd.ntmps6 (by rfl) (by simp) fun s0 a hL => ?_
  refine wp_seq_k fun K1 hK1 => ?_
  refine rg ?_
  refine st 2 (t_assign o_b rfl rfl) rfl rfl hL fun a s e_ hL => ?_
  refine en' ?_
  show K1 a s.w
  refine hK1 _ _ ?_
  refine wp_seq_k fun K2 hK2 => ?_
  refine wp_seq_k fun K3 hK3 => ?_
  obtain ⟨r4, h5, h⟩ := h
  refine rg ?_
  refine st 7 (t_call (law13_awake_ok h5) (xs := []) .nil rfl rfl) rfl rfl hL fun a s e_ hL => ?_
  refine st 8 (t_not (o_t 7 rfl) rfl rfl) rfl rfl hL fun a s e_ hL => ?_
  refine st 9 (t_move (o_t 8 rfl) rfl rfl) rfl rfl hL fun a s e_ hL => ?_
  refine st 10 (t_g1 rfl rfl rfl (fun hc_ => t_move (o_t 0 rfl) rfl rfl)) rfl rfl hL fun a s e_ hL => ?_
  refine st 11 (t_g1 rfl rfl rfl (fun hc_ => t_len (o_w hc_ 10 rfl) Tryd.underlying26 rfl rfl)) rfl rfl hL fun a s e_ hL => ?_
  refine st 12 (t_g1 rfl rfl rfl (fun hc_ => t_gtr (o_w hc_ 11 rfl) (o_i (by decide)) rfl rfl)) rfl rfl hL fun a s e_ hL => ?_
  refine st 13 (t_or (o_t 9 rfl) (fun hc2_ => (o_w hc2_ 12 rfl)) rfl rfl) rfl rfl hL fun a s e_ hL => ?_
  refine en' ?_
  show K3 a s.w
  refine hK3 _ _ ?_
  refine cnd hL rfl (fun hb_ => ?_) (fun hb_ => ?_)
  · replace h := h.1 hb_
    refine wp_seq_k fun K6 hK6 => ?_
    obtain ⟨r7, h8, h⟩ := h
    refine rg ?_
    refine st 14 (t_call (law13_awake_ok h8) (xs := []) .nil rfl rfl) rfl rfl hL fun a s e_ hL => ?_
    refine st 2 (t_assign (o_t 14 rfl) rfl rfl) rfl rfl hL fun a s e_ hL => ?_
    refine en' ?_
    show K6 a s.w
    refine hK6 _ _ ?_
    subst h
    exact wp_ret (retq rfl hL rfl)
  · replace h := h.2 hb_
    refine wp_skip ?_
    show K2 a s.w
    refine hK2 _ _ ?_
    refine wp_seq_k fun K9 hK9 => ?_
    obtain ⟨h11, h⟩ := h
    refine rg ?_
    refine st_new En.SItem 15 hL Tryd.underlying26 ty36 rfl rfl rfl rfl fun a s g10 hg_ hL => ?_
    refine st 16 (t_move (o_t 0 rfl) rfl rfl) rfl rfl hL fun a s e_ hL => ?_
    refine st_app (L' := [(0, (Pd.rep (En.slice En.SItem) s_))]) 17 hL (o_t 15 rfl) (o_t 16 rfl) Tryd.underlying26 ty36 h11 rfl rfl rfl rfl (.cons (t := 0) rfl (fun _ h_ => h_.elim) .nil) fun a s og12 hg_ hL => ?_
    refine st 3 (t_assign (o_t 17 rfl) rfl rfl) rfl rfl hL fun a s e_ hL => ?_
    refine en' ?_
    show K9 a s.w
    refine hK9 _ _ ?_
    refine wp_seq_k fun K13 hK13 => ?_
    obtain ⟨s15, h14, hL⟩ := hL.freeze (L' := [(0, (Pd.rep (En.slice En.SItem) s_))]) 3 rfl (.cons (t := 0) rfl (fun _ h_ => h_.elim) .nil)
    rw [← h14]
    clear h14
    generalize s15 = s at *
    obtain ⟨r16, h17, h⟩ := h
    refine rg ?_
    refine st 19 (t_move (o_t 3 rfl) rfl rfl) rfl rfl hL fun a s e_ hL => ?_
    refine st_callo2 20 hL (item_Lower_ok h17) (xs := [.tmp 19]) (.cons (o_t 19 rfl) .nil) rfl rfl rfl rfl fun a s og18 hg_ hL => ?_
    refine st 18 (t_move (o_t 20 rfl) rfl rfl) rfl rfl hL fun a s e_ hL => ?_
    refine st 21 (t_ext0 (o_t 18 rfl) rfl rfl) rfl rfl hL fun a s e_ hL => ?_
    refine st 22 (t_ext1 (o_t 18 rfl) rfl rfl) rfl rfl hL fun a s e_ hL => ?_
    refine st 4 (t_assign (o_t 21 rfl) rfl rfl) rfl rfl hL fun a s e_ hL => ?_
    refine st 5 (t_assign (o_t 22 rfl) rfl rfl) rfl rfl hL fun a s e_ hL => ?_
    refine en' ?_
    show K13 a s.w
    refine hK13 _ _ ?_
    refine wp_seq_k fun K19 hK19 => ?_
    refine wp_seq_k fun K20 hK20 => ?_
    refine rg ?_
    refine st 6 (t_assign (o_i (by decide)) rfl rfl) rfl rfl hL fun a s e_ hL => ?_
    refine en' ?_
    show K20 a s.w
    refine hK20 _ _ ?_
    refine wp_block ?_
    have J21 : ∀ (a : Act) (s : St), Has N0 41 s0 a s [(0, (Pd.rep (En.slice En.SItem) s_)), (3, (Pd.rep (En.slice En.SItem) (([] : (List SItem)) ++ s_)))] → ((law13_ItemKeeps.j1 s_ r_)) → K19 a s.w := by
      intro a s hL h
      unfold law13_ItemKeeps.j1 at h
      show K19 a s.w
      refine hK19 _ _ ?_
      refine wp_seq_k fun K22 hK22 => ?_
      obtain ⟨r23, h24, h⟩ := h
      refine rg ?_
      refine st 33 (t_move (o_t 3 rfl) rfl rfl) rfl rfl hL fun a s e_ hL => ?_
      refine st 34 (t_call (item_Key_ok h24) (xs := [.tmp 33]) (.cons (o_t 33 rfl) .nil) rfl rfl) rfl rfl hL fun a s e_ hL => ?_
      refine en' ?_
      show K22 a s.w
      refine hK22 _ _ ?_
      refine wp_seq_k fun K25 hK25 => ?_
      obtain ⟨r26, h27, h⟩ := h
      refine rg ?_
      refine st 35 (t_move (o_t 3 rfl) rfl rfl) rfl rfl hL fun a s e_ hL => ?_
      refine st 36 (t_move (o_t 3 rfl) rfl rfl) rfl rfl hL fun a s e_ hL => ?_
      refine st 37 (t_call (item_Compare_ok h27) (xs := [.tmp 35, .tmp 36]) (.cons (o_t 35 rfl) (.cons (o_t 36 rfl) .nil)) rfl rfl) rfl rfl hL fun a s e_ hL => ?_
      refine en' ?_
      show K25 a s.w
      refine hK25 _ _ ?_
      refine wp_seq_k fun K28 hK28 => ?_
      obtain ⟨r29, h30, h⟩ := h
      refine rg ?_
      refine st 38 (t_move (o_t 3 rfl) rfl rfl) rfl rfl hL fun a s e_ hL => ?_
      refine st 39 (t_move (o_t 0 rfl) rfl rfl) rfl rfl hL fun a s e_ hL => ?_
      refine st 40 (t_call (ref13_Same_ok h30) (xs := [.tmp 38, .tmp 39]) (.cons (o_t 38 rfl) (.cons (o_t 39 rfl) .nil)) rfl rfl) rfl rfl hL fun a s e_ hL => ?_
      refine st 2 (t_assign (o_t 40 rfl) rfl rfl) rfl rfl hL fun a s e_ hL => ?_
      refine en' ?_
      show K28 a s.w
      refine hK28 _ _ ?_
      subst h
      exact wp_ret (retq rfl hL rfl)
    obtain ⟨k34, h⟩ := h
    refine lpg (fun k35 a s => ∃ (a31 : (List SItem)) (i33 : Int) (og32 : Option Nat), Has N0 41 s0 a s [(0, (Pd.rep (En.slice En.SItem) s_)), (3, (Pd.rep (En.slice En.SItem) (([] : (List SItem)) ++ s_))), (4, (Pd.row En.SItem s0.w.heap.size 36 og32 a31)), (6, (Pd.rep (En.int .i64) i33))] ∧ law13_ItemKeeps.l1 (law13_ItemKeeps.j1 s_ r_) k35 a31 i33) k34 ⟨r16.1, 0, og18, hL.keep (.cons (t := 0) rfl (fun _ h_ => h_.elim) (.cons (t := 3) rfl (fun _ h_ => h_.elim) (.cons (t := 4) rfl (fun _ _ h_ => h_) (.cons (t := 6) rfl (fun _ h_ => h_.elim) .nil)))), h⟩ ?_
    rintro k35 a s ⟨a31, i33, og32, hL, h⟩ KL36 hKL36
    cases k35 with
    | zero => exact h.elim
    | succ k35 =>
    unfold law13_ItemKeeps.l1 at h
    refine wp_seq_k fun K37 hK37 => ?_
    refine wp_seq_k fun K38 hK38 => ?_
    refine rg ?_
    refine st 23 (t_move (o_t 6 rfl) rfl rfl) rfl rfl hL fun a s e_ hL => ?_
    refine st 24 (t_move (o_t 4 rfl) rfl rfl) rfl rfl hL fun a s e_ hL => ?_
    refine st 25 (t_leno (o_t 24 rfl) Tryd.underlying26 rfl rfl) rfl rfl hL fun a s e_ hL => ?_
    refine st 26 (t_lss (o_t 23 rfl) (o_t 25 rfl) rfl rfl) rfl rfl hL fun a s e_ hL => ?_
    refine en' ?_
    show K38 a s.w
    refine hK38 _ _ ?_
    refine cnd hL rfl (fun hb_ => ?_) (fun hb_ => ?_)
    · replace h := h.1 hb_
      refine wp_skip ?_
      show K37 a s.w
      refine hK37 _ _ ?_
      refine wp_seq_k fun K39 hK39 => ?_
      refine wp_block ?_
      obtain ⟨e40, h41, h⟩ := h
      refine rg ?_
      refine st 29 (t_move (o_t 4 rfl) rfl rfl) rfl rfl hL fun a s e_ hL => ?_
      refine st 30 (t_move (o_t 6 rfl) rfl rfl) rfl rfl hL fun a s e_ hL => ?_
      refine st 31 (t_idxo (o_t 29 rfl) (o_t 30 rfl) h41 Tryd.underlying26 ty36 rfl rfl) rfl rfl hL fun a s e_ hL => ?_
      refine st 32 (t_fao (off := 0) (o_t 31 rfl) Tryd.underlying36 rfl (prt_fst (prt_all _ _)) rfl ty3 rfl rfl) rfl rfl hL fun a s e_ hL => ?_
      refine st_stor (L' := [(0, (Pd.rep (En.slice En.SItem) s_)), (3, (Pd.rep (En.slice En.SItem) (([] : (List SItem)) ++ s_))), (4, (Pd.row En.SItem s0.w.heap.size 36 og32 (a31.set (i33 : Int).toNat (99, e40.2.1, e40.2.2.1, e40.2.2.2)))), (6, (Pd.rep (En.int .i64) i33))]) (off := 0) 4 hL rfl h41 (o_t 32 rfl) (o_i (by decide)) (sub_fst (sub_all _ _ _)) ty3 rfl rfl rfl (.cons (t := 0) rfl (fun _ h_ => h_.elim) (.cons (t := 3) rfl (fun _ h_ => h_.elim) (.turn (t := 4) rfl (.cons (t := 6) rfl (fun _ h_ => h_.elim) .nil)))) fun s hL => ?_
      refine en' ?_
      show K39 a s.w
      refine hK39 _ _ ?_
      obtain ⟨h42, h⟩ := h
      refine rg ?_
      refine st 27 (t_move (o_t 6 rfl) rfl rfl) rfl rfl hL fun a s e_ hL => ?_
      refine st 28 (t_add (o_t 27 rfl) (o_i (by decide)) h42 rfl rfl) rfl rfl hL fun a s e_ hL => ?_
      refine st 6 (t_assign (o_t 28 rfl) rfl rfl) rfl rfl hL fun a s e_ hL => ?_
      refine en' ?_
      exact hKL36 k35 a s (Nat.lt_succ_self _) ⟨(a31.set (i33 : Int).toNat (99, e40.2.1, e40.2.2.1, e40.2.2.2)), (i33 + 1), og32, hL.keep (.cons (t := 0) rfl (fun _ h_ => h_.elim) (.cons (t := 3) rfl (fun _ h_ => h_.elim) (.cons (t := 4) rfl (fun _ _ h_ => h_) (.cons (t := 6) rfl (fun _ h_ => h_.elim) .nil)))), h⟩
    · replace h := h.2 hb_
      refine wp_exit ?_
      exact J21 a s (hL.keep (.cons (t := 0) rfl (fun _ h_ => h_.elim) (.cons (t := 3) rfl (fun _ h_ => h_.elim) .nil))) h

theorem law13_ItemForms_ok {d_ : SDesc} {s_ : (List SItem)} {t_ : (List SItem)} {far_ : Int} {r_ : Bool} (h : law13_ItemForms d_ s_ t_ far_ r_) : Fn Tryd.prog 7 [(Pd.rep En.SDesc d_), (Pd.rep (En.slice En.SItem) s_), (Pd.rep (En.slice En.SItem) t_), (Pd.rep (En.int .u8) far_)] (Rq (Pd.rep En.bool r_)) := by
  unfold law13_ItemForms at h
  refine fn_of Tryd.func7 rfl Tryd.ntmps7 (by rfl) (by simp) fun s0 a hL => ?_
  refine wp_seq_k fun K1 hK1 => ?_
  refine rg ?_
  refine st 4 (t_box (o_t 0 rfl) rfl rfl) rfl rfl hL fun a s e_ hL => ?_
  refine st 8 (t_assign o_b rfl rfl) rfl rfl hL fun a s e_ hL => ?_
  refine en' ?_
  show K1 a s.w
  refine hK1 _ _ ?_
  refine wp_seq_k fun K2 hK2 => ?_
  refine wp_seq_k fun K3 hK3 => ?_
  obtain ⟨r4, h5, r6, h7, r8, h9, b10, h11, h⟩ := h
  refine rg ?_
  refine st 13 (t_call (law13_awake_ok h5) (xs := []) .nil rfl rfl) rfl rfl hL fun a s e_ hL => ?_
  refine st 14 (t_not (o_t 13 rfl) rfl rfl) rfl rfl hL fun a s e_ hL => ?_
  refine st 15 (t_move (o_t 14 rfl) rfl rfl) rfl rfl hL fun a s e_ hL => ?_
  refine st 16 (t_g1 rfl rfl rfl (fun hc_ => t_load ty24 (o_t 4 rfl) rfl rfl)) rfl rfl hL fun a s e_ hL => ?_
  refine st 17 (t_g1 rfl rfl rfl (fun hc_ => t_call (ref04_Few_ok (h7 hc_)) (xs := [.tmp 16]) (.cons (o_w hc_ 16 rfl) .nil) rfl rfl)) rfl rfl hL fun a s e_ hL => ?_
  refine st 18 (t_g1 rfl rfl rfl (fun hc_ => t_not (o_w hc_ 17 rfl) rfl rfl)) rfl rfl hL fun a s e_ hL => ?_
  refine st 19 (t_or (o_t 15 rfl) (fun hc2_ => (o_w hc2_ 18 rfl)) rfl rfl) rfl rfl hL fun a s e_ hL => ?_
  refine st 20 (t_move (o_t 19 rfl) rfl rfl) rfl rfl hL fun a s e_ hL => ?_
  refine st 21 (t_g1 rfl rfl rfl (fun hc_ => t_load ty24 (o_t 4 rfl) rfl rfl)) rfl rfl hL fun a s e_ hL => ?_
  refine st 22 (t_g1 rfl rfl rfl (fun hc_ => t_call (ref08_Right_ok (h9 hc_)) (xs := [.tmp 21]) (.cons (o_w hc_ 21 rfl) .nil) rfl rfl)) rfl rfl hL fun a s e_ hL => ?_
  refine st 23 (t_g1 rfl rfl rfl (fun hc_ => t_not (o_w hc_ 22 rfl) rfl rfl)) rfl rfl hL fun a s e_ hL => ?_
  refine st 24 (t_or (o_t 20 rfl) (fun hc2_ => (o_w hc2_ 23 rfl)) rfl rfl) rfl rfl hL fun a s e_ hL => ?_
  refine st 25 (t_move (o_t 24 rfl) rfl rfl) rfl rfl hL fun a s e_ hL => ?_
  refine st 26 (t_g1 rfl rfl rfl (fun hc_ => t_move (o_t 1 rfl) rfl rfl)) rfl rfl hL fun a s e_ hL => ?_
  refine st 27 (t_g1 rfl rfl rfl (fun hc_ => t_len (o_w hc_ 26 rfl) Tryd.underlying26 rfl rfl)) rfl rfl hL fun a s e_ hL => ?_
  refine st 28 (t_g1 rfl rfl rfl (fun hc_ => t_gtr (o_w hc_ 27 rfl) (o_i (by decide)) rfl rfl)) rfl rfl hL fun a s e_ hL => ?_
  refine st 29 (h11 ▸ (t_or (o_t 25 rfl) (fun hc2_ => (o_w hc2_ 28 rfl)) rfl rfl)) rfl rfl hL fun a s e_ hL => ?_
  refine st 30 (t_move (o_t 29 rfl) rfl rfl) rfl rfl hL fun a s e_ hL => ?_
  refine st 31 (t_g1 rfl rfl rfl (fun hc_ => t_move (o_t 2 rfl) rfl rfl)) rfl rfl hL fun a s e_ hL => ?_
  refine st 32 (t_g1 rfl rfl rfl (fun hc_ => t_len (o_w hc_ 31 rfl) Tryd.underlying26 rfl rfl)) rfl rfl hL fun a s e_ hL => ?_
  refine st 33 (t_g1 rfl rfl rfl (fun hc_ => t_gtr (o_w hc_ 32 rfl) (o_i (by decide)) rfl rfl)) rfl rfl hL fun a s e_ hL => ?_
  refine st 34 (t_or (o_t 30 rfl) (fun hc2_ => (o_w hc2_ 33 rfl)) rfl rfl) rfl rfl hL fun a s e_ hL => ?_
  refine en' ?_
  show K3 a s.w
  refine hK3 _ _ ?_
  refine cnd hL rfl (fun hb_ => ?_) (fun hb_ => ?_)
  · replace h := h.1 hb_
    refine wp_seq_k fun K12 hK12 => ?_
    obtain ⟨r13, h14, h⟩ := h
    refine rg ?_
    refine st 35 (t_call (law13_awake_ok h14) (xs := []) .nil rfl rfl) rfl rfl hL fun a s e_ hL => ?_
    refine st 8 (t_assign (o_t 35 rfl) rfl rfl) rfl rfl hL fun a s e_ hL => ?_
    refine en' ?_
    show K12 a s.w
    refine hK12 _ _ ?_
    subst h
    exact wp_ret (retq rfl hL rfl)
  · replace h := h.2 hb_
    refine wp_skip ?_
    show K2 a s.w
    refine hK2 _ _ ?_
    refine wp_seq_k fun K15 hK15 => ?_
    obtain ⟨h17, h19, h⟩ := h
    refine rg ?_
    refine st_new En.SItem 36 hL Tryd.underlying26 ty36 rfl rfl rfl rfl fun a s g16 hg_ hL => ?_
    refine st 37 (t_move (o_t 1 rfl) rfl rfl) rfl rfl hL fun a s e_ hL => ?_
    refine st_app (L' := [(1, (Pd.rep (En.slice En.SItem) s_)), (2, (Pd.rep (En.slice En.SItem) t_)), (3, (Pd.rep (En.int .u8) far_)), (4, (Pd.ptr En.SDesc d_))]) 38 hL (o_t 36 rfl) (o_t 37 rfl) Tryd.underlying26 ty36 h17 rfl rfl rfl rfl (.cons (t := 1) rfl (fun _ h_ => h_.elim) (.cons (t := 2) rfl (fun _ h_ => h_.elim) (.cons (t := 3) rfl (fun _ h_ => h_.elim) (.cons (t := 4) rfl (fun _ h_ => h_.elim) .nil)))) fun a s og18 hg_ hL => ?_
    refine st 39 (t_move (o_t 2 rfl) rfl rfl) rfl rfl hL fun a s e_ hL => ?_
    refine st_app (L' := [(1, (Pd.rep (En.slice En.SItem) s_)), (2, (Pd.rep (En.slice En.SItem) t_)), (3, (Pd.rep (En.int .u8) far_)), (4, (Pd.ptr En.SDesc d_))]) 40 hL (o_t 38 rfl) (o_t 39 rfl) Tryd.underlying26 ty36 h19 rfl rfl rfl rfl (.cons (t := 1) rfl (fun _ h_ => h_.elim) (.cons (t := 2) rfl (fun _ h_ => h_.elim) (.cons (t := 3) rfl (fun _ h_ => h_.elim) (.cons (t := 4) rfl (fun _ h_ => h_.elim) .nil)))) fun a s og20 hg_ hL => ?_
    refine st 9 (t_assign (o_t 40 rfl) rfl rfl) rfl rfl hL fun a s e_ hL => ?_
    refine en' ?_
    show K15 a s.w
    refine hK15 _ _ ?_
    refine wp_seq_k fun K21 hK21 => ?_
    refine wp_seq_k fun K22 hK22 => ?_
    obtain ⟨s24, h23, hL⟩ := hL.freeze (L' := [(1, (Pd.rep (En.slice En.SItem) s_)), (2, (Pd.rep (En.slice En.SItem) t_)), (3, (Pd.rep (En.int .u8) far_)), (4, (Pd.ptr En.SDesc d_))]) 9 rfl (.cons (t := 1) rfl (fun _ h_ => h_.elim) (.cons (t := 2) rfl (fun _ h_ => h_.elim) (.cons (t := 3) rfl (fun _ h_ => h_.elim) (.cons (t := 4) rfl (fun _ h_ => h_.elim) .nil))))
    rw [← h23]
    clear h23
    generalize s24 = s at *
    obtain ⟨r25, h26, r27, h28, r29, h30, r31, h32, h⟩ := h
    refine rda follows 17 [(Pd.rep En.SDesc d_), (Pd.rep (En.slice En.SItem) ((([] : (List SItem)) ++ s_) ++ t_)), (Pd.rep En.bool r25), (Pd.rep En.SDesc d_), (Pd.rep (En.slice En.SItem) s_), (Pd.rep En.bool r27), (Pd.rep En.bool r27), (Pd.when ((r27) = true) (Pd.rep En.SDesc d_)), (Pd.when ((r27) = true) (Pd.rep (En.slice En.SItem) t_)), (Pd.when ((r27) = true) (Pd.rep En.bool r29)), (Pd.rep En.bool (r27 && r29)), (Pd.rep En.bool (r25 != (r27 && r29))), (Pd.rep En.bool (r25 != (r27 && r29))), (Pd.when (((r25 != (r27 && r29))) = false) (Pd.rep En.SDesc d_)), (Pd.when (((r25 != (r27 && r29))) = false) (Pd.rep En.bool r31)), (Pd.when (((r25 != (r27 && r29))) = false) (Pd.rep En.bool (!r31))), (Pd.rep En.bool ((r25 != (r27 && r29)) || (!r31)))] hL (by kernel_rfl) rfl rfl ?_ ?_
    · refine AllT.cons (t_load ty24 (o_t 4 rfl) rfl rfl) ?_
      refine AllT.cons (t_move (o_t 9 rfl) rfl rfl) ?_
      refine AllT.cons (t_call (item_Form_ok h26) (xs := [.tmp 41, .tmp 42]) (.cons (o_t 41 rfl) (.cons (o_t 42 rfl) .nil)) rfl rfl) ?_
      refine AllT.cons (t_load ty24 (o_t 4 rfl) rfl rfl) ?_
      refine AllT.cons (t_move (o_t 1 rfl) rfl rfl) ?_
      refine AllT.cons (t_call (item_Form_ok h28) (xs := [.tmp 44, .tmp 45]) (.cons (o_t 44 rfl) (.cons (o_t 45 rfl) .nil)) rfl rfl) ?_
      refine AllT.cons (t_move (o_t 46 rfl) rfl rfl) ?_
      refine AllT.cons (t_g1 rfl rfl rfl (fun hc_ => t_load ty24 (o_t 4 rfl) rfl rfl)) ?_
      refine AllT.cons (t_g1 rfl rfl rfl (fun hc_ => t_move (o_t 2 rfl) rfl rfl)) ?_
      refine AllT.cons (t_g1 rfl rfl rfl (fun hc_ => t_call (item_Form_ok (h30 hc_)) (xs := [.tmp 48, .tmp 49]) (.cons (o_w hc_ 48 rfl) (.cons (o_w hc_ 49 rfl) .nil)) rfl rfl)) ?_
      refine AllT.cons (t_and (o_t 47 rfl) (fun hc2_ => (o_w hc2_ 50 rfl)) rfl rfl) ?_
      refine AllT.cons (t_neb (o_t 43 rfl) (o_t 51 rfl) Tryd.underlying4 rfl rfl) ?_
      refine AllT.cons (t_move (o_t 52 rfl) rfl rfl) ?_
      refine AllT.cons (t_g1 rfl rfl rfl (fun hc_ => t_load ty24 (o_t 4 rfl) rfl rfl)) ?_
      refine AllT.cons (t_g1 rfl rfl rfl (fun hc_ => t_call (item_Form_ok (h32 hc_)) (xs := [.tmp 54, .const (.slice none 0 0)]) (.cons (o_w hc_ 54 rfl) (.cons o_nilr .nil)) rfl rfl)) ?_
      refine AllT.cons (t_g1 rfl rfl rfl (fun hc_ => t_not (o_w hc_ 55 rfl) rfl rfl)) ?_
      refine AllT.cons (t_or (o_t 53 rfl) (fun hc2_ => (o_w hc2_ 56 rfl)) rfl rfl) ?_
      exact AllT.nil
    intro a s e_ hL
    refine en' ?_
    show K22 a s.w
    refine hK22 _ _ ?_
    refine cnd hL rfl (fun hb_ => ?_) (fun hb_ => ?_)
    · replace h := h.1 hb_
      refine wp_seq_k fun K33 hK33 => ?_
      refine rg ?_
      refine st 8 (t_assign o_b rfl rfl) rfl rfl hL fun a s e_ hL => ?_
      refine en' ?_
      show K33 a s.w
      refine hK33 _ _ ?_
      subst h
      exact wp_ret (retq rfl hL rfl)
    · replace h := h.2 hb_
      refine wp_skip ?_
      show K21 a s.w
      refine hK21 _ _ ?_
      refine wp_seq_k fun K34 hK34 => ?_
      refine wp_seq_k fun K35 hK35 => ?_
      refine rg ?_
      refine st 58 (t_move (o_t 1 rfl) rfl rfl) rfl rfl hL fun a s e_ hL => ?_
      refine st 59 (t_len (o_t 58 rfl) Tryd.underlying26 rfl rfl) rfl rfl hL fun a s e_ hL => ?_
      refine st 60 (t_eqi (o_t 59 rfl) (o_i (by decide)) rfl rfl) rfl rfl hL fun a s e_ hL => ?_
      refine en' ?_
      show K35 a s.w
      refine hK35 _ _ ?_
      refine cnd hL rfl (fun hb_ => ?_) (fun hb_ => ?_)
      · replace h := h.1 hb_
        refine wp_seq_k fun K36 hK36 => ?_
        refine rg ?_
        refine st 8 (t_assign o_b rfl rfl) rfl rfl hL fun a s e_ hL => ?_
        refine en' ?_
        show K36 a s.w
        refine hK36 _ _ ?_
        subst h
        exact wp_ret (retq rfl hL rfl)
      · replace h := h.2 hb_
        refine wp_skip ?_
        show K34 a s.w
        refine hK34 _ _ ?_
        refine wp_seq_k fun K37 hK37 => ?_
        refine wp_seq_k fun K38 hK38 => ?_
        obtain ⟨r39, h40, h41, r42, h43, h⟩ := h
        refine rda follows 10 [(Pd.rep En.SDesc d_), (Pd.rep (En.slice En.SItem) s_), (Pd.rep En.bool r39), (Pd.rep En.bool r39), (Pd.when ((r39) = true) (Pd.rep En.SDesc d_)), (Pd.when ((r39) = true) (Pd.rep (En.slice En.SItem) s_)), (Pd.when ((r39) = true) (Pd.rep (En.slice En.SItem) (s_.drop (1 : Int).toNat))), (Pd.when ((r39) = true) (Pd.rep En.bool r42)), (Pd.when ((r39) = true) (Pd.rep En.bool (!r42))), (Pd.rep En.bool (r39 && (!r42)))] hL (by kernel_rfl) rfl rfl ?_ ?_
        · refine AllT.cons (t_load ty24 (o_t 4 rfl) rfl rfl) ?_
          refine AllT.cons (t_move (o_t 1 rfl) rfl rfl) ?_
          refine AllT.cons (t_call (item_Form_ok h40) (xs := [.tmp 61, .tmp 62]) (.cons (o_t 61 rfl) (.cons (o_t 62 rfl) .nil)) rfl rfl) ?_
          refine AllT.cons (t_move (o_t 63 rfl) rfl rfl) ?_
          refine AllT.cons (t_g1 rfl rfl rfl (fun hc_ => t_load ty24 (o_t 4 rfl) rfl rfl)) ?_
          refine AllT.cons (t_g1 rfl rfl rfl (fun hc_ => t_move (o_t 1 rfl) rfl rfl)) ?_
          refine AllT.cons (t_g1 rfl rfl rfl (fun hc_ => t_from (o_w hc_ 66 rfl) (o_i (by decide)) (h41 hc_) Tryd.underlying26 ty36 rfl rfl)) ?_
          refine AllT.cons (t_g1 rfl rfl rfl (fun hc_ => t_call (item_Form_ok (h43 hc_)) (xs := [.tmp 65, .tmp 67]) (.cons (o_w hc_ 65 rfl) (.cons (o_w hc_ 67 rfl) .nil)) rfl rfl)) ?_
          refine AllT.cons (t_g1 rfl rfl rfl (fun hc_ => t_not (o_w hc_ 68 rfl) rfl rfl)) ?_
          refine AllT.cons (t_and (o_t 64 rfl) (fun hc2_ => (o_w hc2_ 69 rfl)) rfl rfl) ?_
          exact AllT.nil
        intro a s e_ hL
        refine en' ?_
        show K38 a s.w
        refine hK38 _ _ ?_
        refine cnd hL rfl (fun hb_ => ?_) (fun hb_ => ?_)
        · replace h := h.1 hb_
          refine wp_seq_k fun K44 hK44 => ?_
          refine rg ?_
          refine st 8 (t_assign o_b rfl rfl) rfl rfl hL fun a s e_ hL => ?_
          refine en' ?_
          show K44 a s.w
          refine hK44 _ _ ?_
          subst h
          exact wp_ret (retq rfl hL rfl)
        · replace h := h.2 hb_
          refine wp_skip ?_
          show K37 a s.w
          refine hK37 _ _ ?_
          refine wp_seq_k fun K45 hK45 => ?_
          obtain ⟨h47, h⟩ := h
          refine rg ?_
          refine st_new En.SItem 71 hL Tryd.underlying26 ty36 rfl rfl rfl rfl fun a s g46 hg_ hL => ?_
          refine st 72 (t_move (o_t 1 rfl) rfl rfl) rfl rfl hL fun a s e_ hL => ?_
          refine st_app (L' := [(1, (Pd.rep (En.slice En.SItem) s_)), (3, (Pd.rep (En.int .u8) far_)), (4, (Pd.ptr En.SDesc d_))]) 73 hL (o_t 71 rfl) (o_t 72 rfl) Tryd.underlying26 ty36 h47 rfl rfl rfl rfl (.cons (t := 1) rfl (fun _ h_ => h_.elim) (.cons (t := 3) rfl (fun _ h_ => h_.elim) (.cons (t := 4) rfl (fun _ h_ => h_.elim) .nil))) fun a s og48 hg_ hL => ?_
          refine st 10 (t_assign (o_t 73 rfl) rfl rfl) rfl rfl hL fun a s e_ hL => ?_
          refine en' ?_
          show K45 a s.w
          refine hK45 _ _ ?_
          refine wp_seq_k fun K49 hK49 => ?_
          obtain ⟨h50, e51, h52, h⟩ := h
          refine rg ?_
          refine st 74 (t_move (o_t 10 rfl) rfl rfl) rfl rfl hL fun a s e_ hL => ?_
          refine st 75 (t_fa (off := 0) (o_t 4 rfl) Tryd.underlying24 rfl (prt_solo (prt_all _ _)) rfl ty22 rfl rfl) rfl rfl hL fun a s e_ hL => ?_
          refine st 76 (t_load ty22 (o_t 75 rfl) rfl rfl) rfl rfl hL fun a s e_ hL => ?_
          refine st 77 (t_len (o_t 76 rfl) Tryd.underlying22 rfl rfl) rfl rfl hL fun a s e_ hL => ?_
          refine st 78 (t_move (o_t 3 rfl) rfl rfl) rfl rfl hL fun a s e_ hL => ?_
          refine st 79 (t_up (o_t 78 rfl) (by decide) Tryd.underlying5 Tryd.underlying3 rfl rfl) rfl rfl hL fun a s e_ hL => ?_
          refine st 80 (t_add (o_t 77 rfl) (o_t 79 rfl) h50 rfl rfl) rfl rfl hL fun a s e_ hL => ?_
          refine st 81 (t_build (x := (1, (d_.length : Int) + far_, 0, 0)) (ps := [(0, .const (.int .i64 1)), (1, .tmp 80)]) tyz36 rfl stt36 (.cons (i := 0) (o_i (by decide)) rfl (sub_fst (sub_all _ _ _)) (.cons (i := 1) (o_t 80 rfl) rfl (sub_snd (sub_fst (sub_all _ _ _)) rfl) .nil)) rfl rfl) rfl rfl hL fun a s e_ hL => ?_
          refine st 82 (t_idxo (o_t 74 rfl) (o_i (by decide)) h52 Tryd.underlying26 ty36 rfl rfl) rfl rfl hL fun a s e_ hL => ?_
          refine st_stor (L' := [(1, (Pd.rep (En.slice En.SItem) s_)), (3, (Pd.rep (En.int .u8) far_)), (4, (Pd.ptr En.SDesc d_)), (10, (Pd.row En.SItem s0.w.heap.size 36 og48 ((([] : (List SItem)) ++ s_).set (0 : Int).toNat (1, (d_.length : Int) + far_, 0, 0))))]) (off := 0) 10 hL rfl h52 (o_t 82 rfl) (o_t 81 rfl) (sub_all _ _ _) ty36 rfl rfl rfl (.cons (t := 1) rfl (fun _ h_ => h_.elim) (.cons (t := 3) rfl (fun _ h_ => h_.elim) (.cons (t := 4) rfl (fun _ h_ => h_.elim) (.turn (t := 10) rfl .nil)))) fun s hL => ?_
          refine en' ?_
          show K49 a s.w
          refine hK49 _ _ ?_
          refine wp_seq_k fun K53 hK53 => ?_
          obtain ⟨h56, h⟩ := h
          refine rg ?_
          have lt_d55 := hL.rlt 10 rfl
          refine st_new En.SItem 83 hL Tryd.underlying26 ty36 rfl rfl rfl rfl fun a s g54 hg_ hL => ?_
          have d55 : Dis (some g54) og48 := Dis.newg hg_ lt_d55
          refine st 84 (t_move (o_t 1 rfl) rfl rfl) rfl rfl hL fun a s e_ hL => ?_
          have lt_og57_10 := hL.rlt 10 rfl
          refine st_app (L' := [(1, (Pd.rep (En.slice En.SItem) s_)), (3, (Pd.rep (En.int .u8) far_)), (4, (Pd.ptr En.SDesc d_)), (10, (Pd.row En.SItem s0.w.heap.size 36 og48 ((([] : (List SItem)) ++ s_).set (0 : Int).toNat (1, (d_.length : Int) + far_, 0, 0))))]) 85 hL (o_t 83 rfl) (o_t 84 rfl) Tryd.underlying26 ty36 h56 rfl rfl rfl rfl (.cons (t := 1) rfl (fun _ h_ => h_.elim) (.cons (t := 3) rfl (fun _ h_ => h_.elim) (.cons (t := 4) rfl (fun _ h_ => h_.elim) (.cons (t := 10) rfl (Dis.ow (Dis.symm d55)) .nil)))) fun a s og57 hg_ hL => ?_
          have d58 : Dis og57 og48 := Dis.app hg_ d55 lt_og57_10
          refine st 11 (t_assign (o_t 85 rfl) rfl rfl) rfl rfl hL fun a s e_ hL => ?_
          refine en' ?_
          show K53 a s.w
          refine hK53 _ _ ?_
          refine wp_seq_k fun K59 hK59 => ?_
          obtain ⟨h60, e61, h62, h⟩ := h
          refine rg ?_
          refine st 86 (t_move (o_t 11 rfl) rfl rfl) rfl rfl hL fun a s e_ hL => ?_
          refine st 87 (t_move (o_t 3 rfl) rfl rfl) rfl rfl hL fun a s e_ hL => ?_
          refine st 88 (t_up (o_t 87 rfl) (by decide) Tryd.underlying5 Tryd.underlying3 rfl rfl) rfl rfl hL fun a s e_ hL => ?_
          refine st 89 (t_add (o_i (by decide)) (o_t 88 rfl) h60 rfl rfl) rfl rfl hL fun a s e_ hL => ?_
          refine st 90 (t_idxo (o_t 86 rfl) (o_i (by decide)) h62 Tryd.underlying26 ty36 rfl rfl) rfl rfl hL fun a s e_ hL => ?_
          refine st 91 (t_fao (off := 0) (o_t 90 rfl) Tryd.underlying36 rfl (prt_fst (prt_all _ _)) rfl ty3 rfl rfl) rfl rfl hL fun a s e_ hL => ?_
          refine st_stor (L' := [(1, (Pd.rep (En.slice En.SItem) s_)), (3, (Pd.rep (En.int .u8) far_)), (4, (Pd.ptr En.SDesc d_)), (10, (Pd.row En.SItem s0.w.heap.size 36 og48 ((([] : (List SItem)) ++ s_).set (0 : Int).toNat (1, (d_.length : Int) + far_, 0, 0)))), (11, (Pd.row En.SItem s0.w.heap.size 36 og57 ((([] : (List SItem)) ++ s_).set (0 : Int).toNat (6 + far_, e61.2.1, e61.2.2.1, e61.2.2.2))))]) (off := 0) 11 hL rfl h62 (o_t 91 rfl) (o_t 89 rfl) (sub_fst (sub_all _ _ _)) ty3 rfl rfl rfl (.cons (t := 1) rfl (fun _ h_ => h_.elim) (.cons (t := 3) rfl (fun _ h_ => h_.elim) (.cons (t := 4) rfl (fun _ h_ => h_.elim) (.cons (t := 10) rfl (Dis.ow (Dis.symm d58)) (.turn (t := 11) rfl .nil))))) fun s hL => ?_
          refine en' ?_
          show K59 a s.w
          refine hK59 _ _ ?_
          refine wp_seq_k fun K63 hK63 => ?_
          obtain ⟨h67, h⟩ := h
          refine rg ?_
          have lt_d66 := hL.rlt 11 rfl
          have lt_d65 := hL.rlt 10 rfl
          refine st_new En.SItem 92 hL Tryd.underlying26 ty36 rfl rfl rfl rfl fun a s g64 hg_ hL => ?_
          have d65 : Dis (some g64) og48 := Dis.newg hg_ lt_d65
          have d66 : Dis (some g64) og57 := Dis.newg hg_ lt_d66
          refine st 93 (t_move (o_t 1 rfl) rfl rfl) rfl rfl hL fun a s e_ hL => ?_
          have lt_og68_10 := hL.rlt 10 rfl
          have lt_og68_11 := hL.rlt 11 rfl
          refine st_app (L' := [(3, (Pd.rep (En.int .u8) far_)), (4, (Pd.ptr En.SDesc d_)), (10, (Pd.row En.SItem s0.w.heap.size 36 og48 ((([] : (List SItem)) ++ s_).set (0 : Int).toNat (1, (d_.length : Int) + far_, 0, 0)))), (11, (Pd.row En.SItem s0.w.heap.size 36 og57 ((([] : (List SItem)) ++ s_).set (0 : Int).toNat (6 + far_, e61.2.1, e61.2.2.1, e61.2.2.2))))]) 94 hL (o_t 92 rfl) (o_t 93 rfl) Tryd.underlying26 ty36 h67 rfl rfl rfl rfl (.cons (t := 3) rfl (fun _ h_ => h_.elim) (.cons (t := 4) rfl (fun _ h_ => h_.elim) (.cons (t := 10) rfl (Dis.ow (Dis.symm d65)) (.cons (t := 11) rfl (Dis.ow (Dis.symm d66)) .nil)))) fun a s og68 hg_ hL => ?_
          have d69 : Dis og68 og48 := Dis.app hg_ d65 lt_og68_10
          have d70 : Dis og68 og57 := Dis.app hg_ d66 lt_og68_11
          refine st 12 (t_assign (o_t 94 rfl) rfl rfl) rfl rfl hL fun a s e_ hL => ?_
          refine en' ?_
          show K63 a s.w
          refine hK63 _ _ ?_
          refine wp_seq_k fun K71 hK71 => ?_
          obtain ⟨h72, e73, h74, h⟩ := h
          refine rg ?_
          refine st 95 (t_move (o_t 12 rfl) rfl rfl) rfl rfl hL fun a s e_ hL => ?_
          refine st 96 (t_move (o_t 3 rfl) rfl rfl) rfl rfl hL fun a s e_ hL => ?_
          refine st 97 (t_up (o_t 96 rfl) (by decide) Tryd.underlying5 Tryd.underlying3 rfl rfl) rfl rfl hL fun a s e_ hL => ?_
          refine st 98 (t_add (o_i (by decide)) (o_t 97 rfl) h72 rfl rfl) rfl rfl hL fun a s e_ hL => ?_
          refine st 99 (t_build (x := (5, 0, 65536 + far_, 0)) (ps := [(0, .const (.int .i64 5)), (2, .tmp 98)]) tyz36 rfl stt36 (.cons (i := 0) (o_i (by decide)) rfl (sub_fst (sub_all _ _ _)) (.cons (i := 2) (o_t 98 rfl) rfl (sub_snd (sub_snd (sub_fst (sub_all _ _ _)) rfl) rfl) .nil)) rfl rfl) rfl rfl hL fun a s e_ hL => ?_
          refine st 100 (t_idxo (o_t 95 rfl) (o_i (by decide)) h74 Tryd.underlying26 ty36 rfl rfl) rfl rfl hL fun a s e_ hL => ?_
          refine st_stor (L' := [(4, (Pd.ptr En.SDesc d_)), (10, (Pd.row En.SItem s0.w.heap.size 36 og48 ((([] : (List SItem)) ++ s_).set (0 : Int).toNat (1, (d_.length : Int) + far_, 0, 0)))), (11, (Pd.row En.SItem s0.w.heap.size 36 og57 ((([] : (List SItem)) ++ s_).set (0 : Int).toNat (6 + far_, e61.2.1, e61.2.2.1, e61.2.2.2)))), (12, (Pd.row En.SItem s0.w.heap.size 36 og68 ((([] : (List SItem)) ++ s_).set (0 : Int).toNat (5, 0, 65536 + far_, 0))))]) (off := 0) 12 hL rfl h74 (o_t 100 rfl) (o_t 99 rfl) (sub_all _ _ _) ty36 rfl rfl rfl (.cons (t := 4) rfl (fun _ h_ => h_.elim) (.cons (t := 10) rfl (Dis.ow (Dis.symm d69)) (.cons (t := 11) rfl (Dis.ow (Dis.symm d70)) (.turn (t := 12) rfl .nil)))) fun s hL => ?_
          refine en' ?_
          show K71 a s.w
          refine hK71 _ _ ?_
          refine wp_seq_k fun K75 hK75 => ?_
          obtain ⟨s77, h76, hL⟩ := hL.freeze (L' := [(4, (Pd.ptr En.SDesc d_)), (11, (Pd.row En.SItem s0.w.heap.size 36 og57 ((([] : (List SItem)) ++ s_).set (0 : Int).toNat (6 + far_, e61.2.1, e61.2.2.1, e61.2.2.2)))), (12, (Pd.row En.SItem s0.w.heap.size 36 og68 ((([] : (List SItem)) ++ s_).set (0 : Int).toNat (5, 0, 65536 + far_, 0))))]) 10 rfl (.cons (t := 4) rfl (fun _ h_ => h_.elim) (.cons (t := 11) rfl (Dis.ow d58) (.cons (t := 12) rfl (Dis.ow d69) .nil)))
          rw [← h76]
          clear h76
          generalize s77 = s at *
          obtain ⟨s79, h78, hL⟩ := hL.freeze (L' := [(4, (Pd.ptr En.SDesc d_)), (10, (Pd.rep (En.slice En.SItem) ((([] : (List SItem)) ++ s_).set (0 : Int).toNat (1, (d_.length : Int) + far_, 0, 0)))), (12, (Pd.row En.SItem s0.w.heap.size 36 og68 ((([] : (List SItem)) ++ s_).set (0 : Int).toNat (5, 0, 65536 + far_, 0))))]) 11 rfl (.cons (t := 4) rfl (fun _ h_ => h_.elim) (.cons (t := 10) rfl (fun _ h_ => h_.elim) (.cons (t := 12) rfl (Dis.ow d70) .nil)))
          rw [← h78]
          clear h78
          generalize s79 = s at *
          obtain ⟨s81, h80, hL⟩ := hL.freeze (L' := [(4, (Pd.ptr En.SDesc d_)), (10, (Pd.rep (En.slice En.SItem) ((([] : (List SItem)) ++ s_).set (0 : Int).toNat (1, (d_.length : Int) + far_, 0, 0)))), (11, (Pd.rep (En.slice En.SItem) ((([] : (List SItem)) ++ s_).set (0 : Int).toNat (6 + far_, e61.2.1, e61.2.2.1, e61.2.2.2))))]) 12 rfl (.cons (t := 4) rfl (fun _ h_ => h_.elim) (.cons (t := 10) rfl (fun _ h_ => h_.elim) (.cons (t := 11) rfl (fun _ h_ => h_.elim) .nil)))
          rw [← h80]
          clear h80
          generalize s81 = s at *
          obtain ⟨r82, h83, r84, h85, r86, h87, h⟩ := h
          refine rg ?_
          refine st 101 (t_load ty24 (o_t 4 rfl) rfl rfl) rfl rfl hL fun a s e_ hL => ?_
          refine st 102 (t_move (o_t 10 rfl) rfl rfl) rfl rfl hL fun a s e_ hL => ?_
          refine st 103 (t_call (item_Form_ok h83) (xs := [.tmp 101, .tmp 102]) (.cons (o_t 101 rfl) (.cons (o_t 102 rfl) .nil)) rfl rfl) rfl rfl hL fun a s e_ hL => ?_
          refine st 104 (t_not (o_t 103 rfl) rfl rfl) rfl rfl hL fun a s e_ hL => ?_
          refine st 105 (t_move (o_t 104 rfl) rfl rfl) rfl rfl hL fun a s e_ hL => ?_
          refine st 106 (t_g1 rfl rfl rfl (fun hc_ => t_load ty24 (o_t 4 rfl) rfl rfl)) rfl rfl hL fun a s e_ hL => ?_
          refine st 107 (t_g1 rfl rfl rfl (fun hc_ => t_move (o_t 11 rfl) rfl rfl)) rfl rfl hL fun a s e_ hL => ?_
          refine st 108 (t_g1 rfl rfl rfl (fun hc_ => t_call (item_Form_ok (h85 hc_)) (xs := [.tmp 106, .tmp 107]) (.cons (o_w hc_ 106 rfl) (.cons (o_w hc_ 107 rfl) .nil)) rfl rfl)) rfl rfl hL fun a s e_ hL => ?_
          refine st 109 (t_g1 rfl rfl rfl (fun hc_ => t_not (o_w hc_ 108 rfl) rfl rfl)) rfl rfl hL fun a s e_ hL => ?_
          refine st 110 (t_and (o_t 105 rfl) (fun hc2_ => (o_w hc2_ 109 rfl)) rfl rfl) rfl rfl hL fun a s e_ hL => ?_
          refine st 111 (t_move (o_t 110 rfl) rfl rfl) rfl rfl hL fun a s e_ hL => ?_
          refine st 112 (t_g1 rfl rfl rfl (fun hc_ => t_load ty24 (o_t 4 rfl) rfl rfl)) rfl rfl hL fun a s e_ hL => ?_
          refine st 113 (t_g1 rfl rfl rfl (fun hc_ => t_move (o_t 12 rfl) rfl rfl)) rfl rfl hL fun a s e_ hL => ?_
          refine st 114 (t_g1 rfl rfl rfl (fun hc_ => t_call (item_Form_ok (h87 hc_)) (xs := [.tmp 112, .tmp 113]) (.cons (o_w hc_ 112 rfl) (.cons (o_w hc_ 113 rfl) .nil)) rfl rfl)) rfl rfl hL fun a s e_ hL => ?_
          refine st 115 (t_g1 rfl rfl rfl (fun hc_ => t_not (o_w hc_ 114 rfl) rfl rfl)) rfl rfl hL fun a s e_ hL => ?_
          refine st 116 (t_and (o_t 111 rfl) (fun hc2_ => (o_w hc2_ 115 rfl)) rfl rfl) rfl rfl hL fun a s e_ hL => ?_
          refine st 8 (t_assign (o_t 116 rfl) rfl rfl) rfl rfl hL fun a s e_ hL => ?_
          refine en' ?_
          show K75 a s.w
          refine hK75 _ _ ?_
          subst h
          exact wp_ret (retq rfl hL rfl)
end Go.Proofs.YtdfnbogkniikbaaDoor.V
