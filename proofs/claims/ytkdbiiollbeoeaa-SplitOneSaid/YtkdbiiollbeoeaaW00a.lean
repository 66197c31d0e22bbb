/- The walks of the functions of layer 0 (by gen.py). -/
import Derived.Test.YtkdbiiollbeoeaaY
import Derived.Test.YtkdbiiollbeoeaaR00
namespace Go.Proofs.Ytkdbiiollbeoeaa.V
open Go
set_option linter.unusedVariables false
theorem slices_insertionSortCmpFunc_api_Class_ok (v0 : Value) {data_ : (List Cl)} {a_ : Int} {b_ : Int} {cmp_ : (Cl × Cl × Int → Prop)} {r_ : (List Cl)} (h : slices_insertionSortCmpFunc_api_Class data_ a_ b_ cmp_ r_) : Fm Try.prog 45 (fun b => v0.ownBlock = some b) [(Pd.prow En.cls 24 v0 data_), (Pd.rep (En.int .i64) a_), (Pd.rep (En.int .i64) b_), (Pd.rep EnF54 cmp_)] (fun _ s' _ => (Pd.prow En.cls 24 v0 r_).p s' v0) := by
  unfold slices_insertionSortCmpFunc_api_Class at h
  refine fm_of Try.func45 rfl Try.ntmps45 (by rfl) (by simp) fun s0 a hL => ?_
  refine wp_seq_k fun K1 hK1 => ?_
  obtain ⟨h2, h⟩ := h
  refine rg ?_
  refine st 10 (t_move (o_t 1 rfl) rfl rfl) rfl rfl hL fun a s e_ hL => ?_
  refine st 11 (t_add (o_t 10 rfl) (o_i (by decide)) h2 rfl rfl) rfl rfl hL fun a s e_ hL => ?_
  refine st 8 (t_assign (o_t 11 rfl) rfl rfl) rfl rfl hL fun a s e_ hL => ?_
  refine en' ?_
  show K1 a s.w
  refine hK1 _ _ ?_
  refine wp_block ?_
  have J4 : ∀ (data3 : (List Cl)) (a : Act) (s : St), Has (fun b => v0.ownBlock = some b) 53 s0 a s [(0, (Pd.prow En.cls 24 v0 data3))] → ((slices_insertionSortCmpFunc_api_Class.j1 r_) data3) → (bodyPost Try.prog Try.f45 (Pst (fun b => v0.ownBlock = some b) (fun _ s' _ => (Pd.prow En.cls 24 v0 r_).p s' v0) s0) .normal) a s.w := by
    intro data3 a s hL h
    unfold slices_insertionSortCmpFunc_api_Class.j1 at h
    subst h
    exact retm rfl hL (c := 0) rfl
  obtain ⟨k7, h⟩ := h
  refine lpg (fun k8 a s => ∃ (data5 : (List Cl)) (i6 : Int), Has (fun b => v0.ownBlock = some b) 53 s0 a s [(0, (Pd.prow En.cls 24 v0 data5)), (1, (Pd.rep (En.int .i64) a_)), (2, (Pd.rep (En.int .i64) b_)), (3, (Pd.rep EnF54 cmp_)), (8, (Pd.rep (En.int .i64) i6))] ∧ slices_insertionSortCmpFunc_api_Class.l1 a_ b_ cmp_ (slices_insertionSortCmpFunc_api_Class.j1 r_) k8 data5 i6) k7 ⟨data_, (a_ + 1), hL.keep (.cons (t := 0) rfl (fun _ _ h_ => h_) (.cons (t := 1) rfl (fun _ h_ => h_.elim) (.cons (t := 2) rfl (fun _ h_ => h_.elim) (.cons (t := 3) rfl (fun _ h_ => h_.elim) (.cons (t := 8) rfl (fun _ h_ => h_.elim) .nil))))), h⟩ ?_
  rintro k8 a s ⟨data5, i6, hL, h⟩ KL9 hKL9
  cases k8 with
  | zero => exact h.elim
  | succ k8 =>
  unfold slices_insertionSortCmpFunc_api_Class.l1 at h
  refine wp_seq_k fun K10 hK10 => ?_
  refine wp_seq_k fun K11 hK11 => ?_
  refine rg ?_
  refine st 12 (t_move (o_t 8 rfl) rfl rfl) rfl rfl hL fun a s e_ hL => ?_
  refine st 13 (t_move (o_t 2 rfl) rfl rfl) rfl rfl hL fun a s e_ hL => ?_
  refine st 14 (t_lss (o_t 12 rfl) (o_t 13 rfl) rfl rfl) rfl rfl hL fun a s e_ hL => ?_
  refine en' ?_
  show K11 a s.w
  refine hK11 _ _ ?_
  refine cnd hL rfl (fun hb_ => ?_) (fun hb_ => ?_)
  · replace h := h.1 hb_
    refine wp_skip ?_
    show K10 a s.w
    refine hK10 _ _ ?_
    refine wp_seq_k fun K12 hK12 => ?_
    refine wp_block ?_
    refine wp_seq_k fun K13 hK13 => ?_
    refine rg ?_
    refine st 17 (t_move (o_t 8 rfl) rfl rfl) rfl rfl hL fun a s e_ hL => ?_
    refine st 9 (t_assign (o_t 17 rfl) rfl rfl) rfl rfl hL fun a s e_ hL => ?_
    refine en' ?_
    show K13 a s.w
    refine hK13 _ _ ?_
    refine wp_block ?_
    have J15 : ∀ (data14 : (List Cl)) (a : Act) (s : St), Has (fun b => v0.ownBlock = some b) 53 s0 a s [(0, (Pd.prow En.cls 24 v0 data14)), (1, (Pd.rep (En.int .i64) a_)), (2, (Pd.rep (En.int .i64) b_)), (3, (Pd.rep EnF54 cmp_)), (8, (Pd.rep (En.int .i64) i6))] → ((slices_insertionSortCmpFunc_api_Class.j2 (slices_insertionSortCmpFunc_api_Class.l1 a_ b_ cmp_ (slices_insertionSortCmpFunc_api_Class.j1 r_) k8) i6) data14) → K12 a s.w := by
      intro data14 a s hL h
      unfold slices_insertionSortCmpFunc_api_Class.j2 at h
      show K12 a s.w
      refine hK12 _ _ ?_
      obtain ⟨h16, h⟩ := h
      refine rg ?_
      refine st 15 (t_move (o_t 8 rfl) rfl rfl) rfl rfl hL fun a s e_ hL => ?_
      refine st 16 (t_add (o_t 15 rfl) (o_i (by decide)) h16 rfl rfl) rfl rfl hL fun a s e_ hL => ?_
      refine st 8 (t_assign (o_t 16 rfl) rfl rfl) rfl rfl hL fun a s e_ hL => ?_
      refine en' ?_
      exact hKL9 k8 a s (Nat.lt_succ_self _) ⟨data14, (i6 + 1), hL.keep (.cons (t := 0) rfl (fun _ _ h_ => h_) (.cons (t := 1) rfl (fun _ h_ => h_.elim) (.cons (t := 2) rfl (fun _ h_ => h_.elim) (.cons (t := 3) rfl (fun _ h_ => h_.elim) (.cons (t := 8) rfl (fun _ h_ => h_.elim) .nil))))), h⟩
    obtain ⟨k19, h⟩ := h
    refine lpg (fun k20 a s => ∃ (data17 : (List Cl)) (j18 : Int), Has (fun b => v0.ownBlock = some b) 53 s0 a s [(0, (Pd.prow En.cls 24 v0 data17)), (1, (Pd.rep (En.int .i64) a_)), (2, (Pd.rep (En.int .i64) b_)), (3, (Pd.rep EnF54 cmp_)), (8, (Pd.rep (En.int .i64) i6)), (9, (Pd.rep (En.int .i64) j18))] ∧ slices_insertionSortCmpFunc_api_Class.l2 a_ cmp_ (slices_insertionSortCmpFunc_api_Class.j2 (slices_insertionSortCmpFunc_api_Class.l1 a_ b_ cmp_ (slices_insertionSortCmpFunc_api_Class.j1 r_) k8) i6) k20 data17 j18) k19 ⟨data5, i6, hL.keep (.cons (t := 0) rfl (fun _ _ h_ => h_) (.cons (t := 1) rfl (fun _ h_ => h_.elim) (.cons (t := 2) rfl (fun _ h_ => h_.elim) (.cons (t := 3) rfl (fun _ h_ => h_.elim) (.cons (t := 8) rfl (fun _ h_ => h_.elim) (.cons (t := 9) rfl (fun _ h_ => h_.elim) .nil)))))), h⟩ ?_
    rintro k20 a s ⟨data17, j18, hL, h⟩ KL21 hKL21
    cases k20 with
    | zero => exact h.elim
    | succ k20 =>
    unfold slices_insertionSortCmpFunc_api_Class.l2 at h
    refine wp_seq_k fun K22 hK22 => ?_
    refine wp_seq_k fun K23 hK23 => ?_
    obtain ⟨e24, h25, h26, e27, h28, r29, h30, h⟩ := h
    refine rda follows 17 [(Pd.rep (En.int .i64) j18), (Pd.rep (En.int .i64) a_), (Pd.rep En.bool (decide (a_ < j18))), (Pd.rep En.bool (decide (a_ < j18))), (Pd.when ((decide (a_ < j18)) = true) (Pd.rep EnF54 cmp_)), (Pd.when ((decide (a_ < j18)) = true) (Pd.prow En.cls 24 v0 data17)), (Pd.when ((decide (a_ < j18)) = true) (Pd.rep (En.int .i64) j18)), (Pd.when ((decide (a_ < j18)) = true) (Pd.optr En.cls 0 v0.ownBlock ((j18 : Int).toNat * En.cls.sz) e24)), (Pd.when ((decide (a_ < j18)) = true) (Pd.rep En.cls e24)), (Pd.when ((decide (a_ < j18)) = true) (Pd.prow En.cls 24 v0 data17)), (Pd.when ((decide (a_ < j18)) = true) (Pd.rep (En.int .i64) j18)), (Pd.when ((decide (a_ < j18)) = true) (Pd.rep (En.int .i64) (j18 - 1))), (Pd.when ((decide (a_ < j18)) = true) (Pd.optr En.cls 0 v0.ownBlock ((j18 - 1 : Int).toNat * En.cls.sz) e27)), (Pd.when ((decide (a_ < j18)) = true) (Pd.rep En.cls e27)), (Pd.when ((decide (a_ < j18)) = true) (Pd.rep (En.int .i64) r29)), (Pd.when ((decide (a_ < j18)) = true) (Pd.rep En.bool (decide (r29 < 0)))), (Pd.rep En.bool ((decide (a_ < j18)) && (decide (r29 < 0))))] hL (by kernel_rfl) rfl rfl ?_ ?_
    · refine AllT.cons (t_move (o_t 9 rfl) rfl rfl) ?_
      refine AllT.cons (t_move (o_t 1 rfl) rfl rfl) ?_
      refine AllT.cons (t_gtr (o_t 18 rfl) (o_t 19 rfl) rfl rfl) ?_
      refine AllT.cons (t_move (o_t 20 rfl) rfl rfl) ?_
      refine AllT.cons (t_g1 rfl rfl rfl (fun hc_ => t_move (o_t 3 rfl) rfl rfl)) ?_
      refine AllT.cons (t_g1 rfl rfl rfl (fun hc_ => t_move (o_t 0 rfl) rfl rfl)) ?_
      refine AllT.cons (t_g1 rfl rfl rfl (fun hc_ => t_move (o_t 9 rfl) rfl rfl)) ?_
      refine AllT.cons (t_g1 rfl rfl rfl (fun hc_ => t_idxo (o_p (o_w hc_ 23 rfl)) (o_w hc_ 24 rfl) (h25 hc_) Try.underlying42 ty24 rfl rfl)) ?_
      refine AllT.cons (t_g1 rfl rfl rfl (fun hc_ => t_loado ty24 (o_w hc_ 25 rfl) rfl rfl)) ?_
      refine AllT.cons (t_g1 rfl rfl rfl (fun hc_ => t_move (o_t 0 rfl) rfl rfl)) ?_
      refine AllT.cons (t_g1 rfl rfl rfl (fun hc_ => t_move (o_t 9 rfl) rfl rfl)) ?_
      refine AllT.cons (t_g1 rfl rfl rfl (fun hc_ => t_sub (o_w hc_ 28 rfl) (o_i (by decide)) (h26 hc_) rfl rfl)) ?_
      refine AllT.cons (t_g1 rfl rfl rfl (fun hc_ => t_idxo (o_p (o_w hc_ 27 rfl)) (o_w hc_ 29 rfl) (h28 hc_) Try.underlying42 ty24 rfl rfl)) ?_
      refine AllT.cons (t_g1 rfl rfl rfl (fun hc_ => t_loado ty24 (o_w hc_ 30 rfl) rfl rfl)) ?_
      refine AllT.cons (t_g1 rfl rfl rfl (fun hc_ => t_callf (q := (e24, e27, r29)) (o_w hc_ 22 rfl) (h30 hc_) (xs := [.tmp 26, .tmp 31]) (.cons (o_w hc_ 26 rfl) (.cons (o_w hc_ 31 rfl) .nil)) (fun _ _ _ h_ => h_) rfl rfl)) ?_
      refine AllT.cons (t_g1 rfl rfl rfl (fun hc_ => t_lss (o_w hc_ 32 rfl) (o_i (by decide)) rfl rfl)) ?_
      refine AllT.cons (t_and (o_t 21 rfl) (fun hc2_ => (o_w hc2_ 33 rfl)) rfl rfl) ?_
      exact AllT.nil
    intro a s e_ hL
    refine en' ?_
    show K23 a s.w
    refine hK23 _ _ ?_
    refine cnd hL rfl (fun hb_ => ?_) (fun hb_ => ?_)
    · replace h := h.1 hb_
      refine wp_skip ?_
      show K22 a s.w
      refine hK22 _ _ ?_
      refine wp_seq_k fun K31 hK31 => ?_
      refine wp_block ?_
      obtain ⟨h32, h33, e34, h35, e36, h37, e38, h39, e40, h41, h⟩ := h
      refine rdf 18 follows hL (by kernel_rfl) fun s e_ hL => ?_
      refine fl_take 2 39 hL (by rfl) (by kernel_rfl) (by kernel_rfl) (by kernel_rfl) (fun _ _ _ _ h => h) (q := (Pd.prow En.cls 24 v0 data17)) (y_move (o_t 0 rfl) rfl rfl) rfl rfl fun a hL => ?_
      refine fl_take 3 40 hL (by rfl) (by kernel_rfl) (by kernel_rfl) (by kernel_rfl) (fun _ _ _ _ h => h) (q := (Pd.rep (En.int .i64) j18)) (y_move (o_t 9 rfl) rfl rfl) rfl rfl fun a hL => ?_
      refine fl_take 4 41 hL (by rfl) (by kernel_rfl) (by kernel_rfl) (by kernel_rfl) (fun _ _ _ _ h => h) (q := (Pd.rep (En.int .i64) (j18 - 1))) (y_sub (o_t 40 rfl) (o_i (by decide)) h32 rfl rfl) rfl rfl fun a hL => ?_
      refine fl_go 15 [(Pd.prow En.cls 24 v0 data17), (Pd.rep (En.int .i64) j18), (Pd.prow En.cls 24 v0 data17), (Pd.rep (En.int .i64) j18), (Pd.rep (En.int .i64) (j18 - 1)), (Pd.prow En.cls 24 v0 data17), (Pd.rep (En.int .i64) j18), (Pd.rep (En.int .i64) (j18 - 1)), (Pd.optr En.cls 0 v0.ownBlock ((j18 - 1 : Int).toNat * En.cls.sz) e34), (Pd.rep En.cls e34), (Pd.prow En.cls 24 v0 data17), (Pd.rep (En.int .i64) j18), (Pd.optr En.cls 0 v0.ownBlock ((j18 : Int).toNat * En.cls.sz) e36), (Pd.rep En.cls e36), (Pd.optr En.cls 0 v0.ownBlock ((j18 : Int).toNat * En.cls.sz) e38)] [2, 3, 4] hL (by kernel_rfl) (by kernel_rfl) (by kernel_rfl) (.cons (i := 2) rfl rfl rfl rfl (.cons (i := 3) rfl rfl rfl rfl (.cons (i := 4) rfl rfl rfl rfl .nil))) rfl rfl ?_ ?_
      · refine AllF.cons (t_move (o_t 0 rfl) rfl rfl) ?_
        refine AllF.cons (t_move (o_t 9 rfl) rfl rfl) ?_
        refine AllF.skip rfl ?_
        refine AllF.skip rfl ?_
        refine AllF.skip rfl ?_
        refine AllF.cons (t_move (o_t 0 rfl) rfl rfl) ?_
        refine AllF.cons (t_move (o_t 9 rfl) rfl rfl) ?_
        refine AllF.cons (t_sub (o_t 43 rfl) (o_i (by decide)) h33 rfl rfl) ?_
        refine AllF.cons (t_idxo (o_p (o_t 42 rfl)) (o_t 44 rfl) h35 Try.underlying42 ty24 rfl rfl) ?_
        refine AllF.cons (t_loado ty24 (o_t 45 rfl) rfl rfl) ?_
        refine AllF.cons (t_move (o_t 0 rfl) rfl rfl) ?_
        refine AllF.cons (t_move (o_t 9 rfl) rfl rfl) ?_
        refine AllF.cons (t_idxo (o_p (o_t 47 rfl)) (o_t 48 rfl) h37 Try.underlying42 ty24 rfl rfl) ?_
        refine AllF.cons (t_loado ty24 (o_t 49 rfl) rfl rfl) ?_
        refine AllF.cons (t_idxo (o_p (o_t 37 rfl)) (o_t 38 rfl) h39 Try.underlying42 ty24 rfl rfl) ?_
        exact AllF.nil
      intro a s e_ hL
      refine st_storp (L' := [(0, (Pd.prow En.cls 24 v0 (data17.set (j18 : Int).toNat e34))), (1, (Pd.rep (En.int .i64) a_)), (2, (Pd.rep (En.int .i64) b_)), (3, (Pd.rep EnF54 cmp_)), (8, (Pd.rep (En.int .i64) i6)), (9, (Pd.rep (En.int .i64) j18)), (39, (Pd.prow En.cls 24 v0 (data17.set (j18 : Int).toNat e34))), (41, (Pd.rep (En.int .i64) (j18 - 1))), (50, (Pd.rep En.cls e36))]) (off := 0) 0 (fun b h => h) hL rfl h39 (o_t 51 rfl) (o_t 46 rfl) (sub_all _ _ _) ty24 rfl rfl rfl (.turn (t := 0) rfl (.cons (t := 1) rfl (fun _ h_ => h_.elim) (.cons (t := 2) rfl (fun _ h_ => h_.elim) (.cons (t := 3) rfl (fun _ h_ => h_.elim) (.cons (t := 8) rfl (fun _ h_ => h_.elim) (.cons (t := 9) rfl (fun _ h_ => h_.elim) (.turn (t := 39) rfl (.cons (t := 41) rfl (fun _ h_ => h_.elim) (.cons (t := 50) rfl (fun _ h_ => h_.elim) .nil))))))))) fun s hL => ?_
      refine st 52 (t_idxo (o_p (o_t 39 rfl)) (o_t 41 rfl) h41 Try.underlying42 ty24 rfl rfl) rfl rfl hL fun a s e_ hL => ?_
      refine st_storp (L' := [(0, (Pd.prow En.cls 24 v0 ((data17.set (j18 : Int).toNat e34).set (j18 - 1 : Int).toNat e36))), (1, (Pd.rep (En.int .i64) a_)), (2, (Pd.rep (En.int .i64) b_)), (3, (Pd.rep EnF54 cmp_)), (8, (Pd.rep (En.int .i64) i6)), (9, (Pd.rep (En.int .i64) j18))]) (off := 0) 0 (fun b h => h) hL rfl h41 (o_t 52 rfl) (o_t 50 rfl) (sub_all _ _ _) ty24 rfl rfl rfl (.turn (t := 0) rfl (.cons (t := 1) rfl (fun _ h_ => h_.elim) (.cons (t := 2) rfl (fun _ h_ => h_.elim) (.cons (t := 3) rfl (fun _ h_ => h_.elim) (.cons (t := 8) rfl (fun _ h_ => h_.elim) (.cons (t := 9) rfl (fun _ h_ => h_.elim) .nil)))))) fun s hL => ?_
      refine en' ?_
      show K31 a s.w
      refine hK31 _ _ ?_
      obtain ⟨h42, h⟩ := h
      refine rg ?_
      refine st 35 (t_move (o_t 9 rfl) rfl rfl) rfl rfl hL fun a s e_ hL => ?_
      refine st 36 (t_sub (o_t 35 rfl) (o_i (by decide)) h42 rfl rfl) rfl rfl hL fun a s e_ hL => ?_
      refine st 9 (t_assign (o_t 36 rfl) rfl rfl) rfl rfl hL fun a s e_ hL => ?_
      refine en' ?_
      exact hKL21 k20 a s (Nat.lt_succ_self _) ⟨((data17.set (j18 : Int).toNat e34).set (j18 - 1 : Int).toNat e36), (j18 - 1), hL.keep (.cons (t := 0) rfl (fun _ _ h_ => h_) (.cons (t := 1) rfl (fun _ h_ => h_.elim) (.cons (t := 2) rfl (fun _ h_ => h_.elim) (.cons (t := 3) rfl (fun _ h_ => h_.elim) (.cons (t := 8) rfl (fun _ h_ => h_.elim) (.cons (t := 9) rfl (fun _ h_ => h_.elim) .nil)))))), h⟩
    · replace h := h.2 hb_
      refine wp_exit ?_
      exact J15 data17 a s (hL.keep (.cons (t := 0) rfl (fun _ _ h_ => h_) (.cons (t := 1) rfl (fun _ h_ => h_.elim) (.cons (t := 2) rfl (fun _ h_ => h_.elim) (.cons (t := 3) rfl (fun _ h_ => h_.elim) (.cons (t := 8) rfl (fun _ h_ => h_.elim) .nil)))))) h
  · replace h := h.2 hb_
    refine wp_exit ?_
    exact J4 data5 a s (hL.keep (.cons (t := 0) rfl (fun _ _ h_ => h_) .nil)) h

theorem slices_swapRangeCmpFunc_api_Class_ok (v0 : Value) {data_ : (List Cl)} {a_ : Int} {b_ : Int} {n_ : Int} {cmp_ : (Cl × Cl × Int → Prop)} {r_ : (List Cl)} (h : slices_swapRangeCmpFunc_api_Class data_ a_ b_ n_ cmp_ r_) : Fm Try.prog 48 (fun b => v0.ownBlock = some b) [(Pd.prow En.cls 24 v0 data_), (Pd.rep (En.int .i64) a_), (Pd.rep (En.int .i64) b_), (Pd.rep (En.int .i64) n_), (Pd.rep EnF54 cmp_)] (fun _ s' _ => (Pd.prow En.cls 24 v0 r_).p s' v0) := by
  unfold slices_swapRangeCmpFunc_api_Class at h
  refine fm_of Try.func48 rfl Try.ntmps48 (by rfl) (by simp) fun s0 a hL => ?_
  refine wp_seq_k fun K1 hK1 => ?_
  refine rg ?_
  refine st 10 (t_assign (o_i (by decide)) rfl rfl) rfl rfl hL fun a s e_ hL => ?_
  refine en' ?_
  show K1 a s.w
  refine hK1 _ _ ?_
  refine wp_block ?_
  have J3 : ∀ (data2 : (List Cl)) (a : Act) (s : St), Has (fun b => v0.ownBlock = some b) 38 s0 a s [(0, (Pd.prow En.cls 24 v0 data2))] → ((slices_swapRangeCmpFunc_api_Class.j1 r_) data2) → (bodyPost Try.prog Try.f48 (Pst (fun b => v0.ownBlock = some b) (fun _ s' _ => (Pd.prow En.cls 24 v0 r_).p s' v0) s0) .normal) a s.w := by
    intro data2 a s hL h
    unfold slices_swapRangeCmpFunc_api_Class.j1 at h
    subst h
    exact retm rfl hL (c := 0) rfl
  obtain ⟨k6, h⟩ := h
  refine lpg (fun k7 a s => ∃ (data4 : (List Cl)) (i5 : Int), Has (fun b => v0.ownBlock = some b) 38 s0 a s [(0, (Pd.prow En.cls 24 v0 data4)), (1, (Pd.rep (En.int .i64) a_)), (2, (Pd.rep (En.int .i64) b_)), (3, (Pd.rep (En.int .i64) n_)), (10, (Pd.rep (En.int .i64) i5))] ∧ slices_swapRangeCmpFunc_api_Class.l1 a_ b_ n_ (slices_swapRangeCmpFunc_api_Class.j1 r_) k7 data4 i5) k6 ⟨data_, 0, hL.keep (.cons (t := 0) rfl (fun _ _ h_ => h_) (.cons (t := 1) rfl (fun _ h_ => h_.elim) (.cons (t := 2) rfl (fun _ h_ => h_.elim) (.cons (t := 3) rfl (fun _ h_ => h_.elim) (.cons (t := 10) rfl (fun _ h_ => h_.elim) .nil))))), h⟩ ?_
  rintro k7 a s ⟨data4, i5, hL, h⟩ KL8 hKL8
  cases k7 with
  | zero => exact h.elim
  | succ k7 =>
  unfold slices_swapRangeCmpFunc_api_Class.l1 at h
  refine wp_seq_k fun K9 hK9 => ?_
  refine wp_seq_k fun K10 hK10 => ?_
  refine rg ?_
  refine st 11 (t_move (o_t 10 rfl) rfl rfl) rfl rfl hL fun a s e_ hL => ?_
  refine st 12 (t_move (o_t 3 rfl) rfl rfl) rfl rfl hL fun a s e_ hL => ?_
  refine st 13 (t_lss (o_t 11 rfl) (o_t 12 rfl) rfl rfl) rfl rfl hL fun a s e_ hL => ?_
  refine en' ?_
  show K10 a s.w
  refine hK10 _ _ ?_
  refine cnd hL rfl (fun hb_ => ?_) (fun hb_ => ?_)
  · replace h := h.1 hb_
    refine wp_skip ?_
    show K9 a s.w
    refine hK9 _ _ ?_
    refine wp_seq_k fun K11 hK11 => ?_
    refine wp_block ?_
    obtain ⟨h12, h13, h14, e15, h16, h17, e18, h19, e20, h21, e22, h23, h⟩ := h
    refine rdf 24 follows hL (by kernel_rfl) fun s e_ hL => ?_
    refine fl_take 4 20 hL (by rfl) (by kernel_rfl) (by kernel_rfl) (by kernel_rfl) (fun _ _ _ _ h => h) (q := (Pd.prow En.cls 24 v0 data4)) (y_move (o_t 0 rfl) rfl rfl) rfl rfl fun a hL => ?_
    refine fl_take 5 21 hL (by rfl) (by kernel_rfl) (by kernel_rfl) (by kernel_rfl) (fun _ _ _ _ h => h) (q := (Pd.rep (En.int .i64) b_)) (y_move (o_t 2 rfl) rfl rfl) rfl rfl fun a hL => ?_
    refine fl_take 6 22 hL (by rfl) (by kernel_rfl) (by kernel_rfl) (by kernel_rfl) (fun _ _ _ _ h => h) (q := (Pd.rep (En.int .i64) i5)) (y_move (o_t 10 rfl) rfl rfl) rfl rfl fun a hL => ?_
    refine fl_take 7 23 hL (by rfl) (by kernel_rfl) (by kernel_rfl) (by kernel_rfl) (fun _ _ _ _ h => h) (q := (Pd.rep (En.int .i64) (b_ + i5))) (y_add (o_t 21 rfl) (o_t 22 rfl) h13 rfl rfl) rfl rfl fun a hL => ?_
    refine fl_go 21 [(Pd.prow En.cls 24 v0 data4), (Pd.rep (En.int .i64) a_), (Pd.rep (En.int .i64) i5), (Pd.rep (En.int .i64) (a_ + i5)), (Pd.prow En.cls 24 v0 data4), (Pd.rep (En.int .i64) b_), (Pd.rep (En.int .i64) i5), (Pd.rep (En.int .i64) (b_ + i5)), (Pd.prow En.cls 24 v0 data4), (Pd.rep (En.int .i64) b_), (Pd.rep (En.int .i64) i5), (Pd.rep (En.int .i64) (b_ + i5)), (Pd.optr En.cls 0 v0.ownBlock ((b_ + i5 : Int).toNat * En.cls.sz) e15), (Pd.rep En.cls e15), (Pd.prow En.cls 24 v0 data4), (Pd.rep (En.int .i64) a_), (Pd.rep (En.int .i64) i5), (Pd.rep (En.int .i64) (a_ + i5)), (Pd.optr En.cls 0 v0.ownBlock ((a_ + i5 : Int).toNat * En.cls.sz) e18), (Pd.rep En.cls e18), (Pd.optr En.cls 0 v0.ownBlock ((a_ + i5 : Int).toNat * En.cls.sz) e20)] [4, 5, 6, 7] hL (by kernel_rfl) (by kernel_rfl) (by kernel_rfl) (.cons (i := 4) rfl rfl rfl rfl (.cons (i := 5) rfl rfl rfl rfl (.cons (i := 6) rfl rfl rfl rfl (.cons (i := 7) rfl rfl rfl rfl .nil)))) rfl rfl ?_ ?_
    · refine AllF.cons (t_move (o_t 0 rfl) rfl rfl) ?_
      refine AllF.cons (t_move (o_t 1 rfl) rfl rfl) ?_
      refine AllF.cons (t_move (o_t 10 rfl) rfl rfl) ?_
      refine AllF.cons (t_add (o_t 17 rfl) (o_t 18 rfl) h12 rfl rfl) ?_
      refine AllF.skip rfl ?_
      refine AllF.skip rfl ?_
      refine AllF.skip rfl ?_
      refine AllF.skip rfl ?_
      refine AllF.cons (t_move (o_t 0 rfl) rfl rfl) ?_
      refine AllF.cons (t_move (o_t 2 rfl) rfl rfl) ?_
      refine AllF.cons (t_move (o_t 10 rfl) rfl rfl) ?_
      refine AllF.cons (t_add (o_t 25 rfl) (o_t 26 rfl) h14 rfl rfl) ?_
      refine AllF.cons (t_idxo (o_p (o_t 24 rfl)) (o_t 27 rfl) h16 Try.underlying42 ty24 rfl rfl) ?_
      refine AllF.cons (t_loado ty24 (o_t 28 rfl) rfl rfl) ?_
      refine AllF.cons (t_move (o_t 0 rfl) rfl rfl) ?_
      refine AllF.cons (t_move (o_t 1 rfl) rfl rfl) ?_
      refine AllF.cons (t_move (o_t 10 rfl) rfl rfl) ?_
      refine AllF.cons (t_add (o_t 31 rfl) (o_t 32 rfl) h17 rfl rfl) ?_
      refine AllF.cons (t_idxo (o_p (o_t 30 rfl)) (o_t 33 rfl) h19 Try.underlying42 ty24 rfl rfl) ?_
      refine AllF.cons (t_loado ty24 (o_t 34 rfl) rfl rfl) ?_
      refine AllF.cons (t_idxo (o_p (o_t 16 rfl)) (o_t 19 rfl) h21 Try.underlying42 ty24 rfl rfl) ?_
      exact AllF.nil
    intro a s e_ hL
    refine st_storp (L' := [(0, (Pd.prow En.cls 24 v0 (data4.set (a_ + i5 : Int).toNat e15))), (1, (Pd.rep (En.int .i64) a_)), (2, (Pd.rep (En.int .i64) b_)), (3, (Pd.rep (En.int .i64) n_)), (10, (Pd.rep (En.int .i64) i5)), (20, (Pd.prow En.cls 24 v0 (data4.set (a_ + i5 : Int).toNat e15))), (23, (Pd.rep (En.int .i64) (b_ + i5))), (35, (Pd.rep En.cls e18))]) (off := 0) 0 (fun b h => h) hL rfl h21 (o_t 36 rfl) (o_t 29 rfl) (sub_all _ _ _) ty24 rfl rfl rfl (.turn (t := 0) rfl (.cons (t := 1) rfl (fun _ h_ => h_.elim) (.cons (t := 2) rfl (fun _ h_ => h_.elim) (.cons (t := 3) rfl (fun _ h_ => h_.elim) (.cons (t := 10) rfl (fun _ h_ => h_.elim) (.turn (t := 20) rfl (.cons (t := 23) rfl (fun _ h_ => h_.elim) (.cons (t := 35) rfl (fun _ h_ => h_.elim) .nil)))))))) fun s hL => ?_
    refine st 37 (t_idxo (o_p (o_t 20 rfl)) (o_t 23 rfl) h23 Try.underlying42 ty24 rfl rfl) rfl rfl hL fun a s e_ hL => ?_
    refine st_storp (L' := [(0, (Pd.prow En.cls 24 v0 ((data4.set (a_ + i5 : Int).toNat e15).set (b_ + i5 : Int).toNat e18))), (1, (Pd.rep (En.int .i64) a_)), (2, (Pd.rep (En.int .i64) b_)), (3, (Pd.rep (En.int .i64) n_)), (10, (Pd.rep (En.int .i64) i5))]) (off := 0) 0 (fun b h => h) hL rfl h23 (o_t 37 rfl) (o_t 35 rfl) (sub_all _ _ _) ty24 rfl rfl rfl (.turn (t := 0) rfl (.cons (t := 1) rfl (fun _ h_ => h_.elim) (.cons (t := 2) rfl (fun _ h_ => h_.elim) (.cons (t := 3) rfl (fun _ h_ => h_.elim) (.cons (t := 10) rfl (fun _ h_ => h_.elim) .nil))))) fun s hL => ?_
    refine en' ?_
    show K11 a s.w
    refine hK11 _ _ ?_
    obtain ⟨h24, h⟩ := h
    refine rg ?_
    refine st 14 (t_move (o_t 10 rfl) rfl rfl) rfl rfl hL fun a s e_ hL => ?_
    refine st 15 (t_add (o_t 14 rfl) (o_i (by decide)) h24 rfl rfl) rfl rfl hL fun a s e_ hL => ?_
    refine st 10 (t_assign (o_t 15 rfl) rfl rfl) rfl rfl hL fun a s e_ hL => ?_
    refine en' ?_
    exact hKL8 k7 a s (Nat.lt_succ_self _) ⟨((data4.set (a_ + i5 : Int).toNat e15).set (b_ + i5 : Int).toNat e18), (i5 + 1), hL.keep (.cons (t := 0) rfl (fun _ _ h_ => h_) (.cons (t := 1) rfl (fun _ h_ => h_.elim) (.cons (t := 2) rfl (fun _ h_ => h_.elim) (.cons (t := 3) rfl (fun _ h_ => h_.elim) (.cons (t := 10) rfl (fun _ h_ => h_.elim) .nil))))), h⟩
  · replace h := h.2 hb_
    refine wp_exit ?_
    exact J3 data4 a s (hL.keep (.cons (t := 0) rfl (fun _ _ h_ => h_) .nil)) h

theorem slices_rotateCmpFunc_api_Class_ok (v0 : Value) {data_ : (List Cl)} {a_ : Int} {m_ : Int} {b_ : Int} {cmp_ : (Cl × Cl × Int → Prop)} {r_ : (List Cl)} (h : slices_rotateCmpFunc_api_Class data_ a_ m_ b_ cmp_ r_) : Fm Try.prog 47 (fun b => v0.ownBlock = some b) [(Pd.prow En.cls 24 v0 data_), (Pd.rep (En.int .i64) a_), (Pd.rep (En.int .i64) m_), (Pd.rep (En.int .i64) b_), (Pd.rep EnF54 cmp_)] (fun _ s' _ => (Pd.prow En.cls 24 v0 r_).p s' v0) := by
  unfold slices_rotateCmpFunc_api_Class at h
  refine fm_of Try.func47 rfl Try.ntmps47 (by rfl) (by simp) fun s0 a hL => ?_
  refine wp_seq_k fun K1 hK1 => ?_
  obtain ⟨h2, h⟩ := h
  refine rg ?_
  refine st 12 (t_move (o_t 2 rfl) rfl rfl) rfl rfl hL fun a s e_ hL => ?_
  refine st 13 (t_move (o_t 1 rfl) rfl rfl) rfl rfl hL fun a s e_ hL => ?_
  refine st 14 (t_sub (o_t 12 rfl) (o_t 13 rfl) h2 rfl rfl) rfl rfl hL fun a s e_ hL => ?_
  refine st 10 (t_assign (o_t 14 rfl) rfl rfl) rfl rfl hL fun a s e_ hL => ?_
  refine en' ?_
  show K1 a s.w
  refine hK1 _ _ ?_
  refine wp_seq_k fun K3 hK3 => ?_
  obtain ⟨h4, h⟩ := h
  refine rg ?_
  refine st 15 (t_move (o_t 3 rfl) rfl rfl) rfl rfl hL fun a s e_ hL => ?_
  refine st 16 (t_move (o_t 2 rfl) rfl rfl) rfl rfl hL fun a s e_ hL => ?_
  refine st 17 (t_sub (o_t 15 rfl) (o_t 16 rfl) h4 rfl rfl) rfl rfl hL fun a s e_ hL => ?_
  refine st 11 (t_assign (o_t 17 rfl) rfl rfl) rfl rfl hL fun a s e_ hL => ?_
  refine en' ?_
  show K3 a s.w
  refine hK3 _ _ ?_
  refine wp_seq_k fun K5 hK5 => ?_
  refine wp_block ?_
  have J8 : ∀ (data6 : (List Cl)) (i7 : Int) (a : Act) (s : St), Has (fun b => v0.ownBlock = some b) 58 s0 a s [(0, (Pd.prow En.cls 24 v0 data6)), (2, (Pd.rep (En.int .i64) m_)), (4, (Pd.rep EnF54 cmp_)), (10, (Pd.rep (En.int .i64) i7))] → ((slices_rotateCmpFunc_api_Class.j1 m_ cmp_ r_) data6 i7) → K5 a s.w := by
    intro data6 i7 a s hL h
    unfold slices_rotateCmpFunc_api_Class.j1 at h
    show K5 a s.w
    refine hK5 _ _ ?_
    obtain ⟨h9, r10, h11, h⟩ := h
    refine rg ?_
    refine st 50 (t_move (o_t 0 rfl) rfl rfl) rfl rfl hL fun a s e_ hL => ?_
    refine st 51 (t_move (o_t 2 rfl) rfl rfl) rfl rfl hL fun a s e_ hL => ?_
    refine st 52 (t_move (o_t 10 rfl) rfl rfl) rfl rfl hL fun a s e_ hL => ?_
    refine st 53 (t_sub (o_t 51 rfl) (o_t 52 rfl) h9 rfl rfl) rfl rfl hL fun a s e_ hL => ?_
    refine st 54 (t_move (o_t 2 rfl) rfl rfl) rfl rfl hL fun a s e_ hL => ?_
    refine st 55 (t_move (o_t 10 rfl) rfl rfl) rfl rfl hL fun a s e_ hL => ?_
    refine st 56 (t_move (o_t 4 rfl) rfl rfl) rfl rfl hL fun a s e_ hL => ?_
    refine st_callm (L' := [(0, (Pd.prow En.cls 24 v0 r10))]) 57 (fun v0 => slices_swapRangeCmpFunc_api_Class_ok v0 h11) hL (fun b h => h) (o_t 50 rfl) (zs := [.tmp 53, .tmp 54, .tmp 55, .tmp 56]) (.cons (o_t 53 rfl) (.cons (o_t 54 rfl) (.cons (o_t 55 rfl) (.cons (o_t 56 rfl) .nil)))) rfl rfl rfl rfl (.turn (t := 0) rfl .nil) fun a s hL => ?_
    refine en' ?_
    subst h
    exact retm rfl hL (c := 0) rfl
  obtain ⟨k15, h⟩ := h
  refine lpg (fun k16 a s => ∃ (data12 : (List Cl)) (i13 : Int) (j14 : Int), Has (fun b => v0.ownBlock = some b) 58 s0 a s [(0, (Pd.prow En.cls 24 v0 data12)), (2, (Pd.rep (En.int .i64) m_)), (4, (Pd.rep EnF54 cmp_)), (10, (Pd.rep (En.int .i64) i13)), (11, (Pd.rep (En.int .i64) j14))] ∧ slices_rotateCmpFunc_api_Class.l1 m_ cmp_ (slices_rotateCmpFunc_api_Class.j1 m_ cmp_ r_) k16 data12 i13 j14) k15 ⟨data_, (m_ - a_), (b_ - m_), hL.keep (.cons (t := 0) rfl (fun _ _ h_ => h_) (.cons (t := 2) rfl (fun _ h_ => h_.elim) (.cons (t := 4) rfl (fun _ h_ => h_.elim) (.cons (t := 10) rfl (fun _ h_ => h_.elim) (.cons (t := 11) rfl (fun _ h_ => h_.elim) .nil))))), h⟩ ?_
  rintro k16 a s ⟨data12, i13, j14, hL, h⟩ KL17 hKL17
  cases k16 with
  | zero => exact h.elim
  | succ k16 =>
  unfold slices_rotateCmpFunc_api_Class.l1 at h
  refine wp_seq_k fun K18 hK18 => ?_
  refine wp_seq_k fun K19 hK19 => ?_
  refine rg ?_
  refine st 18 (t_move (o_t 10 rfl) rfl rfl) rfl rfl hL fun a s e_ hL => ?_
  refine st 19 (t_move (o_t 11 rfl) rfl rfl) rfl rfl hL fun a s e_ hL => ?_
  refine st 20 (t_nei (o_t 18 rfl) (o_t 19 rfl) rfl rfl) rfl rfl hL fun a s e_ hL => ?_
  refine en' ?_
  show K19 a s.w
  refine hK19 _ _ ?_
  refine cnd hL rfl (fun hb_ => ?_) (fun hb_ => ?_)
  · replace h := h.1 hb_
    refine wp_skip ?_
    show K18 a s.w
    refine hK18 _ _ ?_
    refine wp_block ?_
    refine wp_seq_k fun K20 hK20 => ?_
    refine rg ?_
    refine st 21 (t_move (o_t 10 rfl) rfl rfl) rfl rfl hL fun a s e_ hL => ?_
    refine st 22 (t_move (o_t 11 rfl) rfl rfl) rfl rfl hL fun a s e_ hL => ?_
    refine st 23 (t_gtr (o_t 21 rfl) (o_t 22 rfl) rfl rfl) rfl rfl hL fun a s e_ hL => ?_
    refine en' ?_
    show K20 a s.w
    refine hK20 _ _ ?_
    refine cnd hL rfl (fun hb_ => ?_) (fun hb_ => ?_)
    · replace h := h.1 hb_
      refine wp_seq_k fun K21 hK21 => ?_
      obtain ⟨h22, r23, h24, h⟩ := h
      refine rg ?_
      refine st 24 (t_move (o_t 0 rfl) rfl rfl) rfl rfl hL fun a s e_ hL => ?_
      refine st 25 (t_move (o_t 2 rfl) rfl rfl) rfl rfl hL fun a s e_ hL => ?_
      refine st 26 (t_move (o_t 10 rfl) rfl rfl) rfl rfl hL fun a s e_ hL => ?_
      refine st 27 (t_sub (o_t 25 rfl) (o_t 26 rfl) h22 rfl rfl) rfl rfl hL fun a s e_ hL => ?_
      refine st 28 (t_move (o_t 2 rfl) rfl rfl) rfl rfl hL fun a s e_ hL => ?_
      refine st 29 (t_move (o_t 11 rfl) rfl rfl) rfl rfl hL fun a s e_ hL => ?_
      refine st 30 (t_move (o_t 4 rfl) rfl rfl) rfl rfl hL fun a s e_ hL => ?_
      refine st_callm (L' := [(0, (Pd.prow En.cls 24 v0 r23)), (2, (Pd.rep (En.int .i64) m_)), (4, (Pd.rep EnF54 cmp_)), (10, (Pd.rep (En.int .i64) i13)), (11, (Pd.rep (En.int .i64) j14))]) 31 (fun v0 => slices_swapRangeCmpFunc_api_Class_ok v0 h24) hL (fun b h => h) (o_t 24 rfl) (zs := [.tmp 27, .tmp 28, .tmp 29, .tmp 30]) (.cons (o_t 27 rfl) (.cons (o_t 28 rfl) (.cons (o_t 29 rfl) (.cons (o_t 30 rfl) .nil)))) rfl rfl rfl rfl (.turn (t := 0) rfl (.cons (t := 2) rfl (fun _ h_ => h_.elim) (.cons (t := 4) rfl (fun _ h_ => h_.elim) (.cons (t := 10) rfl (fun _ h_ => h_.elim) (.cons (t := 11) rfl (fun _ h_ => h_.elim) .nil))))) fun a s hL => ?_
      refine en' ?_
      show K21 a s.w
      refine hK21 _ _ ?_
      obtain ⟨h25, h⟩ := h
      refine rg ?_
      refine st 32 (t_move (o_t 10 rfl) rfl rfl) rfl rfl hL fun a s e_ hL => ?_
      refine st 33 (t_move (o_t 11 rfl) rfl rfl) rfl rfl hL fun a s e_ hL => ?_
      refine st 34 (t_sub (o_t 32 rfl) (o_t 33 rfl) h25 rfl rfl) rfl rfl hL fun a s e_ hL => ?_
      refine st 10 (t_assign (o_t 34 rfl) rfl rfl) rfl rfl hL fun a s e_ hL => ?_
      refine en' ?_
      exact hKL17 k16 a s (Nat.lt_succ_self _) ⟨r23, (i13 - j14), j14, hL.keep (.cons (t := 0) rfl (fun _ _ h_ => h_) (.cons (t := 2) rfl (fun _ h_ => h_.elim) (.cons (t := 4) rfl (fun _ h_ => h_.elim) (.cons (t := 10) rfl (fun _ h_ => h_.elim) (.cons (t := 11) rfl (fun _ h_ => h_.elim) .nil))))), h⟩
    · replace h := h.2 hb_
      refine wp_seq_k fun K26 hK26 => ?_
      obtain ⟨h27, h28, h29, r30, h31, h⟩ := h
      refine rg ?_
      refine st 35 (t_move (o_t 0 rfl) rfl rfl) rfl rfl hL fun a s e_ hL => ?_
      refine st 36 (t_move (o_t 2 rfl) rfl rfl) rfl rfl hL fun a s e_ hL => ?_
      refine st 37 (t_move (o_t 10 rfl) rfl rfl) rfl rfl hL fun a s e_ hL => ?_
      refine st 38 (t_sub (o_t 36 rfl) (o_t 37 rfl) h27 rfl rfl) rfl rfl hL fun a s e_ hL => ?_
      refine st 39 (t_move (o_t 2 rfl) rfl rfl) rfl rfl hL fun a s e_ hL => ?_
      refine st 40 (t_move (o_t 11 rfl) rfl rfl) rfl rfl hL fun a s e_ hL => ?_
      refine st 41 (t_add (o_t 39 rfl) (o_t 40 rfl) h28 rfl rfl) rfl rfl hL fun a s e_ hL => ?_
      refine st 42 (t_move (o_t 10 rfl) rfl rfl) rfl rfl hL fun a s e_ hL => ?_
      refine st 43 (t_sub (o_t 41 rfl) (o_t 42 rfl) h29 rfl rfl) rfl rfl hL fun a s e_ hL => ?_
      refine st 44 (t_move (o_t 10 rfl) rfl rfl) rfl rfl hL fun a s e_ hL => ?_
      refine st 45 (t_move (o_t 4 rfl) rfl rfl) rfl rfl hL fun a s e_ hL => ?_
      refine st_callm (L' := [(0, (Pd.prow En.cls 24 v0 r30)), (2, (Pd.rep (En.int .i64) m_)), (4, (Pd.rep EnF54 cmp_)), (10, (Pd.rep (En.int .i64) i13)), (11, (Pd.rep (En.int .i64) j14))]) 46 (fun v0 => slices_swapRangeCmpFunc_api_Class_ok v0 h31) hL (fun b h => h) (o_t 35 rfl) (zs := [.tmp 38, .tmp 43, .tmp 44, .tmp 45]) (.cons (o_t 38 rfl) (.cons (o_t 43 rfl) (.cons (o_t 44 rfl) (.cons (o_t 45 rfl) .nil)))) rfl rfl rfl rfl (.turn (t := 0) rfl (.cons (t := 2) rfl (fun _ h_ => h_.elim) (.cons (t := 4) rfl (fun _ h_ => h_.elim) (.cons (t := 10) rfl (fun _ h_ => h_.elim) (.cons (t := 11) rfl (fun _ h_ => h_.elim) .nil))))) fun a s hL => ?_
      refine en' ?_
      show K26 a s.w
      refine hK26 _ _ ?_
      obtain ⟨h32, h⟩ := h
      refine rg ?_
      refine st 47 (t_move (o_t 11 rfl) rfl rfl) rfl rfl hL fun a s e_ hL => ?_
      refine st 48 (t_move (o_t 10 rfl) rfl rfl) rfl rfl hL fun a s e_ hL => ?_
      refine st 49 (t_sub (o_t 47 rfl) (o_t 48 rfl) h32 rfl rfl) rfl rfl hL fun a s e_ hL => ?_
      refine st 11 (t_assign (o_t 49 rfl) rfl rfl) rfl rfl hL fun a s e_ hL => ?_
      refine en' ?_
      exact hKL17 k16 a s (Nat.lt_succ_self _) ⟨r30, i13, (j14 - i13), hL.keep (.cons (t := 0) rfl (fun _ _ h_ => h_) (.cons (t := 2) rfl (fun _ h_ => h_.elim) (.cons (t := 4) rfl (fun _ h_ => h_.elim) (.cons (t := 10) rfl (fun _ h_ => h_.elim) (.cons (t := 11) rfl (fun _ h_ => h_.elim) .nil))))), h⟩
  · replace h := h.2 hb_
    refine wp_exit ?_
    exact J8 data12 i13 a s (hL.keep (.cons (t := 0) rfl (fun _ _ h_ => h_) (.cons (t := 2) rfl (fun _ h_ => h_.elim) (.cons (t := 4) rfl (fun _ h_ => h_.elim) (.cons (t := 10) rfl (fun _ h_ => h_.elim) .nil))))) h

theorem slices_symMergeCmpFunc_api_Class.n_ok (k_ : Nat) : ∀ (v0 : Value) {data_ : (List Cl)} {a_ : Int} {m_ : Int} {b_ : Int} {cmp_ : (Cl × Cl × Int → Prop)} {r_ : (List Cl)} (h : slices_symMergeCmpFunc_api_Class.n k_ data_ a_ m_ b_ cmp_ r_), Fm Try.prog 46 (fun b => v0.ownBlock = some b) [(Pd.prow En.cls 24 v0 data_), (Pd.rep (En.int .i64) a_), (Pd.rep (En.int .i64) m_), (Pd.rep (En.int .i64) b_), (Pd.rep EnF54 cmp_)] (fun _ s' _ => (Pd.prow En.cls 24 v0 r_).p s' v0) := by
  induction k_ with
  | zero => intro v0 data_ a_ m_ b_ cmp_ r_ h; exact h.elim
  | succ k_ ih_ =>
  intro v0 data_ a_ m_ b_ cmp_ r_ h
  unfold slices_symMergeCmpFunc_api_Class.n at h
  refine fm_of Try.func46 rfl Try.ntmps46 (by rfl) (by simp) fun s0 a hL => ?_
  refine wp_seq_k fun K1 hK1 => ?_
  refine wp_seq_k fun K2 hK2 => ?_
  obtain ⟨h3, h⟩ := h
  refine rg ?_
  refine st 25 (t_move (o_t 2 rfl) rfl rfl) rfl rfl hL fun a s e_ hL => ?_
  refine st 26 (t_move (o_t 1 rfl) rfl rfl) rfl rfl hL fun a s e_ hL => ?_
  refine st 27 (t_sub (o_t 25 rfl) (o_t 26 rfl) h3 rfl rfl) rfl rfl hL fun a s e_ hL => ?_
  refine st 28 (t_eqi (o_t 27 rfl) (o_i (by decide)) rfl rfl) rfl rfl hL fun a s e_ hL => ?_
  refine en' ?_
  show K2 a s.w
  refine hK2 _ _ ?_
  refine cnd hL rfl (fun hb_ => ?_) (fun hb_ => ?_)
  · replace h := h.1 hb_
    refine wp_seq_k fun K4 hK4 => ?_
    refine rg ?_
    refine st 29 (t_move (o_t 2 rfl) rfl rfl) rfl rfl hL fun a s e_ hL => ?_
    refine st 10 (t_assign (o_t 29 rfl) rfl rfl) rfl rfl hL fun a s e_ hL => ?_
    refine en' ?_
    show K4 a s.w
    refine hK4 _ _ ?_
    refine wp_seq_k fun K5 hK5 => ?_
    refine rg ?_
    refine st 30 (t_move (o_t 3 rfl) rfl rfl) rfl rfl hL fun a s e_ hL => ?_
    refine st 11 (t_assign (o_t 30 rfl) rfl rfl) rfl rfl hL fun a s e_ hL => ?_
    refine en' ?_
    show K5 a s.w
    refine hK5 _ _ ?_
    refine wp_seq_k fun K6 hK6 => ?_
    refine wp_block ?_
    have J8 : ∀ (i7 : Int) (a : Act) (s : St), Has (fun b => v0.ownBlock = some b) 220 s0 a s [(0, (Pd.prow En.cls 24 v0 data_)), (1, (Pd.rep (En.int .i64) a_)), (10, (Pd.rep (En.int .i64) i7))] → ((slices_symMergeCmpFunc_api_Class.j2 data_ a_ r_) i7) → K6 a s.w := by
      intro i7 a s hL h
      unfold slices_symMergeCmpFunc_api_Class.j2 at h
      show K6 a s.w
      refine hK6 _ _ ?_
      refine wp_seq_k fun K9 hK9 => ?_
      refine wp_seq_k fun K10 hK10 => ?_
      refine rg ?_
      refine st 54 (t_move (o_t 1 rfl) rfl rfl) rfl rfl hL fun a s e_ hL => ?_
      refine st 13 (t_assign (o_t 54 rfl) rfl rfl) rfl rfl hL fun a s e_ hL => ?_
      refine en' ?_
      show K10 a s.w
      refine hK10 _ _ ?_
      refine wp_block ?_
      have J12 : ∀ (data11 : (List Cl)) (a : Act) (s : St), Has (fun b => v0.ownBlock = some b) 220 s0 a s [(0, (Pd.prow En.cls 24 v0 data11))] → ((slices_symMergeCmpFunc_api_Class.j1 r_) data11) → K9 a s.w := by
        intro data11 a s hL h
        unfold slices_symMergeCmpFunc_api_Class.j1 at h
        show K9 a s.w
        refine hK9 _ _ ?_
        subst h
        exact wp_ret (retm rfl hL (c := 0) rfl)
      obtain ⟨k15, h⟩ := h
      refine lpg (fun k16 a s => ∃ (data13 : (List Cl)) (k14 : Int), Has (fun b => v0.ownBlock = some b) 220 s0 a s [(0, (Pd.prow En.cls 24 v0 data13)), (10, (Pd.rep (En.int .i64) i7)), (13, (Pd.rep (En.int .i64) k14))] ∧ slices_symMergeCmpFunc_api_Class.l1 i7 (slices_symMergeCmpFunc_api_Class.j1 r_) k16 data13 k14) k15 ⟨data_, a_, hL.keep (.cons (t := 0) rfl (fun _ _ h_ => h_) (.cons (t := 10) rfl (fun _ h_ => h_.elim) (.cons (t := 13) rfl (fun _ h_ => h_.elim) .nil))), h⟩ ?_
      rintro k16 a s ⟨data13, k14, hL, h⟩ KL17 hKL17
      cases k16 with
      | zero => exact h.elim
      | succ k16 =>
      unfold slices_symMergeCmpFunc_api_Class.l1 at h
      refine wp_seq_k fun K18 hK18 => ?_
      refine wp_seq_k fun K19 hK19 => ?_
      obtain ⟨h20, h⟩ := h
      refine rg ?_
      refine st 55 (t_move (o_t 13 rfl) rfl rfl) rfl rfl hL fun a s e_ hL => ?_
      refine st 56 (t_move (o_t 10 rfl) rfl rfl) rfl rfl hL fun a s e_ hL => ?_
      refine st 57 (t_sub (o_t 56 rfl) (o_i (by decide)) h20 rfl rfl) rfl rfl hL fun a s e_ hL => ?_
      refine st 58 (t_lss (o_t 55 rfl) (o_t 57 rfl) rfl rfl) rfl rfl hL fun a s e_ hL => ?_
      refine en' ?_
      show K19 a s.w
      refine hK19 _ _ ?_
      refine cnd hL rfl (fun hb_ => ?_) (fun hb_ => ?_)
      · replace h := h.1 hb_
        refine wp_skip ?_
        show K18 a s.w
        refine hK18 _ _ ?_
        refine wp_seq_k fun K21 hK21 => ?_
        refine wp_block ?_
        obtain ⟨h22, h23, e24, h25, e26, h27, e28, h29, e30, h31, h⟩ := h
        refine rdf 18 follows hL (by kernel_rfl) fun s e_ hL => ?_
        refine fl_take 2 63 hL (by rfl) (by kernel_rfl) (by kernel_rfl) (by kernel_rfl) (fun _ _ _ _ h => h) (q := (Pd.prow En.cls 24 v0 data13)) (y_move (o_t 0 rfl) rfl rfl) rfl rfl fun a hL => ?_
        refine fl_take 3 64 hL (by rfl) (by kernel_rfl) (by kernel_rfl) (by kernel_rfl) (fun _ _ _ _ h => h) (q := (Pd.rep (En.int .i64) k14)) (y_move (o_t 13 rfl) rfl rfl) rfl rfl fun a hL => ?_
        refine fl_take 4 65 hL (by rfl) (by kernel_rfl) (by kernel_rfl) (by kernel_rfl) (fun _ _ _ _ h => h) (q := (Pd.rep (En.int .i64) (k14 + 1))) (y_add (o_t 64 rfl) (o_i (by decide)) h22 rfl rfl) rfl rfl fun a hL => ?_
        refine fl_go 15 [(Pd.prow En.cls 24 v0 data13), (Pd.rep (En.int .i64) k14), (Pd.prow En.cls 24 v0 data13), (Pd.rep (En.int .i64) k14), (Pd.rep (En.int .i64) (k14 + 1)), (Pd.prow En.cls 24 v0 data13), (Pd.rep (En.int .i64) k14), (Pd.rep (En.int .i64) (k14 + 1)), (Pd.optr En.cls 0 v0.ownBlock ((k14 + 1 : Int).toNat * En.cls.sz) e24), (Pd.rep En.cls e24), (Pd.prow En.cls 24 v0 data13), (Pd.rep (En.int .i64) k14), (Pd.optr En.cls 0 v0.ownBlock ((k14 : Int).toNat * En.cls.sz) e26), (Pd.rep En.cls e26), (Pd.optr En.cls 0 v0.ownBlock ((k14 : Int).toNat * En.cls.sz) e28)] [2, 3, 4] hL (by kernel_rfl) (by kernel_rfl) (by kernel_rfl) (.cons (i := 2) rfl rfl rfl rfl (.cons (i := 3) rfl rfl rfl rfl (.cons (i := 4) rfl rfl rfl rfl .nil))) rfl rfl ?_ ?_
        · refine AllF.cons (t_move (o_t 0 rfl) rfl rfl) ?_
          refine AllF.cons (t_move (o_t 13 rfl) rfl rfl) ?_
          refine AllF.skip rfl ?_
          refine AllF.skip rfl ?_
          refine AllF.skip rfl ?_
          refine AllF.cons (t_move (o_t 0 rfl) rfl rfl) ?_
          refine AllF.cons (t_move (o_t 13 rfl) rfl rfl) ?_
          refine AllF.cons (t_add (o_t 67 rfl) (o_i (by decide)) h23 rfl rfl) ?_
          refine AllF.cons (t_idxo (o_p (o_t 66 rfl)) (o_t 68 rfl) h25 Try.underlying42 ty24 rfl rfl) ?_
          refine AllF.cons (t_loado ty24 (o_t 69 rfl) rfl rfl) ?_
          refine AllF.cons (t_move (o_t 0 rfl) rfl rfl) ?_
          refine AllF.cons (t_move (o_t 13 rfl) rfl rfl) ?_
          refine AllF.cons (t_idxo (o_p (o_t 71 rfl)) (o_t 72 rfl) h27 Try.underlying42 ty24 rfl rfl) ?_
          refine AllF.cons (t_loado ty24 (o_t 73 rfl) rfl rfl) ?_
          refine AllF.cons (t_idxo (o_p (o_t 61 rfl)) (o_t 62 rfl) h29 Try.underlying42 ty24 rfl rfl) ?_
          exact AllF.nil
        intro a s e_ hL
        refine st_storp (L' := [(0, (Pd.prow En.cls 24 v0 (data13.set (k14 : Int).toNat e24))), (10, (Pd.rep (En.int .i64) i7)), (13, (Pd.rep (En.int .i64) k14)), (63, (Pd.prow En.cls 24 v0 (data13.set (k14 : Int).toNat e24))), (65, (Pd.rep (En.int .i64) (k14 + 1))), (74, (Pd.rep En.cls e26))]) (off := 0) 0 (fun b h => h) hL rfl h29 (o_t 75 rfl) (o_t 70 rfl) (sub_all _ _ _) ty24 rfl rfl rfl (.turn (t := 0) rfl (.cons (t := 10) rfl (fun _ h_ => h_.elim) (.cons (t := 13) rfl (fun _ h_ => h_.elim) (.turn (t := 63) rfl (.cons (t := 65) rfl (fun _ h_ => h_.elim) (.cons (t := 74) rfl (fun _ h_ => h_.elim) .nil)))))) fun s hL => ?_
        refine st 76 (t_idxo (o_p (o_t 63 rfl)) (o_t 65 rfl) h31 Try.underlying42 ty24 rfl rfl) rfl rfl hL fun a s e_ hL => ?_
        refine st_storp (L' := [(0, (Pd.prow En.cls 24 v0 ((data13.set (k14 : Int).toNat e24).set (k14 + 1 : Int).toNat e26))), (10, (Pd.rep (En.int .i64) i7)), (13, (Pd.rep (En.int .i64) k14))]) (off := 0) 0 (fun b h => h) hL rfl h31 (o_t 76 rfl) (o_t 74 rfl) (sub_all _ _ _) ty24 rfl rfl rfl (.turn (t := 0) rfl (.cons (t := 10) rfl (fun _ h_ => h_.elim) (.cons (t := 13) rfl (fun _ h_ => h_.elim) .nil))) fun s hL => ?_
        refine en' ?_
        show K21 a s.w
        refine hK21 _ _ ?_
        obtain ⟨h32, h⟩ := h
        refine rg ?_
        refine st 59 (t_move (o_t 13 rfl) rfl rfl) rfl rfl hL fun a s e_ hL => ?_
        refine st 60 (t_add (o_t 59 rfl) (o_i (by decide)) h32 rfl rfl) rfl rfl hL fun a s e_ hL => ?_
        refine st 13 (t_assign (o_t 60 rfl) rfl rfl) rfl rfl hL fun a s e_ hL => ?_
        refine en' ?_
        exact hKL17 k16 a s (Nat.lt_succ_self _) ⟨((data13.set (k14 : Int).toNat e24).set (k14 + 1 : Int).toNat e26), (k14 + 1), hL.keep (.cons (t := 0) rfl (fun _ _ h_ => h_) (.cons (t := 10) rfl (fun _ h_ => h_.elim) (.cons (t := 13) rfl (fun _ h_ => h_.elim) .nil))), h⟩
      · replace h := h.2 hb_
        refine wp_exit ?_
        exact J12 data13 a s (hL.keep (.cons (t := 0) rfl (fun _ _ h_ => h_) .nil)) h
    obtain ⟨k35, h⟩ := h
    refine lpg (fun k36 a s => ∃ (i33 : Int) (j34 : Int), Has (fun b => v0.ownBlock = some b) 220 s0 a s [(0, (Pd.prow En.cls 24 v0 data_)), (1, (Pd.rep (En.int .i64) a_)), (4, (Pd.rep EnF54 cmp_)), (10, (Pd.rep (En.int .i64) i33)), (11, (Pd.rep (En.int .i64) j34))] ∧ slices_symMergeCmpFunc_api_Class.l2 data_ a_ cmp_ (slices_symMergeCmpFunc_api_Class.j2 data_ a_ r_) k36 i33 j34) k35 ⟨m_, b_, hL.keep (.cons (t := 0) rfl (fun _ _ h_ => h_) (.cons (t := 1) rfl (fun _ h_ => h_.elim) (.cons (t := 4) rfl (fun _ h_ => h_.elim) (.cons (t := 10) rfl (fun _ h_ => h_.elim) (.cons (t := 11) rfl (fun _ h_ => h_.elim) .nil))))), h⟩ ?_
    rintro k36 a s ⟨i33, j34, hL, h⟩ KL37 hKL37
    cases k36 with
    | zero => exact h.elim
    | succ k36 =>
    unfold slices_symMergeCmpFunc_api_Class.l2 at h
    refine wp_seq_k fun K38 hK38 => ?_
    refine wp_seq_k fun K39 hK39 => ?_
    refine rg ?_
    refine st 31 (t_move (o_t 10 rfl) rfl rfl) rfl rfl hL fun a s e_ hL => ?_
    refine st 32 (t_move (o_t 11 rfl) rfl rfl) rfl rfl hL fun a s e_ hL => ?_
    refine st 33 (t_lss (o_t 31 rfl) (o_t 32 rfl) rfl rfl) rfl rfl hL fun a s e_ hL => ?_
    refine en' ?_
    show K39 a s.w
    refine hK39 _ _ ?_
    refine cnd hL rfl (fun hb_ => ?_) (fun hb_ => ?_)
    · replace h := h.1 hb_
      refine wp_skip ?_
      show K38 a s.w
      refine hK38 _ _ ?_
      refine wp_block ?_
      refine wp_seq_k fun K40 hK40 => ?_
      obtain ⟨h41, i42, h43, h⟩ := h
      refine rg ?_
      refine st 34 (t_move (o_t 10 rfl) rfl rfl) rfl rfl hL fun a s e_ hL => ?_
      refine st 35 (t_move (o_t 11 rfl) rfl rfl) rfl rfl hL fun a s e_ hL => ?_
      refine st 36 (t_add (o_t 34 rfl) (o_t 35 rfl) h41 rfl rfl) rfl rfl hL fun a s e_ hL => ?_
      refine st 37 (t_cvt (o_t 36 rfl) Try.underlying3 Try.underlying58 rfl rfl) rfl rfl hL fun a s e_ hL => ?_
      refine st 38 (t_shr (o_t 37 rfl) (o_i (by decide)) (by decide) rfl rfl) rfl rfl hL fun a s e_ hL => ?_
      refine st 39 (h43 ▸ (t_cvt (o_t 38 rfl) Try.underlying58 Try.underlying3 rfl rfl)) rfl rfl hL fun a s e_ hL => ?_
      refine st 12 (t_assign (o_t 39 rfl) rfl rfl) rfl rfl hL fun a s e_ hL => ?_
      refine en' ?_
      show K40 a s.w
      refine hK40 _ _ ?_
      refine wp_seq_k fun K44 hK44 => ?_
      obtain ⟨e45, h46, e47, h48, r49, h50, h⟩ := h
      refine rda follows 11 [(Pd.rep EnF54 cmp_), (Pd.prow En.cls 24 v0 data_), (Pd.rep (En.int .i64) i42), (Pd.optr En.cls 0 v0.ownBlock ((i42 : Int).toNat * En.cls.sz) e45), (Pd.rep En.cls e45), (Pd.prow En.cls 24 v0 data_), (Pd.rep (En.int .i64) a_), (Pd.optr En.cls 0 v0.ownBlock ((a_ : Int).toNat * En.cls.sz) e47), (Pd.rep En.cls e47), (Pd.rep (En.int .i64) r49), (Pd.rep En.bool (decide (r49 < 0)))] hL (by kernel_rfl) rfl rfl ?_ ?_
      · refine AllT.cons (t_move (o_t 4 rfl) rfl rfl) ?_
        refine AllT.cons (t_move (o_t 0 rfl) rfl rfl) ?_
        refine AllT.cons (t_move (o_t 12 rfl) rfl rfl) ?_
        refine AllT.cons (t_idxo (o_p (o_t 41 rfl)) (o_t 42 rfl) h46 Try.underlying42 ty24 rfl rfl) ?_
        refine AllT.cons (t_loado ty24 (o_t 43 rfl) rfl rfl) ?_
        refine AllT.cons (t_move (o_t 0 rfl) rfl rfl) ?_
        refine AllT.cons (t_move (o_t 1 rfl) rfl rfl) ?_
        refine AllT.cons (t_idxo (o_p (o_t 45 rfl)) (o_t 46 rfl) h48 Try.underlying42 ty24 rfl rfl) ?_
        refine AllT.cons (t_loado ty24 (o_t 47 rfl) rfl rfl) ?_
        refine AllT.cons (t_callf (q := (e45, e47, r49)) (o_t 40 rfl) h50 (xs := [.tmp 44, .tmp 48]) (.cons (o_t 44 rfl) (.cons (o_t 48 rfl) .nil)) (fun _ _ _ h_ => h_) rfl rfl) ?_
        refine AllT.cons (t_lss (o_t 49 rfl) (o_i (by decide)) rfl rfl) ?_
        exact AllT.nil
      intro a s e_ hL
      refine en' ?_
      show K44 a s.w
      refine hK44 _ _ ?_
      refine cnd hL rfl (fun hb_ => ?_) (fun hb_ => ?_)
      · replace h := h.1 hb_
        obtain ⟨h51, h⟩ := h
        refine rg ?_
        refine st 51 (t_move (o_t 12 rfl) rfl rfl) rfl rfl hL fun a s e_ hL => ?_
        refine st 52 (t_add (o_t 51 rfl) (o_i (by decide)) h51 rfl rfl) rfl rfl hL fun a s e_ hL => ?_
        refine st 10 (t_assign (o_t 52 rfl) rfl rfl) rfl rfl hL fun a s e_ hL => ?_
        refine en' ?_
        exact hKL37 k36 a s (Nat.lt_succ_self _) ⟨(i42 + 1), j34, hL.keep (.cons (t := 0) rfl (fun _ _ h_ => h_) (.cons (t := 1) rfl (fun _ h_ => h_.elim) (.cons (t := 4) rfl (fun _ h_ => h_.elim) (.cons (t := 10) rfl (fun _ h_ => h_.elim) (.cons (t := 11) rfl (fun _ h_ => h_.elim) .nil))))), h⟩
      · replace h := h.2 hb_
        refine rg ?_
        refine st 53 (t_move (o_t 12 rfl) rfl rfl) rfl rfl hL fun a s e_ hL => ?_
        refine st 11 (t_assign (o_t 53 rfl) rfl rfl) rfl rfl hL fun a s e_ hL => ?_
        refine en' ?_
        exact hKL37 k36 a s (Nat.lt_succ_self _) ⟨i33, i42, hL.keep (.cons (t := 0) rfl (fun _ _ h_ => h_) (.cons (t := 1) rfl (fun _ h_ => h_.elim) (.cons (t := 4) rfl (fun _ h_ => h_.elim) (.cons (t := 10) rfl (fun _ h_ => h_.elim) (.cons (t := 11) rfl (fun _ h_ => h_.elim) .nil))))), h⟩
    · replace h := h.2 hb_
      refine wp_exit ?_
      exact J8 i33 a s (hL.keep (.cons (t := 0) rfl (fun _ _ h_ => h_) (.cons (t := 1) rfl (fun _ h_ => h_.elim) (.cons (t := 10) rfl (fun _ h_ => h_.elim) .nil)))) h
  · replace h := h.2 hb_
    refine wp_skip ?_
    show K1 a s.w
    refine hK1 _ _ ?_
    refine wp_seq_k fun K52 hK52 => ?_
    refine wp_seq_k fun K53 hK53 => ?_
    obtain ⟨h54, h⟩ := h
    refine rg ?_
    refine st 77 (t_move (o_t 3 rfl) rfl rfl) rfl rfl hL fun a s e_ hL => ?_
    refine st 78 (t_move (o_t 2 rfl) rfl rfl) rfl rfl hL fun a s e_ hL => ?_
    refine st 79 (t_sub (o_t 77 rfl) (o_t 78 rfl) h54 rfl rfl) rfl rfl hL fun a s e_ hL => ?_
    refine st 80 (t_eqi (o_t 79 rfl) (o_i (by decide)) rfl rfl) rfl rfl hL fun a s e_ hL => ?_
    refine en' ?_
    show K53 a s.w
    refine hK53 _ _ ?_
    refine cnd hL rfl (fun hb_ => ?_) (fun hb_ => ?_)
    · replace h := h.1 hb_
      refine wp_seq_k fun K55 hK55 => ?_
      refine rg ?_
      refine st 81 (t_move (o_t 1 rfl) rfl rfl) rfl rfl hL fun a s e_ hL => ?_
      refine st 14 (t_assign (o_t 81 rfl) rfl rfl) rfl rfl hL fun a s e_ hL => ?_
      refine en' ?_
      show K55 a s.w
      refine hK55 _ _ ?_
      refine wp_seq_k fun K56 hK56 => ?_
      refine rg ?_
      refine st 82 (t_move (o_t 2 rfl) rfl rfl) rfl rfl hL fun a s e_ hL => ?_
      refine st 15 (t_assign (o_t 82 rfl) rfl rfl) rfl rfl hL fun a s e_ hL => ?_
      refine en' ?_
      show K56 a s.w
      refine hK56 _ _ ?_
      refine wp_seq_k fun K57 hK57 => ?_
      refine wp_block ?_
      have J59 : ∀ (i58 : Int) (a : Act) (s : St), Has (fun b => v0.ownBlock = some b) 220 s0 a s [(0, (Pd.prow En.cls 24 v0 data_)), (2, (Pd.rep (En.int .i64) m_)), (14, (Pd.rep (En.int .i64) i58))] → ((slices_symMergeCmpFunc_api_Class.j4 data_ m_ r_) i58) → K57 a s.w := by
        intro i58 a s hL h
        unfold slices_symMergeCmpFunc_api_Class.j4 at h
        show K57 a s.w
        refine hK57 _ _ ?_
        refine wp_seq_k fun K60 hK60 => ?_
        refine wp_seq_k fun K61 hK61 => ?_
        refine rg ?_
        refine st 107 (t_move (o_t 2 rfl) rfl rfl) rfl rfl hL fun a s e_ hL => ?_
        refine st 17 (t_assign (o_t 107 rfl) rfl rfl) rfl rfl hL fun a s e_ hL => ?_
        refine en' ?_
        show K61 a s.w
        refine hK61 _ _ ?_
        refine wp_block ?_
        have J63 : ∀ (data62 : (List Cl)) (a : Act) (s : St), Has (fun b => v0.ownBlock = some b) 220 s0 a s [(0, (Pd.prow En.cls 24 v0 data62))] → ((slices_symMergeCmpFunc_api_Class.j3 r_) data62) → K60 a s.w := by
          intro data62 a s hL h
          unfold slices_symMergeCmpFunc_api_Class.j3 at h
          show K60 a s.w
          refine hK60 _ _ ?_
          subst h
          exact wp_ret (retm rfl hL (c := 0) rfl)
        obtain ⟨k66, h⟩ := h
        refine lpg (fun k67 a s => ∃ (data64 : (List Cl)) (k65 : Int), Has (fun b => v0.ownBlock = some b) 220 s0 a s [(0, (Pd.prow En.cls 24 v0 data64)), (14, (Pd.rep (En.int .i64) i58)), (17, (Pd.rep (En.int .i64) k65))] ∧ slices_symMergeCmpFunc_api_Class.l3 i58 (slices_symMergeCmpFunc_api_Class.j3 r_) k67 data64 k65) k66 ⟨data_, m_, hL.keep (.cons (t := 0) rfl (fun _ _ h_ => h_) (.cons (t := 14) rfl (fun _ h_ => h_.elim) (.cons (t := 17) rfl (fun _ h_ => h_.elim) .nil))), h⟩ ?_
        rintro k67 a s ⟨data64, k65, hL, h⟩ KL68 hKL68
        cases k67 with
        | zero => exact h.elim
        | succ k67 =>
        unfold slices_symMergeCmpFunc_api_Class.l3 at h
        refine wp_seq_k fun K69 hK69 => ?_
        refine wp_seq_k fun K70 hK70 => ?_
        refine rg ?_
        refine st 108 (t_move (o_t 17 rfl) rfl rfl) rfl rfl hL fun a s e_ hL => ?_
        refine st 109 (t_move (o_t 14 rfl) rfl rfl) rfl rfl hL fun a s e_ hL => ?_
        refine st 110 (t_gtr (o_t 108 rfl) (o_t 109 rfl) rfl rfl) rfl rfl hL fun a s e_ hL => ?_
        refine en' ?_
        show K70 a s.w
        refine hK70 _ _ ?_
        refine cnd hL rfl (fun hb_ => ?_) (fun hb_ => ?_)
        · replace h := h.1 hb_
          refine wp_skip ?_
          show K69 a s.w
          refine hK69 _ _ ?_
          refine wp_seq_k fun K71 hK71 => ?_
          refine wp_block ?_
          obtain ⟨h72, h73, e74, h75, e76, h77, e78, h79, e80, h81, h⟩ := h
          refine rdf 18 follows hL (by kernel_rfl) fun s e_ hL => ?_
          refine fl_take 2 115 hL (by rfl) (by kernel_rfl) (by kernel_rfl) (by kernel_rfl) (fun _ _ _ _ h => h) (q := (Pd.prow En.cls 24 v0 data64)) (y_move (o_t 0 rfl) rfl rfl) rfl rfl fun a hL => ?_
          refine fl_take 3 116 hL (by rfl) (by kernel_rfl) (by kernel_rfl) (by kernel_rfl) (fun _ _ _ _ h => h) (q := (Pd.rep (En.int .i64) k65)) (y_move (o_t 17 rfl) rfl rfl) rfl rfl fun a hL => ?_
          refine fl_take 4 117 hL (by rfl) (by kernel_rfl) (by kernel_rfl) (by kernel_rfl) (fun _ _ _ _ h => h) (q := (Pd.rep (En.int .i64) (k65 - 1))) (y_sub (o_t 116 rfl) (o_i (by decide)) h72 rfl rfl) rfl rfl fun a hL => ?_
          refine fl_go 15 [(Pd.prow En.cls 24 v0 data64), (Pd.rep (En.int .i64) k65), (Pd.prow En.cls 24 v0 data64), (Pd.rep (En.int .i64) k65), (Pd.rep (En.int .i64) (k65 - 1)), (Pd.prow En.cls 24 v0 data64), (Pd.rep (En.int .i64) k65), (Pd.rep (En.int .i64) (k65 - 1)), (Pd.optr En.cls 0 v0.ownBlock ((k65 - 1 : Int).toNat * En.cls.sz) e74), (Pd.rep En.cls e74), (Pd.prow En.cls 24 v0 data64), (Pd.rep (En.int .i64) k65), (Pd.optr En.cls 0 v0.ownBlock ((k65 : Int).toNat * En.cls.sz) e76), (Pd.rep En.cls e76), (Pd.optr En.cls 0 v0.ownBlock ((k65 : Int).toNat * En.cls.sz) e78)] [2, 3, 4] hL (by kernel_rfl) (by kernel_rfl) (by kernel_rfl) (.cons (i := 2) rfl rfl rfl rfl (.cons (i := 3) rfl rfl rfl rfl (.cons (i := 4) rfl rfl rfl rfl .nil))) rfl rfl ?_ ?_
          · refine AllF.cons (t_move (o_t 0 rfl) rfl rfl) ?_
            refine AllF.cons (t_move (o_t 17 rfl) rfl rfl) ?_
            refine AllF.skip rfl ?_
            refine AllF.skip rfl ?_
            refine AllF.skip rfl ?_
            refine AllF.cons (t_move (o_t 0 rfl) rfl rfl) ?_
            refine AllF.cons (t_move (o_t 17 rfl) rfl rfl) ?_
            refine AllF.cons (t_sub (o_t 119 rfl) (o_i (by decide)) h73 rfl rfl) ?_
            refine AllF.cons (t_idxo (o_p (o_t 118 rfl)) (o_t 120 rfl) h75 Try.underlying42 ty24 rfl rfl) ?_
            refine AllF.cons (t_loado ty24 (o_t 121 rfl) rfl rfl) ?_
            refine AllF.cons (t_move (o_t 0 rfl) rfl rfl) ?_
            refine AllF.cons (t_move (o_t 17 rfl) rfl rfl) ?_
            refine AllF.cons (t_idxo (o_p (o_t 123 rfl)) (o_t 124 rfl) h77 Try.underlying42 ty24 rfl rfl) ?_
            refine AllF.cons (t_loado ty24 (o_t 125 rfl) rfl rfl) ?_
            refine AllF.cons (t_idxo (o_p (o_t 113 rfl)) (o_t 114 rfl) h79 Try.underlying42 ty24 rfl rfl) ?_
            exact AllF.nil
          intro a s e_ hL
          refine st_storp (L' := [(0, (Pd.prow En.cls 24 v0 (data64.set (k65 : Int).toNat e74))), (14, (Pd.rep (En.int .i64) i58)), (17, (Pd.rep (En.int .i64) k65)), (115, (Pd.prow En.cls 24 v0 (data64.set (k65 : Int).toNat e74))), (117, (Pd.rep (En.int .i64) (k65 - 1))), (126, (Pd.rep En.cls e76))]) (off := 0) 0 (fun b h => h) hL rfl h79 (o_t 127 rfl) (o_t 122 rfl) (sub_all _ _ _) ty24 rfl rfl rfl (.turn (t := 0) rfl (.cons (t := 14) rfl (fun _ h_ => h_.elim) (.cons (t := 17) rfl (fun _ h_ => h_.elim) (.turn (t := 115) rfl (.cons (t := 117) rfl (fun _ h_ => h_.elim) (.cons (t := 126) rfl (fun _ h_ => h_.elim) .nil)))))) fun s hL => ?_
          refine st 128 (t_idxo (o_p (o_t 115 rfl)) (o_t 117 rfl) h81 Try.underlying42 ty24 rfl rfl) rfl rfl hL fun a s e_ hL => ?_
          refine st_storp (L' := [(0, (Pd.prow En.cls 24 v0 ((data64.set (k65 : Int).toNat e74).set (k65 - 1 : Int).toNat e76))), (14, (Pd.rep (En.int .i64) i58)), (17, (Pd.rep (En.int .i64) k65))]) (off := 0) 0 (fun b h => h) hL rfl h81 (o_t 128 rfl) (o_t 126 rfl) (sub_all _ _ _) ty24 rfl rfl rfl (.turn (t := 0) rfl (.cons (t := 14) rfl (fun _ h_ => h_.elim) (.cons (t := 17) rfl (fun _ h_ => h_.elim) .nil))) fun s hL => ?_
          refine en' ?_
          show K71 a s.w
          refine hK71 _ _ ?_
          obtain ⟨h82, h⟩ := h
          refine rg ?_
          refine st 111 (t_move (o_t 17 rfl) rfl rfl) rfl rfl hL fun a s e_ hL => ?_
          refine st 112 (t_sub (o_t 111 rfl) (o_i (by decide)) h82 rfl rfl) rfl rfl hL fun a s e_ hL => ?_
          refine st 17 (t_assign (o_t 112 rfl) rfl rfl) rfl rfl hL fun a s e_ hL => ?_
          refine en' ?_
          exact hKL68 k67 a s (Nat.lt_succ_self _) ⟨((data64.set (k65 : Int).toNat e74).set (k65 - 1 : Int).toNat e76), (k65 - 1), hL.keep (.cons (t := 0) rfl (fun _ _ h_ => h_) (.cons (t := 14) rfl (fun _ h_ => h_.elim) (.cons (t := 17) rfl (fun _ h_ => h_.elim) .nil))), h⟩
        · replace h := h.2 hb_
          refine wp_exit ?_
          exact J63 data64 a s (hL.keep (.cons (t := 0) rfl (fun _ _ h_ => h_) .nil)) h
      obtain ⟨k85, h⟩ := h
      refine lpg (fun k86 a s => ∃ (i83 : Int) (j84 : Int), Has (fun b => v0.ownBlock = some b) 220 s0 a s [(0, (Pd.prow En.cls 24 v0 data_)), (2, (Pd.rep (En.int .i64) m_)), (4, (Pd.rep EnF54 cmp_)), (14, (Pd.rep (En.int .i64) i83)), (15, (Pd.rep (En.int .i64) j84))] ∧ slices_symMergeCmpFunc_api_Class.l4 data_ m_ cmp_ (slices_symMergeCmpFunc_api_Class.j4 data_ m_ r_) k86 i83 j84) k85 ⟨a_, m_, hL.keep (.cons (t := 0) rfl (fun _ _ h_ => h_) (.cons (t := 2) rfl (fun _ h_ => h_.elim) (.cons (t := 4) rfl (fun _ h_ => h_.elim) (.cons (t := 14) rfl (fun _ h_ => h_.elim) (.cons (t := 15) rfl (fun _ h_ => h_.elim) .nil))))), h⟩ ?_
      rintro k86 a s ⟨i83, j84, hL, h⟩ KL87 hKL87
      cases k86 with
      | zero => exact h.elim
      | succ k86 =>
      unfold slices_symMergeCmpFunc_api_Class.l4 at h
      refine wp_seq_k fun K88 hK88 => ?_
      refine wp_seq_k fun K89 hK89 => ?_
      refine rg ?_
      refine st 83 (t_move (o_t 14 rfl) rfl rfl) rfl rfl hL fun a s e_ hL => ?_
      refine st 84 (t_move (o_t 15 rfl) rfl rfl) rfl rfl hL fun a s e_ hL => ?_
      refine st 85 (t_lss (o_t 83 rfl) (o_t 84 rfl) rfl rfl) rfl rfl hL fun a s e_ hL => ?_
      refine en' ?_
      show K89 a s.w
      refine hK89 _ _ ?_
      refine cnd hL rfl (fun hb_ => ?_) (fun hb_ => ?_)
      · replace h := h.1 hb_
        refine wp_skip ?_
        show K88 a s.w
        refine hK88 _ _ ?_
        refine wp_block ?_
        refine wp_seq_k fun K90 hK90 => ?_
        obtain ⟨h91, i92, h93, h⟩ := h
        refine rg ?_
        refine st 86 (t_move (o_t 14 rfl) rfl rfl) rfl rfl hL fun a s e_ hL => ?_
        refine st 87 (t_move (o_t 15 rfl) rfl rfl) rfl rfl hL fun a s e_ hL => ?_
        refine st 88 (t_add (o_t 86 rfl) (o_t 87 rfl) h91 rfl rfl) rfl rfl hL fun a s e_ hL => ?_
        refine st 89 (t_cvt (o_t 88 rfl) Try.underlying3 Try.underlying58 rfl rfl) rfl rfl hL fun a s e_ hL => ?_
        refine st 90 (t_shr (o_t 89 rfl) (o_i (by decide)) (by decide) rfl rfl) rfl rfl hL fun a s e_ hL => ?_
        refine st 91 (h93 ▸ (t_cvt (o_t 90 rfl) Try.underlying58 Try.underlying3 rfl rfl)) rfl rfl hL fun a s e_ hL => ?_
        refine st 16 (t_assign (o_t 91 rfl) rfl rfl) rfl rfl hL fun a s e_ hL => ?_
        refine en' ?_
        show K90 a s.w
        refine hK90 _ _ ?_
        refine wp_seq_k fun K94 hK94 => ?_
        obtain ⟨e95, h96, e97, h98, r99, h100, h⟩ := h
        refine rda follows 12 [(Pd.rep EnF54 cmp_), (Pd.prow En.cls 24 v0 data_), (Pd.rep (En.int .i64) m_), (Pd.optr En.cls 0 v0.ownBlock ((m_ : Int).toNat * En.cls.sz) e95), (Pd.rep En.cls e95), (Pd.prow En.cls 24 v0 data_), (Pd.rep (En.int .i64) i92), (Pd.optr En.cls 0 v0.ownBlock ((i92 : Int).toNat * En.cls.sz) e97), (Pd.rep En.cls e97), (Pd.rep (En.int .i64) r99), (Pd.rep En.bool (decide (r99 < 0))), (Pd.rep En.bool (!(decide (r99 < 0))))] hL (by kernel_rfl) rfl rfl ?_ ?_
        · refine AllT.cons (t_move (o_t 4 rfl) rfl rfl) ?_
          refine AllT.cons (t_move (o_t 0 rfl) rfl rfl) ?_
          refine AllT.cons (t_move (o_t 2 rfl) rfl rfl) ?_
          refine AllT.cons (t_idxo (o_p (o_t 93 rfl)) (o_t 94 rfl) h96 Try.underlying42 ty24 rfl rfl) ?_
          refine AllT.cons (t_loado ty24 (o_t 95 rfl) rfl rfl) ?_
          refine AllT.cons (t_move (o_t 0 rfl) rfl rfl) ?_
          refine AllT.cons (t_move (o_t 16 rfl) rfl rfl) ?_
          refine AllT.cons (t_idxo (o_p (o_t 97 rfl)) (o_t 98 rfl) h98 Try.underlying42 ty24 rfl rfl) ?_
          refine AllT.cons (t_loado ty24 (o_t 99 rfl) rfl rfl) ?_
          refine AllT.cons (t_callf (q := (e95, e97, r99)) (o_t 92 rfl) h100 (xs := [.tmp 96, .tmp 100]) (.cons (o_t 96 rfl) (.cons (o_t 100 rfl) .nil)) (fun _ _ _ h_ => h_) rfl rfl) ?_
          refine AllT.cons (t_lss (o_t 101 rfl) (o_i (by decide)) rfl rfl) ?_
          refine AllT.cons (t_not (o_t 102 rfl) rfl rfl) ?_
          exact AllT.nil
        intro a s e_ hL
        refine en' ?_
        show K94 a s.w
        refine hK94 _ _ ?_
        refine cnd hL rfl (fun hb_ => ?_) (fun hb_ => ?_)
        · replace h := h.1 hb_
          obtain ⟨h101, h⟩ := h
          refine rg ?_
          refine st 104 (t_move (o_t 16 rfl) rfl rfl) rfl rfl hL fun a s e_ hL => ?_
          refine st 105 (t_add (o_t 104 rfl) (o_i (by decide)) h101 rfl rfl) rfl rfl hL fun a s e_ hL => ?_
          refine st 14 (t_assign (o_t 105 rfl) rfl rfl) rfl rfl hL fun a s e_ hL => ?_
          refine en' ?_
          exact hKL87 k86 a s (Nat.lt_succ_self _) ⟨(i92 + 1), j84, hL.keep (.cons (t := 0) rfl (fun _ _ h_ => h_) (.cons (t := 2) rfl (fun _ h_ => h_.elim) (.cons (t := 4) rfl (fun _ h_ => h_.elim) (.cons (t := 14) rfl (fun _ h_ => h_.elim) (.cons (t := 15) rfl (fun _ h_ => h_.elim) .nil))))), h⟩
        · replace h := h.2 hb_
          refine rg ?_
          refine st 106 (t_move (o_t 16 rfl) rfl rfl) rfl rfl hL fun a s e_ hL => ?_
          refine st 15 (t_assign (o_t 106 rfl) rfl rfl) rfl rfl hL fun a s e_ hL => ?_
          refine en' ?_
          exact hKL87 k86 a s (Nat.lt_succ_self _) ⟨i83, i92, hL.keep (.cons (t := 0) rfl (fun _ _ h_ => h_) (.cons (t := 2) rfl (fun _ h_ => h_.elim) (.cons (t := 4) rfl (fun _ h_ => h_.elim) (.cons (t := 14) rfl (fun _ h_ => h_.elim) (.cons (t := 15) rfl (fun _ h_ => h_.elim) .nil))))), h⟩
      · replace h := h.2 hb_
        refine wp_exit ?_
        exact J59 i83 a s (hL.keep (.cons (t := 0) rfl (fun _ _ h_ => h_) (.cons (t := 2) rfl (fun _ h_ => h_.elim) (.cons (t := 14) rfl (fun _ h_ => h_.elim) .nil)))) h
    · replace h := h.2 hb_
      refine wp_skip ?_
      show K52 a s.w
      refine hK52 _ _ ?_
      refine wp_seq_k fun K102 hK102 => ?_
      obtain ⟨h103, i104, h105, h⟩ := h
      refine rg ?_
      refine st 129 (t_move (o_t 1 rfl) rfl rfl) rfl rfl hL fun a s e_ hL => ?_
      refine st 130 (t_move (o_t 3 rfl) rfl rfl) rfl rfl hL fun a s e_ hL => ?_
      refine st 131 (t_add (o_t 129 rfl) (o_t 130 rfl) h103 rfl rfl) rfl rfl hL fun a s e_ hL => ?_
      refine st 132 (t_cvt (o_t 131 rfl) Try.underlying3 Try.underlying58 rfl rfl) rfl rfl hL fun a s e_ hL => ?_
      refine st 133 (t_shr (o_t 132 rfl) (o_i (by decide)) (by decide) rfl rfl) rfl rfl hL fun a s e_ hL => ?_
      refine st 134 (h105 ▸ (t_cvt (o_t 133 rfl) Try.underlying58 Try.underlying3 rfl rfl)) rfl rfl hL fun a s e_ hL => ?_
      refine st 18 (t_assign (o_t 134 rfl) rfl rfl) rfl rfl hL fun a s e_ hL => ?_
      refine en' ?_
      show K102 a s.w
      refine hK102 _ _ ?_
      refine wp_seq_k fun K106 hK106 => ?_
      obtain ⟨h107, h⟩ := h
      refine rg ?_
      refine st 135 (t_move (o_t 18 rfl) rfl rfl) rfl rfl hL fun a s e_ hL => ?_
      refine st 136 (t_move (o_t 2 rfl) rfl rfl) rfl rfl hL fun a s e_ hL => ?_
      refine st 137 (t_add (o_t 135 rfl) (o_t 136 rfl) h107 rfl rfl) rfl rfl hL fun a s e_ hL => ?_
      refine st 19 (t_assign (o_t 137 rfl) rfl rfl) rfl rfl hL fun a s e_ hL => ?_
      refine en' ?_
      show K106 a s.w
      refine hK106 _ _ ?_
      refine wp_seq_k fun K108 hK108 => ?_
      refine rg ?_
      refine st 20 (t_assign (o_i (by decide)) rfl rfl) rfl rfl hL fun a s e_ hL => ?_
      refine st 21 (t_assign (o_i (by decide)) rfl rfl) rfl rfl hL fun a s e_ hL => ?_
      refine en' ?_
      show K108 a s.w
      refine hK108 _ _ ?_
      refine wp_seq_k fun K109 hK109 => ?_
      refine wp_seq_k fun K110 hK110 => ?_
      refine rg ?_
      refine st 138 (t_move (o_t 2 rfl) rfl rfl) rfl rfl hL fun a s e_ hL => ?_
      refine st 139 (t_move (o_t 18 rfl) rfl rfl) rfl rfl hL fun a s e_ hL => ?_
      refine st 140 (t_gtr (o_t 138 rfl) (o_t 139 rfl) rfl rfl) rfl rfl hL fun a s e_ hL => ?_
      refine en' ?_
      show K110 a s.w
      refine hK110 _ _ ?_
      have J113 : ∀ (start111 : Int) (r112 : Int) (a : Act) (s : St), Has (fun b => v0.ownBlock = some b) 220 s0 a s [(0, (Pd.prow En.cls 24 v0 data_)), (1, (Pd.rep (En.int .i64) a_)), (2, (Pd.rep (En.int .i64) m_)), (3, (Pd.rep (En.int .i64) b_)), (4, (Pd.rep EnF54 cmp_)), (18, (Pd.rep (En.int .i64) i104)), (19, (Pd.rep (En.int .i64) (i104 + m_))), (20, (Pd.rep (En.int .i64) start111)), (21, (Pd.rep (En.int .i64) r112))] → ((slices_symMergeCmpFunc_api_Class.j8 (slices_symMergeCmpFunc_api_Class.n k_) data_ a_ m_ b_ cmp_ r_ i104) start111 r112) → K109 a s.w := by
        intro start111 r112 a s hL h
        unfold slices_symMergeCmpFunc_api_Class.j8 at h
        show K109 a s.w
        refine hK109 _ _ ?_
        refine wp_seq_k fun K114 hK114 => ?_
        obtain ⟨h115, h⟩ := h
        refine rg ?_
        refine st 147 (t_move (o_t 19 rfl) rfl rfl) rfl rfl hL fun a s e_ hL => ?_
        refine st 148 (t_sub (o_t 147 rfl) (o_i (by decide)) h115 rfl rfl) rfl rfl hL fun a s e_ hL => ?_
        refine st 22 (t_assign (o_t 148 rfl) rfl rfl) rfl rfl hL fun a s e_ hL => ?_
        refine en' ?_
        show K114 a s.w
        refine hK114 _ _ ?_
        refine wp_seq_k fun K116 hK116 => ?_
        refine wp_block ?_
        have J118 : ∀ (start117 : Int) (a : Act) (s : St), Has (fun b => v0.ownBlock = some b) 220 s0 a s [(0, (Pd.prow En.cls 24 v0 data_)), (1, (Pd.rep (En.int .i64) a_)), (2, (Pd.rep (En.int .i64) m_)), (3, (Pd.rep (En.int .i64) b_)), (4, (Pd.rep EnF54 cmp_)), (18, (Pd.rep (En.int .i64) i104)), (19, (Pd.rep (En.int .i64) (i104 + m_))), (20, (Pd.rep (En.int .i64) start117))] → ((slices_symMergeCmpFunc_api_Class.j7 (slices_symMergeCmpFunc_api_Class.n k_) data_ a_ m_ b_ cmp_ r_ i104) start117) → K116 a s.w := by
          intro start117 a s hL h
          unfold slices_symMergeCmpFunc_api_Class.j7 at h
          show K116 a s.w
          refine hK116 _ _ ?_
          refine wp_seq_k fun K119 hK119 => ?_
          obtain ⟨h120, h⟩ := h
          refine rg ?_
          refine st 175 (t_move (o_t 19 rfl) rfl rfl) rfl rfl hL fun a s e_ hL => ?_
          refine st 176 (t_move (o_t 20 rfl) rfl rfl) rfl rfl hL fun a s e_ hL => ?_
          refine st 177 (t_sub (o_t 175 rfl) (o_t 176 rfl) h120 rfl rfl) rfl rfl hL fun a s e_ hL => ?_
          refine st 24 (t_assign (o_t 177 rfl) rfl rfl) rfl rfl hL fun a s e_ hL => ?_
          refine en' ?_
          show K119 a s.w
          refine hK119 _ _ ?_
          refine wp_seq_k fun K121 hK121 => ?_
          refine wp_seq_k fun K122 hK122 => ?_
          obtain ⟨b123, h124, h⟩ := h
          refine rg ?_
          refine st 178 (t_move (o_t 20 rfl) rfl rfl) rfl rfl hL fun a s e_ hL => ?_
          refine st 179 (t_move (o_t 2 rfl) rfl rfl) rfl rfl hL fun a s e_ hL => ?_
          refine st 180 (t_lss (o_t 178 rfl) (o_t 179 rfl) rfl rfl) rfl rfl hL fun a s e_ hL => ?_
          refine st 181 (t_move (o_t 180 rfl) rfl rfl) rfl rfl hL fun a s e_ hL => ?_
          refine st 182 (t_g1 rfl rfl rfl (fun hc_ => t_move (o_t 2 rfl) rfl rfl)) rfl rfl hL fun a s e_ hL => ?_
          refine st 183 (t_g1 rfl rfl rfl (fun hc_ => t_move (o_t 24 rfl) rfl rfl)) rfl rfl hL fun a s e_ hL => ?_
          refine st 184 (t_g1 rfl rfl rfl (fun hc_ => t_lss (o_w hc_ 182 rfl) (o_w hc_ 183 rfl) rfl rfl)) rfl rfl hL fun a s e_ hL => ?_
          refine st 185 (h124 ▸ (t_and (o_t 181 rfl) (fun hc2_ => (o_w hc2_ 184 rfl)) rfl rfl)) rfl rfl hL fun a s e_ hL => ?_
          refine en' ?_
          show K122 a s.w
          refine hK122 _ _ ?_
          have J126 : ∀ (data125 : (List Cl)) (a : Act) (s : St), Has (fun b => v0.ownBlock = some b) 220 s0 a s [(0, (Pd.prow En.cls 24 v0 data125)), (1, (Pd.rep (En.int .i64) a_)), (3, (Pd.rep (En.int .i64) b_)), (4, (Pd.rep EnF54 cmp_)), (18, (Pd.rep (En.int .i64) i104)), (20, (Pd.rep (En.int .i64) start117)), (24, (Pd.rep (En.int .i64) ((i104 + m_) - start117)))] → ((slices_symMergeCmpFunc_api_Class.j6 (slices_symMergeCmpFunc_api_Class.n k_) a_ m_ b_ cmp_ r_ i104 start117) data125) → K121 a s.w := by
            intro data125 a s hL h
            unfold slices_symMergeCmpFunc_api_Class.j6 at h
            show K121 a s.w
            refine hK121 _ _ ?_
            refine wp_seq_k fun K127 hK127 => ?_
            refine wp_seq_k fun K128 hK128 => ?_
            obtain ⟨b129, h130, h⟩ := h
            refine rg ?_
            refine st 192 (t_move (o_t 1 rfl) rfl rfl) rfl rfl hL fun a s e_ hL => ?_
            refine st 193 (t_move (o_t 20 rfl) rfl rfl) rfl rfl hL fun a s e_ hL => ?_
            refine st 194 (t_lss (o_t 192 rfl) (o_t 193 rfl) rfl rfl) rfl rfl hL fun a s e_ hL => ?_
            refine st 195 (t_move (o_t 194 rfl) rfl rfl) rfl rfl hL fun a s e_ hL => ?_
            refine st 196 (t_g1 rfl rfl rfl (fun hc_ => t_move (o_t 20 rfl) rfl rfl)) rfl rfl hL fun a s e_ hL => ?_
            refine st 197 (t_g1 rfl rfl rfl (fun hc_ => t_move (o_t 18 rfl) rfl rfl)) rfl rfl hL fun a s e_ hL => ?_
            refine st 198 (t_g1 rfl rfl rfl (fun hc_ => t_lss (o_w hc_ 196 rfl) (o_w hc_ 197 rfl) rfl rfl)) rfl rfl hL fun a s e_ hL => ?_
            refine st 199 (h130 ▸ (t_and (o_t 195 rfl) (fun hc2_ => (o_w hc2_ 198 rfl)) rfl rfl)) rfl rfl hL fun a s e_ hL => ?_
            refine en' ?_
            show K128 a s.w
            refine hK128 _ _ ?_
            have J132 : ∀ (data131 : (List Cl)) (a : Act) (s : St), Has (fun b => v0.ownBlock = some b) 220 s0 a s [(0, (Pd.prow En.cls 24 v0 data131)), (3, (Pd.rep (En.int .i64) b_)), (4, (Pd.rep EnF54 cmp_)), (18, (Pd.rep (En.int .i64) i104)), (24, (Pd.rep (En.int .i64) ((i104 + m_) - start117)))] → ((slices_symMergeCmpFunc_api_Class.j5 (slices_symMergeCmpFunc_api_Class.n k_) m_ b_ cmp_ r_ i104 start117) data131) → K127 a s.w := by
              intro data131 a s hL h
              unfold slices_symMergeCmpFunc_api_Class.j5 at h
              show K127 a s.w
              refine hK127 _ _ ?_
              refine wp_seq_k fun K133 hK133 => ?_
              obtain ⟨b134, h135, h⟩ := h
              refine rg ?_
              refine st 206 (t_move (o_t 18 rfl) rfl rfl) rfl rfl hL fun a s e_ hL => ?_
              refine st 207 (t_move (o_t 24 rfl) rfl rfl) rfl rfl hL fun a s e_ hL => ?_
              refine st 208 (t_lss (o_t 206 rfl) (o_t 207 rfl) rfl rfl) rfl rfl hL fun a s e_ hL => ?_
              refine st 209 (t_move (o_t 208 rfl) rfl rfl) rfl rfl hL fun a s e_ hL => ?_
              refine st 210 (t_g1 rfl rfl rfl (fun hc_ => t_move (o_t 24 rfl) rfl rfl)) rfl rfl hL fun a s e_ hL => ?_
              refine st 211 (t_g1 rfl rfl rfl (fun hc_ => t_move (o_t 3 rfl) rfl rfl)) rfl rfl hL fun a s e_ hL => ?_
              refine st 212 (t_g1 rfl rfl rfl (fun hc_ => t_lss (o_w hc_ 210 rfl) (o_w hc_ 211 rfl) rfl rfl)) rfl rfl hL fun a s e_ hL => ?_
              refine st 213 (h135 ▸ (t_and (o_t 209 rfl) (fun hc2_ => (o_w hc2_ 212 rfl)) rfl rfl)) rfl rfl hL fun a s e_ hL => ?_
              refine en' ?_
              show K133 a s.w
              refine hK133 _ _ ?_
              refine cnd hL rfl (fun hb_ => ?_) (fun hb_ => ?_)
              · replace h := h.1 hb_
                obtain ⟨r136, h137, h⟩ := h
                refine rg ?_
                refine st 214 (t_move (o_t 0 rfl) rfl rfl) rfl rfl hL fun a s e_ hL => ?_
                refine st 215 (t_move (o_t 18 rfl) rfl rfl) rfl rfl hL fun a s e_ hL => ?_
                refine st 216 (t_move (o_t 24 rfl) rfl rfl) rfl rfl hL fun a s e_ hL => ?_
                refine st 217 (t_move (o_t 3 rfl) rfl rfl) rfl rfl hL fun a s e_ hL => ?_
                refine st 218 (t_move (o_t 4 rfl) rfl rfl) rfl rfl hL fun a s e_ hL => ?_
                refine st_callm (L' := [(0, (Pd.prow En.cls 24 v0 r136))]) 219 (fun v0 => ih_ v0 h137) hL (fun b h => h) (o_t 214 rfl) (zs := [.tmp 215, .tmp 216, .tmp 217, .tmp 218]) (.cons (o_t 215 rfl) (.cons (o_t 216 rfl) (.cons (o_t 217 rfl) (.cons (o_t 218 rfl) .nil)))) rfl rfl rfl rfl (.turn (t := 0) rfl .nil) fun a s hL => ?_
                refine en' ?_
                subst h
                exact retm rfl hL (c := 0) rfl
              · replace h := h.2 hb_
                refine wp_skip ?_
                subst h
                exact retm rfl hL (c := 0) rfl
            refine cnd hL rfl (fun hb_ => ?_) (fun hb_ => ?_)
            · replace h := h.1 hb_
              obtain ⟨r138, h139, h⟩ := h
              refine rg ?_
              refine st 200 (t_move (o_t 0 rfl) rfl rfl) rfl rfl hL fun a s e_ hL => ?_
              refine st 201 (t_move (o_t 1 rfl) rfl rfl) rfl rfl hL fun a s e_ hL => ?_
              refine st 202 (t_move (o_t 20 rfl) rfl rfl) rfl rfl hL fun a s e_ hL => ?_
              refine st 203 (t_move (o_t 18 rfl) rfl rfl) rfl rfl hL fun a s e_ hL => ?_
              refine st 204 (t_move (o_t 4 rfl) rfl rfl) rfl rfl hL fun a s e_ hL => ?_
              refine st_callm (L' := [(0, (Pd.prow En.cls 24 v0 r138)), (3, (Pd.rep (En.int .i64) b_)), (4, (Pd.rep EnF54 cmp_)), (18, (Pd.rep (En.int .i64) i104)), (24, (Pd.rep (En.int .i64) ((i104 + m_) - start117)))]) 205 (fun v0 => ih_ v0 h139) hL (fun b h => h) (o_t 200 rfl) (zs := [.tmp 201, .tmp 202, .tmp 203, .tmp 204]) (.cons (o_t 201 rfl) (.cons (o_t 202 rfl) (.cons (o_t 203 rfl) (.cons (o_t 204 rfl) .nil)))) rfl rfl rfl rfl (.turn (t := 0) rfl (.cons (t := 3) rfl (fun _ h_ => h_.elim) (.cons (t := 4) rfl (fun _ h_ => h_.elim) (.cons (t := 18) rfl (fun _ h_ => h_.elim) (.cons (t := 24) rfl (fun _ h_ => h_.elim) .nil))))) fun a s hL => ?_
              refine en' ?_
              exact J132 r138 a s (hL.keep (.cons (t := 0) rfl (fun _ _ h_ => h_) (.cons (t := 3) rfl (fun _ h_ => h_.elim) (.cons (t := 4) rfl (fun _ h_ => h_.elim) (.cons (t := 18) rfl (fun _ h_ => h_.elim) (.cons (t := 24) rfl (fun _ h_ => h_.elim) .nil)))))) h
            · replace h := h.2 hb_
              refine wp_skip ?_
              exact J132 data125 a s (hL.keep (.cons (t := 0) rfl (fun _ _ h_ => h_) (.cons (t := 3) rfl (fun _ h_ => h_.elim) (.cons (t := 4) rfl (fun _ h_ => h_.elim) (.cons (t := 18) rfl (fun _ h_ => h_.elim) (.cons (t := 24) rfl (fun _ h_ => h_.elim) .nil)))))) h
          refine cnd hL rfl (fun hb_ => ?_) (fun hb_ => ?_)
          · replace h := h.1 hb_
            obtain ⟨r140, h141, h⟩ := h
            refine rg ?_
            refine st 186 (t_move (o_t 0 rfl) rfl rfl) rfl rfl hL fun a s e_ hL => ?_
            refine st 187 (t_move (o_t 20 rfl) rfl rfl) rfl rfl hL fun a s e_ hL => ?_
            refine st 188 (t_move (o_t 2 rfl) rfl rfl) rfl rfl hL fun a s e_ hL => ?_
            refine st 189 (t_move (o_t 24 rfl) rfl rfl) rfl rfl hL fun a s e_ hL => ?_
            refine st 190 (t_move (o_t 4 rfl) rfl rfl) rfl rfl hL fun a s e_ hL => ?_
            refine st_callm (L' := [(0, (Pd.prow En.cls 24 v0 r140)), (1, (Pd.rep (En.int .i64) a_)), (3, (Pd.rep (En.int .i64) b_)), (4, (Pd.rep EnF54 cmp_)), (18, (Pd.rep (En.int .i64) i104)), (20, (Pd.rep (En.int .i64) start117)), (24, (Pd.rep (En.int .i64) ((i104 + m_) - start117)))]) 191 (fun v0 => slices_rotateCmpFunc_api_Class_ok v0 h141) hL (fun b h => h) (o_t 186 rfl) (zs := [.tmp 187, .tmp 188, .tmp 189, .tmp 190]) (.cons (o_t 187 rfl) (.cons (o_t 188 rfl) (.cons (o_t 189 rfl) (.cons (o_t 190 rfl) .nil)))) rfl rfl rfl rfl (.turn (t := 0) rfl (.cons (t := 1) rfl (fun _ h_ => h_.elim) (.cons (t := 3) rfl (fun _ h_ => h_.elim) (.cons (t := 4) rfl (fun _ h_ => h_.elim) (.cons (t := 18) rfl (fun _ h_ => h_.elim) (.cons (t := 20) rfl (fun _ h_ => h_.elim) (.cons (t := 24) rfl (fun _ h_ => h_.elim) .nil))))))) fun a s hL => ?_
            refine en' ?_
            exact J126 r140 a s (hL.keep (.cons (t := 0) rfl (fun _ _ h_ => h_) (.cons (t := 1) rfl (fun _ h_ => h_.elim) (.cons (t := 3) rfl (fun _ h_ => h_.elim) (.cons (t := 4) rfl (fun _ h_ => h_.elim) (.cons (t := 18) rfl (fun _ h_ => h_.elim) (.cons (t := 20) rfl (fun _ h_ => h_.elim) (.cons (t := 24) rfl (fun _ h_ => h_.elim) .nil)))))))) h
          · replace h := h.2 hb_
            refine wp_skip ?_
            exact J126 data_ a s (hL.keep (.cons (t := 0) rfl (fun _ _ h_ => h_) (.cons (t := 1) rfl (fun _ h_ => h_.elim) (.cons (t := 3) rfl (fun _ h_ => h_.elim) (.cons (t := 4) rfl (fun _ h_ => h_.elim) (.cons (t := 18) rfl (fun _ h_ => h_.elim) (.cons (t := 20) rfl (fun _ h_ => h_.elim) (.cons (t := 24) rfl (fun _ h_ => h_.elim) .nil)))))))) h
        obtain ⟨k144, h⟩ := h
        refine lpg (fun k145 a s => ∃ (start142 : Int) (r143 : Int), Has (fun b => v0.ownBlock = some b) 220 s0 a s [(0, (Pd.prow En.cls 24 v0 data_)), (1, (Pd.rep (En.int .i64) a_)), (2, (Pd.rep (En.int .i64) m_)), (3, (Pd.rep (En.int .i64) b_)), (4, (Pd.rep EnF54 cmp_)), (18, (Pd.rep (En.int .i64) i104)), (19, (Pd.rep (En.int .i64) (i104 + m_))), (20, (Pd.rep (En.int .i64) start142)), (21, (Pd.rep (En.int .i64) r143)), (22, (Pd.rep (En.int .i64) ((i104 + m_) - 1)))] ∧ slices_symMergeCmpFunc_api_Class.l5 data_ m_ cmp_ i104 (slices_symMergeCmpFunc_api_Class.j7 (slices_symMergeCmpFunc_api_Class.n k_) data_ a_ m_ b_ cmp_ r_ i104) k145 start142 r143) k144 ⟨start111, r112, hL.keep (.cons (t := 0) rfl (fun _ _ h_ => h_) (.cons (t := 1) rfl (fun _ h_ => h_.elim) (.cons (t := 2) rfl (fun _ h_ => h_.elim) (.cons (t := 3) rfl (fun _ h_ => h_.elim) (.cons (t := 4) rfl (fun _ h_ => h_.elim) (.cons (t := 18) rfl (fun _ h_ => h_.elim) (.cons (t := 19) rfl (fun _ h_ => h_.elim) (.cons (t := 20) rfl (fun _ h_ => h_.elim) (.cons (t := 21) rfl (fun _ h_ => h_.elim) (.cons (t := 22) rfl (fun _ h_ => h_.elim) .nil)))))))))), h⟩ ?_
        rintro k145 a s ⟨start142, r143, hL, h⟩ KL146 hKL146
        cases k145 with
        | zero => exact h.elim
        | succ k145 =>
        unfold slices_symMergeCmpFunc_api_Class.l5 at h
        refine wp_seq_k fun K147 hK147 => ?_
        refine wp_seq_k fun K148 hK148 => ?_
        refine rg ?_
        refine st 149 (t_move (o_t 20 rfl) rfl rfl) rfl rfl hL fun a s e_ hL => ?_
        refine st 150 (t_move (o_t 21 rfl) rfl rfl) rfl rfl hL fun a s e_ hL => ?_
        refine st 151 (t_lss (o_t 149 rfl) (o_t 150 rfl) rfl rfl) rfl rfl hL fun a s e_ hL => ?_
        refine en' ?_
        show K148 a s.w
        refine hK148 _ _ ?_
        refine cnd hL rfl (fun hb_ => ?_) (fun hb_ => ?_)
        · replace h := h.1 hb_
          refine wp_skip ?_
          show K147 a s.w
          refine hK147 _ _ ?_
          refine wp_block ?_
          refine wp_seq_k fun K149 hK149 => ?_
          obtain ⟨h150, i151, h152, h⟩ := h
          refine rg ?_
          refine st 152 (t_move (o_t 20 rfl) rfl rfl) rfl rfl hL fun a s e_ hL => ?_
          refine st 153 (t_move (o_t 21 rfl) rfl rfl) rfl rfl hL fun a s e_ hL => ?_
          refine st 154 (t_add (o_t 152 rfl) (o_t 153 rfl) h150 rfl rfl) rfl rfl hL fun a s e_ hL => ?_
          refine st 155 (t_cvt (o_t 154 rfl) Try.underlying3 Try.underlying58 rfl rfl) rfl rfl hL fun a s e_ hL => ?_
          refine st 156 (t_shr (o_t 155 rfl) (o_i (by decide)) (by decide) rfl rfl) rfl rfl hL fun a s e_ hL => ?_
          refine st 157 (h152 ▸ (t_cvt (o_t 156 rfl) Try.underlying58 Try.underlying3 rfl rfl)) rfl rfl hL fun a s e_ hL => ?_
          refine st 23 (t_assign (o_t 157 rfl) rfl rfl) rfl rfl hL fun a s e_ hL => ?_
          refine en' ?_
          show K149 a s.w
          refine hK149 _ _ ?_
          refine wp_seq_k fun K153 hK153 => ?_
          obtain ⟨h154, e155, h156, e157, h158, r159, h160, h⟩ := h
          refine rda follows 14 [(Pd.rep EnF54 cmp_), (Pd.prow En.cls 24 v0 data_), (Pd.rep (En.int .i64) ((i104 + m_) - 1)), (Pd.rep (En.int .i64) i151), (Pd.rep (En.int .i64) (((i104 + m_) - 1) - i151)), (Pd.optr En.cls 0 v0.ownBlock ((((i104 + m_) - 1) - i151 : Int).toNat * En.cls.sz) e155), (Pd.rep En.cls e155), (Pd.prow En.cls 24 v0 data_), (Pd.rep (En.int .i64) i151), (Pd.optr En.cls 0 v0.ownBlock ((i151 : Int).toNat * En.cls.sz) e157), (Pd.rep En.cls e157), (Pd.rep (En.int .i64) r159), (Pd.rep En.bool (decide (r159 < 0))), (Pd.rep En.bool (!(decide (r159 < 0))))] hL (by kernel_rfl) rfl rfl ?_ ?_
          · refine AllT.cons (t_move (o_t 4 rfl) rfl rfl) ?_
            refine AllT.cons (t_move (o_t 0 rfl) rfl rfl) ?_
            refine AllT.cons (t_move (o_t 22 rfl) rfl rfl) ?_
            refine AllT.cons (t_move (o_t 23 rfl) rfl rfl) ?_
            refine AllT.cons (t_sub (o_t 160 rfl) (o_t 161 rfl) h154 rfl rfl) ?_
            refine AllT.cons (t_idxo (o_p (o_t 159 rfl)) (o_t 162 rfl) h156 Try.underlying42 ty24 rfl rfl) ?_
            refine AllT.cons (t_loado ty24 (o_t 163 rfl) rfl rfl) ?_
            refine AllT.cons (t_move (o_t 0 rfl) rfl rfl) ?_
            refine AllT.cons (t_move (o_t 23 rfl) rfl rfl) ?_
            refine AllT.cons (t_idxo (o_p (o_t 165 rfl)) (o_t 166 rfl) h158 Try.underlying42 ty24 rfl rfl) ?_
            refine AllT.cons (t_loado ty24 (o_t 167 rfl) rfl rfl) ?_
            refine AllT.cons (t_callf (q := (e155, e157, r159)) (o_t 158 rfl) h160 (xs := [.tmp 164, .tmp 168]) (.cons (o_t 164 rfl) (.cons (o_t 168 rfl) .nil)) (fun _ _ _ h_ => h_) rfl rfl) ?_
            refine AllT.cons (t_lss (o_t 169 rfl) (o_i (by decide)) rfl rfl) ?_
            refine AllT.cons (t_not (o_t 170 rfl) rfl rfl) ?_
            exact AllT.nil
          intro a s e_ hL
          refine en' ?_
          show K153 a s.w
          refine hK153 _ _ ?_
          refine cnd hL rfl (fun hb_ => ?_) (fun hb_ => ?_)
          · replace h := h.1 hb_
            obtain ⟨h161, h⟩ := h
            refine rg ?_
            refine st 172 (t_move (o_t 23 rfl) rfl rfl) rfl rfl hL fun a s e_ hL => ?_
            refine st 173 (t_add (o_t 172 rfl) (o_i (by decide)) h161 rfl rfl) rfl rfl hL fun a s e_ hL => ?_
            refine st 20 (t_assign (o_t 173 rfl) rfl rfl) rfl rfl hL fun a s e_ hL => ?_
            refine en' ?_
            exact hKL146 k145 a s (Nat.lt_succ_self _) ⟨(i151 + 1), r143, hL.keep (.cons (t := 0) rfl (fun _ _ h_ => h_) (.cons (t := 1) rfl (fun _ h_ => h_.elim) (.cons (t := 2) rfl (fun _ h_ => h_.elim) (.cons (t := 3) rfl (fun _ h_ => h_.elim) (.cons (t := 4) rfl (fun _ h_ => h_.elim) (.cons (t := 18) rfl (fun _ h_ => h_.elim) (.cons (t := 19) rfl (fun _ h_ => h_.elim) (.cons (t := 20) rfl (fun _ h_ => h_.elim) (.cons (t := 21) rfl (fun _ h_ => h_.elim) (.cons (t := 22) rfl (fun _ h_ => h_.elim) .nil)))))))))), h⟩
          · replace h := h.2 hb_
            refine rg ?_
            refine st 174 (t_move (o_t 23 rfl) rfl rfl) rfl rfl hL fun a s e_ hL => ?_
            refine st 21 (t_assign (o_t 174 rfl) rfl rfl) rfl rfl hL fun a s e_ hL => ?_
            refine en' ?_
            exact hKL146 k145 a s (Nat.lt_succ_self _) ⟨start142, i151, hL.keep (.cons (t := 0) rfl (fun _ _ h_ => h_) (.cons (t := 1) rfl (fun _ h_ => h_.elim) (.cons (t := 2) rfl (fun _ h_ => h_.elim) (.cons (t := 3) rfl (fun _ h_ => h_.elim) (.cons (t := 4) rfl (fun _ h_ => h_.elim) (.cons (t := 18) rfl (fun _ h_ => h_.elim) (.cons (t := 19) rfl (fun _ h_ => h_.elim) (.cons (t := 20) rfl (fun _ h_ => h_.elim) (.cons (t := 21) rfl (fun _ h_ => h_.elim) (.cons (t := 22) rfl (fun _ h_ => h_.elim) .nil)))))))))), h⟩
        · replace h := h.2 hb_
          refine wp_exit ?_
          exact J118 start142 a s (hL.keep (.cons (t := 0) rfl (fun _ _ h_ => h_) (.cons (t := 1) rfl (fun _ h_ => h_.elim) (.cons (t := 2) rfl (fun _ h_ => h_.elim) (.cons (t := 3) rfl (fun _ h_ => h_.elim) (.cons (t := 4) rfl (fun _ h_ => h_.elim) (.cons (t := 18) rfl (fun _ h_ => h_.elim) (.cons (t := 19) rfl (fun _ h_ => h_.elim) (.cons (t := 20) rfl (fun _ h_ => h_.elim) .nil))))))))) h
      refine cnd hL rfl (fun hb_ => ?_) (fun hb_ => ?_)
      · replace h := h.1 hb_
        refine wp_seq_k fun K162 hK162 => ?_
        obtain ⟨h163, h⟩ := h
        refine rg ?_
        refine st 141 (t_move (o_t 19 rfl) rfl rfl) rfl rfl hL fun a s e_ hL => ?_
        refine st 142 (t_move (o_t 3 rfl) rfl rfl) rfl rfl hL fun a s e_ hL => ?_
        refine st 143 (t_sub (o_t 141 rfl) (o_t 142 rfl) h163 rfl rfl) rfl rfl hL fun a s e_ hL => ?_
        refine st 20 (t_assign (o_t 143 rfl) rfl rfl) rfl rfl hL fun a s e_ hL => ?_
        refine en' ?_
        show K162 a s.w
        refine hK162 _ _ ?_
        refine rg ?_
        refine st 144 (t_move (o_t 18 rfl) rfl rfl) rfl rfl hL fun a s e_ hL => ?_
        refine st 21 (t_assign (o_t 144 rfl) rfl rfl) rfl rfl hL fun a s e_ hL => ?_
        refine en' ?_
        exact J113 ((i104 + m_) - b_) i104 a s (hL.keep (.cons (t := 0) rfl (fun _ _ h_ => h_) (.cons (t := 1) rfl (fun _ h_ => h_.elim) (.cons (t := 2) rfl (fun _ h_ => h_.elim) (.cons (t := 3) rfl (fun _ h_ => h_.elim) (.cons (t := 4) rfl (fun _ h_ => h_.elim) (.cons (t := 18) rfl (fun _ h_ => h_.elim) (.cons (t := 19) rfl (fun _ h_ => h_.elim) (.cons (t := 20) rfl (fun _ h_ => h_.elim) (.cons (t := 21) rfl (fun _ h_ => h_.elim) .nil)))))))))) h
      · replace h := h.2 hb_
        refine wp_seq_k fun K164 hK164 => ?_
        refine rg ?_
        refine st 145 (t_move (o_t 1 rfl) rfl rfl) rfl rfl hL fun a s e_ hL => ?_
        refine st 20 (t_assign (o_t 145 rfl) rfl rfl) rfl rfl hL fun a s e_ hL => ?_
        refine en' ?_
        show K164 a s.w
        refine hK164 _ _ ?_
        refine rg ?_
        refine st 146 (t_move (o_t 2 rfl) rfl rfl) rfl rfl hL fun a s e_ hL => ?_
        refine st 21 (t_assign (o_t 146 rfl) rfl rfl) rfl rfl hL fun a s e_ hL => ?_
        refine en' ?_
        exact J113 a_ m_ a s (hL.keep (.cons (t := 0) rfl (fun _ _ h_ => h_) (.cons (t := 1) rfl (fun _ h_ => h_.elim) (.cons (t := 2) rfl (fun _ h_ => h_.elim) (.cons (t := 3) rfl (fun _ h_ => h_.elim) (.cons (t := 4) rfl (fun _ h_ => h_.elim) (.cons (t := 18) rfl (fun _ h_ => h_.elim) (.cons (t := 19) rfl (fun _ h_ => h_.elim) (.cons (t := 20) rfl (fun _ h_ => h_.elim) (.cons (t := 21) rfl (fun _ h_ => h_.elim) .nil)))))))))) h
theorem slices_symMergeCmpFunc_api_Class_ok (v0 : Value) {data_ : (List Cl)} {a_ : Int} {m_ : Int} {b_ : Int} {cmp_ : (Cl × Cl × Int → Prop)} {r_ : (List Cl)} (h : slices_symMergeCmpFunc_api_Class data_ a_ m_ b_ cmp_ r_) : Fm Try.prog 46 (fun b => v0.ownBlock = some b) [(Pd.prow En.cls 24 v0 data_), (Pd.rep (En.int .i64) a_), (Pd.rep (En.int .i64) m_), (Pd.rep (En.int .i64) b_), (Pd.rep EnF54 cmp_)] (fun _ s' _ => (Pd.prow En.cls 24 v0 r_).p s' v0) := by
  obtain ⟨k_, h⟩ := h
  exact slices_symMergeCmpFunc_api_Class.n_ok k_ v0 h

theorem slices_stableCmpFunc_api_Class_ok (v0 : Value) {data_ : (List Cl)} {n_ : Int} {cmp_ : (Cl × Cl × Int → Prop)} {r_ : (List Cl)} (h : slices_stableCmpFunc_api_Class data_ n_ cmp_ r_) : Fm Try.prog 44 (fun b => v0.ownBlock = some b) [(Pd.prow En.cls 24 v0 data_), (Pd.rep (En.int .i64) n_), (Pd.rep EnF54 cmp_)] (fun _ s' _ => (Pd.prow En.cls 24 v0 r_).p s' v0) := by
  unfold slices_stableCmpFunc_api_Class at h
  refine fm_of Try.func44 rfl Try.ntmps44 (by rfl) (by simp) fun s0 a hL => ?_
  refine wp_seq_k fun K1 hK1 => ?_
  refine rg ?_
  refine st 6 (t_assign (o_i (by decide)) rfl rfl) rfl rfl hL fun a s e_ hL => ?_
  refine en' ?_
  show K1 a s.w
  refine hK1 _ _ ?_
  refine wp_seq_k fun K2 hK2 => ?_
  refine rg ?_
  refine st 10 (t_move (o_t 6 rfl) rfl rfl) rfl rfl hL fun a s e_ hL => ?_
  refine st 7 (t_assign (o_i (by decide)) rfl rfl) rfl rfl hL fun a s e_ hL => ?_
  refine st 8 (t_assign (o_t 10 rfl) rfl rfl) rfl rfl hL fun a s e_ hL => ?_
  refine en' ?_
  show K2 a s.w
  refine hK2 _ _ ?_
  refine wp_seq_k fun K3 hK3 => ?_
  refine wp_block ?_
  have J6 : ∀ (data4 : (List Cl)) (a5 : Int) (a : Act) (s : St), Has (fun b => v0.ownBlock = some b) 63 s0 a s [(0, (Pd.prow En.cls 24 v0 data4)), (1, (Pd.rep (En.int .i64) n_)), (2, (Pd.rep EnF54 cmp_)), (6, (Pd.rep (En.int .i64) 20)), (7, (Pd.rep (En.int .i64) a5))] → ((slices_stableCmpFunc_api_Class.j3 n_ cmp_ r_) data4 a5) → K3 a s.w := by
    intro data4 a5 a s hL h
    unfold slices_stableCmpFunc_api_Class.j3 at h
    show K3 a s.w
    refine hK3 _ _ ?_
    refine wp_seq_k fun K7 hK7 => ?_
    obtain ⟨r8, h9, h⟩ := h
    refine rg ?_
    refine st 23 (t_move (o_t 0 rfl) rfl rfl) rfl rfl hL fun a s e_ hL => ?_
    refine st 24 (t_move (o_t 7 rfl) rfl rfl) rfl rfl hL fun a s e_ hL => ?_
    refine st 25 (t_move (o_t 1 rfl) rfl rfl) rfl rfl hL fun a s e_ hL => ?_
    refine st 26 (t_move (o_t 2 rfl) rfl rfl) rfl rfl hL fun a s e_ hL => ?_
    refine st_callm (L' := [(0, (Pd.prow En.cls 24 v0 r8)), (1, (Pd.rep (En.int .i64) n_)), (2, (Pd.rep EnF54 cmp_)), (6, (Pd.rep (En.int .i64) 20))]) 27 (fun v0 => slices_insertionSortCmpFunc_api_Class_ok v0 h9) hL (fun b h => h) (o_t 23 rfl) (zs := [.tmp 24, .tmp 25, .tmp 26]) (.cons (o_t 24 rfl) (.cons (o_t 25 rfl) (.cons (o_t 26 rfl) .nil))) rfl rfl rfl rfl (.turn (t := 0) rfl (.cons (t := 1) rfl (fun _ h_ => h_.elim) (.cons (t := 2) rfl (fun _ h_ => h_.elim) (.cons (t := 6) rfl (fun _ h_ => h_.elim) .nil)))) fun a s hL => ?_
    refine en' ?_
    show K7 a s.w
    refine hK7 _ _ ?_
    refine wp_block ?_
    have J11 : ∀ (data10 : (List Cl)) (a : Act) (s : St), Has (fun b => v0.ownBlock = some b) 63 s0 a s [(0, (Pd.prow En.cls 24 v0 data10))] → ((slices_stableCmpFunc_api_Class.j1 r_) data10) → (bodyPost Try.prog Try.f44 (Pst (fun b => v0.ownBlock = some b) (fun _ s' _ => (Pd.prow En.cls 24 v0 r_).p s' v0) s0) .normal) a s.w := by
      intro data10 a s hL h
      unfold slices_stableCmpFunc_api_Class.j1 at h
      subst h
      exact retm rfl hL (c := 0) rfl
    obtain ⟨k14, h⟩ := h
    refine lpg (fun k15 a s => ∃ (data12 : (List Cl)) (blockSize13 : Int), Has (fun b => v0.ownBlock = some b) 63 s0 a s [(0, (Pd.prow En.cls 24 v0 data12)), (1, (Pd.rep (En.int .i64) n_)), (2, (Pd.rep EnF54 cmp_)), (6, (Pd.rep (En.int .i64) blockSize13))] ∧ slices_stableCmpFunc_api_Class.l1 n_ cmp_ (slices_stableCmpFunc_api_Class.j1 r_) k15 data12 blockSize13) k14 ⟨r8, 20, hL.keep (.cons (t := 0) rfl (fun _ _ h_ => h_) (.cons (t := 1) rfl (fun _ h_ => h_.elim) (.cons (t := 2) rfl (fun _ h_ => h_.elim) (.cons (t := 6) rfl (fun _ h_ => h_.elim) .nil)))), h⟩ ?_
    rintro k15 a s ⟨data12, blockSize13, hL, h⟩ KL16 hKL16
    cases k15 with
    | zero => exact h.elim
    | succ k15 =>
    unfold slices_stableCmpFunc_api_Class.l1 at h
    refine wp_seq_k fun K17 hK17 => ?_
    refine wp_seq_k fun K18 hK18 => ?_
    refine rg ?_
    refine st 28 (t_move (o_t 6 rfl) rfl rfl) rfl rfl hL fun a s e_ hL => ?_
    refine st 29 (t_move (o_t 1 rfl) rfl rfl) rfl rfl hL fun a s e_ hL => ?_
    refine st 30 (t_lss (o_t 28 rfl) (o_t 29 rfl) rfl rfl) rfl rfl hL fun a s e_ hL => ?_
    refine en' ?_
    show K18 a s.w
    refine hK18 _ _ ?_
    refine cnd hL rfl (fun hb_ => ?_) (fun hb_ => ?_)
    · replace h := h.1 hb_
      refine wp_skip ?_
      show K17 a s.w
      refine hK17 _ _ ?_
      refine wp_block ?_
      refine wp_seq_k fun K19 hK19 => ?_
      obtain ⟨h20, h⟩ := h
      refine rg ?_
      refine st 31 (t_move (o_t 6 rfl) rfl rfl) rfl rfl hL fun a s e_ hL => ?_
      refine st 32 (t_mul (o_i (by decide)) (o_t 31 rfl) h20 rfl rfl) rfl rfl hL fun a s e_ hL => ?_
      refine st 7 (t_assign (o_i (by decide)) rfl rfl) rfl rfl hL fun a s e_ hL => ?_
      refine st 8 (t_assign (o_t 32 rfl) rfl rfl) rfl rfl hL fun a s e_ hL => ?_
      refine en' ?_
      show K19 a s.w
      refine hK19 _ _ ?_
      refine wp_seq_k fun K21 hK21 => ?_
      refine wp_block ?_
      have J24 : ∀ (data22 : (List Cl)) (a23 : Int) (a : Act) (s : St), Has (fun b => v0.ownBlock = some b) 63 s0 a s [(0, (Pd.prow En.cls 24 v0 data22)), (1, (Pd.rep (En.int .i64) n_)), (2, (Pd.rep EnF54 cmp_)), (6, (Pd.rep (En.int .i64) blockSize13)), (7, (Pd.rep (En.int .i64) a23))] → ((slices_stableCmpFunc_api_Class.j2 (slices_stableCmpFunc_api_Class.l1 n_ cmp_ (slices_stableCmpFunc_api_Class.j1 r_) k15) n_ cmp_ blockSize13) data22 a23) → K21 a s.w := by
        intro data22 a23 a s hL h
        unfold slices_stableCmpFunc_api_Class.j2 at h
        show K21 a s.w
        refine hK21 _ _ ?_
        refine wp_seq_k fun K25 hK25 => ?_
        refine wp_seq_k fun K26 hK26 => ?_
        obtain ⟨h27, h⟩ := h
        refine rg ?_
        refine st 49 (t_move (o_t 7 rfl) rfl rfl) rfl rfl hL fun a s e_ hL => ?_
        refine st 50 (t_move (o_t 6 rfl) rfl rfl) rfl rfl hL fun a s e_ hL => ?_
        refine st 51 (t_add (o_t 49 rfl) (o_t 50 rfl) h27 rfl rfl) rfl rfl hL fun a s e_ hL => ?_
        refine st 9 (t_assign (o_t 51 rfl) rfl rfl) rfl rfl hL fun a s e_ hL => ?_
        refine en' ?_
        show K26 a s.w
        refine hK26 _ _ ?_
        refine wp_seq_k fun K28 hK28 => ?_
        refine rg ?_
        refine st 52 (t_move (o_t 9 rfl) rfl rfl) rfl rfl hL fun a s e_ hL => ?_
        refine st 53 (t_move (o_t 1 rfl) rfl rfl) rfl rfl hL fun a s e_ hL => ?_
        refine st 54 (t_lss (o_t 52 rfl) (o_t 53 rfl) rfl rfl) rfl rfl hL fun a s e_ hL => ?_
        refine en' ?_
        show K28 a s.w
        refine hK28 _ _ ?_
        refine cnd hL rfl (fun hb_ => ?_) (fun hb_ => ?_)
        · replace h := h.1 hb_
          obtain ⟨r29, h30, h⟩ := h
          refine rg ?_
          refine st 55 (t_move (o_t 0 rfl) rfl rfl) rfl rfl hL fun a s e_ hL => ?_
          refine st 56 (t_move (o_t 7 rfl) rfl rfl) rfl rfl hL fun a s e_ hL => ?_
          refine st 57 (t_move (o_t 9 rfl) rfl rfl) rfl rfl hL fun a s e_ hL => ?_
          refine st 58 (t_move (o_t 1 rfl) rfl rfl) rfl rfl hL fun a s e_ hL => ?_
          refine st 59 (t_move (o_t 2 rfl) rfl rfl) rfl rfl hL fun a s e_ hL => ?_
          refine st_callm (L' := [(0, (Pd.prow En.cls 24 v0 r29)), (1, (Pd.rep (En.int .i64) n_)), (2, (Pd.rep EnF54 cmp_)), (6, (Pd.rep (En.int .i64) blockSize13))]) 60 (fun v0 => slices_symMergeCmpFunc_api_Class_ok v0 h30) hL (fun b h => h) (o_t 55 rfl) (zs := [.tmp 56, .tmp 57, .tmp 58, .tmp 59]) (.cons (o_t 56 rfl) (.cons (o_t 57 rfl) (.cons (o_t 58 rfl) (.cons (o_t 59 rfl) .nil)))) rfl rfl rfl rfl (.turn (t := 0) rfl (.cons (t := 1) rfl (fun _ h_ => h_.elim) (.cons (t := 2) rfl (fun _ h_ => h_.elim) (.cons (t := 6) rfl (fun _ h_ => h_.elim) .nil)))) fun a s hL => ?_
          refine en' ?_
          show K25 a s.w
          refine hK25 _ _ ?_
          obtain ⟨h31, h⟩ := h
          refine rg ?_
          refine st 61 (t_move (o_t 6 rfl) rfl rfl) rfl rfl hL fun a s e_ hL => ?_
          refine st 62 (t_mul (o_t 61 rfl) (o_i (by decide)) h31 rfl rfl) rfl rfl hL fun a s e_ hL => ?_
          refine st 6 (t_assign (o_t 62 rfl) rfl rfl) rfl rfl hL fun a s e_ hL => ?_
          refine en' ?_
          exact hKL16 k15 a s (Nat.lt_succ_self _) ⟨r29, (blockSize13 * 2), hL.keep (.cons (t := 0) rfl (fun _ _ h_ => h_) (.cons (t := 1) rfl (fun _ h_ => h_.elim) (.cons (t := 2) rfl (fun _ h_ => h_.elim) (.cons (t := 6) rfl (fun _ h_ => h_.elim) .nil)))), h⟩
        · replace h := h.2 hb_
          refine wp_skip ?_
          show K25 a s.w
          refine hK25 _ _ ?_
          obtain ⟨h32, h⟩ := h
          refine rg ?_
          refine st 61 (t_move (o_t 6 rfl) rfl rfl) rfl rfl hL fun a s e_ hL => ?_
          refine st 62 (t_mul (o_t 61 rfl) (o_i (by decide)) h32 rfl rfl) rfl rfl hL fun a s e_ hL => ?_
          refine st 6 (t_assign (o_t 62 rfl) rfl rfl) rfl rfl hL fun a s e_ hL => ?_
          refine en' ?_
          exact hKL16 k15 a s (Nat.lt_succ_self _) ⟨data22, (blockSize13 * 2), hL.keep (.cons (t := 0) rfl (fun _ _ h_ => h_) (.cons (t := 1) rfl (fun _ h_ => h_.elim) (.cons (t := 2) rfl (fun _ h_ => h_.elim) (.cons (t := 6) rfl (fun _ h_ => h_.elim) .nil)))), h⟩
      obtain ⟨k36, h⟩ := h
      refine lpg (fun k37 a s => ∃ (data33 : (List Cl)) (a34 : Int) (b35 : Int), Has (fun b => v0.ownBlock = some b) 63 s0 a s [(0, (Pd.prow En.cls 24 v0 data33)), (1, (Pd.rep (En.int .i64) n_)), (2, (Pd.rep EnF54 cmp_)), (6, (Pd.rep (En.int .i64) blockSize13)), (7, (Pd.rep (En.int .i64) a34)), (8, (Pd.rep (En.int .i64) b35))] ∧ slices_stableCmpFunc_api_Class.l2 n_ cmp_ blockSize13 (slices_stableCmpFunc_api_Class.j2 (slices_stableCmpFunc_api_Class.l1 n_ cmp_ (slices_stableCmpFunc_api_Class.j1 r_) k15) n_ cmp_ blockSize13) k37 data33 a34 b35) k36 ⟨data12, 0, (2 * blockSize13), hL.keep (.cons (t := 0) rfl (fun _ _ h_ => h_) (.cons (t := 1) rfl (fun _ h_ => h_.elim) (.cons (t := 2) rfl (fun _ h_ => h_.elim) (.cons (t := 6) rfl (fun _ h_ => h_.elim) (.cons (t := 7) rfl (fun _ h_ => h_.elim) (.cons (t := 8) rfl (fun _ h_ => h_.elim) .nil)))))), h⟩ ?_
      rintro k37 a s ⟨data33, a34, b35, hL, h⟩ KL38 hKL38
      cases k37 with
      | zero => exact h.elim
      | succ k37 =>
      unfold slices_stableCmpFunc_api_Class.l2 at h
      refine wp_seq_k fun K39 hK39 => ?_
      refine wp_seq_k fun K40 hK40 => ?_
      refine rg ?_
      refine st 33 (t_move (o_t 8 rfl) rfl rfl) rfl rfl hL fun a s e_ hL => ?_
      refine st 34 (t_move (o_t 1 rfl) rfl rfl) rfl rfl hL fun a s e_ hL => ?_
      refine st 35 (t_leq (o_t 33 rfl) (o_t 34 rfl) rfl rfl) rfl rfl hL fun a s e_ hL => ?_
      refine en' ?_
      show K40 a s.w
      refine hK40 _ _ ?_
      refine cnd hL rfl (fun hb_ => ?_) (fun hb_ => ?_)
      · replace h := h.1 hb_
        refine wp_skip ?_
        show K39 a s.w
        refine hK39 _ _ ?_
        refine wp_block ?_
        refine wp_seq_k fun K41 hK41 => ?_
        obtain ⟨h42, r43, h44, h⟩ := h
        refine rg ?_
        refine st 36 (t_move (o_t 0 rfl) rfl rfl) rfl rfl hL fun a s e_ hL => ?_
        refine st 37 (t_move (o_t 7 rfl) rfl rfl) rfl rfl hL fun a s e_ hL => ?_
        refine st 38 (t_move (o_t 7 rfl) rfl rfl) rfl rfl hL fun a s e_ hL => ?_
        refine st 39 (t_move (o_t 6 rfl) rfl rfl) rfl rfl hL fun a s e_ hL => ?_
        refine st 40 (t_add (o_t 38 rfl) (o_t 39 rfl) h42 rfl rfl) rfl rfl hL fun a s e_ hL => ?_
        refine st 41 (t_move (o_t 8 rfl) rfl rfl) rfl rfl hL fun a s e_ hL => ?_
        refine st 42 (t_move (o_t 2 rfl) rfl rfl) rfl rfl hL fun a s e_ hL => ?_
        refine st_callm (L' := [(0, (Pd.prow En.cls 24 v0 r43)), (1, (Pd.rep (En.int .i64) n_)), (2, (Pd.rep EnF54 cmp_)), (6, (Pd.rep (En.int .i64) blockSize13)), (8, (Pd.rep (En.int .i64) b35))]) 43 (fun v0 => slices_symMergeCmpFunc_api_Class_ok v0 h44) hL (fun b h => h) (o_t 36 rfl) (zs := [.tmp 37, .tmp 40, .tmp 41, .tmp 42]) (.cons (o_t 37 rfl) (.cons (o_t 40 rfl) (.cons (o_t 41 rfl) (.cons (o_t 42 rfl) .nil)))) rfl rfl rfl rfl (.turn (t := 0) rfl (.cons (t := 1) rfl (fun _ h_ => h_.elim) (.cons (t := 2) rfl (fun _ h_ => h_.elim) (.cons (t := 6) rfl (fun _ h_ => h_.elim) (.cons (t := 8) rfl (fun _ h_ => h_.elim) .nil))))) fun a s hL => ?_
        refine en' ?_
        show K41 a s.w
        refine hK41 _ _ ?_
        refine wp_seq_k fun K45 hK45 => ?_
        refine rg ?_
        refine st 44 (t_move (o_t 8 rfl) rfl rfl) rfl rfl hL fun a s e_ hL => ?_
        refine st 7 (t_assign (o_t 44 rfl) rfl rfl) rfl rfl hL fun a s e_ hL => ?_
        refine en' ?_
        show K45 a s.w
        refine hK45 _ _ ?_
        obtain ⟨h46, h47, h⟩ := h
        refine rg ?_
        refine st 45 (t_move (o_t 8 rfl) rfl rfl) rfl rfl hL fun a s e_ hL => ?_
        refine st 46 (t_move (o_t 6 rfl) rfl rfl) rfl rfl hL fun a s e_ hL => ?_
        refine st 47 (t_mul (o_i (by decide)) (o_t 46 rfl) h46 rfl rfl) rfl rfl hL fun a s e_ hL => ?_
        refine st 48 (t_add (o_t 45 rfl) (o_t 47 rfl) h47 rfl rfl) rfl rfl hL fun a s e_ hL => ?_
        refine st 8 (t_assign (o_t 48 rfl) rfl rfl) rfl rfl hL fun a s e_ hL => ?_
        refine en' ?_
        exact hKL38 k37 a s (Nat.lt_succ_self _) ⟨r43, b35, (b35 + (2 * blockSize13)), hL.keep (.cons (t := 0) rfl (fun _ _ h_ => h_) (.cons (t := 1) rfl (fun _ h_ => h_.elim) (.cons (t := 2) rfl (fun _ h_ => h_.elim) (.cons (t := 6) rfl (fun _ h_ => h_.elim) (.cons (t := 7) rfl (fun _ h_ => h_.elim) (.cons (t := 8) rfl (fun _ h_ => h_.elim) .nil)))))), h⟩
      · replace h := h.2 hb_
        refine wp_exit ?_
        exact J24 data33 a34 a s (hL.keep (.cons (t := 0) rfl (fun _ _ h_ => h_) (.cons (t := 1) rfl (fun _ h_ => h_.elim) (.cons (t := 2) rfl (fun _ h_ => h_.elim) (.cons (t := 6) rfl (fun _ h_ => h_.elim) (.cons (t := 7) rfl (fun _ h_ => h_.elim) .nil)))))) h
    · replace h := h.2 hb_
      refine wp_exit ?_
      exact J11 data12 a s (hL.keep (.cons (t := 0) rfl (fun _ _ h_ => h_) .nil)) h
  obtain ⟨k51, h⟩ := h
  refine lpg (fun k52 a s => ∃ (data48 : (List Cl)) (a49 : Int) (b50 : Int), Has (fun b => v0.ownBlock = some b) 63 s0 a s [(0, (Pd.prow En.cls 24 v0 data48)), (1, (Pd.rep (En.int .i64) n_)), (2, (Pd.rep EnF54 cmp_)), (6, (Pd.rep (En.int .i64) 20)), (7, (Pd.rep (En.int .i64) a49)), (8, (Pd.rep (En.int .i64) b50))] ∧ slices_stableCmpFunc_api_Class.l3 n_ cmp_ (slices_stableCmpFunc_api_Class.j3 n_ cmp_ r_) k52 data48 a49 b50) k51 ⟨data_, 0, 20, hL.keep (.cons (t := 0) rfl (fun _ _ h_ => h_) (.cons (t := 1) rfl (fun _ h_ => h_.elim) (.cons (t := 2) rfl (fun _ h_ => h_.elim) (.cons (t := 6) rfl (fun _ h_ => h_.elim) (.cons (t := 7) rfl (fun _ h_ => h_.elim) (.cons (t := 8) rfl (fun _ h_ => h_.elim) .nil)))))), h⟩ ?_
  rintro k52 a s ⟨data48, a49, b50, hL, h⟩ KL53 hKL53
  cases k52 with
  | zero => exact h.elim
  | succ k52 =>
  unfold slices_stableCmpFunc_api_Class.l3 at h
  refine wp_seq_k fun K54 hK54 => ?_
  refine wp_seq_k fun K55 hK55 => ?_
  refine rg ?_
  refine st 11 (t_move (o_t 8 rfl) rfl rfl) rfl rfl hL fun a s e_ hL => ?_
  refine st 12 (t_move (o_t 1 rfl) rfl rfl) rfl rfl hL fun a s e_ hL => ?_
  refine st 13 (t_leq (o_t 11 rfl) (o_t 12 rfl) rfl rfl) rfl rfl hL fun a s e_ hL => ?_
  refine en' ?_
  show K55 a s.w
  refine hK55 _ _ ?_
  refine cnd hL rfl (fun hb_ => ?_) (fun hb_ => ?_)
  · replace h := h.1 hb_
    refine wp_skip ?_
    show K54 a s.w
    refine hK54 _ _ ?_
    refine wp_block ?_
    refine wp_seq_k fun K56 hK56 => ?_
    obtain ⟨r57, h58, h⟩ := h
    refine rg ?_
    refine st 14 (t_move (o_t 0 rfl) rfl rfl) rfl rfl hL fun a s e_ hL => ?_
    refine st 15 (t_move (o_t 7 rfl) rfl rfl) rfl rfl hL fun a s e_ hL => ?_
    refine st 16 (t_move (o_t 8 rfl) rfl rfl) rfl rfl hL fun a s e_ hL => ?_
    refine st 17 (t_move (o_t 2 rfl) rfl rfl) rfl rfl hL fun a s e_ hL => ?_
    refine st_callm (L' := [(0, (Pd.prow En.cls 24 v0 r57)), (1, (Pd.rep (En.int .i64) n_)), (2, (Pd.rep EnF54 cmp_)), (6, (Pd.rep (En.int .i64) 20)), (8, (Pd.rep (En.int .i64) b50))]) 18 (fun v0 => slices_insertionSortCmpFunc_api_Class_ok v0 h58) hL (fun b h => h) (o_t 14 rfl) (zs := [.tmp 15, .tmp 16, .tmp 17]) (.cons (o_t 15 rfl) (.cons (o_t 16 rfl) (.cons (o_t 17 rfl) .nil))) rfl rfl rfl rfl (.turn (t := 0) rfl (.cons (t := 1) rfl (fun _ h_ => h_.elim) (.cons (t := 2) rfl (fun _ h_ => h_.elim) (.cons (t := 6) rfl (fun _ h_ => h_.elim) (.cons (t := 8) rfl (fun _ h_ => h_.elim) .nil))))) fun a s hL => ?_
    refine en' ?_
    show K56 a s.w
    refine hK56 _ _ ?_
    refine wp_seq_k fun K59 hK59 => ?_
    refine rg ?_
    refine st 19 (t_move (o_t 8 rfl) rfl rfl) rfl rfl hL fun a s e_ hL => ?_
    refine st 7 (t_assign (o_t 19 rfl) rfl rfl) rfl rfl hL fun a s e_ hL => ?_
    refine en' ?_
    show K59 a s.w
    refine hK59 _ _ ?_
    obtain ⟨h60, h⟩ := h
    refine rg ?_
    refine st 20 (t_move (o_t 8 rfl) rfl rfl) rfl rfl hL fun a s e_ hL => ?_
    refine st 21 (t_move (o_t 6 rfl) rfl rfl) rfl rfl hL fun a s e_ hL => ?_
    refine st 22 (t_add (o_t 20 rfl) (o_t 21 rfl) h60 rfl rfl) rfl rfl hL fun a s e_ hL => ?_
    refine st 8 (t_assign (o_t 22 rfl) rfl rfl) rfl rfl hL fun a s e_ hL => ?_
    refine en' ?_
    exact hKL53 k52 a s (Nat.lt_succ_self _) ⟨r57, b50, (b50 + 20), hL.keep (.cons (t := 0) rfl (fun _ _ h_ => h_) (.cons (t := 1) rfl (fun _ h_ => h_.elim) (.cons (t := 2) rfl (fun _ h_ => h_.elim) (.cons (t := 6) rfl (fun _ h_ => h_.elim) (.cons (t := 7) rfl (fun _ h_ => h_.elim) (.cons (t := 8) rfl (fun _ h_ => h_.elim) .nil)))))), h⟩
  · replace h := h.2 hb_
    refine wp_exit ?_
    exact J6 data48 a49 a s (hL.keep (.cons (t := 0) rfl (fun _ _ h_ => h_) (.cons (t := 1) rfl (fun _ h_ => h_.elim) (.cons (t := 2) rfl (fun _ h_ => h_.elim) (.cons (t := 6) rfl (fun _ h_ => h_.elim) (.cons (t := 7) rfl (fun _ h_ => h_.elim) .nil)))))) h

theorem slices_SortStableFunc_api_Class_api_Class_ok (v0 : Value) {x_ : (List Cl)} {cmp_ : (Cl × Cl × Int → Prop)} {r_ : (List Cl)} (h : slices_SortStableFunc_api_Class_api_Class x_ cmp_ r_) : Fm Try.prog 42 (fun b => v0.ownBlock = some b) [(Pd.prow En.cls 24 v0 x_), (Pd.rep EnF54 cmp_)] (fun _ s' _ => (Pd.prow En.cls 24 v0 r_).p s' v0) := by
  unfold slices_SortStableFunc_api_Class_api_Class at h
  refine fm_of Try.func42 rfl Try.ntmps42 (by rfl) (by simp) fun s0 a hL => ?_
  obtain ⟨r1, h2, h⟩ := h
  refine rg ?_
  refine st 4 (t_move (o_t 0 rfl) rfl rfl) rfl rfl hL fun a s e_ hL => ?_
  refine st 5 (t_move (o_t 0 rfl) rfl rfl) rfl rfl hL fun a s e_ hL => ?_
  refine st 6 (t_leno (o_p (o_t 5 rfl)) Try.underlying42 rfl rfl) rfl rfl hL fun a s e_ hL => ?_
  refine st 7 (t_move (o_t 1 rfl) rfl rfl) rfl rfl hL fun a s e_ hL => ?_
  refine st_callm (L' := [(0, (Pd.prow En.cls 24 v0 r1))]) 8 (fun v0 => slices_stableCmpFunc_api_Class_ok v0 h2) hL (fun b h => h) (o_t 4 rfl) (zs := [.tmp 6, .tmp 7]) (.cons (o_t 6 rfl) (.cons (o_t 7 rfl) .nil)) rfl rfl rfl rfl (.turn (t := 0) rfl .nil) fun a s hL => ?_
  refine en' ?_
  subst h
  exact retm rfl hL (c := 0) rfl
end Go.Proofs.Ytkdbiiollbeoeaa.V
