/- The walks of the functions of layer 0 (by gen.py). -/
import Derived.Test.YtdfnbogkniikbaaDoorY
import Derived.Test.YtdfnbogkniikbaaDoorMZ
import Derived.Test.YtdfnbogkniikbaaDoorR00
namespace Go.Proofs.YtdfnbogkniikbaaDoor.V
open Go
set_option linter.unusedVariables false
set_option maxRecDepth 100000
theorem slices_Reverse_byte_byte_ok (v0 : Value) {s_ : (List Int)} {r_ : (List Int)} (h : slices_Reverse_byte_byte s_ r_) : Fm Tryd.prog 72 (fun b => v0.ownBlock = some b) [(Pd.prow (En.int .u8) 5 v0 s_)] (fun _ s' _ => (Pd.prow (En.int .u8) 5 v0 r_).p s' v0) := by
  unfold slices_Reverse_byte_byte at h
  refine fm_of Tryd.func72 rfl Tryd.ntmps72 (by rfl) (by simp) fun s0 a hL => ?_
  refine wp_seq_k fun K1 hK1 => ?_
  obtain ⟨h2, h⟩ := h
  refine rg ?_
  refine st 4 (t_move (o_t 0 rfl) rfl rfl) rfl rfl hL fun a s e_ hL => ?_
  refine st 5 (t_leno (o_p (o_t 4 rfl)) Tryd.underlying51 rfl rfl) rfl rfl hL fun a s e_ hL => ?_
  refine st 6 (t_sub (o_t 5 rfl) (o_i (by decide)) h2 rfl rfl) rfl rfl hL fun a s e_ hL => ?_
  refine st 2 (t_assign (o_i (by decide)) rfl rfl) rfl rfl hL fun a s e_ hL => ?_
  refine st 3 (t_assign (o_t 6 rfl) rfl rfl) rfl rfl hL fun a s e_ hL => ?_
  refine en' ?_
  show K1 a s.w
  refine hK1 _ _ ?_
  refine wp_block ?_
  have J4 : ∀ (s3 : (List Int)) (a : Act) (s : St), Has (fun b => v0.ownBlock = some b) 28 s0 a s [(0, (Pd.prow (En.int .u8) 5 v0 s3))] → ((slices_Reverse_byte_byte.j1 r_) s3) → (bodyPost Tryd.prog Tryd.f72 (Pst (fun b => v0.ownBlock = some b) (fun _ s' _ => (Pd.prow (En.int .u8) 5 v0 r_).p s' v0) s0) .normal) a s.w := by
    intro s3 a s hL h
    unfold slices_Reverse_byte_byte.j1 at h
    subst h
    exact retm rfl hL (c := 0) rfl
  obtain ⟨k8, h⟩ := h
  refine lpg (fun k9 a s => ∃ (s5 : (List Int)) (i6 : Int) (j7 : Int), Has (fun b => v0.ownBlock = some b) 28 s0 a s [(0, (Pd.prow (En.int .u8) 5 v0 s5)), (2, (Pd.rep (En.int .i64) i6)), (3, (Pd.rep (En.int .i64) j7))] ∧ slices_Reverse_byte_byte.l1 (slices_Reverse_byte_byte.j1 r_) k9 s5 i6 j7) k8 ⟨s_, 0, ((s_.length : Int) - 1), hL.keep (.cons (t := 0) rfl (fun _ _ h_ => h_) (.cons (t := 2) rfl (fun _ h_ => h_.elim) (.cons (t := 3) rfl (fun _ h_ => h_.elim) .nil))), h⟩ ?_
  rintro k9 a s ⟨s5, i6, j7, hL, h⟩ KL10 hKL10
  cases k9 with
  | zero => exact h.elim
  | succ k9 =>
  unfold slices_Reverse_byte_byte.l1 at h
  refine wp_seq_k fun K11 hK11 => ?_
  refine wp_seq_k fun K12 hK12 => ?_
  refine rg ?_
  refine st 7 (t_move (o_t 2 rfl) rfl rfl) rfl rfl hL fun a s e_ hL => ?_
  refine st 8 (t_move (o_t 3 rfl) rfl rfl) rfl rfl hL fun a s e_ hL => ?_
  refine st 9 (t_lss (o_t 7 rfl) (o_t 8 rfl) rfl rfl) rfl rfl hL fun a s e_ hL => ?_
  refine en' ?_
  show K12 a s.w
  refine hK12 _ _ ?_
  refine cnd hL rfl (fun hb_ => ?_) (fun hb_ => ?_)
  · replace h := h.1 hb_
    refine wp_skip ?_
    show K11 a s.w
    refine hK11 _ _ ?_
    refine wp_seq_k fun K13 hK13 => ?_
    refine wp_block ?_
    obtain ⟨e14, h15, e16, h17, e18, h19, e20, h21, h⟩ := h
    refine rdf 16 follows hL (by kernel_rfl) fun s e_ hL => ?_
    refine fl_take 2 16 hL (by rfl) (by kernel_rfl) (by kernel_rfl) (by kernel_rfl) (fun _ _ _ _ h => h) (q := (Pd.prow (En.int .u8) 5 v0 s5)) (y_move (o_t 0 rfl) rfl rfl) rfl rfl fun a hL => ?_
    refine fl_take 3 17 hL (by rfl) (by kernel_rfl) (by kernel_rfl) (by kernel_rfl) (fun _ _ _ _ h => h) (q := (Pd.rep (En.int .i64) j7)) (y_move (o_t 3 rfl) rfl rfl) rfl rfl fun a hL => ?_
    refine fl_go 13 [(Pd.prow (En.int .u8) 5 v0 s5), (Pd.rep (En.int .i64) i6), (Pd.prow (En.int .u8) 5 v0 s5), (Pd.rep (En.int .i64) j7), (Pd.prow (En.int .u8) 5 v0 s5), (Pd.rep (En.int .i64) j7), (Pd.optr (En.int .u8) 0 v0.ownBlock ((j7 : Int).toNat * (En.int .u8).sz) e14), (Pd.rep (En.int .u8) e14), (Pd.prow (En.int .u8) 5 v0 s5), (Pd.rep (En.int .i64) i6), (Pd.optr (En.int .u8) 0 v0.ownBlock ((i6 : Int).toNat * (En.int .u8).sz) e16), (Pd.rep (En.int .u8) e16), (Pd.optr (En.int .u8) 0 v0.ownBlock ((i6 : Int).toNat * (En.int .u8).sz) e18)] [2, 3] hL (by kernel_rfl) (by kernel_rfl) (by kernel_rfl) (.cons (i := 2) rfl rfl rfl rfl (.cons (i := 3) rfl rfl rfl rfl .nil)) rfl rfl ?_ ?_
    · refine AllF.cons (t_move (o_t 0 rfl) rfl rfl) ?_
      refine AllF.cons (t_move (o_t 2 rfl) rfl rfl) ?_
      refine AllF.skip rfl ?_
      refine AllF.skip rfl ?_
      refine AllF.cons (t_move (o_t 0 rfl) rfl rfl) ?_
      refine AllF.cons (t_move (o_t 3 rfl) rfl rfl) ?_
      refine AllF.cons (t_idxo (o_p (o_t 18 rfl)) (o_t 19 rfl) h15 Tryd.underlying51 ty5 rfl rfl) ?_
      refine AllF.cons (t_loado ty5 (o_t 20 rfl) rfl rfl) ?_
      refine AllF.cons (t_move (o_t 0 rfl) rfl rfl) ?_
      refine AllF.cons (t_move (o_t 2 rfl) rfl rfl) ?_
      refine AllF.cons (t_idxo (o_p (o_t 22 rfl)) (o_t 23 rfl) h17 Tryd.underlying51 ty5 rfl rfl) ?_
      refine AllF.cons (t_loado ty5 (o_t 24 rfl) rfl rfl) ?_
      refine AllF.cons (t_idxo (o_p (o_t 14 rfl)) (o_t 15 rfl) h19 Tryd.underlying51 ty5 rfl rfl) ?_
      exact AllF.nil
    intro a s e_ hL
    refine st_storp (L' := [(0, (Pd.prow (En.int .u8) 5 v0 (s5.set (i6 : Int).toNat e14))), (2, (Pd.rep (En.int .i64) i6)), (3, (Pd.rep (En.int .i64) j7)), (16, (Pd.prow (En.int .u8) 5 v0 (s5.set (i6 : Int).toNat e14))), (17, (Pd.rep (En.int .i64) j7)), (25, (Pd.rep (En.int .u8) e16))]) (off := 0) 0 (fun b h => h) hL rfl h19 (o_t 26 rfl) (o_t 21 rfl) (sub_all _ _ _) ty5 rfl rfl rfl (.turn (t := 0) rfl (.cons (t := 2) rfl (fun _ h_ => h_.elim) (.cons (t := 3) rfl (fun _ h_ => h_.elim) (.turn (t := 16) rfl (.cons (t := 17) rfl (fun _ h_ => h_.elim) (.cons (t := 25) rfl (fun _ h_ => h_.elim) .nil)))))) fun s hL => ?_
    refine st 27 (t_idxo (o_p (o_t 16 rfl)) (o_t 17 rfl) h21 Tryd.underlying51 ty5 rfl rfl) rfl rfl hL fun a s e_ hL => ?_
    refine st_storp (L' := [(0, (Pd.prow (En.int .u8) 5 v0 ((s5.set (i6 : Int).toNat e14).set (j7 : Int).toNat e16))), (2, (Pd.rep (En.int .i64) i6)), (3, (Pd.rep (En.int .i64) j7))]) (off := 0) 0 (fun b h => h) hL rfl h21 (o_t 27 rfl) (o_t 25 rfl) (sub_all _ _ _) ty5 rfl rfl rfl (.turn (t := 0) rfl (.cons (t := 2) rfl (fun _ h_ => h_.elim) (.cons (t := 3) rfl (fun _ h_ => h_.elim) .nil))) fun s hL => ?_
    refine en' ?_
    show K13 a s.w
    refine hK13 _ _ ?_
    obtain ⟨h22, h23, h⟩ := h
    refine rg ?_
    refine st 10 (t_move (o_t 2 rfl) rfl rfl) rfl rfl hL fun a s e_ hL => ?_
    refine st 11 (t_add (o_t 10 rfl) (o_i (by decide)) h22 rfl rfl) rfl rfl hL fun a s e_ hL => ?_
    refine st 12 (t_move (o_t 3 rfl) rfl rfl) rfl rfl hL fun a s e_ hL => ?_
    refine st 13 (t_sub (o_t 12 rfl) (o_i (by decide)) h23 rfl rfl) rfl rfl hL fun a s e_ hL => ?_
    refine st 2 (t_assign (o_t 11 rfl) rfl rfl) rfl rfl hL fun a s e_ hL => ?_
    refine st 3 (t_assign (o_t 13 rfl) rfl rfl) rfl rfl hL fun a s e_ hL => ?_
    refine en' ?_
    exact hKL10 k9 a s (Nat.lt_succ_self _) ⟨((s5.set (i6 : Int).toNat e14).set (j7 : Int).toNat e16), (i6 + 1), (j7 - 1), hL.keep (.cons (t := 0) rfl (fun _ _ h_ => h_) (.cons (t := 2) rfl (fun _ h_ => h_.elim) (.cons (t := 3) rfl (fun _ h_ => h_.elim) .nil))), h⟩
  · replace h := h.2 hb_
    refine wp_exit ?_
    exact J4 s5 a s (hL.keep (.cons (t := 0) rfl (fun _ _ h_ => h_) .nil)) h

theorem slices_IndexFunc_Lapi_Way_api_Way_ok {s_ : (List SWay)} {f_ : (SWay × Bool → Prop)} {r_ : Int} (h : slices_IndexFunc_Lapi_Way_api_Way s_ f_ r_) : Fn Tryd.prog 66 [(Pd.rep (En.slice En.SWay) s_), (Pd.rep EnF94 f_)] (Rq (Pd.rep (En.int .i64) r_)) := by
  unfold slices_IndexFunc_Lapi_Way_api_Way at h
  refine fn_of Tryd.func66 rfl Tryd.ntmps66 (by rfl) (by simp) fun s0 a hL => ?_
  refine wp_seq_k fun K1 hK1 => ?_
  refine rg ?_
  refine st 4 (t_assign (o_i (by decide)) rfl rfl) rfl rfl hL fun a s e_ hL => ?_
  refine en' ?_
  show K1 a s.w
  refine hK1 _ _ ?_
  refine wp_seq_k fun K2 hK2 => ?_
  refine wp_seq_k fun K3 hK3 => ?_
  refine rg ?_
  refine st 6 (t_move (o_t 0 rfl) rfl rfl) rfl rfl hL fun a s e_ hL => ?_
  refine st 7 (t_len (o_t 6 rfl) Tryd.underlying60 rfl rfl) rfl rfl hL fun a s e_ hL => ?_
  refine st 8 (t_move (o_i (by decide)) rfl rfl) rfl rfl hL fun a s e_ hL => ?_
  refine en' ?_
  show K3 a s.w
  refine hK3 _ _ ?_
  refine wp_block ?_
  have J4 : ∀ (a : Act) (s : St), Has N0 19 s0 a s [] → ((slices_IndexFunc_Lapi_Way_api_Way.j1 r_)) → K2 a s.w := by
    intro a s hL h
    unfold slices_IndexFunc_Lapi_Way_api_Way.j1 at h
    show K2 a s.w
    refine hK2 _ _ ?_
    refine wp_seq_k fun K5 hK5 => ?_
    refine rg ?_
    refine st 4 (t_assign (o_i (by decide)) rfl rfl) rfl rfl hL fun a s e_ hL => ?_
    refine en' ?_
    show K5 a s.w
    refine hK5 _ _ ?_
    subst h
    exact wp_ret (retq rfl hL rfl)
  obtain ⟨k7, h⟩ := h
  refine lpg (fun k8 a s => ∃ (v6 : Int), Has N0 19 s0 a s [(0, (Pd.rep (En.slice En.SWay) s_)), (1, (Pd.rep EnF94 f_)), (7, (Pd.rep (En.int .i64) (s_.length : Int))), (8, (Pd.rep (En.int .i64) v6))] ∧ slices_IndexFunc_Lapi_Way_api_Way.l1 s_ f_ r_ (slices_IndexFunc_Lapi_Way_api_Way.j1 r_) k8 v6) k7 ⟨0, hL.keep (.cons (t := 0) rfl (fun _ h_ => h_.elim) (.cons (t := 1) rfl (fun _ h_ => h_.elim) (.cons (t := 7) rfl (fun _ h_ => h_.elim) (.cons (t := 8) rfl (fun _ h_ => h_.elim) .nil)))), h⟩ ?_
  rintro k8 a s ⟨v6, hL, h⟩ KL9 hKL9
  cases k8 with
  | zero => exact h.elim
  | succ k8 =>
  unfold slices_IndexFunc_Lapi_Way_api_Way.l1 at h
  refine wp_seq_k fun K10 hK10 => ?_
  refine rg ?_
  refine st 9 (t_lss (o_t 8 rfl) (o_t 7 rfl) rfl rfl) rfl rfl hL fun a s e_ hL => ?_
  refine en' ?_
  show K10 a s.w
  refine hK10 _ _ ?_
  refine wp_seq_k fun K11 hK11 => ?_
  refine cnd hL rfl (fun hb_ => ?_) (fun hb_ => ?_)
  · replace h := h.1 hb_
    refine wp_skip ?_
    show K11 a s.w
    refine hK11 _ _ ?_
    refine wp_seq_k fun K12 hK12 => ?_
    refine wp_block ?_
    refine wp_seq_k fun K13 hK13 => ?_
    refine rg ?_
    refine st 10 (t_move (o_t 8 rfl) rfl rfl) rfl rfl hL fun a s e_ hL => ?_
    refine st 5 (t_assign (o_t 10 rfl) rfl rfl) rfl rfl hL fun a s e_ hL => ?_
    refine en' ?_
    show K13 a s.w
    refine hK13 _ _ ?_
    refine wp_seq_k fun K14 hK14 => ?_
    obtain ⟨e15, h16, r17, h18, h⟩ := h
    refine rg ?_
    refine st 11 (t_move (o_t 1 rfl) rfl rfl) rfl rfl hL fun a s e_ hL => ?_
    refine st 12 (t_move (o_t 0 rfl) rfl rfl) rfl rfl hL fun a s e_ hL => ?_
    refine st 13 (t_move (o_t 5 rfl) rfl rfl) rfl rfl hL fun a s e_ hL => ?_
    refine st 14 (t_idx (o_t 12 rfl) (o_t 13 rfl) h16 Tryd.underlying60 ty62 rfl rfl) rfl rfl hL fun a s e_ hL => ?_
    refine st 15 (t_load ty62 (o_t 14 rfl) rfl rfl) rfl rfl hL fun a s e_ hL => ?_
    refine st 16 (t_callf (q := (e15, r17)) (o_t 11 rfl) h18 (xs := [.tmp 15]) (.cons (o_t 15 rfl) .nil) (fun _ _ _ h_ => h_) rfl rfl) rfl rfl hL fun a s e_ hL => ?_
    refine en' ?_
    show K14 a s.w
    refine hK14 _ _ ?_
    refine cnd hL rfl (fun hb_ => ?_) (fun hb_ => ?_)
    · replace h := h.1 hb_
      refine wp_seq_k fun K19 hK19 => ?_
      refine rg ?_
      refine st 17 (t_move (o_t 5 rfl) rfl rfl) rfl rfl hL fun a s e_ hL => ?_
      refine st 4 (t_assign (o_t 17 rfl) rfl rfl) rfl rfl hL fun a s e_ hL => ?_
      refine en' ?_
      show K19 a s.w
      refine hK19 _ _ ?_
      subst h
      exact wp_ret (retq rfl hL rfl)
    · replace h := h.2 hb_
      refine wp_skip ?_
      show K12 a s.w
      refine hK12 _ _ ?_
      obtain ⟨h20, h⟩ := h
      refine rg ?_
      refine st 18 (t_add (o_t 8 rfl) (o_i (by decide)) h20 rfl rfl) rfl rfl hL fun a s e_ hL => ?_
      refine st 8 (t_move (o_t 18 rfl) rfl rfl) rfl rfl hL fun a s e_ hL => ?_
      refine en' ?_
      exact hKL9 k8 a s (Nat.lt_succ_self _) ⟨(v6 + 1), hL.keep (.cons (t := 0) rfl (fun _ h_ => h_.elim) (.cons (t := 1) rfl (fun _ h_ => h_.elim) (.cons (t := 7) rfl (fun _ h_ => h_.elim) (.cons (t := 8) rfl (fun _ h_ => h_.elim) .nil)))), h⟩
  · replace h := h.2 hb_
    refine wp_exit ?_
    exact J4 a s (hL.keep .nil) h

theorem slices_ContainsFunc_Lapi_Way_api_Way_ok {s_ : (List SWay)} {f_ : (SWay × Bool → Prop)} {r_ : Bool} (h : slices_ContainsFunc_Lapi_Way_api_Way s_ f_ r_) : Fn Tryd.prog 52 [(Pd.rep (En.slice En.SWay) s_), (Pd.rep EnF94 f_)] (Rq (Pd.rep En.bool r_)) := by
  unfold slices_ContainsFunc_Lapi_Way_api_Way at h
  refine fn_of Tryd.func52 rfl Tryd.ntmps52 (by rfl) (by simp) fun s0 a hL => ?_
  refine wp_seq_k fun K1 hK1 => ?_
  refine rg ?_
  refine st 4 (t_assign o_b rfl rfl) rfl rfl hL fun a s e_ hL => ?_
  refine en' ?_
  show K1 a s.w
  refine hK1 _ _ ?_
  refine wp_seq_k fun K2 hK2 => ?_
  obtain ⟨r3, h4, h⟩ := h
  refine rg ?_
  refine st 5 (t_move (o_t 0 rfl) rfl rfl) rfl rfl hL fun a s e_ hL => ?_
  refine st 6 (t_move (o_t 1 rfl) rfl rfl) rfl rfl hL fun a s e_ hL => ?_
  refine st 7 (t_call (slices_IndexFunc_Lapi_Way_api_Way_ok h4) (xs := [.tmp 5, .tmp 6]) (.cons (o_t 5 rfl) (.cons (o_t 6 rfl) .nil)) rfl rfl) rfl rfl hL fun a s e_ hL => ?_
  refine st 8 (t_geq (o_t 7 rfl) (o_i (by decide)) rfl rfl) rfl rfl hL fun a s e_ hL => ?_
  refine st 4 (t_assign (o_t 8 rfl) rfl rfl) rfl rfl hL fun a s e_ hL => ?_
  refine en' ?_
  show K2 a s.w
  refine hK2 _ _ ?_
  subst h
  exact wp_ret (retq rfl hL rfl)

theorem slices_IndexFunc_api_Way_api_Way_ok {s_ : (List (List SWay))} {f_ : ((List SWay) × Bool → Prop)} {r_ : Int} (h : slices_IndexFunc_api_Way_api_Way s_ f_ r_) : Fn Tryd.prog 65 [(Pd.rep (En.slice (En.slice En.SWay)) s_), (Pd.rep EnF95 f_)] (Rq (Pd.rep (En.int .i64) r_)) := by
  unfold slices_IndexFunc_api_Way_api_Way at h
  refine fn_of Tryd.func65 rfl Tryd.ntmps65 (by rfl) (by simp) fun s0 a hL => ?_
  refine wp_seq_k fun K1 hK1 => ?_
  refine rg ?_
  refine st 4 (t_assign (o_i (by decide)) rfl rfl) rfl rfl hL fun a s e_ hL => ?_
  refine en' ?_
  show K1 a s.w
  refine hK1 _ _ ?_
  refine wp_seq_k fun K2 hK2 => ?_
  refine wp_seq_k fun K3 hK3 => ?_
  refine rg ?_
  refine st 6 (t_move (o_t 0 rfl) rfl rfl) rfl rfl hL fun a s e_ hL => ?_
  refine st 7 (t_len (o_t 6 rfl) Tryd.underlying42 rfl rfl) rfl rfl hL fun a s e_ hL => ?_
  refine st 8 (t_move (o_i (by decide)) rfl rfl) rfl rfl hL fun a s e_ hL => ?_
  refine en' ?_
  show K3 a s.w
  refine hK3 _ _ ?_
  refine wp_block ?_
  have J4 : ∀ (a : Act) (s : St), Has N0 19 s0 a s [] → ((slices_IndexFunc_api_Way_api_Way.j1 r_)) → K2 a s.w := by
    intro a s hL h
    unfold slices_IndexFunc_api_Way_api_Way.j1 at h
    show K2 a s.w
    refine hK2 _ _ ?_
    refine wp_seq_k fun K5 hK5 => ?_
    refine rg ?_
    refine st 4 (t_assign (o_i (by decide)) rfl rfl) rfl rfl hL fun a s e_ hL => ?_
    refine en' ?_
    show K5 a s.w
    refine hK5 _ _ ?_
    subst h
    exact wp_ret (retq rfl hL rfl)
  obtain ⟨k7, h⟩ := h
  refine lpg (fun k8 a s => ∃ (v6 : Int), Has N0 19 s0 a s [(0, (Pd.rep (En.slice (En.slice En.SWay)) s_)), (1, (Pd.rep EnF95 f_)), (7, (Pd.rep (En.int .i64) (s_.length : Int))), (8, (Pd.rep (En.int .i64) v6))] ∧ slices_IndexFunc_api_Way_api_Way.l1 s_ f_ r_ (slices_IndexFunc_api_Way_api_Way.j1 r_) k8 v6) k7 ⟨0, hL.keep (.cons (t := 0) rfl (fun _ h_ => h_.elim) (.cons (t := 1) rfl (fun _ h_ => h_.elim) (.cons (t := 7) rfl (fun _ h_ => h_.elim) (.cons (t := 8) rfl (fun _ h_ => h_.elim) .nil)))), h⟩ ?_
  rintro k8 a s ⟨v6, hL, h⟩ KL9 hKL9
  cases k8 with
  | zero => exact h.elim
  | succ k8 =>
  unfold slices_IndexFunc_api_Way_api_Way.l1 at h
  refine wp_seq_k fun K10 hK10 => ?_
  refine rg ?_
  refine st 9 (t_lss (o_t 8 rfl) (o_t 7 rfl) rfl rfl) rfl rfl hL fun a s e_ hL => ?_
  refine en' ?_
  show K10 a s.w
  refine hK10 _ _ ?_
  refine wp_seq_k fun K11 hK11 => ?_
  refine cnd hL rfl (fun hb_ => ?_) (fun hb_ => ?_)
  · replace h := h.1 hb_
    refine wp_skip ?_
    show K11 a s.w
    refine hK11 _ _ ?_
    refine wp_seq_k fun K12 hK12 => ?_
    refine wp_block ?_
    refine wp_seq_k fun K13 hK13 => ?_
    refine rg ?_
    refine st 10 (t_move (o_t 8 rfl) rfl rfl) rfl rfl hL fun a s e_ hL => ?_
    refine st 5 (t_assign (o_t 10 rfl) rfl rfl) rfl rfl hL fun a s e_ hL => ?_
    refine en' ?_
    show K13 a s.w
    refine hK13 _ _ ?_
    refine wp_seq_k fun K14 hK14 => ?_
    obtain ⟨e15, h16, r17, h18, h⟩ := h
    refine rg ?_
    refine st 11 (t_move (o_t 1 rfl) rfl rfl) rfl rfl hL fun a s e_ hL => ?_
    refine st 12 (t_move (o_t 0 rfl) rfl rfl) rfl rfl hL fun a s e_ hL => ?_
    refine st 13 (t_move (o_t 5 rfl) rfl rfl) rfl rfl hL fun a s e_ hL => ?_
    refine st 14 (t_idx (o_t 12 rfl) (o_t 13 rfl) h16 Tryd.underlying42 ty60 rfl rfl) rfl rfl hL fun a s e_ hL => ?_
    refine st 15 (t_load ty60 (o_t 14 rfl) rfl rfl) rfl rfl hL fun a s e_ hL => ?_
    refine st 16 (t_callf (q := (e15, r17)) (o_t 11 rfl) h18 (xs := [.tmp 15]) (.cons (o_t 15 rfl) .nil) (fun _ _ _ h_ => h_) rfl rfl) rfl rfl hL fun a s e_ hL => ?_
    refine en' ?_
    show K14 a s.w
    refine hK14 _ _ ?_
    refine cnd hL rfl (fun hb_ => ?_) (fun hb_ => ?_)
    · replace h := h.1 hb_
      refine wp_seq_k fun K19 hK19 => ?_
      refine rg ?_
      refine st 17 (t_move (o_t 5 rfl) rfl rfl) rfl rfl hL fun a s e_ hL => ?_
      refine st 4 (t_assign (o_t 17 rfl) rfl rfl) rfl rfl hL fun a s e_ hL => ?_
      refine en' ?_
      show K19 a s.w
      refine hK19 _ _ ?_
      subst h
      exact wp_ret (retq rfl hL rfl)
    · replace h := h.2 hb_
      refine wp_skip ?_
      show K12 a s.w
      refine hK12 _ _ ?_
      obtain ⟨h20, h⟩ := h
      refine rg ?_
      refine st 18 (t_add (o_t 8 rfl) (o_i (by decide)) h20 rfl rfl) rfl rfl hL fun a s e_ hL => ?_
      refine st 8 (t_move (o_t 18 rfl) rfl rfl) rfl rfl hL fun a s e_ hL => ?_
      refine en' ?_
      exact hKL9 k8 a s (Nat.lt_succ_self _) ⟨(v6 + 1), hL.keep (.cons (t := 0) rfl (fun _ h_ => h_.elim) (.cons (t := 1) rfl (fun _ h_ => h_.elim) (.cons (t := 7) rfl (fun _ h_ => h_.elim) (.cons (t := 8) rfl (fun _ h_ => h_.elim) .nil)))), h⟩
  · replace h := h.2 hb_
    refine wp_exit ?_
    exact J4 a s (hL.keep .nil) h

theorem slices_ContainsFunc_api_Way_api_Way_ok {s_ : (List (List SWay))} {f_ : ((List SWay) × Bool → Prop)} {r_ : Bool} (h : slices_ContainsFunc_api_Way_api_Way s_ f_ r_) : Fn Tryd.prog 50 [(Pd.rep (En.slice (En.slice En.SWay)) s_), (Pd.rep EnF95 f_)] (Rq (Pd.rep En.bool r_)) := by
  unfold slices_ContainsFunc_api_Way_api_Way at h
  refine fn_of Tryd.func50 rfl Tryd.ntmps50 (by rfl) (by simp) fun s0 a hL => ?_
  refine wp_seq_k fun K1 hK1 => ?_
  refine rg ?_
  refine st 4 (t_assign o_b rfl rfl) rfl rfl hL fun a s e_ hL => ?_
  refine en' ?_
  show K1 a s.w
  refine hK1 _ _ ?_
  refine wp_seq_k fun K2 hK2 => ?_
  obtain ⟨r3, h4, h⟩ := h
  refine rg ?_
  refine st 5 (t_move (o_t 0 rfl) rfl rfl) rfl rfl hL fun a s e_ hL => ?_
  refine st 6 (t_move (o_t 1 rfl) rfl rfl) rfl rfl hL fun a s e_ hL => ?_
  refine st 7 (t_call (slices_IndexFunc_api_Way_api_Way_ok h4) (xs := [.tmp 5, .tmp 6]) (.cons (o_t 5 rfl) (.cons (o_t 6 rfl) .nil)) rfl rfl) rfl rfl hL fun a s e_ hL => ?_
  refine st 8 (t_geq (o_t 7 rfl) (o_i (by decide)) rfl rfl) rfl rfl hL fun a s e_ hL => ?_
  refine st 4 (t_assign (o_t 8 rfl) rfl rfl) rfl rfl hL fun a s e_ hL => ?_
  refine en' ?_
  show K2 a s.w
  refine hK2 _ _ ?_
  subst h
  exact wp_ret (retq rfl hL rfl)
end Go.Proofs.YtdfnbogkniikbaaDoor.V
