/- The walks of the functions of layer 0 (by gen.py). -/
import Derived.Test.YtdfnbogkniikbaaDoorY
import Derived.Test.YtdfnbogkniikbaaDoorMX
import Derived.Test.YtdfnbogkniikbaaDoorR00
namespace Go.Proofs.YtdfnbogkniikbaaDoor.V
open Go
set_option linter.unusedVariables false
set_option maxRecDepth 100000
theorem slices_Clone_api_State_api_Item_ok {s_ : (List SItem)} {r_ : (List SItem)} (h : slices_Clone_api_State_api_Item s_ r_) : Fn Tryd.prog 35 [(Pd.rep (En.slice En.SItem) s_)] (Ro En.SItem 36 r_) := by
  unfold slices_Clone_api_State_api_Item at h
  refine fn_of Tryd.func35 rfl Tryd.ntmps35 (by rfl) (by simp) fun s0 a hL => ?_
  refine wp_seq_k fun K1 hK1 => ?_
  refine rg ?_
  refine st 2 (t_assign (o_nil (E := En.SItem) (N := s0.w.heap.size) (te := 36)) rfl rfl) rfl rfl hL fun a s e_ hL => ?_
  refine en' ?_
  show K1 a s.w
  refine hK1 _ _ ?_
  refine wp_seq_k fun K2 hK2 => ?_
  refine wp_seq_k fun K3 hK3 => ?_
  refine rg ?_
  refine st 3 (t_move (o_t 0 rfl) rfl rfl) rfl rfl hL fun a s e_ hL => ?_
  refine st 4 (t_isnil (o_t 3 rfl) Tryd.underlying26 rfl rfl) rfl rfl hL fun a s e_ hL => ?_
  obtain ⟨b4, h5, hL⟩ := hL.nilq 4 rfl
  replace h := h b4 h5
  refine en' ?_
  show K3 a s.w
  refine hK3 _ _ ?_
  refine cnd hL rfl (fun hb_ => ?_) (fun hb_ => ?_)
  · replace h := h.1 hb_
    refine wp_seq_k fun K6 hK6 => ?_
    refine rg ?_
    refine st 2 (t_assign (o_nil (E := En.SItem) (N := s0.w.heap.size) (te := 36)) rfl rfl) rfl rfl hL fun a s e_ hL => ?_
    refine en' ?_
    show K6 a s.w
    refine hK6 _ _ ?_
    subst h
    exact wp_ret (reto rfl hL rfl)
  · replace h := h.2 hb_
    refine wp_skip ?_
    show K2 a s.w
    refine hK2 _ _ ?_
    refine wp_seq_k fun K7 hK7 => ?_
    obtain ⟨h9, h⟩ := h
    refine rg ?_
    refine st_new En.SItem 5 hL Tryd.underlying26 ty36 rfl rfl rfl rfl fun a s g8 hg_ hL => ?_
    refine st 6 (t_move (o_t 0 rfl) rfl rfl) rfl rfl hL fun a s e_ hL => ?_
    refine st_app (L' := [(2, (Pd.row En.SItem s0.w.heap.size 36 none ([] : (List SItem))))]) 7 hL (o_t 5 rfl) (o_t 6 rfl) Tryd.underlying26 ty36 h9 rfl rfl rfl rfl (.cons (t := 2) rfl no_own .nil) fun a s og10 hg_ hL => ?_
    refine st 2 (t_assign (o_t 7 rfl) rfl rfl) rfl rfl hL fun a s e_ hL => ?_
    refine en' ?_
    show K7 a s.w
    refine hK7 _ _ ?_
    subst h
    exact wp_ret (reto rfl hL rfl)

theorem slices_IndexFunc_api_State_api_Item_ok {s_ : (List SItem)} {f_ : (SItem × Bool → Prop)} {r_ : Int} (h : slices_IndexFunc_api_State_api_Item s_ f_ r_) : Fn Tryd.prog 60 [(Pd.rep (En.slice En.SItem) s_), (Pd.rep EnF75 f_)] (Rq (Pd.rep (En.int .i64) r_)) := by
  unfold slices_IndexFunc_api_State_api_Item at h
  refine fn_of Tryd.func60 rfl Tryd.ntmps60 (by rfl) (by simp) fun s0 a hL => ?_
  refine wp_seq_k fun K1 hK1 => ?_
  refine rg ?_
  refine st 4 (t_assign (o_i (by decide)) rfl rfl) rfl rfl hL fun a s e_ hL => ?_
  refine en' ?_
  show K1 a s.w
  refine hK1 _ _ ?_
  refine wp_seq_k fun K2 hK2 => ?_
  refine wp_seq_k fun K3 hK3 => ?_
  refine rg ?_
  refine st 6 (t_move (o_t 0 rfl) rfl rfl) rfl rfl hL fun a s e_ hL => ?_
  refine st 7 (t_len (o_t 6 rfl) Tryd.underlying26 rfl rfl) rfl rfl hL fun a s e_ hL => ?_
  refine st 8 (t_move (o_i (by decide)) rfl rfl) rfl rfl hL fun a s e_ hL => ?_
  refine en' ?_
  show K3 a s.w
  refine hK3 _ _ ?_
  refine wp_block ?_
  have J4 : ∀ (a : Act) (s : St), Has N0 19 s0 a s [] → ((slices_IndexFunc_api_State_api_Item.j1 r_)) → K2 a s.w := by
    intro a s hL h
    unfold slices_IndexFunc_api_State_api_Item.j1 at h
    show K2 a s.w
    refine hK2 _ _ ?_
    refine wp_seq_k fun K5 hK5 => ?_
    refine rg ?_
    refine st 4 (t_assign (o_i (by decide)) rfl rfl) rfl rfl hL fun a s e_ hL => ?_
    refine en' ?_
    show K5 a s.w
    refine hK5 _ _ ?_
    subst h
    exact wp_ret (retq rfl hL rfl)
  obtain ⟨k7, h⟩ := h
  refine lpg (fun k8 a s => ∃ (v6 : Int), Has N0 19 s0 a s [(0, (Pd.rep (En.slice En.SItem) s_)), (1, (Pd.rep EnF75 f_)), (7, (Pd.rep (En.int .i64) (s_.length : Int))), (8, (Pd.rep (En.int .i64) v6))] ∧ slices_IndexFunc_api_State_api_Item.l1 s_ f_ r_ (slices_IndexFunc_api_State_api_Item.j1 r_) k8 v6) k7 ⟨0, hL.keep (.cons (t := 0) rfl (fun _ h_ => h_.elim) (.cons (t := 1) rfl (fun _ h_ => h_.elim) (.cons (t := 7) rfl (fun _ h_ => h_.elim) (.cons (t := 8) rfl (fun _ h_ => h_.elim) .nil)))), h⟩ ?_
  rintro k8 a s ⟨v6, hL, h⟩ KL9 hKL9
  cases k8 with
  | zero => exact h.elim
  | succ k8 =>
  unfold slices_IndexFunc_api_State_api_Item.l1 at h
  refine wp_seq_k fun K10 hK10 => ?_
  refine rg ?_
  refine st 9 (t_lss (o_t 8 rfl) (o_t 7 rfl) rfl rfl) rfl rfl hL fun a s e_ hL => ?_
  refine en' ?_
  show K10 a s.w
  refine hK10 _ _ ?_
  refine wp_seq_k fun K11 hK11 => ?_
  refine cnd hL rfl (fun hb_ => ?_) (fun hb_ => ?_)
  · replace h := h.1 hb_
    refine wp_skip ?_
    show K11 a s.w
    refine hK11 _ _ ?_
    refine wp_seq_k fun K12 hK12 => ?_
    refine wp_block ?_
    refine wp_seq_k fun K13 hK13 => ?_
    refine rg ?_
    refine st 10 (t_move (o_t 8 rfl) rfl rfl) rfl rfl hL fun a s e_ hL => ?_
    refine st 5 (t_assign (o_t 10 rfl) rfl rfl) rfl rfl hL fun a s e_ hL => ?_
    refine en' ?_
    show K13 a s.w
    refine hK13 _ _ ?_
    refine wp_seq_k fun K14 hK14 => ?_
    obtain ⟨e15, h16, r17, h18, h⟩ := h
    refine rg ?_
    refine st 11 (t_move (o_t 1 rfl) rfl rfl) rfl rfl hL fun a s e_ hL => ?_
    refine st 12 (t_move (o_t 0 rfl) rfl rfl) rfl rfl hL fun a s e_ hL => ?_
    refine st 13 (t_move (o_t 5 rfl) rfl rfl) rfl rfl hL fun a s e_ hL => ?_
    refine st 14 (t_idx (o_t 12 rfl) (o_t 13 rfl) h16 Tryd.underlying26 ty36 rfl rfl) rfl rfl hL fun a s e_ hL => ?_
    refine st 15 (t_load ty36 (o_t 14 rfl) rfl rfl) rfl rfl hL fun a s e_ hL => ?_
    refine st 16 (t_callf (q := (e15, r17)) (o_t 11 rfl) h18 (xs := [.tmp 15]) (.cons (o_t 15 rfl) .nil) (fun _ _ _ h_ => h_) rfl rfl) rfl rfl hL fun a s e_ hL => ?_
    refine en' ?_
    show K14 a s.w
    refine hK14 _ _ ?_
    refine cnd hL rfl (fun hb_ => ?_) (fun hb_ => ?_)
    · replace h := h.1 hb_
      refine wp_seq_k fun K19 hK19 => ?_
      refine rg ?_
      refine st 17 (t_move (o_t 5 rfl) rfl rfl) rfl rfl hL fun a s e_ hL => ?_
      refine st 4 (t_assign (o_t 17 rfl) rfl rfl) rfl rfl hL fun a s e_ hL => ?_
      refine en' ?_
      show K19 a s.w
      refine hK19 _ _ ?_
      subst h
      exact wp_ret (retq rfl hL rfl)
    · replace h := h.2 hb_
      refine wp_skip ?_
      show K12 a s.w
      refine hK12 _ _ ?_
      obtain ⟨h20, h⟩ := h
      refine rg ?_
      refine st 18 (t_add (o_t 8 rfl) (o_i (by decide)) h20 rfl rfl) rfl rfl hL fun a s e_ hL => ?_
      refine st 8 (t_move (o_t 18 rfl) rfl rfl) rfl rfl hL fun a s e_ hL => ?_
      refine en' ?_
      exact hKL9 k8 a s (Nat.lt_succ_self _) ⟨(v6 + 1), hL.keep (.cons (t := 0) rfl (fun _ h_ => h_.elim) (.cons (t := 1) rfl (fun _ h_ => h_.elim) (.cons (t := 7) rfl (fun _ h_ => h_.elim) (.cons (t := 8) rfl (fun _ h_ => h_.elim) .nil)))), h⟩
  · replace h := h.2 hb_
    refine wp_exit ?_
    exact J4 a s (hL.keep .nil) h

theorem slices_ContainsFunc_api_State_api_Item_ok {s_ : (List SItem)} {f_ : (SItem × Bool → Prop)} {r_ : Bool} (h : slices_ContainsFunc_api_State_api_Item s_ f_ r_) : Fn Tryd.prog 36 [(Pd.rep (En.slice En.SItem) s_), (Pd.rep EnF75 f_)] (Rq (Pd.rep En.bool r_)) := by
  unfold slices_ContainsFunc_api_State_api_Item at h
  refine fn_of Tryd.func36 rfl Tryd.ntmps36 (by rfl) (by simp) fun s0 a hL => ?_
  refine wp_seq_k fun K1 hK1 => ?_
  refine rg ?_
  refine st 4 (t_assign o_b rfl rfl) rfl rfl hL fun a s e_ hL => ?_
  refine en' ?_
  show K1 a s.w
  refine hK1 _ _ ?_
  refine wp_seq_k fun K2 hK2 => ?_
  obtain ⟨r3, h4, h⟩ := h
  refine rg ?_
  refine st 5 (t_move (o_t 0 rfl) rfl rfl) rfl rfl hL fun a s e_ hL => ?_
  refine st 6 (t_move (o_t 1 rfl) rfl rfl) rfl rfl hL fun a s e_ hL => ?_
  refine st 7 (t_call (slices_IndexFunc_api_State_api_Item_ok h4) (xs := [.tmp 5, .tmp 6]) (.cons (o_t 5 rfl) (.cons (o_t 6 rfl) .nil)) rfl rfl) rfl rfl hL fun a s e_ hL => ?_
  refine st 8 (t_geq (o_t 7 rfl) (o_i (by decide)) rfl rfl) rfl rfl hL fun a s e_ hL => ?_
  refine st 4 (t_assign (o_t 8 rfl) rfl rfl) rfl rfl hL fun a s e_ hL => ?_
  refine en' ?_
  show K2 a s.w
  refine hK2 _ _ ?_
  subst h
  exact wp_ret (retq rfl hL rfl)

theorem cmp_isNaN_int_ok {x_ : Int} {r_ : Bool} (h : cmp_isNaN_int x_ r_) : Fn Tryd.prog 62 [(Pd.rep (En.int .i64) x_)] (Rq (Pd.rep En.bool r_)) := by
  unfold cmp_isNaN_int at h
  refine fn_of Tryd.func62 rfl Tryd.ntmps62 (by rfl) (by simp) fun s0 a hL => ?_
  refine wp_seq_k fun K1 hK1 => ?_
  refine rg ?_
  refine st 2 (t_assign o_b rfl rfl) rfl rfl hL fun a s e_ hL => ?_
  refine en' ?_
  show K1 a s.w
  refine hK1 _ _ ?_
  refine wp_seq_k fun K2 hK2 => ?_
  refine rg ?_
  refine st 3 (t_move (o_t 0 rfl) rfl rfl) rfl rfl hL fun a s e_ hL => ?_
  refine st 4 (t_move (o_t 0 rfl) rfl rfl) rfl rfl hL fun a s e_ hL => ?_
  refine st 5 (t_nei (o_t 3 rfl) (o_t 4 rfl) rfl rfl) rfl rfl hL fun a s e_ hL => ?_
  refine st 2 (t_assign (o_t 5 rfl) rfl rfl) rfl rfl hL fun a s e_ hL => ?_
  refine en' ?_
  show K2 a s.w
  refine hK2 _ _ ?_
  subst h
  exact wp_ret (retq rfl hL rfl)

theorem cmp_Compare_int_ok {x_ : Int} {y_ : Int} {r_ : Int} (h : cmp_Compare_int x_ y_ r_) : Fn Tryd.prog 40 [(Pd.rep (En.int .i64) x_), (Pd.rep (En.int .i64) y_)] (Rq (Pd.rep (En.int .i64) r_)) := by
  unfold cmp_Compare_int at h
  refine fn_of Tryd.func40 rfl Tryd.ntmps40 (by rfl) (by simp) fun s0 a hL => ?_
  refine wp_seq_k fun K1 hK1 => ?_
  refine rg ?_
  refine st 4 (t_assign (o_i (by decide)) rfl rfl) rfl rfl hL fun a s e_ hL => ?_
  refine en' ?_
  show K1 a s.w
  refine hK1 _ _ ?_
  refine wp_seq_k fun K2 hK2 => ?_
  obtain ⟨r3, h4, h⟩ := h
  refine rg ?_
  refine st 7 (t_move (o_t 0 rfl) rfl rfl) rfl rfl hL fun a s e_ hL => ?_
  refine st 8 (t_call (cmp_isNaN_int_ok h4) (xs := [.tmp 7]) (.cons (o_t 7 rfl) .nil) rfl rfl) rfl rfl hL fun a s e_ hL => ?_
  refine st 5 (t_assign (o_t 8 rfl) rfl rfl) rfl rfl hL fun a s e_ hL => ?_
  refine en' ?_
  show K2 a s.w
  refine hK2 _ _ ?_
  refine wp_seq_k fun K5 hK5 => ?_
  obtain ⟨r6, h7, h⟩ := h
  refine rg ?_
  refine st 9 (t_move (o_t 1 rfl) rfl rfl) rfl rfl hL fun a s e_ hL => ?_
  refine st 10 (t_call (cmp_isNaN_int_ok h7) (xs := [.tmp 9]) (.cons (o_t 9 rfl) .nil) rfl rfl) rfl rfl hL fun a s e_ hL => ?_
  refine st 6 (t_assign (o_t 10 rfl) rfl rfl) rfl rfl hL fun a s e_ hL => ?_
  refine en' ?_
  show K5 a s.w
  refine hK5 _ _ ?_
  refine wp_seq_k fun K8 hK8 => ?_
  refine wp_seq_k fun K9 hK9 => ?_
  refine rg ?_
  refine st 11 (t_move (o_t 5 rfl) rfl rfl) rfl rfl hL fun a s e_ hL => ?_
  refine en' ?_
  show K9 a s.w
  refine hK9 _ _ ?_
  refine cnd hL rfl (fun hb_ => ?_) (fun hb_ => ?_)
  · replace h := h.1 hb_
    refine wp_seq_k fun K10 hK10 => ?_
    refine wp_seq_k fun K11 hK11 => ?_
    refine rg ?_
    refine st 12 (t_move (o_t 6 rfl) rfl rfl) rfl rfl hL fun a s e_ hL => ?_
    refine en' ?_
    show K11 a s.w
    refine hK11 _ _ ?_
    refine cnd hL rfl (fun hb_ => ?_) (fun hb_ => ?_)
    · replace h := h.1 hb_
      refine wp_seq_k fun K12 hK12 => ?_
      refine rg ?_
      refine st 4 (t_assign (o_i (by decide)) rfl rfl) rfl rfl hL fun a s e_ hL => ?_
      refine en' ?_
      show K12 a s.w
      refine hK12 _ _ ?_
      subst h
      exact wp_ret (retq rfl hL rfl)
    · replace h := h.2 hb_
      refine wp_skip ?_
      show K10 a s.w
      refine hK10 _ _ ?_
      refine wp_seq_k fun K13 hK13 => ?_
      refine rg ?_
      refine st 4 (t_assign (o_i (by decide)) rfl rfl) rfl rfl hL fun a s e_ hL => ?_
      refine en' ?_
      show K13 a s.w
      refine hK13 _ _ ?_
      subst h
      exact wp_ret (retq rfl hL rfl)
  · replace h := h.2 hb_
    refine wp_skip ?_
    show K8 a s.w
    refine hK8 _ _ ?_
    refine wp_seq_k fun K14 hK14 => ?_
    refine wp_seq_k fun K15 hK15 => ?_
    refine rg ?_
    refine st 13 (t_move (o_t 6 rfl) rfl rfl) rfl rfl hL fun a s e_ hL => ?_
    refine en' ?_
    show K15 a s.w
    refine hK15 _ _ ?_
    refine cnd hL rfl (fun hb_ => ?_) (fun hb_ => ?_)
    · replace h := h.1 hb_
      refine wp_seq_k fun K16 hK16 => ?_
      refine rg ?_
      refine st 4 (t_assign (o_i (by decide)) rfl rfl) rfl rfl hL fun a s e_ hL => ?_
      refine en' ?_
      show K16 a s.w
      refine hK16 _ _ ?_
      subst h
      exact wp_ret (retq rfl hL rfl)
    · replace h := h.2 hb_
      refine wp_skip ?_
      show K14 a s.w
      refine hK14 _ _ ?_
      refine wp_seq_k fun K17 hK17 => ?_
      refine wp_seq_k fun K18 hK18 => ?_
      refine rg ?_
      refine st 14 (t_move (o_t 0 rfl) rfl rfl) rfl rfl hL fun a s e_ hL => ?_
      refine st 15 (t_move (o_t 1 rfl) rfl rfl) rfl rfl hL fun a s e_ hL => ?_
      refine st 16 (t_lss (o_t 14 rfl) (o_t 15 rfl) rfl rfl) rfl rfl hL fun a s e_ hL => ?_
      refine en' ?_
      show K18 a s.w
      refine hK18 _ _ ?_
      refine cnd hL rfl (fun hb_ => ?_) (fun hb_ => ?_)
      · replace h := h.1 hb_
        refine wp_seq_k fun K19 hK19 => ?_
        refine rg ?_
        refine st 4 (t_assign (o_i (by decide)) rfl rfl) rfl rfl hL fun a s e_ hL => ?_
        refine en' ?_
        show K19 a s.w
        refine hK19 _ _ ?_
        subst h
        exact wp_ret (retq rfl hL rfl)
      · replace h := h.2 hb_
        refine wp_skip ?_
        show K17 a s.w
        refine hK17 _ _ ?_
        refine wp_seq_k fun K20 hK20 => ?_
        refine wp_seq_k fun K21 hK21 => ?_
        refine rg ?_
        refine st 17 (t_move (o_t 0 rfl) rfl rfl) rfl rfl hL fun a s e_ hL => ?_
        refine st 18 (t_move (o_t 1 rfl) rfl rfl) rfl rfl hL fun a s e_ hL => ?_
        refine st 19 (t_gtr (o_t 17 rfl) (o_t 18 rfl) rfl rfl) rfl rfl hL fun a s e_ hL => ?_
        refine en' ?_
        show K21 a s.w
        refine hK21 _ _ ?_
        refine cnd hL rfl (fun hb_ => ?_) (fun hb_ => ?_)
        · replace h := h.1 hb_
          refine wp_seq_k fun K22 hK22 => ?_
          refine rg ?_
          refine st 4 (t_assign (o_i (by decide)) rfl rfl) rfl rfl hL fun a s e_ hL => ?_
          refine en' ?_
          show K22 a s.w
          refine hK22 _ _ ?_
          subst h
          exact wp_ret (retq rfl hL rfl)
        · replace h := h.2 hb_
          refine wp_skip ?_
          show K20 a s.w
          refine hK20 _ _ ?_
          refine wp_seq_k fun K23 hK23 => ?_
          refine rg ?_
          refine st 4 (t_assign (o_i (by decide)) rfl rfl) rfl rfl hL fun a s e_ hL => ?_
          refine en' ?_
          show K23 a s.w
          refine hK23 _ _ ?_
          subst h
          exact wp_ret (retq rfl hL rfl)

theorem slices_CompareFunc_api_State_api_State_api_Item_api_Item_ok {s1_ : (List SItem)} {s2_ : (List SItem)} {cmp_ : (SItem × SItem × Int → Prop)} {r_ : Int} (h : slices_CompareFunc_api_State_api_State_api_Item_api_Item s1_ s2_ cmp_ r_) : Fn Tryd.prog 41 [(Pd.rep (En.slice En.SItem) s1_), (Pd.rep (En.slice En.SItem) s2_), (Pd.rep EnF79 cmp_)] (Rq (Pd.rep (En.int .i64) r_)) := by
  unfold slices_CompareFunc_api_State_api_State_api_Item_api_Item at h
  refine fn_of Tryd.func41 rfl Tryd.ntmps41 (by rfl) (by simp) fun s0 a hL => ?_
  refine wp_seq_k fun K1 hK1 => ?_
  refine rg ?_
  refine st 6 (t_assign (o_i (by decide)) rfl rfl) rfl rfl hL fun a s e_ hL => ?_
  refine en' ?_
  show K1 a s.w
  refine hK1 _ _ ?_
  refine wp_seq_k fun K2 hK2 => ?_
  refine wp_seq_k fun K3 hK3 => ?_
  refine rg ?_
  refine st 11 (t_move (o_t 0 rfl) rfl rfl) rfl rfl hL fun a s e_ hL => ?_
  refine st 12 (t_len (o_t 11 rfl) Tryd.underlying26 rfl rfl) rfl rfl hL fun a s e_ hL => ?_
  refine st 13 (t_move (o_i (by decide)) rfl rfl) rfl rfl hL fun a s e_ hL => ?_
  refine en' ?_
  show K3 a s.w
  refine hK3 _ _ ?_
  refine wp_block ?_
  have J4 : ∀ (a : Act) (s : St), Has N0 39 s0 a s [(0, (Pd.rep (En.slice En.SItem) s1_)), (1, (Pd.rep (En.slice En.SItem) s2_))] → ((slices_CompareFunc_api_State_api_State_api_Item_api_Item.j1 s1_ s2_ r_)) → K2 a s.w := by
    intro a s hL h
    unfold slices_CompareFunc_api_State_api_State_api_Item_api_Item.j1 at h
    show K2 a s.w
    refine hK2 _ _ ?_
    refine wp_seq_k fun K5 hK5 => ?_
    refine wp_seq_k fun K6 hK6 => ?_
    refine rg ?_
    refine st 34 (t_move (o_t 0 rfl) rfl rfl) rfl rfl hL fun a s e_ hL => ?_
    refine st 35 (t_len (o_t 34 rfl) Tryd.underlying26 rfl rfl) rfl rfl hL fun a s e_ hL => ?_
    refine st 36 (t_move (o_t 1 rfl) rfl rfl) rfl rfl hL fun a s e_ hL => ?_
    refine st 37 (t_len (o_t 36 rfl) Tryd.underlying26 rfl rfl) rfl rfl hL fun a s e_ hL => ?_
    refine st 38 (t_lss (o_t 35 rfl) (o_t 37 rfl) rfl rfl) rfl rfl hL fun a s e_ hL => ?_
    refine en' ?_
    show K6 a s.w
    refine hK6 _ _ ?_
    refine cnd hL rfl (fun hb_ => ?_) (fun hb_ => ?_)
    · replace h := h.1 hb_
      refine wp_seq_k fun K7 hK7 => ?_
      refine rg ?_
      refine st 6 (t_assign (o_i (by decide)) rfl rfl) rfl rfl hL fun a s e_ hL => ?_
      refine en' ?_
      show K7 a s.w
      refine hK7 _ _ ?_
      subst h
      exact wp_ret (retq rfl hL rfl)
    · replace h := h.2 hb_
      refine wp_skip ?_
      show K5 a s.w
      refine hK5 _ _ ?_
      refine wp_seq_k fun K8 hK8 => ?_
      refine rg ?_
      refine st 6 (t_assign (o_i (by decide)) rfl rfl) rfl rfl hL fun a s e_ hL => ?_
      refine en' ?_
      show K8 a s.w
      refine hK8 _ _ ?_
      subst h
      exact wp_ret (retq rfl hL rfl)
  obtain ⟨k10, h⟩ := h
  refine lpg (fun k11 a s => ∃ (v9 : Int), Has N0 39 s0 a s [(0, (Pd.rep (En.slice En.SItem) s1_)), (1, (Pd.rep (En.slice En.SItem) s2_)), (2, (Pd.rep EnF79 cmp_)), (11, (Pd.rep (En.slice En.SItem) s1_)), (12, (Pd.rep (En.int .i64) (s1_.length : Int))), (13, (Pd.rep (En.int .i64) v9))] ∧ slices_CompareFunc_api_State_api_State_api_Item_api_Item.l1 s1_ s2_ cmp_ r_ (slices_CompareFunc_api_State_api_State_api_Item_api_Item.j1 s1_ s2_ r_) k11 v9) k10 ⟨0, hL.keep (.cons (t := 0) rfl (fun _ h_ => h_.elim) (.cons (t := 1) rfl (fun _ h_ => h_.elim) (.cons (t := 2) rfl (fun _ h_ => h_.elim) (.cons (t := 11) rfl (fun _ h_ => h_.elim) (.cons (t := 12) rfl (fun _ h_ => h_.elim) (.cons (t := 13) rfl (fun _ h_ => h_.elim) .nil)))))), h⟩ ?_
  rintro k11 a s ⟨v9, hL, h⟩ KL12 hKL12
  cases k11 with
  | zero => exact h.elim
  | succ k11 =>
  unfold slices_CompareFunc_api_State_api_State_api_Item_api_Item.l1 at h
  refine wp_seq_k fun K13 hK13 => ?_
  refine rg ?_
  refine st 14 (t_lss (o_t 13 rfl) (o_t 12 rfl) rfl rfl) rfl rfl hL fun a s e_ hL => ?_
  refine en' ?_
  show K13 a s.w
  refine hK13 _ _ ?_
  refine wp_seq_k fun K14 hK14 => ?_
  refine cnd hL rfl (fun hb_ => ?_) (fun hb_ => ?_)
  · replace h := h.1 hb_
    refine wp_skip ?_
    show K14 a s.w
    refine hK14 _ _ ?_
    refine wp_seq_k fun K15 hK15 => ?_
    refine wp_block ?_
    refine wp_seq_k fun K16 hK16 => ?_
    obtain ⟨e17, h18, h⟩ := h
    refine rg ?_
    refine st 15 (t_move (o_t 13 rfl) rfl rfl) rfl rfl hL fun a s e_ hL => ?_
    refine st 16 (t_idx (o_t 11 rfl) (o_t 13 rfl) h18 Tryd.underlying26 ty36 rfl rfl) rfl rfl hL fun a s e_ hL => ?_
    refine st 17 (t_load ty36 (o_t 16 rfl) rfl rfl) rfl rfl hL fun a s e_ hL => ?_
    refine st_alloc En.SItem (z := (0, 0, 0, 0)) 8 hL tyz36 rfl rfl rfl rfl fun a s g19 hg_ hL => ?_
    refine st 7 (t_assign (o_t 15 rfl) rfl rfl) rfl rfl hL fun a s e_ hL => ?_
    refine st_stb (L' := [(0, (Pd.rep (En.slice En.SItem) s1_)), (1, (Pd.rep (En.slice En.SItem) s2_)), (2, (Pd.rep EnF79 cmp_)), (7, (Pd.rep (En.int .i64) v9)), (11, (Pd.rep (En.slice En.SItem) s1_)), (12, (Pd.rep (En.int .i64) (s1_.length : Int))), (13, (Pd.rep (En.int .i64) v9))]) 8 hL rfl (o_t 17 rfl) ty36 rfl rfl rfl (.cons (t := 0) rfl (fun _ h_ => h_.elim) (.cons (t := 1) rfl (fun _ h_ => h_.elim) (.cons (t := 2) rfl (fun _ h_ => h_.elim) (.cons (t := 7) rfl (fun _ h_ => h_.elim) (.cons (t := 11) rfl (fun _ h_ => h_.elim) (.cons (t := 12) rfl (fun _ h_ => h_.elim) (.cons (t := 13) rfl (fun _ h_ => h_.elim) .nil))))))) fun s hL => ?_
    refine en' ?_
    show K16 a s.w
    refine hK16 _ _ ?_
    refine wp_seq_k fun K20 hK20 => ?_
    refine wp_seq_k fun K21 hK21 => ?_
    refine rg ?_
    refine st 18 (t_move (o_t 7 rfl) rfl rfl) rfl rfl hL fun a s e_ hL => ?_
    refine st 19 (t_move (o_t 1 rfl) rfl rfl) rfl rfl hL fun a s e_ hL => ?_
    refine st 20 (t_len (o_t 19 rfl) Tryd.underlying26 rfl rfl) rfl rfl hL fun a s e_ hL => ?_
    refine st 21 (t_geq (o_t 18 rfl) (o_t 20 rfl) rfl rfl) rfl rfl hL fun a s e_ hL => ?_
    refine en' ?_
    show K21 a s.w
    refine hK21 _ _ ?_
    refine cnd hL rfl (fun hb_ => ?_) (fun hb_ => ?_)
    · replace h := h.1 hb_
      refine wp_seq_k fun K22 hK22 => ?_
      refine rg ?_
      refine st 6 (t_assign (o_i (by decide)) rfl rfl) rfl rfl hL fun a s e_ hL => ?_
      refine en' ?_
      show K22 a s.w
      refine hK22 _ _ ?_
      subst h
      exact wp_ret (retq rfl hL rfl)
    · replace h := h.2 hb_
      refine wp_skip ?_
      show K20 a s.w
      refine hK20 _ _ ?_
      refine wp_seq_k fun K23 hK23 => ?_
      obtain ⟨e24, h25, h⟩ := h
      refine rg ?_
      refine st 22 (t_move (o_t 1 rfl) rfl rfl) rfl rfl hL fun a s e_ hL => ?_
      refine st 23 (t_move (o_t 7 rfl) rfl rfl) rfl rfl hL fun a s e_ hL => ?_
      refine st 24 (t_idx (o_t 22 rfl) (o_t 23 rfl) h25 Tryd.underlying26 ty36 rfl rfl) rfl rfl hL fun a s e_ hL => ?_
      refine st 25 (t_load ty36 (o_t 24 rfl) rfl rfl) rfl rfl hL fun a s e_ hL => ?_
      have lt_d27 := hL.blt 8 rfl
      refine st_alloc En.SItem (z := (0, 0, 0, 0)) 9 hL tyz36 rfl rfl rfl rfl fun a s g26 hg_ hL => ?_
      have d27 : Dis (some g26) (some g19) := Dis.newg hg_ lt_d27
      refine st_stb (L' := [(0, (Pd.rep (En.slice En.SItem) s1_)), (1, (Pd.rep (En.slice En.SItem) s2_)), (2, (Pd.rep EnF79 cmp_)), (8, (Pd.box En.SItem s0.w.heap.size g19 e17)), (11, (Pd.rep (En.slice En.SItem) s1_)), (12, (Pd.rep (En.int .i64) (s1_.length : Int))), (13, (Pd.rep (En.int .i64) v9))]) 9 hL rfl (o_t 25 rfl) ty36 rfl rfl rfl (.cons (t := 0) rfl (fun _ h_ => h_.elim) (.cons (t := 1) rfl (fun _ h_ => h_.elim) (.cons (t := 2) rfl (fun _ h_ => h_.elim) (.cons (t := 8) rfl (Dis.bx (Dis.symm d27)) (.cons (t := 11) rfl (fun _ h_ => h_.elim) (.cons (t := 12) rfl (fun _ h_ => h_.elim) (.cons (t := 13) rfl (fun _ h_ => h_.elim) .nil))))))) fun s hL => ?_
      refine en' ?_
      show K23 a s.w
      refine hK23 _ _ ?_
      refine wp_seq_k fun K28 hK28 => ?_
      obtain ⟨r29, h30, h⟩ := h
      refine rg ?_
      refine st 26 (t_move (o_t 2 rfl) rfl rfl) rfl rfl hL fun a s e_ hL => ?_
      refine st 27 (t_loadb ty36 (o_t 8 rfl) rfl rfl) rfl rfl hL fun a s e_ hL => ?_
      refine st 28 (t_loadb ty36 (o_t 9 rfl) rfl rfl) rfl rfl hL fun a s e_ hL => ?_
      refine st 29 (t_callf (q := (e17, e24, r29)) (o_t 26 rfl) h30 (xs := [.tmp 27, .tmp 28]) (.cons (o_t 27 rfl) (.cons (o_t 28 rfl) .nil)) (fun _ _ _ h_ => h_) rfl rfl) rfl rfl hL fun a s e_ hL => ?_
      refine st 10 (t_assign (o_t 29 rfl) rfl rfl) rfl rfl hL fun a s e_ hL => ?_
      refine en' ?_
      show K28 a s.w
      refine hK28 _ _ ?_
      refine wp_seq_k fun K31 hK31 => ?_
      refine rg ?_
      refine st 30 (t_move (o_t 10 rfl) rfl rfl) rfl rfl hL fun a s e_ hL => ?_
      refine st 31 (t_nei (o_t 30 rfl) (o_i (by decide)) rfl rfl) rfl rfl hL fun a s e_ hL => ?_
      refine en' ?_
      show K31 a s.w
      refine hK31 _ _ ?_
      refine cnd hL rfl (fun hb_ => ?_) (fun hb_ => ?_)
      · replace h := h.1 hb_
        refine wp_seq_k fun K32 hK32 => ?_
        refine rg ?_
        refine st 32 (t_move (o_t 10 rfl) rfl rfl) rfl rfl hL fun a s e_ hL => ?_
        refine st 6 (t_assign (o_t 32 rfl) rfl rfl) rfl rfl hL fun a s e_ hL => ?_
        refine en' ?_
        show K32 a s.w
        refine hK32 _ _ ?_
        subst h
        exact wp_ret (retq rfl hL rfl)
      · replace h := h.2 hb_
        refine wp_skip ?_
        show K15 a s.w
        refine hK15 _ _ ?_
        obtain ⟨h33, h⟩ := h
        refine rg ?_
        refine st 33 (t_add (o_t 13 rfl) (o_i (by decide)) h33 rfl rfl) rfl rfl hL fun a s e_ hL => ?_
        refine st 13 (t_move (o_t 33 rfl) rfl rfl) rfl rfl hL fun a s e_ hL => ?_
        refine en' ?_
        exact hKL12 k11 a s (Nat.lt_succ_self _) ⟨(v9 + 1), hL.keep (.cons (t := 0) rfl (fun _ h_ => h_.elim) (.cons (t := 1) rfl (fun _ h_ => h_.elim) (.cons (t := 2) rfl (fun _ h_ => h_.elim) (.cons (t := 11) rfl (fun _ h_ => h_.elim) (.cons (t := 12) rfl (fun _ h_ => h_.elim) (.cons (t := 13) rfl (fun _ h_ => h_.elim) .nil)))))), h⟩
  · replace h := h.2 hb_
    refine wp_exit ?_
    exact J4 a s (hL.keep (.cons (t := 0) rfl (fun _ h_ => h_.elim) (.cons (t := 1) rfl (fun _ h_ => h_.elim) .nil))) h

theorem cmp_Or_int_ok {vals_ : (List Int)} {r_ : Int} (h : cmp_Or_int vals_ r_) : Fn Tryd.prog 43 [(Pd.rep (En.slice (En.int .i64)) vals_)] (Rq (Pd.rep (En.int .i64) r_)) := by
  unfold cmp_Or_int at h
  refine fn_of Tryd.func43 rfl Tryd.ntmps43 (by rfl) (by simp) fun s0 a hL => ?_
  refine wp_seq_k fun K1 hK1 => ?_
  refine rg ?_
  refine st 2 (t_assign (o_i (by decide)) rfl rfl) rfl rfl hL fun a s e_ hL => ?_
  refine en' ?_
  show K1 a s.w
  refine hK1 _ _ ?_
  refine wp_seq_k fun K2 hK2 => ?_
  refine rg ?_
  refine st 3 (t_assign (o_i (by decide)) rfl rfl) rfl rfl hL fun a s e_ hL => ?_
  refine en' ?_
  show K2 a s.w
  refine hK2 _ _ ?_
  refine wp_seq_k fun K3 hK3 => ?_
  refine wp_seq_k fun K4 hK4 => ?_
  refine rg ?_
  refine st 6 (t_move (o_t 0 rfl) rfl rfl) rfl rfl hL fun a s e_ hL => ?_
  refine st 7 (t_len (o_t 6 rfl) Tryd.underlying47 rfl rfl) rfl rfl hL fun a s e_ hL => ?_
  refine st 8 (t_move (o_i (by decide)) rfl rfl) rfl rfl hL fun a s e_ hL => ?_
  refine en' ?_
  show K4 a s.w
  refine hK4 _ _ ?_
  refine wp_block ?_
  have J5 : ∀ (a : Act) (s : St), Has N0 18 s0 a s [(3, (Pd.rep (En.int .i64) 0))] → ((cmp_Or_int.j1 r_)) → K3 a s.w := by
    intro a s hL h
    unfold cmp_Or_int.j1 at h
    show K3 a s.w
    refine hK3 _ _ ?_
    refine wp_seq_k fun K6 hK6 => ?_
    refine rg ?_
    refine st 17 (t_move (o_t 3 rfl) rfl rfl) rfl rfl hL fun a s e_ hL => ?_
    refine st 2 (t_assign (o_t 17 rfl) rfl rfl) rfl rfl hL fun a s e_ hL => ?_
    refine en' ?_
    show K6 a s.w
    refine hK6 _ _ ?_
    subst h
    exact wp_ret (retq rfl hL rfl)
  obtain ⟨k8, h⟩ := h
  refine lpg (fun k9 a s => ∃ (v7 : Int), Has N0 18 s0 a s [(3, (Pd.rep (En.int .i64) 0)), (6, (Pd.rep (En.slice (En.int .i64)) vals_)), (7, (Pd.rep (En.int .i64) (vals_.length : Int))), (8, (Pd.rep (En.int .i64) v7))] ∧ cmp_Or_int.l1 vals_ r_ (cmp_Or_int.j1 r_) k9 v7) k8 ⟨0, hL.keep (.cons (t := 3) rfl (fun _ h_ => h_.elim) (.cons (t := 6) rfl (fun _ h_ => h_.elim) (.cons (t := 7) rfl (fun _ h_ => h_.elim) (.cons (t := 8) rfl (fun _ h_ => h_.elim) .nil)))), h⟩ ?_
  rintro k9 a s ⟨v7, hL, h⟩ KL10 hKL10
  cases k9 with
  | zero => exact h.elim
  | succ k9 =>
  unfold cmp_Or_int.l1 at h
  refine wp_seq_k fun K11 hK11 => ?_
  refine rg ?_
  refine st 9 (t_lss (o_t 8 rfl) (o_t 7 rfl) rfl rfl) rfl rfl hL fun a s e_ hL => ?_
  refine en' ?_
  show K11 a s.w
  refine hK11 _ _ ?_
  refine wp_seq_k fun K12 hK12 => ?_
  refine cnd hL rfl (fun hb_ => ?_) (fun hb_ => ?_)
  · replace h := h.1 hb_
    refine wp_skip ?_
    show K12 a s.w
    refine hK12 _ _ ?_
    refine wp_seq_k fun K13 hK13 => ?_
    refine wp_block ?_
    refine wp_seq_k fun K14 hK14 => ?_
    obtain ⟨e15, h16, h⟩ := h
    refine rg ?_
    refine st 10 (t_idx (o_t 6 rfl) (o_t 8 rfl) h16 Tryd.underlying47 ty3 rfl rfl) rfl rfl hL fun a s e_ hL => ?_
    refine st 11 (t_load ty3 (o_t 10 rfl) rfl rfl) rfl rfl hL fun a s e_ hL => ?_
    refine st 5 (t_assign (o_t 11 rfl) rfl rfl) rfl rfl hL fun a s e_ hL => ?_
    refine en' ?_
    show K14 a s.w
    refine hK14 _ _ ?_
    refine wp_seq_k fun K17 hK17 => ?_
    refine rg ?_
    refine st 12 (t_move (o_t 5 rfl) rfl rfl) rfl rfl hL fun a s e_ hL => ?_
    refine st 13 (t_move (o_t 3 rfl) rfl rfl) rfl rfl hL fun a s e_ hL => ?_
    refine st 14 (t_nei (o_t 12 rfl) (o_t 13 rfl) rfl rfl) rfl rfl hL fun a s e_ hL => ?_
    refine en' ?_
    show K17 a s.w
    refine hK17 _ _ ?_
    refine cnd hL rfl (fun hb_ => ?_) (fun hb_ => ?_)
    · replace h := h.1 hb_
      refine wp_seq_k fun K18 hK18 => ?_
      refine rg ?_
      refine st 15 (t_move (o_t 5 rfl) rfl rfl) rfl rfl hL fun a s e_ hL => ?_
      refine st 2 (t_assign (o_t 15 rfl) rfl rfl) rfl rfl hL fun a s e_ hL => ?_
      refine en' ?_
      show K18 a s.w
      refine hK18 _ _ ?_
      subst h
      exact wp_ret (retq rfl hL rfl)
    · replace h := h.2 hb_
      refine wp_skip ?_
      show K13 a s.w
      refine hK13 _ _ ?_
      obtain ⟨h19, h⟩ := h
      refine rg ?_
      refine st 16 (t_add (o_t 8 rfl) (o_i (by decide)) h19 rfl rfl) rfl rfl hL fun a s e_ hL => ?_
      refine st 8 (t_move (o_t 16 rfl) rfl rfl) rfl rfl hL fun a s e_ hL => ?_
      refine en' ?_
      exact hKL10 k9 a s (Nat.lt_succ_self _) ⟨(v7 + 1), hL.keep (.cons (t := 3) rfl (fun _ h_ => h_.elim) (.cons (t := 6) rfl (fun _ h_ => h_.elim) (.cons (t := 7) rfl (fun _ h_ => h_.elim) (.cons (t := 8) rfl (fun _ h_ => h_.elim) .nil)))), h⟩
  · replace h := h.2 hb_
    refine wp_exit ?_
    exact J5 a s (hL.keep (.cons (t := 3) rfl (fun _ h_ => h_.elim) .nil)) h
end Go.Proofs.YtdfnbogkniikbaaDoor.V
