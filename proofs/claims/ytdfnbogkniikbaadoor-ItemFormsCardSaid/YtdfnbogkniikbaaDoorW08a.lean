/- The walks of the functions of layer 8 (by gen.py). -/
import Derived.Test.YtdfnbogkniikbaaDoorW04a
import Derived.Test.YtdfnbogkniikbaaDoorR08
namespace Go.Proofs.YtdfnbogkniikbaaDoor.V
open Go
set_option linter.unusedVariables false
set_option maxRecDepth 100000
theorem ref08_Ways_ok {d_ : SDesc} {i_ : Int} {r_ : Int} (h : ref08_Ways d_ i_ r_) : Fn Tryd.prog 59 [(Pd.rep En.SDesc d_), (Pd.rep (En.int .i64) i_)] (Rq (Pd.rep (En.int .i64) r_)) := by
  unfold ref08_Ways at h
  refine fn_of Tryd.func59 rfl Tryd.ntmps59 (by rfl) (by simp) fun s0 a hL => ?_
  refine wp_seq_k fun K1 hK1 => ?_
  refine rg ?_
  refine st 2 (t_box (o_t 0 rfl) rfl rfl) rfl rfl hL fun a s e_ hL => ?_
  refine st 4 (t_assign (o_i (by decide)) rfl rfl) rfl rfl hL fun a s e_ hL => ?_
  refine en' ?_
  show K1 a s.w
  refine hK1 _ _ ?_
  refine wp_seq_k fun K2 hK2 => ?_
  refine rg ?_
  refine st 5 (t_assign (o_nil (E := (En.int .i64)) (N := s0.w.heap.size) (te := 3)) rfl rfl) rfl rfl hL fun a s e_ hL => ?_
  refine en' ?_
  show K2 a s.w
  refine hK2 _ _ ?_
  refine wp_seq_k fun K3 hK3 => ?_
  refine wp_seq_k fun K4 hK4 => ?_
  refine rg ?_
  refine st 6 (t_assign (o_i (by decide)) rfl rfl) rfl rfl hL fun a s e_ hL => ?_
  refine en' ?_
  show K4 a s.w
  refine hK4 _ _ ?_
  refine wp_block ?_
  have J7 : ∀ (l5 : (List Int)) (og6 : Option Nat) (a : Act) (s : St), Has N0 96 s0 a s [(1, (Pd.rep (En.int .i64) i_)), (5, (Pd.row (En.int .i64) s0.w.heap.size 3 og6 l5))] → ((ref08_Ways.j1 i_ r_) l5) → K3 a s.w := by
    intro l5 og6 a s hL h
    unfold ref08_Ways.j1 at h
    show K3 a s.w
    refine hK3 _ _ ?_
    refine wp_seq_k fun K8 hK8 => ?_
    obtain ⟨e9, h10, h⟩ := h
    refine rg ?_
    refine st 92 (t_move (o_t 5 rfl) rfl rfl) rfl rfl hL fun a s e_ hL => ?_
    refine st 93 (t_move (o_t 1 rfl) rfl rfl) rfl rfl hL fun a s e_ hL => ?_
    refine st 94 (t_idxo (o_t 92 rfl) (o_t 93 rfl) h10 Tryd.underlying47 ty3 rfl rfl) rfl rfl hL fun a s e_ hL => ?_
    refine st 95 (t_loado ty3 (o_t 94 rfl) rfl rfl) rfl rfl hL fun a s e_ hL => ?_
    refine st 4 (t_assign (o_t 95 rfl) rfl rfl) rfl rfl hL fun a s e_ hL => ?_
    refine en' ?_
    show K8 a s.w
    refine hK8 _ _ ?_
    subst h
    exact wp_ret (retq rfl hL rfl)
  obtain ⟨k14, h⟩ := h
  refine lpg (fun k15 a s => ∃ (l11 : (List Int)) (k13 : Int) (og12 : Option Nat), Has N0 96 s0 a s [(1, (Pd.rep (En.int .i64) i_)), (2, (Pd.ptr En.SDesc d_)), (5, (Pd.row (En.int .i64) s0.w.heap.size 3 og12 l11)), (6, (Pd.rep (En.int .i64) k13))] ∧ ref08_Ways.l1 d_ i_ (ref08_Ways.j1 i_ r_) k15 l11 k13) k14 ⟨([] : (List Int)), 0, none, hL.keep (.cons (t := 1) rfl (fun _ h_ => h_.elim) (.cons (t := 2) rfl (fun _ h_ => h_.elim) (.cons (t := 5) rfl (fun _ _ h_ => h_) (.cons (t := 6) rfl (fun _ h_ => h_.elim) .nil)))), h⟩ ?_
  rintro k15 a s ⟨l11, k13, og12, hL, h⟩ KL16 hKL16
  cases k15 with
  | zero => exact h.elim
  | succ k15 =>
  unfold ref08_Ways.l1 at h
  refine wp_seq_k fun K17 hK17 => ?_
  refine wp_seq_k fun K18 hK18 => ?_
  refine rg ?_
  refine st 12 (t_move (o_t 6 rfl) rfl rfl) rfl rfl hL fun a s e_ hL => ?_
  refine st 13 (t_move (o_t 1 rfl) rfl rfl) rfl rfl hL fun a s e_ hL => ?_
  refine st 14 (t_leq (o_t 12 rfl) (o_t 13 rfl) rfl rfl) rfl rfl hL fun a s e_ hL => ?_
  refine en' ?_
  show K18 a s.w
  refine hK18 _ _ ?_
  refine cnd hL rfl (fun hb_ => ?_) (fun hb_ => ?_)
  · replace h := h.1 hb_
    refine wp_skip ?_
    show K17 a s.w
    refine hK17 _ _ ?_
    refine wp_seq_k fun K19 hK19 => ?_
    refine wp_block ?_
    refine wp_seq_k fun K20 hK20 => ?_
    obtain ⟨e21, h22, h⟩ := h
    refine rg ?_
    refine st 17 (t_fa (off := 0) (o_t 2 rfl) Tryd.underlying24 rfl (prt_solo (prt_all _ _)) rfl ty22 rfl rfl) rfl rfl hL fun a s e_ hL => ?_
    refine st 18 (t_load ty22 (o_t 17 rfl) rfl rfl) rfl rfl hL fun a s e_ hL => ?_
    refine st 19 (t_move (o_t 6 rfl) rfl rfl) rfl rfl hL fun a s e_ hL => ?_
    refine st 20 (t_idx (o_t 18 rfl) (o_t 19 rfl) h22 Tryd.underlying22 ty69 rfl rfl) rfl rfl hL fun a s e_ hL => ?_
    refine st 21 (t_load ty69 (o_t 20 rfl) rfl rfl) rfl rfl hL fun a s e_ hL => ?_
    have lt_d24 := hL.rlt 5 rfl
    refine st_alloc En.SNode (z := (0, 0, 0, 0, 0, (0#256), ([] : Str))) 7 hL tyz69 rfl rfl rfl rfl fun a s g23 hg_ hL => ?_
    have d24 : Dis (some g23) og12 := Dis.newg hg_ lt_d24
    refine st_stb (L' := [(1, (Pd.rep (En.int .i64) i_)), (2, (Pd.ptr En.SDesc d_)), (5, (Pd.row (En.int .i64) s0.w.heap.size 3 og12 l11)), (6, (Pd.rep (En.int .i64) k13))]) 7 hL rfl (o_t 21 rfl) ty69 rfl rfl rfl (.cons (t := 1) rfl (fun _ h_ => h_.elim) (.cons (t := 2) rfl (fun _ h_ => h_.elim) (.cons (t := 5) rfl (Dis.ow (Dis.symm d24)) (.cons (t := 6) rfl (fun _ h_ => h_.elim) .nil)))) fun s hL => ?_
    refine en' ?_
    show K20 a s.w
    refine hK20 _ _ ?_
    refine wp_seq_k fun K25 hK25 => ?_
    refine rg ?_
    refine st 8 (t_assign (o_i (by decide)) rfl rfl) rfl rfl hL fun a s e_ hL => ?_
    refine en' ?_
    show K25 a s.w
    refine hK25 _ _ ?_
    refine wp_seq_k fun K26 hK26 => ?_
    refine wp_seq_k fun K27 hK27 => ?_
    refine rg ?_
    refine st 22 (t_fab (off := 0) (o_t 7 rfl) Tryd.underlying69 rfl (prt_fst (prt_all _ _)) rfl ty3 rfl rfl) rfl rfl hL fun a s e_ hL => ?_
    refine st 23 (t_loado ty3 (o_t 22 rfl) rfl rfl) rfl rfl hL fun a s e_ hL => ?_
    refine en' ?_
    show K27 a s.w
    refine hK27 _ _ ?_
    refine wp_block ?_
    refine wp_seq_k fun K28 hK28 => ?_
    refine rg ?_
    refine st 25 (t_eqi (o_t 23 rfl) (o_i (by decide)) rfl rfl) rfl rfl hL fun a s e_ hL => ?_
    refine st 24 (t_assign (o_t 25 rfl) rfl rfl) rfl rfl hL fun a s e_ hL => ?_
    refine en' ?_
    show K28 a s.w
    refine hK28 _ _ ?_
    have J30 : ∀ (w29 : Int) (a : Act) (s : St), Has N0 96 s0 a s [(1, (Pd.rep (En.int .i64) i_)), (2, (Pd.ptr En.SDesc d_)), (5, (Pd.row (En.int .i64) s0.w.heap.size 3 og12 l11)), (6, (Pd.rep (En.int .i64) k13)), (8, (Pd.rep (En.int .i64) w29))] → ((ref08_Ways.j2 (ref08_Ways.l1 d_ i_ (ref08_Ways.j1 i_ r_) k15) l11 k13) w29) → K26 a s.w := by
      intro w29 a s hL h
      unfold ref08_Ways.j2 at h
      show K26 a s.w
      refine hK26 _ _ ?_
      obtain ⟨h31, h⟩ := h
      refine rg ?_
      refine st 87 (t_move (o_t 5 rfl) rfl rfl) rfl rfl hL fun a s e_ hL => ?_
      refine st 88 (t_move (o_t 8 rfl) rfl rfl) rfl rfl hL fun a s e_ hL => ?_
      refine st 89 (t_min (o_i (by decide)) (o_t 88 rfl) rfl rfl) rfl rfl hL fun a s e_ hL => ?_
      refine st 90 (t_lit (xs := [.tmp 89]) (.cons (o_t 89 rfl) .nil) Tryd.underlying47 ty3 rfl rfl (by decide) rfl rfl) rfl rfl hL fun a s e_ hL => ?_
      refine st_app (L' := [(1, (Pd.rep (En.int .i64) i_)), (2, (Pd.ptr En.SDesc d_)), (6, (Pd.rep (En.int .i64) k13))]) 91 hL (o_t 87 rfl) (o_t 90 rfl) Tryd.underlying47 ty3 h31 rfl rfl rfl rfl (.cons (t := 1) rfl (fun _ h_ => h_.elim) (.cons (t := 2) rfl (fun _ h_ => h_.elim) (.cons (t := 6) rfl (fun _ h_ => h_.elim) .nil))) fun a s og32 hg_ hL => ?_
      refine st 5 (t_assign (o_t 91 rfl) rfl rfl) rfl rfl hL fun a s e_ hL => ?_
      refine en' ?_
      show K19 a s.w
      refine hK19 _ _ ?_
      obtain ⟨h33, h⟩ := h
      refine rg ?_
      refine st 15 (t_move (o_t 6 rfl) rfl rfl) rfl rfl hL fun a s e_ hL => ?_
      refine st 16 (t_add (o_t 15 rfl) (o_i (by decide)) h33 rfl rfl) rfl rfl hL fun a s e_ hL => ?_
      refine st 6 (t_assign (o_t 16 rfl) rfl rfl) rfl rfl hL fun a s e_ hL => ?_
      refine en' ?_
      exact hKL16 k15 a s (Nat.lt_succ_self _) ⟨(l11 ++ [(min 2 w29)]), (k13 + 1), og32, hL.keep (.cons (t := 1) rfl (fun _ h_ => h_.elim) (.cons (t := 2) rfl (fun _ h_ => h_.elim) (.cons (t := 5) rfl (fun _ _ h_ => h_) (.cons (t := 6) rfl (fun _ h_ => h_.elim) .nil)))), h⟩
    refine cnd hL rfl (fun hb_ => ?_) (fun hb_ => ?_)
    · replace h := h.1 hb_
      refine rg ?_
      refine st 8 (t_assign (o_i (by decide)) rfl rfl) rfl rfl hL fun a s e_ hL => ?_
      refine en' ?_
      exact J30 1 a s (hL.keep (.cons (t := 1) rfl (fun _ h_ => h_.elim) (.cons (t := 2) rfl (fun _ h_ => h_.elim) (.cons (t := 5) rfl (fun _ _ h_ => h_) (.cons (t := 6) rfl (fun _ h_ => h_.elim) (.cons (t := 8) rfl (fun _ h_ => h_.elim) .nil)))))) h
    · replace h := h.2 hb_
      refine wp_seq_k fun K34 hK34 => ?_
      refine rg ?_
      refine st 27 (t_eqi (o_t 23 rfl) (o_i (by decide)) rfl rfl) rfl rfl hL fun a s e_ hL => ?_
      refine st 26 (t_assign (o_t 27 rfl) rfl rfl) rfl rfl hL fun a s e_ hL => ?_
      refine en' ?_
      show K34 a s.w
      refine hK34 _ _ ?_
      refine cnd hL rfl (fun hb_ => ?_) (fun hb_ => ?_)
      · replace h := h.1 hb_
        obtain ⟨e35, h36, e37, h38, h39, h⟩ := h
        refine rda follows 11 [(Pd.row (En.int .i64) s0.w.heap.size 3 og12 l11), (Pd.optr (En.int .i64) s0.w.heap.size (some g23) (1) e21.2.1), (Pd.rep (En.int .i64) e21.2.1), (Pd.optr (En.int .i64) s0.w.heap.size og12 ((e21.2.1 : Int).toNat * (En.int .i64).sz) e35), (Pd.rep (En.int .i64) e35), (Pd.row (En.int .i64) s0.w.heap.size 3 og12 l11), (Pd.optr (En.int .i64) s0.w.heap.size (some g23) (2) e21.2.2.1), (Pd.rep (En.int .i64) e21.2.2.1), (Pd.optr (En.int .i64) s0.w.heap.size og12 ((e21.2.2.1 : Int).toNat * (En.int .i64).sz) e37), (Pd.rep (En.int .i64) e37), (Pd.rep (En.int .i64) (e35 * e37))] hL (by kernel_rfl) rfl rfl ?_ ?_
        · refine AllT.cons (t_move (o_t 5 rfl) rfl rfl) ?_
          refine AllT.cons (t_fab (off := 1) (o_t 7 rfl) Tryd.underlying69 rfl (prt_snd (prt_fst (prt_all _ _)) rfl) rfl ty3 rfl rfl) ?_
          refine AllT.cons (t_loado ty3 (o_t 29 rfl) rfl rfl) ?_
          refine AllT.cons (t_idxo (o_t 28 rfl) (o_t 30 rfl) h36 Tryd.underlying47 ty3 rfl rfl) ?_
          refine AllT.cons (t_loado ty3 (o_t 31 rfl) rfl rfl) ?_
          refine AllT.cons (t_move (o_t 5 rfl) rfl rfl) ?_
          refine AllT.cons (t_fab (off := 2) (o_t 7 rfl) Tryd.underlying69 rfl (prt_snd (prt_snd (prt_fst (prt_all _ _)) rfl) rfl) rfl ty3 rfl rfl) ?_
          refine AllT.cons (t_loado ty3 (o_t 34 rfl) rfl rfl) ?_
          refine AllT.cons (t_idxo (o_t 33 rfl) (o_t 35 rfl) h38 Tryd.underlying47 ty3 rfl rfl) ?_
          refine AllT.cons (t_loado ty3 (o_t 36 rfl) rfl rfl) ?_
          refine AllT.cons (t_mul (o_t 32 rfl) (o_t 37 rfl) h39 rfl rfl) ?_
          exact AllT.nil
        intro a s e_ hL
        refine st 8 (t_assign (o_t 38 rfl) rfl rfl) rfl rfl hL fun a s e_ hL => ?_
        refine en' ?_
        exact J30 (e35 * e37) a s (hL.keep (.cons (t := 1) rfl (fun _ h_ => h_.elim) (.cons (t := 2) rfl (fun _ h_ => h_.elim) (.cons (t := 5) rfl (fun _ _ h_ => h_) (.cons (t := 6) rfl (fun _ h_ => h_.elim) (.cons (t := 8) rfl (fun _ h_ => h_.elim) .nil)))))) h
      · replace h := h.2 hb_
        refine wp_seq_k fun K40 hK40 => ?_
        refine rg ?_
        refine st 40 (t_eqi (o_t 23 rfl) (o_i (by decide)) rfl rfl) rfl rfl hL fun a s e_ hL => ?_
        refine st 39 (t_assign (o_t 40 rfl) rfl rfl) rfl rfl hL fun a s e_ hL => ?_
        refine en' ?_
        show K40 a s.w
        refine hK40 _ _ ?_
        refine cnd hL rfl (fun hb_ => ?_) (fun hb_ => ?_)
        · replace h := h.1 hb_
          obtain ⟨e41, h42, e43, h44, h45, h⟩ := h
          refine rda follows 11 [(Pd.row (En.int .i64) s0.w.heap.size 3 og12 l11), (Pd.optr (En.int .i64) s0.w.heap.size (some g23) (1) e21.2.1), (Pd.rep (En.int .i64) e21.2.1), (Pd.optr (En.int .i64) s0.w.heap.size og12 ((e21.2.1 : Int).toNat * (En.int .i64).sz) e41), (Pd.rep (En.int .i64) e41), (Pd.row (En.int .i64) s0.w.heap.size 3 og12 l11), (Pd.optr (En.int .i64) s0.w.heap.size (some g23) (2) e21.2.2.1), (Pd.rep (En.int .i64) e21.2.2.1), (Pd.optr (En.int .i64) s0.w.heap.size og12 ((e21.2.2.1 : Int).toNat * (En.int .i64).sz) e43), (Pd.rep (En.int .i64) e43), (Pd.rep (En.int .i64) (e41 + e43))] hL (by kernel_rfl) rfl rfl ?_ ?_
          · refine AllT.cons (t_move (o_t 5 rfl) rfl rfl) ?_
            refine AllT.cons (t_fab (off := 1) (o_t 7 rfl) Tryd.underlying69 rfl (prt_snd (prt_fst (prt_all _ _)) rfl) rfl ty3 rfl rfl) ?_
            refine AllT.cons (t_loado ty3 (o_t 42 rfl) rfl rfl) ?_
            refine AllT.cons (t_idxo (o_t 41 rfl) (o_t 43 rfl) h42 Tryd.underlying47 ty3 rfl rfl) ?_
            refine AllT.cons (t_loado ty3 (o_t 44 rfl) rfl rfl) ?_
            refine AllT.cons (t_move (o_t 5 rfl) rfl rfl) ?_
            refine AllT.cons (t_fab (off := 2) (o_t 7 rfl) Tryd.underlying69 rfl (prt_snd (prt_snd (prt_fst (prt_all _ _)) rfl) rfl) rfl ty3 rfl rfl) ?_
            refine AllT.cons (t_loado ty3 (o_t 47 rfl) rfl rfl) ?_
            refine AllT.cons (t_idxo (o_t 46 rfl) (o_t 48 rfl) h44 Tryd.underlying47 ty3 rfl rfl) ?_
            refine AllT.cons (t_loado ty3 (o_t 49 rfl) rfl rfl) ?_
            refine AllT.cons (t_add (o_t 45 rfl) (o_t 50 rfl) h45 rfl rfl) ?_
            exact AllT.nil
          intro a s e_ hL
          refine st 8 (t_assign (o_t 51 rfl) rfl rfl) rfl rfl hL fun a s e_ hL => ?_
          refine en' ?_
          exact J30 (e41 + e43) a s (hL.keep (.cons (t := 1) rfl (fun _ h_ => h_.elim) (.cons (t := 2) rfl (fun _ h_ => h_.elim) (.cons (t := 5) rfl (fun _ _ h_ => h_) (.cons (t := 6) rfl (fun _ h_ => h_.elim) (.cons (t := 8) rfl (fun _ h_ => h_.elim) .nil)))))) h
        · replace h := h.2 hb_
          refine wp_seq_k fun K46 hK46 => ?_
          refine rg ?_
          refine st 53 (t_eqi (o_t 23 rfl) (o_i (by decide)) rfl rfl) rfl rfl hL fun a s e_ hL => ?_
          refine st 52 (t_assign (o_t 53 rfl) rfl rfl) rfl rfl hL fun a s e_ hL => ?_
          refine en' ?_
          show K46 a s.w
          refine hK46 _ _ ?_
          refine cnd hL rfl (fun hb_ => ?_) (fun hb_ => ?_)
          · replace h := h.1 hb_
            refine wp_seq_k fun K47 hK47 => ?_
            refine rg ?_
            refine st 8 (t_assign (o_i (by decide)) rfl rfl) rfl rfl hL fun a s e_ hL => ?_
            refine en' ?_
            show K47 a s.w
            refine hK47 _ _ ?_
            refine wp_seq_k fun K48 hK48 => ?_
            obtain ⟨e49, h50, h⟩ := h
            refine rg ?_
            refine st 54 (t_move (o_t 5 rfl) rfl rfl) rfl rfl hL fun a s e_ hL => ?_
            refine st 55 (t_fab (off := 1) (o_t 7 rfl) Tryd.underlying69 rfl (prt_snd (prt_fst (prt_all _ _)) rfl) rfl ty3 rfl rfl) rfl rfl hL fun a s e_ hL => ?_
            refine st 56 (t_loado ty3 (o_t 55 rfl) rfl rfl) rfl rfl hL fun a s e_ hL => ?_
            refine st 57 (t_idxo (o_t 54 rfl) (o_t 56 rfl) h50 Tryd.underlying47 ty3 rfl rfl) rfl rfl hL fun a s e_ hL => ?_
            refine st 58 (t_loado ty3 (o_t 57 rfl) rfl rfl) rfl rfl hL fun a s e_ hL => ?_
            refine st 59 (t_gtr (o_t 58 rfl) (o_i (by decide)) rfl rfl) rfl rfl hL fun a s e_ hL => ?_
            refine en' ?_
            show K48 a s.w
            refine hK48 _ _ ?_
            refine cnd hL rfl (fun hb_ => ?_) (fun hb_ => ?_)
            · replace h := h.1 hb_
              refine rg ?_
              refine st 8 (t_assign (o_i (by decide)) rfl rfl) rfl rfl hL fun a s e_ hL => ?_
              refine en' ?_
              exact J30 2 a s (hL.keep (.cons (t := 1) rfl (fun _ h_ => h_.elim) (.cons (t := 2) rfl (fun _ h_ => h_.elim) (.cons (t := 5) rfl (fun _ _ h_ => h_) (.cons (t := 6) rfl (fun _ h_ => h_.elim) (.cons (t := 8) rfl (fun _ h_ => h_.elim) .nil)))))) h
            · replace h := h.2 hb_
              refine wp_skip ?_
              exact J30 1 a s (hL.keep (.cons (t := 1) rfl (fun _ h_ => h_.elim) (.cons (t := 2) rfl (fun _ h_ => h_.elim) (.cons (t := 5) rfl (fun _ _ h_ => h_) (.cons (t := 6) rfl (fun _ h_ => h_.elim) (.cons (t := 8) rfl (fun _ h_ => h_.elim) .nil)))))) h
          · replace h := h.2 hb_
            refine wp_seq_k fun K51 hK51 => ?_
            refine rg ?_
            refine st 61 (t_eqi (o_t 23 rfl) (o_i (by decide)) rfl rfl) rfl rfl hL fun a s e_ hL => ?_
            refine st 60 (t_assign (o_t 61 rfl) rfl rfl) rfl rfl hL fun a s e_ hL => ?_
            refine en' ?_
            show K51 a s.w
            refine hK51 _ _ ?_
            refine cnd hL rfl (fun hb_ => ?_) (fun hb_ => ?_)
            · replace h := h.1 hb_
              refine wp_seq_k fun K52 hK52 => ?_
              refine rg ?_
              refine st 62 (t_fab (off := 3) (o_t 7 rfl) Tryd.underlying69 rfl (prt_snd (prt_snd (prt_snd (prt_fst (prt_all _ _)) rfl) rfl) rfl) rfl ty3 rfl rfl) rfl rfl hL fun a s e_ hL => ?_
              refine st 63 (t_loado ty3 (o_t 62 rfl) rfl rfl) rfl rfl hL fun a s e_ hL => ?_
              refine st 9 (t_assign (o_t 63 rfl) rfl rfl) rfl rfl hL fun a s e_ hL => ?_
              refine en' ?_
              show K52 a s.w
              refine hK52 _ _ ?_
              refine wp_block ?_
              obtain ⟨k55, h⟩ := h
              refine lpg (fun k56 a s => ∃ (w53 : Int) (t54 : Int), Has N0 96 s0 a s [(1, (Pd.rep (En.int .i64) i_)), (2, (Pd.ptr En.SDesc d_)), (5, (Pd.row (En.int .i64) s0.w.heap.size 3 og12 l11)), (6, (Pd.rep (En.int .i64) k13)), (7, (Pd.box En.SNode s0.w.heap.size g23 e21)), (8, (Pd.rep (En.int .i64) w53)), (9, (Pd.rep (En.int .i64) t54))] ∧ Dis og12 (some g23) ∧ ref08_Ways.l2 l11 e21 (ref08_Ways.j2 (ref08_Ways.l1 d_ i_ (ref08_Ways.j1 i_ r_) k15) l11 k13) k56 w53 t54) k55 ⟨0, e21.2.2.2.1, hL.keep (.cons (t := 1) rfl (fun _ h_ => h_.elim) (.cons (t := 2) rfl (fun _ h_ => h_.elim) (.cons (t := 5) rfl (fun _ _ h_ => h_) (.cons (t := 6) rfl (fun _ h_ => h_.elim) (.cons (t := 7) rfl (fun _ _ h_ => h_) (.cons (t := 8) rfl (fun _ h_ => h_.elim) (.cons (t := 9) rfl (fun _ h_ => h_.elim) .nil))))))), (Dis.symm d24), h⟩ ?_
              rintro k56 a s ⟨w53, t54, hL, d58, h⟩ KL57 hKL57
              cases k56 with
              | zero => exact h.elim
              | succ k56 =>
              unfold ref08_Ways.l2 at h
              refine wp_seq_k fun K59 hK59 => ?_
              refine wp_seq_k fun K60 hK60 => ?_
              refine rg ?_
              refine st 64 (t_move (o_t 9 rfl) rfl rfl) rfl rfl hL fun a s e_ hL => ?_
              refine st 65 (t_fab (off := 4) (o_t 7 rfl) Tryd.underlying69 rfl (prt_snd (prt_snd (prt_snd (prt_snd (prt_fst (prt_all _ _)) rfl) rfl) rfl) rfl) rfl ty3 rfl rfl) rfl rfl hL fun a s e_ hL => ?_
              refine st 66 (t_loado ty3 (o_t 65 rfl) rfl rfl) rfl rfl hL fun a s e_ hL => ?_
              refine st 67 (t_leq (o_t 64 rfl) (o_t 66 rfl) rfl rfl) rfl rfl hL fun a s e_ hL => ?_
              refine en' ?_
              show K60 a s.w
              refine hK60 _ _ ?_
              refine cnd hL rfl (fun hb_ => ?_) (fun hb_ => ?_)
              · replace h := h.1 hb_
                refine wp_skip ?_
                show K59 a s.w
                refine hK59 _ _ ?_
                refine wp_seq_k fun K61 hK61 => ?_
                refine wp_block ?_
                refine wp_seq_k fun K62 hK62 => ?_
                refine rg ?_
                refine st 10 (t_assign (o_i (by decide)) rfl rfl) rfl rfl hL fun a s e_ hL => ?_
                refine en' ?_
                show K62 a s.w
                refine hK62 _ _ ?_
                refine wp_seq_k fun K63 hK63 => ?_
                refine wp_seq_k fun K64 hK64 => ?_
                refine rg ?_
                refine st 11 (t_assign (o_i (by decide)) rfl rfl) rfl rfl hL fun a s e_ hL => ?_
                refine en' ?_
                show K64 a s.w
                refine hK64 _ _ ?_
                refine wp_block ?_
                have J66 : ∀ (p65 : Int) (a : Act) (s : St), Has N0 96 s0 a s [(1, (Pd.rep (En.int .i64) i_)), (2, (Pd.ptr En.SDesc d_)), (5, (Pd.row (En.int .i64) s0.w.heap.size 3 og12 l11)), (6, (Pd.rep (En.int .i64) k13)), (7, (Pd.box En.SNode s0.w.heap.size g23 e21)), (8, (Pd.rep (En.int .i64) w53)), (9, (Pd.rep (En.int .i64) t54)), (10, (Pd.rep (En.int .i64) p65))] → Dis og12 (some g23) → ((ref08_Ways.j3 (ref08_Ways.l2 l11 e21 (ref08_Ways.j2 (ref08_Ways.l1 d_ i_ (ref08_Ways.j1 i_ r_) k15) l11 k13) k56) w53 t54) p65) → K63 a s.w := by
                  intro p65 a s hL d67 h
                  unfold ref08_Ways.j3 at h
                  show K63 a s.w
                  refine hK63 _ _ ?_
                  obtain ⟨h68, h⟩ := h
                  refine rg ?_
                  refine st 83 (t_move (o_t 8 rfl) rfl rfl) rfl rfl hL fun a s e_ hL => ?_
                  refine st 84 (t_move (o_t 10 rfl) rfl rfl) rfl rfl hL fun a s e_ hL => ?_
                  refine st 85 (t_add (o_t 83 rfl) (o_t 84 rfl) h68 rfl rfl) rfl rfl hL fun a s e_ hL => ?_
                  refine st 86 (t_min (o_i (by decide)) (o_t 85 rfl) rfl rfl) rfl rfl hL fun a s e_ hL => ?_
                  refine st 8 (t_assign (o_t 86 rfl) rfl rfl) rfl rfl hL fun a s e_ hL => ?_
                  refine en' ?_
                  show K61 a s.w
                  refine hK61 _ _ ?_
                  obtain ⟨h69, h⟩ := h
                  refine rg ?_
                  refine st 68 (t_move (o_t 9 rfl) rfl rfl) rfl rfl hL fun a s e_ hL => ?_
                  refine st 69 (t_add (o_t 68 rfl) (o_i (by decide)) h69 rfl rfl) rfl rfl hL fun a s e_ hL => ?_
                  refine st 9 (t_assign (o_t 69 rfl) rfl rfl) rfl rfl hL fun a s e_ hL => ?_
                  refine en' ?_
                  exact hKL57 k56 a s (Nat.lt_succ_self _) ⟨(min 2 (w53 + p65)), (t54 + 1), hL.keep (.cons (t := 1) rfl (fun _ h_ => h_.elim) (.cons (t := 2) rfl (fun _ h_ => h_.elim) (.cons (t := 5) rfl (fun _ _ h_ => h_) (.cons (t := 6) rfl (fun _ h_ => h_.elim) (.cons (t := 7) rfl (fun _ _ h_ => h_) (.cons (t := 8) rfl (fun _ h_ => h_.elim) (.cons (t := 9) rfl (fun _ h_ => h_.elim) .nil))))))), d67, h⟩
                obtain ⟨k72, h⟩ := h
                refine lpg (fun k73 a s => ∃ (p70 : Int) (m71 : Int), Has N0 96 s0 a s [(1, (Pd.rep (En.int .i64) i_)), (2, (Pd.ptr En.SDesc d_)), (5, (Pd.row (En.int .i64) s0.w.heap.size 3 og12 l11)), (6, (Pd.rep (En.int .i64) k13)), (7, (Pd.box En.SNode s0.w.heap.size g23 e21)), (8, (Pd.rep (En.int .i64) w53)), (9, (Pd.rep (En.int .i64) t54)), (10, (Pd.rep (En.int .i64) p70)), (11, (Pd.rep (En.int .i64) m71))] ∧ Dis og12 (some g23) ∧ ref08_Ways.l3 l11 e21 t54 (ref08_Ways.j3 (ref08_Ways.l2 l11 e21 (ref08_Ways.j2 (ref08_Ways.l1 d_ i_ (ref08_Ways.j1 i_ r_) k15) l11 k13) k56) w53 t54) k73 p70 m71) k72 ⟨1, 0, hL.keep (.cons (t := 1) rfl (fun _ h_ => h_.elim) (.cons (t := 2) rfl (fun _ h_ => h_.elim) (.cons (t := 5) rfl (fun _ _ h_ => h_) (.cons (t := 6) rfl (fun _ h_ => h_.elim) (.cons (t := 7) rfl (fun _ _ h_ => h_) (.cons (t := 8) rfl (fun _ h_ => h_.elim) (.cons (t := 9) rfl (fun _ h_ => h_.elim) (.cons (t := 10) rfl (fun _ h_ => h_.elim) (.cons (t := 11) rfl (fun _ h_ => h_.elim) .nil))))))))), d58, h⟩ ?_
                rintro k73 a s ⟨p70, m71, hL, d75, h⟩ KL74 hKL74
                cases k73 with
                | zero => exact h.elim
                | succ k73 =>
                unfold ref08_Ways.l3 at h
                refine wp_seq_k fun K76 hK76 => ?_
                refine wp_seq_k fun K77 hK77 => ?_
                refine rg ?_
                refine st 70 (t_move (o_t 11 rfl) rfl rfl) rfl rfl hL fun a s e_ hL => ?_
                refine st 71 (t_move (o_t 9 rfl) rfl rfl) rfl rfl hL fun a s e_ hL => ?_
                refine st 72 (t_lss (o_t 70 rfl) (o_t 71 rfl) rfl rfl) rfl rfl hL fun a s e_ hL => ?_
                refine en' ?_
                show K77 a s.w
                refine hK77 _ _ ?_
                refine cnd hL rfl (fun hb_ => ?_) (fun hb_ => ?_)
                · replace h := h.1 hb_
                  refine wp_skip ?_
                  show K76 a s.w
                  refine hK76 _ _ ?_
                  refine wp_seq_k fun K78 hK78 => ?_
                  refine wp_block ?_
                  obtain ⟨e79, h80, h81, h⟩ := h
                  refine rg ?_
                  refine st 75 (t_move (o_t 10 rfl) rfl rfl) rfl rfl hL fun a s e_ hL => ?_
                  refine st 76 (t_move (o_t 5 rfl) rfl rfl) rfl rfl hL fun a s e_ hL => ?_
                  refine st 77 (t_fab (off := 1) (o_t 7 rfl) Tryd.underlying69 rfl (prt_snd (prt_fst (prt_all _ _)) rfl) rfl ty3 rfl rfl) rfl rfl hL fun a s e_ hL => ?_
                  refine st 78 (t_loado ty3 (o_t 77 rfl) rfl rfl) rfl rfl hL fun a s e_ hL => ?_
                  refine st 79 (t_idxo (o_t 76 rfl) (o_t 78 rfl) h80 Tryd.underlying47 ty3 rfl rfl) rfl rfl hL fun a s e_ hL => ?_
                  refine st 80 (t_loado ty3 (o_t 79 rfl) rfl rfl) rfl rfl hL fun a s e_ hL => ?_
                  refine st 81 (t_mul (o_t 75 rfl) (o_t 80 rfl) h81 rfl rfl) rfl rfl hL fun a s e_ hL => ?_
                  refine st 82 (t_min (o_i (by decide)) (o_t 81 rfl) rfl rfl) rfl rfl hL fun a s e_ hL => ?_
                  refine st 10 (t_assign (o_t 82 rfl) rfl rfl) rfl rfl hL fun a s e_ hL => ?_
                  refine en' ?_
                  show K78 a s.w
                  refine hK78 _ _ ?_
                  obtain ⟨h82, h⟩ := h
                  refine rg ?_
                  refine st 73 (t_move (o_t 11 rfl) rfl rfl) rfl rfl hL fun a s e_ hL => ?_
                  refine st 74 (t_add (o_t 73 rfl) (o_i (by decide)) h82 rfl rfl) rfl rfl hL fun a s e_ hL => ?_
                  refine st 11 (t_assign (o_t 74 rfl) rfl rfl) rfl rfl hL fun a s e_ hL => ?_
                  refine en' ?_
                  exact hKL74 k73 a s (Nat.lt_succ_self _) ⟨(min 2 (p70 * e79)), (m71 + 1), hL.keep (.cons (t := 1) rfl (fun _ h_ => h_.elim) (.cons (t := 2) rfl (fun _ h_ => h_.elim) (.cons (t := 5) rfl (fun _ _ h_ => h_) (.cons (t := 6) rfl (fun _ h_ => h_.elim) (.cons (t := 7) rfl (fun _ _ h_ => h_) (.cons (t := 8) rfl (fun _ h_ => h_.elim) (.cons (t := 9) rfl (fun _ h_ => h_.elim) (.cons (t := 10) rfl (fun _ h_ => h_.elim) (.cons (t := 11) rfl (fun _ h_ => h_.elim) .nil))))))))), d75, h⟩
                · replace h := h.2 hb_
                  refine wp_exit ?_
                  exact J66 p70 a s (hL.keep (.cons (t := 1) rfl (fun _ h_ => h_.elim) (.cons (t := 2) rfl (fun _ h_ => h_.elim) (.cons (t := 5) rfl (fun _ _ h_ => h_) (.cons (t := 6) rfl (fun _ h_ => h_.elim) (.cons (t := 7) rfl (fun _ _ h_ => h_) (.cons (t := 8) rfl (fun _ h_ => h_.elim) (.cons (t := 9) rfl (fun _ h_ => h_.elim) (.cons (t := 10) rfl (fun _ h_ => h_.elim) .nil))))))))) d75 h
              · replace h := h.2 hb_
                refine wp_exit ?_
                exact J30 w53 a s (hL.keep (.cons (t := 1) rfl (fun _ h_ => h_.elim) (.cons (t := 2) rfl (fun _ h_ => h_.elim) (.cons (t := 5) rfl (fun _ _ h_ => h_) (.cons (t := 6) rfl (fun _ h_ => h_.elim) (.cons (t := 8) rfl (fun _ h_ => h_.elim) .nil)))))) h
            · replace h := h.2 hb_
              refine wp_skip ?_
              exact J30 0 a s (hL.keep (.cons (t := 1) rfl (fun _ h_ => h_.elim) (.cons (t := 2) rfl (fun _ h_ => h_.elim) (.cons (t := 5) rfl (fun _ _ h_ => h_) (.cons (t := 6) rfl (fun _ h_ => h_.elim) (.cons (t := 8) rfl (fun _ h_ => h_.elim) .nil)))))) h
  · replace h := h.2 hb_
    refine wp_exit ?_
    exact J7 l11 og12 a s (hL.keep (.cons (t := 1) rfl (fun _ h_ => h_.elim) (.cons (t := 5) rfl (fun _ _ h_ => h_) .nil))) h

theorem ref08_First_ok {d_ : SDesc} {r_ : (Int × Bool)} (h : ref08_First d_ r_) : Fn Tryd.prog 34 [(Pd.rep En.SDesc d_)] (Rq2 (Pd.rep (En.int .i64) r_.1) (Pd.rep En.bool r_.2)) := by
  unfold ref08_First at h
  refine fn_of Tryd.func34 rfl Tryd.ntmps34 (by rfl) (by simp) fun s0 a hL => ?_
  refine wp_seq_k fun K1 hK1 => ?_
  refine rg ?_
  refine st 1 (t_box (o_t 0 rfl) rfl rfl) rfl rfl hL fun a s e_ hL => ?_
  refine st 2 (t_assign (o_i (by decide)) rfl rfl) rfl rfl hL fun a s e_ hL => ?_
  refine st 3 (t_assign o_b rfl rfl) rfl rfl hL fun a s e_ hL => ?_
  refine en' ?_
  show K1 a s.w
  refine hK1 _ _ ?_
  refine wp_seq_k fun K2 hK2 => ?_
  refine wp_seq_k fun K3 hK3 => ?_
  refine rg ?_
  refine st 4 (t_assign (o_i (by decide)) rfl rfl) rfl rfl hL fun a s e_ hL => ?_
  refine en' ?_
  show K3 a s.w
  refine hK3 _ _ ?_
  refine wp_block ?_
  have J4 : ∀ (a : Act) (s : St), Has N0 37 s0 a s [] → ((ref08_First.j1 r_)) → K2 a s.w := by
    intro a s hL h
    unfold ref08_First.j1 at h
    show K2 a s.w
    refine hK2 _ _ ?_
    refine wp_seq_k fun K5 hK5 => ?_
    refine rg ?_
    refine st 2 (t_assign (o_i (by decide)) rfl rfl) rfl rfl hL fun a s e_ hL => ?_
    refine st 3 (t_assign o_b rfl rfl) rfl rfl hL fun a s e_ hL => ?_
    refine en' ?_
    show K5 a s.w
    refine hK5 _ _ ?_
    subst h
    exact wp_ret (ret2 rfl hL rfl rfl)
  obtain ⟨k7, h⟩ := h
  refine lpg (fun k8 a s => ∃ (i6 : Int), Has N0 37 s0 a s [(1, (Pd.ptr En.SDesc d_)), (4, (Pd.rep (En.int .i64) i6))] ∧ ref08_First.l1 d_ r_ (ref08_First.j1 r_) k8 i6) k7 ⟨0, hL.keep (.cons (t := 1) rfl (fun _ h_ => h_.elim) (.cons (t := 4) rfl (fun _ h_ => h_.elim) .nil)), h⟩ ?_
  rintro k8 a s ⟨i6, hL, h⟩ KL9 hKL9
  cases k8 with
  | zero => exact h.elim
  | succ k8 =>
  unfold ref08_First.l1 at h
  refine wp_seq_k fun K10 hK10 => ?_
  refine wp_seq_k fun K11 hK11 => ?_
  refine rg ?_
  refine st 6 (t_move (o_t 4 rfl) rfl rfl) rfl rfl hL fun a s e_ hL => ?_
  refine st 7 (t_fa (off := 0) (o_t 1 rfl) Tryd.underlying24 rfl (prt_solo (prt_all _ _)) rfl ty22 rfl rfl) rfl rfl hL fun a s e_ hL => ?_
  refine st 8 (t_load ty22 (o_t 7 rfl) rfl rfl) rfl rfl hL fun a s e_ hL => ?_
  refine st 9 (t_len (o_t 8 rfl) Tryd.underlying22 rfl rfl) rfl rfl hL fun a s e_ hL => ?_
  refine st 10 (t_lss (o_t 6 rfl) (o_t 9 rfl) rfl rfl) rfl rfl hL fun a s e_ hL => ?_
  refine en' ?_
  show K11 a s.w
  refine hK11 _ _ ?_
  refine cnd hL rfl (fun hb_ => ?_) (fun hb_ => ?_)
  · replace h := h.1 hb_
    refine wp_skip ?_
    show K10 a s.w
    refine hK10 _ _ ?_
    refine wp_seq_k fun K12 hK12 => ?_
    refine wp_block ?_
    refine wp_seq_k fun K13 hK13 => ?_
    obtain ⟨e14, h15, h⟩ := h
    refine rg ?_
    refine st 13 (t_fa (off := 0) (o_t 1 rfl) Tryd.underlying24 rfl (prt_solo (prt_all _ _)) rfl ty22 rfl rfl) rfl rfl hL fun a s e_ hL => ?_
    refine st 14 (t_load ty22 (o_t 13 rfl) rfl rfl) rfl rfl hL fun a s e_ hL => ?_
    refine st 15 (t_move (o_t 4 rfl) rfl rfl) rfl rfl hL fun a s e_ hL => ?_
    refine st 16 (t_idx (o_t 14 rfl) (o_t 15 rfl) h15 Tryd.underlying22 ty69 rfl rfl) rfl rfl hL fun a s e_ hL => ?_
    refine st 17 (t_fa (off := 0) (o_t 16 rfl) Tryd.underlying69 rfl (prt_fst (prt_all _ _)) rfl ty3 rfl rfl) rfl rfl hL fun a s e_ hL => ?_
    refine st 18 (t_load ty3 (o_t 17 rfl) rfl rfl) rfl rfl hL fun a s e_ hL => ?_
    refine st 5 (t_assign (o_t 18 rfl) rfl rfl) rfl rfl hL fun a s e_ hL => ?_
    refine en' ?_
    show K13 a s.w
    refine hK13 _ _ ?_
    refine wp_seq_k fun K16 hK16 => ?_
    obtain ⟨e17, h18, r19, h20, h⟩ := h
    refine rda follows 17 [(Pd.rep (En.int .i64) e14.1), (Pd.rep En.bool (e14.1 == 6)), (Pd.rep En.bool (e14.1 == 6)), (Pd.when (((e14.1 == 6)) = false) (Pd.rep (En.int .i64) e14.1)), (Pd.when (((e14.1 == 6)) = false) (Pd.rep En.bool (e14.1 == 7))), (Pd.rep En.bool ((e14.1 == 6) || (e14.1 == 7))), (Pd.rep En.bool ((e14.1 == 6) || (e14.1 == 7))), (Pd.when ((((e14.1 == 6) || (e14.1 == 7))) = true) (Pd.rep En.SDesc d_)), (Pd.when ((((e14.1 == 6) || (e14.1 == 7))) = true) (Pd.ptr (En.slice En.SNode) d_)), (Pd.when ((((e14.1 == 6) || (e14.1 == 7))) = true) (Pd.rep (En.slice En.SNode) d_)), (Pd.when ((((e14.1 == 6) || (e14.1 == 7))) = true) (Pd.rep (En.int .i64) i6)), (Pd.when ((((e14.1 == 6) || (e14.1 == 7))) = true) (Pd.ptr En.SNode e17)), (Pd.when ((((e14.1 == 6) || (e14.1 == 7))) = true) (Pd.ptr (En.int .i64) e17.2.1)), (Pd.when ((((e14.1 == 6) || (e14.1 == 7))) = true) (Pd.rep (En.int .i64) e17.2.1)), (Pd.when ((((e14.1 == 6) || (e14.1 == 7))) = true) (Pd.rep (En.int .i64) r19)), (Pd.when ((((e14.1 == 6) || (e14.1 == 7))) = true) (Pd.rep En.bool (r19 != 0))), (Pd.rep En.bool (((e14.1 == 6) || (e14.1 == 7)) && (r19 != 0)))] hL (by kernel_rfl) rfl rfl ?_ ?_
    · refine AllT.cons (t_move (o_t 5 rfl) rfl rfl) ?_
      refine AllT.cons (t_eqi (o_t 19 rfl) (o_i (by decide)) rfl rfl) ?_
      refine AllT.cons (t_move (o_t 20 rfl) rfl rfl) ?_
      refine AllT.cons (t_g1 rfl rfl rfl (fun hc_ => t_move (o_t 5 rfl) rfl rfl)) ?_
      refine AllT.cons (t_g1 rfl rfl rfl (fun hc_ => t_eqi (o_w hc_ 22 rfl) (o_i (by decide)) rfl rfl)) ?_
      refine AllT.cons (t_or (o_t 21 rfl) (fun hc2_ => (o_w hc2_ 23 rfl)) rfl rfl) ?_
      refine AllT.cons (t_move (o_t 24 rfl) rfl rfl) ?_
      refine AllT.cons (t_g1 rfl rfl rfl (fun hc_ => t_load ty24 (o_t 1 rfl) rfl rfl)) ?_
      refine AllT.cons (t_g1 rfl rfl rfl (fun hc_ => t_fa (off := 0) (o_t 1 rfl) Tryd.underlying24 rfl (prt_solo (prt_all _ _)) rfl ty22 rfl rfl)) ?_
      refine AllT.cons (t_g1 rfl rfl rfl (fun hc_ => t_load ty22 (o_w hc_ 27 rfl) rfl rfl)) ?_
      refine AllT.cons (t_g1 rfl rfl rfl (fun hc_ => t_move (o_t 4 rfl) rfl rfl)) ?_
      refine AllT.cons (t_g1 rfl rfl rfl (fun hc_ => t_idx (o_w hc_ 28 rfl) (o_w hc_ 29 rfl) (h18 hc_) Tryd.underlying22 ty69 rfl rfl)) ?_
      refine AllT.cons (t_g1 rfl rfl rfl (fun hc_ => t_fa (off := 1) (o_w hc_ 30 rfl) Tryd.underlying69 rfl (prt_snd (prt_fst (prt_all _ _)) rfl) rfl ty3 rfl rfl)) ?_
      refine AllT.cons (t_g1 rfl rfl rfl (fun hc_ => t_load ty3 (o_w hc_ 31 rfl) rfl rfl)) ?_
      refine AllT.cons (t_g1 rfl rfl rfl (fun hc_ => t_call (ref08_Ways_ok (h20 hc_)) (xs := [.tmp 26, .tmp 32]) (.cons (o_w hc_ 26 rfl) (.cons (o_w hc_ 32 rfl) .nil)) rfl rfl)) ?_
      refine AllT.cons (t_g1 rfl rfl rfl (fun hc_ => t_nei (o_w hc_ 33 rfl) (o_i (by decide)) rfl rfl)) ?_
      refine AllT.cons (t_and (o_t 25 rfl) (fun hc2_ => (o_w hc2_ 34 rfl)) rfl rfl) ?_
      exact AllT.nil
    intro a s e_ hL
    refine en' ?_
    show K16 a s.w
    refine hK16 _ _ ?_
    refine cnd hL rfl (fun hb_ => ?_) (fun hb_ => ?_)
    · replace h := h.1 hb_
      refine wp_seq_k fun K21 hK21 => ?_
      refine rg ?_
      refine st 36 (t_move (o_t 4 rfl) rfl rfl) rfl rfl hL fun a s e_ hL => ?_
      refine st 2 (t_assign (o_t 36 rfl) rfl rfl) rfl rfl hL fun a s e_ hL => ?_
      refine st 3 (t_assign o_b rfl rfl) rfl rfl hL fun a s e_ hL => ?_
      refine en' ?_
      show K21 a s.w
      refine hK21 _ _ ?_
      subst h
      exact wp_ret (ret2 rfl hL rfl rfl)
    · replace h := h.2 hb_
      refine wp_skip ?_
      show K12 a s.w
      refine hK12 _ _ ?_
      obtain ⟨h22, h⟩ := h
      refine rg ?_
      refine st 11 (t_move (o_t 4 rfl) rfl rfl) rfl rfl hL fun a s e_ hL => ?_
      refine st 12 (t_add (o_t 11 rfl) (o_i (by decide)) h22 rfl rfl) rfl rfl hL fun a s e_ hL => ?_
      refine st 4 (t_assign (o_t 12 rfl) rfl rfl) rfl rfl hL fun a s e_ hL => ?_
      refine en' ?_
      exact hKL9 k8 a s (Nat.lt_succ_self _) ⟨(i6 + 1), hL.keep (.cons (t := 1) rfl (fun _ h_ => h_.elim) (.cons (t := 4) rfl (fun _ h_ => h_.elim) .nil)), h⟩
  · replace h := h.2 hb_
    refine wp_exit ?_
    exact J4 a s (hL.keep .nil) h

theorem ref08_Right_ok {d_ : SDesc} {r_ : Bool} (h : ref08_Right d_ r_) : Fn Tryd.prog 14 [(Pd.rep En.SDesc d_)] (Rq (Pd.rep En.bool r_)) := by
  unfold ref08_Right at h
  refine fn_of Tryd.func14 rfl Tryd.ntmps14 (by rfl) (by simp) fun s0 a hL => ?_
  refine wp_seq_k fun K1 hK1 => ?_
  refine rg ?_
  refine st 1 (t_box (o_t 0 rfl) rfl rfl) rfl rfl hL fun a s e_ hL => ?_
  refine st 2 (t_assign o_b rfl rfl) rfl rfl hL fun a s e_ hL => ?_
  refine en' ?_
  show K1 a s.w
  refine hK1 _ _ ?_
  refine wp_seq_k fun K2 hK2 => ?_
  refine wp_seq_k fun K3 hK3 => ?_
  obtain ⟨r4, h5, h⟩ := h
  refine rg ?_
  refine st 5 (t_load ty24 (o_t 1 rfl) rfl rfl) rfl rfl hL fun a s e_ hL => ?_
  refine st 6 (t_call (ref04_Form_ok h5) (xs := [.tmp 5]) (.cons (o_t 5 rfl) .nil) rfl rfl) rfl rfl hL fun a s e_ hL => ?_
  refine st 7 (t_not (o_t 6 rfl) rfl rfl) rfl rfl hL fun a s e_ hL => ?_
  refine en' ?_
  show K3 a s.w
  refine hK3 _ _ ?_
  refine cnd hL rfl (fun hb_ => ?_) (fun hb_ => ?_)
  · replace h := h.1 hb_
    refine wp_seq_k fun K6 hK6 => ?_
    refine rg ?_
    refine st 2 (t_assign o_b rfl rfl) rfl rfl hL fun a s e_ hL => ?_
    refine en' ?_
    show K6 a s.w
    refine hK6 _ _ ?_
    subst h
    exact wp_ret (retq rfl hL rfl)
  · replace h := h.2 hb_
    refine wp_skip ?_
    show K2 a s.w
    refine hK2 _ _ ?_
    refine wp_seq_k fun K7 hK7 => ?_
    obtain ⟨r8, h9, h⟩ := h
    refine rg ?_
    refine st 9 (t_load ty24 (o_t 1 rfl) rfl rfl) rfl rfl hL fun a s e_ hL => ?_
    refine st 10 (t_call ((ref08_First_ok h9).tup) (xs := [.tmp 9]) (.cons (o_t 9 rfl) .nil) rfl rfl) rfl rfl hL fun a s e_ hL => ?_
    refine st 8 (t_move (o_t 10 rfl) rfl rfl) rfl rfl hL fun a s e_ hL => ?_
    refine st 11 (t_ext0 (o_t 8 rfl) rfl rfl) rfl rfl hL fun a s e_ hL => ?_
    refine st 12 (t_ext1 (o_t 8 rfl) rfl rfl) rfl rfl hL fun a s e_ hL => ?_
    refine st 3 (t_assign (o_t 11 rfl) rfl rfl) rfl rfl hL fun a s e_ hL => ?_
    refine st 4 (t_assign (o_t 12 rfl) rfl rfl) rfl rfl hL fun a s e_ hL => ?_
    refine en' ?_
    show K7 a s.w
    refine hK7 _ _ ?_
    refine wp_seq_k fun K10 hK10 => ?_
    refine rg ?_
    refine st 13 (t_move (o_t 4 rfl) rfl rfl) rfl rfl hL fun a s e_ hL => ?_
    refine st 14 (t_not (o_t 13 rfl) rfl rfl) rfl rfl hL fun a s e_ hL => ?_
    refine st 2 (t_assign (o_t 14 rfl) rfl rfl) rfl rfl hL fun a s e_ hL => ?_
    refine en' ?_
    show K10 a s.w
    refine hK10 _ _ ?_
    subst h
    exact wp_ret (retq rfl hL rfl)
end Go.Proofs.YtdfnbogkniikbaaDoor.V
