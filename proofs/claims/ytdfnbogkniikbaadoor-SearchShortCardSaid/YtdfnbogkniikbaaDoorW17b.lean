/- The walks of the functions of layer 17 (by gen.py). -/
import Derived.Test.YtdfnbogkniikbaaDoorW17a
import Derived.Test.YtdfnbogkniikbaaDoorR17
namespace Go.Proofs.YtdfnbogkniikbaaDoor.V
open Go
set_option linter.unusedVariables false
set_option maxRecDepth 100000
theorem ref17_Things_ok {t_ : STable} {r_ : (List SThing_ref17)} (h : ref17_Things t_ r_) : Fn Tryd.prog 29 [(Pd.rep En.STable t_)] (Ro En.SThing_ref17 53 r_) := by
  unfold ref17_Things at h
  refine fn_of Tryd.func29 rfl Tryd.ntmps29 (by rfl) (by simp) fun s0 a hL => ?_
  refine wp_seq_k fun K1 hK1 => ?_
  refine rg ?_
  refine st 1 (t_box (o_t 0 rfl) rfl rfl) rfl rfl hL fun a s e_ hL => ?_
  refine st 2 (t_assign (o_nil (E := En.SThing_ref17) (N := s0.w.heap.size) (te := 53)) rfl rfl) rfl rfl hL fun a s e_ hL => ?_
  refine en' ?_
  show K1 a s.w
  refine hK1 _ _ ?_
  refine wp_seq_k fun K2 hK2 => ?_
  refine rg ?_
  refine st 9 (t_build (x := (0, [])) (ps := []) tyz53 rfl stt53 .nil rfl rfl) rfl rfl hL fun a s e_ hL => ?_
  refine st_lito (xs := [.tmp 9]) 10 hL (.cons (o_t 9 rfl) .nil) Tryd.underlying49 ty53 rfl rfl (by decide) rfl rfl rfl rfl fun a s g3 hg_ hL => ?_
  refine st 3 (t_assign (o_t 10 rfl) rfl rfl) rfl rfl hL fun a s e_ hL => ?_
  refine en' ?_
  show K2 a s.w
  refine hK2 _ _ ?_
  refine wp_seq_k fun K4 hK4 => ?_
  refine wp_seq_k fun K5 hK5 => ?_
  refine rg ?_
  refine st 4 (t_assign (o_i (by decide)) rfl rfl) rfl rfl hL fun a s e_ hL => ?_
  refine en' ?_
  show K5 a s.w
  refine hK5 _ _ ?_
  refine wp_block ?_
  have J8 : ∀ (out6 : (List SThing_ref17)) (og7 : Option Nat) (a : Act) (s : St), Has N0 78 s0 a s [(3, (Pd.row En.SThing_ref17 s0.w.heap.size 53 og7 out6))] → ((ref17_Things.j1 r_) out6) → K4 a s.w := by
    intro out6 og7 a s hL h
    unfold ref17_Things.j1 at h
    show K4 a s.w
    refine hK4 _ _ ?_
    refine wp_seq_k fun K9 hK9 => ?_
    refine rg ?_
    refine st 77 (t_move (o_t 3 rfl) rfl rfl) rfl rfl hL fun a s e_ hL => ?_
    refine st 2 (t_assign (o_t 77 rfl) rfl rfl) rfl rfl hL fun a s e_ hL => ?_
    refine en' ?_
    show K9 a s.w
    refine hK9 _ _ ?_
    subst h
    exact wp_ret (reto rfl hL rfl)
  obtain ⟨k13, h⟩ := h
  refine lpg (fun k14 a s => ∃ (out10 : (List SThing_ref17)) (i12 : Int) (og11 : Option Nat), Has N0 78 s0 a s [(1, (Pd.ptr En.STable t_)), (3, (Pd.row En.SThing_ref17 s0.w.heap.size 53 og11 out10)), (4, (Pd.rep (En.int .i64) i12))] ∧ ref17_Things.l1 t_ (ref17_Things.j1 r_) k14 out10 i12) k13 ⟨[(0, [])], 0, (some g3), hL.keep (.cons (t := 1) rfl (fun _ h_ => h_.elim) (.cons (t := 3) rfl (fun _ _ h_ => h_) (.cons (t := 4) rfl (fun _ h_ => h_.elim) .nil))), h⟩ ?_
  rintro k14 a s ⟨out10, i12, og11, hL, h⟩ KL15 hKL15
  cases k14 with
  | zero => exact h.elim
  | succ k14 =>
  unfold ref17_Things.l1 at h
  refine wp_seq_k fun K16 hK16 => ?_
  refine wp_seq_k fun K17 hK17 => ?_
  refine rg ?_
  refine st 11 (t_move (o_t 4 rfl) rfl rfl) rfl rfl hL fun a s e_ hL => ?_
  refine st 12 (t_move (o_t 3 rfl) rfl rfl) rfl rfl hL fun a s e_ hL => ?_
  refine st 13 (t_leno (o_t 12 rfl) Tryd.underlying49 rfl rfl) rfl rfl hL fun a s e_ hL => ?_
  refine st 14 (t_lss (o_t 11 rfl) (o_t 13 rfl) rfl rfl) rfl rfl hL fun a s e_ hL => ?_
  refine en' ?_
  show K17 a s.w
  refine hK17 _ _ ?_
  refine cnd hL rfl (fun hb_ => ?_) (fun hb_ => ?_)
  · replace h := h.1 hb_
    refine wp_skip ?_
    show K16 a s.w
    refine hK16 _ _ ?_
    refine wp_seq_k fun K18 hK18 => ?_
    refine wp_block ?_
    refine wp_seq_k fun K19 hK19 => ?_
    obtain ⟨e20, h21, e22, h23, h⟩ := h
    refine rda follows 9 [(Pd.ptr (En.slice (En.slice En.SWay)) t_.1), (Pd.rep (En.slice (En.slice En.SWay)) t_.1), (Pd.row En.SThing_ref17 s0.w.heap.size 53 og11 out10), (Pd.rep (En.int .i64) i12), (Pd.optr En.SThing_ref17 s0.w.heap.size og11 ((i12 : Int).toNat * En.SThing_ref17.sz) e20), (Pd.optr (En.int .i64) s0.w.heap.size og11 ((i12 : Int).toNat * En.SThing_ref17.sz + 0) e20.1), (Pd.rep (En.int .i64) e20.1), (Pd.ptr (En.slice En.SWay) e22), (Pd.rep (En.slice En.SWay) e22)] hL (by kernel_rfl) rfl rfl ?_ ?_
    · refine AllT.cons (t_fa (off := 0) (o_t 1 rfl) Tryd.underlying45 rfl (prt_fst (prt_all _ _)) rfl ty42 rfl rfl) ?_
      refine AllT.cons (t_load ty42 (o_t 17 rfl) rfl rfl) ?_
      refine AllT.cons (t_move (o_t 3 rfl) rfl rfl) ?_
      refine AllT.cons (t_move (o_t 4 rfl) rfl rfl) ?_
      refine AllT.cons (t_idxo (o_t 19 rfl) (o_t 20 rfl) h21 Tryd.underlying49 ty53 rfl rfl) ?_
      refine AllT.cons (t_fao (off := 0) (o_t 21 rfl) Tryd.underlying53 rfl (prt_fst (prt_all _ _)) rfl ty3 rfl rfl) ?_
      refine AllT.cons (t_loado ty3 (o_t 22 rfl) rfl rfl) ?_
      refine AllT.cons (t_idx (o_t 18 rfl) (o_t 23 rfl) h23 Tryd.underlying42 ty60 rfl rfl) ?_
      refine AllT.cons (t_load ty60 (o_t 24 rfl) rfl rfl) ?_
      exact AllT.nil
    intro a s e_ hL
    refine st 5 (t_assign (o_t 25 rfl) rfl rfl) rfl rfl hL fun a s e_ hL => ?_
    refine en' ?_
    show K19 a s.w
    refine hK19 _ _ ?_
    refine wp_seq_k fun K24 hK24 => ?_
    refine rg ?_
    refine st 6 (t_assign (o_i (by decide)) rfl rfl) rfl rfl hL fun a s e_ hL => ?_
    refine en' ?_
    show K24 a s.w
    refine hK24 _ _ ?_
    refine wp_block ?_
    have J27 : ∀ (out25 : (List SThing_ref17)) (og26 : Option Nat) (a : Act) (s : St), Has N0 78 s0 a s [(1, (Pd.ptr En.STable t_)), (3, (Pd.row En.SThing_ref17 s0.w.heap.size 53 og26 out25)), (4, (Pd.rep (En.int .i64) i12))] → ((ref17_Things.j2 (ref17_Things.l1 t_ (ref17_Things.j1 r_) k14) i12) out25) → K18 a s.w := by
      intro out25 og26 a s hL h
      unfold ref17_Things.j2 at h
      show K18 a s.w
      refine hK18 _ _ ?_
      obtain ⟨h28, h⟩ := h
      refine rg ?_
      refine st 15 (t_move (o_t 4 rfl) rfl rfl) rfl rfl hL fun a s e_ hL => ?_
      refine st 16 (t_add (o_t 15 rfl) (o_i (by decide)) h28 rfl rfl) rfl rfl hL fun a s e_ hL => ?_
      refine st 4 (t_assign (o_t 16 rfl) rfl rfl) rfl rfl hL fun a s e_ hL => ?_
      refine en' ?_
      exact hKL15 k14 a s (Nat.lt_succ_self _) ⟨out25, (i12 + 1), og26, hL.keep (.cons (t := 1) rfl (fun _ h_ => h_.elim) (.cons (t := 3) rfl (fun _ _ h_ => h_) (.cons (t := 4) rfl (fun _ h_ => h_.elim) .nil))), h⟩
    obtain ⟨k32, h⟩ := h
    refine lpg (fun k33 a s => ∃ (out29 : (List SThing_ref17)) (k31 : Int) (og30 : Option Nat), Has N0 78 s0 a s [(1, (Pd.ptr En.STable t_)), (3, (Pd.row En.SThing_ref17 s0.w.heap.size 53 og30 out29)), (4, (Pd.rep (En.int .i64) i12)), (5, (Pd.rep (En.slice En.SWay) e22)), (6, (Pd.rep (En.int .i64) k31))] ∧ ref17_Things.l2 i12 e22 (ref17_Things.j2 (ref17_Things.l1 t_ (ref17_Things.j1 r_) k14) i12) k33 out29 k31) k32 ⟨out10, 0, og11, hL.keep (.cons (t := 1) rfl (fun _ h_ => h_.elim) (.cons (t := 3) rfl (fun _ _ h_ => h_) (.cons (t := 4) rfl (fun _ h_ => h_.elim) (.cons (t := 5) rfl (fun _ h_ => h_.elim) (.cons (t := 6) rfl (fun _ h_ => h_.elim) .nil))))), h⟩ ?_
    rintro k33 a s ⟨out29, k31, og30, hL, h⟩ KL34 hKL34
    cases k33 with
    | zero => exact h.elim
    | succ k33 =>
    unfold ref17_Things.l2 at h
    refine wp_seq_k fun K35 hK35 => ?_
    refine wp_seq_k fun K36 hK36 => ?_
    refine rg ?_
    refine st 26 (t_move (o_t 6 rfl) rfl rfl) rfl rfl hL fun a s e_ hL => ?_
    refine st 27 (t_move (o_t 5 rfl) rfl rfl) rfl rfl hL fun a s e_ hL => ?_
    refine st 28 (t_len (o_t 27 rfl) Tryd.underlying60 rfl rfl) rfl rfl hL fun a s e_ hL => ?_
    refine st 29 (t_lss (o_t 26 rfl) (o_t 28 rfl) rfl rfl) rfl rfl hL fun a s e_ hL => ?_
    refine en' ?_
    show K36 a s.w
    refine hK36 _ _ ?_
    refine cnd hL rfl (fun hb_ => ?_) (fun hb_ => ?_)
    · replace h := h.1 hb_
      refine wp_skip ?_
      show K35 a s.w
      refine hK35 _ _ ?_
      refine wp_seq_k fun K37 hK37 => ?_
      refine wp_block ?_
      refine wp_seq_k fun K38 hK38 => ?_
      refine rg ?_
      refine st 7 (t_assign o_b rfl rfl) rfl rfl hL fun a s e_ hL => ?_
      refine en' ?_
      show K38 a s.w
      refine hK38 _ _ ?_
      refine wp_seq_k fun K39 hK39 => ?_
      refine wp_seq_k fun K40 hK40 => ?_
      refine rg ?_
      refine st 8 (t_assign (o_i (by decide)) rfl rfl) rfl rfl hL fun a s e_ hL => ?_
      refine en' ?_
      show K40 a s.w
      refine hK40 _ _ ?_
      refine wp_block ?_
      have J42 : ∀ (there41 : Bool) (a : Act) (s : St), Has N0 78 s0 a s [(1, (Pd.ptr En.STable t_)), (3, (Pd.row En.SThing_ref17 s0.w.heap.size 53 og30 out29)), (4, (Pd.rep (En.int .i64) i12)), (5, (Pd.rep (En.slice En.SWay) e22)), (6, (Pd.rep (En.int .i64) k31)), (7, (Pd.rep En.bool there41))] → ((ref17_Things.j3 (ref17_Things.l2 i12 e22 (ref17_Things.j2 (ref17_Things.l1 t_ (ref17_Things.j1 r_) k14) i12) k33) i12 e22 out29 k31) there41) → K39 a s.w := by
        intro there41 a s hL h
        unfold ref17_Things.j3 at h
        show K39 a s.w
        refine hK39 _ _ ?_
        refine wp_seq_k fun K43 hK43 => ?_
        refine rg ?_
        refine st 52 (t_move (o_t 7 rfl) rfl rfl) rfl rfl hL fun a s e_ hL => ?_
        refine st 53 (t_not (o_t 52 rfl) rfl rfl) rfl rfl hL fun a s e_ hL => ?_
        refine en' ?_
        show K43 a s.w
        refine hK43 _ _ ?_
        refine cnd hL rfl (fun hb_ => ?_) (fun hb_ => ?_)
        · replace h := h.1 hb_
          obtain ⟨e46, h47, e48, h49, h50, e51, h52, h53, h58, h⟩ := h
          replace hL := hL.keep (L' := [(1, (Pd.ptr En.STable t_)), (3, (Pd.row En.SThing_ref17 s0.w.heap.size 53 og30 out29)), (4, (Pd.rep (En.int .i64) i12)), (5, (Pd.rep (En.slice En.SWay) e22)), (6, (Pd.rep (En.int .i64) k31))]) (.cons (t := 1) rfl (fun _ h_ => h_.elim) (.cons (t := 3) rfl (fun _ _ h_ => h_) (.cons (t := 4) rfl (fun _ h_ => h_.elim) (.cons (t := 5) rfl (fun _ h_ => h_.elim) (.cons (t := 6) rfl (fun _ h_ => h_.elim) .nil)))))
          obtain ⟨K44, hK44, nK44, hL⟩ := hL.mark 999983
          have lt45 : ∀ k, og30 = some k → k < K44 := by rw [hK44]; exact hL.rlt 3 rfl
          refine rdf 24 follows hL (by kernel_rfl) fun s e_ hL => ?_
          refine fl_take 0 54 hL (by rfl) (by kernel_rfl) (by kernel_rfl) (by kernel_rfl) (fun _ _ _ _ h => h) (q := (Pd.row En.SThing_ref17 s0.w.heap.size 53 og30 out29)) (y_move (o_t 3 rfl) rfl rfl) rfl rfl fun a hL => ?_
          refine rc_go 20 [(Pd.row En.SThing_ref17 s0.w.heap.size 53 og30 out29), (Pd.rep (En.slice En.SWay) e22), (Pd.rep (En.int .i64) k31), (Pd.ptr En.SWay e46), (Pd.ptr (En.int .i64) e46.2), (Pd.rep (En.int .i64) e46.2), (Pd.erow0 s0.w.heap.size K44 5), (Pd.row En.SThing_ref17 s0.w.heap.size 53 og30 out29), (Pd.rep (En.int .i64) i12), (Pd.optr En.SThing_ref17 s0.w.heap.size og30 ((i12 : Int).toNat * En.SThing_ref17.sz) e48), (Pd.optr (En.slice (En.int .u8)) s0.w.heap.size og30 ((i12 : Int).toNat * En.SThing_ref17.sz + 1) e48.2), (Pd.rep (En.slice (En.int .u8)) e48.2), (Pd.erow (En.int .u8) s0.w.heap.size K44 5 e48.2), (Pd.rep (En.slice En.SWay) e22), (Pd.rep (En.int .i64) k31), (Pd.ptr En.SWay e51), (Pd.ptr (En.int .u8) e51.1), (Pd.rep (En.int .u8) e51.1), (Pd.rep (En.slice (En.int .u8)) [e51.1]), (Pd.erow (En.int .u8) s0.w.heap.size K44 5 (e48.2 ++ [e51.1]))] [0] K44 [6, 12, 19] nK44 hL (.cons (t := 54) rfl (fun b_ h_ => Nat.not_le.2 (lt45 b_ h_)) (.cons (t := 999983) rfl (fun _ h_ => h_.elim) (.cons (t := 1) rfl (fun _ h_ => h_.elim) (.cons (t := 3) rfl (fun b_ h_ => Nat.not_le.2 (lt45 b_ h_)) (.cons (t := 4) rfl (fun _ h_ => h_.elim) (.cons (t := 5) rfl (fun _ h_ => h_.elim) (.cons (t := 6) rfl (fun _ h_ => h_.elim) .nil))))))) (by kernel_rfl) (by kernel_rfl) (by kernel_rfl) (by kernel_rfl) (.cons (i := 0) rfl rfl rfl rfl .nil) rfl rfl ?_ ?_
          · refine AllX.skip rfl (fun b_ h_ => Nat.not_le.2 (lt45 b_ h_)) ?_
            refine AllX.t (t_move (o_t 5 rfl) rfl rfl) (fun _ h_ => h_.elim) ?_
            refine AllX.t (t_move (o_t 6 rfl) rfl rfl) (fun _ h_ => h_.elim) ?_
            refine AllX.t (t_idx (o_t 55 rfl) (o_t 56 rfl) h47 Tryd.underlying60 ty62 rfl rfl) (fun _ h_ => h_.elim) ?_
            refine AllX.t (t_fa (off := 1) (o_t 57 rfl) Tryd.underlying62 rfl (prt_snd (prt_all _ _) rfl) rfl ty3 rfl rfl) (fun _ h_ => h_.elim) ?_
            refine AllX.t (t_load ty3 (o_t 58 rfl) rfl rfl) (fun _ h_ => h_.elim) ?_
            refine AllX.c (t_newx (En.int .u8) (K := K44) (m := 999983) rfl nK44 Tryd.underlying51 ty5 rfl rfl) rfl ?_
            refine AllX.t (t_move (o_t 3 rfl) rfl rfl) (fun b_ h_ => Nat.not_le.2 (lt45 b_ h_)) ?_
            refine AllX.t (t_move (o_t 4 rfl) rfl rfl) (fun _ h_ => h_.elim) ?_
            refine AllX.t (t_idxo (o_t 61 rfl) (o_t 62 rfl) h49 Tryd.underlying49 ty53 rfl rfl) (fun b_ h_ => Nat.not_le.2 (lt45 b_ h_)) ?_
            refine AllX.t (t_fao (off := 1) (o_t 63 rfl) Tryd.underlying53 rfl (prt_snd (prt_all _ _) rfl) rfl ty51 rfl rfl) (fun b_ h_ => Nat.not_le.2 (lt45 b_ h_)) ?_
            refine AllX.t (t_loado ty51 (o_t 64 rfl) rfl rfl) (fun _ h_ => h_.elim) ?_
            refine AllX.c (t_app0 (o_t 60 rfl) (o_t 65 rfl) Tryd.underlying51 ty5 h50 (m := 999983) rfl rfl rfl) rfl ?_
            refine AllX.t (t_move (o_t 5 rfl) rfl rfl) (fun _ h_ => h_.elim) ?_
            refine AllX.t (t_move (o_t 6 rfl) rfl rfl) (fun _ h_ => h_.elim) ?_
            refine AllX.t (t_idx (o_t 67 rfl) (o_t 68 rfl) h52 Tryd.underlying60 ty62 rfl rfl) (fun _ h_ => h_.elim) ?_
            refine AllX.t (t_fa (off := 0) (o_t 69 rfl) Tryd.underlying62 rfl (prt_fst (prt_all _ _)) rfl ty5 rfl rfl) (fun _ h_ => h_.elim) ?_
            refine AllX.t (t_load ty5 (o_t 70 rfl) rfl rfl) (fun _ h_ => h_.elim) ?_
            refine AllX.t (t_lit (xs := [.tmp 71]) (.cons (o_t 71 rfl) .nil) Tryd.underlying51 ty5 rfl rfl (by decide) rfl rfl) (fun _ h_ => h_.elim) ?_
            refine AllX.x (t_appx (o_t 66 rfl) (o_t 72 rfl) Tryd.underlying51 ty5 nK44 h53 (m := 999983) rfl rfl rfl) rfl ?_
            exact AllX.nil
          intro a s e_ hL
          obtain ⟨og54, hg_, hL⟩ := hL.openr 73 rfl
          have d55 : Dis og54 og30 := Dis.new hg_ lt45
          obtain ⟨s57, h56, hL⟩ := hL.freeze (L' := [(1, (Pd.ptr En.STable t_)), (3, (Pd.row En.SThing_ref17 s0.w.heap.size 53 og30 out29)), (4, (Pd.rep (En.int .i64) i12)), (5, (Pd.rep (En.slice En.SWay) e22)), (6, (Pd.rep (En.int .i64) k31)), (54, (Pd.row En.SThing_ref17 s0.w.heap.size 53 og30 out29)), (59, (Pd.rep (En.int .i64) e46.2))]) 73 rfl (.cons (t := 1) rfl (fun _ h_ => h_.elim) (.cons (t := 3) rfl (Dis.ow (Dis.symm d55)) (.cons (t := 4) rfl (fun _ h_ => h_.elim) (.cons (t := 5) rfl (fun _ h_ => h_.elim) (.cons (t := 6) rfl (fun _ h_ => h_.elim) (.cons (t := 54) rfl (Dis.ow (Dis.symm d55)) (.cons (t := 59) rfl (fun _ h_ => h_.elim) .nil)))))))
          rw [← h56]
          clear h56
          generalize s57 = s at *
          refine st 74 (t_build (x := (e46.2, e48.2 ++ [e51.1])) (ps := [(0, .tmp 59), (1, .tmp 73)]) tyz53 rfl stt53 (.cons (i := 0) (o_t 59 rfl) rfl (sub_fst (sub_all _ _ _)) (.cons (i := 1) (o_t 73 rfl) rfl (sub_snd (sub_all _ _ _) rfl) .nil)) rfl rfl) rfl rfl hL fun a s e_ hL => ?_
          refine st 75 (t_lit (xs := [.tmp 74]) (.cons (o_t 74 rfl) .nil) Tryd.underlying49 ty53 rfl rfl (by decide) rfl rfl) rfl rfl hL fun a s e_ hL => ?_
          refine st_app (L' := [(1, (Pd.ptr En.STable t_)), (4, (Pd.rep (En.int .i64) i12)), (5, (Pd.rep (En.slice En.SWay) e22)), (6, (Pd.rep (En.int .i64) k31))]) 76 hL (o_t 54 rfl) (o_t 75 rfl) Tryd.underlying49 ty53 h58 rfl rfl rfl rfl (.cons (t := 1) rfl (fun _ h_ => h_.elim) (.cons (t := 4) rfl (fun _ h_ => h_.elim) (.cons (t := 5) rfl (fun _ h_ => h_.elim) (.cons (t := 6) rfl (fun _ h_ => h_.elim) .nil)))) fun a s og59 hg_ hL => ?_
          refine st 3 (t_assign (o_t 76 rfl) rfl rfl) rfl rfl hL fun a s e_ hL => ?_
          refine en' ?_
          show K37 a s.w
          refine hK37 _ _ ?_
          obtain ⟨h60, h⟩ := h
          refine rg ?_
          refine st 30 (t_move (o_t 6 rfl) rfl rfl) rfl rfl hL fun a s e_ hL => ?_
          refine st 31 (t_add (o_t 30 rfl) (o_i (by decide)) h60 rfl rfl) rfl rfl hL fun a s e_ hL => ?_
          refine st 6 (t_assign (o_t 31 rfl) rfl rfl) rfl rfl hL fun a s e_ hL => ?_
          refine en' ?_
          exact hKL34 k33 a s (Nat.lt_succ_self _) ⟨(out29 ++ [(e46.2, e48.2 ++ [e51.1])]), (k31 + 1), og59, hL.keep (.cons (t := 1) rfl (fun _ h_ => h_.elim) (.cons (t := 3) rfl (fun _ _ h_ => h_) (.cons (t := 4) rfl (fun _ h_ => h_.elim) (.cons (t := 5) rfl (fun _ h_ => h_.elim) (.cons (t := 6) rfl (fun _ h_ => h_.elim) .nil))))), h⟩
        · replace h := h.2 hb_
          refine wp_skip ?_
          show K37 a s.w
          refine hK37 _ _ ?_
          obtain ⟨h61, h⟩ := h
          refine rg ?_
          refine st 30 (t_move (o_t 6 rfl) rfl rfl) rfl rfl hL fun a s e_ hL => ?_
          refine st 31 (t_add (o_t 30 rfl) (o_i (by decide)) h61 rfl rfl) rfl rfl hL fun a s e_ hL => ?_
          refine st 6 (t_assign (o_t 31 rfl) rfl rfl) rfl rfl hL fun a s e_ hL => ?_
          refine en' ?_
          exact hKL34 k33 a s (Nat.lt_succ_self _) ⟨out29, (k31 + 1), og30, hL.keep (.cons (t := 1) rfl (fun _ h_ => h_.elim) (.cons (t := 3) rfl (fun _ _ h_ => h_) (.cons (t := 4) rfl (fun _ h_ => h_.elim) (.cons (t := 5) rfl (fun _ h_ => h_.elim) (.cons (t := 6) rfl (fun _ h_ => h_.elim) .nil))))), h⟩
      obtain ⟨k64, h⟩ := h
      refine lpg (fun k65 a s => ∃ (there62 : Bool) (m63 : Int), Has N0 78 s0 a s [(1, (Pd.ptr En.STable t_)), (3, (Pd.row En.SThing_ref17 s0.w.heap.size 53 og30 out29)), (4, (Pd.rep (En.int .i64) i12)), (5, (Pd.rep (En.slice En.SWay) e22)), (6, (Pd.rep (En.int .i64) k31)), (7, (Pd.rep En.bool there62)), (8, (Pd.rep (En.int .i64) m63))] ∧ ref17_Things.l3 e22 out29 k31 (ref17_Things.j3 (ref17_Things.l2 i12 e22 (ref17_Things.j2 (ref17_Things.l1 t_ (ref17_Things.j1 r_) k14) i12) k33) i12 e22 out29 k31) k65 there62 m63) k64 ⟨false, 0, hL.keep (.cons (t := 1) rfl (fun _ h_ => h_.elim) (.cons (t := 3) rfl (fun _ _ h_ => h_) (.cons (t := 4) rfl (fun _ h_ => h_.elim) (.cons (t := 5) rfl (fun _ h_ => h_.elim) (.cons (t := 6) rfl (fun _ h_ => h_.elim) (.cons (t := 7) rfl (fun _ h_ => h_.elim) (.cons (t := 8) rfl (fun _ h_ => h_.elim) .nil))))))), h⟩ ?_
      rintro k65 a s ⟨there62, m63, hL, h⟩ KL66 hKL66
      cases k65 with
      | zero => exact h.elim
      | succ k65 =>
      unfold ref17_Things.l3 at h
      refine wp_seq_k fun K67 hK67 => ?_
      refine wp_seq_k fun K68 hK68 => ?_
      refine rg ?_
      refine st 32 (t_move (o_t 8 rfl) rfl rfl) rfl rfl hL fun a s e_ hL => ?_
      refine st 33 (t_move (o_t 3 rfl) rfl rfl) rfl rfl hL fun a s e_ hL => ?_
      refine st 34 (t_leno (o_t 33 rfl) Tryd.underlying49 rfl rfl) rfl rfl hL fun a s e_ hL => ?_
      refine st 35 (t_lss (o_t 32 rfl) (o_t 34 rfl) rfl rfl) rfl rfl hL fun a s e_ hL => ?_
      refine en' ?_
      show K68 a s.w
      refine hK68 _ _ ?_
      refine cnd hL rfl (fun hb_ => ?_) (fun hb_ => ?_)
      · replace h := h.1 hb_
        refine wp_skip ?_
        show K67 a s.w
        refine hK67 _ _ ?_
        refine wp_seq_k fun K69 hK69 => ?_
        refine wp_block ?_
        obtain ⟨e70, h71, e72, h73, h⟩ := h
        refine rda follows 14 [(Pd.rep En.bool there62), (Pd.rep En.bool there62), (Pd.when ((there62) = false) (Pd.row En.SThing_ref17 s0.w.heap.size 53 og30 out29)), (Pd.when ((there62) = false) (Pd.rep (En.int .i64) m63)), (Pd.when ((there62) = false) (Pd.optr En.SThing_ref17 s0.w.heap.size og30 ((m63 : Int).toNat * En.SThing_ref17.sz) e70)), (Pd.when ((there62) = false) (Pd.optr (En.int .i64) s0.w.heap.size og30 ((m63 : Int).toNat * En.SThing_ref17.sz + 0) e70.1)), (Pd.when ((there62) = false) (Pd.rep (En.int .i64) e70.1)), (Pd.when ((there62) = false) (Pd.rep (En.slice En.SWay) e22)), (Pd.when ((there62) = false) (Pd.rep (En.int .i64) k31)), (Pd.when ((there62) = false) (Pd.ptr En.SWay e72)), (Pd.when ((there62) = false) (Pd.ptr (En.int .i64) e72.2)), (Pd.when ((there62) = false) (Pd.rep (En.int .i64) e72.2)), (Pd.when ((there62) = false) (Pd.rep En.bool (e70.1 == e72.2))), (Pd.rep En.bool (there62 || (e70.1 == e72.2)))] hL (by kernel_rfl) rfl rfl ?_ ?_
        · refine AllT.cons (t_move (o_t 7 rfl) rfl rfl) ?_
          refine AllT.cons (t_move (o_t 38 rfl) rfl rfl) ?_
          refine AllT.cons (t_g1 rfl rfl rfl (fun hc_ => t_move (o_t 3 rfl) rfl rfl)) ?_
          refine AllT.cons (t_g1 rfl rfl rfl (fun hc_ => t_move (o_t 8 rfl) rfl rfl)) ?_
          refine AllT.cons (t_g1 rfl rfl rfl (fun hc_ => t_idxo (o_w hc_ 40 rfl) (o_w hc_ 41 rfl) (h71 hc_) Tryd.underlying49 ty53 rfl rfl)) ?_
          refine AllT.cons (t_g1 rfl rfl rfl (fun hc_ => t_fao (off := 0) (o_w hc_ 42 rfl) Tryd.underlying53 rfl (prt_fst (prt_all _ _)) rfl ty3 rfl rfl)) ?_
          refine AllT.cons (t_g1 rfl rfl rfl (fun hc_ => t_loado ty3 (o_w hc_ 43 rfl) rfl rfl)) ?_
          refine AllT.cons (t_g1 rfl rfl rfl (fun hc_ => t_move (o_t 5 rfl) rfl rfl)) ?_
          refine AllT.cons (t_g1 rfl rfl rfl (fun hc_ => t_move (o_t 6 rfl) rfl rfl)) ?_
          refine AllT.cons (t_g1 rfl rfl rfl (fun hc_ => t_idx (o_w hc_ 45 rfl) (o_w hc_ 46 rfl) (h73 hc_) Tryd.underlying60 ty62 rfl rfl)) ?_
          refine AllT.cons (t_g1 rfl rfl rfl (fun hc_ => t_fa (off := 1) (o_w hc_ 47 rfl) Tryd.underlying62 rfl (prt_snd (prt_all _ _) rfl) rfl ty3 rfl rfl)) ?_
          refine AllT.cons (t_g1 rfl rfl rfl (fun hc_ => t_load ty3 (o_w hc_ 48 rfl) rfl rfl)) ?_
          refine AllT.cons (t_g1 rfl rfl rfl (fun hc_ => t_eqi (o_w hc_ 44 rfl) (o_w hc_ 49 rfl) rfl rfl)) ?_
          refine AllT.cons (t_or (o_t 39 rfl) (fun hc2_ => (o_w hc2_ 50 rfl)) rfl rfl) ?_
          exact AllT.nil
        intro a s e_ hL
        refine st 7 (t_assign (o_t 51 rfl) rfl rfl) rfl rfl hL fun a s e_ hL => ?_
        refine en' ?_
        show K69 a s.w
        refine hK69 _ _ ?_
        obtain ⟨h74, h⟩ := h
        refine rg ?_
        refine st 36 (t_move (o_t 8 rfl) rfl rfl) rfl rfl hL fun a s e_ hL => ?_
        refine st 37 (t_add (o_t 36 rfl) (o_i (by decide)) h74 rfl rfl) rfl rfl hL fun a s e_ hL => ?_
        refine st 8 (t_assign (o_t 37 rfl) rfl rfl) rfl rfl hL fun a s e_ hL => ?_
        refine en' ?_
        exact hKL66 k65 a s (Nat.lt_succ_self _) ⟨(there62 || (e70.1 == e72.2)), (m63 + 1), hL.keep (.cons (t := 1) rfl (fun _ h_ => h_.elim) (.cons (t := 3) rfl (fun _ _ h_ => h_) (.cons (t := 4) rfl (fun _ h_ => h_.elim) (.cons (t := 5) rfl (fun _ h_ => h_.elim) (.cons (t := 6) rfl (fun _ h_ => h_.elim) (.cons (t := 7) rfl (fun _ h_ => h_.elim) (.cons (t := 8) rfl (fun _ h_ => h_.elim) .nil))))))), h⟩
      · replace h := h.2 hb_
        refine wp_exit ?_
        exact J42 there62 a s (hL.keep (.cons (t := 1) rfl (fun _ h_ => h_.elim) (.cons (t := 3) rfl (fun _ _ h_ => h_) (.cons (t := 4) rfl (fun _ h_ => h_.elim) (.cons (t := 5) rfl (fun _ h_ => h_.elim) (.cons (t := 6) rfl (fun _ h_ => h_.elim) (.cons (t := 7) rfl (fun _ h_ => h_.elim) .nil))))))) h
    · replace h := h.2 hb_
      refine wp_exit ?_
      exact J27 out29 og30 a s (hL.keep (.cons (t := 1) rfl (fun _ h_ => h_.elim) (.cons (t := 3) rfl (fun _ _ h_ => h_) (.cons (t := 4) rfl (fun _ h_ => h_.elim) .nil)))) h
  · replace h := h.2 hb_
    refine wp_exit ?_
    exact J8 out10 og11 a s (hL.keep (.cons (t := 3) rfl (fun _ _ h_ => h_) .nil)) h

theorem ref17_Find_ok {t_ : STable} {budget_ : Int} {r_ : SVerdict} (h : ref17_Find t_ budget_ r_) : Fn Tryd.prog 32 [(Pd.rep En.STable t_), (Pd.rep (En.int .i64) budget_)] (Rq (Pd.rep En.SVerdict r_)) := by
  unfold ref17_Find at h
  refine fn_of Tryd.func32 rfl Tryd.ntmps32 (by rfl) (by simp) fun s0 a hL => ?_
  refine wp_seq_k fun K1 hK1 => ?_
  refine rg ?_
  refine st 2 (t_box (o_t 0 rfl) rfl rfl) rfl rfl hL fun a s e_ hL => ?_
  refine st_alloc En.SVerdict (z := (0, [], [], 0, 0, 0, 0)) 4 hL tyz57 rfl rfl rfl rfl fun a s g2 hg_ hL => ?_
  refine en' ?_
  show K1 a s.w
  refine hK1 _ _ ?_
  refine wp_seq_k fun K3 hK3 => ?_
  obtain ⟨r4, h5, h⟩ := h
  refine rg ?_
  refine st 8 (t_load ty45 (o_t 2 rfl) rfl rfl) rfl rfl hL fun a s e_ hL => ?_
  refine st 9 (t_call ((ref17_Things_ok h5).frz) (xs := [.tmp 8]) (.cons (o_t 8 rfl) .nil) rfl rfl) rfl rfl hL fun a s e_ hL => ?_
  refine st 5 (t_assign (o_t 9 rfl) rfl rfl) rfl rfl hL fun a s e_ hL => ?_
  refine en' ?_
  show K3 a s.w
  refine hK3 _ _ ?_
  refine wp_seq_k fun K6 hK6 => ?_
  refine rg ?_
  refine st 10 (t_move (o_t 1 rfl) rfl rfl) rfl rfl hL fun a s e_ hL => ?_
  refine st 11 (t_max (o_i (by decide)) (o_t 10 rfl) rfl rfl) rfl rfl hL fun a s e_ hL => ?_
  refine st 6 (t_assign (o_t 11 rfl) rfl rfl) rfl rfl hL fun a s e_ hL => ?_
  refine en' ?_
  show K6 a s.w
  refine hK6 _ _ ?_
  refine wp_seq_k fun K7 hK7 => ?_
  refine wp_seq_k fun K8 hK8 => ?_
  refine rg ?_
  refine st 7 (t_assign (o_i (by decide)) rfl rfl) rfl rfl hL fun a s e_ hL => ?_
  refine en' ?_
  show K8 a s.w
  refine hK8 _ _ ?_
  refine wp_block ?_
  have J10 : ∀ (v9 : SVerdict) (a : Act) (s : St), Has N0 49 s0 a s [(4, (Pd.box En.SVerdict s0.w.heap.size g2 v9)), (5, (Pd.rep (En.slice En.SThing_ref17) r4)), (6, (Pd.rep (En.int .i64) (max 0 budget_)))] → ((ref17_Find.j1 budget_ r_ r4) v9) → K7 a s.w := by
    intro v9 a s hL h
    unfold ref17_Find.j1 at h
    show K7 a s.w
    refine hK7 _ _ ?_
    refine wp_seq_k fun K11 hK11 => ?_
    refine wp_seq_k fun K12 hK12 => ?_
    refine rg ?_
    refine st 40 (t_move (o_t 5 rfl) rfl rfl) rfl rfl hL fun a s e_ hL => ?_
    refine st 41 (t_len (o_t 40 rfl) Tryd.underlying49 rfl rfl) rfl rfl hL fun a s e_ hL => ?_
    refine st 42 (t_move (o_t 6 rfl) rfl rfl) rfl rfl hL fun a s e_ hL => ?_
    refine st 43 (t_leq (o_t 41 rfl) (o_t 42 rfl) rfl rfl) rfl rfl hL fun a s e_ hL => ?_
    refine en' ?_
    show K12 a s.w
    refine hK12 _ _ ?_
    refine cnd hL rfl (fun hb_ => ?_) (fun hb_ => ?_)
    · replace h := h.1 hb_
      refine wp_seq_k fun K13 hK13 => ?_
      refine rg ?_
      refine st 44 (t_move (o_t 5 rfl) rfl rfl) rfl rfl hL fun a s e_ hL => ?_
      refine st 45 (t_len (o_t 44 rfl) Tryd.underlying49 rfl rfl) rfl rfl hL fun a s e_ hL => ?_
      refine st 46 (t_build (x := (1, [], [], 0, 0, 0, (r4.length : Int))) (ps := [(0, .const (.int .i64 1)), (6, .tmp 45)]) tyz57 rfl stt57 (.cons (i := 0) (o_i (by decide)) rfl (sub_fst (sub_all _ _ _)) (.cons (i := 6) (o_t 45 rfl) rfl (sub_snd (sub_snd (sub_snd (sub_snd (sub_snd (sub_snd (sub_all _ _ _) rfl) rfl) rfl) rfl) rfl) rfl) .nil)) rfl rfl) rfl rfl hL fun a s e_ hL => ?_
      refine st_stb (L' := []) 4 hL rfl (o_t 46 rfl) ty57 rfl rfl rfl .nil fun s hL => ?_
      refine en' ?_
      show K13 a s.w
      refine hK13 _ _ ?_
      subst h
      exact wp_ret (retb rfl ty57 hL rfl)
    · replace h := h.2 hb_
      refine wp_skip ?_
      show K11 a s.w
      refine hK11 _ _ ?_
      refine wp_seq_k fun K14 hK14 => ?_
      refine rg ?_
      refine st 47 (t_move (o_t 6 rfl) rfl rfl) rfl rfl hL fun a s e_ hL => ?_
      refine st 48 (t_build (x := (3, [], [], 0, 0, 0, (max 0 budget_))) (ps := [(0, .const (.int .i64 3)), (6, .tmp 47)]) tyz57 rfl stt57 (.cons (i := 0) (o_i (by decide)) rfl (sub_fst (sub_all _ _ _)) (.cons (i := 6) (o_t 47 rfl) rfl (sub_snd (sub_snd (sub_snd (sub_snd (sub_snd (sub_snd (sub_all _ _ _) rfl) rfl) rfl) rfl) rfl) rfl) .nil)) rfl rfl) rfl rfl hL fun a s e_ hL => ?_
      refine st_stb (L' := []) 4 hL rfl (o_t 48 rfl) ty57 rfl rfl rfl .nil fun s hL => ?_
      refine en' ?_
      show K14 a s.w
      refine hK14 _ _ ?_
      subst h
      exact wp_ret (retb rfl ty57 hL rfl)
  obtain ⟨k17, h⟩ := h
  refine lpg (fun k18 a s => ∃ (v15 : SVerdict) (i16 : Int), Has N0 49 s0 a s [(2, (Pd.ptr En.STable t_)), (4, (Pd.box En.SVerdict s0.w.heap.size g2 v15)), (5, (Pd.rep (En.slice En.SThing_ref17) r4)), (6, (Pd.rep (En.int .i64) (max 0 budget_))), (7, (Pd.rep (En.int .i64) i16))] ∧ ref17_Find.l1 t_ budget_ r4 r_ (ref17_Find.j1 budget_ r_ r4) k18 v15 i16) k17 ⟨(0, [], [], 0, 0, 0, 0), 0, hL.keep (.cons (t := 2) rfl (fun _ h_ => h_.elim) (.cons (t := 4) rfl (fun _ _ h_ => h_) (.cons (t := 5) rfl (fun _ h_ => h_.elim) (.cons (t := 6) rfl (fun _ h_ => h_.elim) (.cons (t := 7) rfl (fun _ h_ => h_.elim) .nil))))), h⟩ ?_
  rintro k18 a s ⟨v15, i16, hL, h⟩ KL19 hKL19
  cases k18 with
  | zero => exact h.elim
  | succ k18 =>
  unfold ref17_Find.l1 at h
  refine wp_seq_k fun K20 hK20 => ?_
  refine wp_seq_k fun K21 hK21 => ?_
  obtain ⟨b22, h23, h⟩ := h
  refine rg ?_
  refine st 12 (t_move (o_t 7 rfl) rfl rfl) rfl rfl hL fun a s e_ hL => ?_
  refine st 13 (t_move (o_t 5 rfl) rfl rfl) rfl rfl hL fun a s e_ hL => ?_
  refine st 14 (t_len (o_t 13 rfl) Tryd.underlying49 rfl rfl) rfl rfl hL fun a s e_ hL => ?_
  refine st 15 (t_lss (o_t 12 rfl) (o_t 14 rfl) rfl rfl) rfl rfl hL fun a s e_ hL => ?_
  refine st 16 (t_move (o_t 15 rfl) rfl rfl) rfl rfl hL fun a s e_ hL => ?_
  refine st 17 (t_g1 rfl rfl rfl (fun hc_ => t_move (o_t 7 rfl) rfl rfl)) rfl rfl hL fun a s e_ hL => ?_
  refine st 18 (t_g1 rfl rfl rfl (fun hc_ => t_move (o_t 6 rfl) rfl rfl)) rfl rfl hL fun a s e_ hL => ?_
  refine st 19 (t_g1 rfl rfl rfl (fun hc_ => t_lss (o_w hc_ 17 rfl) (o_w hc_ 18 rfl) rfl rfl)) rfl rfl hL fun a s e_ hL => ?_
  refine st 20 (h23 ▸ (t_and (o_t 16 rfl) (fun hc2_ => (o_w hc2_ 19 rfl)) rfl rfl)) rfl rfl hL fun a s e_ hL => ?_
  refine en' ?_
  show K21 a s.w
  refine hK21 _ _ ?_
  refine cnd hL rfl (fun hb_ => ?_) (fun hb_ => ?_)
  · replace h := h.1 hb_
    refine wp_skip ?_
    show K20 a s.w
    refine hK20 _ _ ?_
    refine wp_seq_k fun K24 hK24 => ?_
    refine wp_block ?_
    refine wp_seq_k fun K25 hK25 => ?_
    obtain ⟨e26, h27, e28, h29, h⟩ := h
    refine rda follows 9 [(Pd.ptr (En.slice En.bool) t_.2), (Pd.rep (En.slice En.bool) t_.2), (Pd.rep (En.slice En.SThing_ref17) r4), (Pd.rep (En.int .i64) i16), (Pd.ptr En.SThing_ref17 e26), (Pd.ptr (En.int .i64) e26.1), (Pd.rep (En.int .i64) e26.1), (Pd.ptr En.bool e28), (Pd.rep En.bool e28)] hL (by kernel_rfl) rfl rfl ?_ ?_
    · refine AllT.cons (t_fa (off := 1) (o_t 2 rfl) Tryd.underlying45 rfl (prt_snd (prt_all _ _) rfl) rfl ty43 rfl rfl) ?_
      refine AllT.cons (t_load ty43 (o_t 23 rfl) rfl rfl) ?_
      refine AllT.cons (t_move (o_t 5 rfl) rfl rfl) ?_
      refine AllT.cons (t_move (o_t 7 rfl) rfl rfl) ?_
      refine AllT.cons (t_idx (o_t 25 rfl) (o_t 26 rfl) h27 Tryd.underlying49 ty53 rfl rfl) ?_
      refine AllT.cons (t_fa (off := 0) (o_t 27 rfl) Tryd.underlying53 rfl (prt_fst (prt_all _ _)) rfl ty3 rfl rfl) ?_
      refine AllT.cons (t_load ty3 (o_t 28 rfl) rfl rfl) ?_
      refine AllT.cons (t_idx (o_t 24 rfl) (o_t 29 rfl) h29 Tryd.underlying43 ty4 rfl rfl) ?_
      refine AllT.cons (t_load ty4 (o_t 30 rfl) rfl rfl) ?_
      exact AllT.nil
    intro a s e_ hL
    refine en' ?_
    show K25 a s.w
    refine hK25 _ _ ?_
    refine cnd hL rfl (fun hb_ => ?_) (fun hb_ => ?_)
    · replace h := h.1 hb_
      refine wp_seq_k fun K30 hK30 => ?_
      obtain ⟨e31, h32, h33, h⟩ := h
      refine rg ?_
      refine st 32 (t_move (o_t 5 rfl) rfl rfl) rfl rfl hL fun a s e_ hL => ?_
      refine st 33 (t_move (o_t 7 rfl) rfl rfl) rfl rfl hL fun a s e_ hL => ?_
      refine st 34 (t_idx (o_t 32 rfl) (o_t 33 rfl) h32 Tryd.underlying49 ty53 rfl rfl) rfl rfl hL fun a s e_ hL => ?_
      refine st 35 (t_fa (off := 1) (o_t 34 rfl) Tryd.underlying53 rfl (prt_snd (prt_all _ _) rfl) rfl ty51 rfl rfl) rfl rfl hL fun a s e_ hL => ?_
      refine st 36 (t_load ty51 (o_t 35 rfl) rfl rfl) rfl rfl hL fun a s e_ hL => ?_
      refine st 37 (t_move (o_t 7 rfl) rfl rfl) rfl rfl hL fun a s e_ hL => ?_
      refine st 38 (t_add (o_t 37 rfl) (o_i (by decide)) h33 rfl rfl) rfl rfl hL fun a s e_ hL => ?_
      refine st 39 (t_build (x := (2, e31.2, [], 0, 0, 0, i16 + 1)) (ps := [(0, .const (.int .i64 2)), (1, .tmp 36), (6, .tmp 38)]) tyz57 rfl stt57 (.cons (i := 0) (o_i (by decide)) rfl (sub_fst (sub_all _ _ _)) (.cons (i := 1) (o_t 36 rfl) rfl (sub_snd (sub_fst (sub_all _ _ _)) rfl) (.cons (i := 6) (o_t 38 rfl) rfl (sub_snd (sub_snd (sub_snd (sub_snd (sub_snd (sub_snd (sub_all _ _ _) rfl) rfl) rfl) rfl) rfl) rfl) .nil))) rfl rfl) rfl rfl hL fun a s e_ hL => ?_
      refine st_stb (L' := []) 4 hL rfl (o_t 39 rfl) ty57 rfl rfl rfl .nil fun s hL => ?_
      refine en' ?_
      show K30 a s.w
      refine hK30 _ _ ?_
      subst h
      exact wp_ret (retb rfl ty57 hL rfl)
    · replace h := h.2 hb_
      refine wp_skip ?_
      show K24 a s.w
      refine hK24 _ _ ?_
      obtain ⟨h34, h⟩ := h
      refine rg ?_
      refine st 21 (t_move (o_t 7 rfl) rfl rfl) rfl rfl hL fun a s e_ hL => ?_
      refine st 22 (t_add (o_t 21 rfl) (o_i (by decide)) h34 rfl rfl) rfl rfl hL fun a s e_ hL => ?_
      refine st 7 (t_assign (o_t 22 rfl) rfl rfl) rfl rfl hL fun a s e_ hL => ?_
      refine en' ?_
      exact hKL19 k18 a s (Nat.lt_succ_self _) ⟨v15, (i16 + 1), hL.keep (.cons (t := 2) rfl (fun _ h_ => h_.elim) (.cons (t := 4) rfl (fun _ _ h_ => h_) (.cons (t := 5) rfl (fun _ h_ => h_.elim) (.cons (t := 6) rfl (fun _ h_ => h_.elim) (.cons (t := 7) rfl (fun _ h_ => h_.elim) .nil))))), h⟩
  · replace h := h.2 hb_
    refine wp_exit ?_
    exact J10 v15 a s (hL.keep (.cons (t := 4) rfl (fun _ _ h_ => h_) (.cons (t := 5) rfl (fun _ h_ => h_.elim) (.cons (t := 6) rfl (fun _ h_ => h_.elim) .nil)))) h

theorem ref17_Same_ok {a_ : SVerdict} {b_ : SVerdict} {r_ : Bool} (h : ref17_Same a_ b_ r_) : Fn Tryd.prog 30 [(Pd.rep En.SVerdict a_), (Pd.rep En.SVerdict b_)] (Rq (Pd.rep En.bool r_)) := by
  unfold ref17_Same at h
  refine fn_of Tryd.func30 rfl Tryd.ntmps30 (by rfl) (by simp) fun s0 a hL => ?_
  refine wp_seq_k fun K1 hK1 => ?_
  refine rg ?_
  refine st 2 (t_box (o_t 0 rfl) rfl rfl) rfl rfl hL fun a s e_ hL => ?_
  refine st 3 (t_box (o_t 1 rfl) rfl rfl) rfl rfl hL fun a s e_ hL => ?_
  refine st 4 (t_assign o_b rfl rfl) rfl rfl hL fun a s e_ hL => ?_
  refine en' ?_
  show K1 a s.w
  refine hK1 _ _ ?_
  refine wp_seq_k fun K2 hK2 => ?_
  obtain ⟨r3, h4, r5, h6, b7, h8, b9, h10, h⟩ := h
  refine rg ?_
  refine st 5 (t_fa (off := 0) (o_t 2 rfl) Tryd.underlying57 rfl (prt_fst (prt_all _ _)) rfl ty3 rfl rfl) rfl rfl hL fun a s e_ hL => ?_
  refine st 6 (t_load ty3 (o_t 5 rfl) rfl rfl) rfl rfl hL fun a s e_ hL => ?_
  refine st 7 (t_fa (off := 0) (o_t 3 rfl) Tryd.underlying57 rfl (prt_fst (prt_all _ _)) rfl ty3 rfl rfl) rfl rfl hL fun a s e_ hL => ?_
  refine st 8 (t_load ty3 (o_t 7 rfl) rfl rfl) rfl rfl hL fun a s e_ hL => ?_
  refine st 9 (t_eqi (o_t 6 rfl) (o_t 8 rfl) rfl rfl) rfl rfl hL fun a s e_ hL => ?_
  refine st 10 (t_move (o_t 9 rfl) rfl rfl) rfl rfl hL fun a s e_ hL => ?_
  refine st 11 (t_g1 rfl rfl rfl (fun hc_ => t_fa (off := 1) (o_t 2 rfl) Tryd.underlying57 rfl (prt_snd (prt_fst (prt_all _ _)) rfl) rfl ty51 rfl rfl)) rfl rfl hL fun a s e_ hL => ?_
  refine st 12 (t_g1 rfl rfl rfl (fun hc_ => t_load ty51 (o_w hc_ 11 rfl) rfl rfl)) rfl rfl hL fun a s e_ hL => ?_
  refine st 13 (t_g1 rfl rfl rfl (fun hc_ => t_fa (off := 1) (o_t 3 rfl) Tryd.underlying57 rfl (prt_snd (prt_fst (prt_all _ _)) rfl) rfl ty51 rfl rfl)) rfl rfl hL fun a s e_ hL => ?_
  refine st 14 (t_g1 rfl rfl rfl (fun hc_ => t_load ty51 (o_w hc_ 13 rfl) rfl rfl)) rfl rfl hL fun a s e_ hL => ?_
  refine st 15 (t_g1 rfl rfl rfl (fun hc_ => t_call (ref02_Bytes_ok (h4 hc_)) (xs := [.tmp 12, .tmp 14]) (.cons (o_w hc_ 12 rfl) (.cons (o_w hc_ 14 rfl) .nil)) rfl rfl)) rfl rfl hL fun a s e_ hL => ?_
  refine st 16 (t_and (o_t 10 rfl) (fun hc2_ => (o_w hc2_ 15 rfl)) rfl rfl) rfl rfl hL fun a s e_ hL => ?_
  refine st 17 (t_move (o_t 16 rfl) rfl rfl) rfl rfl hL fun a s e_ hL => ?_
  refine st 18 (t_g1 rfl rfl rfl (fun hc_ => t_fa (off := 2) (o_t 2 rfl) Tryd.underlying57 rfl (prt_snd (prt_snd (prt_fst (prt_all _ _)) rfl) rfl) rfl ty51 rfl rfl)) rfl rfl hL fun a s e_ hL => ?_
  refine st 19 (t_g1 rfl rfl rfl (fun hc_ => t_load ty51 (o_w hc_ 18 rfl) rfl rfl)) rfl rfl hL fun a s e_ hL => ?_
  refine st 20 (t_g1 rfl rfl rfl (fun hc_ => t_fa (off := 2) (o_t 3 rfl) Tryd.underlying57 rfl (prt_snd (prt_snd (prt_fst (prt_all _ _)) rfl) rfl) rfl ty51 rfl rfl)) rfl rfl hL fun a s e_ hL => ?_
  refine st 21 (t_g1 rfl rfl rfl (fun hc_ => t_load ty51 (o_w hc_ 20 rfl) rfl rfl)) rfl rfl hL fun a s e_ hL => ?_
  refine st 22 (t_g1 rfl rfl rfl (fun hc_ => t_call (ref02_Bytes_ok (h6 hc_)) (xs := [.tmp 19, .tmp 21]) (.cons (o_w hc_ 19 rfl) (.cons (o_w hc_ 21 rfl) .nil)) rfl rfl)) rfl rfl hL fun a s e_ hL => ?_
  refine st 23 (t_and (o_t 17 rfl) (fun hc2_ => (o_w hc2_ 22 rfl)) rfl rfl) rfl rfl hL fun a s e_ hL => ?_
  refine st 24 (t_move (o_t 23 rfl) rfl rfl) rfl rfl hL fun a s e_ hL => ?_
  refine st 25 (t_g1 rfl rfl rfl (fun hc_ => t_fa (off := 3) (o_t 2 rfl) Tryd.underlying57 rfl (prt_snd (prt_snd (prt_snd (prt_fst (prt_all _ _)) rfl) rfl) rfl) rfl ty55 rfl rfl)) rfl rfl hL fun a s e_ hL => ?_
  refine st 26 (t_g1 rfl rfl rfl (fun hc_ => t_load ty55 (o_w hc_ 25 rfl) rfl rfl)) rfl rfl hL fun a s e_ hL => ?_
  refine st 27 (t_g1 rfl rfl rfl (fun hc_ => t_fa (off := 3) (o_t 3 rfl) Tryd.underlying57 rfl (prt_snd (prt_snd (prt_snd (prt_fst (prt_all _ _)) rfl) rfl) rfl) rfl ty55 rfl rfl)) rfl rfl hL fun a s e_ hL => ?_
  refine st 28 (t_g1 rfl rfl rfl (fun hc_ => t_load ty55 (o_w hc_ 27 rfl) rfl rfl)) rfl rfl hL fun a s e_ hL => ?_
  refine st 29 (t_g1 rfl rfl rfl (fun hc_ => t_eqi (o_w hc_ 26 rfl) (o_w hc_ 28 rfl) rfl rfl)) rfl rfl hL fun a s e_ hL => ?_
  refine st 30 (h8 ▸ (t_and (o_t 24 rfl) (fun hc2_ => (o_w hc2_ 29 rfl)) rfl rfl)) rfl rfl hL fun a s e_ hL => ?_
  refine st 31 (t_move (o_t 30 rfl) rfl rfl) rfl rfl hL fun a s e_ hL => ?_
  refine st 32 (t_g1 rfl rfl rfl (fun hc_ => t_fa (off := 4) (o_t 2 rfl) Tryd.underlying57 rfl (prt_snd (prt_snd (prt_snd (prt_snd (prt_fst (prt_all _ _)) rfl) rfl) rfl) rfl) rfl ty3 rfl rfl)) rfl rfl hL fun a s e_ hL => ?_
  refine st 33 (t_g1 rfl rfl rfl (fun hc_ => t_load ty3 (o_w hc_ 32 rfl) rfl rfl)) rfl rfl hL fun a s e_ hL => ?_
  refine st 34 (t_g1 rfl rfl rfl (fun hc_ => t_fa (off := 4) (o_t 3 rfl) Tryd.underlying57 rfl (prt_snd (prt_snd (prt_snd (prt_snd (prt_fst (prt_all _ _)) rfl) rfl) rfl) rfl) rfl ty3 rfl rfl)) rfl rfl hL fun a s e_ hL => ?_
  refine st 35 (t_g1 rfl rfl rfl (fun hc_ => t_load ty3 (o_w hc_ 34 rfl) rfl rfl)) rfl rfl hL fun a s e_ hL => ?_
  refine st 36 (t_g1 rfl rfl rfl (fun hc_ => t_eqi (o_w hc_ 33 rfl) (o_w hc_ 35 rfl) rfl rfl)) rfl rfl hL fun a s e_ hL => ?_
  refine st 37 (t_and (o_t 31 rfl) (fun hc2_ => (o_w hc2_ 36 rfl)) rfl rfl) rfl rfl hL fun a s e_ hL => ?_
  refine st 38 (t_move (o_t 37 rfl) rfl rfl) rfl rfl hL fun a s e_ hL => ?_
  refine st 39 (t_g1 rfl rfl rfl (fun hc_ => t_fa (off := 5) (o_t 2 rfl) Tryd.underlying57 rfl (prt_snd (prt_snd (prt_snd (prt_snd (prt_snd (prt_fst (prt_all _ _)) rfl) rfl) rfl) rfl) rfl) rfl ty3 rfl rfl)) rfl rfl hL fun a s e_ hL => ?_
  refine st 40 (t_g1 rfl rfl rfl (fun hc_ => t_load ty3 (o_w hc_ 39 rfl) rfl rfl)) rfl rfl hL fun a s e_ hL => ?_
  refine st 41 (t_g1 rfl rfl rfl (fun hc_ => t_fa (off := 5) (o_t 3 rfl) Tryd.underlying57 rfl (prt_snd (prt_snd (prt_snd (prt_snd (prt_snd (prt_fst (prt_all _ _)) rfl) rfl) rfl) rfl) rfl) rfl ty3 rfl rfl)) rfl rfl hL fun a s e_ hL => ?_
  refine st 42 (t_g1 rfl rfl rfl (fun hc_ => t_load ty3 (o_w hc_ 41 rfl) rfl rfl)) rfl rfl hL fun a s e_ hL => ?_
  refine st 43 (t_g1 rfl rfl rfl (fun hc_ => t_eqi (o_w hc_ 40 rfl) (o_w hc_ 42 rfl) rfl rfl)) rfl rfl hL fun a s e_ hL => ?_
  refine st 44 (h10 ▸ (t_and (o_t 38 rfl) (fun hc2_ => (o_w hc2_ 43 rfl)) rfl rfl)) rfl rfl hL fun a s e_ hL => ?_
  refine st 45 (t_move (o_t 44 rfl) rfl rfl) rfl rfl hL fun a s e_ hL => ?_
  refine st 46 (t_g1 rfl rfl rfl (fun hc_ => t_fa (off := 6) (o_t 2 rfl) Tryd.underlying57 rfl (prt_snd (prt_snd (prt_snd (prt_snd (prt_snd (prt_snd (prt_all _ _) rfl) rfl) rfl) rfl) rfl) rfl) rfl ty3 rfl rfl)) rfl rfl hL fun a s e_ hL => ?_
  refine st 47 (t_g1 rfl rfl rfl (fun hc_ => t_load ty3 (o_w hc_ 46 rfl) rfl rfl)) rfl rfl hL fun a s e_ hL => ?_
  refine st 48 (t_g1 rfl rfl rfl (fun hc_ => t_fa (off := 6) (o_t 3 rfl) Tryd.underlying57 rfl (prt_snd (prt_snd (prt_snd (prt_snd (prt_snd (prt_snd (prt_all _ _) rfl) rfl) rfl) rfl) rfl) rfl) rfl ty3 rfl rfl)) rfl rfl hL fun a s e_ hL => ?_
  refine st 49 (t_g1 rfl rfl rfl (fun hc_ => t_load ty3 (o_w hc_ 48 rfl) rfl rfl)) rfl rfl hL fun a s e_ hL => ?_
  refine st 50 (t_g1 rfl rfl rfl (fun hc_ => t_eqi (o_w hc_ 47 rfl) (o_w hc_ 49 rfl) rfl rfl)) rfl rfl hL fun a s e_ hL => ?_
  refine st 51 (t_and (o_t 45 rfl) (fun hc2_ => (o_w hc2_ 50 rfl)) rfl rfl) rfl rfl hL fun a s e_ hL => ?_
  refine st 4 (t_assign (o_t 51 rfl) rfl rfl) rfl rfl hL fun a s e_ hL => ?_
  refine en' ?_
  show K2 a s.w
  refine hK2 _ _ ?_
  subst h
  exact wp_ret (retq rfl hL rfl)

theorem law17_SearchFinds_ok {t_ : STable} {budget_ : Int} {r_ : Bool} (h : law17_SearchFinds t_ budget_ r_) : Fn Tryd.prog 8 [(Pd.rep En.STable t_), (Pd.rep (En.int .i64) budget_)] (Rq (Pd.rep En.bool r_)) := by
  unfold law17_SearchFinds at h
  refine fn_of Tryd.func8 rfl Tryd.ntmps8 (by rfl) (by simp) fun s0 a hL => ?_
  refine wp_seq_k fun K1 hK1 => ?_
  refine rg ?_
  refine st 2 (t_box (o_t 0 rfl) rfl rfl) rfl rfl hL fun a s e_ hL => ?_
  refine st 4 (t_assign o_b rfl rfl) rfl rfl hL fun a s e_ hL => ?_
  refine en' ?_
  show K1 a s.w
  refine hK1 _ _ ?_
  refine wp_seq_k fun K2 hK2 => ?_
  refine wp_seq_k fun K3 hK3 => ?_
  obtain ⟨r4, h5, r6, h7, r8, h9, r10, h11, h⟩ := h
  refine rda follows 14 [(Pd.rep En.bool r4), (Pd.rep En.bool (!r4)), (Pd.rep En.bool (!r4)), (Pd.when (((!r4)) = false) (Pd.rep En.STable t_)), (Pd.when (((!r4)) = false) (Pd.rep En.bool r6)), (Pd.when (((!r4)) = false) (Pd.rep En.bool (!r6))), (Pd.rep En.bool ((!r4) || (!r6))), (Pd.rep En.bool ((!r4) || (!r6))), (Pd.when ((((!r4) || (!r6))) = false) (Pd.rep En.STable t_)), (Pd.when ((((!r4) || (!r6))) = false) (Pd.rep En.bool r8)), (Pd.when ((((!r4) || (!r6))) = false) (Pd.rep En.STable t_)), (Pd.when ((((!r4) || (!r6))) = false) (Pd.rep En.bool r10)), (Pd.when ((((!r4) || (!r6))) = false) (Pd.rep En.bool (r8 != r10))), (Pd.rep En.bool (((!r4) || (!r6)) || (r8 != r10)))] hL (by kernel_rfl) rfl rfl ?_ ?_
  · refine AllT.cons (t_call (law17_awake_ok h5) (xs := []) .nil rfl rfl) ?_
    refine AllT.cons (t_not (o_t 8 rfl) rfl rfl) ?_
    refine AllT.cons (t_move (o_t 9 rfl) rfl rfl) ?_
    refine AllT.cons (t_g1 rfl rfl rfl (fun hc_ => t_load ty45 (o_t 2 rfl) rfl rfl)) ?_
    refine AllT.cons (t_g1 rfl rfl rfl (fun hc_ => t_call (ref17_Few_ok (h7 hc_)) (xs := [.tmp 11]) (.cons (o_w hc_ 11 rfl) .nil) rfl rfl)) ?_
    refine AllT.cons (t_g1 rfl rfl rfl (fun hc_ => t_not (o_w hc_ 12 rfl) rfl rfl)) ?_
    refine AllT.cons (t_or (o_t 10 rfl) (fun hc2_ => (o_w hc2_ 13 rfl)) rfl rfl) ?_
    refine AllT.cons (t_move (o_t 14 rfl) rfl rfl) ?_
    refine AllT.cons (t_g1 rfl rfl rfl (fun hc_ => t_load ty45 (o_t 2 rfl) rfl rfl)) ?_
    refine AllT.cons (t_g1 rfl rfl rfl (fun hc_ => t_call (search_Form_ok (h9 hc_)) (xs := [.tmp 16]) (.cons (o_w hc_ 16 rfl) .nil) rfl rfl)) ?_
    refine AllT.cons (t_g1 rfl rfl rfl (fun hc_ => t_load ty45 (o_t 2 rfl) rfl rfl)) ?_
    refine AllT.cons (t_g1 rfl rfl rfl (fun hc_ => t_call (ref17_Form_ok (h11 hc_)) (xs := [.tmp 18]) (.cons (o_w hc_ 18 rfl) .nil) rfl rfl)) ?_
    refine AllT.cons (t_g1 rfl rfl rfl (fun hc_ => t_neb (o_w hc_ 17 rfl) (o_w hc_ 19 rfl) Tryd.underlying4 rfl rfl)) ?_
    refine AllT.cons (t_or (o_t 15 rfl) (fun hc2_ => (o_w hc2_ 20 rfl)) rfl rfl) ?_
    exact AllT.nil
  intro a s e_ hL
  refine en' ?_
  show K3 a s.w
  refine hK3 _ _ ?_
  refine cnd hL rfl (fun hb_ => ?_) (fun hb_ => ?_)
  · replace h := h.1 hb_
    refine wp_seq_k fun K12 hK12 => ?_
    obtain ⟨r13, h14, r15, h16, h⟩ := h
    refine rg ?_
    refine st 22 (t_call (law17_awake_ok h14) (xs := []) .nil rfl rfl) rfl rfl hL fun a s e_ hL => ?_
    refine st 23 (t_move (o_t 22 rfl) rfl rfl) rfl rfl hL fun a s e_ hL => ?_
    refine st 24 (t_g1 rfl rfl rfl (fun hc_ => t_load ty45 (o_t 2 rfl) rfl rfl)) rfl rfl hL fun a s e_ hL => ?_
    refine st 25 (t_g1 rfl rfl rfl (fun hc_ => t_call (ref17_Few_ok (h16 hc_)) (xs := [.tmp 24]) (.cons (o_w hc_ 24 rfl) .nil) rfl rfl)) rfl rfl hL fun a s e_ hL => ?_
    refine st 26 (t_g1 rfl rfl rfl (fun hc_ => t_not (o_w hc_ 25 rfl) rfl rfl)) rfl rfl hL fun a s e_ hL => ?_
    refine st 27 (t_and (o_t 23 rfl) (fun hc2_ => (o_w hc2_ 26 rfl)) rfl rfl) rfl rfl hL fun a s e_ hL => ?_
    refine st 4 (t_assign (o_t 27 rfl) rfl rfl) rfl rfl hL fun a s e_ hL => ?_
    refine en' ?_
    show K12 a s.w
    refine hK12 _ _ ?_
    subst h
    exact wp_ret (retq rfl hL rfl)
  · replace h := h.2 hb_
    refine wp_skip ?_
    show K2 a s.w
    refine hK2 _ _ ?_
    refine wp_seq_k fun K17 hK17 => ?_
    refine wp_seq_k fun K18 hK18 => ?_
    obtain ⟨r19, h20, h⟩ := h
    refine rg ?_
    refine st 28 (t_load ty45 (o_t 2 rfl) rfl rfl) rfl rfl hL fun a s e_ hL => ?_
    refine st 29 (t_call (ref17_Form_ok h20) (xs := [.tmp 28]) (.cons (o_t 28 rfl) .nil) rfl rfl) rfl rfl hL fun a s e_ hL => ?_
    refine st 30 (t_not (o_t 29 rfl) rfl rfl) rfl rfl hL fun a s e_ hL => ?_
    refine en' ?_
    show K18 a s.w
    refine hK18 _ _ ?_
    refine cnd hL rfl (fun hb_ => ?_) (fun hb_ => ?_)
    · replace h := h.1 hb_
      refine wp_seq_k fun K21 hK21 => ?_
      refine rg ?_
      refine st 4 (t_assign o_b rfl rfl) rfl rfl hL fun a s e_ hL => ?_
      refine en' ?_
      show K21 a s.w
      refine hK21 _ _ ?_
      subst h
      exact wp_ret (retq rfl hL rfl)
    · replace h := h.2 hb_
      refine wp_skip ?_
      show K17 a s.w
      refine hK17 _ _ ?_
      refine wp_seq_k fun K22 hK22 => ?_
      obtain ⟨r23, h24, h⟩ := h
      refine rg ?_
      refine st 31 (t_load ty45 (o_t 2 rfl) rfl rfl) rfl rfl hL fun a s e_ hL => ?_
      refine st 32 (t_call (search_Things_ok h24) (xs := [.tmp 31]) (.cons (o_t 31 rfl) .nil) rfl rfl) rfl rfl hL fun a s e_ hL => ?_
      refine st 5 (t_assign (o_t 32 rfl) rfl rfl) rfl rfl hL fun a s e_ hL => ?_
      refine en' ?_
      show K22 a s.w
      refine hK22 _ _ ?_
      refine wp_seq_k fun K25 hK25 => ?_
      obtain ⟨r26, h27, h⟩ := h
      refine rg ?_
      refine st 33 (t_load ty45 (o_t 2 rfl) rfl rfl) rfl rfl hL fun a s e_ hL => ?_
      refine st 34 (t_call ((ref17_Things_ok h27).frz) (xs := [.tmp 33]) (.cons (o_t 33 rfl) .nil) rfl rfl) rfl rfl hL fun a s e_ hL => ?_
      refine st 6 (t_assign (o_t 34 rfl) rfl rfl) rfl rfl hL fun a s e_ hL => ?_
      refine en' ?_
      show K25 a s.w
      refine hK25 _ _ ?_
      refine wp_seq_k fun K28 hK28 => ?_
      refine wp_seq_k fun K29 hK29 => ?_
      refine rg ?_
      refine st 35 (t_move (o_t 5 rfl) rfl rfl) rfl rfl hL fun a s e_ hL => ?_
      refine st 36 (t_len (o_t 35 rfl) Tryd.underlying47 rfl rfl) rfl rfl hL fun a s e_ hL => ?_
      refine st 37 (t_move (o_t 6 rfl) rfl rfl) rfl rfl hL fun a s e_ hL => ?_
      refine st 38 (t_len (o_t 37 rfl) Tryd.underlying49 rfl rfl) rfl rfl hL fun a s e_ hL => ?_
      refine st 39 (t_nei (o_t 36 rfl) (o_t 38 rfl) rfl rfl) rfl rfl hL fun a s e_ hL => ?_
      refine en' ?_
      show K29 a s.w
      refine hK29 _ _ ?_
      refine cnd hL rfl (fun hb_ => ?_) (fun hb_ => ?_)
      · replace h := h.1 hb_
        refine wp_seq_k fun K30 hK30 => ?_
        refine rg ?_
        refine st 4 (t_assign o_b rfl rfl) rfl rfl hL fun a s e_ hL => ?_
        refine en' ?_
        show K30 a s.w
        refine hK30 _ _ ?_
        subst h
        exact wp_ret (retq rfl hL rfl)
      · replace h := h.2 hb_
        refine wp_skip ?_
        show K28 a s.w
        refine hK28 _ _ ?_
        refine wp_seq_k fun K31 hK31 => ?_
        refine wp_seq_k fun K32 hK32 => ?_
        refine rg ?_
        refine st 7 (t_assign (o_i (by decide)) rfl rfl) rfl rfl hL fun a s e_ hL => ?_
        refine en' ?_
        show K32 a s.w
        refine hK32 _ _ ?_
        refine wp_block ?_
        have J33 : ∀ (a : Act) (s : St), Has N0 63 s0 a s [(1, (Pd.rep (En.int .i64) budget_)), (2, (Pd.ptr En.STable t_))] → ((law17_SearchFinds.j1 t_ budget_ r_)) → K31 a s.w := by
          intro a s hL h
          unfold law17_SearchFinds.j1 at h
          show K31 a s.w
          refine hK31 _ _ ?_
          refine wp_seq_k fun K34 hK34 => ?_
          obtain ⟨r35, h36, r37, h38, r39, h40, h⟩ := h
          refine rda follows 7 [(Pd.rep En.STable t_), (Pd.rep (En.int .i64) budget_), (Pd.rep En.SVerdict r35), (Pd.rep En.STable t_), (Pd.rep (En.int .i64) budget_), (Pd.rep En.SVerdict r37), (Pd.rep En.bool r39)] hL (by kernel_rfl) rfl rfl ?_ ?_
          · refine AllT.cons (t_load ty45 (o_t 2 rfl) rfl rfl) ?_
            refine AllT.cons (t_move (o_t 1 rfl) rfl rfl) ?_
            refine AllT.cons (t_call (search_Find_ok h36) (xs := [.tmp 56, .tmp 57]) (.cons (o_t 56 rfl) (.cons (o_t 57 rfl) .nil)) rfl rfl) ?_
            refine AllT.cons (t_load ty45 (o_t 2 rfl) rfl rfl) ?_
            refine AllT.cons (t_move (o_t 1 rfl) rfl rfl) ?_
            refine AllT.cons (t_call (ref17_Find_ok h38) (xs := [.tmp 59, .tmp 60]) (.cons (o_t 59 rfl) (.cons (o_t 60 rfl) .nil)) rfl rfl) ?_
            refine AllT.cons (t_call (ref17_Same_ok h40) (xs := [.tmp 58, .tmp 61]) (.cons (o_t 58 rfl) (.cons (o_t 61 rfl) .nil)) rfl rfl) ?_
            exact AllT.nil
          intro a s e_ hL
          refine st 4 (t_assign (o_t 62 rfl) rfl rfl) rfl rfl hL fun a s e_ hL => ?_
          refine en' ?_
          show K34 a s.w
          refine hK34 _ _ ?_
          subst h
          exact wp_ret (retq rfl hL rfl)
        obtain ⟨k42, h⟩ := h
        refine lpg (fun k43 a s => ∃ (i41 : Int), Has N0 63 s0 a s [(1, (Pd.rep (En.int .i64) budget_)), (2, (Pd.ptr En.STable t_)), (5, (Pd.rep (En.slice (En.int .i64)) r23)), (6, (Pd.rep (En.slice En.SThing_ref17) r26)), (7, (Pd.rep (En.int .i64) i41))] ∧ law17_SearchFinds.l1 r23 r26 r_ (law17_SearchFinds.j1 t_ budget_ r_) k43 i41) k42 ⟨0, hL.keep (.cons (t := 1) rfl (fun _ h_ => h_.elim) (.cons (t := 2) rfl (fun _ h_ => h_.elim) (.cons (t := 5) rfl (fun _ h_ => h_.elim) (.cons (t := 6) rfl (fun _ h_ => h_.elim) (.cons (t := 7) rfl (fun _ h_ => h_.elim) .nil))))), h⟩ ?_
        rintro k43 a s ⟨i41, hL, h⟩ KL44 hKL44
        cases k43 with
        | zero => exact h.elim
        | succ k43 =>
        unfold law17_SearchFinds.l1 at h
        refine wp_seq_k fun K45 hK45 => ?_
        refine wp_seq_k fun K46 hK46 => ?_
        refine rg ?_
        refine st 40 (t_move (o_t 7 rfl) rfl rfl) rfl rfl hL fun a s e_ hL => ?_
        refine st 41 (t_move (o_t 5 rfl) rfl rfl) rfl rfl hL fun a s e_ hL => ?_
        refine st 42 (t_len (o_t 41 rfl) Tryd.underlying47 rfl rfl) rfl rfl hL fun a s e_ hL => ?_
        refine st 43 (t_lss (o_t 40 rfl) (o_t 42 rfl) rfl rfl) rfl rfl hL fun a s e_ hL => ?_
        refine en' ?_
        show K46 a s.w
        refine hK46 _ _ ?_
        refine cnd hL rfl (fun hb_ => ?_) (fun hb_ => ?_)
        · replace h := h.1 hb_
          refine wp_skip ?_
          show K45 a s.w
          refine hK45 _ _ ?_
          refine wp_seq_k fun K47 hK47 => ?_
          refine wp_block ?_
          refine wp_seq_k fun K48 hK48 => ?_
          obtain ⟨e49, h50, e51, h52, h⟩ := h
          refine rda follows 10 [(Pd.rep (En.slice (En.int .i64)) r23), (Pd.rep (En.int .i64) i41), (Pd.ptr (En.int .i64) e49), (Pd.rep (En.int .i64) e49), (Pd.rep (En.slice En.SThing_ref17) r26), (Pd.rep (En.int .i64) i41), (Pd.ptr En.SThing_ref17 e51), (Pd.ptr (En.int .i64) e51.1), (Pd.rep (En.int .i64) e51.1), (Pd.rep En.bool (e49 != e51.1))] hL (by kernel_rfl) rfl rfl ?_ ?_
          · refine AllT.cons (t_move (o_t 5 rfl) rfl rfl) ?_
            refine AllT.cons (t_move (o_t 7 rfl) rfl rfl) ?_
            refine AllT.cons (t_idx (o_t 46 rfl) (o_t 47 rfl) h50 Tryd.underlying47 ty3 rfl rfl) ?_
            refine AllT.cons (t_load ty3 (o_t 48 rfl) rfl rfl) ?_
            refine AllT.cons (t_move (o_t 6 rfl) rfl rfl) ?_
            refine AllT.cons (t_move (o_t 7 rfl) rfl rfl) ?_
            refine AllT.cons (t_idx (o_t 50 rfl) (o_t 51 rfl) h52 Tryd.underlying49 ty53 rfl rfl) ?_
            refine AllT.cons (t_fa (off := 0) (o_t 52 rfl) Tryd.underlying53 rfl (prt_fst (prt_all _ _)) rfl ty3 rfl rfl) ?_
            refine AllT.cons (t_load ty3 (o_t 53 rfl) rfl rfl) ?_
            refine AllT.cons (t_nei (o_t 49 rfl) (o_t 54 rfl) rfl rfl) ?_
            exact AllT.nil
          intro a s e_ hL
          refine en' ?_
          show K48 a s.w
          refine hK48 _ _ ?_
          refine cnd hL rfl (fun hb_ => ?_) (fun hb_ => ?_)
          · replace h := h.1 hb_
            refine wp_seq_k fun K53 hK53 => ?_
            refine rg ?_
            refine st 4 (t_assign o_b rfl rfl) rfl rfl hL fun a s e_ hL => ?_
            refine en' ?_
            show K53 a s.w
            refine hK53 _ _ ?_
            subst h
            exact wp_ret (retq rfl hL rfl)
          · replace h := h.2 hb_
            refine wp_skip ?_
            show K47 a s.w
            refine hK47 _ _ ?_
            obtain ⟨h54, h⟩ := h
            refine rg ?_
            refine st 44 (t_move (o_t 7 rfl) rfl rfl) rfl rfl hL fun a s e_ hL => ?_
            refine st 45 (t_add (o_t 44 rfl) (o_i (by decide)) h54 rfl rfl) rfl rfl hL fun a s e_ hL => ?_
            refine st 7 (t_assign (o_t 45 rfl) rfl rfl) rfl rfl hL fun a s e_ hL => ?_
            refine en' ?_
            exact hKL44 k43 a s (Nat.lt_succ_self _) ⟨(i41 + 1), hL.keep (.cons (t := 1) rfl (fun _ h_ => h_.elim) (.cons (t := 2) rfl (fun _ h_ => h_.elim) (.cons (t := 5) rfl (fun _ h_ => h_.elim) (.cons (t := 6) rfl (fun _ h_ => h_.elim) (.cons (t := 7) rfl (fun _ h_ => h_.elim) .nil))))), h⟩
        · replace h := h.2 hb_
          refine wp_exit ?_
          exact J33 a s (hL.keep (.cons (t := 1) rfl (fun _ h_ => h_.elim) (.cons (t := 2) rfl (fun _ h_ => h_.elim) .nil))) h

theorem law17_SearchShort_ok {t_ : STable} {w_ : (List Int)} {r_ : Bool} (h : law17_SearchShort t_ w_ r_) : Fn Tryd.prog 9 [(Pd.rep En.STable t_), (Pd.rep (En.slice (En.int .u8)) w_)] (Rq (Pd.rep En.bool r_)) := by
  unfold law17_SearchShort at h
  refine fn_of Tryd.func9 rfl Tryd.ntmps9 (by rfl) (by simp) fun s0 a hL => ?_
  refine wp_seq_k fun K1 hK1 => ?_
  refine rg ?_
  refine st 2 (t_box (o_t 0 rfl) rfl rfl) rfl rfl hL fun a s e_ hL => ?_
  refine st 4 (t_assign o_b rfl rfl) rfl rfl hL fun a s e_ hL => ?_
  refine en' ?_
  show K1 a s.w
  refine hK1 _ _ ?_
  refine wp_seq_k fun K2 hK2 => ?_
  refine wp_seq_k fun K3 hK3 => ?_
  obtain ⟨r4, h5, r6, h7, r8, h9, b10, h11, h⟩ := h
  refine rg ?_
  refine st 12 (t_call (law17_awake_ok h5) (xs := []) .nil rfl rfl) rfl rfl hL fun a s e_ hL => ?_
  refine st 13 (t_not (o_t 12 rfl) rfl rfl) rfl rfl hL fun a s e_ hL => ?_
  refine st 14 (t_move (o_t 13 rfl) rfl rfl) rfl rfl hL fun a s e_ hL => ?_
  refine st 15 (t_g1 rfl rfl rfl (fun hc_ => t_load ty45 (o_t 2 rfl) rfl rfl)) rfl rfl hL fun a s e_ hL => ?_
  refine st 16 (t_g1 rfl rfl rfl (fun hc_ => t_call (ref17_Few_ok (h7 hc_)) (xs := [.tmp 15]) (.cons (o_w hc_ 15 rfl) .nil) rfl rfl)) rfl rfl hL fun a s e_ hL => ?_
  refine st 17 (t_g1 rfl rfl rfl (fun hc_ => t_not (o_w hc_ 16 rfl) rfl rfl)) rfl rfl hL fun a s e_ hL => ?_
  refine st 18 (t_or (o_t 14 rfl) (fun hc2_ => (o_w hc2_ 17 rfl)) rfl rfl) rfl rfl hL fun a s e_ hL => ?_
  refine st 19 (t_move (o_t 18 rfl) rfl rfl) rfl rfl hL fun a s e_ hL => ?_
  refine st 20 (t_g1 rfl rfl rfl (fun hc_ => t_load ty45 (o_t 2 rfl) rfl rfl)) rfl rfl hL fun a s e_ hL => ?_
  refine st 21 (t_g1 rfl rfl rfl (fun hc_ => t_call (ref17_Form_ok (h9 hc_)) (xs := [.tmp 20]) (.cons (o_w hc_ 20 rfl) .nil) rfl rfl)) rfl rfl hL fun a s e_ hL => ?_
  refine st 22 (t_g1 rfl rfl rfl (fun hc_ => t_not (o_w hc_ 21 rfl) rfl rfl)) rfl rfl hL fun a s e_ hL => ?_
  refine st 23 (t_or (o_t 19 rfl) (fun hc2_ => (o_w hc2_ 22 rfl)) rfl rfl) rfl rfl hL fun a s e_ hL => ?_
  refine st 24 (t_move (o_t 23 rfl) rfl rfl) rfl rfl hL fun a s e_ hL => ?_
  refine st 25 (t_g1 rfl rfl rfl (fun hc_ => t_move (o_t 1 rfl) rfl rfl)) rfl rfl hL fun a s e_ hL => ?_
  refine st 26 (t_g1 rfl rfl rfl (fun hc_ => t_len (o_w hc_ 25 rfl) Tryd.underlying51 rfl rfl)) rfl rfl hL fun a s e_ hL => ?_
  refine st 27 (t_g1 rfl rfl rfl (fun hc_ => t_gtr (o_w hc_ 26 rfl) (o_i (by decide)) rfl rfl)) rfl rfl hL fun a s e_ hL => ?_
  refine st 28 (h11 ▸ (t_or (o_t 24 rfl) (fun hc2_ => (o_w hc2_ 27 rfl)) rfl rfl)) rfl rfl hL fun a s e_ hL => ?_
  refine en' ?_
  show K3 a s.w
  refine hK3 _ _ ?_
  refine cnd hL rfl (fun hb_ => ?_) (fun hb_ => ?_)
  · replace h := h.1 hb_
    refine wp_seq_k fun K12 hK12 => ?_
    obtain ⟨r13, h14, h⟩ := h
    refine rg ?_
    refine st 29 (t_call (law17_awake_ok h14) (xs := []) .nil rfl rfl) rfl rfl hL fun a s e_ hL => ?_
    refine st 4 (t_assign (o_t 29 rfl) rfl rfl) rfl rfl hL fun a s e_ hL => ?_
    refine en' ?_
    show K12 a s.w
    refine hK12 _ _ ?_
    subst h
    exact wp_ret (retq rfl hL rfl)
  · replace h := h.2 hb_
    refine wp_skip ?_
    show K2 a s.w
    refine hK2 _ _ ?_
    refine wp_seq_k fun K15 hK15 => ?_
    refine wp_seq_k fun K16 hK16 => ?_
    refine rg ?_
    refine st 5 (t_assign (o_i (by decide)) rfl rfl) rfl rfl hL fun a s e_ hL => ?_
    refine en' ?_
    show K16 a s.w
    refine hK16 _ _ ?_
    refine wp_block ?_
    have J17 : ∀ (a : Act) (s : St), Has N0 145 s0 a s [(1, (Pd.rep (En.slice (En.int .u8)) w_)), (2, (Pd.ptr En.STable t_))] → ((law17_SearchShort.j3 t_ w_ r_)) → K15 a s.w := by
      intro a s hL h
      unfold law17_SearchShort.j3 at h
      show K15 a s.w
      refine hK15 _ _ ?_
      refine wp_seq_k fun K18 hK18 => ?_
      refine rg ?_
      refine st 7 (t_assign (o_i (by decide)) rfl rfl) rfl rfl hL fun a s e_ hL => ?_
      refine en' ?_
      show K18 a s.w
      refine hK18 _ _ ?_
      refine wp_seq_k fun K19 hK19 => ?_
      refine wp_seq_k fun K20 hK20 => ?_
      refine rg ?_
      refine st 8 (t_assign (o_i (by decide)) rfl rfl) rfl rfl hL fun a s e_ hL => ?_
      refine en' ?_
      show K20 a s.w
      refine hK20 _ _ ?_
      refine wp_block ?_
      have J22 : ∀ (at21 : Int) (a : Act) (s : St), Has N0 145 s0 a s [(1, (Pd.rep (En.slice (En.int .u8)) w_)), (2, (Pd.ptr En.STable t_)), (7, (Pd.rep (En.int .i64) at21))] → ((law17_SearchShort.j1 t_ w_ r_) at21) → K19 a s.w := by
        intro at21 a s hL h
        unfold law17_SearchShort.j1 at h
        show K19 a s.w
        refine hK19 _ _ ?_
        refine wp_seq_k fun K23 hK23 => ?_
        refine wp_seq_k fun K24 hK24 => ?_
        obtain ⟨e25, h26, h⟩ := h
        refine rg ?_
        refine st 109 (t_fa (off := 1) (o_t 2 rfl) Tryd.underlying45 rfl (prt_snd (prt_all _ _) rfl) rfl ty43 rfl rfl) rfl rfl hL fun a s e_ hL => ?_
        refine st 110 (t_load ty43 (o_t 109 rfl) rfl rfl) rfl rfl hL fun a s e_ hL => ?_
        refine st 111 (t_move (o_t 7 rfl) rfl rfl) rfl rfl hL fun a s e_ hL => ?_
        refine st 112 (t_idx (o_t 110 rfl) (o_t 111 rfl) h26 Tryd.underlying43 ty4 rfl rfl) rfl rfl hL fun a s e_ hL => ?_
        refine st 113 (t_load ty4 (o_t 112 rfl) rfl rfl) rfl rfl hL fun a s e_ hL => ?_
        refine st 114 (t_not (o_t 113 rfl) rfl rfl) rfl rfl hL fun a s e_ hL => ?_
        refine en' ?_
        show K24 a s.w
        refine hK24 _ _ ?_
        refine cnd hL rfl (fun hb_ => ?_) (fun hb_ => ?_)
        · replace h := h.1 hb_
          refine wp_seq_k fun K27 hK27 => ?_
          refine rg ?_
          refine st 4 (t_assign o_b rfl rfl) rfl rfl hL fun a s e_ hL => ?_
          refine en' ?_
          show K27 a s.w
          refine hK27 _ _ ?_
          subst h
          exact wp_ret (retq rfl hL rfl)
        · replace h := h.2 hb_
          refine wp_skip ?_
          show K23 a s.w
          refine hK23 _ _ ?_
          refine wp_seq_k fun K28 hK28 => ?_
          obtain ⟨r29, h30, h⟩ := h
          refine rg ?_
          refine st 115 (t_load ty45 (o_t 2 rfl) rfl rfl) rfl rfl hL fun a s e_ hL => ?_
          refine st 116 (t_fa (off := 0) (o_t 2 rfl) Tryd.underlying45 rfl (prt_fst (prt_all _ _)) rfl ty42 rfl rfl) rfl rfl hL fun a s e_ hL => ?_
          refine st 117 (t_load ty42 (o_t 116 rfl) rfl rfl) rfl rfl hL fun a s e_ hL => ?_
          refine st 118 (t_len (o_t 117 rfl) Tryd.underlying42 rfl rfl) rfl rfl hL fun a s e_ hL => ?_
          refine st 119 (t_call (search_Find_ok h30) (xs := [.tmp 115, .tmp 118]) (.cons (o_t 115 rfl) (.cons (o_t 118 rfl) .nil)) rfl rfl) rfl rfl hL fun a s e_ hL => ?_
          refine st_alloc En.SVerdict (z := (0, [], [], 0, 0, 0, 0)) 11 hL tyz57 rfl rfl rfl rfl fun a s g31 hg_ hL => ?_
          refine st_stb (L' := [(1, (Pd.rep (En.slice (En.int .u8)) w_))]) 11 hL rfl (o_t 119 rfl) ty57 rfl rfl rfl (.cons (t := 1) rfl (fun _ h_ => h_.elim) .nil) fun s hL => ?_
          refine en' ?_
          show K28 a s.w
          refine hK28 _ _ ?_
          refine wp_seq_k fun K32 hK32 => ?_
          refine wp_seq_k fun K33 hK33 => ?_
          obtain ⟨b34, h35, h⟩ := h
          refine rg ?_
          refine st 120 (t_fab (off := 0) (o_t 11 rfl) Tryd.underlying57 rfl (prt_fst (prt_all _ _)) rfl ty3 rfl rfl) rfl rfl hL fun a s e_ hL => ?_
          refine st 121 (t_loado ty3 (o_t 120 rfl) rfl rfl) rfl rfl hL fun a s e_ hL => ?_
          refine st 122 (t_nei (o_t 121 rfl) (o_i (by decide)) rfl rfl) rfl rfl hL fun a s e_ hL => ?_
          refine st 123 (t_move (o_t 122 rfl) rfl rfl) rfl rfl hL fun a s e_ hL => ?_
          refine st 124 (t_g1 rfl rfl rfl (fun hc_ => t_fab (off := 1) (o_t 11 rfl) Tryd.underlying57 rfl (prt_snd (prt_fst (prt_all _ _)) rfl) rfl ty51 rfl rfl)) rfl rfl hL fun a s e_ hL => ?_
          refine st 125 (t_g1 rfl rfl rfl (fun hc_ => t_loado ty51 (o_w hc_ 124 rfl) rfl rfl)) rfl rfl hL fun a s e_ hL => ?_
          refine st 126 (t_g1 rfl rfl rfl (fun hc_ => t_len (o_w hc_ 125 rfl) Tryd.underlying51 rfl rfl)) rfl rfl hL fun a s e_ hL => ?_
          refine st 127 (t_g1 rfl rfl rfl (fun hc_ => t_move (o_t 1 rfl) rfl rfl)) rfl rfl hL fun a s e_ hL => ?_
          refine st 128 (t_g1 rfl rfl rfl (fun hc_ => t_len (o_w hc_ 127 rfl) Tryd.underlying51 rfl rfl)) rfl rfl hL fun a s e_ hL => ?_
          refine st 129 (h35 ▸ (t_g1 rfl rfl rfl (fun hc_ => t_gtr (o_w hc_ 126 rfl) (o_w hc_ 128 rfl) rfl rfl))) rfl rfl hL fun a s e_ hL => ?_
          refine st 130 (t_or (o_t 123 rfl) (fun hc2_ => (o_w hc2_ 129 rfl)) rfl rfl) rfl rfl hL fun a s e_ hL => ?_
          refine en' ?_
          show K33 a s.w
          refine hK33 _ _ ?_
          refine cnd hL rfl (fun hb_ => ?_) (fun hb_ => ?_)
          · replace h := h.1 hb_
            refine wp_seq_k fun K36 hK36 => ?_
            refine rg ?_
            refine st 4 (t_assign o_b rfl rfl) rfl rfl hL fun a s e_ hL => ?_
            refine en' ?_
            show K36 a s.w
            refine hK36 _ _ ?_
            subst h
            exact wp_ret (retq rfl hL rfl)
          · replace h := h.2 hb_
            refine wp_skip ?_
            show K32 a s.w
            refine hK32 _ _ ?_
            refine wp_seq_k fun K37 hK37 => ?_
            obtain ⟨b38, h39, h⟩ := h
            refine rg ?_
            refine st 131 (t_fab (off := 1) (o_t 11 rfl) Tryd.underlying57 rfl (prt_snd (prt_fst (prt_all _ _)) rfl) rfl ty51 rfl rfl) rfl rfl hL fun a s e_ hL => ?_
            refine st 132 (t_loado ty51 (o_t 131 rfl) rfl rfl) rfl rfl hL fun a s e_ hL => ?_
            refine st 133 (t_len (o_t 132 rfl) Tryd.underlying51 rfl rfl) rfl rfl hL fun a s e_ hL => ?_
            refine st 134 (t_move (o_t 1 rfl) rfl rfl) rfl rfl hL fun a s e_ hL => ?_
            refine st 135 (t_len (o_t 134 rfl) Tryd.underlying51 rfl rfl) rfl rfl hL fun a s e_ hL => ?_
            refine st 136 (h39 ▸ (t_lss (o_t 133 rfl) (o_t 135 rfl) rfl rfl)) rfl rfl hL fun a s e_ hL => ?_
            refine st 137 (t_move (o_t 136 rfl) rfl rfl) rfl rfl hL fun a s e_ hL => ?_
            refine st 138 (t_g1 rfl rfl rfl (fun hc_ => t_fab (off := 1) (o_t 11 rfl) Tryd.underlying57 rfl (prt_snd (prt_fst (prt_all _ _)) rfl) rfl ty51 rfl rfl)) rfl rfl hL fun a s e_ hL => ?_
            refine st 139 (t_g1 rfl rfl rfl (fun hc_ => t_loado ty51 (o_w hc_ 138 rfl) rfl rfl)) rfl rfl hL fun a s e_ hL => ?_
            refine st 140 (t_g1 rfl rfl rfl (fun hc_ => t_bstr (o_w hc_ 139 rfl) Tryd.underlying51 Tryd.underlying5 Tryd.underlying9 rfl rfl)) rfl rfl hL fun a s e_ hL => ?_
            refine st 141 (t_g1 rfl rfl rfl (fun hc_ => t_move (o_t 1 rfl) rfl rfl)) rfl rfl hL fun a s e_ hL => ?_
            refine st 142 (t_g1 rfl rfl rfl (fun hc_ => t_bstr (o_w hc_ 141 rfl) Tryd.underlying51 Tryd.underlying5 Tryd.underlying9 rfl rfl)) rfl rfl hL fun a s e_ hL => ?_
            refine st 143 (t_g1 rfl rfl rfl (fun hc_ => t_strle (o_w hc_ 140 rfl) (o_w hc_ 142 rfl) rfl rfl)) rfl rfl hL fun a s e_ hL => ?_
            refine st 144 (t_or (o_t 137 rfl) (fun hc2_ => (o_w hc2_ 143 rfl)) rfl rfl) rfl rfl hL fun a s e_ hL => ?_
            refine st 4 (t_assign (o_t 144 rfl) rfl rfl) rfl rfl hL fun a s e_ hL => ?_
            refine en' ?_
            show K37 a s.w
            refine hK37 _ _ ?_
            subst h
            exact wp_ret (retq rfl hL rfl)
      obtain ⟨k42, h⟩ := h
      refine lpg (fun k43 a s => ∃ (at40 : Int) (i41 : Int), Has N0 145 s0 a s [(1, (Pd.rep (En.slice (En.int .u8)) w_)), (2, (Pd.ptr En.STable t_)), (7, (Pd.rep (En.int .i64) at40)), (8, (Pd.rep (En.int .i64) i41))] ∧ law17_SearchShort.l1 t_ w_ r_ (law17_SearchShort.j1 t_ w_ r_) k43 at40 i41) k42 ⟨0, 0, hL.keep (.cons (t := 1) rfl (fun _ h_ => h_.elim) (.cons (t := 2) rfl (fun _ h_ => h_.elim) (.cons (t := 7) rfl (fun _ h_ => h_.elim) (.cons (t := 8) rfl (fun _ h_ => h_.elim) .nil)))), h⟩ ?_
      rintro k43 a s ⟨at40, i41, hL, h⟩ KL44 hKL44
      cases k43 with
      | zero => exact h.elim
      | succ k43 =>
      unfold law17_SearchShort.l1 at h
      refine wp_seq_k fun K45 hK45 => ?_
      refine wp_seq_k fun K46 hK46 => ?_
      refine rg ?_
      refine st 67 (t_move (o_t 8 rfl) rfl rfl) rfl rfl hL fun a s e_ hL => ?_
      refine st 68 (t_move (o_t 1 rfl) rfl rfl) rfl rfl hL fun a s e_ hL => ?_
      refine st 69 (t_len (o_t 68 rfl) Tryd.underlying51 rfl rfl) rfl rfl hL fun a s e_ hL => ?_
      refine st 70 (t_lss (o_t 67 rfl) (o_t 69 rfl) rfl rfl) rfl rfl hL fun a s e_ hL => ?_
      refine en' ?_
      show K46 a s.w
      refine hK46 _ _ ?_
      refine cnd hL rfl (fun hb_ => ?_) (fun hb_ => ?_)
      · replace h := h.1 hb_
        refine wp_skip ?_
        show K45 a s.w
        refine hK45 _ _ ?_
        refine wp_seq_k fun K47 hK47 => ?_
        refine wp_block ?_
        refine wp_seq_k fun K48 hK48 => ?_
        refine rg ?_
        refine st 9 (t_assign (o_i (by decide)) rfl rfl) rfl rfl hL fun a s e_ hL => ?_
        refine en' ?_
        show K48 a s.w
        refine hK48 _ _ ?_
        refine wp_seq_k fun K49 hK49 => ?_
        refine wp_seq_k fun K50 hK50 => ?_
        refine rg ?_
        refine st 10 (t_assign (o_i (by decide)) rfl rfl) rfl rfl hL fun a s e_ hL => ?_
        refine en' ?_
        show K50 a s.w
        refine hK50 _ _ ?_
        refine wp_block ?_
        have J52 : ∀ (to51 : Int) (a : Act) (s : St), Has N0 145 s0 a s [(1, (Pd.rep (En.slice (En.int .u8)) w_)), (2, (Pd.ptr En.STable t_)), (8, (Pd.rep (En.int .i64) i41)), (9, (Pd.rep (En.int .i64) to51))] → ((law17_SearchShort.j2 (law17_SearchShort.l1 t_ w_ r_ (law17_SearchShort.j1 t_ w_ r_) k43) r_ i41) to51) → K49 a s.w := by
          intro to51 a s hL h
          unfold law17_SearchShort.j2 at h
          show K49 a s.w
          refine hK49 _ _ ?_
          refine wp_seq_k fun K53 hK53 => ?_
          refine wp_seq_k fun K54 hK54 => ?_
          refine rg ?_
          refine st 106 (t_move (o_t 9 rfl) rfl rfl) rfl rfl hL fun a s e_ hL => ?_
          refine st 107 (t_lss (o_t 106 rfl) (o_i (by decide)) rfl rfl) rfl rfl hL fun a s e_ hL => ?_
          refine en' ?_
          show K54 a s.w
          refine hK54 _ _ ?_
          refine cnd hL rfl (fun hb_ => ?_) (fun hb_ => ?_)
          · replace h := h.1 hb_
            refine wp_seq_k fun K55 hK55 => ?_
            refine rg ?_
            refine st 4 (t_assign o_b rfl rfl) rfl rfl hL fun a s e_ hL => ?_
            refine en' ?_
            show K55 a s.w
            refine hK55 _ _ ?_
            subst h
            exact wp_ret (retq rfl hL rfl)
          · replace h := h.2 hb_
            refine wp_skip ?_
            show K53 a s.w
            refine hK53 _ _ ?_
            refine rg ?_
            refine st 108 (t_move (o_t 9 rfl) rfl rfl) rfl rfl hL fun a s e_ hL => ?_
            refine st 7 (t_assign (o_t 108 rfl) rfl rfl) rfl rfl hL fun a s e_ hL => ?_
            refine en' ?_
            show K47 a s.w
            refine hK47 _ _ ?_
            obtain ⟨h56, h⟩ := h
            refine rg ?_
            refine st 71 (t_move (o_t 8 rfl) rfl rfl) rfl rfl hL fun a s e_ hL => ?_
            refine st 72 (t_add (o_t 71 rfl) (o_i (by decide)) h56 rfl rfl) rfl rfl hL fun a s e_ hL => ?_
            refine st 8 (t_assign (o_t 72 rfl) rfl rfl) rfl rfl hL fun a s e_ hL => ?_
            refine en' ?_
            exact hKL44 k43 a s (Nat.lt_succ_self _) ⟨to51, (i41 + 1), hL.keep (.cons (t := 1) rfl (fun _ h_ => h_.elim) (.cons (t := 2) rfl (fun _ h_ => h_.elim) (.cons (t := 7) rfl (fun _ h_ => h_.elim) (.cons (t := 8) rfl (fun _ h_ => h_.elim) .nil)))), h⟩
        obtain ⟨k59, h⟩ := h
        refine lpg (fun k60 a s => ∃ (to57 : Int) (k58 : Int), Has N0 145 s0 a s [(1, (Pd.rep (En.slice (En.int .u8)) w_)), (2, (Pd.ptr En.STable t_)), (7, (Pd.rep (En.int .i64) at40)), (8, (Pd.rep (En.int .i64) i41)), (9, (Pd.rep (En.int .i64) to57)), (10, (Pd.rep (En.int .i64) k58))] ∧ law17_SearchShort.l2 t_ w_ at40 i41 (law17_SearchShort.j2 (law17_SearchShort.l1 t_ w_ r_ (law17_SearchShort.j1 t_ w_ r_) k43) r_ i41) k60 to57 k58) k59 ⟨(-1), 0, hL.keep (.cons (t := 1) rfl (fun _ h_ => h_.elim) (.cons (t := 2) rfl (fun _ h_ => h_.elim) (.cons (t := 7) rfl (fun _ h_ => h_.elim) (.cons (t := 8) rfl (fun _ h_ => h_.elim) (.cons (t := 9) rfl (fun _ h_ => h_.elim) (.cons (t := 10) rfl (fun _ h_ => h_.elim) .nil)))))), h⟩ ?_
        rintro k60 a s ⟨to57, k58, hL, h⟩ KL61 hKL61
        cases k60 with
        | zero => exact h.elim
        | succ k60 =>
        unfold law17_SearchShort.l2 at h
        refine wp_seq_k fun K62 hK62 => ?_
        refine wp_seq_k fun K63 hK63 => ?_
        obtain ⟨e64, h65, h⟩ := h
        refine rg ?_
        refine st 73 (t_move (o_t 10 rfl) rfl rfl) rfl rfl hL fun a s e_ hL => ?_
        refine st 74 (t_fa (off := 0) (o_t 2 rfl) Tryd.underlying45 rfl (prt_fst (prt_all _ _)) rfl ty42 rfl rfl) rfl rfl hL fun a s e_ hL => ?_
        refine st 75 (t_load ty42 (o_t 74 rfl) rfl rfl) rfl rfl hL fun a s e_ hL => ?_
        refine st 76 (t_move (o_t 7 rfl) rfl rfl) rfl rfl hL fun a s e_ hL => ?_
        refine st 77 (t_idx (o_t 75 rfl) (o_t 76 rfl) h65 Tryd.underlying42 ty60 rfl rfl) rfl rfl hL fun a s e_ hL => ?_
        refine st 78 (t_load ty60 (o_t 77 rfl) rfl rfl) rfl rfl hL fun a s e_ hL => ?_
        refine st 79 (t_len (o_t 78 rfl) Tryd.underlying60 rfl rfl) rfl rfl hL fun a s e_ hL => ?_
        refine st 80 (t_lss (o_t 73 rfl) (o_t 79 rfl) rfl rfl) rfl rfl hL fun a s e_ hL => ?_
        refine en' ?_
        show K63 a s.w
        refine hK63 _ _ ?_
        refine cnd hL rfl (fun hb_ => ?_) (fun hb_ => ?_)
        · replace h := h.1 hb_
          refine wp_skip ?_
          show K62 a s.w
          refine hK62 _ _ ?_
          refine wp_seq_k fun K66 hK66 => ?_
          refine wp_block ?_
          refine wp_seq_k fun K67 hK67 => ?_
          obtain ⟨e68, h69, e70, h71, e72, h73, h⟩ := h
          refine rda follows 14 [(Pd.ptr (En.slice (En.slice En.SWay)) t_.1), (Pd.rep (En.slice (En.slice En.SWay)) t_.1), (Pd.rep (En.int .i64) at40), (Pd.ptr (En.slice En.SWay) e68), (Pd.rep (En.slice En.SWay) e68), (Pd.rep (En.int .i64) k58), (Pd.ptr En.SWay e70), (Pd.ptr (En.int .u8) e70.1), (Pd.rep (En.int .u8) e70.1), (Pd.rep (En.slice (En.int .u8)) w_), (Pd.rep (En.int .i64) i41), (Pd.ptr (En.int .u8) e72), (Pd.rep (En.int .u8) e72), (Pd.rep En.bool (e70.1 == e72))] hL (by kernel_rfl) rfl rfl ?_ ?_
          · refine AllT.cons (t_fa (off := 0) (o_t 2 rfl) Tryd.underlying45 rfl (prt_fst (prt_all _ _)) rfl ty42 rfl rfl) ?_
            refine AllT.cons (t_load ty42 (o_t 83 rfl) rfl rfl) ?_
            refine AllT.cons (t_move (o_t 7 rfl) rfl rfl) ?_
            refine AllT.cons (t_idx (o_t 84 rfl) (o_t 85 rfl) h69 Tryd.underlying42 ty60 rfl rfl) ?_
            refine AllT.cons (t_load ty60 (o_t 86 rfl) rfl rfl) ?_
            refine AllT.cons (t_move (o_t 10 rfl) rfl rfl) ?_
            refine AllT.cons (t_idx (o_t 87 rfl) (o_t 88 rfl) h71 Tryd.underlying60 ty62 rfl rfl) ?_
            refine AllT.cons (t_fa (off := 0) (o_t 89 rfl) Tryd.underlying62 rfl (prt_fst (prt_all _ _)) rfl ty5 rfl rfl) ?_
            refine AllT.cons (t_load ty5 (o_t 90 rfl) rfl rfl) ?_
            refine AllT.cons (t_move (o_t 1 rfl) rfl rfl) ?_
            refine AllT.cons (t_move (o_t 8 rfl) rfl rfl) ?_
            refine AllT.cons (t_idx (o_t 92 rfl) (o_t 93 rfl) h73 Tryd.underlying51 ty5 rfl rfl) ?_
            refine AllT.cons (t_load ty5 (o_t 94 rfl) rfl rfl) ?_
            refine AllT.cons (t_eqi (o_t 91 rfl) (o_t 95 rfl) rfl rfl) ?_
            exact AllT.nil
          intro a s e_ hL
          refine en' ?_
          show K67 a s.w
          refine hK67 _ _ ?_
          refine cnd hL rfl (fun hb_ => ?_) (fun hb_ => ?_)
          · replace h := h.1 hb_
            obtain ⟨e74, h75, e76, h77, h⟩ := h
            refine rg ?_
            refine st 97 (t_fa (off := 0) (o_t 2 rfl) Tryd.underlying45 rfl (prt_fst (prt_all _ _)) rfl ty42 rfl rfl) rfl rfl hL fun a s e_ hL => ?_
            refine st 98 (t_load ty42 (o_t 97 rfl) rfl rfl) rfl rfl hL fun a s e_ hL => ?_
            refine st 99 (t_move (o_t 7 rfl) rfl rfl) rfl rfl hL fun a s e_ hL => ?_
            refine st 100 (t_idx (o_t 98 rfl) (o_t 99 rfl) h75 Tryd.underlying42 ty60 rfl rfl) rfl rfl hL fun a s e_ hL => ?_
            refine st 101 (t_load ty60 (o_t 100 rfl) rfl rfl) rfl rfl hL fun a s e_ hL => ?_
            refine st 102 (t_move (o_t 10 rfl) rfl rfl) rfl rfl hL fun a s e_ hL => ?_
            refine st 103 (t_idx (o_t 101 rfl) (o_t 102 rfl) h77 Tryd.underlying60 ty62 rfl rfl) rfl rfl hL fun a s e_ hL => ?_
            refine st 104 (t_fa (off := 1) (o_t 103 rfl) Tryd.underlying62 rfl (prt_snd (prt_all _ _) rfl) rfl ty3 rfl rfl) rfl rfl hL fun a s e_ hL => ?_
            refine st 105 (t_load ty3 (o_t 104 rfl) rfl rfl) rfl rfl hL fun a s e_ hL => ?_
            refine st 9 (t_assign (o_t 105 rfl) rfl rfl) rfl rfl hL fun a s e_ hL => ?_
            refine en' ?_
            show K66 a s.w
            refine hK66 _ _ ?_
            obtain ⟨h78, h⟩ := h
            refine rg ?_
            refine st 81 (t_move (o_t 10 rfl) rfl rfl) rfl rfl hL fun a s e_ hL => ?_
            refine st 82 (t_add (o_t 81 rfl) (o_i (by decide)) h78 rfl rfl) rfl rfl hL fun a s e_ hL => ?_
            refine st 10 (t_assign (o_t 82 rfl) rfl rfl) rfl rfl hL fun a s e_ hL => ?_
            refine en' ?_
            exact hKL61 k60 a s (Nat.lt_succ_self _) ⟨e76.2, (k58 + 1), hL.keep (.cons (t := 1) rfl (fun _ h_ => h_.elim) (.cons (t := 2) rfl (fun _ h_ => h_.elim) (.cons (t := 7) rfl (fun _ h_ => h_.elim) (.cons (t := 8) rfl (fun _ h_ => h_.elim) (.cons (t := 9) rfl (fun _ h_ => h_.elim) (.cons (t := 10) rfl (fun _ h_ => h_.elim) .nil)))))), h⟩
          · replace h := h.2 hb_
            refine wp_skip ?_
            show K66 a s.w
            refine hK66 _ _ ?_
            obtain ⟨h79, h⟩ := h
            refine rg ?_
            refine st 81 (t_move (o_t 10 rfl) rfl rfl) rfl rfl hL fun a s e_ hL => ?_
            refine st 82 (t_add (o_t 81 rfl) (o_i (by decide)) h79 rfl rfl) rfl rfl hL fun a s e_ hL => ?_
            refine st 10 (t_assign (o_t 82 rfl) rfl rfl) rfl rfl hL fun a s e_ hL => ?_
            refine en' ?_
            exact hKL61 k60 a s (Nat.lt_succ_self _) ⟨to57, (k58 + 1), hL.keep (.cons (t := 1) rfl (fun _ h_ => h_.elim) (.cons (t := 2) rfl (fun _ h_ => h_.elim) (.cons (t := 7) rfl (fun _ h_ => h_.elim) (.cons (t := 8) rfl (fun _ h_ => h_.elim) (.cons (t := 9) rfl (fun _ h_ => h_.elim) (.cons (t := 10) rfl (fun _ h_ => h_.elim) .nil)))))), h⟩
        · replace h := h.2 hb_
          refine wp_exit ?_
          exact J52 to57 a s (hL.keep (.cons (t := 1) rfl (fun _ h_ => h_.elim) (.cons (t := 2) rfl (fun _ h_ => h_.elim) (.cons (t := 8) rfl (fun _ h_ => h_.elim) (.cons (t := 9) rfl (fun _ h_ => h_.elim) .nil))))) h
      · replace h := h.2 hb_
        refine wp_exit ?_
        exact J22 at40 a s (hL.keep (.cons (t := 1) rfl (fun _ h_ => h_.elim) (.cons (t := 2) rfl (fun _ h_ => h_.elim) (.cons (t := 7) rfl (fun _ h_ => h_.elim) .nil)))) h
    obtain ⟨k81, h⟩ := h
    refine lpg (fun k82 a s => ∃ (i80 : Int), Has N0 145 s0 a s [(1, (Pd.rep (En.slice (En.int .u8)) w_)), (2, (Pd.ptr En.STable t_)), (5, (Pd.rep (En.int .i64) i80))] ∧ law17_SearchShort.l3 t_ r_ (law17_SearchShort.j3 t_ w_ r_) k82 i80) k81 ⟨0, hL.keep (.cons (t := 1) rfl (fun _ h_ => h_.elim) (.cons (t := 2) rfl (fun _ h_ => h_.elim) (.cons (t := 5) rfl (fun _ h_ => h_.elim) .nil))), h⟩ ?_
    rintro k82 a s ⟨i80, hL, h⟩ KL83 hKL83
    cases k82 with
    | zero => exact h.elim
    | succ k82 =>
    unfold law17_SearchShort.l3 at h
    refine wp_seq_k fun K84 hK84 => ?_
    refine wp_seq_k fun K85 hK85 => ?_
    refine rg ?_
    refine st 30 (t_move (o_t 5 rfl) rfl rfl) rfl rfl hL fun a s e_ hL => ?_
    refine st 31 (t_fa (off := 0) (o_t 2 rfl) Tryd.underlying45 rfl (prt_fst (prt_all _ _)) rfl ty42 rfl rfl) rfl rfl hL fun a s e_ hL => ?_
    refine st 32 (t_load ty42 (o_t 31 rfl) rfl rfl) rfl rfl hL fun a s e_ hL => ?_
    refine st 33 (t_len (o_t 32 rfl) Tryd.underlying42 rfl rfl) rfl rfl hL fun a s e_ hL => ?_
    refine st 34 (t_lss (o_t 30 rfl) (o_t 33 rfl) rfl rfl) rfl rfl hL fun a s e_ hL => ?_
    refine en' ?_
    show K85 a s.w
    refine hK85 _ _ ?_
    refine cnd hL rfl (fun hb_ => ?_) (fun hb_ => ?_)
    · replace h := h.1 hb_
      refine wp_skip ?_
      show K84 a s.w
      refine hK84 _ _ ?_
      refine wp_seq_k fun K86 hK86 => ?_
      refine wp_block ?_
      refine wp_seq_k fun K87 hK87 => ?_
      refine rg ?_
      refine st 6 (t_assign (o_i (by decide)) rfl rfl) rfl rfl hL fun a s e_ hL => ?_
      refine en' ?_
      show K87 a s.w
      refine hK87 _ _ ?_
      refine wp_block ?_
      have J88 : ∀ (a : Act) (s : St), Has N0 145 s0 a s [(1, (Pd.rep (En.slice (En.int .u8)) w_)), (2, (Pd.ptr En.STable t_)), (5, (Pd.rep (En.int .i64) i80))] → ((law17_SearchShort.j4 (law17_SearchShort.l3 t_ r_ (law17_SearchShort.j3 t_ w_ r_) k82) i80)) → K86 a s.w := by
        intro a s hL h
        unfold law17_SearchShort.j4 at h
        show K86 a s.w
        refine hK86 _ _ ?_
        obtain ⟨h89, h⟩ := h
        refine rg ?_
        refine st 35 (t_move (o_t 5 rfl) rfl rfl) rfl rfl hL fun a s e_ hL => ?_
        refine st 36 (t_add (o_t 35 rfl) (o_i (by decide)) h89 rfl rfl) rfl rfl hL fun a s e_ hL => ?_
        refine st 5 (t_assign (o_t 36 rfl) rfl rfl) rfl rfl hL fun a s e_ hL => ?_
        refine en' ?_
        exact hKL83 k82 a s (Nat.lt_succ_self _) ⟨(i80 + 1), hL.keep (.cons (t := 1) rfl (fun _ h_ => h_.elim) (.cons (t := 2) rfl (fun _ h_ => h_.elim) (.cons (t := 5) rfl (fun _ h_ => h_.elim) .nil))), h⟩
      obtain ⟨k91, h⟩ := h
      refine lpg (fun k92 a s => ∃ (k90 : Int), Has N0 145 s0 a s [(1, (Pd.rep (En.slice (En.int .u8)) w_)), (2, (Pd.ptr En.STable t_)), (5, (Pd.rep (En.int .i64) i80)), (6, (Pd.rep (En.int .i64) k90))] ∧ law17_SearchShort.l4 t_ i80 r_ (law17_SearchShort.j4 (law17_SearchShort.l3 t_ r_ (law17_SearchShort.j3 t_ w_ r_) k82) i80) k92 k90) k91 ⟨1, hL.keep (.cons (t := 1) rfl (fun _ h_ => h_.elim) (.cons (t := 2) rfl (fun _ h_ => h_.elim) (.cons (t := 5) rfl (fun _ h_ => h_.elim) (.cons (t := 6) rfl (fun _ h_ => h_.elim) .nil)))), h⟩ ?_
      rintro k92 a s ⟨k90, hL, h⟩ KL93 hKL93
      cases k92 with
      | zero => exact h.elim
      | succ k92 =>
      unfold law17_SearchShort.l4 at h
      refine wp_seq_k fun K94 hK94 => ?_
      refine wp_seq_k fun K95 hK95 => ?_
      obtain ⟨e96, h97, h⟩ := h
      refine rg ?_
      refine st 37 (t_move (o_t 6 rfl) rfl rfl) rfl rfl hL fun a s e_ hL => ?_
      refine st 38 (t_fa (off := 0) (o_t 2 rfl) Tryd.underlying45 rfl (prt_fst (prt_all _ _)) rfl ty42 rfl rfl) rfl rfl hL fun a s e_ hL => ?_
      refine st 39 (t_load ty42 (o_t 38 rfl) rfl rfl) rfl rfl hL fun a s e_ hL => ?_
      refine st 40 (t_move (o_t 5 rfl) rfl rfl) rfl rfl hL fun a s e_ hL => ?_
      refine st 41 (t_idx (o_t 39 rfl) (o_t 40 rfl) h97 Tryd.underlying42 ty60 rfl rfl) rfl rfl hL fun a s e_ hL => ?_
      refine st 42 (t_load ty60 (o_t 41 rfl) rfl rfl) rfl rfl hL fun a s e_ hL => ?_
      refine st 43 (t_len (o_t 42 rfl) Tryd.underlying60 rfl rfl) rfl rfl hL fun a s e_ hL => ?_
      refine st 44 (t_lss (o_t 37 rfl) (o_t 43 rfl) rfl rfl) rfl rfl hL fun a s e_ hL => ?_
      refine en' ?_
      show K95 a s.w
      refine hK95 _ _ ?_
      refine cnd hL rfl (fun hb_ => ?_) (fun hb_ => ?_)
      · replace h := h.1 hb_
        refine wp_skip ?_
        show K94 a s.w
        refine hK94 _ _ ?_
        refine wp_seq_k fun K98 hK98 => ?_
        refine wp_block ?_
        refine wp_seq_k fun K99 hK99 => ?_
        obtain ⟨e100, h101, h102, e103, h104, e105, h106, e107, h108, h⟩ := h
        refine rda follows 20 [(Pd.ptr (En.slice (En.slice En.SWay)) t_.1), (Pd.rep (En.slice (En.slice En.SWay)) t_.1), (Pd.rep (En.int .i64) i80), (Pd.ptr (En.slice En.SWay) e100), (Pd.rep (En.slice En.SWay) e100), (Pd.rep (En.int .i64) k90), (Pd.rep (En.int .i64) (k90 - 1)), (Pd.ptr En.SWay e103), (Pd.ptr (En.int .u8) e103.1), (Pd.rep (En.int .u8) e103.1), (Pd.ptr (En.slice (En.slice En.SWay)) t_.1), (Pd.rep (En.slice (En.slice En.SWay)) t_.1), (Pd.rep (En.int .i64) i80), (Pd.ptr (En.slice En.SWay) e105), (Pd.rep (En.slice En.SWay) e105), (Pd.rep (En.int .i64) k90), (Pd.ptr En.SWay e107), (Pd.ptr (En.int .u8) e107.1), (Pd.rep (En.int .u8) e107.1), (Pd.rep En.bool (decide (e107.1 ≤ e103.1)))] hL (by kernel_rfl) rfl rfl ?_ ?_
        · refine AllT.cons (t_fa (off := 0) (o_t 2 rfl) Tryd.underlying45 rfl (prt_fst (prt_all _ _)) rfl ty42 rfl rfl) ?_
          refine AllT.cons (t_load ty42 (o_t 47 rfl) rfl rfl) ?_
          refine AllT.cons (t_move (o_t 5 rfl) rfl rfl) ?_
          refine AllT.cons (t_idx (o_t 48 rfl) (o_t 49 rfl) h101 Tryd.underlying42 ty60 rfl rfl) ?_
          refine AllT.cons (t_load ty60 (o_t 50 rfl) rfl rfl) ?_
          refine AllT.cons (t_move (o_t 6 rfl) rfl rfl) ?_
          refine AllT.cons (t_sub (o_t 52 rfl) (o_i (by decide)) h102 rfl rfl) ?_
          refine AllT.cons (t_idx (o_t 51 rfl) (o_t 53 rfl) h104 Tryd.underlying60 ty62 rfl rfl) ?_
          refine AllT.cons (t_fa (off := 0) (o_t 54 rfl) Tryd.underlying62 rfl (prt_fst (prt_all _ _)) rfl ty5 rfl rfl) ?_
          refine AllT.cons (t_load ty5 (o_t 55 rfl) rfl rfl) ?_
          refine AllT.cons (t_fa (off := 0) (o_t 2 rfl) Tryd.underlying45 rfl (prt_fst (prt_all _ _)) rfl ty42 rfl rfl) ?_
          refine AllT.cons (t_load ty42 (o_t 57 rfl) rfl rfl) ?_
          refine AllT.cons (t_move (o_t 5 rfl) rfl rfl) ?_
          refine AllT.cons (t_idx (o_t 58 rfl) (o_t 59 rfl) h106 Tryd.underlying42 ty60 rfl rfl) ?_
          refine AllT.cons (t_load ty60 (o_t 60 rfl) rfl rfl) ?_
          refine AllT.cons (t_move (o_t 6 rfl) rfl rfl) ?_
          refine AllT.cons (t_idx (o_t 61 rfl) (o_t 62 rfl) h108 Tryd.underlying60 ty62 rfl rfl) ?_
          refine AllT.cons (t_fa (off := 0) (o_t 63 rfl) Tryd.underlying62 rfl (prt_fst (prt_all _ _)) rfl ty5 rfl rfl) ?_
          refine AllT.cons (t_load ty5 (o_t 64 rfl) rfl rfl) ?_
          refine AllT.cons (t_geq (o_t 56 rfl) (o_t 65 rfl) rfl rfl) ?_
          exact AllT.nil
        intro a s e_ hL
        refine en' ?_
        show K99 a s.w
        refine hK99 _ _ ?_
        refine cnd hL rfl (fun hb_ => ?_) (fun hb_ => ?_)
        · replace h := h.1 hb_
          refine wp_seq_k fun K109 hK109 => ?_
          refine rg ?_
          refine st 4 (t_assign o_b rfl rfl) rfl rfl hL fun a s e_ hL => ?_
          refine en' ?_
          show K109 a s.w
          refine hK109 _ _ ?_
          subst h
          exact wp_ret (retq rfl hL rfl)
        · replace h := h.2 hb_
          refine wp_skip ?_
          show K98 a s.w
          refine hK98 _ _ ?_
          obtain ⟨h110, h⟩ := h
          refine rg ?_
          refine st 45 (t_move (o_t 6 rfl) rfl rfl) rfl rfl hL fun a s e_ hL => ?_
          refine st 46 (t_add (o_t 45 rfl) (o_i (by decide)) h110 rfl rfl) rfl rfl hL fun a s e_ hL => ?_
          refine st 6 (t_assign (o_t 46 rfl) rfl rfl) rfl rfl hL fun a s e_ hL => ?_
          refine en' ?_
          exact hKL93 k92 a s (Nat.lt_succ_self _) ⟨(k90 + 1), hL.keep (.cons (t := 1) rfl (fun _ h_ => h_.elim) (.cons (t := 2) rfl (fun _ h_ => h_.elim) (.cons (t := 5) rfl (fun _ h_ => h_.elim) (.cons (t := 6) rfl (fun _ h_ => h_.elim) .nil)))), h⟩
      · replace h := h.2 hb_
        refine wp_exit ?_
        exact J88 a s (hL.keep (.cons (t := 1) rfl (fun _ h_ => h_.elim) (.cons (t := 2) rfl (fun _ h_ => h_.elim) (.cons (t := 5) rfl (fun _ h_ => h_.elim) .nil)))) h
    · replace h := h.2 hb_
      refine wp_exit ?_
      exact J17 a s (hL.keep (.cons (t := 1) rfl (fun _ h_ => h_.elim) (.cons (t := 2) rfl (fun _ h_ => h_.elim) .nil))) h

theorem law17_SearchOrder_ok {t_ : STable} {r_ : Bool} (h : law17_SearchOrder t_ r_) : Fn Tryd.prog 11 [(Pd.rep En.STable t_)] (Rq (Pd.rep En.bool r_)) := by
  unfold law17_SearchOrder at h
  refine fn_of Tryd.func11 rfl Tryd.ntmps11 (by rfl) (by simp) fun s0 a hL => ?_
  refine wp_seq_k fun K1 hK1 => ?_
  refine rg ?_
  refine st 1 (t_box (o_t 0 rfl) rfl rfl) rfl rfl hL fun a s e_ hL => ?_
  refine st 2 (t_assign o_b rfl rfl) rfl rfl hL fun a s e_ hL => ?_
  refine en' ?_
  show K1 a s.w
  refine hK1 _ _ ?_
  refine wp_seq_k fun K2 hK2 => ?_
  refine wp_seq_k fun K3 hK3 => ?_
  obtain ⟨r4, h5, r6, h7, r8, h9, h⟩ := h
  refine rg ?_
  refine st 11 (t_call (law17_awake_ok h5) (xs := []) .nil rfl rfl) rfl rfl hL fun a s e_ hL => ?_
  refine st 12 (t_not (o_t 11 rfl) rfl rfl) rfl rfl hL fun a s e_ hL => ?_
  refine st 13 (t_move (o_t 12 rfl) rfl rfl) rfl rfl hL fun a s e_ hL => ?_
  refine st 14 (t_g1 rfl rfl rfl (fun hc_ => t_load ty45 (o_t 1 rfl) rfl rfl)) rfl rfl hL fun a s e_ hL => ?_
  refine st 15 (t_g1 rfl rfl rfl (fun hc_ => t_call (ref17_Few_ok (h7 hc_)) (xs := [.tmp 14]) (.cons (o_w hc_ 14 rfl) .nil) rfl rfl)) rfl rfl hL fun a s e_ hL => ?_
  refine st 16 (t_g1 rfl rfl rfl (fun hc_ => t_not (o_w hc_ 15 rfl) rfl rfl)) rfl rfl hL fun a s e_ hL => ?_
  refine st 17 (t_or (o_t 13 rfl) (fun hc2_ => (o_w hc2_ 16 rfl)) rfl rfl) rfl rfl hL fun a s e_ hL => ?_
  refine st 18 (t_move (o_t 17 rfl) rfl rfl) rfl rfl hL fun a s e_ hL => ?_
  refine st 19 (t_g1 rfl rfl rfl (fun hc_ => t_load ty45 (o_t 1 rfl) rfl rfl)) rfl rfl hL fun a s e_ hL => ?_
  refine st 20 (t_g1 rfl rfl rfl (fun hc_ => t_call (ref17_Form_ok (h9 hc_)) (xs := [.tmp 19]) (.cons (o_w hc_ 19 rfl) .nil) rfl rfl)) rfl rfl hL fun a s e_ hL => ?_
  refine st 21 (t_g1 rfl rfl rfl (fun hc_ => t_not (o_w hc_ 20 rfl) rfl rfl)) rfl rfl hL fun a s e_ hL => ?_
  refine st 22 (t_or (o_t 18 rfl) (fun hc2_ => (o_w hc2_ 21 rfl)) rfl rfl) rfl rfl hL fun a s e_ hL => ?_
  refine en' ?_
  show K3 a s.w
  refine hK3 _ _ ?_
  refine cnd hL rfl (fun hb_ => ?_) (fun hb_ => ?_)
  · replace h := h.1 hb_
    refine wp_seq_k fun K10 hK10 => ?_
    obtain ⟨r11, h12, h⟩ := h
    refine rg ?_
    refine st 23 (t_call (law17_awake_ok h12) (xs := []) .nil rfl rfl) rfl rfl hL fun a s e_ hL => ?_
    refine st 2 (t_assign (o_t 23 rfl) rfl rfl) rfl rfl hL fun a s e_ hL => ?_
    refine en' ?_
    show K10 a s.w
    refine hK10 _ _ ?_
    subst h
    exact wp_ret (retq rfl hL rfl)
  · replace h := h.2 hb_
    refine wp_skip ?_
    show K2 a s.w
    refine hK2 _ _ ?_
    refine wp_seq_k fun K13 hK13 => ?_
    obtain ⟨r14, h15, h⟩ := h
    refine rg ?_
    refine st 24 (t_load ty45 (o_t 1 rfl) rfl rfl) rfl rfl hL fun a s e_ hL => ?_
    refine st 25 (t_call (search_Things_ok h15) (xs := [.tmp 24]) (.cons (o_t 24 rfl) .nil) rfl rfl) rfl rfl hL fun a s e_ hL => ?_
    refine st 3 (t_assign (o_t 25 rfl) rfl rfl) rfl rfl hL fun a s e_ hL => ?_
    refine en' ?_
    show K13 a s.w
    refine hK13 _ _ ?_
    refine wp_seq_k fun K16 hK16 => ?_
    obtain ⟨h18, h⟩ := h
    refine rg ?_
    refine st 26 (t_fa (off := 0) (o_t 1 rfl) Tryd.underlying45 rfl (prt_fst (prt_all _ _)) rfl ty42 rfl rfl) rfl rfl hL fun a s e_ hL => ?_
    refine st 27 (t_load ty42 (o_t 26 rfl) rfl rfl) rfl rfl hL fun a s e_ hL => ?_
    refine st 28 (t_len (o_t 27 rfl) Tryd.underlying42 rfl rfl) rfl rfl hL fun a s e_ hL => ?_
    refine st_makev (En.int .i64) (z := 0) (m := (t_.1.length : Int)) 29 hL (o_t 28 rfl) (o_t 28 rfl) h18 Tryd.underlying47 ty3 tyz3 rfl rfl rfl rfl fun a s g17 hg_ hL => ?_
    refine st 4 (t_assign (o_t 29 rfl) rfl rfl) rfl rfl hL fun a s e_ hL => ?_
    refine en' ?_
    show K16 a s.w
    refine hK16 _ _ ?_
    refine wp_seq_k fun K19 hK19 => ?_
    refine wp_seq_k fun K20 hK20 => ?_
    refine rg ?_
    refine st 5 (t_assign (o_i (by decide)) rfl rfl) rfl rfl hL fun a s e_ hL => ?_
    refine en' ?_
    show K20 a s.w
    refine hK20 _ _ ?_
    refine wp_block ?_
    have J23 : ∀ (place21 : (List Int)) (og22 : Option Nat) (a : Act) (s : St), Has N0 149 s0 a s [(1, (Pd.ptr En.STable t_)), (3, (Pd.rep (En.slice (En.int .i64)) r14)), (4, (Pd.row (En.int .i64) s0.w.heap.size 3 og22 place21))] → ((law17_SearchOrder.j4 t_ r_ r14) place21) → K19 a s.w := by
      intro place21 og22 a s hL h
      unfold law17_SearchOrder.j4 at h
      show K19 a s.w
      refine hK19 _ _ ?_
      refine wp_seq_k fun K24 hK24 => ?_
      refine wp_seq_k fun K25 hK25 => ?_
      obtain ⟨e26, h27, h⟩ := h
      refine rg ?_
      refine st 69 (t_move (o_t 3 rfl) rfl rfl) rfl rfl hL fun a s e_ hL => ?_
      refine st 70 (t_len (o_t 69 rfl) Tryd.underlying47 rfl rfl) rfl rfl hL fun a s e_ hL => ?_
      refine st 71 (t_eqi (o_t 70 rfl) (o_i (by decide)) rfl rfl) rfl rfl hL fun a s e_ hL => ?_
      refine st 72 (t_move (o_t 71 rfl) rfl rfl) rfl rfl hL fun a s e_ hL => ?_
      refine st 73 (t_g1 rfl rfl rfl (fun hc_ => t_move (o_t 3 rfl) rfl rfl)) rfl rfl hL fun a s e_ hL => ?_
      refine st 74 (t_g1 rfl rfl rfl (fun hc_ => t_idx (o_w hc_ 73 rfl) (o_i (by decide)) (h27 hc_) Tryd.underlying47 ty3 rfl rfl)) rfl rfl hL fun a s e_ hL => ?_
      refine st 75 (t_g1 rfl rfl rfl (fun hc_ => t_load ty3 (o_w hc_ 74 rfl) rfl rfl)) rfl rfl hL fun a s e_ hL => ?_
      refine st 76 (t_g1 rfl rfl rfl (fun hc_ => t_nei (o_w hc_ 75 rfl) (o_i (by decide)) rfl rfl)) rfl rfl hL fun a s e_ hL => ?_
      refine st 77 (t_or (o_t 72 rfl) (fun hc2_ => (o_w hc2_ 76 rfl)) rfl rfl) rfl rfl hL fun a s e_ hL => ?_
      refine en' ?_
      show K25 a s.w
      refine hK25 _ _ ?_
      refine cnd hL rfl (fun hb_ => ?_) (fun hb_ => ?_)
      · replace h := h.1 hb_
        refine wp_seq_k fun K28 hK28 => ?_
        refine rg ?_
        refine st 2 (t_assign o_b rfl rfl) rfl rfl hL fun a s e_ hL => ?_
        refine en' ?_
        show K28 a s.w
        refine hK28 _ _ ?_
        subst h
        exact wp_ret (retq rfl hL rfl)
      · replace h := h.2 hb_
        refine wp_skip ?_
        show K24 a s.w
        refine hK24 _ _ ?_
        refine wp_seq_k fun K29 hK29 => ?_
        refine wp_seq_k fun K30 hK30 => ?_
        refine rg ?_
        refine st 6 (t_assign (o_i (by decide)) rfl rfl) rfl rfl hL fun a s e_ hL => ?_
        refine en' ?_
        show K30 a s.w
        refine hK30 _ _ ?_
        refine wp_block ?_
        have J31 : ∀ (a : Act) (s : St), Has N0 149 s0 a s [] → ((law17_SearchOrder.j1 r_)) → K29 a s.w := by
          intro a s hL h
          unfold law17_SearchOrder.j1 at h
          show K29 a s.w
          refine hK29 _ _ ?_
          refine wp_seq_k fun K32 hK32 => ?_
          refine rg ?_
          refine st 2 (t_assign o_b rfl rfl) rfl rfl hL fun a s e_ hL => ?_
          refine en' ?_
          show K32 a s.w
          refine hK32 _ _ ?_
          subst h
          exact wp_ret (retq rfl hL rfl)
        obtain ⟨k34, h⟩ := h
        refine lpg (fun k35 a s => ∃ (i33 : Int), Has N0 149 s0 a s [(1, (Pd.ptr En.STable t_)), (3, (Pd.rep (En.slice (En.int .i64)) r14)), (4, (Pd.row (En.int .i64) s0.w.heap.size 3 og22 place21)), (6, (Pd.rep (En.int .i64) i33))] ∧ law17_SearchOrder.l1 t_ r14 place21 r_ (law17_SearchOrder.j1 r_) k35 i33) k34 ⟨0, hL.keep (.cons (t := 1) rfl (fun _ h_ => h_.elim) (.cons (t := 3) rfl (fun _ h_ => h_.elim) (.cons (t := 4) rfl (fun _ _ h_ => h_) (.cons (t := 6) rfl (fun _ h_ => h_.elim) .nil)))), h⟩ ?_
        rintro k35 a s ⟨i33, hL, h⟩ KL36 hKL36
        cases k35 with
        | zero => exact h.elim
        | succ k35 =>
        unfold law17_SearchOrder.l1 at h
        refine wp_seq_k fun K37 hK37 => ?_
        refine wp_seq_k fun K38 hK38 => ?_
        refine rg ?_
        refine st 78 (t_move (o_t 6 rfl) rfl rfl) rfl rfl hL fun a s e_ hL => ?_
        refine st 79 (t_fa (off := 0) (o_t 1 rfl) Tryd.underlying45 rfl (prt_fst (prt_all _ _)) rfl ty42 rfl rfl) rfl rfl hL fun a s e_ hL => ?_
        refine st 80 (t_load ty42 (o_t 79 rfl) rfl rfl) rfl rfl hL fun a s e_ hL => ?_
        refine st 81 (t_len (o_t 80 rfl) Tryd.underlying42 rfl rfl) rfl rfl hL fun a s e_ hL => ?_
        refine st 82 (t_lss (o_t 78 rfl) (o_t 81 rfl) rfl rfl) rfl rfl hL fun a s e_ hL => ?_
        refine en' ?_
        show K38 a s.w
        refine hK38 _ _ ?_
        refine cnd hL rfl (fun hb_ => ?_) (fun hb_ => ?_)
        · replace h := h.1 hb_
          refine wp_skip ?_
          show K37 a s.w
          refine hK37 _ _ ?_
          refine wp_seq_k fun K39 hK39 => ?_
          refine wp_block ?_
          refine wp_seq_k fun K40 hK40 => ?_
          refine wp_seq_k fun K41 hK41 => ?_
          obtain ⟨e42, h43, h⟩ := h
          refine rg ?_
          refine st 85 (t_move (o_t 4 rfl) rfl rfl) rfl rfl hL fun a s e_ hL => ?_
          refine st 86 (t_move (o_t 6 rfl) rfl rfl) rfl rfl hL fun a s e_ hL => ?_
          refine st 87 (t_idxo (o_t 85 rfl) (o_t 86 rfl) h43 Tryd.underlying47 ty3 rfl rfl) rfl rfl hL fun a s e_ hL => ?_
          refine st 88 (t_loado ty3 (o_t 87 rfl) rfl rfl) rfl rfl hL fun a s e_ hL => ?_
          refine st 89 (t_eqi (o_t 88 rfl) (o_i (by decide)) rfl rfl) rfl rfl hL fun a s e_ hL => ?_
          refine en' ?_
          show K41 a s.w
          refine hK41 _ _ ?_
          refine cnd hL rfl (fun hb_ => ?_) (fun hb_ => ?_)
          · replace h := h.1 hb_
            refine wp_exit ?_
            show K39 a s.w
            refine hK39 _ _ ?_
            obtain ⟨h44, h⟩ := h
            refine rg ?_
            refine st 83 (t_move (o_t 6 rfl) rfl rfl) rfl rfl hL fun a s e_ hL => ?_
            refine st 84 (t_add (o_t 83 rfl) (o_i (by decide)) h44 rfl rfl) rfl rfl hL fun a s e_ hL => ?_
            refine st 6 (t_assign (o_t 84 rfl) rfl rfl) rfl rfl hL fun a s e_ hL => ?_
            refine en' ?_
            exact hKL36 k35 a s (Nat.lt_succ_self _) ⟨(i33 + 1), hL.keep (.cons (t := 1) rfl (fun _ h_ => h_.elim) (.cons (t := 3) rfl (fun _ h_ => h_.elim) (.cons (t := 4) rfl (fun _ _ h_ => h_) (.cons (t := 6) rfl (fun _ h_ => h_.elim) .nil)))), h⟩
          · replace h := h.2 hb_
            refine wp_skip ?_
            show K40 a s.w
            refine hK40 _ _ ?_
            refine wp_seq_k fun K45 hK45 => ?_
            refine rg ?_
            refine st 7 (t_assign (o_i (by decide)) rfl rfl) rfl rfl hL fun a s e_ hL => ?_
            refine en' ?_
            show K45 a s.w
            refine hK45 _ _ ?_
            refine wp_seq_k fun K46 hK46 => ?_
            refine wp_seq_k fun K47 hK47 => ?_
            refine rg ?_
            refine st 8 (t_assign (o_i (by decide)) rfl rfl) rfl rfl hL fun a s e_ hL => ?_
            refine en' ?_
            show K47 a s.w
            refine hK47 _ _ ?_
            refine wp_block ?_
            have J49 : ∀ (first48 : Int) (a : Act) (s : St), Has N0 149 s0 a s [(1, (Pd.ptr En.STable t_)), (3, (Pd.rep (En.slice (En.int .i64)) r14)), (4, (Pd.row (En.int .i64) s0.w.heap.size 3 og22 place21)), (6, (Pd.rep (En.int .i64) i33)), (7, (Pd.rep (En.int .i64) first48))] → ((law17_SearchOrder.j2 (law17_SearchOrder.l1 t_ r14 place21 r_ (law17_SearchOrder.j1 r_) k35) r_ place21 i33) first48) → K46 a s.w := by
              intro first48 a s hL h
              unfold law17_SearchOrder.j2 at h
              show K46 a s.w
              refine hK46 _ _ ?_
              refine wp_seq_k fun K50 hK50 => ?_
              obtain ⟨e51, h52, b53, h54, h⟩ := h
              refine rg ?_
              refine st 135 (t_move (o_t 6 rfl) rfl rfl) rfl rfl hL fun a s e_ hL => ?_
              refine st 136 (t_nei (o_t 135 rfl) (o_i (by decide)) rfl rfl) rfl rfl hL fun a s e_ hL => ?_
              refine st 137 (t_move (o_t 136 rfl) rfl rfl) rfl rfl hL fun a s e_ hL => ?_
              refine st 138 (t_g1 rfl rfl rfl (fun hc_ => t_move (o_t 7 rfl) rfl rfl)) rfl rfl hL fun a s e_ hL => ?_
              refine st 139 (t_g1 rfl rfl rfl (fun hc_ => t_eqi (o_w hc_ 138 rfl) (o_i (by decide)) rfl rfl)) rfl rfl hL fun a s e_ hL => ?_
              refine st 140 (t_g1 rfl rfl rfl (fun hc_ => t_move (o_w hc_ 139 rfl) rfl rfl)) rfl rfl hL fun a s e_ hL => ?_
              refine st 141 (t_g rfl rfl rfl (fun hc_ => t_move (o_t 7 rfl) rfl rfl)) rfl rfl hL fun a s e_ hL => ?_
              refine st 142 (t_g rfl rfl rfl (fun hc_ => t_move (o_t 4 rfl) rfl rfl)) rfl rfl hL fun a s e_ hL => ?_
              refine st 143 (t_g rfl rfl rfl (fun hc_ => t_move (o_t 6 rfl) rfl rfl)) rfl rfl hL fun a s e_ hL => ?_
              refine st 144 (t_g rfl rfl rfl (fun hc_ => t_idxo (o_w hc_ 142 rfl) (o_w hc_ 143 rfl) (h52 hc_) Tryd.underlying47 ty3 rfl rfl)) rfl rfl hL fun a s e_ hL => ?_
              refine st 145 (t_g rfl rfl rfl (fun hc_ => t_loado ty3 (o_w hc_ 144 rfl) rfl rfl)) rfl rfl hL fun a s e_ hL => ?_
              refine st 146 (t_g rfl rfl rfl (fun hc_ => t_geq (o_w hc_ 141 rfl) (o_w hc_ 145 rfl) rfl rfl)) rfl rfl hL fun a s e_ hL => ?_
              refine st 147 (t_g1 rfl rfl rfl (fun hc_ => t_or (o_w hc_ 140 rfl) (fun hc2_ => (o_w (And.intro hc_ hc2_) 146 rfl)) rfl rfl)) rfl rfl hL fun a s e_ hL => ?_
              refine st 148 (h54 ▸ (t_and (o_t 137 rfl) (fun hc2_ => (o_w hc2_ 147 rfl)) rfl rfl)) rfl rfl hL fun a s e_ hL => ?_
              refine en' ?_
              show K50 a s.w
              refine hK50 _ _ ?_
              refine cnd hL rfl (fun hb_ => ?_) (fun hb_ => ?_)
              · replace h := h.1 hb_
                refine wp_seq_k fun K55 hK55 => ?_
                refine rg ?_
                refine st 2 (t_assign o_b rfl rfl) rfl rfl hL fun a s e_ hL => ?_
                refine en' ?_
                show K55 a s.w
                refine hK55 _ _ ?_
                subst h
                exact wp_ret (retq rfl hL rfl)
              · replace h := h.2 hb_
                refine wp_skip ?_
                show K39 a s.w
                refine hK39 _ _ ?_
                obtain ⟨h56, h⟩ := h
                refine rg ?_
                refine st 83 (t_move (o_t 6 rfl) rfl rfl) rfl rfl hL fun a s e_ hL => ?_
                refine st 84 (t_add (o_t 83 rfl) (o_i (by decide)) h56 rfl rfl) rfl rfl hL fun a s e_ hL => ?_
                refine st 6 (t_assign (o_t 84 rfl) rfl rfl) rfl rfl hL fun a s e_ hL => ?_
                refine en' ?_
                exact hKL36 k35 a s (Nat.lt_succ_self _) ⟨(i33 + 1), hL.keep (.cons (t := 1) rfl (fun _ h_ => h_.elim) (.cons (t := 3) rfl (fun _ h_ => h_.elim) (.cons (t := 4) rfl (fun _ _ h_ => h_) (.cons (t := 6) rfl (fun _ h_ => h_.elim) .nil)))), h⟩
            obtain ⟨k59, h⟩ := h
            refine lpg (fun k60 a s => ∃ (first57 : Int) (k58 : Int), Has N0 149 s0 a s [(1, (Pd.ptr En.STable t_)), (3, (Pd.rep (En.slice (En.int .i64)) r14)), (4, (Pd.row (En.int .i64) s0.w.heap.size 3 og22 place21)), (6, (Pd.rep (En.int .i64) i33)), (7, (Pd.rep (En.int .i64) first57)), (8, (Pd.rep (En.int .i64) k58))] ∧ law17_SearchOrder.l2 t_ r14 place21 i33 r_ (law17_SearchOrder.j2 (law17_SearchOrder.l1 t_ r14 place21 r_ (law17_SearchOrder.j1 r_) k35) r_ place21 i33) k60 first57 k58) k59 ⟨0, 0, hL.keep (.cons (t := 1) rfl (fun _ h_ => h_.elim) (.cons (t := 3) rfl (fun _ h_ => h_.elim) (.cons (t := 4) rfl (fun _ _ h_ => h_) (.cons (t := 6) rfl (fun _ h_ => h_.elim) (.cons (t := 7) rfl (fun _ h_ => h_.elim) (.cons (t := 8) rfl (fun _ h_ => h_.elim) .nil)))))), h⟩ ?_
            rintro k60 a s ⟨first57, k58, hL, h⟩ KL61 hKL61
            cases k60 with
            | zero => exact h.elim
            | succ k60 =>
            unfold law17_SearchOrder.l2 at h
            refine wp_seq_k fun K62 hK62 => ?_
            refine wp_seq_k fun K63 hK63 => ?_
            refine rg ?_
            refine st 90 (t_move (o_t 8 rfl) rfl rfl) rfl rfl hL fun a s e_ hL => ?_
            refine st 91 (t_move (o_t 3 rfl) rfl rfl) rfl rfl hL fun a s e_ hL => ?_
            refine st 92 (t_len (o_t 91 rfl) Tryd.underlying47 rfl rfl) rfl rfl hL fun a s e_ hL => ?_
            refine st 93 (t_lss (o_t 90 rfl) (o_t 92 rfl) rfl rfl) rfl rfl hL fun a s e_ hL => ?_
            refine en' ?_
            show K63 a s.w
            refine hK63 _ _ ?_
            refine cnd hL rfl (fun hb_ => ?_) (fun hb_ => ?_)
            · replace h := h.1 hb_
              refine wp_skip ?_
              show K62 a s.w
              refine hK62 _ _ ?_
              refine wp_seq_k fun K64 hK64 => ?_
              refine wp_block ?_
              refine wp_seq_k fun K65 hK65 => ?_
              refine rg ?_
              refine st 9 (t_assign (o_i (by decide)) rfl rfl) rfl rfl hL fun a s e_ hL => ?_
              refine en' ?_
              show K65 a s.w
              refine hK65 _ _ ?_
              refine wp_block ?_
              have J67 : ∀ (first66 : Int) (a : Act) (s : St), Has N0 149 s0 a s [(1, (Pd.ptr En.STable t_)), (3, (Pd.rep (En.slice (En.int .i64)) r14)), (4, (Pd.row (En.int .i64) s0.w.heap.size 3 og22 place21)), (6, (Pd.rep (En.int .i64) i33)), (7, (Pd.rep (En.int .i64) first66)), (8, (Pd.rep (En.int .i64) k58))] → ((law17_SearchOrder.j3 (law17_SearchOrder.l2 t_ r14 place21 i33 r_ (law17_SearchOrder.j2 (law17_SearchOrder.l1 t_ r14 place21 r_ (law17_SearchOrder.j1 r_) k35) r_ place21 i33) k60) k58) first66) → K64 a s.w := by
                intro first66 a s hL h
                unfold law17_SearchOrder.j3 at h
                show K64 a s.w
                refine hK64 _ _ ?_
                obtain ⟨h68, h⟩ := h
                refine rg ?_
                refine st 94 (t_move (o_t 8 rfl) rfl rfl) rfl rfl hL fun a s e_ hL => ?_
                refine st 95 (t_add (o_t 94 rfl) (o_i (by decide)) h68 rfl rfl) rfl rfl hL fun a s e_ hL => ?_
                refine st 8 (t_assign (o_t 95 rfl) rfl rfl) rfl rfl hL fun a s e_ hL => ?_
                refine en' ?_
                exact hKL61 k60 a s (Nat.lt_succ_self _) ⟨first66, (k58 + 1), hL.keep (.cons (t := 1) rfl (fun _ h_ => h_.elim) (.cons (t := 3) rfl (fun _ h_ => h_.elim) (.cons (t := 4) rfl (fun _ _ h_ => h_) (.cons (t := 6) rfl (fun _ h_ => h_.elim) (.cons (t := 7) rfl (fun _ h_ => h_.elim) (.cons (t := 8) rfl (fun _ h_ => h_.elim) .nil)))))), h⟩
              obtain ⟨k71, h⟩ := h
              refine lpg (fun k72 a s => ∃ (first69 : Int) (m70 : Int), Has N0 149 s0 a s [(1, (Pd.ptr En.STable t_)), (3, (Pd.rep (En.slice (En.int .i64)) r14)), (4, (Pd.row (En.int .i64) s0.w.heap.size 3 og22 place21)), (6, (Pd.rep (En.int .i64) i33)), (7, (Pd.rep (En.int .i64) first69)), (8, (Pd.rep (En.int .i64) k58)), (9, (Pd.rep (En.int .i64) m70))] ∧ law17_SearchOrder.l3 t_ r14 place21 i33 k58 r_ (law17_SearchOrder.j3 (law17_SearchOrder.l2 t_ r14 place21 i33 r_ (law17_SearchOrder.j2 (law17_SearchOrder.l1 t_ r14 place21 r_ (law17_SearchOrder.j1 r_) k35) r_ place21 i33) k60) k58) k72 first69 m70) k71 ⟨first57, 0, hL.keep (.cons (t := 1) rfl (fun _ h_ => h_.elim) (.cons (t := 3) rfl (fun _ h_ => h_.elim) (.cons (t := 4) rfl (fun _ _ h_ => h_) (.cons (t := 6) rfl (fun _ h_ => h_.elim) (.cons (t := 7) rfl (fun _ h_ => h_.elim) (.cons (t := 8) rfl (fun _ h_ => h_.elim) (.cons (t := 9) rfl (fun _ h_ => h_.elim) .nil))))))), h⟩ ?_
              rintro k72 a s ⟨first69, m70, hL, h⟩ KL73 hKL73
              cases k72 with
              | zero => exact h.elim
              | succ k72 =>
              unfold law17_SearchOrder.l3 at h
              refine wp_seq_k fun K74 hK74 => ?_
              refine wp_seq_k fun K75 hK75 => ?_
              obtain ⟨e76, h77, e78, h79, h⟩ := h
              refine rda follows 11 [(Pd.rep (En.int .i64) m70), (Pd.ptr (En.slice (En.slice En.SWay)) t_.1), (Pd.rep (En.slice (En.slice En.SWay)) t_.1), (Pd.rep (En.slice (En.int .i64)) r14), (Pd.rep (En.int .i64) k58), (Pd.ptr (En.int .i64) e76), (Pd.rep (En.int .i64) e76), (Pd.ptr (En.slice En.SWay) e78), (Pd.rep (En.slice En.SWay) e78), (Pd.rep (En.int .i64) (e78.length : Int)), (Pd.rep En.bool (decide (m70 < (e78.length : Int))))] hL (by kernel_rfl) rfl rfl ?_ ?_
              · refine AllT.cons (t_move (o_t 9 rfl) rfl rfl) ?_
                refine AllT.cons (t_fa (off := 0) (o_t 1 rfl) Tryd.underlying45 rfl (prt_fst (prt_all _ _)) rfl ty42 rfl rfl) ?_
                refine AllT.cons (t_load ty42 (o_t 97 rfl) rfl rfl) ?_
                refine AllT.cons (t_move (o_t 3 rfl) rfl rfl) ?_
                refine AllT.cons (t_move (o_t 8 rfl) rfl rfl) ?_
                refine AllT.cons (t_idx (o_t 99 rfl) (o_t 100 rfl) h77 Tryd.underlying47 ty3 rfl rfl) ?_
                refine AllT.cons (t_load ty3 (o_t 101 rfl) rfl rfl) ?_
                refine AllT.cons (t_idx (o_t 98 rfl) (o_t 102 rfl) h79 Tryd.underlying42 ty60 rfl rfl) ?_
                refine AllT.cons (t_load ty60 (o_t 103 rfl) rfl rfl) ?_
                refine AllT.cons (t_len (o_t 104 rfl) Tryd.underlying60 rfl rfl) ?_
                refine AllT.cons (t_lss (o_t 96 rfl) (o_t 105 rfl) rfl rfl) ?_
                exact AllT.nil
              intro a s e_ hL
              refine en' ?_
              show K75 a s.w
              refine hK75 _ _ ?_
              refine cnd hL rfl (fun hb_ => ?_) (fun hb_ => ?_)
              · replace h := h.1 hb_
                refine wp_skip ?_
                show K74 a s.w
                refine hK74 _ _ ?_
                refine wp_seq_k fun K80 hK80 => ?_
                refine wp_block ?_
                refine wp_seq_k fun K81 hK81 => ?_
                obtain ⟨e82, h83, e84, h85, e86, h87, h⟩ := h
                refine rda follows 12 [(Pd.ptr (En.slice (En.slice En.SWay)) t_.1), (Pd.rep (En.slice (En.slice En.SWay)) t_.1), (Pd.rep (En.slice (En.int .i64)) r14), (Pd.rep (En.int .i64) k58), (Pd.ptr (En.int .i64) e82), (Pd.rep (En.int .i64) e82), (Pd.ptr (En.slice En.SWay) e84), (Pd.rep (En.slice En.SWay) e84), (Pd.rep (En.int .i64) m70), (Pd.ptr En.SWay e86), (Pd.ptr (En.int .i64) e86.2), (Pd.rep (En.int .i64) e86.2)] hL (by kernel_rfl) rfl rfl ?_ ?_
                · refine AllT.cons (t_fa (off := 0) (o_t 1 rfl) Tryd.underlying45 rfl (prt_fst (prt_all _ _)) rfl ty42 rfl rfl) ?_
                  refine AllT.cons (t_load ty42 (o_t 109 rfl) rfl rfl) ?_
                  refine AllT.cons (t_move (o_t 3 rfl) rfl rfl) ?_
                  refine AllT.cons (t_move (o_t 8 rfl) rfl rfl) ?_
                  refine AllT.cons (t_idx (o_t 111 rfl) (o_t 112 rfl) h83 Tryd.underlying47 ty3 rfl rfl) ?_
                  refine AllT.cons (t_load ty3 (o_t 113 rfl) rfl rfl) ?_
                  refine AllT.cons (t_idx (o_t 110 rfl) (o_t 114 rfl) h85 Tryd.underlying42 ty60 rfl rfl) ?_
                  refine AllT.cons (t_load ty60 (o_t 115 rfl) rfl rfl) ?_
                  refine AllT.cons (t_move (o_t 9 rfl) rfl rfl) ?_
                  refine AllT.cons (t_idx (o_t 116 rfl) (o_t 117 rfl) h87 Tryd.underlying60 ty62 rfl rfl) ?_
                  refine AllT.cons (t_fa (off := 1) (o_t 118 rfl) Tryd.underlying62 rfl (prt_snd (prt_all _ _) rfl) rfl ty3 rfl rfl) ?_
                  refine AllT.cons (t_load ty3 (o_t 119 rfl) rfl rfl) ?_
                  exact AllT.nil
                intro a s e_ hL
                refine st 10 (t_assign (o_t 120 rfl) rfl rfl) rfl rfl hL fun a s e_ hL => ?_
                refine en' ?_
                show K81 a s.w
                refine hK81 _ _ ?_
                refine wp_seq_k fun K88 hK88 => ?_
                refine wp_seq_k fun K89 hK89 => ?_
                obtain ⟨e90, h91, h⟩ := h
                refine rg ?_
                refine st 121 (t_move (o_t 4 rfl) rfl rfl) rfl rfl hL fun a s e_ hL => ?_
                refine st 122 (t_move (o_t 10 rfl) rfl rfl) rfl rfl hL fun a s e_ hL => ?_
                refine st 123 (t_idxo (o_t 121 rfl) (o_t 122 rfl) h91 Tryd.underlying47 ty3 rfl rfl) rfl rfl hL fun a s e_ hL => ?_
                refine st 124 (t_loado ty3 (o_t 123 rfl) rfl rfl) rfl rfl hL fun a s e_ hL => ?_
                refine st 125 (t_eqi (o_t 124 rfl) (o_i (by decide)) rfl rfl) rfl rfl hL fun a s e_ hL => ?_
                refine en' ?_
                show K89 a s.w
                refine hK89 _ _ ?_
                refine cnd hL rfl (fun hb_ => ?_) (fun hb_ => ?_)
                · replace h := h.1 hb_
                  refine wp_seq_k fun K92 hK92 => ?_
                  refine rg ?_
                  refine st 2 (t_assign o_b rfl rfl) rfl rfl hL fun a s e_ hL => ?_
                  refine en' ?_
                  show K92 a s.w
                  refine hK92 _ _ ?_
                  subst h
                  exact wp_ret (retq rfl hL rfl)
                · replace h := h.2 hb_
                  refine wp_skip ?_
                  show K88 a s.w
                  refine hK88 _ _ ?_
                  refine wp_seq_k fun K93 hK93 => ?_
                  refine rg ?_
                  refine st 126 (t_move (o_t 10 rfl) rfl rfl) rfl rfl hL fun a s e_ hL => ?_
                  refine st 127 (t_move (o_t 6 rfl) rfl rfl) rfl rfl hL fun a s e_ hL => ?_
                  refine st 128 (t_eqi (o_t 126 rfl) (o_t 127 rfl) rfl rfl) rfl rfl hL fun a s e_ hL => ?_
                  refine st 129 (t_move (o_t 128 rfl) rfl rfl) rfl rfl hL fun a s e_ hL => ?_
                  refine st 130 (t_g1 rfl rfl rfl (fun hc_ => t_move (o_t 7 rfl) rfl rfl)) rfl rfl hL fun a s e_ hL => ?_
                  refine st 131 (t_g1 rfl rfl rfl (fun hc_ => t_eqi (o_w hc_ 130 rfl) (o_i (by decide)) rfl rfl)) rfl rfl hL fun a s e_ hL => ?_
                  refine st 132 (t_and (o_t 129 rfl) (fun hc2_ => (o_w hc2_ 131 rfl)) rfl rfl) rfl rfl hL fun a s e_ hL => ?_
                  refine en' ?_
                  show K93 a s.w
                  refine hK93 _ _ ?_
                  refine cnd hL rfl (fun hb_ => ?_) (fun hb_ => ?_)
                  · replace h := h.1 hb_
                    obtain ⟨h94, h⟩ := h
                    refine rg ?_
                    refine st 133 (t_move (o_t 8 rfl) rfl rfl) rfl rfl hL fun a s e_ hL => ?_
                    refine st 134 (t_add (o_t 133 rfl) (o_i (by decide)) h94 rfl rfl) rfl rfl hL fun a s e_ hL => ?_
                    refine st 7 (t_assign (o_t 134 rfl) rfl rfl) rfl rfl hL fun a s e_ hL => ?_
                    refine en' ?_
                    show K80 a s.w
                    refine hK80 _ _ ?_
                    obtain ⟨h95, h⟩ := h
                    refine rg ?_
                    refine st 107 (t_move (o_t 9 rfl) rfl rfl) rfl rfl hL fun a s e_ hL => ?_
                    refine st 108 (t_add (o_t 107 rfl) (o_i (by decide)) h95 rfl rfl) rfl rfl hL fun a s e_ hL => ?_
                    refine st 9 (t_assign (o_t 108 rfl) rfl rfl) rfl rfl hL fun a s e_ hL => ?_
                    refine en' ?_
                    exact hKL73 k72 a s (Nat.lt_succ_self _) ⟨(k58 + 1), (m70 + 1), hL.keep (.cons (t := 1) rfl (fun _ h_ => h_.elim) (.cons (t := 3) rfl (fun _ h_ => h_.elim) (.cons (t := 4) rfl (fun _ _ h_ => h_) (.cons (t := 6) rfl (fun _ h_ => h_.elim) (.cons (t := 7) rfl (fun _ h_ => h_.elim) (.cons (t := 8) rfl (fun _ h_ => h_.elim) (.cons (t := 9) rfl (fun _ h_ => h_.elim) .nil))))))), h⟩
                  · replace h := h.2 hb_
                    refine wp_skip ?_
                    show K80 a s.w
                    refine hK80 _ _ ?_
                    obtain ⟨h96, h⟩ := h
                    refine rg ?_
                    refine st 107 (t_move (o_t 9 rfl) rfl rfl) rfl rfl hL fun a s e_ hL => ?_
                    refine st 108 (t_add (o_t 107 rfl) (o_i (by decide)) h96 rfl rfl) rfl rfl hL fun a s e_ hL => ?_
                    refine st 9 (t_assign (o_t 108 rfl) rfl rfl) rfl rfl hL fun a s e_ hL => ?_
                    refine en' ?_
                    exact hKL73 k72 a s (Nat.lt_succ_self _) ⟨first69, (m70 + 1), hL.keep (.cons (t := 1) rfl (fun _ h_ => h_.elim) (.cons (t := 3) rfl (fun _ h_ => h_.elim) (.cons (t := 4) rfl (fun _ _ h_ => h_) (.cons (t := 6) rfl (fun _ h_ => h_.elim) (.cons (t := 7) rfl (fun _ h_ => h_.elim) (.cons (t := 8) rfl (fun _ h_ => h_.elim) (.cons (t := 9) rfl (fun _ h_ => h_.elim) .nil))))))), h⟩
              · replace h := h.2 hb_
                refine wp_exit ?_
                exact J67 first69 a s (hL.keep (.cons (t := 1) rfl (fun _ h_ => h_.elim) (.cons (t := 3) rfl (fun _ h_ => h_.elim) (.cons (t := 4) rfl (fun _ _ h_ => h_) (.cons (t := 6) rfl (fun _ h_ => h_.elim) (.cons (t := 7) rfl (fun _ h_ => h_.elim) (.cons (t := 8) rfl (fun _ h_ => h_.elim) .nil))))))) h
            · replace h := h.2 hb_
              refine wp_exit ?_
              exact J49 first57 a s (hL.keep (.cons (t := 1) rfl (fun _ h_ => h_.elim) (.cons (t := 3) rfl (fun _ h_ => h_.elim) (.cons (t := 4) rfl (fun _ _ h_ => h_) (.cons (t := 6) rfl (fun _ h_ => h_.elim) (.cons (t := 7) rfl (fun _ h_ => h_.elim) .nil)))))) h
        · replace h := h.2 hb_
          refine wp_exit ?_
          exact J31 a s (hL.keep .nil) h
    obtain ⟨k100, h⟩ := h
    refine lpg (fun k101 a s => ∃ (place97 : (List Int)) (i99 : Int) (og98 : Option Nat), Has N0 149 s0 a s [(1, (Pd.ptr En.STable t_)), (3, (Pd.rep (En.slice (En.int .i64)) r14)), (4, (Pd.row (En.int .i64) s0.w.heap.size 3 og98 place97)), (5, (Pd.rep (En.int .i64) i99))] ∧ law17_SearchOrder.l4 t_ r14 r_ (law17_SearchOrder.j4 t_ r_ r14) k101 place97 i99) k100 ⟨(List.replicate ((t_.1.length : Int) : Int).toNat 0), 0, (some g17), hL.keep (.cons (t := 1) rfl (fun _ h_ => h_.elim) (.cons (t := 3) rfl (fun _ h_ => h_.elim) (.cons (t := 4) rfl (fun _ _ h_ => h_) (.cons (t := 5) rfl (fun _ h_ => h_.elim) .nil)))), h⟩ ?_
    rintro k101 a s ⟨place97, i99, og98, hL, h⟩ KL102 hKL102
    cases k101 with
    | zero => exact h.elim
    | succ k101 =>
    unfold law17_SearchOrder.l4 at h
    refine wp_seq_k fun K103 hK103 => ?_
    refine wp_seq_k fun K104 hK104 => ?_
    refine rg ?_
    refine st 30 (t_move (o_t 5 rfl) rfl rfl) rfl rfl hL fun a s e_ hL => ?_
    refine st 31 (t_move (o_t 3 rfl) rfl rfl) rfl rfl hL fun a s e_ hL => ?_
    refine st 32 (t_len (o_t 31 rfl) Tryd.underlying47 rfl rfl) rfl rfl hL fun a s e_ hL => ?_
    refine st 33 (t_lss (o_t 30 rfl) (o_t 32 rfl) rfl rfl) rfl rfl hL fun a s e_ hL => ?_
    refine en' ?_
    show K104 a s.w
    refine hK104 _ _ ?_
    refine cnd hL rfl (fun hb_ => ?_) (fun hb_ => ?_)
    · replace h := h.1 hb_
      refine wp_skip ?_
      show K103 a s.w
      refine hK103 _ _ ?_
      refine wp_seq_k fun K105 hK105 => ?_
      refine wp_block ?_
      refine wp_seq_k fun K106 hK106 => ?_
      refine wp_seq_k fun K107 hK107 => ?_
      obtain ⟨e108, h109, e110, h111, b112, h113, e114, h115, e116, h117, h⟩ := h
      refine rda follows 25 [(Pd.rep (En.slice (En.int .i64)) r14), (Pd.rep (En.int .i64) i99), (Pd.ptr (En.int .i64) e108), (Pd.rep (En.int .i64) e108), (Pd.rep En.bool (decide (e108 < 0))), (Pd.rep En.bool (decide (e108 < 0))), (Pd.when ((decide (e108 < 0)) = false) (Pd.rep (En.slice (En.int .i64)) r14)), (Pd.when ((decide (e108 < 0)) = false) (Pd.rep (En.int .i64) i99)), (Pd.when ((decide (e108 < 0)) = false) (Pd.ptr (En.int .i64) e110)), (Pd.when ((decide (e108 < 0)) = false) (Pd.rep (En.int .i64) e110)), (Pd.when ((decide (e108 < 0)) = false) (Pd.ptr (En.slice (En.slice En.SWay)) t_.1)), (Pd.when ((decide (e108 < 0)) = false) (Pd.rep (En.slice (En.slice En.SWay)) t_.1)), (Pd.when ((decide (e108 < 0)) = false) (Pd.rep (En.int .i64) (t_.1.length : Int))), (Pd.when ((decide (e108 < 0)) = false) (Pd.rep En.bool (decide ((t_.1.length : Int) ≤ e110)))), (Pd.rep En.bool b112), (Pd.rep En.bool b112), (Pd.when ((b112) = false) (Pd.row (En.int .i64) s0.w.heap.size 3 og98 place97)), (Pd.when ((b112) = false) (Pd.rep (En.slice (En.int .i64)) r14)), (Pd.when ((b112) = false) (Pd.rep (En.int .i64) i99)), (Pd.when ((b112) = false) (Pd.ptr (En.int .i64) e114)), (Pd.when ((b112) = false) (Pd.rep (En.int .i64) e114)), (Pd.when ((b112) = false) (Pd.optr (En.int .i64) s0.w.heap.size og98 ((e114 : Int).toNat * (En.int .i64).sz) e116)), (Pd.when ((b112) = false) (Pd.rep (En.int .i64) e116)), (Pd.when ((b112) = false) (Pd.rep En.bool (decide (0 < e116)))), (Pd.rep En.bool (b112 || (decide (0 < e116))))] hL (by kernel_rfl) rfl rfl ?_ ?_
      · refine AllT.cons (t_move (o_t 3 rfl) rfl rfl) ?_
        refine AllT.cons (t_move (o_t 5 rfl) rfl rfl) ?_
        refine AllT.cons (t_idx (o_t 36 rfl) (o_t 37 rfl) h109 Tryd.underlying47 ty3 rfl rfl) ?_
        refine AllT.cons (t_load ty3 (o_t 38 rfl) rfl rfl) ?_
        refine AllT.cons (t_lss (o_t 39 rfl) (o_i (by decide)) rfl rfl) ?_
        refine AllT.cons (t_move (o_t 40 rfl) rfl rfl) ?_
        refine AllT.cons (t_g1 rfl rfl rfl (fun hc_ => t_move (o_t 3 rfl) rfl rfl)) ?_
        refine AllT.cons (t_g1 rfl rfl rfl (fun hc_ => t_move (o_t 5 rfl) rfl rfl)) ?_
        refine AllT.cons (t_g1 rfl rfl rfl (fun hc_ => t_idx (o_w hc_ 42 rfl) (o_w hc_ 43 rfl) (h111 hc_) Tryd.underlying47 ty3 rfl rfl)) ?_
        refine AllT.cons (t_g1 rfl rfl rfl (fun hc_ => t_load ty3 (o_w hc_ 44 rfl) rfl rfl)) ?_
        refine AllT.cons (t_g1 rfl rfl rfl (fun hc_ => t_fa (off := 0) (o_t 1 rfl) Tryd.underlying45 rfl (prt_fst (prt_all _ _)) rfl ty42 rfl rfl)) ?_
        refine AllT.cons (t_g1 rfl rfl rfl (fun hc_ => t_load ty42 (o_w hc_ 46 rfl) rfl rfl)) ?_
        refine AllT.cons (t_g1 rfl rfl rfl (fun hc_ => t_len (o_w hc_ 47 rfl) Tryd.underlying42 rfl rfl)) ?_
        refine AllT.cons (t_g1 rfl rfl rfl (fun hc_ => t_geq (o_w hc_ 45 rfl) (o_w hc_ 48 rfl) rfl rfl)) ?_
        refine AllT.cons (h113 ▸ (t_or (o_t 41 rfl) (fun hc2_ => (o_w hc2_ 49 rfl)) rfl rfl)) ?_
        refine AllT.cons (t_move (o_t 50 rfl) rfl rfl) ?_
        refine AllT.cons (t_g1 rfl rfl rfl (fun hc_ => t_move (o_t 4 rfl) rfl rfl)) ?_
        refine AllT.cons (t_g1 rfl rfl rfl (fun hc_ => t_move (o_t 3 rfl) rfl rfl)) ?_
        refine AllT.cons (t_g1 rfl rfl rfl (fun hc_ => t_move (o_t 5 rfl) rfl rfl)) ?_
        refine AllT.cons (t_g1 rfl rfl rfl (fun hc_ => t_idx (o_w hc_ 53 rfl) (o_w hc_ 54 rfl) (h115 hc_) Tryd.underlying47 ty3 rfl rfl)) ?_
        refine AllT.cons (t_g1 rfl rfl rfl (fun hc_ => t_load ty3 (o_w hc_ 55 rfl) rfl rfl)) ?_
        refine AllT.cons (t_g1 rfl rfl rfl (fun hc_ => t_idxo (o_w hc_ 52 rfl) (o_w hc_ 56 rfl) (h117 hc_) Tryd.underlying47 ty3 rfl rfl)) ?_
        refine AllT.cons (t_g1 rfl rfl rfl (fun hc_ => t_loado ty3 (o_w hc_ 57 rfl) rfl rfl)) ?_
        refine AllT.cons (t_g1 rfl rfl rfl (fun hc_ => t_gtr (o_w hc_ 58 rfl) (o_i (by decide)) rfl rfl)) ?_
        refine AllT.cons (t_or (o_t 51 rfl) (fun hc2_ => (o_w hc2_ 59 rfl)) rfl rfl) ?_
        exact AllT.nil
      intro a s e_ hL
      refine en' ?_
      show K107 a s.w
      refine hK107 _ _ ?_
      refine cnd hL rfl (fun hb_ => ?_) (fun hb_ => ?_)
      · replace h := h.1 hb_
        refine wp_seq_k fun K118 hK118 => ?_
        refine rg ?_
        refine st 2 (t_assign o_b rfl rfl) rfl rfl hL fun a s e_ hL => ?_
        refine en' ?_
        show K118 a s.w
        refine hK118 _ _ ?_
        subst h
        exact wp_ret (retq rfl hL rfl)
      · replace h := h.2 hb_
        refine wp_skip ?_
        show K106 a s.w
        refine hK106 _ _ ?_
        obtain ⟨e119, h120, h121, e122, h123, h⟩ := h
        refine rg ?_
        refine st 61 (t_move (o_t 4 rfl) rfl rfl) rfl rfl hL fun a s e_ hL => ?_
        refine st 62 (t_move (o_t 3 rfl) rfl rfl) rfl rfl hL fun a s e_ hL => ?_
        refine st 63 (t_move (o_t 5 rfl) rfl rfl) rfl rfl hL fun a s e_ hL => ?_
        refine st 64 (t_idx (o_t 62 rfl) (o_t 63 rfl) h120 Tryd.underlying47 ty3 rfl rfl) rfl rfl hL fun a s e_ hL => ?_
        refine st 65 (t_load ty3 (o_t 64 rfl) rfl rfl) rfl rfl hL fun a s e_ hL => ?_
        refine st 66 (t_move (o_t 5 rfl) rfl rfl) rfl rfl hL fun a s e_ hL => ?_
        refine st 67 (t_add (o_t 66 rfl) (o_i (by decide)) h121 rfl rfl) rfl rfl hL fun a s e_ hL => ?_
        refine st 68 (t_idxo (o_t 61 rfl) (o_t 65 rfl) h123 Tryd.underlying47 ty3 rfl rfl) rfl rfl hL fun a s e_ hL => ?_
        refine st_stor (L' := [(1, (Pd.ptr En.STable t_)), (3, (Pd.rep (En.slice (En.int .i64)) r14)), (4, (Pd.row (En.int .i64) s0.w.heap.size 3 og98 (place97.set (e119 : Int).toNat (i99 + 1)))), (5, (Pd.rep (En.int .i64) i99))]) (off := 0) 4 hL rfl h123 (o_t 68 rfl) (o_t 67 rfl) (sub_all _ _ _) ty3 rfl rfl rfl (.cons (t := 1) rfl (fun _ h_ => h_.elim) (.cons (t := 3) rfl (fun _ h_ => h_.elim) (.turn (t := 4) rfl (.cons (t := 5) rfl (fun _ h_ => h_.elim) .nil)))) fun s hL => ?_
        refine en' ?_
        show K105 a s.w
        refine hK105 _ _ ?_
        obtain ⟨h124, h⟩ := h
        refine rg ?_
        refine st 34 (t_move (o_t 5 rfl) rfl rfl) rfl rfl hL fun a s e_ hL => ?_
        refine st 35 (t_add (o_t 34 rfl) (o_i (by decide)) h124 rfl rfl) rfl rfl hL fun a s e_ hL => ?_
        refine st 5 (t_assign (o_t 35 rfl) rfl rfl) rfl rfl hL fun a s e_ hL => ?_
        refine en' ?_
        exact hKL102 k101 a s (Nat.lt_succ_self _) ⟨(place97.set (e119 : Int).toNat (i99 + 1)), (i99 + 1), og98, hL.keep (.cons (t := 1) rfl (fun _ h_ => h_.elim) (.cons (t := 3) rfl (fun _ h_ => h_.elim) (.cons (t := 4) rfl (fun _ _ h_ => h_) (.cons (t := 5) rfl (fun _ h_ => h_.elim) .nil)))), h⟩
    · replace h := h.2 hb_
      refine wp_exit ?_
      exact J23 place97 og98 a s (hL.keep (.cons (t := 1) rfl (fun _ h_ => h_.elim) (.cons (t := 3) rfl (fun _ h_ => h_.elim) (.cons (t := 4) rfl (fun _ _ h_ => h_) .nil)))) h
end Go.Proofs.YtdfnbogkniikbaaDoor.V
