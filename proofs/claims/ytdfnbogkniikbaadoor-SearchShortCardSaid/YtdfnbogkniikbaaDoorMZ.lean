/-
  What strconv.Itoa computes; the literal in search.Things, which appends to a captured variable.
-/
import Derived.Test.YtdfnbogkniikbaaDoorMK
import Derived.Test.YtdfnbogkniikbaaDoorY
import Derived.WalkKit
import Derived.Lib.AppendIntMem
import Derived.Lib.ItoaLen
namespace Go.Proofs.YtdfnbogkniikbaaDoor.V
open Go Go.Shelf Go.RowKit
set_option linter.unusedVariables false

theorem strconv_Itoa_ok {i_ : Int} {r_ : Str} (h : strconv_Itoa i_ r_) : Fn Tryd.prog 46 [(Pd.rep (En.int .i64) i_)] (Rq (Pd.rep En.str r_)) := by
  obtain ⟨hn, rfl⟩ := h
  refine ⟨call_of Tryd.func46 rfl (by rfl), fun s vs hgl hv => ?_⟩
  match vs, hv with
  | [v], ⟨hv, _⟩ =>
    obtain ⟨rfl, hr⟩ := rep_int.1 hv
    have fin : ∀ (x : Str) (w' : World), x.length ≤ 9223372036854775807 → Below s.w.heap.size s.w w' → ∃ (v : Value) (s' : St), Ending.returned (.string ⟨x.toArray⟩) = .returned v ∧ s'.w = w' ∧ Ex s s' ∧ Rq (Pd.rep En.str x) s s' v := fun x w' hx hb =>
      ⟨_, ⟨w', s.X, fun b hb' => Nat.lt_of_lt_of_le (s.lt b hb') hb.size⟩, rfl, rfl, ⟨⟨hb.os, hb.tape, hb.output, hb.size, fun b hb' _ => hb.block b hb', fun _ h => h.elim, fun b h => .inl h⟩, fun b h => h⟩, rep_str.2 ⟨rfl, hx⟩⟩
    have htab : Lib.TabIs Tryd.prog s.w "internal/strconv.uint64pow10" .u64 Lib.pow10Tab := by
      obtain ⟨_, t, fr, h2⟩ := hgl _ (by unfold gtab; exact List.mem_singleton.2 rfl)
      unfold Lib.TabIs World.var?
      have hg : Tryd.prog.globalNamed "internal/strconv.uint64pow10" = some 0 := by kernel_rfl
      rw [hg]
      simp only [Option.bind_some]
      rw [h2]
      simp [Lib.pow10Tab]
    have hb := inR_i64.1 hn
    have hl := Lib.itoa_length_le i_ hb.1 hb.2
    refine (b_itoa i_ hb.1 hb.2 s.w htab).mono fun e w' ⟨he, k, os, hw⟩ => ?_
    subst he; subst hw
    exact fin _ _ (by omega) (Lib.below_grow _ s.w (Nat.le_refl _) k os)

/-- A variable that holds v0. -/
def Pd.cv (c : Nat) (v0 : Value) (t : TypeId) : Pd :=
  ⟨fun s _ => s.X c ∧ s.w.heap[c]? = some (.cells #[v0] t (0, 0)), fun b => b = c, fun {T s s' v} h hb hp => ⟨(hb c rfl).2 hp.1, by rw [h.blk c (Array.getElem?_eq_some_iff.1 hp.2).1 (hb c rfl).1]; exact hp.2⟩⟩
/-- What is known of a value, whatever the slot. -/
def Pd.at (v0 : Value) (q : Pd) : Pd := ⟨fun s _ => q.p s v0, q.own, fun h hb hp => q.mv h hb hp⟩
theorem row_one {α : Type} {E : En α} {N : Nat} {te : TypeId} {og : Option Nat} {xs : List α} {s : St} {v : Value} (h : (Pd.row E N te og xs).p s v) : v.oneCell' = true := by
  obtain ⟨_, _, _, _, _, h5⟩ := h
  rcases h5.2 with ⟨e, _⟩ | ⟨g, cap, cur, e, _⟩ <;> (rw [e]; rfl)

theorem t_loadcv {P : Program} {ops : Array Oper} {o : Oper} {L : Lst} {t c : Nat} {tt : TypeId} {v0 : Value} (hE : Ty P t En.raw) {x g : Nat} (hx : lk L x = some (Pd.is (.pointer (some ⟨c, 0, none⟩)))) (hc : lk L g = some (Pd.cv c v0 tt)) (h1 : v0.oneCell' = true) (ho : o.op = .load t (.tmp x)) (hg : o.guard = none) : T P ops o L (Pd.is v0) :=
  T.pure hg fun M n s0 a s hL => by
    have hv : a.eval (.tmp x) = _ := hL.get x hx
    obtain ⟨_, hcell⟩ := hL.get g hc
    refine ⟨v0, ?_, rfl⟩
    have hl : (loadVar t ⟨c, 0, none⟩).run P s.w = .ok (En.raw.val [v0]) s.w := run_loadVarE (E := En.raw) hE (w' := s.w) (S := fun _ => True) ⟨rfl, h1⟩ (cellsAt_block (cs := [v0]) hcell)
    unfold execOp; rw [ho]; simp [hv, Instr.loadAt, Instr.sureAddr, hl, En.val, En.raw]

theorem Ef.comp {T T' : Nat → Prop} {a b c : St} (h : Ef T a b) (k : Ef T' b c) (hT' : ∀ x, T' x → T x ∨ a.w.heap.size ≤ x) : Ef T a c :=
  ⟨⟨k.mv.os.trans h.mv.os, k.mv.tape.trans h.mv.tape, k.mv.output.trans h.mv.output, Nat.le_trans h.mv.size k.mv.size,
    fun x hx hn => (k.mv.blk x (Nat.lt_of_lt_of_le hx h.mv.size) (fun ht => (hT' x ht).elim hn (fun hs => by omega))).trans (h.mv.blk x hx hn), h.mv.tx,
    fun x hx => (k.mv.xx x hx).elim (fun j => h.mv.xx x j) (fun j => .inr (Nat.le_trans h.mv.size j))⟩,
   fun x hx hn => k.keep x (h.keep x hx hn) (fun ht => (hT' x ht).elim hn (fun hs => by have := a.lt x hx; omega))⟩

set_option maxRecDepth 100000 in
theorem hit55 : HitOk Tryd.prog 55 3 := by
  refine ⟨call_of Tryd.func55 rfl (by rfl), fun N c og xs x s v hgl hN hlen hx hgh => ?_⟩
  obtain ⟨hXc, hne, v0, tt, hcell, hrow⟩ := hgh
  refine calls_of_wp Tryd.func55 rfl ?_
  have h0 : Has N0 8 s { tmps := #[v, .pointer (some ⟨c, 0, none⟩)] ++ Array.replicate (Tryd.f55.ntmps - #[v, Value.pointer (some ⟨c, 0, none⟩)].size) undef, defers := [] } s
      [(999901, Pd.cv c v0 tt), (999902, Pd.at v0 (Pd.row (En.int .i64) N 3 og xs)), (0, Pd.rep (En.int .i64) x), (1, Pd.is (.pointer (some ⟨c, 0, none⟩)))] :=
    ((((⟨by rfl, rfl, Fr.refl (fun _ h => h.elim), hgl, fun t q e => by cases e⟩ : Has N0 8 s _ s []).cons 1 (by rfl)).cons 0 hx).cons 999902 hrow).cons 999901 ⟨hXc, hcell⟩
  refine wp_seq_k fun K1 hK1 => ?_
  refine rg ?_
  refine st 3 (t_assign o_b rfl rfl) rfl rfl h0 fun a s1 e1 hL => ?_
  refine en' ?_
  show K1 a s1.w; refine hK1 _ _ ?_
  refine wp_seq_k fun K2 hK2 => ?_
  refine rg ?_
  refine st 4 (t_loadcv ⟨ty47.info, ty47.agg⟩ (x := 1) (g := 999901) rfl rfl (row_one hrow) rfl rfl) rfl rfl hL fun a s2 e2 hL => ?_
  refine st 5 (t_move (o_t 0 rfl) rfl rfl) rfl rfl hL fun a s3 e3 hL => ?_
  refine st 6 (t_lit (xs := [.tmp 5]) (.cons (o_t 5 rfl) .nil) Tryd.underlying47 ty3 rfl rfl (by decide) rfl rfl) rfl rfl hL fun a s4 e4 hL => ?_
  have hrow4 : (Pd.row (En.int .i64) N 3 og xs).p s4 v0 := hL.get 999902 rfl
  have h4 : a.eval (.tmp 4) = v0 := hL.get 4 rfl
  have hy := rep_slice.1 (hL.get 6 rfl)
  obtain ⟨hX4, hc4⟩ : s4.X c ∧ s4.w.heap[c]? = some (.cells #[v0] tt (0, 0)) := hL.get 999901 rfl
  have e04 : Ex s s4 := hL.ent.ex
  obtain ⟨v', s5, og', hr, eA, hq, hf⟩ := run_app Tryd.underlying47 ty3 hrow4 hy (Nat.le_trans hN e04.mv.size) (by simpa using hlen) 47
  have hlt4 := (Array.getElem?_eq_some_iff.1 hc4).1
  have hc5 : s5.w.heap[c]? = some (.cells #[v0] tt (0, 0)) := by rw [eA.mv.blk c hlt4 (fun e => hne e)]; exact hc4
  have hX5 : s5.X c := eA.keep c hX4 (fun e => hne e)
  have hne' : og' ≠ some c := fun e => (hf c e).elim hne (fun hs => by omega)
  refine wpList_plain rfl fun K hK => ?_
  unfold Oper.wp execOp
  simp only [resolve, invoke, builtin, Sem.run_bind, Sem.run_pure, Result.andThen_ok, List.map_toArray, List.map_cons, List.map_nil, h4, hr]
  refine hK _ _ ?_
  have hst := run_storeE (E := En.raw) (⟨ty47.info, ty47.agg⟩ : Ty Tryd.prog 47 En.raw) (w := s5.w) (w' := s5.w) (S := fun _ => True) (cs := [v']) ⟨rfl, row_one hq⟩ (g := c) (off := 0) (cur := [v0]) hc5 (by simp [En.raw])
  have hE6 : Ef (fun b => b = c) s5 (s5.set c [v']) := Ef.set s5 [v'] (fun b => Iff.rfl) hX5
  refine wp_store (s := s5) (w' := (s5.set c [v']).w) ?_ rfl rfl rfl ?_
  · have e1 : (a.put (some 7) v').eval (.tmp 1) = .pointer (some ⟨c, 0, none⟩) := by rw [eval_put_ne (by decide)]; exact hL.get 1 rfl
    have e7 : (a.put (some 7) v').eval (.tmp 7) = v' := eval_put_same hL.size (by rfl)
    rw [e1, e7]; exact hst
  refine en' ?_
  show K2 _ (s5.set c [v']).w; refine hK2 _ _ ?_
  have h6 : Has N0 8 (s5.set c [v']) (a.put (some 7) v') (s5.set c [v']) [] :=
    ⟨by simp [Act.put, hL.size], hL.defers, Fr.refl (fun _ h => h.elim), ((hgl.mv e04.mv).mv eA.mv).mv hE6.mv, fun t q e => by cases e⟩
  refine wp_seq_k fun K3 hK3 => ?_
  refine rg ?_
  refine st 3 (t_assign o_b rfl rfl) rfl rfl h6 fun a s7 e7 hL7 => ?_
  refine en' ?_
  show K3 a s7.w; refine hK3 _ _ ?_
  refine wp_ret ⟨hL7.defers, _, results_tmp rfl a.tmps _ s7.w, s7, og', ?_, rfl, ?_, ?_, ?_, ?_⟩
  · exact congrArg Ending.returned (rep_bool.1 (hL7.get 3 rfl))
  · have hTx : ∀ b, (some c = some b ∨ og = some b) → s.X b := fun b hb => hb.elim (fun e => by cases e; exact hXc) (fun e => hrow.2.1 b e)
    exact (((e04.ef _ hTx).comp eA (fun b hb => .inl (.inr hb))).comp hE6 (fun b hb => .inl (.inl (by rw [hb])))).comp (e7.ef (fun _ => False) (fun _ h => h.elim)) (fun _ h => h.elim)
  · exact e7.keep c hX5
  · exact fun b hb => (hf b hb).imp id (fun h => Nat.le_trans e04.mv.size h)
  · have hg6 : Gh (En.int .i64) N 3 c og' (xs ++ [x]) (s5.set c [v']) :=
      ⟨hX5, hne', v', tt, setRow_heap s5.w c #[v0] _ tt (0, 0) hc5, (Pd.row (En.int .i64) N 3 og' (xs ++ [x])).mv hE6.mv (fun b hb => ⟨fun e => hne' (by rw [hb, e]), fun h => h⟩) hq⟩
    exact hg6.mv e7.mv (fun b hb => ⟨fun h => h, e7.keep b⟩)
end Go.Proofs.YtdfnbogkniikbaaDoor.V
