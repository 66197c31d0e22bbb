/-
  What changes memory: variables that are written, appends, stores into rows; what is kept beside; calls; tests; loops. No program is named here.
-/
import Derived.Test.YtdfnbogkniikbaaDoorA2
import Derived.Laws.AppendOwnNone
namespace Go.Proofs.YtdfnbogkniikbaaDoor.V
open Go
set_option linter.unusedVariables false

/-- An effect on the owned blocks of T. -/
structure Ef (T : Nat → Prop) (s s' : St) : Prop where
  mv : Mv T s s'
  keep : ∀ b, s.X b → ¬ T b → s'.X b

theorem Ex.ef {s s' : St} (e : Ex s s') (T : Nat → Prop) (h : ∀ b, T b → s.X b) : Ef T s s' :=
  ⟨⟨e.mv.os, e.mv.tape, e.mv.output, e.mv.size, fun b hb _ => e.mv.blk b hb id, h, e.mv.xx⟩, fun b hb _ => e.keep b hb⟩

theorem Ef.ex {M T : Nat → Prop} {s0 s s' : St} (h : Fr M s0 s) (e : Ef T s s') (hT : ∀ b, T b → s0.w.heap.size ≤ b) : Fr M s0 s' :=
  ⟨⟨e.mv.os.trans h.mv.os, e.mv.tape.trans h.mv.tape, e.mv.output.trans h.mv.output, Nat.le_trans h.mv.size e.mv.size,
    fun b hb hn => (e.mv.blk b (Nat.lt_of_lt_of_le hb h.mv.size) (fun ht => by have := hT b ht; omega)).trans (h.mv.blk b hb hn), h.mv.tx,
    fun b hb => (e.mv.xx b hb).elim (fun j => h.mv.xx b j) (fun j => .inr (Nat.le_trans h.mv.size j))⟩,
   fun b hb => e.keep b (h.keep b hb) (fun ht => by have := hT b ht; have := s0.lt b hb; omega)⟩

/-- What is kept beside an effect on T: entries of L that own nothing of T. -/
inductive Kp (T : Nat → Prop) (L : Lst) : Lst → Prop
  | nil : Kp T L []
  | cons {t : Nat} {q : Pd} {r : Lst} (hl : lk L t = some q) (hq : ∀ b, q.own b → ¬ T b) (hr : Kp T L r) : Kp T L ((t, q) :: r)

theorem Kp.s {T : Nat → Prop} {L : Lst} {t : Nat} {q : Pd} {r : Lst} (hr : Kp T L r) (hl : lk L t = some q) (hq : q.Stable) : Kp T L ((t, q) :: r) := .cons hl (fun b hb => (hq b hb).elim) hr

theorem Kp.get {T : Nat → Prop} {L L' : Lst} (h : Kp T L L') : ∀ t q, lk L' t = some q → lk L t = some q ∧ ∀ b, q.own b → ¬ T b := by
  induction h with
  | nil => intro t q h; cases h
  | cons hl hq _ ih =>
    rename_i d q' r _
    intro t q h
    unfold lk at h
    by_cases ht : d = t
    · subst ht; simp at h; subst h; exact ⟨hl, hq⟩
    · rw [beq_no ht] at h; exact ih t q h

theorem Has.ef {M : Nat → Prop} {n : Nat} {s0 : St} {a : Act} {s s' : St} {L L' : Lst} {T : Nat → Prop} (h : Has M n s0 a s L) (e : Ef T s s') (hT : ∀ b, T b → s0.w.heap.size ≤ b) (hk : Kp T L L') : Has M n s0 a s' L' where
  size := h.size
  defers := h.defers
  ent := e.ex h.ent hT
  gl := h.gl
  at_ := fun t q hl => let ⟨h1, h2⟩ := hk.get t q hl; q.mv e.mv (fun b hb => ⟨h2 b hb, fun hx => e.keep b hx (h2 b hb)⟩) (h.at_ t q h1)

/-- The effect is on blocks that the function may change. -/
theorem Ef.exm {M T : Nat → Prop} {s0 s s' : St} (h : Fr M s0 s) (e : Ef T s s') (hT : ∀ b, T b → M b) (hk : ∀ b, s.X b → s'.X b) : Fr M s0 s' :=
  ⟨⟨e.mv.os.trans h.mv.os, e.mv.tape.trans h.mv.tape, e.mv.output.trans h.mv.output, Nat.le_trans h.mv.size e.mv.size,
    fun b hb hn => (e.mv.blk b (Nat.lt_of_lt_of_le hb h.mv.size) (fun ht => hn (hT b ht))).trans (h.mv.blk b hb hn), h.mv.tx,
    fun b hb => (e.mv.xx b hb).elim (fun j => h.mv.xx b j) (fun j => .inr (Nat.le_trans h.mv.size j))⟩, fun b hb => hk b (h.keep b hb)⟩
theorem Has.efm {M : Nat → Prop} {n : Nat} {s0 : St} {a : Act} {s s' : St} {L L' : Lst} {T : Nat → Prop} (h : Has M n s0 a s L) (e : Ef T s s') (hT : ∀ b, T b → M b) (hX : ∀ b, s.X b → s'.X b) (hk : Kp T L L') : Has M n s0 a s' L' where
  size := h.size
  defers := h.defers
  ent := e.exm h.ent hT hX
  gl := h.gl
  at_ := fun t q hl => let ⟨h1, h2⟩ := hk.get t q hl; q.mv e.mv (fun b hb => ⟨h2 b hb, fun hx => e.keep b hx (h2 b hb)⟩) (h.at_ t q h1)

theorem Has.efw {M : Nat → Prop} {n : Nat} {s0 : St} {a : Act} {s s' : St} {L L' : Lst} {T : Nat → Prop} (h : Has M n s0 a s L) (e : Ef T s s') (hT : (∀ b, T b → s0.w.heap.size ≤ b) ∨ ∀ b, T b → M b) (hX : ∀ b, s.X b → s'.X b) (hk : Kp T L L') : Has M n s0 a s' L' :=
  hT.elim (fun hT => h.ef e hT hk) (fun hT => h.efm e hT hX hk)

/-- What is kept beside an effect on T, and entries q that are turned to q'. -/
inductive Kw (T : Nat → Prop) (L : Lst) (q q' : Pd) : Lst → Prop
  | nil : Kw T L q q' []
  | cons {t : Nat} {r : Pd} {l : Lst} (hl : lk L t = some r) (hq : ∀ b, r.own b → ¬ T b) (hr : Kw T L q q' l) : Kw T L q q' ((t, r) :: l)
  | turn {t : Nat} {l : Lst} (hl : lk L t = some q) (hr : Kw T L q q' l) : Kw T L q q' ((t, q') :: l)

theorem Has.turn {M : Nat → Prop} {n : Nat} {s0 : St} {a : Act} {s s' : St} {L L' : Lst} {T : Nat → Prop} {q q' : Pd} (h : Has M n s0 a s L) (e : Ef T s s') (hT : (∀ b, T b → s0.w.heap.size ≤ b) ∨ ∀ b, T b → M b) (hX : ∀ b, s.X b → s'.X b) (hk : Kw T L q q' L')
    (ht : ∀ v, q.p s v → q'.p s' v) : Has M n s0 a s' L' := by
  have h0 : Has M n s0 a s' [] := h.efw e hT hX .nil
  induction hk with
  | nil => exact h0
  | cons hl hq _ ih => exact ih.cons _ (Pd.mv _ e.mv (fun b hb => ⟨hq b hb, fun hx => e.keep b hx (hq b hb)⟩) (h.at_ _ _ hl))
  | turn hl _ ih => exact ih.cons _ (ht _ (h.at_ _ _ hl))

theorem Has.put' {M : Nat → Prop} {n : Nat} {s0 : St} {a : Act} {s : St} {L : Lst} (h : Has M n s0 a s L) {d : Nat} (hd : Nat.blt d n = true) {v : Value} {q : Pd} (hq : q.p s v) : Has M n s0 (a.put (some d) v) s ((d, q) :: L) := h.put (Ex.refl s) hd hq

/-- Things are laid aside: the frame and the state stay, less is known. -/
theorem Has.keep {M : Nat → Prop} {n : Nat} {s0 : St} {a : Act} {s : St} {L L' : Lst} (h : Has M n s0 a s L) (hk : Kp (fun _ => False) L L') : Has M n s0 a s L' := h.sub fun t q hl => h.at_ t q (hk.get t q hl).1

/-- An owned row is given away: from now on nobody writes it. -/
theorem Has.freeze {α : Type} {E : En α} {te : TypeId} {og : Option Nat} {xs : List α} {M : Nat → Prop} {n : Nat} {s0 : St} {a : Act} {s : St} {L L' : Lst} (h : Has M n s0 a s L) (t : Nat) (hl : lk L t = some (Pd.row E s0.w.heap.size te og xs))
    (hk : Kp (fun b => og = some b) L L') : ∃ s', s'.w = s.w ∧ Has M n s0 a s' ((t, Pd.rep (En.slice E) xs) :: L') := by
  have ho := h.get t hl
  have hlt : ∀ b, og = some b → s0.w.heap.size ≤ b := by
    intro b hb
    obtain ⟨h1, h2, h3, css, h4, h5⟩ := ho
    exact (h5.lt b (by rw [h1]; exact hb)).1
  refine ⟨⟨s.w, fun b => s.X b ∧ og ≠ some b, fun b hb => s.lt b hb.1⟩, rfl, ?_⟩
  have e : Ef (fun b => og = some b) s ⟨s.w, fun b => s.X b ∧ og ≠ some b, fun b hb => s.lt b hb.1⟩ :=
    ⟨⟨rfl, rfl, rfl, Nat.le_refl _, fun _ _ _ => rfl, fun b hb => ho.2.1 b hb, fun b hb => .inl hb.1⟩, fun b hb hn => ⟨hb, hn⟩⟩
  exact (h.ef e hlt hk).cons t (rep_slice.2 (own_slV ho rfl fun b hb => hb))

section
variable {P : Program} {ops : Array Oper} {o : Oper} {L : Lst}

/-! ### slices written out, appends -/
/-- Cells, with others written from a place on. -/
def spl (cells : List Value) (off : Nat) (cs : List Value) : List Value := cells.take off ++ cs ++ cells.drop (off + cs.length)
theorem spl_len {cells cs : List Value} {off : Nat} (h : off + cs.length ≤ cells.length) : (spl cells off cs).length = cells.length := by simp [spl]; omega

theorem fill_step {place : Nat → Option (Nat × Nat)} {cells cs : List Value} {v : Value} {i off size : Nat} {rest : List (Nat × Value)} (hp : place i = some (off, size)) (hv : v.cells = cs.toArray) (hs : cs.length = size)
    (hl : off + size ≤ cells.length) : Instr.fill place cells.toArray ((i, v) :: rest) = Instr.fill place (spl cells off cs).toArray rest := by
  conv => lhs; unfold Instr.fill
  simp only [hp, hv]
  rw [if_neg (by simp [hs]; omega)]
  congr 1
  apply Array.ext_getElem?
  intro j
  rw [← Array.foldl_toList, Array.toList_zipIdx]
  have key : ∀ (l : List Value) (k : Nat) (acc : Array Value), off + k + l.length ≤ acc.size → (List.foldl (fun cs (x : Value × Nat) => match x with | (c, j) => cs.setIfInBounds (off + j) c) acc (l.zipIdx k))[j]? = if off + k ≤ j ∧ j < off + k + l.length then l[j - (off + k)]? else acc[j]? := by
    intro l
    induction l with
    | nil => intro k acc _; simp; omega
    | cons u r ih =>
      intro k acc hk
      simp only [List.zipIdx_cons, List.foldl_cons]
      rw [ih (k + 1) _ (by simp at hk ⊢; omega)]
      by_cases h1 : off + (k + 1) ≤ j ∧ j < off + (k + 1) + r.length
      · rw [if_pos h1, if_pos (by simp; omega), show j - (off + k) = (j - (off + (k + 1))) + 1 by omega]; simp
      · rw [if_neg h1]
        by_cases h2 : j = off + k
        · subst h2; rw [if_pos (by simp)]; simp at hk; simp [show off + k < acc.size by omega]
        · rw [if_neg (by simp; omega), Array.getElem?_setIfInBounds_ne (Ne.symm h2)]
  rw [key cs 0 cells.toArray (by simp; omega)]
  simp only [Nat.add_zero, spl, List.getElem?_toArray]
  by_cases h1 : j < off
  · rw [if_neg (by omega), List.append_assoc, List.getElem?_append_left (by simp; omega), List.getElem?_take, if_pos h1]
  · by_cases h2 : j < off + cs.length
    · rw [if_pos (by omega), List.append_assoc, List.getElem?_append_right (by simp; omega), List.getElem?_append_left (by simp; omega)]
      congr 1; simp; omega
    · rw [if_neg (by omega), List.getElem?_append_right (by simp; omega), List.getElem?_drop]
      congr 1; simp; omega

/-- Operands that mean a row of things. -/
inductive OpL {α : Type} (E : En α) (L : Lst) : List Operand → List α → Prop
  | nil : OpL E L [] []
  | cons {x : Operand} {e : α} {xs : List Operand} {es : List α} : Opn L x (Pd.rep E e) → OpL E L xs es → OpL E L (x :: xs) (e :: es)

theorem fill_row {α : Type} {E : En α} {M : Nat → Prop} {n : Nat} {s0 : St} {ac : Act} {s : St} {L : Lst} (hL : Has M n s0 ac s L) : ∀ {xs : List Operand} {es : List α}, OpL E L xs es → ∀ (k : Nat) (pre : List Value) (cells : List Value), pre.length = k * E.sz → cells.length = (k + xs.length) * E.sz → cells.take (k * E.sz) = pre →
    ∃ css, Els E s.w (foot s) css es ∧ Instr.fill (fun i => some (i * E.sz, E.sz)) cells.toArray ((xs.zipIdx k).map fun (x, i) => (i, ac.eval x)) = some (pre ++ css.flatten).toArray := by
  intro xs es h
  induction h with
  | nil =>
    intro k pre cells hp hc ht
    refine ⟨[], ⟨rfl, by simp⟩, ?_⟩
    simp only [List.zipIdx_nil, List.map_nil, Instr.fill, List.flatten_nil, List.append_nil]
    rw [← ht, List.take_of_length_le (by simp at hc; omega)]
  | cons hx _ ih =>
    rename_i x e xs es _
    intro k pre cells hp hc ht
    obtain ⟨cs, hv, hR⟩ := hx M n s0 ac s hL
    have hlen := E.len hR
    have hsz : k * E.sz + E.sz ≤ cells.length := by rw [hc, ← Nat.succ_mul]; exact Nat.mul_le_mul_right _ (by simp)
    obtain ⟨css, hE, hf⟩ := ih (k + 1) (pre ++ cs) (spl cells (k * E.sz) cs) (by simp [hp, hlen, Nat.succ_mul]) (by rw [spl_len (by omega), hc]; congr 1; simp; omega) (by
      rw [spl, ht]
      rw [List.take_append_of_le_length (by simp [hp, hlen, Nat.succ_mul])]
      rw [List.take_of_length_le (by simp [hp, hlen, Nat.succ_mul])])
    refine ⟨cs :: css, ⟨by simp [hE.1], ?_⟩, ?_⟩
    · intro i c y hi hy
      cases i with
      | zero => simp at hi hy; subst hi; subst hy; exact hR
      | succ i => simp at hi hy; exact hE.2 i c y hi hy
    · simp only [List.zipIdx_cons, List.map_cons]
      rw [fill_step (cs := cs) (off := k * E.sz) (size := E.sz) rfl (by rw [hv]; exact En.val_cells hR) hlen hsz, hf]
      simp

theorem run_lit {α : Type} {E : En α} {t te : TypeId} {xs : List Operand} {es : List α} (hx : OpL E L xs es) (ht : P.underlying t = some (.slice te)) (hE : Ty P te E) {k : Nat} {parts : Array (Nat × Operand)} (hk : k = xs.length) (hp : parts = (xs.zipIdx.map fun (x, i) => (i, x)).toArray)
    (hs : k * E.sz ≤ 16777216) (ho : o.op = .buildSlice t k parts) {M : Nat → Prop} {n : Nat} {s0 : St} {ac : Act} {s : St} (hL : Has M n s0 ac s L) : es.length = xs.length ∧ ∃ css, Els E s.w (foot s) css es ∧ (execOp ac.eval o).run P s.w = .ok (.value (.slice (some ⟨s.w.heap.size, 0, none⟩) es.length es.length)) (s.push (.cells css.flatten.toArray te)).w := by
  obtain ⟨i, z, hi, he, hz, hzs, _⟩ := hE.info
  have hlen : es.length = xs.length := by clear hp hk hs ho; induction hx with | nil => rfl | cons _ _ ih => simp [ih]
  have hall : ∀ zero : Array Value, ∃ css, Els E s.w (foot s) css es ∧ Instr.fill (fun i => some (i * E.sz, E.sz)) ((Array.range (k * E.sz)).map (zero[· % zero.size]!)) (parts.map fun (i, x) => (i, ac.eval x)).toList = some css.flatten.toArray := by
    intro zero
    obtain ⟨css, hEl, hf⟩ := fill_row hL hx 0 [] ((Array.range (k * E.sz)).map (zero[· % zero.size]!)).toList (by simp) (by simp [hk]) (by simp)
    refine ⟨css, hEl, ?_⟩
    have e1 : (parts.map fun (i, x) => (i, ac.eval x)).toList = (xs.zipIdx 0).map fun (x, i) => (i, ac.eval x) := by rw [hp]; simp
    rw [e1]
    rw [Array.toArray_toList, List.nil_append] at hf; exact hf
  have hfin : ∃ css, Els E s.w (foot s) css es ∧ (execOp ac.eval o).run P s.w = .ok (.value (.slice (some ⟨s.w.heap.size, 0, none⟩) es.length es.length)) (s.push (.cells css.flatten.toArray te)).w := by
    by_cases h : k * E.sz = 0
    · obtain ⟨css, hEl, hf⟩ := hall #[]
      refine ⟨css, hEl, ?_⟩
      unfold execOp; rw [ho]
      simp only [Instr.buildSlice, Sem.run_bind, run_underlying ht, Result.andThen_ok, run_sizeOfE hE]
      rw [if_neg (by omega), if_pos h]
      simp only [Sem.run_bind, Sem.run_pure, Result.andThen_ok]
      rw [hf]
      simp [newRow, St.push, hlen, hk]
    · obtain ⟨css, hEl, hf⟩ := hall z.cells
      refine ⟨css, hEl, ?_⟩
      unfold execOp; rw [ho]
      simp only [Instr.buildSlice, Sem.run_bind, run_underlying ht, Result.andThen_ok, run_sizeOfE hE]
      rw [if_neg (by omega), if_neg h]
      have hzr : (zeroValue te).run P s.w = .ok z s.w := by simp [zeroValue, typeInfo, hi, hz]
      simp only [Sem.run_bind, hzr, Sem.run_pure, Result.andThen_ok]
      rw [hf]
      simp [newRow, St.push, hlen, hk]
  exact ⟨hlen, hfin⟩

theorem t_lit {α : Type} {E : En α} {t te : TypeId} {xs : List Operand} {es : List α} (hx : OpL E L xs es) (ht : P.underlying t = some (.slice te)) (hE : Ty P te E) {k : Nat} {parts : Array (Nat × Operand)} (hk : k = xs.length) (hp : parts = (xs.zipIdx.map fun (x, i) => (i, x)).toArray)
    (hs : k * E.sz ≤ 16777216) (ho : o.op = .buildSlice t k parts) (hg : o.guard = none) : T P ops o L (Pd.rep (En.slice E) es) :=
  T.mk hg fun M n s0 ac s hL => by
    obtain ⟨hlen, css, hEl, hr⟩ := run_lit hx ht hE hk hp hs ho hL
    refine ⟨_, _, hr, Ex.push s _, rep_slice.2 ⟨some ⟨s.w.heap.size, 0, none⟩, es.length, rfl, Nat.le_refl _, (fun h => by cases h), ?_, fun _ => ⟨s.w.heap.size, 0, css, rfl, ⟨by simp [St.push], fun h => by have := s.lt _ h; omega⟩, ⟨hEl.1, fun i cs x a b => E.psh (hEl.2 i cs x a b)⟩, cellsAt_new s _ te⟩⟩⟩
    rw [hlen, ← hk]
    have : k ≤ k * E.sz := Nat.le_mul_of_pos_right k E.pos
    simp only [lim]; omega

theorem row_lt {α : Type} {E : En α} {N : Nat} {te : TypeId} {og : Option Nat} {xs : List α} {s : St} {v : Value} (h : (Pd.row E N te og xs).p s v) : ∀ b, og = some b → N ≤ b ∧ b < s.w.heap.size := by
  obtain ⟨h1, h2, h3, css, h4, h5⟩ := h
  intro b hb; exact h5.lt b (by rw [h1]; exact hb)

theorem Els.append {α : Type} {E : En α} {w S css dss} {xs ys : List α} (h : Els E w S css xs) (k : Els E w S dss ys) : Els E w S (css ++ dss) (xs ++ ys) := by
  refine ⟨by simp [h.1, k.1], fun i cs x hi hx => ?_⟩
  by_cases hlt : i < css.length
  · rw [List.getElem?_append_left hlt] at hi
    rw [List.getElem?_append_left (by rw [← h.1]; exact hlt)] at hx
    exact h.2 i cs x hi hx
  · rw [List.getElem?_append_right (by omega)] at hi
    rw [List.getElem?_append_right (by rw [← h.1]; omega), ← h.1] at hx
    exact k.2 _ cs x hi hx

theorem Els.go {α : Type} {E : En α} {T : Nat → Prop} {s s' : St} {css : List (List Value)} {xs : List α} (h : Mv T s s') (hE : Els E s.w (foot s) css xs) : Els E s'.w (foot s') css xs := ⟨hE.1, fun i cs x a b => E.go h (hE.2 i cs x a b)⟩

/-- append onto a row of the function's own. -/
theorem run_app {α : Type} {E : En α} {t te : TypeId} (ht : P.underlying t = some (.slice te)) (hE : Ty P te E) {N : Nat} {og : Option Nat} {xs ys : List α} {s : St} {v u : Value} (hv : (Pd.row E N te og xs).p s v) (hu : SlV E s.w (foot s) u ys)
    (hN : N ≤ s.w.heap.size) (hlen : xs.length + ys.length ≤ 2147483648) (ty : TypeId) : ∃ v' s' og', (Builtin.append_ #[t, t] ty #[v, u]).run P s.w = .ok v' s'.w ∧ Ef (fun b => og = some b) s s' ∧ (Pd.row E N te og' (xs ++ ys)).p s' v' ∧
      (∀ b, og' = some b → og = some b ∨ s.w.heap.size ≤ b) := by
  obtain ⟨i, z, hi, hsz, hz, hzs, hby⟩ := hE.info
  obtain ⟨h1, h2, h3, css, h4, h5⟩ := hv
  obtain ⟨ad, cap, rfl, hc1, hc2, hc3, hc4⟩ := hu
  by_cases hys : ys = []
  · -- nothing is appended
    subst hys
    by_cases had : ad = none
    · subst had
      have hcap := hc2 rfl
      subst hcap
      refine ⟨v, s, og, run_append_owned_none (P := P) (w := s.w) N t ty te i E.sz ht hi v xs.length css.flatten h5, ⟨Mv.refl _ s fun b hb => h2 b hb, fun b hb _ => hb⟩, ?_, fun b hb => .inl hb⟩
      rw [List.append_nil]; exact ⟨h1, h2, h3, css, h4, h5⟩
    · obtain ⟨a, rfl⟩ : ∃ a, ad = some a := by cases ad with | none => exact absurd rfl had | some a => exact ⟨a, rfl⟩
      obtain ⟨v', w', hr, ho, hg, hnil⟩ := run_append_own (P := P) s.w N t ty te i z E.sz i.bytes ht hi hz hsz rfl hzs E.pos v xs.length css.flatten h5 a 0 cap [] (by simp) (by simp) (by simp) (by simp [maxLen]; omega) (by
        have := Nat.mul_le_mul (show xs.length + 0 ≤ 2147483648 by simp at hlen; omega) hby
        omega) hN
      -- the value is as it was
      have hvv : v'.ownBlock = v.ownBlock := by
        rcases h5.2 with ⟨rfl, hn⟩ | ⟨g, cp, cur, rfl, _, hgb, hnc, hcm, hcs, htk⟩
        · rw [hnil.2 ⟨rfl, rfl⟩]
        · have hrr := run_append_room (P := P) s.w t ty te i ht hi g xs.length cp cur hgb a 0 cap [] (by simp) (by simp) (by simp) (by omega) (by rw [hcs, hsz]; simp; exact Nat.mul_le_mul_right _ hnc)
          rw [hrr] at hr
          cases hr; rfl
      have hog : v'.ownBlock = og := hvv.trans h1
      have hmv : Mv (fun b => og = some b) s ⟨w', s.X, fun b hb => Nat.lt_of_lt_of_le (s.lt b hb) hg.size⟩ :=
        ⟨hg.os, hg.tape, hg.output, hg.size, fun b hb hn => hg.block b hb (fun e => hn (by rw [← h1]; exact e.symm)), fun b hb => h2 b hb, fun b hb => .inl hb⟩
      refine ⟨v', ⟨w', s.X, fun b hb => Nat.lt_of_lt_of_le (s.lt b hb) hg.size⟩, og, hr, ⟨hmv, fun b hb _ => hb⟩, ⟨hog, h2, by simpa using h3, css, by rw [List.append_nil]; exact h4.go hmv, by simpa using ho⟩, fun b hb => .inl hb⟩
  · obtain ⟨b, off, dss, rfl, hb, hD, hcell⟩ := hc4 hys
    have hpos : 0 < ys.length := List.length_pos_iff.2 hys
    have hdl : dss.flatten.length = ys.length * E.sz := by rw [flat_len hD.lens, hD.1]
    have hone : ∀ u ∈ dss.flatten, u.oneCell' = true := by
      intro u hu
      rw [List.mem_flatten] at hu
      obtain ⟨cs, hcs, hu⟩ := hu
      obtain ⟨j, hj⟩ := List.getElem?_of_mem hcs
      have hlt : j < dss.length := (List.getElem?_eq_some_iff.1 hj).1
      exact E.one (hD.2 j cs (ys[j]'(hD.1 ▸ hlt)) hj (by simp)) u hu
    have hby' : (xs.length + ys.length) * i.bytes ≤ 140737488355328 := Nat.le_trans (Nat.mul_le_mul hlen hby) (by decide)
    have hnews : ∀ j u, dss.flatten[j]? = some u → s.w.cell? ((⟨b, off, none⟩ : Addr).add j) = some u := fun j u hu => by rw [add_lit]; exact hcell j u hu
    obtain ⟨v', w', hr, ho, hg, hnil⟩ := run_append_own (P := P) s.w N t ty te i z E.sz i.bytes ht hi hz hsz rfl hzs E.pos v xs.length css.flatten h5 ⟨b, off, none⟩ ys.length cap dss.flatten hdl hnews hone (by simp [maxLen]; omega) hby' hN
    have hfresh : ∀ g, v'.ownBlock = some g → og = some g ∨ s.w.heap.size = g := by
      intro g hgv
      rcases h5.2 with ⟨rfl, hn⟩ | ⟨g', cp, cur, rfl, _, hgb, hnc, hcm, hcs, htk⟩
      · have hrr := run_append_nil (P := P) s.w t ty te i z ht hi hz ⟨b, off, none⟩ ys.length cap dss.flatten (by rw [hsz]; exact hdl) hnews hpos (by omega) (by
          have : ys.length * i.bytes ≤ (xs.length + ys.length) * i.bytes := Nat.mul_le_mul_right _ (by omega)
          omega)
        rw [hrr] at hr
        cases hr
        simp [Value.ownBlock] at hgv
        exact .inr hgv
      · by_cases hroom : xs.length + ys.length ≤ cp
        · have hrr := run_append_room (P := P) s.w t ty te i ht hi g' xs.length cp cur hgb ⟨b, off, none⟩ ys.length cap dss.flatten (by rw [hsz]; exact hdl) hnews hone hroom (by rw [hcs, hsz, hdl, ← Nat.add_mul]; exact Nat.mul_le_mul_right _ hroom)
          rw [hrr] at hr
          cases hr
          left; rw [← h1]; exact hgv
        · have hrr := run_append_grow (P := P) s.w t ty te i z ht hi hz ⟨g', 0, none⟩ xs.length cp css.flatten (by rw [hsz]; exact h5.1) (h5.cells (g := g') rfl) ⟨b, off, none⟩ ys.length cap dss.flatten (by rw [hsz]; exact hdl) hnews (by omega) (by omega) (growslice_fits (by omega) hby')
          rw [hrr] at hr
          cases hr
          simp [Value.ownBlock] at hgv
          exact .inr hgv
    have hlt : ∀ g, v'.ownBlock = some g → g < w'.heap.size := fun g hgv => (ho.lt g hgv).2
    have hmv : Mv (fun b => og = some b) s ⟨w', fun b => (s.X b ∧ og ≠ some b) ∨ v'.ownBlock = some b, fun b hb => hb.elim (fun h => Nat.lt_of_lt_of_le (s.lt b h.1) hg.size) (hlt b)⟩ :=
      ⟨hg.os, hg.tape, hg.output, hg.size, fun b hb hn => hg.block b hb (fun e => hn (by rw [← h1]; exact e.symm)), fun b hb => h2 b hb,
        fun b hb => hb.elim (fun h => .inl h.1) (fun h => (hfresh b h).elim (fun h => .inl (h2 b h)) (fun h => .inr (Nat.le_of_eq h)))⟩
    refine ⟨v', _, v'.ownBlock, hr, ⟨hmv, fun b hb hn => .inl ⟨hb, hn⟩⟩, ⟨rfl, fun g hg => .inr hg, ?_, css ++ dss, (h4.go hmv).append (hD.go hmv), ?_⟩, fun g hg => (hfresh g hg).imp id (fun h => Nat.le_of_eq h)⟩
    · simp only [List.length_append, lim]; omega
    · simpa using ho

theorem st_app {Q : Exit → Act → World → Prop} {rest : List Oper} {M : Nat → Prop} {n : Nat} {s0 : St} {a : Act} {s : St} {α : Type} {E : En α} {te t : TypeId} {og : Option Nat} {xs ys : List α} {x y : Operand} {L' : Lst} (d : Nat)
    (hL : Has M n s0 a s L) (hx : Opn L x (Pd.row E s0.w.heap.size te og xs)) (hy : Opn L y (Pd.rep (En.slice E) ys)) (ht : P.underlying t = some (.slice te)) (hE : Ty P te E) (hlen : xs.length + ys.length ≤ 2147483648)
    (ho : o.op = .call { callee := .builtin .append, args := #[x, y], argTypes := #[t, t] }) (hg : o.guard = none) (hd : o.dst = some d) (hn : Nat.blt d n = true) (hk : Kp (fun b => og = some b) L L')
    (k : ∀ a' s' og', (∀ b, og' = some b → og = some b ∨ s.w.heap.size ≤ b) → Has M n s0 a' s' ((d, Pd.row E s0.w.heap.size te og' (xs ++ ys)) :: L') → wpList P ops Q rest a' s'.w) : wpList P ops Q (o :: rest) a s.w := by
  have h1 := hx M n s0 a s hL
  have h2 := rep_slice.1 (hy M n s0 a s hL)
  obtain ⟨v', s', og', hr, e, hq, hf⟩ := run_app ht hE h1 h2 hL.ent.mv.size hlen o.type
  refine wpList_plain hg fun K hK => ?_
  unfold Oper.wp execOp
  simp only [ho, resolve, invoke, builtin, Sem.run_bind, Sem.run_pure, Result.andThen_ok, List.map_toArray, List.map_cons, List.map_nil, hr]
  refine hK _ _ ?_
  simp only [hd]
  exact k _ s' og' hf ((hL.ef e (fun b hb => (row_lt h1 b hb).1) hk).put' hn hq)

/-- A row that is new and empty, to be appended to. -/
theorem st_new {Q : Exit → Act → World → Prop} {rest : List Oper} {M : Nat → Prop} {n : Nat} {s0 : St} {a : Act} {s : St} {α : Type} (E : En α) {te t : TypeId} (d : Nat)
    (hL : Has M n s0 a s L) (ht : P.underlying t = some (.slice te)) (hE : Ty P te E) (ho : o.op = .buildSlice t 0 #[]) (hg : o.guard = none) (hd : o.dst = some d) (hn : Nat.blt d n = true)
    (k : ∀ a' s' g, s.w.heap.size ≤ g → Has M n s0 a' s' ((d, Pd.row E s0.w.heap.size te (some g) []) :: L) → wpList P ops Q rest a' s'.w) : wpList P ops Q (o :: rest) a s.w := by
  have hr : (execOp a.eval o).run P s.w = .ok (.value (.slice (some ⟨s.w.heap.size, 0, none⟩) 0 0)) (s.w.alloc (.cells ((Array.range (0 * E.sz)).map ((#[] : Array Value)[· % 0]!)) te)) := by
    unfold execOp; rw [ho]
    simp only [Instr.buildSlice, Sem.run_bind, run_underlying ht, Result.andThen_ok, run_sizeOfE hE]
    rw [if_neg (by omega), if_pos (by omega)]
    simp [Instr.fill, newRow]
  have hz : (Array.range (0 * E.sz)).map ((#[] : Array Value)[· % 0]!) = #[] := by rw [Nat.zero_mul]; exact Array.eq_empty_of_size_eq_zero (by simp)
  rw [hz] at hr
  refine wpList_plain hg fun K hK => ?_
  unfold Oper.wp
  rw [hr]
  refine hK _ _ ?_
  simp only [hd]
  have e : Ex s ⟨s.w.alloc (.cells #[] te), fun b => s.X b ∨ b = s.w.heap.size, fun b hb => hb.elim (fun h => Nat.lt_of_lt_of_le (s.lt b h) (by simp)) (fun h => by subst h; simp)⟩ :=
    ⟨⟨rfl, rfl, rfl, by simp, fun b hb _ => Go.RowKit.Below.heap_alloc s.w _ b hb, fun _ h => h.elim, fun b hb => hb.imp id (fun h => Nat.le_of_eq h.symm)⟩, fun b hb => .inl hb⟩
  refine k _ _ s.w.heap.size (Nat.le_refl _) (hL.put e hn ⟨rfl, fun g hg => ?_, Nat.zero_le _, [], ⟨rfl, by simp⟩, World.ownsRow_made s.w #[] 0 hL.ent.mv.size (Nat.zero_le _) (by simp)⟩)
  cases hg; exact .inr rfl

end
end Go.Proofs.YtdfnbogkniikbaaDoor.V
