/-
  What writes: new variables, stores into variables and into rows, 'make'. No program is named here.
-/
import Derived.Test.YtdfnbogkniikbaaDoorA5
namespace Go.Proofs.YtdfnbogkniikbaaDoor.V
open Go
set_option linter.unusedVariables false

/-- A type's zero value means z. -/
structure TyZ {α : Type} (P : Program) (t : TypeId) (E : En α) (z : α) : Prop where
  zero : ∃ i v cs, P.info? t = some i ∧ i.zero = some v ∧ v.cells = cs.toArray ∧ ∀ w S, E.R w S cs z

/-- Written from cell off of it on with what means y, what meant x means x'. -/
def Sub {α β : Type} (E : En α) (off : Nat) (E' : En β) (x x' : α) (y : β) : Prop :=
  off + E'.sz ≤ E.sz ∧ ∀ w S cs cs', E.R w S cs x → E'.R w S cs' y → E.R w S (spl cs off cs') x'

theorem sub_all {α : Type} (E : En α) (x y : α) : Sub E 0 E x y y :=
  ⟨by simp, fun w S cs cs' h h' => by
    have : spl cs 0 cs' = cs' := by
      have h1 := E.len h
      have h2 := E.len h'
      simp [spl, List.drop_of_length_le (show cs.length ≤ cs'.length by omega)]
    rw [this]; exact h'⟩

/-- A new block that is owned. -/
def St.pushX (s : St) (ob : Obj) : St := ⟨s.w.alloc ob, fun b => s.X b ∨ b = s.w.heap.size, fun b hb => hb.elim (fun h => Nat.lt_of_lt_of_le (s.lt b h) (by simp)) (fun h => by subst h; simp)⟩
theorem Ex.pushX (s : St) (ob : Obj) : Ex s (s.pushX ob) :=
  ⟨⟨rfl, rfl, rfl, by simp [St.pushX], fun b hb _ => Go.RowKit.Below.heap_alloc s.w _ b hb, fun _ h => h.elim, fun b hb => hb.imp id (fun h => Nat.le_of_eq h.symm)⟩, fun b hb => .inl hb⟩

section
variable {P : Program} {ops : Array Oper} {o : Oper} {L L' : Lst} {Q : Exit → Act → World → Prop} {rest : List Oper} {M : Nat → Prop} {n : Nat} {s0 : St} {a : Act} {s : St}

theorem st_lito {α : Type} {E : En α} {te t : TypeId} {xs : List Operand} {es : List α} {k : Nat} {parts : Array (Nat × Operand)} (d : Nat)
    (hL : Has M n s0 a s L) (hx : OpL E L xs es) (ht : P.underlying t = some (.slice te)) (hE : Ty P te E) (hk : k = xs.length) (hp : parts = (xs.zipIdx.map fun (x, i) => (i, x)).toArray) (hs : k * E.sz ≤ 16777216) (ho : o.op = .buildSlice t k parts) (hg : o.guard = none) (hd : o.dst = some d) (hn : Nat.blt d n = true)
    (kk : ∀ a' s' g, s.w.heap.size ≤ g → Has M n s0 a' s' ((d, Pd.row E s0.w.heap.size te (some g) es) :: L) → wpList P ops Q rest a' s'.w) : wpList P ops Q (o :: rest) a s.w := by
  obtain ⟨hlen, css, hEl, hr⟩ := run_lit hx ht hE hk hp hs ho hL
  have hk1 : k ≤ k * E.sz := Nat.le_mul_of_pos_right k E.pos
  refine wpList_plain hg fun K hK => ?_
  unfold Oper.wp
  rw [hr]
  refine hK _ _ ?_
  simp only [hd]
  have hfl : css.flatten.length = es.length * E.sz := by rw [flat_len hEl.lens, hEl.1]
  refine kk _ (s.pushX (.cells css.flatten.toArray te)) s.w.heap.size (Nat.le_refl _) (hL.put (Ex.pushX s _) hn ⟨rfl, fun g hg => ?_, ?_, css, ⟨hEl.1, fun i cs x a b => E.go (Ex.pushX s _).mv (hEl.2 i cs x a b)⟩, ?_⟩)
  · cases hg; exact .inr rfl
  · simp only [lim]; omega
  · refine ⟨hfl, .inr ⟨s.w.heap.size, es.length, css.flatten.toArray, rfl, hL.ent.mv.size, heap_alloc_new s.w _, Nat.le_refl _, ?_, by simpa using hfl, ?_⟩⟩
    · simp only [maxLen]; omega
    · simp; rw [← hfl, List.take_length]

theorem st_alloc {α : Type} (E : En α) {z : α} {t : TypeId} (d : Nat) (hL : Has M n s0 a s L) (hz : TyZ P t E z) (ho : o.op = .alloc t) (hg : o.guard = none) (hd : o.dst = some d) (hn : Nat.blt d n = true)
    (k : ∀ a' s' g, s.w.heap.size ≤ g → Has M n s0 a' s' ((d, Pd.box E s0.w.heap.size g z) :: L) → wpList P ops Q rest a' s'.w) : wpList P ops Q (o :: rest) a s.w := by
  obtain ⟨i, v, cs, h1, h2, h3, h4⟩ := hz.zero
  have hr : (execOp a.eval o).run P s.w = .ok (.value (.pointer (some ⟨s.w.heap.size, 0, none⟩))) (s.pushX (.cells cs.toArray t)).w := by
    unfold execOp; rw [ho]
    simp [Instr.alloc, zeroValue, typeInfo, h1, h2, newVar, newRow, h3, St.pushX]
  refine wpList_plain hg fun K hK => ?_
  unfold Oper.wp
  rw [hr]
  refine hK _ _ ?_
  simp only [hd]
  exact k _ _ s.w.heap.size (Nat.le_refl _) (hL.put (Ex.pushX s _) hn ⟨rfl, hL.ent.mv.size, .inr rfl, cs, t, heap_alloc_new s.w _, h4 _ _⟩)

theorem st_boxm {α : Type} {E : En α} {x : α} {y : Operand} {t : TypeId} (d : Nat) (hL : Has M n s0 a s L) (hy : Opn L y (Pd.rep E x)) (ho : o.op = .box t y) (hg : o.guard = none) (hd : o.dst = some d) (hn : Nat.blt d n = true)
    (k : ∀ a' s' g, s.w.heap.size ≤ g → Has M n s0 a' s' ((d, Pd.box E s0.w.heap.size g x) :: L) → wpList P ops Q rest a' s'.w) : wpList P ops Q (o :: rest) a s.w := by
  obtain ⟨cs, hv, hR⟩ := hy M n s0 a s hL
  have hr : (execOp a.eval o).run P s.w = .ok (.value (.pointer (some ⟨s.w.heap.size, 0, none⟩))) (s.pushX (.cells cs.toArray t)).w := by
    unfold execOp; rw [ho]
    simp only [hv, Instr.box, newVar, newRow, En.val_cells hR, Sem.run_bind, run_newObj, Result.andThen_ok, Sem.run_pure]
    rfl
  refine wpList_plain hg fun K hK => ?_
  unfold Oper.wp
  rw [hr]
  refine hK _ _ ?_
  simp only [hd]
  exact k _ _ s.w.heap.size (Nat.le_refl _) (hL.put (Ex.pushX s _) hn ⟨rfl, hL.ent.mv.size, .inr rfl, cs, t, heap_alloc_new s.w _, E.go (Ex.pushX s _).mv hR⟩)

theorem run_storeE {α : Type} {E : En α} {x : α} {t : TypeId} (ht : Ty P t E) {w w' : World} {S : Nat → Prop} {cs : List Value} (hR : E.R w' S cs x) {g off : Nat} {cur : List Value} {te : TypeId} (hg : w.heap[g]? = some (.cells cur.toArray te (0, 0))) (hl : off + E.sz ≤ cur.length) :
    (Instr.storeAt t (.pointer (some ⟨g, off, none⟩)) (E.val cs)).run P w = .ok () (w.setRow g (spl cur off cs).toArray) := by
  have hlen := E.len hR
  have := run_storeCells_at P g off te cs 0 cur.toArray w hg (by simp; omega) (E.one hR)
  simp only [Instr.storeAt, Instr.sureAddr, Sem.run_bind, Sem.run_pure, Result.andThen_ok, storeVar, run_sizeOfE ht, En.val_cells hR]
  rw [if_neg (by simp [hlen])]
  simpa [spl] using this

/-- The state behind a write into block g. -/
def St.set (s : St) (g : Nat) (cs : List Value) : St := ⟨s.w.setRow g cs.toArray, s.X, fun b hb => by simpa [World.setRow] using s.lt b hb⟩
theorem Ef.set (s : St) {g : Nat} (cs : List Value) {T : Nat → Prop} (hT : ∀ b, T b ↔ b = g) (hx : s.X g) : Ef T s (s.set g cs) :=
  ⟨⟨rfl, rfl, rfl, by simp [St.set, World.setRow], fun b _ hn => setRow_other s.w g b _ (fun e => hn ((hT b).2 e)), fun b hb => by rw [(hT b).1 hb]; exact hx, fun b hb => .inl hb⟩, fun b hb _ => hb⟩

theorem wp_store {t : TypeId} {x y : Operand} {w' : World} (hr : (Instr.storeAt t (a.eval x) (a.eval y)).run P s.w = .ok () w') (ho : o.op = .store t x y) (hg : o.guard = none) (hd : o.dst = none) (k : wpList P ops Q rest a w') : wpList P ops Q (o :: rest) a s.w := by
  refine wpList_plain hg fun K hK => ?_
  unfold Oper.wp execOp
  simp only [ho, Sem.run_bind, hr, Result.andThen_ok, Sem.run_pure]
  refine hK _ _ ?_
  simp only [hd]
  exact k

/-- A store into a variable, or into a part of it. -/
theorem st_stob {α β : Type} {E : En α} {E' : En β} {x0 x1 : α} {y0 y1 : β} {g off : Nat} {x y : Operand} {t : TypeId} (c : Nat) (hL : Has M n s0 a s L) (hc : lk L c = some (Pd.box E s0.w.heap.size g x0)) (hx : Opn L x (Pd.optr E' s0.w.heap.size (some g) off y0)) (hy : Opn L y (Pd.rep E' y1))
    (hs : Sub E off E' x0 x1 y1) (ht : Ty P t E') (ho : o.op = .store t x y) (hg : o.guard = none) (hd : o.dst = none) (hk : Kp (fun b => some g = some b) L L')
    (k : ∀ s', Has M n s0 a s' ((c, Pd.box E s0.w.heap.size g x1) :: L') → wpList P ops Q rest a s'.w) : wpList P ops Q (o :: rest) a s.w := by
  obtain ⟨hv, hN, hX, cur, te, hgb, hR⟩ := hL.get c hc
  obtain ⟨g', hgg, hxv, _⟩ := hx M n s0 a s hL
  cases hgg
  obtain ⟨cs, hyv, hR'⟩ := hy M n s0 a s hL
  have hlen := E.len hR
  have hr := run_storeE (P := P) ht hR' (g := g) (off := off) hgb (by rw [hlen]; exact hs.1)
  refine wp_store (s := s) (by rw [hxv, hyv]; exact hr) ho hg hd ?_
  have e : Ef (fun b => some g = some b) s (s.set g (spl cur off cs)) := Ef.set s _ (fun b => by simp [eq_comm]) hX
  refine k (s.set g (spl cur off cs)) ((hL.ef e (fun b hb => by cases hb; exact hN) hk).cons c ⟨hv, hN, hX, _, te, setRow_heap s.w g _ _ te (0, 0) hgb, ?_⟩)
  exact E.go e.mv (hs.2 _ _ _ _ hR hR')

/-- .. by the variable's own address. -/
theorem st_stb {α : Type} {E : En α} {x0 x1 : α} {g : Nat} {y : Operand} {t : TypeId} (c : Nat) (hL : Has M n s0 a s L) (hc : lk L c = some (Pd.box E s0.w.heap.size g x0)) (hy : Opn L y (Pd.rep E x1))
    (ht : Ty P t E) (ho : o.op = .store t (.tmp c) y) (hg : o.guard = none) (hd : o.dst = none) (hk : Kp (fun b => some g = some b) L L')
    (k : ∀ s', Has M n s0 a s' ((c, Pd.box E s0.w.heap.size g x1) :: L') → wpList P ops Q rest a s'.w) : wpList P ops Q (o :: rest) a s.w := by
  refine st_stob (off := 0) (y0 := x0) (E' := E) c hL hc ?_ hy (sub_all E x0 x1) ht ho hg hd hk k
  intro M' n' s0' a' s' hL'
  obtain ⟨hv, hN, hX, cur, te, hgb, hR⟩ := hL'.get c hc
  exact ⟨g, rfl, hv, hN, (Array.getElem?_eq_some_iff.1 hgb).1, hX, cur, cellsAt_block hgb, hR⟩

theorem spl_flat {css : List (List Value)} {m i off : Nat} {cs cs' : List Value} (h : ∀ c ∈ css, c.length = m) (hi : css[i]? = some cs) (ho : off + cs'.length ≤ m) : spl css.flatten (i * m + off) cs' = (css.set i (spl cs off cs')).flatten := by
  induction css generalizing i with
  | nil => simp at hi
  | cons c r ih =>
    have hc : c.length = m := h c (by simp)
    cases i with
    | zero =>
      simp at hi; subst hi
      simp only [List.set_cons_zero, List.flatten_cons, Nat.zero_mul, Nat.zero_add, spl]
      rw [List.take_append_of_le_length (by omega), List.drop_append_of_le_length (by omega)]
      simp
    | succ i =>
      simp at hi
      simp only [List.set_cons_succ, List.flatten_cons]
      rw [← ih (fun x hx => h x (by simp [hx])) hi]
      simp only [spl]
      have e1 : (i + 1) * m + off = c.length + (i * m + off) := by rw [hc, Nat.succ_mul]; omega
      rw [e1, List.take_length_add_append, Nat.add_assoc, List.drop_length_add_append]
      simp

theorem at_some {α : Type} {xs : List α} {i : Int} {e : α} (h : at? xs i = some e) : 0 ≤ i ∧ xs[i.toNat]? = some e := by
  unfold at? at h
  split at h
  · exact ⟨by assumption, h⟩
  · cases h

theorem row_uniq {α : Type} {E : En α} {N N' : Nat} {te : TypeId} {og : Option Nat} {xs : List α} {u v : Value} (h : (Pd.row E N te og xs).p s u) (k : (Pd.row E N' te og xs).p s v) : u = v := by
  obtain ⟨h1, _, _, css, h4, h5⟩ := h
  obtain ⟨k1, _, _, dss, k4, k5⟩ := k
  rcases h5.2 with ⟨e, hn⟩ | ⟨g, cap, cur, e, hN, hg, hnc, hcm, hcz, ht⟩
  · subst e
    rcases k5.2 with ⟨e', _⟩ | ⟨g', cap', cur', e', hN', hg', _, _, hcz', _⟩
    · exact e'.symm
    · subst e'; rw [← h1] at k1; cases k1
  · subst e
    rcases k5.2 with ⟨e', _⟩ | ⟨g', cap', cur', e', hN', hg', _, _, hcz', _⟩
    · subst e'; rw [← h1] at k1; cases k1
    · subst e'
      have hgg : g' = g := by rw [← h1] at k1; simpa [Value.ownBlock] using k1
      subst hgg
      rw [hg] at hg'
      simp only [Option.some.injEq, Obj.cells.injEq] at hg'
      have : cap * E.sz = cap' * E.sz := by rw [← hcz, ← hcz', hg'.1]
      have := Nat.eq_of_mul_eq_mul_right E.pos this
      rw [this]

/-- A store into a row's element, or into a part of it. -/
theorem st_storC {α β : Type} {E : En α} {E' : En β} {xs : List α} {e0 e1 : α} {y0 y1 : β} {og : Option Nat} {off : Nat} {N : Nat} {i : Int} {x y : Operand} {t te : TypeId} {vc : Value} (hrow : (Pd.row E N te og xs).p s vc) (hi : at? xs i = some e0)
    (hx : (Pd.optr E' N og (i.toNat * E.sz + off) y0).p s (a.eval x)) (hy : (Pd.rep E' y1).p s (a.eval y)) (hs : Sub E off E' e0 e1 y1) (ht : Ty P t E') (ho : o.op = .store t x y) (hg : o.guard = none) (hd : o.dst = none)
    (k : ∀ s', Ef (fun b => og = some b) s s' → (∀ b, s.X b → s'.X b) → (Pd.row E N te og (xs.set i.toNat e1)).p s' vc → wpList P ops Q rest a s'.w) : wpList P ops Q (o :: rest) a s.w := by
  obtain ⟨h1, h2, h3, css, h4, h5⟩ := hrow
  obtain ⟨g, hog, hxv, hN, hgl, hX, _⟩ := hx
  obtain ⟨cs', hyv, hR'⟩ := hy
  obtain ⟨hi0, hie⟩ := at_some hi
  have hlt : i.toNat < xs.length := (List.getElem?_eq_some_iff.1 hie).1
  obtain ⟨cs, hcs⟩ : ∃ cs, css[i.toNat]? = some cs := ⟨css[i.toNat]'(by rw [h4.1]; exact hlt), by simp⟩
  have hR := h4.2 _ _ _ hcs hie
  rcases h5.2 with ⟨e', hn⟩ | ⟨g', cap, cur, ev, hN', hgb, hnc, hcm, hcz, htk⟩
  · omega
  · have hgg : g' = g := by rw [← h1, ev] at hog; simpa [Value.ownBlock] using hog
    subst hgg
    have hfl : css.flatten.length = xs.length * E.sz := by rw [flat_len h4.lens, h4.1]
    have hlen' := E'.len hR'
    have hin : i.toNat * E.sz + E.sz ≤ xs.length * E.sz := by rw [← Nat.succ_mul]; exact Nat.mul_le_mul_right _ hlt
    have hcap : xs.length * E.sz ≤ cur.size := by rw [hcz]; exact Nat.mul_le_mul_right _ hnc
    have hb : i.toNat * E.sz + off + E'.sz ≤ cur.toList.length := by have := hs.1; simp; omega
    have hr := run_storeE (P := P) ht hR' (g := g') (off := i.toNat * E.sz + off) (cur := cur.toList) (te := te) (by simpa using hgb) hb
    refine wp_store (s := s) (by rw [hxv, hyv]; exact hr) ho hg hd ?_
    have hT : ∀ b, og = some b ↔ b = g' := fun b => by rw [hog]; simp [eq_comm]
    have e : Ef (fun b => og = some b) s (s.set g' (spl cur.toList (i.toNat * E.sz + off) cs')) := Ef.set s _ hT hX
    refine k (s.set g' (spl cur.toList (i.toNat * E.sz + off) cs')) e (fun b h => h) ⟨h1, h2, by simpa using h3, css.set i.toNat (spl cs off cs'), ?_, ?_, .inr ⟨g', cap, (spl cur.toList (i.toNat * E.sz + off) cs').toArray, by simpa using ev, hN', setRow_heap s.w g' cur _ te (0, 0) hgb, by simpa using hnc, hcm, ?_, ?_⟩⟩
    · refine ⟨by simp [h4.1], fun j c' x' hj hx' => E.go e.mv ?_⟩
      by_cases hji : j = i.toNat
      · subst hji
        rw [List.getElem?_set_self (by rw [h4.1]; exact hlt)] at hj
        rw [List.getElem?_set_self hlt] at hx'
        cases hj; cases hx'
        exact hs.2 _ _ _ _ hR hR'
      · rw [List.getElem?_set_ne (Ne.symm hji)] at hj hx'
        exact h4.2 j c' x' hj hx'
    · rw [flat_len (n := E.sz), List.length_set, List.length_set, h4.1]
      intro c' hc'
      rcases List.mem_or_eq_of_mem_set hc' with h | h
      · exact h4.lens c' h
      · subst h; rw [spl_len (by rw [E.len hR, hlen']; exact hs.1)]; exact E.len hR
    · have : (spl cur.toList (i.toNat * E.sz + off) cs').length = cur.toList.length := spl_len (by rw [hlen']; exact hb)
      simp [this, hcz]
    · rw [← spl_flat h4.lens hcs (by rw [hlen']; exact hs.1)]
      simp only [List.length_set]
      have h6 : cur.toList = css.flatten ++ cur.toList.drop (xs.length * E.sz) := by rw [← htk]; exact (List.take_append_drop _ _).symm
      have h7 : spl cur.toList (i.toNat * E.sz + off) cs' = spl css.flatten (i.toNat * E.sz + off) cs' ++ cur.toList.drop (xs.length * E.sz) := by
        have hsz := hs.1
        conv => lhs; rw [h6]
        simp only [spl]
        rw [List.take_append_of_le_length (by rw [hfl]; omega), List.drop_append_of_le_length (by rw [hfl, hlen']; omega)]
        simp
      have h8 : (spl css.flatten (i.toNat * E.sz + off) cs').length = xs.length * E.sz := by
        rw [spl_len (by rw [hfl, hlen']; have := hs.1; omega), hfl]
      rw [h7, List.take_append_of_le_length (Nat.le_of_eq h8.symm), List.take_of_length_le (Nat.le_of_eq h8)]
theorem st_storN {α β : Type} {E : En α} {E' : En β} {xs : List α} {e0 e1 : α} {y0 y1 : β} {og : Option Nat} {off : Nat} {N : Nat} {i : Int} {x y : Operand} {t te : TypeId} (c : Nat) (hw : (∀ b, og = some b → s0.w.heap.size ≤ b) ∨ ∀ b, og = some b → M b) (hL : Has M n s0 a s L) (hc : lk L c = some (Pd.row E N te og xs)) (hi : at? xs i = some e0)
    (hx : Opn L x (Pd.optr E' N og (i.toNat * E.sz + off) y0)) (hy : Opn L y (Pd.rep E' y1)) (hs : Sub E off E' e0 e1 y1) (ht : Ty P t E') (ho : o.op = .store t x y) (hg : o.guard = none) (hd : o.dst = none) (hk : Kw (fun b => og = some b) L (Pd.row E N te og xs) (Pd.row E N te og (xs.set i.toNat e1)) L')
    (k : ∀ s', Has M n s0 a s' L' → wpList P ops Q rest a s'.w) : wpList P ops Q (o :: rest) a s.w := by
  exact st_storC (hL.get c hc) hi (hx M n s0 a s hL) (hy M n s0 a s hL) hs ht ho hg hd fun s' e hX hr => k s' (hL.turn e hw hX hk fun v hv => by rw [row_uniq hv (hL.get c hc)]; exact hr)

/-- A store into a row's element, or into a part of it, of a row of its own. -/
theorem st_stor {α β : Type} {E : En α} {E' : En β} {xs : List α} {e0 e1 : α} {y0 y1 : β} {og : Option Nat} {off : Nat} {i : Int} {x y : Operand} {t te : TypeId} (c : Nat) (hL : Has M n s0 a s L) (hc : lk L c = some (Pd.row E s0.w.heap.size te og xs)) (hi : at? xs i = some e0)
    (hx : Opn L x (Pd.optr E' s0.w.heap.size og (i.toNat * E.sz + off) y0)) (hy : Opn L y (Pd.rep E' y1)) (hs : Sub E off E' e0 e1 y1) (ht : Ty P t E') (ho : o.op = .store t x y) (hg : o.guard = none) (hd : o.dst = none) (hk : Kw (fun b => og = some b) L (Pd.row E s0.w.heap.size te og xs) (Pd.row E s0.w.heap.size te og (xs.set i.toNat e1)) L')
    (k : ∀ s', Has M n s0 a s' L' → wpList P ops Q rest a s'.w) : wpList P ops Q (o :: rest) a s.w := by
  refine st_storN c (.inl fun b hb => ?_) hL hc hi hx hy hs ht ho hg hd hk k
  exact (row_lt (hL.get c hc) b hb).1

theorem made_flat {z : Value} {cs : List Value} (hz : z.cells = cs.toArray) (n : Nat) (hpos : 0 < cs.length) : (madeCells z.cells (n * cs.length)).toList = (List.replicate n cs).flatten := by
  induction n with
  | zero => simp [madeCells]
  | succ n ih =>
    have h1 : (madeCells z.cells ((n + 1) * cs.length)).toList = (madeCells z.cells (n * cs.length)).toList ++ cs := by
      simp only [madeCells, Nat.succ_mul]
      simp only [Array.toList_map, Array.toList_range]
      rw [List.range_add, List.map_append, List.map_map]
      congr 1
      apply List.ext_getElem?
      intro j
      by_cases hj : j < cs.length
      · simp only [List.getElem?_map, List.getElem?_range hj, Option.map_some, Function.comp, hz, List.size_toArray]
        rw [Nat.mul_comm, Nat.mul_add_mod, Nat.mod_eq_of_lt hj]
        simp [hj]
      · rw [List.getElem?_eq_none (by simp; omega), List.getElem?_eq_none (by omega)]
    rw [h1, ih, List.replicate_succ', List.flatten_append]; simp

theorem st_make {α : Type} (E : En α) {z : α} {t te : TypeId} {l c : Operand} {kl kc : IntKind} {m : Nat} (d : Nat) (hL : Has M n s0 a s L) (hl : Opn L l (Pd.rep (En.int kl) m)) (hc : Opn L c (Pd.rep (En.int kc) m)) (hm : m ≤ 2147483648)
    (ht : P.underlying t = some (.slice te)) (hE : Ty P te E) (hz : TyZ P te E z) (ho : o.op = .makeSlice t l c) (hg : o.guard = none) (hd : o.dst = some d) (hn : Nat.blt d n = true)
    (k : ∀ a' s' g, s.w.heap.size ≤ g → Has M n s0 a' s' ((d, Pd.row E s0.w.heap.size te (some g) (List.replicate m z)) :: L) → wpList P ops Q rest a' s'.w) : wpList P ops Q (o :: rest) a s.w := by
  obtain ⟨i, zv, hi, hsz, hzv, hzs, hby⟩ := hE.info
  obtain ⟨i', v, cs, h1, h2, h3, h4⟩ := hz.zero
  rw [hi] at h1; cases h1
  rw [hzv] at h2; cases h2
  have e1 := (rep_int.1 (hl M n s0 a s hL)).1
  have e2 := (rep_int.1 (hc M n s0 a s hL)).1
  have hcl : cs.length = E.sz := E.len (h4 s.w (foot s))
  obtain ⟨w', hr, ho', hgr⟩ := run_make_full (P := P) s.w s0.w.heap.size t te i zv E.sz ht hi hzv hsz kl kc m (by
    have := Nat.mul_le_mul hby hm
    omega) (by simp [maxLen]; omega) hL.ent.mv.size
  refine wpList_plain hg fun K hK => ?_
  unfold Oper.wp execOp
  simp only [ho, e1, e2, Sem.run_bind, hr, Result.andThen_ok, Sem.run_pure]
  refine hK _ _ ?_
  simp only [hd]
  have hlt := (ho'.lt s.w.heap.size rfl).2
  have e : Ex s ⟨w', fun b => s.X b ∨ b = s.w.heap.size, fun b hb => hb.elim (fun h => Nat.lt_of_lt_of_le (s.lt b h) hgr.size) (fun h => by subst h; exact hlt)⟩ :=
    ⟨⟨hgr.os, hgr.tape, hgr.output, hgr.size, fun b hb _ => hgr.block b hb (by simp), fun _ h => h.elim, fun b hb => hb.imp id (fun h => Nat.le_of_eq h.symm)⟩, fun b hb => .inl hb⟩
  refine k _ _ s.w.heap.size (Nat.le_refl _) (hL.put e hn ⟨rfl, fun g hg => ?_, by simp [lim]; omega, List.replicate m cs, ⟨by simp, fun j c x hj hx => ?_⟩, ?_⟩)
  · cases hg; exact .inr rfl
  · have hj' := List.mem_of_getElem? hj
    have hx' := List.mem_of_getElem? hx
    rw [List.mem_replicate] at hj' hx'
    rw [hj'.2, hx'.2]; exact h4 _ _
  · have hmf := made_flat h3 m (by rw [hcl]; exact E.pos)
    rw [hcl] at hmf
    rw [← hmf]
    simpa using ho'
end

/-! ### owned things that are apart -/
def Dis (a b : Option Nat) : Prop := ∀ k, a = some k → b = some k → False
theorem Dis.symm {a b : Option Nat} (h : Dis a b) : Dis b a := fun k h1 h2 => h k h2 h1
theorem Dis.none {b : Option Nat} : Dis none b := fun _ h _ => by cases h
/-- The row with the block a is kept beside an effect on b. -/
theorem Dis.ow {a b : Option Nat} (h : Dis a b) : ∀ k, a = some k → ¬ b = some k := fun k h1 h2 => h k h1 h2
theorem Dis.bx {g : Nat} {b : Option Nat} (h : Dis (some g) b) : ∀ k, k = g → ¬ b = some k := fun k h1 h2 => h k (by rw [h1]) h2
theorem Dis.new {a b : Option Nat} {N : Nat} (h : ∀ k, a = some k → N ≤ k) (hb : ∀ k, b = some k → k < N) : Dis a b := fun k h1 h2 => by have := h k h1; have := hb k h2; omega
theorem Dis.newg {g : Nat} {b : Option Nat} {N : Nat} (h : N ≤ g) (hb : ∀ k, b = some k → k < N) : Dis (some g) b := fun k h1 h2 => by cases h1; have := hb g h2; omega
theorem Dis.app {a a' b : Option Nat} {N : Nat} (h : ∀ k, a' = some k → a = some k ∨ N ≤ k) (hd : Dis a b) (hb : ∀ k, b = some k → k < N) : Dis a' b := fun k h1 h2 => (h k h1).elim (fun h => hd k h h2) (fun h => by have := hb k h2; omega)
theorem Has.rlt {α : Type} {E : En α} {N : Nat} {te : TypeId} {og : Option Nat} {xs : List α} {M : Nat → Prop} {n : Nat} {s0 : St} {a : Act} {s : St} {L : Lst} (h : Has M n s0 a s L) (t : Nat) (hl : lk L t = some (Pd.row E N te og xs)) : ∀ k, og = some k → k < s.w.heap.size := fun k hk => (row_lt (h.get t hl) k hk).2
theorem Has.blt {α : Type} {E : En α} {N g : Nat} {x : α} {M : Nat → Prop} {n : Nat} {s0 : St} {a : Act} {s : St} {L : Lst} (h : Has M n s0 a s L) (t : Nat) (hl : lk L t = some (Pd.box E N g x)) : ∀ k, some g = some k → k < s.w.heap.size := fun k hk => by
  cases hk
  obtain ⟨_, _, _, _, _, hc, _⟩ := h.get t hl
  exact (Array.getElem?_eq_some_iff.1 hc).1

/-- 'rd', with what is left behind the first m operations as a list. -/
theorem rdl {P : Program} {id : Nat} {l : List Oper} {Q : Exit → Act → World → Prop} {M : Nat → Prop} {n : Nat} {s0 : St} {a : Act} {s : St} {L : Lst} (hf : P.follows .mixedOrders = true) (m : Nat) (qs : List Pd)
    (hL : Has M n s0 a s L) (hok : okDraw l.toArray m n (L.map (·.1)) [] = true) (hq : qs.length = m) (hm : m ≤ l.length)
    (hT : ∀ i o q, i < m → l[i]? = some o → qs[i]? = some q → T P l.toArray o (depL l.toArray qs o.after.toList L) q)
    (hB : ∀ a' s', Ex s s' → Has M n s0 a' s' (newL l.toArray qs m L) → wpList P l.toArray Q (l.drop m) a' s'.w) : (Code.region id l.toArray true).wp P Q a s.w := by
  refine rd hf m qs hL hok hq (by simpa using hm) (fun i o q hi ho => hT i o q hi (by simpa using ho)) fun a' s' e h => ?_
  have := hB a' s' e h
  rw [← wpOps_eq_wpList (l.drop m) m (fun j => by simp)] at this
  simpa using this

/-- The typed operations of a region that draws, one by one. -/
def AllT (P : Program) (ops : Array Oper) (qs0 : List Pd) (L : Lst) : List Oper → List Pd → Prop
  | _, [] => True
  | [], _ :: _ => False
  | o :: l, q :: qs => T P ops o (depL ops qs0 o.after.toList L) q ∧ AllT P ops qs0 L l qs

theorem AllT.at {P : Program} {ops : Array Oper} {qs0 : List Pd} {L : Lst} : ∀ (l : List Oper) (qs : List Pd), AllT P ops qs0 L l qs → ∀ (i : Nat) (o : Oper) (q : Pd), l[i]? = some o → qs[i]? = some q → T P ops o (depL ops qs0 o.after.toList L) q
  | _, [], _, i, o, q, _, hq => by simp at hq
  | [], _ :: _, h, _, _, _, _, _ => h.elim
  | o' :: l, q' :: qs, h, i, o, q, ho, hq => by
    cases i with
    | zero => simp only [List.getElem?_cons_zero, Option.some.injEq] at ho hq; subst ho; subst hq; exact h.1
    | succ i => simp only [List.getElem?_cons_succ] at ho hq; exact AllT.at l qs h.2 i o q ho hq

theorem AllT.cons {P : Program} {ops : Array Oper} {qs0 : List Pd} {L : Lst} {o : Oper} {l : List Oper} {q : Pd} {qs : List Pd} (h : T P ops o (depL ops qs0 o.after.toList L) q) (h2 : AllT P ops qs0 L l qs) : AllT P ops qs0 L (o :: l) (q :: qs) := ⟨h, h2⟩
theorem AllT.nil {P : Program} {ops : Array Oper} {qs0 : List Pd} {L : Lst} {l : List Oper} : AllT P ops qs0 L l [] := by cases l <;> trivial

theorem rda {P : Program} {id : Nat} {l : List Oper} {Q : Exit → Act → World → Prop} {M : Nat → Prop} {n : Nat} {s0 : St} {a : Act} {s : St} {L : Lst} (hf : P.follows .mixedOrders = true) (m : Nat) (qs : List Pd)
    (hL : Has M n s0 a s L) (hok : okDraw l.toArray m n (L.map (·.1)) [] = true) (hq : Nat.beq qs.length m = true) (hm : Nat.ble m l.length = true)
    (hT : AllT P l.toArray qs L l qs)
    (hB : ∀ a' s', Ex s s' → Has M n s0 a' s' (newL l.toArray qs m L) → wpList P l.toArray Q (l.drop m) a' s'.w) : (Code.region id l.toArray true).wp P Q a s.w :=
  rdl hf m qs hL hok (Nat.eq_of_beq_eq_true hq) (Nat.le_of_ble_eq_true hm) (fun i o q _ ho hq => AllT.at l qs hT i o q ho hq) hB

/-- The typed operations of a region, but for those of F. -/
def AllF (P : Program) (ops : Array Oper) (qs0 : List Pd) (L : Lst) (F : List Nat) : Nat → List Oper → List Pd → Prop
  | _, _, [] => True
  | _, [], _ :: _ => False
  | i, o :: l, q :: qs => (F.contains i = false → T P ops o (depL ops qs0 o.after.toList L) q) ∧ AllF P ops qs0 L F (i + 1) l qs
theorem AllF.at {P : Program} {ops : Array Oper} {qs0 : List Pd} {L : Lst} {F : List Nat} : ∀ (k : Nat) (l : List Oper) (qs : List Pd), AllF P ops qs0 L F k l qs → ∀ (i : Nat) (o : Oper) (q : Pd), l[i]? = some o → qs[i]? = some q → F.contains (k + i) = false → T P ops o (depL ops qs0 o.after.toList L) q
  | _, _, [], _, i, o, q, _, hq, _ => by simp at hq
  | _, [], _ :: _, h, _, _, _, _, _, _ => h.elim
  | k, o' :: l, q' :: qs, h, i, o, q, ho, hq, hF => by
    cases i with
    | zero => simp only [List.getElem?_cons_zero, Option.some.injEq] at ho hq; subst ho; subst hq; exact h.1 hF
    | succ i => simp only [List.getElem?_cons_succ] at ho hq; exact AllF.at (k + 1) l qs h.2 i o q ho hq (by rw [← hF]; congr 1; omega)
theorem AllF.cons {P : Program} {ops : Array Oper} {qs0 : List Pd} {L : Lst} {F : List Nat} {i : Nat} {o : Oper} {l : List Oper} {q : Pd} {qs : List Pd} (h : T P ops o (depL ops qs0 o.after.toList L) q) (h2 : AllF P ops qs0 L F (i + 1) l qs) : AllF P ops qs0 L F i (o :: l) (q :: qs) := ⟨fun _ => h, h2⟩
theorem AllF.skip {P : Program} {ops : Array Oper} {qs0 : List Pd} {L : Lst} {F : List Nat} {i : Nat} {o : Oper} {l : List Oper} {q : Pd} {qs : List Pd} (h : F.contains i = true) (h2 : AllF P ops qs0 L F (i + 1) l qs) : AllF P ops qs0 L F i (o :: l) (q :: qs) := ⟨fun h' => (by rw [h] at h'; cases h'), h2⟩
theorem AllF.nil {P : Program} {ops : Array Oper} {qs0 : List Pd} {L : Lst} {F : List Nat} {i : Nat} {l : List Oper} : AllF P ops qs0 L F i l [] := by cases l <;> trivial

theorem fl_go {P : Program} {l : List Oper} {Q : Exit → Act → World → Prop} {M : Nat → Prop} {n : Nat} {s0 : St} {a : Act} {s : St} {L : Lst} {f : Nat} {listed : Array Bool} (m : Nat) (qs : List Pd) (F : List Nat) (hL : Has M n s0 a s L)
    (hok : okDraw l.toArray m n (L.map (·.1)) F = true) (hst : okStart l.toArray listed m F = true) (hc : ((List.range l.toArray.size).filter (fun i => !listed.getD i true)).length = f) (hfl : FlOk l.toArray qs L F) (hq : Nat.beq qs.length m = true) (hm : Nat.ble m l.length = true)
    (hT : AllF P l.toArray qs L F 0 l qs)
    (hB : ∀ a' s', Ex s s' → Has M n s0 a' s' (newL l.toArray qs m L) → wpList P l.toArray Q (l.drop m) a' s'.w) : wpAny P .any l.toArray Q f listed a s.w := by
  refine fl_end m qs F hL hok hst hc hfl (Nat.eq_of_beq_eq_true hq) (by simpa using Nat.le_of_ble_eq_true hm) (fun i o q _ ho hq hF => AllF.at 0 l qs hT i o q (by simpa using ho) hq (by simpa using hF)) fun a' s' e h => ?_
  have := hB a' s' e h
  rw [← wpOps_eq_wpList (l.drop m) m (fun j => by simp)] at this
  simpa using this

theorem y_move {P : Program} {o : Oper} {L : Lst} {x : Operand} {q : Pd} (h : Opn L x q) (ho : o.op = .move x) (hg : o.guard = none) : TY P o L q :=
  ⟨hg, fun M n s0 a s hL => ⟨a.eval x, fun w => by unfold execOp; rw [ho]; rfl, h M n s0 a s hL⟩⟩
theorem y_arith {P : Program} {o : Oper} {L : Lst} {k : IntKind} {x y : Operand} {a b : Int} (op : BinOp) (f : Int → Int → Int) (hf : ∀ a b, (Op.intArith op k a b : Sem Value) = Pure.pure (.int k (k.wrap (f a b)))) (hop : op = .add ∨ op = .sub ∨ op = .mul)
    (hx : Opn L x (Pd.rep (En.int k) a)) (hy : Opn L y (Pd.rep (En.int k) b)) (hr : InR k (f a b)) {t u : TypeId} (ho : o.op = .binOp op t x y u) (hg : o.guard = none) : TY P o L (Pd.rep (En.int k) (f a b)) :=
  ⟨hg, fun M n s0 ac s hL => by
    have h1 := (rep_int.1 (hx M n s0 ac s hL)).1
    have h2 := (rep_int.1 (hy M n s0 ac s hL)).1
    refine ⟨.int k (f a b), fun w => ?_, rep_int.2 ⟨rfl, hr⟩⟩
    unfold execOp
    rw [ho]
    simp only [h1, h2]
    rcases hop with rfl | rfl | rfl <;> simp [eqGuard, binOp, hf, wrap_in hr]⟩
theorem y_add {P : Program} {o : Oper} {L : Lst} {k : IntKind} {x y : Operand} {a b : Int} (hx : Opn L x (Pd.rep (En.int k) a)) (hy : Opn L y (Pd.rep (En.int k) b)) (hr : InR k (a + b)) {t u : TypeId} (ho : o.op = .binOp .add t x y u) (hg : o.guard = none) :
    TY P o L (Pd.rep (En.int k) (a + b)) := y_arith .add (· + ·) (fun _ _ => rfl) (.inl rfl) hx hy hr ho hg
theorem y_sub {P : Program} {o : Oper} {L : Lst} {k : IntKind} {x y : Operand} {a b : Int} (hx : Opn L x (Pd.rep (En.int k) a)) (hy : Opn L y (Pd.rep (En.int k) b)) (hr : InR k (a - b)) {t u : TypeId} (ho : o.op = .binOp .sub t x y u) (hg : o.guard = none) :
    TY P o L (Pd.rep (En.int k) (a - b)) := y_arith .sub (· - ·) (fun _ _ => rfl) (.inr (.inl rfl)) hx hy hr ho hg

theorem o_nil {α : Type} {E : En α} {N : Nat} {te : TypeId} {L : Lst} : Opn L (.const (.slice none 0 0)) (Pd.row E N te none ([] : List α)) := o_c fun s => own_nil E N te s
theorem o_nilr {α : Type} {E : En α} {L : Lst} : Opn L (.const (.slice none 0 0)) (Pd.rep (En.slice E) ([] : List α)) := o_c fun s => rep_slice.2 (slV_nil E _ _)
theorem o_f {L : Lst} {x : Operand} {q : Pd} (h : Opn L x q) : Opn L x q := h

/-- Two results in one. -/
def Pd.tup2 (q r : Pd) : Pd := ⟨fun s v => ∃ x y, v = .tuple #[x, y] ∧ q.p s x ∧ r.p s y, fun b => q.own b ∨ r.own b, fun h hb ⟨x, y, hv, h1, h2⟩ => ⟨x, y, hv, q.mv h (fun b hq => hb b (.inl hq)) h1, r.mv h (fun b hr => hb b (.inr hr)) h2⟩⟩
theorem Fn.tup {P : Program} {f : FuncId} {qs : List Pd} {q r : Pd} (h : Fn P f qs (Rq2 q r)) : Fn P f qs (Rq (Pd.tup2 q r)) := h
section
variable {P : Program} {ops : Array Oper} {o : Oper} {L : Lst}
theorem t_ext0 {q r : Pd} {x : Operand} (hx : Opn L x (Pd.tup2 q r)) (ho : o.op = .extract x 0) (hg : o.guard = none) : T P ops o L q :=
  T.pure hg fun M n s0 a s hL => by
    obtain ⟨u, v, hv, h1, h2⟩ := hx M n s0 a s hL
    refine ⟨u, ?_, h1⟩
    unfold execOp; rw [ho]; simp [hv, Instr.extract]
theorem t_ext1 {q r : Pd} {x : Operand} (hx : Opn L x (Pd.tup2 q r)) (ho : o.op = .extract x 1) (hg : o.guard = none) : T P ops o L r :=
  T.pure hg fun M n s0 a s hL => by
    obtain ⟨u, v, hv, h1, h2⟩ := hx M n s0 a s hL
    refine ⟨v, ?_, h2⟩
    unfold execOp; rw [ho]; simp [hv, Instr.extract]
end
end Go.Proofs.YtdfnbogkniikbaaDoor.V
