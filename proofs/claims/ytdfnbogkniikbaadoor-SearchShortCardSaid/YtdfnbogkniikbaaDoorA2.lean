/-
  Slices, variables of their own, appends, calls, tests, loops: typed operations and rules of the walk. No program is named here.
-/
import Derived.Test.YtdfnbogkniikbaaDoorA1
namespace Go.Proofs.YtdfnbogkniikbaaDoor.V
open Go
set_option linter.unusedVariables false

/-- The element at a place, if there is one. -/
def at? {α : Type} (xs : List α) (i : Int) : Option α := if 0 ≤ i then xs[i.toNat]? else none

/-- Which cells mean a row of things. -/
def Els {α : Type} (E : En α) (w : World) (S : Nat → Prop) (css : List (List Value)) (xs : List α) : Prop :=
  css.length = xs.length ∧ ∀ (i : Nat) (cs : List Value) (x : α), css[i]? = some cs → xs[i]? = some x → E.R w S cs x

theorem Els.lens {α : Type} {E : En α} {w S css} {xs : List α} (h : Els E w S css xs) : ∀ cs ∈ css, cs.length = E.sz := by
  intro cs hcs
  obtain ⟨i, hi⟩ := List.getElem?_of_mem hcs
  have hlt : i < css.length := (List.getElem?_eq_some_iff.1 hi).1
  have hx : xs[i]? = some (xs[i]'(h.1 ▸ hlt)) := by simp
  exact E.len (h.2 i cs _ hi hx)

theorem flat_len {css : List (List Value)} {n : Nat} (h : ∀ cs ∈ css, cs.length = n) : css.flatten.length = css.length * n := by
  induction css with
  | nil => simp
  | cons c r ih =>
    simp only [List.flatten_cons, List.length_append, List.length_cons]
    rw [ih (fun x hx => h x (by simp [hx])), h c (by simp), Nat.add_mul]; omega

theorem flat_get {css : List (List Value)} {n : Nat} (h : ∀ cs ∈ css, cs.length = n) : ∀ {i : Nat} {cs : List Value} {j : Nat} {u : Value}, css[i]? = some cs → cs[j]? = some u → css.flatten[i * n + j]? = some u := by
  induction css with
  | nil => intro i cs j u hi; simp at hi
  | cons c r ih =>
    intro i cs j u hi hj
    have hc : c.length = n := h c (by simp)
    cases i with
    | zero =>
      simp at hi; subst hi
      rw [List.flatten_cons, Nat.zero_mul, Nat.zero_add, List.getElem?_append_left (List.getElem?_eq_some_iff.1 hj).1]; exact hj
    | succ i =>
      simp at hi
      rw [List.flatten_cons, List.getElem?_append_right (by rw [hc, Nat.succ_mul]; omega)]
      rw [show (i + 1) * n + j - c.length = i * n + j by rw [hc, Nat.succ_mul]; omega]
      exact ih (fun x hx => h x (by simp [hx])) hi hj

def lim : Nat := 9223372036854775807

def SlV {α : Type} (E : En α) (w : World) (S : Nat → Prop) (v : Value) (xs : List α) : Prop :=
  ∃ ad cap, v = .slice ad xs.length cap ∧ xs.length ≤ cap ∧ (ad = none → cap = 0) ∧ xs.length ≤ lim ∧
    (xs ≠ [] → ∃ b off css, ad = some ⟨b, off, none⟩ ∧ S b ∧ Els E w S css xs ∧ CellsAt w b off css.flatten)

def En.slice {α : Type} (E : En α) : En (List α) where
  sz := 1
  agg := false
  R := fun w S cs xs => ∃ v, cs = [v] ∧ SlV E w S v xs
  sc := fun _ => rfl
  pos := Nat.one_pos
  len := by rintro _ _ _ _ ⟨v, rfl, _⟩; rfl
  one := by rintro _ _ _ _ ⟨v, rfl, ad, cap, rfl, _⟩ u hu; simp at hu; subst hu; rfl
  mono := by
    rintro w S S' cs xs h ⟨v, rfl, ad, cap, hv, h1, h2, h3, h4⟩
    refine ⟨v, rfl, ad, cap, hv, h1, h2, h3, fun hne => ?_⟩
    obtain ⟨b, off, css, e, hb, hE, hc⟩ := h4 hne
    exact ⟨b, off, css, e, h b hb, ⟨hE.1, fun i cs x a b => E.mono h (hE.2 i cs x a b)⟩, hc⟩
  move := by
    rintro w w' S cs xs h ⟨v, rfl, ad, cap, hv, h1, h2, h3, h4⟩
    refine ⟨v, rfl, ad, cap, hv, h1, h2, h3, fun hne => ?_⟩
    obtain ⟨b, off, css, e, hb, hE, hc⟩ := h4 hne
    exact ⟨b, off, css, e, hb, ⟨hE.1, fun i cs x a b => E.move h (hE.2 i cs x a b)⟩, hc.same (h b hb)⟩

theorem rep_slice {α : Type} {E : En α} {xs : List α} {s : St} {v : Value} : (Pd.rep (En.slice E) xs).p s v ↔ SlV E s.w (foot s) v xs :=
  ⟨fun ⟨_, hv, u, hc, h⟩ => by subst hc; subst hv; exact h, fun h => ⟨[v], rfl, v, rfl, h⟩⟩

theorem slV_nil {α : Type} (E : En α) (w : World) (S : Nat → Prop) : SlV E w S (.slice none 0 0) ([] : List α) := ⟨none, 0, rfl, Nat.le_refl _, fun _ => rfl, Nat.zero_le _, fun h => absurd rfl h⟩

/-- A slice of the function's own: nil, or at the head of a block that nobody else knows. -/
def Pd.row {α : Type} (E : En α) (N : Nat) (te : TypeId) (og : Option Nat) (xs : List α) : Pd :=
  ⟨fun s v => v.ownBlock = og ∧ (∀ g, og = some g → s.X g) ∧ xs.length ≤ lim ∧ ∃ css, Els E s.w (foot s) css xs ∧ s.w.ownsRow N te E.sz v xs.length css.flatten, fun b => og = some b,
    by
      rintro T s s' v h hb ⟨h1, h2, h3, css, h4, h5⟩
      refine ⟨h1, fun g hg => (hb g hg).2 (h2 g hg), h3, css, ⟨h4.1, fun i cs x a b => E.go h (h4.2 i cs x a b)⟩, h5.1, ?_⟩
      rcases h5.2 with hn | ⟨g, cap, cur, e, hN, hg, rest⟩
      · exact .inl hn
      · subst e
        have hog : og = some g := by rw [← h1]; rfl
        refine .inr ⟨g, cap, cur, rfl, hN, ?_, rest⟩
        rw [h.blk g (Array.getElem?_eq_some_iff.1 hg).1 (hb g hog).1]; exact hg⟩

theorem own_nil {α : Type} (E : En α) (N : Nat) (te : TypeId) (s : St) : (Pd.row E N te none ([] : List α)).p s (.slice none 0 0) := by
  refine ⟨rfl, ?_, Nat.zero_le _, [], ⟨rfl, ?_⟩, World.ownsRow_nil _ _ _ _⟩
  · intro g h; cases h
  · intro i cs x h; simp at h

/-- What is owned, read as a slice where nobody writes it any more. -/
theorem own_slV {α : Type} {E : En α} {N : Nat} {te : TypeId} {og : Option Nat} {xs : List α} {s s' : St} {v : Value} (h : (Pd.row E N te og xs).p s v) (hw : s'.w = s.w)
    (hX : ∀ b, s'.X b → s.X b ∧ og ≠ some b) : SlV E s'.w (foot s') v xs := by
  obtain ⟨h1, h2, h3, css, h4, h5⟩ := h
  have hf : ∀ b, foot s b → foot s' b := fun b hb => ⟨by rw [hw]; exact hb.1, fun hx => hb.2 (hX b hx).1⟩
  have h4' : Els E s'.w (foot s') css xs := ⟨h4.1, fun i cs x a b => by rw [hw]; exact E.mono hf (h4.2 i cs x a b)⟩
  rcases h5.2 with ⟨e, hn⟩ | ⟨g, cap, cur, e, hN, hg, hnc, hcm, hcs, ht⟩
  · have : xs = [] := List.eq_nil_of_length_eq_zero hn
    subst this; rw [e]; exact slV_nil E _ _
  · subst e
    refine ⟨some ⟨g, 0, none⟩, cap, rfl, hnc, (fun e => by cases e), h3, fun _ => ⟨g, 0, css, rfl, ⟨?_, fun hx => (hX g hx).2 (by rw [← h1]; rfl)⟩, h4', fun j u hu => ?_⟩⟩
    · rw [hw]; exact (Array.getElem?_eq_some_iff.1 hg).1
    · rw [hw, Nat.zero_add, cell_of_row s.w g j cur te (0, 0) hg]
      rw [← ht, List.getElem?_take] at hu
      split at hu
      · simpa using hu
      · cases hu

section
variable {P : Program} {ops : Array Oper} {o : Oper} {L : Lst}

/-- len of a slice. -/
theorem t_len {α : Type} {E : En α} {xs : List α} {y : Operand} {t te : TypeId} (hy : Opn L y (Pd.rep (En.slice E) xs)) (ht : P.underlying t = some (.slice te)) (ho : o.op = .call { callee := .builtin .len, args := #[y], argTypes := #[t] }) (hg : o.guard = none) :
    T P ops o L (Pd.rep (En.int .i64) xs.length) :=
  T.pure hg fun M n s0 ac s hL => by
    obtain ⟨ad, cap, hv, h1, h2, h3, h4⟩ := rep_slice.1 (hy M n s0 ac s hL)
    refine ⟨.int .i64 xs.length, ?_, rep_int.2 ⟨rfl, ?_⟩⟩
    · unfold execOp; rw [ho]; simp [resolve, invoke, builtin, hv, Builtin.len_, run_underlying ht, goInt]
    · simp only [lim] at h3; simp [InR, IntKind.min, IntKind.max, IntKind.signed, IntKind.bits]; omega
theorem t_leno {α : Type} {E : En α} {xs : List α} {N te og} {y : Operand} {t te' : TypeId} (hy : Opn L y (Pd.row E N te og xs)) (ht : P.underlying t = some (.slice te')) (ho : o.op = .call { callee := .builtin .len, args := #[y], argTypes := #[t] }) (hg : o.guard = none) :
    T P ops o L (Pd.rep (En.int .i64) xs.length) :=
  T.pure hg fun M n s0 ac s hL => by
    obtain ⟨h1, h2, h3, css, h4, h5⟩ := hy M n s0 ac s hL
    refine ⟨.int .i64 xs.length, ?_, rep_int.2 ⟨rfl, ?_⟩⟩
    · have hv : ∃ ad cap, ac.eval y = .slice ad xs.length cap := by
        rcases h5.2 with ⟨e, hn⟩ | ⟨g, cap, cur, e, _⟩
        · exact ⟨none, 0, by rw [e, hn]⟩
        · exact ⟨_, _, e⟩
      obtain ⟨ad, cap, hv⟩ := hv
      unfold execOp; rw [ho]; simp [resolve, invoke, builtin, hv, Builtin.len_, run_underlying ht, goInt]
    · simp only [lim] at h3; simp [InR, IntKind.min, IntKind.max, IntKind.signed, IntKind.bits]; omega

/-- The address of an element. -/
theorem t_idx {α : Type} {E : En α} {xs : List α} {e : α} {k : IntKind} {i : Int} {x y : Operand} {t te : TypeId} (hx : Opn L x (Pd.rep (En.slice E) xs)) (hy : Opn L y (Pd.rep (En.int k) i)) (he : at? xs i = some e)
    (ht : P.underlying t = some (.slice te)) (hE : Ty P te E) (ho : o.op = .indexAddr t x y) (hg : o.guard = none) : T P ops o L (Pd.ptr E e) :=
  T.pure hg fun M n s0 ac s hL => by
    obtain ⟨ad, cap, hv, h1, h2, h3, h4⟩ := rep_slice.1 (hx M n s0 ac s hL)
    have hi := (rep_int.1 (hy M n s0 ac s hL)).1
    unfold at? at he
    split at he
    case isFalse => cases he
    rename_i h0
    have hlt : i.toNat < xs.length := (List.getElem?_eq_some_iff.1 he).1
    obtain ⟨b, off, css, e1, hb, hEl, hc⟩ := h4 (by intro h; simp [h] at hlt)
    obtain ⟨cs, hcs⟩ : ∃ cs, css[i.toNat]? = some cs := ⟨css[i.toNat]'(by rw [hEl.1]; exact hlt), by simp⟩
    refine ⟨.pointer (some ⟨b, off + i.toNat * E.sz, none⟩), ?_, b, off + i.toNat * E.sz, cs, rfl, hb, ?_, hEl.2 _ _ _ hcs he⟩
    · unfold execOp; rw [ho]
      simp only [hv, hi, Instr.indexAt, asIntOf, Sem.run_bind, Sem.run_pure, Result.andThen_ok, run_underlying ht, e1]
      rw [if_pos (by omega)]
      simp [run_sizeOfE hE, add_lit]
    · intro j u hu
      rw [Nat.add_assoc]; exact hc _ u (flat_get hEl.lens hcs hu)

/-- .. of an owned slice. -/
theorem t_idxo {α : Type} {E : En α} {xs : List α} {e : α} {k : IntKind} {i : Int} {N : Nat} {og : Option Nat} {x y : Operand} {t te te' : TypeId} (hx : Opn L x (Pd.row E N te' og xs)) (hy : Opn L y (Pd.rep (En.int k) i)) (he : at? xs i = some e)
    (ht : P.underlying t = some (.slice te)) (hE : Ty P te E) (ho : o.op = .indexAddr t x y) (hg : o.guard = none) : T P ops o L (Pd.optr E N og (i.toNat * E.sz) e) :=
  T.pure hg fun M n s0 ac s hL => by
    obtain ⟨h1, h2, h3, css, h4, h5⟩ := hx M n s0 ac s hL
    have hi := (rep_int.1 (hy M n s0 ac s hL)).1
    unfold at? at he
    split at he
    case isFalse => cases he
    rename_i h0
    have hlt : i.toNat < xs.length := (List.getElem?_eq_some_iff.1 he).1
    rcases h5.2 with ⟨e', hn⟩ | ⟨g', cap, cur, ev, hN, hgb, hnc, hcm, hcs', htk⟩
    · omega
    · have hgg : og = some g' := by rw [← h1, ev]; rfl
      obtain ⟨cs, hcs⟩ : ∃ cs, css[i.toNat]? = some cs := ⟨css[i.toNat]'(by rw [h4.1]; exact hlt), by simp⟩
      refine ⟨.pointer (some ⟨g', i.toNat * E.sz, none⟩), ?_, g', hgg, rfl, hN, (Array.getElem?_eq_some_iff.1 hgb).1, h2 _ hgg, cs, ?_, h4.2 _ _ _ hcs he⟩
      · unfold execOp; rw [ho]
        simp only [ev, hi, Instr.indexAt, asIntOf, Sem.run_bind, Sem.run_pure, Result.andThen_ok, run_underlying ht]
        rw [if_pos (by omega)]
        simp [run_sizeOfE hE, add_lit]
      · intro j u hu
        have hf := flat_get h4.lens hcs hu
        rw [cell_of_row s.w g' _ cur te' (0, 0) hgb]
        rw [← htk, List.getElem?_take] at hf
        split at hf
        · simpa using hf
        · cases hf

/-! ### new blocks -/
theorem push_foot {s : St} {ob : Obj} {b : Nat} (h : foot s b) : foot (s.push ob) b := ⟨by have := h.1; simp [St.push]; omega, h.2⟩
theorem En.psh {α : Type} (E : En α) {s : St} {ob : Obj} {cs : List Value} {x : α} (h : E.R s.w (foot s) cs x) : E.R (s.push ob).w (foot (s.push ob)) cs x := E.go (Ex.push s ob).mv h

theorem cellsAt_new (s : St) (cs : List Value) (t : TypeId) : CellsAt (s.push (.cells cs.toArray t)).w s.w.heap.size 0 cs :=
  cellsAt_block (w := (s.push (.cells cs.toArray t)).w) (t := t) (fr := (0, 0)) (heap_alloc_new s.w _)

/-- A parameter or a value put into a variable that is only read. -/
theorem t_box {α : Type} {E : En α} {x : α} {y : Operand} {t : TypeId} (hy : Opn L y (Pd.rep E x)) (ho : o.op = .box t y) (hg : o.guard = none) : T P ops o L (Pd.ptr E x) :=
  T.mk hg fun M n s0 ac s hL => by
    obtain ⟨cs, hv, hR⟩ := hy M n s0 ac s hL
    refine ⟨.pointer (some ⟨s.w.heap.size, 0, none⟩), s.push (.cells cs.toArray t), ?_, Ex.push s _, s.w.heap.size, 0, cs, rfl, ⟨by simp [St.push], fun h => by have := s.lt _ h; omega⟩, cellsAt_new s cs t, E.psh hR⟩
    unfold execOp; rw [ho]
    simp only [hv, Instr.box, newVar, newRow, En.val_cells hR, Sem.run_bind, run_newObj, Result.andThen_ok, Sem.run_pure]
    rfl
end
end Go.Proofs.YtdfnbogkniikbaaDoor.V
