/-
  How data lies in cells: encodings of numbers, bools, texts, structs, arrays, slices; typed operations over them. No program is named here.
-/
import Derived.Test.YtdfnbogkniikbaaDoorA0
namespace Go.Proofs.YtdfnbogkniikbaaDoor.V
open Go
set_option linter.unusedVariables false

/-- The blocks that data may lie in: those that are there, and that nobody may still write. -/
def foot (s : St) : Nat → Prop := fun b => b < s.w.heap.size ∧ ¬ s.X b

def Same (S : Nat → Prop) (w w' : World) : Prop := ∀ b, S b → w'.heap[b]? = w.heap[b]?

/-- An encoding: how many cells, whether they are put together as one value, and which cells mean x. -/
structure En (α : Type) where
  sz : Nat
  agg : Bool
  R : World → (Nat → Prop) → List Value → α → Prop
  sc : agg = false → sz = 1
  pos : 0 < sz
  len : ∀ {w S cs x}, R w S cs x → cs.length = sz
  one : ∀ {w S cs x}, R w S cs x → ∀ u ∈ cs, u.oneCell' = true
  mono : ∀ {w S S' cs x}, (∀ b, S b → S' b) → R w S cs x → R w S' cs x
  move : ∀ {w w' S cs x}, Same S w w' → R w S cs x → R w' S cs x

def En.val {α : Type} (E : En α) (cs : List Value) : Value := bif E.agg then .agg cs.toArray else cs.headD undef

theorem En.val_cells {α : Type} {E : En α} {w S cs x} (h : E.R w S cs x) : (E.val cs).cells = cs.toArray := by
  unfold En.val
  cases ha : E.agg
  · have hl := E.len h
    rw [E.sc ha] at hl
    match cs, hl with
    | [u], _ =>
      have h1 := E.one h u (by simp)
      simp only [cond_false, List.headD_cons]
      cases u <;> first | rfl | simp [Value.oneCell'] at h1
  · rfl

theorem En.go {α : Type} (E : En α) {T : Nat → Prop} {s s' : St} {cs : List Value} {x : α} (h : Mv T s s') (hR : E.R s.w (foot s) cs x) : E.R s'.w (foot s') cs x :=
  E.mono (fun b hb => ⟨Nat.lt_of_lt_of_le hb.1 h.size, fun hx => (h.xx b hx).elim hb.2 (fun hk => by have := hb.1; omega)⟩)
    (E.move (fun b hb => h.blk b hb.1 (fun ht => hb.2 (h.tx b ht))) hR)

/-- A value that means x. -/
def Pd.rep {α : Type} (E : En α) (x : α) : Pd :=
  ⟨fun s v => ∃ cs, v = E.val cs ∧ E.R s.w (foot s) cs x, fun _ => False, fun h _ ⟨cs, hv, hR⟩ => ⟨cs, hv, E.go h hR⟩⟩

/-- Cells from an address on. -/
def CellsAt (w : World) (b o : Nat) (cs : List Value) : Prop := ∀ j u, cs[j]? = some u → w.cell? ⟨b, o + j, none⟩ = some u

theorem CellsAt.same {w w' : World} {b o : Nat} {cs : List Value} (h : CellsAt w b o cs) (hb : w'.heap[b]? = w.heap[b]?) : CellsAt w' b o cs :=
  fun j u hu => by rw [World.cell?_of_block (w := w) hb]; exact h j u hu

theorem add_lit (b o j : Nat) : (⟨b, o, none⟩ : Addr).add j = ⟨b, o + j, none⟩ := by unfold Addr.add; split <;> simp_all

/-- A pointer to what means x, which nobody writes any more. -/
def Pd.ptr {α : Type} (E : En α) (x : α) : Pd :=
  ⟨fun s v => ∃ b o cs, v = .pointer (some ⟨b, o, none⟩) ∧ foot s b ∧ CellsAt s.w b o cs ∧ E.R s.w (foot s) cs x, fun _ => False,
    fun {T s s' v} h _ ⟨b, o, cs, hv, hb, hc, hR⟩ => ⟨b, o, cs, hv,
      ⟨Nat.lt_of_lt_of_le hb.1 h.size, fun hx => (h.xx b hx).elim hb.2 (fun hk => by have := hb.1; omega)⟩,
      hc.same (h.blk b hb.1 (fun ht => hb.2 (h.tx b ht))), E.go h hR⟩⟩

/-- A pointer into an owned block: from cell o of the block on there is what means x. -/
def Pd.optr {α : Type} (E : En α) (N : Nat) (og : Option Nat) (o : Nat) (x : α) : Pd :=
  ⟨fun s v => ∃ g, og = some g ∧ v = .pointer (some ⟨g, o, none⟩) ∧ N ≤ g ∧ g < s.w.heap.size ∧ s.X g ∧ ∃ cs, CellsAt s.w g o cs ∧ E.R s.w (foot s) cs x, fun b => og = some b,
    fun {T s s' v} h hb ⟨g, ho, hv, hN, hg, hx, cs, hc, hR⟩ => ⟨g, ho, hv, hN, Nat.lt_of_lt_of_le hg h.size, (hb g ho).2 hx, cs, hc.same (h.blk g hg (hb g ho).1), E.go h hR⟩⟩

/-- A variable of its own: a block that holds what means x, and nothing else. -/
def Pd.box {α : Type} (E : En α) (N g : Nat) (x : α) : Pd :=
  ⟨fun s v => v = .pointer (some ⟨g, 0, none⟩) ∧ N ≤ g ∧ s.X g ∧ ∃ cs t, s.w.heap[g]? = some (.cells cs.toArray t (0, 0)) ∧ E.R s.w (foot s) cs x, fun b => b = g,
    fun {T s s' v} h hb ⟨hv, hN, hx, cs, t, hc, hR⟩ => ⟨hv, hN, (hb g rfl).2 hx, cs, t, by
      rw [h.blk g (Array.getElem?_eq_some_iff.1 hc).1 (hb g rfl).1]; exact hc, E.go h hR⟩⟩

theorem Pd.rep_stable {α : Type} (E : En α) (x : α) : (Pd.rep E x).Stable := fun _ h => h
theorem Pd.ptr_stable {α : Type} (E : En α) (x : α) : (Pd.ptr E x).Stable := fun _ h => h
theorem Pd.is_stable (x : Value) : (Pd.is x).Stable := fun _ h => h
theorem Pd.any_stable : Pd.any.Stable := fun _ h => h

/-! ### numbers, bools, texts -/
def InR (k : IntKind) (x : Int) : Prop := k.min ≤ x ∧ x ≤ k.max
instance (k : IntKind) (x : Int) : Decidable (InR k x) := by unfold InR; infer_instance
def En.int (k : IntKind) : En Int where
  sz := 1
  agg := false
  R := fun _ _ cs x => cs = [.int k x] ∧ InR k x
  sc := fun _ => rfl
  pos := Nat.one_pos
  len := by rintro _ _ _ _ ⟨rfl, _⟩; rfl
  one := by rintro _ _ _ _ ⟨rfl, _⟩ u hu; simp at hu; subst hu; rfl
  mono := fun _ h => h
  move := fun _ h => h
def En.bool : En Bool where
  sz := 1
  agg := false
  R := fun _ _ cs x => cs = [.bool x]
  sc := fun _ => rfl
  pos := Nat.one_pos
  len := by rintro _ _ _ _ rfl; rfl
  one := by rintro _ _ _ _ rfl u hu; simp at hu; subst hu; rfl
  mono := fun _ h => h
  move := fun _ h => h
abbrev Str := List UInt8
def En.str : En Str where
  sz := 1
  agg := false
  R := fun _ _ cs x => cs = [.string ⟨x.toArray⟩] ∧ x.length ≤ 9223372036854775807
  sc := fun _ => rfl
  pos := Nat.one_pos
  len := by rintro _ _ _ _ ⟨rfl, _⟩; rfl
  one := by rintro _ _ _ _ ⟨rfl, _⟩ u hu; simp at hu; subst hu; rfl
  mono := fun _ h => h
  move := fun _ h => h

theorem rep_int {k : IntKind} {x : Int} {s : St} {v : Value} : (Pd.rep (En.int k) x).p s v ↔ v = .int k x ∧ InR k x :=
  ⟨fun ⟨_, hv, hc, hr⟩ => by subst hc; exact ⟨hv, hr⟩, fun ⟨hv, hr⟩ => ⟨[.int k x], hv, rfl, hr⟩⟩
theorem rep_bool {x : Bool} {s : St} {v : Value} : (Pd.rep En.bool x).p s v ↔ v = .bool x :=
  ⟨fun ⟨_, hv, hc⟩ => by cases hc; exact hv, fun hv => ⟨[.bool x], hv, rfl⟩⟩
theorem rep_str {x : Str} {s : St} {v : Value} : (Pd.rep En.str x).p s v ↔ v = .string ⟨x.toArray⟩ ∧ x.length ≤ 9223372036854775807 :=
  ⟨fun ⟨_, hv, hc, hr⟩ => by subst hc; exact ⟨hv, hr⟩, fun ⟨hv, hr⟩ => ⟨[.string ⟨x.toArray⟩], hv, rfl, hr⟩⟩

/-! ### operands -/
/-- An operand of which q is known where L is. -/
def Opn (L : Lst) (x : Operand) (q : Pd) : Prop := ∀ M n s0 a s, Has M n s0 a s L → q.p s (a.eval x)
theorem o_t {L : Lst} (t : Nat) {q : Pd} (h : lk L t = some q) : Opn L (.tmp t) q := fun _ _ _ _ _ hL => hL.get t h
theorem o_c {L : Lst} {v : Value} {q : Pd} (h : ∀ s, q.p s v) : Opn L (.const v) q := fun _ _ _ _ s _ => h s
theorem o_i {L : Lst} {k : IntKind} {x : Int} (h : InR k x) : Opn L (.const (.int k x)) (Pd.rep (En.int k) x) := o_c fun _ => rep_int.2 ⟨rfl, h⟩
theorem o_b {L : Lst} {x : Bool} : Opn L (.const (.bool x)) (Pd.rep En.bool x) := o_c fun _ => rep_bool.2 rfl
theorem o_s {L : Lst} {x : Str} (h : x.length ≤ 9223372036854775807) : Opn L (.const (.string ⟨x.toArray⟩)) (Pd.rep En.str x) := o_c fun _ => rep_str.2 ⟨rfl, h⟩

section
variable {P : Program} {ops : Array Oper} {o : Oper} {L : Lst}

theorem T.mk {q : Pd} (hg : o.guard = none) (h : ∀ M n s0 a s, Has M n s0 a s L → ∃ v s', (execOp a.eval o).run P s.w = .ok (.value v) s'.w ∧ Ex s s' ∧ q.p s' v) : T P ops o L q :=
  fun M n s0 a s hL => by
    obtain ⟨v, s', h1, h2, h3⟩ := h M n s0 a s hL
    exact OpR.of_run hg h1 ⟨h2, h3⟩
/-- .. in the world as it is. -/
theorem T.pure {q : Pd} (hg : o.guard = none) (h : ∀ M n s0 a s, Has M n s0 a s L → ∃ v, (execOp a.eval o).run P s.w = .ok (.value v) s.w ∧ q.p s v) : T P ops o L q :=
  T.mk hg fun M n s0 a s hL => let ⟨v, h1, h2⟩ := h M n s0 a s hL; ⟨v, s, h1, Ex.refl s, h2⟩

theorem t_move {x : Operand} {q : Pd} (h : Opn L x q) (ho : o.op = .move x) (hg : o.guard = none) : T P ops o L q :=
  T.pure hg fun M n s0 a s hL => ⟨a.eval x, by unfold execOp; rw [ho]; rfl, h M n s0 a s hL⟩
theorem t_assign {x : Operand} {q : Pd} (h : Opn L x q) (ho : o.op = .assign x) (hg : o.guard = none) : T P ops o L q :=
  T.pure hg fun M n s0 a s hL => ⟨a.eval x, by unfold execOp; rw [ho]; rfl, h M n s0 a s hL⟩

theorem wrap_in {k : IntKind} {x : Int} (h : InR k x) : k.wrap x = x := by
  unfold InR at h
  cases k <;> simp [IntKind.min, IntKind.max, IntKind.signed, IntKind.bits] at h <;> simp [IntKind.wrap, IntKind.signed, IntKind.bits] <;> omega

theorem wrap_inR (k : IntKind) (x : Int) : InR k (k.wrap x) := by
  unfold InR
  cases k <;> simp [IntKind.min, IntKind.max, IntKind.signed, IntKind.bits, IntKind.wrap] <;> omega

/-- Sums and the like that fit. -/
theorem t_arith {k : IntKind} {x y : Operand} {a b : Int} (op : BinOp) (f : Int → Int → Int) (hf : ∀ a b, (Op.intArith op k a b : Sem Value) = Pure.pure (.int k (k.wrap (f a b)))) (hop : op = .add ∨ op = .sub ∨ op = .mul)
    (hx : Opn L x (Pd.rep (En.int k) a)) (hy : Opn L y (Pd.rep (En.int k) b)) (hr : InR k (f a b)) {t u : TypeId} (ho : o.op = .binOp op t x y u) (hg : o.guard = none) :
    T P ops o L (Pd.rep (En.int k) (f a b)) :=
  T.pure hg fun M n s0 ac s hL => by
    have h1 := (rep_int.1 (hx M n s0 ac s hL)).1
    have h2 := (rep_int.1 (hy M n s0 ac s hL)).1
    refine ⟨.int k (f a b), ?_, rep_int.2 ⟨rfl, hr⟩⟩
    unfold execOp
    rw [ho]
    simp only [h1, h2]
    rcases hop with rfl | rfl | rfl <;> simp [eqGuard, binOp, hf, wrap_in hr]
theorem t_add {k : IntKind} {x y : Operand} {a b : Int} (hx : Opn L x (Pd.rep (En.int k) a)) (hy : Opn L y (Pd.rep (En.int k) b)) (hr : InR k (a + b)) {t u : TypeId} (ho : o.op = .binOp .add t x y u) (hg : o.guard = none) :
    T P ops o L (Pd.rep (En.int k) (a + b)) := t_arith .add (· + ·) (fun _ _ => rfl) (.inl rfl) hx hy hr ho hg
theorem t_sub {k : IntKind} {x y : Operand} {a b : Int} (hx : Opn L x (Pd.rep (En.int k) a)) (hy : Opn L y (Pd.rep (En.int k) b)) (hr : InR k (a - b)) {t u : TypeId} (ho : o.op = .binOp .sub t x y u) (hg : o.guard = none) :
    T P ops o L (Pd.rep (En.int k) (a - b)) := t_arith .sub (· - ·) (fun _ _ => rfl) (.inr (.inl rfl)) hx hy hr ho hg
theorem t_mul {k : IntKind} {x y : Operand} {a b : Int} (hx : Opn L x (Pd.rep (En.int k) a)) (hy : Opn L y (Pd.rep (En.int k) b)) (hr : InR k (a * b)) {t u : TypeId} (ho : o.op = .binOp .mul t x y u) (hg : o.guard = none) :
    T P ops o L (Pd.rep (En.int k) (a * b)) := t_arith .mul (· * ·) (fun _ _ => rfl) (.inr (.inr rfl)) hx hy hr ho hg

/-- Comparisons of numbers. -/
theorem t_cmp {k : IntKind} {x y : Operand} {a b : Int} (op : BinOp) (f : Int → Int → Bool) (hf : (fun a b => (Op.intCmp op a b : Sem Value)) = fun a b => Pure.pure (.bool (f a b)))
    (hop : op = .lss ∨ op = .leq ∨ op = .gtr ∨ op = .geq ∨ op = .eql ∨ op = .neq)
    (hx : Opn L x (Pd.rep (En.int k) a)) (hy : Opn L y (Pd.rep (En.int k) b)) {t u : TypeId} (ho : o.op = .binOp op t x y u) (hg : o.guard = none) :
    T P ops o L (Pd.rep En.bool (f a b)) :=
  T.pure hg fun M n s0 ac s hL => by
    have h1 := (rep_int.1 (hx M n s0 ac s hL)).1
    have h2 := (rep_int.1 (hy M n s0 ac s hL)).1
    have hf' : (Op.intCmp op a b : Sem Value) = Pure.pure (.bool (f a b)) := congrFun (congrFun hf a) b
    refine ⟨.bool (f a b), ?_, rep_bool.2 rfl⟩
    unfold execOp
    rw [ho]
    simp only [h1, h2]
    rcases hop with rfl | rfl | rfl | rfl | rfl | rfl <;> simp [eqGuard, binOp, hf']
theorem t_lss {k : IntKind} {x y : Operand} {a b : Int} (hx : Opn L x (Pd.rep (En.int k) a)) (hy : Opn L y (Pd.rep (En.int k) b)) {t u : TypeId} (ho : o.op = .binOp .lss t x y u) (hg : o.guard = none) :
    T P ops o L (Pd.rep En.bool (decide (a < b))) := t_cmp .lss (fun a b => decide (a < b)) rfl (.inl rfl) hx hy ho hg
theorem t_leq {k : IntKind} {x y : Operand} {a b : Int} (hx : Opn L x (Pd.rep (En.int k) a)) (hy : Opn L y (Pd.rep (En.int k) b)) {t u : TypeId} (ho : o.op = .binOp .leq t x y u) (hg : o.guard = none) :
    T P ops o L (Pd.rep En.bool (decide (a ≤ b))) := t_cmp .leq (fun a b => decide (a ≤ b)) rfl (.inr (.inl rfl)) hx hy ho hg
theorem t_gtr {k : IntKind} {x y : Operand} {a b : Int} (hx : Opn L x (Pd.rep (En.int k) a)) (hy : Opn L y (Pd.rep (En.int k) b)) {t u : TypeId} (ho : o.op = .binOp .gtr t x y u) (hg : o.guard = none) :
    T P ops o L (Pd.rep En.bool (decide (b < a))) := t_cmp .gtr (fun a b => decide (b < a)) rfl (.inr (.inr (.inl rfl))) hx hy ho hg
theorem t_geq {k : IntKind} {x y : Operand} {a b : Int} (hx : Opn L x (Pd.rep (En.int k) a)) (hy : Opn L y (Pd.rep (En.int k) b)) {t u : TypeId} (ho : o.op = .binOp .geq t x y u) (hg : o.guard = none) :
    T P ops o L (Pd.rep En.bool (decide (b ≤ a))) := t_cmp .geq (fun a b => decide (b ≤ a)) rfl (.inr (.inr (.inr (.inl rfl)))) hx hy ho hg
theorem t_eqi {k : IntKind} {x y : Operand} {a b : Int} (hx : Opn L x (Pd.rep (En.int k) a)) (hy : Opn L y (Pd.rep (En.int k) b)) {t u : TypeId} (ho : o.op = .binOp .eql t x y u) (hg : o.guard = none) :
    T P ops o L (Pd.rep En.bool (a == b)) := t_cmp .eql (fun a b => a == b) rfl (.inr (.inr (.inr (.inr (.inl rfl))))) hx hy ho hg
theorem t_nei {k : IntKind} {x y : Operand} {a b : Int} (hx : Opn L x (Pd.rep (En.int k) a)) (hy : Opn L y (Pd.rep (En.int k) b)) {t u : TypeId} (ho : o.op = .binOp .neq t x y u) (hg : o.guard = none) :
    T P ops o L (Pd.rep En.bool (a != b)) := t_cmp .neq (fun a b => a != b) rfl (.inr (.inr (.inr (.inr (.inr rfl))))) hx hy ho hg

theorem t_not {x : Operand} {a : Bool} (hx : Opn L x (Pd.rep En.bool a)) {t : TypeId} (ho : o.op = .unOp .not t x) (hg : o.guard = none) : T P ops o L (Pd.rep En.bool (!a)) :=
  T.pure hg fun M n s0 ac s hL => by
    have h1 := rep_bool.1 (hx M n s0 ac s hL)
    refine ⟨.bool (!a), ?_, rep_bool.2 rfl⟩
    unfold execOp; rw [ho]; simp [h1, Op.unary]

/-- A bool held against a bool. -/
theorem t_eqb {x y : Operand} {a b : Bool} (hx : Opn L x (Pd.rep En.bool a)) (hy : Opn L y (Pd.rep En.bool b)) {t u : TypeId} (hu : P.underlying t = some .bool) (ho : o.op = .binOp .eql t x y u) (hg : o.guard = none) :
    T P ops o L (Pd.rep En.bool (a == b)) :=
  T.pure hg fun M n s0 ac s hL => by
    have h1 := rep_bool.1 (hx M n s0 ac s hL)
    have h2 := rep_bool.1 (hy M n s0 ac s hL)
    refine ⟨.bool (a == b), ?_, rep_bool.2 rfl⟩
    unfold execOp; rw [ho]
    have := run_equal_bool (P := P) s.w t a b hu
    simp [h1, h2, eqGuard, binOp, this]
theorem t_neb {x y : Operand} {a b : Bool} (hx : Opn L x (Pd.rep En.bool a)) (hy : Opn L y (Pd.rep En.bool b)) {t u : TypeId} (hu : P.underlying t = some .bool) (ho : o.op = .binOp .neq t x y u) (hg : o.guard = none) :
    T P ops o L (Pd.rep En.bool (a != b)) :=
  T.pure hg fun M n s0 ac s hL => by
    have h1 := rep_bool.1 (hx M n s0 ac s hL)
    have h2 := rep_bool.1 (hy M n s0 ac s hL)
    refine ⟨.bool (a != b), ?_, rep_bool.2 rfl⟩
    unfold execOp; rw [ho]
    have := run_equal_bool (P := P) s.w t a b hu
    simp [h1, h2, eqGuard, binOp, this, bne]

/-! ### variables -/
/-- A type of the program that is encoded by E. -/
structure Ty {α : Type} (P : Program) (t : TypeId) (E : En α) : Prop where
  info : ∃ i z, P.info? t = some i ∧ i.size = E.sz ∧ i.zero = some z ∧ z.cells.size = E.sz ∧ i.bytes ≤ 65536
  agg : ∃ d, P.underlying t = some d ∧ (match d with | .struct _ | .array _ _ => true | _ => false) = E.agg

theorem run_isAgg {α : Type} {t : TypeId} {E : En α} (h : Ty P t E) (w : World) : (isAgg t).run P w = .ok E.agg w := by
  obtain ⟨d, hd, he⟩ := h.agg
  unfold isAgg
  simp only [Sem.run_bind, run_underlying hd, Result.andThen_ok]
  rw [← he]
  cases d <;> rfl

theorem run_sizeOfE {α : Type} {t : TypeId} {E : En α} (h : Ty P t E) (w : World) : (sizeOf t).run P w = .ok E.sz w := by
  obtain ⟨i, z, hi, he, _⟩ := h.info
  simp [sizeOf, typeInfo, hi, he]

theorem run_loadVarE {α : Type} {t : TypeId} {E : En α} (h : Ty P t E) {w w' : World} {S : Nat → Prop} {cs : List Value} {x : α} (hR : E.R w' S cs x) {b o : Nat} (hc : CellsAt w b o cs) :
    (loadVar t ⟨b, o, none⟩).run P w = .ok (E.val cs) w := by
  unfold loadVar
  simp only [Sem.run_bind, run_isAgg h, Result.andThen_ok]
  have hl := E.len hR
  cases ha : E.agg
  · have h1 := E.sc ha
    rw [h1] at hl
    match cs, hl with
    | [u], _ =>
      have := hc 0 u rfl
      simp [En.val, ha, show w.cell? ⟨b, o, none⟩ = some u from this]
  · simp only [if_true, Sem.run_bind, run_sizeOfE h, Result.andThen_ok]
    have : (loadCells ⟨b, o, none⟩ E.sz).run P w = .ok cs.toArray w := by
      rw [← hl]
      exact run_loadCells_list w ⟨b, o, none⟩ cs (fun j v hv => by rw [add_lit]; exact hc j v hv)
    simp [this, En.val, ha]

theorem t_load {α : Type} {E : En α} {x : α} {y : Operand} {t : TypeId} (ht : Ty P t E) (hy : Opn L y (Pd.ptr E x)) (ho : o.op = .load t y) (hg : o.guard = none) : T P ops o L (Pd.rep E x) :=
  T.pure hg fun M n s0 ac s hL => by
    obtain ⟨b, off, cs, hv, hb, hc, hR⟩ := hy M n s0 ac s hL
    refine ⟨E.val cs, ?_, cs, rfl, hR⟩
    unfold execOp; rw [ho]; simp [hv, Instr.loadAt, Instr.sureAddr, run_loadVarE ht hR hc]
theorem t_loado {α : Type} {E : En α} {x : α} {y : Operand} {t : TypeId} {N off : Nat} {og : Option Nat} (ht : Ty P t E) (hy : Opn L y (Pd.optr E N og off x)) (ho : o.op = .load t y) (hg : o.guard = none) : T P ops o L (Pd.rep E x) :=
  T.pure hg fun M n s0 ac s hL => by
    obtain ⟨g, _, hv, _, _, _, cs, hc, hR⟩ := hy M n s0 ac s hL
    refine ⟨E.val cs, ?_, cs, rfl, hR⟩
    unfold execOp; rw [ho]; simp [hv, Instr.loadAt, Instr.sureAddr, run_loadVarE ht hR hc]

theorem cellsAt_block {w : World} {g : Nat} {cs : List Value} {t : TypeId} {fr : Nat × Nat} (h : w.heap[g]? = some (.cells cs.toArray t fr)) : CellsAt w g 0 cs :=
  fun j u hu => by rw [Nat.zero_add, cell_of_row w g j cs.toArray t fr h]; simpa using hu

theorem t_loadb {α : Type} {E : En α} {x : α} {y : Operand} {t : TypeId} {N g : Nat} (ht : Ty P t E) (hy : Opn L y (Pd.box E N g x)) (ho : o.op = .load t y) (hg : o.guard = none) : T P ops o L (Pd.rep E x) :=
  T.pure hg fun M n s0 ac s hL => by
    obtain ⟨hv, _, _, cs, t', hc, hR⟩ := hy M n s0 ac s hL
    refine ⟨E.val cs, ?_, cs, rfl, hR⟩
    unfold execOp; rw [ho]; simp [hv, Instr.loadAt, Instr.sureAddr, run_loadVarE ht hR (cellsAt_block hc)]

/-! ### conversions of numbers -/
theorem run_conv {k k' : IntKind} {t u : TypeId} {x : Int} (ht : P.underlying t = some (.int k)) (hu : P.underlying u = some (.int k')) (w : World) : (convert t u (.int k x)).run P w = .ok (.int k' (k'.wrap x)) w := by
  simp [convert, run_underlying ht, run_underlying hu, go_sem]
theorem t_u8 {k : IntKind} {x : Int} {y : Operand} {t u : TypeId} (hy : Opn L y (Pd.rep (En.int k) x)) (ht : P.underlying t = some (.int k)) (hu : P.underlying u = some (.int .u8)) (ho : o.op = .convert t u y) (hg : o.guard = none) : T P ops o L (Pd.rep (En.int .u8) (x % 256)) :=
  T.pure hg fun M n s0 ac s hL => by
    have h1 := (rep_int.1 (hy M n s0 ac s hL)).1
    refine ⟨.int .u8 (x % 256), ?_, rep_int.2 ⟨rfl, ?_⟩⟩
    · unfold execOp; rw [ho]
      have := run_conv (k := k) (k' := .u8) (x := x) ht hu s.w
      simp only [h1, Sem.run_bind, this, Result.andThen_ok, Sem.run_pure]
      simp [IntKind.wrap, IntKind.signed, IntKind.bits]
    · simp [InR, IntKind.min, IntKind.max, IntKind.signed, IntKind.bits]; omega
theorem t_up {k k' : IntKind} {x : Int} {y : Operand} {t u : TypeId} (hy : Opn L y (Pd.rep (En.int k) x)) (hk : k'.min ≤ k.min ∧ k.max ≤ k'.max) (ht : P.underlying t = some (.int k)) (hu : P.underlying u = some (.int k')) (ho : o.op = .convert t u y) (hg : o.guard = none) :
    T P ops o L (Pd.rep (En.int k') x) :=
  T.pure hg fun M n s0 ac s hL => by
    obtain ⟨h1, h2⟩ := rep_int.1 (hy M n s0 ac s hL)
    have hr : InR k' x := ⟨Int.le_trans hk.1 h2.1, Int.le_trans h2.2 hk.2⟩
    refine ⟨.int k' x, ?_, rep_int.2 ⟨rfl, hr⟩⟩
    unfold execOp; rw [ho]
    have := run_conv (k := k) (k' := k') (x := x) ht hu s.w
    simp only [h1, Sem.run_bind, this, Result.andThen_ok, Sem.run_pure, wrap_in hr]

/-! ### what is done under a condition -/
theorem t_g {c0 : Prop} {b want : Bool} {j d : Nat} {q : Pd} (hg : o.guard = some (j, want)) (hj : (ops[j]?).bind (·.dst) = some d) (hl : lk L d = some (Pd.when c0 (Pd.rep En.bool b))) (h : c0 ∧ b = want → T P ops { o with guard := none } L q) :
    T P ops o L (Pd.when (c0 ∧ b = want) q) := fun M n s0 a s hL Q k hk => by
  have hd := hL.get d hl
  have hw : Region.wanted o (yielded ops a.tmps) = true ↔ c0 ∧ b = want := by
    simp only [Region.wanted, hg]
    have : yielded ops a.tmps j = match a.eval (.tmp d) with | .bool x => some x | _ => none := by
      unfold yielded
      cases ho : ops[j]? with
      | none => rw [ho] at hj; cases hj
      | some oj =>
        rw [ho] at hj; simp only [Option.bind_some] at hj
        simp only [hj, Act.eval, Option.bind_some, Array.getD_eq_getD_getElem?]
        cases a.tmps[d]? with
        | none => simp [undef]
        | some v => cases v <;> rfl
    rw [this]
    by_cases h0 : c0
    · rw [rep_bool.1 (hd.1 h0)]; simp [h0]
    · rw [hd.2 h0]; simp [h0, undef]
  by_cases hc : c0 ∧ b = want
  · rw [if_pos (hw.2 hc)]
    have := h hc M n s0 a s hL Q k (fun v s' ⟨e, hq⟩ => hk v s' ⟨e, fun _ => hq, fun hn => absurd hc hn⟩)
    obtain ⟨dst, op, type, pos, after, guard⟩ := o
    exact this
  · rw [if_neg (fun h => hc (hw.1 h))]
    exact hk undef s ⟨Ex.refl s, fun h => absurd h hc, fun _ => rfl⟩
/-- .. hanging on an operation that is done in any case. -/
theorem t_g1 {b want : Bool} {j d : Nat} {q : Pd} (hg : o.guard = some (j, want)) (hj : (ops[j]?).bind (·.dst) = some d) (hl : lk L d = some (Pd.rep En.bool b)) (h : b = want → T P ops { o with guard := none } L q) :
    T P ops o L (Pd.when (b = want) q) := fun M n s0 a s hL Q k hk => by
  have hd := rep_bool.1 (hL.get d hl)
  have hw : Region.wanted o (yielded ops a.tmps) = true ↔ b = want := by
    simp only [Region.wanted, hg]
    have : yielded ops a.tmps j = match a.eval (.tmp d) with | .bool x => some x | _ => none := by
      unfold yielded
      cases ho : ops[j]? with
      | none => rw [ho] at hj; cases hj
      | some oj =>
        rw [ho] at hj; simp only [Option.bind_some] at hj
        simp only [hj, Act.eval, Option.bind_some, Array.getD_eq_getD_getElem?]
        cases a.tmps[d]? with
        | none => simp [undef]
        | some v => cases v <;> rfl
    rw [this, hd]; simp
  by_cases hc : b = want
  · rw [if_pos (hw.2 hc)]
    have := h hc M n s0 a s hL Q k (fun v s' ⟨e, hq⟩ => hk v s' ⟨e, fun _ => hq, fun hn => absurd hc hn⟩)
    obtain ⟨dst, op, type, pos, after, guard⟩ := o
    exact this
  · rw [if_neg (fun h => hc (hw.1 h))]
    exact hk undef s ⟨Ex.refl s, fun h => absurd h hc, fun _ => rfl⟩
/-- An operand under a condition that holds. -/
theorem o_w {c : Prop} (hc : c) (t : Nat) {q : Pd} (h : lk L t = some (Pd.when c q)) : Opn L (.tmp t) q := fun _ _ _ _ _ hL => (hL.get t h).1 hc
theorem t_and {x y : Operand} {a b : Bool} (hx : Opn L x (Pd.rep En.bool a)) (hy : a = true → Opn L y (Pd.rep En.bool b)) (ho : o.op = .pick x y (.const (.bool false))) (hg : o.guard = none) : T P ops o L (Pd.rep En.bool (a && b)) :=
  T.pure hg fun M n s0 ac s hL => by
    have h1 := rep_bool.1 (hx M n s0 ac s hL)
    refine ⟨.bool (a && b), ?_, rep_bool.2 rfl⟩
    unfold execOp; rw [ho]
    cases a
    · have hcn : ac.eval (.const (.bool false)) = .bool false := rfl
      simp [h1, asBool, hcn]
    · have h2 := rep_bool.1 (hy rfl M n s0 ac s hL)
      simp [h1, h2, asBool]
theorem t_or {x y : Operand} {a b : Bool} (hx : Opn L x (Pd.rep En.bool a)) (hy : a = false → Opn L y (Pd.rep En.bool b)) (ho : o.op = .pick x (.const (.bool true)) y) (hg : o.guard = none) : T P ops o L (Pd.rep En.bool (a || b)) :=
  T.pure hg fun M n s0 ac s hL => by
    have h1 := rep_bool.1 (hx M n s0 ac s hL)
    refine ⟨.bool (a || b), ?_, rep_bool.2 rfl⟩
    unfold execOp; rw [ho]
    cases a
    · have h2 := rep_bool.1 (hy rfl M n s0 ac s hL)
      simp [h1, h2, asBool]
    · have hcn : ac.eval (.const (.bool true)) = .bool true := rfl
      simp [h1, asBool, hcn]

/-- A new block. -/
def St.push (s : St) (ob : Obj) : St := ⟨s.w.alloc ob, s.X, fun b hb => Nat.lt_of_lt_of_le (s.lt b hb) (by simp)⟩
theorem Ex.push (s : St) (ob : Obj) : Ex s (s.push ob) :=
  ⟨⟨rfl, rfl, rfl, by simp [St.push], fun b hb _ => Go.RowKit.Below.heap_alloc s.w ob b hb, fun _ h => h.elim, fun _ h => .inl h⟩, fun _ h => h⟩

end
end Go.Proofs.YtdfnbogkniikbaaDoor.V
