/-
  Structs: encodings side by side, fields read and written, structs written out, held against each other; texts; parts of slices. No program is named here.
-/
import Derived.Test.YtdfnbogkniikbaaDoorAA
import Derived.Test.YtdfnbogkniikbaaDoorA7
import Derived.Laws.StructEq
import Derived.Laws.Tables
namespace Go.Proofs.YtdfnbogkniikbaaDoor.V
open Go
set_option linter.unusedVariables false

/-! ### encodings side by side -/
def En.cat {α β : Type} (E : En α) (F : En β) : En (α × β) where
  sz := E.sz + F.sz
  agg := true
  R := fun w S cs x => ∃ a b, cs = a ++ b ∧ E.R w S a x.1 ∧ F.R w S b x.2
  sc := fun h => by cases h
  pos := Nat.add_pos_left E.pos _
  len := by rintro _ _ _ _ ⟨a, b, rfl, h1, h2⟩; rw [List.length_append, E.len h1, F.len h2]
  one := by
    rintro _ _ _ _ ⟨a, b, rfl, h1, h2⟩ u hu
    rcases List.mem_append.1 hu with h | h
    · exact E.one h1 u h
    · exact F.one h2 u h
  mono := by rintro w S S' cs x h ⟨a, b, rfl, h1, h2⟩; exact ⟨a, b, rfl, E.mono h h1, F.mono h h2⟩
  move := by rintro w w' S cs x h ⟨a, b, rfl, h1, h2⟩; exact ⟨a, b, rfl, E.move h h1, F.move h h2⟩
/-- A struct of one field. -/
def En.solo {α : Type} (E : En α) : En α := ⟨E.sz, true, E.R, fun h => (by cases h), E.pos, E.len, E.one, E.mono, E.move⟩

/-- From cell off on of what means x lies what means y. -/
structure Prt {α β : Type} (E : En α) (off : Nat) (E' : En β) (x : α) (y : β) : Prop where
  le : off + E'.sz ≤ E.sz
  get : ∀ w S cs, E.R w S cs x → E'.R w S ((cs.drop off).take E'.sz) y
section
variable {α β γ : Type} {E : En α} {E' : En β} {F : En γ} {off off' : Nat} {y : β}
theorem prt_all (E : En α) (x : α) : Prt E 0 E x x := ⟨by simp, fun w S cs h => by rw [List.drop_zero, List.take_of_length_le (by rw [E.len h]; exact Nat.le_refl _)]; exact h⟩
theorem prt_solo {x : α} (h : Prt E off E' x y) : Prt E.solo off E' x y := ⟨h.le, h.get⟩
theorem prt_fst {x : α × γ} (h : Prt E off E' x.1 y) : Prt (E.cat F) off E' x y :=
  ⟨Nat.le_trans h.le (Nat.le_add_right _ _), fun w S cs ⟨a, b, e, h1, h2⟩ => by
    subst e
    have hl := E.len h1
    have := h.le
    have e : ((a ++ b).drop off).take E'.sz = (a.drop off).take E'.sz := by
      rw [List.drop_append_of_le_length (by omega), List.take_append_of_le_length (by simp; omega)]
    rw [e]; exact h.get w S a h1⟩
theorem prt_snd {x : γ × α} (h : Prt E off E' x.2 y) (ho : off' = F.sz + off) : Prt (F.cat E) off' E' x y :=
  ⟨by rw [ho, Nat.add_assoc]; exact Nat.add_le_add_left h.le _, fun w S cs ⟨a, b, e, h1, h2⟩ => by
    subst e
    rw [ho, ← F.len h1, List.drop_length_add_append]
    exact h.get w S b h2⟩
theorem sub_solo {x x' : α} (h : Sub E off E' x x' y) : Sub E.solo off E' x x' y := ⟨h.1, h.2⟩
theorem sub_fst {x : α × γ} {a : α} (h : Sub E off E' x.1 a y) : Sub (E.cat F) off E' x (a, x.2) y :=
  ⟨Nat.le_trans h.1 (Nat.le_add_right _ _), fun w S cs cs' ⟨a', b, e, h1, h2⟩ h3 => by
    subst e
    have hl := E.len h1
    have hl' := E'.len h3
    have := h.1
    refine ⟨spl a' off cs', b, ?_, h.2 w S a' cs' h1 h3, h2⟩
    simp only [spl]
    rw [List.take_append_of_le_length (by omega), List.drop_append_of_le_length (by omega)]
    simp⟩
theorem sub_snd {x : γ × α} {b : α} (h : Sub E off E' x.2 b y) (ho : off' = F.sz + off) : Sub (F.cat E) off' E' x (x.1, b) y :=
  ⟨by rw [ho, Nat.add_assoc]; exact Nat.add_le_add_left h.1 _, fun w S cs cs' ⟨a', b', e, h1, h2⟩ h3 => by
    subst e
    refine ⟨a', spl b' off cs', ?_, h1, h.2 w S b' cs' h2 h3⟩
    simp only [spl]
    rw [ho, ← F.len h1, List.take_length_add_append, Nat.add_assoc, List.drop_length_add_append]
    simp⟩
end

theorem CellsAt.sub {w : World} {b o : Nat} {cs : List Value} (h : CellsAt w b o cs) (off n : Nat) : CellsAt w b (o + off) ((cs.drop off).take n) := fun j u hu => by
  rw [Nat.add_assoc]
  refine h (off + j) u ?_
  rw [List.getElem?_take] at hu
  split at hu
  · rwa [List.getElem?_drop] at hu
  · cases hu

section
variable {P : Program} {ops : Array Oper} {o : Oper} {L : Lst}

theorem run_fieldAt {β : Type} {E' : En β} {t : TypeId} {fs : Array Field} {f : Nat} {fd : Field} (ht : P.underlying t = some (.struct fs)) (hf : fs[f]? = some fd) (hE : Ty P fd.type E') (b o : Nat) (w : World) :
    (Instr.fieldAt t (.pointer (some ⟨b, o, none⟩)) f).run P w = .ok (.pointer (some ⟨b, o + fd.offset, none⟩)) w := by
  unfold Instr.fieldAt
  simp only [Sem.run_bind, run_underlying ht, Result.andThen_ok, hf, Instr.sureAddr, Sem.run_pure, fieldPlace, run_sizeOfE hE]
  rw [if_neg (by have := E'.pos; omega)]
  simp [add_lit]

theorem t_fa {α β : Type} {E : En α} {E' : En β} {a : α} {y : β} {x : Operand} {t : TypeId} {fs : Array Field} {f off : Nat} {fd : Field} (hx : Opn L x (Pd.ptr E a)) (ht : P.underlying t = some (.struct fs)) (hf : fs[f]? = some fd) (hp : Prt E off E' a y) (hq : fd.offset = off) (hE : Ty P fd.type E')
    (ho : o.op = .fieldAddr t x f) (hg : o.guard = none) : T P ops o L (Pd.ptr E' y) :=
  T.pure hg fun M n s0 ac s hL => by
    obtain ⟨b, o', cs, hv, hb, hc, hR⟩ := hx M n s0 ac s hL
    refine ⟨.pointer (some ⟨b, o' + fd.offset, none⟩), ?_, b, o' + fd.offset, _, rfl, hb, hq ▸ hc.sub off E'.sz, hp.get _ _ _ hR⟩
    unfold execOp; rw [ho]
    simp only [hv, Sem.run_bind, run_fieldAt ht hf hE, Result.andThen_ok, Sem.run_pure]
theorem t_fao {α β : Type} {E : En α} {E' : En β} {a : α} {y : β} {x : Operand} {t : TypeId} {fs : Array Field} {f off N o' : Nat} {og : Option Nat} {fd : Field} (hx : Opn L x (Pd.optr E N og o' a)) (ht : P.underlying t = some (.struct fs)) (hf : fs[f]? = some fd) (hp : Prt E off E' a y) (hq : fd.offset = off) (hE : Ty P fd.type E')
    (ho : o.op = .fieldAddr t x f) (hg : o.guard = none) : T P ops o L (Pd.optr E' N og (o' + off) y) :=
  T.pure hg fun M n s0 ac s hL => by
    obtain ⟨g, h1, hv, h2, h3, h4, cs, hc, hR⟩ := hx M n s0 ac s hL
    refine ⟨.pointer (some ⟨g, o' + fd.offset, none⟩), ?_, g, h1, by rw [hq], h2, h3, h4, _, hc.sub off E'.sz, hp.get _ _ _ hR⟩
    unfold execOp; rw [ho]
    simp only [hv, Sem.run_bind, run_fieldAt ht hf hE, Result.andThen_ok, Sem.run_pure]
theorem t_fab {α β : Type} {E : En α} {E' : En β} {a : α} {y : β} {x : Operand} {t : TypeId} {fs : Array Field} {f off N g : Nat} {fd : Field} (hx : Opn L x (Pd.box E N g a)) (ht : P.underlying t = some (.struct fs)) (hf : fs[f]? = some fd) (hp : Prt E off E' a y) (hq : fd.offset = off) (hE : Ty P fd.type E')
    (ho : o.op = .fieldAddr t x f) (hg : o.guard = none) : T P ops o L (Pd.optr E' N (some g) off y) :=
  T.pure hg fun M n s0 ac s hL => by
    obtain ⟨hv, h2, h4, cs, t', hc, hR⟩ := hx M n s0 ac s hL
    have hcs : CellsAt s.w g (0 + off) ((cs.drop off).take E'.sz) := (cellsAt_block hc).sub off E'.sz
    refine ⟨.pointer (some ⟨g, 0 + fd.offset, none⟩), ?_, g, rfl, by rw [hq, Nat.zero_add], h2, (Array.getElem?_eq_some_iff.1 hc).1, h4, _, by rw [Nat.zero_add] at hcs; exact hcs, hp.get _ _ _ hR⟩
    unfold execOp; rw [ho]
    simp only [hv, Sem.run_bind, run_fieldAt ht hf hE, Result.andThen_ok, Sem.run_pure]

theorem run_partE {α β : Type} {E : En α} {E' : En β} {x : α} {y : β} {off : Nat} {ft : TypeId} (hE : Ty P ft E') (hp : Prt E off E' x y) {w w' : World} {S : Nat → Prop} {cs : List Value} (hR : E.R w' S cs x) :
    (part ft cs.toArray off).run P w = .ok (E'.val ((cs.drop off).take E'.sz)) w := by
  have hl := E.len hR
  have hle := hp.le
  have hpos := E'.pos
  unfold part
  simp only [Sem.run_bind, run_isAgg hE, Result.andThen_ok]
  unfold En.val
  cases ha : E'.agg
  · have h1 := E'.sc ha
    simp only [Bool.false_eq_true, if_false, cond_false]
    have hlt : off < cs.length := by omega
    have e1 : cs.toArray[off]? = some cs[off] := by simp [hlt]
    rw [e1, h1]
    have e2 : (cs.drop off).take 1 = [cs[off]] := by
      rw [List.drop_eq_getElem_cons hlt]; rfl
    rw [e2]; simp
  · simp only [if_true, Sem.run_bind, run_sizeOfE hE, Result.andThen_ok, Sem.run_pure, cond_true]
    congr 2
    apply Array.ext'
    simp

/-- A field of a value. -/
theorem t_fv {α β : Type} {E : En α} {E' : En β} {a : α} {y : β} {x : Operand} {t : TypeId} {fs : Array Field} {f off : Nat} {fd : Field} (hx : Opn L x (Pd.rep E a)) (ha : E.agg = true) (ht : P.underlying t = some (.struct fs)) (hf : fs[f]? = some fd) (hp : Prt E off E' a y) (hq : fd.offset = off) (hE : Ty P fd.type E')
    (ho : o.op = .field t x f) (hg : o.guard = none) : T P ops o L (Pd.rep E' y) :=
  T.pure hg fun M n s0 ac s hL => by
    obtain ⟨cs, hv, hR⟩ := hx M n s0 ac s hL
    refine ⟨E'.val ((cs.drop off).take E'.sz), ?_, _, rfl, hp.get _ _ _ hR⟩
    unfold execOp; rw [ho]
    have hv2 : ac.eval x = .agg cs.toArray := by rw [hv]; unfold En.val; rw [ha]; rfl
    simp only [hv2, Instr.field, Sem.run_bind, run_underlying ht, Result.andThen_ok, hf, asAgg, Sem.run_pure, hq, run_partE hE hp hR]

/-! ### structs written out -/
inductive Bld {α : Type} (E : En α) (pl : List (Nat × Nat)) (L : Lst) : List (Nat × Operand) → α → α → Prop
  | nil {x : α} : Bld E pl L [] x x
  | cons {β : Type} {E' : En β} {i off : Nat} {v : Operand} {y : β} {x0 x1 x2 : α} {r : List (Nat × Operand)} (hv : Opn L v (Pd.rep E' y)) (hp : pl[i]? = some (off, E'.sz)) (hs : Sub E off E' x0 x1 y) (h : Bld E pl L r x1 x2) : Bld E pl L ((i, v) :: r) x0 x2
theorem Bld.fill {α : Type} {E : En α} {pl : List (Nat × Nat)} {ps : List (Nat × Operand)} {x0 x2 : α} (h : Bld E pl L ps x0 x2) {M : Nat → Prop} {n : Nat} {s0 : St} {a : Act} {s : St} (hL : Has M n s0 a s L) :
    ∀ cs, E.R s.w (foot s) cs x0 → ∃ cs', Instr.fill (fun i => pl.toArray[i]?) cs.toArray (ps.map fun (i, x) => (i, a.eval x)) = some cs'.toArray ∧ E.R s.w (foot s) cs' x2 := by
  induction h with
  | nil => intro cs hR; exact ⟨cs, rfl, hR⟩
  | cons hv hp hs _ ih =>
    intro cs hR
    obtain ⟨cs1, hv1, hR1⟩ := hv M n s0 a s hL
    have hl := E.len hR
    obtain ⟨cs2, h1, h2⟩ := ih (spl cs _ cs1) (hs.2 _ _ _ _ hR hR1)
    refine ⟨cs2, ?_, h2⟩
    simp only [List.map_cons]
    rw [fill_step (by simpa using hp) (by rw [hv1]; exact En.val_cells hR1) (En.len _ hR1) (by rw [hl]; exact hs.1)]
    exact h1

/-- The places of a struct type's fields. -/
def Stt (P : Program) (t : TypeId) (pl : List (Nat × Nat)) : Prop := ∃ fs, P.underlying t = some (.struct fs) ∧ fs.toList.mapM (fun f => (P.info? f.type).map fun i => (f.offset, i.size)) = some pl
theorem t_build {α : Type} {E : En α} {z x : α} {t : TypeId} {pl : List (Nat × Nat)} {ps : List (Nat × Operand)} (hz : TyZ P t E z) (ha : E.agg = true) (ht : Stt P t pl) (hb : Bld E pl L ps z x) (ho : o.op = .build t ps.toArray) (hg : o.guard = none) : T P ops o L (Pd.rep E x) :=
  T.pure hg fun M n s0 a s hL => by
    obtain ⟨i, v, cs, h1, h2, h3, h4⟩ := hz.zero
    obtain ⟨fs, h5, h6⟩ := ht
    obtain ⟨cs', h7, h8⟩ := hb.fill hL cs (h4 _ _)
    refine ⟨.agg cs'.toArray, ?_, cs', by unfold En.val; rw [ha]; rfl, h8⟩
    unfold execOp; rw [ho]
    have := run_build (P := P) s.w t (ps.toArray.map fun (i, x) => (i, a.eval x)) cs'.toArray (by
      unfold Program.built
      simp only [h1, h5, h2, h6, h3]
      simpa using h7)
    simp only [Sem.run_bind, this, Result.andThen_ok, Sem.run_pure]

/-! ### structs held against each other -/
structure EqI {α : Type} [BEq α] (P : Program) (k : Nat) (t : TypeId) (E : En α) : Prop where
  eq : ∀ (d : Nat) (w : World) (S : Nat → Prop) (cs ds : List Value) (x y : α), k ≤ d → E.R w S cs x → E.R w S ds y → (Op.equalIn d t (E.val cs) (E.val ds)).run P w = .ok (x == y) w
theorem EqI.up {α : Type} [BEq α] {k k' : Nat} {t : TypeId} {E : En α} (h : EqI P k t E) (hk : k ≤ k') : EqI P k' t E := ⟨fun d w S cs ds x y hd => h.eq d w S cs ds x y (Nat.le_trans hk hd)⟩
theorem eqi_int {k : IntKind} {t : TypeId} (ht : P.underlying t = some (.int k)) : EqI P 1 t (En.int k) := ⟨by
  rintro d w S cs ds x y hd ⟨rfl, _⟩ ⟨rfl, _⟩
  obtain ⟨d, rfl⟩ : ∃ e, d = e + 1 := ⟨d - 1, by omega⟩
  exact run_equalIn_int w d t k k x y ht⟩
theorem eqi_bool {t : TypeId} (ht : P.underlying t = some .bool) : EqI P 1 t En.bool := ⟨by
  rintro d w S cs ds x y hd rfl rfl
  obtain ⟨d, rfl⟩ : ∃ e, d = e + 1 := ⟨d - 1, by omega⟩
  exact run_equalIn_bool' w d t x y ht⟩
theorem toList_bytes (x : Str) : (⟨x.toArray⟩ : ByteArray).toList = x := by rw [ByteArray.toList_eq]
theorem eqi_str {t : TypeId} (ht : P.underlying t = some .string) : EqI P 1 t En.str := ⟨by
  rintro d w S cs ds x y hd ⟨rfl, _⟩ ⟨rfl, _⟩
  obtain ⟨d, rfl⟩ : ∃ e, d = e + 1 := ⟨d - 1, by omega⟩
  have := run_equalIn_string w d t ⟨x.toArray⟩ ⟨y.toArray⟩ ht
  rw [toList_bytes, toList_bytes] at this
  exact this⟩
theorem eqi_cls {t e : TypeId} (ht : P.underlying t = some (.array 4 e)) (he : P.underlying e = some (.int .u64)) (hi : (P.info? e).map (·.size) = some 1) : EqI P 2 t En.cls := ⟨by
  rintro d w S cs ds x y hd rfl rfl
  obtain ⟨d, rfl⟩ : ∃ e, d = e + 2 := ⟨d - 2, by omega⟩
  have hq := equalIn_row (P := P) d t e ht he hi (x.word 0) (x.word 1) (x.word 2) (x.word 3) (y.word 0) (y.word 1) (y.word 2) (y.word 3) w
  have key : (((x.word 0 : Int) == (y.word 0 : Int)) && (((x.word 1 : Int) == (y.word 1 : Int)) && (((x.word 2 : Int) == (y.word 2 : Int)) && ((x.word 3 : Int) == (y.word 3 : Int))))) = (x == y) := by
    rw [Bool.eq_iff_iff]
    simp only [Bool.and_eq_true, beq_iff_eq, Int.ofNat_inj]
    constructor
    · rintro ⟨h0, h1, h2, h3⟩
      apply Cl.ext_words
      intro i hi
      match i, hi with
      | 0, _ => exact h0
      | 1, _ => exact h1
      | 2, _ => exact h2
      | 3, _ => exact h3
    · rintro rfl; simp
  rw [key] at hq
  exact hq⟩
/-- Fields held against each other, from cell o on. -/
def EqFs {α : Type} [BEq α] (P : Program) (k : Nat) (fs : List Field) (E : En α) (o : Nat) : Prop := ∀ (d : Nat) (w : World) (S : Nat → Prop) (xs ys : List Value) (x y : α), k ≤ d → E.R w S ((xs.drop o).take E.sz) x → E.R w S ((ys.drop o).take E.sz) y → (Op.eqFields d xs.toArray ys.toArray fs).run P w = .ok (x == y) w
theorem run_partO {α : Type} {E : En α} {x : α} {o : Nat} {ft : TypeId} (hE : Ty P ft E) {w : World} {S : Nat → Prop} {xs : List Value} (h : E.R w S ((xs.drop o).take E.sz) x) : (part ft xs.toArray o).run P w = .ok (E.val ((xs.drop o).take E.sz)) w := by
  have hl := E.len h
  have hpos := E.pos
  unfold part
  simp only [Sem.run_bind, run_isAgg hE, Result.andThen_ok]
  unfold En.val
  cases ha : E.agg
  · have h1 := E.sc ha
    simp only [Bool.false_eq_true, if_false, cond_false]
    have hlt : o < xs.length := by simp at hl; omega
    have e1 : xs.toArray[o]? = some xs[o] := by simp [hlt]
    rw [e1, h1]
    have e2 : (xs.drop o).take 1 = [xs[o]] := by rw [List.drop_eq_getElem_cons hlt]; rfl
    rw [e2]; simp
  · simp only [if_true, Sem.run_bind, run_sizeOfE hE, Result.andThen_ok, Sem.run_pure, cond_true]
    congr 2
    apply Array.ext'
    simp
theorem eqfs_last {α : Type} [BEq α] {k o : Nat} {f : Field} {E : En α} (h : EqI P k f.type E) (hE : Ty P f.type E) (hn : (f.name != "_") = true) (ho : f.offset = o) : EqFs P k [f] E o := by
  intro d w S xs ys x y hd h1 h2
  have hn' : f.name ≠ "_" := by simpa using hn
  unfold Op.eqFields
  simp only [if_pos hn', ho, Sem.run_bind, run_partO hE h1, run_partO hE h2, Result.andThen_ok, h.eq d w S _ _ x y hd h1 h2, Op.eqFields]
  cases x == y <;> simp
theorem take_split {xs : List Value} {o m n : Nat} {a b : List Value} (h : (xs.drop o).take (m + n) = a ++ b) (ha : a.length = m) : (xs.drop o).take m = a ∧ (xs.drop (o + m)).take n = b := by
  have h1 : (xs.drop o).take m = a := by
    have := congrArg (List.take m) h
    rw [List.take_take, Nat.min_eq_left (Nat.le_add_right _ _), List.take_append_of_le_length (by omega), List.take_of_length_le (l := a) (by omega)] at this
    exact this
  refine ⟨h1, ?_⟩
  have := congrArg (List.drop m) h
  rw [List.drop_take, List.drop_append_of_le_length (by omega), List.drop_of_length_le (l := a) (by omega), List.nil_append, List.drop_drop, Nat.add_sub_cancel_left] at this
  exact this
theorem eqfs_cons {α β : Type} [BEq α] [BEq β] {k o : Nat} {f : Field} {fs : List Field} {E : En α} {F : En β} (h : EqI P k f.type E) (hE : Ty P f.type E) (hn : (f.name != "_") = true) (ho : f.offset = o) (hr : EqFs P k fs F (o + E.sz)) : EqFs P k (f :: fs) (E.cat F) o := by
  rintro d w S xs ys x y hd ⟨a, b, e1, h1, h2⟩ ⟨a', b', e1', h1', h2'⟩
  have hn' : f.name ≠ "_" := by simpa using hn
  obtain ⟨rfl, rfl⟩ := take_split e1 (E.len h1)
  obtain ⟨rfl, rfl⟩ := take_split e1' (E.len h1')
  have hrest := hr d w S xs ys x.2 y.2 hd h2 h2'
  unfold Op.eqFields
  simp only [if_pos hn', ho, Sem.run_bind, run_partO hE h1, run_partO hE h1', Result.andThen_ok, h.eq d w S _ _ x.1 y.1 hd h1 h1']
  have hxy : (x == y) = (x.1 == y.1 && x.2 == y.2) := rfl
  rw [hxy]
  cases x.1 == y.1
  · simp
  · simp [hrest]
theorem eqi_struct {α : Type} [BEq α] {k : Nat} {t : TypeId} {E : En α} (ha : E.agg = true) (ht : P.underlying t = some (.struct (P.fieldsOf t))) (hp : P.stoodInHeld t = false) {fs : List Field} (hfs : (P.fieldsOf t).toList = fs) (h : EqFs P k fs E 0) : EqI P (k + 1) t E := ⟨by
  intro d w S cs ds x y hd h1 h2
  obtain ⟨d, rfl⟩ : ∃ e, d = e + 1 := ⟨d - 1, by omega⟩
  have e1 : (cs.drop 0).take E.sz = cs := by rw [List.drop_zero, List.take_of_length_le (by rw [E.len h1]; exact Nat.le_refl _)]
  have e2 : (ds.drop 0).take E.sz = ds := by rw [List.drop_zero, List.take_of_length_le (by rw [E.len h2]; exact Nat.le_refl _)]
  have := h d w S cs ds x y (by omega) (by rw [e1]; exact h1) (by rw [e2]; exact h2)
  unfold En.val
  rw [ha]
  simp only [cond_true]
  rw [run_equalIn_struct w d t _ _ ht hp, hfs]
  exact this⟩
theorem eqv_struct {α : Type} [BEq α] {k : Nat} {t : TypeId} {E : En α} (h : EqI P k t E) (hk : k ≤ 10000) (ha : E.agg = true) (hg : P.eqGuardType P.depth t = false) : Eqv P t E := by
  constructor
  · intro w S cs ds x y a b h1 h2
    have := h.eq 10000 w S cs ds x y hk h1 h2
    unfold En.val at this ⊢
    rw [ha] at this ⊢
    simp only [cond_true] at this ⊢
    simp only [Sem.run_bind, run_eqGuard_agg w .eql t a b _ _ hg, Result.andThen_ok, run_eql_struct, this]
  · intro w S cs ds x y a b h1 h2
    have := h.eq 10000 w S cs ds x y hk h1 h2
    unfold En.val at this ⊢
    rw [ha] at this ⊢
    simp only [cond_true] at this ⊢
    simp only [Sem.run_bind, run_eqGuard_agg w .neq t a b _ _ hg, Result.andThen_ok, run_neq_struct, this]
    rfl

/-! ### texts -/
theorem eqv_str {t : TypeId} : Eqv P t En.str := by
  constructor
  · rintro w S cs ds x y a b ⟨rfl, _⟩ ⟨rfl, _⟩
    simp [En.val, En.str, eqGuard, binOp, Op.stringOp]
  · rintro w S cs ds x y a b ⟨rfl, _⟩ ⟨rfl, _⟩
    simp [En.val, En.str, eqGuard, binOp, Op.stringOp, bne]
theorem t_slen {x : Str} {y : Operand} {t : TypeId} (hy : Opn L y (Pd.rep En.str x)) (ht : P.underlying t = some .string) (ho : o.op = .call { callee := .builtin .len, args := #[y], argTypes := #[t] }) (hg : o.guard = none) :
    T P ops o L (Pd.rep (En.int .i64) x.length) :=
  T.pure hg fun M n s0 ac s hL => by
    obtain ⟨hv, hl⟩ := rep_str.1 (hy M n s0 ac s hL)
    refine ⟨.int .i64 x.length, ?_, rep_int.2 ⟨rfl, ?_⟩⟩
    · unfold execOp; rw [ho]
      have : (⟨x.toArray⟩ : ByteArray).size = x.length := by simp [ByteArray.size]
      simp [resolve, invoke, builtin, hv, Builtin.len_, run_underlying ht, goInt, this]
    · simp [InR, IntKind.min, IntKind.max, IntKind.signed, IntKind.bits]; omega
/-- The byte at a place of a text. -/
def byte? (x : Str) (i : Int) : Option Int := (at? x i).map fun b => (b.toNat : Int)
theorem t_sidx {x : Str} {k : IntKind} {i e : Int} {y z : Operand} {t : TypeId} (hy : Opn L y (Pd.rep En.str x)) (hz : Opn L z (Pd.rep (En.int k) i)) (he : byte? x i = some e) (ht : P.underlying t = some .string) (ho : o.op = .index t y z) (hg : o.guard = none) : T P ops o L (Pd.rep (En.int .u8) e) :=
  T.pure hg fun M n s0 ac s hL => by
    obtain ⟨hv, hl⟩ := rep_str.1 (hy M n s0 ac s hL)
    have hi := (rep_int.1 (hz M n s0 ac s hL)).1
    unfold byte? at he
    cases ha : at? x i with
    | none => rw [ha] at he; cases he
    | some b =>
      rw [ha] at he
      simp only [Option.map_some, Option.some.injEq] at he
      subst he
      obtain ⟨h0, h1⟩ := at_some ha
      refine ⟨.int .u8 (b.toNat : Int), ?_, rep_int.2 ⟨rfl, ?_⟩⟩
      · unfold execOp; rw [ho]
        have : (⟨x.toArray⟩ : ByteArray)[i.toNat]? = some b := by
          have hlt : i.toNat < x.length := (List.getElem?_eq_some_iff.1 h1).1
          have hsz : (⟨x.toArray⟩ : ByteArray).size = x.length := by simp [ByteArray.size]
          rw [getElem?_pos _ _ (by rw [hsz]; exact hlt)]
          have h2 := (List.getElem?_eq_some_iff.1 h1).2
          rw [← h2]; rfl
        simp only [hv, hi, Instr.index, asIntOf, Sem.run_bind, Sem.run_pure, Result.andThen_ok, run_underlying ht, if_pos h0, this]
      · have := b.toNat_lt
        simp [InR, IntKind.min, IntKind.max, IntKind.signed, IntKind.bits]; omega

theorem t_neg {k : IntKind} {x : Operand} {a : Int} (hx : Opn L x (Pd.rep (En.int k) a)) (hr : InR k (-a)) {t : TypeId} (ho : o.op = .unOp .neg t x) (hg : o.guard = none) : T P ops o L (Pd.rep (En.int k) (-a)) :=
  T.pure hg fun M n s0 ac s hL => by
    have h1 := (rep_int.1 (hx M n s0 ac s hL)).1
    refine ⟨.int k (-a), ?_, rep_int.2 ⟨rfl, hr⟩⟩
    unfold execOp; rw [ho]
    simp [h1, Op.unary, Op.intArith, wrap_in hr]

/-! ### parts of slices -/
theorem els_drop {α : Type} {E : En α} {w : World} {S : Nat → Prop} {css : List (List Value)} {xs : List α} (h : Els E w S css xs) (k : Nat) : Els E w S (css.drop k) (xs.drop k) := by
  refine ⟨by rw [List.length_drop, List.length_drop, h.1], fun i cs x hi hx => ?_⟩
  rw [List.getElem?_drop] at hi hx
  exact h.2 _ cs x hi hx
theorem flat_drop {css : List (List Value)} {n : Nat} (h : ∀ cs ∈ css, cs.length = n) (k : Nat) (hk : k ≤ css.length) : (css.drop k).flatten = css.flatten.drop (k * n) := by
  induction css generalizing k with
  | nil => simp
  | cons c r ih =>
    cases k with
    | zero => simp
    | succ k =>
      rw [List.drop_succ_cons, List.flatten_cons, ih (fun x hx => h x (by simp [hx])) k (by simpa using hk)]
      rw [show (k + 1) * n = c.length + k * n by rw [h c (by simp), Nat.succ_mul]; omega, List.drop_length_add_append]
/-- s[k:]. -/
theorem t_from {α : Type} {E : En α} {xs : List α} {k : IntKind} {i : Int} {y z : Operand} {t te : TypeId} (hy : Opn L y (Pd.rep (En.slice E) xs)) (hz : Opn L z (Pd.rep (En.int k) i)) (hi : 0 ≤ i ∧ i ≤ (xs.length : Int)) (ht : P.underlying t = some (.slice te)) (hE : Ty P te E)
    (ho : o.op = .slice t y (some z) none none) (hg : o.guard = none) : T P ops o L (Pd.rep (En.slice E) (xs.drop i.toNat)) :=
  T.pure hg fun M n s0 ac s hL => by
    obtain ⟨ad, cap, hv, h1, h2, h3, h4⟩ := rep_slice.1 (hy M n s0 ac s hL)
    have hiv := (rep_int.1 (hz M n s0 ac s hL)).1
    refine ⟨.slice (if cap = i.toNat then ad else ad.map (·.add (i.toNat * E.sz))) (xs.length - i.toNat) (cap - i.toNat), ?_, rep_slice.2 ⟨_, _, by rw [List.length_drop], by rw [List.length_drop]; omega, fun hn => ?_, by rw [List.length_drop]; omega, fun hne => ?_⟩⟩
    · unfold execOp; rw [ho]
      simp only [hv, hiv, Option.map_some, Option.map_none, Instr.sliceAt, Sem.run_bind, run_underlying ht, Result.andThen_ok, Instr.slice, Instr.sliceBounds, Instr.sliceBound, asIntOf, Sem.run_pure]
      rw [if_pos (by omega)]
      simp [run_sizeOfE hE]
    · split at hn
      · omega
      · cases ad with
        | none => have := h2 rfl; omega
        | some a => cases hn
    · have hlt : i.toNat < xs.length := by
        rcases Nat.lt_or_ge i.toNat xs.length with h | h
        · exact h
        · exact absurd (List.drop_of_length_le h) hne
      obtain ⟨b, off, css, e1, hb, hEl, hc⟩ := h4 (by intro h; rw [h] at hlt; simp at hlt)
      refine ⟨b, off + i.toNat * E.sz, css.drop i.toNat, ?_, hb, els_drop hEl _, ?_⟩
      · rw [if_neg (by omega), e1]; simp [add_lit]
      · intro j u hu
        rw [flat_drop hEl.lens _ (by rw [hEl.1]; omega), List.getElem?_drop] at hu
        rw [Nat.add_assoc]; exact hc _ u hu

/-- Is a slice nil? What is nil has no elements. -/
def Pd.nilq {α : Type} (xs : List α) : Pd := ⟨fun s v => ∃ b : Bool, v = .bool b ∧ (b = true → xs = []), fun _ => False, fun _ _ h => h⟩
theorem t_isnil {α : Type} {E : En α} {xs : List α} {y : Operand} {t u te : TypeId} (hy : Opn L y (Pd.rep (En.slice E) xs)) (ht : P.underlying t = some (.slice te)) (ho : o.op = .binOp .eql t y (.const (.slice none 0 0)) u) (hg : o.guard = none) : T P ops o L (Pd.nilq xs) :=
  T.pure hg fun M n s0 ac s hL => by
    obtain ⟨ad, cap, hv, h1, h2, h3, h4⟩ := rep_slice.1 (hy M n s0 ac s hL)
    refine ⟨.bool ad.isNone, ?_, _, rfl, fun hn => ?_⟩
    · unfold execOp; rw [ho]
      have hc : ac.eval (.const (.slice none 0 0)) = .slice none 0 0 := rfl
      have he : (Op.equalIn 10000 t (.slice ad xs.length cap) (.slice none 0 0)).run P s.w = .ok ad.isNone s.w := by
        rw [show (10000 : Nat) = 9999 + 1 from rfl]
        unfold Op.equalIn
        cases ad <;> simp [run_underlying ht]
      simp only [hv, hc, eqGuard, binOp, Sem.run_bind, Op.equal, Op.maxDepth]
      simp [he]
    · cases ad with
      | none => have := h2 rfl; exact List.eq_nil_of_length_eq_zero (by omega)
      | some a => cases hn
theorem Has.nilq {α : Type} {xs : List α} {M : Nat → Prop} {n : Nat} {s0 : St} {a : Act} {s : St} (t : Nat) (hL : Has M n s0 a s L) (hl : lk L t = some (Pd.nilq xs)) : ∃ b : Bool, (b = true → xs = []) ∧ Has M n s0 a s ((t, Pd.rep En.bool b) :: L) := by
  obtain ⟨b, hv, hb⟩ := hL.get t hl
  exact ⟨b, hb, hL.cons t (rep_bool.2 hv)⟩
end

/-! ### a row of its own, and another result -/
def Ro2 {α : Type} (E : En α) (te : TypeId) (xs : List α) (q : Pd) : St → St → Value → Prop := fun s s' v => ∃ og x y, v = .tuple #[x, y] ∧ (Pd.row E s.w.heap.size te og xs).p s' x ∧ q.p s' y
theorem Fn.frz2 {P : Program} {f : FuncId} {qs : List Pd} {α : Type} {E : En α} {te : TypeId} {xs : List α} {q : Pd} (hq : q.Stable) (h : Fn P f qs (Ro2 E te xs q)) : Fn P f qs (Rq2 (Pd.rep (En.slice E) xs) q) :=
  ⟨h.call, fun s vs hg hv => (h.run s vs hg hv).mono fun e w' ⟨v, s', he, hw, hx, og, x, y, hvv, ho, hy⟩ => by
    have hlt := row_lt ho
    have hmv : Mv (fun b => og = some b) s' ⟨s'.w, fun b => s'.X b ∧ og ≠ some b, fun b hb => s'.lt b hb.1⟩ := ⟨rfl, rfl, rfl, Nat.le_refl _, fun _ _ _ => rfl, fun b hb => ho.2.1 b hb, fun b hb => .inl hb.1⟩
    refine ⟨v, ⟨s'.w, fun b => s'.X b ∧ og ≠ some b, fun b hb => s'.lt b hb.1⟩, he, hw, ?_, x, y, hvv, rep_slice.2 (own_slV ho rfl fun b hb => hb), hq.mv hmv hy⟩
    exact ⟨⟨hx.mv.os, hx.mv.tape, hx.mv.output, hx.mv.size, hx.mv.blk, fun _ h => h.elim, fun b hb => hx.mv.xx b hb.1⟩, fun b hb => ⟨hx.keep b hb, fun e => by have := (hlt b e).1; have := s.lt b hb; omega⟩⟩⟩
section
variable {P : Program} {ops : Array Oper} {o : Oper} {L : Lst}
theorem st_callo2 {Q : Exit → Act → World → Prop} {rest : List Oper} {M : Nat → Prop} {n : Nat} {s0 : St} {a : Act} {s : St} {α : Type} {E : En α} {te : TypeId} {zs : List α} {q : Pd} {f : FuncId} {xs : List Operand} {qs : List Pd} {ats : Array TypeId} (d : Nat)
    (hL : Has M n s0 a s L) (hf : Fn P f qs (Ro2 E te zs q)) (hx : Opns L xs qs) (ho : o.op = .call { callee := .value (.func f), args := xs.toArray, argTypes := ats }) (hg : o.guard = none) (hd : o.dst = some d) (hn : Nat.blt d n = true)
    (k : ∀ a' s' og, (∀ b, og = some b → s.w.heap.size ≤ b) → Has M n s0 a' s' ((d, Pd.tup2 (Pd.row E s0.w.heap.size te og zs) q) :: L) → wpList P ops Q rest a' s'.w) : wpList P ops Q (o :: rest) a s.w := by
  refine wpList_plain hg fun K hK => ?_
  unfold Oper.wp
  rw [run_callop hf a s.w ho, Oper.upon_enter]
  refine (hf.run s _ hL.gls (hx.vals hL)).mono fun e w' ⟨v, s', he, hw, hx, og, x, y, hvv, hq, hy⟩ => ?_
  subst he; subst hw
  refine hK _ _ ?_
  rw [hd]
  exact k _ s' og (fun b hb => (row_lt hq b hb).1) (hL.put hx hn ⟨x, y, hvv, row_weak hL.ent.mv.size hq, hy⟩)
theorem reto2 {fn : Func} {M : Nat → Prop} {n : Nat} {s0 : St} {a : Act} {s : St} {α : Type} {E : En α} {te : TypeId} {og : Option Nat} {xs : List α} {q : Pd} {t u : Nat} (hr : fn.results = #[.tmp t, .tmp u]) (hL : Has M n s0 a s L) (hl : lk L t = some (Pd.row E s0.w.heap.size te og xs)) (hm : lk L u = some q) : bodyPost P fn (Pst M (Ro2 E te xs q) s0) .ret a s.w :=
  ⟨hL.defers, _, results_tmp2 hr a.tmps P s.w, _, s, rfl, rfl, hL.ent, og, _, _, rfl, hL.get t hl, hL.get u hm⟩
end
end Go.Proofs.YtdfnbogkniikbaaDoor.V
