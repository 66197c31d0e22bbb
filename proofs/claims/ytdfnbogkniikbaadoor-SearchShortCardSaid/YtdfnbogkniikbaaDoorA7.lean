/-
  Classes held against each other; classes written out. No program is named here.
-/
import Derived.Test.YtdfnbogkniikbaaDoorA6
namespace Go.Proofs.YtdfnbogkniikbaaDoor.V
open Go
set_option linter.unusedVariables false

/-- Things of a type are held against each other as what they mean. -/
structure Eqv {α : Type} [BEq α] (P : Program) (t : TypeId) (E : En α) : Prop where
  eql : ∀ (w : World) (S : Nat → Prop) (cs ds : List Value) (x y : α) (a b : Operand), E.R w S cs x → E.R w S ds y →
    (do eqGuard .eql t a b (E.val cs) (E.val ds); binOp .eql t (E.val cs) (E.val ds) : Sem Value).run P w = .ok (.bool (x == y)) w
  neq : ∀ (w : World) (S : Nat → Prop) (cs ds : List Value) (x y : α) (a b : Operand), E.R w S cs x → E.R w S ds y →
    (do eqGuard .neq t a b (E.val cs) (E.val ds); binOp .neq t (E.val cs) (E.val ds) : Sem Value).run P w = .ok (.bool (x != y)) w

section
variable {P : Program} {ops : Array Oper} {o : Oper} {L : Lst}
theorem t_eqv {α : Type} [BEq α] {E : En α} {t u : TypeId} (he : Eqv P t E) {x y : Operand} {a b : α} (hx : Opn L x (Pd.rep E a)) (hy : Opn L y (Pd.rep E b)) (ho : o.op = .binOp .eql t x y u) (hg : o.guard = none) : T P ops o L (Pd.rep En.bool (a == b)) :=
  T.pure hg fun M n s0 ac s hL => by
    obtain ⟨cs, h1, hR⟩ := hx M n s0 ac s hL
    obtain ⟨ds, h2, hS⟩ := hy M n s0 ac s hL
    refine ⟨.bool (a == b), ?_, rep_bool.2 rfl⟩
    have := he.eql s.w _ cs ds a b x y hR hS
    unfold execOp; rw [ho]
    simp only [h1, h2, Sem.run_bind] at this ⊢
    rw [this]; rfl
theorem t_nev {α : Type} [BEq α] {E : En α} {t u : TypeId} (he : Eqv P t E) {x y : Operand} {a b : α} (hx : Opn L x (Pd.rep E a)) (hy : Opn L y (Pd.rep E b)) (ho : o.op = .binOp .neq t x y u) (hg : o.guard = none) : T P ops o L (Pd.rep En.bool (a != b)) :=
  T.pure hg fun M n s0 ac s hL => by
    obtain ⟨cs, h1, hR⟩ := hx M n s0 ac s hL
    obtain ⟨ds, h2, hS⟩ := hy M n s0 ac s hL
    refine ⟨.bool (a != b), ?_, rep_bool.2 rfl⟩
    have := he.neq s.w _ cs ds a b x y hR hS
    unfold execOp; rw [ho]
    simp only [h1, h2, Sem.run_bind] at this ⊢
    rw [this]; rfl
end

theorem equalIn_int1 {P : Program} (d : Nat) (e : TypeId) (k : IntKind) (he : P.underlying e = some (.int k)) (a b : Int) (w : World) : (Op.equalIn (d + 1) e (.int k a) (.int k b)).run P w = .ok (a == b) w := by
  unfold Op.equalIn
  simp [run_underlying he]

theorem equalIn_row {P : Program} (d : Nat) (t e : TypeId) (ht : P.underlying t = some (.array 4 e)) (he : P.underlying e = some (.int .u64)) (hi : (P.info? e).map (·.size) = some 1) (a0 a1 a2 a3 b0 b1 b2 b3 : Int) (w : World) :
    (Op.equalIn (d + 2) t (.agg #[.int .u64 a0, .int .u64 a1, .int .u64 a2, .int .u64 a3]) (.agg #[.int .u64 b0, .int .u64 b1, .int .u64 b2, .int .u64 b3])).run P w = .ok (a0 == b0 && (a1 == b1 && (a2 == b2 && a3 == b3))) w := by
  obtain ⟨i, h1, h2⟩ : ∃ i, P.info? e = some i ∧ i.size = 1 := by
    cases h : P.info? e with
    | none => rw [h] at hi; cases hi
    | some i => rw [h] at hi; exact ⟨i, rfl, by simpa using hi⟩
  have hsz : ∀ w : World, (sizeOf e).run P w = .ok 1 w := fun w => by simp [sizeOf, typeInfo, h1, h2]
  have hagg : ∀ w : World, (isAgg e).run P w = .ok false w := fun w => by simp [isAgg, run_underlying he]
  unfold Op.equalIn
  simp only [Sem.run_bind, run_underlying ht, Result.andThen_ok, hsz]
  simp only [Std.Legacy.Range.forIn_eq_forIn_range', Std.Legacy.Range.size, Nat.sub_zero, Nat.div_one, List.range', List.forIn_cons, List.forIn_nil, Sem.run_bind, part, hagg, Result.andThen_ok, Bool.false_eq_true, if_false, Nat.mul_one, Nat.reduceAdd]
  have h0 := hagg w
  have he1 := fun x y => equalIn_int1 (P := P) d e .u64 he x y w
  by_cases e0 : a0 = b0
  · by_cases e1 : a1 = b1
    · by_cases e2 : a2 = b2
      · by_cases e3 : a3 = b3 <;> simp [e0, e1, e2, e3, he1, h0]
      · simp [e0, e1, e2, he1, h0]
    · simp [e0, e1, he1, h0]
  · simp [e0, he1]

theorem eqv_cls {P : Program} {t e : TypeId} (ht : P.underlying t = some (.array 4 e)) (he : P.underlying e = some (.int .u64)) (hi : (P.info? e).map (·.size) = some 1) (hg : P.eqGuardType P.depth t = false) : Eqv P t En.cls := by
  have key : ∀ x y : Cl, (((x.word 0 : Int) == (y.word 0 : Int)) && (((x.word 1 : Int) == (y.word 1 : Int)) && (((x.word 2 : Int) == (y.word 2 : Int)) && ((x.word 3 : Int) == (y.word 3 : Int))))) = (x == y) := by
    intro x y
    rw [Bool.eq_iff_iff]
    simp only [Bool.and_eq_true, beq_iff_eq, Int.ofNat_inj]
    constructor
    · rintro ⟨h0, h1, h2, h3⟩
      apply Cl.ext_words
      intro i hi
      match i, hi with
      | 0, _ => exact h0
      | 1, _ => exact h1
      | 2, _ => exact h2
      | 3, _ => exact h3
    · rintro rfl; simp
  constructor
  · intro w S cs ds x y a b h1 h2
    cases h1; cases h2
    have hq := equalIn_row (P := P) 9998 t e ht he hi (x.word 0) (x.word 1) (x.word 2) (x.word 3) (y.word 0) (y.word 1) (y.word 2) (y.word 3) w
    rw [key] at hq
    simp only [En.val, En.cls, clsCells, cond_true, Sem.run_bind]
    have hgd : (eqGuard .eql t a b (.agg #[.int .u64 (x.word 0), .int .u64 (x.word 1), .int .u64 (x.word 2), .int .u64 (x.word 3)]) (.agg #[.int .u64 (y.word 0), .int .u64 (y.word 1), .int .u64 (y.word 2), .int .u64 (y.word 3)])).run P w = .ok () w := by
      simp [eqGuard, hg]
    rw [hgd]
    simp only [Result.andThen_ok, binOp, Sem.run_bind, Op.equal, Op.maxDepth]
    rw [hq]; rfl
  · intro w S cs ds x y a b h1 h2
    cases h1; cases h2
    have hq := equalIn_row (P := P) 9998 t e ht he hi (x.word 0) (x.word 1) (x.word 2) (x.word 3) (y.word 0) (y.word 1) (y.word 2) (y.word 3) w
    rw [key] at hq
    simp only [En.val, En.cls, clsCells, cond_true, Sem.run_bind]
    have hgd : (eqGuard .neq t a b (.agg #[.int .u64 (x.word 0), .int .u64 (x.word 1), .int .u64 (x.word 2), .int .u64 (x.word 3)]) (.agg #[.int .u64 (y.word 0), .int .u64 (y.word 1), .int .u64 (y.word 2), .int .u64 (y.word 3)])).run P w = .ok () w := by
      simp [eqGuard, hg]
    rw [hgd]
    simp only [Result.andThen_ok, binOp, Sem.run_bind, Op.equal, Op.maxDepth]
    rw [hq]; rfl

section
variable {P : Program} {ops : Array Oper} {o : Oper} {L : Lst}
/-- A class written out. -/
theorem t_bcls {x : Cl} {t e : TypeId} {parts : Array (Nat × Operand)} (ht : P.underlying t = some (.array 4 e)) (hi : (P.info? e).map (·.size) = some 1) (hz : TyZ P t En.cls 0#256)
    (hp : ∀ a : Act, Instr.fill (fun i => some (i * 1, 1)) (clsCells 0#256).toArray (parts.map fun (i, x) => (i, a.eval x)).toList = some (clsCells x).toArray) (ho : o.op = .build t parts) (hg : o.guard = none) : T P ops o L (Pd.rep En.cls x) :=
  T.pure hg fun M n s0 a s hL => by
    obtain ⟨i, h1, h2⟩ : ∃ i, P.info? e = some i ∧ i.size = 1 := by
      cases h : P.info? e with
      | none => rw [h] at hi; cases hi
      | some i => rw [h] at hi; exact ⟨i, rfl, by simpa using hi⟩
    obtain ⟨i', v, cs, h3, h4, h5, h6⟩ := hz.zero
    have hc : cs = clsCells 0#256 := h6 s.w (foot s)
    subst hc
    refine ⟨.agg (clsCells x).toArray, ?_, rep_cls.2 rfl⟩
    have hsz : (sizeOf e).run P s.w = .ok 1 s.w := by simp [sizeOf, typeInfo, h1, h2]
    have hzv : (zeroValue t).run P s.w = .ok v s.w := by simp [zeroValue, typeInfo, h3, h4]
    unfold execOp; rw [ho]
    simp only [Instr.build, Sem.run_bind, hzv, Result.andThen_ok, run_underlying ht, hsz, h5, hp a]
    rfl
end
end Go.Proofs.YtdfnbogkniikbaaDoor.V
