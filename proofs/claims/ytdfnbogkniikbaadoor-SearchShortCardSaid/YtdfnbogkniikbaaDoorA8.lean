/-
  Words: shifts and bits, sums that wrap, divisions; the words of a class. No program is named here.
-/
import Derived.Test.YtdfnbogkniikbaaDoorA7
namespace Go.Proofs.YtdfnbogkniikbaaDoor.V
open Go
set_option linter.unusedVariables false
def shrI (x c : Int) : Int := x / 2 ^ min c.toNat 64
def shlI (x c : Int) : Int := (x * 2 ^ min c.toNat 64) % 18446744073709551616
def andI (x y : Int) : Int := ((x.toNat &&& y.toNat : Nat) : Int)
def orI (x y : Int) : Int := ((x.toNat ||| y.toNat : Nat) : Int)
def xorI (x y : Int) : Int := ((x.toNat ^^^ y.toNat : Nat) : Int)
def Cl.w (c : Cl) (i : Int) : Int := (c.word i.toNat : Int)
/-- A class with another word. -/
def Cl.setw (c : Cl) (i v : Int) : Cl := Cl.ofWords (if i = 0 then v.toNat else c.word 0) (if i = 1 then v.toNat else c.word 1) (if i = 2 then v.toNat else c.word 2) (if i = 3 then v.toNat else c.word 3)

theorem inR_u64 {x : Int} : InR .u64 x ↔ 0 ≤ x ∧ x ≤ 18446744073709551615 := by simp [InR, IntKind.min, IntKind.max, IntKind.signed, IntKind.bits]
theorem inR_u8 {x : Int} : InR .u8 x ↔ 0 ≤ x ∧ x ≤ 255 := by simp [InR, IntKind.min, IntKind.max, IntKind.signed, IntKind.bits]
theorem inR_i64 {x : Int} : InR .i64 x ↔ -9223372036854775808 ≤ x ∧ x ≤ 9223372036854775807 := by simp [InR, IntKind.min, IntKind.max, IntKind.signed, IntKind.bits]
theorem wrap_u64 (x : Int) : IntKind.u64.wrap x = x % 18446744073709551616 := by simp [IntKind.wrap, IntKind.signed, IntKind.bits]
theorem wrap_u8 (x : Int) : IntKind.u8.wrap x = x % 256 := by simp [IntKind.wrap, IntKind.signed, IntKind.bits]
theorem bv_u64 {x : Int} (h : InR .u64 x) : (BitVec.ofInt 64 x).toNat = x.toNat := by
  rw [inR_u64] at h
  rw [BitVec.toNat_ofInt]
  congr 1
  exact Int.emod_eq_of_lt h.1 (by simp; omega)
theorem bits_lt {a b : Nat} (ha : a < 2 ^ 64) (hb : b < 2 ^ 64) : (a &&& b) < 2 ^ 64 ∧ (a ||| b) < 2 ^ 64 ∧ (a ^^^ b) < 2 ^ 64 := ⟨Nat.and_lt_two_pow a hb, Nat.or_lt_two_pow ha hb, Nat.xor_lt_two_pow ha hb⟩
theorem toNat_u64 {x : Int} (h : InR .u64 x) : x.toNat < 2 ^ 64 := by rw [inR_u64] at h; omega

section
variable {P : Program} {ops : Array Oper} {o : Oper} {L : Lst}
theorem t_shr {yk : IntKind} {x y : Operand} {a c : Int} (hx : Opn L x (Pd.rep (En.int .u64) a)) (hy : Opn L y (Pd.rep (En.int yk) c)) (hk : 0 ≤ yk.min) {t u : TypeId} (ho : o.op = .binOp .shr t x y u) (hg : o.guard = none) : T P ops o L (Pd.rep (En.int .u64) (shrI a c)) :=
  T.pure hg fun M n s0 ac s hL => by
    obtain ⟨h1, r1⟩ := rep_int.1 (hx M n s0 ac s hL)
    obtain ⟨h2, r2⟩ := rep_int.1 (hy M n s0 ac s hL)
    have hc : 0 ≤ c := Int.le_trans hk r2.1
    refine ⟨.int .u64 (shrI a c), ?_, rep_int.2 ⟨rfl, ?_⟩⟩
    · unfold execOp; rw [ho]
      simp [h1, h2, eqGuard, binOp, shift_shr_any _ _ _ _ hc, shrI, IntKind.bits]
    · rw [inR_u64] at r1 ⊢
      unfold shrI
      have hp : (0 : Int) < 2 ^ min c.toNat 64 := Int.pow_pos (by decide)
      refine ⟨Int.ediv_nonneg r1.1 (Int.le_of_lt hp), Int.le_trans (Int.ediv_le_self _ r1.1) r1.2⟩
theorem t_shl {yk : IntKind} {x y : Operand} {a c : Int} (hx : Opn L x (Pd.rep (En.int .u64) a)) (hy : Opn L y (Pd.rep (En.int yk) c)) (hk : 0 ≤ yk.min) {t u : TypeId} (ho : o.op = .binOp .shl t x y u) (hg : o.guard = none) : T P ops o L (Pd.rep (En.int .u64) (shlI a c)) :=
  T.pure hg fun M n s0 ac s hL => by
    obtain ⟨h1, r1⟩ := rep_int.1 (hx M n s0 ac s hL)
    obtain ⟨h2, r2⟩ := rep_int.1 (hy M n s0 ac s hL)
    have hc : 0 ≤ c := Int.le_trans hk r2.1
    refine ⟨.int .u64 (shlI a c), ?_, rep_int.2 ⟨rfl, ?_⟩⟩
    · unfold execOp; rw [ho]
      simp only [h1, h2, eqGuard, binOp, shift_shl_any _ _ _ _ hc]
      simp [shlI, wrap_u64, IntKind.bits]
    · rw [inR_u64]; unfold shlI; omega
theorem t_bits {x y : Operand} {a b : Int} (op : BinOp) (f : Int → Int → Int) (hf : ∀ a b : Int, InR .u64 a → InR .u64 b → (Op.intBits op .u64 a b : Sem Value) = Pure.pure (.int .u64 (f a b)) ∧ InR .u64 (f a b)) (hop : op = .and ∨ op = .or ∨ op = .xor)
    (hx : Opn L x (Pd.rep (En.int .u64) a)) (hy : Opn L y (Pd.rep (En.int .u64) b)) {t u : TypeId} (ho : o.op = .binOp op t x y u) (hg : o.guard = none) : T P ops o L (Pd.rep (En.int .u64) (f a b)) :=
  T.pure hg fun M n s0 ac s hL => by
    obtain ⟨h1, r1⟩ := rep_int.1 (hx M n s0 ac s hL)
    obtain ⟨h2, r2⟩ := rep_int.1 (hy M n s0 ac s hL)
    obtain ⟨e, r⟩ := hf a b r1 r2
    refine ⟨.int .u64 (f a b), ?_, rep_int.2 ⟨rfl, r⟩⟩
    unfold execOp; rw [ho]
    simp only [h1, h2]
    rcases hop with rfl | rfl | rfl <;> simp [eqGuard, binOp, e]
theorem and_ok {a b : Int} (ha : InR .u64 a) (hb : InR .u64 b) : (Op.intBits .and .u64 a b : Sem Value) = Pure.pure (.int .u64 (andI a b)) ∧ InR .u64 (andI a b) := by
  have hl := (bits_lt (toNat_u64 ha) (toNat_u64 hb)).1
  have hr : InR .u64 (andI a b) := by rw [inR_u64]; unfold andI; omega
  refine ⟨?_, hr⟩
  have e : ((BitVec.ofInt 64 a &&& BitVec.ofInt 64 b).toNat : Int) = andI a b := by rw [BitVec.toNat_and, bv_u64 ha, bv_u64 hb]; rfl
  show (Pure.pure (.int .u64 (IntKind.u64.wrap ((BitVec.ofInt 64 a &&& BitVec.ofInt 64 b).toNat : Int))) : Sem Value) = _
  rw [e, wrap_in hr]
theorem or_ok {a b : Int} (ha : InR .u64 a) (hb : InR .u64 b) : (Op.intBits .or .u64 a b : Sem Value) = Pure.pure (.int .u64 (orI a b)) ∧ InR .u64 (orI a b) := by
  have hl := (bits_lt (toNat_u64 ha) (toNat_u64 hb)).2.1
  have hr : InR .u64 (orI a b) := by rw [inR_u64]; unfold orI; omega
  refine ⟨?_, hr⟩
  have e : ((BitVec.ofInt 64 a ||| BitVec.ofInt 64 b).toNat : Int) = orI a b := by rw [BitVec.toNat_or, bv_u64 ha, bv_u64 hb]; rfl
  show (Pure.pure (.int .u64 (IntKind.u64.wrap ((BitVec.ofInt 64 a ||| BitVec.ofInt 64 b).toNat : Int))) : Sem Value) = _
  rw [e, wrap_in hr]
theorem xor_ok {a b : Int} (ha : InR .u64 a) (hb : InR .u64 b) : (Op.intBits .xor .u64 a b : Sem Value) = Pure.pure (.int .u64 (xorI a b)) ∧ InR .u64 (xorI a b) := by
  have hl := (bits_lt (toNat_u64 ha) (toNat_u64 hb)).2.2
  have hr : InR .u64 (xorI a b) := by rw [inR_u64]; unfold xorI; omega
  refine ⟨?_, hr⟩
  have e : ((BitVec.ofInt 64 a ^^^ BitVec.ofInt 64 b).toNat : Int) = xorI a b := by rw [BitVec.toNat_xor, bv_u64 ha, bv_u64 hb]; rfl
  show (Pure.pure (.int .u64 (IntKind.u64.wrap ((BitVec.ofInt 64 a ^^^ BitVec.ofInt 64 b).toNat : Int))) : Sem Value) = _
  rw [e, wrap_in hr]
theorem t_andb {x y : Operand} {a b : Int} (hx : Opn L x (Pd.rep (En.int .u64) a)) (hy : Opn L y (Pd.rep (En.int .u64) b)) {t u : TypeId} (ho : o.op = .binOp .and t x y u) (hg : o.guard = none) : T P ops o L (Pd.rep (En.int .u64) (andI a b)) :=
  t_bits .and andI (fun _ _ => and_ok) (.inl rfl) hx hy ho hg
theorem t_orb {x y : Operand} {a b : Int} (hx : Opn L x (Pd.rep (En.int .u64) a)) (hy : Opn L y (Pd.rep (En.int .u64) b)) {t u : TypeId} (ho : o.op = .binOp .or t x y u) (hg : o.guard = none) : T P ops o L (Pd.rep (En.int .u64) (orI a b)) :=
  t_bits .or orI (fun _ _ => or_ok) (.inr (.inl rfl)) hx hy ho hg
/-- ^x -/
theorem t_com {x : Operand} {a : Int} (hx : Opn L x (Pd.rep (En.int .u64) a)) {t : TypeId} (ho : o.op = .unOp .xor t x) (hg : o.guard = none) : T P ops o L (Pd.rep (En.int .u64) (xorI 18446744073709551615 a)) :=
  T.pure hg fun M n s0 ac s hL => by
    obtain ⟨h1, r1⟩ := rep_int.1 (hx M n s0 ac s hL)
    obtain ⟨e, r⟩ := xor_ok (a := 18446744073709551615) (by decide) r1
    refine ⟨.int .u64 (xorI 18446744073709551615 a), ?_, rep_int.2 ⟨rfl, r⟩⟩
    unfold execOp; rw [ho]
    have hm : IntKind.u64.max = 18446744073709551615 := by decide
    have hs : IntKind.u64.signed = false := rfl
    simp [h1, Op.unary, hm, hs, e]

theorem t_wr {k : IntKind} {x y : Operand} {a b : Int} (op : BinOp) (f : Int → Int → Int) (hf : ∀ a b, (Op.intArith op k a b : Sem Value) = Pure.pure (.int k (k.wrap (f a b)))) (hop : op = .add ∨ op = .sub ∨ op = .mul)
    (hx : Opn L x (Pd.rep (En.int k) a)) (hy : Opn L y (Pd.rep (En.int k) b)) {t u : TypeId} (ho : o.op = .binOp op t x y u) (hg : o.guard = none) : T P ops o L (Pd.rep (En.int k) (k.wrap (f a b))) :=
  T.pure hg fun M n s0 ac s hL => by
    have h1 := (rep_int.1 (hx M n s0 ac s hL)).1
    have h2 := (rep_int.1 (hy M n s0 ac s hL)).1
    refine ⟨.int k (k.wrap (f a b)), ?_, rep_int.2 ⟨rfl, wrap_inR k _⟩⟩
    unfold execOp
    rw [ho]
    simp only [h1, h2]
    rcases hop with rfl | rfl | rfl <;> simp [eqGuard, binOp, hf]
theorem t_addw {k : IntKind} {x y : Operand} {a b : Int} (hx : Opn L x (Pd.rep (En.int k) a)) (hy : Opn L y (Pd.rep (En.int k) b)) {t u : TypeId} (ho : o.op = .binOp .add t x y u) (hg : o.guard = none) : T P ops o L (Pd.rep (En.int k) (IntKind.wrap k (a + b))) := t_wr .add (· + ·) (fun _ _ => rfl) (.inl rfl) hx hy ho hg
theorem t_subw {k : IntKind} {x y : Operand} {a b : Int} (hx : Opn L x (Pd.rep (En.int k) a)) (hy : Opn L y (Pd.rep (En.int k) b)) {t u : TypeId} (ho : o.op = .binOp .sub t x y u) (hg : o.guard = none) : T P ops o L (Pd.rep (En.int k) (IntKind.wrap k (a - b))) := t_wr .sub (· - ·) (fun _ _ => rfl) (.inr (.inl rfl)) hx hy ho hg
theorem t_mulw {k : IntKind} {x y : Operand} {a b : Int} (hx : Opn L x (Pd.rep (En.int k) a)) (hy : Opn L y (Pd.rep (En.int k) b)) {t u : TypeId} (ho : o.op = .binOp .mul t x y u) (hg : o.guard = none) : T P ops o L (Pd.rep (En.int k) (IntKind.wrap k (a * b))) := t_wr .mul (· * ·) (fun _ _ => rfl) (.inr (.inr rfl)) hx hy ho hg

theorem div_in {k : IntKind} {a b : Int} (h0 : 0 ≤ a) (hb : 0 < b) (hr : InR k a) (hk : k.min ≤ 0) : InR k (a / b) ∧ InR k (a % b) := by
  have h1 : 0 ≤ a / b := Int.ediv_nonneg h0 (Int.le_of_lt hb)
  have h2 : a / b ≤ a := Int.ediv_le_self _ h0
  have h3 : 0 ≤ a % b := Int.emod_nonneg _ (by omega)
  have h4 : a % b ≤ a := by
    have := Int.mul_ediv_add_emod a b
    have : 0 ≤ b * (a / b) := Int.mul_nonneg (Int.le_of_lt hb) h1
    omega
  exact ⟨⟨Int.le_trans hk h1, Int.le_trans h2 hr.2⟩, ⟨Int.le_trans hk h3, Int.le_trans h4 hr.2⟩⟩
theorem t_quo {k : IntKind} {x y : Operand} {a b : Int} (hx : Opn L x (Pd.rep (En.int k) a)) (hy : Opn L y (Pd.rep (En.int k) b)) (h0 : 0 ≤ a) (hb : 0 < b) {t u : TypeId} (ho : o.op = .binOp .quo t x y u) (hg : o.guard = none) : T P ops o L (Pd.rep (En.int k) (a / b)) :=
  T.pure hg fun M n s0 ac s hL => by
    obtain ⟨h1, r1⟩ := rep_int.1 (hx M n s0 ac s hL)
    obtain ⟨h2, r2⟩ := rep_int.1 (hy M n s0 ac s hL)
    have hr := (div_in (k := k) h0 hb r1 (by cases k <;> decide)).1
    refine ⟨.int k (a / b), ?_, rep_int.2 ⟨rfl, hr⟩⟩
    unfold execOp; rw [ho]
    simp [h1, h2, eqGuard, binOp, Op.intDiv, show b ≠ 0 by omega, Int.tdiv_eq_ediv_of_nonneg h0, wrap_in hr]
theorem t_rem {k : IntKind} {x y : Operand} {a b : Int} (hx : Opn L x (Pd.rep (En.int k) a)) (hy : Opn L y (Pd.rep (En.int k) b)) (h0 : 0 ≤ a) (hb : 0 < b) {t u : TypeId} (ho : o.op = .binOp .rem t x y u) (hg : o.guard = none) : T P ops o L (Pd.rep (En.int k) (a % b)) :=
  T.pure hg fun M n s0 ac s hL => by
    obtain ⟨h1, r1⟩ := rep_int.1 (hx M n s0 ac s hL)
    obtain ⟨h2, r2⟩ := rep_int.1 (hy M n s0 ac s hL)
    have hr := (div_in (k := k) h0 hb r1 (by cases k <;> decide)).2
    refine ⟨.int k (a % b), ?_, rep_int.2 ⟨rfl, hr⟩⟩
    unfold execOp; rw [ho]
    simp [h1, h2, eqGuard, binOp, Op.intDiv, show b ≠ 0 by omega, Int.tmod_eq_emod_of_nonneg h0]
/-- The same of a kind without a sign. -/
theorem t_quou {k : IntKind} {x y : Operand} {a b : Int} (hx : Opn L x (Pd.rep (En.int k) a)) (hy : Opn L y (Pd.rep (En.int k) b)) (hk : 0 ≤ k.min) (hb : 0 < b) {t u : TypeId} (ho : o.op = .binOp .quo t x y u) (hg : o.guard = none) : T P ops o L (Pd.rep (En.int k) (a / b)) :=
  fun M n s0 ac s hL => t_quo hx hy (Int.le_trans hk (rep_int.1 (hx M n s0 ac s hL)).2.1) hb ho hg M n s0 ac s hL
theorem t_remu {k : IntKind} {x y : Operand} {a b : Int} (hx : Opn L x (Pd.rep (En.int k) a)) (hy : Opn L y (Pd.rep (En.int k) b)) (hk : 0 ≤ k.min) (hb : 0 < b) {t u : TypeId} (ho : o.op = .binOp .rem t x y u) (hg : o.guard = none) : T P ops o L (Pd.rep (En.int k) (a % b)) :=
  fun M n s0 ac s hL => t_rem hx hy (Int.le_trans hk (rep_int.1 (hx M n s0 ac s hL)).2.1) hb ho hg M n s0 ac s hL

/-! ### the words of a class -/
theorem word_in (c : Cl) (i : Int) : InR .u64 (c.w i) := by
  have := c.word_lt i.toNat
  rw [inR_u64]; unfold Cl.w; omega
theorem cls_cell {c : Cl} {i : Int} (h0 : 0 ≤ i) (h4 : i < 4) : (clsCells c)[i.toNat]? = some (.int .u64 (c.w i)) := by
  have : i = 0 ∨ i = 1 ∨ i = 2 ∨ i = 3 := by omega
  rcases this with rfl | rfl | rfl | rfl <;> rfl
theorem run_idxc {t te : TypeId} {k : IntKind} {i : Int} {b off : Nat} (h : 0 ≤ i ∧ i < 4) (ht : P.underlying t = some (.array 4 te)) (hi : (P.info? te).map (·.size) = some 1) (w : World) :
    (Instr.indexAt t (.pointer (some ⟨b, off, none⟩)) (.int k i)).run P w = .ok (.pointer (some ⟨b, off + i.toNat, none⟩)) w := by
  obtain ⟨inf, h1, h2⟩ : ∃ i, P.info? te = some i ∧ i.size = 1 := by
    cases h : P.info? te with
    | none => rw [h] at hi; cases hi
    | some i => rw [h] at hi; exact ⟨i, rfl, by simpa using hi⟩
  have hsz : ∀ w : World, (sizeOf te).run P w = .ok 1 w := fun w => by simp [sizeOf, typeInfo, h1, h2]
  simp only [Instr.indexAt, asIntOf, Sem.run_bind, Sem.run_pure, Result.andThen_ok, run_underlying ht, Instr.sureAddr]
  rw [if_pos (by omega)]
  simp [hsz, add_lit]
theorem t_idxc {c : Cl} {k : IntKind} {i : Int} {x y : Operand} {t te : TypeId} (hx : Opn L x (Pd.ptr En.cls c)) (hy : Opn L y (Pd.rep (En.int k) i)) (h : 0 ≤ i ∧ i < 4)
    (ht : P.underlying t = some (.array 4 te)) (hi : (P.info? te).map (·.size) = some 1) (ho : o.op = .indexAddr t x y) (hg : o.guard = none) : T P ops o L (Pd.ptr (En.int .u64) (c.w i)) :=
  T.pure hg fun M n s0 ac s hL => by
    obtain ⟨b, off, cs, hv, hb, hc, hR⟩ := hx M n s0 ac s hL
    cases hR
    have hi' := (rep_int.1 (hy M n s0 ac s hL)).1
    refine ⟨.pointer (some ⟨b, off + i.toNat, none⟩), ?_, b, off + i.toNat, [.int .u64 (c.w i)], rfl, hb, ?_, rfl, word_in c i⟩
    · unfold execOp; rw [ho]
      have := run_idxc (P := P) (b := b) (off := off) (k := k) h ht hi s.w
      simp [hv, hi', this]
    · intro j u hj
      cases j with
      | zero => simp at hj; subst hj; exact hc _ _ (cls_cell h.1 h.2)
      | succ j => simp at hj
theorem t_idxcb {c : Cl} {k : IntKind} {i : Int} {N g : Nat} {x y : Operand} {t te : TypeId} (hx : Opn L x (Pd.box En.cls N g c)) (hy : Opn L y (Pd.rep (En.int k) i)) (h : 0 ≤ i ∧ i < 4)
    (ht : P.underlying t = some (.array 4 te)) (hi : (P.info? te).map (·.size) = some 1) (ho : o.op = .indexAddr t x y) (hg : o.guard = none) : T P ops o L (Pd.optr (En.int .u64) N (some g) i.toNat (c.w i)) :=
  T.pure hg fun M n s0 ac s hL => by
    obtain ⟨hv, hN, hX, cs, t', hc, hR⟩ := hx M n s0 ac s hL
    cases hR
    have hi' := (rep_int.1 (hy M n s0 ac s hL)).1
    refine ⟨.pointer (some ⟨g, 0 + i.toNat, none⟩), ?_, g, rfl, by rw [Nat.zero_add], hN, (Array.getElem?_eq_some_iff.1 hc).1, hX, [.int .u64 (c.w i)], ?_, rfl, word_in c i⟩
    · unfold execOp; rw [ho]
      have := run_idxc (P := P) (b := g) (off := 0) (k := k) h ht hi s.w
      simp only [hv, hi', Sem.run_bind, this, Result.andThen_ok, Sem.run_pure]
    · intro j u hj
      cases j with
      | zero =>
        simp at hj; subst hj
        have := cellsAt_block hc i.toNat _ (cls_cell h.1 h.2)
        simpa using this
      | succ j => simp at hj
theorem sub_cls {c : Cl} {i v : Int} (h : 0 ≤ i ∧ i < 4) : Sub En.cls i.toNat (En.int .u64) c (c.setw i v) v := by
  refine ⟨by show i.toNat + 1 ≤ 4; omega, ?_⟩
  rintro w S cs cs' hR ⟨hc, hr⟩
  cases hR; subst hc
  show spl (clsCells c) i.toNat [.int .u64 v] = clsCells (c.setw i v)
  have hv : ((v.toNat : Nat) : Int) = v := by rw [inR_u64] at hr; omega
  have hl := toNat_u64 hr
  have h0 := c.word_lt 0
  have h1 := c.word_lt 1
  have h2 := c.word_lt 2
  have h3 := c.word_lt 3
  have : i = 0 ∨ i = 1 ∨ i = 2 ∨ i = 3 := by omega
  rcases this with rfl | rfl | rfl | rfl
  · obtain ⟨e0, e1, e2, e3⟩ := Cl.ofWords_word hl h1 h2 h3
    simp [clsCells, spl, Cl.setw, e0, e1, e2, e3, hv]
  · obtain ⟨e0, e1, e2, e3⟩ := Cl.ofWords_word h0 hl h2 h3
    simp [clsCells, spl, Cl.setw, e0, e1, e2, e3, hv]
  · obtain ⟨e0, e1, e2, e3⟩ := Cl.ofWords_word h0 h1 hl h3
    simp [clsCells, spl, Cl.setw, e0, e1, e2, e3, hv]
  · obtain ⟨e0, e1, e2, e3⟩ := Cl.ofWords_word h0 h1 h2 hl
    simp [clsCells, spl, Cl.setw, e0, e1, e2, e3, hv]
end
end Go.Proofs.YtdfnbogkniikbaaDoor.V
