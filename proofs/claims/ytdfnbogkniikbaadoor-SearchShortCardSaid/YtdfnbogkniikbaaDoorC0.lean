/-
  Classes of bytes as 256 bits: their four words, and what is said of single bits. Plain: no program, no memory.
-/
namespace Go.Proofs.YtdfnbogkniikbaaDoor.V
set_option linter.unusedVariables false
abbrev Cl := BitVec 256
/-- The word number i. -/
def Cl.word (x : Cl) (i : Nat) : Nat := x.toNat / 2 ^ (64 * i) % 2 ^ 64
/-- Is the byte in? -/
def Cl.has (x : Cl) (c : Nat) : Bool := x.getLsbD c
def Cl.ofWords (a b c d : Nat) : Cl := BitVec.ofNat 256 (a + 2 ^ 64 * b + 2 ^ 128 * c + 2 ^ 192 * d)
/-- The class of the bytes that f says yes to. -/
def bitsOf (f : Nat → Bool) : Nat → Nat
  | 0 => 0
  | n + 1 => bif f n then 2 ^ n + bitsOf f n else bitsOf f n
def Cl.of (f : Nat → Bool) : Cl := BitVec.ofNat 256 (bitsOf f 256)

theorem Cl.word_lt (x : Cl) (i : Nat) : x.word i < 2 ^ 64 := Nat.mod_lt _ (by decide)
theorem Cl.word_bit (x : Cl) (i j : Nat) : (x.word i).testBit j = (decide (j < 64) && x.has (64 * i + j)) := by
  unfold Cl.word Cl.has
  rw [Nat.testBit_mod_two_pow, Nat.testBit_div_two_pow]
  rw [BitVec.getLsbD, Nat.add_comm]
theorem Cl.ext {x y : Cl} (h : ∀ c, c < 256 → x.has c = y.has c) : x = y := BitVec.eq_of_getLsbD_eq h
theorem Cl.ext_words {x y : Cl} (h : ∀ i, i < 4 → x.word i = y.word i) : x = y := by
  apply Cl.ext
  intro c hc
  have h1 := Cl.word_bit x (c / 64) (c % 64)
  have h2 := Cl.word_bit y (c / 64) (c % 64)
  rw [h (c / 64) (by omega)] at h1
  rw [h1] at h2
  simpa [Nat.mod_lt, Nat.div_add_mod] using h2
theorem Cl.has_ge (x : Cl) {c : Nat} (h : 256 ≤ c) : x.has c = false := BitVec.getLsbD_of_ge x c h

theorem bitsOf_lt (f : Nat → Bool) (n : Nat) : bitsOf f n < 2 ^ n := by
  induction n with
  | zero => simp [bitsOf]
  | succ n ih =>
    unfold bitsOf
    rw [Nat.pow_succ]
    cases f n <;> simp <;> omega
theorem bitsOf_bit (f : Nat → Bool) (n j : Nat) : (bitsOf f n).testBit j = (decide (j < n) && f j) := by
  induction n with
  | zero => simp [bitsOf]
  | succ n ih =>
    have hlt := bitsOf_lt f n
    unfold bitsOf
    by_cases hj : j = n
    · subst hj
      cases hf : f j
      · simp [Nat.testBit_lt_two_pow hlt]
      · simp only [cond_true, Nat.testBit_two_pow_add_eq, Nat.testBit_lt_two_pow hlt]; simp
    · by_cases hlt' : j < n
      · cases hf : f n
        · simp [ih, hlt', show j < n + 1 by omega]
        · simp only [cond_true, Nat.testBit_two_pow_add_gt hlt', ih]; simp [hlt', show j < n + 1 by omega]
      · have h2 : (bif f n then 2 ^ n + bitsOf f n else bitsOf f n) < 2 ^ (n + 1) := by rw [Nat.pow_succ]; cases f n <;> simp <;> omega
        have h3 : 2 ^ (n + 1) ≤ 2 ^ j := Nat.pow_le_pow_right (by omega) (by omega)
        rw [Nat.testBit_lt_two_pow (by omega)]
        simp [show ¬ j < n + 1 by omega]
theorem Cl.of_has (f : Nat → Bool) {c : Nat} (hc : c < 256) : (Cl.of f).has c = f c := by
  unfold Cl.of Cl.has
  rw [BitVec.getLsbD_ofNat, bitsOf_bit]
  simp [hc]
theorem Cl.ofWords_word {a b c d : Nat} (ha : a < 2 ^ 64) (hb : b < 2 ^ 64) (hc : c < 2 ^ 64) (hd : d < 2 ^ 64) :
    (Cl.ofWords a b c d).word 0 = a ∧ (Cl.ofWords a b c d).word 1 = b ∧ (Cl.ofWords a b c d).word 2 = c ∧ (Cl.ofWords a b c d).word 3 = d := by
  have h : (Cl.ofWords a b c d).toNat = a + 2 ^ 64 * b + 2 ^ 128 * c + 2 ^ 192 * d := by
    unfold Cl.ofWords
    rw [BitVec.toNat_ofNat]
    exact Nat.mod_eq_of_lt (by omega)
  unfold Cl.word
  rw [h]
  simp only [Nat.mul_zero, Nat.mul_one, Nat.pow_zero, Nat.reduceMul]
  omega
theorem Cl.words (x : Cl) : Cl.ofWords (x.word 0) (x.word 1) (x.word 2) (x.word 3) = x := by
  apply Cl.ext_words
  intro i hi
  obtain ⟨h0, h1, h2, h3⟩ := Cl.ofWords_word (x.word_lt 0) (x.word_lt 1) (x.word_lt 2) (x.word_lt 3)
  match i, hi with
  | 0, _ => exact h0
  | 1, _ => exact h1
  | 2, _ => exact h2
  | 3, _ => exact h3
end Go.Proofs.YtdfnbogkniikbaaDoor.V
