/-
  Plain laws of classes and of counting loops: bits of words, rows, sums. No program, no memory.
-/
import Derived.Test.YtdfnbogkniikbaaDoorA8
namespace Go.Proofs.YtdfnbogkniikbaaDoor.V
open Go
set_option linter.unusedVariables false

theorem dt {p : Prop} [Decidable p] (h : decide p = true) : p := of_decide_eq_true h
theorem df {p : Prop} [Decidable p] (h : decide p = false) : ¬ p := of_decide_eq_false h

/-! ### loops -/
/-- A loop that counts up to n, and may leave early. -/
theorem upto {σ : Type} {P : Nat → σ → Int → Prop} (n : Nat) (I : Nat → σ → Prop)
    (hs : ∀ i s, i < n → I i s → (∀ k, P (k + 1) s (i : Int)) ∨ ∃ s', I (i + 1) s' ∧ ∀ k, P k s' ((i : Int) + 1) → P (k + 1) s (i : Int))
    (hx : ∀ s, I n s → ∀ k, P (k + 1) s (n : Int)) (s : σ) (h : I 0 s) : ∃ k, P k s 0 := by
  have : ∀ m i s, i + m = n → I i s → ∃ k, P k s (i : Int) := by
    intro m
    induction m with
    | zero => intro i s hi hI; have : i = n := by omega
              subst this; exact ⟨1, hx s hI 0⟩
    | succ m ih =>
      intro i s hi hI
      rcases hs i s (by omega) hI with h | ⟨s', h1, h2⟩
      · exact ⟨1, h 0⟩
      · obtain ⟨k, hk⟩ := ih (i + 1) s' (by omega) h1
        exact ⟨k + 1, h2 k (by simpa using hk)⟩
  simpa using this n 0 s (by omega) h
/-- A loop whose measure falls. -/
theorem run {σ : Type} {P : Nat → σ → Prop} (I : σ → Prop) (μ : σ → Nat) (h : ∀ s, I s → (∀ k, P (k + 1) s) ∨ ∃ s', I s' ∧ μ s' < μ s ∧ ∀ k, P k s' → P (k + 1) s) (s : σ) (hI : I s) : ∃ k, P k s := by
  have : ∀ m s, μ s < m → I s → ∃ k, P k s := by
    intro m
    induction m with
    | zero => intro s hs; omega
    | succ m ih =>
      intro s hs hI
      rcases h s hI with h1 | ⟨s', h1, h2, h3⟩
      · exact ⟨1, h1 0⟩
      · obtain ⟨k, hk⟩ := ih s' (by omega) h1
        exact ⟨k + 1, h3 k hk⟩
  exact this (μ s + 1) s (by omega) hI

theorem i64_of {x : Int} (h1 : -9223372036854775808 ≤ x) (h2 : x ≤ 9223372036854775807) : InR .i64 x := inR_i64.2 ⟨h1, h2⟩
theorem at_nat {α : Type} {xs : List α} {i : Nat} : at? xs (i : Int) = xs[i]? := by
  unfold at?
  rw [if_pos (by omega)]; simp

/-! ### bits -/
def Cl.put (a : Cl) (n : Nat) : Cl := a ||| BitVec.twoPow 256 n
theorem has_put {a : Cl} {n m : Nat} (hn : n < 256) : (a.put n).has m = (a.has m || decide (n = m)) := by
  unfold Cl.put Cl.has
  rw [BitVec.getLsbD_or, BitVec.getLsbD_twoPow]
  simp [hn]
theorem has_or {a b : Cl} {m : Nat} : (a ||| b).has m = (a.has m || b.has m) := BitVec.getLsbD_or
theorem has_and {a b : Cl} {m : Nat} : (a &&& b).has m = (a.has m && b.has m) := BitVec.getLsbD_and
theorem has_not {a : Cl} {m : Nat} (h : m < 256) : (~~~ a).has m = !a.has m := by
  unfold Cl.has
  rw [BitVec.getLsbD_not]; simp [h]
theorem has_zero {m : Nat} : Cl.has (0#256) m = false := by simp [Cl.has]

theorem w_nat (a : Cl) (i : Int) : (Cl.w a i).toNat = a.word i.toNat := by simp [Cl.w]
theorem has_w {a : Cl} {n : Nat} (h : n < 256) : a.has n = (a.word (n / 64)).testBit (n % 64) := by
  rw [Cl.word_bit]
  simp [Nat.mod_lt, Nat.div_add_mod]
theorem setw_word {a : Cl} {i : Nat} {v : Int} (hv : v.toNat < 2 ^ 64) (j : Nat) (hj : j < 4) : (a.setw (i : Int) v).word j = if j = i then v.toNat else a.word j := by
  unfold Cl.setw
  have hw : ∀ k, a.word k < 2 ^ 64 := a.word_lt
  have hb : ∀ (c : Prop) [Decidable c] (k : Nat), (if c then v.toNat else a.word k) < 2 ^ 64 := fun c _ k => by split <;> simp_all
  obtain ⟨h0, h1, h2, h3⟩ := Cl.ofWords_word (hb ((i : Int) = 0) 0) (hb ((i : Int) = 1) 1) (hb ((i : Int) = 2) 2) (hb ((i : Int) = 3) 3)
  match j, hj with
  | 0, _ => rw [h0]; split <;> split <;> first | rfl | omega
  | 1, _ => rw [h1]; split <;> split <;> first | rfl | omega
  | 2, _ => rw [h2]; split <;> split <;> first | rfl | omega
  | 3, _ => rw [h3]; split <;> split <;> first | rfl | omega
theorem has_setw {a : Cl} {i : Nat} {v : Int} (hv : v.toNat < 2 ^ 64) {n : Nat} (hn : n < 256) : (a.setw (i : Int) v).has n = if n / 64 = i then v.toNat.testBit (n % 64) else a.has n := by
  rw [has_w hn, setw_word hv _ (by omega), has_w hn]
  split <;> rfl

theorem shr_bit {w k : Nat} (hk : k < 64) : (andI (shrI (w : Int) (k : Int)) 1 == 1) = w.testBit k := by
  unfold andI shrI
  rw [show min ((k : Int)).toNat 64 = k by simp; omega]
  have h : ((w : Int) / 2 ^ k).toNat = w / 2 ^ k := by
    rw [show ((2 : Int) ^ k) = ((2 ^ k : Nat) : Int) by simp, ← Int.natCast_ediv]; exact Int.toNat_natCast _
  rw [h]
  simp only [Int.toNat_one, Nat.and_one_is_mod, Nat.testBit_eq_decide_div_mod_eq]
  have := Nat.mod_two_eq_zero_or_one (w / 2 ^ k)
  rcases this with h | h <;> rw [h] <;> rfl

theorem shl_one {k : Nat} (hk : k < 64) : shlI 1 (k : Int) = ((2 ^ k : Nat) : Int) := by
  unfold shlI
  rw [show min ((k : Int)).toNat 64 = k by simp; omega, Int.one_mul]
  have : 2 ^ k < 2 ^ 64 := Nat.pow_lt_pow_right (by omega) hk
  rw [show ((2 : Int) ^ k) = ((2 ^ k : Nat) : Int) by simp]
  generalize 2 ^ k = q at *
  omega

theorem put_words {a : Cl} {n : Nat} (hn : n < 256) : a.setw ((n / 64 : Nat) : Int) (orI (Cl.w a ((n / 64 : Nat) : Int)) (shlI 1 ((n % 64 : Nat) : Int))) = a.put n := by
  apply Cl.ext
  intro c hc
  have hlt : (orI (Cl.w a ((n / 64 : Nat) : Int)) (shlI 1 ((n % 64 : Nat) : Int))).toNat = a.word (n / 64) ||| 2 ^ (n % 64) := by
    rw [shl_one (Nat.mod_lt _ (by omega))]
    unfold orI
    rw [w_nat, Int.toNat_natCast, Int.toNat_natCast, Int.toNat_natCast]
  have hb : a.word (n / 64) ||| 2 ^ (n % 64) < 2 ^ 64 := Nat.or_lt_two_pow (a.word_lt _) (Nat.pow_lt_pow_right (by omega) (Nat.mod_lt _ (by omega)))
  rw [has_setw (by rw [hlt]; exact hb) hc, hlt, has_put hn]
  split
  · rename_i h
    rw [Nat.testBit_or, Nat.testBit_two_pow, ← h, ← has_w hc]
    congr 1
    apply decide_eq_decide.2
    omega
  · rename_i h
    rw [show decide (n = c) = false by simp; intro e; subst e; exact h rfl]; simp

/-- The bytes from one to another one. -/
def Cl.row (f t : Int) : Cl := Cl.of fun n => decide (f ≤ (n : Int)) && decide ((n : Int) ≤ t)
theorem has_row {f t : Int} {n : Nat} (h : n < 256) : (Cl.row f t).has n = (decide (f ≤ (n : Int)) && decide ((n : Int) ≤ t)) := Cl.of_has _ h
def Cl.least (a : Cl) : Int × Bool := match (List.range 256).find? a.has with
  | some n => ((n : Int), true)
  | none => (0, false)
def Cl.count (a : Cl) : Nat := (List.range 256).countP a.has
def Cl.list (a : Cl) : List Bool := (List.range 256).map a.has
def Cl.addL (a : Cl) (l : List Int) : Cl := l.foldl (fun a c => a.put c.toNat) a
theorem count_le (a : Cl) : a.count ≤ 256 := by
  have := List.countP_le_length (l := List.range 256) (p := a.has)
  simpa [Cl.count] using this
theorem u8_of {c : Int} (h : InR .u8 c) : ∃ n : Nat, n < 256 ∧ c = n := by
  rw [inR_u8] at h
  exact ⟨c.toNat, by omega, by omega⟩
theorem u8_nat {n : Nat} (h : n < 256) : InR .u8 (n : Int) := inR_u8.2 ⟨by omega, by omega⟩
theorem has_addL {l : List Int} (hl : ∀ x ∈ l, InR .u8 x) (m : Nat) : ∀ a : Cl, (a.addL l).has m = (a.has m || l.any fun x => decide (x = (m : Int))) := by
  induction l with
  | nil => intro a; simp [Cl.addL]
  | cons x l ih =>
    intro a
    obtain ⟨n, hn, rfl⟩ := u8_of (hl x (by simp))
    have := ih (fun y hy => hl y (by simp [hy])) (a.put n)
    simp only [Cl.addL, List.foldl_cons, Int.toNat_natCast] at this ⊢
    rw [this, has_put hn]
    simp only [List.any_cons, Bool.or_assoc, Int.natCast_inj]

theorem least_some {a : Cl} {n : Nat} (h : a.least = ((n : Int), true)) : n < 256 ∧ a.has n = true ∧ ∀ m, m < n → a.has m = false := by
  unfold Cl.least at h
  split at h
  · rename_i k hk
    have e : k = n := by have h2 := (Prod.mk.inj h).1; omega
    subst e
    rw [List.find?_eq_some_iff_getElem] at hk
    obtain ⟨h1, i, h2, h3, h4⟩ := hk
    simp at h2 h3
    subst h3
    refine ⟨h2, h1, fun m hm => ?_⟩
    have := h4 m hm
    simpa using this
  · simp at h
theorem least_none {a : Cl} (h : a.least.2 = false) : ∀ m, m < 256 → a.has m = false := by
  unfold Cl.least at h
  split at h
  · simp at h
  · rename_i hk
    intro m hm
    have := List.find?_eq_none.1 hk m (by simpa using hm)
    simpa using this
theorem least_of {a : Cl} {n : Nat} (hn : n < 256) (h1 : a.has n = true) (h2 : ∀ m, m < n → a.has m = false) : a.least = ((n : Int), true) := by
  have : (List.range 256).find? a.has = some n := by
    rw [List.find?_eq_some_iff_getElem]
    exact ⟨h1, n, by simpa using hn, by simp, fun j hj => by simp [h2 j hj]⟩
  simp [Cl.least, this]
theorem least_of_none {a : Cl} (h : ∀ m, m < 256 → a.has m = false) : a.least = (0, false) := by
  have : (List.range 256).find? a.has = none := by
    rw [List.find?_eq_none]
    intro m hm
    simp [h m (by simpa using hm)]
  simp [Cl.least, this]
theorem list_get {a : Cl} {n : Nat} (h : n < 256) : a.list[n]? = some (a.has n) := by simp [Cl.list, h]
theorem list_len {a : Cl} : a.list.length = 256 := by simp [Cl.list]
def Cl.ofL (l : List Bool) : Cl := Cl.of fun n => l.getD n false
theorem has_ofL {l : List Bool} {n : Nat} (h : n < 256) : (Cl.ofL l).has n = l.getD n false := Cl.of_has _ h
end Go.Proofs.YtdfnbogkniikbaaDoor.V
