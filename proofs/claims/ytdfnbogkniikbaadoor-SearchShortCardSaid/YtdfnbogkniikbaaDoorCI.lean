/-
  Numbers as text, tables of keys, entries by index. No program, no memory.
-/
import Derived.Test.YtdfnbogkniikbaaDoorC1
import Derived.Test.YtdfnbogkniikbaaDoorAC
import Derived.Lib.ItoaNum
namespace Go.Proofs.YtdfnbogkniikbaaDoor.V
open Go
set_option linter.unusedVariables false
/-! ### keys -/
theorem dig10 : ∀ d : Fin 10, (UInt8.ofNat (48 + d.1)).toNat = 48 + d.1 := by decide
theorem dec_ge (u : Nat) : ∀ c ∈ Lib.decDigits u, 48 ≤ c.toNat ∧ c.toNat ≤ 57 := by
  induction u using Nat.strongRecOn with
  | ind u ih =>
    intro c hc
    have hd : ∀ d, d < 10 → (UInt8.ofNat (48 + d)).toNat = 48 + d := fun d hd => dig10 ⟨d, hd⟩
    rw [Lib.decDigits] at hc
    split at hc
    · rename_i h
      rw [List.mem_singleton.1 hc, hd u h]; omega
    · rename_i h
      rcases List.mem_append.1 hc with hc | hc
      · exact ih (u / 10) (by omega) c hc
      · rw [List.mem_singleton.1 hc, hd _ (Nat.mod_lt _ (by omega))]; omega
def valD (l : List UInt8) : Nat := l.foldl (fun a c => 10 * a + (c.toNat - 48)) 0
theorem valD_dec (u : Nat) : valD (Lib.decDigits u) = u := by
  induction u using Nat.strongRecOn with
  | ind u ih =>
    have hd : ∀ d, d < 10 → (UInt8.ofNat (48 + d)).toNat = 48 + d := fun d hd => dig10 ⟨d, hd⟩
    rw [Lib.decDigits]
    split
    · rename_i h
      simp only [valD, List.foldl_cons, List.foldl_nil, hd u h]; omega
    · rename_i h
      have := ih (u / 10) (by omega)
      unfold valD at this ⊢
      rw [List.foldl_append, this]
      simp only [List.foldl_cons, List.foldl_nil, hd _ (Nat.mod_lt u (show 10 > 0 by omega))]; omega
theorem itoa_chars (n : Int) : ∀ c ∈ Lib.itoa n, c ≠ 32 := by
  intro c hc he
  subst he
  unfold Lib.itoa at hc
  split at hc
  · rcases List.mem_cons.1 hc with h | h
    · exact absurd h (by decide)
    · have := (dec_ge _ _ h).1; exact absurd this (by decide)
  · have := (dec_ge _ _ hc).1; exact absurd this (by decide)
theorem itoa_inj {n m : Int} (h : Lib.itoa n = Lib.itoa m) : n = m := by
  have no45 : ∀ u (l : List UInt8), Lib.decDigits u ≠ 45 :: l := fun u l he => by
    have := (dec_ge u 45 (by rw [he]; simp)).1
    exact absurd this (by decide)
  unfold Lib.itoa at h
  split at h <;> split at h
  · have := congrArg valD (List.cons.inj h).2
    rw [valD_dec, valD_dec] at this; omega
  · exact absurd h.symm (no45 _ _)
  · exact absurd h (no45 _ _)
  · have := congrArg valD h
    rw [valD_dec, valD_dec] at this; omega
theorem at_none {α : Type} {xs : List α} {i : Int} (h : i < 0 ∨ (xs.length : Int) ≤ i) : at? xs i = none := by
  unfold at?
  split
  · exact List.getElem?_eq_none (by omega)
  · rfl
theorem at_in {α : Type} {xs : List α} {i : Int} (h0 : 0 ≤ i) (h1 : i < (xs.length : Int)) : ∃ x, at? xs i = some x ∧ x ∈ xs := by
  refine ⟨xs[i.toNat]'(by omega), ?_, List.getElem_mem _⟩
  unfold at?
  rw [if_pos h0]
  exact List.getElem?_eq_getElem _

/-- A loop that counts up to n at the most; what a round comes to is not told. -/
theorem uptoK {σ : Type} {P : Nat → σ → Int → Prop} (n : Nat) (I : Nat → σ → Prop)
    (hs : ∀ i s k, i < n → I i s → (∀ s', I (i + 1) s' → P k s' ((i : Int) + 1)) → P (k + 1) s (i : Int))
    (hx : ∀ s, I n s → ∀ k, P (k + 1) s (n : Int)) (s : σ) (h : I 0 s) : ∃ k, P k s 0 := by
  have : ∀ m i s, i + m = n → I i s → P (m + 1) s (i : Int) := by
    intro m
    induction m with
    | zero => intro i s hi hI; have : i = n := by omega
              subst this; exact hx s hI 0
    | succ m ih =>
      intro i s hi hI
      exact hs i s (m + 1) (by omega) hI fun s' h' => by simpa using ih (i + 1) s' (by omega) h'
  exact ⟨n + 1, by simpa using this n 0 s (by omega) h⟩

/-! ### tables of keys -/
theorem mget_nil {κ ν : Type} [DecidableEq κ] (k : κ) (z : ν) : mget ([] : List (κ × ν)) k z = z := rfl
theorem mget_cons {κ ν : Type} [DecidableEq κ] (p : κ × ν) (xs : List (κ × ν)) (k : κ) (z : ν) : mget (p :: xs) k z = if p.1 = k then p.2 else mget xs k z := by
  unfold mget
  rw [List.find?_cons]
  by_cases h : p.1 = k
  · subst h; simp
  · have h' : (p.1 == k) = false := by simpa using h
    rw [h', if_neg h]
theorem mget_mput {κ ν : Type} [DecidableEq κ] (xs : List (κ × ν)) (k k' : κ) (v z : ν) : mget (mput xs k v) k' z = if k = k' then v else mget xs k' z := by
  have hmap : ∀ xs : List (κ × ν), mget (xs.map (fun p => bif p.1 == k then (k, v) else p)) k' z = if k = k' then (if mhas xs k = true then v else z) else mget xs k' z := by
    intro xs
    induction xs with
    | nil => simp [mget_nil, mhas]
    | cons p xs ih =>
      rw [List.map_cons, mget_cons, ih, mget_cons]
      by_cases hp : p.1 = k
      · subst hp
        by_cases hk : p.1 = k' <;> simp [hk, mhas]
      · have : (p.1 == k) = false := by simpa using hp
        rw [this]
        by_cases hk : k = k'
        · subst hk
          simp only [mhas, List.any_cons, this, Bool.false_or, cond_false, if_neg hp]
          rfl
        · simp [hk]
  have happ : ∀ xs : List (κ × ν), mhas xs k = false → mget (xs ++ [(k, v)]) k' z = if k = k' then v else mget xs k' z := by
    intro xs
    induction xs with
    | nil => intro _; rw [List.nil_append, mget_cons, mget_nil]
    | cons p xs ih =>
      intro h
      simp only [mhas, List.any_cons, Bool.or_eq_false_iff] at h
      rw [List.cons_append, mget_cons, ih h.2, mget_cons]
      have hp : p.1 ≠ k := by simpa using h.1
      by_cases hk : k = k'
      · subst hk; simp [hp]
      · simp [hk]
  unfold mput
  cases h : mhas xs k
  · exact happ xs h
  · rw [cond_true, hmap, h]; simp
end Go.Proofs.YtdfnbogkniikbaaDoor.V
