/-
  Plain laws of sorting: what is told of lists whose things have keys. No program, no memory.
-/
import Derived.Test.YtkdbiiollbeoeaaC1
namespace Go.Proofs.Ytkdbiiollbeoeaa.V
open Go
set_option linter.unusedVariables false

section
variable {α : Type}
theorem at_mid {A B : List α} {x : α} {i : Int} (h : i = (A.length : Int)) : at? (A ++ x :: B) i = some x := by
  subst h; rw [at_nat]; simp
theorem set_mid {A B : List α} {x y : α} {i : Int} (h : i = (A.length : Int)) : (A ++ x :: B).set i.toNat y = A ++ y :: B := by
  subst h; rw [Int.toNat_natCast]
  induction A with
  | nil => rfl
  | cons a A ih => simp only [List.length_cons, List.cons_append, List.set_cons_succ, ih]

/-- The same things of each key, in one order. -/
def SEq (key : α → Int) (l l' : List α) : Prop := ∀ c, l.filter (fun x => key x == c) = l'.filter (fun x => key x == c)
theorem SEq.refl (key : α → Int) (l : List α) : SEq key l l := fun _ => rfl
theorem SEq.trans {key : α → Int} {a b c : List α} (h : SEq key a b) (k : SEq key b c) : SEq key a c := fun x => (h x).trans (k x)
theorem SEq.symm {key : α → Int} {a b : List α} (h : SEq key a b) : SEq key b a := fun x => (h x).symm
theorem SEq.app {key : α → Int} {a b c d : List α} (h : SEq key a b) (k : SEq key c d) : SEq key (a ++ c) (b ++ d) := fun x => by rw [List.filter_append, List.filter_append, h x, k x]
theorem SEq.length {key : α → Int} {a b : List α} (h : SEq key a b) : a.length = b.length := by
  have hp : a.Perm b := by
    classical
    refine List.perm_iff_count.2 fun x => ?_
    have h1 : ∀ l : List α, l.count x = (l.filter (fun y => key y == key x)).count x := fun l => by
      rw [List.count_filter]; simp
    rw [h1 a, h1 b, h (key x)]
  exact hp.length_eq
theorem SEq.perm {key : α → Int} {a b : List α} (h : SEq key a b) : a.Perm b := by
  classical
  refine List.perm_iff_count.2 fun x => ?_
  have h1 : ∀ l : List α, l.count x = (l.filter (fun y => key y == key x)).count x := fun l => by
    rw [List.count_filter]; simp
  rw [h1 a, h1 b, h (key x)]
/-- Two blocks that have no key in common change places. -/
theorem seq_blocks {key : α → Int} {X Y : List α} (h : ∀ x ∈ X, ∀ y ∈ Y, key x ≠ key y) : SEq key (X ++ Y) (Y ++ X) := fun c => by
  rw [List.filter_append, List.filter_append]
  by_cases hx : X.filter (fun x => key x == c) = []
  · rw [hx]; simp
  · have hy : Y.filter (fun x => key x == c) = [] := by
      rw [List.filter_eq_nil_iff]
      intro y hy hyc
      obtain ⟨x, hxm⟩ := List.exists_mem_of_ne_nil _ hx
      rw [List.mem_filter] at hxm
      exact h x hxm.1 y hy (by rw [eq_of_beq hxm.2, eq_of_beq hyc])
    rw [hy]; simp

/-- Sorted by key. -/
def Srt (key : α → Int) (l : List α) : Prop := l.Pairwise fun x y => key x ≤ key y
theorem Srt.app {key : α → Int} {a b : List α} : Srt key (a ++ b) ↔ Srt key a ∧ Srt key b ∧ ∀ x ∈ a, ∀ y ∈ b, key x ≤ key y := List.pairwise_append
theorem Srt.cons {key : α → Int} {x : α} {b : List α} : Srt key (x :: b) ↔ (∀ y ∈ b, key x ≤ key y) ∧ Srt key b := List.pairwise_cons

/-- What is sorted, and has the same things of each key in one order, is one list. -/
theorem srt_uniq {key : α → Int} : ∀ {a b : List α}, Srt key a → Srt key b → SEq key a b → a = b
  | [], b, _, _, h => (List.eq_nil_of_length_eq_zero h.length.symm).symm
  | x :: a, [], _, _, h => absurd h.length (by simp)
  | x :: a, y :: b, ha, hb, h => by
    obtain ⟨ha1, ha2⟩ := Srt.cons.1 ha
    obtain ⟨hb1, hb2⟩ := Srt.cons.1 hb
    have hp := h.perm
    have hxy : key x = key y := by
      have h1 : x ∈ y :: b := hp.mem_iff.1 (by simp)
      have h2 : y ∈ x :: a := hp.mem_iff.2 (by simp)
      have e1 : key y ≤ key x := by
        rcases List.mem_cons.1 h1 with rfl | h1
        · exact Int.le_refl _
        · exact hb1 x h1
      have e2 : key x ≤ key y := by
        rcases List.mem_cons.1 h2 with rfl | h2
        · exact Int.le_refl _
        · exact ha1 y h2
      omega
    have h3 := h (key x)
    rw [List.filter_cons_of_pos (by simp), List.filter_cons_of_pos (by simp [hxy])] at h3
    have e := List.cons.inj h3
    obtain ⟨rfl, _⟩ := e
    refine congrArg _ (srt_uniq ha2 hb2 fun c => ?_)
    have h4 := h c
    by_cases hc : key x = c
    · rw [List.filter_cons_of_pos (by simp [hc]), List.filter_cons_of_pos (by simp [hc])] at h4
      exact (List.cons.inj h4).2
    · rw [List.filter_cons_of_neg (by simp [hc]), List.filter_cons_of_neg (by simp [hc])] at h4
      exact h4

/-- The one sorted list. -/
def srt (key : α → Int) (l : List α) : List α := l.mergeSort fun x y => decide (key x ≤ key y)
theorem srt_srt (key : α → Int) (l : List α) : Srt key (srt key l) := by
  have := List.pairwise_mergeSort (le := fun x y => decide (key x ≤ key y)) (fun a b c h1 h2 => by simp at *; omega) (fun a b => by simp; omega) l
  exact this.imp fun h => by simpa using h
theorem seq_srt (key : α → Int) (l : List α) : SEq key l (srt key l) := fun c => by
  have hp : (srt key l).Perm l := List.mergeSort_perm l _
  have hsub : (l.filter fun x => key x == c).Sublist (srt key l) := by
    refine List.sublist_mergeSort (le := fun x y => decide (key x ≤ key y)) (fun a b c h1 h2 => by simp at *; omega) (fun a b => by simp; omega) ?_ List.filter_sublist
    refine List.Pairwise.imp_of_mem (R := fun _ _ => True) ?_ (List.pairwise_of_forall fun _ _ => trivial)
    intro a b ha hb _
    have h1 := (List.mem_filter.1 ha).2
    have h2 := (List.mem_filter.1 hb).2
    simp at h1 h2
    simp; omega
  have h2 := hsub.filter (fun x => key x == c)
  rw [List.filter_filter] at h2
  simp only [Bool.and_self] at h2
  exact h2.eq_of_length (hp.filter _).length_eq.symm
theorem srt_of {key : α → Int} {l q : List α} (hq : Srt key q) (h : SEq key l q) : q = srt key l := srt_uniq hq (srt_srt key l) (h.symm.trans (seq_srt key l))
theorem srt_len (key : α → Int) (l : List α) : (srt key l).length = l.length := (seq_srt key l).length.symm

theorem split_at (l : List α) {n : Nat} (h : n ≤ l.length) : ∃ A B, l = A ++ B ∧ A.length = n := ⟨l.take n, l.drop n, (List.take_append_drop n l).symm, by simp; omega⟩
theorem snoc_of {l : List α} (h : l ≠ []) : ∃ A x, l = A ++ [x] := ⟨l.dropLast, l.getLast h, (List.dropLast_concat_getLast h).symm⟩
end

theorem half_of {i j : Int} (h0 : 0 ≤ i + j) (h1 : i + j < 9223372036854775808) : IntKind.wrap .i64 (shrI (IntKind.wrap .u64 (i + j)) 1) = (i + j) / 2 := by
  rw [wrap_u64, show (i + j) % 18446744073709551616 = i + j by omega]
  have : shrI (i + j) 1 = (i + j) / 2 := by
    unfold shrI
    simp
  rw [this]
  simp [IntKind.wrap, IntKind.signed, IntKind.bits]
  omega

/-- A search by halves. -/
theorem bsearch {P : Nat → Int → Int → Prop} (pr : Nat → Bool) (lo hi : Nat) (hmono : ∀ c d, lo ≤ c → c ≤ d → d < hi → pr d = true → pr c = true)
    (hstep : ∀ k (i j : Nat), lo ≤ i → i < j → j ≤ hi → (pr ((i + j) / 2) = true → P k (((i + j) / 2 + 1 : Nat) : Int) (j : Int) → P (k + 1) (i : Int) (j : Int)) ∧ (pr ((i + j) / 2) = false → P k (i : Int) (((i + j) / 2 : Nat) : Int) → P (k + 1) (i : Int) (j : Int)))
    (hexit : ∀ k (i : Nat), lo ≤ i → i ≤ hi → (∀ c, lo ≤ c → c < i → pr c = true) → (∀ c, i ≤ c → c < hi → pr c = false) → P (k + 1) (i : Int) (i : Int)) (hle : lo ≤ hi) : ∃ k, P k (lo : Int) (hi : Int) := by
  have key : ∀ (f i j : Nat), j - i ≤ f → lo ≤ i → i ≤ j → j ≤ hi → (∀ c, lo ≤ c → c < i → pr c = true) → (∀ c, j ≤ c → c < hi → pr c = false) → ∃ k, P k (i : Int) (j : Int) := by
    intro f
    induction f with
    | zero =>
      intro i j hf h1 h2 h3 h4 h5
      have : i = j := by omega
      subst this
      exact ⟨1, hexit 0 i h1 h3 h4 h5⟩
    | succ f ih =>
      intro i j hf h1 h2 h3 h4 h5
      by_cases hij : i = j
      · subst hij; exact ⟨1, hexit 0 i h1 h3 h4 h5⟩
      · have hlt : i < j := by omega
        cases hp : pr ((i + j) / 2)
        · obtain ⟨k, hk⟩ := ih i ((i + j) / 2) (by omega) h1 (by omega) (by omega) h4 (fun c hc1 hc2 => by
            cases hpc : pr c
            · rfl
            · have := hmono ((i + j) / 2) c (by omega) hc1 hc2 hpc; rw [this] at hp; cases hp)
          exact ⟨k + 1, (hstep k i j h1 hlt h3).2 hp hk⟩
        · obtain ⟨k, hk⟩ := ih ((i + j) / 2 + 1) j (by omega) (by omega) (by omega) h3 (fun c hc1 hc2 => hmono c ((i + j) / 2) hc1 (by omega) (by omega) hp) h5
          exact ⟨k + 1, (hstep k i j h1 hlt h3).1 hp hk⟩
  exact key (hi - lo) lo hi (Nat.le_refl _) (Nat.le_refl _) hle (Nat.le_refl _) (fun c h1 h2 => by omega) (fun c h1 h2 => by omega)
end Go.Proofs.Ytkdbiiollbeoeaa.V
