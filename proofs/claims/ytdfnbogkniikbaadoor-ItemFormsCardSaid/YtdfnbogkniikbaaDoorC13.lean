/-
  Plain: states, held against each other, lowered, as keys. No program, no memory.
-/
import Derived.Test.YtdfnbogkniikbaaDoorD
import Derived.Test.YtdfnbogkniikbaaDoorC1
namespace Go.Proofs.YtdfnbogkniikbaaDoor.V
open Go
set_option linter.unusedVariables false

def sgnI (x y : Int) : Int := if x < y then -1 else if y < x then 1 else 0
def lexI : List Int → List Int → Int
  | x :: a, y :: b => if x < y then -1 else if y < x then 1 else lexI a b
  | _, _ => 0
def fstNZ : List Int → Int
  | [] => 0
  | x :: l => if x ≠ 0 then x else fstNZ l
def numsL (s : List SItem) : List Int := (s.length : Int) :: numsS s
def cmpItem (x y : SItem) : Int := fstNZ [sgnI x.1 y.1, sgnI x.2.1 y.2.1, sgnI x.2.2.1 y.2.2.1, sgnI x.2.2.2 y.2.2.2]

theorem lexI_cons (x y : Int) (a b : List Int) : lexI (x :: a) (y :: b) = if sgnI x y ≠ 0 then sgnI x y else lexI a b := by
  unfold sgnI
  rw [lexI]
  by_cases h1 : x < y
  · simp [h1]
  · by_cases h2 : y < x
    · simp [h1, h2]
    · simp [h1, h2]
theorem lexI_nil_left (b : List Int) : lexI [] b = 0 := by cases b <;> rfl
theorem lexI_nil_right (a : List Int) : lexI a [] = 0 := by cases a <;> rfl
theorem cmpItem_lex (x y : SItem) : cmpItem x y = lexI (nums4 x) (nums4 y) := by
  unfold cmpItem nums4
  simp only [lexI_cons, fstNZ, lexI_nil_left]
theorem lexI_app {a b : List Int} (h : a.length = b.length) (u v : List Int) : lexI (a ++ u) (b ++ v) = if lexI a b ≠ 0 then lexI a b else lexI u v := by
  induction a generalizing b with
  | nil =>
    cases b with
    | nil => simp [lexI_nil_left]
    | cons y b => simp at h
  | cons x a ih =>
    cases b with
    | nil => simp at h
    | cons y b =>
      simp only [List.cons_append, lexI_cons]
      rw [ih (by simpa using h)]
      split <;> simp_all
theorem lexI_range (a b : List Int) : lexI a b = -1 ∨ lexI a b = 0 ∨ lexI a b = 1 := by
  induction a generalizing b with
  | nil => rw [lexI_nil_left]; simp
  | cons x a ih =>
    cases b with
    | nil => rw [lexI_nil_right]; simp
    | cons y b =>
      rw [lexI]
      split
      · simp
      · split
        · simp
        · exact ih b
theorem lexI_self (a : List Int) : lexI a a = 0 := by
  induction a with
  | nil => rfl
  | cons x a ih => rw [lexI, if_neg (by omega), if_neg (by omega), ih]
theorem lexI_anti (a b : List Int) : lexI b a = -lexI a b := by
  induction a generalizing b with
  | nil => rw [lexI_nil_left, lexI_nil_right]; rfl
  | cons x a ih =>
    cases b with
    | nil => rw [lexI_nil_left, lexI_nil_right]; rfl
    | cons y b =>
      rw [lexI, lexI]
      by_cases h1 : x < y
      · rw [if_neg (by omega), if_pos h1, if_pos h1]; rfl
      · by_cases h2 : y < x
        · rw [if_pos h2, if_neg h1, if_pos h2]
        · rw [if_neg h2, if_neg h1, if_neg h1, if_neg h2, ih]
theorem lexI_zero {a b : List Int} (hl : a.length = b.length) (h : lexI a b = 0) : a = b := by
  induction a generalizing b with
  | nil => cases b with
    | nil => rfl
    | cons y b => simp at hl
  | cons x a ih =>
    cases b with
    | nil => simp at hl
    | cons y b =>
      rw [lexI] at h
      by_cases h1 : x < y
      · rw [if_pos h1] at h; cases h
      · by_cases h2 : y < x
        · rw [if_neg h1, if_pos h2] at h; cases h
        · rw [if_neg h1, if_neg h2] at h
          rw [ih (by simpa using hl) h, show x = y by omega]
theorem lexI_trans {a b c : List Int} (h1 : a.length = b.length) (h2 : b.length = c.length) (h : lexI a b < 0) (k : lexI b c < 0) : lexI a c < 0 := by
  induction a generalizing b c with
  | nil => rw [lexI_nil_left] at h; omega
  | cons x a ih =>
    cases b with
    | nil => simp at h1
    | cons y b =>
      cases c with
      | nil => simp at h2
      | cons z c =>
        rw [lexI] at h k ⊢
        by_cases e1 : x < y
        · by_cases e2 : y < z
          · rw [if_pos (by omega)]; omega
          · by_cases e3 : z < y
            · rw [if_neg e2, if_pos e3] at k; omega
            · rw [if_pos (by omega)]; omega
        · by_cases e2 : y < x
          · rw [if_neg e1, if_pos e2] at h; omega
          · rw [if_neg e1, if_neg e2] at h
            by_cases e3 : y < z
            · rw [if_pos (by omega)]; omega
            · by_cases e4 : z < y
              · rw [if_neg e3, if_pos e4] at k; omega
              · rw [if_neg e3, if_neg e4] at k
                rw [if_neg (by omega), if_neg (by omega)]
                exact ih (by simpa using h1) (by simpa using h2) h k

theorem numsS_cons (x : SItem) (s : List SItem) : numsS (x :: s) = nums4 x ++ numsS s := by simp [numsS]
theorem numsS_length (l : List SItem) : (numsS l).length = 4 * l.length := by
  induction l with
  | nil => rfl
  | cons x l ih => rw [numsS_cons, List.length_append, ih]; simp [nums4]; omega
theorem numsS_inj {s t : List SItem} (h : numsS s = numsS t) : s = t := by
  induction s generalizing t with
  | nil =>
    cases t with
    | nil => rfl
    | cons y t => rw [numsS_cons] at h; simp [numsS, nums4] at h
  | cons x s ih =>
    cases t with
    | nil => rw [numsS_cons] at h; simp [numsS, nums4] at h
    | cons y t =>
      rw [numsS_cons, numsS_cons] at h
      obtain ⟨x1, x2, x3, x4⟩ := x
      obtain ⟨y1, y2, y3, y4⟩ := y
      simp only [nums4, List.cons_append, List.nil_append, List.cons.injEq] at h
      obtain ⟨rfl, rfl, rfl, rfl, h⟩ := h
      rw [ih h]
/-- States, held against each other. -/
def cmpS (a b : List SItem) : Int := lexI (numsL a) (numsL b)
theorem cmpS_zero {a b : List SItem} : cmpS a b = 0 ↔ a = b := by
  constructor
  · intro h
    unfold cmpS numsL at h
    rw [lexI] at h
    by_cases h1 : (a.length : Int) < (b.length : Int)
    · rw [if_pos h1] at h; cases h
    · by_cases h2 : (b.length : Int) < (a.length : Int)
      · rw [if_neg h1, if_pos h2] at h; cases h
      · rw [if_neg h1, if_neg h2] at h
        exact numsS_inj (lexI_zero (by rw [numsS_length, numsS_length]; omega) h)
  · rintro rfl; exact lexI_self _
theorem cmpS_anti (a b : List SItem) : cmpS b a = -cmpS a b := lexI_anti _ _
theorem cmpS_trans {a b c : List SItem} (h : cmpS a b < 0) (k : cmpS b c < 0) : cmpS a c < 0 := by
  unfold cmpS numsL at *
  rw [lexI] at h k ⊢
  by_cases e1 : (a.length : Int) < (b.length : Int)
  · by_cases e2 : (b.length : Int) < (c.length : Int)
    · rw [if_pos (by omega)]; omega
    · by_cases e3 : (c.length : Int) < (b.length : Int)
      · rw [if_neg e2, if_pos e3] at k; omega
      · rw [if_pos (by omega)]; omega
  · by_cases e2 : (b.length : Int) < (a.length : Int)
    · rw [if_neg e1, if_pos e2] at h; omega
    · rw [if_neg e1, if_neg e2] at h
      by_cases e3 : (b.length : Int) < (c.length : Int)
      · rw [if_pos (by omega)]; omega
      · by_cases e4 : (c.length : Int) < (b.length : Int)
        · rw [if_neg e3, if_pos e4] at k; omega
        · rw [if_neg e3, if_neg e4] at k
          rw [if_neg (by omega), if_neg (by omega)]
          exact lexI_trans (by rw [numsS_length, numsS_length]; omega) (by rw [numsS_length, numsS_length]; omega) h k
theorem cmpS_more (a : List SItem) (x : SItem) : cmpS a (a ++ [x]) = -1 := by
  unfold cmpS numsL
  rw [lexI, if_pos (by simp; omega)]
theorem cmpS_range (a b : List SItem) : cmpS a b = -1 ∨ cmpS a b = 0 ∨ cmpS a b = 1 := lexI_range _ _

/-! ### keys -/
theorem dig10 : ∀ d : Fin 10, (UInt8.ofNat (48 + d.1)).toNat = 48 + d.1 := by decide
theorem dec_ge (u : Nat) : ∀ c ∈ Lib.decDigits u, 48 ≤ c.toNat ∧ c.toNat ≤ 57 := by
  induction u using Nat.strongRecOn with
  | ind u ih =>
    intro c hc
    have hd : ∀ d, d < 10 → (UInt8.ofNat (48 + d)).toNat = 48 + d := fun d hd => dig10 ⟨d, hd⟩
    rw [Lib.decDigits] at hc
    split at hc
    · rename_i h
      rw [List.mem_singleton.1 hc, hd u h]; omega
    · rename_i h
      rcases List.mem_append.1 hc with hc | hc
      · exact ih (u / 10) (by omega) c hc
      · rw [List.mem_singleton.1 hc, hd _ (Nat.mod_lt _ (by omega))]; omega
def valD (l : List UInt8) : Nat := l.foldl (fun a c => 10 * a + (c.toNat - 48)) 0
theorem valD_dec (u : Nat) : valD (Lib.decDigits u) = u := by
  induction u using Nat.strongRecOn with
  | ind u ih =>
    have hd : ∀ d, d < 10 → (UInt8.ofNat (48 + d)).toNat = 48 + d := fun d hd => dig10 ⟨d, hd⟩
    rw [Lib.decDigits]
    split
    · rename_i h
      simp only [valD, List.foldl_cons, List.foldl_nil, hd u h]; omega
    · rename_i h
      have := ih (u / 10) (by omega)
      unfold valD at this ⊢
      rw [List.foldl_append, this]
      simp only [List.foldl_cons, List.foldl_nil, hd _ (Nat.mod_lt u (show 10 > 0 by omega))]; omega
theorem itoa_chars (n : Int) : ∀ c ∈ Lib.itoa n, c ≠ 32 := by
  intro c hc he
  subst he
  unfold Lib.itoa at hc
  split at hc
  · rcases List.mem_cons.1 hc with h | h
    · exact absurd h (by decide)
    · have := (dec_ge _ _ h).1; exact absurd this (by decide)
  · have := (dec_ge _ _ hc).1; exact absurd this (by decide)
theorem itoa_inj {n m : Int} (h : Lib.itoa n = Lib.itoa m) : n = m := by
  have no45 : ∀ u (l : List UInt8), Lib.decDigits u ≠ 45 :: l := fun u l he => by
    have := (dec_ge u 45 (by rw [he]; simp)).1
    exact absurd this (by decide)
  unfold Lib.itoa at h
  split at h <;> split at h
  · have := congrArg valD (List.cons.inj h).2
    rw [valD_dec, valD_dec] at this; omega
  · exact absurd h.symm (no45 _ _)
  · exact absurd h (no45 _ _)
  · have := congrArg valD h
    rw [valD_dec, valD_dec] at this; omega
theorem cut32 {a b : List UInt8} (ha : ∀ c ∈ a, c ≠ 32) (hb : ∀ c ∈ b, c ≠ 32) {u v : List UInt8} (h : a ++ 32 :: u = b ++ 32 :: v) : a = b ∧ u = v := by
  induction a generalizing b with
  | nil =>
    cases b with
    | nil => exact ⟨rfl, (List.cons.inj h).2⟩
    | cons y b => exact absurd (List.cons.inj h).1.symm (hb y (by simp))
  | cons x a ih =>
    cases b with
    | nil => exact absurd (List.cons.inj h).1 (ha x (by simp))
    | cons y b =>
      obtain ⟨h1, h2⟩ := List.cons.inj h
      obtain ⟨h3, h4⟩ := ih (fun c hc => ha c (by simp [hc])) (fun c hc => hb c (by simp [hc])) h2
      exact ⟨by rw [h1, h3], h4⟩
theorem keyN_cons (z : Int) (l : List Int) : keyN (z :: l) = Lib.itoa z ++ 32 :: keyN l := by simp [keyN]
theorem keyN_inj {l m : List Int} (h : keyN l = keyN m) : l = m := by
  induction l generalizing m with
  | nil =>
    cases m with
    | nil => rfl
    | cons y m => rw [keyN_cons] at h; simp [keyN] at h
  | cons z l ih =>
    cases m with
    | nil => rw [keyN_cons] at h; simp [keyN] at h
    | cons y m =>
      rw [keyN_cons, keyN_cons] at h
      obtain ⟨h1, h2⟩ := cut32 (itoa_chars z) (itoa_chars y) h
      rw [itoa_inj h1, ih h2]
theorem keyS_iff {s t : List SItem} : keyS s = keyS t ↔ s = t := ⟨fun h => numsS_inj (keyN_inj h), fun h => by rw [h]⟩
theorem keyS_beq (s t : List SItem) : (keyS s == keyS t) = decide (s = t) := by
  rw [Bool.eq_iff_iff, beq_iff_eq, keyS_iff, decide_eq_true_iff]

/-! ### lowered, formed -/
def badI (x : SItem) : Bool := x.1 == 5 && decide (x.2.2.1 ≤ 0)
def low1 (x : SItem) : SItem := if x.1 = 5 then (x.1, x.2.1, x.2.2.1 - 1, x.2.2.2) else x
def lowF (s : List SItem) : List SItem × Bool := if s.any badI = true then ([], false) else (s.map low1, true)
def formI (d : List SNode) (x : SItem) : Bool :=
  if x.1 = 5 then (x.2.1 == 0 && x.2.2.2 == 0) && (decide (0 ≤ x.2.2.1) && decide (x.2.2.1 ≤ 65535))
  else match at? d x.2.1 with
    | none => false
    | some n =>
      if x.1 = 1 then x.2.2.1 == 0 && x.2.2.2 == 0
      else if x.1 = 2 then ((n.1 == 7 && decide (0 ≤ x.2.2.1)) && decide (x.2.2.1 ≤ x.2.2.2)) && decide (x.2.2.2 ≤ n.2.2.2.2.1)
      else if x.1 = 3 then ((n.1 == 3 && x.2.2.2 == 0) && decide (0 ≤ x.2.2.1)) && decide (x.2.2.1 < (n.2.2.2.2.2.2.length : Int))
      else if x.1 = 4 then ((n.1 == 9 && x.2.2.2 == 0) && decide (0 ≤ x.2.2.1)) && decide (x.2.2.1 ≤ 255)
      else false
theorem at_none {α : Type} {xs : List α} {i : Int} (h : i < 0 ∨ (xs.length : Int) ≤ i) : at? xs i = none := by
  unfold at?
  split
  · exact List.getElem?_eq_none (by omega)
  · rfl
theorem at_in {α : Type} {xs : List α} {i : Int} (h0 : 0 ≤ i) (h1 : i < (xs.length : Int)) : ∃ x, at? xs i = some x ∧ x ∈ xs := by
  refine ⟨xs[i.toNat]'(by omega), ?_, List.getElem_mem _⟩
  unfold at?
  rw [if_pos h0]
  exact List.getElem?_eq_getElem _
end Go.Proofs.YtdfnbogkniikbaaDoor.V
