/-
  The texts that the law's proof needs, part 5.
-/
import Derived.Carry
import Derived.ChangeSame
import Derived.Deep.Slices
import Derived.Handed
import Derived.KernelRfl
import Derived.LaidHandle
import Derived.LaidLaws
import Derived.Laws.BytesArg
import Derived.Lib.LaidTab
import Derived.OpenShut
import Derived.ProofKit
import Derived.RowKit
import Derived.SizedLaws
import Derived.Stop.LaidErr
import Derived.Test.YtdidjelkkanenaaDoorRows
import Derived.WalkKit
import Derived.Test.YtdidjelkkanenaaDoorHeadsOpenP4
namespace Go.Proofs.YtdidjelkkanenaaDoor.V
open Go
set_option linter.unusedVariables false
inductive Tr (l : List SNode) : Int → Int → Prop
  | leaf {i : Int} {e : SNode} (he : at? l i = some e) (hk : e.1 = 1 ∨ e.1 = 2 ∨ e.1 = 3) (hx : e.1 = 3 → e.2.2.2.2.2.2 ≠ []) (h0 : e.2.1 = 0 ∧ e.2.2.1 = 0) : Tr l i i
  | one {f i : Int} {e : SNode} (he : at? l i = some e) (hk : e.1 = 6 ∨ e.1 = 7 ∨ e.1 = 8 ∨ e.1 = 9) (ha : e.2.1 = i - 1) (hb : e.2.2.1 = 0) (hr : e.1 = 7 → 0 ≤ e.2.2.2.1 ∧ e.2.2.2.1 ≤ e.2.2.2.2.1 ∧ e.2.2.2.2.1 ≤ 255) (h : Tr l f (i - 1)) : Tr l f i
  | two {f p i : Int} {e : SNode} (he : at? l i = some e) (hk : e.1 = 4 ∨ e.1 = 5) (ha : e.2.1 = p - 1) (hb : e.2.2.1 = i - 1) (h1 : Tr l p (i - 1)) (h2 : Tr l f (p - 1)) : Tr l f i
theorem Tr.le {l : List SNode} {f i : Int} (h : Tr l f i) : 0 ≤ f ∧ f ≤ i := by
  induction h with
  | leaf he _ _ _ => exact ⟨(at_bound he).1, Int.le_refl _⟩
  | one _ _ _ _ _ _ ih => omega
  | two _ _ _ _ _ _ i1 i2 => omega
theorem Tr.lt {l : List SNode} {f i : Int} (h : Tr l f i) : i < (l.length : Int) := by
  cases h with
  | leaf he _ _ _ => exact (at_bound he).2
  | one he _ _ _ _ _ => exact (at_bound he).2
  | two he _ _ _ _ _ => exact (at_bound he).2
theorem Tr.sub {l : List SNode} {f i : Int} (h : Tr l f i) : ∀ k, f ≤ k → k ≤ i → ∃ g, Tr l g k ∧ f ≤ g := by
  induction h with
  | leaf he hk hx h0 =>
    rename_i i e
    intro k h1 h2
    obtain rfl : k = i := by omega
    exact ⟨k, .leaf he hk hx h0, Int.le_refl _⟩
  | one he hk ha hb hr h ih =>
    rename_i f i e
    intro k h1 h2
    by_cases hki : k = i
    · subst hki; exact ⟨f, .one he hk ha hb hr h, Int.le_refl _⟩
    · exact ih k h1 (by omega)
  | two he hk ha hb h1 h2 i1 i2 =>
    rename_i f p i e
    intro k k1 k2
    have l1 := h1.le
    have l2 := h2.le
    by_cases hki : k = i
    · subst hki; exact ⟨f, .two he hk ha hb h1 h2, Int.le_refl _⟩
    · by_cases hkp : p ≤ k
      · obtain ⟨g, g1, g2⟩ := i1 k hkp (by omega)
        exact ⟨g, g1, by omega⟩
      · exact i2 k k1 (by omega)
def FirstOk (l : List SNode) (i r : Int) : Prop := r = -1 ∨ Tr l r i
theorem first_ex {l : List SNode} (hl : l.length ≤ 1000) (ht : ∀ n ∈ l, n.2.2.2.2.2.2.length ≤ 140737488351232) : ∀ (m : Nat) (i : Int), i < (m : Int) → -1 ≤ i → i < (l.length : Int) → ∃ r, ref04_First.n (m + 1) l i r ∧ FirstOk l i r := by
  intro m
  induction m with
  | zero =>
    intro i h1 h2 h3
    exact ⟨-1, ⟨fun _ => rfl, fun h => absurd (by omega) (df h)⟩, .inl rfl⟩
  | succ m ih =>
    intro i h1 h2 h3
    by_cases h0 : i < 0
    · exact ⟨-1, ⟨fun _ => rfl, fun h => absurd h0 (df h)⟩, .inl rfl⟩
    · obtain ⟨e, he, hm⟩ := at_in (xs := l) (i := i) (by omega) h3
      have i1 : InR .i64 (i - 1) := i64_of (by omega) (by omega)
      obtain ⟨p, hp, hpo⟩ := ih (i - 1) (by omega) (by omega) (by omega)
      have one : ∀ w : SNode, (e = w → w.2.1 = i - 1 ∧ (w.1 = 6 ∨ w.1 = 7 ∨ w.1 = 8 ∨ w.1 = 9) ∧ (w.1 = 7 → 0 ≤ w.2.2.2.1 ∧ w.2.2.2.1 ≤ w.2.2.2.2.1 ∧ w.2.2.2.2.1 ≤ 255) ∧ w.2.2.1 = 0) → ∃ r, ref04_First.j1 (ref04_First.n (m + 1)) l i r e w ∧ FirstOk l i r := by
        intro w hw
        by_cases hew : e = w
        · refine ⟨p, ⟨i1, p, hp, fun h => by simp [hew] at h, fun _ => rfl⟩, ?_⟩
          rcases hpo with rfl | p0
          · exact .inl rfl
          · obtain ⟨w1, w2, w3, w4⟩ := hw hew
            exact .inr (.one he (by rw [hew]; exact w2) (by rw [hew]; exact w1) (by rw [hew]; exact w4) (by rw [hew]; exact w3) p0)
        · exact ⟨-1, ⟨i1, p, hp, fun _ => rfl, fun h => by simp at h; exact absurd h hew⟩, .inl rfl⟩
      have two : (e.1 = 4 ∨ e.1 = 5) → ∃ r, ref04_First.j2 (ref04_First.n (m + 1)) l i r e true ∧ FirstOk l i r := by
        intro hk
        by_cases hp0 : p < 0
        · exact ⟨-1, ⟨fun _ => ⟨i1, i1, p, hp, fun _ => rfl, fun h => absurd hp0 (df h)⟩, (fun h => by cases h)⟩, .inl rfl⟩
        · have htr : Tr l p (i - 1) := by
            rcases hpo with rfl | h
            · omega
            · exact h
          have p1 := htr.le
          obtain ⟨q, hq, hqo⟩ := ih (p - 1) (by omega) (by omega) (by omega)
          have j1 : InR .i64 (p - 1) := i64_of (by omega) (by omega)
          by_cases hew : e = (e.1, p - 1, i - 1, 0, 0, (0#256), ([] : Str))
          · refine ⟨q, ⟨fun _ => ⟨i1, i1, p, hp, fun h => absurd (dt h) hp0, fun _ => ⟨j1, j1, q, hq, false, ?_, (fun h => by cases h), fun _ => rfl⟩⟩, (fun h => by cases h)⟩, ?_⟩
            · have : (e != (e.1, p - 1, i - 1, 0, 0, (0#256), ([] : Str))) = false := by rw [← hew]; simp
              exact this.symm
            · rcases hqo with rfl | q0
              · exact .inl rfl
              · exact .inr (.two he hk (by rw [hew]) (by rw [hew]) htr q0)
          · refine ⟨-1, ⟨fun _ => ⟨i1, i1, p, hp, fun h => absurd (dt h) hp0, fun _ => ⟨j1, j1, q, hq, true, ?_, fun _ => rfl, (fun h => by cases h)⟩⟩, (fun h => by cases h)⟩, .inl rfl⟩
            exact (bne_iff_ne.2 hew).symm
      have three : (e.1 = 6 ∨ e.1 = 7 ∨ e.1 = 8 ∨ e.1 = 9) → ∃ r, ref04_First.j3 (ref04_First.n (m + 1)) l i r e true ∧ FirstOk l i r := by
        intro hk
        by_cases h7 : e.1 = 7
        · by_cases hb : ((decide (e.2.2.2.1 < 0)) || (decide (e.2.2.2.2.1 < e.2.2.2.1)) || (decide (255 < e.2.2.2.2.1))) = true
          · exact ⟨-1, ⟨fun _ => ⟨i1, fun _ => ⟨_, rfl, fun _ => rfl, fun h => by rw [hb] at h; cases h⟩, fun h => by simp [h7] at h⟩, (fun h => by cases h)⟩, .inl rfl⟩
          · obtain ⟨r, hr1, hr2⟩ := one (e.1, i - 1, 0, e.2.2.2.1, e.2.2.2.2.1, (0#256), ([] : Str)) fun _ => ⟨rfl, hk, fun _ => by
              simp only [Bool.or_eq_true, decide_eq_true_eq, not_or] at hb
              exact ⟨by show (0 : Int) ≤ e.2.2.2.1; omega, by show e.2.2.2.1 ≤ e.2.2.2.2.1; omega, by show e.2.2.2.2.1 ≤ 255; omega⟩, rfl⟩
            exact ⟨r, ⟨fun _ => ⟨i1, fun _ => ⟨_, rfl, fun h => absurd h hb, fun _ => hr1⟩, fun h => by simp [h7] at h⟩, (fun h => by cases h)⟩, hr2⟩
        · obtain ⟨r, hr1, hr2⟩ := one (e.1, i - 1, 0, 0, 0, (0#256), ([] : Str)) fun _ => ⟨rfl, hk, fun h => absurd h h7, rfl⟩
          exact ⟨r, ⟨fun _ => ⟨i1, fun h => by simp at h; exact absurd h h7, fun _ => hr1⟩, (fun h => by cases h)⟩, hr2⟩
      have ne : ∀ {a b : Int}, a ≠ b → (a == b) = true → False := fun h k => h (eq_of_beq k)
      have last : ∀ b : Bool, (b = true ↔ e.1 = 9) → e.1 ≠ 6 → e.1 ≠ 7 → e.1 ≠ 8 → ∃ r, ref04_First.j3 (ref04_First.n (m + 1)) l i r e b ∧ FirstOk l i r := by
        intro b hb n6 n7 n8
        cases b
        · have n9 : e.1 ≠ 9 := fun h => by have := hb.2 h; cases this
          by_cases h4 : e.1 = 4
          · obtain ⟨r, hr1, hr2⟩ := two (.inl h4)
            exact ⟨r, ⟨(fun h => by cases h), fun _ => ⟨fun h => by rw [h]; exact hr1, fun h => by simp [h4] at h⟩⟩, hr2⟩
          · by_cases h5 : e.1 = 5
            · obtain ⟨r, hr1, hr2⟩ := two (.inr h5)
              have e5 : (e.1 == 5) = true := by simp [h5]
              exact ⟨r, ⟨(fun h => by cases h), fun _ => ⟨fun h => by simp at h; exact absurd h h4, fun _ => by rw [e5]; exact hr1⟩⟩, hr2⟩
            · have e5 : (e.1 == 5) = false := by simp [h5]
              exact ⟨-1, ⟨(fun h => by cases h), fun _ => ⟨fun h => by simp at h; exact absurd h h4, fun _ => by rw [e5]; exact ⟨(fun h => by cases h), fun _ => rfl⟩⟩⟩, .inl rfl⟩
        · exact three (.inr (.inr (.inr (hb.1 rfl))))
      suffices h : ∃ r, (∃ e6 : SNode, at? l i = some e6 ∧ _) ∧ FirstOk l i r by
        obtain ⟨r, hr, ho⟩ := h
        exact ⟨r, ⟨fun h => absurd (dt h) h0, fun _ => hr⟩, ho⟩
      by_cases k1 : e.1 = 1
      · by_cases hw : e = (e.1, 0, 0, 0, 0, (0#256), ([] : Str))
        · exact ⟨i, ⟨e, he, fun _ => ⟨fun h => by rw [← hw] at h; simp at h, fun _ => rfl⟩, fun h => by simp [k1] at h⟩, .inr (.leaf he (.inl k1) (fun h => by omega) ⟨by rw [hw], by rw [hw]⟩)⟩
        · exact ⟨-1, ⟨e, he, fun _ => ⟨fun _ => rfl, fun h => by simp at h; exact absurd h hw⟩, fun h => by simp [k1] at h⟩, .inl rfl⟩
      · by_cases k2 : e.1 = 2
        · by_cases hw : e = (e.1, 0, 0, 0, 0, e.2.2.2.2.2.1, ([] : Str))
          · exact ⟨i, ⟨e, he, fun h => (ne k1 h).elim, fun _ => ⟨fun _ => ⟨false, by rw [← hw]; simp, (fun h => by cases h), fun _ => rfl⟩, fun h => by simp [k2] at h⟩⟩, .inr (.leaf he (.inr (.inl k2)) (fun h => by omega) ⟨by rw [hw], by rw [hw]⟩)⟩
          · exact ⟨-1, ⟨e, he, fun h => (ne k1 h).elim, fun _ => ⟨fun _ => ⟨true, (bne_iff_ne.2 hw).symm, fun _ => rfl, (fun h => by cases h)⟩, fun h => by simp [k2] at h⟩⟩, .inl rfl⟩
        · by_cases k3 : e.1 = 3
          · obtain ⟨t, htx, htn⟩ := text_ex (ht e hm)
            cases t
            · exact ⟨-1, ⟨e, he, fun h => (ne k1 h).elim, fun _ => ⟨fun h => (ne k2 h).elim, fun _ => ⟨fun _ => ⟨false, htx, fun _ => rfl, (fun h => by cases h)⟩, fun h => by simp [k3] at h⟩⟩⟩, .inl rfl⟩
            · by_cases hw : e = (e.1, 0, 0, 0, 0, (0#256), e.2.2.2.2.2.2)
              · exact ⟨i, ⟨e, he, fun h => (ne k1 h).elim, fun _ => ⟨fun h => (ne k2 h).elim, fun _ => ⟨fun _ => ⟨true, htx, (fun h => by cases h), fun _ => ⟨false, by rw [← hw]; simp, (fun h => by cases h), fun _ => rfl⟩⟩, fun h => by simp [k3] at h⟩⟩⟩, .inr (.leaf he (.inr (.inr k3)) (fun _ => htn rfl) ⟨by rw [hw], by rw [hw]⟩)⟩
              · exact ⟨-1, ⟨e, he, fun h => (ne k1 h).elim, fun _ => ⟨fun h => (ne k2 h).elim, fun _ => ⟨fun _ => ⟨true, htx, (fun h => by cases h), fun _ => ⟨true, (bne_iff_ne.2 hw).symm, fun _ => rfl, (fun h => by cases h)⟩⟩, fun h => by simp [k3] at h⟩⟩⟩, .inl rfl⟩
          · by_cases k6 : e.1 = 6
            · obtain ⟨r, hr1, hr2⟩ := three (.inl k6)
              exact ⟨r, ⟨e, he, fun h => (ne k1 h).elim, fun _ => ⟨fun h => (ne k2 h).elim, fun _ => ⟨fun h => (ne k3 h).elim, fun _ => ⟨fun h => by rw [h]; exact hr1, fun h => by simp [k6] at h⟩⟩⟩⟩, hr2⟩
            · by_cases k7 : e.1 = 7
              · obtain ⟨r, hr1, hr2⟩ := three (.inr (.inl k7))
                exact ⟨r, ⟨e, he, fun h => (ne k1 h).elim, fun _ => ⟨fun h => (ne k2 h).elim, fun _ => ⟨fun h => (ne k3 h).elim, fun _ => ⟨fun h => (ne k6 h).elim, fun _ => ⟨fun h => by rw [h]; exact hr1, fun h => by simp [k7] at h⟩⟩⟩⟩⟩, hr2⟩
              · by_cases k8 : e.1 = 8
                · obtain ⟨r, hr1, hr2⟩ := three (.inr (.inr (.inl k8)))
                  exact ⟨r, ⟨e, he, fun h => (ne k1 h).elim, fun _ => ⟨fun h => (ne k2 h).elim, fun _ => ⟨fun h => (ne k3 h).elim, fun _ => ⟨fun h => (ne k6 h).elim, fun _ => ⟨fun h => (ne k7 h).elim, fun _ => ⟨fun h => by rw [h]; exact hr1, fun h => by simp [k8] at h⟩⟩⟩⟩⟩⟩, hr2⟩
                · obtain ⟨r, hr1, hr2⟩ := last (e.1 == 9) beq_iff_eq k6 k7 k8
                  exact ⟨r, ⟨e, he, fun h => (ne k1 h).elim, fun _ => ⟨fun h => (ne k2 h).elim, fun _ => ⟨fun h => (ne k3 h).elim, fun _ => ⟨fun h => (ne k6 h).elim, fun _ => ⟨fun h => (ne k7 h).elim, fun _ => ⟨fun h => (ne k8 h).elim, fun _ => hr1⟩⟩⟩⟩⟩⟩, hr2⟩
theorem form_ex {d : List SNode} (hl : d.length ≤ 1000) (ht : ∀ n ∈ d, n.2.2.2.2.2.2.length ≤ 140737488351232) : ∃ r, ref04_Form d r ∧ (r = true → Tr d 0 ((d.length : Int) - 1)) := by
  obtain ⟨r, hr, ho⟩ := first_ex hl ht d.length ((d.length : Int) - 1) (by omega) (by omega) (by omega)
  refine ⟨_, ⟨fun _ => i64_of (by omega) (by omega), r, fun _ => ⟨_, hr⟩, rfl⟩, fun h => ?_⟩
  simp only [Bool.and_eq_true, decide_eq_true_eq, beq_iff_eq] at h
  rcases ho with rfl | h2
  · omega
  · rw [h.2] at h2; exact h2
theorem min2 {x : Int} (h : 0 ≤ x) : 0 ≤ min 2 x ∧ min 2 x ≤ 2 := by omega
def powW (a : Nat) (t : Nat) : Nat := if t = 0 then 1 else if a = 0 then 0 else if a = 1 then 1 else 2
theorem powW_le (a t : Nat) : powW a t ≤ 2 := by
  unfold powW
  split
  · omega
  · split
    · omega
    · split <;> omega
theorem powW_step {a : Nat} (ha : a ≤ 2) (t : Nat) : min 2 (powW a t * a) = powW a (t + 1) := by
  have : a = 0 ∨ a = 1 ∨ a = 2 := by omega
  unfold powW
  by_cases ht : t = 0
  · subst ht
    rcases this with rfl | rfl | rfl <;> simp
  · rcases this with rfl | rfl | rfl <;> simp [ht]
def sumW (a lo : Nat) : Nat → Nat
  | 0 => 0
  | m + 1 => min 2 (sumW a lo m + powW a (lo + m))
theorem sumW_le (a lo m : Nat) : sumW a lo m ≤ 2 := by
  cases m with
  | zero => simp [sumW]
  | succ m => simp only [sumW]; omega
theorem sumW_zero (a lo : Nat) : ∀ m, sumW a lo m ≠ 0 ↔ ∃ t, t < m ∧ powW a (lo + t) ≠ 0
  | 0 => by simp [sumW]
  | m + 1 => by
    have ih := sumW_zero a lo m
    simp only [sumW]
    constructor
    · intro h
      by_cases h1 : sumW a lo m ≠ 0
      · obtain ⟨t, h2, h3⟩ := ih.1 h1
        exact ⟨t, by omega, h3⟩
      · exact ⟨m, by omega, by omega⟩
    · rintro ⟨t, h1, h2⟩
      by_cases htm : t = m
      · subst htm; omega
      · have := ih.2 ⟨t, by omega, h2⟩
        omega
theorem powW_zero {a t : Nat} : powW a t ≠ 0 ↔ t = 0 ∨ a ≠ 0 := by
  unfold powW
  by_cases h1 : t = 0
  · simp [h1]
  · by_cases h2 : a = 0
    · simp [h1, h2]
    · rw [if_neg h1, if_neg h2]
      split <;> simp [h1, h2]
structure NOk (d : List SNode) : Prop where
  two : ∀ (i : Int) n, at? d i = some n → (n.1 = 4 ∨ n.1 = 5) → (0 ≤ n.2.1 ∧ n.2.1 < i) ∧ (0 ≤ n.2.2.1 ∧ n.2.2.1 < i)
  one : ∀ (i : Int) n, at? d i = some n → (n.1 = 6 ∨ n.1 = 7 ∨ n.1 = 8 ∨ n.1 = 9) → 0 ≤ n.2.1 ∧ n.2.1 < i
  rep : ∀ (i : Int) n, at? d i = some n → n.1 = 7 → 0 ≤ n.2.2.2.1 ∧ n.2.2.2.1 ≤ n.2.2.2.2.1 ∧ n.2.2.2.2.1 ≤ 255
  kind : ∀ (i : Int) n, at? d i = some n → 1 ≤ n.1 ∧ n.1 ≤ 9
  ntx : ∀ (i : Int) n, at? d i = some n → n.1 = 3 → n.2.2.2.2.2.2 ≠ []
theorem Tr.node {l : List SNode} {f i : Int} (h : Tr l f i) {n : SNode} (hn : at? l i = some n) :
    ((n.1 = 4 ∨ n.1 = 5) → (0 ≤ n.2.1 ∧ n.2.1 < i) ∧ (0 ≤ n.2.2.1 ∧ n.2.2.1 < i)) ∧ ((n.1 = 6 ∨ n.1 = 7 ∨ n.1 = 8 ∨ n.1 = 9) → 0 ≤ n.2.1 ∧ n.2.1 < i) ∧ (n.1 = 7 → 0 ≤ n.2.2.2.1 ∧ n.2.2.2.1 ≤ n.2.2.2.2.1 ∧ n.2.2.2.2.1 ≤ 255) ∧ (1 ≤ n.1 ∧ n.1 ≤ 9) ∧ (n.1 = 3 → n.2.2.2.2.2.2 ≠ []) := by
  cases h with
  | leaf he hk hx h0 =>
    rw [hn] at he; cases he
    exact ⟨fun h => by omega, fun h => by omega, fun h => by omega, by omega, hx⟩
  | one he hk ha hb hr h =>
    rw [hn] at he; cases he
    have := h.le
    exact ⟨fun h => by omega, fun h => by omega, hr, by omega, fun h => by omega⟩
  | two he hk ha hb h1 h2 =>
    rw [hn] at he; cases he
    have := h1.le
    have := h2.le
    exact ⟨fun h => by omega, fun h => by omega, fun h => by omega, by omega, fun h => by omega⟩
theorem Tr.at {d : List SNode} (h : Tr d 0 ((d.length : Int) - 1)) {i : Int} {n : SNode} (hn : at? d i = some n) : ∃ g, Tr d g i := by
  have hb := at_bound hn
  obtain ⟨g, hg, _⟩ := h.sub i hb.1 (by omega)
  exact ⟨g, hg⟩
theorem Tr.nok {d : List SNode} (h : Tr d 0 ((d.length : Int) - 1)) : NOk d :=
  ⟨fun i n hn => let ⟨g, hg⟩ := h.at hn; (hg.node hn).1, fun i n hn => let ⟨g, hg⟩ := h.at hn; (hg.node hn).2.1, fun i n hn => let ⟨g, hg⟩ := h.at hn; (hg.node hn).2.2.1, fun i n hn => let ⟨g, hg⟩ := h.at hn; (hg.node hn).2.2.2.1, fun i n hn => let ⟨g, hg⟩ := h.at hn; (hg.node hn).2.2.2.2⟩
def WV (d : List SNode) : Nat → Int → Nat
  | 0, _ => 0
  | k + 1, i => match at? d i with
    | none => 0
    | some n =>
      if n.1 = 1 then 1
      else if n.1 = 4 then min 2 (WV d k n.2.1 * WV d k n.2.2.1)
      else if n.1 = 5 then min 2 (WV d k n.2.1 + WV d k n.2.2.1)
      else if n.1 = 6 then (if 0 < WV d k n.2.1 then 2 else 1)
      else if n.1 = 7 then sumW (WV d k n.2.1) n.2.2.2.1.toNat (n.2.2.2.2.1 + 1 - n.2.2.2.1).toNat
      else 0
theorem WV_le (d : List SNode) (k : Nat) (i : Int) : WV d k i ≤ 2 := by
  cases k with
  | zero => simp [WV]
  | succ k =>
    unfold WV
    cases at? d i with
    | none => simp
    | some n =>
      simp only
      split
      · omega
      · split
        · omega
        · split
          · omega
          · split
            · split <;> omega
            · split
              · exact sumW_le _ _ _
              · omega
theorem WV_fuel {d : List SNode} (hd : NOk d) : ∀ (k k' : Nat) (i : Int), i < (k : Int) → i < (k' : Int) → WV d k i = WV d k' i
  | 0, k', i, h, h' => by
    have : at? d i = none := by
      unfold at?
      rw [if_neg (by omega)]
    cases k' <;> simp [WV, this]
  | k + 1, 0, i, h, h' => by
    have : at? d i = none := by
      unfold at?
      rw [if_neg (by omega)]
    simp [WV, this]
  | k + 1, k' + 1, i, h, h' => by
    cases hn : at? d i with
    | none => simp only [WV, hn]
    | some n =>
      simp only [WV, hn]
      by_cases h4 : n.1 = 4
      · obtain ⟨⟨a, b⟩, c, e⟩ := hd.two _ n hn (.inl h4)
        rw [WV_fuel hd k k' n.2.1 (by omega) (by omega), WV_fuel hd k k' n.2.2.1 (by omega) (by omega)]
      · by_cases h5 : n.1 = 5
        · obtain ⟨⟨a, b⟩, c, e⟩ := hd.two _ n hn (.inr h5)
          rw [WV_fuel hd k k' n.2.1 (by omega) (by omega), WV_fuel hd k k' n.2.2.1 (by omega) (by omega)]
        · by_cases h6 : n.1 = 6 ∨ n.1 = 7
          · obtain ⟨a, b⟩ := hd.one _ n hn (by omega)
            rw [WV_fuel hd k k' n.2.1 (by omega) (by omega)]
            simp [h4, h5]
          · simp only [not_or] at h6
            simp [h4, h5, h6.1, h6.2]
def wv (d : List SNode) (i : Int) : Nat := WV d d.length i
theorem wv_at {d : List SNode} (hd : NOk d) {i : Int} {n : SNode} (hn : at? d i = some n) : wv d i =
    (if n.1 = 1 then 1
      else if n.1 = 4 then min 2 (wv d n.2.1 * wv d n.2.2.1)
      else if n.1 = 5 then min 2 (wv d n.2.1 + wv d n.2.2.1)
      else if n.1 = 6 then (if 0 < wv d n.2.1 then 2 else 1)
      else if n.1 = 7 then sumW (wv d n.2.1) n.2.2.2.1.toNat (n.2.2.2.2.1 + 1 - n.2.2.2.1).toNat
      else 0) := by
  obtain ⟨hb0, hb1⟩ := at_bound hn
  unfold wv
  rw [WV_fuel hd d.length (d.length + 1) i hb1 (by omega)]
  simp only [WV, hn]
theorem nz_atN {d : List SNode} (hd : NOk d) {i : Int} {n : SNode} (h : at? d i = some n) : nz d i =
    (if n.1 = 1 then true else if n.1 = 4 then nz d n.2.1 && nz d n.2.2.1 else if n.1 = 5 then nz d n.2.1 || nz d n.2.2.1 else if n.1 = 6 then true else if n.1 = 7 then decide (n.2.2.2.1 = 0) || nz d n.2.1 else false) := by
  obtain ⟨k, rfl, hk⟩ := at_nn h
  have e := nzL_at hk
  have e2 : nz d (k : Int) = nzN ((nzL d).take k) n := by unfold nz; rw [at_nat, e]; rfl
  rw [e2]
  unfold nzN
  by_cases h1 : n.1 = 1
  · simp [h1]
  · by_cases h4 : n.1 = 4
    · obtain ⟨⟨a, b⟩, c, e⟩ := hd.two _ n h (.inl h4)
      rw [if_neg h1, if_pos h4, if_neg h1, if_pos h4, at_take a b, at_take c e]; rfl
    · by_cases h5 : n.1 = 5
      · obtain ⟨⟨a, b⟩, c, e⟩ := hd.two _ n h (.inr h5)
        rw [if_neg h1, if_neg h4, if_pos h5, if_neg h1, if_neg h4, if_pos h5, at_take a b, at_take c e]; rfl
      · by_cases h6 : n.1 = 6
        · simp [h6]
        · by_cases h7 : n.1 = 7
          · obtain ⟨a, b⟩ := hd.one _ n h (.inr (.inl h7))
            rw [if_neg h1, if_neg h4, if_neg h5, if_neg h6, if_pos h7, if_neg h1, if_neg h4, if_neg h5, if_neg h6, if_pos h7, at_take a b]; rfl
          · simp [h1, h4, h5, h6, h7]
theorem wv_nz {d : List SNode} (hd : NOk d) : ∀ (k : Nat) (i : Int) (n : SNode), i < (k : Int) → at? d i = some n → (wv d i ≠ 0 ↔ nz d i = true)
  | 0, i, n, hi, hn => by have := at_bound hn; omega
  | k + 1, i, n, hi, hn => by
    have ih := wv_nz hd k
    rw [wv_at hd hn, nz_atN hd hn]
    by_cases h1 : n.1 = 1
    · simp [h1]
    · by_cases h4 : n.1 = 4
      · obtain ⟨⟨a, b⟩, c, e⟩ := hd.two _ n hn (.inl h4)
        obtain ⟨m1, hm1⟩ := at_lt hn a b
        obtain ⟨m2, hm2⟩ := at_lt hn c e
        rw [if_neg h1, if_pos h4, if_neg h1, if_pos h4, Bool.and_eq_true, ← ih _ m1 (by omega) hm1, ← ih _ m2 (by omega) hm2, ← Nat.mul_ne_zero_iff]
        omega
      · by_cases h5 : n.1 = 5
        · obtain ⟨⟨a, b⟩, c, e⟩ := hd.two _ n hn (.inr h5)
          obtain ⟨m1, hm1⟩ := at_lt hn a b
          obtain ⟨m2, hm2⟩ := at_lt hn c e
          rw [if_neg h1, if_neg h4, if_pos h5, if_neg h1, if_neg h4, if_pos h5, Bool.or_eq_true, ← ih _ m1 (by omega) hm1, ← ih _ m2 (by omega) hm2]
          omega
        · by_cases h6 : n.1 = 6
          · simp [h6]; split <;> omega
          · by_cases h7 : n.1 = 7
            · obtain ⟨a, b⟩ := hd.one _ n hn (.inr (.inl h7))
              obtain ⟨r0, r1, r2⟩ := hd.rep _ n hn h7
              obtain ⟨m1, hm1⟩ := at_lt hn a b
              rw [if_neg h1, if_neg h4, if_neg h5, if_neg h6, if_pos h7, if_neg h1, if_neg h4, if_neg h5, if_neg h6, if_pos h7, sumW_zero, Bool.or_eq_true, ← ih _ m1 (by omega) hm1, decide_eq_true_eq]
              constructor
              · rintro ⟨t, h1, h2⟩
                rcases powW_zero.1 h2 with h3 | h3
                · exact .inl (by omega)
                · exact .inr h3
              · rintro (h3 | h3)
                · exact ⟨0, by omega, powW_zero.2 (.inl (by omega))⟩
                · exact ⟨0, by omega, powW_zero.2 (.inr h3)⟩
            · simp [h1, h4, h5, h6, h7]
theorem ROk.nok {d : List SNode} (h : ROk d) : NOk d := ⟨h.two, h.one, h.rep, h.kind, h.ntx⟩
theorem ways_l3 {l : List Int} {a : Nat} (ha : a ≤ 2) {e : SNode} (h1 : at? l e.2.1 = some (a : Int)) {t : Nat} (ht : t ≤ 255) {Z : Int → Prop} (hZ : Z (powW a t : Int)) :
    ∀ (m v : Nat), v + m = t → ∃ k, ref08_Ways.l3 l e t Z k (powW a v : Int) v
  | 0, v, hv => by
    obtain rfl : v = t := by omega
    exact ⟨1, fun h => absurd (dt h) (by omega), fun _ => hZ⟩
  | m + 1, v, hv => by
    obtain ⟨k, hk⟩ := ways_l3 ha h1 ht hZ m (v + 1) (by omega)
    have e1 : (min 2 ((powW a v : Int) * (a : Int))) = (powW a (v + 1) : Int) := by
      have := Int.natCast_mul (powW a v) a
      rw [← powW_step ha v]; omega
    have hle := powW_le a v
    have hle2 : powW a v * a ≤ 4 := by
      have := Nat.mul_le_mul hle ha
      omega
    exact ⟨k + 1, fun _ => ⟨a, h1, i64_of (by omega) (by rw [← Int.natCast_mul]; omega), i64_of (by omega) (by omega), by rw [e1]; exact hk⟩, fun h => absurd (by omega) (df h)⟩
theorem ways_l2 {l : List Int} {a : Nat} (ha : a ≤ 2) {e : SNode} (h1 : at? l e.2.1 = some (a : Int)) {lo hi : Nat} (hlo : e.2.2.2.1 = lo) (hhi : e.2.2.2.2.1 = hi) (hh : hi ≤ 255) {Z : Int → Prop} (hZ : Z (sumW a lo (hi + 1 - lo) : Int)) :
    ∀ (m j : Nat), j + m = hi + 1 - lo → ∃ k, ref08_Ways.l2 l e Z k (sumW a lo j : Int) ((lo + j : Nat) : Int)
  | 0, j, hj => by
    obtain rfl : j = hi + 1 - lo := by omega
    exact ⟨1, fun h => absurd (dt h) (by omega), fun _ => hZ⟩
  | m + 1, j, hj => by
    obtain ⟨k, hk⟩ := ways_l2 ha h1 hlo hhi hh hZ m (j + 1) (by omega)
    have hs := sumW_le a lo j
    have hp := powW_le a (lo + j)
    have e1 : (min 2 ((sumW a lo j : Int) + (powW a (lo + j) : Int))) = (sumW a lo (j + 1) : Int) := by simp only [sumW]; omega
    obtain ⟨k3, hk3⟩ := ways_l3 ha h1 (t := lo + j) (by omega) (Z := ref08_Ways.j3 (ref08_Ways.l2 l e Z k) (sumW a lo j : Int) ((lo + j : Nat) : Int)) ⟨i64_of (by omega) (by omega), i64_of (by omega) (by omega), by
      rw [e1]; have : (((lo + j : Nat) : Int) + 1) = ((lo + (j + 1) : Nat) : Int) := by omega
      rw [this]; exact hk⟩ (lo + j) 0 (by omega)
    have e0 : (powW a 0 : Int) = 1 := rfl
    rw [e0] at hk3
    exact ⟨k + 1, fun _ => ⟨k3, hk3⟩, fun h => absurd (by omega) (df h)⟩
theorem ref08_Ways_in {d : List SNode} (hl : d.length ≤ 1000) (hd : NOk d) {i : Nat} (h1 : i < d.length) : ref08_Ways d (i : Int) (wv d (i : Int) : Int) := by
  have hat : ∀ (k : Nat) (a : Int), 0 ≤ a → a < (k : Int) → at? ((List.range k).map fun (j : Nat) => (wv d (j : Int) : Int)) a = some (wv d a : Int) := fun k a h0 h1 => by
    obtain ⟨j, rfl⟩ : ∃ j : Nat, a = (j : Int) := ⟨a.toNat, by omega⟩
    rw [at_nat, List.getElem?_map, List.getElem?_range (by omega)]; rfl
  have key : ∀ (m : Nat) (k : Nat), k + m = i + 1 → ∃ f, ref08_Ways.l1 d (i : Int) (ref08_Ways.j1 (i : Int) (wv d (i : Int) : Int)) f ((List.range k).map fun (j : Nat) => (wv d (j : Int) : Int)) (k : Int) := by
    intro m
    induction m with
    | zero =>
      intro k hk
      exact ⟨1, fun h => absurd (dt h) (by omega), fun _ => ⟨_, hat k _ (by omega) (by omega), rfl⟩⟩
    | succ m ih =>
      intro k hk
      obtain ⟨f, hf⟩ := ih (k + 1) (by omega)
      obtain ⟨e, he, _⟩ := at_in (xs := d) (i := (k : Int)) (by omega) (by omega)
      have hw := wv_at hd he
      have next : ∀ w : Nat, min 2 w = wv d (k : Int) → ref08_Ways.j2 (ref08_Ways.l1 d (i : Int) (ref08_Ways.j1 (i : Int) (wv d (i : Int) : Int)) f) ((List.range k).map fun (j : Nat) => (wv d (j : Int) : Int)) (k : Int) (w : Int) := fun w hw => by
        refine ⟨by simp; omega, i64_of (by omega) (by omega), ?_⟩
        have e1 : (min 2 (w : Int)) = (wv d (k : Int) : Int) := by rw [← hw]; omega
        rw [e1]
        have e2 : ((List.range k).map fun (j : Nat) => (wv d (j : Int) : Int)) ++ [(wv d (k : Int) : Int)] = (List.range (k + 1)).map fun (j : Nat) => (wv d (j : Int) : Int) := by
          rw [List.range_succ, List.map_append]; rfl
        rw [e2]; exact hf
      have ne : ∀ {a b : Int}, a ≠ b → (a == b) = true → False := fun h k => h (eq_of_beq k)
      refine ⟨f + 1, fun _ => ⟨e, he, fun h => ?_, fun k1 => ⟨fun h => ?_, fun k4 => ⟨fun h => ?_, fun k5 => ⟨fun h => ?_, fun k6 => ⟨fun h => ?_, fun k7 => ?_⟩⟩⟩⟩⟩, fun h => absurd (by omega) (df h)⟩
      · have h1 : e.1 = 1 := eq_of_beq h
        exact next 1 (by rw [hw, if_pos h1]; rfl)
      · have h1 : e.1 ≠ 1 := by simpa using k1
        have h4 : e.1 = 4 := eq_of_beq h
        rw [if_neg h1, if_pos h4] at hw
        obtain ⟨⟨a0, a1⟩, b0, b1⟩ := hd.two _ e he (.inl h4)
        have l1 := WV_le d d.length e.2.1
        have l2 := WV_le d d.length e.2.2.1
        have hm : wv d e.2.1 * wv d e.2.2.1 ≤ 4 := by have := Nat.mul_le_mul l1 l2; exact this
        refine ⟨_, hat k _ a0 a1, _, hat k _ b0 b1, i64_of (by rw [← Int.natCast_mul]; omega) (by rw [← Int.natCast_mul]; omega), ?_⟩
        rw [← Int.natCast_mul]
        exact next _ hw.symm
      · have h1 : e.1 ≠ 1 := by simpa using k1
        have h4 : e.1 ≠ 4 := by simpa using k4
        have h5 : e.1 = 5 := eq_of_beq h
        rw [if_neg h1, if_neg h4, if_pos h5] at hw
        obtain ⟨⟨a0, a1⟩, b0, b1⟩ := hd.two _ e he (.inr h5)
        have l1 := WV_le d d.length e.2.1
        have l2 := WV_le d d.length e.2.2.1
        unfold wv at *
        refine ⟨_, hat k _ a0 a1, _, hat k _ b0 b1, i64_of (by omega) (by omega), ?_⟩
        exact next (WV d d.length e.2.1 + WV d d.length e.2.2.1) hw.symm
      · have h1 : e.1 ≠ 1 := by simpa using k1
        have h4 : e.1 ≠ 4 := by simpa using k4
        have h5 : e.1 ≠ 5 := by simpa using k5
        have h6 : e.1 = 6 := eq_of_beq h
        rw [if_neg h1, if_neg h4, if_neg h5, if_pos h6] at hw
        obtain ⟨a0, a1⟩ := hd.one _ e he (.inl h6)
        refine ⟨_, hat k _ a0 a1, fun h => ?_, fun h => ?_⟩
        · exact next 2 (by rw [hw, if_pos (by have := dt h; omega)]; rfl)
        · exact next 1 (by rw [hw, if_neg (by have := df h; omega)]; rfl)
      · have h1 : e.1 ≠ 1 := by simpa using k1
        have h4 : e.1 ≠ 4 := by simpa using k4
        have h5 : e.1 ≠ 5 := by simpa using k5
        have h6 : e.1 ≠ 6 := by simpa using k6
        have h7 : e.1 = 7 := eq_of_beq h
        rw [if_neg h1, if_neg h4, if_neg h5, if_neg h6, if_pos h7] at hw
        obtain ⟨a0, a1⟩ := hd.one _ e he (.inr (.inl h7))
        obtain ⟨r0, r1, r2⟩ := hd.rep _ e he h7
        have hs := sumW_le (wv d e.2.1) e.2.2.2.1.toNat (e.2.2.2.2.1 + 1 - e.2.2.2.1).toNat
        have e1 : (e.2.2.2.2.1 + 1 - e.2.2.2.1).toNat = e.2.2.2.2.1.toNat + 1 - e.2.2.2.1.toNat := by omega
        have := ways_l2 (l := (List.range k).map fun (j : Nat) => (wv d (j : Int) : Int)) (WV_le d d.length e.2.1) (e := e) (hat k _ a0 a1) (lo := e.2.2.2.1.toNat) (hi := e.2.2.2.2.1.toNat) (by omega) (by omega) (by omega)
          (Z := ref08_Ways.j2 (ref08_Ways.l1 d (i : Int) (ref08_Ways.j1 (i : Int) (wv d (i : Int) : Int)) f) ((List.range k).map fun (j : Nat) => (wv d (j : Int) : Int)) (k : Int))
          (next _ (by rw [hw, e1]; rw [e1] at hs; exact Nat.min_eq_right hs)) (e.2.2.2.2.1.toNat + 1 - e.2.2.2.1.toNat) 0 (by omega)
        have e2 : ((e.2.2.2.1.toNat + 0 : Nat) : Int) = e.2.2.2.1 := by omega
        rw [e2] at this
        exact this
      · have h1 : e.1 ≠ 1 := by simpa using k1
        have h4 : e.1 ≠ 4 := by simpa using k4
        have h5 : e.1 ≠ 5 := by simpa using k5
        have h6 : e.1 ≠ 6 := by simpa using k6
        have h7 : e.1 ≠ 7 := by simpa using k7
        rw [if_neg h1, if_neg h4, if_neg h5, if_neg h6, if_neg h7] at hw
        exact next 0 (by rw [hw]; rfl)
  obtain ⟨f, hf⟩ := key (i + 1) 0 (by omega)
  exact ⟨f, by simpa using hf⟩
theorem first8_ok {d : List SNode} (hl : d.length ≤ 1000) (hd : NOk d) : ∃ r, ref08_First d r ∧ (r.2 = false → ∀ (i : Int) n, at? d i = some n → (n.1 = 6 ∨ n.1 = 7) → nz d n.2.1 = false) := by
  have key : ∀ (m i : Nat), i + m = d.length → (∀ (k : Int) n, k < (i : Int) → at? d k = some n → (n.1 = 6 ∨ n.1 = 7) → nz d n.2.1 = false) → ∃ q : (Int × Bool) × Nat, ref08_First.l1 d q.1 (ref08_First.j1 q.1) q.2 (i : Int) ∧ (q.1.2 = false → ∀ (i : Int) n, at? d i = some n → (n.1 = 6 ∨ n.1 = 7) → nz d n.2.1 = false) := by
    intro m
    induction m with
    | zero =>
      intro i hi hk
      exact ⟨((0, false), 1), ⟨fun h => absurd (dt h) (by omega), fun _ => rfl⟩, fun _ k n hn => hk k n (by have := at_bound hn; omega) hn⟩
    | succ m ih =>
      intro i hi hk
      obtain ⟨e, he, _⟩ := at_in (xs := d) (i := (i : Int)) (by omega) (by omega)
      have hw : ∃ w, ((((e.1 == 6) || (e.1 == 7))) = true → ref08_Ways d e.2.1 w ∧ (w = 0 → nz d e.2.1 = false)) := by
        by_cases hkk : e.1 = 6 ∨ e.1 = 7
        · obtain ⟨a0, a1⟩ := hd.one _ e he (by omega)
          obtain ⟨mm, hm⟩ := at_lt he a0 a1
          obtain ⟨j, hj⟩ : ∃ j : Nat, e.2.1 = (j : Int) := ⟨e.2.1.toNat, by omega⟩
          refine ⟨(wv d e.2.1 : Int), fun _ => ⟨?_, fun h0 => ?_⟩⟩
          · rw [hj]; exact ref08_Ways_in hl hd (by omega)
          · have := wv_nz hd (d.length) e.2.1 mm (by omega) hm
            cases hz : nz d e.2.1
            · rfl
            · have := this.2 hz
              omega
        · exact ⟨0, fun h => absurd (by simpa using h) hkk⟩
      obtain ⟨w, hw⟩ := hw
      cases hb : (((e.1 == 6) || (e.1 == 7)) && (w != 0))
      · obtain ⟨q, hq, hq2⟩ := ih (i + 1) (by omega) (fun k n hki hn hkk => by
          by_cases hk2 : k = (i : Int)
          · subst hk2
            rw [he] at hn; cases hn
            have h6 : ((e.1 == 6) || (e.1 == 7)) = true := by simpa using hkk
            rw [h6] at hb
            simp at hb
            exact (hw h6).2 hb
          · exact hk k n (by omega) hn hkk)
        exact ⟨(q.1, q.2 + 1), ⟨fun _ => ⟨e, he, e, fun _ => he, w, fun h => (hw h).1, (fun h => by rw [hb] at h; cases h), fun _ => ⟨i64_of (by omega) (by omega), by simpa using hq⟩⟩, fun h => absurd (by omega) (df h)⟩, hq2⟩
      · exact ⟨(((i : Int), true), 1), ⟨fun _ => ⟨e, he, e, fun _ => he, w, fun h => (hw h).1, fun _ => rfl, fun h => by rw [hb] at h; cases h⟩, fun h => absurd (by omega) (df h)⟩, (fun h => by cases h)⟩
  obtain ⟨q, hq, hq2⟩ := key d.length 0 (by omega) (fun k n hk hn => by have := at_bound hn; omega)
  exact ⟨q.1, ⟨q.2, hq⟩, hq2⟩
structure Rt (d : List SNode) : Prop extends ROk d where
  tr : Tr d 0 ((d.length : Int) - 1)
theorem Rt.ne {d : List SNode} (h : Rt d) : d ≠ [] := fun e => by
  have := h.tr.le
  subst e
  simp at this
theorem right_ok {d : List SNode} (hl : d.length ≤ 1000) (ht : ∀ n ∈ d, n.2.2.2.2.2.2.length ≤ 140737488351232) : ∃ r, ref08_Right d r ∧ (r = true → Rt d) := by
  obtain ⟨f, hf, ho⟩ := form_ex hl ht
  cases f
  · exact ⟨false, ⟨false, hf, fun _ => rfl, (fun h => by cases h)⟩, (fun h => by cases h)⟩
  · have hd := (ho rfl).nok
    obtain ⟨w, hw, hw2⟩ := first8_ok hl hd
    refine ⟨!w.2, ⟨true, hf, (fun h => by cases h), fun _ => ⟨w, hw, rfl⟩⟩, fun h => ?_⟩
    have := hw2 (by simpa using h)
    exact ⟨⟨hd.two, hd.one, hd.rep, hd.kind, hd.ntx, this⟩, ho rfl⟩
end Go.Proofs.YtdidjelkkanenaaDoor.V
namespace Go.Proofs.YtdidjelkkanenaaDoor.V
open Go
set_option linter.unusedVariables false
def CV (d : List SNode) : Nat → Int → List (List SItem)
  | 0, _ => []
  | k + 1, i => match at? d i with
    | none => []
    | some n =>
      if n.1 = 1 then []
      else if n.1 = 3 then [[(3, i, 0, 0)]]
      else if n.1 = 4 then (CV d k n.2.1).map (· ++ [(1, n.2.2.1, 0, 0)]) ++ CV d k n.2.2.1
      else if n.1 = 5 then CV d k n.2.1 ++ CV d k n.2.2.1
      else if n.1 = 6 then (CV d k n.2.1).map (· ++ [(1, i, 0, 0)])
      else if n.1 = 7 then (CV d k n.2.1).map (· ++ [(2, i, max (n.2.2.2.1 - 1) 0, n.2.2.2.2.1 - 1)])
      else [[(1, i, 0, 0)]]
theorem CV_len (d : List SNode) : ∀ (k : Nat) (i : Int), (CV d k i).length ≤ 2 ^ k
  | 0, i => by simp [CV]
  | k + 1, i => by
    have h2 : 2 ^ (k + 1) = 2 ^ k + 2 ^ k := by rw [Nat.pow_succ]; omega
    have hp : 0 < 2 ^ k := Nat.pow_pos (by omega)
    unfold CV
    cases at? d i with
    | none => simp
    | some n =>
      have a := CV_len d k n.2.1
      have b := CV_len d k n.2.2.1
      simp only
      by_cases h1 : n.1 = 1
      · simp [h1]
      · by_cases h3 : n.1 = 3
        · simp [h3]; omega
        · by_cases h4 : n.1 = 4
          · simp [h4]; omega
          · by_cases h5 : n.1 = 5
            · simp [h5]; omega
            · by_cases h6 : n.1 = 6
              · simp [h6]; omega
              · by_cases h7 : n.1 = 7
                · simp [h7]; omega
                · simp [h1, h3, h4, h5, h6, h7]; omega
theorem PM_CV (d : List SNode) : ∀ (k : Nat) (i : Int), ∀ p ∈ (PM d k i).1, p ∈ CV d k i
  | 0, i, p, hp => by simp [PM] at hp
  | k + 1, i, p, hp => by
    unfold PM at hp
    unfold CV
    cases hn : at? d i with
    | none => rw [hn] at hp; simp at hp
    | some n =>
      rw [hn] at hp
      have a := PM_CV d k n.2.1
      have b := PM_CV d k n.2.2.1
      simp only at hp ⊢
      by_cases h1 : n.1 = 1
      · simp [h1] at hp
      · rw [if_neg h1] at hp ⊢
        by_cases h3 : n.1 = 3
        · rw [if_pos h3] at hp ⊢; exact hp
        · rw [if_neg h3] at hp ⊢
          by_cases h4 : n.1 = 4
          · rw [if_pos h4] at hp ⊢
            rcases List.mem_append.1 hp with hp | hp
            · obtain ⟨q, hq, rfl⟩ := List.mem_map.1 hp
              exact List.mem_append.2 (.inl (List.mem_map.2 ⟨q, a q hq, rfl⟩))
            · obtain ⟨l, hl, hp⟩ := List.mem_flatten.1 hp
              rw [List.mem_replicate.1 hl |>.2] at hp
              exact List.mem_append.2 (.inr (b p hp))
          · rw [if_neg h4] at hp ⊢
            by_cases h5 : n.1 = 5
            · rw [if_pos h5] at hp ⊢
              rcases List.mem_append.1 hp with hp | hp
              · exact List.mem_append.2 (.inl (a p hp))
              · exact List.mem_append.2 (.inr (b p hp))
            · rw [if_neg h5] at hp ⊢
              by_cases h6 : n.1 = 6
              · rw [if_pos h6] at hp ⊢
                obtain ⟨q, hq, rfl⟩ := List.mem_map.1 hp
                exact List.mem_map.2 ⟨q, a q hq, rfl⟩
              · rw [if_neg h6] at hp ⊢
                by_cases h7 : n.1 = 7
                · rw [if_pos h7] at hp ⊢
                  simp only at hp
                  split at hp
                  · obtain ⟨q, hq, rfl⟩ := List.mem_map.1 hp
                    exact List.mem_map.2 ⟨q, a q hq, rfl⟩
                  · cases hp
                · rw [if_neg h7] at hp ⊢; exact hp
def CI (d : List SNode) (x : SItem) : List (List SItem) :=
  if x.1 = 1 then CV d d.length x.2.1
  else if x.1 = 2 then (match at? d x.2.1 with | some n => (CV d d.length n.2.1).map (· ++ [(2, x.2.1, max (x.2.2.1 - 1) 0, x.2.2.2 - 1)]) | none => [])
  else [[x]]
theorem CI_len (d : List SNode) (x : SItem) : (CI d x).length ≤ 2 ^ d.length := by
  have hp : 0 < 2 ^ d.length := Nat.pow_pos (by omega)
  unfold CI
  split
  · exact CV_len _ _ _
  · split
    · split
      · rw [List.length_map]; exact CV_len _ _ _
      · simp
    · simp; omega
def CS (d : List SNode) : List SItem → List (List SItem)
  | [] => [[]]
  | x :: rest => (CI d x).map (· ++ rest) ++ CS d rest
theorem CS_len (d : List SNode) : ∀ s : List SItem, (CS d s).length ≤ s.length * 2 ^ d.length + 1
  | [] => by simp [CS]
  | x :: rest => by
    have h1 := CS_len d rest
    have h2 := CI_len d x
    simp only [CS, List.length_append, List.length_map, List.length_cons, Nat.succ_mul]
    omega
theorem pmI_CI (d : List SNode) (x : SItem) : ∀ p ∈ pmI d x, p ∈ CI d x := by
  intro p hp
  unfold pmI at hp
  unfold CI
  by_cases h1 : x.1 = 1
  · rw [if_pos h1] at hp ⊢; exact PM_CV d _ _ p hp
  · rw [if_neg h1] at hp ⊢
    by_cases h2 : x.1 = 2
    · rw [if_pos h2] at hp ⊢
      cases hn : at? d x.2.1 with
      | none => rw [hn] at hp; cases hp
      | some n =>
        rw [hn] at hp
        simp only at hp ⊢
        split at hp
        · obtain ⟨q, hq, rfl⟩ := List.mem_map.1 hp
          exact List.mem_map.2 ⟨q, PM_CV d _ _ q hq, rfl⟩
        · cases hp
    · rw [if_neg h2] at hp ⊢
      split at hp
      · cases hp
      · exact hp
theorem hds_CS (d : List SNode) : ∀ (s : List SItem), ∀ t ∈ hds d s, t ∈ CS d s
  | [], t, ht => ht
  | x :: rest, t, ht => by
    rcases List.mem_append.1 ht with ht | ht
    · obtain ⟨q, hq, rfl⟩ := List.mem_map.1 ht
      exact List.mem_append.2 (.inl (List.mem_map.2 ⟨q, pmI_CI d x q hq, rfl⟩))
    · obtain ⟨l, hl, hp⟩ := List.mem_flatten.1 ht
      rw [List.mem_replicate.1 hl |>.2] at hp
      exact List.mem_append.2 (.inr (hds_CS d rest t hp))
structure BrOk (l : List SBranch) : Prop where
  many : ∀ b ∈ l, 0 ≤ b.2 ∧ b.2 ≤ 2
  len : ∀ b ∈ l, b.1.length ≤ 1000
theorem addB_split {s : List SItem} {many : Int} : ∀ (l : List SBranch) (i : Nat), (∀ b ∈ l.take i, ¬ cmpS s b.1 = 0 ∧ ¬ cmpS s b.1 < 0) → addB s many l = l.take i ++ addB s many (l.drop i)
  | l, 0, _ => rfl
  | [], i + 1, _ => by simp
  | b :: l, i + 1, h => by
    have hb := h b (by simp)
    conv => lhs; unfold addB
    rw [if_neg hb.1, if_neg hb.2, addB_split l i fun c hc => h c (by simp [hc])]
    rfl
theorem ref14_Add_in {l : List SBranch} (hs : l.Pairwise (fun a b => cmpS a.1 b.1 < 0)) (hb : BrOk l) (hl : l.length ≤ 2000000000) {s : List SItem} (hsl : s.length ≤ 1000) {many : Int} (hm : 0 ≤ many ∧ many ≤ 2) : ref14_Add l s many (addB s many l) := by
  refine uptoK (P := fun k (q : List SBranch × Bool) v => ref14_Add.l1 l s many _ k q.1 q.2 v) l.length
    (fun i q => (q.2 = false → q.1 = l.take i ∧ ∀ b ∈ l.take i, ¬ cmpS s b.1 = 0 ∧ ¬ cmpS s b.1 < 0) ∧ (q.2 = true → q.1 ++ l.drop i = addB s many l ∧ ∀ b ∈ l.drop i, cmpS s b.1 < 0)) ?_ ?_ ([], false) ⟨fun _ => ⟨by simp, by simp⟩, (fun h => by cases h)⟩
  · rintro i ⟨out, done⟩ k hi ⟨h1, h2⟩ hk
    have hol : out.length ≤ l.length + 1 := by
      cases done
      · have k1 := (h1 rfl).1
        simp only at k1
        rw [k1]; simp; omega
      · have := congrArg List.length (h2 rfl).1
        have h3 := addB_len s many l
        simp at this; omega
    have hbm : l[i] ∈ l := List.getElem_mem hi
    have hmb := hb.many _ hbm
    have hlb := hb.len _ hbm
    have hat : at? l (i : Int) = some l[i] := by rw [at_nat]; simp [hi]
    have hdr : l.drop i = l[i] :: l.drop (i + 1) := (List.getElem_cons_drop hi).symm
    have htk : l.take (i + 1) = l.take i ++ [l[i]] := List.take_succ_eq_append_getElem hi
    have hsrt : ∀ b ∈ l.drop (i + 1), cmpS l[i].1 b.1 < 0 := by
      have := hs.sublist (List.drop_sublist i l)
      rw [hdr, List.pairwise_cons] at this
      exact this.1
    refine ⟨fun _ => ⟨l[i], hat, _, ref13_Compare_in hsl hlb, fun h0 => ?_, fun h0 => ⟨fun hc => ?_, fun hc => ?_⟩⟩, fun h => absurd (by omega) (df h)⟩
    · have e0 : cmpS s l[i].1 = 0 := by simpa using h0
      refine ⟨l[i], hat, i64_of (by omega) (by omega), by simp; omega, i64_of (by omega) (by omega), hk (out ++ [(s, min 2 (l[i].2 + many))], true) ⟨(fun h => by cases h), fun _ => ?_⟩⟩
      cases done
      · obtain ⟨k1, k2⟩ := h1 rfl
        simp only at k1
        refine ⟨?_, fun b hbb => by rw [cmpS_zero.1 e0]; exact hsrt b hbb⟩
        rw [addB_split l i k2, hdr, k1]
        conv => rhs; unfold addB
        rw [if_pos e0]; simp
      · obtain ⟨k1, k2⟩ := h2 rfl
        have := k2 l[i] (hdr ▸ List.mem_cons_self)
        omega
    · simp only [Bool.and_eq_true, decide_eq_true_eq, Bool.not_eq_true'] at hc
      obtain ⟨c1, c2⟩ := hc
      subst c2
      obtain ⟨k1, k2⟩ := h1 rfl
      simp only at k1
      refine ⟨by simp; omega, l[i], hat, by simp; omega, i64_of (by omega) (by omega), hk (out ++ [(s, many)] ++ [l[i]], true) ⟨(fun h => by cases h), fun _ => ⟨?_, fun b hbb => cmpS_trans c1 (hsrt b hbb)⟩⟩⟩
      rw [addB_split l i k2, hdr, k1]
      conv => rhs; unfold addB
      rw [if_neg (by omega), if_pos c1]; simp
    · have e0 : ¬ cmpS s l[i].1 = 0 := by simpa using h0
      refine ⟨l[i], hat, by simp; omega, i64_of (by omega) (by omega), hk (out ++ [l[i]], done) ⟨fun hd => ?_, fun hd => ?_⟩⟩
      · simp only at hd
        subst hd
        obtain ⟨k1, k2⟩ := h1 rfl
        simp only at k1
        simp only [Bool.not_false, Bool.and_true, decide_eq_false_iff_not] at hc
        refine ⟨by rw [htk, k1], fun b hbb => ?_⟩
        rw [htk] at hbb
        rcases List.mem_append.1 hbb with hbb | hbb
        · exact k2 b hbb
        · rw [List.mem_singleton.1 hbb]; exact ⟨e0, hc⟩
      · simp only at hd
        subst hd
        obtain ⟨k1, k2⟩ := h2 rfl
        refine ⟨?_, fun b hbb => k2 b (hdr ▸ List.mem_cons_of_mem _ hbb)⟩
        rw [← k1, hdr]; simp
  · rintro ⟨out, done⟩ ⟨h1, h2⟩ k
    refine ⟨fun h => absurd (dt h) (by omega), fun _ => ⟨fun hd => ?_, fun hd => ?_⟩⟩
    · have hd' : done = false := by simpa using hd
      subst hd'
      obtain ⟨k1, k2⟩ := h1 rfl
      simp only at k1
      rw [List.take_length] at k1
      refine ⟨by rw [k1]; simp; omega, ?_⟩
      rw [addB_split l l.length k2, k1]
      simp [addB]
    · have hd' : done = true := by simpa using hd
      subst hd'
      obtain ⟨k1, k2⟩ := h2 rfl
      rw [← k1]; simp
theorem Can.brok {f : List SItem → Nat} {B : List SBranch} (h : Can f B) (hl : ∀ t, f t ≠ 0 → t.length ≤ 1000) : BrOk B :=
  ⟨fun b hb => by have := (h.many hb).2.2; omega, fun b hb => hl _ (h.many hb).2.1⟩
theorem into_in {d : List SNode} (hd : ROk d) (hdl : d.length ≤ 400) (hd0 : ∃ n, at? d 0 = some n) (U : List (List SItem)) (hU : U.length ≤ 1000000000) (hU1 : ∀ t ∈ U, t.length ≤ 1000) : ∀ (h : Nat) (s : List SItem) (L : List (List SItem)), lv d h s = some L → Vs d 400 s → ∀ (f : List SItem → Nat) (B : List SBranch), Can f B → (∀ t, f t ≠ 0 → t ∈ U) → (∀ t ∈ L, t ∈ U) → ∃ r, ref14_into.n h d s B r ∧ Can (fun t => f t + L.count t) r
  | 0, s, L, hL, _, _, _, _, _, _ => by simp [lv] at hL
  | h + 1, s, L, hL, hv, f, B, hB, hf, hLU => by
    have hlen := hv.len
    have hBl := can_len hB hf
    have hBo := hB.brok fun t ht => hU1 t (hf t ht)
    cases hr : rdy d s with
    | true =>
      have e : L = [s] := by
        unfold lv at hL
        rw [if_pos hr] at hL; exact (Option.some.inj hL).symm
      subst e
      refine ⟨addB s 1 B, ⟨true, hr ▸ ref14_Ready_in hv.form hd0, fun _ => ⟨s, ahead_in (by simp) (by omega), _, ref14_Add_in hB.srt hBo (by omega) (by omega) (by omega), rfl⟩, (fun h => by cases h)⟩, ?_⟩
      refine (hB.add s (n := 1) (by omega)).congr fun t => ?_
      simp only [List.count_singleton, beq_iff_eq]
      by_cases ht : t = s
      · subst ht; simp
      · simp [ht, Ne.symm ht]
    | false =>
      have hopn := hv.opn hd hr
      obtain ⟨ls, hls, hlf⟩ : ∃ ls, (opn d s).mapM (lv d h) = some ls ∧ ls.flatten = L := by
        unfold lv at hL
        rw [if_neg (by rw [hr]; simp)] at hL
        exact Option.map_eq_some_iff.1 hL
      have hlsl : ls.length = (opn d s).length := mapM_len hls
      have hol := opn_len (d := d) s
      have key : ∀ (m i : Nat) (B' : List SBranch), i + m = (opn d s).length → Can (fun t => f t + (ls.take i).flatten.count t) B' → ∃ (r : List SBranch) (k : Nat), ref14_into.l1 (ref14_into.n h) d (opn d s) (ref14_into.j1 r) k B' (i : Int) ∧ Can (fun t => f t + L.count t) r := by
        intro m
        induction m with
        | zero =>
          intro i B' hi hB'
          refine ⟨B', 1, ⟨fun h => absurd (dt h) (by omega), fun _ => rfl⟩, ?_⟩
          rw [List.take_of_length_le (by omega), hlf] at hB'
          exact hB'
        | succ m ih =>
          intro i B' hi hB'
          have hil : i < (opn d s).length := by omega
          obtain ⟨li, h1, h2⟩ := mapM_at hls hil
          have hsub : ∀ t ∈ li, t ∈ L := fun t ht => by
            rw [← hlf]; exact List.mem_flatten.2 ⟨li, List.mem_of_getElem? h2, ht⟩
          have hsub2 : ∀ t, (ls.take i).flatten.count t ≠ 0 → t ∈ U := fun t ht => by
            have hp : t ∈ (ls.take i).flatten := List.count_pos_iff.1 (by omega)
            obtain ⟨l, hl, ht⟩ := List.mem_flatten.1 hp
            exact hLU t (by rw [← hlf]; exact List.mem_flatten.2 ⟨l, List.mem_of_mem_take hl, ht⟩)
          obtain ⟨r1, hr1, hr2⟩ := into_in hd hdl hd0 U hU hU1 h _ li h1 (hopn _ (List.getElem_mem hil)) _ B' hB' (fun t ht => by
            by_cases h0 : f t = 0
            · exact hsub2 t (by omega)
            · exact hf t h0) (fun t ht => hLU t (hsub t ht))
          obtain ⟨r, k, hk1, hk2⟩ := ih (i + 1) r1 (by omega) (hr2.congr fun t => by rw [take_flat h2, List.count_append, Nat.add_assoc])
          exact ⟨r, k + 1, ⟨fun _ => ⟨_, by rw [at_nat]; simp [hil], r1, hr1, i64_of (by omega) (by omega), by simpa using hk1⟩, fun h => absurd (by omega) (df h)⟩, hk2⟩
      obtain ⟨r, k, hk1, hk2⟩ := key (opn d s).length 0 B (by omega) (hB.congr fun t => by simp)
      exact ⟨r, ⟨false, hr ▸ ref14_Ready_in hv.form hd0, (fun h => by cases h), fun _ => ⟨_, ref14_Open_in hd hv.form hr (by omega) hd0, k, hk1⟩⟩, hk2⟩
theorem nodup_dups {α : Type} [BEq α] [LawfulBEq α] : ∀ (n : Nat) (l : List α), l.length ≤ n → l.eraseDups.Nodup
  | _, [], _ => by simp
  | 0, x :: l, h => by simp at h
  | n + 1, x :: l, h => by
    rw [List.eraseDups_cons, List.nodup_cons]
    refine ⟨fun hx => ?_, nodup_dups n _ (Nat.le_trans (List.length_filter_le _ _) (by simpa using h))⟩
    have := List.mem_eraseDups.1 hx
    simp at this
structure Sm (d : List SNode) (s : List SItem) : Prop where
  rt : Rt d
  len : d.length ≤ 24
  txt : ∀ n ∈ d, n.2.2.2.2.2.2.length ≤ 140737488351232
  form : formS d s = true
  slen : s.length ≤ 40
theorem Sm.dok {d : List SNode} {s : List SItem} (h : Sm d s) : DOk d := ⟨by have := h.len; omega, fun n hn => by have := h.txt n hn; omega⟩
theorem Sm.ne {d : List SNode} {s : List SItem} (h : Sm d s) : ∃ n, at? d 0 = some n := by
  have := h.rt.ne
  cases d with
  | nil => exact absurd rfl this
  | cons n d => exact ⟨n, rfl⟩
theorem Sm.vs {d : List SNode} {s : List SItem} (h : Sm d s) : Vs d 400 s := Vs.start h.form (by have := h.slen; omega)
theorem heads_both {d : List SNode} {s : List SItem} (h : Sm d s) : ∃ B, heads_Heads d s B ∧ ref14_Heads d s B ∧ Can (fun t => (hds d s).count t) B := by
  have hd := h.rt.toROk
  obtain ⟨L, ⟨k, hk⟩, hp⟩ := hds_lv hd s h.form
  have hU : (CS d s).length ≤ 1000000000 := by
    have h1 := CS_len d s
    have h2 : 2 ^ d.length ≤ 2 ^ 24 := Nat.pow_le_pow_right (by omega) h.len
    have h3 := h.slen
    have h4 : s.length * 2 ^ d.length ≤ 40 * 2 ^ 24 := Nat.mul_le_mul h3 h2
    omega
  have hLU : ∀ t ∈ L, t ∈ CS d s := fun t ht => hds_CS d s t (hp.mem_iff.1 ht)
  have hvs := lv_vs hd k s L hk h.vs
  have hLU2 : ∀ t ∈ L, t ∈ L.eraseDups := fun t ht => List.mem_eraseDups.2 ht
  have hUl : L.eraseDups.length ≤ 1000000000 := Nat.le_trans (len_sub (nodup_dups _ L (Nat.le_refl _)) fun t ht => hLU t (List.mem_eraseDups.1 ht)) hU
  have hU1 : ∀ t ∈ L.eraseDups, t.length ≤ 1000 := fun t ht => by
    have := (hvs t (List.mem_eraseDups.1 ht)).1.len
    have := h.len
    omega
  obtain ⟨B, hB1, hB2⟩ := into_in hd (by have := h.len; omega) h.ne L.eraseDups hUl hU1 k s L hk h.vs (fun _ => 0) [] Can.nil (fun t ht => absurd rfl ht) hLU2
  have hB3 : Can (fun t => L.count t) B := hB2.congr fun t => by simp
  have hBl := can_len hB3 (U := L.eraseDups) fun t ht => hLU2 t (List.count_pos_iff.1 (by omega))
  exact ⟨B, ⟨hd, h.dok, by have := h.len; omega, h.rt.ne, h.form, by have := h.slen; omega, by omega, k, L, hk, hB3⟩, ⟨B, ⟨k, hB1⟩, rfl⟩, hB3.congr fun t => by rw [hp.count_eq]⟩
theorem ref14_Same_in {a b : List SBranch} (ha : ∀ x ∈ a, x.1.length ≤ 1000) (hb : ∀ x ∈ b, x.1.length ≤ 1000) (hl : a.length ≤ 2000000000) : ref14_Same a b (decide (a = b)) := by
  by_cases hne : a.length = b.length
  · refine ⟨fun h => absurd h (by simp [hne]), fun _ => ?_⟩
    refine upto (P := fun k (_ : Unit) v => ref14_Same.l1 a b (decide (a = b)) _ k v) a.length (fun i _ => a.take i = b.take i) ?_ ?_ () (by simp)
    · intro i _ hi ht
      have hib : i < b.length := by omega
      have ea : at? a (i : Int) = some a[i] := by rw [at_nat]; simp [hi]
      have eb : at? b (i : Int) = some b[i] := by rw [at_nat]; simp [hib]
      have hs := ref13_Same_in (ha _ (List.getElem_mem hi)) (hb _ (List.getElem_mem hib))
      by_cases hab : a[i] = b[i]
      · refine .inr ⟨(), by rw [List.take_succ_eq_append_getElem hi, List.take_succ_eq_append_getElem hib, ht, hab], fun k hk => ⟨fun _ => ⟨_, ea, _, eb, _, fun _ => ea, _, fun _ => eb, _, fun _ => hs, fun h => ?_, fun _ => ⟨i64_of (by omega) (by omega), hk⟩⟩, fun h => absurd (by omega) (df h)⟩⟩
        rw [hab] at h; simp at h
      · refine .inl fun k => ⟨fun _ => ⟨_, ea, _, eb, _, fun _ => ea, _, fun _ => eb, _, fun _ => hs, fun _ => ?_, fun h => ?_⟩, fun h => absurd (by omega) (df h)⟩
        · simp only [decide_eq_false_iff_not]
          intro e
          subst e; exact hab rfl
        · exfalso
          simp only [Bool.or_eq_false_iff, bne_eq_false_iff_eq, Bool.not_eq_false', decide_eq_true_eq] at h
          exact hab (Prod.ext h.2 h.1)
    · intro _ ht k
      refine ⟨fun h => absurd (dt h) (by omega), fun _ => ?_⟩
      show decide (a = b) = true
      rw [List.take_length, hne, List.take_length] at ht
      simp [ht]
  · refine ⟨fun _ => ?_, fun h => absurd (Int.ofNat.inj (by simpa using h)) hne⟩
    simp only [decide_eq_false_iff_not]
    intro e
    subst e; exact hne rfl
end Go.Proofs.YtdidjelkkanenaaDoor.V
namespace Go.Proofs.YtdidjelkkanenaaDoor.V
open Go
set_option linter.unusedVariables false
def movN (c : Int) (n : SNode) : SNode := (n.1, if 4 ≤ n.1 then n.2.1 + c else n.2.1, if n.1 = 4 ∨ n.1 = 5 then n.2.2.1 + c else n.2.2.1, n.2.2.2.1, n.2.2.2.2.1, n.2.2.2.2.2.1, n.2.2.2.2.2.2)
def movL (c : Int) (l : List SNode) : List SNode := l.map (movN c)
theorem movL_len (c : Int) (l : List SNode) : (movL c l).length = l.length := List.length_map ..
theorem moved_in {l : List SNode} {c : Int} (hl : l.length ≤ 1000) (hr : ∀ n ∈ l, InR .i64 (n.2.1 + c) ∧ InR .i64 (n.2.2.1 + c)) : ref04_moved l c (movL c l) := by
  refine upto (P := fun k (o : List SNode) v => ref04_moved.l1 l c _ k o v) l.length (fun i o => o = movL c (l.take i)) ?_ ?_ [] (by simp [movL])
  · rintro i o hi rfl
    have hat : at? l (i : Int) = some l[i] := by rw [at_nat]; simp [hi]
    obtain ⟨r1, r2⟩ := hr _ (List.getElem_mem hi)
    have e : movL c (l.take (i + 1)) = movL c (l.take i) ++ [movN c l[i]] := by
      unfold movL
      rw [List.take_succ_eq_append_getElem hi, List.map_append]; rfl
    have hll : (movL c (l.take i)).length = i := by rw [movL_len]; simp; omega
    refine .inr ⟨_, rfl, fun k hk => ⟨fun _ => ⟨l[i], hat, ?_⟩, fun h => absurd (by omega) (df h)⟩⟩
    rw [e] at hk
    have last : ∀ w : SNode, w = movN c l[i] → ref04_moved.j2 (ref04_moved.l1 l c (ref04_moved.j1 (movL c l)) k) (movL c (l.take i)) (i : Int) w := by
      rintro w rfl
      exact ⟨by rw [hll]; simp; omega, i64_of (by omega) (by omega), hk⟩
    generalize l[i] = n at *
    obtain ⟨k0, a, b, lo, hi2, cl, tx⟩ := n
    simp only at r1 r2
    refine ⟨fun h4 => ⟨r1, fun h5 => ⟨r2, last _ ?_⟩, fun h5 => last _ ?_⟩, fun h4 => ⟨fun h5 => ?_, fun h5 => last _ ?_⟩⟩
    · have := dt h4
      simp only at this
      simp only [Bool.or_eq_true, beq_iff_eq] at h5
      simp only [movN, if_pos this, if_pos h5]
    · have := dt h4
      simp only at this
      simp only [Bool.or_eq_false_iff, beq_eq_false_iff_ne] at h5
      have h5' : ¬ (k0 = 4 ∨ k0 = 5) := by omega
      simp only [movN, if_pos this, if_neg h5']
    · exfalso
      have := df h4
      simp only at this
      simp only [Bool.or_eq_true, beq_iff_eq] at h5
      omega
    · have := df h4
      simp only at this
      have h5' : ¬ (k0 = 4 ∨ k0 = 5) := by omega
      simp only [movN, if_neg this, if_neg h5']
  · rintro o rfl k
    refine ⟨fun h => absurd (dt h) (by omega), fun _ => ?_⟩
    show movL c l = movL c (l.take l.length)
    rw [List.take_length]
theorem movN_zero (n : SNode) : movN 0 n = n := by
  obtain ⟨k, a, b, r⟩ := n
  simp [movN]
theorem movL_zero (l : List SNode) : movL 0 l = l := by
  unfold movL
  rw [show movN 0 = id from funext movN_zero, List.map_id]
def pairD (k : Int) (a b : List SNode) : List SNode := (a ++ movL (a.length : Int) b) ++ [(k, (a.length : Int) - 1, ((a.length : Int) + (b.length : Int)) - 1, 0, 0, (0#256), ([] : Str))]
def wrapD (k : Int) (a : List SNode) : List SNode := a ++ [(k, (a.length : Int) - 1, 0, 0, 0, (0#256), ([] : Str))]
structure Sma (d : List SNode) : Prop where
  a : ∀ n ∈ d, 0 ≤ n.2.1 ∧ n.2.1 ≤ (d.length : Int)
  b : ∀ n ∈ d, 0 ≤ n.2.2.1 ∧ n.2.2.1 ≤ (d.length : Int)
theorem Tr.parts {l : List SNode} {f i : Int} (h : Tr l f i) {n : SNode} (hn : at? l i = some n) : (0 ≤ n.2.1 ∧ n.2.1 ≤ i) ∧ (0 ≤ n.2.2.1 ∧ n.2.2.1 ≤ i) := by
  have hb := at_bound hn
  cases h with
  | leaf he hk hx h0 => rw [hn] at he; cases he; omega
  | one he hk ha hb hr h => rw [hn] at he; cases he; have := h.le; omega
  | two he hk ha hb h1 h2 => rw [hn] at he; cases he; have := h1.le; have := h2.le; omega
theorem mem_at {α : Type} {l : List α} {x : α} (h : x ∈ l) : ∃ i : Int, at? l i = some x := by
  obtain ⟨i, hi, e⟩ := List.mem_iff_getElem.1 h
  exact ⟨(i : Int), by rw [at_nat]; simp [hi, e]⟩
theorem Tr.sma {d : List SNode} (h : Tr d 0 ((d.length : Int) - 1)) : Sma d := by
  constructor
  all_goals
    intro n hn
    obtain ⟨i, hi⟩ := mem_at hn
    obtain ⟨g, hg⟩ := h.at hi
    have := hg.parts hi
    have := at_bound hi
    omega
theorem moved_ok {d : List SNode} (h : Tr d 0 ((d.length : Int) - 1)) (hl : d.length ≤ 1000) {c : Int} (h0 : 0 ≤ c) (h1 : c ≤ 1000) : ref04_moved d c (movL c d) :=
  moved_in hl fun n hn => by
    have := h.sma.a n hn
    have := h.sma.b n hn
    exact ⟨i64_of (by omega) (by omega), i64_of (by omega) (by omega)⟩
theorem Pair_in {k : Int} {a b : List SNode} (ha : Tr a 0 ((a.length : Int) - 1)) (hb : Tr b 0 ((b.length : Int) - 1)) (la : a.length ≤ 1000) (lb : b.length ≤ 1000) : ref04_Pair k a b (pairD k a b) := by
  refine ⟨_, moved_ok ha la (Int.le_refl 0) (by omega), _, moved_ok hb lb (c := (a.length : Int)) (by omega) (by omega), by rw [movL_len, movL_len]; omega, i64_of (by omega) (by omega), i64_of (by omega) (by omega), i64_of (by omega) (by omega), by rw [List.length_append, movL_len, movL_len]; simp; omega, ?_⟩
  rw [movL_zero]; rfl
theorem Wrap_in {k : Int} {a : List SNode} (ha : Tr a 0 ((a.length : Int) - 1)) (la : a.length ≤ 1000) : ref04_Wrap k 0 0 a (wrapD k a) := by
  refine ⟨_, moved_ok ha la (Int.le_refl 0) (by omega), i64_of (by omega) (by omega), by rw [movL_len]; simp; omega, ?_⟩
  rw [movL_zero]; rfl
structure Emb (l l' : List SNode) (c : Int) : Prop where
  nn : 0 ≤ c
  at' : ∀ i n, at? l i = some n → at? l' (i + c) = some (movN c n)
theorem Tr.emb {l l' : List SNode} {c : Int} (h : Emb l l' c) {f i : Int} (t : Tr l f i) : Tr l' (f + c) (i + c) := by
  induction t with
  | leaf he hk hx h0 =>
    rename_i i e
    have e1 : movN c e = e := by
      obtain ⟨k, a, b, r⟩ := e
      simp only at hk
      simp only [movN, if_neg (show ¬ 4 ≤ k by omega), if_neg (show ¬ (k = 4 ∨ k = 5) by omega)]
    exact .leaf (e1 ▸ h.at' _ _ he) hk hx h0
  | one he hk ha hb hr t ih =>
    rename_i f i e
    refine .one (h.at' _ _ he) hk ?_ ?_ hr (by have e : i - 1 + c = i + c - 1 := by omega
                                               rw [← e]; exact ih)
    · simp only [movN]; rw [if_pos (by omega)]; omega
    · simp only [movN]; rw [if_neg (by omega)]; exact hb
  | two he hk ha hb t1 t2 i1 i2 =>
    rename_i f p i e
    refine .two (p := p + c) (h.at' _ _ he) hk ?_ ?_ (by have e : i - 1 + c = i + c - 1 := by omega
                                                         rw [← e]; exact i1) (by have e : p - 1 + c = p + c - 1 := by omega
                                                                                 rw [← e]; exact i2)
    · simp only [movN]; rw [if_pos (by omega)]; omega
    · simp only [movN]; rw [if_pos (by omega)]; omega
theorem Emb.get {l l' : List SNode} {c : Int} (h : Emb l l' c) {i : Int} {n : SNode} (hn : at? l i = some n) : ∃ m, at? l' (i + c) = some m ∧ m.1 = n.1 ∧ (4 ≤ n.1 → m.2.1 = n.2.1 + c) ∧ (n.1 = 4 ∨ n.1 = 5 → m.2.2.1 = n.2.2.1 + c) ∧ m.2.2.2.1 = n.2.2.2.1 ∧ m.2.2.2.2.1 = n.2.2.2.2.1 :=
  ⟨movN c n, h.at' _ _ hn, rfl, fun h => if_pos h, fun h => if_pos h, rfl, rfl⟩
theorem nz_emb {l l' : List SNode} {c : Int} (h : Emb l l' c) (hl : NOk l) (hl' : NOk l') : ∀ (k : Nat) (i : Int) (n : SNode), i < (k : Int) → at? l i = some n → nz l' (i + c) = nz l i
  | 0, i, n, hi, hn => by have := at_bound hn; omega
  | k + 1, i, n, hi, hn => by
    have ih := nz_emb h hl hl' k
    obtain ⟨m, hm, f1, f2, f3, f4, f5⟩ := h.get hn
    rw [nz_atN hl hn, nz_atN hl' hm, f1, f4]
    by_cases h1 : n.1 = 1
    · rw [if_pos h1, if_pos h1]
    · rw [if_neg h1, if_neg h1]
      by_cases h4 : n.1 = 4
      · obtain ⟨⟨a, b⟩, c', e⟩ := hl.two _ n hn (.inl h4)
        obtain ⟨m1, hm1⟩ := at_lt hn a b
        obtain ⟨m2, hm2⟩ := at_lt hn c' e
        rw [if_pos h4, if_pos h4, f2 (by omega), f3 (.inl h4), ih _ m1 (by omega) hm1, ih _ m2 (by omega) hm2]
      · rw [if_neg h4, if_neg h4]
        by_cases h5 : n.1 = 5
        · obtain ⟨⟨a, b⟩, c', e⟩ := hl.two _ n hn (.inr h5)
          obtain ⟨m1, hm1⟩ := at_lt hn a b
          obtain ⟨m2, hm2⟩ := at_lt hn c' e
          rw [if_pos h5, if_pos h5, f2 (by omega), f3 (.inr h5), ih _ m1 (by omega) hm1, ih _ m2 (by omega) hm2]
        · rw [if_neg h5, if_neg h5]
          by_cases h6 : n.1 = 6
          · rw [if_pos h6, if_pos h6]
          · rw [if_neg h6, if_neg h6]
            by_cases h7 : n.1 = 7
            · obtain ⟨a, b⟩ := hl.one _ n hn (.inr (.inl h7))
              obtain ⟨m1, hm1⟩ := at_lt hn a b
              rw [if_pos h7, if_pos h7, f2 (by omega), ih _ m1 (by omega) hm1]
            · rw [if_neg h7, if_neg h7]
theorem at_left {α : Type} {a b : List α} {i : Int} {x : α} (h : at? a i = some x) : at? (a ++ b) i = some x := by
  obtain ⟨k, rfl, hk⟩ := at_nn h
  rw [at_nat, List.getElem?_append_left (List.getElem?_eq_some_iff.1 hk).1]; exact hk
theorem at_right {α : Type} {a b : List α} {i : Int} {x : α} (h : at? b i = some x) : at? (a ++ b) (i + (a.length : Int)) = some x := by
  obtain ⟨k, rfl, hk⟩ := at_nn h
  have e : (k : Int) + (a.length : Int) = ((k + a.length : Nat) : Int) := by omega
  rw [e, at_nat, List.getElem?_append_right (by omega), Nat.add_sub_cancel]; exact hk
theorem at_app {α : Type} {a b : List α} {i : Int} {x : α} (h : at? (a ++ b) i = some x) : at? a i = some x ∨ at? b (i - (a.length : Int)) = some x := by
  obtain ⟨k, rfl, hk⟩ := at_nn h
  rcases Nat.lt_or_ge k a.length with hlt | hge
  · rw [List.getElem?_append_left hlt] at hk
    exact .inl (by rw [at_nat]; exact hk)
  · rw [List.getElem?_append_right hge] at hk
    have e : (k : Int) - (a.length : Int) = ((k - a.length : Nat) : Int) := by omega
    exact .inr (by rw [e, at_nat]; exact hk)
theorem at_one {α : Type} {x y : α} {i : Int} (h : at? [x] i = some y) : i = 0 ∧ y = x := by
  have hb := at_bound h
  simp at hb
  obtain rfl : i = 0 := by omega
  cases h
  exact ⟨rfl, rfl⟩
theorem at_movL {c : Int} {l : List SNode} {i : Int} {n : SNode} (h : at? l i = some n) : at? (movL c l) i = some (movN c n) := by
  obtain ⟨k, rfl, hk⟩ := at_nn h
  rw [at_nat]
  unfold movL
  rw [List.getElem?_map, hk]; rfl
theorem at_movL_inv {c : Int} {l : List SNode} {i : Int} {n : SNode} (h : at? (movL c l) i = some n) : ∃ m, at? l i = some m ∧ n = movN c m := by
  obtain ⟨k, rfl, hk⟩ := at_nn h
  unfold movL at hk
  rw [List.getElem?_map] at hk
  obtain ⟨m, h1, h2⟩ := Option.map_eq_some_iff.1 hk
  exact ⟨m, by rw [at_nat]; exact h1, h2.symm⟩
theorem emb_left {a : List SNode} (r : List SNode) : Emb a (a ++ r) 0 := ⟨Int.le_refl _, fun i n h => by rw [movN_zero, Int.add_zero]; exact at_left h⟩
theorem emb_mid {a b r : List SNode} : Emb b ((a ++ movL (a.length : Int) b) ++ r) (a.length : Int) := ⟨by omega, fun i n h => at_left (at_right (at_movL h))⟩
theorem pair_len (k : Int) (a b : List SNode) : (pairD k a b).length = a.length + b.length + 1 := by simp [pairD, movL_len]; omega
theorem wrap_len (k : Int) (a : List SNode) : (wrapD k a).length = a.length + 1 := by simp [wrapD]
theorem pair_root (k : Int) (a b : List SNode) : at? (pairD k a b) ((a.length : Int) + (b.length : Int)) = some (k, (a.length : Int) - 1, ((a.length : Int) + (b.length : Int)) - 1, 0, 0, (0#256), ([] : Str)) := by
  have := at_right (a := a ++ movL (a.length : Int) b) (b := [(k, (a.length : Int) - 1, ((a.length : Int) + (b.length : Int)) - 1, 0, 0, (0#256), ([] : Str))]) (i := 0) rfl
  rw [List.length_append, movL_len] at this
  have e : (0 : Int) + ((a.length + b.length : Nat) : Int) = (a.length : Int) + (b.length : Int) := by omega
  rw [e] at this
  exact this
theorem wrap_root (k : Int) (a : List SNode) : at? (wrapD k a) (a.length : Int) = some (k, (a.length : Int) - 1, 0, 0, 0, (0#256), ([] : Str)) := by
  have := at_right (a := a) (b := [(k, (a.length : Int) - 1, 0, 0, 0, (0#256), ([] : Str))]) (i := 0) rfl
  rw [Int.zero_add] at this
  exact this
theorem pair_rt {k : Int} {a b : List SNode} (ha : Rt a) (hb : Rt b) (hk : k = 4 ∨ k = 5) : Rt (pairD k a b) := by
  have ea : Emb a (pairD k a b) 0 := by unfold pairD; rw [List.append_assoc]; exact emb_left _
  have eb : Emb b (pairD k a b) (a.length : Int) := emb_mid
  have ta := ha.tr.emb ea
  have tb := hb.tr.emb eb
  have tr : Tr (pairD k a b) 0 (((pairD k a b).length : Int) - 1) := by
    have e : (((pairD k a b).length : Int) - 1) = (a.length : Int) + (b.length : Int) := by rw [pair_len]; omega
    rw [e]
    refine .two (p := (a.length : Int)) (pair_root k a b) hk rfl rfl ?_ ?_
    · have e1 : (b.length : Int) - 1 + (a.length : Int) = (a.length : Int) + (b.length : Int) - 1 := by omega
      rw [e1, Int.zero_add] at tb; exact tb
    · rw [Int.add_zero, Int.add_zero] at ta; exact ta
  have nk := tr.nok
  refine ⟨⟨nk.two, nk.one, nk.rep, nk.kind, nk.ntx, fun i n hn h67 => ?_⟩, tr⟩
  unfold pairD at hn
  rcases at_app hn with hn | hn
  · rcases at_app hn with hn | hn
    · obtain ⟨p, q⟩ := ha.one _ n hn (by omega)
      obtain ⟨m, hm⟩ := at_lt hn p q
      have := nz_emb ea ha.nok nk a.length _ m (by have := at_bound hm; omega) hm
      rw [Int.add_zero] at this
      rw [this]
      exact ha.nn _ n hn h67
    · obtain ⟨m0, hm0, rfl⟩ := at_movL_inv hn
      have hk0 : m0.1 = 6 ∨ m0.1 = 7 := h67
      obtain ⟨p, q⟩ := hb.one _ m0 hm0 (by omega)
      obtain ⟨m, hm⟩ := at_lt hm0 p q
      have := nz_emb eb hb.nok nk b.length _ m (by have := at_bound hm; omega) hm
      simp only [movN]
      rw [if_pos (by omega), this]
      exact hb.nn _ m0 hm0 hk0
  · obtain ⟨_, rfl⟩ := at_one hn
    simp only at h67; omega
theorem wrap_rt {k : Int} {a : List SNode} (ha : Rt a) (hk : k = 6 ∨ k = 8 ∨ k = 9) (hz : k = 6 → nz a ((a.length : Int) - 1) = false) : Rt (wrapD k a) := by
  have ea : Emb a (wrapD k a) 0 := emb_left _
  have ta := ha.tr.emb ea
  have tr : Tr (wrapD k a) 0 (((wrapD k a).length : Int) - 1) := by
    have e : (((wrapD k a).length : Int) - 1) = (a.length : Int) := by rw [wrap_len]; omega
    rw [e]
    refine .one (wrap_root k a) (by simp only; omega) rfl rfl (fun h => by simp only at h; omega) ?_
    rw [Int.add_zero, Int.add_zero] at ta; exact ta
  have nk := tr.nok
  have hr := ha.tr.le
  refine ⟨⟨nk.two, nk.one, nk.rep, nk.kind, nk.ntx, fun i n hn h67 => ?_⟩, tr⟩
  unfold wrapD at hn
  have go : ∀ (A : Int) m, at? a A = some m → nz a A = false → nz (wrapD k a) A = false := fun A m hm hz => by
    have := nz_emb ea ha.nok nk a.length _ m (by have := at_bound hm; omega) hm
    rw [Int.add_zero] at this
    rw [this]; exact hz
  rcases at_app hn with hn | hn
  · obtain ⟨p, q⟩ := ha.one _ n hn (by omega)
    obtain ⟨m, hm⟩ := at_lt hn p q
    exact go _ m hm (ha.nn _ n hn h67)
  · obtain ⟨_, rfl⟩ := at_one hn
    simp only at h67 ⊢
    obtain ⟨m, hm, _⟩ := at_in (xs := a) (i := (a.length : Int) - 1) hr.2 (by omega)
    exact go _ m hm (hz (by omega))
theorem leaf_rt {n : SNode} (hk : n.1 = 1 ∨ n.1 = 2) (h0 : n.2.1 = 0 ∧ n.2.2.1 = 0) : Rt [n] := by
  have tr : Tr [n] 0 ((([n] : List SNode).length : Int) - 1) := .leaf (e := n) rfl (by omega) (fun h => by omega) h0
  have nk := tr.nok
  refine ⟨⟨nk.two, nk.one, nk.rep, nk.kind, nk.ntx, fun i m hm h67 => ?_⟩, tr⟩
  obtain ⟨_, rfl⟩ := at_one hm
  omega
end Go.Proofs.YtdidjelkkanenaaDoor.V
namespace Go.Proofs.YtdidjelkkanenaaDoor.V
open Go
set_option linter.unusedVariables false
abbrev Txt (d : List SNode) : Prop := ∀ n ∈ d, n.2.2.2.2.2.2.length ≤ 140737488351232
theorem guard14 {d : List SNode} (ht : Txt d) : ∃ r6 r8 : Bool, ref04_Few d r6 ∧ (r6 = true → d.length ≤ 100) ∧ (r6 = true → ref08_Right d r8) ∧ (r6 = true → r8 = true → Rt d) := by
  obtain ⟨r6, h6, h6b⟩ := few_ex ht
  cases r6
  · exact ⟨false, false, h6, (fun h => by cases h), (fun h => by cases h), (fun h => by cases h)⟩
  · obtain ⟨r8, h8, h8b⟩ := right_ok (d := d) (by have := h6b rfl; omega) ht
    exact ⟨true, r8, h6, h6b, fun _ => h8, fun _ => h8b⟩
theorem fits_in {d : List SNode} {s : List SItem} : ref14_Fits d s ((decide ((d.length : Int) ≤ 24) && decide ((s.length : Int) ≤ 8)) && formS d s) := by
  refine ⟨_, rfl, formS d s, fun h => ?_, rfl⟩
  simp only [Bool.and_eq_true, decide_eq_true_eq] at h
  exact ref13_Form_in (by omega)
theorem can_of {L : List (List SItem)} {B : List SBranch} (hs : B.Pairwise (fun a b => cmpS a.1 b.1 < 0)) (h1 : ∀ b ∈ B, b.1 ∈ L ∧ b.2 = sat (L.count b.1)) (h2 : ∀ t ∈ L, t ∈ B.map (·.1)) : Can (fun t => L.count t) B := by
  refine ⟨hs, fun t m => ⟨fun h => ?_, fun ⟨h3, h4⟩ => ?_⟩⟩
  · obtain ⟨h3, h4⟩ := h1 _ h
    exact ⟨by have := List.count_pos_iff.2 h3; simp only at this ⊢; omega, h4⟩
  · obtain ⟨b, hb, e⟩ := List.mem_map.1 (h2 t (List.count_pos_iff.1 (by omega)))
    obtain ⟨_, h6⟩ := h1 _ hb
    have : b = (t, m) := Prod.ext e (by rw [h6, h4, e])
    rw [← this]; exact hb
def dB : List SNode := [(2, 0, 0, 0, 0, (0#256), ([] : Str))]
def dE : List SNode := [(1, 0, 0, 0, 0, (0#256), ([] : Str))]
theorem dB_rt : Rt dB := leaf_rt (.inr rfl) ⟨rfl, rfl⟩
theorem dE_rt : Rt dE := leaf_rt (.inl rfl) ⟨rfl, rfl⟩
theorem sm_mk {d : List SNode} {s : List SItem} (h : Rt d) (hl : d.length ≤ 24) (ht : Txt d) (hf : formS d s = true) (hs : s.length ≤ 40) : Sm d s := ⟨h, hl, ht, hf, hs⟩
theorem txt_small {d : List SNode} (h : ∀ n ∈ d, n.2.2.2.2.2.2 = []) : Txt d := fun n hn => by rw [h n hn]; simp
def dS : List SNode := wrapD 6 dB
def dT : List SNode := pairD 5 dE dE
theorem dS_rt : Rt dS := wrap_rt dB_rt (.inl rfl) fun _ => by decide
theorem dT_rt : Rt dT := pair_rt dE_rt dE_rt (.inr rfl)
theorem dS_sm {s : List SItem} (hf : formS dS s = true) (hs : s.length ≤ 40) : Sm dS s := sm_mk dS_rt (by decide) (txt_small (by decide)) hf hs
theorem dT_sm {s : List SItem} (hf : formS dT s = true) (hs : s.length ≤ 40) : Sm dT s := sm_mk dT_rt (by decide) (txt_small (by decide)) hf hs
def hS : List SBranch := [([], 1), ([(1, 0, 0, 0), (1, 1, 0, 0)], 1)]
def hT : List SBranch := [([], 2)]
theorem hS_in : heads_Heads dS [(1, 1, 0, 0)] hS := by
  obtain ⟨B, h1, _, h3⟩ := heads_both (dS_sm (s := [(1, 1, 0, 0)]) (by decide) (by decide))
  have : B = hS := h3.uniq (can_of (by decide) (by decide) (by decide))
  rw [← this]; exact h1
theorem hT_in : heads_Heads dT [(1, 2, 0, 0)] hT := by
  obtain ⟨B, h1, _, h3⟩ := heads_both (dT_sm (s := [(1, 2, 0, 0)]) (by decide) (by decide))
  have : B = hT := h3.uniq (can_of (by decide) (by decide) (by decide))
  rw [← this]; exact h1
theorem awake14 : law14_awake true := by
  have o1 : heads_Open dS [(1, 1, 0, 0)] [[], [(1, 0, 0, 0), (1, 1, 0, 0)]] := heads_Open_in dS_rt.toROk (s := [(1, 1, 0, 0)]) (by decide) (by decide) (by decide) ⟨_, rfl⟩
  have o2 : heads_Open dS [(5, 0, 1, 0)] [] := heads_Open_in dS_rt.toROk (s := [(5, 0, 1, 0)]) (by decide) (by decide) (by decide) ⟨_, rfl⟩
  have hst : ∀ d : List SNode, d.length ≤ 100 → law14_start d [(1, (d.length : Int) - 1, 0, 0)] := fun d hd => ⟨i64_of (by omega) (by omega), rfl⟩
  refine ⟨dS, Wrap_in dB_rt.tr (by decide), dT, Pair_in dE_rt.tr dE_rt.tr (by decide) (by decide), _, hst dS (by decide), hS, hS_in, _, hst dT (by decide), hT, hT_in, _, hst dS (by decide), _, o1, _, o2, _, rfl, (fun h => by simp [hS, hT] at h), fun _ => ⟨([], 1), rfl, ([], 1), fun _ => rfl, ([(1, 0, 0, 0), (1, 1, 0, 0)], 1), fun _ => rfl, _, rfl, ([(1, 0, 0, 0), (1, 1, 0, 0)], 1), fun _ => rfl, (1, 0, 0, 0), fun _ => rfl, ([], 2), fun _ => rfl, [], fun _ => rfl, _, rfl, [(1, 0, 0, 0), (1, 1, 0, 0)], fun _ => rfl, ([(1, 0, 0, 0), (1, 1, 0, 0)], 1), fun _ => rfl, _, fun _ => ref13_Same_in (by decide) (by decide), true, fun _ => heads_Ready_in dS_rt.toROk (s := []) rfl, _, rfl, _, fun _ => hst dS (by decide), false, fun _ => heads_Ready_in dS_rt.toROk (s := [(1, 1, 0, 0)]) (by decide), _, fun _ => hst dB (by decide), true, fun _ => heads_Ready_in dB_rt.toROk (s := [(1, 0, 0, 0)]) (by decide), ?_⟩⟩
  decide
theorem sm_of {d : List SNode} {s : List SItem} (ht : Txt d) (hr : Rt d) (hf : ((decide ((d.length : Int) ≤ 24) && decide ((s.length : Int) ≤ 8)) && formS d s) = true) : Sm d s ∧ s.length ≤ 8 := by
  simp only [Bool.and_eq_true, decide_eq_true_eq] at hf
  exact ⟨⟨hr, by omega, ht, hf.2, by omega⟩, by omega⟩
theorem hds_len {d : List SNode} {s : List SItem} (h : Sm d s) {t : List SItem} (ht : (hds d s).count t ≠ 0) : t.length ≤ 1000 ∧ rdy d t = true ∧ formS d t = true := by
  obtain ⟨L, ⟨k, hk⟩, hp⟩ := hds_lv h.rt.toROk s h.form
  have hm : t ∈ L := hp.mem_iff.2 (List.count_pos_iff.1 (by omega))
  obtain ⟨h1, h2⟩ := lv_vs h.rt.toROk k s L hk h.vs t hm
  have := h1.len
  have := h.len
  exact ⟨by omega, h2, h1.form⟩
theorem heads_len {d : List SNode} {s : List SItem} (h : Sm d s) {B : List SBranch} (hB : Can (fun t => (hds d s).count t) B) : B.length ≤ 700000000 := by
  have h0 := can_len hB (U := CS d s) fun t ht => hds_CS d s t (List.count_pos_iff.1 (by omega))
  have h1 := CS_len d s
  have h2 : 2 ^ d.length ≤ 2 ^ 24 := Nat.pow_le_pow_right (by omega) h.len
  have h3 := h.slen
  have h4 : s.length * 2 ^ d.length ≤ 40 * 2 ^ 24 := Nat.mul_le_mul h3 h2
  omega
theorem lv_count {d : List SNode} {s : List SItem} (h : Sm d s) (hr : rdy d s = false) : (hds d s).Perm (((opn d s).map (hds d)).flatten) := by
  have hd := h.rt.toROk
  obtain ⟨L, hL, hp⟩ := hds_lv hd s h.form
  obtain ⟨f, h1, h2⟩ := hL.opened hr
  have h3 : ∀ t ∈ opn d s, (f t).Perm (hds d t) := fun t ht => lv_hds hd (form_opn hd h.form hr t ht) (h1 t ht)
  refine hp.symm.trans ?_
  rw [h2]
  have key : ∀ l : List (List SItem), (∀ t ∈ l, (f t).Perm (hds d t)) → ((l.map f).flatten).Perm ((l.map (hds d)).flatten) := by
    intro l
    induction l with
    | nil => intro _; exact .refl _
    | cons t l ih => intro hh; exact (hh t (by simp)).append (ih fun u hu => hh u (by simp [hu]))
  exact key _ h3
theorem sm_opn {d : List SNode} {s : List SItem} (h : Sm d s) (hs : s.length ≤ 8) (hr : rdy d s = false) : ∀ t ∈ opn d s, Sm d t := fun t ht => by
  have := ((Vs.start h.form hs).opn h.rt.toROk hr t ht).len
  have := h.len
  exact ⟨h.rt, h.len, h.txt, form_opn h.rt.toROk h.form hr t ht, by omega⟩
theorem addAll_len : ∀ (l B : List SBranch), (addAll B l).length ≤ B.length + l.length
  | [], B => by simp [addAll]
  | x :: l, B => by
    have h1 := addAll_len l (addB x.1 x.2 B)
    have h2 := addB_len x.1 x.2 B
    simp only [addAll, List.foldl_cons, List.length_cons] at h1 ⊢
    omega
theorem addAll_snoc (l B : List SBranch) (x : SBranch) : addAll B (l ++ [x]) = addB x.1 x.2 (addAll B l) := by simp [addAll]
theorem can_one (s : List SItem) : Can (fun t => [s].count t) [(s, 1)] := can_of (by simp) (by simp [sat]) (by simp)
theorem rdy_heads {d : List SNode} {s : List SItem} (h : Sm d s) (hr : rdy d s = true) {B : List SBranch} (hB : Can (fun t => (hds d s).count t) B) : B = [(s, 1)] := by
  have hp := lv_hds h.rt.toROk h.form (Lv.ready hr)
  exact hB.uniq ((can_one s).congr fun t => by rw [hp.count_eq])
theorem law14_HeadsOpen_true {d : List SNode} {s : List SItem} (ht : Txt d) : law14_HeadsOpen d s true := by
  obtain ⟨r6, r8, h6, h6b, h8, h8b⟩ := guard14 ht
  refine ⟨true, awake14, r6, fun _ => h6, r8, fun h => h8 (by simpa using h), _, fun _ => fits_in, fun _ => ⟨true, awake14, rfl⟩, fun hb => ?_⟩
  simp only [Bool.not_true, Bool.false_or, Bool.or_eq_false_iff, Bool.not_eq_false'] at hb
  obtain ⟨⟨g1, g2⟩, g3⟩ := hb
  have hR := h8b g1 g2
  obtain ⟨hs, hsl⟩ := sm_of ht hR g3
  have hd := hR.toROk
  obtain ⟨B, b1, b2, b3⟩ := heads_both hs
  have hBl : ∀ x ∈ B, x.1.length ≤ 1000 := fun x hx => (hds_len hs (b3.many hx).2.1).1
  refine ⟨B, b1, _, heads_Ready_in hd hs.form, fun hr => ?_, fun hr => ?_⟩
  · have e := rdy_heads hs hr b3
    subst e
    exact ⟨(s, 1), fun _ => rfl, (s, 1), fun _ => rfl, _, fun _ => ref13_Same_in (by simp only; omega) (by omega), true, by simp, rfl⟩
  · have hp := lv_count hs hr
    have hso := sm_opn hs hsl hr
    have hol := opn_len (d := d) s
    refine ⟨_, heads_Open_in hd hs.form hr (by omega) hs.ne, ?_⟩
    refine upto (P := fun k (all : List SBranch) v => law14_HeadsOpen.l1 d (opn d s) _ k all v) (opn d s).length (fun i all => Can (fun t => (((opn d s).take i).map (hds d)).flatten.count t) all ∧ all.length ≤ i * 700000000) ?_ ?_ [] ⟨by simpa using Can.nil, by simp⟩
    · rintro i all hi ⟨c1, c2⟩
      have hat : at? (opn d s) (i : Int) = some (opn d s)[i] := by rw [at_nat]; simp [hi]
      have hm := hso _ (List.getElem_mem hi)
      obtain ⟨G, k1, _, k3⟩ := heads_both hm
      have kl := heads_len hm k3
      have hU : ∀ t, (((opn d s).take i).map (hds d)).flatten.count t ≠ 0 → t.length ≤ 1000 := fun t ht => by
        obtain ⟨l, hl, hx⟩ := List.mem_flatten.1 (List.count_pos_iff.1 (Nat.pos_of_ne_zero ht))
        obtain ⟨u, hu, rfl⟩ := List.mem_map.1 hl
        exact (hds_len (hso u (List.mem_of_mem_take hu)) (by have := List.count_pos_iff.2 hx; omega)).1
      have hU2 : ∀ t, (hds d (opn d s)[i]).count t ≠ 0 → t.length ≤ 1000 := fun t ht => (hds_len hm ht).1
      have part : ∀ j, Can (fun t => (((opn d s).take i).map (hds d)).flatten.count t + if t ∈ (G.take j).map (·.1) then (hds d (opn d s)[i]).count t else 0) (addAll all (G.take j)) := fun j =>
        Can.addAll c1 (by rw [List.map_take]; exact k3.nodup.sublist (List.take_sublist _ _)) fun x hx => by
          obtain ⟨h3, h4, _⟩ := k3.many (List.mem_of_mem_take hx)
          exact ⟨h4, h3⟩
      have e1 : (((opn d s).take (i + 1)).map (hds d)).flatten = (((opn d s).take i).map (hds d)).flatten ++ hds d (opn d s)[i] := by
        rw [List.take_succ_eq_append_getElem hi, List.map_append, List.flatten_append]; simp
      refine .inr ⟨addAll all G, ⟨?_, ?_⟩, fun k hk => ⟨fun _ => ⟨_, hat, G, k1, ?_⟩, fun h => absurd (by omega) (df h)⟩⟩
      · rw [e1]
        exact (c1.plus k3).congr fun t => by rw [List.count_append]
      · have := addAll_len G all
        rw [Nat.succ_mul]; omega
      · refine upto (P := fun k (a : List SBranch) v => law14_HeadsOpen.l2 G _ k a v) G.length (fun j a => a = addAll all (G.take j)) ?_ ?_ all rfl
        · rintro j a hj rfl
          have hat : at? G (j : Int) = some G[j] := by rw [at_nat]; simp [hj]
          have hb := k3.many (List.getElem_mem hj)
          have hal := addAll_len (G.take j) all
          have htl : (G.take j).length = j := by simp; omega
          have hi2 : i * 700000000 ≤ 1 * 700000000 := Nat.mul_le_mul_right _ (by omega)
          have hpj := part j
          have ho : BrOk (addAll all (G.take j)) := hpj.brok fun t ht => by
            by_cases h0 : (((opn d s).take i).map (hds d)).flatten.count t = 0
            · refine hU2 t fun h1 => ht ?_
              simp only [h0, h1, ite_self, Nat.add_zero]
            · exact hU t h0
          refine .inr ⟨_, by rw [List.take_succ_eq_append_getElem hj, addAll_snoc], fun k hk => ⟨fun _ => ⟨_, hat, _, hat, _, ref14_Add_in hpj.srt ho (by omega) (hU2 _ hb.2.1) ⟨by omega, by omega⟩, i64_of (by omega) (by omega), hk⟩, fun h => absurd (by omega) (df h)⟩⟩
        · rintro a rfl k'
          refine ⟨fun h => absurd (dt h) (by omega), fun _ => ?_⟩
          rw [List.take_length]
          exact ⟨i64_of (by omega) (by omega), hk⟩
    · rintro all ⟨c1, c2⟩ k
      refine ⟨fun h => absurd (dt h) (by omega), fun _ => ?_⟩
      rw [List.take_length] at c1
      have e : all = B := c1.uniq (b3.congr fun t => by rw [hp.count_eq])
      subst e
      have := heads_len hs b3
      exact ⟨_, ref14_Same_in hBl hBl (by omega), by simp⟩
end Go.Proofs.YtdidjelkkanenaaDoor.V
namespace Go.Proofs.YtdidjelkkanenaaDoor.V
open Go Go.ChangeShapes Go.WideShapes Go.RowKit
set_option linter.unusedVariables false
structure Rd (P : Program) (t : TypeId) {α : Type} (E : En α) (G : α → Prop) : Prop where
  sz : P.cellsOf t = E.sz
  rd : ∀ {H : Type} (enc : TypeId × Value → H) (w : World) (fuel : Nat) (cs : List Value) (x : DataW H × List MemPlace),
    DataW.trod enc P w 0 (fun _ => true) true fuel t cs = some x → (∀ n ∈ x.1.weights P t, n ≤ reachBytes) → ∃ y, E.R w (fun b => b < w.heap.size) cs y ∧ G y
  vl : ∀ (w : World) (v : Value), Value.okWide P w .any 0 t v → (∃ y, E.R w (fun b => b < w.heap.size) v.cells.toList y) → v = E.val v.cells.toList
theorem Rd.int {P : Program} {t : TypeId} {k : IntKind} (ht : P.underlying t = some (.int k)) (hc : P.cellsOf t = 1) : Rd P t (En.int k) (InR k) := by
  refine ⟨hc, ?_, ?_⟩
  · intro H enc w fuel cs x h _
    obtain ⟨n, rfl, _, hw⟩ := DataW.trod_int ht h
    have : InR k n := by simpa [Lit.wf, InR] using hw
    exact ⟨n, ⟨rfl, this⟩, this⟩
  · intro w v hv _
    obtain ⟨n, rfl⟩ := okWide_int ht hv
    rfl
theorem Rd.bool {P : Program} {t : TypeId} (ht : P.underlying t = some .bool) (hc : P.cellsOf t = 1) : Rd P t En.bool (fun _ => True) := by
  refine ⟨hc, ?_, ?_⟩
  · intro H enc w fuel cs x h _
    obtain ⟨b, rfl, _⟩ := DataW.trod_bool ht h
    exact ⟨b, rfl, trivial⟩
  · intro w v hv _
    simp only [Value.okWide, ht, Cell.okWide, Cell.ok] at hv
    cases v <;> simp at hv
    rfl
theorem Rd.str {P : Program} {t : TypeId} (ht : P.underlying t = some .string) (hc : P.cellsOf t = 1) : Rd P t En.str (fun y => y.length ≤ 140737488351232) := by
  refine ⟨hc, ?_, ?_⟩
  · intro H enc w fuel cs x h hwt
    obtain ⟨s, rfl, hx, hs⟩ := DataW.trod_string ht h
    have hl : s.data.toList.length ≤ 9223372036854775807 := by simpa [maxLen] using hs
    have h2 : s.data.toList.length ≤ 140737488351232 := hwt _ (by rw [hx]; simp [DataW.weights])
    exact ⟨s.data.toList, ⟨rfl, hl⟩, h2⟩
  · intro w v hv _
    simp only [Value.okWide, ht, Cell.okWide, Cell.ok] at hv
    cases v <;> simp at hv
    rfl
theorem weights_all {H : Type} {P : Program} {e : TypeId} : ∀ {l : List (DataW H)} {d : DataW H}, d ∈ l → ∀ n ∈ d.weights P e, n ∈ DataW.weightsAll P e l
  | [], _, h, _, _ => by cases h
  | d' :: l, d, h, n, hn => by
    simp only [DataW.weightsAll, List.mem_append]
    rcases List.mem_cons.1 h with rfl | h
    · exact .inl hn
    · exact .inr (weights_all h n hn)
theorem Rd.slice {P : Program} {t e : TypeId} {α : Type} {E : En α} {G : α → Prop} (ht : P.underlying t = some (.slice e)) (hc : P.cellsOf t = 1) (hby : Nat.blt 0 (P.bytesOf e) = true) (he : Rd P e E G) :
    Rd P t (En.slice E) (fun xs => xs.length ≤ 140737488351232 ∧ ∀ y ∈ xs, G y) := by
  refine ⟨hc, ?_, ?_⟩
  · intro H enc w fuel cs x h hwt
    rcases Deep.open_slice ht h with ⟨rfl, _⟩ | ⟨a, len, cap, m, n, D, Pl, rfl, hb, hl, hm, hmm, hxe, hx⟩
    · exact ⟨[], ⟨_, rfl, slV_nil E _ _⟩, Nat.zero_le _, by simp⟩
    · simp only [if_true] at hmm
      subst hmm
      have hall : ∀ i, i < len → ∃ p : α × List Value, w.cells? 0 (a.add (i * P.cellsOf e)) (P.cellsOf e) = some p.2 ∧ E.R w (fun b => b < w.heap.size) p.2 p.1 ∧ G p.1 := fun i hi => by
        obtain ⟨cs', h1, h2⟩ := hx i (by omega)
        obtain ⟨y, h3, h4⟩ := he.rd enc w n cs' _ h2 fun q hq => hwt q (by
          rw [hxe]
          simp only [DataW.weights, ht, List.mem_cons, List.mem_append]
          exact .inr (.inl (weights_all (List.mem_map.2 ⟨i, by simpa using hi, rfl⟩) q hq)))
        exact ⟨(y, cs'), h1, h3, h4⟩
      have hmax2 : len ≤ 140737488351232 := by
        have h1 := hwt ((len + (m - len)) * P.bytesOf e) (by rw [hxe]; simp [DataW.weights, ht])
        have h2 : 0 < P.bytesOf e := Nat.le_of_ble_eq_true hby
        have h3 : (len + (m - len)) * 1 ≤ (len + (m - len)) * P.bytesOf e := Nat.mul_le_mul_left _ h2
        have h4 : reachBytes = 140737488351232 := rfl
        omega
      have hmax : len ≤ lim := by have : maxLen ≤ lim := by decide
                                  omega
      by_cases h0 : len = 0
      · subst h0
        exact ⟨[], ⟨_, rfl, some a, m, rfl, Nat.zero_le _, (fun h => by cases h), Nat.zero_le _, fun h => absurd rfl h⟩, Nat.zero_le _, by simp⟩
      have hinh : Inhabited (α × List Value) := ⟨(hall 0 (by omega)).choose⟩
      obtain ⟨f, hf⟩ := Deep.choose_lt hall
      have hsz := E.pos
      rw [← he.sz] at hsz
      obtain ⟨hcell0, hblk⟩ : a.spot = none ∧ a.block < w.heap.size := by
        obtain ⟨_, hl2, hcl⟩ := World.cells?_some (hf 0 (by omega)).1
        have h2 := hcl 0 hsz
        rw [List.getElem?_eq_getElem (by omega)] at h2
        simp only [Nat.zero_mul, Addr.add, if_true, World.cell?] at h2
        cases hb2 : w.heap[a.block]? with
        | none => simp [hb2] at h2
        | some o =>
          refine ⟨?_, (Array.getElem?_eq_some_iff.1 hb2).1⟩
          cases o <;> simp [hb2] at h2
          exact h2.1
      refine ⟨(List.range len).map (fun i => (f i).1), ⟨_, rfl, some a, m, ?_, by simpa using hl, (fun h => by cases h), by simpa using hmax, fun _ => ⟨a.block, a.off, (List.range len).map (fun i => (f i).2), ?_, hblk, ⟨by simp, ?_⟩, ?_⟩⟩, by simpa using hmax2, ?_⟩
      · simp
      · cases a; simp at hcell0; subst hcell0; rfl
      · intro i c y hc1 hy1
        have hi : i < len := by have := (List.getElem?_eq_some_iff.1 hc1).1; simpa using this
        simp [hi] at hc1 hy1
        subst hc1; subst hy1
        exact (hf i hi).2.1
      · have hlens : ∀ c ∈ (List.range len).map (fun i => (f i).2), c.length = E.sz := by
          intro c hc
          simp only [List.mem_map, List.mem_range] at hc
          obtain ⟨i, hi, rfl⟩ := hc
          rw [(World.cells?_some (hf i hi).1).2.1, he.sz]
        intro j u hj
        have hjl : j < len * E.sz := by
          have := (List.getElem?_eq_some_iff.1 hj).1
          rw [flat_len hlens] at this; simpa using this
        have hp : 0 < E.sz := E.pos
        have hi : j / E.sz < len := Nat.div_lt_of_lt_mul (by rw [Nat.mul_comm]; exact hjl)
        have hk : j % E.sz < E.sz := Nat.mod_lt _ hp
        obtain ⟨_, hl2, hcl⟩ := World.cells?_some (hf _ hi).1
        have hcell := hcl (j % E.sz) (by rw [he.sz]; exact hk)
        rw [he.sz] at hl2
        have hg := flat_get hlens (i := j / E.sz) (cs := (f (j / E.sz)).2) (j := j % E.sz) (u := (f (j / E.sz)).2[j % E.sz]'(by omega)) (by simp [hi]) (by simp)
        rw [Nat.mul_comm, Nat.div_add_mod] at hg
        rw [hg] at hj
        rw [List.getElem?_eq_getElem (by omega), hj, Deep.add_add, he.sz, Nat.mul_comm, Nat.div_add_mod] at hcell
        rw [← hcell]
        cases a; simp at hcell0; subst hcell0; rw [add_lit]
      · intro y hy
        simp only [List.mem_map, List.mem_range] at hy
        obtain ⟨i, hi, rfl⟩ := hy
        exact (hf i hi).2.2
  · intro w v hv _
    simp only [Value.okWide, ht, Cell.okWide, Cell.ok] at hv
    cases v <;> simp at hv
    rfl
theorem u64_word {n : Int} (h : InR .u64 n) : ∃ m : Nat, m < 2 ^ 64 ∧ n = m := by
  simp [InR, IntKind.min, IntKind.max, IntKind.signed, IntKind.bits] at h
  exact ⟨n.toNat, by omega, by omega⟩
theorem Rd.cls {P : Program} {t e : TypeId} (ht : P.underlying t = some (.array 4 e)) (hc : P.cellsOf t = 4) (he : P.underlying e = some (.int .u64)) (hce : P.cellsOf e = 1) : Rd P t En.cls (fun _ => True) := by
  refine ⟨hc, ?_, ?_⟩
  · intro H enc w fuel cs x h _
    obtain ⟨xs, m, rfl, rfl, hlen, hn, hx⟩ := DataW.trod_array ht h
    rw [hc] at hlen
    match cs, hlen with
    | [u0, u1, u2, u3], _ =>
      have hx' : ∀ i (hi : i < 4) u, [u0, u1, u2, u3][i]? = some u → ∃ q : Nat, q < 2 ^ 64 ∧ u = .int .u64 q := by
        intro i hi u hu
        have h1 := hx i hi
        rw [hce, Nat.mul_one, List.getElem?_eq_getElem (by omega)] at h1
        have h2 : List.take 1 (List.drop i [u0, u1, u2, u3]) = [u] := by
          match i, hi with
          | 0, _ | 1, _ | 2, _ | 3, _ => simp at hu; subst hu; rfl
        rw [h2] at h1
        obtain ⟨n, h3, _, h4⟩ := DataW.trod_int he h1
        obtain ⟨q, hq, rfl⟩ := u64_word (n := n) (by simpa [Lit.wf, InR] using h4)
        simp at h3
        exact ⟨q, hq, h3⟩
      obtain ⟨q0, h0, rfl⟩ := hx' 0 (by omega) u0 rfl
      obtain ⟨q1, h1, rfl⟩ := hx' 1 (by omega) u1 rfl
      obtain ⟨q2, h2, rfl⟩ := hx' 2 (by omega) u2 rfl
      obtain ⟨q3, h3, rfl⟩ := hx' 3 (by omega) u3 rfl
      refine ⟨Cl.ofWords q0 q1 q2 q3, ?_, trivial⟩
      obtain ⟨e0, e1, e2, e3⟩ := Cl.ofWords_word h0 h1 h2 h3
      show _ = clsCells _
      unfold clsCells
      rw [e0, e1, e2, e3]
  · intro w v hv _
    simp only [Value.okWide, ht] at hv
    obtain ⟨cs, rfl, _⟩ := hv
    simp [En.val, En.cls, Value.cells]
structure RdF (P : Program) (fs : List Field) (o : Nat) {α : Type} (E : En α) (G : α → Prop) : Prop where
  rd : ∀ {H : Type} (enc : TypeId × Value → H) (w : World) (fuel : Nat) (cs : List Value) (xs : List (DataW H × List MemPlace)), xs.length = fs.length →
    (∀ (i : Nat) (f : Field), fs[i]? = some f → DataW.trod enc P w 0 (fun _ => true) true fuel f.type ((cs.drop f.offset).take (P.cellsOf f.type)) = xs[i]?) →
    (∀ n ∈ DataW.weightsEach P (fs.map (·.type)) (xs.map (·.1)), n ≤ reachBytes) → ∃ y, E.R w (fun b => b < w.heap.size) ((cs.drop o).take E.sz) y ∧ G y
theorem RdF.last {P : Program} {f : Field} {o : Nat} {α : Type} {E : En α} {G : α → Prop} (h : Rd P f.type E G) (ho : f.offset = o) : RdF P [f] o E G := ⟨by
  intro H enc w fuel cs xs hl hx hw
  obtain ⟨x, rfl⟩ : ∃ x, xs = [x] := List.length_eq_one_iff.1 hl
  have h1 := hx 0 f rfl
  rw [ho, h.sz] at h1
  exact h.rd enc w fuel _ x h1 fun n hn => hw n (by simp [DataW.weightsEach, hn])⟩
theorem RdF.solo {P : Program} {fs : List Field} {o : Nat} {α : Type} {E : En α} {G : α → Prop} (h : RdF P fs o E G) : RdF P fs o E.solo G := ⟨h.rd⟩
theorem take_add_split {xs : List Value} {o m n : Nat} : (xs.drop o).take (m + n) = (xs.drop o).take m ++ (xs.drop (o + m)).take n := by
  rw [List.take_add, List.drop_drop]
theorem RdF.cons {P : Program} {f : Field} {fs : List Field} {o : Nat} {α β : Type} {E : En α} {F : En β} {G : α → Prop} {K : β → Prop} (h : Rd P f.type E G) (ho : f.offset = o) (hr : RdF P fs (o + E.sz) F K) : RdF P (f :: fs) o (E.cat F) (fun x => G x.1 ∧ K x.2) := ⟨by
  intro H enc w fuel cs xs hl hx hw
  obtain ⟨x, xs', rfl⟩ : ∃ x xs', xs = x :: xs' := by
    cases xs with
    | nil => simp at hl
    | cons x xs' => exact ⟨x, xs', rfl⟩
  have h1 := hx 0 f rfl
  rw [ho, h.sz] at h1
  obtain ⟨y, hy1, hy2⟩ := h.rd enc w fuel _ x h1 fun n hn => hw n (by simp [DataW.weightsEach, hn])
  obtain ⟨z, hz1, hz2⟩ := hr.rd enc w fuel cs xs' (by simpa using hl) (fun i g hg => by have := hx (i + 1) g (by simpa using hg); simpa using this) fun n hn => hw n (by
    simp only [List.map_cons, DataW.weightsEach, List.mem_append]; exact .inr hn)
  exact ⟨(y, z), ⟨_, _, take_add_split, hy1, hz1⟩, hy2, hz2⟩⟩
theorem Rd.struct {P : Program} {t : TypeId} {fs : Array Field} {α : Type} {E : En α} {G : α → Prop} (ht : P.underlying t = some (.struct fs)) (ha : E.agg = true) (hc : P.cellsOf t = E.sz) (h : RdF P fs.toList 0 E G) : Rd P t E G := by
  refine ⟨hc, ?_, ?_⟩
  · intro H enc w fuel cs x hx hw
    obtain ⟨xs, n, rfl, rfl, hlen, hxl, hf⟩ := DataW.trod_struct ht hx
    obtain ⟨y, hy1, hy2⟩ := h.rd enc w n cs xs (by simpa using hxl) (fun i f hi => hf i f (by simpa using hi)) fun q hq => hw q (by
      simp only [DataW.weights, ht]; exact hq)
    rw [List.drop_zero, List.take_of_length_le (by rw [hlen, hc]; exact Nat.le_refl _)] at hy1
    exact ⟨y, hy1, hy2⟩
  · intro w v hv _
    obtain ⟨cs, rfl, _⟩ := okWide_struct ht hv
    unfold En.val
    rw [ha]
    simp [Value.cells]
theorem Rd.open {P : Program} {t : TypeId} {α : Type} {E : En α} {G : α → Prop} (hr : Rd P t E G) {H : Type} {enc : TypeId × Value → H} {W : World} {v : Value} {d : DataW H} {p : List MemPlace}
    (hv : Value.okWide P W .any 0 t v) (hd : DataW.Trod enc P W 0 (fun _ => true) true t v d p) (hw : ∀ n ∈ d.weights P t, n ≤ reachBytes) : ∃ y, (Pd.rep E y).p ⟨W, fun _ => False, fun _ h => h.elim⟩ v ∧ G y := by
  obtain ⟨fuel, h⟩ := hd
  obtain ⟨y, hy, hg⟩ := hr.rd enc W fuel _ _ h hw
  refine ⟨y, ⟨v.cells.toList, hr.vl W v hv ⟨y, hy⟩, ?_⟩, hg⟩
  exact E.mono (fun b hb => ⟨hb, fun h => h⟩) hy
theorem Ex.below {s s' : St} (h : Ex s s') : Below s.w.heap.size s.w s'.w := ⟨h.mv.os, h.mv.tape, h.mv.output, h.mv.size, fun k hk => h.mv.blk k hk (fun h => h)⟩
theorem okWide_any {P : Program} {W : World} {b : Nat} {t : TypeId} {v : Value} (h : Value.okWide P W .any b t v) : Value.okWide P W .any 0 t v := by
  unfold Value.okWide Row.okWide Cell.okWide Cell.ok World.has at *
  exact h
section
variable {H : Type} {enc : TypeId × Value → H} {P : Program}
theorem stays {W W' : World} (hl : laidOutB P = true) (hb : Below W.heap.size W W') {sp : Nat → Bool} : ∀ {ts : List TypeId} {vs : List Value} {ds : List (DataW H)} {ps : List MemPlace},
    (ts.all fun t => P.readableRec t && decide (t < P.types.size)) = true → DataW.TrodAll enc P W 0 (fun _ => true) true ts vs ds ps → (∀ p ∈ ps, p.block < W.heap.size) → (∀ p ∈ ps, sp p.block = true) →
    DataW.TrodAll enc P W' 0 sp true ts vs ds ps
  | [], vs, ds, ps, _, h, _, _ => by
    obtain ⟨rfl, rfl, rfl⟩ := trodAll_nil h
    exact trodAll_mk0
  | t :: ts, vs, ds, ps, ha, h, hlt, hsp => by
    obtain ⟨v, vs', d, ds', p, q, rfl, rfl, rfl, h1, h2⟩ := trodAll_cons h
    simp only [List.all_cons, Bool.and_eq_true, decide_eq_true_eq] at ha
    refine trodAll_cons_mk (WideElems.Trod_stays hl ha.1.1 ha.1.2 h1 (fun x hx => hb.same (hlt x (List.mem_append_left _ hx))) fun x hx => hsp x (List.mem_append_left _ hx)) ?_
    exact stays hl hb (by simpa using ha.2) h2 (fun x hx => hlt x (List.mem_append_right _ hx)) fun x hx => hsp x (List.mem_append_right _ hx)
theorem post_law {f : Func} {s : ChangeSpec} {apart fresh handsOn again : Bool} {W W' : World} {args : Array Value} {v : Value} {ds gs : List (DataW H)} {before : List MemPlace} {tb : TypeId}
    (hW : DataW.Whole enc P f.params.toList s.vars apart W args.toList ds gs before) (hb : Below W.heap.size W W') (hl : laidOutB P = true)
    (hrd : (f.params.toList.all fun t => P.readableRec t && decide (t < P.types.size)) = true) (hs : s.vars = []) (hrt : f.resultTypes = #[tb]) (hub : P.underlying tb = some .bool) (hv : v = .bool true)
    (hres : (s.fn H (ds ++ gs)).results = [.lit (.bool true)]) (hargs : (s.fn H (ds ++ gs)).args = ds) (hvars : (s.fn H (ds ++ gs)).vars = []) : s.post enc P f apart fresh handsOn again W args v W' := by
  subst hv
  have hlt := hW.lt
  have hW' := hW
  obtain ⟨p, q, hA, hV, rfl, hz, hn⟩ := hW
  rw [hs] at hV
  obtain ⟨rfl, rfl⟩ := trodVars_none hV
  have hsub : ∀ x ∈ p, x ∈ p ++ ([] : List MemPlace) := fun x hx => by simpa using hx
  have harg : ∀ sp : Nat → Bool, (∀ x ∈ p ++ ([] : List MemPlace), sp x.block = true) → DataW.TrodAll enc P W' 0 sp true f.params.toList args.toList (s.fn H (ds ++ [])).args p := fun sp hsp => by
    rw [hargs]
    exact stays hl hb hrd hA (fun x hx => hlt x (hsub x hx)) fun x hx => hsp x (hsub x hx)
  have hvar : ∀ sp : Nat → Bool, DataW.TrodVars enc P W' sp s.vars (s.fn H (ds ++ [])).vars [] := fun sp => by rw [hs, hvars]; exact rfl
  have hr : ∀ (b : Nat) (sp : Nat → Bool) (hd : Bool), DataW.TrodAll enc P W' b sp hd f.resultTypes.toList ((Value.bool true).resultList f.resultTypes.size) (s.fn H (ds ++ [])).results [] := fun b sp hd => by
    rw [hres, hrt]
    exact trodAll_cons_mk (shut_bool hub _) trodAll_mk0
  have hold : ∀ x ∈ p ++ ([] : List MemPlace), (fun b => decide (b < W.heap.size)) x.block = true := fun x hx => by simpa using hlt x hx
  refine ⟨ds, [], p ++ [], [], p, [], hW', hr _ _ _, harg _ hold, hvar _, World.keptBut_mono (fun x hx => ⟨hx, ?_⟩) (hb.frame (· ∈ p ++ [])), fun _ => ?_⟩
  · simpa using hx
  · refine ⟨ok_one hrt rfl (okWide_bool_mk hub _), _, _, ([] ++ p) ++ [], ⟨[] ++ p, [], trodAll_append (harg _ (fun _ _ => rfl)) (hr _ _ _), hvar _, rfl, ?_, ?_⟩, ?_⟩
    · intro b off hp
      have hp' : MemPlace.cell b off ∈ p ++ ([] : List MemPlace) := by simpa using hp
      rw [hb.frozen (p := ⟨b, off, none⟩) (hlt _ hp')]
      exact hz b off hp'
    · intro ha
      simpa using hn ha
    · intro x hx _
      simpa using hx
end
end Go.Proofs.YtdidjelkkanenaaDoor.V
namespace Go.Proofs.YtdidjelkkanenaaDoor.V
open Go Go.ChangeShapes Go.WideShapes Go.RowKit
set_option linter.unusedVariables false
def lst : List (String × DataW Unit) := [("math/bits.deBruijn32tab", Rows.laid_math_bits_deBruijn32tab), ("math/bits.deBruijn64tab", Rows.laid_math_bits_deBruijn64tab), ("internal/strconv.uint64pow10", Rows.laid_internal_strconv_uint64pow10), ("scantling/heads.readies", Rows.laid_scantling_heads_readies)]
theorem cells_of_bools {H : Type} {enc : TypeId × Value → H} {P : Program} {w : World} {base : Nat} {sp : Nat → Bool} {held : Bool} {fuel : Nat} {t e : TypeId} {n : Nat} {cs : List Value} {bs : List Bool} {p : List MemPlace}
    (ht : P.underlying t = some (.array n e)) (he : P.underlying e = some .bool) (hce : P.cellsOf e = 1) (hct : P.cellsOf t = n)
    (h : DataW.trod enc P w base sp held fuel t cs = some (.agg (bs.map fun b => .lit (.bool b)), p)) : cs = bs.map Value.bool := by
  obtain ⟨xs, m, rfl, hx, hl, hn, hf⟩ := DataW.trod_array ht h
  have hx1 := congrArg Prod.fst hx
  simp only [DataW.agg.injEq] at hx1
  have hbl : bs.length = n := by
    have := congrArg List.length hx1
    simp at this; omega
  apply List.ext_getElem?
  intro i
  by_cases hi : i < n
  · have h1 := hf i hi
    rw [hce, Nat.mul_one, List.getElem?_eq_getElem (by omega)] at h1
    obtain ⟨b, hc, hb⟩ := DataW.trod_bool he h1
    have h2 : cs[i]? = some (.bool b) := by
      have := congrArg (·[0]?) hc
      simpa [List.getElem?_take, List.getElem?_drop] using this
    have h3 : (bs.map fun b => (DataW.lit (.bool b) : DataW H))[i]? = some (.lit (.bool b)) := by
      rw [hx1, List.getElem?_map, List.getElem?_eq_getElem (by omega), hb]; rfl
    rw [List.getElem?_map, Option.map_eq_some_iff] at h3
    obtain ⟨b', hb', e⟩ := h3
    cases e
    rw [h2, List.getElem?_map, hb']; rfl
  · rw [List.getElem?_eq_none (by omega), List.getElem?_eq_none (by simp; omega)]
def Tabs (W : World) : Prop := Lib.TabIs Tryd.prog W "internal/strconv.uint64pow10" .u64 Lib.pow10Tab ∧ W.var? Tryd.prog "scantling/heads.readies" = some (gdat0.map Value.bool).toArray
theorem tab_of_laid {W : World} (h : laidMetH Tryd.prog lst W) : Tabs W := by
  have h' : laidMet Tryd.prog lst W := h
  unfold lst at h'
  refine ⟨?_, ?_⟩
  · have e : (Rows.laid_internal_strconv_uint64pow10 : DataW Unit) = Lib.tabData .u64 Lib.pow10Tab := by kernel_rfl
    have h2 := h'.tail.tail
    rw [e] at h2
    exact Lib.tabIs_of_head (g := 2) (t := 159) (e := 44) (n := 20) (by kernel_rfl) (by kernel_rfl) Tryd.underlying159 Tryd.underlying44 (by kernel_rfl) (by kernel_rfl) h2
  · have e : (Rows.laid_scantling_heads_readies : DataW Unit) = .agg (gdat0.map fun b => .lit (.bool b)) := by kernel_rfl
    have h2 := h'.tail.tail.tail
    rw [e] at h2
    obtain ⟨ps, ⟨g', t', cs, fuel, p, q, hg', ht', hvar, hd, _, _⟩, _⟩ := h2
    have hg : Tryd.prog.globalNamed "scantling/heads.readies" = some 0 := by kernel_rfl
    have hty : (Tryd.prog.globals[0]?).map (·.type) = some 68 := by kernel_rfl
    obtain rfl := Option.some.inj (hg.symm.trans hg')
    obtain rfl := Option.some.inj (hty.symm.trans ht')
    rw [hvar, ← cells_of_bools Tryd.underlying68 (e := 4) Tryd.underlying4 (by kernel_rfl) (by kernel_rfl) hd]
theorem gl_of_tab {W : World} (h : Tabs W) : Gl ⟨W, fun _ => False, fun _ h => h.elim⟩ := by
  obtain ⟨h1, h2⟩ := h
  intro p hp
  unfold gtab at hp
  rcases List.mem_cons.1 hp with rfl | hp
  · refine ⟨fun h => h, ?_⟩
    unfold Lib.TabIs World.var? at h1
    have hg : Tryd.prog.globalNamed "internal/strconv.uint64pow10" = some 2 := by kernel_rfl
    rw [hg] at h1
    simp only [Option.bind_some] at h1
    split at h1
    · rename_i cs t fr hc
      refine ⟨t, fr, ?_⟩
      show W.heap[2]? = _
      rw [hc]
      simp only [Option.some.injEq] at h1
      rw [h1]
      simp [Lib.pow10Tab]
    · cases h1
  · obtain rfl := List.mem_singleton.1 hp
    refine ⟨fun h => h, ?_⟩
    unfold World.var? at h2
    have hg : Tryd.prog.globalNamed "scantling/heads.readies" = some 0 := by kernel_rfl
    rw [hg] at h2
    simp only [Option.bind_some] at h2
    split at h2
    · rename_i cs t fr hc
      refine ⟨t, fr, ?_⟩
      show W.heap[0]? = _
      rw [hc]
      simp only [Option.some.injEq] at h2
      rw [h2]
    · cases h2
def tabCells : DataW Unit → Array Value
  | .agg l => (l.map fun d => match d with | .lit (.int k z) => Value.int k z | .lit (.bool b) => Value.bool b | _ => undef).toArray
  | _ => #[]
def fillTab (d : DataW Unit) : Obj → Obj
  | .cells _ t fr => .cells (tabCells d) t fr
  | o => o
noncomputable def laidWorld (os : Os) : World :=
  let w0 := World.holding Tryd.prog os ⟨#[], #[], []⟩
  { w0 with heap := (((w0.heap.modify 0 (fillTab Rows.laid_scantling_heads_readies)).modify 2 (fillTab Rows.laid_internal_strconv_uint64pow10)).modify 3 (fillTab Rows.laid_math_bits_deBruijn32tab)).modify 4 (fillTab Rows.laid_math_bits_deBruijn64tab) }
theorem laid_met (os : Os) (args : Array Value) : laidMetH Tryd.prog lst ((laidWorld os).forCall (fun _ _ => 0) ⟨#[], args, []⟩).memory :=
  laidMetH_of_parts (laidMet_of_run' 8 (by kernel_rfl) (by kernel_rfl)) (by kernel_rfl)
theorem weigh {H : Type} {P : Program} {ts : List TypeId} {ds : List (DataW H)} (h : (DataW.weightsEach P ts ds).all (· ≤ reachBytes) = true) (j : Nat) {t : TypeId} {d : DataW H} (ht : ts[j]? = some t) (hd : ds[j]? = some d) : ∀ n ∈ d.weights P t, n ≤ reachBytes := fun n hn => by
  have := List.all_eq_true.1 h n (DataW.weights_mem_each ht hd n hn)
  simpa using this
end Go.Proofs.YtdidjelkkanenaaDoor.V
