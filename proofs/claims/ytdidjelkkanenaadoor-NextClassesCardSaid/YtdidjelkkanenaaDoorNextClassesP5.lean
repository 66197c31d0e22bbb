/-
  The texts that the law's proof needs, part 5.
-/
import Derived.Carry
import Derived.ChangeSame
import Derived.Deep.Slices
import Derived.Handed
import Derived.KernelRfl
import Derived.LaidHandle
import Derived.LaidLaws
import Derived.LaidMore
import Derived.Laws.BytesArg
import Derived.Lib.LaidTab
import Derived.OpenShut
import Derived.ProofKit
import Derived.RowKit
import Derived.SizedLaws
import Derived.Stop.LaidErr
import Derived.Test.YtdidjelkkanenaaDoorRows
import Derived.WalkKit
import Derived.WideKeyElems2
import Derived.Test.YtdidjelkkanenaaDoorNextClassesP4
namespace Go.Proofs.YtdidjelkkanenaaDoor.V
open Go
set_option linter.unusedVariables false
inductive Tr (l : List SNode) : Int → Int → Prop
  | leaf {i : Int} {e : SNode} (he : at? l i = some e) (hk : e.1 = 1 ∨ e.1 = 2 ∨ e.1 = 3) (hx : e.1 = 3 → e.2.2.2.2.2.2 ≠ []) (h0 : e.2.1 = 0 ∧ e.2.2.1 = 0) : Tr l i i
  | one {f i : Int} {e : SNode} (he : at? l i = some e) (hk : e.1 = 6 ∨ e.1 = 7 ∨ e.1 = 8 ∨ e.1 = 9) (ha : e.2.1 = i - 1) (hb : e.2.2.1 = 0) (hr : e.1 = 7 → 0 ≤ e.2.2.2.1 ∧ e.2.2.2.1 ≤ e.2.2.2.2.1 ∧ e.2.2.2.2.1 ≤ 255) (h : Tr l f (i - 1)) : Tr l f i
  | two {f p i : Int} {e : SNode} (he : at? l i = some e) (hk : e.1 = 4 ∨ e.1 = 5) (ha : e.2.1 = p - 1) (hb : e.2.2.1 = i - 1) (h1 : Tr l p (i - 1)) (h2 : Tr l f (p - 1)) : Tr l f i
theorem Tr.le {l : List SNode} {f i : Int} (h : Tr l f i) : 0 ≤ f ∧ f ≤ i := by
  induction h with
  | leaf he _ _ _ => exact ⟨(at_bound he).1, Int.le_refl _⟩
  | one _ _ _ _ _ _ ih => omega
  | two _ _ _ _ _ _ i1 i2 => omega
theorem Tr.lt {l : List SNode} {f i : Int} (h : Tr l f i) : i < (l.length : Int) := by
  cases h with
  | leaf he _ _ _ => exact (at_bound he).2
  | one he _ _ _ _ _ => exact (at_bound he).2
  | two he _ _ _ _ _ => exact (at_bound he).2
theorem Tr.sub {l : List SNode} {f i : Int} (h : Tr l f i) : ∀ k, f ≤ k → k ≤ i → ∃ g, Tr l g k ∧ f ≤ g := by
  induction h with
  | leaf he hk hx h0 =>
    rename_i i e
    intro k h1 h2
    obtain rfl : k = i := by omega
    exact ⟨k, .leaf he hk hx h0, Int.le_refl _⟩
  | one he hk ha hb hr h ih =>
    rename_i f i e
    intro k h1 h2
    by_cases hki : k = i
    · subst hki; exact ⟨f, .one he hk ha hb hr h, Int.le_refl _⟩
    · exact ih k h1 (by omega)
  | two he hk ha hb h1 h2 i1 i2 =>
    rename_i f p i e
    intro k k1 k2
    have l1 := h1.le
    have l2 := h2.le
    by_cases hki : k = i
    · subst hki; exact ⟨f, .two he hk ha hb h1 h2, Int.le_refl _⟩
    · by_cases hkp : p ≤ k
      · obtain ⟨g, g1, g2⟩ := i1 k hkp (by omega)
        exact ⟨g, g1, by omega⟩
      · exact i2 k k1 (by omega)
def FirstOk (l : List SNode) (i r : Int) : Prop := r = -1 ∨ Tr l r i
theorem first_ex {l : List SNode} (hl : l.length ≤ 1000) (ht : ∀ n ∈ l, n.2.2.2.2.2.2.length ≤ 140737488351232) : ∀ (m : Nat) (i : Int), i < (m : Int) → -1 ≤ i → i < (l.length : Int) → ∃ r, ref04_First.n (m + 1) l i r ∧ FirstOk l i r := by
  intro m
  induction m with
  | zero =>
    intro i h1 h2 h3
    exact ⟨-1, ⟨fun _ => rfl, fun h => absurd (by omega) (df h)⟩, .inl rfl⟩
  | succ m ih =>
    intro i h1 h2 h3
    by_cases h0 : i < 0
    · exact ⟨-1, ⟨fun _ => rfl, fun h => absurd h0 (df h)⟩, .inl rfl⟩
    · obtain ⟨e, he, hm⟩ := at_in (xs := l) (i := i) (by omega) h3
      have i1 : InR .i64 (i - 1) := i64_of (by omega) (by omega)
      obtain ⟨p, hp, hpo⟩ := ih (i - 1) (by omega) (by omega) (by omega)
      have one : ∀ w : SNode, (e = w → w.2.1 = i - 1 ∧ (w.1 = 6 ∨ w.1 = 7 ∨ w.1 = 8 ∨ w.1 = 9) ∧ (w.1 = 7 → 0 ≤ w.2.2.2.1 ∧ w.2.2.2.1 ≤ w.2.2.2.2.1 ∧ w.2.2.2.2.1 ≤ 255) ∧ w.2.2.1 = 0) → ∃ r, ref04_First.j1 (ref04_First.n (m + 1)) l i r e w ∧ FirstOk l i r := by
        intro w hw
        by_cases hew : e = w
        · refine ⟨p, ⟨i1, p, hp, fun h => by simp [hew] at h, fun _ => rfl⟩, ?_⟩
          rcases hpo with rfl | p0
          · exact .inl rfl
          · obtain ⟨w1, w2, w3, w4⟩ := hw hew
            exact .inr (.one he (by rw [hew]; exact w2) (by rw [hew]; exact w1) (by rw [hew]; exact w4) (by rw [hew]; exact w3) p0)
        · exact ⟨-1, ⟨i1, p, hp, fun _ => rfl, fun h => by simp at h; exact absurd h hew⟩, .inl rfl⟩
      have two : (e.1 = 4 ∨ e.1 = 5) → ∃ r, ref04_First.j2 (ref04_First.n (m + 1)) l i r e true ∧ FirstOk l i r := by
        intro hk
        by_cases hp0 : p < 0
        · exact ⟨-1, ⟨fun _ => ⟨i1, i1, p, hp, fun _ => rfl, fun h => absurd hp0 (df h)⟩, (fun h => by cases h)⟩, .inl rfl⟩
        · have htr : Tr l p (i - 1) := by
            rcases hpo with rfl | h
            · omega
            · exact h
          have p1 := htr.le
          obtain ⟨q, hq, hqo⟩ := ih (p - 1) (by omega) (by omega) (by omega)
          have j1 : InR .i64 (p - 1) := i64_of (by omega) (by omega)
          by_cases hew : e = (e.1, p - 1, i - 1, 0, 0, (0#256), ([] : Str))
          · refine ⟨q, ⟨fun _ => ⟨i1, i1, p, hp, fun h => absurd (dt h) hp0, fun _ => ⟨j1, j1, q, hq, false, ?_, (fun h => by cases h), fun _ => rfl⟩⟩, (fun h => by cases h)⟩, ?_⟩
            · have : (e != (e.1, p - 1, i - 1, 0, 0, (0#256), ([] : Str))) = false := by rw [← hew]; simp
              exact this.symm
            · rcases hqo with rfl | q0
              · exact .inl rfl
              · exact .inr (.two he hk (by rw [hew]) (by rw [hew]) htr q0)
          · refine ⟨-1, ⟨fun _ => ⟨i1, i1, p, hp, fun h => absurd (dt h) hp0, fun _ => ⟨j1, j1, q, hq, true, ?_, fun _ => rfl, (fun h => by cases h)⟩⟩, (fun h => by cases h)⟩, .inl rfl⟩
            exact (bne_iff_ne.2 hew).symm
      have three : (e.1 = 6 ∨ e.1 = 7 ∨ e.1 = 8 ∨ e.1 = 9) → ∃ r, ref04_First.j3 (ref04_First.n (m + 1)) l i r e true ∧ FirstOk l i r := by
        intro hk
        by_cases h7 : e.1 = 7
        · by_cases hb : ((decide (e.2.2.2.1 < 0)) || (decide (e.2.2.2.2.1 < e.2.2.2.1)) || (decide (255 < e.2.2.2.2.1))) = true
          · exact ⟨-1, ⟨fun _ => ⟨i1, fun _ => ⟨_, rfl, fun _ => rfl, fun h => by rw [hb] at h; cases h⟩, fun h => by simp [h7] at h⟩, (fun h => by cases h)⟩, .inl rfl⟩
          · obtain ⟨r, hr1, hr2⟩ := one (e.1, i - 1, 0, e.2.2.2.1, e.2.2.2.2.1, (0#256), ([] : Str)) fun _ => ⟨rfl, hk, fun _ => by
              simp only [Bool.or_eq_true, decide_eq_true_eq, not_or] at hb
              exact ⟨by show (0 : Int) ≤ e.2.2.2.1; omega, by show e.2.2.2.1 ≤ e.2.2.2.2.1; omega, by show e.2.2.2.2.1 ≤ 255; omega⟩, rfl⟩
            exact ⟨r, ⟨fun _ => ⟨i1, fun _ => ⟨_, rfl, fun h => absurd h hb, fun _ => hr1⟩, fun h => by simp [h7] at h⟩, (fun h => by cases h)⟩, hr2⟩
        · obtain ⟨r, hr1, hr2⟩ := one (e.1, i - 1, 0, 0, 0, (0#256), ([] : Str)) fun _ => ⟨rfl, hk, fun h => absurd h h7, rfl⟩
          exact ⟨r, ⟨fun _ => ⟨i1, fun h => by simp at h; exact absurd h h7, fun _ => hr1⟩, (fun h => by cases h)⟩, hr2⟩
      have ne : ∀ {a b : Int}, a ≠ b → (a == b) = true → False := fun h k => h (eq_of_beq k)
      have last : ∀ b : Bool, (b = true ↔ e.1 = 9) → e.1 ≠ 6 → e.1 ≠ 7 → e.1 ≠ 8 → ∃ r, ref04_First.j3 (ref04_First.n (m + 1)) l i r e b ∧ FirstOk l i r := by
        intro b hb n6 n7 n8
        cases b
        · have n9 : e.1 ≠ 9 := fun h => by have := hb.2 h; cases this
          by_cases h4 : e.1 = 4
          · obtain ⟨r, hr1, hr2⟩ := two (.inl h4)
            exact ⟨r, ⟨(fun h => by cases h), fun _ => ⟨fun h => by rw [h]; exact hr1, fun h => by simp [h4] at h⟩⟩, hr2⟩
          · by_cases h5 : e.1 = 5
            · obtain ⟨r, hr1, hr2⟩ := two (.inr h5)
              have e5 : (e.1 == 5) = true := by simp [h5]
              exact ⟨r, ⟨(fun h => by cases h), fun _ => ⟨fun h => by simp at h; exact absurd h h4, fun _ => by rw [e5]; exact hr1⟩⟩, hr2⟩
            · have e5 : (e.1 == 5) = false := by simp [h5]
              exact ⟨-1, ⟨(fun h => by cases h), fun _ => ⟨fun h => by simp at h; exact absurd h h4, fun _ => by rw [e5]; exact ⟨(fun h => by cases h), fun _ => rfl⟩⟩⟩, .inl rfl⟩
        · exact three (.inr (.inr (.inr (hb.1 rfl))))
      suffices h : ∃ r, (∃ e6 : SNode, at? l i = some e6 ∧ _) ∧ FirstOk l i r by
        obtain ⟨r, hr, ho⟩ := h
        exact ⟨r, ⟨fun h => absurd (dt h) h0, fun _ => hr⟩, ho⟩
      by_cases k1 : e.1 = 1
      · by_cases hw : e = (e.1, 0, 0, 0, 0, (0#256), ([] : Str))
        · exact ⟨i, ⟨e, he, fun _ => ⟨fun h => by rw [← hw] at h; simp at h, fun _ => rfl⟩, fun h => by simp [k1] at h⟩, .inr (.leaf he (.inl k1) (fun h => by omega) ⟨by rw [hw], by rw [hw]⟩)⟩
        · exact ⟨-1, ⟨e, he, fun _ => ⟨fun _ => rfl, fun h => by simp at h; exact absurd h hw⟩, fun h => by simp [k1] at h⟩, .inl rfl⟩
      · by_cases k2 : e.1 = 2
        · by_cases hw : e = (e.1, 0, 0, 0, 0, e.2.2.2.2.2.1, ([] : Str))
          · exact ⟨i, ⟨e, he, fun h => (ne k1 h).elim, fun _ => ⟨fun _ => ⟨false, by rw [← hw]; simp, (fun h => by cases h), fun _ => rfl⟩, fun h => by simp [k2] at h⟩⟩, .inr (.leaf he (.inr (.inl k2)) (fun h => by omega) ⟨by rw [hw], by rw [hw]⟩)⟩
          · exact ⟨-1, ⟨e, he, fun h => (ne k1 h).elim, fun _ => ⟨fun _ => ⟨true, (bne_iff_ne.2 hw).symm, fun _ => rfl, (fun h => by cases h)⟩, fun h => by simp [k2] at h⟩⟩, .inl rfl⟩
        · by_cases k3 : e.1 = 3
          · obtain ⟨t, htx, htn⟩ := text_ex (ht e hm)
            cases t
            · exact ⟨-1, ⟨e, he, fun h => (ne k1 h).elim, fun _ => ⟨fun h => (ne k2 h).elim, fun _ => ⟨fun _ => ⟨false, htx, fun _ => rfl, (fun h => by cases h)⟩, fun h => by simp [k3] at h⟩⟩⟩, .inl rfl⟩
            · by_cases hw : e = (e.1, 0, 0, 0, 0, (0#256), e.2.2.2.2.2.2)
              · exact ⟨i, ⟨e, he, fun h => (ne k1 h).elim, fun _ => ⟨fun h => (ne k2 h).elim, fun _ => ⟨fun _ => ⟨true, htx, (fun h => by cases h), fun _ => ⟨false, by rw [← hw]; simp, (fun h => by cases h), fun _ => rfl⟩⟩, fun h => by simp [k3] at h⟩⟩⟩, .inr (.leaf he (.inr (.inr k3)) (fun _ => htn rfl) ⟨by rw [hw], by rw [hw]⟩)⟩
              · exact ⟨-1, ⟨e, he, fun h => (ne k1 h).elim, fun _ => ⟨fun h => (ne k2 h).elim, fun _ => ⟨fun _ => ⟨true, htx, (fun h => by cases h), fun _ => ⟨true, (bne_iff_ne.2 hw).symm, fun _ => rfl, (fun h => by cases h)⟩⟩, fun h => by simp [k3] at h⟩⟩⟩, .inl rfl⟩
          · by_cases k6 : e.1 = 6
            · obtain ⟨r, hr1, hr2⟩ := three (.inl k6)
              exact ⟨r, ⟨e, he, fun h => (ne k1 h).elim, fun _ => ⟨fun h => (ne k2 h).elim, fun _ => ⟨fun h => (ne k3 h).elim, fun _ => ⟨fun h => by rw [h]; exact hr1, fun h => by simp [k6] at h⟩⟩⟩⟩, hr2⟩
            · by_cases k7 : e.1 = 7
              · obtain ⟨r, hr1, hr2⟩ := three (.inr (.inl k7))
                exact ⟨r, ⟨e, he, fun h => (ne k1 h).elim, fun _ => ⟨fun h => (ne k2 h).elim, fun _ => ⟨fun h => (ne k3 h).elim, fun _ => ⟨fun h => (ne k6 h).elim, fun _ => ⟨fun h => by rw [h]; exact hr1, fun h => by simp [k7] at h⟩⟩⟩⟩⟩, hr2⟩
              · by_cases k8 : e.1 = 8
                · obtain ⟨r, hr1, hr2⟩ := three (.inr (.inr (.inl k8)))
                  exact ⟨r, ⟨e, he, fun h => (ne k1 h).elim, fun _ => ⟨fun h => (ne k2 h).elim, fun _ => ⟨fun h => (ne k3 h).elim, fun _ => ⟨fun h => (ne k6 h).elim, fun _ => ⟨fun h => (ne k7 h).elim, fun _ => ⟨fun h => by rw [h]; exact hr1, fun h => by simp [k8] at h⟩⟩⟩⟩⟩⟩, hr2⟩
                · obtain ⟨r, hr1, hr2⟩ := last (e.1 == 9) beq_iff_eq k6 k7 k8
                  exact ⟨r, ⟨e, he, fun h => (ne k1 h).elim, fun _ => ⟨fun h => (ne k2 h).elim, fun _ => ⟨fun h => (ne k3 h).elim, fun _ => ⟨fun h => (ne k6 h).elim, fun _ => ⟨fun h => (ne k7 h).elim, fun _ => ⟨fun h => (ne k8 h).elim, fun _ => hr1⟩⟩⟩⟩⟩⟩, hr2⟩
theorem form_ex {d : List SNode} (hl : d.length ≤ 1000) (ht : ∀ n ∈ d, n.2.2.2.2.2.2.length ≤ 140737488351232) : ∃ r, ref04_Form d r ∧ (r = true → Tr d 0 ((d.length : Int) - 1)) := by
  obtain ⟨r, hr, ho⟩ := first_ex hl ht d.length ((d.length : Int) - 1) (by omega) (by omega) (by omega)
  refine ⟨_, ⟨fun _ => i64_of (by omega) (by omega), r, fun _ => ⟨_, hr⟩, rfl⟩, fun h => ?_⟩
  simp only [Bool.and_eq_true, decide_eq_true_eq, beq_iff_eq] at h
  rcases ho with rfl | h2
  · omega
  · rw [h.2] at h2; exact h2
def powW (a : Nat) (t : Nat) : Nat := if t = 0 then 1 else if a = 0 then 0 else if a = 1 then 1 else 2
theorem powW_le (a t : Nat) : powW a t ≤ 2 := by
  unfold powW
  split
  · omega
  · split
    · omega
    · split <;> omega
theorem powW_step {a : Nat} (ha : a ≤ 2) (t : Nat) : min 2 (powW a t * a) = powW a (t + 1) := by
  have : a = 0 ∨ a = 1 ∨ a = 2 := by omega
  unfold powW
  by_cases ht : t = 0
  · subst ht
    rcases this with rfl | rfl | rfl <;> simp
  · rcases this with rfl | rfl | rfl <;> simp [ht]
def sumW (a lo : Nat) : Nat → Nat
  | 0 => 0
  | m + 1 => min 2 (sumW a lo m + powW a (lo + m))
theorem sumW_le (a lo m : Nat) : sumW a lo m ≤ 2 := by
  cases m with
  | zero => simp [sumW]
  | succ m => simp only [sumW]; omega
theorem sumW_zero (a lo : Nat) : ∀ m, sumW a lo m ≠ 0 ↔ ∃ t, t < m ∧ powW a (lo + t) ≠ 0
  | 0 => by simp [sumW]
  | m + 1 => by
    have ih := sumW_zero a lo m
    simp only [sumW]
    constructor
    · intro h
      by_cases h1 : sumW a lo m ≠ 0
      · obtain ⟨t, h2, h3⟩ := ih.1 h1
        exact ⟨t, by omega, h3⟩
      · exact ⟨m, by omega, by omega⟩
    · rintro ⟨t, h1, h2⟩
      by_cases htm : t = m
      · subst htm; omega
      · have := ih.2 ⟨t, by omega, h2⟩
        omega
theorem powW_zero {a t : Nat} : powW a t ≠ 0 ↔ t = 0 ∨ a ≠ 0 := by
  unfold powW
  by_cases h1 : t = 0
  · simp [h1]
  · by_cases h2 : a = 0
    · simp [h1, h2]
    · rw [if_neg h1, if_neg h2]
      split <;> simp [h1, h2]
structure NOk (d : List SNode) : Prop where
  two : ∀ (i : Int) n, at? d i = some n → (n.1 = 4 ∨ n.1 = 5) → (0 ≤ n.2.1 ∧ n.2.1 < i) ∧ (0 ≤ n.2.2.1 ∧ n.2.2.1 < i)
  one : ∀ (i : Int) n, at? d i = some n → (n.1 = 6 ∨ n.1 = 7 ∨ n.1 = 8 ∨ n.1 = 9) → 0 ≤ n.2.1 ∧ n.2.1 < i
  rep : ∀ (i : Int) n, at? d i = some n → n.1 = 7 → 0 ≤ n.2.2.2.1 ∧ n.2.2.2.1 ≤ n.2.2.2.2.1 ∧ n.2.2.2.2.1 ≤ 255
  kind : ∀ (i : Int) n, at? d i = some n → 1 ≤ n.1 ∧ n.1 ≤ 9
  ntx : ∀ (i : Int) n, at? d i = some n → n.1 = 3 → n.2.2.2.2.2.2 ≠ []
theorem Tr.node {l : List SNode} {f i : Int} (h : Tr l f i) {n : SNode} (hn : at? l i = some n) :
    ((n.1 = 4 ∨ n.1 = 5) → (0 ≤ n.2.1 ∧ n.2.1 < i) ∧ (0 ≤ n.2.2.1 ∧ n.2.2.1 < i)) ∧ ((n.1 = 6 ∨ n.1 = 7 ∨ n.1 = 8 ∨ n.1 = 9) → 0 ≤ n.2.1 ∧ n.2.1 < i) ∧ (n.1 = 7 → 0 ≤ n.2.2.2.1 ∧ n.2.2.2.1 ≤ n.2.2.2.2.1 ∧ n.2.2.2.2.1 ≤ 255) ∧ (1 ≤ n.1 ∧ n.1 ≤ 9) ∧ (n.1 = 3 → n.2.2.2.2.2.2 ≠ []) := by
  cases h with
  | leaf he hk hx h0 =>
    rw [hn] at he; cases he
    exact ⟨fun h => by omega, fun h => by omega, fun h => by omega, by omega, hx⟩
  | one he hk ha hb hr h =>
    rw [hn] at he; cases he
    have := h.le
    exact ⟨fun h => by omega, fun h => by omega, hr, by omega, fun h => by omega⟩
  | two he hk ha hb h1 h2 =>
    rw [hn] at he; cases he
    have := h1.le
    have := h2.le
    exact ⟨fun h => by omega, fun h => by omega, fun h => by omega, by omega, fun h => by omega⟩
theorem Tr.at {d : List SNode} (h : Tr d 0 ((d.length : Int) - 1)) {i : Int} {n : SNode} (hn : at? d i = some n) : ∃ g, Tr d g i := by
  have hb := at_bound hn
  obtain ⟨g, hg, _⟩ := h.sub i hb.1 (by omega)
  exact ⟨g, hg⟩
theorem Tr.nok {d : List SNode} (h : Tr d 0 ((d.length : Int) - 1)) : NOk d :=
  ⟨fun i n hn => let ⟨g, hg⟩ := h.at hn; (hg.node hn).1, fun i n hn => let ⟨g, hg⟩ := h.at hn; (hg.node hn).2.1, fun i n hn => let ⟨g, hg⟩ := h.at hn; (hg.node hn).2.2.1, fun i n hn => let ⟨g, hg⟩ := h.at hn; (hg.node hn).2.2.2.1, fun i n hn => let ⟨g, hg⟩ := h.at hn; (hg.node hn).2.2.2.2⟩
def WV (d : List SNode) : Nat → Int → Nat
  | 0, _ => 0
  | k + 1, i => match at? d i with
    | none => 0
    | some n =>
      if n.1 = 1 then 1
      else if n.1 = 4 then min 2 (WV d k n.2.1 * WV d k n.2.2.1)
      else if n.1 = 5 then min 2 (WV d k n.2.1 + WV d k n.2.2.1)
      else if n.1 = 6 then (if 0 < WV d k n.2.1 then 2 else 1)
      else if n.1 = 7 then sumW (WV d k n.2.1) n.2.2.2.1.toNat (n.2.2.2.2.1 + 1 - n.2.2.2.1).toNat
      else 0
theorem WV_le (d : List SNode) (k : Nat) (i : Int) : WV d k i ≤ 2 := by
  cases k with
  | zero => simp [WV]
  | succ k =>
    unfold WV
    cases at? d i with
    | none => simp
    | some n =>
      simp only
      split
      · omega
      · split
        · omega
        · split
          · omega
          · split
            · split <;> omega
            · split
              · exact sumW_le _ _ _
              · omega
theorem WV_fuel {d : List SNode} (hd : NOk d) : ∀ (k k' : Nat) (i : Int), i < (k : Int) → i < (k' : Int) → WV d k i = WV d k' i
  | 0, k', i, h, h' => by
    have : at? d i = none := by
      unfold at?
      rw [if_neg (by omega)]
    cases k' <;> simp [WV, this]
  | k + 1, 0, i, h, h' => by
    have : at? d i = none := by
      unfold at?
      rw [if_neg (by omega)]
    simp [WV, this]
  | k + 1, k' + 1, i, h, h' => by
    cases hn : at? d i with
    | none => simp only [WV, hn]
    | some n =>
      simp only [WV, hn]
      by_cases h4 : n.1 = 4
      · obtain ⟨⟨a, b⟩, c, e⟩ := hd.two _ n hn (.inl h4)
        rw [WV_fuel hd k k' n.2.1 (by omega) (by omega), WV_fuel hd k k' n.2.2.1 (by omega) (by omega)]
      · by_cases h5 : n.1 = 5
        · obtain ⟨⟨a, b⟩, c, e⟩ := hd.two _ n hn (.inr h5)
          rw [WV_fuel hd k k' n.2.1 (by omega) (by omega), WV_fuel hd k k' n.2.2.1 (by omega) (by omega)]
        · by_cases h6 : n.1 = 6 ∨ n.1 = 7
          · obtain ⟨a, b⟩ := hd.one _ n hn (by omega)
            rw [WV_fuel hd k k' n.2.1 (by omega) (by omega)]
            simp [h4, h5]
          · simp only [not_or] at h6
            simp [h4, h5, h6.1, h6.2]
def wv (d : List SNode) (i : Int) : Nat := WV d d.length i
theorem wv_at {d : List SNode} (hd : NOk d) {i : Int} {n : SNode} (hn : at? d i = some n) : wv d i =
    (if n.1 = 1 then 1
      else if n.1 = 4 then min 2 (wv d n.2.1 * wv d n.2.2.1)
      else if n.1 = 5 then min 2 (wv d n.2.1 + wv d n.2.2.1)
      else if n.1 = 6 then (if 0 < wv d n.2.1 then 2 else 1)
      else if n.1 = 7 then sumW (wv d n.2.1) n.2.2.2.1.toNat (n.2.2.2.2.1 + 1 - n.2.2.2.1).toNat
      else 0) := by
  obtain ⟨hb0, hb1⟩ := at_bound hn
  unfold wv
  rw [WV_fuel hd d.length (d.length + 1) i hb1 (by omega)]
  simp only [WV, hn]
theorem nz_atN {d : List SNode} (hd : NOk d) {i : Int} {n : SNode} (h : at? d i = some n) : nz d i =
    (if n.1 = 1 then true else if n.1 = 4 then nz d n.2.1 && nz d n.2.2.1 else if n.1 = 5 then nz d n.2.1 || nz d n.2.2.1 else if n.1 = 6 then true else if n.1 = 7 then decide (n.2.2.2.1 = 0) || nz d n.2.1 else false) := by
  obtain ⟨k, rfl, hk⟩ := at_nn h
  have e := nzL_at hk
  have e2 : nz d (k : Int) = nzN ((nzL d).take k) n := by unfold nz; rw [at_nat, e]; rfl
  rw [e2]
  unfold nzN
  by_cases h1 : n.1 = 1
  · simp [h1]
  · by_cases h4 : n.1 = 4
    · obtain ⟨⟨a, b⟩, c, e⟩ := hd.two _ n h (.inl h4)
      rw [if_neg h1, if_pos h4, if_neg h1, if_pos h4, at_take a b, at_take c e]; rfl
    · by_cases h5 : n.1 = 5
      · obtain ⟨⟨a, b⟩, c, e⟩ := hd.two _ n h (.inr h5)
        rw [if_neg h1, if_neg h4, if_pos h5, if_neg h1, if_neg h4, if_pos h5, at_take a b, at_take c e]; rfl
      · by_cases h6 : n.1 = 6
        · simp [h6]
        · by_cases h7 : n.1 = 7
          · obtain ⟨a, b⟩ := hd.one _ n h (.inr (.inl h7))
            rw [if_neg h1, if_neg h4, if_neg h5, if_neg h6, if_pos h7, if_neg h1, if_neg h4, if_neg h5, if_neg h6, if_pos h7, at_take a b]; rfl
          · simp [h1, h4, h5, h6, h7]
theorem wv_nz {d : List SNode} (hd : NOk d) : ∀ (k : Nat) (i : Int) (n : SNode), i < (k : Int) → at? d i = some n → (wv d i ≠ 0 ↔ nz d i = true)
  | 0, i, n, hi, hn => by have := at_bound hn; omega
  | k + 1, i, n, hi, hn => by
    have ih := wv_nz hd k
    rw [wv_at hd hn, nz_atN hd hn]
    by_cases h1 : n.1 = 1
    · simp [h1]
    · by_cases h4 : n.1 = 4
      · obtain ⟨⟨a, b⟩, c, e⟩ := hd.two _ n hn (.inl h4)
        obtain ⟨m1, hm1⟩ := at_lt hn a b
        obtain ⟨m2, hm2⟩ := at_lt hn c e
        rw [if_neg h1, if_pos h4, if_neg h1, if_pos h4, Bool.and_eq_true, ← ih _ m1 (by omega) hm1, ← ih _ m2 (by omega) hm2, ← Nat.mul_ne_zero_iff]
        omega
      · by_cases h5 : n.1 = 5
        · obtain ⟨⟨a, b⟩, c, e⟩ := hd.two _ n hn (.inr h5)
          obtain ⟨m1, hm1⟩ := at_lt hn a b
          obtain ⟨m2, hm2⟩ := at_lt hn c e
          rw [if_neg h1, if_neg h4, if_pos h5, if_neg h1, if_neg h4, if_pos h5, Bool.or_eq_true, ← ih _ m1 (by omega) hm1, ← ih _ m2 (by omega) hm2]
          omega
        · by_cases h6 : n.1 = 6
          · simp [h6]; split <;> omega
          · by_cases h7 : n.1 = 7
            · obtain ⟨a, b⟩ := hd.one _ n hn (.inr (.inl h7))
              obtain ⟨r0, r1, r2⟩ := hd.rep _ n hn h7
              obtain ⟨m1, hm1⟩ := at_lt hn a b
              rw [if_neg h1, if_neg h4, if_neg h5, if_neg h6, if_pos h7, if_neg h1, if_neg h4, if_neg h5, if_neg h6, if_pos h7, sumW_zero, Bool.or_eq_true, ← ih _ m1 (by omega) hm1, decide_eq_true_eq]
              constructor
              · rintro ⟨t, h1, h2⟩
                rcases powW_zero.1 h2 with h3 | h3
                · exact .inl (by omega)
                · exact .inr h3
              · rintro (h3 | h3)
                · exact ⟨0, by omega, powW_zero.2 (.inl (by omega))⟩
                · exact ⟨0, by omega, powW_zero.2 (.inr h3)⟩
            · simp [h1, h4, h5, h6, h7]
theorem ROk.nok {d : List SNode} (h : ROk d) : NOk d := ⟨h.two, h.one, h.rep, h.kind, h.ntx⟩
theorem ways_l3 {l : List Int} {a : Nat} (ha : a ≤ 2) {e : SNode} (h1 : at? l e.2.1 = some (a : Int)) {t : Nat} (ht : t ≤ 255) {Z : Int → Prop} (hZ : Z (powW a t : Int)) :
    ∀ (m v : Nat), v + m = t → ∃ k, ref08_Ways.l3 l e t Z k (powW a v : Int) v
  | 0, v, hv => by
    obtain rfl : v = t := by omega
    exact ⟨1, fun h => absurd (dt h) (by omega), fun _ => hZ⟩
  | m + 1, v, hv => by
    obtain ⟨k, hk⟩ := ways_l3 ha h1 ht hZ m (v + 1) (by omega)
    have e1 : (min 2 ((powW a v : Int) * (a : Int))) = (powW a (v + 1) : Int) := by
      have := Int.natCast_mul (powW a v) a
      rw [← powW_step ha v]; omega
    have hle := powW_le a v
    have hle2 : powW a v * a ≤ 4 := by
      have := Nat.mul_le_mul hle ha
      omega
    exact ⟨k + 1, fun _ => ⟨a, h1, i64_of (by omega) (by rw [← Int.natCast_mul]; omega), i64_of (by omega) (by omega), by rw [e1]; exact hk⟩, fun h => absurd (by omega) (df h)⟩
theorem ways_l2 {l : List Int} {a : Nat} (ha : a ≤ 2) {e : SNode} (h1 : at? l e.2.1 = some (a : Int)) {lo hi : Nat} (hlo : e.2.2.2.1 = lo) (hhi : e.2.2.2.2.1 = hi) (hh : hi ≤ 255) {Z : Int → Prop} (hZ : Z (sumW a lo (hi + 1 - lo) : Int)) :
    ∀ (m j : Nat), j + m = hi + 1 - lo → ∃ k, ref08_Ways.l2 l e Z k (sumW a lo j : Int) ((lo + j : Nat) : Int)
  | 0, j, hj => by
    obtain rfl : j = hi + 1 - lo := by omega
    exact ⟨1, fun h => absurd (dt h) (by omega), fun _ => hZ⟩
  | m + 1, j, hj => by
    obtain ⟨k, hk⟩ := ways_l2 ha h1 hlo hhi hh hZ m (j + 1) (by omega)
    have hs := sumW_le a lo j
    have hp := powW_le a (lo + j)
    have e1 : (min 2 ((sumW a lo j : Int) + (powW a (lo + j) : Int))) = (sumW a lo (j + 1) : Int) := by simp only [sumW]; omega
    obtain ⟨k3, hk3⟩ := ways_l3 ha h1 (t := lo + j) (by omega) (Z := ref08_Ways.j3 (ref08_Ways.l2 l e Z k) (sumW a lo j : Int) ((lo + j : Nat) : Int)) ⟨i64_of (by omega) (by omega), i64_of (by omega) (by omega), by
      rw [e1]; have : (((lo + j : Nat) : Int) + 1) = ((lo + (j + 1) : Nat) : Int) := by omega
      rw [this]; exact hk⟩ (lo + j) 0 (by omega)
    have e0 : (powW a 0 : Int) = 1 := rfl
    rw [e0] at hk3
    exact ⟨k + 1, fun _ => ⟨k3, hk3⟩, fun h => absurd (by omega) (df h)⟩
theorem ref08_Ways_in {d : List SNode} (hl : d.length ≤ 1000) (hd : NOk d) {i : Nat} (h1 : i < d.length) : ref08_Ways d (i : Int) (wv d (i : Int) : Int) := by
  have hat : ∀ (k : Nat) (a : Int), 0 ≤ a → a < (k : Int) → at? ((List.range k).map fun (j : Nat) => (wv d (j : Int) : Int)) a = some (wv d a : Int) := fun k a h0 h1 => by
    obtain ⟨j, rfl⟩ : ∃ j : Nat, a = (j : Int) := ⟨a.toNat, by omega⟩
    rw [at_nat, List.getElem?_map, List.getElem?_range (by omega)]; rfl
  have key : ∀ (m : Nat) (k : Nat), k + m = i + 1 → ∃ f, ref08_Ways.l1 d (i : Int) (ref08_Ways.j1 (i : Int) (wv d (i : Int) : Int)) f ((List.range k).map fun (j : Nat) => (wv d (j : Int) : Int)) (k : Int) := by
    intro m
    induction m with
    | zero =>
      intro k hk
      exact ⟨1, fun h => absurd (dt h) (by omega), fun _ => ⟨_, hat k _ (by omega) (by omega), rfl⟩⟩
    | succ m ih =>
      intro k hk
      obtain ⟨f, hf⟩ := ih (k + 1) (by omega)
      obtain ⟨e, he, _⟩ := at_in (xs := d) (i := (k : Int)) (by omega) (by omega)
      have hw := wv_at hd he
      have next : ∀ w : Nat, min 2 w = wv d (k : Int) → ref08_Ways.j2 (ref08_Ways.l1 d (i : Int) (ref08_Ways.j1 (i : Int) (wv d (i : Int) : Int)) f) ((List.range k).map fun (j : Nat) => (wv d (j : Int) : Int)) (k : Int) (w : Int) := fun w hw => by
        refine ⟨by simp; omega, i64_of (by omega) (by omega), ?_⟩
        have e1 : (min 2 (w : Int)) = (wv d (k : Int) : Int) := by rw [← hw]; omega
        rw [e1]
        have e2 : ((List.range k).map fun (j : Nat) => (wv d (j : Int) : Int)) ++ [(wv d (k : Int) : Int)] = (List.range (k + 1)).map fun (j : Nat) => (wv d (j : Int) : Int) := by
          rw [List.range_succ, List.map_append]; rfl
        rw [e2]; exact hf
      have ne : ∀ {a b : Int}, a ≠ b → (a == b) = true → False := fun h k => h (eq_of_beq k)
      refine ⟨f + 1, fun _ => ⟨e, he, fun h => ?_, fun k1 => ⟨fun h => ?_, fun k4 => ⟨fun h => ?_, fun k5 => ⟨fun h => ?_, fun k6 => ⟨fun h => ?_, fun k7 => ?_⟩⟩⟩⟩⟩, fun h => absurd (by omega) (df h)⟩
      · have h1 : e.1 = 1 := eq_of_beq h
        exact next 1 (by rw [hw, if_pos h1]; rfl)
      · have h1 : e.1 ≠ 1 := by simpa using k1
        have h4 : e.1 = 4 := eq_of_beq h
        rw [if_neg h1, if_pos h4] at hw
        obtain ⟨⟨a0, a1⟩, b0, b1⟩ := hd.two _ e he (.inl h4)
        have l1 := WV_le d d.length e.2.1
        have l2 := WV_le d d.length e.2.2.1
        have hm : wv d e.2.1 * wv d e.2.2.1 ≤ 4 := by have := Nat.mul_le_mul l1 l2; exact this
        refine ⟨_, hat k _ a0 a1, _, hat k _ b0 b1, i64_of (by rw [← Int.natCast_mul]; omega) (by rw [← Int.natCast_mul]; omega), ?_⟩
        rw [← Int.natCast_mul]
        exact next _ hw.symm
      · have h1 : e.1 ≠ 1 := by simpa using k1
        have h4 : e.1 ≠ 4 := by simpa using k4
        have h5 : e.1 = 5 := eq_of_beq h
        rw [if_neg h1, if_neg h4, if_pos h5] at hw
        obtain ⟨⟨a0, a1⟩, b0, b1⟩ := hd.two _ e he (.inr h5)
        have l1 := WV_le d d.length e.2.1
        have l2 := WV_le d d.length e.2.2.1
        unfold wv at *
        refine ⟨_, hat k _ a0 a1, _, hat k _ b0 b1, i64_of (by omega) (by omega), ?_⟩
        exact next (WV d d.length e.2.1 + WV d d.length e.2.2.1) hw.symm
      · have h1 : e.1 ≠ 1 := by simpa using k1
        have h4 : e.1 ≠ 4 := by simpa using k4
        have h5 : e.1 ≠ 5 := by simpa using k5
        have h6 : e.1 = 6 := eq_of_beq h
        rw [if_neg h1, if_neg h4, if_neg h5, if_pos h6] at hw
        obtain ⟨a0, a1⟩ := hd.one _ e he (.inl h6)
        refine ⟨_, hat k _ a0 a1, fun h => ?_, fun h => ?_⟩
        · exact next 2 (by rw [hw, if_pos (by have := dt h; omega)]; rfl)
        · exact next 1 (by rw [hw, if_neg (by have := df h; omega)]; rfl)
      · have h1 : e.1 ≠ 1 := by simpa using k1
        have h4 : e.1 ≠ 4 := by simpa using k4
        have h5 : e.1 ≠ 5 := by simpa using k5
        have h6 : e.1 ≠ 6 := by simpa using k6
        have h7 : e.1 = 7 := eq_of_beq h
        rw [if_neg h1, if_neg h4, if_neg h5, if_neg h6, if_pos h7] at hw
        obtain ⟨a0, a1⟩ := hd.one _ e he (.inr (.inl h7))
        obtain ⟨r0, r1, r2⟩ := hd.rep _ e he h7
        have hs := sumW_le (wv d e.2.1) e.2.2.2.1.toNat (e.2.2.2.2.1 + 1 - e.2.2.2.1).toNat
        have e1 : (e.2.2.2.2.1 + 1 - e.2.2.2.1).toNat = e.2.2.2.2.1.toNat + 1 - e.2.2.2.1.toNat := by omega
        have := ways_l2 (l := (List.range k).map fun (j : Nat) => (wv d (j : Int) : Int)) (WV_le d d.length e.2.1) (e := e) (hat k _ a0 a1) (lo := e.2.2.2.1.toNat) (hi := e.2.2.2.2.1.toNat) (by omega) (by omega) (by omega)
          (Z := ref08_Ways.j2 (ref08_Ways.l1 d (i : Int) (ref08_Ways.j1 (i : Int) (wv d (i : Int) : Int)) f) ((List.range k).map fun (j : Nat) => (wv d (j : Int) : Int)) (k : Int))
          (next _ (by rw [hw, e1]; rw [e1] at hs; exact Nat.min_eq_right hs)) (e.2.2.2.2.1.toNat + 1 - e.2.2.2.1.toNat) 0 (by omega)
        have e2 : ((e.2.2.2.1.toNat + 0 : Nat) : Int) = e.2.2.2.1 := by omega
        rw [e2] at this
        exact this
      · have h1 : e.1 ≠ 1 := by simpa using k1
        have h4 : e.1 ≠ 4 := by simpa using k4
        have h5 : e.1 ≠ 5 := by simpa using k5
        have h6 : e.1 ≠ 6 := by simpa using k6
        have h7 : e.1 ≠ 7 := by simpa using k7
        rw [if_neg h1, if_neg h4, if_neg h5, if_neg h6, if_neg h7] at hw
        exact next 0 (by rw [hw]; rfl)
  obtain ⟨f, hf⟩ := key (i + 1) 0 (by omega)
  exact ⟨f, by simpa using hf⟩
theorem first8_ok {d : List SNode} (hl : d.length ≤ 1000) (hd : NOk d) : ∃ r, ref08_First d r ∧ (r.2 = false → ∀ (i : Int) n, at? d i = some n → (n.1 = 6 ∨ n.1 = 7) → nz d n.2.1 = false) := by
  have key : ∀ (m i : Nat), i + m = d.length → (∀ (k : Int) n, k < (i : Int) → at? d k = some n → (n.1 = 6 ∨ n.1 = 7) → nz d n.2.1 = false) → ∃ q : (Int × Bool) × Nat, ref08_First.l1 d q.1 (ref08_First.j1 q.1) q.2 (i : Int) ∧ (q.1.2 = false → ∀ (i : Int) n, at? d i = some n → (n.1 = 6 ∨ n.1 = 7) → nz d n.2.1 = false) := by
    intro m
    induction m with
    | zero =>
      intro i hi hk
      exact ⟨((0, false), 1), ⟨fun h => absurd (dt h) (by omega), fun _ => rfl⟩, fun _ k n hn => hk k n (by have := at_bound hn; omega) hn⟩
    | succ m ih =>
      intro i hi hk
      obtain ⟨e, he, _⟩ := at_in (xs := d) (i := (i : Int)) (by omega) (by omega)
      have hw : ∃ w, ((((e.1 == 6) || (e.1 == 7))) = true → ref08_Ways d e.2.1 w ∧ (w = 0 → nz d e.2.1 = false)) := by
        by_cases hkk : e.1 = 6 ∨ e.1 = 7
        · obtain ⟨a0, a1⟩ := hd.one _ e he (by omega)
          obtain ⟨mm, hm⟩ := at_lt he a0 a1
          obtain ⟨j, hj⟩ : ∃ j : Nat, e.2.1 = (j : Int) := ⟨e.2.1.toNat, by omega⟩
          refine ⟨(wv d e.2.1 : Int), fun _ => ⟨?_, fun h0 => ?_⟩⟩
          · rw [hj]; exact ref08_Ways_in hl hd (by omega)
          · have := wv_nz hd (d.length) e.2.1 mm (by omega) hm
            cases hz : nz d e.2.1
            · rfl
            · have := this.2 hz
              omega
        · exact ⟨0, fun h => absurd (by simpa using h) hkk⟩
      obtain ⟨w, hw⟩ := hw
      cases hb : (((e.1 == 6) || (e.1 == 7)) && (w != 0))
      · obtain ⟨q, hq, hq2⟩ := ih (i + 1) (by omega) (fun k n hki hn hkk => by
          by_cases hk2 : k = (i : Int)
          · subst hk2
            rw [he] at hn; cases hn
            have h6 : ((e.1 == 6) || (e.1 == 7)) = true := by simpa using hkk
            rw [h6] at hb
            simp at hb
            exact (hw h6).2 hb
          · exact hk k n (by omega) hn hkk)
        exact ⟨(q.1, q.2 + 1), ⟨fun _ => ⟨e, he, e, fun _ => he, w, fun h => (hw h).1, (fun h => by rw [hb] at h; cases h), fun _ => ⟨i64_of (by omega) (by omega), by simpa using hq⟩⟩, fun h => absurd (by omega) (df h)⟩, hq2⟩
      · exact ⟨(((i : Int), true), 1), ⟨fun _ => ⟨e, he, e, fun _ => he, w, fun h => (hw h).1, fun _ => rfl, fun h => by rw [hb] at h; cases h⟩, fun h => absurd (by omega) (df h)⟩, (fun h => by cases h)⟩
  obtain ⟨q, hq, hq2⟩ := key d.length 0 (by omega) (fun k n hk hn => by have := at_bound hn; omega)
  exact ⟨q.1, ⟨q.2, hq⟩, hq2⟩
structure Rt (d : List SNode) : Prop extends ROk d where
  tr : Tr d 0 ((d.length : Int) - 1)
theorem Rt.ne {d : List SNode} (h : Rt d) : d ≠ [] := fun e => by
  have := h.tr.le
  subst e
  simp at this
theorem right_ok {d : List SNode} (hl : d.length ≤ 1000) (ht : ∀ n ∈ d, n.2.2.2.2.2.2.length ≤ 140737488351232) : ∃ r, ref08_Right d r ∧ (r = true → Rt d) := by
  obtain ⟨f, hf, ho⟩ := form_ex hl ht
  cases f
  · exact ⟨false, ⟨false, hf, fun _ => rfl, (fun h => by cases h)⟩, (fun h => by cases h)⟩
  · have hd := (ho rfl).nok
    obtain ⟨w, hw, hw2⟩ := first8_ok hl hd
    refine ⟨!w.2, ⟨true, hf, (fun h => by cases h), fun _ => ⟨w, hw, rfl⟩⟩, fun h => ?_⟩
    have := hw2 (by simpa using h)
    exact ⟨⟨hd.two, hd.one, hd.rep, hd.kind, hd.ntx, this⟩, ho rfl⟩
end Go.Proofs.YtdidjelkkanenaaDoor.V
namespace Go.Proofs.YtdidjelkkanenaaDoor.V
open Go
set_option linter.unusedVariables false
def CV (d : List SNode) : Nat → Int → List (List SItem)
  | 0, _ => []
  | k + 1, i => match at? d i with
    | none => []
    | some n =>
      if n.1 = 1 then []
      else if n.1 = 3 then [[(3, i, 0, 0)]]
      else if n.1 = 4 then (CV d k n.2.1).map (· ++ [(1, n.2.2.1, 0, 0)]) ++ CV d k n.2.2.1
      else if n.1 = 5 then CV d k n.2.1 ++ CV d k n.2.2.1
      else if n.1 = 6 then (CV d k n.2.1).map (· ++ [(1, i, 0, 0)])
      else if n.1 = 7 then (CV d k n.2.1).map (· ++ [(2, i, max (n.2.2.2.1 - 1) 0, n.2.2.2.2.1 - 1)])
      else [[(1, i, 0, 0)]]
theorem CV_len (d : List SNode) : ∀ (k : Nat) (i : Int), (CV d k i).length ≤ 2 ^ k
  | 0, i => by simp [CV]
  | k + 1, i => by
    have h2 : 2 ^ (k + 1) = 2 ^ k + 2 ^ k := by rw [Nat.pow_succ]; omega
    have hp : 0 < 2 ^ k := Nat.pow_pos (by omega)
    unfold CV
    cases at? d i with
    | none => simp
    | some n =>
      have a := CV_len d k n.2.1
      have b := CV_len d k n.2.2.1
      simp only
      by_cases h1 : n.1 = 1
      · simp [h1]
      · by_cases h3 : n.1 = 3
        · simp [h3]; omega
        · by_cases h4 : n.1 = 4
          · simp [h4]; omega
          · by_cases h5 : n.1 = 5
            · simp [h5]; omega
            · by_cases h6 : n.1 = 6
              · simp [h6]; omega
              · by_cases h7 : n.1 = 7
                · simp [h7]; omega
                · simp [h1, h3, h4, h5, h6, h7]; omega
theorem PM_CV (d : List SNode) : ∀ (k : Nat) (i : Int), ∀ p ∈ (PM d k i).1, p ∈ CV d k i
  | 0, i, p, hp => by simp [PM] at hp
  | k + 1, i, p, hp => by
    unfold PM at hp
    unfold CV
    cases hn : at? d i with
    | none => rw [hn] at hp; simp at hp
    | some n =>
      rw [hn] at hp
      have a := PM_CV d k n.2.1
      have b := PM_CV d k n.2.2.1
      simp only at hp ⊢
      by_cases h1 : n.1 = 1
      · simp [h1] at hp
      · rw [if_neg h1] at hp ⊢
        by_cases h3 : n.1 = 3
        · rw [if_pos h3] at hp ⊢; exact hp
        · rw [if_neg h3] at hp ⊢
          by_cases h4 : n.1 = 4
          · rw [if_pos h4] at hp ⊢
            rcases List.mem_append.1 hp with hp | hp
            · obtain ⟨q, hq, rfl⟩ := List.mem_map.1 hp
              exact List.mem_append.2 (.inl (List.mem_map.2 ⟨q, a q hq, rfl⟩))
            · obtain ⟨l, hl, hp⟩ := List.mem_flatten.1 hp
              rw [List.mem_replicate.1 hl |>.2] at hp
              exact List.mem_append.2 (.inr (b p hp))
          · rw [if_neg h4] at hp ⊢
            by_cases h5 : n.1 = 5
            · rw [if_pos h5] at hp ⊢
              rcases List.mem_append.1 hp with hp | hp
              · exact List.mem_append.2 (.inl (a p hp))
              · exact List.mem_append.2 (.inr (b p hp))
            · rw [if_neg h5] at hp ⊢
              by_cases h6 : n.1 = 6
              · rw [if_pos h6] at hp ⊢
                obtain ⟨q, hq, rfl⟩ := List.mem_map.1 hp
                exact List.mem_map.2 ⟨q, a q hq, rfl⟩
              · rw [if_neg h6] at hp ⊢
                by_cases h7 : n.1 = 7
                · rw [if_pos h7] at hp ⊢
                  simp only at hp
                  split at hp
                  · obtain ⟨q, hq, rfl⟩ := List.mem_map.1 hp
                    exact List.mem_map.2 ⟨q, a q hq, rfl⟩
                  · cases hp
                · rw [if_neg h7] at hp ⊢; exact hp
def CI (d : List SNode) (x : SItem) : List (List SItem) :=
  if x.1 = 1 then CV d d.length x.2.1
  else if x.1 = 2 then (match at? d x.2.1 with | some n => (CV d d.length n.2.1).map (· ++ [(2, x.2.1, max (x.2.2.1 - 1) 0, x.2.2.2 - 1)]) | none => [])
  else [[x]]
theorem CI_len (d : List SNode) (x : SItem) : (CI d x).length ≤ 2 ^ d.length := by
  have hp : 0 < 2 ^ d.length := Nat.pow_pos (by omega)
  unfold CI
  split
  · exact CV_len _ _ _
  · split
    · split
      · rw [List.length_map]; exact CV_len _ _ _
      · simp
    · simp; omega
def CS (d : List SNode) : List SItem → List (List SItem)
  | [] => [[]]
  | x :: rest => (CI d x).map (· ++ rest) ++ CS d rest
theorem CS_len (d : List SNode) : ∀ s : List SItem, (CS d s).length ≤ s.length * 2 ^ d.length + 1
  | [] => by simp [CS]
  | x :: rest => by
    have h1 := CS_len d rest
    have h2 := CI_len d x
    simp only [CS, List.length_append, List.length_map, List.length_cons, Nat.succ_mul]
    omega
theorem pmI_CI (d : List SNode) (x : SItem) : ∀ p ∈ pmI d x, p ∈ CI d x := by
  intro p hp
  unfold pmI at hp
  unfold CI
  by_cases h1 : x.1 = 1
  · rw [if_pos h1] at hp ⊢; exact PM_CV d _ _ p hp
  · rw [if_neg h1] at hp ⊢
    by_cases h2 : x.1 = 2
    · rw [if_pos h2] at hp ⊢
      cases hn : at? d x.2.1 with
      | none => rw [hn] at hp; cases hp
      | some n =>
        rw [hn] at hp
        simp only at hp ⊢
        split at hp
        · obtain ⟨q, hq, rfl⟩ := List.mem_map.1 hp
          exact List.mem_map.2 ⟨q, PM_CV d _ _ q hq, rfl⟩
        · cases hp
    · rw [if_neg h2] at hp ⊢
      split at hp
      · cases hp
      · exact hp
theorem hds_CS (d : List SNode) : ∀ (s : List SItem), ∀ t ∈ hds d s, t ∈ CS d s
  | [], t, ht => ht
  | x :: rest, t, ht => by
    rcases List.mem_append.1 ht with ht | ht
    · obtain ⟨q, hq, rfl⟩ := List.mem_map.1 ht
      exact List.mem_append.2 (.inl (List.mem_map.2 ⟨q, pmI_CI d x q hq, rfl⟩))
    · obtain ⟨l, hl, hp⟩ := List.mem_flatten.1 ht
      rw [List.mem_replicate.1 hl |>.2] at hp
      exact List.mem_append.2 (.inr (hds_CS d rest t hp))
structure BrOk (l : List SBranch) : Prop where
  many : ∀ b ∈ l, 0 ≤ b.2 ∧ b.2 ≤ 2
  len : ∀ b ∈ l, b.1.length ≤ 1000
theorem addB_split {s : List SItem} {many : Int} : ∀ (l : List SBranch) (i : Nat), (∀ b ∈ l.take i, ¬ cmpS s b.1 = 0 ∧ ¬ cmpS s b.1 < 0) → addB s many l = l.take i ++ addB s many (l.drop i)
  | l, 0, _ => rfl
  | [], i + 1, _ => by simp
  | b :: l, i + 1, h => by
    have hb := h b (by simp)
    conv => lhs; unfold addB
    rw [if_neg hb.1, if_neg hb.2, addB_split l i fun c hc => h c (by simp [hc])]
    rfl
theorem ref14_Add_in {l : List SBranch} (hs : l.Pairwise (fun a b => cmpS a.1 b.1 < 0)) (hb : BrOk l) (hl : l.length ≤ 2000000000) {s : List SItem} (hsl : s.length ≤ 1000) {many : Int} (hm : 0 ≤ many ∧ many ≤ 2) : ref14_Add l s many (addB s many l) := by
  refine uptoK (P := fun k (q : List SBranch × Bool) v => ref14_Add.l1 l s many _ k q.1 q.2 v) l.length
    (fun i q => (q.2 = false → q.1 = l.take i ∧ ∀ b ∈ l.take i, ¬ cmpS s b.1 = 0 ∧ ¬ cmpS s b.1 < 0) ∧ (q.2 = true → q.1 ++ l.drop i = addB s many l ∧ ∀ b ∈ l.drop i, cmpS s b.1 < 0)) ?_ ?_ ([], false) ⟨fun _ => ⟨by simp, by simp⟩, (fun h => by cases h)⟩
  · rintro i ⟨out, done⟩ k hi ⟨h1, h2⟩ hk
    have hol : out.length ≤ l.length + 1 := by
      cases done
      · have k1 := (h1 rfl).1
        simp only at k1
        rw [k1]; simp; omega
      · have := congrArg List.length (h2 rfl).1
        have h3 := addB_len s many l
        simp at this; omega
    have hbm : l[i] ∈ l := List.getElem_mem hi
    have hmb := hb.many _ hbm
    have hlb := hb.len _ hbm
    have hat : at? l (i : Int) = some l[i] := by rw [at_nat]; simp [hi]
    have hdr : l.drop i = l[i] :: l.drop (i + 1) := (List.getElem_cons_drop hi).symm
    have htk : l.take (i + 1) = l.take i ++ [l[i]] := List.take_succ_eq_append_getElem hi
    have hsrt : ∀ b ∈ l.drop (i + 1), cmpS l[i].1 b.1 < 0 := by
      have := hs.sublist (List.drop_sublist i l)
      rw [hdr, List.pairwise_cons] at this
      exact this.1
    refine ⟨fun _ => ⟨l[i], hat, _, ref13_Compare_in hsl hlb, fun h0 => ?_, fun h0 => ⟨fun hc => ?_, fun hc => ?_⟩⟩, fun h => absurd (by omega) (df h)⟩
    · have e0 : cmpS s l[i].1 = 0 := by simpa using h0
      refine ⟨l[i], hat, i64_of (by omega) (by omega), by simp; omega, i64_of (by omega) (by omega), hk (out ++ [(s, min 2 (l[i].2 + many))], true) ⟨(fun h => by cases h), fun _ => ?_⟩⟩
      cases done
      · obtain ⟨k1, k2⟩ := h1 rfl
        simp only at k1
        refine ⟨?_, fun b hbb => by rw [cmpS_zero.1 e0]; exact hsrt b hbb⟩
        rw [addB_split l i k2, hdr, k1]
        conv => rhs; unfold addB
        rw [if_pos e0]; simp
      · obtain ⟨k1, k2⟩ := h2 rfl
        have := k2 l[i] (hdr ▸ List.mem_cons_self)
        omega
    · simp only [Bool.and_eq_true, decide_eq_true_eq, Bool.not_eq_true'] at hc
      obtain ⟨c1, c2⟩ := hc
      subst c2
      obtain ⟨k1, k2⟩ := h1 rfl
      simp only at k1
      refine ⟨by simp; omega, l[i], hat, by simp; omega, i64_of (by omega) (by omega), hk (out ++ [(s, many)] ++ [l[i]], true) ⟨(fun h => by cases h), fun _ => ⟨?_, fun b hbb => cmpS_trans c1 (hsrt b hbb)⟩⟩⟩
      rw [addB_split l i k2, hdr, k1]
      conv => rhs; unfold addB
      rw [if_neg (by omega), if_pos c1]; simp
    · have e0 : ¬ cmpS s l[i].1 = 0 := by simpa using h0
      refine ⟨l[i], hat, by simp; omega, i64_of (by omega) (by omega), hk (out ++ [l[i]], done) ⟨fun hd => ?_, fun hd => ?_⟩⟩
      · simp only at hd
        subst hd
        obtain ⟨k1, k2⟩ := h1 rfl
        simp only at k1
        simp only [Bool.not_false, Bool.and_true, decide_eq_false_iff_not] at hc
        refine ⟨by rw [htk, k1], fun b hbb => ?_⟩
        rw [htk] at hbb
        rcases List.mem_append.1 hbb with hbb | hbb
        · exact k2 b hbb
        · rw [List.mem_singleton.1 hbb]; exact ⟨e0, hc⟩
      · simp only at hd
        subst hd
        obtain ⟨k1, k2⟩ := h2 rfl
        refine ⟨?_, fun b hbb => k2 b (hdr ▸ List.mem_cons_of_mem _ hbb)⟩
        rw [← k1, hdr]; simp
  · rintro ⟨out, done⟩ ⟨h1, h2⟩ k
    refine ⟨fun h => absurd (dt h) (by omega), fun _ => ⟨fun hd => ?_, fun hd => ?_⟩⟩
    · have hd' : done = false := by simpa using hd
      subst hd'
      obtain ⟨k1, k2⟩ := h1 rfl
      simp only at k1
      rw [List.take_length] at k1
      refine ⟨by rw [k1]; simp; omega, ?_⟩
      rw [addB_split l l.length k2, k1]
      simp [addB]
    · have hd' : done = true := by simpa using hd
      subst hd'
      obtain ⟨k1, k2⟩ := h2 rfl
      rw [← k1]; simp
theorem Can.brok {f : List SItem → Nat} {B : List SBranch} (h : Can f B) (hl : ∀ t, f t ≠ 0 → t.length ≤ 1000) : BrOk B :=
  ⟨fun b hb => by have := (h.many hb).2.2; omega, fun b hb => hl _ (h.many hb).2.1⟩
theorem into_in {d : List SNode} (hd : ROk d) (hdl : d.length ≤ 400) (hd0 : ∃ n, at? d 0 = some n) (U : List (List SItem)) (hU : U.length ≤ 1000000000) (hU1 : ∀ t ∈ U, t.length ≤ 1000) : ∀ (h : Nat) (s : List SItem) (L : List (List SItem)), lv d h s = some L → Vs d 400 s → ∀ (f : List SItem → Nat) (B : List SBranch), Can f B → (∀ t, f t ≠ 0 → t ∈ U) → (∀ t ∈ L, t ∈ U) → ∃ r, ref14_into.n h d s B r ∧ Can (fun t => f t + L.count t) r
  | 0, s, L, hL, _, _, _, _, _, _ => by simp [lv] at hL
  | h + 1, s, L, hL, hv, f, B, hB, hf, hLU => by
    have hlen := hv.len
    have hBl := can_len hB hf
    have hBo := hB.brok fun t ht => hU1 t (hf t ht)
    cases hr : rdy d s with
    | true =>
      have e : L = [s] := by
        unfold lv at hL
        rw [if_pos hr] at hL; exact (Option.some.inj hL).symm
      subst e
      refine ⟨addB s 1 B, ⟨true, hr ▸ ref14_Ready_in hv.form hd0, fun _ => ⟨s, ahead_in (by simp) (by omega), _, ref14_Add_in hB.srt hBo (by omega) (by omega) (by omega), rfl⟩, (fun h => by cases h)⟩, ?_⟩
      refine (hB.add s (n := 1) (by omega)).congr fun t => ?_
      simp only [List.count_singleton, beq_iff_eq]
      by_cases ht : t = s
      · subst ht; simp
      · simp [ht, Ne.symm ht]
    | false =>
      have hopn := hv.opn hd hr
      obtain ⟨ls, hls, hlf⟩ : ∃ ls, (opn d s).mapM (lv d h) = some ls ∧ ls.flatten = L := by
        unfold lv at hL
        rw [if_neg (by rw [hr]; simp)] at hL
        exact Option.map_eq_some_iff.1 hL
      have hlsl : ls.length = (opn d s).length := mapM_len hls
      have hol := opn_len (d := d) s
      have key : ∀ (m i : Nat) (B' : List SBranch), i + m = (opn d s).length → Can (fun t => f t + (ls.take i).flatten.count t) B' → ∃ (r : List SBranch) (k : Nat), ref14_into.l1 (ref14_into.n h) d (opn d s) (ref14_into.j1 r) k B' (i : Int) ∧ Can (fun t => f t + L.count t) r := by
        intro m
        induction m with
        | zero =>
          intro i B' hi hB'
          refine ⟨B', 1, ⟨fun h => absurd (dt h) (by omega), fun _ => rfl⟩, ?_⟩
          rw [List.take_of_length_le (by omega), hlf] at hB'
          exact hB'
        | succ m ih =>
          intro i B' hi hB'
          have hil : i < (opn d s).length := by omega
          obtain ⟨li, h1, h2⟩ := mapM_at hls hil
          have hsub : ∀ t ∈ li, t ∈ L := fun t ht => by
            rw [← hlf]; exact List.mem_flatten.2 ⟨li, List.mem_of_getElem? h2, ht⟩
          have hsub2 : ∀ t, (ls.take i).flatten.count t ≠ 0 → t ∈ U := fun t ht => by
            have hp : t ∈ (ls.take i).flatten := List.count_pos_iff.1 (by omega)
            obtain ⟨l, hl, ht⟩ := List.mem_flatten.1 hp
            exact hLU t (by rw [← hlf]; exact List.mem_flatten.2 ⟨l, List.mem_of_mem_take hl, ht⟩)
          obtain ⟨r1, hr1, hr2⟩ := into_in hd hdl hd0 U hU hU1 h _ li h1 (hopn _ (List.getElem_mem hil)) _ B' hB' (fun t ht => by
            by_cases h0 : f t = 0
            · exact hsub2 t (by omega)
            · exact hf t h0) (fun t ht => hLU t (hsub t ht))
          obtain ⟨r, k, hk1, hk2⟩ := ih (i + 1) r1 (by omega) (hr2.congr fun t => by rw [take_flat h2, List.count_append, Nat.add_assoc])
          exact ⟨r, k + 1, ⟨fun _ => ⟨_, by rw [at_nat]; simp [hil], r1, hr1, i64_of (by omega) (by omega), by simpa using hk1⟩, fun h => absurd (by omega) (df h)⟩, hk2⟩
      obtain ⟨r, k, hk1, hk2⟩ := key (opn d s).length 0 B (by omega) (hB.congr fun t => by simp)
      exact ⟨r, ⟨false, hr ▸ ref14_Ready_in hv.form hd0, (fun h => by cases h), fun _ => ⟨_, ref14_Open_in hd hv.form hr (by omega) hd0, k, hk1⟩⟩, hk2⟩
theorem nodup_dups {α : Type} [BEq α] [LawfulBEq α] : ∀ (n : Nat) (l : List α), l.length ≤ n → l.eraseDups.Nodup
  | _, [], _ => by simp
  | 0, x :: l, h => by simp at h
  | n + 1, x :: l, h => by
    rw [List.eraseDups_cons, List.nodup_cons]
    refine ⟨fun hx => ?_, nodup_dups n _ (Nat.le_trans (List.length_filter_le _ _) (by simpa using h))⟩
    have := List.mem_eraseDups.1 hx
    simp at this
structure Sm (d : List SNode) (s : List SItem) : Prop where
  rt : Rt d
  len : d.length ≤ 24
  txt : ∀ n ∈ d, n.2.2.2.2.2.2.length ≤ 140737488351232
  form : formS d s = true
  slen : s.length ≤ 40
theorem Sm.dok {d : List SNode} {s : List SItem} (h : Sm d s) : DOk d := ⟨by have := h.len; omega, fun n hn => by have := h.txt n hn; omega⟩
theorem Sm.ne {d : List SNode} {s : List SItem} (h : Sm d s) : ∃ n, at? d 0 = some n := by
  have := h.rt.ne
  cases d with
  | nil => exact absurd rfl this
  | cons n d => exact ⟨n, rfl⟩
theorem Sm.vs {d : List SNode} {s : List SItem} (h : Sm d s) : Vs d 400 s := Vs.start h.form (by have := h.slen; omega)
theorem heads_both {d : List SNode} {s : List SItem} (h : Sm d s) : ∃ B, heads_Heads d s B ∧ ref14_Heads d s B ∧ Can (fun t => (hds d s).count t) B := by
  have hd := h.rt.toROk
  obtain ⟨L, ⟨k, hk⟩, hp⟩ := hds_lv hd s h.form
  have hU : (CS d s).length ≤ 1000000000 := by
    have h1 := CS_len d s
    have h2 : 2 ^ d.length ≤ 2 ^ 24 := Nat.pow_le_pow_right (by omega) h.len
    have h3 := h.slen
    have h4 : s.length * 2 ^ d.length ≤ 40 * 2 ^ 24 := Nat.mul_le_mul h3 h2
    omega
  have hLU : ∀ t ∈ L, t ∈ CS d s := fun t ht => hds_CS d s t (hp.mem_iff.1 ht)
  have hvs := lv_vs hd k s L hk h.vs
  have hLU2 : ∀ t ∈ L, t ∈ L.eraseDups := fun t ht => List.mem_eraseDups.2 ht
  have hUl : L.eraseDups.length ≤ 1000000000 := Nat.le_trans (len_sub (nodup_dups _ L (Nat.le_refl _)) fun t ht => hLU t (List.mem_eraseDups.1 ht)) hU
  have hU1 : ∀ t ∈ L.eraseDups, t.length ≤ 1000 := fun t ht => by
    have := (hvs t (List.mem_eraseDups.1 ht)).1.len
    have := h.len
    omega
  obtain ⟨B, hB1, hB2⟩ := into_in hd (by have := h.len; omega) h.ne L.eraseDups hUl hU1 k s L hk h.vs (fun _ => 0) [] Can.nil (fun t ht => absurd rfl ht) hLU2
  have hB3 : Can (fun t => L.count t) B := hB2.congr fun t => by simp
  have hBl := can_len hB3 (U := L.eraseDups) fun t ht => hLU2 t (List.count_pos_iff.1 (by omega))
  exact ⟨B, ⟨hd, h.dok, by have := h.len; omega, h.rt.ne, h.form, by have := h.slen; omega, by omega, k, L, hk, hB3⟩, ⟨B, ⟨k, hB1⟩, rfl⟩, hB3.congr fun t => by rw [hp.count_eq]⟩
theorem ref14_Same_in {a b : List SBranch} (ha : ∀ x ∈ a, x.1.length ≤ 1000) (hb : ∀ x ∈ b, x.1.length ≤ 1000) (hl : a.length ≤ 2000000000) : ref14_Same a b (decide (a = b)) := by
  by_cases hne : a.length = b.length
  · refine ⟨fun h => absurd h (by simp [hne]), fun _ => ?_⟩
    refine upto (P := fun k (_ : Unit) v => ref14_Same.l1 a b (decide (a = b)) _ k v) a.length (fun i _ => a.take i = b.take i) ?_ ?_ () (by simp)
    · intro i _ hi ht
      have hib : i < b.length := by omega
      have ea : at? a (i : Int) = some a[i] := by rw [at_nat]; simp [hi]
      have eb : at? b (i : Int) = some b[i] := by rw [at_nat]; simp [hib]
      have hs := ref13_Same_in (ha _ (List.getElem_mem hi)) (hb _ (List.getElem_mem hib))
      by_cases hab : a[i] = b[i]
      · refine .inr ⟨(), by rw [List.take_succ_eq_append_getElem hi, List.take_succ_eq_append_getElem hib, ht, hab], fun k hk => ⟨fun _ => ⟨_, ea, _, eb, _, fun _ => ea, _, fun _ => eb, _, fun _ => hs, fun h => ?_, fun _ => ⟨i64_of (by omega) (by omega), hk⟩⟩, fun h => absurd (by omega) (df h)⟩⟩
        rw [hab] at h; simp at h
      · refine .inl fun k => ⟨fun _ => ⟨_, ea, _, eb, _, fun _ => ea, _, fun _ => eb, _, fun _ => hs, fun _ => ?_, fun h => ?_⟩, fun h => absurd (by omega) (df h)⟩
        · simp only [decide_eq_false_iff_not]
          intro e
          subst e; exact hab rfl
        · exfalso
          simp only [Bool.or_eq_false_iff, bne_eq_false_iff_eq, Bool.not_eq_false', decide_eq_true_eq] at h
          exact hab (Prod.ext h.2 h.1)
    · intro _ ht k
      refine ⟨fun h => absurd (dt h) (by omega), fun _ => ?_⟩
      show decide (a = b) = true
      rw [List.take_length, hne, List.take_length] at ht
      simp [ht]
  · refine ⟨fun _ => ?_, fun h => absurd (Int.ofNat.inj (by simpa using h)) hne⟩
    simp only [decide_eq_false_iff_not]
    intro e
    subst e; exact hne rfl
end Go.Proofs.YtdidjelkkanenaaDoor.V
namespace Go.Proofs.YtdidjelkkanenaaDoor.V
open Go
set_option linter.unusedVariables false
theorem item_Lower_in {s : List SItem} (hs : s.length ≤ 1000) (hr : ∀ x ∈ s, ItR x) : item_Lower s (lowF s) := by
  refine ⟨s, clone_in hs, ?_⟩
  refine upto (P := fun k (t : List SItem) v => item_Lower.l1 s (lowF s) _ k t v) s.length (fun i t => t = (s.take i).map low1 ++ s.drop i ∧ (s.take i).any badI = false) ?_ ?_ _ ⟨by simp, by simp⟩
  · rintro i t hi ⟨rfl, hb⟩
    have hl : ((s.take i).map low1).length = i := by simp; omega
    have hat : at? ((s.take i).map low1 ++ s.drop i) (i : Int) = some s[i] := by
      rw [at_nat, List.getElem?_append_right (by omega), hl, Nat.sub_self]
      simp [hi]
    have hset : ∀ y, ((s.take i).map low1 ++ s.drop i).set i y = (s.take i).map low1 ++ [y] ++ s.drop (i + 1) := fun y => by
      rw [List.set_append_right _ _ (by omega), hl, Nat.sub_self, List.drop_eq_getElem_cons hi, List.set_cons_zero]; simp
    have hnext : (s.take (i + 1)).map low1 ++ s.drop (i + 1) = (s.take i).map low1 ++ [low1 s[i]] ++ s.drop (i + 1) := by
      rw [List.take_succ_eq_append_getElem hi, List.map_append]; rfl
    have hri := (hr _ (List.getElem_mem hi)).2.2.1
    rw [inR_i64] at hri
    by_cases h5 : s[i].1 = 5
    · by_cases hlo : s[i].2.2.1 ≤ 0
      · have hbad : badI s[i] = true := by simp [badI, h5, hlo]
        refine .inl fun k => ⟨fun _ => ⟨_, hat, fun h => by simp [h5] at h, fun _ => ⟨fun _ => ?_, fun h => absurd hlo (df h)⟩⟩, fun h => absurd (by omega) (df h)⟩
        unfold lowF; rw [if_pos (any_of hi hbad)]
      · have hbad : badI s[i] = false := by simp [badI, hlo]
        refine .inr ⟨_, ⟨rfl, by rw [any_take hi, hb, hbad]; rfl⟩, fun k h => ⟨fun _ => ⟨_, hat, fun h => by simp [h5] at h, fun _ => ⟨fun h => absurd (dt h) hlo, fun _ => ⟨_, hat, i64_of (by omega) (by omega), _, hat, i64_of (by omega) (by omega), ?_⟩⟩⟩, fun h => absurd (by omega) (df h)⟩⟩
        rw [hnext] at h
        rw [Int.toNat_natCast, hset]
        have e : low1 s[i] = (s[i].1, s[i].2.1, s[i].2.2.1 - 1, s[i].2.2.2) := by unfold low1; rw [if_pos h5]
        rw [← e]; exact h
    · have hbad : badI s[i] = false := by simp [badI, h5]
      refine .inr ⟨_, ⟨rfl, by rw [any_take hi, hb, hbad]; rfl⟩, fun k h => ⟨fun _ => ⟨_, hat, fun _ => ⟨i64_of (by omega) (by omega), ?_⟩, fun h => by simp at h; exact absurd h h5⟩, fun h => absurd (by omega) (df h)⟩⟩
      rw [hnext] at h
      have e : low1 s[i] = s[i] := by unfold low1; rw [if_neg h5]
      rw [e] at h
      rw [List.drop_eq_getElem_cons hi]
      simpa using h
  · rintro t ⟨rfl, hb⟩ k
    refine ⟨fun h => absurd (dt h) (by omega), fun _ => ?_⟩
    rw [List.take_length] at hb
    show lowF s = _
    unfold lowF
    rw [if_neg (by rw [hb]; simp)]
    simp
end Go.Proofs.YtdidjelkkanenaaDoor.V
namespace Go.Proofs.YtdidjelkkanenaaDoor.V
open Go
set_option linter.unusedVariables false
def ref02_Same.j1 (r_ : Bool) : Prop := r_ = true
def ref02_Same.l1 (a_ : (List Cl)) (b_ : (List Cl)) (r_ : Bool) (X1 : Prop) : Nat → Int → Prop
  | 0, _ => False
  | k_0 + 1, i9 => ((decide (i9 < (a_.length : Int))) = true → ∃ e17 : Cl, at? a_ i9 = some e17 ∧ ∃ e19 : Cl, at? b_ i9 = some e19 ∧ (((e17 != e19)) = true → r_ = false) ∧ (((e17 != e19)) = false → (InR .i64 (i9 + 1)) ∧ ref02_Same.l1 a_ b_ r_ X1 k_0 (i9 + 1))) ∧ ((decide (i9 < (a_.length : Int))) = false → X1)
def ref02_Same (a_ : (List Cl)) (b_ : (List Cl)) (r_ : Bool) : Prop := ((((a_.length : Int) != (b_.length : Int))) = true → r_ = false) ∧ ((((a_.length : Int) != (b_.length : Int))) = false → ∃ k10, ref02_Same.l1 a_ b_ r_ (ref02_Same.j1 r_) k10 0)
def ref13_Lower.j1 (r_ : ((List SItem) × Bool)) (out5 : (List SItem)) : Prop := r_ = (out5, true)
def ref13_Lower.j2 (L1_ : (List SItem) → Int → Prop) (out9 : (List SItem)) (i11 : Int) (x25 : SItem) : Prop := (out9.length + [x25].length ≤ 2147483648) ∧ (InR .i64 (i11 + 1)) ∧ L1_ (out9 ++ [x25]) (i11 + 1)
def ref13_Lower.l1 (s_ : (List SItem)) (r_ : ((List SItem) × Bool)) (X1 : (List SItem) → Prop) : Nat → (List SItem) → Int → Prop
  | 0, _, _ => False
  | k_0 + 1, out9, i11 => ((decide (i11 < (s_.length : Int))) = true → ∃ e19 : SItem, at? s_ i11 = some e19 ∧ (((e19.1 == 5)) = true → ((decide (e19.2.2.1 ≤ 0)) = true → r_ = (([] : (List SItem)), false)) ∧ ((decide (e19.2.2.1 ≤ 0)) = false → (InR .i64 (e19.2.2.1 - 1)) ∧ (ref13_Lower.j2 (ref13_Lower.l1 s_ r_ X1 k_0) out9 i11) (e19.1, e19.2.1, e19.2.2.1 - 1, e19.2.2.2))) ∧ (((e19.1 == 5)) = false → (ref13_Lower.j2 (ref13_Lower.l1 s_ r_ X1 k_0) out9 i11) e19)) ∧ ((decide (i11 < (s_.length : Int))) = false → X1 out9)
def ref13_Lower (s_ : (List SItem)) (r_ : ((List SItem) × Bool)) : Prop := ∃ k12, ref13_Lower.l1 s_ r_ (ref13_Lower.j1 r_) k12 ([] : (List SItem)) 0
def ref15_Read (d_ : SDesc) (s_ : (List SItem)) (cv_ : Int) (r_ : ((List SItem) × Bool)) : Prop := ((((s_.length : Int) == 0)) = true → r_ = (([] : (List SItem)), false)) ∧ ((((s_.length : Int) == 0)) = false → ((0 : Int) ≤ 1 ∧ 1 ≤ (s_.length : Int)) ∧ ∃ r7 : ((List SItem) × Bool), ref13_Lower (s_.drop (1 : Int).toNat) r7 ∧ (((!r7.2)) = true → r_ = (([] : (List SItem)), false)) ∧ (((!r7.2)) = false → ∃ e13 : SItem, at? s_ 0 = some e13 ∧ ∃ e17 : SNode, at? d_ e13.2.1 = some e17 ∧ (((e13.1 == 3)) = true → ∃ c30 : Int, byte? e17.2.2.2.2.2.2 e13.2.2.1 = some c30 ∧ (((c30 != cv_)) = true → r_ = (([] : (List SItem)), false)) ∧ (((c30 != cv_)) = false → (InR .i64 (e13.2.2.1 + 1)) ∧ ∃ b35 : Bool, b35 = (decide (e13.2.2.1 + 1 < (e17.2.2.2.2.2.2.length : Int))) ∧ ((b35) = true → (InR .i64 (e13.2.2.1 + 1)) ∧ ([(3, e13.2.1, e13.2.2.1 + 1, 0)].length + r7.1.length ≤ 2147483648) ∧ r_ = ([(3, e13.2.1, e13.2.2.1 + 1, 0)] ++ r7.1, true)) ∧ ((b35) = false → (([] : (List SItem)).length + r7.1.length ≤ 2147483648) ∧ r_ = (([] : (List SItem)) ++ r7.1, true)))) ∧ (((e13.1 == 3)) = false → (((e13.1 == 4)) = true → (InR .i64 (256 * e13.2.2.1)) ∧ (InR .i64 ((256 * e13.2.2.1) + cv_)) ∧ ([(1, e17.2.1, 0, 0), (5, 0, (256 * e13.2.2.1) + cv_, 0)].length + r7.1.length ≤ 2147483648) ∧ r_ = ([(1, e17.2.1, 0, 0), (5, 0, (256 * e13.2.2.1) + cv_, 0)] ++ r7.1, true)) ∧ (((e13.1 == 4)) = false → (((e17.1 == 8)) = true → ([(1, e17.2.1, 0, 0), (5, 0, cv_, 0)].length + r7.1.length ≤ 2147483648) ∧ r_ = ([(1, e17.2.1, 0, 0), (5, 0, cv_, 0)] ++ r7.1, true)) ∧ (((e17.1 == 8)) = false → (((e17.1 == 9)) = true → ([(4, e13.2.1, cv_, 0)].length + r7.1.length ≤ 2147483648) ∧ r_ = ([(4, e13.2.1, cv_, 0)] ++ r7.1, true)) ∧ (((e17.1 == 9)) = false → ∃ r75 : Bool, ref01_Has e17.2.2.2.2.2.1 cv_ r75 ∧ (((!r75)) = true → r_ = (([] : (List SItem)), false)) ∧ (((!r75)) = false → (([] : (List SItem)).length + r7.1.length ≤ 2147483648) ∧ r_ = (([] : (List SItem)) ++ r7.1, true))))))))
def ref15_On.j1 (r_ : (List SBranch)) (out8 : (List SBranch)) : Prop := r_ = out8
def ref15_On.l1 (d_ : SDesc) (cv_ : Int) (r3 : (List SBranch)) (X1 : (List SBranch) → Prop) : Nat → (List SBranch) → Int → Prop
  | 0, _, _ => False
  | k_0 + 1, out12, i14 => ((decide (i14 < (r3.length : Int))) = true → ∃ e22 : SBranch, at? r3 i14 = some e22 ∧ ∃ r24 : ((List SItem) × Bool), ref15_Read d_ e22.1 cv_ r24 ∧ ((r24.2) = true → ∃ e29 : SBranch, at? r3 i14 = some e29 ∧ ∃ r31 : (List SBranch), ref14_Add out12 r24.1 e29.2 r31 ∧ (InR .i64 (i14 + 1)) ∧ ref15_On.l1 d_ cv_ r3 X1 k_0 r31 (i14 + 1)) ∧ ((r24.2) = false → (InR .i64 (i14 + 1)) ∧ ref15_On.l1 d_ cv_ r3 X1 k_0 out12 (i14 + 1))) ∧ ((decide (i14 < (r3.length : Int))) = false → X1 out12)
def ref15_On (d_ : SDesc) (s_ : (List SItem)) (cv_ : Int) (r_ : (List SBranch)) : Prop := ∃ r3 : (List SBranch), ref14_Heads d_ s_ r3 ∧ ∃ k15, ref15_On.l1 d_ cv_ r3 (ref15_On.j1 r_) k15 ([] : (List SBranch)) 0
def ref15_Ends.j1 (r_ : Int) : Prop := r_ = 0
def ref15_Ends.l1 (r3 : (List SBranch)) (r_ : Int) (X1 : Prop) : Nat → Int → Prop
  | 0, _ => False
  | k_0 + 1, i9 => ((decide (i9 < (r3.length : Int))) = true → ∃ e17 : SBranch, at? r3 i9 = some e17 ∧ ((((e17.1.length : Int) == 0)) = true → ∃ e20 : SBranch, at? r3 i9 = some e20 ∧ r_ = e20.2) ∧ ((((e17.1.length : Int) == 0)) = false → (InR .i64 (i9 + 1)) ∧ ref15_Ends.l1 r3 r_ X1 k_0 (i9 + 1))) ∧ ((decide (i9 < (r3.length : Int))) = false → X1)
def ref15_Ends (d_ : SDesc) (s_ : (List SItem)) (r_ : Int) : Prop := ∃ r3 : (List SBranch), ref14_Heads d_ s_ r3 ∧ ∃ k10, ref15_Ends.l1 r3 r_ (ref15_Ends.j1 r_) k10 0
def ref15_Classes.j1 (r_ : (List Cl)) (out8 : (List Cl)) : Prop := r_ = out8
def ref15_Classes.j2 (L1_ : (List Cl) → Int → Prop) (i14 : Int) (out54 : (List Cl)) : Prop := (InR .i64 (i14 + 1)) ∧ L1_ out54 (i14 + 1)
def ref15_Classes.l2 (X2 : (List Cl) → Prop) : Nat → (List Cl) → Int → Prop
  | 0, _, _ => False
  | k_0 + 1, out58, c60 => ((decide (c60 < 256)) = true → ∃ r67 : Cl, ref01_Row (c60 % 256) (c60 % 256) r67 ∧ (out58.length + [r67].length ≤ 2147483648) ∧ (InR .i64 (c60 + 1)) ∧ ref15_Classes.l2 X2 k_0 (out58 ++ [r67]) (c60 + 1)) ∧ ((decide (c60 < 256)) = false → X2 out58)
def ref15_Classes.l1 (d_ : SDesc) (r3 : (List SBranch)) (X1 : (List Cl) → Prop) : Nat → (List Cl) → Int → Prop
  | 0, _, _ => False
  | k_0 + 1, out12, i14 => ((decide (i14 < (r3.length : Int))) = true → ∃ e23 : SBranch, at? r3 i14 = some e23 ∧ ((((e23.1.length : Int) == 0)) = true → (InR .i64 (i14 + 1)) ∧ ref15_Classes.l1 d_ r3 X1 k_0 out12 (i14 + 1)) ∧ ((((e23.1.length : Int) == 0)) = false → ∃ e27 : SBranch, at? r3 i14 = some e27 ∧ ∃ e29 : SItem, at? e27.1 0 = some e29 ∧ ∃ e34 : SNode, at? d_ e29.2.1 = some e34 ∧ (((e29.1 == 3)) = true → ∃ c40 : Int, byte? e34.2.2.2.2.2.2 e29.2.2.1 = some c40 ∧ ∃ c42 : Int, byte? e34.2.2.2.2.2.2 e29.2.2.1 = some c42 ∧ ∃ r44 : Cl, ref01_Row c40 c42 r44 ∧ (out12.length + [r44].length ≤ 2147483648) ∧ (InR .i64 (i14 + 1)) ∧ ref15_Classes.l1 d_ r3 X1 k_0 (out12 ++ [r44]) (i14 + 1)) ∧ (((e29.1 == 3)) = false → ((((e29.1 == 1) && (e34.1 == 2))) = true → (out12.length + [e34.2.2.2.2.2.1].length ≤ 2147483648) ∧ (InR .i64 (i14 + 1)) ∧ ref15_Classes.l1 d_ r3 X1 k_0 (out12 ++ [e34.2.2.2.2.2.1]) (i14 + 1)) ∧ ((((e29.1 == 1) && (e34.1 == 2))) = false → ∃ k61, ref15_Classes.l2 (ref15_Classes.j2 (ref15_Classes.l1 d_ r3 X1 k_0) i14) k61 out12 0)))) ∧ ((decide (i14 < (r3.length : Int))) = false → X1 out12)
def ref15_Classes (d_ : SDesc) (s_ : (List SItem)) (r_ : (List Cl)) : Prop := ∃ r3 : (List SBranch), ref14_Heads d_ s_ r3 ∧ ∃ k15, ref15_Classes.l1 d_ r3 (ref15_Classes.j1 r_) k15 ([] : (List Cl)) 0
end Go.Proofs.YtdidjelkkanenaaDoor.V
namespace Go.Proofs.YtdidjelkkanenaaDoor.V
open Go
set_option linter.unusedVariables false
theorem ref13_Lower_in {s : List SItem} (hs : s.length ≤ 1000) (hr : ∀ x ∈ s, ItR x) : ref13_Lower s (lowF s) := by
  refine upto (P := fun k (t : List SItem) v => ref13_Lower.l1 s (lowF s) _ k t v) s.length (fun i t => t = (s.take i).map low1 ∧ (s.take i).any badI = false) ?_ ?_ _ ⟨by simp, by simp⟩
  · rintro i t hi ⟨rfl, hb⟩
    have hl : ((s.take i).map low1).length = i := by simp; omega
    have hat : at? s (i : Int) = some s[i] := by rw [at_nat]; simp [hi]
    have hnext : (s.take (i + 1)).map low1 = (s.take i).map low1 ++ [low1 s[i]] := by
      rw [List.take_succ_eq_append_getElem hi, List.map_append]; rfl
    have hri := (hr _ (List.getElem_mem hi)).2.2.1
    rw [inR_i64] at hri
    have hj : ∀ k, ref13_Lower.l1 s (lowF s) (ref13_Lower.j1 (lowF s)) k ((s.take (i + 1)).map low1) ((i : Int) + 1) → ref13_Lower.j2 (ref13_Lower.l1 s (lowF s) (ref13_Lower.j1 (lowF s)) k) ((s.take i).map low1) (i : Int) (low1 s[i]) := fun k h => by
      refine ⟨by rw [hl]; simp only [List.length_cons, List.length_nil]; omega, i64_of (by omega) (by omega), ?_⟩
      rw [hnext] at h; exact h
    by_cases h5 : s[i].1 = 5
    · by_cases hlo : s[i].2.2.1 ≤ 0
      · have hbad : badI s[i] = true := by simp [badI, h5, hlo]
        refine .inl fun k => ⟨fun _ => ⟨_, hat, fun _ => ⟨fun _ => ?_, fun h => absurd hlo (df h)⟩, fun h => by simp [h5] at h⟩, fun h => absurd (by omega) (df h)⟩
        unfold lowF; rw [if_pos (any_of hi hbad)]
      · have hbad : badI s[i] = false := by simp [badI, hlo]
        refine .inr ⟨_, ⟨rfl, by rw [any_take hi, hb, hbad]; rfl⟩, fun k h => ⟨fun _ => ⟨_, hat, fun _ => ⟨fun h => absurd (dt h) hlo, fun _ => ⟨i64_of (by omega) (by omega), ?_⟩⟩, fun h => by simp [h5] at h⟩, fun h => absurd (by omega) (df h)⟩⟩
        have := hj k h
        unfold low1 at this
        rw [if_pos h5] at this
        exact this
    · have hbad : badI s[i] = false := by simp [badI, h5]
      refine .inr ⟨_, ⟨rfl, by rw [any_take hi, hb, hbad]; rfl⟩, fun k h => ⟨fun _ => ⟨_, hat, fun h => by simp at h; exact absurd h h5, fun _ => ?_⟩, fun h => absurd (by omega) (df h)⟩⟩
      have := hj k h
      unfold low1 at this
      rw [if_neg h5] at this
      exact this
  · rintro t ⟨rfl, hb⟩ k
    refine ⟨fun h => absurd (dt h) (by omega), fun _ => ?_⟩
    rw [List.take_length] at hb
    show lowF s = _
    unfold lowF
    rw [if_neg (by rw [hb]; simp), List.take_length]
end Go.Proofs.YtdidjelkkanenaaDoor.V
namespace Go.Proofs.YtdidjelkkanenaaDoor.V
open Go
set_option linter.unusedVariables false
theorem class_Has_in {a : Cl} {n : Nat} (hn : n < 256) : class_Has a (n : Int) (a.has n) := by
  refine ⟨⟨by omega, by omega⟩, _, rfl, ?_⟩
  rw [show ((n : Int) / 64) = ((n / 64 : Nat) : Int) by omega, show ((n : Int) % 64) = ((n % 64 : Nat) : Int) by omega]
  show _ = (andI (shrI (((a.word ((n / 64 : Nat) : Int).toNat) : Nat) : Int) _) 1 == 1)
  rw [Int.toNat_natCast, shr_bit (Nat.mod_lt _ (by omega)), has_w hn]
theorem class_Has_u8 {a : Cl} {c : Int} (hc : InR .u8 c) : class_Has a c (a.has c.toNat) := by
  obtain ⟨n, hn, rfl⟩ := u8_of hc
  simpa using class_Has_in (a := a) hn
theorem class_Has_mod {a : Cl} {i : Nat} (hi : i < 256) : class_Has a ((i : Int) % 256) (a.has i) := by
  rw [show ((i : Int) % 256) = (i : Int) by omega]; exact class_Has_in hi
theorem class_Add_in {a : Cl} {l : List Int} (hl : ∀ x ∈ l, InR .u8 x) (hn : l.length < 9223372036854775807) : class_Add a l (a.addL l) := by
  refine upto (P := fun k (s : Cl) v => class_Add.l1 l _ k s v) l.length (fun i s => s = a.addL (l.take i)) ?_ ?_ a (by simp [Cl.addL])
  · rintro i s hi rfl
    refine .inr ⟨a.addL (l.take (i + 1)), rfl, fun k h => ?_⟩
    refine ⟨fun _ => ?_, fun h => absurd (by omega) (df h)⟩
    obtain ⟨n, hn, he⟩ := u8_of (hl l[i] (List.getElem_mem hi))
    refine ⟨l[i], by rw [at_nat]; simp [hi], ?_, ?_, i64_of (by omega) (by omega), ?_⟩
    · rw [he]; omega
    · rw [he]; omega
    · rw [he, show ((n : Int) / 64) = ((n / 64 : Nat) : Int) by omega, show ((n : Int) % 64) = ((n % 64 : Nat) : Int) by omega, put_words hn]
      have : (a.addL (l.take i)).put n = a.addL (l.take (i + 1)) := by
        rw [List.take_succ_eq_append_getElem hi]
        simp [Cl.addL, he]
      rw [this]; exact h
  · rintro s rfl k
    exact ⟨fun h => absurd (dt h) (by omega), fun _ => by simp [class_Add.j1]⟩
theorem class_Of_in {f t : Int} : class_Of f t (Cl.row f t) := by
  refine upto (P := fun k (s : Cl) v => class_Of.l1 f t _ k s v) 256 (fun i s => ∀ n, n < 256 → s.has n = (decide (n < i) && (Cl.row f t).has n)) ?_ ?_ _ (by intro n _; simp [has_zero])
  · intro i s hi hs
    refine .inr ⟨if (decide (f ≤ (i : Int)) && decide ((i : Int) ≤ t)) = true then s.put i else s, ?_, fun k h => ?_⟩
    · intro n hn
      split
      · rename_i hc
        rw [has_put hi, hs n hn, has_row hn]
        by_cases e : i = n
        · subst e; simp [hc]
        · simp only [e, decide_false, Bool.or_false]
          congr 1
          apply decide_eq_decide.2; omega
      · rename_i hc
        rw [hs n hn, has_row hn]
        by_cases e : i = n
        · subst e; simp [hc]
        · congr 1
          apply decide_eq_decide.2; omega
    · refine ⟨fun _ => ?_, fun h => absurd (by omega) (df h)⟩
      rw [show ((i : Int) % 256) = i by omega]
      refine ⟨_, rfl, fun hc => ?_, fun hc => ?_⟩
      · rw [if_pos hc] at h
        refine ⟨s.put i, ?_, i64_of (by omega) (by omega), h⟩
        have := class_Add_in (a := s) (l := [(i : Int)]) (by simpa using u8_nat hi) (by simp)
        simpa [Cl.addL] using this
      · rw [if_neg (by simp [hc])] at h
        exact ⟨i64_of (by omega) (by omega), h⟩
  · intro s hs k
    refine ⟨fun h => absurd (dt h) (by omega), fun _ => ?_⟩
    show Cl.row f t = s
    apply Cl.ext
    intro c hc
    rw [hs c hc]; simp [hc]
theorem word_of_bits {r : Cl} {i v : Nat} (hi : i < 4) (hv : v < 2 ^ 64) (h : ∀ j, j < 64 → r.has (64 * i + j) = v.testBit j) : r.word i = v := by
  apply Nat.eq_of_testBit_eq
  intro j
  rw [Cl.word_bit]
  by_cases hj : j < 64
  · simp [hj, h j hj]
  · have : v < 2 ^ j := Nat.lt_of_lt_of_le hv (Nat.pow_le_pow_right (by omega) (by omega))
    simp [hj, Nat.testBit_lt_two_pow this]
theorem ref01_Has_in {a : Cl} {n : Nat} (hn : n < 256) : ref01_Has a (n : Int) (a.has n) := by
  refine ⟨by omega, ⟨by omega, by omega⟩, ?_⟩
  have hw : Cl.w a ((n : Int) / 64) = ((a.word (n / 64) : Nat) : Int) := by
    rw [show ((n : Int) / 64) = ((n / 64 : Nat) : Int) by omega]; rfl
  rw [hw]
  refine upto (P := fun k (s : Int) v => ref01_Has.l1 (n : Int) _ k s v) (n % 64) (fun i s => s = ((a.word (n / 64) / 2 ^ i : Nat) : Int)) ?_ ?_ _ (by simp)
  · rintro i s hi rfl
    refine .inr ⟨_, rfl, fun k h => ⟨by omega, fun _ => ⟨i64_of (by omega) (by omega), ?_⟩, fun h => absurd (by omega) (df h)⟩⟩
    rw [Nat.pow_succ, ← Nat.div_div_eq_div_mul, Int.natCast_ediv] at h
    exact h
  · rintro s rfl k
    refine ⟨by omega, fun h => absurd (dt h) (by omega), fun _ => ?_⟩
    show a.has n = _
    rw [has_w hn, Nat.testBit_eq_decide_div_mod_eq]
    rcases Nat.mod_two_eq_zero_or_one (a.word (n / 64) / 2 ^ (n % 64)) with h | h
    · rw [h, show (((a.word (n / 64) / 2 ^ (n % 64) : Nat) : Int) % 2) = 0 by omega]; rfl
    · rw [h, show (((a.word (n / 64) / 2 ^ (n % 64) : Nat) : Int) % 2) = 1 by omega]; rfl
theorem ref01_Has_u8 {a : Cl} {c : Int} (hc : InR .u8 c) : ref01_Has a c (a.has c.toNat) := by
  obtain ⟨n, hn, rfl⟩ := u8_of hc
  simpa using ref01_Has_in (a := a) hn
end Go.Proofs.YtdidjelkkanenaaDoor.V
namespace Go.Proofs.YtdidjelkkanenaaDoor.V
open Go
set_option linter.unusedVariables false
theorem ref01_Of_l2 {l : List Bool} (hl : l.length = 256) {w : Nat} (hw : w < 4) {X : Cl → Prop} {s : Cl} (h0 : s.word w = 0) (hX : ∀ t : Cl, (∀ j, j < 4 → t.word j = if j = w then bitsOf (fun j => l.getD (64 * w + j) false) 64 else s.word j) → X t) :
    ∃ k, ref01_Of.l2 l (w : Int) X k s 1 0 := by
  refine upto (P := fun k (s : Cl × Int) v => ref01_Of.l2 l (w : Int) X k s.1 s.2 v) 64
    (fun i t => (∀ j, j < 4 → t.1.word j = if j = w then bitsOf (fun j => l.getD (64 * w + j) false) i else s.word j) ∧ t.2 = ((2 ^ i % 2 ^ 64 : Nat) : Int)) ?_ ?_ (s, 1) ?_
  · rintro i ⟨t, b⟩ hi ⟨h1, h2⟩
    simp only at h1 h2
    subst h2
    have hb := bitsOf_lt (fun j => l.getD (64 * w + j) false) (i + 1)
    have hp : 2 ^ (i + 1) ≤ 2 ^ 64 := Nat.pow_le_pow_right (by omega) (by omega)
    have hp2 : 2 ^ i < 2 ^ 64 := Nat.pow_lt_pow_right (by omega) hi
    have hbit : IntKind.wrap .u64 (((2 ^ i % 2 ^ 64 : Nat) : Int) * 2) = ((2 ^ (i + 1) % 2 ^ 64 : Nat) : Int) := by
      rw [wrap_u64, Nat.mod_eq_of_lt hp2, Nat.pow_succ]; omega
    have hat : at? l (64 * (w : Int) + (i : Int)) = some (l.getD (64 * w + i) false) := by
      rw [show (64 * (w : Int) + (i : Int)) = ((64 * w + i : Nat) : Int) by omega, at_nat, List.getElem?_eq_getElem (by omega)]
      simp [List.getD, List.getElem?_eq_getElem (show 64 * w + i < l.length by omega)]
    cases he : l.getD (64 * w + i) false
    · refine .inr ⟨(t, ((2 ^ (i + 1) % 2 ^ 64 : Nat) : Int)), ⟨fun j hj => ?_, rfl⟩, fun k h => ⟨fun _ => ⟨i64_of (by omega) (by omega), i64_of (by omega) (by omega), _, hat, fun hc => (by rw [he] at hc; cases hc), fun _ => ⟨i64_of (by omega) (by omega), ?_⟩⟩, fun h => absurd (by omega) (df h)⟩⟩
      · simp only
        rw [h1 j hj]
        split
        · simp only [bitsOf, he, cond_false]
        · rfl
      · rw [hbit]; exact h
    · refine .inr ⟨(t.setw (w : Int) ((bitsOf (fun j => l.getD (64 * w + j) false) (i + 1) : Nat) : Int), ((2 ^ (i + 1) % 2 ^ 64 : Nat) : Int)), ⟨fun j hj => ?_, rfl⟩, fun k h => ⟨fun _ => ⟨i64_of (by omega) (by omega), i64_of (by omega) (by omega), _, hat, fun _ => ⟨⟨by omega, by omega⟩, ⟨by omega, by omega⟩, i64_of (by omega) (by omega), ?_⟩, fun hc => (by rw [he] at hc; cases hc)⟩, fun h => absurd (by omega) (df h)⟩⟩
      · simp only
        rw [setw_word (by rw [Int.toNat_natCast]; omega) j hj, Int.toNat_natCast]
        split
        · rfl
        · rename_i e; rw [h1 j hj, if_neg e]
      · have hww : (Cl.w t (w : Int)) = ((bitsOf (fun j => l.getD (64 * w + j) false) i : Nat) : Int) := by
          show ((t.word ((w : Int).toNat) : Nat) : Int) = _
          rw [Int.toNat_natCast, h1 w hw, if_pos rfl]
        have hsum : IntKind.wrap .u64 (Cl.w t (w : Int) + ((2 ^ i % 2 ^ 64 : Nat) : Int)) = ((bitsOf (fun j => l.getD (64 * w + j) false) (i + 1) : Nat) : Int) := by
          have e2 : bitsOf (fun j => l.getD (64 * w + j) false) (i + 1) = 2 ^ i + bitsOf (fun j => l.getD (64 * w + j) false) i := by simp only [bitsOf, he, cond_true]
          rw [hww, wrap_u64, Nat.mod_eq_of_lt hp2]
          omega
        rw [hbit, hsum]; exact h
  · rintro ⟨t, b⟩ ⟨h1, _⟩ k
    exact ⟨fun h => absurd (dt h) (by omega), fun _ => hX t h1⟩
  · refine ⟨fun j hj => ?_, by rfl⟩
    split
    · rename_i e; subst e; simpa [bitsOf] using h0
    · rfl
theorem ofL_word {l : List Bool} {w : Nat} (hw : w < 4) : (Cl.ofL l).word w = bitsOf (fun j => l.getD (64 * w + j) false) 64 := by
  refine word_of_bits hw (bitsOf_lt _ 64) fun j hj => ?_
  rw [has_ofL (by omega), bitsOf_bit]
  simp [hj]
theorem ref01_Of_in {l : List Bool} (hl : l.length = 256) : ref01_Of l (Cl.ofL l) := by
  refine upto (P := fun k (s : Cl) v => ref01_Of.l1 l _ k s v) 4 (fun i s => ∀ j, j < 4 → s.word j = if j < i then (Cl.ofL l).word j else 0) ?_ ?_ _ ?_
  · intro i s hi h
    refine .inr ⟨Cl.ofWords (if 0 < i + 1 then (Cl.ofL l).word 0 else 0) (if 1 < i + 1 then (Cl.ofL l).word 1 else 0) (if 2 < i + 1 then (Cl.ofL l).word 2 else 0) (if 3 < i + 1 then (Cl.ofL l).word 3 else 0), ?_, fun k hk => ⟨fun _ => ?_, fun h => absurd (by omega) (df h)⟩⟩
    · have hb : ∀ (c : Prop) [Decidable c] (k : Nat), (if c then (Cl.ofL l).word k else 0) < 2 ^ 64 := fun c _ k => by
        split
        · exact Cl.word_lt _ _
        · omega
      obtain ⟨e0, e1, e2, e3⟩ := Cl.ofWords_word (hb (0 < i + 1) 0) (hb (1 < i + 1) 1) (hb (2 < i + 1) 2) (hb (3 < i + 1) 3)
      intro j hj
      match j, hj with
      | 0, _ => exact e0
      | 1, _ => exact e1
      | 2, _ => exact e2
      | 3, _ => exact e3
    · refine ref01_Of_l2 hl hi (by rw [h i hi, if_neg (by omega)]) fun t ht => ?_
      refine ⟨i64_of (by omega) (by omega), ?_⟩
      have hb : ∀ (c : Prop) [Decidable c] (k : Nat), (if c then (Cl.ofL l).word k else 0) < 2 ^ 64 := fun c _ k => by
        split
        · exact Cl.word_lt _ _
        · omega
      obtain ⟨e0, e1, e2, e3⟩ := Cl.ofWords_word (hb (0 < i + 1) 0) (hb (1 < i + 1) 1) (hb (2 < i + 1) 2) (hb (3 < i + 1) 3)
      have key : ∀ j, j < 4 → t.word j = if j < i + 1 then (Cl.ofL l).word j else 0 := fun j hj => by
        rw [ht j hj]
        by_cases e : j = i
        · subst e; rw [if_pos rfl, if_pos (by omega), ofL_word hj]
        · rw [if_neg e, h j hj]
          by_cases e2 : j < i
          · rw [if_pos e2, if_pos (by omega)]
          · rw [if_neg e2, if_neg (by omega)]
      have : t = _ := Cl.ext_words (x := t) (y := Cl.ofWords (if 0 < i + 1 then (Cl.ofL l).word 0 else 0) (if 1 < i + 1 then (Cl.ofL l).word 1 else 0) (if 2 < i + 1 then (Cl.ofL l).word 2 else 0) (if 3 < i + 1 then (Cl.ofL l).word 3 else 0)) fun j hj => by
        rw [key j hj]
        match j, hj with
        | 0, _ => exact e0.symm
        | 1, _ => exact e1.symm
        | 2, _ => exact e2.symm
        | 3, _ => exact e3.symm
      rw [this]; exact hk
  · intro s h k
    refine ⟨fun h => absurd (dt h) (by omega), fun _ => ?_⟩
    show Cl.ofL l = s
    exact Cl.ext_words fun j hj => by rw [h j hj, if_pos hj]
  · intro j hj
    simp [Cl.word]
theorem ofL_set {l : List Bool} {f : Nat → Bool} (h : ∀ n, n < 256 → l[n]? = some (f n)) : Cl.ofL l = Cl.of f := by
  apply Cl.ext
  intro c hc
  rw [has_ofL hc, Cl.of_has _ hc]
  simp [List.getD, h c hc]
theorem ref01_Row_in {f t : Int} (hf : InR .u8 f) (ht : InR .u8 t) : ref01_Row f t (Cl.row f t) := by
  obtain ⟨f, hf1, rfl⟩ := u8_of hf
  obtain ⟨t, ht1, rfl⟩ := u8_of ht
  refine run (P := fun k (s : List Bool × Int) => ref01_Row.l1 (t : Int) _ k s.1 s.2)
    (fun s => s.1.length = 256 ∧ ∃ i : Nat, s.2 = i ∧ f ≤ i ∧ (i ≤ t + 1 ∨ i = f) ∧ ∀ n, n < 256 → s.1[n]? = some (decide (f ≤ n) && decide (n < i))) (fun s => 257 - s.2.toNat) ?_ (List.replicate 256 false, (f : Int)) ?_
  · rintro ⟨l, i'⟩ ⟨hl, i, hi, h1, h2, h3⟩
    simp only at hl hi h3
    subst hi
    by_cases hc : i ≤ t
    · refine .inr ⟨(l.set i true, ((i + 1 : Nat) : Int)), ⟨by simpa using hl, i + 1, rfl, by omega, by omega, fun n hn => ?_⟩, ?_, fun k h => ⟨fun _ => ⟨l[i]'(by omega), by rw [at_nat]; exact List.getElem?_eq_getElem (by show i < l.length; omega), i64_of (by simp only; omega) (by simp only; omega), ?_⟩, fun h => absurd (by show (i : Int) ≤ (t : Int); omega) (df h)⟩⟩
      · simp only [List.getElem?_set]
        split
        · rename_i e; subst e; simp [show i < l.length by omega, h1]
        · rename_i e
          rw [h3 n hn]; congr 2; apply decide_eq_decide.2; omega
      · simp only [Int.toNat_natCast]; omega
      · simpa using h
    · refine .inl fun k => ⟨fun h => absurd (dt h) (by simp only; omega), fun _ => ⟨Cl.ofL l, ref01_Of_in hl, ?_⟩⟩
      rw [ofL_set h3]
      apply Cl.ext
      intro c hc2
      rw [has_row hc2, Cl.of_has _ hc2]
      by_cases e : f ≤ c
      · have e3 : (decide (c < i) : Bool) = decide (c ≤ t) := decide_eq_decide.2 (by omega)
        rw [e3]
        congr 1
        · apply decide_eq_decide.2; omega
        · apply decide_eq_decide.2; omega
      · rw [decide_eq_false (show ¬ (f : Int) ≤ (c : Int) by omega), decide_eq_false e]
        simp
  · refine ⟨List.length_replicate, f, rfl, Nat.le_refl _, by omega, fun n hn => ?_⟩
    show (List.replicate 256 false)[n]? = _
    rw [List.getElem?_replicate, if_pos hn]
    by_cases e : f ≤ n
    · simp [show ¬ n < f by omega]
    · simp [e]
end Go.Proofs.YtdidjelkkanenaaDoor.V
namespace Go.Proofs.YtdidjelkkanenaaDoor.V
open Go
set_option linter.unusedVariables false
def readF (d : List SNode) (s : List SItem) (c : Int) : List SItem × Bool :=
  match s with
  | [] => ([], false)
  | x :: rest =>
    if (lowF rest).2 = false then ([], false)
    else match at? d x.2.1 with
      | none => ([], false)
      | some n =>
        if x.1 = 3 then (if byte? n.2.2.2.2.2.2 x.2.2.1 = some c then ((if x.2.2.1 + 1 < (n.2.2.2.2.2.2.length : Int) then [(3, x.2.1, x.2.2.1 + 1, 0)] else []) ++ (lowF rest).1, true) else ([], false))
        else if x.1 = 4 then ([(1, n.2.1, 0, 0), (5, 0, 256 * x.2.2.1 + c, 0)] ++ (lowF rest).1, true)
        else if n.1 = 8 then ([(1, n.2.1, 0, 0), (5, 0, c, 0)] ++ (lowF rest).1, true)
        else if n.1 = 9 then ([(4, x.2.1, c, 0)] ++ (lowF rest).1, true)
        else if n.2.2.2.2.2.1.has c.toNat = true then ((lowF rest).1, true) else ([], false)
theorem lowF_len (s : List SItem) : (lowF s).1.length ≤ s.length := by unfold lowF; split <;> simp
theorem readF_len (d : List SNode) (s : List SItem) (c : Int) : (readF d s c).1.length ≤ s.length + 1 := by
  cases s with
  | nil => simp [readF]
  | cons x rest =>
    have := lowF_len rest
    unfold readF
    simp only
    split
    · simp
    · cases at? d x.2.1 with
      | none => simp
      | some n =>
        simp only [List.length_cons]
        split
        · split
          · split <;> simp <;> omega
          · simp
        · split
          · simp; omega
          · split
            · simp; omega
            · split
              · simp; omega
              · split <;> simp; omega
theorem itR_form {d : List SNode} (hd : ROk d) (hl : d.length ≤ 1000) (ht : ∀ n ∈ d, n.2.2.2.2.2.2.length ≤ 140737488351232) {x : SItem} (hx : formI d x = true) : ItR x := by
  unfold formI at hx
  split at hx
  · rename_i h5
    simp only [Bool.and_eq_true, beq_iff_eq, decide_eq_true_eq] at hx
    exact ⟨i64_of (by omega) (by omega), i64_of (by omega) (by omega), i64_of (by omega) (by omega), i64_of (by omega) (by omega)⟩
  · cases hn : at? d x.2.1 with
    | none => rw [hn] at hx; cases hx
    | some n =>
      rw [hn] at hx
      have hb := at_bound hn
      have hm : n ∈ d := by
        obtain ⟨k, _, hk⟩ := at_nn hn
        exact List.mem_of_getElem? hk
      have htn := ht n hm
      simp only at hx
      split at hx
      · rename_i h1
        simp only [Bool.and_eq_true, beq_iff_eq] at hx
        exact ⟨i64_of (by omega) (by omega), i64_of (by omega) (by omega), i64_of (by omega) (by omega), i64_of (by omega) (by omega)⟩
      · split at hx
        · rename_i h2
          simp only [Bool.and_eq_true, beq_iff_eq, decide_eq_true_eq] at hx
          have := hd.rep _ n hn hx.1.1.1
          exact ⟨i64_of (by omega) (by omega), i64_of (by omega) (by omega), i64_of (by omega) (by omega), i64_of (by omega) (by omega)⟩
        · split at hx
          · rename_i h3
            simp only [Bool.and_eq_true, beq_iff_eq, decide_eq_true_eq] at hx
            exact ⟨i64_of (by omega) (by omega), i64_of (by omega) (by omega), i64_of (by omega) (by omega), i64_of (by omega) (by omega)⟩
          · split at hx
            · rename_i h4
              simp only [Bool.and_eq_true, beq_iff_eq, decide_eq_true_eq] at hx
              exact ⟨i64_of (by omega) (by omega), i64_of (by omega) (by omega), i64_of (by omega) (by omega), i64_of (by omega) (by omega)⟩
            · cases hx
theorem itR_all {d : List SNode} (hd : ROk d) (hl : d.length ≤ 1000) (ht : ∀ n ∈ d, n.2.2.2.2.2.2.length ≤ 140737488351232) {s : List SItem} (hs : formS d s = true) : ∀ x ∈ s, ItR x := by
  intro x hx
  unfold formS at hs
  rw [List.all_eq_true] at hs
  exact itR_form hd hl ht (hs x hx)
theorem rdy_kind {d : List SNode} {x : SItem} {rest : List SItem} (hf : formS d (x :: rest) = true) (hr : rdy d (x :: rest) = true) : ∃ n, at? d x.2.1 = some n ∧ n ∈ d ∧ ((x.1 = 1 ∧ (n.1 = 2 ∨ n.1 = 8 ∨ n.1 = 9)) ∨ (x.1 = 3 ∧ n.1 = 3 ∧ x.2.2.2 = 0 ∧ 0 ≤ x.2.2.1 ∧ x.2.2.1 < (n.2.2.2.2.2.2.length : Int)) ∨ (x.1 = 4 ∧ n.1 = 9 ∧ 0 ≤ x.2.2.1 ∧ x.2.2.1 ≤ 255)) := by
  have hx := (form_cons hf).1
  have h5 : x.1 ≠ 5 := fun h => by simp [rdy, h] at hr
  obtain ⟨n, hn, _⟩ := form_node hx h5
  have hm : n ∈ d := by
    obtain ⟨k, _, hk⟩ := at_nn hn
    exact List.mem_of_getElem? hk
  refine ⟨n, hn, hm, ?_⟩
  unfold formI at hx
  rw [if_neg h5, hn] at hx
  simp only [rdy, hn, Bool.or_eq_true, beq_iff_eq, Bool.and_eq_true] at hr
  simp only at hx
  rcases hr with (h3 | h4) | ⟨h1, h2⟩
  · rw [if_neg (by omega), if_neg (by omega), if_pos h3] at hx
    simp only [Bool.and_eq_true, beq_iff_eq, decide_eq_true_eq] at hx
    exact .inr (.inl ⟨h3, hx.1.1.1, hx.1.1.2, hx.1.2, hx.2⟩)
  · rw [if_neg (by omega), if_neg (by omega), if_neg (by omega), if_pos h4] at hx
    simp only [Bool.and_eq_true, beq_iff_eq, decide_eq_true_eq] at hx
    exact .inr (.inr ⟨h4, hx.1.1.1, hx.1.2, hx.2⟩)
  · exact .inl ⟨h1, by omega⟩
theorem byte_at {s : Str} {i : Int} (h0 : 0 ≤ i) (h1 : i < (s.length : Int)) : ∃ c, byte? s i = some c ∧ InR .u8 c := by
  obtain ⟨x, hx, _⟩ := at_in h0 h1
  refine ⟨(x.toNat : Int), by unfold byte?; rw [hx]; rfl, inR_u8.2 ⟨by omega, ?_⟩⟩
  have := x.toNat_lt
  omega
theorem next_Read_in {d : List SNode} (hd : ROk d) (hl : d.length ≤ 1000) (ht : ∀ n ∈ d, n.2.2.2.2.2.2.length ≤ 140737488351232) {s : List SItem} (hs : s.length ≤ 1000) (hf : formS d s = true) (hr : rdy d s = true) {c : Int} (hc : InR .u8 c) : next_Read d s c (readF d s c) := by
  cases s with
  | nil => exact ⟨fun _ => rfl, fun h => by simp at h⟩
  | cons x rest =>
    have hls : rest.length ≤ 1000 := by simp at hs; omega
    have hcr := inR_u8.1 hc
    obtain ⟨n, hn, hm, hk⟩ := rdy_kind hf hr
    have htn := ht n hm
    have hlow := item_Lower_in hls (itR_all hd hl ht (form_cons hf).2)
    have hlen := lowF_len rest
    refine ⟨fun h => by simp at h; omega, fun _ => ⟨⟨by omega, by simp; omega⟩, lowF rest, hlow, x, rfl, fun hb => ?_, fun hb => ⟨x, rfl, n, hn, x, rfl, ?_⟩⟩⟩
    · have hmh : mhas gfmS x.1 = true := by rcases hk with ⟨h, _⟩ | ⟨h, _⟩ | ⟨h, _⟩ <;> rw [h] <;> rfl
      rw [hmh] at hb
      simp only [Bool.not_true, Bool.or_false, Bool.not_eq_true'] at hb
      unfold readF
      simp only
      rw [if_pos hb]
    · simp only [Bool.or_eq_false_iff, Bool.not_eq_false'] at hb
      have hb1 : ¬ (lowF rest).2 = false := by rw [hb.1]; simp
      have cat : ∀ l : List SItem, l.length ≤ 2 → slices_Concat_api_State_api_Item [l, (lowF rest).1] (l ++ (lowF rest).1) := fun l h => concat2_in (by omega) (by omega)
      rcases hk with ⟨h1, h2⟩ | ⟨h3, h4, h5, h6, h7⟩ | ⟨h4, h9, h6, h7⟩
      · -- a node
        have e1 : mget gfmS x.1 none = mget gfmS 1 none := by rw [h1]
        rw [e1]
        rcases h2 with h2 | h2 | h2
        · by_cases hh : n.2.2.2.2.2.1.has c.toNat = true
          · have hrd : readF d (x :: rest) c = ([] ++ (lowF rest).1, true) := by
              unfold readF; simp only [hn]; rw [if_neg hb1, if_neg (by omega), if_neg (by omega), if_neg (by omega), if_neg (by omega), if_pos hh]; rfl
            rw [hrd]
            refine ⟨([], true), .inl ⟨rfl, fun h => by simp [h2] at h, fun _ => ⟨fun h => by simp [h2] at h, fun _ => ⟨_, class_Has_u8 hc, by rw [hh]⟩⟩⟩, fun h => by simp at h, fun _ => ⟨_, cat [] (by simp), rfl⟩⟩
          · have hh' : n.2.2.2.2.2.1.has c.toNat = false := by simpa using hh
            have hrd : readF d (x :: rest) c = ([], false) := by
              unfold readF; simp only [hn]; rw [if_neg hb1, if_neg (by omega), if_neg (by omega), if_neg (by omega), if_neg (by omega), if_neg hh]
            rw [hrd]
            exact ⟨([], false), .inl ⟨rfl, fun h => by simp [h2] at h, fun _ => ⟨fun h => by simp [h2] at h, fun _ => ⟨_, class_Has_u8 hc, by rw [hh']⟩⟩⟩, fun _ => rfl, fun h => by simp at h⟩
        · have hrd : readF d (x :: rest) c = ([(1, n.2.1, 0, 0), (5, 0, c, 0)] ++ (lowF rest).1, true) := by
            unfold readF; simp only [hn]; rw [if_neg hb1, if_neg (by omega), if_neg (by omega), if_pos h2]
          rw [hrd]
          exact ⟨([(1, n.2.1, 0, 0), (5, 0, c, 0)], true), .inl ⟨rfl, fun _ => ⟨_, rfl, rfl⟩, fun h => by simp [h2] at h⟩, fun h => by simp at h, fun _ => ⟨_, cat _ (by simp), rfl⟩⟩
        · have hrd : readF d (x :: rest) c = ([(4, x.2.1, c, 0)] ++ (lowF rest).1, true) := by
            unfold readF; simp only [hn]; rw [if_neg hb1, if_neg (by omega), if_neg (by omega), if_neg (by omega), if_pos h2]
          rw [hrd]
          exact ⟨([(4, x.2.1, c, 0)], true), .inl ⟨rfl, fun h => by simp [h2] at h, fun _ => ⟨fun _ => rfl, fun h => by simp [h2] at h⟩⟩, fun h => by simp at h, fun _ => ⟨_, cat _ (by simp), rfl⟩⟩
      · -- a text
        have e1 : mget gfmS x.1 none = mget gfmS 3 none := by rw [h3]
        rw [e1]
        obtain ⟨b, hb2, _⟩ := byte_at h6 h7
        obtain ⟨xk, xi, xl, xh⟩ := x
        simp only at h3 h5 h6 h7 hb2 hn
        subst h3; subst h5
        by_cases hbc : b = c
        · subst hbc
          by_cases hlast : xl + 1 < (n.2.2.2.2.2.2.length : Int)
          · have hrd : readF d ((3, xi, xl, 0) :: rest) b = ([(3, xi, xl + 1, 0)] ++ (lowF rest).1, true) := by
              unfold readF; simp only [hn]; rw [if_neg hb1, if_pos trivial, if_pos hb2, if_pos hlast]
            rw [hrd]
            refine ⟨([(3, xi, xl + 1, 0)], true), .inr (.inl ⟨rfl, i64_of (by show _ ≤ xl + 1; omega) (by show xl + 1 ≤ _; omega), _, rfl, fun h => ?_, fun _ => ⟨b, hb2, by simp⟩⟩), fun h => by simp at h, fun _ => ⟨_, cat _ (by simp), rfl⟩⟩
            simp at h; omega
          · have hrd : readF d ((3, xi, xl, 0) :: rest) b = ([] ++ (lowF rest).1, true) := by
              unfold readF; simp only [hn]; rw [if_neg hb1, if_pos trivial, if_pos hb2, if_neg hlast]
            rw [hrd]
            refine ⟨([], true), .inr (.inl ⟨rfl, i64_of (by show _ ≤ xl + 1; omega) (by show xl + 1 ≤ _; omega), _, rfl, fun _ => ⟨b, hb2, by simp⟩, fun h => ?_⟩), fun h => by simp at h, fun _ => ⟨_, cat _ (by simp), rfl⟩⟩
            simp at h; omega
        · have hne : ¬ byte? n.2.2.2.2.2.2 xl = some c := by rw [hb2]; simpa using hbc
          have hrd : readF d ((3, xi, xl, 0) :: rest) c = ([], false) := by
            unfold readF; simp only [hn]; rw [if_neg hb1, if_pos trivial, if_neg hne]
          rw [hrd]
          have hbeq : (b == c) = false := by simpa using hbc
          by_cases hlast : xl + 1 = (n.2.2.2.2.2.2.length : Int)
          · refine ⟨([], false), .inr (.inl ⟨rfl, i64_of (by show _ ≤ xl + 1; omega) (by show xl + 1 ≤ _; omega), _, rfl, fun _ => ⟨b, hb2, by rw [hbeq]⟩, fun h => ?_⟩), fun _ => rfl, fun h => by simp at h⟩
            simp at h; omega
          · refine ⟨([(3, xi, xl + 1, 0)], false), .inr (.inl ⟨rfl, i64_of (by show _ ≤ xl + 1; omega) (by show xl + 1 ≤ _; omega), _, rfl, fun h => ?_, fun _ => ⟨b, hb2, by rw [hbeq]⟩⟩), fun _ => rfl, fun h => by simp at h⟩
            simp at h; omega
      · -- half a number
        have e1 : mget gfmS x.1 none = mget gfmS 4 none := by rw [h4]
        rw [e1]
        have hrd : readF d (x :: rest) c = ([(1, n.2.1, 0, 0), (5, 0, 256 * x.2.2.1 + c, 0)] ++ (lowF rest).1, true) := by
          unfold readF; simp only [hn]; rw [if_neg hb1, if_neg (by omega), if_pos h4]
        rw [hrd]
        exact ⟨([(1, n.2.1, 0, 0), (5, 0, 256 * x.2.2.1 + c, 0)], true), .inr (.inr ⟨rfl, i64_of (by show _ ≤ 256 * x.2.2.1; omega) (by show 256 * x.2.2.1 ≤ _; omega), i64_of (by show _ ≤ 256 * x.2.2.1 + c; omega) (by show 256 * x.2.2.1 + c ≤ _; omega), _, rfl, rfl⟩), fun h => by simp at h, fun _ => ⟨_, cat _ (by simp), rfl⟩⟩
theorem ref15_Read_in {d : List SNode} (hd : ROk d) (hl : d.length ≤ 1000) (ht : ∀ n ∈ d, n.2.2.2.2.2.2.length ≤ 140737488351232) {s : List SItem} (hs : s.length ≤ 1000) (hf : formS d s = true) (hr : rdy d s = true) {c : Int} (hc : InR .u8 c) : ref15_Read d s c (readF d s c) := by
  cases s with
  | nil => exact ⟨fun _ => rfl, fun h => by simp at h⟩
  | cons x rest =>
    have hls : rest.length ≤ 1000 := by simp at hs; omega
    have hcr := inR_u8.1 hc
    obtain ⟨n, hn, hm, hk⟩ := rdy_kind hf hr
    have htn := ht n hm
    have hlow := ref13_Lower_in hls (itR_all hd hl ht (form_cons hf).2)
    have hlen := lowF_len rest
    refine ⟨fun h => by simp at h; omega, fun _ => ⟨⟨by omega, by simp; omega⟩, lowF rest, hlow, fun hb => ?_, fun hb => ⟨x, rfl, n, hn, ?_⟩⟩⟩
    · simp only [Bool.not_eq_true'] at hb
      unfold readF
      simp only
      rw [if_pos hb]
    · simp only [Bool.not_eq_false'] at hb
      have hb1 : ¬ (lowF rest).2 = false := by rw [hb]; simp
      rcases hk with ⟨h1, h2⟩ | ⟨h3, h4, h5, h6, h7⟩ | ⟨h4, h9, h6, h7⟩
      · refine ⟨fun h => by simp [h1] at h, fun _ => ⟨fun h => by simp [h1] at h, fun _ => ?_⟩⟩
        rcases h2 with h2 | h2 | h2
        · refine ⟨fun h => by simp [h2] at h, fun _ => ⟨fun h => by simp [h2] at h, fun _ => ⟨_, ref01_Has_u8 hc, fun hh => ?_, fun hh => ⟨by simp; omega, ?_⟩⟩⟩⟩
          · have hh' : ¬ n.2.2.2.2.2.1.has c.toNat = true := by simpa using hh
            unfold readF; simp only [hn]; rw [if_neg hb1, if_neg (by omega), if_neg (by omega), if_neg (by omega), if_neg (by omega), if_neg hh']
          · have hh' : n.2.2.2.2.2.1.has c.toNat = true := by simpa using hh
            unfold readF; simp only [hn]; rw [if_neg hb1, if_neg (by omega), if_neg (by omega), if_neg (by omega), if_neg (by omega), if_pos hh']; rfl
        · refine ⟨fun _ => ⟨by simp; omega, ?_⟩, fun h => by simp [h2] at h⟩
          unfold readF; simp only [hn]; rw [if_neg hb1, if_neg (by omega), if_neg (by omega), if_pos h2]
        · refine ⟨fun h => by simp [h2] at h, fun _ => ⟨fun _ => ⟨by simp; omega, ?_⟩, fun h => by simp [h2] at h⟩⟩
          unfold readF; simp only [hn]; rw [if_neg hb1, if_neg (by omega), if_neg (by omega), if_neg (by omega), if_pos h2]
      · obtain ⟨b, hb2, _⟩ := byte_at h6 h7
        refine ⟨fun _ => ⟨b, hb2, fun hbc => ?_, fun hbc => ⟨i64_of (by omega) (by omega), _, rfl, fun hl2 => ⟨i64_of (by omega) (by omega), by simp; omega, ?_⟩, fun hl2 => ⟨by simp; omega, ?_⟩⟩⟩, fun h => by simp [h3] at h⟩
        · have hne : ¬ byte? n.2.2.2.2.2.2 x.2.2.1 = some c := by rw [hb2]; simpa using hbc
          unfold readF; simp only [hn]; rw [if_neg hb1, if_pos h3, if_neg hne]
        · have he : byte? n.2.2.2.2.2.2 x.2.2.1 = some c := by rw [hb2]; simpa using hbc
          unfold readF; simp only [hn]; rw [if_neg hb1, if_pos h3, if_pos he, if_pos (dt hl2)]
        · have he : byte? n.2.2.2.2.2.2 x.2.2.1 = some c := by rw [hb2]; simpa using hbc
          unfold readF; simp only [hn]; rw [if_neg hb1, if_pos h3, if_pos he, if_neg (df hl2)]
      · refine ⟨fun h => by simp [h4] at h, fun _ => ⟨fun _ => ⟨i64_of (by omega) (by omega), i64_of (by omega) (by omega), by simp; omega, ?_⟩, fun h => by simp [h4] at h⟩⟩
        unfold readF; simp only [hn]; rw [if_neg hb1, if_neg (by omega), if_pos h4]
end Go.Proofs.YtdidjelkkanenaaDoor.V
namespace Go.Proofs.YtdidjelkkanenaaDoor.V
open Go
set_option linter.unusedVariables false
theorem CV_tr {d : List SNode} {f i : Int} (h : Tr d f i) : ∀ k, ((CV d k i).length : Int) ≤ i - f + 1 := by
  induction h with
  | leaf he hk hx h0 =>
    rename_i i e
    intro k
    cases k with
    | zero => simp [CV]
    | succ k =>
      unfold CV
      rw [he]
      simp only
      rcases hk with h | h | h
      · simp [h]
      · simp [h]
      · simp [h]
  | one he hk ha hb hr t ih =>
    rename_i f i e
    intro k
    have hle := t.le
    cases k with
    | zero => simp [CV]; omega
    | succ k =>
      have := ih k
      unfold CV
      rw [he]
      simp only
      rw [if_neg (by omega), if_neg (by omega), if_neg (by omega), if_neg (by omega), ha]
      split
      · rw [List.length_map]; omega
      · split
        · rw [List.length_map]; omega
        · simp; omega
  | two he hk ha hb t1 t2 i1 i2 =>
    rename_i f p i e
    intro k
    have h1 := t1.le
    have h2 := t2.le
    cases k with
    | zero => simp [CV]; omega
    | succ k =>
      have a1 := i1 k
      have a2 := i2 k
      unfold CV
      rw [he]
      simp only
      rw [if_neg (by omega), if_neg (by omega), ha, hb]
      split
      · rw [List.length_append, List.length_map]; omega
      · split
        · rw [List.length_append]; omega
        · omega
theorem CV_few {d : List SNode} (h : Rt d) (k : Nat) (i : Int) : (CV d k i).length ≤ d.length + 1 := by
  cases hn : at? d i with
  | none => cases k <;> simp [CV, hn]
  | some n =>
    obtain ⟨g, hg⟩ := h.tr.at hn
    have h1 := CV_tr hg k
    have h2 := hg.le
    have h3 := hg.lt
    omega
theorem CS_few {d : List SNode} (h : Rt d) : ∀ s : List SItem, (CS d s).length ≤ s.length * (d.length + 1) + 1
  | [] => by simp [CS]
  | x :: rest => by
    have h1 := CS_few h rest
    have h2 : (CI d x).length ≤ d.length + 1 := by
      unfold CI
      split
      · exact CV_few h _ _
      · split
        · split
          · rw [List.length_map]; exact CV_few h _ _
          · simp
        · simp
    simp only [CS, List.length_append, List.length_map, List.length_cons, Nat.succ_mul]
    omega
theorem heads_few {d : List SNode} {s : List SItem} (h : Sm d s) {B : List SBranch} (hB : Can (fun t => (hds d s).count t) B) : B.length ≤ 1001 := by
  have h0 := can_len hB (U := CS d s) fun t ht => hds_CS d s t (List.count_pos_iff.1 (by omega))
  have h1 := CS_few h.rt s
  have h3 := h.slen
  have h4 : s.length * (d.length + 1) ≤ 40 * 25 := Nat.mul_le_mul h3 (by have := h.len; omega)
  omega
theorem heads_ok {d : List SNode} {s : List SItem} (h : Sm d s) {t : List SItem} (ht : (hds d s).count t ≠ 0) : t.length ≤ 100 ∧ rdy d t = true ∧ formS d t = true := by
  obtain ⟨L, ⟨k, hk⟩, hp⟩ := hds_lv h.rt.toROk s h.form
  have hm : t ∈ L := hp.mem_iff.2 (List.count_pos_iff.1 (by omega))
  obtain ⟨h1, h2⟩ := lv_vs h.rt.toROk (n0 := 40) k s L hk (Vs.start h.form h.slen) t hm
  have := h1.len
  have := h.len
  exact ⟨by omega, h2, h1.form⟩
def fB (d : List SNode) (c : Int) (B : List SBranch) (u : List SItem) : Nat := (B.map fun b => if (readF d b.1 c).2 = true ∧ (readF d b.1 c).1 = u then b.2.toNat else 0).sum
theorem fB_snoc (d : List SNode) (c : Int) (B : List SBranch) (b : SBranch) (u : List SItem) : fB d c (B ++ [b]) u = fB d c B u + if (readF d b.1 c).2 = true ∧ (readF d b.1 c).1 = u then b.2.toNat else 0 := by
  simp [fB]
theorem fB_pos {d : List SNode} {c : Int} {B : List SBranch} {u : List SItem} (h : fB d c B u ≠ 0) : ∃ b ∈ B, (readF d b.1 c).2 = true ∧ (readF d b.1 c).1 = u := by
  induction B with
  | nil => simp [fB] at h
  | cons b B ih =>
    by_cases hb : (readF d b.1 c).2 = true ∧ (readF d b.1 c).1 = u
    · exact ⟨b, by simp, hb⟩
    · have e : fB d c (b :: B) u = fB d c B u := by
        unfold fB; rw [List.map_cons, List.sum_cons, if_neg hb, Nat.zero_add]
      rw [e] at h
      obtain ⟨b', h1, h2⟩ := ih h
      exact ⟨b', by simp [h1], h2⟩
structure HOk (d : List SNode) (B : List SBranch) : Prop where
  few : B.length ≤ 1001
  ok : ∀ b ∈ B, b.1.length ≤ 100 ∧ rdy d b.1 = true ∧ formS d b.1 = true
  many : ∀ b ∈ B, 1 ≤ b.2 ∧ b.2 ≤ 2
theorem Sm.hok {d : List SNode} {s : List SItem} (h : Sm d s) {B : List SBranch} (hB : Can (fun t => (hds d s).count t) B) : HOk d B :=
  ⟨heads_few h hB, fun b hb => heads_ok h (hB.many hb).2.1, fun b hb => (hB.many hb).2.2⟩
theorem fB_read {d : List SNode} {c : Int} {B : List SBranch} (h : HOk d B) {u : List SItem} (hu : fB d c B u ≠ 0) : u.length ≤ 101 := by
  obtain ⟨b, hb, _, rfl⟩ := fB_pos hu
  have := readF_len d b.1 c
  have := (h.ok b hb).1
  omega
theorem onB_len {d : List SNode} {c : Int} {B : List SBranch} {R : List SBranch} (hR : Can (fB d c B) R) : R.length ≤ B.length := by
  have := can_len hR (U := B.map fun b => (readF d b.1 c).1) fun u hu => by
    obtain ⟨b, hb, _, e⟩ := fB_pos hu
    exact List.mem_map.2 ⟨b, hb, e⟩
  simpa using this
theorem HOk.take {d : List SNode} {B : List SBranch} (h : HOk d B) (i : Nat) : HOk d (B.take i) :=
  ⟨by have := h.few; rw [List.length_take]; omega, fun b hb => h.ok b (List.mem_of_mem_take hb), fun b hb => h.many b (List.mem_of_mem_take hb)⟩
section
variable {d : List SNode} (hd : ROk d) (hl : d.length ≤ 1000) (ht : ∀ n ∈ d, n.2.2.2.2.2.2.length ≤ 140737488351232) {c : Int} (hc : InR .u8 c) {B : List SBranch} (hB : HOk d B)
include hd hl ht hc hB
theorem ref15_On_l : ∃ R, (∃ k, ref15_On.l1 d c B (ref15_On.j1 R) k [] 0) ∧ Can (fB d c B) R := by
  have key : ∀ (m i : Nat) (out : List SBranch), i + m = B.length → Can (fB d c (B.take i)) out → ∃ (R : List SBranch) (k : Nat), ref15_On.l1 d c B (ref15_On.j1 R) k out (i : Int) ∧ Can (fB d c B) R := by
    intro m
    induction m with
    | zero =>
      intro i out hi ho
      rw [List.take_of_length_le (by omega)] at ho
      exact ⟨out, 1, ⟨fun h => absurd (dt h) (by omega), fun _ => rfl⟩, ho⟩
    | succ m ih =>
      intro i out hi ho
      have hil : i < B.length := by omega
      have hat : at? B (i : Int) = some B[i] := by rw [at_nat]; simp [hil]
      have hbm := List.getElem_mem hil
      obtain ⟨b1, b2, b3⟩ := hB.ok _ hbm
      obtain ⟨m1, m2⟩ := hB.many _ hbm
      have hrd := ref15_Read_in hd hl ht (by omega) b3 b2 hc
      have e := fB_snoc d c (B.take i) B[i]
      rw [← List.take_succ_eq_append_getElem hil] at e
      have hfew := hB.few
      cases hr : (readF d B[i].1 c).2
      · obtain ⟨R, k, hk1, hk2⟩ := ih (i + 1) out (by omega) (ho.congr fun t => by rw [e, hr]; simp)
        exact ⟨R, k + 1, ⟨fun _ => ⟨_, hat, _, hrd, (fun h => by rw [hr] at h; cases h), fun _ => ⟨i64_of (by omega) (by omega), hk1⟩⟩, fun h => absurd (by omega) (df h)⟩, hk2⟩
      · have hn : (B[i].2.toNat : Nat) ≠ 0 := by omega
        have hsat : sat B[i].2.toNat = B[i].2 := by unfold sat; omega
        have hadd := ho.add (readF d B[i].1 c).1 hn
        rw [hsat] at hadd
        have hol := onB_len ho
        have hbo : BrOk out := ho.brok fun t ht => by have := fB_read (hB.take i) ht; omega
        have hrl := readF_len d B[i].1 c
        obtain ⟨R, k, hk1, hk2⟩ := ih (i + 1) (addB (readF d B[i].1 c).1 B[i].2 out) (by omega) (hadd.congr fun t => by
          rw [e, hr]
          simp only [true_and, eq_comm])
        exact ⟨R, k + 1, ⟨fun _ => ⟨_, hat, _, hrd, fun _ => ⟨_, hat, _, ref14_Add_in ho.srt hbo (by rw [List.length_take] at hol; omega) (by omega) ⟨by omega, by omega⟩, i64_of (by omega) (by omega), hk1⟩, (fun h => by rw [hr] at h; cases h)⟩, fun h => absurd (by omega) (df h)⟩, hk2⟩
  obtain ⟨R, k, h1, h2⟩ := key B.length 0 [] (by omega) (Can.nil.congr fun t => by simp [fB])
  exact ⟨R, ⟨k, h1⟩, h2⟩
structure MapN (f : List SItem → Nat) (m : List (Str × Int)) : Prop where
  kn : KN m
  mem : ∀ k v, (k, v) ∈ m ↔ ∃ u, k = keyS u ∧ f u ≠ 0 ∧ v = sat (f u)
omit hd hl ht hc hB in
theorem MapN.get {f : List SItem → Nat} {m} (h : MapN f m) (u : List SItem) : mget m (keyS u) (0 : Int) = sat (f u) := by
  by_cases hu : f u = 0
  · rw [mget_none fun p hp e => ?_]
    · rw [hu]; rfl
    · obtain ⟨k, v⟩ := p
      obtain ⟨w, h1, h2, _⟩ := (h.mem k v).1 hp
      simp only at e
      rw [e] at h1
      rw [keyS_iff.1 h1] at hu
      exact h2 hu
  · have hm := (h.mem (keyS u) (sat (f u))).2 ⟨u, rfl, hu, rfl⟩
    exact mget_mem h.kn hm (0 : Int)
omit hd hl ht hc hB in
theorem MapN.put {f : List SItem → Nat} {m} (h : MapN f m) (u : List SItem) {n : Nat} (hn : n ≠ 0) {v : Int} (hv : v = sat (f u + n)) : MapN (fun t => f t + if t = u then n else 0) (mput m (keyS u) v) := by
  refine ⟨mput_kn h.kn _ _, fun k w => ?_⟩
  rw [mput_mem, h.mem, Prod.mk.injEq]
  constructor
  · rintro (⟨h1, h2⟩ | ⟨h1, u', h2, h3, h4⟩)
    · exact ⟨u, h1, by simp; omega, by rw [h2, hv]; simp⟩
    · have hne : u' ≠ u := fun e => h1 (by rw [h2, e])
      exact ⟨u', h2, by simp [hne, h3], by rw [h4]; simp [hne]⟩
  · rintro ⟨u', h1, h2, h3⟩
    by_cases e : u' = u
    · subst e; exact .inl ⟨h1, by rw [h3, hv]; simp⟩
    · refine .inr ⟨fun e' => e (keyS_iff.1 (h1.symm.trans e')), u', h1, ?_, ?_⟩
      · simpa [e] using h2
      · rw [h3]; simp [e]
theorem next_On_l : ∃ R, (∃ k, next_On.l2 d c B (next_On.j2 R) k [] [] 0) ∧ Can (fB d c B) R := by
  have hfew := hB.few
  have last : ∀ (many : List (Str × Int)) (out : List SBranch), MapN (fB d c B) many → (out.map (·.1)).Nodup → (∀ u, u ∈ out.map (·.1) ↔ fB d c B u ≠ 0) → out.length ≤ 1001 → ∃ R, next_On.j2 R many out ∧ Can (fB d c B) R := by
    intro many out hm hn ho hlen
    have hlo : ∀ b ∈ out, b.1.length ≤ 1000 := fun b hb => by
      have := fB_read hB ((ho b.1).1 (List.mem_map.2 ⟨b, hb, rfl⟩)); omega
    let out' := out.map fun b => (b.1, sat (fB d c B b.1))
    have e1 : out'.map (·.1) = out.map (·.1) := by simp [out', Function.comp_def]
    have hn' : (out'.map (·.1)).Nodup := by rw [e1]; exact hn
    have hcan : Can (fB d c B) (srtB out') := by
      refine ⟨srtB_srt hn', fun t m => ?_⟩
      rw [(srtB_perm out').mem_iff]
      constructor
      · intro h
        obtain ⟨b, hb, e⟩ := List.mem_map.1 h
        simp only [Prod.mk.injEq] at e
        obtain ⟨rfl, rfl⟩ := e
        exact ⟨(ho _).1 (List.mem_map.2 ⟨b, hb, rfl⟩), rfl⟩
      · rintro ⟨h1, h2⟩
        obtain ⟨b, hb, e⟩ := List.mem_map.1 ((ho t).2 h1)
        exact List.mem_map.2 ⟨b, hb, by rw [e, h2]⟩
    refine ⟨srtB out', ?_, hcan⟩
    refine upto (P := fun k (o : List SBranch) v => next_On.l1 many out (next_On.j1 (srtB out')) k o v) out.length (fun i o => o = out'.take i ++ out.drop i) ?_ ?_ out (by simp)
    · rintro i o hi rfl
      have hl1 : (out'.take i).length = i := by simp [out']; omega
      have hat : at? (out'.take i ++ out.drop i) (i : Int) = some out[i] := by
        rw [at_nat, List.getElem?_append_right (by omega), hl1, Nat.sub_self]; simp [hi]
      have hset : (out'.take i ++ out.drop i).set i (out[i].1, sat (fB d c B out[i].1)) = out'.take (i + 1) ++ out.drop (i + 1) := by
        rw [List.set_append_right _ _ (by omega), hl1, Nat.sub_self, List.drop_eq_getElem_cons hi, List.set_cons_zero, List.take_succ_eq_append_getElem (show i < out'.length by simp [out']; exact hi)]
        simp [out']
      refine .inr ⟨_, rfl, fun k hk => ⟨fun _ => ⟨_, hat, _, ⟨hlo _ (List.getElem_mem hi), rfl⟩, _, hat, i64_of (by omega) (by omega), ?_⟩, fun h => absurd (by omega) (df h)⟩⟩
      rw [hm.get, Int.toNat_natCast, hset]
      exact hk
    · rintro o rfl k
      refine ⟨fun h => absurd (dt h) (by omega), fun _ => ?_⟩
      have hl2 : out'.length = out.length := by simp [out']
      rw [List.take_of_length_le (by omega), List.drop_length, List.append_nil]
      exact ⟨_, ⟨hn', fun b hb => by
        obtain ⟨b', hb', rfl⟩ := List.mem_map.1 hb
        exact hlo b' hb', by omega, rfl⟩, rfl⟩
  have key : ∀ (m i : Nat) (many : List (Str × Int)) (out : List SBranch), i + m = B.length → MapN (fB d c (B.take i)) many → (out.map (·.1)).Nodup → (∀ u, u ∈ out.map (·.1) ↔ fB d c (B.take i) u ≠ 0) → out.length ≤ i → ∃ (R : List SBranch) (k : Nat), next_On.l2 d c B (next_On.j2 R) k many out (i : Int) ∧ Can (fB d c B) R := by
    intro m
    induction m with
    | zero =>
      intro i many out hi hm hn ho hlen
      rw [List.take_of_length_le (by omega)] at hm ho
      obtain ⟨R, h1, h2⟩ := last many out hm hn ho (by omega)
      exact ⟨R, 1, ⟨fun h => absurd (dt h) (by omega), fun _ => h1⟩, h2⟩
    | succ m ih =>
      intro i many out hi hm hn ho hlen
      have hil : i < B.length := by omega
      have hat : at? B (i : Int) = some B[i] := by rw [at_nat]; simp [hil]
      have hbm := List.getElem_mem hil
      obtain ⟨b1, b2, b3⟩ := hB.ok _ hbm
      obtain ⟨m1, m2⟩ := hB.many _ hbm
      have hrd := next_Read_in hd hl ht (by omega) b3 b2 hc
      have hrl := readF_len d B[i].1 c
      have e := fB_snoc d c (B.take i) B[i]
      rw [← List.take_succ_eq_append_getElem hil] at e
      cases hr : (readF d B[i].1 c).2
      · have e0 : ∀ u, fB d c (B.take (i + 1)) u = fB d c (B.take i) u := fun u => by rw [e, hr]; simp
        have e0' : fB d c (B.take (i + 1)) = fB d c (B.take i) := funext e0
        obtain ⟨R, k, hk1, hk2⟩ := ih (i + 1) many out (by omega) (by rw [e0']; exact hm) hn (by rw [e0']; exact ho) (by omega)
        exact ⟨R, k + 1, ⟨fun _ => ⟨_, hat, _, hrd, fun _ => ⟨i64_of (by omega) (by omega), hk1⟩, (fun h => by rw [hr] at h; cases h)⟩, fun h => absurd (by omega) (df h)⟩, hk2⟩
      · have hn0 : B[i].2.toNat ≠ 0 := by omega
        have hg := hm.get (readF d B[i].1 c).1
        have hv : min (mget many (keyS (readF d B[i].1 c).1) 0 + B[i].2) 2 = sat (fB d c (B.take i) (readF d B[i].1 c).1 + B[i].2.toNat) := by
          rw [hg]; unfold sat; omega
        have e0' : fB d c (B.take (i + 1)) = fun t => fB d c (B.take i) t + if t = (readF d B[i].1 c).1 then B[i].2.toNat else 0 := funext fun u => by
          rw [e, hr]
          simp only [true_and, eq_comm]
        have hput := hm.put (readF d B[i].1 c).1 hn0 hv
        rw [← e0'] at hput
        have hin : InR .i64 (mget many (keyS (readF d B[i].1 c).1) 0 + B[i].2) := by rw [hg]; unfold sat; exact i64_of (by omega) (by omega)
        by_cases h0 : fB d c (B.take i) (readF d B[i].1 c).1 = 0
        · obtain ⟨R, k, hk1, hk2⟩ := ih (i + 1) _ (out ++ [((readF d B[i].1 c).1, 0)]) (by omega) hput (by
            rw [List.map_append, List.nodup_append]
            refine ⟨hn, by simp, fun a ha b hb e => ?_⟩
            simp at hb
            subst hb; subst e
            exact (ho _).1 ha h0) (fun u => by
            rw [e0', List.map_append, List.mem_append, ho]
            by_cases hu : u = (readF d B[i].1 c).1
            · subst hu; simp; omega
            · simp [hu]) (by simp; omega)
          refine ⟨R, k + 1, ⟨fun _ => ⟨_, hat, _, hrd, fun h => by rw [hr] at h; simp at h, fun _ => ⟨_, ⟨by omega, rfl⟩, fun _ => ⟨by simp; omega, hin, i64_of (by omega) (by omega), hk1⟩, fun h => ?_⟩⟩, fun h => absurd (by omega) (df h)⟩, hk2⟩
          rw [hg, h0] at h; simp [sat] at h
        · obtain ⟨R, k, hk1, hk2⟩ := ih (i + 1) _ out (by omega) hput hn (fun u => by
            rw [e0', ho]
            by_cases hu : u = (readF d B[i].1 c).1
            · subst hu; simp [h0]
            · simp [hu]) (by omega)
          refine ⟨R, k + 1, ⟨fun _ => ⟨_, hat, _, hrd, fun h => by rw [hr] at h; simp at h, fun _ => ⟨_, ⟨by omega, rfl⟩, fun h => ?_, fun _ => ⟨hin, i64_of (by omega) (by omega), hk1⟩⟩⟩, fun h => absurd (by omega) (df h)⟩, hk2⟩
          exfalso
          rw [hg] at h
          have := eq_of_beq h
          unfold sat at this
          omega
  obtain ⟨R, k, h1, h2⟩ := key B.length 0 [] [] (by omega) ⟨List.nodup_nil, fun k v => by simp [fB]⟩ (by simp) (by simp [fB]) (by simp)
  exact ⟨R, ⟨k, h1⟩, h2⟩
end
theorem on_both {d : List SNode} {s : List SItem} (h : Sm d s) {c : Int} (hc : InR .u8 c) : ∃ B R, heads_Heads d s B ∧ Can (fun t => (hds d s).count t) B ∧ next_On d s c R ∧ ref15_On d s c R ∧ Can (fB d c B) R := by
  obtain ⟨B, b1, b2, b3⟩ := heads_both h
  have hB := h.hok b3
  have hl : d.length ≤ 1000 := by have := h.len; omega
  obtain ⟨R, ⟨k, h1⟩, h2⟩ := next_On_l h.rt.toROk hl h.txt hc hB
  obtain ⟨R', ⟨k', h1'⟩, h2'⟩ := ref15_On_l h.rt.toROk hl h.txt hc hB
  have e := h2'.uniq h2
  subst e
  exact ⟨B, R', b1, b3, ⟨B, b1, k, h1⟩, ⟨B, b2, k', h1'⟩, h2⟩
end Go.Proofs.YtdidjelkkanenaaDoor.V
namespace Go.Proofs.YtdidjelkkanenaaDoor.V
open Go
set_option linter.unusedVariables false
def movN (c : Int) (n : SNode) : SNode := (n.1, if 4 ≤ n.1 then n.2.1 + c else n.2.1, if n.1 = 4 ∨ n.1 = 5 then n.2.2.1 + c else n.2.2.1, n.2.2.2.1, n.2.2.2.2.1, n.2.2.2.2.2.1, n.2.2.2.2.2.2)
def movL (c : Int) (l : List SNode) : List SNode := l.map (movN c)
theorem movL_len (c : Int) (l : List SNode) : (movL c l).length = l.length := List.length_map ..
theorem moved_in {l : List SNode} {c : Int} (hl : l.length ≤ 1000) (hr : ∀ n ∈ l, InR .i64 (n.2.1 + c) ∧ InR .i64 (n.2.2.1 + c)) : ref04_moved l c (movL c l) := by
  refine upto (P := fun k (o : List SNode) v => ref04_moved.l1 l c _ k o v) l.length (fun i o => o = movL c (l.take i)) ?_ ?_ [] (by simp [movL])
  · rintro i o hi rfl
    have hat : at? l (i : Int) = some l[i] := by rw [at_nat]; simp [hi]
    obtain ⟨r1, r2⟩ := hr _ (List.getElem_mem hi)
    have e : movL c (l.take (i + 1)) = movL c (l.take i) ++ [movN c l[i]] := by
      unfold movL
      rw [List.take_succ_eq_append_getElem hi, List.map_append]; rfl
    have hll : (movL c (l.take i)).length = i := by rw [movL_len]; simp; omega
    refine .inr ⟨_, rfl, fun k hk => ⟨fun _ => ⟨l[i], hat, ?_⟩, fun h => absurd (by omega) (df h)⟩⟩
    rw [e] at hk
    have last : ∀ w : SNode, w = movN c l[i] → ref04_moved.j2 (ref04_moved.l1 l c (ref04_moved.j1 (movL c l)) k) (movL c (l.take i)) (i : Int) w := by
      rintro w rfl
      exact ⟨by rw [hll]; simp; omega, i64_of (by omega) (by omega), hk⟩
    generalize l[i] = n at *
    obtain ⟨k0, a, b, lo, hi2, cl, tx⟩ := n
    simp only at r1 r2
    refine ⟨fun h4 => ⟨r1, fun h5 => ⟨r2, last _ ?_⟩, fun h5 => last _ ?_⟩, fun h4 => ⟨fun h5 => ?_, fun h5 => last _ ?_⟩⟩
    · have := dt h4
      simp only at this
      simp only [Bool.or_eq_true, beq_iff_eq] at h5
      simp only [movN, if_pos this, if_pos h5]
    · have := dt h4
      simp only at this
      simp only [Bool.or_eq_false_iff, beq_eq_false_iff_ne] at h5
      have h5' : ¬ (k0 = 4 ∨ k0 = 5) := by omega
      simp only [movN, if_pos this, if_neg h5']
    · exfalso
      have := df h4
      simp only at this
      simp only [Bool.or_eq_true, beq_iff_eq] at h5
      omega
    · have := df h4
      simp only at this
      have h5' : ¬ (k0 = 4 ∨ k0 = 5) := by omega
      simp only [movN, if_neg this, if_neg h5']
  · rintro o rfl k
    refine ⟨fun h => absurd (dt h) (by omega), fun _ => ?_⟩
    show movL c l = movL c (l.take l.length)
    rw [List.take_length]
theorem movN_zero (n : SNode) : movN 0 n = n := by
  obtain ⟨k, a, b, r⟩ := n
  simp [movN]
theorem movL_zero (l : List SNode) : movL 0 l = l := by
  unfold movL
  rw [show movN 0 = id from funext movN_zero, List.map_id]
def pairD (k : Int) (a b : List SNode) : List SNode := (a ++ movL (a.length : Int) b) ++ [(k, (a.length : Int) - 1, ((a.length : Int) + (b.length : Int)) - 1, 0, 0, (0#256), ([] : Str))]
def wrapD (k : Int) (a : List SNode) : List SNode := a ++ [(k, (a.length : Int) - 1, 0, 0, 0, (0#256), ([] : Str))]
structure Sma (d : List SNode) : Prop where
  a : ∀ n ∈ d, 0 ≤ n.2.1 ∧ n.2.1 ≤ (d.length : Int)
  b : ∀ n ∈ d, 0 ≤ n.2.2.1 ∧ n.2.2.1 ≤ (d.length : Int)
theorem Tr.parts {l : List SNode} {f i : Int} (h : Tr l f i) {n : SNode} (hn : at? l i = some n) : (0 ≤ n.2.1 ∧ n.2.1 ≤ i) ∧ (0 ≤ n.2.2.1 ∧ n.2.2.1 ≤ i) := by
  have hb := at_bound hn
  cases h with
  | leaf he hk hx h0 => rw [hn] at he; cases he; omega
  | one he hk ha hb hr h => rw [hn] at he; cases he; have := h.le; omega
  | two he hk ha hb h1 h2 => rw [hn] at he; cases he; have := h1.le; have := h2.le; omega
theorem mem_at {α : Type} {l : List α} {x : α} (h : x ∈ l) : ∃ i : Int, at? l i = some x := by
  obtain ⟨i, hi, e⟩ := List.mem_iff_getElem.1 h
  exact ⟨(i : Int), by rw [at_nat]; simp [hi, e]⟩
theorem Tr.sma {d : List SNode} (h : Tr d 0 ((d.length : Int) - 1)) : Sma d := by
  constructor
  all_goals
    intro n hn
    obtain ⟨i, hi⟩ := mem_at hn
    obtain ⟨g, hg⟩ := h.at hi
    have := hg.parts hi
    have := at_bound hi
    omega
theorem moved_ok {d : List SNode} (h : Tr d 0 ((d.length : Int) - 1)) (hl : d.length ≤ 1000) {c : Int} (h0 : 0 ≤ c) (h1 : c ≤ 1000) : ref04_moved d c (movL c d) :=
  moved_in hl fun n hn => by
    have := h.sma.a n hn
    have := h.sma.b n hn
    exact ⟨i64_of (by omega) (by omega), i64_of (by omega) (by omega)⟩
theorem Pair_in {k : Int} {a b : List SNode} (ha : Tr a 0 ((a.length : Int) - 1)) (hb : Tr b 0 ((b.length : Int) - 1)) (la : a.length ≤ 1000) (lb : b.length ≤ 1000) : ref04_Pair k a b (pairD k a b) := by
  refine ⟨_, moved_ok ha la (Int.le_refl 0) (by omega), _, moved_ok hb lb (c := (a.length : Int)) (by omega) (by omega), by rw [movL_len, movL_len]; omega, i64_of (by omega) (by omega), i64_of (by omega) (by omega), i64_of (by omega) (by omega), by rw [List.length_append, movL_len, movL_len]; simp; omega, ?_⟩
  rw [movL_zero]; rfl
theorem Wrap_in {k : Int} {a : List SNode} (ha : Tr a 0 ((a.length : Int) - 1)) (la : a.length ≤ 1000) : ref04_Wrap k 0 0 a (wrapD k a) := by
  refine ⟨_, moved_ok ha la (Int.le_refl 0) (by omega), i64_of (by omega) (by omega), by rw [movL_len]; simp; omega, ?_⟩
  rw [movL_zero]; rfl
structure Emb (l l' : List SNode) (c : Int) : Prop where
  nn : 0 ≤ c
  at' : ∀ i n, at? l i = some n → at? l' (i + c) = some (movN c n)
theorem Tr.emb {l l' : List SNode} {c : Int} (h : Emb l l' c) {f i : Int} (t : Tr l f i) : Tr l' (f + c) (i + c) := by
  induction t with
  | leaf he hk hx h0 =>
    rename_i i e
    have e1 : movN c e = e := by
      obtain ⟨k, a, b, r⟩ := e
      simp only at hk
      simp only [movN, if_neg (show ¬ 4 ≤ k by omega), if_neg (show ¬ (k = 4 ∨ k = 5) by omega)]
    exact .leaf (e1 ▸ h.at' _ _ he) hk hx h0
  | one he hk ha hb hr t ih =>
    rename_i f i e
    refine .one (h.at' _ _ he) hk ?_ ?_ hr (by have e : i - 1 + c = i + c - 1 := by omega
                                               rw [← e]; exact ih)
    · simp only [movN]; rw [if_pos (by omega)]; omega
    · simp only [movN]; rw [if_neg (by omega)]; exact hb
  | two he hk ha hb t1 t2 i1 i2 =>
    rename_i f p i e
    refine .two (p := p + c) (h.at' _ _ he) hk ?_ ?_ (by have e : i - 1 + c = i + c - 1 := by omega
                                                         rw [← e]; exact i1) (by have e : p - 1 + c = p + c - 1 := by omega
                                                                                 rw [← e]; exact i2)
    · simp only [movN]; rw [if_pos (by omega)]; omega
    · simp only [movN]; rw [if_pos (by omega)]; omega
theorem Emb.get {l l' : List SNode} {c : Int} (h : Emb l l' c) {i : Int} {n : SNode} (hn : at? l i = some n) : ∃ m, at? l' (i + c) = some m ∧ m.1 = n.1 ∧ (4 ≤ n.1 → m.2.1 = n.2.1 + c) ∧ (n.1 = 4 ∨ n.1 = 5 → m.2.2.1 = n.2.2.1 + c) ∧ m.2.2.2.1 = n.2.2.2.1 ∧ m.2.2.2.2.1 = n.2.2.2.2.1 :=
  ⟨movN c n, h.at' _ _ hn, rfl, fun h => if_pos h, fun h => if_pos h, rfl, rfl⟩
theorem nz_emb {l l' : List SNode} {c : Int} (h : Emb l l' c) (hl : NOk l) (hl' : NOk l') : ∀ (k : Nat) (i : Int) (n : SNode), i < (k : Int) → at? l i = some n → nz l' (i + c) = nz l i
  | 0, i, n, hi, hn => by have := at_bound hn; omega
  | k + 1, i, n, hi, hn => by
    have ih := nz_emb h hl hl' k
    obtain ⟨m, hm, f1, f2, f3, f4, f5⟩ := h.get hn
    rw [nz_atN hl hn, nz_atN hl' hm, f1, f4]
    by_cases h1 : n.1 = 1
    · rw [if_pos h1, if_pos h1]
    · rw [if_neg h1, if_neg h1]
      by_cases h4 : n.1 = 4
      · obtain ⟨⟨a, b⟩, c', e⟩ := hl.two _ n hn (.inl h4)
        obtain ⟨m1, hm1⟩ := at_lt hn a b
        obtain ⟨m2, hm2⟩ := at_lt hn c' e
        rw [if_pos h4, if_pos h4, f2 (by omega), f3 (.inl h4), ih _ m1 (by omega) hm1, ih _ m2 (by omega) hm2]
      · rw [if_neg h4, if_neg h4]
        by_cases h5 : n.1 = 5
        · obtain ⟨⟨a, b⟩, c', e⟩ := hl.two _ n hn (.inr h5)
          obtain ⟨m1, hm1⟩ := at_lt hn a b
          obtain ⟨m2, hm2⟩ := at_lt hn c' e
          rw [if_pos h5, if_pos h5, f2 (by omega), f3 (.inr h5), ih _ m1 (by omega) hm1, ih _ m2 (by omega) hm2]
        · rw [if_neg h5, if_neg h5]
          by_cases h6 : n.1 = 6
          · rw [if_pos h6, if_pos h6]
          · rw [if_neg h6, if_neg h6]
            by_cases h7 : n.1 = 7
            · obtain ⟨a, b⟩ := hl.one _ n hn (.inr (.inl h7))
              obtain ⟨m1, hm1⟩ := at_lt hn a b
              rw [if_pos h7, if_pos h7, f2 (by omega), ih _ m1 (by omega) hm1]
            · rw [if_neg h7, if_neg h7]
theorem at_left {α : Type} {a b : List α} {i : Int} {x : α} (h : at? a i = some x) : at? (a ++ b) i = some x := by
  obtain ⟨k, rfl, hk⟩ := at_nn h
  rw [at_nat, List.getElem?_append_left (List.getElem?_eq_some_iff.1 hk).1]; exact hk
theorem at_right {α : Type} {a b : List α} {i : Int} {x : α} (h : at? b i = some x) : at? (a ++ b) (i + (a.length : Int)) = some x := by
  obtain ⟨k, rfl, hk⟩ := at_nn h
  have e : (k : Int) + (a.length : Int) = ((k + a.length : Nat) : Int) := by omega
  rw [e, at_nat, List.getElem?_append_right (by omega), Nat.add_sub_cancel]; exact hk
theorem at_app {α : Type} {a b : List α} {i : Int} {x : α} (h : at? (a ++ b) i = some x) : at? a i = some x ∨ at? b (i - (a.length : Int)) = some x := by
  obtain ⟨k, rfl, hk⟩ := at_nn h
  rcases Nat.lt_or_ge k a.length with hlt | hge
  · rw [List.getElem?_append_left hlt] at hk
    exact .inl (by rw [at_nat]; exact hk)
  · rw [List.getElem?_append_right hge] at hk
    have e : (k : Int) - (a.length : Int) = ((k - a.length : Nat) : Int) := by omega
    exact .inr (by rw [e, at_nat]; exact hk)
theorem at_one {α : Type} {x y : α} {i : Int} (h : at? [x] i = some y) : i = 0 ∧ y = x := by
  have hb := at_bound h
  simp at hb
  obtain rfl : i = 0 := by omega
  cases h
  exact ⟨rfl, rfl⟩
theorem at_movL {c : Int} {l : List SNode} {i : Int} {n : SNode} (h : at? l i = some n) : at? (movL c l) i = some (movN c n) := by
  obtain ⟨k, rfl, hk⟩ := at_nn h
  rw [at_nat]
  unfold movL
  rw [List.getElem?_map, hk]; rfl
theorem at_movL_inv {c : Int} {l : List SNode} {i : Int} {n : SNode} (h : at? (movL c l) i = some n) : ∃ m, at? l i = some m ∧ n = movN c m := by
  obtain ⟨k, rfl, hk⟩ := at_nn h
  unfold movL at hk
  rw [List.getElem?_map] at hk
  obtain ⟨m, h1, h2⟩ := Option.map_eq_some_iff.1 hk
  exact ⟨m, by rw [at_nat]; exact h1, h2.symm⟩
theorem emb_left {a : List SNode} (r : List SNode) : Emb a (a ++ r) 0 := ⟨Int.le_refl _, fun i n h => by rw [movN_zero, Int.add_zero]; exact at_left h⟩
theorem emb_mid {a b r : List SNode} : Emb b ((a ++ movL (a.length : Int) b) ++ r) (a.length : Int) := ⟨by omega, fun i n h => at_left (at_right (at_movL h))⟩
theorem pair_len (k : Int) (a b : List SNode) : (pairD k a b).length = a.length + b.length + 1 := by simp [pairD, movL_len]; omega
theorem wrap_len (k : Int) (a : List SNode) : (wrapD k a).length = a.length + 1 := by simp [wrapD]
theorem pair_root (k : Int) (a b : List SNode) : at? (pairD k a b) ((a.length : Int) + (b.length : Int)) = some (k, (a.length : Int) - 1, ((a.length : Int) + (b.length : Int)) - 1, 0, 0, (0#256), ([] : Str)) := by
  have := at_right (a := a ++ movL (a.length : Int) b) (b := [(k, (a.length : Int) - 1, ((a.length : Int) + (b.length : Int)) - 1, 0, 0, (0#256), ([] : Str))]) (i := 0) rfl
  rw [List.length_append, movL_len] at this
  have e : (0 : Int) + ((a.length + b.length : Nat) : Int) = (a.length : Int) + (b.length : Int) := by omega
  rw [e] at this
  exact this
theorem wrap_root (k : Int) (a : List SNode) : at? (wrapD k a) (a.length : Int) = some (k, (a.length : Int) - 1, 0, 0, 0, (0#256), ([] : Str)) := by
  have := at_right (a := a) (b := [(k, (a.length : Int) - 1, 0, 0, 0, (0#256), ([] : Str))]) (i := 0) rfl
  rw [Int.zero_add] at this
  exact this
theorem pair_rt {k : Int} {a b : List SNode} (ha : Rt a) (hb : Rt b) (hk : k = 4 ∨ k = 5) : Rt (pairD k a b) := by
  have ea : Emb a (pairD k a b) 0 := by unfold pairD; rw [List.append_assoc]; exact emb_left _
  have eb : Emb b (pairD k a b) (a.length : Int) := emb_mid
  have ta := ha.tr.emb ea
  have tb := hb.tr.emb eb
  have tr : Tr (pairD k a b) 0 (((pairD k a b).length : Int) - 1) := by
    have e : (((pairD k a b).length : Int) - 1) = (a.length : Int) + (b.length : Int) := by rw [pair_len]; omega
    rw [e]
    refine .two (p := (a.length : Int)) (pair_root k a b) hk rfl rfl ?_ ?_
    · have e1 : (b.length : Int) - 1 + (a.length : Int) = (a.length : Int) + (b.length : Int) - 1 := by omega
      rw [e1, Int.zero_add] at tb; exact tb
    · rw [Int.add_zero, Int.add_zero] at ta; exact ta
  have nk := tr.nok
  refine ⟨⟨nk.two, nk.one, nk.rep, nk.kind, nk.ntx, fun i n hn h67 => ?_⟩, tr⟩
  unfold pairD at hn
  rcases at_app hn with hn | hn
  · rcases at_app hn with hn | hn
    · obtain ⟨p, q⟩ := ha.one _ n hn (by omega)
      obtain ⟨m, hm⟩ := at_lt hn p q
      have := nz_emb ea ha.nok nk a.length _ m (by have := at_bound hm; omega) hm
      rw [Int.add_zero] at this
      rw [this]
      exact ha.nn _ n hn h67
    · obtain ⟨m0, hm0, rfl⟩ := at_movL_inv hn
      have hk0 : m0.1 = 6 ∨ m0.1 = 7 := h67
      obtain ⟨p, q⟩ := hb.one _ m0 hm0 (by omega)
      obtain ⟨m, hm⟩ := at_lt hm0 p q
      have := nz_emb eb hb.nok nk b.length _ m (by have := at_bound hm; omega) hm
      simp only [movN]
      rw [if_pos (by omega), this]
      exact hb.nn _ m0 hm0 hk0
  · obtain ⟨_, rfl⟩ := at_one hn
    simp only at h67; omega
theorem wrap_rt {k : Int} {a : List SNode} (ha : Rt a) (hk : k = 6 ∨ k = 8 ∨ k = 9) (hz : k = 6 → nz a ((a.length : Int) - 1) = false) : Rt (wrapD k a) := by
  have ea : Emb a (wrapD k a) 0 := emb_left _
  have ta := ha.tr.emb ea
  have tr : Tr (wrapD k a) 0 (((wrapD k a).length : Int) - 1) := by
    have e : (((wrapD k a).length : Int) - 1) = (a.length : Int) := by rw [wrap_len]; omega
    rw [e]
    refine .one (wrap_root k a) (by simp only; omega) rfl rfl (fun h => by simp only at h; omega) ?_
    rw [Int.add_zero, Int.add_zero] at ta; exact ta
  have nk := tr.nok
  have hr := ha.tr.le
  refine ⟨⟨nk.two, nk.one, nk.rep, nk.kind, nk.ntx, fun i n hn h67 => ?_⟩, tr⟩
  unfold wrapD at hn
  have go : ∀ (A : Int) m, at? a A = some m → nz a A = false → nz (wrapD k a) A = false := fun A m hm hz => by
    have := nz_emb ea ha.nok nk a.length _ m (by have := at_bound hm; omega) hm
    rw [Int.add_zero] at this
    rw [this]; exact hz
  rcases at_app hn with hn | hn
  · obtain ⟨p, q⟩ := ha.one _ n hn (by omega)
    obtain ⟨m, hm⟩ := at_lt hn p q
    exact go _ m hm (ha.nn _ n hn h67)
  · obtain ⟨_, rfl⟩ := at_one hn
    simp only at h67 ⊢
    obtain ⟨m, hm, _⟩ := at_in (xs := a) (i := (a.length : Int) - 1) hr.2 (by omega)
    exact go _ m hm (hz (by omega))
theorem leaf_rt {n : SNode} (hk : n.1 = 1 ∨ n.1 = 2) (h0 : n.2.1 = 0 ∧ n.2.2.1 = 0) : Rt [n] := by
  have tr : Tr [n] 0 ((([n] : List SNode).length : Int) - 1) := .leaf (e := n) rfl (by omega) (fun h => by omega) h0
  have nk := tr.nok
  refine ⟨⟨nk.two, nk.one, nk.rep, nk.kind, nk.ntx, fun i m hm h67 => ?_⟩, tr⟩
  obtain ⟨_, rfl⟩ := at_one hm
  omega
end Go.Proofs.YtdidjelkkanenaaDoor.V
namespace Go.Proofs.YtdidjelkkanenaaDoor.V
open Go
set_option linter.unusedVariables false
theorem next_Ends_l {B : List SBranch} {f : List SItem → Nat} (hB : Can f B) (hl : B.length ≤ 1001) : ∃ k, next_Ends.l1 B (sat (f [])) (next_Ends.j1 (sat (f []))) k 0 := by
  refine upto (P := fun k (_ : Unit) v => next_Ends.l1 B (sat (f [])) _ k v) B.length (fun i _ => ∀ b ∈ B.take i, b.1 ≠ []) ?_ ?_ () (by simp)
  · intro i _ hi hn
    have hat : at? B (i : Int) = some B[i] := by rw [at_nat]; simp [hi]
    by_cases h0 : B[i].1 = []
    · refine .inl fun k => ⟨fun _ => ⟨_, hat, fun _ => ?_, fun h => by rw [h0] at h; simp at h⟩, fun h => absurd (by omega) (df h)⟩
      have := (hB.many (List.getElem_mem hi)).1
      rw [h0] at this; exact this.symm
    · refine .inr ⟨(), fun b hb => ?_, fun k hk => ⟨fun _ => ⟨_, hat, fun h => absurd (by simpa using h) h0, fun _ => ⟨i64_of (by omega) (by omega), hk⟩⟩, fun h => absurd (by omega) (df h)⟩⟩
      rw [List.take_succ_eq_append_getElem hi] at hb
      rcases List.mem_append.1 hb with hb | hb
      · exact hn b hb
      · rw [List.mem_singleton.1 hb]; exact h0
  · intro _ hn k
    refine ⟨fun h => absurd (dt h) (by omega), fun _ => ?_⟩
    show sat (f []) = 0
    rw [List.take_length] at hn
    have : f [] = 0 := by
      rcases Nat.eq_zero_or_pos (f []) with h | h
      · exact h
      · obtain ⟨b, hb, e⟩ := List.mem_map.1 ((hB.keys []).2 (by omega))
        exact absurd e (hn b hb)
    rw [this]; rfl
theorem ref15_Ends_l {B : List SBranch} {f : List SItem → Nat} (hB : Can f B) (hl : B.length ≤ 1001) : ∃ k, ref15_Ends.l1 B (sat (f [])) (ref15_Ends.j1 (sat (f []))) k 0 := by
  refine upto (P := fun k (_ : Unit) v => ref15_Ends.l1 B (sat (f [])) _ k v) B.length (fun i _ => ∀ b ∈ B.take i, b.1 ≠ []) ?_ ?_ () (by simp)
  · intro i _ hi hn
    have hat : at? B (i : Int) = some B[i] := by rw [at_nat]; simp [hi]
    by_cases h0 : B[i].1 = []
    · refine .inl fun k => ⟨fun _ => ⟨_, hat, fun _ => ⟨_, hat, ?_⟩, fun h => by rw [h0] at h; simp at h⟩, fun h => absurd (by omega) (df h)⟩
      have := (hB.many (List.getElem_mem hi)).1
      rw [h0] at this; exact this.symm
    · refine .inr ⟨(), fun b hb => ?_, fun k hk => ⟨fun _ => ⟨_, hat, fun h => absurd (by simpa using h) h0, fun _ => ⟨i64_of (by omega) (by omega), hk⟩⟩, fun h => absurd (by omega) (df h)⟩⟩
      rw [List.take_succ_eq_append_getElem hi] at hb
      rcases List.mem_append.1 hb with hb | hb
      · exact hn b hb
      · rw [List.mem_singleton.1 hb]; exact h0
  · intro _ hn k
    refine ⟨fun h => absurd (dt h) (by omega), fun _ => ?_⟩
    show sat (f []) = 0
    rw [List.take_length] at hn
    have : f [] = 0 := by
      rcases Nat.eq_zero_or_pos (f []) with h | h
      · exact h
      · obtain ⟨b, hb, e⟩ := List.mem_map.1 ((hB.keys []).2 (by omega))
        exact absurd e (hn b hb)
    rw [this]; rfl
theorem ends_both {d : List SNode} {s : List SItem} (h : Sm d s) : next_Ends d s (sat ((hds d s).count [])) ∧ ref15_Ends d s (sat ((hds d s).count [])) := by
  obtain ⟨B, b1, b2, b3⟩ := heads_both h
  have hl := heads_few h b3
  exact ⟨⟨B, b1, next_Ends_l b3 hl⟩, ⟨B, b2, ref15_Ends_l b3 hl⟩⟩
def sing : List Cl := (List.range 256).map fun (c : Nat) => Cl.row ((c : Int) % 256) ((c : Int) % 256)
def clsF (d : List SNode) (t : List SItem) : List Cl :=
  match t with
  | [] => []
  | x :: _ => match at? d x.2.1 with
    | none => []
    | some n => if x.1 = 3 then [Cl.row ((byte? n.2.2.2.2.2.2 x.2.2.1).getD 0) ((byte? n.2.2.2.2.2.2 x.2.2.1).getD 0)] else if n.1 = 2 then [n.2.2.2.2.2.1] else sing
def clsB (d : List SNode) (B : List SBranch) : List Cl := B.flatMap fun b => clsF d b.1
theorem sing_len : sing.length = 256 := by simp [sing]
theorem clsF_len (d : List SNode) (t : List SItem) : (clsF d t).length ≤ 256 := by
  unfold clsF
  cases t with
  | nil => simp
  | cons x t =>
    simp only
    cases at? d x.2.1 with
    | none => simp
    | some n =>
      simp only
      split
      · simp
      · split
        · simp
        · rw [sing_len]; exact Nat.le_refl _
theorem clsB_len (d : List SNode) : ∀ B : List SBranch, (clsB d B).length ≤ 256 * B.length
  | [] => by simp [clsB]
  | b :: B => by
    have h1 := clsF_len d b.1
    have h2 := clsB_len d B
    unfold clsB at *
    simp only [List.flatMap_cons, List.length_append, List.length_cons]
    omega
theorem clsB_snoc (d : List SNode) (B : List SBranch) (b : SBranch) : clsB d (B ++ [b]) = clsB d B ++ clsF d b.1 := by simp [clsB]
theorem next_singles_in : next_singles sing := by
  refine upto (P := fun k (o : List Cl) v => next_singles.l1 (next_singles.j1 sing) k o v) 256 (fun i o => o = sing.take i) ?_ ?_ [] (by simp)
  · rintro i o hi rfl
    have e : sing.take (i + 1) = sing.take i ++ [Cl.row ((i : Int) % 256) ((i : Int) % 256)] := by
      rw [List.take_succ_eq_append_getElem (by rw [sing_len]; exact hi)]; simp [sing]
    refine .inr ⟨_, rfl, fun k hk => ⟨fun _ => ⟨_, class_Of_in, by rw [List.length_take]; simp; omega, i64_of (by omega) (by omega), ?_⟩, fun h => absurd (by omega) (df h)⟩⟩
    rw [e] at hk; exact hk
  · rintro o rfl k
    refine ⟨fun h => absurd (dt h) (by omega), fun _ => ?_⟩
    show sing = sing.take 256
    rw [List.take_of_length_le (by rw [sing_len]; exact Nat.le_refl _)]
theorem next_Classes_l {d : List SNode} {B : List SBranch} (hB : HOk d B) : ∃ k, next_Classes.l1 d B (next_Classes.j1 (clsB d B)) k [] 0 := by
  have hfew := hB.few
  refine upto (P := fun k (o : List Cl) v => next_Classes.l1 d B (next_Classes.j1 (clsB d B)) k o v) B.length (fun i o => o = clsB d (B.take i)) ?_ ?_ [] (by simp [clsB])
  · rintro i o hi rfl
    have hat : at? B (i : Int) = some B[i] := by rw [at_nat]; simp [hi]
    obtain ⟨b1, b2, b3⟩ := hB.ok _ (List.getElem_mem hi)
    have hlen := clsB_len d (B.take i)
    rw [List.length_take] at hlen
    have e : clsB d (B.take (i + 1)) = clsB d (B.take i) ++ clsF d B[i].1 := by rw [List.take_succ_eq_append_getElem hi, clsB_snoc]
    refine .inr ⟨_, rfl, fun k hk => ⟨fun _ => ⟨_, hat, fun h0 => ?_, fun h0 => ?_⟩, fun h => absurd (by omega) (df h)⟩⟩
    · have h1 : B[i].1 = [] := by simpa using h0
      rw [e, h1] at hk
      simp only [clsF, List.append_nil] at hk
      exact ⟨i64_of (by omega) (by omega), hk⟩
    · rw [e] at hk
      generalize B[i].1 = t at *
      cases t with
      | nil => simp at h0
      | cons x rest =>
        obtain ⟨n, hn, hm, hkk⟩ := rdy_kind b3 b2
        simp only [clsF, hn] at hk
        refine ⟨x, rfl, n, hn, fun h3 => ?_, fun h3 => ⟨fun h2 => ?_, fun h2 => ?_⟩⟩
        · have h3' := eq_of_beq h3
          rw [if_pos h3'] at hk
          obtain ⟨_, _, h6, h7⟩ : n.1 = 3 ∧ x.2.2.2 = 0 ∧ 0 ≤ x.2.2.1 ∧ x.2.2.1 < (n.2.2.2.2.2.2.length : Int) := by
            rcases hkk with ⟨h, _⟩ | ⟨_, h⟩ | ⟨h, _⟩
            · omega
            · exact h
            · omega
          obtain ⟨b, hb2, _⟩ := byte_at h6 h7
          rw [hb2] at hk
          exact ⟨b, hb2, b, hb2, _, class_Of_in, by simp; omega, i64_of (by omega) (by omega), hk⟩
        · have h3' := ne_of_beq_false h3
          rw [if_neg h3', if_pos (eq_of_beq h2)] at hk
          exact ⟨by simp; omega, i64_of (by omega) (by omega), hk⟩
        · have h3' := ne_of_beq_false h3
          rw [if_neg h3', if_neg (ne_of_beq_false h2)] at hk
          exact ⟨_, next_singles_in, by rw [sing_len]; omega, i64_of (by omega) (by omega), hk⟩
  · rintro o rfl k
    refine ⟨fun h => absurd (dt h) (by omega), fun _ => ?_⟩
    show clsB d B = _
    rw [List.take_length]
theorem ref15_Classes_l {d : List SNode} {B : List SBranch} (hB : HOk d B) : ∃ k, ref15_Classes.l1 d B (ref15_Classes.j1 (clsB d B)) k [] 0 := by
  have hfew := hB.few
  refine upto (P := fun k (o : List Cl) v => ref15_Classes.l1 d B (ref15_Classes.j1 (clsB d B)) k o v) B.length (fun i o => o = clsB d (B.take i)) ?_ ?_ [] (by simp [clsB])
  · rintro i o hi rfl
    have hat : at? B (i : Int) = some B[i] := by rw [at_nat]; simp [hi]
    obtain ⟨b1, b2, b3⟩ := hB.ok _ (List.getElem_mem hi)
    have hlen := clsB_len d (B.take i)
    rw [List.length_take] at hlen
    have e : clsB d (B.take (i + 1)) = clsB d (B.take i) ++ clsF d B[i].1 := by rw [List.take_succ_eq_append_getElem hi, clsB_snoc]
    refine .inr ⟨_, rfl, fun k hk => ⟨fun _ => ⟨_, hat, fun h0 => ?_, fun h0 => ?_⟩, fun h => absurd (by omega) (df h)⟩⟩
    · have h1 : B[i].1 = [] := by simpa using h0
      rw [e, h1] at hk
      simp only [clsF, List.append_nil] at hk
      exact ⟨i64_of (by omega) (by omega), hk⟩
    · rw [e] at hk
      refine ⟨_, hat, ?_⟩
      generalize B[i].1 = t at *
      cases t with
      | nil => simp at h0
      | cons x rest =>
        obtain ⟨n, hn, hm, hkk⟩ := rdy_kind b3 b2
        simp only [clsF, hn] at hk
        refine ⟨x, rfl, n, hn, fun h3 => ?_, fun h3 => ⟨fun h2 => ?_, fun h2 => ?_⟩⟩
        · have h3' := eq_of_beq h3
          rw [if_pos h3'] at hk
          obtain ⟨_, _, h6, h7⟩ : n.1 = 3 ∧ x.2.2.2 = 0 ∧ 0 ≤ x.2.2.1 ∧ x.2.2.1 < (n.2.2.2.2.2.2.length : Int) := by
            rcases hkk with ⟨h, _⟩ | ⟨_, h⟩ | ⟨h, _⟩
            · omega
            · exact h
            · omega
          obtain ⟨b, hb2, hb3⟩ := byte_at h6 h7
          rw [hb2] at hk
          exact ⟨b, hb2, b, hb2, _, ref01_Row_in hb3 hb3, by simp; omega, i64_of (by omega) (by omega), hk⟩
        · have h3' := ne_of_beq_false h3
          simp only [Bool.and_eq_true, beq_iff_eq] at h2
          rw [if_neg h3', if_pos h2.2] at hk
          exact ⟨by simp; omega, i64_of (by omega) (by omega), hk⟩
        · have h3' := ne_of_beq_false h3
          have h2' : ¬ n.1 = 2 := by
            intro e2
            rcases hkk with ⟨h, _⟩ | ⟨h, _⟩ | ⟨h, h', _⟩
            · simp [h, e2] at h2
            · exact h3' h
            · omega
          rw [if_neg h3', if_neg h2'] at hk
          refine upto (P := fun k' (o : List Cl) v => ref15_Classes.l2 (ref15_Classes.j2 (ref15_Classes.l1 d B (ref15_Classes.j1 (clsB d B)) k) (i : Int)) k' o v) 256 (fun j o => o = clsB d (B.take i) ++ sing.take j) ?_ ?_ (clsB d (B.take i)) (by simp)
          · rintro j o hj rfl
            have e : sing.take (j + 1) = sing.take j ++ [Cl.row ((j : Int) % 256) ((j : Int) % 256)] := by
              rw [List.take_succ_eq_append_getElem (by rw [sing_len]; exact hj)]; simp [sing]
            have hu8 : InR .u8 ((j : Int) % 256) := inR_u8.2 ⟨by omega, by omega⟩
            refine .inr ⟨_, rfl, fun k' hk' => ⟨fun _ => ⟨_, ref01_Row_in hu8 hu8, by rw [List.length_append, List.length_take]; simp; omega, i64_of (by omega) (by omega), ?_⟩, fun h => absurd (by omega) (df h)⟩⟩
            rw [e, ← List.append_assoc] at hk'; exact hk'
          · rintro o rfl k'
            refine ⟨fun h => absurd (dt h) (by omega), fun _ => ⟨i64_of (by omega) (by omega), ?_⟩⟩
            rw [List.take_of_length_le (l := sing) (by rw [sing_len]; exact Nat.le_refl _)]
            exact hk
  · rintro o rfl k
    refine ⟨fun h => absurd (dt h) (by omega), fun _ => ?_⟩
    show clsB d B = _
    rw [List.take_length]
theorem classes_both {d : List SNode} {s : List SItem} (h : Sm d s) : ∃ B, Can (fun t => (hds d s).count t) B ∧ next_Classes d s (clsB d B) ∧ ref15_Classes d s (clsB d B) := by
  obtain ⟨B, b1, b2, b3⟩ := heads_both h
  have hB := h.hok b3
  exact ⟨B, b3, ⟨B, b1, next_Classes_l hB⟩, ⟨B, b2, ref15_Classes_l hB⟩⟩
theorem can_of {L : List (List SItem)} {B : List SBranch} (hs : B.Pairwise (fun a b => cmpS a.1 b.1 < 0)) (h1 : ∀ b ∈ B, b.1 ∈ L ∧ b.2 = sat (L.count b.1)) (h2 : ∀ t ∈ L, t ∈ B.map (·.1)) : Can (fun t => L.count t) B := by
  refine ⟨hs, fun t m => ⟨fun h => ?_, fun ⟨h3, h4⟩ => ?_⟩⟩
  · obtain ⟨h3, h4⟩ := h1 _ h
    exact ⟨by have := List.count_pos_iff.2 h3; simp only at this ⊢; omega, h4⟩
  · obtain ⟨b, hb, e⟩ := List.mem_map.1 (h2 t (List.count_pos_iff.1 (by omega)))
    obtain ⟨_, h6⟩ := h1 _ hb
    have : b = (t, m) := Prod.ext e (by rw [h6, h4, e])
    rw [← this]; exact hb
theorem can_fB {d : List SNode} {c : Int} {B R : List SBranch} (hs : R.Pairwise (fun a b => cmpS a.1 b.1 < 0)) (h1 : ∀ b ∈ R, fB d c B b.1 ≠ 0 ∧ b.2 = sat (fB d c B b.1)) (h2 : ∀ b ∈ B, (readF d b.1 c).2 = true → (readF d b.1 c).1 ∈ R.map (·.1)) : Can (fB d c B) R := by
  refine ⟨hs, fun t m => ⟨fun h => h1 _ h, fun ⟨h3, h4⟩ => ?_⟩⟩
  obtain ⟨b, hb, hr, e⟩ := fB_pos h3
  obtain ⟨r, hr1, hr2⟩ := List.mem_map.1 (h2 b hb hr)
  obtain ⟨_, h6⟩ := h1 _ hr1
  have : r = (t, m) := Prod.ext (hr2.trans e) (by rw [h6, h4, hr2.trans e])
  rw [← this]; exact hr1
theorem on_conc {d : List SNode} {s : List SItem} (h : Sm d s) {c : Int} (hc : InR .u8 c) {B R : List SBranch} (hB : Can (fun t => (hds d s).count t) B) (hR : Can (fB d c B) R) : next_On d s c R := by
  obtain ⟨B', R', _, b3, o1, _, o3⟩ := on_both h hc
  have e := b3.uniq hB
  subst e
  have e := o3.uniq hR
  subst e
  exact o1
theorem cls_conc {d : List SNode} {s : List SItem} (h : Sm d s) {B : List SBranch} (hB : Can (fun t => (hds d s).count t) B) : next_Classes d s (clsB d B) := by
  obtain ⟨B', b3, o1, _⟩ := classes_both h
  have e := b3.uniq hB
  subst e
  exact o1
def d5 : List SNode := [(2, 0, 0, 0, 0, Cl.row 5 6, ([] : Str))]
theorem d5_rt : Rt d5 := leaf_rt (.inr rfl) ⟨rfl, rfl⟩
theorem small_txt {d : List SNode} (h : ∀ n ∈ d, n.2.2.2.2.2.2 = []) : ∀ n ∈ d, n.2.2.2.2.2.2.length ≤ 140737488351232 := fun n hn => by rw [h n hn]; simp
theorem d5_sm {s : List SItem} (hf : formS d5 s = true) (hs : s.length ≤ 40) : Sm d5 s := ⟨d5_rt, by decide, small_txt (by intro n hn; rw [d5, List.mem_singleton] at hn; subst hn; rfl), hf, hs⟩
def d55 : List SNode := pairD 5 d5 d5
theorem d55_sm : Sm d55 [(1, 2, 0, 0)] := ⟨pair_rt d5_rt d5_rt (.inr rfl), by decide +kernel, small_txt (by decide +kernel), by decide +kernel, by decide⟩
def d8 : List SNode := wrapD 8 d5
theorem d8_sm : Sm d8 [(1, 1, 0, 0)] := ⟨wrap_rt d5_rt (.inr (.inl rfl)) (fun h => by omega), by decide +kernel, small_txt (by decide +kernel), by decide +kernel, by decide⟩
theorem awake15 : law15_awake true := by
  have hst : ∀ d : List SNode, d.length ≤ 100 → law15_start d [(1, (d.length : Int) - 1, 0, 0)] := fun d hd => ⟨i64_of (by omega) (by omega), rfl⟩
  have u8 : ∀ c : Int, 0 ≤ c ∧ c ≤ 255 → InR .u8 c := fun c h => inR_u8.2 h
  have o1 : next_On d55 [(1, 2, 0, 0)] 5 [([], 2)] := on_conc d55_sm (u8 5 (by decide)) (B := [([(1, 0, 0, 0)], 1), ([(1, 1, 0, 0)], 1)]) (can_of (by decide +kernel) (by decide +kernel) (by decide +kernel)) (can_fB (by decide +kernel) (by decide +kernel) (by decide +kernel))
  have o2 : next_On d8 [(1, 1, 0, 0)] 7 [([(1, 0, 0, 0), (5, 0, 7, 0)], 1)] := on_conc d8_sm (u8 7 (by decide)) (B := [([(1, 1, 0, 0)], 1)]) (can_of (by decide +kernel) (by decide +kernel) (by decide +kernel)) (can_fB (by decide +kernel) (by decide +kernel) (by decide +kernel))
  have rd : ∀ (s : List SItem) (c : Int) (r : List SItem × Bool), s.length ≤ 1000 → formS d5 s = true → rdy d5 s = true → 0 ≤ c ∧ c ≤ 255 → readF d5 s c = r → next_Read d5 s c r := fun s c r h1 h2 h3 h4 h5 => by
    rw [← h5]
    exact next_Read_in d5_rt.toROk (by decide) (d5_sm (s := []) rfl (by decide)).txt h1 h2 h3 (u8 c h4)
  have e1 := (ends_both (d5_sm (s := []) rfl (by decide))).1
  have e2 := (ends_both (d5_sm (s := [(1, 0, 0, 0)]) (by decide +kernel) (by decide))).1
  have k1 := cls_conc (d5_sm (s := [(1, 0, 0, 0)]) (by decide +kernel) (by decide)) (B := [([(1, 0, 0, 0)], 1)]) (can_of (by decide +kernel) (by decide +kernel) (by decide +kernel))
  have k2 := cls_conc d8_sm (B := [([(1, 1, 0, 0)], 1)]) (can_of (by decide +kernel) (by decide +kernel) (by decide +kernel))
  have z1 : sat ((hds d5 []).count []) = 1 := by decide +kernel
  have z2 : sat ((hds d5 [(1, 0, 0, 0)]).count []) = 0 := by decide +kernel
  rw [z1] at e1
  rw [z2] at e2
  have l1 : (clsB d5 [([(1, 0, 0, 0)], 1)]).length = 1 := by decide +kernel
  have l2 : (clsB d8 [([(1, 1, 0, 0)], 1)]).length = 256 := by decide +kernel
  refine ⟨Cl.row 5 6, ref01_Row_in (u8 5 (by decide)) (u8 6 (by decide)), d55, Pair_in d5_rt.tr d5_rt.tr (by decide) (by decide), d8, Wrap_in d5_rt.tr (by decide), _, hst d55 (by decide +kernel), _, o1, _, hst d8 (by decide +kernel), _, o2, _, hst d5 (by decide), _, rd _ 6 ([], true) (by decide) (by decide +kernel) (by decide +kernel) (by decide) (by decide +kernel), _, hst d5 (by decide), _, rd _ 7 ([], false) (by decide) (by decide +kernel) (by decide +kernel) (by decide) (by decide +kernel), _, rd [(1, 0, 0, 0), (5, 0, 0, 0)] 5 ([], false) (by decide) (by decide +kernel) (by decide +kernel) (by decide) (by decide +kernel), _, rfl, ([(1, 0, 0, 0), (5, 0, 7, 0)], 1), fun _ => rfl, (fun h => by simp at h), fun _ => ⟨([], 2), rfl, ([], 2), fun _ => rfl, ([(1, 0, 0, 0), (5, 0, 7, 0)], 1), fun _ => rfl, _, rfl, ([(1, 0, 0, 0), (5, 0, 7, 0)], 1), fun _ => rfl, (5, 0, 7, 0), fun _ => rfl, ([(1, 0, 0, 0), (5, 0, 7, 0)], 1), fun _ => rfl, (1, 0, 0, 0), fun _ => rfl, _, rfl, _, rfl, 1, fun _ => e1, _, fun _ => hst d5 (by decide), 0, fun _ => e2, _, fun _ => hst d5 (by decide), _, fun _ => k1, _, rfl, _, fun _ => hst d8 (by decide +kernel), _, fun _ => k2, ?_⟩⟩
  rw [l1, l2]
  decide
end Go.Proofs.YtdidjelkkanenaaDoor.V
namespace Go.Proofs.YtdidjelkkanenaaDoor.V
open Go
set_option linter.unusedVariables false
abbrev Txt (d : List SNode) : Prop := ∀ n ∈ d, n.2.2.2.2.2.2.length ≤ 140737488351232
theorem guard15 {d : List SNode} (ht : Txt d) : ∃ r6 r8 : Bool, ref04_Few d r6 ∧ (r6 = true → d.length ≤ 100) ∧ (r6 = true → ref08_Right d r8) ∧ (r6 = true → r8 = true → Rt d) := by
  obtain ⟨r6, h6, h6b⟩ := few_ex ht
  cases r6
  · exact ⟨false, false, h6, (fun h => by cases h), (fun h => by cases h), (fun h => by cases h)⟩
  · obtain ⟨r8, h8, h8b⟩ := right_ok (d := d) (by have := h6b rfl; omega) ht
    exact ⟨true, r8, h6, h6b, fun _ => h8, fun _ => h8b⟩
theorem fits15 {d : List SNode} {s : List SItem} : ref15_Fits d s ((decide ((d.length : Int) ≤ 24) && decide ((s.length : Int) ≤ 8)) && formS d s) := by
  refine ⟨_, ⟨_, rfl, formS d s, fun h => ?_, rfl⟩, rfl⟩
  simp only [Bool.and_eq_true, decide_eq_true_eq] at h
  exact ref13_Form_in (by omega)
theorem sm_of {d : List SNode} {s : List SItem} (ht : Txt d) (hr : Rt d) (hf : ((decide ((d.length : Int) ≤ 24) && decide ((s.length : Int) ≤ 8)) && formS d s) = true) : Sm d s ∧ s.length ≤ 8 := by
  simp only [Bool.and_eq_true, decide_eq_true_eq] at hf
  exact ⟨⟨hr, by omega, ht, hf.2, by omega⟩, by omega⟩
end Go.Proofs.YtdidjelkkanenaaDoor.V
namespace Go.Proofs.YtdidjelkkanenaaDoor.V
open Go
set_option linter.unusedVariables false
theorem byte_u8 {s : Str} {i : Int} {c : Int} (h : byte? s i = some c) : 0 ≤ c ∧ c ≤ 255 := by
  unfold byte? at h
  obtain ⟨x, _, rfl⟩ := Option.map_eq_some_iff.1 h
  have := x.toNat_lt
  omega
theorem read_same {d : List SNode} {t : List SItem} (hf : formS d t = true) (hr : rdy d t = true) {a b : Int} (ha : InR .u8 a) (hb : InR .u8 b) (h : ∀ x ∈ clsF d t, x.has a.toNat = x.has b.toNat) : readF d t a = readF d t b := by
  have ha' := inR_u8.1 ha
  have hb' := inR_u8.1 hb
  cases t with
  | nil => rfl
  | cons x rest =>
    obtain ⟨n, hn, hm, hk⟩ := rdy_kind hf hr
    simp only [clsF, hn] at h
    unfold readF
    simp only [hn]
    by_cases hl : (lowF rest).2 = false
    · rw [if_pos hl, if_pos hl]
    · rw [if_neg hl, if_neg hl]
      by_cases h3 : x.1 = 3
      · rw [if_pos h3] at h
        rw [if_pos h3, if_pos h3]
        obtain ⟨h6, h7⟩ : 0 ≤ x.2.2.1 ∧ x.2.2.1 < (n.2.2.2.2.2.2.length : Int) := by
          rcases hk with ⟨h, _⟩ | ⟨_, _, _, h⟩ | ⟨h, _⟩
          · omega
          · exact h
          · omega
        obtain ⟨c, hc, _⟩ := byte_at h6 h7
        have hcr := byte_u8 hc
        have hh := h _ (List.mem_singleton.2 rfl)
        rw [hc] at hh ⊢
        simp only [Option.getD_some] at hh
        rw [has_row (by omega), has_row (by omega)] at hh
        have e : (some c = some a) ↔ (some c = some b) := by
          simp only [Option.some.injEq]
          have e1 : (decide (c ≤ ((a.toNat : Nat) : Int)) && decide (((a.toNat : Nat) : Int) ≤ c)) = true ↔ c = a := by simp only [Bool.and_eq_true, decide_eq_true_eq]; omega
          have e2 : (decide (c ≤ ((b.toNat : Nat) : Int)) && decide (((b.toNat : Nat) : Int) ≤ c)) = true ↔ c = b := by simp only [Bool.and_eq_true, decide_eq_true_eq]; omega
          rw [← e1, ← e2, hh]
        by_cases hca : (some c = some a)
        · rw [if_pos hca, if_pos (e.1 hca)]
        · rw [if_neg hca, if_neg fun hcb => hca (e.2 hcb)]
      · rw [if_neg h3] at h
        by_cases h2 : n.1 = 2
        · rw [if_pos h2] at h
          have h1 : x.1 = 1 := by
            rcases hk with ⟨h, _⟩ | ⟨h, _⟩ | ⟨_, h, _⟩
            · exact h
            · exact absurd h h3
            · omega
          have hh := h _ (List.mem_singleton.2 rfl)
          rw [if_neg h3, if_neg (show ¬ x.1 = 4 by omega), if_neg (show ¬ n.1 = 8 by omega), if_neg (show ¬ n.1 = 9 by omega), if_neg h3, if_neg (show ¬ x.1 = 4 by omega), if_neg (show ¬ n.1 = 8 by omega), if_neg (show ¬ n.1 = 9 by omega), hh]
        · rw [if_neg h2] at h
          have hm : Cl.row a a ∈ sing := by
            refine List.mem_map.2 ⟨a.toNat, by simp; omega, ?_⟩
            have e : ((a.toNat : Nat) : Int) % 256 = a := by omega
            rw [e]
          have hh := h _ hm
          rw [has_row (by omega), has_row (by omega)] at hh
          have e1 : (decide (a ≤ ((a.toNat : Nat) : Int)) && decide (((a.toNat : Nat) : Int) ≤ a)) = true := by simp only [Bool.and_eq_true, decide_eq_true_eq]; omega
          rw [e1] at hh
          have hh := hh.symm
          simp only [Bool.and_eq_true, decide_eq_true_eq] at hh
          have : a = b := by omega
          rw [this]
theorem law15_NextClasses_true {d : List SNode} {s : List SItem} {a b : Int} (ht : Txt d) (ha : InR .u8 a) (hb : InR .u8 b) : law15_NextClasses d s a b true := by
  obtain ⟨r6, r8, h6, h6b, h8, h8b⟩ := guard15 ht
  refine ⟨true, awake15, r6, fun _ => h6, r8, fun h => h8 (by simpa using h), _, fun _ => fits15, fun _ => ⟨true, awake15, rfl⟩, fun hb' => ?_⟩
  simp only [Bool.not_true, Bool.false_or, Bool.or_eq_false_iff, Bool.not_eq_false'] at hb'
  obtain ⟨⟨g1, g2⟩, g3⟩ := hb'
  have hR := h8b g1 g2
  obtain ⟨hs, hsl⟩ := sm_of ht hR g3
  obtain ⟨B, b3, c1, c2⟩ := classes_both hs
  have hB := hs.hok b3
  have hcl := clsB_len d B
  have hfew := hB.few
  refine ⟨clsB d B, c1, ?_⟩
  refine upto (P := fun k (_ : Unit) v => law15_NextClasses.l1 a b (clsB d B) true _ k v) (clsB d B).length (fun i _ => ∀ x ∈ (clsB d B).take i, x.has a.toNat = x.has b.toNat) ?_ ?_ () (by simp)
  · intro i _ hi hI
    have hat : at? (clsB d B) (i : Int) = some (clsB d B)[i] := by rw [at_nat]; simp [hi]
    by_cases he : (clsB d B)[i].has a.toNat = (clsB d B)[i].has b.toNat
    · refine .inr ⟨(), fun x hx => ?_, fun k hk => ⟨fun _ => ⟨_, hat, _, ref01_Has_u8 ha, _, hat, _, ref01_Has_u8 hb, fun _ => rfl, fun _ => ⟨i64_of (by omega) (by omega), hk⟩⟩, fun h => absurd (by omega) (df h)⟩⟩
      rw [List.take_succ_eq_append_getElem hi] at hx
      rcases List.mem_append.1 hx with hx | hx
      · exact hI x hx
      · rw [List.mem_singleton.1 hx]; exact he
    · exact .inl fun k => ⟨fun _ => ⟨_, hat, _, ref01_Has_u8 ha, _, hat, _, ref01_Has_u8 hb, fun _ => rfl, fun h => by simp at h; exact absurd h he⟩, fun h => absurd (by omega) (df h)⟩
  · intro _ hI k
    refine ⟨fun h => absurd (dt h) (by omega), fun _ => ?_⟩
    rw [List.take_length] at hI
    obtain ⟨B1, R1, _, k1, o1, _, q1⟩ := on_both hs ha
    obtain ⟨B2, R2, _, k2, o2, _, q2⟩ := on_both hs hb
    have e1 := k1.uniq b3
    have e2 := k2.uniq b3
    subst e1
    subst e2
    have ef : fB d a B2 = fB d b B2 := by
      funext u
      unfold fB
      congr 1
      refine List.map_congr_left fun x hx => ?_
      obtain ⟨_, x2, x3⟩ := hB.ok x hx
      rw [read_same x3 x2 ha hb fun y hy => hI y (List.mem_flatMap.2 ⟨x, hx, hy⟩)]
    rw [ef] at q1
    have e := q1.uniq q2
    subst e
    have hRl : ∀ x ∈ R1, x.1.length ≤ 1000 := fun x hx => by have := fB_read hB (q2.many hx).2.1; omega
    have hRn := onB_len q2
    exact ⟨R1, o1, R1, o2, _, ref14_Same_in hRl hRl (by omega), by simp⟩
end Go.Proofs.YtdidjelkkanenaaDoor.V
namespace Go.Proofs.YtdidjelkkanenaaDoor.V
open Go Go.ChangeShapes Go.WideShapes Go.RowKit
set_option linter.unusedVariables false
structure Rd (P : Program) (t : TypeId) {α : Type} (E : En α) (G : α → Prop) : Prop where
  sz : P.cellsOf t = E.sz
  rd : ∀ {H : Type} (enc : TypeId × Value → H) (w : World) (fuel : Nat) (cs : List Value) (x : DataW H × List MemPlace),
    DataW.trod enc P w 0 (fun _ => true) true fuel t cs = some x → (∀ n ∈ x.1.weights P t, n ≤ reachBytes) → ∃ y, E.R w (fun b => b < w.heap.size) cs y ∧ G y
  vl : ∀ (w : World) (v : Value), Value.okWide P w .any 0 t v → (∃ y, E.R w (fun b => b < w.heap.size) v.cells.toList y) → v = E.val v.cells.toList
theorem Rd.int {P : Program} {t : TypeId} {k : IntKind} (ht : P.underlying t = some (.int k)) (hc : P.cellsOf t = 1) : Rd P t (En.int k) (InR k) := by
  refine ⟨hc, ?_, ?_⟩
  · intro H enc w fuel cs x h _
    obtain ⟨n, rfl, _, hw⟩ := DataW.trod_int ht h
    have : InR k n := by simpa [Lit.wf, InR] using hw
    exact ⟨n, ⟨rfl, this⟩, this⟩
  · intro w v hv _
    obtain ⟨n, rfl⟩ := okWide_int ht hv
    rfl
theorem Rd.str {P : Program} {t : TypeId} (ht : P.underlying t = some .string) (hc : P.cellsOf t = 1) : Rd P t En.str (fun y => y.length ≤ 140737488351232) := by
  refine ⟨hc, ?_, ?_⟩
  · intro H enc w fuel cs x h hwt
    obtain ⟨s, rfl, hx, hs⟩ := DataW.trod_string ht h
    have hl : s.data.toList.length ≤ 9223372036854775807 := by simpa [maxLen] using hs
    have h2 : s.data.toList.length ≤ 140737488351232 := hwt _ (by rw [hx]; simp [DataW.weights])
    exact ⟨s.data.toList, ⟨rfl, hl⟩, h2⟩
  · intro w v hv _
    simp only [Value.okWide, ht, Cell.okWide, Cell.ok] at hv
    cases v <;> simp at hv
    rfl
theorem weights_all {H : Type} {P : Program} {e : TypeId} : ∀ {l : List (DataW H)} {d : DataW H}, d ∈ l → ∀ n ∈ d.weights P e, n ∈ DataW.weightsAll P e l
  | [], _, h, _, _ => by cases h
  | d' :: l, d, h, n, hn => by
    simp only [DataW.weightsAll, List.mem_append]
    rcases List.mem_cons.1 h with rfl | h
    · exact .inl hn
    · exact .inr (weights_all h n hn)
theorem Rd.slice {P : Program} {t e : TypeId} {α : Type} {E : En α} {G : α → Prop} (ht : P.underlying t = some (.slice e)) (hc : P.cellsOf t = 1) (hby : Nat.blt 0 (P.bytesOf e) = true) (he : Rd P e E G) :
    Rd P t (En.slice E) (fun xs => xs.length ≤ 140737488351232 ∧ ∀ y ∈ xs, G y) := by
  refine ⟨hc, ?_, ?_⟩
  · intro H enc w fuel cs x h hwt
    rcases Deep.open_slice ht h with ⟨rfl, _⟩ | ⟨a, len, cap, m, n, D, Pl, rfl, hb, hl, hm, hmm, hxe, hx⟩
    · exact ⟨[], ⟨_, rfl, slV_nil E _ _⟩, Nat.zero_le _, by simp⟩
    · simp only [if_true] at hmm
      subst hmm
      have hall : ∀ i, i < len → ∃ p : α × List Value, w.cells? 0 (a.add (i * P.cellsOf e)) (P.cellsOf e) = some p.2 ∧ E.R w (fun b => b < w.heap.size) p.2 p.1 ∧ G p.1 := fun i hi => by
        obtain ⟨cs', h1, h2⟩ := hx i (by omega)
        obtain ⟨y, h3, h4⟩ := he.rd enc w n cs' _ h2 fun q hq => hwt q (by
          rw [hxe]
          simp only [DataW.weights, ht, List.mem_cons, List.mem_append]
          exact .inr (.inl (weights_all (List.mem_map.2 ⟨i, by simpa using hi, rfl⟩) q hq)))
        exact ⟨(y, cs'), h1, h3, h4⟩
      have hmax2 : len ≤ 140737488351232 := by
        have h1 := hwt ((len + (m - len)) * P.bytesOf e) (by rw [hxe]; simp [DataW.weights, ht])
        have h2 : 0 < P.bytesOf e := Nat.le_of_ble_eq_true hby
        have h3 : (len + (m - len)) * 1 ≤ (len + (m - len)) * P.bytesOf e := Nat.mul_le_mul_left _ h2
        have h4 : reachBytes = 140737488351232 := rfl
        omega
      have hmax : len ≤ lim := by have : maxLen ≤ lim := by decide
                                  omega
      by_cases h0 : len = 0
      · subst h0
        exact ⟨[], ⟨_, rfl, some a, m, rfl, Nat.zero_le _, (fun h => by cases h), Nat.zero_le _, fun h => absurd rfl h⟩, Nat.zero_le _, by simp⟩
      have hinh : Inhabited (α × List Value) := ⟨(hall 0 (by omega)).choose⟩
      obtain ⟨f, hf⟩ := Deep.choose_lt hall
      have hsz := E.pos
      rw [← he.sz] at hsz
      obtain ⟨hcell0, hblk⟩ : a.spot = none ∧ a.block < w.heap.size := by
        obtain ⟨_, hl2, hcl⟩ := World.cells?_some (hf 0 (by omega)).1
        have h2 := hcl 0 hsz
        rw [List.getElem?_eq_getElem (by omega)] at h2
        simp only [Nat.zero_mul, Addr.add, if_true, World.cell?] at h2
        cases hb2 : w.heap[a.block]? with
        | none => simp [hb2] at h2
        | some o =>
          refine ⟨?_, (Array.getElem?_eq_some_iff.1 hb2).1⟩
          cases o <;> simp [hb2] at h2
          exact h2.1
      refine ⟨(List.range len).map (fun i => (f i).1), ⟨_, rfl, some a, m, ?_, by simpa using hl, (fun h => by cases h), by simpa using hmax, fun _ => ⟨a.block, a.off, (List.range len).map (fun i => (f i).2), ?_, hblk, ⟨by simp, ?_⟩, ?_⟩⟩, by simpa using hmax2, ?_⟩
      · simp
      · cases a; simp at hcell0; subst hcell0; rfl
      · intro i c y hc1 hy1
        have hi : i < len := by have := (List.getElem?_eq_some_iff.1 hc1).1; simpa using this
        simp [hi] at hc1 hy1
        subst hc1; subst hy1
        exact (hf i hi).2.1
      · have hlens : ∀ c ∈ (List.range len).map (fun i => (f i).2), c.length = E.sz := by
          intro c hc
          simp only [List.mem_map, List.mem_range] at hc
          obtain ⟨i, hi, rfl⟩ := hc
          rw [(World.cells?_some (hf i hi).1).2.1, he.sz]
        intro j u hj
        have hjl : j < len * E.sz := by
          have := (List.getElem?_eq_some_iff.1 hj).1
          rw [flat_len hlens] at this; simpa using this
        have hp : 0 < E.sz := E.pos
        have hi : j / E.sz < len := Nat.div_lt_of_lt_mul (by rw [Nat.mul_comm]; exact hjl)
        have hk : j % E.sz < E.sz := Nat.mod_lt _ hp
        obtain ⟨_, hl2, hcl⟩ := World.cells?_some (hf _ hi).1
        have hcell := hcl (j % E.sz) (by rw [he.sz]; exact hk)
        rw [he.sz] at hl2
        have hg := flat_get hlens (i := j / E.sz) (cs := (f (j / E.sz)).2) (j := j % E.sz) (u := (f (j / E.sz)).2[j % E.sz]'(by omega)) (by simp [hi]) (by simp)
        rw [Nat.mul_comm, Nat.div_add_mod] at hg
        rw [hg] at hj
        rw [List.getElem?_eq_getElem (by omega), hj, Deep.add_add, he.sz, Nat.mul_comm, Nat.div_add_mod] at hcell
        rw [← hcell]
        cases a; simp at hcell0; subst hcell0; rw [add_lit]
      · intro y hy
        simp only [List.mem_map, List.mem_range] at hy
        obtain ⟨i, hi, rfl⟩ := hy
        exact (hf i hi).2.2
  · intro w v hv _
    simp only [Value.okWide, ht, Cell.okWide, Cell.ok] at hv
    cases v <;> simp at hv
    rfl
theorem u64_word {n : Int} (h : InR .u64 n) : ∃ m : Nat, m < 2 ^ 64 ∧ n = m := by
  simp [InR, IntKind.min, IntKind.max, IntKind.signed, IntKind.bits] at h
  exact ⟨n.toNat, by omega, by omega⟩
theorem Rd.cls {P : Program} {t e : TypeId} (ht : P.underlying t = some (.array 4 e)) (hc : P.cellsOf t = 4) (he : P.underlying e = some (.int .u64)) (hce : P.cellsOf e = 1) : Rd P t En.cls (fun _ => True) := by
  refine ⟨hc, ?_, ?_⟩
  · intro H enc w fuel cs x h _
    obtain ⟨xs, m, rfl, rfl, hlen, hn, hx⟩ := DataW.trod_array ht h
    rw [hc] at hlen
    match cs, hlen with
    | [u0, u1, u2, u3], _ =>
      have hx' : ∀ i (hi : i < 4) u, [u0, u1, u2, u3][i]? = some u → ∃ q : Nat, q < 2 ^ 64 ∧ u = .int .u64 q := by
        intro i hi u hu
        have h1 := hx i hi
        rw [hce, Nat.mul_one, List.getElem?_eq_getElem (by omega)] at h1
        have h2 : List.take 1 (List.drop i [u0, u1, u2, u3]) = [u] := by
          match i, hi with
          | 0, _ | 1, _ | 2, _ | 3, _ => simp at hu; subst hu; rfl
        rw [h2] at h1
        obtain ⟨n, h3, _, h4⟩ := DataW.trod_int he h1
        obtain ⟨q, hq, rfl⟩ := u64_word (n := n) (by simpa [Lit.wf, InR] using h4)
        simp at h3
        exact ⟨q, hq, h3⟩
      obtain ⟨q0, h0, rfl⟩ := hx' 0 (by omega) u0 rfl
      obtain ⟨q1, h1, rfl⟩ := hx' 1 (by omega) u1 rfl
      obtain ⟨q2, h2, rfl⟩ := hx' 2 (by omega) u2 rfl
      obtain ⟨q3, h3, rfl⟩ := hx' 3 (by omega) u3 rfl
      refine ⟨Cl.ofWords q0 q1 q2 q3, ?_, trivial⟩
      obtain ⟨e0, e1, e2, e3⟩ := Cl.ofWords_word h0 h1 h2 h3
      show _ = clsCells _
      unfold clsCells
      rw [e0, e1, e2, e3]
  · intro w v hv _
    simp only [Value.okWide, ht] at hv
    obtain ⟨cs, rfl, _⟩ := hv
    simp [En.val, En.cls, Value.cells]
structure RdF (P : Program) (fs : List Field) (o : Nat) {α : Type} (E : En α) (G : α → Prop) : Prop where
  rd : ∀ {H : Type} (enc : TypeId × Value → H) (w : World) (fuel : Nat) (cs : List Value) (xs : List (DataW H × List MemPlace)), xs.length = fs.length →
    (∀ (i : Nat) (f : Field), fs[i]? = some f → DataW.trod enc P w 0 (fun _ => true) true fuel f.type ((cs.drop f.offset).take (P.cellsOf f.type)) = xs[i]?) →
    (∀ n ∈ DataW.weightsEach P (fs.map (·.type)) (xs.map (·.1)), n ≤ reachBytes) → ∃ y, E.R w (fun b => b < w.heap.size) ((cs.drop o).take E.sz) y ∧ G y
theorem RdF.last {P : Program} {f : Field} {o : Nat} {α : Type} {E : En α} {G : α → Prop} (h : Rd P f.type E G) (ho : f.offset = o) : RdF P [f] o E G := ⟨by
  intro H enc w fuel cs xs hl hx hw
  obtain ⟨x, rfl⟩ : ∃ x, xs = [x] := List.length_eq_one_iff.1 hl
  have h1 := hx 0 f rfl
  rw [ho, h.sz] at h1
  exact h.rd enc w fuel _ x h1 fun n hn => hw n (by simp [DataW.weightsEach, hn])⟩
theorem RdF.solo {P : Program} {fs : List Field} {o : Nat} {α : Type} {E : En α} {G : α → Prop} (h : RdF P fs o E G) : RdF P fs o E.solo G := ⟨h.rd⟩
theorem take_add_split {xs : List Value} {o m n : Nat} : (xs.drop o).take (m + n) = (xs.drop o).take m ++ (xs.drop (o + m)).take n := by
  rw [List.take_add, List.drop_drop]
theorem RdF.cons {P : Program} {f : Field} {fs : List Field} {o : Nat} {α β : Type} {E : En α} {F : En β} {G : α → Prop} {K : β → Prop} (h : Rd P f.type E G) (ho : f.offset = o) (hr : RdF P fs (o + E.sz) F K) : RdF P (f :: fs) o (E.cat F) (fun x => G x.1 ∧ K x.2) := ⟨by
  intro H enc w fuel cs xs hl hx hw
  obtain ⟨x, xs', rfl⟩ : ∃ x xs', xs = x :: xs' := by
    cases xs with
    | nil => simp at hl
    | cons x xs' => exact ⟨x, xs', rfl⟩
  have h1 := hx 0 f rfl
  rw [ho, h.sz] at h1
  obtain ⟨y, hy1, hy2⟩ := h.rd enc w fuel _ x h1 fun n hn => hw n (by simp [DataW.weightsEach, hn])
  obtain ⟨z, hz1, hz2⟩ := hr.rd enc w fuel cs xs' (by simpa using hl) (fun i g hg => by have := hx (i + 1) g (by simpa using hg); simpa using this) fun n hn => hw n (by
    simp only [List.map_cons, DataW.weightsEach, List.mem_append]; exact .inr hn)
  exact ⟨(y, z), ⟨_, _, take_add_split, hy1, hz1⟩, hy2, hz2⟩⟩
theorem Rd.struct {P : Program} {t : TypeId} {fs : Array Field} {α : Type} {E : En α} {G : α → Prop} (ht : P.underlying t = some (.struct fs)) (ha : E.agg = true) (hc : P.cellsOf t = E.sz) (h : RdF P fs.toList 0 E G) : Rd P t E G := by
  refine ⟨hc, ?_, ?_⟩
  · intro H enc w fuel cs x hx hw
    obtain ⟨xs, n, rfl, rfl, hlen, hxl, hf⟩ := DataW.trod_struct ht hx
    obtain ⟨y, hy1, hy2⟩ := h.rd enc w n cs xs (by simpa using hxl) (fun i f hi => hf i f (by simpa using hi)) fun q hq => hw q (by
      simp only [DataW.weights, ht]; exact hq)
    rw [List.drop_zero, List.take_of_length_le (by rw [hlen, hc]; exact Nat.le_refl _)] at hy1
    exact ⟨y, hy1, hy2⟩
  · intro w v hv _
    obtain ⟨cs, rfl, _⟩ := okWide_struct ht hv
    unfold En.val
    rw [ha]
    simp [Value.cells]
theorem Rd.open {P : Program} {t : TypeId} {α : Type} {E : En α} {G : α → Prop} (hr : Rd P t E G) {H : Type} {enc : TypeId × Value → H} {W : World} {v : Value} {d : DataW H} {p : List MemPlace}
    (hv : Value.okWide P W .any 0 t v) (hd : DataW.Trod enc P W 0 (fun _ => true) true t v d p) (hw : ∀ n ∈ d.weights P t, n ≤ reachBytes) : ∃ y, (Pd.rep E y).p ⟨W, fun _ => False, fun _ h => h.elim⟩ v ∧ G y := by
  obtain ⟨fuel, h⟩ := hd
  obtain ⟨y, hy, hg⟩ := hr.rd enc W fuel _ _ h hw
  refine ⟨y, ⟨v.cells.toList, hr.vl W v hv ⟨y, hy⟩, ?_⟩, hg⟩
  exact E.mono (fun b hb => ⟨hb, fun h => h⟩) hy
theorem Ex.below {s s' : St} (h : Ex s s') : Below s.w.heap.size s.w s'.w := ⟨h.mv.os, h.mv.tape, h.mv.output, h.mv.size, fun k hk => h.mv.blk k hk (fun h => h)⟩
theorem okWide_any {P : Program} {W : World} {b : Nat} {t : TypeId} {v : Value} (h : Value.okWide P W .any b t v) : Value.okWide P W .any 0 t v := by
  unfold Value.okWide Row.okWide Cell.okWide Cell.ok World.has at *
  exact h
section
variable {H : Type} {enc : TypeId × Value → H} {P : Program}
theorem stays {W W' : World} (hl : laidOutB P = true) (hb : Below W.heap.size W W') {sp : Nat → Bool} : ∀ {ts : List TypeId} {vs : List Value} {ds : List (DataW H)} {ps : List MemPlace},
    (ts.all fun t => P.readableRec t && decide (t < P.types.size)) = true → DataW.TrodAll enc P W 0 (fun _ => true) true ts vs ds ps → (∀ p ∈ ps, p.block < W.heap.size) → (∀ p ∈ ps, sp p.block = true) →
    DataW.TrodAll enc P W' 0 sp true ts vs ds ps
  | [], vs, ds, ps, _, h, _, _ => by
    obtain ⟨rfl, rfl, rfl⟩ := trodAll_nil h
    exact trodAll_mk0
  | t :: ts, vs, ds, ps, ha, h, hlt, hsp => by
    obtain ⟨v, vs', d, ds', p, q, rfl, rfl, rfl, h1, h2⟩ := trodAll_cons h
    simp only [List.all_cons, Bool.and_eq_true, decide_eq_true_eq] at ha
    refine trodAll_cons_mk (WideElems.Trod_stays hl ha.1.1 ha.1.2 h1 (fun x hx => hb.same (hlt x (List.mem_append_left _ hx))) fun x hx => hsp x (List.mem_append_left _ hx)) ?_
    exact stays hl hb (by simpa using ha.2) h2 (fun x hx => hlt x (List.mem_append_right _ hx)) fun x hx => hsp x (List.mem_append_right _ hx)
theorem post_law {f : Func} {s : ChangeSpec} {apart fresh handsOn again : Bool} {W W' : World} {args : Array Value} {v : Value} {ds gs : List (DataW H)} {before : List MemPlace} {tb : TypeId}
    (hW : DataW.Whole enc P f.params.toList s.vars apart W args.toList ds gs before) (hb : Below W.heap.size W W') (hl : laidOutB P = true)
    (hrd : (f.params.toList.all fun t => P.readableRec t && decide (t < P.types.size)) = true) (hs : s.vars = []) (hrt : f.resultTypes = #[tb]) (hub : P.underlying tb = some .bool) (hv : v = .bool true)
    (hres : (s.fn H (ds ++ gs)).results = [.lit (.bool true)]) (hargs : (s.fn H (ds ++ gs)).args = ds) (hvars : (s.fn H (ds ++ gs)).vars = []) : s.post enc P f apart fresh handsOn again W args v W' := by
  subst hv
  have hlt := hW.lt
  have hW' := hW
  obtain ⟨p, q, hA, hV, rfl, hz, hn⟩ := hW
  rw [hs] at hV
  obtain ⟨rfl, rfl⟩ := trodVars_none hV
  have hsub : ∀ x ∈ p, x ∈ p ++ ([] : List MemPlace) := fun x hx => by simpa using hx
  have harg : ∀ sp : Nat → Bool, (∀ x ∈ p ++ ([] : List MemPlace), sp x.block = true) → DataW.TrodAll enc P W' 0 sp true f.params.toList args.toList (s.fn H (ds ++ [])).args p := fun sp hsp => by
    rw [hargs]
    exact stays hl hb hrd hA (fun x hx => hlt x (hsub x hx)) fun x hx => hsp x (hsub x hx)
  have hvar : ∀ sp : Nat → Bool, DataW.TrodVars enc P W' sp s.vars (s.fn H (ds ++ [])).vars [] := fun sp => by rw [hs, hvars]; exact rfl
  have hr : ∀ (b : Nat) (sp : Nat → Bool) (hd : Bool), DataW.TrodAll enc P W' b sp hd f.resultTypes.toList ((Value.bool true).resultList f.resultTypes.size) (s.fn H (ds ++ [])).results [] := fun b sp hd => by
    rw [hres, hrt]
    exact trodAll_cons_mk (shut_bool hub _) trodAll_mk0
  have hold : ∀ x ∈ p ++ ([] : List MemPlace), (fun b => decide (b < W.heap.size)) x.block = true := fun x hx => by simpa using hlt x hx
  refine ⟨ds, [], p ++ [], [], p, [], hW', hr _ _ _, harg _ hold, hvar _, World.keptBut_mono (fun x hx => ⟨hx, ?_⟩) (hb.frame (· ∈ p ++ [])), fun _ => ?_⟩
  · simpa using hx
  · refine ⟨ok_one hrt rfl (okWide_bool_mk hub _), _, _, ([] ++ p) ++ [], ⟨[] ++ p, [], trodAll_append (harg _ (fun _ _ => rfl)) (hr _ _ _), hvar _, rfl, ?_, ?_⟩, ?_⟩
    · intro b off hp
      have hp' : MemPlace.cell b off ∈ p ++ ([] : List MemPlace) := by simpa using hp
      rw [hb.frozen (p := ⟨b, off, none⟩) (hlt _ hp')]
      exact hz b off hp'
    · intro ha
      simpa using hn ha
    · intro x hx _
      simpa using hx
end
end Go.Proofs.YtdidjelkkanenaaDoor.V
namespace Go.Proofs.YtdidjelkkanenaaDoor.V
open Go Go.ChangeShapes Go.WideShapes Go.RowKit
set_option linter.unusedVariables false
def lst4 : List (String × DataW Unit) := [("math/bits.deBruijn32tab", Rows.laid_math_bits_deBruijn32tab), ("math/bits.deBruijn64tab", Rows.laid_math_bits_deBruijn64tab), ("internal/strconv.uint64pow10", Rows.laid_internal_strconv_uint64pow10), ("scantling/heads.readies", Rows.laid_scantling_heads_readies)]
def lst : List (String × DataW Unit) := [("math/bits.deBruijn32tab", Rows.laid_math_bits_deBruijn32tab), ("math/bits.deBruijn64tab", Rows.laid_math_bits_deBruijn64tab), ("internal/strconv.uint64pow10", Rows.laid_internal_strconv_uint64pow10), ("scantling/heads.readies", Rows.laid_scantling_heads_readies), ("scantling/next.steps", Rows.laid_scantling_next_steps)]
theorem cells_of_bools {H : Type} {enc : TypeId × Value → H} {P : Program} {w : World} {base : Nat} {sp : Nat → Bool} {held : Bool} {fuel : Nat} {t e : TypeId} {n : Nat} {cs : List Value} {bs : List Bool} {p : List MemPlace}
    (ht : P.underlying t = some (.array n e)) (he : P.underlying e = some .bool) (hce : P.cellsOf e = 1) (hct : P.cellsOf t = n)
    (h : DataW.trod enc P w base sp held fuel t cs = some (.agg (bs.map fun b => .lit (.bool b)), p)) : cs = bs.map Value.bool := by
  obtain ⟨xs, m, rfl, hx, hl, hn, hf⟩ := DataW.trod_array ht h
  have hx1 := congrArg Prod.fst hx
  simp only [DataW.agg.injEq] at hx1
  have hbl : bs.length = n := by
    have := congrArg List.length hx1
    simp at this; omega
  apply List.ext_getElem?
  intro i
  by_cases hi : i < n
  · have h1 := hf i hi
    rw [hce, Nat.mul_one, List.getElem?_eq_getElem (by omega)] at h1
    obtain ⟨b, hc, hb⟩ := DataW.trod_bool he h1
    have h2 : cs[i]? = some (.bool b) := by
      have := congrArg (·[0]?) hc
      simpa [List.getElem?_take, List.getElem?_drop] using this
    have h3 : (bs.map fun b => (DataW.lit (.bool b) : DataW H))[i]? = some (.lit (.bool b)) := by
      rw [hx1, List.getElem?_map, List.getElem?_eq_getElem (by omega), hb]; rfl
    rw [List.getElem?_map, Option.map_eq_some_iff] at h3
    obtain ⟨b', hb', e⟩ := h3
    cases e
    rw [h2, List.getElem?_map, hb']; rfl
  · rw [List.getElem?_eq_none (by omega), List.getElem?_eq_none (by simp; omega)]
def nameB1 : List UInt8 := [40, 115, 99, 97, 110, 116, 108, 105, 110, 103, 47, 110, 101, 120, 116, 46, 115, 116, 101, 112, 41, 46, 110, 111, 100, 101]
def nameB3 : List UInt8 := [40, 115, 99, 97, 110, 116, 108, 105, 110, 103, 47, 110, 101, 120, 116, 46, 115, 116, 101, 112, 41, 46, 116, 101, 120, 116]
def nameB4 : List UInt8 := [40, 115, 99, 97, 110, 116, 108, 105, 110, 103, 47, 110, 101, 120, 116, 46, 115, 116, 101, 112, 41, 46, 104, 97, 108, 102]
def stepsD : DataW Unit := .map [(.int .i64 1, .iface "func" (.lit (.string nameB1))), (.int .i64 3, .iface "func" (.lit (.string nameB3))), (.int .i64 4, .iface "func" (.lit (.string nameB4)))]
def stepsL : List (Lit × DataW (List UInt8)) := [(.int .i64 1, .held nameB1), (.int .i64 3, .held nameB3), (.int .i64 4, .held nameB4)]
theorem key_int {P : Program} {k : TypeId} (hk : P.underlying k = some (.int .i64)) {v : Value} {l : Lit} (h : keyOf P k v = some l) : ∃ n : Int, v = .int .i64 n ∧ l = .int .i64 n ∧ InR .i64 n := by
  rw [keyOf_int hk] at h
  unfold mapKey at h
  rw [hk] at h
  cases v <;> simp at h
  obtain ⟨⟨rfl, h2⟩, rfl⟩ := h
  exact ⟨_, rfl, rfl, by simpa [Lit.wf, InR] using h2⟩
theorem one_of_formed {P : Program} {t : TypeId} {ps rs : Array TypeId} {va : Bool} {v : Value} (ht : P.underlying t = some (.func ps rs va)) (h : v.formed P t = true) : v.cells.toList = [v] := by
  cases v <;> simp [Value.formed, ht] at h <;> rfl
def entY (e : MapEntry) : Int × Option Nat := match e.key with | .int _ n => (n, mget gfmS n none) | _ => (0, none)
def entL (q : Lit × DataW (List UInt8)) : Int × Option Nat := match q.1 with | .int _ n => (n, mget gfmS n none) | _ => (0, none)
def Steps (W : World) : Prop := ∃ m t fr es clock ys, W.heap[1]? = some (.cells #[.map (some m)] t fr) ∧ W.heap[m]? = some (.map es clock) ∧ Fmst es clock ys ∧ ys.Perm gfmS
theorem steps_of_funcs {W : World} (h : funcsAt Tryd.prog W "scantling/next.steps" stepsD) : Steps W := by
  obtain ⟨g, t, cs, fuel, p, hg, ht, hv, hd⟩ := h
  have hg' : Tryd.prog.globalNamed "scantling/next.steps" = some 1 := by kernel_rfl
  have hty : (Tryd.prog.globals[1]?).map (·.type) = some 94 := by kernel_rfl
  obtain rfl := Option.some.inj (hg'.symm.trans hg)
  obtain rfl := Option.some.inj (hty.symm.trans ht)
  have e : DataW.funcsOut stepsD = .map stepsL := by kernel_rfl
  rw [e] at hd
  have hkt : Tryd.prog.underlying 3 = some (.int .i64) := Tryd.underlying3
  rcases WideElems.open_map Tryd.underlying94 hd with ⟨_, hx⟩ | ⟨m, es, clock, n, rfl, hcs, hb, _, F, hx⟩
  · simp at hx
  · simp only [Prod.mk.injEq, DataW.map.injEq] at hx
    have hp : stepsL.Perm (es.toList.map (WideElems.rg Tryd.prog 3 (WideElems.elemAt (funcToken Tryd.prog) Tryd.prog W 0 (fun _ => true) true n 92))) := by
      rw [hx.1]; exact sorted_perm _
    have ent : ∀ x ∈ es.toList, ∃ i : Int, x.key = .int .i64 i ∧ InR .i64 i ∧ entL (WideElems.rg Tryd.prog 3 (WideElems.elemAt (funcToken Tryd.prog) Tryd.prog W 0 (fun _ => true) true n 92) x) = (i, mget gfmS i none) ∧ x.val = fidV (mget gfmS i none) := by
      intro x hx'
      obtain ⟨y, hy⟩ := F.reads x hx'
      have hrg := WideElems.rg_of hy
      have hm : y ∈ stepsL := hp.mem_iff.2 (List.mem_map.2 ⟨x, hx', hrg⟩)
      obtain ⟨i, hk1, hk2, hk3⟩ := key_int hkt (WideElems.rd_key hy)
      obtain ⟨z, hz1, hz2⟩ := WideElems.rd_val hy
      unfold WideElems.elemAt at hz1
      split at hz1
      case isFalse => cases hz1
      rename_i hf
      rw [one_of_formed Tryd.underlying92 hf] at hz1
      refine ⟨i, hk1, hk3, by rw [hrg]; simp only [entL, hk2], ?_⟩
      unfold stepsL at hm
      simp only [List.mem_cons, List.not_mem_nil, or_false] at hm
      rcases hm with rfl | rfl | rfl
      · simp only [Lit.int.injEq, true_and] at hk2
        subst hk2
        obtain ⟨z1, z2⟩ := z
        simp only at hz2
        subst hz2
        exact func_of_trod (f0 := 134) Tryd.underlying92 (by kernel_rfl) hz1
      · simp only [Lit.int.injEq, true_and] at hk2
        subst hk2
        obtain ⟨z1, z2⟩ := z
        simp only at hz2
        subst hz2
        exact func_of_trod (f0 := 135) Tryd.underlying92 (by kernel_rfl) hz1
      · simp only [Lit.int.injEq, true_and] at hk2
        subst hk2
        obtain ⟨z1, z2⟩ := z
        simp only at hz2
        subst hz2
        exact func_of_trod (f0 := 131) Tryd.underlying92 (by kernel_rfl) hz1
    obtain ⟨o, ho, hcell⟩ : ∃ t fr, W.heap[1]? = some (.cells #[.map (some m)] t fr) := by
      unfold World.var? at hv
      rw [hg'] at hv
      simp only [Option.bind_some] at hv
      split at hv
      · rename_i cs' t' fr' hc
        refine ⟨t', fr', ?_⟩
        rw [hc]
        simp only [Option.some.injEq] at hv
        rw [hv, ← Array.toArray_toList (xs := cs), hcs]
      · cases hv
    refine ⟨m, o, ho, es, clock, es.toList.map entY, hcell, hb, ⟨F.stamped, by simp, fun i e q h1 h2 => ?_⟩, ?_⟩
    · have hm := List.mem_of_getElem? h1
      obtain ⟨j, hk1, hk3, _, hval⟩ := ent e hm
      rw [List.getElem?_map, h1] at h2
      simp only [Option.map_some, Option.some.injEq] at h2
      subst h2
      have hr := inR_i64.1 hk3
      simp only [entY, hk1]
      exact ⟨trivial, hr, hval⟩
    · have h3 := (hp.map entL).symm
      have e1 : stepsL.map entL = gfmS := by kernel_rfl
      rw [e1, List.map_map] at h3
      refine List.Perm.trans (List.Perm.of_eq (List.map_congr_left fun x hx' => ?_)) h3
      obtain ⟨j, hk1, _, hL, _⟩ := ent x hx'
      simp only [Function.comp, entY, hk1]
      exact hL.symm
def Tabs (W : World) : Prop := (Lib.TabIs Tryd.prog W "internal/strconv.uint64pow10" .u64 Lib.pow10Tab ∧ W.var? Tryd.prog "scantling/heads.readies" = some (gdat0.map Value.bool).toArray) ∧ Steps W
theorem tab_of_laid {W : World} (h : laidMetH Tryd.prog lst W) : Tabs W := by
  have hs : ("scantling/next.steps", (DataW.iface "func table" stepsD : DataW Unit)) ∈ lst := by
    have e : (Rows.laid_scantling_next_steps : DataW Unit) = DataW.iface "func table" stepsD := by kernel_rfl
    unfold lst
    rw [e]
    simp
  have h3 := steps_of_funcs (h.funcs hs)
  have e0 : laidMetH Tryd.prog lst W = (laidMet Tryd.prog lst4 W ∧ handlesMet Tryd.prog [("scantling/next.steps", Rows.laid_scantling_next_steps)] W) := by kernel_rfl
  rw [e0] at h
  have h' := h.1
  unfold lst4 at h'
  refine ⟨⟨?_, ?_⟩, h3⟩
  · have e : (Rows.laid_internal_strconv_uint64pow10 : DataW Unit) = Lib.tabData .u64 Lib.pow10Tab := by kernel_rfl
    have h2 := h'.tail.tail
    rw [e] at h2
    exact Lib.tabIs_of_head (g := 2) (t := 159) (e := 44) (n := 20) (by kernel_rfl) (by kernel_rfl) Tryd.underlying159 Tryd.underlying44 (by kernel_rfl) (by kernel_rfl) h2
  · have e : (Rows.laid_scantling_heads_readies : DataW Unit) = .agg (gdat0.map fun b => .lit (.bool b)) := by kernel_rfl
    have h2 := h'.tail.tail.tail
    rw [e] at h2
    obtain ⟨ps, ⟨g', t', cs, fuel, p, q, hg', ht', hvar, hd, _, _⟩, _⟩ := h2
    have hg : Tryd.prog.globalNamed "scantling/heads.readies" = some 0 := by kernel_rfl
    have hty : (Tryd.prog.globals[0]?).map (·.type) = some 68 := by kernel_rfl
    obtain rfl := Option.some.inj (hg.symm.trans hg')
    obtain rfl := Option.some.inj (hty.symm.trans ht')
    rw [hvar, ← cells_of_bools Tryd.underlying68 (e := 4) Tryd.underlying4 (by kernel_rfl) (by kernel_rfl) hd]
theorem gl_of_tab {W : World} (h : Tabs W) : Gl ⟨W, fun _ => False, fun _ h => h.elim⟩ := by
  obtain ⟨⟨h1, h2⟩, h3⟩ := h
  refine ⟨fun p hp => ?_, fun p hp => ?_⟩
  · unfold gtab at hp
    rcases List.mem_cons.1 hp with rfl | hp
    · refine ⟨fun h => h, ?_⟩
      unfold Lib.TabIs World.var? at h1
      have hg : Tryd.prog.globalNamed "internal/strconv.uint64pow10" = some 2 := by kernel_rfl
      rw [hg] at h1
      simp only [Option.bind_some] at h1
      split at h1
      · rename_i cs t fr hc
        refine ⟨t, fr, ?_⟩
        show W.heap[2]? = _
        rw [hc]
        simp only [Option.some.injEq] at h1
        rw [h1]
        simp [Lib.pow10Tab]
      · cases h1
    · obtain rfl := List.mem_singleton.1 hp
      refine ⟨fun h => h, ?_⟩
      unfold World.var? at h2
      have hg : Tryd.prog.globalNamed "scantling/heads.readies" = some 0 := by kernel_rfl
      rw [hg] at h2
      simp only [Option.bind_some] at h2
      split at h2
      · rename_i cs t fr hc
        refine ⟨t, fr, ?_⟩
        show W.heap[0]? = _
        rw [hc]
        simp only [Option.some.injEq] at h2
        rw [h2]
      · cases h2
  · unfold gmap at hp
    obtain rfl := List.mem_singleton.1 hp
    obtain ⟨m, t, fr, es, clock, ys, k1, k2, k3, k4⟩ := h3
    exact ⟨fun h => h, m, t, fr, es, clock, ys, k1, fun h => h, k2, k3, k4⟩
noncomputable def laidWorld (os : Os) : World := World.doorLaid Tryd.prog 400 os
theorem laid_met (os : Os) (args : Array Value) : laidMetH Tryd.prog lst ((laidWorld os).forCall (fun _ _ => 0) ⟨#[], args, []⟩).memory :=
  laidMetH_of_parts3 (fuel := 8) (laidMet_of_run' 8 (by kernel_rfl) (by kernel_rfl)) (by kernel_rfl) (by kernel_rfl)
theorem weigh {H : Type} {P : Program} {ts : List TypeId} {ds : List (DataW H)} (h : (DataW.weightsEach P ts ds).all (· ≤ reachBytes) = true) (j : Nat) {t : TypeId} {d : DataW H} (ht : ts[j]? = some t) (hd : ds[j]? = some d) : ∀ n ∈ d.weights P t, n ≤ reachBytes := fun n hn => by
  have := List.all_eq_true.1 h n (DataW.weights_mem_each ht hd n hn)
  simpa using this
end Go.Proofs.YtdidjelkkanenaaDoor.V
