/-
  Go's stable sort: the one list that is sorted by key, and has the things of each key in one order.
-/
import Derived.Test.YtkdbiiollbeoeaaPS
namespace Go.Proofs.Ytkdbiiollbeoeaa.V
open Go
set_option linter.unusedVariables false

/-- Sorted within each block of so many. -/
def BS (key : Cl → Int) (n : Nat) (l : List Cl) : Prop := ∀ (i j : Nat) (hj : j < l.length) (hi : i ≤ j), i / n = j / n → key (l[i]'(by omega)) ≤ key l[j]
theorem BS.of_srt {key : Cl → Int} {n : Nat} {l : List Cl} (h : Srt key l) : BS key n l := fun i j hj hi _ => srt_le h hi hj
theorem BS.srt {key : Cl → Int} {n : Nat} {l : List Cl} (h : BS key n l) (hl : l.length ≤ n) : Srt key l := by
  refine List.pairwise_iff_getElem.2 fun i j hi hj hij => h i j hj (Nat.le_of_lt hij) ?_
  rw [Nat.div_eq_of_lt (by omega), Nat.div_eq_of_lt (by omega)]
theorem BS.app {key : Cl → Int} {n q : Nat} {P Q : List Cl} (hn : 0 < n) (hP : P.length = q * n) (h1 : BS key n P) (h2 : BS key n Q) : BS key n (P ++ Q) := fun i j hj hi he => by
  by_cases hjp : j < P.length
  · rw [List.getElem_append_left (by omega), List.getElem_append_left hjp]; exact h1 i j hjp hi he
  · have hq : q ≤ j / n := by rw [Nat.le_div_iff_mul_le hn]; omega
    have hip : P.length ≤ i := by
      rcases Nat.lt_or_ge i P.length with h | h
      · have : i / n < q := by rw [Nat.div_lt_iff_lt_mul hn]; omega
        omega
      · exact h
    rw [List.getElem_append_right hip, List.getElem_append_right (by omega)]
    refine h2 (i - P.length) (j - P.length) (by simp at hj; omega) (by omega) ?_
    have e1 : i = (i - P.length) + q * n := by omega
    have e2 : j = (j - P.length) + q * n := by omega
    rw [e1, e2, Nat.add_mul_div_right _ _ hn, Nat.add_mul_div_right _ _ hn] at he
    omega
theorem BS.left {key : Cl → Int} {n : Nat} {P Q : List Cl} (h : BS key n (P ++ Q)) : BS key n P := fun i j hj hi he => by
  have := h i j (by simp; omega) hi he
  rwa [List.getElem_append_left (by omega), List.getElem_append_left hj] at this
theorem BS.right {key : Cl → Int} {n q : Nat} {P Q : List Cl} (hn : 0 < n) (hP : P.length = q * n) (h : BS key n (P ++ Q)) : BS key n Q := fun i j hj hi he => by
  have := h (P.length + i) (P.length + j) (by simp; omega) (by omega) (by rw [hP, Nat.add_comm, Nat.add_comm (q * n) j, Nat.add_mul_div_right _ _ hn, Nat.add_mul_div_right _ _ hn, he])
  rw [List.getElem_append_right (by omega), List.getElem_append_right (by omega)] at this
  simpa using this

theorem sym_in {key : Cl → Int} {cmp : Cl × Cl × Int → Prop} (hc : ByKey key cmp) {A S T B : List Cl} {a m b : Int} (ha : a = (A.length : Int)) (hm : m = ((A.length + S.length : Nat) : Int)) (hb : b = ((A.length + S.length + T.length : Nat) : Int)) (hS : S ≠ []) (hT : T ≠ []) (h1 : Srt key S) (h2 : Srt key T)
    (hl : (A ++ S ++ T ++ B).length < 4611686018427387904) : slices_symMergeCmpFunc_api_Class (A ++ S ++ T ++ B) a m b cmp (A ++ srt key (S ++ T) ++ B) := by
  subst ha; subst hm; subst hb
  exact ⟨_, sym_n hc _ A S T B (Nat.le_refl _) hS hT h1 h2 hl⟩

section
variable {key : Cl → Int} {cmp : Cl × Cl × Int → Prop} {xs : List Cl} {r : List Cl}

/-- One round of merges. -/
theorem st_l2 (hc : ByKey key cmp) (hn : xs.length < 1152921504606846976) {bs : Nat} (hbs : 0 < bs) (hbn : bs < xs.length) {L1 : List Cl → Int → Prop} (hL : ∀ Q, BS key (2 * bs) Q → SEq key xs Q → L1 Q ((bs : Int) * 2)) :
    ∀ (f : Nat) (P R : List Cl) (q : Nat), R.length ≤ f → P.length = q * (2 * bs) → BS key (2 * bs) P → BS key bs R → SEq key xs (P ++ R) →
      ∃ k, slices_stableCmpFunc_api_Class.l2 (xs.length : Int) cmp (bs : Int) (slices_stableCmpFunc_api_Class.j2 L1 (xs.length : Int) cmp (bs : Int)) k (P ++ R) (P.length : Int) ((P.length : Int) + 2 * (bs : Int)) := by
  intro f
  induction f with
  | zero =>
    intro P R q hf hP h1 h2 h3
    have := List.eq_nil_of_length_eq_zero (show R.length = 0 by omega)
    subst this
    have hl := h3.length
    simp at hl
    refine ⟨1, fun h => absurd (dt0 h) (by omega), fun _ => ⟨i64_of (by omega) (by omega), fun h => absurd (dt0 h) (by omega), fun _ => ⟨i64_of (by omega) (by omega), ?_⟩⟩⟩
    rw [List.append_nil] at h3 ⊢
    exact hL P h1 h3
  | succ f ih =>
    intro P R q hf hP h1 h2 h3
    have hl := h3.length
    simp at hl
    by_cases hle : P.length + 2 * bs ≤ xs.length
    · obtain ⟨S, R1, rfl, hS⟩ := split_at R (show bs ≤ R.length by omega)
      simp at hl
      obtain ⟨T, R2, rfl, hT⟩ := split_at R1 (show bs ≤ R1.length by omega)
      simp at hl hf
      have hSs := h2.left.srt (by omega)
      have h2' := BS.right hbs (q := 1) (by omega) h2
      have hTs := h2'.left.srt (by omega)
      have h2'' := BS.right hbs (q := 1) (by omega) h2'
      have hP2 : (P ++ srt key (S ++ T)).length = (q + 1) * (2 * bs) := by simp [srt_len, hP, Nat.add_mul]; omega
      obtain ⟨k, hk⟩ := ih (P ++ srt key (S ++ T)) R2 (q + 1) (by omega) hP2 (BS.app (by omega) hP h1 (BS.of_srt (srt_srt _ _))) h2'' (h3.trans (by
        have := (SEq.refl key P).app ((seq_srt key (S ++ T)).app (SEq.refl key R2))
        simpa using this))
      refine ⟨k + 1, fun _ => ⟨i64_of (by omega) (by omega), P ++ srt key (S ++ T) ++ R2, ?_, i64_of (by omega) (by omega), i64_of (by omega) (by omega), ?_⟩, fun h => absurd (by omega) (df0 h)⟩
      · have := sym_in hc (A := P) (S := S) (T := T) (B := R2) (a := (P.length : Int)) (m := (P.length : Int) + (bs : Int)) (b := (P.length : Int) + 2 * (bs : Int)) rfl (by omega) (by omega) (by rintro rfl; simp at hS; omega) (by rintro rfl; simp at hT; omega) hSs hTs (by simp; omega)
        simpa using this
      · have e : (((P ++ srt key (S ++ T)).length : Nat) : Int) = (P.length : Int) + 2 * (bs : Int) := by simp [srt_len]; omega
        rw [e] at hk
        exact hk
    · by_cases hm : P.length + bs < xs.length
      · obtain ⟨S, T, rfl, hS⟩ := split_at R (show bs ≤ R.length by omega)
        simp at hl
        have hSs := h2.left.srt (by omega)
        have hTs := (BS.right hbs (q := 1) (by omega) h2).srt (by omega)
        refine ⟨1, fun h => absurd (dt0 h) (by omega), fun _ => ⟨i64_of (by omega) (by omega), fun _ => ⟨P ++ srt key (S ++ T) ++ [], ?_, i64_of (by omega) (by omega), ?_⟩, fun h => absurd (by omega) (df0 h)⟩⟩
        · have := sym_in hc (A := P) (S := S) (T := T) (B := []) (a := (P.length : Int)) (m := (P.length : Int) + (bs : Int)) (b := (xs.length : Int)) rfl (by omega) (by omega) (by rintro rfl; simp at hS; omega) (by rintro rfl; simp at hl; omega) hSs hTs (by simp; omega)
          simpa using this
        · rw [List.append_nil]
          exact hL _ (BS.app (by omega) hP h1 (BS.of_srt (srt_srt _ _))) (h3.trans (by
            have := (SEq.refl key P).app (seq_srt key (S ++ T))
            simpa using this))
      · refine ⟨1, fun h => absurd (dt0 h) (by omega), fun _ => ⟨i64_of (by omega) (by omega), fun h => absurd (dt0 h) (by omega), fun _ => ⟨i64_of (by omega) (by omega), ?_⟩⟩⟩
        exact hL _ (BS.app (by omega) hP h1 (BS.of_srt (h2.srt (by omega)))) h3

theorem st_l1 (hc : ByKey key cmp) (hn : xs.length < 1152921504606846976) : ∀ (f : Nat) (bs : Nat) (Q : List Cl), xs.length - bs ≤ f → 0 < bs → BS key bs Q → SEq key xs Q →
    slices_stableCmpFunc_api_Class.l1 (xs.length : Int) cmp (slices_stableCmpFunc_api_Class.j1 (srt key xs)) (f + 1) Q (bs : Int) := by
  intro f
  induction f with
  | zero =>
    intro bs Q hf hbs h1 h2
    have hl := h2.length
    exact ⟨fun h => absurd (dt0 h) (by omega), fun _ => (srt_of (h1.srt (by omega)) h2).symm⟩
  | succ f ih =>
    intro bs Q hf hbs h1 h2
    have hl := h2.length
    by_cases hlt : bs < xs.length
    · refine ⟨fun _ => ⟨i64_of (by omega) (by omega), ?_⟩, fun h => absurd (by omega) (df0 h)⟩
      have := st_l2 hc hn hbs hlt (L1 := slices_stableCmpFunc_api_Class.l1 (xs.length : Int) cmp (slices_stableCmpFunc_api_Class.j1 (srt key xs)) (f + 1)) (fun Q' hb hs => by
        have := ih (2 * bs) Q' (by omega) (by omega) hb hs
        rwa [show (((2 * bs : Nat)) : Int) = (bs : Int) * 2 by omega] at this) Q.length [] Q 0 (Nat.le_refl _) (by simp) (fun i j hj => by simp at hj) h1 (by simpa using h2)
      simpa using this
    · exact ⟨fun h => absurd (dt0 h) (by omega), fun _ => (srt_of (h1.srt (by omega)) h2).symm⟩

theorem st_l3 (hc : ByKey key cmp) (hn : xs.length < 1152921504606846976) : ∀ (f : Nat) (P R : List Cl) (q : Nat), R.length ≤ f → P.length = q * 20 → BS key 20 P → SEq key xs (P ++ R) →
    ∃ k, slices_stableCmpFunc_api_Class.l3 (xs.length : Int) cmp (slices_stableCmpFunc_api_Class.j3 (xs.length : Int) cmp (srt key xs)) k (P ++ R) (P.length : Int) ((P.length : Int) + 20) := by
  intro f
  have fin : ∀ (P R : List Cl) (q : Nat), P.length = q * 20 → BS key 20 P → SEq key xs (P ++ R) → R.length ≤ 20 → slices_stableCmpFunc_api_Class.j3 (xs.length : Int) cmp (srt key xs) (P ++ R) (P.length : Int) := by
    intro P R q hP h1 h3 hR
    have hl := h3.length
    simp at hl
    have := ins_in hc (A := P) (S := R) (B := []) (a := (P.length : Int)) (b := (xs.length : Int)) rfl (by omega) (by simp; omega)
    refine ⟨P ++ srt key R, by simpa using this, _, st_l1 hc hn xs.length 20 _ (by omega) (by omega) (BS.app (by omega) hP h1 (BS.of_srt (srt_srt _ _))) (h3.trans ((SEq.refl key P).app (seq_srt key R)))⟩
  induction f with
  | zero =>
    intro P R q hf hP h1 h3
    have hl := h3.length
    simp at hl
    exact ⟨1, fun h => absurd (dt0 h) (by omega), fun _ => fin P R q hP h1 h3 (by omega)⟩
  | succ f ih =>
    intro P R q hf hP h1 h3
    have hl := h3.length
    simp at hl
    by_cases hle : P.length + 20 ≤ xs.length
    · obtain ⟨S, R1, rfl, hS⟩ := split_at R (show 20 ≤ R.length by omega)
      simp at hl hf
      have hP2 : (P ++ srt key S).length = (q + 1) * 20 := by simp [srt_len, hP, Nat.add_mul]; omega
      obtain ⟨k, hk⟩ := ih (P ++ srt key S) R1 (q + 1) (by omega) hP2 (BS.app (by omega) hP h1 (BS.of_srt (srt_srt _ _))) (h3.trans (by
        have := (SEq.refl key P).app ((seq_srt key S).app (SEq.refl key R1))
        simpa using this))
      refine ⟨k + 1, fun _ => ⟨P ++ srt key S ++ R1, ?_, i64_of (by omega) (by omega), ?_⟩, fun h => absurd (by omega) (df0 h)⟩
      · have := ins_in hc (A := P) (S := S) (B := R1) (a := (P.length : Int)) (b := (P.length : Int) + 20) rfl (by omega) (by simp; omega)
        simpa using this
      · have e : (((P ++ srt key S).length : Nat) : Int) = (P.length : Int) + 20 := by simp [srt_len]; omega
        rw [e] at hk
        exact hk
    · exact ⟨1, fun h => absurd (dt0 h) (by omega), fun _ => fin P R q hP h1 h3 (by omega)⟩

theorem stable_in (hc : ByKey key cmp) (hn : xs.length < 1152921504606846976) : slices_SortStableFunc_api_Class_api_Class xs cmp (srt key xs) := by
  have := st_l3 hc hn xs.length [] xs 0 (Nat.le_refl _) (by simp) (fun i j hj => by simp at hj) (SEq.refl _ _)
  refine ⟨_, ?_, rfl⟩
  unfold slices_stableCmpFunc_api_Class
  simpa using this
end
end Go.Proofs.Ytkdbiiollbeoeaa.V
