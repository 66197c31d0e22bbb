/-
  Go's merge in place, and its stable sort: the one list that is sorted by key, and has the things of each key in one order.
-/
import Derived.Test.YtkdbiiollbeoeaaP0
namespace Go.Proofs.Ytkdbiiollbeoeaa.V
open Go
set_option linter.unusedVariables false

theorem at_app1 {A S B : List Cl} {c : Nat} (h1 : A.length ≤ c) (h2 : c < A.length + S.length) : at? (A ++ S ++ B) (c : Int) = some (S[c - A.length]'(by omega)) := by
  rw [at_nat, List.append_assoc, List.getElem?_append_right h1, List.getElem?_append_left (by omega), List.getElem?_eq_getElem (by omega)]
theorem srt_le {key : Cl → Int} {S : List Cl} (h : Srt key S) {i j : Nat} (hij : i ≤ j) (hj : j < S.length) : key (S[i]'(by omega)) ≤ key S[j] := by
  rcases Nat.lt_or_ge i j with hlt | hge
  · exact List.pairwise_iff_getElem.1 h i j (by omega) hj hlt
  · have : i = j := by omega
    subst this; exact Int.le_refl _

/-- The first one is moved behind Y1. -/
theorem sm_l1 {A B : List Cl} {x : Cl} {i : Int} {X : List Cl → Prop} : ∀ (Y2 Y1 : List Cl), i = ((A.length + Y1.length + Y2.length : Nat) : Int) + 1 → (A ++ Y1 ++ x :: Y2 ++ B).length < 4611686018427387904 → X (A ++ (Y1 ++ Y2) ++ x :: B) →
    ∃ k, slices_symMergeCmpFunc_api_Class.l1 i X k (A ++ Y1 ++ x :: Y2 ++ B) ((A.length + Y1.length : Nat) : Int)
  | [], Y1, hi, hl, hX => by
    have hl' : A.length + Y1.length < 4611686018427387904 := by simp at hl; omega
    exact ⟨1, i64_of (by simp at hi; omega) (by simp at hi; omega), fun h => absurd (dt0 h) (by simp at hi; omega), fun _ => by simpa using hX⟩
  | y :: Y2, Y1, hi, hl, hX => by
    have hl' : A.length + Y1.length + Y2.length + 1 < 4611686018427387904 := by simp at hl; omega
    have hi' := hi
    simp at hi'
    obtain ⟨k, hk⟩ := sm_l1 (A := A) (B := B) (x := x) (i := i) (X := X) Y2 (Y1 ++ [y]) (by rw [hi]; simp; omega) (by simp at hl ⊢; omega) (by simpa using hX)
    have e1 : A ++ Y1 ++ x :: (y :: Y2) ++ B = (A ++ Y1) ++ x :: (y :: Y2 ++ B) := by simp
    have e2 : A ++ Y1 ++ x :: (y :: Y2) ++ B = (A ++ Y1 ++ [x]) ++ y :: (Y2 ++ B) := by simp
    have p1 : ((A.length + Y1.length : Nat) : Int) = ((A ++ Y1).length : Int) := by simp
    have p2 : ((A.length + Y1.length : Nat) : Int) + 1 = ((A ++ Y1 ++ [x]).length : Int) := by simp; omega
    have a1 : at? (A ++ Y1 ++ x :: (y :: Y2) ++ B) ((A.length + Y1.length : Nat) : Int) = some x := by rw [e1]; exact at_mid p1
    have a2 : at? (A ++ Y1 ++ x :: (y :: Y2) ++ B) (((A.length + Y1.length : Nat) : Int) + 1) = some y := by rw [e2]; exact at_mid p2
    have s1 : (A ++ Y1 ++ x :: (y :: Y2) ++ B).set ((A.length + Y1.length : Nat) : Int).toNat y = (A ++ Y1 ++ [y]) ++ y :: (Y2 ++ B) := by rw [e1, set_mid p1]; simp
    have p2' : ((A.length + Y1.length : Nat) : Int) + 1 = ((A ++ Y1 ++ [y]).length : Int) := by simp; omega
    refine ⟨k + 1, i64_of (by omega) (by omega), fun _ => ⟨i64_of (by omega) (by omega), i64_of (by omega) (by omega), y, a2, x, a1, x, a1, y, ?_, i64_of (by omega) (by omega), ?_⟩, fun h => absurd (by omega) (df0 h)⟩
    · rw [s1]; exact at_mid p2'
    · rw [s1, set_mid p2']
      have p3 : ((A.length + (Y1 ++ [y]).length : Nat) : Int) = ((A.length + Y1.length : Nat) : Int) + 1 := by simp; omega
      rw [p3] at hk
      simpa using hk

/-- The last one is moved ahead of Y2. -/
theorem sm_l3 {A B : List Cl} {x : Cl} {i : Int} {X : List Cl → Prop} : ∀ (m : Nat) (Y1 Y2 : List Cl), Y1.length = m → i = (A.length : Int) → (A ++ Y1 ++ x :: Y2 ++ B).length < 4611686018427387904 → X (A ++ x :: (Y1 ++ Y2) ++ B) →
    ∃ k, slices_symMergeCmpFunc_api_Class.l3 i X k (A ++ Y1 ++ x :: Y2 ++ B) ((A.length + Y1.length : Nat) : Int) := by
  intro m
  induction m with
  | zero =>
    intro Y1 Y2 hm hi hl hX
    have := List.eq_nil_of_length_eq_zero hm
    subst this
    exact ⟨1, fun h => absurd (dt0 h) (by rw [hi]; simp), fun _ => by simpa using hX⟩
  | succ m ih =>
    intro Y1 Y2 hm hi hl hX
    obtain ⟨Y1, y, rfl⟩ := snoc_of (l := Y1) (by rintro rfl; simp at hm)
    have hl' : A.length + Y1.length + Y2.length + 1 < 4611686018427387904 := by simp at hl; omega
    obtain ⟨k, hk⟩ := ih Y1 (y :: Y2) (by simpa using hm) hi (by simp at hl ⊢; omega) (by simpa using hX)
    have e1 : A ++ (Y1 ++ [y]) ++ x :: Y2 ++ B = (A ++ Y1) ++ y :: (x :: Y2 ++ B) := by simp
    have e2 : A ++ (Y1 ++ [y]) ++ x :: Y2 ++ B = (A ++ Y1 ++ [y]) ++ x :: (Y2 ++ B) := by simp
    have p2 : ((A.length + (Y1 ++ [y]).length : Nat) : Int) = ((A ++ Y1 ++ [y]).length : Int) := by simp
    have p1 : ((A.length + (Y1 ++ [y]).length : Nat) : Int) - 1 = ((A ++ Y1).length : Int) := by simp; omega
    have a2 : at? (A ++ (Y1 ++ [y]) ++ x :: Y2 ++ B) ((A.length + (Y1 ++ [y]).length : Nat) : Int) = some x := by rw [e2]; exact at_mid p2
    have a1 : at? (A ++ (Y1 ++ [y]) ++ x :: Y2 ++ B) (((A.length + (Y1 ++ [y]).length : Nat) : Int) - 1) = some y := by rw [e1]; exact at_mid p1
    have s1 : (A ++ (Y1 ++ [y]) ++ x :: Y2 ++ B).set ((A.length + (Y1 ++ [y]).length : Nat) : Int).toNat y = (A ++ Y1) ++ y :: (y :: Y2 ++ B) := by rw [e2, set_mid p2]; simp
    refine ⟨k + 1, fun _ => ⟨i64_of (by simp; omega) (by simp; omega), i64_of (by simp; omega) (by simp; omega), y, a1, x, a2, x, a2, y, ?_, i64_of (by simp; omega) (by simp; omega), ?_⟩, fun h => absurd (by rw [hi]; simp; omega) (df0 h)⟩
    · rw [s1]; exact at_mid p1
    · rw [s1, set_mid p1, p1, show (((A ++ Y1).length : Nat) : Int) = ((A.length + Y1.length : Nat) : Int) by simp]
      simpa using hk

theorem at_gd {A S B : List Cl} {c : Nat} (h1 : A.length ≤ c) (h2 : c < A.length + S.length) : at? (A ++ S ++ B) (c : Int) = some (S.getD (c - A.length) 0#256) := by
  rw [at_app1 h1 h2, List.getD, List.getElem?_eq_getElem (by omega)]; rfl
theorem gd_le {key : Cl → Int} {S : List Cl} (h : Srt key S) {i j : Nat} (hij : i ≤ j) (hj : j < S.length) : key (S.getD i 0#256) ≤ key (S.getD j 0#256) := by
  have := srt_le h hij hj
  rw [List.getD, List.getD, List.getElem?_eq_getElem (by omega), List.getElem?_eq_getElem hj]; exact this
theorem getD_l {X Y : List Cl} {q : Nat} (h : q < X.length) : (X ++ Y).getD q 0#256 = X[q] := by
  rw [List.getD, List.getElem?_append_left h, List.getElem?_eq_getElem h]; rfl
theorem getD_r {X Y : List Cl} {q : Nat} (h : q < Y.length) : (X ++ Y).getD (X.length + q) 0#256 = Y[q] := by
  rw [List.getD, List.getElem?_append_right (by omega), Nat.add_sub_cancel_left, List.getElem?_eq_getElem h]; rfl
theorem mem_take' {S : List Cl} {n : Nat} {t : Cl} (h : t ∈ S.take n) : ∃ j, j < n ∧ j < S.length ∧ t = S.getD j 0#256 := by
  obtain ⟨j, hj, rfl⟩ := List.mem_iff_getElem.1 h
  simp at hj
  exact ⟨j, by omega, by omega, by rw [List.getD, List.getElem?_eq_getElem (by omega)]; simp⟩
theorem mem_drop' {S : List Cl} {n : Nat} {t : Cl} (h : t ∈ S.drop n) : ∃ j, n ≤ j ∧ j < S.length ∧ t = S.getD j 0#256 := by
  obtain ⟨j, hj, rfl⟩ := List.mem_iff_getElem.1 h
  simp at hj
  exact ⟨n + j, by omega, by omega, by rw [List.getD, List.getElem?_eq_getElem (by omega)]; simp⟩

theorem sym_j7 {key : Cl → Int} {cmp : Cl × Cl × Int → Prop} {f : Nat} {A S1 S2 T1 T2 B : List Cl}
    (ih : ∀ (A S T B : List Cl), S.length + T.length ≤ f → S ≠ [] → T ≠ [] → Srt key S → Srt key T → (A ++ S ++ T ++ B).length < 4611686018427387904 →
      slices_symMergeCmpFunc_api_Class.n f (A ++ S ++ T ++ B) (A.length : Int) ((A.length + S.length : Nat) : Int) ((A.length + S.length + T.length : Nat) : Int) cmp (A ++ srt key (S ++ T) ++ B))
    (hS : Srt key (S1 ++ S2)) (hT : Srt key (T1 ++ T2)) (hlen : (A ++ (S1 ++ S2) ++ (T1 ++ T2) ++ B).length < 4611686018427387904) (h1 : ∀ t ∈ T1, ∀ s ∈ S2, key t < key s) (h2 : ∀ s ∈ S1, ∀ t ∈ T2, key s ≤ key t)
    {st mid m b : Int} (hst : st = ((A.length + S1.length : Nat) : Int)) (hmid : mid = ((A.length + S1.length + T1.length : Nat) : Int)) (hm : m = ((A.length + S1.length + S2.length : Nat) : Int)) (hb : b = ((A.length + S1.length + S2.length + T1.length + T2.length : Nat) : Int))
    (hf1 : S1.length + T1.length ≤ f) (hf2 : S2.length + T2.length ≤ f) :
    slices_symMergeCmpFunc_api_Class.j7 (slices_symMergeCmpFunc_api_Class.n f) (A ++ (S1 ++ S2) ++ (T1 ++ T2) ++ B) (A.length : Int) m b cmp (A ++ srt key ((S1 ++ S2) ++ (T1 ++ T2)) ++ B) mid st := by
  have hl : A.length + S1.length + S2.length + T1.length + T2.length + B.length < 4611686018427387904 := by simp at hlen; omega
  obtain ⟨hS1, hS2, hSS⟩ := Srt.app.1 hS
  obtain ⟨hT1, hT2, hTT⟩ := Srt.app.1 hT
  -- the answer
  have hres : srt key ((S1 ++ S2) ++ (T1 ++ T2)) = srt key (S1 ++ T1) ++ srt key (S2 ++ T2) := by
    refine (srt_of (Srt.app.2 ⟨srt_srt _ _, srt_srt _ _, fun x hx y hy => ?_⟩) ?_).symm
    · have hx' := (seq_srt key (S1 ++ T1)).perm.mem_iff.2 hx
      have hy' := (seq_srt key (S2 ++ T2)).perm.mem_iff.2 hy
      rcases List.mem_append.1 hx' with hx1 | hx1 <;> rcases List.mem_append.1 hy' with hy1 | hy1
      · exact hSS x hx1 y hy1
      · exact h2 x hx1 y hy1
      · exact Int.le_of_lt (h1 x hx1 y hy1)
      · exact hTT x hx1 y hy1
    · have e1 : SEq key (S2 ++ T1) (T1 ++ S2) := seq_blocks fun x hx y hy => by have := h1 y hy x hx; omega
      have e2 := (SEq.refl key S1).app (e1.app (SEq.refl key T2))
      have e3 := (seq_srt key (S1 ++ T1)).app (seq_srt key (S2 ++ T2))
      exact SEq.trans (by simpa using e2) (by simpa using e3)
  rw [hres]
  have hj5 : slices_symMergeCmpFunc_api_Class.j5 (slices_symMergeCmpFunc_api_Class.n f) m b cmp (A ++ (srt key (S1 ++ T1) ++ srt key (S2 ++ T2)) ++ B) mid st (A ++ srt key (S1 ++ T1) ++ S2 ++ T2 ++ B) := by
    refine ⟨_, rfl, fun h => ?_, fun h => ?_⟩
    · simp only [Bool.and_eq_true, decide_eq_true_eq] at h
      have hS2n : S2 ≠ [] := by rintro rfl; simp at hm; omega
      have hT2n : T2 ≠ [] := by rintro rfl; simp at hb; omega
      have := ih (A ++ srt key (S1 ++ T1)) S2 T2 B hf2 hS2n hT2n hS2 hT2 (by simp [srt_len]; omega)
      refine ⟨_, ?_, rfl⟩
      have e1 : (((A ++ srt key (S1 ++ T1)).length : Nat) : Int) = mid := by rw [hmid]; simp [srt_len]; omega
      have e2 : (((A ++ srt key (S1 ++ T1)).length + S2.length : Nat) : Int) = mid + m - st := by rw [hmid, hm, hst]; simp [srt_len]; omega
      have e3 : (((A ++ srt key (S1 ++ T1)).length + S2.length + T2.length : Nat) : Int) = b := by rw [hb]; simp [srt_len]; omega
      rw [e1, e2, e3] at this
      simpa using this
    · have : S2 = [] ∨ T2 = [] := by
        simp only [Bool.and_eq_false_iff, decide_eq_false_iff_not] at h
        rcases h with h | h
        · left; exact List.eq_nil_of_length_eq_zero (by omega)
        · right; exact List.eq_nil_of_length_eq_zero (by omega)
      have e : srt key (S2 ++ T2) = S2 ++ T2 := by
        rcases this with rfl | rfl
        · exact (srt_of (by simpa using hT2) (SEq.refl _ _)).symm
        · exact (srt_of (by simpa using hS2) (SEq.refl _ _)).symm
      rw [e]; simp
  have hj6 : slices_symMergeCmpFunc_api_Class.j6 (slices_symMergeCmpFunc_api_Class.n f) (A.length : Int) m b cmp (A ++ (srt key (S1 ++ T1) ++ srt key (S2 ++ T2)) ++ B) mid st (A ++ S1 ++ T1 ++ S2 ++ T2 ++ B) := by
    refine ⟨_, rfl, fun h => ?_, fun h => ?_⟩
    · simp only [Bool.and_eq_true, decide_eq_true_eq] at h
      have hS1n : S1 ≠ [] := by rintro rfl; simp at hst; omega
      have hT1n : T1 ≠ [] := by rintro rfl; simp at hmid; omega
      have := ih A S1 T1 (S2 ++ T2 ++ B) hf1 hS1n hT1n hS1 hT1 (by simp; omega)
      refine ⟨A ++ srt key (S1 ++ T1) ++ S2 ++ T2 ++ B, ?_, hj5⟩
      rw [← hst, ← hmid] at this
      simpa using this
    · have : S1 = [] ∨ T1 = [] := by
        simp only [Bool.and_eq_false_iff, decide_eq_false_iff_not] at h
        rcases h with h | h
        · left; exact List.eq_nil_of_length_eq_zero (by omega)
        · right; exact List.eq_nil_of_length_eq_zero (by omega)
      have e : srt key (S1 ++ T1) = S1 ++ T1 := by
        rcases this with rfl | rfl
        · exact (srt_of (by simpa using hT1) (SEq.refl _ _)).symm
        · exact (srt_of (by simpa using hS1) (SEq.refl _ _)).symm
      rw [e] at hj5 ⊢
      simpa using hj5
  refine ⟨i64_of (by omega) (by omega), _, rfl, fun h => ?_, fun h => ?_⟩
  · simp only [Bool.and_eq_true, decide_eq_true_eq] at h
    have hS2n : S2 ≠ [] := by rintro rfl; simp at hm; omega
    have hT1n : T1 ≠ [] := by rintro rfl; simp at hmid; omega
    have := rot_in (cmp := cmp) (A := A ++ S1) (X := S2) (Y := T1) (B := T2 ++ B) (a := st) (m := m) (b := mid + m - st) (by rw [hst]; simp) (by rw [hm]; simp) (by rw [hmid, hm, hst]; simp; omega) hS2n hT1n (by simp; omega)
    refine ⟨A ++ S1 ++ T1 ++ S2 ++ T2 ++ B, ?_, hj6⟩
    simpa using this
  · have : S2 = [] ∨ T1 = [] := by
      simp only [Bool.and_eq_false_iff, decide_eq_false_iff_not] at h
      rcases h with h | h
      · left; exact List.eq_nil_of_length_eq_zero (by omega)
      · right; exact List.eq_nil_of_length_eq_zero (by omega)
    have e : A ++ (S1 ++ S2) ++ (T1 ++ T2) ++ B = A ++ S1 ++ T1 ++ S2 ++ T2 ++ B := by
      rcases this with rfl | rfl <;> simp
    rw [e]; exact hj6

theorem sym_n {key : Cl → Int} {cmp : Cl × Cl × Int → Prop} (hc : ByKey key cmp) : ∀ (f : Nat) (A S T B : List Cl), S.length + T.length ≤ f → S ≠ [] → T ≠ [] → Srt key S → Srt key T → (A ++ S ++ T ++ B).length < 4611686018427387904 →
    slices_symMergeCmpFunc_api_Class.n f (A ++ S ++ T ++ B) (A.length : Int) ((A.length + S.length : Nat) : Int) ((A.length + S.length + T.length : Nat) : Int) cmp (A ++ srt key (S ++ T) ++ B) := by
  intro f
  induction f with
  | zero => intro A S T B hf hS; exact absurd (List.eq_nil_of_length_eq_zero (by omega)) hS
  | succ f ih =>
    intro A S T B hf hSn hTn hS hT hlen
    have hl : A.length + S.length + T.length + B.length < 4611686018427387904 := by simp at hlen; omega
    have hs0 : 0 < S.length := List.length_pos_iff.2 hSn
    have ht0 : 0 < T.length := List.length_pos_iff.2 hTn
    have atS : ∀ c : Nat, A.length ≤ c → c < A.length + S.length → at? (A ++ S ++ T ++ B) (c : Int) = some (S.getD (c - A.length) 0#256) := fun c h1 h2 => by
      rw [show A ++ S ++ T ++ B = A ++ S ++ (T ++ B) by simp]; exact at_gd h1 h2
    have atT : ∀ c : Nat, A.length + S.length ≤ c → c < A.length + S.length + T.length → at? (A ++ S ++ T ++ B) (c : Int) = some (T.getD (c - (A.length + S.length)) 0#256) := fun c h1 h2 => by
      have := at_gd (A := A ++ S) (S := T) (B := B) (c := c) (by simp; omega) (by simp; omega)
      simpa using this
    refine ⟨i64_of (by omega) (by omega), fun h1 => ?_, fun h1 => ⟨i64_of (by omega) (by omega), fun h2 => ?_, fun h2 => ⟨i64_of (by omega) (by omega), ?_⟩⟩⟩
    · -- one thing ahead
      have hs1 : S.length = 1 := by simp at h1; omega
      obtain ⟨x, rfl⟩ := List.length_eq_one_iff.1 hs1
      refine bsearch (P := fun k i j => slices_symMergeCmpFunc_api_Class.l2 (A ++ [x] ++ T ++ B) (A.length : Int) cmp _ k i j) (fun c => decide (key (T.getD (c - (A.length + 1)) 0#256) < key x)) (A.length + 1) (A.length + 1 + T.length) (fun c d h1 h2 h3 h4 => ?_) (fun k i j h1 h2 h3 => ?_) (fun k i h1 h2 h3 h4 => ?_) (by omega)
      · have := gd_le hT (i := c - (A.length + 1)) (j := d - (A.length + 1)) (by omega) (by omega)
        simp only [decide_eq_true_eq] at h4 ⊢; omega
      · have hat := atT ((i + j) / 2) (by simp; omega) (by simp; omega)
        have hax := atS A.length (Nat.le_refl _) (by simp)
        have hh : ∀ (p : Prop), (((decide ((i : Int) < (j : Int))) = true → InR .i64 ((i : Int) + j) ∧ ∃ i42 : Int, i42 = (IntKind.wrap .i64 (shrI (IntKind.wrap .u64 ((i : Int) + j)) 1)) ∧ ∃ e45 : Cl, at? (A ++ [x] ++ T ++ B) i42 = some e45 ∧ ∃ e47 : Cl, at? (A ++ [x] ++ T ++ B) (A.length : Int) = some e47 ∧ ∃ r49 : Int, cmp (e45, e47, r49) ∧ p) → True) := fun _ _ => trivial
        constructor
        · intro hp hk
          refine ⟨fun _ => ⟨i64_of (by omega) (by omega), _, rfl, T.getD ((i + j) / 2 - (A.length + 1)) 0#256, ?_, x, by simpa using hax, _, hc _ _, fun _ => ⟨?_, ?_⟩, fun h => ?_⟩, fun h => absurd (by omega) (df0 h)⟩
          · rw [half_of (by omega) (by omega), show ((i : Int) + j) / 2 = (((i + j) / 2 : Nat) : Int) by omega]; simpa using hat
          · rw [half_of (by omega) (by omega)]; exact i64_of (by omega) (by omega)
          · rw [half_of (by omega) (by omega), show ((i : Int) + j) / 2 + 1 = (((i + j) / 2 + 1 : Nat) : Int) by omega]; exact hk
          · exfalso; simp at h hp; omega
        · intro hp hk
          refine ⟨fun _ => ⟨i64_of (by omega) (by omega), _, rfl, T.getD ((i + j) / 2 - (A.length + 1)) 0#256, ?_, x, by simpa using hax, _, hc _ _, fun h => ?_, fun _ => ?_⟩, fun h => absurd (by omega) (df0 h)⟩
          · rw [half_of (by omega) (by omega), show ((i : Int) + j) / 2 = (((i + j) / 2 : Nat) : Int) by omega]; simpa using hat
          · exfalso; simp at h hp; omega
          · rw [half_of (by omega) (by omega), show ((i : Int) + j) / 2 = (((i + j) / 2 : Nat) : Int) by omega]; exact hk
      · refine ⟨fun h => absurd (dt0 h) (by omega), fun _ => ?_⟩
        obtain ⟨T1, T2, rfl, hT1⟩ := split_at T (show i - (A.length + 1) ≤ T.length by omega)
        have hlt : ∀ y ∈ T1, key y < key x := fun y hy => by
          obtain ⟨q, hq, rfl⟩ := List.mem_iff_getElem.1 hy
          have := h3 (A.length + 1 + q) (by omega) (by omega)
          rw [show A.length + 1 + q - (A.length + 1) = q by omega, getD_l hq] at this
          exact of_decide_eq_true this
        have hge : ∀ y ∈ T2, key x ≤ key y := fun y hy => by
          obtain ⟨q, hq, rfl⟩ := List.mem_iff_getElem.1 hy
          have := h4 (A.length + 1 + T1.length + q) (by omega) (by simp; omega)
          rw [show A.length + 1 + T1.length + q - (A.length + 1) = T1.length + q by omega, getD_r hq] at this
          have := of_decide_eq_false this
          omega
        have hres : srt key ([x] ++ (T1 ++ T2)) = T1 ++ x :: T2 := by
          refine (srt_of (Srt.app.2 ⟨(Srt.app.1 hT).1, Srt.cons.2 ⟨hge, (Srt.app.1 hT).2.1⟩, fun p hp q hq => ?_⟩) ?_).symm
          · rcases List.mem_cons.1 hq with rfl | hq
            · exact Int.le_of_lt (hlt p hp)
            · exact (Srt.app.1 hT).2.2 p hp q hq
          · have e1 : SEq key ([x] ++ T1) (T1 ++ [x]) := seq_blocks fun a ha b hb => by simp at ha; subst ha; have := hlt b hb; omega
            simpa using e1.app (SEq.refl key T2)
        rw [hres]
        have := sm_l1 (A := A) (B := T2 ++ B) (x := x) (i := (i : Int)) (X := slices_symMergeCmpFunc_api_Class.j1 (A ++ (T1 ++ x :: T2) ++ B)) T1 [] (by simp; omega) (by simp at hl ⊢; omega) (by simp [slices_symMergeCmpFunc_api_Class.j1])
        show ∃ k15, slices_symMergeCmpFunc_api_Class.l1 (i : Int) _ k15 _ _
        simpa using this
    · -- one thing behind
      have ht1 : T.length = 1 := by simp at h2; omega
      obtain ⟨y, rfl⟩ := List.length_eq_one_iff.1 ht1
      refine bsearch (P := fun k i j => slices_symMergeCmpFunc_api_Class.l4 (A ++ S ++ [y] ++ B) ((A.length + S.length : Nat) : Int) cmp _ k i j) (fun c => !decide (key y < key (S.getD (c - A.length) 0#256))) A.length (A.length + S.length) (fun c d h1 h2 h3 h4 => ?_) (fun k i j h1 h2 h3 => ?_) (fun k i h1 h2 h3 h4 => ?_) (by omega)
      · have := gd_le hS (i := c - A.length) (j := d - A.length) (by omega) (by omega)
        simp only [Bool.not_eq_true', decide_eq_false_iff_not] at h4 ⊢; omega
      · have hat := atS ((i + j) / 2) (by omega) (by omega)
        have hay := atT (A.length + S.length) (Nat.le_refl _) (by simp)
        constructor
        · intro hp hk
          refine ⟨fun _ => ⟨i64_of (by omega) (by omega), _, rfl, y, by simpa using hay, S.getD ((i + j) / 2 - A.length) 0#256, ?_, _, hc _ _, fun _ => ⟨?_, ?_⟩, fun h => ?_⟩, fun h => absurd (by omega) (df0 h)⟩
          · rw [half_of (by omega) (by omega), show ((i : Int) + j) / 2 = (((i + j) / 2 : Nat) : Int) by omega]; exact hat
          · rw [half_of (by omega) (by omega)]; exact i64_of (by omega) (by omega)
          · rw [half_of (by omega) (by omega), show ((i : Int) + j) / 2 + 1 = (((i + j) / 2 + 1 : Nat) : Int) by omega]; exact hk
          · exfalso; simp only [Bool.not_eq_true', Bool.not_eq_false', decide_eq_true_eq, decide_eq_false_iff_not] at h hp; omega
        · intro hp hk
          refine ⟨fun _ => ⟨i64_of (by omega) (by omega), _, rfl, y, by simpa using hay, S.getD ((i + j) / 2 - A.length) 0#256, ?_, _, hc _ _, fun h => ?_, fun _ => ?_⟩, fun h => absurd (by omega) (df0 h)⟩
          · rw [half_of (by omega) (by omega), show ((i : Int) + j) / 2 = (((i + j) / 2 : Nat) : Int) by omega]; exact hat
          · exfalso; simp only [Bool.not_eq_true', Bool.not_eq_false', decide_eq_true_eq, decide_eq_false_iff_not] at h hp; omega
          · rw [half_of (by omega) (by omega), show ((i : Int) + j) / 2 = (((i + j) / 2 : Nat) : Int) by omega]; exact hk
      · refine ⟨fun h => absurd (dt0 h) (by omega), fun _ => ?_⟩
        obtain ⟨S1, S2, rfl, hS1⟩ := split_at S (show i - A.length ≤ S.length by omega)
        have hle : ∀ x ∈ S1, key x ≤ key y := fun x hx => by
          obtain ⟨q, hq, rfl⟩ := List.mem_iff_getElem.1 hx
          have := h3 (A.length + q) (by omega) (by omega)
          rw [show A.length + q - A.length = q by omega, getD_l hq] at this
          simp only [Bool.not_eq_true', decide_eq_false_iff_not] at this
          omega
        have hgt : ∀ x ∈ S2, key y < key x := fun x hx => by
          obtain ⟨q, hq, rfl⟩ := List.mem_iff_getElem.1 hx
          have := h4 (A.length + S1.length + q) (by omega) (by simp; omega)
          rw [show A.length + S1.length + q - A.length = S1.length + q by omega, getD_r hq] at this
          simpa using this
        have hres : srt key ((S1 ++ S2) ++ [y]) = S1 ++ y :: S2 := by
          refine (srt_of (Srt.app.2 ⟨(Srt.app.1 hS).1, Srt.cons.2 ⟨fun q hq => Int.le_of_lt (hgt q hq), (Srt.app.1 hS).2.1⟩, fun p hp q hq => ?_⟩) ?_).symm
          · rcases List.mem_cons.1 hq with rfl | hq
            · exact hle p hp
            · exact (Srt.app.1 hS).2.2 p hp q hq
          · have e1 : SEq key (S2 ++ [y]) ([y] ++ S2) := seq_blocks fun a ha b hb => by simp at hb; subst hb; have := hgt a ha; omega
            simpa using (SEq.refl key S1).app e1
        rw [hres]
        have := sm_l3 (A := A ++ S1) (B := B) (x := y) (i := (i : Int)) (X := slices_symMergeCmpFunc_api_Class.j3 (A ++ (S1 ++ y :: S2) ++ B)) S2.length S2 [] rfl (by simp; omega) (by simp at hl ⊢; omega) (by simp [slices_symMergeCmpFunc_api_Class.j3])
        show ∃ k66, slices_symMergeCmpFunc_api_Class.l3 (i : Int) _ k66 _ _
        have e : (((A ++ S1).length + S2.length : Nat) : Int) = ((A.length + (S1 ++ S2).length : Nat) : Int) := by simp; omega
        rw [e] at this
        simpa using this
    · -- both longer
      have hs2 : 2 ≤ S.length := by simp at h1; omega
      have ht2 : 2 ≤ T.length := by simp at h2; omega
      obtain ⟨mid, hmid⟩ : ∃ mid : Nat, mid = (A.length + (A.length + S.length + T.length)) / 2 := ⟨_, rfl⟩
      have hmidI : IntKind.wrap .i64 (shrI (IntKind.wrap .u64 ((A.length : Int) + ((A.length + S.length + T.length : Nat) : Int))) 1) = (mid : Int) := by
        rw [half_of (by omega) (by omega)]; omega
      refine ⟨_, rfl, ?_⟩
      rw [hmidI]
      have main : ∀ (lo hi : Nat), (lo = A.length ∨ lo + (A.length + S.length + T.length) = mid + (A.length + S.length)) → A.length ≤ lo → mid + (A.length + S.length) ≤ lo + (A.length + S.length + T.length) → (hi = mid ∨ hi = A.length + S.length) → hi ≤ mid → hi ≤ A.length + S.length → lo ≤ hi →
          slices_symMergeCmpFunc_api_Class.j8 (slices_symMergeCmpFunc_api_Class.n f) (A ++ S ++ T ++ B) (A.length : Int) ((A.length + S.length : Nat) : Int) ((A.length + S.length + T.length : Nat) : Int) cmp (A ++ srt key (S ++ T) ++ B) (mid : Int) (lo : Int) (hi : Int) := by
        intro lo hi hlo hla hlb hhi hhm hhs hle
        refine ⟨i64_of (by omega) (by omega), ?_⟩
        refine bsearch (P := fun k i j => slices_symMergeCmpFunc_api_Class.l5 (A ++ S ++ T ++ B) ((A.length + S.length : Nat) : Int) cmp (mid : Int) _ k i j) (fun c => !decide (key (T.getD (mid - 1 - c) 0#256) < key (S.getD (c - A.length) 0#256))) lo hi (fun c d h1 h2 h3 h4 => ?_) (fun k i j h1 h2 h3 => ?_) (fun k st h1 h2 h3 h4 => ?_) hle
        · have e1 := gd_le hS (i := c - A.length) (j := d - A.length) (by omega) (by omega)
          have e2 := gd_le hT (i := mid - 1 - d) (j := mid - 1 - c) (by omega) (by omega)
          simp only [Bool.not_eq_true', decide_eq_false_iff_not] at h4 ⊢; omega
        · have hat := atS ((i + j) / 2) (by omega) (by omega)
          have hay := atT (mid + (A.length + S.length) - 1 - (i + j) / 2) (by omega) (by omega)
          rw [show mid + (A.length + S.length) - 1 - (i + j) / 2 - (A.length + S.length) = mid - 1 - (i + j) / 2 by omega] at hay
          have hpc : (mid : Int) + ((A.length + S.length : Nat) : Int) - 1 - (((i + j) / 2 : Nat) : Int) = ((mid + (A.length + S.length) - 1 - (i + j) / 2 : Nat) : Int) := by omega
          have hh : IntKind.wrap .i64 (shrI (IntKind.wrap .u64 ((i : Int) + (j : Int))) 1) = (((i + j) / 2 : Nat) : Int) := by rw [half_of (by omega) (by omega)]; omega
          constructor
          · intro hp hk
            refine ⟨fun _ => ⟨i64_of (by omega) (by omega), _, rfl, ?_⟩, fun h => absurd (by omega) (df0 h)⟩
            rw [hh, hpc]
            refine ⟨i64_of (by omega) (by omega), _, hay, _, hat, _, hc _ _, fun _ => ⟨i64_of (by omega) (by omega), by simpa using hk⟩, fun h => ?_⟩
            exfalso; simp only [Bool.not_eq_true', Bool.not_eq_false', decide_eq_true_eq, decide_eq_false_iff_not] at h hp; omega
          · intro hp hk
            refine ⟨fun _ => ⟨i64_of (by omega) (by omega), _, rfl, ?_⟩, fun h => absurd (by omega) (df0 h)⟩
            rw [hh, hpc]
            refine ⟨i64_of (by omega) (by omega), _, hay, _, hat, _, hc _ _, fun h => ?_, fun _ => hk⟩
            exfalso; simp only [Bool.not_eq_true', Bool.not_eq_false', decide_eq_true_eq, decide_eq_false_iff_not] at h hp; omega
        · refine ⟨fun h => absurd (dt0 h) (by omega), fun _ => ?_⟩
          obtain ⟨S1, S2, rfl, hS1⟩ := split_at S (show st - A.length ≤ S.length by omega)
          obtain ⟨T1, T2, rfl, hT1⟩ := split_at T (show mid - st ≤ T.length by omega)
          simp only [List.length_append] at hmid hs2 ht2 hlo hla hlb hhi hhm hhs hf hl hS1 hT1 ⊢
          refine sym_j7 (key := key) ih hS hT hlen (fun t ht s hs => ?_) (fun s hs t ht => ?_) (by omega) (by omega) (by omega) (by omega) (by omega) (by omega)
          · -- what stands ahead of the middle behind is less
            have hs2 : 0 < S2.length := List.length_pos_iff.2 (List.ne_nil_of_mem hs)
            have ht1 : 0 < T1.length := List.length_pos_iff.2 (List.ne_nil_of_mem ht)
            obtain ⟨q, hq, rfl⟩ := List.mem_iff_getElem.1 ht
            obtain ⟨r, hr, rfl⟩ := List.mem_iff_getElem.1 hs
            have hp := h4 st (Nat.le_refl _) (by omega)
            rw [show mid - 1 - st = T1.length - 1 by omega, show st - A.length = S1.length + 0 by omega, getD_l (by omega), getD_r hs2] at hp
            have e1 := srt_le (Srt.app.1 hT).1 (i := q) (j := T1.length - 1) (by omega) (by omega)
            have e2 := srt_le (Srt.app.1 hS).2.1 (i := 0) (j := r) (by omega) hr
            simp only [Bool.not_eq_false', decide_eq_true_eq] at hp
            omega
          · have hs1 : 0 < S1.length := List.length_pos_iff.2 (List.ne_nil_of_mem hs)
            have ht2 : 0 < T2.length := List.length_pos_iff.2 (List.ne_nil_of_mem ht)
            obtain ⟨q, hq, rfl⟩ := List.mem_iff_getElem.1 ht
            obtain ⟨r, hr, rfl⟩ := List.mem_iff_getElem.1 hs
            have hp := h3 (st - 1) (by omega) (by omega)
            rw [show mid - 1 - (st - 1) = T1.length + 0 by omega, show st - 1 - A.length = S1.length - 1 by omega, getD_r ht2, getD_l (X := S1) (q := S1.length - 1) (by omega)] at hp
            have e1 := srt_le (Srt.app.1 hT).2.1 (i := 0) (j := q) (by omega) hq
            have e2 := srt_le (Srt.app.1 hS).1 (i := r) (j := S1.length - 1) (by omega) (by omega)
            simp only [Bool.not_eq_true', decide_eq_false_iff_not] at hp
            omega
      refine ⟨i64_of (by omega) (by omega), fun h => ⟨i64_of (by omega) (by omega), ?_⟩, fun h => ?_⟩
      · have hlt : mid < A.length + S.length := by have := dt0 h; omega
        have := main (mid + (A.length + S.length) - (A.length + S.length + T.length)) mid (by omega) (by omega) (by omega) (.inl rfl) (Nat.le_refl _) (by omega) (by omega)
        rw [show ((mid + (A.length + S.length) - (A.length + S.length + T.length) : Nat) : Int) = (mid : Int) + ((A.length + S.length : Nat) : Int) - ((A.length + S.length + T.length : Nat) : Int) by omega] at this
        exact this
      · have hge : ¬ mid < A.length + S.length := by have := df0 h; omega
        exact main A.length (A.length + S.length) (.inl rfl) (Nat.le_refl _) (by omega) (.inr rfl) (by omega) (Nat.le_refl _) (by omega)
end Go.Proofs.Ytkdbiiollbeoeaa.V
