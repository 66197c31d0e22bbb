/-
  What the document's calls on classes answer: the printed relations hold of the plain answers.
-/
import Derived.Test.YtkdbiiollbeoeaaP1
namespace Go.Proofs.Ytkdbiiollbeoeaa.V
open Go
set_option linter.unusedVariables false

theorem ref01_Of_l2 {l : List Bool} (hl : l.length = 256) {w : Nat} (hw : w < 4) {X : Cl → Prop} {s : Cl} (h0 : s.word w = 0) (hX : ∀ t : Cl, (∀ j, j < 4 → t.word j = if j = w then bitsOf (fun j => l.getD (64 * w + j) false) 64 else s.word j) → X t) :
    ∃ k, ref01_Of.l2 l (w : Int) X k s 1 0 := by
  refine upto (P := fun k (s : Cl × Int) v => ref01_Of.l2 l (w : Int) X k s.1 s.2 v) 64
    (fun i t => (∀ j, j < 4 → t.1.word j = if j = w then bitsOf (fun j => l.getD (64 * w + j) false) i else s.word j) ∧ t.2 = ((2 ^ i % 2 ^ 64 : Nat) : Int)) ?_ ?_ (s, 1) ?_
  · rintro i ⟨t, b⟩ hi ⟨h1, h2⟩
    simp only at h1 h2
    subst h2
    have hb := bitsOf_lt (fun j => l.getD (64 * w + j) false) (i + 1)
    have hp : 2 ^ (i + 1) ≤ 2 ^ 64 := Nat.pow_le_pow_right (by omega) (by omega)
    have hp2 : 2 ^ i < 2 ^ 64 := Nat.pow_lt_pow_right (by omega) hi
    have hbit : IntKind.wrap .u64 (((2 ^ i % 2 ^ 64 : Nat) : Int) * 2) = ((2 ^ (i + 1) % 2 ^ 64 : Nat) : Int) := by
      rw [wrap_u64, Nat.mod_eq_of_lt hp2, Nat.pow_succ]; omega
    have hat : at? l (64 * (w : Int) + (i : Int)) = some (l.getD (64 * w + i) false) := by
      rw [show (64 * (w : Int) + (i : Int)) = ((64 * w + i : Nat) : Int) by omega, at_nat, List.getElem?_eq_getElem (by omega)]
      simp [List.getD, List.getElem?_eq_getElem (show 64 * w + i < l.length by omega)]
    cases he : l.getD (64 * w + i) false
    · refine .inr ⟨(t, ((2 ^ (i + 1) % 2 ^ 64 : Nat) : Int)), ⟨fun j hj => ?_, rfl⟩, fun k h => ⟨fun _ => ⟨i64_of (by omega) (by omega), i64_of (by omega) (by omega), _, hat, fun hc => (by rw [he] at hc; cases hc), fun _ => ⟨i64_of (by omega) (by omega), ?_⟩⟩, fun h => absurd (by omega) (df h)⟩⟩
      · simp only
        rw [h1 j hj]
        split
        · simp only [bitsOf, he, cond_false]
        · rfl
      · rw [hbit]; exact h
    · refine .inr ⟨(t.setw (w : Int) ((bitsOf (fun j => l.getD (64 * w + j) false) (i + 1) : Nat) : Int), ((2 ^ (i + 1) % 2 ^ 64 : Nat) : Int)), ⟨fun j hj => ?_, rfl⟩, fun k h => ⟨fun _ => ⟨i64_of (by omega) (by omega), i64_of (by omega) (by omega), _, hat, fun _ => ⟨⟨by omega, by omega⟩, ⟨by omega, by omega⟩, i64_of (by omega) (by omega), ?_⟩, fun hc => (by rw [he] at hc; cases hc)⟩, fun h => absurd (by omega) (df h)⟩⟩
      · simp only
        rw [setw_word (by rw [Int.toNat_natCast]; omega) j hj, Int.toNat_natCast]
        split
        · rfl
        · rename_i e; rw [h1 j hj, if_neg e]
      · have hww : (Cl.w t (w : Int)) = ((bitsOf (fun j => l.getD (64 * w + j) false) i : Nat) : Int) := by
          show ((t.word ((w : Int).toNat) : Nat) : Int) = _
          rw [Int.toNat_natCast, h1 w hw, if_pos rfl]
        have hsum : IntKind.wrap .u64 (Cl.w t (w : Int) + ((2 ^ i % 2 ^ 64 : Nat) : Int)) = ((bitsOf (fun j => l.getD (64 * w + j) false) (i + 1) : Nat) : Int) := by
          have e2 : bitsOf (fun j => l.getD (64 * w + j) false) (i + 1) = 2 ^ i + bitsOf (fun j => l.getD (64 * w + j) false) i := by simp only [bitsOf, he, cond_true]
          rw [hww, wrap_u64, Nat.mod_eq_of_lt hp2]
          omega
        rw [hbit, hsum]; exact h
  · rintro ⟨t, b⟩ ⟨h1, _⟩ k
    exact ⟨fun h => absurd (dt h) (by omega), fun _ => hX t h1⟩
  · refine ⟨fun j hj => ?_, by rfl⟩
    split
    · rename_i e; subst e; simpa [bitsOf] using h0
    · rfl

theorem ofL_word {l : List Bool} {w : Nat} (hw : w < 4) : (Cl.ofL l).word w = bitsOf (fun j => l.getD (64 * w + j) false) 64 := by
  refine word_of_bits hw (bitsOf_lt _ 64) fun j hj => ?_
  rw [has_ofL (by omega), bitsOf_bit]
  simp [hj]

theorem ref01_Of_in {l : List Bool} (hl : l.length = 256) : ref01_Of l (Cl.ofL l) := by
  refine upto (P := fun k (s : Cl) v => ref01_Of.l1 l _ k s v) 4 (fun i s => ∀ j, j < 4 → s.word j = if j < i then (Cl.ofL l).word j else 0) ?_ ?_ _ ?_
  · intro i s hi h
    refine .inr ⟨Cl.ofWords (if 0 < i + 1 then (Cl.ofL l).word 0 else 0) (if 1 < i + 1 then (Cl.ofL l).word 1 else 0) (if 2 < i + 1 then (Cl.ofL l).word 2 else 0) (if 3 < i + 1 then (Cl.ofL l).word 3 else 0), ?_, fun k hk => ⟨fun _ => ?_, fun h => absurd (by omega) (df h)⟩⟩
    · have hb : ∀ (c : Prop) [Decidable c] (k : Nat), (if c then (Cl.ofL l).word k else 0) < 2 ^ 64 := fun c _ k => by
        split
        · exact Cl.word_lt _ _
        · omega
      obtain ⟨e0, e1, e2, e3⟩ := Cl.ofWords_word (hb (0 < i + 1) 0) (hb (1 < i + 1) 1) (hb (2 < i + 1) 2) (hb (3 < i + 1) 3)
      intro j hj
      match j, hj with
      | 0, _ => exact e0
      | 1, _ => exact e1
      | 2, _ => exact e2
      | 3, _ => exact e3
    · refine ref01_Of_l2 hl hi (by rw [h i hi, if_neg (by omega)]) fun t ht => ?_
      refine ⟨i64_of (by omega) (by omega), ?_⟩
      have hb : ∀ (c : Prop) [Decidable c] (k : Nat), (if c then (Cl.ofL l).word k else 0) < 2 ^ 64 := fun c _ k => by
        split
        · exact Cl.word_lt _ _
        · omega
      obtain ⟨e0, e1, e2, e3⟩ := Cl.ofWords_word (hb (0 < i + 1) 0) (hb (1 < i + 1) 1) (hb (2 < i + 1) 2) (hb (3 < i + 1) 3)
      have key : ∀ j, j < 4 → t.word j = if j < i + 1 then (Cl.ofL l).word j else 0 := fun j hj => by
        rw [ht j hj]
        by_cases e : j = i
        · subst e; rw [if_pos rfl, if_pos (by omega), ofL_word hj]
        · rw [if_neg e, h j hj]
          by_cases e2 : j < i
          · rw [if_pos e2, if_pos (by omega)]
          · rw [if_neg e2, if_neg (by omega)]
      have : t = _ := Cl.ext_words (x := t) (y := Cl.ofWords (if 0 < i + 1 then (Cl.ofL l).word 0 else 0) (if 1 < i + 1 then (Cl.ofL l).word 1 else 0) (if 2 < i + 1 then (Cl.ofL l).word 2 else 0) (if 3 < i + 1 then (Cl.ofL l).word 3 else 0)) fun j hj => by
        rw [key j hj]
        match j, hj with
        | 0, _ => exact e0.symm
        | 1, _ => exact e1.symm
        | 2, _ => exact e2.symm
        | 3, _ => exact e3.symm
      rw [this]; exact hk
  · intro s h k
    refine ⟨fun h => absurd (dt h) (by omega), fun _ => ?_⟩
    show Cl.ofL l = s
    exact Cl.ext_words fun j hj => by rw [h j hj, if_pos hj]
  · intro j hj
    simp [Cl.word]

theorem ofL_set {l : List Bool} {f : Nat → Bool} (h : ∀ n, n < 256 → l[n]? = some (f n)) : Cl.ofL l = Cl.of f := by
  apply Cl.ext
  intro c hc
  rw [has_ofL hc, Cl.of_has _ hc]
  simp [List.getD, h c hc]
theorem len_of {l : List Bool} {f : Nat → Bool} (h : ∀ n, n < 256 → l[n]? = some (f n)) (h2 : l.length ≤ 256) : l.length = 256 := by
  have := (List.getElem?_eq_some_iff.1 (h 255 (by omega))).1
  omega

theorem ref01_Row_in {f t : Int} (hf : InR .u8 f) (ht : InR .u8 t) : ref01_Row f t (Cl.row f t) := by
  obtain ⟨f, hf1, rfl⟩ := u8_of hf
  obtain ⟨t, ht1, rfl⟩ := u8_of ht
  refine run (P := fun k (s : List Bool × Int) => ref01_Row.l1 (t : Int) _ k s.1 s.2)
    (fun s => s.1.length = 256 ∧ ∃ i : Nat, s.2 = i ∧ f ≤ i ∧ (i ≤ t + 1 ∨ i = f) ∧ ∀ n, n < 256 → s.1[n]? = some (decide (f ≤ n) && decide (n < i))) (fun s => 257 - s.2.toNat) ?_ (List.replicate 256 false, (f : Int)) ?_
  · rintro ⟨l, i'⟩ ⟨hl, i, hi, h1, h2, h3⟩
    simp only at hl hi h3
    subst hi
    by_cases hc : i ≤ t
    · refine .inr ⟨(l.set i true, ((i + 1 : Nat) : Int)), ⟨by simpa using hl, i + 1, rfl, by omega, by omega, fun n hn => ?_⟩, ?_, fun k h => ⟨fun _ => ⟨l[i]'(by omega), by rw [at_nat]; exact List.getElem?_eq_getElem (by show i < l.length; omega), i64_of (by simp only; omega) (by simp only; omega), ?_⟩, fun h => absurd (by show (i : Int) ≤ (t : Int); omega) (df h)⟩⟩
      · simp only [List.getElem?_set]
        split
        · rename_i e; subst e; simp [show i < l.length by omega, h1]
        · rename_i e
          rw [h3 n hn]; congr 2; apply decide_eq_decide.2; omega
      · simp only [Int.toNat_natCast]; omega
      · simpa using h
    · refine .inl fun k => ⟨fun h => absurd (dt h) (by simp only; omega), fun _ => ⟨Cl.ofL l, ref01_Of_in hl, ?_⟩⟩
      rw [ofL_set h3]
      apply Cl.ext
      intro c hc2
      rw [has_row hc2, Cl.of_has _ hc2]
      by_cases e : f ≤ c
      · have e3 : (decide (c < i) : Bool) = decide (c ≤ t) := decide_eq_decide.2 (by omega)
        rw [e3]
        congr 1
        · apply decide_eq_decide.2; omega
        · apply decide_eq_decide.2; omega
      · rw [decide_eq_false (show ¬ (f : Int) ≤ (c : Int) by omega), decide_eq_false e]
        simp
  · refine ⟨List.length_replicate, f, rfl, Nat.le_refl _, by omega, fun n hn => ?_⟩
    show (List.replicate 256 false)[n]? = _
    rw [List.getElem?_replicate, if_pos hn]
    by_cases e : f ≤ n
    · simp [show ¬ n < f by omega]
    · simp [e]

/-- A loop over the 256 places of a list, each turned once. -/
theorem list_up {P : Nat → List Bool → Int → Prop} {a : Cl} (g : Nat → Bool)
    (hs : ∀ k (i : Nat) (l : List Bool), i < 256 → l.length = 256 → at? l (i : Int) = some (a.has i) → P k (l.set ((i : Int)).toNat (g i)) ((i : Int) + 1) → P (k + 1) l (i : Int))
    (hx : ∀ k (l : List Bool), l.length = 256 → Cl.ofL l = Cl.of g → P (k + 1) l 256) : ∃ k, P k a.list 0 := by
  refine upto (P := P) 256 (fun i l => l.length = 256 ∧ ∀ n, n < 256 → l[n]? = some (if n < i then g n else a.has n)) ?_ ?_ a.list ⟨list_len, fun n hn => by simpa using list_get hn⟩
  · rintro i l hi ⟨hl, h⟩
    refine .inr ⟨l.set ((i : Int)).toNat (g i), ⟨by simpa using hl, fun n hn => ?_⟩, fun k hk => hs k i l hi hl (by rw [at_nat, h i hi]; simp) hk⟩
    rw [Int.toNat_natCast, List.getElem?_set]
    split
    · rename_i e; subst e; simp [hl, hi]
    · rename_i e
      rw [h n hn]
      congr 1
      by_cases e2 : n < i
      · rw [if_pos e2, if_pos (by omega)]
      · rw [if_neg e2, if_neg (by omega)]
  · rintro l ⟨hl, h⟩ k
    exact hx k l hl (ofL_set fun n hn => by rw [h n hn, if_pos hn])

theorem ref01_Not_in {a : Cl} : ref01_Not a (~~~ a) := by
  refine ⟨a.list, ref01_List_in, ?_⟩
  refine list_up (P := fun k l v => ref01_Not.l1 _ k l v) (fun n => !a.has n) (fun k i l hi hl he h => ?_) (fun k l hl he => ?_)
  · exact ⟨fun _ => ⟨_, he, _, he, i64_of (by omega) (by omega), h⟩, fun h => absurd (by omega) (df h)⟩
  · refine ⟨fun h => absurd (dt h) (by omega), fun _ => ⟨_, ref01_Of_in hl, ?_⟩⟩
    rw [he]
    apply Cl.ext
    intro c hc
    rw [has_not hc, Cl.of_has _ hc]
theorem ref01_Join_in {a b : Cl} : ref01_Join a b (a ||| b) := by
  refine ⟨a.list, ref01_List_in, b.list, ref01_List_in, ?_⟩
  refine list_up (P := fun k l v => ref01_Join.l1 b.list _ k l v) (fun n => a.has n || b.has n) (fun k i l hi hl he h => ?_) (fun k l hl he => ?_)
  · exact ⟨fun _ => ⟨_, he, _, fun _ => by rw [at_nat]; exact list_get hi, _, he, i64_of (by omega) (by omega), h⟩, fun h => absurd (by omega) (df h)⟩
  · refine ⟨fun h => absurd (dt h) (by omega), fun _ => ⟨_, ref01_Of_in hl, ?_⟩⟩
    rw [he]
    apply Cl.ext
    intro c hc
    rw [has_or, Cl.of_has _ hc]
theorem ref01_Both_in {a b : Cl} : ref01_Both a b (a &&& b) := by
  refine ⟨a.list, ref01_List_in, b.list, ref01_List_in, ?_⟩
  refine list_up (P := fun k l v => ref01_Both.l1 b.list _ k l v) (fun n => a.has n && b.has n) (fun k i l hi hl he h => ?_) (fun k l hl he => ?_)
  · exact ⟨fun _ => ⟨_, he, _, fun _ => by rw [at_nat]; exact list_get hi, _, he, i64_of (by omega) (by omega), h⟩, fun h => absurd (by omega) (df h)⟩
  · refine ⟨fun h => absurd (dt h) (by omega), fun _ => ⟨_, ref01_Of_in hl, ?_⟩⟩
    rw [he]
    apply Cl.ext
    intro c hc
    rw [has_and, Cl.of_has _ hc]
end Go.Proofs.Ytkdbiiollbeoeaa.V
