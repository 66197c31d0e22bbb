/-
  What the calls on classes answer: the printed relations hold of the plain answers.
-/
import Derived.Test.YtkdbiiollbeoeaaR01
import Derived.Test.YtkdbiiollbeoeaaC1
namespace Go.Proofs.Ytkdbiiollbeoeaa.V
open Go
set_option linter.unusedVariables false

theorem dt {p : Prop} [Decidable p] (h : decide p = true) : p := of_decide_eq_true h
theorem df {p : Prop} [Decidable p] (h : decide p = false) : ¬ p := of_decide_eq_false h

theorem class_Has_in {a : Cl} {n : Nat} (hn : n < 256) : class_Has a (n : Int) (a.has n) := by
  refine ⟨⟨by omega, by omega⟩, _, rfl, ?_⟩
  rw [show ((n : Int) / 64) = ((n / 64 : Nat) : Int) by omega, show ((n : Int) % 64) = ((n % 64 : Nat) : Int) by omega]
  show _ = (andI (shrI (((a.word ((n / 64 : Nat) : Int).toNat) : Nat) : Int) _) 1 == 1)
  rw [Int.toNat_natCast, shr_bit (Nat.mod_lt _ (by omega)), has_w hn]
theorem class_Has_u8 {a : Cl} {c : Int} (hc : InR .u8 c) : class_Has a c (a.has c.toNat) := by
  obtain ⟨n, hn, rfl⟩ := u8_of hc
  simpa using class_Has_in (a := a) hn
theorem class_Has_mod {a : Cl} {i : Nat} (hi : i < 256) : class_Has a ((i : Int) % 256) (a.has i) := by
  rw [show ((i : Int) % 256) = (i : Int) by omega]; exact class_Has_in hi

theorem class_Add_in {a : Cl} {l : List Int} (hl : ∀ x ∈ l, InR .u8 x) (hn : l.length < 9223372036854775807) : class_Add a l (a.addL l) := by
  refine upto (P := fun k (s : Cl) v => class_Add.l1 l _ k s v) l.length (fun i s => s = a.addL (l.take i)) ?_ ?_ a (by simp [Cl.addL])
  · rintro i s hi rfl
    refine .inr ⟨a.addL (l.take (i + 1)), rfl, fun k h => ?_⟩
    refine ⟨fun _ => ?_, fun h => absurd (by omega) (df h)⟩
    obtain ⟨n, hn, he⟩ := u8_of (hl l[i] (List.getElem_mem hi))
    refine ⟨l[i], by rw [at_nat]; simp [hi], ?_, ?_, i64_of (by omega) (by omega), ?_⟩
    · rw [he]; omega
    · rw [he]; omega
    · rw [he, show ((n : Int) / 64) = ((n / 64 : Nat) : Int) by omega, show ((n : Int) % 64) = ((n % 64 : Nat) : Int) by omega, put_words hn]
      have : (a.addL (l.take i)).put n = a.addL (l.take (i + 1)) := by
        rw [List.take_succ_eq_append_getElem hi]
        simp [Cl.addL, he]
      rw [this]; exact h
  · rintro s rfl k
    exact ⟨fun h => absurd (dt h) (by omega), fun _ => by simp [class_Add.j1]⟩

theorem class_Of_in {f t : Int} : class_Of f t (Cl.row f t) := by
  refine upto (P := fun k (s : Cl) v => class_Of.l1 f t _ k s v) 256 (fun i s => ∀ n, n < 256 → s.has n = (decide (n < i) && (Cl.row f t).has n)) ?_ ?_ _ (by intro n _; simp [has_zero])
  · intro i s hi hs
    refine .inr ⟨if (decide (f ≤ (i : Int)) && decide ((i : Int) ≤ t)) = true then s.put i else s, ?_, fun k h => ?_⟩
    · intro n hn
      split
      · rename_i hc
        rw [has_put hi, hs n hn, has_row hn]
        by_cases e : i = n
        · subst e; simp [hc]
        · simp only [e, decide_false, Bool.or_false]
          congr 1
          apply decide_eq_decide.2; omega
      · rename_i hc
        rw [hs n hn, has_row hn]
        by_cases e : i = n
        · subst e; simp [hc]
        · congr 1
          apply decide_eq_decide.2; omega
    · refine ⟨fun _ => ?_, fun h => absurd (by omega) (df h)⟩
      rw [show ((i : Int) % 256) = i by omega]
      refine ⟨_, rfl, fun hc => ?_, fun hc => ?_⟩
      · rw [if_pos hc] at h
        refine ⟨s.put i, ?_, i64_of (by omega) (by omega), h⟩
        have := class_Add_in (a := s) (l := [(i : Int)]) (by simpa using u8_nat hi) (by simp)
        simpa [Cl.addL] using this
      · rw [if_neg (by simp [hc])] at h
        exact ⟨i64_of (by omega) (by omega), h⟩
  · intro s hs k
    refine ⟨fun h => absurd (dt h) (by omega), fun _ => ?_⟩
    show Cl.row f t = s
    apply Cl.ext
    intro c hc
    rw [hs c hc]; simp [hc]

theorem class_Least_in {a : Cl} : class_Least a a.least := by
  refine upto (P := fun k (_ : Unit) v => class_Least.l1 a a.least _ k v) 256 (fun i _ => ∀ m, m < i → a.has m = false) ?_ ?_ () (by intro m hm; omega)
  · intro i s hi hs
    cases hc : a.has i
    · refine .inr ⟨(), fun m hm => ?_, fun k h => ⟨fun _ => ⟨a.has i, class_Has_mod hi, fun h2 => by simp [hc] at h2, fun _ => ⟨i64_of (by omega) (by omega), h⟩⟩, fun h => absurd (by omega) (df h)⟩⟩
      by_cases e : m = i
      · subst e; exact hc
      · exact hs m (by omega)
    · refine .inl fun k => ⟨fun _ => ⟨a.has i, class_Has_mod hi, fun _ => ?_, fun h2 => by simp [hc] at h2⟩, fun h => absurd (by omega) (df h)⟩
      rw [show ((i : Int) % 256) = i by omega]
      exact least_of hi hc hs
  · intro s hs k
    exact ⟨fun h => absurd (dt h) (by omega), fun _ => by first | exact least_of_none hs | (show class_Least.j1 _ _; exact least_of_none hs)⟩

theorem class_Count_in {a : Cl} : class_Count a (a.count : Int) := by
  refine upto (P := fun k (s : Int) v => class_Count.l1 a _ k s v) 256 (fun i s => s = (((List.range i).countP a.has : Nat) : Int)) ?_ ?_ _ (by simp)
  · rintro i s hi rfl
    have hle := List.countP_le_length (l := List.range i) (p := a.has)
    simp only [List.length_range] at hle
    refine .inr ⟨_, rfl, fun k h => ⟨fun _ => ⟨a.has i, class_Has_mod hi, fun hc => ?_, fun hc => ?_⟩, fun h => absurd (by omega) (df h)⟩⟩
    · rw [List.range_succ, List.countP_append, List.countP_singleton, hc] at h
      exact ⟨i64_of (by omega) (by omega), i64_of (by omega) (by omega), by simpa using h⟩
    · rw [List.range_succ, List.countP_append, List.countP_singleton, hc] at h
      exact ⟨i64_of (by omega) (by omega), by simpa using h⟩
  · rintro s rfl k
    exact ⟨fun h => absurd (dt h) (by omega), fun _ => rfl⟩

/-- A loop that turns the four words, one by one. -/
theorem words_up {P : Nat → Cl → Int → Prop} {a r : Cl} (g : Nat → Nat → Nat)
    (hr : ∀ i, i < 4 → r.word i = g i (a.word i))
    (hs : ∀ k (i : Nat) (s : Cl) (v : Int), i < 4 → s.word i = a.word i → v = ((g i (a.word i) : Nat) : Int) → P k (s.setw (i : Int) v) ((i : Int) + 1) → P (k + 1) s (i : Int))
    (hx : ∀ k, P (k + 1) r 4) : ∃ k, P k a 0 := by
  refine upto (P := P) 4 (fun i s => ∀ j, j < 4 → s.word j = if j < i then r.word j else a.word j) ?_ ?_ a (by intro j hj; simp)
  · intro i s hi h
    have hv : ((g i (a.word i) : Nat) : Int).toNat < 2 ^ 64 := by rw [Int.toNat_natCast, ← hr i hi]; exact r.word_lt i
    refine .inr ⟨s.setw (i : Int) ((g i (a.word i) : Nat) : Int), fun j hj => ?_, fun k hk => hs k i s _ hi (by rw [h i hi]; simp) rfl hk⟩
    rw [setw_word hv j hj, h j hj]
    by_cases e : j = i
    · subst e; simp [hr j hj]
    · rw [if_neg e]
      by_cases e2 : j < i
      · rw [if_pos e2, if_pos (by omega)]
      · rw [if_neg e2, if_neg (by omega)]
  · intro s h k
    have : s = r := Cl.ext_words fun i hi => by rw [h i hi, if_pos hi]
    subst this
    exact hx k

theorem word_of_bits {r : Cl} {i v : Nat} (hi : i < 4) (hv : v < 2 ^ 64) (h : ∀ j, j < 64 → r.has (64 * i + j) = v.testBit j) : r.word i = v := by
  apply Nat.eq_of_testBit_eq
  intro j
  rw [Cl.word_bit]
  by_cases hj : j < 64
  · simp [hj, h j hj]
  · have : v < 2 ^ j := Nat.lt_of_lt_of_le hv (Nat.pow_le_pow_right (by omega) (by omega))
    simp [hj, Nat.testBit_lt_two_pow this]

theorem class_Join_in {a b : Cl} : class_Join a b (a ||| b) := by
  refine words_up (P := fun k s v => class_Join.l1 b _ k s v) (a := a) (r := a ||| b) (fun i w => w ||| b.word i) (fun i hi => ?_) (fun k i s v hi hw hv h => ?_) (fun k => ?_)
  · refine word_of_bits hi (Nat.or_lt_two_pow (a.word_lt i) (b.word_lt i)) fun j hj => ?_
    rw [has_or, Nat.testBit_or, Cl.word_bit, Cl.word_bit]; simp [hj]
  · refine ⟨fun _ => ⟨⟨by omega, by omega⟩, ⟨by omega, by omega⟩, ⟨by omega, by omega⟩, i64_of (by omega) (by omega), ?_⟩, fun h => absurd (by omega) (df h)⟩
    rw [show orI (Cl.w s (i : Int)) (Cl.w b (i : Int)) = v by rw [hv]; unfold orI; rw [w_nat, w_nat, Int.toNat_natCast, hw]]
    exact h
  · exact ⟨fun h => absurd (dt h) (by omega), fun _ => rfl⟩
theorem class_Both_in {a b : Cl} : class_Both a b (a &&& b) := by
  refine words_up (P := fun k s v => class_Both.l1 b _ k s v) (a := a) (r := a &&& b) (fun i w => w &&& b.word i) (fun i hi => ?_) (fun k i s v hi hw hv h => ?_) (fun k => ?_)
  · refine word_of_bits hi (Nat.and_lt_two_pow _ (b.word_lt i)) fun j hj => ?_
    rw [has_and, Nat.testBit_and, Cl.word_bit, Cl.word_bit]; simp [hj]
  · refine ⟨fun _ => ⟨⟨by omega, by omega⟩, ⟨by omega, by omega⟩, ⟨by omega, by omega⟩, i64_of (by omega) (by omega), ?_⟩, fun h => absurd (by omega) (df h)⟩
    rw [show andI (Cl.w s (i : Int)) (Cl.w b (i : Int)) = v by rw [hv]; unfold andI; rw [w_nat, w_nat, Int.toNat_natCast, hw]]
    exact h
  · exact ⟨fun h => absurd (dt h) (by omega), fun _ => rfl⟩
theorem class_Not_in {a : Cl} : class_Not a (~~~ a) := by
  refine words_up (P := fun k s v => class_Not.l1 _ k s v) (a := a) (r := ~~~ a) (fun i w => 18446744073709551615 ^^^ w) (fun i hi => ?_) (fun k i s v hi hw hv h => ?_) (fun k => ?_)
  · refine word_of_bits hi (Nat.xor_lt_two_pow (by omega) (a.word_lt i)) fun j hj => ?_
    rw [has_not (by omega), Nat.testBit_xor, Cl.word_bit, show 18446744073709551615 = 2 ^ 64 - 1 by rfl, Nat.testBit_two_pow_sub_one]; simp [hj]
  · refine ⟨fun _ => ⟨⟨by omega, by omega⟩, ⟨by omega, by omega⟩, i64_of (by omega) (by omega), ?_⟩, fun h => absurd (by omega) (df h)⟩
    rw [show xorI 18446744073709551615 (Cl.w s (i : Int)) = v by rw [hv]; unfold xorI; rw [w_nat, Int.toNat_natCast, hw]; rfl]
    exact h
  · exact ⟨fun h => absurd (dt h) (by omega), fun _ => rfl⟩

/-! ### the document's classes -/
theorem ref01_Has_in {a : Cl} {n : Nat} (hn : n < 256) : ref01_Has a (n : Int) (a.has n) := by
  refine ⟨by omega, ⟨by omega, by omega⟩, ?_⟩
  have hw : Cl.w a ((n : Int) / 64) = ((a.word (n / 64) : Nat) : Int) := by
    rw [show ((n : Int) / 64) = ((n / 64 : Nat) : Int) by omega]; rfl
  rw [hw]
  refine upto (P := fun k (s : Int) v => ref01_Has.l1 (n : Int) _ k s v) (n % 64) (fun i s => s = ((a.word (n / 64) / 2 ^ i : Nat) : Int)) ?_ ?_ _ (by simp)
  · rintro i s hi rfl
    refine .inr ⟨_, rfl, fun k h => ⟨by omega, fun _ => ⟨i64_of (by omega) (by omega), ?_⟩, fun h => absurd (by omega) (df h)⟩⟩
    rw [Nat.pow_succ, ← Nat.div_div_eq_div_mul, Int.natCast_ediv] at h
    exact h
  · rintro s rfl k
    refine ⟨by omega, fun h => absurd (dt h) (by omega), fun _ => ?_⟩
    show a.has n = _
    rw [has_w hn, Nat.testBit_eq_decide_div_mod_eq]
    rcases Nat.mod_two_eq_zero_or_one (a.word (n / 64) / 2 ^ (n % 64)) with h | h
    · rw [h, show (((a.word (n / 64) / 2 ^ (n % 64) : Nat) : Int) % 2) = 0 by omega]; rfl
    · rw [h, show (((a.word (n / 64) / 2 ^ (n % 64) : Nat) : Int) % 2) = 1 by omega]; rfl
theorem ref01_Has_mod {a : Cl} {i : Nat} (hi : i < 256) : ref01_Has a ((i : Int) % 256) (a.has i) := by
  rw [show ((i : Int) % 256) = (i : Int) by omega]; exact ref01_Has_in hi
theorem ref01_Has_u8 {a : Cl} {c : Int} (hc : InR .u8 c) : ref01_Has a c (a.has c.toNat) := by
  obtain ⟨n, hn, rfl⟩ := u8_of hc
  simpa using ref01_Has_in (a := a) hn

theorem ref01_Least_in {a : Cl} : ref01_Least a a.least := by
  refine upto (P := fun k (_ : Unit) v => ref01_Least.l1 a a.least _ k v) 256 (fun i _ => ∀ m, m < i → a.has m = false) ?_ ?_ () (by intro m hm; omega)
  · intro i s hi hs
    cases hc : a.has i
    · refine .inr ⟨(), fun m hm => ?_, fun k h => ⟨fun _ => ⟨a.has i, ref01_Has_mod hi, fun h2 => by simp [hc] at h2, fun _ => ⟨i64_of (by omega) (by omega), h⟩⟩, fun h => absurd (by omega) (df h)⟩⟩
      by_cases e : m = i
      · subst e; exact hc
      · exact hs m (by omega)
    · refine .inl fun k => ⟨fun _ => ⟨a.has i, ref01_Has_mod hi, fun _ => ?_, fun h2 => by simp [hc] at h2⟩, fun h => absurd (by omega) (df h)⟩
      rw [show ((i : Int) % 256) = i by omega]
      exact least_of hi hc hs
  · intro s hs k
    exact ⟨fun h => absurd (dt h) (by omega), fun _ => by first | exact least_of_none hs | (show ref01_Least.j1 _ _; exact least_of_none hs)⟩

theorem ref01_List_in {a : Cl} : ref01_List a a.list := by
  refine upto (P := fun k (s : List Bool) v => ref01_List.l1 a _ k s v) 256 (fun i s => s = (List.range i).map a.has) ?_ ?_ _ (by simp)
  · rintro i s hi rfl
    refine .inr ⟨_, rfl, fun k h => ⟨fun _ => ⟨a.has i, ref01_Has_mod hi, by simp; omega, i64_of (by omega) (by omega), ?_⟩, fun h => absurd (by omega) (df h)⟩⟩
    rw [List.range_succ, List.map_append] at h
    exact h
  · rintro s rfl k
    exact ⟨fun h => absurd (dt h) (by omega), fun _ => rfl⟩
end Go.Proofs.Ytkdbiiollbeoeaa.V
