/-
  The laws of classes answer true.
-/
import Derived.Test.YtkdbiiollbeoeaaP2
import Derived.KernelRfl
namespace Go.Proofs.Ytkdbiiollbeoeaa.V
open Go
set_option linter.unusedVariables false

theorem awake01 : law01_awake true := by
  refine ⟨_, class_Of_in, _, class_Least_in, _, class_Least_in, _, class_Count_in, _, fun _ => class_Has_u8 (by decide), _, fun _ => class_Has_u8 (by decide), _, rfl, _, fun _ => class_Not_in, _, fun _ => class_Count_in, _, fun _ => class_Of_in, _, rfl,
    _, fun _ => class_Add_in (by decide) (by decide), _, rfl, _, fun _ => class_Of_in, _, fun _ => class_Of_in, _, fun _ => class_Join_in, _, fun _ => class_Of_in, _, fun _ => class_Of_in, _, fun _ => class_Both_in, _, rfl, ?_⟩
  decide +kernel

theorem addL_two {a : Cl} {f t : Int} (hf : InR .u8 f) (ht : InR .u8 t) : a.addL [f, t] = a ||| (Cl.row f f ||| Cl.row t t) := by
  apply Cl.ext
  intro c hc
  rw [has_addL (by intro x hx; simp at hx; rcases hx with rfl | rfl <;> assumption), has_or, has_or, has_row hc, has_row hc]
  simp only [List.any_cons, List.any_nil, Bool.or_false]
  congr 2
  · rw [← Bool.decide_and]; exact decide_eq_decide.2 (by omega)
  · rw [← Bool.decide_and]; exact decide_eq_decide.2 (by omega)

theorem law01_ClassDoes_true {a b : Cl} {f t : Int} (hf : InR .u8 f) (ht : InR .u8 t) : law01_ClassDoes a b f t true := by
  refine ⟨true, awake01, fun h => by simp at h, fun _ => ⟨_, class_Least_in, _, ref01_Least_in, _, ref01_List_in, ?_⟩⟩
  refine upto (P := fun k (s : Int) v => law01_ClassDoes.l1 a.list _ k s v) 256 (fun i s => s = (((List.range i).countP a.has : Nat) : Int)) ?_ ?_ _ (by simp)
  · rintro i s hi rfl
    have hle := List.countP_le_length (l := List.range i) (p := a.has)
    simp only [List.length_range] at hle
    refine .inr ⟨_, rfl, fun k h => ⟨fun _ => ⟨a.has i, by rw [at_nat]; exact list_get hi, fun hc => ?_, fun hc => ?_⟩, fun h => absurd (by omega) (df h)⟩⟩
    · rw [List.range_succ, List.countP_append, List.countP_singleton, hc] at h
      exact ⟨i64_of (by omega) (by omega), i64_of (by omega) (by omega), by simpa using h⟩
    · rw [List.range_succ, List.countP_append, List.countP_singleton, hc] at h
      exact ⟨i64_of (by omega) (by omega), by simpa using h⟩
  · rintro s rfl k
    refine ⟨fun h => absurd (dt h) (by omega), fun _ => ?_⟩
    refine ⟨_, class_Of_in, _, ref01_Row_in hf ht, _, fun _ => class_Has_u8 hf, _, fun _ => ref01_Has_u8 hf, _, fun _ => class_Add_in (by intro x hx; simp at hx; rcases hx with rfl | rfl <;> assumption) (by simp), _, fun _ => ref01_Row_in hf hf, _, fun _ => ref01_Row_in ht ht, _, fun _ => ref01_Join_in, _, fun _ => ref01_Join_in,
      _, fun _ => class_Join_in, _, fun _ => ref01_Join_in, _, rfl, _, fun _ => class_Both_in, _, fun _ => ref01_Both_in, _, fun _ => class_Not_in, _, fun _ => ref01_Not_in, _, rfl, _, fun _ => class_Count_in, ?_⟩
    rw [addL_two hf ht]
    simp [Cl.count]

/-! ### counting -/
theorem countP_split {p q : Nat → Bool} (l : List Nat) : l.countP (fun n => p n || q n) + l.countP (fun n => p n && q n) = l.countP p + l.countP q := by
  induction l with
  | nil => rfl
  | cons x l ih =>
    simp only [List.countP_cons]
    cases p x <;> cases q x <;> simp <;> omega
theorem count_or_and (a b : Cl) : (a ||| b).count + (a &&& b).count = a.count + b.count := by
  have h1 : (a ||| b).has = fun n => a.has n || b.has n := funext fun n => has_or
  have h2 : (a &&& b).has = fun n => a.has n && b.has n := funext fun n => has_and
  unfold Cl.count
  rw [h1, h2]
  exact countP_split _
theorem countP_congr' {p q : Nat → Bool} {l : List Nat} (h : ∀ x ∈ l, p x = q x) : l.countP p = l.countP q := by
  induction l with
  | nil => rfl
  | cons x l ih => rw [List.countP_cons, List.countP_cons, h x (by simp), ih fun y hy => h y (by simp [hy])]
theorem countP_not {p : Nat → Bool} (l : List Nat) : l.countP p + l.countP (fun n => !p n) = l.length := by
  induction l with
  | nil => rfl
  | cons x l ih =>
    simp only [List.countP_cons, List.length_cons]
    cases p x <;> simp <;> omega
theorem count_not (a : Cl) : a.count + (~~~ a).count = 256 := by
  have : (~~~ a).count = (List.range 256).countP (fun n => !a.has n) := countP_congr' fun n hn => has_not (by simpa using hn)
  rw [this]
  have := countP_not (p := a.has) (List.range 256)
  simpa [Cl.count] using this
theorem countP_lt {p q : Nat → Bool} {l : List Nat} (h : ∀ x ∈ l, p x = true → q x = true) {y : Nat} (hy : y ∈ l) (h1 : p y = false) (h2 : q y = true) : l.countP p < l.countP q := by
  induction l with
  | nil => cases hy
  | cons x l ih =>
    have hm : l.countP p ≤ l.countP q := List.countP_mono_left fun z hz hp => h z (by simp [hz]) hp
    rw [List.countP_cons, List.countP_cons]
    rcases List.mem_cons.1 hy with rfl | hy'
    · simp [h1, h2]; omega
    · have := ih (fun z hz => h z (by simp [hz])) hy'
      have hx := h x (by simp)
      cases hp : p x
      · simp; omega
      · simp [hx hp]; omega
theorem count_eq_iff {a b : Cl} (h : ∀ n, n < 256 → a.has n = true → b.has n = true) : a.count = b.count ↔ a = b := by
  constructor
  · intro he
    apply Cl.ext
    intro c hc
    cases h1 : a.has c
    · cases h2 : b.has c
      · rfl
      · have := countP_lt (p := a.has) (q := b.has) (l := List.range 256) (fun x hx => h x (by simpa using hx)) (y := c) (by simpa using hc) h1 h2
        simp only [Cl.count] at he
        omega
    · rw [h c hc h1]
  · rintro rfl; rfl
theorem or_and_eq {a b : Cl} : (a == b) = (((a ||| b).count : Int) == ((a &&& b).count : Int)) := by
  by_cases h : a = b
  · subst h; simp
  · have : (a &&& b).count ≠ (a ||| b).count := fun he => by
      have h2 := (count_eq_iff (a := a &&& b) (b := a ||| b) (fun n _ h => by rw [has_and] at h; rw [has_or]; simp at h; simp [h])).1 he
      apply h
      apply Cl.ext
      intro c _
      have h3 : (a &&& b).has c = (a ||| b).has c := by rw [h2]
      rw [has_and, has_or] at h3
      cases ha : a.has c <;> cases hb : b.has c <;> simp_all
    have h4 : ¬ (((a ||| b).count : Int) = ((a &&& b).count : Int)) := by omega
    rw [beq_eq_false_iff_ne.2 h, beq_eq_false_iff_ne.2 h4]

theorem not_or' (a b : Cl) : ~~~ (a ||| b) = (~~~ a) &&& (~~~ b) := by
  apply Cl.ext; intro c hc; rw [has_not hc, has_or, has_and, has_not hc, has_not hc]; simp
theorem not_and' (a b : Cl) : ~~~ (a &&& b) = (~~~ a) ||| (~~~ b) := by
  apply Cl.ext; intro c hc; rw [has_not hc, has_and, has_or, has_not hc, has_not hc]; simp
theorem not_not' (a : Cl) : ~~~ (~~~ a) = a := by
  apply Cl.ext; intro c hc; rw [has_not hc, has_not hc]; simp

theorem law01_ClassLaws_true {a b : Cl} {c : Int} (hc : InR .u8 c) : law01_ClassLaws a b c true := by
  have hcn : c.toNat < 256 := by rw [inR_u8] at hc; omega
  have l1 := count_le (a ||| b); have l2 := count_le (a &&& b); have l3 := count_le a; have l4 := count_le b; have l5 := count_le (~~~ a)
  refine ⟨true, awake01, fun h => by simp at h, fun _ => ⟨_, class_Join_in, _, class_Both_in, _, class_Has_u8 hc, _, class_Has_u8 hc, _, fun _ => class_Has_u8 hc, _, fun _ => class_Has_u8 hc, _, fun _ => class_Has_u8 hc, _, fun _ => class_Has_u8 hc, _, fun _ => class_Not_in, _, fun _ => class_Has_u8 hc, _, fun _ => class_Has_u8 hc, _, rfl, fun h => ?_, fun _ => ?_⟩⟩
  · exfalso
    rw [has_or, has_and, has_not hcn] at h
    cases h1 : a.has c.toNat <;> cases h2 : b.has c.toNat <;> simp [h1, h2] at h
  · refine ⟨_, class_Not_in, _, class_Not_in, _, class_Not_in, _, class_Both_in, _, fun _ => class_Not_in, _, fun _ => class_Not_in, _, fun _ => class_Not_in, _, fun _ => class_Join_in, _, fun _ => class_Not_in, _, fun _ => class_Not_in, fun h => ?_, fun _ => ?_⟩
    · exfalso
      rw [not_or', not_and', not_not'] at h
      simp at h
    · refine ⟨_, class_Count_in, _, class_Count_in, i64_of (by omega) (by omega), _, class_Count_in, _, class_Count_in, i64_of (by omega) (by omega), _, fun _ => class_Count_in, _, fun _ => class_Count_in, _, rfl, _, fun _ => class_Count_in, _, fun _ => class_Not_in, _, fun _ => class_Count_in, fun _ => i64_of (by omega) (by omega), ?_⟩
      have e1 := count_or_and a b
      have e2 := count_not a
      rw [show (((a ||| b).count : Int) + ((a &&& b).count : Int) == (a.count : Int) + (b.count : Int)) = true by simp; omega, ← or_and_eq, show ((a.count : Int) + ((~~~ a).count : Int) == 256) = true by simp; omega]
      simp

theorem countP_range {f t m : Nat} : (List.range m).countP (fun n => decide (f ≤ n) && decide (n ≤ t)) = min m (t + 1) - f := by
  induction m with
  | zero => simp
  | succ m ih =>
    rw [List.range_succ, List.countP_append, ih, List.countP_singleton]
    by_cases h1 : f ≤ m <;> by_cases h2 : m ≤ t <;> simp [h1, h2] <;> omega
theorem count_row {f t : Nat} (ht : t < 256) : (Cl.row (f : Int) (t : Int)).count = t + 1 - f := by
  have : (Cl.row (f : Int) (t : Int)).count = (List.range 256).countP (fun n => decide (f ≤ n) && decide (n ≤ t)) := countP_congr' fun n hn => by
    rw [has_row (by simpa using hn)]
    congr 1
    · exact decide_eq_decide.2 (by omega)
    · exact decide_eq_decide.2 (by omega)
  rw [this, countP_range]; omega
theorem count_put {a : Cl} {n : Nat} (hn : n < 256) : (a.put n).count = a.count + if a.has n then 0 else 1 := by
  have h := count_or_and a (BitVec.twoPow 256 n)
  have h1 : Cl.count (BitVec.twoPow 256 n) = 1 := by
    have : Cl.count (BitVec.twoPow 256 n) = (List.range 256).countP (fun m => decide (n ≤ m) && decide (m ≤ n)) := countP_congr' fun m hm => by
      show BitVec.getLsbD _ m = _
      rw [BitVec.getLsbD_twoPow]
      simp only [hn, decide_true, Bool.true_and]
      rw [← Bool.decide_and]; exact decide_eq_decide.2 (by omega)
    rw [this, countP_range]; omega
  have h2 : Cl.count (a &&& BitVec.twoPow 256 n) = if a.has n then 1 else 0 := by
    have : Cl.count (a &&& BitVec.twoPow 256 n) = (List.range 256).countP (fun m => (decide (n ≤ m) && decide (m ≤ n)) && a.has n) := countP_congr' fun m hm => by
      rw [has_and]
      show (a.has m && BitVec.getLsbD _ m) = _
      rw [BitVec.getLsbD_twoPow]
      simp only [hn, decide_true, Bool.true_and]
      by_cases e : n = m
      · subst e; simp
      · rw [decide_eq_false e, show (decide (n ≤ m) && decide (m ≤ n)) = false by rw [← Bool.decide_and]; exact decide_eq_false (by omega)]; simp
    rw [this]
    split
    · rename_i hh; simp only [hh, Bool.and_true]; rw [countP_range]; omega
    · rename_i hh; simp [hh]
  show (a ||| BitVec.twoPow 256 n).count = _
  split <;> simp_all <;> omega
theorem least_row {f t : Nat} (h : f ≤ t) (ht : t < 256) : (Cl.row (f : Int) (t : Int)).least = ((f : Int), true) := by
  refine least_of (by omega) ?_ fun m hm => ?_
  · rw [has_row (by omega)]; simp; omega
  · rw [has_row (by omega)]; simp; omega

theorem law01_ClassRows_j2 {a : Cl} {c : Nat} (hc : c < 256) : law01_ClassRows.j2 a (c : Int) true := by
  have hu := u8_nat hc
  have hb : a.addL [(c : Int)] = a.put c := by simp [Cl.addL]
  have l1 := count_le a
  have key : ∀ m : Int, m = (if a.has c then 0 else 1) → law01_ClassRows.j1 a (c : Int) true (a.put c) m := by
    intro m hm
    have hm2 : 0 ≤ m ∧ m ≤ 1 := by rw [hm]; split <;> omega
    refine ⟨_, class_Has_in hc, _, fun _ => class_Count_in, _, fun _ => class_Count_in, fun _ => i64_of (by omega) (by omega), _, fun _ => class_Both_in, _, fun _ => class_Add_in (by simp) (by simp), _, rfl, _, fun _ => class_Add_in (by simpa using hu) (by simp), ?_⟩
    have e1 : (a.put c).has c = true := by rw [has_put hc]; simp
    have e2 : (((a.put c).count : Int) == (a.count : Int) + m) = true := by rw [count_put hc, hm]; split <;> simp
    have e3 : a &&& a.put c = a := by
      apply Cl.ext; intro n hn; rw [has_and, has_put hc]; cases a.has n <;> simp
    have e4 : (a.put c).addL [(c : Int), (c : Int)] = a.put c := by
      apply Cl.ext; intro n hn
      rw [has_addL (by simpa using hu), has_put hc]
      simp only [List.any_cons, List.any_nil, Int.natCast_inj]
      cases a.has n <;> simp
    rw [e1, e2, e3, e4]
    simp [Cl.addL]
  refine ⟨a.put c, by rw [← hb]; exact class_Add_in (by simpa using hu) (by simp), a.has c, class_Has_in hc, fun h => ?_, fun h => ?_⟩
  · exact key 0 (by simp [h])
  · exact key 1 (by simp [h])

theorem law01_ClassRows_true {a : Cl} {f m t c : Int} (hf : InR .u8 f) (hm : InR .u8 m) (ht : InR .u8 t) (hc : InR .u8 c) : law01_ClassRows a f m t c true := by
  obtain ⟨f, hf1, rfl⟩ := u8_of hf
  obtain ⟨m, hm1, rfl⟩ := u8_of hm
  obtain ⟨t, ht1, rfl⟩ := u8_of ht
  obtain ⟨c, hc1, rfl⟩ := u8_of hc
  have hj2 := law01_ClassRows_j2 (a := a) hc1
  refine ⟨true, awake01, fun h => by simp at h, fun _ => ⟨fun h => ?_, fun h => ?_⟩⟩
  · have hft : f ≤ t := by have := dt h; omega
    have e1 : (((Cl.row (f : Int) (t : Int)).count : Int) != (t : Int) - (f : Int) + 1) = false := by rw [count_row ht1]; simp; omega
    have e2 : (Cl.row (f : Int) (t : Int)).has ((t : Int)).toNat = true := by rw [has_row (by omega)]; simp; omega
    refine ⟨_, class_Of_in, _, class_Least_in, _, class_Count_in, i64_of (by omega) (by omega), i64_of (by omega) (by omega), _, rfl, _, fun _ => class_Has_u8 ht, fun h => ?_, fun _ => ?_⟩
    · exfalso
      rw [e1, e2, least_row hft ht1] at h
      simp at h
    · refine ⟨_, fun _ => class_Of_in, _, fun _ => class_Of_in, _, fun _ => class_Join_in, _, rfl, fun h => ?_, fun _ => hj2⟩
      exfalso
      simp only [Bool.and_eq_true, decide_eq_true_eq] at h
      obtain ⟨⟨h1, h2⟩, h3⟩ := h
      have : Cl.row (f : Int) (m : Int) ||| Cl.row (IntKind.wrap .u8 ((m : Int) + 1)) (t : Int) = Cl.row (f : Int) (t : Int) := by
        apply Cl.ext
        intro n hn
        rw [wrap_u8, show ((m : Int) + 1) % 256 = (m : Int) + 1 by omega, has_or, has_row hn, has_row hn, has_row hn]
        rw [← Bool.decide_and, ← Bool.decide_and, ← Bool.decide_and, ← Bool.decide_or]
        exact decide_eq_decide.2 (by omega)
      rw [this] at h3
      simp at h3
  · have hft : ¬ f ≤ t := by have := df h; omega
    refine ⟨_, class_Of_in, _, class_Count_in, fun h => ?_, fun _ => hj2⟩
    exfalso
    rw [count_row ht1] at h
    simp at h
    omega

theorem law01_ClassLeast_true {a : Cl} : law01_ClassLeast a true := by
  refine ⟨true, awake01, fun h => by simp at h, fun _ => ?_⟩
  refine upto (P := fun k (s : Cl × Int × Int) v => law01_ClassLeast.l1 a true _ k s.1 s.2.1 s.2.2 v) 257
    (fun i s => s.2.2 = (i : Int) ∧ i + s.1.count = a.count ∧ ∀ m, m < 256 → s.1.has m = (a.has m && decide (s.2.1 < (m : Int)))) ?_ ?_ (a, -1, 0) ⟨rfl, by simp, fun m hm => by simp; omega⟩
  · rintro i ⟨left, last, n⟩ hi ⟨h1, h2, h3⟩
    simp only at h1 h2 h3
    subst h1
    have hca := count_le a
    cases hl : left.least.2
    · refine .inl fun k => ⟨fun _ => ⟨_, class_Least_in, fun _ => ?_, fun h => by simp [hl] at h⟩, fun h => absurd (by omega) (df h)⟩
      have h0 : left.count = 0 := by
        have : left.count = (List.range 256).countP (fun _ => false) := countP_congr' fun m hm => least_none hl m (by simpa using hm)
        rw [this]; simp
      refine ⟨_, class_Count_in, _, fun _ => class_Count_in, ?_⟩
      rw [h0, show ((i : Int) == (a.count : Int)) = true by simp; omega]; rfl
    · obtain ⟨c, hc⟩ : ∃ c : Nat, left.least = ((c : Int), true) := by
        unfold Cl.least at hl ⊢
        split
        · exact ⟨_, rfl⟩
        · rename_i hn; rw [hn] at hl; simp at hl
      obtain ⟨hc1, hc2, hc3⟩ := least_some hc
      have hac : a.has c = true ∧ last < (c : Int) := by have := h3 c hc1; rw [hc2] at this; simpa using this.symm
      have hnew : ∀ m, m < 256 → (left &&& ~~~ (Cl.row (c : Int) (c : Int))).has m = (left.has m && decide (c ≠ m)) := fun m hm => by
        rw [has_and, has_not hm, has_row hm, ← Bool.decide_and]
        congr 1
        rw [← decide_not]; exact decide_eq_decide.2 (by omega)
      refine .inr ⟨(left &&& ~~~ (Cl.row (c : Int) (c : Int)), (c : Int), (i : Int) + 1), ⟨by simp, ?_, fun m hm => ?_⟩, fun k h => ⟨fun _ => ⟨_, class_Least_in, fun h => by simp [hl] at h, fun _ => ?_⟩, fun h => absurd (by omega) (df h)⟩⟩
      · have : left = (left &&& ~~~ (Cl.row (c : Int) (c : Int))).put c := by
          apply Cl.ext
          intro m hm
          rw [has_put hc1, hnew m hm]
          by_cases e : c = m
          · subst e; simp [hc2]
          · simp [e]
        have hcount := count_put (a := left &&& ~~~ (Cl.row (c : Int) (c : Int))) hc1
        rw [← this, hnew c hc1] at hcount
        simp at hcount
        simp only
        omega
      · simp only
        rw [hnew m hm, h3 m hm, Bool.and_assoc, ← Bool.decide_and]
        by_cases hm2 : m < c
        · have := hc3 m hm2
          rw [h3 m hm] at this
          simp only [Bool.and_eq_false_iff, decide_eq_false_iff_not] at this
          rcases this with h | h
          · rw [h]; simp
          · rw [decide_eq_false (by omega), decide_eq_false (by omega)]
        · congr 1; exact decide_eq_decide.2 (by omega)
      · rw [hc]
        refine ⟨_, fun _ => class_Has_in hc1, fun h => ?_, fun _ => ⟨i64_of (by simp only; omega) (by simp only; omega), _, class_Of_in, _, class_Not_in, _, class_Both_in, i64_of (by omega) (by omega), h⟩⟩
        exfalso
        rw [hac.1] at h
        simp at h
        omega
  · rintro ⟨left, last, n⟩ ⟨h1, h2, h3⟩ k
    exfalso
    have hca := count_le a
    simp only at h2
    omega

theorem any_drop {l : List Int} {j : Nat} (hj : j < l.length) (p : Int → Bool) : (l.drop j).any p = (p l[j] || (l.drop (j + 1)).any p) := by
  rw [List.drop_eq_getElem_cons hj]; rfl

theorem law01_ClassAdd_true {a : Cl} {l : List Int} (hl : ∀ x ∈ l, InR .u8 x) (hlen : l.length ≤ 9223372036854775807) : law01_ClassAdd a l true := by
  refine ⟨true, awake01, fun _ => ⟨true, awake01, rfl⟩, fun h => ?_⟩
  have hlen : l.length ≤ 300 := by simp at h; omega
  refine ⟨_, class_Add_in hl (by omega), i64_of (by omega) (by omega), ?_⟩
  refine run (P := fun k (s : Cl × Cl × Int) => law01_ClassAdd.l3 l _ k s.1 s.2.1 s.2.2)
    (fun s => ∃ j : Nat, s.2.2 = (j : Int) - 1 ∧ j ≤ l.length ∧ ∀ m, m < 256 → s.1.has m = (a.has m || (l.drop j).any fun x => decide (x = (m : Int))) ∧ s.2.1.has m = (a.has m || (l.drop j).any fun x => decide (x = (m : Int))))
    (fun s => (s.2.2 + 1).toNat) ?_ (a, a, (l.length : Int) - 1) ⟨l.length, rfl, Nat.le_refl _, fun m hm => by simp⟩
  rintro ⟨back, join, i⟩ ⟨j, hi, hj, hh⟩
  simp only at hi hh
  subst hi
  cases j with
  | zero =>
    refine .inl fun k => ⟨fun h => absurd (dt h) (by simp), fun _ => ?_⟩
    have e1 : back = a.addL l := Cl.ext fun m hm => by rw [(hh m hm).1, has_addL hl]; simp
    have e2 : join = a.addL l := Cl.ext fun m hm => by rw [(hh m hm).2, has_addL hl]; simp
    simp only
    rw [e1, e2]
    refine upto (P := fun k (s : Int) v => law01_ClassAdd.l1 a l _ _ _ k s v) 256 (fun c s => s = (((List.range c).countP (a.addL l).has : Nat) : Int)) ?_ ?_ _ (by simp)
    · rintro c s hc rfl
      have hle := List.countP_le_length (l := List.range c) (p := (a.addL l).has)
      simp only [List.length_range] at hle
      refine .inr ⟨_, rfl, fun k h => ⟨fun _ => ?_, fun h => absurd (by omega) (df h)⟩⟩
      rw [List.range_succ, List.countP_append, List.countP_singleton] at h
      refine ⟨_, class_Has_mod hc, ?_⟩
      refine upto (P := fun k (s : Bool) v => law01_ClassAdd.l2 l (c : Int) _ k s v) l.length (fun i s => s = (a.has c || (l.take i).any fun x => decide (x = (c : Int)))) ?_ ?_ _ (by simp)
      · rintro i s hi2 rfl
        refine .inr ⟨_, rfl, fun k h => ⟨fun _ => ⟨l[i], fun _ => by rw [at_nat]; simp [hi2], i64_of (by omega) (by omega), ?_⟩, fun h => absurd (by omega) (df h)⟩⟩
        have : ((a.has c || (l.take i).any fun x => decide (x = (c : Int))) || (l[i] == (c : Int))) = (a.has c || (l.take (i + 1)).any fun x => decide (x = (c : Int))) := by
          rw [List.take_succ_eq_append_getElem hi2, List.any_append, Bool.or_assoc, List.any_cons, List.any_nil, Bool.or_false]
          congr 2
        rw [this]; exact h
      · rintro s rfl k
        refine ⟨fun h => absurd (dt h) (by omega), fun _ => ⟨_, class_Has_mod hc, fun h2 => ?_, fun _ => ⟨fun h2 => ?_, fun h2 => ?_⟩⟩⟩
        · exfalso
          rw [has_addL hl] at h2
          simp at h2
        · rw [List.take_length, ← has_addL hl] at h2
          rw [h2] at h
          exact ⟨i64_of (by omega) (by omega), i64_of (by omega) (by omega), by simpa using h⟩
        · rw [List.take_length, ← has_addL hl] at h2
          rw [h2] at h
          exact ⟨i64_of (by omega) (by omega), by simpa using h⟩
    · rintro s rfl k
      refine ⟨fun h => absurd (dt h) (by omega), fun _ => ⟨_, fun _ => class_Count_in, _, rfl, ?_⟩⟩
      simp [Cl.count]
  | succ j =>
    have hjl : j < l.length := by omega
    obtain ⟨n, hn, he⟩ := u8_of (hl l[j] (List.getElem_mem hjl))
    have hat : at? l ((j : Int)) = some ((n : Nat) : Int) := by rw [at_nat, ← he]; simp [hjl]
    refine .inr ⟨(back.put n, join ||| Cl.row (n : Int) (n : Int), (j : Int) - 1), ⟨j, rfl, by omega, fun m hm => ?_⟩, ?_, fun k h => ⟨fun _ => ?_, fun h => absurd (by simp only; omega) (df h)⟩⟩
    · have hd : ((n : Nat) : Int) = (m : Int) ↔ n = m := by omega
      constructor
      · simp only
        rw [has_put hn, (hh m hm).1, any_drop hjl, he, decide_eq_decide.2 hd]
        cases a.has m <;> cases decide (n = m) <;> simp
      · simp only
        rw [has_or, has_row hm, (hh m hm).2, any_drop hjl, he, decide_eq_decide.2 hd, ← Bool.decide_and, decide_eq_decide.2 (show ((n : Int) ≤ (m : Int) ∧ (m : Int) ≤ (n : Int)) ↔ n = m by omega)]
        cases a.has m <;> cases decide (n = m) <;> simp
    · simp only; omega
    · simp only
      rw [show (((j + 1 : Nat) : Int) - 1) = (j : Int) by omega]
      refine ⟨_, hat, back.put n, ?_, _, hat, _, hat, _, class_Of_in, _, class_Join_in, i64_of (by omega) (by omega), h⟩
      have := class_Add_in (a := back) (l := [(n : Int)]) (by simpa using u8_nat hn) (by simp)
      simpa [Cl.addL] using this
end Go.Proofs.Ytkdbiiollbeoeaa.V
