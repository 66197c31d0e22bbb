/-
  What the calls on states answer: the printed relations hold of the plain answers.
-/
import Derived.Test.YtdfnbogkniikbaaDoorR13
import Derived.Test.YtdfnbogkniikbaaDoorC13
namespace Go.Proofs.YtdfnbogkniikbaaDoor.V
open Go
set_option linter.unusedVariables false

theorem cmp_in {x y : Int} : cmp_Compare_int x y (sgnI x y) := by
  refine ⟨false, by simp [cmp_isNaN_int], false, by simp [cmp_isNaN_int], (fun h => by cases h), fun _ => ⟨(fun h => by cases h), fun _ => ⟨fun h => ?_, fun h => ⟨fun h2 => ?_, fun h2 => ?_⟩⟩⟩⟩
  · unfold sgnI; rw [if_pos (dt h)]
  · unfold sgnI; rw [if_neg (df h), if_pos (dt h2)]
  · unfold sgnI; rw [if_neg (df h), if_neg (df h2)]
theorem or_in {l : List Int} (hl : l.length < 1000000) : cmp_Or_int l (fstNZ l) := by
  refine upto (P := fun k (_ : Unit) v => cmp_Or_int.l1 l (fstNZ l) _ k v) l.length (fun i _ => fstNZ l = fstNZ (l.drop i)) ?_ ?_ () (by simp)
  · intro i _ hi h
    have hat : at? l (i : Int) = some l[i] := by rw [at_nat]; simp [hi]
    rw [List.drop_eq_getElem_cons hi] at h
    by_cases hz : l[i] = 0
    · rw [fstNZ, if_neg (by simpa using hz)] at h
      exact .inr ⟨(), h, fun k hk => ⟨fun _ => ⟨_, hat, fun hb => by simp [hz] at hb, fun _ => ⟨i64_of (by omega) (by omega), hk⟩⟩, fun h => absurd (by omega) (df h)⟩⟩
    · rw [fstNZ, if_pos hz] at h
      exact .inl fun k => ⟨fun _ => ⟨_, hat, fun _ => h, fun hb => by simp at hb; exact absurd hb hz⟩, fun h => absurd (by omega) (df h)⟩
  · intro _ h k
    refine ⟨fun h => absurd (dt h) (by omega), fun _ => ?_⟩
    rw [List.drop_length] at h
    exact h
theorem cmp1_in {x y : SItem} : item_Compare_1 x y (lexI (nums4 x) (nums4 y)) := by
  rw [← cmpItem_lex]
  exact ⟨_, cmp_in, _, cmp_in, _, cmp_in, _, cmp_in, _, or_in (by simp), rfl⟩

theorem cmpFunc_in {a b : List SItem} (hl : a.length = b.length) (hs : a.length ≤ 1000) : slices_CompareFunc_api_State_api_State_api_Item_api_Item a b (fun q_ => item_Compare_1 q_.1 q_.2.1 q_.2.2) (lexI (numsS a) (numsS b)) := by
  refine upto (P := fun k (_ : Unit) v => slices_CompareFunc_api_State_api_State_api_Item_api_Item.l1 a b (fun q_ => item_Compare_1 q_.1 q_.2.1 q_.2.2) (lexI (numsS a) (numsS b)) _ k v) a.length (fun i _ => lexI (numsS a) (numsS b) = lexI (numsS (a.drop i)) (numsS (b.drop i))) ?_ ?_ () (by simp)
  · intro i _ hi h
    have ha : at? a (i : Int) = some a[i] := by rw [at_nat]; simp [hi]
    have hb : at? b (i : Int) = some (b[i]'(by omega)) := by rw [at_nat]; simp [show i < b.length by omega]
    rw [List.drop_eq_getElem_cons hi, List.drop_eq_getElem_cons (show i < b.length by omega), numsS_cons, numsS_cons, lexI_app (by simp [nums4])] at h
    by_cases hz : lexI (nums4 a[i]) (nums4 (b[i]'(by omega))) = 0
    · rw [if_neg (by simpa using hz)] at h
      refine .inr ⟨(), h, fun k hk => ⟨fun _ => ⟨_, ha, fun h2 => absurd (dt h2) (by omega), fun _ => ⟨_, hb, lexI (nums4 a[i]) (nums4 (b[i]'(by omega))), cmp1_in, fun h3 => ?_, fun _ => ⟨i64_of (by omega) (by omega), hk⟩⟩⟩, fun h => absurd (by omega) (df h)⟩⟩
      rw [hz] at h3; simp at h3
    · rw [if_pos hz] at h
      refine .inl fun k => ⟨fun _ => ⟨_, ha, fun h2 => absurd (dt h2) (by omega), fun _ => ⟨_, hb, lexI (nums4 a[i]) (nums4 (b[i]'(by omega))), cmp1_in, fun _ => h, fun h3 => ?_⟩⟩, fun h => absurd (by omega) (df h)⟩
      simp at h3; exact absurd h3 hz
  · intro _ h k
    refine ⟨fun h => absurd (dt h) (by omega), fun _ => ⟨fun h2 => absurd (dt h2) (by omega), fun _ => ?_⟩⟩
    rw [h, List.drop_length]
    exact lexI_nil_left _
theorem item_Compare_in {a b : List SItem} (hs : a.length ≤ 1000) : item_Compare a b (cmpS a b) := by
  have e : cmpS a b = if sgnI (a.length : Int) (b.length : Int) ≠ 0 then sgnI (a.length : Int) (b.length : Int) else lexI (numsS a) (numsS b) := by unfold cmpS numsL; rw [lexI_cons]
  refine ⟨_, cmp_in, fun h => ?_, fun h => ?_⟩
  · rw [e, if_pos (by simpa using h)]
  · have h0 : sgnI (a.length : Int) (b.length : Int) = 0 := by simpa using h
    have hl : a.length = b.length := by
      unfold sgnI at h0
      by_cases h1 : (a.length : Int) < (b.length : Int)
      · rw [if_pos h1] at h0; cases h0
      · by_cases h2 : (b.length : Int) < (a.length : Int)
        · rw [if_neg h1, if_pos h2] at h0; cases h0
        · omega
    refine ⟨_, cmpFunc_in hl hs, ?_⟩
    rw [e, if_neg (by simpa using h0)]

theorem numsS_snoc (s : List SItem) (x : SItem) : numsS (s ++ [x]) = numsS s ++ nums4 x := by simp [numsS]
theorem ref13_numbers_in {s : List SItem} (hs : s.length ≤ 1000) : ref13_numbers s (numsL s) := by
  refine upto (P := fun k (t : List Int) v => ref13_numbers.l1 s _ k t v) s.length (fun i t => t = (s.length : Int) :: numsS (s.take i)) ?_ ?_ _ (by simp [numsS])
  · rintro i t hi rfl
    have hat : at? s (i : Int) = some s[i] := by rw [at_nat]; simp [hi]
    have hl := numsS_length (s.take i)
    simp only [List.length_take] at hl
    refine .inr ⟨_, rfl, fun k h => ⟨fun _ => ⟨_, hat, _, hat, _, hat, _, hat, by simp only [List.length_cons, List.length_nil]; omega, i64_of (by omega) (by omega), ?_⟩, fun h => absurd (by omega) (df h)⟩⟩
    rw [List.take_succ_eq_append_getElem hi, numsS_snoc] at h
    exact h
  · rintro t rfl k
    refine ⟨fun h => absurd (dt h) (by omega), fun _ => ?_⟩
    rw [List.take_length]; rfl
theorem ref13_Compare_in {a b : List SItem} (ha : a.length ≤ 1000) (hb : b.length ≤ 1000) : ref13_Compare a b (cmpS a b) := by
  refine ⟨_, ref13_numbers_in ha, _, ref13_numbers_in hb, ?_⟩
  have la : (numsL a).length ≤ 4001 := by unfold numsL; rw [List.length_cons, numsS_length]; omega
  show ∃ k, ref13_Compare.l1 (numsL a) (numsL b) (cmpS a b) (ref13_Compare.j1 (cmpS a b)) k 0
  unfold cmpS
  generalize numsL a = X at *
  generalize numsL b = Y at *
  refine upto (P := fun k (_ : Unit) v => ref13_Compare.l1 X Y (lexI X Y) _ k v) (min X.length Y.length) (fun i _ => lexI X Y = lexI (X.drop i) (Y.drop i)) ?_ ?_ () (by simp)
  · intro i _ hi h
    have hx : i < X.length := by omega
    have hy : i < Y.length := by omega
    have hax : at? X (i : Int) = some X[i] := by rw [at_nat]; simp [hx]
    have hay : at? Y (i : Int) = some Y[i] := by rw [at_nat]; simp [hy]
    have hb : (true : Bool) = ((decide ((i : Int) < (X.length : Int))) && (decide ((i : Int) < (Y.length : Int)))) := by simp; omega
    rw [List.drop_eq_getElem_cons hx, List.drop_eq_getElem_cons hy, lexI] at h
    by_cases h1 : X[i] < Y[i]
    · rw [if_pos h1] at h
      exact .inl fun k => ⟨true, hb, fun _ => ⟨_, hax, _, hay, fun _ => h, fun h2 => absurd h1 (df h2)⟩, (fun h => by cases h)⟩
    · by_cases h2 : Y[i] < X[i]
      · rw [if_neg h1, if_pos h2] at h
        exact .inl fun k => ⟨true, hb, fun _ => ⟨_, hax, _, hay, fun h3 => absurd (dt h3) h1, fun _ => ⟨_, hax, _, hay, fun _ => h, fun h3 => absurd h2 (df h3)⟩⟩, (fun h => by cases h)⟩
      · rw [if_neg h1, if_neg h2] at h
        exact .inr ⟨(), h, fun k hk => ⟨true, hb, fun _ => ⟨_, hax, _, hay, fun h3 => absurd (dt h3) h1, fun _ => ⟨_, hax, _, hay, fun h3 => absurd (dt h3) h2, fun _ => ⟨i64_of (by omega) (by omega), hk⟩⟩⟩, (fun h => by cases h)⟩⟩
  · intro _ h k
    refine ⟨false, by simp; omega, (fun h => by cases h), fun _ => ?_⟩
    show lexI X Y = 0
    rw [h]
    rcases Nat.le_total X.length Y.length with hle | hle
    · rw [Nat.min_eq_left hle, List.drop_length]; exact lexI_nil_left _
    · rw [Nat.min_eq_right hle, List.drop_length]; exact lexI_nil_right _
theorem ref13_Same_in {a b : List SItem} (ha : a.length ≤ 1000) (hb : b.length ≤ 1000) : ref13_Same a b (decide (a = b)) := by
  refine ⟨_, ref13_Compare_in ha hb, ?_⟩
  rw [Bool.eq_iff_iff, decide_eq_true_iff, beq_iff_eq, cmpS_zero]

def ItR (x : SItem) : Prop := InR .i64 x.1 ∧ InR .i64 x.2.1 ∧ InR .i64 x.2.2.1 ∧ InR .i64 x.2.2.2
theorem clone_in {s : List SItem} (hs : s.length ≤ 1000) : slices_Clone_api_State_api_Item s s := fun b hb => ⟨fun h => hb h, fun _ => ⟨by simp; omega, by simp⟩⟩
theorem any_take {s : List SItem} {i : Nat} (hi : i < s.length) : (s.take (i + 1)).any badI = ((s.take i).any badI || badI s[i]) := by
  rw [List.take_succ_eq_append_getElem hi, List.any_append]; simp
theorem any_of {s : List SItem} {i : Nat} (hi : i < s.length) (h : badI s[i] = true) : s.any badI = true := List.any_eq_true.2 ⟨_, List.getElem_mem hi, h⟩

theorem item_Lower_in {s : List SItem} (hs : s.length ≤ 1000) (hr : ∀ x ∈ s, ItR x) : item_Lower s (lowF s) := by
  refine ⟨s, clone_in hs, ?_⟩
  refine upto (P := fun k (t : List SItem) v => item_Lower.l1 s (lowF s) _ k t v) s.length (fun i t => t = (s.take i).map low1 ++ s.drop i ∧ (s.take i).any badI = false) ?_ ?_ _ ⟨by simp, by simp⟩
  · rintro i t hi ⟨rfl, hb⟩
    have hl : ((s.take i).map low1).length = i := by simp; omega
    have hat : at? ((s.take i).map low1 ++ s.drop i) (i : Int) = some s[i] := by
      rw [at_nat, List.getElem?_append_right (by omega), hl, Nat.sub_self]
      simp [hi]
    have hset : ∀ y, ((s.take i).map low1 ++ s.drop i).set i y = (s.take i).map low1 ++ [y] ++ s.drop (i + 1) := fun y => by
      rw [List.set_append_right _ _ (by omega), hl, Nat.sub_self, List.drop_eq_getElem_cons hi, List.set_cons_zero]; simp
    have hnext : (s.take (i + 1)).map low1 ++ s.drop (i + 1) = (s.take i).map low1 ++ [low1 s[i]] ++ s.drop (i + 1) := by
      rw [List.take_succ_eq_append_getElem hi, List.map_append]; rfl
    have hri := (hr _ (List.getElem_mem hi)).2.2.1
    rw [inR_i64] at hri
    by_cases h5 : s[i].1 = 5
    · by_cases hlo : s[i].2.2.1 ≤ 0
      · have hbad : badI s[i] = true := by simp [badI, h5, hlo]
        refine .inl fun k => ⟨fun _ => ⟨_, hat, fun h => by simp [h5] at h, fun _ => ⟨fun _ => ?_, fun h => absurd hlo (df h)⟩⟩, fun h => absurd (by omega) (df h)⟩
        unfold lowF; rw [if_pos (any_of hi hbad)]
      · have hbad : badI s[i] = false := by simp [badI, hlo]
        refine .inr ⟨_, ⟨rfl, by rw [any_take hi, hb, hbad]; rfl⟩, fun k h => ⟨fun _ => ⟨_, hat, fun h => by simp [h5] at h, fun _ => ⟨fun h => absurd (dt h) hlo, fun _ => ⟨_, hat, i64_of (by omega) (by omega), _, hat, i64_of (by omega) (by omega), ?_⟩⟩⟩, fun h => absurd (by omega) (df h)⟩⟩
        rw [hnext] at h
        rw [Int.toNat_natCast, hset]
        have e : low1 s[i] = (s[i].1, s[i].2.1, s[i].2.2.1 - 1, s[i].2.2.2) := by unfold low1; rw [if_pos h5]
        rw [← e]; exact h
    · have hbad : badI s[i] = false := by simp [badI, h5]
      refine .inr ⟨_, ⟨rfl, by rw [any_take hi, hb, hbad]; rfl⟩, fun k h => ⟨fun _ => ⟨_, hat, fun _ => ⟨i64_of (by omega) (by omega), ?_⟩, fun h => by simp at h; exact absurd h h5⟩, fun h => absurd (by omega) (df h)⟩⟩
      rw [hnext] at h
      have e : low1 s[i] = s[i] := by unfold low1; rw [if_neg h5]
      rw [e] at h
      rw [List.drop_eq_getElem_cons hi]
      simpa using h
  · rintro t ⟨rfl, hb⟩ k
    refine ⟨fun h => absurd (dt h) (by omega), fun _ => ?_⟩
    rw [List.take_length] at hb
    show lowF s = _
    unfold lowF
    rw [if_neg (by rw [hb]; simp)]
    simp
theorem ref13_Lower_in {s : List SItem} (hs : s.length ≤ 1000) (hr : ∀ x ∈ s, ItR x) : ref13_Lower s (lowF s) := by
  refine upto (P := fun k (t : List SItem) v => ref13_Lower.l1 s (lowF s) _ k t v) s.length (fun i t => t = (s.take i).map low1 ∧ (s.take i).any badI = false) ?_ ?_ _ ⟨by simp, by simp⟩
  · rintro i t hi ⟨rfl, hb⟩
    have hl : ((s.take i).map low1).length = i := by simp; omega
    have hat : at? s (i : Int) = some s[i] := by rw [at_nat]; simp [hi]
    have hnext : (s.take (i + 1)).map low1 = (s.take i).map low1 ++ [low1 s[i]] := by
      rw [List.take_succ_eq_append_getElem hi, List.map_append]; rfl
    have hri := (hr _ (List.getElem_mem hi)).2.2.1
    rw [inR_i64] at hri
    have hj : ∀ k, ref13_Lower.l1 s (lowF s) (ref13_Lower.j1 (lowF s)) k ((s.take (i + 1)).map low1) ((i : Int) + 1) → ref13_Lower.j2 (ref13_Lower.l1 s (lowF s) (ref13_Lower.j1 (lowF s)) k) ((s.take i).map low1) (i : Int) (low1 s[i]) := fun k h => by
      refine ⟨by rw [hl]; simp only [List.length_cons, List.length_nil]; omega, i64_of (by omega) (by omega), ?_⟩
      rw [hnext] at h; exact h
    by_cases h5 : s[i].1 = 5
    · by_cases hlo : s[i].2.2.1 ≤ 0
      · have hbad : badI s[i] = true := by simp [badI, h5, hlo]
        refine .inl fun k => ⟨fun _ => ⟨_, hat, fun _ => ⟨fun _ => ?_, fun h => absurd hlo (df h)⟩, fun h => by simp [h5] at h⟩, fun h => absurd (by omega) (df h)⟩
        unfold lowF; rw [if_pos (any_of hi hbad)]
      · have hbad : badI s[i] = false := by simp [badI, hlo]
        refine .inr ⟨_, ⟨rfl, by rw [any_take hi, hb, hbad]; rfl⟩, fun k h => ⟨fun _ => ⟨_, hat, fun _ => ⟨fun h => absurd (dt h) hlo, fun _ => ⟨i64_of (by omega) (by omega), ?_⟩⟩, fun h => by simp [h5] at h⟩, fun h => absurd (by omega) (df h)⟩⟩
        have := hj k h
        unfold low1 at this
        rw [if_pos h5] at this
        exact this
    · have hbad : badI s[i] = false := by simp [badI, h5]
      refine .inr ⟨_, ⟨rfl, by rw [any_take hi, hb, hbad]; rfl⟩, fun k h => ⟨fun _ => ⟨_, hat, fun h => by simp at h; exact absurd h h5, fun _ => ?_⟩, fun h => absurd (by omega) (df h)⟩⟩
      have := hj k h
      unfold low1 at this
      rw [if_neg h5] at this
      exact this
  · rintro t ⟨rfl, hb⟩ k
    refine ⟨fun h => absurd (dt h) (by omega), fun _ => ?_⟩
    rw [List.take_length] at hb
    show lowF s = _
    unfold lowF
    rw [if_neg (by rw [hb]; simp), List.take_length]

theorem within_in {n m : Int} : item_within n m (decide (0 ≤ n) && decide (n ≤ m)) := rfl
theorem stop_beq (x : SItem) : (x == (x.1, 0, x.2.2.1, 0)) = (x.2.1 == 0 && x.2.2.2 == 0) := by
  obtain ⟨a, b, c, d⟩ := x
  rw [Bool.eq_iff_iff]; simp
theorem node_beq (x : SItem) : (x == (x.1, x.2.1, 0, 0)) = (x.2.2.1 == 0 && x.2.2.2 == 0) := by
  obtain ⟨a, b, c, d⟩ := x
  rw [Bool.eq_iff_iff]; simp
theorem item_form_in {d : List SNode} {x : SItem} (hd : d.length ≤ 1000) (ht : ∀ n ∈ d, n.2.2.2.2.2.2.length ≤ 9223372036854775807) : item_form d x (formI d x) := by
  refine ⟨fun h => ⟨_, fun _ => within_in, ?_⟩, fun h => ⟨i64_of (by omega) (by omega), _, within_in, fun h2 => ?_, fun h2 => ?_⟩⟩
  · have h5 := eq_of_beq h
    unfold formI
    rw [if_pos h5, stop_beq]
  · have h5 := ne_of_beq_false h
    unfold formI
    rw [if_neg h5, at_none]
    simp only [Bool.not_eq_true', Bool.and_eq_false_iff, decide_eq_false_iff_not] at h2
    omega
  · have h5 := ne_of_beq_false h
    simp only [Bool.not_eq_false', Bool.and_eq_true, decide_eq_true_eq] at h2
    obtain ⟨n, hn, hm⟩ := at_in (xs := d) h2.1 (by omega)
    have hnl := ht n hm
    refine ⟨n, hn, fun h1 => ?_, fun h1 => ⟨fun h2 => ⟨_, rfl, ?_⟩, fun h2 => ⟨fun h3 => ⟨fun _ => i64_of (by omega) (by omega), _, fun _ => within_in, ?_⟩, fun h3 => ⟨fun h4 => ⟨_, fun _ => within_in, ?_⟩, fun h4 => ?_⟩⟩⟩⟩
    · unfold formI; rw [if_neg h5, hn]
      simp only [if_pos (eq_of_beq h1), node_beq]
    · unfold formI; rw [if_neg h5, hn]
      simp only [if_neg (ne_of_beq_false h1), if_pos (eq_of_beq h2)]
    · unfold formI; rw [if_neg h5, hn]
      simp only [if_neg (ne_of_beq_false h1), if_neg (ne_of_beq_false h2), if_pos (eq_of_beq h3)]
      rw [Bool.and_assoc, show decide (x.2.2.1 < (n.2.2.2.2.2.2.length : Int)) = decide (x.2.2.1 ≤ (n.2.2.2.2.2.2.length : Int) - 1) from decide_eq_decide.2 (by omega)]
    · unfold formI; rw [if_neg h5, hn]
      simp only [if_neg (ne_of_beq_false h1), if_neg (ne_of_beq_false h2), if_neg (ne_of_beq_false h3), if_pos (eq_of_beq h4)]
      rw [Bool.and_assoc]
    · unfold formI; rw [if_neg h5, hn]
      simp only [if_neg (ne_of_beq_false h1), if_neg (ne_of_beq_false h2), if_neg (ne_of_beq_false h3), if_neg (ne_of_beq_false h4)]
theorem ref13_form_in {d : List SNode} {x : SItem} : ref13_form d x (formI d x) := by
  refine ⟨fun h => ⟨_, rfl, ?_⟩, fun h => ⟨_, rfl, fun h2 => ?_, fun h2 => ?_⟩⟩
  · have h5 := eq_of_beq h
    unfold formI
    rw [if_pos h5]
    simp only [Bool.and_assoc]
  · have h5 := ne_of_beq_false h
    unfold formI
    rw [if_neg h5, at_none]
    simp only [Bool.or_eq_true, decide_eq_true_eq] at h2
    exact h2
  · have h5 := ne_of_beq_false h
    simp only [Bool.or_eq_false_iff, decide_eq_false_iff_not] at h2
    obtain ⟨n, hn, hm⟩ := at_in (xs := d) (i := x.2.1) (by omega) (by omega)
    refine ⟨n, hn, fun h1 => ?_, fun h1 => ⟨fun h2 => ⟨_, rfl, ?_⟩, fun h2 => ⟨fun h3 => ⟨_, rfl, _, rfl, ?_⟩, fun h3 => ⟨fun h4 => ⟨_, rfl, ?_⟩, fun h4 => ?_⟩⟩⟩⟩
    · unfold formI; rw [if_neg h5, hn]
      simp only [if_pos (eq_of_beq h1)]
    · unfold formI; rw [if_neg h5, hn]
      simp only [if_neg (ne_of_beq_false h1), if_pos (eq_of_beq h2)]
    · unfold formI; rw [if_neg h5, hn]
      simp only [if_neg (ne_of_beq_false h1), if_neg (ne_of_beq_false h2), if_pos (eq_of_beq h3)]
    · unfold formI; rw [if_neg h5, hn]
      simp only [if_neg (ne_of_beq_false h1), if_neg (ne_of_beq_false h2), if_neg (ne_of_beq_false h3), if_pos (eq_of_beq h4)]
    · unfold formI; rw [if_neg h5, hn]
      simp only [if_neg (ne_of_beq_false h1), if_neg (ne_of_beq_false h2), if_neg (ne_of_beq_false h3), if_neg (ne_of_beq_false h4)]

/-- What is known of a description. -/
structure DOk (d : List SNode) : Prop where
  len : d.length ≤ 1000
  txt : ∀ n ∈ d, n.2.2.2.2.2.2.length ≤ 9223372036854775807
def formS (d : List SNode) (s : List SItem) : Bool := s.all (formI d)
theorem item_Form_in {d : List SNode} {s : List SItem} (hd : DOk d) (hs : s.length ≤ 1000) : item_Form d s (formS d s) := by
  have key : ∃ i : Int, slices_IndexFunc_api_State_api_Item s (fun q_ => item_Form_1 q_.1 d q_.2) i ∧ (decide (0 ≤ i)) = !formS d s := by
    cases hf : formS d s
    · have hex : ∃ i, ∃ (h : i < s.length), formI d s[i] = false := by
        unfold formS at hf
        rw [List.all_eq_false] at hf
        obtain ⟨x, hx, hx2⟩ := hf
        obtain ⟨i, hi, rfl⟩ := List.mem_iff_getElem.1 hx
        exact ⟨i, hi, by simpa using hx2⟩
      obtain ⟨i, ⟨hi, hi2⟩, hmin⟩ := exists_least hex
      refine ⟨(i : Int), ?_, by simp⟩
      refine upto (P := fun k (_ : Unit) v => slices_IndexFunc_api_State_api_Item.l1 s (fun q_ => item_Form_1 q_.1 d q_.2) (i : Int) _ k v) (i + 1) (fun j _ => j ≤ i) ?_ ?_ () (by omega)
      · intro j _ hj hle
        have hat : at? s (j : Int) = some (s[j]'(by omega)) := by rw [at_nat]; simp [show j < s.length by omega]
        by_cases hji : j = i
        · subst hji
          exact .inl fun k => ⟨fun _ => ⟨_, hat, true, ⟨_, item_form_in hd.len hd.txt, by rw [hi2]; rfl⟩, fun _ => rfl, (fun h => by cases h)⟩, fun h => absurd (by omega) (df h)⟩
        · have hjf : formI d (s[j]'(by omega)) = true := by
            cases hc : formI d (s[j]'(by omega))
            · have := hmin j ⟨by omega, hc⟩; omega
            · rfl
          exact .inr ⟨(), by omega, fun k hk => ⟨fun _ => ⟨_, hat, false, ⟨_, item_form_in hd.len hd.txt, by rw [hjf]; rfl⟩, (fun h => by cases h), fun _ => ⟨i64_of (by omega) (by omega), hk⟩⟩, fun h => absurd (by omega) (df h)⟩⟩
      · intro _ h k; omega
    · refine ⟨-1, ?_, by decide⟩
      have hall : ∀ x ∈ s, formI d x = true := by unfold formS at hf; rw [List.all_eq_true] at hf; exact hf
      refine upto (P := fun k (_ : Unit) v => slices_IndexFunc_api_State_api_Item.l1 s (fun q_ => item_Form_1 q_.1 d q_.2) (-1) _ k v) s.length (fun _ _ => True) ?_ ?_ () trivial
      · intro j _ hj _
        have hat : at? s (j : Int) = some s[j] := by rw [at_nat]; simp [hj]
        exact .inr ⟨(), trivial, fun k hk => ⟨fun _ => ⟨_, hat, false, ⟨_, item_form_in hd.len hd.txt, by rw [hall _ (List.getElem_mem hj)]; rfl⟩, (fun h => by cases h), fun _ => ⟨i64_of (by omega) (by omega), hk⟩⟩, fun h => absurd (by omega) (df h)⟩⟩
      · intro _ _ k
        exact ⟨fun h => absurd (dt h) (by omega), fun _ => rfl⟩
  obtain ⟨i, h1, h2⟩ := key
  refine ⟨_, ⟨i, h1, rfl⟩, ?_⟩
  rw [h2]; simp
theorem ref13_Form_in {d : List SNode} {s : List SItem} (hs : s.length ≤ 1000) : ref13_Form d s (formS d s) := by
  refine upto (P := fun k (_ : Unit) v => ref13_Form.l1 d s (formS d s) _ k v) s.length (fun i _ => ∀ x ∈ s.take i, formI d x = true) ?_ ?_ () (by simp)
  · intro i _ hi h
    have hat : at? s (i : Int) = some s[i] := by rw [at_nat]; simp [hi]
    cases hf : formI d s[i]
    · refine .inl fun k => ⟨fun _ => ⟨_, hat, _, ref13_form_in, fun _ => ?_, fun h => by simp [hf] at h⟩, fun h => absurd (by omega) (df h)⟩
      unfold formS
      rw [List.all_eq_false]
      exact ⟨_, List.getElem_mem hi, by rw [hf]; simp⟩
    · refine .inr ⟨(), fun x hx => ?_, fun k hk => ⟨fun _ => ⟨_, hat, _, ref13_form_in, fun h => by simp [hf] at h, fun _ => ⟨i64_of (by omega) (by omega), hk⟩⟩, fun h => absurd (by omega) (df h)⟩⟩
      rw [List.take_succ_eq_append_getElem hi] at hx
      rcases List.mem_append.1 hx with hx | hx
      · exact h x hx
      · rw [List.mem_singleton.1 hx]; exact hf
  · intro _ h k
    refine ⟨fun h => absurd (dt h) (by omega), fun _ => ?_⟩
    rw [List.take_length] at h
    show formS d s = true
    unfold formS; rw [List.all_eq_true]; exact h
theorem item_Start_in {d : List SNode} (hd : d.length ≤ 1000) : item_Start d [(1, (d.length : Int) - 1, 0, 0)] := ⟨i64_of (by omega) (by omega), rfl⟩
theorem item_Key_in {s : List SItem} (hs : s.length ≤ 1000) : item_Key s (keyS s) := ⟨hs, rfl⟩
end Go.Proofs.YtdfnbogkniikbaaDoor.V
