/-
  What the calls on parts answer: the printed relations hold of the plain answers.
-/
import Derived.Test.YtkdbiiollbeoeaaP2
import Derived.Test.YtkdbiiollbeoeaaPT
import Derived.Test.YtkdbiiollbeoeaaC3
import Derived.Test.YtkdbiiollbeoeaaR02
namespace Go.Proofs.Ytkdbiiollbeoeaa.V
open Go
set_option linter.unusedVariables false

theorem lk0_le (p : Cl) : 0 ≤ lk0 p ∧ lk0 p ≤ 255 := by
  unfold lk0
  by_cases h : 0 < p.count
  · obtain ⟨n, h1, h2, _, _⟩ := lk_spec h
    rw [h2]; simp; omega
  · have : p.least = (0, false) := least_of_none fun m hm => by
      cases hb : p.has m
      · rfl
      · exact absurd (count_pos hm hb) h
    rw [this]; simp
theorem split_cmp : ByKey lk0 (fun q_ => split_Refine_2 q_.1 q_.2.1 (fun q_ => split_Refine_1 q_.1 q_.2) q_.2.2) := fun x y => by
  have h1 := lk0_le x
  have h2 := lk0_le y
  exact ⟨lk0 x, ⟨_, class_Least_in, rfl⟩, lk0 y, ⟨_, class_Least_in, rfl⟩, i64_of (by omega) (by omega), rfl⟩

theorem flat_len2 (a : Cl) (l : List Cl) : (l.flatMap (pieces a)).length ≤ 2 * l.length := by
  induction l with
  | nil => simp
  | cons p l ih =>
    rw [List.flatMap_cons, List.length_append]
    have : (pieces a p).length ≤ 2 := by
      have := List.length_filter_le (fun q : Cl => decide (0 < q.count)) [p &&& a, p &&& ~~~ a]
      simpa [pieces] using this
    rw [List.length_cons]; omega

theorem split_Refine_in {ps : List Cl} {a : Cl} (hl : ps.length ≤ 1073741823) : split_Refine ps a (splitR ps a) := by
  refine upto (P := fun k (s : List Cl) v => split_Refine.l1 ps a _ k s v) ps.length (fun i s => s = (ps.take i).flatMap (pieces a)) ?_ ?_ _ (by simp)
  · rintro i s hi rfl
    refine .inr ⟨_, rfl, fun k h => ⟨fun _ => ⟨ps[i], by rw [at_nat]; simp [hi], _, class_Both_in, _, class_Not_in, _, class_Both_in, ?_⟩, fun h => absurd (by omega) (df h)⟩⟩
    have hb := flat_len2 a (ps.take i)
    simp only [List.length_take] at hb
    refine upto (P := fun k (s : List Cl) v => split_Refine.l2 _ _ _ k s v) 2 (fun j s => s = (ps.take i).flatMap (pieces a) ++ ([ps[i] &&& a, ps[i] &&& ~~~ a].take j).filter fun q => decide (0 < q.count)) ?_ ?_ _ (by simp)
    · rintro j s hj rfl
      have hlen : (([ps[i] &&& a, ps[i] &&& ~~~ a].take j).filter fun q => decide (0 < q.count)).length ≤ 1 := by
        have := List.length_filter_le (fun q : Cl => decide (0 < q.count)) ([ps[i] &&& a, ps[i] &&& ~~~ a].take j)
        simp at this; omega
      refine .inr ⟨_, rfl, fun k h => ⟨fun _ => ⟨[ps[i] &&& a, ps[i] &&& ~~~ a][j], by rw [at_nat]; simp [hj], _, class_Count_in, fun hc => ?_, fun hc => ?_⟩, fun h => absurd (by simp; omega) (df h)⟩⟩
      · have hc := dt hc
        rw [List.take_succ_eq_append_getElem (by simpa using hj), List.filter_append, List.filter_cons_of_pos (by simp; omega), List.filter_nil, ← List.append_assoc] at h
        exact ⟨by simp only [List.length_append, List.length_cons, List.length_nil]; omega, i64_of (by omega) (by omega), h⟩
      · have hc := df hc
        rw [List.take_succ_eq_append_getElem (by simpa using hj), List.filter_append, List.filter_cons_of_neg (by simp; omega), List.filter_nil, List.append_nil] at h
        exact ⟨i64_of (by omega) (by omega), h⟩
    · rintro s rfl k2
      refine ⟨fun h => absurd (dt h) (by simp), fun _ => ⟨i64_of (by omega) (by omega), ?_⟩⟩
      rw [List.take_succ_eq_append_getElem hi, List.flatMap_append] at h
      simpa [pieces] using h
  · rintro s rfl k
    refine ⟨fun h => absurd (dt h) (by omega), fun _ => ⟨_, stable_in split_cmp ?_, ?_⟩⟩
    · have := flat_len2 a (ps.take ps.length)
      simp only [List.length_take, Nat.min_self] at this
      omega
    · simp [splitR]

theorem splitP_take (l : List Cl) (i : Nat) : (splitP (l.take i)).length ≤ 256 := by
  rw [splitP_eq]
  have := heads_len (l.take i)
  simpa [parts] using this
theorem split_Parts_in {l : List Cl} (hl : l.length ≤ 1073741823) : split_Parts l (splitP l) := by
  refine ⟨_, class_Not_in, ?_⟩
  refine upto (P := fun k (s : List Cl) v => split_Parts.l1 l _ k s v) l.length (fun i s => s = splitP (l.take i)) ?_ ?_ _ (by simp [splitP])
  · rintro i s hi rfl
    have := splitP_take l i
    refine .inr ⟨_, rfl, fun k h => ⟨fun _ => ⟨l[i], by rw [at_nat]; simp [hi], _, split_Refine_in (by omega), i64_of (by omega) (by omega), ?_⟩, fun h => absurd (by omega) (df h)⟩⟩
    have e : splitP (l.take i ++ [l[i]]) = splitR (splitP (l.take i)) l[i] := by unfold splitP; rw [List.foldl_append]; rfl
    rw [List.take_succ_eq_append_getElem hi, e] at h
    exact h
  · rintro s rfl k
    exact ⟨fun h => absurd (dt h) (by omega), fun _ => by rw [List.take_length]; rfl⟩
theorem split_Heads_in {l : List Cl} (hl : l.length ≤ 1073741823) : split_Heads l (splitH l) := by
  refine ⟨_, split_Parts_in hl, ?_⟩
  have hlen := splitP_take l l.length
  rw [List.take_length] at hlen
  refine upto (P := fun k (s : List Int) v => split_Heads.l1 (splitP l) _ k s v) (splitP l).length (fun i s => s = ((splitP l).take i).map lk0) ?_ ?_ _ (by simp)
  · rintro i s hi rfl
    refine .inr ⟨_, rfl, fun k h => ⟨fun _ => ⟨(splitP l)[i], by rw [at_nat]; simp [hi], _, class_Least_in, by simp; omega, i64_of (by omega) (by omega), ?_⟩, fun h => absurd (by omega) (df h)⟩⟩
    rw [List.take_succ_eq_append_getElem hi, List.map_append] at h
    exact h
  · rintro s rfl k
    exact ⟨fun h => absurd (dt h) (by omega), fun _ => by rw [List.take_length]; rfl⟩

theorem ref02_Same_in {a b : List Cl} (ha : a.length < 9223372036854775807) : ref02_Same a b (decide (a = b)) := by
  refine ⟨fun h => ?_, fun h => ?_⟩
  · simp at h
    exact decide_eq_false fun e => by subst e; omega
  · have hl : a.length = b.length := by simp at h; omega
    refine upto (P := fun k (_ : Unit) v => ref02_Same.l1 a b (decide (a = b)) _ k v) a.length (fun i _ => ∀ j (hj : j < i) (h1 : j < a.length), a[j] = b[j]'(by omega)) ?_ ?_ () (by intro j hj; omega)
    · intro i s hi hs
      have hat : at? a (i : Int) = some a[i] := by rw [at_nat]; simp [hi]
      have hbt : at? b (i : Int) = some (b[i]'(by omega)) := by rw [at_nat]; simp [show i < b.length by omega]
      by_cases he : a[i] = b[i]'(by omega)
      · refine .inr ⟨(), fun j hj h1 => ?_, fun k h => ⟨fun _ => ⟨_, hat, _, hbt, fun h => by simp [he] at h, fun _ => ⟨i64_of (by omega) (by omega), h⟩⟩, fun h => absurd (by omega) (df h)⟩⟩
        by_cases hji : j = i
        · subst hji; exact he
        · exact hs j (by omega) h1
      · exact .inl fun k => ⟨fun _ => ⟨_, hat, _, hbt, fun _ => decide_eq_false fun e => he (by subst e; rfl), fun h => by simp at h; exact absurd h he⟩, fun h => absurd (by omega) (df h)⟩
    · intro s hs k
      refine ⟨fun h => absurd (dt h) (by omega), fun _ => ?_⟩
      show decide (a = b) = true
      exact decide_eq_true (List.ext_getElem hl fun j h1 h2 => hs j h1 h1)
theorem ref02_Bytes_in {a b : List Int} (ha : a.length < 9223372036854775807) : ref02_Bytes a b (decide (a = b)) := by
  refine ⟨fun h => ?_, fun h => ?_⟩
  · simp at h
    exact decide_eq_false fun e => by subst e; omega
  · have hl : a.length = b.length := by simp at h; omega
    refine upto (P := fun k (_ : Unit) v => ref02_Bytes.l1 a b (decide (a = b)) _ k v) a.length (fun i _ => ∀ j (hj : j < i) (h1 : j < a.length), a[j] = b[j]'(by omega)) ?_ ?_ () (by intro j hj; omega)
    · intro i s hi hs
      have hat : at? a (i : Int) = some a[i] := by rw [at_nat]; simp [hi]
      have hbt : at? b (i : Int) = some (b[i]'(by omega)) := by rw [at_nat]; simp [show i < b.length by omega]
      by_cases he : a[i] = b[i]'(by omega)
      · refine .inr ⟨(), fun j hj h1 => ?_, fun k h => ⟨fun _ => ⟨_, hat, _, hbt, fun h => by simp [he] at h, fun _ => ⟨i64_of (by omega) (by omega), h⟩⟩, fun h => absurd (by omega) (df h)⟩⟩
        by_cases hji : j = i
        · subst hji; exact he
        · exact hs j (by omega) h1
      · exact .inl fun k => ⟨fun _ => ⟨_, hat, _, hbt, fun _ => decide_eq_false fun e => he (by subst e; rfl), fun h => by simp at h; exact absurd h he⟩, fun h => absurd (by omega) (df h)⟩
    · intro s hs k
      refine ⟨fun h => absurd (dt h) (by omega), fun _ => ?_⟩
      show decide (a = b) = true
      exact decide_eq_true (List.ext_getElem hl fun j h1 h2 => hs j h1 h1)

theorem ref02_like_in {l : List Cl} {c d : Nat} (hc : c < 256) (hd : d < 256) (hl : l.length < 9223372036854775807) : ref02_like l (c : Int) (d : Int) (like l c d) := by
  refine upto (P := fun k (_ : Unit) v => ref02_like.l1 l (c : Int) (d : Int) (like l c d) _ k v) l.length (fun i _ => ∀ j (hj : j < i) (h1 : j < l.length), l[j].has c = l[j].has d) ?_ ?_ () (by intro j hj; omega)
  · intro i s hi hs
    have hat : at? l (i : Int) = some l[i] := by rw [at_nat]; simp [hi]
    by_cases he : l[i].has c = l[i].has d
    · refine .inr ⟨(), fun j hj h1 => ?_, fun k h => ⟨fun _ => ⟨_, hat, _, ref01_Has_in hc, _, hat, _, ref01_Has_in hd, fun h => by simp [he] at h, fun _ => ⟨i64_of (by omega) (by omega), h⟩⟩, fun h => absurd (by omega) (df h)⟩⟩
      by_cases hji : j = i
      · subst hji; exact he
      · exact hs j (by omega) h1
    · refine .inl fun k => ⟨fun _ => ⟨_, hat, _, ref01_Has_in hc, _, hat, _, ref01_Has_in hd, fun _ => ?_, fun h => by simp at h; exact absurd h he⟩, fun h => absurd (by omega) (df h)⟩
      cases hk : like l c d
      · rfl
      · unfold like at hk
        rw [List.all_eq_true] at hk
        exact absurd (eq_of_beq (hk _ (List.getElem_mem hi))) he
  · intro s hs k
    refine ⟨fun h => absurd (dt h) (by omega), fun _ => ?_⟩
    show like l c d = true
    unfold like
    rw [List.all_eq_true]
    intro a ha
    obtain ⟨j, hj, rfl⟩ := List.mem_iff_getElem.1 ha
    rw [hs j hj hj]; simp
end Go.Proofs.Ytkdbiiollbeoeaa.V
