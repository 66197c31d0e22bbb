/-
  What the document's calls on parts answer.
-/
import Derived.Test.YtkdbiiollbeoeaaP3
namespace Go.Proofs.Ytkdbiiollbeoeaa.V
open Go
set_option linter.unusedVariables false

/-- The heads below a byte. -/
def headsTo (l : List Cl) (c : Nat) : List Nat := (List.range c).filter fun c => (List.range c).all fun d => !like l d c
theorem headsTo_len (l : List Cl) (c : Nat) : (headsTo l c).length ≤ c := by
  have := List.length_filter_le (fun c => (List.range c).all fun d => !like l d c) (List.range c)
  simpa [headsTo] using this
theorem mem_headsTo {l : List Cl} {c h : Nat} : h ∈ headsTo l c ↔ h < c ∧ ∀ d, d < h → like l d h = false := by simp [headsTo]
theorem head_any {l : List Cl} {c : Nat} (hc : c < 256) : ((headsTo l c).any fun h => like l h c) = !((List.range c).all fun d => !like l d c) := by
  cases h : (List.range c).all fun d => !like l d c
  · rw [Bool.not_false, List.any_eq_true]
    have : ∃ d, d < c ∧ like l d c = true := by
      rw [List.all_eq_false] at h
      obtain ⟨d, hd, h2⟩ := h
      exact ⟨d, by simpa using hd, by simpa using h2⟩
    obtain ⟨d, hd, h2⟩ := this
    obtain ⟨e, he, hed, hel⟩ := head_of (l := l) (c := d) (by omega)
    exact ⟨e, mem_headsTo.2 ⟨by omega, (mem_heads.1 he).2⟩, like_trans hel h2⟩
  · rw [Bool.not_true, List.any_eq_false]
    rw [List.all_eq_true] at h
    intro e he
    have := h e (by simpa using (mem_headsTo.1 he).1)
    simpa using this

theorem headsTo_succ (l : List Cl) (c : Nat) : headsTo l (c + 1) = if ((List.range c).all fun d => !like l d c) = true then headsTo l c ++ [c] else headsTo l c := by
  unfold headsTo
  rw [List.range_succ, List.filter_append]
  split
  · rename_i h; rw [List.filter_cons_of_pos (by exact h)]; rfl
  · rename_i h; rw [List.filter_cons_of_neg (by exact h)]; simp

theorem ref02_Heads_in {l : List Cl} (hl : l.length < 9223372036854775807) : ref02_Heads l (splitH l) := by
  rw [splitH_eq]
  refine upto (P := fun k (s : List Int) v => ref02_Heads.l1 l _ k s v) 256 (fun c s => s = (headsTo l c).map (fun n : Nat => (n : Int))) ?_ ?_ _ (by simp [headsTo])
  · rintro c s hc rfl
    have hlen := headsTo_len l c
    refine .inr ⟨_, rfl, fun k h => ⟨fun _ => ?_, fun h => absurd (by omega) (df h)⟩⟩
    have hbase : ∀ b : Bool, b = (!(headsTo l c).any fun h => like l h c) → ref02_Heads.j2 (ref02_Heads.l1 l (ref02_Heads.j1 ((heads l).map (fun n : Nat => (n : Int)))) k) ((headsTo l c).map (fun n : Nat => (n : Int))) (c : Int) b := by
      intro b hb
      rw [head_any hc, Bool.not_not] at hb
      rw [headsTo_succ, ← hb] at h
      refine ⟨fun h2 => ⟨by simp; omega, i64_of (by omega) (by omega), ?_⟩, fun h2 => ⟨i64_of (by omega) (by omega), ?_⟩⟩
      · rw [show (c : Int) % 256 = c by omega]
        rw [if_pos h2] at h
        simpa using h
      · rw [if_neg (by rw [h2]; simp)] at h
        exact h
    refine upto (P := fun k (s : Bool) v => ref02_Heads.l2 l ((headsTo l c).map (fun n : Nat => (n : Int))) (c : Int) _ k s v) (headsTo l c).length (fun i s => s = !((headsTo l c).take i).any fun h => like l h c) ?_ ?_ _ (by simp)
    · rintro i s hi rfl
      cases ha : ((headsTo l c).take i).any fun h => like l h c
      · refine .inr ⟨_, rfl, fun k2 h3 => ⟨fun _ => ⟨(((headsTo l c)[i] : Nat) : Int), by rw [at_nat]; simp [hi], like l (headsTo l c)[i] c, ?_, i64_of (by omega) (by omega), ?_⟩, fun h4 => ?_⟩⟩
        · rw [show (c : Int) % 256 = c by omega]
          exact ref02_like_in (by have := (mem_headsTo.1 (List.getElem_mem hi)).1; omega) hc hl
        · rw [List.take_succ_eq_append_getElem hi, List.any_append, ha] at h3
          simpa using h3
        · simp [hi] at h4
      · refine .inl fun k2 => ⟨fun h4 => by simp at h4, fun _ => hbase _ ?_⟩
        have : ((headsTo l c).any fun h => like l h c) = true := by
          rw [List.any_eq_true] at ha ⊢
          obtain ⟨x, hx, hx2⟩ := ha
          exact ⟨x, List.mem_of_mem_take hx, hx2⟩
        rw [this]
    · rintro s rfl k2
      rw [List.take_length]
      exact ⟨fun h4 => by simp at h4, fun _ => hbase _ rfl⟩
  · rintro s rfl k
    exact ⟨fun h => absurd (dt h) (by omega), fun _ => rfl⟩

theorem ref02_Parts_in {l : List Cl} (hl : l.length < 9223372036854775807) : ref02_Parts l (splitP l) := by
  rw [splitP_eq]
  refine ⟨_, ref02_Heads_in hl, ?_⟩
  rw [splitH_eq]
  have hlen := heads_len l
  refine upto (P := fun k (s : List Cl) v => ref02_Parts.l1 l _ _ k s v) (heads l).length (fun i s => s = ((heads l).take i).map (part l)) ?_ ?_ _ (by simp)
  · rintro i s hi rfl
    have hh := (mem_heads.1 (List.getElem_mem hi)).1
    refine .inr ⟨_, rfl, fun k h => ⟨fun _ => ?_, fun h => absurd (by simp; omega) (df h)⟩⟩
    refine upto (P := fun k (s : List Bool) v => ref02_Parts.l2 l _ _ _ k s v) 256 (fun c s => s.length = 256 ∧ ∀ n, n < 256 → n < c → s[n]? = some (like l (heads l)[i] n)) ?_ ?_ _ ⟨List.length_replicate, fun n _ h => by omega⟩
    · rintro c s hc ⟨h1, h2⟩
      refine .inr ⟨s.set c (like l (heads l)[i] c), ⟨by simpa using h1, fun n hn hnc => ?_⟩, fun k2 h3 => ⟨fun _ => ⟨(((heads l)[i] : Nat) : Int), by rw [at_nat]; simp [hi], like l (heads l)[i] c, ?_, s[c]'(by omega), by rw [at_nat, List.getElem?_eq_getElem (by omega)], i64_of (by omega) (by omega), ?_⟩, fun h => absurd (by omega) (df h)⟩⟩
      · rw [List.getElem?_set]
        split
        · rename_i e; subst e; simp [show c < s.length by omega]
        · exact h2 n hn (by omega)
      · rw [show (c : Int) % 256 = c by omega]; exact ref02_like_in hh hc hl
      · simpa using h3
    · rintro s ⟨h1, h2⟩ k2
      refine ⟨fun h => absurd (dt h) (by omega), fun _ => ⟨_, ref01_Of_in h1, by simp; omega, i64_of (by omega) (by omega), ?_⟩⟩
      have e : Cl.ofL s = part l (heads l)[i] := ofL_set fun n hn => h2 n hn hn
      rw [e]
      rw [List.take_succ_eq_append_getElem hi, List.map_append] at h
      exact h
  · rintro s rfl k
    refine ⟨fun h => absurd (dt h) (by simp), fun _ => ?_⟩
    rw [List.take_length]; rfl

/-- Has it this least byte? -/
def isL (c : Int) (q : Cl) : Bool := q.least.2 && (q.least.1 == c)
theorem isL_pos {q : Cl} : q.least.2 = decide (0 < q.count) := by
  by_cases h : 0 < q.count
  · obtain ⟨n, _, h2, _, _⟩ := lk_spec h
    rw [h2]; simp [h]
  · have : q.least = (0, false) := least_of_none fun m hm => by
      cases hb : q.has m
      · rfl
      · exact absurd (count_pos hm hb) h
    rw [this]; simp [h]
def two (a p : Cl) : List Cl := [p &&& a, p &&& ~~~ a]
theorem pieces_two (ps : List Cl) (a : Cl) : ps.flatMap (pieces a) = (ps.flatMap (two a)).filter fun q => decide (0 < q.count) := by
  induction ps with
  | nil => rfl
  | cons p ps ih => rw [List.flatMap_cons, List.flatMap_cons, List.filter_append, ih]; rfl
theorem flat_isL (L : List Cl) (c : Int) (n : Nat) : (((List.range n).flatMap fun m : Nat => L.filter (isL (m : Int))).filter fun q => lk0 q == c) = if 0 ≤ c ∧ c < (n : Int) then L.filter (isL c) else [] := by
  have one : ∀ m : Nat, ((L.filter (isL (m : Int))).filter fun q => lk0 q == c) = if (m : Int) = c then L.filter (isL c) else [] := by
    intro m
    rw [List.filter_filter]
    split
    · rename_i h
      subst h
      refine List.filter_congr fun q _ => ?_
      unfold isL lk0
      cases q.least.1 == (m : Int) <;> simp
    · rename_i h
      rw [List.filter_eq_nil_iff]
      intro q _ hq
      unfold isL lk0 at hq
      simp at hq
      omega
  induction n with
  | zero => rw [if_neg (by omega)]; rfl
  | succ n ih =>
    rw [List.range_succ, List.flatMap_append, List.filter_append, ih]
    simp only [List.flatMap_cons, List.flatMap_nil, List.append_nil]
    rw [one]
    by_cases h1 : (n : Int) = c
    · rw [if_pos h1, if_neg (by omega), if_pos (by omega)]; simp
    · rw [if_neg h1]
      by_cases h2 : 0 ≤ c ∧ c < (n : Int)
      · rw [if_pos h2, if_pos (by omega)]; simp
      · rw [if_neg h2, if_neg (by omega)]; rfl
theorem refine_eq (ps : List Cl) (a : Cl) : (List.range 256).flatMap (fun m : Nat => (ps.flatMap (two a)).filter (isL (m : Int))) = splitR ps a := by
  unfold splitR
  refine srt_of ?_ fun c => ?_
  · unfold Srt
    rw [List.pairwise_flatMap]
    have hk : ∀ (m : Nat) (q : Cl), q ∈ (ps.flatMap (two a)).filter (isL (m : Int)) → lk0 q = (m : Int) := fun m q hq => by
      have := (List.mem_filter.1 hq).2
      unfold isL at this
      simp at this
      exact this.2
    refine ⟨fun m _ => ?_, (List.pairwise_lt_range).imp fun {x y} hxy p hp q hq => by rw [hk x p hp, hk y q hq]; omega⟩
    exact List.pairwise_iff_getElem.2 fun i j hi hj _ => by rw [hk m _ (List.getElem_mem hi), hk m _ (List.getElem_mem hj)]; exact Int.le_refl _
  · rw [flat_isL, pieces_two, List.filter_filter]
    by_cases h : 0 ≤ c ∧ c < ((256 : Nat) : Int)
    · rw [if_pos h]
      refine List.filter_congr fun q _ => ?_
      unfold isL lk0
      rw [isL_pos, Bool.and_comm]
    · rw [if_neg h]
      rw [List.filter_eq_nil_iff.2]
      intro q _ hq
      have := lk0_le q
      simp at hq
      omega
theorem two_len (a : Cl) (l : List Cl) : (l.flatMap (two a)).length = 2 * l.length := by
  induction l with
  | nil => rfl
  | cons p l ih => rw [List.flatMap_cons, List.length_append, ih, List.length_cons]; simp [two]; omega

theorem ref02_Refine_in {ps : List Cl} {a : Cl} (hl : ps.length ≤ 4194303) : ref02_Refine ps a (splitR ps a) := by
  refine upto (P := fun k (s : List Cl) v => ref02_Refine.l3 ps a _ k s v) ps.length (fun i s => s = (ps.take i).flatMap (two a)) ?_ ?_ _ (by simp)
  · rintro i s hi rfl
    have hat : at? ps (i : Int) = some ps[i] := by rw [at_nat]; simp [hi]
    have hlen := two_len a (ps.take i)
    simp only [List.length_take] at hlen
    refine .inr ⟨_, rfl, fun k h => ⟨fun _ => ⟨_, hat, _, ref01_Both_in, by simp only [List.length_cons, List.length_nil]; omega, _, hat, _, ref01_Not_in, _, ref01_Both_in, by simp only [List.length_append, List.length_cons, List.length_nil]; omega, i64_of (by omega) (by omega), ?_⟩, fun h => absurd (by omega) (df h)⟩⟩
    rw [List.take_succ_eq_append_getElem hi, List.flatMap_append] at h
    simpa [two] using h
  · rintro s rfl k
    refine ⟨fun h => absurd (dt h) (by omega), fun _ => ?_⟩
    rw [List.take_length, ← refine_eq]
    have hlen := two_len a ps
    have hle : ∀ c : Nat, ((List.range c).flatMap fun m : Nat => (ps.flatMap (two a)).filter (isL (m : Int))).length ≤ c * (2 * ps.length) := by
      intro c
      induction c with
      | zero => simp
      | succ c ih =>
        rw [List.range_succ, List.flatMap_append, List.length_append]
        simp only [List.flatMap_cons, List.flatMap_nil, List.append_nil]
        have := List.length_filter_le (isL (c : Int)) (ps.flatMap (two a))
        rw [Nat.add_mul]; omega
    refine upto (P := fun k (s : List Cl) v => ref02_Refine.l1 (ps.flatMap (two a)) _ k s v) 256 (fun c s => s = (List.range c).flatMap fun m : Nat => (ps.flatMap (two a)).filter (isL (m : Int))) ?_ ?_ _ (by simp)
    · rintro c s hc rfl
      refine .inr ⟨_, rfl, fun k2 h => ⟨fun _ => ?_, fun h => absurd (by omega) (df h)⟩⟩
      have hcl := hle c
      have hcm : c * (2 * ps.length) ≤ 255 * (2 * ps.length) := Nat.mul_le_mul_right _ (by omega)
      refine upto (P := fun k (s : List Cl) v => ref02_Refine.l2 (ps.flatMap (two a)) _ _ k s v) (ps.flatMap (two a)).length (fun i s => s = ((List.range c).flatMap fun m : Nat => (ps.flatMap (two a)).filter (isL (m : Int))) ++ ((ps.flatMap (two a)).take i).filter (isL (c : Int))) ?_ ?_ _ (by simp)
      · rintro i s hi rfl
        have hat : at? (ps.flatMap (two a)) (i : Int) = some (ps.flatMap (two a))[i] := by rw [at_nat]; exact List.getElem?_eq_getElem hi
        have hfl := List.length_filter_le (isL (c : Int)) ((ps.flatMap (two a)).take i)
        simp only [List.length_take] at hfl
        refine .inr ⟨_, rfl, fun k3 h3 => ⟨fun _ => ⟨_, hat, _, ref01_Least_in, fun hb => ⟨_, hat, by simp only [List.length_append, List.length_cons, List.length_nil]; omega, i64_of (by omega) (by omega), ?_⟩, fun hb => ⟨i64_of (by omega) (by omega), ?_⟩⟩, fun h => absurd (by omega) (df h)⟩⟩
        · rw [List.take_succ_eq_append_getElem hi, List.filter_append, List.filter_cons_of_pos (by exact hb), List.filter_nil, ← List.append_assoc] at h3
          exact h3
        · rw [List.take_succ_eq_append_getElem hi, List.filter_append, List.filter_cons_of_neg (by unfold isL; rw [hb]; simp), List.filter_nil, List.append_nil] at h3
          exact h3
      · rintro s rfl k3
        refine ⟨fun h => absurd (dt h) (by omega), fun _ => ⟨i64_of (by omega) (by omega), ?_⟩⟩
        have e : (List.range (c + 1)).flatMap (fun m : Nat => (ps.flatMap (two a)).filter (isL (m : Int))) = ((List.range c).flatMap fun m : Nat => (ps.flatMap (two a)).filter (isL (m : Int))) ++ (ps.flatMap (two a)).filter (isL (c : Int)) := by
          rw [List.range_succ, List.flatMap_append]
          simp only [List.flatMap_cons, List.flatMap_nil, List.append_nil]
        rw [e] at h
        rw [List.take_length]
        exact h
    · rintro s rfl k2
      exact ⟨fun h => absurd (dt h) (by omega), fun _ => rfl⟩
end Go.Proofs.Ytkdbiiollbeoeaa.V
