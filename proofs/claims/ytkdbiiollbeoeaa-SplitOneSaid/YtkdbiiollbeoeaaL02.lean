/-
  The laws of parts answer true.
-/
import Derived.Test.YtkdbiiollbeoeaaP4
import Derived.Test.YtkdbiiollbeoeaaL01
namespace Go.Proofs.Ytkdbiiollbeoeaa.V
open Go
set_option linter.unusedVariables false

theorem row35 : Cl.row 3 5 = 56#256 := by decide +kernel
theorem row59 : Cl.row 5 9 = 992#256 := by decide +kernel
theorem heads_awake : heads [56#256, 992#256] = [0, 3, 5, 6] := by decide +kernel
theorem parts_awake : splitP [Cl.row 3 5, Cl.row 5 9] = [part [56#256, 992#256] 0, Cl.row 3 4, Cl.row 5 5, Cl.row 6 9] := by
  rw [splitP_eq, row35, row59]
  unfold parts
  rw [heads_awake]
  simp only [List.map_cons, List.map_nil, List.cons.injEq, true_and, and_true]
  decide +kernel
theorem refine_awake : splitR [Cl.row 5 9, Cl.row 3 5] (Cl.row 3 5) = [Cl.row 3 5, Cl.row 5 5, Cl.row 6 9] := by
  rw [row35, row59]
  unfold splitR
  refine (srt_of ?_ fun c => ?_).symm
  · unfold Srt
    decide +kernel
  · have e : [992#256, 56#256].flatMap (pieces (56#256)) = [Cl.row 5 5, Cl.row 6 9, 56#256] := by decide +kernel
    have e1 : lk0 (Cl.row 5 5) = 5 := by decide +kernel
    have e2 : lk0 (Cl.row 6 9) = 6 := by decide +kernel
    have e3 : lk0 (56#256) = 3 := by decide +kernel
    rw [e]
    simp only [List.filter_cons, List.filter_nil, e1, e2, e3]
    by_cases h3 : c = 3
    · subst h3; simp
    · by_cases h5 : c = 5
      · subst h5; simp
      · by_cases h6 : c = 6
        · subst h6; simp
        · have t3 : ((3 : Int) == c) = false := by simp; omega
          have t5 : ((5 : Int) == c) = false := by simp; omega
          have t6 : ((6 : Int) == c) = false := by simp; omega
          simp [t3, t5, t6]
theorem awake02 : law02_awake true := by
  have h35 : ref01_Row 3 5 (Cl.row 3 5) := ref01_Row_in (by decide) (by decide)
  have h59 : ref01_Row 5 9 (Cl.row 5 9) := ref01_Row_in (by decide) (by decide)
  refine ⟨_, h35, _, h59, _, split_Parts_in (by simp), _, split_Parts_in (by simp), ?_⟩
  rw [parts_awake]
  refine ⟨Cl.row 3 4, fun _ => rfl, _, fun _ => ref01_Row_in (by decide) (by decide), Cl.row 5 5, fun _ => rfl, _, fun _ => ref01_Row_in (by decide) (by decide), _, rfl, Cl.row 6 9, fun _ => rfl, _, fun _ => ref01_Row_in (by decide) (by decide), _, rfl, ~~~ (0#256), fun _ => rfl, _, fun _ => ref01_Row_in (by decide) (by decide), _, fun _ => split_Heads_in (by simp), _, fun _ => ref02_Bytes_in (by simp [splitH, parts_awake]), _, fun _ => split_Refine_in (by simp), _, fun _ => ref01_Row_in (by decide) (by decide), _, fun _ => ref01_Row_in (by decide) (by decide), _, fun _ => ref02_Same_in (by rw [refine_awake]; simp), ?_⟩
  have e1 : splitH [Cl.row 3 5, Cl.row 5 9] = [0, 3, 5, 6] := by rw [splitH_eq, row35, row59, heads_awake]; rfl
  have e2 : (splitP ([] : List Cl)).length = 1 := by rw [splitP_eq, parts_nil]; rfl
  have e3 : ~~~ (0#256) = Cl.row 0 255 := by
    apply Cl.ext; intro c hc
    rw [has_not hc, has_zero, has_row hc]; simp; omega
  rw [e1, refine_awake, e2, e3]
  simp

theorem len_parts (l : List Cl) : (splitP l).length ≤ 256 := by
  rw [splitP_eq]; unfold parts; rw [List.length_map]; exact heads_len l

theorem law02_SplitTells_true {l ps : List Cl} {a : Cl} : law02_SplitTells l ps a true := by
  refine ⟨true, awake02, _, rfl, fun _ => ⟨true, awake02, rfl⟩, fun hb => ?_⟩
  simp only [Bool.not_true, Bool.false_or, Bool.or_eq_false_iff, decide_eq_false_iff_not] at hb
  obtain ⟨h1, h2⟩ := hb
  have hlp := len_parts l
  refine ⟨_, split_Parts_in (by omega), _, ref02_Parts_in (by omega), _, ref02_Same_in (by omega), _, fun _ => split_Heads_in (by omega), _, fun _ => ref02_Heads_in (by omega), _, fun _ => ref02_Bytes_in (by simp [splitH]; omega), _, fun _ => split_Refine_in (by omega), _, fun _ => ref02_Refine_in (by omega), _, fun _ => ref02_Same_in ?_, by simp⟩
  unfold splitR
  rw [srt_len]
  have := flat_len2 a ps
  omega

/-- What a class has of a part: all, or nothing. -/
theorem part_has {l : List Cl} {h : Nat} {a : Cl} (ha : a ∈ l) {n : Nat} (hn : n < 256) (hp : (part l h).has n = true) : a.has h = a.has n := by
  rw [has_part hn] at hp
  unfold like at hp
  rw [List.all_eq_true] at hp
  exact eq_of_beq (hp a ha)
theorem part_both {l : List Cl} {h : Nat} {a : Cl} (ha : a ∈ l) : part l h &&& a = if a.has h then part l h else 0#256 := by
  apply Cl.ext
  intro n hn
  rw [has_and]
  cases hp : (part l h).has n
  · split
    · rw [hp]; rfl
    · rw [has_zero]; rfl
  · rw [← part_has ha hn hp]
    split
    · rename_i e; rw [e, hp]; rfl
    · rename_i e; rw [has_zero]; simpa using e

theorem law02_SplitFine_true {l : List Cl} : law02_SplitFine l true := by
  refine ⟨true, awake02, fun _ => ⟨true, awake02, rfl⟩, fun hb => ?_⟩
  simp only [Bool.not_true, Bool.false_or, decide_eq_false_iff_not] at hb
  refine ⟨_, split_Parts_in (by omega), _, split_Heads_in (by omega), _, rfl, fun hb => ?_, fun _ => ?_⟩
  · exfalso
    have hpos : 0 < (heads l).length := List.length_pos_of_mem (mem_heads.2 ⟨show 0 < 256 by omega, fun d hd => absurd hd (by omega)⟩)
    rw [splitP_eq, splitH_eq] at hb
    simp [parts] at hb
    rw [hb] at hpos; simp at hpos
  · rw [splitP_eq, splitH_eq]
    have hlen := heads_len l
    have hplen : (parts l).length = (heads l).length := by simp [parts]
    refine upto (P := fun k (s : Cl) v => law02_SplitFine.l1 l _ _ true _ k s v) (heads l).length (fun i s => ∀ c, c < 256 → s.has c = ((parts l).take i).any fun p => p.has c) ?_ ?_ _ (fun c hc => by simp [has_zero])
    · intro i s hi hs
      have hat : at? (parts l) (i : Int) = some (part l (heads l)[i]) := by rw [at_nat]; simp [parts, hi]
      have hht : ∀ j (hj : j < (heads l).length), at? ((heads l).map (fun n : Nat => (n : Int))) (j : Int) = some (((heads l)[j] : Nat) : Int) := fun j hj => by rw [at_nat]; simp [hj]
      have hmem : (heads l)[i] ∈ heads l := List.getElem_mem hi
      have hdis : s &&& part l (heads l)[i] = 0#256 := by
        apply Cl.ext
        intro c hc
        rw [has_and, has_zero, hs c hc]
        cases hp : (part l (heads l)[i]).has c
        · simp
        · rw [Bool.and_true, List.any_eq_false]
          intro p hp2 hp3
          obtain ⟨j, hj, rfl⟩ := List.mem_iff_getElem.1 hp2
          simp only [List.length_take] at hj
          have := List.pairwise_iff_getElem.1 (parts_disj l) j i (by omega) (by omega) (by omega) c hc (by simpa using hp3)
          simp only [parts, List.getElem_map] at this
          rw [hp] at this; cases this
      refine .inr ⟨s ||| part l (heads l)[i], fun c hc => ?_, fun k h => ⟨fun _ => ?_, fun h => absurd (by simp; omega) (df h)⟩⟩
      · rw [has_or, hs c hc, List.take_succ_eq_append_getElem (by omega), List.any_append]
        simp [parts]
      · refine ⟨_, hat, _, ref01_Both_in, fun h2 => by rw [hdis] at h2; simp at h2, fun _ => ⟨_, hat, _, ref01_Join_in, _, hat, _, ref01_Least_in, _, fun _ => hht i hi, fun _ => i64_of (by omega) (by omega), (((heads l)[i - 1]'(by omega) : Nat) : Int), fun h2 => ?_, _, fun _ => hht i hi, _, rfl, fun h2 => ?_, fun _ => ?_⟩⟩
        · have h0 := dt h2.2
          rw [show (i : Int) - 1 = ((i - 1 : Nat) : Int) by omega]
          exact hht (i - 1) (by omega)
        · exfalso
          rw [least_part hmem] at h2
          simp at h2
          have := List.pairwise_iff_getElem.1 (heads_sorted l) (i - 1) i (by omega) hi (by omega)
          omega
        · refine upto (P := fun k (_ : Unit) v => law02_SplitFine.l4 l _ _ true _ k v) l.length (fun _ _ => True) ?_ ?_ () trivial
          · intro m _ hm _
            have hlm : at? l (m : Int) = some l[m] := by rw [at_nat]; simp [hm]
            refine .inr ⟨(), trivial, fun k2 h3 => ⟨fun _ => ⟨_, hat, _, hlm, _, ref01_Both_in, _, hat, fun h4 => ?_, fun _ => ⟨i64_of (by omega) (by omega), h3⟩⟩, fun h => absurd (by omega) (df h)⟩⟩
            exfalso
            rw [part_both (List.getElem_mem hm)] at h4
            split at h4 <;> simp at h4
          · intro _ _ k2
            refine ⟨fun h => absurd (dt h) (by omega), fun _ => ?_⟩
            show law02_SplitFine.j4 _ _ _ _ _ _
            refine upto (P := fun k (_ : Unit) v => law02_SplitFine.l2 l _ _ true _ k v) i (fun _ _ => True) ?_ ?_ () trivial
            · intro m _ hm _
              have hlt := List.pairwise_iff_getElem.1 (heads_sorted l) m i (by omega) hi hm
              have hun := (mem_heads.1 hmem).2 _ hlt
              refine .inr ⟨(), trivial, fun k3 h3 => ⟨fun _ => ?_, fun h => absurd (by omega) (df h)⟩⟩
              refine upto (P := fun k (s : Bool) v => law02_SplitFine.l3 l _ _ _ _ k s v) l.length (fun n s => s = !like (l.take n) (heads l)[m] (heads l)[i]) ?_ ?_ _ (by simp [like])
              · rintro n s hn rfl
                have hln : at? l (n : Int) = some l[n] := by rw [at_nat]; simp [hn]
                refine .inr ⟨_, rfl, fun k4 h4 => ⟨fun _ => ⟨_, fun _ => hln, _, fun _ => hht i hi, _, fun _ => ref01_Has_in (mem_heads.1 hmem).1, _, fun _ => hln, _, fun _ => hht m (by omega), _, fun _ => ref01_Has_in (mem_heads.1 (List.getElem_mem _)).1, i64_of (by omega) (by omega), ?_⟩, fun h => absurd (by omega) (df h)⟩⟩
                rw [List.take_succ_eq_append_getElem hn, like_snoc, Bool.not_and] at h4
                rw [show (l[n].has (heads l)[i] != l[n].has (heads l)[m]) = !(l[n].has (heads l)[m] == l[n].has (heads l)[i]) by rw [bne, Bool.beq_comm]]
                exact h4
              · rintro s rfl k4
                refine ⟨fun h => absurd (dt h) (by omega), fun _ => ?_⟩
                rw [List.take_length, hun]
                exact ⟨fun h => by simp at h, fun _ => ⟨i64_of (by omega) (by omega), h3⟩⟩
            · intro _ _ k3
              exact ⟨fun h => absurd (dt h) (by omega), fun _ => ⟨i64_of (by omega) (by omega), h⟩⟩
    · intro s hs k
      refine ⟨fun h => absurd (dt h) (by rw [hplen]; omega), fun _ => ⟨_, ref01_Row_in (by decide) (by decide), ?_⟩⟩
      have : s = Cl.row 0 255 := by
        apply Cl.ext
        intro c hc
        rw [hs c hc, ← hplen, List.take_length, has_row hc]
        obtain ⟨h, hh, _, h3⟩ := head_of (l := l) hc
        rw [show (decide ((0 : Int) ≤ (c : Int)) && decide ((c : Int) ≤ 255)) = true by simp; omega, List.any_eq_true]
        exact ⟨part l h, List.mem_map.2 ⟨h, hh, rfl⟩, by rw [has_part hc, h3]⟩
      rw [this]; simp

/-- Parts depend on what is told apart, and on nothing else. -/
theorem parts_congr {l m : List Cl} (h : ∀ c d, c < 256 → d < 256 → like l c d = like m c d) : parts l = parts m := by
  have hh : heads l = heads m := by
    unfold heads
    refine List.filter_congr fun c hc => ?_
    have hc : c < 256 := by simpa using hc
    rw [Bool.eq_iff_iff, List.all_eq_true, List.all_eq_true]
    refine forall_congr' fun d => forall_congr' fun hd => ?_
    have hd : d < c := by simpa using hd
    rw [h d c (by omega) hc]
  unfold parts
  rw [hh]
  refine List.map_congr_left fun c hc => ?_
  apply Cl.ext
  intro d hd
  rw [has_part hd, has_part hd, h c d (mem_heads.1 hc).1 hd]
theorem like_iff {l : List Cl} {c d : Nat} : like l c d = true ↔ ∀ a ∈ l, a.has c = a.has d := by
  unfold like
  rw [List.all_eq_true]
  exact forall_congr' fun a => forall_congr' fun _ => beq_iff_eq
theorem parts_twice {l : List Cl} {a : Cl} (ha : a ∈ l) : parts (l ++ [a]) = parts l := parts_congr fun c d _ _ => by
  rw [Bool.eq_iff_iff, like_iff, like_iff]
  constructor
  · intro h b hb; exact h b (by simp [hb])
  · intro h b hb
    rcases List.mem_append.1 hb with hb | hb
    · exact h b hb
    · rw [List.mem_singleton.1 hb]; exact h a ha

def turnAt (l : List Cl) (t i : Nat) : Cl := if i % 2 = 1 then ~~~ (l.getD ((i + t) % l.length) 0#256) else l.getD ((i + t) % l.length) 0#256
def turnL (l : List Cl) (t n : Nat) : List Cl := (List.range n).map (turnAt l t)
theorem turnAt_has {l : List Cl} {t i c d : Nat} (hc : c < 256) (hd : d < 256) : (turnAt l t i).has c = (turnAt l t i).has d ↔ (l.getD ((i + t) % l.length) 0#256).has c = (l.getD ((i + t) % l.length) 0#256).has d := by
  unfold turnAt
  split
  · rw [has_not hc, has_not hd]
    cases (l.getD ((i + t) % l.length) 0#256).has c <;> cases (l.getD ((i + t) % l.length) 0#256).has d <;> simp
  · exact Iff.rfl
theorem turn_back {n t j : Nat} (hj : j < n) : ∃ i, i < n ∧ (i + t) % n = j := by
  refine ⟨(j + n * (t + 1) - t) % n, Nat.mod_lt _ (by omega), ?_⟩
  have hle : t ≤ n * (t + 1) := by
    have : 1 * (t + 1) ≤ n * (t + 1) := Nat.mul_le_mul_right _ (by omega)
    omega
  rw [Nat.mod_add_mod, show j + n * (t + 1) - t + t = j + n * (t + 1) by omega, Nat.add_mul_mod_self_left, Nat.mod_eq_of_lt hj]
theorem parts_turn {l : List Cl} {t : Nat} : parts (turnL l t l.length) = parts l := parts_congr fun c d hc hd => by
  rw [Bool.eq_iff_iff, like_iff, like_iff]
  constructor
  · intro h a ha
    obtain ⟨j, hj, rfl⟩ := List.mem_iff_getElem.1 ha
    obtain ⟨i, hi, he⟩ := turn_back (t := t) hj
    have := (turnAt_has hc hd).1 (h (turnAt l t i) (List.mem_map.2 ⟨i, by simpa using hi, rfl⟩))
    rw [he] at this
    simpa [List.getD, hj] using this
  · intro h a ha
    obtain ⟨i, hi, rfl⟩ := List.mem_map.1 ha
    have hi : i < l.length := by simpa using hi
    have hm : (i + t) % l.length < l.length := Nat.mod_lt _ (by omega)
    refine (turnAt_has hc hd).2 (h _ ?_)
    simp [List.getD, hm]

theorem law02_SplitOrder_true {l : List Cl} {t w : Int} (ht : InR .u8 t) (hw : InR .u8 w) : law02_SplitOrder l t w true := by
  refine ⟨true, awake02, _, rfl, fun _ => ⟨true, awake02, rfl⟩, fun hb => ?_⟩
  simp only [Bool.not_true, Bool.false_or, Bool.or_eq_false_iff, decide_eq_false_iff_not, beq_eq_false_iff_ne] at hb
  obtain ⟨h1, h2⟩ := hb
  obtain ⟨t, ht1, rfl⟩ := u8_of ht
  obtain ⟨w, hw1, rfl⟩ := u8_of hw
  have hpos : 0 < l.length := by omega
  have hpl := len_parts l
  refine ⟨_, split_Parts_in (by omega), ?_⟩
  refine upto (P := fun k (s : List Cl) v => law02_SplitOrder.l1 l (t : Int) _ k s v) l.length (fun i s => s = turnL l t i) ?_ ?_ _ (by simp [turnL])
  · rintro i s hi rfl
    have hm : (i + t) % l.length < l.length := Nat.mod_lt _ (by omega)
    have hbase : ∀ k, law02_SplitOrder.l1 l (t : Int) (law02_SplitOrder.j1 l (w : Int) true (splitP l)) k (turnL l t (i + 1)) ((i : Int) + 1) → law02_SplitOrder.j2 (law02_SplitOrder.l1 l (t : Int) (law02_SplitOrder.j1 l (w : Int) true (splitP l)) k) (turnL l t i) (i : Int) (turnAt l t i) := by
      intro k h
      refine ⟨by simp [turnL]; omega, i64_of (by omega) (by omega), ?_⟩
      unfold turnL at h ⊢
      rw [List.range_succ, List.map_append] at h
      exact h
    refine .inr ⟨_, rfl, fun k h => ⟨fun _ => ⟨i64_of (by omega) (by omega), by omega, by omega, l.getD ((i + t) % l.length) 0#256, ?_, by omega, fun h3 => ⟨_, ref01_Not_in, ?_⟩, fun h3 => ?_⟩, fun h => absurd (by omega) (df h)⟩⟩
    · rw [show ((i : Int) + (t : Int)) % (l.length : Int) = (((i + t) % l.length : Nat) : Int) by rw [Int.natCast_emod, Int.natCast_add], at_nat]
      simp [List.getD, hm]
    · have := hbase k h
      unfold turnAt at this
      rw [if_pos (by have := eq_of_beq h3; omega)] at this
      exact this
    · have := hbase k h
      unfold turnAt at this
      rw [if_neg (by have := ne_of_beq_false h3; omega)] at this
      exact this
  · rintro s rfl k
    refine ⟨fun h => absurd (dt h) (by omega), fun _ => ?_⟩
    have hm : w % l.length < l.length := Nat.mod_lt _ hpos
    have hat : at? l ((w : Int) % (l.length : Int)) = some l[w % l.length] := by
      rw [show ((w : Int)) % (l.length : Int) = ((w % l.length : Nat) : Int) by rw [Int.natCast_emod], at_nat]
      simp [hm]
    have e1 : splitP (turnL l t l.length) = splitP l := by rw [splitP_eq, splitP_eq, parts_turn]
    have e2 : splitP (l ++ [l[w % l.length]]) = splitP l := by rw [splitP_eq, splitP_eq, parts_twice (List.getElem_mem hm)]
    have e3 : splitR (splitP l) l[w % l.length] = splitP l := by rw [splitP_eq, splitR_parts, parts_twice (List.getElem_mem hm)]
    refine ⟨by omega, by omega, by omega, _, hat, by simp; omega, _, split_Parts_in (by simp [turnL]; omega), _, ref02_Same_in (by rw [e1]; omega), _, fun _ => split_Parts_in (by simp; omega), _, fun _ => ref02_Same_in (by rw [e2]; omega), _, fun _ => hat, _, fun _ => split_Refine_in (by omega), _, fun _ => ref02_Same_in (by rw [e3]; omega), ?_⟩
    rw [e1, e2, e3]; simp

theorem pieces_pos {a p : Cl} (h : 0 < p.count) : 1 ≤ (pieces a p).length := by
  obtain ⟨n, n1, _, n3, _⟩ := lk_spec h
  cases ha : a.has n
  · have : p &&& ~~~ a ∈ pieces a p := mem_pieces.2 ⟨.inr rfl, count_pos n1 (by rw [has_and, has_not n1, n3, ha]; rfl)⟩
    exact List.length_pos_of_mem this
  · have : p &&& a ∈ pieces a p := mem_pieces.2 ⟨.inl rfl, count_pos n1 (by rw [has_and, n3, ha]; rfl)⟩
    exact List.length_pos_of_mem this
theorem flat_ge {a : Cl} {ps : List Cl} (h : ∀ p ∈ ps, 0 < p.count) : ps.length ≤ (ps.flatMap (pieces a)).length := by
  induction ps with
  | nil => simp
  | cons p ps ih =>
    rw [List.flatMap_cons, List.length_append, List.length_cons]
    have := ih fun q hq => h q (by simp [hq])
    have := pieces_pos (a := a) (h p (by simp))
    omega
theorem law02_SplitMore_true {l : List Cl} {a : Cl} : law02_SplitMore l a true := by
  refine ⟨true, awake02, fun _ => ⟨true, awake02, rfl⟩, fun hb => ?_⟩
  simp only [Bool.not_true, Bool.false_or, decide_eq_false_iff_not] at hb
  have hpl := len_parts l
  have hq : splitP (l ++ [a]) = splitR (splitP l) a := by rw [splitP_eq, splitP_eq, splitR_parts]
  have hg : (splitP l).length ≤ (splitR (splitP l) a).length := by
    unfold splitR; rw [srt_len]
    exact flat_ge fun p hp => parts_pos (by rw [← splitP_eq]; exact hp)
  have hle : (splitR (splitP l) a).length ≤ 2 * (splitP l).length := by
    unfold splitR; rw [srt_len]; exact flat_len2 _ _
  refine ⟨_, split_Parts_in (by omega), by omega, by simp; omega, _, split_Parts_in (by simp; omega), fun _ => i64_of (by omega) (by omega), _, rfl, _, rfl, _, fun _ => split_Refine_in (by omega), _, fun _ => ref02_Same_in (by rw [hq]; omega), ?_⟩
  rw [hq]
  refine ⟨fun h => ?_, fun _ => ?_⟩
  · exfalso; simp at h; omega
  · refine upto (P := fun k (_ : Unit) v => law02_SplitMore.l1 _ _ true _ k v) (splitR (splitP l) a).length (fun _ _ => True) ?_ ?_ () trivial
    · intro i _ hi _
      have hx : (splitR (splitP l) a)[i] ∈ (splitP l).flatMap (pieces a) := (seq_srt lk0 _).perm.mem_iff.2 (List.getElem_mem hi)
      obtain ⟨p, hp, hxp⟩ := List.mem_flatMap.1 hx
      have hxa : at? (splitR (splitP l) a) (i : Int) = some (splitR (splitP l) a)[i] := by rw [at_nat]; simp [hi]
      refine .inr ⟨(), trivial, fun k h => ⟨fun _ => ?_, fun h => absurd (by omega) (df h)⟩⟩
      refine upto (P := fun k (s : Bool) v => law02_SplitMore.l2 _ _ _ _ k s v) (splitP l).length (fun n s => s = ((splitP l).take n).any fun p => (splitR (splitP l) a)[i] &&& p == (splitR (splitP l) a)[i]) ?_ ?_ _ (by simp)
      · rintro n s hn rfl
        refine .inr ⟨_, rfl, fun k2 h2 => ⟨fun _ => ⟨_, fun _ => hxa, (splitP l)[n], fun _ => by rw [at_nat]; simp [hn], _, fun _ => ref01_Both_in, _, fun _ => hxa, i64_of (by omega) (by omega), ?_⟩, fun h => absurd (by omega) (df h)⟩⟩
        rw [List.take_succ_eq_append_getElem hn, List.any_append] at h2
        simpa using h2
      · rintro s rfl k2
        refine ⟨fun h => absurd (dt h) (by omega), fun _ => ?_⟩
        rw [List.take_length]
        have : ((splitP l).any fun p => (splitR (splitP l) a)[i] &&& p == (splitR (splitP l) a)[i]) = true := by
          rw [List.any_eq_true]
          refine ⟨p, hp, ?_⟩
          rw [beq_iff_eq]
          apply Cl.ext
          intro c _
          rw [has_and]
          cases hc : (splitR (splitP l) a)[i].has c
          · rfl
          · rw [pieces_le hxp hc]; rfl
        rw [this]
        exact ⟨fun h => by simp at h, fun _ => ⟨i64_of (by omega) (by omega), h⟩⟩
    · intro _ _ k
      exact ⟨fun h => absurd (dt h) (by omega), fun _ => rfl⟩

/-! ### rows, and their heads -/
theorem bytes_of {l : List Int} (h : ∀ y ∈ l, InR .u8 y) : ∃ F : List Nat, l = F.map (fun n : Nat => (n : Int)) ∧ ∀ n ∈ F, n < 256 := by
  refine ⟨l.map Int.toNat, ?_, fun n hn => ?_⟩
  · rw [List.map_map]
    have : ∀ m : List Int, (∀ y ∈ m, InR .u8 y) → m = m.map ((fun n : Nat => (n : Int)) ∘ Int.toNat) := by
      intro m
      induction m with
      | nil => intro _; rfl
      | cons x m ih =>
        intro h
        rw [List.map_cons, ← ih fun y hy => h y (by simp [hy])]
        have := inR_u8.1 (h x (by simp))
        simp only [Function.comp_apply, List.cons.injEq, and_true]
        omega
    exact this l h
  · obtain ⟨x, hx, rfl⟩ := List.mem_map.1 hn
    have := inR_u8.1 (h x hx)
    omega
def rowT (F L : List Nat) (j : Nat) : Nat := min 255 (F.getD j 0 + L.getD j 0)
def rowN (F L : List Nat) (j : Nat) : Cl := Cl.row ((F.getD j 0 : Nat) : Int) ((rowT F L j : Nat) : Int)
def rowsN (F L : List Nat) (n : Nat) : List Cl := (List.range n).map (rowN F L)
theorem rows_head {F L : List Nat} {n c : Nat} (h : c ∈ heads (rowsN F L n)) : c = 0 ∨ ∃ j, j < n ∧ (c = F.getD j 0 ∨ c = rowT F L j + 1) := by
  obtain ⟨h1, h2⟩ := mem_heads.1 h
  by_cases h0 : c = 0
  · exact .inl h0
  · right
    have h3 := h2 (c - 1) (by omega)
    have h4 : ¬ ∀ a ∈ rowsN F L n, a.has (c - 1) = a.has c := fun h => by rw [like_iff.2 h] at h3; cases h3
    obtain ⟨a, h4⟩ := Classical.not_forall.1 h4
    obtain ⟨ha, h4⟩ := Classical.not_imp.1 h4
    obtain ⟨j, hj, rfl⟩ := List.mem_map.1 ha
    refine ⟨j, by simpa using hj, ?_⟩
    unfold rowN at h4
    rw [has_row (by omega), has_row h1, ← Bool.decide_and, ← Bool.decide_and] at h4
    have h5 : ¬ ((((F.getD j 0 : Nat) : Int) ≤ ((c - 1 : Nat) : Int) ∧ ((c - 1 : Nat) : Int) ≤ ((rowT F L j : Nat) : Int)) ↔ (((F.getD j 0 : Nat) : Int) ≤ (c : Int) ∧ (c : Int) ≤ ((rowT F L j : Nat) : Int))) := fun h => h4 (decide_eq_decide.2 h)
    omega
theorem heads_cut (l : List Cl) {c : Nat} (hc : c ≤ 256) : ∃ tl : List Nat, heads l = headsTo l c ++ tl ∧ ∀ x ∈ tl, c ≤ x := by
  obtain ⟨m, hm⟩ : ∃ m, 256 = c + m := ⟨256 - c, by omega⟩
  refine ⟨((List.range m).map (c + ·)).filter fun c => (List.range c).all fun d => !like l d c, ?_, fun x hx => ?_⟩
  · unfold heads headsTo
    rw [hm, List.range_add, List.filter_append]
  · have := (List.mem_filter.1 hx).1
    obtain ⟨y, _, rfl⟩ := List.mem_map.1 this
    omega
theorem heads_here {l : List Cl} {c : Nat} (hc : c < 256) : ((heads l)[(headsTo l c).length]? = some c) ↔ ((List.range c).all fun d => !like l d c) = true := by
  obtain ⟨tl, h1, h2⟩ := heads_cut l (c := c) (by omega)
  have hmem : c ∈ heads l ↔ ((List.range c).all fun d => !like l d c) = true := by simp [heads, hc]
  rw [← hmem, h1, List.getElem?_append_right (by omega), Nat.sub_self]
  cases tl with
  | nil =>
    simp only [List.append_nil]
    refine ⟨fun h => by simp at h, fun h => absurd (mem_headsTo.1 h).1 (by omega)⟩
  | cons x tl =>
    simp only [List.getElem?_cons_zero, Option.some.injEq]
    constructor
    · rintro rfl; simp
    · intro h
      rcases List.mem_append.1 h with h | h
      · exact absurd (mem_headsTo.1 h).1 (by omega)
      · have hs := heads_sorted l
        rw [h1] at hs
        have hs := (List.pairwise_append.1 hs).2.1
        rw [List.pairwise_cons] at hs
        rcases List.mem_cons.1 h with h | h
        · exact h.symm
        · have := hs.1 c h
          have := h2 x (by simp)
          omega

theorem set_t {l : List Bool} {i k : Nat} (hi : i < l.length) (h : l[k]? = some true ∨ k = i) : (l.set i true)[k]? = some true := by
  rcases h with h | rfl
  · rw [List.getElem?_set]
    split
    · first | rfl | rw [if_pos hi]
    · exact h
  · exact List.getElem?_set_self hi
theorem law02_SplitHeads_true {f g : List Int} (hf : ∀ y ∈ f, InR .u8 y) (hg : ∀ y ∈ g, InR .u8 y) : law02_SplitHeads f g true := by
  obtain ⟨F, rfl, hF⟩ := bytes_of hf
  obtain ⟨L, rfl, hL⟩ := bytes_of hg
  refine ⟨true, awake02, _, rfl, _, rfl, fun _ => ⟨true, awake02, rfl⟩, fun hb => ?_⟩
  simp only [Bool.not_true, Bool.false_or, Bool.or_eq_false_iff, decide_eq_false_iff_not, List.length_map] at hb
  obtain ⟨h1, h2⟩ := hb
  refine ⟨false, rfl, ?_⟩
  refine upto (P := fun k (s : List Cl × List Bool) v => law02_SplitHeads.l2 _ _ _ k s.1 s.2 v) F.length
    (fun i s => s.1 = rowsN F L i ∧ s.2.length = 257 ∧ s.2[0]? = some true ∧ ∀ j, j < i → s.2[F.getD j 0]? = some true ∧ s.2[rowT F L j + 1]? = some true) ?_ ?_ (([] : List Cl), (List.replicate 257 false).set 0 true) ⟨rfl, by rw [List.length_set]; exact List.length_replicate, List.getElem?_set_self (by rw [List.length_replicate]; omega), fun j hj => absurd hj (by omega)⟩
  · rintro i ⟨l, cut⟩ hi ⟨h3, h4, h5, h6⟩
    simp only at h3 h4 h5 h6
    subst h3
    have hFi : at? (F.map (fun n : Nat => (n : Int))) (i : Int) = some ((F.getD i 0 : Nat) : Int) := by rw [at_nat]; simp [List.getD, hi]
    have hLi : at? (L.map (fun n : Nat => (n : Int))) (i : Int) = some ((L.getD i 0 : Nat) : Int) := by rw [at_nat]; simp [List.getD, show i < L.length by omega]
    have bF : F.getD i 0 < 256 := hF _ (by simp [List.getD, hi])
    have bL : L.getD i 0 < 256 := hL _ (by simp [List.getD, show i < L.length by omega])
    have eT : min 255 (((F.getD i 0 : Nat) : Int) + ((L.getD i 0 : Nat) : Int)) = ((rowT F L i : Nat) : Int) := by unfold rowT; omega
    have bT : rowT F L i < 256 := by unfold rowT; omega
    refine .inr ⟨(rowsN F L (i + 1), (cut.set (F.getD i 0) true).set (rowT F L i + 1) true), ⟨rfl, by simpa using h4, ?_, fun j hj => ?_⟩, fun k h => ⟨fun _ => ⟨_, hFi, _, hLi, i64_of (by omega) (by omega), _, hFi, rowN F L i, ?_, by simp [rowsN]; omega, _, hFi, cut[F.getD i 0]'(by omega), by rw [at_nat]; exact List.getElem?_eq_getElem _, i64_of (by omega) (by omega), (cut.set (F.getD i 0) true)[rowT F L i + 1]'(by simp; omega), ?_, i64_of (by omega) (by omega), ?_⟩, fun h => absurd (by simpa using hi) (df h)⟩⟩
    · exact set_t (by rw [List.length_set]; omega) (.inl (set_t (by omega) (.inl h5)))
    · have hj2 : j = i ∨ j < i := by omega
      rcases hj2 with rfl | hj2
      · exact ⟨set_t (by rw [List.length_set]; omega) (.inl (set_t (by omega) (.inr rfl))), set_t (by rw [List.length_set]; omega) (.inr rfl)⟩
      · obtain ⟨a1, a2⟩ := h6 j hj2
        exact ⟨set_t (by rw [List.length_set]; omega) (.inl (set_t (by omega) (.inl a1))), set_t (by rw [List.length_set]; omega) (.inl (set_t (by omega) (.inl a2)))⟩
    · rw [eT, show ((rowT F L i : Nat) : Int) % 256 = ((rowT F L i : Nat) : Int) by omega]
      exact ref01_Row_in (u8_nat bF) (u8_nat bT)
    · rw [eT, show ((rowT F L i : Nat) : Int) + 1 = ((rowT F L i + 1 : Nat) : Int) by omega, at_nat, Int.toNat_natCast]
      exact List.getElem?_eq_getElem _
    · rw [eT, show ((rowT F L i : Nat) : Int) + 1 = ((rowT F L i + 1 : Nat) : Int) by omega, Int.toNat_natCast, Int.toNat_natCast]
      unfold rowsN at h ⊢
      rw [List.range_succ, List.map_append] at h
      exact h
  · rintro ⟨l, cut⟩ ⟨h3, h4, h5, h6⟩ k
    simp only at h3 h4 h5 h6
    subst h3
    refine ⟨fun h => absurd (dt h) (by simp), fun _ => ?_⟩
    show law02_SplitHeads.j2 true (rowsN F L F.length) cut
    have hrl : (rowsN F L F.length).length = F.length := by simp [rowsN]
    have hlen := heads_len (rowsN F L F.length)
    refine ⟨_, split_Heads_in (by omega), ?_⟩
    rw [splitH_eq]
    refine upto (P := fun k (s : Int) v => law02_SplitHeads.l1 cut _ true _ k s v) 256 (fun c s => s = ((headsTo (rowsN F L F.length) c).length : Int)) ?_ ?_ _ rfl
    · rintro c s hc rfl
      have hh := heads_here (l := rowsN F L F.length) hc
      have htl := headsTo_len (rowsN F L F.length) c
      have hcl : ∃ e : Int, ((decide (((headsTo (rowsN F L F.length) c).length : Int) < (((heads (rowsN F L F.length)).map (fun n : Nat => (n : Int))).length : Int))) = true → at? ((heads (rowsN F L F.length)).map (fun n : Nat => (n : Int))) ((headsTo (rowsN F L F.length) c).length : Int) = some e) ∧ ((decide (((headsTo (rowsN F L F.length) c).length : Int) < (((heads (rowsN F L F.length)).map (fun n : Nat => (n : Int))).length : Int))) && (e == (c : Int))) = ((List.range c).all fun d => !like (rowsN F L F.length) d c) := by
        by_cases hlt : (headsTo (rowsN F L F.length) c).length < (heads (rowsN F L F.length)).length
        · refine ⟨(((heads (rowsN F L F.length))[(headsTo (rowsN F L F.length) c).length] : Nat) : Int), fun _ => by rw [at_nat]; simp [hlt], ?_⟩
          rw [Bool.eq_iff_iff, ← hh, List.getElem?_eq_getElem hlt]
          simp; omega
        · refine ⟨0, fun h => absurd (dt h) (by simp; omega), ?_⟩
          rw [Bool.eq_iff_iff, ← hh, List.getElem?_eq_none (by omega)]
          simp; omega
      obtain ⟨e, he1, he2⟩ := hcl
      have hsucc := headsTo_succ (rowsN F L F.length) c
      cases hq : (List.range c).all fun d => !like (rowsN F L F.length) d c
      · rw [if_neg (by rw [hq]; simp)] at hsucc
        refine .inr ⟨_, rfl, fun k2 h => ⟨fun _ => ⟨e, he1, _, rfl, true, fun hb => ?_, fun hb => ?_, fun _ => ⟨fun hb => ?_, fun _ => ⟨i64_of (by omega) (by omega), ?_⟩⟩⟩, fun h => absurd (by omega) (df h)⟩⟩
        · rw [he2, hq] at hb; cases hb
        · simp at hb
        · rw [he2, hq] at hb; cases hb
        · rw [hsucc] at h; exact h
      · rw [if_pos hq] at hsucc
        have hmem : c ∈ heads (rowsN F L F.length) := by
          rw [heads, List.mem_filter]; exact ⟨by simpa using hc, hq⟩
        have hcut : cut[c]? = some true := by
          rcases rows_head hmem with rfl | ⟨j, hj, rfl | rfl⟩
          · exact h5
          · exact (h6 j hj).1
          · exact (h6 j hj).2
        refine .inr ⟨_, rfl, fun k2 h => ⟨fun _ => ⟨e, he1, _, rfl, true, fun _ => by rw [at_nat]; exact hcut, fun hb => ?_, fun _ => ⟨fun _ => ⟨i64_of (by omega) (by omega), i64_of (by omega) (by omega), ?_⟩, fun hb => ?_⟩⟩, fun h => absurd (by omega) (df h)⟩⟩
        · simp at hb
        · rw [hsucc] at h; simpa using h
        · rw [he2, hq] at hb; cases hb
    · rintro s rfl k2
      refine ⟨fun h => absurd (dt h) (by omega), fun _ => ⟨_, fun _ => split_Parts_in (by omega), _, rfl, ?_⟩⟩
      rw [splitP_eq]
      simp [parts, heads, headsTo]

/-! ### one class -/
theorem and_full (a : Cl) : ~~~ (0#256) &&& a = a := by
  apply Cl.ext; intro c hc; rw [has_and, has_not hc, has_zero]; simp
theorem pos_ne {a : Cl} : 0 < a.count ↔ a ≠ 0#256 := by
  constructor
  · rintro h rfl
    obtain ⟨n, _, _, h3, _⟩ := lk_spec h
    rw [has_zero] at h3; cases h3
  · intro h
    apply Classical.byContradiction
    intro h2
    apply h
    apply Cl.ext
    intro c hc
    rw [has_zero]
    cases hb : a.has c
    · rfl
    · exact absurd (count_pos hc hb) h2
theorem split_one (a : Cl) : splitP [a] = srt lk0 ([a, ~~~ a].filter fun q => decide (0 < q.count)) := by
  show splitR [~~~ (0#256)] a = _
  unfold splitR
  rw [List.flatMap_cons, List.flatMap_nil, List.append_nil]
  unfold pieces
  rw [and_full, and_full]
theorem mem_split_one {a x : Cl} (h : x ∈ splitP [a]) : x = a ∨ x = ~~~ a := by
  rw [split_one] at h
  have h2 := (seq_srt lk0 _).perm.mem_iff.2 h
  have := (List.mem_filter.1 h2).1
  simpa using this
def lone (c : Nat) : Cl := Cl.row (c : Int) (c : Int)
theorem has_lone {c d : Nat} (hd : d < 256) : (lone c).has d = decide (d = c) := by
  unfold lone
  rw [has_row hd, ← Bool.decide_and]
  exact decide_eq_decide.2 (by omega)
def lones (a : Cl) (n : Nat) : List Cl := ((List.range n).filter a.has).map lone
theorem lones_len (a : Cl) (n : Nat) : (lones a n).length ≤ n := by
  have := List.length_filter_le a.has (List.range n)
  simpa [lones] using this
theorem like_lones {a : Cl} {c d : Nat} (hc : c < 256) (hd : d < c) : like (a :: lones a 256) d c = (!a.has c && !a.has d) := by
  rw [Bool.eq_iff_iff, like_iff]
  simp only [Bool.and_eq_true, Bool.not_eq_true']
  constructor
  · intro h
    have h0 := h a (by simp)
    have hcf : a.has c = false := by
      cases hac : a.has c
      · rfl
      · have := h (lone c) (List.mem_cons_of_mem _ (List.mem_map.2 ⟨c, List.mem_filter.2 ⟨by simpa using hc, hac⟩, rfl⟩))
        rw [has_lone (by omega), has_lone hc] at this
        simp at this; omega
    exact ⟨hcf, by rw [h0]; exact hcf⟩
  · rintro ⟨h1, h2⟩ b hb
    rcases List.mem_cons.1 hb with rfl | hb
    · rw [h1, h2]
    · obtain ⟨n, hn, rfl⟩ := List.mem_map.1 hb
      have hn := (List.mem_filter.1 hn).2
      rw [has_lone (by omega), has_lone hc]
      rw [decide_eq_false, decide_eq_false]
      · rintro rfl; rw [h1] at hn; cases hn
      · rintro rfl; rw [h2] at hn; cases hn
theorem lones_heads (a : Cl) : (heads (a :: lones a 256)).length = a.count + if ~~~ a = 0#256 then 0 else 1 := by
  have e : (heads (a :: lones a 256)).length = (List.range 256).countP fun c => a.has c || (!a.has c && (List.range c).all a.has) := by
    unfold heads
    rw [← List.countP_eq_length_filter]
    refine countP_congr' fun c hc => ?_
    have hc : c < 256 := by simpa using hc
    rw [Bool.eq_iff_iff, List.all_eq_true]
    simp only [List.mem_range]
    constructor
    · intro h
      cases ha : a.has c
      · simp only [Bool.false_or, Bool.not_false, Bool.true_and, List.all_eq_true, List.mem_range]
        intro d hd
        have := h d hd
        rw [like_lones hc hd, ha] at this
        simpa using this
      · rfl
    · intro h d hd
      rw [like_lones hc hd]
      cases ha : a.has c
      · rw [ha] at h
        simp only [Bool.false_or, Bool.not_false, Bool.true_and, List.all_eq_true, List.mem_range] at h
        simp [h d hd]
      · simp
  rw [e]
  have h1 := countP_split (p := a.has) (q := fun c => !a.has c && (List.range c).all a.has) (List.range 256)
  have h2 : (List.range 256).countP (fun c => a.has c && (!a.has c && (List.range c).all a.has)) = 0 := by
    rw [List.countP_eq_zero]
    intro c _
    cases a.has c <;> simp
  have h3 : (List.range 256).countP (fun c => !a.has c && (List.range c).all a.has) = if ~~~ a = 0#256 then 0 else 1 := by
    split
    · rename_i hz
      rw [List.countP_eq_zero]
      intro c hc
      have := congrArg (fun x : Cl => x.has c) hz
      simp only [has_not (show c < 256 by simpa using hc), has_zero] at this
      rw [this]; simp
    · rename_i hz
      obtain ⟨n, n1, _, n3, n4⟩ := lk_spec (pos_ne.2 hz)
      rw [has_not n1] at n3
      have hn : ∀ m, m < n → a.has m = true := fun m hm => by
        have := n4 m hm
        rw [has_not (by omega)] at this
        simpa using this
      have : (List.range 256).countP (fun c => !a.has c && (List.range c).all a.has) = (List.range 256).countP (fun m => decide (n ≤ m) && decide (m ≤ n)) := countP_congr' fun c hc => by
        rw [← Bool.decide_and, Bool.eq_iff_iff, decide_eq_true_iff]
        simp only [Bool.and_eq_true, List.all_eq_true, List.mem_range]
        constructor
        · rintro ⟨c1, c2⟩
          have : ¬ c < n := fun h => by rw [hn c h] at c1; cases c1
          have : ¬ n < c := fun h => by rw [c2 n h] at n3; cases n3
          omega
        · intro h
          have : c = n := by omega
          subst this
          exact ⟨n3, hn⟩
      rw [this, countP_range]; omega
  unfold Cl.count
  omega

theorem law02_SplitOne_true {a : Cl} : law02_SplitOne a true := by
  refine ⟨true, awake02, fun h => by simp at h, fun _ => ⟨_, split_Parts_in (by simp), _, ref01_Not_in, ?_⟩⟩
  have hpl := len_parts [a]
  refine upto (P := fun k (s : Int) v => law02_SplitOne.l2 a _ _ true _ k s v) (splitP [a]).length (fun i s => s = (i : Int)) ?_ ?_ _ rfl
  · rintro i s hi rfl
    have hat : at? (splitP [a]) (i : Int) = some (splitP [a])[i] := by rw [at_nat]; simp [hi]
    have hx : (splitP [a])[i] = a ∨ (splitP [a])[i] = ~~~ a := mem_split_one (List.getElem_mem hi)
    refine .inr ⟨_, rfl, fun k h => ⟨fun _ => ⟨_, hat, _, fun _ => hat, fun hb => ?_, fun _ => ⟨i64_of (by omega) (by omega), i64_of (by omega) (by omega), by simpa using h⟩⟩, fun h => absurd (by omega) (df h)⟩⟩
    exfalso
    rcases hx with hx | hx <;> rw [hx] at hb <;> simp at hb
  · rintro s rfl k
    refine ⟨fun h => absurd (dt h) (by omega), fun _ => ?_⟩
    have key : ∀ w : Int, w = ((splitP [a]).length : Int) → law02_SplitOne.j3 a true (~~~ a) ((splitP [a]).length : Int) w := by
      rintro w rfl
      refine ⟨fun h => by simp at h, fun _ => ?_⟩
      refine upto (P := fun k (s : List Cl × Int) v => law02_SplitOne.l1 a _ k s.1 s.2 v) 256 (fun c s => s.1 = a :: lones a c ∧ s.2 = ((lones a c).length : Int)) ?_ ?_ ([a], 0) ⟨rfl, rfl⟩
      · rintro c ⟨l, n⟩ hc ⟨h1, h2⟩
        simp only at h1 h2
        subst h1 h2
        have hll := lones_len a c
        have hs : lones a (c + 1) = lones a c ++ if a.has c then [lone c] else [] := by
          unfold lones
          rw [List.range_succ, List.filter_append, List.map_append]
          congr 1
          cases hb : a.has c
          · simp [hb]
          · simp [hb]
        refine .inr ⟨(a :: lones a (c + 1), ((lones a (c + 1)).length : Int)), ⟨rfl, rfl⟩, fun k2 h => ⟨fun _ => ⟨_, ref01_Has_mod hc, fun hb => ⟨lone c, ?_, by simp; omega, i64_of (by omega) (by omega), i64_of (by omega) (by omega), ?_⟩, fun hb => ⟨i64_of (by omega) (by omega), ?_⟩⟩, fun h => absurd (by omega) (df h)⟩⟩
        · rw [show (c : Int) % 256 = c by omega]; exact ref01_Row_in (u8_nat hc) (u8_nat hc)
        · simp only [hs, hb, if_true] at h
          simpa using h
        · simp only [hs, hb] at h
          simpa using h
      · rintro ⟨l, n⟩ ⟨h1, h2⟩ k2
        simp only at h1 h2
        subst h1 h2
        have hll := lones_len a 256
        have hc : (lones a 256).length = a.count := by
          simp [lones, Cl.count, List.countP_eq_length_filter]
        have hh := lones_heads a
        have key2 : ∀ n : Int, n = (((splitP (a :: lones a 256)).length : Nat) : Int) → law02_SplitOne.j1 true (a :: lones a 256) n := by
          rintro n rfl
          refine ⟨_, fun _ => split_Parts_in (by simp; omega), _, rfl, by simp⟩
        have hsp : (splitP (a :: lones a 256)).length = (heads (a :: lones a 256)).length := by rw [splitP_eq]; simp [parts]
        refine ⟨fun h => absurd (dt h) (by omega), fun _ => ⟨fun hb => ⟨i64_of (by omega) (by omega), key2 _ ?_⟩, fun hb => key2 _ ?_⟩⟩
        · have : ~~~ a ≠ 0#256 := by simpa using hb
          rw [hsp, hh, if_neg this, hc]; rfl
        · have : ~~~ a = 0#256 := by simpa using hb
          rw [hsp, hh, if_pos this, hc]; rfl
    have hlen : (splitP [a]).length = (if a = 0#256 then 0 else 1) + (if ~~~ a = 0#256 then 0 else 1) := by
      rw [split_one, srt_len, List.filter_cons, List.filter_cons, List.filter_nil]
      by_cases h1 : a = 0#256
      · have h2 : ~~~ a ≠ 0#256 := by rw [h1]; decide
        rw [if_neg (by simpa [pos_ne] using h1), if_pos (by simpa [pos_ne] using h2), if_pos h1, if_neg h2]; rfl
      · by_cases h2 : ~~~ a = 0#256
        · rw [if_pos (by simpa [pos_ne] using h1), if_neg (by simp [h2, Cl.count, has_zero]), if_neg h1, if_pos h2]; rfl
        · rw [if_pos (by simpa [pos_ne] using h1), if_pos (by simpa [pos_ne] using h2), if_neg h1, if_neg h2]; rfl
    refine ⟨fun hb => key 1 ?_, fun hb => key 2 ?_⟩
    · rw [hlen]
      simp only [Bool.or_eq_true, beq_iff_eq] at hb
      rcases hb with hb | hb
      · rw [if_pos hb, if_neg (by rw [hb]; decide)]; rfl
      · rw [if_neg (by rintro rfl; revert hb; decide), if_pos hb]; rfl
    · rw [hlen]
      simp only [Bool.or_eq_false_iff, beq_eq_false_iff_ne] at hb
      rw [if_neg hb.1, if_neg hb.2]; rfl
end Go.Proofs.Ytkdbiiollbeoeaa.V
