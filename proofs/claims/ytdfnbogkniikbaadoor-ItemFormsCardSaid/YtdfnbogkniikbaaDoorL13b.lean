/-
  The laws of states that speak of descriptions answer true.
-/
import Derived.Test.YtdfnbogkniikbaaDoorL13
import Derived.Test.YtdfnbogkniikbaaDoorP08
namespace Go.Proofs.YtdfnbogkniikbaaDoor.V
open Go
set_option linter.unusedVariables false

abbrev Txt (d : List SNode) : Prop := ∀ n ∈ d, n.2.2.2.2.2.2.length ≤ 140737488351232
theorem dok {d : List SNode} (hl : d.length ≤ 100) (ht : Txt d) : DOk d := ⟨by omega, fun n hn => by have := ht n hn; omega⟩
/-- What the guards of the laws come to. -/
theorem guard_ex {d : List SNode} (ht : Txt d) : ∃ r6 r8 : Bool, ref04_Few d r6 ∧ (r6 = true → d.length ≤ 100) ∧ (r6 = true → ref08_Right d r8) := by
  obtain ⟨r6, h6, h6b⟩ := few_ex ht
  cases r6
  · exact ⟨false, false, h6, (fun h => by cases h), (fun h => by cases h)⟩
  · obtain ⟨r8, h8⟩ := right_ex (d := d) (by have := h6b rfl; omega) ht
    exact ⟨true, r8, h6, h6b, fun _ => h8⟩

theorem law13_ItemTells_true {d : List SNode} {s t : List SItem} (ht : Txt d) (hr : ∀ x ∈ s, ItR x) : law13_ItemTells d s t true := by
  obtain ⟨r6, r8, h6, h6b, h8⟩ := guard_ex ht
  refine ⟨true, awake13, r6, fun _ => h6, r8, fun h => h8 (by simpa using h), _, rfl, fun _ => ⟨true, awake13, rfl⟩, fun hb => ?_⟩
  simp only [Bool.not_true, Bool.false_or, Bool.or_eq_false_iff, Bool.not_eq_false', decide_eq_false_iff_not] at hb
  obtain ⟨⟨⟨g1, g2⟩, g3⟩, g4⟩ := hb
  have hl := h6b g1
  have hd := dok hl ht
  have hll := low_len s
  refine ⟨_, item_Lower_in (by omega) hr, _, ref13_Lower_in (by omega) hr, _, item_Start_in (by omega), _, item_Form_in hd (by omega), _, ref13_Form_in (by omega), _, fun _ => item_Compare_in (by omega), _, fun _ => ref13_Compare_in (by omega) (by omega), _, fun _ => ref13_Same_in (by omega) (by omega), _, rfl, fun _ => i64_of (by omega) (by omega), _, fun _ => ref13_Same_in (by simp) (by simp), _, fun _ => item_Key_in (by omega), _, fun _ => item_Key_in (by omega), _, fun _ => ref13_Same_in (by omega) (by omega), ?_⟩
  rw [keyS_beq]
  simp

theorem formS_app {d : List SNode} {s t : List SItem} : formS d (s ++ t) = (formS d s && formS d t) := by simp [formS]
theorem formS_set {d : List SNode} {s : List SItem} {y : SItem} (hs : s.length ≠ 0) (hy : formI d y = false) : formS d (s.set 0 y) = false := by
  cases s with
  | nil => simp at hs
  | cons x s => simp [formS, hy]
theorem law13_ItemForms_true {d : List SNode} {s t : List SItem} {far : Int} (ht : Txt d) (hf : InR .u8 far) : law13_ItemForms d s t far true := by
  obtain ⟨r6, r8, h6, h6b, h8⟩ := guard_ex ht
  rw [inR_u8] at hf
  refine ⟨true, awake13, r6, fun _ => h6, r8, fun h => h8 (by simpa using h), _, rfl, fun _ => ⟨true, awake13, rfl⟩, fun hb => ?_⟩
  simp only [Bool.not_true, Bool.false_or, Bool.or_eq_false_iff, Bool.not_eq_false', decide_eq_false_iff_not] at hb
  obtain ⟨⟨⟨g1, g2⟩, g3⟩, g4⟩ := hb
  have hl := h6b g1
  have hd := dok hl ht
  rw [List.nil_append]
  refine ⟨by simp; omega, by omega, _, item_Form_in hd (by simp; omega), _, item_Form_in hd (by omega), _, fun _ => item_Form_in hd (by omega), _, fun _ => item_Form_in hd (by simp), fun h => ?_, fun _ => ⟨fun _ => rfl, fun hne => ?_⟩⟩
  · exfalso
    rw [formS_app] at h
    simp [formS] at h
  · have hn : s.length ≠ 0 := by simpa using hne
    have hat : at? s 0 = some s[0] := by
      have : at? s ((0 : Nat) : Int) = some s[0] := by rw [at_nat]; simp [show 0 < s.length by omega]
      exact this
    refine ⟨_, item_Form_in hd (by omega), fun _ => ⟨by omega, by omega⟩, _, fun _ => item_Form_in hd (by simp; omega), fun h => ?_, fun _ => ?_⟩
    · exfalso
      simp only [Bool.and_eq_true, Bool.not_eq_true'] at h
      obtain ⟨h1, h2⟩ := h
      unfold formS at h1 h2
      rw [List.all_eq_true] at h1
      rw [List.all_eq_false] at h2
      obtain ⟨x, hx, hx2⟩ := h2
      exact hx2 (h1 x (List.mem_of_mem_drop hx))
    · have hy1 : formI d (1, (d.length : Int) + far, 0, 0) = false := by
        unfold formI
        rw [if_neg (show ¬ (1 : Int) = 5 by decide), at_none (.inr (by show (d.length : Int) ≤ (d.length : Int) + far; omega))]
      have hy2 : ∀ a b c, formI d (6 + far, a, b, c) = false := fun a b c => by
        unfold formI
        rw [if_neg (by show ¬ 6 + far = 5; omega)]
        show (match at? d a with | none => false | some n => _) = false
        cases at? d a with
        | none => rfl
        | some n =>
          simp only [if_neg (show ¬ 6 + far = 1 by omega), if_neg (show ¬ 6 + far = 2 by omega), if_neg (show ¬ 6 + far = 3 by omega), if_neg (show ¬ 6 + far = 4 by omega)]
      have hy3 : formI d (5, 0, 65536 + far, 0) = false := by
        unfold formI
        rw [if_pos rfl]
        have : decide ((65536 : Int) + far ≤ 65535) = false := decide_eq_false (by omega)
        simp only [this, Bool.and_false]
      refine ⟨by simp; omega, i64_of (by omega) (by omega), _, hat, by simp; omega, i64_of (by omega) (by omega), _, hat, by simp; omega, i64_of (by omega) (by omega), _, hat, _, item_Form_in hd (by simp; omega), _, fun _ => item_Form_in hd (by simp; omega), _, fun _ => item_Form_in hd (by simp; omega), ?_⟩
      have z : ((0 : Int)).toNat = 0 := rfl
      rw [z, formS_set hn hy1, formS_set hn (hy2 _ _ _), formS_set hn hy3]
      rfl

/-! ### lowered again and again -/
def nrI (n : Int) (x : SItem) : Int := if x.1 = 5 ∧ (n < 0 ∨ x.2.2.1 < n) then x.2.2.1 else n
def nr (s : List SItem) : Int := s.foldl nrI (-1)
def lowK (n : Int) (x : SItem) : SItem := if x.1 = 5 then (x.1, x.2.1, x.2.2.1 - n, x.2.2.2) else x
/-- Ends are not behind. -/
def Ends (s : List SItem) : Prop := ∀ x ∈ s, x.1 = 5 → 0 ≤ x.2.2.1 ∧ x.2.2.1 ≤ 65535
theorem nr_spec {s : List SItem} (h : Ends s) : (nr s = -1 ∧ ∀ x ∈ s, x.1 ≠ 5) ∨ (0 ≤ nr s ∧ (∃ x ∈ s, x.1 = 5 ∧ x.2.2.1 = nr s) ∧ ∀ x ∈ s, x.1 = 5 → nr s ≤ x.2.2.1) := by
  have key : ∀ (l pre : List SItem), Ends (pre ++ l) → ((nr pre = -1 ∧ ∀ x ∈ pre, x.1 ≠ 5) ∨ (0 ≤ nr pre ∧ (∃ x ∈ pre, x.1 = 5 ∧ x.2.2.1 = nr pre) ∧ ∀ x ∈ pre, x.1 = 5 → nr pre ≤ x.2.2.1)) →
      ((nr (pre ++ l) = -1 ∧ ∀ x ∈ pre ++ l, x.1 ≠ 5) ∨ (0 ≤ nr (pre ++ l) ∧ (∃ x ∈ pre ++ l, x.1 = 5 ∧ x.2.2.1 = nr (pre ++ l)) ∧ ∀ x ∈ pre ++ l, x.1 = 5 → nr (pre ++ l) ≤ x.2.2.1)) := by
    intro l
    induction l with
    | nil => intro pre _ h; simpa using h
    | cons y l ih =>
      intro pre he h
      have e : pre ++ y :: l = (pre ++ [y]) ++ l := by simp
      rw [e] at he ⊢
      refine ih (pre ++ [y]) he ?_
      have hy := he y (by simp)
      have e2 : nr (pre ++ [y]) = nrI (nr pre) y := by simp [nr]
      rw [e2]
      unfold nrI
      by_cases h5 : y.1 = 5
      · obtain ⟨y0, y1⟩ := hy h5
        rcases h with ⟨h1, h2⟩ | ⟨h1, ⟨z, hz, hz5, hzn⟩, h3⟩
        · rw [if_pos ⟨h5, .inl (by omega)⟩]
          refine .inr ⟨y0, ⟨y, by simp, h5, rfl⟩, fun x hx hx5 => ?_⟩
          rcases List.mem_append.1 hx with hx | hx
          · exact absurd hx5 (h2 x hx)
          · rw [List.mem_singleton.1 hx]; exact Int.le_refl _
        · by_cases hlt : y.2.2.1 < nr pre
          · rw [if_pos ⟨h5, .inr hlt⟩]
            refine .inr ⟨y0, ⟨y, by simp, h5, rfl⟩, fun x hx hx5 => ?_⟩
            rcases List.mem_append.1 hx with hx | hx
            · have := h3 x hx hx5; omega
            · rw [List.mem_singleton.1 hx]; exact Int.le_refl _
          · rw [if_neg (by omega)]
            refine .inr ⟨h1, ⟨z, by simp [hz], hz5, hzn⟩, fun x hx hx5 => ?_⟩
            rcases List.mem_append.1 hx with hx | hx
            · exact h3 x hx hx5
            · rw [List.mem_singleton.1 hx]; omega
      · rw [if_neg (fun h => h5 h.1)]
        rcases h with ⟨h1, h2⟩ | ⟨h1, ⟨z, hz, hz5, hzn⟩, h3⟩
        · refine .inl ⟨h1, fun x hx => ?_⟩
          rcases List.mem_append.1 hx with hx | hx
          · exact h2 x hx
          · rw [List.mem_singleton.1 hx]; exact h5
        · refine .inr ⟨h1, ⟨z, by simp [hz], hz5, hzn⟩, fun x hx hx5 => ?_⟩
          rcases List.mem_append.1 hx with hx | hx
          · exact h3 x hx hx5
          · rw [List.mem_singleton.1 hx] at hx5; exact absurd hx5 h5
  have := key s [] (by simpa using h) (.inl ⟨rfl, by simp⟩)
  simpa using this
theorem lowK_zero (s : List SItem) : s.map (lowK 0) = s := by
  have : ∀ x : SItem, lowK 0 x = x := fun x => by obtain ⟨a, b, c, d⟩ := x; unfold lowK; split <;> simp
  rw [show lowK 0 = id from funext this, List.map_id]
theorem low1_K (n : Int) (x : SItem) : low1 (lowK n x) = lowK (n + 1) x := by
  obtain ⟨a, b, c, d⟩ := x
  unfold lowK low1
  by_cases h : a = 5
  · simp only [if_pos h]
    simp only [h, Prod.mk.injEq, true_and, and_true]; omega
  · simp [h]
theorem lowK_kind (n : Int) (x : SItem) : (lowK n x).1 = x.1 := by unfold lowK; split <;> rfl
theorem low_K {s : List SItem} (h : Ends s) {n : Int} (hn : 0 ≤ n) : lowF (s.map (lowK n)) = if nr s = -1 ∨ n < nr s then (s.map (lowK (n + 1)), true) else ([], false) := by
  have hm : (s.map (lowK n)).map low1 = s.map (lowK (n + 1)) := by
    rw [List.map_map]; exact List.map_congr_left fun x _ => low1_K n x
  unfold lowF
  rw [hm]
  have hbad : (s.map (lowK n)).any badI = true ↔ ∃ x ∈ s, x.1 = 5 ∧ x.2.2.1 - n ≤ 0 := by
    rw [List.any_map, List.any_eq_true]
    constructor
    · rintro ⟨x, hx, hb⟩
      refine ⟨x, hx, ?_⟩
      simp only [Function.comp_apply, badI, Bool.and_eq_true, beq_iff_eq, decide_eq_true_eq, lowK_kind] at hb
      refine ⟨hb.1, ?_⟩
      have := hb.2
      unfold lowK at this
      rw [if_pos hb.1] at this
      exact this
    · rintro ⟨x, hx, h5, hle⟩
      refine ⟨x, hx, ?_⟩
      simp only [Function.comp_apply, badI, Bool.and_eq_true, beq_iff_eq, decide_eq_true_eq, lowK_kind]
      refine ⟨h5, ?_⟩
      unfold lowK
      rw [if_pos h5]
      exact hle
  by_cases hc : nr s = -1 ∨ n < nr s
  · rw [if_pos hc, if_neg]
    rw [hbad]
    rintro ⟨x, hx, h5, hle⟩
    rcases nr_spec h with ⟨h1, h2⟩ | ⟨h1, _, h3⟩
    · exact h2 x hx h5
    · have := h3 x hx h5; omega
  · rw [if_neg hc, if_pos]
    rw [hbad]
    rcases nr_spec h with ⟨h1, h2⟩ | ⟨h1, ⟨z, hz, hz5, hzn⟩, _⟩
    · exact absurd (.inl h1) hc
    · exact ⟨z, hz, hz5, by omega⟩
theorem ends_of_form {d : List SNode} {s : List SItem} (h : formS d s = true) : Ends s := by
  intro x hx h5
  unfold formS at h
  rw [List.all_eq_true] at h
  have := h x hx
  unfold formI at this
  rw [if_pos h5] at this
  simp only [Bool.and_eq_true, decide_eq_true_eq] at this
  exact this.2
theorem form_low {d : List SNode} {s : List SItem} (h : formS d s = true) (hb : ∀ x ∈ s, x.1 = 5 → 0 < x.2.2.1) : formS d (s.map (lowK 1)) = true := by
  unfold formS at *
  rw [List.all_eq_true] at *
  intro y hy
  obtain ⟨x, hx, rfl⟩ := List.mem_map.1 hy
  have hf := h x hx
  by_cases h5 : x.1 = 5
  · have := hb x hx h5
    have e : lowK 1 x = (x.1, x.2.1, x.2.2.1 - 1, x.2.2.2) := by unfold lowK; rw [if_pos h5]
    rw [e]
    unfold formI at hf ⊢
    rw [if_pos h5] at hf
    rw [if_pos (show (x.1, x.2.1, x.2.2.1 - 1, x.2.2.2).1 = 5 from h5)]
    simp only [Bool.and_eq_true, decide_eq_true_eq, beq_iff_eq] at hf ⊢
    omega
  · have e : lowK 1 x = x := by unfold lowK; rw [if_neg h5]
    rw [e]; exact hf
theorem itR_low {s : List SItem} (hr : ∀ x ∈ s, ItR x) (he : Ends s) {n : Int} (h0 : 0 ≤ n) (h1 : n ≤ 100000) : ∀ x ∈ s.map (lowK n), ItR x := by
  intro y hy
  obtain ⟨x, hx, rfl⟩ := List.mem_map.1 hy
  unfold lowK
  split
  · rename_i h5
    obtain ⟨a, b, c, d⟩ := hr x hx
    have := he x hx h5
    exact ⟨a, b, i64_of (by show -9223372036854775808 ≤ x.2.2.1 - n; omega) (by show x.2.2.1 - n ≤ 9223372036854775807; omega), d⟩
  · exact hr x hx

theorem law13_ItemLowers_true {d : List SNode} {s : List SItem} (ht : Txt d) (hr : ∀ x ∈ s, ItR x) : law13_ItemLowers d s true := by
  obtain ⟨r6, r8, h6, h6b, h8⟩ := guard_ex ht
  refine ⟨true, awake13, r6, fun _ => h6, r8, fun h => h8 (by simpa using h), _, rfl, formS d s, fun hb => ?_, fun _ => ⟨true, awake13, rfl⟩, fun hb => ?_⟩
  · simp only [Bool.not_true, Bool.false_or, Bool.or_eq_false_iff, Bool.not_eq_false', decide_eq_false_iff_not] at hb
    exact ref13_Form_in (by omega)
  simp only [Bool.not_true, Bool.false_or, Bool.or_eq_false_iff, Bool.not_eq_false', decide_eq_false_iff_not] at hb
  obtain ⟨⟨⟨g1, g2⟩, g3⟩, g4⟩ := hb
  have hl := h6b g1
  have hd := dok hl ht
  have he := ends_of_form g4
  have hl0 : lowF s = if nr s = -1 ∨ 0 < nr s then (s.map (lowK 1), true) else ([], false) := by
    have := low_K he (n := 0) (Int.le_refl _)
    rw [lowK_zero] at this
    exact this
  have hsp := nr_spec he
  refine upto (P := fun k (n : Int) v => law13_ItemLowers.l3 s _ k n v) s.length (fun i n => n = nr (s.take i)) ?_ ?_ _ (by simp [nr])
  · rintro i n hi rfl
    have hat : at? s (i : Int) = some s[i] := by rw [at_nat]; simp [hi]
    have e : nr (s.take (i + 1)) = nrI (nr (s.take i)) s[i] := by
      unfold nr
      rw [List.take_succ_eq_append_getElem hi, List.foldl_append]; rfl
    refine .inr ⟨_, rfl, fun k h => ⟨fun _ => ⟨_, hat, _, fun _ => hat, _, rfl, fun hc => ⟨_, hat, i64_of (by omega) (by omega), ?_⟩, fun hc => ⟨i64_of (by omega) (by omega), ?_⟩⟩, fun h => absurd (by omega) (df h)⟩⟩
    · simp only [Bool.and_eq_true, beq_iff_eq, Bool.or_eq_true, decide_eq_true_eq] at hc
      rw [e] at h
      unfold nrI at h
      rw [if_pos hc] at h
      exact h
    · have hc' : ¬ (s[i].1 = 5 ∧ (nr (s.take i) < 0 ∨ s[i].2.2.1 < nr (s.take i))) := fun hh => by
        have : ((s[i].1 == 5) && ((decide (nr (s.take i) < 0)) || (decide (s[i].2.2.1 < nr (s.take i))))) = true := by
          simp only [Bool.and_eq_true, beq_iff_eq, Bool.or_eq_true, decide_eq_true_eq]; exact hh
        rw [this] at hc; cases hc
      rw [e] at h
      unfold nrI at h
      rw [if_neg hc'] at h
      exact h
  · rintro n rfl k
    refine ⟨fun h => absurd (dt h) (by omega), fun _ => ?_⟩
    rw [List.take_length]
    refine ⟨_, item_Lower_in (by omega) hr, fun hne => ?_, fun hne => ⟨fun hno => ?_, fun hyes => ?_⟩⟩
    · exfalso
      rw [hl0] at hne
      rcases hsp with ⟨h1, _⟩ | ⟨h1, _, _⟩
      · rw [if_pos (.inl h1), h1] at hne; simp at hne
      · by_cases h0 : 0 < nr s
        · rw [if_pos (.inr h0)] at hne
          simp at hne; omega
        · rw [if_neg (by omega)] at hne
          simp at hne; omega
    · rcases low_shape s with h | h
      · rw [h]; rfl
      · rw [h] at hno; cases hno
    · have hc : nr s = -1 ∨ 0 < nr s := by
        by_cases hc : nr s = -1 ∨ 0 < nr s
        · exact hc
        · rw [hl0, if_neg hc] at hyes; cases hyes
      rw [hl0, if_pos hc]
      have hbp : ∀ x ∈ s, x.1 = 5 → 0 < x.2.2.1 := by
        intro x hx h5
        rcases hsp with ⟨h1, h2⟩ | ⟨h1, _, h3⟩
        · exact absurd h5 (h2 x hx)
        · have := h3 x hx h5; omega
      have hfl := form_low g4 hbp
      refine ⟨_, fun _ => item_Form_in hd (by simp; omega), _, rfl, fun h => ?_, fun _ => ?_⟩
      · rw [hfl] at h; simp at h
      · refine upto (P := fun k (_ : Unit) v => law13_ItemLowers.l2 s _ true _ k v) s.length (fun _ _ => True) ?_ ?_ () trivial
        · intro i _ hi _
          have hat : at? s (i : Int) = some s[i] := by rw [at_nat]; simp [hi]
          have hat2 : at? (s.map (lowK 1)) (i : Int) = some (lowK 1 s[i]) := by rw [at_nat]; simp [hi]
          have hend := he _ (List.getElem_mem hi)
          have hj : ∀ (k : Nat) (h : law13_ItemLowers.l2 s (s.map (lowK 1), true) true (law13_ItemLowers.j2 s true (nr s) (s.map (lowK 1), true)) k ((i : Int) + 1)), law13_ItemLowers.j3 (law13_ItemLowers.l2 s (s.map (lowK 1), true) true (law13_ItemLowers.j2 s true (nr s) (s.map (lowK 1), true)) k) s true (i : Int) s[i] := fun k h =>
            ⟨_, hat, fun hx => by simp at hx, fun _ => ⟨i64_of (by omega) (by omega), h⟩⟩
          refine .inr ⟨(), trivial, fun k h => ⟨fun _ => ⟨_, hat2, fun h5 => ?_, fun h5 => ?_⟩, fun h => absurd (by omega) (df h)⟩⟩
          · rw [lowK_kind] at h5
            have h5' := eq_of_beq h5
            have e : lowK 1 s[i] = (s[i].1, s[i].2.1, s[i].2.2.1 - 1, s[i].2.2.2) := by unfold lowK; rw [if_pos h5']
            rw [e]
            have hb := hend h5'
            refine ⟨i64_of (by show -9223372036854775808 ≤ s[i].2.2.1 - 1 + 1; omega) (by show s[i].2.2.1 - 1 + 1 ≤ 9223372036854775807; omega), ?_⟩
            have e2 : (s[i].1, s[i].2.1, s[i].2.2.1 - 1 + 1, s[i].2.2.2) = s[i] := by rw [Int.sub_add_cancel]
            show law13_ItemLowers.j3 _ s true (i : Int) (s[i].1, s[i].2.1, s[i].2.2.1 - 1 + 1, s[i].2.2.2)
            rw [e2]
            exact hj k h
          · rw [lowK_kind] at h5
            have e : lowK 1 s[i] = s[i] := by unfold lowK; rw [if_neg (ne_of_beq_false h5)]
            rw [e]
            exact hj k h
        · intro _ _ k
          refine ⟨fun h => absurd (dt h) (by omega), fun _ => ⟨fun hneg => ?_, fun hneg => ?_⟩⟩
          · have hn := dt hneg
            have hall : s.map (lowK 1) = s := by
              rcases hsp with ⟨_, h2⟩ | ⟨h1, _, _⟩
              · have : ∀ x ∈ s, lowK 1 x = id x := fun x hx => by unfold lowK; rw [if_neg (h2 x hx)]; rfl
                rw [List.map_congr_left this, List.map_id]
              · omega
            refine ⟨_, ref13_Same_in (by simp; omega) (by omega), ?_⟩
            rw [hall]; simp
          · have hn := df hneg
            have hpos : 0 < nr s := by omega
            have hub : nr s ≤ 65535 := by
              rcases hsp with ⟨h1, _⟩ | ⟨_, ⟨z, hz, hz5, hzn⟩, _⟩
              · omega
              · have := he z hz hz5; omega
            refine run (P := fun k (q : List SItem × Int) => law13_ItemLowers.l1 (nr s) true _ k q.1 q.2) (fun q => q.1 = s.map (lowK q.2) ∧ 1 ≤ q.2 ∧ q.2 ≤ nr s ∧ q.2 ≤ 300) (fun q => 301 - q.2.toNat) ?_ (s.map (lowK 1), 1) ⟨rfl, by omega, by omega, by omega⟩
            rintro ⟨a, n⟩ ⟨h1, h2, h3, h4⟩
            simp only at h1 h2 h3 h4
            subst h1
            have hlk := low_K he (n := n) (by omega)
            have hin : item_Lower (s.map (lowK n)) (lowF (s.map (lowK n))) := item_Lower_in (by simp; omega) (itR_low hr he (by omega) (by omega))
            rw [hlk] at hin
            by_cases hgo : n < nr s ∧ n < 300
            · rw [if_pos (.inr hgo.1)] at hin
              refine .inr ⟨(s.map (lowK (n + 1)), n + 1), ⟨rfl, by simp only; omega, by simp only; omega, by simp only; omega⟩, by simp only; omega, fun k h => ⟨true, by simp [hgo.1, hgo.2], fun _ => ⟨_, hin, fun h => by simp at h, fun _ => ⟨i64_of (by omega) (by omega), h⟩⟩, (fun h => by cases h)⟩⟩
            · refine .inl fun k => ⟨false, by simp; omega, (fun h => by cases h), fun _ => ⟨_, hin, ?_⟩⟩
              by_cases h300 : 300 < nr s
              · simp [h300]
              · rw [if_neg (by omega)]; simp
end Go.Proofs.YtdfnbogkniikbaaDoor.V
