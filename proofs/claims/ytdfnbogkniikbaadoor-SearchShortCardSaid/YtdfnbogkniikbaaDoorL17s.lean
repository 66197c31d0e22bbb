/-
  Of tables whose ways rise: the word that a search tells is the least one. The law answers true.
-/
import Derived.Test.YtdfnbogkniikbaaDoorL17
namespace Go.Proofs.YtdfnbogkniikbaaDoor.V
open Go
set_option linter.unusedVariables false

theorem u8r {x : Int} (h : InR .u8 x) : 0 ≤ x ∧ x ≤ 255 := inR_u8.1 h
/-- A word as a number, in base 256. -/
def valW (u : List Int) : Nat := u.foldl (fun a b => 256 * a + b.toNat) 0
theorem valW_snoc (u : List Int) (b : Int) : valW (u ++ [b]) = 256 * valW u + b.toNat := by simp [valW]
/-- Shorter, or as long and less. -/
def klt (u v : List Int) : Prop := u.length < v.length ∨ (u.length = v.length ∧ valW u < valW v)
def kle (u v : List Int) : Prop := u.length < v.length ∨ (u.length = v.length ∧ valW u ≤ valW v)
theorem klt_le {u v : List Int} (h : klt u v) : kle u v := h.imp id fun h => ⟨h.1, Nat.le_of_lt h.2⟩
theorem kle_trans {u v w : List Int} (h : kle u v) (k : kle v w) : kle u w := by unfold kle at *; omega
theorem klt_snoc {u v : List Int} {b c : Int} (h : klt u v) (hb : 0 ≤ b ∧ b ≤ 255) (hc : 0 ≤ c) : klt (u ++ [b]) (v ++ [c]) := by
  unfold klt at *; rw [valW_snoc, valW_snoc]; simp only [List.length_append, List.length_cons, List.length_nil]; omega
theorem kle_snoc {u v : List Int} {b : Int} (h : kle u v) : kle (u ++ [b]) (v ++ [b]) := by
  unfold kle at *; rw [valW_snoc, valW_snoc]; simp only [List.length_append, List.length_cons, List.length_nil]; omega
theorem klt_same {u : List Int} {b c : Int} (h : b < c) (hb : 0 ≤ b) : klt (u ++ [b]) (u ++ [c]) :=
  .inr ⟨by simp, by rw [valW_snoc, valW_snoc]; omega⟩
theorem klt_nil {u : List Int} {b : Int} : klt [] (u ++ [b]) := by
  unfold klt; simp only [List.length_append, List.length_cons, List.length_nil]; omega

def Rise (es : List SWay) : Prop := es.Pairwise fun a b => a.1 < b.1
structure Rt (t : STable) : Prop where
  by_ : ∀ l ∈ t.1, ∀ w ∈ l, 0 ≤ w.1 ∧ w.1 ≤ 255
  ri : ∀ l ∈ t.1, Rise l

def SrtQ (acc : List Q17) : Prop := ∀ (a b : Nat) (p q : Q17), a < b → acc[a]? = some p → acc[b]? = some q → klt p.2.2.2 q.2.2.2
theorem srt_app {acc : List Q17} {q : Q17} (h : SrtQ acc) (hq : ∀ p ∈ acc, klt p.2.2.2 q.2.2.2) : SrtQ (acc ++ [q]) := by
  intro a b p p' hab ha hb
  by_cases hbl : b < acc.length
  · rw [List.getElem?_append_left hbl] at hb
    rw [List.getElem?_append_left (by omega)] at ha
    exact h a b p p' hab ha hb
  · have hbl' := (List.getElem?_eq_some_iff.1 hb).1
    simp at hbl'
    have e : b = acc.length := by omega
    subst e
    rw [List.getElem?_append_right (Nat.le_refl _)] at hb
    simp at hb; subst hb
    rw [List.getElem?_append_left hab] at ha
    exact hq p (List.mem_of_getElem? ha)
/-- One node's ways: what is made stays in order, and is led to by no less a word. -/
theorem fold_srt {i : Nat} {w : List Int} : ∀ (es : List SWay) (acc : List Q17), Rise es → (∀ e ∈ es, 0 ≤ e.1 ∧ e.1 ≤ 255) → SrtQ acc → (∀ q ∈ acc, ∀ e ∈ es, klt q.2.2.2 (w ++ [e.1])) →
    SrtQ (es.foldl (stQ i w) acc) ∧ (∀ q ∈ es.foldl (stQ i w) acc, q ∈ acc ∨ ∃ b, q.2.2.2 = w ++ [b] ∧ 0 ≤ b ∧ b ≤ 255) ∧ ∀ e ∈ es, ∃ q ∈ es.foldl (stQ i w) acc, q.1 = e.2 ∧ kle q.2.2.2 (w ++ [e.1])
  | [], acc, _, _, hs, _ => ⟨hs, fun q hq => .inl hq, fun e he => by cases he⟩
  | e :: es, acc, hr, hb, hs, hl => by
    obtain ⟨hr1, hr2⟩ := List.pairwise_cons.1 hr
    have hbe := hb e (by simp)
    have hstep : SrtQ (stQ i w acc e) ∧ (∀ q ∈ stQ i w acc e, q ∈ acc ∨ q = (e.2, (i : Int), e.1, w ++ [e.1])) ∧ ∃ q ∈ stQ i w acc e, q.1 = e.2 ∧ kle q.2.2.2 (w ++ [e.1]) := by
      unfold stQ
      split
      · rename_i hin
        obtain ⟨q, hq, hqe⟩ := inQ_iff.1 hin
        exact ⟨hs, fun q hq => .inl hq, q, hq, hqe, klt_le (hl q hq e (by simp))⟩
      · refine ⟨srt_app hs fun p hp => hl p hp e (by simp), fun q hq => (List.mem_append.1 hq).imp id (fun h => List.mem_singleton.1 h), (e.2, (i : Int), e.1, w ++ [e.1]), by simp, rfl, .inr ⟨rfl, Nat.le_refl _⟩⟩
    obtain ⟨h1, h2, q0, hq0, hq1, hq2⟩ := hstep
    obtain ⟨k1, k2, k3⟩ := fold_srt es (stQ i w acc e) hr2 (fun e' he' => hb e' (by simp [he'])) h1 (fun q hq e' he' => by
      rcases h2 q hq with h | h
      · exact hl q h e' (by simp [he'])
      · rw [h]; exact klt_same (hr1 e' he') hbe.1)
    refine ⟨k1, fun q hq => ?_, fun e' he' => ?_⟩
    · rcases k2 q hq with h | h
      · rcases h2 q h with h | h
        · exact .inl h
        · exact .inr ⟨e.1, by rw [h], hbe⟩
      · exact .inr h
    · rcases List.mem_cons.1 he' with rfl | he'
      · obtain ⟨r, hr⟩ := fold_pre i w es (stQ i w acc e')
        exact ⟨q0, by rw [List.foldl_cons, ← hr]; exact List.mem_append_left _ hq0, hq1, hq2⟩
      · exact k3 e' he'
theorem outs_rt {t : STable} (hw : Wf17 t) (hr : Rt t) {x : Int} (h0 : 0 ≤ x) (h1 : x < (t.1.length : Int)) : Rise (outs t x) ∧ ∀ e ∈ outs t x, 0 ≤ e.1 ∧ e.1 ≤ 255 :=
  ⟨hr.ri _ (node_at h0 h1).2, hr.by_ _ (node_at h0 h1).2⟩
theorem acc_srt {t : STable} (hw : Wf17 t) (hr : Rt t) : ∀ i, SrtQ (acc17 t i) ∧ (∀ q ∈ acc17 t i, q.2.2.2 = [] ∨ ∃ (p : Nat) (q' : Q17) (b : Int), p < i ∧ (acc17 t i)[p]? = some q' ∧ q.2.2.2 = q'.2.2.2 ++ [b] ∧ 0 ≤ b ∧ b ≤ 255) ∧
    ∀ p q, p < i → (acc17 t i)[p]? = some q → ∀ e ∈ outs t q.1, ∃ q' ∈ acc17 t i, q'.1 = e.2 ∧ kle q'.2.2.2 (q.2.2.2 ++ [e.1])
  | 0 => ⟨fun a b p q hab ha hb => by cases b <;> simp [acc17] at hb; omega, fun q hq => by simp [acc17] at hq; subst hq; exact .inl rfl, fun p q hp => by omega⟩
  | i + 1 => by
    obtain ⟨h1, h2, h3⟩ := acc_srt hw hr i
    have hpre := acc_pre1 t i
    cases hq : (acc17 t i)[i]? with
    | none =>
      have e : acc17 t (i + 1) = acc17 t i := by
        show (match (acc17 t i)[i]? with | some q => rdQ t i q (acc17 t i) | none => acc17 t i) = _
        rw [hq]
      rw [e]
      refine ⟨h1, fun q hq' => (h2 q hq').imp id fun ⟨p, q', b, hp, hh⟩ => ⟨p, q', b, by omega, hh⟩, fun p q hp hpq => ?_⟩
      have : p < i := by
        have h4 := (List.getElem?_eq_some_iff.1 hpq).1
        rw [List.getElem?_eq_none_iff] at hq; omega
      exact h3 p q this hpq
    | some q =>
      have hg := acc_good hw i
      have hxr := hg.rng q (List.mem_of_getElem? hq)
      have ho := outs_rt hw hr hxr.1 hxr.2
      have hlow : ∀ p ∈ acc17 t i, ∀ e ∈ outs t q.1, klt p.2.2.2 (q.2.2.2 ++ [e.1]) := fun p hp e he => by
        rcases h2 p hp with h | ⟨p', q', b, hp', hq', hb, hb2⟩
        · rw [h]; exact klt_nil
        · rw [hb]; exact klt_snoc (h1 p' i q' q hp' hq' hq) hb2 (ho.2 e he).1
      obtain ⟨k1, k2, k3⟩ := fold_srt (i := i) (w := q.2.2.2) (outs t q.1) (acc17 t i) ho.1 ho.2 h1 hlow
      have e : acc17 t (i + 1) = (outs t q.1).foldl (stQ i q.2.2.2) (acc17 t i) := acc_next hq
      rw [← e] at k1 k2 k3
      refine ⟨k1, fun p hp => ?_, fun p p' hp hpp e' he' => ?_⟩
      · rcases k2 p hp with h | ⟨b, hb, hb2⟩
        · rcases h2 p h with h | ⟨p', q', b, hp', hq', hb⟩
          · exact .inl h
          · exact .inr ⟨p', q', b, by omega, get_pre hpre hq', hb⟩
        · exact .inr ⟨i, q, b, by omega, get_pre hpre hq, hb, hb2⟩
      · by_cases hpi : p < i
        · have hil := (List.getElem?_eq_some_iff.1 hq).1
          have hpl : (acc17 t i)[p]? = some p' := by
            obtain ⟨r, hr'⟩ := hpre
            rw [← hr', List.getElem?_append_left (by omega)] at hpp; exact hpp
          obtain ⟨x, hx, hx2⟩ := h3 p p' hpi hpl e' he'
          obtain ⟨r, hr'⟩ := hpre
          exact ⟨x, by rw [← hr']; exact List.mem_append_left _ hx, hx2⟩
        · have : p = i := by omega
          subst this
          have := get_pre hpre hq
          rw [hpp] at this; cases this
          exact k3 e' he'
/-- The verdict, where there is a target. -/
theorem verd_first {t : STable} (hw : Wf17 t) (hit : Int → Bool) : ∀ f i, i + f = t.1.length → (∃ (j : Nat) (q : Q17), i ≤ j ∧ (all17 t)[j]? = some q ∧ hit q.1 = true) →
    ∃ (i0 : Nat) (q0 : Q17), i ≤ i0 ∧ (all17 t)[i0]? = some q0 ∧ (∀ (j : Nat) (q : Q17), i ≤ j → (all17 t)[j]? = some q → hit q.1 = true → i0 ≤ j) ∧ verd t hit (t.1.length : Int) f i = ((2, q0.2.2.2, [], 0, 0, 0, (i0 : Int) + 1), q0.1)
  | 0, i, hi, ⟨j, q, h1, h2, _⟩ => by
    have := (List.getElem?_eq_some_iff.1 h2).1
    have : (all17 t).length ≤ t.1.length := (acc_good hw t.1.length).len
    omega
  | f + 1, i, hi, ⟨j, q, h1, h2, h3⟩ => by
    have hal := acc_all hw (i := i) (by omega)
    cases hq : (acc17 t i)[i]? with
    | none =>
      have e := hal.2 hq
      rw [e] at h2
      have := (List.getElem?_eq_some_iff.1 h2).1
      rw [List.getElem?_eq_none_iff] at hq; omega
    | some qi =>
      have hqa := hal.1
      rw [hq] at hqa
      cases hh : hit qi.1
      · obtain ⟨i0, q0, g1, g2, g3, g4⟩ := verd_first hw hit f (i + 1) (by omega) ⟨j, q, (by
          rcases Nat.lt_or_ge i j with h | h
          · exact h
          · have : j = i := by omega
            subst this
            rw [h2] at hqa; cases hqa; rw [h3] at hh; cases hh), h2, h3⟩
        refine ⟨i0, q0, by omega, g2, fun j' q' hj' hq' hh' => ?_, ?_⟩
        · by_cases hji : j' = i
          · subst hji; rw [hq'] at hqa; cases hqa; rw [hh'] at hh; cases hh
          · exact g3 j' q' (by omega) hq' hh'
        · rw [← g4]; simp [verd, hq, hh]; omega
      · exact ⟨i, qi, Nat.le_refl _, hqa.symm, fun j' q' hj' _ _ => hj', by simp [verd, hq, hh]; omega⟩

/-! ### words as texts -/
theorem valW_cons (a : Int) (u : List Int) : valW (a :: u) = a.toNat * 256 ^ u.length + valW u := by
  have h : ∀ (u : List Int) (x : Nat), u.foldl (fun a b => 256 * a + b.toNat) x = x * 256 ^ u.length + valW u := by
    intro u
    induction u with
    | nil => intro x; simp [valW]
    | cons b u ih =>
      intro x
      rw [List.foldl_cons, ih]
      have h2 : valW (b :: u) = b.toNat * 256 ^ u.length + valW u := by
        show u.foldl _ (256 * 0 + b.toNat) = _
        rw [ih]; simp
      rw [h2, List.length_cons, Nat.pow_succ, Nat.add_mul, Nat.add_assoc]
      congr 1
      rw [Nat.mul_comm 256 x, Nat.mul_assoc, Nat.mul_comm 256]
  show u.foldl _ (256 * 0 + a.toNat) = _
  rw [h]; simp
theorem valW_lt {u : List Int} (h : ∀ b ∈ u, 0 ≤ b ∧ b ≤ 255) : valW u < 256 ^ u.length := by
  induction u with
  | nil => simp [valW]
  | cons a u ih =>
    have h1 := ih fun b hb => h b (by simp [hb])
    have h2 := h a (by simp)
    rw [valW_cons, List.length_cons, Nat.pow_succ, Nat.mul_comm (256 ^ u.length)]
    have h3 : a.toNat * 256 ^ u.length ≤ 255 * 256 ^ u.length := Nat.mul_le_mul_right _ (by omega)
    omega
theorem u8_lt {a b : Int} (ha : 0 ≤ a ∧ a ≤ 255) (hb : 0 ≤ b ∧ b ≤ 255) : (UInt8.ofNat a.toNat < UInt8.ofNat b.toNat) ↔ a < b := by
  rw [UInt8.lt_iff_toNat_lt]
  simp only [UInt8.toNat_ofNat']
  omega
theorem strLe_of {u w : List Int} (hu : ∀ b ∈ u, 0 ≤ b ∧ b ≤ 255) (hw : ∀ b ∈ w, 0 ≤ b ∧ b ≤ 255) (hl : u.length = w.length) (hv : valW u ≤ valW w) : strLe (strB u) (strB w) = true := by
  induction u generalizing w with
  | nil =>
    cases w with
    | nil => rfl
    | cons b w => simp at hl
  | cons a u ih =>
    cases w with
    | nil => simp at hl
    | cons b w =>
      have ha := hu a (by simp)
      have hb := hw b (by simp)
      have hl' : u.length = w.length := by simpa using hl
      rw [valW_cons, valW_cons, hl'] at hv
      have hvw := valW_lt (u := w) fun c hc => hw c (List.mem_cons_of_mem _ hc)
      have hlt := u8_lt ha hb
      show strLe (UInt8.ofNat a.toNat :: strB u) (UInt8.ofNat b.toNat :: strB w) = true
      by_cases hab : a < b
      · have := hlt.2 hab
        simp [strLe, Op.bytesLess, this]
      · by_cases hba : b < a
        · exfalso
          have h3 : (b.toNat + 1) * 256 ^ w.length ≤ a.toNat * 256 ^ w.length := Nat.mul_le_mul_right _ (by omega)
          rw [Nat.add_mul] at h3
          omega
        · have e : a = b := by omega
          subst e
          have := ih (fun c hc => hu c (by simp [hc])) (fun c hc => hw c (by simp [hc])) hl' (by omega)
          unfold strLe at this ⊢
          simp only [Op.bytesLess, Bool.or_eq_true, Bool.and_eq_true, beq_self_eq_true, true_and, List.cons_beq_cons] at this ⊢
          rcases this with h | h
          · exact .inl (.inr h)
          · exact .inr h

theorem rise_of {l : List SWay} (h : ∀ k, k + 1 < l.length → ∀ a b, l[k]? = some a → l[k + 1]? = some b → a.1 < b.1) : Rise l := by
  unfold Rise
  rw [List.pairwise_iff_getElem]
  intro i j hi hj hij
  obtain ⟨d, rfl⟩ : ∃ d, j = i + 1 + d := ⟨j - i - 1, by omega⟩
  induction d with
  | zero => exact h i (by omega) _ _ (List.getElem?_eq_getElem _) (List.getElem?_eq_getElem _)
  | succ d ih =>
    have h1 := ih (by omega) (by omega)
    have h2 := h (i + 1 + d) (by omega) _ _ (List.getElem?_eq_getElem (by omega)) (List.getElem?_eq_getElem (by omega))
    have e : l[i + 1 + d + 1] = l[i + 1 + (d + 1)] := rfl
    rw [← e]
    omega
theorem law17_SearchShort_true {t : STable} {w : List Int} (hz : Sz17 t) (hby : ∀ l ∈ t.1, ∀ e ∈ l, 0 ≤ e.1 ∧ e.1 ≤ 255) (hwb : ∀ b ∈ w, 0 ≤ b ∧ b ≤ 255) : law17_SearchShort t w true := by
  obtain ⟨r6, h6, h6b⟩ := few17_ex hz
  refine ⟨true, awake17, r6, fun _ => h6, _, fun _ => rform_in hz, _, rfl, fun hb => ⟨true, awake17, rfl⟩, fun hb => ?_⟩
  simp only [Bool.not_true, Bool.false_or, Bool.or_eq_false_iff, Bool.not_eq_false', decide_eq_false_iff_not] at hb
  obtain ⟨⟨hb1, hb2⟩, hb3⟩ := hb
  have hw := wf_of (h6b hb1) hb2
  have hfew := hw.few
  refine uptoK (P := fun k (_ : Unit) v => law17_SearchShort.l3 t true _ k v) t.1.length (fun i _ => ∀ l ∈ t.1.take i, Rise l) ?_ ?_ () (by simp)
  · rintro i ⟨⟩ k hi hI hk
    have hat := at_get (List.getElem?_eq_getElem hi)
    have hl4 := hw.len _ (List.getElem_mem hi)
    refine ⟨fun _ => ?_, fun h => absurd (by omega) (df h)⟩
    have key := upto (P := fun k' (_ : Unit) v => law17_SearchShort.l4 t (i : Int) true (law17_SearchShort.j4 (law17_SearchShort.l3 t true (law17_SearchShort.j3 t w true) k) (i : Int)) k' (v + 1)) (t.1[i].length - 1) (fun j _ => ∀ k, k < j → ∀ a b, t.1[i][k]? = some a → t.1[i][k + 1]? = some b → a.1 < b.1) ?_ ?_ () (by intro k hk; omega)
    · obtain ⟨k', hk'⟩ := key
      exact ⟨k', hk'⟩
    · rintro j ⟨⟩ hj hJ
      have ha : t.1[i][j]? = some (t.1[i][j]'(by omega)) := List.getElem?_eq_getElem _
      have hb : t.1[i][j + 1]? = some (t.1[i][j + 1]'(by omega)) := List.getElem?_eq_getElem _
      have ha' : at? t.1[i] ((j : Int) + 1 - 1) = some (t.1[i][j]'(by omega)) := by rw [show (j : Int) + 1 - 1 = (j : Int) by omega]; exact at_get ha
      have hb' : at? t.1[i] ((j : Int) + 1) = some (t.1[i][j + 1]'(by omega)) := by rw [show (j : Int) + 1 = ((j + 1 : Nat) : Int) by omega]; exact at_get hb
      by_cases hlt : (t.1[i][j]'(by omega)).1 < (t.1[i][j + 1]'(by omega)).1
      · refine .inr ⟨(), fun k2 hk2 a b h1 h2 => ?_, fun k' h => ⟨_, hat, fun _ => ⟨_, hat, i64_of (by omega) (by omega), _, ha', _, hat, _, hb', fun h => absurd (dt h) (by omega), fun _ => ⟨i64_of (by omega) (by omega), h⟩⟩, fun h => absurd (by omega) (df h)⟩⟩
        by_cases hkj : k2 < j
        · exact hJ k2 hkj a b h1 h2
        · have : k2 = j := by omega
          subst this
          rw [ha] at h1; rw [hb] at h2
          cases h1; cases h2; exact hlt
      · exact .inl fun k' => ⟨_, hat, fun _ => ⟨_, hat, i64_of (by omega) (by omega), _, ha', _, hat, _, hb', fun _ => rfl, fun h => absurd (by omega) (df h)⟩, fun h => absurd (by omega) (df h)⟩
    · rintro ⟨⟩ hJ k'
      refine ⟨_, hat, fun h => absurd (dt h) (by omega), fun _ => ⟨i64_of (by omega) (by omega), hk () fun l hl => ?_⟩⟩
      rw [List.take_succ_eq_append_getElem hi] at hl
      rcases List.mem_append.1 hl with hl | hl
      · exact hI l hl
      · rw [List.mem_singleton.1 hl]
        exact rise_of fun k2 hk2 => hJ k2 (by omega)
  · rintro ⟨⟩ hI k
    rw [List.take_length] at hI
    refine ⟨fun h => absurd (dt h) (by omega), fun _ => ?_⟩
    have hrt : Rt t := ⟨hby, hI⟩
    have hg : Good t (all17 t) := acc_good hw t.1.length
    have hlen := hg.len
    have hsr := acc_srt hw hrt t.1.length
    have hB : ∀ q ∈ all17 t, ∀ e ∈ outs t q.1, ∃ q' ∈ all17 t, q'.1 = e.2 ∧ kle q'.2.2.2 (q.2.2.2 ++ [e.1]) := fun q hq e he => by
      obtain ⟨p, hp⟩ := List.getElem?_of_mem hq
      have := (List.getElem?_eq_some_iff.1 hp).1
      exact hsr.2.2 p q (by omega) hp e he
    have hbw : ∀ (j : Nat) (q : Q17), (all17 t)[j]? = some q → ∀ b ∈ q.2.2.2, 0 ≤ b ∧ b ≤ 255 := by
      intro j
      induction j using Nat.strongRecOn with
      | ind j ih =>
        intro q hq b hb
        rcases hg.par j q hq with ⟨_, rfl⟩ | ⟨p, q', _, h2, h3, h4, h5⟩
        · cases hb
        · rw [h4] at hb
          rcases List.mem_append.1 hb with hb | hb
          · exact ih p h2 q' h3 b hb
          · rw [List.mem_singleton.1 hb]
            have hr' := hg.rng q' (List.mem_of_getElem? h3)
            exact (outs_rt hw hrt hr'.1 hr'.2).2 _ h5
    have h0 : (all17 t)[0]? = some (0, -1, 0, []) := get_pre (acc_pre t (Nat.zero_le _)) (by rfl)
    refine uptoK (P := fun k (a : Int) v => law17_SearchShort.l1 t w true _ k a v) w.length (fun i a => ∃ q ∈ all17 t, q.1 = a ∧ kle q.2.2.2 (w.take i)) ?_ ?_ 0 ⟨_, List.mem_of_getElem? h0, rfl, .inr ⟨rfl, Nat.le_refl _⟩⟩
    · rintro i a k hi ⟨q, hq, rfl, hle⟩ hk
      have hxr := hg.rng q hq
      have hnode := node_at hxr.1 hxr.2
      have hol : (outs t q.1).length ≤ 400 := hw.len _ hnode.2
      have hwi := at_get (List.getElem?_eq_getElem hi)
      refine ⟨fun _ => ?_, fun h => absurd (by omega) (df h)⟩
      refine upto (P := fun k' (to : Int) v => law17_SearchShort.l2 t w q.1 (i : Int) _ k' to v) (outs t q.1).length (fun m to => to = -1 ∨ ∃ e ∈ outs t q.1, e.1 = w[i] ∧ e.2 = to) ?_ ?_ (-1) (.inl rfl)
      · intro m to hm hto
        have he := at_get (List.getElem?_eq_getElem hm)
        by_cases hc : (outs t q.1)[m].1 = w[i]
        · exact .inr ⟨(outs t q.1)[m].2, .inr ⟨_, List.getElem_mem hm, hc, rfl⟩, fun k' h => ⟨_, hnode.1, fun _ => ⟨_, hnode.1, _, he, _, hwi, fun _ => ⟨_, hnode.1, _, he, i64_of (by omega) (by omega), h⟩, fun hn => by simp [hc] at hn⟩, fun h => absurd (by omega) (df h)⟩⟩
        · exact .inr ⟨to, hto, fun k' h => ⟨_, hnode.1, fun _ => ⟨_, hnode.1, _, he, _, hwi, fun hn => absurd (by simpa using hn) hc, fun _ => ⟨i64_of (by omega) (by omega), h⟩⟩, fun h => absurd (by omega) (df h)⟩⟩
      · intro to hto k'
        refine ⟨_, hnode.1, fun h => absurd (dt h) (by omega), fun _ => ⟨fun _ => rfl, fun hn => ?_⟩⟩
        have hn' := df hn
        refine ⟨i64_of (by omega) (by omega), hk to ?_⟩
        rcases hto with h | ⟨e, he, he1, he2⟩
        · omega
        · obtain ⟨q', hq', h1, h2⟩ := hB q hq e he
          refine ⟨q', hq', by rw [h1, he2], kle_trans h2 ?_⟩
          rw [List.take_succ_eq_append_getElem hi, ← he1]
          exact kle_snoc hle
    · rintro a ⟨q, hq, rfl, hle⟩ k'
      rw [List.take_length] at hle
      have hxr := hg.rng q hq
      refine ⟨fun h => absurd (dt h) (by omega), fun _ => ⟨_, hit_at hw hxr.1 hxr.2, fun _ => rfl, fun hh => ⟨_, find_in hw _, _, rfl, ?_⟩⟩⟩
      have hh' : hit17 t q.1 = true := by simpa using hh
      obtain ⟨j, hj⟩ := List.getElem?_of_mem hq
      obtain ⟨i0, q0, _, g2, g3, g4⟩ := verd_first hw (hit17 t) t.1.length 0 (by omega) ⟨j, q, Nat.zero_le _, hj, hh'⟩
      rw [g4]
      have hij := g3 j q (Nat.zero_le _) hj hh'
      have hle0 : kle q0.2.2.2 w := by
        rcases Nat.lt_or_ge i0 j with h | h
        · exact kle_trans (klt_le (hsr.1 i0 j q0 q h g2 hj)) hle
        · have : i0 = j := by omega
          subst this
          rw [hj] at g2; cases g2; exact hle
      have hll : q0.2.2.2.length ≤ w.length := by unfold kle at hle0; omega
      refine ⟨fun h => ?_, fun _ => ⟨_, rfl, ?_⟩⟩
      · simp at h; omega
      · rcases hle0 with h | ⟨h1, h2⟩
        · simp [h]
        · rw [strLe_of (hbw i0 q0 g2) hwb h1 h2]; simp
end Go.Proofs.YtdfnbogkniikbaaDoor.V
