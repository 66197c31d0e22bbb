/-
  Descriptions: the calls that say whether they are few, and right, answer something.
-/
import Derived.Test.YtdfnbogkniikbaaDoorP13
namespace Go.Proofs.YtdfnbogkniikbaaDoor.V
open Go
set_option linter.unusedVariables false

theorem exl {ρ : Type} {γ : Sort _} {P : γ → ρ → Prop} (c : γ) (h : ∃ r, P c r) : ∃ r, ∃ c, P c r := let ⟨r, h⟩ := h; ⟨r, c, h⟩
theorem andl {ρ : Type} {A : Prop} {B : ρ → Prop} (a : A) (h : ∃ r, B r) : ∃ r, A ∧ B r := let ⟨r, h⟩ := h; ⟨r, a, h⟩
theorem pick {ρ : Type} [Inhabited ρ] {b : Bool} {X Y : ρ → Prop} (h1 : b = true → ∃ r, X r) (h2 : b = false → ∃ r, Y r) : ∃ r, (b = true → X r) ∧ (b = false → Y r) := by
  cases b
  · obtain ⟨r, h⟩ := h2 rfl
    exact ⟨r, (fun h => by cases h), fun _ => h⟩
  · obtain ⟨r, h⟩ := h1 rfl
    exact ⟨r, fun _ => h, (fun h => by cases h)⟩

/-! ### few -/
def sumT (l : List SNode) : Nat := (l.map fun n => n.2.2.2.2.2.2.length).sum
theorem sumT_le {l : List SNode} (h : ∀ n ∈ l, n.2.2.2.2.2.2.length ≤ 140737488351232) : sumT l ≤ l.length * 140737488351232 := by
  induction l with
  | nil => simp [sumT]
  | cons x l ih =>
    have h1 := h x (by simp)
    have h2 := ih fun n hn => h n (by simp [hn])
    simp only [sumT, List.map_cons, List.sum_cons, List.length_cons] at h2 ⊢
    omega
theorem few_ex {d : List SNode} (ht : ∀ n ∈ d, n.2.2.2.2.2.2.length ≤ 140737488351232) : ∃ r, ref04_Few d r ∧ (r = true → d.length ≤ 100) := by
  refine ⟨decide ((d.length : Int) ≤ 100) && decide (((sumT (d.take (min d.length 200)) : Nat) : Int) ≤ 2000), ?_, fun h => ?_⟩
  · refine upto (P := fun k (s : Int) v => ref04_Few.l1 d _ k s v) (min d.length 200) (fun i s => s = ((sumT (d.take i) : Nat) : Int)) ?_ ?_ _ (by simp [sumT])
    · rintro i s hi rfl
      have hd : i < d.length := by omega
      have h1 := sumT_le (l := d.take i) fun n hn => ht n (List.mem_of_mem_take hn)
      have h2 := ht _ (List.getElem_mem hd)
      have h3 : (d.take i).length = i := by simp; omega
      rw [h3] at h1
      have h4 : i * 140737488351232 ≤ 200 * 140737488351232 := Nat.mul_le_mul_right _ (by omega)
      have e : sumT (d.take (i + 1)) = sumT (d.take i) + d[i].2.2.2.2.2.2.length := by
        unfold sumT
        rw [List.take_succ_eq_append_getElem hd, List.map_append, List.sum_append]
        simp only [List.map_cons, List.map_nil, List.sum_cons, List.sum_nil, Nat.add_zero]
      refine .inr ⟨_, rfl, fun k h => ⟨true, by simp; omega, fun _ => ⟨d[i], by rw [at_nat]; simp [hd], i64_of (by omega) (by omega), i64_of (by omega) (by omega), ?_⟩, (fun h => by cases h)⟩⟩
      rw [e] at h
      simpa using h
    · rintro s rfl k
      exact ⟨false, by simp; omega, (fun h => by cases h), fun _ => ⟨_, rfl, rfl⟩⟩
  · simp only [Bool.and_eq_true, decide_eq_true_eq] at h
    omega

/-! ### texts -/
theorem byte_in {s : Str} {i : Int} (h0 : 0 ≤ i) (h1 : i < (s.length : Int)) : ∃ c, byte? s i = some c := by
  obtain ⟨x, hx, _⟩ := at_in h0 h1
  exact ⟨_, by unfold byte?; rw [hx]; rfl⟩
theorem in_ex (s : Str) {i : Int} (f t : Int) (h0 : 0 ≤ i) : ∃ r, ref03_in s i f t r := by
  by_cases h1 : i < (s.length : Int)
  · obtain ⟨c, hc⟩ := byte_in h0 h1
    exact ⟨_, c, fun _ => hc, _, rfl, c, fun _ => hc, rfl⟩
  · exact ⟨_, 0, fun h => absurd (dt h) h1, _, rfl, 0, fun h => absurd h (by simp [h1]), rfl⟩
theorem utf8_ex {s : Str} (hl : s.length ≤ 140737488351232) : ∃ r, ref03_Utf8 s r := by
  have key : ∀ (m : Nat) (i : Int), 0 ≤ i → (s.length : Int) + 4 - i ≤ m → i ≤ (s.length : Int) + 4 → ∃ q : Bool × Nat, ref03_Utf8.l1 s q.1 (ref03_Utf8.j1 q.1) q.2 i := by
    intro m
    induction m with
    | zero =>
      intro i h0 h1 h2
      exact ⟨(true, 1), fun h => absurd (dt h) (by omega), fun _ => rfl⟩
    | succ m ih =>
      intro i h0 h1 h2
      suffices h : ∃ q : Bool × Nat, ref03_Utf8.l1 s q.1 (ref03_Utf8.j1 q.1) (q.2 + 1) i by
        obtain ⟨q, hq⟩ := h
        exact ⟨(q.1, q.2 + 1), hq⟩
      unfold ref03_Utf8.l1
      refine pick (fun hd => ?_) (fun hd => ⟨(true, 0), rfl⟩)
      have hlt := dt hd
      obtain ⟨c, hc⟩ := byte_in h0 hlt
      obtain ⟨r17, h17⟩ := in_ex s (i := i + 1) 128 191 (by omega)
      obtain ⟨r21, h21⟩ := in_ex s (i := i + 2) 128 191 (by omega)
      obtain ⟨r25, h25⟩ := in_ex s (i := i + 3) 128 191 (by omega)
      obtain ⟨r35, h35⟩ := in_ex s (i := i + 1) 160 191 (by omega)
      obtain ⟨r44, h44⟩ := in_ex s (i := i + 1) 128 159 (by omega)
      obtain ⟨r49, h49⟩ := in_ex s (i := i + 1) 144 191 (by omega)
      obtain ⟨r58, h58⟩ := in_ex s (i := i + 1) 128 143 (by omega)
      have i1 : InR .i64 (i + 1) := i64_of (by omega) (by omega)
      have i2 : InR .i64 (i + 2) := i64_of (by omega) (by omega)
      have i3 : InR .i64 (i + 3) := i64_of (by omega) (by omega)
      have i4 : InR .i64 (i + 4) := i64_of (by omega) (by omega)
      have g1 := ih (i + 1) (by omega) (by omega) (by omega)
      have g2 := ih (i + 2) (by omega) (by omega) (by omega)
      have g3 := ih (i + 3) (by omega) (by omega) (by omega)
      have g4 := ih (i + 4) (by omega) (by omega) (by omega)
      refine exl c (andl hc (andl i1 (exl r17 (andl h17 (andl i2 (exl r21 (andl h21 (andl i3 (exl r25 (andl h25 (pick (fun _ => andl i1 g1) (fun _ => ?_))))))))))))
      refine exl _ (andl rfl (pick (fun _ => andl i2 g2) (fun _ => ?_)))
      refine andl (fun _ => i1) (exl r35 (andl (fun _ => h35) (pick (fun _ => andl i3 g3) (fun _ => ?_))))
      refine exl _ (andl rfl (pick (fun _ => andl i3 g3) (fun _ => ?_)))
      refine andl (fun _ => i1) (exl r44 (andl (fun _ => h44) (pick (fun _ => andl i3 g3) (fun _ => ?_))))
      refine andl (fun _ => i1) (exl r49 (andl (fun _ => h49) (pick (fun _ => andl i4 g4) (fun _ => ?_))))
      refine exl _ (andl rfl (pick (fun _ => andl i4 g4) (fun _ => ?_)))
      refine andl (fun _ => i1) (exl r58 (andl (fun _ => h58) (pick (fun _ => andl i4 g4) (fun _ => ?_))))
      exact ⟨(false, 0), rfl⟩
  obtain ⟨q, hq⟩ := key (s.length + 4) 0 (by omega) (by omega) (by omega)
  exact ⟨q.1, q.2, hq⟩
theorem text_ex {s : Str} (hl : s.length ≤ 140737488351232) : ∃ r, ref04_text s r := by
  obtain ⟨u, hu⟩ := utf8_ex hl
  have key : ∀ (m : Nat) (i : Int), 0 ≤ i → (s.length : Int) - i ≤ m → i ≤ (s.length : Int) → ∃ q : Bool × Nat, ref04_text.l1 s q.1 (ref04_text.j1 s q.1) q.2 i := by
    intro m
    induction m with
    | zero =>
      intro i h0 h1 h2
      exact ⟨(_, 1), fun h => absurd (dt h) (by omega), fun _ => ⟨u, fun _ => hu, rfl⟩⟩
    | succ m ih =>
      intro i h0 h1 h2
      by_cases hlt : i < (s.length : Int)
      · obtain ⟨c, hc⟩ := byte_in h0 hlt
        by_cases h34 : c = 34
        · exact ⟨(false, 1), fun _ => ⟨c, hc, fun _ => rfl, fun h => by simp [h34] at h⟩, fun h => absurd hlt (df h)⟩
        · obtain ⟨q, hq⟩ := ih (i + 1) (by omega) (by omega) (by omega)
          exact ⟨(q.1, q.2 + 1), fun _ => ⟨c, hc, fun h => by simp at h; exact absurd h h34, fun _ => ⟨i64_of (by omega) (by omega), hq⟩⟩, fun h => absurd hlt (df h)⟩
      · exact ⟨(_, 1), fun h => absurd (dt h) hlt, fun _ => ⟨u, fun _ => hu, rfl⟩⟩
  obtain ⟨q, hq⟩ := key s.length 0 (by omega) (by omega) (by omega)
  exact ⟨q.1, q.2, hq⟩

/-! ### the form of a description -/
def NodeOk (l : List SNode) (k : Int) : Prop := ∀ e, at? l k = some e → ((e.1 = 4 ∨ e.1 = 5) → (0 ≤ e.2.1 ∧ e.2.1 < k) ∧ (0 ≤ e.2.2.1 ∧ e.2.2.1 < k)) ∧ ((e.1 = 6 ∨ e.1 = 7) → 0 ≤ e.2.1 ∧ e.2.1 < k) ∧ (e.1 = 7 → 0 ≤ e.2.2.2.1 ∧ e.2.2.2.1 ≤ e.2.2.2.2.1 ∧ e.2.2.2.2.1 ≤ 255)
def FirstOk (l : List SNode) (i r : Int) : Prop := r = -1 ∨ (0 ≤ r ∧ r ≤ i ∧ ∀ k, r ≤ k → k ≤ i → NodeOk l k)
theorem firstOk_self {l : List SNode} {i : Int} (h0 : 0 ≤ i) {e : SNode} (he : at? l i = some e) (h : e.1 ≠ 4 ∧ e.1 ≠ 5 ∧ e.1 ≠ 6 ∧ e.1 ≠ 7) : FirstOk l i i := by
  refine .inr ⟨h0, Int.le_refl _, fun k hk1 hk2 => ?_⟩
  obtain rfl : k = i := by omega
  intro e' he'
  rw [he] at he'
  cases he'
  refine ⟨fun hh => ?_, fun hh => ?_, fun hh => ?_⟩ <;> omega

theorem first_ex {l : List SNode} (hl : l.length ≤ 1000) (ht : ∀ n ∈ l, n.2.2.2.2.2.2.length ≤ 140737488351232) : ∀ (m : Nat) (i : Int), i < (m : Int) → -1 ≤ i → i < (l.length : Int) → ∃ r, ref04_First.n (m + 1) l i r ∧ FirstOk l i r := by
  intro m
  induction m with
  | zero =>
    intro i h1 h2 h3
    exact ⟨-1, ⟨fun _ => rfl, fun h => absurd (by omega) (df h)⟩, .inl rfl⟩
  | succ m ih =>
    intro i h1 h2 h3
    by_cases h0 : i < 0
    · exact ⟨-1, ⟨fun _ => rfl, fun h => absurd h0 (df h)⟩, .inl rfl⟩
    · obtain ⟨e, he, hm⟩ := at_in (xs := l) (i := i) (by omega) h3
      have i1 : InR .i64 (i - 1) := i64_of (by omega) (by omega)
      obtain ⟨p, hp, hpo⟩ := ih (i - 1) (by omega) (by omega) (by omega)
      -- one part
      have one : ∀ w : SNode, (e = w → w.2.1 = i - 1 ∧ (w.1 = 6 ∨ w.1 = 7 ∨ w.1 = 8 ∨ w.1 = 9) ∧ (w.1 = 7 → 0 ≤ w.2.2.2.1 ∧ w.2.2.2.1 ≤ w.2.2.2.2.1 ∧ w.2.2.2.2.1 ≤ 255)) → ∃ r, ref04_First.j1 (ref04_First.n (m + 1)) l i r e w ∧ FirstOk l i r := by
        intro w hw
        by_cases hew : e = w
        · refine ⟨p, ⟨i1, p, hp, fun h => by simp [hew] at h, fun _ => rfl⟩, ?_⟩
          rcases hpo with rfl | ⟨p0, p1, p2⟩
          · exact .inl rfl
          · obtain ⟨w1, w2, w3⟩ := hw hew
            refine .inr ⟨p0, by omega, fun k hk1 hk2 => ?_⟩
            by_cases hki : k = i
            · subst hki
              intro e' he'
              rw [he] at he'
              cases he'
              rw [hew]
              refine ⟨fun hh => ?_, fun hh => ?_, w3⟩
              · omega
              · omega
            · exact p2 k hk1 (by omega)
        · exact ⟨-1, ⟨i1, p, hp, fun _ => rfl, fun h => by simp at h; exact absurd h hew⟩, .inl rfl⟩
      -- two parts
      have two : (e.1 = 4 ∨ e.1 = 5) → ∃ r, ref04_First.j2 (ref04_First.n (m + 1)) l i r e true ∧ FirstOk l i r := by
        intro hk
        by_cases hp0 : p < 0
        · exact ⟨-1, ⟨fun _ => ⟨i1, i1, p, hp, fun _ => rfl, fun h => absurd hp0 (df h)⟩, (fun h => by cases h)⟩, .inl rfl⟩
        · obtain ⟨p0, p1, p2⟩ : 0 ≤ p ∧ p ≤ i - 1 ∧ ∀ k, p ≤ k → k ≤ i - 1 → NodeOk l k := by
            rcases hpo with rfl | h
            · omega
            · exact h
          obtain ⟨q, hq, hqo⟩ := ih (p - 1) (by omega) (by omega) (by omega)
          have j1 : InR .i64 (p - 1) := i64_of (by omega) (by omega)
          by_cases hew : e = (e.1, p - 1, i - 1, 0, 0, (0#256), ([] : Str))
          · refine ⟨q, ⟨fun _ => ⟨i1, i1, p, hp, fun h => absurd (dt h) hp0, fun _ => ⟨j1, j1, q, hq, false, ?_, (fun h => by cases h), fun _ => rfl⟩⟩, (fun h => by cases h)⟩, ?_⟩
            · have : (e != (e.1, p - 1, i - 1, 0, 0, (0#256), ([] : Str))) = false := by rw [← hew]; simp
              exact this.symm
            · rcases hqo with rfl | ⟨q0, q1, q2⟩
              · exact .inl rfl
              · refine .inr ⟨q0, by omega, fun k hk1 hk2 => ?_⟩
                by_cases hki : k = i
                · subst hki
                  intro e' he'
                  rw [he] at he'
                  cases he'
                  have a1 : e.2.1 = p - 1 := by rw [hew]
                  have a2 : e.2.2.1 = k - 1 := by rw [hew]
                  refine ⟨fun _ => ⟨⟨by omega, by omega⟩, by omega, by omega⟩, fun hh => ?_, fun hh => ?_⟩ <;> omega
                · by_cases hkp : p ≤ k
                  · exact p2 k hkp (by omega)
                  · exact q2 k hk1 (by omega)
          · refine ⟨-1, ⟨fun _ => ⟨i1, i1, p, hp, fun h => absurd (dt h) hp0, fun _ => ⟨j1, j1, q, hq, true, ?_, fun _ => rfl, (fun h => by cases h)⟩⟩, (fun h => by cases h)⟩, .inl rfl⟩
            exact (bne_iff_ne.2 hew).symm
      -- a single, by its kind
      have three : (e.1 = 6 ∨ e.1 = 7 ∨ e.1 = 8 ∨ e.1 = 9) → ∃ r, ref04_First.j3 (ref04_First.n (m + 1)) l i r e true ∧ FirstOk l i r := by
        intro hk
        by_cases h7 : e.1 = 7
        · by_cases hb : ((decide (e.2.2.2.1 < 0)) || (decide (e.2.2.2.2.1 < e.2.2.2.1)) || (decide (255 < e.2.2.2.2.1))) = true
          · exact ⟨-1, ⟨fun _ => ⟨i1, fun _ => ⟨_, rfl, fun _ => rfl, fun h => by rw [hb] at h; cases h⟩, fun h => by simp [h7] at h⟩, (fun h => by cases h)⟩, .inl rfl⟩
          · obtain ⟨r, hr1, hr2⟩ := one (e.1, i - 1, 0, e.2.2.2.1, e.2.2.2.2.1, (0#256), ([] : Str)) fun _ => ⟨rfl, hk, fun _ => by
              simp only [Bool.or_eq_true, decide_eq_true_eq, not_or] at hb
              exact ⟨by show (0 : Int) ≤ e.2.2.2.1; omega, by show e.2.2.2.1 ≤ e.2.2.2.2.1; omega, by show e.2.2.2.2.1 ≤ 255; omega⟩⟩
            exact ⟨r, ⟨fun _ => ⟨i1, fun _ => ⟨_, rfl, fun h => absurd h hb, fun _ => hr1⟩, fun h => by simp [h7] at h⟩, (fun h => by cases h)⟩, hr2⟩
        · obtain ⟨r, hr1, hr2⟩ := one (e.1, i - 1, 0, 0, 0, (0#256), ([] : Str)) fun _ => ⟨rfl, hk, fun h => absurd h h7⟩
          exact ⟨r, ⟨fun _ => ⟨i1, fun h => by simp at h; exact absurd h h7, fun _ => hr1⟩, (fun h => by cases h)⟩, hr2⟩
      have ne : ∀ {a b : Int}, a ≠ b → (a == b) = true → False := fun h k => h (eq_of_beq k)
      have last : ∀ b : Bool, (b = true ↔ e.1 = 9) → e.1 ≠ 6 → e.1 ≠ 7 → e.1 ≠ 8 → ∃ r, ref04_First.j3 (ref04_First.n (m + 1)) l i r e b ∧ FirstOk l i r := by
        intro b hb n6 n7 n8
        cases b
        · have n9 : e.1 ≠ 9 := fun h => by have := hb.2 h; cases this
          by_cases h4 : e.1 = 4
          · obtain ⟨r, hr1, hr2⟩ := two (.inl h4)
            exact ⟨r, ⟨(fun h => by cases h), fun _ => ⟨fun h => by rw [h]; exact hr1, fun h => by simp [h4] at h⟩⟩, hr2⟩
          · by_cases h5 : e.1 = 5
            · obtain ⟨r, hr1, hr2⟩ := two (.inr h5)
              have e5 : (e.1 == 5) = true := by simp [h5]
              exact ⟨r, ⟨(fun h => by cases h), fun _ => ⟨fun h => by simp at h; exact absurd h h4, fun _ => by rw [e5]; exact hr1⟩⟩, hr2⟩
            · have e5 : (e.1 == 5) = false := by simp [h5]
              exact ⟨-1, ⟨(fun h => by cases h), fun _ => ⟨fun h => by simp at h; exact absurd h h4, fun _ => by rw [e5]; exact ⟨(fun h => by cases h), fun _ => rfl⟩⟩⟩, .inl rfl⟩
        · exact three (.inr (.inr (.inr (hb.1 rfl))))
      suffices h : ∃ r, (∃ e6 : SNode, at? l i = some e6 ∧ _) ∧ FirstOk l i r by
        obtain ⟨r, hr, ho⟩ := h
        exact ⟨r, ⟨fun h => absurd (dt h) h0, fun _ => hr⟩, ho⟩
      by_cases k1 : e.1 = 1
      · by_cases hw : e = (e.1, 0, 0, 0, 0, (0#256), ([] : Str))
        · exact ⟨i, ⟨e, he, fun _ => ⟨fun h => by rw [← hw] at h; simp at h, fun _ => rfl⟩, fun h => by simp [k1] at h⟩, firstOk_self (by omega) he (by omega)⟩
        · exact ⟨-1, ⟨e, he, fun _ => ⟨fun _ => rfl, fun h => by simp at h; exact absurd h hw⟩, fun h => by simp [k1] at h⟩, .inl rfl⟩
      · by_cases k2 : e.1 = 2
        · by_cases hw : e = (e.1, 0, 0, 0, 0, e.2.2.2.2.2.1, ([] : Str))
          · exact ⟨i, ⟨e, he, fun h => (ne k1 h).elim, fun _ => ⟨fun _ => ⟨false, by rw [← hw]; simp, (fun h => by cases h), fun _ => rfl⟩, fun h => by simp [k2] at h⟩⟩, firstOk_self (by omega) he (by omega)⟩
          · exact ⟨-1, ⟨e, he, fun h => (ne k1 h).elim, fun _ => ⟨fun _ => ⟨true, (bne_iff_ne.2 hw).symm, fun _ => rfl, (fun h => by cases h)⟩, fun h => by simp [k2] at h⟩⟩, .inl rfl⟩
        · by_cases k3 : e.1 = 3
          · obtain ⟨t, htx⟩ := text_ex (ht e hm)
            cases t
            · exact ⟨-1, ⟨e, he, fun h => (ne k1 h).elim, fun _ => ⟨fun h => (ne k2 h).elim, fun _ => ⟨fun _ => ⟨false, htx, fun _ => rfl, (fun h => by cases h)⟩, fun h => by simp [k3] at h⟩⟩⟩, .inl rfl⟩
            · by_cases hw : e = (e.1, 0, 0, 0, 0, (0#256), e.2.2.2.2.2.2)
              · exact ⟨i, ⟨e, he, fun h => (ne k1 h).elim, fun _ => ⟨fun h => (ne k2 h).elim, fun _ => ⟨fun _ => ⟨true, htx, (fun h => by cases h), fun _ => ⟨false, by rw [← hw]; simp, (fun h => by cases h), fun _ => rfl⟩⟩, fun h => by simp [k3] at h⟩⟩⟩, firstOk_self (by omega) he (by omega)⟩
              · exact ⟨-1, ⟨e, he, fun h => (ne k1 h).elim, fun _ => ⟨fun h => (ne k2 h).elim, fun _ => ⟨fun _ => ⟨true, htx, (fun h => by cases h), fun _ => ⟨true, (bne_iff_ne.2 hw).symm, fun _ => rfl, (fun h => by cases h)⟩⟩, fun h => by simp [k3] at h⟩⟩⟩, .inl rfl⟩
          · by_cases k6 : e.1 = 6
            · obtain ⟨r, hr1, hr2⟩ := three (.inl k6)
              exact ⟨r, ⟨e, he, fun h => (ne k1 h).elim, fun _ => ⟨fun h => (ne k2 h).elim, fun _ => ⟨fun h => (ne k3 h).elim, fun _ => ⟨fun h => by rw [h]; exact hr1, fun h => by simp [k6] at h⟩⟩⟩⟩, hr2⟩
            · by_cases k7 : e.1 = 7
              · obtain ⟨r, hr1, hr2⟩ := three (.inr (.inl k7))
                exact ⟨r, ⟨e, he, fun h => (ne k1 h).elim, fun _ => ⟨fun h => (ne k2 h).elim, fun _ => ⟨fun h => (ne k3 h).elim, fun _ => ⟨fun h => (ne k6 h).elim, fun _ => ⟨fun h => by rw [h]; exact hr1, fun h => by simp [k7] at h⟩⟩⟩⟩⟩, hr2⟩
              · by_cases k8 : e.1 = 8
                · obtain ⟨r, hr1, hr2⟩ := three (.inr (.inr (.inl k8)))
                  exact ⟨r, ⟨e, he, fun h => (ne k1 h).elim, fun _ => ⟨fun h => (ne k2 h).elim, fun _ => ⟨fun h => (ne k3 h).elim, fun _ => ⟨fun h => (ne k6 h).elim, fun _ => ⟨fun h => (ne k7 h).elim, fun _ => ⟨fun h => by rw [h]; exact hr1, fun h => by simp [k8] at h⟩⟩⟩⟩⟩⟩, hr2⟩
                · obtain ⟨r, hr1, hr2⟩ := last (e.1 == 9) beq_iff_eq k6 k7 k8
                  exact ⟨r, ⟨e, he, fun h => (ne k1 h).elim, fun _ => ⟨fun h => (ne k2 h).elim, fun _ => ⟨fun h => (ne k3 h).elim, fun _ => ⟨fun h => (ne k6 h).elim, fun _ => ⟨fun h => (ne k7 h).elim, fun _ => ⟨fun h => (ne k8 h).elim, fun _ => hr1⟩⟩⟩⟩⟩⟩, hr2⟩
theorem form_ex {d : List SNode} (hl : d.length ≤ 1000) (ht : ∀ n ∈ d, n.2.2.2.2.2.2.length ≤ 140737488351232) : ∃ r, ref04_Form d r ∧ (r = true → ∀ k, 0 ≤ k → k < (d.length : Int) → NodeOk d k) := by
  obtain ⟨r, hr, ho⟩ := first_ex hl ht d.length ((d.length : Int) - 1) (by omega) (by omega) (by omega)
  refine ⟨_, ⟨fun _ => i64_of (by omega) (by omega), r, fun _ => ⟨_, hr⟩, rfl⟩, fun h k h0 h1 => ?_⟩
  simp only [Bool.and_eq_true, decide_eq_true_eq, beq_iff_eq] at h
  rcases ho with rfl | ⟨_, _, h2⟩
  · omega
  · exact h2 k (by omega) (by omega)

/-! ### ways -/
theorem min2 {x : Int} (h : 0 ≤ x) : 0 ≤ min 2 x ∧ min 2 x ≤ 2 := by omega
theorem ways_l3 {l : List Int} (hl : ∀ x ∈ l, 0 ≤ x ∧ x ≤ 2) {e : SNode} (h0 : 0 ≤ e.2.1) (h1 : e.2.1 < (l.length : Int)) {t : Int} (ht : t ≤ 255) :
    ∀ (m : Nat) (v p : Int), t - v ≤ m → 0 ≤ v → v ≤ 256 → 0 ≤ p → p ≤ 2 → ∃ p', 0 ≤ p' ∧ p' ≤ 2 ∧ ∀ Z : Int → Prop, Z p' → ∃ k, ref08_Ways.l3 l e t Z k p v := by
  intro m
  induction m with
  | zero => intro v p hm hv hv2 hp hp2; exact ⟨p, hp, hp2, fun Z hZ => ⟨1, fun h => absurd (dt h) (by omega), fun _ => hZ⟩⟩
  | succ m ih =>
    intro v p hm hv hv2 hp hp2
    by_cases hlt : v < t
    · obtain ⟨x, hx, hxm⟩ := at_in h0 h1
      obtain ⟨x0, x1⟩ := hl x hxm
      have hpx : 0 ≤ p * x ∧ p * x ≤ 4 := by
        have a1 : p * x ≤ 2 * x := Int.mul_le_mul_of_nonneg_right hp2 x0
        exact ⟨Int.mul_nonneg hp x0, by omega⟩
      obtain ⟨p', q0, q1, q2⟩ := ih (v + 1) (min 2 (p * x)) (by omega) (by omega) (by omega) (min2 hpx.1).1 (min2 hpx.1).2
      refine ⟨p', q0, q1, fun Z hZ => ?_⟩
      obtain ⟨k, hk⟩ := q2 Z hZ
      exact ⟨k + 1, fun _ => ⟨x, hx, i64_of (by omega) (by omega), i64_of (by omega) (by omega), hk⟩, fun h => absurd hlt (df h)⟩
    · exact ⟨p, hp, hp2, fun Z hZ => ⟨1, fun h => absurd (dt h) hlt, fun _ => hZ⟩⟩
theorem ways_l2 {l : List Int} (hl : ∀ x ∈ l, 0 ≤ x ∧ x ≤ 2) {e : SNode} (h0 : 0 ≤ e.2.1) (h1 : e.2.1 < (l.length : Int)) (hh : e.2.2.2.2.1 ≤ 255) :
    ∀ (m : Nat) (t w : Int), e.2.2.2.2.1 + 1 - t ≤ m → 0 ≤ t → t ≤ 256 → 0 ≤ w → w ≤ 2 → ∃ w', 0 ≤ w' ∧ w' ≤ 2 ∧ ∀ Z : Int → Prop, Z w' → ∃ k, ref08_Ways.l2 l e Z k w t := by
  intro m
  induction m with
  | zero => intro t w hm ht ht2 hw hw2; exact ⟨w, hw, hw2, fun Z hZ => ⟨1, fun h => absurd (dt h) (by omega), fun _ => hZ⟩⟩
  | succ m ih =>
    intro t w hm ht ht2 hw hw2
    by_cases hlt : t ≤ e.2.2.2.2.1
    · obtain ⟨p, p0, p1, p2⟩ := ways_l3 hl h0 h1 (t := t) (by omega) 300 0 1 (by omega) (by omega) (by omega) (by omega) (by omega)
      obtain ⟨w', q0, q1, q2⟩ := ih (t + 1) (min 2 (w + p)) (by omega) (by omega) (by omega) (min2 (by omega)).1 (min2 (by omega)).2
      refine ⟨w', q0, q1, fun Z hZ => ?_⟩
      obtain ⟨k, hk⟩ := q2 Z hZ
      exact ⟨k + 1, fun _ => p2 _ ⟨i64_of (by omega) (by omega), i64_of (by omega) (by omega), hk⟩, fun h => absurd hlt (df h)⟩
    · exact ⟨w, hw, hw2, fun Z hZ => ⟨1, fun h => absurd (dt h) hlt, fun _ => hZ⟩⟩
theorem ways_ex {d : List SNode} (hl : d.length ≤ 1000) (hok : ∀ k, 0 ≤ k → k < (d.length : Int) → NodeOk d k) {i : Int} (h0 : 0 ≤ i) (h1 : i < (d.length : Int)) : ∃ r, ref08_Ways d i r := by
  have key : ∀ (m : Nat) (k : Nat) (l : List Int), i + 1 - k ≤ m → (k : Int) ≤ i + 1 → l.length = k → (∀ x ∈ l, 0 ≤ x ∧ x ≤ 2) → ∃ q : Int × Nat, ref08_Ways.l1 d i (ref08_Ways.j1 i q.1) q.2 l (k : Int) := by
    intro m
    induction m with
    | zero =>
      intro k l hm hk hlen hb
      obtain ⟨x, hx, _⟩ := at_in (xs := l) (i := i) h0 (by omega)
      exact ⟨(x, 1), fun h => absurd (dt h) (by omega), fun _ => ⟨x, hx, rfl⟩⟩
    | succ m ih =>
      intro k l hm hk hlen hb
      by_cases hlt : (k : Int) ≤ i
      · obtain ⟨e, he, _⟩ := at_in (xs := d) (i := (k : Int)) (by omega) (by omega)
        obtain ⟨o1, o2, o3⟩ := hok k (by omega) (by omega) e he
        have next : ∀ w : Int, 0 ≤ w → ∃ q : Int × Nat, ref08_Ways.j2 (ref08_Ways.l1 d i (ref08_Ways.j1 i q.1) q.2) l (k : Int) w := fun w hw => by
          obtain ⟨q, hq⟩ := ih (k + 1) (l ++ [min 2 w]) (by omega) (by omega) (by simp [hlen]) (fun x hx => by
            rcases List.mem_append.1 hx with hx | hx
            · exact hb x hx
            · rw [List.mem_singleton.1 hx]; exact min2 hw)
          exact ⟨q, by simp only [List.length_cons, List.length_nil]; omega, i64_of (by omega) (by omega), by simpa using hq⟩
        have ne : ∀ {a b : Int}, a ≠ b → (a == b) = true → False := fun h k => h (eq_of_beq k)
        suffices h : ∃ q : Int × Nat, (∃ e21 : SNode, at? d (k : Int) = some e21 ∧ _) by
          obtain ⟨q, hq⟩ := h
          exact ⟨(q.1, q.2 + 1), fun _ => hq, fun h => absurd hlt (df h)⟩
        by_cases k1 : e.1 = 1
        · obtain ⟨q, hq⟩ := next 1 (by omega)
          exact ⟨q, e, he, fun _ => hq, fun h => by simp [k1] at h⟩
        · by_cases k4 : e.1 = 4
          · obtain ⟨⟨a0, a1⟩, b0, b1⟩ := o1 (.inl k4)
            obtain ⟨x, hx, hxm⟩ := at_in (xs := l) a0 (by omega)
            obtain ⟨y, hy, hym⟩ := at_in (xs := l) b0 (by omega)
            have xb := hb x hxm
            have yb := hb y hym
            have hxy : 0 ≤ x * y ∧ x * y ≤ 4 := ⟨Int.mul_nonneg xb.1 yb.1, by have : x * y ≤ 2 * y := Int.mul_le_mul_of_nonneg_right xb.2 yb.1
                                                                              omega⟩
            obtain ⟨q, hq⟩ := next (x * y) hxy.1
            exact ⟨q, e, he, fun h => (ne k1 h).elim, fun _ => ⟨fun _ => ⟨x, hx, y, hy, i64_of (by omega) (by omega), hq⟩, fun h => by simp [k4] at h⟩⟩
          · by_cases k5 : e.1 = 5
            · obtain ⟨⟨a0, a1⟩, b0, b1⟩ := o1 (.inr k5)
              obtain ⟨x, hx, hxm⟩ := at_in (xs := l) a0 (by omega)
              obtain ⟨y, hy, hym⟩ := at_in (xs := l) b0 (by omega)
              have xb := hb x hxm
              have yb := hb y hym
              obtain ⟨q, hq⟩ := next (x + y) (by omega)
              exact ⟨q, e, he, fun h => (ne k1 h).elim, fun _ => ⟨fun h => (ne k4 h).elim, fun _ => ⟨fun _ => ⟨x, hx, y, hy, i64_of (by omega) (by omega), hq⟩, fun h => by simp [k5] at h⟩⟩⟩
            · by_cases k6 : e.1 = 6
              · obtain ⟨a0, a1⟩ := o2 (.inl k6)
                obtain ⟨x, hx, hxm⟩ := at_in (xs := l) a0 (by omega)
                by_cases hx0 : 0 < x
                · obtain ⟨q, hq⟩ := next 2 (by omega)
                  exact ⟨q, e, he, fun h => (ne k1 h).elim, fun _ => ⟨fun h => (ne k4 h).elim, fun _ => ⟨fun h => (ne k5 h).elim, fun _ => ⟨fun _ => ⟨x, hx, fun _ => hq, fun h => absurd hx0 (df h)⟩, fun h => by simp [k6] at h⟩⟩⟩⟩
                · obtain ⟨q, hq⟩ := next 1 (by omega)
                  exact ⟨q, e, he, fun h => (ne k1 h).elim, fun _ => ⟨fun h => (ne k4 h).elim, fun _ => ⟨fun h => (ne k5 h).elim, fun _ => ⟨fun _ => ⟨x, hx, fun h => absurd (dt h) hx0, fun _ => hq⟩, fun h => by simp [k6] at h⟩⟩⟩⟩
              · by_cases k7 : e.1 = 7
                · obtain ⟨a0, a1⟩ := o2 (.inr k7)
                  obtain ⟨c0, c1, c2⟩ := o3 k7
                  obtain ⟨w, w0, w1, w2⟩ := ways_l2 hb a0 (by omega) c2 300 e.2.2.2.1 0 (by omega) c0 (by omega) (by omega) (by omega)
                  obtain ⟨q, hq⟩ := next w w0
                  exact ⟨q, e, he, fun h => (ne k1 h).elim, fun _ => ⟨fun h => (ne k4 h).elim, fun _ => ⟨fun h => (ne k5 h).elim, fun _ => ⟨fun h => (ne k6 h).elim, fun _ => ⟨fun _ => w2 _ hq, fun h => by simp [k7] at h⟩⟩⟩⟩⟩
                · obtain ⟨q, hq⟩ := next 0 (by omega)
                  exact ⟨q, e, he, fun h => (ne k1 h).elim, fun _ => ⟨fun h => (ne k4 h).elim, fun _ => ⟨fun h => (ne k5 h).elim, fun _ => ⟨fun h => (ne k6 h).elim, fun _ => ⟨fun h => (ne k7 h).elim, fun _ => hq⟩⟩⟩⟩⟩
      · obtain ⟨x, hx, _⟩ := at_in (xs := l) (i := i) h0 (by omega)
        exact ⟨(x, 1), fun h => absurd (dt h) hlt, fun _ => ⟨x, hx, rfl⟩⟩
  obtain ⟨q, hq⟩ := key (i.toNat + 1) 0 [] (by omega) (by omega) rfl (by simp)
  exact ⟨q.1, q.2, by simpa using hq⟩
theorem first8_ex {d : List SNode} (hl : d.length ≤ 1000) (hok : ∀ k, 0 ≤ k → k < (d.length : Int) → NodeOk d k) : ∃ r, ref08_First d r := by
  have key : ∀ (m : Nat) (i : Int), 0 ≤ i → (d.length : Int) - i ≤ m → i ≤ (d.length : Int) → ∃ q : (Int × Bool) × Nat, ref08_First.l1 d q.1 (ref08_First.j1 q.1) q.2 i := by
    intro m
    induction m with
    | zero => intro i h0 h1 h2; exact ⟨((0, false), 1), fun h => absurd (dt h) (by omega), fun _ => rfl⟩
    | succ m ih =>
      intro i h0 h1 h2
      by_cases hlt : i < (d.length : Int)
      · obtain ⟨e, he, _⟩ := at_in (xs := d) h0 hlt
        obtain ⟨_, o2, _⟩ := hok i h0 hlt e he
        have hw : ∃ w, ((((e.1 == 6) || (e.1 == 7))) = true → ref08_Ways d e.2.1 w) := by
          by_cases hk : e.1 = 6 ∨ e.1 = 7
          · obtain ⟨a0, a1⟩ := o2 hk
            obtain ⟨w, hw⟩ := ways_ex hl hok a0 (by omega)
            exact ⟨w, fun _ => hw⟩
          · exact ⟨0, fun h => absurd (by simpa using h) hk⟩
        obtain ⟨w, hw⟩ := hw
        cases hb : (((e.1 == 6) || (e.1 == 7)) && (w != 0))
        · obtain ⟨q, hq⟩ := ih (i + 1) (by omega) (by omega) (by omega)
          exact ⟨(q.1, q.2 + 1), fun _ => ⟨e, he, e, fun _ => he, w, hw, (fun h => by rw [hb] at h; cases h), fun _ => ⟨i64_of (by omega) (by omega), hq⟩⟩, fun h => absurd hlt (df h)⟩
        · exact ⟨((i, true), 1), fun _ => ⟨e, he, e, fun _ => he, w, hw, fun _ => rfl, fun h => by rw [hb] at h; cases h⟩, fun h => absurd hlt (df h)⟩
      · exact ⟨((0, false), 1), fun h => absurd (dt h) hlt, fun _ => rfl⟩
  obtain ⟨q, hq⟩ := key d.length 0 (by omega) (by omega) (by omega)
  exact ⟨q.1, q.2, hq⟩
theorem right_ex {d : List SNode} (hl : d.length ≤ 1000) (ht : ∀ n ∈ d, n.2.2.2.2.2.2.length ≤ 140737488351232) : ∃ r, ref08_Right d r := by
  obtain ⟨f, hf, ho⟩ := form_ex hl ht
  cases f
  · exact ⟨false, false, hf, fun _ => rfl, (fun h => by cases h)⟩
  · obtain ⟨w, hw⟩ := first8_ex hl (ho rfl)
    exact ⟨_, true, hf, (fun h => by cases h), fun _ => ⟨w, hw, rfl⟩⟩
end Go.Proofs.YtdfnbogkniikbaaDoor.V
