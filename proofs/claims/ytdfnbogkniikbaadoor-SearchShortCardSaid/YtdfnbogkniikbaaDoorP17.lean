/-
  Plain: searches in tables: what is made, in which order; the verdict.
-/
import Derived.Test.YtdfnbogkniikbaaDoorCI
import Derived.Test.YtdfnbogkniikbaaDoorR17
namespace Go.Proofs.YtdfnbogkniikbaaDoor.V
open Go
set_option linter.unusedVariables false

/-- A thing: its node, the number of the one it came from, the byte, the word. -/
abbrev Q17 := Int × Int × Int × List Int
def qM (q : Q17) : Smade_int_search := (q.1, q.2.1, q.2.2.1)
def qR (q : Q17) : SThing_ref17 := (q.1, q.2.2.2)
def outs (t : STable) (x : Int) : List SWay := (at? t.1 x).getD []
def inQ (acc : List Q17) (x : Int) : Bool := acc.any fun q => q.1 == x
def stQ (i : Nat) (w : List Int) (acc : List Q17) (e : SWay) : List Q17 := if inQ acc e.2 = true then acc else acc ++ [(e.2, (i : Int), e.1, w ++ [e.1])]
def rdQ (t : STable) (i : Nat) (q : Q17) (acc : List Q17) : List Q17 := (outs t q.1).foldl (stQ i q.2.2.2) acc
def acc17 (t : STable) : Nat → List Q17
  | 0 => [(0, -1, 0, [])]
  | i + 1 => match (acc17 t i)[i]? with
    | some q => rdQ t i q (acc17 t i)
    | none => acc17 t i

structure Wf17 (t : STable) : Prop where
  pos : 0 < t.1.length
  few : t.1.length ≤ 60
  tl : t.2.length = t.1.length
  to : ∀ l ∈ t.1, ∀ w ∈ l, 0 ≤ w.2 ∧ w.2 < (t.1.length : Int)
  len : ∀ l ∈ t.1, l.length ≤ 400

theorem outs_in {t : STable} {x : Int} {l : List SWay} (h : at? t.1 x = some l) : outs t x = l := by unfold outs; rw [h]; rfl
theorem node_at {t : STable} {x : Int} (h0 : 0 ≤ x) (h1 : x < (t.1.length : Int)) : at? t.1 x = some (outs t x) ∧ outs t x ∈ t.1 := by
  obtain ⟨l, h, hl⟩ := at_in h0 h1
  rw [outs_in h]; exact ⟨h, hl⟩

/-- What holds of all that is made. -/
structure Good (t : STable) (acc : List Q17) : Prop where
  nd : (acc.map (·.1)).Nodup
  rng : ∀ q ∈ acc, 0 ≤ q.1 ∧ q.1 < (t.1.length : Int)
  par : ∀ j q, acc[j]? = some q → (j = 0 ∧ q = (0, -1, 0, [])) ∨ ∃ p q', q.2.1 = ((p : Nat) : Int) ∧ p < j ∧ acc[p]? = some q' ∧ q.2.2.2 = q'.2.2.2 ++ [q.2.2.1] ∧ (q.2.2.1, q.1) ∈ outs t q'.1
theorem nodup_le : ∀ (n : Nat) (l : List Nat), l.Nodup → (∀ x ∈ l, x < n) → l.length ≤ n
  | 0, l, _, h => by
    cases l with
    | nil => simp
    | cons x l => have := h x (by simp); omega
  | n + 1, l, hn, h => by
    have := nodup_le n (l.erase n) (hn.erase n) (fun x hx => by
      obtain ⟨h1, h2⟩ := hn.mem_erase_iff.1 hx
      have := h x h2; omega)
    by_cases hm : n ∈ l
    · rw [List.length_erase_of_mem hm] at this; omega
    · rw [List.erase_of_not_mem hm] at this; omega
theorem Good.len {t : STable} {acc : List Q17} (h : Good t acc) : acc.length ≤ t.1.length := by
  have := nodup_le t.1.length (acc.map (·.1.toNat)) (by
    have h1 : acc.map (·.1.toNat) = (acc.map (·.1)).map Int.toNat := by simp
    rw [h1]
    refine List.pairwise_map.2 (List.Pairwise.imp_of_mem ?_ h.nd)
    intro a b ha hb hne e
    obtain ⟨q, hq, rfl⟩ := List.mem_map.1 ha
    obtain ⟨q', hq', rfl⟩ := List.mem_map.1 hb
    have := h.rng q hq
    have := h.rng q' hq'
    exact hne (by omega)) (by
    intro x hx
    obtain ⟨q, hq, rfl⟩ := List.mem_map.1 hx
    have := h.rng q hq
    omega)
  simpa using this
theorem inQ_iff {acc : List Q17} {x : Int} : inQ acc x = true ↔ ∃ q ∈ acc, q.1 = x := by simp [inQ]
theorem get_pre {α : Type} {a b : List α} (h : a <+: b) {j : Nat} {q : α} (hq : a[j]? = some q) : b[j]? = some q := by
  obtain ⟨r, rfl⟩ := h
  rw [List.getElem?_append_left (List.getElem?_eq_some_iff.1 hq).1]; exact hq
theorem st_pre (i : Nat) (w : List Int) (acc : List Q17) (e : SWay) : acc <+: stQ i w acc e := by
  unfold stQ; split
  · exact List.prefix_refl _
  · exact List.prefix_append _ _
theorem fold_pre (i : Nat) (w : List Int) (es : List SWay) : ∀ acc : List Q17, acc <+: es.foldl (stQ i w) acc := by
  induction es with
  | nil => intro acc; exact List.prefix_refl _
  | cons e es ih => intro acc; exact (st_pre i w acc e).trans (ih _)
theorem acc_pre1 (t : STable) (i : Nat) : acc17 t i <+: acc17 t (i + 1) := by
  show acc17 t i <+: (match (acc17 t i)[i]? with | some q => rdQ t i q (acc17 t i) | none => acc17 t i)
  split
  · exact fold_pre _ _ _ _
  · exact List.prefix_refl _
theorem acc_pre (t : STable) {i j : Nat} (h : i ≤ j) : acc17 t i <+: acc17 t j := by
  obtain ⟨d, rfl⟩ : ∃ d, j = i + d := ⟨j - i, by omega⟩
  clear h
  induction d with
  | zero => exact List.prefix_refl _
  | succ d ih => exact ih.trans (acc_pre1 t (i + d))
theorem st_good {t : STable} {i : Nat} {q0 : Q17} {acc : List Q17} {e : SWay} (h : Good t acc) (hi : acc[i]? = some q0) (he : e ∈ outs t q0.1) (hr : 0 ≤ e.2 ∧ e.2 < (t.1.length : Int)) : Good t (stQ i q0.2.2.2 acc e) := by
  unfold stQ
  split
  · exact h
  · rename_i hno
    have hni : e.2 ∉ acc.map (·.1) := fun hm => by
      obtain ⟨q, hq, he⟩ := List.mem_map.1 hm
      exact hno (inQ_iff.2 ⟨q, hq, he⟩)
    have hil : i < acc.length := (List.getElem?_eq_some_iff.1 hi).1
    refine ⟨?_, ?_, ?_⟩
    · rw [List.map_append, List.nodup_append]
      exact ⟨h.nd, by simp, fun a ha b hb e => by simp at hb; subst hb; subst e; exact hni ha⟩
    · intro q hq
      rcases List.mem_append.1 hq with hq | hq
      · exact h.rng q hq
      · rw [List.mem_singleton.1 hq]; exact hr
    · intro j q hj
      by_cases hjl : j < acc.length
      · rw [List.getElem?_append_left hjl] at hj
        rcases h.par j q hj with h1 | ⟨p, q', h1, h2, h3, h4⟩
        · exact .inl h1
        · exact .inr ⟨p, q', h1, h2, get_pre (List.prefix_append _ _) h3, h4⟩
      · have hjl' := (List.getElem?_eq_some_iff.1 hj).1
        simp at hjl'
        have : j = acc.length := by omega
        subst this
        rw [List.getElem?_append_right (Nat.le_refl _)] at hj
        simp at hj; subst hj
        exact .inr ⟨i, q0, rfl, hil, get_pre (List.prefix_append _ _) hi, rfl, he⟩
theorem fold_good {t : STable} {i : Nat} {q0 : Q17} {es : List SWay} (hes : ∀ e ∈ es, e ∈ outs t q0.1 ∧ 0 ≤ e.2 ∧ e.2 < (t.1.length : Int)) : ∀ acc : List Q17, Good t acc → acc[i]? = some q0 → Good t (es.foldl (stQ i q0.2.2.2) acc) := by
  induction es with
  | nil => intro acc h _; exact h
  | cons e es ih =>
    intro acc h hi
    have he := hes e (by simp)
    exact ih (fun e he => hes e (by simp [he])) _ (st_good h hi he.1 he.2) (get_pre (st_pre _ _ _ _) hi)
theorem outs_ok {t : STable} (hw : Wf17 t) {x : Int} (h0 : 0 ≤ x) (h1 : x < (t.1.length : Int)) : ∀ e ∈ outs t x, e ∈ outs t x ∧ 0 ≤ e.2 ∧ e.2 < (t.1.length : Int) := fun e he =>
  ⟨he, hw.to _ (node_at h0 h1).2 e he⟩
theorem acc_good {t : STable} (hw : Wf17 t) : ∀ i, Good t (acc17 t i)
  | 0 => ⟨by simp [acc17], fun q hq => by have := hw.pos; simp [acc17] at hq; subst hq; simp; omega, fun j q hj => by
      cases j with
      | zero => simp [acc17] at hj; subst hj; exact .inl ⟨rfl, rfl⟩
      | succ j => simp [acc17] at hj⟩
  | i + 1 => by
    have ih := acc_good hw i
    show Good t (match (acc17 t i)[i]? with | some q => rdQ t i q (acc17 t i) | none => acc17 t i)
    cases hi : (acc17 t i)[i]? with
    | none => exact ih
    | some q =>
      have hr := ih.rng q (List.mem_of_getElem? hi)
      exact fold_good (outs_ok hw hr.1 hr.2) _ ih hi
theorem acc_stop {t : STable} {i : Nat} (h : (acc17 t i)[i]? = none) : ∀ d, acc17 t (i + d) = acc17 t i
  | 0 => rfl
  | d + 1 => by
    have ih := acc_stop h d
    show (match (acc17 t (i + d))[i + d]? with | some q => rdQ t (i + d) q (acc17 t (i + d)) | none => acc17 t (i + d)) = _
    have : (acc17 t (i + d))[i + d]? = none := by
      rw [ih]; rw [List.getElem?_eq_none_iff] at h ⊢; omega
    rw [this]; exact ih
/-- All that is made. -/
def all17 (t : STable) : List Q17 := acc17 t t.1.length
theorem acc_all {t : STable} (hw : Wf17 t) {i : Nat} (hi : i ≤ t.1.length) : (acc17 t i)[i]? = (all17 t)[i]? ∧ ((acc17 t i)[i]? = none → all17 t = acc17 t i) := by
  have hstop : (acc17 t i)[i]? = none → all17 t = acc17 t i := fun h => by
    have := acc_stop h (t.1.length - i)
    rw [show i + (t.1.length - i) = t.1.length by omega] at this; exact this
  refine ⟨?_, hstop⟩
  cases h : (acc17 t i)[i]? with
  | none => rw [hstop h, h]
  | some q => exact (get_pre (acc_pre t hi) h).symm
theorem word_len {t : STable} {acc : List Q17} (h : Good t acc) : ∀ (j : Nat) (q : Q17), acc[j]? = some q → q.2.2.2.length ≤ j := by
  intro j
  induction j using Nat.strongRecOn with
  | ind j ih =>
    intro q hq
    rcases h.par j q hq with ⟨_, rfl⟩ | ⟨p, q', _, h2, h3, h4, _⟩
    · simp
    · have := ih p h2 q' h3
      rw [h4]; simp; omega

/-! ### the functions -/
theorem at_get {α : Type} {xs : List α} {i : Nat} {x : α} (h : xs[i]? = some x) : at? xs (i : Int) = some x := by rw [at_nat]; exact h
theorem rev_in {l : List Int} (hl : l.length ≤ 1000) : slices_Reverse_byte_byte l l.reverse := by
  refine ⟨i64_of (by omega) (by omega), ?_⟩
  have key := upto (P := fun k (s : List Int) v => slices_Reverse_byte_byte.l1 (slices_Reverse_byte_byte.j1 l.reverse) k s v ((l.length : Int) - 1 - v)) l.length
    (fun i s => s.length = l.length ∧ ∀ k, k < l.length → s[k]? = if k < i ∨ l.length ≤ k + i then l[l.length - 1 - k]? else l[k]?) ?_ ?_ l ⟨rfl, fun k hk => by rw [if_neg (by omega)]⟩
  · simpa using key
  · rintro i s hi ⟨h1, h2⟩
    by_cases hij : i < l.length - 1 - i
    · have hj : (l.length : Int) - 1 - (i : Int) = ((l.length - 1 - i : Nat) : Int) := by omega
      have e1 : s[i]? = some l[i] := by rw [h2 i hi, if_neg (by omega)]; exact List.getElem?_eq_getElem hi
      have hjl : l.length - 1 - i < l.length := by omega
      have e2 : s[l.length - 1 - i]? = some l[l.length - 1 - i] := by rw [h2 _ hjl, if_neg (by omega)]; exact List.getElem?_eq_getElem hjl
      refine .inr ⟨(s.set i l[l.length - 1 - i]).set (l.length - 1 - i) l[i], ⟨by simp [h1], fun k hk => ?_⟩, fun k hk => ⟨fun _ => ⟨_, by rw [hj]; exact at_get e2, _, at_get e1, _, at_get e1, l[l.length - 1 - i], ?_, i64_of (by omega) (by omega), i64_of (by omega) (by omega), ?_⟩, fun h => absurd (by omega) (df h)⟩⟩
      · rw [List.getElem?_set]
        by_cases hk1 : l.length - 1 - i = k
        · subst hk1
          rw [if_pos rfl, if_pos (by simp [h1]; omega), if_pos (by omega)]
          rw [show l.length - 1 - (l.length - 1 - i) = i by omega]; exact (List.getElem?_eq_getElem hi).symm
        · rw [if_neg hk1, List.getElem?_set]
          by_cases hk2 : i = k
          · subst hk2
            rw [if_pos rfl, if_pos (by rw [h1]; exact hi), if_pos (by omega)]; exact (List.getElem?_eq_getElem hjl).symm
          · rw [if_neg hk2, h2 k hk]
            by_cases hk3 : k < i ∨ l.length ≤ k + i
            · rw [if_pos hk3, if_pos (by omega)]
            · rw [if_neg hk3, if_neg (by omega)]
      · rw [hj]
        rw [Int.toNat_natCast, at_nat, List.getElem?_set, if_neg (by omega)]; exact e2
      · rw [show (l.length : Int) - 1 - ((i : Int) + 1) = (l.length : Int) - 1 - (i : Int) - 1 by omega] at hk
        rw [hj] at hk ⊢
        rw [Int.toNat_natCast, Int.toNat_natCast]; exact hk
    · refine .inl fun k => ⟨fun h => absurd (dt h) (by omega), fun _ => ?_⟩
      show l.reverse = s
      refine List.ext_getElem? fun k => ?_
      by_cases hk : k < l.length
      · rw [List.getElem?_reverse hk, h2 k hk]
        split
        · rfl
        · rw [show l.length - 1 - k = k by omega]
      · rw [List.getElem?_eq_none (by simp; omega), List.getElem?_eq_none (by omega)]
  · rintro s ⟨h1, h2⟩ k
    refine ⟨fun h => absurd (dt h) (by omega), fun _ => ?_⟩
    show l.reverse = s
    refine List.ext_getElem? fun k => ?_
    by_cases hk : k < l.length
    · rw [List.getElem?_reverse hk, h2 k hk, if_pos (by omega)]
    · rw [List.getElem?_eq_none (by simp; omega), List.getElem?_eq_none (by omega)]

/-- A thing's word, read from its end. -/
theorem wordq_in {t : STable} {acc : List Q17} (h : Good t acc) (hl : acc.length ≤ 60) {i : Nat} {q : Q17} (hi : acc[i]? = some q) : search_word_int (acc.map qM) (i : Int) q.2.2.2 := by
  have hM : ∀ (j : Nat) (x : Q17), acc[j]? = some x → at? (acc.map qM) (j : Int) = some (qM x) := fun j x hx => at_get (by rw [List.getElem?_map, hx]; rfl)
  have hwl := word_len h
  have := run (P := fun k (s : Int × List Int) => search_word_int.l1 (acc.map qM) (search_word_int.j1 q.2.2.2) k s.1 s.2) (fun s => ∃ (j : Nat) (x : Q17), s.1 = (j : Int) ∧ acc[j]? = some x ∧ x.2.2.2 ++ s.2.reverse = q.2.2.2) (fun s => s.1.toNat) ?_ ((i : Int), []) ⟨i, q, rfl, hi, by simp⟩
  · exact this
  · rintro ⟨v, out⟩ ⟨j, x, h1, hx, hwo⟩
    simp only at h1 hwo
    subst h1
    have hil := (List.getElem?_eq_some_iff.1 hi).1
    have hjl := (List.getElem?_eq_some_iff.1 hx).1
    have hq := hwl i q hi
    have hlen : out.length ≤ 60 := by
      have := congrArg List.length hwo
      simp at this; omega
    rcases h.par j x hx with ⟨h0, hx0⟩ | ⟨p, q', h2, h3, h4, h5, _⟩
    · subst h0; subst hx0
      refine .inl fun k => ⟨_, hM 0 _ hx, fun h => absurd (dt h) (by simp [qM]), fun _ => ?_⟩
      refine ⟨out.reverse, rev_in (by show out.length ≤ 1000; omega), ?_⟩
      simpa using hwo.symm
    · refine .inr ⟨((p : Int), out ++ [x.2.2.1]), ⟨p, q', rfl, h4, ?_⟩, by simp only; omega, fun k hk => ⟨_, hM j x hx, fun _ => ⟨_, hM j x hx, by simp; omega, _, hM j x hx, ?_⟩, fun h => absurd (by simp [qM, h2]) (df h)⟩⟩
      · rw [← hwo, h5]; simp
      · simp only [qM]; rw [h2]; exact hk

/-- A node's ways on, as things. -/
theorem space1_in {t : STable} {x : Int} (hx : 0 ≤ x) (hx1 : x < (t.1.length : Int)) (hl : (outs t x).length ≤ 400) : search_space_1 x t (outs t x) := by
  refine ⟨_, (node_at hx hx1).1, ?_⟩
  refine upto (P := fun k (s : List SOn_int_search) v => search_space_1.l1 (outs t x) (search_space_1.j1 (outs t x)) k s v) (outs t x).length (fun i s => s = (outs t x).take i) ?_ ?_ _ (by simp)
  · rintro i s hi rfl
    refine .inr ⟨_, rfl, fun k h => ⟨fun _ => ⟨_, at_get (List.getElem?_eq_getElem hi), by simp; omega, i64_of (by omega) (by omega), ?_⟩, fun h => absurd (by omega) (df h)⟩⟩
    rw [List.take_succ_eq_append_getElem hi] at h; exact h
  · rintro s rfl k
    exact ⟨fun h => absurd (dt h) (by omega), fun _ => by simp [search_space_1.j1]⟩

/-! ### the search -/
def Sn (seen : List (Str × Bool)) (acc : List Q17) : Prop := ∀ z, mget seen (Lib.itoa z) false = inQ acc z
theorem sn_put {seen : List (Str × Bool)} {acc : List Q17} (h : Sn seen acc) (x : Int) (q : Int × Int × List Int) : Sn (mput seen (Lib.itoa x) true) (acc ++ [(x, q)]) := fun z => by
  rw [mget_mput, h z]
  unfold inQ
  rw [List.any_append]
  by_cases hz : x = z
  · subst hz; simp
  · rw [if_neg (fun e => hz (itoa_inj e))]; simp [hz]

/-- One round of the search. -/
theorem round {t : STable} (hw : Wf17 t) {s_ : SSpace_int_search} (hk : s_.2.1 = fun q_ => strconv_Itoa q_.1 q_.2) {i : Nat} {q0 : Q17} {acc : List Q17} (hg : Good t acc) (hi : acc[i]? = some q0) {seen : List (Str × Bool)} (hs : Sn seen acc) (X : List Smade_int_search → List (Str × Bool) → Prop)
    (hX : ∀ seen', Sn seen' (rdQ t i q0 acc) → X ((rdQ t i q0 acc).map qM) seen') : ∃ k, search_Space_int_Walk.l2 s_ (i : Int) (outs t q0.1) X k (acc.map qM) seen 0 := by
  have hr := hg.rng q0 (List.mem_of_getElem? hi)
  have hl : (outs t q0.1).length ≤ 400 := hw.len _ (node_at hr.1 hr.2).2
  have hes := outs_ok hw hr.1 hr.2
  have hgj : ∀ j, Good t (((outs t q0.1).take j).foldl (stQ i q0.2.2.2) acc) := fun j => fold_good (fun e he => hes e (List.mem_of_mem_take he)) _ hg hi
  have hlj : ∀ j, (((outs t q0.1).take j).foldl (stQ i q0.2.2.2) acc).length ≤ 60 := fun j => Nat.le_trans (hgj j).len hw.few
  refine upto (P := fun k (s : List Smade_int_search × List (Str × Bool)) v => search_Space_int_Walk.l2 s_ (i : Int) (outs t q0.1) X k s.1 s.2 v) (outs t q0.1).length
    (fun j s => s.1 = (((outs t q0.1).take j).foldl (stQ i q0.2.2.2) acc).map qM ∧ Sn s.2 (((outs t q0.1).take j).foldl (stQ i q0.2.2.2) acc)) ?_ ?_ (acc.map qM, seen) ⟨rfl, hs⟩
  · rintro j ⟨ls, sn⟩ hj ⟨h1, h2⟩
    simp only at h1 h2
    subst h1
    have he := hes _ (List.getElem_mem hj)
    have hInR : InR .i64 (outs t q0.1)[j].2 := i64_of (by omega) (by have := hw.few; omega)
    have hnext : ((outs t q0.1).take (j + 1)).foldl (stQ i q0.2.2.2) acc = stQ i q0.2.2.2 (((outs t q0.1).take j).foldl (stQ i q0.2.2.2) acc) (outs t q0.1)[j] := by
      rw [List.take_succ_eq_append_getElem hj, List.foldl_append]; rfl
    rw [hnext]
    have hlen := hlj j
    generalize ((outs t q0.1).take j).foldl (stQ i q0.2.2.2) acc = A at *
    cases hin : inQ A (outs t q0.1)[j].2
    · refine .inr ⟨(A.map qM ++ [((outs t q0.1)[j].2, (i : Int), (outs t q0.1)[j].1)], mput sn (Lib.itoa (outs t q0.1)[j].2) true), ⟨?_, ?_⟩, fun k h => ⟨fun _ => ⟨_, at_get (List.getElem?_eq_getElem hj), Lib.itoa (outs t q0.1)[j].2, by rw [hk]; exact ⟨hInR, rfl⟩, fun _ => ⟨by simp; omega, i64_of (by omega) (by omega), h⟩, fun hc => ?_⟩, fun h => absurd (by omega) (df h)⟩⟩
      · simp only [stQ, hin, Bool.false_eq_true, if_false, List.map_append]; rfl
      · simp only [stQ, hin, Bool.false_eq_true, if_false]; exact sn_put h2 _ _
      · rw [h2, hin] at hc; cases hc
    · refine .inr ⟨(A.map qM, sn), ⟨?_, ?_⟩, fun k h => ⟨fun _ => ⟨_, at_get (List.getElem?_eq_getElem hj), Lib.itoa (outs t q0.1)[j].2, by rw [hk]; exact ⟨hInR, rfl⟩, fun hc => ?_, fun _ => ⟨i64_of (by omega) (by omega), h⟩⟩, fun h => absurd (by omega) (df h)⟩⟩
      · simp only [stQ, hin, if_true]
      · simp only [stQ, hin, if_true]; exact h2
      · rw [h2, hin] at hc; cases hc
  · rintro ⟨ls, sn⟩ ⟨h1, h2⟩ k
    simp only at h1 h2
    rw [List.take_length] at h1 h2
    subst h1
    exact ⟨fun h => absurd (dt h) (by omega), fun _ => hX sn h2⟩
/-- One round of the search. -/
theorem round_g {t : STable} (hw : Wf17 t) {s_ : SSpace_int_searchR} (hk : s_.2.1 = fun q_ => strconv_Itoa q_.1 q_.2) {i : Nat} {q0 : Q17} {acc : List Q17} (hg : Good t acc) (hi : acc[i]? = some q0) {seen : List (Str × Bool)} (hs : Sn seen acc) (X : List Smade_int_search → List (Str × Bool) → Prop)
    (hX : ∀ seen', Sn seen' (rdQ t i q0 acc) → X ((rdQ t i q0 acc).map qM) seen') : ∃ k, search_Space_int_Walk_g.l2 s_ (i : Int) (outs t q0.1) X k (acc.map qM) seen 0 := by
  have hr := hg.rng q0 (List.mem_of_getElem? hi)
  have hl : (outs t q0.1).length ≤ 400 := hw.len _ (node_at hr.1 hr.2).2
  have hes := outs_ok hw hr.1 hr.2
  have hgj : ∀ j, Good t (((outs t q0.1).take j).foldl (stQ i q0.2.2.2) acc) := fun j => fold_good (fun e he => hes e (List.mem_of_mem_take he)) _ hg hi
  have hlj : ∀ j, (((outs t q0.1).take j).foldl (stQ i q0.2.2.2) acc).length ≤ 60 := fun j => Nat.le_trans (hgj j).len hw.few
  refine upto (P := fun k (s : List Smade_int_search × List (Str × Bool)) v => search_Space_int_Walk_g.l2 s_ (i : Int) (outs t q0.1) X k s.1 s.2 v) (outs t q0.1).length
    (fun j s => s.1 = (((outs t q0.1).take j).foldl (stQ i q0.2.2.2) acc).map qM ∧ Sn s.2 (((outs t q0.1).take j).foldl (stQ i q0.2.2.2) acc)) ?_ ?_ (acc.map qM, seen) ⟨rfl, hs⟩
  · rintro j ⟨ls, sn⟩ hj ⟨h1, h2⟩
    simp only at h1 h2
    subst h1
    have he := hes _ (List.getElem_mem hj)
    have hInR : InR .i64 (outs t q0.1)[j].2 := i64_of (by omega) (by have := hw.few; omega)
    have hnext : ((outs t q0.1).take (j + 1)).foldl (stQ i q0.2.2.2) acc = stQ i q0.2.2.2 (((outs t q0.1).take j).foldl (stQ i q0.2.2.2) acc) (outs t q0.1)[j] := by
      rw [List.take_succ_eq_append_getElem hj, List.foldl_append]; rfl
    rw [hnext]
    have hlen := hlj j
    generalize ((outs t q0.1).take j).foldl (stQ i q0.2.2.2) acc = A at *
    cases hin : inQ A (outs t q0.1)[j].2
    · refine .inr ⟨(A.map qM ++ [((outs t q0.1)[j].2, (i : Int), (outs t q0.1)[j].1)], mput sn (Lib.itoa (outs t q0.1)[j].2) true), ⟨?_, ?_⟩, fun k h => ⟨fun _ => ⟨_, at_get (List.getElem?_eq_getElem hj), Lib.itoa (outs t q0.1)[j].2, by rw [hk]; exact ⟨hInR, rfl⟩, fun _ => ⟨by simp; omega, i64_of (by omega) (by omega), h⟩, fun hc => ?_⟩, fun h => absurd (by omega) (df h)⟩⟩
      · simp only [stQ, hin, Bool.false_eq_true, if_false, List.map_append]; rfl
      · simp only [stQ, hin, Bool.false_eq_true, if_false]; exact sn_put h2 _ _
      · rw [h2, hin] at hc; cases hc
    · refine .inr ⟨(A.map qM, sn), ⟨?_, ?_⟩, fun k h => ⟨fun _ => ⟨_, at_get (List.getElem?_eq_getElem hj), Lib.itoa (outs t q0.1)[j].2, by rw [hk]; exact ⟨hInR, rfl⟩, fun hc => ?_, fun _ => ⟨i64_of (by omega) (by omega), h⟩⟩, fun h => absurd (by omega) (df h)⟩⟩
      · simp only [stQ, hin, if_true]
      · simp only [stQ, hin, if_true]; exact h2
      · rw [h2, hin] at hc; cases hc
  · rintro ⟨ls, sn⟩ ⟨h1, h2⟩ k
    simp only at h1 h2
    rw [List.take_length] at h1 h2
    subst h1
    exact ⟨fun h => absurd (dt h) (by omega), fun _ => hX sn h2⟩

theorem inR0 : InR .i64 0 := by decide
theorem acc_next {t : STable} {i : Nat} {q : Q17} (h : (acc17 t i)[i]? = some q) : acc17 t (i + 1) = rdQ t i q (acc17 t i) := by
  show (match (acc17 t i)[i]? with | some q => rdQ t i q (acc17 t i) | none => acc17 t i) = _
  rw [h]
/-- The verdict. -/
def verd (t : STable) (hit : Int → Bool) (b : Int) : Nat → Nat → SFound_int_search
  | 0, i => ((1, [], [], 0, 0, 0, ((acc17 t i).length : Int)), 0)
  | f + 1, i => match (acc17 t i)[i]? with
    | none => ((1, [], [], 0, 0, 0, ((acc17 t i).length : Int)), 0)
    | some q => if b ≤ (i : Int) then ((3, [], [], 0, 0, 0, max b 0), 0) else if hit q.1 = true then ((2, q.2.2.2, [], 0, 0, 0, (i : Int) + 1), q.1) else verd t hit b f (i + 1)
theorem sn_0 {t : STable} : Sn (mput ([] : List (Str × Bool)) (Lib.itoa 0) true) (acc17 t 0) := fun z => by
  rw [mget_mput, mget_nil]
  by_cases hz : (0 : Int) = z
  · subst hz; simp [inQ, acc17]
  · rw [if_neg (fun e => hz (itoa_inj e))]; simp [inQ, acc17, hz]
theorem acc_len {t : STable} (hw : Wf17 t) (i : Nat) : (acc17 t i).length ≤ 60 := Nat.le_trans (acc_good hw i).len hw.few
theorem srch_in {t : STable} (hw : Wf17 t) (hit : Int → Bool) (F : Int × Bool → Prop) (hF : ∀ x, 0 ≤ x → x < (t.1.length : Int) → F (x, hit x)) (b : Int) :
    search_Space_int_Walk (0, (fun q_ => strconv_Itoa q_.1 q_.2), (fun q_ => search_space_1 q_.1 t q_.2), F) b (verd t hit b t.1.length 0) := by
  refine ⟨Lib.itoa 0, ⟨inR0, rfl⟩, ?_⟩
  refine uptoK (P := fun k (s : List Smade_int_search × List (Str × Bool)) v => search_Space_int_Walk.l1 _ b _ _ k _ s.1 s.2 v) t.1.length
    (fun i s => s.1 = (acc17 t i).map qM ∧ Sn s.2 (acc17 t i) ∧ verd t hit b t.1.length 0 = verd t hit b (t.1.length - i) i) ?_ ?_ (_, _) ⟨rfl, sn_0, rfl⟩
  · rintro i ⟨ls, sn⟩ k hi ⟨h1, h2, h3⟩ hk
    simp only at h1 h2
    subst h1
    have hlen := acc_len hw i
    rw [show t.1.length - i = (t.1.length - (i + 1)) + 1 by omega] at h3
    cases hq : (acc17 t i)[i]? with
    | none =>
      refine ⟨fun h => absurd (dt h) (by rw [List.getElem?_eq_none_iff] at hq; simp; omega), fun _ => ?_⟩
      rw [h3]; simp [verd, hq, search_Space_int_Walk.j1]
    | some q =>
      have hil := (List.getElem?_eq_some_iff.1 hq).1
      have hg := acc_good hw i
      have hr := hg.rng q (List.mem_of_getElem? hq)
      have hat : at? ((acc17 t i).map qM) (i : Int) = some (qM q) := at_get (by rw [List.getElem?_map, hq]; rfl)
      have hInR : InR .i64 ((i : Int) + 1) := i64_of (by omega) (by omega)
      by_cases hb : b ≤ (i : Int)
      · refine ⟨fun _ => ⟨fun _ => ?_, fun h => absurd hb (df h)⟩, fun h => absurd (by simp; omega) (df h)⟩
        rw [h3]; simp [verd, hq, hb]
      · refine ⟨fun _ => ⟨fun h => absurd (dt h) hb, fun _ => ⟨_, hat, hit q.1, hF q.1 hr.1 hr.2, fun hh => ⟨_, wordq_in hg hlen hq, hInR, ?_⟩, fun hh => ⟨_, space1_in hr.1 hr.2 (hw.len _ (node_at hr.1 hr.2).2), ?_⟩⟩⟩, fun h => absurd (by simp; omega) (df h)⟩
        · rw [h3]; simp [verd, hq, hb, hh, qM]
        · refine round hw rfl hg hq h2 _ fun seen' hs' => ⟨hInR, hk (_, seen') ⟨by rw [acc_next hq], by rw [acc_next hq]; exact hs', ?_⟩⟩
          rw [h3]; simp [verd, hq, hb, hh]
  · rintro ⟨ls, sn⟩ ⟨h1, h2, h3⟩ k
    simp only at h1 h2
    subst h1
    have := (acc_good hw t.1.length).len
    refine ⟨fun h => absurd (dt h) (by simp; omega), fun _ => ?_⟩
    rw [h3]; simp [verd, search_Space_int_Walk.j1]

theorem all_get {t : STable} (hw : Wf17 t) {i : Nat} (hi : i ≤ t.1.length) {q : Q17} (hq : (acc17 t i)[i]? = some q) : (all17 t).take (i + 1) = (all17 t).take i ++ [q] := by
  have h := (acc_all hw hi).1
  rw [hq] at h
  have hl := (List.getElem?_eq_some_iff.1 h.symm).1
  rw [List.take_succ_eq_append_getElem hl]
  rw [List.getElem?_eq_getElem hl] at h
  rw [← Option.some.inj h]
/-- .. with the literal that appends: what it has then. -/
theorem srchg_in {t : STable} (hw : Wf17 t) (c : Nat) : ∃ v, search_Space_int_Walk_g c (0, (fun q_ => strconv_Itoa q_.1 q_.2), (fun q_ => search_space_1 q_.1 t q_.2), hv 55 c) (t.1.length : Int) (v, (all17 t).map (·.1)) := by
  refine ⟨((1, [], [], 0, 0, 0, ((all17 t).length : Int)), 0), Lib.itoa 0, ⟨inR0, rfl⟩, ?_⟩
  refine uptoK (P := fun k (s : List Smade_int_search × List (Str × Bool) × List Int) v => search_Space_int_Walk_g.l1 _ _ c _ _ k _ s.1 s.2.1 v s.2.2) t.1.length
    (fun i s => s.1 = (acc17 t i).map qM ∧ Sn s.2.1 (acc17 t i) ∧ s.2.2 = ((all17 t).take i).map (·.1)) ?_ ?_ (_, _, _) ⟨rfl, sn_0, by simp⟩
  · rintro i ⟨ls, sn, gh⟩ k hi ⟨h1, h2, h3⟩ hk
    simp only at h1 h2 h3
    subst h1 h3
    have hlen := acc_len hw i
    cases hq : (acc17 t i)[i]? with
    | none =>
      have hall := (acc_all hw (Nat.le_of_lt hi)).2 hq
      refine ⟨fun h => absurd (dt h) (by rw [List.getElem?_eq_none_iff] at hq; simp; omega), fun _ => ?_⟩
      rw [List.getElem?_eq_none_iff] at hq
      rw [hall, List.take_of_length_le hq]
      simp [search_Space_int_Walk_g.j1]
    | some q =>
      have hil := (List.getElem?_eq_some_iff.1 hq).1
      have hg := acc_good hw i
      have hr := hg.rng q (List.mem_of_getElem? hq)
      have hat : at? ((acc17 t i).map qM) (i : Int) = some (qM q) := at_get (by rw [List.getElem?_map, hq]; rfl)
      have hInR : InR .i64 ((i : Int) + 1) := i64_of (by omega) (by omega)
      refine ⟨fun _ => ⟨fun h => absurd (dt h) (by omega), fun _ => ⟨_, hat, rfl, (by simp; omega), (fun h => by cases h), fun _ => ⟨_, space1_in hr.1 hr.2 (hw.len _ (node_at hr.1 hr.2).2), ?_⟩⟩⟩, fun h => absurd (by simp; omega) (df h)⟩
      refine round_g hw rfl hg hq h2 _ fun seen' hs' => ⟨hInR, hk (_, seen', _) ⟨by rw [acc_next hq], by rw [acc_next hq]; exact hs', ?_⟩⟩
      rw [all_get hw (Nat.le_of_lt hi) hq]; simp [qM]
  · rintro ⟨ls, sn, gh⟩ ⟨h1, h2, h3⟩ k
    simp only at h1 h2 h3
    subst h1 h3
    have := (acc_good hw t.1.length).len
    refine ⟨fun h => absurd (dt h) (by simp; omega), fun _ => ?_⟩
    have hlen := (acc_good hw t.1.length).len
    have : (all17 t).take t.1.length = all17 t := List.take_of_length_le hlen
    rw [this]; simp [search_Space_int_Walk_g.j1, all17]

def hit17 (t : STable) (x : Int) : Bool := (at? t.2 x).getD false
theorem hit_at {t : STable} (hw : Wf17 t) {x : Int} (h0 : 0 ≤ x) (h1 : x < (t.1.length : Int)) : at? t.2 x = some (hit17 t x) := by
  obtain ⟨l, h, _⟩ := at_in (xs := t.2) h0 (by rw [hw.tl]; exact h1)
  unfold hit17; rw [h]; rfl
theorem find_in {t : STable} (hw : Wf17 t) (b : Int) : search_Find t b (verd t (hit17 t) b t.1.length 0).1 :=
  ⟨_, rfl, _, srch_in hw (hit17 t) _ (fun x h0 h1 => ⟨_, hit_at hw h0 h1, rfl⟩) b, rfl⟩
theorem things_in {t : STable} (hw : Wf17 t) : search_Things t ((all17 t).map (·.1)) := fun c => by
  obtain ⟨v, h⟩ := srchg_in hw c
  exact ⟨_, rfl, _, h, rfl⟩


/-! ### the document's search -/
theorem pre_word {t : STable} (hw : Wf17 t) {i j : Nat} {q : Q17} (h : (acc17 t i)[j]? = some q) : q.2.2.2.length ≤ 60 := by
  have := word_len (acc_good hw i) j q h
  have := acc_len hw i
  have := (List.getElem?_eq_some_iff.1 h).1
  omega
theorem rthings_in {t : STable} (hw : Wf17 t) : ref17_Things t ((all17 t).map qR) := by
  refine uptoK (P := fun k (s : List SThing_ref17) v => ref17_Things.l1 t _ k s v) t.1.length (fun i s => s = (acc17 t i).map qR) ?_ ?_ _ rfl
  · rintro i s k hi rfl hk
    have hlen := acc_len hw i
    cases hq : (acc17 t i)[i]? with
    | none =>
      refine ⟨fun h => absurd (dt h) (by rw [List.getElem?_eq_none_iff] at hq; simp; omega), fun _ => ?_⟩
      rw [(acc_all hw (Nat.le_of_lt hi)).2 hq]; rfl
    | some q =>
      have hil := (List.getElem?_eq_some_iff.1 hq).1
      have hg := acc_good hw i
      have hr := hg.rng q (List.mem_of_getElem? hq)
      have hat : at? ((acc17 t i).map qR) (i : Int) = some (qR q) := at_get (by rw [List.getElem?_map, hq]; rfl)
      have hInR : InR .i64 ((i : Int) + 1) := i64_of (by omega) (by omega)
      refine ⟨fun _ => ⟨_, hat, _, (node_at hr.1 hr.2).1, ?_⟩, fun h => absurd (by simp; omega) (df h)⟩
      have hl : (outs t q.1).length ≤ 400 := hw.len _ (node_at hr.1 hr.2).2
      have hes := outs_ok hw hr.1 hr.2
      have hgj : ∀ j, Good t (((outs t q.1).take j).foldl (stQ i q.2.2.2) (acc17 t i)) := fun j => fold_good (fun e he => hes e (List.mem_of_mem_take he)) _ hg hq
      have hlj : ∀ j, (((outs t q.1).take j).foldl (stQ i q.2.2.2) (acc17 t i)).length ≤ 60 := fun j => Nat.le_trans (hgj j).len hw.few
      have hij : ∀ j, (((outs t q.1).take j).foldl (stQ i q.2.2.2) (acc17 t i))[i]? = some q := fun j => get_pre (fold_pre _ _ _ _) hq
      refine uptoK (P := fun k' (s : List SThing_ref17) v => ref17_Things.l2 (i : Int) (outs t q.1) _ k' s v) (outs t q.1).length (fun j s => s = (((outs t q.1).take j).foldl (stQ i q.2.2.2) (acc17 t i)).map qR) ?_ ?_ _ rfl
      · rintro j s k' hj rfl hk'
        refine ⟨fun _ => ?_, fun h => absurd (by omega) (df h)⟩
        have he : at? (outs t q.1) (j : Int) = some (outs t q.1)[j] := at_get (List.getElem?_eq_getElem hj)
        have hnext : ((outs t q.1).take (j + 1)).foldl (stQ i q.2.2.2) (acc17 t i) = stQ i q.2.2.2 (((outs t q.1).take j).foldl (stQ i q.2.2.2) (acc17 t i)) (outs t q.1)[j] := by
          rw [List.take_succ_eq_append_getElem hj, List.foldl_append]; rfl
        rw [hnext] at hk'
        have hlA := hlj j
        have hiA := hij j
        generalize ((outs t q.1).take j).foldl (stQ i q.2.2.2) (acc17 t i) = A at *
        have hwq := pre_word hw hq
        refine upto (P := fun k'' (s : Bool) v => ref17_Things.l3 (outs t q.1) (A.map qR) (j : Int) _ k'' s v) A.length (fun m s => s = inQ (A.take m) (outs t q.1)[j].2) ?_ ?_ _ (by simp [inQ])
        · rintro m s hm rfl
          have hatm : at? (A.map qR) (m : Int) = some (qR A[m]) := at_get (by rw [List.getElem?_map, List.getElem?_eq_getElem hm]; rfl)
          refine .inr ⟨_, rfl, fun k h => ⟨fun _ => ⟨_, fun _ => hatm, _, fun _ => he, i64_of (by omega) (by omega), ?_⟩, fun h => absurd (by simp; omega) (df h)⟩⟩
          have e : inQ (A.take (m + 1)) (outs t q.1)[j].2 = (inQ (A.take m) (outs t q.1)[j].2 || ((qR A[m]).1 == (outs t q.1)[j].2)) := by
            rw [List.take_succ_eq_append_getElem hm]; unfold inQ; rw [List.any_append]; simp only [List.any_cons, List.any_nil, Bool.or_false]; rfl
          rw [e] at h; exact h
        · rintro s rfl k
          rw [List.take_length]
          have hatq : at? (A.map qR) (i : Int) = some (qR q) := at_get (by rw [List.getElem?_map, hiA]; rfl)
          refine ⟨fun h => absurd (dt h) (by simp), fun _ => ⟨fun hc => ?_, fun hc => ⟨i64_of (by omega) (by omega), hk' _ ?_⟩⟩⟩
          · have hc' : inQ A (outs t q.1)[j].2 = false := by simpa using hc
            refine ⟨_, he, _, hatq, by simp only [qR]; omega, _, he, by simp only [qR, List.length_cons, List.length_nil]; omega, by simp; omega, i64_of (by omega) (by omega), hk' _ ?_⟩
            simp only [stQ, hc', Bool.false_eq_true, if_false, List.map_append]; rfl
          · have hc' : inQ A (outs t q.1)[j].2 = true := by simpa using hc
            simp only [stQ, hc', if_true]
      · rintro s rfl k'
        rw [List.take_length]
        exact ⟨fun h => absurd (dt h) (by omega), fun _ => ⟨hInR, hk _ (by rw [acc_next hq]; rfl)⟩⟩
  · rintro s rfl k
    have := (acc_good hw t.1.length).len
    exact ⟨fun h => absurd (dt h) (by simp; omega), fun _ => rfl⟩

theorem rfind_in {t : STable} (hw : Wf17 t) (b : Int) : ref17_Find t b (verd t (hit17 t) b t.1.length 0).1 := by
  have hall : (all17 t).length ≤ t.1.length := (acc_good hw t.1.length).len
  refine ⟨_, rthings_in hw, ?_⟩
  refine upto (P := fun k (s : SVerdict) v => ref17_Find.l1 t b _ _ _ k s v) t.1.length
    (fun i s => (i : Int) ≤ max 0 b ∧ verd t (hit17 t) b t.1.length 0 = verd t (hit17 t) b (t.1.length - i) i) ?_ ?_ _ ⟨by simp; omega, rfl⟩
  · rintro i s hi ⟨h1, h3⟩
    rw [show t.1.length - i = (t.1.length - (i + 1)) + 1 by omega] at h3
    have hal := acc_all hw (Nat.le_of_lt hi)
    have hall' : (all17 t).length ≤ 60 := Nat.le_trans hall hw.few
    cases hq : (acc17 t i)[i]? with
    | none =>
      have he := hal.2 hq
      rw [List.getElem?_eq_none_iff, ← he] at hq
      refine .inl fun k => ⟨false, by simp; omega, (fun h => by cases h), fun _ => ?_⟩
      rw [h3]
      have hq' : (acc17 t i)[i]? = none := by rw [List.getElem?_eq_none_iff, ← he]; exact hq
      refine ⟨fun _ => by simp [verd, hq', he], fun h => absurd (by simp; omega) (df h)⟩
    | some q =>
      have hq2 := hq
      rw [hal.1] at hq2
      have hil := (List.getElem?_eq_some_iff.1 hq2).1
      have hr := (acc_good hw i).rng q (List.mem_of_getElem? hq)
      have hat : at? ((all17 t).map qR) (i : Int) = some (qR q) := at_get (by rw [List.getElem?_map, hq2]; rfl)
      have hInR : InR .i64 ((i : Int) + 1) := i64_of (by omega) (by omega)
      by_cases hb : b ≤ (i : Int)
      · refine .inl fun k => ⟨false, by simp; omega, (fun h => by cases h), fun _ => ⟨fun h => absurd (dt h) (by simp; omega), fun _ => ?_⟩⟩
        rw [h3]; simp [verd, hq, hb]; omega
      · cases hh : hit17 t q.1
        · refine .inr ⟨s, ⟨by omega, by rw [h3]; simp [verd, hq, hb, hh]⟩, fun k h => ⟨true, by simp; omega, fun _ => ⟨_, hat, _, hit_at hw hr.1 hr.2, fun h' => ?_, fun _ => ⟨hInR, h⟩⟩, (fun h => by cases h)⟩⟩
          simp only [qR, hh] at h'; cases h'
        · refine .inl fun k => ⟨true, by simp; omega, fun _ => ⟨_, hat, _, hit_at hw hr.1 hr.2, fun _ => ⟨_, hat, hInR, ?_⟩, fun h' => ?_⟩, (fun h => by cases h)⟩
          · rw [h3]; simp [verd, hq, hb, hh, qR]
          · simp only [qR, hh] at h'; cases h'
  · rintro s ⟨h1, h3⟩ k
    refine ⟨false, by simp; omega, (fun h => by cases h), fun _ => ?_⟩
    rw [h3]
    refine ⟨fun _ => by simp [verd, all17], fun h => absurd (by simp; omega) (df h)⟩

theorem bytes_in {l : List Int} (hl : l.length ≤ 1000) : ref02_Bytes l l true := by
  refine ⟨fun h => by simp at h, fun _ => ?_⟩
  refine upto (P := fun k (_ : Unit) v => ref02_Bytes.l1 l l true _ k v) l.length (fun _ _ => True) ?_ ?_ () trivial
  · intro i _ hi _
    have he := at_get (List.getElem?_eq_getElem hi)
    exact .inr ⟨(), trivial, fun k h => ⟨fun _ => ⟨_, he, _, he, fun hc => by simp at hc, fun _ => ⟨i64_of (by omega) (by omega), h⟩⟩, fun h => absurd (by omega) (df h)⟩⟩
  · intro _ _ k
    exact ⟨fun h => absurd (dt h) (by omega), fun _ => rfl⟩
theorem same_in {v : SVerdict} (h1 : v.2.1.length ≤ 1000) (h2 : v.2.2.1.length ≤ 1000) : ref17_Same v v true :=
  ⟨true, fun _ => bytes_in h1, true, fun _ => bytes_in h2, _, rfl, _, rfl, by simp⟩
theorem verd_len {t : STable} (hw : Wf17 t) (hit : Int → Bool) (b : Int) : ∀ f i, (verd t hit b f i).1.2.1.length ≤ 60 ∧ (verd t hit b f i).1.2.2.1 = []
  | 0, i => by simp [verd]
  | f + 1, i => by
    unfold verd
    cases hq : (acc17 t i)[i]? with
    | none => simp
    | some q =>
      simp only
      split
      · simp
      · split
        · exact ⟨pre_word hw hq, rfl⟩
        · exact verd_len hw hit b f (i + 1)

/-! ### forms, few -/
def form17 (t : STable) : Bool := (decide (0 < t.1.length) && decide (t.2.length = t.1.length)) && t.1.all fun l => l.all fun w => decide (0 ≤ w.2) && decide (w.2 < (t.1.length : Int))

theorem idx1_in {s : List SWay} {f : SWay × Bool → Prop} {g : SWay → Bool} (hf : ∀ x ∈ s, f (x, g x)) (hl : s.length ≤ 140737488351232) : slices_ContainsFunc_Lapi_Way_api_Way s f (s.any g) := by
  have key : ∃ i : Int, slices_IndexFunc_Lapi_Way_api_Way s f i ∧ (decide (0 ≤ i)) = s.any g := by
    cases hc : s.any g
    · refine ⟨-1, ?_, by decide⟩
      rw [List.any_eq_false] at hc
      refine upto (P := fun k (_ : Unit) v => slices_IndexFunc_Lapi_Way_api_Way.l1 s f (-1) _ k v) s.length (fun _ _ => True) ?_ ?_ () trivial
      · intro j _ hj _
        exact .inr ⟨(), trivial, fun k hk => ⟨fun _ => ⟨_, at_get (List.getElem?_eq_getElem hj), _, hf _ (List.getElem_mem hj), fun h => absurd h (hc _ (List.getElem_mem hj)), fun _ => ⟨i64_of (by omega) (by omega), hk⟩⟩, fun h => absurd (by omega) (df h)⟩⟩
      · intro _ _ k
        exact ⟨fun h => absurd (dt h) (by omega), fun _ => rfl⟩
    · rw [List.any_eq_true] at hc
      obtain ⟨x, hx, hgx⟩ := hc
      have hex : ∃ i, ∃ (h : i < s.length), g s[i] = true := by
        obtain ⟨i, hi, rfl⟩ := List.mem_iff_getElem.1 hx
        exact ⟨i, hi, hgx⟩
      obtain ⟨i, ⟨hi, hi2⟩, hmin⟩ := exists_least hex
      refine ⟨(i : Int), ?_, by simp⟩
      refine upto (P := fun k (_ : Unit) v => slices_IndexFunc_Lapi_Way_api_Way.l1 s f (i : Int) _ k v) (i + 1) (fun j _ => j ≤ i) ?_ ?_ () (by omega)
      · intro j _ hj hle
        have hat := at_get (List.getElem?_eq_getElem (show j < s.length by omega))
        have hfj := hf _ (List.getElem_mem (show j < s.length by omega))
        by_cases hji : j = i
        · subst hji
          rw [hi2] at hfj
          exact .inl fun k => ⟨fun _ => ⟨_, hat, true, hfj, fun _ => rfl, (fun h => by cases h)⟩, fun h => absurd (by omega) (df h)⟩
        · have hno : g (s[j]'(by omega)) = false := by
            cases hg : g (s[j]'(by omega))
            · rfl
            · have := hmin j ⟨by omega, hg⟩; omega
          rw [hno] at hfj
          exact .inr ⟨(), by omega, fun k hk => ⟨fun _ => ⟨_, hat, false, hfj, (fun h => by cases h), fun _ => ⟨i64_of (by omega) (by omega), hk⟩⟩, fun h => absurd (by omega) (df h)⟩⟩
      · intro _ h k; omega
  obtain ⟨i, h1, h2⟩ := key
  exact ⟨i, h1, h2.symm⟩
theorem idx2_in {s : List (List SWay)} {f : List SWay × Bool → Prop} {g : List SWay → Bool} (hf : ∀ x ∈ s, f (x, g x)) (hl : s.length ≤ 140737488351232) : slices_ContainsFunc_api_Way_api_Way s f (s.any g) := by
  have key : ∃ i : Int, slices_IndexFunc_api_Way_api_Way s f i ∧ (decide (0 ≤ i)) = s.any g := by
    cases hc : s.any g
    · refine ⟨-1, ?_, by decide⟩
      rw [List.any_eq_false] at hc
      refine upto (P := fun k (_ : Unit) v => slices_IndexFunc_api_Way_api_Way.l1 s f (-1) _ k v) s.length (fun _ _ => True) ?_ ?_ () trivial
      · intro j _ hj _
        exact .inr ⟨(), trivial, fun k hk => ⟨fun _ => ⟨_, at_get (List.getElem?_eq_getElem hj), _, hf _ (List.getElem_mem hj), fun h => absurd h (hc _ (List.getElem_mem hj)), fun _ => ⟨i64_of (by omega) (by omega), hk⟩⟩, fun h => absurd (by omega) (df h)⟩⟩
      · intro _ _ k
        exact ⟨fun h => absurd (dt h) (by omega), fun _ => rfl⟩
    · rw [List.any_eq_true] at hc
      obtain ⟨x, hx, hgx⟩ := hc
      have hex : ∃ i, ∃ (h : i < s.length), g s[i] = true := by
        obtain ⟨i, hi, rfl⟩ := List.mem_iff_getElem.1 hx
        exact ⟨i, hi, hgx⟩
      obtain ⟨i, ⟨hi, hi2⟩, hmin⟩ := exists_least hex
      refine ⟨(i : Int), ?_, by simp⟩
      refine upto (P := fun k (_ : Unit) v => slices_IndexFunc_api_Way_api_Way.l1 s f (i : Int) _ k v) (i + 1) (fun j _ => j ≤ i) ?_ ?_ () (by omega)
      · intro j _ hj hle
        have hat := at_get (List.getElem?_eq_getElem (show j < s.length by omega))
        have hfj := hf _ (List.getElem_mem (show j < s.length by omega))
        by_cases hji : j = i
        · subst hji
          rw [hi2] at hfj
          exact .inl fun k => ⟨fun _ => ⟨_, hat, true, hfj, fun _ => rfl, (fun h => by cases h)⟩, fun h => absurd (by omega) (df h)⟩
        · have hno : g (s[j]'(by omega)) = false := by
            cases hg : g (s[j]'(by omega))
            · rfl
            · have := hmin j ⟨by omega, hg⟩; omega
          rw [hno] at hfj
          exact .inr ⟨(), by omega, fun k hk => ⟨fun _ => ⟨_, hat, false, hfj, (fun h => by cases h), fun _ => ⟨i64_of (by omega) (by omega), hk⟩⟩, fun h => absurd (by omega) (df h)⟩⟩
      · intro _ h k; omega
  obtain ⟨i, h1, h2⟩ := key
  exact ⟨i, h1, h2.symm⟩

/-- Lengths as they are in memory. -/
structure Sz17 (t : STable) : Prop where
  w : t.1.length ≤ 140737488351232
  tl : t.2.length ≤ 140737488351232
  l : ∀ l ∈ t.1, l.length ≤ 140737488351232
def offW (n : Int) (w : SWay) : Bool := decide (w.2 < 0) || decide (n ≤ w.2)
theorem form_in {t : STable} (hz : Sz17 t) : search_Form t (form17 t) := by
  refine ⟨_, rfl, t.1.any fun l => l.any (offW t.1.length), fun _ => idx2_in (g := fun l => l.any (offW t.1.length)) (fun l hl => ⟨_, idx1_in (g := offW t.1.length) (fun w _ => rfl) (hz.l l hl), rfl⟩) hz.w, ?_⟩
  unfold form17
  have e1 : (t.1.all fun l => l.all fun w => decide (0 ≤ w.2) && decide (w.2 < (t.1.length : Int))) = !(t.1.any fun l => l.any (offW t.1.length)) := by
    rw [List.not_any_eq_all_not]
    congr 1; funext l
    rw [List.not_any_eq_all_not]
    congr 1; funext w
    simp only [offW, Bool.not_or]
    congr 1 <;> (rw [← decide_not]; apply decide_eq_decide.2; omega)
  rw [e1]
  congr 1
  congr 1
  · apply decide_eq_decide.2; omega
  · rw [Bool.eq_iff_iff]; simp; omega

theorem rform_in {t : STable} (hz : Sz17 t) : ref17_Form t (form17 t) := by
  refine ⟨_, rfl, fun h => ?_, fun h => ?_⟩
  · simp only [Bool.or_eq_true, beq_iff_eq, bne_iff_ne] at h
    unfold form17
    rcases h with h | h
    · rw [decide_eq_false (by omega)]; rfl
    · rw [decide_eq_false (p := t.2.length = t.1.length) (by omega)]; simp
  · simp only [Bool.or_eq_false_iff, beq_eq_false_iff_ne, bne_eq_false_iff_eq] at h
    have hbase : form17 t = t.1.all fun l => l.all fun w => decide (0 ≤ w.2) && decide (w.2 < (t.1.length : Int)) := by
      unfold form17
      rw [decide_eq_true (by omega : 0 < t.1.length), decide_eq_true (by omega : t.2.length = t.1.length)]; rfl
    refine uptoK (P := fun k (_ : Unit) v => ref17_Form.l1 t (form17 t) _ k v) t.1.length (fun i _ => ∀ l ∈ t.1.take i, ∀ w ∈ l, 0 ≤ w.2 ∧ w.2 < (t.1.length : Int)) ?_ ?_ () (by simp)
    · rintro i ⟨⟩ k hi hI hk
      have hat := at_get (List.getElem?_eq_getElem hi)
      have hzl := hz.l _ (List.getElem_mem hi)
      refine ⟨fun _ => ?_, fun h => absurd (by omega) (df h)⟩
      refine upto (P := fun k (_ : Unit) v => ref17_Form.l2 t (i : Int) (form17 t) _ k v) t.1[i].length (fun j _ => ∀ w ∈ t.1[i].take j, 0 ≤ w.2 ∧ w.2 < (t.1.length : Int)) ?_ ?_ () (by simp)
      · rintro j ⟨⟩ hj hJ
        have hat2 := at_get (List.getElem?_eq_getElem hj)
        by_cases hok : 0 ≤ t.1[i][j].2 ∧ t.1[i][j].2 < (t.1.length : Int)
        · refine .inr ⟨(), fun w hw => ?_, fun k hk => ⟨_, hat, fun _ => ⟨_, hat, _, hat2, _, fun _ => hat, _, fun _ => hat2, _, rfl, fun h => ?_, fun _ => ⟨i64_of (by omega) (by omega), hk⟩⟩, fun h => absurd (by omega) (df h)⟩⟩
          · rw [List.take_succ_eq_append_getElem hj] at hw
            rcases List.mem_append.1 hw with hw | hw
            · exact hJ w hw
            · rw [List.mem_singleton.1 hw]; exact hok
          · simp at h; omega
        · refine .inl fun k => ⟨_, hat, fun _ => ⟨_, hat, _, hat2, _, fun _ => hat, _, fun _ => hat2, _, rfl, fun h => ?_, fun h => ?_⟩, fun h => absurd (by omega) (df h)⟩
          · rw [hbase, List.all_eq_false]
            refine ⟨_, List.getElem_mem hi, ?_⟩
            rw [Bool.not_eq_true, List.all_eq_false]
            refine ⟨_, List.getElem_mem hj, ?_⟩
            simpa using hok
          · simp at h; omega
      · rintro ⟨⟩ hJ k'
        rw [List.take_length] at hJ
        refine ⟨_, hat, fun h => absurd (dt h) (by omega), fun _ => ⟨i64_of (by have := hz.w; omega) (by have := hz.w; omega), hk () fun l hl => ?_⟩⟩
        rw [List.take_succ_eq_append_getElem hi] at hl
        rcases List.mem_append.1 hl with hl | hl
        · exact hI l hl
        · rw [List.mem_singleton.1 hl]; exact hJ
    · rintro ⟨⟩ hI k
      rw [List.take_length] at hI
      refine ⟨fun h => absurd (dt h) (by omega), fun _ => ?_⟩
      rw [ref17_Form.j1, hbase, List.all_eq_true]
      intro l hl
      rw [List.all_eq_true]
      intro w hw
      have := hI l hl w hw
      simp [this.1, this.2]

theorem few17_ex {t : STable} (hz : Sz17 t) : ∃ r, ref17_Few t r ∧ (r = true → t.1.length ≤ 60 ∧ t.2.length ≤ 60 ∧ ∀ l ∈ t.1, l.length ≤ 400) := by
  let sm : Nat → Nat := fun i => ((t.1.take i).map List.length).sum
  have hs1 : ∀ i (h : i < t.1.length), sm (i + 1) = sm i + t.1[i].length := fun i h => by
    show ((t.1.take (i + 1)).map List.length).sum = _
    rw [List.take_succ_eq_append_getElem h, List.map_append, List.sum_append]; simp [sm]
  have hsb : ∀ i, i ≤ t.1.length → sm i ≤ i * 140737488351232 := fun i => by
    induction i with
    | zero => intro _; simp [sm]
    | succ i ih =>
      intro h
      have := ih (by omega)
      have := hz.l _ (List.getElem_mem (show i < t.1.length by omega))
      rw [hs1 i (by omega)]; omega
  refine ⟨((decide ((t.1.length : Int) ≤ 60) && decide ((t.2.length : Int) ≤ 60)) && decide (((sm (min t.1.length 100) : Nat) : Int) ≤ 400)), ?_, fun h => ?_⟩
  · refine upto (P := fun k (s : Int) v => ref17_Few.l1 t _ k s v) (min t.1.length 100) (fun i s => s = ((sm i : Nat) : Int)) ?_ ?_ _ (by simp [sm])
    · rintro i s hi rfl
      have hd : i < t.1.length := by omega
      have h1 := hsb i (by omega)
      have h2 := hz.l _ (List.getElem_mem hd)
      refine .inr ⟨_, rfl, fun k h => ⟨true, by simp; omega, fun _ => ⟨_, at_get (List.getElem?_eq_getElem hd), i64_of (by omega) (by omega), i64_of (by omega) (by omega), ?_⟩, (fun h => by cases h)⟩⟩
      rw [hs1 i hd] at h
      simpa using h
    · rintro s rfl k
      exact ⟨false, by simp; omega, (fun h => by cases h), fun _ => ⟨_, rfl, rfl⟩⟩
  · simp only [Bool.and_eq_true, decide_eq_true_eq] at h
    obtain ⟨⟨h1, h2⟩, h3⟩ := h
    refine ⟨by omega, by omega, fun l hl => ?_⟩
    obtain ⟨i, hi, rfl⟩ := List.mem_iff_getElem.1 hl
    have hmono : ∀ a b, a ≤ b → b ≤ t.1.length → sm a ≤ sm b := fun a b hab => by
      induction b with
      | zero => intro _; rw [show a = 0 by omega]; exact Nat.le_refl _
      | succ b ih =>
        intro hb
        by_cases e : a = b + 1
        · rw [e]; exact Nat.le_refl _
        · rw [hs1 b (by omega)]; have := ih (by omega) (by omega); omega
    have := hmono (i + 1) (min t.1.length 100) (by omega) (by omega)
    have := hs1 i hi
    omega
theorem wf_of {t : STable} (h1 : t.1.length ≤ 60 ∧ t.2.length ≤ 60 ∧ ∀ l ∈ t.1, l.length ≤ 400) (h2 : form17 t = true) : Wf17 t := by
  unfold form17 at h2
  simp only [Bool.and_eq_true, decide_eq_true_eq, List.all_eq_true] at h2
  exact ⟨h2.1.1, h1.1, h2.1.2, fun l hl w hw => h2.2 l hl w hw, h1.2.2⟩
end Go.Proofs.YtdfnbogkniikbaaDoor.V
