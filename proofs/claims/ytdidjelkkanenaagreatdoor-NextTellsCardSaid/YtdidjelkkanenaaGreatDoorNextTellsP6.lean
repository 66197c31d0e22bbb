/-
  The texts that the law's proof needs, part 6.
-/
import Derived.Carry
import Derived.ChangeSame
import Derived.Deep.Slices
import Derived.Handed
import Derived.KernelRfl
import Derived.LaidHandle
import Derived.LaidLaws
import Derived.LaidMore
import Derived.Laws.BytesArg
import Derived.Lib.LaidTab
import Derived.OpenShut
import Derived.ProofKit
import Derived.RowKit
import Derived.SizedLaws
import Derived.Stop.LaidErr
import Derived.Test.YtdidjelkkanenaaGreatDoorRows
import Derived.WalkKit
import Derived.WideKeyElems2
import Derived.Test.YtdidjelkkanenaaGreatDoorNextTellsP5
namespace Go.Proofs.YtdidjelkkanenaaGreatDoor.V
open Go
set_option linter.unusedVariables false
theorem class_Has_in {a : Cl} {n : Nat} (hn : n < 256) : class_Has a (n : Int) (a.has n) := by
  refine ⟨⟨by omega, by omega⟩, _, rfl, ?_⟩
  rw [show ((n : Int) / 64) = ((n / 64 : Nat) : Int) by omega, show ((n : Int) % 64) = ((n % 64 : Nat) : Int) by omega]
  show _ = (andI (shrI (((a.word ((n / 64 : Nat) : Int).toNat) : Nat) : Int) _) 1 == 1)
  rw [Int.toNat_natCast, shr_bit (Nat.mod_lt _ (by omega)), has_w hn]
theorem class_Has_u8 {a : Cl} {c : Int} (hc : InR .u8 c) : class_Has a c (a.has c.toNat) := by
  obtain ⟨n, hn, rfl⟩ := u8_of hc
  simpa using class_Has_in (a := a) hn
theorem class_Has_mod {a : Cl} {i : Nat} (hi : i < 256) : class_Has a ((i : Int) % 256) (a.has i) := by
  rw [show ((i : Int) % 256) = (i : Int) by omega]; exact class_Has_in hi
theorem class_Add_in {a : Cl} {l : List Int} (hl : ∀ x ∈ l, InR .u8 x) (hn : l.length < 9223372036854775807) : class_Add a l (a.addL l) := by
  refine upto (P := fun k (s : Cl) v => class_Add.l1 l _ k s v) l.length (fun i s => s = a.addL (l.take i)) ?_ ?_ a (by simp [Cl.addL])
  · rintro i s hi rfl
    refine .inr ⟨a.addL (l.take (i + 1)), rfl, fun k h => ?_⟩
    refine ⟨fun _ => ?_, fun h => absurd (by omega) (df h)⟩
    obtain ⟨n, hn, he⟩ := u8_of (hl l[i] (List.getElem_mem hi))
    refine ⟨l[i], by rw [at_nat]; simp [hi], ?_, ?_, i64_of (by omega) (by omega), ?_⟩
    · rw [he]; omega
    · rw [he]; omega
    · rw [he, show ((n : Int) / 64) = ((n / 64 : Nat) : Int) by omega, show ((n : Int) % 64) = ((n % 64 : Nat) : Int) by omega, put_words hn]
      have : (a.addL (l.take i)).put n = a.addL (l.take (i + 1)) := by
        rw [List.take_succ_eq_append_getElem hi]
        simp [Cl.addL, he]
      rw [this]; exact h
  · rintro s rfl k
    exact ⟨fun h => absurd (dt h) (by omega), fun _ => by simp [class_Add.j1]⟩
theorem class_Of_in {f t : Int} : class_Of f t (Cl.row f t) := by
  refine upto (P := fun k (s : Cl) v => class_Of.l1 f t _ k s v) 256 (fun i s => ∀ n, n < 256 → s.has n = (decide (n < i) && (Cl.row f t).has n)) ?_ ?_ _ (by intro n _; simp [has_zero])
  · intro i s hi hs
    refine .inr ⟨if (decide (f ≤ (i : Int)) && decide ((i : Int) ≤ t)) = true then s.put i else s, ?_, fun k h => ?_⟩
    · intro n hn
      split
      · rename_i hc
        rw [has_put hi, hs n hn, has_row hn]
        by_cases e : i = n
        · subst e; simp [hc]
        · simp only [e, decide_false, Bool.or_false]
          congr 1
          apply decide_eq_decide.2; omega
      · rename_i hc
        rw [hs n hn, has_row hn]
        by_cases e : i = n
        · subst e; simp [hc]
        · congr 1
          apply decide_eq_decide.2; omega
    · refine ⟨fun _ => ?_, fun h => absurd (by omega) (df h)⟩
      rw [show ((i : Int) % 256) = i by omega]
      refine ⟨_, rfl, fun hc => ?_, fun hc => ?_⟩
      · rw [if_pos hc] at h
        refine ⟨s.put i, ?_, i64_of (by omega) (by omega), h⟩
        have := class_Add_in (a := s) (l := [(i : Int)]) (by simpa using u8_nat hi) (by simp)
        simpa [Cl.addL] using this
      · rw [if_neg (by simp [hc])] at h
        exact ⟨i64_of (by omega) (by omega), h⟩
  · intro s hs k
    refine ⟨fun h => absurd (dt h) (by omega), fun _ => ?_⟩
    show Cl.row f t = s
    apply Cl.ext
    intro c hc
    rw [hs c hc]; simp [hc]
theorem word_of_bits {r : Cl} {i v : Nat} (hi : i < 4) (hv : v < 2 ^ 64) (h : ∀ j, j < 64 → r.has (64 * i + j) = v.testBit j) : r.word i = v := by
  apply Nat.eq_of_testBit_eq
  intro j
  rw [Cl.word_bit]
  by_cases hj : j < 64
  · simp [hj, h j hj]
  · have : v < 2 ^ j := Nat.lt_of_lt_of_le hv (Nat.pow_le_pow_right (by omega) (by omega))
    simp [hj, Nat.testBit_lt_two_pow this]
theorem ref01_Has_in {a : Cl} {n : Nat} (hn : n < 256) : ref01_Has a (n : Int) (a.has n) := by
  refine ⟨by omega, ⟨by omega, by omega⟩, ?_⟩
  have hw : Cl.w a ((n : Int) / 64) = ((a.word (n / 64) : Nat) : Int) := by
    rw [show ((n : Int) / 64) = ((n / 64 : Nat) : Int) by omega]; rfl
  rw [hw]
  refine upto (P := fun k (s : Int) v => ref01_Has.l1 (n : Int) _ k s v) (n % 64) (fun i s => s = ((a.word (n / 64) / 2 ^ i : Nat) : Int)) ?_ ?_ _ (by simp)
  · rintro i s hi rfl
    refine .inr ⟨_, rfl, fun k h => ⟨by omega, fun _ => ⟨i64_of (by omega) (by omega), ?_⟩, fun h => absurd (by omega) (df h)⟩⟩
    rw [Nat.pow_succ, ← Nat.div_div_eq_div_mul, Int.natCast_ediv] at h
    exact h
  · rintro s rfl k
    refine ⟨by omega, fun h => absurd (dt h) (by omega), fun _ => ?_⟩
    show a.has n = _
    rw [has_w hn, Nat.testBit_eq_decide_div_mod_eq]
    rcases Nat.mod_two_eq_zero_or_one (a.word (n / 64) / 2 ^ (n % 64)) with h | h
    · rw [h, show (((a.word (n / 64) / 2 ^ (n % 64) : Nat) : Int) % 2) = 0 by omega]; rfl
    · rw [h, show (((a.word (n / 64) / 2 ^ (n % 64) : Nat) : Int) % 2) = 1 by omega]; rfl
theorem ref01_Has_u8 {a : Cl} {c : Int} (hc : InR .u8 c) : ref01_Has a c (a.has c.toNat) := by
  obtain ⟨n, hn, rfl⟩ := u8_of hc
  simpa using ref01_Has_in (a := a) hn
end Go.Proofs.YtdidjelkkanenaaGreatDoor.V
namespace Go.Proofs.YtdidjelkkanenaaGreatDoor.V
open Go
set_option linter.unusedVariables false
theorem ref01_Of_l2 {l : List Bool} (hl : l.length = 256) {w : Nat} (hw : w < 4) {X : Cl → Prop} {s : Cl} (h0 : s.word w = 0) (hX : ∀ t : Cl, (∀ j, j < 4 → t.word j = if j = w then bitsOf (fun j => l.getD (64 * w + j) false) 64 else s.word j) → X t) :
    ∃ k, ref01_Of.l2 l (w : Int) X k s 1 0 := by
  refine upto (P := fun k (s : Cl × Int) v => ref01_Of.l2 l (w : Int) X k s.1 s.2 v) 64
    (fun i t => (∀ j, j < 4 → t.1.word j = if j = w then bitsOf (fun j => l.getD (64 * w + j) false) i else s.word j) ∧ t.2 = ((2 ^ i % 2 ^ 64 : Nat) : Int)) ?_ ?_ (s, 1) ?_
  · rintro i ⟨t, b⟩ hi ⟨h1, h2⟩
    simp only at h1 h2
    subst h2
    have hb := bitsOf_lt (fun j => l.getD (64 * w + j) false) (i + 1)
    have hp : 2 ^ (i + 1) ≤ 2 ^ 64 := Nat.pow_le_pow_right (by omega) (by omega)
    have hp2 : 2 ^ i < 2 ^ 64 := Nat.pow_lt_pow_right (by omega) hi
    have hbit : IntKind.wrap .u64 (((2 ^ i % 2 ^ 64 : Nat) : Int) * 2) = ((2 ^ (i + 1) % 2 ^ 64 : Nat) : Int) := by
      rw [wrap_u64, Nat.mod_eq_of_lt hp2, Nat.pow_succ]; omega
    have hat : at? l (64 * (w : Int) + (i : Int)) = some (l.getD (64 * w + i) false) := by
      rw [show (64 * (w : Int) + (i : Int)) = ((64 * w + i : Nat) : Int) by omega, at_nat, List.getElem?_eq_getElem (by omega)]
      simp [List.getD, List.getElem?_eq_getElem (show 64 * w + i < l.length by omega)]
    cases he : l.getD (64 * w + i) false
    · refine .inr ⟨(t, ((2 ^ (i + 1) % 2 ^ 64 : Nat) : Int)), ⟨fun j hj => ?_, rfl⟩, fun k h => ⟨fun _ => ⟨i64_of (by omega) (by omega), i64_of (by omega) (by omega), _, hat, fun hc => (by rw [he] at hc; cases hc), fun _ => ⟨i64_of (by omega) (by omega), ?_⟩⟩, fun h => absurd (by omega) (df h)⟩⟩
      · simp only
        rw [h1 j hj]
        split
        · simp only [bitsOf, he, cond_false]
        · rfl
      · rw [hbit]; exact h
    · refine .inr ⟨(t.setw (w : Int) ((bitsOf (fun j => l.getD (64 * w + j) false) (i + 1) : Nat) : Int), ((2 ^ (i + 1) % 2 ^ 64 : Nat) : Int)), ⟨fun j hj => ?_, rfl⟩, fun k h => ⟨fun _ => ⟨i64_of (by omega) (by omega), i64_of (by omega) (by omega), _, hat, fun _ => ⟨⟨by omega, by omega⟩, ⟨by omega, by omega⟩, i64_of (by omega) (by omega), ?_⟩, fun hc => (by rw [he] at hc; cases hc)⟩, fun h => absurd (by omega) (df h)⟩⟩
      · simp only
        rw [setw_word (by rw [Int.toNat_natCast]; omega) j hj, Int.toNat_natCast]
        split
        · rfl
        · rename_i e; rw [h1 j hj, if_neg e]
      · have hww : (Cl.w t (w : Int)) = ((bitsOf (fun j => l.getD (64 * w + j) false) i : Nat) : Int) := by
          show ((t.word ((w : Int).toNat) : Nat) : Int) = _
          rw [Int.toNat_natCast, h1 w hw, if_pos rfl]
        have hsum : IntKind.wrap .u64 (Cl.w t (w : Int) + ((2 ^ i % 2 ^ 64 : Nat) : Int)) = ((bitsOf (fun j => l.getD (64 * w + j) false) (i + 1) : Nat) : Int) := by
          have e2 : bitsOf (fun j => l.getD (64 * w + j) false) (i + 1) = 2 ^ i + bitsOf (fun j => l.getD (64 * w + j) false) i := by simp only [bitsOf, he, cond_true]
          rw [hww, wrap_u64, Nat.mod_eq_of_lt hp2]
          omega
        rw [hbit, hsum]; exact h
  · rintro ⟨t, b⟩ ⟨h1, _⟩ k
    exact ⟨fun h => absurd (dt h) (by omega), fun _ => hX t h1⟩
  · refine ⟨fun j hj => ?_, by rfl⟩
    split
    · rename_i e; subst e; simpa [bitsOf] using h0
    · rfl
theorem ofL_word {l : List Bool} {w : Nat} (hw : w < 4) : (Cl.ofL l).word w = bitsOf (fun j => l.getD (64 * w + j) false) 64 := by
  refine word_of_bits hw (bitsOf_lt _ 64) fun j hj => ?_
  rw [has_ofL (by omega), bitsOf_bit]
  simp [hj]
theorem ref01_Of_in {l : List Bool} (hl : l.length = 256) : ref01_Of l (Cl.ofL l) := by
  refine upto (P := fun k (s : Cl) v => ref01_Of.l1 l _ k s v) 4 (fun i s => ∀ j, j < 4 → s.word j = if j < i then (Cl.ofL l).word j else 0) ?_ ?_ _ ?_
  · intro i s hi h
    refine .inr ⟨Cl.ofWords (if 0 < i + 1 then (Cl.ofL l).word 0 else 0) (if 1 < i + 1 then (Cl.ofL l).word 1 else 0) (if 2 < i + 1 then (Cl.ofL l).word 2 else 0) (if 3 < i + 1 then (Cl.ofL l).word 3 else 0), ?_, fun k hk => ⟨fun _ => ?_, fun h => absurd (by omega) (df h)⟩⟩
    · have hb : ∀ (c : Prop) [Decidable c] (k : Nat), (if c then (Cl.ofL l).word k else 0) < 2 ^ 64 := fun c _ k => by
        split
        · exact Cl.word_lt _ _
        · omega
      obtain ⟨e0, e1, e2, e3⟩ := Cl.ofWords_word (hb (0 < i + 1) 0) (hb (1 < i + 1) 1) (hb (2 < i + 1) 2) (hb (3 < i + 1) 3)
      intro j hj
      match j, hj with
      | 0, _ => exact e0
      | 1, _ => exact e1
      | 2, _ => exact e2
      | 3, _ => exact e3
    · refine ref01_Of_l2 hl hi (by rw [h i hi, if_neg (by omega)]) fun t ht => ?_
      refine ⟨i64_of (by omega) (by omega), ?_⟩
      have hb : ∀ (c : Prop) [Decidable c] (k : Nat), (if c then (Cl.ofL l).word k else 0) < 2 ^ 64 := fun c _ k => by
        split
        · exact Cl.word_lt _ _
        · omega
      obtain ⟨e0, e1, e2, e3⟩ := Cl.ofWords_word (hb (0 < i + 1) 0) (hb (1 < i + 1) 1) (hb (2 < i + 1) 2) (hb (3 < i + 1) 3)
      have key : ∀ j, j < 4 → t.word j = if j < i + 1 then (Cl.ofL l).word j else 0 := fun j hj => by
        rw [ht j hj]
        by_cases e : j = i
        · subst e; rw [if_pos rfl, if_pos (by omega), ofL_word hj]
        · rw [if_neg e, h j hj]
          by_cases e2 : j < i
          · rw [if_pos e2, if_pos (by omega)]
          · rw [if_neg e2, if_neg (by omega)]
      have : t = _ := Cl.ext_words (x := t) (y := Cl.ofWords (if 0 < i + 1 then (Cl.ofL l).word 0 else 0) (if 1 < i + 1 then (Cl.ofL l).word 1 else 0) (if 2 < i + 1 then (Cl.ofL l).word 2 else 0) (if 3 < i + 1 then (Cl.ofL l).word 3 else 0)) fun j hj => by
        rw [key j hj]
        match j, hj with
        | 0, _ => exact e0.symm
        | 1, _ => exact e1.symm
        | 2, _ => exact e2.symm
        | 3, _ => exact e3.symm
      rw [this]; exact hk
  · intro s h k
    refine ⟨fun h => absurd (dt h) (by omega), fun _ => ?_⟩
    show Cl.ofL l = s
    exact Cl.ext_words fun j hj => by rw [h j hj, if_pos hj]
  · intro j hj
    simp [Cl.word]
theorem ofL_set {l : List Bool} {f : Nat → Bool} (h : ∀ n, n < 256 → l[n]? = some (f n)) : Cl.ofL l = Cl.of f := by
  apply Cl.ext
  intro c hc
  rw [has_ofL hc, Cl.of_has _ hc]
  simp [List.getD, h c hc]
theorem ref01_Row_in {f t : Int} (hf : InR .u8 f) (ht : InR .u8 t) : ref01_Row f t (Cl.row f t) := by
  obtain ⟨f, hf1, rfl⟩ := u8_of hf
  obtain ⟨t, ht1, rfl⟩ := u8_of ht
  refine run (P := fun k (s : List Bool × Int) => ref01_Row.l1 (t : Int) _ k s.1 s.2)
    (fun s => s.1.length = 256 ∧ ∃ i : Nat, s.2 = i ∧ f ≤ i ∧ (i ≤ t + 1 ∨ i = f) ∧ ∀ n, n < 256 → s.1[n]? = some (decide (f ≤ n) && decide (n < i))) (fun s => 257 - s.2.toNat) ?_ (List.replicate 256 false, (f : Int)) ?_
  · rintro ⟨l, i'⟩ ⟨hl, i, hi, h1, h2, h3⟩
    simp only at hl hi h3
    subst hi
    by_cases hc : i ≤ t
    · refine .inr ⟨(l.set i true, ((i + 1 : Nat) : Int)), ⟨by simpa using hl, i + 1, rfl, by omega, by omega, fun n hn => ?_⟩, ?_, fun k h => ⟨fun _ => ⟨l[i]'(by omega), by rw [at_nat]; exact List.getElem?_eq_getElem (by show i < l.length; omega), i64_of (by simp only; omega) (by simp only; omega), ?_⟩, fun h => absurd (by show (i : Int) ≤ (t : Int); omega) (df h)⟩⟩
      · simp only [List.getElem?_set]
        split
        · rename_i e; subst e; simp [show i < l.length by omega, h1]
        · rename_i e
          rw [h3 n hn]; congr 2; apply decide_eq_decide.2; omega
      · simp only [Int.toNat_natCast]; omega
      · simpa using h
    · refine .inl fun k => ⟨fun h => absurd (dt h) (by simp only; omega), fun _ => ⟨Cl.ofL l, ref01_Of_in hl, ?_⟩⟩
      rw [ofL_set h3]
      apply Cl.ext
      intro c hc2
      rw [has_row hc2, Cl.of_has _ hc2]
      by_cases e : f ≤ c
      · have e3 : (decide (c < i) : Bool) = decide (c ≤ t) := decide_eq_decide.2 (by omega)
        rw [e3]
        congr 1
        · apply decide_eq_decide.2; omega
        · apply decide_eq_decide.2; omega
      · rw [decide_eq_false (show ¬ (f : Int) ≤ (c : Int) by omega), decide_eq_false e]
        simp
  · refine ⟨List.length_replicate, f, rfl, Nat.le_refl _, by omega, fun n hn => ?_⟩
    show (List.replicate 256 false)[n]? = _
    rw [List.getElem?_replicate, if_pos hn]
    by_cases e : f ≤ n
    · simp [show ¬ n < f by omega]
    · simp [e]
end Go.Proofs.YtdidjelkkanenaaGreatDoor.V
namespace Go.Proofs.YtdidjelkkanenaaGreatDoor.V
open Go
set_option linter.unusedVariables false
def readF (d : List SNode) (s : List SItem) (c : Int) : List SItem × Bool :=
  match s with
  | [] => ([], false)
  | x :: rest =>
    if (lowF rest).2 = false then ([], false)
    else match at? d x.2.1 with
      | none => ([], false)
      | some n =>
        if x.1 = 3 then (if byte? n.2.2.2.2.2.2 x.2.2.1 = some c then ((if x.2.2.1 + 1 < (n.2.2.2.2.2.2.length : Int) then [(3, x.2.1, x.2.2.1 + 1, 0)] else []) ++ (lowF rest).1, true) else ([], false))
        else if x.1 = 4 then ([(1, n.2.1, 0, 0), (5, 0, 256 * x.2.2.1 + c, 0)] ++ (lowF rest).1, true)
        else if n.1 = 8 then ([(1, n.2.1, 0, 0), (5, 0, c, 0)] ++ (lowF rest).1, true)
        else if n.1 = 9 then ([(4, x.2.1, c, 0)] ++ (lowF rest).1, true)
        else if n.2.2.2.2.2.1.has c.toNat = true then ((lowF rest).1, true) else ([], false)
theorem lowF_len (s : List SItem) : (lowF s).1.length ≤ s.length := by unfold lowF; split <;> simp
theorem readF_len (d : List SNode) (s : List SItem) (c : Int) : (readF d s c).1.length ≤ s.length + 1 := by
  cases s with
  | nil => simp [readF]
  | cons x rest =>
    have := lowF_len rest
    unfold readF
    simp only
    split
    · simp
    · cases at? d x.2.1 with
      | none => simp
      | some n =>
        simp only [List.length_cons]
        split
        · split
          · split <;> simp <;> omega
          · simp
        · split
          · simp; omega
          · split
            · simp; omega
            · split
              · simp; omega
              · split <;> simp; omega
theorem itR_form {d : List SNode} (hd : ROk d) (hl : d.length ≤ 1000) (ht : ∀ n ∈ d, n.2.2.2.2.2.2.length ≤ 140737488351232) {x : SItem} (hx : formI d x = true) : ItR x := by
  unfold formI at hx
  split at hx
  · rename_i h5
    simp only [Bool.and_eq_true, beq_iff_eq, decide_eq_true_eq] at hx
    exact ⟨i64_of (by omega) (by omega), i64_of (by omega) (by omega), i64_of (by omega) (by omega), i64_of (by omega) (by omega)⟩
  · cases hn : at? d x.2.1 with
    | none => rw [hn] at hx; cases hx
    | some n =>
      rw [hn] at hx
      have hb := at_bound hn
      have hm : n ∈ d := by
        obtain ⟨k, _, hk⟩ := at_nn hn
        exact List.mem_of_getElem? hk
      have htn := ht n hm
      simp only at hx
      split at hx
      · rename_i h1
        simp only [Bool.and_eq_true, beq_iff_eq] at hx
        exact ⟨i64_of (by omega) (by omega), i64_of (by omega) (by omega), i64_of (by omega) (by omega), i64_of (by omega) (by omega)⟩
      · split at hx
        · rename_i h2
          simp only [Bool.and_eq_true, beq_iff_eq, decide_eq_true_eq] at hx
          have := hd.rep _ n hn hx.1.1.1
          exact ⟨i64_of (by omega) (by omega), i64_of (by omega) (by omega), i64_of (by omega) (by omega), i64_of (by omega) (by omega)⟩
        · split at hx
          · rename_i h3
            simp only [Bool.and_eq_true, beq_iff_eq, decide_eq_true_eq] at hx
            exact ⟨i64_of (by omega) (by omega), i64_of (by omega) (by omega), i64_of (by omega) (by omega), i64_of (by omega) (by omega)⟩
          · split at hx
            · rename_i h4
              simp only [Bool.and_eq_true, beq_iff_eq, decide_eq_true_eq] at hx
              exact ⟨i64_of (by omega) (by omega), i64_of (by omega) (by omega), i64_of (by omega) (by omega), i64_of (by omega) (by omega)⟩
            · cases hx
theorem itR_all {d : List SNode} (hd : ROk d) (hl : d.length ≤ 1000) (ht : ∀ n ∈ d, n.2.2.2.2.2.2.length ≤ 140737488351232) {s : List SItem} (hs : formS d s = true) : ∀ x ∈ s, ItR x := by
  intro x hx
  unfold formS at hs
  rw [List.all_eq_true] at hs
  exact itR_form hd hl ht (hs x hx)
theorem rdy_kind {d : List SNode} {x : SItem} {rest : List SItem} (hf : formS d (x :: rest) = true) (hr : rdy d (x :: rest) = true) : ∃ n, at? d x.2.1 = some n ∧ n ∈ d ∧ ((x.1 = 1 ∧ (n.1 = 2 ∨ n.1 = 8 ∨ n.1 = 9)) ∨ (x.1 = 3 ∧ n.1 = 3 ∧ x.2.2.2 = 0 ∧ 0 ≤ x.2.2.1 ∧ x.2.2.1 < (n.2.2.2.2.2.2.length : Int)) ∨ (x.1 = 4 ∧ n.1 = 9 ∧ 0 ≤ x.2.2.1 ∧ x.2.2.1 ≤ 255)) := by
  have hx := (form_cons hf).1
  have h5 : x.1 ≠ 5 := fun h => by simp [rdy, h] at hr
  obtain ⟨n, hn, _⟩ := form_node hx h5
  have hm : n ∈ d := by
    obtain ⟨k, _, hk⟩ := at_nn hn
    exact List.mem_of_getElem? hk
  refine ⟨n, hn, hm, ?_⟩
  unfold formI at hx
  rw [if_neg h5, hn] at hx
  simp only [rdy, hn, Bool.or_eq_true, beq_iff_eq, Bool.and_eq_true] at hr
  simp only at hx
  rcases hr with (h3 | h4) | ⟨h1, h2⟩
  · rw [if_neg (by omega), if_neg (by omega), if_pos h3] at hx
    simp only [Bool.and_eq_true, beq_iff_eq, decide_eq_true_eq] at hx
    exact .inr (.inl ⟨h3, hx.1.1.1, hx.1.1.2, hx.1.2, hx.2⟩)
  · rw [if_neg (by omega), if_neg (by omega), if_neg (by omega), if_pos h4] at hx
    simp only [Bool.and_eq_true, beq_iff_eq, decide_eq_true_eq] at hx
    exact .inr (.inr ⟨h4, hx.1.1.1, hx.1.2, hx.2⟩)
  · exact .inl ⟨h1, by omega⟩
theorem byte_at {s : Str} {i : Int} (h0 : 0 ≤ i) (h1 : i < (s.length : Int)) : ∃ c, byte? s i = some c ∧ InR .u8 c := by
  obtain ⟨x, hx, _⟩ := at_in h0 h1
  refine ⟨(x.toNat : Int), by unfold byte?; rw [hx]; rfl, inR_u8.2 ⟨by omega, ?_⟩⟩
  have := x.toNat_lt
  omega
theorem next_Read_in {d : List SNode} (hd : ROk d) (hl : d.length ≤ 1000) (ht : ∀ n ∈ d, n.2.2.2.2.2.2.length ≤ 140737488351232) {s : List SItem} (hs : s.length ≤ 1000) (hf : formS d s = true) (hr : rdy d s = true) {c : Int} (hc : InR .u8 c) : next_Read d s c (readF d s c) := by
  cases s with
  | nil => exact ⟨fun _ => rfl, fun h => by simp at h⟩
  | cons x rest =>
    have hls : rest.length ≤ 1000 := by simp at hs; omega
    have hcr := inR_u8.1 hc
    obtain ⟨n, hn, hm, hk⟩ := rdy_kind hf hr
    have htn := ht n hm
    have hlow := item_Lower_in hls (itR_all hd hl ht (form_cons hf).2)
    have hlen := lowF_len rest
    refine ⟨fun h => by simp at h; omega, fun _ => ⟨⟨by omega, by simp; omega⟩, lowF rest, hlow, x, rfl, fun hb => ?_, fun hb => ⟨x, rfl, n, hn, x, rfl, ?_⟩⟩⟩
    · have hmh : mhas gfmS x.1 = true := by rcases hk with ⟨h, _⟩ | ⟨h, _⟩ | ⟨h, _⟩ <;> rw [h] <;> rfl
      rw [hmh] at hb
      simp only [Bool.not_true, Bool.or_false, Bool.not_eq_true'] at hb
      unfold readF
      simp only
      rw [if_pos hb]
    · simp only [Bool.or_eq_false_iff, Bool.not_eq_false'] at hb
      have hb1 : ¬ (lowF rest).2 = false := by rw [hb.1]; simp
      have cat : ∀ l : List SItem, l.length ≤ 2 → slices_Concat_api_State_api_Item [l, (lowF rest).1] (l ++ (lowF rest).1) := fun l h => concat2_in (by omega) (by omega)
      rcases hk with ⟨h1, h2⟩ | ⟨h3, h4, h5, h6, h7⟩ | ⟨h4, h9, h6, h7⟩
      · -- a node
        have e1 : mget gfmS x.1 none = mget gfmS 1 none := by rw [h1]
        rw [e1]
        rcases h2 with h2 | h2 | h2
        · by_cases hh : n.2.2.2.2.2.1.has c.toNat = true
          · have hrd : readF d (x :: rest) c = ([] ++ (lowF rest).1, true) := by
              unfold readF; simp only [hn]; rw [if_neg hb1, if_neg (by omega), if_neg (by omega), if_neg (by omega), if_neg (by omega), if_pos hh]; rfl
            rw [hrd]
            refine ⟨([], true), .inl ⟨rfl, fun h => by simp [h2] at h, fun _ => ⟨fun h => by simp [h2] at h, fun _ => ⟨_, class_Has_u8 hc, by rw [hh]⟩⟩⟩, fun h => by simp at h, fun _ => ⟨_, cat [] (by simp), rfl⟩⟩
          · have hh' : n.2.2.2.2.2.1.has c.toNat = false := by simpa using hh
            have hrd : readF d (x :: rest) c = ([], false) := by
              unfold readF; simp only [hn]; rw [if_neg hb1, if_neg (by omega), if_neg (by omega), if_neg (by omega), if_neg (by omega), if_neg hh]
            rw [hrd]
            exact ⟨([], false), .inl ⟨rfl, fun h => by simp [h2] at h, fun _ => ⟨fun h => by simp [h2] at h, fun _ => ⟨_, class_Has_u8 hc, by rw [hh']⟩⟩⟩, fun _ => rfl, fun h => by simp at h⟩
        · have hrd : readF d (x :: rest) c = ([(1, n.2.1, 0, 0), (5, 0, c, 0)] ++ (lowF rest).1, true) := by
            unfold readF; simp only [hn]; rw [if_neg hb1, if_neg (by omega), if_neg (by omega), if_pos h2]
          rw [hrd]
          exact ⟨([(1, n.2.1, 0, 0), (5, 0, c, 0)], true), .inl ⟨rfl, fun _ => ⟨_, rfl, rfl⟩, fun h => by simp [h2] at h⟩, fun h => by simp at h, fun _ => ⟨_, cat _ (by simp), rfl⟩⟩
        · have hrd : readF d (x :: rest) c = ([(4, x.2.1, c, 0)] ++ (lowF rest).1, true) := by
            unfold readF; simp only [hn]; rw [if_neg hb1, if_neg (by omega), if_neg (by omega), if_neg (by omega), if_pos h2]
          rw [hrd]
          exact ⟨([(4, x.2.1, c, 0)], true), .inl ⟨rfl, fun h => by simp [h2] at h, fun _ => ⟨fun _ => rfl, fun h => by simp [h2] at h⟩⟩, fun h => by simp at h, fun _ => ⟨_, cat _ (by simp), rfl⟩⟩
      · -- a text
        have e1 : mget gfmS x.1 none = mget gfmS 3 none := by rw [h3]
        rw [e1]
        obtain ⟨b, hb2, _⟩ := byte_at h6 h7
        obtain ⟨xk, xi, xl, xh⟩ := x
        simp only at h3 h5 h6 h7 hb2 hn
        subst h3; subst h5
        by_cases hbc : b = c
        · subst hbc
          by_cases hlast : xl + 1 < (n.2.2.2.2.2.2.length : Int)
          · have hrd : readF d ((3, xi, xl, 0) :: rest) b = ([(3, xi, xl + 1, 0)] ++ (lowF rest).1, true) := by
              unfold readF; simp only [hn]; rw [if_neg hb1, if_pos trivial, if_pos hb2, if_pos hlast]
            rw [hrd]
            refine ⟨([(3, xi, xl + 1, 0)], true), .inr (.inl ⟨rfl, i64_of (by show _ ≤ xl + 1; omega) (by show xl + 1 ≤ _; omega), _, rfl, fun h => ?_, fun _ => ⟨b, hb2, by simp⟩⟩), fun h => by simp at h, fun _ => ⟨_, cat _ (by simp), rfl⟩⟩
            simp at h; omega
          · have hrd : readF d ((3, xi, xl, 0) :: rest) b = ([] ++ (lowF rest).1, true) := by
              unfold readF; simp only [hn]; rw [if_neg hb1, if_pos trivial, if_pos hb2, if_neg hlast]
            rw [hrd]
            refine ⟨([], true), .inr (.inl ⟨rfl, i64_of (by show _ ≤ xl + 1; omega) (by show xl + 1 ≤ _; omega), _, rfl, fun _ => ⟨b, hb2, by simp⟩, fun h => ?_⟩), fun h => by simp at h, fun _ => ⟨_, cat _ (by simp), rfl⟩⟩
            simp at h; omega
        · have hne : ¬ byte? n.2.2.2.2.2.2 xl = some c := by rw [hb2]; simpa using hbc
          have hrd : readF d ((3, xi, xl, 0) :: rest) c = ([], false) := by
            unfold readF; simp only [hn]; rw [if_neg hb1, if_pos trivial, if_neg hne]
          rw [hrd]
          have hbeq : (b == c) = false := by simpa using hbc
          by_cases hlast : xl + 1 = (n.2.2.2.2.2.2.length : Int)
          · refine ⟨([], false), .inr (.inl ⟨rfl, i64_of (by show _ ≤ xl + 1; omega) (by show xl + 1 ≤ _; omega), _, rfl, fun _ => ⟨b, hb2, by rw [hbeq]⟩, fun h => ?_⟩), fun _ => rfl, fun h => by simp at h⟩
            simp at h; omega
          · refine ⟨([(3, xi, xl + 1, 0)], false), .inr (.inl ⟨rfl, i64_of (by show _ ≤ xl + 1; omega) (by show xl + 1 ≤ _; omega), _, rfl, fun h => ?_, fun _ => ⟨b, hb2, by rw [hbeq]⟩⟩), fun _ => rfl, fun h => by simp at h⟩
            simp at h; omega
      · -- half a number
        have e1 : mget gfmS x.1 none = mget gfmS 4 none := by rw [h4]
        rw [e1]
        have hrd : readF d (x :: rest) c = ([(1, n.2.1, 0, 0), (5, 0, 256 * x.2.2.1 + c, 0)] ++ (lowF rest).1, true) := by
          unfold readF; simp only [hn]; rw [if_neg hb1, if_neg (by omega), if_pos h4]
        rw [hrd]
        exact ⟨([(1, n.2.1, 0, 0), (5, 0, 256 * x.2.2.1 + c, 0)], true), .inr (.inr ⟨rfl, i64_of (by show _ ≤ 256 * x.2.2.1; omega) (by show 256 * x.2.2.1 ≤ _; omega), i64_of (by show _ ≤ 256 * x.2.2.1 + c; omega) (by show 256 * x.2.2.1 + c ≤ _; omega), _, rfl, rfl⟩), fun h => by simp at h, fun _ => ⟨_, cat _ (by simp), rfl⟩⟩
theorem ref15_Read_in {d : List SNode} (hd : ROk d) (hl : d.length ≤ 1000) (ht : ∀ n ∈ d, n.2.2.2.2.2.2.length ≤ 140737488351232) {s : List SItem} (hs : s.length ≤ 1000) (hf : formS d s = true) (hr : rdy d s = true) {c : Int} (hc : InR .u8 c) : ref15_Read d s c (readF d s c) := by
  cases s with
  | nil => exact ⟨fun _ => rfl, fun h => by simp at h⟩
  | cons x rest =>
    have hls : rest.length ≤ 1000 := by simp at hs; omega
    have hcr := inR_u8.1 hc
    obtain ⟨n, hn, hm, hk⟩ := rdy_kind hf hr
    have htn := ht n hm
    have hlow := ref13_Lower_in hls (itR_all hd hl ht (form_cons hf).2)
    have hlen := lowF_len rest
    refine ⟨fun h => by simp at h; omega, fun _ => ⟨⟨by omega, by simp; omega⟩, lowF rest, hlow, fun hb => ?_, fun hb => ⟨x, rfl, n, hn, ?_⟩⟩⟩
    · simp only [Bool.not_eq_true'] at hb
      unfold readF
      simp only
      rw [if_pos hb]
    · simp only [Bool.not_eq_false'] at hb
      have hb1 : ¬ (lowF rest).2 = false := by rw [hb]; simp
      rcases hk with ⟨h1, h2⟩ | ⟨h3, h4, h5, h6, h7⟩ | ⟨h4, h9, h6, h7⟩
      · refine ⟨fun h => by simp [h1] at h, fun _ => ⟨fun h => by simp [h1] at h, fun _ => ?_⟩⟩
        rcases h2 with h2 | h2 | h2
        · refine ⟨fun h => by simp [h2] at h, fun _ => ⟨fun h => by simp [h2] at h, fun _ => ⟨_, ref01_Has_u8 hc, fun hh => ?_, fun hh => ⟨by simp; omega, ?_⟩⟩⟩⟩
          · have hh' : ¬ n.2.2.2.2.2.1.has c.toNat = true := by simpa using hh
            unfold readF; simp only [hn]; rw [if_neg hb1, if_neg (by omega), if_neg (by omega), if_neg (by omega), if_neg (by omega), if_neg hh']
          · have hh' : n.2.2.2.2.2.1.has c.toNat = true := by simpa using hh
            unfold readF; simp only [hn]; rw [if_neg hb1, if_neg (by omega), if_neg (by omega), if_neg (by omega), if_neg (by omega), if_pos hh']; rfl
        · refine ⟨fun _ => ⟨by simp; omega, ?_⟩, fun h => by simp [h2] at h⟩
          unfold readF; simp only [hn]; rw [if_neg hb1, if_neg (by omega), if_neg (by omega), if_pos h2]
        · refine ⟨fun h => by simp [h2] at h, fun _ => ⟨fun _ => ⟨by simp; omega, ?_⟩, fun h => by simp [h2] at h⟩⟩
          unfold readF; simp only [hn]; rw [if_neg hb1, if_neg (by omega), if_neg (by omega), if_neg (by omega), if_pos h2]
      · obtain ⟨b, hb2, _⟩ := byte_at h6 h7
        refine ⟨fun _ => ⟨b, hb2, fun hbc => ?_, fun hbc => ⟨i64_of (by omega) (by omega), _, rfl, fun hl2 => ⟨i64_of (by omega) (by omega), by simp; omega, ?_⟩, fun hl2 => ⟨by simp; omega, ?_⟩⟩⟩, fun h => by simp [h3] at h⟩
        · have hne : ¬ byte? n.2.2.2.2.2.2 x.2.2.1 = some c := by rw [hb2]; simpa using hbc
          unfold readF; simp only [hn]; rw [if_neg hb1, if_pos h3, if_neg hne]
        · have he : byte? n.2.2.2.2.2.2 x.2.2.1 = some c := by rw [hb2]; simpa using hbc
          unfold readF; simp only [hn]; rw [if_neg hb1, if_pos h3, if_pos he, if_pos (dt hl2)]
        · have he : byte? n.2.2.2.2.2.2 x.2.2.1 = some c := by rw [hb2]; simpa using hbc
          unfold readF; simp only [hn]; rw [if_neg hb1, if_pos h3, if_pos he, if_neg (df hl2)]
      · refine ⟨fun h => by simp [h4] at h, fun _ => ⟨fun _ => ⟨i64_of (by omega) (by omega), i64_of (by omega) (by omega), by simp; omega, ?_⟩, fun h => by simp [h4] at h⟩⟩
        unfold readF; simp only [hn]; rw [if_neg hb1, if_neg (by omega), if_pos h4]
end Go.Proofs.YtdidjelkkanenaaGreatDoor.V
namespace Go.Proofs.YtdidjelkkanenaaGreatDoor.V
open Go
set_option linter.unusedVariables false
theorem CV_tr {d : List SNode} {f i : Int} (h : Tr d f i) : ∀ k, ((CV d k i).length : Int) ≤ i - f + 1 := by
  induction h with
  | leaf he hk hx h0 =>
    rename_i i e
    intro k
    cases k with
    | zero => simp [CV]
    | succ k =>
      unfold CV
      rw [he]
      simp only
      rcases hk with h | h | h
      · simp [h]
      · simp [h]
      · simp [h]
  | one he hk ha hb hr t ih =>
    rename_i f i e
    intro k
    have hle := t.le
    cases k with
    | zero => simp [CV]; omega
    | succ k =>
      have := ih k
      unfold CV
      rw [he]
      simp only
      rw [if_neg (by omega), if_neg (by omega), if_neg (by omega), if_neg (by omega), ha]
      split
      · rw [List.length_map]; omega
      · split
        · rw [List.length_map]; omega
        · simp; omega
  | two he hk ha hb t1 t2 i1 i2 =>
    rename_i f p i e
    intro k
    have h1 := t1.le
    have h2 := t2.le
    cases k with
    | zero => simp [CV]; omega
    | succ k =>
      have a1 := i1 k
      have a2 := i2 k
      unfold CV
      rw [he]
      simp only
      rw [if_neg (by omega), if_neg (by omega), ha, hb]
      split
      · rw [List.length_append, List.length_map]; omega
      · split
        · rw [List.length_append]; omega
        · omega
theorem CV_few {d : List SNode} (h : Rt d) (k : Nat) (i : Int) : (CV d k i).length ≤ d.length + 1 := by
  cases hn : at? d i with
  | none => cases k <;> simp [CV, hn]
  | some n =>
    obtain ⟨g, hg⟩ := h.tr.at hn
    have h1 := CV_tr hg k
    have h2 := hg.le
    have h3 := hg.lt
    omega
theorem CS_few {d : List SNode} (h : Rt d) : ∀ s : List SItem, (CS d s).length ≤ s.length * (d.length + 1) + 1
  | [] => by simp [CS]
  | x :: rest => by
    have h1 := CS_few h rest
    have h2 : (CI d x).length ≤ d.length + 1 := by
      unfold CI
      split
      · exact CV_few h _ _
      · split
        · split
          · rw [List.length_map]; exact CV_few h _ _
          · simp
        · simp
    simp only [CS, List.length_append, List.length_map, List.length_cons, Nat.succ_mul]
    omega
theorem heads_few {d : List SNode} {s : List SItem} (h : Sm d s) {B : List SBranch} (hB : Can (fun t => (hds d s).count t) B) : B.length ≤ 1001 := by
  have h0 := can_len hB (U := CS d s) fun t ht => hds_CS d s t (List.count_pos_iff.1 (by omega))
  have h1 := CS_few h.rt s
  have h3 := h.slen
  have h4 : s.length * (d.length + 1) ≤ 40 * 25 := Nat.mul_le_mul h3 (by have := h.len; omega)
  omega
theorem heads_ok {d : List SNode} {s : List SItem} (h : Sm d s) {t : List SItem} (ht : (hds d s).count t ≠ 0) : t.length ≤ 100 ∧ rdy d t = true ∧ formS d t = true := by
  obtain ⟨L, ⟨k, hk⟩, hp⟩ := hds_lv h.rt.toROk s h.form
  have hm : t ∈ L := hp.mem_iff.2 (List.count_pos_iff.1 (by omega))
  obtain ⟨h1, h2⟩ := lv_vs h.rt.toROk (n0 := 40) k s L hk (Vs.start h.form h.slen) t hm
  have := h1.len
  have := h.len
  exact ⟨by omega, h2, h1.form⟩
def fB (d : List SNode) (c : Int) (B : List SBranch) (u : List SItem) : Nat := (B.map fun b => if (readF d b.1 c).2 = true ∧ (readF d b.1 c).1 = u then b.2.toNat else 0).sum
theorem fB_snoc (d : List SNode) (c : Int) (B : List SBranch) (b : SBranch) (u : List SItem) : fB d c (B ++ [b]) u = fB d c B u + if (readF d b.1 c).2 = true ∧ (readF d b.1 c).1 = u then b.2.toNat else 0 := by
  simp [fB]
theorem fB_pos {d : List SNode} {c : Int} {B : List SBranch} {u : List SItem} (h : fB d c B u ≠ 0) : ∃ b ∈ B, (readF d b.1 c).2 = true ∧ (readF d b.1 c).1 = u := by
  induction B with
  | nil => simp [fB] at h
  | cons b B ih =>
    by_cases hb : (readF d b.1 c).2 = true ∧ (readF d b.1 c).1 = u
    · exact ⟨b, by simp, hb⟩
    · have e : fB d c (b :: B) u = fB d c B u := by
        unfold fB; rw [List.map_cons, List.sum_cons, if_neg hb, Nat.zero_add]
      rw [e] at h
      obtain ⟨b', h1, h2⟩ := ih h
      exact ⟨b', by simp [h1], h2⟩
structure HOk (d : List SNode) (B : List SBranch) : Prop where
  few : B.length ≤ 1001
  ok : ∀ b ∈ B, b.1.length ≤ 100 ∧ rdy d b.1 = true ∧ formS d b.1 = true
  many : ∀ b ∈ B, 1 ≤ b.2 ∧ b.2 ≤ 2
theorem Sm.hok {d : List SNode} {s : List SItem} (h : Sm d s) {B : List SBranch} (hB : Can (fun t => (hds d s).count t) B) : HOk d B :=
  ⟨heads_few h hB, fun b hb => heads_ok h (hB.many hb).2.1, fun b hb => (hB.many hb).2.2⟩
theorem fB_read {d : List SNode} {c : Int} {B : List SBranch} (h : HOk d B) {u : List SItem} (hu : fB d c B u ≠ 0) : u.length ≤ 101 := by
  obtain ⟨b, hb, _, rfl⟩ := fB_pos hu
  have := readF_len d b.1 c
  have := (h.ok b hb).1
  omega
theorem onB_len {d : List SNode} {c : Int} {B : List SBranch} {R : List SBranch} (hR : Can (fB d c B) R) : R.length ≤ B.length := by
  have := can_len hR (U := B.map fun b => (readF d b.1 c).1) fun u hu => by
    obtain ⟨b, hb, _, e⟩ := fB_pos hu
    exact List.mem_map.2 ⟨b, hb, e⟩
  simpa using this
theorem HOk.take {d : List SNode} {B : List SBranch} (h : HOk d B) (i : Nat) : HOk d (B.take i) :=
  ⟨by have := h.few; rw [List.length_take]; omega, fun b hb => h.ok b (List.mem_of_mem_take hb), fun b hb => h.many b (List.mem_of_mem_take hb)⟩
section
variable {d : List SNode} (hd : ROk d) (hl : d.length ≤ 1000) (ht : ∀ n ∈ d, n.2.2.2.2.2.2.length ≤ 140737488351232) {c : Int} (hc : InR .u8 c) {B : List SBranch} (hB : HOk d B)
include hd hl ht hc hB
theorem ref15_On_l : ∃ R, (∃ k, ref15_On.l1 d c B (ref15_On.j1 R) k [] 0) ∧ Can (fB d c B) R := by
  have key : ∀ (m i : Nat) (out : List SBranch), i + m = B.length → Can (fB d c (B.take i)) out → ∃ (R : List SBranch) (k : Nat), ref15_On.l1 d c B (ref15_On.j1 R) k out (i : Int) ∧ Can (fB d c B) R := by
    intro m
    induction m with
    | zero =>
      intro i out hi ho
      rw [List.take_of_length_le (by omega)] at ho
      exact ⟨out, 1, ⟨fun h => absurd (dt h) (by omega), fun _ => rfl⟩, ho⟩
    | succ m ih =>
      intro i out hi ho
      have hil : i < B.length := by omega
      have hat : at? B (i : Int) = some B[i] := by rw [at_nat]; simp [hil]
      have hbm := List.getElem_mem hil
      obtain ⟨b1, b2, b3⟩ := hB.ok _ hbm
      obtain ⟨m1, m2⟩ := hB.many _ hbm
      have hrd := ref15_Read_in hd hl ht (by omega) b3 b2 hc
      have e := fB_snoc d c (B.take i) B[i]
      rw [← List.take_succ_eq_append_getElem hil] at e
      have hfew := hB.few
      cases hr : (readF d B[i].1 c).2
      · obtain ⟨R, k, hk1, hk2⟩ := ih (i + 1) out (by omega) (ho.congr fun t => by rw [e, hr]; simp)
        exact ⟨R, k + 1, ⟨fun _ => ⟨_, hat, _, hrd, (fun h => by rw [hr] at h; cases h), fun _ => ⟨i64_of (by omega) (by omega), hk1⟩⟩, fun h => absurd (by omega) (df h)⟩, hk2⟩
      · have hn : (B[i].2.toNat : Nat) ≠ 0 := by omega
        have hsat : sat B[i].2.toNat = B[i].2 := by unfold sat; omega
        have hadd := ho.add (readF d B[i].1 c).1 hn
        rw [hsat] at hadd
        have hol := onB_len ho
        have hbo : BrOk out := ho.brok fun t ht => by have := fB_read (hB.take i) ht; omega
        have hrl := readF_len d B[i].1 c
        obtain ⟨R, k, hk1, hk2⟩ := ih (i + 1) (addB (readF d B[i].1 c).1 B[i].2 out) (by omega) (hadd.congr fun t => by
          rw [e, hr]
          simp only [true_and, eq_comm])
        exact ⟨R, k + 1, ⟨fun _ => ⟨_, hat, _, hrd, fun _ => ⟨_, hat, _, ref14_Add_in ho.srt hbo (by rw [List.length_take] at hol; omega) (by omega) ⟨by omega, by omega⟩, i64_of (by omega) (by omega), hk1⟩, (fun h => by rw [hr] at h; cases h)⟩, fun h => absurd (by omega) (df h)⟩, hk2⟩
  obtain ⟨R, k, h1, h2⟩ := key B.length 0 [] (by omega) (Can.nil.congr fun t => by simp [fB])
  exact ⟨R, ⟨k, h1⟩, h2⟩
structure MapN (f : List SItem → Nat) (m : List (Str × Int)) : Prop where
  kn : KN m
  mem : ∀ k v, (k, v) ∈ m ↔ ∃ u, k = keyS u ∧ f u ≠ 0 ∧ v = sat (f u)
omit hd hl ht hc hB in
theorem MapN.get {f : List SItem → Nat} {m} (h : MapN f m) (u : List SItem) : mget m (keyS u) (0 : Int) = sat (f u) := by
  by_cases hu : f u = 0
  · rw [mget_none fun p hp e => ?_]
    · rw [hu]; rfl
    · obtain ⟨k, v⟩ := p
      obtain ⟨w, h1, h2, _⟩ := (h.mem k v).1 hp
      simp only at e
      rw [e] at h1
      rw [keyS_iff.1 h1] at hu
      exact h2 hu
  · have hm := (h.mem (keyS u) (sat (f u))).2 ⟨u, rfl, hu, rfl⟩
    exact mget_mem h.kn hm (0 : Int)
omit hd hl ht hc hB in
theorem MapN.put {f : List SItem → Nat} {m} (h : MapN f m) (u : List SItem) {n : Nat} (hn : n ≠ 0) {v : Int} (hv : v = sat (f u + n)) : MapN (fun t => f t + if t = u then n else 0) (mput m (keyS u) v) := by
  refine ⟨mput_kn h.kn _ _, fun k w => ?_⟩
  rw [mput_mem, h.mem, Prod.mk.injEq]
  constructor
  · rintro (⟨h1, h2⟩ | ⟨h1, u', h2, h3, h4⟩)
    · exact ⟨u, h1, by simp; omega, by rw [h2, hv]; simp⟩
    · have hne : u' ≠ u := fun e => h1 (by rw [h2, e])
      exact ⟨u', h2, by simp [hne, h3], by rw [h4]; simp [hne]⟩
  · rintro ⟨u', h1, h2, h3⟩
    by_cases e : u' = u
    · subst e; exact .inl ⟨h1, by rw [h3, hv]; simp⟩
    · refine .inr ⟨fun e' => e (keyS_iff.1 (h1.symm.trans e')), u', h1, ?_, ?_⟩
      · simpa [e] using h2
      · rw [h3]; simp [e]
theorem next_On_l : ∃ R, (∃ k, next_On.l2 d c B (next_On.j2 R) k [] [] 0) ∧ Can (fB d c B) R := by
  have hfew := hB.few
  have last : ∀ (many : List (Str × Int)) (out : List SBranch), MapN (fB d c B) many → (out.map (·.1)).Nodup → (∀ u, u ∈ out.map (·.1) ↔ fB d c B u ≠ 0) → out.length ≤ 1001 → ∃ R, next_On.j2 R many out ∧ Can (fB d c B) R := by
    intro many out hm hn ho hlen
    have hlo : ∀ b ∈ out, b.1.length ≤ 1000 := fun b hb => by
      have := fB_read hB ((ho b.1).1 (List.mem_map.2 ⟨b, hb, rfl⟩)); omega
    let out' := out.map fun b => (b.1, sat (fB d c B b.1))
    have e1 : out'.map (·.1) = out.map (·.1) := by simp [out', Function.comp_def]
    have hn' : (out'.map (·.1)).Nodup := by rw [e1]; exact hn
    have hcan : Can (fB d c B) (srtB out') := by
      refine ⟨srtB_srt hn', fun t m => ?_⟩
      rw [(srtB_perm out').mem_iff]
      constructor
      · intro h
        obtain ⟨b, hb, e⟩ := List.mem_map.1 h
        simp only [Prod.mk.injEq] at e
        obtain ⟨rfl, rfl⟩ := e
        exact ⟨(ho _).1 (List.mem_map.2 ⟨b, hb, rfl⟩), rfl⟩
      · rintro ⟨h1, h2⟩
        obtain ⟨b, hb, e⟩ := List.mem_map.1 ((ho t).2 h1)
        exact List.mem_map.2 ⟨b, hb, by rw [e, h2]⟩
    refine ⟨srtB out', ?_, hcan⟩
    refine upto (P := fun k (o : List SBranch) v => next_On.l1 many out (next_On.j1 (srtB out')) k o v) out.length (fun i o => o = out'.take i ++ out.drop i) ?_ ?_ out (by simp)
    · rintro i o hi rfl
      have hl1 : (out'.take i).length = i := by simp [out']; omega
      have hat : at? (out'.take i ++ out.drop i) (i : Int) = some out[i] := by
        rw [at_nat, List.getElem?_append_right (by omega), hl1, Nat.sub_self]; simp [hi]
      have hset : (out'.take i ++ out.drop i).set i (out[i].1, sat (fB d c B out[i].1)) = out'.take (i + 1) ++ out.drop (i + 1) := by
        rw [List.set_append_right _ _ (by omega), hl1, Nat.sub_self, List.drop_eq_getElem_cons hi, List.set_cons_zero, List.take_succ_eq_append_getElem (show i < out'.length by simp [out']; exact hi)]
        simp [out']
      refine .inr ⟨_, rfl, fun k hk => ⟨fun _ => ⟨_, hat, _, ⟨hlo _ (List.getElem_mem hi), rfl⟩, _, hat, i64_of (by omega) (by omega), ?_⟩, fun h => absurd (by omega) (df h)⟩⟩
      rw [hm.get, Int.toNat_natCast, hset]
      exact hk
    · rintro o rfl k
      refine ⟨fun h => absurd (dt h) (by omega), fun _ => ?_⟩
      have hl2 : out'.length = out.length := by simp [out']
      rw [List.take_of_length_le (by omega), List.drop_length, List.append_nil]
      exact ⟨_, ⟨hn', fun b hb => by
        obtain ⟨b', hb', rfl⟩ := List.mem_map.1 hb
        exact hlo b' hb', by omega, rfl⟩, rfl⟩
  have key : ∀ (m i : Nat) (many : List (Str × Int)) (out : List SBranch), i + m = B.length → MapN (fB d c (B.take i)) many → (out.map (·.1)).Nodup → (∀ u, u ∈ out.map (·.1) ↔ fB d c (B.take i) u ≠ 0) → out.length ≤ i → ∃ (R : List SBranch) (k : Nat), next_On.l2 d c B (next_On.j2 R) k many out (i : Int) ∧ Can (fB d c B) R := by
    intro m
    induction m with
    | zero =>
      intro i many out hi hm hn ho hlen
      rw [List.take_of_length_le (by omega)] at hm ho
      obtain ⟨R, h1, h2⟩ := last many out hm hn ho (by omega)
      exact ⟨R, 1, ⟨fun h => absurd (dt h) (by omega), fun _ => h1⟩, h2⟩
    | succ m ih =>
      intro i many out hi hm hn ho hlen
      have hil : i < B.length := by omega
      have hat : at? B (i : Int) = some B[i] := by rw [at_nat]; simp [hil]
      have hbm := List.getElem_mem hil
      obtain ⟨b1, b2, b3⟩ := hB.ok _ hbm
      obtain ⟨m1, m2⟩ := hB.many _ hbm
      have hrd := next_Read_in hd hl ht (by omega) b3 b2 hc
      have hrl := readF_len d B[i].1 c
      have e := fB_snoc d c (B.take i) B[i]
      rw [← List.take_succ_eq_append_getElem hil] at e
      cases hr : (readF d B[i].1 c).2
      · have e0 : ∀ u, fB d c (B.take (i + 1)) u = fB d c (B.take i) u := fun u => by rw [e, hr]; simp
        have e0' : fB d c (B.take (i + 1)) = fB d c (B.take i) := funext e0
        obtain ⟨R, k, hk1, hk2⟩ := ih (i + 1) many out (by omega) (by rw [e0']; exact hm) hn (by rw [e0']; exact ho) (by omega)
        exact ⟨R, k + 1, ⟨fun _ => ⟨_, hat, _, hrd, fun _ => ⟨i64_of (by omega) (by omega), hk1⟩, (fun h => by rw [hr] at h; cases h)⟩, fun h => absurd (by omega) (df h)⟩, hk2⟩
      · have hn0 : B[i].2.toNat ≠ 0 := by omega
        have hg := hm.get (readF d B[i].1 c).1
        have hv : min (mget many (keyS (readF d B[i].1 c).1) 0 + B[i].2) 2 = sat (fB d c (B.take i) (readF d B[i].1 c).1 + B[i].2.toNat) := by
          rw [hg]; unfold sat; omega
        have e0' : fB d c (B.take (i + 1)) = fun t => fB d c (B.take i) t + if t = (readF d B[i].1 c).1 then B[i].2.toNat else 0 := funext fun u => by
          rw [e, hr]
          simp only [true_and, eq_comm]
        have hput := hm.put (readF d B[i].1 c).1 hn0 hv
        rw [← e0'] at hput
        have hin : InR .i64 (mget many (keyS (readF d B[i].1 c).1) 0 + B[i].2) := by rw [hg]; unfold sat; exact i64_of (by omega) (by omega)
        by_cases h0 : fB d c (B.take i) (readF d B[i].1 c).1 = 0
        · obtain ⟨R, k, hk1, hk2⟩ := ih (i + 1) _ (out ++ [((readF d B[i].1 c).1, 0)]) (by omega) hput (by
            rw [List.map_append, List.nodup_append]
            refine ⟨hn, by simp, fun a ha b hb e => ?_⟩
            simp at hb
            subst hb; subst e
            exact (ho _).1 ha h0) (fun u => by
            rw [e0', List.map_append, List.mem_append, ho]
            by_cases hu : u = (readF d B[i].1 c).1
            · subst hu; simp; omega
            · simp [hu]) (by simp; omega)
          refine ⟨R, k + 1, ⟨fun _ => ⟨_, hat, _, hrd, fun h => by rw [hr] at h; simp at h, fun _ => ⟨_, ⟨by omega, rfl⟩, fun _ => ⟨by simp; omega, hin, i64_of (by omega) (by omega), hk1⟩, fun h => ?_⟩⟩, fun h => absurd (by omega) (df h)⟩, hk2⟩
          rw [hg, h0] at h; simp [sat] at h
        · obtain ⟨R, k, hk1, hk2⟩ := ih (i + 1) _ out (by omega) hput hn (fun u => by
            rw [e0', ho]
            by_cases hu : u = (readF d B[i].1 c).1
            · subst hu; simp [h0]
            · simp [hu]) (by omega)
          refine ⟨R, k + 1, ⟨fun _ => ⟨_, hat, _, hrd, fun h => by rw [hr] at h; simp at h, fun _ => ⟨_, ⟨by omega, rfl⟩, fun h => ?_, fun _ => ⟨hin, i64_of (by omega) (by omega), hk1⟩⟩⟩, fun h => absurd (by omega) (df h)⟩, hk2⟩
          exfalso
          rw [hg] at h
          have := eq_of_beq h
          unfold sat at this
          omega
  obtain ⟨R, k, h1, h2⟩ := key B.length 0 [] [] (by omega) ⟨List.nodup_nil, fun k v => by simp [fB]⟩ (by simp) (by simp [fB]) (by simp)
  exact ⟨R, ⟨k, h1⟩, h2⟩
end
theorem on_both {d : List SNode} {s : List SItem} (h : Sm d s) {c : Int} (hc : InR .u8 c) : ∃ B R, heads_Heads d s B ∧ Can (fun t => (hds d s).count t) B ∧ next_On d s c R ∧ ref15_On d s c R ∧ Can (fB d c B) R := by
  obtain ⟨B, b1, b2, b3⟩ := heads_both h
  have hB := h.hok b3
  have hl : d.length ≤ 1000 := by have := h.len; omega
  obtain ⟨R, ⟨k, h1⟩, h2⟩ := next_On_l h.rt.toROk hl h.txt hc hB
  obtain ⟨R', ⟨k', h1'⟩, h2'⟩ := ref15_On_l h.rt.toROk hl h.txt hc hB
  have e := h2'.uniq h2
  subst e
  exact ⟨B, R', b1, b3, ⟨B, b1, k, h1⟩, ⟨B, b2, k', h1'⟩, h2⟩
end Go.Proofs.YtdidjelkkanenaaGreatDoor.V
namespace Go.Proofs.YtdidjelkkanenaaGreatDoor.V
open Go
set_option linter.unusedVariables false
def movN (c : Int) (n : SNode) : SNode := (n.1, if 4 ≤ n.1 then n.2.1 + c else n.2.1, if n.1 = 4 ∨ n.1 = 5 then n.2.2.1 + c else n.2.2.1, n.2.2.2.1, n.2.2.2.2.1, n.2.2.2.2.2.1, n.2.2.2.2.2.2)
def movL (c : Int) (l : List SNode) : List SNode := l.map (movN c)
theorem movL_len (c : Int) (l : List SNode) : (movL c l).length = l.length := List.length_map ..
theorem moved_in {l : List SNode} {c : Int} (hl : l.length ≤ 1000) (hr : ∀ n ∈ l, InR .i64 (n.2.1 + c) ∧ InR .i64 (n.2.2.1 + c)) : ref04_moved l c (movL c l) := by
  refine upto (P := fun k (o : List SNode) v => ref04_moved.l1 l c _ k o v) l.length (fun i o => o = movL c (l.take i)) ?_ ?_ [] (by simp [movL])
  · rintro i o hi rfl
    have hat : at? l (i : Int) = some l[i] := by rw [at_nat]; simp [hi]
    obtain ⟨r1, r2⟩ := hr _ (List.getElem_mem hi)
    have e : movL c (l.take (i + 1)) = movL c (l.take i) ++ [movN c l[i]] := by
      unfold movL
      rw [List.take_succ_eq_append_getElem hi, List.map_append]; rfl
    have hll : (movL c (l.take i)).length = i := by rw [movL_len]; simp; omega
    refine .inr ⟨_, rfl, fun k hk => ⟨fun _ => ⟨l[i], hat, ?_⟩, fun h => absurd (by omega) (df h)⟩⟩
    rw [e] at hk
    have last : ∀ w : SNode, w = movN c l[i] → ref04_moved.j2 (ref04_moved.l1 l c (ref04_moved.j1 (movL c l)) k) (movL c (l.take i)) (i : Int) w := by
      rintro w rfl
      exact ⟨by rw [hll]; simp; omega, i64_of (by omega) (by omega), hk⟩
    generalize l[i] = n at *
    obtain ⟨k0, a, b, lo, hi2, cl, tx⟩ := n
    simp only at r1 r2
    refine ⟨fun h4 => ⟨r1, fun h5 => ⟨r2, last _ ?_⟩, fun h5 => last _ ?_⟩, fun h4 => ⟨fun h5 => ?_, fun h5 => last _ ?_⟩⟩
    · have := dt h4
      simp only at this
      simp only [Bool.or_eq_true, beq_iff_eq] at h5
      simp only [movN, if_pos this, if_pos h5]
    · have := dt h4
      simp only at this
      simp only [Bool.or_eq_false_iff, beq_eq_false_iff_ne] at h5
      have h5' : ¬ (k0 = 4 ∨ k0 = 5) := by omega
      simp only [movN, if_pos this, if_neg h5']
    · exfalso
      have := df h4
      simp only at this
      simp only [Bool.or_eq_true, beq_iff_eq] at h5
      omega
    · have := df h4
      simp only at this
      have h5' : ¬ (k0 = 4 ∨ k0 = 5) := by omega
      simp only [movN, if_neg this, if_neg h5']
  · rintro o rfl k
    refine ⟨fun h => absurd (dt h) (by omega), fun _ => ?_⟩
    show movL c l = movL c (l.take l.length)
    rw [List.take_length]
theorem movN_zero (n : SNode) : movN 0 n = n := by
  obtain ⟨k, a, b, r⟩ := n
  simp [movN]
theorem movL_zero (l : List SNode) : movL 0 l = l := by
  unfold movL
  rw [show movN 0 = id from funext movN_zero, List.map_id]
def pairD (k : Int) (a b : List SNode) : List SNode := (a ++ movL (a.length : Int) b) ++ [(k, (a.length : Int) - 1, ((a.length : Int) + (b.length : Int)) - 1, 0, 0, (0#256), ([] : Str))]
def wrapD (k : Int) (a : List SNode) : List SNode := a ++ [(k, (a.length : Int) - 1, 0, 0, 0, (0#256), ([] : Str))]
structure Sma (d : List SNode) : Prop where
  a : ∀ n ∈ d, 0 ≤ n.2.1 ∧ n.2.1 ≤ (d.length : Int)
  b : ∀ n ∈ d, 0 ≤ n.2.2.1 ∧ n.2.2.1 ≤ (d.length : Int)
theorem Tr.parts {l : List SNode} {f i : Int} (h : Tr l f i) {n : SNode} (hn : at? l i = some n) : (0 ≤ n.2.1 ∧ n.2.1 ≤ i) ∧ (0 ≤ n.2.2.1 ∧ n.2.2.1 ≤ i) := by
  have hb := at_bound hn
  cases h with
  | leaf he hk hx h0 => rw [hn] at he; cases he; omega
  | one he hk ha hb hr h => rw [hn] at he; cases he; have := h.le; omega
  | two he hk ha hb h1 h2 => rw [hn] at he; cases he; have := h1.le; have := h2.le; omega
theorem mem_at {α : Type} {l : List α} {x : α} (h : x ∈ l) : ∃ i : Int, at? l i = some x := by
  obtain ⟨i, hi, e⟩ := List.mem_iff_getElem.1 h
  exact ⟨(i : Int), by rw [at_nat]; simp [hi, e]⟩
theorem Tr.sma {d : List SNode} (h : Tr d 0 ((d.length : Int) - 1)) : Sma d := by
  constructor
  all_goals
    intro n hn
    obtain ⟨i, hi⟩ := mem_at hn
    obtain ⟨g, hg⟩ := h.at hi
    have := hg.parts hi
    have := at_bound hi
    omega
theorem moved_ok {d : List SNode} (h : Tr d 0 ((d.length : Int) - 1)) (hl : d.length ≤ 1000) {c : Int} (h0 : 0 ≤ c) (h1 : c ≤ 1000) : ref04_moved d c (movL c d) :=
  moved_in hl fun n hn => by
    have := h.sma.a n hn
    have := h.sma.b n hn
    exact ⟨i64_of (by omega) (by omega), i64_of (by omega) (by omega)⟩
theorem Pair_in {k : Int} {a b : List SNode} (ha : Tr a 0 ((a.length : Int) - 1)) (hb : Tr b 0 ((b.length : Int) - 1)) (la : a.length ≤ 1000) (lb : b.length ≤ 1000) : ref04_Pair k a b (pairD k a b) := by
  refine ⟨_, moved_ok ha la (Int.le_refl 0) (by omega), _, moved_ok hb lb (c := (a.length : Int)) (by omega) (by omega), by rw [movL_len, movL_len]; omega, i64_of (by omega) (by omega), i64_of (by omega) (by omega), i64_of (by omega) (by omega), by rw [List.length_append, movL_len, movL_len]; simp; omega, ?_⟩
  rw [movL_zero]; rfl
theorem Wrap_in {k : Int} {a : List SNode} (ha : Tr a 0 ((a.length : Int) - 1)) (la : a.length ≤ 1000) : ref04_Wrap k 0 0 a (wrapD k a) := by
  refine ⟨_, moved_ok ha la (Int.le_refl 0) (by omega), i64_of (by omega) (by omega), by rw [movL_len]; simp; omega, ?_⟩
  rw [movL_zero]; rfl
structure Emb (l l' : List SNode) (c : Int) : Prop where
  nn : 0 ≤ c
  at' : ∀ i n, at? l i = some n → at? l' (i + c) = some (movN c n)
theorem Tr.emb {l l' : List SNode} {c : Int} (h : Emb l l' c) {f i : Int} (t : Tr l f i) : Tr l' (f + c) (i + c) := by
  induction t with
  | leaf he hk hx h0 =>
    rename_i i e
    have e1 : movN c e = e := by
      obtain ⟨k, a, b, r⟩ := e
      simp only at hk
      simp only [movN, if_neg (show ¬ 4 ≤ k by omega), if_neg (show ¬ (k = 4 ∨ k = 5) by omega)]
    exact .leaf (e1 ▸ h.at' _ _ he) hk hx h0
  | one he hk ha hb hr t ih =>
    rename_i f i e
    refine .one (h.at' _ _ he) hk ?_ ?_ hr (by have e : i - 1 + c = i + c - 1 := by omega
                                               rw [← e]; exact ih)
    · simp only [movN]; rw [if_pos (by omega)]; omega
    · simp only [movN]; rw [if_neg (by omega)]; exact hb
  | two he hk ha hb t1 t2 i1 i2 =>
    rename_i f p i e
    refine .two (p := p + c) (h.at' _ _ he) hk ?_ ?_ (by have e : i - 1 + c = i + c - 1 := by omega
                                                         rw [← e]; exact i1) (by have e : p - 1 + c = p + c - 1 := by omega
                                                                                 rw [← e]; exact i2)
    · simp only [movN]; rw [if_pos (by omega)]; omega
    · simp only [movN]; rw [if_pos (by omega)]; omega
theorem Emb.get {l l' : List SNode} {c : Int} (h : Emb l l' c) {i : Int} {n : SNode} (hn : at? l i = some n) : ∃ m, at? l' (i + c) = some m ∧ m.1 = n.1 ∧ (4 ≤ n.1 → m.2.1 = n.2.1 + c) ∧ (n.1 = 4 ∨ n.1 = 5 → m.2.2.1 = n.2.2.1 + c) ∧ m.2.2.2.1 = n.2.2.2.1 ∧ m.2.2.2.2.1 = n.2.2.2.2.1 :=
  ⟨movN c n, h.at' _ _ hn, rfl, fun h => if_pos h, fun h => if_pos h, rfl, rfl⟩
theorem nz_emb {l l' : List SNode} {c : Int} (h : Emb l l' c) (hl : NOk l) (hl' : NOk l') : ∀ (k : Nat) (i : Int) (n : SNode), i < (k : Int) → at? l i = some n → nz l' (i + c) = nz l i
  | 0, i, n, hi, hn => by have := at_bound hn; omega
  | k + 1, i, n, hi, hn => by
    have ih := nz_emb h hl hl' k
    obtain ⟨m, hm, f1, f2, f3, f4, f5⟩ := h.get hn
    rw [nz_atN hl hn, nz_atN hl' hm, f1, f4]
    by_cases h1 : n.1 = 1
    · rw [if_pos h1, if_pos h1]
    · rw [if_neg h1, if_neg h1]
      by_cases h4 : n.1 = 4
      · obtain ⟨⟨a, b⟩, c', e⟩ := hl.two _ n hn (.inl h4)
        obtain ⟨m1, hm1⟩ := at_lt hn a b
        obtain ⟨m2, hm2⟩ := at_lt hn c' e
        rw [if_pos h4, if_pos h4, f2 (by omega), f3 (.inl h4), ih _ m1 (by omega) hm1, ih _ m2 (by omega) hm2]
      · rw [if_neg h4, if_neg h4]
        by_cases h5 : n.1 = 5
        · obtain ⟨⟨a, b⟩, c', e⟩ := hl.two _ n hn (.inr h5)
          obtain ⟨m1, hm1⟩ := at_lt hn a b
          obtain ⟨m2, hm2⟩ := at_lt hn c' e
          rw [if_pos h5, if_pos h5, f2 (by omega), f3 (.inr h5), ih _ m1 (by omega) hm1, ih _ m2 (by omega) hm2]
        · rw [if_neg h5, if_neg h5]
          by_cases h6 : n.1 = 6
          · rw [if_pos h6, if_pos h6]
          · rw [if_neg h6, if_neg h6]
            by_cases h7 : n.1 = 7
            · obtain ⟨a, b⟩ := hl.one _ n hn (.inr (.inl h7))
              obtain ⟨m1, hm1⟩ := at_lt hn a b
              rw [if_pos h7, if_pos h7, f2 (by omega), ih _ m1 (by omega) hm1]
            · rw [if_neg h7, if_neg h7]
theorem at_left {α : Type} {a b : List α} {i : Int} {x : α} (h : at? a i = some x) : at? (a ++ b) i = some x := by
  obtain ⟨k, rfl, hk⟩ := at_nn h
  rw [at_nat, List.getElem?_append_left (List.getElem?_eq_some_iff.1 hk).1]; exact hk
theorem at_right {α : Type} {a b : List α} {i : Int} {x : α} (h : at? b i = some x) : at? (a ++ b) (i + (a.length : Int)) = some x := by
  obtain ⟨k, rfl, hk⟩ := at_nn h
  have e : (k : Int) + (a.length : Int) = ((k + a.length : Nat) : Int) := by omega
  rw [e, at_nat, List.getElem?_append_right (by omega), Nat.add_sub_cancel]; exact hk
theorem at_app {α : Type} {a b : List α} {i : Int} {x : α} (h : at? (a ++ b) i = some x) : at? a i = some x ∨ at? b (i - (a.length : Int)) = some x := by
  obtain ⟨k, rfl, hk⟩ := at_nn h
  rcases Nat.lt_or_ge k a.length with hlt | hge
  · rw [List.getElem?_append_left hlt] at hk
    exact .inl (by rw [at_nat]; exact hk)
  · rw [List.getElem?_append_right hge] at hk
    have e : (k : Int) - (a.length : Int) = ((k - a.length : Nat) : Int) := by omega
    exact .inr (by rw [e, at_nat]; exact hk)
theorem at_one {α : Type} {x y : α} {i : Int} (h : at? [x] i = some y) : i = 0 ∧ y = x := by
  have hb := at_bound h
  simp at hb
  obtain rfl : i = 0 := by omega
  cases h
  exact ⟨rfl, rfl⟩
theorem at_movL {c : Int} {l : List SNode} {i : Int} {n : SNode} (h : at? l i = some n) : at? (movL c l) i = some (movN c n) := by
  obtain ⟨k, rfl, hk⟩ := at_nn h
  rw [at_nat]
  unfold movL
  rw [List.getElem?_map, hk]; rfl
theorem at_movL_inv {c : Int} {l : List SNode} {i : Int} {n : SNode} (h : at? (movL c l) i = some n) : ∃ m, at? l i = some m ∧ n = movN c m := by
  obtain ⟨k, rfl, hk⟩ := at_nn h
  unfold movL at hk
  rw [List.getElem?_map] at hk
  obtain ⟨m, h1, h2⟩ := Option.map_eq_some_iff.1 hk
  exact ⟨m, by rw [at_nat]; exact h1, h2.symm⟩
theorem emb_left {a : List SNode} (r : List SNode) : Emb a (a ++ r) 0 := ⟨Int.le_refl _, fun i n h => by rw [movN_zero, Int.add_zero]; exact at_left h⟩
theorem emb_mid {a b r : List SNode} : Emb b ((a ++ movL (a.length : Int) b) ++ r) (a.length : Int) := ⟨by omega, fun i n h => at_left (at_right (at_movL h))⟩
theorem pair_len (k : Int) (a b : List SNode) : (pairD k a b).length = a.length + b.length + 1 := by simp [pairD, movL_len]; omega
theorem wrap_len (k : Int) (a : List SNode) : (wrapD k a).length = a.length + 1 := by simp [wrapD]
theorem pair_root (k : Int) (a b : List SNode) : at? (pairD k a b) ((a.length : Int) + (b.length : Int)) = some (k, (a.length : Int) - 1, ((a.length : Int) + (b.length : Int)) - 1, 0, 0, (0#256), ([] : Str)) := by
  have := at_right (a := a ++ movL (a.length : Int) b) (b := [(k, (a.length : Int) - 1, ((a.length : Int) + (b.length : Int)) - 1, 0, 0, (0#256), ([] : Str))]) (i := 0) rfl
  rw [List.length_append, movL_len] at this
  have e : (0 : Int) + ((a.length + b.length : Nat) : Int) = (a.length : Int) + (b.length : Int) := by omega
  rw [e] at this
  exact this
theorem wrap_root (k : Int) (a : List SNode) : at? (wrapD k a) (a.length : Int) = some (k, (a.length : Int) - 1, 0, 0, 0, (0#256), ([] : Str)) := by
  have := at_right (a := a) (b := [(k, (a.length : Int) - 1, 0, 0, 0, (0#256), ([] : Str))]) (i := 0) rfl
  rw [Int.zero_add] at this
  exact this
theorem pair_rt {k : Int} {a b : List SNode} (ha : Rt a) (hb : Rt b) (hk : k = 4 ∨ k = 5) : Rt (pairD k a b) := by
  have ea : Emb a (pairD k a b) 0 := by unfold pairD; rw [List.append_assoc]; exact emb_left _
  have eb : Emb b (pairD k a b) (a.length : Int) := emb_mid
  have ta := ha.tr.emb ea
  have tb := hb.tr.emb eb
  have tr : Tr (pairD k a b) 0 (((pairD k a b).length : Int) - 1) := by
    have e : (((pairD k a b).length : Int) - 1) = (a.length : Int) + (b.length : Int) := by rw [pair_len]; omega
    rw [e]
    refine .two (p := (a.length : Int)) (pair_root k a b) hk rfl rfl ?_ ?_
    · have e1 : (b.length : Int) - 1 + (a.length : Int) = (a.length : Int) + (b.length : Int) - 1 := by omega
      rw [e1, Int.zero_add] at tb; exact tb
    · rw [Int.add_zero, Int.add_zero] at ta; exact ta
  have nk := tr.nok
  refine ⟨⟨nk.two, nk.one, nk.rep, nk.kind, nk.ntx, fun i n hn h67 => ?_⟩, tr⟩
  unfold pairD at hn
  rcases at_app hn with hn | hn
  · rcases at_app hn with hn | hn
    · obtain ⟨p, q⟩ := ha.one _ n hn (by omega)
      obtain ⟨m, hm⟩ := at_lt hn p q
      have := nz_emb ea ha.nok nk a.length _ m (by have := at_bound hm; omega) hm
      rw [Int.add_zero] at this
      rw [this]
      exact ha.nn _ n hn h67
    · obtain ⟨m0, hm0, rfl⟩ := at_movL_inv hn
      have hk0 : m0.1 = 6 ∨ m0.1 = 7 := h67
      obtain ⟨p, q⟩ := hb.one _ m0 hm0 (by omega)
      obtain ⟨m, hm⟩ := at_lt hm0 p q
      have := nz_emb eb hb.nok nk b.length _ m (by have := at_bound hm; omega) hm
      simp only [movN]
      rw [if_pos (by omega), this]
      exact hb.nn _ m0 hm0 hk0
  · obtain ⟨_, rfl⟩ := at_one hn
    simp only at h67; omega
theorem wrap_rt {k : Int} {a : List SNode} (ha : Rt a) (hk : k = 6 ∨ k = 8 ∨ k = 9) (hz : k = 6 → nz a ((a.length : Int) - 1) = false) : Rt (wrapD k a) := by
  have ea : Emb a (wrapD k a) 0 := emb_left _
  have ta := ha.tr.emb ea
  have tr : Tr (wrapD k a) 0 (((wrapD k a).length : Int) - 1) := by
    have e : (((wrapD k a).length : Int) - 1) = (a.length : Int) := by rw [wrap_len]; omega
    rw [e]
    refine .one (wrap_root k a) (by simp only; omega) rfl rfl (fun h => by simp only at h; omega) ?_
    rw [Int.add_zero, Int.add_zero] at ta; exact ta
  have nk := tr.nok
  have hr := ha.tr.le
  refine ⟨⟨nk.two, nk.one, nk.rep, nk.kind, nk.ntx, fun i n hn h67 => ?_⟩, tr⟩
  unfold wrapD at hn
  have go : ∀ (A : Int) m, at? a A = some m → nz a A = false → nz (wrapD k a) A = false := fun A m hm hz => by
    have := nz_emb ea ha.nok nk a.length _ m (by have := at_bound hm; omega) hm
    rw [Int.add_zero] at this
    rw [this]; exact hz
  rcases at_app hn with hn | hn
  · obtain ⟨p, q⟩ := ha.one _ n hn (by omega)
    obtain ⟨m, hm⟩ := at_lt hn p q
    exact go _ m hm (ha.nn _ n hn h67)
  · obtain ⟨_, rfl⟩ := at_one hn
    simp only at h67 ⊢
    obtain ⟨m, hm, _⟩ := at_in (xs := a) (i := (a.length : Int) - 1) hr.2 (by omega)
    exact go _ m hm (hz (by omega))
theorem leaf_rt {n : SNode} (hk : n.1 = 1 ∨ n.1 = 2) (h0 : n.2.1 = 0 ∧ n.2.2.1 = 0) : Rt [n] := by
  have tr : Tr [n] 0 ((([n] : List SNode).length : Int) - 1) := .leaf (e := n) rfl (by omega) (fun h => by omega) h0
  have nk := tr.nok
  refine ⟨⟨nk.two, nk.one, nk.rep, nk.kind, nk.ntx, fun i m hm h67 => ?_⟩, tr⟩
  obtain ⟨_, rfl⟩ := at_one hm
  omega
end Go.Proofs.YtdidjelkkanenaaGreatDoor.V
namespace Go.Proofs.YtdidjelkkanenaaGreatDoor.V
open Go
set_option linter.unusedVariables false
theorem next_Ends_l {B : List SBranch} {f : List SItem → Nat} (hB : Can f B) (hl : B.length ≤ 1001) : ∃ k, next_Ends.l1 B (sat (f [])) (next_Ends.j1 (sat (f []))) k 0 := by
  refine upto (P := fun k (_ : Unit) v => next_Ends.l1 B (sat (f [])) _ k v) B.length (fun i _ => ∀ b ∈ B.take i, b.1 ≠ []) ?_ ?_ () (by simp)
  · intro i _ hi hn
    have hat : at? B (i : Int) = some B[i] := by rw [at_nat]; simp [hi]
    by_cases h0 : B[i].1 = []
    · refine .inl fun k => ⟨fun _ => ⟨_, hat, fun _ => ?_, fun h => by rw [h0] at h; simp at h⟩, fun h => absurd (by omega) (df h)⟩
      have := (hB.many (List.getElem_mem hi)).1
      rw [h0] at this; exact this.symm
    · refine .inr ⟨(), fun b hb => ?_, fun k hk => ⟨fun _ => ⟨_, hat, fun h => absurd (by simpa using h) h0, fun _ => ⟨i64_of (by omega) (by omega), hk⟩⟩, fun h => absurd (by omega) (df h)⟩⟩
      rw [List.take_succ_eq_append_getElem hi] at hb
      rcases List.mem_append.1 hb with hb | hb
      · exact hn b hb
      · rw [List.mem_singleton.1 hb]; exact h0
  · intro _ hn k
    refine ⟨fun h => absurd (dt h) (by omega), fun _ => ?_⟩
    show sat (f []) = 0
    rw [List.take_length] at hn
    have : f [] = 0 := by
      rcases Nat.eq_zero_or_pos (f []) with h | h
      · exact h
      · obtain ⟨b, hb, e⟩ := List.mem_map.1 ((hB.keys []).2 (by omega))
        exact absurd e (hn b hb)
    rw [this]; rfl
theorem ref15_Ends_l {B : List SBranch} {f : List SItem → Nat} (hB : Can f B) (hl : B.length ≤ 1001) : ∃ k, ref15_Ends.l1 B (sat (f [])) (ref15_Ends.j1 (sat (f []))) k 0 := by
  refine upto (P := fun k (_ : Unit) v => ref15_Ends.l1 B (sat (f [])) _ k v) B.length (fun i _ => ∀ b ∈ B.take i, b.1 ≠ []) ?_ ?_ () (by simp)
  · intro i _ hi hn
    have hat : at? B (i : Int) = some B[i] := by rw [at_nat]; simp [hi]
    by_cases h0 : B[i].1 = []
    · refine .inl fun k => ⟨fun _ => ⟨_, hat, fun _ => ⟨_, hat, ?_⟩, fun h => by rw [h0] at h; simp at h⟩, fun h => absurd (by omega) (df h)⟩
      have := (hB.many (List.getElem_mem hi)).1
      rw [h0] at this; exact this.symm
    · refine .inr ⟨(), fun b hb => ?_, fun k hk => ⟨fun _ => ⟨_, hat, fun h => absurd (by simpa using h) h0, fun _ => ⟨i64_of (by omega) (by omega), hk⟩⟩, fun h => absurd (by omega) (df h)⟩⟩
      rw [List.take_succ_eq_append_getElem hi] at hb
      rcases List.mem_append.1 hb with hb | hb
      · exact hn b hb
      · rw [List.mem_singleton.1 hb]; exact h0
  · intro _ hn k
    refine ⟨fun h => absurd (dt h) (by omega), fun _ => ?_⟩
    show sat (f []) = 0
    rw [List.take_length] at hn
    have : f [] = 0 := by
      rcases Nat.eq_zero_or_pos (f []) with h | h
      · exact h
      · obtain ⟨b, hb, e⟩ := List.mem_map.1 ((hB.keys []).2 (by omega))
        exact absurd e (hn b hb)
    rw [this]; rfl
theorem ends_both {d : List SNode} {s : List SItem} (h : Sm d s) : next_Ends d s (sat ((hds d s).count [])) ∧ ref15_Ends d s (sat ((hds d s).count [])) := by
  obtain ⟨B, b1, b2, b3⟩ := heads_both h
  have hl := heads_few h b3
  exact ⟨⟨B, b1, next_Ends_l b3 hl⟩, ⟨B, b2, ref15_Ends_l b3 hl⟩⟩
def sing : List Cl := (List.range 256).map fun (c : Nat) => Cl.row ((c : Int) % 256) ((c : Int) % 256)
def clsF (d : List SNode) (t : List SItem) : List Cl :=
  match t with
  | [] => []
  | x :: _ => match at? d x.2.1 with
    | none => []
    | some n => if x.1 = 3 then [Cl.row ((byte? n.2.2.2.2.2.2 x.2.2.1).getD 0) ((byte? n.2.2.2.2.2.2 x.2.2.1).getD 0)] else if n.1 = 2 then [n.2.2.2.2.2.1] else sing
def clsB (d : List SNode) (B : List SBranch) : List Cl := B.flatMap fun b => clsF d b.1
theorem sing_len : sing.length = 256 := by simp [sing]
theorem clsF_len (d : List SNode) (t : List SItem) : (clsF d t).length ≤ 256 := by
  unfold clsF
  cases t with
  | nil => simp
  | cons x t =>
    simp only
    cases at? d x.2.1 with
    | none => simp
    | some n =>
      simp only
      split
      · simp
      · split
        · simp
        · rw [sing_len]; exact Nat.le_refl _
theorem clsB_len (d : List SNode) : ∀ B : List SBranch, (clsB d B).length ≤ 256 * B.length
  | [] => by simp [clsB]
  | b :: B => by
    have h1 := clsF_len d b.1
    have h2 := clsB_len d B
    unfold clsB at *
    simp only [List.flatMap_cons, List.length_append, List.length_cons]
    omega
theorem clsB_snoc (d : List SNode) (B : List SBranch) (b : SBranch) : clsB d (B ++ [b]) = clsB d B ++ clsF d b.1 := by simp [clsB]
theorem next_singles_in : next_singles sing := by
  refine upto (P := fun k (o : List Cl) v => next_singles.l1 (next_singles.j1 sing) k o v) 256 (fun i o => o = sing.take i) ?_ ?_ [] (by simp)
  · rintro i o hi rfl
    have e : sing.take (i + 1) = sing.take i ++ [Cl.row ((i : Int) % 256) ((i : Int) % 256)] := by
      rw [List.take_succ_eq_append_getElem (by rw [sing_len]; exact hi)]; simp [sing]
    refine .inr ⟨_, rfl, fun k hk => ⟨fun _ => ⟨_, class_Of_in, by rw [List.length_take]; simp; omega, i64_of (by omega) (by omega), ?_⟩, fun h => absurd (by omega) (df h)⟩⟩
    rw [e] at hk; exact hk
  · rintro o rfl k
    refine ⟨fun h => absurd (dt h) (by omega), fun _ => ?_⟩
    show sing = sing.take 256
    rw [List.take_of_length_le (by rw [sing_len]; exact Nat.le_refl _)]
theorem next_Classes_l {d : List SNode} {B : List SBranch} (hB : HOk d B) : ∃ k, next_Classes.l1 d B (next_Classes.j1 (clsB d B)) k [] 0 := by
  have hfew := hB.few
  refine upto (P := fun k (o : List Cl) v => next_Classes.l1 d B (next_Classes.j1 (clsB d B)) k o v) B.length (fun i o => o = clsB d (B.take i)) ?_ ?_ [] (by simp [clsB])
  · rintro i o hi rfl
    have hat : at? B (i : Int) = some B[i] := by rw [at_nat]; simp [hi]
    obtain ⟨b1, b2, b3⟩ := hB.ok _ (List.getElem_mem hi)
    have hlen := clsB_len d (B.take i)
    rw [List.length_take] at hlen
    have e : clsB d (B.take (i + 1)) = clsB d (B.take i) ++ clsF d B[i].1 := by rw [List.take_succ_eq_append_getElem hi, clsB_snoc]
    refine .inr ⟨_, rfl, fun k hk => ⟨fun _ => ⟨_, hat, fun h0 => ?_, fun h0 => ?_⟩, fun h => absurd (by omega) (df h)⟩⟩
    · have h1 : B[i].1 = [] := by simpa using h0
      rw [e, h1] at hk
      simp only [clsF, List.append_nil] at hk
      exact ⟨i64_of (by omega) (by omega), hk⟩
    · rw [e] at hk
      generalize B[i].1 = t at *
      cases t with
      | nil => simp at h0
      | cons x rest =>
        obtain ⟨n, hn, hm, hkk⟩ := rdy_kind b3 b2
        simp only [clsF, hn] at hk
        refine ⟨x, rfl, n, hn, fun h3 => ?_, fun h3 => ⟨fun h2 => ?_, fun h2 => ?_⟩⟩
        · have h3' := eq_of_beq h3
          rw [if_pos h3'] at hk
          obtain ⟨_, _, h6, h7⟩ : n.1 = 3 ∧ x.2.2.2 = 0 ∧ 0 ≤ x.2.2.1 ∧ x.2.2.1 < (n.2.2.2.2.2.2.length : Int) := by
            rcases hkk with ⟨h, _⟩ | ⟨_, h⟩ | ⟨h, _⟩
            · omega
            · exact h
            · omega
          obtain ⟨b, hb2, _⟩ := byte_at h6 h7
          rw [hb2] at hk
          exact ⟨b, hb2, b, hb2, _, class_Of_in, by simp; omega, i64_of (by omega) (by omega), hk⟩
        · have h3' := ne_of_beq_false h3
          rw [if_neg h3', if_pos (eq_of_beq h2)] at hk
          exact ⟨by simp; omega, i64_of (by omega) (by omega), hk⟩
        · have h3' := ne_of_beq_false h3
          rw [if_neg h3', if_neg (ne_of_beq_false h2)] at hk
          exact ⟨_, next_singles_in, by rw [sing_len]; omega, i64_of (by omega) (by omega), hk⟩
  · rintro o rfl k
    refine ⟨fun h => absurd (dt h) (by omega), fun _ => ?_⟩
    show clsB d B = _
    rw [List.take_length]
theorem ref15_Classes_l {d : List SNode} {B : List SBranch} (hB : HOk d B) : ∃ k, ref15_Classes.l1 d B (ref15_Classes.j1 (clsB d B)) k [] 0 := by
  have hfew := hB.few
  refine upto (P := fun k (o : List Cl) v => ref15_Classes.l1 d B (ref15_Classes.j1 (clsB d B)) k o v) B.length (fun i o => o = clsB d (B.take i)) ?_ ?_ [] (by simp [clsB])
  · rintro i o hi rfl
    have hat : at? B (i : Int) = some B[i] := by rw [at_nat]; simp [hi]
    obtain ⟨b1, b2, b3⟩ := hB.ok _ (List.getElem_mem hi)
    have hlen := clsB_len d (B.take i)
    rw [List.length_take] at hlen
    have e : clsB d (B.take (i + 1)) = clsB d (B.take i) ++ clsF d B[i].1 := by rw [List.take_succ_eq_append_getElem hi, clsB_snoc]
    refine .inr ⟨_, rfl, fun k hk => ⟨fun _ => ⟨_, hat, fun h0 => ?_, fun h0 => ?_⟩, fun h => absurd (by omega) (df h)⟩⟩
    · have h1 : B[i].1 = [] := by simpa using h0
      rw [e, h1] at hk
      simp only [clsF, List.append_nil] at hk
      exact ⟨i64_of (by omega) (by omega), hk⟩
    · rw [e] at hk
      refine ⟨_, hat, ?_⟩
      generalize B[i].1 = t at *
      cases t with
      | nil => simp at h0
      | cons x rest =>
        obtain ⟨n, hn, hm, hkk⟩ := rdy_kind b3 b2
        simp only [clsF, hn] at hk
        refine ⟨x, rfl, n, hn, fun h3 => ?_, fun h3 => ⟨fun h2 => ?_, fun h2 => ?_⟩⟩
        · have h3' := eq_of_beq h3
          rw [if_pos h3'] at hk
          obtain ⟨_, _, h6, h7⟩ : n.1 = 3 ∧ x.2.2.2 = 0 ∧ 0 ≤ x.2.2.1 ∧ x.2.2.1 < (n.2.2.2.2.2.2.length : Int) := by
            rcases hkk with ⟨h, _⟩ | ⟨_, h⟩ | ⟨h, _⟩
            · omega
            · exact h
            · omega
          obtain ⟨b, hb2, hb3⟩ := byte_at h6 h7
          rw [hb2] at hk
          exact ⟨b, hb2, b, hb2, _, ref01_Row_in hb3 hb3, by simp; omega, i64_of (by omega) (by omega), hk⟩
        · have h3' := ne_of_beq_false h3
          simp only [Bool.and_eq_true, beq_iff_eq] at h2
          rw [if_neg h3', if_pos h2.2] at hk
          exact ⟨by simp; omega, i64_of (by omega) (by omega), hk⟩
        · have h3' := ne_of_beq_false h3
          have h2' : ¬ n.1 = 2 := by
            intro e2
            rcases hkk with ⟨h, _⟩ | ⟨h, _⟩ | ⟨h, h', _⟩
            · simp [h, e2] at h2
            · exact h3' h
            · omega
          rw [if_neg h3', if_neg h2'] at hk
          refine upto (P := fun k' (o : List Cl) v => ref15_Classes.l2 (ref15_Classes.j2 (ref15_Classes.l1 d B (ref15_Classes.j1 (clsB d B)) k) (i : Int)) k' o v) 256 (fun j o => o = clsB d (B.take i) ++ sing.take j) ?_ ?_ (clsB d (B.take i)) (by simp)
          · rintro j o hj rfl
            have e : sing.take (j + 1) = sing.take j ++ [Cl.row ((j : Int) % 256) ((j : Int) % 256)] := by
              rw [List.take_succ_eq_append_getElem (by rw [sing_len]; exact hj)]; simp [sing]
            have hu8 : InR .u8 ((j : Int) % 256) := inR_u8.2 ⟨by omega, by omega⟩
            refine .inr ⟨_, rfl, fun k' hk' => ⟨fun _ => ⟨_, ref01_Row_in hu8 hu8, by rw [List.length_append, List.length_take]; simp; omega, i64_of (by omega) (by omega), ?_⟩, fun h => absurd (by omega) (df h)⟩⟩
            rw [e, ← List.append_assoc] at hk'; exact hk'
          · rintro o rfl k'
            refine ⟨fun h => absurd (dt h) (by omega), fun _ => ⟨i64_of (by omega) (by omega), ?_⟩⟩
            rw [List.take_of_length_le (l := sing) (by rw [sing_len]; exact Nat.le_refl _)]
            exact hk
  · rintro o rfl k
    refine ⟨fun h => absurd (dt h) (by omega), fun _ => ?_⟩
    show clsB d B = _
    rw [List.take_length]
theorem classes_both {d : List SNode} {s : List SItem} (h : Sm d s) : ∃ B, Can (fun t => (hds d s).count t) B ∧ next_Classes d s (clsB d B) ∧ ref15_Classes d s (clsB d B) := by
  obtain ⟨B, b1, b2, b3⟩ := heads_both h
  have hB := h.hok b3
  exact ⟨B, b3, ⟨B, b1, next_Classes_l hB⟩, ⟨B, b2, ref15_Classes_l hB⟩⟩
theorem can_of {L : List (List SItem)} {B : List SBranch} (hs : B.Pairwise (fun a b => cmpS a.1 b.1 < 0)) (h1 : ∀ b ∈ B, b.1 ∈ L ∧ b.2 = sat (L.count b.1)) (h2 : ∀ t ∈ L, t ∈ B.map (·.1)) : Can (fun t => L.count t) B := by
  refine ⟨hs, fun t m => ⟨fun h => ?_, fun ⟨h3, h4⟩ => ?_⟩⟩
  · obtain ⟨h3, h4⟩ := h1 _ h
    exact ⟨by have := List.count_pos_iff.2 h3; simp only at this ⊢; omega, h4⟩
  · obtain ⟨b, hb, e⟩ := List.mem_map.1 (h2 t (List.count_pos_iff.1 (by omega)))
    obtain ⟨_, h6⟩ := h1 _ hb
    have : b = (t, m) := Prod.ext e (by rw [h6, h4, e])
    rw [← this]; exact hb
theorem can_fB {d : List SNode} {c : Int} {B R : List SBranch} (hs : R.Pairwise (fun a b => cmpS a.1 b.1 < 0)) (h1 : ∀ b ∈ R, fB d c B b.1 ≠ 0 ∧ b.2 = sat (fB d c B b.1)) (h2 : ∀ b ∈ B, (readF d b.1 c).2 = true → (readF d b.1 c).1 ∈ R.map (·.1)) : Can (fB d c B) R := by
  refine ⟨hs, fun t m => ⟨fun h => h1 _ h, fun ⟨h3, h4⟩ => ?_⟩⟩
  obtain ⟨b, hb, hr, e⟩ := fB_pos h3
  obtain ⟨r, hr1, hr2⟩ := List.mem_map.1 (h2 b hb hr)
  obtain ⟨_, h6⟩ := h1 _ hr1
  have : r = (t, m) := Prod.ext (hr2.trans e) (by rw [h6, h4, hr2.trans e])
  rw [← this]; exact hr1
theorem on_conc {d : List SNode} {s : List SItem} (h : Sm d s) {c : Int} (hc : InR .u8 c) {B R : List SBranch} (hB : Can (fun t => (hds d s).count t) B) (hR : Can (fB d c B) R) : next_On d s c R := by
  obtain ⟨B', R', _, b3, o1, _, o3⟩ := on_both h hc
  have e := b3.uniq hB
  subst e
  have e := o3.uniq hR
  subst e
  exact o1
theorem cls_conc {d : List SNode} {s : List SItem} (h : Sm d s) {B : List SBranch} (hB : Can (fun t => (hds d s).count t) B) : next_Classes d s (clsB d B) := by
  obtain ⟨B', b3, o1, _⟩ := classes_both h
  have e := b3.uniq hB
  subst e
  exact o1
def d5 : List SNode := [(2, 0, 0, 0, 0, Cl.row 5 6, ([] : Str))]
theorem d5_rt : Rt d5 := leaf_rt (.inr rfl) ⟨rfl, rfl⟩
theorem small_txt {d : List SNode} (h : ∀ n ∈ d, n.2.2.2.2.2.2 = []) : ∀ n ∈ d, n.2.2.2.2.2.2.length ≤ 140737488351232 := fun n hn => by rw [h n hn]; simp
theorem d5_sm {s : List SItem} (hf : formS d5 s = true) (hs : s.length ≤ 40) : Sm d5 s := ⟨d5_rt, by decide, small_txt (by intro n hn; rw [d5, List.mem_singleton] at hn; subst hn; rfl), hf, hs⟩
def d55 : List SNode := pairD 5 d5 d5
theorem d55_sm : Sm d55 [(1, 2, 0, 0)] := ⟨pair_rt d5_rt d5_rt (.inr rfl), by decide +kernel, small_txt (by decide +kernel), by decide +kernel, by decide⟩
def d8 : List SNode := wrapD 8 d5
theorem d8_sm : Sm d8 [(1, 1, 0, 0)] := ⟨wrap_rt d5_rt (.inr (.inl rfl)) (fun h => by omega), by decide +kernel, small_txt (by decide +kernel), by decide +kernel, by decide⟩
theorem awake15 : law15_awake true := by
  have hst : ∀ d : List SNode, d.length ≤ 100 → law15_start d [(1, (d.length : Int) - 1, 0, 0)] := fun d hd => ⟨i64_of (by omega) (by omega), rfl⟩
  have u8 : ∀ c : Int, 0 ≤ c ∧ c ≤ 255 → InR .u8 c := fun c h => inR_u8.2 h
  have o1 : next_On d55 [(1, 2, 0, 0)] 5 [([], 2)] := on_conc d55_sm (u8 5 (by decide)) (B := [([(1, 0, 0, 0)], 1), ([(1, 1, 0, 0)], 1)]) (can_of (by decide +kernel) (by decide +kernel) (by decide +kernel)) (can_fB (by decide +kernel) (by decide +kernel) (by decide +kernel))
  have o2 : next_On d8 [(1, 1, 0, 0)] 7 [([(1, 0, 0, 0), (5, 0, 7, 0)], 1)] := on_conc d8_sm (u8 7 (by decide)) (B := [([(1, 1, 0, 0)], 1)]) (can_of (by decide +kernel) (by decide +kernel) (by decide +kernel)) (can_fB (by decide +kernel) (by decide +kernel) (by decide +kernel))
  have rd : ∀ (s : List SItem) (c : Int) (r : List SItem × Bool), s.length ≤ 1000 → formS d5 s = true → rdy d5 s = true → 0 ≤ c ∧ c ≤ 255 → readF d5 s c = r → next_Read d5 s c r := fun s c r h1 h2 h3 h4 h5 => by
    rw [← h5]
    exact next_Read_in d5_rt.toROk (by decide) (d5_sm (s := []) rfl (by decide)).txt h1 h2 h3 (u8 c h4)
  have e1 := (ends_both (d5_sm (s := []) rfl (by decide))).1
  have e2 := (ends_both (d5_sm (s := [(1, 0, 0, 0)]) (by decide +kernel) (by decide))).1
  have k1 := cls_conc (d5_sm (s := [(1, 0, 0, 0)]) (by decide +kernel) (by decide)) (B := [([(1, 0, 0, 0)], 1)]) (can_of (by decide +kernel) (by decide +kernel) (by decide +kernel))
  have k2 := cls_conc d8_sm (B := [([(1, 1, 0, 0)], 1)]) (can_of (by decide +kernel) (by decide +kernel) (by decide +kernel))
  have z1 : sat ((hds d5 []).count []) = 1 := by decide +kernel
  have z2 : sat ((hds d5 [(1, 0, 0, 0)]).count []) = 0 := by decide +kernel
  rw [z1] at e1
  rw [z2] at e2
  have l1 : (clsB d5 [([(1, 0, 0, 0)], 1)]).length = 1 := by decide +kernel
  have l2 : (clsB d8 [([(1, 1, 0, 0)], 1)]).length = 256 := by decide +kernel
  refine ⟨Cl.row 5 6, ref01_Row_in (u8 5 (by decide)) (u8 6 (by decide)), d55, Pair_in d5_rt.tr d5_rt.tr (by decide) (by decide), d8, Wrap_in d5_rt.tr (by decide), _, hst d55 (by decide +kernel), _, o1, _, hst d8 (by decide +kernel), _, o2, _, hst d5 (by decide), _, rd _ 6 ([], true) (by decide) (by decide +kernel) (by decide +kernel) (by decide) (by decide +kernel), _, hst d5 (by decide), _, rd _ 7 ([], false) (by decide) (by decide +kernel) (by decide +kernel) (by decide) (by decide +kernel), _, rd [(1, 0, 0, 0), (5, 0, 0, 0)] 5 ([], false) (by decide) (by decide +kernel) (by decide +kernel) (by decide) (by decide +kernel), _, rfl, ([(1, 0, 0, 0), (5, 0, 7, 0)], 1), fun _ => rfl, (fun h => by simp at h), fun _ => ⟨([], 2), rfl, ([], 2), fun _ => rfl, ([(1, 0, 0, 0), (5, 0, 7, 0)], 1), fun _ => rfl, _, rfl, ([(1, 0, 0, 0), (5, 0, 7, 0)], 1), fun _ => rfl, (5, 0, 7, 0), fun _ => rfl, ([(1, 0, 0, 0), (5, 0, 7, 0)], 1), fun _ => rfl, (1, 0, 0, 0), fun _ => rfl, _, rfl, _, rfl, 1, fun _ => e1, _, fun _ => hst d5 (by decide), 0, fun _ => e2, _, fun _ => hst d5 (by decide), _, fun _ => k1, _, rfl, _, fun _ => hst d8 (by decide +kernel), _, fun _ => k2, ?_⟩⟩
  rw [l1, l2]
  decide
end Go.Proofs.YtdidjelkkanenaaGreatDoor.V
namespace Go.Proofs.YtdidjelkkanenaaGreatDoor.V
open Go
set_option linter.unusedVariables false
abbrev Txt (d : List SNode) : Prop := ∀ n ∈ d, n.2.2.2.2.2.2.length ≤ 140737488351232
theorem guard15 {d : List SNode} (ht : Txt d) : ∃ r6 r8 : Bool, ref04_Few d r6 ∧ (r6 = true → d.length ≤ 100) ∧ (r6 = true → ref08_Right d r8) ∧ (r6 = true → r8 = true → Rt d) := by
  obtain ⟨r6, h6, h6b⟩ := few_ex ht
  cases r6
  · exact ⟨false, false, h6, (fun h => by cases h), (fun h => by cases h), (fun h => by cases h)⟩
  · obtain ⟨r8, h8, h8b⟩ := right_ok (d := d) (by have := h6b rfl; omega) ht
    exact ⟨true, r8, h6, h6b, fun _ => h8, fun _ => h8b⟩
theorem fits15 {d : List SNode} {s : List SItem} : ref15_Fits d s ((decide ((d.length : Int) ≤ 24) && decide ((s.length : Int) ≤ 8)) && formS d s) := by
  refine ⟨_, ⟨_, rfl, formS d s, fun h => ?_, rfl⟩, rfl⟩
  simp only [Bool.and_eq_true, decide_eq_true_eq] at h
  exact ref13_Form_in (by omega)
theorem sm_of {d : List SNode} {s : List SItem} (ht : Txt d) (hr : Rt d) (hf : ((decide ((d.length : Int) ≤ 24) && decide ((s.length : Int) ≤ 8)) && formS d s) = true) : Sm d s ∧ s.length ≤ 8 := by
  simp only [Bool.and_eq_true, decide_eq_true_eq] at hf
  exact ⟨⟨hr, by omega, ht, hf.2, by omega⟩, by omega⟩
theorem ref02_Same_in {a b : List Cl} (ha : a.length < 9223372036854775807) : ref02_Same a b (decide (a = b)) := by
  refine ⟨fun h => ?_, fun h => ?_⟩
  · simp at h
    exact decide_eq_false fun e => by subst e; omega
  · have hl : a.length = b.length := by simp at h; omega
    refine upto (P := fun k (_ : Unit) v => ref02_Same.l1 a b (decide (a = b)) _ k v) a.length (fun i _ => ∀ j (hj : j < i) (h1 : j < a.length), a[j] = b[j]'(by omega)) ?_ ?_ () (by intro j hj; omega)
    · intro i s hi hs
      have hat : at? a (i : Int) = some a[i] := by rw [at_nat]; simp [hi]
      have hbt : at? b (i : Int) = some (b[i]'(by omega)) := by rw [at_nat]; simp [show i < b.length by omega]
      by_cases he : a[i] = b[i]'(by omega)
      · refine .inr ⟨(), fun j hj h1 => ?_, fun k h => ⟨fun _ => ⟨_, hat, _, hbt, fun h => by simp [he] at h, fun _ => ⟨i64_of (by omega) (by omega), h⟩⟩, fun h => absurd (by omega) (df h)⟩⟩
        by_cases hji : j = i
        · subst hji; exact he
        · exact hs j (by omega) h1
      · exact .inl fun k => ⟨fun _ => ⟨_, hat, _, hbt, fun _ => decide_eq_false fun e => he (by subst e; rfl), fun h => by simp at h; exact absurd h he⟩, fun h => absurd (by omega) (df h)⟩
    · intro s hs k
      refine ⟨fun h => absurd (dt h) (by omega), fun _ => ?_⟩
      show decide (a = b) = true
      exact decide_eq_true (List.ext_getElem hl fun j h1 h2 => hs j h1 h1)
end Go.Proofs.YtdidjelkkanenaaGreatDoor.V
namespace Go.Proofs.YtdidjelkkanenaaGreatDoor.V
open Go
set_option linter.unusedVariables false
theorem law15_NextTells_true {d : List SNode} {s : List SItem} {c : Int} (ht : Txt d) (hc : InR .u8 c) : law15_NextTells d s c true := by
  obtain ⟨r6, r8, h6, h6b, h8, h8b⟩ := guard15 ht
  refine ⟨true, awake15, r6, fun _ => h6, r8, fun h => h8 (by simpa using h), _, fun _ => fits15, fun _ => ⟨true, awake15, rfl⟩, fun hb => ?_⟩
  simp only [Bool.not_true, Bool.false_or, Bool.or_eq_false_iff, Bool.not_eq_false'] at hb
  obtain ⟨⟨g1, g2⟩, g3⟩ := hb
  have hR := h8b g1 g2
  obtain ⟨hs, hsl⟩ := sm_of ht hR g3
  have hd := hR.toROk
  have hl := hs.len
  obtain ⟨B, R, b1, b3, o1, o2, o3⟩ := on_both hs hc
  have hB := hs.hok b3
  have hRl : ∀ x ∈ R, x.1.length ≤ 1000 := fun x hx => by have := fB_read hB (o3.many hx).2.1; omega
  have hRn := onB_len o3
  have hfew := hB.few
  obtain ⟨e1, e2⟩ := ends_both hs
  obtain ⟨B', c3, c1, c2⟩ := classes_both hs
  have e := c3.uniq b3
  subst e
  have hcl := clsB_len d B'
  have hrd := ref14_Ready_in hs.form hs.ne
  refine ⟨R, o1, R, o2, _, ref14_Same_in hRl hRl (by omega), _, fun _ => e1, _, fun _ => e2, _, fun _ => c1, _, fun _ => c2, _, fun _ => ref02_Same_in (by omega), fun h => by simp at h, fun _ => ⟨_, hrd, fun _ => rfl, fun hr => ?_⟩⟩
  have hr' : rdy d s = true := by simpa using hr
  have hl2 := readF_len d s c
  exact ⟨_, next_Read_in hd (by omega) ht (by omega) hs.form hr' hc, _, ref15_Read_in hd (by omega) ht (by omega) hs.form hr' hc, _, ref13_Same_in (by omega) (by omega), by simp⟩
end Go.Proofs.YtdidjelkkanenaaGreatDoor.V
namespace Go.Proofs.YtdidjelkkanenaaGreatDoor.V
open Go Go.ChangeShapes Go.WideShapes Go.RowKit
set_option linter.unusedVariables false
structure Rd (P : Program) (t : TypeId) {α : Type} (E : En α) (G : α → Prop) : Prop where
  sz : P.cellsOf t = E.sz
  rd : ∀ {H : Type} (enc : TypeId × Value → H) (w : World) (fuel : Nat) (cs : List Value) (x : DataW H × List MemPlace),
    DataW.trod enc P w 0 (fun _ => true) true fuel t cs = some x → (∀ n ∈ x.1.weights P t, n ≤ reachBytes) → ∃ y, E.R w (fun b => b < w.heap.size) cs y ∧ G y
  vl : ∀ (w : World) (v : Value), Value.okWide P w .any 0 t v → (∃ y, E.R w (fun b => b < w.heap.size) v.cells.toList y) → v = E.val v.cells.toList
theorem Rd.int {P : Program} {t : TypeId} {k : IntKind} (ht : P.underlying t = some (.int k)) (hc : P.cellsOf t = 1) : Rd P t (En.int k) (InR k) := by
  refine ⟨hc, ?_, ?_⟩
  · intro H enc w fuel cs x h _
    obtain ⟨n, rfl, _, hw⟩ := DataW.trod_int ht h
    have : InR k n := by simpa [Lit.wf, InR] using hw
    exact ⟨n, ⟨rfl, this⟩, this⟩
  · intro w v hv _
    obtain ⟨n, rfl⟩ := okWide_int ht hv
    rfl
theorem Rd.str {P : Program} {t : TypeId} (ht : P.underlying t = some .string) (hc : P.cellsOf t = 1) : Rd P t En.str (fun y => y.length ≤ 140737488351232) := by
  refine ⟨hc, ?_, ?_⟩
  · intro H enc w fuel cs x h hwt
    obtain ⟨s, rfl, hx, hs⟩ := DataW.trod_string ht h
    have hl : s.data.toList.length ≤ 9223372036854775807 := by simpa [maxLen] using hs
    have h2 : s.data.toList.length ≤ 140737488351232 := hwt _ (by rw [hx]; simp [DataW.weights])
    exact ⟨s.data.toList, ⟨rfl, hl⟩, h2⟩
  · intro w v hv _
    simp only [Value.okWide, ht, Cell.okWide, Cell.ok] at hv
    cases v <;> simp at hv
    rfl
theorem weights_all {H : Type} {P : Program} {e : TypeId} : ∀ {l : List (DataW H)} {d : DataW H}, d ∈ l → ∀ n ∈ d.weights P e, n ∈ DataW.weightsAll P e l
  | [], _, h, _, _ => by cases h
  | d' :: l, d, h, n, hn => by
    simp only [DataW.weightsAll, List.mem_append]
    rcases List.mem_cons.1 h with rfl | h
    · exact .inl hn
    · exact .inr (weights_all h n hn)
theorem Rd.slice {P : Program} {t e : TypeId} {α : Type} {E : En α} {G : α → Prop} (ht : P.underlying t = some (.slice e)) (hc : P.cellsOf t = 1) (hby : Nat.blt 0 (P.bytesOf e) = true) (he : Rd P e E G) :
    Rd P t (En.slice E) (fun xs => xs.length ≤ 140737488351232 ∧ ∀ y ∈ xs, G y) := by
  refine ⟨hc, ?_, ?_⟩
  · intro H enc w fuel cs x h hwt
    rcases Deep.open_slice ht h with ⟨rfl, _⟩ | ⟨a, len, cap, m, n, D, Pl, rfl, hb, hl, hm, hmm, hxe, hx⟩
    · exact ⟨[], ⟨_, rfl, slV_nil E _ _⟩, Nat.zero_le _, by simp⟩
    · simp only [if_true] at hmm
      subst hmm
      have hall : ∀ i, i < len → ∃ p : α × List Value, w.cells? 0 (a.add (i * P.cellsOf e)) (P.cellsOf e) = some p.2 ∧ E.R w (fun b => b < w.heap.size) p.2 p.1 ∧ G p.1 := fun i hi => by
        obtain ⟨cs', h1, h2⟩ := hx i (by omega)
        obtain ⟨y, h3, h4⟩ := he.rd enc w n cs' _ h2 fun q hq => hwt q (by
          rw [hxe]
          simp only [DataW.weights, ht, List.mem_cons, List.mem_append]
          exact .inr (.inl (weights_all (List.mem_map.2 ⟨i, by simpa using hi, rfl⟩) q hq)))
        exact ⟨(y, cs'), h1, h3, h4⟩
      have hmax2 : len ≤ 140737488351232 := by
        have h1 := hwt ((len + (m - len)) * P.bytesOf e) (by rw [hxe]; simp [DataW.weights, ht])
        have h2 : 0 < P.bytesOf e := Nat.le_of_ble_eq_true hby
        have h3 : (len + (m - len)) * 1 ≤ (len + (m - len)) * P.bytesOf e := Nat.mul_le_mul_left _ h2
        have h4 : reachBytes = 140737488351232 := rfl
        omega
      have hmax : len ≤ lim := by have : maxLen ≤ lim := by decide
                                  omega
      by_cases h0 : len = 0
      · subst h0
        exact ⟨[], ⟨_, rfl, some a, m, rfl, Nat.zero_le _, (fun h => by cases h), Nat.zero_le _, fun h => absurd rfl h⟩, Nat.zero_le _, by simp⟩
      have hinh : Inhabited (α × List Value) := ⟨(hall 0 (by omega)).choose⟩
      obtain ⟨f, hf⟩ := Deep.choose_lt hall
      have hsz := E.pos
      rw [← he.sz] at hsz
      obtain ⟨hcell0, hblk⟩ : a.spot = none ∧ a.block < w.heap.size := by
        obtain ⟨_, hl2, hcl⟩ := World.cells?_some (hf 0 (by omega)).1
        have h2 := hcl 0 hsz
        rw [List.getElem?_eq_getElem (by omega)] at h2
        simp only [Nat.zero_mul, Addr.add, if_true, World.cell?] at h2
        cases hb2 : w.heap[a.block]? with
        | none => simp [hb2] at h2
        | some o =>
          refine ⟨?_, (Array.getElem?_eq_some_iff.1 hb2).1⟩
          cases o <;> simp [hb2] at h2
          exact h2.1
      refine ⟨(List.range len).map (fun i => (f i).1), ⟨_, rfl, some a, m, ?_, by simpa using hl, (fun h => by cases h), by simpa using hmax, fun _ => ⟨a.block, a.off, (List.range len).map (fun i => (f i).2), ?_, hblk, ⟨by simp, ?_⟩, ?_⟩⟩, by simpa using hmax2, ?_⟩
      · simp
      · cases a; simp at hcell0; subst hcell0; rfl
      · intro i c y hc1 hy1
        have hi : i < len := by have := (List.getElem?_eq_some_iff.1 hc1).1; simpa using this
        simp [hi] at hc1 hy1
        subst hc1; subst hy1
        exact (hf i hi).2.1
      · have hlens : ∀ c ∈ (List.range len).map (fun i => (f i).2), c.length = E.sz := by
          intro c hc
          simp only [List.mem_map, List.mem_range] at hc
          obtain ⟨i, hi, rfl⟩ := hc
          rw [(World.cells?_some (hf i hi).1).2.1, he.sz]
        intro j u hj
        have hjl : j < len * E.sz := by
          have := (List.getElem?_eq_some_iff.1 hj).1
          rw [flat_len hlens] at this; simpa using this
        have hp : 0 < E.sz := E.pos
        have hi : j / E.sz < len := Nat.div_lt_of_lt_mul (by rw [Nat.mul_comm]; exact hjl)
        have hk : j % E.sz < E.sz := Nat.mod_lt _ hp
        obtain ⟨_, hl2, hcl⟩ := World.cells?_some (hf _ hi).1
        have hcell := hcl (j % E.sz) (by rw [he.sz]; exact hk)
        rw [he.sz] at hl2
        have hg := flat_get hlens (i := j / E.sz) (cs := (f (j / E.sz)).2) (j := j % E.sz) (u := (f (j / E.sz)).2[j % E.sz]'(by omega)) (by simp [hi]) (by simp)
        rw [Nat.mul_comm, Nat.div_add_mod] at hg
        rw [hg] at hj
        rw [List.getElem?_eq_getElem (by omega), hj, Deep.add_add, he.sz, Nat.mul_comm, Nat.div_add_mod] at hcell
        rw [← hcell]
        cases a; simp at hcell0; subst hcell0; rw [add_lit]
      · intro y hy
        simp only [List.mem_map, List.mem_range] at hy
        obtain ⟨i, hi, rfl⟩ := hy
        exact (hf i hi).2.2
  · intro w v hv _
    simp only [Value.okWide, ht, Cell.okWide, Cell.ok] at hv
    cases v <;> simp at hv
    rfl
theorem u64_word {n : Int} (h : InR .u64 n) : ∃ m : Nat, m < 2 ^ 64 ∧ n = m := by
  simp [InR, IntKind.min, IntKind.max, IntKind.signed, IntKind.bits] at h
  exact ⟨n.toNat, by omega, by omega⟩
theorem Rd.cls {P : Program} {t e : TypeId} (ht : P.underlying t = some (.array 4 e)) (hc : P.cellsOf t = 4) (he : P.underlying e = some (.int .u64)) (hce : P.cellsOf e = 1) : Rd P t En.cls (fun _ => True) := by
  refine ⟨hc, ?_, ?_⟩
  · intro H enc w fuel cs x h _
    obtain ⟨xs, m, rfl, rfl, hlen, hn, hx⟩ := DataW.trod_array ht h
    rw [hc] at hlen
    match cs, hlen with
    | [u0, u1, u2, u3], _ =>
      have hx' : ∀ i (hi : i < 4) u, [u0, u1, u2, u3][i]? = some u → ∃ q : Nat, q < 2 ^ 64 ∧ u = .int .u64 q := by
        intro i hi u hu
        have h1 := hx i hi
        rw [hce, Nat.mul_one, List.getElem?_eq_getElem (by omega)] at h1
        have h2 : List.take 1 (List.drop i [u0, u1, u2, u3]) = [u] := by
          match i, hi with
          | 0, _ | 1, _ | 2, _ | 3, _ => simp at hu; subst hu; rfl
        rw [h2] at h1
        obtain ⟨n, h3, _, h4⟩ := DataW.trod_int he h1
        obtain ⟨q, hq, rfl⟩ := u64_word (n := n) (by simpa [Lit.wf, InR] using h4)
        simp at h3
        exact ⟨q, hq, h3⟩
      obtain ⟨q0, h0, rfl⟩ := hx' 0 (by omega) u0 rfl
      obtain ⟨q1, h1, rfl⟩ := hx' 1 (by omega) u1 rfl
      obtain ⟨q2, h2, rfl⟩ := hx' 2 (by omega) u2 rfl
      obtain ⟨q3, h3, rfl⟩ := hx' 3 (by omega) u3 rfl
      refine ⟨Cl.ofWords q0 q1 q2 q3, ?_, trivial⟩
      obtain ⟨e0, e1, e2, e3⟩ := Cl.ofWords_word h0 h1 h2 h3
      show _ = clsCells _
      unfold clsCells
      rw [e0, e1, e2, e3]
  · intro w v hv _
    simp only [Value.okWide, ht] at hv
    obtain ⟨cs, rfl, _⟩ := hv
    simp [En.val, En.cls, Value.cells]
structure RdF (P : Program) (fs : List Field) (o : Nat) {α : Type} (E : En α) (G : α → Prop) : Prop where
  rd : ∀ {H : Type} (enc : TypeId × Value → H) (w : World) (fuel : Nat) (cs : List Value) (xs : List (DataW H × List MemPlace)), xs.length = fs.length →
    (∀ (i : Nat) (f : Field), fs[i]? = some f → DataW.trod enc P w 0 (fun _ => true) true fuel f.type ((cs.drop f.offset).take (P.cellsOf f.type)) = xs[i]?) →
    (∀ n ∈ DataW.weightsEach P (fs.map (·.type)) (xs.map (·.1)), n ≤ reachBytes) → ∃ y, E.R w (fun b => b < w.heap.size) ((cs.drop o).take E.sz) y ∧ G y
theorem RdF.last {P : Program} {f : Field} {o : Nat} {α : Type} {E : En α} {G : α → Prop} (h : Rd P f.type E G) (ho : f.offset = o) : RdF P [f] o E G := ⟨by
  intro H enc w fuel cs xs hl hx hw
  obtain ⟨x, rfl⟩ : ∃ x, xs = [x] := List.length_eq_one_iff.1 hl
  have h1 := hx 0 f rfl
  rw [ho, h.sz] at h1
  exact h.rd enc w fuel _ x h1 fun n hn => hw n (by simp [DataW.weightsEach, hn])⟩
theorem RdF.solo {P : Program} {fs : List Field} {o : Nat} {α : Type} {E : En α} {G : α → Prop} (h : RdF P fs o E G) : RdF P fs o E.solo G := ⟨h.rd⟩
theorem take_add_split {xs : List Value} {o m n : Nat} : (xs.drop o).take (m + n) = (xs.drop o).take m ++ (xs.drop (o + m)).take n := by
  rw [List.take_add, List.drop_drop]
theorem RdF.cons {P : Program} {f : Field} {fs : List Field} {o : Nat} {α β : Type} {E : En α} {F : En β} {G : α → Prop} {K : β → Prop} (h : Rd P f.type E G) (ho : f.offset = o) (hr : RdF P fs (o + E.sz) F K) : RdF P (f :: fs) o (E.cat F) (fun x => G x.1 ∧ K x.2) := ⟨by
  intro H enc w fuel cs xs hl hx hw
  obtain ⟨x, xs', rfl⟩ : ∃ x xs', xs = x :: xs' := by
    cases xs with
    | nil => simp at hl
    | cons x xs' => exact ⟨x, xs', rfl⟩
  have h1 := hx 0 f rfl
  rw [ho, h.sz] at h1
  obtain ⟨y, hy1, hy2⟩ := h.rd enc w fuel _ x h1 fun n hn => hw n (by simp [DataW.weightsEach, hn])
  obtain ⟨z, hz1, hz2⟩ := hr.rd enc w fuel cs xs' (by simpa using hl) (fun i g hg => by have := hx (i + 1) g (by simpa using hg); simpa using this) fun n hn => hw n (by
    simp only [List.map_cons, DataW.weightsEach, List.mem_append]; exact .inr hn)
  exact ⟨(y, z), ⟨_, _, take_add_split, hy1, hz1⟩, hy2, hz2⟩⟩
theorem Rd.struct {P : Program} {t : TypeId} {fs : Array Field} {α : Type} {E : En α} {G : α → Prop} (ht : P.underlying t = some (.struct fs)) (ha : E.agg = true) (hc : P.cellsOf t = E.sz) (h : RdF P fs.toList 0 E G) : Rd P t E G := by
  refine ⟨hc, ?_, ?_⟩
  · intro H enc w fuel cs x hx hw
    obtain ⟨xs, n, rfl, rfl, hlen, hxl, hf⟩ := DataW.trod_struct ht hx
    obtain ⟨y, hy1, hy2⟩ := h.rd enc w n cs xs (by simpa using hxl) (fun i f hi => hf i f (by simpa using hi)) fun q hq => hw q (by
      simp only [DataW.weights, ht]; exact hq)
    rw [List.drop_zero, List.take_of_length_le (by rw [hlen, hc]; exact Nat.le_refl _)] at hy1
    exact ⟨y, hy1, hy2⟩
  · intro w v hv _
    obtain ⟨cs, rfl, _⟩ := okWide_struct ht hv
    unfold En.val
    rw [ha]
    simp [Value.cells]
theorem Rd.open {P : Program} {t : TypeId} {α : Type} {E : En α} {G : α → Prop} (hr : Rd P t E G) {H : Type} {enc : TypeId × Value → H} {W : World} {v : Value} {d : DataW H} {p : List MemPlace}
    (hv : Value.okWide P W .any 0 t v) (hd : DataW.Trod enc P W 0 (fun _ => true) true t v d p) (hw : ∀ n ∈ d.weights P t, n ≤ reachBytes) : ∃ y, (Pd.rep E y).p ⟨W, fun _ => False, fun _ h => h.elim⟩ v ∧ G y := by
  obtain ⟨fuel, h⟩ := hd
  obtain ⟨y, hy, hg⟩ := hr.rd enc W fuel _ _ h hw
  refine ⟨y, ⟨v.cells.toList, hr.vl W v hv ⟨y, hy⟩, ?_⟩, hg⟩
  exact E.mono (fun b hb => ⟨hb, fun h => h⟩) hy
theorem Ex.below {s s' : St} (h : Ex s s') : Below s.w.heap.size s.w s'.w := ⟨h.mv.os, h.mv.tape, h.mv.output, h.mv.size, fun k hk => h.mv.blk k hk (fun h => h)⟩
theorem okWide_any {P : Program} {W : World} {b : Nat} {t : TypeId} {v : Value} (h : Value.okWide P W .any b t v) : Value.okWide P W .any 0 t v := by
  unfold Value.okWide Row.okWide Cell.okWide Cell.ok World.has at *
  exact h
section
variable {H : Type} {enc : TypeId × Value → H} {P : Program}
theorem stays {W W' : World} (hl : laidOutB P = true) (hb : Below W.heap.size W W') {sp : Nat → Bool} : ∀ {ts : List TypeId} {vs : List Value} {ds : List (DataW H)} {ps : List MemPlace},
    (ts.all fun t => P.readableRec t && decide (t < P.types.size)) = true → DataW.TrodAll enc P W 0 (fun _ => true) true ts vs ds ps → (∀ p ∈ ps, p.block < W.heap.size) → (∀ p ∈ ps, sp p.block = true) →
    DataW.TrodAll enc P W' 0 sp true ts vs ds ps
  | [], vs, ds, ps, _, h, _, _ => by
    obtain ⟨rfl, rfl, rfl⟩ := trodAll_nil h
    exact trodAll_mk0
  | t :: ts, vs, ds, ps, ha, h, hlt, hsp => by
    obtain ⟨v, vs', d, ds', p, q, rfl, rfl, rfl, h1, h2⟩ := trodAll_cons h
    simp only [List.all_cons, Bool.and_eq_true, decide_eq_true_eq] at ha
    refine trodAll_cons_mk (WideElems.Trod_stays hl ha.1.1 ha.1.2 h1 (fun x hx => hb.same (hlt x (List.mem_append_left _ hx))) fun x hx => hsp x (List.mem_append_left _ hx)) ?_
    exact stays hl hb (by simpa using ha.2) h2 (fun x hx => hlt x (List.mem_append_right _ hx)) fun x hx => hsp x (List.mem_append_right _ hx)
theorem post_law {f : Func} {s : ChangeSpec} {apart fresh handsOn again : Bool} {W W' : World} {args : Array Value} {v : Value} {ds gs : List (DataW H)} {before : List MemPlace} {tb : TypeId}
    (hW : DataW.Whole enc P f.params.toList s.vars apart W args.toList ds gs before) (hb : Below W.heap.size W W') (hl : laidOutB P = true)
    (hrd : (f.params.toList.all fun t => P.readableRec t && decide (t < P.types.size)) = true) (hs : s.vars = []) (hrt : f.resultTypes = #[tb]) (hub : P.underlying tb = some .bool) (hv : v = .bool true)
    (hres : (s.fn H (ds ++ gs)).results = [.lit (.bool true)]) (hargs : (s.fn H (ds ++ gs)).args = ds) (hvars : (s.fn H (ds ++ gs)).vars = []) : s.post enc P f apart fresh handsOn again W args v W' := by
  subst hv
  have hlt := hW.lt
  have hW' := hW
  obtain ⟨p, q, hA, hV, rfl, hz, hn⟩ := hW
  rw [hs] at hV
  obtain ⟨rfl, rfl⟩ := trodVars_none hV
  have hsub : ∀ x ∈ p, x ∈ p ++ ([] : List MemPlace) := fun x hx => by simpa using hx
  have harg : ∀ sp : Nat → Bool, (∀ x ∈ p ++ ([] : List MemPlace), sp x.block = true) → DataW.TrodAll enc P W' 0 sp true f.params.toList args.toList (s.fn H (ds ++ [])).args p := fun sp hsp => by
    rw [hargs]
    exact stays hl hb hrd hA (fun x hx => hlt x (hsub x hx)) fun x hx => hsp x (hsub x hx)
  have hvar : ∀ sp : Nat → Bool, DataW.TrodVars enc P W' sp s.vars (s.fn H (ds ++ [])).vars [] := fun sp => by rw [hs, hvars]; exact rfl
  have hr : ∀ (b : Nat) (sp : Nat → Bool) (hd : Bool), DataW.TrodAll enc P W' b sp hd f.resultTypes.toList ((Value.bool true).resultList f.resultTypes.size) (s.fn H (ds ++ [])).results [] := fun b sp hd => by
    rw [hres, hrt]
    exact trodAll_cons_mk (shut_bool hub _) trodAll_mk0
  have hold : ∀ x ∈ p ++ ([] : List MemPlace), (fun b => decide (b < W.heap.size)) x.block = true := fun x hx => by simpa using hlt x hx
  refine ⟨ds, [], p ++ [], [], p, [], hW', hr _ _ _, harg _ hold, hvar _, World.keptBut_mono (fun x hx => ⟨hx, ?_⟩) (hb.frame (· ∈ p ++ [])), fun _ => ?_⟩
  · simpa using hx
  · refine ⟨ok_one hrt rfl (okWide_bool_mk hub _), _, _, ([] ++ p) ++ [], ⟨[] ++ p, [], trodAll_append (harg _ (fun _ _ => rfl)) (hr _ _ _), hvar _, rfl, ?_, ?_⟩, ?_⟩
    · intro b off hp
      have hp' : MemPlace.cell b off ∈ p ++ ([] : List MemPlace) := by simpa using hp
      rw [hb.frozen (p := ⟨b, off, none⟩) (hlt _ hp')]
      exact hz b off hp'
    · intro ha
      simpa using hn ha
    · intro x hx _
      simpa using hx
end
end Go.Proofs.YtdidjelkkanenaaGreatDoor.V
namespace Go.Proofs.YtdidjelkkanenaaGreatDoor.V
open Go Go.ChangeShapes Go.WideShapes Go.RowKit
set_option linter.unusedVariables false
def lst4 : List (String × DataW Unit) := [("math/bits.deBruijn32tab", Rows.laid_math_bits_deBruijn32tab), ("math/bits.deBruijn64tab", Rows.laid_math_bits_deBruijn64tab), ("internal/strconv.uint64pow10", Rows.laid_internal_strconv_uint64pow10), ("scantling/heads.readies", Rows.laid_scantling_heads_readies)]
def lst : List (String × DataW Unit) := [("math/bits.deBruijn32tab", Rows.laid_math_bits_deBruijn32tab), ("math/bits.deBruijn64tab", Rows.laid_math_bits_deBruijn64tab), ("internal/strconv.uint64pow10", Rows.laid_internal_strconv_uint64pow10), ("scantling/heads.readies", Rows.laid_scantling_heads_readies), ("scantling/next.steps", Rows.laid_scantling_next_steps)]
theorem cells_of_bools {H : Type} {enc : TypeId × Value → H} {P : Program} {w : World} {base : Nat} {sp : Nat → Bool} {held : Bool} {fuel : Nat} {t e : TypeId} {n : Nat} {cs : List Value} {bs : List Bool} {p : List MemPlace}
    (ht : P.underlying t = some (.array n e)) (he : P.underlying e = some .bool) (hce : P.cellsOf e = 1) (hct : P.cellsOf t = n)
    (h : DataW.trod enc P w base sp held fuel t cs = some (.agg (bs.map fun b => .lit (.bool b)), p)) : cs = bs.map Value.bool := by
  obtain ⟨xs, m, rfl, hx, hl, hn, hf⟩ := DataW.trod_array ht h
  have hx1 := congrArg Prod.fst hx
  simp only [DataW.agg.injEq] at hx1
  have hbl : bs.length = n := by
    have := congrArg List.length hx1
    simp at this; omega
  apply List.ext_getElem?
  intro i
  by_cases hi : i < n
  · have h1 := hf i hi
    rw [hce, Nat.mul_one, List.getElem?_eq_getElem (by omega)] at h1
    obtain ⟨b, hc, hb⟩ := DataW.trod_bool he h1
    have h2 : cs[i]? = some (.bool b) := by
      have := congrArg (·[0]?) hc
      simpa [List.getElem?_take, List.getElem?_drop] using this
    have h3 : (bs.map fun b => (DataW.lit (.bool b) : DataW H))[i]? = some (.lit (.bool b)) := by
      rw [hx1, List.getElem?_map, List.getElem?_eq_getElem (by omega), hb]; rfl
    rw [List.getElem?_map, Option.map_eq_some_iff] at h3
    obtain ⟨b', hb', e⟩ := h3
    cases e
    rw [h2, List.getElem?_map, hb']; rfl
  · rw [List.getElem?_eq_none (by omega), List.getElem?_eq_none (by simp; omega)]
def nameB1 : List UInt8 := [40, 115, 99, 97, 110, 116, 108, 105, 110, 103, 47, 110, 101, 120, 116, 46, 115, 116, 101, 112, 41, 46, 110, 111, 100, 101]
def nameB3 : List UInt8 := [40, 115, 99, 97, 110, 116, 108, 105, 110, 103, 47, 110, 101, 120, 116, 46, 115, 116, 101, 112, 41, 46, 116, 101, 120, 116]
def nameB4 : List UInt8 := [40, 115, 99, 97, 110, 116, 108, 105, 110, 103, 47, 110, 101, 120, 116, 46, 115, 116, 101, 112, 41, 46, 104, 97, 108, 102]
def stepsD : DataW Unit := .map [(.int .i64 1, .iface "func" (.lit (.string nameB1))), (.int .i64 3, .iface "func" (.lit (.string nameB3))), (.int .i64 4, .iface "func" (.lit (.string nameB4)))]
def stepsL : List (Lit × DataW (List UInt8)) := [(.int .i64 1, .held nameB1), (.int .i64 3, .held nameB3), (.int .i64 4, .held nameB4)]
theorem key_int {P : Program} {k : TypeId} (hk : P.underlying k = some (.int .i64)) {v : Value} {l : Lit} (h : keyOf P k v = some l) : ∃ n : Int, v = .int .i64 n ∧ l = .int .i64 n ∧ InR .i64 n := by
  rw [keyOf_int hk] at h
  unfold mapKey at h
  rw [hk] at h
  cases v <;> simp at h
  obtain ⟨⟨rfl, h2⟩, rfl⟩ := h
  exact ⟨_, rfl, rfl, by simpa [Lit.wf, InR] using h2⟩
theorem one_of_formed {P : Program} {t : TypeId} {ps rs : Array TypeId} {va : Bool} {v : Value} (ht : P.underlying t = some (.func ps rs va)) (h : v.formed P t = true) : v.cells.toList = [v] := by
  cases v <;> simp [Value.formed, ht] at h <;> rfl
def entY (e : MapEntry) : Int × Option Nat := match e.key with | .int _ n => (n, mget gfmS n none) | _ => (0, none)
def entL (q : Lit × DataW (List UInt8)) : Int × Option Nat := match q.1 with | .int _ n => (n, mget gfmS n none) | _ => (0, none)
def Steps (W : World) : Prop := ∃ m t fr es clock ys, W.heap[0]? = some (.cells #[.map (some m)] t fr) ∧ W.heap[m]? = some (.map es clock) ∧ Fmst es clock ys ∧ ys.Perm gfmS
theorem steps_of_funcs {W : World} (h : funcsAt Tryz.prog W "scantling/next.steps" stepsD) : Steps W := by
  obtain ⟨g, t, cs, fuel, p, hg, ht, hv, hd⟩ := h
  have hg' : Tryz.prog.globalNamed "scantling/next.steps" = some 0 := by kernel_rfl
  have hty : (Tryz.prog.globals[0]?).map (·.type) = some 67 := by kernel_rfl
  obtain rfl := Option.some.inj (hg'.symm.trans hg)
  obtain rfl := Option.some.inj (hty.symm.trans ht)
  have e : DataW.funcsOut stepsD = .map stepsL := by kernel_rfl
  rw [e] at hd
  have hkt : Tryz.prog.underlying 3 = some (.int .i64) := Tryz.underlying3
  rcases WideElems.open_map Tryz.underlying67 hd with ⟨_, hx⟩ | ⟨m, es, clock, n, rfl, hcs, hb, _, F, hx⟩
  · simp at hx
  · simp only [Prod.mk.injEq, DataW.map.injEq] at hx
    have hp : stepsL.Perm (es.toList.map (WideElems.rg Tryz.prog 3 (WideElems.elemAt (funcToken Tryz.prog) Tryz.prog W 0 (fun _ => true) true n 65))) := by
      rw [hx.1]; exact sorted_perm _
    have ent : ∀ x ∈ es.toList, ∃ i : Int, x.key = .int .i64 i ∧ InR .i64 i ∧ entL (WideElems.rg Tryz.prog 3 (WideElems.elemAt (funcToken Tryz.prog) Tryz.prog W 0 (fun _ => true) true n 65) x) = (i, mget gfmS i none) ∧ x.val = fidV (mget gfmS i none) := by
      intro x hx'
      obtain ⟨y, hy⟩ := F.reads x hx'
      have hrg := WideElems.rg_of hy
      have hm : y ∈ stepsL := hp.mem_iff.2 (List.mem_map.2 ⟨x, hx', hrg⟩)
      obtain ⟨i, hk1, hk2, hk3⟩ := key_int hkt (WideElems.rd_key hy)
      obtain ⟨z, hz1, hz2⟩ := WideElems.rd_val hy
      unfold WideElems.elemAt at hz1
      split at hz1
      case isFalse => cases hz1
      rename_i hf
      rw [one_of_formed Tryz.underlying65 hf] at hz1
      refine ⟨i, hk1, hk3, by rw [hrg]; simp only [entL, hk2], ?_⟩
      unfold stepsL at hm
      simp only [List.mem_cons, List.not_mem_nil, or_false] at hm
      rcases hm with rfl | rfl | rfl
      · simp only [Lit.int.injEq, true_and] at hk2
        subst hk2
        obtain ⟨z1, z2⟩ := z
        simp only at hz2
        subst hz2
        exact func_of_trod (f0 := 122) Tryz.underlying65 (by kernel_rfl) hz1
      · simp only [Lit.int.injEq, true_and] at hk2
        subst hk2
        obtain ⟨z1, z2⟩ := z
        simp only at hz2
        subst hz2
        exact func_of_trod (f0 := 123) Tryz.underlying65 (by kernel_rfl) hz1
      · simp only [Lit.int.injEq, true_and] at hk2
        subst hk2
        obtain ⟨z1, z2⟩ := z
        simp only at hz2
        subst hz2
        exact func_of_trod (f0 := 119) Tryz.underlying65 (by kernel_rfl) hz1
    obtain ⟨o, ho, hcell⟩ : ∃ t fr, W.heap[0]? = some (.cells #[.map (some m)] t fr) := by
      unfold World.var? at hv
      rw [hg'] at hv
      simp only [Option.bind_some] at hv
      split at hv
      · rename_i cs' t' fr' hc
        refine ⟨t', fr', ?_⟩
        rw [hc]
        simp only [Option.some.injEq] at hv
        rw [hv, ← Array.toArray_toList (xs := cs), hcs]
      · cases hv
    refine ⟨m, o, ho, es, clock, es.toList.map entY, hcell, hb, ⟨F.stamped, by simp, fun i e q h1 h2 => ?_⟩, ?_⟩
    · have hm := List.mem_of_getElem? h1
      obtain ⟨j, hk1, hk3, _, hval⟩ := ent e hm
      rw [List.getElem?_map, h1] at h2
      simp only [Option.map_some, Option.some.injEq] at h2
      subst h2
      have hr := inR_i64.1 hk3
      simp only [entY, hk1]
      exact ⟨trivial, hr, hval⟩
    · have h3 := (hp.map entL).symm
      have e1 : stepsL.map entL = gfmS := by kernel_rfl
      rw [e1, List.map_map] at h3
      refine List.Perm.trans (List.Perm.of_eq (List.map_congr_left fun x hx' => ?_)) h3
      obtain ⟨j, hk1, _, hL, _⟩ := ent x hx'
      simp only [Function.comp, entY, hk1]
      exact hL.symm
def Tabs (W : World) : Prop := (Lib.TabIs Tryz.prog W "internal/strconv.uint64pow10" .u64 Lib.pow10Tab ∧ W.var? Tryz.prog "scantling/heads.readies" = some (gdat1.map Value.bool).toArray) ∧ Steps W
theorem tab_of_laid {W : World} (h : laidMetH Tryz.prog lst W) : Tabs W := by
  have hs : ("scantling/next.steps", (DataW.iface "func table" stepsD : DataW Unit)) ∈ lst := by
    have e : (Rows.laid_scantling_next_steps : DataW Unit) = DataW.iface "func table" stepsD := by kernel_rfl
    unfold lst
    rw [e]
    simp
  have h3 := steps_of_funcs (h.funcs hs)
  have e0 : laidMetH Tryz.prog lst W = (laidMet Tryz.prog lst4 W ∧ handlesMet Tryz.prog [("scantling/next.steps", Rows.laid_scantling_next_steps)] W) := by kernel_rfl
  rw [e0] at h
  have h' := h.1
  unfold lst4 at h'
  refine ⟨⟨?_, ?_⟩, h3⟩
  · have e : (Rows.laid_internal_strconv_uint64pow10 : DataW Unit) = Lib.tabData .u64 Lib.pow10Tab := by kernel_rfl
    have h2 := h'.tail.tail
    rw [e] at h2
    exact Lib.tabIs_of_head (g := 2) (t := 148) (e := 41) (n := 20) (by kernel_rfl) (by kernel_rfl) Tryz.underlying148 Tryz.underlying41 (by kernel_rfl) (by kernel_rfl) h2
  · have e : (Rows.laid_scantling_heads_readies : DataW Unit) = .agg (gdat1.map fun b => .lit (.bool b)) := by kernel_rfl
    have h2 := h'.tail.tail.tail
    rw [e] at h2
    obtain ⟨ps, ⟨g', t', cs, fuel, p, q, hg', ht', hvar, hd, _, _⟩, _⟩ := h2
    have hg : Tryz.prog.globalNamed "scantling/heads.readies" = some 1 := by kernel_rfl
    have hty : (Tryz.prog.globals[1]?).map (·.type) = some 126 := by kernel_rfl
    obtain rfl := Option.some.inj (hg.symm.trans hg')
    obtain rfl := Option.some.inj (hty.symm.trans ht')
    rw [hvar, ← cells_of_bools Tryz.underlying126 (e := 4) Tryz.underlying4 (by kernel_rfl) (by kernel_rfl) hd]
theorem gl_of_tab {W : World} (h : Tabs W) : Gl ⟨W, fun _ => False, fun _ h => h.elim⟩ := by
  obtain ⟨⟨h1, h2⟩, h3⟩ := h
  refine ⟨fun p hp => ?_, fun p hp => ?_⟩
  · unfold gtab at hp
    rcases List.mem_cons.1 hp with rfl | hp
    · refine ⟨fun h => h, ?_⟩
      unfold Lib.TabIs World.var? at h1
      have hg : Tryz.prog.globalNamed "internal/strconv.uint64pow10" = some 2 := by kernel_rfl
      rw [hg] at h1
      simp only [Option.bind_some] at h1
      split at h1
      · rename_i cs t fr hc
        refine ⟨t, fr, ?_⟩
        show W.heap[2]? = _
        rw [hc]
        simp only [Option.some.injEq] at h1
        rw [h1]
        simp [Lib.pow10Tab]
      · cases h1
    · obtain rfl := List.mem_singleton.1 hp
      refine ⟨fun h => h, ?_⟩
      unfold World.var? at h2
      have hg : Tryz.prog.globalNamed "scantling/heads.readies" = some 1 := by kernel_rfl
      rw [hg] at h2
      simp only [Option.bind_some] at h2
      split at h2
      · rename_i cs t fr hc
        refine ⟨t, fr, ?_⟩
        show W.heap[1]? = _
        rw [hc]
        simp only [Option.some.injEq] at h2
        rw [h2]
      · cases h2
  · unfold gmap at hp
    obtain rfl := List.mem_singleton.1 hp
    obtain ⟨m, t, fr, es, clock, ys, k1, k2, k3, k4⟩ := h3
    exact ⟨fun h => h, m, t, fr, es, clock, ys, k1, fun h => h, k2, k3, k4⟩
noncomputable def laidWorld (os : Os) : World := World.doorLaid Tryz.prog 400 os
theorem laid_met (os : Os) (args : Array Value) : laidMetH Tryz.prog lst ((laidWorld os).forCall (fun _ _ => 0) ⟨#[], args, []⟩).memory :=
  laidMetH_of_parts3 (fuel := 8) (laidMet_of_run' 8 (by kernel_rfl) (by kernel_rfl)) (by kernel_rfl) (by kernel_rfl)
theorem weigh {H : Type} {P : Program} {ts : List TypeId} {ds : List (DataW H)} (h : (DataW.weightsEach P ts ds).all (· ≤ reachBytes) = true) (j : Nat) {t : TypeId} {d : DataW H} (ht : ts[j]? = some t) (hd : ds[j]? = some d) : ∀ n ∈ d.weights P t, n ≤ reachBytes := fun n hn => by
  have := List.all_eq_true.1 h n (DataW.weights_mem_each ht hd n hn)
  simpa using this
end Go.Proofs.YtdidjelkkanenaaGreatDoor.V
