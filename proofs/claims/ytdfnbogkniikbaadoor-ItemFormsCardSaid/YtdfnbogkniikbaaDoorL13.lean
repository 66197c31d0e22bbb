/-
  The laws of states answer true.
-/
import Derived.Test.YtdfnbogkniikbaaDoorP13
namespace Go.Proofs.YtdfnbogkniikbaaDoor.V
open Go
set_option linter.unusedVariables false

def aw1 : List SItem := [(3, 0, 1, 0), (5, 0, 3, 0)]
def awD : List SNode := [(3, 0, 0, 0, 0, (0#256), ([97, 98] : Str))]
theorem awD_ok : DOk awD := ⟨by simp [awD], by intro n hn; simp [awD] at hn; subst hn; simp⟩
theorem aw_low1 : lowF aw1 = ([(3, 0, 1, 0), (5, 0, 2, 0)], true) := by decide
theorem aw_low2 : lowF [(5, 0, 0, 0)] = ([], false) := by decide
theorem itR_of {a b c d : Int} (h : InR .i64 a ∧ InR .i64 b ∧ InR .i64 c ∧ InR .i64 d) : ItR (a, b, c, d) := h
theorem awake13 : law13_awake true := by
  have r1 : ∀ x ∈ aw1, ItR x := by
    intro x hx
    simp only [aw1, List.mem_cons, List.not_mem_nil, or_false] at hx
    rcases hx with rfl | rfl <;> exact ⟨by decide, by decide, by decide, by decide⟩
  have r2 : ∀ x ∈ ([(5, 0, 0, 0)] : List SItem), ItR x := by
    intro x hx
    obtain rfl := List.mem_singleton.1 hx
    exact ⟨by decide, by decide, by decide, by decide⟩
  refine ⟨_, item_Start_in (d := awD) (by simp [awD]), _, item_Lower_in (s := aw1) (by simp [aw1]) r1, _, item_Lower_in (by simp) r2, _, rfl, fun h => ?_, fun _ => ?_⟩
  · rw [aw_low1] at h; simp [awD] at h
  · rw [aw_low1, aw_low2]
    refine ⟨(1, 0, 0, 0), rfl, _, fun _ => item_Form_in awD_ok (by simp), _, fun _ => item_Form_in awD_ok (by simp), _, fun _ => item_Form_in awD_ok (by simp), _, rfl, (5, 0, 2, 0), fun _ => rfl, (3, 0, 1, 0), fun _ => rfl, _, rfl, _, fun _ => item_Compare_in (by simp), _, fun _ => item_Compare_in (by simp), _, fun _ => item_Compare_in (by simp), _, rfl, _, fun _ => item_Key_in (by simp), _, fun _ => item_Key_in (by simp), _, fun _ => item_Key_in (by simp), _, fun _ => item_Key_in (by simp), ?_⟩
    have f1 : formS awD [(1, (awD.length : Int) - 1, 0, 0)] = true := by decide
    have f2 : formS awD [(3, 0, 1, 0), (5, 0, 2, 0)] = true := by decide
    have f3 : formS awD [(3, 0, 2, 0)] = false := by decide
    have c1 : cmpS [(1, (awD.length : Int) - 1, 0, 0)] [(3, 0, 1, 0), (5, 0, 2, 0)] = -1 := by decide
    have c2 : cmpS [(3, 0, 1, 0), (5, 0, 2, 0)] [(1, (awD.length : Int) - 1, 0, 0)] = 1 := by decide
    have c3 : cmpS [(3, 0, 1, 0), (5, 0, 2, 0)] [(3, 0, 1, 0), (5, 0, 2, 0)] = 0 := by decide
    have hd : ([(3, 0, 0, 0, 0, (0#256), ([97, 98] : Str))] : List SNode) = awD := rfl
    rw [hd]
    dsimp only
    rw [f1, f2, f3, c1, c2, c3, bne, keyS_beq]
    simp

theorem low_shape (s : List SItem) : lowF s = ([], false) ∨ lowF s = (s.map low1, true) := by
  unfold lowF; split <;> simp
theorem low_len (s : List SItem) : (lowF s).1.length ≤ s.length := by
  rcases low_shape s with h | h <;> rw [h] <;> simp

theorem law13_ItemKeeps_true {s : List SItem} (hr : ∀ x ∈ s, ItR x) : law13_ItemKeeps s true := by
  refine ⟨true, awake13, fun _ => ⟨true, awake13, rfl⟩, fun hb => ?_⟩
  simp only [Bool.not_true, Bool.false_or, decide_eq_false_iff_not] at hb
  refine ⟨by simp; omega, ?_⟩
  rw [List.nil_append]
  refine ⟨_, item_Lower_in (by omega) hr, ?_⟩
  have hl := low_len s
  refine upto (P := fun k (t : List SItem) v => law13_ItemKeeps.l1 _ k t v) (lowF s).1.length (fun i t => t.length = (lowF s).1.length) ?_ ?_ _ rfl
  · intro i t hi ht
    refine .inr ⟨t.set i (99, t[i].2.1, t[i].2.2.1, t[i].2.2.2), by simpa using ht, fun k h => ⟨fun _ => ⟨t[i], by rw [at_nat]; simp [show i < t.length by omega], i64_of (by omega) (by omega), h⟩, fun h => absurd (by omega) (df h)⟩⟩
  · intro t ht k
    refine ⟨fun h => absurd (dt h) (by omega), fun _ => ?_⟩
    unfold law13_ItemKeeps.j1
    rw [List.nil_append]
    exact ⟨_, item_Key_in (by omega), _, item_Compare_in (by omega), _, ref13_Same_in (by omega) (by omega), by simp⟩

theorem law13_ItemOrder_true {a b c : List SItem} {x : SItem} : law13_ItemOrder a b c x true := by
  refine ⟨true, awake13, _, rfl, fun _ => ⟨true, awake13, rfl⟩, fun hb => ?_⟩
  simp only [Bool.not_true, Bool.false_or, Bool.or_eq_false_iff, decide_eq_false_iff_not] at hb
  obtain ⟨⟨h1, h2⟩, h3⟩ := hb
  have e1 := cmpS_anti a b
  have e2 : cmpS a a = 0 := cmpS_zero.2 rfl
  have r1 := cmpS_range a b
  refine ⟨_, item_Compare_in (by omega), _, item_Compare_in (by omega), i64_of (by omega) (by omega), _, fun _ => item_Compare_in (by omega), _, fun _ => item_Compare_in (by omega), _, fun _ => item_Compare_in (by omega), _, fun _ => item_Compare_in (by omega), _, rfl, fun hbad => ?_, fun _ => ?_⟩
  · exfalso
    rw [e1, e2] at hbad
    simp only [Int.neg_neg, bne_self_eq_false, Bool.false_or, Bool.and_eq_true, decide_eq_true_eq] at hbad
    obtain ⟨⟨k1, k2⟩, k3⟩ := hbad
    have := cmpS_trans k1 k2
    omega
  · refine ⟨by omega, by simp; omega, _, item_Compare_in (by omega), _, fun _ => item_Compare_in (by omega), _, fun _ => item_Key_in (by omega), _, fun _ => item_Key_in (by omega), _, fun _ => item_Key_in (by simp; omega), _, fun _ => item_Key_in (by omega), _, rfl, ?_⟩
    rw [cmpS_more, keyS_beq, bne, keyS_beq]
    have e3 : (cmpS a b == 0) = decide (a = b) := by rw [Bool.eq_iff_iff, beq_iff_eq, cmpS_zero, decide_eq_true_iff]
    rw [e3]
    simp
end Go.Proofs.YtdfnbogkniikbaaDoor.V
