/-
  The law 'SplitOrder' of the package scantlinglaw02 is true for every input, and leaves what it is given as it was.
-/
import Derived.Test.YtkdbiiollbeoeaaRows
import Derived.Test.YtkdbiiollbeoeaaW02b
import Derived.Test.YtkdbiiollbeoeaaL02
import Derived.Test.YtkdbiiollbeoeaaB0
import Derived.WalkKit
import Derived.ProofKit
import Derived.OpenShut
import Derived.Handed
import Derived.KernelRfl
namespace Go.Proofs.Ytkdbiiollbeoeaa.V
open Go Go.ChangeShapes Go.WideShapes Go.RowKit
set_option linter.unusedVariables false

theorem SplitOrder_contract (H : Type) (enc : TypeId × Value → H) (W : World) (base : Nat) (args : Array Value) (ds gs : List (DataW H)) (before : List MemPlace)
    (hval : ∀ (j : Nat) t v, Try.f10.params[j]? = some t → args[j]? = some v → Value.okWide Try.prog W .any base t v)
    (hW : DataW.Whole enc Try.prog Try.f10.params.toList Rows.splitOrderSpec.vars false W args.toList ds gs before) :
    Calls Try.prog 10 args W fun e W' => ∃ v, e = .returned v ∧ Rows.splitOrderSpec.post enc Try.prog Try.f10 false true false false W args v W' := by
  have hW' := hW
  obtain ⟨p, q, hA0, hV, rfl, hfz, hnd⟩ := hW
  have hA : DataW.TrodAll enc Try.prog W 0 (fun _ => true) true Try.f10.params.toList args.toList ds p := hA0
  rw [Try.params10] at hA hval
  obtain ⟨v0, vs0, d0, ds0, p0, q0, hargs, rfl, rfl, h0, r0⟩ := trodAll_cons hA
  obtain ⟨v1, vs1, d1, ds1, p1, q1, rfl, rfl, rfl, h1, r1⟩ := trodAll_cons r0
  obtain ⟨v2, vs2, d2, ds2, p2, q2, rfl, rfl, rfl, h2, r2⟩ := trodAll_cons r1
  obtain ⟨rfl, rfl, rfl⟩ := trodAll_nil r2
  obtain rfl : args = #[v0, v1, v2] := by cases args; simp_all
  obtain ⟨rfl, rfl⟩ := trodVars_none hV
  obtain ⟨x0, hx0, g0⟩ := (Rd.slice Try.underlying42 (by kernel_rfl) (Rd.cls Try.underlying24 (by kernel_rfl) Try.underlying22 (by kernel_rfl))).open (okWide_any (hval 0 42 v0 rfl rfl)) h0
  obtain ⟨x1, hx1, g1⟩ := (Rd.int Try.underlying5 (by kernel_rfl)).open (okWide_any (hval 1 5 v1 rfl rfl)) h1
  obtain ⟨x2, hx2, g2⟩ := (Rd.int Try.underlying5 (by kernel_rfl)).open (okWide_any (hval 2 5 v2 rfl rfl)) h2
  refine ((law02_SplitOrder_ok (law02_SplitOrder_true g1 g2)).run ⟨W, fun _ => False, fun _ h => h.elim⟩ [v0, v1, v2] ⟨hx0, hx1, hx2, trivial⟩).mono fun e W' ⟨v, s', he, hw, hx, hr⟩ => ?_
  subst hw
  obtain ⟨cs, hcv, hcs⟩ := hr
  refine ⟨v, he, post_law hW' hx.below laid (by kernel_rfl) rfl (by kernel_rfl) Try.underlying4 ?_ rfl rfl rfl⟩
  rw [hcv, show cs = [.bool true] from hcs]; rfl

set_option maxRecDepth 100000 in
theorem SplitOrder_lifted (os : Os) (started : os.Started) (H : Type) (enc : TypeId × Value → H) :
    ReturnsInHanded {} Try.checked os 10 .any (Rows.splitOrderSpec.pre6 enc Try.prog Try.f10 Rows.splitOrderRow.domain false) (Rows.splitOrderSpec.post enc Try.prog Try.f10 false true false false) := by
  refine returnsInHanded_of_change (C := Try.checked) own started (by kernel_rfl) Try.func10
    (ChangeSpec.witness6 (enc := enc) (C := Try.checked) false ⟨#[], #[.slice none 0 0, .int .u8 0, .int .u8 0], []⟩ 8 (by kernel_rfl) (by kernel_rfl) (by kernel_rfl) (by kernel_rfl)) ?_
  intro W base args ds gs before hval hW _ _
  exact SplitOrder_contract H enc W base args ds gs before hval hW

theorem SplitOrder_said : Rows.SplitOrderSaid :=
  OpenClaim.holds_of_wide 10 Try.f10 rfl rfl rfl rfl rfl rfl rfl ⟨rfl, rfl, rfl, rfl, rfl⟩ rfl rfl rfl rfl rfl (by kernel_rfl) Try.func10 (by kernel_rfl)
    (of_decide_eq_true (by kernel_rfl)) (by unfold Func.isWrapper; first | (rw [if_pos (by decide +kernel)]; kernel_rfl) | (rw [if_neg (by decide +kernel)]; exact ⟨rfl, rfl⟩))
    (fun os started H enc _ => SplitOrder_lifted os started H enc)
end Go.Proofs.Ytkdbiiollbeoeaa.V
#print axioms Go.Proofs.Ytkdbiiollbeoeaa.V.SplitOrder_said
