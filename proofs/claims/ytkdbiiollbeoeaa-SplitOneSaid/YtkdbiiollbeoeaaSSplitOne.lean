/-
  The law 'SplitOne' of the package scantlinglaw02 is true for every input, and leaves what it is given as it was.
-/
import Derived.Test.YtkdbiiollbeoeaaRows
import Derived.Test.YtkdbiiollbeoeaaW02b
import Derived.Test.YtkdbiiollbeoeaaL02
import Derived.Test.YtkdbiiollbeoeaaB0
import Derived.WalkKit
import Derived.ProofKit
import Derived.OpenShut
import Derived.Handed
import Derived.KernelRfl
namespace Go.Proofs.Ytkdbiiollbeoeaa.V
open Go Go.ChangeShapes Go.WideShapes Go.RowKit
set_option linter.unusedVariables false

theorem SplitOne_contract (H : Type) (enc : TypeId × Value → H) (W : World) (base : Nat) (args : Array Value) (ds gs : List (DataW H)) (before : List MemPlace)
    (hval : ∀ (j : Nat) t v, Try.f13.params[j]? = some t → args[j]? = some v → Value.okWide Try.prog W .any base t v)
    (hW : DataW.Whole enc Try.prog Try.f13.params.toList Rows.splitOneSpec.vars false W args.toList ds gs before) :
    Calls Try.prog 13 args W fun e W' => ∃ v, e = .returned v ∧ Rows.splitOneSpec.post enc Try.prog Try.f13 false true false false W args v W' := by
  have hW' := hW
  obtain ⟨p, q, hA0, hV, rfl, hfz, hnd⟩ := hW
  have hA : DataW.TrodAll enc Try.prog W 0 (fun _ => true) true Try.f13.params.toList args.toList ds p := hA0
  rw [Try.params13] at hA hval
  obtain ⟨v0, vs0, d0, ds0, p0, q0, hargs, rfl, rfl, h0, r0⟩ := trodAll_cons hA
  obtain ⟨rfl, rfl, rfl⟩ := trodAll_nil r0
  obtain rfl : args = #[v0] := by cases args; simp_all
  obtain ⟨rfl, rfl⟩ := trodVars_none hV
  obtain ⟨x0, hx0, g0⟩ := (Rd.cls Try.underlying24 (by kernel_rfl) Try.underlying22 (by kernel_rfl)).open (okWide_any (hval 0 24 v0 rfl rfl)) h0
  refine ((law02_SplitOne_ok (law02_SplitOne_true)).run ⟨W, fun _ => False, fun _ h => h.elim⟩ [v0] ⟨hx0, trivial⟩).mono fun e W' ⟨v, s', he, hw, hx, hr⟩ => ?_
  subst hw
  obtain ⟨cs, hcv, hcs⟩ := hr
  refine ⟨v, he, post_law hW' hx.below laid (by kernel_rfl) rfl (by kernel_rfl) Try.underlying4 ?_ rfl rfl rfl⟩
  rw [hcv, show cs = [.bool true] from hcs]; rfl

set_option maxRecDepth 100000 in
theorem SplitOne_lifted (os : Os) (started : os.Started) (H : Type) (enc : TypeId × Value → H) :
    ReturnsInHanded {} Try.checked os 13 .any (Rows.splitOneSpec.pre6 enc Try.prog Try.f13 Rows.splitOneRow.domain false) (Rows.splitOneSpec.post enc Try.prog Try.f13 false true false false) := by
  refine returnsInHanded_of_change (C := Try.checked) own started (by kernel_rfl) Try.func13
    (ChangeSpec.witness6 (enc := enc) (C := Try.checked) false ⟨#[], #[.agg #[.int .u64 0, .int .u64 0, .int .u64 0, .int .u64 0]], []⟩ 8 (by kernel_rfl) (by kernel_rfl) (by kernel_rfl) (by kernel_rfl)) ?_
  intro W base args ds gs before hval hW _ _
  exact SplitOne_contract H enc W base args ds gs before hval hW

theorem SplitOne_said : Rows.SplitOneSaid :=
  OpenClaim.holds_of_wide 13 Try.f13 rfl rfl rfl rfl rfl rfl rfl ⟨rfl, rfl, rfl, rfl, rfl⟩ rfl rfl rfl rfl rfl (by kernel_rfl) Try.func13 (by kernel_rfl)
    (of_decide_eq_true (by kernel_rfl)) (by unfold Func.isWrapper; first | (rw [if_pos (by decide +kernel)]; kernel_rfl) | (rw [if_neg (by decide +kernel)]; exact ⟨rfl, rfl⟩))
    (fun os started H enc _ => SplitOne_lifted os started H enc)
end Go.Proofs.Ytkdbiiollbeoeaa.V
#print axioms Go.Proofs.Ytkdbiiollbeoeaa.V.SplitOne_said
