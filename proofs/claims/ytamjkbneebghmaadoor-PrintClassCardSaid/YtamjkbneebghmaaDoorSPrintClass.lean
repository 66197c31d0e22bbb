/-
  The law 'PrintClass' of the package scantlinglaw06 is true for every input, and leaves what it is given as it was.
  Its row lists three tables of the library, tied to the text of the program.
-/
import Derived.Test.YtamjkbneebghmaaDoorRows
import Derived.Test.YtamjkbneebghmaaDoorTie
import Derived.Test.YtamjkbneebghmaaDoorCards
import Derived.Test.YtamjkbneebghmaaDoorPrintClassP2
import Derived.SevenTiedAt
import Derived.Handed
import Derived.KernelRfl
namespace Go.Proofs.YtamjkbneebghmaaDoor.V
open Go Go.ChangeShapes Go.WideShapes Go.RowKit
set_option linter.unusedVariables false

set_option maxRecDepth 100000 in
theorem PrintClass_contract (H : Type) (enc : TypeId × Value → H) (W : World) (base : Nat) (args : Array Value) (ds gs : List (DataW H)) (before : List MemPlace)
    (hval : ∀ (j : Nat) t v, Tryd.f4.params[j]? = some t → args[j]? = some v → Value.okWide Tryd.prog W .any base t v)
    (hW : DataW.Whole enc Tryd.prog Tryd.f4.params.toList Rows.printClassSpec.vars false W args.toList ds gs before)
    (hwt : (DataW.weightsEach Tryd.prog (Tryd.f4.params.toList ++ Rows.printClassSpec.plain.varTypes Tryd.prog) (ds ++ gs)).all (· ≤ reachBytes) = true) (hL : laidMetH Tryd.prog lst W) :
    Calls Tryd.prog 4 args W fun e W' => ∃ v, e = .returned v ∧ Rows.printClassSpec.post enc Tryd.prog Tryd.f4 false true false false W args v W' := by
  have hW' := hW
  obtain ⟨p, q, hA0, hV, rfl, hfz, hnd⟩ := hW
  have hA : DataW.TrodAll enc Tryd.prog W 0 (fun _ => true) true Tryd.f4.params.toList args.toList ds p := hA0
  rw [Tryd.params4] at hA hval hwt
  obtain ⟨v0, vs0, d0, ds0, p0, q0, hargs, rfl, rfl, h0, r0⟩ := trodAll_cons hA
  obtain ⟨rfl, rfl, rfl⟩ := trodAll_nil r0
  obtain rfl : args = #[v0] := by cases args; simp_all
  obtain ⟨rfl, rfl⟩ := trodVars_none hV
  obtain ⟨x0, hx0, g0⟩ := (Rd.cls Tryd.underlying27 (by kernel_rfl) Tryd.underlying25 (by kernel_rfl)).open (okWide_any (hval 0 27 v0 rfl rfl)) h0 (weigh hwt 0 rfl rfl)
  refine ((law06_PrintClass_ok (law06_PrintClass_true)).run ⟨W, fun _ => False, fun _ h => h.elim⟩ [v0] (gl_of_tab (tab_of_laid hL)) ⟨hx0, trivial⟩).mono fun e W' ⟨v, s', he, hw, hx, hr⟩ => ?_
  subst hw
  obtain ⟨cs, hcv, hcs⟩ := hr
  refine ⟨v, he, post_law hW' hx.below laid (by kernel_rfl) rfl (by kernel_rfl) Tryd.underlying4 ?_ rfl rfl rfl⟩
  rw [hcv, show cs = [.bool true] from hcs]; rfl

set_option maxRecDepth 100000 in
theorem PrintClass_lifted (os : Os) (started : os.Started) (H : Type) (enc : TypeId × Value → H) :
    ReturnsInHanded {} Tryd.checked os 4 .any (fun w args => (Rows.printClassSpec.pre enc Tryd.prog Tryd.f4 [] false w args ∧ laidMetH Tryd.prog Rows.printClassRow.laid w) ∧ sizedMet enc Tryd.prog Tryd.f4 (OpenSpec.ofChange Rows.printClassSpec) false w args)
      (Rows.printClassSpec.post enc Tryd.prog Tryd.f4 false true false false) := by
  refine returnsInHanded_of_change_and (C := Tryd.checked) (X := fun w _ => laidMetH Tryd.prog lst w) (fun _ _ _ hh h => h.of_heap hh) own started (by kernel_rfl) Tryd.func4
    (ChangeSpec.witness_at (enc := enc) (C := Tryd.checked) (os := os) (X := fun w _ => laidMetH Tryd.prog lst w) false (laidWorld os) #[.agg #[.int .u64 0, .int .u64 0, .int .u64 0, .int .u64 0]] 8 rfl (by kernel_rfl) (by kernel_rfl) (by kernel_rfl) (by kernel_rfl) (by kernel_rfl) (laid_met os _)) ?_
  intro W base args ds gs before hval hW _ hwt hL _
  exact PrintClass_contract H enc W base args ds gs before hval hW hwt hL

theorem PrintClass_said : Rows.PrintClassSaid :=
  OpenClaim.holds_of_wide 4 Tryd.f4 rfl rfl rfl rfl rfl rfl rfl ⟨rfl, rfl, rfl, rfl, rfl⟩ rfl rfl rfl rfl rfl (by kernel_rfl) Tryd.func4 (by kernel_rfl)
    (of_decide_eq_true (by kernel_rfl)) (by unfold Func.isWrapper; first | (rw [if_pos (by decide +kernel)]; kernel_rfl) | (rw [if_neg (by decide +kernel)]; exact ⟨rfl, rfl⟩))
    (fun os started H enc _ => PrintClass_lifted os started H enc)
theorem PrintClass_card : Rows.PrintClassCardSaid :=
  Claim7.holds_tied_plain_at .later [] [.data, .data, .data, .mapped] true (true, "a2ff5133958cf72a7ba4b1285571557e197266a07d3585f987753863214c4272") false
    PrintClass_said (fun _ h => by cases h) (by kernel_rfl) (fun _ h => by cases h) printClass_row_tie rfl ⟨rfl, rfl⟩ (by kernel_rfl) rfl
    (fun f fn hf hfn => by
      obtain rfl : f = 4 := Option.some.inj ((show Tryd.prog.funcNamed "scantling/scantlinglaw06.PrintClass" = some 4 by kernel_rfl).symm.trans hf) |>.symm
      obtain rfl : fn = Tryd.f4 := (Option.some.inj (Tryd.func4.symm.trans hfn)).symm
      refine ⟨by kernel_rfl, fun j t ht => ?_⟩
      rw [Tryd.params4] at ht
      have key : ∀ t ∈ ([27] : List TypeId), Tryd.prog.wantsStandIn t = false := by
        intro t ht
        simp only [List.mem_cons, List.not_mem_nil, or_false] at ht
        subst ht; kernel_rfl
      refine key t (List.mem_of_getElem? (i := j) ?_)
      simpa using ht)
    (by kernel_rfl)
end Go.Proofs.YtamjkbneebghmaaDoor.V
#print axioms Go.Proofs.YtamjkbneebghmaaDoor.V.PrintClass_card
