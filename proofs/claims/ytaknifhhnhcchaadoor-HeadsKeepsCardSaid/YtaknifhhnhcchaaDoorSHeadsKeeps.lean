/-
  The law 'HeadsKeeps' of the package scantlinglaw14 is true for every input, and leaves what it is given as it was.
  Its row lists three tables of the library, tied to the text of the program.
-/
import Derived.Test.YtaknifhhnhcchaaDoorRows
import Derived.Test.YtaknifhhnhcchaaDoorTie
import Derived.Test.YtaknifhhnhcchaaDoorCards
import Derived.Test.YtaknifhhnhcchaaDoorHeadsKeepsP3
import Derived.SevenTiedAt
import Derived.Handed
import Derived.KernelRfl
namespace Go.Proofs.YtaknifhhnhcchaaDoor.V
open Go Go.ChangeShapes Go.WideShapes Go.RowKit
set_option linter.unusedVariables false

set_option maxRecDepth 100000 in
theorem HeadsKeeps_contract (H : Type) (enc : TypeId × Value → H) (W : World) (base : Nat) (args : Array Value) (ds gs : List (DataW H)) (before : List MemPlace)
    (hval : ∀ (j : Nat) t v, Tryd.f4.params[j]? = some t → args[j]? = some v → Value.okWide Tryd.prog W .any base t v)
    (hW : DataW.Whole enc Tryd.prog Tryd.f4.params.toList Rows.headsKeepsSpec.vars false W args.toList ds gs before)
    (hwt : (DataW.weightsEach Tryd.prog (Tryd.f4.params.toList ++ Rows.headsKeepsSpec.plain.varTypes Tryd.prog) (ds ++ gs)).all (· ≤ reachBytes) = true) (hL : laidMetH Tryd.prog lst W) :
    Calls Tryd.prog 4 args W fun e W' => ∃ v, e = .returned v ∧ Rows.headsKeepsSpec.post enc Tryd.prog Tryd.f4 false true false false W args v W' := by
  have hW' := hW
  obtain ⟨p, q, hA0, hV, rfl, hfz, hnd⟩ := hW
  have hA : DataW.TrodAll enc Tryd.prog W 0 (fun _ => true) true Tryd.f4.params.toList args.toList ds p := hA0
  rw [Tryd.params4] at hA hval hwt
  obtain ⟨v0, vs0, d0, ds0, p0, q0, hargs, rfl, rfl, h0, r0⟩ := trodAll_cons hA
  obtain ⟨v1, vs1, d1, ds1, p1, q1, rfl, rfl, rfl, h1, r1⟩ := trodAll_cons r0
  obtain ⟨rfl, rfl, rfl⟩ := trodAll_nil r1
  obtain rfl : args = #[v0, v1] := by cases args; simp_all
  obtain ⟨rfl, rfl⟩ := trodVars_none hV
  obtain ⟨x0, hx0, g0⟩ := (Rd.struct (E := En.SDesc) Tryd.underlying41 rfl (by kernel_rfl) (RdF.solo (RdF.last (Rd.slice Tryd.underlying39 (by kernel_rfl) (by kernel_rfl) (Rd.struct (E := En.SNode) Tryd.underlying69 rfl (by kernel_rfl) (RdF.cons (Rd.int Tryd.underlying3 (by kernel_rfl)) rfl (RdF.cons (Rd.int Tryd.underlying3 (by kernel_rfl)) rfl (RdF.cons (Rd.int Tryd.underlying3 (by kernel_rfl)) rfl (RdF.cons (Rd.int Tryd.underlying3 (by kernel_rfl)) rfl (RdF.cons (Rd.int Tryd.underlying3 (by kernel_rfl)) rfl (RdF.cons (Rd.cls Tryd.underlying67 (by kernel_rfl) Tryd.underlying65 (by kernel_rfl)) rfl (RdF.last (Rd.str Tryd.underlying9 (by kernel_rfl)) rfl))))))))) rfl))).open (okWide_any (hval 0 41 v0 rfl rfl)) h0 (weigh hwt 0 rfl rfl)
  obtain ⟨x1, hx1, g1⟩ := (Rd.slice Tryd.underlying43 (by kernel_rfl) (by kernel_rfl) (Rd.struct (E := En.SItem) Tryd.underlying47 rfl (by kernel_rfl) (RdF.cons (Rd.int Tryd.underlying3 (by kernel_rfl)) rfl (RdF.cons (Rd.int Tryd.underlying3 (by kernel_rfl)) rfl (RdF.cons (Rd.int Tryd.underlying3 (by kernel_rfl)) rfl (RdF.last (Rd.int Tryd.underlying3 (by kernel_rfl)) rfl)))))).open (okWide_any (hval 1 43 v1 rfl rfl)) h1 (weigh hwt 1 rfl rfl)
  refine ((law14_HeadsKeeps_ok (law14_HeadsKeeps_true (fun n hn => (g0.2 n hn).2.2.2.2.2.2))).run ⟨W, fun _ => False, fun _ h => h.elim⟩ [v0, v1] (gl_of_tab (tab_of_laid hL)) ⟨hx0, hx1, trivial⟩).mono fun e W' ⟨v, s', he, hw, hx, hr⟩ => ?_
  subst hw
  obtain ⟨cs, hcv, hcs⟩ := hr
  refine ⟨v, he, post_law hW' hx.below laid (by kernel_rfl) rfl (by kernel_rfl) Tryd.underlying4 ?_ rfl rfl rfl⟩
  rw [hcv, show cs = [.bool true] from hcs]; rfl

set_option maxRecDepth 100000 in
theorem HeadsKeeps_lifted (os : Os) (started : os.Started) (H : Type) (enc : TypeId × Value → H) :
    ReturnsInHanded {} Tryd.checked os 4 .any (fun w args => (Rows.headsKeepsSpec.pre enc Tryd.prog Tryd.f4 [] false w args ∧ laidMetH Tryd.prog Rows.headsKeepsRow.laid w) ∧ sizedMet enc Tryd.prog Tryd.f4 (OpenSpec.ofChange Rows.headsKeepsSpec) false w args)
      (Rows.headsKeepsSpec.post enc Tryd.prog Tryd.f4 false true false false) := by
  refine returnsInHanded_of_change_and (C := Tryd.checked) (X := fun w _ => laidMetH Tryd.prog lst w) (fun _ _ _ hh h => h.of_heap hh) own started (by kernel_rfl) Tryd.func4
    (ChangeSpec.witness_at (enc := enc) (C := Tryd.checked) (os := os) (X := fun w _ => laidMetH Tryd.prog lst w) false (laidWorld os) #[.agg #[.slice none 0 0], .slice none 0 0] 8 rfl (by kernel_rfl) (by kernel_rfl) (by kernel_rfl) (by kernel_rfl) (by kernel_rfl) (laid_met os _)) ?_
  intro W base args ds gs before hval hW _ hwt hL _
  exact HeadsKeeps_contract H enc W base args ds gs before hval hW hwt hL

theorem HeadsKeeps_said : Rows.HeadsKeepsSaid :=
  OpenClaim.holds_of_wide 4 Tryd.f4 rfl rfl rfl rfl rfl rfl rfl ⟨rfl, rfl, rfl, rfl, rfl⟩ rfl rfl rfl rfl rfl (by kernel_rfl) Tryd.func4 (by kernel_rfl)
    (of_decide_eq_true (by kernel_rfl)) (by unfold Func.isWrapper; first | (rw [if_pos (by decide +kernel)]; kernel_rfl) | (rw [if_neg (by decide +kernel)]; exact ⟨rfl, rfl⟩))
    (fun os started H enc _ => HeadsKeeps_lifted os started H enc)
theorem HeadsKeeps_card : Rows.HeadsKeepsCardSaid :=
  Claim7.holds_tied_plain_at .later [] [.data, .data, .data, .data] true (true, "72eeb4f2be6a6e9505f0b5be9cfd7f80a1faf59d06fd093bbf557cfd768ccc3a") false
    HeadsKeeps_said (fun _ h => by cases h) (by kernel_rfl) (fun _ h => by cases h) headsKeeps_row_tie rfl ⟨rfl, rfl⟩ (by kernel_rfl) rfl
    (fun f fn hf hfn => by
      obtain rfl : f = 4 := Option.some.inj ((show Tryd.prog.funcNamed "scantling/scantlinglaw14.HeadsKeeps" = some 4 by kernel_rfl).symm.trans hf) |>.symm
      obtain rfl : fn = Tryd.f4 := (Option.some.inj (Tryd.func4.symm.trans hfn)).symm
      refine ⟨by kernel_rfl, fun j t ht => ?_⟩
      rw [Tryd.params4] at ht
      have key : ∀ t ∈ ([41, 43] : List TypeId), Tryd.prog.wantsStandIn t = false := by
        intro t ht
        simp only [List.mem_cons, List.not_mem_nil, or_false] at ht
        rcases ht with rfl | rfl <;> kernel_rfl
      refine key t (List.mem_of_getElem? (i := j) ?_)
      simpa using ht)
    (by kernel_rfl)
end Go.Proofs.YtaknifhhnhcchaaDoor.V
#print axioms Go.Proofs.YtaknifhhnhcchaaDoor.V.HeadsKeeps_card
