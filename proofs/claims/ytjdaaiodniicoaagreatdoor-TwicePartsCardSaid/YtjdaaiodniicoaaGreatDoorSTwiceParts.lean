/-
  The law 'TwiceParts' of the package scantlinglaw20 is true for every input, and leaves what it is given as it was.
  Its row lists three tables of the library, tied to the text of the program.
-/
import Derived.Test.YtjdaaiodniicoaaGreatDoorRows
import Derived.Test.YtjdaaiodniicoaaGreatDoorTie
import Derived.Test.YtjdaaiodniicoaaGreatDoorCards
import Derived.Test.YtjdaaiodniicoaaGreatDoorTwicePartsP6
import Derived.SevenTiedAt
import Derived.Handed
import Derived.KernelRfl
namespace Go.Proofs.YtjdaaiodniicoaaGreatDoor.V
open Go Go.ChangeShapes Go.WideShapes Go.RowKit
set_option linter.unusedVariables false

set_option maxRecDepth 100000 in
theorem TwiceParts_contract (H : Type) (enc : TypeId × Value → H) (W : World) (base : Nat) (args : Array Value) (ds gs : List (DataW H)) (before : List MemPlace)
    (hval : ∀ (j : Nat) t v, Tryz.f4.params[j]? = some t → args[j]? = some v → Value.okWide Tryz.prog W .any base t v)
    (hW : DataW.Whole enc Tryz.prog Tryz.f4.params.toList Rows.twicePartsSpec.vars false W args.toList ds gs before)
    (hwt : (DataW.weightsEach Tryz.prog (Tryz.f4.params.toList ++ Rows.twicePartsSpec.plain.varTypes Tryz.prog) (ds ++ gs)).all (· ≤ reachBytes) = true) (hL : laidMetH Tryz.prog lst W) :
    Calls Tryz.prog 4 args W fun e W' => ∃ v, e = .returned v ∧ Rows.twicePartsSpec.post enc Tryz.prog Tryz.f4 false true false false W args v W' := by
  have hW' := hW
  obtain ⟨p, q, hA0, hV, rfl, hfz, hnd⟩ := hW
  have hA : DataW.TrodAll enc Tryz.prog W 0 (fun _ => true) true Tryz.f4.params.toList args.toList ds p := hA0
  rw [Tryz.params4] at hA hval hwt
  obtain ⟨v0, vs0, d0, ds0, p0, q0, hargs, rfl, rfl, h0, r0⟩ := trodAll_cons hA
  obtain ⟨v1, vs1, d1, ds1, p1, q1, rfl, rfl, rfl, h1, r1⟩ := trodAll_cons r0
  obtain ⟨v2, vs2, d2, ds2, p2, q2, rfl, rfl, rfl, h2, r2⟩ := trodAll_cons r1
  obtain ⟨rfl, rfl, rfl⟩ := trodAll_nil r2
  obtain rfl : args = #[v0, v1, v2] := by cases args; simp_all
  obtain ⟨rfl, rfl⟩ := trodVars_none hV
  obtain ⟨x0, hx0, g0⟩ := (Rd.struct (E := En.SDesc) Tryz.underlying24 rfl (by kernel_rfl) (RdF.solo (RdF.last (Rd.slice Tryz.underlying22 (by kernel_rfl) (by kernel_rfl) (Rd.struct (E := En.SNode) Tryz.underlying42 rfl (by kernel_rfl) (RdF.cons (Rd.int Tryz.underlying3 (by kernel_rfl)) rfl (RdF.cons (Rd.int Tryz.underlying3 (by kernel_rfl)) rfl (RdF.cons (Rd.int Tryz.underlying3 (by kernel_rfl)) rfl (RdF.cons (Rd.int Tryz.underlying3 (by kernel_rfl)) rfl (RdF.cons (Rd.int Tryz.underlying3 (by kernel_rfl)) rfl (RdF.cons (Rd.cls Tryz.underlying40 (by kernel_rfl) Tryz.underlying38 (by kernel_rfl)) rfl (RdF.last (Rd.str Tryz.underlying9 (by kernel_rfl)) rfl))))))))) rfl))).open (okWide_any (hval 0 24 v0 rfl rfl)) h0 (weigh hwt 0 rfl rfl)
  obtain ⟨x1, hx1, g1⟩ := (Rd.struct (E := En.SDesc) Tryz.underlying24 rfl (by kernel_rfl) (RdF.solo (RdF.last (Rd.slice Tryz.underlying22 (by kernel_rfl) (by kernel_rfl) (Rd.struct (E := En.SNode) Tryz.underlying42 rfl (by kernel_rfl) (RdF.cons (Rd.int Tryz.underlying3 (by kernel_rfl)) rfl (RdF.cons (Rd.int Tryz.underlying3 (by kernel_rfl)) rfl (RdF.cons (Rd.int Tryz.underlying3 (by kernel_rfl)) rfl (RdF.cons (Rd.int Tryz.underlying3 (by kernel_rfl)) rfl (RdF.cons (Rd.int Tryz.underlying3 (by kernel_rfl)) rfl (RdF.cons (Rd.cls Tryz.underlying40 (by kernel_rfl) Tryz.underlying38 (by kernel_rfl)) rfl (RdF.last (Rd.str Tryz.underlying9 (by kernel_rfl)) rfl))))))))) rfl))).open (okWide_any (hval 1 24 v1 rfl rfl)) h1 (weigh hwt 1 rfl rfl)
  obtain ⟨x2, hx2, g2⟩ := (Rd.slice Tryz.underlying29 (by kernel_rfl) (by kernel_rfl) (Rd.int Tryz.underlying5 (by kernel_rfl))).open (okWide_any (hval 2 29 v2 rfl rfl)) h2 (weigh hwt 2 rfl rfl)
  refine ((law20_TwiceParts_ok (law20_TwiceParts_true (fun n hn => (g0.2 n hn).2.2.2.2.2.2) (fun n hn => (g1.2 n hn).2.2.2.2.2.2) (fun c hc => g2.2 c hc))).run ⟨W, fun _ => False, fun _ h => h.elim⟩ [v0, v1, v2] (gl_of_tab (tab_of_laid hL)) ⟨hx0, hx1, hx2, trivial⟩).mono fun e W' ⟨v, s', he, hw, hx, hr⟩ => ?_
  subst hw
  obtain ⟨cs, hcv, hcs⟩ := hr
  refine ⟨v, he, post_law hW' hx.below laid (by kernel_rfl) rfl (by kernel_rfl) Tryz.underlying4 ?_ rfl rfl rfl⟩
  rw [hcv, show cs = [.bool true] from hcs]; rfl

set_option maxRecDepth 100000 in
theorem TwiceParts_lifted (os : Os) (started : os.Started) (H : Type) (enc : TypeId × Value → H) :
    ReturnsInHanded {} Tryz.checked os 4 .any (fun w args => (Rows.twicePartsSpec.pre enc Tryz.prog Tryz.f4 [] false w args ∧ laidMetH Tryz.prog Rows.twicePartsRow.laid w) ∧ sizedMet enc Tryz.prog Tryz.f4 (OpenSpec.ofChange Rows.twicePartsSpec) false w args)
      (Rows.twicePartsSpec.post enc Tryz.prog Tryz.f4 false true false false) := by
  refine returnsInHanded_of_change_and (C := Tryz.checked) (X := fun w _ => laidMetH Tryz.prog lst w) (fun _ _ _ hh h => h.of_heap hh) own started (by kernel_rfl) Tryz.func4
    (ChangeSpec.witness_at (enc := enc) (C := Tryz.checked) (os := os) (X := fun w _ => laidMetH Tryz.prog lst w) false (laidWorld os) #[.agg #[.slice none 0 0], .agg #[.slice none 0 0], .slice none 0 0] 8 rfl (by kernel_rfl) (by kernel_rfl) (by kernel_rfl) (by kernel_rfl) (by kernel_rfl) (laid_met os _)) ?_
  intro W base args ds gs before hval hW _ hwt hL _
  exact TwiceParts_contract H enc W base args ds gs before hval hW hwt hL

theorem TwiceParts_said : Rows.TwicePartsSaid :=
  OpenClaim.holds_of_wide 4 Tryz.f4 rfl rfl rfl rfl rfl rfl rfl ⟨rfl, rfl, rfl, rfl, rfl⟩ rfl rfl rfl rfl rfl (by kernel_rfl) Tryz.func4 (by kernel_rfl)
    (of_decide_eq_true (by kernel_rfl)) (by unfold Func.isWrapper; first | (rw [if_pos (by decide +kernel)]; kernel_rfl) | (rw [if_neg (by decide +kernel)]; exact ⟨rfl, rfl⟩))
    (fun os started H enc _ => TwiceParts_lifted os started H enc)
theorem TwiceParts_card : Rows.TwicePartsCardSaid :=
  Claim7.holds_tied_plain_at .later [] [.data, .data, .data, .data, .funcs] true (true, "c2d6e30f7f447a58a24747c99b81e6cb2e1f87869e308aae90b19226eab167a0") false
    TwiceParts_said (fun _ h => by cases h) (by kernel_rfl) (fun _ h => by cases h) twiceParts_row_tie rfl ⟨rfl, rfl⟩ (by kernel_rfl) rfl
    (fun f fn hf hfn => by
      obtain rfl : f = 4 := Option.some.inj ((show Tryz.prog.funcNamed "scantling/scantlinglaw20.TwiceParts" = some 4 by kernel_rfl).symm.trans hf) |>.symm
      obtain rfl : fn = Tryz.f4 := (Option.some.inj (Tryz.func4.symm.trans hfn)).symm
      refine ⟨by kernel_rfl, fun j t ht => ?_⟩
      rw [Tryz.params4] at ht
      have key : ∀ t ∈ ([24, 24, 29] : List TypeId), Tryz.prog.wantsStandIn t = false := by
        intro t ht
        simp only [List.mem_cons, List.not_mem_nil, or_false] at ht
        rcases ht with rfl | rfl | rfl <;> kernel_rfl
      refine key t (List.mem_of_getElem? (i := j) ?_)
      simpa using ht)
    (by kernel_rfl)
end Go.Proofs.YtjdaaiodniicoaaGreatDoor.V
#print axioms Go.Proofs.YtjdaaiodniicoaaGreatDoor.V.TwiceParts_card
