/-
  What the rows list of the library's tables: what they give a walk; a world that meets it.
-/
import Derived.Test.YtdfnbogkniikbaaDoorRows
import Derived.Test.YtdfnbogkniikbaaDoorMK
import Derived.Test.YtdfnbogkniikbaaDoorB0
import Derived.LaidLaws
import Derived.LaidHandle
import Derived.Lib.LaidTab
import Derived.Stop.LaidErr
import Derived.WalkKit
import Derived.ProofKit
import Derived.OpenShut
import Derived.Handed
import Derived.KernelRfl
namespace Go.Proofs.YtdfnbogkniikbaaDoor.V
open Go Go.ChangeShapes Go.WideShapes Go.RowKit
set_option linter.unusedVariables false

def lst : List (String × DataW Unit) := [("math/bits.deBruijn32tab", Rows.laid_math_bits_deBruijn32tab), ("math/bits.deBruijn64tab", Rows.laid_math_bits_deBruijn64tab), ("internal/strconv.uint64pow10", Rows.laid_internal_strconv_uint64pow10)]
theorem tab_of_laid {W : World} (h : laidMetH Tryd.prog lst W) : Lib.TabIs Tryd.prog W "internal/strconv.uint64pow10" .u64 Lib.pow10Tab := by
  have h' : laidMet Tryd.prog lst W := h
  have e : (Rows.laid_internal_strconv_uint64pow10 : DataW Unit) = Lib.tabData .u64 Lib.pow10Tab := by kernel_rfl
  unfold lst at h'
  have h2 := h'.tail.tail
  rw [e] at h2
  exact Lib.tabIs_of_head (g := 0) (t := 131) (e := 65) (n := 20) (by kernel_rfl) (by kernel_rfl) Tryd.underlying131 Tryd.underlying65 (by kernel_rfl) (by kernel_rfl) h2
theorem gl_of_tab {W : World} (h : Lib.TabIs Tryd.prog W "internal/strconv.uint64pow10" .u64 Lib.pow10Tab) : Gl ⟨W, fun _ => False, fun _ h => h.elim⟩ := by
  intro p hp
  unfold gtab at hp
  obtain rfl := List.mem_singleton.1 hp
  refine ⟨fun h => h, ?_⟩
  unfold Lib.TabIs World.var? at h
  have hg : Tryd.prog.globalNamed "internal/strconv.uint64pow10" = some 0 := by kernel_rfl
  rw [hg] at h
  simp only [Option.bind_some] at h
  split at h
  · rename_i cs t fr hc
    refine ⟨t, fr, ?_⟩
    show W.heap[0]? = _
    rw [hc]
    simp only [Option.some.injEq] at h
    rw [h]
    simp [Lib.pow10Tab]
  · cases h
def tabCells : DataW Unit → Array Value
  | .agg l => (l.map fun d => match d with | .lit (.int k z) => Value.int k z | _ => undef).toArray
  | _ => #[]
def fillTab (d : DataW Unit) : Obj → Obj
  | .cells _ t fr => .cells (tabCells d) t fr
  | o => o
noncomputable def laidWorld (os : Os) : World :=
  let w0 := World.holding Tryd.prog os ⟨#[], #[], []⟩
  { w0 with heap := ((w0.heap.modify 0 (fillTab Rows.laid_internal_strconv_uint64pow10)).modify 1 (fillTab Rows.laid_math_bits_deBruijn32tab)).modify 2 (fillTab Rows.laid_math_bits_deBruijn64tab) }
theorem laid_met (os : Os) (args : Array Value) : laidMetH Tryd.prog lst ((laidWorld os).forCall (fun _ _ => 0) ⟨#[], args, []⟩).memory :=
  laidMetH_of_parts (laidMet_of_run' 8 (by kernel_rfl) (by kernel_rfl)) (by kernel_rfl)
theorem weigh {H : Type} {P : Program} {ts : List TypeId} {ds : List (DataW H)} (h : (DataW.weightsEach P ts ds).all (· ≤ reachBytes) = true) (j : Nat) {t : TypeId} {d : DataW H} (ht : ts[j]? = some t) (hd : ds[j]? = some d) : ∀ n ∈ d.weights P t, n ≤ reachBytes := fun n hn => by
  have := List.all_eq_true.1 h n (DataW.weights_mem_each ht hd n hn)
  simpa using this
end Go.Proofs.YtdfnbogkniikbaaDoor.V
