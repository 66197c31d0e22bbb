/-
  Classes in memory. No program is named here.
-/
import Derived.Test.YtdfnbogkniikbaaDoorA4
import Derived.Test.YtdfnbogkniikbaaDoorC0
namespace Go.Proofs.YtdfnbogkniikbaaDoor.V
open Go
set_option linter.unusedVariables false
def clsCells (x : Cl) : List Value := [.int .u64 (x.word 0), .int .u64 (x.word 1), .int .u64 (x.word 2), .int .u64 (x.word 3)]
def En.cls : En Cl where
  sz := 4
  agg := true
  R := fun _ _ cs x => cs = clsCells x
  sc := fun h => by cases h
  pos := by decide
  len := by rintro _ _ _ _ rfl; rfl
  one := by rintro _ _ _ _ rfl u hu; simp [clsCells] at hu; rcases hu with rfl | rfl | rfl | rfl <;> rfl
  mono := fun _ h => h
  move := fun _ h => h
theorem rep_cls {x : Cl} {s : St} {v : Value} : (Pd.rep En.cls x).p s v ↔ v = .agg (clsCells x).toArray :=
  ⟨fun ⟨_, hv, hc⟩ => by cases hc; exact hv, fun hv => ⟨clsCells x, hv, rfl⟩⟩
end Go.Proofs.YtdfnbogkniikbaaDoor.V
