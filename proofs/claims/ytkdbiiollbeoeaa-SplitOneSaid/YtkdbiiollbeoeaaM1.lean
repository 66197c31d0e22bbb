/-
  Facts on the program as a whole, and the contracts of functions that are proved by hand.
-/
import Derived.Test.YtkdbiiollbeoeaaM0
import Derived.Test.YtkdbiiollbeoeaaChecked
import Derived.KernelRfl
import Derived.ProofKit
namespace Go.Proofs.Ytkdbiiollbeoeaa.V
open Go
theorem follows : Try.prog.follows .mixedOrders = true := by kernel_rfl
theorem laid : laidOutB Try.prog = true := by kernel_rfl
theorem own : ownKnob Try.prog.godebug = none := by kernel_rfl
end Go.Proofs.Ytkdbiiollbeoeaa.V
