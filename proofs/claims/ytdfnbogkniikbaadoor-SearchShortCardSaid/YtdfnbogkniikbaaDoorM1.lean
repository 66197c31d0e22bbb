/-
  Facts on the program as a whole, and the contracts of functions that are proved by hand.
-/
import Derived.Test.YtdfnbogkniikbaaDoorM0
import Derived.Test.YtdfnbogkniikbaaDoorChecked
import Derived.KernelRfl
import Derived.ProofKit
namespace Go.Proofs.YtdfnbogkniikbaaDoor.V
open Go
theorem follows : Tryd.prog.follows .mixedOrders = true := by kernel_rfl
theorem laid : laidOutB Tryd.prog = true := by kernel_rfl
theorem own : ownKnob Tryd.prog.godebug = none := by kernel_rfl
end Go.Proofs.YtdfnbogkniikbaaDoor.V
