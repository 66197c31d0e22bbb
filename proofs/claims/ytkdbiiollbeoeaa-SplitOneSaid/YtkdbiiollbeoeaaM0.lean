/-
  What the functions that are proved by hand compute, as relations over plain data.
-/
import Derived.Test.YtkdbiiollbeoeaaA8
namespace Go.Proofs.Ytkdbiiollbeoeaa.V
open Go
set_option linter.unusedVariables false
end Go.Proofs.Ytkdbiiollbeoeaa.V
