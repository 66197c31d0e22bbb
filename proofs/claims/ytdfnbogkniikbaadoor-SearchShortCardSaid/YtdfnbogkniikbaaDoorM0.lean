/-
  What the functions that are proved by hand compute, as relations over plain data.
-/
import Derived.Test.YtdfnbogkniikbaaDoorA8
namespace Go.Proofs.YtdfnbogkniikbaaDoor.V
open Go
set_option linter.unusedVariables false
end Go.Proofs.YtdfnbogkniikbaaDoor.V
