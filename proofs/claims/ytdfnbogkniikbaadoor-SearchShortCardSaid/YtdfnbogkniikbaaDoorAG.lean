/- The tables of the program's own that its functions read. -/
import Derived.WalkKit
namespace Go.Proofs.YtdfnbogkniikbaaDoor.V
open Go
def gtab : List (Nat × List Value) := [(0, (List.range 20).map fun i => Value.int .u64 ((10 ^ i : Nat) : Int))]
end Go.Proofs.YtdfnbogkniikbaaDoor.V
