/- The first match of all trees: plain. -/
import Derived.Test.YtdhmfgaiomfodaaDoorUMn1
namespace Go.Proofs.YtdhmfgaiomfodaaDoor
open Go Go.RowKit

/-- The trees that are right, and their places. -/
def kept (ts : List T) : List (T × Nat) := ts.zipIdx.filter fun x => (x.1.right 1 0).1
end Go.Proofs.YtdhmfgaiomfodaaDoor
