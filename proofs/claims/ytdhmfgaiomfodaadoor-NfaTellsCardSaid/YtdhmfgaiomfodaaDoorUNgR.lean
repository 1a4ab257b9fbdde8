/- Is there more in a tree than is asked? Walked. -/
import Derived.Test.YtdhmfgaiomfodaaDoorUTgL
namespace Go.Proofs.YtdhmfgaiomfodaaDoor
open Go Go.RowKit
attribute [local irreducible] wd

end Go.Proofs.YtdhmfgaiomfodaaDoor
