/- Put together: Cl24p. -/
import Derived.Test.YtdhmfgaiomfodaaDoorUTgG
namespace Go.Proofs.YtdhmfgaiomfodaaDoor
open Go Go.RowKit

end Go.Proofs.YtdhmfgaiomfodaaDoor
