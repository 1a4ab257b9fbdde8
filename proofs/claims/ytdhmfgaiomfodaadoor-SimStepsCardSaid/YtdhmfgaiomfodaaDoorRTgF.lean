/- Put together: Cl15, Cl16. -/
import Derived.Test.YtdhmfgaiomfodaaDoorRTgE
namespace Go.Proofs.YtdhmfgaiomfodaaDoor
open Go Go.RowKit
end Go.Proofs.YtdhmfgaiomfodaaDoor
namespace Go.Proofs.YtdhmfgaiomfodaaDoor
open Go Go.RowKit

end Go.Proofs.YtdhmfgaiomfodaaDoor
