/- What trees say: places, languages. Plain. -/
import Derived.Test.YtdhmfgaiomfodaaDoorUTgL
namespace Go.Proofs.YtdhmfgaiomfodaaDoor
open Go Go.RowKit

end Go.Proofs.YtdhmfgaiomfodaaDoor
