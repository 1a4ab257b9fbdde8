/- Put together: Cl24p. -/
import Derived.Test.YtigmdlchbjanoaaDoorPTgG
namespace Go.Proofs.YtigmdlchbjanoaaDoor
open Go Go.RowKit
end Go.Proofs.YtigmdlchbjanoaaDoor
