/- Put together: Cl24p. -/
import Derived.Test.YtigmdlchbjanoaaGreatDoorPTgG
namespace Go.Proofs.YtigmdlchbjanoaaGreatDoor
open Go Go.RowKit
end Go.Proofs.YtigmdlchbjanoaaGreatDoor
