/- Put together: Cl15, Cl16. -/
import Derived.Test.YtigmdlchbjanoaaGreatDoorPTgE
namespace Go.Proofs.YtigmdlchbjanoaaGreatDoor
open Go Go.RowKit
attribute [local irreducible] wd signT runsT cnt
end Go.Proofs.YtigmdlchbjanoaaGreatDoor
namespace Go.Proofs.YtigmdlchbjanoaaGreatDoor
open Go Go.RowKit
attribute [local irreducible] signT runsT cnt
end Go.Proofs.YtigmdlchbjanoaaGreatDoor
