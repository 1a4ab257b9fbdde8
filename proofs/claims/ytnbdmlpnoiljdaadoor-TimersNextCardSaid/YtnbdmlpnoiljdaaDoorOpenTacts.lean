/- The acts of timers that came in, of the seat's types. -/
import Derived.Test.YtnbdmlpnoiljdaaDoorTacts
namespace Go.Proofs.YtnbdmlpnoiljdaaDoor
open Go.ChangeShapes Go.WideShapes Go.ChangeAt Go.RowKit

theorem open_tacts {H : Type} {enc : TypeId × Value → H} {W : World} {b0 : Nat} {spare : Nat → Bool} {held : Bool} {A : Option Addr} {len cap : Nat} {d : DataW H} {p : List MemPlace}
    (h : DataW.Trod enc Tryd.prog W b0 spare held 68 (.slice A len cap) d p) : ∃ xs, TActs W A len xs :=
  open_tacts3 Tryd.underlying68 Tryd.underlying72 (by kernel_rfl) rfl rfl rfl rfl rfl rfl Tryd.underlying3 (by kernel_rfl) h
end Go.Proofs.YtnbdmlpnoiljdaaDoor
