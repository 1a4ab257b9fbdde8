/- The acts of a stream that came in. -/
import Derived.Test.YtnbdmlpnoiljdaaDoorOpenEvs
namespace Go.Proofs.YtnbdmlpnoiljdaaDoor
open Go.ChangeShapes Go.WideShapes Go.ChangeAt Go.RowKit

theorem open_sacts {H : Type} {enc : TypeId × Value → H} {W : World} {b0 : Nat} {spare : Nat → Bool} {held : Bool} {A : Option Addr} {len cap : Nat} {d : DataW H} {p : List MemPlace}
    (h : DataW.Trod enc Tryd.prog W b0 spare held 58 (.slice A len cap) d p) : ∃ es, EvsRd W [] A len es := by
  obtain ⟨es, h1, _⟩ := open_evs Tryd.underlying58 Tryd.underlying65 (by kernel_rfl) rfl rfl rfl rfl rfl rfl rfl rfl Tryd.underlying3 (by kernel_rfl) Tryd.underlying42 (by kernel_rfl) Tryd.underlying5 (by kernel_rfl) Tryd.underlying43 (by kernel_rfl) h
  exact ⟨es, h1⟩
end Go.Proofs.YtnbdmlpnoiljdaaDoor
