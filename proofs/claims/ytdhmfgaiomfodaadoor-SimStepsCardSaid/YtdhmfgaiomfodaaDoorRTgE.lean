/- Put together: Bld, Cl13, Cl14. -/
import Derived.Test.YtdhmfgaiomfodaaDoorRTgA
import Derived.Shelf.Strings.Builder1
import Derived.Test.YtdhmfgaiomfodaaDoorRTgD
namespace Go.Proofs
open Go.Shelf
end Go.Proofs
namespace Go.Proofs.YtdhmfgaiomfodaaDoor
open Go Go.RowKit

/-- Block b holds a builder with these bytes, its own row from B on. -/
def BldAt (w : World) (B b : Nat) (l : List UInt8) : Prop := Lib.IsBuilder 171 5 B b (Lib.byteCells l) w
theorem BldAt.new (w : World) : BldAt (w.alloc (.cells #[.pointer none, .slice none 0 0] 171)) w.heap.size w.heap.size [] :=
  .inl ⟨Nat.le_refl _, .slice none 0 0, heap_alloc_new w _, ⟨rfl, .inl ⟨rfl, rfl⟩⟩, by simp [Value.ownBlock]⟩
end Go.Proofs.YtdhmfgaiomfodaaDoor
namespace Go.Proofs.YtdhmfgaiomfodaaDoor
open Go Go.RowKit

end Go.Proofs.YtdhmfgaiomfodaaDoor
namespace Go.Proofs.YtdhmfgaiomfodaaDoor
open Go Go.RowKit
theorem BldAt.keep {w w' : World} {B b : Nat} {l : List UInt8} (h : BldAt w B b l) (hx : Ext w w') : BldAt w' B b l := by
  have key : ∀ q, Lib.BuilderAt 171 5 B b q (Lib.byteCells l) w → Lib.BuilderAt 171 5 B b q (Lib.byteCells l) w' := by
    intro q h
    obtain ⟨hB, v, hb, hown, hne⟩ := h
    refine ⟨hB, v, ?_, own_ext hown hx, hne⟩
    rw [hx.block b (by
      rcases Nat.lt_or_ge b w.heap.size with h' | h'
      · exact h'
      · simp [Array.getElem?_eq_none h'] at hb)]
    exact hb
  rcases h with h | h
  · exact .inl (key _ h)
  · exact .inr (key _ h)
theorem SB.below {w w' : World} {B g : Nat} {p : Nat → Bool} (h : SB w g p) (hx : Below B w w') (hg : g < B) : SB w' g p := Blk.below h hx hg

end Go.Proofs.YtdhmfgaiomfodaaDoor
