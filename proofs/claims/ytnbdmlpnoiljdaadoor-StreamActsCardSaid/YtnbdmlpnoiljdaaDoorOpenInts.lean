/- Lists of ints that came in. -/
import Derived.Test.YtnbdmlpnoiljdaaDoorOpen
import Derived.Test.YtnbdmlpnoiljdaaDoorInts
namespace Go.Proofs.YtnbdmlpnoiljdaaDoor
open Go.ChangeShapes Go.WideShapes Go.ChangeAt Go.RowKit
theorem open_intsR {H : Type} {enc : TypeId × Value → H} {P : Program} {W : World} {b0 : Nat} {spare : Nat → Bool} {held : Bool} {t e : TypeId} {A : Option Addr} {len cap : Nat} {d : DataW H} {p : List MemPlace}
    (ht : P.underlying t = some (.slice e)) (he : P.underlying e = some (.int .i64)) (hc : P.cellsOf e = 1)
    (h : DataW.Trod enc P W b0 spare held t (.slice A len cap) d p) : ∃ l, (Rd W 1 A len (intsV l) ∧ ∀ t ∈ l, -9223372036854775808 ≤ t ∧ t ≤ 9223372036854775807) ∧ len ≤ cap ∧ cap ≤ maxLen := by
  obtain ⟨fuel, hf⟩ := h
  obtain ⟨xs, ⟨cs, h1, h2, h3⟩, h4, h5⟩ := open_list (R := fun _ c (x : Int) => c = .int .i64 x ∧ -9223372036854775808 ≤ x ∧ x ≤ 9223372036854775807) ht hc (fun n cs y h => by
    obtain ⟨b, rfl, _, hsz⟩ := DataW.trod_int he h
    exact ⟨_, b, rfl, rfl, by have := bounds_i64 hsz; omega⟩) (by simpa [Value.cells] using hf)
  have e : cs = intsV xs := by
    apply List.ext_getElem (by simp [intsV, h2])
    intro j hj hj'
    have hjx : j < xs.length := by omega
    rw [(h3 j _ _ (List.getElem?_eq_getElem hj) (List.getElem?_eq_getElem hjx)).1]
    simp [intsV]
  refine ⟨xs, ⟨e ▸ h1, fun t ht => ?_⟩, h4, h5⟩
  obtain ⟨j, hj, rfl⟩ := List.getElem_of_mem ht
  exact (h3 j _ _ (List.getElem?_eq_getElem (by omega)) (List.getElem?_eq_getElem hj)).2
end Go.Proofs.YtnbdmlpnoiljdaaDoor
