/- Lists of texts that came in. -/
import Derived.Test.YtnbdmlpnoiljdaaDoorOpen
import Derived.Test.YtnbdmlpnoiljdaaDoorStrs
namespace Go.Proofs.YtnbdmlpnoiljdaaDoor
open Go.ChangeShapes Go.WideShapes Go.ChangeAt Go.RowKit
theorem open_strsR {H : Type} {enc : TypeId × Value → H} {P : Program} {W : World} {b0 : Nat} {spare : Nat → Bool} {held : Bool} {t e : TypeId} {A : Option Addr} {len cap : Nat} {d : DataW H} {p : List MemPlace}
    (ht : P.underlying t = some (.slice e)) (he : P.underlying e = some .string) (hc : P.cellsOf e = 1)
    (h : DataW.Trod enc P W b0 spare held t (.slice A len cap) d p) : ∃ l, (Rd W 1 A len (strsV l) ∧ ∀ t ∈ l, t.length ≤ maxLen) ∧ len ≤ cap ∧ cap ≤ maxLen := by
  obtain ⟨fuel, hf⟩ := h
  obtain ⟨xs, ⟨cs, h1, h2, h3⟩, h4, h5⟩ := open_list (R := fun _ c (x : List UInt8) => c = strV x ∧ x.length ≤ maxLen) ht hc (fun n cs y h => by
    obtain ⟨b, rfl, _, hsz⟩ := DataW.trod_string he h
    exact ⟨_, b.data.toList, rfl, rfl, by simpa using hsz⟩) (by simpa [Value.cells] using hf)
  have e : cs = strsV xs := by
    apply List.ext_getElem (by simp [strsV, h2])
    intro j hj hj'
    have hjx : j < xs.length := by omega
    rw [(h3 j _ _ (List.getElem?_eq_getElem hj) (List.getElem?_eq_getElem hjx)).1]
    simp [strsV]
  refine ⟨xs, ⟨e ▸ h1, fun t ht => ?_⟩, h4, h5⟩
  obtain ⟨j, hj, rfl⟩ := List.getElem_of_mem ht
  exact (h3 j _ _ (List.getElem?_eq_getElem (by omega)) (List.getElem?_eq_getElem hj)).2
end Go.Proofs.YtnbdmlpnoiljdaaDoor
