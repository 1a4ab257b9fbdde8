/- More of what came in. Own text. -/
import Derived.Test.YtbipkbpcjkgohaaDoorOpen
namespace Go.Proofs.YtbipkbpcjkgohaaDoor
open Go.ChangeShapes Go.WideShapes Go.ChangeAt Go.RowKit

/-- Two ints, an array by value. -/
theorem open_intpair {H : Type} {enc : TypeId × Value → H} {P : Program} {W : World} {r : Reach} {b0 base : Nat} {spare : Nat → Bool} {held : Bool} {t e : TypeId} {v : Value} {d : DataW H} {p : List MemPlace}
    (ht : P.underlying t = some (.array 2 e)) (he : P.underlying e = some (.int .i64)) (hc : P.cellsOf e = 1) (hC : P.cellsOf t = 2)
    (hv : Value.okWide P W r b0 t v) (h : DataW.Trod enc P W base spare held t v d p) : ∃ a b : Int, v = .agg #[.int .i64 a, .int .i64 b] := by
  have hv' : ∃ cs, v = .agg cs ∧ cs.size = P.cellsOf t := by
    simp only [Value.okWide, ht] at hv
    obtain ⟨cs, h1, h2, _⟩ := hv
    exact ⟨cs, h1, h2⟩
  obtain ⟨⟨cs⟩, rfl, hsz⟩ := hv'
  match cs, hsz.trans hC with
  | [c0, c1], _ =>
    obtain ⟨fuel, hf⟩ := h
    obtain ⟨xs, m, _, _, _, hlen, hi⟩ := DataW.trod_array ht hf
    match xs, hlen with
    | [y0, y1], _ =>
      have h0 := hi 0 (by omega)
      have h1 := hi 1 (by omega)
      simp only [hc, Value.cells] at h0 h1
      obtain ⟨k0, e0, _, _⟩ := DataW.trod_int he h0
      obtain ⟨k1, e1, _, _⟩ := DataW.trod_int he h1
      simp at e0 e1
      exact ⟨k0, k1, by rw [e0, e1]⟩
end Go.Proofs.YtbipkbpcjkgohaaDoor
