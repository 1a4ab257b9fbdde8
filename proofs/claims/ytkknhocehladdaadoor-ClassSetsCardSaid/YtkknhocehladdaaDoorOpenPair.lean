/- Two bytes among the arguments, as an array. -/
import Derived.Test.YtkknhocehladdaaDoorBase
import Derived.ChangeShapes
import Derived.WideShapes
import Derived.OpenShut
namespace Go.Proofs.YtkknhocehladdaaDoor
open Go Go.RowKit Go.ChangeShapes Go.WideShapes

theorem open_bytepair {H : Type} {enc : TypeId × Value → H} {P : Program} {W : World} {r : Reach} {b0 base : Nat} {spare : Nat → Bool} {held : Bool} {t e : TypeId} {v : Value} {d : DataW H} {p : List MemPlace}
    (ht : P.underlying t = some (.array 2 e)) (he : P.underlying e = some (.int .u8)) (hc : P.cellsOf e = 1) (hC : P.cellsOf t = 2)
    (hv : Value.okWide P W r b0 t v) (h : DataW.Trod enc P W base spare held t v d p) : ∃ n m : Nat, n < 256 ∧ m < 256 ∧ v = .agg #[.int .u8 (n : Nat), .int .u8 (m : Nat)] := by
  have hv' : ∃ cs, v = .agg cs ∧ cs.size = P.cellsOf t := by
    simp only [Value.okWide, ht] at hv
    obtain ⟨cs, h1, h2, _⟩ := hv
    exact ⟨cs, h1, h2⟩
  obtain ⟨⟨cs⟩, rfl, hsz⟩ := hv'
  match cs, hsz.trans hC with
  | [c0, c1], _ =>
    obtain ⟨fuel, hf⟩ := h
    obtain ⟨xs, m, _, _, _, hlen, hi⟩ := DataW.trod_array ht hf
    match xs, hlen with
    | [y0, y1], _ =>
      have h0 := hi 0 (by omega)
      have h1 := hi 1 (by omega)
      simp only [hc, Value.cells] at h0 h1
      obtain ⟨k0, e0, _, w0⟩ := DataW.trod_int he h0
      obtain ⟨k1, e1, _, w1⟩ := DataW.trod_int he h1
      simp at e0 e1
      have r0 := bounds_u8 w0
      have r1 := bounds_u8 w1
      obtain ⟨n0, rfl⟩ := Int.eq_ofNat_of_zero_le r0.1
      obtain ⟨n1, rfl⟩ := Int.eq_ofNat_of_zero_le r1.1
      refine ⟨n0, n1, by omega, by omega, ?_⟩
      rw [e0, e1]
end Go.Proofs.YtkknhocehladdaaDoor
