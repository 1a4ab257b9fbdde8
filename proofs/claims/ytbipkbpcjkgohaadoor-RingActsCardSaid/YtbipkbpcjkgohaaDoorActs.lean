/- The acts that came in, out of the row's reading. -/
import Derived.Test.YtbipkbpcjkgohaaDoorOpen
import Derived.Test.YtbipkbpcjkgohaaDoorRing5
import Derived.Deep.Strs
namespace Go.Proofs.YtbipkbpcjkgohaaDoor
open Go.ChangeShapes Go.WideShapes Go.ChangeAt Go.RowKit

theorem open_bytes1 {H : Type} {enc : TypeId × Value → H} {P : Program} {W : World} {b0 : Nat} {spare : Nat → Bool} {held : Bool} {e e' : TypeId} {fuel : Nat} {cs : List Value} {y : DataW H × List MemPlace}
    (he : P.underlying e = some (.slice e')) (he' : P.underlying e' = some (.int .u8)) (hc' : P.cellsOf e' = 1) (h : DataW.trod enc P W b0 spare held fuel e cs = some y) : ∃ v l, cs = [v] ∧ IsBytes W v l := by
  rcases Deep.open_slice he h with ⟨hcs, _⟩ | ⟨a, l, c, _, _, _, _, hcs, _, _, _, _, _⟩
  · subst hcs
    obtain ⟨l, h1, h2, h3⟩ := open_bytes (A := none) (len := 0) (cap := 0) (d := y.1) (p := y.2) he he' hc' ⟨fuel, by simpa [Value.cells] using h⟩
    exact ⟨_, l, rfl, _, _, _, rfl, h2, h3, h1⟩
  · subst hcs
    obtain ⟨l', h1, h2, h3⟩ := open_bytes (A := some a) (len := l) (cap := c) (d := y.1) (p := y.2) he he' hc' ⟨fuel, by simpa [Value.cells] using h⟩
    exact ⟨_, l', rfl, _, _, _, rfl, h2, h3, h1⟩

theorem open_acts {H : Type} {enc : TypeId × Value → H} {P : Program} {W : World} {b0 : Nat} {spare : Nat → Bool} {held : Bool} {t e : TypeId} {f0 f1 f2 : Field} {ti ts tb : TypeId} {A : Option Addr} {len cap : Nat} {d : DataW H} {p : List MemPlace}
    (ht : P.underlying t = some (.slice e)) (he : P.underlying e = some (.struct #[f0, f1, f2])) (hc : P.cellsOf e = 3)
    (t0 : f0.type = ti) (t1 : f1.type = ti) (t2 : f2.type = ts) (o0 : f0.offset = 0) (o1 : f1.offset = 1) (o2 : f2.offset = 2)
    (hi : P.underlying ti = some (.int .i64)) (ci : P.cellsOf ti = 1) (hs : P.underlying ts = some (.slice tb)) (cs : P.cellsOf ts = 1) (hb : P.underlying tb = some (.int .u8)) (cb : P.cellsOf tb = 1)
    (h : DataW.Trod enc P W b0 spare held t (.slice A len cap) d p) : ∃ xs, Acts W A len xs := by
  obtain ⟨fuel, hf⟩ := h
  have hf' : DataW.trod enc P W b0 spare held fuel t [.slice A len cap] = some (d, p) := by simpa [Value.cells] using hf
  rcases Deep.open_slice ht hf' with ⟨hcs, _⟩ | ⟨a, l, c, m, n, D, Pl, hcs, _, hl, hm, hmm, _, hx⟩
  · simp at hcs
    obtain ⟨rfl, rfl, rfl⟩ := hcs
    exact ⟨[], rfl, fun j x hx => by simp at hx⟩
  · simp at hcs
    obtain ⟨rfl, rfl, rfl⟩ := hcs
    have hlm : len ≤ m := by rw [hmm]; split <;> omega
    by_cases hz : len = 0
    · subst hz
      exact ⟨[], rfl, fun j x hx => by simp at hx⟩
    obtain ⟨b, off, spot⟩ := a
    have hspot : spot = none := by
      obtain ⟨cs', hcc, _⟩ := hx 0 (by omega)
      rw [hc] at hcc
      obtain ⟨_, hl3, hcell⟩ := World.cells?_some hcc
      have g0 := hcell 0 (by omega)
      rw [List.getElem?_eq_getElem (by omega)] at g0
      simpa [Addr.add] using World.cell?_spot g0
    subst hspot
    have each : ∀ i : Fin len, ∃ x : RAct, ∃ b' o v, (⟨b, off, none⟩ : Addr) = ⟨b', o, none⟩ ∧ b' < W.heap.size ∧ W.cell? ⟨b', o + i.1 * 3, none⟩ = some (.int .i64 x.kind) ∧ W.cell? ⟨b', o + i.1 * 3 + 1, none⟩ = some (.int .i64 x.n) ∧ W.cell? ⟨b', o + i.1 * 3 + 2, none⟩ = some v ∧ IsBytes W v x.bytes := by
      intro i
      obtain ⟨cs', hcc, ht'⟩ := hx i.1 (by have := i.2; omega)
      obtain ⟨y0, y1, y2, n', _, hlen, h0, h1, h2⟩ := Deep.trod_struct3 he ht'
      rw [hc] at hcc hlen
      obtain ⟨z0, z1, z2, rfl⟩ : ∃ z0 z1 z2, cs' = [z0, z1, z2] := by
        match cs', hlen with
        | [a, b, c], _ => exact ⟨a, b, c, rfl⟩
      rw [t0, o0, ci] at h0
      rw [t1, o1, ci] at h1
      rw [t2, o2, cs] at h2
      obtain ⟨k0, e0, _, _⟩ := DataW.trod_int hi h0
      obtain ⟨k1, e1, _, _⟩ := DataW.trod_int hi h1
      obtain ⟨v, l, e2, hv⟩ := open_bytes1 hs hb cb h2
      simp at e0 e1 e2
      subst e0 e1 e2
      obtain ⟨_, _, hcell⟩ := World.cells?_some hcc
      have g0 := hcell 0 (by omega)
      have g1 := hcell 1 (by omega)
      have g2 := hcell 2 (by omega)
      simp only [Addr.add_lit, Nat.add_zero] at g0 g1 g2
      exact ⟨⟨k0, k1, l⟩, b, off, _, rfl, block_lt_of_cell g0, by simpa using g0, by simpa using g1, by simpa using g2, hv⟩
    refine ⟨List.ofFn fun i => Classical.choose (each i), by simp, fun j x hxj => ?_⟩
    obtain ⟨hj, e⟩ := List.getElem?_eq_some_iff.1 hxj
    have hj' : j < len := by simpa using hj
    obtain ⟨b, o, v, h1, h2⟩ := Classical.choose_spec (each ⟨j, hj'⟩)
    rw [List.getElem_ofFn] at e
    exact ⟨b, o, v, by rw [h1], by rw [← e]; exact h2⟩
end Go.Proofs.YtbipkbpcjkgohaaDoor
