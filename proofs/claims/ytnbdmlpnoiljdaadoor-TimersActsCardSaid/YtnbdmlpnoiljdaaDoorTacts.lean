/- The acts of timers that came in. -/
import Derived.Test.YtnbdmlpnoiljdaaDoorOpen
import Derived.Test.YtnbdmlpnoiljdaaDoorTm9
import Derived.Deep.Strs
namespace Go.Proofs.YtnbdmlpnoiljdaaDoor
open Go.ChangeShapes Go.WideShapes Go.ChangeAt Go.RowKit

structure TAct where
  kind : Int
  key : Int
  n : Int

/-- A slice of acts, three cells each. -/
def TActs (w : World) (A : Option Addr) (n : Nat) (xs : List TAct) : Prop :=
  xs.length = n ∧ ∀ (j : Nat) (x : TAct), xs[j]? = some x → ∃ b o, A = some ⟨b, o, none⟩ ∧ b < w.heap.size ∧ w.cell? ⟨b, o + j * 3, none⟩ = some (.int .i64 x.kind) ∧ w.cell? ⟨b, o + j * 3 + 1, none⟩ = some (.int .i64 x.key) ∧ w.cell? ⟨b, o + j * 3 + 2, none⟩ = some (.int .i64 x.n)
theorem TActs.keep {w w' : World} {A : Option Addr} {n : Nat} {xs : List TAct} (h : TActs w A n xs) (hb : Ext w w') : TActs w' A n xs :=
  ⟨h.1, fun j x hx => by
    obtain ⟨b, o, h1, h2, h3, h4, h5⟩ := h.2 j x hx
    exact ⟨b, o, h1, Nat.lt_of_lt_of_le h2 hb.size, (hb.cell (p := ⟨b, _, none⟩) h2).trans h3, (hb.cell (p := ⟨b, _, none⟩) h2).trans h4, (hb.cell (p := ⟨b, _, none⟩) h2).trans h5⟩⟩

theorem open_tacts3 {H : Type} {enc : TypeId × Value → H} {P : Program} {W : World} {b0 : Nat} {spare : Nat → Bool} {held : Bool} {t e : TypeId} {f0 f1 f2 : Field} {ti : TypeId} {A : Option Addr} {len cap : Nat} {d : DataW H} {p : List MemPlace}
    (ht : P.underlying t = some (.slice e)) (he : P.underlying e = some (.struct #[f0, f1, f2])) (hc : P.cellsOf e = 3)
    (t0 : f0.type = ti) (t1 : f1.type = ti) (t2 : f2.type = ti) (o0 : f0.offset = 0) (o1 : f1.offset = 1) (o2 : f2.offset = 2)
    (hi : P.underlying ti = some (.int .i64)) (ci : P.cellsOf ti = 1)
    (h : DataW.Trod enc P W b0 spare held t (.slice A len cap) d p) : ∃ xs, TActs W A len xs := by
  obtain ⟨fuel, hf⟩ := h
  have hf' : DataW.trod enc P W b0 spare held fuel t [.slice A len cap] = some (d, p) := by simpa [Value.cells] using hf
  rcases Deep.open_slice ht hf' with ⟨hcs, _⟩ | ⟨a, l, c, m, n, D, Pl, hcs, _, hl, hm, hmm, _, hx⟩
  · simp at hcs
    obtain ⟨rfl, rfl, rfl⟩ := hcs
    exact ⟨[], rfl, fun j x hx => by simp at hx⟩
  · simp at hcs
    obtain ⟨rfl, rfl, rfl⟩ := hcs
    have hlm : len ≤ m := by rw [hmm]; split <;> omega
    by_cases hz : len = 0
    · subst hz
      exact ⟨[], rfl, fun j x hx => by simp at hx⟩
    obtain ⟨b, off, spot⟩ := a
    have hspot : spot = none := by
      obtain ⟨cs', hcc, _⟩ := hx 0 (by omega)
      rw [hc] at hcc
      obtain ⟨_, hl3, hcell⟩ := World.cells?_some hcc
      have g0 := hcell 0 (by omega)
      rw [List.getElem?_eq_getElem (by omega)] at g0
      simpa [Addr.add] using World.cell?_spot g0
    subst hspot
    have each : ∀ i : Fin len, ∃ x : TAct, ∃ b' o, (⟨b, off, none⟩ : Addr) = ⟨b', o, none⟩ ∧ b' < W.heap.size ∧ W.cell? ⟨b', o + i.1 * 3, none⟩ = some (.int .i64 x.kind) ∧ W.cell? ⟨b', o + i.1 * 3 + 1, none⟩ = some (.int .i64 x.key) ∧ W.cell? ⟨b', o + i.1 * 3 + 2, none⟩ = some (.int .i64 x.n) := by
      intro i
      obtain ⟨cs', hcc, ht'⟩ := hx i.1 (by have := i.2; omega)
      obtain ⟨y0, y1, y2, n', _, hlen, h0, h1, h2⟩ := Deep.trod_struct3 he ht'
      rw [hc] at hcc hlen
      obtain ⟨z0, z1, z2, rfl⟩ : ∃ z0 z1 z2, cs' = [z0, z1, z2] := by
        match cs', hlen with
        | [a, b, c], _ => exact ⟨a, b, c, rfl⟩
      rw [t0, o0, ci] at h0
      rw [t1, o1, ci] at h1
      rw [t2, o2, ci] at h2
      obtain ⟨k0, e0, _, _⟩ := DataW.trod_int hi h0
      obtain ⟨k1, e1, _, _⟩ := DataW.trod_int hi h1
      obtain ⟨k2, e2, _, _⟩ := DataW.trod_int hi h2
      simp at e0 e1 e2
      subst e0 e1 e2
      obtain ⟨_, _, hcell⟩ := World.cells?_some hcc
      have g0 := hcell 0 (by omega)
      have g1 := hcell 1 (by omega)
      have g2 := hcell 2 (by omega)
      simp only [Addr.add_lit, Nat.add_zero] at g0 g1 g2
      exact ⟨⟨k0, k1, k2⟩, b, off, rfl, block_lt_of_cell g0, by simpa using g0, by simpa using g1, by simpa using g2⟩
    refine ⟨List.ofFn fun i => Classical.choose (each i), by simp, fun j x hxj => ?_⟩
    obtain ⟨hj, e⟩ := List.getElem?_eq_some_iff.1 hxj
    have hj' : j < len := by simpa using hj
    obtain ⟨b, o, h1, h2⟩ := Classical.choose_spec (each ⟨j, hj'⟩)
    rw [List.getElem_ofFn] at e
    exact ⟨b, o, by rw [h1], by rw [← e]; exact h2⟩
end Go.Proofs.YtnbdmlpnoiljdaaDoor
