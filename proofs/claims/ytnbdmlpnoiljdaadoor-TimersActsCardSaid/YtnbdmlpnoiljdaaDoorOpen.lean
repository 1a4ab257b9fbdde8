/- What came in, as lists. Own text. -/
import Derived.Test.YtnbdmlpnoiljdaaDoorBase
import Derived.ProofKit
import Derived.OpenShut
import Derived.ShutString
import Derived.ChangeOld
import Derived.Deep.Slices
namespace Go.Proofs.YtnbdmlpnoiljdaaDoor
open Go.ChangeShapes Go.WideShapes Go.ChangeAt Go.RowKit

theorem u8_of_wf {n : Int} (h : (Lit.int .u8 n).wf = true) : .int .u8 n = U8 (UInt8.ofNat n.toNat) := by
  have hb := bounds_u8 h
  have e : ((UInt8.ofNat n.toNat).toNat : Int) = n := by simp; omega
  unfold U8; rw [e]

/-- A slice of bytes that came in reads as a list of bytes. -/
theorem open_bytes {H : Type} {enc : TypeId × Value → H} {P : Program} {W : World} {b0 : Nat} {spare : Nat → Bool} {held : Bool} {t e : TypeId} {A : Option Addr} {len cap : Nat} {d : DataW H} {p : List MemPlace}
    (ht : P.underlying t = some (.slice e)) (he : P.underlying e = some (.int .u8)) (hc : P.cellsOf e = 1)
    (h : DataW.Trod enc P W b0 spare held t (.slice A len cap) d p) : ∃ l, Rd W 1 A len (bytesV l) ∧ len ≤ cap ∧ cap ≤ maxLen := by
  obtain ⟨fuel, hf⟩ := h
  rcases open_ints ht he hc hf with ⟨hcs, _⟩ | ⟨x, l, c, zs, hcs, _, hl, hm, hz, _, hcell, hwz⟩
  · simp [Value.cells] at hcs
    obtain ⟨rfl, rfl, rfl⟩ := hcs
    exact ⟨[], by simpa [bytesV] using Rd.nil, Nat.le_refl _, by unfold maxLen; omega⟩
  · simp [Value.cells] at hcs
    obtain ⟨rfl, rfl, rfl⟩ := hcs
    have hle : len ≤ zs.length := by rw [hz]; split <;> omega
    refine ⟨(zs.take len).map fun n => UInt8.ofNat n.toNat, ⟨by simp [bytesV]; omega, fun hp => ?_⟩, hl, hm⟩
    have h0 : 0 < len := by simp [bytesV] at hp; omega
    obtain ⟨b, off, spot⟩ := x
    have hc0 := hcell 0 (by omega)
    have hspot : spot = none := by simpa [Addr.add] using World.cell?_spot hc0
    subst hspot
    refine ⟨b, off, rfl, block_lt_of_cell hc0, fun j u hu => ?_⟩
    have hj : j < len := by
      have := (List.getElem?_eq_some_iff.1 hu).1
      simp [bytesV] at this; omega
    have hcj := hcell j (by omega)
    rw [Addr.add_lit] at hcj
    rw [hcj]
    have hzj : j < zs.length := by omega
    have hw := hwz zs[j] (List.getElem_mem hzj)
    simp only [bytesV, List.map_map, List.getElem?_map, List.getElem?_take, hj, if_true, List.getElem?_eq_getElem hzj, Option.map_some, Function.comp] at hu
    rw [← Option.some.inj hu, ← u8_of_wf hw]
    simp [List.getD, hzj]

/-- A slice of one-cell elements that came in. -/
theorem open_list {α H : Type} {enc : TypeId × Value → H} {P : Program} {W : World} {b0 : Nat} {spare : Nat → Bool} {held : Bool} {t e : TypeId} {A : Option Addr} {len cap : Nat} {fuel : Nat} {y : DataW H × List MemPlace}
    (R : World → Value → α → Prop) (ht : P.underlying t = some (.slice e)) (hc : P.cellsOf e = 1)
    (hel : ∀ n cs y, DataW.trod enc P W b0 spare held n e cs = some y → ∃ c x, cs = [c] ∧ R W c x)
    (h : DataW.trod enc P W b0 spare held fuel t [.slice A len cap] = some y) : ∃ xs, RdL R W A len xs ∧ len ≤ cap ∧ cap ≤ maxLen := by
  rcases Deep.open_slice ht h with ⟨hcs, _⟩ | ⟨a, l, c, m, n, D, Pl, hcs, _, hl, hm, hmm, _, hi⟩
  · simp at hcs
    obtain ⟨rfl, rfl, rfl⟩ := hcs
    exact ⟨[], ⟨[], Rd.nil, rfl, fun j c x hx => by simp at hx⟩, Nat.le_refl _, by unfold maxLen; omega⟩
  · simp at hcs
    obtain ⟨rfl, rfl, rfl⟩ := hcs
    have hlm : len ≤ m := by rw [hmm]; split <;> omega
    have key : ∀ n, n ≤ len → ∃ (cs : List Value) (xs : List α), cs.length = n ∧ xs.length = n ∧ ∀ (j : Nat) (c : Value) (x : α), cs[j]? = some c → xs[j]? = some x → W.cell? (a.add j) = some c ∧ R W c x := by
      intro n
      induction n with
      | zero => intro _; exact ⟨[], [], rfl, rfl, fun j c x h => by simp at h⟩
      | succ n ih =>
        intro hn
        obtain ⟨cs, xs, h1, h2, h3⟩ := ih (by omega)
        obtain ⟨cs', hcc, ht'⟩ := hi n (by omega)
        obtain ⟨c, x, rfl, hr⟩ := hel _ _ _ ht'
        rw [hc, Nat.mul_one] at hcc
        obtain ⟨_, _, hcell⟩ := World.cells?_some hcc
        have h0 := hcell 0 (by omega)
        refine ⟨cs ++ [c], xs ++ [x], by simp [h1], by simp [h2], fun j c' x' hc' hx' => ?_⟩
        by_cases hj : j < n
        · rw [List.getElem?_append_left (by omega)] at hc' hx'
          exact h3 j c' x' hc' hx'
        · have hjn : j = n := by
            have := (List.getElem?_eq_some_iff.1 hc').1
            simp [h1] at this; omega
          subst hjn
          rw [List.getElem?_append_right (by omega), h1, Nat.sub_self] at hc'
          rw [List.getElem?_append_right (by omega), h2, Nat.sub_self] at hx'
          simp at hc' hx'
          subst hc' hx'
          exact ⟨by simpa [Addr.add] using h0, hr⟩
    obtain ⟨cs, xs, h1, h2, h3⟩ := key len (Nat.le_refl _)
    have hx : ∀ j, j < len → ∃ x, xs[j]? = some x := fun j hj => ⟨_, List.getElem?_eq_getElem (by omega)⟩
    refine ⟨xs, ⟨cs, ⟨by omega, fun hp => ?_⟩, by omega, fun j c x hc hx => (h3 j c x hc hx).2⟩, hl, by assumption⟩
    obtain ⟨x0, hx0⟩ := hx 0 (by omega)
    obtain ⟨hc0, _⟩ := h3 0 _ _ (List.getElem?_eq_getElem hp) hx0
    obtain ⟨b, off, spot⟩ := a
    have hspot : spot = none := by simpa [Addr.add] using World.cell?_spot hc0
    subst hspot
    refine ⟨b, off, rfl, by simpa [Addr.add] using block_lt_of_cell hc0, fun j u hu => ?_⟩
    obtain ⟨x, hxj⟩ := hx j (by have := (List.getElem?_eq_some_iff.1 hu).1; omega)
    have := (h3 j u x hu hxj).1
    rwa [Addr.add_lit] at this
theorem open_bools {H : Type} {enc : TypeId × Value → H} {P : Program} {W : World} {b0 : Nat} {spare : Nat → Bool} {held : Bool} {t e : TypeId} {A : Option Addr} {len cap : Nat} {d : DataW H} {p : List MemPlace}
    (ht : P.underlying t = some (.slice e)) (he : P.underlying e = some .bool) (hc : P.cellsOf e = 1)
    (h : DataW.Trod enc P W b0 spare held t (.slice A len cap) d p) : ∃ l, Rd W 1 A len (boolsV l) ∧ len ≤ cap ∧ cap ≤ maxLen := by
  obtain ⟨fuel, hf⟩ := h
  obtain ⟨xs, ⟨cs, h1, h2, h3⟩, h4, h5⟩ := open_list (R := fun _ c (x : Bool) => c = .bool x) ht hc (fun n cs y h => by
    obtain ⟨b, rfl, _⟩ := DataW.trod_bool he h
    exact ⟨_, b, rfl, rfl⟩) (by simpa [Value.cells] using hf)
  have e : cs = boolsV xs := by
    apply List.ext_getElem (by simp [boolsV, h2])
    intro j hj hj'
    have hjx : j < xs.length := by omega
    rw [h3 j _ _ (List.getElem?_eq_getElem hj) (List.getElem?_eq_getElem hjx)]
    simp [boolsV]
  exact ⟨xs, e ▸ h1, h4, h5⟩
theorem open_bytess {H : Type} {enc : TypeId × Value → H} {P : Program} {W : World} {b0 : Nat} {spare : Nat → Bool} {held : Bool} {t e e' : TypeId} {A : Option Addr} {len cap : Nat} {d : DataW H} {p : List MemPlace}
    (ht : P.underlying t = some (.slice e)) (hc : P.cellsOf e = 1) (he : P.underlying e = some (.slice e')) (he' : P.underlying e' = some (.int .u8)) (hc' : P.cellsOf e' = 1)
    (h : DataW.Trod enc P W b0 spare held t (.slice A len cap) d p) : ∃ ps, RdL IsBytes W A len ps ∧ len ≤ cap ∧ cap ≤ maxLen := by
  obtain ⟨fuel, hf⟩ := h
  refine open_list (R := IsBytes) ht hc (fun n cs y h => ?_) (by simpa [Value.cells] using hf)
  rcases Deep.open_slice he h with ⟨hcs, _⟩ | ⟨a, l, c, _, _, _, _, hcs, _, _, _, _, _⟩
  · subst hcs
    obtain ⟨l, h1, h2, h3⟩ := open_bytes (A := none) (len := 0) (cap := 0) he he' hc' ⟨n, by simpa [Value.cells] using h⟩
    exact ⟨_, l, rfl, _, _, _, rfl, h2, h3, h1⟩
  · subst hcs
    obtain ⟨l', h1, h2, h3⟩ := open_bytes (A := some a) (len := l) (cap := c) he he' hc' ⟨n, by simpa [Value.cells] using h⟩
    exact ⟨_, l', rfl, _, _, _, rfl, h2, h3, h1⟩

end Go.Proofs.YtnbdmlpnoiljdaaDoor
