/- Lists of events that came in. Own text. -/
import Derived.Test.YtnbdmlpnoiljdaaDoorOpenInts
import Derived.Test.YtnbdmlpnoiljdaaDoorCut1
import Derived.Deep.Strs
namespace Go.Proofs.YtnbdmlpnoiljdaaDoor
open Go.ChangeShapes Go.WideShapes Go.ChangeAt Go.RowKit

theorem open_bytesG {H : Type} {enc : TypeId × Value → H} {P : Program} {W : World} {b0 : Nat} {spare : Nat → Bool} {held : Bool} {e e' : TypeId} {fuel : Nat} {cs : List Value} {y : DataW H × List MemPlace}
    (he : P.underlying e = some (.slice e')) (he' : P.underlying e' = some (.int .u8)) (hc' : P.cellsOf e' = 1) (h : DataW.trod enc P W b0 spare held fuel e cs = some y) : ∃ v l, cs = [v] ∧ RdG W [] v (bytesV l) := by
  rcases Deep.open_slice he h with ⟨hcs, _⟩ | ⟨a, l, c, _, _, _, _, hcs, _, _, _, _, _⟩
  · subst hcs
    obtain ⟨l, h1, h2, h3⟩ := open_bytes (A := none) (len := 0) (cap := 0) (d := y.1) (p := y.2) he he' hc' ⟨fuel, by simpa [Value.cells] using h⟩
    exact ⟨_, l, rfl, _, _, _, rfl, h2, h3, h1, fun _ _ _ _ _ => by simp⟩
  · subst hcs
    obtain ⟨l', h1, h2, h3⟩ := open_bytes (A := some a) (len := l) (cap := c) (d := y.1) (p := y.2) he he' hc' ⟨fuel, by simpa [Value.cells] using h⟩
    exact ⟨_, l', rfl, _, _, _, rfl, h2, h3, h1, fun _ _ _ _ _ => by simp⟩
theorem open_intsG {H : Type} {enc : TypeId × Value → H} {P : Program} {W : World} {b0 : Nat} {spare : Nat → Bool} {held : Bool} {e e' : TypeId} {fuel : Nat} {cs : List Value} {y : DataW H × List MemPlace}
    (he : P.underlying e = some (.slice e')) (he' : P.underlying e' = some (.int .i64)) (hc' : P.cellsOf e' = 1) (h : DataW.trod enc P W b0 spare held fuel e cs = some y) : ∃ v l, cs = [v] ∧ RdG W [] v (intsV l) := by
  rcases Deep.open_slice he h with ⟨hcs, _⟩ | ⟨a, l, c, _, _, _, _, hcs, _, _, _, _, _⟩
  · subst hcs
    obtain ⟨l, ⟨h1, _⟩, h2, h3⟩ := open_intsR (A := none) (len := 0) (cap := 0) (d := y.1) (p := y.2) he he' hc' ⟨fuel, by simpa [Value.cells] using h⟩
    exact ⟨_, l, rfl, _, _, _, rfl, h2, h3, h1, fun _ _ _ _ _ => by simp⟩
  · subst hcs
    obtain ⟨l', ⟨h1, _⟩, h2, h3⟩ := open_intsR (A := some a) (len := l) (cap := c) (d := y.1) (p := y.2) he he' hc' ⟨fuel, by simpa [Value.cells] using h⟩
    exact ⟨_, l', rfl, _, _, _, rfl, h2, h3, h1, fun _ _ _ _ _ => by simp⟩

theorem open_evs {H : Type} {enc : TypeId × Value → H} {P : Program} {W : World} {b0 : Nat} {spare : Nat → Bool} {held : Bool} {t e : TypeId} {f0 f1 f2 f3 : Field} {ti ts tb tm : TypeId} {A : Option Addr} {len cap : Nat} {d : DataW H} {p : List MemPlace}
    (ht : P.underlying t = some (.slice e)) (he : P.underlying e = some (.struct #[f0, f1, f2, f3])) (hc : P.cellsOf e = 4)
    (t0 : f0.type = ti) (t1 : f1.type = ti) (t2 : f2.type = ts) (t3 : f3.type = tm) (o0 : f0.offset = 0) (o1 : f1.offset = 1) (o2 : f2.offset = 2) (o3 : f3.offset = 3)
    (hi : P.underlying ti = some (.int .i64)) (ci : P.cellsOf ti = 1) (hs : P.underlying ts = some (.slice tb)) (cs : P.cellsOf ts = 1) (hb : P.underlying tb = some (.int .u8)) (cb : P.cellsOf tb = 1) (hm' : P.underlying tm = some (.slice ti)) (cm : P.cellsOf tm = 1)
    (h : DataW.Trod enc P W b0 spare held t (.slice A len cap) d p) : ∃ es, EvsRd W [] A len es ∧ len ≤ cap ∧ cap ≤ maxLen := by
  obtain ⟨fuel, hf⟩ := h
  have hf' : DataW.trod enc P W b0 spare held fuel t [.slice A len cap] = some (d, p) := by simpa [Value.cells] using hf
  rcases Deep.open_slice ht hf' with ⟨hcs, _⟩ | ⟨a, l, c, m, n, D, Pl, hcs, _, hl, hm, hmm, _, hx⟩
  · simp at hcs
    obtain ⟨rfl, rfl, rfl⟩ := hcs
    exact ⟨[], ⟨[], rfl, rfl, Rd.nil, fun j x v hx => by simp at hx⟩, Nat.le_refl _, by unfold maxLen; omega⟩
  · simp at hcs
    obtain ⟨rfl, rfl, rfl⟩ := hcs
    have hlm : len ≤ m := by rw [hmm]; split <;> omega
    by_cases hz : len = 0
    · subst hz
      exact ⟨[], ⟨[], rfl, rfl, Rd.nil, fun j x v hx => by simp at hx⟩, hl, hm⟩
    obtain ⟨b, off, spot⟩ := a
    have hspot : spot = none := by
      obtain ⟨cs', hcc, _⟩ := hx 0 (by omega)
      rw [hc] at hcc
      obtain ⟨_, hl3, hcell⟩ := World.cells?_some hcc
      have g0 := hcell 0 (by omega)
      rw [List.getElem?_eq_getElem (by omega)] at g0
      simpa [Addr.add] using World.cell?_spot g0
    subst hspot
    have each : ∀ i : Fin len, ∃ x : Ev × (Value × Value), (∀ r, r < 4 → W.cell? ⟨b, off + (i.1 * 4 + r), none⟩ = (evV x.1 x.2.1 x.2.2)[r]?) ∧ EvOk W [] x.1 x.2.1 x.2.2 := by
      intro i
      obtain ⟨cs', hcc, ht'⟩ := hx i.1 (by have := i.2; omega)
      obtain ⟨ys, n', _, _, _, hlen, hg⟩ := DataW.trod_struct he ht'
      rw [hc] at hcc
      obtain ⟨_, hl3, hcell⟩ := World.cells?_some hcc
      obtain ⟨z0, z1, z2, z3, rfl⟩ : ∃ z0 z1 z2 z3, cs' = [z0, z1, z2, z3] := by
        match cs', hl3 with
        | [a, b, c, d], _ => exact ⟨a, b, c, d, rfl⟩
      match ys, hlen with
      | [y0, y1, y2, y3], _ =>
        have h0 := hg 0 f0 rfl
        have h1 := hg 1 f1 rfl
        have h2 := hg 2 f2 rfl
        have h3 := hg 3 f3 rfl
        rw [t0, o0, ci] at h0
        rw [t1, o1, ci] at h1
        rw [t2, o2, cs] at h2
        rw [t3, o3, cm] at h3
        obtain ⟨k0, e0, _, _⟩ := DataW.trod_int hi h0
        obtain ⟨k1, e1, _, _⟩ := DataW.trod_int hi h1
        obtain ⟨v, l, e2, hv⟩ := open_bytesG hs hb cb h2
        obtain ⟨v', l', e3, hv'⟩ := open_intsG hm' hi ci h3
        simp at e0 e1 e2 e3
        subst e0 e1 e2 e3
        refine ⟨(⟨k0, k1, l, l'⟩, (z2, z3)), fun r hr => ?_, ⟨hv, hv'⟩⟩
        have g := hcell r (by omega)
        simp only [Addr.add_lit] at g
        rw [← Nat.add_assoc]
        rw [g]
        rfl
    let F : List (Ev × (Value × Value)) := List.ofFn fun i => Classical.choose (each i)
    have hF : F.length = len := by simp [F]
    have hFs : ∀ (j : Nat) (x : Ev × (Value × Value)), F[j]? = some x → (∀ r, r < 4 → W.cell? ⟨b, off + (j * 4 + r), none⟩ = (evV x.1 x.2.1 x.2.2)[r]?) ∧ EvOk W [] x.1 x.2.1 x.2.2 := by
      intro j x hxj
      obtain ⟨hj, e⟩ := List.getElem?_eq_some_iff.1 hxj
      have hj' : j < len := by omega
      have hsp := Classical.choose_spec (each ⟨j, hj'⟩)
      have e' : Classical.choose (each ⟨j, hj'⟩) = x := by rw [← e]; simp [F]
      rw [e'] at hsp
      exact hsp
    have hvl : (F.map (·.2)).length = (F.map (·.1)).length := by simp
    have hfl : (F.map (·.1)).length = len := by simp [hF]
    have hcl := evCells_len (F.map (·.1)) (F.map (·.2)) hvl
    refine ⟨F.map (·.1), ⟨F.map (·.2), hvl, hfl, ⟨by rw [hcl, hfl], fun hp => ⟨b, off, rfl, ?_, fun j u hu => ?_⟩⟩, fun j e' v he hv => ?_⟩, hl, hm⟩
    · obtain ⟨x, hx0⟩ : ∃ x, F[0]? = some x := ⟨_, List.getElem?_eq_getElem (by omega)⟩
      have := (hFs 0 x hx0).1 0 (by omega)
      simp [evV] at this
      exact block_lt_of_cell this
    · have hjl := (List.getElem?_eq_some_iff.1 hu).1
      rw [hcl, hfl] at hjl
      have hi4 : j / 4 < F.length := by omega
      have hx0 : F[j / 4]? = some F[j / 4] := List.getElem?_eq_getElem hi4
      have hg := evCells_get (F.map (·.1)) (F.map (·.2)) (j / 4) F[j / 4].1 F[j / 4].2 (by simp [hx0]) (by simp [hx0]) (j % 4) (by omega)
      have hc4 := (hFs _ _ hx0).1 (j % 4) (by omega)
      have hjj : j / 4 * 4 + j % 4 = j := by omega
      rw [hjj] at hg hc4
      rw [hc4, ← hg, hu]
    · rw [List.getElem?_map] at he hv
      cases hx0 : F[j]? with
      | none => rw [hx0] at he; simp at he
      | some x =>
        rw [hx0] at he hv
        simp at he hv
        subst he hv
        exact (hFs j x hx0).2
end Go.Proofs.YtnbdmlpnoiljdaaDoor
