/- A token that came in, by value. Own text. -/
import Derived.Test.YtbipkbpcjkgohaaOpen
import Derived.Deep.Strs
namespace Go.Proofs.Ytbipkbpcjkgohaa
open Go.ChangeShapes Go.WideShapes Go.ChangeAt Go.RowKit

theorem open_bytes1 {H : Type} {enc : TypeId × Value → H} {P : Program} {W : World} {b0 : Nat} {spare : Nat → Bool} {held : Bool} {e e' : TypeId} {fuel : Nat} {cs : List Value} {y : DataW H × List MemPlace}
    (he : P.underlying e = some (.slice e')) (he' : P.underlying e' = some (.int .u8)) (hc' : P.cellsOf e' = 1) (h : DataW.trod enc P W b0 spare held fuel e cs = some y) : ∃ v l, cs = [v] ∧ IsBytes W v l := by
  rcases Deep.open_slice he h with ⟨hcs, _⟩ | ⟨a, l, c, _, _, _, _, hcs, _, _, _, _, _⟩
  · subst hcs
    obtain ⟨l, h1, h2, h3⟩ := open_bytes (A := none) (len := 0) (cap := 0) (d := y.1) (p := y.2) he he' hc' ⟨fuel, by simpa [Value.cells] using h⟩
    exact ⟨_, l, rfl, _, _, _, rfl, h2, h3, h1⟩
  · subst hcs
    obtain ⟨l', h1, h2, h3⟩ := open_bytes (A := some a) (len := l) (cap := c) (d := y.1) (p := y.2) he he' hc' ⟨fuel, by simpa [Value.cells] using h⟩
    exact ⟨_, l', rfl, _, _, _, rfl, h2, h3, h1⟩

theorem open_tok {H : Type} {enc : TypeId × Value → H} {P : Program} {W : World} {r : Reach} {b0 base : Nat} {spare : Nat → Bool} {held : Bool} {t : TypeId} {f0 f1 f2 f3 f4 : Field} {ti ts tb tl : TypeId} {v : Value} {d : DataW H} {p : List MemPlace}
    (hs : P.underlying t = some (.struct #[f0, f1, f2, f3, f4])) (hC : P.cellsOf t = 5)
    (t0 : f0.type = ti) (t1 : f1.type = ti) (t2 : f2.type = ti) (t3 : f3.type = ts) (t4 : f4.type = tl) (o0 : f0.offset = 0) (o1 : f1.offset = 1) (o2 : f2.offset = 2) (o3 : f3.offset = 3) (o4 : f4.offset = 4)
    (hi : P.underlying ti = some (.int .i64)) (ci : P.cellsOf ti = 1) (hsl : P.underlying ts = some (.slice tb)) (cs : P.cellsOf ts = 1) (hb : P.underlying tb = some (.int .u8)) (cb : P.cellsOf tb = 1) (hl : P.underlying tl = some .bool) (cl : P.cellsOf tl = 1)
    (hv : Value.okWide P W r b0 t v) (h : DataW.Trod enc P W base spare held t v d p) :
    ∃ (k c o : Int) (A : Option Addr) (n cp : Nat) (x : Bool) (l : List UInt8), v = .agg #[.int .i64 k, .int .i64 c, .int .i64 o, .slice A n cp, .bool x] ∧ Rd W 1 A n (bytesV l) := by
  obtain ⟨⟨cs'⟩, rfl, hsz⟩ := okWide_struct hs hv
  match cs', hsz.trans hC with
  | [c0, c1, c2, c3, c4], _ =>
    obtain ⟨fuel, hf⟩ := h
    obtain ⟨xs, m, _, _, _, hlen, hg⟩ := DataW.trod_struct hs hf
    match xs, hlen with
    | [y0, y1, y2, y3, y4], _ =>
      have h0 := hg 0 f0 rfl
      have h1 := hg 1 f1 rfl
      have h2 := hg 2 f2 rfl
      have h3 := hg 3 f3 rfl
      have h4 := hg 4 f4 rfl
      rw [t0, o0, ci] at h0
      rw [t1, o1, ci] at h1
      rw [t2, o2, ci] at h2
      rw [t3, o3, cs] at h3
      rw [t4, o4, cl] at h4
      simp only [Value.cells] at h0 h1 h2 h3 h4
      obtain ⟨k0, e0, _, _⟩ := DataW.trod_int hi h0
      obtain ⟨k1, e1, _, _⟩ := DataW.trod_int hi h1
      obtain ⟨k2, e2, _, _⟩ := DataW.trod_int hi h2
      obtain ⟨vb, l, e3, A, n, cp, rfl, _, _, hr⟩ := open_bytes1 hsl hb cb h3
      obtain ⟨x, e4, _⟩ := DataW.trod_bool hl h4
      simp at e0 e1 e2 e3 e4
      exact ⟨k0, k1, k2, A, n, cp, x, l, by rw [e0, e1, e2, e3, e4], hr⟩
end Go.Proofs.Ytbipkbpcjkgohaa
