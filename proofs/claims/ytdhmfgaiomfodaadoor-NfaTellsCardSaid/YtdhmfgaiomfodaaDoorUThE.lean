/- Put together: OpenSet, OpenNode. -/
import Derived.Test.YtdhmfgaiomfodaaDoorUTgC
import Derived.ChangeShapes
import Derived.WideShapes
import Derived.OpenShut
import Derived.Test.YtdhmfgaiomfodaaDoorUTgL
import Derived.Deep.Strs
namespace Go.Proofs.YtdhmfgaiomfodaaDoor
open Go Go.RowKit Go.ChangeShapes Go.WideShapes

/-- Four words, as a set. -/
def setOf (x : Nat → Nat) (c : Nat) : Bool := decide (c < 256) && (x (c / 64)).testBit (c % 64)
theorem setOf_out (x : Nat → Nat) (j : Nat) (h : 256 ≤ j) : setOf x j = false := by
  unfold setOf
  have : ¬ j < 256 := by omega
  simp [this]
theorem wd_setOf (x : Nat → Nat) (k : Nat) (hk : k < 4) (hx : x k < 18446744073709551616) : wd (setOf x) k = x k := by
  have h := bnum_of (x k) 64 hx
  rw [← h]
  unfold wd
  refine bnum_congr fun j hj => ?_
  unfold setOf
  rw [show (64 * k + j) / 64 = k by omega, show (64 * k + j) % 64 = j by omega]
  have : 64 * k + j < 256 := by omega
  simp [this]
theorem sp_setOf (a b c d : Nat) (ha : a < 18446744073709551616) (hb : b < 18446744073709551616) (hc : c < 18446744073709551616) (hd : d < 18446744073709551616) :
    ∃ p, (∀ j, 256 ≤ j → p j = false) ∧ sp p = .agg #[.int .u64 a, .int .u64 b, .int .u64 c, .int .u64 d] := by
  obtain ⟨x, hx⟩ : ∃ x : Nat → Nat, x = fun k => if k = 0 then a else if k = 1 then b else if k = 2 then c else d := ⟨_, rfl⟩
  have x0 : x 0 = a := by rw [hx]; rfl
  have x1 : x 1 = b := by rw [hx]; rfl
  have x2 : x 2 = c := by rw [hx]; rfl
  have x3 : x 3 = d := by rw [hx]; rfl
  refine ⟨setOf x, setOf_out x, ?_⟩
  unfold sp
  rw [wd_setOf x 0 (by omega) (by rw [x0]; exact ha), wd_setOf x 1 (by omega) (by rw [x1]; exact hb), wd_setOf x 2 (by omega) (by rw [x2]; exact hc), wd_setOf x 3 (by omega) (by rw [x3]; exact hd), x0, x1, x2, x3]

end Go.Proofs.YtdhmfgaiomfodaaDoor
namespace Go.Proofs.YtdhmfgaiomfodaaDoor
open Go Go.RowKit Go.ChangeShapes Go.WideShapes
set_option linter.constructorNameAsVariable false
set_option maxRecDepth 20000

theorem open_setC {H : Type} {enc : TypeId × Value → H} {W : World} {b0 : Nat} {spare : Nat → Bool} {held : Bool} {fuel : Nat} {c0 c1 c2 c3 : Value} {y : DataW H × List MemPlace}
    (h : DataW.trod enc Tryd.prog W b0 spare held fuel 24 [c0, c1, c2, c3] = some y) : ∃ q : Nat → Bool, (∀ j, 256 ≤ j → q j = false) ∧ c0 = .int .u64 (wd q 0 : Nat) ∧ c1 = .int .u64 (wd q 1 : Nat) ∧ c2 = .int .u64 (wd q 2 : Nat) ∧ c3 = .int .u64 (wd q 3 : Nat) := by
  have hc : Tryd.prog.cellsOf 22 = 1 := by kernel_rfl
  have he := Tryd.underlying22
  obtain ⟨xs, m, _, _, _, hlen, hi⟩ := DataW.trod_array Tryd.underlying24 h
  match xs, hlen with
  | [y0, y1, y2, y3], _ =>
    have h0 := hi 0 (by omega)
    have h1 := hi 1 (by omega)
    have h2 := hi 2 (by omega)
    have h3 := hi 3 (by omega)
    simp only [hc] at h0 h1 h2 h3
    obtain ⟨k0, e0, _, w0⟩ := DataW.trod_int he h0
    obtain ⟨k1, e1, _, w1⟩ := DataW.trod_int he h1
    obtain ⟨k2, e2, _, w2⟩ := DataW.trod_int he h2
    obtain ⟨k3, e3, _, w3⟩ := DataW.trod_int he h3
    simp at e0 e1 e2 e3
    have r0 := bounds_u64 w0
    have r1 := bounds_u64 w1
    have r2 := bounds_u64 w2
    have r3 := bounds_u64 w3
    obtain ⟨n0, rfl⟩ := Int.eq_ofNat_of_zero_le r0.1
    obtain ⟨n1, rfl⟩ := Int.eq_ofNat_of_zero_le r1.1
    obtain ⟨n2, rfl⟩ := Int.eq_ofNat_of_zero_le r2.1
    obtain ⟨n3, rfl⟩ := Int.eq_ofNat_of_zero_le r3.1
    obtain ⟨q, hq, hs⟩ := sp_setOf n0 n1 n2 n3 (by omega) (by omega) (by omega) (by omega)
    unfold sp at hs
    simp only [Value.agg.injEq, Array.mk.injEq, List.cons.injEq, Value.int.injEq, true_and, and_true] at hs
    exact ⟨q, hq, by rw [e0, hs.1], by rw [e1, hs.2.1], by rw [e2, hs.2.2.1], by rw [e3, hs.2.2.2]⟩

theorem rd_of_kids {w : World} {a : Addr} {len : Nat} {cs : List Value} (hs : a.spot = none) (hl : cs.length = len * 8) (hc : ∀ j u, cs[j]? = some u → w.cell? ⟨a.block, a.off + j, none⟩ = some u) : Rd w 8 (some a) len cs := by
  refine ⟨hl, fun hp => ⟨a.block, a.off, ?_, ?_, hc⟩⟩
  · cases a; simp at hs; subst hs; rfl
  · obtain ⟨u, hu⟩ : ∃ u, cs[0]? = some u := ⟨_, List.getElem?_eq_getElem hp⟩
    have hb := block_lt_of_cell (hc 0 u hu)
    simpa using hb

theorem add_sub_ao {ao q c j : Nat} (e : c = q * 8) (h : c ≤ j) : ao + q * 8 + (j - c) = ao + j := by omega
theorem addr_add (b o n : Nat) : (⟨b, o, none⟩ : Addr).add n = ⟨b, o + n, none⟩ := by
  unfold Addr.add
  by_cases h : n = 0
  · subst h; simp
  · simp [h]

end Go.Proofs.YtdhmfgaiomfodaaDoor
