/- Put together: OpenSet, OpenNode. -/
import Derived.Test.YtdhmfgaiomfodaaDoorPTgC
import Derived.ChangeShapes
import Derived.WideShapes
import Derived.OpenShut
import Derived.Test.YtdhmfgaiomfodaaDoorPTgL
import Derived.Deep.Strs
namespace Go.Proofs.YtdhmfgaiomfodaaDoor
open Go Go.RowKit Go.ChangeShapes Go.WideShapes

/-- Four words, as a set. -/
def setOf (x : Nat → Nat) (c : Nat) : Bool := decide (c < 256) && (x (c / 64)).testBit (c % 64)
theorem setOf_out (x : Nat → Nat) (j : Nat) (h : 256 ≤ j) : setOf x j = false := by
  unfold setOf
  have : ¬ j < 256 := by omega
  simp [this]
theorem wd_setOf (x : Nat → Nat) (k : Nat) (hk : k < 4) (hx : x k < 18446744073709551616) : wd (setOf x) k = x k := by
  have h := bnum_of (x k) 64 hx
  rw [← h]
  unfold wd
  refine bnum_congr fun j hj => ?_
  unfold setOf
  rw [show (64 * k + j) / 64 = k by omega, show (64 * k + j) % 64 = j by omega]
  have : 64 * k + j < 256 := by omega
  simp [this]
theorem sp_setOf (a b c d : Nat) (ha : a < 18446744073709551616) (hb : b < 18446744073709551616) (hc : c < 18446744073709551616) (hd : d < 18446744073709551616) :
    ∃ p, (∀ j, 256 ≤ j → p j = false) ∧ sp p = .agg #[.int .u64 a, .int .u64 b, .int .u64 c, .int .u64 d] := by
  obtain ⟨x, hx⟩ : ∃ x : Nat → Nat, x = fun k => if k = 0 then a else if k = 1 then b else if k = 2 then c else d := ⟨_, rfl⟩
  have x0 : x 0 = a := by rw [hx]; rfl
  have x1 : x 1 = b := by rw [hx]; rfl
  have x2 : x 2 = c := by rw [hx]; rfl
  have x3 : x 3 = d := by rw [hx]; rfl
  refine ⟨setOf x, setOf_out x, ?_⟩
  unfold sp
  rw [wd_setOf x 0 (by omega) (by rw [x0]; exact ha), wd_setOf x 1 (by omega) (by rw [x1]; exact hb), wd_setOf x 2 (by omega) (by rw [x2]; exact hc), wd_setOf x 3 (by omega) (by rw [x3]; exact hd), x0, x1, x2, x3]

end Go.Proofs.YtdhmfgaiomfodaaDoor
namespace Go.Proofs.YtdhmfgaiomfodaaDoor
open Go Go.RowKit Go.ChangeShapes Go.WideShapes
set_option linter.constructorNameAsVariable false
set_option maxRecDepth 20000

theorem open_setC {H : Type} {enc : TypeId × Value → H} {W : World} {b0 : Nat} {spare : Nat → Bool} {held : Bool} {fuel : Nat} {c0 c1 c2 c3 : Value} {y : DataW H × List MemPlace}
    (h : DataW.trod enc Tryd.prog W b0 spare held fuel 24 [c0, c1, c2, c3] = some y) : ∃ q : Nat → Bool, (∀ j, 256 ≤ j → q j = false) ∧ c0 = .int .u64 (wd q 0 : Nat) ∧ c1 = .int .u64 (wd q 1 : Nat) ∧ c2 = .int .u64 (wd q 2 : Nat) ∧ c3 = .int .u64 (wd q 3 : Nat) := by
  have hc : Tryd.prog.cellsOf 22 = 1 := by kernel_rfl
  have he := Tryd.underlying22
  obtain ⟨xs, m, _, _, _, hlen, hi⟩ := DataW.trod_array Tryd.underlying24 h
  match xs, hlen with
  | [y0, y1, y2, y3], _ =>
    have h0 := hi 0 (by omega)
    have h1 := hi 1 (by omega)
    have h2 := hi 2 (by omega)
    have h3 := hi 3 (by omega)
    simp only [hc] at h0 h1 h2 h3
    obtain ⟨k0, e0, _, w0⟩ := DataW.trod_int he h0
    obtain ⟨k1, e1, _, w1⟩ := DataW.trod_int he h1
    obtain ⟨k2, e2, _, w2⟩ := DataW.trod_int he h2
    obtain ⟨k3, e3, _, w3⟩ := DataW.trod_int he h3
    simp at e0 e1 e2 e3
    have r0 := bounds_u64 w0
    have r1 := bounds_u64 w1
    have r2 := bounds_u64 w2
    have r3 := bounds_u64 w3
    obtain ⟨n0, rfl⟩ := Int.eq_ofNat_of_zero_le r0.1
    obtain ⟨n1, rfl⟩ := Int.eq_ofNat_of_zero_le r1.1
    obtain ⟨n2, rfl⟩ := Int.eq_ofNat_of_zero_le r2.1
    obtain ⟨n3, rfl⟩ := Int.eq_ofNat_of_zero_le r3.1
    obtain ⟨q, hq, hs⟩ := sp_setOf n0 n1 n2 n3 (by omega) (by omega) (by omega) (by omega)
    unfold sp at hs
    simp only [Value.agg.injEq, Array.mk.injEq, List.cons.injEq, Value.int.injEq, true_and, and_true] at hs
    exact ⟨q, hq, by rw [e0, hs.1], by rw [e1, hs.2.1], by rw [e2, hs.2.2.1], by rw [e3, hs.2.2.2]⟩

theorem rd_of_kids {w : World} {a : Addr} {len : Nat} {cs : List Value} (hs : a.spot = none) (hl : cs.length = len * 8) (hc : ∀ j u, cs[j]? = some u → w.cell? ⟨a.block, a.off + j, none⟩ = some u) : Rd w 8 (some a) len cs := by
  refine ⟨hl, fun hp => ⟨a.block, a.off, ?_, ?_, hc⟩⟩
  · cases a; simp at hs; subst hs; rfl
  · obtain ⟨u, hu⟩ : ∃ u, cs[0]? = some u := ⟨_, List.getElem?_eq_getElem hp⟩
    have hb := block_lt_of_cell (hc 0 u hu)
    simpa using hb

theorem add_sub_ao {ao q c j : Nat} (e : c = q * 8) (h : c ≤ j) : ao + q * 8 + (j - c) = ao + j := by omega
theorem addr_add (b o n : Nat) : (⟨b, o, none⟩ : Addr).add n = ⟨b, o + n, none⟩ := by
  unfold Addr.add
  by_cases h : n = 0
  · subst h; simp
  · simp [h]

set_option maxHeartbeats 1000000 in
set_option maxRecDepth 20000 in
theorem open_nodeC {H : Type} {enc : TypeId × Value → H} {W : World} {b0 : Nat} {spare : Nat → Bool} {held : Bool} : ∀ (fuel : Nat) (cs : List Value) (x : DataW H × List MemPlace),
    DataW.trod enc Tryd.prog W b0 spare held fuel 27 cs = some x → ∃ t, NodeV (fun _ => True) W t cs := by
  intro fuel
  induction fuel using Nat.strongRecOn with
  | ind fuel ih =>
    intro cs x h
    obtain ⟨xs, n, hfu, rfl, hl, hlen, hf⟩ := DataW.trod_struct Tryd.underlying27 h
    have hcell : Tryd.prog.cellsOf 27 = 8 := by kernel_rfl
    have ci : Tryd.prog.cellsOf 3 = 1 := by kernel_rfl
    have cb : Tryd.prog.cellsOf 4 = 1 := by kernel_rfl
    have cset : Tryd.prog.cellsOf 24 = 4 := by kernel_rfl
    have csl : Tryd.prog.cellsOf 25 = 1 := by kernel_rfl
    rw [hcell] at hl
    obtain ⟨z0, z1, z2, z3, z4, z5, z6, z7, rfl⟩ : ∃ z0 z1 z2 z3 z4 z5 z6 z7, cs = [z0, z1, z2, z3, z4, z5, z6, z7] := by
      match cs, hl with
      | [a, b, c, d, e, f, g, h], _ => exact ⟨a, b, c, d, e, f, g, h, rfl⟩
    match xs, hlen with
    | [y0, y1, y2, y3, y4], _ =>
      have h0 : DataW.trod enc Tryd.prog W b0 spare held n 3 [z0] = some y0 := by
        have h9 : DataW.trod enc Tryd.prog W b0 spare held n 3 (List.take (Tryd.prog.cellsOf 3) (List.drop 0 [z0, z1, z2, z3, z4, z5, z6, z7])) = some y0 := hf 0 _ rfl
        rw [ci] at h9
        exact h9
      have h1 : DataW.trod enc Tryd.prog W b0 spare held n 3 [z1] = some y1 := by
        have h9 : DataW.trod enc Tryd.prog W b0 spare held n 3 (List.take (Tryd.prog.cellsOf 3) (List.drop 1 [z0, z1, z2, z3, z4, z5, z6, z7])) = some y1 := hf 1 _ rfl
        rw [ci] at h9
        exact h9
      have h2 : DataW.trod enc Tryd.prog W b0 spare held n 4 [z2] = some y2 := by
        have h9 : DataW.trod enc Tryd.prog W b0 spare held n 4 (List.take (Tryd.prog.cellsOf 4) (List.drop 2 [z0, z1, z2, z3, z4, z5, z6, z7])) = some y2 := hf 2 _ rfl
        rw [cb] at h9
        exact h9
      have h3 : DataW.trod enc Tryd.prog W b0 spare held n 24 [z3, z4, z5, z6] = some y3 := by
        have h9 : DataW.trod enc Tryd.prog W b0 spare held n 24 (List.take (Tryd.prog.cellsOf 24) (List.drop 3 [z0, z1, z2, z3, z4, z5, z6, z7])) = some y3 := hf 3 _ rfl
        rw [cset] at h9
        exact h9
      have h4 : DataW.trod enc Tryd.prog W b0 spare held n 25 [z7] = some y4 := by
        have h9 : DataW.trod enc Tryd.prog W b0 spare held n 25 (List.take (Tryd.prog.cellsOf 25) (List.drop 7 [z0, z1, z2, z3, z4, z5, z6, z7])) = some y4 := hf 4 _ rfl
        rw [csl] at h9
        exact h9
      obtain ⟨k, e0, _, _⟩ := DataW.trod_int Tryd.underlying3 h0
      obtain ⟨m, e1, _, _⟩ := DataW.trod_int Tryd.underlying3 h1
      obtain ⟨z, e2, _⟩ := DataW.trod_bool Tryd.underlying4 h2
      obtain ⟨p, hp, e3, e4, e5, e6⟩ := open_setC h3
      simp at e0 e1 e2
      subst e0 e1 e2 e3 e4 e5 e6
      rcases DataW.trod_slice Tryd.underlying25 h4 with ⟨e7, _⟩ | ⟨a, len, cap, elems, rest, n', hn', e7, _, _, hlc, hcm, hel, hall, _⟩
      · simp at e7
        subst e7
        refine ⟨.node k m z p [], ?_⟩
        unfold NodeV
        exact ⟨none, 0, [], rfl, Nat.le_refl _, by unfold maxLen; omega, Rd.nil, fun _ _ _ e => by (cases e), by unfold KidsV; rfl⟩
      · simp at e7
        subst e7
        have hspot : 0 < len → a.spot = none := by
          intro hp
          have h5 := hall 0 hp
          rw [List.getElem?_eq_getElem (by omega)] at h5
          simp only [Option.bind_eq_some_iff] at h5
          obtain ⟨ds, hds, _⟩ := h5
          rw [hcell] at hds
          obtain ⟨_, hl3, hce⟩ := World.cells?_some hds
          have g0 := hce 0 (by omega)
          rw [List.getElem?_eq_getElem (by omega)] at g0
          simpa [Addr.add] using World.cell?_spot g0
        have hk : ∀ q, q ≤ len → ∃ ks cs, ks.length = q ∧ KidsV (fun _ => True) W ks cs ∧ ∀ j u, cs[j]? = some u → W.cell? ⟨a.block, a.off + j, none⟩ = some u := by
          intro q
          induction q with
          | zero => intro _; exact ⟨[], [], rfl, by unfold KidsV; rfl, fun j u hu => by simp at hu⟩
          | succ q ih2 =>
            intro hq
            obtain ⟨ks, cs, hkl, hkv, hkc⟩ := ih2 (by omega)
            have h5 := hall q (by omega)
            rw [List.getElem?_eq_getElem (by omega)] at h5
            simp only [Option.bind_eq_some_iff] at h5
            obtain ⟨ds, hds, hdt⟩ := h5
            obtain ⟨t, ht⟩ := ih n' (by omega) ds _ hdt
            rw [hcell] at hds
            obtain ⟨_, hl3, hce⟩ := World.cells?_some hds
            have hcl := kidsV_len hkv
            refine ⟨ks ++ [t], cs ++ ds, by simp [hkl], kidsV_append hkv (kidsV_one ht), fun j u hu => ?_⟩
            by_cases hj : j < cs.length
            · rw [List.getElem?_append_left hj] at hu
              exact hkc j u hu
            · rw [List.getElem?_append_right (by omega)] at hu
              have hjl := (List.getElem?_eq_some_iff.1 hu).1
              have g := hce (j - cs.length) (by omega)
              rw [hu] at g
              have hsp := hspot (by omega)
              obtain ⟨ab, ao, asp⟩ := a
              simp at hsp
              subst hsp
              rw [addr_add, addr_add] at g
              rw [add_sub_ao (by rw [hcl, hkl]) (Nat.le_of_not_lt hj)] at g
              exact g
        obtain ⟨ks, cs, hkl, hkv, hkc⟩ := hk len (Nat.le_refl _)
        refine ⟨.node k m z p ks, ?_⟩
        unfold NodeV
        refine ⟨some a, cap, cs, by rw [hkl]; rfl, by omega, hcm, ?_, fun _ _ _ _ _ => trivial, hkv⟩
        rw [hkl]
        by_cases hz : len = 0
        · subst hz
          have := kidsV_len hkv
          rw [hkl] at this
          obtain rfl : cs = [] := List.eq_nil_of_length_eq_zero (by omega)
          exact Rd.nil
        · exact rd_of_kids (hspot (by omega)) (by rw [kidsV_len hkv, hkl]) hkc
theorem open_node {H : Type} {enc : TypeId × Value → H} {W : World} {r : Reach} {b0 base : Nat} {spare : Nat → Bool} {held : Bool} {v : Value} {d : DataW H} {p : List MemPlace}
    (hv : Value.okWide Tryd.prog W r b0 27 v) (h : DataW.Trod enc Tryd.prog W base spare held 27 v d p) : ∃ t cs, v = .agg cs.toArray ∧ NodeV (fun _ => True) W t cs := by
  have hv' : ∃ cs, v = .agg cs := by
    simp only [Value.okWide, Tryd.underlying27] at hv
    obtain ⟨cs, h1, _⟩ := hv
    exact ⟨cs, h1⟩
  obtain ⟨⟨cs⟩, rfl⟩ := hv'
  obtain ⟨fuel, hf⟩ := h
  obtain ⟨t, ht⟩ := open_nodeC fuel _ _ hf
  exact ⟨t, cs, rfl, by simpa [Value.cells] using ht⟩
end Go.Proofs.YtdhmfgaiomfodaaDoor
