/- The acts that came in; are there more than is asked? -/
import Derived.Test.YtbipkbpcjkgohaaDoorRing4
namespace Go.Proofs.YtbipkbpcjkgohaaDoor
open Go Go.RowKit

structure RAct where
  kind : Int
  n : Int
  bytes : List UInt8

/-- A slice of acts, three cells each. -/
def Acts (w : World) (A : Option Addr) (n : Nat) (xs : List RAct) : Prop :=
  xs.length = n ∧ ∀ (j : Nat) (x : RAct), xs[j]? = some x → ∃ b o v, A = some ⟨b, o, none⟩ ∧ b < w.heap.size ∧ w.cell? ⟨b, o + j * 3, none⟩ = some (.int .i64 x.kind) ∧ w.cell? ⟨b, o + j * 3 + 1, none⟩ = some (.int .i64 x.n) ∧ w.cell? ⟨b, o + j * 3 + 2, none⟩ = some v ∧ IsBytes w v x.bytes
theorem Acts.keep {w w' : World} {A : Option Addr} {n : Nat} {xs : List RAct} (h : Acts w A n xs) (hb : Ext w w') : Acts w' A n xs :=
  ⟨h.1, fun j x hx => by
    obtain ⟨b, o, v, h1, h2, h3, h4, h5, h6⟩ := h.2 j x hx
    exact ⟨b, o, v, h1, Nat.lt_of_lt_of_le h2 hb.size, (hb.cell (p := ⟨b, _, none⟩) h2).trans h3, (hb.cell (p := ⟨b, _, none⟩) h2).trans h4, (hb.cell (p := ⟨b, _, none⟩) h2).trans h5, h6.keep hb⟩⟩

set_option maxHeartbeats 1000000 in
theorem ringLong (xs : List RAct) (A : Option Addr) (n c : Nat) (w : World) (h : Acts w A n xs) :
    Calls Tryd.prog 15 #[.slice A n c] w fun e w' => ∃ r : Bool, e = .returned (.bool r) ∧ Ext w w' ∧ (r = false → n ≤ 60 ∧ ∀ x ∈ xs, x.bytes.length ≤ 100) := by
  go_enter Tryd.func15, Tryd.ntmps15
  by_cases hn : (60 : Int) < n
  · go_wp2
    go_ret
    exact ⟨true, rfl, Ext.refl _, by simp⟩
  go_wp2
  go_loopw [10] (fun i wr => ∃ k : Nat, k ≤ n ∧ i = .int .i64 k ∧ Ext w wr ∧ ∀ (j : Nat) x, j < k → xs[j]? = some x → x.bytes.length ≤ 100) (fun i _ => n - (intOf i).toNat)
  case atStart => exact ⟨0, Nat.zero_le _, rfl, Ext.refl _, fun j x hj => by omega⟩
  case round =>
    obtain ⟨k, hk, rfl, hb, hall⟩ := hrel
    have hlen := h.1
    by_cases hlt : k < n
    · obtain ⟨x, hx⟩ : ∃ x, xs[k]? = some x := ⟨_, List.getElem?_eq_getElem (by omega)⟩
      obtain ⟨b, o, v, rfl, h2, h3, h4, h5, Av, nv, cv, rfl, hnc, hcm, hrd⟩ := (h.keep hb).2 k x hx
      have hlx := hrd.len_bytes
      have HALL := Lib.hid hall
      have HLX := Lib.hid hlx
      have HL := Lib.hid hlen
      clear hall hlx hlen
      by_cases h100 : (100 : Int) < nv
      · go_wp2
        go_ret
        exact ⟨true, rfl, hb.alloc hb.size _, by simp⟩
      · go_wp2
        refine ⟨⟨k + 1, by omega, by go_num, hb.alloc hb.size _, fun j y hj hy => ?_⟩, by simp [intOf]; omega⟩
        by_cases hjk : j < k
        · exact HALL.out j y hjk hy
        · obtain rfl : j = k := by omega
          obtain rfl := Option.some.inj (hx.symm.trans hy)
          have := HLX.out
          omega
    · obtain rfl : k = n := by omega
      go_wp2
      go_ret
      refine ⟨false, rfl, hb, fun _ => ⟨by omega, fun y hy => ?_⟩⟩
      obtain ⟨j, hj⟩ := List.mem_iff_getElem?.1 hy
      exact hall j y (by have := (List.getElem?_eq_some_iff.1 hj).1; omega) hj
end Go.Proofs.YtbipkbpcjkgohaaDoor
