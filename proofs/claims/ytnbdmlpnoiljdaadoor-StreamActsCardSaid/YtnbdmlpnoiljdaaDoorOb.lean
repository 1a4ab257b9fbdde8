/- The block of a slice, as a number. -/
import Derived.Test.YtnbdmlpnoiljdaaDoorOff
namespace Go.Proofs.YtnbdmlpnoiljdaaDoor
open Go Go.RowKit

/-- The block of a slice, and one more; 0: it has none. -/
def ob : Value → Nat
  | .slice (some a) _ _ => a.block + 1
  | _ => 0
theorem ob_own {v : Value} {k : Nat} : v.ownBlock = some k ↔ ob v = k + 1 := by
  cases v with
  | slice A n c => cases A <;> simp [Value.ownBlock, ob]
  | _ => simp [Value.ownBlock, ob]
theorem ob_none {v : Value} : v.ownBlock = none ↔ ob v = 0 := by
  cases v with
  | slice A n c => cases A <;> simp [Value.ownBlock, ob]
  | _ => simp [Value.ownBlock, ob]
theorem ob_list {v : Value} {k : Nat} : k ∈ v.ownBlock.toList ↔ ob v = k + 1 := by
  rw [Option.mem_toList]
  exact ob_own
theorem ob_slice (A : Addr) (n c : Nat) : ob (.slice (some A) n c) = A.block + 1 := rfl
theorem ob_nil (n c : Nat) : ob (.slice none n c) = 0 := rfl
/-- What append says of where the new slice lies. -/
theorem ob_at {v v' : Value} {k : Nat} (h : v'.ownBlock = v.ownBlock ∨ v'.ownBlock = some k) : ob v' = ob v ∨ ob v' = k + 1 := by
  rcases h with h | h
  · left
    cases hv : v.ownBlock with
    | none => rw [hv] at h; rw [ob_none.1 h, ob_none.1 hv]
    | some j => rw [hv] at h; rw [ob_own.1 h, ob_own.1 hv]
  · exact .inr (ob_own.1 h)
theorem OwnO.ob_lt {w : World} {base : Nat} {e : TypeId} {v : Value} {n : Nat} {xs : List Value} (h : OwnO w base e v n xs) : ob v = 0 ∨ (base + 1 ≤ ob v ∧ ob v ≤ w.heap.size) := by
  cases hv : v.ownBlock with
  | none => exact .inl (ob_none.1 hv)
  | some k => have := h.lt k hv; have := ob_own.1 hv; omega
theorem OwnO.chg' {w w' : World} {base : Nat} {e : TypeId} {v : Value} {n : Nat} {xs : List Value} {X : List Nat} (h : OwnO w base e v n xs) (hc : Chg X w w') (hx : ∀ k, ob v = k + 1 → k ∉ X) : OwnO w' base e v n xs :=
  h.chg hc fun k hk => hx k (ob_own.1 hk)
end Go.Proofs.YtnbdmlpnoiljdaaDoor
