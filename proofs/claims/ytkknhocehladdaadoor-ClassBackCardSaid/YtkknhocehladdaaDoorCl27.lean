/- The law ClassBack: its last two regions. -/
import Derived.Test.YtkknhocehladdaaDoorCl15
import Derived.Test.YtkknhocehladdaaDoorEg1
namespace Go.Proofs.YtkknhocehladdaaDoor
open Go Go.RowKit
attribute [local irreducible] wd

def bothP (p q : Nat → Bool) (j : Nat) : Bool := p j && q j
def gBoth (p q : Nat → Bool) (_ : World) (cs : List Value) : Prop := cs = [.int .u64 (wd (bothP p q) 0 : Nat), .int .u64 (wd (bothP p q) 1 : Nat), .int .u64 (wd (bothP p q) 2 : Nat), .int .u64 (wd (bothP p q) 3 : Nat)]
theorem gBoth_len {p q : Nat → Bool} {w : World} {cs : List Value} (h : gBoth p q w cs) : cs.length = 4 := by rw [h]; rfl
theorem gBoth_stable (p q : Nat → Bool) (B : Nat) : ∀ (w w' : World) (cs : List Value), gBoth p q w cs → EG B 24 (gBoth p q) w w' → gBoth p q w' cs := fun _ _ _ h _ => h
theorem cnt_both (p q : Nat → Bool) : ∀ n, cnt (bothP p q) n + cnt (fun j => p j || q j) n = cnt p n + cnt q n := by
  intro n
  induction n with
  | zero => rfl
  | succ n ih =>
    rw [cnt, cnt, cnt, cnt]
    have : ((if bothP p q n then 1 else 0) + (if (p n || q n) then 1 else 0) : Nat) = (if p n then 1 else 0) + (if q n then 1 else 0) := by
      unfold bothP
      cases p n <;> cases q n <;> rfl
    omega
theorem eq_true {p q : Nat → Bool} (h : ∀ c, c < 256 → p c = q c) (w : World) :
    (Op.equalIn 10000 24 (.agg #[.int .u64 (wd p 0 : Nat), .int .u64 (wd p 1 : Nat), .int .u64 (wd p 2 : Nat), .int .u64 (wd p 3 : Nat)]) (.agg #[.int .u64 (wd q 0 : Nat), .int .u64 (wd q 1 : Nat), .int .u64 (wd q 2 : Nat), .int .u64 (wd q 3 : Nat)])).run Tryd.prog w = .ok true w := by
  rw [eq_sp p q w, (sameP_iff p q).2 h]
end Go.Proofs.YtkknhocehladdaaDoor
