/- Where matches end, as lists; which trees are told; the algebra of what is said. Plain. -/
import Derived.Test.YtdhmfgaiomfodaaDoorUMn0
namespace Go.Proofs.YtdhmfgaiomfodaaDoor
open Go Go.RowKit

mutual
/-- Only kinds that there are, and kids where they must be. -/
def T.good : T → Prop
  | .node k _ _ _ ks => 1 ≤ k ∧ k ≤ 8 ∧ (5 ≤ k → ks ≠ []) ∧ goodL ks
def goodL : List T → Prop
  | [] => True
  | t :: ts => t.good ∧ goodL ts
end
theorem kidsOk_kind {k : Int} {n : Nat} (h : kidsOk k n = true) : 1 ≤ k ∧ k ≤ 8 ∧ (5 ≤ k → n ≠ 0) := by
  unfold kidsOk at h
  split at h
  · rename_i h1; omega
  split at h
  · rename_i h1 h2
    simp only [decide_eq_true_eq] at h
    omega
  split at h
  · rename_i h1 h2 h3
    simp only [decide_eq_true_eq] at h
    omega
  · cases h
mutual
theorem right_good : ∀ (t : T) (d g : Nat), (t.right d g).1 = true → t.good
  | .node k m z p ks, d, g => by
    intro h
    unfold T.right at h
    split at h
    · cases h
    · rename_i h1
      split at h
      · cases h
      · simp only [Bool.and_eq_true] at h
        have hk : kidsOk k ks.length = true := by
          cases hk : kidsOk k ks.length
          · exact absurd (.inr (.inl hk)) h1
          · rfl
        obtain ⟨a1, a2, a3⟩ := kidsOk_kind hk
        unfold T.good
        exact ⟨a1, a2, fun h5 e => a3 h5 (by rw [e]; rfl), rightL_good ks _ _ h.1⟩
theorem rightL_good : ∀ (ks : List T) (d g : Nat), (rightL ks d g).1 = true → goodL ks
  | [], _, _ => by intro _; unfold goodL; trivial
  | t :: ts, d, g => by
    intro h
    unfold rightL at h
    split at h
    · rename_i h1
      unfold goodL
      exact ⟨right_good t d g h1, rightL_good ts _ _ h⟩
    · cases h
end

end Go.Proofs.YtdhmfgaiomfodaaDoor
