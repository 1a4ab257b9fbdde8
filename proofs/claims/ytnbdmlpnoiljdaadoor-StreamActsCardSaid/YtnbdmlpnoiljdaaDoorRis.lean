/- Places that rise, plainly. -/
import Derived.Test.YtnbdmlpnoiljdaaDoorBase
namespace Go.Proofs.YtnbdmlpnoiljdaaDoor

/-- Are these places of so many, rising, behind a last one? -/
def risA : Int → Nat → List Int → Bool
  | _, _, [] => true
  | last, many, m :: r => decide (last < m) && (decide (m < many) && risA m many r)
theorem risA_mem {many : Nat} : ∀ {l : List Int} {last : Int}, risA last many l = true → ∀ m ∈ l, last < m ∧ m < many := by
  intro l
  induction l with
  | nil => intro _ _ m hm; simp at hm
  | cons x r ih =>
    intro last h m hm
    simp only [risA, Bool.and_eq_true, decide_eq_true_eq] at h
    rcases List.mem_cons.1 hm with rfl | hm
    · exact ⟨h.1, h.2.1⟩
    · have := ih h.2.2 m hm; omega
end Go.Proofs.YtnbdmlpnoiljdaaDoor
