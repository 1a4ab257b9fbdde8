/- Put together: Cl24p. -/
import Derived.Test.YtmfdnjddggaeaaaDoorTgG
namespace Go.Proofs.YtmfdnjddggaeaaaDoor
open Go Go.RowKit

def aliveL : List UInt8 := [91, 97, 45, 99, 92, 100, 93]
def aliveP (j : Nat) : Bool := (decide (97 ≤ j) && decide (j ≤ 99)) || (decide (48 ≤ j) && decide (j ≤ 57))
theorem alive_parse : (parseS aliveL).2 = (7, 0) ∧ ∀ j, (parseS aliveL).1 j = aliveP j := by
  have h1 : itemS (aliveL.drop 1) = (fun j => decide (97 ≤ j) && decide (j ≤ 99), 3, 0) := rfl
  have h2 : itemS (aliveL.drop 4) = (isFig, 2, 0) := rfl
  have h3 : goS aliveL 1 8 1 (fun _ => false) = (fun j => (false || (decide (97 ≤ j) && decide (j ≤ 99))) || isFig j, 7, 0) := by
    show (if 1 ≠ 1 ∧ aliveL[1]? = some 93 then _ else _) = _
    rw [if_neg (by simp), h1]
    rw [if_neg (by simp)]
    show (if 1 + 3 ≠ 1 ∧ aliveL[1 + 3]? = some 93 then _ else _) = _
    rw [if_neg (by simp [aliveL]), show aliveL.drop (1 + 3) = aliveL.drop 4 from rfl, h2]
    rw [if_neg (by simp)]
    rfl
  have h4 : parseS aliveL = (if (goS aliveL 1 8 1 (fun _ => false)).2.2 = 0 then (notP false (goS aliveL 1 8 1 (fun _ => false)).1, (goS aliveL 1 8 1 (fun _ => false)).2) else goS aliveL 1 8 1 (fun _ => false)) := rfl
  rw [h3] at h4
  rw [h4]
  refine ⟨rfl, fun j => ?_⟩
  show ((false || (decide (97 ≤ j) && decide (j ≤ 99))) || isFig j) = aliveP j
  unfold aliveP isFig
  simp
theorem alive_text : signT 97 = [97] := by decide
end Go.Proofs.YtmfdnjddggaeaaaDoor
