/- Put together: Sm11, Sm12, Sm13, Sm14, Sm15, Sm16. -/
import Derived.Test.YtdhmfgaiomfodaaDoorUNsD
import Derived.Test.YtdhmfgaiomfodaaDoorUNsE
namespace Go.Proofs.YtdhmfgaiomfodaaDoor
open Go Go.RowKit
attribute [local irreducible] wd

/-- A program, right in all that the code asks. -/
structure ProgOK (c : List Ins) (G : Nat) : Prop where
  r : RightC c G
  ok : ∀ i ∈ c, InsOK i c.length G
  last : (c[c.length - 1]?).map (·.op) = some 5

end Go.Proofs.YtdhmfgaiomfodaaDoor
namespace Go.Proofs.YtdhmfgaiomfodaaDoor
open Go Go.RowKit
attribute [local irreducible] wd

theorem FolR.keep {R : RS} {pos turn : Int} {w w1 w2 : World} {v : Value} {s' : Nat → Bool} {WT : List Way} (h : FolR R pos turn w v s' WT w1) (hx : Ext w1 w2) : FolR R pos turn w v s' WT w2 := by
  obtain ⟨v', cs', sv', h1, h2, h3, h4⟩ := h
  exact ⟨v', cs', sv', h1.keep hx, h2, h3, h4.then_ext hx⟩
theorem FolR.from {R : RS} {pos turn : Int} {w0 w w1 : World} {v : Value} {s' : Nat → Bool} {WT : List Way} (h : FolR R pos turn w v s' WT w1) (hx : RN R w0 v w v) : FolR R pos turn w0 v s' WT w1 := by
  obtain ⟨v', cs', sv', h1, h2, h3, h4⟩ := h
  exact ⟨v', cs', sv', h1, h2, h3, hx.trans h4⟩
end Go.Proofs.YtdhmfgaiomfodaaDoor
namespace Go.Proofs.YtdhmfgaiomfodaaDoor
open Go Go.RowKit
attribute [local irreducible] wd

end Go.Proofs.YtdhmfgaiomfodaaDoor
namespace Go.Proofs.YtdhmfgaiomfodaaDoor
open Go Go.RowKit

/-- Ways that stand within the program, with so many captures. -/
def WaysOK (c : List Ins) (G : Nat) (W : List Way) : Prop := ∀ a ∈ W, a.1 < c.length ∧ a.2.2.length = 2 * G
theorem fol_ok {c : List Ins} {pos : Int} {s s' : Nat → Bool} {pc : Nat} {caps : List Int} {L : List Th} (h : Fol c pos s pc caps s' L) : ∀ e ∈ L, e.1 < c.length ∧ e.2.length = caps.length := by
  induction h with
  | seen _ => intro e he; cases he
  | jump _ _ _ _ ih => exact ih
  | split _ _ _ _ _ ih1 ih2 => intro e he; rcases List.mem_append.1 he with he | he; exact ih1 e he; exact ih2 e he
  | save _ _ _ _ ih => intro e he; have := ih e he; rwa [List.length_set] at this
  | stand _ hi _ _ _ => intro e he; simp at he; subst he; exact ⟨(List.getElem?_eq_some_iff.1 hi).1, rfl⟩
theorem WaysOK.app {c : List Ins} {G : Nat} {W : List Way} (h : WaysOK c G W) {pos : Int} {s s' : Nat → Bool} {pc : Nat} {caps : List Int} {L : List Th} (hf : Fol c pos s pc caps s' L) (hl : caps.length = 2 * G) (f : Int) : WaysOK c G (W ++ L.map fun e => (e.1, f, e.2)) := by
  intro a ha
  rcases List.mem_append.1 ha with ha | ha
  · exact h a ha
  · obtain ⟨e, he, rfl⟩ := List.mem_map.1 ha
    have := fol_ok hf e he
    exact ⟨this.1, this.2.trans hl⟩
end Go.Proofs.YtdhmfgaiomfodaaDoor
namespace Go.Proofs.YtdhmfgaiomfodaaDoor
open Go Go.RowKit
attribute [local irreducible] wd

end Go.Proofs.YtdhmfgaiomfodaaDoor
namespace Go.Proofs.YtdhmfgaiomfodaaDoor
open Go Go.RowKit
attribute [local irreducible] wd

end Go.Proofs.YtdhmfgaiomfodaaDoor
