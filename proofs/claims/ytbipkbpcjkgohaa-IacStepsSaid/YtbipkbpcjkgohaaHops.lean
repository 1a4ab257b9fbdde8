/- A scope whose run jumps ahead, a few times, to labels of its own. Own text (after the kit's law of a scope that jumps back). -/
import Derived.Test.YtbipkbpcjkgohaaBase
import Derived.ScopeJumps
import Derived.WalkMore
namespace Go.Proofs.Ytbipkbpcjkgohaa
open Go

/-- As Q; by a goto to a label of c: what stands from there on, with one jump less. -/
def hops (P : Program) (c : Code) (Q : Exit → Act → World → Prop) : Nat → Exit → Act → World → Prop
  | 0, .goto _, _, _ => False
  | n + 1, .goto l, a, w => ∃ rest, findLabel c l = some rest ∧ rest.wp P (hops P c Q n) a w
  | _, e, a, w => Q e a w

section
variable {P : Program} {a : Act} {w : World} {Q : Exit → Act → World → Prop} {c : Code} {n l : Nat}
@[go_sem] theorem hops_normal : hops P c Q n .normal a w = Q .normal a w := by cases n <;> rfl
@[go_sem] theorem hops_exit (id : Nat) : hops P c Q n (.exit id) a w = Q (.exit id) a w := by cases n <;> rfl
@[go_sem] theorem hops_ret : hops P c Q n .ret a w = Q .ret a w := by cases n <;> rfl
@[go_sem] theorem hops_panic (ch : List PanicEntry) : hops P c Q n (.panic ch) a w = Q (.panic ch) a w := by cases n <;> rfl
theorem hops_goto {rest : Code} (hf : findLabel c l = some rest) (h : rest.wp P (hops P c Q n) a w) : hops P c Q (n + 1) (.goto l) a w := ⟨rest, hf, h⟩

theorem wp_scope_hops (n : Nat) (h : c.wp P (hops P c Q n) a w) : (Code.scope c).wp P Q a w := by
  intro b k cs
  have key : ∀ n (d : Code) a w, d.wp P (hops P c Q n) a w → ∃ e a' w', Q e a' w' ∧ Arrives P (lone (b.at a (.code d :: .inScope c :: k)) cs w) b k cs e a' w' := by
    intro n
    induction n with
    | zero =>
      intro d a w h
      obtain ⟨e, a₁, w₁, hq, harr⟩ := h b (.inScope c :: k) cs
      cases e with
      | normal => exact ⟨.normal, a₁, w₁, hq, Steps.trans harr (.one step_inScope)⟩
      | exit id => exact ⟨.exit id, a₁, w₁, hq, fun k' hk => harr k' (by simp [exitTo, hk])⟩
      | goto l' => exact hq.elim
      | ret => exact ⟨_, a₁, w₁, hq, harr⟩
      | panic ch => exact ⟨_, a₁, w₁, hq, harr⟩
      | outgrown => exact ⟨_, a₁, w₁, hq, harr⟩
    | succ n ih =>
      intro d a w h
      obtain ⟨e, a₁, w₁, hq, harr⟩ := h b (.inScope c :: k) cs
      cases e with
      | normal => exact ⟨.normal, a₁, w₁, hq, Steps.trans harr (.one step_inScope)⟩
      | exit id => exact ⟨.exit id, a₁, w₁, hq, fun k' hk => harr k' (by simp [exitTo, hk])⟩
      | goto l' =>
        obtain ⟨rest, hf, hr⟩ := hq
        have hg : gotoIn l' (.inScope c :: k) = some (.code rest :: .inScope c :: k) := by simp [gotoIn, hf]
        obtain ⟨e₂, a₂, w₂, hq₂, harr₂⟩ := ih rest a₁ w₁ hr
        exact ⟨e₂, a₂, w₂, hq₂, .of_steps (harr _ hg) harr₂⟩
      | ret => exact ⟨_, a₁, w₁, hq, harr⟩
      | panic ch => exact ⟨_, a₁, w₁, hq, harr⟩
      | outgrown => exact ⟨_, a₁, w₁, hq, harr⟩
  obtain ⟨e, a', w', hq, harr⟩ := key n c a w h
  exact ⟨e, a', w', hq, .of_steps (.one step_scope) harr⟩
end
end Go.Proofs.Ytbipkbpcjkgohaa
