/- The five errors of layer 13, out of a row's list. -/
import Derived.Test.YtbipkbpcjkgohaaDoorTt2
namespace Go.Proofs.YtbipkbpcjkgohaaDoor
open Go Go.RowKit Go.ChangeShapes
def fiveGs : List Nat := [0, 2, 3, 4, 1]
theorem five_of {W : World} (L : List (String × List UInt8)) (gs : List Nat) (h : laidMet Tryd.prog (L.map fun x => (x.1, .iface "*errors.errorString" (.ptr (.agg [.lit (.string x.2)])))) W)
    (hg : L.map (fun x => Tryd.prog.globalNamed x.1) = gs.map some) (ht : ∀ g ∈ gs, (Tryd.prog.globals[g]?).map (·.type) = some 27) (hgs : gs = fiveGs) : ∃ E, Five W E := by
  subst hgs
  obtain ⟨ads, h1, _, h3⟩ := laid_sents Tryd.underlying27 nameOne Tryd.underlying165 Tryd.underlying189 rfl rfl Tryd.underlying9 (by kernel_rfl) (by kernel_rfl) L fiveGs h hg ht
  match ads, h1 with
  | [a0, a2, a3, a4, a5], _ =>
    refine ⟨fun i => match i with | 0 => a0 | 2 => a2 | 3 => a3 | 4 => a4 | _ => a5, ⟨fun {i g} hi hgi => ?_⟩⟩
    simp only [List.mem_cons, List.not_mem_nil, or_false] at hi
    rcases hi with rfl | rfl | rfl | rfl | rfl
    · cases hgi; exact (h3 0 _ a0 rfl rfl).var
    · cases hgi; exact (h3 1 _ a2 rfl rfl).var
    · cases hgi; exact (h3 2 _ a3 rfl rfl).var
    · cases hgi; exact (h3 3 _ a4 rfl rfl).var
    · cases hgi; exact (h3 4 _ a5 rfl rfl).var
end Go.Proofs.YtbipkbpcjkgohaaDoor
