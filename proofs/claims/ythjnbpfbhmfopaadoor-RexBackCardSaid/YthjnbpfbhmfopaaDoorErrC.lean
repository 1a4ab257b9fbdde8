/- Some of the errors' variables alone. -/
import Derived.Test.YthjnbpfbhmfopaaDoorNumErr
namespace Go.Proofs.YthjnbpfbhmfopaaDoor
open Go Go.RowKit Go.ChangeShapes

/-- The errors of these numbers, in their variables. -/
structure ErrC (I : List Nat) (w : World) (E : Nat → Addr) : Prop where
  cell : ∀ {i g : Nat}, i ∈ I → errGs[i]? = some g → w.cell? ⟨g, 0, none⟩ = some (errV E i)
theorem ErrC.keep {I : List Nat} {w w' : World} {E : Nat → Addr} (h : ErrC I w E) (hb : Ext w w') : ErrC I w' E :=
  ⟨fun {i g} hi hg => by
    have hc := h.cell hi hg
    have hl : g < w.heap.size := by
      rcases Nat.lt_or_ge g w.heap.size with h' | h'
      · exact h'
      · simp [World.cell?, Array.getElem?_eq_none h'] at hc
    exact (hb.cell (p := ⟨g, 0, none⟩) hl).trans hc⟩
theorem ErrC.below {I : List Nat} {w w' : World} {E : Nat → Addr} (h : ErrC I w E) {B : Nat} (hb : Below B w w') (hB : w.heap.size ≤ B) : ErrC I w' E := h.keep (hb.mono hB)
theorem Errs.some {w : World} {E : Nat → Addr} (h : Errs w E) (I : List Nat) : ErrC I w E := ⟨fun _ hg => h.cell hg⟩
theorem ErrC.sub {I J : List Nat} {w : World} {E : Nat → Addr} (h : ErrC I w E) (hs : ∀ j ∈ J, j ∈ I) : ErrC J w E := ⟨fun hi hg => h.cell (hs _ hi) hg⟩
theorem errc_of {W : World} (I : List Nat) (L : List (String × List UInt8)) (gs : List Nat) (h : laidMet Tryd.prog (L.map fun x => (x.1, .iface "*errors.errorString" (.ptr (.agg [.lit (.string x.2)])))) W)
    (hg : L.map (fun x => Tryd.prog.globalNamed x.1) = gs.map some) (ht : ∀ g ∈ gs, (Tryd.prog.globals[g]?).map (·.type) = some 30) (hgs : gs.map some = I.map fun i => errGs[i]?) : ∃ E, ErrC I W E := by
  obtain ⟨ads, h1, _, h3⟩ := laid_sents Tryd.underlying30 nameOne Tryd.underlying142 Tryd.underlying165 rfl rfl Tryd.underlying9 (by kernel_rfl) (by kernel_rfl) L gs h hg ht
  refine ⟨fun i => ads.getD (I.idxOf i) ⟨0, 0, none⟩, ⟨fun {i g} hi hgi => ?_⟩⟩
  have hk : I.idxOf i < I.length := List.idxOf_lt_length_of_mem hi
  have hlen : gs.length = I.length := by simpa using congrArg List.length hgs
  have hgk : gs[I.idxOf i]? = some g := by
    have h4 := congrArg (·[I.idxOf i]?) hgs
    simp only [List.getElem?_map] at h4
    rw [List.getElem?_eq_getElem hk, List.getElem_idxOf hk] at h4
    rw [List.getElem?_eq_getElem (by omega)] at h4 ⊢
    simp only [Option.map_some, Option.some.injEq] at h4
    rw [hgi] at h4
    exact h4
  have ha : ads[I.idxOf i]? = some (ads.getD (I.idxOf i) ⟨0, 0, none⟩) := by simp [List.getD, show I.idxOf i < ads.length by omega]
  exact (h3 _ g _ hgk ha).var
end Go.Proofs.YthjnbpfbhmfopaaDoor
