/- The frame of a region in which one store falls into a block that the region made: blocks of one type, newer than B, may come to hold what G says. Own text (the first part of XEg). -/
import Derived.Test.YtkknhocehladdaaDoorDagF
import Derived.Test.YtkknhocehladdaaDoorOwn
import Derived.Test.YtkknhocehladdaaDoorChg
namespace Go.Proofs.YtkknhocehladdaaDoor
open Go Go.RowKit

def EG (B : Nat) (T : TypeId) (G : World → List Value → Prop) (w w' : World) : Prop :=
  ∃ X : List Nat, Chg X w w' ∧ ∀ k ∈ X, B ≤ k ∧ (∃ cs, Blk w k T cs) ∧ ∃ cs, G w' cs ∧ Blk w' k T cs
theorem EG.of_ext {B : Nat} {T : TypeId} {G : World → List Value → Prop} {w w' : World} (h : Ext w w') : EG B T G w w' := ⟨[], .of_ext h, by simp⟩
theorem EG.refl {B : Nat} {T : TypeId} {G : World → List Value → Prop} (w : World) : EG B T G w w := .of_ext (Ext.refl w)
theorem EG.size {B : Nat} {T : TypeId} {G : World → List Value → Prop} {w w' : World} (h : EG B T G w w') : w.heap.size ≤ w'.heap.size := by obtain ⟨X, h, _⟩ := h; exact h.size
theorem EG.below {B : Nat} {T : TypeId} {G : World → List Value → Prop} {w0 w w' : World} (h : EG B T G w w') (hb : Below B w0 w) (hB : B ≤ w.heap.size) : Below B w0 w' := by
  obtain ⟨X, h, hx⟩ := h
  exact h.below hb hB fun k hk => (hx k hk).1
theorem EG.store {B : Nat} {T : TypeId} {G : World → List Value → Prop} {w w' : World} {g : Nat} {cs cs' : List Value} (h : Chg [g] w w') (hB : B ≤ g) (hb : Blk w g T cs) (hb' : Blk w' g T cs') (hg : G w' cs') : EG B T G w w' :=
  ⟨[g], h, fun k hk => by simp at hk; subst hk; exact ⟨hB, ⟨_, hb⟩, _, hg, hb'⟩⟩
theorem EG.trans {B : Nat} {T : TypeId} {G : World → List Value → Prop} (hG : ∀ w w' cs, G w cs → EG B T G w w' → G w' cs) {a b c : World} (h : EG B T G a b) (k : EG B T G b c) : EG B T G a c := by
  have k' := k
  obtain ⟨X, h1, h2⟩ := h
  obtain ⟨Y, k1, k2⟩ := k
  refine ⟨X ++ Y.filter (fun y => decide (y < a.heap.size)), ⟨k1.os.trans h1.os, k1.tape.trans h1.tape, k1.output.trans h1.output, Nat.le_trans h1.size k1.size, fun i hi hx => ?_⟩, fun i hi => ?_⟩
  · have hxX : i ∉ X := fun h => hx (List.mem_append_left _ h)
    have hxY : i ∉ Y := fun h => hx (List.mem_append_right _ (List.mem_filter.2 ⟨h, by simpa using hi⟩))
    exact (k1.block i (Nat.lt_of_lt_of_le hi h1.size) hxY).trans (h1.block i hi hxX)
  · by_cases hX : i ∈ X
    · obtain ⟨a1, a2, cs, a3, a4⟩ := h2 i hX
      refine ⟨a1, a2, ?_⟩
      by_cases hY : i ∈ Y
      · exact (k2 i hY).2.2
      · exact ⟨cs, hG _ _ _ a3 k', (k1.block i a4.lt hY).trans a4⟩
    · rcases List.mem_append.1 hi with h | h
      · exact absurd h hX
      · obtain ⟨hY, hlt⟩ := List.mem_filter.1 h
        obtain ⟨a1, ⟨cs, a2⟩, a3⟩ := k2 i hY
        exact ⟨a1, ⟨cs, (h1.block i (by simpa using hlt) hX).symm.trans a2⟩, a3⟩
/-- Rows of other types stay. -/
theorem EG.own {B : Nat} {T : TypeId} {G : World → List Value → Prop} {w w' : World} (h : EG B T G w w') {base n size : Nat} {e : TypeId} {v : Value} {xs : List Value} (ho : w.ownsRow base e size v n xs) (he : e ≠ T) : w'.ownsRow base e size v n xs := by
  obtain ⟨X, h1, h2⟩ := h
  refine ⟨ho.1, ?_⟩
  rcases ho.2 with h' | ⟨g, cap, cur, rfl, hb, hg, hr⟩
  · exact .inl h'
  · have hl := (ho.lt g rfl).2
    refine .inr ⟨g, cap, cur, rfl, hb, (h1.block g hl fun hx => ?_).trans hg, hr⟩
    obtain ⟨_, ⟨cs, h3⟩, _⟩ := h2 g hx
    unfold Blk at h3
    rw [hg] at h3
    simp at h3
    exact he h3.2
theorem EG.good {B : Nat} {T : TypeId} {G : World → List Value → Prop} (hG : ∀ w w' cs, G w cs → EG B T G w w' → G w' cs) {w w' : World} (h : EG B T G w w') {g : Nat} (hg : ∃ cs, G w cs ∧ Blk w g T cs) : ∃ cs, G w' cs ∧ Blk w' g T cs := by
  have h' := h
  obtain ⟨X, h1, h2⟩ := h
  obtain ⟨cs, a1, a2⟩ := hg
  by_cases hx : g ∈ X
  · exact (h2 g hx).2.2
  · exact ⟨cs, hG _ _ _ a1 h', (h1.block g a2.lt hx).trans a2⟩
theorem EG.four {B : Nat} {T : TypeId} {G : World → List Value → Prop} {n : Nat} (hG : ∀ w cs, G w cs → cs.length = n) {w w' : World} (h : EG B T G w w') {g : Nat} (hg : ∃ cs, cs.length = n ∧ Blk w g T cs) : ∃ cs, cs.length = n ∧ Blk w' g T cs := by
  obtain ⟨X, h1, h2⟩ := h
  obtain ⟨cs, a1, a2⟩ := hg
  by_cases hx : g ∈ X
  · obtain ⟨_, _, cs', b1, b2⟩ := h2 g hx
    exact ⟨cs', hG _ _ b1, b2⟩
  · exact ⟨cs, a1, (h1.block g a2.lt hx).trans a2⟩
/-- Blocks of other types stay. -/
theorem EG.blk {B : Nat} {T : TypeId} {G : World → List Value → Prop} {w w' : World} (h : EG B T G w w') {g : Nat} {e : TypeId} {cs : List Value} (hb : Blk w g e cs) (he : e ≠ T) : Blk w' g e cs := by
  obtain ⟨X, h1, h2⟩ := h
  refine (h1.block g hb.lt fun hx => ?_).trans hb
  obtain ⟨_, ⟨cs', h3⟩, _⟩ := h2 g hx
  unfold Blk at h3 hb
  rw [hb] at h3
  simp at h3
  exact he h3.2
theorem own_ne {w : World} {b b' n n' s s' : Nat} {e e' : TypeId} {v v' : Value} {xs xs' : List Value} (h : w.ownsRow b e s v n xs) (h' : w.ownsRow b' e' s' v' n' xs') (he : e ≠ e') : ∀ k, v.ownBlock = some k → v'.ownBlock ≠ some k := by
  intro k hk hk'
  rcases h.2 with ⟨rfl, _⟩ | ⟨g, cap, cur, rfl, _, hg, _⟩
  · cases hk
  · rcases h'.2 with ⟨rfl, _⟩ | ⟨g', cap', cur', rfl, _, hg', _⟩
    · cases hk'
    · cases hk
      cases hk'
      rw [hg] at hg'
      simp at hg'
      exact he hg'.2
theorem own_ne_blk {w : World} {b n s g : Nat} {e e' : TypeId} {v : Value} {xs cs : List Value} (h : w.ownsRow b e s v n xs) (h' : Blk w g e' cs) (he : e ≠ e') : v.ownBlock ≠ some g := by
  intro hk
  rcases h.2 with ⟨rfl, _⟩ | ⟨g1, cap, cur, rfl, _, hg, _⟩
  · cases hk
  · cases hk
    unfold Blk at h'
    rw [hg] at h'
    simp at h'
    exact he h'.2

/-- Four cells are written. -/
theorem set4 {w : World} {g : Nat} {e : TypeId} {y0 y1 y2 y3 : Value} (h : Blk w g e [y0, y1, y2, y3]) (x0 x1 x2 x3 : Value) :
    Blk ((((w.setCell ⟨g, 0, none⟩ x0).setCell ⟨g, 1, none⟩ x1).setCell ⟨g, 2, none⟩ x2).setCell ⟨g, 3, none⟩ x3) g e [x0, x1, x2, x3] ∧
    Chg [g] w ((((w.setCell ⟨g, 0, none⟩ x0).setCell ⟨g, 1, none⟩ x1).setCell ⟨g, 2, none⟩ x2).setCell ⟨g, 3, none⟩ x3) := by
  refine ⟨?_, ((((Chg.refl _ _).setCell (by simp) _).setCell (by simp) _).setCell (by simp) _).setCell (by simp) _⟩
  have hf := (((h.set_ 0 x0).set_ 1 x1).set_ 2 x2).set_ 3 x3
  simpa only [List.set_cons_zero, List.set_cons_succ] using hf
theorem four_of {cs : List Value} (h : cs.length = 4) : ∃ a b c d, cs = [a, b, c, d] := by
  match cs, h with
  | [a, b, c, d], _ => exact ⟨a, b, c, d, rfl⟩
end Go.Proofs.YtkknhocehladdaaDoor
