/- layer 39: an event of one's own row is turned; joined, whole. -/
import Derived.Test.YtnbdmlpnoiljdaaCut10
import Derived.Test.YtnbdmlpnoiljdaaEv3
namespace Go.Proofs.Ytnbdmlpnoiljdaa
open Go Go.RowKit

theorem own_set {w : World} {base g n c i size : Nat} {e : TypeId} {xs : List Value} (h : w.ownsRow base e size (.slice (some ⟨g, 0, none⟩) n c) n xs) (u : Value) : (w.setCell ⟨g, i, none⟩ u).ownsRow base e size (.slice (some ⟨g, 0, none⟩) n c) n (xs.set i u) := by
  refine ⟨by simpa using h.1, ?_⟩
  rcases h.2 with ⟨h1, _⟩ | ⟨g', cap, cur, he, hb, hg, h1, h2, h3, h4⟩
  · cases h1
  · cases he
    have hB : Blk w g e cur.toList := by simpa [Blk] using hg
    have hB2 := hB.set_ i u
    refine .inr ⟨g, c, (cur.toList.set i u).toArray, rfl, hb, hB2, h1, h2, by simp; omega, ?_⟩
    rw [← h4]
    simp [List.take_set]
theorem evCells_set : ∀ (es : List Ev) (vs : List (Value × Value)) (j : Nat) (e : Ev) (v : Value × Value) (_ : j < es.length) (_ : vs.length = es.length),
    ((((evCells es vs).set (j * 4) (.int .i64 e.kind)).set (j * 4 + 1) (.int .i64 e.n)).set (j * 4 + 2) v.1).set (j * 4 + 3) v.2 = evCells (es.set j e) (vs.set j v) := by
  intro es
  induction es with
  | nil => intro vs j e v h; simp at h
  | cons x es ih =>
    intro vs j e v h1 h2
    cases vs with
    | nil => simp at h2
    | cons y vs =>
      cases j with
      | zero => simp [evCells, evV]
      | succ j =>
        have := ih vs j e v (by simpa using h1) (by simpa using h2)
        simp only [List.set_cons_succ, evCells]
        rw [← this]
        have hs : ∀ (l : List Value) (i : Nat) (u : Value), (evV x y.1 y.2 ++ l).set (i + 4) u = evV x y.1 y.2 ++ l.set i u := fun l i u => by
          rw [List.set_append_right _ _ (by simp [evV])]
          simp [evV]
        rw [show (j + 1) * 4 = j * 4 + 4 by omega, hs, show j * 4 + 4 + 1 = j * 4 + 1 + 4 by omega, hs, show j * 4 + 4 + 2 = j * 4 + 2 + 4 by omega, hs, show j * 4 + 4 + 3 = j * 4 + 3 + 4 by omega, hs]
/-- An event of the row is turned. -/
theorem OutAt.set {w : World} {B : Nat} {X : List Nat} {es : List Ev} {g c j : Nat} {e : Ev} {vb vm : Value} (h : OutAt w B X (.slice (some ⟨g, 0, none⟩) es.length c) es) (hj : j < es.length) (he : EvOk w (g :: X) e vb vm) :
    OutAt ((((w.setCell ⟨g, j * 4, none⟩ (.int .i64 e.kind)).setCell ⟨g, j * 4 + 1, none⟩ (.int .i64 e.n)).setCell ⟨g, j * 4 + 2, none⟩ vb).setCell ⟨g, j * 4 + 3, none⟩ vm) B X (.slice (some ⟨g, 0, none⟩) es.length c) (es.set j e) := by
  obtain ⟨vs, h1, h2, h3, h4⟩ := h
  have hc : Chg [g] w ((((w.setCell ⟨g, j * 4, none⟩ (.int .i64 e.kind)).setCell ⟨g, j * 4 + 1, none⟩ (.int .i64 e.n)).setCell ⟨g, j * 4 + 2, none⟩ vb).setCell ⟨g, j * 4 + 3, none⟩ vm) := ((((Chg.refl _ _).setCell (by simp) _).setCell (by simp) _).setCell (by simp) _).setCell (by simp) _
  have ho := own_set (i := j * 4 + 3) (own_set (i := j * 4 + 2) (own_set (i := j * 4 + 1) (own_set (i := j * 4) h2 (.int .i64 e.kind)) (.int .i64 e.n)) vb) vm
  have hcs := evCells_set es vs j e (vb, vm) hj h1
  simp only at hcs
  rw [hcs] at ho
  refine ⟨vs.set j (vb, vm), by simp [h1], ?_, h3, fun i e' u he' hu => ?_⟩
  · rw [List.length_set]; exact ho
  · have hmem : ∀ y ∈ [g], y ∈ (Value.slice (some ⟨g, 0, none⟩) es.length c).ownBlock.toList ++ X ∨ w.heap.size ≤ y := fun y hy => .inl (by simp at hy; subst hy; simp [Value.ownBlock])
    by_cases hij : i = j
    · subst hij
      rw [List.getElem?_set_self hj] at he'
      rw [List.getElem?_set_self (by omega)] at hu
      cases he'
      cases hu
      exact EvOk.step (X := g :: X) he hc (fun y hy => .inl (by simp at hy; simp [hy])) (fun y hy => .inl (by simpa [Value.ownBlock] using hy))
    · rw [List.getElem?_set_ne (Ne.symm hij)] at he' hu
      exact (h4 i e' u he' hu).step hc hmem (fun y hy => .inl hy)

theorem right_n {e : Ev} (h : rightE e = true) : 0 ≤ e.n := by
  rcases right_kind h with hk | hk | hk | hk
  · rw [(right1 h hk).1]; omega
  · unfold rightE at h; simp [hk] at h; omega
  · exact (right3 h hk).1
  · unfold rightE at h; simp [hk] at h; omega
theorem cutJoined {w : World} {X : List Nat} {a x : Ev} {vb vm ub um : Value} (h : EvOk w X a vb vm) (h' : EvOk w X x ub um) (ha : rightE a = true) (hx : rightE x = true) :
    Calls Try.prog 25 #[evA a vb vm, evA x ub um] w fun r w' => JoinedTo w w' a x vb vm r := by
  by_cases hk : a.kind = x.kind
  · by_cases hs : sizeE a < 0
    · exact joined_size h h' hk hs (right_n ha)
    · rcases size_kind hs with h1 | h3
      · have hm := right_marks hx
        exact joined_bytes h h' hk h1 (right1 ha h1).2.1 (right_marks ha).1 (right1 hx (by omega)).2.1 hm.1 hm.2
      · have r1 := right3 ha h3
        have r2 := right3 hx (by omega)
        exact joined_pads h h' hk h3 ⟨r1.1, r1.2.1⟩ ⟨r2.1, r2.2.1⟩
  · exact joined_kind h h' hk

/-- What lies in the variable in which Merge keeps two events as one. -/
def JG (B : Nat) (a x : Ev) (va vma : Value) (w : World) (e' : Ev) (vb' vm' : Value) : Prop :=
  (canJoin a x = true → e' = joinP a x) ∧ ((e' = a ∧ vb' = va ∧ vm' = vma) ∨ (w.ownsRow B 5 1 vb' e'.b.length (bytesV e'.b) ∧ w.ownsRow B 3 1 vm' e'.m.length (intsV e'.m)))
def mG (B : Nat) (a x : Ev) (va vma : Value) (w : World) (cs : List Value) : Prop :=
  ∃ e' vb' vm', cs = evV e' vb' vm' ∧ JG B a x va vma w e' vb' vm'
theorem JG.step {B : Nat} {a x : Ev} {va vma : Value} {G : World → List Value → Prop} {w w' : World} {e' : Ev} {vb' vm' : Value} (h : JG B a x va vma w e' vb' vm') (hE : EG B 43 G w w') : JG B a x va vma w' e' vb' vm' := by
  obtain ⟨h1, h2⟩ := h
  refine ⟨h1, ?_⟩
  rcases h2 with h | ⟨h3, h4⟩
  · exact .inl h
  · exact .inr ⟨hE.own h3 (by decide), hE.own h4 (by decide)⟩
theorem JG.chg {B : Nat} {a x : Ev} {va vma : Value} {w w' : World} {e' : Ev} {vb' vm' : Value} {g : Nat} {cs : List Value} (h : JG B a x va vma w e' vb' vm') (hc : Chg [g] w w') (hb : Blk w g 43 cs) : JG B a x va vma w' e' vb' vm' := by
  obtain ⟨h1, h2⟩ := h
  refine ⟨h1, ?_⟩
  rcases h2 with h | ⟨h3, h4⟩
  · exact .inl h
  · exact .inr ⟨own_chg h3 hc (fun k hk hm => own_ne_blk h3 hb (by decide) (by rw [hk]; simp at hm; rw [hm])), own_chg h4 hc (fun k hk hm => own_ne_blk h4 hb (by decide) (by rw [hk]; simp at hm; rw [hm]))⟩
theorem mG_len {B : Nat} {a x : Ev} {va vma : Value} {w : World} {cs : List Value} (h : mG B a x va vma w cs) : cs.length = 4 := by obtain ⟨_, _, _, rfl, _⟩ := h; rfl
theorem mG_stable (B : Nat) (a x : Ev) (va vma : Value) (w w' : World) (cs : List Value) (h : mG B a x va vma w cs) (hE : EG B 43 (mG B a x va vma) w w') : mG B a x va vma w' cs := by
  obtain ⟨e', vb, vm, h1, h2⟩ := h
  exact ⟨e', vb, vm, h1, h2.step hE⟩
/-- It reads. -/
theorem JG.ok {B : Nat} {a x : Ev} {va vma : Value} {w : World} {e' : Ev} {vb' vm' : Value} {X : List Nat} (h : JG B a x va vma w e' vb' vm') (ha : EvOk w X a va vma) (hX : ∀ y ∈ X, y < B) : EvOk w X e' vb' vm' := by
  rcases h.2 with ⟨rfl, rfl, rfl⟩ | ⟨h3, h4⟩
  · exact ha
  · exact ⟨own_rdg h3 (fun k hk hm => by have := (h3.lt k hk).1; have := hX k hm; omega), own_rdg h4 (fun k hk hm => by have := (h4.lt k hk).1; have := hX k hm; omega)⟩
theorem JG.slices {B : Nat} {a x : Ev} {va vma : Value} {w : World} {e' : Ev} {vb' vm' : Value} (h : JG B a x va vma w e' vb' vm') {X : List Nat} {w0 : World} (ha : EvOk w0 X a va vma) : ∃ A c C d, vb' = .slice A e'.b.length c ∧ vm' = .slice C e'.m.length d := by
  rcases h.2 with ⟨rfl, rfl, rfl⟩ | ⟨h3, h4⟩
  · obtain ⟨A, c, C, d, rfl, rfl, _⟩ := ha.open
    exact ⟨A, c, C, d, rfl, rfl⟩
  · obtain ⟨A, c, rfl, _⟩ := own_rd h3
    obtain ⟨C, d, rfl, _⟩ := own_rd h4
    exact ⟨A, c, C, d, rfl, rfl⟩
end Go.Proofs.Ytnbdmlpnoiljdaa
