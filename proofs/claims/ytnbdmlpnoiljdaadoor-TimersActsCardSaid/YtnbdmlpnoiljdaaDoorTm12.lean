/- The document's timers: their row in memory; plain facts on rows and sorted lists. -/
import Derived.Test.YtnbdmlpnoiljdaaDoorTm9
namespace Go.Proofs.YtnbdmlpnoiljdaaDoor
open Go Go.RowKit

/-- The document's order of the parts: which, when. -/
def swL (M : List (Int × Int)) : List (Int × Int) := M.map fun x => (x.2, x.1)
theorem swL_len (M : List (Int × Int)) : (swL M).length = M.length := by simp [swL]
theorem swL_append (M N : List (Int × Int)) : swL (M ++ N) = swL M ++ swL N := by simp [swL]
theorem swL_get {M : List (Int × Int)} {k : Nat} {x : Int × Int} (h : M[k]? = some x) : (swL M)[k]? = some (x.2, x.1) := by simp [swL, h]

/-- The first one of those that stand in a row. -/
def IsMin (M : List (Int × Int)) (z : Int × Int) : Prop := z ∈ M ∧ ∀ y ∈ M, ¬ ltP y z
theorem isMin_head {M : List (Int × Int)} {x z : Int × Int} {r : List (Int × Int)} (hs : sortP (x :: r)) (hp : M.Perm (x :: r)) (hz : IsMin M z) : z = x := by
  have hx : x ∈ M := hp.symm.subset (List.mem_cons_self)
  have h1 := hz.2 x hx
  rcases List.mem_cons.1 (hp.subset hz.1) with h | h
  · exact h
  · exact absurd (hs.1 z h) h1
theorem dropK_perm {M L : List (Int × Int)} (hp : M.Perm L) (key : Int) : (dropK key M).Perm (dropK key L) := hp.filter _
theorem dropK_head {x : Int × Int} {r : List (Int × Int)} (hd : ((x :: r).map (·.2)).Nodup) : dropK x.2 (x :: r) = r := by
  have := dropK_at hd (k := 0) (x := x) rfl rfl
  simpa using this.symm
theorem nodup_perm {M L : List (Int × Int)} (hp : M.Perm L) (hd : (L.map (·.2)).Nodup) : (M.map (·.2)).Nodup := (hp.map _).nodup_iff.2 hd
/-- What is due by T, and what is not. -/
structure Due (L : List (Int × Int)) (T : Int) (D R : List (Int × Int)) : Prop where
  app : L = D ++ R
  due : ∀ y ∈ D, y.1 ≤ T
  not : ∀ x r, R = x :: r → T < x.1
theorem Due.uni {L D R D' R' : List (Int × Int)} {T : Int} (h : Due L T D R) (h' : Due L T D' R') : D = D' ∧ R = R' := by
  have key : ∀ {D R D' R' : List (Int × Int)}, Due L T D R → Due L T D' R' → D'.length ≤ D.length := fun {D R D' R'} h h' => by
    rcases Nat.lt_or_ge D.length D'.length with hl | hl
    · obtain ⟨x, hx⟩ : ∃ x, D'[D.length]? = some x := ⟨_, List.getElem?_eq_getElem hl⟩
      have h1 := h'.due x (List.mem_of_getElem? hx)
      have h2 : L[D.length]? = some x := by rw [h'.app, List.getElem?_append_left hl]; exact hx
      rw [h.app, List.getElem?_append_right (Nat.le_refl _), Nat.sub_self] at h2
      cases R with
      | nil => cases h2
      | cons y r =>
        simp at h2
        subst h2
        have := h.not y r rfl
        omega
    · exact hl
  have e : D.length = D'.length := Nat.le_antisymm (key h' h) (key h h')
  exact List.append_inj (h.app.symm.trans h'.app) e
theorem AtAns.perm {M L : List (Int × Int)} {key a b : Int} {c d : Bool} (hp : M.Perm L) (hd : (L.map (·.2)).Nodup) (h : AtAns L key a c) (k : AtAns M key b d) : a = b ∧ c = d := by
  rcases h with ⟨x, hx, hxk, rfl, rfl⟩ | ⟨hno, rfl, rfl⟩
  · rcases k with ⟨y, hy, hyk, rfl, rfl⟩ | ⟨hno, rfl, rfl⟩
    · obtain ⟨i, hi, ei⟩ := List.getElem_of_mem hx
      obtain ⟨j, hj, ej⟩ := List.getElem_of_mem (hp.subset hy)
      have hi' : L[i]? = some x := by rw [List.getElem?_eq_getElem hi, ei]
      have hj' : L[j]? = some y := by rw [List.getElem?_eq_getElem hj, ej]
      have hij := key_fix hd hi' hj' (by rw [hxk, hyk])
      subst hij
      rw [hi'] at hj'
      cases hj'
      exact ⟨rfl, rfl⟩
    · exact absurd hxk (hno x (hp.symm.subset hx))
  · rcases k with ⟨y, hy, hyk, rfl, rfl⟩ | ⟨_, rfl, rfl⟩
    · exact absurd hyk (hno y (hp.subset hy))
    · exact ⟨rfl, rfl⟩

theorem Tryd.elemPr : Elem Tryd.prog 81 121 (.agg #[.int .i64 0, .int .i64 0]) 2 16 := ⟨Tryd.underlying81, by kernel_rfl, rfl, by omega⟩

/-- The document's row in memory. -/
def RlAt (w : World) (B : Nat) (v : Value) (M : List (Int × Int)) : Prop := w.ownsRow B 121 2 v M.length (tmC (swL M))
theorem RlAt.nil (w : World) (B : Nat) : RlAt w B (.slice none 0 0) [] := World.ownsRow_nil _ _ _ _
theorem RlAt.rd {w : World} {B : Nat} {v : Value} {M : List (Int × Int)} (h : RlAt w B v M) : ∃ A c, v = .slice A M.length c ∧ M.length ≤ c ∧ c ≤ maxLen ∧ Rd w 2 A M.length (tmC (swL M)) := own_rd h
theorem RlAt.chg {w w' : World} {B : Nat} {v : Value} {M : List (Int × Int)} {X : List Nat} (h : RlAt w B v M) (hc : Chg X w w') (hx : ∀ k, v.ownBlock = some k → k ∉ X) : RlAt w' B v M := own_chg h hc hx
theorem RlAt.keep {w w' : World} {B : Nat} {v : Value} {M : List (Int × Int)} (h : RlAt w B v M) (hb : Ext w w') : RlAt w' B v M := own_ext h hb
theorem RlAt.low {w : World} {B B' : Nat} {v : Value} {M : List (Int × Int)} (h : RlAt w B v M) (hB : B' ≤ B) : RlAt w B' v M := ⟨h.1, h.2.imp id fun ⟨g, cap, cur, a, b, c⟩ => ⟨g, cap, cur, a, Nat.le_trans hB b, c⟩⟩
/-- Its cells. -/
theorem RlAt.cells {w : World} {B : Nat} {v : Value} {M : List (Int × Int)} (h : RlAt w B v M) {k : Nat} {x : Int × Int} (hk : M[k]? = some x) :
    ∃ g cap, v = .slice (some ⟨g, 0, none⟩) M.length cap ∧ M.length ≤ cap ∧ cap ≤ maxLen ∧ w.cell? ⟨g, k * 2, none⟩ = some (.int .i64 x.2) ∧ w.cell? ⟨g, k * 2 + 1, none⟩ = some (.int .i64 x.1) ∧ g < w.heap.size := by
  have hkl := (List.getElem?_eq_some_iff.1 hk).1
  obtain ⟨g0, g1⟩ := tmC_get (swL_get hk)
  have h0 := h.2
  rcases h0 with ⟨_, h0⟩ | ⟨g, cap, cur, rfl, h2, h3, h4, h5, h6, h7⟩
  · omega
  · have hB : Blk w g 121 cur.toList := by simpa [Blk] using h3
    have hg : ∀ j u, (tmC (swL M))[j]? = some u → w.cell? ⟨g, j, none⟩ = some u := fun j u hu => by
      rw [hB.cell]
      rw [← h7, List.getElem?_take] at hu
      split at hu
      · exact hu
      · cases hu
    exact ⟨g, cap, rfl, h4, h5, hg _ _ g0, hg _ _ g1, hB.lt⟩

/-- The document's timers as they stand. -/
structure ModAt (w : World) (B mb : Nat) (v : Value) (now : Int) (M : List (Int × Int)) : Prop where
  blk : Blk w mb 83 [.int .i64 now, v]
  own : RlAt w B v M
  low : B ≤ mb
theorem ModAt.chg {w w' : World} {B mb : Nat} {v : Value} {now : Int} {M : List (Int × Int)} {X : List Nat} (h : ModAt w B mb v now M) (hc : Chg X w w') (h1 : mb ∉ X) (h2 : ∀ k, v.ownBlock = some k → k ∉ X) : ModAt w' B mb v now M := ⟨h.blk.chg hc h1, h.own.chg hc h2, h.low⟩
theorem ModAt.keep {w w' : World} {B mb : Nat} {v : Value} {now : Int} {M : List (Int × Int)} (h : ModAt w B mb v now M) (hx : Ext w w') : ModAt w' B mb v now M := h.chg (X := []) (.of_ext hx) (by simp) (by simp)
/-- A call has turned them: the row lies anew, or where it lay. -/
def ModTurned (w w' : World) (B mb : Nat) (v : Value) (now : Int) (M : List (Int × Int)) : Prop :=
  ∃ v', ModAt w' B mb v' now M ∧ Chg [mb] w w' ∧ ∀ k, v'.ownBlock = some k → v.ownBlock = some k ∨ w.heap.size ≤ k
end Go.Proofs.YtnbdmlpnoiljdaaDoor
