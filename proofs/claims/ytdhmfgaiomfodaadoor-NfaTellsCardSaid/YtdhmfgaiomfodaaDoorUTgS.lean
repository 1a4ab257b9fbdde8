/- Put together: Dn1, Dn2, Dn3, Dn4, Dn5. -/

import Derived.Test.YtdhmfgaiomfodaaDoorUTgL

import Derived.Test.YtdhmfgaiomfodaaDoorUTgC

import Derived.Deep.MidRow

import Derived.Great.FillDense

import Derived.Great.BuildSlice

import Derived.Test.YtdhmfgaiomfodaaDoorUTgA

import Derived.Test.YtdhmfgaiomfodaaDoorUTgN

import Derived.Test.YtdhmfgaiomfodaaDoorUTgM

namespace Go.Proofs.YtdhmfgaiomfodaaDoor

open Go Go.RowKit

/-- A node's cells, as of the document. -/
def dnC (k m : Int) (z : Bool) (p : Nat → Bool) (A : Option Addr) (n c : Nat) : List Value := [.int .i64 k, .int .i64 m, .bool z] ++ (bcs p).toList ++ [.slice A n c]

attribute [irreducible] dnC

mutual
/-- These cells say the tree; all its blocks are such ones. -/
def DNodeV (S : Nat → Prop) (w : World) : T → List Value → Prop
  | .node k m z p ks, v => ∃ A c cs, v = dnC k m z p A ks.length c ∧ ks.length ≤ c ∧ c ≤ maxLen ∧ Rd w 260 A ks.length cs ∧ (∀ b o x, A = some ⟨b, o, x⟩ → 0 < ks.length → S b) ∧ DKidsV S w ks cs
def DKidsV (S : Nat → Prop) (w : World) : List T → List Value → Prop
  | [], cs => cs = []
  | t :: ts, cs => ∃ v cs', cs = v ++ cs' ∧ DNodeV S w t v ∧ DKidsV S w ts cs'
end

/-- What keeps a tree: its blocks stand as they were. -/
theorem dnodeV_stay {S S' : Nat → Prop} {w w' : World} (hs : w.heap.size ≤ w'.heap.size) (hk : ∀ b, S b → b < w.heap.size → S' b ∧ w'.heap[b]? = w.heap[b]?) : ∀ (n : Nat) (t : T), t.size ≤ n → ∀ v, DNodeV S w t v → DNodeV S' w' t v := by
  intro n
  induction n with
  | zero => intro t ht; have := size_pos t; omega
  | succ n ih =>
    intro t ht v h
    cases t with
    | node k m z p ks =>
      unfold DNodeV at h ⊢
      obtain ⟨A, c, cs, rfl, h1, h2, h3, h4, h5⟩ := h
      rw [size_node] at ht
      have hkids : ∀ (ls : List T) (ds : List Value), (∀ x ∈ ls, x ∈ ks) → DKidsV S w ls ds → DKidsV S' w' ls ds := by
        intro ls
        induction ls with
        | nil => intro ds _ h; unfold DKidsV at h ⊢; exact h
        | cons x r ih2 =>
          intro ds hm h
          unfold DKidsV at h ⊢
          obtain ⟨u, ds', e, h6, h7⟩ := h
          have hx := sizeL_mem (hm x List.mem_cons_self)
          exact ⟨u, ds', e, ih x (by omega) u h6, ih2 ds' (fun y hy => hm y (List.mem_cons_of_mem _ hy)) h7⟩
      refine ⟨A, c, cs, rfl, h1, h2, ⟨h3.1, fun hp => ?_⟩, fun b o x e hp => ?_, hkids ks cs (fun _ h => h) h5⟩
      · obtain ⟨b, o, e, hb, hc⟩ := h3.2 hp
        have hb2 := hk b (h4 b o none e (by have := h3.1; omega)) hb
        exact ⟨b, o, e, by omega, fun j u hu => (World.cell?_of_block hb2.2).trans (hc j u hu)⟩
      · obtain ⟨b', o', e', hb, _⟩ := h3.2 (by rw [h3.1]; omega)
        rw [e] at e'
        cases e'
        exact (hk _ (h4 _ _ _ e hp) hb).1

theorem DNodeV.keep {S : Nat → Prop} {w w' : World} {t : T} {v : List Value} (h : DNodeV S w t v) (hx : Ext w w') : DNodeV S w' t v :=
  dnodeV_stay hx.size (fun b hb hlt => ⟨hb, hx.block b hlt⟩) t.size t (Nat.le_refl _) v h

theorem DNodeV.mono {S S' : Nat → Prop} {w : World} {t : T} {v : List Value} (h : DNodeV S w t v) (hs : ∀ b, b < w.heap.size → S b → S' b) : DNodeV S' w t v :=
  dnodeV_stay (Nat.le_refl _) (fun b hb hlt => ⟨hs b hlt hb, rfl⟩) t.size t (Nat.le_refl _) v h

theorem DNodeV.chg {S : Nat → Prop} {w w' : World} {t : T} {v : List Value} {X : List Nat} (h : DNodeV S w t v) (hx : Chg X w w') (hs : ∀ x ∈ X, ¬ S x) : DNodeV S w' t v :=
  dnodeV_stay hx.size (fun b hb hlt => ⟨hb, hx.block b hlt (fun hm => hs b hm hb)⟩) t.size t (Nat.le_refl _) v h

theorem DNodeV.grew {S : Nat → Prop} {w w' : World} {t : T} {v : List Value} {base : Nat} {u : Value} (h : DNodeV S w t v) (hx : Grew base w w' u) (hs : ∀ b, S b → some b ≠ u.ownBlock) : DNodeV S w' t v :=
  dnodeV_stay hx.size (fun b hb hlt => ⟨hb, hx.by_.block b hlt (hs b hb)⟩) t.size t (Nat.le_refl _) v h

/-! ### A block that holds one node -/

section

variable {w w' : World} {g : Nat} {k m : Int} {z : Bool} {p : Nat → Bool} {A : Option Addr} {n c : Nat}

end

/-! ### Loads and stores of nodes -/

section

variable {w : World} {ops : Array Oper} {rest : List Oper} {o : Oper} {a : Act} {Q : Exit → Act → World → Prop}

end

end Go.Proofs.YtdhmfgaiomfodaaDoor

namespace Go.Proofs.YtdhmfgaiomfodaaDoor

open Go Go.RowKit

theorem DNodeV.kids {S : Nat → Prop} {w : World} {k m : Int} {z : Bool} {p : Nat → Bool} {ks : List T} {v : List Value} (h : DNodeV S w (.node k m z p ks) v) : ∃ A c cs, v = dnC k m z p A ks.length c ∧ ks.length ≤ c ∧ c ≤ maxLen ∧ Rd w 260 A ks.length cs ∧ DKidsV S w ks cs := by
  unfold DNodeV at h
  obtain ⟨A, c, cs, rfl, h1, h2, h3, _, h5⟩ := h
  exact ⟨A, c, cs, rfl, h1, h2, h3, h5⟩

end Go.Proofs.YtdhmfgaiomfodaaDoor

namespace Go.Proofs.YtdhmfgaiomfodaaDoor

open Go Go.RowKit

/-- One part. -/
theorem fill_step (place : Nat → Option (Nat × Nat)) (cells : Array Value) (i off size : Nat) (v : Value) (rest : List (Nat × Value)) (hp : place i = some (off, size)) (hv : v.cells.size = size) (hle : off + size ≤ cells.size) :
    ∃ c, Instr.fill place cells ((i, v) :: rest) = Instr.fill place c rest ∧ c.size = cells.size ∧ ∀ k, c[k]? = if off ≤ k ∧ k < off + size then v.cells[k - off]? else cells[k]? := by
  obtain ⟨g1, g2⟩ := Great.foldl_set off v.cells.toList 0 cells
  refine ⟨(v.cells.toList.zipIdx 0).foldl (fun cs (x : Value × Nat) => cs.setIfInBounds (off + x.2) x.1) cells, ?_, g1, fun k => ?_⟩
  · conv => lhs; unfold Instr.fill
    simp only [hp, hv]
    rw [if_neg (by simp; omega), ← Array.foldl_toList, Array.toList_zipIdx]
  · rw [g2 k, Array.length_toList, hv, Nat.add_zero]
    by_cases hk : off ≤ k ∧ k < off + size
    · rw [if_pos ⟨hk.1, hk.2, by omega⟩, if_pos hk, Array.getElem?_toList]
    · rw [if_neg (by intro h; exact hk ⟨h.1, h.2.1⟩), if_neg hk]

end Go.Proofs.YtdhmfgaiomfodaaDoor

namespace Go.Proofs.YtdhmfgaiomfodaaDoor

open Go Go.RowKit

attribute [local irreducible] wd

theorem grew_chg {base : Nat} {w w' : World} {v : Value} (h : Grew base w w' v) : Chg v.ownBlock.toList w w' := by
  obtain ⟨a1, a2, a3, a4, a5⟩ := h.by_
  exact ⟨a1, a2, a3, a4, fun k hk hx => a5 k hk (fun e => hx (by rw [← e]; simp))⟩

end Go.Proofs.YtdhmfgaiomfodaaDoor

namespace Go.Proofs.YtdhmfgaiomfodaaDoor

open Go Go.RowKit

section

variable {w : World} {ops : Array Oper} {rest : List Oper} {o : Oper} {a : Act} {Q : Exit → Act → World → Prop}

end

end Go.Proofs.YtdhmfgaiomfodaaDoor
