/- Put together: Sm8, Sm9, Sm10. -/
import Derived.Test.YtdhmfgaiomfodaaDoorUTgL
import Derived.Test.YtdhmfgaiomfodaaDoorUNsB
import Derived.Test.YtdhmfgaiomfodaaDoorUNsA
import Derived.Test.YtdhmfgaiomfodaaDoorUMn4
import Derived.ScopeJumps
import Derived.WalkMore
import Derived.BigQuiet
import Derived.BigRegion
import Derived.Shelf.Bits.Mul64
namespace Go.Proofs.YtdhmfgaiomfodaaDoor
open Go Go.RowKit

/-- As Q; by a goto to a label of c: what stands from there on, with one jump less. -/
def hops (P : Program) (c : Code) (Q : Exit → Act → World → Prop) : Nat → Exit → Act → World → Prop
  | 0, .goto _, _, _ => False
  | n + 1, .goto l, a, w => ∃ rest, findLabel c l = some rest ∧ rest.wp P (hops P c Q n) a w
  | _, e, a, w => Q e a w

section
variable {P : Program} {a : Act} {w : World} {Q : Exit → Act → World → Prop} {c : Code} {n l : Nat}
@[go_sem] theorem hops_normal : hops P c Q n .normal a w = Q .normal a w := by cases n <;> rfl
@[go_sem] theorem hops_exit (id : Nat) : hops P c Q n (.exit id) a w = Q (.exit id) a w := by cases n <;> rfl
@[go_sem] theorem hops_ret : hops P c Q n .ret a w = Q .ret a w := by cases n <;> rfl
@[go_sem] theorem hops_panic (ch : List PanicEntry) : hops P c Q n (.panic ch) a w = Q (.panic ch) a w := by cases n <;> rfl
end

/-- Rows of different types lie apart. -/
theorem own_apart {w : World} {b1 b2 s1 s2 n1 n2 : Nat} {e1 e2 : TypeId} {v1 v2 : Value} {x1 x2 : List Value} (h1 : w.ownsRow b1 e1 s1 v1 n1 x1) (h2 : w.ownsRow b2 e2 s2 v2 n2 x2) (he : e1 ≠ e2) {k : Nat} (hk : v1.ownBlock = some k) : v2.ownBlock ≠ some k := by
  intro hk2
  rcases h1.2 with ⟨rfl, _⟩ | ⟨g, cap, cur, rfl, _, hg, _⟩
  · cases hk
  · rcases h2.2 with ⟨rfl, _⟩ | ⟨g', cap', cur', rfl, _, hg', _⟩
    · cases hk2
    · simp only [Value.ownBlock, Option.some.injEq] at hk hk2
      subst hk
      subst hk2
      rw [hg] at hg'
      cases hg'
      exact he rfl
/-- A captures' row of one's own, above a block. -/
def CapV (b : Nat) (w : World) (cv : Value) (l : List Int) : Prop := w.ownsRow (b + 1) 3 1 cv l.length (intsV l)
/-- Ways, cell by cell. -/
def WaysV (b : Nat) (w : World) : List Way → List Value → Prop
  | [], cs => cs = []
  | a :: W, cs => ∃ cv rest, cs = .int .i64 (a.1 : Nat) :: .int .i64 a.2.1 :: cv :: rest ∧ CapV b w cv a.2.2 ∧ WaysV b w W rest
theorem WaysV.map {b : Nat} {w w' : World} (hm : ∀ cv l, CapV b w cv l → CapV b w' cv l) : ∀ {W : List Way} {cs : List Value}, WaysV b w W cs → WaysV b w' W cs
  | [], _, h => h
  | _ :: _, _, ⟨cv, rest, h1, h2, h3⟩ => ⟨cv, rest, h1, hm cv _ h2, WaysV.map hm h3⟩
theorem WaysV.keep {b : Nat} {w w' : World} {W : List Way} {cs : List Value} (h : WaysV b w W cs) (hx : Ext w w') : WaysV b w' W cs := h.map fun _ _ h => own_ext h hx
theorem WaysV.len {b : Nat} {w : World} : ∀ {W : List Way} {cs : List Value}, WaysV b w W cs → cs.length = W.length * 3
  | [], _, h => by cases h; rfl
  | _ :: W, _, ⟨cv, rest, h1, h2, h3⟩ => by rw [h1]; simp only [List.length_cons]; rw [h3.len]; omega
theorem WaysV.app {b : Nat} {w : World} {a : Way} {cv : Value} (hc : CapV b w cv a.2.2) : ∀ {W : List Way} {cs : List Value}, WaysV b w W cs → WaysV b w (W ++ [a]) (cs ++ [.int .i64 (a.1 : Nat), .int .i64 a.2.1, cv])
  | [], _, h => by cases h; exact ⟨cv, [], rfl, hc, rfl⟩
  | _ :: W, _, ⟨cv', rest, h1, h2, h3⟩ => by subst h1; exact ⟨cv', rest ++ [.int .i64 (a.1 : Nat), .int .i64 a.2.1, cv], rfl, h2, h3.app hc⟩
/-- What a run has from its beginning on: its program, and where it lies. -/
structure RS where
  A : Option Addr
  cc : Nat
  c : List Ins
  G : Nat
  gr : Nat
  gs : Nat
structure RunM (R : RS) (w : World) (pos : Int) (v : Value) (cs : List Value) (W : List Way) (sv : List Int) (turn : Int) : Prop where
  blk : Blk w R.gr 103 [.slice R.A R.c.length R.cc, .int .i64 (R.G : Nat), .int .i64 pos, v, .slice (some ⟨R.gs, 0, none⟩) R.c.length R.c.length, .int .i64 turn]
  code : Rd w 8 R.A R.c.length (codeV R.c)
  low : ∀ b o x, R.A = some ⟨b, o, x⟩ → b < R.gs
  ord : R.gs < R.gr
  seen : Blk w R.gs 3 (intsV sv)
  len : sv.length = R.c.length
  own : w.ownsRow (R.gr + 1) 113 3 v W.length cs
  ways : WaysV R.gr w W cs
theorem RunM.keep {R : RS} {w w' : World} {pos : Int} {v : Value} {cs : List Value} {W : List Way} {sv : List Int} {turn : Int} (h : RunM R w pos v cs W sv turn) (hx : Ext w w') : RunM R w' pos v cs W sv turn :=
  ⟨h.blk.keep hx, h.code.keep hx, h.low, h.ord, h.seen.keep hx, h.len, own_ext h.own hx, h.ways.keep hx⟩
theorem RunM.sh {R : RS} {w : World} {pos : Int} {v : Value} {cs : List Value} {W : List Way} {sv : List Int} {turn : Int} (h : RunM R w pos v cs W sv turn) : ∃ A c, v = .slice A W.length c ∧ W.length ≤ c ∧ c ≤ maxLen ∧ Rd w 3 A W.length cs := own_rd h.own
/-- What has turned. -/
structure RN (R : RS) (w : World) (v : Value) (w' : World) (v' : Value) : Prop where
  ch : Chg (R.gr :: R.gs :: v.ownBlock.toList) w w'
  at_ : ∀ k, v'.ownBlock = some k → v.ownBlock = some k ∨ w.heap.size ≤ k
theorem RN.refl {R : RS} {w : World} {v : Value} : RN R w v w v := ⟨Chg.refl _ _, fun _ h => .inl h⟩
theorem RN.ext {R : RS} {w w' : World} {v : Value} (h : Ext w w') : RN R w v w' v := ⟨.of_ext h, fun _ h => .inl h⟩
theorem RN.trans {R : RS} {w w1 w2 : World} {v v1 v2 : Value} (h : RN R w v w1 v1) (k : RN R w1 v1 w2 v2) : RN R w v w2 v2 := by
  refine ⟨h.ch.more k.ch fun y hy => ?_, fun j hj => ?_⟩
  · rcases List.mem_cons.1 hy with rfl | hy
    · exact .inl (by simp)
    · rcases List.mem_cons.1 hy with rfl | hy
      · exact .inl (by simp)
      · rcases h.at_ y (by simpa using hy) with e | e
        · exact .inl (by simp [e])
        · exact .inr e
  · rcases k.at_ j hj with e | e
    · exact h.at_ j e
    · exact .inr (Nat.le_trans h.ch.size e)
theorem RN.then_ext {R : RS} {w w1 w2 : World} {v v1 : Value} (h : RN R w v w1 v1) (k : Ext w1 w2) : RN R w v w2 v1 := h.trans (RN.ext k)
/-- Captures stay, whatever of the run turns. -/
theorem CapV.chg {R : RS} {w w' : World} {v cv : Value} {l : List Int} {n : Nat} {cs : List Value} (h : CapV R.gr w cv l) (ho : w.ownsRow (R.gr + 1) 113 3 v n cs) (hs : R.gs < R.gr) (hc : Chg (R.gr :: R.gs :: v.ownBlock.toList) w w') : CapV R.gr w' cv l := by
  refine own_chg h hc fun k hk hm => ?_
  have h1 := (h.lt k hk).1
  rcases List.mem_cons.1 hm with rfl | hm
  · omega
  · rcases List.mem_cons.1 hm with rfl | hm
    · omega
    · exact own_apart h ho (by decide) hk (by simpa using hm)
/-- One of the run's own blocks that is none of these stays. -/
theorem RunM.cap {R : RS} {w w' : World} {pos : Int} {v cv : Value} {l : List Int} {cs : List Value} {W : List Way} {sv : List Int} {turn : Int} (h : RunM R w pos v cs W sv turn) (hc : CapV R.gr w cv l) {v' : Value} (hn : RN R w v w' v') : CapV R.gr w' cv l := hc.chg h.own h.ord hn.ch
theorem RunM.lt {R : RS} {w : World} {pos : Int} {v : Value} {cs : List Value} {W : List Way} {sv : List Int} {turn : Int} (h : RunM R w pos v cs W sv turn) : ∀ x ∈ R.gr :: R.gs :: v.ownBlock.toList, x < w.heap.size := by
  intro x hx
  rcases List.mem_cons.1 hx with rfl | hx
  · exact h.blk.lt
  · rcases List.mem_cons.1 hx with rfl | hx
    · exact h.seen.lt
    · exact (h.own.lt x (by simpa using hx)).2
end Go.Proofs.YtdhmfgaiomfodaaDoor
namespace Go.Proofs.YtdhmfgaiomfodaaDoor
open Go Go.RowKit

end Go.Proofs.YtdhmfgaiomfodaaDoor
namespace Go.Proofs.YtdhmfgaiomfodaaDoor
open Go Go.RowKit

/-- What a way that went on leaves. -/
def FolR (R : RS) (pos turn : Int) (w : World) (v : Value) (s' : Nat → Bool) (WT : List Way) (w' : World) : Prop :=
  ∃ v' cs' sv', RunM R w' pos v' cs' WT sv' turn ∧ seenB sv' turn = s' ∧ (∀ x ∈ sv', x ≤ turn) ∧ RN R w v w' v'
/-- Rows of numbers lie apart from a way's block. -/
theorem CapV.far {b g : Nat} {w w' : World} {cv : Value} {l : List Int} {ys : List Value} (h : CapV b w cv l) (hB : Blk w g 113 ys) (hc : Chg [g] w w') : CapV b w' cv l := by
  refine own_chg h hc fun k hk hm => ?_
  obtain rfl : k = g := by simpa using hm
  rcases h.2 with ⟨rfl, _⟩ | ⟨g', cap, cur, rfl, _, hg, _⟩
  · cases hk
  · simp only [Value.ownBlock, Option.some.injEq] at hk
    subst hk
    unfold Blk at hB
    rw [hg] at hB
    cases hB
theorem RunM.far {R : RS} {g : Nat} {w w' : World} {pos : Int} {v : Value} {cs ys : List Value} {W : List Way} {sv : List Int} {turn : Int} (h : RunM R w pos v cs W sv turn) (hB : Blk w g 113 ys) (hg : R.gr < g) (hv : v.ownBlock ≠ some g) (hc : Chg [g] w w') : RunM R w' pos v cs W sv turn := by
  have hord := h.ord
  exact ⟨h.blk.chg hc (by simp; omega), h.code.chg hc (fun _ b o x e hm => by have := h.low b o x e; simp at hm; omega), h.low, h.ord, h.seen.chg hc (by simp; omega), h.len, own_chg h.own hc (fun k hk hm => by simp at hm; subst hm; exact hv hk), h.ways.map fun cv l hq => hq.far hB hc⟩
theorem RN.far {R : RS} {g : Nat} {w0 w w' : World} {v0 v : Value} (h : RN R w0 v0 w v) (hg : w0.heap.size ≤ g) (hc : Chg [g] w w') : RN R w0 v0 w' v := ⟨h.ch.more hc fun y hy => by simp at hy; subst hy; exact .inr hg, h.at_⟩
end Go.Proofs.YtdhmfgaiomfodaaDoor
