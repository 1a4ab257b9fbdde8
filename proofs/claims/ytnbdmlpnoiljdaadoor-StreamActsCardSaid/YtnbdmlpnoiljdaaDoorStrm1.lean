/- The stream: what it is in memory. -/
import Derived.Test.YtnbdmlpnoiljdaaDoorRing4
import Derived.Test.YtnbdmlpnoiljdaaDoorErrC
import Derived.Test.YtnbdmlpnoiljdaaDoorOff
import Derived.Test.YtnbdmlpnoiljdaaDoorCatB
import Derived.Test.YtnbdmlpnoiljdaaDoorInts
import Derived.Test.YtnbdmlpnoiljdaaDoorOb
import Derived.BigRegion
import Derived.Handy
namespace Go.Proofs.YtnbdmlpnoiljdaaDoor
open Go Go.RowKit

/-- What a stream has. -/
structure St where
  inn : List UInt8
  marks : List Int
  read : Nat
  closed : Bool
  q : List UInt8
  wire : List UInt8
/-- Where it lies. -/
structure Mem where
  a : Nat
  p : Nat
  g : Nat
  R : Nat
  f : Nat
  s : List UInt8
  vi : Value
  vm : Value
  vw : Value
def Mem.In (m : Mem) (k : Nat) : Prop := k = m.a ∨ k = m.p ∨ k = m.g ∨ ob m.vi = k + 1 ∨ ob m.vm = k + 1 ∨ ob m.vw = k + 1
def Mem.Y (m : Mem) : List Nat := [m.a, m.p, m.g] ++ (m.vi.ownBlock.toList ++ (m.vm.ownBlock.toList ++ m.vw.ownBlock.toList))
theorem Mem.mem_Y {m : Mem} {k : Nat} : k ∈ m.Y ↔ m.In k := by
  unfold Mem.Y Mem.In
  simp only [List.mem_append, ob_list, List.mem_cons, List.not_mem_nil, or_false]
  omega
structure StrmAt (w : World) (B : Nat) (m : Mem) (S : St) : Prop where
  blk : Blk w m.a 102 [m.vi, m.vm, .int .i64 S.read, .bool S.closed, .pointer (some ⟨m.p, 0, none⟩), m.vw]
  ring : RingAt w m.p m.g m.R S.q S.wire.length m.f m.s
  inn : OwnO w B 5 m.vi S.inn.length (bytesV S.inn)
  mks : OwnO w B 3 m.vm S.marks.length (intsV S.marks)
  wire : OwnO w B 5 m.vw S.wire.length (bytesV S.wire)
  low : B ≤ m.a ∧ B ≤ m.p ∧ B ≤ m.g
  sep : m.a ≠ m.p ∧ m.a ≠ m.g ∧ (ob m.vi = 0 ∨ (ob m.vi ≠ m.a + 1 ∧ ob m.vi ≠ m.p + 1 ∧ ob m.vi ≠ m.g + 1)) ∧ (ob m.vm = 0 ∨ (ob m.vm ≠ m.a + 1 ∧ ob m.vm ≠ m.p + 1 ∧ ob m.vm ≠ m.g + 1)) ∧
    (ob m.vw = 0 ∨ (ob m.vw ≠ m.a + 1 ∧ ob m.vw ≠ m.p + 1 ∧ ob m.vw ≠ m.g + 1)) ∧ (ob m.vi = 0 ∨ (ob m.vi ≠ ob m.vm ∧ ob m.vi ≠ ob m.vw)) ∧ (ob m.vm = 0 ∨ ob m.vm ≠ ob m.vw)
  small : S.read + S.inn.length ≤ 1000000 ∧ S.inn.length ≤ 4096 ∧ S.marks.length ≤ 1000000
theorem StrmAt.lt {w : World} {B : Nat} {m : Mem} {S : St} (h : StrmAt w B m S) {k : Nat} (hk : m.In k) : B ≤ k ∧ k < w.heap.size := by
  have h1 := h.blk.lt
  have h2 := h.ring.pt.lt
  have h3 := h.ring.sl.lt
  have h4 := h.inn.ob_lt
  have h5 := h.mks.ob_lt
  have h6 := h.wire.ob_lt
  have := h.low
  unfold Mem.In at hk
  omega
theorem StrmAt.chg {w w' : World} {B : Nat} {m : Mem} {S : St} {X : List Nat} (h : StrmAt w B m S) (hc : Chg X w w') (hx : ∀ k, m.In k → k ∉ X) : StrmAt w' B m S :=
  ⟨h.blk.chg hc (hx _ (by unfold Mem.In; omega)), h.ring.chg hc (hx _ (by unfold Mem.In; omega)) (hx _ (by unfold Mem.In; omega)), h.inn.chg' hc fun k hk => hx k (by unfold Mem.In; omega),
   h.mks.chg' hc fun k hk => hx k (by unfold Mem.In; omega), h.wire.chg' hc fun k hk => hx k (by unfold Mem.In; omega), h.low, h.sep, h.small⟩
theorem StrmAt.keep {w w' : World} {B : Nat} {m : Mem} {S : St} (h : StrmAt w B m S) (hb : Ext w w') : StrmAt w' B m S := h.chg (X := []) (.of_ext hb) (by simp)
/-- A call has turned a stream. -/
def Turned (w w' : World) (B : Nat) (m : Mem) (S : St) : Prop :=
  ∃ m', StrmAt w' B m' S ∧ m'.a = m.a ∧ m'.R = m.R ∧ Chg m.Y w w' ∧ ∀ k, m'.In k → m.In k ∨ w.heap.size ≤ k
/-- Another stream beside it. -/
theorem Turned.beside {w w' : World} {B B' : Nat} {m m' m2 : Mem} {S' : St} (h : StrmAt w B m2 S') (hd : ∀ k, m.In k → ¬ m2.In k) (hc : Chg m.Y w w') (hn : ∀ k, m'.In k → m.In k ∨ w.heap.size ≤ k) (_ : B' ≤ B) : StrmAt w' B m2 S' ∧ ∀ k, m'.In k → ¬ m2.In k := by
  refine ⟨h.chg hc fun k hk hy => hd k (Mem.mem_Y.1 hy) hk, fun k hk h2 => ?_⟩
  rcases hn k hk with h' | h'
  · exact hd k h' h2
  · have := (h.lt h2).2; omega
end Go.Proofs.YtnbdmlpnoiljdaaDoor
