/- The ring: what it is in memory, and its reading calls. -/
import Derived.Test.YtnbdmlpnoiljdaaDoorChg
import Derived.Test.YtnbdmlpnoiljdaaDoorCirc
import Derived.Test.YtnbdmlpnoiljdaaDoorElem
import Derived.RegionTactic
import Derived.ChangeAlike
import Derived.BigQuiet
import Derived.Deep.QuietTactic
import Derived.Deep.RegionLaw
namespace Go.Proofs.YtnbdmlpnoiljdaaDoor
open Go Go.RowKit

def ringV (g R f came went : Nat) : List Value := [.slice (some ⟨g, 0, none⟩) R R, .int .i64 f, .int .i64 came, .int .i64 went]

/-- At p there is a ring of R places (block g, which are s), in which q waits from place f on; went bytes have gone. -/
structure RingAt (w : World) (p g R : Nat) (q : List UInt8) (went f : Nat) (s : List UInt8) : Prop where
  pt : Blk w p 129 (ringV g R f (went + q.length) went)
  sl : Blk w g 5 (bytesV s)
  ne : p ≠ g
  circ : Circ s R f q
  lt : f < R
  most : R ≤ 4096
  small : went + q.length ≤ 1000000

theorem RingAt.chg {w w' : World} {p g R went f : Nat} {q s : List UInt8} {X : List Nat} (h : RingAt w p g R q went f s) (hc : Chg X w w') (hp : p ∉ X) (hg : g ∉ X) : RingAt w' p g R q went f s :=
  ⟨h.pt.chg hc hp, h.sl.chg hc hg, h.ne, h.circ, h.lt, h.most, h.small⟩
theorem RingAt.keep {w w' : World} {p g R went f : Nat} {q s : List UInt8} (h : RingAt w p g R q went f s) (hc : Ext w w') : RingAt w' p g R q went f s :=
  ⟨h.pt.keep hc, h.sl.keep hc, h.ne, h.circ, h.lt, h.most, h.small⟩

theorem RingAt.c0 {w : World} {p g R went f : Nat} {q s : List UInt8} (h : RingAt w p g R q went f s) : w.cell? ⟨p, 0, none⟩ = some (.slice (some ⟨g, 0, none⟩) R R) := h.pt.cell 0
theorem RingAt.c1 {w : World} {p g R went f : Nat} {q s : List UInt8} (h : RingAt w p g R q went f s) : w.cell? ⟨p, 1, none⟩ = some (.int .i64 f) := h.pt.cell 1
theorem RingAt.c2 {w : World} {p g R went f : Nat} {q s : List UInt8} (h : RingAt w p g R q went f s) : w.cell? ⟨p, 2, none⟩ = some (.int .i64 (went + q.length : Nat)) := h.pt.cell 2
theorem RingAt.c3 {w : World} {p g R went f : Nat} {q s : List UInt8} (h : RingAt w p g R q went f s) : w.cell? ⟨p, 3, none⟩ = some (.int .i64 went) := h.pt.cell 3

theorem ringLen {p g R went f : Nat} {q s : List UInt8} (w : World) (h : RingAt w p g R q went f s) :
    Calls Tryd.prog 80 #[.pointer (some ⟨p, 0, none⟩)] w fun e w' => e = .returned (.int .i64 q.length) ∧ w' = w.drew := by
  have c2 := h.c2
  have c3 := h.c3
  have hs := h.small
  go_enter Tryd.func80, Tryd.ntmps80
  go_wp2
  go_region
  all_goals go_wp2
  all_goals go_ret
  all_goals exact ⟨by simp; omega, rfl⟩

theorem ringRoom {p g R went f : Nat} {q s : List UInt8} (w : World) (h : RingAt w p g R q went f s) :
    Calls Tryd.prog 60 #[.pointer (some ⟨p, 0, none⟩)] w fun e w' => e = .returned (.int .i64 ((R : Int) - q.length)) ∧ w' = w.drew.drew := by
  have c0 := h.c0
  have hs := h.small
  have hm := h.most
  go_enter Tryd.func60, Tryd.ntmps60
  go_wp2
  go_region_with (go_at_call 80; refine (ringLen (p := p) (g := g) (R := R) (q := q) (went := went) (f := f) (s := s) _ ?_).mono ?_; exact h.keep ((Below.refl _ _).drew); rintro e w' ⟨rfl, rfl⟩)
  all_goals go_wp2
  all_goals go_ret
  all_goals exact ⟨by have := h.circ.fits; simp [Act.put]; exact wrap_id (by omega) (by omega), rfl⟩

set_option maxRecDepth 10000 in
theorem ringNew (R : Nat) (w : World) (h0 : 0 < R) (h1 : R ≤ 4096) :
    Calls Tryd.prog 57 #[.int .i64 R] w fun e w' => ∃ p g, e = .returned (.tuple #[.pointer (some ⟨p, 0, none⟩), .nilIface]) ∧ RingAt w' p g R [] 0 0 (List.replicate R 0) ∧ Ext w w' ∧ w.heap.size ≤ p ∧ w.heap.size ≤ g := by
  go_enter Tryd.func57, Tryd.ntmps57
  go_wp2_with (at_make; go_loud (refine wpList_mk1 Tryd.elemB rfl rfl (.tmp 11) (.tmp 11) rfl (n := R) (cap := R) rfl rfl rfl rfl (Nat.le_refl _) (by omega) (by unfold maxLen; omega) ?_); intro w1 hB0 hb0)
  all_goals go_ret2
  refine ⟨w1.heap.size, w.heap.size, by simp, ⟨Blk.new _ _ _, ?_, ?_, ⟨by simp, by simp, by simp⟩, h0, h1, by simp⟩, hb0.alloc hb0.size _, hb0.size, Nat.le_refl _⟩
  · have := hB0.alloc (.cells #[.slice (some ⟨w.heap.size, 0, none⟩) R R, .int .i64 0, .int .i64 0, .int .i64 0] 129)
    simpa [bytesV, U8] using this
  · have := hB0.lt; omega
end Go.Proofs.YtnbdmlpnoiljdaaDoor
