/- The stream's calls. -/
import Derived.Test.YtnbdmlpnoiljdaaDoorStrm1
namespace Go.Proofs.YtnbdmlpnoiljdaaDoor
open Go Go.RowKit

theorem RingAt.of_cells {w w' : World} {p g R went f : Nat} {q s : List UInt8} {X : List Nat} (h : RingAt w p g R q went f s) (hc : Chg X w w') (hp : p ∉ X) (hg : g ∉ X) : RingAt w' p g R q went f s := h.chg hc hp hg
theorem StrmAt.drawn {w : World} {B : Nat} {m : Mem} {S : St} (h : StrmAt w B m S) (n : Nat) : StrmAt (w.drewN n) B m S := h.keep (Ext.drawn _ _)

set_option maxHeartbeats 400000 in
theorem strmNew (R : Nat) (w : World) (h0 : 0 < R) (h1 : R ≤ 4096) :
    Calls Tryd.prog 23 #[.int .i64 R] w fun e w' => ∃ m, e = .returned (.tuple #[.pointer (some ⟨m.a, 0, none⟩), .nilIface]) ∧ StrmAt w' w.heap.size m ⟨[], [], 0, false, [], []⟩ ∧ m.R = R ∧ Ext w w' := by
  go_enter Tryd.func23, Tryd.ntmps23
  go_wp2_with (go_at_call 57; refine (ringNew R _ h0 h1).mono ?_; rintro e w1 ⟨p, g, rfl, hq1, hb1, hp1, hg1⟩)
  go_ret2
  have hs := hb1.size
  have h2 := hq1.pt.lt
  have h3 := hq1.sl.lt
  refine ⟨⟨w1.heap.size, p, g, R, 0, _, .slice none 0 0, .slice none 0 0, .slice none 0 0⟩, rfl, ⟨Blk.newL w1 _ [_, _, _, _, _, _], hq1.keep (Ext.new1 _ _), OwnO.nil _ _ _, OwnO.nil _ _ _, OwnO.nil _ _ _, ⟨hs, hp1, hg1⟩, ?_, by simp⟩, rfl, hb1.trans (Ext.new1 _ _)⟩
  exact ⟨show w1.heap.size ≠ p by omega, show w1.heap.size ≠ g by omega, .inl rfl, .inl rfl, .inl rfl, .inl rfl, .inl rfl⟩

theorem strmWaits {w : World} {B : Nat} {m : Mem} {S : St} (h : StrmAt w B m S) :
    Calls Tryd.prog 32 #[.pointer (some ⟨m.a, 0, none⟩)] w fun e w' => e = .returned (.int .i64 S.inn.length) ∧ w = w' := by
  obtain ⟨A, c, hv, _, _, _⟩ := h.inn.rd
  have e0 : w.cell? ⟨m.a, 0, none⟩ = some m.vi := h.blk.cell 0
  rw [hv] at e0
  have hs := h.small
  go_enter Tryd.func32, Tryd.ntmps32
  go_wp2
  go_ret
  exact ⟨rfl, rfl⟩

theorem strmRead {w : World} {B : Nat} {m : Mem} {S : St} (h : StrmAt w B m S) :
    Calls Tryd.prog 33 #[.pointer (some ⟨m.a, 0, none⟩)] w fun e w' => e = .returned (.int .i64 S.read) ∧ w = w' := by
  have e0 : w.cell? ⟨m.a, 2, none⟩ = some (.int .i64 S.read) := h.blk.cell 2
  go_enter Tryd.func33, Tryd.ntmps33
  go_wp2
  go_ret
  exact ⟨rfl, rfl⟩

theorem strmClosed {w : World} {B : Nat} {m : Mem} {S : St} (h : StrmAt w B m S) :
    Calls Tryd.prog 34 #[.pointer (some ⟨m.a, 0, none⟩)] w fun e w' => e = .returned (.bool S.closed) ∧ w = w' := by
  have e0 : w.cell? ⟨m.a, 3, none⟩ = some (.bool S.closed) := h.blk.cell 3
  go_enter Tryd.func34, Tryd.ntmps34
  go_wp2
  go_ret
  exact ⟨rfl, rfl⟩

theorem strmEnded {w : World} {B : Nat} {m : Mem} {S : St} (h : StrmAt w B m S) :
    Calls Tryd.prog 35 #[.pointer (some ⟨m.a, 0, none⟩)] w fun e w' => e = .returned (.bool (S.closed && decide (S.inn.length = 0))) ∧ w = w' := by
  obtain ⟨A, c, hv, _, _, _⟩ := h.inn.rd
  have e0 : w.cell? ⟨m.a, 0, none⟩ = some m.vi := h.blk.cell 0
  rw [hv] at e0
  have e1 : w.cell? ⟨m.a, 3, none⟩ = some (.bool S.closed) := h.blk.cell 3
  obtain ⟨n, hn⟩ : ∃ n, S.inn.length = n := ⟨_, rfl⟩
  obtain ⟨cl, hcl⟩ : ∃ cl, S.closed = cl := ⟨_, rfl⟩
  rw [hn] at e0 ⊢
  rw [hcl] at e1 ⊢
  clear hv hn hcl h
  cases cl
  · go_enter Tryd.func35, Tryd.ntmps35
    go_wp2
    go_ret
    exact ⟨rfl, rfl⟩
  · go_enter Tryd.func35, Tryd.ntmps35
    go_wp2
    go_ret
    exact ⟨by by_cases h0 : n = 0 <;> simp [h0], rfl⟩

theorem strmRoom {w : World} {B : Nat} {m : Mem} {S : St} (h : StrmAt w B m S) :
    Calls Tryd.prog 29 #[.pointer (some ⟨m.a, 0, none⟩)] w fun e w' => e = .returned (.int .i64 ((m.R : Int) - S.q.length)) ∧ ∃ k, w' = w.drewN k := by
  have e0 : w.cell? ⟨m.a, 4, none⟩ = some (.pointer (some ⟨m.p, 0, none⟩)) := h.blk.cell 4
  go_enter Tryd.func29, Tryd.ntmps29
  go_wp2_with (go_at_call 60; refine (ringRoom _ h.ring).mono ?_; rintro e w1 ⟨rfl, rfl⟩)
  go_ret
  exact ⟨rfl, 2, rfl⟩

theorem strmWire {w : World} {B : Nat} {m : Mem} {S : St} (h : StrmAt w B m S) :
    Calls Tryd.prog 28 #[.pointer (some ⟨m.a, 0, none⟩)] w fun e w' => ∃ v, e = .returned v ∧ w'.ownsRow w.heap.size 5 1 v S.wire.length (bytesV S.wire) ∧ Ext w w' := by
  have e0 : w.cell? ⟨m.a, 5, none⟩ = some m.vw := h.blk.cell 5
  obtain ⟨A, c, hv, _, _, hr⟩ := h.wire.rd
  rw [hv] at e0
  have hs := h.ring.small
  go_enter Tryd.func28, Tryd.ntmps28
  go_wp2_with (go_at_call 63; refine (bytesClone S.wire A _ c _ hr (by omega)).mono ?_; rintro e w1 ⟨v1, rfl, ho1, hb1⟩)
  go_ret
  exact ⟨_, rfl, ho1, hb1⟩

set_option maxHeartbeats 400000 in
theorem strmClose {w : World} {B : Nat} {m : Mem} {S : St} {E : Nat → Addr} (hS : StrmAt w B m S) (hE : ErrC [13] w E) :
    Calls Tryd.prog 70 #[.pointer (some ⟨m.a, 0, none⟩)] w fun e w' => e = .returned (if S.closed then errV E 13 else .nilIface) ∧ StrmAt w' B m { S with closed := true } ∧ Chg m.Y w w' := by
  have e0 : w.cell? ⟨m.a, 3, none⟩ = some (.bool S.closed) := hS.blk.cell 3
  have f0 := hS.blk.frozen 3
  have g13 := hE.cell (i := 13) (by decide) rfl
  unfold errV at *
  obtain ⟨cl, hcl⟩ : ∃ cl, S.closed = cl := ⟨_, rfl⟩
  have HC := Lib.hid hcl
  rw [hcl] at e0 ⊢
  clear hcl
  cases cl
  · go_enter Tryd.func70, Tryd.ntmps70
    go_wp2
    go_ret
    have hc : Chg [m.a] w (w.setCell ⟨m.a, 3, none⟩ (.bool true)) := (Chg.refl _ _).setCell (by simp) _
    have hx := hS.sep
    refine ⟨by simp, ⟨by simpa using hS.blk.set_ 3 (.bool true), hS.ring.chg hc (by simp; omega) (by simp; omega), hS.inn.chg' hc fun k hk => by simp; omega, hS.mks.chg' hc fun k hk => by simp; omega, hS.wire.chg' hc fun k hk => by simp; omega, hS.low, hS.sep, hS.small⟩, hc.mono fun x hx => Mem.mem_Y.2 (by simp at hx; unfold Mem.In; omega)⟩
  · go_enter Tryd.func70, Tryd.ntmps70
    go_wp2
    go_ret
    refine ⟨by simp, ?_, .refl _ _⟩
    have : ({ S with closed := true } : St) = S := by cases S; simp at HC ⊢; exact HC.out
    rw [this]; exact hS
end Go.Proofs.YtnbdmlpnoiljdaaDoor
