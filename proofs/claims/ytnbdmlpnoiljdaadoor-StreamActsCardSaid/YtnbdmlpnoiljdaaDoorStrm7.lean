/- The chapter's example of the stream. -/
import Derived.Test.YtnbdmlpnoiljdaaDoorStrm6
import Derived.Lib.SlBytesConst
namespace Go.Proofs.YtnbdmlpnoiljdaaDoor
open Go Go.RowKit

theorem StrmAt.below {w0 w1 w2 : World} {B : Nat} {m : Mem} {S : St} (h : StrmAt w1 B m S) (hc : Chg m.Y w1 w2) (hb : Below B w0 w1) : Below B w0 w2 :=
  hc.below hb (by have := h.lt (k := m.a) (.inl rfl); omega) fun _ hx => (h.lt (Mem.mem_Y.1 hx)).1
theorem Turned.get {w w' : World} {B : Nat} {m : Mem} {S : St} (h : Turned w w' B m S) : ∃ p g f s vi vm vw, StrmAt w' B ⟨m.a, p, g, m.R, f, s, vi, vm, vw⟩ S ∧ Chg m.Y w w' ∧ ∀ k, (⟨m.a, p, g, m.R, f, s, vi, vm, vw⟩ : Mem).In k → m.In k ∨ w.heap.size ≤ k := by
  obtain ⟨⟨a', p', g', R', f', s', vi', vm', vw'⟩, h1, h2, h3, h4, h5⟩ := h
  cases h2
  cases h3
  exact ⟨p', g', f', s', vi', vm', vw', h1, h4, h5⟩
theorem rd_newO (w : World) (size n : Nat) (cs : List Value) (e : TypeId) (h : cs.length = n * size) {g : Nat} (hg : w.heap.size = g) : Rd (w.alloc (.cells cs.toArray e)) size (some ⟨g, 0, none⟩) n cs := by subst hg; exact rd_newS w size n cs e h
theorem StrmAt.newer {w : World} {B : Nat} {m : Mem} {S : St} (h : StrmAt w B m S) {g o n c : Nat} (hg : w.heap.size ≤ g) : ∀ k, ob (.slice (some ⟨g, o, none⟩) n c) = k + 1 → ¬ m.In k := by
  intro k hk hi
  have := (h.lt hi).2
  simp [ob] at hk
  omega

set_option maxHeartbeats 4000000 in
set_option maxRecDepth 20000 in
theorem strmAlive (w : World) :
    Calls Tryd.prog 22 #[] w fun e w' => e = .returned (.bool true) ∧ Ext w w' := by
  go_enter Tryd.func22, Tryd.ntmps22
  go_wp2_with (first
    | (go_at_call 27; refine (strmGrant hS5 1 1 (by decide) rfl).mono ?_; rintro e w6 ⟨rfl, m6, hS6, ha6, hR6, hc6, hn6⟩; have b6 := hS5.below hc6 b5)
    | (go_at_call 26; refine (strmSend (hS4.keep (Ext.alloc1 _ _)) (some ⟨w4.heap.size, 0, none⟩) 1 1 [99] (Nat.le_refl _) hr4 (fun _ => hS4.newer (Nat.le_refl _)) (by simp [St.next, St.deliver]) rfl (by simp [St.next, St.deliver, hR1])).mono ?_; rintro e w5 ⟨rfl, ht5⟩; obtain ⟨p5, g5, f5, s5, vi5, vm5, vw5, hS5, hc5, hn5⟩ := ht5.get; dsimp only at hS5; have b5 := (hS4.keep (Ext.alloc1 _ _)).below hc5 (b4.alloc b4.size _))
    | (go_at_call 33; refine (strmRead hS4).mono ?_; rintro e w4' ⟨rfl, rfl⟩)
    | (go_at_call 25; refine (strmNext1 hS3 98 [] rfl).mono ?_; rw [show markNow _ = true by decide]; rintro e w4 ⟨rfl, ht4⟩; obtain ⟨p4, g4, f4, s4, vi4, vm4, vw4, hS4, hc4, hn4⟩ := ht4.get; dsimp only at hS4; have b4 := hS3.below hc4 b3; have ⟨hl4', hr4⟩ := lit_bytes Tryd.underlying42 Tryd.underlying5 w4 [99] #[.int .u8 99] rfl 1 1 1 rfl rfl)
    | (go_at_call 25; refine (strmNext1 hS2 97 [98] rfl).mono ?_; rw [show markNow _ = false by decide]; rintro e w3 ⟨rfl, ht3⟩; obtain ⟨p3, g3, f3, s3, vi3, vm3, vw3, hS3, hc3, hn3⟩ := ht3.get; dsimp only at hS3; have b3 := hS2.below hc3 b2)
    | (go_at_call 24; refine (strmDeliver ((hS1.keep (Ext.alloc1 _ _)).keep (Ext.alloc1 _ _)) (some ⟨w1.heap.size, 0, none⟩) (some ⟨w1.heap.size + 1, 0, none⟩) 2 2 1 1 [97, 98] [1] (by simp) (by simp) (rd_newO _ 1 1 (intsV [1]) 3 rfl (by simp)) (hr1.keep (Ext.alloc1 _ _)) (fun _ => hS1.newer (Nat.le_refl _)) (fun _ => hS1.newer (by omega)) (by decide) rfl).mono ?_; rintro e w2 ⟨rfl, ht2⟩; obtain ⟨p2, g2, f2, s2, vi2, vm2, vw2, hS2, hc2, hn2⟩ := ht2.get; have b2 := ((hS1.keep (Ext.alloc1 _ _)).keep (Ext.alloc1 _ _)).below hc2 ((Below.alloc hb1 hb1.size _).alloc (by have := hb1.size; simp; omega) _))
    | (go_at_call 23; refine (strmNew 8 _ (by omega) (by omega)).mono ?_; rintro e w1 ⟨m1, rfl, hS1, hR1, hb1⟩; have ⟨hl1', hr1⟩ := lit_bytes Tryd.underlying42 Tryd.underlying5 w1 [97, 98] #[.int .u8 97, .int .u8 98] rfl 2 2 2 rfl rfl))
  go_ret
  exact ⟨rfl, b6⟩
end Go.Proofs.YtnbdmlpnoiljdaaDoor
