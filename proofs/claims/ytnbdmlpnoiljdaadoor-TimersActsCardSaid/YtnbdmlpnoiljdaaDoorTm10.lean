/- The chapter's example of the timers. -/
import Derived.Test.YtnbdmlpnoiljdaaDoorTm12
import Derived.Test.YtnbdmlpnoiljdaaDoorSame
namespace Go.Proofs.YtnbdmlpnoiljdaaDoor
open Go Go.RowKit

/-- Timers as they stand, some time after a world. -/
structure TmNow (w0 w : World) (B tb : Nat) (now : Int) (L : List (Int × Int)) : Prop where
  ex : ∃ v, TmAt w B tb v now L ∧ Below B w0 w
theorem TmNow.keep {w0 w w' : World} {B tb : Nat} {now : Int} {L : List (Int × Int)} (h : TmNow w0 w B tb now L) (hB : B ≤ w.heap.size) (hx : Ext w w') : TmNow w0 w' B tb now L := by
  obtain ⟨v, h1, h2⟩ := h
  exact ⟨v, h1.keep hx, h2.trans (hx.mono hB)⟩
theorem TmNow.turn {w0 w w' : World} {B tb : Nat} {v : Value} {now T : Int} {L M : List (Int × Int)} (h1 : TmAt w B tb v now L) (h2 : Below B w0 w) (ht : TmTurned w w' B tb v T M) : TmNow w0 w' B tb T M := by
  obtain ⟨v', h3, hc, _⟩ := ht
  exact ⟨v', h3, h1.below hc h2⟩
theorem TmNow.size {w0 w : World} {B tb : Nat} {now : Int} {L : List (Int × Int)} (h : TmNow w0 w B tb now L) : B ≤ w.heap.size := by
  obtain ⟨v, h1, _⟩ := h
  have := h1.blk.lt
  have := h1.low
  omega

theorem TmNow.ext {w0 w : World} {B tb : Nat} {now : Int} {L : List (Int × Int)} (h : TmNow w0 w B tb now L) : Below B w0 w := by
  obtain ⟨v, _, h2⟩ := h
  exact h2

theorem alive_due {D R : List (Int × Int)} (h : [((3 : Int), (2 : Int)), (5, 1)] = D ++ R) (hR : ∀ x r, R = x :: r → (9 : Int) < x.1) : D = [(3, 2), (5, 1)] ∧ R = [] := by
  cases R with
  | nil => simpa using h.symm
  | cons x r =>
    have h1 := hR x r rfl
    have h2 : x ∈ [((3 : Int), (2 : Int)), (5, 1)] := by rw [h]; simp
    simp at h2
    rcases h2 with rfl | rfl <;> simp at h1

theorem aliveSet1 {w0 w : World} {B tb : Nat} (h : TmNow w0 w B tb 0 []) :
    Calls Tryd.prog 38 #[.pointer (some ⟨tb, 0, none⟩), .int .i64 1, .int .i64 5] w fun e w' => e = .returned .nilIface ∧ TmNow w0 w' B tb 0 [(5, 1)] := by
  obtain ⟨v, h1, h2⟩ := h
  refine (tmSetOk h1 1 5 (by omega) (by omega) (.inr (by simp))).mono ?_
  rintro e w' ⟨rfl, L, ht, hp⟩
  have hs : sortP L := by obtain ⟨_, h3, _⟩ := ht; exact h3.srt
  obtain rfl : L = [(5, 1)] := sort_uni hs (by simp [sortP]) hp
  exact ⟨rfl, TmNow.turn h1 h2 ht⟩

theorem aliveSet2 {w0 w : World} {B tb : Nat} (h : TmNow w0 w B tb 0 [(5, 1)]) :
    Calls Tryd.prog 38 #[.pointer (some ⟨tb, 0, none⟩), .int .i64 2, .int .i64 3] w fun e w' => e = .returned .nilIface ∧ TmNow w0 w' B tb 0 [(3, 2), (5, 1)] := by
  obtain ⟨v, h1, h2⟩ := h
  refine (tmSetOk h1 2 3 (by omega) (by omega) (.inr (by simp))).mono ?_
  rintro e w' ⟨rfl, L, ht, hp⟩
  have hs : sortP L := by obtain ⟨_, h3, _⟩ := ht; exact h3.srt
  obtain rfl : L = [(3, 2), (5, 1)] := sort_uni hs (by simp [sortP, ltP]) hp
  exact ⟨rfl, TmNow.turn h1 h2 ht⟩

theorem aliveTick {w0 w : World} {B tb : Nat} (h : TmNow w0 w B tb 0 [(3, 2), (5, 1)]) :
    Calls Tryd.prog 41 #[.pointer (some ⟨tb, 0, none⟩), .int .i64 9] w fun e w' => ∃ A c, e = .returned (.tuple #[.slice A 2 c, .nilIface]) ∧ 2 ≤ c ∧ c ≤ maxLen ∧ Rd w' 1 A 2 (intsV [2, 1]) ∧ TmNow w0 w' B tb 9 [] := by
  obtain ⟨v, h1, h2⟩ := h
  refine (tmTickOk h1 9 9 (by omega) (by omega) (by omega) (by omega) (by omega)).mono ?_
  rintro e w' ⟨A, c, D, R, rfl, hL, hD, hR, ho, ht⟩
  obtain ⟨rfl, rfl⟩ := alive_due hL hR
  obtain ⟨A', c', hv, hnc, hcm, hr⟩ := own_rd ho
  cases hv
  exact ⟨A, c, rfl, hnc, hcm, hr, TmNow.turn h1 h2 ht⟩

theorem aliveNew (w : World) : Calls Tryd.prog 37 #[] w fun e w' => e = .returned (.pointer (some ⟨w.heap.size, 0, none⟩)) ∧ TmNow w w' w.heap.size w.heap.size 0 [] := by
  refine (tmNew w).mono ?_
  rintro e w' ⟨rfl, h, hx⟩
  exact ⟨rfl, _, h, hx⟩

theorem nowLen {w0 w : World} {B tb : Nat} {now : Int} {L : List (Int × Int)} (h : TmNow w0 w B tb now L) : Calls Tryd.prog 40 #[.pointer (some ⟨tb, 0, none⟩)] w fun e w' => e = .returned (.int .i64 L.length) ∧ w' = w := by
  obtain ⟨v, h1, _⟩ := h
  exact tmLen h1

theorem nowNow {w0 w : World} {B tb : Nat} {now : Int} {L : List (Int × Int)} (h : TmNow w0 w B tb now L) : Calls Tryd.prog 42 #[.pointer (some ⟨tb, 0, none⟩)] w fun e w' => e = .returned (.int .i64 now) ∧ w' = w := by
  obtain ⟨v, h1, _⟩ := h
  exact tmNow h1

set_option maxHeartbeats 4000000 in
set_option maxRecDepth 20000 in
theorem tmAlive (w : World) :
    Calls Tryd.prog 36 #[] w fun e w' => e = .returned (.bool true) ∧ Ext w w' := by
  go_enter Tryd.func36, Tryd.ntmps36
  go_wp2_with (first
    | (go_at_call 42; go_loud (refine (nowNow hT5).mono ?_); rintro e w7 ⟨rfl, rfl⟩)
    | (go_at_call 40; go_loud (refine (nowLen hT5).mono ?_); rintro e w6 ⟨rfl, rfl⟩)
    | (go_at_call 48; go_loud (refine (sameInts [2, 1] [2, 1] A4 (some ⟨w4.heap.size, 0, none⟩) 2 c4 2 2 _ (hr4.keep (Ext.new1 _ _)) (rd_newS w4 1 2 (intsV [2, 1]) 3 rfl) (by omega) (by omega) true (by decide)).mono ?_); rintro e w5 ⟨rfl, hx5'⟩; have hT5 := hT4.keep hT4.size ((Ext.new1 _ _).trans hx5'); clear hx5' hT4 hr4)
    | (go_at_call 41; go_loud (refine (aliveTick hT3).mono ?_); rintro e w4 ⟨A4, c4, rfl, hnc4, hcm4, hr4, hT4⟩; clear hT3)
    | (go_at_call 38; go_loud (refine (aliveSet2 hT2).mono ?_); rintro e w3 ⟨rfl, hT3⟩; clear hT2)
    | (go_at_call 38; go_loud (refine (aliveSet1 hT1).mono ?_); rintro e w2 ⟨rfl, hT2⟩; clear hT1)
    | (go_at_call 37; go_loud (refine (aliveNew w).mono ?_); rintro e w1 ⟨rfl, hT1⟩))
  go_ret
  obtain ⟨_, _, hb⟩ := hT5
  exact ⟨rfl, hb⟩
end Go.Proofs.YtnbdmlpnoiljdaaDoor
