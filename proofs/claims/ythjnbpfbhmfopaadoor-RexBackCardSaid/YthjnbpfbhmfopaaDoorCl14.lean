/- A set's text, as the code tells it. -/
import Derived.Test.YthjnbpfbhmfopaaDoorCl13
namespace Go.Proofs.YthjnbpfbhmfopaaDoor
open Go Go.RowKit
attribute [local irreducible] wd signT runsT

theorem BldAt.keep {w w' : World} {B b : Nat} {l : List UInt8} (h : BldAt w B b l) (hx : Ext w w') : BldAt w' B b l := by
  have key : ∀ q, Lib.BuilderAt 117 5 B b q (Lib.byteCells l) w → Lib.BuilderAt 117 5 B b q (Lib.byteCells l) w' := by
    intro q h
    obtain ⟨hB, v, hb, hown, hne⟩ := h
    refine ⟨hB, v, ?_, own_ext hown hx, hne⟩
    rw [hx.block b (by
      rcases Nat.lt_or_ge b w.heap.size with h' | h'
      · exact h'
      · simp [Array.getElem?_eq_none h'] at hb)]
    exact hb
  rcases h with h | h
  · exact .inl (key _ h)
  · exact .inr (key _ h)
theorem SB.below {w w' : World} {B g : Nat} {p : Nat → Bool} (h : SB w g p) (hx : Below B w w') (hg : g < B) : SB w' g p := Blk.below h hx hg

set_option maxHeartbeats 4000000 in
set_option maxRecDepth 20000 in
theorem clRuns (p : Nat → Bool) (w : World) :
    Calls Tryd.prog 64 #[sp p] w fun e w' => e = .returned (.string ⟨(runsT p 256).toArray⟩) ∧ Ext w w' := by
  unfold sp
  go_enter Tryd.func64, Tryd.ntmps64
  go_wp2
  generalize hgz : w.heap.size = gz
  go_loopw [4] (fun iv wr => ∃ c : Nat, c ≤ 256 ∧ iv = .int .i64 c ∧ (c < 256 → p c = true → c = 0 ∨ p (c - 1) = false) ∧ SB wr gz p ∧ BldAt wr (gz + 1) (gz + 1) (runsT p c) ∧ gz + 1 ≤ wr.heap.size ∧ Ext w wr) (fun iv _ => 256 - (intOf iv).toNat)
  case atStart => exact ⟨0, by omega, rfl, fun _ _ => .inl rfl, (SB.new hgz p).alloc _, (by have h := BldAt.new (w.alloc (.cells (mix (wd p) (wd p) 0).toArray 25)); simp only [World.size_alloc, hgz] at h; rw [runs_zero]; exact h), by simp; omega, by (first | exact Ext.refl _ | (unfold Ext; repeat (first | exact Below.refl _ _ | assumption | refine Below.alloc ?_ (by first | (simp; done) | (simp; omega) | omega) _ | refine Below.setCell ?_ (by first | (simp; done) | (simp; omega) | omega) _ | refine Below.drew ?_)))⟩
  case round =>
    obtain ⟨c, hc, rfl, hI, hS, hB, hsz, hx⟩ := hrel
    by_cases hlt : c < 256
    · have hlt' : (c : Int) < 256 := by omega
      have hu8 : IntKind.u8.wrap (c : Int) = (c : Int) := by rw [IntKind.wrap_u8]; omega
      obtain ⟨y0, y1, y2, y3⟩ := hS.cells
      have HS := Lib.hid hS
      have HB := Lib.hid hB
      have HI := Lib.hid hI
      clear hS hB hI
      cases hp : p c
      · have HP := Lib.hid hp
        clear hp
        go_wp2_with (go_at_call 70; refine (setHas p c hlt _).mono ?_; rintro e w1 ⟨rfl, hx1⟩; rw [HP.out])
        go_roundw
        case rel => exact ⟨c + 1, by omega, by go_num, fun _ _ => .inr (by simpa using HP.out), HS.out.keep hx1, (by rw [runsT, piece_off HP.out, List.append_nil]; exact HB.out.keep hx1), Nat.le_trans hsz hx1.size, hx.trans hx1⟩
        case measure => simp [intOf]; omega
      · have HP := Lib.hid hp
        clear hp
        go_wp2_with (go_at_call 70; refine (setHas p c hlt _).mono ?_; rintro e w1 ⟨rfl, hx1⟩; rw [HP.out])
        have hS1 := HS.out.keep hx1
        have hB1 := HB.out.keep hx1
        have hsz1 := Nat.le_trans hsz hx1.size
        have HS1 := Lib.hid hS1
        have HB1 := Lib.hid hB1
        have hxw := hx.trans hx1
        clear hS1 hB1 y0 y1 y2 y3 HS HB hx hx1 hsz
        go_loopw [5] (fun iv wq => ∃ l : Nat, c ≤ l ∧ l < 256 ∧ iv = .int .i64 l ∧ (∀ j, c < j → j ≤ l → p j = true) ∧ Ext w1 wq) (fun iv _ => 256 - (intOf iv).toNat)
        case atStart => exact ⟨c, Nat.le_refl _, hlt, rfl, fun j h1 h2 => by omega, Ext.refl _⟩
        case round =>
          obtain ⟨l, hcl, hl, rfl, hrun, hxq⟩ := hrel
          have HR := Lib.hid hrun
          clear hrun
          by_cases hgo : l + 1 < 256 ∧ p (l + 1) = true
          · obtain ⟨hg1, hg2⟩ := hgo
            have hg1' : (l : Int) + 1 < 256 := by omega
            have hu9 : IntKind.u8.wrap ((l : Int) + 1) = (l : Int) + 1 := by rw [IntKind.wrap_u8]; omega
            have HP2 := Lib.hid hg2
            clear hg2
            obtain ⟨y0, y1, y2, y3⟩ := (HS1.out.keep hxq).cells
            go_wp2_with (go_at_call 70; refine (setHas p (l + 1) hg1 _).mono ?_; rintro e w2 ⟨rfl, hx2⟩; rw [HP2.out])
            go_roundw
            case rel => exact ⟨l + 1, by omega, by omega, by go_num, fun j h1 h2 => (by by_cases e : j = l + 1; (rw [e]; exact HP2.out); exact HR.out j h1 (by omega)), hxq.trans hx2⟩
            case measure => simp [intOf]; omega
          · have hend : l + 1 < 256 → p (l + 1) = false := fun h => by
              cases h2 : p (l + 1)
              · rfl
              · exact absurd ⟨h, h2⟩ hgo
            have hnext := runs_to p c l HP.out (HI.out hlt HP.out) hcl hl HR.out hend
            have hln := runs_len p c
            have hs4 := (sign_len c).1
            have hs5 := (sign_len l).1
            have HLN := Lib.hid hln
            have HS4 := Lib.hid hs4
            have HS5 := Lib.hid hs5
            clear hln hs4 hs5
            have HN := Lib.hid hnext
            have HE := Lib.hid hend
            have hu9 : IntKind.u8.wrap (l : Int) = (l : Int) := by rw [IntKind.wrap_u8]; omega
            clear hnext hend hgo HI
            obtain ⟨y0, y1, y2, y3⟩ := (HS1.out.keep hxq).cells
            by_cases hg1 : l + 1 < 256
            · have hg1' : (l : Int) + 1 < 256 := by omega
              have hu8' : IntKind.u8.wrap ((l : Int) + 1) = (l : Int) + 1 := by rw [IntKind.wrap_u8]; omega
              by_cases hcl2 : c < l
              · have hcl3 : (c : Int) < (l : Int) := by omega
                go_wp2_with (first | (have := hx2; go_at_call 66; refine (clSign c hlt _).mono ?_; rintro e w3 ⟨rfl, hx3⟩) | (go_at_call 70; refine (setHas p (l + 1) hg1 _).mono ?_; rintro e w2 ⟨rfl, hx2⟩; rw [HE.out hg1]))
                have q1 := ((HB1.out.keep hxq).keep hx2).keep hx3
                have hy3 := (hxq.trans hx2).trans hx3
                have q2 : (runsT p c).length + (signT c).length ≤ 1000000 := by have := HLN.out; have := HS4.out; omega
                have q3 : gz + 1 ≤ w3.heap.size := by have := hy3.size; omega
                have q4 := bldPut (gz + 1) (gz + 1) (runsT p c) (signT c) w3 q1 q2 q3
                go_at_call 71
                refine q4.mono ?_
                rintro e w4 ⟨rfl, HB4, hb4⟩
                have hS4 := (HS1.out.keep hy3).below hb4 (by omega)
                have hsz4 := Nat.le_trans q3 hb4.size
                have hx4 : Ext w w4 := Below.trans (hxw.trans hy3) (hb4.mono (by omega))
                replace HB4 := Lib.hid HB4
                replace hS4 := Lib.hid hS4
                clear q1 q2 q3 q4
                have hs5 := HS5.out
                go_wp2_with (go_at_call 66; refine (clSign l hl _).mono ?_; rintro e w5 ⟨rfl, hx5⟩)
                have q1 := HB4.out.keep hx5
                have q2 : (runsT p c ++ signT c).length + (45 :: signT l).length ≤ 1000000 := by have := HLN.out; have := HS4.out; have := HS5.out; simp only [List.length_append, List.length_cons]; omega
                have q3 : gz + 1 ≤ w5.heap.size := by have := hx5.size; omega
                have q4 := bldPut (gz + 1) (gz + 1) (runsT p c ++ signT c) (45 :: signT l) w5 q1 q2 q3
                go_at_call 71
                refine q4.mono ?_
                rintro e w6 ⟨rfl, HB6, hb6⟩
                have hS6 := (hS4.out.keep hx5).below hb6 (by omega)
                have hsz6 := Nat.le_trans q3 hb6.size
                have hx6 : Ext w w6 := Below.trans (hx4.trans hx5) (hb6.mono (by omega))
                replace HB6 := Lib.hid HB6
                replace hS6 := Lib.hid hS6
                clear q1 q2 q3 q4
                go_wp2
                go_roundw
                case rel => exact ⟨l + 1, by omega, by go_num, fun h1 h2 => absurd h2 (by rw [HE.out h1]; decide), hS6.out, (by rw [HN.out, if_pos hcl2, ← List.append_assoc]; exact HB6.out), hsz6, hx6⟩
                case measure => simp [intOf]; omega
              · have hcl3 : ¬ (c : Int) < (l : Int) := by omega
                go_wp2_with (first | (have := hx2; go_at_call 66; refine (clSign c hlt _).mono ?_; rintro e w3 ⟨rfl, hx3⟩) | (go_at_call 70; refine (setHas p (l + 1) hg1 _).mono ?_; rintro e w2 ⟨rfl, hx2⟩; rw [HE.out hg1]))
                have q1 := ((HB1.out.keep hxq).keep hx2).keep hx3
                have hy3 := (hxq.trans hx2).trans hx3
                have q2 : (runsT p c).length + (signT c).length ≤ 1000000 := by have := HLN.out; have := HS4.out; omega
                have q3 : gz + 1 ≤ w3.heap.size := by have := hy3.size; omega
                have q4 := bldPut (gz + 1) (gz + 1) (runsT p c) (signT c) w3 q1 q2 q3
                go_at_call 71
                refine q4.mono ?_
                rintro e w4 ⟨rfl, HB4, hb4⟩
                have hS4 := (HS1.out.keep hy3).below hb4 (by omega)
                have hsz4 := Nat.le_trans q3 hb4.size
                have hx4 : Ext w w4 := Below.trans (hxw.trans hy3) (hb4.mono (by omega))
                replace HB4 := Lib.hid HB4
                replace hS4 := Lib.hid hS4
                clear q1 q2 q3 q4
                go_wp2
                go_roundw
                case rel => exact ⟨l + 1, by omega, by go_num, fun h1 h2 => absurd h2 (by rw [HE.out h1]; decide), hS4.out, (by rw [HN.out, if_neg hcl2, List.append_nil]; exact HB4.out), hsz4, hx4⟩
                case measure => simp [intOf]; omega
            · have hg1' : ¬ (l : Int) + 1 < 256 := by omega
              by_cases hcl2 : c < l
              · have hcl3 : (c : Int) < (l : Int) := by omega
                go_wp2_with (go_at_call 66; refine (clSign c hlt _).mono ?_; rintro e w3 ⟨rfl, hx3⟩)
                have q1 := (HB1.out.keep hxq).keep hx3
                have hy3 := hxq.trans hx3
                have q2 : (runsT p c).length + (signT c).length ≤ 1000000 := by have := HLN.out; have := HS4.out; omega
                have q3 : gz + 1 ≤ w3.heap.size := by have := hy3.size; omega
                have q4 := bldPut (gz + 1) (gz + 1) (runsT p c) (signT c) w3 q1 q2 q3
                go_at_call 71
                refine q4.mono ?_
                rintro e w4 ⟨rfl, HB4, hb4⟩
                have hS4 := (HS1.out.keep hy3).below hb4 (by omega)
                have hsz4 := Nat.le_trans q3 hb4.size
                have hx4 : Ext w w4 := Below.trans (hxw.trans hy3) (hb4.mono (by omega))
                replace HB4 := Lib.hid HB4
                replace hS4 := Lib.hid hS4
                clear q1 q2 q3 q4
                have hs5 := HS5.out
                go_wp2_with (go_at_call 66; refine (clSign l hl _).mono ?_; rintro e w5 ⟨rfl, hx5⟩)
                have q1 := HB4.out.keep hx5
                have q2 : (runsT p c ++ signT c).length + (45 :: signT l).length ≤ 1000000 := by have := HLN.out; have := HS4.out; have := HS5.out; simp only [List.length_append, List.length_cons]; omega
                have q3 : gz + 1 ≤ w5.heap.size := by have := hx5.size; omega
                have q4 := bldPut (gz + 1) (gz + 1) (runsT p c ++ signT c) (45 :: signT l) w5 q1 q2 q3
                go_at_call 71
                refine q4.mono ?_
                rintro e w6 ⟨rfl, HB6, hb6⟩
                have hS6 := (hS4.out.keep hx5).below hb6 (by omega)
                have hsz6 := Nat.le_trans q3 hb6.size
                have hx6 : Ext w w6 := Below.trans (hx4.trans hx5) (hb6.mono (by omega))
                replace HB6 := Lib.hid HB6
                replace hS6 := Lib.hid hS6
                clear q1 q2 q3 q4
                go_wp2
                go_roundw
                case rel => exact ⟨l + 1, by omega, by go_num, fun h1 h2 => absurd h2 (by rw [HE.out h1]; decide), hS6.out, (by rw [HN.out, if_pos hcl2, ← List.append_assoc]; exact HB6.out), hsz6, hx6⟩
                case measure => simp [intOf]; omega
              · have hcl3 : ¬ (c : Int) < (l : Int) := by omega
                go_wp2_with (go_at_call 66; refine (clSign c hlt _).mono ?_; rintro e w3 ⟨rfl, hx3⟩)
                have q1 := (HB1.out.keep hxq).keep hx3
                have hy3 := hxq.trans hx3
                have q2 : (runsT p c).length + (signT c).length ≤ 1000000 := by have := HLN.out; have := HS4.out; omega
                have q3 : gz + 1 ≤ w3.heap.size := by have := hy3.size; omega
                have q4 := bldPut (gz + 1) (gz + 1) (runsT p c) (signT c) w3 q1 q2 q3
                go_at_call 71
                refine q4.mono ?_
                rintro e w4 ⟨rfl, HB4, hb4⟩
                have hS4 := (HS1.out.keep hy3).below hb4 (by omega)
                have hsz4 := Nat.le_trans q3 hb4.size
                have hx4 : Ext w w4 := Below.trans (hxw.trans hy3) (hb4.mono (by omega))
                replace HB4 := Lib.hid HB4
                replace hS4 := Lib.hid hS4
                clear q1 q2 q3 q4
                go_wp2
                go_roundw
                case rel => exact ⟨l + 1, by omega, by go_num, fun h1 h2 => absurd h2 (by rw [HE.out h1]; decide), hS4.out, (by rw [HN.out, if_neg hcl2, List.append_nil]; exact HB4.out), hsz4, hx4⟩
                case measure => simp [intOf]; omega
    · obtain rfl : c = 256 := by omega
      have HB := Lib.hid hB
      clear hB
      go_wp2_with (go_at_call 72; refine (bldText _ _ _ _ HB.out hsz).mono ?_; rintro e w1 ⟨rfl, hx1⟩)
      go_ret
      exact ⟨by simp, Below.trans hx (hx1.mono (by omega))⟩
end Go.Proofs.YthjnbpfbhmfopaaDoor
