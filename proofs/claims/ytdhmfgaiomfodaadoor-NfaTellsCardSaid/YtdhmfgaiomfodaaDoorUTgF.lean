/- Put together: Cl15, Cl16. -/
import Derived.Test.YtdhmfgaiomfodaaDoorUTgE
namespace Go.Proofs.YtdhmfgaiomfodaaDoor
open Go Go.RowKit
attribute [local irreducible] wd signT runsT cnt

set_option maxHeartbeats 2000000 in
set_option maxRecDepth 20000 in
theorem clText (p : Nat → Bool) (w : World) (hT : Tab w) :
    Calls Tryd.prog 78 #[sp p] w fun e w' => e = .returned (.string ⟨(textT p).toArray⟩) ∧ Ext w w' := by
  have hl9 := runs_len (fun _ => true) 256
  have hl8 := runs_len p 256
  have HT := Lib.hid hT
  obtain ⟨n, hn⟩ : ∃ n, cnt p 256 = n := ⟨_, rfl⟩
  have hn6 : n ≤ 256 := by rw [← hn]; exact cnt_le _ _
  have hw : textT p = if n = 0 then [91, 94] ++ runsT (fun _ => true) 256 ++ [93] else if n = 1 then signT (lstF p 256 0) else if n = 256 then [46] else [91] ++ runsT p 256 ++ [93] := by unfold textT; rw [hn]
  rw [hw]
  have HN := Lib.hid hn
  clear hn hw hT
  by_cases h0 : n = 0
  · subst h0
    rw [if_pos rfl]
    unfold sp
    go_enter Tryd.func78, Tryd.ntmps78
    go_wp2_with (first
      | (go_at_call 93; refine (clRuns (fun _ => true) _).mono ?_; rintro e w3 ⟨rfl, hx3⟩)
      | (go_at_call 94; refine (setAll _).mono ?_; rintro e w2 ⟨rfl, hx2⟩)
      | (go_at_call 92; refine (setLen p _).mono ?_; rintro e w1 ⟨rfl, hx1⟩; rw [HN.out]))
    go_ret
    exact ⟨by simp, (((Ext.new1 _ _).trans hx1).trans hx2).trans hx3⟩
  · rw [if_neg h0]
    by_cases h1 : n = 1
    · subst h1
      rw [if_pos rfl]
      obtain ⟨m, hm⟩ := cnt_sole HN.out
      rw [hm.lst]
      have hm6 := hm.1
      unfold sp
      go_enter Tryd.func78, Tryd.ntmps78
      go_wp2_with (first
        | (have := hx2; go_at_call 95; refine (clSign m hm6 _).mono ?_; rintro e w3 ⟨rfl, hx3⟩)
        | (have := hx1; go_at_call 96; refine (setLeast p m hm _ (HT.out.keep ((Ext.new1 _ _).trans hx1))).mono ?_; rintro e w2 ⟨rfl, hx2⟩)
        | (go_at_call 92; refine (setLen p _).mono ?_; rintro e w1 ⟨rfl, hx1⟩; rw [HN.out]; obtain ⟨y0, y1, y2, y3⟩ := ((SB.new (w := w) rfl p).keep hx1).cells))
      go_ret
      exact ⟨by simp, (((Ext.new1 _ _).trans hx1).trans hx2).trans hx3⟩
    · rw [if_neg h1]
      by_cases h2 : n = 256
      · subst h2
        rw [if_pos rfl]
        unfold sp
        go_enter Tryd.func78, Tryd.ntmps78
        go_wp2_with (go_at_call 92; refine (setLen p _).mono ?_; rintro e w1 ⟨rfl, hx1⟩; rw [HN.out])
        go_ret
        exact ⟨by simp, (Ext.new1 _ _).trans hx1⟩
      · rw [if_neg h2]
        have g0 : ((n : Int) == 0) = false := by simpa using h0
        have g1 : ((n : Int) == 1) = false := by simp; omega
        have g2 : ((n : Int) == 256) = false := by simp; omega
        unfold sp
        go_enter Tryd.func78, Tryd.ntmps78
        go_wp2_with (first
          | (go_at_call 93; refine (clRuns p _).mono ?_; rintro e w2 ⟨rfl, hx2⟩)
          | (go_at_call 92; refine (setLen p _).mono ?_; rintro e w1 ⟨rfl, hx1⟩; rw [HN.out]; obtain ⟨y0, y1, y2, y3⟩ := ((SB.new (w := w) rfl p).keep hx1).cells))
        go_ret
        exact ⟨by simp, ((Ext.new1 _ _).trans hx1).trans hx2⟩
end Go.Proofs.YtdhmfgaiomfodaaDoor
namespace Go.Proofs.YtdhmfgaiomfodaaDoor
open Go Go.RowKit

theorem runs_all : runsT (fun _ => true) 256 = signT 0 ++ (45 :: signT 255) := by
  rw [runs_to (fun _ => true) 0 255 rfl (.inl rfl) (by omega) (by omega) (fun _ _ _ => rfl) (by omega)]
  rfl
theorem lst_lt {p : Nat → Bool} {m : Nat} (h : Sole p m) : ∀ j, j < m → p j = false := fun j hj => by
  rw [h.2 j (by have := h.1; omega)]
  simp; omega
attribute [local irreducible] signT runsT cnt

set_option maxHeartbeats 4000000 in
set_option maxRecDepth 20000 in
theorem refText (p : Nat → Bool) (w : World) :
    Calls Tryd.prog 52 #[bp p] w fun e w' => e = .returned (.string ⟨(textT p).toArray⟩) ∧ Ext w w' := by
  have hl0 := (sign_len 0).1
  have hl1 := (sign_len 255).1
  obtain ⟨n, hn⟩ : ∃ n, cnt p 256 = n := ⟨_, rfl⟩
  have hn6 : n ≤ 256 := by rw [← hn]; exact cnt_le _ _
  have hw : textT p = if n = 0 then [91, 94] ++ runsT (fun _ => true) 256 ++ [93] else if n = 1 then signT (lstF p 256 0) else if n = 256 then [46] else [91] ++ runsT p 256 ++ [93] := by unfold textT; rw [hn]
  rw [hw, runs_all]
  have HN := Lib.hid hn
  clear hn hw
  by_cases h0 : n = 0
  · subst h0
    rw [if_pos rfl]
    unfold bp
    go_enter Tryd.func52, Tryd.ntmps52
    go_wp2_with (first
      | (have := hx2; go_at_call 75; refine (refSign 255 (by omega) _).mono ?_; rintro e w3 ⟨rfl, hx3⟩)
      | (have := hx1; go_at_call 75; refine (refSign 0 (by omega) _).mono ?_; rintro e w2 ⟨rfl, hx2⟩)
      | (go_at_call 74; refine (refLen p _).mono ?_; rintro e w1 ⟨rfl, hx1⟩; rw [HN.out])
      | (refine load_set rfl (.tmp 1) rfl (g := w.heap.size) rfl (BB.new rfl p) ?_))
    go_ret
    exact ⟨by simp, (((Ext.new1 _ _).trans hx1).trans hx2).trans hx3⟩
  · rw [if_neg h0]
    by_cases h1 : n = 1
    · subst h1
      rw [if_pos rfl]
      obtain ⟨m, hm⟩ := cnt_sole HN.out
      rw [hm.lst]
      have hm6 := hm.1
      have hpm : p m = true := by rw [hm.2 m hm6]; simp
      have HL := Lib.hid (lst_lt hm)
      have HPM := Lib.hid hpm
      clear hpm
      unfold bp
      go_enter Tryd.func52, Tryd.ntmps52
      go_wp2_with (first
        | (have := hx2; go_at_call 75; refine (refSign m hm6 _).mono ?_; rintro e w3 ⟨rfl, hx3⟩)
        | (have := hx1; go_at_call 76; refine (refLeast p m hm6 HPM.out HL.out _).mono ?_; rintro e w2 ⟨rfl, hx2⟩)
        | (have := hx1; refine load_set rfl (.tmp 1) rfl (g := w.heap.size) rfl ((BB.new rfl p).keep hx1) ?_)
        | (go_at_call 74; refine (refLen p _).mono ?_; rintro e w1 ⟨rfl, hx1⟩; rw [HN.out])
        | (refine load_set rfl (.tmp 1) rfl (g := w.heap.size) rfl (BB.new rfl p) ?_))
      go_ret
      exact ⟨by simp, (((Ext.new1 _ _).trans hx1).trans hx2).trans hx3⟩
    · rw [if_neg h1]
      by_cases h2 : n = 256
      · subst h2
        rw [if_pos rfl]
        unfold bp
        go_enter Tryd.func52, Tryd.ntmps52
        go_wp2_with (first
          | (go_at_call 74; refine (refLen p _).mono ?_; rintro e w1 ⟨rfl, hx1⟩; rw [HN.out])
          | (refine load_set rfl (.tmp 1) rfl (g := w.heap.size) rfl (BB.new rfl p) ?_))
        go_ret
        exact ⟨by simp, (Ext.new1 _ _).trans hx1⟩
      · rw [if_neg h2]
        have g0 : ((n : Int) == 0) = false := by simpa using h0
        have g1 : ((n : Int) == 1) = false := by simp; omega
        have g2 : ((n : Int) == 256) = false := by simp; omega
        unfold bp
        go_enter Tryd.func52, Tryd.ntmps52
        go_wp2_with (first
          | (go_at_call 74; refine (refLen p _).mono ?_; rintro e w1 ⟨rfl, hx1⟩; rw [HN.out])
          | (refine load_set rfl (.tmp 1) rfl (g := w.heap.size) rfl (BB.new rfl p) ?_))
        have hB1 := (BB.new (w := w) rfl p).keep hx1
        have hxw := (Ext.new1 _ _).trans hx1
        generalize w.heap.size = gz at *
        have HB1 := Lib.hid hB1
        clear hB1 hx1 hl0 hl1 h0 h1 h2
        go_loopw [4, 5] (fun out iv wr => ∃ c : Nat, c ≤ 256 ∧ iv = .int .i64 c ∧ out = .string ⟨([91] ++ runsT p c).toArray⟩ ∧ Ext w1 wr) (fun _ iv _ => 256 - (intOf iv).toNat)
        case atStart => exact ⟨0, by omega, rfl, by rw [runs_zero]; rfl, Ext.refl _⟩
        case round =>
          obtain ⟨c, hc, rfl, rfl, hx⟩ := hrel
          have hln := runs_len p c
          by_cases hlt : c < 256
          · have hlt' : (c : Int) < 256 := by omega
            have b0 := (HB1.out.keep hx).cell hlt
            cases hp : p c
            · rw [hp] at b0
              have HP := Lib.hid hp
              clear hp
              go_wp2
              go_roundw
              case rel => exact ⟨c + 1, by omega, by go_num, by rw [runsT, piece_off HP.out, List.append_nil], hx⟩
              case measure => simp [intOf]; omega
            · rw [hp] at b0
              have HP := Lib.hid hp
              clear hp
              by_cases hc0 : c = 0
              · have HI := Lib.hid (show c = 0 ∨ p (c - 1) = false from .inl hc0)
                have hc1 : ¬ (0 : Int) < (c : Int) := by omega
                clear hc0
                have HX := Lib.hid hx
                have HLN := Lib.hid hln
                clear hx hln
                go_wp2_with fail
                clear b0
                go_loopw [6] (fun iv wq => ∃ l : Nat, c ≤ l ∧ l < 256 ∧ iv = .int .i64 l ∧ (∀ j, c < j → j ≤ l → p j = true) ∧ wq = wr) (fun iv _ => 256 - (intOf iv).toNat)
                case atStart => exact ⟨c, Nat.le_refl _, by omega, by go_num, fun j h1 h2 => by omega, by trivial⟩
                case round =>
                  obtain ⟨l, hcl, hl, rfl, hrun, rfl⟩ := hrel
                  have HR := Lib.hid hrun
                  clear hrun
                  by_cases hgo : l + 1 < 256 ∧ p (l + 1) = true
                  · obtain ⟨hg1, hg2⟩ := hgo
                    have hg1' : (l : Int) < 255 := by omega
                    have b1 := (HB1.out.keep HX.out).cell hg1
                    have HP2 := Lib.hid hg2
                    rw [hg2] at b1
                    clear hg2
                    go_wp2
                    go_roundw
                    case rel => exact ⟨l + 1, by omega, by omega, by go_num, fun j h1 h2 => (by by_cases e : j = l + 1; (rw [e]; exact HP2.out); exact HR.out j h1 (by omega)), by trivial⟩
                    case measure => simp [intOf]; omega
                  · have hend : l + 1 < 256 → p (l + 1) = false := fun h => by
                      cases h2 : p (l + 1)
                      · rfl
                      · exact absurd ⟨h, h2⟩ hgo
                    have hnext : runsT p (c + 1) = runsT p (c) ++ (signT (c) ++ (if c < l then 45 :: signT l else [])) := by rw [runs_succ, piece_at HP.out HI.out (rext_eq p (c) l hcl hl HR.out hend)]
                    have hln := HLN.out
                    have hs4 := (sign_len (c)).1
                    have hs5 := (sign_len l).1
                    have HN2 := Lib.hid hnext
                    have HE := Lib.hid hend
                    clear hnext hend hgo
                    by_cases hg1 : l + 1 < 256
                    · have hg1' : (l : Int) < 255 := by omega
                      have b1 := (HB1.out.keep HX.out).cell hg1
                      rw [HE.out hg1] at b1
                      by_cases hcl2 : c < l
                      · have hcl3 : ((c : Nat) : Int) < (l : Int) := by omega
                        go_wp2_with (first | (have := hx3; go_at_call 75; refine (refSign l hl _).mono ?_; rintro e w4 ⟨rfl, hx4⟩) | (go_at_call 75; refine (refSign (c) hlt _).mono ?_; rintro e w3 ⟨rfl, hx3⟩))
                        go_roundw
                        case rel => exact ⟨c + 1, by omega, by go_num, by rw [HN2.out, if_pos hcl2]; simp, (HX.out.trans hx3).trans hx4⟩
                        case measure => simp [intOf]; omega
                      · have hcl3 : ¬ ((c : Nat) : Int) < (l : Int) := by omega
                        go_wp2_with (go_at_call 75; refine (refSign (c) hlt _).mono ?_; rintro e w3 ⟨rfl, hx3⟩)
                        go_roundw
                        case rel => exact ⟨c + 1, by omega, by go_num, by rw [HN2.out, if_neg hcl2]; simp, HX.out.trans hx3⟩
                        case measure => simp [intOf]; omega
                    · have hg1' : ¬ (l : Int) < 255 := by omega
                      by_cases hcl2 : c < l
                      · have hcl3 : ((c : Nat) : Int) < (l : Int) := by omega
                        go_wp2_with (first | (have := hx3; go_at_call 75; refine (refSign l hl _).mono ?_; rintro e w4 ⟨rfl, hx4⟩) | (go_at_call 75; refine (refSign (c) hlt _).mono ?_; rintro e w3 ⟨rfl, hx3⟩))
                        go_roundw
                        case rel => exact ⟨c + 1, by omega, by go_num, by rw [HN2.out, if_pos hcl2]; simp, (HX.out.trans hx3).trans hx4⟩
                        case measure => simp [intOf]; omega
                      · have hcl3 : ¬ ((c : Nat) : Int) < (l : Int) := by omega
                        go_wp2_with (go_at_call 75; refine (refSign (c) hlt _).mono ?_; rintro e w3 ⟨rfl, hx3⟩)
                        go_roundw
                        case rel => exact ⟨c + 1, by omega, by go_num, by rw [HN2.out, if_neg hcl2]; simp, HX.out.trans hx3⟩
                        case measure => simp [intOf]; omega
              · obtain ⟨d, rfl⟩ : ∃ d, c = d + 1 := ⟨c - 1, by omega⟩
                have hc1 : (0 : Int) < (d : Int) + 1 := by omega
                have b2 := (HB1.out.keep hx).cell (j := d) (by omega)
                cases hpd : p d
                · rw [hpd] at b2
                  have HI := Lib.hid (show d + 1 = 0 ∨ p (d + 1 - 1) = false from .inr hpd)
                  clear hpd hc0
                  have HX := Lib.hid hx
                  have HLN := Lib.hid hln
                  clear hx hln
                  go_wp2_with fail
                  clear b0
                  go_loopw [6] (fun iv wq => ∃ l : Nat, d + 1 ≤ l ∧ l < 256 ∧ iv = .int .i64 l ∧ (∀ j, d + 1 < j → j ≤ l → p j = true) ∧ wq = wr) (fun iv _ => 256 - (intOf iv).toNat)
                  case atStart => exact ⟨d + 1, Nat.le_refl _, by omega, by go_num, fun j h1 h2 => by omega, by trivial⟩
                  case round =>
                    obtain ⟨l, hcl, hl, rfl, hrun, rfl⟩ := hrel
                    have HR := Lib.hid hrun
                    clear hrun
                    by_cases hgo : l + 1 < 256 ∧ p (l + 1) = true
                    · obtain ⟨hg1, hg2⟩ := hgo
                      have hg1' : (l : Int) < 255 := by omega
                      have b1 := (HB1.out.keep HX.out).cell hg1
                      have HP2 := Lib.hid hg2
                      rw [hg2] at b1
                      clear hg2
                      go_wp2
                      go_roundw
                      case rel => exact ⟨l + 1, by omega, by omega, by go_num, fun j h1 h2 => (by by_cases e : j = l + 1; (rw [e]; exact HP2.out); exact HR.out j h1 (by omega)), by trivial⟩
                      case measure => simp [intOf]; omega
                    · have hend : l + 1 < 256 → p (l + 1) = false := fun h => by
                        cases h2 : p (l + 1)
                        · rfl
                        · exact absurd ⟨h, h2⟩ hgo
                      have hnext : runsT p (d + 1 + 1) = runsT p (d + 1) ++ (signT (d + 1) ++ (if d + 1 < l then 45 :: signT l else [])) := by rw [runs_succ, piece_at HP.out HI.out (rext_eq p (d + 1) l hcl hl HR.out hend)]
                      have hln := HLN.out
                      have hs4 := (sign_len (d + 1)).1
                      have hs5 := (sign_len l).1
                      have HN2 := Lib.hid hnext
                      have HE := Lib.hid hend
                      clear hnext hend hgo
                      by_cases hg1 : l + 1 < 256
                      · have hg1' : (l : Int) < 255 := by omega
                        have b1 := (HB1.out.keep HX.out).cell hg1
                        rw [HE.out hg1] at b1
                        by_cases hcl2 : d + 1 < l
                        · have hcl3 : ((d + 1 : Nat) : Int) < (l : Int) := by omega
                          simp only [Int.natCast_add, Int.cast_ofNat_Int] at hcl3
                          go_wp2_with (first | (have := hx3; go_at_call 75; refine (refSign l hl _).mono ?_; rintro e w4 ⟨rfl, hx4⟩) | (go_at_call 75; refine (refSign (d + 1) hlt _).mono ?_; rintro e w3 ⟨rfl, hx3⟩))
                          go_roundw
                          case rel => exact ⟨d + 1 + 1, by omega, by go_num, by rw [HN2.out, if_pos hcl2]; simp, (HX.out.trans hx3).trans hx4⟩
                          case measure => simp [intOf]; omega
                        · have hcl3 : ¬ ((d + 1 : Nat) : Int) < (l : Int) := by omega
                          simp only [Int.natCast_add, Int.cast_ofNat_Int] at hcl3
                          go_wp2_with (go_at_call 75; refine (refSign (d + 1) hlt _).mono ?_; rintro e w3 ⟨rfl, hx3⟩)
                          go_roundw
                          case rel => exact ⟨d + 1 + 1, by omega, by go_num, by rw [HN2.out, if_neg hcl2]; simp, HX.out.trans hx3⟩
                          case measure => simp [intOf]; omega
                      · have hg1' : ¬ (l : Int) < 255 := by omega
                        by_cases hcl2 : d + 1 < l
                        · have hcl3 : ((d + 1 : Nat) : Int) < (l : Int) := by omega
                          simp only [Int.natCast_add, Int.cast_ofNat_Int] at hcl3
                          go_wp2_with (first | (have := hx3; go_at_call 75; refine (refSign l hl _).mono ?_; rintro e w4 ⟨rfl, hx4⟩) | (go_at_call 75; refine (refSign (d + 1) hlt _).mono ?_; rintro e w3 ⟨rfl, hx3⟩))
                          go_roundw
                          case rel => exact ⟨d + 1 + 1, by omega, by go_num, by rw [HN2.out, if_pos hcl2]; simp, (HX.out.trans hx3).trans hx4⟩
                          case measure => simp [intOf]; omega
                        · have hcl3 : ¬ ((d + 1 : Nat) : Int) < (l : Int) := by omega
                          simp only [Int.natCast_add, Int.cast_ofNat_Int] at hcl3
                          go_wp2_with (go_at_call 75; refine (refSign (d + 1) hlt _).mono ?_; rintro e w3 ⟨rfl, hx3⟩)
                          go_roundw
                          case rel => exact ⟨d + 1 + 1, by omega, by go_num, by rw [HN2.out, if_neg hcl2]; simp, HX.out.trans hx3⟩
                          case measure => simp [intOf]; omega
                · rw [hpd] at b2
                  have HPD := Lib.hid hpd
                  clear hpd
                  go_wp2
                  go_roundw
                  case rel => exact ⟨d + 1 + 1, by omega, by go_num, by rw [runs_succ p (d + 1), piece_in (c := d + 1) (Nat.succ_pos d) HPD.out, List.append_nil], hx⟩
                  case measure => simp [intOf]; omega
          · obtain rfl : c = 256 := by omega
            go_wp2
            go_ret
            exact ⟨by simp, hxw.trans hx⟩
end Go.Proofs.YtdhmfgaiomfodaaDoor
