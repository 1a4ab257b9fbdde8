/- The law ClassParses, walked. -/
import Derived.Test.YtkknhocehladdaaDoorCl33
import Derived.Test.YtkknhocehladdaaDoorCl24
namespace Go.Proofs.YtkknhocehladdaaDoor
open Go Go.RowKit
attribute [local irreducible] wd

set_option maxHeartbeats 4000000 in
set_option maxRecDepth 20000 in
theorem refParse (l : List UInt8) (hlen : l.length ≤ 10000) (w : World) :
    Calls Tryd.prog 24 #[.string ⟨l.toArray⟩] w fun e w' => e = .returned (parseB (parseS l)) ∧ Ext w w' := by
  rcases l with _ | ⟨a, t⟩
  · have hS0 := Lib.hid (BB.zero (w := w) rfl)
    have hX0 := Lib.hid (Ext.new1 w (.cells Tryd.zeroCells28 28))
    go_enter Tryd.func24, Tryd.ntmps24
    go_wp2_with (refine store_set rfl (.tmp 2) (.tmp 20) rfl (g := w.heap.size) (q := fun _ => false) rfl (by rw [← zero28]; rfl) hS0.out ?_)
    exact bodyPost_ret (v := .tuple #[bp (fun _ => false), .int .i64 0, .int .i64 3]) (results_bp3 rfl rfl (hS0.out.row _) rfl rfl) rfl ⟨by rfl, hX0.out.row _ _ (Nat.le_refl _)⟩
  · by_cases ha : a.toNat = 91
    · obtain rfl : a = 91 := UInt8.toNat_inj.1 ha
      exact refParse91 t hlen w
    · have HR := Lib.hid (show parseS (a :: t) = (fun _ => false, 0, 5) by unfold parseS; simp [ha])
      have haa : ((a.toNat : Int) == 91) = false := by rw [beq_eq_false_iff_ne]; omega
      have hn0 : ((t.length : Int) + 1 == 0) = false := by rw [beq_eq_false_iff_ne]; omega
      have hS0 := Lib.hid (BB.zero (w := w) rfl)
      have hX0 := Lib.hid (Ext.new1 w (.cells Tryd.zeroCells28 28))
      clear ha
      go_enter Tryd.func24, Tryd.ntmps24
      go_wp2_with (refine store_set rfl (.tmp 2) (.tmp 24) rfl (g := w.heap.size) (q := fun _ => false) rfl (by rw [← zero28]; rfl) hS0.out ?_)
      exact bodyPost_ret (v := .tuple #[bp (fun _ => false), .int .i64 0, .int .i64 5]) (results_bp3 rfl rfl (hS0.out.row _) rfl rfl) rfl ⟨by rw [HR.out]; rfl, hX0.out.row _ _ (Nat.le_refl _)⟩

theorem parse_err (l : List UInt8) : (parseS l).2.2 = 0 ∨ (parseS l).2.2 = 3 ∨ (parseS l).2.2 = 5 := by
  rcases l with _ | ⟨a, t⟩
  · exact .inr (.inl rfl)
  · by_cases ha : a.toNat = 91
    · obtain rfl : a = 91 := UInt8.toNat_inj.1 ha
      obtain ⟨b, hb⟩ : ∃ b, decide ((91 :: t : List UInt8)[1]? = some 94) = b := ⟨_, rfl⟩
      obtain ⟨R, hR⟩ : ∃ R, goS (91 :: t) (if b then 2 else 1) ((91 :: t : List UInt8).length + 1) (if b then 2 else 1) (fun _ => false) = R := ⟨_, rfl⟩
      rw [parse_some t b hb R hR]
      by_cases h2 : R.2.2 = 0
      · rw [if_pos h2]; exact .inl h2
      · rw [if_neg h2, ← hR]; exact goS_ok _ _ _ _ _
    · have : parseS (a :: t) = (fun _ => false, 0, 5) := by unfold parseS; simp [ha]
      rw [this]
      exact .inr (.inr rfl)
theorem numEv (E : Nat → Addr) (k : Nat) (w : World) (h : Errs w E) (hk : k = 0 ∨ k = 3 ∨ k = 5) :
    Calls Tryd.prog 25 #[ev E k] w fun e w' => e = .returned (.int .i64 (k : Nat)) ∧ Ext w w' := by
  rcases hk with rfl | rfl | rfl
  · exact (numNil w).mono fun e w' ⟨h1, h2⟩ => ⟨h1, by rw [h2]; exact Ext.refl _⟩
  · exact (numErr E 2 w h (by omega)).mono fun e w' ⟨h1, h2⟩ => ⟨by rw [h1]; rfl, h2⟩
  · exact (numErr E 4 w h (by omega)).mono fun e w' ⟨h1, h2⟩ => ⟨by rw [h1]; rfl, h2⟩
theorem sameP_self (p : Nat → Bool) : sameP p p = true := (sameP_iff p p).2 fun _ _ => rfl

set_option maxHeartbeats 16000000 in
set_option maxRecDepth 20000 in
theorem lawParses (E : Nat → Addr) (l : List UInt8) (w : World) (hE : Errs w E) (hT : Tab w) :
    Calls Tryd.prog 5 #[.string ⟨l.toArray⟩] w fun e w' => e = .returned (.bool true) ∧ Ext w w' := by
  have HE := Lib.hid hE
  have HT := Lib.hid hT
  clear hE hT
  by_cases hbl : 200 < l.length
  · have hbl' : (200 : Int) < (l.length : Int) := by omega
    go_enter Tryd.func5, Tryd.ntmps5
    go_wp2_with (go_at_call 6; refine (alive22 E _ (HE.out.some _) HT.out).mono ?_; rintro e w1 ⟨rfl, hx1⟩)
    go_ret
    exact ⟨by simp, hx1⟩
  · have hbl' : ¬ (200 : Int) < (l.length : Int) := by omega
    have hl4 : l.length ≤ 10000 := by omega
    have hpe := parse_err l
    have hef := esc_fits l
    obtain ⟨r1, n, k, hP⟩ : ∃ r1 n k, parseS l = (r1, n, k) := ⟨_, _, _, rfl⟩
    rw [hP] at hpe
    have hpe : k = 0 ∨ k = 3 ∨ k = 5 := hpe
    have hee : (escS l).err = 0 ∨ (escS l).err = 3 ∨ (escS l).err = 5 := by
      cases h : escS l with
      | bad k => rw [h] at hef; exact .inr hef
      | byte m n => exact .inl rfl
      | cls p n => exact .inl rfl
    obtain ⟨q1, hq1⟩ : ∃ q1, (escS l).set = q1 := ⟨_, rfl⟩
    obtain ⟨o1, ho1⟩ : ∃ o1, (escS l).one = o1 := ⟨_, rfl⟩
    obtain ⟨m, hm⟩ : ∃ m, (escS l).size = m := ⟨_, rfl⟩
    obtain ⟨j, hj⟩ : ∃ j, (escS l).err = j := ⟨_, rfl⟩
    rw [hj] at hee
    have hV : sgV E (escS l) = .tuple #[sp q1, .bool o1, .int .i64 (m : Nat), ev E j] := by unfold sgV; rw [hq1, ho1, hm, hj]
    have hB : sgB (escS l) = .tuple #[bp q1, .bool o1, .int .i64 (m : Nat), .int .i64 (j : Nat)] := by unfold sgB; rw [hq1, ho1, hm, hj]
    have HP := Lib.hid hP
    have HK := Lib.hid hpe
    have HJ := Lib.hid hee
    have HV := Lib.hid hV
    have HB := Lib.hid hB
    clear hP hpe hee hV hB hq1 ho1 hm hj hef hbl
    go_enter Tryd.func5, Tryd.ntmps5
    go_wp2_with (first
      | (have := hx1; go_at_call 23; refine (clParse E l hl4 _ ((HE.out.keep hx1).some _) (HT.out.keep hx1)).mono ?_; rintro e w2 ⟨rfl, hx2⟩; rw [HP.out]; unfold parseV sp)
      | (go_at_call 6; refine (alive22 E _ (HE.out.some _) HT.out).mono ?_; rintro e w1 ⟨rfl, hx1⟩))
    have hA := SB.new (w := w2) rfl r1
    have hxA := Ext.new1 w2 (.cells #[.int .u64 (wd r1 0 : Nat), .int .u64 (wd r1 1 : Nat), .int .u64 (wd r1 2 : Nat), .int .u64 (wd r1 3 : Nat)] 24)
    have hx3 := Ext.trans (Ext.trans hx1 hx2) hxA
    generalize w2.alloc (.cells #[.int .u64 (wd r1 0 : Nat), .int .u64 (wd r1 1 : Nat), .int .u64 (wd r1 2 : Nat), .int .u64 (wd r1 3 : Nat)] 24) = w3 at *
    generalize w2.heap.size = ga at *
    have HA := Lib.hid hA
    clear hA hxA hx1 hx2
    go_at_call 24
    refine (refParse l hl4 _).mono ?_
    rintro e w4 ⟨rfl, hx4⟩
    rw [HP.out]
    unfold parseB bp
    go_wp2_with (first
      | (have := hx6; go_at_call 25; refine (numEv E k _ ((HE.out.keep hx5).keep hx6) HK.out).mono ?_; rintro e w7 ⟨rfl, hx7⟩)
      | (have := hx5; go_at_call 10; refine (lawSame r1 r1 _).mono ?_; rintro e w6 ⟨rfl, hx6⟩; rw [sameP_self])
      | (have := hx5; refine load_set rfl (.tmp 6) rfl (g := gb) rfl HB5.out ?_)
      | (refine store_set rfl (.tmp 6) (.tmp 30) rfl (g := w4.heap.size) rfl rfl (BB.zero rfl) ?_; have HB5 := Lib.hid (made w4 r1).1; have hx5 : Ext w _ := Ext.trans (Ext.trans hx3 hx4) (made w4 r1).2; obtain ⟨y0, y1, y2, y3⟩ := ((HA.out.keep hx4).keep (made w4 r1).2).cells; generalize (w4.alloc (.cells Tryd.zeroCells28 28)).setRow w4.heap.size (bcs r1) = w5 at *; generalize w4.heap.size = gb at *))
    have hx8 := Ext.trans (Ext.trans hx5 hx6) hx7
    clear hx3 hx5 hx6 hx7 hx4 HA HB5
    go_at_call 22
    refine (clEscape E l hl4 _ ((HE.out.keep hx8).some _)).mono ?_
    rintro e w9 ⟨rfl, hx9⟩
    rw [HV.out]
    unfold sp
    go_wp2_with fail
    have hA := SB.new (w := w9) rfl q1
    have hxA := Ext.new1 w9 (.cells #[.int .u64 (wd q1 0 : Nat), .int .u64 (wd q1 1 : Nat), .int .u64 (wd q1 2 : Nat), .int .u64 (wd q1 3 : Nat)] 24)
    have hx3 := Ext.trans (Ext.trans hx8 hx9) hxA
    generalize w9.alloc (.cells #[.int .u64 (wd q1 0 : Nat), .int .u64 (wd q1 1 : Nat), .int .u64 (wd q1 2 : Nat), .int .u64 (wd q1 3 : Nat)] 24) = w3' at *
    generalize w9.heap.size = gc at *
    have HA := Lib.hid hA
    clear hA hxA hx8 hx9
    go_at_call 26
    refine (refEscape l hl4 _).mono ?_
    rintro e w4' ⟨rfl, hx4⟩
    rw [HB.out]
    unfold bp
    go_wp2_with (first
      | (have := hx6; go_at_call 25; refine (numEv E j _ ((HE.out.keep hx5).keep hx6) HJ.out).mono ?_; rintro e w7' ⟨rfl, hx7⟩)
      | (have := hx5; go_at_call 10; refine (lawSame q1 q1 _).mono ?_; rintro e w6' ⟨rfl, hx6⟩; rw [sameP_self])
      | (have := hx5; refine load_set rfl (.tmp 12) rfl (g := gd) rfl HB5.out ?_)
      | (refine store_set rfl (.tmp 12) (.tmp 58) rfl (g := w4'.heap.size) rfl rfl (BB.zero rfl) ?_; have HB5 := Lib.hid (made w4' q1).1; have hx5 : Ext w _ := Ext.trans (Ext.trans hx3 hx4) (made w4' q1).2; obtain ⟨y0, y1, y2, y3⟩ := ((HA.out.keep hx4).keep (made w4' q1).2).cells; generalize (w4'.alloc (.cells Tryd.zeroCells28 28)).setRow w4'.heap.size (bcs q1) = w5' at *; generalize w4'.heap.size = gd at *))
    go_ret
    exact ⟨by simp, Ext.trans (Ext.trans hx5 hx6) hx7⟩
end Go.Proofs.YtkknhocehladdaaDoor
