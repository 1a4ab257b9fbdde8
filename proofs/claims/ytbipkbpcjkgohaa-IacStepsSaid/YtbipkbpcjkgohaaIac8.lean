/- layer 5: IacTokens walked. -/
import Derived.Test.YtbipkbpcjkgohaaIac7
import Derived.Test.YtbipkbpcjkgohaaNum
namespace Go.Proofs.Ytbipkbpcjkgohaa
open Go Go.RowKit

set_option maxHeartbeats 400000 in
theorem iacWord4 (w : World) : Calls Try.prog 20 #[.int .i64 4] w fun e w' => e = .returned (.string ⟨#[115, 117, 98]⟩) ∧ w = w' := by
  go_enter Try.func20, Try.ntmps20
  go_wp2
  go_ret
  exact ⟨rfl, rfl⟩

set_option maxHeartbeats 1000000 in
set_option maxRecDepth 20000 in
theorem iacAlive (w : World) : Calls Try.prog 9 #[] w fun e w' => e = .returned (.bool true) ∧ Ext w w' := by
  have hrun : runM mach0 [255, 253, 1] = ([⟨3, 253, 1, [], false⟩], mach0) := rfl
  have HRUN := Lib.hid hrun
  clear hrun
  have hr0 : Rd (w.alloc (.cells #[.int .u8 255, .int .u8 253, .int .u8 1] 5)) 1 (some ⟨w.heap.size, 0, none⟩) 3 (bytesV [255, 253, 1]) := rd_new w 1 3 (bytesV [255, 253, 1]) 5 rfl
  go_enter Try.func9, Try.ntmps9
  go_wp2_with (first
    | (go_at_call 20; refine (iacWord4 _).mono ?_; rintro e w2 ⟨rfl, rfl⟩)
    | (go_at_call 11; refine (iacAll [255, 253, 1] _ 3 3 _ hr0 (by omega)).mono ?_; rintro e w1 ⟨v, cs, rfl, hown, htk, hb1⟩; rw [HRUN.out] at hown htk; obtain ⟨A1, c1, hv, hx1, hx2, hrd⟩ := own_rd hown; subst hv; obtain ⟨tb, q0, q1, q2, _⟩ := htk.at_ (j := 0) rfl; obtain ⟨b1, o1, hA1, hbl, hcl⟩ := hrd.2 (by rw [hrd.1]; simp); subst hA1; have d0 : w1.cell? ⟨b1, o1, none⟩ = some (.int .i64 3) := hcl 0 _ q0; have d1 : w1.cell? ⟨b1, o1 + 1, none⟩ = some (.int .i64 253) := hcl 1 _ q1; have d2 : w1.cell? ⟨b1, o1 + 2, none⟩ = some (.int .i64 1) := hcl 2 _ q2; clear hcl hrd hown htk q0 q1 q2))
  go_ret
  exact ⟨rfl, (Ext.new1 _ _).trans hb1⟩

set_option maxHeartbeats 1000000 in
set_option maxRecDepth 20000 in
theorem lawTokens (l : List UInt8) (A : Option Addr) (n c : Nat) (w : World) (hr : Rd w 1 A n (bytesV l)) :
    Calls Try.prog 3 #[.slice A n c] w fun e w' => e = .returned (.bool true) ∧ Ext w w' := by
  by_cases hbig : (900 : Int) < n
  · go_enter Try.func3, Try.ntmps3
    go_wp2_with (go_at_call 9; refine (iacAlive _).mono ?_; rintro e w1 ⟨rfl, hb1⟩)
    go_ret
    exact ⟨rfl, hb1⟩
  have hl := hr.len_bytes
  obtain ⟨hq, hp⟩ := refAll_run l mach0 [] l.length .none_ (by simp)
  rw [List.nil_append] at hq hp
  have hi := pend_idle hp
  obtain ⟨ts, hts⟩ : ∃ ts, (runM mach0 l).1 = ts := ⟨_, rfl⟩
  obtain ⟨rest, hrest⟩ : ∃ rest, (refAll l.length l).2 = rest := ⟨_, rfl⟩
  have hts2 : (refAll l.length l).1 = ts := hq.trans hts
  have hid : ((runM mach0 l).2.st == 0) = ((rest.length : Int) == 0) := by
    rw [hrest] at hi
    rw [Bool.eq_iff_iff]
    simp [hi]
  have hlt : ts.length ≤ n := by have := runM_len l mach0; rw [hts] at this; omega
  have HID := Lib.hid hid
  have HTS := Lib.hid hts
  have HTS2 := Lib.hid hts2
  have HREST := Lib.hid hrest
  have HL := Lib.hid hl
  clear hq hp hi hts hts2 hid hrest hl
  go_enter Try.func3, Try.ntmps3
  go_wp2_with (first
    | (go_at_call 14; refine (numKept l A n c w1.heap.size _ (by omega) (hr.keep hw5) (((hB2.keep hb3).keep hb4).keep hb5)).mono ?_; rintro e w6 ⟨rfl, rfl⟩)
    | (go_at_call 13; refine (lawSame ts cs A3 A4 ts.length c3 c4 _ (hrd3.keep hb4) ((htk.ext hb4)) hrd4 (by omega)).mono ?_; rintro e w5 ⟨rfl, hb5⟩; have hw5 := hw4.trans hb5)
    | (go_at_call 12; refine (refAllC l (by have := HL.out; omega) _).mono ?_; rintro e w4 ⟨v4, rfl, hown4, hb4⟩; rw [HTS2.out] at hown4; rw [HREST.out]; obtain ⟨A4, c4, hv4, _, _, hrd4⟩ := own_rd hown4; subst hv4; have hw4 := hw3.trans hb4)
    | (go_at_call 11; refine (iacAll l (some ⟨w1.heap.size, 0, none⟩) n (n + 5) _ (by have := hB2.rd (n := n) (size := 1) 0 (by have := HL.out; simp [bytesV]; omega); rw [List.drop_zero, Nat.mul_one, List.take_left' (by have := HL.out; simp [bytesV]; omega)] at this; exact this) (by omega)).mono ?_; rintro e w3 ⟨v3, cs, rfl, hown3, htk0, hb3⟩; rw [HTS.out] at hown3 htk0; rw [HID.out]; obtain ⟨A3, c3, hv3, _, _, hrd3⟩ := own_rd hown3; have htk := htk0.step (Chg.refl [] _) (by simp) (X' := []) (by simp); clear htk0 hown3; subst hv3; have hw3 := hw2.trans hb3; have hcv := conv_str (P := Try.prog) (c := c) Try.underlying22 Try.underlying5 Try.underlying9 (hr.keep hw3))
    | (go_at_call 10; refine (numBytes l A n c _ (by omega) (hr.keep hb1)).mono ?_; rintro e w2 ⟨rfl, hB2, hb2⟩; have hw2 := hb1.trans hb2)
    | (go_at_call 9; refine (iacAlive _).mono ?_; rintro e w1 ⟨rfl, hb1⟩))
  go_ret
  exact ⟨rfl, hw5⟩
end Go.Proofs.Ytbipkbpcjkgohaa
