/- StreamActs: the law's walk. -/
import Derived.Test.YtnbdmlpnoiljdaaDoorStrm14
namespace Go.Proofs.YtnbdmlpnoiljdaaDoor
open Go Go.RowKit

set_option maxHeartbeats 8000000 in
set_option maxRecDepth 20000 in
theorem lawStrm (E : Nat → Addr) (room : Int) (es : List Ev) (A : Option Addr) (n c : Nat) (w : World) (HE : Errs w E) (hr : EvsRd w [] A n es) :
    Calls Tryd.prog 6 #[.int .i64 room, .slice A n c] w fun e w' => e = .returned (.bool true) ∧ Below w.heap.size w w' := by
  have hl : es.length = n := by obtain ⟨vs, _, h, _⟩ := hr; exact h
  have HR := Lib.hid hr
  have HL := Lib.hid hl
  have HEE := Lib.hid HE
  clear hr hl HE
  go_enter Tryd.func6, Tryd.ntmps6
  by_cases hroom : room < 1 ∨ 4096 < room
  · have hroom' : (room < 1) ∨ (¬ room < 1 ∧ 4096 < room) := by omega
    have HRO := Lib.hid hroom
    clear hroom
    rcases hroom' with hr1 | ⟨hr1, hr2⟩
    all_goals
      go_wp2_with (first
        | (go_at_call 18; go_loud (refine (numErr E 0 w3 (HEE.out.keep (hx1.trans (hx2.trans hx3))) (by omega)).mono ?_); rintro e w4 ⟨rfl, hx4⟩)
        | (go_at_call 23; go_loud (refine (strmNewErr E room w2 (HEE.out.keep (hx1.trans hx2)) HRO.out).mono ?_); rintro e w3 ⟨rfl, hx3⟩)
        | (go_at_call 30; refine (long03 (HR.out.keep hx1)).mono ?_; rintro e w2 ⟨ra, rfl, hx2, hla⟩; cases ra)
        | (go_at_call 22; refine (strmAlive _).mono ?_; rintro e w1 ⟨rfl, hx1⟩))
      all_goals go_ret
      all_goals first
        | exact ⟨by simp, hx1.trans (hx2.trans (hx3.trans hx4))⟩
        | exact ⟨rfl, hx1.trans hx2⟩
  · obtain ⟨R, rfl⟩ : ∃ R : Nat, room = R := ⟨room.toNat, by omega⟩
    have hR1 : 0 < R := by omega
    have hR2 : R ≤ 4096 := by omega
    clear hroom
    go_wp2_with (first
      | (go_at_call 23; go_loud (refine (strmNew R w2 hR1 hR2).mono ?_); rintro e w3 ⟨⟨a0, p0, g0, R0, f0, s0, vi0, vm0, vw0⟩, rfl, hS3, hRR, hx3⟩; simp only at hRR; subst hRR)
      | (go_at_call 30; refine (long03 (HR.out.keep hx1)).mono ?_; rintro e w2 ⟨ra, rfl, hx2, hla⟩; cases ra)
      | (go_at_call 22; refine (strmAlive _).mono ?_; rintro e w1 ⟨rfl, hx1⟩))
    rotate_left
    · go_ret
      exact ⟨rfl, hx1.trans hx2⟩
    obtain ⟨h60, hal⟩ := hla trivial
    simp only [show decide ((R0 : Int) < 1) = false from decide_eq_false (by omega), show decide ((4096 : Int) < R0) = false from decide_eq_false (by omega), Bool.or_false]
    clear hla
    have HE2 := Lib.hid (HEE.out.keep (hx1.trans hx2))
    have HR2 := Lib.hid (HR.out.keep (hx1.trans hx2))
    have HX12 := Lib.hid (hx1.trans hx2)
    have HAL := Lib.hid hal
    have hx4 := Ext.new1 w3 (.cells #[.int .i64 R0, .string ⟨#[]⟩, .slice none 0 0, .int .i64 0, .bool false, .string ⟨#[]⟩, .int .i64 0] 63)
    have hM4 : MdAt (w3.alloc (.cells #[.int .i64 R0, .string ⟨#[]⟩, .slice none 0 0, .int .i64 0, .bool false, .string ⟨#[]⟩, .int .i64 0] 63)) w2.heap.size w3.heap.size (.slice none 0 0) R0 [] [] ⟨[], [], 0, false, [], []⟩ :=
      ⟨Blk.new w3 63 #[.int .i64 R0, .string ⟨#[]⟩, .slice none 0 0, .int .i64 0, .bool false, .string ⟨#[]⟩, .int .i64 0], OwnO.nil _ _ _, by rw [ob_nil]; omega, hx3.size, rfl, rfl, Nat.le_refl _, rfl, by simp⟩
    have hS4 := hS3.keep hx4
    have hd4 := (hS4.dis hM4).1
    have hb4 : Below w2.heap.size w2 _ := hx3.trans hx4
    have hw1 : Ext w w2 := HX12.out
    generalize w3.alloc (.cells #[.int .i64 R0, .string ⟨#[]⟩, .slice none 0 0, .int .i64 0, .bool false, .string ⟨#[]⟩, .int .i64 0] 63) = w4 at *
    obtain ⟨B, hB⟩ : ∃ B, w2.heap.size = B := ⟨_, rfl⟩
    obtain ⟨mb, hmb⟩ : ∃ mb, w3.heap.size = mb := ⟨_, rfl⟩
    rw [hB] at hS4 hM4 hb4
    rw [hmb] at hM4 hd4 ⊢
    have HB := Lib.hid hB
    clear hS3 hx1 hx2 hx3 hx4 hB hmb hal HR HEE hw1
    go_loopw [44] (fun i wr => ∃ (k : Nat) (S : St), k ≤ n ∧ i = .int .i64 k ∧ StNow wr B a0 R0 mb S ∧ MdNow wr B mb R0 (300 * k) [] S ∧ S.wire.length + S.q.length ≤ 300 * k ∧ Below B w2 wr) (fun i _ => n - (intOf i).toNat)
    case atStart => exact ⟨0, _, Nat.zero_le _, rfl, ⟨_, hS4, rfl, rfl, hd4⟩, ⟨_, _, _, hM4, by simp, by simp, by simp⟩, by simp, hb4⟩
    case round =>
      clear hS4 hM4 hd4 hb4
      obtain ⟨k, S, hk, rfl, hSn, hMn, hQ, hb⟩ := hrel
      by_cases hlt : k < n
      · obtain ⟨e, he⟩ : ∃ e, es[k]? = some e := ⟨_, List.getElem?_eq_getElem (by rw [HL.out]; exact hlt)⟩
        obtain ⟨b1, o1, A1, c1, B1, d1, rfl, hbl, p0', p1', p2', p3', hc1, _, hd1, _, hrb, hrm⟩ := actAt4 HR2.out he
        have hcell : ∀ (o : Nat) (v : Value), w2.cell? ⟨b1, o, none⟩ = some v → wr.cell? ⟨b1, o, none⟩ = some v := fun o v h => (hb.cell (p := ⟨b1, o, none⟩) (show b1 < B by have := HB.out; omega)).trans h
        have p0 := hcell _ _ p0'
        have p1 := hcell _ _ p1'
        have p2 := hcell _ _ p2'
        have p3 := hcell _ _ p3'
        obtain ⟨hb3, hm4⟩ := HAL.out e (List.mem_of_getElem? he)
        obtain ⟨⟨aa, pp1, gg1, RR, ff1, ss1, vi1, vm1, vw1⟩, hS, ha, hRR, hd⟩ := hSn
        simp only at ha hRR
        subst ha hRR
        obtain ⟨vk, C, mk, hM, hCn, -, -⟩ := hMn
        have hx5 := Ext.new1 wr (.cells #[.int .i64 e.kind, .int .i64 e.n, .slice A1 e.b.length c1, .slice B1 e.m.length d1] 65)
        have hB5 : B ≤ wr.heap.size := by have := hM.blk.lt; have := hM.low; omega
        have HS := Lib.hid (hS.keep hx5)
        have HM := Lib.hid (hM.keep hx5)
        have HB5 := Lib.hid (hb.trans (hx5.mono hB5))
        have HRB := Lib.hid hrb
        have HRM := Lib.hid hrm
        clear p0' p1' p2' p3' he hrb hrm hS hM hb hx5 hcell hd
        go_wp2_with (go_at_call 31; go_loud (refine (doAct HB5.out (by rw [HB.out]; exact Nat.le_refl _) HE2.out HS.out HM.out rfl e.kind e.n e.b e.m A1 B1 _ c1 _ d1 HRB.out HRM.out hb3 hm4 hc1 (by omega) (by omega)).mono ?_); rintro _ w5 ⟨rfl, hb5, S5, hSn5, hMn5, hQ5⟩; have HSN5 := Lib.hid hSn5; have HMN5 := Lib.hid hMn5; have HB9 := Lib.hid hb5; clear hSn5 hMn5 hb5)
        obtain ⟨⟨ab, pp2, gg2, Rb, ff2, ss2, vi2, vm2, vw2⟩, hS5, ha5, hR5, hd5⟩ := HSN5.out
        simp only at ha5 hR5
        subst ha5 hR5
        obtain ⟨vk5, C5, mk5, hM5, hC5, -, -⟩ := HMN5.out
        have hC9 : C5.length ≤ 18300 := by omega
        have HD1 := Lib.hid (show ∀ wx, Ext w5 wx → wx.cell? ⟨mb, 1, none⟩ = some (.string ⟨C5.toArray⟩) from fun wx hE => (hM5.blk.keep hE).cell 1)
        have HD3 := Lib.hid (show ∀ wx, Ext w5 wx → wx.cell? ⟨mb, 3, none⟩ = some (.int .i64 S5.read) from fun wx hE => (hM5.blk.keep hE).cell 3)
        have HD4 := Lib.hid (show ∀ wx, Ext w5 wx → wx.cell? ⟨mb, 4, none⟩ = some (.bool S5.closed) from fun wx hE => (hM5.blk.keep hE).cell 4)
        have HD5 := Lib.hid (show ∀ wx, Ext w5 wx → wx.cell? ⟨mb, 5, none⟩ = some (.string ⟨(S5.wire ++ S5.q).toArray⟩) from fun wx hE => (hM5.blk.keep hE).cell 5)
        have HD6 := Lib.hid (show ∀ wx, Ext w5 wx → wx.cell? ⟨mb, 6, none⟩ = some (.int .i64 S5.wire.length) from fun wx hE => (hM5.blk.keep hE).cell 6)
        obtain ⟨_, hrdi⟩ := hM5.marks_le
        obtain ⟨hq5a, hq5b⟩ := hM5.small
        have hq5c := hS5.ring.circ.fits
        have hle5 := hM5.le
        have HS5 := Lib.hid hS5
        have hTl : (S5.wire ++ S5.q).length = S5.wire.length + S5.q.length := List.length_append
        have hTk : (S5.wire ++ S5.q).take S5.wire.length = S5.wire := by simp
        obtain ⟨rd, hrd⟩ : ∃ x, S5.read = x := ⟨_, rfl⟩
        obtain ⟨il, hil⟩ : ∃ x, S5.inn.length = x := ⟨_, rfl⟩
        obtain ⟨T, hT⟩ : ∃ x, S5.wire ++ S5.q = x := ⟨_, rfl⟩
        obtain ⟨wl, hwl⟩ : ∃ x, S5.wire.length = x := ⟨_, rfl⟩
        obtain ⟨ql, hql⟩ : ∃ x, S5.q.length = x := ⟨_, rfl⟩
        obtain ⟨V, hV⟩ : ∃ x, S5.wire = x := ⟨_, rfl⟩
        obtain ⟨cl, hcl⟩ : ∃ x, S5.closed = x := ⟨_, rfl⟩
        rw [hT] at HD5 hTl hTk
        rw [hwl] at HD6 hTl hTk
        rw [hV] at hTk
        rw [hrd] at HD3
        rw [hcl] at HD4
        have HCI := Lib.hid (show (C5.length : Int) - rd = il by omega)
        have HTL := Lib.hid (show (T.length : Int) - wl = ql by omega)
        obtain ⟨rm, hrm⟩ : ∃ rm : Int, (Rb : Int) - ql = rm := ⟨_, rfl⟩
        have HRQ := Lib.hid hrm
        have HRM := Lib.hid (show (Rb : Int) - S5.q.length = rm by rw [hql]; exact hrm)
        have HTK := Lib.hid hTk
        have HIL := Lib.hid hil
        have HRD := Lib.hid hrd
        have HCL := Lib.hid hcl
        have HV := Lib.hid hV
        have HQQ := Lib.hid (show S5.wire.length + S5.q.length ≤ 300 * (k + 1) by omega)
        have hb1 : rd ≤ C5.length ∧ il ≤ C5.length ∧ wl ≤ T.length ∧ ql ≤ T.length ∧ T.length ≤ 1000000 ∧ ql ≤ Rb := by
          refine ⟨by omega, by omega, by omega, by omega, by omega, ?_⟩
          have : S5.q.length ≤ Rb := hq5c
          omega
        clear hrd hil hT hwl hql hV hcl hrm hTl hTk hS5 hM5 hC5 hrdi hq5a hq5b hq5c hle5
        have e1 : w5.cell? ⟨mb, 1, none⟩ = some (.string ⟨C5.toArray⟩) := HD1.out w5 (Ext.refl _)
        have e3 : w5.cell? ⟨mb, 3, none⟩ = some (.int .i64 rd) := HD3.out w5 (Ext.refl _)
        have hci := HCI.out
        go_quiet (fail)
        go_wp2
        have hx6 := Ext.drawn w5 nq
        generalize w5.drewN nq = w6 at hx6 ⊢
        clear e1 e3 hci
        cases cl with
        | true =>
          obtain ⟨z, hz⟩ : ∃ z, (true && decide (il = 0)) = z := ⟨_, rfl⟩
          have HZ := Lib.hid hz
          have HZZ := Lib.hid (show ((il : Int) == 0) = z by rw [← hz]; by_cases h : il = 0 <;> simp [h])
          clear hz
          -- DAG StrmActs16t
          refine wp_region_dag (E := Ext) (w0 := w6) (Φ := fun i v w => match i with | 0 => (v = .pointer (some ⟨ab, 0, none⟩)) | 1 => (v = .int .i64 il) | 2 => (v = .int .i64 il) | 3 => (v = .bool false) | 4 => (v = .bool false) | 5 => (v = .pointer (some ⟨ab, 0, none⟩)) | 6 => (v = .int .i64 rd) | 7 => (v = .pointer (some ⟨mb, 0, none⟩)) | 8 => (v = .pointer (some ⟨mb, 0, none⟩)) | 9 => (v = .pointer (some ⟨mb, 3, none⟩)) | 10 => (v = .int .i64 rd) | 11 => (v = .bool false) | 12 => (v = .bool false) | 13 => (v = .bool false) | 14 => (v = .pointer (some ⟨ab, 0, none⟩)) | 15 => (v = .bool true) | 16 => (v = .pointer (some ⟨mb, 0, none⟩)) | 17 => (v = .pointer (some ⟨mb, 0, none⟩)) | 18 => (v = .pointer (some ⟨mb, 4, none⟩)) | 19 => (v = .bool true) | 20 => (v = .bool false) | 21 => (v = .bool false) | 22 => (v = .bool false) | 23 => (v = .pointer (some ⟨ab, 0, none⟩)) | 24 => (v = .bool z) | 25 => (v = .pointer (some ⟨mb, 0, none⟩)) | 26 => (v = .pointer (some ⟨mb, 0, none⟩)) | 27 => (v = .pointer (some ⟨mb, 4, none⟩)) | 28 => (v = .bool true) | 29 => (v = .bool true) | 30 => (v = .int .i64 il) | 31 => (v = .bool z) | 32 => (v = .bool z) | 33 => (v = .bool false) | 34 => (v = .bool false) | 35 => (v = .bool false) | 36 => (v = .pointer (some ⟨ab, 0, none⟩)) | 37 => (v = .int .i64 rm) | 38 => (v = .int .i64 Rb) | 39 => (v = .pointer (some ⟨mb, 0, none⟩)) | 40 => (v = .pointer (some ⟨mb, 0, none⟩)) | 41 => (v = .pointer (some ⟨mb, 5, none⟩)) | 42 => (v = .string ⟨T.toArray⟩) | 43 => (v = .int .i64 T.length) | 44 => (v = .pointer (some ⟨mb, 0, none⟩)) | 45 => (v = .pointer (some ⟨mb, 0, none⟩)) | 46 => (v = .pointer (some ⟨mb, 6, none⟩)) | 47 => (v = .int .i64 wl) | 48 => (v = .int .i64 ql) | 49 => (v = .int .i64 rm) | 50 => (v = .bool false) | 51 => (v = .bool false) | 52 => (v = .bool false) | 53 => (v = .pointer (some ⟨ab, 0, none⟩)) | 54 => (∃ A c, v = .slice A V.length c ∧ Rd w 1 A V.length (bytesV V)) | 55 => (v = .string ⟨V.toArray⟩) | 56 => (v = .pointer (some ⟨mb, 0, none⟩)) | 57 => (v = .pointer (some ⟨mb, 0, none⟩)) | 58 => (v = .pointer (some ⟨mb, 5, none⟩)) | 59 => (v = .string ⟨T.toArray⟩) | 60 => (v = .pointer (some ⟨mb, 0, none⟩)) | 61 => (v = .pointer (some ⟨mb, 0, none⟩)) | 62 => (v = .pointer (some ⟨mb, 6, none⟩)) | 63 => (v = .int .i64 wl) | 64 => (v = .string ⟨V.toArray⟩) | 65 => (v = .bool false) | 66 => (v = .bool false) | _ => True) (show Tryd.prog.follows .mixedOrders = true from Checked.mixed Tryd.checked) 131 rfl (by decide +kernel) ?_ ((Below.refl _ _).drew) ?_ ⟨?_, ?_, ?_, ?_, ?_, ?_, ?_, ?_, ?_, ?_, ?_, ?_, ?_, ?_, ?_, ?_, ?_, ?_, ?_, ?_, ?_, ?_, ?_, ?_, ?_, ?_, ?_, ?_, ?_, ?_, ?_, ?_, ?_, ?_, ?_, ?_, ?_, ?_, ?_, ?_, ?_, ?_, ?_, ?_, ?_, ?_, ?_, ?_, ?_, ?_, ?_, ?_, ?_, ?_, ?_, ?_, ?_, ?_, ?_, ?_, ?_, ?_, ?_, ?_, ?_, ?_, ?_, trivial⟩ ?_
          · intro i v w w' h hE
            match i, h with
            | 0, h => exact h
            | 1, h => exact h
            | 2, h => exact h
            | 3, h => exact h
            | 4, h => exact h
            | 5, h => exact h
            | 6, h => exact h
            | 7, h => exact h
            | 8, h => exact h
            | 9, h => exact h
            | 10, h => exact h
            | 11, h => exact h
            | 12, h => exact h
            | 13, h => exact h
            | 14, h => exact h
            | 15, h => exact h
            | 16, h => exact h
            | 17, h => exact h
            | 18, h => exact h
            | 19, h => exact h
            | 20, h => exact h
            | 21, h => exact h
            | 22, h => exact h
            | 23, h => exact h
            | 24, h => exact h
            | 25, h => exact h
            | 26, h => exact h
            | 27, h => exact h
            | 28, h => exact h
            | 29, h => exact h
            | 30, h => exact h
            | 31, h => exact h
            | 32, h => exact h
            | 33, h => exact h
            | 34, h => exact h
            | 35, h => exact h
            | 36, h => exact h
            | 37, h => exact h
            | 38, h => exact h
            | 39, h => exact h
            | 40, h => exact h
            | 41, h => exact h
            | 42, h => exact h
            | 43, h => exact h
            | 44, h => exact h
            | 45, h => exact h
            | 46, h => exact h
            | 47, h => exact h
            | 48, h => exact h
            | 49, h => exact h
            | 50, h => exact h
            | 51, h => exact h
            | 52, h => exact h
            | 53, h => exact h
            | 54, h => exact (by obtain ⟨A, c, h1, h2⟩ := h; exact ⟨A, c, h1, h2.keep hE⟩)
            | 55, h => exact h
            | 56, h => exact h
            | 57, h => exact h
            | 58, h => exact h
            | 59, h => exact h
            | 60, h => exact h
            | 61, h => exact h
            | 62, h => exact h
            | 63, h => exact h
            | 64, h => exact h
            | 65, h => exact h
            | 66, h => exact h
            | _ + 67, _ => trivial
          · exact fun w w' h h' => h.trans h'
          · -- 0: t63 := move t5 
            intro ac wx hE hsz hdf h
            have e5 : ac.tmps[5]? = some (.pointer (some ⟨ab, 0, none⟩)) := by obtain ⟨v, h1, h2⟩ := h 5 (by decide +kernel); exact h1.trans (h2.symm.trans rfl)
            clear h hsz hdf
            go_wp2
            exact ⟨_, rfl, rfl, Ext.refl _⟩
          · -- 1: t64 := call { value (Operand.func 32), args := #[t63], argTypes := #[44] } 
            intro ac wx hE hsz hdf h
            have e63 : ac.tmps[63]? = some (.pointer (some ⟨ab, 0, none⟩)) := by obtain ⟨v, h1, h2⟩ := h 63 (by decide +kernel); rw [h1]; exact congrArg some h2
            clear h hsz hdf
            go_wp2_with ((go_at_call 32; go_loud (refine (strmWaits (HS5.out.keep (hx6.trans hE))).mono ?_); rw [HIL.out]; rintro e w' ⟨rfl, rfl⟩))
            exact ⟨_, rfl, rfl, Ext.refl _⟩
          · -- 2: t65 := move t10 
            intro ac wx hE hsz hdf h
            have e10 : ac.tmps[10]? = some (.int .i64 il) := by obtain ⟨v, h1, h2⟩ := h 10 (by decide +kernel); exact h1.trans (h2.symm.trans rfl)
            clear h hsz hdf
            go_wp2
            exact ⟨_, rfl, rfl, Ext.refl _⟩
          · -- 3: t66 := binOp BinOp.neq 3 t64 t65 3 
            intro ac wx hE hsz hdf h
            have e64 : ac.tmps[64]? = some (.int .i64 il) := by obtain ⟨v, h1, h2⟩ := h 64 (by decide +kernel); rw [h1]; exact congrArg some h2
            have e65 : ac.tmps[65]? = some (.int .i64 il) := by obtain ⟨v, h1, h2⟩ := h 65 (by decide +kernel); rw [h1]; exact congrArg some h2
            clear h hsz hdf
            go_wp2
            exact ⟨_, rfl, by simp, Ext.refl _⟩
          · -- 4: t67 := move t66 
            intro ac wx hE hsz hdf h
            have e66 : ac.tmps[66]? = some (.bool false) := by obtain ⟨v, h1, h2⟩ := h 66 (by decide +kernel); rw [h1]; exact congrArg some h2
            clear h hsz hdf
            go_wp2
            exact ⟨_, rfl, rfl, Ext.refl _⟩
          · -- 5: t68 := move t5 (4, False)
            intro ac wx hE hsz hdf h
            have e5 : ac.tmps[5]? = some (.pointer (some ⟨ab, 0, none⟩)) := by obtain ⟨v, h1, h2⟩ := h 5 (by decide +kernel); exact h1.trans (h2.symm.trans rfl)
            have e67 : ac.tmps[67]? = some (.bool false) := by obtain ⟨v, h1, h2⟩ := h 67 (by decide +kernel); rw [h1]; exact congrArg some h2
            clear h hsz hdf
            go_wp2
            exact ⟨_, rfl, rfl, Ext.refl _⟩
          · -- 6: t69 := call { value (Operand.func 33), args := #[t68], argTypes := #[44] } (4, False)
            intro ac wx hE hsz hdf h
            have e68 : ac.tmps[68]? = some (.pointer (some ⟨ab, 0, none⟩)) := by obtain ⟨v, h1, h2⟩ := h 68 (by decide +kernel); rw [h1]; exact congrArg some h2
            have e67 : ac.tmps[67]? = some (.bool false) := by obtain ⟨v, h1, h2⟩ := h 67 (by decide +kernel); rw [h1]; exact congrArg some h2
            clear h hsz hdf
            go_wp2_with ((go_at_call 33; go_loud (refine (strmRead (HS5.out.keep (hx6.trans hE))).mono ?_); rw [HRD.out]; rintro e w' ⟨rfl, rfl⟩))
            exact ⟨_, rfl, rfl, Ext.refl _⟩
          · -- 7: t70 := move t7 (4, False)
            intro ac wx hE hsz hdf h
            have e7 : ac.tmps[7]? = some (.pointer (some ⟨mb, 0, none⟩)) := by obtain ⟨v, h1, h2⟩ := h 7 (by decide +kernel); exact h1.trans (h2.symm.trans rfl)
            have e67 : ac.tmps[67]? = some (.bool false) := by obtain ⟨v, h1, h2⟩ := h 67 (by decide +kernel); rw [h1]; exact congrArg some h2
            clear h hsz hdf
            go_wp2
            exact ⟨_, rfl, rfl, Ext.refl _⟩
          · -- 8: t71 := nilCheck t70 (4, False)
            intro ac wx hE hsz hdf h
            have e70 : ac.tmps[70]? = some (.pointer (some ⟨mb, 0, none⟩)) := by obtain ⟨v, h1, h2⟩ := h 70 (by decide +kernel); rw [h1]; exact congrArg some h2
            have e67 : ac.tmps[67]? = some (.bool false) := by obtain ⟨v, h1, h2⟩ := h 67 (by decide +kernel); rw [h1]; exact congrArg some h2
            clear h hsz hdf
            go_wp2
            exact ⟨_, rfl, rfl, Ext.refl _⟩
          · -- 9: t72 := fieldAddr 63 t71 3 (4, False)
            intro ac wx hE hsz hdf h
            have e71 : ac.tmps[71]? = some (.pointer (some ⟨mb, 0, none⟩)) := by obtain ⟨v, h1, h2⟩ := h 71 (by decide +kernel); rw [h1]; exact congrArg some h2
            have e67 : ac.tmps[67]? = some (.bool false) := by obtain ⟨v, h1, h2⟩ := h 67 (by decide +kernel); rw [h1]; exact congrArg some h2
            clear h hsz hdf
            go_wp2
            exact ⟨_, rfl, rfl, Ext.refl _⟩
          · -- 10: t73 := load 3 t72 (4, False)
            intro ac wx hE hsz hdf h
            have e72 : ac.tmps[72]? = some (.pointer (some ⟨mb, 3, none⟩)) := by obtain ⟨v, h1, h2⟩ := h 72 (by decide +kernel); rw [h1]; exact congrArg some h2
            have e67 : ac.tmps[67]? = some (.bool false) := by obtain ⟨v, h1, h2⟩ := h 67 (by decide +kernel); rw [h1]; exact congrArg some h2
            clear h hsz hdf
            have d3 : wx.cell? ⟨mb, 3, none⟩ = some (.int .i64 rd) := HD3.out wx (hx6.trans hE)
            go_wp2
            exact ⟨_, rfl, rfl, Ext.refl _⟩
          · -- 11: t74 := binOp BinOp.neq 3 t69 t73 3 (4, False)
            intro ac wx hE hsz hdf h
            have e69 : ac.tmps[69]? = some (.int .i64 rd) := by obtain ⟨v, h1, h2⟩ := h 69 (by decide +kernel); rw [h1]; exact congrArg some h2
            have e73 : ac.tmps[73]? = some (.int .i64 rd) := by obtain ⟨v, h1, h2⟩ := h 73 (by decide +kernel); rw [h1]; exact congrArg some h2
            have e67 : ac.tmps[67]? = some (.bool false) := by obtain ⟨v, h1, h2⟩ := h 67 (by decide +kernel); rw [h1]; exact congrArg some h2
            clear h hsz hdf
            go_wp2
            exact ⟨_, rfl, by simp, Ext.refl _⟩
          · -- 12: t75 := pick t67 (const (Value.bool true)) t74 
            intro ac wx hE hsz hdf h
            have e67 : ac.tmps[67]? = some (.bool false) := by obtain ⟨v, h1, h2⟩ := h 67 (by decide +kernel); rw [h1]; exact congrArg some h2
            have e74 : ac.tmps[74]? = some (.bool false) := by obtain ⟨v, h1, h2⟩ := h 74 (by decide +kernel); rw [h1]; exact congrArg some h2
            clear h hsz hdf
            go_wp2
            exact ⟨_, rfl, rfl, Ext.refl _⟩
          · -- 13: t76 := move t75 
            intro ac wx hE hsz hdf h
            have e75 : ac.tmps[75]? = some (.bool false) := by obtain ⟨v, h1, h2⟩ := h 75 (by decide +kernel); rw [h1]; exact congrArg some h2
            clear h hsz hdf
            go_wp2
            exact ⟨_, rfl, rfl, Ext.refl _⟩
          · -- 14: t77 := move t5 (13, False)
            intro ac wx hE hsz hdf h
            have e5 : ac.tmps[5]? = some (.pointer (some ⟨ab, 0, none⟩)) := by obtain ⟨v, h1, h2⟩ := h 5 (by decide +kernel); exact h1.trans (h2.symm.trans rfl)
            have e76 : ac.tmps[76]? = some (.bool false) := by obtain ⟨v, h1, h2⟩ := h 76 (by decide +kernel); rw [h1]; exact congrArg some h2
            clear h hsz hdf
            go_wp2
            exact ⟨_, rfl, rfl, Ext.refl _⟩
          · -- 15: t78 := call { value (Operand.func 34), args := #[t77], argTypes := #[44] } (13, False)
            intro ac wx hE hsz hdf h
            have e77 : ac.tmps[77]? = some (.pointer (some ⟨ab, 0, none⟩)) := by obtain ⟨v, h1, h2⟩ := h 77 (by decide +kernel); rw [h1]; exact congrArg some h2
            have e76 : ac.tmps[76]? = some (.bool false) := by obtain ⟨v, h1, h2⟩ := h 76 (by decide +kernel); rw [h1]; exact congrArg some h2
            clear h hsz hdf
            go_wp2_with ((go_at_call 34; go_loud (refine (strmClosed (HS5.out.keep (hx6.trans hE))).mono ?_); rw [HCL.out]; rintro e w' ⟨rfl, rfl⟩))
            exact ⟨_, rfl, rfl, Ext.refl _⟩
          · -- 16: t79 := move t7 (13, False)
            intro ac wx hE hsz hdf h
            have e7 : ac.tmps[7]? = some (.pointer (some ⟨mb, 0, none⟩)) := by obtain ⟨v, h1, h2⟩ := h 7 (by decide +kernel); exact h1.trans (h2.symm.trans rfl)
            have e76 : ac.tmps[76]? = some (.bool false) := by obtain ⟨v, h1, h2⟩ := h 76 (by decide +kernel); rw [h1]; exact congrArg some h2
            clear h hsz hdf
            go_wp2
            exact ⟨_, rfl, rfl, Ext.refl _⟩
          · -- 17: t80 := nilCheck t79 (13, False)
            intro ac wx hE hsz hdf h
            have e79 : ac.tmps[79]? = some (.pointer (some ⟨mb, 0, none⟩)) := by obtain ⟨v, h1, h2⟩ := h 79 (by decide +kernel); rw [h1]; exact congrArg some h2
            have e76 : ac.tmps[76]? = some (.bool false) := by obtain ⟨v, h1, h2⟩ := h 76 (by decide +kernel); rw [h1]; exact congrArg some h2
            clear h hsz hdf
            go_wp2
            exact ⟨_, rfl, rfl, Ext.refl _⟩
          · -- 18: t81 := fieldAddr 63 t80 4 (13, False)
            intro ac wx hE hsz hdf h
            have e80 : ac.tmps[80]? = some (.pointer (some ⟨mb, 0, none⟩)) := by obtain ⟨v, h1, h2⟩ := h 80 (by decide +kernel); rw [h1]; exact congrArg some h2
            have e76 : ac.tmps[76]? = some (.bool false) := by obtain ⟨v, h1, h2⟩ := h 76 (by decide +kernel); rw [h1]; exact congrArg some h2
            clear h hsz hdf
            go_wp2
            exact ⟨_, rfl, rfl, Ext.refl _⟩
          · -- 19: t82 := load 4 t81 (13, False)
            intro ac wx hE hsz hdf h
            have e81 : ac.tmps[81]? = some (.pointer (some ⟨mb, 4, none⟩)) := by obtain ⟨v, h1, h2⟩ := h 81 (by decide +kernel); rw [h1]; exact congrArg some h2
            have e76 : ac.tmps[76]? = some (.bool false) := by obtain ⟨v, h1, h2⟩ := h 76 (by decide +kernel); rw [h1]; exact congrArg some h2
            clear h hsz hdf
            have d4 : wx.cell? ⟨mb, 4, none⟩ = some (.bool true) := HD4.out wx (hx6.trans hE)
            go_wp2
            exact ⟨_, rfl, rfl, Ext.refl _⟩
          · -- 20: t83 := binOp BinOp.neq 4 t78 t82 4 (13, False)
            intro ac wx hE hsz hdf h
            have e78 : ac.tmps[78]? = some (.bool true) := by obtain ⟨v, h1, h2⟩ := h 78 (by decide +kernel); rw [h1]; exact congrArg some h2
            have e82 : ac.tmps[82]? = some (.bool true) := by obtain ⟨v, h1, h2⟩ := h 82 (by decide +kernel); rw [h1]; exact congrArg some h2
            have e76 : ac.tmps[76]? = some (.bool false) := by obtain ⟨v, h1, h2⟩ := h 76 (by decide +kernel); rw [h1]; exact congrArg some h2
            clear h hsz hdf
            go_wp2
            exact ⟨_, rfl, by simp, Ext.refl _⟩
          · -- 21: t84 := pick t76 (const (Value.bool true)) t83 
            intro ac wx hE hsz hdf h
            have e76 : ac.tmps[76]? = some (.bool false) := by obtain ⟨v, h1, h2⟩ := h 76 (by decide +kernel); rw [h1]; exact congrArg some h2
            have e83 : ac.tmps[83]? = some (.bool false) := by obtain ⟨v, h1, h2⟩ := h 83 (by decide +kernel); rw [h1]; exact congrArg some h2
            clear h hsz hdf
            go_wp2
            exact ⟨_, rfl, rfl, Ext.refl _⟩
          · -- 22: t85 := move t84 
            intro ac wx hE hsz hdf h
            have e84 : ac.tmps[84]? = some (.bool false) := by obtain ⟨v, h1, h2⟩ := h 84 (by decide +kernel); rw [h1]; exact congrArg some h2
            clear h hsz hdf
            go_wp2
            exact ⟨_, rfl, rfl, Ext.refl _⟩
          · -- 23: t86 := move t5 (22, False)
            intro ac wx hE hsz hdf h
            have e5 : ac.tmps[5]? = some (.pointer (some ⟨ab, 0, none⟩)) := by obtain ⟨v, h1, h2⟩ := h 5 (by decide +kernel); exact h1.trans (h2.symm.trans rfl)
            have e85 : ac.tmps[85]? = some (.bool false) := by obtain ⟨v, h1, h2⟩ := h 85 (by decide +kernel); rw [h1]; exact congrArg some h2
            clear h hsz hdf
            go_wp2
            exact ⟨_, rfl, rfl, Ext.refl _⟩
          · -- 24: t87 := call { value (Operand.func 35), args := #[t86], argTypes := #[44] } (22, False)
            intro ac wx hE hsz hdf h
            have e86 : ac.tmps[86]? = some (.pointer (some ⟨ab, 0, none⟩)) := by obtain ⟨v, h1, h2⟩ := h 86 (by decide +kernel); rw [h1]; exact congrArg some h2
            have e85 : ac.tmps[85]? = some (.bool false) := by obtain ⟨v, h1, h2⟩ := h 85 (by decide +kernel); rw [h1]; exact congrArg some h2
            clear h hsz hdf
            go_wp2_with ((go_at_call 35; go_loud (refine (strmEnded (HS5.out.keep (hx6.trans hE))).mono ?_); rw [HCL.out, HIL.out, HZ.out]; rintro e w' ⟨rfl, rfl⟩))
            exact ⟨_, rfl, by simp, Ext.refl _⟩
          · -- 25: t88 := move t7 (22, False)
            intro ac wx hE hsz hdf h
            have e7 : ac.tmps[7]? = some (.pointer (some ⟨mb, 0, none⟩)) := by obtain ⟨v, h1, h2⟩ := h 7 (by decide +kernel); exact h1.trans (h2.symm.trans rfl)
            have e85 : ac.tmps[85]? = some (.bool false) := by obtain ⟨v, h1, h2⟩ := h 85 (by decide +kernel); rw [h1]; exact congrArg some h2
            clear h hsz hdf
            go_wp2
            exact ⟨_, rfl, rfl, Ext.refl _⟩
          · -- 26: t89 := nilCheck t88 (22, False)
            intro ac wx hE hsz hdf h
            have e88 : ac.tmps[88]? = some (.pointer (some ⟨mb, 0, none⟩)) := by obtain ⟨v, h1, h2⟩ := h 88 (by decide +kernel); rw [h1]; exact congrArg some h2
            have e85 : ac.tmps[85]? = some (.bool false) := by obtain ⟨v, h1, h2⟩ := h 85 (by decide +kernel); rw [h1]; exact congrArg some h2
            clear h hsz hdf
            go_wp2
            exact ⟨_, rfl, rfl, Ext.refl _⟩
          · -- 27: t90 := fieldAddr 63 t89 4 (22, False)
            intro ac wx hE hsz hdf h
            have e89 : ac.tmps[89]? = some (.pointer (some ⟨mb, 0, none⟩)) := by obtain ⟨v, h1, h2⟩ := h 89 (by decide +kernel); rw [h1]; exact congrArg some h2
            have e85 : ac.tmps[85]? = some (.bool false) := by obtain ⟨v, h1, h2⟩ := h 85 (by decide +kernel); rw [h1]; exact congrArg some h2
            clear h hsz hdf
            go_wp2
            exact ⟨_, rfl, rfl, Ext.refl _⟩
          · -- 28: t91 := load 4 t90 (22, False)
            intro ac wx hE hsz hdf h
            have e90 : ac.tmps[90]? = some (.pointer (some ⟨mb, 4, none⟩)) := by obtain ⟨v, h1, h2⟩ := h 90 (by decide +kernel); rw [h1]; exact congrArg some h2
            have e85 : ac.tmps[85]? = some (.bool false) := by obtain ⟨v, h1, h2⟩ := h 85 (by decide +kernel); rw [h1]; exact congrArg some h2
            clear h hsz hdf
            have d4 : wx.cell? ⟨mb, 4, none⟩ = some (.bool true) := HD4.out wx (hx6.trans hE)
            go_wp2
            exact ⟨_, rfl, rfl, Ext.refl _⟩
          · -- 29: t92 := move t91 (22, False)
            intro ac wx hE hsz hdf h
            have e91 : ac.tmps[91]? = some (.bool true) := by obtain ⟨v, h1, h2⟩ := h 91 (by decide +kernel); rw [h1]; exact congrArg some h2
            have e85 : ac.tmps[85]? = some (.bool false) := by obtain ⟨v, h1, h2⟩ := h 85 (by decide +kernel); rw [h1]; exact congrArg some h2
            clear h hsz hdf
            go_wp2
            exact ⟨_, rfl, rfl, Ext.refl _⟩
          · -- 30: t93 := move t10 (29, True)
            intro ac wx hE hsz hdf h
            have e10 : ac.tmps[10]? = some (.int .i64 il) := by obtain ⟨v, h1, h2⟩ := h 10 (by decide +kernel); exact h1.trans (h2.symm.trans rfl)
            have e92 : ac.tmps[92]? = some (.bool true) := by obtain ⟨v, h1, h2⟩ := h 92 (by decide +kernel); rw [h1]; exact congrArg some h2
            clear h hsz hdf
            go_wp2
            exact ⟨_, rfl, rfl, Ext.refl _⟩
          · -- 31: t94 := binOp BinOp.eql 3 t93 (const (0:i64)) 3 (29, True)
            intro ac wx hE hsz hdf h
            have e93 : ac.tmps[93]? = some (.int .i64 il) := by obtain ⟨v, h1, h2⟩ := h 93 (by decide +kernel); rw [h1]; exact congrArg some h2
            have e92 : ac.tmps[92]? = some (.bool true) := by obtain ⟨v, h1, h2⟩ := h 92 (by decide +kernel); rw [h1]; exact congrArg some h2
            clear h hsz hdf
            go_wp2
            exact ⟨_, rfl, by rw [HZZ.out], Ext.refl _⟩
          · -- 32: t95 := pick t92 t94 (const (Value.bool false)) (22, False)
            intro ac wx hE hsz hdf h
            have e92 : ac.tmps[92]? = some (.bool true) := by obtain ⟨v, h1, h2⟩ := h 92 (by decide +kernel); rw [h1]; exact congrArg some h2
            have e94 : ac.tmps[94]? = some (.bool z) := by obtain ⟨v, h1, h2⟩ := h 94 (by decide +kernel); rw [h1]; exact congrArg some h2
            have e85 : ac.tmps[85]? = some (.bool false) := by obtain ⟨v, h1, h2⟩ := h 85 (by decide +kernel); rw [h1]; exact congrArg some h2
            clear h hsz hdf
            go_wp2
            exact ⟨_, rfl, rfl, Ext.refl _⟩
          · -- 33: t96 := binOp BinOp.neq 4 t87 t95 4 (22, False)
            intro ac wx hE hsz hdf h
            have e87 : ac.tmps[87]? = some (.bool z) := by obtain ⟨v, h1, h2⟩ := h 87 (by decide +kernel); rw [h1]; exact congrArg some h2
            have e95 : ac.tmps[95]? = some (.bool z) := by obtain ⟨v, h1, h2⟩ := h 95 (by decide +kernel); rw [h1]; exact congrArg some h2
            have e85 : ac.tmps[85]? = some (.bool false) := by obtain ⟨v, h1, h2⟩ := h 85 (by decide +kernel); rw [h1]; exact congrArg some h2
            clear h hsz hdf
            go_wp2
            exact ⟨_, rfl, by simp, Ext.refl _⟩
          · -- 34: t97 := pick t85 (const (Value.bool true)) t96 
            intro ac wx hE hsz hdf h
            have e85 : ac.tmps[85]? = some (.bool false) := by obtain ⟨v, h1, h2⟩ := h 85 (by decide +kernel); rw [h1]; exact congrArg some h2
            have e96 : ac.tmps[96]? = some (.bool false) := by obtain ⟨v, h1, h2⟩ := h 96 (by decide +kernel); rw [h1]; exact congrArg some h2
            clear h hsz hdf
            go_wp2
            exact ⟨_, rfl, rfl, Ext.refl _⟩
          · -- 35: t98 := move t97 
            intro ac wx hE hsz hdf h
            have e97 : ac.tmps[97]? = some (.bool false) := by obtain ⟨v, h1, h2⟩ := h 97 (by decide +kernel); rw [h1]; exact congrArg some h2
            clear h hsz hdf
            go_wp2
            exact ⟨_, rfl, rfl, Ext.refl _⟩
          · -- 36: t99 := move t5 (35, False)
            intro ac wx hE hsz hdf h
            have e5 : ac.tmps[5]? = some (.pointer (some ⟨ab, 0, none⟩)) := by obtain ⟨v, h1, h2⟩ := h 5 (by decide +kernel); exact h1.trans (h2.symm.trans rfl)
            have e98 : ac.tmps[98]? = some (.bool false) := by obtain ⟨v, h1, h2⟩ := h 98 (by decide +kernel); rw [h1]; exact congrArg some h2
            clear h hsz hdf
            go_wp2
            exact ⟨_, rfl, rfl, Ext.refl _⟩
          · -- 37: t100 := call { value (Operand.func 29), args := #[t99], argTypes := #[44] } (35, False)
            intro ac wx hE hsz hdf h
            have e99 : ac.tmps[99]? = some (.pointer (some ⟨ab, 0, none⟩)) := by obtain ⟨v, h1, h2⟩ := h 99 (by decide +kernel); rw [h1]; exact congrArg some h2
            have e98 : ac.tmps[98]? = some (.bool false) := by obtain ⟨v, h1, h2⟩ := h 98 (by decide +kernel); rw [h1]; exact congrArg some h2
            clear h hsz hdf
            go_wp2_with ((go_at_call 29; go_loud (refine (strmRoom (HS5.out.keep (hx6.trans hE))).mono ?_); rw [HRM.out]; rintro e w' ⟨rfl, k', rfl⟩))
            exact ⟨_, rfl, rfl, Ext.drawn _ _⟩
          · -- 38: t101 := move t0 (35, False)
            intro ac wx hE hsz hdf h
            have e0 : ac.tmps[0]? = some (.int .i64 Rb) := by obtain ⟨v, h1, h2⟩ := h 0 (by decide +kernel); exact h1.trans (h2.symm.trans rfl)
            have e98 : ac.tmps[98]? = some (.bool false) := by obtain ⟨v, h1, h2⟩ := h 98 (by decide +kernel); rw [h1]; exact congrArg some h2
            clear h hsz hdf
            go_wp2
            exact ⟨_, rfl, rfl, Ext.refl _⟩
          · -- 39: t102 := move t7 (35, False)
            intro ac wx hE hsz hdf h
            have e7 : ac.tmps[7]? = some (.pointer (some ⟨mb, 0, none⟩)) := by obtain ⟨v, h1, h2⟩ := h 7 (by decide +kernel); exact h1.trans (h2.symm.trans rfl)
            have e98 : ac.tmps[98]? = some (.bool false) := by obtain ⟨v, h1, h2⟩ := h 98 (by decide +kernel); rw [h1]; exact congrArg some h2
            clear h hsz hdf
            go_wp2
            exact ⟨_, rfl, rfl, Ext.refl _⟩
          · -- 40: t103 := nilCheck t102 (35, False)
            intro ac wx hE hsz hdf h
            have e102 : ac.tmps[102]? = some (.pointer (some ⟨mb, 0, none⟩)) := by obtain ⟨v, h1, h2⟩ := h 102 (by decide +kernel); rw [h1]; exact congrArg some h2
            have e98 : ac.tmps[98]? = some (.bool false) := by obtain ⟨v, h1, h2⟩ := h 98 (by decide +kernel); rw [h1]; exact congrArg some h2
            clear h hsz hdf
            go_wp2
            exact ⟨_, rfl, rfl, Ext.refl _⟩
          · -- 41: t104 := fieldAddr 63 t103 5 (35, False)
            intro ac wx hE hsz hdf h
            have e103 : ac.tmps[103]? = some (.pointer (some ⟨mb, 0, none⟩)) := by obtain ⟨v, h1, h2⟩ := h 103 (by decide +kernel); rw [h1]; exact congrArg some h2
            have e98 : ac.tmps[98]? = some (.bool false) := by obtain ⟨v, h1, h2⟩ := h 98 (by decide +kernel); rw [h1]; exact congrArg some h2
            clear h hsz hdf
            go_wp2
            exact ⟨_, rfl, rfl, Ext.refl _⟩
          · -- 42: t105 := load 9 t104 (35, False)
            intro ac wx hE hsz hdf h
            have e104 : ac.tmps[104]? = some (.pointer (some ⟨mb, 5, none⟩)) := by obtain ⟨v, h1, h2⟩ := h 104 (by decide +kernel); rw [h1]; exact congrArg some h2
            have e98 : ac.tmps[98]? = some (.bool false) := by obtain ⟨v, h1, h2⟩ := h 98 (by decide +kernel); rw [h1]; exact congrArg some h2
            clear h hsz hdf
            have d5 : wx.cell? ⟨mb, 5, none⟩ = some (.string ⟨T.toArray⟩) := HD5.out wx (hx6.trans hE)
            go_wp2
            exact ⟨_, rfl, rfl, Ext.refl _⟩
          · -- 43: t106 := call { builtin len, args := #[t105], argTypes := #[9] } (35, False)
            intro ac wx hE hsz hdf h
            have e105 : ac.tmps[105]? = some (.string ⟨T.toArray⟩) := by obtain ⟨v, h1, h2⟩ := h 105 (by decide +kernel); rw [h1]; exact congrArg some h2
            have e98 : ac.tmps[98]? = some (.bool false) := by obtain ⟨v, h1, h2⟩ := h 98 (by decide +kernel); rw [h1]; exact congrArg some h2
            clear h hsz hdf
            go_wp2
            exact ⟨_, rfl, rfl, Ext.refl _⟩
          · -- 44: t107 := move t7 (35, False)
            intro ac wx hE hsz hdf h
            have e7 : ac.tmps[7]? = some (.pointer (some ⟨mb, 0, none⟩)) := by obtain ⟨v, h1, h2⟩ := h 7 (by decide +kernel); exact h1.trans (h2.symm.trans rfl)
            have e98 : ac.tmps[98]? = some (.bool false) := by obtain ⟨v, h1, h2⟩ := h 98 (by decide +kernel); rw [h1]; exact congrArg some h2
            clear h hsz hdf
            go_wp2
            exact ⟨_, rfl, rfl, Ext.refl _⟩
          · -- 45: t108 := nilCheck t107 (35, False)
            intro ac wx hE hsz hdf h
            have e107 : ac.tmps[107]? = some (.pointer (some ⟨mb, 0, none⟩)) := by obtain ⟨v, h1, h2⟩ := h 107 (by decide +kernel); rw [h1]; exact congrArg some h2
            have e98 : ac.tmps[98]? = some (.bool false) := by obtain ⟨v, h1, h2⟩ := h 98 (by decide +kernel); rw [h1]; exact congrArg some h2
            clear h hsz hdf
            go_wp2
            exact ⟨_, rfl, rfl, Ext.refl _⟩
          · -- 46: t109 := fieldAddr 63 t108 6 (35, False)
            intro ac wx hE hsz hdf h
            have e108 : ac.tmps[108]? = some (.pointer (some ⟨mb, 0, none⟩)) := by obtain ⟨v, h1, h2⟩ := h 108 (by decide +kernel); rw [h1]; exact congrArg some h2
            have e98 : ac.tmps[98]? = some (.bool false) := by obtain ⟨v, h1, h2⟩ := h 98 (by decide +kernel); rw [h1]; exact congrArg some h2
            clear h hsz hdf
            go_wp2
            exact ⟨_, rfl, rfl, Ext.refl _⟩
          · -- 47: t110 := load 3 t109 (35, False)
            intro ac wx hE hsz hdf h
            have e109 : ac.tmps[109]? = some (.pointer (some ⟨mb, 6, none⟩)) := by obtain ⟨v, h1, h2⟩ := h 109 (by decide +kernel); rw [h1]; exact congrArg some h2
            have e98 : ac.tmps[98]? = some (.bool false) := by obtain ⟨v, h1, h2⟩ := h 98 (by decide +kernel); rw [h1]; exact congrArg some h2
            clear h hsz hdf
            have d6 : wx.cell? ⟨mb, 6, none⟩ = some (.int .i64 wl) := HD6.out wx (hx6.trans hE)
            go_wp2
            exact ⟨_, rfl, rfl, Ext.refl _⟩
          · -- 48: t111 := binOp BinOp.sub 3 t106 t110 3 (35, False)
            intro ac wx hE hsz hdf h
            have e106 : ac.tmps[106]? = some (.int .i64 T.length) := by obtain ⟨v, h1, h2⟩ := h 106 (by decide +kernel); rw [h1]; exact congrArg some h2
            have e110 : ac.tmps[110]? = some (.int .i64 wl) := by obtain ⟨v, h1, h2⟩ := h 110 (by decide +kernel); rw [h1]; exact congrArg some h2
            have e98 : ac.tmps[98]? = some (.bool false) := by obtain ⟨v, h1, h2⟩ := h 98 (by decide +kernel); rw [h1]; exact congrArg some h2
            clear h hsz hdf
            go_wp2
            exact ⟨_, rfl, by rw [HTL.out], Ext.refl _⟩
          · -- 49: t112 := binOp BinOp.sub 3 t101 t111 3 (35, False)
            intro ac wx hE hsz hdf h
            have e101 : ac.tmps[101]? = some (.int .i64 Rb) := by obtain ⟨v, h1, h2⟩ := h 101 (by decide +kernel); rw [h1]; exact congrArg some h2
            have e111 : ac.tmps[111]? = some (.int .i64 ql) := by obtain ⟨v, h1, h2⟩ := h 111 (by decide +kernel); rw [h1]; exact congrArg some h2
            have e98 : ac.tmps[98]? = some (.bool false) := by obtain ⟨v, h1, h2⟩ := h 98 (by decide +kernel); rw [h1]; exact congrArg some h2
            clear h hsz hdf
            go_wp2
            exact ⟨_, rfl, by rw [HRQ.out], Ext.refl _⟩
          · -- 50: t113 := binOp BinOp.neq 3 t100 t112 3 (35, False)
            intro ac wx hE hsz hdf h
            have e100 : ac.tmps[100]? = some (.int .i64 rm) := by obtain ⟨v, h1, h2⟩ := h 100 (by decide +kernel); rw [h1]; exact congrArg some h2
            have e112 : ac.tmps[112]? = some (.int .i64 rm) := by obtain ⟨v, h1, h2⟩ := h 112 (by decide +kernel); rw [h1]; exact congrArg some h2
            have e98 : ac.tmps[98]? = some (.bool false) := by obtain ⟨v, h1, h2⟩ := h 98 (by decide +kernel); rw [h1]; exact congrArg some h2
            clear h hsz hdf
            go_wp2
            exact ⟨_, rfl, by simp, Ext.refl _⟩
          · -- 51: t114 := pick t98 (const (Value.bool true)) t113 
            intro ac wx hE hsz hdf h
            have e98 : ac.tmps[98]? = some (.bool false) := by obtain ⟨v, h1, h2⟩ := h 98 (by decide +kernel); rw [h1]; exact congrArg some h2
            have e113 : ac.tmps[113]? = some (.bool false) := by obtain ⟨v, h1, h2⟩ := h 113 (by decide +kernel); rw [h1]; exact congrArg some h2
            clear h hsz hdf
            go_wp2
            exact ⟨_, rfl, rfl, Ext.refl _⟩
          · -- 52: t115 := move t114 
            intro ac wx hE hsz hdf h
            have e114 : ac.tmps[114]? = some (.bool false) := by obtain ⟨v, h1, h2⟩ := h 114 (by decide +kernel); rw [h1]; exact congrArg some h2
            clear h hsz hdf
            go_wp2
            exact ⟨_, rfl, rfl, Ext.refl _⟩
          · -- 53: t116 := move t5 (52, False)
            intro ac wx hE hsz hdf h
            have e5 : ac.tmps[5]? = some (.pointer (some ⟨ab, 0, none⟩)) := by obtain ⟨v, h1, h2⟩ := h 5 (by decide +kernel); exact h1.trans (h2.symm.trans rfl)
            have e115 : ac.tmps[115]? = some (.bool false) := by obtain ⟨v, h1, h2⟩ := h 115 (by decide +kernel); rw [h1]; exact congrArg some h2
            clear h hsz hdf
            go_wp2
            exact ⟨_, rfl, rfl, Ext.refl _⟩
          · -- 54: t117 := call { value (Operand.func 28), args := #[t116], argTypes := #[44] } (52, False)
            intro ac wx hE hsz hdf h
            have e116 : ac.tmps[116]? = some (.pointer (some ⟨ab, 0, none⟩)) := by obtain ⟨v, h1, h2⟩ := h 116 (by decide +kernel); rw [h1]; exact congrArg some h2
            have e115 : ac.tmps[115]? = some (.bool false) := by obtain ⟨v, h1, h2⟩ := h 115 (by decide +kernel); rw [h1]; exact congrArg some h2
            clear h hsz hdf
            go_wp2_with ((go_at_call 28; go_loud (refine (strmWire (HS5.out.keep (hx6.trans hE))).mono ?_); rw [HV.out]; rintro e w' ⟨v9, rfl, ho9, hb9⟩; obtain ⟨A9, c9, rfl, -, -, hrd9⟩ := own_rd ho9))
            exact ⟨_, rfl, ⟨A9, c9, rfl, hrd9⟩, hb9⟩
          · -- 55: t118 := convert 42 9 t117 (52, False)
            intro ac wx hE hsz hdf h
            obtain ⟨v117, e117, s117⟩ : ∃ v, ac.tmps[117]? = some v ∧ (∃ A c, v = .slice A V.length c ∧ Rd wx 1 A V.length (bytesV V)) := h 117 (by decide +kernel)
            have e115 : ac.tmps[115]? = some (.bool false) := by obtain ⟨v, h1, h2⟩ := h 115 (by decide +kernel); rw [h1]; exact congrArg some h2
            clear h hsz hdf
            obtain ⟨A8, c8, rfl, hrd8⟩ := s117; have hcv := conv_str (P := Tryd.prog) (c := c8) Tryd.underlying42 Tryd.underlying5 Tryd.underlying9 hrd8
            go_wp2
            exact ⟨_, rfl, rfl, Ext.refl _⟩
          · -- 56: t119 := move t7 (52, False)
            intro ac wx hE hsz hdf h
            have e7 : ac.tmps[7]? = some (.pointer (some ⟨mb, 0, none⟩)) := by obtain ⟨v, h1, h2⟩ := h 7 (by decide +kernel); exact h1.trans (h2.symm.trans rfl)
            have e115 : ac.tmps[115]? = some (.bool false) := by obtain ⟨v, h1, h2⟩ := h 115 (by decide +kernel); rw [h1]; exact congrArg some h2
            clear h hsz hdf
            go_wp2
            exact ⟨_, rfl, rfl, Ext.refl _⟩
          · -- 57: t120 := nilCheck t119 (52, False)
            intro ac wx hE hsz hdf h
            have e119 : ac.tmps[119]? = some (.pointer (some ⟨mb, 0, none⟩)) := by obtain ⟨v, h1, h2⟩ := h 119 (by decide +kernel); rw [h1]; exact congrArg some h2
            have e115 : ac.tmps[115]? = some (.bool false) := by obtain ⟨v, h1, h2⟩ := h 115 (by decide +kernel); rw [h1]; exact congrArg some h2
            clear h hsz hdf
            go_wp2
            exact ⟨_, rfl, rfl, Ext.refl _⟩
          · -- 58: t121 := fieldAddr 63 t120 5 (52, False)
            intro ac wx hE hsz hdf h
            have e120 : ac.tmps[120]? = some (.pointer (some ⟨mb, 0, none⟩)) := by obtain ⟨v, h1, h2⟩ := h 120 (by decide +kernel); rw [h1]; exact congrArg some h2
            have e115 : ac.tmps[115]? = some (.bool false) := by obtain ⟨v, h1, h2⟩ := h 115 (by decide +kernel); rw [h1]; exact congrArg some h2
            clear h hsz hdf
            go_wp2
            exact ⟨_, rfl, rfl, Ext.refl _⟩
          · -- 59: t122 := load 9 t121 (52, False)
            intro ac wx hE hsz hdf h
            have e121 : ac.tmps[121]? = some (.pointer (some ⟨mb, 5, none⟩)) := by obtain ⟨v, h1, h2⟩ := h 121 (by decide +kernel); rw [h1]; exact congrArg some h2
            have e115 : ac.tmps[115]? = some (.bool false) := by obtain ⟨v, h1, h2⟩ := h 115 (by decide +kernel); rw [h1]; exact congrArg some h2
            clear h hsz hdf
            have d5 : wx.cell? ⟨mb, 5, none⟩ = some (.string ⟨T.toArray⟩) := HD5.out wx (hx6.trans hE)
            go_wp2
            exact ⟨_, rfl, rfl, Ext.refl _⟩
          · -- 60: t123 := move t7 (52, False)
            intro ac wx hE hsz hdf h
            have e7 : ac.tmps[7]? = some (.pointer (some ⟨mb, 0, none⟩)) := by obtain ⟨v, h1, h2⟩ := h 7 (by decide +kernel); exact h1.trans (h2.symm.trans rfl)
            have e115 : ac.tmps[115]? = some (.bool false) := by obtain ⟨v, h1, h2⟩ := h 115 (by decide +kernel); rw [h1]; exact congrArg some h2
            clear h hsz hdf
            go_wp2
            exact ⟨_, rfl, rfl, Ext.refl _⟩
          · -- 61: t124 := nilCheck t123 (52, False)
            intro ac wx hE hsz hdf h
            have e123 : ac.tmps[123]? = some (.pointer (some ⟨mb, 0, none⟩)) := by obtain ⟨v, h1, h2⟩ := h 123 (by decide +kernel); rw [h1]; exact congrArg some h2
            have e115 : ac.tmps[115]? = some (.bool false) := by obtain ⟨v, h1, h2⟩ := h 115 (by decide +kernel); rw [h1]; exact congrArg some h2
            clear h hsz hdf
            go_wp2
            exact ⟨_, rfl, rfl, Ext.refl _⟩
          · -- 62: t125 := fieldAddr 63 t124 6 (52, False)
            intro ac wx hE hsz hdf h
            have e124 : ac.tmps[124]? = some (.pointer (some ⟨mb, 0, none⟩)) := by obtain ⟨v, h1, h2⟩ := h 124 (by decide +kernel); rw [h1]; exact congrArg some h2
            have e115 : ac.tmps[115]? = some (.bool false) := by obtain ⟨v, h1, h2⟩ := h 115 (by decide +kernel); rw [h1]; exact congrArg some h2
            clear h hsz hdf
            go_wp2
            exact ⟨_, rfl, rfl, Ext.refl _⟩
          · -- 63: t126 := load 3 t125 (52, False)
            intro ac wx hE hsz hdf h
            have e125 : ac.tmps[125]? = some (.pointer (some ⟨mb, 6, none⟩)) := by obtain ⟨v, h1, h2⟩ := h 125 (by decide +kernel); rw [h1]; exact congrArg some h2
            have e115 : ac.tmps[115]? = some (.bool false) := by obtain ⟨v, h1, h2⟩ := h 115 (by decide +kernel); rw [h1]; exact congrArg some h2
            clear h hsz hdf
            have d6 : wx.cell? ⟨mb, 6, none⟩ = some (.int .i64 wl) := HD6.out wx (hx6.trans hE)
            go_wp2
            exact ⟨_, rfl, rfl, Ext.refl _⟩
          · -- 64: t127 := slice 9 t122 none (some t126) none (52, False)
            intro ac wx hE hsz hdf h
            have e122 : ac.tmps[122]? = some (.string ⟨T.toArray⟩) := by obtain ⟨v, h1, h2⟩ := h 122 (by decide +kernel); rw [h1]; exact congrArg some h2
            have e126 : ac.tmps[126]? = some (.int .i64 wl) := by obtain ⟨v, h1, h2⟩ := h 126 (by decide +kernel); rw [h1]; exact congrArg some h2
            have e115 : ac.tmps[115]? = some (.bool false) := by obtain ⟨v, h1, h2⟩ := h 115 (by decide +kernel); rw [h1]; exact congrArg some h2
            clear h hsz hdf
            go_wp2
            exact ⟨_, rfl, by rw [HTK.out], Ext.refl _⟩
          · -- 65: t128 := binOp BinOp.neq 9 t118 t127 9 (52, False)
            intro ac wx hE hsz hdf h
            have e118 : ac.tmps[118]? = some (.string ⟨V.toArray⟩) := by obtain ⟨v, h1, h2⟩ := h 118 (by decide +kernel); rw [h1]; exact congrArg some h2
            have e127 : ac.tmps[127]? = some (.string ⟨V.toArray⟩) := by obtain ⟨v, h1, h2⟩ := h 127 (by decide +kernel); rw [h1]; exact congrArg some h2
            have e115 : ac.tmps[115]? = some (.bool false) := by obtain ⟨v, h1, h2⟩ := h 115 (by decide +kernel); rw [h1]; exact congrArg some h2
            clear h hsz hdf
            go_wp2
            exact ⟨_, rfl, by simp, Ext.refl _⟩
          · -- 66: t129 := pick t115 (const (Value.bool true)) t128 
            intro ac wx hE hsz hdf h
            have e115 : ac.tmps[115]? = some (.bool false) := by obtain ⟨v, h1, h2⟩ := h 115 (by decide +kernel); rw [h1]; exact congrArg some h2
            have e128 : ac.tmps[128]? = some (.bool false) := by obtain ⟨v, h1, h2⟩ := h 128 (by decide +kernel); rw [h1]; exact congrArg some h2
            clear h hsz hdf
            go_wp2
            exact ⟨_, rfl, rfl, Ext.refl _⟩
          · intro ac w9 hE hsz hdf h hrest
            obtain ⟨v0, s0, g0⟩ := h 0 _ rfl
            have e0 := g0 63 rfl
            obtain rfl : v0 = .pointer (some ⟨ab, 0, none⟩) := s0
            obtain ⟨v1, s1, g1⟩ := h 1 _ rfl
            have e1 := g1 64 rfl
            obtain rfl : v1 = .int .i64 il := s1
            obtain ⟨v2, s2, g2⟩ := h 2 _ rfl
            have e2 := g2 65 rfl
            obtain rfl : v2 = .int .i64 il := s2
            obtain ⟨v3, s3, g3⟩ := h 3 _ rfl
            have e3 := g3 66 rfl
            obtain rfl : v3 = .bool false := s3
            obtain ⟨v4, s4, g4⟩ := h 4 _ rfl
            have e4 := g4 67 rfl
            obtain rfl : v4 = .bool false := s4
            obtain ⟨v5, s5, g5⟩ := h 5 _ rfl
            have e5 := g5 68 rfl
            obtain rfl : v5 = .pointer (some ⟨ab, 0, none⟩) := s5
            obtain ⟨v6, s6, g6⟩ := h 6 _ rfl
            have e6 := g6 69 rfl
            obtain rfl : v6 = .int .i64 rd := s6
            obtain ⟨v7, s7, g7⟩ := h 7 _ rfl
            have e7 := g7 70 rfl
            obtain rfl : v7 = .pointer (some ⟨mb, 0, none⟩) := s7
            obtain ⟨v8, s8, g8⟩ := h 8 _ rfl
            have e8 := g8 71 rfl
            obtain rfl : v8 = .pointer (some ⟨mb, 0, none⟩) := s8
            obtain ⟨v9, s9, g9⟩ := h 9 _ rfl
            have e9 := g9 72 rfl
            obtain rfl : v9 = .pointer (some ⟨mb, 3, none⟩) := s9
            obtain ⟨v10, s10, g10⟩ := h 10 _ rfl
            have e10 := g10 73 rfl
            obtain rfl : v10 = .int .i64 rd := s10
            obtain ⟨v11, s11, g11⟩ := h 11 _ rfl
            have e11 := g11 74 rfl
            obtain rfl : v11 = .bool false := s11
            obtain ⟨v12, s12, g12⟩ := h 12 _ rfl
            have e12 := g12 75 rfl
            obtain rfl : v12 = .bool false := s12
            obtain ⟨v13, s13, g13⟩ := h 13 _ rfl
            have e13 := g13 76 rfl
            obtain rfl : v13 = .bool false := s13
            obtain ⟨v14, s14, g14⟩ := h 14 _ rfl
            have e14 := g14 77 rfl
            obtain rfl : v14 = .pointer (some ⟨ab, 0, none⟩) := s14
            obtain ⟨v15, s15, g15⟩ := h 15 _ rfl
            have e15 := g15 78 rfl
            obtain rfl : v15 = .bool true := s15
            obtain ⟨v16, s16, g16⟩ := h 16 _ rfl
            have e16 := g16 79 rfl
            obtain rfl : v16 = .pointer (some ⟨mb, 0, none⟩) := s16
            obtain ⟨v17, s17, g17⟩ := h 17 _ rfl
            have e17 := g17 80 rfl
            obtain rfl : v17 = .pointer (some ⟨mb, 0, none⟩) := s17
            obtain ⟨v18, s18, g18⟩ := h 18 _ rfl
            have e18 := g18 81 rfl
            obtain rfl : v18 = .pointer (some ⟨mb, 4, none⟩) := s18
            obtain ⟨v19, s19, g19⟩ := h 19 _ rfl
            have e19 := g19 82 rfl
            obtain rfl : v19 = .bool true := s19
            obtain ⟨v20, s20, g20⟩ := h 20 _ rfl
            have e20 := g20 83 rfl
            obtain rfl : v20 = .bool false := s20
            obtain ⟨v21, s21, g21⟩ := h 21 _ rfl
            have e21 := g21 84 rfl
            obtain rfl : v21 = .bool false := s21
            obtain ⟨v22, s22, g22⟩ := h 22 _ rfl
            have e22 := g22 85 rfl
            obtain rfl : v22 = .bool false := s22
            obtain ⟨v23, s23, g23⟩ := h 23 _ rfl
            have e23 := g23 86 rfl
            obtain rfl : v23 = .pointer (some ⟨ab, 0, none⟩) := s23
            obtain ⟨v24, s24, g24⟩ := h 24 _ rfl
            have e24 := g24 87 rfl
            obtain rfl : v24 = .bool z := s24
            obtain ⟨v25, s25, g25⟩ := h 25 _ rfl
            have e25 := g25 88 rfl
            obtain rfl : v25 = .pointer (some ⟨mb, 0, none⟩) := s25
            obtain ⟨v26, s26, g26⟩ := h 26 _ rfl
            have e26 := g26 89 rfl
            obtain rfl : v26 = .pointer (some ⟨mb, 0, none⟩) := s26
            obtain ⟨v27, s27, g27⟩ := h 27 _ rfl
            have e27 := g27 90 rfl
            obtain rfl : v27 = .pointer (some ⟨mb, 4, none⟩) := s27
            obtain ⟨v28, s28, g28⟩ := h 28 _ rfl
            have e28 := g28 91 rfl
            obtain rfl : v28 = .bool true := s28
            obtain ⟨v29, s29, g29⟩ := h 29 _ rfl
            have e29 := g29 92 rfl
            obtain rfl : v29 = .bool true := s29
            obtain ⟨v30, s30, g30⟩ := h 30 _ rfl
            have e30 := g30 93 rfl
            obtain rfl : v30 = .int .i64 il := s30
            obtain ⟨v31, s31, g31⟩ := h 31 _ rfl
            have e31 := g31 94 rfl
            obtain rfl : v31 = .bool z := s31
            obtain ⟨v32, s32, g32⟩ := h 32 _ rfl
            have e32 := g32 95 rfl
            obtain rfl : v32 = .bool z := s32
            obtain ⟨v33, s33, g33⟩ := h 33 _ rfl
            have e33 := g33 96 rfl
            obtain rfl : v33 = .bool false := s33
            obtain ⟨v34, s34, g34⟩ := h 34 _ rfl
            have e34 := g34 97 rfl
            obtain rfl : v34 = .bool false := s34
            obtain ⟨v35, s35, g35⟩ := h 35 _ rfl
            have e35 := g35 98 rfl
            obtain rfl : v35 = .bool false := s35
            obtain ⟨v36, s36, g36⟩ := h 36 _ rfl
            have e36 := g36 99 rfl
            obtain rfl : v36 = .pointer (some ⟨ab, 0, none⟩) := s36
            obtain ⟨v37, s37, g37⟩ := h 37 _ rfl
            have e37 := g37 100 rfl
            obtain rfl : v37 = .int .i64 rm := s37
            obtain ⟨v38, s38, g38⟩ := h 38 _ rfl
            have e38 := g38 101 rfl
            obtain rfl : v38 = .int .i64 Rb := s38
            obtain ⟨v39, s39, g39⟩ := h 39 _ rfl
            have e39 := g39 102 rfl
            obtain rfl : v39 = .pointer (some ⟨mb, 0, none⟩) := s39
            obtain ⟨v40, s40, g40⟩ := h 40 _ rfl
            have e40 := g40 103 rfl
            obtain rfl : v40 = .pointer (some ⟨mb, 0, none⟩) := s40
            obtain ⟨v41, s41, g41⟩ := h 41 _ rfl
            have e41 := g41 104 rfl
            obtain rfl : v41 = .pointer (some ⟨mb, 5, none⟩) := s41
            obtain ⟨v42, s42, g42⟩ := h 42 _ rfl
            have e42 := g42 105 rfl
            obtain rfl : v42 = .string ⟨T.toArray⟩ := s42
            obtain ⟨v43, s43, g43⟩ := h 43 _ rfl
            have e43 := g43 106 rfl
            obtain rfl : v43 = .int .i64 T.length := s43
            obtain ⟨v44, s44, g44⟩ := h 44 _ rfl
            have e44 := g44 107 rfl
            obtain rfl : v44 = .pointer (some ⟨mb, 0, none⟩) := s44
            obtain ⟨v45, s45, g45⟩ := h 45 _ rfl
            have e45 := g45 108 rfl
            obtain rfl : v45 = .pointer (some ⟨mb, 0, none⟩) := s45
            obtain ⟨v46, s46, g46⟩ := h 46 _ rfl
            have e46 := g46 109 rfl
            obtain rfl : v46 = .pointer (some ⟨mb, 6, none⟩) := s46
            obtain ⟨v47, s47, g47⟩ := h 47 _ rfl
            have e47 := g47 110 rfl
            obtain rfl : v47 = .int .i64 wl := s47
            obtain ⟨v48, s48, g48⟩ := h 48 _ rfl
            have e48 := g48 111 rfl
            obtain rfl : v48 = .int .i64 ql := s48
            obtain ⟨v49, s49, g49⟩ := h 49 _ rfl
            have e49 := g49 112 rfl
            obtain rfl : v49 = .int .i64 rm := s49
            obtain ⟨v50, s50, g50⟩ := h 50 _ rfl
            have e50 := g50 113 rfl
            obtain rfl : v50 = .bool false := s50
            obtain ⟨v51, s51, g51⟩ := h 51 _ rfl
            have e51 := g51 114 rfl
            obtain rfl : v51 = .bool false := s51
            obtain ⟨v52, s52, g52⟩ := h 52 _ rfl
            have e52 := g52 115 rfl
            obtain rfl : v52 = .bool false := s52
            obtain ⟨v53, s53, g53⟩ := h 53 _ rfl
            have e53 := g53 116 rfl
            obtain rfl : v53 = .pointer (some ⟨ab, 0, none⟩) := s53
            obtain ⟨v54, s54, g54⟩ := h 54 _ rfl
            have e54 := g54 117 rfl
            replace s54 : ∃ A c, v54 = .slice A V.length c ∧ Rd w9 1 A V.length (bytesV V) := s54
            obtain ⟨v55, s55, g55⟩ := h 55 _ rfl
            have e55 := g55 118 rfl
            obtain rfl : v55 = .string ⟨V.toArray⟩ := s55
            obtain ⟨v56, s56, g56⟩ := h 56 _ rfl
            have e56 := g56 119 rfl
            obtain rfl : v56 = .pointer (some ⟨mb, 0, none⟩) := s56
            obtain ⟨v57, s57, g57⟩ := h 57 _ rfl
            have e57 := g57 120 rfl
            obtain rfl : v57 = .pointer (some ⟨mb, 0, none⟩) := s57
            obtain ⟨v58, s58, g58⟩ := h 58 _ rfl
            have e58 := g58 121 rfl
            obtain rfl : v58 = .pointer (some ⟨mb, 5, none⟩) := s58
            obtain ⟨v59, s59, g59⟩ := h 59 _ rfl
            have e59 := g59 122 rfl
            obtain rfl : v59 = .string ⟨T.toArray⟩ := s59
            obtain ⟨v60, s60, g60⟩ := h 60 _ rfl
            have e60 := g60 123 rfl
            obtain rfl : v60 = .pointer (some ⟨mb, 0, none⟩) := s60
            obtain ⟨v61, s61, g61⟩ := h 61 _ rfl
            have e61 := g61 124 rfl
            obtain rfl : v61 = .pointer (some ⟨mb, 0, none⟩) := s61
            obtain ⟨v62, s62, g62⟩ := h 62 _ rfl
            have e62 := g62 125 rfl
            obtain rfl : v62 = .pointer (some ⟨mb, 6, none⟩) := s62
            obtain ⟨v63, s63, g63⟩ := h 63 _ rfl
            have e63 := g63 126 rfl
            obtain rfl : v63 = .int .i64 wl := s63
            obtain ⟨v64, s64, g64⟩ := h 64 _ rfl
            have e64 := g64 127 rfl
            obtain rfl : v64 = .string ⟨V.toArray⟩ := s64
            obtain ⟨v65, s65, g65⟩ := h 65 _ rfl
            have e65 := g65 128 rfl
            obtain rfl : v65 = .bool false := s65
            obtain ⟨v66, s66, g66⟩ := h 66 _ rfl
            have e66 := g66 129 rfl
            obtain rfl : v66 = .bool false := s66
            have ha := act_of [(63, .pointer (some ⟨ab, 0, none⟩)), (64, .int .i64 il), (65, .int .i64 il), (66, .bool false), (67, .bool false), (68, .pointer (some ⟨ab, 0, none⟩)), (69, .int .i64 rd), (70, .pointer (some ⟨mb, 0, none⟩)), (71, .pointer (some ⟨mb, 0, none⟩)), (72, .pointer (some ⟨mb, 3, none⟩)), (73, .int .i64 rd), (74, .bool false), (75, .bool false), (76, .bool false), (77, .pointer (some ⟨ab, 0, none⟩)), (78, .bool true), (79, .pointer (some ⟨mb, 0, none⟩)), (80, .pointer (some ⟨mb, 0, none⟩)), (81, .pointer (some ⟨mb, 4, none⟩)), (82, .bool true), (83, .bool false), (84, .bool false), (85, .bool false), (86, .pointer (some ⟨ab, 0, none⟩)), (87, .bool z), (88, .pointer (some ⟨mb, 0, none⟩)), (89, .pointer (some ⟨mb, 0, none⟩)), (90, .pointer (some ⟨mb, 4, none⟩)), (91, .bool true), (92, .bool true), (93, .int .i64 il), (94, .bool z), (95, .bool z), (96, .bool false), (97, .bool false), (98, .bool false), (99, .pointer (some ⟨ab, 0, none⟩)), (100, .int .i64 rm), (101, .int .i64 Rb), (102, .pointer (some ⟨mb, 0, none⟩)), (103, .pointer (some ⟨mb, 0, none⟩)), (104, .pointer (some ⟨mb, 5, none⟩)), (105, .string ⟨T.toArray⟩), (106, .int .i64 T.length), (107, .pointer (some ⟨mb, 0, none⟩)), (108, .pointer (some ⟨mb, 0, none⟩)), (109, .pointer (some ⟨mb, 6, none⟩)), (110, .int .i64 wl), (111, .int .i64 ql), (112, .int .i64 rm), (113, .bool false), (114, .bool false), (115, .bool false), (116, .pointer (some ⟨ab, 0, none⟩)), (117, v54), (118, .string ⟨V.toArray⟩), (119, .pointer (some ⟨mb, 0, none⟩)), (120, .pointer (some ⟨mb, 0, none⟩)), (121, .pointer (some ⟨mb, 5, none⟩)), (122, .string ⟨T.toArray⟩), (123, .pointer (some ⟨mb, 0, none⟩)), (124, .pointer (some ⟨mb, 0, none⟩)), (125, .pointer (some ⟨mb, 6, none⟩)), (126, .int .i64 wl), (127, .string ⟨V.toArray⟩), (128, .bool false), (129, .bool false)] rfl hsz hdf (by intro p hp; simp only [List.mem_cons, List.not_mem_nil, or_false] at hp; rcases hp with rfl | rfl | rfl | rfl | rfl | rfl | rfl | rfl | rfl | rfl | rfl | rfl | rfl | rfl | rfl | rfl | rfl | rfl | rfl | rfl | rfl | rfl | rfl | rfl | rfl | rfl | rfl | rfl | rfl | rfl | rfl | rfl | rfl | rfl | rfl | rfl | rfl | rfl | rfl | rfl | rfl | rfl | rfl | rfl | rfl | rfl | rfl | rfl | rfl | rfl | rfl | rfl | rfl | rfl | rfl | rfl | rfl | rfl | rfl | rfl | rfl | rfl | rfl | rfl | rfl | rfl | rfl <;> first | exact e0 | exact e1 | exact e2 | exact e3 | exact e4 | exact e5 | exact e6 | exact e7 | exact e8 | exact e9 | exact e10 | exact e11 | exact e12 | exact e13 | exact e14 | exact e15 | exact e16 | exact e17 | exact e18 | exact e19 | exact e20 | exact e21 | exact e22 | exact e23 | exact e24 | exact e25 | exact e26 | exact e27 | exact e28 | exact e29 | exact e30 | exact e31 | exact e32 | exact e33 | exact e34 | exact e35 | exact e36 | exact e37 | exact e38 | exact e39 | exact e40 | exact e41 | exact e42 | exact e43 | exact e44 | exact e45 | exact e46 | exact e47 | exact e48 | exact e49 | exact e50 | exact e51 | exact e52 | exact e53 | exact e54 | exact e55 | exact e56 | exact e57 | exact e58 | exact e59 | exact e60 | exact e61 | exact e62 | exact e63 | exact e64 | exact e65 | exact e66) hrest
            clear h hrest hsz hdf e0 e1 e2 e3 e4 e5 e6 e7 e8 e9 e10 e11 e12 e13 e14 e15 e16 e17 e18 e19 e20 e21 e22 e23 e24 e25 e26 e27 e28 e29 e30 e31 e32 e33 e34 e35 e36 e37 e38 e39 e40 e41 e42 e43 e44 e45 e46 e47 e48 e49 e50 e51 e52 e53 e54 e55 e56 e57 e58 e59 e60 e61 e62 e63 e64 e65 e66 g0 g1 g2 g3 g4 g5 g6 g7 g8 g9 g10 g11 g12 g13 g14 g15 g16 g17 g18 g19 g20 g21 g22 g23 g24 g25 g26 g27 g28 g29 g30 g31 g32 g33 g34 g35 g36 g37 g38 g39 g40 g41 g42 g43 g44 g45 g46 g47 g48 g49 g50 g51 g52 g53 g54 g55 g56 g57 g58 g59 g60 g61 g62 g63 g64 g65 g66
            subst ha
            simp only [List.foldl_cons, List.foldl_nil, Act.put, List.setIfInBounds_toArray, List.set_cons_succ, List.set_cons_zero]
          -- GAD StrmActs16t
            have hx9 := hx6.trans hE
            have hst9 := HSN5.out.keep hx9
            have hmd9 := (HMN5.out.keep hx9).any (n' := 300 * (k + 1)) (by omega)
            have hb9 : Below B w2 w9 := HB9.out.trans (hx9.mono (by have := HB9.out.size; have := HB.out; omega))
            have hqq9 := HQQ.out
            clear hE hx6 hx9
            go_wp2
            go_roundw
            case rel => exact ⟨k + 1, S5, hlt, by go_num, hst9, hmd9, hqq9, hb9⟩
            case measure => simp [intOf]; omega
        | false =>
          have HZ := Lib.hid (show (false && decide (il = 0)) = false from rfl)
          -- DAG StrmActs16f
          refine wp_region_dag (E := Ext) (w0 := w6) (Φ := fun i v w => match i with | 0 => (v = .pointer (some ⟨ab, 0, none⟩)) | 1 => (v = .int .i64 il) | 2 => (v = .int .i64 il) | 3 => (v = .bool false) | 4 => (v = .bool false) | 5 => (v = .pointer (some ⟨ab, 0, none⟩)) | 6 => (v = .int .i64 rd) | 7 => (v = .pointer (some ⟨mb, 0, none⟩)) | 8 => (v = .pointer (some ⟨mb, 0, none⟩)) | 9 => (v = .pointer (some ⟨mb, 3, none⟩)) | 10 => (v = .int .i64 rd) | 11 => (v = .bool false) | 12 => (v = .bool false) | 13 => (v = .bool false) | 14 => (v = .pointer (some ⟨ab, 0, none⟩)) | 15 => (v = .bool false) | 16 => (v = .pointer (some ⟨mb, 0, none⟩)) | 17 => (v = .pointer (some ⟨mb, 0, none⟩)) | 18 => (v = .pointer (some ⟨mb, 4, none⟩)) | 19 => (v = .bool false) | 20 => (v = .bool false) | 21 => (v = .bool false) | 22 => (v = .bool false) | 23 => (v = .pointer (some ⟨ab, 0, none⟩)) | 24 => (v = .bool false) | 25 => (v = .pointer (some ⟨mb, 0, none⟩)) | 26 => (v = .pointer (some ⟨mb, 0, none⟩)) | 27 => (v = .pointer (some ⟨mb, 4, none⟩)) | 28 => (v = .bool false) | 29 => (v = .bool false) | 30 => (v = undef) | 31 => (v = undef) | 32 => (v = .bool false) | 33 => (v = .bool false) | 34 => (v = .bool false) | 35 => (v = .bool false) | 36 => (v = .pointer (some ⟨ab, 0, none⟩)) | 37 => (v = .int .i64 rm) | 38 => (v = .int .i64 Rb) | 39 => (v = .pointer (some ⟨mb, 0, none⟩)) | 40 => (v = .pointer (some ⟨mb, 0, none⟩)) | 41 => (v = .pointer (some ⟨mb, 5, none⟩)) | 42 => (v = .string ⟨T.toArray⟩) | 43 => (v = .int .i64 T.length) | 44 => (v = .pointer (some ⟨mb, 0, none⟩)) | 45 => (v = .pointer (some ⟨mb, 0, none⟩)) | 46 => (v = .pointer (some ⟨mb, 6, none⟩)) | 47 => (v = .int .i64 wl) | 48 => (v = .int .i64 ql) | 49 => (v = .int .i64 rm) | 50 => (v = .bool false) | 51 => (v = .bool false) | 52 => (v = .bool false) | 53 => (v = .pointer (some ⟨ab, 0, none⟩)) | 54 => (∃ A c, v = .slice A V.length c ∧ Rd w 1 A V.length (bytesV V)) | 55 => (v = .string ⟨V.toArray⟩) | 56 => (v = .pointer (some ⟨mb, 0, none⟩)) | 57 => (v = .pointer (some ⟨mb, 0, none⟩)) | 58 => (v = .pointer (some ⟨mb, 5, none⟩)) | 59 => (v = .string ⟨T.toArray⟩) | 60 => (v = .pointer (some ⟨mb, 0, none⟩)) | 61 => (v = .pointer (some ⟨mb, 0, none⟩)) | 62 => (v = .pointer (some ⟨mb, 6, none⟩)) | 63 => (v = .int .i64 wl) | 64 => (v = .string ⟨V.toArray⟩) | 65 => (v = .bool false) | 66 => (v = .bool false) | _ => True) (show Tryd.prog.follows .mixedOrders = true from Checked.mixed Tryd.checked) 131 rfl (by decide +kernel) ?_ ((Below.refl _ _).drew) ?_ ⟨?_, ?_, ?_, ?_, ?_, ?_, ?_, ?_, ?_, ?_, ?_, ?_, ?_, ?_, ?_, ?_, ?_, ?_, ?_, ?_, ?_, ?_, ?_, ?_, ?_, ?_, ?_, ?_, ?_, ?_, ?_, ?_, ?_, ?_, ?_, ?_, ?_, ?_, ?_, ?_, ?_, ?_, ?_, ?_, ?_, ?_, ?_, ?_, ?_, ?_, ?_, ?_, ?_, ?_, ?_, ?_, ?_, ?_, ?_, ?_, ?_, ?_, ?_, ?_, ?_, ?_, ?_, trivial⟩ ?_
          · intro i v w w' h hE
            match i, h with
            | 0, h => exact h
            | 1, h => exact h
            | 2, h => exact h
            | 3, h => exact h
            | 4, h => exact h
            | 5, h => exact h
            | 6, h => exact h
            | 7, h => exact h
            | 8, h => exact h
            | 9, h => exact h
            | 10, h => exact h
            | 11, h => exact h
            | 12, h => exact h
            | 13, h => exact h
            | 14, h => exact h
            | 15, h => exact h
            | 16, h => exact h
            | 17, h => exact h
            | 18, h => exact h
            | 19, h => exact h
            | 20, h => exact h
            | 21, h => exact h
            | 22, h => exact h
            | 23, h => exact h
            | 24, h => exact h
            | 25, h => exact h
            | 26, h => exact h
            | 27, h => exact h
            | 28, h => exact h
            | 29, h => exact h
            | 30, h => exact h
            | 31, h => exact h
            | 32, h => exact h
            | 33, h => exact h
            | 34, h => exact h
            | 35, h => exact h
            | 36, h => exact h
            | 37, h => exact h
            | 38, h => exact h
            | 39, h => exact h
            | 40, h => exact h
            | 41, h => exact h
            | 42, h => exact h
            | 43, h => exact h
            | 44, h => exact h
            | 45, h => exact h
            | 46, h => exact h
            | 47, h => exact h
            | 48, h => exact h
            | 49, h => exact h
            | 50, h => exact h
            | 51, h => exact h
            | 52, h => exact h
            | 53, h => exact h
            | 54, h => exact (by obtain ⟨A, c, h1, h2⟩ := h; exact ⟨A, c, h1, h2.keep hE⟩)
            | 55, h => exact h
            | 56, h => exact h
            | 57, h => exact h
            | 58, h => exact h
            | 59, h => exact h
            | 60, h => exact h
            | 61, h => exact h
            | 62, h => exact h
            | 63, h => exact h
            | 64, h => exact h
            | 65, h => exact h
            | 66, h => exact h
            | _ + 67, _ => trivial
          · exact fun w w' h h' => h.trans h'
          · -- 0: t63 := move t5 
            intro ac wx hE hsz hdf h
            have e5 : ac.tmps[5]? = some (.pointer (some ⟨ab, 0, none⟩)) := by obtain ⟨v, h1, h2⟩ := h 5 (by decide +kernel); exact h1.trans (h2.symm.trans rfl)
            clear h hsz hdf
            go_wp2
            exact ⟨_, rfl, rfl, Ext.refl _⟩
          · -- 1: t64 := call { value (Operand.func 32), args := #[t63], argTypes := #[44] } 
            intro ac wx hE hsz hdf h
            have e63 : ac.tmps[63]? = some (.pointer (some ⟨ab, 0, none⟩)) := by obtain ⟨v, h1, h2⟩ := h 63 (by decide +kernel); rw [h1]; exact congrArg some h2
            clear h hsz hdf
            go_wp2_with ((go_at_call 32; go_loud (refine (strmWaits (HS5.out.keep (hx6.trans hE))).mono ?_); rw [HIL.out]; rintro e w' ⟨rfl, rfl⟩))
            exact ⟨_, rfl, rfl, Ext.refl _⟩
          · -- 2: t65 := move t10 
            intro ac wx hE hsz hdf h
            have e10 : ac.tmps[10]? = some (.int .i64 il) := by obtain ⟨v, h1, h2⟩ := h 10 (by decide +kernel); exact h1.trans (h2.symm.trans rfl)
            clear h hsz hdf
            go_wp2
            exact ⟨_, rfl, rfl, Ext.refl _⟩
          · -- 3: t66 := binOp BinOp.neq 3 t64 t65 3 
            intro ac wx hE hsz hdf h
            have e64 : ac.tmps[64]? = some (.int .i64 il) := by obtain ⟨v, h1, h2⟩ := h 64 (by decide +kernel); rw [h1]; exact congrArg some h2
            have e65 : ac.tmps[65]? = some (.int .i64 il) := by obtain ⟨v, h1, h2⟩ := h 65 (by decide +kernel); rw [h1]; exact congrArg some h2
            clear h hsz hdf
            go_wp2
            exact ⟨_, rfl, by simp, Ext.refl _⟩
          · -- 4: t67 := move t66 
            intro ac wx hE hsz hdf h
            have e66 : ac.tmps[66]? = some (.bool false) := by obtain ⟨v, h1, h2⟩ := h 66 (by decide +kernel); rw [h1]; exact congrArg some h2
            clear h hsz hdf
            go_wp2
            exact ⟨_, rfl, rfl, Ext.refl _⟩
          · -- 5: t68 := move t5 (4, False)
            intro ac wx hE hsz hdf h
            have e5 : ac.tmps[5]? = some (.pointer (some ⟨ab, 0, none⟩)) := by obtain ⟨v, h1, h2⟩ := h 5 (by decide +kernel); exact h1.trans (h2.symm.trans rfl)
            have e67 : ac.tmps[67]? = some (.bool false) := by obtain ⟨v, h1, h2⟩ := h 67 (by decide +kernel); rw [h1]; exact congrArg some h2
            clear h hsz hdf
            go_wp2
            exact ⟨_, rfl, rfl, Ext.refl _⟩
          · -- 6: t69 := call { value (Operand.func 33), args := #[t68], argTypes := #[44] } (4, False)
            intro ac wx hE hsz hdf h
            have e68 : ac.tmps[68]? = some (.pointer (some ⟨ab, 0, none⟩)) := by obtain ⟨v, h1, h2⟩ := h 68 (by decide +kernel); rw [h1]; exact congrArg some h2
            have e67 : ac.tmps[67]? = some (.bool false) := by obtain ⟨v, h1, h2⟩ := h 67 (by decide +kernel); rw [h1]; exact congrArg some h2
            clear h hsz hdf
            go_wp2_with ((go_at_call 33; go_loud (refine (strmRead (HS5.out.keep (hx6.trans hE))).mono ?_); rw [HRD.out]; rintro e w' ⟨rfl, rfl⟩))
            exact ⟨_, rfl, rfl, Ext.refl _⟩
          · -- 7: t70 := move t7 (4, False)
            intro ac wx hE hsz hdf h
            have e7 : ac.tmps[7]? = some (.pointer (some ⟨mb, 0, none⟩)) := by obtain ⟨v, h1, h2⟩ := h 7 (by decide +kernel); exact h1.trans (h2.symm.trans rfl)
            have e67 : ac.tmps[67]? = some (.bool false) := by obtain ⟨v, h1, h2⟩ := h 67 (by decide +kernel); rw [h1]; exact congrArg some h2
            clear h hsz hdf
            go_wp2
            exact ⟨_, rfl, rfl, Ext.refl _⟩
          · -- 8: t71 := nilCheck t70 (4, False)
            intro ac wx hE hsz hdf h
            have e70 : ac.tmps[70]? = some (.pointer (some ⟨mb, 0, none⟩)) := by obtain ⟨v, h1, h2⟩ := h 70 (by decide +kernel); rw [h1]; exact congrArg some h2
            have e67 : ac.tmps[67]? = some (.bool false) := by obtain ⟨v, h1, h2⟩ := h 67 (by decide +kernel); rw [h1]; exact congrArg some h2
            clear h hsz hdf
            go_wp2
            exact ⟨_, rfl, rfl, Ext.refl _⟩
          · -- 9: t72 := fieldAddr 63 t71 3 (4, False)
            intro ac wx hE hsz hdf h
            have e71 : ac.tmps[71]? = some (.pointer (some ⟨mb, 0, none⟩)) := by obtain ⟨v, h1, h2⟩ := h 71 (by decide +kernel); rw [h1]; exact congrArg some h2
            have e67 : ac.tmps[67]? = some (.bool false) := by obtain ⟨v, h1, h2⟩ := h 67 (by decide +kernel); rw [h1]; exact congrArg some h2
            clear h hsz hdf
            go_wp2
            exact ⟨_, rfl, rfl, Ext.refl _⟩
          · -- 10: t73 := load 3 t72 (4, False)
            intro ac wx hE hsz hdf h
            have e72 : ac.tmps[72]? = some (.pointer (some ⟨mb, 3, none⟩)) := by obtain ⟨v, h1, h2⟩ := h 72 (by decide +kernel); rw [h1]; exact congrArg some h2
            have e67 : ac.tmps[67]? = some (.bool false) := by obtain ⟨v, h1, h2⟩ := h 67 (by decide +kernel); rw [h1]; exact congrArg some h2
            clear h hsz hdf
            have d3 : wx.cell? ⟨mb, 3, none⟩ = some (.int .i64 rd) := HD3.out wx (hx6.trans hE)
            go_wp2
            exact ⟨_, rfl, rfl, Ext.refl _⟩
          · -- 11: t74 := binOp BinOp.neq 3 t69 t73 3 (4, False)
            intro ac wx hE hsz hdf h
            have e69 : ac.tmps[69]? = some (.int .i64 rd) := by obtain ⟨v, h1, h2⟩ := h 69 (by decide +kernel); rw [h1]; exact congrArg some h2
            have e73 : ac.tmps[73]? = some (.int .i64 rd) := by obtain ⟨v, h1, h2⟩ := h 73 (by decide +kernel); rw [h1]; exact congrArg some h2
            have e67 : ac.tmps[67]? = some (.bool false) := by obtain ⟨v, h1, h2⟩ := h 67 (by decide +kernel); rw [h1]; exact congrArg some h2
            clear h hsz hdf
            go_wp2
            exact ⟨_, rfl, by simp, Ext.refl _⟩
          · -- 12: t75 := pick t67 (const (Value.bool true)) t74 
            intro ac wx hE hsz hdf h
            have e67 : ac.tmps[67]? = some (.bool false) := by obtain ⟨v, h1, h2⟩ := h 67 (by decide +kernel); rw [h1]; exact congrArg some h2
            have e74 : ac.tmps[74]? = some (.bool false) := by obtain ⟨v, h1, h2⟩ := h 74 (by decide +kernel); rw [h1]; exact congrArg some h2
            clear h hsz hdf
            go_wp2
            exact ⟨_, rfl, rfl, Ext.refl _⟩
          · -- 13: t76 := move t75 
            intro ac wx hE hsz hdf h
            have e75 : ac.tmps[75]? = some (.bool false) := by obtain ⟨v, h1, h2⟩ := h 75 (by decide +kernel); rw [h1]; exact congrArg some h2
            clear h hsz hdf
            go_wp2
            exact ⟨_, rfl, rfl, Ext.refl _⟩
          · -- 14: t77 := move t5 (13, False)
            intro ac wx hE hsz hdf h
            have e5 : ac.tmps[5]? = some (.pointer (some ⟨ab, 0, none⟩)) := by obtain ⟨v, h1, h2⟩ := h 5 (by decide +kernel); exact h1.trans (h2.symm.trans rfl)
            have e76 : ac.tmps[76]? = some (.bool false) := by obtain ⟨v, h1, h2⟩ := h 76 (by decide +kernel); rw [h1]; exact congrArg some h2
            clear h hsz hdf
            go_wp2
            exact ⟨_, rfl, rfl, Ext.refl _⟩
          · -- 15: t78 := call { value (Operand.func 34), args := #[t77], argTypes := #[44] } (13, False)
            intro ac wx hE hsz hdf h
            have e77 : ac.tmps[77]? = some (.pointer (some ⟨ab, 0, none⟩)) := by obtain ⟨v, h1, h2⟩ := h 77 (by decide +kernel); rw [h1]; exact congrArg some h2
            have e76 : ac.tmps[76]? = some (.bool false) := by obtain ⟨v, h1, h2⟩ := h 76 (by decide +kernel); rw [h1]; exact congrArg some h2
            clear h hsz hdf
            go_wp2_with ((go_at_call 34; go_loud (refine (strmClosed (HS5.out.keep (hx6.trans hE))).mono ?_); rw [HCL.out]; rintro e w' ⟨rfl, rfl⟩))
            exact ⟨_, rfl, rfl, Ext.refl _⟩
          · -- 16: t79 := move t7 (13, False)
            intro ac wx hE hsz hdf h
            have e7 : ac.tmps[7]? = some (.pointer (some ⟨mb, 0, none⟩)) := by obtain ⟨v, h1, h2⟩ := h 7 (by decide +kernel); exact h1.trans (h2.symm.trans rfl)
            have e76 : ac.tmps[76]? = some (.bool false) := by obtain ⟨v, h1, h2⟩ := h 76 (by decide +kernel); rw [h1]; exact congrArg some h2
            clear h hsz hdf
            go_wp2
            exact ⟨_, rfl, rfl, Ext.refl _⟩
          · -- 17: t80 := nilCheck t79 (13, False)
            intro ac wx hE hsz hdf h
            have e79 : ac.tmps[79]? = some (.pointer (some ⟨mb, 0, none⟩)) := by obtain ⟨v, h1, h2⟩ := h 79 (by decide +kernel); rw [h1]; exact congrArg some h2
            have e76 : ac.tmps[76]? = some (.bool false) := by obtain ⟨v, h1, h2⟩ := h 76 (by decide +kernel); rw [h1]; exact congrArg some h2
            clear h hsz hdf
            go_wp2
            exact ⟨_, rfl, rfl, Ext.refl _⟩
          · -- 18: t81 := fieldAddr 63 t80 4 (13, False)
            intro ac wx hE hsz hdf h
            have e80 : ac.tmps[80]? = some (.pointer (some ⟨mb, 0, none⟩)) := by obtain ⟨v, h1, h2⟩ := h 80 (by decide +kernel); rw [h1]; exact congrArg some h2
            have e76 : ac.tmps[76]? = some (.bool false) := by obtain ⟨v, h1, h2⟩ := h 76 (by decide +kernel); rw [h1]; exact congrArg some h2
            clear h hsz hdf
            go_wp2
            exact ⟨_, rfl, rfl, Ext.refl _⟩
          · -- 19: t82 := load 4 t81 (13, False)
            intro ac wx hE hsz hdf h
            have e81 : ac.tmps[81]? = some (.pointer (some ⟨mb, 4, none⟩)) := by obtain ⟨v, h1, h2⟩ := h 81 (by decide +kernel); rw [h1]; exact congrArg some h2
            have e76 : ac.tmps[76]? = some (.bool false) := by obtain ⟨v, h1, h2⟩ := h 76 (by decide +kernel); rw [h1]; exact congrArg some h2
            clear h hsz hdf
            have d4 : wx.cell? ⟨mb, 4, none⟩ = some (.bool false) := HD4.out wx (hx6.trans hE)
            go_wp2
            exact ⟨_, rfl, rfl, Ext.refl _⟩
          · -- 20: t83 := binOp BinOp.neq 4 t78 t82 4 (13, False)
            intro ac wx hE hsz hdf h
            have e78 : ac.tmps[78]? = some (.bool false) := by obtain ⟨v, h1, h2⟩ := h 78 (by decide +kernel); rw [h1]; exact congrArg some h2
            have e82 : ac.tmps[82]? = some (.bool false) := by obtain ⟨v, h1, h2⟩ := h 82 (by decide +kernel); rw [h1]; exact congrArg some h2
            have e76 : ac.tmps[76]? = some (.bool false) := by obtain ⟨v, h1, h2⟩ := h 76 (by decide +kernel); rw [h1]; exact congrArg some h2
            clear h hsz hdf
            go_wp2
            exact ⟨_, rfl, by simp, Ext.refl _⟩
          · -- 21: t84 := pick t76 (const (Value.bool true)) t83 
            intro ac wx hE hsz hdf h
            have e76 : ac.tmps[76]? = some (.bool false) := by obtain ⟨v, h1, h2⟩ := h 76 (by decide +kernel); rw [h1]; exact congrArg some h2
            have e83 : ac.tmps[83]? = some (.bool false) := by obtain ⟨v, h1, h2⟩ := h 83 (by decide +kernel); rw [h1]; exact congrArg some h2
            clear h hsz hdf
            go_wp2
            exact ⟨_, rfl, rfl, Ext.refl _⟩
          · -- 22: t85 := move t84 
            intro ac wx hE hsz hdf h
            have e84 : ac.tmps[84]? = some (.bool false) := by obtain ⟨v, h1, h2⟩ := h 84 (by decide +kernel); rw [h1]; exact congrArg some h2
            clear h hsz hdf
            go_wp2
            exact ⟨_, rfl, rfl, Ext.refl _⟩
          · -- 23: t86 := move t5 (22, False)
            intro ac wx hE hsz hdf h
            have e5 : ac.tmps[5]? = some (.pointer (some ⟨ab, 0, none⟩)) := by obtain ⟨v, h1, h2⟩ := h 5 (by decide +kernel); exact h1.trans (h2.symm.trans rfl)
            have e85 : ac.tmps[85]? = some (.bool false) := by obtain ⟨v, h1, h2⟩ := h 85 (by decide +kernel); rw [h1]; exact congrArg some h2
            clear h hsz hdf
            go_wp2
            exact ⟨_, rfl, rfl, Ext.refl _⟩
          · -- 24: t87 := call { value (Operand.func 35), args := #[t86], argTypes := #[44] } (22, False)
            intro ac wx hE hsz hdf h
            have e86 : ac.tmps[86]? = some (.pointer (some ⟨ab, 0, none⟩)) := by obtain ⟨v, h1, h2⟩ := h 86 (by decide +kernel); rw [h1]; exact congrArg some h2
            have e85 : ac.tmps[85]? = some (.bool false) := by obtain ⟨v, h1, h2⟩ := h 85 (by decide +kernel); rw [h1]; exact congrArg some h2
            clear h hsz hdf
            go_wp2_with ((go_at_call 35; go_loud (refine (strmEnded (HS5.out.keep (hx6.trans hE))).mono ?_); rw [HCL.out, HIL.out, HZ.out]; rintro e w' ⟨rfl, rfl⟩))
            exact ⟨_, rfl, by simp, Ext.refl _⟩
          · -- 25: t88 := move t7 (22, False)
            intro ac wx hE hsz hdf h
            have e7 : ac.tmps[7]? = some (.pointer (some ⟨mb, 0, none⟩)) := by obtain ⟨v, h1, h2⟩ := h 7 (by decide +kernel); exact h1.trans (h2.symm.trans rfl)
            have e85 : ac.tmps[85]? = some (.bool false) := by obtain ⟨v, h1, h2⟩ := h 85 (by decide +kernel); rw [h1]; exact congrArg some h2
            clear h hsz hdf
            go_wp2
            exact ⟨_, rfl, rfl, Ext.refl _⟩
          · -- 26: t89 := nilCheck t88 (22, False)
            intro ac wx hE hsz hdf h
            have e88 : ac.tmps[88]? = some (.pointer (some ⟨mb, 0, none⟩)) := by obtain ⟨v, h1, h2⟩ := h 88 (by decide +kernel); rw [h1]; exact congrArg some h2
            have e85 : ac.tmps[85]? = some (.bool false) := by obtain ⟨v, h1, h2⟩ := h 85 (by decide +kernel); rw [h1]; exact congrArg some h2
            clear h hsz hdf
            go_wp2
            exact ⟨_, rfl, rfl, Ext.refl _⟩
          · -- 27: t90 := fieldAddr 63 t89 4 (22, False)
            intro ac wx hE hsz hdf h
            have e89 : ac.tmps[89]? = some (.pointer (some ⟨mb, 0, none⟩)) := by obtain ⟨v, h1, h2⟩ := h 89 (by decide +kernel); rw [h1]; exact congrArg some h2
            have e85 : ac.tmps[85]? = some (.bool false) := by obtain ⟨v, h1, h2⟩ := h 85 (by decide +kernel); rw [h1]; exact congrArg some h2
            clear h hsz hdf
            go_wp2
            exact ⟨_, rfl, rfl, Ext.refl _⟩
          · -- 28: t91 := load 4 t90 (22, False)
            intro ac wx hE hsz hdf h
            have e90 : ac.tmps[90]? = some (.pointer (some ⟨mb, 4, none⟩)) := by obtain ⟨v, h1, h2⟩ := h 90 (by decide +kernel); rw [h1]; exact congrArg some h2
            have e85 : ac.tmps[85]? = some (.bool false) := by obtain ⟨v, h1, h2⟩ := h 85 (by decide +kernel); rw [h1]; exact congrArg some h2
            clear h hsz hdf
            have d4 : wx.cell? ⟨mb, 4, none⟩ = some (.bool false) := HD4.out wx (hx6.trans hE)
            go_wp2
            exact ⟨_, rfl, rfl, Ext.refl _⟩
          · -- 29: t92 := move t91 (22, False)
            intro ac wx hE hsz hdf h
            have e91 : ac.tmps[91]? = some (.bool false) := by obtain ⟨v, h1, h2⟩ := h 91 (by decide +kernel); rw [h1]; exact congrArg some h2
            have e85 : ac.tmps[85]? = some (.bool false) := by obtain ⟨v, h1, h2⟩ := h 85 (by decide +kernel); rw [h1]; exact congrArg some h2
            clear h hsz hdf
            go_wp2
            exact ⟨_, rfl, rfl, Ext.refl _⟩
          · -- 30: t93 := move t10 (29, True)
            intro ac wx hE hsz hdf h
            have e92 : ac.tmps[92]? = some (.bool false) := by obtain ⟨v, h1, h2⟩ := h 92 (by decide +kernel); rw [h1]; exact congrArg some h2
            clear h hsz hdf
            go_wp2
            exact ⟨_, rfl, rfl, Ext.refl _⟩
          · -- 31: t94 := binOp BinOp.eql 3 t93 (const (0:i64)) 3 (29, True)
            intro ac wx hE hsz hdf h
            have e92 : ac.tmps[92]? = some (.bool false) := by obtain ⟨v, h1, h2⟩ := h 92 (by decide +kernel); rw [h1]; exact congrArg some h2
            clear h hsz hdf
            go_wp2
            exact ⟨_, rfl, rfl, Ext.refl _⟩
          · -- 32: t95 := pick t92 t94 (const (Value.bool false)) (22, False)
            intro ac wx hE hsz hdf h
            have e92 : ac.tmps[92]? = some (.bool false) := by obtain ⟨v, h1, h2⟩ := h 92 (by decide +kernel); rw [h1]; exact congrArg some h2
            have e94 : ac.tmps[94]? = some (undef) := by obtain ⟨v, h1, h2⟩ := h 94 (by decide +kernel); rw [h1]; exact congrArg some h2
            have e85 : ac.tmps[85]? = some (.bool false) := by obtain ⟨v, h1, h2⟩ := h 85 (by decide +kernel); rw [h1]; exact congrArg some h2
            clear h hsz hdf
            go_wp2
            exact ⟨_, rfl, rfl, Ext.refl _⟩
          · -- 33: t96 := binOp BinOp.neq 4 t87 t95 4 (22, False)
            intro ac wx hE hsz hdf h
            have e87 : ac.tmps[87]? = some (.bool false) := by obtain ⟨v, h1, h2⟩ := h 87 (by decide +kernel); rw [h1]; exact congrArg some h2
            have e95 : ac.tmps[95]? = some (.bool false) := by obtain ⟨v, h1, h2⟩ := h 95 (by decide +kernel); rw [h1]; exact congrArg some h2
            have e85 : ac.tmps[85]? = some (.bool false) := by obtain ⟨v, h1, h2⟩ := h 85 (by decide +kernel); rw [h1]; exact congrArg some h2
            clear h hsz hdf
            go_wp2
            exact ⟨_, rfl, by simp, Ext.refl _⟩
          · -- 34: t97 := pick t85 (const (Value.bool true)) t96 
            intro ac wx hE hsz hdf h
            have e85 : ac.tmps[85]? = some (.bool false) := by obtain ⟨v, h1, h2⟩ := h 85 (by decide +kernel); rw [h1]; exact congrArg some h2
            have e96 : ac.tmps[96]? = some (.bool false) := by obtain ⟨v, h1, h2⟩ := h 96 (by decide +kernel); rw [h1]; exact congrArg some h2
            clear h hsz hdf
            go_wp2
            exact ⟨_, rfl, rfl, Ext.refl _⟩
          · -- 35: t98 := move t97 
            intro ac wx hE hsz hdf h
            have e97 : ac.tmps[97]? = some (.bool false) := by obtain ⟨v, h1, h2⟩ := h 97 (by decide +kernel); rw [h1]; exact congrArg some h2
            clear h hsz hdf
            go_wp2
            exact ⟨_, rfl, rfl, Ext.refl _⟩
          · -- 36: t99 := move t5 (35, False)
            intro ac wx hE hsz hdf h
            have e5 : ac.tmps[5]? = some (.pointer (some ⟨ab, 0, none⟩)) := by obtain ⟨v, h1, h2⟩ := h 5 (by decide +kernel); exact h1.trans (h2.symm.trans rfl)
            have e98 : ac.tmps[98]? = some (.bool false) := by obtain ⟨v, h1, h2⟩ := h 98 (by decide +kernel); rw [h1]; exact congrArg some h2
            clear h hsz hdf
            go_wp2
            exact ⟨_, rfl, rfl, Ext.refl _⟩
          · -- 37: t100 := call { value (Operand.func 29), args := #[t99], argTypes := #[44] } (35, False)
            intro ac wx hE hsz hdf h
            have e99 : ac.tmps[99]? = some (.pointer (some ⟨ab, 0, none⟩)) := by obtain ⟨v, h1, h2⟩ := h 99 (by decide +kernel); rw [h1]; exact congrArg some h2
            have e98 : ac.tmps[98]? = some (.bool false) := by obtain ⟨v, h1, h2⟩ := h 98 (by decide +kernel); rw [h1]; exact congrArg some h2
            clear h hsz hdf
            go_wp2_with ((go_at_call 29; go_loud (refine (strmRoom (HS5.out.keep (hx6.trans hE))).mono ?_); rw [HRM.out]; rintro e w' ⟨rfl, k', rfl⟩))
            exact ⟨_, rfl, rfl, Ext.drawn _ _⟩
          · -- 38: t101 := move t0 (35, False)
            intro ac wx hE hsz hdf h
            have e0 : ac.tmps[0]? = some (.int .i64 Rb) := by obtain ⟨v, h1, h2⟩ := h 0 (by decide +kernel); exact h1.trans (h2.symm.trans rfl)
            have e98 : ac.tmps[98]? = some (.bool false) := by obtain ⟨v, h1, h2⟩ := h 98 (by decide +kernel); rw [h1]; exact congrArg some h2
            clear h hsz hdf
            go_wp2
            exact ⟨_, rfl, rfl, Ext.refl _⟩
          · -- 39: t102 := move t7 (35, False)
            intro ac wx hE hsz hdf h
            have e7 : ac.tmps[7]? = some (.pointer (some ⟨mb, 0, none⟩)) := by obtain ⟨v, h1, h2⟩ := h 7 (by decide +kernel); exact h1.trans (h2.symm.trans rfl)
            have e98 : ac.tmps[98]? = some (.bool false) := by obtain ⟨v, h1, h2⟩ := h 98 (by decide +kernel); rw [h1]; exact congrArg some h2
            clear h hsz hdf
            go_wp2
            exact ⟨_, rfl, rfl, Ext.refl _⟩
          · -- 40: t103 := nilCheck t102 (35, False)
            intro ac wx hE hsz hdf h
            have e102 : ac.tmps[102]? = some (.pointer (some ⟨mb, 0, none⟩)) := by obtain ⟨v, h1, h2⟩ := h 102 (by decide +kernel); rw [h1]; exact congrArg some h2
            have e98 : ac.tmps[98]? = some (.bool false) := by obtain ⟨v, h1, h2⟩ := h 98 (by decide +kernel); rw [h1]; exact congrArg some h2
            clear h hsz hdf
            go_wp2
            exact ⟨_, rfl, rfl, Ext.refl _⟩
          · -- 41: t104 := fieldAddr 63 t103 5 (35, False)
            intro ac wx hE hsz hdf h
            have e103 : ac.tmps[103]? = some (.pointer (some ⟨mb, 0, none⟩)) := by obtain ⟨v, h1, h2⟩ := h 103 (by decide +kernel); rw [h1]; exact congrArg some h2
            have e98 : ac.tmps[98]? = some (.bool false) := by obtain ⟨v, h1, h2⟩ := h 98 (by decide +kernel); rw [h1]; exact congrArg some h2
            clear h hsz hdf
            go_wp2
            exact ⟨_, rfl, rfl, Ext.refl _⟩
          · -- 42: t105 := load 9 t104 (35, False)
            intro ac wx hE hsz hdf h
            have e104 : ac.tmps[104]? = some (.pointer (some ⟨mb, 5, none⟩)) := by obtain ⟨v, h1, h2⟩ := h 104 (by decide +kernel); rw [h1]; exact congrArg some h2
            have e98 : ac.tmps[98]? = some (.bool false) := by obtain ⟨v, h1, h2⟩ := h 98 (by decide +kernel); rw [h1]; exact congrArg some h2
            clear h hsz hdf
            have d5 : wx.cell? ⟨mb, 5, none⟩ = some (.string ⟨T.toArray⟩) := HD5.out wx (hx6.trans hE)
            go_wp2
            exact ⟨_, rfl, rfl, Ext.refl _⟩
          · -- 43: t106 := call { builtin len, args := #[t105], argTypes := #[9] } (35, False)
            intro ac wx hE hsz hdf h
            have e105 : ac.tmps[105]? = some (.string ⟨T.toArray⟩) := by obtain ⟨v, h1, h2⟩ := h 105 (by decide +kernel); rw [h1]; exact congrArg some h2
            have e98 : ac.tmps[98]? = some (.bool false) := by obtain ⟨v, h1, h2⟩ := h 98 (by decide +kernel); rw [h1]; exact congrArg some h2
            clear h hsz hdf
            go_wp2
            exact ⟨_, rfl, rfl, Ext.refl _⟩
          · -- 44: t107 := move t7 (35, False)
            intro ac wx hE hsz hdf h
            have e7 : ac.tmps[7]? = some (.pointer (some ⟨mb, 0, none⟩)) := by obtain ⟨v, h1, h2⟩ := h 7 (by decide +kernel); exact h1.trans (h2.symm.trans rfl)
            have e98 : ac.tmps[98]? = some (.bool false) := by obtain ⟨v, h1, h2⟩ := h 98 (by decide +kernel); rw [h1]; exact congrArg some h2
            clear h hsz hdf
            go_wp2
            exact ⟨_, rfl, rfl, Ext.refl _⟩
          · -- 45: t108 := nilCheck t107 (35, False)
            intro ac wx hE hsz hdf h
            have e107 : ac.tmps[107]? = some (.pointer (some ⟨mb, 0, none⟩)) := by obtain ⟨v, h1, h2⟩ := h 107 (by decide +kernel); rw [h1]; exact congrArg some h2
            have e98 : ac.tmps[98]? = some (.bool false) := by obtain ⟨v, h1, h2⟩ := h 98 (by decide +kernel); rw [h1]; exact congrArg some h2
            clear h hsz hdf
            go_wp2
            exact ⟨_, rfl, rfl, Ext.refl _⟩
          · -- 46: t109 := fieldAddr 63 t108 6 (35, False)
            intro ac wx hE hsz hdf h
            have e108 : ac.tmps[108]? = some (.pointer (some ⟨mb, 0, none⟩)) := by obtain ⟨v, h1, h2⟩ := h 108 (by decide +kernel); rw [h1]; exact congrArg some h2
            have e98 : ac.tmps[98]? = some (.bool false) := by obtain ⟨v, h1, h2⟩ := h 98 (by decide +kernel); rw [h1]; exact congrArg some h2
            clear h hsz hdf
            go_wp2
            exact ⟨_, rfl, rfl, Ext.refl _⟩
          · -- 47: t110 := load 3 t109 (35, False)
            intro ac wx hE hsz hdf h
            have e109 : ac.tmps[109]? = some (.pointer (some ⟨mb, 6, none⟩)) := by obtain ⟨v, h1, h2⟩ := h 109 (by decide +kernel); rw [h1]; exact congrArg some h2
            have e98 : ac.tmps[98]? = some (.bool false) := by obtain ⟨v, h1, h2⟩ := h 98 (by decide +kernel); rw [h1]; exact congrArg some h2
            clear h hsz hdf
            have d6 : wx.cell? ⟨mb, 6, none⟩ = some (.int .i64 wl) := HD6.out wx (hx6.trans hE)
            go_wp2
            exact ⟨_, rfl, rfl, Ext.refl _⟩
          · -- 48: t111 := binOp BinOp.sub 3 t106 t110 3 (35, False)
            intro ac wx hE hsz hdf h
            have e106 : ac.tmps[106]? = some (.int .i64 T.length) := by obtain ⟨v, h1, h2⟩ := h 106 (by decide +kernel); rw [h1]; exact congrArg some h2
            have e110 : ac.tmps[110]? = some (.int .i64 wl) := by obtain ⟨v, h1, h2⟩ := h 110 (by decide +kernel); rw [h1]; exact congrArg some h2
            have e98 : ac.tmps[98]? = some (.bool false) := by obtain ⟨v, h1, h2⟩ := h 98 (by decide +kernel); rw [h1]; exact congrArg some h2
            clear h hsz hdf
            go_wp2
            exact ⟨_, rfl, by rw [HTL.out], Ext.refl _⟩
          · -- 49: t112 := binOp BinOp.sub 3 t101 t111 3 (35, False)
            intro ac wx hE hsz hdf h
            have e101 : ac.tmps[101]? = some (.int .i64 Rb) := by obtain ⟨v, h1, h2⟩ := h 101 (by decide +kernel); rw [h1]; exact congrArg some h2
            have e111 : ac.tmps[111]? = some (.int .i64 ql) := by obtain ⟨v, h1, h2⟩ := h 111 (by decide +kernel); rw [h1]; exact congrArg some h2
            have e98 : ac.tmps[98]? = some (.bool false) := by obtain ⟨v, h1, h2⟩ := h 98 (by decide +kernel); rw [h1]; exact congrArg some h2
            clear h hsz hdf
            go_wp2
            exact ⟨_, rfl, by rw [HRQ.out], Ext.refl _⟩
          · -- 50: t113 := binOp BinOp.neq 3 t100 t112 3 (35, False)
            intro ac wx hE hsz hdf h
            have e100 : ac.tmps[100]? = some (.int .i64 rm) := by obtain ⟨v, h1, h2⟩ := h 100 (by decide +kernel); rw [h1]; exact congrArg some h2
            have e112 : ac.tmps[112]? = some (.int .i64 rm) := by obtain ⟨v, h1, h2⟩ := h 112 (by decide +kernel); rw [h1]; exact congrArg some h2
            have e98 : ac.tmps[98]? = some (.bool false) := by obtain ⟨v, h1, h2⟩ := h 98 (by decide +kernel); rw [h1]; exact congrArg some h2
            clear h hsz hdf
            go_wp2
            exact ⟨_, rfl, by simp, Ext.refl _⟩
          · -- 51: t114 := pick t98 (const (Value.bool true)) t113 
            intro ac wx hE hsz hdf h
            have e98 : ac.tmps[98]? = some (.bool false) := by obtain ⟨v, h1, h2⟩ := h 98 (by decide +kernel); rw [h1]; exact congrArg some h2
            have e113 : ac.tmps[113]? = some (.bool false) := by obtain ⟨v, h1, h2⟩ := h 113 (by decide +kernel); rw [h1]; exact congrArg some h2
            clear h hsz hdf
            go_wp2
            exact ⟨_, rfl, rfl, Ext.refl _⟩
          · -- 52: t115 := move t114 
            intro ac wx hE hsz hdf h
            have e114 : ac.tmps[114]? = some (.bool false) := by obtain ⟨v, h1, h2⟩ := h 114 (by decide +kernel); rw [h1]; exact congrArg some h2
            clear h hsz hdf
            go_wp2
            exact ⟨_, rfl, rfl, Ext.refl _⟩
          · -- 53: t116 := move t5 (52, False)
            intro ac wx hE hsz hdf h
            have e5 : ac.tmps[5]? = some (.pointer (some ⟨ab, 0, none⟩)) := by obtain ⟨v, h1, h2⟩ := h 5 (by decide +kernel); exact h1.trans (h2.symm.trans rfl)
            have e115 : ac.tmps[115]? = some (.bool false) := by obtain ⟨v, h1, h2⟩ := h 115 (by decide +kernel); rw [h1]; exact congrArg some h2
            clear h hsz hdf
            go_wp2
            exact ⟨_, rfl, rfl, Ext.refl _⟩
          · -- 54: t117 := call { value (Operand.func 28), args := #[t116], argTypes := #[44] } (52, False)
            intro ac wx hE hsz hdf h
            have e116 : ac.tmps[116]? = some (.pointer (some ⟨ab, 0, none⟩)) := by obtain ⟨v, h1, h2⟩ := h 116 (by decide +kernel); rw [h1]; exact congrArg some h2
            have e115 : ac.tmps[115]? = some (.bool false) := by obtain ⟨v, h1, h2⟩ := h 115 (by decide +kernel); rw [h1]; exact congrArg some h2
            clear h hsz hdf
            go_wp2_with ((go_at_call 28; go_loud (refine (strmWire (HS5.out.keep (hx6.trans hE))).mono ?_); rw [HV.out]; rintro e w' ⟨v9, rfl, ho9, hb9⟩; obtain ⟨A9, c9, rfl, -, -, hrd9⟩ := own_rd ho9))
            exact ⟨_, rfl, ⟨A9, c9, rfl, hrd9⟩, hb9⟩
          · -- 55: t118 := convert 42 9 t117 (52, False)
            intro ac wx hE hsz hdf h
            obtain ⟨v117, e117, s117⟩ : ∃ v, ac.tmps[117]? = some v ∧ (∃ A c, v = .slice A V.length c ∧ Rd wx 1 A V.length (bytesV V)) := h 117 (by decide +kernel)
            have e115 : ac.tmps[115]? = some (.bool false) := by obtain ⟨v, h1, h2⟩ := h 115 (by decide +kernel); rw [h1]; exact congrArg some h2
            clear h hsz hdf
            obtain ⟨A8, c8, rfl, hrd8⟩ := s117; have hcv := conv_str (P := Tryd.prog) (c := c8) Tryd.underlying42 Tryd.underlying5 Tryd.underlying9 hrd8
            go_wp2
            exact ⟨_, rfl, rfl, Ext.refl _⟩
          · -- 56: t119 := move t7 (52, False)
            intro ac wx hE hsz hdf h
            have e7 : ac.tmps[7]? = some (.pointer (some ⟨mb, 0, none⟩)) := by obtain ⟨v, h1, h2⟩ := h 7 (by decide +kernel); exact h1.trans (h2.symm.trans rfl)
            have e115 : ac.tmps[115]? = some (.bool false) := by obtain ⟨v, h1, h2⟩ := h 115 (by decide +kernel); rw [h1]; exact congrArg some h2
            clear h hsz hdf
            go_wp2
            exact ⟨_, rfl, rfl, Ext.refl _⟩
          · -- 57: t120 := nilCheck t119 (52, False)
            intro ac wx hE hsz hdf h
            have e119 : ac.tmps[119]? = some (.pointer (some ⟨mb, 0, none⟩)) := by obtain ⟨v, h1, h2⟩ := h 119 (by decide +kernel); rw [h1]; exact congrArg some h2
            have e115 : ac.tmps[115]? = some (.bool false) := by obtain ⟨v, h1, h2⟩ := h 115 (by decide +kernel); rw [h1]; exact congrArg some h2
            clear h hsz hdf
            go_wp2
            exact ⟨_, rfl, rfl, Ext.refl _⟩
          · -- 58: t121 := fieldAddr 63 t120 5 (52, False)
            intro ac wx hE hsz hdf h
            have e120 : ac.tmps[120]? = some (.pointer (some ⟨mb, 0, none⟩)) := by obtain ⟨v, h1, h2⟩ := h 120 (by decide +kernel); rw [h1]; exact congrArg some h2
            have e115 : ac.tmps[115]? = some (.bool false) := by obtain ⟨v, h1, h2⟩ := h 115 (by decide +kernel); rw [h1]; exact congrArg some h2
            clear h hsz hdf
            go_wp2
            exact ⟨_, rfl, rfl, Ext.refl _⟩
          · -- 59: t122 := load 9 t121 (52, False)
            intro ac wx hE hsz hdf h
            have e121 : ac.tmps[121]? = some (.pointer (some ⟨mb, 5, none⟩)) := by obtain ⟨v, h1, h2⟩ := h 121 (by decide +kernel); rw [h1]; exact congrArg some h2
            have e115 : ac.tmps[115]? = some (.bool false) := by obtain ⟨v, h1, h2⟩ := h 115 (by decide +kernel); rw [h1]; exact congrArg some h2
            clear h hsz hdf
            have d5 : wx.cell? ⟨mb, 5, none⟩ = some (.string ⟨T.toArray⟩) := HD5.out wx (hx6.trans hE)
            go_wp2
            exact ⟨_, rfl, rfl, Ext.refl _⟩
          · -- 60: t123 := move t7 (52, False)
            intro ac wx hE hsz hdf h
            have e7 : ac.tmps[7]? = some (.pointer (some ⟨mb, 0, none⟩)) := by obtain ⟨v, h1, h2⟩ := h 7 (by decide +kernel); exact h1.trans (h2.symm.trans rfl)
            have e115 : ac.tmps[115]? = some (.bool false) := by obtain ⟨v, h1, h2⟩ := h 115 (by decide +kernel); rw [h1]; exact congrArg some h2
            clear h hsz hdf
            go_wp2
            exact ⟨_, rfl, rfl, Ext.refl _⟩
          · -- 61: t124 := nilCheck t123 (52, False)
            intro ac wx hE hsz hdf h
            have e123 : ac.tmps[123]? = some (.pointer (some ⟨mb, 0, none⟩)) := by obtain ⟨v, h1, h2⟩ := h 123 (by decide +kernel); rw [h1]; exact congrArg some h2
            have e115 : ac.tmps[115]? = some (.bool false) := by obtain ⟨v, h1, h2⟩ := h 115 (by decide +kernel); rw [h1]; exact congrArg some h2
            clear h hsz hdf
            go_wp2
            exact ⟨_, rfl, rfl, Ext.refl _⟩
          · -- 62: t125 := fieldAddr 63 t124 6 (52, False)
            intro ac wx hE hsz hdf h
            have e124 : ac.tmps[124]? = some (.pointer (some ⟨mb, 0, none⟩)) := by obtain ⟨v, h1, h2⟩ := h 124 (by decide +kernel); rw [h1]; exact congrArg some h2
            have e115 : ac.tmps[115]? = some (.bool false) := by obtain ⟨v, h1, h2⟩ := h 115 (by decide +kernel); rw [h1]; exact congrArg some h2
            clear h hsz hdf
            go_wp2
            exact ⟨_, rfl, rfl, Ext.refl _⟩
          · -- 63: t126 := load 3 t125 (52, False)
            intro ac wx hE hsz hdf h
            have e125 : ac.tmps[125]? = some (.pointer (some ⟨mb, 6, none⟩)) := by obtain ⟨v, h1, h2⟩ := h 125 (by decide +kernel); rw [h1]; exact congrArg some h2
            have e115 : ac.tmps[115]? = some (.bool false) := by obtain ⟨v, h1, h2⟩ := h 115 (by decide +kernel); rw [h1]; exact congrArg some h2
            clear h hsz hdf
            have d6 : wx.cell? ⟨mb, 6, none⟩ = some (.int .i64 wl) := HD6.out wx (hx6.trans hE)
            go_wp2
            exact ⟨_, rfl, rfl, Ext.refl _⟩
          · -- 64: t127 := slice 9 t122 none (some t126) none (52, False)
            intro ac wx hE hsz hdf h
            have e122 : ac.tmps[122]? = some (.string ⟨T.toArray⟩) := by obtain ⟨v, h1, h2⟩ := h 122 (by decide +kernel); rw [h1]; exact congrArg some h2
            have e126 : ac.tmps[126]? = some (.int .i64 wl) := by obtain ⟨v, h1, h2⟩ := h 126 (by decide +kernel); rw [h1]; exact congrArg some h2
            have e115 : ac.tmps[115]? = some (.bool false) := by obtain ⟨v, h1, h2⟩ := h 115 (by decide +kernel); rw [h1]; exact congrArg some h2
            clear h hsz hdf
            go_wp2
            exact ⟨_, rfl, by rw [HTK.out], Ext.refl _⟩
          · -- 65: t128 := binOp BinOp.neq 9 t118 t127 9 (52, False)
            intro ac wx hE hsz hdf h
            have e118 : ac.tmps[118]? = some (.string ⟨V.toArray⟩) := by obtain ⟨v, h1, h2⟩ := h 118 (by decide +kernel); rw [h1]; exact congrArg some h2
            have e127 : ac.tmps[127]? = some (.string ⟨V.toArray⟩) := by obtain ⟨v, h1, h2⟩ := h 127 (by decide +kernel); rw [h1]; exact congrArg some h2
            have e115 : ac.tmps[115]? = some (.bool false) := by obtain ⟨v, h1, h2⟩ := h 115 (by decide +kernel); rw [h1]; exact congrArg some h2
            clear h hsz hdf
            go_wp2
            exact ⟨_, rfl, by simp, Ext.refl _⟩
          · -- 66: t129 := pick t115 (const (Value.bool true)) t128 
            intro ac wx hE hsz hdf h
            have e115 : ac.tmps[115]? = some (.bool false) := by obtain ⟨v, h1, h2⟩ := h 115 (by decide +kernel); rw [h1]; exact congrArg some h2
            have e128 : ac.tmps[128]? = some (.bool false) := by obtain ⟨v, h1, h2⟩ := h 128 (by decide +kernel); rw [h1]; exact congrArg some h2
            clear h hsz hdf
            go_wp2
            exact ⟨_, rfl, rfl, Ext.refl _⟩
          · intro ac w9 hE hsz hdf h hrest
            obtain ⟨v0, s0, g0⟩ := h 0 _ rfl
            have e0 := g0 63 rfl
            obtain rfl : v0 = .pointer (some ⟨ab, 0, none⟩) := s0
            obtain ⟨v1, s1, g1⟩ := h 1 _ rfl
            have e1 := g1 64 rfl
            obtain rfl : v1 = .int .i64 il := s1
            obtain ⟨v2, s2, g2⟩ := h 2 _ rfl
            have e2 := g2 65 rfl
            obtain rfl : v2 = .int .i64 il := s2
            obtain ⟨v3, s3, g3⟩ := h 3 _ rfl
            have e3 := g3 66 rfl
            obtain rfl : v3 = .bool false := s3
            obtain ⟨v4, s4, g4⟩ := h 4 _ rfl
            have e4 := g4 67 rfl
            obtain rfl : v4 = .bool false := s4
            obtain ⟨v5, s5, g5⟩ := h 5 _ rfl
            have e5 := g5 68 rfl
            obtain rfl : v5 = .pointer (some ⟨ab, 0, none⟩) := s5
            obtain ⟨v6, s6, g6⟩ := h 6 _ rfl
            have e6 := g6 69 rfl
            obtain rfl : v6 = .int .i64 rd := s6
            obtain ⟨v7, s7, g7⟩ := h 7 _ rfl
            have e7 := g7 70 rfl
            obtain rfl : v7 = .pointer (some ⟨mb, 0, none⟩) := s7
            obtain ⟨v8, s8, g8⟩ := h 8 _ rfl
            have e8 := g8 71 rfl
            obtain rfl : v8 = .pointer (some ⟨mb, 0, none⟩) := s8
            obtain ⟨v9, s9, g9⟩ := h 9 _ rfl
            have e9 := g9 72 rfl
            obtain rfl : v9 = .pointer (some ⟨mb, 3, none⟩) := s9
            obtain ⟨v10, s10, g10⟩ := h 10 _ rfl
            have e10 := g10 73 rfl
            obtain rfl : v10 = .int .i64 rd := s10
            obtain ⟨v11, s11, g11⟩ := h 11 _ rfl
            have e11 := g11 74 rfl
            obtain rfl : v11 = .bool false := s11
            obtain ⟨v12, s12, g12⟩ := h 12 _ rfl
            have e12 := g12 75 rfl
            obtain rfl : v12 = .bool false := s12
            obtain ⟨v13, s13, g13⟩ := h 13 _ rfl
            have e13 := g13 76 rfl
            obtain rfl : v13 = .bool false := s13
            obtain ⟨v14, s14, g14⟩ := h 14 _ rfl
            have e14 := g14 77 rfl
            obtain rfl : v14 = .pointer (some ⟨ab, 0, none⟩) := s14
            obtain ⟨v15, s15, g15⟩ := h 15 _ rfl
            have e15 := g15 78 rfl
            obtain rfl : v15 = .bool false := s15
            obtain ⟨v16, s16, g16⟩ := h 16 _ rfl
            have e16 := g16 79 rfl
            obtain rfl : v16 = .pointer (some ⟨mb, 0, none⟩) := s16
            obtain ⟨v17, s17, g17⟩ := h 17 _ rfl
            have e17 := g17 80 rfl
            obtain rfl : v17 = .pointer (some ⟨mb, 0, none⟩) := s17
            obtain ⟨v18, s18, g18⟩ := h 18 _ rfl
            have e18 := g18 81 rfl
            obtain rfl : v18 = .pointer (some ⟨mb, 4, none⟩) := s18
            obtain ⟨v19, s19, g19⟩ := h 19 _ rfl
            have e19 := g19 82 rfl
            obtain rfl : v19 = .bool false := s19
            obtain ⟨v20, s20, g20⟩ := h 20 _ rfl
            have e20 := g20 83 rfl
            obtain rfl : v20 = .bool false := s20
            obtain ⟨v21, s21, g21⟩ := h 21 _ rfl
            have e21 := g21 84 rfl
            obtain rfl : v21 = .bool false := s21
            obtain ⟨v22, s22, g22⟩ := h 22 _ rfl
            have e22 := g22 85 rfl
            obtain rfl : v22 = .bool false := s22
            obtain ⟨v23, s23, g23⟩ := h 23 _ rfl
            have e23 := g23 86 rfl
            obtain rfl : v23 = .pointer (some ⟨ab, 0, none⟩) := s23
            obtain ⟨v24, s24, g24⟩ := h 24 _ rfl
            have e24 := g24 87 rfl
            obtain rfl : v24 = .bool false := s24
            obtain ⟨v25, s25, g25⟩ := h 25 _ rfl
            have e25 := g25 88 rfl
            obtain rfl : v25 = .pointer (some ⟨mb, 0, none⟩) := s25
            obtain ⟨v26, s26, g26⟩ := h 26 _ rfl
            have e26 := g26 89 rfl
            obtain rfl : v26 = .pointer (some ⟨mb, 0, none⟩) := s26
            obtain ⟨v27, s27, g27⟩ := h 27 _ rfl
            have e27 := g27 90 rfl
            obtain rfl : v27 = .pointer (some ⟨mb, 4, none⟩) := s27
            obtain ⟨v28, s28, g28⟩ := h 28 _ rfl
            have e28 := g28 91 rfl
            obtain rfl : v28 = .bool false := s28
            obtain ⟨v29, s29, g29⟩ := h 29 _ rfl
            have e29 := g29 92 rfl
            obtain rfl : v29 = .bool false := s29
            obtain ⟨v30, s30, g30⟩ := h 30 _ rfl
            have e30 := g30 93 rfl
            obtain rfl : v30 = undef := s30
            obtain ⟨v31, s31, g31⟩ := h 31 _ rfl
            have e31 := g31 94 rfl
            obtain rfl : v31 = undef := s31
            obtain ⟨v32, s32, g32⟩ := h 32 _ rfl
            have e32 := g32 95 rfl
            obtain rfl : v32 = .bool false := s32
            obtain ⟨v33, s33, g33⟩ := h 33 _ rfl
            have e33 := g33 96 rfl
            obtain rfl : v33 = .bool false := s33
            obtain ⟨v34, s34, g34⟩ := h 34 _ rfl
            have e34 := g34 97 rfl
            obtain rfl : v34 = .bool false := s34
            obtain ⟨v35, s35, g35⟩ := h 35 _ rfl
            have e35 := g35 98 rfl
            obtain rfl : v35 = .bool false := s35
            obtain ⟨v36, s36, g36⟩ := h 36 _ rfl
            have e36 := g36 99 rfl
            obtain rfl : v36 = .pointer (some ⟨ab, 0, none⟩) := s36
            obtain ⟨v37, s37, g37⟩ := h 37 _ rfl
            have e37 := g37 100 rfl
            obtain rfl : v37 = .int .i64 rm := s37
            obtain ⟨v38, s38, g38⟩ := h 38 _ rfl
            have e38 := g38 101 rfl
            obtain rfl : v38 = .int .i64 Rb := s38
            obtain ⟨v39, s39, g39⟩ := h 39 _ rfl
            have e39 := g39 102 rfl
            obtain rfl : v39 = .pointer (some ⟨mb, 0, none⟩) := s39
            obtain ⟨v40, s40, g40⟩ := h 40 _ rfl
            have e40 := g40 103 rfl
            obtain rfl : v40 = .pointer (some ⟨mb, 0, none⟩) := s40
            obtain ⟨v41, s41, g41⟩ := h 41 _ rfl
            have e41 := g41 104 rfl
            obtain rfl : v41 = .pointer (some ⟨mb, 5, none⟩) := s41
            obtain ⟨v42, s42, g42⟩ := h 42 _ rfl
            have e42 := g42 105 rfl
            obtain rfl : v42 = .string ⟨T.toArray⟩ := s42
            obtain ⟨v43, s43, g43⟩ := h 43 _ rfl
            have e43 := g43 106 rfl
            obtain rfl : v43 = .int .i64 T.length := s43
            obtain ⟨v44, s44, g44⟩ := h 44 _ rfl
            have e44 := g44 107 rfl
            obtain rfl : v44 = .pointer (some ⟨mb, 0, none⟩) := s44
            obtain ⟨v45, s45, g45⟩ := h 45 _ rfl
            have e45 := g45 108 rfl
            obtain rfl : v45 = .pointer (some ⟨mb, 0, none⟩) := s45
            obtain ⟨v46, s46, g46⟩ := h 46 _ rfl
            have e46 := g46 109 rfl
            obtain rfl : v46 = .pointer (some ⟨mb, 6, none⟩) := s46
            obtain ⟨v47, s47, g47⟩ := h 47 _ rfl
            have e47 := g47 110 rfl
            obtain rfl : v47 = .int .i64 wl := s47
            obtain ⟨v48, s48, g48⟩ := h 48 _ rfl
            have e48 := g48 111 rfl
            obtain rfl : v48 = .int .i64 ql := s48
            obtain ⟨v49, s49, g49⟩ := h 49 _ rfl
            have e49 := g49 112 rfl
            obtain rfl : v49 = .int .i64 rm := s49
            obtain ⟨v50, s50, g50⟩ := h 50 _ rfl
            have e50 := g50 113 rfl
            obtain rfl : v50 = .bool false := s50
            obtain ⟨v51, s51, g51⟩ := h 51 _ rfl
            have e51 := g51 114 rfl
            obtain rfl : v51 = .bool false := s51
            obtain ⟨v52, s52, g52⟩ := h 52 _ rfl
            have e52 := g52 115 rfl
            obtain rfl : v52 = .bool false := s52
            obtain ⟨v53, s53, g53⟩ := h 53 _ rfl
            have e53 := g53 116 rfl
            obtain rfl : v53 = .pointer (some ⟨ab, 0, none⟩) := s53
            obtain ⟨v54, s54, g54⟩ := h 54 _ rfl
            have e54 := g54 117 rfl
            replace s54 : ∃ A c, v54 = .slice A V.length c ∧ Rd w9 1 A V.length (bytesV V) := s54
            obtain ⟨v55, s55, g55⟩ := h 55 _ rfl
            have e55 := g55 118 rfl
            obtain rfl : v55 = .string ⟨V.toArray⟩ := s55
            obtain ⟨v56, s56, g56⟩ := h 56 _ rfl
            have e56 := g56 119 rfl
            obtain rfl : v56 = .pointer (some ⟨mb, 0, none⟩) := s56
            obtain ⟨v57, s57, g57⟩ := h 57 _ rfl
            have e57 := g57 120 rfl
            obtain rfl : v57 = .pointer (some ⟨mb, 0, none⟩) := s57
            obtain ⟨v58, s58, g58⟩ := h 58 _ rfl
            have e58 := g58 121 rfl
            obtain rfl : v58 = .pointer (some ⟨mb, 5, none⟩) := s58
            obtain ⟨v59, s59, g59⟩ := h 59 _ rfl
            have e59 := g59 122 rfl
            obtain rfl : v59 = .string ⟨T.toArray⟩ := s59
            obtain ⟨v60, s60, g60⟩ := h 60 _ rfl
            have e60 := g60 123 rfl
            obtain rfl : v60 = .pointer (some ⟨mb, 0, none⟩) := s60
            obtain ⟨v61, s61, g61⟩ := h 61 _ rfl
            have e61 := g61 124 rfl
            obtain rfl : v61 = .pointer (some ⟨mb, 0, none⟩) := s61
            obtain ⟨v62, s62, g62⟩ := h 62 _ rfl
            have e62 := g62 125 rfl
            obtain rfl : v62 = .pointer (some ⟨mb, 6, none⟩) := s62
            obtain ⟨v63, s63, g63⟩ := h 63 _ rfl
            have e63 := g63 126 rfl
            obtain rfl : v63 = .int .i64 wl := s63
            obtain ⟨v64, s64, g64⟩ := h 64 _ rfl
            have e64 := g64 127 rfl
            obtain rfl : v64 = .string ⟨V.toArray⟩ := s64
            obtain ⟨v65, s65, g65⟩ := h 65 _ rfl
            have e65 := g65 128 rfl
            obtain rfl : v65 = .bool false := s65
            obtain ⟨v66, s66, g66⟩ := h 66 _ rfl
            have e66 := g66 129 rfl
            obtain rfl : v66 = .bool false := s66
            have ha := act_of [(63, .pointer (some ⟨ab, 0, none⟩)), (64, .int .i64 il), (65, .int .i64 il), (66, .bool false), (67, .bool false), (68, .pointer (some ⟨ab, 0, none⟩)), (69, .int .i64 rd), (70, .pointer (some ⟨mb, 0, none⟩)), (71, .pointer (some ⟨mb, 0, none⟩)), (72, .pointer (some ⟨mb, 3, none⟩)), (73, .int .i64 rd), (74, .bool false), (75, .bool false), (76, .bool false), (77, .pointer (some ⟨ab, 0, none⟩)), (78, .bool false), (79, .pointer (some ⟨mb, 0, none⟩)), (80, .pointer (some ⟨mb, 0, none⟩)), (81, .pointer (some ⟨mb, 4, none⟩)), (82, .bool false), (83, .bool false), (84, .bool false), (85, .bool false), (86, .pointer (some ⟨ab, 0, none⟩)), (87, .bool false), (88, .pointer (some ⟨mb, 0, none⟩)), (89, .pointer (some ⟨mb, 0, none⟩)), (90, .pointer (some ⟨mb, 4, none⟩)), (91, .bool false), (92, .bool false), (93, undef), (94, undef), (95, .bool false), (96, .bool false), (97, .bool false), (98, .bool false), (99, .pointer (some ⟨ab, 0, none⟩)), (100, .int .i64 rm), (101, .int .i64 Rb), (102, .pointer (some ⟨mb, 0, none⟩)), (103, .pointer (some ⟨mb, 0, none⟩)), (104, .pointer (some ⟨mb, 5, none⟩)), (105, .string ⟨T.toArray⟩), (106, .int .i64 T.length), (107, .pointer (some ⟨mb, 0, none⟩)), (108, .pointer (some ⟨mb, 0, none⟩)), (109, .pointer (some ⟨mb, 6, none⟩)), (110, .int .i64 wl), (111, .int .i64 ql), (112, .int .i64 rm), (113, .bool false), (114, .bool false), (115, .bool false), (116, .pointer (some ⟨ab, 0, none⟩)), (117, v54), (118, .string ⟨V.toArray⟩), (119, .pointer (some ⟨mb, 0, none⟩)), (120, .pointer (some ⟨mb, 0, none⟩)), (121, .pointer (some ⟨mb, 5, none⟩)), (122, .string ⟨T.toArray⟩), (123, .pointer (some ⟨mb, 0, none⟩)), (124, .pointer (some ⟨mb, 0, none⟩)), (125, .pointer (some ⟨mb, 6, none⟩)), (126, .int .i64 wl), (127, .string ⟨V.toArray⟩), (128, .bool false), (129, .bool false)] rfl hsz hdf (by intro p hp; simp only [List.mem_cons, List.not_mem_nil, or_false] at hp; rcases hp with rfl | rfl | rfl | rfl | rfl | rfl | rfl | rfl | rfl | rfl | rfl | rfl | rfl | rfl | rfl | rfl | rfl | rfl | rfl | rfl | rfl | rfl | rfl | rfl | rfl | rfl | rfl | rfl | rfl | rfl | rfl | rfl | rfl | rfl | rfl | rfl | rfl | rfl | rfl | rfl | rfl | rfl | rfl | rfl | rfl | rfl | rfl | rfl | rfl | rfl | rfl | rfl | rfl | rfl | rfl | rfl | rfl | rfl | rfl | rfl | rfl | rfl | rfl | rfl | rfl | rfl | rfl <;> first | exact e0 | exact e1 | exact e2 | exact e3 | exact e4 | exact e5 | exact e6 | exact e7 | exact e8 | exact e9 | exact e10 | exact e11 | exact e12 | exact e13 | exact e14 | exact e15 | exact e16 | exact e17 | exact e18 | exact e19 | exact e20 | exact e21 | exact e22 | exact e23 | exact e24 | exact e25 | exact e26 | exact e27 | exact e28 | exact e29 | exact e30 | exact e31 | exact e32 | exact e33 | exact e34 | exact e35 | exact e36 | exact e37 | exact e38 | exact e39 | exact e40 | exact e41 | exact e42 | exact e43 | exact e44 | exact e45 | exact e46 | exact e47 | exact e48 | exact e49 | exact e50 | exact e51 | exact e52 | exact e53 | exact e54 | exact e55 | exact e56 | exact e57 | exact e58 | exact e59 | exact e60 | exact e61 | exact e62 | exact e63 | exact e64 | exact e65 | exact e66) hrest
            clear h hrest hsz hdf e0 e1 e2 e3 e4 e5 e6 e7 e8 e9 e10 e11 e12 e13 e14 e15 e16 e17 e18 e19 e20 e21 e22 e23 e24 e25 e26 e27 e28 e29 e30 e31 e32 e33 e34 e35 e36 e37 e38 e39 e40 e41 e42 e43 e44 e45 e46 e47 e48 e49 e50 e51 e52 e53 e54 e55 e56 e57 e58 e59 e60 e61 e62 e63 e64 e65 e66 g0 g1 g2 g3 g4 g5 g6 g7 g8 g9 g10 g11 g12 g13 g14 g15 g16 g17 g18 g19 g20 g21 g22 g23 g24 g25 g26 g27 g28 g29 g30 g31 g32 g33 g34 g35 g36 g37 g38 g39 g40 g41 g42 g43 g44 g45 g46 g47 g48 g49 g50 g51 g52 g53 g54 g55 g56 g57 g58 g59 g60 g61 g62 g63 g64 g65 g66
            subst ha
            simp only [List.foldl_cons, List.foldl_nil, Act.put, List.setIfInBounds_toArray, List.set_cons_succ, List.set_cons_zero]
          -- GAD StrmActs16f
            have hx9 := hx6.trans hE
            have hst9 := HSN5.out.keep hx9
            have hmd9 := (HMN5.out.keep hx9).any (n' := 300 * (k + 1)) (by omega)
            have hb9 : Below B w2 w9 := HB9.out.trans (hx9.mono (by have := HB9.out.size; have := HB.out; omega))
            have hqq9 := HQQ.out
            clear hE hx6 hx9
            go_wp2
            go_roundw
            case rel => exact ⟨k + 1, S5, hlt, by go_num, hst9, hmd9, hqq9, hb9⟩
            case measure => simp [intOf]; omega
      · obtain rfl : k = n := by omega
        have hfin : Below w.heap.size w wr := HX12.out.trans (hb.mono (by have := HB.out; have := HX12.out.size; omega))
        clear hSn hMn hb
        go_wp2
        go_ret
        exact ⟨rfl, hfin⟩
end Go.Proofs.YtnbdmlpnoiljdaaDoor
