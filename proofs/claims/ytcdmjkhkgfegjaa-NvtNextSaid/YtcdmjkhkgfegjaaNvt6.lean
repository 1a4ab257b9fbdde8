/- layer 8: the laws' walks. -/
import Derived.Test.YtcdmjkhkgfegjaaNvt5
import Derived.Test.YtcdmjkhkgfegjaaDag
import Derived.Outline
namespace Go.Proofs.Ytcdmjkhkgfegjaa
open Go.RowKit

set_option maxHeartbeats 400000 in
theorem alive8 (w : World) : Calls Try.prog 6 #[] w fun e w' => e = .returned (.bool true) ∧ Below w.heap.size w w' := by
  go_enter Try.func6, Try.ntmps6
  have hr1 : Rd (w.alloc (.cells #[.int .u8 13, .int .u8 65] 5)) 1 (some ⟨w.heap.size, 0, none⟩) 2 (bytesV [13, 65]) := (Blk.newL w 5 [U8 13, U8 65]).rd 0 (n := 2) (by simp)
  go_wp2_with (first
    | (go_at_call 8; refine (nvtEncode [13, 65] false _ _ _ _ (by omega) hr1).mono ?_; rintro e w1 ⟨v, rfl, hown, hb⟩; rw [show enc false [13, 65] = [13, 0, 65] from by decide] at hown; obtain ⟨A, c, rfl, _, _, hrd⟩ : ∃ A c, v = .slice A 3 c ∧ 3 ≤ c ∧ c ≤ maxLen ∧ Rd w1 1 A 3 (bytesV [13, 0, 65]) := own_rd hown; have hcv := conv_str (c := c) Try.underlying22 Try.underlying5 Try.underlying9 hrd)
    | (go_at_call 9; have hr2 : Rd (w1.alloc (.cells #[.int .u8 13, .int .u8 0, .int .u8 65] 5)) 1 (some ⟨w1.heap.size, 0, none⟩) 3 (bytesV [13, 0, 65]) := (Blk.newL w1 5 [U8 13, U8 0, U8 65]).rd 0 (n := 3) (by simp); refine (nvtDecode [13, 0, 65] false _ _ _ _ (by omega) hr2).mono ?_; rintro e w2 ⟨v2, rfl, hown2, hb2⟩; rw [show dec [13, 0, 65] (List.replicate [(13 : UInt8), 0, 65].length false) = [13, 65] from by decide] at hown2; obtain ⟨A2, c2, rfl, _, _, hrd2⟩ : ∃ A c, v2 = .slice A 2 c ∧ 2 ≤ c ∧ c ≤ maxLen ∧ Rd w2 1 A 2 (bytesV [13, 65]) := own_rd hown2; have hcv2 := conv_str (c := c2) Try.underlying22 Try.underlying5 Try.underlying9 hrd2))
  go_ret
  have h1 := hb.size
  simp at h1
  exact ⟨rfl, (((Below.refl _ _).alloc (Nat.le_refl _) _).trans (hb.mono (by simp))).trans (((Below.refl _ _).alloc (by omega) _).trans (hb2.mono (by simp; omega)))⟩

set_option maxHeartbeats 1000000 in
theorem lawCodes (l : List UInt8) (raw : Bool) (A : Option Addr) (n c : Nat) (w : World) (hr : Rd w 1 A n (bytesV l)) :
    Calls Try.prog 3 #[.slice A n c, .bool raw] w fun e w' => e = .returned (.bool true) ∧ Below w.heap.size w w' := by
  by_cases hbig : 500 < n
  · go_enter Try.func3, Try.ntmps3
    go_wp2_with (go_at_call 6; refine (alive8 _).mono ?_; rintro e w1 ⟨rfl, hb1⟩)
    go_ret
    exact ⟨rfl, hb1⟩
  · have hl := hr.len_bytes
    have HR := Lib.hid hr
    have HL := Lib.hid hl
    clear hr hl
    go_enter Try.func3, Try.ntmps3
    go_wp2_with (first 
      | (go_at_call 6; refine (alive8 _).mono ?_; rintro e w1 ⟨rfl, hb1⟩; have hr1 := Lib.hid (HR.out.keep hb1))
      | (go_at_call 7; refine (numBytes l A n c _ (by omega) hr1.out).mono ?_; rintro e w2 ⟨rfl, hB2, hb2⟩; have hr2 := Lib.hid (hr1.out.keep hb2); have hin : Hid (Rd w2 1 (some ⟨w1.heap.size, 0, none⟩) n (bytesV l)) := Lib.hid (by have := hB2.rd (n := n) (size := 1) 0 (by have := HL.out; simp [bytesV]; omega); have h3 := HL.out; subst h3; simpa [bytesV] using this); have HB2 := Lib.hid hB2; clear hB2)
      | (go_at_call 8; refine (nvtEncode l raw _ _ _ _ (by omega) hin.out).mono ?_; rintro e w3 ⟨v3, rfl, hown3, hb3⟩; have hin3 := Lib.hid (hin.out.keep hb3))
      | (go_at_call 9; refine (nvtDecode l raw _ _ _ _ (by omega) hin3.out).mono ?_; rintro e w4 ⟨v4, rfl, hown4, hb4⟩; obtain ⟨A3, c3, rfl, _, _, hrd3⟩ := own_rd hown3; obtain ⟨A4, c4, rfl, _, _, hrd4⟩ := own_rd hown4; have HR4 := Lib.hid hrd4; have HR3 := Lib.hid (hrd3.keep hb4); have hin4 := Lib.hid (hin3.out.keep hb4); have HB4 := Lib.hid ((HB2.out.keep hb3).keep hb4); have hr4 := Lib.hid ((hr2.out.keep hb3).keep hb4); have hcv := conv_str (c := c) Try.underlying22 Try.underlying5 Try.underlying9 hr4.out; clear hown4 hown3 hrd4 hrd3))
    have HD : Hid (dec l (List.replicate l.length raw) = dec l (List.replicate n raw)) := Lib.hid (by have := HL.out; rw [this])
    clear hcv
    -- DAG NvtCodes8
    refine wp_region_dag (E := Ext) (w0 := w4) (Φ := fun i v w => match i with | 0 => (v = .slice A3 (enc raw l).length c3) | 1 => (v = .string ⟨(enc raw l).toArray⟩) | 2 => (v = .string ⟨l.toArray⟩) | 3 => (v = .bool raw) | 4 => (v = .string ⟨(enc raw l).toArray⟩) | 5 => (v = .bool true) | 6 => (v = .bool true) | 7 => (v = .slice A4 (dec l (List.replicate l.length raw)).length c4) | 8 => (v = .string ⟨(dec l (List.replicate l.length raw)).toArray⟩) | 9 => (v = .string ⟨l.toArray⟩) | 10 => (v = .string ⟨l.toArray⟩) | 11 => (v = .int .i64 n) | 12 => (v = .bool raw) | 13 => (∃ g, v = .slice (some ⟨g, 0, none⟩) n n ∧ Rd w 1 (some ⟨g, 0, none⟩) n (boolsV (List.replicate n raw))) | 14 => (v = .string ⟨(dec l (List.replicate n raw)).toArray⟩) | 15 => (v = .bool true) | 16 => (v = .bool true) | 17 => (v = .bool true) | 18 => (v = .slice (some ⟨w1.heap.size, 0, none⟩) n (n + 5)) | 19 => (v = .slice A n c) | 20 => (v = .bool true) | 21 => (v = .bool true) | 22 => (v = .bool true) | _ => True) (show Try.prog.follows .mixedOrders = true from Checked.mixed Try.checked) 46 rfl (by decide +kernel) ?_ ((Below.refl _ _).drew) ?_ ⟨?_, ?_, ?_, ?_, ?_, ?_, ?_, ?_, ?_, ?_, ?_, ?_, ?_, ?_, ?_, ?_, ?_, ?_, ?_, ?_, ?_, ?_, ?_, trivial⟩ ?_
    · intro i v w w' h hE
      match i, h with
      | 0, h => exact h
      | 1, h => exact h
      | 2, h => exact h
      | 3, h => exact h
      | 4, h => exact h
      | 5, h => exact h
      | 6, h => exact h
      | 7, h => exact h
      | 8, h => exact h
      | 9, h => exact h
      | 10, h => exact h
      | 11, h => exact h
      | 12, h => exact h
      | 13, h => exact (by obtain ⟨g, h1, h2⟩ := h; exact ⟨g, h1, h2.keep hE⟩)
      | 14, h => exact h
      | 15, h => exact h
      | 16, h => exact h
      | 17, h => exact h
      | 18, h => exact h
      | 19, h => exact h
      | 20, h => exact h
      | 21, h => exact h
      | 22, h => exact h
      | _ + 23, _ => trivial
    · exact fun w w' h h' => h.trans h'
    · -- 0: t24 := move t6 
      intro a w hE hsz hdf h
      have e6 : a.tmps[6]? = some (.slice A3 (enc raw l).length c3) := by obtain ⟨v, h1, h2⟩ := h 6 (by decide +kernel); exact h1.trans (h2.symm.trans rfl)
      clear h hsz hdf
      go_wp2
      exact ⟨_, rfl, rfl, Ext.refl _⟩
    · -- 1: t25 := convert 22 9 t24 
      intro a w hE hsz hdf h
      have e24 : a.tmps[24]? = some (.slice A3 (enc raw l).length c3) := by obtain ⟨v, h1, h2⟩ := h 24 (by decide +kernel); rw [h1]; exact congrArg some h2
      clear h hsz hdf
      have hcx := conv_str (c := c3) Try.underlying22 Try.underlying5 Try.underlying9 (HR3.out.keep hE)
      go_wp2
      exact ⟨_, rfl, rfl, Ext.refl _⟩
    · -- 2: t26 := move t8 
      intro a w hE hsz hdf h
      have e8 : a.tmps[8]? = some (.string ⟨l.toArray⟩) := by obtain ⟨v, h1, h2⟩ := h 8 (by decide +kernel); exact h1.trans (h2.symm.trans rfl)
      clear h hsz hdf
      go_wp2
      exact ⟨_, rfl, rfl, Ext.refl _⟩
    · -- 3: t27 := move t1 
      intro a w hE hsz hdf h
      have e1 : a.tmps[1]? = some (.bool raw) := by obtain ⟨v, h1, h2⟩ := h 1 (by decide +kernel); exact h1.trans (h2.symm.trans rfl)
      clear h hsz hdf
      go_wp2
      exact ⟨_, rfl, rfl, Ext.refl _⟩
    · -- 4: t28 := call { value (Operand.func 10), args := #[t26, t27], argTypes := #[9, 4] } 
      intro a w hE hsz hdf h
      have e26 : a.tmps[26]? = some (.string ⟨l.toArray⟩) := by obtain ⟨v, h1, h2⟩ := h 26 (by decide +kernel); rw [h1]; exact congrArg some h2
      have e27 : a.tmps[27]? = some (.bool raw) := by obtain ⟨v, h1, h2⟩ := h 27 (by decide +kernel); rw [h1]; exact congrArg some h2
      clear h hsz hdf
      go_wp2_with ((go_at_call 10; refine (refEncode l raw _ (by have := HL.out; omega)).mono ?_; rintro e w' ⟨rfl, rfl⟩))
      exact ⟨_, rfl, rfl, Ext.refl _⟩
    · -- 5: t29 := binOp BinOp.eql 9 t25 t28 9 
      intro a w hE hsz hdf h
      have e25 : a.tmps[25]? = some (.string ⟨(enc raw l).toArray⟩) := by obtain ⟨v, h1, h2⟩ := h 25 (by decide +kernel); rw [h1]; exact congrArg some h2
      have e28 : a.tmps[28]? = some (.string ⟨(enc raw l).toArray⟩) := by obtain ⟨v, h1, h2⟩ := h 28 (by decide +kernel); rw [h1]; exact congrArg some h2
      clear h hsz hdf
      go_wp2
      exact ⟨_, rfl, rfl, Ext.refl _⟩
    · -- 6: t30 := move t29 
      intro a w hE hsz hdf h
      have e29 : a.tmps[29]? = some (.bool true) := by obtain ⟨v, h1, h2⟩ := h 29 (by decide +kernel); rw [h1]; exact congrArg some h2
      clear h hsz hdf
      go_wp2
      exact ⟨_, rfl, rfl, Ext.refl _⟩
    · -- 7: t31 := move t7 (6, True)
      intro a w hE hsz hdf h
      have e7 : a.tmps[7]? = some (.slice A4 (dec l (List.replicate l.length raw)).length c4) := by obtain ⟨v, h1, h2⟩ := h 7 (by decide +kernel); exact h1.trans (h2.symm.trans rfl)
      have e30 : a.tmps[30]? = some (.bool true) := by obtain ⟨v, h1, h2⟩ := h 30 (by decide +kernel); rw [h1]; exact congrArg some h2
      clear h hsz hdf
      go_wp2
      exact ⟨_, rfl, rfl, Ext.refl _⟩
    · -- 8: t32 := convert 22 9 t31 (6, True)
      intro a w hE hsz hdf h
      have e31 : a.tmps[31]? = some (.slice A4 (dec l (List.replicate l.length raw)).length c4) := by obtain ⟨v, h1, h2⟩ := h 31 (by decide +kernel); rw [h1]; exact congrArg some h2
      have e30 : a.tmps[30]? = some (.bool true) := by obtain ⟨v, h1, h2⟩ := h 30 (by decide +kernel); rw [h1]; exact congrArg some h2
      clear h hsz hdf
      have hcy := conv_str (c := c4) Try.underlying22 Try.underlying5 Try.underlying9 (HR4.out.keep hE)
      go_wp2
      exact ⟨_, rfl, rfl, Ext.refl _⟩
    · -- 9: t33 := move t8 (6, True)
      intro a w hE hsz hdf h
      have e8 : a.tmps[8]? = some (.string ⟨l.toArray⟩) := by obtain ⟨v, h1, h2⟩ := h 8 (by decide +kernel); exact h1.trans (h2.symm.trans rfl)
      have e30 : a.tmps[30]? = some (.bool true) := by obtain ⟨v, h1, h2⟩ := h 30 (by decide +kernel); rw [h1]; exact congrArg some h2
      clear h hsz hdf
      go_wp2
      exact ⟨_, rfl, rfl, Ext.refl _⟩
    · -- 10: t34 := move t8 (6, True)
      intro a w hE hsz hdf h
      have e8 : a.tmps[8]? = some (.string ⟨l.toArray⟩) := by obtain ⟨v, h1, h2⟩ := h 8 (by decide +kernel); exact h1.trans (h2.symm.trans rfl)
      have e30 : a.tmps[30]? = some (.bool true) := by obtain ⟨v, h1, h2⟩ := h 30 (by decide +kernel); rw [h1]; exact congrArg some h2
      clear h hsz hdf
      go_wp2
      exact ⟨_, rfl, rfl, Ext.refl _⟩
    · -- 11: t35 := call { builtin len, args := #[t34], argTypes := #[9] } (6, True)
      intro a w hE hsz hdf h
      have e34 : a.tmps[34]? = some (.string ⟨l.toArray⟩) := by obtain ⟨v, h1, h2⟩ := h 34 (by decide +kernel); rw [h1]; exact congrArg some h2
      have e30 : a.tmps[30]? = some (.bool true) := by obtain ⟨v, h1, h2⟩ := h 30 (by decide +kernel); rw [h1]; exact congrArg some h2
      clear h hsz hdf
      go_wp2
      exact ⟨_, rfl, by have := HL.out; simp [this], Ext.refl _⟩
    · -- 12: t36 := move t1 (6, True)
      intro a w hE hsz hdf h
      have e1 : a.tmps[1]? = some (.bool raw) := by obtain ⟨v, h1, h2⟩ := h 1 (by decide +kernel); exact h1.trans (h2.symm.trans rfl)
      have e30 : a.tmps[30]? = some (.bool true) := by obtain ⟨v, h1, h2⟩ := h 30 (by decide +kernel); rw [h1]; exact congrArg some h2
      clear h hsz hdf
      go_wp2
      exact ⟨_, rfl, rfl, Ext.refl _⟩
    · -- 13: t37 := call { value (Operand.func 12), args := #[t35, t36], argTypes := #[3, 4] } (6, True)
      intro a w hE hsz hdf h
      have e35 : a.tmps[35]? = some (.int .i64 n) := by obtain ⟨v, h1, h2⟩ := h 35 (by decide +kernel); rw [h1]; exact congrArg some h2
      have e36 : a.tmps[36]? = some (.bool raw) := by obtain ⟨v, h1, h2⟩ := h 36 (by decide +kernel); rw [h1]; exact congrArg some h2
      have e30 : a.tmps[30]? = some (.bool true) := by obtain ⟨v, h1, h2⟩ := h 30 (by decide +kernel); rw [h1]; exact congrArg some h2
      clear h hsz hdf
      go_wp2_with ((go_at_call 12; refine (refFlags n raw _ (by omega)).mono ?_; rintro e w5 ⟨rfl, hB5, hb5⟩))
      exact ⟨_, rfl, ⟨_, rfl, by have := hB5.rd (n := n) (size := 1) 0 (by simp [boolsV]); rwa [List.drop_zero, List.take_of_length_le (by simp [boolsV])] at this⟩, hb5⟩
    · -- 14: t38 := call { value (Operand.func 11), args := #[t33, t37], argTypes := #[9, 28] } (6, True)
      intro a w hE hsz hdf h
      have e33 : a.tmps[33]? = some (.string ⟨l.toArray⟩) := by obtain ⟨v, h1, h2⟩ := h 33 (by decide +kernel); rw [h1]; exact congrArg some h2
      obtain ⟨v37, e37, s37⟩ : ∃ v, a.tmps[37]? = some v ∧ (∃ g, v = .slice (some ⟨g, 0, none⟩) n n ∧ Rd w 1 (some ⟨g, 0, none⟩) n (boolsV (List.replicate n raw))) := h 37 (by decide +kernel)
      have e30 : a.tmps[30]? = some (.bool true) := by obtain ⟨v, h1, h2⟩ := h 30 (by decide +kernel); rw [h1]; exact congrArg some h2
      clear h hsz hdf
      obtain ⟨g, rfl, hg⟩ := s37
      go_wp2_with ((go_at_call 11; refine (refDecode l (List.replicate n raw) _ n n _ (by have := HL.out; omega) (by have := HL.out; omega) hg).mono ?_; rintro e w5 ⟨rfl, hb5⟩))
      exact ⟨_, rfl, rfl, hb5⟩
    · -- 15: t39 := binOp BinOp.eql 9 t32 t38 9 (6, True)
      intro a w hE hsz hdf h
      have e32 : a.tmps[32]? = some (.string ⟨(dec l (List.replicate l.length raw)).toArray⟩) := by obtain ⟨v, h1, h2⟩ := h 32 (by decide +kernel); rw [h1]; exact congrArg some h2
      have e38 : a.tmps[38]? = some (.string ⟨(dec l (List.replicate n raw)).toArray⟩) := by obtain ⟨v, h1, h2⟩ := h 38 (by decide +kernel); rw [h1]; exact congrArg some h2
      have e30 : a.tmps[30]? = some (.bool true) := by obtain ⟨v, h1, h2⟩ := h 30 (by decide +kernel); rw [h1]; exact congrArg some h2
      clear h hsz hdf
      rw [HD.out] at e32
      go_wp2
      exact ⟨_, rfl, rfl, Ext.refl _⟩
    · -- 16: t40 := pick t30 t39 (const (Value.bool false)) 
      intro a w hE hsz hdf h
      have e30 : a.tmps[30]? = some (.bool true) := by obtain ⟨v, h1, h2⟩ := h 30 (by decide +kernel); rw [h1]; exact congrArg some h2
      have e39 : a.tmps[39]? = some (.bool true) := by obtain ⟨v, h1, h2⟩ := h 39 (by decide +kernel); rw [h1]; exact congrArg some h2
      clear h hsz hdf
      go_wp2
      exact ⟨_, rfl, rfl, Ext.refl _⟩
    · -- 17: t41 := move t40 
      intro a w hE hsz hdf h
      have e40 : a.tmps[40]? = some (.bool true) := by obtain ⟨v, h1, h2⟩ := h 40 (by decide +kernel); rw [h1]; exact congrArg some h2
      clear h hsz hdf
      go_wp2
      exact ⟨_, rfl, rfl, Ext.refl _⟩
    · -- 18: t42 := move t5 (17, True)
      intro a w hE hsz hdf h
      have e5 : a.tmps[5]? = some (.slice (some ⟨w1.heap.size, 0, none⟩) n (n + 5)) := by obtain ⟨v, h1, h2⟩ := h 5 (by decide +kernel); exact h1.trans (h2.symm.trans rfl)
      have e41 : a.tmps[41]? = some (.bool true) := by obtain ⟨v, h1, h2⟩ := h 41 (by decide +kernel); rw [h1]; exact congrArg some h2
      clear h hsz hdf
      go_wp2
      exact ⟨_, rfl, rfl, Ext.refl _⟩
    · -- 19: t43 := move t0 (17, True)
      intro a w hE hsz hdf h
      have e0 : a.tmps[0]? = some (.slice A n c) := by obtain ⟨v, h1, h2⟩ := h 0 (by decide +kernel); exact h1.trans (h2.symm.trans rfl)
      have e41 : a.tmps[41]? = some (.bool true) := by obtain ⟨v, h1, h2⟩ := h 41 (by decide +kernel); rw [h1]; exact congrArg some h2
      clear h hsz hdf
      go_wp2
      exact ⟨_, rfl, rfl, Ext.refl _⟩
    · -- 20: t44 := call { value (Operand.func 13), args := #[t42, t43], argTypes := #[22, 22] } (17, True)
      intro a w hE hsz hdf h
      have e42 : a.tmps[42]? = some (.slice (some ⟨w1.heap.size, 0, none⟩) n (n + 5)) := by obtain ⟨v, h1, h2⟩ := h 42 (by decide +kernel); rw [h1]; exact congrArg some h2
      have e43 : a.tmps[43]? = some (.slice A n c) := by obtain ⟨v, h1, h2⟩ := h 43 (by decide +kernel); rw [h1]; exact congrArg some h2
      have e41 : a.tmps[41]? = some (.bool true) := by obtain ⟨v, h1, h2⟩ := h 41 (by decide +kernel); rw [h1]; exact congrArg some h2
      clear h hsz hdf
      go_wp2_with ((go_at_call 13; refine (numKept l A n c _ _ (by omega) (hr4.out.keep hE) (HB4.out.keep hE)).mono ?_; rintro e w5 ⟨rfl, rfl⟩))
      exact ⟨_, rfl, rfl, Ext.refl _⟩
    · -- 21: t45 := pick t41 t44 (const (Value.bool false)) 
      intro a w hE hsz hdf h
      have e41 : a.tmps[41]? = some (.bool true) := by obtain ⟨v, h1, h2⟩ := h 41 (by decide +kernel); rw [h1]; exact congrArg some h2
      have e44 : a.tmps[44]? = some (.bool true) := by obtain ⟨v, h1, h2⟩ := h 44 (by decide +kernel); rw [h1]; exact congrArg some h2
      clear h hsz hdf
      go_wp2
      exact ⟨_, rfl, rfl, Ext.refl _⟩
    · -- 22: t4 := assign t45 
      intro a w hE hsz hdf h
      have e45 : a.tmps[45]? = some (.bool true) := by obtain ⟨v, h1, h2⟩ := h 45 (by decide +kernel); rw [h1]; exact congrArg some h2
      clear h hsz hdf
      go_wp2
      exact ⟨_, rfl, rfl, Ext.refl _⟩
    · intro a w5 hE hsz hdf h hrest
      have e4 : a.tmps[4]? = some (.bool true) := by obtain ⟨v, h1, h2⟩ := h 22 _ rfl; rw [h2 4 rfl]; exact congrArg some h1
      clear h hrest hsz
      have HDF := Lib.hid hdf
      clear hdf
      go_wp2
      refine bodyPost_ret (results_tmp rfl _ _ _) HDF.out ⟨by simp [e4], ?_⟩
      exact hb1.trans ((hb2.trans ((hb3.trans ((hb4.trans (hE.mono hb4.size)).mono hb3.size)).mono hb2.size)).mono hb1.size)
    -- GAD NvtCodes8
end Go.Proofs.Ytcdmjkhkgfegjaa
