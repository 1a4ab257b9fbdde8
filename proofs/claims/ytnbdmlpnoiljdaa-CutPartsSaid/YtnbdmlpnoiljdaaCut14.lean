/- layer 39: CutSame, the walk. -/
import Derived.Test.YtnbdmlpnoiljdaaEv4
namespace Go.Proofs.Ytnbdmlpnoiljdaa
open Go Go.RowKit

set_option maxHeartbeats 4000000 in
set_option maxRecDepth 20000 in
theorem lawSame {w : World} {xs ys : List Ev} {l : List Int} {A B C : Option Addr} {n c m d q f : Nat} (ha : EvsRd w [] A n xs) (hb : EvsRd w [] B m ys) (hl : Rd w 1 C q (intsV l)) (hnc : n ≤ c) (hmd : m ≤ d) (hlb : ∀ x ∈ l, -9223372036854775808 ≤ x ∧ x ≤ 9223372036854775807) (hq : q ≤ maxLen) :
    Calls Try.prog 4 #[.slice A n c, .slice B m d, .slice C q f] w fun e w' => e = .returned (.bool true) ∧ Ext w w' := by
  have HA0 := Lib.hid ha
  have HB0 := Lib.hid hb
  have HL0 := Lib.hid hl
  unfold maxLen at hq
  clear ha hb hl
  go_enter Try.func4, Try.ntmps4
  by_cases hq20 : q ≤ 20
  rotate_left
  · go_wp2_with (first
      | (go_at_call 6; refine (long39 (HB0.out.keep (hx1.trans hx2)) hmd).mono ?_; rintro e w3 ⟨rb, rfl, hx3, hlb3⟩; cases rb)
      | (go_at_call 6; refine (long39 (HA0.out.keep hx1) hnc).mono ?_; rintro e w2 ⟨ra, rfl, hx2, hla2⟩; cases ra)
      | (go_at_call 5; refine (alive39 _).mono ?_; rintro e w1 ⟨rfl, hx1⟩))
    all_goals first
      | (go_ret; exact ⟨rfl, hx1.trans (hx2.trans hx3)⟩)
      | (go_ret; exact ⟨rfl, hx1.trans hx2⟩)
  go_wp2_with (first
    | (go_at_call 13; refine (cutSplit (l := l) (HA0.out.keep (hx13.trans hx4)) (by omega) hnc (HL0.out.keep (hx13.trans hx4)) (by omega) hlb).mono ?_; rintro e w5 ⟨v5, rfl, hoS, hx5⟩; obtain ⟨As, cs, rfl, hcs, hms, hES⟩ := hoS.rd; have HES := Lib.hid hES; clear hES hoS)
    | (go_at_call 11; have hx13 := hx1.trans (hx2.trans hx3); obtain ⟨hn20, hsw, hal⟩ := hla2 (by simp); obtain ⟨hm20, hswb, hbl⟩ := hlb3 (by simp); have hatl := atoms_len xs; have hatlb := atoms_len ys; have hnl : xs.length = n := (by obtain ⟨vs, _, h, _⟩ := HA0.out; exact h); have hml : ys.length = m := (by obtain ⟨vs, _, h, _⟩ := HB0.out; exact h); refine (cutMerge (HA0.out.keep hx13) (by omega) hnc (by omega)).mono ?_; rintro e w4 ⟨v4, rfl, hoM, hx4⟩; obtain ⟨Am, cm, rfl, hcm, hmm, hEM⟩ := hoM.rd; have HEM := Lib.hid hEM; have HLA := Lib.hid hal; have HLB := Lib.hid hbl; clear hEM hoM hal hbl)
    | (go_at_call 6; refine (long39 (HB0.out.keep (hx1.trans hx2)) hmd).mono ?_; rintro e w3 ⟨rb, rfl, hx3, hlb3⟩; cases rb)
    | (go_at_call 6; refine (long39 (HA0.out.keep hx1) hnc).mono ?_; rintro e w2 ⟨ra, rfl, hx2, hla2⟩; cases ra)
    | (go_at_call 5; refine (alive39 _).mono ?_; rintro e w1 ⟨rfl, hx1⟩))
  rotate_left
  · go_ret
    exact ⟨rfl, hx1.trans (hx2.trans hx3)⟩
  · go_ret
    exact ⟨rfl, hx1.trans hx2⟩
  have hszp : ∀ k, 1 ≤ szOf l k := fun k => (szOf_pos l k).1
  have hsl := split_len hszp xs 0
  have hsa := split_atoms hszp xs 0
  have hmgl := mergeL_len (atoms xs)
  have hma := merge_all xs
  obtain ⟨M, hM⟩ : ∃ M, mergeL (atoms xs) = M := ⟨_, rfl⟩
  obtain ⟨S, hS⟩ : ∃ S, (splitL (szOf l) xs 0).1 = S := ⟨_, rfl⟩
  have HEM1 := HEM.out
  have HES1 := HES.out
  rw [hM] at hmgl hma hcm HEM1 ⊢
  rw [hS] at hsl hsa hcs HES1 ⊢
  obtain ⟨nm, hnm⟩ : ∃ nm, M.length = nm := ⟨_, rfl⟩
  obtain ⟨ns, hns⟩ : ∃ ns, S.length = ns := ⟨_, rfl⟩
  rw [hnm] at hmgl hcm HEM1 ⊢
  rw [hns] at hsl hcs HES1 ⊢
  obtain ⟨Y, hY⟩ : ∃ Y, bytesR xs = Y := ⟨_, rfl⟩
  obtain ⟨Z, hZe⟩ : ∃ Z, marksR xs = Z := ⟨_, rfl⟩
  have hzl := jm_len (atoms xs) 0
  have hZ : Z.length ≤ 100000000 := by rw [← hZe]; unfold marksR; omega
  have hn5 : n ≤ 100000 := by omega
  have hM5 : nm ≤ 100000 := by omega
  have hS5 : ns ≤ 100000 := by omega
  have HA := Lib.hid (HA0.out.keep (hx13.trans (hx4.trans hx5)))
  have HB := Lib.hid (HB0.out.keep (hx13.trans (hx4.trans hx5)))
  have HM := Lib.hid (HEM1.keep hx5)
  have HS := Lib.hid HES1
  have hMc := hcm
  have hSc := hcs
  have E1 := Lib.hid (show decide (atoms xs = atoms M) = true by rw [hma]; simp)
  have E2 := Lib.hid (show decide (atoms xs = atoms S) = true by rw [hsa]; simp)
  have E3 := Lib.hid (show decide (atoms M = atoms S) = true by rw [hma, hsa]; simp)
  have EY1 := Lib.hid (show bytesR M = Y by unfold bytesR; rw [hma]; exact hY)
  have EY2 := Lib.hid (show bytesR S = Y by unfold bytesR; rw [hsa]; exact hY)
  have EZ1 := Lib.hid (show marksR M = Z by unfold marksR; rw [hma]; exact hZe)
  have EZ2 := Lib.hid hZe
  have HX5 := Lib.hid (hx13.trans (hx4.trans hx5))
  have HMX := Lib.hid hM
  have HNM := Lib.hid hnm
  clear hsl hsa hmgl hma hM hS hnm hns hY hZe hzl HEM HES HEM1 HES1 HA0 HB0 HL0 hx13 hx1 hx2 hx3 hx4 hx5 hla2 hlb3 hszp hcm hcs
  -- DAG CutSame6
  refine wp_region_dag (E := Ext) (w0 := w5) (Φ := fun i v w => match i with | 0 => (v = .slice A n c) | 1 => (v = .slice Am nm cm) | 2 => (v = .bool true) | 3 => (v = .bool false) | 4 => (v = .bool false) | 5 => (v = .slice A n c) | 6 => (v = .slice As ns cs) | 7 => (v = .bool true) | 8 => (v = .bool false) | 9 => (v = .bool false) | 10 => (v = .bool false) | 11 => (v = .slice Am nm cm) | 12 => (v = .slice As ns cs) | 13 => (v = .bool true) | 14 => (v = .bool false) | 15 => (v = .bool false) | 16 => (v = .bool false) | 17 => (v = .slice Am nm cm) | 18 => (∃ A c, v = .slice A Y.length c ∧ Rd w 1 A Y.length (bytesV Y)) | 19 => (v = .string ⟨Y.toArray⟩) | 20 => (v = .slice As ns cs) | 21 => (∃ A c, v = .slice A Y.length c ∧ Rd w 1 A Y.length (bytesV Y)) | 22 => (v = .string ⟨Y.toArray⟩) | 23 => (v = .bool false) | 24 => (v = .bool false) | 25 => (v = .bool false) | 26 => (v = .slice Am nm cm) | 27 => (∃ A c, v = .slice A Z.length c ∧ Rd w 1 A Z.length (intsV Z)) | 28 => (v = .slice A n c) | 29 => (∃ A c, v = .slice A Z.length c ∧ Rd w 1 A Z.length (intsV Z)) | 30 => (v = .bool true) | 31 => (v = .bool false) | 32 => (v = .bool false) | _ => True) (show Try.prog.follows .mixedOrders = true from Checked.mixed Try.checked) 93 rfl (by decide +kernel) ?_ ((Below.refl _ _).drew) ?_ ⟨?_, ?_, ?_, ?_, ?_, ?_, ?_, ?_, ?_, ?_, ?_, ?_, ?_, ?_, ?_, ?_, ?_, ?_, ?_, ?_, ?_, ?_, ?_, ?_, ?_, ?_, ?_, ?_, ?_, ?_, ?_, ?_, ?_, trivial⟩ ?_
  · intro i v w w' h hE
    match i, h with
    | 0, h => exact h
    | 1, h => exact h
    | 2, h => exact h
    | 3, h => exact h
    | 4, h => exact h
    | 5, h => exact h
    | 6, h => exact h
    | 7, h => exact h
    | 8, h => exact h
    | 9, h => exact h
    | 10, h => exact h
    | 11, h => exact h
    | 12, h => exact h
    | 13, h => exact h
    | 14, h => exact h
    | 15, h => exact h
    | 16, h => exact h
    | 17, h => exact h
    | 18, h => exact (by obtain ⟨A, c, h1, h2⟩ := h; exact ⟨A, c, h1, h2.keep hE⟩)
    | 19, h => exact h
    | 20, h => exact h
    | 21, h => exact (by obtain ⟨A, c, h1, h2⟩ := h; exact ⟨A, c, h1, h2.keep hE⟩)
    | 22, h => exact h
    | 23, h => exact h
    | 24, h => exact h
    | 25, h => exact h
    | 26, h => exact h
    | 27, h => exact (by obtain ⟨A, c, h1, h2⟩ := h; exact ⟨A, c, h1, h2.keep hE⟩)
    | 28, h => exact h
    | 29, h => exact (by obtain ⟨A, c, h1, h2⟩ := h; exact ⟨A, c, h1, h2.keep hE⟩)
    | 30, h => exact h
    | 31, h => exact h
    | 32, h => exact h
    | _ + 33, _ => trivial
  · exact fun w w' h h' => h.trans h'
  · -- 0: t30 := move t0 
    intro ac wx hE hsz hdf h
    have e0 : ac.tmps[0]? = some (.slice A n c) := by obtain ⟨v, h1, h2⟩ := h 0 (by decide +kernel); exact h1.trans (h2.symm.trans rfl)
    clear h hsz hdf
    go_wp2
    exact ⟨_, rfl, rfl, Ext.refl _⟩
  · -- 1: t31 := move t7 
    intro ac wx hE hsz hdf h
    have e7 : ac.tmps[7]? = some (.slice Am nm cm) := by obtain ⟨v, h1, h2⟩ := h 7 (by decide +kernel); exact h1.trans (h2.symm.trans rfl)
    clear h hsz hdf
    go_wp2
    exact ⟨_, rfl, rfl, Ext.refl _⟩
  · -- 2: t32 := call { value (Operand.func 18), args := #[t30, t31], argTypes := #[22, 22] } 
    intro ac wx hE hsz hdf h
    have e30 : ac.tmps[30]? = some (.slice A n c) := by obtain ⟨v, h1, h2⟩ := h 30 (by decide +kernel); rw [h1]; exact congrArg some h2
    have e31 : ac.tmps[31]? = some (.slice Am nm cm) := by obtain ⟨v, h1, h2⟩ := h 31 (by decide +kernel); rw [h1]; exact congrArg some h2
    clear h hsz hdf
    go_wp2_with ((go_at_call 18; refine (cutSame (HA.out.keep hE) (HM.out.keep hE) hn5 hnc hM5 hMc true E1.out).mono ?_; rintro e w9 ⟨rfl, hb9⟩))
    exact ⟨_, rfl, rfl, hb9⟩
  · -- 3: t33 := unOp UnOp.not 4 t32 
    intro ac wx hE hsz hdf h
    have e32 : ac.tmps[32]? = some (.bool true) := by obtain ⟨v, h1, h2⟩ := h 32 (by decide +kernel); rw [h1]; exact congrArg some h2
    clear h hsz hdf
    go_wp2
    exact ⟨_, rfl, rfl, Ext.refl _⟩
  · -- 4: t34 := move t33 
    intro ac wx hE hsz hdf h
    have e33 : ac.tmps[33]? = some (.bool false) := by obtain ⟨v, h1, h2⟩ := h 33 (by decide +kernel); rw [h1]; exact congrArg some h2
    clear h hsz hdf
    go_wp2
    exact ⟨_, rfl, rfl, Ext.refl _⟩
  · -- 5: t35 := move t0 (4, False)
    intro ac wx hE hsz hdf h
    have e0 : ac.tmps[0]? = some (.slice A n c) := by obtain ⟨v, h1, h2⟩ := h 0 (by decide +kernel); exact h1.trans (h2.symm.trans rfl)
    have e34 : ac.tmps[34]? = some (.bool false) := by obtain ⟨v, h1, h2⟩ := h 34 (by decide +kernel); rw [h1]; exact congrArg some h2
    clear h hsz hdf
    go_wp2
    exact ⟨_, rfl, rfl, Ext.refl _⟩
  · -- 6: t36 := move t8 (4, False)
    intro ac wx hE hsz hdf h
    have e8 : ac.tmps[8]? = some (.slice As ns cs) := by obtain ⟨v, h1, h2⟩ := h 8 (by decide +kernel); exact h1.trans (h2.symm.trans rfl)
    have e34 : ac.tmps[34]? = some (.bool false) := by obtain ⟨v, h1, h2⟩ := h 34 (by decide +kernel); rw [h1]; exact congrArg some h2
    clear h hsz hdf
    go_wp2
    exact ⟨_, rfl, rfl, Ext.refl _⟩
  · -- 7: t37 := call { value (Operand.func 18), args := #[t35, t36], argTypes := #[22, 22] } (4, False)
    intro ac wx hE hsz hdf h
    have e35 : ac.tmps[35]? = some (.slice A n c) := by obtain ⟨v, h1, h2⟩ := h 35 (by decide +kernel); rw [h1]; exact congrArg some h2
    have e36 : ac.tmps[36]? = some (.slice As ns cs) := by obtain ⟨v, h1, h2⟩ := h 36 (by decide +kernel); rw [h1]; exact congrArg some h2
    have e34 : ac.tmps[34]? = some (.bool false) := by obtain ⟨v, h1, h2⟩ := h 34 (by decide +kernel); rw [h1]; exact congrArg some h2
    clear h hsz hdf
    go_wp2_with ((go_at_call 18; refine (cutSame (HA.out.keep hE) (HS.out.keep hE) hn5 hnc hS5 hSc true E2.out).mono ?_; rintro e w9 ⟨rfl, hb9⟩))
    exact ⟨_, rfl, rfl, hb9⟩
  · -- 8: t38 := unOp UnOp.not 4 t37 (4, False)
    intro ac wx hE hsz hdf h
    have e37 : ac.tmps[37]? = some (.bool true) := by obtain ⟨v, h1, h2⟩ := h 37 (by decide +kernel); rw [h1]; exact congrArg some h2
    have e34 : ac.tmps[34]? = some (.bool false) := by obtain ⟨v, h1, h2⟩ := h 34 (by decide +kernel); rw [h1]; exact congrArg some h2
    clear h hsz hdf
    go_wp2
    exact ⟨_, rfl, rfl, Ext.refl _⟩
  · -- 9: t39 := pick t34 (const (Value.bool true)) t38 
    intro ac wx hE hsz hdf h
    have e34 : ac.tmps[34]? = some (.bool false) := by obtain ⟨v, h1, h2⟩ := h 34 (by decide +kernel); rw [h1]; exact congrArg some h2
    have e38 : ac.tmps[38]? = some (.bool false) := by obtain ⟨v, h1, h2⟩ := h 38 (by decide +kernel); rw [h1]; exact congrArg some h2
    clear h hsz hdf
    go_wp2
    exact ⟨_, rfl, rfl, Ext.refl _⟩
  · -- 10: t40 := move t39 
    intro ac wx hE hsz hdf h
    have e39 : ac.tmps[39]? = some (.bool false) := by obtain ⟨v, h1, h2⟩ := h 39 (by decide +kernel); rw [h1]; exact congrArg some h2
    clear h hsz hdf
    go_wp2
    exact ⟨_, rfl, rfl, Ext.refl _⟩
  · -- 11: t41 := move t7 (10, False)
    intro ac wx hE hsz hdf h
    have e7 : ac.tmps[7]? = some (.slice Am nm cm) := by obtain ⟨v, h1, h2⟩ := h 7 (by decide +kernel); exact h1.trans (h2.symm.trans rfl)
    have e40 : ac.tmps[40]? = some (.bool false) := by obtain ⟨v, h1, h2⟩ := h 40 (by decide +kernel); rw [h1]; exact congrArg some h2
    clear h hsz hdf
    go_wp2
    exact ⟨_, rfl, rfl, Ext.refl _⟩
  · -- 12: t42 := move t8 (10, False)
    intro ac wx hE hsz hdf h
    have e8 : ac.tmps[8]? = some (.slice As ns cs) := by obtain ⟨v, h1, h2⟩ := h 8 (by decide +kernel); exact h1.trans (h2.symm.trans rfl)
    have e40 : ac.tmps[40]? = some (.bool false) := by obtain ⟨v, h1, h2⟩ := h 40 (by decide +kernel); rw [h1]; exact congrArg some h2
    clear h hsz hdf
    go_wp2
    exact ⟨_, rfl, rfl, Ext.refl _⟩
  · -- 13: t43 := call { value (Operand.func 18), args := #[t41, t42], argTypes := #[22, 22] } (10, False)
    intro ac wx hE hsz hdf h
    have e41 : ac.tmps[41]? = some (.slice Am nm cm) := by obtain ⟨v, h1, h2⟩ := h 41 (by decide +kernel); rw [h1]; exact congrArg some h2
    have e42 : ac.tmps[42]? = some (.slice As ns cs) := by obtain ⟨v, h1, h2⟩ := h 42 (by decide +kernel); rw [h1]; exact congrArg some h2
    have e40 : ac.tmps[40]? = some (.bool false) := by obtain ⟨v, h1, h2⟩ := h 40 (by decide +kernel); rw [h1]; exact congrArg some h2
    clear h hsz hdf
    go_wp2_with ((go_at_call 18; refine (cutSame (HM.out.keep hE) (HS.out.keep hE) hM5 hMc hS5 hSc true E3.out).mono ?_; rintro e w9 ⟨rfl, hb9⟩))
    exact ⟨_, rfl, rfl, hb9⟩
  · -- 14: t44 := unOp UnOp.not 4 t43 (10, False)
    intro ac wx hE hsz hdf h
    have e43 : ac.tmps[43]? = some (.bool true) := by obtain ⟨v, h1, h2⟩ := h 43 (by decide +kernel); rw [h1]; exact congrArg some h2
    have e40 : ac.tmps[40]? = some (.bool false) := by obtain ⟨v, h1, h2⟩ := h 40 (by decide +kernel); rw [h1]; exact congrArg some h2
    clear h hsz hdf
    go_wp2
    exact ⟨_, rfl, rfl, Ext.refl _⟩
  · -- 15: t45 := pick t40 (const (Value.bool true)) t44 
    intro ac wx hE hsz hdf h
    have e40 : ac.tmps[40]? = some (.bool false) := by obtain ⟨v, h1, h2⟩ := h 40 (by decide +kernel); rw [h1]; exact congrArg some h2
    have e44 : ac.tmps[44]? = some (.bool false) := by obtain ⟨v, h1, h2⟩ := h 44 (by decide +kernel); rw [h1]; exact congrArg some h2
    clear h hsz hdf
    go_wp2
    exact ⟨_, rfl, rfl, Ext.refl _⟩
  · -- 16: t46 := move t45 
    intro ac wx hE hsz hdf h
    have e45 : ac.tmps[45]? = some (.bool false) := by obtain ⟨v, h1, h2⟩ := h 45 (by decide +kernel); rw [h1]; exact congrArg some h2
    clear h hsz hdf
    go_wp2
    exact ⟨_, rfl, rfl, Ext.refl _⟩
  · -- 17: t47 := move t7 (16, False)
    intro ac wx hE hsz hdf h
    have e7 : ac.tmps[7]? = some (.slice Am nm cm) := by obtain ⟨v, h1, h2⟩ := h 7 (by decide +kernel); exact h1.trans (h2.symm.trans rfl)
    have e46 : ac.tmps[46]? = some (.bool false) := by obtain ⟨v, h1, h2⟩ := h 46 (by decide +kernel); rw [h1]; exact congrArg some h2
    clear h hsz hdf
    go_wp2
    exact ⟨_, rfl, rfl, Ext.refl _⟩
  · -- 18: t48 := call { value (Operand.func 15), args := #[t47], argTypes := #[22] } (16, False)
    intro ac wx hE hsz hdf h
    have e47 : ac.tmps[47]? = some (.slice Am nm cm) := by obtain ⟨v, h1, h2⟩ := h 47 (by decide +kernel); rw [h1]; exact congrArg some h2
    have e46 : ac.tmps[46]? = some (.bool false) := by obtain ⟨v, h1, h2⟩ := h 46 (by decide +kernel); rw [h1]; exact congrArg some h2
    clear h hsz hdf
    go_wp2_with ((go_at_call 15; refine (cutBytes (HM.out.keep hE) (by omega) hMc).mono ?_; rintro e w9 ⟨v9, rfl, ho9, hb9⟩; obtain ⟨A9, c9, rfl, -, -, hrd9⟩ := own_rd ho9; rw [EY1.out] at hrd9 ⊢))
    exact ⟨_, rfl, ⟨A9, c9, rfl, hrd9⟩, hb9⟩
  · -- 19: t49 := convert 35 9 t48 (16, False)
    intro ac wx hE hsz hdf h
    obtain ⟨v48, e48, s48⟩ : ∃ v, ac.tmps[48]? = some v ∧ (∃ A c, v = .slice A Y.length c ∧ Rd wx 1 A Y.length (bytesV Y)) := h 48 (by decide +kernel)
    have e46 : ac.tmps[46]? = some (.bool false) := by obtain ⟨v, h1, h2⟩ := h 46 (by decide +kernel); rw [h1]; exact congrArg some h2
    clear h hsz hdf
    obtain ⟨A8, c8, rfl, hrd8⟩ := s48; have hcv := conv_str (P := Try.prog) (c := c8) Try.underlying35 Try.underlying5 Try.underlying9 hrd8
    go_wp2
    exact ⟨_, rfl, rfl, Ext.refl _⟩
  · -- 20: t50 := move t8 (16, False)
    intro ac wx hE hsz hdf h
    have e8 : ac.tmps[8]? = some (.slice As ns cs) := by obtain ⟨v, h1, h2⟩ := h 8 (by decide +kernel); exact h1.trans (h2.symm.trans rfl)
    have e46 : ac.tmps[46]? = some (.bool false) := by obtain ⟨v, h1, h2⟩ := h 46 (by decide +kernel); rw [h1]; exact congrArg some h2
    clear h hsz hdf
    go_wp2
    exact ⟨_, rfl, rfl, Ext.refl _⟩
  · -- 21: t51 := call { value (Operand.func 15), args := #[t50], argTypes := #[22] } (16, False)
    intro ac wx hE hsz hdf h
    have e50 : ac.tmps[50]? = some (.slice As ns cs) := by obtain ⟨v, h1, h2⟩ := h 50 (by decide +kernel); rw [h1]; exact congrArg some h2
    have e46 : ac.tmps[46]? = some (.bool false) := by obtain ⟨v, h1, h2⟩ := h 46 (by decide +kernel); rw [h1]; exact congrArg some h2
    clear h hsz hdf
    go_wp2_with ((go_at_call 15; refine (cutBytes (HS.out.keep hE) (by omega) hSc).mono ?_; rintro e w9 ⟨v9, rfl, ho9, hb9⟩; obtain ⟨A9, c9, rfl, -, -, hrd9⟩ := own_rd ho9; rw [EY2.out] at hrd9 ⊢))
    exact ⟨_, rfl, ⟨A9, c9, rfl, hrd9⟩, hb9⟩
  · -- 22: t52 := convert 35 9 t51 (16, False)
    intro ac wx hE hsz hdf h
    obtain ⟨v51, e51, s51⟩ : ∃ v, ac.tmps[51]? = some v ∧ (∃ A c, v = .slice A Y.length c ∧ Rd wx 1 A Y.length (bytesV Y)) := h 51 (by decide +kernel)
    have e46 : ac.tmps[46]? = some (.bool false) := by obtain ⟨v, h1, h2⟩ := h 46 (by decide +kernel); rw [h1]; exact congrArg some h2
    clear h hsz hdf
    obtain ⟨A8, c8, rfl, hrd8⟩ := s51; have hcv := conv_str (P := Try.prog) (c := c8) Try.underlying35 Try.underlying5 Try.underlying9 hrd8
    go_wp2
    exact ⟨_, rfl, rfl, Ext.refl _⟩
  · -- 23: t53 := binOp BinOp.neq 9 t49 t52 9 (16, False)
    intro ac wx hE hsz hdf h
    have e49 : ac.tmps[49]? = some (.string ⟨Y.toArray⟩) := by obtain ⟨v, h1, h2⟩ := h 49 (by decide +kernel); rw [h1]; exact congrArg some h2
    have e52 : ac.tmps[52]? = some (.string ⟨Y.toArray⟩) := by obtain ⟨v, h1, h2⟩ := h 52 (by decide +kernel); rw [h1]; exact congrArg some h2
    have e46 : ac.tmps[46]? = some (.bool false) := by obtain ⟨v, h1, h2⟩ := h 46 (by decide +kernel); rw [h1]; exact congrArg some h2
    clear h hsz hdf
    go_wp2
    exact ⟨_, rfl, by simp, Ext.refl _⟩
  · -- 24: t54 := pick t46 (const (Value.bool true)) t53 
    intro ac wx hE hsz hdf h
    have e46 : ac.tmps[46]? = some (.bool false) := by obtain ⟨v, h1, h2⟩ := h 46 (by decide +kernel); rw [h1]; exact congrArg some h2
    have e53 : ac.tmps[53]? = some (.bool false) := by obtain ⟨v, h1, h2⟩ := h 53 (by decide +kernel); rw [h1]; exact congrArg some h2
    clear h hsz hdf
    go_wp2
    exact ⟨_, rfl, rfl, Ext.refl _⟩
  · -- 25: t55 := move t54 
    intro ac wx hE hsz hdf h
    have e54 : ac.tmps[54]? = some (.bool false) := by obtain ⟨v, h1, h2⟩ := h 54 (by decide +kernel); rw [h1]; exact congrArg some h2
    clear h hsz hdf
    go_wp2
    exact ⟨_, rfl, rfl, Ext.refl _⟩
  · -- 26: t56 := move t7 (25, False)
    intro ac wx hE hsz hdf h
    have e7 : ac.tmps[7]? = some (.slice Am nm cm) := by obtain ⟨v, h1, h2⟩ := h 7 (by decide +kernel); exact h1.trans (h2.symm.trans rfl)
    have e55 : ac.tmps[55]? = some (.bool false) := by obtain ⟨v, h1, h2⟩ := h 55 (by decide +kernel); rw [h1]; exact congrArg some h2
    clear h hsz hdf
    go_wp2
    exact ⟨_, rfl, rfl, Ext.refl _⟩
  · -- 27: t57 := call { value (Operand.func 17), args := #[t56], argTypes := #[22] } (25, False)
    intro ac wx hE hsz hdf h
    have e56 : ac.tmps[56]? = some (.slice Am nm cm) := by obtain ⟨v, h1, h2⟩ := h 56 (by decide +kernel); rw [h1]; exact congrArg some h2
    have e55 : ac.tmps[55]? = some (.bool false) := by obtain ⟨v, h1, h2⟩ := h 55 (by decide +kernel); rw [h1]; exact congrArg some h2
    clear h hsz hdf
    go_wp2_with ((go_at_call 17; refine (cutMarks (HM.out.keep hE) (by omega) hMc).mono ?_; rintro e w9 ⟨v9, rfl, ho9, hb9⟩; obtain ⟨A9, c9, rfl, -, -, hrd9⟩ := own_rd ho9; rw [EZ1.out] at hrd9 ⊢))
    exact ⟨_, rfl, ⟨A9, c9, rfl, hrd9⟩, hb9⟩
  · -- 28: t58 := move t0 (25, False)
    intro ac wx hE hsz hdf h
    have e0 : ac.tmps[0]? = some (.slice A n c) := by obtain ⟨v, h1, h2⟩ := h 0 (by decide +kernel); exact h1.trans (h2.symm.trans rfl)
    have e55 : ac.tmps[55]? = some (.bool false) := by obtain ⟨v, h1, h2⟩ := h 55 (by decide +kernel); rw [h1]; exact congrArg some h2
    clear h hsz hdf
    go_wp2
    exact ⟨_, rfl, rfl, Ext.refl _⟩
  · -- 29: t59 := call { value (Operand.func 17), args := #[t58], argTypes := #[22] } (25, False)
    intro ac wx hE hsz hdf h
    have e58 : ac.tmps[58]? = some (.slice A n c) := by obtain ⟨v, h1, h2⟩ := h 58 (by decide +kernel); rw [h1]; exact congrArg some h2
    have e55 : ac.tmps[55]? = some (.bool false) := by obtain ⟨v, h1, h2⟩ := h 55 (by decide +kernel); rw [h1]; exact congrArg some h2
    clear h hsz hdf
    go_wp2_with ((go_at_call 17; refine (cutMarks (HA.out.keep hE) (by omega) hnc).mono ?_; rintro e w9 ⟨v9, rfl, ho9, hb9⟩; obtain ⟨A9, c9, rfl, -, -, hrd9⟩ := own_rd ho9; rw [EZ2.out] at hrd9 ⊢))
    exact ⟨_, rfl, ⟨A9, c9, rfl, hrd9⟩, hb9⟩
  · -- 30: t60 := call { value (Operand.func 16), args := #[t57, t59], argTypes := #[23, 23] } (25, False)
    intro ac wx hE hsz hdf h
    obtain ⟨v57, e57, s57⟩ : ∃ v, ac.tmps[57]? = some v ∧ (∃ A c, v = .slice A Z.length c ∧ Rd wx 1 A Z.length (intsV Z)) := h 57 (by decide +kernel)
    obtain ⟨v59, e59, s59⟩ : ∃ v, ac.tmps[59]? = some v ∧ (∃ A c, v = .slice A Z.length c ∧ Rd wx 1 A Z.length (intsV Z)) := h 59 (by decide +kernel)
    have e55 : ac.tmps[55]? = some (.bool false) := by obtain ⟨v, h1, h2⟩ := h 55 (by decide +kernel); rw [h1]; exact congrArg some h2
    clear h hsz hdf
    obtain ⟨A8, c8, rfl, hrd8⟩ := s57; obtain ⟨B8, d8, rfl, hre8⟩ := s59
    go_wp2_with ((go_at_call 16; refine (sameInts Z Z A8 B8 Z.length c8 Z.length d8 wx hrd8 hre8 hZ hZ true (by simp)).mono ?_; rintro e w9 ⟨rfl, hb9⟩))
    exact ⟨_, rfl, rfl, hb9⟩
  · -- 31: t61 := unOp UnOp.not 4 t60 (25, False)
    intro ac wx hE hsz hdf h
    have e60 : ac.tmps[60]? = some (.bool true) := by obtain ⟨v, h1, h2⟩ := h 60 (by decide +kernel); rw [h1]; exact congrArg some h2
    have e55 : ac.tmps[55]? = some (.bool false) := by obtain ⟨v, h1, h2⟩ := h 55 (by decide +kernel); rw [h1]; exact congrArg some h2
    clear h hsz hdf
    go_wp2
    exact ⟨_, rfl, rfl, Ext.refl _⟩
  · -- 32: t62 := pick t55 (const (Value.bool true)) t61 
    intro ac wx hE hsz hdf h
    have e55 : ac.tmps[55]? = some (.bool false) := by obtain ⟨v, h1, h2⟩ := h 55 (by decide +kernel); rw [h1]; exact congrArg some h2
    have e61 : ac.tmps[61]? = some (.bool false) := by obtain ⟨v, h1, h2⟩ := h 61 (by decide +kernel); rw [h1]; exact congrArg some h2
    clear h hsz hdf
    go_wp2
    exact ⟨_, rfl, rfl, Ext.refl _⟩
  · intro ac w9 hE hsz hdf h hrest
    obtain ⟨v0, s0, g0⟩ := h 0 _ rfl
    have e0 := g0 30 rfl
    obtain rfl : v0 = .slice A n c := s0
    obtain ⟨v1, s1, g1⟩ := h 1 _ rfl
    have e1 := g1 31 rfl
    obtain rfl : v1 = .slice Am nm cm := s1
    obtain ⟨v2, s2, g2⟩ := h 2 _ rfl
    have e2 := g2 32 rfl
    obtain rfl : v2 = .bool true := s2
    obtain ⟨v3, s3, g3⟩ := h 3 _ rfl
    have e3 := g3 33 rfl
    obtain rfl : v3 = .bool false := s3
    obtain ⟨v4, s4, g4⟩ := h 4 _ rfl
    have e4 := g4 34 rfl
    obtain rfl : v4 = .bool false := s4
    obtain ⟨v5, s5, g5⟩ := h 5 _ rfl
    have e5 := g5 35 rfl
    obtain rfl : v5 = .slice A n c := s5
    obtain ⟨v6, s6, g6⟩ := h 6 _ rfl
    have e6 := g6 36 rfl
    obtain rfl : v6 = .slice As ns cs := s6
    obtain ⟨v7, s7, g7⟩ := h 7 _ rfl
    have e7 := g7 37 rfl
    obtain rfl : v7 = .bool true := s7
    obtain ⟨v8, s8, g8⟩ := h 8 _ rfl
    have e8 := g8 38 rfl
    obtain rfl : v8 = .bool false := s8
    obtain ⟨v9, s9, g9⟩ := h 9 _ rfl
    have e9 := g9 39 rfl
    obtain rfl : v9 = .bool false := s9
    obtain ⟨v10, s10, g10⟩ := h 10 _ rfl
    have e10 := g10 40 rfl
    obtain rfl : v10 = .bool false := s10
    obtain ⟨v11, s11, g11⟩ := h 11 _ rfl
    have e11 := g11 41 rfl
    obtain rfl : v11 = .slice Am nm cm := s11
    obtain ⟨v12, s12, g12⟩ := h 12 _ rfl
    have e12 := g12 42 rfl
    obtain rfl : v12 = .slice As ns cs := s12
    obtain ⟨v13, s13, g13⟩ := h 13 _ rfl
    have e13 := g13 43 rfl
    obtain rfl : v13 = .bool true := s13
    obtain ⟨v14, s14, g14⟩ := h 14 _ rfl
    have e14 := g14 44 rfl
    obtain rfl : v14 = .bool false := s14
    obtain ⟨v15, s15, g15⟩ := h 15 _ rfl
    have e15 := g15 45 rfl
    obtain rfl : v15 = .bool false := s15
    obtain ⟨v16, s16, g16⟩ := h 16 _ rfl
    have e16 := g16 46 rfl
    obtain rfl : v16 = .bool false := s16
    obtain ⟨v17, s17, g17⟩ := h 17 _ rfl
    have e17 := g17 47 rfl
    obtain rfl : v17 = .slice Am nm cm := s17
    obtain ⟨v18, s18, g18⟩ := h 18 _ rfl
    have e18 := g18 48 rfl
    replace s18 : ∃ A c, v18 = .slice A Y.length c ∧ Rd w9 1 A Y.length (bytesV Y) := s18
    obtain ⟨v19, s19, g19⟩ := h 19 _ rfl
    have e19 := g19 49 rfl
    obtain rfl : v19 = .string ⟨Y.toArray⟩ := s19
    obtain ⟨v20, s20, g20⟩ := h 20 _ rfl
    have e20 := g20 50 rfl
    obtain rfl : v20 = .slice As ns cs := s20
    obtain ⟨v21, s21, g21⟩ := h 21 _ rfl
    have e21 := g21 51 rfl
    replace s21 : ∃ A c, v21 = .slice A Y.length c ∧ Rd w9 1 A Y.length (bytesV Y) := s21
    obtain ⟨v22, s22, g22⟩ := h 22 _ rfl
    have e22 := g22 52 rfl
    obtain rfl : v22 = .string ⟨Y.toArray⟩ := s22
    obtain ⟨v23, s23, g23⟩ := h 23 _ rfl
    have e23 := g23 53 rfl
    obtain rfl : v23 = .bool false := s23
    obtain ⟨v24, s24, g24⟩ := h 24 _ rfl
    have e24 := g24 54 rfl
    obtain rfl : v24 = .bool false := s24
    obtain ⟨v25, s25, g25⟩ := h 25 _ rfl
    have e25 := g25 55 rfl
    obtain rfl : v25 = .bool false := s25
    obtain ⟨v26, s26, g26⟩ := h 26 _ rfl
    have e26 := g26 56 rfl
    obtain rfl : v26 = .slice Am nm cm := s26
    obtain ⟨v27, s27, g27⟩ := h 27 _ rfl
    have e27 := g27 57 rfl
    replace s27 : ∃ A c, v27 = .slice A Z.length c ∧ Rd w9 1 A Z.length (intsV Z) := s27
    obtain ⟨v28, s28, g28⟩ := h 28 _ rfl
    have e28 := g28 58 rfl
    obtain rfl : v28 = .slice A n c := s28
    obtain ⟨v29, s29, g29⟩ := h 29 _ rfl
    have e29 := g29 59 rfl
    replace s29 : ∃ A c, v29 = .slice A Z.length c ∧ Rd w9 1 A Z.length (intsV Z) := s29
    obtain ⟨v30, s30, g30⟩ := h 30 _ rfl
    have e30 := g30 60 rfl
    obtain rfl : v30 = .bool true := s30
    obtain ⟨v31, s31, g31⟩ := h 31 _ rfl
    have e31 := g31 61 rfl
    obtain rfl : v31 = .bool false := s31
    obtain ⟨v32, s32, g32⟩ := h 32 _ rfl
    have e32 := g32 62 rfl
    obtain rfl : v32 = .bool false := s32
    have ha := act_of [(30, .slice A n c), (31, .slice Am nm cm), (32, .bool true), (33, .bool false), (34, .bool false), (35, .slice A n c), (36, .slice As ns cs), (37, .bool true), (38, .bool false), (39, .bool false), (40, .bool false), (41, .slice Am nm cm), (42, .slice As ns cs), (43, .bool true), (44, .bool false), (45, .bool false), (46, .bool false), (47, .slice Am nm cm), (48, v18), (49, .string ⟨Y.toArray⟩), (50, .slice As ns cs), (51, v21), (52, .string ⟨Y.toArray⟩), (53, .bool false), (54, .bool false), (55, .bool false), (56, .slice Am nm cm), (57, v27), (58, .slice A n c), (59, v29), (60, .bool true), (61, .bool false), (62, .bool false)] rfl hsz hdf (by intro p hp; simp only [List.mem_cons, List.not_mem_nil, or_false] at hp; rcases hp with rfl | rfl | rfl | rfl | rfl | rfl | rfl | rfl | rfl | rfl | rfl | rfl | rfl | rfl | rfl | rfl | rfl | rfl | rfl | rfl | rfl | rfl | rfl | rfl | rfl | rfl | rfl | rfl | rfl | rfl | rfl | rfl | rfl <;> first | exact e0 | exact e1 | exact e2 | exact e3 | exact e4 | exact e5 | exact e6 | exact e7 | exact e8 | exact e9 | exact e10 | exact e11 | exact e12 | exact e13 | exact e14 | exact e15 | exact e16 | exact e17 | exact e18 | exact e19 | exact e20 | exact e21 | exact e22 | exact e23 | exact e24 | exact e25 | exact e26 | exact e27 | exact e28 | exact e29 | exact e30 | exact e31 | exact e32) hrest
    clear h hrest hsz hdf e0 e1 e2 e3 e4 e5 e6 e7 e8 e9 e10 e11 e12 e13 e14 e15 e16 e17 e18 e19 e20 e21 e22 e23 e24 e25 e26 e27 e28 e29 e30 e31 e32 g0 g1 g2 g3 g4 g5 g6 g7 g8 g9 g10 g11 g12 g13 g14 g15 g16 g17 g18 g19 g20 g21 g22 g23 g24 g25 g26 g27 g28 g29 g30 g31 g32
    subst ha
    simp only [List.foldl_cons, List.foldl_nil, Act.put, List.setIfInBounds_toArray, List.set_cons_succ, List.set_cons_zero]
  -- GAD CutSame6
    have HB9 := Lib.hid (HB.out.keep hE)
    have HA9 := Lib.hid (HA.out.keep hE)
    have HM9 := Lib.hid (HM.out.keep hE)
    have hX9 := HX5.out.trans hE
    have hms := merge_same xs ys
    have hmr : ∀ e ∈ mergeL (atoms xs), rightE e = true := merge_right fun x hx => ⟨atoms_right x hx, atoms_atom x hx⟩
    have hnr : ∀ e ∈ mergeL (atoms ys), rightE e = true := merge_right fun x hx => ⟨atoms_right x hx, atoms_atom x hx⟩
    have hmgl := mergeL_len (atoms ys)
    obtain ⟨K, hK⟩ : ∃ K, mergeL (atoms ys) = K := ⟨_, rfl⟩
    rw [HMX.out] at hms hmr
    rw [hK] at hms hnr hmgl
    obtain ⟨nn, hnn⟩ : ∃ nn, K.length = nn := ⟨_, rfl⟩
    have hn100 : (atoms ys).length ≤ 100000 := by omega
    have hm5 : m ≤ 100000 := by omega
    have HKX := Lib.hid hK
    have HNN := Lib.hid hnn
    have HMR := Lib.hid hmr
    have HNR := Lib.hid hnr
    have HMS := Lib.hid hms
    rw [hnn] at hmgl
    clear hK hnn hmr hnr hms hE HA HB HM HS HX5 E1 E2 E3 EY1 EY2 EZ1 EZ2
    go_wp2_with (go_at_call 11; refine (cutMerge HB9.out hm5 hmd (by omega)).mono ?_; rw [HKX.out]; rintro e w10 ⟨v10, rfl, hoN, hx10⟩; obtain ⟨An, cn, rfl, hcn, hmn, hEN⟩ := hoN.rd; rw [HNN.out] at hcn hEN ⊢; have HEN := Lib.hid hEN; clear hEN hoN)
    have HM10 := Lib.hid (HM9.out.keep hx10)
    have HA10 := Lib.hid (HA9.out.keep hx10)
    have HB10 := Lib.hid (HB9.out.keep hx10)
    have HX10 := Lib.hid (hX9.trans hx10)
    clear hx10 hX9
    go_loopw [10, 11] (fun a i wr => ∃ (k : Nat) (lk : Bool), k ≤ nm ∧ i = .int .i64 k ∧ a = .bool lk ∧ (lk = true → nm = nn ∧ M.take k = K.take k) ∧ (lk = false → M ≠ K) ∧ Ext w10 wr) (fun _ i _ => nm - (intOf i).toNat)
    case atStart =>
      refine ⟨0, decide (nm = nn), Nat.zero_le _, rfl, ?_, fun h => ⟨by simpa using h, by simp⟩, fun h => ?_, Ext.refl _⟩
      · by_cases h : nm = nn
        · simp [h]
        · simp [h]; omega
      · intro e
        have h1 := HNM.out
        have h2 := HNN.out
        rw [e] at h1
        have : ¬ nm = nn := by simpa using h
        omega
    case round =>
      obtain ⟨k, lk, hk, rfl, rfl, hlt, hlf, hx⟩ := hrel
      have HLT := Lib.hid hlt
      have HLF := Lib.hid hlf
      clear hlt hlf
      obtain ⟨r, hr⟩ : ∃ r, decide (atoms xs = atoms ys) = r := ⟨_, rfl⟩
      have HR := Lib.hid hr
      clear hr
      by_cases hgo : k < nm ∧ lk = true
      · obtain ⟨hkn, rfl⟩ := hgo
        obtain ⟨hnn, htk⟩ := HLT.out rfl
        obtain ⟨x, hxk⟩ : ∃ x, M[k]? = some x := ⟨_, List.getElem?_eq_getElem (by rw [HNM.out]; exact hkn)⟩
        obtain ⟨y, hyk⟩ : ∃ y, K[k]? = some y := ⟨_, List.getElem?_eq_getElem (by rw [HNN.out]; omega)⟩
        obtain ⟨b1, o1, Ax, cx, Bx, dx, rfl, hbl1, p0, p1, p2, p3, hevx, _⟩ := (HM10.out.keep hx).at4 hxk
        obtain ⟨b2, o2, Ay, cy, By, dy, rfl, hbl2, q0, q1, q2, q3, hevy, _⟩ := (HEN.out.keep hx).at4 hyk
        have hxm : x.m.length ≤ 1000000 := by have := (right_marks (HMR.out x (List.mem_of_getElem? hxk))).1; omega
        have hym : y.m.length ≤ 1000000 := by have := (right_marks (HNR.out y (List.mem_of_getElem? hyk))).1; omega
        have HEX := Lib.hid hevx
        have HEY := Lib.hid hevy
        have HXK := Lib.hid hxk
        have HYK := Lib.hid hyk
        have HTK := Lib.hid htk
        have HNE := Lib.hid hnn
        have hkn2 : k < nn := by omega
        clear hevx hevy hxk hyk htk hnn HLT HLF
        go_wp2
        -- DAG CutSame13
        refine wp_region_dag (E := Ext) (w0 := wr) (Φ := fun i v w => match i with | 0 => (v = .slice (some ⟨b1, o1, none⟩) nm cm) | 1 => (v = .int .i64 k) | 2 => (v = .pointer (some ⟨b1, o1 + k * 4, none⟩)) | 3 => (v = evA x (.slice Ax x.b.length cx) (.slice Bx x.m.length dx)) | 4 => (v = .slice (some ⟨b2, o2, none⟩) nn cn) | 5 => (v = .int .i64 k) | 6 => (v = .pointer (some ⟨b2, o2 + k * 4, none⟩)) | 7 => (v = evA y (.slice Ay y.b.length cy) (.slice By y.m.length dy)) | 8 => (v = .bool (decide (x = y))) | 9 => (v = .bool (decide (x = y))) | _ => True) (show Try.prog.follows .mixedOrders = true from Checked.mixed Try.checked) 93 rfl (by decide +kernel) ?_ ((Below.refl _ _).drew) ?_ ⟨?_, ?_, ?_, ?_, ?_, ?_, ?_, ?_, ?_, ?_, trivial⟩ ?_
        · intro i v w w' h hE
          match i, h with
          | 0, h => exact h
          | 1, h => exact h
          | 2, h => exact h
          | 3, h => exact h
          | 4, h => exact h
          | 5, h => exact h
          | 6, h => exact h
          | 7, h => exact h
          | 8, h => exact h
          | 9, h => exact h
          | _ + 10, _ => trivial
        · exact fun w w' h h' => h.trans h'
        · -- 0: t79 := move t7 
          intro ac wx hE hsz hdf h
          have e7 : ac.tmps[7]? = some (.slice (some ⟨b1, o1, none⟩) nm cm) := by obtain ⟨v, h1, h2⟩ := h 7 (by decide +kernel); exact h1.trans (h2.symm.trans rfl)
          clear h hsz hdf
          go_wp2
          exact ⟨_, rfl, rfl, Ext.refl _⟩
        · -- 1: t80 := move t11 
          intro ac wx hE hsz hdf h
          have e11 : ac.tmps[11]? = some (.int .i64 k) := by obtain ⟨v, h1, h2⟩ := h 11 (by decide +kernel); exact h1.trans (h2.symm.trans rfl)
          clear h hsz hdf
          go_wp2
          exact ⟨_, rfl, rfl, Ext.refl _⟩
        · -- 2: t81 := indexAddr 22 t79 t80 
          intro ac wx hE hsz hdf h
          have e79 : ac.tmps[79]? = some (.slice (some ⟨b1, o1, none⟩) nm cm) := by obtain ⟨v, h1, h2⟩ := h 79 (by decide +kernel); rw [h1]; exact congrArg some h2
          have e80 : ac.tmps[80]? = some (.int .i64 k) := by obtain ⟨v, h1, h2⟩ := h 80 (by decide +kernel); rw [h1]; exact congrArg some h2
          clear h hsz hdf
          go_wp2
          exact ⟨_, rfl, rfl, Ext.refl _⟩
        · -- 3: t82 := load 43 t81 
          intro ac wx hE hsz hdf h
          have e81 : ac.tmps[81]? = some (.pointer (some ⟨b1, o1 + k * 4, none⟩)) := by obtain ⟨v, h1, h2⟩ := h 81 (by decide +kernel); rw [h1]; exact congrArg some h2
          clear h hsz hdf
          have y0 := (hE.cell (p := ⟨b1, _, none⟩) hbl1).trans p0; have y1 := (hE.cell (p := ⟨b1, _, none⟩) hbl1).trans p1; have y2 := (hE.cell (p := ⟨b1, _, none⟩) hbl1).trans p2; have y3 := (hE.cell (p := ⟨b1, _, none⟩) hbl1).trans p3
          go_wp2
          exact ⟨_, rfl, rfl, Ext.refl _⟩
        · -- 4: t83 := move t9 
          intro ac wx hE hsz hdf h
          have e9 : ac.tmps[9]? = some (.slice (some ⟨b2, o2, none⟩) nn cn) := by obtain ⟨v, h1, h2⟩ := h 9 (by decide +kernel); exact h1.trans (h2.symm.trans rfl)
          clear h hsz hdf
          go_wp2
          exact ⟨_, rfl, rfl, Ext.refl _⟩
        · -- 5: t84 := move t11 
          intro ac wx hE hsz hdf h
          have e11 : ac.tmps[11]? = some (.int .i64 k) := by obtain ⟨v, h1, h2⟩ := h 11 (by decide +kernel); exact h1.trans (h2.symm.trans rfl)
          clear h hsz hdf
          go_wp2
          exact ⟨_, rfl, rfl, Ext.refl _⟩
        · -- 6: t85 := indexAddr 22 t83 t84 
          intro ac wx hE hsz hdf h
          have e83 : ac.tmps[83]? = some (.slice (some ⟨b2, o2, none⟩) nn cn) := by obtain ⟨v, h1, h2⟩ := h 83 (by decide +kernel); rw [h1]; exact congrArg some h2
          have e84 : ac.tmps[84]? = some (.int .i64 k) := by obtain ⟨v, h1, h2⟩ := h 84 (by decide +kernel); rw [h1]; exact congrArg some h2
          clear h hsz hdf
          go_wp2
          exact ⟨_, rfl, rfl, Ext.refl _⟩
        · -- 7: t86 := load 43 t85 
          intro ac wx hE hsz hdf h
          have e85 : ac.tmps[85]? = some (.pointer (some ⟨b2, o2 + k * 4, none⟩)) := by obtain ⟨v, h1, h2⟩ := h 85 (by decide +kernel); rw [h1]; exact congrArg some h2
          clear h hsz hdf
          have y0 := (hE.cell (p := ⟨b2, _, none⟩) hbl2).trans q0; have y1 := (hE.cell (p := ⟨b2, _, none⟩) hbl2).trans q1; have y2 := (hE.cell (p := ⟨b2, _, none⟩) hbl2).trans q2; have y3 := (hE.cell (p := ⟨b2, _, none⟩) hbl2).trans q3
          go_wp2
          exact ⟨_, rfl, rfl, Ext.refl _⟩
        · -- 8: t87 := call { value (Operand.func 19), args := #[t82, t86], argTypes := #[43, 43] } 
          intro ac wx hE hsz hdf h
          have e82 : ac.tmps[82]? = some (evA x (.slice Ax x.b.length cx) (.slice Bx x.m.length dx)) := by obtain ⟨v, h1, h2⟩ := h 82 (by decide +kernel); rw [h1]; exact congrArg some h2
          have e86 : ac.tmps[86]? = some (evA y (.slice Ay y.b.length cy) (.slice By y.m.length dy)) := by obtain ⟨v, h1, h2⟩ := h 86 (by decide +kernel); rw [h1]; exact congrArg some h2
          clear h hsz hdf
          go_wp2_with ((go_at_call 19; refine (rawSame (HEX.out.keep hE) (HEY.out.keep hE) hxm hym _ rfl).mono ?_; rintro e w9 ⟨rfl, hb9⟩))
          exact ⟨_, rfl, rfl, hb9⟩
        · -- 9: t10 := assign t87 
          intro ac wx hE hsz hdf h
          have e87 : ac.tmps[87]? = some (.bool (decide (x = y))) := by obtain ⟨v, h1, h2⟩ := h 87 (by decide +kernel); rw [h1]; exact congrArg some h2
          clear h hsz hdf
          go_wp2
          exact ⟨_, rfl, rfl, Ext.refl _⟩
        · intro ac w9 hE hsz hdf h hrest
          obtain ⟨v0, s0, g0⟩ := h 0 _ rfl
          have e0 := g0 79 rfl
          obtain rfl : v0 = .slice (some ⟨b1, o1, none⟩) nm cm := s0
          obtain ⟨v1, s1, g1⟩ := h 1 _ rfl
          have e1 := g1 80 rfl
          obtain rfl : v1 = .int .i64 k := s1
          obtain ⟨v2, s2, g2⟩ := h 2 _ rfl
          have e2 := g2 81 rfl
          obtain rfl : v2 = .pointer (some ⟨b1, o1 + k * 4, none⟩) := s2
          obtain ⟨v3, s3, g3⟩ := h 3 _ rfl
          have e3 := g3 82 rfl
          obtain rfl : v3 = evA x (.slice Ax x.b.length cx) (.slice Bx x.m.length dx) := s3
          obtain ⟨v4, s4, g4⟩ := h 4 _ rfl
          have e4 := g4 83 rfl
          obtain rfl : v4 = .slice (some ⟨b2, o2, none⟩) nn cn := s4
          obtain ⟨v5, s5, g5⟩ := h 5 _ rfl
          have e5 := g5 84 rfl
          obtain rfl : v5 = .int .i64 k := s5
          obtain ⟨v6, s6, g6⟩ := h 6 _ rfl
          have e6 := g6 85 rfl
          obtain rfl : v6 = .pointer (some ⟨b2, o2 + k * 4, none⟩) := s6
          obtain ⟨v7, s7, g7⟩ := h 7 _ rfl
          have e7 := g7 86 rfl
          obtain rfl : v7 = evA y (.slice Ay y.b.length cy) (.slice By y.m.length dy) := s7
          obtain ⟨v8, s8, g8⟩ := h 8 _ rfl
          have e8 := g8 87 rfl
          obtain rfl : v8 = .bool (decide (x = y)) := s8
          obtain ⟨v9, s9, g9⟩ := h 9 _ rfl
          have e9 := g9 10 rfl
          obtain rfl : v9 = .bool (decide (x = y)) := s9
          have ha := act_of [(79, .slice (some ⟨b1, o1, none⟩) nm cm), (80, .int .i64 k), (81, .pointer (some ⟨b1, o1 + k * 4, none⟩)), (82, evA x (.slice Ax x.b.length cx) (.slice Bx x.m.length dx)), (83, .slice (some ⟨b2, o2, none⟩) nn cn), (84, .int .i64 k), (85, .pointer (some ⟨b2, o2 + k * 4, none⟩)), (86, evA y (.slice Ay y.b.length cy) (.slice By y.m.length dy)), (87, .bool (decide (x = y))), (10, .bool (decide (x = y)))] rfl hsz hdf (by intro p hp; simp only [List.mem_cons, List.not_mem_nil, or_false] at hp; rcases hp with rfl | rfl | rfl | rfl | rfl | rfl | rfl | rfl | rfl | rfl <;> first | exact e0 | exact e1 | exact e2 | exact e3 | exact e4 | exact e5 | exact e6 | exact e7 | exact e8 | exact e9) hrest
          clear h hrest hsz hdf e0 e1 e2 e3 e4 e5 e6 e7 e8 e9 g0 g1 g2 g3 g4 g5 g6 g7 g8 g9
          subst ha
          simp only [List.foldl_cons, List.foldl_nil, Act.put, List.setIfInBounds_toArray, List.set_cons_succ, List.set_cons_zero]
        -- GAD CutSame13
          have htk2 : decide (x = y) = true → M.take (k + 1) = K.take (k + 1) := fun h => by
            have e : x = y := by simpa using h
            rw [List.take_add_one, List.take_add_one, HTK.out, HXK.out, HYK.out, e]
          have hne2 : decide (x = y) = false → M ≠ K := fun h e => by
            have hn : ¬ x = y := by simpa using h
            have h1 := HXK.out
            rw [e, HYK.out] at h1
            exact hn (Option.some.inj h1).symm
          obtain ⟨u, hu⟩ : ∃ u, decide (x = y) = u := ⟨_, rfl⟩
          rw [hu] at htk2 hne2 ⊢
          have HT2 := Lib.hid htk2
          have HN2 := Lib.hid hne2
          have hxx := hx.trans hE
          clear hu htk2 hne2 hE
          go_wp2
          go_roundw
          case rel => exact ⟨k + 1, u, hkn, by go_num, rfl, fun h => ⟨HNE.out, HT2.out h⟩, fun h => HN2.out h, hxx⟩
          case measure => simp [intOf]; omega
      · have hlk : lk = r := by
          rw [← HR.out]
          cases lk
          · rw [eq_comm, decide_eq_false]
            intro e
            exact HLF.out rfl (HMS.out.2 e)
          · rw [eq_comm, decide_eq_true]
            obtain ⟨h1, h2⟩ := HLT.out rfl
            have hkn : k = nm := by
              have : ¬ k < nm := fun h => hgo ⟨h, rfl⟩
              omega
            rw [List.take_of_length_le (by rw [HNM.out]; omega), List.take_of_length_le (by rw [HNN.out]; omega)] at h2
            exact HMS.out.1 h2
        subst hlk
        have HX2 := Lib.hid (HX10.out.trans hx)
        have HA2 := Lib.hid (HA10.out.keep hx)
        have HB2 := Lib.hid (HB10.out.keep hx)
        clear HLT HLF hx
        by_cases hkn : k < nm
        · have hl : lk = false := by
            cases lk
            · rfl
            · exact absurd ⟨hkn, rfl⟩ hgo
          subst hl
          clear hgo
          go_wp2_with (go_at_call 18; refine (cutSame HA2.out HB2.out hn5 hnc hm5 hmd false HR.out).mono ?_; rintro e w12 ⟨rfl, hx12⟩)
          go_ret
          exact ⟨rfl, HX2.out.trans hx12⟩
        · clear hgo
          go_wp2_with (go_at_call 18; refine (cutSame HA2.out HB2.out hn5 hnc hm5 hmd lk HR.out).mono ?_; rintro e w12 ⟨rfl, hx12⟩)
          go_ret
          exact ⟨by simp, HX2.out.trans hx12⟩
end Go.Proofs.Ytnbdmlpnoiljdaa
