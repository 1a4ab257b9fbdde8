/- layer 39: CutParts, the walk. -/
import Derived.Test.YtnbdmlpnoiljdaaRef8
namespace Go.Proofs.Ytnbdmlpnoiljdaa
open Go Go.RowKit

theorem cuts_right {sz : Nat → Nat} (hsz : ∀ k, 1 ≤ sz k) {e : Ev} (h : rightE e = true) (hs : ¬ sizeE e < 0) {N : Nat} (hN : (N : Int) = sizeE e) : ∀ (f a c : Nat), ∀ x ∈ (cutsE sz e N f a c).1, rightE x = true := by
  intro f
  induction f with
  | zero => intro a c x hx; simp [cutsE] at hx
  | succ f ih =>
    intro a c x hx
    by_cases hlt : a < N
    · have := hsz c
      simp only [cutsE, if_pos hlt, List.mem_cons] at hx
      rcases hx with rfl | hx
      · exact (part_right h hs (by omega) (by omega)).1
      · exact ih _ _ x hx
    · simp [cutsE, hlt] at hx
theorem split_right {sz : Nat → Nat} (hsz : ∀ k, 1 ≤ sz k) : ∀ (l : List Ev) (c : Nat), ∀ x ∈ (splitL sz l c).1, rightE x = true := by
  intro l
  induction l with
  | nil => intro c x hx; simp [splitL] at hx
  | cons e r ih =>
    intro c x hx
    simp only [splitL, List.mem_append] at hx
    rcases hx with hx | hx
    · unfold splitE at hx
      by_cases h : rightE e = true
      · rw [if_pos h] at hx
        by_cases hs : sizeE e < 0
        · rw [if_pos hs] at hx; simp at hx; subst hx; exact h
        · rw [if_neg hs] at hx; exact cuts_right hsz h hs (by omega) _ _ _ x hx
      · rw [if_neg h] at hx; simp at hx
    · exact ih _ x hx

set_option maxHeartbeats 8000000 in
set_option maxRecDepth 20000 in
theorem lawParts {w : World} {xs : List Ev} {l : List Int} {A C : Option Addr} {n c q f : Nat} (ha : EvsRd w [] A n xs) (hl : Rd w 1 C q (intsV l)) (hnc : n ≤ c) (hlb : ∀ x ∈ l, -9223372036854775808 ≤ x ∧ x ≤ 9223372036854775807) (hq : q ≤ maxLen) :
    Calls Try.prog 3 #[.slice A n c, .slice C q f] w fun e w' => e = .returned (.bool true) ∧ Ext w w' := by
  have HA0 := Lib.hid ha
  have HL0 := Lib.hid hl
  have HLB := Lib.hid hlb
  have hnl : xs.length = n := by obtain ⟨vs, _, h, _⟩ := ha; exact h
  have HNL := Lib.hid hnl
  unfold maxLen at hq
  clear ha hl hlb hnl
  go_enter Try.func3, Try.ntmps3
  by_cases hq20 : q ≤ 20
  rotate_left
  · go_wp2_with (first
      | (go_at_call 6; refine (long39 (HA0.out.keep hx1) hnc).mono ?_; rintro e w2 ⟨ra, rfl, hx2, hla2⟩; cases ra)
      | (go_at_call 5; refine (alive39 _).mono ?_; rintro e w1 ⟨rfl, hx1⟩))
    all_goals (go_ret; exact ⟨rfl, hx1.trans hx2⟩)
  obtain ⟨T, hT⟩ : ∃ T, atoms xs = T := ⟨_, rfl⟩
  obtain ⟨M, hM⟩ : ∃ M, mergeL T = M := ⟨_, rfl⟩
  obtain ⟨S, hS⟩ : ∃ S, (splitL (szOf l) xs 0).1 = S := ⟨_, rfl⟩
  have hTs : ∀ e ∈ T, e.m.length ≤ 1000000 := fun e he => by rw [← hT] at he; have := atom_small (atoms_atom e he); omega
  have hMs : ∀ e ∈ M, e.m.length ≤ 1000000 := fun e he => by
    rw [← hM, ← hT] at he
    have := (right_marks (merge_right (fun x hx => ⟨atoms_right x hx, atoms_atom x hx⟩) e he)).1
    omega
  have hSs : ∀ e ∈ S, e.m.length ≤ 1000000 := fun e he => by
    rw [← hS] at he
    have := (right_marks (split_right (fun k => (szOf_pos l k).1) xs 0 e he)).1
    omega
  have hTb : ∀ e ∈ T, 0 ≤ e.n ∧ e.n ≤ 9999 ∧ e.b.length ≤ 1024 := fun e he => by rw [← hT] at he; exact atom_bounds (atoms_right e he) (atoms_atom e he)
  have HT := Lib.hid hT
  have HM := Lib.hid hM
  have HS := Lib.hid hS
  have HTS := Lib.hid hTs
  have HMS := Lib.hid hMs
  have HSS := Lib.hid hSs
  have HTB := Lib.hid hTb
  obtain ⟨NT, hNT⟩ : ∃ q, T.length = q := ⟨_, rfl⟩
  obtain ⟨NM, hNM⟩ : ∃ q, M.length = q := ⟨_, rfl⟩
  obtain ⟨NS, hNS⟩ : ∃ q, S.length = q := ⟨_, rfl⟩
  have hNM' : NM ≤ NT := by rw [← hNM, ← hNT, ← hM]; exact mergeL_len T
  have hNS' : NS ≤ NT := by rw [← hNS, ← hNT, ← hS, ← hT]; exact split_len (fun k => (szOf_pos l k).1) xs 0
  have HNT := Lib.hid hNT
  have HNM := Lib.hid hNM
  have HNS := Lib.hid hNS
  have hTa : (NT : Int) ≤ 4 * sumW xs + 4 * n := by
    have := atoms_len xs
    rw [hT, hNT, HNL.out] at this
    exact this
  clear hT hM hS hTs hMs hSs hTb hNT hNM hNS
  go_wp2_with (first
    | (go_at_call 10; have hx13' := hx4.trans (hx5.trans (hx6.trans (hx7.trans (hx8.trans (hx9.trans (hx10.trans (hx12.trans hx13))))))); refine (refAtoms [w13.heap.size] (by simp) (hRO.keep (hx13'.trans (Ext.new1 w13 (.cells #[] 3)))) (by omega) hcO hes6).mono ?_; rw [HT.out]; rintro e w14 ⟨v14, rfl, hoU, hx14⟩; obtain ⟨Au, cu, rfl, hcU, -, hRU⟩ := hoU.rd; rw [HNT.out] at hcU hRU hoU ⊢)
    | (go_at_call 8; refine (docSame (hES.keep hx12) hRS (by omega) hcS hcS2 HSS.out).mono ?_; rintro e w13 ⟨rfl, hx13⟩)
    | (go_at_call 14; refine (refSplit (l := l) (hRO.keep (hx4.trans (hx5.trans (hx6.trans (hx7.trans (hx8.trans (hx9.trans hx10))))))) (by omega) hcO hes6 (HL0.out.keep (hx10'.trans hx10)) (by omega) HLB.out).mono ?_; rw [HS.out]; rintro e w12 ⟨v12, rfl, hoRS, hx12⟩; obtain ⟨Ars, crs, rfl, hcS2, -, hRS⟩ := hoRS.rd; rw [HNS.out] at hcS2 hRS ⊢)
    | (go_at_call 13; refine (cutSplit (l := l) (HA0.out.keep hx10') (by omega) hnc (HL0.out.keep hx10') (by omega) HLB.out).mono ?_; rw [HS.out]; rintro e w10 ⟨v10, rfl, hoS, hx10⟩; obtain ⟨As, cs, rfl, hcS, -, hES⟩ := hoS.rd; rw [HNS.out] at hcS hES ⊢)
    | (go_at_call 8; refine (docSame (hEM.keep hx8) hRM (by omega) hcM hcM2 HMS.out).mono ?_; rintro e w9 ⟨rfl, hx9⟩; have hx10' := hx3'.trans (hx4.trans (hx5.trans (hx6.trans (hx7.trans (hx8.trans hx9))))))
    | (go_at_call 12; refine (refMerge (hRO.keep (hx4.trans (hx5.trans (hx6.trans hx7)))) (by omega) hcO hes6 (by rw [HT.out, HNT.out]; omega)).mono ?_; rw [HT.out, HM.out]; rintro e w8 ⟨v8, rfl, hoRM, hx8⟩; obtain ⟨Arm, crm, rfl, hcM2, -, hRM⟩ := hoRM.rd; rw [HNM.out] at hcM2 hRM ⊢)
    | (go_at_call 11; refine (cutMerge (HA0.out.keep (hx3'.trans (hx4.trans (hx5.trans hx6)))) (by omega) hnc (by rw [HT.out, HNT.out]; omega)).mono ?_; rw [HT.out, HM.out]; rintro e w7 ⟨v7, rfl, hoM, hx7⟩; obtain ⟨Am, cm, rfl, hcM, -, hEM⟩ := hoM.rd; rw [HNM.out] at hcM hEM ⊢)
    | (go_at_call 8; refine (docSame (hET.keep hx5) hRT (by omega) hcT hcT2 HTS.out).mono ?_; rintro e w6 ⟨rfl, hx6⟩)
    | (go_at_call 10; refine (refAtoms [] (by simp) (hRO.keep hx4) (by omega) hcO hes6).mono ?_; rw [HT.out]; rintro e w5 ⟨v5, rfl, hoRT, hx5⟩; obtain ⟨Art, crt, rfl, hcT2, -, hRT⟩ := hoRT.rd; rw [HNT.out] at hcT2 hRT ⊢)
    | (go_at_call 9; refine (cutAtoms (HA0.out.keep hx3') (by omega) hnc).mono ?_; rw [HT.out]; rintro e w4 ⟨v4, rfl, hoT, hx4⟩; obtain ⟨Aat, cat, rfl, hcT, -, hET⟩ := hoT.rd; rw [HNT.out] at hcT hET ⊢)
    | (go_at_call 7; obtain ⟨hn20, hsw, hal⟩ := hla2 (by simp); have hes6 : ∀ e ∈ xs, e.b.length ≤ 1000000 ∧ e.m.length ≤ 1000000 := (fun e he => by have := hal e he; omega); refine (lawOfs (HA0.out.keep (hx1.trans hx2)) (by omega) hnc).mono ?_; rintro e w3 ⟨v3, rfl, hoO, hx3⟩; obtain ⟨Ao, co, rfl, hcO, -, hRO⟩ := hoO.rd; rw [HNL.out] at hcO hRO ⊢; have hx3' := hx1.trans (hx2.trans hx3))
    | (go_at_call 6; refine (long39 (HA0.out.keep hx1) hnc).mono ?_; rintro e w2 ⟨ra, rfl, hx2, hla2⟩; cases ra)
    | (go_at_call 5; refine (alive39 _).mono ?_; rintro e w1 ⟨rfl, hx1⟩))
  rotate_left
  · go_ret
    exact ⟨rfl, hx1.trans hx2⟩
  obtain ⟨g, hg⟩ : ∃ g, w13.heap.size = g := ⟨_, rfl⟩
  have hUb : ∀ b o s, Au = some ⟨b, o, s⟩ → b ∉ [g] := fun b o s e hb => by
    have h1 := (hoU.own_lt b (by rw [e]; rfl)).1
    simp at h1 hb
    omega
  have hrow : w14.ownsRow g 3 1 (.slice (some ⟨g, 0, none⟩) 0 0) 0 [] := by
    have h0 := own_empty w13 3 1
    rw [hg] at h0
    exact own_ext h0 hx14
  have hgl : g < w14.heap.size := by have h1 := hx14.size; simp at h1; omega
  have hgw : w.heap.size ≤ g := by rw [← hg]; exact (hx3'.trans hx13').size
  have hxw14 : Ext w w14 := (hx3'.trans hx13').trans ((Ext.new1 w13 _).trans hx14)
  rw [hg] at hRU ⊢
  have HRU := Lib.hid hRU
  have HUB := Lib.hid hUb
  have HXW := Lib.hid hxw14
  have hjl := jm_len (atoms xs) 0
  rw [HT.out, HNT.out] at hjl
  clear hxw14 hUb hRU hoU hoS hoM hoT hoRS hoRM hoRT hES hRS hEM hRM hET hRT hx1 hx2 hx3 hx4 hx5 hx6 hx7 hx8 hx9 hx10 hx12 hx13 hx14 hx3' hx10' hx13' hoO hRO hal hla2 hcS hcS2 hcM hcM2 hcT hcT2 hg
  go_loopw [6, 7, 49] (fun by_ mk i wr => ∃ (k : Nat) (L : List UInt8) (J : List Int) (Aj : Option Addr) (cj : Nat), k ≤ NT ∧ i = .int .i64 k ∧ by_ = .string ⟨L.toArray⟩ ∧ mk = .slice Aj J.length cj ∧ bytesL (T.take k) = L ∧ jm 0 (T.take k) = J ∧
    wr.ownsRow g 3 1 (.slice Aj J.length cj) J.length (intsV J) ∧ (∀ q, (Value.slice Aj J.length cj).ownBlock = some q → q ∈ [g] ∨ w14.heap.size ≤ q) ∧ Chg [g] w14 wr) (fun _ _ i _ => NT - (intOf i).toNat)
  case atStart => exact ⟨0, [], [], some ⟨g, 0, none⟩, 0, Nat.zero_le _, rfl, rfl, rfl, rfl, rfl, hrow, fun q hq => .inl (by simp [Value.ownBlock] at hq; simp [hq]), Chg.refl _ _⟩
  case round =>
    clear hrow
    obtain ⟨k, L, J, Aj, cj, hk, rfl, rfl, rfl, hL, hJ, hown, hat, hc⟩ := hrel
    have hxwr : Ext w wr := hc.below HXW.out HXW.out.size (by simp; exact hgw)
    have hszr := hc.size
    have hJl : J.length ≤ NT := by
      have := jm_len (T.take k) 0
      rw [hJ, List.length_take] at this
      omega
    by_cases hlt : k < NT
    · obtain ⟨e, he⟩ : ∃ e, T[k]? = some e := ⟨_, List.getElem?_eq_getElem (by rw [HNT.out]; exact hlt)⟩
      obtain ⟨b1, o1, B1, d1, rfl, hbl, p0, p1, p2', p3, hev', _⟩ := (HRU.out.chg hc (fun y hy => .inl hy) HUB.out).at4 he
      have p2 : wr.cell? ⟨b1, o1 + k * 4 + 2, none⟩ = some (.string ⟨e.b.toArray⟩) := p2'
      have htk := take_snoc he
      have hL1 : bytesL (T.take (k + 1)) = L ++ e.b := by rw [htk, bytesL_append, hL]; simp [bytesL]
      have hJ1 : jm 0 (T.take (k + 1)) = J ++ (if e.m = [] then [] else [(L.length : Int)]) := by rw [htk, jm_snoc, hJ, hL]
      obtain ⟨_, _, ht2⟩ := take_bounds HTB.out (k + 1)
      rw [hL1, List.length_append] at ht2
      have hcat : ¬ 9223372036854775807 < L.length + e.b.length := by omega
      have HL1 := Lib.hid hL1
      have HJ1 := Lib.hid hJ1
      have HOWN := Lib.hid hown
      have HAT := Lib.hid hat
      have HC := Lib.hid hc
      have hx1 := Ext.new1 wr (.cells #[.int .i64 e.kind, .int .i64 e.n, .string ⟨e.b.toArray⟩, .slice B1 e.m.length d1] 34)
      have HX1 := Lib.hid hx1
      have HB5 := Lib.hid (show Blk (wr.alloc (.cells #[.int .i64 e.kind, .int .i64 e.n, .string ⟨e.b.toArray⟩, .slice B1 e.m.length d1] 34)) wr.heap.size 34 [.int .i64 e.kind, .int .i64 e.n, .string ⟨e.b.toArray⟩, .slice B1 e.m.length d1] from Blk.new wr 34 #[.int .i64 e.kind, .int .i64 e.n, .string ⟨e.b.toArray⟩, .slice B1 e.m.length d1])
      clear p2' hev' he htk hL hJ hL1 hJ1 hown hat hc hx1 ht2
      by_cases hm : e.m = []
      · have hml : e.m.length = 0 := by rw [hm]; rfl
        rw [hml] at p3 HX1
        rw [if_pos hm, List.append_nil] at HJ1
        clear hml hm HB5
        go_wp2
        exact ⟨⟨k + 1, L ++ e.b, J, Aj, cj, hlt, by go_num, rfl, rfl, HL1.out, HJ1.out, own_ext HOWN.out HX1.out, HAT.out, HC.out.trans (Chg.of_ext HX1.out)⟩, by simp [intOf]; omega⟩
      · have hml : 0 < e.m.length := List.length_pos_iff.2 hm
        rw [if_neg hm] at HJ1
        clear hm
        go_wp2_with (at_builtin; go_loud (refine wpList_app2 (base := g) Try.elemI rfl (.tmp 57) (.tmp 60) rfl (v := .slice Aj J.length cj) (n := J.length) rfl (own_ext HOWN.out (HX1.out.trans (Ext.new1 _ _))) (by simp; omega) rfl (rd_at (by simp)) (by simp [Value.oneCell']) (by omega) (by unfold maxLen; omega) ?_); intro v4 w4 hown4 hg4 _ hat4; obtain ⟨A4, c4, rfl, -, -, -⟩ := own_rd hown4; have hb54 := (HB5.out.keep (Ext.new1 _ (.cells #[.int .i64 L.length] 3))).grew hg4 (fun h => by have := (HOWN.out.lt _ h.symm).2; omega); have z2 : w4.cell? ⟨wr.heap.size, 2, none⟩ = some (.string ⟨e.b.toArray⟩) := hb54.cell 2; have HOWN4 := Lib.hid hown4; have HG4 := Lib.hid hg4; have HAT4 := Lib.hid hat4; clear hown4 hg4 hat4 hb54)
        have hc4 : Chg [g] w14 w4 := (HC.out.trans (Chg.of_ext (HX1.out.trans (Ext.new1 _ (.cells #[.int .i64 L.length] 3))))).more HG4.out.chg (fun y hy => HAT.out y (by simpa using hy))
        have hJv : intsV (J ++ [(L.length : Int)]) = intsV J ++ [.int .i64 L.length] := by simp [intsV]
        have hJn : (J ++ [(L.length : Int)]).length = J.length + 1 := by simp
        have HJV := Lib.hid hJv
        have HJN := Lib.hid hJn
        clear hJv hJn
        refine ⟨⟨k + 1, L ++ e.b, J ++ [(L.length : Int)], A4, c4, hlt, by go_num, rfl, by rw [HJN.out], HL1.out, HJ1.out, by rw [HJN.out, HJV.out]; exact HOWN4.out, ?_, hc4⟩, by simp [intOf]; omega⟩
        rw [HJN.out]
        intro q hq
        rcases HAT4.out with h | h
        · rw [h] at hq; exact HAT.out q hq
        · rw [h] at hq
          cases hq
          right
          have := HX1.out.size
          simp at *
          omega
    · obtain rfl : k = NT := by omega
      rw [List.take_of_length_le (by rw [HNT.out]; exact Nat.le_refl _)] at hL hJ
      have EB := Lib.hid (show bytesR xs = L by unfold bytesR; rw [HT.out]; exact hL)
      have EJ := Lib.hid (show marksR xs = J by unfold marksR; rw [HT.out]; exact hJ)
      have hrd := own_rd hown
      obtain ⟨Ah, ch, heq, -, -, hrdJ⟩ := hrd
      cases heq
      have HRDJ := Lib.hid hrdJ
      have HXR := Lib.hid hxwr
      clear hL hJ hown hat hc hrdJ hxwr
      go_wp2_with (first
        | (go_at_call 16; refine (sameInts J J A6 Aj J.length c6 J.length cj _ hrd6 (HRDJ.out.keep (hx15.trans hx16)) (by omega) (by omega) true (by simp)).mono ?_; rintro e w17 ⟨rfl, hx17⟩)
        | (go_at_call 17; refine (cutMarks (HA0.out.keep (HXR.out.trans hx15)) (by omega) hnc).mono ?_; rw [EJ.out]; rintro e w16 ⟨v16, rfl, ho16, hx16⟩; obtain ⟨A6, c6, rfl, -, -, hrd6⟩ := own_rd ho16)
        | (go_at_call 15; refine (cutBytes (HA0.out.keep HXR.out) (by omega) hnc).mono ?_; rw [EB.out]; rintro e w15 ⟨v15, rfl, ho15, hx15⟩; obtain ⟨A5, c5, rfl, -, -, hrd5⟩ := own_rd ho15; have hcv := conv_str (P := Try.prog) (c := c5) Try.underlying35 Try.underlying5 Try.underlying9 hrd5))
      go_ret
      exact ⟨by simp, HXR.out.trans (hx15.trans (hx16.trans hx17))⟩
end Go.Proofs.Ytnbdmlpnoiljdaa
