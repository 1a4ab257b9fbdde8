/- Globs: Parse. -/
import Derived.Test.YtlofdnefbgjmpaaDoorGl3
namespace Go.Proofs.YtlofdnefbgjmpaaDoor
open Go Go.RowKit
attribute [local irreducible] wd

theorem item_len {l : List UInt8} : (itemG l).2.1 ≤ l.length := by
  cases l with
  | nil => exact Nat.le_refl _
  | cons c r =>
    rw [itemG_cons]
    (repeat' split)
    · exact stars_le _
    · simp
    · exact parse_len _
    · exact esc_len _
    · simp
theorem items_no_out : ∀ f l acc, l.length < f → itemsG f l acc ≠ .out := by
  intro f
  induction f with
  | zero => intro l acc h; omega
  | succ f ih =>
    intro l acc h
    rw [itemsG]
    by_cases hl : l = []
    · rw [if_pos hl]; intro e; cases e
    · rw [if_neg hl]
      by_cases he : (itemG l).2.2 = 0
      · rw [if_pos he]
        have := (item_pos hl he).1
        have h0 := List.length_pos_iff.2 hl
        exact ih _ _ (by rw [List.length_drop]; omega)
      · rw [if_neg he]; intro e; cases e

set_option maxHeartbeats 8000000 in
set_option maxRecDepth 20000 in
theorem glParse (E : Nat → Addr) (l : List UInt8) (hl : l.length ≤ 10000) (w : World) (hE : Env E w) :
    Calls Tryd.prog 16 #[.string ⟨l.toArray⟩] w fun e w' => RRes E w (parseG l) e w' := by
  obtain ⟨gz, hgz⟩ : ∃ gz, w.heap.size = gz := ⟨_, rfl⟩
  have hN0 := Lib.hid (Blk.newA (w := w) hgz 28 zN)
  have hx0 := Lib.hid (Ext.new1 w (.cells zN.toArray 28))
  have HE0 := Lib.hid (hE.keep hx0.out)
  have HGZ := Lib.hid (Nat.le_of_eq hgz)
  clear hE
  unfold zN at hN0 hx0 HE0
  rcases hk : sizeErr l with _ | k
  focus
    have HK := Lib.hid (show parseG l = itemsG (l.length + 1) l [] by unfold parseG; rw [if_pos hk])
    have HS := Lib.hid hk
    obtain ⟨R, hR⟩ : ∃ R, parseG l = R := ⟨_, rfl⟩
    have HRR := Lib.hid hR
    have HNO := Lib.hid (show R ≠ .out by rw [← hR, HK.out]; exact items_no_out _ _ _ (Nat.lt_succ_self _))
    clear hk hR
    go_enter Tryd.func16, Tryd.ntmps16
    go_upto_region 5 with (go_at_call 55; refine (glMeasured E l _ HE0.out).mono ?_; rintro e w1 ⟨rfl, hx1⟩; rw [HS.out]; unfold ev)
    have HX1 := Lib.hid (Ext.trans hx0.out hx1)
    have HN1 := Lib.hid (hN0.out.keep hx1)
    have HE1 := Lib.hid (HE0.out.keep hx1)
    have HZ1 := Lib.hid (show gz < w1.heap.size from HN1.out.lt)
    clear hx0 hN0 hx1 HE0
    go_loopg [0, 5] (l.length + 1) (fun gg sv kv wr => ∃ (m : List UInt8) (acc : List T), itemsG gg m acc = R ∧ acc.length + m.length ≤ l.length ∧ gg ≤ l.length + 1 ∧ sv = .string ⟨m.toArray⟩ ∧ Row w1 gz kv acc wr ∧ Ext w1 wr)
    case atStart => exact ⟨l, [], by rw [← HK.out, HRR.out], by simp, Nat.le_refl _, rfl, Row.nil, Ext.refl _⟩
    case round =>
      obtain ⟨m, acc, hR, hal, hgl, rfl, ⟨⟨cs, hown, hks⟩, hgt⟩, hx⟩ := hrel
      rcases gk with _ | g
      · exact absurd (by rw [← hR]; rfl) HNO.out
      rw [itemsG] at hR
      have HAL := Lib.hid hal
      have HGL := Lib.hid hgl
      have HOWN := Lib.hid hown
      have HKS := Lib.hid hks
      have HGT := Lib.hid hgt
      have HX := Lib.hid hx
      have HNW := Lib.hid (HN1.out.keep hx)
      have HEW := Lib.hid (HE1.out.keep hx)
      clear hal hgl hown hks hgt hx
      by_cases hm : m = []
      · subst hm
        rw [if_pos rfl] at hR
        have HK' := Lib.hid (show parseG l = .ok (rowT acc) 0 0 by rw [HRR.out, ← hR])
        clear hR
        obtain ⟨A, cp, hu, hcp, hcm, hrd⟩ := own_rd HOWN.out
        subst hu
        have HCP := Lib.hid hcp
        have HCM := Lib.hid hcm
        have HRD := Lib.hid hrd
        clear hcp hcm hrd
        go_wp2_with (first
          | (go_at_call 57; refine (glRow (fun b => gz < b) acc A cp cs _ HCP.out HCM.out HRD.out (row_end HGT.out HRD.out) (kidsV_map (fun t v h => NodeV.mono h (fun _ _ h => h.1)) HKS.out)).mono ?_; rintro e wC ⟨v, rfl, hv, hxC⟩; obtain ⟨k', m', z', p', B', n', c', rfl⟩ := nodeV_form hv; have HVC := Lib.hid hv; have HXC := Lib.hid (Ext.trans (Ext.trans HX1.out HX.out) hxC); have HNC := Lib.hid (HNW.out.keep hxC); clear hv hxC)
          | (refine store_nd rfl (.tmp 2) (.tmp 36) rfl (g := gz) (nodeC k' m' z' p' B' n' c') rfl rfl HNC.out rfl rfl rfl ?_))
        exact bodyPost_ret (v := .tuple #[.agg (nodeC k' m' z' p' B' n' c').toArray, .nilIface]) (results_nd2 rfl rfl (Blk.row HNC.out _) rfl rfl) rfl (.ok_ HK'.out (Ext.rowX HXC.out _ _ HGZ.out) rfl ((HVC.out.chg (rowChg _ _ _ (List.mem_singleton.2 rfl)) (by intro y hy; simp at hy; omega)).mono (fun b _ h => by have := HGZ.out; omega)))
      · rw [if_neg hm] at hR
        have hm0 : 0 < m.length := List.length_pos_iff.2 hm
        have HM0 := Lib.hid hm
        have HIT := Lib.hid (glItem E m (by have := HAL.out; omega) hm wr HEW.out)
        have HNL := Lib.hid (item_len (l := m))
        have HPO := Lib.hid (fun h => (item_pos hm h).1)
        clear hm
        obtain ⟨⟨t, n, k⟩, hi⟩ : ∃ x, itemG m = x := ⟨_, rfl⟩
        rw [hi] at hR HIT HNL HPO
        dsimp only at hR HNL HPO
        clear hi
        rcases k with _ | k
        · rw [if_pos rfl] at hR
          have HRk := Lib.hid hR
          have hnl := HNL.out
          have hnl2 : (n : Int) ≤ (m.length : Int) := by omega
          clear hR
          go_upto_region 6 with fail
          go_wp2_with fail
          go_at_call 56
          refine HIT.out.mono ?_
          rintro e w5 ⟨hx5, v, rfl, hv⟩
          obtain ⟨kk, mm, zz, qq, BB, nn, cc, rfl⟩ := nodeV_form hv
          have hv5 : NodeV (fun b => gz < b ∧ some b ≠ u5.ownBlock) w5 t (nodeC kk mm zz qq BB nn cc) := hv.mono (fun b _ h => by
            have h : wr.heap.size ≤ b := h
            have := HX.out.size
            have := HZ1.out
            exact ⟨by omega, fun e => by have := (HOWN.out.lt b e.symm).2; omega⟩)
          have hx6 := Ext.new1 w5 (.cells (nodeC kk mm zz qq BB nn cc).toArray 28)
          have HV6 := Lib.hid (hv5.keep hx6)
          have HX6 := Lib.hid (Ext.trans hx5 hx6)
          have HB6 := Lib.hid (NodeB.new w5 kk mm zz qq BB nn cc)
          clear hv hv5 hx5 hx6
          unfold nodeC at HX6 HV6 HB6 ⊢
          unfold ev
          go_upto_region 9 with fail
          generalize w5.alloc (.cells #[.int .i64 kk, .int .i64 mm, .bool zz, .int .u64 (wd qq 0 : Nat), .int .u64 (wd qq 1 : Nat), .int .u64 (wd qq 2 : Nat), .int .u64 (wd qq 3 : Nat), .slice BB nn cc] 28) = w6 at *
          generalize w5.heap.size = g6 at *
          obtain ⟨b0, b1, b2, b3, b4, b5, b6, b7⟩ := HB6.out.cells
          have HRN := Lib.hid (rd_newS w6 8 1 (nodeC kk mm zz qq BB nn cc) 28 rfl)
          have HXN := Lib.hid (Ext.trans HX6.out (Ext.new1 w6 (.cells (nodeC kk mm zz qq BB nn cc).toArray 28)))
          have HVN := Lib.hid (HV6.out.keep (Ext.new1 w6 (.cells (nodeC kk mm zz qq BB nn cc).toArray 28)))
          unfold nodeC at HRN HXN HVN
          go_wp2_with (refine wpList_app2 elemNd rfl (.tmp 28) (.tmp 30) rfl (v := u5) (n := acc.length) (xs := cs) rfl (own_ext HOWN.out HXN.out) (Ext.trans HX.out HXN.out).size (A := some ⟨w6.heap.size, 0, none⟩) (m := 1) (c := 1) (news := nodeC kk mm zz qq BB nn cc) rfl HRN.out (by intro u hu; simp [nodeC] at hu; rcases hu with rfl | rfl | rfl | rfl | rfl | rfl | rfl | rfl <;> rfl) (by have := HAL.out; omega) (by have := HAL.out; unfold maxLen; omega) ?_; intro v8 w8 hown8 hgr8 _ hat8)
          go_roundg g
          case measure => omega
          case rel =>
            refine ⟨m.drop n, acc ++ [t], HRk.out, ?_, by have := HGL.out; omega, by simp, Row.app (own_ext HOWN.out HXN.out) (kidsV_map (fun t v h => NodeV.keep h HXN.out) HKS.out) HGT.out HVN.out hown8 hgr8 hat8 ?_, hgr8.below (Ext.trans HX.out HXN.out) (Nat.le_refl _) (Ext.trans HX.out HXN.out).size⟩
            · have := HAL.out
              have := HPO.out trivial
              simp
              omega
            · have := (Ext.trans HX.out HXN.out).size
              have := HZ1.out
              omega
        · rw [if_neg (by omega)] at hR
          have HKE := Lib.hid (show parseG l = .err (k + 1) by rw [HRR.out, ← hR])
          have hn := fun w => run_eql_iface_nil (P := Tryd.prog) (w := w) 30 (by kernel_rfl) 233 (.pointer (some (E k)))
          clear hR
          go_upto_region 6 with fail
          go_wp2_with fail
          go_at_call 56
          refine HIT.out.mono ?_
          rintro e w5 ⟨hx5, v, rfl, hv⟩
          obtain ⟨kk, mm, zz, qq, BB, nn, cc, rfl⟩ := nodeV_form hv
          have hx6 := Ext.new1 w5 (.cells (nodeC kk mm zz qq BB nn cc).toArray 28)
          have HX6 := Lib.hid (Ext.trans hx5 hx6)
          clear hv hx5 hx6
          unfold nodeC at HX6 ⊢
          unfold ev errV
          go_wp2_with (refine store_nd rfl (.tmp 2) (.tmp 26) rfl (g := gz) zN rfl rfl (HNW.out.keep HX6.out) rfl rfl rfl ?_)
          exact bodyPost_ret (v := .tuple #[.agg zN.toArray, ev E (k + 1)]) (results_nd2 rfl rfl (Blk.row (HNW.out.keep HX6.out) _) rfl rfl) rfl (.err_ HKE.out (Ext.rowX (Ext.trans (Ext.trans HX1.out HX.out) HX6.out) _ _ HGZ.out) rfl)
  · have HK := Lib.hid (show parseG l = .err (k + 1) by unfold parseG; rw [if_neg (by rw [hk]; omega), hk])
    have HS := Lib.hid hk
    have hn := fun w => run_eql_iface_nil (P := Tryd.prog) (w := w) 30 (by kernel_rfl) 233 (.pointer (some (E k)))
    clear hk
    go_enter Tryd.func16, Tryd.ntmps16
    go_wp2_with (first
      | (go_at_call 55; refine (glMeasured E l _ HE0.out).mono ?_; rintro e w1 ⟨rfl, hx1⟩; rw [HS.out]; unfold ev errV)
      | (refine store_nd rfl (.tmp 2) (.tmp 13) rfl (g := gz) zN rfl rfl (hN0.out.keep hx1) rfl rfl rfl ?_))
    exact bodyPost_ret (v := .tuple #[.agg zN.toArray, ev E (k + 1)]) (results_nd2 rfl rfl (Blk.row (hN0.out.keep hx1) _) rfl rfl) rfl (.err_ HK.out (Ext.rowX (Ext.trans hx0.out hx1) _ _ HGZ.out) rfl)
end Go.Proofs.YtlofdnefbgjmpaaDoor
