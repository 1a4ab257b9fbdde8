/- Globs: TrimLeft, Plain. -/
import Derived.Test.YtlofdnefbgjmpaaDoorGl1
namespace Go.Proofs.YtlofdnefbgjmpaaDoor
open Go Go.RowKit
attribute [local irreducible] wd

set_option maxHeartbeats 2000000 in
set_option maxRecDepth 20000 in
theorem glTrimByte (l : List UInt8) (hl : l.length ≤ 10000) (w : World) :
    Calls Tryd.prog 113 #[.string ⟨l.toArray⟩, .int .u8 42] w fun e w' => e = .returned (.string ⟨(l.drop (stars l)).toArray⟩) ∧ w' = w := by
  go_enter Tryd.func113, Tryd.ntmps113
  go_upto_region 1 with fail
  go_loopg [0] l.length (fun gg sv wr => ∃ m : List UInt8, m.drop (stars m) = l.drop (stars l) ∧ m.length ≤ l.length ∧ gg = m.length ∧ sv = .string ⟨m.toArray⟩ ∧ wr = w)
  case atStart => exact ⟨l, rfl, Nat.le_refl _, rfl, rfl, rfl⟩
  case round =>
    obtain ⟨m, hm, hml, rfl, rfl, rfl⟩ := hrel
    have HM := Lib.hid hm
    have HML := Lib.hid hml
    clear hm hml
    rcases m with _ | ⟨c, r⟩
    · go_wp2
      go_ret
      exact ⟨by rw [← HM.out]; rfl, rfl⟩
    · have HL := Lib.hid (show r.length + 1 ≤ 10000 by have := HML.out; simp at this; omega)
      have hlr : (r.length : Int) + 1 ≤ 9223372036854775807 := by have := HL.out; omega
      by_cases h42 : c = 42
      · subst h42
        have HD := Lib.hid (show r.drop (stars r) = l.drop (stars l) by rw [← HM.out, stars_cons, if_pos rfl]; rfl)
        go_wp2
        go_roundg r.length
        case measure => simp
        case rel => exact ⟨r, HD.out, by have := HML.out; simp at this; omega, rfl, by simp, rfl⟩
      · have HD := Lib.hid (show (c :: r : List UInt8) = l.drop (stars l) by rw [← HM.out, stars_cons, if_neg h42]; rfl)
        have hb : ((c.toNat : Int) == 42) = false := by
          rw [beq_eq_false_iff_ne]
          intro e
          exact h42 (UInt8.toNat_inj.1 (show c.toNat = 42 by omega))
        clear h42
        go_wp2
        go_ret
        exact ⟨by rw [← HD.out]; rfl, rfl⟩

set_option maxHeartbeats 2000000 in
set_option maxRecDepth 20000 in
theorem glTrim (l : List UInt8) (hl : l.length ≤ 10000) (h0 : l ≠ []) (w : World) :
    Calls Tryd.prog 88 #[.string ⟨l.toArray⟩, .string ⟨#[42]⟩] w fun e w' => e = .returned (.string ⟨(l.drop (stars l)).toArray⟩) ∧ w' = w := by
  have he : l.isEmpty = false := by simpa using h0
  go_enter Tryd.func88, Tryd.ntmps88
  go_wp2_with (go_at_call 113; refine (glTrimByte l hl _).mono ?_; rintro e w1 ⟨rfl, rfl⟩)
  all_goals
    go_ret
    exact ⟨rfl, rfl⟩

theorem row_end {w : World} {gz : Nat} {A : Option Addr} {cp : Nat} {acc : List T} {cs : List Value} (hgt : ∀ b, (Value.slice A acc.length cp).ownBlock = some b → gz < b) (hR : Rd w 8 A acc.length cs) : ∀ b o x, A = some ⟨b, o, x⟩ → 0 < acc.length → gz < b := by
  intro b o x e h0
  refine hgt b ?_
  rw [e]
  cases x with
  | none => rfl
  | some y =>
    exfalso
    obtain ⟨b', o', e', _⟩ := hR.2 (by rw [hR.1]; omega)
    rw [e] at e'
    cases e'

set_option maxHeartbeats 8000000 in
set_option maxRecDepth 20000 in
theorem glPlain (E : Nat → Addr) (l : List UInt8) (hl : l.length ≤ 10000) (w : World) (hE : Env E w) :
    Calls Tryd.prog 17 #[.string ⟨l.toArray⟩] w fun e w' => RRes E w (plainG l) e w' := by
  obtain ⟨gz, hgz⟩ : ∃ gz, w.heap.size = gz := ⟨_, rfl⟩
  have hN0 := Lib.hid (Blk.newA (w := w) hgz 28 zN)
  have hx0 := Lib.hid (Ext.new1 w (.cells zN.toArray 28))
  have HE := Lib.hid hE
  have HGZ := Lib.hid hgz
  have HE0 := Lib.hid (hE.keep hx0.out)
  clear hE
  unfold zN at hN0 hx0 HE0
  rcases hk : sizeErr l with _ | k
  · have HK := Lib.hid (show plainG l = .ok (rowT (l.map byteT)) 0 0 by unfold plainG; rw [if_pos hk])
    have HS := Lib.hid hk
    clear hk
    go_enter Tryd.func17, Tryd.ntmps17
    go_upto_region 5 with (go_at_call 55; refine (glMeasured E l _ HE0.out).mono ?_; rintro e w1 ⟨rfl, hx1⟩; rw [HS.out]; unfold ev)
    have HX1 := Lib.hid (Ext.trans hx0.out hx1)
    have HN1 := Lib.hid (hN0.out.keep hx1)
    have HE1 := Lib.hid (HE0.out.keep hx1)
    clear hx0 hN0 hx1 HE0
    obtain ⟨cap, w2, hconv, hrd, hb2, _, _⟩ := conv_bytes (P := Tryd.prog) w1 Tryd.underlying9 Tryd.underlying91 Tryd.underlying5 l (by omega)
    have HRD := Lib.hid hrd
    have HX2 := Lib.hid (Ext.trans HX1.out hb2)
    have HN2 := Lib.hid (HN1.out.keep hb2)
    have HE2 := Lib.hid (HE1.out.keep hb2)
    go_upto_region 6 with fail
    clear hconv hrd hb2 HN1 HE1 HX1
    generalize w1.heap.size = gb at *
    have HZB := Lib.hid (show gz < w2.heap.size from HN2.out.lt)
    go_loopg [5, 17] l.length (fun gg kv iv wr => ∃ (k : Nat) (acc : List T), k ≤ l.length ∧ gg = l.length - k ∧ iv = .int .i64 (k : Nat) ∧ acc = (l.take k).map byteT ∧ acc.length = k ∧ Row w2 gz kv acc wr ∧ Ext w2 wr)
    case atStart => exact ⟨0, [], Nat.zero_le _, by simp, rfl, rfl, rfl, Row.nil, Ext.refl _⟩
    case round =>
      obtain ⟨iq, acc, hi, rfl, rfl, hacc, hal, ⟨⟨cs, hown, hks⟩, hgt⟩, hx⟩ := hrel
      have HACC := Lib.hid hacc
      have HAL := Lib.hid hal
      have HOWN := Lib.hid hown
      have HKS := Lib.hid hks
      have HGT := Lib.hid hgt
      have HX := Lib.hid hx
      clear hacc hal hown hks hgt hx
      by_cases hlt : iq < l.length
      · have hcell : wr.cell? ⟨gb, iq, none⟩ = some (.int .u8 (l[iq].toNat : Int)) := by
          obtain ⟨b, o, e, _, hc⟩ := (HRD.out.keep HX.out).2 (by simp [bytesV]; omega)
          cases e
          have := hc iq _ (List.getElem?_eq_getElem (by simp [bytesV]; omega))
          simpa [bytesV, U8] using this
        have h256 := Lib.hid (show (l[iq]'hlt).toNat < 256 from UInt8.toNat_lt _)
        have hwi : IntKind.i64.wrap ((iq : Int) + 1) = (iq : Int) + 1 := wrap_id (by omega) (by omega)
        have HT := Lib.hid (show acc ++ [byteT (l[iq]'hlt)] = (l.take (iq + 1)).map byteT by rw [List.take_succ_eq_append_getElem hlt, List.map_append, HACC.out]; rfl)
        have HB := Lib.hid (show byteT (l[iq]'hlt) = .node 2 0 false (fun j => j == (l[iq]'hlt).toNat) [] from rfl)
        generalize (l[iq]'hlt).toNat = cn at *
        generalize byteT (l[iq]'hlt) = tb at *
        go_upto_region 8 with fail
        clear hcell
        go_wp2_with (first
          | (go_at_call 59; refine (setOne cn h256.out _).mono ?_; rintro e wA ⟨rfl, hxA⟩)
          | (go_at_call 58; refine (glSet (fun j => j == cn) _).mono ?_; rintro e wB ⟨rfl, hxB⟩; generalize (fun j : Nat => j == cn) = q at *; have HRN := Lib.hid (rd_newS wB 8 1 (nodeC 2 0 false q none 0 0) 28 rfl); have HXN := Lib.hid (Ext.trans (Ext.trans hxA hxB) (Ext.new1 wB (.cells (nodeC 2 0 false q none 0 0).toArray 28))); have HSN := Lib.hid (show (wB.alloc (.cells (nodeC 2 0 false q none 0 0).toArray 28)).heap.size = wB.heap.size + 1 by simp); clear hxA hxB; unfold nodeC at HRN HXN HSN ⊢)
          | (refine wpList_app2 elemNd rfl (.tmp 21) (.tmp 25) rfl (v := u5) (n := acc.length) (xs := cs) rfl (own_ext HOWN.out HXN.out) (Ext.trans HX.out HXN.out).size (A := some ⟨wB.heap.size, 0, none⟩) (m := 1) (c := 1) (news := nodeC 2 0 false q none 0 0) rfl HRN.out (by intro u hu; simp [nodeC] at hu; rcases hu with rfl | rfl | rfl | rfl | rfl | rfl | rfl | rfl <;> rfl) (by have := HAL.out; omega) (by have := HAL.out; unfold maxLen; omega) ?_; intro v8 w8 hown8 hgr8 _ hat8))
        go_roundg (l.length - (iq + 1))
        case measure => omega
        case rel =>
          refine ⟨iq + 1, acc ++ [tb], by omega, rfl, rfl, HT.out, by simp; exact HAL.out, Row.app (own_ext HOWN.out HXN.out) (kidsV_map (fun t v h => NodeV.keep h HXN.out) HKS.out) HGT.out (HB.out ▸ leafV _ _ q) hown8 hgr8 hat8 ?_, hgr8.below (Ext.trans HX.out HXN.out) (Nat.le_refl _) (Ext.trans HX.out HXN.out).size⟩
          have := (Ext.trans HX.out HXN.out).size
          have := HZB.out
          omega
      · obtain rfl : iq = l.length := by omega
        have HK' := Lib.hid (show plainG l = .ok (rowT acc) 0 0 by rw [HK.out, HACC.out, List.take_length])
        obtain ⟨A, cp, hu, hcp, hcm, hrd⟩ := own_rd HOWN.out
        subst hu
        have HCP := Lib.hid hcp
        have HCM := Lib.hid hcm
        have HRR := Lib.hid hrd
        have HNZ := Lib.hid (HN2.out.keep HX.out)
        clear hcp hcm hrd
        go_wp2_with (first
          | (go_at_call 57; refine (glRow (fun b => gz < b) acc A cp cs _ HCP.out HCM.out HRR.out (row_end HGT.out HRR.out) (kidsV_map (fun t v h => NodeV.mono h (fun _ _ h => h.1)) HKS.out)).mono ?_; rintro e wC ⟨v, rfl, hv, hxC⟩; obtain ⟨k', m', z', p', B', n', c', rfl⟩ := nodeV_form hv; have HVC := Lib.hid hv; have HXC := Lib.hid (Ext.trans (Ext.trans HX2.out HX.out) hxC); have HNC := Lib.hid (HNZ.out.keep hxC); clear hv hxC)
          | (refine store_nd rfl (.tmp 2) (.tmp 29) rfl (g := gz) (nodeC k' m' z' p' B' n' c') rfl rfl HNC.out rfl rfl rfl ?_))
        refine bodyPost_ret (v := .tuple #[.agg (nodeC k' m' z' p' B' n' c').toArray, .nilIface]) (results_nd2 rfl rfl (Blk.row HNC.out _) rfl rfl) rfl (.ok_ HK'.out (Ext.rowX HXC.out _ _ (by rw [HGZ.out]; exact Nat.le_refl _)) rfl ((HVC.out.chg (rowChg _ _ _ (List.mem_singleton.2 rfl)) (by intro y hy; simp at hy; omega)).mono (fun b _ h => by rw [HGZ.out]; omega)))
  · have HK := Lib.hid (show plainG l = .err (k + 1) by unfold plainG; rw [if_neg (by rw [hk]; omega), hk])
    have HS := Lib.hid hk
    have hn := fun w => run_eql_iface_nil (P := Tryd.prog) (w := w) 30 (by kernel_rfl) 233 (.pointer (some (E k)))
    clear hk
    go_enter Tryd.func17, Tryd.ntmps17
    go_wp2_with (first
      | (go_at_call 55; refine (glMeasured E l _ HE0.out).mono ?_; rintro e w1 ⟨rfl, hx1⟩; rw [HS.out]; unfold ev errV)
      | (refine store_nd rfl (.tmp 2) (.tmp 12) rfl (g := gz) zN rfl rfl (hN0.out.keep hx1) rfl rfl rfl ?_))
    exact bodyPost_ret (v := .tuple #[.agg zN.toArray, ev E (k + 1)]) (results_nd2 rfl rfl (Blk.row (hN0.out.keep hx1) _) rfl rfl) rfl (.err_ HK.out (Ext.rowX (Ext.trans hx0.out hx1) _ _ (by rw [HGZ.out]; exact Nat.le_refl _)) rfl)
end Go.Proofs.YtlofdnefbgjmpaaDoor
