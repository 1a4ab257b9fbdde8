/- The document's timers: Set, Tick. -/
import Derived.Test.YtnbdmlpnoiljdaaDoorTm14
namespace Go.Proofs.YtnbdmlpnoiljdaaDoor
open Go Go.RowKit

theorem ModTurned.of_ext {w w' : World} {B mb : Nat} {v : Value} {now : Int} {M : List (Int × Int)} (h : ModAt w B mb v now M) (hx : Ext w w') : ModTurned w w' B mb v now M :=
  ⟨v, h.keep hx, .of_ext hx, fun _ hk => .inl hk⟩
theorem ModTurned.trans {w w1 w2 : World} {B mb : Nat} {v u : Value} {T : Int} {N : List (Int × Int)} (hc : Chg [mb] w w1) (hu : ∀ k, u.ownBlock = some k → v.ownBlock = some k ∨ w.heap.size ≤ k) (h : ModTurned w1 w2 B mb u T N) : ModTurned w w2 B mb v T N := by
  obtain ⟨v', h1, h2, h3⟩ := h
  refine ⟨v', h1, hc.trans h2, fun k hk => ?_⟩
  rcases h3 k hk with h4 | h4
  · exact hu k h4
  · exact .inr (Nat.le_trans hc.size h4)
/-- What the document's Set answers. -/
def SetMod (now key at' : Int) (M M' : List (Int × Int)) (c : Int) : Prop :=
  ((at' < now ∨ 1099511627776 < at') ∧ c = 1 ∧ M' = M) ∨
  (now ≤ at' ∧ at' ≤ 1099511627776 ∧ (∀ y ∈ M, y.2 ≠ key) ∧ M.length = 16 ∧ c = 2 ∧ M' = M) ∨
  (now ≤ at' ∧ at' ≤ 1099511627776 ∧ ((∃ x ∈ M, x.2 = key) ∨ M.length ≠ 16) ∧ c = 0 ∧ M' = dropK key M ++ [(at', key)])

set_option maxHeartbeats 2000000 in
set_option maxRecDepth 20000 in
/-- It goes through. -/
theorem refSetOk {w : World} {B mb : Nat} {v : Value} {now : Int} {M : List (Int × Int)} (h : ModAt w B mb v now M) (hlen : M.length ≤ 100) (key at' : Int) (h1 : now ≤ at') (h2 : at' ≤ 1099511627776) (hroom : (∃ x ∈ M, x.2 = key) ∨ M.length ≠ 16) :
    Calls Tryd.prog 44 #[.pointer (some ⟨mb, 0, none⟩), .int .i64 key, .int .i64 at'] w fun e w' => e = .returned (.int .i64 0) ∧ ModTurned w w' B mb v now (dropK key M ++ [(at', key)]) := by
  have HH := Lib.hid h
  have HR := Lib.hid hroom
  have e0 : w.cell? ⟨mb, 0, none⟩ = some (.int .i64 now) := h.blk.cell 0
  have d1 : decide (at' < now) = false := decide_eq_false (by omega)
  have d2 : decide (1099511627776 < at') = false := decide_eq_false (by omega)
  clear h hroom h1 h2
  obtain ⟨b, hat, hb0⟩ := refAtB HH.out (by omega) key
  have hb : b = true ∨ (b = false ∧ M.length ≠ 16) := by
    rcases hb0 with ⟨hb, _⟩ | ⟨hb, hno⟩
    · exact .inl hb
    · refine .inr ⟨hb, ?_⟩
      rcases HR.out with ⟨x, hx, he⟩ | hl
      · exact absurd he (hno x hx)
      · exact hl
  clear hb0
  have HA := Lib.hid hat
  clear hat
  obtain ⟨A0, c0, hv, hnc, hcm, _⟩ := HH.out.own.rd
  have e1 : w.cell? ⟨mb, 1, none⟩ = some (.slice A0 M.length c0) := by rw [← hv]; exact HH.out.blk.cell 1
  have hmb := HH.out.blk.lt
  have HV := Lib.hid hv
  clear hv
  have hsub : (dropK key M).length ≤ 100 := Nat.le_trans (List.filter_sublist).length_le hlen
  obtain ⟨n, hn⟩ : ∃ n, M.length = n := ⟨_, rfl⟩
  obtain ⟨m, hm⟩ : ∃ m, (dropK key M).length = m := ⟨_, rfl⟩
  have HLE := Lib.hid (show M.length ≤ 1000 by omega)
  have HM := Lib.hid hm
  rw [hm] at hsub
  rw [hn] at e1 hb hnc hlen
  have hcore : ∀ w3, Ext w w3 → ModAt w3 B mb v now M := fun w3 hx => HH.out.keep hx
  have HC := Lib.hid hcore
  clear hn hm hcore
  rcases hb with rfl | ⟨rfl, hn16⟩
  all_goals try (have hq : ((n : Int) == 16) = false := by simp; omega)
  all_goals try clear hn16
  all_goals go_enter Tryd.func44, Tryd.ntmps44
  all_goals
    go_wp2_with (first
      | (at_builtin; refine wpList_app2 (base := w4.heap.size) Tryd.elemPr rfl (.tmp 44) (.tmp 48) rfl (v := .slice A5 m c5) rfl (own_alloc HO5.out _) (by simp; omega) rfl (rd_newT _ 2 1 [.int .i64 key, .int .i64 at'] 121 rfl (by simp)) (by simp [Value.oneCell']) (by omega) (by unfold maxLen; omega) ?_; intro v6 w6 hown6 hg6 _ hat6; obtain ⟨A6, c6, rfl, _, _, _⟩ := own_rd hown6; have hx6 : Ext w4 w6 := hg6.below (Ext.trans hx5 (Ext.new1 _ _)) (Nat.le_refl _) (by simp; omega); have y6 := (hx6.cell (p := ⟨mb, 1, none⟩) HM4.out.blk.lt).trans y1; have f6 := (HM4.out.blk.keep hx6).frozen 1)
      | (at_builtin; go_loud (refine wpList_app2 (base := w4.heap.size) Tryd.elemPr rfl (.tmp 39) (.tmp 43) rfl (v := .slice (some ⟨w4.heap.size, 0, none⟩) 0 0) rfl (own_empty w4 121 2) (by simp) rfl (HR4.out.keep (Ext.new1 _ _)) (one_tmC _) (by omega) (by unfold maxLen; omega) ?_); intro v5 w5 hown5 hg5 _ hat5; have hown5' : w5.ownsRow w4.heap.size 121 2 v5 m (tmC (swL (dropK key M))) := (by simpa using hown5); obtain ⟨A5, c5, rfl, _, _, _⟩ := own_rd hown5'; have HO5 := Lib.hid hown5'; have hx5 : Ext w4 w5 := hg5.below (Ext.new1 w4 _) (Nat.le_refl _) (by simp); have hz5 := hx5.size; clear hown5 hown5')
      | (go_at_call 46; go_loud (refine (refDrop (HC.out w3 hx3) HLE.out key).mono ?_); rintro e w4 ⟨b4, rfl, _, v4, hM4, hc4, hv4⟩; obtain ⟨A4, c4, rfl, hnc4, hcm4, hr4⟩ := hM4.own.rd; have y1 : w4.cell? ⟨mb, 1, none⟩ = some (.slice A4 m c4) := (by have h1 := hM4.blk.cell 1; rw [HM.out] at h1; exact h1); rw [HM.out] at hr4 hnc4; have z1 := ((Ext.new1 w4 (.cells #[] 121)).cell (p := ⟨mb, 1, none⟩) hM4.blk.lt).trans y1; have HR4 := Lib.hid hr4; have HM4 := Lib.hid hM4; have HC4 := Lib.hid hc4; clear hr4 hM4 hc4)
      | (go_at_call 51; go_loud (refine HA.out.mono ?_); rintro e w3 ⟨a3, rfl, hx3⟩; have x1 := (hx3.cell (p := ⟨mb, 1, none⟩) hmb).trans e1))
    go_ret
    refine ⟨rfl, ModTurned.trans ((Chg.of_ext hx3).trans HC4.out) (fun k hk => ?_) (HM4.out.store (w1 := w6) (N := dropK key M ++ [(at', key)]) ?_ ?_)⟩
    · rcases hv4 k hk with h | h
      · exact .inl h
      · exact .inr (Nat.le_trans hx3.size h)
    · exact hx6
    · rw [swC_snoc, List.length_append, HM.out]
      exact hown6
end Go.Proofs.YtnbdmlpnoiljdaaDoor
