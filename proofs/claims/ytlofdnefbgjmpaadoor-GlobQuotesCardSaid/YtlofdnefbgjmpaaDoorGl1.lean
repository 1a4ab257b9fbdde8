/- Globs: set, row, measured. -/
import Derived.Test.YtlofdnefbgjmpaaDoorTgO
import Derived.Test.YtlofdnefbgjmpaaDoorTgR
import Derived.Test.YtlofdnefbgjmpaaDoorTgQ
import Derived.Test.YtlofdnefbgjmpaaDoorGl0
import Derived.Deep.LoopGhost
namespace Go.Proofs.YtlofdnefbgjmpaaDoor
open Go Go.RowKit
attribute [local irreducible] wd

theorem results_nd1 {fn : Func} {p : Tmp} (h : fn.results = #[.cell p 28]) {tmps : Array Value} {w : World} {g : Nat} {cs : List Value}
    (hp : tmps.getD p undef = .pointer (some ⟨g, 0, none⟩)) (hg : Blk w g 28 cs) (h8 : cs.length = 8) : (results fn tmps).run Tryd.prog w = .ok (.agg cs.toArray) w := by
  rw [results_cell1 h, hp]
  have hl : (loadVar 28 ⟨g, 0, none⟩).run Tryd.prog w = .ok (.agg cs.toArray) w :=
    run_loadVar_row w g _ _ cs.toArray (0, 0) _ hg Tryd.underlying28 rfl (by rw [List.size_toArray, h8]; exact nd_size)
  simp [asAddr, hl, Result.andThen]
theorem leafV (S : Nat → Prop) (w : World) (q : Nat → Bool) : NodeV S w (.node 2 0 false q []) (nodeC 2 0 false q none 0 0) := by
  unfold NodeV
  exact ⟨none, 0, [], rfl, Nat.le_refl _, by unfold maxLen; omega, Rd.nil, fun _ _ _ e => by (cases e), by unfold KidsV; rfl⟩

set_option maxHeartbeats 2000000 in
set_option maxRecDepth 20000 in
theorem glSet (q : Nat → Bool) (w : World) :
    Calls Tryd.prog 58 #[sp q] w fun e w' => e = .returned (.agg (nodeC 2 0 false q none 0 0).toArray) ∧ Ext w w' := by
  have HX := Lib.hid (Ext.trans (Ext.new1 w (.cells #[.int .u64 (wd q 0 : Nat), .int .u64 (wd q 1 : Nat), .int .u64 (wd q 2 : Nat), .int .u64 (wd q 3 : Nat)] 25)) (Ext.new1 _ (.cells zN.toArray 28)))
  have HN := Lib.hid (Blk.newA (w := w.alloc (.cells #[.int .u64 (wd q 0 : Nat), .int .u64 (wd q 1 : Nat), .int .u64 (wd q 2 : Nat), .int .u64 (wd q 3 : Nat)] 25)) (g := w.heap.size + 1) (by simp) 28 zN)
  have HS := Lib.hid ((SB.new (w := w) rfl q).keep (Ext.new1 _ (.cells zN.toArray 28)))
  unfold zN at HX HN HS
  unfold sp
  go_enter Tryd.func58, Tryd.ntmps58
  go_upto_region 1 with fail
  have HG := Lib.hid (Nat.le_refl w.heap.size)
  generalize (w.alloc (.cells #[.int .u64 (wd q 0 : Nat), .int .u64 (wd q 1 : Nat), .int .u64 (wd q 2 : Nat), .int .u64 (wd q 3 : Nat)] 25)).alloc (.cells #[.int .i64 0, .int .i64 0, .bool false, .int .u64 0, .int .u64 0, .int .u64 0, .int .u64 0, .slice none 0 0] 28) = w2 at *
  obtain ⟨y0, y1, y2, y3⟩ := HS.out.cells
  go_wp2_with (refine store_nd rfl (.tmp 2) (.tmp 4) rfl (g := w.heap.size + 1) (nodeC 2 0 false q none 0 0) rfl rfl HN.out rfl rfl rfl ?_)
  exact bodyPost_ret (v := .agg (nodeC 2 0 false q none 0 0).toArray) (results_nd1 rfl rfl (Blk.row HN.out _) rfl) rfl ⟨rfl, HX.out.rowX _ _ (by omega)⟩

set_option maxHeartbeats 2000000 in
set_option maxRecDepth 20000 in
theorem glMeasured (E : Nat → Addr) (l : List UInt8) (w : World) (hE : Env E w) :
    Calls Tryd.prog 55 #[.string ⟨l.toArray⟩] w fun e w' => e = .returned (ev E (sizeErr l)) ∧ Ext w w' := by
  obtain ⟨e1, e2, e3, e4, e5, e6⟩ := hE.facts
  by_cases h1 : 120 < l.length
  · have HS := Lib.hid (show sizeErr l = 4 by unfold sizeErr; rw [if_pos h1])
    have hl1 : (120 : Int) < (l.length : Int) := by omega
    have hl3 : decide ((l.length : Int) > 120) = true := decide_eq_true hl1
    clear h1
    go_enter Tryd.func55, Tryd.ntmps55
    go_wp2
    go_ret
    exact ⟨by rw [HS.out]; rfl, by (first | exact Ext.refl _ | (unfold Ext; repeat (first | exact Below.refl _ _ | assumption | refine Below.alloc ?_ (by first | (simp; done) | (simp; omega) | omega) _ | refine Below.setCell ?_ (by first | (simp; done) | (simp; omega) | omega) _ | refine Below.drew ?_)))⟩
  · have hl1 : ¬ (120 : Int) < (l.length : Int) := by omega
    have hl3 : decide ((l.length : Int) > 120) = false := decide_eq_false hl1
    by_cases h2 : l = []
    · subst h2
      have HS := Lib.hid (show sizeErr [] = 15 from rfl)
      clear h1
      go_enter Tryd.func55, Tryd.ntmps55
      go_wp2
      go_ret
      exact ⟨by rw [HS.out]; rfl, by (first | exact Ext.refl _ | (unfold Ext; repeat (first | exact Below.refl _ _ | assumption | refine Below.alloc ?_ (by first | (simp; done) | (simp; omega) | omega) _ | refine Below.setCell ?_ (by first | (simp; done) | (simp; omega) | omega) _ | refine Below.drew ?_)))⟩
    · have HS := Lib.hid (show sizeErr l = 0 by unfold sizeErr; rw [if_neg h1, if_neg h2])
      have he : l.isEmpty = false := by simpa using h2
      clear h1
      go_enter Tryd.func55, Tryd.ntmps55
      go_wp2
      go_ret
      exact ⟨by rw [HS.out]; rfl, by (first | exact Ext.refl _ | (unfold Ext; repeat (first | exact Below.refl _ _ | assumption | refine Below.alloc ?_ (by first | (simp; done) | (simp; omega) | omega) _ | refine Below.setCell ?_ (by first | (simp; done) | (simp; omega) | omega) _ | refine Below.drew ?_)))⟩

set_option maxHeartbeats 4000000 in
set_option maxRecDepth 20000 in
theorem glRow (S : Nat → Prop) (ts : List T) (A : Option Addr) (cp : Nat) (cs : List Value) (w : World) (hcp : ts.length ≤ cp) (hcm : cp ≤ maxLen) (hR : Rd w 8 A ts.length cs) (hS : ∀ b o x, A = some ⟨b, o, x⟩ → 0 < ts.length → S b) (hK : KidsV S w ts cs) :
    Calls Tryd.prog 57 #[.slice A ts.length cp] w fun e w' => ∃ v : List Value, e = .returned (.agg v.toArray) ∧ NodeV S w' (rowT ts) v ∧ Ext w w' := by
  obtain ⟨gz, hgz⟩ : ∃ gz, w.heap.size = gz := ⟨_, rfl⟩
  have hN0 := Lib.hid (Blk.newA (w := w) hgz 28 zN)
  have hx0 := Lib.hid (Ext.new1 w (.cells zN.toArray 28))
  have HGZ := Lib.hid (Nat.le_of_eq hgz)
  have HR0 := Lib.hid hR
  have HK0 := Lib.hid hK
  have HR := Lib.hid (hR.keep (Ext.new1 w (.cells zN.toArray 28)))
  have HK := Lib.hid (kidsV_map (fun t v h => NodeV.keep h (Ext.new1 w (.cells zN.toArray 28))) hK)
  clear hR hK
  unfold zN at hN0 hx0 HR HK
  rcases ts with _ | ⟨t1, _ | ⟨t2, r⟩⟩
  · go_enter Tryd.func57, Tryd.ntmps57
    go_upto_region 3 with fail
    generalize w.alloc (.cells #[.int .i64 0, .int .i64 0, .bool false, .int .u64 0, .int .u64 0, .int .u64 0, .int .u64 0, .slice none 0 0] 28) = wa at *
    go_wp2_with (refine store_nd rfl (.tmp 2) (.tmp 10) rfl (g := gz) [.int .i64 3, .int .i64 0, .bool false, .int .u64 0, .int .u64 0, .int .u64 0, .int .u64 0, .slice A 0 cp] rfl rfl hN0.out rfl rfl rfl ?_)
    refine bodyPost_ret (v := .agg ([.int .i64 3, .int .i64 0, .bool false, .int .u64 0, .int .u64 0, .int .u64 0, .int .u64 0, .slice A 0 cp] : List Value).toArray) (results_nd1 rfl rfl (Blk.row hN0.out _) rfl) rfl ⟨_, rfl, ?_, hx0.out.rowX _ _ HGZ.out⟩
    show NodeV _ _ (.node 3 0 false noP []) _
    unfold NodeV
    unfold KidsV at HK
    exact ⟨A, cp, [], (node0 _ _ _ _ _ _).symm, hcp, hcm, ⟨rfl, fun h => absurd h (by simp)⟩, fun _ _ _ _ h => by (simp at h), by unfold KidsV; rfl⟩
  · obtain ⟨b, o, k', m', z', p', B, n', c', rfl, hv, hk⟩ := kid_at HR0.out HK0.out (i := 0) (by simp)
    have HV := Lib.hid (show NodeV S w t1 _ from hv)
    obtain ⟨c0, c1, c2, c3, c4, c5, c6, c7⟩ := hk.out _ hx0.out
    simp only [Nat.zero_mul, Nat.add_zero] at c0 c1 c2 c3 c4 c5 c6 c7
    clear hv hk
    go_enter Tryd.func57, Tryd.ntmps57
    go_upto_region 2 with fail
    generalize w.alloc (.cells #[.int .i64 0, .int .i64 0, .bool false, .int .u64 0, .int .u64 0, .int .u64 0, .int .u64 0, .slice none 0 0] 28) = wa at *
    go_wp2_with (refine store_nd rfl (.tmp 2) (.tmp 8) rfl (g := gz) (nodeC k' m' z' p' B n' c') rfl rfl hN0.out rfl rfl rfl ?_)
    exact bodyPost_ret (v := .agg (nodeC k' m' z' p' B n' c').toArray) (results_nd1 rfl rfl (Blk.row hN0.out _) rfl) rfl ⟨_, rfl, HV.out.keep (hx0.out.rowX _ _ HGZ.out), hx0.out.rowX _ _ HGZ.out⟩
  · have hn1 : ((r.length : Int) + 1 + 1 == 1) = false := by rw [beq_eq_false_iff_ne]; omega
    go_enter Tryd.func57, Tryd.ntmps57
    go_upto_region 3 with fail
    generalize w.alloc (.cells #[.int .i64 0, .int .i64 0, .bool false, .int .u64 0, .int .u64 0, .int .u64 0, .int .u64 0, .slice none 0 0] 28) = wa at *
    go_wp2_with (refine store_nd rfl (.tmp 2) (.tmp 10) rfl (g := gz) [.int .i64 3, .int .i64 0, .bool false, .int .u64 0, .int .u64 0, .int .u64 0, .int .u64 0, .slice A (r.length + 1 + 1) cp] rfl rfl hN0.out rfl rfl rfl ?_)
    refine bodyPost_ret (v := .agg ([.int .i64 3, .int .i64 0, .bool false, .int .u64 0, .int .u64 0, .int .u64 0, .int .u64 0, .slice A (r.length + 1 + 1) cp] : List Value).toArray) (results_nd1 rfl rfl (Blk.row hN0.out _) rfl) rfl ⟨_, rfl, ?_, hx0.out.rowX _ _ HGZ.out⟩
    have hbase : NodeV S w (.node 3 0 false noP (t1 :: t2 :: r)) [.int .i64 3, .int .i64 0, .bool false, .int .u64 0, .int .u64 0, .int .u64 0, .int .u64 0, .slice A (r.length + 1 + 1) cp] := by
      unfold NodeV
      exact ⟨A, cp, cs, (node0 _ _ _ _ _ _).symm, hcp, hcm, HR0.out, hS, HK0.out⟩
    exact hbase.keep (hx0.out.rowX _ _ HGZ.out)
end Go.Proofs.YtlofdnefbgjmpaaDoor
