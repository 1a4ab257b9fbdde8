/- What trees say: the chapter's example: walked. -/
import Derived.Test.YtmfdnjddggaeaaaDoorMn7
import Derived.Test.YtmfdnjddggaeaaaDoorTgO
namespace Go.Proofs.YtmfdnjddggaeaaaDoor
open Go Go.RowKit
attribute [local irreducible] wd

def mnExL : List UInt8 := [97, 43]
def mnEx : T := .node 6 0 false noP [oneT 97]
theorem mnEx_parse : parseR mnExL = .ok mnEx 2 0 := by kernel_rfl
theorem mnEx_size : mnEx.size = 2 := by rfl
theorem mnEx_ends : endsA mnEx [97, 97, 98] 0 = [1, 2] := by decide +kernel
theorem mnEx_aa : saysA mnEx [97, 97] = true := by rw [← says_endsA]; decide +kernel
theorem mnEx_ab : saysA mnEx [97, 98] = false := by rw [← says_endsA]; decide +kernel
theorem rd_two (w : World) (x y : Value) (e : TypeId) : Rd (w.alloc (.cells #[x, y] e)) 1 (some ⟨w.heap.size, 0, none⟩) 2 [x, y] := by
  have := Blk.rd (n := 2) (size := 1) (Blk.newA (w := w) rfl e [x, y]) 0 (by simp)
  simpa using this

set_option maxHeartbeats 4000000 in
set_option maxRecDepth 20000 in
theorem alive27 (E : Nat → Addr) (w : World) (hE : Env E w) :
    Calls Tryd.prog 34 #[] w fun e w' => e = .returned (.bool true) ∧ Ext w w' := by
  have HE := Lib.hid hE
  clear hE
  go_enter Tryd.func34, Tryd.ntmps34
  go_wp2_with fail
  go_at_call 39
  refine (rxParse E mnExL w HE.out).mono ?_
  rintro e w1 hP
  rw [mnEx_parse] at hP
  obtain ⟨hx1, v, rfl, hv⟩ := hP
  obtain ⟨k, m, z, s, A, n, c, rfl⟩ := nodeV_form hv
  have hx2 := Lib.hid (Ext.trans hx1 (Ext.new1 w1 (.cells (nodeC k m z s A n c).toArray 27)))
  have HV := Lib.hid (hv.keep (Ext.new1 w1 (.cells (nodeC k m z s A n c).toArray 27)))
  have HB := Lib.hid (NodeB.new w1 k m z s A n c)
  clear hv hx1
  unfold nodeC at hx2 HV ⊢
  go_upto_region 2 with fail
  generalize w1.alloc (.cells #[.int .i64 k, .int .i64 m, .bool z, .int .u64 (wd s 0 : Nat), .int .u64 (wd s 1 : Nat), .int .u64 (wd s 2 : Nat), .int .u64 (wd s 3 : Nat), .slice A n c] 27) = wq at *
  generalize w1.heap.size = gq at *
  obtain ⟨q0, q1, q2, q3, q4, q5, q6, q7⟩ := HB.out.cells
  go_wp2_with (first
    | (have := hx6; go_at_call 58; refine (mnSays mnEx (by rw [mnEx_size]; omega) [97, 98] (by simp) _ _ (nodeC k m z s A n c) (HV.out.keep (Ext.trans hx3 (Ext.trans (Ext.new1 _ _) (Ext.trans hx5 hx6))))).mono ?_; rintro e w7 ⟨rfl, hx7⟩; rw [mnEx_ab])
    | (have := hx5; go_at_call 58; refine (mnSays mnEx (by rw [mnEx_size]; omega) [97, 97] (by simp) _ _ (nodeC k m z s A n c) (HV.out.keep (Ext.trans hx3 (Ext.trans (Ext.new1 _ _) hx5)))).mono ?_; rintro e w6 ⟨rfl, hx6⟩; rw [mnEx_aa]; obtain ⟨q0, q1, q2, q3, q4, q5, q6, q7⟩ := (HB.out.keep (Ext.trans hx3 (Ext.trans (Ext.new1 _ _) (Ext.trans hx5 hx6)))).cells)
    | (have := hx3; go_at_call 24; refine (sameInts [1, 2] [1, 2] A1 _ _ c1 _ _ _ (hr1.keep (Ext.new1 _ _)) (rd_two w3 (.int .i64 1) (.int .i64 2) 3) (by simp) (by simp) true rfl).mono ?_; rintro e w5 ⟨rfl, hx5⟩; obtain ⟨q0, q1, q2, q3, q4, q5, q6, q7⟩ := (HB.out.keep (Ext.trans hx3 (Ext.trans (Ext.new1 _ _) hx5))).cells)
    | (go_at_call 57; refine (mnEnds mnEx (by rw [mnEx_size]; omega) [97, 97, 98] (by simp) 0 _ _ (nodeC k m z s A n c) HV.out).mono ?_; rintro e w3 ⟨r, rfl, hr, hx3⟩; rw [mnEx_ends] at hr; obtain ⟨A1, c1, rfl, -, -, hr1⟩ := hr; unfold natsI at *; simp only [List.map_cons, List.map_nil, List.length_cons, List.length_nil] at *))
  go_ret
  exact ⟨rfl, Ext.trans hx2.out (Ext.trans hx3 (Ext.trans (Ext.new1 _ _) (Ext.trans hx5 (Ext.trans hx6 hx7))))⟩
end Go.Proofs.YtmfdnjddggaeaaaDoor
