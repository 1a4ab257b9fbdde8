/- slices.Grow, Concat, Clone of bytes. (Concat's two lists lie in a block of [][]byte.) -/
import Derived.Test.YtnbdmlpnoiljdaaDoorStrs
namespace Go.Proofs.YtnbdmlpnoiljdaaDoor
open Go Go.RowKit

set_option maxHeartbeats 1000000 in
set_option maxRecDepth 20000 in
theorem growNilB (n : Nat) (w : World) (hn : n ≤ 1000000) :
    Calls Tryd.prog 79 #[.slice none 0 0, .int .i64 n] w fun e w' => ∃ v, e = .returned v ∧ w'.ownsRow w.heap.size 5 1 v 0 [] ∧ Ext w w' := by
  by_cases h0 : n = 0
  · subst h0
    go_enter Tryd.func79, Tryd.ntmps79
    go_wp2
    go_ret
    exact ⟨_, rfl, World.ownsRow_nil _ _ _ _, Ext.refl _⟩
  obtain ⟨i, hi, hz, hsz, hby⟩ := info_parts (Tryd.elemB).info
  have hold : (Builtin.firstCells i.size 0 (.slice none 0 0)).run Tryd.prog w.drew = .ok #[] w.drew := run_firstCells_none w.drew i.size 0 0 0
  have hG := grownCap_le_maxLen w n 0 5 (by unfold maxLen; omega)
  have hGn : n ≤ grownCap w n 0 5 := grownCap_ge w _ _ _
  have hrz : ∀ ty, (Builtin.append_ #[42, 3] ty #[.slice none 0 0, .int .i64 (n : Int)]).run Tryd.prog w =
      .ok (.slice (some ⟨w.heap.size, 0, none⟩) n (grownCap w n 0 5)) (w.drew.alloc (.cells ((#[] : Array Value) ++ Builtin.zeroCells (Value.int .u8 0).cells n ++ Builtin.zeroCells (Value.int .u8 0).cells (grownCap w n 0 5 - n)) 5)) := fun ty => by
    have h := Lib.run_append_grow_zeros w 42 3 ty 5 i _ .i64 .i64 Tryd.underlying42 Tryd.underlying3 hi hz none 0 0 [] hold n (by omega) (by omega) (by omega) (by omega) (by rw [hby]; omega) (growslice_fits (by omega) (by rw [hby]; omega))
    simpa using h
  generalize grownCap w n 0 5 = G at *
  clear hold hi hz hsz hby
  have hp : ¬ ((n : Int) ≤ 0) := by omega
  have hGl : (G : Int) ≤ 9223372036854775807 := by unfold maxLen at hG; omega
  go_enter Tryd.func79, Tryd.ntmps79
  go_wp2_with (at_builtin; refine Lib.wpList_append_run _ rfl _ _ _ _ rfl _ _ rfl rfl _ _ (hrz _) ?_)
  all_goals
    go_ret
    refine ⟨_, rfl, ?_, ((Below.refl _ _).drew).alloc (by simp) _⟩
    have hz1 : ∀ k, (Builtin.zeroCells #[Value.int .u8 0] k).size = k := fun k => by simp [Builtin.zeroCells]
    have := own_new (w := (w.alloc (.cells (Builtin.zeroCells #[Value.int .u8 0] n ++ Builtin.zeroCells #[Value.int .u8 0] (G - n)) 5)).drew) (base := w.heap.size) (n := 0) (cap := G) (size := 1) (heap_alloc_new w _) (Nat.le_refl _) (Nat.zero_le _) hG (by rw [Array.size_append, hz1, hz1]; omega)
    simpa using this

set_option maxHeartbeats 1000000 in
set_option maxRecDepth 20000 in
theorem concatB (xs ys : List UInt8) (A B : Option Addr) (n c m d g : Nat) (e : TypeId) (w : World) (hn : n ≤ 500000) (hm : m ≤ 500000) (hB : Blk w g e [.slice A n c, .slice B m d]) (hx : Rd w 1 A n (bytesV xs)) (hy : Rd w 1 B m (bytesV ys)) :
    Calls Tryd.prog 59 #[.slice (some ⟨g, 0, none⟩) 2 2] w fun e w' => ∃ v, e = .returned v ∧ w'.ownsRow w.heap.size 5 1 v (n + m) (bytesV (xs ++ ys)) ∧ Ext w w' := by
  have c0 : w.cell? ⟨g, 0, none⟩ = some (.slice A n c) := hB.cell 0
  have c1 : w.cell? ⟨g, 1, none⟩ = some (.slice B m d) := hB.cell 1
  have hX := Lib.hid hx
  have hY := Lib.hid hy
  clear hx hy
  go_enter Tryd.func59, Tryd.ntmps59
  go_wp2
  refine wp_loop_rounds 3 ?_
  rw [rounds_succ]
  go_wp2
  rw [rounds_succ]
  go_wp2
  rw [rounds_succ]
  go_wp2_with (go_at_call 79; refine (growNilB (n + m) _ (by omega)).mono ?_; rintro e w1 ⟨v1, rfl, hown1, hb1⟩; have c01 := (hB.keep hb1).cell 0; have c11 := (hB.keep hb1).cell 1)
  refine wp_loop_rounds 3 ?_
  rw [rounds_succ]
  have hsz1 := hb1.size
  go_wp2_with (at_builtin; refine wpList_app2 Tryd.elemB rfl (.tmp 31) (.tmp 32) rfl rfl hown1 hsz1 rfl (hX.out.keep hb1) (one_bytesV _) (by omega) (by unfold maxLen; omega) ?_; intro v2 w2 hown2 hg2 _ _; have hb2 : Ext w w2 := hg2.below hb1 (Nat.le_refl _) hsz1; have hsz2 := hb2.size; have c02 := (hB.keep hb2).cell 0; have c12 := (hB.keep hb2).cell 1)
  rw [rounds_succ]
  go_wp2_with (at_builtin; refine wpList_app2 Tryd.elemB rfl (.tmp 31) (.tmp 32) rfl rfl hown2 hsz2 rfl (hY.out.keep hb2) (one_bytesV _) (by omega) (by unfold maxLen; omega) ?_; intro v3 w3 hown3 hg3 _ _; have hb3 : Ext w w3 := hg3.below hb2 (Nat.le_refl _) hsz2)
  rw [rounds_succ]
  go_wp2
  go_ret
  refine ⟨_, rfl, ?_, hb3⟩
  simpa [bytesV] using hown3

set_option maxHeartbeats 400000 in
theorem bytesClone (l : List UInt8) (A : Option Addr) (n c : Nat) (w : World) (hr : Rd w 1 A n (bytesV l)) (hn : n ≤ 1000000) :
    Calls Tryd.prog 63 #[.slice A n c] w fun e w' => ∃ v, e = .returned v ∧ w'.ownsRow w.heap.size 5 1 v l.length (bytesV l) ∧ Ext w w' := by
  have hl := hr.len_bytes
  cases A with
  | none =>
    have h0 : l = [] := by
      by_cases h : 0 < l.length
      · obtain ⟨b, o, e, _⟩ := hr.2 (by simpa [bytesV] using h); cases e
      · exact List.eq_nil_of_length_eq_zero (by omega)
    subst h0
    simp at hl
    subst hl
    have hne := fun w => Lib.run_eql_slice_nil (P := Tryd.prog) w 42 5 none 0 c 0 0 Tryd.underlying42
    go_enter Tryd.func63, Tryd.ntmps63
    go_wp2
    go_ret
    exact ⟨_, rfl, World.ownsRow_nil _ _ _ _, Ext.refl _⟩
  | some a =>
    have hne := fun w => Lib.run_eql_slice_nil (P := Tryd.prog) w 42 5 (some a) n c 0 0 Tryd.underlying42
    have HL := Lib.hid hl
    clear hl
    go_enter Tryd.func63, Tryd.ntmps63
    go_wp2_with (at_builtin; refine wpList_app2 Tryd.elemB rfl (.tmp 5) (.tmp 6) rfl (v := .slice (some ⟨w.heap.size, 0, none⟩) 0 0) (n := 0) rfl (own_empty w 5 1) (by simp) rfl (hr.keep (Ext.new1 _ _)) (one_bytesV _) (by omega) (by unfold maxLen; omega) ?_; intro v1 w1 hown1 hg1 _ _; have hb1 := hg1.below ((Below.refl w.heap.size w).alloc (Nat.le_refl _) _) (Nat.le_refl _) (by simp); clear hg1)
    go_ret
    refine ⟨_, rfl, ?_, hb1⟩
    rw [HL.out]
    simpa using hown1
end Go.Proofs.YtnbdmlpnoiljdaaDoor
