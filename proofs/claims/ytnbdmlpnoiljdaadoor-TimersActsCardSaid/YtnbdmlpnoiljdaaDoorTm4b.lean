/- Timers: slices.Insert at their list, where there is no room. -/
import Derived.Test.YtnbdmlpnoiljdaaDoorTm4
namespace Go.Proofs.YtnbdmlpnoiljdaaDoor
open Go Go.RowKit

theorem zc_len (z : Array Value) (n : Nat) : (Builtin.zeroCells z n).size = n * z.size := by simp [Builtin.zeroCells]

set_option maxHeartbeats 2000000 in
set_option maxRecDepth 20000 in
/-- Among them, where there is none: a new row. -/
theorem tmInsertGrow {w : World} {g n : Nat} {cur : List Value} {L : List (Int × Int)} (x : Int × Int) (i vb : Nat) (hi : i < n) (hB : Blk w g 115 cur) (hcl : cur.length = n * 2) (hct : cur.take (n * 2) = tmC L) (hnL : L.length = n)
    (hvb : Blk w vb 115 [.int .i64 x.1, .int .i64 x.2]) (hb : n ≤ 1000) :
    Calls Tryd.prog 74 #[.slice (some ⟨g, 0, none⟩) n n, .int .i64 i, .slice (some ⟨vb, 0, none⟩) 1 1] w fun e w' => ∃ v', e = .returned v' ∧ (∀ B, B ≤ w.heap.size → TlAt w' B v' (L.take i ++ x :: L.drop i)) ∧ Ext w w' ∧ v'.ownBlock = some w.heap.size := by
  obtain ⟨i0, hi0, hz0, hzs, hzb⟩ := info_parts (Tryd.elemTm).info
  have hmv : (tmC (L.drop i)).length = (n - i) * 2 := by rw [tmC_len, List.length_drop, hnL]
  have hti : cur.take (i * 2) = tmC (L.take i) := by rw [← tmC_take, ← hct, List.take_take, Nat.min_eq_left (by omega)]
  have hgc : ∀ j u, (tmC L)[j]? = some u → w.cell? ⟨g, j, none⟩ = some u := fun j u hu => by
    rw [hB.cell]
    rw [← hct, List.getElem?_take] at hu
    split at hu
    · exact hu
    · cases hu
  have hold : (Builtin.firstCells i0.size i (.slice (some ⟨g, 0, none⟩) i n)).run Tryd.prog w.drew = .ok (tmC (L.take i)).toArray w.drew := by
    rw [hzs]
    exact run_firstCells_some w.drew 2 i ⟨g, 0, none⟩ i n (tmC (L.take i)) (by rw [tmC_len, List.length_take]; omega) (fun j v hj => by
      rw [Addr.add_lit, Nat.zero_add]
      show w.cell? _ = _
      refine hgc j v ?_
      rw [← tmC_take, List.getElem?_take] at hj
      split at hj
      · exact hj
      · cases hj)
  have hrz : ∀ ty, (Builtin.append_ #[111, 3] ty #[.slice (some ⟨g, 0, none⟩) i n, .int .i64 ((n : Int) + 1 - (i : Int))]).run Tryd.prog w =
      .ok (.slice (some ⟨w.heap.size, 0, none⟩) (n + 1) (grownCap w (n + 1) n 115)) (w.drew.alloc (.cells ((tmC (L.take i)).toArray ++ Builtin.zeroCells (Value.agg #[.int .i64 0, .int .i64 0]).cells (n + 1 - i) ++ Builtin.zeroCells (Value.agg #[.int .i64 0, .int .i64 0]).cells (grownCap w (n + 1) n 115 - (n + 1))) 115)) := fun ty => by
    have h := Lib.run_append_grow_zeros w 111 3 ty 115 i0 _ .i64 .i64 Tryd.underlying111 Tryd.underlying3 hi0 hz0 (some ⟨g, 0, none⟩) i n (tmC (L.take i)) hold (n + 1 - i) (by omega) (by omega) (by omega) (by omega) (by rw [hzb]; omega) (by rw [hzb, show i + (n + 1 - i) = n + 1 by omega]; exact growslice_fits (by omega) (by omega))
    rw [show i + (n + 1 - i) = n + 1 by omega] at h
    rw [show (n : Int) + 1 - (i : Int) = ((n + 1 - i : Nat) : Int) by omega]
    exact h
  have hG := grownCap_le_maxLen w (n + 1) n 115 (by unfold maxLen; omega)
  have hGn : n + 1 ≤ grownCap w (n + 1) n 115 := grownCap_ge w _ _ _
  generalize grownCap w (n + 1) n 115 = G at *
  have hB0' := Blk.new w.drew 115 ((tmC (L.take i)).toArray ++ Builtin.zeroCells (Value.agg #[.int .i64 0, .int .i64 0]).cells (n + 1 - i) ++ Builtin.zeroCells (Value.agg #[.int .i64 0, .int .i64 0]).cells (G - (n + 1)))
  have hx0 : Ext w (w.drew.alloc (.cells ((tmC (L.take i)).toArray ++ Builtin.zeroCells (Value.agg #[.int .i64 0, .int .i64 0]).cells (n + 1 - i) ++ Builtin.zeroCells (Value.agg #[.int .i64 0, .int .i64 0]).cells (G - (n + 1))) 115)) := ((Below.refl _ _).drew).alloc (by simp) _
  have hl0 : ((tmC (L.take i)).toArray ++ Builtin.zeroCells (Value.agg #[.int .i64 0, .int .i64 0]).cells (n + 1 - i) ++ Builtin.zeroCells (Value.agg #[.int .i64 0, .int .i64 0]).cells (G - (n + 1))).toList.length = G * 2 := by
    have hc2 : (Value.agg #[.int .i64 0, .int .i64 0]).cells.size = 2 := by rfl
    simp only [Array.length_toList, Array.size_append, zc_len, hc2, List.size_toArray, tmC_len, List.length_take, hnL]
    omega
  have ht0 : ((tmC (L.take i)).toArray ++ Builtin.zeroCells (Value.agg #[.int .i64 0, .int .i64 0]).cells (n + 1 - i) ++ Builtin.zeroCells (Value.agg #[.int .i64 0, .int .i64 0]).cells (G - (n + 1))).toList.take (i * 2) = tmC (L.take i) := by
    rw [Array.toList_append, Array.toList_append, List.append_assoc, List.take_left' (by simp only [tmC_len, List.length_take, hnL]; omega)]
  generalize ((tmC (L.take i)).toArray ++ Builtin.zeroCells (Value.agg #[.int .i64 0, .int .i64 0]).cells (n + 1 - i) ++ Builtin.zeroCells (Value.agg #[.int .i64 0, .int .i64 0]).cells (G - (n + 1))) = ROW at *
  obtain ⟨cur0, hcur0⟩ : ∃ c0, ROW.toList = c0 := ⟨_, rfl⟩
  rw [hcur0] at hB0' hl0 ht0
  generalize w.drew.alloc (.cells ROW 115) = W0 at *
  obtain ⟨N, hN⟩ : ∃ N, w.heap.size = N := ⟨_, rfl⟩
  have hB0 : Blk W0 N 115 cur0 := by rw [← hN]; exact hB0'
  have hgN : g < N := by rw [← hN]; exact hB.lt
  have hvN : vb < N := by rw [← hN]; exact hvb.lt
  have hvb0 : Blk W0 vb 115 [.int .i64 x.1, .int .i64 x.2] := hvb.keep hx0
  -- the one
  have hmin2 : Nat.min 1 (n + 1 - i) = 1 := by simp only [Nat.min_def]; split <;> omega
  have hrun2 := run_copyK Tryd.elemTm W0 3 (o := i * 2) (dLen := n + 1 - i) (dCap := G - i) (a := ⟨vb, 0, none⟩) (sLen := 1) (sCap := 1) (cs := [.int .i64 x.1, .int .i64 x.2]) hB0 (by rw [hmin2]; rfl)
    (fun j u hu => by rw [Addr.add_lit, Nat.zero_add, hvb0.cell]; exact hu) (by rw [hl0]; simp; omega) (by simp [Value.oneCell'])
  rw [hmin2] at hrun2
  obtain ⟨hW1, hc1⟩ := setRow_blk (cs := cur0.take (i * 2) ++ [Value.int .i64 x.1, .int .i64 x.2] ++ cur0.drop (i * 2 + 2)) hB0
  obtain ⟨cur1, hcur1⟩ : ∃ c1, cur0.take (i * 2) ++ [Value.int .i64 x.1, .int .i64 x.2] ++ cur0.drop (i * 2 + 2) = c1 := ⟨_, rfl⟩
  have hrun2' : (Builtin.copy_ #[111, 111] 3 #[.slice (some ⟨N, i * 2, none⟩) (n + 1 - i) (G - i), .slice (some ⟨vb, 0, none⟩) 1 1]).run Tryd.prog W0 = .ok (goInt 1) (W0.setRow N cur1.toArray) := by rw [← hcur1]; exact hrun2
  clear hrun2
  rw [hcur1] at hW1 hc1
  have hl1 : cur1.length = G * 2 := by
    rw [← hcur1, List.length_append, List.length_append, List.length_take, List.length_drop]
    simp
    omega
  have ht1 : cur1.take ((i + 1) * 2) = tmC (L.take i ++ [x]) := by
    rw [← hcur1, List.take_left' (by rw [List.length_append, List.length_take]; simp; omega), tmC_append, ht0, xC]
  obtain ⟨W1, hW1e⟩ : ∃ W1, W0.setRow N cur1.toArray = W1 := ⟨_, rfl⟩
  rw [hW1e] at hrun2' hW1 hc1
  -- those behind it
  have hsrc : ∀ j u, (tmC (L.drop i))[j]? = some u → W1.drew.cell? ((⟨g, i * 2, none⟩ : Addr).add j) = some u := fun j u hu => by
    rw [Addr.add_lit]
    show W1.cell? _ = _
    refine hc1.cell ((hx0.cell (p := ⟨g, _, none⟩) (by rw [hN]; exact hgN)).trans (hgc _ _ ?_)) (by simp; omega)
    rw [← tmC_drop, List.getElem?_drop] at hu
    exact hu
  have hmin : Nat.min (n - i) (n + 1 - (i + 1)) = n - i := by simp only [Nat.min_def]; split <;> omega
  have hrun1 := run_copyK Tryd.elemTm W1.drew 3 (o := (i + 1) * 2) (dLen := n + 1 - (i + 1)) (dCap := G - (i + 1)) (a := ⟨g, i * 2, none⟩) (sLen := n - i) (sCap := n - i) (cur := cur1) hW1 (by rw [hmv, hmin]) hsrc (by rw [hmv, hl1]; omega) (one_tmC _)
  rw [hmin] at hrun1
  obtain ⟨hW2, hc2⟩ := setRow_blk (w := W1.drew) (cs := cur1.take ((i + 1) * 2) ++ tmC (L.drop i) ++ cur1.drop ((i + 1) * 2 + (tmC (L.drop i)).length)) hW1
  obtain ⟨W2, hW2e⟩ : ∃ W2, W1.drew.setRow N (cur1.take ((i + 1) * 2) ++ tmC (L.drop i) ++ cur1.drop ((i + 1) * 2 + (tmC (L.drop i)).length)).toArray = W2 := ⟨_, rfl⟩
  have hrun1' : (Builtin.copy_ #[111, 111] 3 #[.slice (some ⟨N, (i + 1) * 2, none⟩) (n + 1 - (i + 1)) (G - (i + 1)), .slice (some ⟨g, i * 2, none⟩) (n - i) (n - i)]).run Tryd.prog W1.drew = .ok (goInt (n - i : Nat)) W2 := by rw [← hW2e]; exact hrun1
  rw [hW2e] at hW2 hc2
  have hlx : (L.take i ++ x :: L.drop i).length = n + 1 := by
    rw [List.length_append, List.length_cons, List.length_take, List.length_drop]; omega
  have hsp : L.take i ++ x :: L.drop i = (L.take i ++ [x]) ++ L.drop i := by simp
  have hfin : ∀ B, B ≤ N → TlAt W2 B (.slice (some ⟨N, 0, none⟩) (n + 1) G) (L.take i ++ x :: L.drop i) := fun B hBN =>
    TlAt.mk hlx.symm hBN hW2 hGn hG (by rw [List.length_append, List.length_append, List.length_take, List.length_drop, hmv, hl1]; omega) (by rw [List.take_left' (by rw [List.length_append, List.length_take, hmv, hl1]; omega), ht1, ← tmC_append, ← hsp])
  have hext : Ext w W2 := Chg.ext (X := [N]) (((Chg.of_ext hx0).trans (hc1.drew)).trans hc2) (by intro y hy; simp at hy; omega)
  have HFIN := Lib.hid hfin
  have HEXT := Lib.hid hext
  have HR1 := Lib.hid hrun1'
  have HR2 := Lib.hid hrun2'
  have hN' := Lib.hid hN
  rw [hN] at hrz
  have HRZ := Lib.hid hrz
  have hin : ((i : Int) == (n : Int)) = false := by simp; omega
  have hc4 : ¬ G = i := by omega
  have hc5 : ¬ G = i + 1 := by omega
  have hc6 : ¬ n = i := by omega
  have hwr : IntKind.i64.wrap ((i : Int) + 1) = (i : Int) + 1 := by simp [IntKind.wrap, IntKind.bits, IntKind.signed]; omega
  have hi1 : (0 : Int) ≤ (i : Int) + 1 := by omega
  have hi2 : (i : Int) + 1 ≤ (n : Int) + 1 := by omega
  have hi3 : i ≤ n := by omega
  have hi4 : (i : Int) ≤ (n : Int) + 1 := by omega
  have hi5 : i ≤ G := by omega
  have hi6 : i + 1 ≤ G := by omega
  have hGm : G ≤ 9223372036854775807 := by unfold maxLen at hG; omega
  clear hW2e hW1e hrun2' hrun1' hrun1 hfin hext hcur1 hcur0 hW1 hW2 hc1 hc2 hl1 ht1 ht0 hl0 hB0 hB0' hvb0 hvb hx0 hsrc hct hcl hti hmv hmin hmin2 hgc hold hrz hi0 hz0 hzs hzb hlx hsp hN hB hG
  go_enter Tryd.func74, Tryd.ntmps74
  go_wp2_with (first
    | (at_builtin; go_loud (refine Lib.wpList_append_run _ rfl _ _ _ _ rfl _ _ rfl rfl _ _ (HRZ.out _) ?_); have hr2 := HR2.out))
  clear hr2
  trace_state
  go_region_law (refine step_copyR rfl (.tmp 50) (.tmp 53) 111 111 rfl (v := .slice (some ⟨N, (i + 1) * 2, none⟩) (n + 1 - (i + 1)) (G - (i + 1))) (u := .slice (some ⟨g, i * 2, none⟩) (n - i) (n - i)) (by simp [Act.eval, Act.put]) (by simp [Act.eval, Act.put]) HR1.out ?_)
  go_wp2
  go_ret
  exact ⟨_, rfl, fun B hB => HFIN.out B (hN'.out ▸ hB), HEXT.out, by simp [Value.ownBlock, hN'.out]⟩
end Go.Proofs.YtnbdmlpnoiljdaaDoor
