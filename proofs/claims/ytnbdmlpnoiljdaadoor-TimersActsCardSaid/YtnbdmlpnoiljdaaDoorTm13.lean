/- The document's timers: Drop, At. -/
import Derived.Test.YtnbdmlpnoiljdaaDoorTm10
namespace Go.Proofs.YtnbdmlpnoiljdaaDoor
open Go Go.RowKit

theorem dropK_snoc_ne {key : Int} {M : List (Int × Int)} {x : Int × Int} (h : x.2 ≠ key) : dropK key (M ++ [x]) = dropK key M ++ [x] := by simp [dropK, h]
theorem dropK_snoc_eq {key : Int} {M : List (Int × Int)} {x : Int × Int} (h : x.2 = key) : dropK key (M ++ [x]) = dropK key M := by simp [dropK, h]

theorem rd_newT (w : World) (size n : Nat) (cs : List Value) (e : TypeId) (h : cs.length = n * size) {g : Nat} (hg : w.heap.size = g) : Rd (w.alloc (.cells cs.toArray e)) size (some ⟨g, 0, none⟩) n cs := by subst hg; exact rd_newS w size n cs e h
theorem swC_snoc (M : List (Int × Int)) (x : Int × Int) : tmC (swL (M ++ [x])) = tmC (swL M) ++ [.int .i64 x.2, .int .i64 x.1] := by
  rw [swL_append, tmC_append]
  rfl
/-- A row laid anew. -/
theorem ModAt.store {w w1 : World} {B mb : Nat} {v u : Value} {now : Int} {M N : List (Int × Int)} (h : ModAt w B mb v now M) (hx : Ext w w1) (hu : w1.ownsRow w.heap.size 121 2 u N.length (tmC (swL N))) : ModTurned w (w1.setCell ⟨mb, 1, none⟩ u) B mb v now N := by
  have hb := h.blk.keep hx
  have hlt := h.blk.lt
  have hB : B ≤ w.heap.size := by have := h.low; omega
  have hc : Chg [mb] w1 (w1.setCell ⟨mb, 1, none⟩ u) := (Chg.refl _ _).setCell (by simp) _
  have hne : ∀ j, u.ownBlock = some j → j ≠ mb := fun j hj he => by
    have := (row_lt hu hj).1
    omega
  refine ⟨u, ⟨by simpa using hb.set_ 1 u, ?_, h.low⟩, (Chg.of_ext hx).trans hc, fun k hk => .inr (row_lt hu hk).1⟩
  exact RlAt.chg (RlAt.low (B := w.heap.size) hu hB) hc (fun k hk hm => by simp at hm; exact hne k hk hm)

set_option maxHeartbeats 2000000 in
set_option maxRecDepth 20000 in
theorem refDrop {w : World} {B mb : Nat} {v : Value} {now : Int} {M : List (Int × Int)} (h : ModAt w B mb v now M) (hlen : M.length ≤ 1000) (key : Int) :
    Calls Tryd.prog 46 #[.pointer (some ⟨mb, 0, none⟩), .int .i64 key] w fun e w' => ∃ b, e = .returned (.bool b) ∧ ((b = true ∧ ∃ x ∈ M, x.2 = key) ∨ (b = false ∧ ∀ y ∈ M, y.2 ≠ key)) ∧ ModTurned w w' B mb v now (dropK key M) := by
  have HH := Lib.hid h
  obtain ⟨A0, c0, rfl, hnc, hcm, _⟩ := h.own.rd
  have e1 : w.cell? ⟨mb, 1, none⟩ = some (.slice A0 M.length c0) := h.blk.cell 1
  have hmb := h.blk.lt
  have hBw : B ≤ w.heap.size := by have := h.low; omega
  obtain ⟨n, hn⟩ : ∃ n, M.length = n := ⟨_, rfl⟩
  have HN := Lib.hid hn
  rw [hn] at hnc e1 hlen
  clear h hn
  go_enter Tryd.func46, Tryd.ntmps46
  go_wp2
  go_loopw [15, 5, 6] (fun i o was wr => ∃ (k : Nat) (A : Option Addr) (j c : Nat) (b : Bool), k ≤ n ∧ i = .int .i64 k ∧ o = .slice A j c ∧ was = .bool b ∧ wr.ownsRow w.heap.size 121 2 (.slice A j c) j (tmC (swL (dropK key (M.take k)))) ∧ j ≤ k ∧ ((b = true ∧ ∃ x ∈ M.take k, x.2 = key) ∨ (b = false ∧ ∀ y ∈ M.take k, y.2 ≠ key)) ∧ Ext w wr) (fun i _ _ _ => n - (intOf i).toNat)
  case atStart => exact ⟨0, _, 0, 0, false, Nat.zero_le _, rfl, rfl, rfl, own_empty w 121 2, Nat.le_refl _, .inr ⟨rfl, by simp⟩, Ext.new1 _ _⟩
  case round =>
    obtain ⟨k, A, j, c, b, hk, rfl, rfl, rfl, hown, hjk, hb, hx⟩ := hrel
    have HO := Lib.hid hown
    have HB := Lib.hid hb
    clear hown hb
    by_cases hlt : k < n
    · obtain ⟨x, hxk⟩ : ∃ x, M[k]? = some x := ⟨_, List.getElem?_eq_getElem (by have := HN.out; omega)⟩
      have htk : M.take (k + 1) = M.take k ++ [x] := by rw [List.take_add_one, hxk]; rfl
      obtain ⟨g, cap, hv, _, _, z0, z1, hgl⟩ := HH.out.own.cells hxk
      cases hv
      have y0 := (hx.cell (p := ⟨g, k * 2, none⟩) hgl).trans z0
      have y1 := (hx.cell (p := ⟨g, k * 2 + 1, none⟩) hgl).trans z1
      have HTK := Lib.hid htk
      have hsz := hx.size
      clear htk hxk z0 z1
      by_cases hxe : x.2 = key
      · have HE := Lib.hid hxe
        have hxq : (x.2 == key) = true := by simpa using hxe
        clear hxe
        go_wp2
        go_roundw
        case rel =>
          refine ⟨k + 1, A, j, c, true, by omega, by go_num, rfl, rfl, ?_, by omega, .inl ⟨rfl, x, by rw [HTK.out]; simp, HE.out⟩, hx.trans (Ext.new1 _ _)⟩
          rw [HTK.out, dropK_snoc_eq HE.out]
          exact own_alloc HO.out _
        case measure => simp [intOf]; omega
      · have HE := Lib.hid hxe
        have hxq : (x.2 == key) = false := by simpa using hxe
        clear hxe
        go_wp2_with (at_builtin; go_loud (refine wpList_app2 Tryd.elemPr rfl (.tmp 23) (.tmp 25) rfl (v := .slice A j c) rfl (own_alloc (own_alloc HO.out _) _) (by simp; omega) rfl (rd_newT _ 2 1 [.int .i64 x.2, .int .i64 x.1] 121 rfl (by simp)) (by simp [Value.oneCell']) (by omega) (by unfold maxLen; omega) ?_); intro v2 w2 hown2 hg2 _ hat2; obtain ⟨A2, c2, rfl, _, _, _⟩ := own_rd hown2)
        go_roundw
        case rel =>
          refine ⟨k + 1, A2, j + 1, c2, b, by omega, by go_num, rfl, rfl, ?_, by omega, ?_, (hg2.below (((hx.trans (Ext.new1 _ _)).trans (Ext.new1 _ _))) (Nat.le_refl _) (by simp; omega))⟩
          · rw [HTK.out, dropK_snoc_ne HE.out, swC_snoc]
            exact hown2
          · rw [HTK.out]
            rcases HB.out with ⟨hb, y, hy, hye⟩ | ⟨hb, hno⟩
            · exact .inl ⟨hb, y, List.mem_append_left _ hy, hye⟩
            · refine .inr ⟨hb, fun y hy => ?_⟩
              rcases List.mem_append.1 hy with hy | hy
              · exact hno y hy
              · simp at hy; subst hy; exact HE.out
        case measure => simp [intOf]; omega
    · obtain rfl : k = n := by omega
      have f1 : wr.frozen? ⟨mb, 1, none⟩ = false := (HH.out.blk.keep hx).frozen 1
      have y1 := (hx.cell (p := ⟨mb, 1, none⟩) hmb).trans e1
      go_wp2
      go_ret
      have htk : M.take k = M := List.take_of_length_le (by have := HN.out; omega)
      have hb := HB.out
      have ho := HO.out
      rw [htk] at hb ho
      have hj : j = (dropK key M).length := by
        have := ho.1
        rw [tmC_len, swL_len] at this
        omega
      subst hj
      exact ⟨b, rfl, hb, HH.out.store hx ho⟩

set_option maxHeartbeats 2000000 in
set_option maxRecDepth 20000 in
theorem refAt {w : World} {B mb : Nat} {v : Value} {now : Int} {M : List (Int × Int)} (h : ModAt w B mb v now M) (hlen : M.length ≤ 1000) (key : Int) :
    Calls Tryd.prog 51 #[.pointer (some ⟨mb, 0, none⟩), .int .i64 key] w fun e w' => ∃ a b, e = .returned (.tuple #[.int .i64 a, .bool b]) ∧ AtAns M key a b ∧ Ext w w' := by
  have HH := Lib.hid h
  obtain ⟨A0, c0, rfl, hnc, hcm, _⟩ := h.own.rd
  have e1 : w.cell? ⟨mb, 1, none⟩ = some (.slice A0 M.length c0) := h.blk.cell 1
  obtain ⟨n, hn⟩ : ∃ n, M.length = n := ⟨_, rfl⟩
  have HN := Lib.hid hn
  rw [hn] at hnc e1 hlen
  clear h hn
  go_enter Tryd.func51, Tryd.ntmps51
  go_wp2
  go_loopw [13] (fun i wr => ∃ k : Nat, k ≤ n ∧ i = .int .i64 k ∧ (∀ y ∈ M.take k, y.2 ≠ key) ∧ Ext w wr) (fun i _ => n - (intOf i).toNat)
  case atStart => exact ⟨0, Nat.zero_le _, rfl, by simp, Ext.refl _⟩
  case round =>
    obtain ⟨k, hk, rfl, hno, hx⟩ := hrel
    have HNO := Lib.hid hno
    clear hno
    by_cases hlt : k < n
    · obtain ⟨x, hxk⟩ : ∃ x, M[k]? = some x := ⟨_, List.getElem?_eq_getElem (by have := HN.out; omega)⟩
      have htk : M.take (k + 1) = M.take k ++ [x] := by rw [List.take_add_one, hxk]; rfl
      obtain ⟨g, cap, hv, _, _, z0, z1, hgl⟩ := HH.out.own.cells hxk
      cases hv
      have y0 := (hx.cell (p := ⟨g, k * 2, none⟩) hgl).trans z0
      have y1 := (hx.cell (p := ⟨g, k * 2 + 1, none⟩) hgl).trans z1
      have HTK := Lib.hid htk
      have HXK := Lib.hid hxk
      clear htk hxk z0 z1
      by_cases hxe : x.2 = key
      · have HE := Lib.hid hxe
        have hxq : (x.2 == key) = true := by simpa using hxe
        clear hxe
        go_wp2
        go_ret2
        exact ⟨_, _, rfl, .inl ⟨x, List.mem_of_getElem? HXK.out, HE.out, rfl, rfl⟩, hx.trans (Ext.new1 _ _)⟩
      · have HE := Lib.hid hxe
        have hxq : (x.2 == key) = false := by simpa using hxe
        clear hxe
        go_wp2
        go_roundw
        case rel =>
          refine ⟨k + 1, by omega, by go_num, ?_, hx.trans (Ext.new1 _ _)⟩
          rw [HTK.out]
          intro y hy
          rcases List.mem_append.1 hy with hy | hy
          · exact HNO.out y hy
          · simp at hy; subst hy; exact HE.out
        case measure => simp [intOf]; omega
    · obtain rfl : k = n := by omega
      go_wp2
      go_ret2
      refine ⟨0, false, rfl, .inr ⟨?_, rfl, rfl⟩, hx⟩
      have := HNO.out
      rwa [List.take_of_length_le (by have := HN.out; omega)] at this

theorem refAtB {w : World} {B mb : Nat} {v : Value} {now : Int} {M : List (Int × Int)} (h : ModAt w B mb v now M) (hlen : M.length ≤ 1000) (key : Int) :
    ∃ b : Bool, (Calls Tryd.prog 51 #[.pointer (some ⟨mb, 0, none⟩), .int .i64 key] w fun e w' => ∃ a, e = .returned (.tuple #[.int .i64 a, .bool b]) ∧ Ext w w') ∧ ((b = true ∧ ∃ x ∈ M, x.2 = key) ∨ (b = false ∧ ∀ y ∈ M, y.2 ≠ key)) := by
  by_cases hex : ∃ x ∈ M, x.2 = key
  · refine ⟨true, (refAt h hlen key).mono ?_, .inl ⟨rfl, hex⟩⟩
    rintro e w' ⟨a, b, rfl, ha, hx⟩
    rcases ha with ⟨_, _, _, _, rfl⟩ | ⟨hno, _, _⟩
    · exact ⟨a, rfl, hx⟩
    · obtain ⟨x, hx, he⟩ := hex
      exact absurd he (hno x hx)
  · have hno : ∀ y ∈ M, y.2 ≠ key := fun y hy he => hex ⟨y, hy, he⟩
    refine ⟨false, (refAt h hlen key).mono ?_, .inr ⟨rfl, hno⟩⟩
    rintro e w' ⟨a, b, rfl, ha, hx⟩
    rcases ha with ⟨x, hx, he, _, rfl⟩ | ⟨_, _, rfl⟩
    · exact absurd he (hno x hx)
    · exact ⟨a, rfl, hx⟩
end Go.Proofs.YtnbdmlpnoiljdaaDoor
