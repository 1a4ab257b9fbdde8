/- The document's timers: First. -/
import Derived.Test.YtnbdmlpnoiljdaaDoorTm13
import Derived.BigQuiet
namespace Go.Proofs.YtnbdmlpnoiljdaaDoor
open Go Go.RowKit

theorem isMin_snoc_lt {M : List (Int × Int)} {x z : Int × Int} (h : IsMin M z) (hlt : ltP x z) : IsMin (M ++ [x]) x := by
  refine ⟨by simp, fun y hy => ?_⟩
  rcases List.mem_append.1 hy with hy | hy
  · exact fun hyx => h.2 y hy (ltP_trans hyx hlt)
  · simp at hy
    subst hy
    unfold ltP
    omega
theorem isMin_snoc_ge {M : List (Int × Int)} {x z : Int × Int} (h : IsMin M z) (hge : ¬ ltP x z) : IsMin (M ++ [x]) z := by
  refine ⟨by simp [h.1], fun y hy => ?_⟩
  rcases List.mem_append.1 hy with hy | hy
  · exact h.2 y hy
  · simp at hy
    subst hy
    exact hge
theorem isMin_one (x : Int × Int) : IsMin [x] x := ⟨by simp, fun y hy => by simp at hy; subst hy; unfold ltP; omega⟩

/-- What First answers. -/
def FirstAns (M : List (Int × Int)) (k a : Int) (b : Bool) : Prop := (M = [] ∧ k = 0 ∧ a = 0 ∧ b = false) ∨ (IsMin M (a, k) ∧ b = true)

/-- The best one so far. -/
def BestAt (M : List (Int × Int)) (k : Nat) (r : Int) : Prop := (k = 0 ∧ r = -1) ∨ ∃ (j : Nat) (z : Int × Int), r = j ∧ j < k ∧ M[j]? = some z ∧ IsMin (M.take k) z

set_option maxHeartbeats 2000000 in
set_option maxRecDepth 20000 in
theorem refFirst {w : World} {B mb : Nat} {v : Value} {now : Int} {M : List (Int × Int)} (h : ModAt w B mb v now M) (hlen : M.length ≤ 1000) :
    Calls Tryd.prog 49 #[.pointer (some ⟨mb, 0, none⟩)] w fun e w' => ∃ k a b, e = .returned (.tuple #[.int .i64 k, .int .i64 a, .bool b]) ∧ FirstAns M k a b ∧ Ext w w' := by
  have HH := Lib.hid h
  obtain ⟨A0, c0, rfl, hnc, hcm, _⟩ := h.own.rd
  have e1 : w.cell? ⟨mb, 1, none⟩ = some (.slice A0 M.length c0) := h.blk.cell 1
  have hmb := h.blk.lt
  obtain ⟨n, hn⟩ : ∃ n, M.length = n := ⟨_, rfl⟩
  have HN := Lib.hid hn
  rw [hn] at hnc e1 hlen
  clear h hn
  go_enter Tryd.func49, Tryd.ntmps49
  go_wp2
  go_loopw [13, 5] (fun i r wr => ∃ (k : Nat) (rr : Int), k ≤ n ∧ i = .int .i64 k ∧ r = .int .i64 rr ∧ BestAt M k rr ∧ Ext w wr) (fun i _ _ => n - (intOf i).toNat)
  case atStart => exact ⟨0, -1, Nat.zero_le _, rfl, rfl, .inl ⟨rfl, rfl⟩, Ext.refl _⟩
  case round =>
    obtain ⟨k, rr, hk, rfl, rfl, hbest, hx⟩ := hrel
    by_cases hlt : k < n
    · obtain ⟨x, hxk⟩ : ∃ x, M[k]? = some x := ⟨_, List.getElem?_eq_getElem (by have := HN.out; omega)⟩
      have htk : M.take (k + 1) = M.take k ++ [x] := by rw [List.take_add_one, hxk]; rfl
      obtain ⟨g, cap, hv, _, _, z0, z1, hgl⟩ := HH.out.own.cells hxk
      cases hv
      have y0 := (hx.cell (p := ⟨g, k * 2, none⟩) hgl).trans z0
      have y1 := (hx.cell (p := ⟨g, k * 2 + 1, none⟩) hgl).trans z1
      have y2 := (hx.cell (p := ⟨mb, 1, none⟩) hmb).trans e1
      have HTK := Lib.hid htk
      have HXK := Lib.hid hxk
      have hsz := hx.size
      clear htk hxk z0 z1
      rcases hbest with ⟨rfl, rfl⟩ | ⟨j, z, rfl, hjk, hz, hmin⟩
      · go_wp2
        go_quiet (fail)
        go_wp2
        go_roundw
        case rel => exact ⟨1, 0, by omega, by go_num, by go_num, .inr ⟨0, x, rfl, by omega, HXK.out, by rw [HTK.out]; exact isMin_one x⟩, (hx.trans (Ext.new1 _ _)).trans (Ext.drawn _ _)⟩
        case measure => simp [intOf]; omega
      · obtain ⟨_, _, hv, _, _, z0, z1, _⟩ := HH.out.own.cells hz
        cases hv
        have x0 := (hx.cell (p := ⟨g, j * 2, none⟩) hgl).trans z0
        have x1 := (hx.cell (p := ⟨g, j * 2 + 1, none⟩) hgl).trans z1
        have HZ := Lib.hid hz
        have HM := Lib.hid hmin
        have hjn : j < n := by omega
        have hj0 : decide ((j : Int) < 0) = false := decide_eq_false (by omega)
        clear hz hmin z0 z1
        obtain ⟨xa, xk⟩ := x
        obtain ⟨za, zk⟩ := z
        simp only at y0 y1 x0 x1
        have hmr : mb < wr.heap.size := Nat.lt_of_lt_of_le hmb hsz
        have hgr : g < wr.heap.size := Nat.lt_of_lt_of_le hgl hsz
        have q2 := ((Ext.new1 wr (.cells #[.int .i64 xk, .int .i64 xa] 121)).cell (p := ⟨mb, 1, none⟩) hmr).trans y2
        have q0 := ((Ext.new1 wr (.cells #[.int .i64 xk, .int .i64 xa] 121)).cell (p := ⟨g, j * 2, none⟩) hgr).trans x0
        have q1 := ((Ext.new1 wr (.cells #[.int .i64 xk, .int .i64 xa] 121)).cell (p := ⟨g, j * 2 + 1, none⟩) hgr).trans x1
        by_cases h1 : xa < za
        · have hd1 : decide (xa < za) = true := decide_eq_true h1
          have HL := Lib.hid (isMin_snoc_lt (x := (xa, xk)) HM.out (.inl h1))
          clear h1
          go_wp2
          go_quiet (fail)
          go_wp2
          go_roundw
          case rel => exact ⟨k + 1, k, by omega, by go_num, rfl, .inr ⟨k, _, rfl, by omega, HXK.out, by rw [HTK.out]; exact HL.out⟩, (hx.trans (Ext.new1 _ _)).trans (Ext.drawn _ _)⟩
          case measure => simp [intOf]; omega
        · have hd1 : decide (xa < za) = false := decide_eq_false h1
          by_cases h2 : xa = za
          · subst h2
            by_cases h3 : xk < zk
            · have hd3 : decide (xk < zk) = true := decide_eq_true h3
              have HL := Lib.hid (isMin_snoc_lt (x := (xa, xk)) HM.out (.inr ⟨rfl, h3⟩))
              clear h3 h1
              go_wp2
              go_quiet (fail)
              go_wp2
              go_roundw
              case rel => exact ⟨k + 1, k, by omega, by go_num, rfl, .inr ⟨k, _, rfl, by omega, HXK.out, by rw [HTK.out]; exact HL.out⟩, (hx.trans (Ext.new1 _ _)).trans (Ext.drawn _ _)⟩
              case measure => simp [intOf]; omega
            · have hd3 : decide (xk < zk) = false := decide_eq_false h3
              have HL := Lib.hid (isMin_snoc_ge (x := (xa, xk)) HM.out (by unfold ltP; simp; omega))
              clear h3 h1
              go_wp2
              go_quiet (fail)
              go_wp2
              go_roundw
              case rel => exact ⟨k + 1, j, by omega, by go_num, rfl, .inr ⟨j, _, rfl, by omega, HZ.out, by rw [HTK.out]; exact HL.out⟩, (hx.trans (Ext.new1 _ _)).trans (Ext.drawn _ _)⟩
              case measure => simp [intOf]; omega
          · have HL := Lib.hid (isMin_snoc_ge (x := (xa, xk)) HM.out (by unfold ltP; simp; omega))
            have hd2 : (xa == za) = false := by simpa using h2
            clear h1 h2
            go_wp2
            go_quiet (fail)
            go_wp2
            go_roundw
            case rel => exact ⟨k + 1, j, by omega, by go_num, rfl, .inr ⟨j, _, rfl, by omega, HZ.out, by rw [HTK.out]; exact HL.out⟩, (hx.trans (Ext.new1 _ _)).trans (Ext.drawn _ _)⟩
            case measure => simp [intOf]; omega
    · obtain rfl : k = n := by omega
      rcases hbest with ⟨rfl, rfl⟩ | ⟨j, z, rfl, hjk, hz, hmin⟩
      · go_wp2
        go_ret3
        exact ⟨0, 0, false, rfl, .inl ⟨List.eq_nil_of_length_eq_zero HN.out, rfl, rfl, rfl⟩, hx⟩
      · obtain ⟨g, cap, hv, _, _, z0, z1, hgl⟩ := HH.out.own.cells hz
        cases hv
        have x0 := (hx.cell (p := ⟨g, j * 2, none⟩) hgl).trans z0
        have x1 := (hx.cell (p := ⟨g, j * 2 + 1, none⟩) hgl).trans z1
        have y2 := (hx.cell (p := ⟨mb, 1, none⟩) hmb).trans e1
        have hj0 : decide ((j : Int) < 0) = false := decide_eq_false (by omega)
        have HM := Lib.hid hmin
        clear hz hmin z0 z1
        go_wp2
        go_quiet (fail)
        go_wp2
        go_ret3
        refine ⟨_, _, true, rfl, .inr ⟨?_, rfl⟩, hx.trans (Ext.drawn _ _)⟩
        have := HM.out
        rwa [List.take_of_length_le (by have := HN.out; omega)] at this
end Go.Proofs.YtnbdmlpnoiljdaaDoor
