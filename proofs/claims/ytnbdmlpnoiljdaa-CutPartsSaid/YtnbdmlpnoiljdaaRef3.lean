/- layer 39's document: of, same, Right. -/
import Derived.Test.YtnbdmlpnoiljdaaRef2
namespace Go.Proofs.Ytnbdmlpnoiljdaa
open Go Go.RowKit

theorem right_no {e : Ev} (h : e.kind < 1 ∨ 4 < e.kind ∨ 1024 < e.b.length ∨ e.n < 0 ∨ 9999 < e.n ∨ (e.kind ≠ 1 ∧ (e.b ≠ [] ∨ e.m ≠ [])) ∨ ((e.kind = 1 ∨ e.kind = 4) ∧ e.n ≠ 0)) : rightE e = false := by
  by_cases hr : rightE e = true
  · exfalso
    have hb : e.b.length ≤ 1024 := by
      by_cases hk : e.kind = 1
      · exact (right1 hr hk).2.1
      · rw [(rightO hr hk).1]; simp
    rcases right_kind hr with hk | hk | hk | hk
    · have := right1 hr hk; omega
    · have h2 := rightO hr (by omega)
      unfold rightE at hr; simp [hk] at hr
      rcases h with h | h | h | h | h | ⟨_, h | h⟩ | h <;> first | omega | exact h h2.1 | exact h h2.2
    · have := right3 hr hk
      rcases h with h | h | h | h | h | ⟨_, h | h⟩ | h <;> first | omega | exact h this.2.2.1 | exact h this.2.2.2
    · have h2 := rightO hr (by omega)
      unfold rightE at hr; simp [hk] at hr
      rcases h with h | h | h | h | h | ⟨_, h | h⟩ | h <;> first | omega | exact h h2.1 | exact h h2.2
  · simpa using hr
theorem right_ris {e : Ev} (h1 : ¬ e.kind < 1) (h2 : ¬ 4 < e.kind) (h3 : ¬ 1024 < e.b.length) (h4 : ¬ e.n < 0) (h5 : ¬ 9999 < e.n) (h6 : e.kind ≠ 1 → e.b = [] ∧ e.m = []) (h7 : e.kind = 1 ∨ e.kind = 4 → e.n = 0) : rightE e = risA (-1) e.b.length e.m := by
  unfold rightE
  by_cases hk : e.kind = 1
  · rw [if_pos hk]
    have := h7 (.inl hk)
    simp [this]; omega
  · obtain ⟨hb, hm⟩ := h6 hk
    rw [if_neg hk, hm]
    by_cases hk4 : e.kind = 4
    · rw [if_neg (by omega), if_pos hk4]
      simp [h7 (.inr hk4), hb, risA]
    · rw [if_pos (by omega)]
      simp [hb, risA]; omega

set_option maxHeartbeats 1000000 in
set_option maxRecDepth 20000 in
/-- Events as of the document. -/
theorem lawOfs {w : World} {es : List Ev} {A : Option Addr} {n c : Nat} (hr : EvsRd w [] A n es) (hn : n ≤ 1000000) (hnc : n ≤ c) :
    Calls Try.prog 7 #[.slice A n c] w fun r w' => ∃ v, r = .returned v ∧ RutAt w' w.heap.size [] v es ∧ Ext w w' := by
  have hl : es.length = n := by obtain ⟨vs, _, h, _⟩ := hr; exact h
  have HR := Lib.hid hr
  have HL := Lib.hid hl
  clear hr hl
  obtain ⟨B, hB⟩ : ∃ B, w.heap.size = B := ⟨_, rfl⟩
  rw [hB]
  have HB := Lib.hid hB
  clear hB
  go_enter Try.func7, Try.ntmps7
  go_wp2
  go_loopw [3, 9] (fun v i wr => ∃ k : Nat, k ≤ n ∧ i = .int .i64 k ∧ RutAt wr B [] v (es.take k) ∧ Ext w wr) (fun _ i _ => n - (intOf i).toNat)
  case atStart =>
    have h0 := own_empty w 34 4
    have h1 := own_mono (base' := B) h0 (by rw [HB.out]; exact Nat.le_refl _)
    exact ⟨0, Nat.zero_le _, rfl, ⟨[], rfl, by simpa [evCells] using h1, by simp, fun j e u h => by simp at h⟩, Ext.new1 _ _⟩
  case round =>
    obtain ⟨k, hk, rfl, hO, hx⟩ := hrel
    have hBw : B ≤ wr.heap.size := by rw [← HB.out]; exact hx.size
    by_cases hlt : k < n
    · obtain ⟨e, he⟩ : ∃ e, es[k]? = some e := ⟨_, List.getElem?_eq_getElem (by rw [HL.out]; exact hlt)⟩
      obtain ⟨b, o, A1, c1, B1, d1, rfl, hbl, p0', p1', p2', p3', hev', _, _, _, _, _, _⟩ := HR.out.at4 he
      have p0 : wr.cell? ⟨b, o + k * 4, none⟩ = some (.int .i64 e.kind) := (hx.cell (p := ⟨b, _, none⟩) hbl).trans p0'
      have p1 : wr.cell? ⟨b, o + k * 4 + 1, none⟩ = some (.int .i64 e.n) := (hx.cell (p := ⟨b, _, none⟩) hbl).trans p1'
      have p2 : wr.cell? ⟨b, o + k * 4 + 2, none⟩ = some (.slice A1 e.b.length c1) := (hx.cell (p := ⟨b, _, none⟩) hbl).trans p2'
      have p3 : wr.cell? ⟨b, o + k * 4 + 3, none⟩ = some (.slice B1 e.m.length d1) := (hx.cell (p := ⟨b, _, none⟩) hbl).trans p3'
      have hx1 := Ext.new1 wr (.cells #[.int .i64 e.kind, .int .i64 e.n, .slice A1 e.b.length c1, .slice B1 e.m.length d1] 43)
      have hev : ∀ X', (∀ y ∈ X', B ≤ y) → ∀ w', Ext w w' → EvOk w' X' e (.slice A1 e.b.length c1) (.slice B1 e.m.length d1) := fun X' hX' w' hw' => hev'.step (Y := []) (.of_ext hw') (by simp) (fun y hy => .inr (by rw [HB.out]; exact hX' y hy))
      have htk := take_snoc he
      have HTK := Lib.hid htk
      have HEV := Lib.hid hev
      have htl : (es.take k).length = k := by rw [List.length_take, HL.out]; omega
      obtain ⟨Av, cv, rfl, hcv, hcm⟩ := hO.len
      obtain ⟨vs, hv1, hv2, hv3, hv4⟩ := hO
      rw [htl] at hv2 hv3 hv4 hcv ⊢
      have HV2 := Lib.hid hv2
      have HV3 := Lib.hid hv3
      have HV4 := Lib.hid hv4
      have HTL := Lib.hid htl
      clear p0' p1' p2' p3' hev' he htk hev hv2 hv3 hv4 htl
      go_wp2_with (first
        | (at_builtin; go_loud (refine wpList_app2 (base := B) Try.elemRv rfl (.tmp 13) (.tmp 16) rfl (v := .slice Av k cv) (n := k) rfl (own_ext HV2.out (hxo.trans (Ext.new1 w2 _))) (by have := hxo.size; simp; omega) rfl (rd_newS w2 4 1 (evV e (strV e.b) (.slice B1 e.m.length d1)) 34 rfl) (by simp [evV, strV, Value.oneCell']) (by omega) (by unfold maxLen; omega) ?_); intro v4 w4 hown4 hg4 _ hat4; obtain ⟨A4, c4, rfl, -, -, -⟩ := own_rd hown4; have HOWN4 := Lib.hid hown4; have HG4 := Lib.hid hg4; have HAT4 := Lib.hid hat4; clear hown4 hg4 hat4)
        | (go_at_call 20; refine (lawOf (HEV.out [] (by simp) _ (hx.trans hx1))).mono ?_; unfold evA; rintro _ w2 ⟨rfl, hx2⟩; have hxo := hx1.trans hx2))
      have hx3 : Ext wr (w2.alloc (.cells (evV e (strV e.b) (.slice B1 e.m.length d1)).toArray 34)) := hxo.trans (Ext.new1 w2 _)
      have hob : ∀ y ∈ (Value.slice Av k cv).ownBlock.toList ++ [], B ≤ y := fun y hy => (HV2.out.lt y (by simpa using hy)).1
      have hm9 := (HEV.out _ hob _ (hx.trans hx3)).m
      have hO4 : RutAt w4 B [] (.slice A4 (k + 1) c4) (es.take k ++ [e]) := RutAt.push (by rw [HTL.out]) vs hv1 HV3.out (fun j e' u h1 h2 => (HV4.out j e' u h1 h2).keep hx3) ⟨rfl, hm9⟩ (by simp) HOWN4.out HG4.out HAT4.out
      have hx4 : Ext w w4 := HG4.out.below (hx.trans hx3) (by rw [HB.out]; exact Nat.le_refl _) (hx.trans hx3).size
      exact ⟨⟨k + 1, hlt, by go_num, by rw [HTK.out]; exact hO4, hx4⟩, by simp [intOf]; omega⟩
    · obtain rfl : k = n := by omega
      rw [List.take_of_length_le (by rw [HL.out]; exact Nat.le_refl _)] at hO
      have HO := Lib.hid hO
      clear hO
      go_wp2
      go_ret
      exact ⟨_, rfl, HO.out, hx⟩
end Go.Proofs.Ytnbdmlpnoiljdaa
