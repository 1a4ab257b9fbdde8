/- layer 39's document: Merge. -/
import Derived.Test.YtnbdmlpnoiljdaaRef6
import Derived.BigQuiet
namespace Go.Proofs.Ytnbdmlpnoiljdaa
open Go Go.RowKit

theorem RvsRd.chg {w w' : World} {X Y : List Nat} {A : Option Addr} {n : Nat} {es : List Ev} (h : RvsRd w X A n es) (hc : Chg Y w w') (hy : ∀ y ∈ Y, y ∈ X ∨ w.heap.size ≤ y) (hA : ∀ b o s, A = some ⟨b, o, s⟩ → b ∉ Y) : RvsRd w' X A n es := by
  obtain ⟨vs, h1, h2, h3, h4⟩ := h
  exact ⟨vs, h1, h2, h3.chg hc (fun _ b o v e => hA b o v e), fun j e v he hv => (h4 j e v he hv).step hc hy (fun x hx => .inl hx)⟩
theorem evCells_part {es : List Ev} {vs : List (Value × Value)} (h : vs.length = es.length) {a m : Nat} (hm : a + m ≤ es.length) (i : Nat) (hi : i < m * 4) :
    (evCells ((es.drop a).take m) ((vs.drop a).take m))[i]? = (evCells es vs)[a * 4 + i]? := by
  have hj : i / 4 < m := by omega
  have hr : i % 4 < 4 := Nat.mod_lt _ (by omega)
  obtain ⟨e, he⟩ : ∃ e, es[a + i / 4]? = some e := ⟨_, List.getElem?_eq_getElem (by omega)⟩
  obtain ⟨v, hv⟩ : ∃ v, vs[a + i / 4]? = some v := ⟨_, List.getElem?_eq_getElem (by omega)⟩
  have g1 := evCells_get es vs (a + i / 4) e v he hv (i % 4) hr
  have g2 := evCells_get ((es.drop a).take m) ((vs.drop a).take m) (i / 4) e v (by rw [List.getElem?_take, if_pos hj, List.getElem?_drop]; exact he) (by rw [List.getElem?_take, if_pos hj, List.getElem?_drop]; exact hv) (i % 4) hr
  rw [show i / 4 * 4 + i % 4 = i by omega] at g2
  rw [show (a + i / 4) * 4 + i % 4 = a * 4 + i by omega] at g1
  rw [g1, g2]
/-- A part of a slice that reads. -/
theorem RvsRd.part {w : World} {X : List Nat} {b o n : Nat} {es : List Ev} (h : RvsRd w X (some ⟨b, o, none⟩) n es) {a t : Nat} (hat : a < t) (ht : t ≤ n) : RvsRd w X (some ⟨b, o + a * 4, none⟩) (t - a) (runAt es a t) := by
  obtain ⟨vs, h1, h2, h3, h4⟩ := h
  have hl : (runAt es a t).length = t - a := runAt_len (by omega) (by omega)
  have hlv : ((vs.drop a).take (t - a)).length = t - a := by rw [List.length_take, List.length_drop]; omega
  refine ⟨(vs.drop a).take (t - a), by rw [hl, hlv], hl, ⟨by rw [evCells_len _ _ (by rw [hl, hlv]), hl], fun hp => ?_⟩, fun j e v he hv => ?_⟩
  · obtain ⟨b', o', e', hb, hc⟩ := h3.2 (by rw [evCells_len es vs h1]; omega)
    cases e'
    refine ⟨b, o + a * 4, rfl, hb, fun i v hv => ?_⟩
    have hi : i < (t - a) * 4 := by
      have := (List.getElem?_eq_some_iff.1 hv).1
      rw [evCells_len _ _ (by rw [hl, hlv]), hl] at this
      exact this
    unfold runAt at hv
    rw [evCells_part h1 (by omega) i hi] at hv
    rw [Nat.add_assoc]
    exact hc _ _ hv
  · unfold runAt at he
    rw [List.getElem?_take] at he hv
    split at he
    · next hj =>
      rw [if_pos hj] at hv
      rw [List.getElem?_drop] at he hv
      exact h4 _ e v he hv
    · cases he
theorem atom_bounds {x : Ev} (hr : rightE x = true) (ha : isAtom x) : 0 ≤ x.n ∧ x.n ≤ 9999 ∧ x.b.length ≤ 1024 := by
  have hb := atom_bytes ha
  rcases right_kind hr with hk | hk | hk | hk
  · have := right1 hr hk; omega
  · unfold rightE at hr; simp [hk] at hr; omega
  · have := right3 hr hk; omega
  · unfold rightE at hr; simp [hk] at hr; omega

set_option maxHeartbeats 4000000 in
set_option maxRecDepth 20000 in
/-- The document's merged events. -/
theorem refMerge {w : World} {es : List Ev} {A : Option Addr} {n c : Nat} (hr : RvsRd w [] A n es) (hn : n ≤ 100000) (hnc : n ≤ c) (hsm : ∀ e ∈ es, e.b.length ≤ 1000000 ∧ e.m.length ≤ 1000000) (hT : (atoms es).length ≤ 100000) :
    Calls Try.prog 12 #[.slice A n c] w fun r w' => ∃ v, r = .returned v ∧ RutAt w' w.heap.size [] v (mergeL (atoms es)) ∧ Ext w w' := by
  have HR := Lib.hid hr
  have HSM := Lib.hid hsm
  have hat : ∀ x ∈ atoms es, rightE x = true ∧ isAtom x := fun x hx => ⟨atoms_right x hx, atoms_atom x hx⟩
  obtain ⟨T, hTe⟩ : ∃ T, atoms es = T := ⟨_, rfl⟩
  rw [hTe] at hT hat ⊢
  have HAT := Lib.hid hat
  have HTE := Lib.hid hTe
  obtain ⟨g0, hg0⟩ : ∃ g, w.heap.size = g := ⟨_, rfl⟩
  have HG0 := Lib.hid hg0
  clear hr hsm hat hTe
  have hx0 := Ext.new1 w (.cells #[] 34)
  have h00 := own_empty w 34 4
  rw [hg0] at h00 ⊢
  clear hg0
  go_enter Try.func12, Try.ntmps12
  go_wp2_with (go_at_call 10; refine (refAtoms [w.heap.size] (by simp) (HR.out.keep hx0) hn hnc HSM.out).mono ?_; rw [HTE.out]; rintro e w1 ⟨v1, rfl, hTo, hx1⟩; obtain ⟨At, ct, rfl, hct, hcm, hTr⟩ := hTo.rd)
  have hbT : ∀ b o s, At = some ⟨b, o, s⟩ → b ∉ [g0] := fun b o s e hb => by
    have h1 := (hTo.own_lt b (by rw [e]; rfl)).1
    have h2 := HG0.out
    simp at h1 hb
    omega
  have hrow : w1.ownsRow g0 34 4 (.slice (some ⟨g0, 0, none⟩) 0 0) 0 [] := own_ext h00 hx1
  have hxw1 : Ext w w1 := hx0.trans hx1
  have hg1 : g0 < w1.heap.size := by have h1 := hx1.size; have h2 := HG0.out; simp at h1; omega
  rw [HG0.out] at hTr ⊢
  obtain ⟨N, hN⟩ : ∃ N, T.length = N := ⟨_, rfl⟩
  rw [hN] at hT hct hTr ⊢
  have HN := Lib.hid hN
  have HTR := Lib.hid hTr
  have HBT := Lib.hid hbT
  have HXW1 := Lib.hid hxw1
  obtain ⟨X0, hX0⟩ : ∃ X : List Nat, ∀ x, x ∈ X ↔ x < w1.heap.size ∧ x ≠ g0 := ⟨(List.range w1.heap.size).filter (fun x => decide (x ≠ g0)), by simp [List.mem_filter]⟩
  have HX0 := Lib.hid hX0
  clear hN hTr hbT hxw1 hx0 h00 hx1 hTo
  go_loopw [3, 5] (fun v a wr => ∃ (p : Nat) (D : List Ev), p ≤ N ∧ a = .int .i64 p ∧ Mst T p D ∧ D.length ≤ p ∧ RutAt wr g0 X0 v D ∧ Chg [g0] w1 wr) (fun _ a _ => N - (intOf a).toNat)
  case atStart => exact ⟨0, [], Nat.zero_le _, rfl, Mst.start T, Nat.le_refl _, ⟨[], rfl, by simpa [evCells] using hrow, fun q hq hm => by simp [Value.ownBlock] at hq; exact ((hX0 q).1 hm).2 hq.symm, fun j e u h => by simp at h⟩, Chg.refl _ _⟩
  case round =>
    clear hrow hX0
    obtain ⟨p, D, hp, rfl, hM, hDp, hO, hc⟩ := hrel
    obtain ⟨Av, cv, rfl, hcv, hcvm⟩ := hO.len
    have hTr := HTR.out.chg hc (fun y hy => .inl hy) HBT.out
    have hsz := hc.size
    by_cases hlt : p < N
    · obtain ⟨x, hx⟩ : ∃ x, T[p]? = some x := ⟨_, List.getElem?_eq_getElem (by rw [HN.out]; exact hlt)⟩
      obtain ⟨bT, oT, B1, d1, rfl, hbl, p0, -, -, -, -⟩ := hTr.at4 hx
      have hRun := hM.run HAT.out hx
      have HX := Lib.hid hx
      have HO := Lib.hid hO
      have HTr := Lib.hid hTr
      have HC := Lib.hid hc
      have HRUN := Lib.hid hRun
      clear hx hO hTr hc hM hRun
      go_wp2
      obtain ⟨w2, hw2⟩ : ∃ x, x = wr := ⟨_, rfl⟩
      have hx2 : Ext w2 wr := by rw [hw2]; exact Ext.refl _
      have HO2 := Lib.hid (show RutAt w2 g0 X0 (.slice Av D.length cv) D by rw [hw2]; exact HO.out)
      have HT2 := Lib.hid (show RvsRd w2 [g0] (some ⟨bT, oT, none⟩) N T by rw [hw2]; exact HTr.out)
      have HC2 := Lib.hid (show Chg [g0] w1 w2 by rw [hw2]; exact HC.out)
      have hbl2 : bT < w2.heap.size := by rw [hw2]; exact hbl
      have q0 : w2.cell? ⟨bT, oT + p * 4, none⟩ = some (.int .i64 x.kind) := by rw [hw2]; exact p0
      have hsz2 : w1.heap.size ≤ w2.heap.size := by rw [hw2]; exact hsz
      clear HO HTr HC hbl p0 hsz hw2
      go_loopw [6] (fun t wq => ∃ tt : Nat, t = .int .i64 tt ∧ Mrun T p tt D ∧ Ext w2 wq) (fun t _ => N - (intOf t).toNat)
      case atStart => exact ⟨p + 1, by go_num, HRUN.out, hx2⟩
      case round =>
        clear hx2
        obtain ⟨tt, rfl, hR, hxq⟩ := hrel
        have hpt : p < tt := hR.1
        have htN : tt ≤ N := by have := hR.2.1; rw [HN.out] at this; exact this
        have y0 : wr.cell? ⟨bT, oT + p * 4, none⟩ = some (.int .i64 x.kind) := (hxq.cell (p := ⟨bT, _, none⟩) hbl2).trans q0
        by_cases htl : tt < N
        · obtain ⟨y, hy⟩ : ∃ y, T[tt]? = some y := ⟨_, List.getElem?_eq_getElem (by rw [HN.out]; exact htl)⟩
          obtain ⟨bT', oT', _, _, hbe, _, z0, -, -, -, -⟩ := (HT2.out.keep hxq).at4 hy
          cases hbe
          have HY := Lib.hid hy
          have HR2 := Lib.hid hR
          clear hy hR
          by_cases hco : x.kind = y.kind ∧ (x.kind = 1 ∧ tt - p < 1024 ∨ x.kind = 3 ∧ tt - p < 9999)
          · have HG := Lib.hid (HR2.out.grow HAT.out HX.out HY.out hco)
            obtain ⟨hke, ⟨hk1, hlim⟩ | ⟨hk1, hlim⟩⟩ := hco
            · rw [← hke, hk1] at z0
              rw [hk1] at y0
              have cb : decide ((tt : Int) - p < 1024) = true := decide_eq_true (by omega)
              clear hke hk1
              go_wp2
              go_quiet (fail)
              go_wp2
              go_roundw
              case rel => exact ⟨tt + 1, by go_num, HG.out, hxq.trans (Ext.drawn _ _)⟩
              case measure => simp [intOf]; omega
            · rw [← hke, hk1] at z0
              rw [hk1] at y0
              clear hke hk1
              go_wp2
              go_quiet (fail)
              go_wp2
              go_roundw
              case rel => exact ⟨tt + 1, by go_num, HG.out, hxq.trans (Ext.drawn _ _)⟩
              case measure => simp [intOf]; omega
          · have HD := Lib.hid (HR2.out.done HAT.out HX.out (fun y' hy' => by rw [HY.out] at hy'; cases hy'; exact hco))
            by_cases hke : x.kind = y.kind
            · rw [← hke] at z0
              by_cases hk1 : x.kind = 1
              · have hlim : ¬ tt - p < 1024 := fun h => hco ⟨hke, .inl ⟨hk1, h⟩⟩
                rw [hk1] at z0 y0
                have cb : decide ((tt : Int) - p < 1024) = false := decide_eq_false (by omega)
                clear hco hke hk1
                go_wp2
                go_quiet (fail)
                have hxd : Ext w2 (wr.drewN nq) := hxq.trans (Ext.drawn _ _)
                have HOQ := Lib.hid (HO2.out.keep hxd)
                have HTQ := Lib.hid (HT2.out.keep hxd)
                have HCQ := Lib.hid (HC2.out.trans (Chg.of_ext hxd))
                have hszd : w1.heap.size ≤ (wr.drewN nq).heap.size := Nat.le_trans hsz2 hxd.size
                generalize wr.drewN nq = wd at *
                clear hxd y0
                go_wp2_with (first
                  | (at_builtin; go_loud (refine wpList_appR rfl (.tmp 63) (.tmp 69) rfl (e := joinL (runAt T p tt)) (vb := .string ⟨(joinL (runAt T p tt)).b.toArray⟩) (vm := .slice Aj (joinL (runAt T p tt)).m.length cj) (HOQ.out.keep hxj) (by have := hxj.size; omega) (fun y hy => by have := ((HX0.out y).1 hy).1; have := hxj.size; omega) (HVJ.out _ (fun y hy => by rcases List.mem_append.1 hy with h | h; exact (HOQ.out.own_lt y (by simpa using h)).2; have := ((HX0.out y).1 h).1; omega)) rfl (by omega) rfl rfl rfl rfl ?_); intro A4 c4 w4 hR4 hK4; have HR4 := Lib.hid hR4; have HK4 := Lib.hid hK4; clear hR4 hK4)
                  | (go_at_call 26; go_loud (refine (refJoin ((HTQ.out.part hpt htN).sub (by simp)) (by omega) (by omega) (by omega) (fun e he => by have h := HAT.out e (List.mem_of_mem_drop (List.mem_of_mem_take he)); exact atom_bounds h.1 h.2)).mono ?_); unfold evA strV; rintro _ wj ⟨Aj, cj, rfl, hvj, hxj⟩; have HVJ := Lib.hid hvj; clear hvj))
                obtain ⟨Y, hY, hcY⟩ := HK4.out.more
                have hc4 : Chg [g0] w1 w4 := (HCQ.out.trans (Chg.of_ext hxj)).more hcY (fun y hy => by
                  by_cases hy0 : y = g0
                  · exact .inl (by simp [hy0])
                  · right
                    have := (hY y hy).2
                    rw [HX0.out] at this
                    by_cases h : y < w1.heap.size
                    · exact absurd ⟨h, hy0⟩ this
                    · omega)
                exact ⟨⟨tt, _, htN, rfl, HD.out, by simp; omega, HR4.out, hc4⟩, by simp [intOf]; omega⟩
              · by_cases hk3 : x.kind = 3
                · have hlim : ¬ tt - p < 9999 := fun h => hco ⟨hke, .inr ⟨hk3, h⟩⟩
                  rw [hk3] at z0 y0
                  clear hco hke hk1 hk3
                  go_wp2
                  go_quiet (fail)
                  have hxd : Ext w2 (wr.drewN nq) := hxq.trans (Ext.drawn _ _)
                  have HOQ := Lib.hid (HO2.out.keep hxd)
                  have HTQ := Lib.hid (HT2.out.keep hxd)
                  have HCQ := Lib.hid (HC2.out.trans (Chg.of_ext hxd))
                  have hszd : w1.heap.size ≤ (wr.drewN nq).heap.size := Nat.le_trans hsz2 hxd.size
                  generalize wr.drewN nq = wd at *
                  clear hxd y0
                  go_wp2_with (first
                    | (at_builtin; go_loud (refine wpList_appR rfl (.tmp 63) (.tmp 69) rfl (e := joinL (runAt T p tt)) (vb := .string ⟨(joinL (runAt T p tt)).b.toArray⟩) (vm := .slice Aj (joinL (runAt T p tt)).m.length cj) (HOQ.out.keep hxj) (by have := hxj.size; omega) (fun y hy => by have := ((HX0.out y).1 hy).1; have := hxj.size; omega) (HVJ.out _ (fun y hy => by rcases List.mem_append.1 hy with h | h; exact (HOQ.out.own_lt y (by simpa using h)).2; have := ((HX0.out y).1 h).1; omega)) rfl (by omega) rfl rfl rfl rfl ?_); intro A4 c4 w4 hR4 hK4; have HR4 := Lib.hid hR4; have HK4 := Lib.hid hK4; clear hR4 hK4)
                    | (go_at_call 26; go_loud (refine (refJoin ((HTQ.out.part hpt htN).sub (by simp)) (by omega) (by omega) (by omega) (fun e he => by have h := HAT.out e (List.mem_of_mem_drop (List.mem_of_mem_take he)); exact atom_bounds h.1 h.2)).mono ?_); unfold evA strV; rintro _ wj ⟨Aj, cj, rfl, hvj, hxj⟩; have HVJ := Lib.hid hvj; clear hvj))
                  obtain ⟨Y, hY, hcY⟩ := HK4.out.more
                  have hc4 : Chg [g0] w1 w4 := (HCQ.out.trans (Chg.of_ext hxj)).more hcY (fun y hy => by
                    by_cases hy0 : y = g0
                    · exact .inl (by simp [hy0])
                    · right
                      have := (hY y hy).2
                      rw [HX0.out] at this
                      by_cases h : y < w1.heap.size
                      · exact absurd ⟨h, hy0⟩ this
                      · omega)
                  exact ⟨⟨tt, _, htN, rfl, HD.out, by simp; omega, HR4.out, hc4⟩, by simp [intOf]; omega⟩
                · have hk1' : (x.kind == 1) = false := by simpa using hk1
                  have hk3' : (x.kind == 3) = false := by simpa using hk3
                  clear hco hke hk1 hk3
                  go_wp2
                  go_quiet (fail)
                  have hxd : Ext w2 (wr.drewN nq) := hxq.trans (Ext.drawn _ _)
                  have HOQ := Lib.hid (HO2.out.keep hxd)
                  have HTQ := Lib.hid (HT2.out.keep hxd)
                  have HCQ := Lib.hid (HC2.out.trans (Chg.of_ext hxd))
                  have hszd : w1.heap.size ≤ (wr.drewN nq).heap.size := Nat.le_trans hsz2 hxd.size
                  generalize wr.drewN nq = wd at *
                  clear hxd y0
                  go_wp2_with (first
                    | (at_builtin; go_loud (refine wpList_appR rfl (.tmp 63) (.tmp 69) rfl (e := joinL (runAt T p tt)) (vb := .string ⟨(joinL (runAt T p tt)).b.toArray⟩) (vm := .slice Aj (joinL (runAt T p tt)).m.length cj) (HOQ.out.keep hxj) (by have := hxj.size; omega) (fun y hy => by have := ((HX0.out y).1 hy).1; have := hxj.size; omega) (HVJ.out _ (fun y hy => by rcases List.mem_append.1 hy with h | h; exact (HOQ.out.own_lt y (by simpa using h)).2; have := ((HX0.out y).1 h).1; omega)) rfl (by omega) rfl rfl rfl rfl ?_); intro A4 c4 w4 hR4 hK4; have HR4 := Lib.hid hR4; have HK4 := Lib.hid hK4; clear hR4 hK4)
                    | (go_at_call 26; go_loud (refine (refJoin ((HTQ.out.part hpt htN).sub (by simp)) (by omega) (by omega) (by omega) (fun e he => by have h := HAT.out e (List.mem_of_mem_drop (List.mem_of_mem_take he)); exact atom_bounds h.1 h.2)).mono ?_); unfold evA strV; rintro _ wj ⟨Aj, cj, rfl, hvj, hxj⟩; have HVJ := Lib.hid hvj; clear hvj))
                  obtain ⟨Y, hY, hcY⟩ := HK4.out.more
                  have hc4 : Chg [g0] w1 w4 := (HCQ.out.trans (Chg.of_ext hxj)).more hcY (fun y hy => by
                    by_cases hy0 : y = g0
                    · exact .inl (by simp [hy0])
                    · right
                      have := (hY y hy).2
                      rw [HX0.out] at this
                      by_cases h : y < w1.heap.size
                      · exact absurd ⟨h, hy0⟩ this
                      · omega)
                  exact ⟨⟨tt, _, htN, rfl, HD.out, by simp; omega, HR4.out, hc4⟩, by simp [intOf]; omega⟩
            · have hke' : (x.kind == y.kind) = false := by simpa using hke
              clear hco hke
              go_wp2
              go_quiet (fail)
              have hxd : Ext w2 (wr.drewN nq) := hxq.trans (Ext.drawn _ _)
              have HOQ := Lib.hid (HO2.out.keep hxd)
              have HTQ := Lib.hid (HT2.out.keep hxd)
              have HCQ := Lib.hid (HC2.out.trans (Chg.of_ext hxd))
              have hszd : w1.heap.size ≤ (wr.drewN nq).heap.size := Nat.le_trans hsz2 hxd.size
              generalize wr.drewN nq = wd at *
              clear hxd y0
              go_wp2_with (first
                | (at_builtin; go_loud (refine wpList_appR rfl (.tmp 63) (.tmp 69) rfl (e := joinL (runAt T p tt)) (vb := .string ⟨(joinL (runAt T p tt)).b.toArray⟩) (vm := .slice Aj (joinL (runAt T p tt)).m.length cj) (HOQ.out.keep hxj) (by have := hxj.size; omega) (fun y hy => by have := ((HX0.out y).1 hy).1; have := hxj.size; omega) (HVJ.out _ (fun y hy => by rcases List.mem_append.1 hy with h | h; exact (HOQ.out.own_lt y (by simpa using h)).2; have := ((HX0.out y).1 h).1; omega)) rfl (by omega) rfl rfl rfl rfl ?_); intro A4 c4 w4 hR4 hK4; have HR4 := Lib.hid hR4; have HK4 := Lib.hid hK4; clear hR4 hK4)
                | (go_at_call 26; go_loud (refine (refJoin ((HTQ.out.part hpt htN).sub (by simp)) (by omega) (by omega) (by omega) (fun e he => by have h := HAT.out e (List.mem_of_mem_drop (List.mem_of_mem_take he)); exact atom_bounds h.1 h.2)).mono ?_); unfold evA strV; rintro _ wj ⟨Aj, cj, rfl, hvj, hxj⟩; have HVJ := Lib.hid hvj; clear hvj))
              obtain ⟨Y, hY, hcY⟩ := HK4.out.more
              have hc4 : Chg [g0] w1 w4 := (HCQ.out.trans (Chg.of_ext hxj)).more hcY (fun y hy => by
                by_cases hy0 : y = g0
                · exact .inl (by simp [hy0])
                · right
                  have := (hY y hy).2
                  rw [HX0.out] at this
                  by_cases h : y < w1.heap.size
                  · exact absurd ⟨h, hy0⟩ this
                  · omega)
              exact ⟨⟨tt, _, htN, rfl, HD.out, by simp; omega, HR4.out, hc4⟩, by simp [intOf]; omega⟩
        · have HD := Lib.hid (hR.done HAT.out HX.out (fun y hy => absurd (List.getElem?_eq_some_iff.1 hy).1 (by rw [HN.out]; exact htl)))
          have HR2 := Lib.hid hR
          clear hR
          go_wp2
          go_quiet (fail)
          have hxd : Ext w2 (wr.drewN nq) := hxq.trans (Ext.drawn _ _)
          have HOQ := Lib.hid (HO2.out.keep hxd)
          have HTQ := Lib.hid (HT2.out.keep hxd)
          have HCQ := Lib.hid (HC2.out.trans (Chg.of_ext hxd))
          have hszd : w1.heap.size ≤ (wr.drewN nq).heap.size := Nat.le_trans hsz2 hxd.size
          generalize wr.drewN nq = wd at *
          clear hxd y0
          go_wp2_with (first
            | (at_builtin; go_loud (refine wpList_appR rfl (.tmp 63) (.tmp 69) rfl (e := joinL (runAt T p tt)) (vb := .string ⟨(joinL (runAt T p tt)).b.toArray⟩) (vm := .slice Aj (joinL (runAt T p tt)).m.length cj) (HOQ.out.keep hxj) (by have := hxj.size; omega) (fun y hy => by have := ((HX0.out y).1 hy).1; have := hxj.size; omega) (HVJ.out _ (fun y hy => by rcases List.mem_append.1 hy with h | h; exact (HOQ.out.own_lt y (by simpa using h)).2; have := ((HX0.out y).1 h).1; omega)) rfl (by omega) rfl rfl rfl rfl ?_); intro A4 c4 w4 hR4 hK4; have HR4 := Lib.hid hR4; have HK4 := Lib.hid hK4; clear hR4 hK4)
            | (go_at_call 26; go_loud (refine (refJoin ((HTQ.out.part hpt htN).sub (by simp)) (by omega) (by omega) (by omega) (fun e he => by have h := HAT.out e (List.mem_of_mem_drop (List.mem_of_mem_take he)); exact atom_bounds h.1 h.2)).mono ?_); unfold evA strV; rintro _ wj ⟨Aj, cj, rfl, hvj, hxj⟩; have HVJ := Lib.hid hvj; clear hvj))
          obtain ⟨Y, hY, hcY⟩ := HK4.out.more
          have hc4 : Chg [g0] w1 w4 := (HCQ.out.trans (Chg.of_ext hxj)).more hcY (fun y hy => by
            by_cases hy0 : y = g0
            · exact .inl (by simp [hy0])
            · right
              have := (hY y hy).2
              rw [HX0.out] at this
              by_cases h : y < w1.heap.size
              · exact absurd ⟨h, hy0⟩ this
              · omega)
          exact ⟨⟨tt, _, htN, rfl, HD.out, by simp; omega, HR4.out, hc4⟩, by simp [intOf]; omega⟩
    · obtain rfl : p = N := by omega
      have hD : D = mergeL T := by rw [← HN.out] at hM; exact hM.end
      have HO := Lib.hid hO
      have HD := Lib.hid hD
      have hxw : Ext w wr := hc.below HXW1.out (by have := HXW1.out.size; exact this) (by simp [HG0.out])
      have HXW := Lib.hid hxw
      clear hO hD hM hc hTr hxw
      go_wp2
      go_ret
      exact ⟨_, rfl, by rw [← HD.out]; exact HO.out.weak (Nat.le_refl _) (by simp), HXW.out⟩
end Go.Proofs.Ytnbdmlpnoiljdaa
