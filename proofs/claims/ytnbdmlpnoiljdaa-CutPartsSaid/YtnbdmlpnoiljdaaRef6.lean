/- layer 39's document: Join. -/
import Derived.Test.YtnbdmlpnoiljdaaRef5
import Derived.Laws.ResultCell
namespace Go.Proofs.Ytnbdmlpnoiljdaa
open Go Go.RowKit

theorem take_bounds {es : List Ev} (h : ∀ e ∈ es, 0 ≤ e.n ∧ e.n ≤ 9999 ∧ e.b.length ≤ 1024) : ∀ k : Nat, 0 ≤ sumN (es.take k) ∧ sumN (es.take k) ≤ 9999 * k ∧ (bytesL (es.take k)).length ≤ 1024 * k := by
  intro k
  induction k with
  | zero => simp [sumN, bytesL]
  | succ k ih =>
    by_cases hk : k < es.length
    · obtain ⟨i1, i2, i3⟩ := ih
      have he := h es[k] (List.getElem_mem hk)
      rw [List.take_succ_eq_append_getElem hk, sumN_append, bytesL_append, List.length_append]
      have h1 : sumN [es[k]] = es[k].n := by simp [sumN]
      have h2 : bytesL [es[k]] = es[k].b := by simp [bytesL]
      rw [h1, h2]
      omega
    · have e : es.take (k + 1) = es.take k := by rw [List.take_of_length_le (by omega), List.take_of_length_le (by omega)]
      rw [e]
      omega
theorem jm_snoc (l : List Ev) (e : Ev) : jm 0 (l ++ [e]) = jm 0 l ++ (if e.m = [] then [] else [((bytesL l).length : Int)]) := by
  rw [jm_append]; simp [jm]

set_option maxHeartbeats 4000000 in
set_option maxRecDepth 20000 in
/-- Events as one. -/
theorem refJoin {w : World} {es : List Ev} {A : Option Addr} {n c : Nat} (hr : RvsRd w [] A n es) (hn : n ≤ 100000) (hnp : 0 < n) (hnc : n ≤ c) (hsm : ∀ e ∈ es, 0 ≤ e.n ∧ e.n ≤ 9999 ∧ e.b.length ≤ 1024) :
    Calls Try.prog 26 #[.slice A n c] w fun r w' => ∃ Am cm, r = .returned (evA (joinL es) (strV (joinL es).b) (.slice Am (joinL es).m.length cm)) ∧ (∀ X, (∀ x ∈ X, x < w.heap.size) → RvOk w' X (joinL es) (strV (joinL es).b) (.slice Am (joinL es).m.length cm)) ∧ Ext w w' := by
  have hl : es.length = n := by obtain ⟨vs, _, h, _⟩ := hr; exact h
  obtain ⟨e0, he0⟩ : ∃ e, es[0]? = some e := ⟨_, List.getElem?_eq_getElem (by omega)⟩
  have hk0 : (joinL es).kind = e0.kind := by
    unfold joinL
    cases es with
    | nil => simp at he0
    | cons x r => simp at he0; subst he0; rfl
  have htb := take_bounds hsm
  obtain ⟨b0, o0, B0, d0, rfl, hbl0, p0, -, -, -, -⟩ := hr.at4 he0
  rw [Nat.zero_mul, Nat.add_zero] at p0
  have HR := Lib.hid hr
  have HL := Lib.hid hl
  have HTB := Lib.hid htb
  have HK0 := Lib.hid hk0
  clear hr hl htb hk0 he0 hsm
  go_enter Try.func26, Try.ntmps26
  go_wp2
  have hX2 : Ext w ((w.alloc (.cells #[.int .i64 0, .int .i64 0, .string ⟨#[]⟩, .slice none 0 0] 34)).alloc (.cells #[.int .i64 e0.kind, .int .i64 0, .string ⟨#[]⟩, .slice none 0 0] 34)) := (Ext.new1 w _).trans (Ext.new1 _ _)
  go_loopw [13] (fun i wr => ∃ (k : Nat) (S : Int) (L : List UInt8) (J : List Int) (Am : Option Addr) (cm : Nat), k ≤ n ∧ i = .int .i64 k ∧ sumN (es.take k) = S ∧ bytesL (es.take k) = L ∧ jm 0 (es.take k) = J ∧
    Blk wr w.heap.size 34 [.int .i64 0, .int .i64 0, .string ⟨#[]⟩, .slice none 0 0] ∧ Blk wr (w.heap.size + 1) 34 [.int .i64 e0.kind, .int .i64 S, .string ⟨L.toArray⟩, .slice Am J.length cm] ∧
    wr.ownsRow (w.heap.size + 2) 3 1 (.slice Am J.length cm) J.length (intsV J) ∧ Ext w wr) (fun i _ => n - (intOf i).toNat)
  case atStart =>
    refine ⟨0, 0, [], [], none, 0, Nat.zero_le _, rfl, rfl, rfl, rfl, (Blk.new w 34 #[.int .i64 0, .int .i64 0, .string ⟨#[]⟩, .slice none 0 0]).alloc _, ?_, World.ownsRow_nil _ _ _ _, hX2⟩
    have := Blk.new (w.alloc (.cells #[.int .i64 0, .int .i64 0, .string ⟨#[]⟩, .slice none 0 0] 34)) 34 #[.int .i64 e0.kind, .int .i64 0, .string ⟨#[]⟩, .slice none 0 0]
    simpa using this
  case round =>
    clear hX2
    obtain ⟨k, S, L, J, Am, cm, hk, rfl, hS, hL, hJ, hb2, hb3, hJo, hx⟩ := hrel
    by_cases hlt : k < n
    · obtain ⟨e, he⟩ : ∃ e, es[k]? = some e := ⟨_, List.getElem?_eq_getElem (by rw [HL.out]; exact hlt)⟩
      obtain ⟨b1, o1, B1, d1, heq, hbl, p0', p1', p2', p3', hev', _⟩ := HR.out.at4 he
      cases heq
      have p0 : wr.cell? ⟨b0, o0 + k * 4, none⟩ = some (.int .i64 e.kind) := (hx.cell (p := ⟨b0, _, none⟩) hbl).trans p0'
      have p1 : wr.cell? ⟨b0, o0 + k * 4 + 1, none⟩ = some (.int .i64 e.n) := (hx.cell (p := ⟨b0, _, none⟩) hbl).trans p1'
      have p2 : wr.cell? ⟨b0, o0 + k * 4 + 2, none⟩ = some (.string ⟨e.b.toArray⟩) := (hx.cell (p := ⟨b0, _, none⟩) hbl).trans p2'
      have p3 : wr.cell? ⟨b0, o0 + k * 4 + 3, none⟩ = some (.slice B1 e.m.length d1) := (hx.cell (p := ⟨b0, _, none⟩) hbl).trans p3'
      have htk := take_snoc he
      have hS1 : sumN (es.take (k + 1)) = S + e.n := by rw [htk, sumN_append, hS]; simp [sumN]
      have hL1 : bytesL (es.take (k + 1)) = L ++ e.b := by rw [htk, bytesL_append, hL]; simp [bytesL]
      have hJ1 : jm 0 (es.take (k + 1)) = J ++ (if e.m = [] then [] else [(L.length : Int)]) := by rw [htk, jm_snoc, hJ, hL]
      obtain ⟨hs0, hs1, hs2⟩ := HTB.out k
      obtain ⟨ht0, ht1, ht2⟩ := HTB.out (k + 1)
      rw [hS] at hs0 hs1
      rw [hL] at hs2
      rw [hS1] at ht0 ht1
      rw [hL1, List.length_append] at ht2
      have hcat : ¬ 9223372036854775807 < L.length + e.b.length := by omega
      have hJl : J.length ≤ 100000 := by
        have := jm_len (es.take k) 0
        rw [hJ, List.length_take] at this
        omega
      have hg3 : ∀ q, (Value.slice Am J.length cm).ownBlock = some q → w.heap.size + 2 ≤ q ∧ q < wr.heap.size := hJo.lt
      have x1 : wr.cell? ⟨w.heap.size + 1, 1, none⟩ = some (.int .i64 S) := hb3.cell 1
      have x2 : wr.cell? ⟨w.heap.size + 1, 2, none⟩ = some (.string ⟨L.toArray⟩) := hb3.cell 2
      have x3 : wr.cell? ⟨w.heap.size + 1, 3, none⟩ = some (.slice Am J.length cm) := hb3.cell 3
      have f1 := hb3.frozen 1
      have f2 := hb3.frozen 2
      have f3 := hb3.frozen 3
      have h3l := hb3.lt
      have HS1 := Lib.hid hS1
      have HL1 := Lib.hid hL1
      have HJ1 := Lib.hid hJ1
      have HB2 := Lib.hid hb2
      have HB3 := Lib.hid hb3
      have HJO := Lib.hid hJo
      have hx1 := Ext.new1 wr (.cells #[.int .i64 e.kind, .int .i64 e.n, .string ⟨e.b.toArray⟩, .slice B1 e.m.length d1] 34)
      have HX1 := Lib.hid hx1
      clear p0' p1' p2' p3' hev' he htk hS hL hJ hS1 hL1 hJ1 hb2 hb3 hJo ht2 hx1
      by_cases hm : e.m = []
      · have hml : e.m.length = 0 := by rw [hm]; rfl
        rw [hml] at p3
        rw [if_pos hm, List.append_nil] at HJ1
        clear hml hm
        go_wp2
        have hc1 : Chg [w.heap.size + 1] wr ((wr.setCell ⟨w.heap.size + 1, 2, none⟩ (.string ⟨(L ++ e.b).toArray⟩)).setCell ⟨w.heap.size + 1, 1, none⟩ (.int .i64 (S + e.n))) := ((Chg.refl _ _).setCell (by simp) _).setCell (by simp) _
        refine ⟨⟨k + 1, S + e.n, L ++ e.b, J, Am, cm, hlt, by go_num, HS1.out, HL1.out, HJ1.out, (HB2.out.chg hc1 (by simp)).alloc _, ?_, own_alloc (own_chg HJO.out hc1 (fun q hq hmq => by have := (hg3 q hq).1; simp at hmq; omega)) _, (hc1.alloc _).below hx hx.size (by simp)⟩, by simp [intOf]; omega⟩
        simpa using ((HB3.out.set_ 2 (.string ⟨(L ++ e.b).toArray⟩)).set_ 1 (.int .i64 (S + e.n))).alloc (.cells #[.int .i64 e.kind, .int .i64 e.n, .string ⟨e.b.toArray⟩, .slice B1 0 d1] 34)
      · have hml : 0 < e.m.length := List.length_pos_iff.2 hm
        rw [if_neg hm] at HJ1
        clear hm
        have hx1 := HX1.out
        have hb5 : Blk (wr.alloc (.cells #[.int .i64 e.kind, .int .i64 e.n, .string ⟨e.b.toArray⟩, .slice B1 e.m.length d1] 34)) wr.heap.size 34 [.int .i64 e.kind, .int .i64 e.n, .string ⟨e.b.toArray⟩, .slice B1 e.m.length d1] := Blk.new wr 34 #[.int .i64 e.kind, .int .i64 e.n, .string ⟨e.b.toArray⟩, .slice B1 e.m.length d1]
        have HB5 := Lib.hid hb5
        clear hb5 hx1
        go_wp2_with (at_builtin; go_loud (refine wpList_app2 (base := w.heap.size + 2) Try.elemI rfl (.tmp 22) (.tmp 26) rfl (v := .slice Am J.length cm) (n := J.length) rfl (own_ext HJO.out (HX1.out.trans (Ext.new1 _ _))) (by simp; omega) rfl (rd_at (by simp)) (by simp [Value.oneCell']) (by omega) (by unfold maxLen; omega) ?_); intro v4 w4 hown4 hg4 _ hat4; obtain ⟨A4, c4, rfl, -, -, -⟩ := own_rd hown4; have hb34 := (HB3.out.keep (HX1.out.trans (Ext.new1 _ (.cells #[.int .i64 L.length] 3)))).grew hg4 (fun h => by have := (hg3 _ h.symm).1; omega); have hb54 := (HB5.out.keep (Ext.new1 _ (.cells #[.int .i64 L.length] 3))).grew hg4 (fun h => by have := (hg3 _ h.symm).2; omega); have y1 : w4.cell? ⟨w.heap.size + 1, 1, none⟩ = some (.int .i64 S) := hb34.cell 1; have y2 : w4.cell? ⟨w.heap.size + 1, 2, none⟩ = some (.string ⟨L.toArray⟩) := hb34.cell 2; have y3 : w4.cell? ⟨w.heap.size + 1, 3, none⟩ = some (.slice Am J.length cm) := hb34.cell 3; have q1 := hb34.frozen 1; have q2 := hb34.frozen 2; have q3 := hb34.frozen 3; have z1 : w4.cell? ⟨wr.heap.size, 1, none⟩ = some (.int .i64 e.n) := hb54.cell 1; have z2 : w4.cell? ⟨wr.heap.size, 2, none⟩ = some (.string ⟨e.b.toArray⟩) := hb54.cell 2; have HOWN4 := Lib.hid hown4; have HG4 := Lib.hid hg4; have HB34 := Lib.hid hb34; clear hown4 hg4 hat4 hb34 hb54)
        have hc4 : Chg [w.heap.size + 1] w4 (((w4.setCell ⟨w.heap.size + 1, 3, none⟩ (.slice A4 (J.length + 1) c4)).setCell ⟨w.heap.size + 1, 2, none⟩ (.string ⟨(L ++ e.b).toArray⟩)).setCell ⟨w.heap.size + 1, 1, none⟩ (.int .i64 (S + e.n))) := (((Chg.refl _ _).setCell (by simp) _).setCell (by simp) _).setCell (by simp) _
        have hb24 := ((HB2.out.keep (HX1.out.trans (Ext.new1 _ (.cells #[.int .i64 L.length] 3)))).grew HG4.out (fun h => by have := (hg3 _ h.symm).1; omega)).chg hc4 (by simp)
        have hx4 : Ext w w4 := HG4.out.below (hx.trans (HX1.out.trans (Ext.new1 _ _))) (by omega) (by have := hx.size; simp; omega)
        have hJo4 := own_chg HOWN4.out hc4 (fun q hq hmq => by have := (HOWN4.out.lt q hq).1; simp at hmq; omega)
        have hb35 : Blk (((w4.setCell ⟨w.heap.size + 1, 3, none⟩ (.slice A4 (J.length + 1) c4)).setCell ⟨w.heap.size + 1, 2, none⟩ (.string ⟨(L ++ e.b).toArray⟩)).setCell ⟨w.heap.size + 1, 1, none⟩ (.int .i64 (S + e.n))) (w.heap.size + 1) 34 [.int .i64 e0.kind, .int .i64 (S + e.n), .string ⟨(L ++ e.b).toArray⟩, .slice A4 (J.length + 1) c4] := by
          have := ((HB34.out.set_ 3 (.slice A4 (J.length + 1) c4)).set_ 2 (.string ⟨(L ++ e.b).toArray⟩)).set_ 1 (.int .i64 (S + e.n))
          simpa only [List.set_cons_zero, List.set_cons_succ] using this
        have hJl1 : (J ++ [(L.length : Int)]).length = J.length + 1 := by simp
        have hJv : intsV (J ++ [(L.length : Int)]) = intsV J ++ [.int .i64 L.length] := by simp [intsV]
        refine ⟨⟨k + 1, S + e.n, L ++ e.b, J ++ [(L.length : Int)], A4, c4, hlt, by go_num, HS1.out, HL1.out, HJ1.out, hb24, ?_, ?_, hc4.below hx4 hx4.size (by simp)⟩, by simp [intOf]; omega⟩
        · rw [hJl1]; exact hb35
        · rw [hJl1, hJv]; exact hJo4
    · obtain rfl : k = n := by omega
      rw [List.take_of_length_le (by rw [HL.out]; exact Nat.le_refl _)] at hS hL hJ
      have x0 : wr.cell? ⟨w.heap.size + 1, 0, none⟩ = some (.int .i64 e0.kind) := hb3.cell 0
      have x1 : wr.cell? ⟨w.heap.size + 1, 1, none⟩ = some (.int .i64 S) := hb3.cell 1
      have x2 : wr.cell? ⟨w.heap.size + 1, 2, none⟩ = some (.string ⟨L.toArray⟩) := hb3.cell 2
      have x3 : wr.cell? ⟨w.heap.size + 1, 3, none⟩ = some (.slice Am J.length cm) := hb3.cell 3
      have y0 : wr.cell? ⟨w.heap.size, 0, none⟩ = some (.int .i64 0) := hb2.cell 0
      have y1 : wr.cell? ⟨w.heap.size, 1, none⟩ = some (.int .i64 0) := hb2.cell 1
      have y2 : wr.cell? ⟨w.heap.size, 2, none⟩ = some (.string ⟨#[]⟩) := hb2.cell 2
      have y3 : wr.cell? ⟨w.heap.size, 3, none⟩ = some (.slice none 0 0) := hb2.cell 3
      have q0 := hb2.frozen 0
      have q1 := hb2.frozen 1
      have q2 := hb2.frozen 2
      have q3 := hb2.frozen 3
      have HB2 := Lib.hid hb2
      have HJO := Lib.hid hJo
      have hj : joinL es = ⟨e0.kind, S, L, J⟩ := by
        have hk := HK0.out
        unfold joinL at hk ⊢
        simp only at hk
        rw [hk, hS, hL, hJ]
      have HJ := Lib.hid hj
      clear hS hL hJ hb2 hb3 hJo hj
      go_wp2
      obtain ⟨hbf, hcf⟩ := set4 HB2.out (.int .i64 e0.kind) (.int .i64 S) (.string ⟨L.toArray⟩) (.slice Am J.length cm)
      clear x0 x1 x2 x3 y0 y1 y2 y3 q0 q1 q2 q3
      generalize ((((wr.setCell ⟨w.heap.size, 0, none⟩ (.int .i64 e0.kind)).setCell ⟨w.heap.size, 1, none⟩ (.int .i64 S)).setCell ⟨w.heap.size, 2, none⟩ (.string ⟨L.toArray⟩)).setCell ⟨w.heap.size, 3, none⟩ (.slice Am J.length cm)) = wf at hbf hcf ⊢
      have p0 := hbf.cell 0
      have p1 := hbf.cell 1
      have p2 := hbf.cell 2
      have p3 := hbf.cell 3
      have hxf : Ext w wf := hcf.below hx hx.size (by simp)
      have hJof := own_chg HJO.out hcf (fun q hq hmq => by have := (HJO.out.lt q hq).1; simp at hmq; omega)
      refine bodyPost_ret (v := .agg #[.int .i64 e0.kind, .int .i64 S, .string ⟨L.toArray⟩, .slice Am J.length cm]) ?_ rfl ⟨Am, cm, by rw [HJ.out]; rfl, fun X hX => by rw [HJ.out]; exact ⟨rfl, own_rdg hJof (fun q hq hmq => by have := hX q hmq; have := (hJof.lt q hq).1; omega)⟩, hxf⟩
      rw [results_cell1 rfl]
      go_simp
end Go.Proofs.Ytnbdmlpnoiljdaa
