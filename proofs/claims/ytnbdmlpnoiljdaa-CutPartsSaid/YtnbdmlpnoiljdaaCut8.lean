/- layer 39: Bytes and Marks. -/
import Derived.Test.YtnbdmlpnoiljdaaEv2
namespace Go.Proofs.Ytnbdmlpnoiljdaa
open Go Go.RowKit

/-- An event of a list, loaded: its cells as the walk wants them. -/
theorem EvsRd.at4 {w : World} {X : List Nat} {A : Option Addr} {n : Nat} {es : List Ev} (h : EvsRd w X A n es) {k : Nat} {e : Ev} (hk : es[k]? = some e) :
    ∃ b o A1 c1 B1 d1, A = some ⟨b, o, none⟩ ∧ b < w.heap.size ∧ w.cell? ⟨b, o + k * 4, none⟩ = some (.int .i64 e.kind) ∧ w.cell? ⟨b, o + k * 4 + 1, none⟩ = some (.int .i64 e.n) ∧ w.cell? ⟨b, o + k * 4 + 2, none⟩ = some (.slice A1 e.b.length c1) ∧ w.cell? ⟨b, o + k * 4 + 3, none⟩ = some (.slice B1 e.m.length d1) ∧
      EvOk w X e (.slice A1 e.b.length c1) (.slice B1 e.m.length d1) ∧ e.b.length ≤ c1 ∧ c1 ≤ maxLen ∧ e.m.length ≤ d1 ∧ d1 ≤ maxLen ∧ Rd w 1 A1 e.b.length (bytesV e.b) ∧ Rd w 1 B1 e.m.length (intsV e.m) := by
  obtain ⟨b, o, vb, vm, h1, h2, p0, p1, p2, p3, he⟩ := h.get hk
  obtain ⟨A1, c1, B1, d1, rfl, rfl, q1, q2, q3, q4, q5, q6⟩ := he.open
  exact ⟨b, o, A1, c1, B1, d1, h1, h2, p0, p1, p2, p3, he, q1, q2, q3, q4, q5, q6⟩
theorem take_snoc {l : List Ev} {k : Nat} {e : Ev} (h : l[k]? = some e) : l.take (k + 1) = l.take k ++ [e] := by
  rw [List.take_add_one, h]; rfl

set_option maxHeartbeats 2000000 in
set_option maxRecDepth 20000 in
theorem cutBytes {w : World} {es : List Ev} {A : Option Addr} {n c : Nat} (hr : EvsRd w [] A n es) (hn : n ≤ 1000000) (hnc : n ≤ c) :
    Calls Try.prog 15 #[.slice A n c] w fun e w' => ∃ v, e = .returned v ∧ w'.ownsRow w.heap.size 5 1 v (bytesR es).length (bytesV (bytesR es)) ∧ Ext w w' := by
  have hl : es.length = n := by obtain ⟨vs, _, h, _⟩ := hr; exact h
  have HR := Lib.hid hr
  have HL := Lib.hid hl
  clear hr hl
  go_enter Try.func15, Try.ntmps15
  go_wp2
  go_loopw [3, 8] (fun v i wr => ∃ k : Nat, k ≤ n ∧ i = .int .i64 k ∧ wr.ownsRow w.heap.size 5 1 v (bytesR (es.take k)).length (bytesV (bytesR (es.take k))) ∧ Ext w wr) (fun _ i _ => n - (intOf i).toNat)
  case atStart => exact ⟨0, Nat.zero_le _, rfl, World.ownsRow_nil _ _ _ _, Ext.refl _⟩
  case round =>
    obtain ⟨k, hk, rfl, ho, hx⟩ := hrel
    have hsz := hx.size
    by_cases hlt : k < n
    · obtain ⟨e, he⟩ : ∃ e, es[k]? = some e := ⟨_, List.getElem?_eq_getElem (by rw [HL.out]; exact hlt)⟩
      obtain ⟨b, o, A1, c1, B1, d1, rfl, hbl, p0, p1, p2, p3, hev, _, _, _, _, hrb, hrm⟩ := (HR.out.keep hx).at4 he
      obtain ⟨r, hrr⟩ : ∃ r, rightE e = r := ⟨_, rfl⟩
      have hsn := bytesR_snoc (es.take k) e
      rw [← take_snoc he] at hsn
      have hbk := bytesR_len es k
      have HE := Lib.hid he
      have HRR := Lib.hid hrr
      have hx1 := Ext.new1 wr (.cells #[.int .i64 e.kind, .int .i64 e.n, .slice A1 e.b.length c1, .slice B1 e.m.length d1] 43)
      have hE0 := Blk.new wr 43 #[.int .i64 e.kind, .int .i64 e.n, .slice A1 e.b.length c1, .slice B1 e.m.length d1]
      have hev1 := hev.keep hx1
      rw [hrr] at hsn
      obtain ⟨M, hM⟩ : ∃ M, bytesR (es.take k) = M := ⟨_, rfl⟩
      rw [hM] at ho hbk hsn
      have HSN := Lib.hid hsn
      have HO := Lib.hid ho
      have HRB := Lib.hid hrb
      clear he hrr hsn hM ho hev hrb hrm
      cases r
      · have hsn := HSN.out
        simp only [Bool.false_eq_true, if_false, List.append_nil] at hsn
        have HS2 := Lib.hid hsn
        clear hsn
        go_wp2_with (go_at_call 28; refine (rawRight hev1 false HRR.out).mono ?_; rintro _ w2 ⟨rfl, hb2⟩)
        go_roundw
        case rel => exact ⟨k + 1, hlt, by go_num, by rw [HS2.out]; exact own_ext HO.out (hx1.trans hb2), hx.trans (hx1.trans hb2)⟩
        case measure => simp [intOf]; omega
      · have hsn := HSN.out
        simp only [if_true] at hsn
        have HS2 := Lib.hid hsn
        have hfb : e.b.length ≤ 1024 := by
          by_cases hk1 : e.kind = 1
          · exact (right1 HRR.out hk1).2.1
          · rw [(rightO HRR.out hk1).1]; simp
        clear hsn
        go_wp2_with (first
          | (at_builtin; go_loud (refine wpList_app2 Try.elemB rfl (.tmp 14) (.tmp 16) rfl (n := M.length) rfl (own_ext HO.out (hx1.trans hb2)) (by have := hx1.size; have := hb2.size; omega) rfl (HRB.out.keep (hx1.trans hb2)) (one_bytesV _) (by omega) (by unfold maxLen; omega) ?_); intro v4 w4 hown4 hg4 _ _; have hx4 : Ext w w4 := hg4.below (hx.trans (hx1.trans hb2)) (Nat.le_refl _) (by have := hx1.size; have := hb2.size; omega); have HOWN4 := Lib.hid hown4; clear hown4 hg4)
          | (go_at_call 28; refine (rawRight hev1 true HRR.out).mono ?_; rintro _ w2 ⟨rfl, hb2⟩; have hE2 := hE0.keep hb2; have s2 : w2.cell? ⟨wr.heap.size, 2, none⟩ = some (.slice A1 e.b.length c1) := hE2.cell 2))
        have hown5 : w4.ownsRow w.heap.size 5 1 v4 (bytesR (es.take (k + 1))).length (bytesV (bytesR (es.take (k + 1)))) := by
          rw [HS2.out, List.length_append]
          simpa [bytesV] using HOWN4.out
        have HO5 := Lib.hid hown5
        clear hown5
        go_roundw
        case rel => exact ⟨k + 1, hlt, by go_num, HO5.out, hx4⟩
        case measure => simp [intOf]; omega
    · obtain rfl : k = n := by omega
      rw [List.take_of_length_le (by rw [HL.out]; exact Nat.le_refl _)] at ho
      go_wp2
      go_ret
      exact ⟨_, rfl, ho, hx⟩

set_option maxHeartbeats 4000000 in
set_option maxRecDepth 20000 in
theorem cutMarks {w : World} {es : List Ev} {A : Option Addr} {n c : Nat} (hr : EvsRd w [] A n es) (hn : n ≤ 1000000) (hnc : n ≤ c) :
    Calls Try.prog 17 #[.slice A n c] w fun e w' => ∃ v, e = .returned v ∧ w'.ownsRow w.heap.size 3 1 v (marksR es).length (intsV (marksR es)) ∧ Ext w w' := by
  have hl : es.length = n := by obtain ⟨vs, _, h, _⟩ := hr; exact h
  have HR := Lib.hid hr
  have HL := Lib.hid hl
  clear hr hl
  go_enter Try.func17, Try.ntmps17
  go_wp2
  go_loopw [3, 4, 11] (fun v a i wr => ∃ k : Nat, k ≤ n ∧ i = .int .i64 k ∧ a = .int .i64 (bytesR (es.take k)).length ∧ wr.ownsRow w.heap.size 3 1 v (marksR (es.take k)).length (intsV (marksR (es.take k))) ∧ Ext w wr ∧ (marksR (es.take k)).length ≤ 1024 * k) (fun _ _ i _ => n - (intOf i).toNat)
  case atStart => exact ⟨0, Nat.zero_le _, rfl, rfl, World.ownsRow_nil _ _ _ _, Ext.refl _, by simp [marksR, atoms, jm]⟩
  case round =>
    obtain ⟨k, hk, rfl, rfl, ho, hx, hml⟩ := hrel
    have hsz := hx.size
    by_cases hlt : k < n
    · obtain ⟨e, he⟩ : ∃ e, es[k]? = some e := ⟨_, List.getElem?_eq_getElem (by rw [HL.out]; exact hlt)⟩
      obtain ⟨b, o, A1, c1, B1, d1, rfl, hbl, p0', p1', p2', p3', hev', _, hcb, _, _, hrb, hrm⟩ := HR.out.at4 he
      have p0 : wr.cell? ⟨b, o + k * 4, none⟩ = some (.int .i64 e.kind) := (hx.cell (p := ⟨b, _, none⟩) hbl).trans p0'
      have p1 : wr.cell? ⟨b, o + k * 4 + 1, none⟩ = some (.int .i64 e.n) := (hx.cell (p := ⟨b, _, none⟩) hbl).trans p1'
      have p2 : wr.cell? ⟨b, o + k * 4 + 2, none⟩ = some (.slice A1 e.b.length c1) := (hx.cell (p := ⟨b, _, none⟩) hbl).trans p2'
      have p3 : wr.cell? ⟨b, o + k * 4 + 3, none⟩ = some (.slice B1 e.m.length d1) := (hx.cell (p := ⟨b, _, none⟩) hbl).trans p3'
      have hev := hev'.keep hx
      clear p0' p1' p2' p3' hev'
      obtain ⟨r, hrr⟩ : ∃ r, rightE e = r := ⟨_, rfl⟩
      have hsn := bytesR_snoc (es.take k) e
      have hsm := marksR_snoc (es.take k) e
      rw [← take_snoc he] at hsn hsm
      have hbk := bytesR_len es k
      have HE := Lib.hid he
      have HRR := Lib.hid hrr
      have hx1 := Ext.new1 wr (.cells #[.int .i64 e.kind, .int .i64 e.n, .slice A1 e.b.length c1, .slice B1 e.m.length d1] 43)
      have hE0 := Blk.new wr 43 #[.int .i64 e.kind, .int .i64 e.n, .slice A1 e.b.length c1, .slice B1 e.m.length d1]
      have hev1 := hev.keep hx1
      rw [hrr] at hsn hsm
      obtain ⟨M, hM⟩ : ∃ M, marksR (es.take k) = M := ⟨_, rfl⟩
      obtain ⟨T, hT⟩ : ∃ T, (bytesR (es.take k)).length = T := ⟨_, rfl⟩
      rw [hM] at ho hml hsm
      rw [hT] at hbk hsm
      have hsn' := congrArg List.length hsn
      rw [List.length_append, hT] at hsn'
      have HSN := Lib.hid hsn'
      have HSM := Lib.hid hsm
      have HO := Lib.hid ho
      have HRM := Lib.hid hrm
      have HT := Lib.hid hT
      rw [hT]
      clear he hrr hsn hsn' hsm hM ho hev hrb hrm hT
      cases r
      · have hsn := HSN.out
        have hsm := HSM.out
        simp only [Bool.false_eq_true, if_false, List.append_nil, List.length_nil, Nat.add_zero] at hsn hsm
        have HS2 := Lib.hid hsn
        have HS3 := Lib.hid hsm
        clear hsn hsm
        go_wp2_with (go_at_call 28; refine (rawRight hev1 false HRR.out).mono ?_; rintro _ w2 ⟨rfl, hb2⟩)
        go_roundw
        case rel => exact ⟨k + 1, hlt, by go_num, by rw [HS2.out], by rw [HS3.out]; exact own_ext HO.out (hx1.trans hb2), hx.trans (hx1.trans hb2), by rw [HS3.out]; omega⟩
        case measure => simp [intOf]; omega
      · have hsn := HSN.out
        have hsm := HSM.out
        simp only [if_true] at hsn hsm
        have HS2 := Lib.hid hsn
        have HS3 := Lib.hid hsm
        obtain ⟨hml2, hmb⟩ := right_marks HRR.out
        clear hsn hsm
        go_wp2_with (go_at_call 28; refine (rawRight hev1 true HRR.out).mono ?_; rintro _ w2 ⟨rfl, hb2⟩; have hE2 := hE0.keep hb2; have s2 : w2.cell? ⟨wr.heap.size, 3, none⟩ = some (.slice B1 e.m.length d1) := hE2.cell 3)
        obtain ⟨ge, hge⟩ : ∃ ge, wr.heap.size = ge := ⟨_, rfl⟩
        have hx2 : Ext wr w2 := hx1.trans hb2
        have hO2 := own_ext HO.out hx2
        have hobg : ob u3 ≠ ge + 1 := fun h => by have := (HO.out.lt ge (ob_own.2 h)).2; omega
        have hx02 : Ext w w2 := hx.trans hx2
        rw [hge] at hE2 ⊢
        have hgw : w.heap.size ≤ ge := by omega
        clear hx1 hb2 s2 hge hE0 hev1 hx2 HO hx
        go_loopw [3, 21] (fun v i wi => ∃ j : Nat, j ≤ e.m.length ∧ i = .int .i64 j ∧ wi.ownsRow w.heap.size 3 1 v (M ++ (e.m.take j).map fun x => (T : Int) + x).length (intsV (M ++ (e.m.take j).map fun x => (T : Int) + x)) ∧ Ext w wi ∧ Blk wi ge 43 [.int .i64 e.kind, .int .i64 e.n, .slice A1 e.b.length c1, .slice B1 e.m.length d1] ∧ ob v ≠ ge + 1) (fun _ i _ => e.m.length - (intOf i).toNat)
        case atStart => exact ⟨0, Nat.zero_le _, rfl, by simpa using hO2, hx02, hE2, hobg⟩
        case round =>
          clear hO2 hx02 hE2 hobg
          obtain ⟨j, hj, rfl, hO, hxw, hE, hob⟩ := hrel
          have hrm := HRM.out.keep hxw
          have hszw := hxw.size
          by_cases hlt2 : j < e.m.length
          · obtain ⟨x, hxm⟩ : ∃ x, e.m[j]? = some x := ⟨_, List.getElem?_eq_getElem hlt2⟩
            obtain ⟨bm, om, rfl, hbm, hcm⟩ := hrm.2 (by simp [intsV]; omega)
            have hcx : wr.cell? ⟨bm, om + j, none⟩ = some (.int .i64 x) := hcm j _ (by simp [intsV, hxm])
            have hxb := hmb x (List.mem_of_getElem? hxm)
            have htk : M ++ (e.m.take (j + 1)).map (fun x => (T : Int) + x) = (M ++ (e.m.take j).map fun x => (T : Int) + x) ++ [(T : Int) + x] := by
              rw [List.take_add_one, hxm]; simp
            obtain ⟨M2, hM2⟩ : ∃ M2, M ++ (e.m.take j).map (fun x => (T : Int) + x) = M2 := ⟨_, rfl⟩
            have hM2l : M2.length ≤ 1024 * k + j := by rw [← hM2]; simp; omega
            rw [hM2] at hO htk
            have HTK := Lib.hid htk
            have HO := Lib.hid hO
            have hE2 := hE.keep (Ext.new1 wr (.cells #[.int .i64 ((T : Int) + x)] 3))
            have HE3 := Lib.hid hE2
            have hgel := hE.lt
            clear hcm hxm htk hM2 hO hE2 hrm
            go_wp2_with (at_builtin; go_loud (refine wpList_app2 Try.elemI rfl (.tmp 25) (.tmp 29) rfl (n := M2.length) rfl (own_ext HO.out (Ext.new1 _ _)) (by simp; omega) rfl (rd_one wr (.int .i64 ((T : Int) + x)) 3) (one_one rfl) (by omega) (by unfold maxLen; omega) ?_); intro v4 w4 hown4 hg4 _ hat4; have hx4 : Ext w w4 := hg4.below (hxw.alloc hszw _) (Nat.le_refl _) (by simp; omega); have HOWN4 := Lib.hid hown4; have HG4 := Lib.hid hg4; have HAT4 := Lib.hid hat4; clear hown4 hg4 hat4)
            have hob4 : ob v4 ≠ ge + 1 := by
              rcases ob_at HAT4.out with h | h
              · rw [h]; exact hob
              · rw [h, World.size_alloc]; omega
            have hE4 := HE3.out.chg HG4.out.chg (fun hm => hob (ob_list.1 hm))
            have hown5 : w4.ownsRow w.heap.size 3 1 v4 (M ++ (e.m.take (j + 1)).map fun x => (T : Int) + x).length (intsV (M ++ (e.m.take (j + 1)).map fun x => (T : Int) + x)) := by
              rw [HTK.out, List.length_append]
              simpa [intsV] using HOWN4.out
            have HO5 := Lib.hid hown5
            clear hown5
            go_roundw
            case rel => exact ⟨j + 1, hlt2, by go_num, HO5.out, hx4, hE4, hob4⟩
            case measure => simp [intOf]; omega
          · obtain rfl : j = e.m.length := by omega
            rw [List.take_length] at hO
            have hE2 : wr.cell? ⟨ge, 2, none⟩ = some (.slice A1 e.b.length c1) := hE.cell 2
            have hO2 : wr.ownsRow w.heap.size 3 1 u3 (marksR (es.take (k + 1))).length (intsV (marksR (es.take (k + 1)))) := by rw [HS3.out]; exact hO
            have HO2 := Lib.hid hO2
            have hln : (marksR (es.take (k + 1))).length ≤ 1024 * (k + 1) := by rw [HS3.out, List.length_append, List.length_map]; omega
            have hb9 : e.b.length ≤ 1024 := by
              by_cases hk1 : e.kind = 1
              · exact (right1 HRR.out hk1).2.1
              · rw [(rightO HRR.out hk1).1]; simp
            clear hO hO2 hrm
            go_wp2
            go_roundw
            case rel => exact ⟨k + 1, hlt, by go_num, by rw [HS2.out]; go_num, HO2.out, hxw, hln⟩
            case measure => simp [intOf]; omega
    · obtain rfl : k = n := by omega
      rw [List.take_of_length_le (by rw [HL.out]; exact Nat.le_refl _)] at ho
      go_wp2
      go_ret
      exact ⟨_, rfl, ho, hx⟩
end Go.Proofs.Ytnbdmlpnoiljdaa
