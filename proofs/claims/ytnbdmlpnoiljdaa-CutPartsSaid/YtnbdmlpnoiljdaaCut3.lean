/- layer 39: a part of an event. -/
import Derived.Test.YtnbdmlpnoiljdaaCut2
namespace Go.Proofs.Ytnbdmlpnoiljdaa
open Go Go.RowKit

theorem Rd.cutB {w : World} {A A' : Option Addr} {n i j r : Nat} {l : List UInt8} (h : Rd w 1 A n (bytesV l)) (hj : j ≤ n) (hi : i ≤ j) (hr : r = j - i) (hA : i < j → ∀ b o, A = some ⟨b, o, none⟩ → A' = some ⟨b, o + i, none⟩) : Rd w 1 A' r (bytesV ((l.take j).drop i)) := by
  subst hr
  have hl : l.length = n := by simpa [bytesV] using h.1
  refine ⟨by simp [bytesV]; omega, fun hp => ?_⟩
  have h0 : i < j := by simp [bytesV] at hp; omega
  obtain ⟨b, o, e, hb, hc⟩ := h.2 (by simp [bytesV]; omega)
  refine ⟨b, o + i, hA h0 b o e, hb, fun k u hu => ?_⟩
  rw [Nat.add_assoc]
  refine hc (i + k) u ?_
  simp only [bytesV, List.map_drop, List.map_take, List.getElem?_drop, List.getElem?_take] at hu ⊢
  split at hu
  · exact hu
  · cases hu

theorem OwnO.rdg {w : World} {base : Nat} {e : TypeId} {v : Value} {n : Nat} {cs : List Value} {X : List Nat} (h : OwnO w base e v n cs) (hx : ∀ k, v.ownBlock = some k → k ∉ X) : RdG w X v cs := by
  obtain ⟨A, c, rfl, h1, h2, h3⟩ := h.rd
  exact ⟨A, _, c, rfl, h1, h2, h3, fun hp b o s e => hx b (by rw [e]; rfl)⟩
theorem results_cell1 {fn : Func} {p : Tmp} {ty : TypeId} (h : fn.results = #[.cell p ty]) (tmps : Array Value) (P : Program) (w : World) :
    (results fn tmps).run P w = ((asAddr (tmps.getD p undef)).run P w).andThen fun a w₁ => (loadVar ty a).run P w₁ := by
  simp only [results, h]
  simp [Sem.run_bind, Result.andThen]

theorem marksIn_take {L : List Int} {k : Nat} {x : Int} (h : L[k]? = some x) (i j : Nat) : marksIn (L.take (k + 1)) i j = marksIn (L.take k) i j ++ (if (i : Int) ≤ x ∧ x < (j : Int) then [x - i] else []) := by
  have hk : k < L.length := (List.getElem?_eq_some_iff.1 h).1
  have hx : L[k] = x := by rw [List.getElem?_eq_getElem hk] at h; exact Option.some.inj h
  rw [List.take_succ_eq_append_getElem hk, hx]
  unfold marksIn
  rw [List.filter_append, List.map_append]
  congr 1
  by_cases hc : (i : Int) ≤ x ∧ x < (j : Int)
  · rw [if_pos hc, List.filter_cons, if_pos (by simpa using hc)]; rfl
  · rw [if_neg hc, List.filter_cons, if_neg (by simpa using hc)]; rfl
theorem marksIn_len (L : List Int) (i j : Nat) : (marksIn L i j).length ≤ L.length := by
  unfold marksIn; rw [List.length_map]; exact List.length_filter_le _ _

set_option maxHeartbeats 400000 in
set_option maxRecDepth 20000 in
theorem cutPart {w : World} {X : List Nat} {e : Ev} {vb vm : Value} (h : EvOk w X e vb vm) (hX : ∀ x ∈ X, x < w.heap.size) (i j : Nat) (hij : i ≤ j) (hk : e.kind = 3 ∨ (e.kind = 1 ∧ j ≤ e.b.length)) (hbl : e.b.length ≤ 1000000) (hml : e.m.length ≤ 1000000) (hmb : ∀ x ∈ e.m, 0 ≤ x ∧ x ≤ 1000000) (hj : j ≤ 1000000) :
    Calls Try.prog 33 #[evA e vb vm, .int .i64 i, .int .i64 j] w fun r w' => ∃ vb' vm', r = .returned (evA (partE e i j) vb' vm') ∧ EvOk w' X (partE e i j) vb' vm' ∧ Ext w w' := by
  obtain ⟨A, c, B, d, rfl, rfl, h1, h2, h3, h4, hb, hm⟩ := h.open
  obtain ⟨k, en, b, L⟩ := e
  unfold evA
  unfold maxLen at h2 h4
  simp only at *
  rcases hk with rfl | ⟨rfl, hjb⟩
  · clear hb hm h
    go_enter Try.func33, Try.ntmps33
    go_wp2
    (try simp only [Exit.inBlock, Exit.then])
    refine bodyPost_ret (v := evA ⟨3, (j : Int) - i, [], []⟩ (.slice none 0 0) (.slice none 0 0)) ?_ rfl ⟨_, _, rfl, ⟨RdG.nil, RdG.nil⟩, ?_⟩
    · rw [results_cell1 rfl]
      unfold evA
      go_simp
    · exact (Ext.new1 _ _).trans (Ext.new1 _ _)
  · obtain ⟨nb, hnb⟩ : ∃ nb, b.length = nb := ⟨_, rfl⟩
    obtain ⟨nm, hnm⟩ : ∃ nm, L.length = nm := ⟨_, rfl⟩
    rw [hnb] at hb h1 hbl hjb ⊢
    rw [hnm] at hm h3 hml ⊢
    have HB := Lib.hid hb
    have HM := Lib.hid hm
    have HN := Lib.hid hnm
    clear hb hm h hnb hnm
    go_enter Try.func33, Try.ntmps33
    have hci : c = i ∨ i < c := by omega
    rcases hci with hci | hci
    focus (have hcut : Rd w 1 A (j - i) (bytesV ((b.take j).drop i)) := HB.out.cutB hjb hij rfl (fun hlt _ _ _ => by omega); have hce : (c = i) = True := (by simp [hci]); clear hci)
    rotate_left
    focus (have hcut : Rd w 1 (Option.map (fun x => x.add i) A) (j - i) (bytesV ((b.take j).drop i)) := HB.out.cutB hjb hij rfl (fun _ b' o' e => by rw [e]; simp [Addr.add]))
    rotate_left
    all_goals
      obtain ⟨l, hl⟩ : ∃ l, (b.take j).drop i = l := ⟨_, rfl⟩
      rw [hl] at hcut
      have HC := Lib.hid hcut
      have HL := Lib.hid hl
      clear hcut hl
      go_wp2_with (first | (go_at_call 37; refine (bytesClone l _ (j - i) _ _ ((HC.out.keep (Ext.new1 _ _)).keep (Ext.new1 _ _)) (by omega)).mono ?_; rintro e w1 ⟨v1, rfl, hown1, hb1⟩; obtain ⟨A1, c1, rfl, hn1, hc1, hrd1⟩ := own_rd hown1; have hbox : Blk w1 w.heap.size 43 [.int .i64 1, .int .i64 en, .slice A nb c, .slice B nm d] := ((Blk.new w 43 #[.int .i64 1, .int .i64 en, .slice A nb c, .slice B nm d]).alloc (.cells #[.int .i64 0, .int .i64 0, .slice none 0 0, .slice none 0 0] 43)).keep hb1; have e3 : (w1.alloc (.cells #[.int .i64 1, .int .i64 0, .slice A1 l.length c1, .slice none 0 0] 43)).cell? ⟨w.heap.size, 3, none⟩ = some (.slice B nm d) := (hbox.keep (Ext.new1 w1 _)).cell 3; have HOWN := Lib.hid hown1; clear hown1))
    all_goals
      have hw1 : Ext w w1 := ((Ext.new1 _ _).trans (Ext.new1 _ _)).trans hb1
      have hs1 : w.heap.size + 1 + 1 ≤ w1.heap.size := by have := hb1.size; simpa using this
      have hM1 : Rd w1 1 B nm (intsV L) := HM.out.keep hw1
      have hres : Blk w1 (w.heap.size + 1) 43 [.int .i64 0, .int .i64 0, .slice none 0 0, .slice none 0 0] := by
        have := (Blk.new (w.alloc (.cells #[.int .i64 1, .int .i64 en, .slice A nb c, .slice B nm d] 43)) 43 #[.int .i64 0, .int .i64 0, .slice none 0 0, .slice none 0 0]).keep hb1
        simpa using this
      have hv0 := Blk.new w1 43 #[.int .i64 1, .int .i64 0, .slice A1 l.length c1, .slice none 0 0]
      have hx2 := Ext.new1 w1 (.cells #[.int .i64 1, .int .i64 0, .slice A1 l.length c1, .slice none 0 0] 43)
      have hg1 : w1.heap.size + 1 = (w1.alloc (.cells #[.int .i64 1, .int .i64 0, .slice A1 l.length c1, .slice none 0 0] 43)).heap.size := by simp
      clear hbox e3 hb1
      generalize (w1.alloc (.cells #[.int .i64 1, .int .i64 0, .slice A1 l.length c1, .slice none 0 0] 43)) = w2 at *
      obtain ⟨g2, hg2⟩ : ∃ g2, w1.heap.size = g2 := ⟨_, rfl⟩
      rw [hg2] at hv0 hs1 hg1 ⊢
      have hbl2 : Below g2 w1 w2 := by rw [← hg2]; exact hx2
      have HM1 := Lib.hid hM1
      have HRES := Lib.hid hres
      have HG2 := Lib.hid hg2
      have HW1 := Lib.hid hw1
      have HRD1 := Lib.hid hrd1
      have hbB : 0 < nm → ∃ bm om, B = some ⟨bm, om, none⟩ ∧ bm < g2 ∧ ∀ (q : Nat) x, L[q]? = some x → w1.cell? ⟨bm, om + q, none⟩ = some (.int .i64 x) := fun hp => by
        obtain ⟨bm, om, e, hb, hc⟩ := HM1.out.2 (by have := HM1.out.1; omega)
        exact ⟨bm, om, e, by omega, fun q x hx => hc q _ (by simp [intsV, hx])⟩
      have HBB := Lib.hid hbB
      clear hM1 hres hx2 hg2 hw1 hrd1 hbB HB HM
      go_loopw [27] (fun iv wr => ∃ (k : Nat) (v' : Value), k ≤ nm ∧ iv = .int .i64 k ∧ Blk wr g2 43 [.int .i64 1, .int .i64 0, .slice A1 l.length c1, v'] ∧ OwnO wr (g2 + 1) 3 v' (marksIn (L.take k) i j).length (intsV (marksIn (L.take k) i j)) ∧ Below g2 w1 wr ∧ g2 + 1 ≤ wr.heap.size) (fun iv _ => nm - (intOf iv).toNat)
      case atStart => exact ⟨0, .slice none 0 0, Nat.zero_le _, rfl, hv0, OwnO.nil _ _ _, hbl2, by omega⟩
      case round =>
        clear hv0 hbl2 hg1
        obtain ⟨k, v', hk, rfl, hv, ho, hb, hsz⟩ := hrel
        by_cases hlt : k < nm
        · obtain ⟨bm, om, rfl, hbm, hcm⟩ := HBB.out (by omega)
          obtain ⟨x, hx⟩ : ∃ x, L[k]? = some x := ⟨_, List.getElem?_eq_getElem (by rw [HN.out]; exact hlt)⟩
          have hcx : wr.cell? ⟨bm, om + k, none⟩ = some (.int .i64 x) := (hb.cell (p := ⟨bm, om + k, none⟩) hbm).trans (hcm k x hx)
          have hxb := hmb x (List.mem_of_getElem? hx)
          have htk := marksIn_take hx i j
          have hml' : (marksIn (L.take k) i j).length ≤ k := Nat.le_trans (marksIn_len _ _ _) (by simp; omega)
          have HTK := Lib.hid htk
          clear hcm hx htk
          by_cases hin : (i : Int) ≤ x ∧ x < (j : Int)
          · obtain ⟨hi1, hi2⟩ := hin
            have htk := HTK.out
            rw [if_pos ⟨hi1, hi2⟩] at htk
            have HTK2 := Lib.hid htk
            obtain ⟨A3, c3, hv3, _, _, _⟩ := ho.rd
            subst hv3
            obtain ⟨n3, hn3⟩ : ∃ n3, (marksIn (L.take k) i j).length = n3 := ⟨_, rfl⟩
            obtain ⟨M, hM⟩ : ∃ M, marksIn (L.take k) i j = M := ⟨_, rfl⟩
            rw [hM] at hn3 hml' htk
            rw [hM, hn3] at ho hv
            have hob := ho.ob_lt
            have HM3 := Lib.hid hM
            have HN3 := Lib.hid hn3
            have HO3 := Lib.hid ho
            have d3 : wr.cell? ⟨g2, 3, none⟩ = some (.slice A3 n3 c3) := hv.cell 3
            clear htk hM ho HTK
            go_wp2_with (at_builtin; go_loud (refine wpList_appO (base := g2 + 1) (v := .slice A3 n3 c3) (n := n3) (xs := intsV M) Try.elemI rfl (.tmp 40) (.tmp 44) rfl rfl (HO3.out.keep (Ext.new1 _ _)) (by simp; omega) rfl (rd_one wr (.int .i64 (x - i)) 3) (one_one rfl) (by omega) (by unfold maxLen; omega) ?_); intro v4 w4 hown4 hc4 hob4; obtain ⟨A4, c4, rfl, _, _, _⟩ := hown4.rd; have hblk4 := (hv.keep (Ext.new1 wr (.cells #[.int .i64 (x - i)] 3))).chg hc4 (fun hm => by have := ob_list.1 hm; omega); have p3 := hblk4.cell 3; have q3 := hblk4.frozen 3)
            have hm4 : M ++ [x - i] = marksIn (L.take (k + 1)) i j := by rw [HTK2.out, HM3.out]
            have hcs4 : Chg [g2] w4 (w4.setCell ⟨g2, 3, none⟩ (.slice A4 (n3 + 1) c4)) := (Chg.refl _ _).setCell (by simp) _
            have hob5 := hown4.ob_lt
            have ho4 := hown4.chg' hcs4 (fun q hq hm => by simp at hm; omega)
            have ho5 : OwnO (w4.setCell ⟨g2, 3, none⟩ (.slice A4 (n3 + 1) c4)) (g2 + 1) 3 (.slice A4 (n3 + 1) c4) (marksIn (L.take (k + 1)) i j).length (intsV (marksIn (L.take (k + 1)) i j)) := by
              rw [← hm4]
              have e : (M ++ [x - (i : Int)]).length = n3 + 1 := by rw [List.length_append, ← HN3.out]; rfl
              rw [e]
              simpa [intsV] using ho4
            have hb4 : Below g2 w1 (w4.setCell ⟨g2, 3, none⟩ (.slice A4 (n3 + 1) c4)) := by
              refine Below.setCell ?_ (show g2 ≤ g2 from Nat.le_refl _) _
              exact hc4.below (hb.alloc (by omega) _) (by simp; omega) (fun q hq => by have := ob_list.1 hq; omega)
            have hv4 : Blk (w4.setCell ⟨g2, 3, none⟩ (.slice A4 (n3 + 1) c4)) g2 43 [.int .i64 1, .int .i64 0, .slice A1 l.length c1, .slice A4 (n3 + 1) c4] := by simpa using hblk4.set_ 3 (.slice A4 (n3 + 1) c4)
            have hsz4 : g2 + 1 ≤ (w4.setCell ⟨g2, 3, none⟩ (.slice A4 (n3 + 1) c4)).heap.size := hv4.lt
            go_roundw
            case rel => exact ⟨k + 1, _, hlt, by go_num, hv4, ho5, hb4, hsz4⟩
            case measure => simp [intOf]; omega
          · have htk := HTK.out
            rw [if_neg hin, List.append_nil] at htk
            have ho' : OwnO wr (g2 + 1) 3 v' (marksIn (L.take (k + 1)) i j).length (intsV (marksIn (L.take (k + 1)) i j)) := by rw [htk]; exact ho
            have HO' := Lib.hid ho'
            have hin' : x < (i : Int) ∨ ((i : Int) ≤ x ∧ ¬ x < (j : Int)) := by omega
            clear htk ho' ho hin HTK
            rcases hin' with hi1 | ⟨hi1, hi2⟩
            all_goals
              go_wp2
              go_roundw
              case rel => exact ⟨k + 1, v', hlt, by go_num, hv, HO'.out, hb, hsz⟩
              case measure => simp [intOf]; omega
        · obtain rfl : k = nm := by omega
          rw [List.take_of_length_le (by rw [HN.out]; exact Nat.le_refl _)] at ho
          obtain ⟨A3, c3, hv3, _, _, _⟩ := ho.rd
          subst hv3
          have HO3 := Lib.hid ho
          have d0 := hv.cell 0
          have d1 := hv.cell 1
          have d2 := hv.cell 2
          have d3 := hv.cell 3
          have hr := HRES.out.below hb (by omega)
          have r0 := hr.cell 0
          have r1 := hr.cell 1
          have r2 := hr.cell 2
          have r3 := hr.cell 3
          have f0 := hr.frozen 0
          have f1 := hr.frozen 1
          have f2 := hr.frozen 2
          have f3 := hr.frozen 3
          clear ho
          go_wp2
          (try simp only [Exit.inBlock, Exit.then])
          have hp : partE ⟨1, en, b, L⟩ i j = ⟨1, 0, l, marksIn L i j⟩ := by unfold partE; simp [HL.out]
          rw [hp]
          have hf := (((hr.set_ 0 (.int .i64 1)).set_ 1 (.int .i64 0)).set_ 2 (.slice A1 l.length c1)).set_ 3 (.slice A3 (marksIn L i j).length c3)
          simp only [List.set_cons_zero, List.set_cons_succ] at hf
          have hcf : Chg [w.heap.size + 1] wr ((((wr.setCell ⟨w.heap.size + 1, 0, none⟩ (.int .i64 1)).setCell ⟨w.heap.size + 1, 1, none⟩ (.int .i64 0)).setCell ⟨w.heap.size + 1, 2, none⟩ (.slice A1 l.length c1)).setCell ⟨w.heap.size + 1, 3, none⟩ (.slice A3 (marksIn L i j).length c3)) := ((((Chg.refl _ _).setCell (by simp) _).setCell (by simp) _).setCell (by simp) _).setCell (by simp) _
          clear r0 r1 r2 r3 f0 f1 f2 f3
          generalize ((((wr.setCell ⟨w.heap.size + 1, 0, none⟩ (.int .i64 1)).setCell ⟨w.heap.size + 1, 1, none⟩ (.int .i64 0)).setCell ⟨w.heap.size + 1, 2, none⟩ (.slice A1 l.length c1)).setCell ⟨w.heap.size + 1, 3, none⟩ (.slice A3 (marksIn L i j).length c3)) = wf at hf hcf ⊢
          have c0 := hf.cell 0
          have c1' := hf.cell 1
          have c2 := hf.cell 2
          have c3' := hf.cell 3
          have hbx : Ext w1 wr := hb.mono (by rw [HG2.out]; exact Nat.le_refl _)
          refine bodyPost_ret (v := evA ⟨1, 0, l, marksIn L i j⟩ (.slice A1 l.length c1) (.slice A3 (marksIn L i j).length c3)) ?_ rfl ⟨_, _, rfl, ⟨?_, ?_⟩, ?_⟩
          · rw [results_cell1 rfl]
            unfold evA
            go_simp
          · have h0 : RdG w1 ((w.heap.size + 1) :: X) (.slice A1 l.length c1) (bytesV l) := own_rdg HOWN.out (fun q hq hm => by
              have := (HOWN.out.lt q hq).1
              simp at this
              rcases List.mem_cons.1 hm with h | h
              · omega
              · have := hX q h; omega)
            exact (h0.keep hbx).step hcf (fun y hy => .inl (by simp at hy; simp [hy])) (fun y hy => .inl (List.mem_cons_of_mem _ hy))
          · have h0 : RdG wr ((w.heap.size + 1) :: X) (.slice A3 (marksIn L i j).length c3) (intsV (marksIn L i j)) := HO3.out.rdg (fun q hq hm => by
              have := (HO3.out.lt q hq).1
              rcases List.mem_cons.1 hm with h | h
              · omega
              · have := hX q h; omega)
            exact h0.step hcf (fun y hy => .inl (by simp at hy; simp [hy])) (fun y hy => .inl (List.mem_cons_of_mem _ hy))
          · exact hcf.below (HW1.out.trans hbx) (HW1.out.trans hbx).size (by simp)
end Go.Proofs.Ytnbdmlpnoiljdaa
