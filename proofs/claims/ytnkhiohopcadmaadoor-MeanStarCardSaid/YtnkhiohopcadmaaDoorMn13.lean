/- An Alt says what one of its kids says, a Cat what parts into both, an Opt the empty text besides: walked. -/
import Derived.Test.YtnkhiohopcadmaaDoorMn8
namespace Go.Proofs.YtnkhiohopcadmaaDoor
open Go Go.RowKit
attribute [local irreducible] wd

theorem none_noP' : noneB noP = true := by unfold noneB noP; simp
theorem right_two {k : Int} {z : Bool} {ts : List T} (hk : kidsOk k ts.length = true) (hz : z = false ∨ k = 7) (h8 : k ≠ 8 ∧ (k = 5 ∨ k = 6 → headN ts = false)) (hL : (rightL ts 2 0).1 = true) : ((T.node k 0 z noP ts).right 1 0).1 = true := by
  have hb : bareB k 0 z noP = true := by
    unfold bareB
    rw [none_noP']
    rcases hz with rfl | rfl <;> simp
  unfold T.right
  rw [if_neg (by simp only [not_or]; exact ⟨by omega, by simp [hk], by simp [hb]⟩), if_neg (fun e => h8.1 e.1)]
  simp only [h8.1, if_false, hL, Bool.true_and]
  by_cases h : k = 5 ∨ k = 6
  · rw [h8.2 h]; simp
  · rw [decide_eq_false h]; rfl
theorem right_kid {t : T} (h : t.fine27 = true) : t.right 2 0 = (true, 0) := by
  obtain ⟨h1, h2, h3⟩ := fine27_is h
  obtain ⟨a1, a2⟩ := right_move t 1 0 2 0 h2 h3 (by omega)
  exact Prod.ext a1 a2
theorem rightL_one {t : T} (h : t.fine27 = true) : (rightL [t] 2 0).1 = true := by
  have := right_kid h
  simp [rightL, this]
theorem rightL_two {ta tb : T} (h : ta.fine27 = true) (h' : tb.fine27 = true) : (rightL [ta, tb] 2 0).1 = true := by
  have h1 := right_kid h
  have h2 := right_kid h'
  simp [rightL, h1, h2]
theorem fine_says {t : T} (h : t.fine27 = true) (l : List UInt8) : saysA t l = saysB t l := by
  unfold saysA; rw [(fine27_is h).2.1, Bool.true_and]
noncomputable def partsN (ta tb : T) (l : List UInt8) (n : Nat) : Bool := (List.range n).any fun i => saysA ta (l.take i) && saysA tb (l.drop i)
theorem partsN_zero (ta tb : T) (l : List UInt8) : partsN ta tb l 0 = false := rfl
theorem partsN_succ (ta tb : T) (l : List UInt8) (n : Nat) : partsN ta tb l (n + 1) = (partsN ta tb l n || (saysA ta (l.take n) && saysA tb (l.drop n))) := by
  unfold partsN
  rw [List.range_succ, List.any_append]
  simp
theorem says_cat {ta tb : T} (h : ta.fine27 = true) (h' : tb.fine27 = true) (l : List UInt8) : saysA (.node 3 0 false noP [ta, tb]) l = partsN ta tb l (l.length + 1) := by
  have hr := right_two (k := 3) (z := false) (ts := [ta, tb]) rfl (.inl rfl) ⟨by decide, by intro e; rcases e with e | e <;> cases e⟩ (rightL_two h h')
  unfold saysA
  rw [hr, Bool.true_and, Bool.eq_iff_iff, saysB_iff, lang_cat2]
  unfold partsN
  rw [List.any_eq_true]
  constructor
  · rintro ⟨i, hi, h1, h2⟩
    exact ⟨i, List.mem_range.2 (by omega), by rw [fine_says h, fine_says h', saysB_iff.2 h1, saysB_iff.2 h2]; rfl⟩
  · rintro ⟨i, hi, hb⟩
    rw [fine_says h, fine_says h', Bool.and_eq_true, saysB_iff, saysB_iff] at hb
    exact ⟨i, by have := List.mem_range.1 hi; omega, hb.1, hb.2⟩
theorem says_alt {ta tb : T} (h : ta.fine27 = true) (h' : tb.fine27 = true) (l : List UInt8) : saysA (.node 4 0 false noP [ta, tb]) l = (saysA ta l || saysA tb l) := by
  have hr := right_two (k := 4) (z := false) (ts := [ta, tb]) rfl (.inl rfl) ⟨by decide, by intro e; rcases e with e | e <;> cases e⟩ (rightL_two h h')
  rw [fine_says h, fine_says h']
  unfold saysA
  rw [hr, Bool.true_and, Bool.eq_iff_iff, saysB_iff, lang_alt2, Bool.or_eq_true, saysB_iff, saysB_iff]
theorem says_opt {ta : T} (h : ta.fine27 = true) (z : Bool) (l : List UInt8) : saysA (.node 7 0 z noP [ta]) l = (((l.length : Int) == 0) || saysA ta l) := by
  have hr := right_two (k := 7) (z := z) (ts := [ta]) rfl (.inr rfl) ⟨by decide, by intro e; rcases e with e | e <;> cases e⟩ (rightL_one h)
  rw [fine_says h]
  unfold saysA
  rw [hr, Bool.true_and, Bool.eq_iff_iff, saysB_iff, lang_opt, Bool.or_eq_true, saysB_iff, beq_iff_eq]
  constructor
  · rintro (rfl | h)
    · exact .inl rfl
    · exact .inr h
  · rintro (h | h)
    · exact .inl (List.eq_nil_of_length_eq_zero (by omega))
    · exact .inr h
/-- Nodes of two kids, whose slice was made just now. -/
theorem two_kids {S S' : Nat → Prop} {w : World} {ta tb : T} {ca cb : List Value} (ha : NodeV S w ta ca) (hb : NodeV S' w tb cb) (kd : Int) (z : Bool) :
    NodeV (fun _ => True) (w.alloc (.cells (ca ++ cb).toArray 27)) (.node kd 0 z noP [ta, tb]) [.int .i64 kd, .int .i64 0, .bool z, .int .u64 0, .int .u64 0, .int .u64 0, .int .u64 0, .slice (some ⟨w.heap.size, 0, none⟩) 2 2] ∧
    NodeV (fun _ => True) (w.alloc (.cells (ca ++ cb).toArray 27)) (.node kd 0 z noP [ta]) [.int .i64 kd, .int .i64 0, .bool z, .int .u64 0, .int .u64 0, .int .u64 0, .int .u64 0, .slice (some ⟨w.heap.size, 0, none⟩) 1 2] := by
  have h8 := nodeV_len ha
  have h8' := nodeV_len hb
  have ha' := (ha.mono (S' := fun _ => True) (fun _ _ _ => trivial)).keep (Ext.new1 w (.cells (ca ++ cb).toArray 27))
  have hb' := (hb.mono (S' := fun _ => True) (fun _ _ _ => trivial)).keep (Ext.new1 w (.cells (ca ++ cb).toArray 27))
  have hB := Blk.newA (w := w) rfl 27 (ca ++ cb)
  constructor
  · unfold NodeV
    refine ⟨some ⟨w.heap.size, 0, none⟩, 2, ca ++ cb, (node0 _ _ _ _ _ _).symm, Nat.le_refl _, by unfold maxLen; omega, ?_, fun _ _ _ _ _ => trivial, kidsV_append (kidsV_one ha') (kidsV_one hb')⟩
    have := Blk.rd (n := 2) (size := 8) hB 0 (by rw [List.length_append]; omega)
    rw [List.drop_zero, List.take_of_length_le (by rw [List.length_append]; omega)] at this
    exact this
  · unfold NodeV
    refine ⟨some ⟨w.heap.size, 0, none⟩, 2, ca, (node0 _ _ _ _ _ _).symm, by simp, by unfold maxLen; omega, ?_, fun _ _ _ _ _ => trivial, kidsV_one ha'⟩
    have := Blk.rd (n := 1) (size := 8) hB 0 (by rw [List.length_append]; omega)
    rw [List.drop_zero, List.take_append_of_le_length (by omega), List.take_of_length_le (by omega)] at this
    exact this

set_option maxHeartbeats 16000000 in
set_option maxRecDepth 20000 in
theorem lawAlgebra (E : Nat → Addr) (ta tb : T) (l : List UInt8) (S S' : Nat → Prop) (va vb : List Value) (w : World) (ha : NodeV S w ta va) (hb : NodeV S' w tb vb) (hE : Env E w) :
    Calls Tryd.prog 6 #[.agg va.toArray, .agg vb.toArray, .string ⟨l.toArray⟩] w fun e w' => e = .returned (.bool true) ∧ Ext w w' := by
  obtain ⟨ka, ma, za, pa, Ba, na, ca, rfl⟩ := nodeV_form ha
  obtain ⟨kb, mb, zb, pb, Bb, nb, cb, rfl⟩ := nodeV_form hb
  have hx1 := Ext.new1 w (.cells (nodeC ka ma za pa Ba na ca).toArray 27)
  have hx2 := Ext.new1 (w.alloc (.cells (nodeC ka ma za pa Ba na ca).toArray 27)) (.cells (nodeC kb mb zb pb Bb nb cb).toArray 27)
  have hx0 := Lib.hid (Ext.trans hx1 hx2)
  have HVA := Lib.hid (ha.keep hx0.out)
  have HVB := Lib.hid (hb.keep hx0.out)
  have HBA := Lib.hid ((NodeB.new w ka ma za pa Ba na ca).keep hx2)
  have HBB := Lib.hid (NodeB.new (w.alloc (.cells (nodeC ka ma za pa Ba na ca).toArray 27)) kb mb zb pb Bb nb cb)
  have HE := Lib.hid (hE.keep hx0.out)
  rw [show (w.alloc (.cells (nodeC ka ma za pa Ba na ca).toArray 27)).heap.size = w.heap.size + 1 by simp] at HBB
  clear ha hb hE hx1 hx2
  unfold nodeC at hx0 HVA HVB HBA HBB HE ⊢
  by_cases hl : (12 : Int) < (l.length : Int)
  · go_enter Tryd.func6, Tryd.ntmps6
    go_wp2_with (go_at_call 26; refine (alive27 E _ HE.out).mono ?_; rintro e w1 ⟨rfl, hx1⟩; obtain ⟨q0, q1, q2, q3, q4, q5, q6, q7⟩ := (HBA.out.keep hx1).cells)
    go_ret
    exact ⟨rfl, Ext.trans hx0.out hx1⟩
  cases hfa : ta.fine27
  · have HFA := Lib.hid hfa
    clear hfa
    go_enter Tryd.func6, Tryd.ntmps6
    go_wp2_with (first
      | (have := hx1; go_at_call 32; refine (lawFine27 ta S _ (nodeC ka ma za pa Ba na ca) (HVA.out.keep hx1)).mono ?_; rintro e w2 ⟨rfl, hx2⟩; rw [HFA.out]; obtain ⟨x0, x1, x2, x3, x4, x5, x6, x7⟩ := (HBB.out.keep (Ext.trans hx1 hx2)).cells)
      | (go_at_call 26; refine (alive27 E _ HE.out).mono ?_; rintro e w1 ⟨rfl, hx1⟩; obtain ⟨q0, q1, q2, q3, q4, q5, q6, q7⟩ := (HBA.out.keep hx1).cells))
    go_ret
    exact ⟨rfl, Ext.trans hx0.out (Ext.trans hx1 hx2)⟩
  cases hfb : tb.fine27
  · have HFA := Lib.hid hfa
    have HFB := Lib.hid hfb
    clear hfa hfb
    go_enter Tryd.func6, Tryd.ntmps6
    go_wp2_with (first
      | (have := hx2; go_at_call 32; refine (lawFine27 tb S' _ (nodeC kb mb zb pb Bb nb cb) (HVB.out.keep (Ext.trans hx1 hx2))).mono ?_; rintro e w3 ⟨rfl, hx3⟩; rw [HFB.out])
      | (have := hx1; go_at_call 32; refine (lawFine27 ta S _ (nodeC ka ma za pa Ba na ca) (HVA.out.keep hx1)).mono ?_; rintro e w2 ⟨rfl, hx2⟩; rw [HFA.out]; obtain ⟨x0, x1, x2, x3, x4, x5, x6, x7⟩ := (HBB.out.keep (Ext.trans hx1 hx2)).cells)
      | (go_at_call 26; refine (alive27 E _ HE.out).mono ?_; rintro e w1 ⟨rfl, hx1⟩; obtain ⟨q0, q1, q2, q3, q4, q5, q6, q7⟩ := (HBA.out.keep hx1).cells))
    go_ret
    exact ⟨rfl, Ext.trans hx0.out (Ext.trans hx1 (Ext.trans hx2 hx3))⟩
  have HFA := Lib.hid hfa
  have HFB := Lib.hid hfb
  have HN := Lib.hid (show l.length ≤ 12 by omega)
  have HSA := Lib.hid (fine27_is hfa).1
  have HSB := Lib.hid (fine27_is hfb).1
  clear hfa hfb
  go_enter Tryd.func6, Tryd.ntmps6
  go_upto_region 7 with (first
    | (have := hx2; go_at_call 32; refine (lawFine27 tb S' _ (nodeC kb mb zb pb Bb nb cb) (HVB.out.keep (Ext.trans hx1 hx2))).mono ?_; rintro e w3 ⟨rfl, hx3⟩; rw [HFB.out])
    | (have := hx1; go_at_call 32; refine (lawFine27 ta S _ (nodeC ka ma za pa Ba na ca) (HVA.out.keep hx1)).mono ?_; rintro e w2 ⟨rfl, hx2⟩; rw [HFA.out]; obtain ⟨x0, x1, x2, x3, x4, x5, x6, x7⟩ := (HBB.out.keep (Ext.trans hx1 hx2)).cells)
    | (go_at_call 26; refine (alive27 E _ HE.out).mono ?_; rintro e w1 ⟨rfl, hx1⟩; obtain ⟨q0, q1, q2, q3, q4, q5, q6, q7⟩ := (HBA.out.keep hx1).cells))
  have hxw := Ext.trans hx1 (Ext.trans hx2 hx3)
  have HVA1 := Lib.hid (HVA.out.keep hxw)
  have HVB1 := Lib.hid (HVB.out.keep hxw)
  have HBA1 := Lib.hid (HBA.out.keep hxw)
  have HBB1 := Lib.hid (HBB.out.keep hxw)
  have HX1 := Lib.hid (Ext.trans hx0.out hxw)
  clear hx1 hx2 hx3 hxw HVA HVB HBA HBB HE hx0 q0 q1 q2 q3 q4 q5 q6 q7 x0 x1 x2 x3 x4 x5 x6 x7
  generalize w.heap.size + 1 = gB at *
  generalize w.heap.size = gA at *
  generalize w3 = wk at *
  go_loopg [7, 8] (l.length + 1) (fun gg pv iv wr => ∃ i : Nat, i ≤ l.length + 1 ∧ gg = l.length + 1 - i ∧ pv = .bool (partsN ta tb l i) ∧ iv = .int .i64 (i : Nat) ∧ Ext wk wr)
  case atStart => exact ⟨0, by omega, rfl, by rw [partsN_zero], rfl, Ext.refl _⟩
  case round =>
    obtain ⟨iq, hi, rfl, rfl, rfl, hx⟩ := hrel
    by_cases hlt : iq < l.length + 1
    · have hlt' : (iq : Int) ≤ (l.length : Int) := by omega
      have hw2 : IntKind.i64.wrap ((iq : Int) + 1) = (iq : Int) + 1 := wrap_id (by omega) (by have := HN.out; omega)
      have HVAW := Lib.hid (HVA1.out.keep hx)
      have HVBW := Lib.hid (HVB1.out.keep hx)
      have HBAW := Lib.hid (HBA1.out.keep hx)
      have HBBW := Lib.hid (HBB1.out.keep hx)
      have HTK := Lib.hid (show (l.take iq).length ≤ 1000000 by rw [List.length_take]; have := HN.out; omega)
      have HDK := Lib.hid (show (l.drop iq).length ≤ 1000000 by rw [List.length_drop]; have := HN.out; omega)
      have hst := partsN_succ ta tb l iq
      have HXW := Lib.hid hx
      clear hx
      generalize wr = wz at *
      obtain ⟨sb, hsb⟩ : ∃ sb, saysA tb (l.drop iq) = sb := ⟨_, rfl⟩
      have HQB := Lib.hid hsb
      rw [hsb] at hst
      clear hsb
      cases hpq : partsN ta tb l iq
      rotate_left
      · rw [hpq, Bool.true_or] at hst
        have HST := Lib.hid hst
        clear hst hpq
        go_upto_region 9 with fail
        refine wp_region_dag (E := Ext) (w0 := wz) (Φ := fun i v w => match i with | 0 => (v = .bool true) | 1 => (v = .bool true) | 2 => (v = undef) | 3 => (v = undef) | 4 => (v = undef) | 5 => (v = undef) | 6 => (v = undef) | 7 => (v = undef) | 8 => (v = undef) | 9 => (v = undef) | 10 => (v = undef) | 11 => (v = undef) | 12 => (v = undef) | 13 => (v = undef) | 14 => (v = .bool true) | 15 => (v = .bool true) | _ => True) (show Tryd.prog.follows .mixedOrders = true from Checked.mixed Tryd.checked) 100 rfl (by decide +kernel) ?_ ((Below.refl _ _).drew) ?_ ⟨?_, ?_, ?_, ?_, ?_, ?_, ?_, ?_, ?_, ?_, ?_, ?_, ?_, ?_, ?_, ?_, trivial⟩ ?_
        · intro i v w w' h hE
          match i, h with
          | 0, h => exact h
          | 1, h => exact h
          | 2, h => exact h
          | 3, h => exact h
          | 4, h => exact h
          | 5, h => exact h
          | 6, h => exact h
          | 7, h => exact h
          | 8, h => exact h
          | 9, h => exact h
          | 10, h => exact h
          | 11, h => exact h
          | 12, h => exact h
          | 13, h => exact h
          | 14, h => exact h
          | 15, h => exact h
          | _ + 16, _ => trivial
        · exact fun w w' h h' => h.trans h'
        · -- 0: t31 := move t7
          intro ac wx hE hsz hdf h
          have e7 : ac.tmps[7]? = some (.bool true) := by obtain ⟨v, h1, h2⟩ := h 7 (by decide +kernel); exact h1.trans (h2.symm.trans rfl)
          clear h hsz hdf
          go_wp2
          exact ⟨_, rfl, rfl, Ext.refl _⟩
        · -- 1: t32 := move t31
          intro ac wx hE hsz hdf h
          have e31 : ac.tmps[31]? = some (.bool true) := by obtain ⟨v, h1, h2⟩ := h 31 (by decide +kernel); rw [h1]; exact congrArg some h2
          clear h hsz hdf
          go_wp2
          exact ⟨_, rfl, rfl, Ext.refl _⟩
        · -- 2: t33 := load 27 t3 (1, False)
          intro ac wx hE hsz hdf h
          have e32 : ac.tmps[32]? = some (.bool true) := by obtain ⟨v, h1, h2⟩ := h 32 (by decide +kernel); rw [h1]; exact congrArg some h2
          clear h hsz hdf
          go_wp2
          exact ⟨_, rfl, rfl, Ext.refl _⟩
        · -- 3: t34 := move t2 (1, False)
          intro ac wx hE hsz hdf h
          have e32 : ac.tmps[32]? = some (.bool true) := by obtain ⟨v, h1, h2⟩ := h 32 (by decide +kernel); rw [h1]; exact congrArg some h2
          clear h hsz hdf
          go_wp2
          exact ⟨_, rfl, rfl, Ext.refl _⟩
        · -- 4: t35 := move t8 (1, False)
          intro ac wx hE hsz hdf h
          have e32 : ac.tmps[32]? = some (.bool true) := by obtain ⟨v, h1, h2⟩ := h 32 (by decide +kernel); rw [h1]; exact congrArg some h2
          clear h hsz hdf
          go_wp2
          exact ⟨_, rfl, rfl, Ext.refl _⟩
        · -- 5: t36 := slice 9 t34 none (some t35) none (1, False)
          intro ac wx hE hsz hdf h
          have e32 : ac.tmps[32]? = some (.bool true) := by obtain ⟨v, h1, h2⟩ := h 32 (by decide +kernel); rw [h1]; exact congrArg some h2
          clear h hsz hdf
          go_wp2
          exact ⟨_, rfl, rfl, Ext.refl _⟩
        · -- 6: t37 := call { value (Operand.func 29), args := #[t33, t36], argTypes := #[27, 9] } (1, False)
          intro ac wx hE hsz hdf h
          have e32 : ac.tmps[32]? = some (.bool true) := by obtain ⟨v, h1, h2⟩ := h 32 (by decide +kernel); rw [h1]; exact congrArg some h2
          clear h hsz hdf
          go_wp2
          exact ⟨_, rfl, rfl, Ext.refl _⟩
        · -- 7: t38 := move t37 (1, False)
          intro ac wx hE hsz hdf h
          have e32 : ac.tmps[32]? = some (.bool true) := by obtain ⟨v, h1, h2⟩ := h 32 (by decide +kernel); rw [h1]; exact congrArg some h2
          clear h hsz hdf
          go_wp2
          exact ⟨_, rfl, rfl, Ext.refl _⟩
        · -- 8: t39 := load 27 t4 (7, True)
          intro ac wx hE hsz hdf h
          have e38 : ac.tmps[38]? = some (.tuple #[]) := by obtain ⟨v, h1, h2⟩ := h 38 (by decide +kernel); rw [h1]; exact congrArg some h2
          clear h hsz hdf
          go_wp2
          exact ⟨_, rfl, rfl, Ext.refl _⟩
        · -- 9: t40 := move t2 (7, True)
          intro ac wx hE hsz hdf h
          have e38 : ac.tmps[38]? = some (.tuple #[]) := by obtain ⟨v, h1, h2⟩ := h 38 (by decide +kernel); rw [h1]; exact congrArg some h2
          clear h hsz hdf
          go_wp2
          exact ⟨_, rfl, rfl, Ext.refl _⟩
        · -- 10: t41 := move t8 (7, True)
          intro ac wx hE hsz hdf h
          have e38 : ac.tmps[38]? = some (.tuple #[]) := by obtain ⟨v, h1, h2⟩ := h 38 (by decide +kernel); rw [h1]; exact congrArg some h2
          clear h hsz hdf
          go_wp2
          exact ⟨_, rfl, rfl, Ext.refl _⟩
        · -- 11: t42 := slice 9 t40 (some t41) none none (7, True)
          intro ac wx hE hsz hdf h
          have e38 : ac.tmps[38]? = some (.tuple #[]) := by obtain ⟨v, h1, h2⟩ := h 38 (by decide +kernel); rw [h1]; exact congrArg some h2
          clear h hsz hdf
          go_wp2
          exact ⟨_, rfl, rfl, Ext.refl _⟩
        · -- 12: t43 := call { value (Operand.func 29), args := #[t39, t42], argTypes := #[27, 9] } (7, True)
          intro ac wx hE hsz hdf h
          have e38 : ac.tmps[38]? = some (.tuple #[]) := by obtain ⟨v, h1, h2⟩ := h 38 (by decide +kernel); rw [h1]; exact congrArg some h2
          clear h hsz hdf
          go_wp2
          exact ⟨_, rfl, rfl, Ext.refl _⟩
        · -- 13: t44 := pick t38 t43 (const (Value.bool false)) (1, False)
          intro ac wx hE hsz hdf h
          have e32 : ac.tmps[32]? = some (.bool true) := by obtain ⟨v, h1, h2⟩ := h 32 (by decide +kernel); rw [h1]; exact congrArg some h2
          clear h hsz hdf
          go_wp2
          exact ⟨_, rfl, rfl, Ext.refl _⟩
        · -- 14: t45 := pick t32 (const (Value.bool true)) t44
          intro ac wx hE hsz hdf h
          have e32 : ac.tmps[32]? = some (.bool true) := by obtain ⟨v, h1, h2⟩ := h 32 (by decide +kernel); rw [h1]; exact congrArg some h2
          have e44 : ac.tmps[44]? = some (.tuple #[]) := by obtain ⟨v, h1, h2⟩ := h 44 (by decide +kernel); rw [h1]; exact congrArg some h2
          clear h hsz hdf
          go_wp2
          exact ⟨_, rfl, by simp, Ext.refl _⟩
        · -- 15: t7 := assign t45
          intro ac wx hE hsz hdf h
          have e45 : ac.tmps[45]? = some (.bool true) := by obtain ⟨v, h1, h2⟩ := h 45 (by decide +kernel); rw [h1]; exact congrArg some h2
          clear h hsz hdf
          go_wp2
          exact ⟨_, rfl, rfl, Ext.refl _⟩
        · intro ac w9 hE hsz hdf h hrest
          obtain ⟨v0, s0, g0⟩ := h 0 _ rfl
          have e0 := g0 31 rfl
          obtain rfl : v0 = .bool true := s0
          obtain ⟨v1, s1, g1⟩ := h 1 _ rfl
          have e1 := g1 32 rfl
          obtain rfl : v1 = .bool true := s1
          obtain ⟨v2, s2, g2⟩ := h 2 _ rfl
          have e2 := g2 33 rfl
          obtain rfl : v2 = undef := s2
          obtain ⟨v3, s3, g3⟩ := h 3 _ rfl
          have e3 := g3 34 rfl
          obtain rfl : v3 = undef := s3
          obtain ⟨v4, s4, g4⟩ := h 4 _ rfl
          have e4 := g4 35 rfl
          obtain rfl : v4 = undef := s4
          obtain ⟨v5, s5, g5⟩ := h 5 _ rfl
          have e5 := g5 36 rfl
          obtain rfl : v5 = undef := s5
          obtain ⟨v6, s6, g6⟩ := h 6 _ rfl
          have e6 := g6 37 rfl
          obtain rfl : v6 = undef := s6
          obtain ⟨v7, s7, g7⟩ := h 7 _ rfl
          have e7 := g7 38 rfl
          obtain rfl : v7 = undef := s7
          obtain ⟨v8, s8, g8⟩ := h 8 _ rfl
          have e8 := g8 39 rfl
          obtain rfl : v8 = undef := s8
          obtain ⟨v9, s9, g9⟩ := h 9 _ rfl
          have e9 := g9 40 rfl
          obtain rfl : v9 = undef := s9
          obtain ⟨v10, s10, g10⟩ := h 10 _ rfl
          have e10 := g10 41 rfl
          obtain rfl : v10 = undef := s10
          obtain ⟨v11, s11, g11⟩ := h 11 _ rfl
          have e11 := g11 42 rfl
          obtain rfl : v11 = undef := s11
          obtain ⟨v12, s12, g12⟩ := h 12 _ rfl
          have e12 := g12 43 rfl
          obtain rfl : v12 = undef := s12
          obtain ⟨v13, s13, g13⟩ := h 13 _ rfl
          have e13 := g13 44 rfl
          obtain rfl : v13 = undef := s13
          obtain ⟨v14, s14, g14⟩ := h 14 _ rfl
          have e14 := g14 45 rfl
          obtain rfl : v14 = .bool true := s14
          obtain ⟨v15, s15, g15⟩ := h 15 _ rfl
          have e15 := g15 7 rfl
          obtain rfl : v15 = .bool true := s15
          have ha := act_of [(31, .bool true), (32, .bool true), (33, undef), (34, undef), (35, undef), (36, undef), (37, undef), (38, undef), (39, undef), (40, undef), (41, undef), (42, undef), (43, undef), (44, undef), (45, .bool true), (7, .bool true)] rfl hsz hdf (by intro p hp; simp only [List.mem_cons, List.not_mem_nil, or_false] at hp; rcases hp with rfl | rfl | rfl | rfl | rfl | rfl | rfl | rfl | rfl | rfl | rfl | rfl | rfl | rfl | rfl | rfl <;> first | exact e0 | exact e1 | exact e2 | exact e3 | exact e4 | exact e5 | exact e6 | exact e7 | exact e8 | exact e9 | exact e10 | exact e11 | exact e12 | exact e13 | exact e14 | exact e15) hrest
          clear h hrest hsz hdf e0 e1 e2 e3 e4 e5 e6 e7 e8 e9 e10 e11 e12 e13 e14 e15 g0 g1 g2 g3 g4 g5 g6 g7 g8 g9 g10 g11 g12 g13 g14 g15
          subst ha
          simp only [List.foldl_cons, List.foldl_nil, Act.put, List.setIfInBounds_toArray, List.set_cons_succ, List.set_cons_zero]
          have HXX := Lib.hid (Ext.trans HXW.out hE)
          go_wp2
          go_roundg (l.length + 1 - (iq + 1))
          case measure => omega
          case rel => exact ⟨iq + 1, by omega, rfl, by rw [HST.out], by go_num, HXX.out⟩
      rw [hpq, Bool.false_or] at hst
      clear hpq
      cases hsa : saysA ta (l.take iq)
      · rw [hsa, Bool.false_and] at hst
        have HST := Lib.hid hst
        have HQA := Lib.hid hsa
        clear hst hsa
        go_upto_region 9 with fail
        refine wp_region_dag (E := Ext) (w0 := wz) (Φ := fun i v w => match i with | 0 => (v = .bool false) | 1 => (v = .bool false) | 2 => (v = .agg #[.int .i64 ka, .int .i64 ma, .bool za, .int .u64 (wd pa 0 : Nat), .int .u64 (wd pa 1 : Nat), .int .u64 (wd pa 2 : Nat), .int .u64 (wd pa 3 : Nat), .slice Ba na ca]) | 3 => (v = .string ⟨l.toArray⟩) | 4 => (v = .int .i64 (iq : Nat)) | 5 => (v = .string ⟨(l.take iq).toArray⟩) | 6 => (v = .bool false) | 7 => (v = .bool false) | 8 => (v = undef) | 9 => (v = undef) | 10 => (v = undef) | 11 => (v = undef) | 12 => (v = undef) | 13 => (v = .bool false) | 14 => (v = .bool false) | 15 => (v = .bool false) | _ => True) (show Tryd.prog.follows .mixedOrders = true from Checked.mixed Tryd.checked) 100 rfl (by decide +kernel) ?_ ((Below.refl _ _).drew) ?_ ⟨?_, ?_, ?_, ?_, ?_, ?_, ?_, ?_, ?_, ?_, ?_, ?_, ?_, ?_, ?_, ?_, trivial⟩ ?_
        · intro i v w w' h hE
          match i, h with
          | 0, h => exact h
          | 1, h => exact h
          | 2, h => exact h
          | 3, h => exact h
          | 4, h => exact h
          | 5, h => exact h
          | 6, h => exact h
          | 7, h => exact h
          | 8, h => exact h
          | 9, h => exact h
          | 10, h => exact h
          | 11, h => exact h
          | 12, h => exact h
          | 13, h => exact h
          | 14, h => exact h
          | 15, h => exact h
          | _ + 16, _ => trivial
        · exact fun w w' h h' => h.trans h'
        · -- 0: t31 := move t7
          intro ac wx hE hsz hdf h
          have e7 : ac.tmps[7]? = some (.bool false) := by obtain ⟨v, h1, h2⟩ := h 7 (by decide +kernel); exact h1.trans (h2.symm.trans rfl)
          clear h hsz hdf
          go_wp2
          exact ⟨_, rfl, rfl, Ext.refl _⟩
        · -- 1: t32 := move t31
          intro ac wx hE hsz hdf h
          have e31 : ac.tmps[31]? = some (.bool false) := by obtain ⟨v, h1, h2⟩ := h 31 (by decide +kernel); rw [h1]; exact congrArg some h2
          clear h hsz hdf
          go_wp2
          exact ⟨_, rfl, rfl, Ext.refl _⟩
        · -- 2: t33 := load 27 t3 (1, False)
          intro ac wx hE hsz hdf h
          have e3 : ac.tmps[3]? = some (.pointer (some ⟨gA, 0, none⟩)) := by obtain ⟨v, h1, h2⟩ := h 3 (by decide +kernel); exact h1.trans (h2.symm.trans rfl)
          have e32 : ac.tmps[32]? = some (.bool false) := by obtain ⟨v, h1, h2⟩ := h 32 (by decide +kernel); rw [h1]; exact congrArg some h2
          clear h hsz hdf
          obtain ⟨y0, y1, y2, y3, y4, y5, y6, y7⟩ := (HBAW.out.keep hE).cells
          go_wp2
          exact ⟨_, rfl, rfl, Ext.refl _⟩
        · -- 3: t34 := move t2 (1, False)
          intro ac wx hE hsz hdf h
          have e2 : ac.tmps[2]? = some (.string ⟨l.toArray⟩) := by obtain ⟨v, h1, h2⟩ := h 2 (by decide +kernel); exact h1.trans (h2.symm.trans rfl)
          have e32 : ac.tmps[32]? = some (.bool false) := by obtain ⟨v, h1, h2⟩ := h 32 (by decide +kernel); rw [h1]; exact congrArg some h2
          clear h hsz hdf
          go_wp2
          exact ⟨_, rfl, rfl, Ext.refl _⟩
        · -- 4: t35 := move t8 (1, False)
          intro ac wx hE hsz hdf h
          have e8 : ac.tmps[8]? = some (.int .i64 (iq : Nat)) := by obtain ⟨v, h1, h2⟩ := h 8 (by decide +kernel); exact h1.trans (h2.symm.trans rfl)
          have e32 : ac.tmps[32]? = some (.bool false) := by obtain ⟨v, h1, h2⟩ := h 32 (by decide +kernel); rw [h1]; exact congrArg some h2
          clear h hsz hdf
          go_wp2
          exact ⟨_, rfl, rfl, Ext.refl _⟩
        · -- 5: t36 := slice 9 t34 none (some t35) none (1, False)
          intro ac wx hE hsz hdf h
          have e34 : ac.tmps[34]? = some (.string ⟨l.toArray⟩) := by obtain ⟨v, h1, h2⟩ := h 34 (by decide +kernel); rw [h1]; exact congrArg some h2
          have e35 : ac.tmps[35]? = some (.int .i64 (iq : Nat)) := by obtain ⟨v, h1, h2⟩ := h 35 (by decide +kernel); rw [h1]; exact congrArg some h2
          have e32 : ac.tmps[32]? = some (.bool false) := by obtain ⟨v, h1, h2⟩ := h 32 (by decide +kernel); rw [h1]; exact congrArg some h2
          clear h hsz hdf
          go_wp2
          exact ⟨_, rfl, by simp, Ext.refl _⟩
        · -- 6: t37 := call { value (Operand.func 29), args := #[t33, t36], argTypes := #[27, 9] } (1, False)
          intro ac wx hE hsz hdf h
          have e33 : ac.tmps[33]? = some (.agg #[.int .i64 ka, .int .i64 ma, .bool za, .int .u64 (wd pa 0 : Nat), .int .u64 (wd pa 1 : Nat), .int .u64 (wd pa 2 : Nat), .int .u64 (wd pa 3 : Nat), .slice Ba na ca]) := by obtain ⟨v, h1, h2⟩ := h 33 (by decide +kernel); rw [h1]; exact congrArg some h2
          have e36 : ac.tmps[36]? = some (.string ⟨(l.take iq).toArray⟩) := by obtain ⟨v, h1, h2⟩ := h 36 (by decide +kernel); rw [h1]; exact congrArg some h2
          have e32 : ac.tmps[32]? = some (.bool false) := by obtain ⟨v, h1, h2⟩ := h 32 (by decide +kernel); rw [h1]; exact congrArg some h2
          clear h hsz hdf
          go_wp2_with ((go_at_call 29; refine (mnSays ta (by have := HSA.out; omega) (l.take iq) HTK.out S _ (nodeC ka ma za pa Ba na ca) (HVAW.out.keep hE)).mono ?_; rintro e w9 ⟨rfl, hb9⟩; rw [HQA.out]))
          exact ⟨_, rfl, rfl, hb9⟩
        · -- 7: t38 := move t37 (1, False)
          intro ac wx hE hsz hdf h
          have e37 : ac.tmps[37]? = some (.bool false) := by obtain ⟨v, h1, h2⟩ := h 37 (by decide +kernel); rw [h1]; exact congrArg some h2
          have e32 : ac.tmps[32]? = some (.bool false) := by obtain ⟨v, h1, h2⟩ := h 32 (by decide +kernel); rw [h1]; exact congrArg some h2
          clear h hsz hdf
          go_wp2
          exact ⟨_, rfl, rfl, Ext.refl _⟩
        · -- 8: t39 := load 27 t4 (7, True)
          intro ac wx hE hsz hdf h
          have e38 : ac.tmps[38]? = some (.bool false) := by obtain ⟨v, h1, h2⟩ := h 38 (by decide +kernel); rw [h1]; exact congrArg some h2
          clear h hsz hdf
          go_wp2
          exact ⟨_, rfl, rfl, Ext.refl _⟩
        · -- 9: t40 := move t2 (7, True)
          intro ac wx hE hsz hdf h
          have e38 : ac.tmps[38]? = some (.bool false) := by obtain ⟨v, h1, h2⟩ := h 38 (by decide +kernel); rw [h1]; exact congrArg some h2
          clear h hsz hdf
          go_wp2
          exact ⟨_, rfl, rfl, Ext.refl _⟩
        · -- 10: t41 := move t8 (7, True)
          intro ac wx hE hsz hdf h
          have e38 : ac.tmps[38]? = some (.bool false) := by obtain ⟨v, h1, h2⟩ := h 38 (by decide +kernel); rw [h1]; exact congrArg some h2
          clear h hsz hdf
          go_wp2
          exact ⟨_, rfl, rfl, Ext.refl _⟩
        · -- 11: t42 := slice 9 t40 (some t41) none none (7, True)
          intro ac wx hE hsz hdf h
          have e38 : ac.tmps[38]? = some (.bool false) := by obtain ⟨v, h1, h2⟩ := h 38 (by decide +kernel); rw [h1]; exact congrArg some h2
          clear h hsz hdf
          go_wp2
          exact ⟨_, rfl, rfl, Ext.refl _⟩
        · -- 12: t43 := call { value (Operand.func 29), args := #[t39, t42], argTypes := #[27, 9] } (7, True)
          intro ac wx hE hsz hdf h
          have e38 : ac.tmps[38]? = some (.bool false) := by obtain ⟨v, h1, h2⟩ := h 38 (by decide +kernel); rw [h1]; exact congrArg some h2
          clear h hsz hdf
          go_wp2
          exact ⟨_, rfl, rfl, Ext.refl _⟩
        · -- 13: t44 := pick t38 t43 (const (Value.bool false)) (1, False)
          intro ac wx hE hsz hdf h
          have e38 : ac.tmps[38]? = some (.bool false) := by obtain ⟨v, h1, h2⟩ := h 38 (by decide +kernel); rw [h1]; exact congrArg some h2
          have e43 : ac.tmps[43]? = some (.tuple #[]) := by obtain ⟨v, h1, h2⟩ := h 43 (by decide +kernel); rw [h1]; exact congrArg some h2
          have e32 : ac.tmps[32]? = some (.bool false) := by obtain ⟨v, h1, h2⟩ := h 32 (by decide +kernel); rw [h1]; exact congrArg some h2
          clear h hsz hdf
          go_wp2
          exact ⟨_, rfl, by simp, Ext.refl _⟩
        · -- 14: t45 := pick t32 (const (Value.bool true)) t44
          intro ac wx hE hsz hdf h
          have e32 : ac.tmps[32]? = some (.bool false) := by obtain ⟨v, h1, h2⟩ := h 32 (by decide +kernel); rw [h1]; exact congrArg some h2
          have e44 : ac.tmps[44]? = some (.bool false) := by obtain ⟨v, h1, h2⟩ := h 44 (by decide +kernel); rw [h1]; exact congrArg some h2
          clear h hsz hdf
          go_wp2
          exact ⟨_, rfl, by simp, Ext.refl _⟩
        · -- 15: t7 := assign t45
          intro ac wx hE hsz hdf h
          have e45 : ac.tmps[45]? = some (.bool false) := by obtain ⟨v, h1, h2⟩ := h 45 (by decide +kernel); rw [h1]; exact congrArg some h2
          clear h hsz hdf
          go_wp2
          exact ⟨_, rfl, rfl, Ext.refl _⟩
        · intro ac w9 hE hsz hdf h hrest
          obtain ⟨v0, s0, g0⟩ := h 0 _ rfl
          have e0 := g0 31 rfl
          obtain rfl : v0 = .bool false := s0
          obtain ⟨v1, s1, g1⟩ := h 1 _ rfl
          have e1 := g1 32 rfl
          obtain rfl : v1 = .bool false := s1
          obtain ⟨v2, s2, g2⟩ := h 2 _ rfl
          have e2 := g2 33 rfl
          obtain rfl : v2 = .agg #[.int .i64 ka, .int .i64 ma, .bool za, .int .u64 (wd pa 0 : Nat), .int .u64 (wd pa 1 : Nat), .int .u64 (wd pa 2 : Nat), .int .u64 (wd pa 3 : Nat), .slice Ba na ca] := s2
          obtain ⟨v3, s3, g3⟩ := h 3 _ rfl
          have e3 := g3 34 rfl
          obtain rfl : v3 = .string ⟨l.toArray⟩ := s3
          obtain ⟨v4, s4, g4⟩ := h 4 _ rfl
          have e4 := g4 35 rfl
          obtain rfl : v4 = .int .i64 (iq : Nat) := s4
          obtain ⟨v5, s5, g5⟩ := h 5 _ rfl
          have e5 := g5 36 rfl
          obtain rfl : v5 = .string ⟨(l.take iq).toArray⟩ := s5
          obtain ⟨v6, s6, g6⟩ := h 6 _ rfl
          have e6 := g6 37 rfl
          obtain rfl : v6 = .bool false := s6
          obtain ⟨v7, s7, g7⟩ := h 7 _ rfl
          have e7 := g7 38 rfl
          obtain rfl : v7 = .bool false := s7
          obtain ⟨v8, s8, g8⟩ := h 8 _ rfl
          have e8 := g8 39 rfl
          obtain rfl : v8 = undef := s8
          obtain ⟨v9, s9, g9⟩ := h 9 _ rfl
          have e9 := g9 40 rfl
          obtain rfl : v9 = undef := s9
          obtain ⟨v10, s10, g10⟩ := h 10 _ rfl
          have e10 := g10 41 rfl
          obtain rfl : v10 = undef := s10
          obtain ⟨v11, s11, g11⟩ := h 11 _ rfl
          have e11 := g11 42 rfl
          obtain rfl : v11 = undef := s11
          obtain ⟨v12, s12, g12⟩ := h 12 _ rfl
          have e12 := g12 43 rfl
          obtain rfl : v12 = undef := s12
          obtain ⟨v13, s13, g13⟩ := h 13 _ rfl
          have e13 := g13 44 rfl
          obtain rfl : v13 = .bool false := s13
          obtain ⟨v14, s14, g14⟩ := h 14 _ rfl
          have e14 := g14 45 rfl
          obtain rfl : v14 = .bool false := s14
          obtain ⟨v15, s15, g15⟩ := h 15 _ rfl
          have e15 := g15 7 rfl
          obtain rfl : v15 = .bool false := s15
          have ha := act_of [(31, .bool false), (32, .bool false), (33, .agg #[.int .i64 ka, .int .i64 ma, .bool za, .int .u64 (wd pa 0 : Nat), .int .u64 (wd pa 1 : Nat), .int .u64 (wd pa 2 : Nat), .int .u64 (wd pa 3 : Nat), .slice Ba na ca]), (34, .string ⟨l.toArray⟩), (35, .int .i64 (iq : Nat)), (36, .string ⟨(l.take iq).toArray⟩), (37, .bool false), (38, .bool false), (39, undef), (40, undef), (41, undef), (42, undef), (43, undef), (44, .bool false), (45, .bool false), (7, .bool false)] rfl hsz hdf (by intro p hp; simp only [List.mem_cons, List.not_mem_nil, or_false] at hp; rcases hp with rfl | rfl | rfl | rfl | rfl | rfl | rfl | rfl | rfl | rfl | rfl | rfl | rfl | rfl | rfl | rfl <;> first | exact e0 | exact e1 | exact e2 | exact e3 | exact e4 | exact e5 | exact e6 | exact e7 | exact e8 | exact e9 | exact e10 | exact e11 | exact e12 | exact e13 | exact e14 | exact e15) hrest
          clear h hrest hsz hdf e0 e1 e2 e3 e4 e5 e6 e7 e8 e9 e10 e11 e12 e13 e14 e15 g0 g1 g2 g3 g4 g5 g6 g7 g8 g9 g10 g11 g12 g13 g14 g15
          subst ha
          simp only [List.foldl_cons, List.foldl_nil, Act.put, List.setIfInBounds_toArray, List.set_cons_succ, List.set_cons_zero]
          have HXX := Lib.hid (Ext.trans HXW.out hE)
          go_wp2
          go_roundg (l.length + 1 - (iq + 1))
          case measure => omega
          case rel => exact ⟨iq + 1, by omega, rfl, by rw [HST.out], by go_num, HXX.out⟩
      · rw [hsa, Bool.true_and] at hst
        have HST := Lib.hid hst
        have HQA := Lib.hid hsa
        clear hst hsa
        go_upto_region 9 with fail
        refine wp_region_dag (E := Ext) (w0 := wz) (Φ := fun i v w => match i with | 0 => (v = .bool false) | 1 => (v = .bool false) | 2 => (v = .agg #[.int .i64 ka, .int .i64 ma, .bool za, .int .u64 (wd pa 0 : Nat), .int .u64 (wd pa 1 : Nat), .int .u64 (wd pa 2 : Nat), .int .u64 (wd pa 3 : Nat), .slice Ba na ca]) | 3 => (v = .string ⟨l.toArray⟩) | 4 => (v = .int .i64 (iq : Nat)) | 5 => (v = .string ⟨(l.take iq).toArray⟩) | 6 => (v = .bool true) | 7 => (v = .bool true) | 8 => (v = .agg #[.int .i64 kb, .int .i64 mb, .bool zb, .int .u64 (wd pb 0 : Nat), .int .u64 (wd pb 1 : Nat), .int .u64 (wd pb 2 : Nat), .int .u64 (wd pb 3 : Nat), .slice Bb nb cb]) | 9 => (v = .string ⟨l.toArray⟩) | 10 => (v = .int .i64 (iq : Nat)) | 11 => (v = .string ⟨(l.drop iq).toArray⟩) | 12 => (v = .bool sb) | 13 => (v = .bool sb) | 14 => (v = .bool sb) | 15 => (v = .bool sb) | _ => True) (show Tryd.prog.follows .mixedOrders = true from Checked.mixed Tryd.checked) 100 rfl (by decide +kernel) ?_ ((Below.refl _ _).drew) ?_ ⟨?_, ?_, ?_, ?_, ?_, ?_, ?_, ?_, ?_, ?_, ?_, ?_, ?_, ?_, ?_, ?_, trivial⟩ ?_
        · intro i v w w' h hE
          match i, h with
          | 0, h => exact h
          | 1, h => exact h
          | 2, h => exact h
          | 3, h => exact h
          | 4, h => exact h
          | 5, h => exact h
          | 6, h => exact h
          | 7, h => exact h
          | 8, h => exact h
          | 9, h => exact h
          | 10, h => exact h
          | 11, h => exact h
          | 12, h => exact h
          | 13, h => exact h
          | 14, h => exact h
          | 15, h => exact h
          | _ + 16, _ => trivial
        · exact fun w w' h h' => h.trans h'
        · -- 0: t31 := move t7
          intro ac wx hE hsz hdf h
          have e7 : ac.tmps[7]? = some (.bool false) := by obtain ⟨v, h1, h2⟩ := h 7 (by decide +kernel); exact h1.trans (h2.symm.trans rfl)
          clear h hsz hdf
          go_wp2
          exact ⟨_, rfl, rfl, Ext.refl _⟩
        · -- 1: t32 := move t31
          intro ac wx hE hsz hdf h
          have e31 : ac.tmps[31]? = some (.bool false) := by obtain ⟨v, h1, h2⟩ := h 31 (by decide +kernel); rw [h1]; exact congrArg some h2
          clear h hsz hdf
          go_wp2
          exact ⟨_, rfl, rfl, Ext.refl _⟩
        · -- 2: t33 := load 27 t3 (1, False)
          intro ac wx hE hsz hdf h
          have e3 : ac.tmps[3]? = some (.pointer (some ⟨gA, 0, none⟩)) := by obtain ⟨v, h1, h2⟩ := h 3 (by decide +kernel); exact h1.trans (h2.symm.trans rfl)
          have e32 : ac.tmps[32]? = some (.bool false) := by obtain ⟨v, h1, h2⟩ := h 32 (by decide +kernel); rw [h1]; exact congrArg some h2
          clear h hsz hdf
          obtain ⟨y0, y1, y2, y3, y4, y5, y6, y7⟩ := (HBAW.out.keep hE).cells
          go_wp2
          exact ⟨_, rfl, rfl, Ext.refl _⟩
        · -- 3: t34 := move t2 (1, False)
          intro ac wx hE hsz hdf h
          have e2 : ac.tmps[2]? = some (.string ⟨l.toArray⟩) := by obtain ⟨v, h1, h2⟩ := h 2 (by decide +kernel); exact h1.trans (h2.symm.trans rfl)
          have e32 : ac.tmps[32]? = some (.bool false) := by obtain ⟨v, h1, h2⟩ := h 32 (by decide +kernel); rw [h1]; exact congrArg some h2
          clear h hsz hdf
          go_wp2
          exact ⟨_, rfl, rfl, Ext.refl _⟩
        · -- 4: t35 := move t8 (1, False)
          intro ac wx hE hsz hdf h
          have e8 : ac.tmps[8]? = some (.int .i64 (iq : Nat)) := by obtain ⟨v, h1, h2⟩ := h 8 (by decide +kernel); exact h1.trans (h2.symm.trans rfl)
          have e32 : ac.tmps[32]? = some (.bool false) := by obtain ⟨v, h1, h2⟩ := h 32 (by decide +kernel); rw [h1]; exact congrArg some h2
          clear h hsz hdf
          go_wp2
          exact ⟨_, rfl, rfl, Ext.refl _⟩
        · -- 5: t36 := slice 9 t34 none (some t35) none (1, False)
          intro ac wx hE hsz hdf h
          have e34 : ac.tmps[34]? = some (.string ⟨l.toArray⟩) := by obtain ⟨v, h1, h2⟩ := h 34 (by decide +kernel); rw [h1]; exact congrArg some h2
          have e35 : ac.tmps[35]? = some (.int .i64 (iq : Nat)) := by obtain ⟨v, h1, h2⟩ := h 35 (by decide +kernel); rw [h1]; exact congrArg some h2
          have e32 : ac.tmps[32]? = some (.bool false) := by obtain ⟨v, h1, h2⟩ := h 32 (by decide +kernel); rw [h1]; exact congrArg some h2
          clear h hsz hdf
          go_wp2
          exact ⟨_, rfl, by simp, Ext.refl _⟩
        · -- 6: t37 := call { value (Operand.func 29), args := #[t33, t36], argTypes := #[27, 9] } (1, False)
          intro ac wx hE hsz hdf h
          have e33 : ac.tmps[33]? = some (.agg #[.int .i64 ka, .int .i64 ma, .bool za, .int .u64 (wd pa 0 : Nat), .int .u64 (wd pa 1 : Nat), .int .u64 (wd pa 2 : Nat), .int .u64 (wd pa 3 : Nat), .slice Ba na ca]) := by obtain ⟨v, h1, h2⟩ := h 33 (by decide +kernel); rw [h1]; exact congrArg some h2
          have e36 : ac.tmps[36]? = some (.string ⟨(l.take iq).toArray⟩) := by obtain ⟨v, h1, h2⟩ := h 36 (by decide +kernel); rw [h1]; exact congrArg some h2
          have e32 : ac.tmps[32]? = some (.bool false) := by obtain ⟨v, h1, h2⟩ := h 32 (by decide +kernel); rw [h1]; exact congrArg some h2
          clear h hsz hdf
          go_wp2_with ((go_at_call 29; refine (mnSays ta (by have := HSA.out; omega) (l.take iq) HTK.out S _ (nodeC ka ma za pa Ba na ca) (HVAW.out.keep hE)).mono ?_; rintro e w9 ⟨rfl, hb9⟩; rw [HQA.out]))
          exact ⟨_, rfl, rfl, hb9⟩
        · -- 7: t38 := move t37 (1, False)
          intro ac wx hE hsz hdf h
          have e37 : ac.tmps[37]? = some (.bool true) := by obtain ⟨v, h1, h2⟩ := h 37 (by decide +kernel); rw [h1]; exact congrArg some h2
          have e32 : ac.tmps[32]? = some (.bool false) := by obtain ⟨v, h1, h2⟩ := h 32 (by decide +kernel); rw [h1]; exact congrArg some h2
          clear h hsz hdf
          go_wp2
          exact ⟨_, rfl, rfl, Ext.refl _⟩
        · -- 8: t39 := load 27 t4 (7, True)
          intro ac wx hE hsz hdf h
          have e4 : ac.tmps[4]? = some (.pointer (some ⟨gB, 0, none⟩)) := by obtain ⟨v, h1, h2⟩ := h 4 (by decide +kernel); exact h1.trans (h2.symm.trans rfl)
          have e38 : ac.tmps[38]? = some (.bool true) := by obtain ⟨v, h1, h2⟩ := h 38 (by decide +kernel); rw [h1]; exact congrArg some h2
          clear h hsz hdf
          obtain ⟨y0, y1, y2, y3, y4, y5, y6, y7⟩ := (HBBW.out.keep hE).cells
          go_wp2
          exact ⟨_, rfl, rfl, Ext.refl _⟩
        · -- 9: t40 := move t2 (7, True)
          intro ac wx hE hsz hdf h
          have e2 : ac.tmps[2]? = some (.string ⟨l.toArray⟩) := by obtain ⟨v, h1, h2⟩ := h 2 (by decide +kernel); exact h1.trans (h2.symm.trans rfl)
          have e38 : ac.tmps[38]? = some (.bool true) := by obtain ⟨v, h1, h2⟩ := h 38 (by decide +kernel); rw [h1]; exact congrArg some h2
          clear h hsz hdf
          go_wp2
          exact ⟨_, rfl, rfl, Ext.refl _⟩
        · -- 10: t41 := move t8 (7, True)
          intro ac wx hE hsz hdf h
          have e8 : ac.tmps[8]? = some (.int .i64 (iq : Nat)) := by obtain ⟨v, h1, h2⟩ := h 8 (by decide +kernel); exact h1.trans (h2.symm.trans rfl)
          have e38 : ac.tmps[38]? = some (.bool true) := by obtain ⟨v, h1, h2⟩ := h 38 (by decide +kernel); rw [h1]; exact congrArg some h2
          clear h hsz hdf
          go_wp2
          exact ⟨_, rfl, rfl, Ext.refl _⟩
        · -- 11: t42 := slice 9 t40 (some t41) none none (7, True)
          intro ac wx hE hsz hdf h
          have e40 : ac.tmps[40]? = some (.string ⟨l.toArray⟩) := by obtain ⟨v, h1, h2⟩ := h 40 (by decide +kernel); rw [h1]; exact congrArg some h2
          have e41 : ac.tmps[41]? = some (.int .i64 (iq : Nat)) := by obtain ⟨v, h1, h2⟩ := h 41 (by decide +kernel); rw [h1]; exact congrArg some h2
          have e38 : ac.tmps[38]? = some (.bool true) := by obtain ⟨v, h1, h2⟩ := h 38 (by decide +kernel); rw [h1]; exact congrArg some h2
          clear h hsz hdf
          go_wp2
          exact ⟨_, rfl, by simp, Ext.refl _⟩
        · -- 12: t43 := call { value (Operand.func 29), args := #[t39, t42], argTypes := #[27, 9] } (7, True)
          intro ac wx hE hsz hdf h
          have e39 : ac.tmps[39]? = some (.agg #[.int .i64 kb, .int .i64 mb, .bool zb, .int .u64 (wd pb 0 : Nat), .int .u64 (wd pb 1 : Nat), .int .u64 (wd pb 2 : Nat), .int .u64 (wd pb 3 : Nat), .slice Bb nb cb]) := by obtain ⟨v, h1, h2⟩ := h 39 (by decide +kernel); rw [h1]; exact congrArg some h2
          have e42 : ac.tmps[42]? = some (.string ⟨(l.drop iq).toArray⟩) := by obtain ⟨v, h1, h2⟩ := h 42 (by decide +kernel); rw [h1]; exact congrArg some h2
          have e38 : ac.tmps[38]? = some (.bool true) := by obtain ⟨v, h1, h2⟩ := h 38 (by decide +kernel); rw [h1]; exact congrArg some h2
          clear h hsz hdf
          go_wp2_with ((go_at_call 29; refine (mnSays tb (by have := HSB.out; omega) (l.drop iq) HDK.out S' _ (nodeC kb mb zb pb Bb nb cb) (HVBW.out.keep hE)).mono ?_; rintro e w9 ⟨rfl, hb9⟩; rw [HQB.out]))
          exact ⟨_, rfl, rfl, hb9⟩
        · -- 13: t44 := pick t38 t43 (const (Value.bool false)) (1, False)
          intro ac wx hE hsz hdf h
          have e38 : ac.tmps[38]? = some (.bool true) := by obtain ⟨v, h1, h2⟩ := h 38 (by decide +kernel); rw [h1]; exact congrArg some h2
          have e43 : ac.tmps[43]? = some (.bool sb) := by obtain ⟨v, h1, h2⟩ := h 43 (by decide +kernel); rw [h1]; exact congrArg some h2
          have e32 : ac.tmps[32]? = some (.bool false) := by obtain ⟨v, h1, h2⟩ := h 32 (by decide +kernel); rw [h1]; exact congrArg some h2
          clear h hsz hdf
          go_wp2
          exact ⟨_, rfl, by simp, Ext.refl _⟩
        · -- 14: t45 := pick t32 (const (Value.bool true)) t44
          intro ac wx hE hsz hdf h
          have e32 : ac.tmps[32]? = some (.bool false) := by obtain ⟨v, h1, h2⟩ := h 32 (by decide +kernel); rw [h1]; exact congrArg some h2
          have e44 : ac.tmps[44]? = some (.bool sb) := by obtain ⟨v, h1, h2⟩ := h 44 (by decide +kernel); rw [h1]; exact congrArg some h2
          clear h hsz hdf
          go_wp2
          exact ⟨_, rfl, by simp, Ext.refl _⟩
        · -- 15: t7 := assign t45
          intro ac wx hE hsz hdf h
          have e45 : ac.tmps[45]? = some (.bool sb) := by obtain ⟨v, h1, h2⟩ := h 45 (by decide +kernel); rw [h1]; exact congrArg some h2
          clear h hsz hdf
          go_wp2
          exact ⟨_, rfl, rfl, Ext.refl _⟩
        · intro ac w9 hE hsz hdf h hrest
          obtain ⟨v0, s0, g0⟩ := h 0 _ rfl
          have e0 := g0 31 rfl
          obtain rfl : v0 = .bool false := s0
          obtain ⟨v1, s1, g1⟩ := h 1 _ rfl
          have e1 := g1 32 rfl
          obtain rfl : v1 = .bool false := s1
          obtain ⟨v2, s2, g2⟩ := h 2 _ rfl
          have e2 := g2 33 rfl
          obtain rfl : v2 = .agg #[.int .i64 ka, .int .i64 ma, .bool za, .int .u64 (wd pa 0 : Nat), .int .u64 (wd pa 1 : Nat), .int .u64 (wd pa 2 : Nat), .int .u64 (wd pa 3 : Nat), .slice Ba na ca] := s2
          obtain ⟨v3, s3, g3⟩ := h 3 _ rfl
          have e3 := g3 34 rfl
          obtain rfl : v3 = .string ⟨l.toArray⟩ := s3
          obtain ⟨v4, s4, g4⟩ := h 4 _ rfl
          have e4 := g4 35 rfl
          obtain rfl : v4 = .int .i64 (iq : Nat) := s4
          obtain ⟨v5, s5, g5⟩ := h 5 _ rfl
          have e5 := g5 36 rfl
          obtain rfl : v5 = .string ⟨(l.take iq).toArray⟩ := s5
          obtain ⟨v6, s6, g6⟩ := h 6 _ rfl
          have e6 := g6 37 rfl
          obtain rfl : v6 = .bool true := s6
          obtain ⟨v7, s7, g7⟩ := h 7 _ rfl
          have e7 := g7 38 rfl
          obtain rfl : v7 = .bool true := s7
          obtain ⟨v8, s8, g8⟩ := h 8 _ rfl
          have e8 := g8 39 rfl
          obtain rfl : v8 = .agg #[.int .i64 kb, .int .i64 mb, .bool zb, .int .u64 (wd pb 0 : Nat), .int .u64 (wd pb 1 : Nat), .int .u64 (wd pb 2 : Nat), .int .u64 (wd pb 3 : Nat), .slice Bb nb cb] := s8
          obtain ⟨v9, s9, g9⟩ := h 9 _ rfl
          have e9 := g9 40 rfl
          obtain rfl : v9 = .string ⟨l.toArray⟩ := s9
          obtain ⟨v10, s10, g10⟩ := h 10 _ rfl
          have e10 := g10 41 rfl
          obtain rfl : v10 = .int .i64 (iq : Nat) := s10
          obtain ⟨v11, s11, g11⟩ := h 11 _ rfl
          have e11 := g11 42 rfl
          obtain rfl : v11 = .string ⟨(l.drop iq).toArray⟩ := s11
          obtain ⟨v12, s12, g12⟩ := h 12 _ rfl
          have e12 := g12 43 rfl
          obtain rfl : v12 = .bool sb := s12
          obtain ⟨v13, s13, g13⟩ := h 13 _ rfl
          have e13 := g13 44 rfl
          obtain rfl : v13 = .bool sb := s13
          obtain ⟨v14, s14, g14⟩ := h 14 _ rfl
          have e14 := g14 45 rfl
          obtain rfl : v14 = .bool sb := s14
          obtain ⟨v15, s15, g15⟩ := h 15 _ rfl
          have e15 := g15 7 rfl
          obtain rfl : v15 = .bool sb := s15
          have ha := act_of [(31, .bool false), (32, .bool false), (33, .agg #[.int .i64 ka, .int .i64 ma, .bool za, .int .u64 (wd pa 0 : Nat), .int .u64 (wd pa 1 : Nat), .int .u64 (wd pa 2 : Nat), .int .u64 (wd pa 3 : Nat), .slice Ba na ca]), (34, .string ⟨l.toArray⟩), (35, .int .i64 (iq : Nat)), (36, .string ⟨(l.take iq).toArray⟩), (37, .bool true), (38, .bool true), (39, .agg #[.int .i64 kb, .int .i64 mb, .bool zb, .int .u64 (wd pb 0 : Nat), .int .u64 (wd pb 1 : Nat), .int .u64 (wd pb 2 : Nat), .int .u64 (wd pb 3 : Nat), .slice Bb nb cb]), (40, .string ⟨l.toArray⟩), (41, .int .i64 (iq : Nat)), (42, .string ⟨(l.drop iq).toArray⟩), (43, .bool sb), (44, .bool sb), (45, .bool sb), (7, .bool sb)] rfl hsz hdf (by intro p hp; simp only [List.mem_cons, List.not_mem_nil, or_false] at hp; rcases hp with rfl | rfl | rfl | rfl | rfl | rfl | rfl | rfl | rfl | rfl | rfl | rfl | rfl | rfl | rfl | rfl <;> first | exact e0 | exact e1 | exact e2 | exact e3 | exact e4 | exact e5 | exact e6 | exact e7 | exact e8 | exact e9 | exact e10 | exact e11 | exact e12 | exact e13 | exact e14 | exact e15) hrest
          clear h hrest hsz hdf e0 e1 e2 e3 e4 e5 e6 e7 e8 e9 e10 e11 e12 e13 e14 e15 g0 g1 g2 g3 g4 g5 g6 g7 g8 g9 g10 g11 g12 g13 g14 g15
          subst ha
          simp only [List.foldl_cons, List.foldl_nil, Act.put, List.setIfInBounds_toArray, List.set_cons_succ, List.set_cons_zero]
          have HXX := Lib.hid (Ext.trans HXW.out hE)
          go_wp2
          go_roundg (l.length + 1 - (iq + 1))
          case measure => omega
          case rel => exact ⟨iq + 1, by omega, rfl, by rw [HST.out], by go_num, HXX.out⟩
    · obtain rfl : iq = l.length + 1 := by omega
      have hlt' : ¬ ((l.length + 1 : Nat) : Int) ≤ (l.length : Int) := by omega
      have HBA2 := Lib.hid (HBA1.out.keep hx)
      have HBB2 := Lib.hid (HBB1.out.keep hx)
      have HVA2 := Lib.hid (HVA1.out.keep hx)
      have HVB2 := Lib.hid (HVB1.out.keep hx)
      have HX2 := Lib.hid (Ext.trans HX1.out hx)
      have HC := Lib.hid (says_cat HFA.out HFB.out l)
      have HA4 := Lib.hid (says_alt HFA.out HFB.out l)
      have HO := Lib.hid (fun z => says_opt HFA.out z l)
      clear hx
      generalize wr = wz at *
      obtain ⟨P, hP⟩ : ∃ P, partsN ta tb l (l.length + 1) = P := ⟨_, rfl⟩
      rw [hP] at HC ⊢
      clear hP
      obtain ⟨q0, q1, q2, q3, q4, q5, q6, q7⟩ := HBA2.out.cells
      obtain ⟨x0, x1, x2, x3, x4, x5, x6, x7⟩ := HBB2.out.cells
      go_upto_region 11 with fail
      clear q0 q1 q2 q3 q4 q5 q6 q7 x0 x1 x2 x3 x4 x5 x6 x7
      have hk3 := two_kids HVA2.out HVB2.out 3 false
      have hk4 := two_kids HVA2.out HVB2.out 4 false
      have hk7 := fun z => (two_kids HVA2.out HVB2.out 7 z).2
      have hxk := Ext.new1 wz (.cells (nodeC ka ma za pa Ba na ca ++ nodeC kb mb zb pb Bb nb cb).toArray 27)
      have HN3 := Lib.hid hk3.1
      have HN4 := Lib.hid hk4.1
      have HN7 := Lib.hid hk7
      have HBA3 := Lib.hid (HBA2.out.keep hxk)
      have HBB3 := Lib.hid (HBB2.out.keep hxk)
      have HVA3 := Lib.hid (HVA2.out.keep hxk)
      have HVB3 := Lib.hid (HVB2.out.keep hxk)
      have HX3 := Lib.hid (Ext.trans HX2.out hxk)
      clear hk3 hk4 hk7 hxk HBA2 HBB2 HVA2 HVB2 HX2
      simp only [nodeC, List.cons_append, List.nil_append] at HN3 HN4 HN7 HBA3 HBB3 HVA3 HVB3 HX3
      generalize World.alloc wz _ = wq at *
      generalize wz.heap.size = gK at *
      have HBA3 := Lib.hid (show NodeB wq gA ka ma za pa Ba na ca from HBA3.out)
      have HBB3 := Lib.hid (show NodeB wq gB kb mb zb pb Bb nb cb from HBB3.out)
      obtain ⟨sb, hsb⟩ : ∃ sb, saysA tb l = sb := ⟨_, rfl⟩
      have HQB := Lib.hid hsb
      rw [hsb] at HA4
      clear hsb
      cases hsa : saysA ta l
      · have HQA := Lib.hid hsa
        have HA4' := Lib.hid (HA4.out)
        rw [hsa, Bool.false_or] at HA4
        rw [hsa] at HO
        clear hsa HA4'
        refine wp_region_dag (E := Ext) (w0 := wq) (Φ := fun i v w => match i with | 0 => (v = .slice (some ⟨gK, 0, none⟩) 2 2) | 1 => (v = .agg #[.int .i64 3, .int .i64 0, .bool false, .int .u64 0, .int .u64 0, .int .u64 0, .int .u64 0, .slice (some ⟨gK, 0, none⟩) 2 2]) | 2 => (v = .string ⟨l.toArray⟩) | 3 => (v = .bool P) | 4 => (v = .bool P) | 5 => (v = .bool false) | 6 => (v = .bool false) | 7 => (v = .slice (some ⟨gK, 0, none⟩) 2 2) | 8 => (v = .agg #[.int .i64 4, .int .i64 0, .bool false, .int .u64 0, .int .u64 0, .int .u64 0, .int .u64 0, .slice (some ⟨gK, 0, none⟩) 2 2]) | 9 => (v = .string ⟨l.toArray⟩) | 10 => (v = .bool sb) | 11 => (v = .agg #[.int .i64 ka, .int .i64 ma, .bool za, .int .u64 (wd pa 0 : Nat), .int .u64 (wd pa 1 : Nat), .int .u64 (wd pa 2 : Nat), .int .u64 (wd pa 3 : Nat), .slice Ba na ca]) | 12 => (v = .string ⟨l.toArray⟩) | 13 => (v = .bool false) | 14 => (v = .bool false) | 15 => (v = .agg #[.int .i64 kb, .int .i64 mb, .bool zb, .int .u64 (wd pb 0 : Nat), .int .u64 (wd pb 1 : Nat), .int .u64 (wd pb 2 : Nat), .int .u64 (wd pb 3 : Nat), .slice Bb nb cb]) | 16 => (v = .string ⟨l.toArray⟩) | 17 => (v = .bool sb) | 18 => (v = .bool sb) | 19 => (v = .bool false) | 20 => (v = .bool false) | _ => True) (show Tryd.prog.follows .mixedOrders = true from Checked.mixed Tryd.checked) 100 rfl (by decide +kernel) ?_ ((Below.refl _ _).drew) ?_ ⟨?_, ?_, ?_, ?_, ?_, ?_, ?_, ?_, ?_, ?_, ?_, ?_, ?_, ?_, ?_, ?_, ?_, ?_, ?_, ?_, ?_, trivial⟩ ?_
        · intro i v w w' h hE
          match i, h with
          | 0, h => exact h
          | 1, h => exact h
          | 2, h => exact h
          | 3, h => exact h
          | 4, h => exact h
          | 5, h => exact h
          | 6, h => exact h
          | 7, h => exact h
          | 8, h => exact h
          | 9, h => exact h
          | 10, h => exact h
          | 11, h => exact h
          | 12, h => exact h
          | 13, h => exact h
          | 14, h => exact h
          | 15, h => exact h
          | 16, h => exact h
          | 17, h => exact h
          | 18, h => exact h
          | 19, h => exact h
          | 20, h => exact h
          | _ + 21, _ => trivial
        · exact fun w w' h h' => h.trans h'
        · -- 0: t49 := move t9
          intro ac wx hE hsz hdf h
          have e9 : ac.tmps[9]? = some (.slice (some ⟨gK, 0, none⟩) 2 2) := by obtain ⟨v, h1, h2⟩ := h 9 (by decide +kernel); exact h1.trans (h2.symm.trans rfl)
          clear h hsz hdf
          go_wp2
          exact ⟨_, rfl, rfl, Ext.refl _⟩
        · -- 1: t50 := build 27 #[(0, const (3:i64)), (4, t49)]
          intro ac wx hE hsz hdf h
          have e49 : ac.tmps[49]? = some (.slice (some ⟨gK, 0, none⟩) 2 2) := by obtain ⟨v, h1, h2⟩ := h 49 (by decide +kernel); rw [h1]; exact congrArg some h2
          clear h hsz hdf
          go_wp2
          exact ⟨_, rfl, rfl, Ext.refl _⟩
        · -- 2: t51 := move t2
          intro ac wx hE hsz hdf h
          have e2 : ac.tmps[2]? = some (.string ⟨l.toArray⟩) := by obtain ⟨v, h1, h2⟩ := h 2 (by decide +kernel); exact h1.trans (h2.symm.trans rfl)
          clear h hsz hdf
          go_wp2
          exact ⟨_, rfl, rfl, Ext.refl _⟩
        · -- 3: t52 := call { value (Operand.func 29), args := #[t50, t51], argTypes := #[27, 9] }
          intro ac wx hE hsz hdf h
          have e50 : ac.tmps[50]? = some (.agg #[.int .i64 3, .int .i64 0, .bool false, .int .u64 0, .int .u64 0, .int .u64 0, .int .u64 0, .slice (some ⟨gK, 0, none⟩) 2 2]) := by obtain ⟨v, h1, h2⟩ := h 50 (by decide +kernel); rw [h1]; exact congrArg some h2
          have e51 : ac.tmps[51]? = some (.string ⟨l.toArray⟩) := by obtain ⟨v, h1, h2⟩ := h 51 (by decide +kernel); rw [h1]; exact congrArg some h2
          clear h hsz hdf
          go_wp2_with ((go_at_call 29; refine (mnSays (.node 3 0 false noP [ta, tb]) (by have := HSA.out; have := HSB.out; simp only [size_node, sizeL]; omega) l (by have := HN.out; omega) _ _ [.int .i64 3, .int .i64 0, .bool false, .int .u64 0, .int .u64 0, .int .u64 0, .int .u64 0, .slice (some ⟨gK, 0, none⟩) 2 2] (HN3.out.keep hE)).mono ?_; rintro e w9 ⟨rfl, hb9⟩; rw [HC.out]))
          exact ⟨_, rfl, rfl, hb9⟩
        · -- 4: t53 := move t7
          intro ac wx hE hsz hdf h
          have e7 : ac.tmps[7]? = some (.bool P) := by obtain ⟨v, h1, h2⟩ := h 7 (by decide +kernel); exact h1.trans (h2.symm.trans rfl)
          clear h hsz hdf
          go_wp2
          exact ⟨_, rfl, rfl, Ext.refl _⟩
        · -- 5: t54 := binOp BinOp.neq 4 t52 t53 4
          intro ac wx hE hsz hdf h
          have e52 : ac.tmps[52]? = some (.bool P) := by obtain ⟨v, h1, h2⟩ := h 52 (by decide +kernel); rw [h1]; exact congrArg some h2
          have e53 : ac.tmps[53]? = some (.bool P) := by obtain ⟨v, h1, h2⟩ := h 53 (by decide +kernel); rw [h1]; exact congrArg some h2
          clear h hsz hdf
          go_wp2
          exact ⟨_, rfl, by simp, Ext.refl _⟩
        · -- 6: t55 := move t54
          intro ac wx hE hsz hdf h
          have e54 : ac.tmps[54]? = some (.bool false) := by obtain ⟨v, h1, h2⟩ := h 54 (by decide +kernel); rw [h1]; exact congrArg some h2
          clear h hsz hdf
          go_wp2
          exact ⟨_, rfl, rfl, Ext.refl _⟩
        · -- 7: t56 := move t9 (6, False)
          intro ac wx hE hsz hdf h
          have e9 : ac.tmps[9]? = some (.slice (some ⟨gK, 0, none⟩) 2 2) := by obtain ⟨v, h1, h2⟩ := h 9 (by decide +kernel); exact h1.trans (h2.symm.trans rfl)
          have e55 : ac.tmps[55]? = some (.bool false) := by obtain ⟨v, h1, h2⟩ := h 55 (by decide +kernel); rw [h1]; exact congrArg some h2
          clear h hsz hdf
          go_wp2
          exact ⟨_, rfl, rfl, Ext.refl _⟩
        · -- 8: t57 := build 27 #[(0, const (4:i64)), (4, t56)] (6, False)
          intro ac wx hE hsz hdf h
          have e56 : ac.tmps[56]? = some (.slice (some ⟨gK, 0, none⟩) 2 2) := by obtain ⟨v, h1, h2⟩ := h 56 (by decide +kernel); rw [h1]; exact congrArg some h2
          have e55 : ac.tmps[55]? = some (.bool false) := by obtain ⟨v, h1, h2⟩ := h 55 (by decide +kernel); rw [h1]; exact congrArg some h2
          clear h hsz hdf
          go_wp2
          exact ⟨_, rfl, rfl, Ext.refl _⟩
        · -- 9: t58 := move t2 (6, False)
          intro ac wx hE hsz hdf h
          have e2 : ac.tmps[2]? = some (.string ⟨l.toArray⟩) := by obtain ⟨v, h1, h2⟩ := h 2 (by decide +kernel); exact h1.trans (h2.symm.trans rfl)
          have e55 : ac.tmps[55]? = some (.bool false) := by obtain ⟨v, h1, h2⟩ := h 55 (by decide +kernel); rw [h1]; exact congrArg some h2
          clear h hsz hdf
          go_wp2
          exact ⟨_, rfl, rfl, Ext.refl _⟩
        · -- 10: t59 := call { value (Operand.func 29), args := #[t57, t58], argTypes := #[27, 9] } (6, False)
          intro ac wx hE hsz hdf h
          have e57 : ac.tmps[57]? = some (.agg #[.int .i64 4, .int .i64 0, .bool false, .int .u64 0, .int .u64 0, .int .u64 0, .int .u64 0, .slice (some ⟨gK, 0, none⟩) 2 2]) := by obtain ⟨v, h1, h2⟩ := h 57 (by decide +kernel); rw [h1]; exact congrArg some h2
          have e58 : ac.tmps[58]? = some (.string ⟨l.toArray⟩) := by obtain ⟨v, h1, h2⟩ := h 58 (by decide +kernel); rw [h1]; exact congrArg some h2
          have e55 : ac.tmps[55]? = some (.bool false) := by obtain ⟨v, h1, h2⟩ := h 55 (by decide +kernel); rw [h1]; exact congrArg some h2
          clear h hsz hdf
          go_wp2_with ((go_at_call 29; refine (mnSays (.node 4 0 false noP [ta, tb]) (by have := HSA.out; have := HSB.out; simp only [size_node, sizeL]; omega) l (by have := HN.out; omega) _ _ [.int .i64 4, .int .i64 0, .bool false, .int .u64 0, .int .u64 0, .int .u64 0, .int .u64 0, .slice (some ⟨gK, 0, none⟩) 2 2] (HN4.out.keep hE)).mono ?_; rintro e w9 ⟨rfl, hb9⟩; rw [HA4.out]))
          exact ⟨_, rfl, rfl, hb9⟩
        · -- 11: t60 := load 27 t3 (6, False)
          intro ac wx hE hsz hdf h
          have e3 : ac.tmps[3]? = some (.pointer (some ⟨gA, 0, none⟩)) := by obtain ⟨v, h1, h2⟩ := h 3 (by decide +kernel); exact h1.trans (h2.symm.trans rfl)
          have e55 : ac.tmps[55]? = some (.bool false) := by obtain ⟨v, h1, h2⟩ := h 55 (by decide +kernel); rw [h1]; exact congrArg some h2
          clear h hsz hdf
          obtain ⟨y0, y1, y2, y3, y4, y5, y6, y7⟩ := (HBA3.out.keep hE).cells
          go_wp2
          exact ⟨_, rfl, rfl, Ext.refl _⟩
        · -- 12: t61 := move t2 (6, False)
          intro ac wx hE hsz hdf h
          have e2 : ac.tmps[2]? = some (.string ⟨l.toArray⟩) := by obtain ⟨v, h1, h2⟩ := h 2 (by decide +kernel); exact h1.trans (h2.symm.trans rfl)
          have e55 : ac.tmps[55]? = some (.bool false) := by obtain ⟨v, h1, h2⟩ := h 55 (by decide +kernel); rw [h1]; exact congrArg some h2
          clear h hsz hdf
          go_wp2
          exact ⟨_, rfl, rfl, Ext.refl _⟩
        · -- 13: t62 := call { value (Operand.func 29), args := #[t60, t61], argTypes := #[27, 9] } (6, False)
          intro ac wx hE hsz hdf h
          have e60 : ac.tmps[60]? = some (.agg #[.int .i64 ka, .int .i64 ma, .bool za, .int .u64 (wd pa 0 : Nat), .int .u64 (wd pa 1 : Nat), .int .u64 (wd pa 2 : Nat), .int .u64 (wd pa 3 : Nat), .slice Ba na ca]) := by obtain ⟨v, h1, h2⟩ := h 60 (by decide +kernel); rw [h1]; exact congrArg some h2
          have e61 : ac.tmps[61]? = some (.string ⟨l.toArray⟩) := by obtain ⟨v, h1, h2⟩ := h 61 (by decide +kernel); rw [h1]; exact congrArg some h2
          have e55 : ac.tmps[55]? = some (.bool false) := by obtain ⟨v, h1, h2⟩ := h 55 (by decide +kernel); rw [h1]; exact congrArg some h2
          clear h hsz hdf
          go_wp2_with ((go_at_call 29; refine (mnSays ta (by have := HSA.out; omega) l (by have := HN.out; omega) S _ (nodeC ka ma za pa Ba na ca) (HVA3.out.keep hE)).mono ?_; rintro e w9 ⟨rfl, hb9⟩; rw [HQA.out]))
          exact ⟨_, rfl, rfl, hb9⟩
        · -- 14: t63 := move t62 (6, False)
          intro ac wx hE hsz hdf h
          have e62 : ac.tmps[62]? = some (.bool false) := by obtain ⟨v, h1, h2⟩ := h 62 (by decide +kernel); rw [h1]; exact congrArg some h2
          have e55 : ac.tmps[55]? = some (.bool false) := by obtain ⟨v, h1, h2⟩ := h 55 (by decide +kernel); rw [h1]; exact congrArg some h2
          clear h hsz hdf
          go_wp2
          exact ⟨_, rfl, rfl, Ext.refl _⟩
        · -- 15: t64 := load 27 t4 (14, False)
          intro ac wx hE hsz hdf h
          have e4 : ac.tmps[4]? = some (.pointer (some ⟨gB, 0, none⟩)) := by obtain ⟨v, h1, h2⟩ := h 4 (by decide +kernel); exact h1.trans (h2.symm.trans rfl)
          have e63 : ac.tmps[63]? = some (.bool false) := by obtain ⟨v, h1, h2⟩ := h 63 (by decide +kernel); rw [h1]; exact congrArg some h2
          clear h hsz hdf
          obtain ⟨y0, y1, y2, y3, y4, y5, y6, y7⟩ := (HBB3.out.keep hE).cells
          go_wp2
          exact ⟨_, rfl, rfl, Ext.refl _⟩
        · -- 16: t65 := move t2 (14, False)
          intro ac wx hE hsz hdf h
          have e2 : ac.tmps[2]? = some (.string ⟨l.toArray⟩) := by obtain ⟨v, h1, h2⟩ := h 2 (by decide +kernel); exact h1.trans (h2.symm.trans rfl)
          have e63 : ac.tmps[63]? = some (.bool false) := by obtain ⟨v, h1, h2⟩ := h 63 (by decide +kernel); rw [h1]; exact congrArg some h2
          clear h hsz hdf
          go_wp2
          exact ⟨_, rfl, rfl, Ext.refl _⟩
        · -- 17: t66 := call { value (Operand.func 29), args := #[t64, t65], argTypes := #[27, 9] } (14, False)
          intro ac wx hE hsz hdf h
          have e64 : ac.tmps[64]? = some (.agg #[.int .i64 kb, .int .i64 mb, .bool zb, .int .u64 (wd pb 0 : Nat), .int .u64 (wd pb 1 : Nat), .int .u64 (wd pb 2 : Nat), .int .u64 (wd pb 3 : Nat), .slice Bb nb cb]) := by obtain ⟨v, h1, h2⟩ := h 64 (by decide +kernel); rw [h1]; exact congrArg some h2
          have e65 : ac.tmps[65]? = some (.string ⟨l.toArray⟩) := by obtain ⟨v, h1, h2⟩ := h 65 (by decide +kernel); rw [h1]; exact congrArg some h2
          have e63 : ac.tmps[63]? = some (.bool false) := by obtain ⟨v, h1, h2⟩ := h 63 (by decide +kernel); rw [h1]; exact congrArg some h2
          clear h hsz hdf
          go_wp2_with ((go_at_call 29; refine (mnSays tb (by have := HSB.out; omega) l (by have := HN.out; omega) S' _ (nodeC kb mb zb pb Bb nb cb) (HVB3.out.keep hE)).mono ?_; rintro e w9 ⟨rfl, hb9⟩; rw [HQB.out]))
          exact ⟨_, rfl, rfl, hb9⟩
        · -- 18: t67 := pick t63 (const (Value.bool true)) t66 (6, False)
          intro ac wx hE hsz hdf h
          have e63 : ac.tmps[63]? = some (.bool false) := by obtain ⟨v, h1, h2⟩ := h 63 (by decide +kernel); rw [h1]; exact congrArg some h2
          have e66 : ac.tmps[66]? = some (.bool sb) := by obtain ⟨v, h1, h2⟩ := h 66 (by decide +kernel); rw [h1]; exact congrArg some h2
          have e55 : ac.tmps[55]? = some (.bool false) := by obtain ⟨v, h1, h2⟩ := h 55 (by decide +kernel); rw [h1]; exact congrArg some h2
          clear h hsz hdf
          go_wp2
          exact ⟨_, rfl, by simp, Ext.refl _⟩
        · -- 19: t68 := binOp BinOp.neq 4 t59 t67 4 (6, False)
          intro ac wx hE hsz hdf h
          have e59 : ac.tmps[59]? = some (.bool sb) := by obtain ⟨v, h1, h2⟩ := h 59 (by decide +kernel); rw [h1]; exact congrArg some h2
          have e67 : ac.tmps[67]? = some (.bool sb) := by obtain ⟨v, h1, h2⟩ := h 67 (by decide +kernel); rw [h1]; exact congrArg some h2
          have e55 : ac.tmps[55]? = some (.bool false) := by obtain ⟨v, h1, h2⟩ := h 55 (by decide +kernel); rw [h1]; exact congrArg some h2
          clear h hsz hdf
          go_wp2
          exact ⟨_, rfl, by simp, Ext.refl _⟩
        · -- 20: t69 := pick t55 (const (Value.bool true)) t68
          intro ac wx hE hsz hdf h
          have e55 : ac.tmps[55]? = some (.bool false) := by obtain ⟨v, h1, h2⟩ := h 55 (by decide +kernel); rw [h1]; exact congrArg some h2
          have e68 : ac.tmps[68]? = some (.bool false) := by obtain ⟨v, h1, h2⟩ := h 68 (by decide +kernel); rw [h1]; exact congrArg some h2
          clear h hsz hdf
          go_wp2
          exact ⟨_, rfl, by simp, Ext.refl _⟩
        · intro ac w9 hE hsz hdf h hrest
          obtain ⟨v0, s0, g0⟩ := h 0 _ rfl
          have e0 := g0 49 rfl
          obtain rfl : v0 = .slice (some ⟨gK, 0, none⟩) 2 2 := s0
          obtain ⟨v1, s1, g1⟩ := h 1 _ rfl
          have e1 := g1 50 rfl
          obtain rfl : v1 = .agg #[.int .i64 3, .int .i64 0, .bool false, .int .u64 0, .int .u64 0, .int .u64 0, .int .u64 0, .slice (some ⟨gK, 0, none⟩) 2 2] := s1
          obtain ⟨v2, s2, g2⟩ := h 2 _ rfl
          have e2 := g2 51 rfl
          obtain rfl : v2 = .string ⟨l.toArray⟩ := s2
          obtain ⟨v3, s3, g3⟩ := h 3 _ rfl
          have e3 := g3 52 rfl
          obtain rfl : v3 = .bool P := s3
          obtain ⟨v4, s4, g4⟩ := h 4 _ rfl
          have e4 := g4 53 rfl
          obtain rfl : v4 = .bool P := s4
          obtain ⟨v5, s5, g5⟩ := h 5 _ rfl
          have e5 := g5 54 rfl
          obtain rfl : v5 = .bool false := s5
          obtain ⟨v6, s6, g6⟩ := h 6 _ rfl
          have e6 := g6 55 rfl
          obtain rfl : v6 = .bool false := s6
          obtain ⟨v7, s7, g7⟩ := h 7 _ rfl
          have e7 := g7 56 rfl
          obtain rfl : v7 = .slice (some ⟨gK, 0, none⟩) 2 2 := s7
          obtain ⟨v8, s8, g8⟩ := h 8 _ rfl
          have e8 := g8 57 rfl
          obtain rfl : v8 = .agg #[.int .i64 4, .int .i64 0, .bool false, .int .u64 0, .int .u64 0, .int .u64 0, .int .u64 0, .slice (some ⟨gK, 0, none⟩) 2 2] := s8
          obtain ⟨v9, s9, g9⟩ := h 9 _ rfl
          have e9 := g9 58 rfl
          obtain rfl : v9 = .string ⟨l.toArray⟩ := s9
          obtain ⟨v10, s10, g10⟩ := h 10 _ rfl
          have e10 := g10 59 rfl
          obtain rfl : v10 = .bool sb := s10
          obtain ⟨v11, s11, g11⟩ := h 11 _ rfl
          have e11 := g11 60 rfl
          obtain rfl : v11 = .agg #[.int .i64 ka, .int .i64 ma, .bool za, .int .u64 (wd pa 0 : Nat), .int .u64 (wd pa 1 : Nat), .int .u64 (wd pa 2 : Nat), .int .u64 (wd pa 3 : Nat), .slice Ba na ca] := s11
          obtain ⟨v12, s12, g12⟩ := h 12 _ rfl
          have e12 := g12 61 rfl
          obtain rfl : v12 = .string ⟨l.toArray⟩ := s12
          obtain ⟨v13, s13, g13⟩ := h 13 _ rfl
          have e13 := g13 62 rfl
          obtain rfl : v13 = .bool false := s13
          obtain ⟨v14, s14, g14⟩ := h 14 _ rfl
          have e14 := g14 63 rfl
          obtain rfl : v14 = .bool false := s14
          obtain ⟨v15, s15, g15⟩ := h 15 _ rfl
          have e15 := g15 64 rfl
          obtain rfl : v15 = .agg #[.int .i64 kb, .int .i64 mb, .bool zb, .int .u64 (wd pb 0 : Nat), .int .u64 (wd pb 1 : Nat), .int .u64 (wd pb 2 : Nat), .int .u64 (wd pb 3 : Nat), .slice Bb nb cb] := s15
          obtain ⟨v16, s16, g16⟩ := h 16 _ rfl
          have e16 := g16 65 rfl
          obtain rfl : v16 = .string ⟨l.toArray⟩ := s16
          obtain ⟨v17, s17, g17⟩ := h 17 _ rfl
          have e17 := g17 66 rfl
          obtain rfl : v17 = .bool sb := s17
          obtain ⟨v18, s18, g18⟩ := h 18 _ rfl
          have e18 := g18 67 rfl
          obtain rfl : v18 = .bool sb := s18
          obtain ⟨v19, s19, g19⟩ := h 19 _ rfl
          have e19 := g19 68 rfl
          obtain rfl : v19 = .bool false := s19
          obtain ⟨v20, s20, g20⟩ := h 20 _ rfl
          have e20 := g20 69 rfl
          obtain rfl : v20 = .bool false := s20
          have ha := act_of [(49, .slice (some ⟨gK, 0, none⟩) 2 2), (50, .agg #[.int .i64 3, .int .i64 0, .bool false, .int .u64 0, .int .u64 0, .int .u64 0, .int .u64 0, .slice (some ⟨gK, 0, none⟩) 2 2]), (51, .string ⟨l.toArray⟩), (52, .bool P), (53, .bool P), (54, .bool false), (55, .bool false), (56, .slice (some ⟨gK, 0, none⟩) 2 2), (57, .agg #[.int .i64 4, .int .i64 0, .bool false, .int .u64 0, .int .u64 0, .int .u64 0, .int .u64 0, .slice (some ⟨gK, 0, none⟩) 2 2]), (58, .string ⟨l.toArray⟩), (59, .bool sb), (60, .agg #[.int .i64 ka, .int .i64 ma, .bool za, .int .u64 (wd pa 0 : Nat), .int .u64 (wd pa 1 : Nat), .int .u64 (wd pa 2 : Nat), .int .u64 (wd pa 3 : Nat), .slice Ba na ca]), (61, .string ⟨l.toArray⟩), (62, .bool false), (63, .bool false), (64, .agg #[.int .i64 kb, .int .i64 mb, .bool zb, .int .u64 (wd pb 0 : Nat), .int .u64 (wd pb 1 : Nat), .int .u64 (wd pb 2 : Nat), .int .u64 (wd pb 3 : Nat), .slice Bb nb cb]), (65, .string ⟨l.toArray⟩), (66, .bool sb), (67, .bool sb), (68, .bool false), (69, .bool false)] rfl hsz hdf (by intro p hp; simp only [List.mem_cons, List.not_mem_nil, or_false] at hp; rcases hp with rfl | rfl | rfl | rfl | rfl | rfl | rfl | rfl | rfl | rfl | rfl | rfl | rfl | rfl | rfl | rfl | rfl | rfl | rfl | rfl | rfl <;> first | exact e0 | exact e1 | exact e2 | exact e3 | exact e4 | exact e5 | exact e6 | exact e7 | exact e8 | exact e9 | exact e10 | exact e11 | exact e12 | exact e13 | exact e14 | exact e15 | exact e16 | exact e17 | exact e18 | exact e19 | exact e20) hrest
          clear h hrest hsz hdf e0 e1 e2 e3 e4 e5 e6 e7 e8 e9 e10 e11 e12 e13 e14 e15 e16 e17 e18 e19 e20 g0 g1 g2 g3 g4 g5 g6 g7 g8 g9 g10 g11 g12 g13 g14 g15 g16 g17 g18 g19 g20
          subst ha
          simp only [List.foldl_cons, List.foldl_nil, Act.put, List.setIfInBounds_toArray, List.set_cons_succ, List.set_cons_zero]
          cases hl0 : ((l.length : Int) == 0)
          rotate_left
          · have HO2 := Lib.hid (show ∀ z, saysA (.node 7 0 z noP [ta]) l = true from fun z => by rw [HO.out z, hl0]; rfl)
            have HXX := Lib.hid (Ext.trans HX3.out hE)
            have HBA4 := Lib.hid (HBA3.out.keep hE)
            have HVA4 := Lib.hid (HVA3.out.keep hE)
            have HN74 := Lib.hid (fun z => (HN7.out z).keep hE)
            clear HBA3 HVA3 HN7 HO HBB3 HVB3 HN3 HN4 HX3 hE
            generalize w9 = wf at *
            go_wp2_with (first
              | (have := h1x; go_at_call 29; refine (mnSays (.node 7 0 true noP [ta]) (by have := HSA.out; simp only [size_node, sizeL]; omega) l (by have := HN.out; omega) _ _ [.int .i64 7, .int .i64 0, .bool true, .int .u64 0, .int .u64 0, .int .u64 0, .int .u64 0, .slice (some ⟨gK, 0, none⟩) 1 2] (((HN74.out true).keep h1x))).mono ?_; rintro e w12 ⟨rfl, h2x⟩; rw [HO2.out])
              | (go_at_call 29; refine (mnSays (.node 7 0 false noP [ta]) (by have := HSA.out; simp only [size_node, sizeL]; omega) l (by have := HN.out; omega) _ _ [.int .i64 7, .int .i64 0, .bool false, .int .u64 0, .int .u64 0, .int .u64 0, .int .u64 0, .slice (some ⟨gK, 0, none⟩) 1 2] ((HN74.out false))).mono ?_; rintro e w11 ⟨rfl, h1x⟩; rw [HO2.out]))
            go_ret
            exact ⟨by simp, Ext.trans HXX.out (Ext.trans h1x h2x)⟩

          · have HO2 := Lib.hid (show ∀ z, saysA (.node 7 0 z noP [ta]) l = false from fun z => by rw [HO.out z, hl0]; rfl)
            have HXX := Lib.hid (Ext.trans HX3.out hE)
            have HBA4 := Lib.hid (HBA3.out.keep hE)
            have HVA4 := Lib.hid (HVA3.out.keep hE)
            have HN74 := Lib.hid (fun z => (HN7.out z).keep hE)
            clear HBA3 HVA3 HN7 HO HBB3 HVB3 HN3 HN4 HX3 hE
            generalize w9 = wf at *
            go_wp2_with (first
              | (have := h3x; go_at_call 29; refine (mnSays ta (by have := HSA.out; omega) l (by have := HN.out; omega) S _ (nodeC ka ma za pa Ba na ca) ((((HVA4.out.keep h1x).keep h2x).keep h3x))).mono ?_; rintro e w14 ⟨rfl, h4x⟩; rw [HQA.out])
              | (have := h2x; go_at_call 29; refine (mnSays (.node 7 0 true noP [ta]) (by have := HSA.out; simp only [size_node, sizeL]; omega) l (by have := HN.out; omega) _ _ [.int .i64 7, .int .i64 0, .bool true, .int .u64 0, .int .u64 0, .int .u64 0, .int .u64 0, .slice (some ⟨gK, 0, none⟩) 1 2] ((((HN74.out true).keep h1x).keep h2x))).mono ?_; rintro e w13 ⟨rfl, h3x⟩; rw [HO2.out]; obtain ⟨q0, q1, q2, q3, q4, q5, q6, q7⟩ := ((((HBA4.out.keep h1x).keep h2x).keep h3x)).cells)
              | (have := h1x; go_at_call 29; refine (mnSays ta (by have := HSA.out; omega) l (by have := HN.out; omega) S _ (nodeC ka ma za pa Ba na ca) ((HVA4.out.keep h1x))).mono ?_; rintro e w12 ⟨rfl, h2x⟩; rw [HQA.out])
              | (go_at_call 29; refine (mnSays (.node 7 0 false noP [ta]) (by have := HSA.out; simp only [size_node, sizeL]; omega) l (by have := HN.out; omega) _ _ [.int .i64 7, .int .i64 0, .bool false, .int .u64 0, .int .u64 0, .int .u64 0, .int .u64 0, .slice (some ⟨gK, 0, none⟩) 1 2] ((HN74.out false))).mono ?_; rintro e w11 ⟨rfl, h1x⟩; rw [HO2.out]; obtain ⟨q0, q1, q2, q3, q4, q5, q6, q7⟩ := ((HBA4.out.keep h1x)).cells))
            go_ret
            exact ⟨by simp, Ext.trans HXX.out (Ext.trans h1x (Ext.trans h2x (Ext.trans h3x h4x)))⟩
      · have HQA := Lib.hid hsa
        have HA4' := Lib.hid (HA4.out)
        rw [hsa, Bool.true_or] at HA4
        rw [hsa] at HO
        clear hsa HA4'
        refine wp_region_dag (E := Ext) (w0 := wq) (Φ := fun i v w => match i with | 0 => (v = .slice (some ⟨gK, 0, none⟩) 2 2) | 1 => (v = .agg #[.int .i64 3, .int .i64 0, .bool false, .int .u64 0, .int .u64 0, .int .u64 0, .int .u64 0, .slice (some ⟨gK, 0, none⟩) 2 2]) | 2 => (v = .string ⟨l.toArray⟩) | 3 => (v = .bool P) | 4 => (v = .bool P) | 5 => (v = .bool false) | 6 => (v = .bool false) | 7 => (v = .slice (some ⟨gK, 0, none⟩) 2 2) | 8 => (v = .agg #[.int .i64 4, .int .i64 0, .bool false, .int .u64 0, .int .u64 0, .int .u64 0, .int .u64 0, .slice (some ⟨gK, 0, none⟩) 2 2]) | 9 => (v = .string ⟨l.toArray⟩) | 10 => (v = .bool true) | 11 => (v = .agg #[.int .i64 ka, .int .i64 ma, .bool za, .int .u64 (wd pa 0 : Nat), .int .u64 (wd pa 1 : Nat), .int .u64 (wd pa 2 : Nat), .int .u64 (wd pa 3 : Nat), .slice Ba na ca]) | 12 => (v = .string ⟨l.toArray⟩) | 13 => (v = .bool true) | 14 => (v = .bool true) | 15 => (v = undef) | 16 => (v = undef) | 17 => (v = undef) | 18 => (v = .bool true) | 19 => (v = .bool false) | 20 => (v = .bool false) | _ => True) (show Tryd.prog.follows .mixedOrders = true from Checked.mixed Tryd.checked) 100 rfl (by decide +kernel) ?_ ((Below.refl _ _).drew) ?_ ⟨?_, ?_, ?_, ?_, ?_, ?_, ?_, ?_, ?_, ?_, ?_, ?_, ?_, ?_, ?_, ?_, ?_, ?_, ?_, ?_, ?_, trivial⟩ ?_
        · intro i v w w' h hE
          match i, h with
          | 0, h => exact h
          | 1, h => exact h
          | 2, h => exact h
          | 3, h => exact h
          | 4, h => exact h
          | 5, h => exact h
          | 6, h => exact h
          | 7, h => exact h
          | 8, h => exact h
          | 9, h => exact h
          | 10, h => exact h
          | 11, h => exact h
          | 12, h => exact h
          | 13, h => exact h
          | 14, h => exact h
          | 15, h => exact h
          | 16, h => exact h
          | 17, h => exact h
          | 18, h => exact h
          | 19, h => exact h
          | 20, h => exact h
          | _ + 21, _ => trivial
        · exact fun w w' h h' => h.trans h'
        · -- 0: t49 := move t9
          intro ac wx hE hsz hdf h
          have e9 : ac.tmps[9]? = some (.slice (some ⟨gK, 0, none⟩) 2 2) := by obtain ⟨v, h1, h2⟩ := h 9 (by decide +kernel); exact h1.trans (h2.symm.trans rfl)
          clear h hsz hdf
          go_wp2
          exact ⟨_, rfl, rfl, Ext.refl _⟩
        · -- 1: t50 := build 27 #[(0, const (3:i64)), (4, t49)]
          intro ac wx hE hsz hdf h
          have e49 : ac.tmps[49]? = some (.slice (some ⟨gK, 0, none⟩) 2 2) := by obtain ⟨v, h1, h2⟩ := h 49 (by decide +kernel); rw [h1]; exact congrArg some h2
          clear h hsz hdf
          go_wp2
          exact ⟨_, rfl, rfl, Ext.refl _⟩
        · -- 2: t51 := move t2
          intro ac wx hE hsz hdf h
          have e2 : ac.tmps[2]? = some (.string ⟨l.toArray⟩) := by obtain ⟨v, h1, h2⟩ := h 2 (by decide +kernel); exact h1.trans (h2.symm.trans rfl)
          clear h hsz hdf
          go_wp2
          exact ⟨_, rfl, rfl, Ext.refl _⟩
        · -- 3: t52 := call { value (Operand.func 29), args := #[t50, t51], argTypes := #[27, 9] }
          intro ac wx hE hsz hdf h
          have e50 : ac.tmps[50]? = some (.agg #[.int .i64 3, .int .i64 0, .bool false, .int .u64 0, .int .u64 0, .int .u64 0, .int .u64 0, .slice (some ⟨gK, 0, none⟩) 2 2]) := by obtain ⟨v, h1, h2⟩ := h 50 (by decide +kernel); rw [h1]; exact congrArg some h2
          have e51 : ac.tmps[51]? = some (.string ⟨l.toArray⟩) := by obtain ⟨v, h1, h2⟩ := h 51 (by decide +kernel); rw [h1]; exact congrArg some h2
          clear h hsz hdf
          go_wp2_with ((go_at_call 29; refine (mnSays (.node 3 0 false noP [ta, tb]) (by have := HSA.out; have := HSB.out; simp only [size_node, sizeL]; omega) l (by have := HN.out; omega) _ _ [.int .i64 3, .int .i64 0, .bool false, .int .u64 0, .int .u64 0, .int .u64 0, .int .u64 0, .slice (some ⟨gK, 0, none⟩) 2 2] (HN3.out.keep hE)).mono ?_; rintro e w9 ⟨rfl, hb9⟩; rw [HC.out]))
          exact ⟨_, rfl, rfl, hb9⟩
        · -- 4: t53 := move t7
          intro ac wx hE hsz hdf h
          have e7 : ac.tmps[7]? = some (.bool P) := by obtain ⟨v, h1, h2⟩ := h 7 (by decide +kernel); exact h1.trans (h2.symm.trans rfl)
          clear h hsz hdf
          go_wp2
          exact ⟨_, rfl, rfl, Ext.refl _⟩
        · -- 5: t54 := binOp BinOp.neq 4 t52 t53 4
          intro ac wx hE hsz hdf h
          have e52 : ac.tmps[52]? = some (.bool P) := by obtain ⟨v, h1, h2⟩ := h 52 (by decide +kernel); rw [h1]; exact congrArg some h2
          have e53 : ac.tmps[53]? = some (.bool P) := by obtain ⟨v, h1, h2⟩ := h 53 (by decide +kernel); rw [h1]; exact congrArg some h2
          clear h hsz hdf
          go_wp2
          exact ⟨_, rfl, by simp, Ext.refl _⟩
        · -- 6: t55 := move t54
          intro ac wx hE hsz hdf h
          have e54 : ac.tmps[54]? = some (.bool false) := by obtain ⟨v, h1, h2⟩ := h 54 (by decide +kernel); rw [h1]; exact congrArg some h2
          clear h hsz hdf
          go_wp2
          exact ⟨_, rfl, rfl, Ext.refl _⟩
        · -- 7: t56 := move t9 (6, False)
          intro ac wx hE hsz hdf h
          have e9 : ac.tmps[9]? = some (.slice (some ⟨gK, 0, none⟩) 2 2) := by obtain ⟨v, h1, h2⟩ := h 9 (by decide +kernel); exact h1.trans (h2.symm.trans rfl)
          have e55 : ac.tmps[55]? = some (.bool false) := by obtain ⟨v, h1, h2⟩ := h 55 (by decide +kernel); rw [h1]; exact congrArg some h2
          clear h hsz hdf
          go_wp2
          exact ⟨_, rfl, rfl, Ext.refl _⟩
        · -- 8: t57 := build 27 #[(0, const (4:i64)), (4, t56)] (6, False)
          intro ac wx hE hsz hdf h
          have e56 : ac.tmps[56]? = some (.slice (some ⟨gK, 0, none⟩) 2 2) := by obtain ⟨v, h1, h2⟩ := h 56 (by decide +kernel); rw [h1]; exact congrArg some h2
          have e55 : ac.tmps[55]? = some (.bool false) := by obtain ⟨v, h1, h2⟩ := h 55 (by decide +kernel); rw [h1]; exact congrArg some h2
          clear h hsz hdf
          go_wp2
          exact ⟨_, rfl, rfl, Ext.refl _⟩
        · -- 9: t58 := move t2 (6, False)
          intro ac wx hE hsz hdf h
          have e2 : ac.tmps[2]? = some (.string ⟨l.toArray⟩) := by obtain ⟨v, h1, h2⟩ := h 2 (by decide +kernel); exact h1.trans (h2.symm.trans rfl)
          have e55 : ac.tmps[55]? = some (.bool false) := by obtain ⟨v, h1, h2⟩ := h 55 (by decide +kernel); rw [h1]; exact congrArg some h2
          clear h hsz hdf
          go_wp2
          exact ⟨_, rfl, rfl, Ext.refl _⟩
        · -- 10: t59 := call { value (Operand.func 29), args := #[t57, t58], argTypes := #[27, 9] } (6, False)
          intro ac wx hE hsz hdf h
          have e57 : ac.tmps[57]? = some (.agg #[.int .i64 4, .int .i64 0, .bool false, .int .u64 0, .int .u64 0, .int .u64 0, .int .u64 0, .slice (some ⟨gK, 0, none⟩) 2 2]) := by obtain ⟨v, h1, h2⟩ := h 57 (by decide +kernel); rw [h1]; exact congrArg some h2
          have e58 : ac.tmps[58]? = some (.string ⟨l.toArray⟩) := by obtain ⟨v, h1, h2⟩ := h 58 (by decide +kernel); rw [h1]; exact congrArg some h2
          have e55 : ac.tmps[55]? = some (.bool false) := by obtain ⟨v, h1, h2⟩ := h 55 (by decide +kernel); rw [h1]; exact congrArg some h2
          clear h hsz hdf
          go_wp2_with ((go_at_call 29; refine (mnSays (.node 4 0 false noP [ta, tb]) (by have := HSA.out; have := HSB.out; simp only [size_node, sizeL]; omega) l (by have := HN.out; omega) _ _ [.int .i64 4, .int .i64 0, .bool false, .int .u64 0, .int .u64 0, .int .u64 0, .int .u64 0, .slice (some ⟨gK, 0, none⟩) 2 2] (HN4.out.keep hE)).mono ?_; rintro e w9 ⟨rfl, hb9⟩; rw [HA4.out]))
          exact ⟨_, rfl, rfl, hb9⟩
        · -- 11: t60 := load 27 t3 (6, False)
          intro ac wx hE hsz hdf h
          have e3 : ac.tmps[3]? = some (.pointer (some ⟨gA, 0, none⟩)) := by obtain ⟨v, h1, h2⟩ := h 3 (by decide +kernel); exact h1.trans (h2.symm.trans rfl)
          have e55 : ac.tmps[55]? = some (.bool false) := by obtain ⟨v, h1, h2⟩ := h 55 (by decide +kernel); rw [h1]; exact congrArg some h2
          clear h hsz hdf
          obtain ⟨y0, y1, y2, y3, y4, y5, y6, y7⟩ := (HBA3.out.keep hE).cells
          go_wp2
          exact ⟨_, rfl, rfl, Ext.refl _⟩
        · -- 12: t61 := move t2 (6, False)
          intro ac wx hE hsz hdf h
          have e2 : ac.tmps[2]? = some (.string ⟨l.toArray⟩) := by obtain ⟨v, h1, h2⟩ := h 2 (by decide +kernel); exact h1.trans (h2.symm.trans rfl)
          have e55 : ac.tmps[55]? = some (.bool false) := by obtain ⟨v, h1, h2⟩ := h 55 (by decide +kernel); rw [h1]; exact congrArg some h2
          clear h hsz hdf
          go_wp2
          exact ⟨_, rfl, rfl, Ext.refl _⟩
        · -- 13: t62 := call { value (Operand.func 29), args := #[t60, t61], argTypes := #[27, 9] } (6, False)
          intro ac wx hE hsz hdf h
          have e60 : ac.tmps[60]? = some (.agg #[.int .i64 ka, .int .i64 ma, .bool za, .int .u64 (wd pa 0 : Nat), .int .u64 (wd pa 1 : Nat), .int .u64 (wd pa 2 : Nat), .int .u64 (wd pa 3 : Nat), .slice Ba na ca]) := by obtain ⟨v, h1, h2⟩ := h 60 (by decide +kernel); rw [h1]; exact congrArg some h2
          have e61 : ac.tmps[61]? = some (.string ⟨l.toArray⟩) := by obtain ⟨v, h1, h2⟩ := h 61 (by decide +kernel); rw [h1]; exact congrArg some h2
          have e55 : ac.tmps[55]? = some (.bool false) := by obtain ⟨v, h1, h2⟩ := h 55 (by decide +kernel); rw [h1]; exact congrArg some h2
          clear h hsz hdf
          go_wp2_with ((go_at_call 29; refine (mnSays ta (by have := HSA.out; omega) l (by have := HN.out; omega) S _ (nodeC ka ma za pa Ba na ca) (HVA3.out.keep hE)).mono ?_; rintro e w9 ⟨rfl, hb9⟩; rw [HQA.out]))
          exact ⟨_, rfl, rfl, hb9⟩
        · -- 14: t63 := move t62 (6, False)
          intro ac wx hE hsz hdf h
          have e62 : ac.tmps[62]? = some (.bool true) := by obtain ⟨v, h1, h2⟩ := h 62 (by decide +kernel); rw [h1]; exact congrArg some h2
          have e55 : ac.tmps[55]? = some (.bool false) := by obtain ⟨v, h1, h2⟩ := h 55 (by decide +kernel); rw [h1]; exact congrArg some h2
          clear h hsz hdf
          go_wp2
          exact ⟨_, rfl, rfl, Ext.refl _⟩
        · -- 15: t64 := load 27 t4 (14, False)
          intro ac wx hE hsz hdf h
          have e63 : ac.tmps[63]? = some (.bool true) := by obtain ⟨v, h1, h2⟩ := h 63 (by decide +kernel); rw [h1]; exact congrArg some h2
          clear h hsz hdf
          go_wp2
          exact ⟨_, rfl, rfl, Ext.refl _⟩
        · -- 16: t65 := move t2 (14, False)
          intro ac wx hE hsz hdf h
          have e63 : ac.tmps[63]? = some (.bool true) := by obtain ⟨v, h1, h2⟩ := h 63 (by decide +kernel); rw [h1]; exact congrArg some h2
          clear h hsz hdf
          go_wp2
          exact ⟨_, rfl, rfl, Ext.refl _⟩
        · -- 17: t66 := call { value (Operand.func 29), args := #[t64, t65], argTypes := #[27, 9] } (14, False)
          intro ac wx hE hsz hdf h
          have e63 : ac.tmps[63]? = some (.bool true) := by obtain ⟨v, h1, h2⟩ := h 63 (by decide +kernel); rw [h1]; exact congrArg some h2
          clear h hsz hdf
          go_wp2
          exact ⟨_, rfl, rfl, Ext.refl _⟩
        · -- 18: t67 := pick t63 (const (Value.bool true)) t66 (6, False)
          intro ac wx hE hsz hdf h
          have e63 : ac.tmps[63]? = some (.bool true) := by obtain ⟨v, h1, h2⟩ := h 63 (by decide +kernel); rw [h1]; exact congrArg some h2
          have e66 : ac.tmps[66]? = some (.tuple #[]) := by obtain ⟨v, h1, h2⟩ := h 66 (by decide +kernel); rw [h1]; exact congrArg some h2
          have e55 : ac.tmps[55]? = some (.bool false) := by obtain ⟨v, h1, h2⟩ := h 55 (by decide +kernel); rw [h1]; exact congrArg some h2
          clear h hsz hdf
          go_wp2
          exact ⟨_, rfl, by simp, Ext.refl _⟩
        · -- 19: t68 := binOp BinOp.neq 4 t59 t67 4 (6, False)
          intro ac wx hE hsz hdf h
          have e59 : ac.tmps[59]? = some (.bool true) := by obtain ⟨v, h1, h2⟩ := h 59 (by decide +kernel); rw [h1]; exact congrArg some h2
          have e67 : ac.tmps[67]? = some (.bool true) := by obtain ⟨v, h1, h2⟩ := h 67 (by decide +kernel); rw [h1]; exact congrArg some h2
          have e55 : ac.tmps[55]? = some (.bool false) := by obtain ⟨v, h1, h2⟩ := h 55 (by decide +kernel); rw [h1]; exact congrArg some h2
          clear h hsz hdf
          go_wp2
          exact ⟨_, rfl, by simp, Ext.refl _⟩
        · -- 20: t69 := pick t55 (const (Value.bool true)) t68
          intro ac wx hE hsz hdf h
          have e55 : ac.tmps[55]? = some (.bool false) := by obtain ⟨v, h1, h2⟩ := h 55 (by decide +kernel); rw [h1]; exact congrArg some h2
          have e68 : ac.tmps[68]? = some (.bool false) := by obtain ⟨v, h1, h2⟩ := h 68 (by decide +kernel); rw [h1]; exact congrArg some h2
          clear h hsz hdf
          go_wp2
          exact ⟨_, rfl, by simp, Ext.refl _⟩
        · intro ac w9 hE hsz hdf h hrest
          obtain ⟨v0, s0, g0⟩ := h 0 _ rfl
          have e0 := g0 49 rfl
          obtain rfl : v0 = .slice (some ⟨gK, 0, none⟩) 2 2 := s0
          obtain ⟨v1, s1, g1⟩ := h 1 _ rfl
          have e1 := g1 50 rfl
          obtain rfl : v1 = .agg #[.int .i64 3, .int .i64 0, .bool false, .int .u64 0, .int .u64 0, .int .u64 0, .int .u64 0, .slice (some ⟨gK, 0, none⟩) 2 2] := s1
          obtain ⟨v2, s2, g2⟩ := h 2 _ rfl
          have e2 := g2 51 rfl
          obtain rfl : v2 = .string ⟨l.toArray⟩ := s2
          obtain ⟨v3, s3, g3⟩ := h 3 _ rfl
          have e3 := g3 52 rfl
          obtain rfl : v3 = .bool P := s3
          obtain ⟨v4, s4, g4⟩ := h 4 _ rfl
          have e4 := g4 53 rfl
          obtain rfl : v4 = .bool P := s4
          obtain ⟨v5, s5, g5⟩ := h 5 _ rfl
          have e5 := g5 54 rfl
          obtain rfl : v5 = .bool false := s5
          obtain ⟨v6, s6, g6⟩ := h 6 _ rfl
          have e6 := g6 55 rfl
          obtain rfl : v6 = .bool false := s6
          obtain ⟨v7, s7, g7⟩ := h 7 _ rfl
          have e7 := g7 56 rfl
          obtain rfl : v7 = .slice (some ⟨gK, 0, none⟩) 2 2 := s7
          obtain ⟨v8, s8, g8⟩ := h 8 _ rfl
          have e8 := g8 57 rfl
          obtain rfl : v8 = .agg #[.int .i64 4, .int .i64 0, .bool false, .int .u64 0, .int .u64 0, .int .u64 0, .int .u64 0, .slice (some ⟨gK, 0, none⟩) 2 2] := s8
          obtain ⟨v9, s9, g9⟩ := h 9 _ rfl
          have e9 := g9 58 rfl
          obtain rfl : v9 = .string ⟨l.toArray⟩ := s9
          obtain ⟨v10, s10, g10⟩ := h 10 _ rfl
          have e10 := g10 59 rfl
          obtain rfl : v10 = .bool true := s10
          obtain ⟨v11, s11, g11⟩ := h 11 _ rfl
          have e11 := g11 60 rfl
          obtain rfl : v11 = .agg #[.int .i64 ka, .int .i64 ma, .bool za, .int .u64 (wd pa 0 : Nat), .int .u64 (wd pa 1 : Nat), .int .u64 (wd pa 2 : Nat), .int .u64 (wd pa 3 : Nat), .slice Ba na ca] := s11
          obtain ⟨v12, s12, g12⟩ := h 12 _ rfl
          have e12 := g12 61 rfl
          obtain rfl : v12 = .string ⟨l.toArray⟩ := s12
          obtain ⟨v13, s13, g13⟩ := h 13 _ rfl
          have e13 := g13 62 rfl
          obtain rfl : v13 = .bool true := s13
          obtain ⟨v14, s14, g14⟩ := h 14 _ rfl
          have e14 := g14 63 rfl
          obtain rfl : v14 = .bool true := s14
          obtain ⟨v15, s15, g15⟩ := h 15 _ rfl
          have e15 := g15 64 rfl
          obtain rfl : v15 = undef := s15
          obtain ⟨v16, s16, g16⟩ := h 16 _ rfl
          have e16 := g16 65 rfl
          obtain rfl : v16 = undef := s16
          obtain ⟨v17, s17, g17⟩ := h 17 _ rfl
          have e17 := g17 66 rfl
          obtain rfl : v17 = undef := s17
          obtain ⟨v18, s18, g18⟩ := h 18 _ rfl
          have e18 := g18 67 rfl
          obtain rfl : v18 = .bool true := s18
          obtain ⟨v19, s19, g19⟩ := h 19 _ rfl
          have e19 := g19 68 rfl
          obtain rfl : v19 = .bool false := s19
          obtain ⟨v20, s20, g20⟩ := h 20 _ rfl
          have e20 := g20 69 rfl
          obtain rfl : v20 = .bool false := s20
          have ha := act_of [(49, .slice (some ⟨gK, 0, none⟩) 2 2), (50, .agg #[.int .i64 3, .int .i64 0, .bool false, .int .u64 0, .int .u64 0, .int .u64 0, .int .u64 0, .slice (some ⟨gK, 0, none⟩) 2 2]), (51, .string ⟨l.toArray⟩), (52, .bool P), (53, .bool P), (54, .bool false), (55, .bool false), (56, .slice (some ⟨gK, 0, none⟩) 2 2), (57, .agg #[.int .i64 4, .int .i64 0, .bool false, .int .u64 0, .int .u64 0, .int .u64 0, .int .u64 0, .slice (some ⟨gK, 0, none⟩) 2 2]), (58, .string ⟨l.toArray⟩), (59, .bool true), (60, .agg #[.int .i64 ka, .int .i64 ma, .bool za, .int .u64 (wd pa 0 : Nat), .int .u64 (wd pa 1 : Nat), .int .u64 (wd pa 2 : Nat), .int .u64 (wd pa 3 : Nat), .slice Ba na ca]), (61, .string ⟨l.toArray⟩), (62, .bool true), (63, .bool true), (64, undef), (65, undef), (66, undef), (67, .bool true), (68, .bool false), (69, .bool false)] rfl hsz hdf (by intro p hp; simp only [List.mem_cons, List.not_mem_nil, or_false] at hp; rcases hp with rfl | rfl | rfl | rfl | rfl | rfl | rfl | rfl | rfl | rfl | rfl | rfl | rfl | rfl | rfl | rfl | rfl | rfl | rfl | rfl | rfl <;> first | exact e0 | exact e1 | exact e2 | exact e3 | exact e4 | exact e5 | exact e6 | exact e7 | exact e8 | exact e9 | exact e10 | exact e11 | exact e12 | exact e13 | exact e14 | exact e15 | exact e16 | exact e17 | exact e18 | exact e19 | exact e20) hrest
          clear h hrest hsz hdf e0 e1 e2 e3 e4 e5 e6 e7 e8 e9 e10 e11 e12 e13 e14 e15 e16 e17 e18 e19 e20 g0 g1 g2 g3 g4 g5 g6 g7 g8 g9 g10 g11 g12 g13 g14 g15 g16 g17 g18 g19 g20
          subst ha
          simp only [List.foldl_cons, List.foldl_nil, Act.put, List.setIfInBounds_toArray, List.set_cons_succ, List.set_cons_zero]
          cases hl0 : ((l.length : Int) == 0)
          rotate_left
          · have HO2 := Lib.hid (show ∀ z, saysA (.node 7 0 z noP [ta]) l = true from fun z => by rw [HO.out z, hl0]; rfl)
            have HXX := Lib.hid (Ext.trans HX3.out hE)
            have HBA4 := Lib.hid (HBA3.out.keep hE)
            have HVA4 := Lib.hid (HVA3.out.keep hE)
            have HN74 := Lib.hid (fun z => (HN7.out z).keep hE)
            clear HBA3 HVA3 HN7 HO HBB3 HVB3 HN3 HN4 HX3 hE
            generalize w9 = wf at *
            go_wp2_with (first
              | (have := h1x; go_at_call 29; refine (mnSays (.node 7 0 true noP [ta]) (by have := HSA.out; simp only [size_node, sizeL]; omega) l (by have := HN.out; omega) _ _ [.int .i64 7, .int .i64 0, .bool true, .int .u64 0, .int .u64 0, .int .u64 0, .int .u64 0, .slice (some ⟨gK, 0, none⟩) 1 2] (((HN74.out true).keep h1x))).mono ?_; rintro e w12 ⟨rfl, h2x⟩; rw [HO2.out])
              | (go_at_call 29; refine (mnSays (.node 7 0 false noP [ta]) (by have := HSA.out; simp only [size_node, sizeL]; omega) l (by have := HN.out; omega) _ _ [.int .i64 7, .int .i64 0, .bool false, .int .u64 0, .int .u64 0, .int .u64 0, .int .u64 0, .slice (some ⟨gK, 0, none⟩) 1 2] ((HN74.out false))).mono ?_; rintro e w11 ⟨rfl, h1x⟩; rw [HO2.out]))
            go_ret
            exact ⟨by simp, Ext.trans HXX.out (Ext.trans h1x h2x)⟩

          · have HO2 := Lib.hid (show ∀ z, saysA (.node 7 0 z noP [ta]) l = true from fun z => by rw [HO.out z, hl0]; rfl)
            have HXX := Lib.hid (Ext.trans HX3.out hE)
            have HBA4 := Lib.hid (HBA3.out.keep hE)
            have HVA4 := Lib.hid (HVA3.out.keep hE)
            have HN74 := Lib.hid (fun z => (HN7.out z).keep hE)
            clear HBA3 HVA3 HN7 HO HBB3 HVB3 HN3 HN4 HX3 hE
            generalize w9 = wf at *
            go_wp2_with (first
              | (have := h3x; go_at_call 29; refine (mnSays ta (by have := HSA.out; omega) l (by have := HN.out; omega) S _ (nodeC ka ma za pa Ba na ca) ((((HVA4.out.keep h1x).keep h2x).keep h3x))).mono ?_; rintro e w14 ⟨rfl, h4x⟩; rw [HQA.out])
              | (have := h2x; go_at_call 29; refine (mnSays (.node 7 0 true noP [ta]) (by have := HSA.out; simp only [size_node, sizeL]; omega) l (by have := HN.out; omega) _ _ [.int .i64 7, .int .i64 0, .bool true, .int .u64 0, .int .u64 0, .int .u64 0, .int .u64 0, .slice (some ⟨gK, 0, none⟩) 1 2] ((((HN74.out true).keep h1x).keep h2x))).mono ?_; rintro e w13 ⟨rfl, h3x⟩; rw [HO2.out]; obtain ⟨q0, q1, q2, q3, q4, q5, q6, q7⟩ := ((((HBA4.out.keep h1x).keep h2x).keep h3x)).cells)
              | (have := h1x; go_at_call 29; refine (mnSays ta (by have := HSA.out; omega) l (by have := HN.out; omega) S _ (nodeC ka ma za pa Ba na ca) ((HVA4.out.keep h1x))).mono ?_; rintro e w12 ⟨rfl, h2x⟩; rw [HQA.out])
              | (go_at_call 29; refine (mnSays (.node 7 0 false noP [ta]) (by have := HSA.out; simp only [size_node, sizeL]; omega) l (by have := HN.out; omega) _ _ [.int .i64 7, .int .i64 0, .bool false, .int .u64 0, .int .u64 0, .int .u64 0, .int .u64 0, .slice (some ⟨gK, 0, none⟩) 1 2] ((HN74.out false))).mono ?_; rintro e w11 ⟨rfl, h1x⟩; rw [HO2.out]; obtain ⟨q0, q1, q2, q3, q4, q5, q6, q7⟩ := ((HBA4.out.keep h1x)).cells))
            go_ret
            exact ⟨by simp, Ext.trans HXX.out (Ext.trans h1x (Ext.trans h2x (Ext.trans h3x h4x)))⟩
end Go.Proofs.YtnkhiohopcadmaaDoor
