/- What trees say, by the document's definition: walked. -/
import Derived.Test.YtnkhiohopcadmaaDoorMn1
import Derived.Test.YtnkhiohopcadmaaDoorTgS
import Derived.Deep.LoopGhost
import Derived.WalkMore
namespace Go.Proofs.YtnkhiohopcadmaaDoor
open Go Go.RowKit

noncomputable def decB (P : Prop) : Bool := @decide P (Classical.propDecidable _)
theorem decB_iff {P : Prop} : decB P = true ↔ P := by unfold decB; exact @decide_eq_true_iff _ (Classical.propDecidable _)
theorem decB_not {P : Prop} : decB P = false ↔ ¬ P := by
  constructor
  · intro h hp; rw [decB_iff.2 hp] at h; cases h
  · intro h
    cases e : decB P
    · rfl
    · exact absurd (decB_iff.1 e) h
theorem decB_congr {P Q : Prop} (h : P ↔ Q) : decB P = decB Q := by rw [Bool.eq_iff_iff, decB_iff, decB_iff]; exact h
theorem decB_or {P Q : Prop} : decB (P ∨ Q) = (decB P || decB Q) := by rw [Bool.eq_iff_iff, Bool.or_eq_true, decB_iff, decB_iff, decB_iff]
theorem says_dec (t : T) (l : List UInt8) : saysB t l = decB (Lang t l) := rfl
/-- What Says answers of one tree. -/
def SaysD (t : T) : Prop := ∀ l : List UInt8, l.length ≤ 1000000 → ∀ S w v, DNodeV S w t v →
  Calls Tryd.prog 30 #[.agg v.toArray, .string ⟨l.toArray⟩] w fun e w' => e = .returned (.bool (decB (Lang t l))) ∧ Ext w w'
theorem lang_cat_at {t : T} {ts : List T} {l : List UInt8} : LangCat (t :: ts) l ↔ ∃ i, i ≤ l.length ∧ Lang t (l.take i) ∧ LangCat ts (l.drop i) := by
  simp only [LangCat]
  constructor
  · rintro ⟨x, y, rfl, hx, hy⟩
    exact ⟨x.length, by simp, by simpa using hx, by simpa using hy⟩
  · rintro ⟨i, hi, hx, hy⟩
    exact ⟨l.take i, l.drop i, (List.take_append_drop i l).symm, hx, hy⟩
theorem plus_at {L : List UInt8 → Prop} {l : List UInt8} : Plus L l ↔ L l ∨ ∃ i, 1 ≤ i ∧ i < l.length ∧ L (l.take i) ∧ Plus L (l.drop i) := by
  rw [plus_parts]
  constructor
  · rintro (h | ⟨x, y, rfl, hx, hy, h1, h2⟩)
    · exact .inl h
    · have hx' := List.length_pos_iff.2 hx
      have hy' := List.length_pos_iff.2 hy
      exact .inr ⟨x.length, hx', by rw [List.length_append]; omega, by simpa using h1, by simpa using h2⟩
  · rintro (h | ⟨i, h0, hi, h1, h2⟩)
    · exact .inl h
    · refine .inr ⟨l.take i, l.drop i, (List.take_append_drop i l).symm, fun e => ?_, fun e => ?_, h1, h2⟩
      · have := congrArg List.length e; rw [List.length_take, List.length_nil] at this; omega
      · have := congrArg List.length e; rw [List.length_drop, List.length_nil] at this; omega

set_option maxHeartbeats 4000000 in
set_option maxRecDepth 20000 in
theorem refMany (t : T) (ht : SaysD t) : ∀ n, ∀ l : List UInt8, l.length < n → l.length ≤ 1000000 → ∀ S w v, DNodeV S w t v →
    Calls Tryd.prog 59 #[.agg v.toArray, .string ⟨l.toArray⟩] w fun e w' => e = .returned (.bool (decB (Plus (Lang t) l))) ∧ Ext w w' := by
  intro n
  induction n with
  | zero => intro l h; omega
  | succ n ih =>
    intro l hln hn S w v h
    obtain ⟨k, m, z, p, A, nn, c, rfl⟩ := dnodeV_form h
    have hx0 := Lib.hid (Ext.new1 w (.cells (dnC k m z p A nn c).toArray 34))
    have HV := Lib.hid (h.keep hx0.out)
    have HB := Lib.hid (DB.new w k m z p A nn c)
    have HT := Lib.hid ht
    have HN := Lib.hid hn
    have HLN := Lib.hid hln
    have HIH := Lib.hid ih
    clear h hn hln ht ih
    obtain ⟨R, hR⟩ : ∃ R, decB (Plus (Lang t) l) = R := ⟨_, rfl⟩
    have HR := Lib.hid hR
    rw [hR]
    clear hR
    cases hp : decB (Lang t l)
    rotate_left
    · have HP := Lib.hid hp
      have HRT := Lib.hid (show R = true by rw [← HR.out]; exact decB_iff.2 (.one (decB_iff.1 hp)))
      clear hp
      go_enter Tryd.func59, Tryd.ntmps59
      go_wp2_with (first
        | (refine load_dn rfl (.tmp 2) rfl (g := w.heap.size) rfl HB.out ?_)
        | (go_at_call 30; refine (HT.out l HN.out S _ (dnC k m z p A nn c) HV.out).mono ?_; rintro e w1 ⟨rfl, hx1⟩; rw [HP.out]))
      go_ret
      exact ⟨by rw [HRT.out]; rfl, Ext.trans hx0.out hx1⟩
    · have HP := Lib.hid hp
      clear hp
      go_enter Tryd.func59, Tryd.ntmps59
      go_upto_region 1 with fail
      generalize w.alloc (.cells (dnC k m z p A nn c).toArray 34) = w0 at *
      obtain ⟨gA, hgA⟩ : ∃ gA, w.heap.size = gA := ⟨_, rfl⟩
      rw [hgA] at HB ⊢
      clear hgA
      go_upto_region 4 with (first
        | (refine load_dn rfl (.tmp 2) rfl (g := gA) rfl HB.out ?_)
        | (go_at_call 30; refine (HT.out l HN.out S _ (dnC k m z p A nn c) HV.out).mono ?_; rintro e w1 ⟨rfl, hx1⟩; rw [HP.out]))
      go_loopg [5] l.length (fun gg iv wr => ∃ i : Nat, 1 ≤ i ∧ i ≤ l.length + 1 ∧ gg = l.length + 1 - i ∧ iv = .int .i64 (i : Nat) ∧ (∀ j, 1 ≤ j → j < i → ¬ (Lang t (l.take j) ∧ Plus (Lang t) (l.drop j))) ∧ Ext w0 wr)
      case atStart => exact ⟨1, by omega, by omega, rfl, rfl, fun j h1 h2 => by omega, hx1⟩
      case round =>
        obtain ⟨iq, hi1, hi, rfl, rfl, hno, hx⟩ := hrel
        have HNO := Lib.hid hno
        clear hno
        by_cases hlt : iq < l.length
        · have hlt' : (iq : Int) < (l.length : Int) := by omega
          have hle' : (iq : Int) ≤ (l.length : Int) := by omega
          have hw2 : IntKind.i64.wrap ((iq : Int) + 1) = (iq : Int) + 1 := wrap_id (by omega) (by have := HN.out; omega)
          have HBW := Lib.hid (HB.out.keep hx)
          have HVW := Lib.hid (HV.out.keep hx)
          have HX := Lib.hid (Ext.trans hx0.out hx)
          have HTK := Lib.hid (show (l.take iq).length ≤ 1000000 by rw [List.length_take]; have := HN.out; omega)
          have HDK := Lib.hid (show (l.drop iq).length ≤ 1000000 by rw [List.length_drop]; have := HN.out; omega)
          have HDN := Lib.hid (show (l.drop iq).length < n by rw [List.length_drop]; have := HLN.out; omega)
          have HXW := Lib.hid hx
          clear hx
          cases hq1 : decB (Lang t (l.take iq))
          · have HQ1 := Lib.hid hq1
            clear hq1
            go_upto_region 6 with fail
            refine wp_region_dag (E := Ext) (w0 := wr) (Φ := fun i v w => match i with | 0 => (v = .agg (dnC k m z p A nn c).toArray) | 1 => (v = .string ⟨l.toArray⟩) | 2 => (v = .int .i64 (iq : Nat)) | 3 => (v = .string ⟨(l.take iq).toArray⟩) | 4 => (v = .bool false) | 5 => (v = .bool false) | 6 => (v = undef) | 7 => (v = undef) | 8 => (v = undef) | 9 => (v = undef) | 10 => (v = undef) | 11 => (v = .bool false) | _ => True) (show Tryd.prog.follows .mixedOrders = true from Checked.mixed Tryd.checked) 27 rfl (by decide +kernel) ?_ ((Below.refl _ _).drew) ?_ ⟨?_, ?_, ?_, ?_, ?_, ?_, ?_, ?_, ?_, ?_, ?_, ?_, trivial⟩ ?_
            · intro i v w w' h hE
              match i, h with
              | 0, h => exact h
              | 1, h => exact h
              | 2, h => exact h
              | 3, h => exact h
              | 4, h => exact h
              | 5, h => exact h
              | 6, h => exact h
              | 7, h => exact h
              | 8, h => exact h
              | 9, h => exact h
              | 10, h => exact h
              | 11, h => exact h
              | _ + 12, _ => trivial
            · exact fun w w' h h' => h.trans h'
            · -- 0: t15 := load 34 t2
              intro ac wx hE hsz hdf h
              have es : ac.tmps[2]? = some (.pointer (some ⟨gA, 0, none⟩)) := by obtain ⟨v, h1, h2⟩ := h 2 (by decide +kernel); exact h1.trans (h2.symm.trans rfl)
              clear h hsz hdf
              refine load_dn rfl (.tmp 2) rfl (g := gA) ?_ (HBW.out.keep hE) ?_
              · simp [Act.eval, es]
              · exact ⟨_, rfl, rfl, Ext.refl _⟩
            · -- 1: t16 := move t1
              intro ac wx hE hsz hdf h
              have e1 : ac.tmps[1]? = some (.string ⟨l.toArray⟩) := by obtain ⟨v, h1, h2⟩ := h 1 (by decide +kernel); exact h1.trans (h2.symm.trans rfl)
              clear h hsz hdf
              go_wp2
              exact ⟨_, rfl, rfl, Ext.refl _⟩
            · -- 2: t17 := move t5
              intro ac wx hE hsz hdf h
              have e5 : ac.tmps[5]? = some (.int .i64 (iq : Nat)) := by obtain ⟨v, h1, h2⟩ := h 5 (by decide +kernel); exact h1.trans (h2.symm.trans rfl)
              clear h hsz hdf
              go_wp2
              exact ⟨_, rfl, rfl, Ext.refl _⟩
            · -- 3: t18 := slice 9 t16 none (some t17) none
              intro ac wx hE hsz hdf h
              have e16 : ac.tmps[16]? = some (.string ⟨l.toArray⟩) := by obtain ⟨v, h1, h2⟩ := h 16 (by decide +kernel); rw [h1]; exact congrArg some h2
              have e17 : ac.tmps[17]? = some (.int .i64 (iq : Nat)) := by obtain ⟨v, h1, h2⟩ := h 17 (by decide +kernel); rw [h1]; exact congrArg some h2
              clear h hsz hdf
              go_wp2
              exact ⟨_, rfl, by simp, Ext.refl _⟩
            · -- 4: t19 := call { value (Operand.func 30), args := #[t15, t18], argTypes := #[34, 9] }
              intro ac wx hE hsz hdf h
              have e15 : ac.tmps[15]? = some (.agg (dnC k m z p A nn c).toArray) := by obtain ⟨v, h1, h2⟩ := h 15 (by decide +kernel); rw [h1]; exact congrArg some h2
              have e18 : ac.tmps[18]? = some (.string ⟨(l.take iq).toArray⟩) := by obtain ⟨v, h1, h2⟩ := h 18 (by decide +kernel); rw [h1]; exact congrArg some h2
              clear h hsz hdf
              go_wp2_with ((go_at_call 30; refine (HT.out (l.take iq) HTK.out S _ (dnC k m z p A nn c) (HVW.out.keep hE)).mono ?_; rintro e w9 ⟨rfl, hb9⟩; rw [HQ1.out]))
              exact ⟨_, rfl, rfl, hb9⟩
            · -- 5: t20 := move t19
              intro ac wx hE hsz hdf h
              have e19 : ac.tmps[19]? = some (.bool false) := by obtain ⟨v, h1, h2⟩ := h 19 (by decide +kernel); rw [h1]; exact congrArg some h2
              clear h hsz hdf
              go_wp2
              exact ⟨_, rfl, rfl, Ext.refl _⟩
            · -- 6: t21 := load 34 t2 (5, True)
              intro ac wx hE hsz hdf h
              have e20 : ac.tmps[20]? = some (.bool false) := by obtain ⟨v, h1, h2⟩ := h 20 (by decide +kernel); rw [h1]; exact congrArg some h2
              clear h hsz hdf
              go_wp2
              exact ⟨_, rfl, rfl, Ext.refl _⟩
            · -- 7: t22 := move t1 (5, True)
              intro ac wx hE hsz hdf h
              have e20 : ac.tmps[20]? = some (.bool false) := by obtain ⟨v, h1, h2⟩ := h 20 (by decide +kernel); rw [h1]; exact congrArg some h2
              clear h hsz hdf
              go_wp2
              exact ⟨_, rfl, rfl, Ext.refl _⟩
            · -- 8: t23 := move t5 (5, True)
              intro ac wx hE hsz hdf h
              have e20 : ac.tmps[20]? = some (.bool false) := by obtain ⟨v, h1, h2⟩ := h 20 (by decide +kernel); rw [h1]; exact congrArg some h2
              clear h hsz hdf
              go_wp2
              exact ⟨_, rfl, rfl, Ext.refl _⟩
            · -- 9: t24 := slice 9 t22 (some t23) none none (5, True)
              intro ac wx hE hsz hdf h
              have e20 : ac.tmps[20]? = some (.bool false) := by obtain ⟨v, h1, h2⟩ := h 20 (by decide +kernel); rw [h1]; exact congrArg some h2
              clear h hsz hdf
              go_wp2
              exact ⟨_, rfl, rfl, Ext.refl _⟩
            · -- 10: t25 := call { value (Operand.func 59), args := #[t21, t24], argTypes := #[34, 9] } (5, True)
              intro ac wx hE hsz hdf h
              have e20 : ac.tmps[20]? = some (.bool false) := by obtain ⟨v, h1, h2⟩ := h 20 (by decide +kernel); rw [h1]; exact congrArg some h2
              clear h hsz hdf
              go_wp2
              exact ⟨_, rfl, rfl, Ext.refl _⟩
            · -- 11: t26 := pick t20 t25 (const (Value.bool false))
              intro ac wx hE hsz hdf h
              have e20 : ac.tmps[20]? = some (.bool false) := by obtain ⟨v, h1, h2⟩ := h 20 (by decide +kernel); rw [h1]; exact congrArg some h2
              have e25 : ac.tmps[25]? = some (undef) := by obtain ⟨v, h1, h2⟩ := h 25 (by decide +kernel); rw [h1]; exact congrArg some h2
              clear h hsz hdf
              go_wp2
              exact ⟨_, rfl, by simp, Ext.refl _⟩
            · intro ac w9 hE hsz hdf h hrest
              obtain ⟨v0, s0, g0⟩ := h 0 _ rfl
              have e0 := g0 15 rfl
              obtain rfl : v0 = .agg (dnC k m z p A nn c).toArray := s0
              obtain ⟨v1, s1, g1⟩ := h 1 _ rfl
              have e1 := g1 16 rfl
              obtain rfl : v1 = .string ⟨l.toArray⟩ := s1
              obtain ⟨v2, s2, g2⟩ := h 2 _ rfl
              have e2 := g2 17 rfl
              obtain rfl : v2 = .int .i64 (iq : Nat) := s2
              obtain ⟨v3, s3, g3⟩ := h 3 _ rfl
              have e3 := g3 18 rfl
              obtain rfl : v3 = .string ⟨(l.take iq).toArray⟩ := s3
              obtain ⟨v4, s4, g4⟩ := h 4 _ rfl
              have e4 := g4 19 rfl
              obtain rfl : v4 = .bool false := s4
              obtain ⟨v5, s5, g5⟩ := h 5 _ rfl
              have e5 := g5 20 rfl
              obtain rfl : v5 = .bool false := s5
              obtain ⟨v6, s6, g6⟩ := h 6 _ rfl
              have e6 := g6 21 rfl
              obtain rfl : v6 = undef := s6
              obtain ⟨v7, s7, g7⟩ := h 7 _ rfl
              have e7 := g7 22 rfl
              obtain rfl : v7 = undef := s7
              obtain ⟨v8, s8, g8⟩ := h 8 _ rfl
              have e8 := g8 23 rfl
              obtain rfl : v8 = undef := s8
              obtain ⟨v9, s9, g9⟩ := h 9 _ rfl
              have e9 := g9 24 rfl
              obtain rfl : v9 = undef := s9
              obtain ⟨v10, s10, g10⟩ := h 10 _ rfl
              have e10 := g10 25 rfl
              obtain rfl : v10 = undef := s10
              obtain ⟨v11, s11, g11⟩ := h 11 _ rfl
              have e11 := g11 26 rfl
              obtain rfl : v11 = .bool false := s11
              have ha := act_of [(15, .agg (dnC k m z p A nn c).toArray), (16, .string ⟨l.toArray⟩), (17, .int .i64 (iq : Nat)), (18, .string ⟨(l.take iq).toArray⟩), (19, .bool false), (20, .bool false), (21, undef), (22, undef), (23, undef), (24, undef), (25, undef), (26, .bool false)] rfl hsz hdf (by intro p hp; simp only [List.mem_cons, List.not_mem_nil, or_false] at hp; rcases hp with rfl | rfl | rfl | rfl | rfl | rfl | rfl | rfl | rfl | rfl | rfl | rfl <;> first | exact e0 | exact e1 | exact e2 | exact e3 | exact e4 | exact e5 | exact e6 | exact e7 | exact e8 | exact e9 | exact e10 | exact e11) hrest
              clear h hrest hsz hdf e0 e1 e2 e3 e4 e5 e6 e7 e8 e9 e10 e11 g0 g1 g2 g3 g4 g5 g6 g7 g8 g9 g10 g11
              subst ha
              simp only [List.foldl_cons, List.foldl_nil, Act.put, List.setIfInBounds_toArray, List.set_cons_succ, List.set_cons_zero]
              have HXX := Lib.hid (Ext.trans HXW.out hE)
              go_wp2
              go_roundg (l.length + 1 - (iq + 1))
              case measure => omega
              case rel =>
                refine ⟨iq + 1, by omega, by omega, rfl, by go_num, fun j h1 h2 => ?_, HXX.out⟩
                by_cases e : j = iq
                · subst e; exact fun h => decB_not.1 HQ1.out h.1
                · exact HNO.out j h1 (by omega)
          · have HQ1 := Lib.hid hq1
            clear hq1
            cases hq2 : decB (Plus (Lang t) (l.drop iq))
            · have HQ2 := Lib.hid hq2
              clear hq2
              go_upto_region 6 with fail
              refine wp_region_dag (E := Ext) (w0 := wr) (Φ := fun i v w => match i with | 0 => (v = .agg (dnC k m z p A nn c).toArray) | 1 => (v = .string ⟨l.toArray⟩) | 2 => (v = .int .i64 (iq : Nat)) | 3 => (v = .string ⟨(l.take iq).toArray⟩) | 4 => (v = .bool true) | 5 => (v = .bool true) | 6 => (v = .agg (dnC k m z p A nn c).toArray) | 7 => (v = .string ⟨l.toArray⟩) | 8 => (v = .int .i64 (iq : Nat)) | 9 => (v = .string ⟨(l.drop iq).toArray⟩) | 10 => (v = .bool false) | 11 => (v = .bool false) | _ => True) (show Tryd.prog.follows .mixedOrders = true from Checked.mixed Tryd.checked) 27 rfl (by decide +kernel) ?_ ((Below.refl _ _).drew) ?_ ⟨?_, ?_, ?_, ?_, ?_, ?_, ?_, ?_, ?_, ?_, ?_, ?_, trivial⟩ ?_
              · intro i v w w' h hE
                match i, h with
                | 0, h => exact h
                | 1, h => exact h
                | 2, h => exact h
                | 3, h => exact h
                | 4, h => exact h
                | 5, h => exact h
                | 6, h => exact h
                | 7, h => exact h
                | 8, h => exact h
                | 9, h => exact h
                | 10, h => exact h
                | 11, h => exact h
                | _ + 12, _ => trivial
              · exact fun w w' h h' => h.trans h'
              · -- 0: t15 := load 34 t2
                intro ac wx hE hsz hdf h
                have es : ac.tmps[2]? = some (.pointer (some ⟨gA, 0, none⟩)) := by obtain ⟨v, h1, h2⟩ := h 2 (by decide +kernel); exact h1.trans (h2.symm.trans rfl)
                clear h hsz hdf
                refine load_dn rfl (.tmp 2) rfl (g := gA) ?_ (HBW.out.keep hE) ?_
                · simp [Act.eval, es]
                · exact ⟨_, rfl, rfl, Ext.refl _⟩
              · -- 1: t16 := move t1
                intro ac wx hE hsz hdf h
                have e1 : ac.tmps[1]? = some (.string ⟨l.toArray⟩) := by obtain ⟨v, h1, h2⟩ := h 1 (by decide +kernel); exact h1.trans (h2.symm.trans rfl)
                clear h hsz hdf
                go_wp2
                exact ⟨_, rfl, rfl, Ext.refl _⟩
              · -- 2: t17 := move t5
                intro ac wx hE hsz hdf h
                have e5 : ac.tmps[5]? = some (.int .i64 (iq : Nat)) := by obtain ⟨v, h1, h2⟩ := h 5 (by decide +kernel); exact h1.trans (h2.symm.trans rfl)
                clear h hsz hdf
                go_wp2
                exact ⟨_, rfl, rfl, Ext.refl _⟩
              · -- 3: t18 := slice 9 t16 none (some t17) none
                intro ac wx hE hsz hdf h
                have e16 : ac.tmps[16]? = some (.string ⟨l.toArray⟩) := by obtain ⟨v, h1, h2⟩ := h 16 (by decide +kernel); rw [h1]; exact congrArg some h2
                have e17 : ac.tmps[17]? = some (.int .i64 (iq : Nat)) := by obtain ⟨v, h1, h2⟩ := h 17 (by decide +kernel); rw [h1]; exact congrArg some h2
                clear h hsz hdf
                go_wp2
                exact ⟨_, rfl, by simp, Ext.refl _⟩
              · -- 4: t19 := call { value (Operand.func 30), args := #[t15, t18], argTypes := #[34, 9] }
                intro ac wx hE hsz hdf h
                have e15 : ac.tmps[15]? = some (.agg (dnC k m z p A nn c).toArray) := by obtain ⟨v, h1, h2⟩ := h 15 (by decide +kernel); rw [h1]; exact congrArg some h2
                have e18 : ac.tmps[18]? = some (.string ⟨(l.take iq).toArray⟩) := by obtain ⟨v, h1, h2⟩ := h 18 (by decide +kernel); rw [h1]; exact congrArg some h2
                clear h hsz hdf
                go_wp2_with ((go_at_call 30; refine (HT.out (l.take iq) HTK.out S _ (dnC k m z p A nn c) (HVW.out.keep hE)).mono ?_; rintro e w9 ⟨rfl, hb9⟩; rw [HQ1.out]))
                exact ⟨_, rfl, rfl, hb9⟩
              · -- 5: t20 := move t19
                intro ac wx hE hsz hdf h
                have e19 : ac.tmps[19]? = some (.bool true) := by obtain ⟨v, h1, h2⟩ := h 19 (by decide +kernel); rw [h1]; exact congrArg some h2
                clear h hsz hdf
                go_wp2
                exact ⟨_, rfl, rfl, Ext.refl _⟩
              · -- 6: t21 := load 34 t2 (5, True)
                intro ac wx hE hsz hdf h
                have eg : ac.tmps[20]? = some (.bool true) := by obtain ⟨v, h1, h2⟩ := h 20 (by decide +kernel); rw [h1]; exact congrArg some h2
                have es : ac.tmps[2]? = some (.pointer (some ⟨gA, 0, none⟩)) := by obtain ⟨v, h1, h2⟩ := h 2 (by decide +kernel); exact h1.trans (h2.symm.trans rfl)
                clear h hsz hdf
                refine load_dnH (j := 5) (b0 := true) (d := 20) rfl rfl eg (.tmp 2) rfl (g := gA) ?_ (HBW.out.keep hE) ?_
                · simp [Act.eval, es]
                · exact ⟨_, rfl, rfl, Ext.refl _⟩
              · -- 7: t22 := move t1 (5, True)
                intro ac wx hE hsz hdf h
                have e1 : ac.tmps[1]? = some (.string ⟨l.toArray⟩) := by obtain ⟨v, h1, h2⟩ := h 1 (by decide +kernel); exact h1.trans (h2.symm.trans rfl)
                have e20 : ac.tmps[20]? = some (.bool true) := by obtain ⟨v, h1, h2⟩ := h 20 (by decide +kernel); rw [h1]; exact congrArg some h2
                clear h hsz hdf
                go_wp2
                exact ⟨_, rfl, rfl, Ext.refl _⟩
              · -- 8: t23 := move t5 (5, True)
                intro ac wx hE hsz hdf h
                have e5 : ac.tmps[5]? = some (.int .i64 (iq : Nat)) := by obtain ⟨v, h1, h2⟩ := h 5 (by decide +kernel); exact h1.trans (h2.symm.trans rfl)
                have e20 : ac.tmps[20]? = some (.bool true) := by obtain ⟨v, h1, h2⟩ := h 20 (by decide +kernel); rw [h1]; exact congrArg some h2
                clear h hsz hdf
                go_wp2
                exact ⟨_, rfl, rfl, Ext.refl _⟩
              · -- 9: t24 := slice 9 t22 (some t23) none none (5, True)
                intro ac wx hE hsz hdf h
                have e22 : ac.tmps[22]? = some (.string ⟨l.toArray⟩) := by obtain ⟨v, h1, h2⟩ := h 22 (by decide +kernel); rw [h1]; exact congrArg some h2
                have e23 : ac.tmps[23]? = some (.int .i64 (iq : Nat)) := by obtain ⟨v, h1, h2⟩ := h 23 (by decide +kernel); rw [h1]; exact congrArg some h2
                have e20 : ac.tmps[20]? = some (.bool true) := by obtain ⟨v, h1, h2⟩ := h 20 (by decide +kernel); rw [h1]; exact congrArg some h2
                clear h hsz hdf
                go_wp2
                exact ⟨_, rfl, by simp, Ext.refl _⟩
              · -- 10: t25 := call { value (Operand.func 59), args := #[t21, t24], argTypes := #[34, 9] } (5, True)
                intro ac wx hE hsz hdf h
                have e21 : ac.tmps[21]? = some (.agg (dnC k m z p A nn c).toArray) := by obtain ⟨v, h1, h2⟩ := h 21 (by decide +kernel); rw [h1]; exact congrArg some h2
                have e24 : ac.tmps[24]? = some (.string ⟨(l.drop iq).toArray⟩) := by obtain ⟨v, h1, h2⟩ := h 24 (by decide +kernel); rw [h1]; exact congrArg some h2
                have e20 : ac.tmps[20]? = some (.bool true) := by obtain ⟨v, h1, h2⟩ := h 20 (by decide +kernel); rw [h1]; exact congrArg some h2
                clear h hsz hdf
                go_wp2_with ((go_at_call 59; refine (HIH.out (l.drop iq) HDN.out HDK.out S _ (dnC k m z p A nn c) (HVW.out.keep hE)).mono ?_; rintro e w9 ⟨rfl, hb9⟩; rw [HQ2.out]))
                exact ⟨_, rfl, rfl, hb9⟩
              · -- 11: t26 := pick t20 t25 (const (Value.bool false))
                intro ac wx hE hsz hdf h
                have e20 : ac.tmps[20]? = some (.bool true) := by obtain ⟨v, h1, h2⟩ := h 20 (by decide +kernel); rw [h1]; exact congrArg some h2
                have e25 : ac.tmps[25]? = some (.bool false) := by obtain ⟨v, h1, h2⟩ := h 25 (by decide +kernel); rw [h1]; exact congrArg some h2
                clear h hsz hdf
                go_wp2
                exact ⟨_, rfl, by simp, Ext.refl _⟩
              · intro ac w9 hE hsz hdf h hrest
                obtain ⟨v0, s0, g0⟩ := h 0 _ rfl
                have e0 := g0 15 rfl
                obtain rfl : v0 = .agg (dnC k m z p A nn c).toArray := s0
                obtain ⟨v1, s1, g1⟩ := h 1 _ rfl
                have e1 := g1 16 rfl
                obtain rfl : v1 = .string ⟨l.toArray⟩ := s1
                obtain ⟨v2, s2, g2⟩ := h 2 _ rfl
                have e2 := g2 17 rfl
                obtain rfl : v2 = .int .i64 (iq : Nat) := s2
                obtain ⟨v3, s3, g3⟩ := h 3 _ rfl
                have e3 := g3 18 rfl
                obtain rfl : v3 = .string ⟨(l.take iq).toArray⟩ := s3
                obtain ⟨v4, s4, g4⟩ := h 4 _ rfl
                have e4 := g4 19 rfl
                obtain rfl : v4 = .bool true := s4
                obtain ⟨v5, s5, g5⟩ := h 5 _ rfl
                have e5 := g5 20 rfl
                obtain rfl : v5 = .bool true := s5
                obtain ⟨v6, s6, g6⟩ := h 6 _ rfl
                have e6 := g6 21 rfl
                obtain rfl : v6 = .agg (dnC k m z p A nn c).toArray := s6
                obtain ⟨v7, s7, g7⟩ := h 7 _ rfl
                have e7 := g7 22 rfl
                obtain rfl : v7 = .string ⟨l.toArray⟩ := s7
                obtain ⟨v8, s8, g8⟩ := h 8 _ rfl
                have e8 := g8 23 rfl
                obtain rfl : v8 = .int .i64 (iq : Nat) := s8
                obtain ⟨v9, s9, g9⟩ := h 9 _ rfl
                have e9 := g9 24 rfl
                obtain rfl : v9 = .string ⟨(l.drop iq).toArray⟩ := s9
                obtain ⟨v10, s10, g10⟩ := h 10 _ rfl
                have e10 := g10 25 rfl
                obtain rfl : v10 = .bool false := s10
                obtain ⟨v11, s11, g11⟩ := h 11 _ rfl
                have e11 := g11 26 rfl
                obtain rfl : v11 = .bool false := s11
                have ha := act_of [(15, .agg (dnC k m z p A nn c).toArray), (16, .string ⟨l.toArray⟩), (17, .int .i64 (iq : Nat)), (18, .string ⟨(l.take iq).toArray⟩), (19, .bool true), (20, .bool true), (21, .agg (dnC k m z p A nn c).toArray), (22, .string ⟨l.toArray⟩), (23, .int .i64 (iq : Nat)), (24, .string ⟨(l.drop iq).toArray⟩), (25, .bool false), (26, .bool false)] rfl hsz hdf (by intro p hp; simp only [List.mem_cons, List.not_mem_nil, or_false] at hp; rcases hp with rfl | rfl | rfl | rfl | rfl | rfl | rfl | rfl | rfl | rfl | rfl | rfl <;> first | exact e0 | exact e1 | exact e2 | exact e3 | exact e4 | exact e5 | exact e6 | exact e7 | exact e8 | exact e9 | exact e10 | exact e11) hrest
                clear h hrest hsz hdf e0 e1 e2 e3 e4 e5 e6 e7 e8 e9 e10 e11 g0 g1 g2 g3 g4 g5 g6 g7 g8 g9 g10 g11
                subst ha
                simp only [List.foldl_cons, List.foldl_nil, Act.put, List.setIfInBounds_toArray, List.set_cons_succ, List.set_cons_zero]
                have HXX := Lib.hid (Ext.trans HXW.out hE)
                go_wp2
                go_roundg (l.length + 1 - (iq + 1))
                case measure => omega
                case rel =>
                  refine ⟨iq + 1, by omega, by omega, rfl, by go_num, fun j h1 h2 => ?_, HXX.out⟩
                  by_cases e : j = iq
                  · subst e; exact fun h => decB_not.1 HQ2.out h.2
                  · exact HNO.out j h1 (by omega)
            · have HQ2 := Lib.hid hq2
              clear hq2
              go_upto_region 6 with fail
              refine wp_region_dag (E := Ext) (w0 := wr) (Φ := fun i v w => match i with | 0 => (v = .agg (dnC k m z p A nn c).toArray) | 1 => (v = .string ⟨l.toArray⟩) | 2 => (v = .int .i64 (iq : Nat)) | 3 => (v = .string ⟨(l.take iq).toArray⟩) | 4 => (v = .bool true) | 5 => (v = .bool true) | 6 => (v = .agg (dnC k m z p A nn c).toArray) | 7 => (v = .string ⟨l.toArray⟩) | 8 => (v = .int .i64 (iq : Nat)) | 9 => (v = .string ⟨(l.drop iq).toArray⟩) | 10 => (v = .bool true) | 11 => (v = .bool true) | _ => True) (show Tryd.prog.follows .mixedOrders = true from Checked.mixed Tryd.checked) 27 rfl (by decide +kernel) ?_ ((Below.refl _ _).drew) ?_ ⟨?_, ?_, ?_, ?_, ?_, ?_, ?_, ?_, ?_, ?_, ?_, ?_, trivial⟩ ?_
              · intro i v w w' h hE
                match i, h with
                | 0, h => exact h
                | 1, h => exact h
                | 2, h => exact h
                | 3, h => exact h
                | 4, h => exact h
                | 5, h => exact h
                | 6, h => exact h
                | 7, h => exact h
                | 8, h => exact h
                | 9, h => exact h
                | 10, h => exact h
                | 11, h => exact h
                | _ + 12, _ => trivial
              · exact fun w w' h h' => h.trans h'
              · -- 0: t15 := load 34 t2
                intro ac wx hE hsz hdf h
                have es : ac.tmps[2]? = some (.pointer (some ⟨gA, 0, none⟩)) := by obtain ⟨v, h1, h2⟩ := h 2 (by decide +kernel); exact h1.trans (h2.symm.trans rfl)
                clear h hsz hdf
                refine load_dn rfl (.tmp 2) rfl (g := gA) ?_ (HBW.out.keep hE) ?_
                · simp [Act.eval, es]
                · exact ⟨_, rfl, rfl, Ext.refl _⟩
              · -- 1: t16 := move t1
                intro ac wx hE hsz hdf h
                have e1 : ac.tmps[1]? = some (.string ⟨l.toArray⟩) := by obtain ⟨v, h1, h2⟩ := h 1 (by decide +kernel); exact h1.trans (h2.symm.trans rfl)
                clear h hsz hdf
                go_wp2
                exact ⟨_, rfl, rfl, Ext.refl _⟩
              · -- 2: t17 := move t5
                intro ac wx hE hsz hdf h
                have e5 : ac.tmps[5]? = some (.int .i64 (iq : Nat)) := by obtain ⟨v, h1, h2⟩ := h 5 (by decide +kernel); exact h1.trans (h2.symm.trans rfl)
                clear h hsz hdf
                go_wp2
                exact ⟨_, rfl, rfl, Ext.refl _⟩
              · -- 3: t18 := slice 9 t16 none (some t17) none
                intro ac wx hE hsz hdf h
                have e16 : ac.tmps[16]? = some (.string ⟨l.toArray⟩) := by obtain ⟨v, h1, h2⟩ := h 16 (by decide +kernel); rw [h1]; exact congrArg some h2
                have e17 : ac.tmps[17]? = some (.int .i64 (iq : Nat)) := by obtain ⟨v, h1, h2⟩ := h 17 (by decide +kernel); rw [h1]; exact congrArg some h2
                clear h hsz hdf
                go_wp2
                exact ⟨_, rfl, by simp, Ext.refl _⟩
              · -- 4: t19 := call { value (Operand.func 30), args := #[t15, t18], argTypes := #[34, 9] }
                intro ac wx hE hsz hdf h
                have e15 : ac.tmps[15]? = some (.agg (dnC k m z p A nn c).toArray) := by obtain ⟨v, h1, h2⟩ := h 15 (by decide +kernel); rw [h1]; exact congrArg some h2
                have e18 : ac.tmps[18]? = some (.string ⟨(l.take iq).toArray⟩) := by obtain ⟨v, h1, h2⟩ := h 18 (by decide +kernel); rw [h1]; exact congrArg some h2
                clear h hsz hdf
                go_wp2_with ((go_at_call 30; refine (HT.out (l.take iq) HTK.out S _ (dnC k m z p A nn c) (HVW.out.keep hE)).mono ?_; rintro e w9 ⟨rfl, hb9⟩; rw [HQ1.out]))
                exact ⟨_, rfl, rfl, hb9⟩
              · -- 5: t20 := move t19
                intro ac wx hE hsz hdf h
                have e19 : ac.tmps[19]? = some (.bool true) := by obtain ⟨v, h1, h2⟩ := h 19 (by decide +kernel); rw [h1]; exact congrArg some h2
                clear h hsz hdf
                go_wp2
                exact ⟨_, rfl, rfl, Ext.refl _⟩
              · -- 6: t21 := load 34 t2 (5, True)
                intro ac wx hE hsz hdf h
                have eg : ac.tmps[20]? = some (.bool true) := by obtain ⟨v, h1, h2⟩ := h 20 (by decide +kernel); rw [h1]; exact congrArg some h2
                have es : ac.tmps[2]? = some (.pointer (some ⟨gA, 0, none⟩)) := by obtain ⟨v, h1, h2⟩ := h 2 (by decide +kernel); exact h1.trans (h2.symm.trans rfl)
                clear h hsz hdf
                refine load_dnH (j := 5) (b0 := true) (d := 20) rfl rfl eg (.tmp 2) rfl (g := gA) ?_ (HBW.out.keep hE) ?_
                · simp [Act.eval, es]
                · exact ⟨_, rfl, rfl, Ext.refl _⟩
              · -- 7: t22 := move t1 (5, True)
                intro ac wx hE hsz hdf h
                have e1 : ac.tmps[1]? = some (.string ⟨l.toArray⟩) := by obtain ⟨v, h1, h2⟩ := h 1 (by decide +kernel); exact h1.trans (h2.symm.trans rfl)
                have e20 : ac.tmps[20]? = some (.bool true) := by obtain ⟨v, h1, h2⟩ := h 20 (by decide +kernel); rw [h1]; exact congrArg some h2
                clear h hsz hdf
                go_wp2
                exact ⟨_, rfl, rfl, Ext.refl _⟩
              · -- 8: t23 := move t5 (5, True)
                intro ac wx hE hsz hdf h
                have e5 : ac.tmps[5]? = some (.int .i64 (iq : Nat)) := by obtain ⟨v, h1, h2⟩ := h 5 (by decide +kernel); exact h1.trans (h2.symm.trans rfl)
                have e20 : ac.tmps[20]? = some (.bool true) := by obtain ⟨v, h1, h2⟩ := h 20 (by decide +kernel); rw [h1]; exact congrArg some h2
                clear h hsz hdf
                go_wp2
                exact ⟨_, rfl, rfl, Ext.refl _⟩
              · -- 9: t24 := slice 9 t22 (some t23) none none (5, True)
                intro ac wx hE hsz hdf h
                have e22 : ac.tmps[22]? = some (.string ⟨l.toArray⟩) := by obtain ⟨v, h1, h2⟩ := h 22 (by decide +kernel); rw [h1]; exact congrArg some h2
                have e23 : ac.tmps[23]? = some (.int .i64 (iq : Nat)) := by obtain ⟨v, h1, h2⟩ := h 23 (by decide +kernel); rw [h1]; exact congrArg some h2
                have e20 : ac.tmps[20]? = some (.bool true) := by obtain ⟨v, h1, h2⟩ := h 20 (by decide +kernel); rw [h1]; exact congrArg some h2
                clear h hsz hdf
                go_wp2
                exact ⟨_, rfl, by simp, Ext.refl _⟩
              · -- 10: t25 := call { value (Operand.func 59), args := #[t21, t24], argTypes := #[34, 9] } (5, True)
                intro ac wx hE hsz hdf h
                have e21 : ac.tmps[21]? = some (.agg (dnC k m z p A nn c).toArray) := by obtain ⟨v, h1, h2⟩ := h 21 (by decide +kernel); rw [h1]; exact congrArg some h2
                have e24 : ac.tmps[24]? = some (.string ⟨(l.drop iq).toArray⟩) := by obtain ⟨v, h1, h2⟩ := h 24 (by decide +kernel); rw [h1]; exact congrArg some h2
                have e20 : ac.tmps[20]? = some (.bool true) := by obtain ⟨v, h1, h2⟩ := h 20 (by decide +kernel); rw [h1]; exact congrArg some h2
                clear h hsz hdf
                go_wp2_with ((go_at_call 59; refine (HIH.out (l.drop iq) HDN.out HDK.out S _ (dnC k m z p A nn c) (HVW.out.keep hE)).mono ?_; rintro e w9 ⟨rfl, hb9⟩; rw [HQ2.out]))
                exact ⟨_, rfl, rfl, hb9⟩
              · -- 11: t26 := pick t20 t25 (const (Value.bool false))
                intro ac wx hE hsz hdf h
                have e20 : ac.tmps[20]? = some (.bool true) := by obtain ⟨v, h1, h2⟩ := h 20 (by decide +kernel); rw [h1]; exact congrArg some h2
                have e25 : ac.tmps[25]? = some (.bool true) := by obtain ⟨v, h1, h2⟩ := h 25 (by decide +kernel); rw [h1]; exact congrArg some h2
                clear h hsz hdf
                go_wp2
                exact ⟨_, rfl, by simp, Ext.refl _⟩
              · intro ac w9 hE hsz hdf h hrest
                obtain ⟨v0, s0, g0⟩ := h 0 _ rfl
                have e0 := g0 15 rfl
                obtain rfl : v0 = .agg (dnC k m z p A nn c).toArray := s0
                obtain ⟨v1, s1, g1⟩ := h 1 _ rfl
                have e1 := g1 16 rfl
                obtain rfl : v1 = .string ⟨l.toArray⟩ := s1
                obtain ⟨v2, s2, g2⟩ := h 2 _ rfl
                have e2 := g2 17 rfl
                obtain rfl : v2 = .int .i64 (iq : Nat) := s2
                obtain ⟨v3, s3, g3⟩ := h 3 _ rfl
                have e3 := g3 18 rfl
                obtain rfl : v3 = .string ⟨(l.take iq).toArray⟩ := s3
                obtain ⟨v4, s4, g4⟩ := h 4 _ rfl
                have e4 := g4 19 rfl
                obtain rfl : v4 = .bool true := s4
                obtain ⟨v5, s5, g5⟩ := h 5 _ rfl
                have e5 := g5 20 rfl
                obtain rfl : v5 = .bool true := s5
                obtain ⟨v6, s6, g6⟩ := h 6 _ rfl
                have e6 := g6 21 rfl
                obtain rfl : v6 = .agg (dnC k m z p A nn c).toArray := s6
                obtain ⟨v7, s7, g7⟩ := h 7 _ rfl
                have e7 := g7 22 rfl
                obtain rfl : v7 = .string ⟨l.toArray⟩ := s7
                obtain ⟨v8, s8, g8⟩ := h 8 _ rfl
                have e8 := g8 23 rfl
                obtain rfl : v8 = .int .i64 (iq : Nat) := s8
                obtain ⟨v9, s9, g9⟩ := h 9 _ rfl
                have e9 := g9 24 rfl
                obtain rfl : v9 = .string ⟨(l.drop iq).toArray⟩ := s9
                obtain ⟨v10, s10, g10⟩ := h 10 _ rfl
                have e10 := g10 25 rfl
                obtain rfl : v10 = .bool true := s10
                obtain ⟨v11, s11, g11⟩ := h 11 _ rfl
                have e11 := g11 26 rfl
                obtain rfl : v11 = .bool true := s11
                have ha := act_of [(15, .agg (dnC k m z p A nn c).toArray), (16, .string ⟨l.toArray⟩), (17, .int .i64 (iq : Nat)), (18, .string ⟨(l.take iq).toArray⟩), (19, .bool true), (20, .bool true), (21, .agg (dnC k m z p A nn c).toArray), (22, .string ⟨l.toArray⟩), (23, .int .i64 (iq : Nat)), (24, .string ⟨(l.drop iq).toArray⟩), (25, .bool true), (26, .bool true)] rfl hsz hdf (by intro p hp; simp only [List.mem_cons, List.not_mem_nil, or_false] at hp; rcases hp with rfl | rfl | rfl | rfl | rfl | rfl | rfl | rfl | rfl | rfl | rfl | rfl <;> first | exact e0 | exact e1 | exact e2 | exact e3 | exact e4 | exact e5 | exact e6 | exact e7 | exact e8 | exact e9 | exact e10 | exact e11) hrest
                clear h hrest hsz hdf e0 e1 e2 e3 e4 e5 e6 e7 e8 e9 e10 e11 g0 g1 g2 g3 g4 g5 g6 g7 g8 g9 g10 g11
                subst ha
                simp only [List.foldl_cons, List.foldl_nil, Act.put, List.setIfInBounds_toArray, List.set_cons_succ, List.set_cons_zero]
                have HXX := Lib.hid (Ext.trans HX.out hE)
                have HRT := Lib.hid (show R = true by rw [← HR.out]; exact decB_iff.2 (plus_at.2 (.inr ⟨iq, hi1, hlt, decB_iff.1 HQ1.out, decB_iff.1 HQ2.out⟩)))
                go_wp2
                go_ret
                exact ⟨by rw [HRT.out]; rfl, HXX.out⟩
        · have hlt' : ¬ (iq : Int) < (l.length : Int) := by omega
          have HRT := Lib.hid (show R = false by
            rw [← HR.out]
            refine decB_not.2 fun h => ?_
            rcases plus_at.1 h with h | ⟨j, h1, h2, h3, h4⟩
            · exact decB_not.1 HP.out h
            · exact HNO.out j h1 (by omega) ⟨h3, h4⟩)
          go_wp2
          go_ret
          exact ⟨by rw [HRT.out]; rfl, Ext.trans hx0.out hx⟩

theorem rd_tail {w : World} {b o q n : Nat} {u cs : List Value} (h : Rd w q (some ⟨b, o, none⟩) (n + 1) (u ++ cs)) (hu : u.length = q) : Rd w q (some ⟨b, o + q, none⟩) n cs := by
  have hl := h.1
  rw [List.length_append, Nat.succ_mul] at hl
  refine ⟨by omega, fun hp => ?_⟩
  obtain ⟨b', o', e, hb, hc⟩ := h.2 (by rw [List.length_append]; omega)
  cases e
  refine ⟨b, o + q, rfl, hb, fun j x hj => ?_⟩
  rw [Nat.add_assoc]
  exact hc (q + j) x (by rw [List.getElem?_append_right (by omega)]; rw [show q + j - u.length = j by omega]; exact hj)

set_option maxHeartbeats 4000000 in
set_option maxRecDepth 20000 in
theorem refRow : ∀ ks : List T, (∀ t ∈ ks, SaysD t) → ∀ l : List UInt8, l.length ≤ 1000000 → ∀ (S : Nat → Prop) (w : World) (A : Option Addr) (c : Nat) (cs : List Value), Rd w 260 A ks.length cs → DKidsV S w ks cs → ks.length ≤ c → c ≤ maxLen →
    Calls Tryd.prog 58 #[.slice A ks.length c, .string ⟨l.toArray⟩] w fun e w' => e = .returned (.bool (decB (LangCat ks l))) ∧ Ext w w' := by
  intro ks
  induction ks with
  | nil =>
    intro _ l hn S w A c cs _ _ _ _
    have HR := Lib.hid (show ((l.length : Int) == 0) = decB (LangCat [] l) by
      rw [Bool.eq_iff_iff, decB_iff, LangCat, beq_iff_eq]
      exact ⟨fun h => List.eq_nil_of_length_eq_zero (by omega), fun h => by rw [h]; rfl⟩)
    obtain ⟨R, hR⟩ : ∃ R, decB (LangCat [] l) = R := ⟨_, rfl⟩
    rw [hR] at HR ⊢
    clear hR
    rw [List.length_nil]
    go_enter Tryd.func58, Tryd.ntmps58
    go_wp2
    go_ret
    exact ⟨by rw [← HR.out]; rfl, Ext.refl _⟩
  | cons t ts ih =>
    intro hS l hn S w A c cs hRd hK hc1 hc2
    obtain ⟨b, o, k, m, z, p, B, nn, c9, rfl, hv, hk⟩ := dkid_at hRd hK (i := 0) (by simp)
    simp only [Nat.zero_mul, Nat.add_zero, List.getElem_cons_zero] at hv hk
    obtain ⟨u, cs', rfl, hu, hK'⟩ : ∃ u cs', cs = u ++ cs' ∧ DNodeV S w t u ∧ DKidsV S w ts cs' := by unfold DKidsV at hK; exact hK
    have HRT := Lib.hid (rd_tail hRd (dnodeV_len hu))
    have HKT := Lib.hid hK'
    have HS := Lib.hid (hS t List.mem_cons_self)
    have HIH := Lib.hid (ih (fun x hx => hS x (List.mem_cons_of_mem _ hx)))
    have HV := Lib.hid hv
    have HK := hk
    have HN := Lib.hid hn
    rw [List.length_cons] at hc1
    obtain ⟨c', rfl⟩ : ∃ c', c = c' + 1 := ⟨c - 1, by omega⟩
    have HC1 := Lib.hid (show ts.length ≤ c' by omega)
    have HC2 := Lib.hid (show c' ≤ maxLen by omega)
    clear hRd hK hK' hu hS ih hv hk hn hc1 hc2
    obtain ⟨R, hR⟩ : ∃ R, decB (LangCat (t :: ts) l) = R := ⟨_, rfl⟩
    have HR := Lib.hid hR
    rw [hR, List.length_cons]
    clear hR
    obtain ⟨nt, hnt⟩ : ∃ nt, ts.length + 1 = nt := ⟨_, rfl⟩
    have HNT := Lib.hid hnt
    have hnt0 : 0 < nt := by omega
    have hnt1 : (0 : Int) < (nt : Int) := by omega
    have hnt2 : ((nt : Int) == 0) = false := by simp; omega
    have hnt3 : (1 : Int) ≤ (nt : Int) := by omega
    rw [hnt]
    clear hnt
    go_enter Tryd.func58, Tryd.ntmps58
    go_upto_region 4 with fail
    go_loopg [5] (l.length + 1) (fun gg iv wr => ∃ i : Nat, i ≤ l.length + 1 ∧ gg = l.length + 1 - i ∧ iv = .int .i64 (i : Nat) ∧ (∀ j, j < i → ¬ (Lang t (l.take j) ∧ LangCat ts (l.drop j))) ∧ Ext w wr)
    case atStart => exact ⟨0, by omega, rfl, rfl, fun j h => by omega, Ext.refl _⟩
    case round =>
      obtain ⟨iq, hi, rfl, rfl, hno, hx⟩ := hrel
      have HNO := Lib.hid hno
      clear hno
      by_cases hlt : iq < l.length + 1
      · have hlt' : (iq : Int) ≤ (l.length : Int) := by omega
        have hw2 : IntKind.i64.wrap ((iq : Int) + 1) = (iq : Int) + 1 := wrap_id (by omega) (by have := HN.out; omega)
        have HKW := Lib.hid (fun w' (h : Ext wr w') => HK.out w' (Ext.trans hx h))
        have HVW := Lib.hid (HV.out.keep hx)
        have HTK := Lib.hid (show (l.take iq).length ≤ 1000000 by rw [List.length_take]; have := HN.out; omega)
        have HDK := Lib.hid (show (l.drop iq).length ≤ 1000000 by rw [List.length_drop]; have := HN.out; omega)
        have HXW := Lib.hid hx
        have HRTW := Lib.hid (HRT.out.keep hx)
        have HKTW := Lib.hid (dkidsV_map (fun t v h => DNodeV.keep h hx) HKT.out)
        clear hx
        cases hq1 : decB (Lang t (l.take iq))
        · have HQ1 := Lib.hid hq1
          clear hq1
          go_upto_region 6 with fail
          refine wp_region_dag (E := Ext) (w0 := wr) (Φ := fun i v w => match i with | 0 => (v = .slice (some ⟨b, o, none⟩) nt (c' + 1)) | 1 => (v = .pointer (some ⟨b, o, none⟩)) | 2 => (v = .agg (dnC k m z p B nn c9).toArray) | 3 => (v = .string ⟨l.toArray⟩) | 4 => (v = .int .i64 (iq : Nat)) | 5 => (v = .string ⟨(l.take iq).toArray⟩) | 6 => (v = .bool false) | 7 => (v = .bool false) | 8 => (v = undef) | 9 => (v = undef) | 10 => (v = undef) | 11 => (v = undef) | 12 => (v = undef) | 13 => (v = undef) | 14 => (v = .bool false) | _ => True) (show Tryd.prog.follows .mixedOrders = true from Checked.mixed Tryd.checked) 33 rfl (by decide +kernel) ?_ ((Below.refl _ _).drew) ?_ ⟨?_, ?_, ?_, ?_, ?_, ?_, ?_, ?_, ?_, ?_, ?_, ?_, ?_, ?_, ?_, trivial⟩ ?_
          · intro i v w w' h hE
            match i, h with
            | 0, h => exact h
            | 1, h => exact h
            | 2, h => exact h
            | 3, h => exact h
            | 4, h => exact h
            | 5, h => exact h
            | 6, h => exact h
            | 7, h => exact h
            | 8, h => exact h
            | 9, h => exact h
            | 10, h => exact h
            | 11, h => exact h
            | 12, h => exact h
            | 13, h => exact h
            | 14, h => exact h
            | _ + 15, _ => trivial
          · exact fun w w' h h' => h.trans h'
          · -- 0: t18 := move t0
            intro ac wx hE hsz hdf h
            have e0 : ac.tmps[0]? = some (.slice (some ⟨b, o, none⟩) nt (c' + 1)) := by obtain ⟨v, h1, h2⟩ := h 0 (by decide +kernel); exact h1.trans (h2.symm.trans rfl)
            clear h hsz hdf
            go_wp2
            exact ⟨_, rfl, rfl, Ext.refl _⟩
          · -- 1: t19 := indexAddr 32 t18 (const (0:i64))
            intro ac wx hE hsz hdf h
            have e18 : ac.tmps[18]? = some (.slice (some ⟨b, o, none⟩) nt (c' + 1)) := by obtain ⟨v, h1, h2⟩ := h 18 (by decide +kernel); rw [h1]; exact congrArg some h2
            clear h hsz hdf
            go_wp2
            exact ⟨_, rfl, rfl, Ext.refl _⟩
          · -- 2: t20 := load 34 t19
            intro ac wx hE hsz hdf h
            have es : ac.tmps[19]? = some (.pointer (some ⟨b, o, none⟩)) := by obtain ⟨v, h1, h2⟩ := h 19 (by decide +kernel); rw [h1]; exact congrArg some h2
            clear h hsz hdf
            refine load_el rfl (.tmp 19) rfl (b := b) (q := o) ?_ (HKW.out _ hE) ?_
            · simp [Act.eval, es]
            · exact ⟨_, rfl, rfl, Ext.refl _⟩
          · -- 3: t21 := move t1
            intro ac wx hE hsz hdf h
            have e1 : ac.tmps[1]? = some (.string ⟨l.toArray⟩) := by obtain ⟨v, h1, h2⟩ := h 1 (by decide +kernel); exact h1.trans (h2.symm.trans rfl)
            clear h hsz hdf
            go_wp2
            exact ⟨_, rfl, rfl, Ext.refl _⟩
          · -- 4: t22 := move t5
            intro ac wx hE hsz hdf h
            have e5 : ac.tmps[5]? = some (.int .i64 (iq : Nat)) := by obtain ⟨v, h1, h2⟩ := h 5 (by decide +kernel); exact h1.trans (h2.symm.trans rfl)
            clear h hsz hdf
            go_wp2
            exact ⟨_, rfl, rfl, Ext.refl _⟩
          · -- 5: t23 := slice 9 t21 none (some t22) none
            intro ac wx hE hsz hdf h
            have e21 : ac.tmps[21]? = some (.string ⟨l.toArray⟩) := by obtain ⟨v, h1, h2⟩ := h 21 (by decide +kernel); rw [h1]; exact congrArg some h2
            have e22 : ac.tmps[22]? = some (.int .i64 (iq : Nat)) := by obtain ⟨v, h1, h2⟩ := h 22 (by decide +kernel); rw [h1]; exact congrArg some h2
            clear h hsz hdf
            go_wp2
            exact ⟨_, rfl, by simp, Ext.refl _⟩
          · -- 6: t24 := call { value (Operand.func 30), args := #[t20, t23], argTypes := #[34, 9] }
            intro ac wx hE hsz hdf h
            have e20 : ac.tmps[20]? = some (.agg (dnC k m z p B nn c9).toArray) := by obtain ⟨v, h1, h2⟩ := h 20 (by decide +kernel); rw [h1]; exact congrArg some h2
            have e23 : ac.tmps[23]? = some (.string ⟨(l.take iq).toArray⟩) := by obtain ⟨v, h1, h2⟩ := h 23 (by decide +kernel); rw [h1]; exact congrArg some h2
            clear h hsz hdf
            go_wp2_with ((go_at_call 30; refine (HS.out (l.take iq) HTK.out S _ (dnC k m z p B nn c9) (HVW.out.keep hE)).mono ?_; rintro e w9 ⟨rfl, hb9⟩; rw [HQ1.out]))
            exact ⟨_, rfl, rfl, hb9⟩
          · -- 7: t25 := move t24
            intro ac wx hE hsz hdf h
            have e24 : ac.tmps[24]? = some (.bool false) := by obtain ⟨v, h1, h2⟩ := h 24 (by decide +kernel); rw [h1]; exact congrArg some h2
            clear h hsz hdf
            go_wp2
            exact ⟨_, rfl, rfl, Ext.refl _⟩
          · -- 8: t26 := move t0 (7, True)
            intro ac wx hE hsz hdf h
            have e25 : ac.tmps[25]? = some (.bool false) := by obtain ⟨v, h1, h2⟩ := h 25 (by decide +kernel); rw [h1]; exact congrArg some h2
            clear h hsz hdf
            go_wp2
            exact ⟨_, rfl, rfl, Ext.refl _⟩
          · -- 9: t27 := slice 32 t26 (some (const (1:i64))) none none (7, True)
            intro ac wx hE hsz hdf h
            have e25 : ac.tmps[25]? = some (.bool false) := by obtain ⟨v, h1, h2⟩ := h 25 (by decide +kernel); rw [h1]; exact congrArg some h2
            clear h hsz hdf
            go_wp2
            exact ⟨_, rfl, rfl, Ext.refl _⟩
          · -- 10: t28 := move t1 (7, True)
            intro ac wx hE hsz hdf h
            have e25 : ac.tmps[25]? = some (.bool false) := by obtain ⟨v, h1, h2⟩ := h 25 (by decide +kernel); rw [h1]; exact congrArg some h2
            clear h hsz hdf
            go_wp2
            exact ⟨_, rfl, rfl, Ext.refl _⟩
          · -- 11: t29 := move t5 (7, True)
            intro ac wx hE hsz hdf h
            have e25 : ac.tmps[25]? = some (.bool false) := by obtain ⟨v, h1, h2⟩ := h 25 (by decide +kernel); rw [h1]; exact congrArg some h2
            clear h hsz hdf
            go_wp2
            exact ⟨_, rfl, rfl, Ext.refl _⟩
          · -- 12: t30 := slice 9 t28 (some t29) none none (7, True)
            intro ac wx hE hsz hdf h
            have e25 : ac.tmps[25]? = some (.bool false) := by obtain ⟨v, h1, h2⟩ := h 25 (by decide +kernel); rw [h1]; exact congrArg some h2
            clear h hsz hdf
            go_wp2
            exact ⟨_, rfl, rfl, Ext.refl _⟩
          · -- 13: t31 := call { value (Operand.func 58), args := #[t27, t30], argTypes := #[32, 9] } (7, True)
            intro ac wx hE hsz hdf h
            have e25 : ac.tmps[25]? = some (.bool false) := by obtain ⟨v, h1, h2⟩ := h 25 (by decide +kernel); rw [h1]; exact congrArg some h2
            clear h hsz hdf
            go_wp2
            exact ⟨_, rfl, rfl, Ext.refl _⟩
          · -- 14: t32 := pick t25 t31 (const (Value.bool false))
            intro ac wx hE hsz hdf h
            have e25 : ac.tmps[25]? = some (.bool false) := by obtain ⟨v, h1, h2⟩ := h 25 (by decide +kernel); rw [h1]; exact congrArg some h2
            have e31 : ac.tmps[31]? = some (undef) := by obtain ⟨v, h1, h2⟩ := h 31 (by decide +kernel); rw [h1]; exact congrArg some h2
            clear h hsz hdf
            go_wp2
            exact ⟨_, rfl, by simp, Ext.refl _⟩
          · intro ac w9 hE hsz hdf h hrest
            obtain ⟨v0, s0, g0⟩ := h 0 _ rfl
            have e0 := g0 18 rfl
            obtain rfl : v0 = .slice (some ⟨b, o, none⟩) nt (c' + 1) := s0
            obtain ⟨v1, s1, g1⟩ := h 1 _ rfl
            have e1 := g1 19 rfl
            obtain rfl : v1 = .pointer (some ⟨b, o, none⟩) := s1
            obtain ⟨v2, s2, g2⟩ := h 2 _ rfl
            have e2 := g2 20 rfl
            obtain rfl : v2 = .agg (dnC k m z p B nn c9).toArray := s2
            obtain ⟨v3, s3, g3⟩ := h 3 _ rfl
            have e3 := g3 21 rfl
            obtain rfl : v3 = .string ⟨l.toArray⟩ := s3
            obtain ⟨v4, s4, g4⟩ := h 4 _ rfl
            have e4 := g4 22 rfl
            obtain rfl : v4 = .int .i64 (iq : Nat) := s4
            obtain ⟨v5, s5, g5⟩ := h 5 _ rfl
            have e5 := g5 23 rfl
            obtain rfl : v5 = .string ⟨(l.take iq).toArray⟩ := s5
            obtain ⟨v6, s6, g6⟩ := h 6 _ rfl
            have e6 := g6 24 rfl
            obtain rfl : v6 = .bool false := s6
            obtain ⟨v7, s7, g7⟩ := h 7 _ rfl
            have e7 := g7 25 rfl
            obtain rfl : v7 = .bool false := s7
            obtain ⟨v8, s8, g8⟩ := h 8 _ rfl
            have e8 := g8 26 rfl
            obtain rfl : v8 = undef := s8
            obtain ⟨v9, s9, g9⟩ := h 9 _ rfl
            have e9 := g9 27 rfl
            obtain rfl : v9 = undef := s9
            obtain ⟨v10, s10, g10⟩ := h 10 _ rfl
            have e10 := g10 28 rfl
            obtain rfl : v10 = undef := s10
            obtain ⟨v11, s11, g11⟩ := h 11 _ rfl
            have e11 := g11 29 rfl
            obtain rfl : v11 = undef := s11
            obtain ⟨v12, s12, g12⟩ := h 12 _ rfl
            have e12 := g12 30 rfl
            obtain rfl : v12 = undef := s12
            obtain ⟨v13, s13, g13⟩ := h 13 _ rfl
            have e13 := g13 31 rfl
            obtain rfl : v13 = undef := s13
            obtain ⟨v14, s14, g14⟩ := h 14 _ rfl
            have e14 := g14 32 rfl
            obtain rfl : v14 = .bool false := s14
            have ha := act_of [(18, .slice (some ⟨b, o, none⟩) nt (c' + 1)), (19, .pointer (some ⟨b, o, none⟩)), (20, .agg (dnC k m z p B nn c9).toArray), (21, .string ⟨l.toArray⟩), (22, .int .i64 (iq : Nat)), (23, .string ⟨(l.take iq).toArray⟩), (24, .bool false), (25, .bool false), (26, undef), (27, undef), (28, undef), (29, undef), (30, undef), (31, undef), (32, .bool false)] rfl hsz hdf (by intro p hp; simp only [List.mem_cons, List.not_mem_nil, or_false] at hp; rcases hp with rfl | rfl | rfl | rfl | rfl | rfl | rfl | rfl | rfl | rfl | rfl | rfl | rfl | rfl | rfl <;> first | exact e0 | exact e1 | exact e2 | exact e3 | exact e4 | exact e5 | exact e6 | exact e7 | exact e8 | exact e9 | exact e10 | exact e11 | exact e12 | exact e13 | exact e14) hrest
            clear h hrest hsz hdf e0 e1 e2 e3 e4 e5 e6 e7 e8 e9 e10 e11 e12 e13 e14 g0 g1 g2 g3 g4 g5 g6 g7 g8 g9 g10 g11 g12 g13 g14
            subst ha
            simp only [List.foldl_cons, List.foldl_nil, Act.put, List.setIfInBounds_toArray, List.set_cons_succ, List.set_cons_zero]
            have HXX := Lib.hid (Ext.trans HXW.out hE)
            go_wp2
            go_roundg (l.length + 1 - (iq + 1))
            case measure => omega
            case rel =>
              refine ⟨iq + 1, by omega, rfl, by go_num, fun j h2 => ?_, HXX.out⟩
              by_cases e : j = iq
              · subst e; exact fun h => decB_not.1 HQ1.out h.1
              · exact HNO.out j (by omega)
        · have HQ1 := Lib.hid hq1
          clear hq1
          cases hq2 : decB (LangCat ts (l.drop iq))
          · have HQ2 := Lib.hid hq2
            clear hq2
            go_upto_region 6 with fail
            refine wp_region_dag (E := Ext) (w0 := wr) (Φ := fun i v w => match i with | 0 => (v = .slice (some ⟨b, o, none⟩) nt (c' + 1)) | 1 => (v = .pointer (some ⟨b, o, none⟩)) | 2 => (v = .agg (dnC k m z p B nn c9).toArray) | 3 => (v = .string ⟨l.toArray⟩) | 4 => (v = .int .i64 (iq : Nat)) | 5 => (v = .string ⟨(l.take iq).toArray⟩) | 6 => (v = .bool true) | 7 => (v = .bool true) | 8 => (v = .slice (some ⟨b, o, none⟩) nt (c' + 1)) | 9 => (∃ A', v = .slice A' ts.length c' ∧ Rd w 260 A' ts.length cs') | 10 => (v = .string ⟨l.toArray⟩) | 11 => (v = .int .i64 (iq : Nat)) | 12 => (v = .string ⟨(l.drop iq).toArray⟩) | 13 => (v = .bool false) | 14 => (v = .bool false) | _ => True) (show Tryd.prog.follows .mixedOrders = true from Checked.mixed Tryd.checked) 33 rfl (by decide +kernel) ?_ ((Below.refl _ _).drew) ?_ ⟨?_, ?_, ?_, ?_, ?_, ?_, ?_, ?_, ?_, ?_, ?_, ?_, ?_, ?_, ?_, trivial⟩ ?_
            · intro i v w w' h hE
              match i, h with
              | 0, h => exact h
              | 1, h => exact h
              | 2, h => exact h
              | 3, h => exact h
              | 4, h => exact h
              | 5, h => exact h
              | 6, h => exact h
              | 7, h => exact h
              | 8, h => exact h
              | 9, h => exact by obtain ⟨A', h1, h2⟩ := h; exact ⟨A', h1, h2.keep hE⟩
              | 10, h => exact h
              | 11, h => exact h
              | 12, h => exact h
              | 13, h => exact h
              | 14, h => exact h
              | _ + 15, _ => trivial
            · exact fun w w' h h' => h.trans h'
            · -- 0: t18 := move t0
              intro ac wx hE hsz hdf h
              have e0 : ac.tmps[0]? = some (.slice (some ⟨b, o, none⟩) nt (c' + 1)) := by obtain ⟨v, h1, h2⟩ := h 0 (by decide +kernel); exact h1.trans (h2.symm.trans rfl)
              clear h hsz hdf
              go_wp2
              exact ⟨_, rfl, rfl, Ext.refl _⟩
            · -- 1: t19 := indexAddr 32 t18 (const (0:i64))
              intro ac wx hE hsz hdf h
              have e18 : ac.tmps[18]? = some (.slice (some ⟨b, o, none⟩) nt (c' + 1)) := by obtain ⟨v, h1, h2⟩ := h 18 (by decide +kernel); rw [h1]; exact congrArg some h2
              clear h hsz hdf
              go_wp2
              exact ⟨_, rfl, rfl, Ext.refl _⟩
            · -- 2: t20 := load 34 t19
              intro ac wx hE hsz hdf h
              have es : ac.tmps[19]? = some (.pointer (some ⟨b, o, none⟩)) := by obtain ⟨v, h1, h2⟩ := h 19 (by decide +kernel); rw [h1]; exact congrArg some h2
              clear h hsz hdf
              refine load_el rfl (.tmp 19) rfl (b := b) (q := o) ?_ (HKW.out _ hE) ?_
              · simp [Act.eval, es]
              · exact ⟨_, rfl, rfl, Ext.refl _⟩
            · -- 3: t21 := move t1
              intro ac wx hE hsz hdf h
              have e1 : ac.tmps[1]? = some (.string ⟨l.toArray⟩) := by obtain ⟨v, h1, h2⟩ := h 1 (by decide +kernel); exact h1.trans (h2.symm.trans rfl)
              clear h hsz hdf
              go_wp2
              exact ⟨_, rfl, rfl, Ext.refl _⟩
            · -- 4: t22 := move t5
              intro ac wx hE hsz hdf h
              have e5 : ac.tmps[5]? = some (.int .i64 (iq : Nat)) := by obtain ⟨v, h1, h2⟩ := h 5 (by decide +kernel); exact h1.trans (h2.symm.trans rfl)
              clear h hsz hdf
              go_wp2
              exact ⟨_, rfl, rfl, Ext.refl _⟩
            · -- 5: t23 := slice 9 t21 none (some t22) none
              intro ac wx hE hsz hdf h
              have e21 : ac.tmps[21]? = some (.string ⟨l.toArray⟩) := by obtain ⟨v, h1, h2⟩ := h 21 (by decide +kernel); rw [h1]; exact congrArg some h2
              have e22 : ac.tmps[22]? = some (.int .i64 (iq : Nat)) := by obtain ⟨v, h1, h2⟩ := h 22 (by decide +kernel); rw [h1]; exact congrArg some h2
              clear h hsz hdf
              go_wp2
              exact ⟨_, rfl, by simp, Ext.refl _⟩
            · -- 6: t24 := call { value (Operand.func 30), args := #[t20, t23], argTypes := #[34, 9] }
              intro ac wx hE hsz hdf h
              have e20 : ac.tmps[20]? = some (.agg (dnC k m z p B nn c9).toArray) := by obtain ⟨v, h1, h2⟩ := h 20 (by decide +kernel); rw [h1]; exact congrArg some h2
              have e23 : ac.tmps[23]? = some (.string ⟨(l.take iq).toArray⟩) := by obtain ⟨v, h1, h2⟩ := h 23 (by decide +kernel); rw [h1]; exact congrArg some h2
              clear h hsz hdf
              go_wp2_with ((go_at_call 30; refine (HS.out (l.take iq) HTK.out S _ (dnC k m z p B nn c9) (HVW.out.keep hE)).mono ?_; rintro e w9 ⟨rfl, hb9⟩; rw [HQ1.out]))
              exact ⟨_, rfl, rfl, hb9⟩
            · -- 7: t25 := move t24
              intro ac wx hE hsz hdf h
              have e24 : ac.tmps[24]? = some (.bool true) := by obtain ⟨v, h1, h2⟩ := h 24 (by decide +kernel); rw [h1]; exact congrArg some h2
              clear h hsz hdf
              go_wp2
              exact ⟨_, rfl, rfl, Ext.refl _⟩
            · -- 8: t26 := move t0 (7, True)
              intro ac wx hE hsz hdf h
              have e0 : ac.tmps[0]? = some (.slice (some ⟨b, o, none⟩) nt (c' + 1)) := by obtain ⟨v, h1, h2⟩ := h 0 (by decide +kernel); exact h1.trans (h2.symm.trans rfl)
              have e25 : ac.tmps[25]? = some (.bool true) := by obtain ⟨v, h1, h2⟩ := h 25 (by decide +kernel); rw [h1]; exact congrArg some h2
              clear h hsz hdf
              go_wp2
              exact ⟨_, rfl, rfl, Ext.refl _⟩
            · -- 9: t27 := slice 32 t26 (some (const (1:i64))) none none (7, True)
              intro ac wx hE hsz hdf h
              have e26 : ac.tmps[26]? = some (.slice (some ⟨b, o, none⟩) nt (c' + 1)) := by obtain ⟨v, h1, h2⟩ := h 26 (by decide +kernel); rw [h1]; exact congrArg some h2
              have e25 : ac.tmps[25]? = some (.bool true) := by obtain ⟨v, h1, h2⟩ := h 25 (by decide +kernel); rw [h1]; exact congrArg some h2
              clear h hsz hdf
              have hts : nt - 1 = ts.length := by have := HNT.out; omega
              by_cases hc0 : c' = 0
              · subst hc0
                have h0 : ts = [] := List.eq_nil_of_length_eq_zero (by have := HC1.out; omega)
                have hcs : cs' = [] := List.eq_nil_of_length_eq_zero (by have := HRTW.out.1; rw [h0] at this; simpa using this)
                go_wp2
                exact ⟨_, rfl, ⟨some ⟨b, o, none⟩, by simp [h0], by rw [h0, hcs]; exact Rd.nil⟩, Ext.refl _⟩
              · have hc0' : 1 < c' + 1 := by omega
                go_wp2
                exact ⟨_, rfl, ⟨some ⟨b, o + 260, none⟩, by simp, HRTW.out.keep hE⟩, Ext.refl _⟩
            · -- 10: t28 := move t1 (7, True)
              intro ac wx hE hsz hdf h
              have e1 : ac.tmps[1]? = some (.string ⟨l.toArray⟩) := by obtain ⟨v, h1, h2⟩ := h 1 (by decide +kernel); exact h1.trans (h2.symm.trans rfl)
              have e25 : ac.tmps[25]? = some (.bool true) := by obtain ⟨v, h1, h2⟩ := h 25 (by decide +kernel); rw [h1]; exact congrArg some h2
              clear h hsz hdf
              go_wp2
              exact ⟨_, rfl, rfl, Ext.refl _⟩
            · -- 11: t29 := move t5 (7, True)
              intro ac wx hE hsz hdf h
              have e5 : ac.tmps[5]? = some (.int .i64 (iq : Nat)) := by obtain ⟨v, h1, h2⟩ := h 5 (by decide +kernel); exact h1.trans (h2.symm.trans rfl)
              have e25 : ac.tmps[25]? = some (.bool true) := by obtain ⟨v, h1, h2⟩ := h 25 (by decide +kernel); rw [h1]; exact congrArg some h2
              clear h hsz hdf
              go_wp2
              exact ⟨_, rfl, rfl, Ext.refl _⟩
            · -- 12: t30 := slice 9 t28 (some t29) none none (7, True)
              intro ac wx hE hsz hdf h
              have e28 : ac.tmps[28]? = some (.string ⟨l.toArray⟩) := by obtain ⟨v, h1, h2⟩ := h 28 (by decide +kernel); rw [h1]; exact congrArg some h2
              have e29 : ac.tmps[29]? = some (.int .i64 (iq : Nat)) := by obtain ⟨v, h1, h2⟩ := h 29 (by decide +kernel); rw [h1]; exact congrArg some h2
              have e25 : ac.tmps[25]? = some (.bool true) := by obtain ⟨v, h1, h2⟩ := h 25 (by decide +kernel); rw [h1]; exact congrArg some h2
              clear h hsz hdf
              go_wp2
              exact ⟨_, rfl, by simp, Ext.refl _⟩
            · -- 13: t31 := call { value (Operand.func 58), args := #[t27, t30], argTypes := #[32, 9] } (7, True)
              intro ac wx hE hsz hdf h
              obtain ⟨v27, e27, s27⟩ : ∃ v, ac.tmps[27]? = some v ∧ (∃ A', v = .slice A' ts.length c' ∧ Rd wx 260 A' ts.length cs') := h 27 (by decide +kernel)
              have e30 : ac.tmps[30]? = some (.string ⟨(l.drop iq).toArray⟩) := by obtain ⟨v, h1, h2⟩ := h 30 (by decide +kernel); rw [h1]; exact congrArg some h2
              have e25 : ac.tmps[25]? = some (.bool true) := by obtain ⟨v, h1, h2⟩ := h 25 (by decide +kernel); rw [h1]; exact congrArg some h2
              clear h hsz hdf
              obtain ⟨A', rfl, hr9⟩ := s27
              go_wp2_with ((go_at_call 58; refine (HIH.out (l.drop iq) HDK.out S _ A' c' cs' hr9 (dkidsV_map (fun t v h => DNodeV.keep h hE) HKTW.out) HC1.out HC2.out).mono ?_; rintro e w9 ⟨rfl, hb9⟩; rw [HQ2.out]))
              exact ⟨_, rfl, rfl, hb9⟩
            · -- 14: t32 := pick t25 t31 (const (Value.bool false))
              intro ac wx hE hsz hdf h
              have e25 : ac.tmps[25]? = some (.bool true) := by obtain ⟨v, h1, h2⟩ := h 25 (by decide +kernel); rw [h1]; exact congrArg some h2
              have e31 : ac.tmps[31]? = some (.bool false) := by obtain ⟨v, h1, h2⟩ := h 31 (by decide +kernel); rw [h1]; exact congrArg some h2
              clear h hsz hdf
              go_wp2
              exact ⟨_, rfl, by simp, Ext.refl _⟩
            · intro ac w9 hE hsz hdf h hrest
              obtain ⟨v0, s0, g0⟩ := h 0 _ rfl
              have e0 := g0 18 rfl
              obtain rfl : v0 = .slice (some ⟨b, o, none⟩) nt (c' + 1) := s0
              obtain ⟨v1, s1, g1⟩ := h 1 _ rfl
              have e1 := g1 19 rfl
              obtain rfl : v1 = .pointer (some ⟨b, o, none⟩) := s1
              obtain ⟨v2, s2, g2⟩ := h 2 _ rfl
              have e2 := g2 20 rfl
              obtain rfl : v2 = .agg (dnC k m z p B nn c9).toArray := s2
              obtain ⟨v3, s3, g3⟩ := h 3 _ rfl
              have e3 := g3 21 rfl
              obtain rfl : v3 = .string ⟨l.toArray⟩ := s3
              obtain ⟨v4, s4, g4⟩ := h 4 _ rfl
              have e4 := g4 22 rfl
              obtain rfl : v4 = .int .i64 (iq : Nat) := s4
              obtain ⟨v5, s5, g5⟩ := h 5 _ rfl
              have e5 := g5 23 rfl
              obtain rfl : v5 = .string ⟨(l.take iq).toArray⟩ := s5
              obtain ⟨v6, s6, g6⟩ := h 6 _ rfl
              have e6 := g6 24 rfl
              obtain rfl : v6 = .bool true := s6
              obtain ⟨v7, s7, g7⟩ := h 7 _ rfl
              have e7 := g7 25 rfl
              obtain rfl : v7 = .bool true := s7
              obtain ⟨v8, s8, g8⟩ := h 8 _ rfl
              have e8 := g8 26 rfl
              obtain rfl : v8 = .slice (some ⟨b, o, none⟩) nt (c' + 1) := s8
              obtain ⟨v9, s9, g9⟩ := h 9 _ rfl
              have e9 := g9 27 rfl
              replace s9 : ∃ A', v9 = .slice A' ts.length c' ∧ Rd w9 260 A' ts.length cs' := s9
              obtain ⟨v10, s10, g10⟩ := h 10 _ rfl
              have e10 := g10 28 rfl
              obtain rfl : v10 = .string ⟨l.toArray⟩ := s10
              obtain ⟨v11, s11, g11⟩ := h 11 _ rfl
              have e11 := g11 29 rfl
              obtain rfl : v11 = .int .i64 (iq : Nat) := s11
              obtain ⟨v12, s12, g12⟩ := h 12 _ rfl
              have e12 := g12 30 rfl
              obtain rfl : v12 = .string ⟨(l.drop iq).toArray⟩ := s12
              obtain ⟨v13, s13, g13⟩ := h 13 _ rfl
              have e13 := g13 31 rfl
              obtain rfl : v13 = .bool false := s13
              obtain ⟨v14, s14, g14⟩ := h 14 _ rfl
              have e14 := g14 32 rfl
              obtain rfl : v14 = .bool false := s14
              have ha := act_of [(18, .slice (some ⟨b, o, none⟩) nt (c' + 1)), (19, .pointer (some ⟨b, o, none⟩)), (20, .agg (dnC k m z p B nn c9).toArray), (21, .string ⟨l.toArray⟩), (22, .int .i64 (iq : Nat)), (23, .string ⟨(l.take iq).toArray⟩), (24, .bool true), (25, .bool true), (26, .slice (some ⟨b, o, none⟩) nt (c' + 1)), (27, v9), (28, .string ⟨l.toArray⟩), (29, .int .i64 (iq : Nat)), (30, .string ⟨(l.drop iq).toArray⟩), (31, .bool false), (32, .bool false)] rfl hsz hdf (by intro p hp; simp only [List.mem_cons, List.not_mem_nil, or_false] at hp; rcases hp with rfl | rfl | rfl | rfl | rfl | rfl | rfl | rfl | rfl | rfl | rfl | rfl | rfl | rfl | rfl <;> first | exact e0 | exact e1 | exact e2 | exact e3 | exact e4 | exact e5 | exact e6 | exact e7 | exact e8 | exact e9 | exact e10 | exact e11 | exact e12 | exact e13 | exact e14) hrest
              clear h hrest hsz hdf e0 e1 e2 e3 e4 e5 e6 e7 e8 e9 e10 e11 e12 e13 e14 g0 g1 g2 g3 g4 g5 g6 g7 g8 g9 g10 g11 g12 g13 g14
              subst ha
              simp only [List.foldl_cons, List.foldl_nil, Act.put, List.setIfInBounds_toArray, List.set_cons_succ, List.set_cons_zero]
              have HXX := Lib.hid (Ext.trans HXW.out hE)
              go_wp2
              go_roundg (l.length + 1 - (iq + 1))
              case measure => omega
              case rel =>
                refine ⟨iq + 1, by omega, rfl, by go_num, fun j h2 => ?_, HXX.out⟩
                by_cases e : j = iq
                · subst e; exact fun h => decB_not.1 HQ2.out h.2
                · exact HNO.out j (by omega)
          · have HQ2 := Lib.hid hq2
            clear hq2
            go_upto_region 6 with fail
            refine wp_region_dag (E := Ext) (w0 := wr) (Φ := fun i v w => match i with | 0 => (v = .slice (some ⟨b, o, none⟩) nt (c' + 1)) | 1 => (v = .pointer (some ⟨b, o, none⟩)) | 2 => (v = .agg (dnC k m z p B nn c9).toArray) | 3 => (v = .string ⟨l.toArray⟩) | 4 => (v = .int .i64 (iq : Nat)) | 5 => (v = .string ⟨(l.take iq).toArray⟩) | 6 => (v = .bool true) | 7 => (v = .bool true) | 8 => (v = .slice (some ⟨b, o, none⟩) nt (c' + 1)) | 9 => (∃ A', v = .slice A' ts.length c' ∧ Rd w 260 A' ts.length cs') | 10 => (v = .string ⟨l.toArray⟩) | 11 => (v = .int .i64 (iq : Nat)) | 12 => (v = .string ⟨(l.drop iq).toArray⟩) | 13 => (v = .bool true) | 14 => (v = .bool true) | _ => True) (show Tryd.prog.follows .mixedOrders = true from Checked.mixed Tryd.checked) 33 rfl (by decide +kernel) ?_ ((Below.refl _ _).drew) ?_ ⟨?_, ?_, ?_, ?_, ?_, ?_, ?_, ?_, ?_, ?_, ?_, ?_, ?_, ?_, ?_, trivial⟩ ?_
            · intro i v w w' h hE
              match i, h with
              | 0, h => exact h
              | 1, h => exact h
              | 2, h => exact h
              | 3, h => exact h
              | 4, h => exact h
              | 5, h => exact h
              | 6, h => exact h
              | 7, h => exact h
              | 8, h => exact h
              | 9, h => exact by obtain ⟨A', h1, h2⟩ := h; exact ⟨A', h1, h2.keep hE⟩
              | 10, h => exact h
              | 11, h => exact h
              | 12, h => exact h
              | 13, h => exact h
              | 14, h => exact h
              | _ + 15, _ => trivial
            · exact fun w w' h h' => h.trans h'
            · -- 0: t18 := move t0
              intro ac wx hE hsz hdf h
              have e0 : ac.tmps[0]? = some (.slice (some ⟨b, o, none⟩) nt (c' + 1)) := by obtain ⟨v, h1, h2⟩ := h 0 (by decide +kernel); exact h1.trans (h2.symm.trans rfl)
              clear h hsz hdf
              go_wp2
              exact ⟨_, rfl, rfl, Ext.refl _⟩
            · -- 1: t19 := indexAddr 32 t18 (const (0:i64))
              intro ac wx hE hsz hdf h
              have e18 : ac.tmps[18]? = some (.slice (some ⟨b, o, none⟩) nt (c' + 1)) := by obtain ⟨v, h1, h2⟩ := h 18 (by decide +kernel); rw [h1]; exact congrArg some h2
              clear h hsz hdf
              go_wp2
              exact ⟨_, rfl, rfl, Ext.refl _⟩
            · -- 2: t20 := load 34 t19
              intro ac wx hE hsz hdf h
              have es : ac.tmps[19]? = some (.pointer (some ⟨b, o, none⟩)) := by obtain ⟨v, h1, h2⟩ := h 19 (by decide +kernel); rw [h1]; exact congrArg some h2
              clear h hsz hdf
              refine load_el rfl (.tmp 19) rfl (b := b) (q := o) ?_ (HKW.out _ hE) ?_
              · simp [Act.eval, es]
              · exact ⟨_, rfl, rfl, Ext.refl _⟩
            · -- 3: t21 := move t1
              intro ac wx hE hsz hdf h
              have e1 : ac.tmps[1]? = some (.string ⟨l.toArray⟩) := by obtain ⟨v, h1, h2⟩ := h 1 (by decide +kernel); exact h1.trans (h2.symm.trans rfl)
              clear h hsz hdf
              go_wp2
              exact ⟨_, rfl, rfl, Ext.refl _⟩
            · -- 4: t22 := move t5
              intro ac wx hE hsz hdf h
              have e5 : ac.tmps[5]? = some (.int .i64 (iq : Nat)) := by obtain ⟨v, h1, h2⟩ := h 5 (by decide +kernel); exact h1.trans (h2.symm.trans rfl)
              clear h hsz hdf
              go_wp2
              exact ⟨_, rfl, rfl, Ext.refl _⟩
            · -- 5: t23 := slice 9 t21 none (some t22) none
              intro ac wx hE hsz hdf h
              have e21 : ac.tmps[21]? = some (.string ⟨l.toArray⟩) := by obtain ⟨v, h1, h2⟩ := h 21 (by decide +kernel); rw [h1]; exact congrArg some h2
              have e22 : ac.tmps[22]? = some (.int .i64 (iq : Nat)) := by obtain ⟨v, h1, h2⟩ := h 22 (by decide +kernel); rw [h1]; exact congrArg some h2
              clear h hsz hdf
              go_wp2
              exact ⟨_, rfl, by simp, Ext.refl _⟩
            · -- 6: t24 := call { value (Operand.func 30), args := #[t20, t23], argTypes := #[34, 9] }
              intro ac wx hE hsz hdf h
              have e20 : ac.tmps[20]? = some (.agg (dnC k m z p B nn c9).toArray) := by obtain ⟨v, h1, h2⟩ := h 20 (by decide +kernel); rw [h1]; exact congrArg some h2
              have e23 : ac.tmps[23]? = some (.string ⟨(l.take iq).toArray⟩) := by obtain ⟨v, h1, h2⟩ := h 23 (by decide +kernel); rw [h1]; exact congrArg some h2
              clear h hsz hdf
              go_wp2_with ((go_at_call 30; refine (HS.out (l.take iq) HTK.out S _ (dnC k m z p B nn c9) (HVW.out.keep hE)).mono ?_; rintro e w9 ⟨rfl, hb9⟩; rw [HQ1.out]))
              exact ⟨_, rfl, rfl, hb9⟩
            · -- 7: t25 := move t24
              intro ac wx hE hsz hdf h
              have e24 : ac.tmps[24]? = some (.bool true) := by obtain ⟨v, h1, h2⟩ := h 24 (by decide +kernel); rw [h1]; exact congrArg some h2
              clear h hsz hdf
              go_wp2
              exact ⟨_, rfl, rfl, Ext.refl _⟩
            · -- 8: t26 := move t0 (7, True)
              intro ac wx hE hsz hdf h
              have e0 : ac.tmps[0]? = some (.slice (some ⟨b, o, none⟩) nt (c' + 1)) := by obtain ⟨v, h1, h2⟩ := h 0 (by decide +kernel); exact h1.trans (h2.symm.trans rfl)
              have e25 : ac.tmps[25]? = some (.bool true) := by obtain ⟨v, h1, h2⟩ := h 25 (by decide +kernel); rw [h1]; exact congrArg some h2
              clear h hsz hdf
              go_wp2
              exact ⟨_, rfl, rfl, Ext.refl _⟩
            · -- 9: t27 := slice 32 t26 (some (const (1:i64))) none none (7, True)
              intro ac wx hE hsz hdf h
              have e26 : ac.tmps[26]? = some (.slice (some ⟨b, o, none⟩) nt (c' + 1)) := by obtain ⟨v, h1, h2⟩ := h 26 (by decide +kernel); rw [h1]; exact congrArg some h2
              have e25 : ac.tmps[25]? = some (.bool true) := by obtain ⟨v, h1, h2⟩ := h 25 (by decide +kernel); rw [h1]; exact congrArg some h2
              clear h hsz hdf
              have hts : nt - 1 = ts.length := by have := HNT.out; omega
              by_cases hc0 : c' = 0
              · subst hc0
                have h0 : ts = [] := List.eq_nil_of_length_eq_zero (by have := HC1.out; omega)
                have hcs : cs' = [] := List.eq_nil_of_length_eq_zero (by have := HRTW.out.1; rw [h0] at this; simpa using this)
                go_wp2
                exact ⟨_, rfl, ⟨some ⟨b, o, none⟩, by simp [h0], by rw [h0, hcs]; exact Rd.nil⟩, Ext.refl _⟩
              · have hc0' : 1 < c' + 1 := by omega
                go_wp2
                exact ⟨_, rfl, ⟨some ⟨b, o + 260, none⟩, by simp, HRTW.out.keep hE⟩, Ext.refl _⟩
            · -- 10: t28 := move t1 (7, True)
              intro ac wx hE hsz hdf h
              have e1 : ac.tmps[1]? = some (.string ⟨l.toArray⟩) := by obtain ⟨v, h1, h2⟩ := h 1 (by decide +kernel); exact h1.trans (h2.symm.trans rfl)
              have e25 : ac.tmps[25]? = some (.bool true) := by obtain ⟨v, h1, h2⟩ := h 25 (by decide +kernel); rw [h1]; exact congrArg some h2
              clear h hsz hdf
              go_wp2
              exact ⟨_, rfl, rfl, Ext.refl _⟩
            · -- 11: t29 := move t5 (7, True)
              intro ac wx hE hsz hdf h
              have e5 : ac.tmps[5]? = some (.int .i64 (iq : Nat)) := by obtain ⟨v, h1, h2⟩ := h 5 (by decide +kernel); exact h1.trans (h2.symm.trans rfl)
              have e25 : ac.tmps[25]? = some (.bool true) := by obtain ⟨v, h1, h2⟩ := h 25 (by decide +kernel); rw [h1]; exact congrArg some h2
              clear h hsz hdf
              go_wp2
              exact ⟨_, rfl, rfl, Ext.refl _⟩
            · -- 12: t30 := slice 9 t28 (some t29) none none (7, True)
              intro ac wx hE hsz hdf h
              have e28 : ac.tmps[28]? = some (.string ⟨l.toArray⟩) := by obtain ⟨v, h1, h2⟩ := h 28 (by decide +kernel); rw [h1]; exact congrArg some h2
              have e29 : ac.tmps[29]? = some (.int .i64 (iq : Nat)) := by obtain ⟨v, h1, h2⟩ := h 29 (by decide +kernel); rw [h1]; exact congrArg some h2
              have e25 : ac.tmps[25]? = some (.bool true) := by obtain ⟨v, h1, h2⟩ := h 25 (by decide +kernel); rw [h1]; exact congrArg some h2
              clear h hsz hdf
              go_wp2
              exact ⟨_, rfl, by simp, Ext.refl _⟩
            · -- 13: t31 := call { value (Operand.func 58), args := #[t27, t30], argTypes := #[32, 9] } (7, True)
              intro ac wx hE hsz hdf h
              obtain ⟨v27, e27, s27⟩ : ∃ v, ac.tmps[27]? = some v ∧ (∃ A', v = .slice A' ts.length c' ∧ Rd wx 260 A' ts.length cs') := h 27 (by decide +kernel)
              have e30 : ac.tmps[30]? = some (.string ⟨(l.drop iq).toArray⟩) := by obtain ⟨v, h1, h2⟩ := h 30 (by decide +kernel); rw [h1]; exact congrArg some h2
              have e25 : ac.tmps[25]? = some (.bool true) := by obtain ⟨v, h1, h2⟩ := h 25 (by decide +kernel); rw [h1]; exact congrArg some h2
              clear h hsz hdf
              obtain ⟨A', rfl, hr9⟩ := s27
              go_wp2_with ((go_at_call 58; refine (HIH.out (l.drop iq) HDK.out S _ A' c' cs' hr9 (dkidsV_map (fun t v h => DNodeV.keep h hE) HKTW.out) HC1.out HC2.out).mono ?_; rintro e w9 ⟨rfl, hb9⟩; rw [HQ2.out]))
              exact ⟨_, rfl, rfl, hb9⟩
            · -- 14: t32 := pick t25 t31 (const (Value.bool false))
              intro ac wx hE hsz hdf h
              have e25 : ac.tmps[25]? = some (.bool true) := by obtain ⟨v, h1, h2⟩ := h 25 (by decide +kernel); rw [h1]; exact congrArg some h2
              have e31 : ac.tmps[31]? = some (.bool true) := by obtain ⟨v, h1, h2⟩ := h 31 (by decide +kernel); rw [h1]; exact congrArg some h2
              clear h hsz hdf
              go_wp2
              exact ⟨_, rfl, by simp, Ext.refl _⟩
            · intro ac w9 hE hsz hdf h hrest
              obtain ⟨v0, s0, g0⟩ := h 0 _ rfl
              have e0 := g0 18 rfl
              obtain rfl : v0 = .slice (some ⟨b, o, none⟩) nt (c' + 1) := s0
              obtain ⟨v1, s1, g1⟩ := h 1 _ rfl
              have e1 := g1 19 rfl
              obtain rfl : v1 = .pointer (some ⟨b, o, none⟩) := s1
              obtain ⟨v2, s2, g2⟩ := h 2 _ rfl
              have e2 := g2 20 rfl
              obtain rfl : v2 = .agg (dnC k m z p B nn c9).toArray := s2
              obtain ⟨v3, s3, g3⟩ := h 3 _ rfl
              have e3 := g3 21 rfl
              obtain rfl : v3 = .string ⟨l.toArray⟩ := s3
              obtain ⟨v4, s4, g4⟩ := h 4 _ rfl
              have e4 := g4 22 rfl
              obtain rfl : v4 = .int .i64 (iq : Nat) := s4
              obtain ⟨v5, s5, g5⟩ := h 5 _ rfl
              have e5 := g5 23 rfl
              obtain rfl : v5 = .string ⟨(l.take iq).toArray⟩ := s5
              obtain ⟨v6, s6, g6⟩ := h 6 _ rfl
              have e6 := g6 24 rfl
              obtain rfl : v6 = .bool true := s6
              obtain ⟨v7, s7, g7⟩ := h 7 _ rfl
              have e7 := g7 25 rfl
              obtain rfl : v7 = .bool true := s7
              obtain ⟨v8, s8, g8⟩ := h 8 _ rfl
              have e8 := g8 26 rfl
              obtain rfl : v8 = .slice (some ⟨b, o, none⟩) nt (c' + 1) := s8
              obtain ⟨v9, s9, g9⟩ := h 9 _ rfl
              have e9 := g9 27 rfl
              replace s9 : ∃ A', v9 = .slice A' ts.length c' ∧ Rd w9 260 A' ts.length cs' := s9
              obtain ⟨v10, s10, g10⟩ := h 10 _ rfl
              have e10 := g10 28 rfl
              obtain rfl : v10 = .string ⟨l.toArray⟩ := s10
              obtain ⟨v11, s11, g11⟩ := h 11 _ rfl
              have e11 := g11 29 rfl
              obtain rfl : v11 = .int .i64 (iq : Nat) := s11
              obtain ⟨v12, s12, g12⟩ := h 12 _ rfl
              have e12 := g12 30 rfl
              obtain rfl : v12 = .string ⟨(l.drop iq).toArray⟩ := s12
              obtain ⟨v13, s13, g13⟩ := h 13 _ rfl
              have e13 := g13 31 rfl
              obtain rfl : v13 = .bool true := s13
              obtain ⟨v14, s14, g14⟩ := h 14 _ rfl
              have e14 := g14 32 rfl
              obtain rfl : v14 = .bool true := s14
              have ha := act_of [(18, .slice (some ⟨b, o, none⟩) nt (c' + 1)), (19, .pointer (some ⟨b, o, none⟩)), (20, .agg (dnC k m z p B nn c9).toArray), (21, .string ⟨l.toArray⟩), (22, .int .i64 (iq : Nat)), (23, .string ⟨(l.take iq).toArray⟩), (24, .bool true), (25, .bool true), (26, .slice (some ⟨b, o, none⟩) nt (c' + 1)), (27, v9), (28, .string ⟨l.toArray⟩), (29, .int .i64 (iq : Nat)), (30, .string ⟨(l.drop iq).toArray⟩), (31, .bool true), (32, .bool true)] rfl hsz hdf (by intro p hp; simp only [List.mem_cons, List.not_mem_nil, or_false] at hp; rcases hp with rfl | rfl | rfl | rfl | rfl | rfl | rfl | rfl | rfl | rfl | rfl | rfl | rfl | rfl | rfl <;> first | exact e0 | exact e1 | exact e2 | exact e3 | exact e4 | exact e5 | exact e6 | exact e7 | exact e8 | exact e9 | exact e10 | exact e11 | exact e12 | exact e13 | exact e14) hrest
              clear h hrest hsz hdf e0 e1 e2 e3 e4 e5 e6 e7 e8 e9 e10 e11 e12 e13 e14 g0 g1 g2 g3 g4 g5 g6 g7 g8 g9 g10 g11 g12 g13 g14
              subst ha
              simp only [List.foldl_cons, List.foldl_nil, Act.put, List.setIfInBounds_toArray, List.set_cons_succ, List.set_cons_zero]
              have HXX := Lib.hid (Ext.trans HXW.out hE)
              have HRR := Lib.hid (show R = true by rw [← HR.out]; exact decB_iff.2 (lang_cat_at.2 ⟨iq, by omega, decB_iff.1 HQ1.out, decB_iff.1 HQ2.out⟩))
              go_wp2
              go_ret
              exact ⟨by rw [HRR.out]; rfl, HXX.out⟩
      · have hlt' : ¬ (iq : Int) ≤ (l.length : Int) := by omega
        have HRR := Lib.hid (show R = false by
          rw [← HR.out]
          refine decB_not.2 fun h => ?_
          obtain ⟨j, h1, h2, h3⟩ := lang_cat_at.1 h
          exact HNO.out j (by omega) ⟨h2, h3⟩)
        go_wp2
        go_ret
        exact ⟨by rw [HRR.out]; rfl, hx⟩

theorem alt_drop {ks : List T} {l : List UInt8} {i : Nat} (hi : i < ks.length) : LangAlt (ks.drop i) l ↔ Lang (ks[i]'hi) l ∨ LangAlt (ks.drop (i + 1)) l := by
  rw [List.drop_eq_getElem_cons hi, LangAlt]
theorem lang_head {ks : List T} (h : 0 < ks.length) (l : List UInt8) : LangHead ks l ↔ Lang (ks[0]'h) l := by
  cases ks with
  | nil => simp at h
  | cons x r => rfl
theorem lang_head' {ks : List T} (h : 0 < ks.length) : LangHead ks = Lang (ks[0]'h) := by
  cases ks with
  | nil => simp at h
  | cons x r => rfl
theorem dec_empty (l : List UInt8) : ((l.length : Int) == 0) = decB (l = []) := by
  rw [Bool.eq_iff_iff, decB_iff, beq_iff_eq]
  exact ⟨fun h => List.eq_nil_of_length_eq_zero (by omega), fun h => by rw [h]; rfl⟩

set_option maxHeartbeats 8000000 in
set_option maxRecDepth 20000 in
theorem refSaysN : ∀ n, ∀ t : T, t.size ≤ n → t.good → SaysD t := by
  intro n
  induction n with
  | zero => intro t ht; have := size_pos t; omega
  | succ n ih =>
    intro t ht hgood l hn S w v h
    cases t with
    | node k m z p ks =>
      obtain ⟨A, c, cs, rfl, h1, h2, h3, h5⟩ := h.kids
      rw [size_node] at ht
      unfold T.good at hgood
      obtain ⟨hk1, hk8, hk5, hgl⟩ := hgood
      have hks : ∀ t ∈ ks, SaysD t := fun x hx => ih x (by have := sizeL_mem hx; omega) (goodL_mem hgl hx)
      have hx0 := Lib.hid (Ext.new1 w (.cells (dnC k m z p A ks.length c).toArray 34))
      have HR := Lib.hid (h3.keep hx0.out)
      have HK := Lib.hid (dkidsV_map (fun t v h => DNodeV.keep h hx0.out) h5)
      have HB := Lib.hid (DB.new w k m z p A ks.length c)
      have HKS := Lib.hid hks
      have HN := Lib.hid hn
      have HC1 := Lib.hid h1
      have HC2 := Lib.hid h2
      have HK5 := Lib.hid hk5
      have HLN := Lib.hid (show ks.length ≤ 9223372036854775807 by unfold maxLen at h2; omega)
      have HDE := Lib.hid (dec_empty l)
      clear h3 h5 h h1 h2 ht hgl hks ih hn hk5
      by_cases k1 : k = 1
      · subst k1
        obtain ⟨R, hR⟩ : ∃ R, decB (l = []) = R := ⟨_, rfl⟩
        have hst : decB (Lang (.node 1 m z p ks) l) = R := by rw [← hR]; exact decB_congr (by simp [Lang])
        rw [hst]
        have HRR := Lib.hid hR
        clear hst hR hk1 hk8
        go_enter Tryd.func30, Tryd.ntmps30
        go_upto_region 1 with fail
        generalize w.alloc (.cells (dnC 1 m z p A ks.length c).toArray 34) = w0 at *
        obtain ⟨gA, hgA⟩ : ∃ gA, w.heap.size = gA := ⟨_, rfl⟩
        rw [hgA] at HB ⊢
        clear hgA
        have y0 := HB.out.kind
        have y7 := HB.out.kids
        have HE := Lib.hid (show ((l.length : Int) == 0) = R by rw [HDE.out, HRR.out])
        clear HRR HDE
        go_wp2
        go_ret
        exact ⟨by rw [← HE.out]; rfl, hx0.out⟩
      by_cases k2 : k = 2
      · subst k2
        obtain ⟨R, hR⟩ : ∃ R, decB (∃ c : UInt8, l = [c] ∧ p c.toNat = true) = R := ⟨_, rfl⟩
        have hst : decB (Lang (.node 2 m z p ks) l) = R := by rw [← hR]; exact decB_congr (by simp [Lang])
        rw [hst]
        have HRR := Lib.hid hR
        clear hst hR hk1 hk8
        go_enter Tryd.func30, Tryd.ntmps30
        go_upto_region 1 with fail
        generalize w.alloc (.cells (dnC 2 m z p A ks.length c).toArray 34) = w0 at *
        obtain ⟨gA, hgA⟩ : ∃ gA, w.heap.size = gA := ⟨_, rfl⟩
        rw [hgA] at HB ⊢
        clear hgA
        have y0 := HB.out.kind
        have y7 := HB.out.kids
        cases l with
        | nil =>
          have HE := Lib.hid (show R = false by rw [← HRR.out]; refine decB_not.2 ?_; rintro ⟨c, e, _⟩; cases e)
          clear HRR HDE
          go_wp2
          go_ret
          exact ⟨by rw [HE.out]; rfl, hx0.out⟩
        | cons x r =>
          cases r with
          | nil =>
            have HE := Lib.hid (show p x.toNat = R by
              rw [← HRR.out, Bool.eq_iff_iff, decB_iff]
              exact ⟨fun h => ⟨x, rfl, h⟩, fun ⟨c, e, h⟩ => by cases e; exact h⟩)
            clear HRR HDE
            have hx256 : x.toNat < 256 := UInt8.toNat_lt x
            have hx1 : (x.toNat : Int) < 256 := by omega
            have c5 : w0.cell? ⟨gA, 3 + x.toNat, none⟩ = some (.bool (p x.toNat)) := (Blk.cell HB.out (3 + x.toNat)).trans (dn_set _ _ _ _ _ _ _ hx256)
            go_wp2
            go_ret
            exact ⟨by rw [← HE.out]; simp, hx0.out⟩
          | cons y r' =>
            have HE := Lib.hid (show R = false by rw [← HRR.out]; refine decB_not.2 ?_; rintro ⟨c, e, _⟩; cases e)
            clear HRR HDE
            obtain ⟨q, hq⟩ : ∃ q, (x :: y :: r').length = q := ⟨_, rfl⟩
            have hq2 : ((q : Int) == 1) = false := by rw [← hq]; simp; omega
            have hqs : (⟨(x :: y :: r').toArray⟩ : ByteArray).size = q := hq
            go_wp2
            go_ret
            exact ⟨by rw [HE.out]; rfl, hx0.out⟩
      by_cases k3 : k = 3
      · subst k3
        obtain ⟨R, hR⟩ : ∃ R, decB (LangCat ks l) = R := ⟨_, rfl⟩
        have hst : decB (Lang (.node 3 m z p ks) l) = R := by rw [← hR]; exact decB_congr (by simp [Lang])
        rw [hst]
        have HRR := Lib.hid hR
        clear hst hR hk1 hk8
        go_enter Tryd.func30, Tryd.ntmps30
        go_upto_region 1 with fail
        generalize w.alloc (.cells (dnC 3 m z p A ks.length c).toArray 34) = w0 at *
        obtain ⟨gA, hgA⟩ : ∃ gA, w.heap.size = gA := ⟨_, rfl⟩
        rw [hgA] at HB ⊢
        clear hgA
        have y0 := HB.out.kind
        have y7 := HB.out.kids
        go_wp2_with (go_at_call 58; refine (refRow ks HKS.out l HN.out S _ A c cs HR.out HK.out HC1.out HC2.out).mono ?_; rintro e w1 ⟨rfl, hx1⟩; rw [HRR.out])
        go_ret
        exact ⟨rfl, Ext.trans hx0.out hx1⟩
      by_cases k4 : k = 4
      · subst k4
        obtain ⟨R, hR⟩ : ∃ R, decB (LangAlt ks l) = R := ⟨_, rfl⟩
        have hst : decB (Lang (.node 4 m z p ks) l) = R := by rw [← hR]; exact decB_congr (by simp [Lang])
        rw [hst]
        have HRR := Lib.hid hR
        clear hst hR hk1 hk8
        go_enter Tryd.func30, Tryd.ntmps30
        go_upto_region 1 with fail
        generalize w.alloc (.cells (dnC 4 m z p A ks.length c).toArray 34) = w0 at *
        obtain ⟨gA, hgA⟩ : ∃ gA, w.heap.size = gA := ⟨_, rfl⟩
        rw [hgA] at HB ⊢
        clear hgA
        have y0 := HB.out.kind
        have y7 := HB.out.kids
        go_upto_region 10 with fail
        clear y0 y7
        go_loopg [37] ks.length (fun gg iv wr => ∃ i : Nat, i ≤ ks.length ∧ gg = ks.length - i ∧ iv = .int .i64 (i : Nat) ∧ decB (LangAlt (ks.drop i) l) = R ∧ Ext w0 wr)
        case atStart => exact ⟨0, by omega, rfl, rfl, by rw [List.drop_zero]; exact HRR.out, Ext.refl _⟩
        case round =>
          obtain ⟨i, hi, rfl, rfl, hres, hx⟩ := hrel
          by_cases hlt : i < ks.length
          · obtain ⟨b, o, k', m', z', p', B, n', c', rfl, hv, hk⟩ := dkid_at HR.out HK.out hlt
            have hrg := Lib.hid (hk.out wr hx)
            have hxn := Ext.new1 wr (.cells (dnC k' m' z' p' B n' c').toArray 34)
            have HV := Lib.hid ((hv.keep hx).keep hxn)
            have HX := Lib.hid (Ext.trans hx hxn)
            have hlt' : (i : Int) < (ks.length : Int) := by omega
            have hw2 : IntKind.i64.wrap ((i : Int) + 1) = (i : Int) + 1 := wrap_id (by omega) (by have := HLN.out; omega)
            have HS := Lib.hid (HKS.out _ (List.getElem_mem hlt))
            have hres2 : (decB (Lang (ks[i]'hlt) l) || decB (LangAlt (ks.drop (i + 1)) l)) = R := by rw [← hres, ← decB_or]; exact (decB_congr (alt_drop hlt)).symm
            clear hv hk hres hx hxn
            cases hq : decB (Lang (ks[i]'hlt) l)
            all_goals
              have HQ := Lib.hid hq
              rw [hq] at hres2
              have HRE := Lib.hid hres2
              clear hq hres2
              go_wp2_with (first
                | (refine load_el rfl (.tmp 39) rfl (b := b) (q := o + i * 260) rfl hrg.out ?_)
                | (refine store_dn_new rfl (.tmp 6) (.tmp 40) rfl rfl rfl zsize40 ?_)
                | (refine load_dn rfl (.tmp 6) rfl (g := wr.heap.size) rfl (DB.new wr _ _ _ _ _ _ _) ?_)
                | (go_at_call 30; refine (HS.out l HN.out S _ (dnC k' m' z' p' B n' c') HV.out).mono ?_; rintro e w1 ⟨rfl, hx1⟩; rw [HQ.out]))
            · go_roundg (ks.length - (i + 1))
              case measure => omega
              case rel => exact ⟨i + 1, by omega, rfl, by go_num, by have := HRE.out; rwa [Bool.false_or] at this, Ext.trans HX.out hx1⟩
            · go_ret
              exact ⟨by rw [← HRE.out]; rfl, Ext.trans hx0.out (Ext.trans HX.out hx1)⟩
          · obtain rfl : i = ks.length := by omega
            have hlt' : ¬ (ks.length : Int) < (ks.length : Int) := by omega
            have HE := Lib.hid (show R = false by rw [← hres, List.drop_length]; exact decB_not.2 (by simp [LangAlt]))
            clear hres
            go_wp2
            go_ret
            exact ⟨by rw [HE.out]; rfl, Ext.trans hx0.out hx⟩
      by_cases k5 : k = 5
      · subst k5
        obtain ⟨R, hR⟩ : ∃ R, decB (l = [] ∨ Plus (LangHead ks) l) = R := ⟨_, rfl⟩
        have hst : decB (Lang (.node 5 m z p ks) l) = R := by rw [← hR]; exact decB_congr (by simp [Lang])
        rw [hst]
        have HRR := Lib.hid hR
        clear hst hR hk1 hk8
        have hpos : 0 < ks.length := by
          have := HK5.out (by omega)
          cases ks with
          | nil => exact absurd rfl this
          | cons x r => simp
        go_enter Tryd.func30, Tryd.ntmps30
        go_upto_region 1 with fail
        generalize w.alloc (.cells (dnC 5 m z p A ks.length c).toArray 34) = w0 at *
        obtain ⟨gA, hgA⟩ : ∃ gA, w.heap.size = gA := ⟨_, rfl⟩
        rw [hgA] at HB ⊢
        clear hgA
        have y0 := HB.out.kind
        have y7 := HB.out.kids
        obtain ⟨b, o, k', m', z', p', B, n', c', rfl, hv, hk⟩ := dkid_at HR.out HK.out hpos
        have hrg := hk.out w0 (Ext.refl _)
        rw [Nat.zero_mul, Nat.add_zero] at hrg
        have HRG := Lib.hid hrg
        have HV := Lib.hid hv
        have hpos' : (0 : Int) < (ks.length : Int) := by omega
        have HS := Lib.hid (HKS.out _ (List.getElem_mem hpos))
        have HHD := Lib.hid (lang_head' hpos)
        rw [HHD.out] at HRR
        clear hv hk hrg
        cases hl0 : ((l.length : Int) == 0)
        · have HRE := Lib.hid (show decB (Plus (Lang (ks[0]'hpos)) l) = R by
            have := HRR.out
            rw [decB_or, ← HDE.out, hl0, Bool.false_or] at this
            exact this)
          clear HRR HDE
          go_wp2_with (first
            | (refine load_elH (j := 3) (b0 := false) (d := 50) rfl rfl rfl (.tmp 53) rfl (b := b) (q := o) rfl HRG.out ?_)
            | (go_at_call 59; refine (refMany _ HS.out _ l (Nat.lt_succ_self _) HN.out S _ (dnC k' m' z' p' B n' c') HV.out).mono ?_; rintro e w1 ⟨rfl, hx1⟩; rw [HRE.out]))
          go_ret
          exact ⟨by simp, Ext.trans hx0.out hx1⟩
        · have HE := Lib.hid (show R = true by rw [← HRR.out, decB_or, ← HDE.out, hl0, Bool.true_or])
          clear HRR HDE
          go_wp2
          go_ret
          exact ⟨by rw [HE.out]; rfl, hx0.out⟩
      by_cases k6 : k = 6
      · subst k6
        obtain ⟨R, hR⟩ : ∃ R, decB (Plus (LangHead ks) l) = R := ⟨_, rfl⟩
        have hst : decB (Lang (.node 6 m z p ks) l) = R := by rw [← hR]; exact decB_congr (by simp [Lang])
        rw [hst]
        have HRR := Lib.hid hR
        clear hst hR hk1 hk8
        have hpos : 0 < ks.length := by
          have := HK5.out (by omega)
          cases ks with
          | nil => exact absurd rfl this
          | cons x r => simp
        go_enter Tryd.func30, Tryd.ntmps30
        go_upto_region 1 with fail
        generalize w.alloc (.cells (dnC 6 m z p A ks.length c).toArray 34) = w0 at *
        obtain ⟨gA, hgA⟩ : ∃ gA, w.heap.size = gA := ⟨_, rfl⟩
        rw [hgA] at HB ⊢
        clear hgA
        have y0 := HB.out.kind
        have y7 := HB.out.kids
        obtain ⟨b, o, k', m', z', p', B, n', c', rfl, hv, hk⟩ := dkid_at HR.out HK.out hpos
        have hrg := hk.out w0 (Ext.refl _)
        rw [Nat.zero_mul, Nat.add_zero] at hrg
        have HRG := Lib.hid hrg
        have HV := Lib.hid hv
        have hpos' : (0 : Int) < (ks.length : Int) := by omega
        have HS := Lib.hid (HKS.out _ (List.getElem_mem hpos))
        have HHD := Lib.hid (lang_head' hpos)
        rw [HHD.out] at HRR
        clear hv hk hrg
        have HRE := Lib.hid HRR.out
        clear HRR HDE
        go_wp2_with (first
          | (refine load_el rfl (.tmp 62) rfl (b := b) (q := o) rfl HRG.out ?_)
          | (go_at_call 59; refine (refMany _ HS.out _ l (Nat.lt_succ_self _) HN.out S _ (dnC k' m' z' p' B n' c') HV.out).mono ?_; rintro e w1 ⟨rfl, hx1⟩; rw [HRE.out]))
        go_ret
        exact ⟨rfl, Ext.trans hx0.out hx1⟩
      by_cases k7 : k = 7
      · subst k7
        obtain ⟨R, hR⟩ : ∃ R, decB (l = [] ∨ (LangHead ks) l) = R := ⟨_, rfl⟩
        have hst : decB (Lang (.node 7 m z p ks) l) = R := by rw [← hR]; exact decB_congr (by simp [Lang])
        rw [hst]
        have HRR := Lib.hid hR
        clear hst hR hk1 hk8
        have hpos : 0 < ks.length := by
          have := HK5.out (by omega)
          cases ks with
          | nil => exact absurd rfl this
          | cons x r => simp
        go_enter Tryd.func30, Tryd.ntmps30
        go_upto_region 1 with fail
        generalize w.alloc (.cells (dnC 7 m z p A ks.length c).toArray 34) = w0 at *
        obtain ⟨gA, hgA⟩ : ∃ gA, w.heap.size = gA := ⟨_, rfl⟩
        rw [hgA] at HB ⊢
        clear hgA
        have y0 := HB.out.kind
        have y7 := HB.out.kids
        obtain ⟨b, o, k', m', z', p', B, n', c', rfl, hv, hk⟩ := dkid_at HR.out HK.out hpos
        have hrg := hk.out w0 (Ext.refl _)
        rw [Nat.zero_mul, Nat.add_zero] at hrg
        have HRG := Lib.hid hrg
        have HV := Lib.hid hv
        have hpos' : (0 : Int) < (ks.length : Int) := by omega
        have HS := Lib.hid (HKS.out _ (List.getElem_mem hpos))
        have HHD := Lib.hid (lang_head' hpos)
        rw [HHD.out] at HRR
        clear hv hk hrg
        cases hl0 : ((l.length : Int) == 0)
        · have HRE := Lib.hid (show decB ((Lang (ks[0]'hpos)) l) = R by
            have := HRR.out
            rw [decB_or, ← HDE.out, hl0, Bool.false_or] at this
            exact this)
          clear HRR HDE
          go_wp2_with (first
            | (refine load_elH (j := 3) (b0 := false) (d := 71) rfl rfl rfl (.tmp 74) rfl (b := b) (q := o) rfl HRG.out ?_)
            | (go_at_call 30; refine (HS.out l HN.out S _ (dnC k' m' z' p' B n' c') HV.out).mono ?_; rintro e w1 ⟨rfl, hx1⟩; rw [HRE.out]))
          go_ret
          exact ⟨by simp, Ext.trans hx0.out hx1⟩
        · have HE := Lib.hid (show R = true by rw [← HRR.out, decB_or, ← HDE.out, hl0, Bool.true_or])
          clear HRR HDE
          go_wp2
          go_ret
          exact ⟨by rw [HE.out]; rfl, hx0.out⟩
      obtain rfl : k = 8 := by omega
      obtain ⟨R, hR⟩ : ∃ R, decB (LangHead ks l) = R := ⟨_, rfl⟩
      have hst : decB (Lang (.node 8 m z p ks) l) = R := by rw [← hR]; exact decB_congr (by simp [Lang])
      rw [hst]
      have HRR := Lib.hid hR
      clear hst hR hk1 hk8
      have hpos : 0 < ks.length := by
        have := HK5.out (by omega)
        cases ks with
        | nil => exact absurd rfl this
        | cons x r => simp
      go_enter Tryd.func30, Tryd.ntmps30
      go_upto_region 1 with fail
      generalize w.alloc (.cells (dnC 8 m z p A ks.length c).toArray 34) = w0 at *
      obtain ⟨gA, hgA⟩ : ∃ gA, w.heap.size = gA := ⟨_, rfl⟩
      rw [hgA] at HB ⊢
      clear hgA
      have y0 := HB.out.kind
      have y7 := HB.out.kids
      obtain ⟨b, o, k', m', z', p', B, n', c', rfl, hv, hk⟩ := dkid_at HR.out HK.out hpos
      have hrg := hk.out w0 (Ext.refl _)
      rw [Nat.zero_mul, Nat.add_zero] at hrg
      have HRG := Lib.hid hrg
      have HV := Lib.hid hv
      have hpos' : (0 : Int) < (ks.length : Int) := by omega
      have HS := Lib.hid (HKS.out _ (List.getElem_mem hpos))
      have HHD := Lib.hid (lang_head' hpos)
      rw [HHD.out] at HRR
      clear hv hk hrg
      have HRE := Lib.hid HRR.out
      clear HRR HDE
      go_wp2_with (first
        | (refine load_elH (j := 3) (b0 := true) (d := 82) rfl rfl rfl (.tmp 85) rfl (b := b) (q := o) rfl HRG.out ?_)
        | (go_at_call 30; refine (HS.out l HN.out S _ (dnC k' m' z' p' B n' c') HV.out).mono ?_; rintro e w1 ⟨rfl, hx1⟩; rw [HRE.out]))
      go_ret
      exact ⟨by simp, Ext.trans hx0.out hx1⟩

theorem refSays (t : T) (hg : t.good) : SaysD t := refSaysN _ t (Nat.le_refl _) hg
end Go.Proofs.YtnkhiohopcadmaaDoor
