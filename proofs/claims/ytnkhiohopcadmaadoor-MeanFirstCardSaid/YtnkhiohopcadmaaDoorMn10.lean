/- The document's first match: walked. -/
import Derived.Test.YtnkhiohopcadmaaDoorMn9
import Derived.Test.YtnkhiohopcadmaaDoorMn7
namespace Go.Proofs.YtnkhiohopcadmaaDoor
open Go Go.RowKit

theorem seg_cut (l : List UInt8) (f b : Nat) : (l.take b).drop f = seg l f b := by unfold seg; rw [List.drop_take]
def RFirstR (rs : List T) (l : List UInt8) (e : Ending) (w w' : World) : Prop := ∃ (k f b : Nat) (is : Bool), e = .returned (.tuple #[.int .i64 (k : Nat), .int .i64 (f : Nat), .int .i64 (b : Nat), .bool is]) ∧ First rs l k f b is ∧ Ext w w'

set_option maxHeartbeats 8000000 in
set_option maxRecDepth 20000 in
theorem refFirst (rs : List T) (hg : ∀ t ∈ rs, t.good) (l : List UInt8) (hn : l.length ≤ 1000000) (A : Option Addr) (c : Nat) (cs : List Value) (S : Nat → Prop) (w : World) (hl : rs.length ≤ maxLen) (hR : Rd w 260 A rs.length cs) (hK : DKidsV S w rs cs) :
    Calls Tryd.prog 34 #[.slice A rs.length c, .string ⟨l.toArray⟩] w fun e w' => RFirstR rs l e w w' := by
  have HR := Lib.hid hR
  have HK := Lib.hid hK
  have HG := Lib.hid hg
  have HN := Lib.hid hn
  have HLN := Lib.hid (show rs.length ≤ 9223372036854775807 by unfold maxLen at hl; omega)
  clear hR hK hg hn hl
  go_enter Tryd.func34, Tryd.ntmps34
  go_upto_region 2 with fail
  go_loopg [8] (l.length + 1) (fun gg tv wr => ∃ b : Nat, b ≤ l.length + 1 ∧ gg = l.length + 1 - b ∧ tv = .int .i64 (b : Nat) ∧ (∀ (i a c : Nat) (t : T), c < b → rs[i]? = some t → ¬ Hit t l a c) ∧ Ext w wr)
  case atStart => exact ⟨0, by omega, rfl, rfl, fun i a c t h => by omega, Ext.refl _⟩
  case round =>
    obtain ⟨bq, hb, rfl, rfl, hno1, hx⟩ := hrel
    have HNO1 := Lib.hid hno1
    clear hno1
    by_cases hltb : bq < l.length + 1
    · have hltb' : (bq : Int) ≤ (l.length : Int) := by omega
      have hwb : IntKind.i64.wrap ((bq : Int) + 1) = (bq : Int) + 1 := wrap_id (by omega) (by have := HN.out; omega)
      have HX := Lib.hid hx
      clear hx
      go_upto_region 5 with fail
      go_loopg [20] rs.length (fun gg iv wr2 => ∃ i : Nat, i ≤ rs.length ∧ gg = rs.length - i ∧ iv = .int .i64 (i : Nat) ∧ (∀ (i' a : Nat) (t : T), i' < i → rs[i']? = some t → ¬ Hit t l a bq) ∧ Ext w wr2)
      case atStart => exact ⟨0, by omega, rfl, rfl, fun i a t h => by omega, HX.out⟩
      case round =>
        obtain ⟨iq, hi, rfl, rfl, hno2, hx2⟩ := hrel
        have HNO2 := Lib.hid hno2
        clear hno2
        by_cases hlti : iq < rs.length
        · have hlti' : (iq : Int) < (rs.length : Int) := by omega
          have hwi : IntKind.i64.wrap ((iq : Int) + 1) = (iq : Int) + 1 := wrap_id (by omega) (by have := HLN.out; omega)
          obtain ⟨b, o, k', m', z', p', B, n', c', rfl, hv, hk⟩ := dkid_at HR.out HK.out hlti
          have hrg := Lib.hid (hk.out _ hx2)
          obtain ⟨t, hte⟩ : ∃ t, rs[iq]'hlti = t := ⟨_, rfl⟩
          have HTE := Lib.hid (show rs[iq]? = some t by rw [List.getElem?_eq_getElem hlti, hte])
          rw [hte] at hv
          have HSD := Lib.hid (refSays t (HG.out t (hte ▸ List.getElem_mem hlti)))
          generalize wr = wk at *

          have hxn := Ext.new1 wk (.cells (dnC k' m' z' p' B n' c').toArray 34)
          have HV := Lib.hid ((hv.keep hx2).keep hxn)
          have HX2 := Lib.hid (Ext.trans hx2 hxn)
          have HBN := Lib.hid (DB.new wk k' m' z' p' B n' c')
          clear hv hk hx2 hxn hte
          go_upto_region 8 with (first
            | (refine load_el rfl (.tmp 23) rfl (b := b) (q := o + iq * 260) rfl hrg.out ?_)
            | (refine store_dn_new rfl (.tmp 10) (.tmp 24) rfl rfl rfl zsize40 ?_))
          generalize wk.alloc (.cells (dnC k' m' z' p' B n' c').toArray 34) = wn at *
          obtain ⟨gN, hgN⟩ : ∃ gN, wk.heap.size = gN := ⟨_, rfl⟩
          rw [hgN] at HBN ⊢
          clear hrg hgN
          go_loopg [11] (bq + 1) (fun gg fv wr3 => ∃ f : Nat, f ≤ bq + 1 ∧ gg = bq + 1 - f ∧ fv = .int .i64 (f : Nat) ∧ (∀ a, a < f → ¬ Hit t l a bq) ∧ Ext wn wr3)
          case atStart => exact ⟨0, by omega, rfl, rfl, fun a h => by omega, Ext.refl _⟩
          case round =>
            obtain ⟨fq, hf, rfl, rfl, hno3, hx3⟩ := hrel
            have HNO3 := Lib.hid hno3
            clear hno3
            by_cases hltf : fq < bq + 1
            · have hltf' : (fq : Int) ≤ (bq : Int) := by omega
              have hwf : IntKind.i64.wrap ((fq : Int) + 1) = (fq : Int) + 1 := wrap_id (by omega) (by have := HN.out; omega)
              have HVW := Lib.hid (HV.out.keep hx3)
              have HBW := Lib.hid (HBN.out.keep hx3)
              have HX3 := Lib.hid hx3
              have HSL := Lib.hid (show (seg l fq bq).length ≤ 1000000 by rw [seg_len (by omega)]; have := HN.out; omega)
              generalize wr = wz at *
              clear hx3
              cases hq : decB (Lang t (seg l fq bq))
              · have HQ := Lib.hid hq
                clear hq
                go_upto_region 10 with fail
                refine wp_region_dag (E := Ext) (w0 := wz) (Φ := fun i v w => match i with | 0 => (v = .agg (dnC k' m' z' p' B n' c').toArray) | 1 => (v = .string ⟨l.toArray⟩) | 2 => (v = .int .i64 (fq : Nat)) | 3 => (v = .int .i64 (bq : Nat)) | 4 => (v = .string ⟨(seg l fq bq).toArray⟩) | 5 => (v = .bool false) | _ => True) (show Tryd.prog.follows .mixedOrders = true from Checked.mixed Tryd.checked) 40 rfl (by decide +kernel) ?_ ((Below.refl _ _).drew) ?_ ⟨?_, ?_, ?_, ?_, ?_, ?_, trivial⟩ ?_
                · intro i v w w' h hE
                  match i, h with
                  | 0, h => exact h
                  | 1, h => exact h
                  | 2, h => exact h
                  | 3, h => exact h
                  | 4, h => exact h
                  | 5, h => exact h
                  | _ + 6, _ => trivial
                · exact fun w w' h h' => h.trans h'
                · -- 0: t30 := load 34 t10
                  intro ac wx hE hsz hdf h
                  have es : ac.tmps[10]? = some (.pointer (some ⟨gN, 0, none⟩)) := by obtain ⟨v, h1, h2⟩ := h 10 (by decide +kernel); exact h1.trans (h2.symm.trans rfl)
                  clear h hsz hdf
                  refine load_dn rfl (.tmp 10) rfl (g := gN) ?_ (HBW.out.keep hE) ?_
                  · simp [Act.eval, es]
                  · exact ⟨_, rfl, rfl, Ext.refl _⟩
                · -- 1: t31 := move t1
                  intro ac wx hE hsz hdf h
                  have e1 : ac.tmps[1]? = some (.string ⟨l.toArray⟩) := by obtain ⟨v, h1, h2⟩ := h 1 (by decide +kernel); exact h1.trans (h2.symm.trans rfl)
                  clear h hsz hdf
                  go_wp2
                  exact ⟨_, rfl, rfl, Ext.refl _⟩
                · -- 2: t32 := move t11
                  intro ac wx hE hsz hdf h
                  have e11 : ac.tmps[11]? = some (.int .i64 (fq : Nat)) := by obtain ⟨v, h1, h2⟩ := h 11 (by decide +kernel); exact h1.trans (h2.symm.trans rfl)
                  clear h hsz hdf
                  go_wp2
                  exact ⟨_, rfl, rfl, Ext.refl _⟩
                · -- 3: t33 := move t8
                  intro ac wx hE hsz hdf h
                  have e8 : ac.tmps[8]? = some (.int .i64 (bq : Nat)) := by obtain ⟨v, h1, h2⟩ := h 8 (by decide +kernel); exact h1.trans (h2.symm.trans rfl)
                  clear h hsz hdf
                  go_wp2
                  exact ⟨_, rfl, rfl, Ext.refl _⟩
                · -- 4: t34 := slice 9 t31 (some t32) (some t33) none
                  intro ac wx hE hsz hdf h
                  have e31 : ac.tmps[31]? = some (.string ⟨l.toArray⟩) := by obtain ⟨v, h1, h2⟩ := h 31 (by decide +kernel); rw [h1]; exact congrArg some h2
                  have e32 : ac.tmps[32]? = some (.int .i64 (fq : Nat)) := by obtain ⟨v, h1, h2⟩ := h 32 (by decide +kernel); rw [h1]; exact congrArg some h2
                  have e33 : ac.tmps[33]? = some (.int .i64 (bq : Nat)) := by obtain ⟨v, h1, h2⟩ := h 33 (by decide +kernel); rw [h1]; exact congrArg some h2
                  clear h hsz hdf
                  go_wp2
                  exact ⟨_, rfl, by simp [← seg_cut], Ext.refl _⟩
                · -- 5: t35 := call { value (Operand.func 30), args := #[t30, t34], argTypes := #[34, 9] }
                  intro ac wx hE hsz hdf h
                  have e30 : ac.tmps[30]? = some (.agg (dnC k' m' z' p' B n' c').toArray) := by obtain ⟨v, h1, h2⟩ := h 30 (by decide +kernel); rw [h1]; exact congrArg some h2
                  have e34 : ac.tmps[34]? = some (.string ⟨(seg l fq bq).toArray⟩) := by obtain ⟨v, h1, h2⟩ := h 34 (by decide +kernel); rw [h1]; exact congrArg some h2
                  clear h hsz hdf
                  go_wp2_with ((go_at_call 30; refine (HSD.out (seg l fq bq) HSL.out S _ (dnC k' m' z' p' B n' c') (HVW.out.keep hE)).mono ?_; rintro e w9 ⟨rfl, hb9⟩; rw [HQ.out]))
                  exact ⟨_, rfl, rfl, hb9⟩
                · intro ac w9 hE hsz hdf h hrest
                  obtain ⟨v0, s0, g0⟩ := h 0 _ rfl
                  have e0 := g0 30 rfl
                  obtain rfl : v0 = .agg (dnC k' m' z' p' B n' c').toArray := s0
                  obtain ⟨v1, s1, g1⟩ := h 1 _ rfl
                  have e1 := g1 31 rfl
                  obtain rfl : v1 = .string ⟨l.toArray⟩ := s1
                  obtain ⟨v2, s2, g2⟩ := h 2 _ rfl
                  have e2 := g2 32 rfl
                  obtain rfl : v2 = .int .i64 (fq : Nat) := s2
                  obtain ⟨v3, s3, g3⟩ := h 3 _ rfl
                  have e3 := g3 33 rfl
                  obtain rfl : v3 = .int .i64 (bq : Nat) := s3
                  obtain ⟨v4, s4, g4⟩ := h 4 _ rfl
                  have e4 := g4 34 rfl
                  obtain rfl : v4 = .string ⟨(seg l fq bq).toArray⟩ := s4
                  obtain ⟨v5, s5, g5⟩ := h 5 _ rfl
                  have e5 := g5 35 rfl
                  obtain rfl : v5 = .bool false := s5
                  have ha := act_of [(30, .agg (dnC k' m' z' p' B n' c').toArray), (31, .string ⟨l.toArray⟩), (32, .int .i64 (fq : Nat)), (33, .int .i64 (bq : Nat)), (34, .string ⟨(seg l fq bq).toArray⟩), (35, .bool false)] rfl hsz hdf (by intro p hp; simp only [List.mem_cons, List.not_mem_nil, or_false] at hp; rcases hp with rfl | rfl | rfl | rfl | rfl | rfl <;> first | exact e0 | exact e1 | exact e2 | exact e3 | exact e4 | exact e5) hrest
                  clear h hrest hsz hdf e0 e1 e2 e3 e4 e5 g0 g1 g2 g3 g4 g5
                  subst ha
                  simp only [List.foldl_cons, List.foldl_nil, Act.put, List.setIfInBounds_toArray, List.set_cons_succ, List.set_cons_zero]
                  have HXX := Lib.hid (Ext.trans HX3.out hE)
                  go_wp2
                  go_roundg (bq + 1 - (fq + 1))
                  case measure => omega
                  case rel =>
                    refine ⟨fq + 1, by omega, rfl, by go_num, fun a ha => ?_, HXX.out⟩
                    by_cases e : a = fq
                    · subst e; exact fun h => decB_not.1 HQ.out h.2.2
                    · exact HNO3.out a (by omega)
              · have HQ := Lib.hid hq
                clear hq
                go_upto_region 10 with fail
                refine wp_region_dag (E := Ext) (w0 := wz) (Φ := fun i v w => match i with | 0 => (v = .agg (dnC k' m' z' p' B n' c').toArray) | 1 => (v = .string ⟨l.toArray⟩) | 2 => (v = .int .i64 (fq : Nat)) | 3 => (v = .int .i64 (bq : Nat)) | 4 => (v = .string ⟨(seg l fq bq).toArray⟩) | 5 => (v = .bool true) | _ => True) (show Tryd.prog.follows .mixedOrders = true from Checked.mixed Tryd.checked) 40 rfl (by decide +kernel) ?_ ((Below.refl _ _).drew) ?_ ⟨?_, ?_, ?_, ?_, ?_, ?_, trivial⟩ ?_
                · intro i v w w' h hE
                  match i, h with
                  | 0, h => exact h
                  | 1, h => exact h
                  | 2, h => exact h
                  | 3, h => exact h
                  | 4, h => exact h
                  | 5, h => exact h
                  | _ + 6, _ => trivial
                · exact fun w w' h h' => h.trans h'
                · -- 0: t30 := load 34 t10
                  intro ac wx hE hsz hdf h
                  have es : ac.tmps[10]? = some (.pointer (some ⟨gN, 0, none⟩)) := by obtain ⟨v, h1, h2⟩ := h 10 (by decide +kernel); exact h1.trans (h2.symm.trans rfl)
                  clear h hsz hdf
                  refine load_dn rfl (.tmp 10) rfl (g := gN) ?_ (HBW.out.keep hE) ?_
                  · simp [Act.eval, es]
                  · exact ⟨_, rfl, rfl, Ext.refl _⟩
                · -- 1: t31 := move t1
                  intro ac wx hE hsz hdf h
                  have e1 : ac.tmps[1]? = some (.string ⟨l.toArray⟩) := by obtain ⟨v, h1, h2⟩ := h 1 (by decide +kernel); exact h1.trans (h2.symm.trans rfl)
                  clear h hsz hdf
                  go_wp2
                  exact ⟨_, rfl, rfl, Ext.refl _⟩
                · -- 2: t32 := move t11
                  intro ac wx hE hsz hdf h
                  have e11 : ac.tmps[11]? = some (.int .i64 (fq : Nat)) := by obtain ⟨v, h1, h2⟩ := h 11 (by decide +kernel); exact h1.trans (h2.symm.trans rfl)
                  clear h hsz hdf
                  go_wp2
                  exact ⟨_, rfl, rfl, Ext.refl _⟩
                · -- 3: t33 := move t8
                  intro ac wx hE hsz hdf h
                  have e8 : ac.tmps[8]? = some (.int .i64 (bq : Nat)) := by obtain ⟨v, h1, h2⟩ := h 8 (by decide +kernel); exact h1.trans (h2.symm.trans rfl)
                  clear h hsz hdf
                  go_wp2
                  exact ⟨_, rfl, rfl, Ext.refl _⟩
                · -- 4: t34 := slice 9 t31 (some t32) (some t33) none
                  intro ac wx hE hsz hdf h
                  have e31 : ac.tmps[31]? = some (.string ⟨l.toArray⟩) := by obtain ⟨v, h1, h2⟩ := h 31 (by decide +kernel); rw [h1]; exact congrArg some h2
                  have e32 : ac.tmps[32]? = some (.int .i64 (fq : Nat)) := by obtain ⟨v, h1, h2⟩ := h 32 (by decide +kernel); rw [h1]; exact congrArg some h2
                  have e33 : ac.tmps[33]? = some (.int .i64 (bq : Nat)) := by obtain ⟨v, h1, h2⟩ := h 33 (by decide +kernel); rw [h1]; exact congrArg some h2
                  clear h hsz hdf
                  go_wp2
                  exact ⟨_, rfl, by simp [← seg_cut], Ext.refl _⟩
                · -- 5: t35 := call { value (Operand.func 30), args := #[t30, t34], argTypes := #[34, 9] }
                  intro ac wx hE hsz hdf h
                  have e30 : ac.tmps[30]? = some (.agg (dnC k' m' z' p' B n' c').toArray) := by obtain ⟨v, h1, h2⟩ := h 30 (by decide +kernel); rw [h1]; exact congrArg some h2
                  have e34 : ac.tmps[34]? = some (.string ⟨(seg l fq bq).toArray⟩) := by obtain ⟨v, h1, h2⟩ := h 34 (by decide +kernel); rw [h1]; exact congrArg some h2
                  clear h hsz hdf
                  go_wp2_with ((go_at_call 30; refine (HSD.out (seg l fq bq) HSL.out S _ (dnC k' m' z' p' B n' c') (HVW.out.keep hE)).mono ?_; rintro e w9 ⟨rfl, hb9⟩; rw [HQ.out]))
                  exact ⟨_, rfl, rfl, hb9⟩
                · intro ac w9 hE hsz hdf h hrest
                  obtain ⟨v0, s0, g0⟩ := h 0 _ rfl
                  have e0 := g0 30 rfl
                  obtain rfl : v0 = .agg (dnC k' m' z' p' B n' c').toArray := s0
                  obtain ⟨v1, s1, g1⟩ := h 1 _ rfl
                  have e1 := g1 31 rfl
                  obtain rfl : v1 = .string ⟨l.toArray⟩ := s1
                  obtain ⟨v2, s2, g2⟩ := h 2 _ rfl
                  have e2 := g2 32 rfl
                  obtain rfl : v2 = .int .i64 (fq : Nat) := s2
                  obtain ⟨v3, s3, g3⟩ := h 3 _ rfl
                  have e3 := g3 33 rfl
                  obtain rfl : v3 = .int .i64 (bq : Nat) := s3
                  obtain ⟨v4, s4, g4⟩ := h 4 _ rfl
                  have e4 := g4 34 rfl
                  obtain rfl : v4 = .string ⟨(seg l fq bq).toArray⟩ := s4
                  obtain ⟨v5, s5, g5⟩ := h 5 _ rfl
                  have e5 := g5 35 rfl
                  obtain rfl : v5 = .bool true := s5
                  have ha := act_of [(30, .agg (dnC k' m' z' p' B n' c').toArray), (31, .string ⟨l.toArray⟩), (32, .int .i64 (fq : Nat)), (33, .int .i64 (bq : Nat)), (34, .string ⟨(seg l fq bq).toArray⟩), (35, .bool true)] rfl hsz hdf (by intro p hp; simp only [List.mem_cons, List.not_mem_nil, or_false] at hp; rcases hp with rfl | rfl | rfl | rfl | rfl | rfl <;> first | exact e0 | exact e1 | exact e2 | exact e3 | exact e4 | exact e5) hrest
                  clear h hrest hsz hdf e0 e1 e2 e3 e4 e5 g0 g1 g2 g3 g4 g5
                  subst ha
                  simp only [List.foldl_cons, List.foldl_nil, Act.put, List.setIfInBounds_toArray, List.set_cons_succ, List.set_cons_zero]
                  have HXX := Lib.hid (Ext.trans HX2.out (Ext.trans HX3.out hE))
                  have HFI := Lib.hid (show First rs l iq fq bq true from ⟨(fun e => by cases e), fun _ => ⟨t, HTE.out, ⟨by omega, by omega, decB_iff.1 HQ.out⟩, fun i a c t' ht' hh => by
                    by_cases e1 : c < bq
                    · exact absurd hh (HNO1.out i a c t' e1 ht')
                    · by_cases e2 : bq < c
                      · exact .inl e2
                      · obtain rfl : c = bq := by omega
                        refine .inr ⟨rfl, ?_⟩
                        by_cases e3 : i < iq
                        · exact absurd hh (HNO2.out i a t' e3 ht')
                        · by_cases e4 : iq < i
                          · exact .inl e4
                          · obtain rfl : i = iq := by omega
                            refine .inr ⟨rfl, ?_⟩
                            have e5 := HTE.out
                            rw [ht'] at e5
                            cases e5
                            by_cases e6 : a < fq
                            · exact absurd hh (HNO3.out a e6)
                            · omega⟩⟩)
                  go_wp2
                  refine bodyPost_ret (res_four rfl _ _ _) rfl ?_
                  exact ⟨iq, fq, bq, true, rfl, HFI.out, HXX.out⟩
            · have hltf' : ¬ (fq : Int) ≤ (bq : Int) := by omega
              have HXX := Lib.hid (Ext.trans HX2.out hx3)
              clear hx3
              go_wp2
              go_roundg (rs.length - (iq + 1))
              case measure => omega
              case rel =>
                refine ⟨iq + 1, by omega, rfl, by go_num, fun i' a t' h1 h2 => ?_, HXX.out⟩
                by_cases e : i' = iq
                · subst e
                  have e5 := HTE.out
                  rw [h2] at e5
                  cases e5
                  intro hh
                  exact HNO3.out a (by have := hh.1; omega) hh
                · exact HNO2.out i' a t' (by omega) h2
        · have hlti' : ¬ (iq : Int) < (rs.length : Int) := by omega
          have HXX := Lib.hid hx2
          clear hx2
          go_wp2
          go_roundg (l.length + 1 - (bq + 1))
          case measure => omega
          case rel =>
            refine ⟨bq + 1, by omega, rfl, by go_num, fun i a c t' h1 h2 => ?_, HXX.out⟩
            by_cases e : c = bq
            · subst e; exact HNO2.out i a t' (by have := (List.getElem?_eq_some_iff.1 h2).1; omega) h2
            · exact HNO1.out i a c t' (by omega) h2
    · have hltb' : ¬ (bq : Int) ≤ (l.length : Int) := by omega
      have HFI := Lib.hid (show First rs l 0 0 0 false from ⟨fun _ i a c t h1 h2 => HNO1.out i a c t (by have := h2.2.1; omega) h1 h2, fun e => by cases e⟩)
      go_wp2
      refine bodyPost_ret (res_four rfl _ _ _) rfl ?_
      exact ⟨0, 0, 0, false, rfl, HFI.out, hx⟩
end Go.Proofs.YtnkhiohopcadmaaDoor
