/- Put together: Sm20. -/
import Derived.Test.YtmfdnjddggaeaaaDoorNsG
namespace Go.Proofs.YtmfdnjddggaeaaaDoor
open Go Go.RowKit
attribute [local irreducible] wd

def endP (r : Option (Nat × Int × List Int)) : Int := match r with | none => 0 | some x => (x.1 : Nat)
/-- What Find answers, but for what it captured. -/
def TupV (isr : Bool) (endr : Int) (v : Value) : Prop := ∃ f A n cc, v = .tuple #[.agg #[.int .i64 f, .slice A n cc], .int .i64 endr, .bool isr]
def AgV (v : Value) : Prop := ∃ f A n cc, v = .agg #[.int .i64 f, .slice A n cc]
def PtV (B : Nat) (v : Value) (w : World) : Prop := ∃ g, v = .pointer (some ⟨g, 0, none⟩) ∧ B ≤ g ∧ ∃ cs, cs.length = 2 ∧ Blk w g 43 cs
theorem findR_tup {c : List Ins} {G : Nat} {l : List UInt8} {w w' : World} {e : Ending} (h : FindR c G l w e w') {isr : Bool} {endr : Int} (h1 : (findP c (noneK G) l).isSome = isr) (h2 : endP (findP c (noneK G) l) = endr) : Ext w w' ∧ ∃ f A n cc, e = .returned (.tuple #[.agg #[.int .i64 f, .slice A n cc], .int .i64 endr, .bool isr]) := by
  unfold FindR at h
  subst h1 h2
  cases hf : findP c (noneK G) l with
  | none => rw [hf] at h; exact ⟨h.2, 0, none, 0, 0, h.1⟩
  | some x => rw [hf] at h; obtain ⟨A, cc, h1, _, h3⟩ := h; exact ⟨h3, x.2.1, A, x.2.2.length, cc, h1⟩
theorem caps_none {G : Nat} {lo hi : Int} {q : List Int} (h : Caps (noneK G) lo hi q) : q.length = 2 * G ∧ ∀ (i : Nat) (x : Int), q[i]? = some x → x = -1 ∨ (lo ≤ x ∧ x ≤ hi) := by
  refine ⟨by rw [h.1]; simp [noneK], fun i x hx => ?_⟩
  rcases h.2 i x hx with h | h
  · exact .inl (List.mem_replicate.1 (List.mem_of_getElem? h)).2
  · exact .inr h

set_option maxHeartbeats 8000000 in
set_option maxRecDepth 20000 in
theorem lawEarly (E : Nat → Addr) (t : T) (l : List UInt8) (S : Nat → Prop) (v : List Value) (w : World) (h : NodeV S w t v) (hE : Env E w) :
    Calls Tryd.prog 5 #[.agg v.toArray, .string ⟨l.toArray⟩] w fun e w' => e = .returned (.bool true) ∧ Ext w w' := by
  obtain ⟨k, m, z, s, A, n, c, rfl⟩ := nodeV_form h
  have hx0 := Lib.hid (Ext.new1 w (.cells (nodeC k m z s A n c).toArray 27))
  have HV := Lib.hid (h.keep hx0.out)
  have HB := Lib.hid (NodeB.new w k m z s A n c)
  have HE := Lib.hid (hE.keep hx0.out)
  clear h hE
  unfold nodeC at hx0 HV HE ⊢
  cases hg : t.great
  rotate_left
  · have HG := Lib.hid hg
    clear hg
    go_enter Tryd.func5, Tryd.ntmps5
    go_wp2_with (first
      | (have := hx1; go_at_call 11; refine (lawGreat t S _ (nodeC k m z s A n c) (HV.out.keep hx1)).mono ?_; rintro e w2 ⟨rfl, hx2⟩; rw [HG.out]; obtain ⟨x0, x1, x2, x3, x4, x5, x6, x7⟩ := (HB.out.keep (Ext.trans hx1 hx2)).cells)
      | (go_at_call 19; refine (alive26 E _ HE.out).mono ?_; rintro e w1 ⟨rfl, hx1⟩; obtain ⟨q0, q1, q2, q3, q4, q5, q6, q7⟩ := (HB.out.keep hx1).cells))
    go_ret
    exact ⟨rfl, Ext.trans hx0.out (Ext.trans hx1 hx2)⟩
  have HS := Lib.hid (great_size hg)
  have HG := Lib.hid hg
  clear hg
  by_cases hl : (40 : Int) < (l.length : Int)
  · go_enter Tryd.func5, Tryd.ntmps5
    go_wp2_with (first
      | (have := hx1; go_at_call 11; refine (lawGreat t S _ (nodeC k m z s A n c) (HV.out.keep hx1)).mono ?_; rintro e w2 ⟨rfl, hx2⟩; rw [HG.out]; obtain ⟨x0, x1, x2, x3, x4, x5, x6, x7⟩ := (HB.out.keep (Ext.trans hx1 hx2)).cells)
      | (go_at_call 19; refine (alive26 E _ HE.out).mono ?_; rintro e w1 ⟨rfl, hx1⟩; obtain ⟨q0, q1, q2, q3, q4, q5, q6, q7⟩ := (HB.out.keep hx1).cells))
    go_ret
    exact ⟨rfl, Ext.trans hx0.out (Ext.trans hx1 hx2)⟩
  have HL := Lib.hid (show l.length ≤ 40 by omega)
  cases hc : compB t
  · have HC := Lib.hid hc
    clear hc
    go_enter Tryd.func5, Tryd.ntmps5
    go_wp2_with (first
      | (have := hx3; refine store_pg rfl (.tmp 5) (.tmp 31) rfl (g := w3.heap.size) (old := [.slice none 0 0, .int .i64 0]) [.slice none 0 0, .int .i64 0] rfl rfl (Blk.newL w3 32 [.slice none 0 0, .int .i64 0]) rfl rfl rfl ?_; unfold errV)
      | (have := hx2; go_at_call 12; refine (nfCompileAny E t (by have := HS.out; omega) S _ (nodeC k m z s A n c) (HV.out.keep (Ext.trans hx1 hx2)) (HE.out.keep (Ext.trans hx1 hx2))).mono ?_; intro e w3 hres; obtain ⟨hx3, K, rfl, -⟩ := compR_neg hres HC.out)
      | (have := hx1; go_at_call 11; refine (lawGreat t S _ (nodeC k m z s A n c) (HV.out.keep hx1)).mono ?_; rintro e w2 ⟨rfl, hx2⟩; rw [HG.out]; obtain ⟨x0, x1, x2, x3, x4, x5, x6, x7⟩ := (HB.out.keep (Ext.trans hx1 hx2)).cells)
      | (go_at_call 19; refine (alive26 E _ HE.out).mono ?_; rintro e w1 ⟨rfl, hx1⟩; obtain ⟨q0, q1, q2, q3, q4, q5, q6, q7⟩ := (HB.out.keep hx1).cells))
    go_ret
    exact ⟨rfl, Ext.trans hx0.out (Ext.trans hx1 (Ext.trans hx2 (Ext.trans hx3 ((Ext.new1 _ _).rowX _ _ (Nat.le_refl _)))))⟩
  have HC := Lib.hid hc
  clear hc
  go_enter Tryd.func5, Tryd.ntmps5
  go_upto_region 8 with (first
    | (have := hx3; refine store_pg rfl (.tmp 5) (.tmp 31) rfl (g := w3.heap.size) (old := [.slice none 0 0, .int .i64 0]) [.slice AP (progT t).length cP, .int .i64 (t.groups : Nat)] rfl rfl (Blk.newL w3 32 [.slice none 0 0, .int .i64 0]) rfl rfl rfl ?_)
    | (have := hx2; go_at_call 12; refine (nfCompileAny E t (by have := HS.out; omega) S _ (nodeC k m z s A n c) (HV.out.keep (Ext.trans hx1 hx2)) (HE.out.keep (Ext.trans hx1 hx2))).mono ?_; intro e w3 hres; obtain ⟨hx3, AP, cP, rfl, hrd, hok⟩ := compR_pos hres HC.out)
    | (have := hx1; go_at_call 11; refine (lawGreat t S _ (nodeC k m z s A n c) (HV.out.keep hx1)).mono ?_; rintro e w2 ⟨rfl, hx2⟩; rw [HG.out]; obtain ⟨x0, x1, x2, x3, x4, x5, x6, x7⟩ := (HB.out.keep (Ext.trans hx1 hx2)).cells)
    | (go_at_call 19; refine (alive26 E _ HE.out).mono ?_; rintro e w1 ⟨rfl, hx1⟩; obtain ⟨q0, q1, q2, q3, q4, q5, q6, q7⟩ := (HB.out.keep hx1).cells))
  have hxp : Ext w3 ((w3.alloc (.cells #[.slice none 0 0, .int .i64 0] 32)).setRow w3.heap.size #[.slice AP (progT t).length cP, .int .i64 (t.groups : Nat)]) := (Ext.new1 _ _).rowX _ _ (Nat.le_refl _)
  have hx123 := Ext.trans hx1 (Ext.trans hx2 (Ext.trans hx3 hxp))
  have HXP := Lib.hid (Ext.trans hx0.out hx123)
  have HPB := Lib.hid (show Blk ((w3.alloc (.cells #[.slice none 0 0, .int .i64 0] 32)).setRow w3.heap.size #[.slice AP (progT t).length cP, .int .i64 (t.groups : Nat)]) w3.heap.size 32 [.slice AP (progT t).length cP, .int .i64 (t.groups : Nat)] from Blk.row (Blk.newL w3 32 [.slice none 0 0, .int .i64 0]) _)
  have HRD := Lib.hid (hrd.keep hxp)
  have HOK := Lib.hid hok
  have HVP := Lib.hid (HV.out.keep hx123)
  have HBP := Lib.hid (HB.out.keep hx123)
  have HEP := Lib.hid (HE.out.keep hx123)
  clear hxp hx1 hx2 hx3 hx123 hrd hok hres this q0 q1 q2 q3 q4 q5 q6 q7 x0 x1 x2 x3 x4 x5 x6 x7 HV HB HE hx0 hl
  generalize (w3.alloc (.cells #[.slice none 0 0, .int .i64 0] 32)).setRow w3.heap.size #[.slice AP (progT t).length cP, .int .i64 (t.groups : Nat)] = wp at *
  generalize w3.heap.size = gp at *
  generalize w.heap.size = gn at *
  have HLS0 := Lib.hid (show l.length ≤ 1000 by have := HL.out; omega)
  have p0 : wp.cell? ⟨gp, 0, none⟩ = some (.slice AP (progT t).length cP) := HPB.out.cell 0
  have p1 : wp.cell? ⟨gp, 1, none⟩ = some (.int .i64 (t.groups : Nat)) := HPB.out.cell 1
  cases hf : findP (progT t) (noneK t.groups) l with
  | none =>
    have HF := Lib.hid hf
    clear hf
    go_wp2_with (first
      | (have := hx5; refine store_hit rfl (.tmp 7) (.tmp 39) rfl (g := w5.heap.size) (old := [.int .i64 0, .slice none 0 0]) [.int .i64 0, .slice none 0 0] rfl rfl (Blk.newL w5 43 [.int .i64 0, .slice none 0 0]) rfl rfl rfl ?_)
      | (go_at_call 20; refine (smFind (progT t) t.groups HOK.out AP cP l HLS0.out wp HRD.out).mono ?_; intro e w5 hans; unfold FindR at hans; rw [HF.out] at hans; obtain ⟨rfl, hx5⟩ := hans))
    go_ret
    exact ⟨rfl, Ext.trans HXP.out (Ext.trans hx5 ((Ext.new1 _ _).rowX _ _ (Nat.le_refl _)))⟩
  | some x =>
    obtain ⟨j, f, q⟩ := x
    obtain ⟨nq, rfl, hnj, hjl, hbefore, hparts, hcaps⟩ := early_law HOK.out.r.closed HOK.out.r.pos hf
    have HF := Lib.hid hf
    have HNJ := Lib.hid hnj
    have HJL := Lib.hid hjl
    have HBF := Lib.hid hbefore
    have HPT := Lib.hid hparts
    have HCP := Lib.hid (caps_none hcaps)
    clear hf hbefore hparts hcaps
    have g1 : ¬ (nq : Int) < 0 := by omega
    have g2 : ¬ (j : Int) < (nq : Int) := by omega
    have g3 : ¬ (l.length : Int) < (j : Int) := by omega
    clear hnj hjl
    go_upto_region 11 with (first
      | (have := hx5; refine store_hit rfl (.tmp 7) (.tmp 39) rfl (g := w5.heap.size) (old := [.int .i64 0, .slice none 0 0]) [.int .i64 (nq : Nat), .slice AH q.length cH] rfl rfl (Blk.newL w5 43 [.int .i64 0, .slice none 0 0]) rfl rfl rfl ?_)
      | (go_at_call 20; refine (smFind (progT t) t.groups HOK.out AP cP l HLS0.out wp HRD.out).mono ?_; intro e w5 hans; unfold FindR at hans; rw [HF.out] at hans; obtain ⟨AH, cH, rfl, hown, hx5⟩ := hans))
    have hxh : Ext w5 ((w5.alloc (.cells #[.int .i64 0, .slice none 0 0] 43)).setRow w5.heap.size #[.int .i64 (nq : Nat), .slice AH q.length cH]) := (Ext.new1 _ _).rowX _ _ (Nat.le_refl _)
    have HB6 := Lib.hid (show Blk ((w5.alloc (.cells #[.int .i64 0, .slice none 0 0] 43)).setRow w5.heap.size #[.int .i64 (nq : Nat), .slice AH q.length cH]) w5.heap.size 43 [.int .i64 (nq : Nat), .slice AH q.length cH] from Blk.row (Blk.newL w5 43 [.int .i64 0, .slice none 0 0]) _)
    obtain ⟨AH', cH', hAH, _, _, hrdH⟩ := own_rd hown
    cases hAH
    have HRH := Lib.hid (hrdH.keep hxh)
    have HX6 := Lib.hid (Ext.trans HXP.out (Ext.trans hx5 hxh))
    have HPB6 := Lib.hid (HPB.out.keep (Ext.trans hx5 hxh))
    have HRD6 := Lib.hid (HRD.out.keep (Ext.trans hx5 hxh))
    clear hxh hx5 hown hrdH this p0 p1
    generalize (w5.alloc (.cells #[.int .i64 0, .slice none 0 0] 43)).setRow w5.heap.size #[.int .i64 (nq : Nat), .slice AH q.length cH] = w6 at *
    generalize w5.heap.size = gh at *
    have h0 : w6.cell? ⟨gh, 0, none⟩ = some (.int .i64 (nq : Nat)) := HB6.out.cell 0
    go_upto_region 13 with fail
    by_cases hj0 : j = 0
    · have hz : ¬ (0 : Int) < (j : Int) := by omega
      have HXQ := Lib.hid (Ext.refl w6)
      clear hj0
      go_upto_region 17 with fail
      have HPBL := Lib.hid (HPB6.out.keep HXQ.out)
      have HRDL := Lib.hid (HRD6.out.keep HXQ.out)
      have HBL := Lib.hid (HB6.out.keep HXQ.out)
      have HRHL := Lib.hid (HRH.out.keep HXQ.out)
      have HXL := Lib.hid (Ext.trans HX6.out HXQ.out)
      clear h0 HPB6 HRD6 HB6 HRH HX6 HXQ HBF
      go_wp2
      go_loopg [13] (j + 1) (fun g iv wr => ∃ aq : Nat, aq ≤ j + 1 ∧ g = j + 1 - aq ∧ iv = .int .i64 (aq : Nat) ∧ Ext w6 wr)
      case atStart => exact ⟨0, by omega, rfl, rfl, Ext.refl _⟩
      case round =>
        obtain ⟨aq, haj, rfl, rfl, hx⟩ := hrel
        have HPB5 := Lib.hid (HPBL.out.keep hx)
        have HRD5 := Lib.hid (HRDL.out.keep hx)
        have HB5 := Lib.hid (HBL.out.keep hx)
        have HRH5 := Lib.hid (HRHL.out.keep hx)
        have HX5 := Lib.hid (Ext.trans HXL.out hx)
        have HXW := Lib.hid hx
        clear hx
        by_cases hle : aq ≤ j
        · obtain ⟨hp1, hp2⟩ := HPT.out aq hle
          obtain ⟨D, hD⟩ : ∃ D, j - aq = D := ⟨_, rfl⟩
          obtain ⟨isr, his⟩ : ∃ isr, (findP (progT t) (noneK t.groups) ((l.take j).drop aq)).isSome = isr := ⟨_, rfl⟩
          obtain ⟨endr, hen⟩ : ∃ endr, endP (findP (progT t) (noneK t.groups) ((l.take j).drop aq)) = endr := ⟨_, rfl⟩
          have HWA := Lib.hid (show IntKind.i64.wrap ((j : Int) - (aq : Int)) = (D : Int) by rw [show (j : Int) - (aq : Int) = (D : Int) by omega]; exact wrap_id (by omega) (by have := HJL.out; have := HL.out; omega))
          have HCASE := Lib.hid (show (isr = false ∧ ¬ (aq : Int) ≤ (nq : Int)) ∨ (isr = true ∧ endr = (D : Int)) from by
            cases hf : findP (progT t) (noneK t.groups) ((l.take j).drop aq) with
            | none =>
              rw [hf] at his
              exact .inl ⟨his.symm, by have := hp1 hf; omega⟩
            | some x =>
              obtain ⟨e9, x9⟩ := x
              rw [hf] at his hen
              refine .inr ⟨his.symm, ?_⟩
              have h1 := hp2 e9 x9 hf
              rw [← hen]
              show ((e9 : Nat) : Int) = _
              omega)
          have HIS := Lib.hid his
          have HEN := Lib.hid hen
          have HLS := Lib.hid (show ((l.take j).drop aq).length ≤ 1000 by rw [List.length_drop, List.length_take]; have := HLS0.out; omega)
          have HJ1 := Lib.hid (show (0 : Int) ≤ (aq : Int) ∧ (aq : Int) ≤ (j : Int) ∧ (j : Int) ≤ (l.length : Int) from ⟨by omega, by omega, by have := HJL.out; omega⟩)
          have HWI := Lib.hid (show IntKind.i64.wrap ((aq : Int) + 1) = (aq : Int) + 1 from wrap_id (by omega) (by have := HJL.out; have := HL.out; omega))
          have hlt' : (aq : Int) ≤ (j : Int) := by omega
          clear hp1 hp2 hD his hen
          go_upto_region 20 with fail
          refine wp_region_dag (E := EG wr.heap.size 43 (fun _ cs => cs.length = 2)) (w0 := wr) (Φ := fun i v w => match i with | 0 => (v = .agg #[.slice AP (progT t).length cP, .int .i64 (t.groups : Nat)]) | 1 => (v = .string ⟨l.toArray⟩) | 2 => (v = .int .i64 (aq : Nat)) | 3 => (v = .int .i64 (j : Nat)) | 4 => (v = .string ⟨((l.take j).drop aq).toArray⟩) | 5 => (TupV isr endr v) | 6 => (TupV isr endr v) | 7 => (AgV v) | 8 => (v = .int .i64 endr) | 9 => (v = .bool isr) | 10 => (PtV wr.heap.size v w) | 11 => (True) | 12 => (v = .int .i64 endr) | 13 => (v = .bool isr) | _ => True) (show Tryd.prog.follows .mixedOrders = true from Checked.mixed Tryd.checked) 144 rfl (by decide +kernel) ?_ (.of_ext ((Below.refl _ _).drew)) ?_ ⟨?_, ?_, ?_, ?_, ?_, ?_, ?_, ?_, ?_, ?_, ?_, ?_, ?_, ?_, trivial⟩ ?_
          · intro i v w w' h hE
            match i, h with
            | 0, h => exact h
            | 1, h => exact h
            | 2, h => exact h
            | 3, h => exact h
            | 4, h => exact h
            | 5, h => exact h
            | 6, h => exact h
            | 7, h => exact h
            | 8, h => exact h
            | 9, h => exact h
            | 10, h => exact (by obtain ⟨g, h1, h2, h3⟩ := h; exact ⟨g, h1, h2, hE.four (fun _ _ h => h) h3⟩)
            | 11, h => exact h
            | 12, h => exact h
            | 13, h => exact h
            | _ + 14, _ => trivial
          · exact fun w w' h h' => h.trans (fun _ _ _ h _ => h) h'
          · -- 0: t78 := load 32 t5 
            intro ac wx hE hsz hdf h
            have e5 : ac.tmps[5]? = some (.pointer (some ⟨gp, 0, none⟩)) := by obtain ⟨v, h1, h2⟩ := h 5 (by decide +kernel); exact h1.trans (h2.symm.trans rfl)
            clear h hsz hdf
            have hk := HPB5.out.keep (hE.below (Below.refl _ _) (Nat.le_refl _)); have k0 := hk.cell 0; have k1 := hk.cell 1
            go_wp2
            exact ⟨_, rfl, rfl, EG.refl _⟩
          · -- 1: t79 := move t1 
            intro ac wx hE hsz hdf h
            have e1 : ac.tmps[1]? = some (.string ⟨l.toArray⟩) := by obtain ⟨v, h1, h2⟩ := h 1 (by decide +kernel); exact h1.trans (h2.symm.trans rfl)
            clear h hsz hdf
            go_wp2
            exact ⟨_, rfl, rfl, EG.refl _⟩
          · -- 2: t80 := move t13 
            intro ac wx hE hsz hdf h
            have e13 : ac.tmps[13]? = some (.int .i64 (aq : Nat)) := by obtain ⟨v, h1, h2⟩ := h 13 (by decide +kernel); exact h1.trans (h2.symm.trans rfl)
            clear h hsz hdf
            go_wp2
            exact ⟨_, rfl, rfl, EG.refl _⟩
          · -- 3: t81 := move t8 
            intro ac wx hE hsz hdf h
            have e8 : ac.tmps[8]? = some (.int .i64 (j : Nat)) := by obtain ⟨v, h1, h2⟩ := h 8 (by decide +kernel); exact h1.trans (h2.symm.trans rfl)
            clear h hsz hdf
            skip
            go_wp2
            exact ⟨_, rfl, rfl, EG.refl _⟩
          · -- 4: t82 := slice 9 t79 (some t80) (some t81) none 
            intro ac wx hE hsz hdf h
            have e79 : ac.tmps[79]? = some (.string ⟨l.toArray⟩) := by obtain ⟨v, h1, h2⟩ := h 79 (by decide +kernel); rw [h1]; exact congrArg some h2
            have e80 : ac.tmps[80]? = some (.int .i64 (aq : Nat)) := by obtain ⟨v, h1, h2⟩ := h 80 (by decide +kernel); rw [h1]; exact congrArg some h2
            have e81 : ac.tmps[81]? = some (.int .i64 (j : Nat)) := by obtain ⟨v, h1, h2⟩ := h 81 (by decide +kernel); rw [h1]; exact congrArg some h2
            clear h hsz hdf
            have hj1 := HJ1.out.1; have hj2 := HJ1.out.2.1; have hj3 := HJ1.out.2.2
            go_wp2
            exact ⟨_, rfl, rfl, EG.refl _⟩
          · -- 5: t83 := call { value (Operand.func 20), args := #[t78, t82], argTypes := #[32, 9] } 
            intro ac wx hE hsz hdf h
            have e78 : ac.tmps[78]? = some (.agg #[.slice AP (progT t).length cP, .int .i64 (t.groups : Nat)]) := by obtain ⟨v, h1, h2⟩ := h 78 (by decide +kernel); rw [h1]; exact congrArg some h2
            have e82 : ac.tmps[82]? = some (.string ⟨((l.take j).drop aq).toArray⟩) := by obtain ⟨v, h1, h2⟩ := h 82 (by decide +kernel); rw [h1]; exact congrArg some h2
            clear h hsz hdf
            go_wp2_with ((go_at_call 20; refine (smFind (progT t) t.groups HOK.out AP cP (((l.take j).drop aq)) HLS.out wx (HRD5.out.keep (hE.below (Below.refl _ _) (Nat.le_refl _)))).mono ?_; intro e w9 hans; obtain ⟨hx9, f, A, n9, cc, rfl⟩ := findR_tup hans HIS.out HEN.out))
            exact ⟨_, rfl, ⟨f, A, n9, cc, rfl⟩, .of_ext hx9⟩
          · -- 6: t77 := move t83 
            intro ac wx hE hsz hdf h
            obtain ⟨v83, e83, s83⟩ : ∃ v, ac.tmps[83]? = some v ∧ (TupV isr endr v) := h 83 (by decide +kernel)
            clear h hsz hdf
            obtain ⟨f, A, n9, cc, rfl⟩ := s83
            go_wp2
            exact ⟨_, rfl, ⟨f, A, n9, cc, rfl⟩, EG.refl _⟩
          · -- 7: t84 := extract t77 0 
            intro ac wx hE hsz hdf h
            obtain ⟨v77, e77, s77⟩ : ∃ v, ac.tmps[77]? = some v ∧ (TupV isr endr v) := h 77 (by decide +kernel)
            clear h hsz hdf
            obtain ⟨f, A, n9, cc, rfl⟩ := s77
            go_wp2
            exact ⟨_, rfl, ⟨f, A, n9, cc, rfl⟩, EG.refl _⟩
          · -- 8: t85 := extract t77 1 
            intro ac wx hE hsz hdf h
            obtain ⟨v77, e77, s77⟩ : ∃ v, ac.tmps[77]? = some v ∧ (TupV isr endr v) := h 77 (by decide +kernel)
            clear h hsz hdf
            obtain ⟨f, A, n9, cc, rfl⟩ := s77
            go_wp2
            exact ⟨_, rfl, rfl, EG.refl _⟩
          · -- 9: t86 := extract t77 2 
            intro ac wx hE hsz hdf h
            obtain ⟨v77, e77, s77⟩ : ∃ v, ac.tmps[77]? = some v ∧ (TupV isr endr v) := h 77 (by decide +kernel)
            clear h hsz hdf
            obtain ⟨f, A, n9, cc, rfl⟩ := s77
            go_wp2
            exact ⟨_, rfl, rfl, EG.refl _⟩
          · -- 10: t14 := alloc 43 
            intro ac wx hE hsz hdf h
            clear h hsz hdf
            go_wp2
            exact ⟨_, rfl, ⟨_, rfl, hE.size, _, rfl, Blk.newL wx 43 [.int .i64 0, .slice none 0 0]⟩, .of_ext (Ext.new1 _ _)⟩
          · -- 11: tNone := store 43 t14 t84 
            intro ac wx hE hsz hdf h
            obtain ⟨v14, e14, s14⟩ : ∃ v, ac.tmps[14]? = some v ∧ (PtV wr.heap.size v wx) := h 14 (by decide +kernel)
            obtain ⟨v84, e84, s84⟩ : ∃ v, ac.tmps[84]? = some v ∧ (AgV v) := h 84 (by decide +kernel)
            clear h hsz hdf
            obtain ⟨f, A, n9, cc, rfl⟩ := s84; obtain ⟨g, rfl, hgB, cs9, hl9, hb9⟩ := s14
            go_wp2_with ((refine store_hit rfl (.tmp 14) (.tmp 84) rfl (g := g) [.int .i64 f, .slice A n9 cc] (by simp [Act.eval, e14]) (by simp [Act.eval, e84]) hb9 hl9 rfl rfl ?_))
            first | exact EG.store (cs' := [.int .i64 f, .slice A n9 cc]) (rowChg _ _ _ (by simp)) hgB hb9 (Blk.row hb9 _) rfl | exact ⟨undef, rfl, trivial, EG.store (cs' := [.int .i64 f, .slice A n9 cc]) (rowChg _ _ _ (by simp)) hgB hb9 (Blk.row hb9 _) rfl⟩
          · -- 12: t15 := assign t85 
            intro ac wx hE hsz hdf h
            have e85 : ac.tmps[85]? = some (.int .i64 endr) := by obtain ⟨v, h1, h2⟩ := h 85 (by decide +kernel); rw [h1]; exact congrArg some h2
            clear h hsz hdf
            go_wp2
            exact ⟨_, rfl, rfl, EG.refl _⟩
          · -- 13: t16 := assign t86 
            intro ac wx hE hsz hdf h
            have e86 : ac.tmps[86]? = some (.bool isr) := by obtain ⟨v, h1, h2⟩ := h 86 (by decide +kernel); rw [h1]; exact congrArg some h2
            clear h hsz hdf
            go_wp2
            exact ⟨_, rfl, rfl, EG.refl _⟩
          · intro ac w9 hE hsz hdf h hrest
            obtain ⟨v0, s0, g0⟩ := h 0 _ rfl
            have e0 := g0 78 rfl
            obtain rfl : v0 = .agg #[.slice AP (progT t).length cP, .int .i64 (t.groups : Nat)] := s0
            obtain ⟨v1, s1, g1⟩ := h 1 _ rfl
            have e1 := g1 79 rfl
            obtain rfl : v1 = .string ⟨l.toArray⟩ := s1
            obtain ⟨v2, s2, g2⟩ := h 2 _ rfl
            have e2 := g2 80 rfl
            obtain rfl : v2 = .int .i64 (aq : Nat) := s2
            obtain ⟨v3, s3, g3⟩ := h 3 _ rfl
            have e3 := g3 81 rfl
            obtain rfl : v3 = .int .i64 (j : Nat) := s3
            obtain ⟨v4, s4, g4⟩ := h 4 _ rfl
            have e4 := g4 82 rfl
            obtain rfl : v4 = .string ⟨((l.take j).drop aq).toArray⟩ := s4
            obtain ⟨v5, s5, g5⟩ := h 5 _ rfl
            have e5 := g5 83 rfl
            replace s5 : TupV isr endr v5 := s5
            obtain ⟨v6, s6, g6⟩ := h 6 _ rfl
            have e6 := g6 77 rfl
            replace s6 : TupV isr endr v6 := s6
            obtain ⟨v7, s7, g7⟩ := h 7 _ rfl
            have e7 := g7 84 rfl
            replace s7 : AgV v7 := s7
            obtain ⟨v8, s8, g8⟩ := h 8 _ rfl
            have e8 := g8 85 rfl
            obtain rfl : v8 = .int .i64 endr := s8
            obtain ⟨v9, s9, g9⟩ := h 9 _ rfl
            have e9 := g9 86 rfl
            obtain rfl : v9 = .bool isr := s9
            obtain ⟨v10, s10, g10⟩ := h 10 _ rfl
            have e10 := g10 14 rfl
            replace s10 : PtV wr.heap.size v10 w9 := s10
            obtain ⟨v12, s12, g12⟩ := h 12 _ rfl
            have e12 := g12 15 rfl
            obtain rfl : v12 = .int .i64 endr := s12
            obtain ⟨v13, s13, g13⟩ := h 13 _ rfl
            have e13 := g13 16 rfl
            obtain rfl : v13 = .bool isr := s13
            have ha := act_of [(78, .agg #[.slice AP (progT t).length cP, .int .i64 (t.groups : Nat)]), (79, .string ⟨l.toArray⟩), (80, .int .i64 (aq : Nat)), (81, .int .i64 (j : Nat)), (82, .string ⟨((l.take j).drop aq).toArray⟩), (83, v5), (77, v6), (84, v7), (85, .int .i64 endr), (86, .bool isr), (14, v10), (15, .int .i64 endr), (16, .bool isr)] rfl hsz hdf (by intro p hp; simp only [List.mem_cons, List.not_mem_nil, or_false] at hp; rcases hp with rfl | rfl | rfl | rfl | rfl | rfl | rfl | rfl | rfl | rfl | rfl | rfl | rfl <;> first | exact e0 | exact e1 | exact e2 | exact e3 | exact e4 | exact e5 | exact e6 | exact e7 | exact e8 | exact e9 | exact e10 | exact e12 | exact e13) hrest
            clear h hrest hsz hdf e0 e1 e2 e3 e4 e5 e6 e7 e8 e9 e10 e12 e13 g0 g1 g2 g3 g4 g5 g6 g7 g8 g9 g10 g12 g13
            subst ha
            simp only [List.foldl_cons, List.foldl_nil, Act.put, List.setIfInBounds_toArray, List.set_cons_succ, List.set_cons_zero]
            have hX9 : Ext wr w9 := hE.below (Below.refl _ _) (Nat.le_refl _)
            have HX9 := Lib.hid (Ext.trans HXW.out hX9)
            have k0 : w9.cell? ⟨gh, 0, none⟩ = some (.int .i64 (nq : Nat)) := (HB5.out.keep hX9).cell 0
            have hwi := HWI.out
            have hwa := HWA.out
            clear hE hX9 s5 s6 s7 s10
            rcases HCASE.out with ⟨rfl, hn⟩ | ⟨rfl, rfl⟩
            · exfalso
              have := HNJ.out
              omega
            · have hne : ((D : Int) != (D : Int)) = false := by simp
              have hnl : ¬ (D : Int) < (D : Int) := by omega
              go_wp2
              all_goals (go_roundg (j + 1 - (aq + 1)); (case measure => omega); (case rel => exact ⟨aq + 1, by omega, rfl, by go_num, HX9.out⟩))
        · have hlt' : ¬ (aq : Int) ≤ (j : Int) := by omega
          clear haj hle
          generalize wr = wk at *
          go_wp2
          go_loopg [17] q.length (fun g iv wr => ∃ bq : Nat, bq ≤ q.length ∧ g = q.length - bq ∧ iv = .int .i64 (bq : Nat) ∧ Ext wk wr)
          case atStart => exact ⟨0, by omega, rfl, rfl, Ext.refl _⟩
          case round =>
            obtain ⟨bq, hbq, rfl, rfl, hx⟩ := hrel
            have hB := HB5.out.keep hx
            have k0 : wr.cell? ⟨gh, 0, none⟩ = some (.int .i64 (nq : Nat)) := hB.cell 0
            have k1 : wr.cell? ⟨gh, 1, none⟩ = some (.slice AH q.length cH) := hB.cell 1
            have HX7 := Lib.hid hx
            by_cases hlq : bq < q.length
            · obtain ⟨xq, hxq⟩ : ∃ xq, q[bq]? = some xq := ⟨_, List.getElem?_eq_getElem hlq⟩
              have hcase := HCP.out.2 bq xq hxq
              obtain ⟨bH, oH, rfl, _, hcell⟩ := (HRH5.out.keep hx).2 (by simp [intsV]; omega)
              have k2 : wr.cell? ⟨bH, oH + bq, none⟩ = some (.int .i64 xq) := hcell bq _ (by unfold intsV; rw [List.getElem?_map, hxq]; rfl)
              have hlt2 : (bq : Int) < (q.length : Int) := by omega
              have hwi : IntKind.i64.wrap ((bq : Int) + 1) = (bq : Int) + 1 := wrap_id (by omega) (by have := HCP.out.1; have := HOK.out.r.few; omega)
              clear hcell hxq hx hB hbq
              rcases hcase with rfl | ⟨hc1, hc2⟩
              · go_wp2
                go_roundg (q.length - (bq + 1))
                case measure => omega
                case rel => exact ⟨bq + 1, by omega, rfl, by go_num, HX7.out⟩
              · have m1 : (xq != -1) = true := by simp; omega
                have m2 : ¬ xq < (nq : Int) := by omega
                have m3 : ¬ (j : Int) < xq := by omega
                clear hc1 hc2
                go_wp2
                go_roundg (q.length - (bq + 1))
                case measure => omega
                case rel => exact ⟨bq + 1, by omega, rfl, by go_num, HX7.out⟩
            · have hlt2 : ¬ (bq : Int) < (q.length : Int) := by omega
              have r1 : wr.cell? ⟨gp, 1, none⟩ = some (.int .i64 (t.groups : Nat)) := (HPB5.out.keep hx).cell 1
              have hw2 : IntKind.i64.wrap (2 * (t.groups : Int)) = (q.length : Int) := by rw [show 2 * (t.groups : Int) = (q.length : Int) by have := HCP.out.1; omega]; exact wrap_id (by omega) (by have := HCP.out.1; have := HOK.out.r.few; omega)
              clear hx hB hbq hlq
              go_wp2
              go_ret
              exact ⟨by simp, Ext.trans HX5.out HX7.out⟩
    · have hz : (0 : Int) < (j : Int) := by omega
      have hwj : IntKind.i64.wrap ((j : Int) - 1) = ((j - 1 : Nat) : Int) := by rw [wrap_id (by omega) (by have := HJL.out; have := HL.out; omega)]; omega
      have HWJ := Lib.hid hwj
      have HIS := Lib.hid (show (findP (progT t) (noneK t.groups) (l.take (j - 1))).isSome = false by rw [HBF.out (by omega)]; rfl)
      have HEN := Lib.hid (show endP (findP (progT t) (noneK t.groups) (l.take (j - 1))) = 0 by rw [HBF.out (by omega)]; rfl)
      have HLS := Lib.hid (show (l.take (j - 1)).length ≤ 1000 by rw [List.length_take]; have := HLS0.out; omega)
      have HPB5 := Lib.hid HPB6.out
      have HRD5 := Lib.hid HRD6.out
      have HJ1 := Lib.hid (show 0 ≤ ((j - 1 : Nat) : Int) ∧ ((j - 1 : Nat) : Int) ≤ (l.length : Int) from ⟨by omega, by have := HJL.out; omega⟩)
      clear hwj hj0
      go_upto_region 14 with fail
      refine wp_region_dag (E := EG w6.heap.size 43 (fun _ cs => cs.length = 2)) (w0 := w6) (Φ := fun i v w => match i with | 0 => (v = .agg #[.slice AP (progT t).length cP, .int .i64 (t.groups : Nat)]) | 1 => (v = .string ⟨l.toArray⟩) | 2 => (v = .int .i64 (j : Nat)) | 3 => (v = .int .i64 ((j - 1 : Nat) : Int)) | 4 => (v = .string ⟨(l.take (j - 1)).toArray⟩) | 5 => (TupV false 0 v) | 6 => (TupV false 0 v) | 7 => (AgV v) | 8 => (v = .int .i64 0) | 9 => (v = .bool false) | 10 => (PtV w6.heap.size v w) | 11 => (True) | 12 => (v = .int .i64 0) | 13 => (v = .bool false) | _ => True) (show Tryd.prog.follows .mixedOrders = true from Checked.mixed Tryd.checked) 144 rfl (by decide +kernel) ?_ (.of_ext ((Below.refl _ _).drew)) ?_ ⟨?_, ?_, ?_, ?_, ?_, ?_, ?_, ?_, ?_, ?_, ?_, ?_, ?_, ?_, trivial⟩ ?_
      · intro i v w w' h hE
        match i, h with
        | 0, h => exact h
        | 1, h => exact h
        | 2, h => exact h
        | 3, h => exact h
        | 4, h => exact h
        | 5, h => exact h
        | 6, h => exact h
        | 7, h => exact h
        | 8, h => exact h
        | 9, h => exact h
        | 10, h => exact (by obtain ⟨g, h1, h2, h3⟩ := h; exact ⟨g, h1, h2, hE.four (fun _ _ h => h) h3⟩)
        | 11, h => exact h
        | 12, h => exact h
        | 13, h => exact h
        | _ + 14, _ => trivial
      · exact fun w w' h h' => h.trans (fun _ _ _ h _ => h) h'
      · -- 0: t62 := load 32 t5 
        intro ac wx hE hsz hdf h
        have e5 : ac.tmps[5]? = some (.pointer (some ⟨gp, 0, none⟩)) := by obtain ⟨v, h1, h2⟩ := h 5 (by decide +kernel); exact h1.trans (h2.symm.trans rfl)
        clear h hsz hdf
        have hk := HPB5.out.keep (hE.below (Below.refl _ _) (Nat.le_refl _)); have k0 := hk.cell 0; have k1 := hk.cell 1
        go_wp2
        exact ⟨_, rfl, rfl, EG.refl _⟩
      · -- 1: t63 := move t1 
        intro ac wx hE hsz hdf h
        have e1 : ac.tmps[1]? = some (.string ⟨l.toArray⟩) := by obtain ⟨v, h1, h2⟩ := h 1 (by decide +kernel); exact h1.trans (h2.symm.trans rfl)
        clear h hsz hdf
        go_wp2
        exact ⟨_, rfl, rfl, EG.refl _⟩
      · -- 2: t64 := move t8 
        intro ac wx hE hsz hdf h
        have e8 : ac.tmps[8]? = some (.int .i64 (j : Nat)) := by obtain ⟨v, h1, h2⟩ := h 8 (by decide +kernel); exact h1.trans (h2.symm.trans rfl)
        clear h hsz hdf
        go_wp2
        exact ⟨_, rfl, rfl, EG.refl _⟩
      · -- 3: t65 := binOp BinOp.sub 3 t64 (const (1:i64)) 3 
        intro ac wx hE hsz hdf h
        have e64 : ac.tmps[64]? = some (.int .i64 (j : Nat)) := by obtain ⟨v, h1, h2⟩ := h 64 (by decide +kernel); rw [h1]; exact congrArg some h2
        clear h hsz hdf
        have hwj := HWJ.out
        go_wp2
        exact ⟨_, rfl, rfl, EG.refl _⟩
      · -- 4: t66 := slice 9 t63 none (some t65) none 
        intro ac wx hE hsz hdf h
        have e63 : ac.tmps[63]? = some (.string ⟨l.toArray⟩) := by obtain ⟨v, h1, h2⟩ := h 63 (by decide +kernel); rw [h1]; exact congrArg some h2
        have e65 : ac.tmps[65]? = some (.int .i64 ((j - 1 : Nat) : Int)) := by obtain ⟨v, h1, h2⟩ := h 65 (by decide +kernel); rw [h1]; exact congrArg some h2
        clear h hsz hdf
        have hj1 := HJ1.out.1; have hj2 := HJ1.out.2
        go_wp2
        exact ⟨_, rfl, rfl, EG.refl _⟩
      · -- 5: t67 := call { value (Operand.func 20), args := #[t62, t66], argTypes := #[32, 9] } 
        intro ac wx hE hsz hdf h
        have e62 : ac.tmps[62]? = some (.agg #[.slice AP (progT t).length cP, .int .i64 (t.groups : Nat)]) := by obtain ⟨v, h1, h2⟩ := h 62 (by decide +kernel); rw [h1]; exact congrArg some h2
        have e66 : ac.tmps[66]? = some (.string ⟨(l.take (j - 1)).toArray⟩) := by obtain ⟨v, h1, h2⟩ := h 66 (by decide +kernel); rw [h1]; exact congrArg some h2
        clear h hsz hdf
        go_wp2_with ((go_at_call 20; refine (smFind (progT t) t.groups HOK.out AP cP ((l.take (j - 1))) HLS.out wx (HRD5.out.keep (hE.below (Below.refl _ _) (Nat.le_refl _)))).mono ?_; intro e w9 hans; obtain ⟨hx9, f, A, n9, cc, rfl⟩ := findR_tup hans HIS.out HEN.out))
        exact ⟨_, rfl, ⟨f, A, n9, cc, rfl⟩, .of_ext hx9⟩
      · -- 6: t61 := move t67 
        intro ac wx hE hsz hdf h
        obtain ⟨v67, e67, s67⟩ : ∃ v, ac.tmps[67]? = some v ∧ (TupV false 0 v) := h 67 (by decide +kernel)
        clear h hsz hdf
        obtain ⟨f, A, n9, cc, rfl⟩ := s67
        go_wp2
        exact ⟨_, rfl, ⟨f, A, n9, cc, rfl⟩, EG.refl _⟩
      · -- 7: t68 := extract t61 0 
        intro ac wx hE hsz hdf h
        obtain ⟨v61, e61, s61⟩ : ∃ v, ac.tmps[61]? = some v ∧ (TupV false 0 v) := h 61 (by decide +kernel)
        clear h hsz hdf
        obtain ⟨f, A, n9, cc, rfl⟩ := s61
        go_wp2
        exact ⟨_, rfl, ⟨f, A, n9, cc, rfl⟩, EG.refl _⟩
      · -- 8: t69 := extract t61 1 
        intro ac wx hE hsz hdf h
        obtain ⟨v61, e61, s61⟩ : ∃ v, ac.tmps[61]? = some v ∧ (TupV false 0 v) := h 61 (by decide +kernel)
        clear h hsz hdf
        obtain ⟨f, A, n9, cc, rfl⟩ := s61
        go_wp2
        exact ⟨_, rfl, rfl, EG.refl _⟩
      · -- 9: t70 := extract t61 2 
        intro ac wx hE hsz hdf h
        obtain ⟨v61, e61, s61⟩ : ∃ v, ac.tmps[61]? = some v ∧ (TupV false 0 v) := h 61 (by decide +kernel)
        clear h hsz hdf
        obtain ⟨f, A, n9, cc, rfl⟩ := s61
        go_wp2
        exact ⟨_, rfl, rfl, EG.refl _⟩
      · -- 10: t10 := alloc 43 
        intro ac wx hE hsz hdf h
        clear h hsz hdf
        go_wp2
        exact ⟨_, rfl, ⟨_, rfl, hE.size, _, rfl, Blk.newL wx 43 [.int .i64 0, .slice none 0 0]⟩, .of_ext (Ext.new1 _ _)⟩
      · -- 11: tNone := store 43 t10 t68 
        intro ac wx hE hsz hdf h
        obtain ⟨v10, e10, s10⟩ : ∃ v, ac.tmps[10]? = some v ∧ (PtV w6.heap.size v wx) := h 10 (by decide +kernel)
        obtain ⟨v68, e68, s68⟩ : ∃ v, ac.tmps[68]? = some v ∧ (AgV v) := h 68 (by decide +kernel)
        clear h hsz hdf
        obtain ⟨f, A, n9, cc, rfl⟩ := s68; obtain ⟨g, rfl, hgB, cs9, hl9, hb9⟩ := s10
        go_wp2_with ((refine store_hit rfl (.tmp 10) (.tmp 68) rfl (g := g) [.int .i64 f, .slice A n9 cc] (by simp [Act.eval, e10]) (by simp [Act.eval, e68]) hb9 hl9 rfl rfl ?_))
        first | exact EG.store (cs' := [.int .i64 f, .slice A n9 cc]) (rowChg _ _ _ (by simp)) hgB hb9 (Blk.row hb9 _) rfl | exact ⟨undef, rfl, trivial, EG.store (cs' := [.int .i64 f, .slice A n9 cc]) (rowChg _ _ _ (by simp)) hgB hb9 (Blk.row hb9 _) rfl⟩
      · -- 12: t11 := assign t69 
        intro ac wx hE hsz hdf h
        have e69 : ac.tmps[69]? = some (.int .i64 0) := by obtain ⟨v, h1, h2⟩ := h 69 (by decide +kernel); rw [h1]; exact congrArg some h2
        clear h hsz hdf
        go_wp2
        exact ⟨_, rfl, rfl, EG.refl _⟩
      · -- 13: t12 := assign t70 
        intro ac wx hE hsz hdf h
        have e70 : ac.tmps[70]? = some (.bool false) := by obtain ⟨v, h1, h2⟩ := h 70 (by decide +kernel); rw [h1]; exact congrArg some h2
        clear h hsz hdf
        go_wp2
        exact ⟨_, rfl, rfl, EG.refl _⟩
      · intro ac w9 hE hsz hdf h hrest
        obtain ⟨v0, s0, g0⟩ := h 0 _ rfl
        have e0 := g0 62 rfl
        obtain rfl : v0 = .agg #[.slice AP (progT t).length cP, .int .i64 (t.groups : Nat)] := s0
        obtain ⟨v1, s1, g1⟩ := h 1 _ rfl
        have e1 := g1 63 rfl
        obtain rfl : v1 = .string ⟨l.toArray⟩ := s1
        obtain ⟨v2, s2, g2⟩ := h 2 _ rfl
        have e2 := g2 64 rfl
        obtain rfl : v2 = .int .i64 (j : Nat) := s2
        obtain ⟨v3, s3, g3⟩ := h 3 _ rfl
        have e3 := g3 65 rfl
        obtain rfl : v3 = .int .i64 ((j - 1 : Nat) : Int) := s3
        obtain ⟨v4, s4, g4⟩ := h 4 _ rfl
        have e4 := g4 66 rfl
        obtain rfl : v4 = .string ⟨(l.take (j - 1)).toArray⟩ := s4
        obtain ⟨v5, s5, g5⟩ := h 5 _ rfl
        have e5 := g5 67 rfl
        replace s5 : TupV false 0 v5 := s5
        obtain ⟨v6, s6, g6⟩ := h 6 _ rfl
        have e6 := g6 61 rfl
        replace s6 : TupV false 0 v6 := s6
        obtain ⟨v7, s7, g7⟩ := h 7 _ rfl
        have e7 := g7 68 rfl
        replace s7 : AgV v7 := s7
        obtain ⟨v8, s8, g8⟩ := h 8 _ rfl
        have e8 := g8 69 rfl
        obtain rfl : v8 = .int .i64 0 := s8
        obtain ⟨v9, s9, g9⟩ := h 9 _ rfl
        have e9 := g9 70 rfl
        obtain rfl : v9 = .bool false := s9
        obtain ⟨v10, s10, g10⟩ := h 10 _ rfl
        have e10 := g10 10 rfl
        replace s10 : PtV w6.heap.size v10 w9 := s10
        obtain ⟨v12, s12, g12⟩ := h 12 _ rfl
        have e12 := g12 11 rfl
        obtain rfl : v12 = .int .i64 0 := s12
        obtain ⟨v13, s13, g13⟩ := h 13 _ rfl
        have e13 := g13 12 rfl
        obtain rfl : v13 = .bool false := s13
        have ha := act_of [(62, .agg #[.slice AP (progT t).length cP, .int .i64 (t.groups : Nat)]), (63, .string ⟨l.toArray⟩), (64, .int .i64 (j : Nat)), (65, .int .i64 ((j - 1 : Nat) : Int)), (66, .string ⟨(l.take (j - 1)).toArray⟩), (67, v5), (61, v6), (68, v7), (69, .int .i64 0), (70, .bool false), (10, v10), (11, .int .i64 0), (12, .bool false)] rfl hsz hdf (by intro p hp; simp only [List.mem_cons, List.not_mem_nil, or_false] at hp; rcases hp with rfl | rfl | rfl | rfl | rfl | rfl | rfl | rfl | rfl | rfl | rfl | rfl | rfl <;> first | exact e0 | exact e1 | exact e2 | exact e3 | exact e4 | exact e5 | exact e6 | exact e7 | exact e8 | exact e9 | exact e10 | exact e12 | exact e13) hrest
        clear h hrest hsz hdf e0 e1 e2 e3 e4 e5 e6 e7 e8 e9 e10 e12 e13 g0 g1 g2 g3 g4 g5 g6 g7 g8 g9 g10 g12 g13
        subst ha
        simp only [List.foldl_cons, List.foldl_nil, Act.put, List.setIfInBounds_toArray, List.set_cons_succ, List.set_cons_zero]
        have HXQ := Lib.hid (show Ext w6 w9 from hE.below (Below.refl _ _) (Nat.le_refl _))
        clear hE s5 s6 s7 s10
        have HPBL := Lib.hid (HPB6.out.keep HXQ.out)
        have HRDL := Lib.hid (HRD6.out.keep HXQ.out)
        have HBL := Lib.hid (HB6.out.keep HXQ.out)
        have HRHL := Lib.hid (HRH.out.keep HXQ.out)
        have HXL := Lib.hid (Ext.trans HX6.out HXQ.out)
        clear h0 HPB6 HRD6 HB6 HRH HX6 HXQ HBF
        go_wp2
        simp only [show decide (j < nq) = false from decide_eq_false (by have := HNJ.out; omega), show decide (l.length < j) = false from decide_eq_false (by have := HJL.out; omega), show decide (0 < j) = true from decide_eq_true (by omega), Bool.or_false]
        go_loopg [13] (j + 1) (fun g iv wr => ∃ aq : Nat, aq ≤ j + 1 ∧ g = j + 1 - aq ∧ iv = .int .i64 (aq : Nat) ∧ Ext w9 wr)
        case atStart => exact ⟨0, by omega, rfl, rfl, Ext.refl _⟩
        case round =>
          obtain ⟨aq, haj, rfl, rfl, hx⟩ := hrel
          have HPB5 := Lib.hid (HPBL.out.keep hx)
          have HRD5 := Lib.hid (HRDL.out.keep hx)
          have HB5 := Lib.hid (HBL.out.keep hx)
          have HRH5 := Lib.hid (HRHL.out.keep hx)
          have HX5 := Lib.hid (Ext.trans HXL.out hx)
          have HXW := Lib.hid hx
          clear hx
          by_cases hle : aq ≤ j
          · obtain ⟨hp1, hp2⟩ := HPT.out aq hle
            obtain ⟨D, hD⟩ : ∃ D, j - aq = D := ⟨_, rfl⟩
            obtain ⟨isr, his⟩ : ∃ isr, (findP (progT t) (noneK t.groups) ((l.take j).drop aq)).isSome = isr := ⟨_, rfl⟩
            obtain ⟨endr, hen⟩ : ∃ endr, endP (findP (progT t) (noneK t.groups) ((l.take j).drop aq)) = endr := ⟨_, rfl⟩
            have HWA := Lib.hid (show IntKind.i64.wrap ((j : Int) - (aq : Int)) = (D : Int) by rw [show (j : Int) - (aq : Int) = (D : Int) by omega]; exact wrap_id (by omega) (by have := HJL.out; have := HL.out; omega))
            have HCASE := Lib.hid (show (isr = false ∧ ¬ (aq : Int) ≤ (nq : Int)) ∨ (isr = true ∧ endr = (D : Int)) from by
              cases hf : findP (progT t) (noneK t.groups) ((l.take j).drop aq) with
              | none =>
                rw [hf] at his
                exact .inl ⟨his.symm, by have := hp1 hf; omega⟩
              | some x =>
                obtain ⟨e9, x9⟩ := x
                rw [hf] at his hen
                refine .inr ⟨his.symm, ?_⟩
                have h1 := hp2 e9 x9 hf
                rw [← hen]
                show ((e9 : Nat) : Int) = _
                omega)
            have HIS := Lib.hid his
            have HEN := Lib.hid hen
            have HLS := Lib.hid (show ((l.take j).drop aq).length ≤ 1000 by rw [List.length_drop, List.length_take]; have := HLS0.out; omega)
            have HJ1 := Lib.hid (show (0 : Int) ≤ (aq : Int) ∧ (aq : Int) ≤ (j : Int) ∧ (j : Int) ≤ (l.length : Int) from ⟨by omega, by omega, by have := HJL.out; omega⟩)
            have HWI := Lib.hid (show IntKind.i64.wrap ((aq : Int) + 1) = (aq : Int) + 1 from wrap_id (by omega) (by have := HJL.out; have := HL.out; omega))
            have hlt' : (aq : Int) ≤ (j : Int) := by omega
            clear hp1 hp2 hD his hen
            go_upto_region 20 with fail
            refine wp_region_dag (E := EG wr.heap.size 43 (fun _ cs => cs.length = 2)) (w0 := wr) (Φ := fun i v w => match i with | 0 => (v = .agg #[.slice AP (progT t).length cP, .int .i64 (t.groups : Nat)]) | 1 => (v = .string ⟨l.toArray⟩) | 2 => (v = .int .i64 (aq : Nat)) | 3 => (v = .int .i64 (j : Nat)) | 4 => (v = .string ⟨((l.take j).drop aq).toArray⟩) | 5 => (TupV isr endr v) | 6 => (TupV isr endr v) | 7 => (AgV v) | 8 => (v = .int .i64 endr) | 9 => (v = .bool isr) | 10 => (PtV wr.heap.size v w) | 11 => (True) | 12 => (v = .int .i64 endr) | 13 => (v = .bool isr) | _ => True) (show Tryd.prog.follows .mixedOrders = true from Checked.mixed Tryd.checked) 144 rfl (by decide +kernel) ?_ (.of_ext ((Below.refl _ _).drew)) ?_ ⟨?_, ?_, ?_, ?_, ?_, ?_, ?_, ?_, ?_, ?_, ?_, ?_, ?_, ?_, trivial⟩ ?_
            · intro i v w w' h hE
              match i, h with
              | 0, h => exact h
              | 1, h => exact h
              | 2, h => exact h
              | 3, h => exact h
              | 4, h => exact h
              | 5, h => exact h
              | 6, h => exact h
              | 7, h => exact h
              | 8, h => exact h
              | 9, h => exact h
              | 10, h => exact (by obtain ⟨g, h1, h2, h3⟩ := h; exact ⟨g, h1, h2, hE.four (fun _ _ h => h) h3⟩)
              | 11, h => exact h
              | 12, h => exact h
              | 13, h => exact h
              | _ + 14, _ => trivial
            · exact fun w w' h h' => h.trans (fun _ _ _ h _ => h) h'
            · -- 0: t78 := load 32 t5 
              intro ac wx hE hsz hdf h
              have e5 : ac.tmps[5]? = some (.pointer (some ⟨gp, 0, none⟩)) := by obtain ⟨v, h1, h2⟩ := h 5 (by decide +kernel); exact h1.trans (h2.symm.trans rfl)
              clear h hsz hdf
              have hk := HPB5.out.keep (hE.below (Below.refl _ _) (Nat.le_refl _)); have k0 := hk.cell 0; have k1 := hk.cell 1
              go_wp2
              exact ⟨_, rfl, rfl, EG.refl _⟩
            · -- 1: t79 := move t1 
              intro ac wx hE hsz hdf h
              have e1 : ac.tmps[1]? = some (.string ⟨l.toArray⟩) := by obtain ⟨v, h1, h2⟩ := h 1 (by decide +kernel); exact h1.trans (h2.symm.trans rfl)
              clear h hsz hdf
              go_wp2
              exact ⟨_, rfl, rfl, EG.refl _⟩
            · -- 2: t80 := move t13 
              intro ac wx hE hsz hdf h
              have e13 : ac.tmps[13]? = some (.int .i64 (aq : Nat)) := by obtain ⟨v, h1, h2⟩ := h 13 (by decide +kernel); exact h1.trans (h2.symm.trans rfl)
              clear h hsz hdf
              go_wp2
              exact ⟨_, rfl, rfl, EG.refl _⟩
            · -- 3: t81 := move t8 
              intro ac wx hE hsz hdf h
              have e8 : ac.tmps[8]? = some (.int .i64 (j : Nat)) := by obtain ⟨v, h1, h2⟩ := h 8 (by decide +kernel); exact h1.trans (h2.symm.trans rfl)
              clear h hsz hdf
              skip
              go_wp2
              exact ⟨_, rfl, rfl, EG.refl _⟩
            · -- 4: t82 := slice 9 t79 (some t80) (some t81) none 
              intro ac wx hE hsz hdf h
              have e79 : ac.tmps[79]? = some (.string ⟨l.toArray⟩) := by obtain ⟨v, h1, h2⟩ := h 79 (by decide +kernel); rw [h1]; exact congrArg some h2
              have e80 : ac.tmps[80]? = some (.int .i64 (aq : Nat)) := by obtain ⟨v, h1, h2⟩ := h 80 (by decide +kernel); rw [h1]; exact congrArg some h2
              have e81 : ac.tmps[81]? = some (.int .i64 (j : Nat)) := by obtain ⟨v, h1, h2⟩ := h 81 (by decide +kernel); rw [h1]; exact congrArg some h2
              clear h hsz hdf
              have hj1 := HJ1.out.1; have hj2 := HJ1.out.2.1; have hj3 := HJ1.out.2.2
              go_wp2
              exact ⟨_, rfl, rfl, EG.refl _⟩
            · -- 5: t83 := call { value (Operand.func 20), args := #[t78, t82], argTypes := #[32, 9] } 
              intro ac wx hE hsz hdf h
              have e78 : ac.tmps[78]? = some (.agg #[.slice AP (progT t).length cP, .int .i64 (t.groups : Nat)]) := by obtain ⟨v, h1, h2⟩ := h 78 (by decide +kernel); rw [h1]; exact congrArg some h2
              have e82 : ac.tmps[82]? = some (.string ⟨((l.take j).drop aq).toArray⟩) := by obtain ⟨v, h1, h2⟩ := h 82 (by decide +kernel); rw [h1]; exact congrArg some h2
              clear h hsz hdf
              go_wp2_with ((go_at_call 20; refine (smFind (progT t) t.groups HOK.out AP cP (((l.take j).drop aq)) HLS.out wx (HRD5.out.keep (hE.below (Below.refl _ _) (Nat.le_refl _)))).mono ?_; intro e w9 hans; obtain ⟨hx9, f, A, n9, cc, rfl⟩ := findR_tup hans HIS.out HEN.out))
              exact ⟨_, rfl, ⟨f, A, n9, cc, rfl⟩, .of_ext hx9⟩
            · -- 6: t77 := move t83 
              intro ac wx hE hsz hdf h
              obtain ⟨v83, e83, s83⟩ : ∃ v, ac.tmps[83]? = some v ∧ (TupV isr endr v) := h 83 (by decide +kernel)
              clear h hsz hdf
              obtain ⟨f, A, n9, cc, rfl⟩ := s83
              go_wp2
              exact ⟨_, rfl, ⟨f, A, n9, cc, rfl⟩, EG.refl _⟩
            · -- 7: t84 := extract t77 0 
              intro ac wx hE hsz hdf h
              obtain ⟨v77, e77, s77⟩ : ∃ v, ac.tmps[77]? = some v ∧ (TupV isr endr v) := h 77 (by decide +kernel)
              clear h hsz hdf
              obtain ⟨f, A, n9, cc, rfl⟩ := s77
              go_wp2
              exact ⟨_, rfl, ⟨f, A, n9, cc, rfl⟩, EG.refl _⟩
            · -- 8: t85 := extract t77 1 
              intro ac wx hE hsz hdf h
              obtain ⟨v77, e77, s77⟩ : ∃ v, ac.tmps[77]? = some v ∧ (TupV isr endr v) := h 77 (by decide +kernel)
              clear h hsz hdf
              obtain ⟨f, A, n9, cc, rfl⟩ := s77
              go_wp2
              exact ⟨_, rfl, rfl, EG.refl _⟩
            · -- 9: t86 := extract t77 2 
              intro ac wx hE hsz hdf h
              obtain ⟨v77, e77, s77⟩ : ∃ v, ac.tmps[77]? = some v ∧ (TupV isr endr v) := h 77 (by decide +kernel)
              clear h hsz hdf
              obtain ⟨f, A, n9, cc, rfl⟩ := s77
              go_wp2
              exact ⟨_, rfl, rfl, EG.refl _⟩
            · -- 10: t14 := alloc 43 
              intro ac wx hE hsz hdf h
              clear h hsz hdf
              go_wp2
              exact ⟨_, rfl, ⟨_, rfl, hE.size, _, rfl, Blk.newL wx 43 [.int .i64 0, .slice none 0 0]⟩, .of_ext (Ext.new1 _ _)⟩
            · -- 11: tNone := store 43 t14 t84 
              intro ac wx hE hsz hdf h
              obtain ⟨v14, e14, s14⟩ : ∃ v, ac.tmps[14]? = some v ∧ (PtV wr.heap.size v wx) := h 14 (by decide +kernel)
              obtain ⟨v84, e84, s84⟩ : ∃ v, ac.tmps[84]? = some v ∧ (AgV v) := h 84 (by decide +kernel)
              clear h hsz hdf
              obtain ⟨f, A, n9, cc, rfl⟩ := s84; obtain ⟨g, rfl, hgB, cs9, hl9, hb9⟩ := s14
              go_wp2_with ((refine store_hit rfl (.tmp 14) (.tmp 84) rfl (g := g) [.int .i64 f, .slice A n9 cc] (by simp [Act.eval, e14]) (by simp [Act.eval, e84]) hb9 hl9 rfl rfl ?_))
              first | exact EG.store (cs' := [.int .i64 f, .slice A n9 cc]) (rowChg _ _ _ (by simp)) hgB hb9 (Blk.row hb9 _) rfl | exact ⟨undef, rfl, trivial, EG.store (cs' := [.int .i64 f, .slice A n9 cc]) (rowChg _ _ _ (by simp)) hgB hb9 (Blk.row hb9 _) rfl⟩
            · -- 12: t15 := assign t85 
              intro ac wx hE hsz hdf h
              have e85 : ac.tmps[85]? = some (.int .i64 endr) := by obtain ⟨v, h1, h2⟩ := h 85 (by decide +kernel); rw [h1]; exact congrArg some h2
              clear h hsz hdf
              go_wp2
              exact ⟨_, rfl, rfl, EG.refl _⟩
            · -- 13: t16 := assign t86 
              intro ac wx hE hsz hdf h
              have e86 : ac.tmps[86]? = some (.bool isr) := by obtain ⟨v, h1, h2⟩ := h 86 (by decide +kernel); rw [h1]; exact congrArg some h2
              clear h hsz hdf
              go_wp2
              exact ⟨_, rfl, rfl, EG.refl _⟩
            · intro ac w9 hE hsz hdf h hrest
              obtain ⟨v0, s0, g0⟩ := h 0 _ rfl
              have e0 := g0 78 rfl
              obtain rfl : v0 = .agg #[.slice AP (progT t).length cP, .int .i64 (t.groups : Nat)] := s0
              obtain ⟨v1, s1, g1⟩ := h 1 _ rfl
              have e1 := g1 79 rfl
              obtain rfl : v1 = .string ⟨l.toArray⟩ := s1
              obtain ⟨v2, s2, g2⟩ := h 2 _ rfl
              have e2 := g2 80 rfl
              obtain rfl : v2 = .int .i64 (aq : Nat) := s2
              obtain ⟨v3, s3, g3⟩ := h 3 _ rfl
              have e3 := g3 81 rfl
              obtain rfl : v3 = .int .i64 (j : Nat) := s3
              obtain ⟨v4, s4, g4⟩ := h 4 _ rfl
              have e4 := g4 82 rfl
              obtain rfl : v4 = .string ⟨((l.take j).drop aq).toArray⟩ := s4
              obtain ⟨v5, s5, g5⟩ := h 5 _ rfl
              have e5 := g5 83 rfl
              replace s5 : TupV isr endr v5 := s5
              obtain ⟨v6, s6, g6⟩ := h 6 _ rfl
              have e6 := g6 77 rfl
              replace s6 : TupV isr endr v6 := s6
              obtain ⟨v7, s7, g7⟩ := h 7 _ rfl
              have e7 := g7 84 rfl
              replace s7 : AgV v7 := s7
              obtain ⟨v8, s8, g8⟩ := h 8 _ rfl
              have e8 := g8 85 rfl
              obtain rfl : v8 = .int .i64 endr := s8
              obtain ⟨v9, s9, g9⟩ := h 9 _ rfl
              have e9 := g9 86 rfl
              obtain rfl : v9 = .bool isr := s9
              obtain ⟨v10, s10, g10⟩ := h 10 _ rfl
              have e10 := g10 14 rfl
              replace s10 : PtV wr.heap.size v10 w9 := s10
              obtain ⟨v12, s12, g12⟩ := h 12 _ rfl
              have e12 := g12 15 rfl
              obtain rfl : v12 = .int .i64 endr := s12
              obtain ⟨v13, s13, g13⟩ := h 13 _ rfl
              have e13 := g13 16 rfl
              obtain rfl : v13 = .bool isr := s13
              have ha := act_of [(78, .agg #[.slice AP (progT t).length cP, .int .i64 (t.groups : Nat)]), (79, .string ⟨l.toArray⟩), (80, .int .i64 (aq : Nat)), (81, .int .i64 (j : Nat)), (82, .string ⟨((l.take j).drop aq).toArray⟩), (83, v5), (77, v6), (84, v7), (85, .int .i64 endr), (86, .bool isr), (14, v10), (15, .int .i64 endr), (16, .bool isr)] rfl hsz hdf (by intro p hp; simp only [List.mem_cons, List.not_mem_nil, or_false] at hp; rcases hp with rfl | rfl | rfl | rfl | rfl | rfl | rfl | rfl | rfl | rfl | rfl | rfl | rfl <;> first | exact e0 | exact e1 | exact e2 | exact e3 | exact e4 | exact e5 | exact e6 | exact e7 | exact e8 | exact e9 | exact e10 | exact e12 | exact e13) hrest
              clear h hrest hsz hdf e0 e1 e2 e3 e4 e5 e6 e7 e8 e9 e10 e12 e13 g0 g1 g2 g3 g4 g5 g6 g7 g8 g9 g10 g12 g13
              subst ha
              simp only [List.foldl_cons, List.foldl_nil, Act.put, List.setIfInBounds_toArray, List.set_cons_succ, List.set_cons_zero]
              have hX9 : Ext wr w9 := hE.below (Below.refl _ _) (Nat.le_refl _)
              have HX9 := Lib.hid (Ext.trans HXW.out hX9)
              have k0 : w9.cell? ⟨gh, 0, none⟩ = some (.int .i64 (nq : Nat)) := (HB5.out.keep hX9).cell 0
              have hwi := HWI.out
              have hwa := HWA.out
              clear hE hX9 s5 s6 s7 s10
              rcases HCASE.out with ⟨rfl, hn⟩ | ⟨rfl, rfl⟩
              · go_wp2
                go_roundg (j + 1 - (aq + 1))
                case measure => omega
                case rel => exact ⟨aq + 1, by omega, rfl, by go_num, HX9.out⟩
              · have hne : ((D : Int) != (D : Int)) = false := by simp
                have hnl : ¬ (D : Int) < (D : Int) := by omega
                go_wp2
                all_goals (go_roundg (j + 1 - (aq + 1)); (case measure => omega); (case rel => exact ⟨aq + 1, by omega, rfl, by go_num, HX9.out⟩))
          · have hlt' : ¬ (aq : Int) ≤ (j : Int) := by omega
            clear haj hle
            generalize wr = wk at *
            go_wp2
            go_loopg [17] q.length (fun g iv wr => ∃ bq : Nat, bq ≤ q.length ∧ g = q.length - bq ∧ iv = .int .i64 (bq : Nat) ∧ Ext wk wr)
            case atStart => exact ⟨0, by omega, rfl, rfl, Ext.refl _⟩
            case round =>
              obtain ⟨bq, hbq, rfl, rfl, hx⟩ := hrel
              have hB := HB5.out.keep hx
              have k0 : wr.cell? ⟨gh, 0, none⟩ = some (.int .i64 (nq : Nat)) := hB.cell 0
              have k1 : wr.cell? ⟨gh, 1, none⟩ = some (.slice AH q.length cH) := hB.cell 1
              have HX7 := Lib.hid hx
              by_cases hlq : bq < q.length
              · obtain ⟨xq, hxq⟩ : ∃ xq, q[bq]? = some xq := ⟨_, List.getElem?_eq_getElem hlq⟩
                have hcase := HCP.out.2 bq xq hxq
                obtain ⟨bH, oH, rfl, _, hcell⟩ := (HRH5.out.keep hx).2 (by simp [intsV]; omega)
                have k2 : wr.cell? ⟨bH, oH + bq, none⟩ = some (.int .i64 xq) := hcell bq _ (by unfold intsV; rw [List.getElem?_map, hxq]; rfl)
                have hlt2 : (bq : Int) < (q.length : Int) := by omega
                have hwi : IntKind.i64.wrap ((bq : Int) + 1) = (bq : Int) + 1 := wrap_id (by omega) (by have := HCP.out.1; have := HOK.out.r.few; omega)
                clear hcell hxq hx hB hbq
                rcases hcase with rfl | ⟨hc1, hc2⟩
                · go_wp2
                  go_roundg (q.length - (bq + 1))
                  case measure => omega
                  case rel => exact ⟨bq + 1, by omega, rfl, by go_num, HX7.out⟩
                · have m1 : (xq != -1) = true := by simp; omega
                  have m2 : ¬ xq < (nq : Int) := by omega
                  have m3 : ¬ (j : Int) < xq := by omega
                  clear hc1 hc2
                  go_wp2
                  go_roundg (q.length - (bq + 1))
                  case measure => omega
                  case rel => exact ⟨bq + 1, by omega, rfl, by go_num, HX7.out⟩
              · have hlt2 : ¬ (bq : Int) < (q.length : Int) := by omega
                have r1 : wr.cell? ⟨gp, 1, none⟩ = some (.int .i64 (t.groups : Nat)) := (HPB5.out.keep hx).cell 1
                have hw2 : IntKind.i64.wrap (2 * (t.groups : Int)) = (q.length : Int) := by rw [show 2 * (t.groups : Int) = (q.length : Int) by have := HCP.out.1; omega]; exact wrap_id (by omega) (by have := HCP.out.1; have := HOK.out.r.few; omega)
                clear hx hB hbq hlq
                go_wp2
                go_ret
                exact ⟨by simp, Ext.trans HX5.out HX7.out⟩
end Go.Proofs.YtmfdnjddggaeaaaDoor
