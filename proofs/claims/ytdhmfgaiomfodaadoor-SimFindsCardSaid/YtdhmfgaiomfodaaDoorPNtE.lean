/- Put together: Sm27. -/
import Derived.Test.YtdhmfgaiomfodaaDoorPNsG
import Derived.Test.YtdhmfgaiomfodaaDoorPNsH
namespace Go.Proofs.YtdhmfgaiomfodaaDoor
open Go Go.RowKit
attribute [local irreducible] wd

set_option maxRecDepth 20000 in
theorem nfRightNil (w : World) : Calls Tryd.prog 16 #[.agg #[.slice none 0 0, .int .i64 0]] w fun e w' => e = .returned (.bool false) ∧ Ext w w' := by
  have HX := Lib.hid (Ext.new1 w (.cells #[.slice none 0 0, .int .i64 0] 32))
  go_enter Tryd.func16, Tryd.ntmps16
  go_wp2
  go_ret
  exact ⟨rfl, HX.out⟩
set_option maxRecDepth 20000 in
theorem smNewNil (E : Nat → Addr) (w : World) (hE : Env E w) : Calls Tryd.prog 31 #[.agg #[.slice none 0 0, .int .i64 0], .int .i64 0] w fun e w' => e = .returned (.tuple #[.pointer none, errV E 4]) ∧ Ext w w' := by
  have hx0 := Ext.new1 w (.cells #[.slice none 0 0, .int .i64 0] 32)
  have HX := Lib.hid hx0
  have HE := Lib.hid (hE.keep hx0)
  clear hE hx0
  go_enter Tryd.func31, Tryd.ntmps31
  go_upto_region 2 with (go_at_call 16; refine (nfRightNil _).mono ?_; rintro e w1 ⟨rfl, hx1⟩)
  have y4 := (HE.out.keep hx1).e.cell (i := 4) (by decide) rfl
  unfold errV at y4
  go_quiet (fail)
  go_wp2
  go_ret2
  exact ⟨rfl, Ext.trans HX.out (Ext.trans hx1 (Ext.drawn _ _))⟩
set_option maxRecDepth 20000 in
theorem smFindNil (E : Nat → Addr) (l : List UInt8) (w : World) (hE : Env E w) : Calls Tryd.prog 25 #[.agg #[.slice none 0 0, .int .i64 0], .string ⟨l.toArray⟩] w fun e w' => e = .returned (.tuple #[.agg #[.int .i64 0, .slice none 0 0], .int .i64 0, .bool false]) ∧ Ext w w' := by
  have hx0 := Ext.new1 w (.cells #[.slice none 0 0, .int .i64 0] 32)
  have hx1 := Ext.trans hx0 (Ext.new1 _ (.cells #[.int .i64 0, .slice none 0 0] 54))
  have HX := Lib.hid hx1
  have HE := Lib.hid (hE.keep hx1)
  have HB := Lib.hid (Blk.newA (w := w.alloc (.cells #[.slice none 0 0, .int .i64 0] 32)) (g := w.heap.size + 1) (by simp) 54 [.int .i64 0, .slice none 0 0])
  clear hE hx0 hx1
  go_enter Tryd.func25, Tryd.ntmps25
  go_upto_region 1 with fail
  have HG := Lib.hid (show w.heap.size ≤ w.heap.size + 1 from Nat.le_succ _)
  have c0 : ((w.alloc (.cells #[.slice none 0 0, .int .i64 0] 32)).alloc (.cells #[.int .i64 0, .slice none 0 0] 54)).cell? ⟨w.heap.size, 0, none⟩ = some (.slice none 0 0) := ((Blk.newL w 32 [.slice none 0 0, .int .i64 0]).keep (Ext.new1 _ _)).cell 0
  have c1 : ((w.alloc (.cells #[.slice none 0 0, .int .i64 0] 32)).alloc (.cells #[.int .i64 0, .slice none 0 0] 54)).cell? ⟨w.heap.size, 1, none⟩ = some (.int .i64 0) := ((Blk.newL w 32 [.slice none 0 0, .int .i64 0]).keep (Ext.new1 _ _)).cell 1
  generalize (w.alloc (.cells #[.slice none 0 0, .int .i64 0] 32)).alloc (.cells #[.int .i64 0, .slice none 0 0] 54) = wa at *
  go_wp2_with (first
    | (refine store_hit rfl (.tmp 4) (.tmp 19) rfl (g := w.heap.size + 1) (old := [.int .i64 0, .slice none 0 0]) [.int .i64 0, .slice none 0 0] rfl rfl (HB.out.keep hx1) rfl rfl rfl ?_)
    | (go_at_call 31; refine (smNewNil E wa HE.out).mono ?_; rintro e w1 ⟨rfl, hx1⟩; unfold errV))
  refine bodyPost_ret (results_hit3 rfl rfl (Blk.row (HB.out.keep hx1) _) rfl rfl rfl) rfl ⟨rfl, ?_⟩
  exact (Ext.trans HX.out hx1).row _ _ (Nat.le_succ _)

theorem hit_take {c : List Ins} {k : List Int} {base : Int} {bg : Nat → Bool} {l : List UInt8} {i : Nat} (h : i ≤ l.length) : hitAt c k base bg (l.take i) (l.take i).length = hitAt c k base bg l i := by
  rw [List.length_take, Nat.min_eq_left h]
  unfold hitAt
  rw [List.take_take, Nat.min_self]
theorem firstR_none {c : List Ins} {G : Nat} {base : Int} {bg : Nat → Bool} {l : List UInt8} {w w' : World} {e : Ending} (h : FirstR c G base bg l w e w') (hn : hitAt c (noneK G) base bg l l.length = none) : e = .returned (.tuple #[.int .i64 0, .slice none 0 0, .bool false]) ∧ Ext w w' := by
  unfold FirstR at h
  rw [hn] at h
  exact h
theorem firstR_some {c : List Ins} {G : Nat} {base : Int} {bg : Nat → Bool} {l : List UInt8} {w w' : World} {e : Ending} (h : FirstR c G base bg l w e w') {f : Int} {q : List Int} (hn : hitAt c (noneK G) base bg l l.length = some (f, q)) :
    Ext w w' ∧ ∃ A cc, e = .returned (.tuple #[.int .i64 f, .slice A q.length cc, .bool true]) ∧ Rd w' 1 A q.length (intsV q) := by
  unfold FirstR at h
  rw [hn] at h
  obtain ⟨A, cc, h1, h2, h3⟩ := h
  exact ⟨h3, A, cc, h1, h2⟩
def BlT (n lo : Nat) (v : Value) (w : World) : Prop := ∃ gs, v = .slice (some ⟨gs, 0, none⟩) n n ∧ Blk w gs 4 (List.replicate n (.bool true)) ∧ lo ≤ gs
def TupF (f : Int) (q : List Int) (v : Value) (w : World) : Prop := ∃ A cc, v = .tuple #[.int .i64 f, .slice A q.length cc, .bool true] ∧ Rd w 1 A q.length (intsV q)
def SlF (q : List Int) (v : Value) (w : World) : Prop := ∃ A cc, v = .slice A q.length cc ∧ Rd w 1 A q.length (intsV q)
theorem blk_bools {w : World} {g n : Nat} (h : Blk w g 4 (List.replicate n (.bool true))) : Rd w 1 (some ⟨g, 0, none⟩) n (List.replicate n (.bool true)) := by
  have hr := h.rd (n := n) (size := 1) 0 (by simp)
  simpa using hr

set_option maxHeartbeats 8000000 in
set_option maxRecDepth 20000 in
theorem lawFinds (E : Nat → Addr) (t : T) (l : List UInt8) (S : Nat → Prop) (v : List Value) (w : World) (h : NodeV S w t v) (hE : Env E w) :
    Calls Tryd.prog 5 #[.agg v.toArray, .string ⟨l.toArray⟩] w fun e w' => e = .returned (.bool true) ∧ Ext w w' := by
  obtain ⟨k, m, z, s, A, n, c, rfl⟩ := nodeV_form h
  have hx0 := Lib.hid (Ext.new1 w (.cells (nodeC k m z s A n c).toArray 27))
  have HV := Lib.hid (h.keep hx0.out)
  have HB := Lib.hid (NodeB.new w k m z s A n c)
  have HE := Lib.hid (hE.keep hx0.out)
  clear h hE
  unfold nodeC at hx0 HV HE ⊢
  cases hg : t.great
  rotate_left
  · have HG := Lib.hid hg
    clear hg
    go_enter Tryd.func5, Tryd.ntmps5
    go_wp2_with (first
      | (have := hx1; go_at_call 11; refine (lawGreat t S _ (nodeC k m z s A n c) (HV.out.keep hx1)).mono ?_; rintro e w2 ⟨rfl, hx2⟩; rw [HG.out]; obtain ⟨x0, x1, x2, x3, x4, x5, x6, x7⟩ := (HB.out.keep (Ext.trans hx1 hx2)).cells)
      | (go_at_call 24; refine (alive26 E _ HE.out).mono ?_; rintro e w1 ⟨rfl, hx1⟩; obtain ⟨q0, q1, q2, q3, q4, q5, q6, q7⟩ := (HB.out.keep hx1).cells))
    go_ret
    exact ⟨rfl, Ext.trans hx0.out (Ext.trans hx1 hx2)⟩
  have HS := Lib.hid (great_size hg)
  have HG := Lib.hid hg
  clear hg
  by_cases hl : (30 : Int) < (l.length : Int)
  · go_enter Tryd.func5, Tryd.ntmps5
    go_wp2_with (first
      | (have := hx1; go_at_call 11; refine (lawGreat t S _ (nodeC k m z s A n c) (HV.out.keep hx1)).mono ?_; rintro e w2 ⟨rfl, hx2⟩; rw [HG.out]; obtain ⟨x0, x1, x2, x3, x4, x5, x6, x7⟩ := (HB.out.keep (Ext.trans hx1 hx2)).cells)
      | (go_at_call 24; refine (alive26 E _ HE.out).mono ?_; rintro e w1 ⟨rfl, hx1⟩; obtain ⟨q0, q1, q2, q3, q4, q5, q6, q7⟩ := (HB.out.keep hx1).cells))
    go_ret
    exact ⟨rfl, Ext.trans hx0.out (Ext.trans hx1 hx2)⟩
  have HL := Lib.hid (show l.length ≤ 30 by omega)
  cases hc : compB t
  · have HC := Lib.hid hc
    clear hc
    go_enter Tryd.func5, Tryd.ntmps5
    go_wp2_with (first
      | (have := hx5; refine store_hit rfl (.tmp 7) (.tmp 38) rfl (g := w5.heap.size) (old := [.int .i64 0, .slice none 0 0]) [.int .i64 0, .slice none 0 0] rfl rfl (Blk.newL w5 54 [.int .i64 0, .slice none 0 0]) rfl rfl rfl ?_)
      | (go_at_call 25; refine (smFindNil E l wp HEP.out).mono ?_; rintro e w5 ⟨rfl, hx5⟩)
      | (have := hx3; refine store_pg rfl (.tmp 5) (.tmp 30) rfl (g := w3.heap.size) (old := [.slice none 0 0, .int .i64 0]) [.slice none 0 0, .int .i64 0] rfl rfl (Blk.newL w3 32 [.slice none 0 0, .int .i64 0]) rfl rfl rfl ?_; unfold errV; have hxp : Ext w3 ((w3.alloc (.cells #[.slice none 0 0, .int .i64 0] 32)).setRow w3.heap.size #[.slice none 0 0, .int .i64 0]) := (Ext.new1 _ _).rowX _ _ (Nat.le_refl _); have hxq := Ext.trans hx1 (Ext.trans hx2 (Ext.trans hx3 hxp)); have HEP := Lib.hid (HE.out.keep hxq); have HXQ := Lib.hid hxq; have p0 : ((w3.alloc (.cells #[.slice none 0 0, .int .i64 0] 32)).setRow w3.heap.size #[.slice none 0 0, .int .i64 0]).cell? ⟨w3.heap.size, 0, none⟩ = some (.slice none 0 0) := (Blk.row (Blk.newL w3 32 [.slice none 0 0, .int .i64 0]) _).cell 0; have p1 : ((w3.alloc (.cells #[.slice none 0 0, .int .i64 0] 32)).setRow w3.heap.size #[.slice none 0 0, .int .i64 0]).cell? ⟨w3.heap.size, 1, none⟩ = some (.int .i64 0) := (Blk.row (Blk.newL w3 32 [.slice none 0 0, .int .i64 0]) _).cell 1; clear hxp hxq; generalize (w3.alloc (.cells #[.slice none 0 0, .int .i64 0] 32)).setRow w3.heap.size #[.slice none 0 0, .int .i64 0] = wp at *)
      | (have := hx2; go_at_call 12; refine (nfCompileAny E t (by have := HS.out; omega) S _ (nodeC k m z s A n c) (HV.out.keep (Ext.trans hx1 hx2)) (HE.out.keep (Ext.trans hx1 hx2))).mono ?_; intro e w3 hres; obtain ⟨hx3, K, rfl, -⟩ := compR_neg hres HC.out)
      | (have := hx1; go_at_call 11; refine (lawGreat t S _ (nodeC k m z s A n c) (HV.out.keep hx1)).mono ?_; rintro e w2 ⟨rfl, hx2⟩; rw [HG.out]; obtain ⟨x0, x1, x2, x3, x4, x5, x6, x7⟩ := (HB.out.keep (Ext.trans hx1 hx2)).cells)
      | (go_at_call 24; refine (alive26 E _ HE.out).mono ?_; rintro e w1 ⟨rfl, hx1⟩; obtain ⟨q0, q1, q2, q3, q4, q5, q6, q7⟩ := (HB.out.keep hx1).cells))
    go_ret
    exact ⟨rfl, Ext.trans hx0.out (Ext.trans HXQ.out (Ext.trans hx5 ((Ext.new1 _ _).rowX _ _ (Nat.le_refl _))))⟩
  have HC := Lib.hid hc
  clear hc
  go_enter Tryd.func5, Tryd.ntmps5
  go_upto_region 9 with (first
    | (have := hx3; refine store_pg rfl (.tmp 5) (.tmp 30) rfl (g := w3.heap.size) (old := [.slice none 0 0, .int .i64 0]) [.slice AP (progT t).length cP, .int .i64 (t.groups : Nat)] rfl rfl (Blk.newL w3 32 [.slice none 0 0, .int .i64 0]) rfl rfl rfl ?_)
    | (have := hx2; go_at_call 12; refine (nfCompileAny E t (by have := HS.out; omega) S _ (nodeC k m z s A n c) (HV.out.keep (Ext.trans hx1 hx2)) (HE.out.keep (Ext.trans hx1 hx2))).mono ?_; intro e w3 hres; obtain ⟨hx3, AP, cP, rfl, hrd, hok⟩ := compR_pos hres HC.out)
    | (have := hx1; go_at_call 11; refine (lawGreat t S _ (nodeC k m z s A n c) (HV.out.keep hx1)).mono ?_; rintro e w2 ⟨rfl, hx2⟩; rw [HG.out]; obtain ⟨x0, x1, x2, x3, x4, x5, x6, x7⟩ := (HB.out.keep (Ext.trans hx1 hx2)).cells)
    | (go_at_call 24; refine (alive26 E _ HE.out).mono ?_; rintro e w1 ⟨rfl, hx1⟩; obtain ⟨q0, q1, q2, q3, q4, q5, q6, q7⟩ := (HB.out.keep hx1).cells))
  have hxp : Ext w3 ((w3.alloc (.cells #[.slice none 0 0, .int .i64 0] 32)).setRow w3.heap.size #[.slice AP (progT t).length cP, .int .i64 (t.groups : Nat)]) := (Ext.new1 _ _).rowX _ _ (Nat.le_refl _)
  have hx123 := Ext.trans hx1 (Ext.trans hx2 (Ext.trans hx3 hxp))
  have HXP := Lib.hid (Ext.trans hx0.out hx123)
  have HPB := Lib.hid (show Blk ((w3.alloc (.cells #[.slice none 0 0, .int .i64 0] 32)).setRow w3.heap.size #[.slice AP (progT t).length cP, .int .i64 (t.groups : Nat)]) w3.heap.size 32 [.slice AP (progT t).length cP, .int .i64 (t.groups : Nat)] from Blk.row (Blk.newL w3 32 [.slice none 0 0, .int .i64 0]) _)
  have HRD := Lib.hid (hrd.keep hxp)
  have HOK := Lib.hid hok
  have HVP := Lib.hid (HV.out.keep hx123)
  have HBP := Lib.hid (HB.out.keep hx123)
  have HEP := Lib.hid (HE.out.keep hx123)
  clear hxp hx1 hx2 hx3 hx123 hrd hok hres this q0 q1 q2 q3 q4 q5 q6 q7 x0 x1 x2 x3 x4 x5 x6 x7 HV HB HE hx0 hl
  generalize (w3.alloc (.cells #[.slice none 0 0, .int .i64 0] 32)).setRow w3.heap.size #[.slice AP (progT t).length cP, .int .i64 (t.groups : Nat)] = wp at *
  generalize w3.heap.size = gp at *
  generalize w.heap.size = gn at *
  have HLS0 := Lib.hid (show l.length ≤ 1000 by have := HL.out; omega)
  have HML := Lib.hid (show (progT t).length ≤ 400 from HOK.out.r.most)
  have p0 : wp.cell? ⟨gp, 0, none⟩ = some (.slice AP (progT t).length cP) := HPB.out.cell 0
  have p1 : wp.cell? ⟨gp, 1, none⟩ = some (.int .i64 (t.groups : Nat)) := HPB.out.cell 1

  cases hf : findP (progT t) (noneK t.groups) l with
  | none =>
    have HF := Lib.hid (find_none hf)
    have HF0 := Lib.hid hf
    clear hf
    go_upto_region 11 with (first
      | (have := hx5; refine store_hit rfl (.tmp 11) (.tmp 50) rfl (g := w5.heap.size) (old := [.int .i64 0, .slice none 0 0]) [.int .i64 0, .slice none 0 0] rfl rfl (Blk.newL w5 54 [.int .i64 0, .slice none 0 0]) rfl rfl rfl ?_)
      | (go_at_call 25; refine (smFind (progT t) t.groups HOK.out AP cP l HLS0.out w4 (HRD.out.keep hx4)).mono ?_; intro e w5 hans; unfold FindR at hans; rw [HF0.out] at hans; obtain ⟨rfl, hx5⟩ := hans)
      | (go_at_call 19; refine (law25Of (progT t) AP cP _ rfl (by have := HML.out; omega) wp HRD.out).mono ?_; rintro e w4 ⟨BD, cD, rfl, hrdD, hx4⟩; have k0 : w4.cell? ⟨gp, 0, none⟩ = some (.slice AP (progT t).length cP) := (HPB.out.keep hx4).cell 0; have k1 : w4.cell? ⟨gp, 1, none⟩ = some (.int .i64 (t.groups : Nat)) := (HPB.out.keep hx4).cell 1))
    have hxh : Ext w5 ((w5.alloc (.cells #[.int .i64 0, .slice none 0 0] 54)).setRow w5.heap.size #[.int .i64 0, .slice none 0 0]) := (Ext.new1 _ _).rowX _ _ (Nat.le_refl _)
    have hx45 := Ext.trans hx4 (Ext.trans hx5 hxh)
    have HB6 := Lib.hid (show Blk ((w5.alloc (.cells #[.int .i64 0, .slice none 0 0] 54)).setRow w5.heap.size #[.int .i64 0, .slice none 0 0]) w5.heap.size 54 [.int .i64 0, .slice none 0 0] from Blk.row (Blk.newL w5 54 [.int .i64 0, .slice none 0 0]) _)
    have HX6 := Lib.hid (Ext.trans HXP.out hx45)
    have HPB6 := Lib.hid (HPB.out.keep hx45)
    have HD6 := Lib.hid (hrdD.keep (Ext.trans hx5 hxh))
    clear hxh hx4 hx5 hx45 hrdD k0 k1 p0 p1
    generalize (w5.alloc (.cells #[.int .i64 0, .slice none 0 0] 54)).setRow w5.heap.size #[.int .i64 0, .slice none 0 0] = w6 at *
    generalize w5.heap.size = gh at *
    have hdl : decide ((30 : Int) < (l.length : Int)) = false := decide_eq_false (by have := HL.out; omega)
    go_wp2
    simp only [hdl]
    clear hdl
    go_loopg [14] (l.length + 1) (fun g iv wr => ∃ ii : Nat, ii ≤ l.length + 1 ∧ g = l.length + 1 - ii ∧ iv = .int .i64 (ii : Nat) ∧ Ext w6 wr)
    case atStart => exact ⟨0, by omega, rfl, rfl, Ext.refl _⟩
    case round =>
        obtain ⟨ii, hii, rfl, rfl, hx⟩ := hrel
        by_cases hle : ii ≤ l.length
        · have HIN := Lib.hid hle
          have HHN := Lib.hid (show hitAt (progT t) (noneK t.groups) 0 allB (l.take ii) (l.take ii).length = none by rw [hit_take hle]; exact HF.out ii hle)
          clear hle hii
          have HIL := Lib.hid (show (ii : Int) ≤ (l.length : Int) from by have := HIN.out; omega)
          obtain ⟨i1, hi1⟩ : ∃ i1, ii + 1 = i1 := ⟨_, rfl⟩
          have HI1 := Lib.hid hi1
          have HWI := Lib.hid (show IntKind.i64.wrap ((ii : Int) + 1) = (i1 : Int) from by rw [wrap_id (by omega) (by have := HL.out; have := HIN.out; omega)]; omega)
          have HLT := Lib.hid (show (l.take ii).length ≤ 1000 by rw [List.length_take]; have := HLS0.out; omega)
          have HBG := Lib.hid (show ∀ j, j ≤ (l.take ii).length → (List.replicate i1 (Value.bool true))[j]? = some (.bool (allB j)) from fun j hj => by rw [List.length_take] at hj; rw [List.getElem?_replicate, if_pos (by omega)]; rfl)
          have HPB5 := Lib.hid (HPB6.out.keep hx)
          have HD5 := Lib.hid (HD6.out.keep hx)
          have HXW := Lib.hid hx
          have hle' : (ii : Int) ≤ (l.length : Int) := HIL.out
          clear hx hi1
          go_upto_region 14 with fail
          refine wp_region_dag (E := Ext) (w0 := wr) (Φ := fun i v w => match i with | 0 => (v = .slice BD (progT t).length cD) | 1 => (v = .pointer (some ⟨gp, 1, none⟩)) | 2 => (v = .int .i64 (t.groups : Nat)) | 3 => (v = .string ⟨l.toArray⟩) | 4 => (v = .int .i64 (ii : Nat)) | 5 => (v = .string ⟨(l.take ii).toArray⟩) | 6 => (v = .int .i64 (ii : Nat)) | 7 => (v = .int .i64 (i1 : Nat)) | 8 => (BlT i1 wr.heap.size v w) | 9 => (v = .tuple #[.int .i64 0, .slice none 0 0, .bool false]) | 10 => (v = .tuple #[.int .i64 0, .slice none 0 0, .bool false]) | 11 => (v = .int .i64 0) | 12 => (v = .slice none 0 0) | 13 => (v = .bool false) | 14 => (v = .int .i64 0) | 15 => (v = .slice none 0 0) | 16 => (v = .bool false) | _ => True) (show Tryd.prog.follows .mixedOrders = true from Checked.mixed Tryd.checked) 104 rfl (by decide +kernel) ?_ ((Below.refl _ _).drew) ?_ ⟨?_, ?_, ?_, ?_, ?_, ?_, ?_, ?_, ?_, ?_, ?_, ?_, ?_, ?_, ?_, ?_, ?_, trivial⟩ ?_
          · intro i v w w' h hE
            match i, h with
            | 0, h => exact h
            | 1, h => exact h
            | 2, h => exact h
            | 3, h => exact h
            | 4, h => exact h
            | 5, h => exact h
            | 6, h => exact h
            | 7, h => exact h
            | 8, h => exact (by obtain ⟨gs, g1, g2, g3⟩ := h; exact ⟨gs, g1, g2.keep hE, g3⟩)
            | 9, h => exact h
            | 10, h => exact h
            | 11, h => exact h
            | 12, h => exact h
            | 13, h => exact h
            | 14, h => exact h
            | 15, h => exact h
            | 16, h => exact h
            | _ + 17, _ => trivial
          · exact fun w w' h h' => h.trans h'
          ·
            intro ac wx hE hsz hdf h
            have e10 : ac.tmps[10]? = some (.slice BD (progT t).length cD) := by obtain ⟨v, h1, h2⟩ := h 10 (by decide +kernel); exact h1.trans h2.symm
            clear h hsz hdf
            go_wp2
            exact ⟨_, rfl, rfl, Ext.refl _⟩
          ·
            intro ac wx hE hsz hdf h
            have e5 : ac.tmps[5]? = some (.pointer (some ⟨gp, 0, none⟩)) := by obtain ⟨v, h1, h2⟩ := h 5 (by decide +kernel); exact h1.trans h2.symm
            clear h hsz hdf
            go_wp2
            exact ⟨_, rfl, rfl, Ext.refl _⟩
          ·
            intro ac wx hE hsz hdf h
            have e61 : ac.tmps[61]? = some (.pointer (some ⟨gp, 1, none⟩)) := by obtain ⟨v, h1, h2⟩ := h 61 (by decide +kernel); rw [h1]; exact congrArg some h2
            clear h hsz hdf
            have hb := HPB5.out.keep hE; have k1 : wx.cell? ⟨gp, 1, none⟩ = some (.int .i64 (t.groups : Nat)) := hb.cell 1
            go_wp2
            exact ⟨_, rfl, rfl, Ext.refl _⟩
          ·
            intro ac wx hE hsz hdf h
            have e1 : ac.tmps[1]? = some (.string ⟨l.toArray⟩) := by obtain ⟨v, h1, h2⟩ := h 1 (by decide +kernel); exact h1.trans h2.symm
            clear h hsz hdf
            go_wp2
            exact ⟨_, rfl, rfl, Ext.refl _⟩
          ·
            intro ac wx hE hsz hdf h
            have e14 : ac.tmps[14]? = some (.int .i64 (ii : Nat)) := by obtain ⟨v, h1, h2⟩ := h 14 (by decide +kernel); exact h1.trans h2.symm
            clear h hsz hdf
            go_wp2
            exact ⟨_, rfl, rfl, Ext.refl _⟩
          ·
            intro ac wx hE hsz hdf h
            have e63 : ac.tmps[63]? = some (.string ⟨l.toArray⟩) := by obtain ⟨v, h1, h2⟩ := h 63 (by decide +kernel); rw [h1]; exact congrArg some h2
            have e64 : ac.tmps[64]? = some (.int .i64 (ii : Nat)) := by obtain ⟨v, h1, h2⟩ := h 64 (by decide +kernel); rw [h1]; exact congrArg some h2
            clear h hsz hdf
            have hil := HIL.out
            go_wp2
            exact ⟨_, rfl, rfl, Ext.refl _⟩
          ·
            intro ac wx hE hsz hdf h
            have e14 : ac.tmps[14]? = some (.int .i64 (ii : Nat)) := by obtain ⟨v, h1, h2⟩ := h 14 (by decide +kernel); exact h1.trans h2.symm
            clear h hsz hdf
            go_wp2
            exact ⟨_, rfl, rfl, Ext.refl _⟩
          ·
            intro ac wx hE hsz hdf h
            have e66 : ac.tmps[66]? = some (.int .i64 (ii : Nat)) := by obtain ⟨v, h1, h2⟩ := h 66 (by decide +kernel); rw [h1]; exact congrArg some h2
            clear h hsz hdf
            have hwi := HWI.out
            go_wp2
            exact ⟨_, rfl, rfl, Ext.refl _⟩
          ·
            intro ac wx hE hsz hdf h
            have e67 : ac.tmps[67]? = some (.int .i64 (i1 : Nat)) := by obtain ⟨v, h1, h2⟩ := h 67 (by decide +kernel); rw [h1]; exact congrArg some h2
            clear h hsz hdf
            have hsz8 := hE.size
            go_wp2_with ((go_at_call 27; refine (refAll i1 (by have := HI1.out; have := HIN.out; have := HL.out; omega) wx).mono ?_; rintro e w9 ⟨rfl, hb9, hx9⟩))
            exact ⟨_, rfl, ⟨_, rfl, hb9, hE.size⟩, hx9⟩
          ·
            intro ac wx hE hsz hdf h
            have e60 : ac.tmps[60]? = some (.slice BD (progT t).length cD) := by obtain ⟨v, h1, h2⟩ := h 60 (by decide +kernel); rw [h1]; exact congrArg some h2
            have e62 : ac.tmps[62]? = some (.int .i64 (t.groups : Nat)) := by obtain ⟨v, h1, h2⟩ := h 62 (by decide +kernel); rw [h1]; exact congrArg some h2
            have e65 : ac.tmps[65]? = some (.string ⟨(l.take ii).toArray⟩) := by obtain ⟨v, h1, h2⟩ := h 65 (by decide +kernel); rw [h1]; exact congrArg some h2
            obtain ⟨v68, e68, s68⟩ : ∃ v, ac.tmps[68]? = some v ∧ (BlT i1 wr.heap.size v wx) := h 68 (by decide +kernel)
            clear h hsz hdf
            obtain ⟨gs, rfl, hs1, hs2⟩ := s68
            go_wp2_with ((go_at_call 26; refine (refFirst (progT t) t.groups HOK.out.r (l.take ii) HLT.out 0 ⟨by omega, by omega⟩ allB (List.replicate i1 (.bool true)) HBG.out BD (some ⟨gs, 0, none⟩) cD i1 i1 _ rfl wx (HD5.out.keep hE) (blk_bools hs1)).mono ?_; intro e w9 hres; obtain ⟨rfl, hx9⟩ := firstR_none hres HHN.out))
            exact ⟨_, rfl, rfl, hx9⟩
          ·
            intro ac wx hE hsz hdf h
            have e69 : ac.tmps[69]? = some (.tuple #[.int .i64 0, .slice none 0 0, .bool false]) := by obtain ⟨v, h1, h2⟩ := h 69 (by decide +kernel); rw [h1]; exact congrArg some h2
            clear h hsz hdf
            go_wp2
            exact ⟨_, rfl, rfl, Ext.refl _⟩
          ·
            intro ac wx hE hsz hdf h
            have e59 : ac.tmps[59]? = some (.tuple #[.int .i64 0, .slice none 0 0, .bool false]) := by obtain ⟨v, h1, h2⟩ := h 59 (by decide +kernel); rw [h1]; exact congrArg some h2
            clear h hsz hdf
            go_wp2
            exact ⟨_, rfl, rfl, Ext.refl _⟩
          ·
            intro ac wx hE hsz hdf h
            have e59 : ac.tmps[59]? = some (.tuple #[.int .i64 0, .slice none 0 0, .bool false]) := by obtain ⟨v, h1, h2⟩ := h 59 (by decide +kernel); rw [h1]; exact congrArg some h2
            clear h hsz hdf
            go_wp2
            exact ⟨_, rfl, rfl, Ext.refl _⟩
          ·
            intro ac wx hE hsz hdf h
            have e59 : ac.tmps[59]? = some (.tuple #[.int .i64 0, .slice none 0 0, .bool false]) := by obtain ⟨v, h1, h2⟩ := h 59 (by decide +kernel); rw [h1]; exact congrArg some h2
            clear h hsz hdf
            go_wp2
            exact ⟨_, rfl, rfl, Ext.refl _⟩
          ·
            intro ac wx hE hsz hdf h
            have e70 : ac.tmps[70]? = some (.int .i64 0) := by obtain ⟨v, h1, h2⟩ := h 70 (by decide +kernel); rw [h1]; exact congrArg some h2
            clear h hsz hdf
            go_wp2
            exact ⟨_, rfl, rfl, Ext.refl _⟩
          ·
            intro ac wx hE hsz hdf h
            have e71 : ac.tmps[71]? = some (.slice none 0 0) := by obtain ⟨v, h1, h2⟩ := h 71 (by decide +kernel); rw [h1]; exact congrArg some h2
            clear h hsz hdf
            go_wp2
            exact ⟨_, rfl, rfl, Ext.refl _⟩
          ·
            intro ac wx hE hsz hdf h
            have e72 : ac.tmps[72]? = some (.bool false) := by obtain ⟨v, h1, h2⟩ := h 72 (by decide +kernel); rw [h1]; exact congrArg some h2
            clear h hsz hdf
            go_wp2
            exact ⟨_, rfl, rfl, Ext.refl _⟩
          · intro ac w9 hE hsz hdf h hrest
            obtain ⟨v0, s0, g0⟩ := h 0 _ rfl
            have e0 := g0 60 rfl
            obtain rfl : v0 = .slice BD (progT t).length cD := s0
            obtain ⟨v1, s1, g1⟩ := h 1 _ rfl
            have e1 := g1 61 rfl
            obtain rfl : v1 = .pointer (some ⟨gp, 1, none⟩) := s1
            obtain ⟨v2, s2, g2⟩ := h 2 _ rfl
            have e2 := g2 62 rfl
            obtain rfl : v2 = .int .i64 (t.groups : Nat) := s2
            obtain ⟨v3, s3, g3⟩ := h 3 _ rfl
            have e3 := g3 63 rfl
            obtain rfl : v3 = .string ⟨l.toArray⟩ := s3
            obtain ⟨v4, s4, g4⟩ := h 4 _ rfl
            have e4 := g4 64 rfl
            obtain rfl : v4 = .int .i64 (ii : Nat) := s4
            obtain ⟨v5, s5, g5⟩ := h 5 _ rfl
            have e5 := g5 65 rfl
            obtain rfl : v5 = .string ⟨(l.take ii).toArray⟩ := s5
            obtain ⟨v6, s6, g6⟩ := h 6 _ rfl
            have e6 := g6 66 rfl
            obtain rfl : v6 = .int .i64 (ii : Nat) := s6
            obtain ⟨v7, s7, g7⟩ := h 7 _ rfl
            have e7 := g7 67 rfl
            obtain rfl : v7 = .int .i64 (i1 : Nat) := s7
            obtain ⟨v8, s8, g8⟩ := h 8 _ rfl
            have e8 := g8 68 rfl
            replace s8 : BlT i1 wr.heap.size v8 w9 := s8
            obtain ⟨v9, s9, g9⟩ := h 9 _ rfl
            have e9 := g9 69 rfl
            obtain rfl : v9 = .tuple #[.int .i64 0, .slice none 0 0, .bool false] := s9
            obtain ⟨v10, s10, g10⟩ := h 10 _ rfl
            have e10 := g10 59 rfl
            obtain rfl : v10 = .tuple #[.int .i64 0, .slice none 0 0, .bool false] := s10
            obtain ⟨v11, s11, g11⟩ := h 11 _ rfl
            have e11 := g11 70 rfl
            obtain rfl : v11 = .int .i64 0 := s11
            obtain ⟨v12, s12, g12⟩ := h 12 _ rfl
            have e12 := g12 71 rfl
            obtain rfl : v12 = .slice none 0 0 := s12
            obtain ⟨v13, s13, g13⟩ := h 13 _ rfl
            have e13 := g13 72 rfl
            obtain rfl : v13 = .bool false := s13
            obtain ⟨v14, s14, g14⟩ := h 14 _ rfl
            have e14 := g14 15 rfl
            obtain rfl : v14 = .int .i64 0 := s14
            obtain ⟨v15, s15, g15⟩ := h 15 _ rfl
            have e15 := g15 16 rfl
            obtain rfl : v15 = .slice none 0 0 := s15
            obtain ⟨v16, s16, g16⟩ := h 16 _ rfl
            have e16 := g16 17 rfl
            obtain rfl : v16 = .bool false := s16
            have ha := act_of [(60, .slice BD (progT t).length cD), (61, .pointer (some ⟨gp, 1, none⟩)), (62, .int .i64 (t.groups : Nat)), (63, .string ⟨l.toArray⟩), (64, .int .i64 (ii : Nat)), (65, .string ⟨(l.take ii).toArray⟩), (66, .int .i64 (ii : Nat)), (67, .int .i64 (i1 : Nat)), (68, v8), (69, .tuple #[.int .i64 0, .slice none 0 0, .bool false]), (59, .tuple #[.int .i64 0, .slice none 0 0, .bool false]), (70, .int .i64 0), (71, .slice none 0 0), (72, .bool false), (15, .int .i64 0), (16, .slice none 0 0), (17, .bool false)] rfl hsz hdf (by intro p hp; simp only [List.mem_cons, List.not_mem_nil, or_false] at hp; rcases hp with rfl | rfl | rfl | rfl | rfl | rfl | rfl | rfl | rfl | rfl | rfl | rfl | rfl | rfl | rfl | rfl | rfl <;> first | exact e0 | exact e1 | exact e2 | exact e3 | exact e4 | exact e5 | exact e6 | exact e7 | exact e8 | exact e9 | exact e10 | exact e11 | exact e12 | exact e13 | exact e14 | exact e15 | exact e16) hrest
            clear h hrest hsz hdf e0 e1 e2 e3 e4 e5 e6 e7 e8 e9 e10 e11 e12 e13 e14 e15 e16 g0 g1 g2 g3 g4 g5 g6 g7 g8 g9 g10 g11 g12 g13 g14 g15 g16
            subst ha
            simp only [List.foldl_cons, List.foldl_nil, Act.put, List.setIfInBounds_toArray, List.set_cons_succ, List.set_cons_zero]
            have HX9 := Lib.hid (Ext.trans HXW.out hE)
            have hwi := HWI.out
            clear hE s8
            go_wp2
            go_roundg (l.length + 1 - i1)
            case measure => have := HI1.out; have := HIN.out; omega
            case rel => exact ⟨i1, by have := HI1.out; have := HIN.out; omega, rfl, by go_num, HX9.out⟩
        · have hle' : ¬ (ii : Int) ≤ (l.length : Int) := by omega
          have hB := HB6.out.keep hx
          have h1 : wr.cell? ⟨gh, 1, none⟩ = some (.slice none 0 0) := hB.cell 1
          have HX7 := Lib.hid (Ext.trans HX6.out hx)
          clear hx hB hle hii
          go_wp2
          go_ret
          exact ⟨rfl, HX7.out⟩
  | some x =>
    obtain ⟨j0, f0, q0⟩ := x
    obtain ⟨hj0, hhit, hno⟩ := find_some hf
    have HF := Lib.hid hno
    have HF0 := Lib.hid hf
    have HHIT := Lib.hid hhit
    have HJ0 := Lib.hid hj0
    have HQL := Lib.hid (show q0.length ≤ 18 from by have h9 := (hit_caps HOK.out.r.closed HOK.out.r.pos hj0 hhit).1; have := HOK.out.r.few; unfold noneK at h9; rw [List.length_replicate] at h9; omega)
    clear hf hj0 hhit hno
    go_upto_region 11 with (first
      | (have := hx5; refine store_hit rfl (.tmp 11) (.tmp 50) rfl (g := w5.heap.size) (old := [.int .i64 0, .slice none 0 0]) [.int .i64 f0, .slice AH q0.length cH] rfl rfl (Blk.newL w5 54 [.int .i64 0, .slice none 0 0]) rfl rfl rfl ?_)
      | (go_at_call 25; refine (smFind (progT t) t.groups HOK.out AP cP l HLS0.out w4 (HRD.out.keep hx4)).mono ?_; intro e w5 hans; unfold FindR at hans; rw [HF0.out] at hans; obtain ⟨AH, cH, rfl, hown, hx5⟩ := hans)
      | (go_at_call 19; refine (law25Of (progT t) AP cP _ rfl (by have := HML.out; omega) wp HRD.out).mono ?_; rintro e w4 ⟨BD, cD, rfl, hrdD, hx4⟩; have k0 : w4.cell? ⟨gp, 0, none⟩ = some (.slice AP (progT t).length cP) := (HPB.out.keep hx4).cell 0; have k1 : w4.cell? ⟨gp, 1, none⟩ = some (.int .i64 (t.groups : Nat)) := (HPB.out.keep hx4).cell 1))
    have hxh : Ext w5 ((w5.alloc (.cells #[.int .i64 0, .slice none 0 0] 54)).setRow w5.heap.size #[.int .i64 f0, .slice AH q0.length cH]) := (Ext.new1 _ _).rowX _ _ (Nat.le_refl _)
    have hx45 := Ext.trans hx4 (Ext.trans hx5 hxh)
    have HB6 := Lib.hid (show Blk ((w5.alloc (.cells #[.int .i64 0, .slice none 0 0] 54)).setRow w5.heap.size #[.int .i64 f0, .slice AH q0.length cH]) w5.heap.size 54 [.int .i64 f0, .slice AH q0.length cH] from Blk.row (Blk.newL w5 54 [.int .i64 0, .slice none 0 0]) _)
    have HX6 := Lib.hid (Ext.trans HXP.out hx45)
    have HPB6 := Lib.hid (HPB.out.keep hx45)
    have HD6 := Lib.hid (hrdD.keep (Ext.trans hx5 hxh))
    obtain ⟨AH', cH', hAH, _, _, hrdH⟩ := own_rd hown
    cases hAH
    have HRH := Lib.hid (hrdH.keep hxh)
    clear hown hrdH
    clear hxh hx4 hx5 hx45 hrdD k0 k1 p0 p1
    generalize (w5.alloc (.cells #[.int .i64 0, .slice none 0 0] 54)).setRow w5.heap.size #[.int .i64 f0, .slice AH q0.length cH] = w6 at *
    generalize w5.heap.size = gh at *
    have hdl : decide ((30 : Int) < (l.length : Int)) = false := decide_eq_false (by have := HL.out; omega)
    go_wp2
    simp only [hdl]
    clear hdl
    go_loopg [14] (j0 + 1) (fun g iv wr => ∃ ii : Nat, ii ≤ j0 ∧ g = j0 + 1 - ii ∧ iv = .int .i64 (ii : Nat) ∧ Ext w6 wr)
    case atStart => exact ⟨0, by omega, rfl, rfl, Ext.refl _⟩
    case round =>
        obtain ⟨ii, hii, rfl, rfl, hx⟩ := hrel
        by_cases hle : ii < j0
        · have HIN := Lib.hid (show ii < j0 ∧ ii ≤ l.length from ⟨hle, by have := HJ0.out; omega⟩)
          have HHN := Lib.hid (show hitAt (progT t) (noneK t.groups) 0 allB (l.take ii) (l.take ii).length = none by rw [hit_take HIN.out.2]; exact HF.out ii hle)
          clear hle hii
          have HIL := Lib.hid (show (ii : Int) ≤ (l.length : Int) from by have := HIN.out; omega)
          obtain ⟨i1, hi1⟩ : ∃ i1, ii + 1 = i1 := ⟨_, rfl⟩
          have HI1 := Lib.hid hi1
          have HWI := Lib.hid (show IntKind.i64.wrap ((ii : Int) + 1) = (i1 : Int) from by rw [wrap_id (by omega) (by have := HL.out; have := HIN.out; omega)]; omega)
          have HLT := Lib.hid (show (l.take ii).length ≤ 1000 by rw [List.length_take]; have := HLS0.out; omega)
          have HBG := Lib.hid (show ∀ j, j ≤ (l.take ii).length → (List.replicate i1 (Value.bool true))[j]? = some (.bool (allB j)) from fun j hj => by rw [List.length_take] at hj; rw [List.getElem?_replicate, if_pos (by omega)]; rfl)
          have HPB5 := Lib.hid (HPB6.out.keep hx)
          have HD5 := Lib.hid (HD6.out.keep hx)
          have HXW := Lib.hid hx
          have hle' : (ii : Int) ≤ (l.length : Int) := HIL.out
          clear hx hi1
          go_upto_region 14 with fail
          refine wp_region_dag (E := Ext) (w0 := wr) (Φ := fun i v w => match i with | 0 => (v = .slice BD (progT t).length cD) | 1 => (v = .pointer (some ⟨gp, 1, none⟩)) | 2 => (v = .int .i64 (t.groups : Nat)) | 3 => (v = .string ⟨l.toArray⟩) | 4 => (v = .int .i64 (ii : Nat)) | 5 => (v = .string ⟨(l.take ii).toArray⟩) | 6 => (v = .int .i64 (ii : Nat)) | 7 => (v = .int .i64 (i1 : Nat)) | 8 => (BlT i1 wr.heap.size v w) | 9 => (v = .tuple #[.int .i64 0, .slice none 0 0, .bool false]) | 10 => (v = .tuple #[.int .i64 0, .slice none 0 0, .bool false]) | 11 => (v = .int .i64 0) | 12 => (v = .slice none 0 0) | 13 => (v = .bool false) | 14 => (v = .int .i64 0) | 15 => (v = .slice none 0 0) | 16 => (v = .bool false) | _ => True) (show Tryd.prog.follows .mixedOrders = true from Checked.mixed Tryd.checked) 104 rfl (by decide +kernel) ?_ ((Below.refl _ _).drew) ?_ ⟨?_, ?_, ?_, ?_, ?_, ?_, ?_, ?_, ?_, ?_, ?_, ?_, ?_, ?_, ?_, ?_, ?_, trivial⟩ ?_
          · intro i v w w' h hE
            match i, h with
            | 0, h => exact h
            | 1, h => exact h
            | 2, h => exact h
            | 3, h => exact h
            | 4, h => exact h
            | 5, h => exact h
            | 6, h => exact h
            | 7, h => exact h
            | 8, h => exact (by obtain ⟨gs, g1, g2, g3⟩ := h; exact ⟨gs, g1, g2.keep hE, g3⟩)
            | 9, h => exact h
            | 10, h => exact h
            | 11, h => exact h
            | 12, h => exact h
            | 13, h => exact h
            | 14, h => exact h
            | 15, h => exact h
            | 16, h => exact h
            | _ + 17, _ => trivial
          · exact fun w w' h h' => h.trans h'
          ·
            intro ac wx hE hsz hdf h
            have e10 : ac.tmps[10]? = some (.slice BD (progT t).length cD) := by obtain ⟨v, h1, h2⟩ := h 10 (by decide +kernel); exact h1.trans h2.symm
            clear h hsz hdf
            go_wp2
            exact ⟨_, rfl, rfl, Ext.refl _⟩
          ·
            intro ac wx hE hsz hdf h
            have e5 : ac.tmps[5]? = some (.pointer (some ⟨gp, 0, none⟩)) := by obtain ⟨v, h1, h2⟩ := h 5 (by decide +kernel); exact h1.trans h2.symm
            clear h hsz hdf
            go_wp2
            exact ⟨_, rfl, rfl, Ext.refl _⟩
          ·
            intro ac wx hE hsz hdf h
            have e61 : ac.tmps[61]? = some (.pointer (some ⟨gp, 1, none⟩)) := by obtain ⟨v, h1, h2⟩ := h 61 (by decide +kernel); rw [h1]; exact congrArg some h2
            clear h hsz hdf
            have hb := HPB5.out.keep hE; have k1 : wx.cell? ⟨gp, 1, none⟩ = some (.int .i64 (t.groups : Nat)) := hb.cell 1
            go_wp2
            exact ⟨_, rfl, rfl, Ext.refl _⟩
          ·
            intro ac wx hE hsz hdf h
            have e1 : ac.tmps[1]? = some (.string ⟨l.toArray⟩) := by obtain ⟨v, h1, h2⟩ := h 1 (by decide +kernel); exact h1.trans h2.symm
            clear h hsz hdf
            go_wp2
            exact ⟨_, rfl, rfl, Ext.refl _⟩
          ·
            intro ac wx hE hsz hdf h
            have e14 : ac.tmps[14]? = some (.int .i64 (ii : Nat)) := by obtain ⟨v, h1, h2⟩ := h 14 (by decide +kernel); exact h1.trans h2.symm
            clear h hsz hdf
            go_wp2
            exact ⟨_, rfl, rfl, Ext.refl _⟩
          ·
            intro ac wx hE hsz hdf h
            have e63 : ac.tmps[63]? = some (.string ⟨l.toArray⟩) := by obtain ⟨v, h1, h2⟩ := h 63 (by decide +kernel); rw [h1]; exact congrArg some h2
            have e64 : ac.tmps[64]? = some (.int .i64 (ii : Nat)) := by obtain ⟨v, h1, h2⟩ := h 64 (by decide +kernel); rw [h1]; exact congrArg some h2
            clear h hsz hdf
            have hil := HIL.out
            go_wp2
            exact ⟨_, rfl, rfl, Ext.refl _⟩
          ·
            intro ac wx hE hsz hdf h
            have e14 : ac.tmps[14]? = some (.int .i64 (ii : Nat)) := by obtain ⟨v, h1, h2⟩ := h 14 (by decide +kernel); exact h1.trans h2.symm
            clear h hsz hdf
            go_wp2
            exact ⟨_, rfl, rfl, Ext.refl _⟩
          ·
            intro ac wx hE hsz hdf h
            have e66 : ac.tmps[66]? = some (.int .i64 (ii : Nat)) := by obtain ⟨v, h1, h2⟩ := h 66 (by decide +kernel); rw [h1]; exact congrArg some h2
            clear h hsz hdf
            have hwi := HWI.out
            go_wp2
            exact ⟨_, rfl, rfl, Ext.refl _⟩
          ·
            intro ac wx hE hsz hdf h
            have e67 : ac.tmps[67]? = some (.int .i64 (i1 : Nat)) := by obtain ⟨v, h1, h2⟩ := h 67 (by decide +kernel); rw [h1]; exact congrArg some h2
            clear h hsz hdf
            have hsz8 := hE.size
            go_wp2_with ((go_at_call 27; refine (refAll i1 (by have := HI1.out; have := HIN.out; have := HL.out; omega) wx).mono ?_; rintro e w9 ⟨rfl, hb9, hx9⟩))
            exact ⟨_, rfl, ⟨_, rfl, hb9, hE.size⟩, hx9⟩
          ·
            intro ac wx hE hsz hdf h
            have e60 : ac.tmps[60]? = some (.slice BD (progT t).length cD) := by obtain ⟨v, h1, h2⟩ := h 60 (by decide +kernel); rw [h1]; exact congrArg some h2
            have e62 : ac.tmps[62]? = some (.int .i64 (t.groups : Nat)) := by obtain ⟨v, h1, h2⟩ := h 62 (by decide +kernel); rw [h1]; exact congrArg some h2
            have e65 : ac.tmps[65]? = some (.string ⟨(l.take ii).toArray⟩) := by obtain ⟨v, h1, h2⟩ := h 65 (by decide +kernel); rw [h1]; exact congrArg some h2
            obtain ⟨v68, e68, s68⟩ : ∃ v, ac.tmps[68]? = some v ∧ (BlT i1 wr.heap.size v wx) := h 68 (by decide +kernel)
            clear h hsz hdf
            obtain ⟨gs, rfl, hs1, hs2⟩ := s68
            go_wp2_with ((go_at_call 26; refine (refFirst (progT t) t.groups HOK.out.r (l.take ii) HLT.out 0 ⟨by omega, by omega⟩ allB (List.replicate i1 (.bool true)) HBG.out BD (some ⟨gs, 0, none⟩) cD i1 i1 _ rfl wx (HD5.out.keep hE) (blk_bools hs1)).mono ?_; intro e w9 hres; obtain ⟨rfl, hx9⟩ := firstR_none hres HHN.out))
            exact ⟨_, rfl, rfl, hx9⟩
          ·
            intro ac wx hE hsz hdf h
            have e69 : ac.tmps[69]? = some (.tuple #[.int .i64 0, .slice none 0 0, .bool false]) := by obtain ⟨v, h1, h2⟩ := h 69 (by decide +kernel); rw [h1]; exact congrArg some h2
            clear h hsz hdf
            go_wp2
            exact ⟨_, rfl, rfl, Ext.refl _⟩
          ·
            intro ac wx hE hsz hdf h
            have e59 : ac.tmps[59]? = some (.tuple #[.int .i64 0, .slice none 0 0, .bool false]) := by obtain ⟨v, h1, h2⟩ := h 59 (by decide +kernel); rw [h1]; exact congrArg some h2
            clear h hsz hdf
            go_wp2
            exact ⟨_, rfl, rfl, Ext.refl _⟩
          ·
            intro ac wx hE hsz hdf h
            have e59 : ac.tmps[59]? = some (.tuple #[.int .i64 0, .slice none 0 0, .bool false]) := by obtain ⟨v, h1, h2⟩ := h 59 (by decide +kernel); rw [h1]; exact congrArg some h2
            clear h hsz hdf
            go_wp2
            exact ⟨_, rfl, rfl, Ext.refl _⟩
          ·
            intro ac wx hE hsz hdf h
            have e59 : ac.tmps[59]? = some (.tuple #[.int .i64 0, .slice none 0 0, .bool false]) := by obtain ⟨v, h1, h2⟩ := h 59 (by decide +kernel); rw [h1]; exact congrArg some h2
            clear h hsz hdf
            go_wp2
            exact ⟨_, rfl, rfl, Ext.refl _⟩
          ·
            intro ac wx hE hsz hdf h
            have e70 : ac.tmps[70]? = some (.int .i64 0) := by obtain ⟨v, h1, h2⟩ := h 70 (by decide +kernel); rw [h1]; exact congrArg some h2
            clear h hsz hdf
            go_wp2
            exact ⟨_, rfl, rfl, Ext.refl _⟩
          ·
            intro ac wx hE hsz hdf h
            have e71 : ac.tmps[71]? = some (.slice none 0 0) := by obtain ⟨v, h1, h2⟩ := h 71 (by decide +kernel); rw [h1]; exact congrArg some h2
            clear h hsz hdf
            go_wp2
            exact ⟨_, rfl, rfl, Ext.refl _⟩
          ·
            intro ac wx hE hsz hdf h
            have e72 : ac.tmps[72]? = some (.bool false) := by obtain ⟨v, h1, h2⟩ := h 72 (by decide +kernel); rw [h1]; exact congrArg some h2
            clear h hsz hdf
            go_wp2
            exact ⟨_, rfl, rfl, Ext.refl _⟩
          · intro ac w9 hE hsz hdf h hrest
            obtain ⟨v0, s0, g0⟩ := h 0 _ rfl
            have e0 := g0 60 rfl
            obtain rfl : v0 = .slice BD (progT t).length cD := s0
            obtain ⟨v1, s1, g1⟩ := h 1 _ rfl
            have e1 := g1 61 rfl
            obtain rfl : v1 = .pointer (some ⟨gp, 1, none⟩) := s1
            obtain ⟨v2, s2, g2⟩ := h 2 _ rfl
            have e2 := g2 62 rfl
            obtain rfl : v2 = .int .i64 (t.groups : Nat) := s2
            obtain ⟨v3, s3, g3⟩ := h 3 _ rfl
            have e3 := g3 63 rfl
            obtain rfl : v3 = .string ⟨l.toArray⟩ := s3
            obtain ⟨v4, s4, g4⟩ := h 4 _ rfl
            have e4 := g4 64 rfl
            obtain rfl : v4 = .int .i64 (ii : Nat) := s4
            obtain ⟨v5, s5, g5⟩ := h 5 _ rfl
            have e5 := g5 65 rfl
            obtain rfl : v5 = .string ⟨(l.take ii).toArray⟩ := s5
            obtain ⟨v6, s6, g6⟩ := h 6 _ rfl
            have e6 := g6 66 rfl
            obtain rfl : v6 = .int .i64 (ii : Nat) := s6
            obtain ⟨v7, s7, g7⟩ := h 7 _ rfl
            have e7 := g7 67 rfl
            obtain rfl : v7 = .int .i64 (i1 : Nat) := s7
            obtain ⟨v8, s8, g8⟩ := h 8 _ rfl
            have e8 := g8 68 rfl
            replace s8 : BlT i1 wr.heap.size v8 w9 := s8
            obtain ⟨v9, s9, g9⟩ := h 9 _ rfl
            have e9 := g9 69 rfl
            obtain rfl : v9 = .tuple #[.int .i64 0, .slice none 0 0, .bool false] := s9
            obtain ⟨v10, s10, g10⟩ := h 10 _ rfl
            have e10 := g10 59 rfl
            obtain rfl : v10 = .tuple #[.int .i64 0, .slice none 0 0, .bool false] := s10
            obtain ⟨v11, s11, g11⟩ := h 11 _ rfl
            have e11 := g11 70 rfl
            obtain rfl : v11 = .int .i64 0 := s11
            obtain ⟨v12, s12, g12⟩ := h 12 _ rfl
            have e12 := g12 71 rfl
            obtain rfl : v12 = .slice none 0 0 := s12
            obtain ⟨v13, s13, g13⟩ := h 13 _ rfl
            have e13 := g13 72 rfl
            obtain rfl : v13 = .bool false := s13
            obtain ⟨v14, s14, g14⟩ := h 14 _ rfl
            have e14 := g14 15 rfl
            obtain rfl : v14 = .int .i64 0 := s14
            obtain ⟨v15, s15, g15⟩ := h 15 _ rfl
            have e15 := g15 16 rfl
            obtain rfl : v15 = .slice none 0 0 := s15
            obtain ⟨v16, s16, g16⟩ := h 16 _ rfl
            have e16 := g16 17 rfl
            obtain rfl : v16 = .bool false := s16
            have ha := act_of [(60, .slice BD (progT t).length cD), (61, .pointer (some ⟨gp, 1, none⟩)), (62, .int .i64 (t.groups : Nat)), (63, .string ⟨l.toArray⟩), (64, .int .i64 (ii : Nat)), (65, .string ⟨(l.take ii).toArray⟩), (66, .int .i64 (ii : Nat)), (67, .int .i64 (i1 : Nat)), (68, v8), (69, .tuple #[.int .i64 0, .slice none 0 0, .bool false]), (59, .tuple #[.int .i64 0, .slice none 0 0, .bool false]), (70, .int .i64 0), (71, .slice none 0 0), (72, .bool false), (15, .int .i64 0), (16, .slice none 0 0), (17, .bool false)] rfl hsz hdf (by intro p hp; simp only [List.mem_cons, List.not_mem_nil, or_false] at hp; rcases hp with rfl | rfl | rfl | rfl | rfl | rfl | rfl | rfl | rfl | rfl | rfl | rfl | rfl | rfl | rfl | rfl | rfl <;> first | exact e0 | exact e1 | exact e2 | exact e3 | exact e4 | exact e5 | exact e6 | exact e7 | exact e8 | exact e9 | exact e10 | exact e11 | exact e12 | exact e13 | exact e14 | exact e15 | exact e16) hrest
            clear h hrest hsz hdf e0 e1 e2 e3 e4 e5 e6 e7 e8 e9 e10 e11 e12 e13 e14 e15 e16 g0 g1 g2 g3 g4 g5 g6 g7 g8 g9 g10 g11 g12 g13 g14 g15 g16
            subst ha
            simp only [List.foldl_cons, List.foldl_nil, Act.put, List.setIfInBounds_toArray, List.set_cons_succ, List.set_cons_zero]
            have HX9 := Lib.hid (Ext.trans HXW.out hE)
            have hwi := HWI.out
            clear hE s8
            go_wp2
            go_roundg (j0 + 1 - i1)
            case measure => have := HI1.out; have := HIN.out; omega
            case rel => exact ⟨i1, by have := HI1.out; have := HIN.out; omega, rfl, by go_num, HX9.out⟩
        · obtain rfl : ii = j0 := by omega
          have HIN := Lib.hid (show ii ≤ l.length from HJ0.out)
          have HHN := Lib.hid (show hitAt (progT t) (noneK t.groups) 0 allB (l.take ii) (l.take ii).length = some (f0, q0) by rw [hit_take HJ0.out]; exact HHIT.out)
          clear hle hii
          have HIL := Lib.hid (show (ii : Int) ≤ (l.length : Int) from by have := HIN.out; omega)
          obtain ⟨i1, hi1⟩ : ∃ i1, ii + 1 = i1 := ⟨_, rfl⟩
          have HI1 := Lib.hid hi1
          have HWI := Lib.hid (show IntKind.i64.wrap ((ii : Int) + 1) = (i1 : Int) from by rw [wrap_id (by omega) (by have := HL.out; have := HIN.out; omega)]; omega)
          have HLT := Lib.hid (show (l.take ii).length ≤ 1000 by rw [List.length_take]; have := HLS0.out; omega)
          have HBG := Lib.hid (show ∀ j, j ≤ (l.take ii).length → (List.replicate i1 (Value.bool true))[j]? = some (.bool (allB j)) from fun j hj => by rw [List.length_take] at hj; rw [List.getElem?_replicate, if_pos (by omega)]; rfl)
          have HPB5 := Lib.hid (HPB6.out.keep hx)
          have HD5 := Lib.hid (HD6.out.keep hx)
          have HXW := Lib.hid hx
          have hle' : (ii : Int) ≤ (l.length : Int) := HIL.out
          clear hx hi1
          go_upto_region 14 with fail
          refine wp_region_dag (E := Ext) (w0 := wr) (Φ := fun i v w => match i with | 0 => (v = .slice BD (progT t).length cD) | 1 => (v = .pointer (some ⟨gp, 1, none⟩)) | 2 => (v = .int .i64 (t.groups : Nat)) | 3 => (v = .string ⟨l.toArray⟩) | 4 => (v = .int .i64 (ii : Nat)) | 5 => (v = .string ⟨(l.take ii).toArray⟩) | 6 => (v = .int .i64 (ii : Nat)) | 7 => (v = .int .i64 (i1 : Nat)) | 8 => (BlT i1 wr.heap.size v w) | 9 => (TupF f0 q0 v w) | 10 => (TupF f0 q0 v w) | 11 => (v = .int .i64 f0) | 12 => (SlF q0 v w) | 13 => (v = .bool true) | 14 => (v = .int .i64 f0) | 15 => (SlF q0 v w) | 16 => (v = .bool true) | _ => True) (show Tryd.prog.follows .mixedOrders = true from Checked.mixed Tryd.checked) 104 rfl (by decide +kernel) ?_ ((Below.refl _ _).drew) ?_ ⟨?_, ?_, ?_, ?_, ?_, ?_, ?_, ?_, ?_, ?_, ?_, ?_, ?_, ?_, ?_, ?_, ?_, trivial⟩ ?_
          · intro i v w w' h hE
            match i, h with
            | 0, h => exact h
            | 1, h => exact h
            | 2, h => exact h
            | 3, h => exact h
            | 4, h => exact h
            | 5, h => exact h
            | 6, h => exact h
            | 7, h => exact h
            | 8, h => exact (by obtain ⟨gs, g1, g2, g3⟩ := h; exact ⟨gs, g1, g2.keep hE, g3⟩)
            | 9, h => exact (by obtain ⟨A9, c9, g1, g2⟩ := h; exact ⟨A9, c9, g1, g2.keep hE⟩)
            | 10, h => exact (by obtain ⟨A9, c9, g1, g2⟩ := h; exact ⟨A9, c9, g1, g2.keep hE⟩)
            | 11, h => exact h
            | 12, h => exact (by obtain ⟨A9, c9, g1, g2⟩ := h; exact ⟨A9, c9, g1, g2.keep hE⟩)
            | 13, h => exact h
            | 14, h => exact h
            | 15, h => exact (by obtain ⟨A9, c9, g1, g2⟩ := h; exact ⟨A9, c9, g1, g2.keep hE⟩)
            | 16, h => exact h
            | _ + 17, _ => trivial
          · exact fun w w' h h' => h.trans h'
          ·
            intro ac wx hE hsz hdf h
            have e10 : ac.tmps[10]? = some (.slice BD (progT t).length cD) := by obtain ⟨v, h1, h2⟩ := h 10 (by decide +kernel); exact h1.trans h2.symm
            clear h hsz hdf
            go_wp2
            exact ⟨_, rfl, rfl, Ext.refl _⟩
          ·
            intro ac wx hE hsz hdf h
            have e5 : ac.tmps[5]? = some (.pointer (some ⟨gp, 0, none⟩)) := by obtain ⟨v, h1, h2⟩ := h 5 (by decide +kernel); exact h1.trans h2.symm
            clear h hsz hdf
            go_wp2
            exact ⟨_, rfl, rfl, Ext.refl _⟩
          ·
            intro ac wx hE hsz hdf h
            have e61 : ac.tmps[61]? = some (.pointer (some ⟨gp, 1, none⟩)) := by obtain ⟨v, h1, h2⟩ := h 61 (by decide +kernel); rw [h1]; exact congrArg some h2
            clear h hsz hdf
            have hb := HPB5.out.keep hE; have k1 : wx.cell? ⟨gp, 1, none⟩ = some (.int .i64 (t.groups : Nat)) := hb.cell 1
            go_wp2
            exact ⟨_, rfl, rfl, Ext.refl _⟩
          ·
            intro ac wx hE hsz hdf h
            have e1 : ac.tmps[1]? = some (.string ⟨l.toArray⟩) := by obtain ⟨v, h1, h2⟩ := h 1 (by decide +kernel); exact h1.trans h2.symm
            clear h hsz hdf
            go_wp2
            exact ⟨_, rfl, rfl, Ext.refl _⟩
          ·
            intro ac wx hE hsz hdf h
            have e14 : ac.tmps[14]? = some (.int .i64 (ii : Nat)) := by obtain ⟨v, h1, h2⟩ := h 14 (by decide +kernel); exact h1.trans h2.symm
            clear h hsz hdf
            go_wp2
            exact ⟨_, rfl, rfl, Ext.refl _⟩
          ·
            intro ac wx hE hsz hdf h
            have e63 : ac.tmps[63]? = some (.string ⟨l.toArray⟩) := by obtain ⟨v, h1, h2⟩ := h 63 (by decide +kernel); rw [h1]; exact congrArg some h2
            have e64 : ac.tmps[64]? = some (.int .i64 (ii : Nat)) := by obtain ⟨v, h1, h2⟩ := h 64 (by decide +kernel); rw [h1]; exact congrArg some h2
            clear h hsz hdf
            have hil := HIL.out
            go_wp2
            exact ⟨_, rfl, rfl, Ext.refl _⟩
          ·
            intro ac wx hE hsz hdf h
            have e14 : ac.tmps[14]? = some (.int .i64 (ii : Nat)) := by obtain ⟨v, h1, h2⟩ := h 14 (by decide +kernel); exact h1.trans h2.symm
            clear h hsz hdf
            go_wp2
            exact ⟨_, rfl, rfl, Ext.refl _⟩
          ·
            intro ac wx hE hsz hdf h
            have e66 : ac.tmps[66]? = some (.int .i64 (ii : Nat)) := by obtain ⟨v, h1, h2⟩ := h 66 (by decide +kernel); rw [h1]; exact congrArg some h2
            clear h hsz hdf
            have hwi := HWI.out
            go_wp2
            exact ⟨_, rfl, rfl, Ext.refl _⟩
          ·
            intro ac wx hE hsz hdf h
            have e67 : ac.tmps[67]? = some (.int .i64 (i1 : Nat)) := by obtain ⟨v, h1, h2⟩ := h 67 (by decide +kernel); rw [h1]; exact congrArg some h2
            clear h hsz hdf
            have hsz8 := hE.size
            go_wp2_with ((go_at_call 27; refine (refAll i1 (by have := HI1.out; have := HIN.out; have := HL.out; omega) wx).mono ?_; rintro e w9 ⟨rfl, hb9, hx9⟩))
            exact ⟨_, rfl, ⟨_, rfl, hb9, hE.size⟩, hx9⟩
          ·
            intro ac wx hE hsz hdf h
            have e60 : ac.tmps[60]? = some (.slice BD (progT t).length cD) := by obtain ⟨v, h1, h2⟩ := h 60 (by decide +kernel); rw [h1]; exact congrArg some h2
            have e62 : ac.tmps[62]? = some (.int .i64 (t.groups : Nat)) := by obtain ⟨v, h1, h2⟩ := h 62 (by decide +kernel); rw [h1]; exact congrArg some h2
            have e65 : ac.tmps[65]? = some (.string ⟨(l.take ii).toArray⟩) := by obtain ⟨v, h1, h2⟩ := h 65 (by decide +kernel); rw [h1]; exact congrArg some h2
            obtain ⟨v68, e68, s68⟩ : ∃ v, ac.tmps[68]? = some v ∧ (BlT i1 wr.heap.size v wx) := h 68 (by decide +kernel)
            clear h hsz hdf
            obtain ⟨gs, rfl, hs1, hs2⟩ := s68
            go_wp2_with ((go_at_call 26; refine (refFirst (progT t) t.groups HOK.out.r (l.take ii) HLT.out 0 ⟨by omega, by omega⟩ allB (List.replicate i1 (.bool true)) HBG.out BD (some ⟨gs, 0, none⟩) cD i1 i1 _ rfl wx (HD5.out.keep hE) (blk_bools hs1)).mono ?_; intro e w9 hres; obtain ⟨hx9, A9, c9, rfl, hr9⟩ := firstR_some hres HHN.out))
            exact ⟨_, rfl, ⟨A9, c9, rfl, hr9⟩, hx9⟩
          ·
            intro ac wx hE hsz hdf h
            obtain ⟨v69, e69, s69⟩ : ∃ v, ac.tmps[69]? = some v ∧ (TupF f0 q0 v wx) := h 69 (by decide +kernel)
            clear h hsz hdf
            obtain ⟨A9, c9, rfl, hr9⟩ := s69
            go_wp2
            exact ⟨_, rfl, ⟨A9, c9, rfl, hr9⟩, Ext.refl _⟩
          ·
            intro ac wx hE hsz hdf h
            obtain ⟨v59, e59, s59⟩ : ∃ v, ac.tmps[59]? = some v ∧ (TupF f0 q0 v wx) := h 59 (by decide +kernel)
            clear h hsz hdf
            obtain ⟨A9, c9, rfl, hr9⟩ := s59
            go_wp2
            exact ⟨_, rfl, rfl, Ext.refl _⟩
          ·
            intro ac wx hE hsz hdf h
            obtain ⟨v59, e59, s59⟩ : ∃ v, ac.tmps[59]? = some v ∧ (TupF f0 q0 v wx) := h 59 (by decide +kernel)
            clear h hsz hdf
            obtain ⟨A9, c9, rfl, hr9⟩ := s59
            go_wp2
            exact ⟨_, rfl, ⟨A9, c9, rfl, hr9⟩, Ext.refl _⟩
          ·
            intro ac wx hE hsz hdf h
            obtain ⟨v59, e59, s59⟩ : ∃ v, ac.tmps[59]? = some v ∧ (TupF f0 q0 v wx) := h 59 (by decide +kernel)
            clear h hsz hdf
            obtain ⟨A9, c9, rfl, hr9⟩ := s59
            go_wp2
            exact ⟨_, rfl, rfl, Ext.refl _⟩
          ·
            intro ac wx hE hsz hdf h
            have e70 : ac.tmps[70]? = some (.int .i64 f0) := by obtain ⟨v, h1, h2⟩ := h 70 (by decide +kernel); rw [h1]; exact congrArg some h2
            clear h hsz hdf
            go_wp2
            exact ⟨_, rfl, rfl, Ext.refl _⟩
          ·
            intro ac wx hE hsz hdf h
            obtain ⟨v71, e71, s71⟩ : ∃ v, ac.tmps[71]? = some v ∧ (SlF q0 v wx) := h 71 (by decide +kernel)
            clear h hsz hdf
            obtain ⟨A9, c9, rfl, hr9⟩ := s71
            go_wp2
            exact ⟨_, rfl, ⟨A9, c9, rfl, hr9⟩, Ext.refl _⟩
          ·
            intro ac wx hE hsz hdf h
            have e72 : ac.tmps[72]? = some (.bool true) := by obtain ⟨v, h1, h2⟩ := h 72 (by decide +kernel); rw [h1]; exact congrArg some h2
            clear h hsz hdf
            go_wp2
            exact ⟨_, rfl, rfl, Ext.refl _⟩
          · intro ac w9 hE hsz hdf h hrest
            obtain ⟨v0, s0, g0⟩ := h 0 _ rfl
            have e0 := g0 60 rfl
            obtain rfl : v0 = .slice BD (progT t).length cD := s0
            obtain ⟨v1, s1, g1⟩ := h 1 _ rfl
            have e1 := g1 61 rfl
            obtain rfl : v1 = .pointer (some ⟨gp, 1, none⟩) := s1
            obtain ⟨v2, s2, g2⟩ := h 2 _ rfl
            have e2 := g2 62 rfl
            obtain rfl : v2 = .int .i64 (t.groups : Nat) := s2
            obtain ⟨v3, s3, g3⟩ := h 3 _ rfl
            have e3 := g3 63 rfl
            obtain rfl : v3 = .string ⟨l.toArray⟩ := s3
            obtain ⟨v4, s4, g4⟩ := h 4 _ rfl
            have e4 := g4 64 rfl
            obtain rfl : v4 = .int .i64 (ii : Nat) := s4
            obtain ⟨v5, s5, g5⟩ := h 5 _ rfl
            have e5 := g5 65 rfl
            obtain rfl : v5 = .string ⟨(l.take ii).toArray⟩ := s5
            obtain ⟨v6, s6, g6⟩ := h 6 _ rfl
            have e6 := g6 66 rfl
            obtain rfl : v6 = .int .i64 (ii : Nat) := s6
            obtain ⟨v7, s7, g7⟩ := h 7 _ rfl
            have e7 := g7 67 rfl
            obtain rfl : v7 = .int .i64 (i1 : Nat) := s7
            obtain ⟨v8, s8, g8⟩ := h 8 _ rfl
            have e8 := g8 68 rfl
            replace s8 : BlT i1 wr.heap.size v8 w9 := s8
            obtain ⟨v9, s9, g9⟩ := h 9 _ rfl
            have e9 := g9 69 rfl
            replace s9 : TupF f0 q0 v9 w9 := s9
            obtain ⟨v10, s10, g10⟩ := h 10 _ rfl
            have e10 := g10 59 rfl
            replace s10 : TupF f0 q0 v10 w9 := s10
            obtain ⟨v11, s11, g11⟩ := h 11 _ rfl
            have e11 := g11 70 rfl
            obtain rfl : v11 = .int .i64 f0 := s11
            obtain ⟨v12, s12, g12⟩ := h 12 _ rfl
            have e12 := g12 71 rfl
            replace s12 : SlF q0 v12 w9 := s12
            obtain ⟨v13, s13, g13⟩ := h 13 _ rfl
            have e13 := g13 72 rfl
            obtain rfl : v13 = .bool true := s13
            obtain ⟨v14, s14, g14⟩ := h 14 _ rfl
            have e14 := g14 15 rfl
            obtain rfl : v14 = .int .i64 f0 := s14
            obtain ⟨v15, s15, g15⟩ := h 15 _ rfl
            have e15 := g15 16 rfl
            replace s15 : SlF q0 v15 w9 := s15
            obtain ⟨v16, s16, g16⟩ := h 16 _ rfl
            have e16 := g16 17 rfl
            obtain rfl : v16 = .bool true := s16
            have ha := act_of [(60, .slice BD (progT t).length cD), (61, .pointer (some ⟨gp, 1, none⟩)), (62, .int .i64 (t.groups : Nat)), (63, .string ⟨l.toArray⟩), (64, .int .i64 (ii : Nat)), (65, .string ⟨(l.take ii).toArray⟩), (66, .int .i64 (ii : Nat)), (67, .int .i64 (i1 : Nat)), (68, v8), (69, v9), (59, v10), (70, .int .i64 f0), (71, v12), (72, .bool true), (15, .int .i64 f0), (16, v15), (17, .bool true)] rfl hsz hdf (by intro p hp; simp only [List.mem_cons, List.not_mem_nil, or_false] at hp; rcases hp with rfl | rfl | rfl | rfl | rfl | rfl | rfl | rfl | rfl | rfl | rfl | rfl | rfl | rfl | rfl | rfl | rfl <;> first | exact e0 | exact e1 | exact e2 | exact e3 | exact e4 | exact e5 | exact e6 | exact e7 | exact e8 | exact e9 | exact e10 | exact e11 | exact e12 | exact e13 | exact e14 | exact e15 | exact e16) hrest
            clear h hrest hsz hdf e0 e1 e2 e3 e4 e5 e6 e7 e8 e9 e10 e11 e12 e13 e14 e15 e16 g0 g1 g2 g3 g4 g5 g6 g7 g8 g9 g10 g11 g12 g13 g14 g15 g16
            subst ha
            simp only [List.foldl_cons, List.foldl_nil, Act.put, List.setIfInBounds_toArray, List.set_cons_succ, List.set_cons_zero]
            obtain ⟨A9, c9, rfl, hr9⟩ := s15
            have hX6 := Ext.trans HXW.out hE
            have HR9 := Lib.hid hr9
            have HRH9 := Lib.hid (HRH.out.keep hX6)
            have HX9 := Lib.hid (Ext.trans HX6.out hX6)
            have k0 : w9.cell? ⟨gh, 0, none⟩ = some (.int .i64 f0) := (HB6.out.keep hX6).cell 0
            have k1 : w9.cell? ⟨gh, 1, none⟩ = some (.slice AH q0.length cH) := (HB6.out.keep hX6).cell 1
            clear hE hX6 hr9 s8 s9 s10 s12
            go_wp2_with (go_at_call 28; refine (sameInts q0 q0 AH A9 q0.length cH q0.length c9 w9 HRH9.out HR9.out (by have := HQL.out; omega) (by have := HQL.out; omega) true (by simp)).mono ?_; rintro e wz ⟨rfl, hxz⟩)
            go_ret
            exact ⟨rfl, Ext.trans HX9.out hxz⟩
end Go.Proofs.YtdhmfgaiomfodaaDoor
