/- Put together: Sm21. -/
import Derived.Test.YtmfdnjddggaeaaaDoorNsG
import Derived.Test.YtmfdnjddggaeaaaDoorNsA
namespace Go.Proofs.YtmfdnjddggaeaaaDoor
open Go Go.RowKit
attribute [local irreducible] wd

theorem mod9 (x : Int) : ∃ y : Nat, wrap64 ((IntKind.u64.wrap x).tmod 9) = (y : Int) ∧ y < 9 := by
  obtain ⟨u, hu⟩ : ∃ u : Nat, IntKind.u64.wrap x = (u : Int) := by
    have h : 0 ≤ IntKind.u64.wrap x := by
      simp [IntKind.wrap, IntKind.signed, IntKind.bits]
      omega
    exact ⟨(IntKind.u64.wrap x).toNat, by omega⟩
  refine ⟨u % 9, ?_, Nat.mod_lt _ (by omega)⟩
  rw [hu, show ((u : Int).tmod 9) = ((u % 9 : Nat) : Int) by rw [Int.tmod_eq_emod_of_nonneg (by omega)]; rfl]
  unfold wrap64
  omega
theorem noneK_sh (G k : Nat) : (noneK G).map (sh k) = noneK G := by
  unfold noneK
  rw [List.map_replicate]
  rfl
theorem not_null {t : T} (hr : (t.right 1 0).1 = true) (h : t.nullable = false) : comesB (progT t) [] = false := by
  cases hc : comesB (progT t) []
  · rfl
  · have := (lang_nil t (right_good t 1 0 hr)).1 ((prog_comes hr []).1 hc)
    rw [h] at this
    cases this
theorem noZ_of {c : List Ins} {z : UInt8} (h : ∀ i ∈ c, i.op = 1 → i.set z.toNat = false) : NoZ c z := fun _ i hi ho => h i (List.mem_of_getElem? hi) ho
def ZsAt (b : Nat) (v : Value) : Prop := ∃ zs : List UInt8, zs = List.replicate b 122 ∧ v = .string ⟨zs.toArray⟩
theorem rep_snoc (k : Nat) : List.replicate k (122 : UInt8) ++ [122] = List.replicate (k + 1) 122 := by rw [List.replicate_succ', ]

set_option maxHeartbeats 8000000 in
set_option maxRecDepth 20000 in
theorem lawShifts (E : Nat → Addr) (t : T) (ah : Int) (l : List UInt8) (S : Nat → Prop) (v : List Value) (w : World) (h : NodeV S w t v) (hE : Env E w) :
    Calls Tryd.prog 6 #[.agg v.toArray, .int .i64 ah, .string ⟨l.toArray⟩] w fun e w' => e = .returned (.bool true) ∧ Ext w w' := by
  obtain ⟨k, m, z, s, A, n, c, rfl⟩ := nodeV_form h
  have hx0 := Lib.hid (Ext.new1 w (.cells (nodeC k m z s A n c).toArray 27))
  have HV := Lib.hid (h.keep hx0.out)
  have HB := Lib.hid (NodeB.new w k m z s A n c)
  have HE := Lib.hid (hE.keep hx0.out)
  clear h hE
  unfold nodeC at hx0 HV HE ⊢
  cases hg : t.great
  rotate_left
  · have HG := Lib.hid hg
    clear hg
    go_enter Tryd.func6, Tryd.ntmps6
    go_wp2_with (first
      | (have := hx1; go_at_call 11; refine (lawGreat t S _ (nodeC k m z s A n c) (HV.out.keep hx1)).mono ?_; rintro e w2 ⟨rfl, hx2⟩; rw [HG.out]; obtain ⟨x0, x1, x2, x3, x4, x5, x6, x7⟩ := (HB.out.keep (Ext.trans hx1 hx2)).cells)
      | (go_at_call 19; refine (alive26 E _ HE.out).mono ?_; rintro e w1 ⟨rfl, hx1⟩; obtain ⟨q0, q1, q2, q3, q4, q5, q6, q7⟩ := (HB.out.keep hx1).cells))
    go_ret
    exact ⟨rfl, Ext.trans hx0.out (Ext.trans hx1 hx2)⟩
  have HS := Lib.hid (great_size hg)
  have HG := Lib.hid hg
  clear hg
  by_cases hl : (30 : Int) < (l.length : Int)
  · go_enter Tryd.func6, Tryd.ntmps6
    go_wp2_with (first
      | (have := hx1; go_at_call 11; refine (lawGreat t S _ (nodeC k m z s A n c) (HV.out.keep hx1)).mono ?_; rintro e w2 ⟨rfl, hx2⟩; rw [HG.out]; obtain ⟨x0, x1, x2, x3, x4, x5, x6, x7⟩ := (HB.out.keep (Ext.trans hx1 hx2)).cells)
      | (go_at_call 19; refine (alive26 E _ HE.out).mono ?_; rintro e w1 ⟨rfl, hx1⟩; obtain ⟨q0, q1, q2, q3, q4, q5, q6, q7⟩ := (HB.out.keep hx1).cells))
    go_ret
    exact ⟨rfl, Ext.trans hx0.out (Ext.trans hx1 hx2)⟩
  have HL := Lib.hid (show l.length ≤ 30 by omega)
  cases hnu : t.nullable
  rotate_left
  · have HNU := Lib.hid hnu
    clear hnu
    go_enter Tryd.func6, Tryd.ntmps6
    go_wp2_with (first
      | (have := hx2; go_at_call 25; refine (rxNullable t.size t (Nat.le_refl _) (by have := HS.out; omega) S _ (nodeC k m z s A n c) (HV.out.keep (Ext.trans hx1 hx2))).mono ?_; rintro e w3 ⟨rfl, hx3⟩; rw [HNU.out]; obtain ⟨y0, y1, y2, y3, y4, y5, y6, y7⟩ := (HB.out.keep (Ext.trans hx1 (Ext.trans hx2 hx3))).cells)
      | (have := hx1; go_at_call 11; refine (lawGreat t S _ (nodeC k m z s A n c) (HV.out.keep hx1)).mono ?_; rintro e w2 ⟨rfl, hx2⟩; rw [HG.out]; obtain ⟨x0, x1, x2, x3, x4, x5, x6, x7⟩ := (HB.out.keep (Ext.trans hx1 hx2)).cells)
      | (go_at_call 19; refine (alive26 E _ HE.out).mono ?_; rintro e w1 ⟨rfl, hx1⟩; obtain ⟨q0, q1, q2, q3, q4, q5, q6, q7⟩ := (HB.out.keep hx1).cells))
    go_ret
    exact ⟨rfl, Ext.trans hx0.out (Ext.trans hx1 (Ext.trans hx2 hx3))⟩
  have HNU := Lib.hid hnu
  clear hnu
  cases hc : compB t
  · have HC := Lib.hid hc
    clear hc
    go_enter Tryd.func6, Tryd.ntmps6
    go_wp2_with (first
      | (have := hx4; refine store_pg rfl (.tmp 7) (.tmp 37) rfl (g := w4.heap.size) (old := [.slice none 0 0, .int .i64 0]) [.slice none 0 0, .int .i64 0] rfl rfl (Blk.newL w4 32 [.slice none 0 0, .int .i64 0]) rfl rfl rfl ?_; unfold errV)
      | (have := hx3; go_at_call 12; refine (nfCompileAny E t (by have := HS.out; omega) S _ (nodeC k m z s A n c) (HV.out.keep (Ext.trans hx1 (Ext.trans hx2 hx3))) (HE.out.keep (Ext.trans hx1 (Ext.trans hx2 hx3)))).mono ?_; intro e w4 hres; obtain ⟨hx4, K, rfl, -⟩ := compR_neg hres HC.out)
      | (have := hx2; go_at_call 25; refine (rxNullable t.size t (Nat.le_refl _) (by have := HS.out; omega) S _ (nodeC k m z s A n c) (HV.out.keep (Ext.trans hx1 hx2))).mono ?_; rintro e w3 ⟨rfl, hx3⟩; rw [HNU.out]; obtain ⟨y0, y1, y2, y3, y4, y5, y6, y7⟩ := (HB.out.keep (Ext.trans hx1 (Ext.trans hx2 hx3))).cells)
      | (have := hx1; go_at_call 11; refine (lawGreat t S _ (nodeC k m z s A n c) (HV.out.keep hx1)).mono ?_; rintro e w2 ⟨rfl, hx2⟩; rw [HG.out]; obtain ⟨x0, x1, x2, x3, x4, x5, x6, x7⟩ := (HB.out.keep (Ext.trans hx1 hx2)).cells)
      | (go_at_call 19; refine (alive26 E _ HE.out).mono ?_; rintro e w1 ⟨rfl, hx1⟩; obtain ⟨q0, q1, q2, q3, q4, q5, q6, q7⟩ := (HB.out.keep hx1).cells))
    go_ret
    exact ⟨rfl, Ext.trans hx0.out (Ext.trans hx1 (Ext.trans hx2 (Ext.trans hx3 (Ext.trans hx4 ((Ext.new1 _ _).rowX _ _ (Nat.le_refl _))))))⟩
  have HC := Lib.hid hc
  clear hc
  go_enter Tryd.func6, Tryd.ntmps6
  go_upto_region 8 with (first
    | (have := hx4; refine store_pg rfl (.tmp 7) (.tmp 37) rfl (g := w4.heap.size) (old := [.slice none 0 0, .int .i64 0]) [.slice AP (progT t).length cP, .int .i64 (t.groups : Nat)] rfl rfl (Blk.newL w4 32 [.slice none 0 0, .int .i64 0]) rfl rfl rfl ?_)
    | (have := hx3; go_at_call 12; refine (nfCompileAny E t (by have := HS.out; omega) S _ (nodeC k m z s A n c) (HV.out.keep (Ext.trans hx1 (Ext.trans hx2 hx3))) (HE.out.keep (Ext.trans hx1 (Ext.trans hx2 hx3)))).mono ?_; intro e w4 hres; obtain ⟨hx4, AP, cP, rfl, hrd, hok⟩ := compR_pos hres HC.out)
    | (have := hx2; go_at_call 25; refine (rxNullable t.size t (Nat.le_refl _) (by have := HS.out; omega) S _ (nodeC k m z s A n c) (HV.out.keep (Ext.trans hx1 hx2))).mono ?_; rintro e w3 ⟨rfl, hx3⟩; rw [HNU.out]; obtain ⟨y0, y1, y2, y3, y4, y5, y6, y7⟩ := (HB.out.keep (Ext.trans hx1 (Ext.trans hx2 hx3))).cells)
    | (have := hx1; go_at_call 11; refine (lawGreat t S _ (nodeC k m z s A n c) (HV.out.keep hx1)).mono ?_; rintro e w2 ⟨rfl, hx2⟩; rw [HG.out]; obtain ⟨x0, x1, x2, x3, x4, x5, x6, x7⟩ := (HB.out.keep (Ext.trans hx1 hx2)).cells)
    | (go_at_call 19; refine (alive26 E _ HE.out).mono ?_; rintro e w1 ⟨rfl, hx1⟩; obtain ⟨q0, q1, q2, q3, q4, q5, q6, q7⟩ := (HB.out.keep hx1).cells))
  have hxp : Ext w4 ((w4.alloc (.cells #[.slice none 0 0, .int .i64 0] 32)).setRow w4.heap.size #[.slice AP (progT t).length cP, .int .i64 (t.groups : Nat)]) := (Ext.new1 _ _).rowX _ _ (Nat.le_refl _)
  have HXP := Lib.hid (Ext.trans hx0.out (Ext.trans hx1 (Ext.trans hx2 (Ext.trans hx3 (Ext.trans hx4 hxp)))))
  have HPB := Lib.hid (show Blk ((w4.alloc (.cells #[.slice none 0 0, .int .i64 0] 32)).setRow w4.heap.size #[.slice AP (progT t).length cP, .int .i64 (t.groups : Nat)]) w4.heap.size 32 [.slice AP (progT t).length cP, .int .i64 (t.groups : Nat)] from Blk.row (Blk.newL w4 32 [.slice none 0 0, .int .i64 0]) _)
  have HRD := Lib.hid (hrd.keep hxp)
  have HOK := Lib.hid hok
  clear hxp hx1 hx2 hx3 hx4 hrd hok hres this q0 q1 q2 q3 q4 q5 q6 q7 x0 x1 x2 x3 x4 x5 x6 x7 y0 y1 y2 y3 y4 y5 y6 y7 HV HB HE hx0 hl
  generalize (w4.alloc (.cells #[.slice none 0 0, .int .i64 0] 32)).setRow w4.heap.size #[.slice AP (progT t).length cP, .int .i64 (t.groups : Nat)] = wp at *
  generalize w4.heap.size = gp at *
  generalize w.heap.size = gn at *
  have hr : (t.right 1 0).1 = true := by have h := HC.out; unfold compB at h; exact (Bool.and_eq_true_iff.1 h).1
  have HCM := Lib.hid (not_null hr HNU.out)
  obtain ⟨M, hM⟩ : ∃ M, (progT t).length = M := ⟨_, rfl⟩
  have HM := Lib.hid hM
  have p0 : wp.cell? ⟨gp, 0, none⟩ = some (.slice AP M cP) := by rw [← hM]; exact HPB.out.cell 0
  clear hr hM
  go_wp2
  go_loopg [44] M (fun g iv wr => ∃ aq : Nat, aq ≤ M ∧ g = M - aq ∧ iv = .int .i64 (aq : Nat) ∧ (∀ i ∈ (progT t).take aq, i.op = 1 → i.set 122 = false) ∧ Ext wp wr)
  case atStart => exact ⟨0, by omega, rfl, rfl, (fun i hi => by simp at hi), Ext.refl _⟩
  case round =>
    obtain ⟨aq, haM, rfl, rfl, hno, hx⟩ := hrel
    have HNO := Lib.hid hno
    have HX := Lib.hid hx
    clear hno
    by_cases hlt : aq < M
    · obtain ⟨xi, hxi⟩ : ∃ xi, (progT t)[aq]? = some xi := ⟨_, List.getElem?_eq_getElem (by have := HM.out; omega)⟩
      obtain ⟨bA, oA, rfl, hcell⟩ := code_cellsN (HRD.out.keep hx) hxi
      have c0 : wr.cell? ⟨bA, oA + aq * 8, none⟩ = some (.int .i64 xi.op) := hcell 0 _ rfl
      have c1 : wr.cell? ⟨bA, oA + aq * 8 + 1, none⟩ = some (.int .i64 xi.x) := hcell 1 _ rfl
      have c2 : wr.cell? ⟨bA, oA + aq * 8 + 2, none⟩ = some (.int .i64 xi.y) := hcell 2 _ rfl
      have c3 : wr.cell? ⟨bA, oA + aq * 8 + 3, none⟩ = some (.int .i64 xi.n) := hcell 3 _ rfl
      have c4 : wr.cell? ⟨bA, oA + aq * 8 + 4, none⟩ = some (.int .u64 (wd xi.set 0 : Nat)) := hcell 4 _ rfl
      have c5 : wr.cell? ⟨bA, oA + aq * 8 + 5, none⟩ = some (.int .u64 (wd xi.set 1 : Nat)) := hcell 5 _ rfl
      have c6 : wr.cell? ⟨bA, oA + aq * 8 + 6, none⟩ = some (.int .u64 (wd xi.set 2 : Nat)) := hcell 6 _ rfl
      have c7 : wr.cell? ⟨bA, oA + aq * 8 + 7, none⟩ = some (.int .u64 (wd xi.set 3 : Nat)) := hcell 7 _ rfl
      have hlt' : (aq : Int) < (M : Int) := by omega
      have hw2 : IntKind.i64.wrap ((aq : Int) + 1) = (aq : Int) + 1 := wrap_id (by omega) (by have := HOK.out.r.most; have := HM.out; omega)
      have HTK := Lib.hid (show (progT t).take (aq + 1) = (progT t).take aq ++ [xi] by rw [List.take_add_one, hxi]; rfl)
      clear hcell hxi hx
      by_cases ho : xi.op = 1
      · have ho1 : (xi.op == 1) = true := beq_iff_eq.2 ho
        cases hst : xi.set 122
        · have HST := Lib.hid hst
          clear hst ho
          go_wp2_with (go_at_call 26; refine (setHas xi.set 122 (by omega) _).mono ?_; rintro e w9 ⟨rfl, hb9⟩; rw [HST.out])
          have hx9 : Ext wp w9 := Ext.trans HX.out (Ext.trans (Ext.new1 _ _) hb9)
          go_roundg (M - (aq + 1))
          case measure => omega
          case rel => exact ⟨aq + 1, by omega, rfl, by go_num, (fun i hi ho => by rw [HTK.out] at hi; rcases List.mem_append.1 hi with hi | hi; exact HNO.out i hi ho; simp at hi; subst hi; exact HST.out), hx9⟩
        · have HST := Lib.hid hst
          clear hst ho
          go_wp2_with (go_at_call 26; refine (setHas xi.set 122 (by omega) _).mono ?_; rintro e w9 ⟨rfl, hb9⟩; rw [HST.out])
          have hx9 : Ext wp w9 := Ext.trans HX.out (Ext.trans (Ext.new1 _ _) hb9)
          go_ret
          exact ⟨rfl, Ext.trans HXP.out hx9⟩
      · have ho1 : (xi.op == 1) = false := beq_eq_false_iff_ne.2 ho
        have HO := Lib.hid ho
        clear ho
        go_wp2
        go_roundg (M - (aq + 1))
        case measure => omega
        case rel => exact ⟨aq + 1, by omega, rfl, by go_num, (fun i hi ho => by rw [HTK.out] at hi; rcases List.mem_append.1 hi with hi | hi; exact HNO.out i hi ho; simp at hi; subst hi; exact absurd ho HO.out), Ext.trans HX.out (Ext.new1 _ _)⟩
    · obtain rfl : aq = M := by omega
      have hlt' : ¬ (aq : Int) < (aq : Int) := by omega
      have HZ := Lib.hid (show NoZ (progT t) 122 from noZ_of (by have h := HNO.out; rw [List.take_of_length_le (by rw [HM.out]; exact Nat.le_refl _)] at h; exact h))
      clear hx haM hlt
      generalize wr = wk at *
      obtain ⟨kq, hkq, hk9⟩ := mod9 ah
      have HKQ := Lib.hid hkq
      have HK9 := Lib.hid hk9
      clear hk9
      go_upto_region 15 with fail
      rw [hkq]
      clear hkq
      go_wp2
      go_loopg [12, 62] kq (fun g sv iv wr => ∃ bq : Nat, bq ≤ kq ∧ g = kq - bq ∧ ZsAt bq sv ∧ iv = .int .i64 (bq : Nat) ∧ wr = wk)
      case atStart => exact ⟨0, by omega, rfl, ⟨[], rfl, rfl⟩, rfl, rfl⟩
      case round =>
        obtain ⟨bq, hbk, rfl, ⟨zs, hzs, rfl⟩, rfl, hwr⟩ := hrel
        have HZS := Lib.hid hzs
        clear hzs
        obtain rfl : wk = wr := hwr.symm
        by_cases hlb : bq < kq
        · have hlt2 : (bq : Int) < (kq : Int) := by omega
          have hm2 : ¬ 9223372036854775807 < zs.length + 1 := by rw [HZS.out, List.length_replicate]; have := HK9.out; omega
          have hw2 : IntKind.i64.wrap ((bq : Int) + 1) = (bq : Int) + 1 := wrap_id (by omega) (by have := HK9.out; omega)
          go_wp2
          go_roundg (kq - (bq + 1))
          case measure => omega
          case rel => exact ⟨bq + 1, by omega, rfl, ⟨_, by rw [HZS.out, rep_snoc], rfl⟩, by go_num, rfl⟩
        · obtain rfl : bq = kq := by omega
          have hlt2 : ¬ (bq : Int) < (bq : Int) := by omega
          clear hbk hlb
          go_upto_region 20 with fail
          have hsh := shift_law HOK.out.r.closed HOK.out.r.pos HZ.out HCM.out bq l (noneK t.groups) (noneK_sh t.groups bq)
          rw [← HZS.out] at hsh
          have HLS := Lib.hid (show l.length ≤ 1000 ∧ (zs ++ l).length ≤ 1000 from ⟨by have := HL.out; omega, by rw [List.length_append, HZS.out, List.length_replicate]; have := HL.out; have := HK9.out; omega⟩)
          have hm3 : ¬ 9223372036854775807 < zs.length + l.length := by rw [HZS.out, List.length_replicate]; have := HL.out; have := HK9.out; omega
          have HRK := Lib.hid (HRD.out.keep HX.out)
          have HPK := Lib.hid (HPB.out.keep HX.out)
          have HXK := Lib.hid (Ext.trans HXP.out HX.out)
          have p1 : wk.cell? ⟨gp, 0, none⟩ = some (.slice AP (progT t).length cP) := HPK.out.cell 0
          have p2 : wk.cell? ⟨gp, 1, none⟩ = some (.int .i64 (t.groups : Nat)) := HPK.out.cell 1
          clear p0
          cases hf : findP (progT t) (noneK t.groups) l with
          | none =>
            rw [hf] at hsh
            have HF := Lib.hid hf
            have HF2 := Lib.hid hsh
            clear hf hsh
            go_upto_region 22 with (first
              | (have := hx7; refine store_hit rfl (.tmp 16) (.tmp 80) rfl (g := w7.heap.size) (old := [.int .i64 0, .slice none 0 0]) [.int .i64 0, .slice none 0 0] rfl rfl (Blk.newL w7 43 [.int .i64 0, .slice none 0 0]) rfl rfl rfl ?_)
              | (have := HX6; go_at_call 20; refine (smFind (progT t) t.groups HOK.out AP cP (zs ++ l) HLS.out.2 _ (HRK.out.keep HX6.out)).mono ?_; intro e w7 hans; unfold FindR at hans; rw [HF2.out] at hans; obtain ⟨rfl, hx7⟩ := hans)
              | (have := hx5; refine store_hit rfl (.tmp 13) (.tmp 71) rfl (g := w5.heap.size) (old := [.int .i64 0, .slice none 0 0]) [.int .i64 0, .slice none 0 0] rfl rfl (Blk.newL w5 43 [.int .i64 0, .slice none 0 0]) rfl rfl rfl ?_; have HX6 := Lib.hid (Ext.trans hx5 (show Ext w5 ((w5.alloc (.cells #[.int .i64 0, .slice none 0 0] 43)).setRow w5.heap.size #[.int .i64 0, .slice none 0 0]) from (Ext.new1 _ _).rowX _ _ (Nat.le_refl _))); have HB6 := Lib.hid (show Blk ((w5.alloc (.cells #[.int .i64 0, .slice none 0 0] 43)).setRow w5.heap.size #[.int .i64 0, .slice none 0 0]) w5.heap.size 43 [.int .i64 0, .slice none 0 0] from Blk.row (Blk.newL w5 43 [.int .i64 0, .slice none 0 0]) _); clear hx5; have r1 := (HPK.out.keep HX6.out).cell 0; have r2 := (HPK.out.keep HX6.out).cell 1)
              | (go_at_call 20; refine (smFind (progT t) t.groups HOK.out AP cP l HLS.out.1 wk HRK.out).mono ?_; intro e w5 hans; unfold FindR at hans; rw [HF.out] at hans; obtain ⟨rfl, hx5⟩ := hans))
            have hx8 : Ext w7 ((w7.alloc (.cells #[.int .i64 0, .slice none 0 0] 43)).setRow w7.heap.size #[.int .i64 0, .slice none 0 0]) := (Ext.new1 _ _).rowX _ _ (Nat.le_refl _)
            have hB8 := HB6.out.keep (Ext.trans hx7 hx8)
            have k1 : ((w7.alloc (.cells #[.int .i64 0, .slice none 0 0] 43)).setRow w7.heap.size #[.int .i64 0, .slice none 0 0]).cell? ⟨w5.heap.size, 1, none⟩ = some (.slice none 0 0) := hB8.cell 1
            have HX8 := Lib.hid (Ext.trans HXK.out (Ext.trans HX6.out (Ext.trans hx7 hx8)))
            clear hx8 hB8 hx7 p1 p2
            generalize (w7.alloc (.cells #[.int .i64 0, .slice none 0 0] 43)).setRow w7.heap.size #[.int .i64 0, .slice none 0 0] = w8 at *
            generalize w5.heap.size = gh at *
            go_wp2
            go_loopg [117] 1 (fun g iv wr => g = 1 ∧ iv = .int .i64 0 ∧ wr = w8)
            case atStart => exact ⟨rfl, rfl, rfl⟩
            case round =>
              obtain ⟨rfl, rfl, hwr⟩ := hrel
              obtain rfl : w8 = wr := hwr.symm
              go_wp2
              go_ret
              exact ⟨rfl, HX8.out⟩
          | some x =>
            obtain ⟨j, f, q⟩ := x
            obtain ⟨nq, rfl, hnj, hjl, -, -, hcaps⟩ := early_law HOK.out.r.closed HOK.out.r.pos hf
            have hq2 : q.length = 2 * t.groups ∧ ∀ (i : Nat) (x : Int), q[i]? = some x → x = -1 ∨ ((nq : Int) ≤ x ∧ x ≤ (j : Int)) := by
              refine ⟨by rw [hcaps.1]; simp [noneK], fun i x hx => ?_⟩
              rcases hcaps.2 i x hx with h | h
              · exact .inl (List.mem_replicate.1 (List.mem_of_getElem? h)).2
              · exact .inr h
            have HQ2 := Lib.hid hq2
            rw [hf] at hsh
            obtain ⟨e9, he9⟩ : ∃ e9, bq + j = e9 := ⟨_, rfl⟩
            obtain ⟨f9, hf9⟩ : ∃ f9, (nq : Int) + (bq : Int) = f9 := ⟨_, rfl⟩
            obtain ⟨q9, hq9⟩ : ∃ q9, q.map (sh (bq : Int)) = q9 := ⟨_, rfl⟩
            have hsh' : findP (progT t) (noneK t.groups) (zs ++ l) = some (e9, f9, q9) := by rw [hsh, ← he9, ← hf9, ← hq9]; rfl
            have hl9 : q9.length = q.length := by rw [← hq9, List.length_map]
            obtain ⟨n9, hn9⟩ : ∃ n9, q.length = n9 := ⟨_, rfl⟩
            have HN9 := Lib.hid hn9
            have HL9 := Lib.hid (hl9.trans hn9)
            have HQ9 := Lib.hid hq9
            have HF := Lib.hid hf
            have HF2 := Lib.hid hsh'
            have HWF := Lib.hid (show IntKind.i64.wrap ((nq : Int) + (bq : Int)) = f9 from by rw [← hf9]; exact wrap_id (by omega) (by have := HL.out; have := HK9.out; omega))
            have HWE := Lib.hid (show IntKind.i64.wrap ((j : Int) + (bq : Int)) = (e9 : Int) from by rw [show (j : Int) + (bq : Int) = (e9 : Int) by omega]; exact wrap_id (by omega) (by have := HL.out; have := HK9.out; omega))
            have HJ9 := Lib.hid (show (j : Int) ≤ 1000 from by have := HL.out; omega)
            clear hf hsh hsh' he9 hf9 hq9 hl9 hn9 hcaps hq2 hnj hjl
            go_upto_region 22 with (first
              | (have := hx7; refine store_hit rfl (.tmp 16) (.tmp 80) rfl (g := w7.heap.size) (old := [.int .i64 0, .slice none 0 0]) [.int .i64 f9, .slice AG n9 cG] rfl rfl (Blk.newL w7 43 [.int .i64 0, .slice none 0 0]) rfl rfl rfl ?_)
              | (have := HX6; go_at_call 20; refine (smFind (progT t) t.groups HOK.out AP cP (zs ++ l) HLS.out.2 _ (HRK.out.keep HX6.out)).mono ?_; intro e w7 hans; unfold FindR at hans; rw [HF2.out] at hans; dsimp only at hans; rw [HL9.out] at hans; obtain ⟨AG, cG, rfl, hown7, hx7⟩ := hans)
              | (have := hx5; refine store_hit rfl (.tmp 13) (.tmp 71) rfl (g := w5.heap.size) (old := [.int .i64 0, .slice none 0 0]) [.int .i64 (nq : Nat), .slice AH n9 cH] rfl rfl (Blk.newL w5 43 [.int .i64 0, .slice none 0 0]) rfl rfl rfl ?_; have HX6 := Lib.hid (Ext.trans hx5 (show Ext w5 ((w5.alloc (.cells #[.int .i64 0, .slice none 0 0] 43)).setRow w5.heap.size #[.int .i64 (nq : Nat), .slice AH n9 cH]) from (Ext.new1 _ _).rowX _ _ (Nat.le_refl _))); have HRH := Lib.hid (own_ext hown5 (show Ext w5 ((w5.alloc (.cells #[.int .i64 0, .slice none 0 0] 43)).setRow w5.heap.size #[.int .i64 (nq : Nat), .slice AH n9 cH]) from (Ext.new1 _ _).rowX _ _ (Nat.le_refl _))); have HB6 := Lib.hid (show Blk ((w5.alloc (.cells #[.int .i64 0, .slice none 0 0] 43)).setRow w5.heap.size #[.int .i64 (nq : Nat), .slice AH n9 cH]) w5.heap.size 43 [.int .i64 (nq : Nat), .slice AH n9 cH] from Blk.row (Blk.newL w5 43 [.int .i64 0, .slice none 0 0]) _); clear hx5 hown5; have r1 := (HPK.out.keep HX6.out).cell 0; have r2 := (HPK.out.keep HX6.out).cell 1)
              | (go_at_call 20; refine (smFind (progT t) t.groups HOK.out AP cP l HLS.out.1 wk HRK.out).mono ?_; intro e w5 hans; unfold FindR at hans; rw [HF.out] at hans; dsimp only at hans; rw [HN9.out] at hans; obtain ⟨AH, cH, rfl, hown5, hx5⟩ := hans))
            have hx8 : Ext w7 ((w7.alloc (.cells #[.int .i64 0, .slice none 0 0] 43)).setRow w7.heap.size #[.int .i64 f9, .slice AG n9 cG]) := (Ext.new1 _ _).rowX _ _ (Nat.le_refl _)
            have HB8 := Lib.hid (HB6.out.keep (Ext.trans hx7 hx8))
            have HG8 := Lib.hid (show Blk ((w7.alloc (.cells #[.int .i64 0, .slice none 0 0] 43)).setRow w7.heap.size #[.int .i64 f9, .slice AG n9 cG]) w7.heap.size 43 [.int .i64 f9, .slice AG n9 cG] from Blk.row (Blk.newL w7 43 [.int .i64 0, .slice none 0 0]) _)
            obtain ⟨AH', cH', hAH, _, _, hrdH⟩ := own_rd (own_ext HRH.out (Ext.trans hx7 hx8))
            cases hAH
            obtain ⟨AG', cG', hAG, _, _, hrdG⟩ := own_rd (own_ext hown7 hx8)
            cases hAG
            have HRH8 := Lib.hid hrdH
            have HRG8 := Lib.hid hrdG
            have HX8 := Lib.hid (Ext.trans HXK.out (Ext.trans HX6.out (Ext.trans hx7 hx8)))
            clear hx8 hx7 hown7 hrdH hrdG p1 p2 HRH HB6
            generalize (w7.alloc (.cells #[.int .i64 0, .slice none 0 0] 43)).setRow w7.heap.size #[.int .i64 f9, .slice AG n9 cG] = w8 at *
            generalize w5.heap.size = gh at *
            generalize w7.heap.size = gg at *
            have k0 : w8.cell? ⟨gh, 0, none⟩ = some (.int .i64 (nq : Nat)) := HB8.out.cell 0
            have k1 : w8.cell? ⟨gh, 1, none⟩ = some (.slice AH n9 cH) := HB8.out.cell 1
            have g0 : w8.cell? ⟨gg, 0, none⟩ = some (.int .i64 f9) := HG8.out.cell 0
            have g1 : w8.cell? ⟨gg, 1, none⟩ = some (.slice AG n9 cG) := HG8.out.cell 1
            have hwf := HWF.out
            have hwe := HWE.out
            go_wp2
            go_loopg [117] n9 (fun g iv wr => ∃ cq : Nat, cq ≤ n9 ∧ g = n9 - cq ∧ iv = .int .i64 (cq : Nat) ∧ wr = w8)
            case atStart => exact ⟨0, by omega, rfl, rfl, rfl⟩
            case round =>
              obtain ⟨cq, hcn, rfl, rfl, hwr⟩ := hrel
              obtain rfl : w8 = wr := hwr.symm
              clear hwf hwe
              by_cases hlc : cq < n9
              · obtain ⟨xq, hxq⟩ : ∃ xq, q[cq]? = some xq := ⟨_, List.getElem?_eq_getElem (by have := HN9.out; omega)⟩
                have hcase := HQ2.out.2 cq xq hxq
                obtain ⟨bH, oH, rfl, _, hcH⟩ := HRH8.out.2 (by have := HN9.out; simp [intsV]; omega)
                obtain ⟨bG, oG, rfl, _, hcG⟩ := HRG8.out.2 (by have := HL9.out; simp [intsV]; omega)
                have m1 : w8.cell? ⟨bH, oH + cq, none⟩ = some (.int .i64 xq) := hcH cq _ (by unfold intsV; rw [List.getElem?_map, hxq]; rfl)
                have m2 : w8.cell? ⟨bG, oG + cq, none⟩ = some (.int .i64 (sh (bq : Int) xq)) := hcG cq _ (by unfold intsV; rw [← HQ9.out, List.getElem?_map, List.getElem?_map, hxq]; rfl)
                have hlt3 : (cq : Int) < (n9 : Int) := by omega
                have hwc : IntKind.i64.wrap ((cq : Int) + 1) = (cq : Int) + 1 := wrap_id (by omega) (by have := HQ2.out.1; have := HN9.out; have := HOK.out.r.few; omega)
                clear hcH hcG hxq
                rcases hcase with rfl | ⟨hc1, hc2⟩
                · have hs1 : sh (bq : Int) (-1) = -1 := rfl
                  rw [hs1] at m2
                  go_wp2
                  go_roundg (n9 - (cq + 1))
                  case measure => omega
                  case rel => exact ⟨cq + 1, by omega, rfl, by go_num, rfl⟩
                · have hs1 : sh (bq : Int) xq = xq + (bq : Int) := sh_pos (by omega)
                  rw [hs1] at m2
                  have hx0 : ¬ xq < 0 := by omega
                  have hx1 : (0 : Int) ≤ xq := by omega
                  have hwx : IntKind.i64.wrap (xq + (bq : Int)) = xq + (bq : Int) := wrap_id (by omega) (by have := HJ9.out; have := HK9.out; omega)
                  clear hc1 hc2
                  go_wp2
                  go_roundg (n9 - (cq + 1))
                  case measure => omega
                  case rel => exact ⟨cq + 1, by omega, rfl, by go_num, rfl⟩
              · obtain rfl : cq = n9 := by omega
                have hlt3 : ¬ (cq : Int) < (cq : Int) := by omega
                go_wp2
                go_ret
                exact ⟨rfl, HX8.out⟩
end Go.Proofs.YtmfdnjddggaeaaaDoor
