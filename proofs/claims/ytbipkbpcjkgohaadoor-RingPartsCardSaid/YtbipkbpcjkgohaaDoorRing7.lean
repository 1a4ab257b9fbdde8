/- The law RingParts walked. -/
import Derived.Test.YtbipkbpcjkgohaaDoorRing4
import Derived.Test.YtbipkbpcjkgohaaDoorDagS
namespace Go.Proofs.YtbipkbpcjkgohaaDoor
open Go Go.RowKit

theorem partsSkip (skip : Int) : ∃ K : Nat, wrap64 ((IntKind.u64.wrap skip).tmod 64) = (K : Int) ∧ K < 64 := by
  obtain ⟨u, hu, hu0⟩ : ∃ u : Int, IntKind.u64.wrap skip = u ∧ 0 ≤ u := ⟨_, rfl, by rw [IntKind.wrap_u64]; omega⟩
  rw [hu, Int.tmod_eq_emod_of_nonneg hu0]
  refine ⟨(u % 64).toNat, ?_, by omega⟩
  rw [← IntWalk.i64_left, wrap_id (x := u % 64) (by omega) (by omega)]
  omega

set_option maxHeartbeats 2000000 in
set_option maxRecDepth 20000 in
theorem lawParts (l : List UInt8) (A : Option Addr) (n c : Nat) (skip n0 n1 : Int) (w : World) (hr : Rd w 1 A n (bytesV l)) (hc : n ≤ c) :
    Calls Tryd.prog 4 #[.slice A n c, .int .i64 skip, .agg #[.int .i64 n0, .int .i64 n1]] w fun e w' => e = .returned (.bool true) ∧ Ext w w' := by
  obtain ⟨K, hK, hK64⟩ := partsSkip skip
  have HK := Lib.hid hK
  clear hK
  go_enter Tryd.func4, Tryd.ntmps4
  by_cases hg : (60 : Int) < n ∨ n0 < 0 ∨ 100 < n0 ∨ n1 < 0 ∨ 100 < n1
  · have hg' : (60 : Int) < n ∨ (¬ (60 : Int) < n ∧ n0 < 0) ∨ (¬ (60 : Int) < n ∧ ¬ n0 < 0 ∧ 100 < n0) ∨ (¬ (60 : Int) < n ∧ ¬ n0 < 0 ∧ ¬ 100 < n0 ∧ n1 < 0) ∨ (¬ (60 : Int) < n ∧ ¬ n0 < 0 ∧ ¬ 100 < n0 ∧ ¬ n1 < 0 ∧ 100 < n1) := by omega
    clear hg
    rcases hg' with g1 | ⟨g1, g2⟩ | ⟨g1, g2, g3⟩ | ⟨g1, g2, g3, g4⟩ | ⟨g1, g2, g3, g4, g5⟩
    all_goals
      go_wp2_with (go_at_call 14; refine (ringAlive _).mono ?_; rintro e w1 ⟨rfl, hb1⟩; have hB1 := (Blk.newL w 38 [.int .i64 n0, .int .i64 n1]).keep hb1; have d0 : w1.cell? ⟨w.heap.size, 0, none⟩ = some (.int .i64 n0) := hB1.cell 0; have d1 : w1.cell? ⟨w.heap.size, 1, none⟩ = some (.int .i64 n1) := hB1.cell 1; have hbw := ((Below.refl _ w).alloc (Nat.le_refl _) _).trans (hb1.mono (by simp)); clear hb1 hB1)
      go_ret
      exact ⟨rfl, hbw⟩
  · have g1 : ¬ (60 : Int) < n := by omega
    have g2 : ¬ n0 < 0 := by omega
    have g3 : ¬ 100 < n0 := by omega
    have g4 : ¬ n1 < 0 := by omega
    have g5 : ¬ 100 < n1 := by omega
    clear hg
    go_wp2_with (first
      | (go_at_call 16; refine (ringNew 64 _ (by omega) (by omega)).mono ?_; rintro e w3 ⟨p2, r2, rfl, hs, hb3, hp3, hg3⟩; have hq' := hq.keep hb3)
      | (go_at_call 16; refine (ringNew 64 _ (by omega) (by omega)).mono ?_; rintro e w2 ⟨p, g, rfl, hq, hb2, hp2, hg2⟩)
      | (go_at_call 14; refine (ringAlive _).mono ?_; rintro e w1 ⟨rfl, hb1⟩; have hB1 := (Blk.newL w 38 [.int .i64 n0, .int .i64 n1]).keep hb1; have d0 : w1.cell? ⟨w.heap.size, 0, none⟩ = some (.int .i64 n0) := hB1.cell 0; have d1 : w1.cell? ⟨w.heap.size, 1, none⟩ = some (.int .i64 n1) := hB1.cell 1))
    rw [HK.out]
    have hx1 : w.heap.size < w1.heap.size := hB1.lt
    have hx2 := hb2.size
    have hx3 := hb3.size
    have hbw : Ext w w3 := (((Below.refl _ w).alloc (Nat.le_refl _) _).trans (hb1.mono (by simp))).trans ((hb2.mono (by omega)).trans (hb3.mono (by omega)))
    have hB3 : Blk w3 w.heap.size 38 [.int .i64 n0, .int .i64 n1] := (hB1.keep hb2).keep hb3
    have hpg := hq'.ne
    have hpr := hs.ne
    have hl1 := hq.pt.lt
    have hl2 := hq.sl.lt
    have hl3 := hs.pt.lt
    have hl4 := hs.sl.lt
    have hrd3 := hr.keep hbw
    have hap1 := hr.apart (g := g) (by omega)
    have hap2 := hr.apart (g := r2) (by omega)
    clear d0 d1 hB1 hb1 hb2 hb3 hq HK
    go_loopw [63] (fun i wr => ∃ (k went f : Nat) (s : List UInt8), k ≤ K ∧ i = .int .i64 k ∧ RingAt wr p g 64 [] went f s ∧ went ≤ k ∧ Chg [p, g] w3 wr) (fun i _ => K - (intOf i).toNat)
    case atStart => exact ⟨0, 0, 0, _, Nat.zero_le _, rfl, hq', Nat.le_refl _, Chg.refl _ _⟩
    case round =>
      obtain ⟨k, went, f, s, hk, rfl, hq, hw, hcr⟩ := hrel
      by_cases hlt : k < K
      · have hra : Rd (wr.alloc (.cells #[.int .u8 1] 5)) 1 (some ⟨wr.heap.size, 0, none⟩) 1 (bytesV [1]) := rd_newB wr [1] 5 (0, 0)
        have hgl := hq.sl.lt
        go_wp2_with (first
          | (go_at_call 21; refine (ringDrop _ 1 1 hq4 (by simp)).mono ?_; rintro e w5 ⟨rfl, hq5, hc5⟩)
          | (go_at_call 17; refine (ringPut (l := [1]) _ 1 (hq.keep (Ext.alloc1 _ _)) hra (by omega) (fun _ b o v e => by cases e; omega) (by simp) (by simp; omega) (by simp)).mono ?_; rintro e w4 ⟨rfl, ⟨s4, hq4⟩, hc4⟩; clear hra; simp only [List.nil_append, List.take_succ_cons, List.take_zero] at hq4))
        go_roundw
        case rel => exact ⟨k + 1, went + 1, _, s4, by omega, by go_num, hq5, by omega, ((hcr.alloc _).trans hc4).trans (hc5.mono (by simp))⟩
        case measure => simp [intOf]; omega
      · obtain rfl : k = K := by omega
        have hln : l.length = n := hr.len_bytes
        obtain ⟨a, b, d, rfl, ha, hb⟩ : ∃ a b d, l = a ++ (b ++ d) ∧ a.length = min n0.toNat n ∧ b.length = min n1.toNat (n - min n0.toNat n) := by
          refine ⟨l.take (min n0.toNat n), (l.drop (min n0.toNat n)).take (min n1.toNat (n - min n0.toNat n)), (l.drop (min n0.toNat n)).drop (min n1.toNat (n - min n0.toNat n)), by rw [List.take_append_drop, List.take_append_drop], by simp; omega, by simp; omega⟩
        have hlen : a.length + (b.length + d.length) = n := by simpa using hln
        have hs1 : RingAt wr p2 r2 64 [] 0 0 (List.replicate 64 0) := hs.chg hcr (by simp; omega) (by simp; omega)
        have hrd4 : Rd wr 1 A n (bytesV (a ++ (b ++ d))) := hrd3.chg hcr (fun h b o v e => by
          have h1 := hr.apart (g := p) (by omega) h b o v e
          have h2 := hap1 h b o v e
          simp; exact ⟨h1, h2⟩)
        have hB4 : Blk wr w.heap.size 38 [.int .i64 n0, .int .i64 n1] := hB3.chg hcr (by simp; omega)
        have htk : (a ++ (b ++ d)).take n = a ++ (b ++ d) := List.take_of_length_le (by simp; omega)
        have hm1 : a.length = min n0.toNat (a ++ (b ++ d)).length := by simp; omega
        have hm2 : b.length = min n1.toNat (b ++ d).length := by simp; omega
        have hm3 : (a ++ b).length = min (n0 + n1).toNat (a ++ (b ++ d)).length := by simp; omega
        have hsz : a.length + b.length ≤ 9223372036854775807 := by omega
        have HLN := Lib.hid hlen
        have HTK := Lib.hid htk
        have HM1 := Lib.hid hm1
        have HM2 := Lib.hid hm2
        have HM3 := Lib.hid hm3
        have hn64 : n ≤ 60 := by omega
        clear hln hlen ha hb hrd3 hB3 htk hm1 hm2 hm3
        go_wp2_with (first
          | (go_at_call 19; refine (ringTake _ n1 b.length hq6 HM2.out).mono ?_; rintro e w7 ⟨v7, rfl, hg7, hq7, hc7⟩; rw [List.take_left] at hg7; rw [List.drop_left] at hq7; obtain ⟨A7, rfl, hrd7⟩ := hg7.rd; have hcv7 := conv_str (P := Tryd.prog) (c := b.length) Tryd.underlying31 Tryd.underlying5 Tryd.underlying9 hrd7; clear hg7; have hs7 := hs6.chg hc7 (by simp; omega) (by simp; omega); have hB7 : Blk w7 w.heap.size 38 [.int .i64 n0, .int .i64 n1] := hB6.chg hc7 (by simp; omega))
          | (go_at_call 19; refine (ringTake _ n0 a.length hq5 HM1.out).mono ?_; rintro e w6 ⟨v6, rfl, hg6, hq6, hc6⟩; rw [List.take_left] at hg6; rw [List.drop_left] at hq6; obtain ⟨A6, rfl, hrd6⟩ := hg6.rd; have hcv6 := conv_str (P := Tryd.prog) (c := a.length) Tryd.underlying31 Tryd.underlying5 Tryd.underlying9 hrd6; clear hg6; have hs6 := hs5.chg hc6 (by simp; omega) (by simp; omega); have hB6 : Blk w6 w.heap.size 38 [.int .i64 n0, .int .i64 n1] := hB5.chg hc6 (by simp; omega); have d1 : w6.cell? ⟨w.heap.size, 1, none⟩ = some (.int .i64 n1) := hB6.cell 1)
          | (go_at_call 17; refine (ringPut _ n hs2 hrd5 hc hap2 (by omega) (by simp; omega) (by simp; omega)).mono ?_; rintro e w5 ⟨rfl, ⟨s5, hs5⟩, hc5⟩; rw [List.nil_append, HTK.out] at hs5; have hq5 := hq4.chg hc5 (by simp; omega) (by simp; omega); have hB5 : Blk w5 w.heap.size 38 [.int .i64 n0, .int .i64 n1] := (hB4.chg hc4 (by simp; omega)).chg hc5 (by simp; omega); have d0 : w5.cell? ⟨w.heap.size, 0, none⟩ = some (.int .i64 n0) := hB5.cell 0)
          | (go_at_call 17; refine (ringPut _ n hq hrd4 hc hap1 (by omega) (by simp; omega) (by simp; omega)).mono ?_; rintro e w4 ⟨rfl, ⟨s4, hq4⟩, hc4⟩; rw [List.nil_append, HTK.out] at hq4; have hs2 := hs1.chg hc4 (by simp; omega) (by simp; omega); have hrd5 : Rd w4 1 A n (bytesV (a ++ (b ++ d))) := hrd4.chg hc4 (fun h b o v e => by simp; exact ⟨hr.apart (g := p) (by omega) h b o v e, hap1 h b o v e⟩)))
        have hfin : ∀ w', Chg [p2] w7 w' → Ext w w' := fun w' h => by
          have c4 : Chg [p, g, p2, r2] w3 w7 := (((hcr.mono (by simp)).trans (hc4.mono (by simp))).trans (hc5.mono (by simp))).trans ((hc6.mono (by simp)).trans (hc7.mono (by simp)))
          exact (c4.trans (h.mono (by simp))).below (B := w.heap.size) hbw (by omega) (by simp; omega)
        have hta : List.take (a ++ b).length (a ++ (b ++ d)) = a ++ b := by rw [← List.append_assoc, List.take_left]
        have hdr : List.drop (a ++ b).length (a ++ (b ++ d)) = d := by rw [← List.append_assoc, List.drop_left]
        have HTA := Lib.hid hta
        have HDR := Lib.hid hdr
        have HFIN := Lib.hid hfin
        clear hta hdr hfin hc4 hc5 hc6 hc7 hq4 hs2 hrd5 hs5 hq5 hB5 d0 hq6 hrd6 hcv6 hs6 hB6 d1 hrd7 hcv7 hcr hs1 hrd4 hB4 hr hap1 hap2
        generalize w.heap.size = wh at *
        -- DAG RingParts18
        refine wp_region_dagS (E := Chg [p2]) (F := Ext) (z := 7) (late := [8, 9, 10, 11, 12, 13, 14, 15, 16, 17, 18, 19, 20, 21, 22, 23, 24, 25, 26]) (w0 := w7) (Φ := fun i v w => match i with | 0 => (v = .string ⟨(a ++ b).toArray⟩) | 1 => (v = .pointer (some ⟨p2, 0, none⟩)) | 2 => (v = .pointer (some ⟨wh, 0, none⟩)) | 3 => (v = .int .i64 n0) | 4 => (v = .pointer (some ⟨wh, 1, none⟩)) | 5 => (v = .int .i64 n1) | 6 => (v = .int .i64 (n0 + n1)) | 7 => ((∃ A, v = .slice A (a.length + b.length) (a.length + b.length) ∧ Rd w 1 A (a.length + b.length) (bytesV (a ++ b))) ∧ RingAt w p2 r2 64 d (0 + (a ++ b).length) ((0 + (a ++ b).length) % 64) s5) | 8 => (v = .string ⟨(a ++ b).toArray⟩ ∧ RingAt w p2 r2 64 d (0 + (a ++ b).length) ((0 + (a ++ b).length) % 64) s5) | 9 => (v = .bool true ∧ RingAt w p2 r2 64 d (0 + (a ++ b).length) ((0 + (a ++ b).length) % 64) s5) | 10 => (v = .bool true ∧ RingAt w p2 r2 64 d (0 + (a ++ b).length) ((0 + (a ++ b).length) % 64) s5) | 11 => (v = .pointer (some ⟨p, 0, none⟩)) | 12 => (v = .int .i64 d.length) | 13 => (v = .pointer (some ⟨p2, 0, none⟩)) | 14 => (v = .int .i64 d.length) | 15 => (v = .bool true) | 16 => (v = .bool true ∧ RingAt w p2 r2 64 d (0 + (a ++ b).length) ((0 + (a ++ b).length) % 64) s5) | 17 => (v = .bool true ∧ RingAt w p2 r2 64 d (0 + (a ++ b).length) ((0 + (a ++ b).length) % 64) s5) | 18 => (v = .pointer (some ⟨p, 0, none⟩)) | 19 => (∃ A, v = .slice A d.length d.length ∧ Rd w 1 A d.length (bytesV d)) | 20 => (v = .string ⟨d.toArray⟩) | 21 => (v = .pointer (some ⟨p2, 0, none⟩)) | 22 => (∃ A, v = .slice A d.length d.length ∧ Rd w 1 A d.length (bytesV d)) | 23 => (v = .string ⟨d.toArray⟩) | 24 => (v = .bool true) | 25 => (v = .bool true) | 26 => (v = .bool true) | _ => True) (show Tryd.prog.follows .mixedOrders = true from Checked.mixed Tryd.checked) 123 rfl (by decide +kernel) (by decide +kernel) ?_ (by decide +kernel) ?_ ((Below.refl _ _).drew) ((Chg.refl _ _).drew) ?_ ?_ ?_ ⟨?_, ?_, ?_, ?_, ?_, ?_, ?_, ?_, ?_, ?_, ?_, ?_, ?_, ?_, ?_, ?_, ?_, ?_, ?_, ?_, ?_, ?_, ?_, ?_, ?_, ?_, ?_, trivial⟩ ?_
        · intro i v w w' h hE
          match i, h with
          | 0, h => exact h
          | 1, h => exact h
          | 2, h => exact h
          | 3, h => exact h
          | 4, h => exact h
          | 5, h => exact h
          | 6, h => exact h
          | 7, h => exact (by obtain ⟨⟨A, h1, h2⟩, h3⟩ := h; exact ⟨⟨A, h1, h2.keep hE⟩, h3.keep hE⟩)
          | 8, h => exact ⟨h.1, h.2.keep hE⟩
          | 9, h => exact ⟨h.1, h.2.keep hE⟩
          | 10, h => exact ⟨h.1, h.2.keep hE⟩
          | 11, h => exact h
          | 12, h => exact h
          | 13, h => exact h
          | 14, h => exact h
          | 15, h => exact h
          | 16, h => exact ⟨h.1, h.2.keep hE⟩
          | 17, h => exact ⟨h.1, h.2.keep hE⟩
          | 18, h => exact h
          | 19, h => exact (by obtain ⟨A, h1, h2⟩ := h; exact ⟨A, h1, h2.keep hE⟩)
          | 20, h => exact h
          | 21, h => exact h
          | 22, h => exact (by obtain ⟨A, h1, h2⟩ := h; exact ⟨A, h1, h2.keep hE⟩)
          | 23, h => exact h
          | 24, h => exact h
          | 25, h => exact h
          | 26, h => exact h
          | _ + 27, _ => trivial
        · intro i v w w' hiz hla h hE
          match i, hiz, hla, h with
          | 0, _, _, h => exact h
          | 1, _, _, h => exact h
          | 2, _, _, h => exact h
          | 3, _, _, h => exact h
          | 4, _, _, h => exact h
          | 5, _, _, h => exact h
          | 6, _, _, h => exact h
          | 7, hiz, _, _ => exact absurd rfl hiz
          | 8, _, hla, _ => exact absurd (by decide) hla
          | 9, _, hla, _ => exact absurd (by decide) hla
          | 10, _, hla, _ => exact absurd (by decide) hla
          | 11, _, hla, _ => exact absurd (by decide) hla
          | 12, _, hla, _ => exact absurd (by decide) hla
          | 13, _, hla, _ => exact absurd (by decide) hla
          | 14, _, hla, _ => exact absurd (by decide) hla
          | 15, _, hla, _ => exact absurd (by decide) hla
          | 16, _, hla, _ => exact absurd (by decide) hla
          | 17, _, hla, _ => exact absurd (by decide) hla
          | 18, _, hla, _ => exact absurd (by decide) hla
          | 19, _, hla, _ => exact absurd (by decide) hla
          | 20, _, hla, _ => exact absurd (by decide) hla
          | 21, _, hla, _ => exact absurd (by decide) hla
          | 22, _, hla, _ => exact absurd (by decide) hla
          | 23, _, hla, _ => exact absurd (by decide) hla
          | 24, _, hla, _ => exact absurd (by decide) hla
          | 25, _, hla, _ => exact absurd (by decide) hla
          | 26, _, hla, _ => exact absurd (by decide) hla
          | _ + 27, _, _, _ => trivial
        · exact fun w w' h h' => h.trans (.of_ext h')
        · exact fun w w' h h' => h.trans h'
        · exact fun w w' h h' => (Chg.of_ext h).trans h'
        · -- 0: t97 := move t11 
          intro ac wx hE hF hsz hdf h
          have e11 : ac.tmps[11]? = some (.string ⟨(a ++ b).toArray⟩) := by obtain ⟨v, h1, h2⟩ := h 11 (by decide +kernel); exact h1.trans (h2.symm.trans rfl)
          clear h hsz hdf
          go_wp2
          exact ⟨_, rfl, rfl, Ext.refl _⟩
        · -- 1: t98 := move t9 
          intro ac wx hE hF hsz hdf h
          have e9 : ac.tmps[9]? = some (.pointer (some ⟨p2, 0, none⟩)) := by obtain ⟨v, h1, h2⟩ := h 9 (by decide +kernel); exact h1.trans (h2.symm.trans rfl)
          clear h hsz hdf
          go_wp2
          exact ⟨_, rfl, rfl, Ext.refl _⟩
        · -- 2: t99 := indexAddr 38 t5 (const (0:i64)) 
          intro ac wx hE hF hsz hdf h
          have e5 : ac.tmps[5]? = some (.pointer (some ⟨wh, 0, none⟩)) := by obtain ⟨v, h1, h2⟩ := h 5 (by decide +kernel); exact h1.trans (h2.symm.trans rfl)
          clear h hsz hdf
          go_wp2
          exact ⟨_, rfl, rfl, Ext.refl _⟩
        · -- 3: t100 := load 3 t99 
          intro ac wx hE hF hsz hdf h
          have e99 : ac.tmps[99]? = some (.pointer (some ⟨wh, 0, none⟩)) := by obtain ⟨v, h1, h2⟩ := h 99 (by decide +kernel); rw [h1]; exact congrArg some h2
          clear h hsz hdf
          have hB8 : Blk wx wh 38 [.int .i64 n0, .int .i64 n1] := hB7.chg hE (by simp; omega); have d0 : wx.cell? ⟨wh, 0, none⟩ = some (.int .i64 n0) := hB8.cell 0
          go_wp2
          exact ⟨_, rfl, rfl, Ext.refl _⟩
        · -- 4: t101 := indexAddr 38 t5 (const (1:i64)) 
          intro ac wx hE hF hsz hdf h
          have e5 : ac.tmps[5]? = some (.pointer (some ⟨wh, 0, none⟩)) := by obtain ⟨v, h1, h2⟩ := h 5 (by decide +kernel); exact h1.trans (h2.symm.trans rfl)
          clear h hsz hdf
          go_wp2
          exact ⟨_, rfl, rfl, Ext.refl _⟩
        · -- 5: t102 := load 3 t101 
          intro ac wx hE hF hsz hdf h
          have e101 : ac.tmps[101]? = some (.pointer (some ⟨wh, 1, none⟩)) := by obtain ⟨v, h1, h2⟩ := h 101 (by decide +kernel); rw [h1]; exact congrArg some h2
          clear h hsz hdf
          have hB8 : Blk wx wh 38 [.int .i64 n0, .int .i64 n1] := hB7.chg hE (by simp; omega); have d0 : wx.cell? ⟨wh, 1, none⟩ = some (.int .i64 n1) := hB8.cell 1
          go_wp2
          exact ⟨_, rfl, rfl, Ext.refl _⟩
        · -- 6: t103 := binOp BinOp.add 3 t100 t102 3 
          intro ac wx hE hF hsz hdf h
          have e100 : ac.tmps[100]? = some (.int .i64 n0) := by obtain ⟨v, h1, h2⟩ := h 100 (by decide +kernel); rw [h1]; exact congrArg some h2
          have e102 : ac.tmps[102]? = some (.int .i64 n1) := by obtain ⟨v, h1, h2⟩ := h 102 (by decide +kernel); rw [h1]; exact congrArg some h2
          clear h hsz hdf
          go_wp2
          exact ⟨_, rfl, rfl, Ext.refl _⟩
        · -- 7: t104 := call { value (Operand.func 19), args := #[t98, t103], argTypes := #[25, 3] } 
          intro ac wx hE hF hsz hdf h
          have e98 : ac.tmps[98]? = some (.pointer (some ⟨p2, 0, none⟩)) := by obtain ⟨v, h1, h2⟩ := h 98 (by decide +kernel); rw [h1]; exact congrArg some h2
          have e103 : ac.tmps[103]? = some (.int .i64 (n0 + n1)) := by obtain ⟨v, h1, h2⟩ := h 103 (by decide +kernel); rw [h1]; exact congrArg some h2
          clear h hsz hdf
          have hsx := hs7.keep (hF (.inl rfl))
          go_wp2_with ((go_at_call 19; refine (ringTake _ (n0 + n1) (a ++ b).length hsx HM3.out).mono ?_; rintro e w8 ⟨v8, rfl, hg8, hq8, hc8⟩; rw [HTA.out] at hg8; rw [HDR.out] at hq8; have hx8 := hg8.rd; rw [List.length_append] at hx8; obtain ⟨A8, rfl, hrd8⟩ := hx8; have HRD := Lib.hid hrd8; clear hrd8 hg8))
          exact ⟨_, rfl, ⟨⟨A8, rfl, HRD.out⟩, hq8⟩, hc8⟩
        · -- 8: t105 := convert 31 9 t104 
          intro ac wx hE hF hsz hdf h
          obtain ⟨v104, e104, s104⟩ : ∃ v, ac.tmps[104]? = some v ∧ ((∃ A, v = .slice A (a.length + b.length) (a.length + b.length) ∧ Rd wx 1 A (a.length + b.length) (bytesV (a ++ b))) ∧ RingAt wx p2 r2 64 d (0 + (a ++ b).length) ((0 + (a ++ b).length) % 64) s5) := h 104 (by decide +kernel)
          clear h hsz hdf
          obtain ⟨⟨A8, rfl, hrd8⟩, s105⟩ := s104; have hcv := conv_str (P := Tryd.prog) (c := a.length + b.length) Tryd.underlying31 Tryd.underlying5 Tryd.underlying9 hrd8
          go_wp2
          exact ⟨_, rfl, ⟨rfl, s105⟩, Ext.refl _⟩
        · -- 9: t106 := binOp BinOp.eql 9 t97 t105 9 
          intro ac wx hE hF hsz hdf h
          have e97 : ac.tmps[97]? = some (.string ⟨(a ++ b).toArray⟩) := by obtain ⟨v, h1, h2⟩ := h 97 (by decide +kernel); rw [h1]; exact congrArg some h2
          obtain ⟨e105, s105⟩ : ac.tmps[105]? = some (.string ⟨(a ++ b).toArray⟩) ∧ (RingAt wx p2 r2 64 d (0 + (a ++ b).length) ((0 + (a ++ b).length) % 64) s5) := by obtain ⟨v, h1, h2, h3⟩ := h 105 (by decide +kernel); exact ⟨h1.trans (congrArg some h2), h3⟩
          clear h hsz hdf
          go_wp2
          exact ⟨_, rfl, ⟨by simp, s105⟩, Ext.refl _⟩
        · -- 10: t107 := move t106 
          intro ac wx hE hF hsz hdf h
          obtain ⟨e106, s106⟩ : ac.tmps[106]? = some (.bool true) ∧ (RingAt wx p2 r2 64 d (0 + (a ++ b).length) ((0 + (a ++ b).length) % 64) s5) := by obtain ⟨v, h1, h2, h3⟩ := h 106 (by decide +kernel); exact ⟨h1.trans (congrArg some h2), h3⟩
          clear h hsz hdf
          go_wp2
          exact ⟨_, rfl, ⟨rfl, s106⟩, Ext.refl _⟩
        · -- 11: t108 := move t7 (10, True)
          intro ac wx hE hF hsz hdf h
          have e7 : ac.tmps[7]? = some (.pointer (some ⟨p, 0, none⟩)) := by obtain ⟨v, h1, h2⟩ := h 7 (by decide +kernel); exact h1.trans (h2.symm.trans rfl)
          obtain ⟨e107, s107⟩ : ac.tmps[107]? = some (.bool true) ∧ (RingAt wx p2 r2 64 d (0 + (a ++ b).length) ((0 + (a ++ b).length) % 64) s5) := by obtain ⟨v, h1, h2, h3⟩ := h 107 (by decide +kernel); exact ⟨h1.trans (congrArg some h2), h3⟩
          clear h hsz hdf
          go_wp2
          exact ⟨_, rfl, rfl, Ext.refl _⟩
        · -- 12: t109 := call { value (Operand.func 22), args := #[t108], argTypes := #[25] } (10, True)
          intro ac wx hE hF hsz hdf h
          have e108 : ac.tmps[108]? = some (.pointer (some ⟨p, 0, none⟩)) := by obtain ⟨v, h1, h2⟩ := h 108 (by decide +kernel); rw [h1]; exact congrArg some h2
          obtain ⟨e107, s107⟩ : ac.tmps[107]? = some (.bool true) ∧ (RingAt wx p2 r2 64 d (0 + (a ++ b).length) ((0 + (a ++ b).length) % 64) s5) := by obtain ⟨v, h1, h2, h3⟩ := h 107 (by decide +kernel); exact ⟨h1.trans (congrArg some h2), h3⟩
          clear h hsz hdf
          have hqx := hq7.chg hE (by simp; omega) (by simp; omega)
          go_wp2_with ((go_at_call 22; refine (ringLen _ hqx).mono ?_; rintro e w8 ⟨rfl, rfl⟩))
          exact ⟨_, rfl, rfl, (Below.refl _ _).drew⟩
        · -- 13: t110 := move t9 (10, True)
          intro ac wx hE hF hsz hdf h
          have e9 : ac.tmps[9]? = some (.pointer (some ⟨p2, 0, none⟩)) := by obtain ⟨v, h1, h2⟩ := h 9 (by decide +kernel); exact h1.trans (h2.symm.trans rfl)
          obtain ⟨e107, s107⟩ : ac.tmps[107]? = some (.bool true) ∧ (RingAt wx p2 r2 64 d (0 + (a ++ b).length) ((0 + (a ++ b).length) % 64) s5) := by obtain ⟨v, h1, h2, h3⟩ := h 107 (by decide +kernel); exact ⟨h1.trans (congrArg some h2), h3⟩
          clear h hsz hdf
          go_wp2
          exact ⟨_, rfl, rfl, Ext.refl _⟩
        · -- 14: t111 := call { value (Operand.func 22), args := #[t110], argTypes := #[25] } (10, True)
          intro ac wx hE hF hsz hdf h
          have e110 : ac.tmps[110]? = some (.pointer (some ⟨p2, 0, none⟩)) := by obtain ⟨v, h1, h2⟩ := h 110 (by decide +kernel); rw [h1]; exact congrArg some h2
          obtain ⟨e107, s107⟩ : ac.tmps[107]? = some (.bool true) ∧ (RingAt wx p2 r2 64 d (0 + (a ++ b).length) ((0 + (a ++ b).length) % 64) s5) := by obtain ⟨v, h1, h2, h3⟩ := h 107 (by decide +kernel); exact ⟨h1.trans (congrArg some h2), h3⟩
          clear h hsz hdf
          go_wp2_with ((go_at_call 22; refine (ringLen _ s107).mono ?_; rintro e w8 ⟨rfl, rfl⟩))
          exact ⟨_, rfl, rfl, (Below.refl _ _).drew⟩
        · -- 15: t112 := binOp BinOp.eql 3 t109 t111 3 (10, True)
          intro ac wx hE hF hsz hdf h
          have e109 : ac.tmps[109]? = some (.int .i64 d.length) := by obtain ⟨v, h1, h2⟩ := h 109 (by decide +kernel); rw [h1]; exact congrArg some h2
          have e111 : ac.tmps[111]? = some (.int .i64 d.length) := by obtain ⟨v, h1, h2⟩ := h 111 (by decide +kernel); rw [h1]; exact congrArg some h2
          obtain ⟨e107, s107⟩ : ac.tmps[107]? = some (.bool true) ∧ (RingAt wx p2 r2 64 d (0 + (a ++ b).length) ((0 + (a ++ b).length) % 64) s5) := by obtain ⟨v, h1, h2, h3⟩ := h 107 (by decide +kernel); exact ⟨h1.trans (congrArg some h2), h3⟩
          clear h hsz hdf
          go_wp2
          exact ⟨_, rfl, by simp, Ext.refl _⟩
        · -- 16: t113 := pick t107 t112 (const (Value.bool false)) 
          intro ac wx hE hF hsz hdf h
          obtain ⟨e107, s107⟩ : ac.tmps[107]? = some (.bool true) ∧ (RingAt wx p2 r2 64 d (0 + (a ++ b).length) ((0 + (a ++ b).length) % 64) s5) := by obtain ⟨v, h1, h2, h3⟩ := h 107 (by decide +kernel); exact ⟨h1.trans (congrArg some h2), h3⟩
          have e112 : ac.tmps[112]? = some (.bool true) := by obtain ⟨v, h1, h2⟩ := h 112 (by decide +kernel); rw [h1]; exact congrArg some h2
          clear h hsz hdf
          go_wp2
          exact ⟨_, rfl, ⟨rfl, s107⟩, Ext.refl _⟩
        · -- 17: t114 := move t113 
          intro ac wx hE hF hsz hdf h
          obtain ⟨e113, s113⟩ : ac.tmps[113]? = some (.bool true) ∧ (RingAt wx p2 r2 64 d (0 + (a ++ b).length) ((0 + (a ++ b).length) % 64) s5) := by obtain ⟨v, h1, h2, h3⟩ := h 113 (by decide +kernel); exact ⟨h1.trans (congrArg some h2), h3⟩
          clear h hsz hdf
          go_wp2
          exact ⟨_, rfl, ⟨rfl, s113⟩, Ext.refl _⟩
        · -- 18: t115 := move t7 (17, True)
          intro ac wx hE hF hsz hdf h
          have e7 : ac.tmps[7]? = some (.pointer (some ⟨p, 0, none⟩)) := by obtain ⟨v, h1, h2⟩ := h 7 (by decide +kernel); exact h1.trans (h2.symm.trans rfl)
          obtain ⟨e114, s114⟩ : ac.tmps[114]? = some (.bool true) ∧ (RingAt wx p2 r2 64 d (0 + (a ++ b).length) ((0 + (a ++ b).length) % 64) s5) := by obtain ⟨v, h1, h2, h3⟩ := h 114 (by decide +kernel); exact ⟨h1.trans (congrArg some h2), h3⟩
          clear h hsz hdf
          go_wp2
          exact ⟨_, rfl, rfl, Ext.refl _⟩
        · -- 19: t116 := call { value (Operand.func 20), args := #[t115, const (64:i64)], argTypes := #[25, 3] } (17, True)
          intro ac wx hE hF hsz hdf h
          have e115 : ac.tmps[115]? = some (.pointer (some ⟨p, 0, none⟩)) := by obtain ⟨v, h1, h2⟩ := h 115 (by decide +kernel); rw [h1]; exact congrArg some h2
          obtain ⟨e114, s114⟩ : ac.tmps[114]? = some (.bool true) ∧ (RingAt wx p2 r2 64 d (0 + (a ++ b).length) ((0 + (a ++ b).length) % 64) s5) := by obtain ⟨v, h1, h2, h3⟩ := h 114 (by decide +kernel); exact ⟨h1.trans (congrArg some h2), h3⟩
          clear h hsz hdf
          have hqx := hq7.chg hE (by simp; omega) (by simp; omega); have hld : d.length = min (64 : Int).toNat d.length := (by have := HLN.out; omega); have HLD := Lib.hid hld; clear hld
          go_wp2_with ((go_at_call 20; refine (ringPeek _ 64 d.length hqx HLD.out).mono ?_; rintro e w8 ⟨v8, rfl, hg8, hb8⟩; rw [List.take_length] at hg8; obtain ⟨A8, rfl, hrd8⟩ := hg8.rd; have HRD := Lib.hid hrd8; clear hrd8 hg8))
          exact ⟨_, rfl, ⟨A8, rfl, HRD.out⟩, hb8⟩
        · -- 20: t117 := convert 31 9 t116 (17, True)
          intro ac wx hE hF hsz hdf h
          obtain ⟨v116, e116, s116⟩ : ∃ v, ac.tmps[116]? = some v ∧ (∃ A, v = .slice A d.length d.length ∧ Rd wx 1 A d.length (bytesV d)) := h 116 (by decide +kernel)
          obtain ⟨e114, s114⟩ : ac.tmps[114]? = some (.bool true) ∧ (RingAt wx p2 r2 64 d (0 + (a ++ b).length) ((0 + (a ++ b).length) % 64) s5) := by obtain ⟨v, h1, h2, h3⟩ := h 114 (by decide +kernel); exact ⟨h1.trans (congrArg some h2), h3⟩
          clear h hsz hdf
          obtain ⟨A8, rfl, hrd8⟩ := s116; have hcv := conv_str (P := Tryd.prog) (c := d.length) Tryd.underlying31 Tryd.underlying5 Tryd.underlying9 hrd8
          go_wp2
          exact ⟨_, rfl, rfl, Ext.refl _⟩
        · -- 21: t118 := move t9 (17, True)
          intro ac wx hE hF hsz hdf h
          have e9 : ac.tmps[9]? = some (.pointer (some ⟨p2, 0, none⟩)) := by obtain ⟨v, h1, h2⟩ := h 9 (by decide +kernel); exact h1.trans (h2.symm.trans rfl)
          obtain ⟨e114, s114⟩ : ac.tmps[114]? = some (.bool true) ∧ (RingAt wx p2 r2 64 d (0 + (a ++ b).length) ((0 + (a ++ b).length) % 64) s5) := by obtain ⟨v, h1, h2, h3⟩ := h 114 (by decide +kernel); exact ⟨h1.trans (congrArg some h2), h3⟩
          clear h hsz hdf
          go_wp2
          exact ⟨_, rfl, rfl, Ext.refl _⟩
        · -- 22: t119 := call { value (Operand.func 20), args := #[t118, const (64:i64)], argTypes := #[25, 3] } (17, True)
          intro ac wx hE hF hsz hdf h
          have e118 : ac.tmps[118]? = some (.pointer (some ⟨p2, 0, none⟩)) := by obtain ⟨v, h1, h2⟩ := h 118 (by decide +kernel); rw [h1]; exact congrArg some h2
          obtain ⟨e114, s114⟩ : ac.tmps[114]? = some (.bool true) ∧ (RingAt wx p2 r2 64 d (0 + (a ++ b).length) ((0 + (a ++ b).length) % 64) s5) := by obtain ⟨v, h1, h2, h3⟩ := h 114 (by decide +kernel); exact ⟨h1.trans (congrArg some h2), h3⟩
          clear h hsz hdf
          have hld : d.length = min (64 : Int).toNat d.length := (by have := HLN.out; omega); have HLD := Lib.hid hld; clear hld
          go_wp2_with ((go_at_call 20; refine (ringPeek _ 64 d.length s114 HLD.out).mono ?_; rintro e w8 ⟨v8, rfl, hg8, hb8⟩; rw [List.take_length] at hg8; obtain ⟨A8, rfl, hrd8⟩ := hg8.rd; have HRD := Lib.hid hrd8; clear hrd8 hg8))
          exact ⟨_, rfl, ⟨A8, rfl, HRD.out⟩, hb8⟩
        · -- 23: t120 := convert 31 9 t119 (17, True)
          intro ac wx hE hF hsz hdf h
          obtain ⟨v119, e119, s119⟩ : ∃ v, ac.tmps[119]? = some v ∧ (∃ A, v = .slice A d.length d.length ∧ Rd wx 1 A d.length (bytesV d)) := h 119 (by decide +kernel)
          obtain ⟨e114, s114⟩ : ac.tmps[114]? = some (.bool true) ∧ (RingAt wx p2 r2 64 d (0 + (a ++ b).length) ((0 + (a ++ b).length) % 64) s5) := by obtain ⟨v, h1, h2, h3⟩ := h 114 (by decide +kernel); exact ⟨h1.trans (congrArg some h2), h3⟩
          clear h hsz hdf
          obtain ⟨A8, rfl, hrd8⟩ := s119; have hcv := conv_str (P := Tryd.prog) (c := d.length) Tryd.underlying31 Tryd.underlying5 Tryd.underlying9 hrd8
          go_wp2
          exact ⟨_, rfl, rfl, Ext.refl _⟩
        · -- 24: t121 := binOp BinOp.eql 9 t117 t120 9 (17, True)
          intro ac wx hE hF hsz hdf h
          have e117 : ac.tmps[117]? = some (.string ⟨d.toArray⟩) := by obtain ⟨v, h1, h2⟩ := h 117 (by decide +kernel); rw [h1]; exact congrArg some h2
          have e120 : ac.tmps[120]? = some (.string ⟨d.toArray⟩) := by obtain ⟨v, h1, h2⟩ := h 120 (by decide +kernel); rw [h1]; exact congrArg some h2
          obtain ⟨e114, s114⟩ : ac.tmps[114]? = some (.bool true) ∧ (RingAt wx p2 r2 64 d (0 + (a ++ b).length) ((0 + (a ++ b).length) % 64) s5) := by obtain ⟨v, h1, h2, h3⟩ := h 114 (by decide +kernel); exact ⟨h1.trans (congrArg some h2), h3⟩
          clear h hsz hdf
          go_wp2
          exact ⟨_, rfl, by simp, Ext.refl _⟩
        · -- 25: t122 := pick t114 t121 (const (Value.bool false)) 
          intro ac wx hE hF hsz hdf h
          obtain ⟨e114, s114⟩ : ac.tmps[114]? = some (.bool true) ∧ (RingAt wx p2 r2 64 d (0 + (a ++ b).length) ((0 + (a ++ b).length) % 64) s5) := by obtain ⟨v, h1, h2, h3⟩ := h 114 (by decide +kernel); exact ⟨h1.trans (congrArg some h2), h3⟩
          have e121 : ac.tmps[121]? = some (.bool true) := by obtain ⟨v, h1, h2⟩ := h 121 (by decide +kernel); rw [h1]; exact congrArg some h2
          clear h hsz hdf
          go_wp2
          exact ⟨_, rfl, rfl, Ext.refl _⟩
        · -- 26: t6 := assign t122 
          intro ac wx hE hF hsz hdf h
          have e122 : ac.tmps[122]? = some (.bool true) := by obtain ⟨v, h1, h2⟩ := h 122 (by decide +kernel); rw [h1]; exact congrArg some h2
          clear h hsz hdf
          go_wp2
          exact ⟨_, rfl, rfl, Ext.refl _⟩
        · intro ac w9 hE hsz hdf h hrest
          have e6 : ac.tmps[6]? = some (.bool true) := by obtain ⟨v, h1, h2⟩ := h 26 _ rfl; rw [h2 6 rfl]; exact congrArg some h1
          clear h hrest hsz
          have HDF := Lib.hid hdf
          clear hdf
          go_wp2
          refine bodyPost_ret (results_tmp rfl _ _ _) HDF.out ⟨by simp [e6], ?_⟩
          exact HFIN.out _ hE
        -- GAD RingParts18
end Go.Proofs.YtbipkbpcjkgohaaDoor
