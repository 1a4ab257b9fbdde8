/- The law RingKeeps walked. -/
import Derived.Test.YtbipkbpcjkgohaaDoorRing5
namespace Go.Proofs.YtbipkbpcjkgohaaDoor
open Go Go.RowKit

theorem keepsRoom (room : Int) : ∃ R : Nat, wrap64 (1 + wrap64 ((IntKind.u64.wrap room).tmod 64)) = (R : Int) ∧ 1 ≤ R ∧ R ≤ 64 := by
  obtain ⟨u, hu, hu0⟩ : ∃ u : Int, IntKind.u64.wrap room = u ∧ 0 ≤ u := ⟨_, rfl, by rw [IntKind.wrap_u64]; omega⟩
  rw [hu, Int.tmod_eq_emod_of_nonneg hu0]
  refine ⟨(1 + u % 64).toNat, ?_, by omega, by omega⟩
  rw [← IntWalk.i64_left, ← IntWalk.i64_left, wrap_id (x := u % 64) (by omega) (by omega), wrap_id (by omega) (by omega)]
  omega

set_option maxHeartbeats 2000000 in
set_option maxRecDepth 20000 in
theorem lawKeeps (room : Int) (xs : List RAct) (A : Option Addr) (n c : Nat) (w : World) (h : Acts w A n xs) :
    Calls Tryd.prog 3 #[.int .i64 room, .slice A n c] w fun e w' => e = .returned (.bool true) ∧ Ext w w' := by
  obtain ⟨R, hR, hR1, hR2⟩ := keepsRoom room
  have HR := Lib.hid hR
  clear hR
  have hRi : (1 : Int) ≤ R := by omega
  go_enter Tryd.func3, Tryd.ntmps3
  go_wp2_with (first
    | (go_at_call 16; rw [HR.out]; refine (ringNew R _ (by omega) (by omega)).mono ?_; rintro e w3 ⟨p, g, rfl, hq, hb3, hp, hg⟩)
    | (go_at_call 15; refine (ringLong xs _ _ _ _ (h.keep hb1)).mono ?_; rintro e w2 ⟨r, rfl, hb2, hlong⟩; cases r)
    | (go_at_call 14; refine (ringAlive _).mono ?_; rintro e w1 ⟨rfl, hb1⟩))
  rotate_left
  · go_ret
    exact ⟨rfl, hb1.trans hb2⟩
  have hl := hlong (by simp)
  have hbw : Ext w w3 := hb1.trans (hb2.trans hb3)
  have hp' : w.heap.size ≤ p := by have := hb1.size; have := hb2.size; omega
  have hg' : w.heap.size ≤ g := by have := hb1.size; have := hb2.size; omega
  have HL := Lib.hid hl.2
  have hn := hl.1
  clear hlong hl hb1 hb2 hb3 hp hg
  go_loopw [33, 7, 8] (fun i sc sg wr => ∃ (k : Nat) (q : List UInt8) (went f : Nat) (s W : List UInt8), k ≤ n ∧ i = .int .i64 k ∧ sc = .string ⟨(W ++ q).toArray⟩ ∧ sg = .string ⟨W.toArray⟩ ∧ RingAt wr p g R q went f s ∧ W.length = went ∧ went + q.length ≤ k * 100 ∧ Below w.heap.size w wr) (fun i _ _ _ => n - (intOf i).toNat)
  case atStart => exact ⟨0, [], 0, 0, _, [], Nat.zero_le _, rfl, rfl, rfl, hq, rfl, by simp, hbw⟩
  case round =>
    obtain ⟨k, q, went, f, s, W, hk, rfl, rfl, rfl, hq, hW, hcnt, hb⟩ := hrel
    have hlen := h.1
    by_cases hlt : k < n
    · obtain ⟨⟨kd, y, l⟩, hx⟩ : ∃ x, xs[k]? = some x := ⟨_, List.getElem?_eq_getElem (by omega)⟩
      have hl100 : l.length ≤ 100 := HL.out _ (List.mem_of_getElem? hx)
      obtain ⟨b, o, v, rfl, h2, h3, h4, h5, Av, nv, cv, rfl, hnc, hcm, hrd⟩ := h.2 k _ hx
      have hlx : l.length = nv := hrd.len_bytes
      have c3 := (hb.cell (p := ⟨b, _, none⟩) h2).trans h3
      have c4 := (hb.cell (p := ⟨b, _, none⟩) h2).trans h4
      have c5 := (hb.cell (p := ⟨b, _, none⟩) h2).trans h5
      simp only at c3 c4 c5 hrd
      have hpl := hq.pt.lt
      have hgl := hq.sl.lt
      have hql := hq.circ.fits
      have HLEN := Lib.hid hlen
      clear hlen h3 h4 h5
      by_cases hk0 : kd = 0
      · subst hk0
        obtain ⟨l1, l2, rfl, hl1⟩ : ∃ l1 l2, l = l1 ++ l2 ∧ l1.length = min nv (R - q.length) := ⟨l.take (min nv (R - q.length)), l.drop (min nv (R - q.length)), (List.take_append_drop _ _).symm, by simp; omega⟩
        have hnv : nv = l1.length + l2.length := by rw [← hlx]; simp
        have hl1b : l1.length ≤ 100 := by simp at hl100; omega
        have hsz1 : W.length + q.length + l1.length ≤ 9223372036854775807 := by omega
        have hsz2 : W.length + (q.length + l1.length) ≤ 9223372036854775807 := by omega
        have hqs : q.length + l1.length ≤ R := by omega
        have hcut : (l1.length : Int) ≤ cv := by omega
        have HW := Lib.hid hW
        have HL1 := Lib.hid hl1
        have HNV := Lib.hid hnv
        have HLX := Lib.hid hlx
        have hba : Below w.heap.size w (wr.alloc (.cells #[.int .i64 0, .int .i64 y, .slice Av nv cv] 33)) := hb.alloc hb.size _
        have hq1 : RingAt (wr.alloc (.cells #[.int .i64 0, .int .i64 y, .slice Av nv cv] 33)) p g R q went f s := hq.keep (Ext.alloc1 _ _)
        have hcl : (wr.alloc (.cells #[.int .i64 0, .int .i64 y, .slice Av nv cv] 33)).cell? ⟨wr.heap.size, 2, none⟩ = some (.slice Av nv cv) := (Blk.new wr _ _).cell 2
        have hrm := (hrd.takeB (m := l1.length) (by omega))
        rw [List.take_left] at hrm
        have hrk := hrd.keep hba
        have hap := hrd.apart hg'
        have hsm : went + q.length + nv ≤ 1000000 := by omega
        have hnv2 : nv ≤ 1000000 := by omega
        clear hW hl1 hnv hlx
        by_cases hl2 : nv = l1.length
        · subst hl2
          go_wp2_with (first
            | (go_at_call 20; refine (ringPeek _ 100 (q ++ l1).length hq5 (by simp; omega)).mono ?_; rintro e w6 ⟨v6, rfl, hg6, hb6⟩; obtain ⟨A6, rfl, hrd6⟩ := hg6.rd; rw [List.take_length, List.length_append] at hrd6; have hcv6 := conv_str (P := Tryd.prog) (c := q.length + l1.length) Tryd.underlying31 Tryd.underlying5 Tryd.underlying9 hrd6; clear hg6)
            | (go_at_call 17; refine (ringPut (l := l1 ++ l2) _ l1.length hq1 hrk hnc hap hnv2 hsm HL1.out).mono ?_; rintro e w5 ⟨rfl, ⟨s5, hq5⟩, hc5⟩; rw [List.take_left] at hq5; have hb5 := hc5.below hba hba.size (by simp; exact ⟨hp', hg'⟩); have d2 := hc5.cell hcl (by simp; omega); have hcv5 := conv_str (P := Tryd.prog) (c := cv) Tryd.underlying31 Tryd.underlying5 Tryd.underlying9 (hrm.keep hb5); have hcv7 := conv_str (P := Tryd.prog) (c := cv) Tryd.underlying31 Tryd.underlying5 Tryd.underlying9 (hrm.keep hb5.drew.drew)))
          go_roundw
          case rel => exact ⟨k + 1, q ++ l1, went, f, s5, W, by omega, by go_num, by simp, rfl, hq5.keep hb6, HW.out, by rw [List.length_append]; omega, hb5.trans (hb6.mono hb5.size)⟩
          case measure => simp [intOf]; omega
        · have hlt2 : (l1.length : Int) < nv := by have := HNV.out; omega
          have hrz : (R : Int) - (q ++ l1).length = 0 := by have := HL1.out; have := HNV.out; simp; omega
          have HRZ := Lib.hid hrz
          clear hrz
          go_wp2_with (first
            | (go_at_call 20; refine (ringPeek _ 100 (q ++ l1).length hq5.drew.drew (by simp; omega)).mono ?_; rintro e w6 ⟨v6, rfl, hg6, hb6⟩; obtain ⟨A6, rfl, hrd6⟩ := hg6.rd; rw [List.take_length, List.length_append] at hrd6; have hcv6 := conv_str (P := Tryd.prog) (c := q.length + l1.length) Tryd.underlying31 Tryd.underlying5 Tryd.underlying9 hrd6; clear hg6)
            | (go_at_call 18; refine (ringRoom _ hq5).mono ?_; rintro e w7 ⟨rfl, rfl⟩; rw [HRZ.out])
            | (go_at_call 17; refine (ringPut (l := l1 ++ l2) _ l1.length hq1 hrk hnc hap hnv2 hsm HL1.out).mono ?_; rintro e w5 ⟨rfl, ⟨s5, hq5⟩, hc5⟩; rw [List.take_left] at hq5; have hb5 := hc5.below hba hba.size (by simp; exact ⟨hp', hg'⟩); have d2 := hc5.cell hcl (by simp; omega); have hcv5 := conv_str (P := Tryd.prog) (c := cv) Tryd.underlying31 Tryd.underlying5 Tryd.underlying9 (hrm.keep hb5); have hcv7 := conv_str (P := Tryd.prog) (c := cv) Tryd.underlying31 Tryd.underlying5 Tryd.underlying9 (hrm.keep hb5.drew.drew)))
          go_roundw
          case rel => exact ⟨k + 1, q ++ l1, went, f, s5, W, by omega, by go_num, by simp, rfl, hq5.drew.drew.keep hb6, HW.out, by rw [List.length_append]; omega, hb5.drew.drew.trans (hb6.mono hb5.size)⟩
          case measure => simp [intOf]; omega
      · by_cases hk1 : kd = 1
        · subst hk1
          obtain ⟨t, d, rfl, ht⟩ : ∃ t d, q = t ++ d ∧ t.length = min y.toNat q.length := ⟨q.take (min y.toNat q.length), q.drop (min y.toNat q.length), (List.take_append_drop _ _).symm, by simp⟩
          have hcnt2 : went + (t.length + d.length) ≤ k * 100 := by simpa using hcnt
          have hql2 : t.length + d.length ≤ R := by simpa using hql
          have hsz1 : W.length + t.length + d.length ≤ 9223372036854775807 := by omega
          have hsz2 : W.length + (t.length + d.length) ≤ 9223372036854775807 := by omega
          have hsz3 : W.length + t.length ≤ 9223372036854775807 := by omega
          have HW := Lib.hid hW
          have HT := Lib.hid ht
          have hba : Below w.heap.size w (wr.alloc (.cells #[.int .i64 1, .int .i64 y, .slice Av nv cv] 33)) := hb.alloc hb.size _
          have hq1 : RingAt (wr.alloc (.cells #[.int .i64 1, .int .i64 y, .slice Av nv cv] 33)) p g R (t ++ d) went f s := hq.keep (Ext.alloc1 _ _)
          clear hW ht
          go_wp2_with (first
            | (go_at_call 20; refine (ringPeek _ 100 (d).length hq5 (by omega)).mono ?_; rintro e w6 ⟨v6, rfl, hg6, hb6⟩; obtain ⟨A6, rfl, hrd6⟩ := hg6.rd; rw [List.take_length] at hrd6; have hcv6 := conv_str (P := Tryd.prog) (c := (d).length) Tryd.underlying31 Tryd.underlying5 Tryd.underlying9 hrd6; clear hg6)
            | (go_at_call 19; refine (ringTake _ y t.length hq1 HT.out).mono ?_; rintro e w5 ⟨v5, rfl, hg5, hq5, hc5⟩; rw [List.take_left] at hg5; rw [List.drop_left] at hq5; obtain ⟨A5, rfl, hrd5⟩ := hg5.rd; have hcv5 := conv_str (P := Tryd.prog) (c := t.length) Tryd.underlying31 Tryd.underlying5 Tryd.underlying9 hrd5; have hb5 := hc5.below hba hba.size (by simpa using hp'); clear hg5))
          go_roundw
          case rel => exact ⟨k + 1, d, went + t.length, _, s, W ++ t, by omega, by go_num, by simp, rfl, hq5.keep hb6, by simp; exact HW.out, by omega, hb5.trans (hb6.mono hb5.size)⟩
          case measure => simp [intOf]; omega
        · have hsz : W.length + q.length ≤ 9223372036854775807 := by omega
          have HW := Lib.hid hW
          clear hW
          have hq1 : RingAt (wr.alloc (.cells #[.int .i64 kd, .int .i64 y, .slice Av nv cv] 33)) p g R q went f s := hq.keep (Ext.alloc1 _ _)
          go_wp2_with (first
            | (go_at_call 20; refine (ringPeek _ 100 q.length hq1 (by omega)).mono ?_; rintro e w6 ⟨v6, rfl, hg6, hb6⟩; obtain ⟨A6, rfl, hrd6⟩ := hg6.rd; rw [List.take_length] at hrd6; have hcv6 := conv_str (P := Tryd.prog) (c := q.length) Tryd.underlying31 Tryd.underlying5 Tryd.underlying9 hrd6; clear hg6))
          go_roundw
          case rel => exact ⟨k + 1, q, went, f, s, W, by omega, by go_num, rfl, rfl, hq1.keep hb6, HW.out, by omega, (hb.alloc hb.size _).trans (hb6.mono (by simp; have := hb.size; omega))⟩
          case measure => simp [intOf]; omega
    · obtain rfl : k = n := by omega
      clear hlen
      go_wp2
      go_ret
      exact ⟨rfl, hb⟩
end Go.Proofs.YtbipkbpcjkgohaaDoor
