/- The ring that can't be; the document's ring. -/
import Derived.Test.YtbipkbpcjkgohaaDoorRing5
import Derived.Test.YtbipkbpcjkgohaaDoorNumErr
import Derived.Test.YtbipkbpcjkgohaaDoorNum
import Derived.Outline
namespace Go.Proofs.YtbipkbpcjkgohaaDoor
open Go Go.RowKit

set_option maxHeartbeats 400000 in
theorem ringNewErr (E : Nat → Addr) (room : Int) (w : World) (hE : Errs w E) (h : room < 1 ∨ 4096 < room) :
    Calls Tryd.prog 16 #[.int .i64 room] w fun e w' => e = .returned (.tuple #[.pointer none, errV E 0]) ∧ ∃ m, w' = w.drewN m := by
  have g0 := hE.cell (i := 0) rfl
  have h' : room < 1 ∨ (¬ room < 1 ∧ 4096 < room) := by omega
  clear h
  unfold errV at *
  rcases h' with h | ⟨h1, h⟩
  all_goals
    go_enter Tryd.func16, Tryd.ntmps16
    go_wp2
    go_quiet (fail)
    go_wp2
    go_ret2
    exact ⟨rfl, _, rfl⟩

/-- At mb there is the document's ring: R places, of W ++ q the W have gone. -/
structure ModAt (w : World) (mb R : Nat) (W q : List UInt8) : Prop where
  blk : Blk w mb 44 [.int .i64 R, .string ⟨(W ++ q).toArray⟩, .int .i64 W.length]
  small : W.length + q.length ≤ 1000000
  fits : q.length ≤ R
  most : R ≤ 4096
theorem ModAt.chg {w w' : World} {mb R : Nat} {W q : List UInt8} {X : List Nat} (h : ModAt w mb R W q) (hc : Chg X w w') (hx : mb ∉ X) : ModAt w' mb R W q := ⟨h.blk.chg hc hx, h.small, h.fits, h.most⟩
theorem ModAt.keep {w w' : World} {mb R : Nat} {W q : List UInt8} (h : ModAt w mb R W q) (hb : Ext w w') : ModAt w' mb R W q := ⟨h.blk.keep hb, h.small, h.fits, h.most⟩

set_option maxHeartbeats 1000000 in
theorem modPeek {mb R : Nat} {W q : List UInt8} (w : World) (x : Int) (m : Nat) (h : ModAt w mb R W q) (hm : m = min x.toNat q.length) :
    Calls Tryd.prog 27 #[.pointer (some ⟨mb, 0, none⟩), .int .i64 x] w fun e w' => e = .returned (.string ⟨(q.take m).toArray⟩) ∧ ∃ k, w' = w.drewN k := by
  have e1 : w.cell? ⟨mb, 1, none⟩ = some (.string ⟨(W ++ q).toArray⟩) := h.blk.cell 1
  have e2 : w.cell? ⟨mb, 2, none⟩ = some (.int .i64 W.length) := h.blk.cell 2
  have hs := h.small
  have hle : (W.length : Int) ≤ (W ++ q).length := by simp; omega
  have hd : List.drop W.length (W ++ q) = q := List.drop_left
  have HD := Lib.hid hd
  have HM := Lib.hid hm
  clear hd hm
  have hx : x < 0 ∨ (¬ x < 0 ∧ x < q.length) ∨ (¬ x < 0 ∧ ¬ x < (q.length : Int)) := by omega
  rcases hx with h1 | ⟨h1, h2⟩ | ⟨h1, h2⟩
  all_goals
    go_enter Tryd.func27, Tryd.ntmps27
    go_wp2
    go_quiet (fail)
    go_wp2
    all_goals
      go_ret
      refine ⟨?_, _, rfl⟩
      have hm := HM.out
      have hdt : List.drop W.length (List.take (W.length + q.length) (W ++ q)) = q := by rw [List.take_of_length_le (by simp), List.drop_left]
      first
        | (rw [show m = q.length by omega]; simp [hdt]; done)
        | (rw [show m = x.toNat by omega]; simp [hdt]; done)
        | (rw [show m = 0 by omega]; simp; rfl)

set_option maxHeartbeats 1000000 in
theorem modDrop {mb R : Nat} {W q : List UInt8} (w : World) (x : Int) (m : Nat) (h : ModAt w mb R W q) (hm : m = min x.toNat q.length) :
    Calls Tryd.prog 28 #[.pointer (some ⟨mb, 0, none⟩), .int .i64 x] w fun e w' => e = .returned (.int .i64 m) ∧ ModAt w' mb R (W ++ q.take m) (q.drop m) ∧ Chg [mb] w w' := by
  have hml : m ≤ q.length := by omega
  have hlen : (q.take m).length = m := by simp; omega
  have hs := h.small
  have HM := Lib.hid hm
  have HL := Lib.hid hlen
  clear hm hlen
  go_enter Tryd.func28, Tryd.ntmps28
  go_wp2_with (go_at_call 27; refine (modPeek _ x m h HM.out).mono ?_; rintro e w1 ⟨rfl, nq, hw1⟩; have hb1 : Ext w w1 := (by rw [hw1]; exact Ext.drewN _ _); have h1 := h.keep hb1; have e2 : w1.cell? ⟨mb, 2, none⟩ = some (.int .i64 W.length) := h1.blk.cell 2; have f2 := h1.blk.frozen 2; clear hw1)
  go_ret
  have hb := h1.blk.set_ 2 (.int .i64 ((W.length : Int) + min m q.length))
  have hmm : min m q.length = m := by omega
  rw [hmm] at hb
  refine ⟨by simp, ⟨?_, by simp; omega, by have := h.fits; simp; omega, h.most⟩, (Chg.of_ext hb1).setCell (by simp) _⟩
  have e : ([.int .i64 (R : Int), .string ⟨(W ++ q).toArray⟩, .int .i64 W.length] : List Value).set 2 (.int .i64 ((W.length : Int) + m)) = [.int .i64 (R : Int), .string ⟨(W ++ q.take m ++ q.drop m).toArray⟩, .int .i64 (W ++ q.take m).length] := by
    rw [List.append_assoc, List.take_append_drop]
    simp [hmm]
  rw [e] at hb
  simpa [hmm] using hb

set_option maxHeartbeats 1000000 in
theorem modPut {mb R : Nat} {W q : List UInt8} (w : World) (l : List UInt8) (m : Nat) (h : ModAt w mb R W q) (hl : l.length ≤ 1000) (hsm : W.length + q.length + l.length ≤ 1000000) (hm : m = min l.length (R - q.length)) :
    Calls Tryd.prog 25 #[.pointer (some ⟨mb, 0, none⟩), .string ⟨l.toArray⟩] w fun e w' => e = .returned (.int .i64 m) ∧ ModAt w' mb R W (q ++ l.take m) ∧ Chg [mb] w w' := by
  have hml : m ≤ l.length := by omega
  have hfit := h.fits
  have hmo := h.most
  have HM := Lib.hid hm
  clear hm
  go_enter Tryd.func25, Tryd.ntmps25
  go_wp2
  go_loopw [5] (fun i wr => ∃ k : Nat, k ≤ m ∧ i = .int .i64 k ∧ ModAt wr mb R W (q ++ l.take k) ∧ Chg [mb] w wr) (fun i _ => l.length - (intOf i).toNat)
  case atStart => exact ⟨0, Nat.zero_le _, rfl, by simpa using h, Chg.refl _ _⟩
  case round =>
    obtain ⟨k, hk, rfl, hM, hc⟩ := hrel
    obtain ⟨T, hT⟩ : ∃ T, l.take k = T := ⟨_, rfl⟩
    rw [hT] at hM
    have hT1 : T.length ≤ k := by rw [← hT]; simp; omega
    have hT2 : k ≤ T.length := by rw [← hT]; simp; omega
    have e0 : wr.cell? ⟨mb, 0, none⟩ = some (.int .i64 R) := hM.blk.cell 0
    have e1 : wr.cell? ⟨mb, 1, none⟩ = some (.string ⟨(W ++ (q ++ T)).toArray⟩) := hM.blk.cell 1
    have e2 : wr.cell? ⟨mb, 2, none⟩ = some (.int .i64 W.length) := hM.blk.cell 2
    have f1 := hM.blk.frozen 1
    have hsmk := hM.small
    have HT := Lib.hid hT
    clear hT
    by_cases hlt : (k : Int) < l.length
    · go_wp2
      go_quiet (fail)
      go_wp2
      · have hroom : (W.length : Int) + (q.length + T.length) - W.length < R := by assumption
        have hkm : k < m := by have := HM.out; omega
        have hkl : k < l.length := by omega
        have hx : List.drop k (List.take (k + 1) l) = [l[k]] := by
          rw [List.take_succ_eq_append_getElem hkl, List.drop_append_of_le_length (by simp; omega)]; simp
        have hT' : l.take (k + 1) = T ++ [l[k]] := by rw [List.take_succ_eq_append_getElem hkl, HT.out]
        have hcut : (k : Int) + 1 ≤ l.length := by omega
        have hMd := hM.keep (Ext.drewN wr nq)
        have hcd : Chg [mb] w (wr.drewN nq) := hc.trans (.of_ext (Ext.drewN _ _))
        have HX := Lib.hid hx
        have HT' := Lib.hid hT'
        generalize wr.drewN nq = w2 at hMd hcd ⊢
        have d1 : w2.cell? ⟨mb, 1, none⟩ = some (.string ⟨(W ++ (q ++ T)).toArray⟩) := hMd.blk.cell 1
        have g1 := hMd.blk.frozen 1
        clear hroom hx hT' hM hc e0 e1 e2 f1
        go_region
        go_wp2
        have hp := (hMd.blk.set_ 1 (.string ⟨(W ++ (q ++ (T ++ List.drop k (List.take (k + 1) l)))).toArray⟩)).drew
        rw [HX.out] at hp ⊢
        exact ⟨⟨k + 1, by omega, by go_num, ⟨by rw [HT'.out]; exact hp, by rw [HT'.out]; simp at hsmk ⊢; omega, by rw [HT'.out]; simp; omega, hmo⟩, (hcd.setCell (by simp) _).drew⟩, by simp [intOf]; omega⟩
      · have hroom : (R : Int) ≤ W.length + (q.length + T.length) - W.length := by assumption
        have hkm : k = m := by have := HM.out; omega
        subst hkm
        go_ret
        exact ⟨rfl, by rw [HT.out]; exact hM.keep (Ext.drewN _ _), hc.trans (.of_ext (Ext.drewN _ _))⟩
    · have hkm : k = m := by have := HM.out; omega
      subst hkm
      have hd1 : decide (k < l.length) = false := by simp; omega
      go_wp2
      go_quiet (fail)
      go_wp2
      go_ret
      exact ⟨rfl, by rw [HT.out]; exact hM.keep (Ext.drewN _ _), hc.trans (.of_ext (Ext.drewN _ _))⟩
end Go.Proofs.YtbipkbpcjkgohaaDoor
