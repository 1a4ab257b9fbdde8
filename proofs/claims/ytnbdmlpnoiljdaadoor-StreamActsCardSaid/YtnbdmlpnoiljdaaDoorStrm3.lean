/- The stream's Next. -/
import Derived.Test.YtnbdmlpnoiljdaaDoorStrm2
namespace Go.Proofs.YtnbdmlpnoiljdaaDoor
open Go Go.RowKit

def markNow (S : St) : Bool := S.marks.head? == some (S.read : Int)
def St.next (S : St) : St := { S with inn := S.inn.tail, marks := if markNow S then S.marks.tail else S.marks, read := S.read + 1 }

theorem strmNext0 {w : World} {B : Nat} {m : Mem} {S : St} (h : StrmAt w B m S) (h0 : S.inn = []) :
    Calls Tryd.prog 25 #[.pointer (some ⟨m.a, 0, none⟩)] w fun e w' => e = .returned (.tuple #[.int .u8 0, .bool false, .bool false]) ∧ w = w' := by
  obtain ⟨A, c, hv, _, _, _⟩ := h.inn.rd
  have e0 : w.cell? ⟨m.a, 0, none⟩ = some m.vi := h.blk.cell 0
  rw [hv, h0] at e0
  simp only [List.length_nil] at e0
  clear hv
  go_enter Tryd.func25, Tryd.ntmps25
  go_wp2
  go_ret3
  exact ⟨rfl, rfl⟩

theorem Rd.head {w : World} {b o n : Nat} {x : Value} {xs : List Value} (h : Rd w 1 (some ⟨b, o, none⟩) n (x :: xs)) : w.cell? ⟨b, o, none⟩ = some x := by
  obtain ⟨b', o', e, _, hc⟩ := h.2 (by simp)
  cases e
  exact hc 0 x rfl
/-- A slice that isn't empty, and its tail. -/
theorem OwnO.cons {w : World} {base : Nat} {e : TypeId} {v x : Value} {xs : List Value} {n : Nat} (h : OwnO w base e v (n + 1) (x :: xs)) :
    ∃ g o c A, v = .slice (some ⟨g, o, none⟩) (n + 1) c ∧ w.cell? ⟨g, o, none⟩ = some x ∧ n + 1 ≤ c ∧ c ≤ maxLen ∧ (A = if c = 1 then some ⟨g, o, none⟩ else some ⟨g, o + 1, none⟩) ∧ OwnO w base e (.slice A n (c - 1)) n xs ∧ ob (.slice A n (c - 1)) = ob v := by
  obtain ⟨A, c, rfl, h1, h2, hr⟩ := h.rd
  obtain ⟨g, o, rfl, _, _⟩ := hr.2 (by simp)
  refine ⟨g, o, c, _, rfl, hr.head, h1, h2, rfl, h.tail _ rfl, ?_⟩
  split <;> rfl

theorem strmNextEnd {w w' : World} {B : Nat} {m : Mem} {S : St} (hS : StrmAt w B m S) {c : UInt8} {r : List UInt8} {vi' vm' : Value} {mk' : List Int} (h0 : S.inn = c :: r) (hc : Chg [m.a] w w')
    (hb : Blk w' m.a 102 [vi', vm', .int .i64 (S.read + 1 : Nat), .bool S.closed, .pointer (some ⟨m.p, 0, none⟩), m.vw])
    (hi : OwnO w B 5 vi' r.length (bytesV r)) (hi2 : ob vi' = ob m.vi) (hm : OwnO w B 3 vm' mk'.length (intsV mk')) (hm2 : ob vm' = ob m.vm) (hmk : mk' = S.next.marks) (hml : mk'.length ≤ S.marks.length) : Turned w w' B m S.next := by
  have hsep := hS.sep
  have hsm := hS.small
  have hX : ∀ k, k ≠ m.a → k ∉ [m.a] := fun k hk => by simpa using hk
  refine ⟨{ m with vi := vi', vm := vm' }, ⟨hb, hS.ring.chg hc (hX _ (Ne.symm hsep.1)) (hX _ (Ne.symm hsep.2.1)), ?_, ?_, hS.wire.chg' hc fun k hk => hX k (by omega), hS.low, ?_, ?_⟩, rfl, rfl, hc.mono fun x hx => Mem.mem_Y.2 (by simp at hx; exact .inl hx), fun k hk => .inl ?_⟩
  · have : S.next.inn = r := by unfold St.next; rw [h0]; rfl
    rw [this]
    exact hi.chg' hc fun k hk => hX k (by omega)
  · rw [← hmk]
    exact hm.chg' hc fun k hk => hX k (by omega)
  · show _ ∧ _ ∧ (ob vi' = 0 ∨ _) ∧ (ob vm' = 0 ∨ _) ∧ _ ∧ (ob vi' = 0 ∨ (ob vi' ≠ ob vm' ∧ _)) ∧ (ob vm' = 0 ∨ _)
    rw [hi2, hm2]
    exact hsep
  · have h1 : S.next.inn.length = r.length := by unfold St.next; rw [h0]; rfl
    have h2 : S.next.read = S.read + 1 := rfl
    rw [h0] at hsm
    simp only [List.length_cons] at hsm
    rw [h1, h2, ← hmk]
    omega
  · have h' : k = m.a ∨ k = m.p ∨ k = m.g ∨ ob vi' = k + 1 ∨ ob vm' = k + 1 ∨ ob m.vw = k + 1 := hk
    rw [hi2, hm2] at h'
    exact h'

set_option maxHeartbeats 2000000 in
set_option maxRecDepth 20000 in
theorem strmNext1 {w : World} {B : Nat} {m : Mem} {S : St} (hS : StrmAt w B m S) (c : UInt8) (r : List UInt8) (h0 : S.inn = c :: r) :
    Calls Tryd.prog 25 #[.pointer (some ⟨m.a, 0, none⟩)] w fun e w' => e = .returned (.tuple #[.int .u8 c.toNat, .bool (markNow S), .bool true]) ∧ Turned w w' B m S.next := by
  have hin := hS.inn
  rw [h0] at hin
  obtain ⟨g, o, cp, A, hvi, hcc, hcp, hcm, hA, hown, hob⟩ := hin.cons
  have e0 : w.cell? ⟨m.a, 0, none⟩ = some m.vi := hS.blk.cell 0
  rw [hvi] at e0
  have f0 := hS.blk.frozen 0
  have hcap : cp = 1 ∨ 1 < cp := by omega
  have HA := Lib.hid hA
  have HO := Lib.hid hown
  have HB := Lib.hid hob
  have HV := Lib.hid hvi
  have H0 := Lib.hid h0
  clear hA hown hob hvi hin h0
  go_enter Tryd.func25, Tryd.ntmps25
  have hmk := hS.mks
  have hcases : S.marks = [] ∨ (∃ x xs, S.marks = x :: xs ∧ x ≠ S.read) ∨ (∃ xs, S.marks = (S.read : Int) :: xs) := by
    cases hm : S.marks with
    | nil => exact .inl rfl
    | cons x xs =>
      by_cases hx : x = S.read
      · exact .inr (.inr ⟨xs, by rw [hx]⟩)
      · exact .inr (.inl ⟨x, xs, rfl, hx⟩)
  have HMK := Lib.hid hmk
  have HC := Lib.hid hcases
  clear hmk hcases
  rcases hcap with hc1 | hc1
  all_goals
    go_wp2
    go_region
  focus (have hval : Value.slice (some ⟨g, o, none⟩) r.length 0 = Value.slice A r.length (cp - 1) := (by rw [HA.out, if_pos hc1, hc1]); rw [hval]; clear hval)
  rotate_left
  focus (have hval : Value.slice (some ⟨g, o + 1, none⟩) r.length (cp - 1) = Value.slice A r.length (cp - 1) := (by rw [HA.out, if_neg (by omega)]); rw [hval]; clear hval)
  rotate_left
  all_goals
    clear e0 f0
    have hch : Chg [m.a] w ((w.setCell ⟨m.a, 0, none⟩ (.slice A r.length (cp - 1))).drew) := ((Chg.refl _ _).setCell (by simp) _).drew
    have hb1 : Blk ((w.setCell ⟨m.a, 0, none⟩ (.slice A r.length (cp - 1))).drew) m.a 102 [.slice A r.length (cp - 1), m.vm, .int .i64 S.read, .bool S.closed, .pointer (some ⟨m.p, 0, none⟩), m.vw] := (by simpa using hS.blk.set_ 0 (.slice A r.length (cp - 1)) : Blk (w.setCell ⟨m.a, 0, none⟩ (.slice A r.length (cp - 1))) _ _ _).keep ((Below.refl _ _).drew)
    generalize (w.setCell ⟨m.a, 0, none⟩ (.slice A r.length (cp - 1))).drew = w1 at hch hb1 ⊢
    have d1 : w1.cell? ⟨m.a, 1, none⟩ = some m.vm := hb1.cell 1
    have d2 : w1.cell? ⟨m.a, 2, none⟩ = some (.int .i64 S.read) := hb1.cell 2
    have q1 := hb1.frozen 1
    have q2 := hb1.frozen 2
    have hsm := hS.small
    have hsep := hS.sep
    rcases HC.out with hm | ⟨x, xs, hm, hx⟩ | ⟨xs, hm⟩
    focus (
      obtain ⟨A2, c2, hvm, _, _, _⟩ := HMK.out.rd
      have hmn : markNow S = false := by unfold markNow; rw [hm]; rfl
      have hnm : S.next.marks = S.marks := by unfold St.next; rw [hmn]; rfl
      have HN := Lib.hid hnm
      have HMN := Lib.hid hmn
      have HVM := Lib.hid hvm
      rw [hvm, hm] at d1
      simp only [List.length_nil] at d1
      clear hvm hm hnm hmn
      go_wp2
      go_quiet (fail)
      go_wp2
      go_ret3
      refine ⟨by rw [HMN.out]; rfl, strmNextEnd hS H0.out ((hch.trans (.of_ext (Ext.drawn _ _))).setCell (by simp) _) (by simpa using (hb1.keep (Ext.drawn w1 nq)).set_ 2 (.int .i64 (S.read + 1 : Nat))) HO.out HB.out (by rw [HN.out]; exact HMK.out) rfl rfl (by rw [HN.out]; exact Nat.le_refl _)⟩)
    focus (
      have hmk1 := HMK.out
      rw [hm] at hmk1
      obtain ⟨g2, o2, c2, A2, hvm, hc2, hcp2, hcm2, hA2, hown2, hob2⟩ := hmk1.cons
      have hmn : markNow S = false := by unfold markNow; rw [hm]; simpa using hx
      have hnm : S.next.marks = S.marks := by unfold St.next; rw [hmn]; rfl
      have hbe : (x == (S.read : Int)) = false := by simpa using hx
      have hc21 : w1.cell? ⟨g2, o2, none⟩ = some (.int .i64 x) := hch.cell hc2 (by rw [hvm] at hsep; simp only [ob_slice] at hsep; simp; omega)
      have HN := Lib.hid hnm
      have HMN := Lib.hid hmn
      rw [hvm] at d1
      clear hm hnm hmn hx hA2 hown2 hob2 hc2 hmk1 hsep hvm
      go_wp2
      go_quiet (fail)
      go_wp2
      go_ret3
      refine ⟨by rw [HMN.out]; rfl, strmNextEnd hS H0.out ((hch.trans (.of_ext (Ext.drawn _ _))).setCell (by simp) _) (by simpa using (hb1.keep (Ext.drawn w1 nq)).set_ 2 (.int .i64 (S.read + 1 : Nat))) HO.out HB.out (by rw [HN.out]; exact HMK.out) rfl rfl (by rw [HN.out]; exact Nat.le_refl _)⟩)
    focus (
      have hmk1 := HMK.out
      rw [hm] at hmk1
      obtain ⟨g2, o2, c2, A2, hvm, hc2, hcp2, hcm2, hA2, hown2, hob2⟩ := hmk1.cons
      have hmn : markNow S = true := by unfold markNow; rw [hm]; simp
      have hnm : S.next.marks = xs := by unfold St.next; rw [hmn, hm]; rfl
      have hml : xs.length ≤ S.marks.length := by rw [hm]; simp
      have hc21 : w1.cell? ⟨g2, o2, none⟩ = some (.int .i64 S.read) := hch.cell hc2 (by rw [hvm] at hsep; simp only [ob_slice] at hsep; simp; omega)
      have HN := Lib.hid hnm
      have HMN := Lib.hid hmn
      have HA2 := Lib.hid hA2
      have HO2 := Lib.hid hown2
      have HB2 := Lib.hid hob2
      have HV2 := Lib.hid hvm
      rw [hvm] at d1
      have hcap2 : c2 = 1 ∨ 1 < c2 := by omega
      clear hm hnm hmn hA2 hown2 hob2 hc2 hmk1 hsep hvm
      rcases hcap2 with hc22 | hc22
      all_goals
        go_wp2
        go_quiet (fail)
        have hb2 := hb1.keep (Ext.drawn w1 nq)
        have hch2 : Chg [m.a] w (w1.drewN nq) := hch.trans (.of_ext (Ext.drawn _ _))
        generalize w1.drewN nq = w2 at hb2 hch2 ⊢
        have t1 : w2.cell? ⟨m.a, 1, none⟩ = some (.slice (some ⟨g2, o2, none⟩) (xs.length + 1) c2) := by rw [← HV2.out]; exact hb2.cell 1
        have t2 : w2.cell? ⟨m.a, 2, none⟩ = some (.int .i64 S.read) := hb2.cell 2
        have y1 := hb2.frozen 1
        have y2 := hb2.frozen 2
        clear d1 d2 q1 q2
        go_wp2
        go_ret3
      · refine ⟨by rw [HMN.out]; rfl, ?_⟩
        have hv2 : Value.slice (some ⟨g2, o2, none⟩) xs.length 0 = Value.slice A2 xs.length (c2 - 1) := by rw [HA2.out, if_pos hc22, hc22]
        rw [hv2]
        exact strmNextEnd hS H0.out ((hch2.setCell (by simp) _).setCell (by simp) _) (by simpa using (hb2.set_ 1 (.slice A2 xs.length (c2 - 1))).set_ 2 (.int .i64 (S.read + 1 : Nat))) HO.out HB.out (by rw [HN.out]; exact HO2.out) (by exact HB2.out) rfl (by rw [HN.out]; exact hml)
      · refine ⟨by rw [HMN.out]; rfl, ?_⟩
        have hv2 : Value.slice (some ⟨g2, o2 + 1, none⟩) xs.length (c2 - 1) = Value.slice A2 xs.length (c2 - 1) := by rw [HA2.out, if_neg (by omega)]
        rw [hv2]
        exact strmNextEnd hS H0.out ((hch2.setCell (by simp) _).setCell (by simp) _) (by simpa using (hb2.set_ 1 (.slice A2 xs.length (c2 - 1))).set_ 2 (.int .i64 (S.read + 1 : Nat))) HO.out HB.out (by rw [HN.out]; exact HO2.out) (by exact HB2.out) rfl (by rw [HN.out]; exact hml))
end Go.Proofs.YtnbdmlpnoiljdaaDoor
