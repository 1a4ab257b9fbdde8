/- The stream's Send and Grant. -/
import Derived.Test.YtnbdmlpnoiljdaaDoorStrm5
namespace Go.Proofs.YtnbdmlpnoiljdaaDoor
open Go Go.RowKit

/-- Why a Send is refused. -/
def SendErr (m : Mem) (S : St) (nb : Nat) (i : Nat) : Prop := (S.closed = true ∧ i = 13) ∨ (S.closed = false ∧ m.R - S.q.length < nb ∧ i = 1)

set_option maxHeartbeats 1000000 in
set_option maxRecDepth 20000 in
theorem strmSendErr {w : World} {B : Nat} {m : Mem} {S : St} {E : Nat → Addr} (hS : StrmAt w B m S) (hE : ErrC [1, 13] w E) (Ab : Option Addr) (nb cb : Nat) (_ : nb ≤ 1000000) (i : Nat) (hi : SendErr m S nb i) :
    Calls Tryd.prog 26 #[.pointer (some ⟨m.a, 0, none⟩), .slice Ab nb cb] w fun e w' => e = .returned (errV E i) ∧ Ext w w' := by
  have e3 : w.cell? ⟨m.a, 3, none⟩ = some (.bool S.closed) := hS.blk.cell 3
  have e4 : w.cell? ⟨m.a, 4, none⟩ = some (.pointer (some ⟨m.p, 0, none⟩)) := hS.blk.cell 4
  have g1 := hE.cell (i := 1) (by decide) rfl
  have hfit := hS.ring.circ.fits
  unfold errV at *
  rcases hi with ⟨h1, rfl⟩ | ⟨h1, h2, rfl⟩
  all_goals rw [h1] at e3; clear h1
  · have g13 := hE.cell (i := 13) (by decide) rfl
    unfold errV at *
    go_enter Tryd.func26, Tryd.ntmps26
    go_wp2
    go_ret
    exact ⟨rfl, Ext.refl _⟩
  · have h4 : (m.R : Int) - S.q.length < nb := by omega
    have g1' := fun w' hb => ((hE.sub (J := [1]) (by simp)).keep (w' := w') hb).cell (i := 1) (by decide) rfl
    unfold errV at g1'
    go_enter Tryd.func26, Tryd.ntmps26
    go_wp2_with (go_at_call 60; refine (ringRoom _ hS.ring).mono ?_; rintro e w1 ⟨rfl, rfl⟩)
    go_ret
    exact ⟨rfl, (Ext.drew1 _).trans (Ext.drew1 _)⟩

set_option maxHeartbeats 1000000 in
set_option maxRecDepth 20000 in
theorem strmSend {w : World} {B : Nat} {m : Mem} {S : St} (hS : StrmAt w B m S) (Ab : Option Addr) (nb cb : Nat) (b : List UInt8) (hcb : nb ≤ cb) (hrb : Rd w 1 Ab nb (bytesV b)) (hA : 0 < nb → ∀ k, ob (.slice Ab nb cb) = k + 1 → ¬ m.In k)
    (hsz : S.wire.length + S.q.length + nb ≤ 1000000) (hcl : S.closed = false) (hfit : S.q.length + nb ≤ m.R) :
    Calls Tryd.prog 26 #[.pointer (some ⟨m.a, 0, none⟩), .slice Ab nb cb] w fun e w' => e = .returned .nilIface ∧ Turned w w' B m { S with q := S.q ++ b } := by
  have e3 : w.cell? ⟨m.a, 3, none⟩ = some (.bool S.closed) := hS.blk.cell 3
  rw [hcl] at e3
  have e4 : w.cell? ⟨m.a, 4, none⟩ = some (.pointer (some ⟨m.p, 0, none⟩)) := hS.blk.cell 4
  have h4 : ¬ ((m.R : Int) - S.q.length < nb) := by omega
  have hbl := hrb.len_bytes
  have HR := Lib.hid hrb
  clear hrb hcl
  go_enter Tryd.func26, Tryd.ntmps26
  go_wp2_with (first
    | (go_at_call 61; refine (ringPut (l := b) _ nb hr2 hrb2 hcb (fun hp b' o' v' e hb' => hA (by simp [bytesV] at hp; omega) m.g (by rw [e]; simp [ob, hb']) (.inr (.inr (.inl rfl)))) (by omega) hsz (by omega)).mono ?_; rintro e w2 ⟨rfl, ⟨s2, hq2⟩, hc2⟩)
    | (go_at_call 60; refine (ringRoom _ hS.ring).mono ?_; rintro e w1 ⟨rfl, rfl⟩; have hr2 := hS.ring.drew.drew; have hrb2 := HR.out.drew.drew))
  go_ret
  obtain ⟨s1, s2', s3, s4, s5, s6, s7⟩ := hS.sep
  have hb := hS.keep ((Ext.drew1 w).trans (Ext.drew1 _))
  rw [List.take_of_length_le (by omega)] at hq2
  have hX : ∀ k, k ≠ m.p → k ≠ m.g → k ∉ [m.p, m.g] := fun k h1 h2 => by simp [h1, h2]
  refine ⟨rfl, { m with s := s2 }, ⟨hb.blk.chg hc2 (hX _ s1 s2'), hq2, hb.inn.chg' hc2 fun k hk => hX k (fun e => (or3 s3).2.1 (by rw [hk, e])) (fun e => (or3 s3).2.2 (by rw [hk, e])), hb.mks.chg' hc2 fun k hk => hX k (fun e => (or3 s4).2.1 (by rw [hk, e])) (fun e => (or3 s4).2.2 (by rw [hk, e])),
    hb.wire.chg' hc2 fun k hk => hX k (fun e => (or3 s5).2.1 (by rw [hk, e])) (fun e => (or3 s5).2.2 (by rw [hk, e])), hS.low, hS.sep, hS.small⟩, rfl, rfl, ?_, fun k hk => .inl hk⟩
  exact (Chg.of_ext ((Ext.drew1 w).trans (Ext.drew1 _))).trans (hc2.mono fun k hk => Mem.mem_Y.2 (by simp at hk; rcases hk with h | h; exact .inr (.inl h); exact .inr (.inr (.inl h))))

theorem strmGrant0 {w : World} {B : Nat} {m : Mem} {S : St} (hS : StrmAt w B m S) (n : Int) (hcl : S.closed = true) :
    Calls Tryd.prog 27 #[.pointer (some ⟨m.a, 0, none⟩), .int .i64 n] w fun e w' => e = .returned (.int .i64 0) ∧ w = w' := by
  have e3 : w.cell? ⟨m.a, 3, none⟩ = some (.bool S.closed) := hS.blk.cell 3
  rw [hcl] at e3
  go_enter Tryd.func27, Tryd.ntmps27
  go_wp2
  go_ret
  exact ⟨rfl, rfl⟩

set_option maxHeartbeats 1000000 in
set_option maxRecDepth 20000 in
theorem strmGrant {w : World} {B : Nat} {m : Mem} {S : St} (hS : StrmAt w B m S) (n : Int) (k : Nat) (hk : k = min n.toNat S.q.length) (hcl : S.closed = false) :
    Calls Tryd.prog 27 #[.pointer (some ⟨m.a, 0, none⟩), .int .i64 n] w fun e w' => e = .returned (.int .i64 k) ∧ Turned w w' B m { S with q := S.q.drop k, wire := S.wire ++ S.q.take k } := by
  have e3 : w.cell? ⟨m.a, 3, none⟩ = some (.bool S.closed) := hS.blk.cell 3
  rw [hcl] at e3
  have e4 : w.cell? ⟨m.a, 4, none⟩ = some (.pointer (some ⟨m.p, 0, none⟩)) := hS.blk.cell 4
  obtain ⟨s1, s2, s3, s4, s5, s6, s7⟩ := hS.sep
  have hsm := hS.ring.small
  have l0 := (hS.lt (k := m.a) (.inl rfl))
  have l1 := (hS.lt (k := m.p) (.inr (.inl rfl))).2
  have l2 := (hS.lt (k := m.g) (.inr (.inr (.inl rfl)))).2
  have hlen : (S.q.take k).length = k := by simp; omega
  obtain ⟨nw, hnw⟩ : ∃ nw, S.wire.length = nw := ⟨_, rfl⟩
  have HNW := Lib.hid hnw
  have HK := Lib.hid hk
  have HLEN := Lib.hid hlen
  have hkq : k ≤ S.q.length := by omega
  clear hk hcl hlen
  go_enter Tryd.func27, Tryd.ntmps27
  go_wp2_with (first
    | (at_builtin; go_loud (refine wpList_appO (base := B) (v := .slice A1 nw c1) (n := nw) (xs := bytesV S.wire) Tryd.elemB rfl (.tmp 20) (.tmp 21) rfl rfl (by rw [← HNW.out]; exact hw1) (by omega) rfl hrd1 (one_bytesV _) (by omega) (by unfold maxLen; omega) ?_); intro v2 w2 hown2 hc2 hob2; obtain ⟨A2, c2, rfl, _, _, _⟩ := hown2.rd; have hblk2 := hblk1.chg hc2 (notO va); have p5 := hblk2.cell 5; have q5 := hblk2.frozen 5)
    | (go_at_call 62; refine (ringTake _ n k hS.ring HK.out).mono ?_; rintro e w1 ⟨v1, rfl, hg1, hq1, hc1⟩; obtain ⟨Ag, hvg, hrd1⟩ := hg1.rd; rw [HLEN.out] at hvg hrd1; subst hvg;
       have hblk1 := hS.blk.chg hc1 (not1 s1); obtain ⟨A1, c1, hvw, _, _, _⟩ := hS.wire.rd; rw [hvw] at hblk1; have hw1 := hS.wire.chg' hc1 (fun j hj => not1 fun e => (or3 s5).2.1 (by rw [hj, e])); rw [hvw] at hw1; rw [HNW.out] at hblk1; have e5 := hblk1.cell 5; have f5 := hblk1.frozen 5;
       have va : ob (Value.slice A1 nw c1) ≠ m.a + 1 := (by rw [ob_len A1 nw c1 S.wire.length c1, ← hvw]; exact (or3 s5).1); have hszw := hc1.size; have HVW := Lib.hid hvw; clear hvw))
  go_ret
  have hvw1 : ob m.vw = ob (.slice A1 nw c1) := by rw [HVW.out]; exact ob_len _ _ _ _ _
  have hob : ob (.slice A2 (nw + k) c2) = ob m.vw ∨ ob (.slice A2 (nw + k) c2) = w1.heap.size + 1 := by rw [hvw1]; exact ob_at hob2
  have o1 := hS.inn.ob_lt
  have o2 := hS.mks.ob_lt
  have n3 : ob (.slice A2 (nw + k) c2) = 0 ∨ (ob (.slice A2 (nw + k) c2) ≠ m.a + 1 ∧ ob (.slice A2 (nw + k) c2) ≠ m.p + 1 ∧ ob (.slice A2 (nw + k) c2) ≠ m.g + 1) := by
    rcases hob with e | e
    · rw [e]; exact s5
    · exact new3 (n := w1.heap.size) (.inr (by rw [e]; exact Nat.le_refl _)) (Nat.lt_of_lt_of_le l0.2 hszw) (Nat.lt_of_lt_of_le l1 hszw) (Nat.lt_of_lt_of_le l2 hszw)
  have hc3 : Chg [m.a] w2 (w2.setCell ⟨m.a, 5, none⟩ (.slice A2 (nw + k) c2)) := (Chg.refl _ _).setCell (by simp) _
  have hX : ∀ j, ob m.vw ≠ j + 1 → j ∉ (Value.slice A1 nw c1).ownBlock.toList := fun j hj => notO (by rw [← hvw1]; exact hj)
  have hl2 : (S.wire ++ S.q.take k).length = nw + k := by simp [HNW.out, HLEN.out]
  refine ⟨rfl, { m with vw := .slice A2 (nw + k) c2, f := (m.f + k) % m.R }, ⟨?_, ?_, ?_, ?_, ?_, hS.low, ⟨s1, s2, s3, s4, n3, ?_, ?_⟩, hS.small⟩, rfl, rfl, ?_, fun j hj => ?_⟩
  · simpa using hblk2.set_ 5 (.slice A2 (nw + k) c2)
  · show RingAt _ m.p m.g m.R (S.q.drop k) (S.wire ++ S.q.take k).length _ m.s
    have hq1' := hq1
    rw [HNW.out] at hq1'
    rw [hl2]
    exact (hq1'.chg hc2 (hX _ (or3 s5).2.1) (hX _ (or3 s5).2.2)).chg hc3 (not1 s1.symm) (not1 s2.symm)
  · exact ((hS.inn.chg' hc1 fun j hj => not1 fun e => (or3 s3).2.1 (by rw [hj, e])).chg' hc2 fun j hj => hX j (or2 s6 hj).2).chg' hc3 fun j hj => not1 fun e => (or3 s3).1 (by rw [hj, e])
  · exact ((hS.mks.chg' hc1 fun j hj => not1 fun e => (or3 s4).2.1 (by rw [hj, e])).chg' hc2 fun j hj => hX j (or1 s7 hj)).chg' hc3 fun j hj => not1 fun e => (or3 s4).1 (by rw [hj, e])
  · show OwnO _ B _ (.slice A2 (nw + k) c2) (S.wire ++ S.q.take k).length (bytesV (S.wire ++ S.q.take k))
    rw [hl2]
    have := hown2.chg' hc3 fun j hj => not1 fun e => (or3 n3).1 (by rw [hj, e])
    simpa [bytesV] using this
  · show ob m.vi = 0 ∨ (ob m.vi ≠ ob m.vm ∧ ob m.vi ≠ ob (.slice A2 (nw + k) c2))
    rcases hob with e | e
    · rw [e]; exact s6
    · rw [e]; clear s3 s4 s5 s7 n3 hvw1; omega
  · show ob m.vm = 0 ∨ ob m.vm ≠ ob (.slice A2 (nw + k) c2)
    rcases hob with e | e
    · rw [e]; exact s7
    · rw [e]; clear s3 s4 s5 s6 n3 hvw1; omega
  · exact ((hc1.mono fun j hj => Mem.mem_Y.2 (by simp at hj; exact .inr (.inl hj))).trans (hc2.mono fun j hj => Mem.mem_Y.2 (.inr (.inr (.inr (.inr (.inr (by rw [hvw1]; exact ob_list.1 hj)))))))).trans (hc3.mono fun j hj => Mem.mem_Y.2 (.inl (by simpa using hj)))
  · have hj' : j = m.a ∨ j = m.p ∨ j = m.g ∨ ob m.vi = j + 1 ∨ ob m.vm = j + 1 ∨ ob (.slice A2 (nw + k) c2) = j + 1 := hj
    rcases hj' with h | h | h | h | h | h
    · exact .inl (.inl h)
    · exact .inl (.inr (.inl h))
    · exact .inl (.inr (.inr (.inl h)))
    · exact .inl (.inr (.inr (.inr (.inl h))))
    · exact .inl (.inr (.inr (.inr (.inr (.inl h)))))
    · rcases hob with e | e
      · exact .inl (.inr (.inr (.inr (.inr (.inr (by rw [← e]; exact h))))))
      · right; omega
end Go.Proofs.YtnbdmlpnoiljdaaDoor
