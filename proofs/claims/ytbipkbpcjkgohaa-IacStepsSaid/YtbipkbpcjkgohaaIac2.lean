/- layer 5: the machine in memory; add. -/
import Derived.Test.YtbipkbpcjkgohaaOwn
import Derived.Test.YtbipkbpcjkgohaaElem
import Derived.Test.YtbipkbpcjkgohaaIac1
import Derived.Outline
namespace Go.Proofs.Ytbipkbpcjkgohaa
open Go Go.RowKit

def machV (m : Mach) (bv : Value) : List Value := [.int .i64 m.st, .int .i64 m.tok.kind, .int .i64 m.tok.code, .int .i64 m.tok.opt, bv, .bool m.tok.cut]
/-- At p there is the machine m; its body's slice is bv. -/
structure MachAt (base : Nat) (w : World) (p : Nat) (m : Mach) (bv : Value) : Prop where
  blk : Blk w p 38 (machV m bv)
  own : w.ownsRow base 5 1 bv m.tok.body.length (bytesV m.tok.body)
  ne : bv.ownBlock ≠ some p
  base : base ≤ p
  ok : MachOk m
theorem MachAt.chg {base : Nat} {w w' : World} {p : Nat} {m : Mach} {bv : Value} {X : List Nat} (h : MachAt base w p m bv) (hc : Chg X w w') (hp : p ∉ X) (hx : ∀ k, bv.ownBlock = some k → k ∉ X) : MachAt base w' p m bv :=
  ⟨h.blk.chg hc hp, own_chg h.own hc hx, h.ne, h.base, h.ok⟩
theorem MachAt.keep {base : Nat} {w w' : World} {p : Nat} {m : Mach} {bv : Value} (h : MachAt base w p m bv) (hc : Ext w w') : MachAt base w' p m bv :=
  h.chg (.of_ext hc (X := [])) (by simp) (by simp)
theorem MachAt.plt {base : Nat} {w : World} {p : Nat} {m : Mach} {bv : Value} (h : MachAt base w p m bv) : p < w.heap.size := h.blk.lt

set_option maxHeartbeats 400000 in
theorem iacVerb (c : UInt8) (w : World) : Calls Try.prog 38 #[.int .i64 c.toNat] w fun e w' => e = .returned (.bool (decide (250 < c.toNat ∧ c.toNat < 255))) ∧ w = w' := by
  by_cases h1 : (251 : Int) ≤ c.toNat
  · go_enter Try.func38, Try.ntmps38
    go_wp2
    go_ret
    refine ⟨?_, rfl⟩
    have h2 : ((c.toNat : Int) ≤ 254) ↔ (250 < c.toNat ∧ c.toNat < 255) := by omega
    simp [h2]
  · go_enter Try.func38, Try.ntmps38
    go_wp2
    go_ret
    refine ⟨?_, rfl⟩
    simp; omega

set_option maxHeartbeats 400000 in
set_option maxRecDepth 20000 in
theorem iacAdd {base : Nat} {p : Nat} {m : Mach} {bv : Value} (c : UInt8) (w : World) (h : MachAt base w p m bv) (h4 : 4 ≤ m.st) :
    Calls Try.prog 39 #[.pointer (some ⟨p, 0, none⟩), .int .u8 c.toNat] w fun e w' => e = .returned (.tuple #[]) ∧ ∃ bv', MachAt base w' p ⟨m.st, addB m.tok c⟩ bv' ∧ Chg (p :: bv.ownBlock.toList) w w' ∧ (bv'.ownBlock = bv.ownBlock ∨ ∃ k, bv'.ownBlock = some k ∧ w.heap.size ≤ k) := by
  obtain ⟨hB, hown, hne, hbase, hok⟩ := h
  have hplt := hB.lt
  obtain ⟨A, cp, rfl, hnc, hcm, hrd⟩ := own_rd hown
  have hlen := hok.body
  have e4 : w.cell? ⟨p, 4, none⟩ = some (.slice A m.tok.body.length cp) := hB.cell 4
  have e5 : w.cell? ⟨p, 5, none⟩ = some (.bool m.tok.cut) := hB.cell 5
  have f4 := hB.frozen 4
  have f5 := hB.frozen 5
  have hok' : MachOk ⟨m.st, addB m.tok c⟩ := ⟨hok.st, addB_len hok.body, fun h => by simp at h; omega, addB_kind.trans hok.kind, fun h => by simp at h; omega⟩
  by_cases h256 : (256 : Int) ≤ m.tok.body.length
  · have hadd : addB m.tok c = ⟨m.tok.kind, m.tok.code, m.tok.opt, m.tok.body, true⟩ := by unfold addB; rw [if_pos (by omega)]
    have HADD := Lib.hid hadd
    clear hadd
    go_enter Try.func39, Try.ntmps39
    go_wp2
    refine bodyPost_ret (results_none rfl _ _ _) rfl ⟨rfl, _, ⟨?_, ?_, hne, hbase, hok'⟩, (Chg.refl _ _).setCell (by simp) _, .inl rfl⟩
    · rw [HADD.out]; exact hB.set_ 5 (.bool true)
    · rw [HADD.out]; exact own_chg hown ((Chg.refl [p] w).setCell (by simp) _) (fun k hk => by simp; intro e; subst e; exact hne hk)
  · have hadd : addB m.tok c = ⟨m.tok.kind, m.tok.code, m.tok.opt, m.tok.body ++ [c], m.tok.cut⟩ := by unfold addB; rw [if_neg (by omega)]
    have HADD := Lib.hid hadd
    have HB := Lib.hid hB
    clear hadd
    obtain ⟨ob, hob⟩ : ∃ ob, (Value.slice A m.tok.body.length cp).ownBlock = ob := ⟨_, rfl⟩
    rw [hob] at hne ⊢
    have HOB := Lib.hid hob
    have HNE := Lib.hid hne
    clear hob hB hne
    go_enter Try.func39, Try.ntmps39
    go_wp2_with (at_builtin; refine wpList_app2 Try.elemB rfl (.tmp 20) (.tmp 22) rfl (v := .slice A m.tok.body.length cp) rfl (hown.alloc _) (by simp; omega) rfl (rd_one _ _ _) (one_one rfl) (by omega) (by unfold maxLen; omega) ?_; intro v1 w1 hown1 hg1 _ hat1; obtain ⟨A1, c1, hv1, hx1, hx2, hrd1⟩ := own_rd hown1; subst hv1; obtain ⟨ob1, hob1⟩ : ∃ ob1, (Value.slice A1 (m.tok.body.length + 1) c1).ownBlock = ob1 := ⟨_, rfl⟩; rw [hob1] at hat1; have HOB1 := Lib.hid hob1; clear hob1; have hg1' := hg1.chg; rw [HOB.out] at hg1' hat1; have hc1 := ((Chg.refl ob.toList w).alloc (.cells #[.int .u8 c.toNat] 5)).trans hg1'; have hB1 := HB.out.chg hc1 (by simpa using HNE.out); have g4 : w1.cell? ⟨p, 4, none⟩ = some (.slice A m.tok.body.length cp) := hB1.cell 4; have k4 := hB1.frozen 4; clear hg1 hg1'; have HAT1 := Lib.hid hat1; clear hat1)
    have hv1 : ob1 ≠ some p := by
      rcases HAT1.out with h | h
      · rw [h]; exact HNE.out
      · rw [h]; simp; omega
    have hc2 : Chg (p :: ob.toList) w (w1.setCell ⟨p, 4, none⟩ (.slice A1 (m.tok.body.length + 1) c1)) := (hc1.mono (by simp; intro x hx; exact .inr hx)).setCell (by simp) _
    go_end0
    refine ⟨rfl, .slice A1 (m.tok.body.length + 1) c1, ⟨?_, ?_, by rw [HOB1.out]; exact hv1, hbase, hok'⟩, hc2, ?_⟩
    · rw [HADD.out]; exact hB1.set_ 4 _
    · rw [HADD.out]
      have := own_chg hown1 ((Chg.refl [p] w1).setCell (p := ⟨p, 4, none⟩) (by simp) (.slice A1 (m.tok.body.length + 1) c1)) (fun k hk => by simp; intro e; subst e; rw [HOB1.out] at hk; exact hv1 hk)
      simpa [bytesV, U8] using this
    · rw [HOB1.out]
      rcases HAT1.out with h | h
      · exact .inl h
      · exact .inr ⟨_, h, by simp⟩
end Go.Proofs.Ytbipkbpcjkgohaa
