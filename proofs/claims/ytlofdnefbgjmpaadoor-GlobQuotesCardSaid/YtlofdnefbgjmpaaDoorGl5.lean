/- Globs: plain, WriteByte, Quote. -/
import Derived.Test.YtlofdnefbgjmpaaDoorGl4
namespace Go.Proofs.YtlofdnefbgjmpaaDoor
open Go Go.RowKit
attribute [local irreducible] wd

set_option maxHeartbeats 2000000 in
set_option maxRecDepth 20000 in
theorem glIsPlain (c : UInt8) (w : World) : Calls Tryd.prog 51 #[.int .u8 (c.toNat : Nat)] w fun e w' => e = .returned (.bool (plainB c)) ∧ w' = w := by
  have h256 := UInt8.toNat_lt c
  obtain ⟨n, hn⟩ : ∃ n, c.toNat = n := ⟨_, rfl⟩
  have HPL : plainB c = ((decide (97 ≤ n) && decide (n ≤ 122)) || (decide (65 ≤ n) && decide (n ≤ 90)) || (decide (48 ≤ n) && decide (n ≤ 57)) || n == 32 || n == 95) := by unfold plainB; rw [hn]
  rw [HPL, hn]
  rw [hn] at h256
  clear HPL hn
  go_enter Tryd.func51, Tryd.ntmps51
  go_wp2
  all_goals
    go_ret
    refine ⟨congrArg (fun b => Ending.returned (Value.bool b)) ?_, rfl⟩
    rw [Bool.eq_iff_iff]
    simp
    try omega

/-- From w to w' of the blocks below C only b has turned. -/
structure Nr (C b : Nat) (w w' : World) : Prop where
  os : w'.os = w.os
  tape : w'.tape = w.tape
  output : w'.output = w.output
  size : w.heap.size ≤ w'.heap.size
  block : ∀ k, k < C → k ≠ b → w'.heap[k]? = w.heap[k]?
theorem Nr.refl (C b : Nat) (w : World) : Nr C b w w := ⟨rfl, rfl, rfl, Nat.le_refl _, fun _ _ _ => rfl⟩
theorem Nr.trans {C b : Nat} {w w' w2 : World} (h : Nr C b w w') (h' : Nr C b w' w2) : Nr C b w w2 :=
  ⟨h'.os.trans h.os, h'.tape.trans h.tape, h'.output.trans h.output, Nat.le_trans h.size h'.size, fun k hk hb => (h'.block k hk hb).trans (h.block k hk hb)⟩
theorem Nr.ext {C b : Nat} {w0 w w' : World} (h0 : Ext w0 w) (h : Nr C b w w') (hC : w0.heap.size ≤ C) (hb : w0.heap.size ≤ b) : Ext w0 w' :=
  ⟨h.os.trans h0.os, h.tape.trans h0.tape, h.output.trans h0.output, Nat.le_trans h0.size h.size, fun k hk => (h.block k (by omega) (by omega)).trans (h0.block k hk)⟩
theorem Nr.of_ext {C b : Nat} {w w' : World} (h : Ext w w') (hC : C ≤ w.heap.size) : Nr C b w w' := ⟨h.os, h.tape, h.output, h.size, fun k hk _ => h.block k (by omega)⟩
theorem Nr.set {C b j : Nat} {w : World} (u : Value) : Nr C b w (w.setCell ⟨b, j, none⟩ u) := ⟨rfl, rfl, rfl, by simp [World.setCell], fun _ _ hk => Below.heap_setCell _ _ _ _ hk⟩
/-- Block b holds a builder with these bytes, its own row from C on, behind b. -/
def BQ (w : World) (C b : Nat) (l : List UInt8) : Prop := b < C ∧ C ≤ w.heap.size ∧ ∃ p v, (p = none ∨ p = some ⟨b, 0, none⟩) ∧ Blk w b 93 [.pointer p, v] ∧ w.ownsRow C 5 1 v (Lib.byteCells l).length (Lib.byteCells l)
theorem own_far {w : World} {C b n : Nat} {e : TypeId} {v : Value} {xs : List Value} (hb : b < C) (h : w.ownsRow C e 1 v n xs) : v.ownBlock ≠ some b := fun e => by have := (h.lt b e).1; omega
theorem BQ.at_ {w : World} {C b : Nat} {l : List UInt8} (h : BQ w C b l) : BldAt w b b l := by
  obtain ⟨hb, _, p, v, hp, hk, ho⟩ := h
  rcases hp with rfl | rfl
  · exact .inl ⟨Nat.le_refl _, v, hk, own_mono ho (Nat.le_of_lt hb), own_far hb ho⟩
  · exact .inr ⟨Nat.le_refl _, v, hk, own_mono ho (Nat.le_of_lt hb), own_far hb ho⟩
theorem bqCheck {C b : Nat} {l : List UInt8} (w : World) (h : BQ w C b l) :
    Calls Tryd.prog 86 #[.pointer (some ⟨b, 0, none⟩)] w fun e w' => e = .returned (.tuple #[]) ∧ Nr C b w w' ∧ ∃ v, Blk w' b 93 [.pointer (some ⟨b, 0, none⟩), v] ∧ w'.ownsRow C 5 1 v (Lib.byteCells l).length (Lib.byteCells l) := by
  obtain ⟨hb, hC, p, v, hp, hk, ho⟩ := h
  rcases hp with rfl | rfl
  · have h0 : Lib.BuilderAt 93 5 b b (.pointer none) (Lib.byteCells l) w := ⟨Nat.le_refl _, v, hk, own_mono ho (Nat.le_of_lt hb), own_far hb ho⟩
    refine (bldCheck_fresh b w h0.cell0 h0.shape h0.frozen0).mono ?_
    rintro e w' ⟨rfl, rfl⟩
    exact ⟨rfl, Nr.set _, v, Blk.set_ hk 0 _, own_chg ho ((Chg.refl [b] w).setCell (p := ⟨b, 0, none⟩) (by simp) _) (fun k hk' => by have := (ho.lt k hk').1; simp; omega)⟩
  · have h0 : Lib.BuilderAt 93 5 b b (.pointer (some ⟨b, 0, none⟩)) (Lib.byteCells l) w := ⟨Nat.le_refl _, v, hk, own_mono ho (Nat.le_of_lt hb), own_far hb ho⟩
    refine (bldCheck_used b w h0.cell0).mono ?_
    rintro e w' ⟨rfl, rfl⟩
    exact ⟨rfl, Nr.refl _ _ _, v, hk, ho⟩
theorem bq_put {C b : Nat} {l t : List UInt8} {w0 w w2 : World} {v v' : Value} {cs : List Value} (hb : b < C) (hC : C ≤ w.heap.size) (hn : Nr C b w0 w) (hbk : Blk w b 93 [.pointer (some ⟨b, 0, none⟩), v]) (hown : w.ownsRow C 5 1 v (Lib.byteCells l).length (Lib.byteCells l))
    (hcs : Lib.byteCells (l ++ t) = cs) (hg : w.grownBy w2 v.ownBlock) (hown' : w2.ownsRow C 5 1 v' cs.length cs) : BQ (w2.setCell ⟨b, 1, none⟩ v') C b (l ++ t) ∧ Nr C b w0 (w2.setCell ⟨b, 1, none⟩ v') := by
  subst hcs
  have hbl : b < w.heap.size := by omega
  have hb2 : Blk w2 b 93 [.pointer (some ⟨b, 0, none⟩), v] := (hg.block b hbl (fun e => own_far hb hown e.symm)).trans hbk
  refine ⟨⟨hb, by simp [World.setCell]; exact Nat.le_trans hC hg.size, _, v', .inr rfl, Blk.set_ hb2 1 _, own_chg hown' ((Chg.refl [b] w2).setCell (p := ⟨b, 1, none⟩) (by simp) _) (fun k hk' => by have := (hown'.lt k hk').1; simp; omega)⟩, (hn.trans ⟨hg.os, hg.tape, hg.output, hg.size, fun k hk hkb => hg.block k (by omega) (fun e => by have := (hown.lt k e.symm).1; omega)⟩).trans (Nr.set _)⟩

set_option maxHeartbeats 2000000 in
set_option maxRecDepth 100000 in
theorem bqByte {C b : Nat} {l : List UInt8} (c : UInt8) (w : World) (h : BQ w C b l) (hlen : l.length ≤ 1000000) :
    Calls Tryd.prog 52 #[.pointer (some ⟨b, 0, none⟩), .int .u8 (c.toNat : Nat)] w fun e w' => e = .returned .nilIface ∧ BQ w' C b (l ++ [c]) ∧ Nr C b w w' := by
  have HLN := Lib.hid hlen
  have H := Lib.hid (bqCheck w h)
  have HB := Lib.hid h.1
  have HC := Lib.hid h.2.1
  clear h
  go_enter Tryd.func52, Tryd.ntmps52
  go_wp2_with (go_at_call 86; refine H.out.mono ?_)
  rintro e w1 ⟨rfl, hn1, v, hbk, hown⟩
  have hlt : b < w1.heap.size := hbk.lt
  have c0 : w1.cell? ⟨b, 0, none⟩ = some (.pointer (some ⟨b, 0, none⟩)) := by rw [Lib.cell_of_heap hbk]; rfl
  have c1 : w1.cell? ⟨b, 1, none⟩ = some v := by rw [Lib.cell_of_heap hbk]; rfl
  have hxa := Ext.new1 w1 (.cells #[.int .u8 (c.toNat : Nat)] 5)
  have hown2 := Lib.hid (own_ext hown hxa)
  have hbk2 := Lib.hid (hbk.keep hxa)
  have HC1 := Lib.hid (Nat.le_trans HC.out hn1.size)
  have HN2 := Lib.hid (hn1.trans (Nr.of_ext hxa HC1.out))
  have HC2 := Lib.hid (Nat.le_trans HC1.out hxa.size)
  have HNE := Lib.hid (own_far HB.out hown)
  have HBL := Lib.hid (show (Lib.byteCells l).length = l.length from Lib.byteCells_length l)
  clear hbk hown hn1 hxa
  go_upto_region 2 with fail
  go_wp2_with (refine wpList_app2 Tryd.elemB rfl (.tmp 11) (.tmp 13) rfl (v := v) (n := (Lib.byteCells l).length) (xs := Lib.byteCells l) rfl hown2.out HC2.out (A := some ⟨w1.heap.size, 0, none⟩) (m := 1) (c := 1) (news := [.int .u8 (c.toNat : Nat)]) rfl (rd_newS w1 1 1 [.int .u8 (c.toNat : Nat)] 5 rfl) (by intro u hu; simp at hu; subst hu; rfl) (by have := HLN.out; rw [HBL.out]; omega) (by have := HLN.out; rw [HBL.out]; unfold maxLen; omega) ?_; intro v8 w8 hown8 hgr8 _ hat8; have hbk8 := (hgr8.by_.block b (Nat.lt_of_lt_of_le hlt (by simp)) (fun e => HNE.out e.symm)).trans hbk2.out; have d0 : w8.cell? ⟨b, 0, none⟩ = some (.pointer (some ⟨b, 0, none⟩)) := (by rw [Lib.cell_of_heap hbk8]; rfl); have d1 : w8.cell? ⟨b, 1, none⟩ = some v := (by rw [Lib.cell_of_heap hbk8]; rfl); have f1 : w8.frozen? ⟨b, 1, none⟩ = false := Lib.frozen_of_heap hbk8 1; obtain ⟨A8, n8, rfl, hn8, hm8, hr8⟩ := own_rd hown8; clear hn8 hm8 hr8)
  go_ret
  exact ⟨rfl, bq_put (cs := Lib.byteCells l ++ [.int .u8 (c.toNat : Nat)]) HB.out HC2.out HN2.out hbk2.out hown2.out (by simp [Lib.byteCells]) hgr8.by_ (by rw [List.length_append]; exact hown8)⟩

set_option maxHeartbeats 2000000 in
set_option maxRecDepth 100000 in
theorem bqStr {C b : Nat} {l : List UInt8} (t : List UInt8) (w : World) (h : BQ w C b l) (hlen : l.length + t.length ≤ 1000000) :
    Calls Tryd.prog 53 #[.pointer (some ⟨b, 0, none⟩), .string ⟨t.toArray⟩] w fun e w' => e = .returned (.tuple #[.int .i64 t.length, .nilIface]) ∧ BQ w' C b (l ++ t) ∧ Nr C b w w' := by
  obtain ⟨i0, hi, hz0, hz1, hz2⟩ := info_parts byte_info
  have HLN := Lib.hid hlen
  have H := Lib.hid (bqCheck w h)
  have HB := Lib.hid h.1
  have HC := Lib.hid h.2.1
  have HBL := Lib.hid (show (Lib.byteCells l).length = l.length from Lib.byteCells_length l)
  clear h
  go_enter Tryd.func53, Tryd.ntmps53
  go_wp2_with (go_at_call 86; refine H.out.mono ?_)
  rintro e w1 ⟨rfl, hn1, v, hbk, hown⟩
  have hlt : b < w1.heap.size := hbk.lt
  have c0 : w1.cell? ⟨b, 0, none⟩ = some (.pointer (some ⟨b, 0, none⟩)) := by rw [Lib.cell_of_heap hbk]; rfl
  have c1 : w1.cell? ⟨b, 1, none⟩ = some v := by rw [Lib.cell_of_heap hbk]; rfl
  have HC1 := Lib.hid (Nat.le_trans HC.out hn1.size)
  go_wp2_with (at_builtin; refine Lib.wpList_append_own_string _ rfl _ _ 91 9 rfl C 5 i0 Tryd.underlying91 Tryd.underlying9 hi hz0 hz1 hz2 _ _ _ rfl hown ⟨t.toArray⟩ rfl ?c3 ?c4 ?c5 ?_)
  case c3 => have := HLN.out; rw [HBL.out]; show l.length + t.length ≤ _; unfold maxLen; omega
  case c4 => have := HLN.out; rw [HBL.out]; show l.length + t.length ≤ _; omega
  case c5 => exact HC1.out
  intro v' w2 hown' hgrow _
  have hb2 : Blk w2 b 93 [.pointer (some ⟨b, 0, none⟩), v] := (hgrow.block b hlt (fun e => own_far HB.out hown e.symm)).trans hbk
  have d0 : w2.cell? ⟨b, 0, none⟩ = some (.pointer (some ⟨b, 0, none⟩)) := by rw [Lib.cell_of_heap hb2]; rfl
  have d1 : w2.cell? ⟨b, 1, none⟩ = some v := by rw [Lib.cell_of_heap hb2]; rfl
  have f1 : w2.frozen? ⟨b, 1, none⟩ = false := Lib.frozen_of_heap hb2 1
  obtain ⟨ao, n', cap, rfl⟩ : ∃ ao n' cap, v' = .slice ao n' cap := by
    rcases hown'.2 with ⟨hv, _⟩ | ⟨g, cap, cur, hv, _⟩
    · exact ⟨_, _, _, hv⟩
    · exact ⟨_, _, _, hv⟩
  go_wp2
  go_ret2
  have e1 : Lib.byteCells (l ++ t) = Lib.byteCells l ++ Lib.strCells ⟨t.toArray⟩ := by simp [Lib.byteCells, Lib.strCells]
  exact ⟨rfl, bq_put HB.out HC1.out hn1 hbk hown e1 hgrow (by rw [List.length_append, Lib.strCells_length]; exact hown')⟩
end Go.Proofs.YtlofdnefbgjmpaaDoor
