/- Put together: Nf1, Nf2, Nf3. -/
import Derived.Test.YtdhmfgaiomfodaaDoorUTgL
import Derived.Test.YtdhmfgaiomfodaaDoorUNsA
namespace Go.Proofs.YtdhmfgaiomfodaaDoor
open Go Go.RowKit
attribute [local irreducible] wd

def insV (i : Ins) : List Value := [.int .i64 i.op, .int .i64 i.x, .int .i64 i.y, .int .i64 i.n, .int .u64 (wd i.set 0 : Nat), .int .u64 (wd i.set 1 : Nat), .int .u64 (wd i.set 2 : Nat), .int .u64 (wd i.set 3 : Nat)]
def codeV (c : List Ins) : List Value := c.flatMap insV
theorem codeV_len (c : List Ins) : (codeV c).length = c.length * 8 := by
  induction c with
  | nil => rfl
  | cons i c ih => unfold codeV at ih ⊢; rw [List.flatMap_cons, List.length_append, ih, List.length_cons]; simp [insV]; omega
theorem codeV_app (c d : List Ins) : codeV (c ++ d) = codeV c ++ codeV d := by unfold codeV; rw [List.flatMap_append]
theorem codeV_one (i : Ins) : codeV [i] = insV i := by unfold codeV; simp
theorem one_insV (i : Ins) : ∀ u ∈ insV i, u.oneCell' = true := by intro u hu; simp [insV] at hu; rcases hu with rfl | rfl | rfl | rfl | rfl | rfl | rfl | rfl <;> rfl
theorem elemIns : Elem Tryd.prog 30 64 (.agg (insV ⟨0, 0, 0, 0, fun _ => false⟩).toArray) 8 64 := by
  have e : insV ⟨0, 0, 0, 0, fun _ => false⟩ = [.int .i64 0, .int .i64 0, .int .i64 0, .int .i64 0, .int .u64 0, .int .u64 0, .int .u64 0, .int .u64 0] := by
    have e : ∀ j, wd (fun _ => false) j = 0 := fun j => wd_none j
    unfold insV
    simp only [e]
    rfl
  rw [e]
  exact ⟨Tryd.underlying30, by kernel_rfl, rfl, by omega⟩

/-- The compiler's block holds a slice of one's own, behind it: these instructions. -/
structure CM (w : World) (gc : Nat) (v : Value) (code : List Ins) : Prop where
  blk : Blk w gc 83 [v]
  own : w.ownsRow (gc + 1) 64 8 v code.length (codeV code)
theorem CM.ne {w : World} {gc : Nat} {v : Value} {code : List Ins} (h : CM w gc v code) : v.ownBlock ≠ some gc := fun e => by have := (h.own.lt gc e).1; omega
theorem CM.lt {w : World} {gc : Nat} {v : Value} {code : List Ins} (h : CM w gc v code) : ∀ x ∈ gc :: v.ownBlock.toList, x < w.heap.size := by
  intro x hx
  rcases List.mem_cons.1 hx with rfl | hx
  · exact h.blk.lt
  · exact (h.own.lt x (by simpa using hx)).2
theorem CM.keep {w w' : World} {gc : Nat} {v : Value} {code : List Ins} (h : CM w gc v code) (hx : Ext w w') : CM w' gc v code := ⟨h.blk.keep hx, own_ext h.own hx⟩
theorem CM.sh {w : World} {gc : Nat} {v : Value} {code : List Ins} (h : CM w gc v code) : ∃ A c, v = .slice A code.length c ∧ code.length ≤ c ∧ c ≤ maxLen ∧ Rd w 8 A code.length (codeV code) := own_rd h.own
/-- What has turned. -/
structure CN (gc : Nat) (w : World) (v : Value) (w' : World) (v' : Value) : Prop where
  ch : Chg (gc :: v.ownBlock.toList) w w'
  at_ : ∀ k, v'.ownBlock = some k → v.ownBlock = some k ∨ w.heap.size ≤ k
theorem CN.refl {gc : Nat} {w : World} {v : Value} : CN gc w v w v := ⟨Chg.refl _ _, fun _ h => .inl h⟩
theorem CN.ext {gc : Nat} {w w' : World} {v : Value} (h : Ext w w') : CN gc w v w' v := ⟨.of_ext h, fun _ h => .inl h⟩
theorem CN.trans {gc : Nat} {w w1 w2 : World} {v v1 v2 : Value} (h : CN gc w v w1 v1) (k : CN gc w1 v1 w2 v2) : CN gc w v w2 v2 := by
  refine ⟨h.ch.more k.ch fun y hy => ?_, fun j hj => ?_⟩
  · rcases List.mem_cons.1 hy with rfl | hy
    · exact .inl (by simp)
    · rcases h.at_ y (by simpa using hy) with e | e
      · exact .inl (by simp [e])
      · exact .inr e
  · rcases k.at_ j hj with e | e
    · exact h.at_ j e
    · exact .inr (Nat.le_trans h.ch.size e)
theorem CN.then_ext {gc : Nat} {w w1 w2 : World} {v v1 : Value} (h : CN gc w v w1 v1) (k : Ext w1 w2) : CN gc w v w2 v1 := h.trans (CN.ext k)

set_option maxHeartbeats 2000000 in
set_option maxRecDepth 20000 in
theorem nfHere {gc : Nat} {v : Value} {code : List Ins} (w : World) (h : CM w gc v code) :
    Calls Tryd.prog 65 #[.pointer (some ⟨gc, 0, none⟩)] w fun e w' => e = .returned (.int .i64 code.length) ∧ w' = w := by
  obtain ⟨A, c, rfl, hc, hm, _⟩ := h.sh
  have hcell : w.cell? ⟨gc, 0, none⟩ = some (.slice A code.length c) := h.blk.cell 0
  clear h hc hm
  go_enter Tryd.func65, Tryd.ntmps65
  go_wp2
  go_ret
  exact ⟨rfl, rfl⟩

set_option maxHeartbeats 4000000 in
set_option maxRecDepth 20000 in
theorem nfPut {gc : Nat} {v : Value} {code : List Ins} (ins : Ins) (w : World) (hlen : code.length ≤ 1000) (h : CM w gc v code) :
    Calls Tryd.prog 42 #[.pointer (some ⟨gc, 0, none⟩), .agg (insV ins).toArray] w fun e w' => e = .returned (.int .i64 code.length) ∧ ∃ v', CM w' gc v' (code ++ [ins]) ∧ CN gc w v w' v' := by
  obtain ⟨gi, hgi⟩ : ∃ gi, w.heap.size = gi := ⟨_, rfl⟩
  have hI := Lib.hid (Blk.newA (w := w) hgi 64 (insV ins))
  have hx0 := Lib.hid (Ext.new1 w (.cells (insV ins).toArray 64))
  have hC := Lib.hid (h.keep hx0.out)
  have hltv := Lib.hid h.lt
  have HLEN := Lib.hid hlen
  clear h
  go_enter Tryd.func42, Tryd.ntmps42
  go_upto_region 1 with fail
  try rw [hgi]
  generalize w.alloc (.cells (insV ins).toArray 64) = w3 at *
  obtain ⟨A', c', rfl, hc1, hc2, _⟩ := hC.out.sh
  clear hc1 hc2
  have hO := hC.out.own
  have hb3 := hC.out.blk
  have hap := hC.out.ne
  have hy1 : w3.cell? ⟨gc, 0, none⟩ = some (.slice A' code.length c') := hb3.cell 0
  have hI3 := hI.out
  unfold insV at hI3
  have hgv : ∀ y ∈ (Value.slice A' code.length c').ownBlock.toList, y < gi := fun y hy => by rw [← hgi]; exact hltv.out y (List.mem_cons_of_mem _ hy)
  have hgg : gc < gi := by rw [← hgi]; exact hltv.out gc (by simp)
  have hgs : gi < w3.heap.size := hI3.lt
  have hxbX : gi ∉ (Value.slice A' code.length c').ownBlock.toList ++ [gc] := by
    rw [List.mem_append]
    rintro (hm | hm)
    · have := hgv gi hm; omega
    · simp at hm; omega
  have hapm : gc ∉ (Value.slice A' code.length c').ownBlock.toList := fun hm => hap (by simpa using hm)
  refine wp_region_dagQ (X := fun j => if j = 7 then (Value.slice A' code.length c').ownBlock.toList else if j = 10 then [gc] else []) (XX := ((Value.slice A' code.length c').ownBlock.toList ++ [gc])) (late := fun j => if j = 4 then [7, 10] else if j = 7 then [10] else if j = 10 then [] else []) (Pre := fun i w => (i = 4 → w.cell? ⟨gc, 0, none⟩ = some (.slice A' code.length c')) ∧ (i = 7 → w.ownsRow (gc + 1) 64 8 (.slice A' code.length c') code.length (codeV code)) ∧ (i = 10 → Blk w gc 83 [.slice A' code.length c']) ∧ True) (w0 := w3) (Φ := fun i v w => match i with | 0 => (v = .pointer (some ⟨gc, 0, none⟩)) | 1 => (v = .pointer (some ⟨gc, 0, none⟩)) | 2 => (v = .pointer (some ⟨gc, 0, none⟩)) | 3 => (v = .pointer (some ⟨gc, 0, none⟩)) | 4 => (v = .slice A' code.length c') | 5 => (v = .agg #[.int .i64 ins.op, .int .i64 ins.x, .int .i64 ins.y, .int .i64 ins.n, .int .u64 (wd ins.set 0 : Nat), .int .u64 (wd ins.set 1 : Nat), .int .u64 (wd ins.set 2 : Nat), .int .u64 (wd ins.set 3 : Nat)]) | 6 => (∃ vb : Nat, v = .slice (some ⟨vb, 0, none⟩) 1 1 ∧ Blk w vb 64 (insV ins) ∧ w3.heap.size ≤ vb) | 7 => (∃ A9 c9, v = .slice A9 (code.length + 1) c9 ∧ w.ownsRow (gc + 1) 64 8 v (code.length + 1) (codeV code ++ insV ins) ∧ v.ownBlock ≠ some gc ∧ (∀ j, v.ownBlock = some j → (Value.slice A' code.length c').ownBlock = some j ∨ w3.heap.size ≤ j)) | 8 => (v = .pointer (some ⟨gc, 0, none⟩)) | 9 => (v = .pointer (some ⟨gc, 0, none⟩)) | 10 => (∃ u, Blk w gc 83 [u] ∧ w.ownsRow (gc + 1) 64 8 u (code.length + 1) (codeV code ++ insV ins) ∧ (∀ j, u.ownBlock = some j → (Value.slice A' code.length c').ownBlock = some j ∨ w3.heap.size ≤ j)) | _ => True) (show Tryd.prog.follows .mixedOrders = true from Checked.mixed Tryd.checked) 21 rfl (by decide +kernel) ?_ ?_ ?_ ?_ ?_ ⟨?_, ?_, ?_, ?_, ?_, ?_, ?_, ?_, ?_, ?_, ?_, trivial⟩ ?_
  · intro j x hx
    by_cases hj7 : j = 7
    · subst hj7; have hx' : x ∈ (Value.slice A' code.length c').ownBlock.toList := hx; first | exact hx' | (rw [List.mem_append]; first | exact .inl hx' | exact .inr hx')
    by_cases hj10 : j = 10
    · subst hj10; have hx' : x ∈ [gc] := hx; first | exact hx' | (rw [List.mem_append]; first | exact .inl hx' | exact .inr hx')
    simp [hj7, hj10] at hx
  · intro j
    by_cases hj4 : j = 4
    · subst hj4; decide +kernel
    by_cases hj7 : j = 7
    · subst hj7; decide +kernel
    by_cases hj10 : j = 10
    · subst hj10; decide +kernel
    simp [hj4, hj7, hj10, lateOk]
  · intro i
    exact ⟨fun _ => hy1, fun _ => own_ext hO ((Below.refl _ _).drew), fun _ => hb3.keep ((Below.refl _ _).drew), trivial⟩
  · intro i j w w' hij hnl h hc
    refine ⟨?_, ?_, ?_, trivial⟩
    · intro hi
      subst hi
      have hp := h.1 rfl
      have hc' : Chg [] w w' := hc.mono (fun x hx => by
        by_cases hj7 : j = 7
        · subst hj7; exact absurd (by decide) hnl
        by_cases hj10 : j = 10
        · subst hj10; exact absurd (by decide) hnl
        simp [hj7, hj10] at hx)
      exact hc'.cell hp (by simp)
    · intro hi
      subst hi
      have hp := h.2.1 rfl
      have hc' : Chg [] w w' := hc.mono (fun x hx => by
        by_cases hj7 : j = 7
        · exact absurd hj7 (by omega)
        by_cases hj10 : j = 10
        · subst hj10; exact absurd (by decide) hnl
        simp [hj7, hj10] at hx)
      exact own_chg hp hc' (by simp)
    · intro hi
      subst hi
      have hp := h.2.2.1 rfl
      have hc' : Chg ((Value.slice A' code.length c').ownBlock.toList) w w' := hc.mono (fun x hx => by
        by_cases hj7 : j = 7
        · subst hj7; have hx' : x ∈ (Value.slice A' code.length c').ownBlock.toList := hx; first | exact hx' | (rw [List.mem_append]; first | exact .inl hx' | exact .inr hx')
        by_cases hj10 : j = 10
        · exact absurd hj10 (by omega)
        simp [hj7, hj10] at hx)
      exact hp.chg hc' hapm
  · intro i j v w w' hij hla h hc
    by_cases hj7 : j = 7
    · subst hj7
      have hc' : Chg (Value.slice A' code.length c').ownBlock.toList w w' := hc
      match i, hij, hla, h with
      | 0, _, _, h => exact h
      | 1, _, _, h => exact h
      | 2, _, _, h => exact h
      | 3, _, _, h => exact h
      | 4, _, _, h => exact h
      | 5, _, _, h => exact h
      | 6, _, _, h => exact (by obtain ⟨vb, g1, g2, g3⟩ := h; exact ⟨vb, g1, g2.chg hc' (fun hm => by have := hgv vb hm; omega), g3⟩)
      | 7, hij, _, _ => exact absurd rfl hij
      | 8, _, _, h => exact h
      | 9, _, _, h => exact h
      | 10, _, hla, _ => exact absurd (by decide) hla
      | _ + 11, _, _, _ => trivial
    by_cases hj10 : j = 10
    · subst hj10
      have hc' : Chg [gc] w w' := hc
      match i, hij, hla, h with
      | 0, _, _, h => exact h
      | 1, _, _, h => exact h
      | 2, _, _, h => exact h
      | 3, _, _, h => exact h
      | 4, _, _, h => exact h
      | 5, _, _, h => exact h
      | 6, _, _, h => exact (by obtain ⟨vb, g1, g2, g3⟩ := h; exact ⟨vb, g1, g2.chg hc' (fun hm => by simp at hm; omega), g3⟩)
      | 7, _, _, h => exact (by obtain ⟨A9, c9, g0, g1, g2⟩ := h; exact ⟨A9, c9, g0, own_chg g1 hc' (fun j hj hm => by simp at hm; subst hm; exact g2.1 hj), g2⟩)
      | 8, _, _, h => exact h
      | 9, _, _, h => exact h
      | 10, hij, _, _ => exact absurd rfl hij
      | _ + 11, _, _, _ => trivial
    have hc0 : Chg [] w w' := by simpa [hj7, hj10] using hc
    have hE : Ext w w' := hc0.ext (by simp)
    match i, h with
    | 0, h => exact h
    | 1, h => exact h
    | 2, h => exact h
    | 3, h => exact h
    | 4, h => exact h
    | 5, h => exact h
    | 6, h => exact (by obtain ⟨vb, g1, g2, g3⟩ := h; exact ⟨vb, g1, g2.keep hE, g3⟩)
    | 7, h => exact (by obtain ⟨A9, c9, g0, g1, g2⟩ := h; exact ⟨A9, c9, g0, own_ext g1 hE, g2⟩)
    | 8, h => exact h
    | 9, h => exact h
    | 10, h => exact (by obtain ⟨u, g1, g2, g3⟩ := h; exact ⟨u, g1.keep hE, own_ext g2 hE, g3⟩)
    | _ + 11, _ => trivial
  ·
    intro ac wx hE hP hsz hdf h
    have e0 : ac.tmps[0]? = some (.pointer (some ⟨gc, 0, none⟩)) := by obtain ⟨v, h1, h2⟩ := h 0 (by decide +kernel); exact h1.trans (h2.symm.trans rfl)
    clear h hsz hdf
    go_wp2
    exact ⟨_, rfl, rfl, Chg.refl _ _⟩
  ·
    intro ac wx hE hP hsz hdf h
    have e0 : ac.tmps[0]? = some (.pointer (some ⟨gc, 0, none⟩)) := by obtain ⟨v, h1, h2⟩ := h 0 (by decide +kernel); exact h1.trans (h2.symm.trans rfl)
    clear h hsz hdf
    go_wp2
    exact ⟨_, rfl, rfl, Chg.refl _ _⟩
  ·
    intro ac wx hE hP hsz hdf h
    have e6 : ac.tmps[6]? = some (.pointer (some ⟨gc, 0, none⟩)) := by obtain ⟨v, h1, h2⟩ := h 6 (by decide +kernel); rw [h1]; exact congrArg some h2
    clear h hsz hdf
    go_wp2
    exact ⟨_, rfl, rfl, Chg.refl _ _⟩
  ·
    intro ac wx hE hP hsz hdf h
    have e7 : ac.tmps[7]? = some (.pointer (some ⟨gc, 0, none⟩)) := by obtain ⟨v, h1, h2⟩ := h 7 (by decide +kernel); rw [h1]; exact congrArg some h2
    clear h hsz hdf
    go_wp2
    exact ⟨_, rfl, rfl, Chg.refl _ _⟩
  ·
    intro ac wx hE hP hsz hdf h
    have e8 : ac.tmps[8]? = some (.pointer (some ⟨gc, 0, none⟩)) := by obtain ⟨v, h1, h2⟩ := h 8 (by decide +kernel); rw [h1]; exact congrArg some h2
    clear h hsz hdf
    have hy4 := hP.1 rfl
    go_wp2
    exact ⟨_, rfl, rfl, Chg.refl _ _⟩
  ·
    intro ac wx hE hP hsz hdf h
    have e3 : ac.tmps[3]? = some (.pointer (some ⟨gi, 0, none⟩)) := by obtain ⟨v, h1, h2⟩ := h 3 (by decide +kernel); exact h1.trans (h2.symm.trans rfl)
    clear h hsz hdf
    have hbI := hI3.chg hE hxbX; have y0 := hbI.cell 0; have y1 := hbI.cell 1; have y2 := hbI.cell 2; have y3 := hbI.cell 3; have y4 := hbI.cell 4; have y5 := hbI.cell 5; have y6 := hbI.cell 6; have y7 := hbI.cell 7
    go_wp2
    exact ⟨_, rfl, rfl, Chg.refl _ _⟩
  ·
    intro ac wx hE hP hsz hdf h
    have e10 : ac.tmps[10]? = some (.agg #[.int .i64 ins.op, .int .i64 ins.x, .int .i64 ins.y, .int .i64 ins.n, .int .u64 (wd ins.set 0 : Nat), .int .u64 (wd ins.set 1 : Nat), .int .u64 (wd ins.set 2 : Nat), .int .u64 (wd ins.set 3 : Nat)]) := by obtain ⟨v, h1, h2⟩ := h 10 (by decide +kernel); rw [h1]; exact congrArg some h2
    clear h hsz hdf
    go_wp2
    exact ⟨_, rfl, ⟨_, rfl, Blk.newL wx 64 (insV ins), hE.size⟩, .of_ext (Ext.new1 _ _)⟩
  ·
    intro ac wx hE hP hsz hdf h
    have e9 : ac.tmps[9]? = some (.slice A' code.length c') := by obtain ⟨v, h1, h2⟩ := h 9 (by decide +kernel); rw [h1]; exact congrArg some h2
    obtain ⟨v11, e11, s11⟩ : ∃ v, ac.tmps[11]? = some v ∧ (∃ vb : Nat, v = .slice (some ⟨vb, 0, none⟩) 1 1 ∧ Blk wx vb 64 (insV ins) ∧ w3.heap.size ≤ vb) := h 11 (by decide +kernel)
    clear h hsz hdf
    obtain ⟨vb, rfl, hvb8, hvb9⟩ := s11; have ho8 := hP.2.1 rfl; have hsz8 := hE.size
    go_wp2_with ((refine wpList_app2 elemIns rfl (.tmp 9) (.tmp 11) rfl (v := .slice A' code.length c') (n := code.length) (xs := codeV code) (by simp [Act.eval, e9]) ho8 (by omega) (A := some ⟨vb, 0, none⟩) (m := 1) (c := 1) (news := insV ins) (by simp [Act.eval, e11]) (by have := Blk.rd (n := 1) (size := 8) hvb8 0 (by simp [insV]); rwa [List.drop_zero, List.take_of_length_le (by simp [insV])] at this) (one_insV ins) (by have := HLEN.out; omega) (by have := HLEN.out; unfold maxLen; omega) ?_; intro v9 w9 hown9 hgr9 _ hat9))
    obtain ⟨A9, c9, e9, _, _, _⟩ := own_rd hown9; exact ⟨_, rfl, ⟨⟨A9, c9, e9⟩, hown9, fun he => (by have := (hown9.lt gc he).1; omega), fun j hj => by (rcases hat9 with hn8 | hn8 <;> rw [hn8] at hj; exact .inl hj; injection hj with hj; exact .inr (by omega))⟩, ⟨hgr9.by_.os, hgr9.by_.tape, hgr9.by_.output, hgr9.by_.size, fun k hk hkn => hgr9.by_.block k hk (fun e => hkn (by simp [← e]))⟩⟩
  ·
    intro ac wx hE hP hsz hdf h
    have e5 : ac.tmps[5]? = some (.pointer (some ⟨gc, 0, none⟩)) := by obtain ⟨v, h1, h2⟩ := h 5 (by decide +kernel); rw [h1]; exact congrArg some h2
    clear h hsz hdf
    go_wp2
    exact ⟨_, rfl, rfl, Chg.refl _ _⟩
  ·
    intro ac wx hE hP hsz hdf h
    have e13 : ac.tmps[13]? = some (.pointer (some ⟨gc, 0, none⟩)) := by obtain ⟨v, h1, h2⟩ := h 13 (by decide +kernel); rw [h1]; exact congrArg some h2
    clear h hsz hdf
    go_wp2
    exact ⟨_, rfl, rfl, Chg.refl _ _⟩
  ·
    intro ac wx hE hP hsz hdf h
    have e14 : ac.tmps[14]? = some (.pointer (some ⟨gc, 0, none⟩)) := by obtain ⟨v, h1, h2⟩ := h 14 (by decide +kernel); rw [h1]; exact congrArg some h2
    obtain ⟨v12, e12, s12⟩ : ∃ v, ac.tmps[12]? = some v ∧ (∃ A9 c9, v = .slice A9 (code.length + 1) c9 ∧ wx.ownsRow (gc + 1) 64 8 v (code.length + 1) (codeV code ++ insV ins) ∧ v.ownBlock ≠ some gc ∧ (∀ j, v.ownBlock = some j → (Value.slice A' code.length c').ownBlock = some j ∨ w3.heap.size ≤ j)) := h 12 (by decide +kernel)
    clear h hsz hdf
    obtain ⟨A9, c9, rfl, hro, hrn, hra⟩ := s12; have hb11 := hP.2.2.1 rfl; have f11 := hb11.frozen 0; have y11 : wx.cell? ⟨gc, 0, none⟩ = some (.slice A' code.length c') := hb11.cell 0
    go_wp2
    exact ⟨⟨_, hb11.set_ 0 (.slice A9 (code.length + 1) c9), own_chg hro ((Chg.refl [gc] wx).setCell (p := ⟨gc, 0, none⟩) (by simp) _) (fun j hj hm => by simp at hm; subst hm; exact hrn hj), hra⟩, (Chg.refl [gc] wx).setCell (by simp) _⟩
  · intro ac w9 hE hsz hdf h hrest
    obtain ⟨v0, s0, g0⟩ := h 0 _ rfl
    have e0 := g0 5 rfl
    obtain rfl : v0 = .pointer (some ⟨gc, 0, none⟩) := s0
    obtain ⟨v1, s1, g1⟩ := h 1 _ rfl
    have e1 := g1 6 rfl
    obtain rfl : v1 = .pointer (some ⟨gc, 0, none⟩) := s1
    obtain ⟨v2, s2, g2⟩ := h 2 _ rfl
    have e2 := g2 7 rfl
    obtain rfl : v2 = .pointer (some ⟨gc, 0, none⟩) := s2
    obtain ⟨v3, s3, g3⟩ := h 3 _ rfl
    have e3 := g3 8 rfl
    obtain rfl : v3 = .pointer (some ⟨gc, 0, none⟩) := s3
    obtain ⟨v4, s4, g4⟩ := h 4 _ rfl
    have e4 := g4 9 rfl
    obtain rfl : v4 = .slice A' code.length c' := s4
    obtain ⟨v5, s5, g5⟩ := h 5 _ rfl
    have e5 := g5 10 rfl
    obtain rfl : v5 = .agg #[.int .i64 ins.op, .int .i64 ins.x, .int .i64 ins.y, .int .i64 ins.n, .int .u64 (wd ins.set 0 : Nat), .int .u64 (wd ins.set 1 : Nat), .int .u64 (wd ins.set 2 : Nat), .int .u64 (wd ins.set 3 : Nat)] := s5
    obtain ⟨v6, s6, g6⟩ := h 6 _ rfl
    have e6 := g6 11 rfl
    replace s6 : ∃ vb : Nat, v6 = .slice (some ⟨vb, 0, none⟩) 1 1 ∧ Blk w9 vb 64 (insV ins) ∧ w3.heap.size ≤ vb := s6
    obtain ⟨v7, s7, g7⟩ := h 7 _ rfl
    have e7 := g7 12 rfl
    replace s7 : ∃ A9 c9, v7 = .slice A9 (code.length + 1) c9 ∧ w9.ownsRow (gc + 1) 64 8 v7 (code.length + 1) (codeV code ++ insV ins) ∧ v7.ownBlock ≠ some gc ∧ (∀ j, v7.ownBlock = some j → (Value.slice A' code.length c').ownBlock = some j ∨ w3.heap.size ≤ j) := s7
    obtain ⟨v8, s8, g8⟩ := h 8 _ rfl
    have e8 := g8 13 rfl
    obtain rfl : v8 = .pointer (some ⟨gc, 0, none⟩) := s8
    obtain ⟨v9, s9, g9⟩ := h 9 _ rfl
    have e9 := g9 14 rfl
    obtain rfl : v9 = .pointer (some ⟨gc, 0, none⟩) := s9
    obtain ⟨v10, s10, -⟩ := h 10 _ rfl
    replace s10 : ∃ u, Blk w9 gc 83 [u] ∧ w9.ownsRow (gc + 1) 64 8 u (code.length + 1) (codeV code ++ insV ins) ∧ (∀ j, u.ownBlock = some j → (Value.slice A' code.length c').ownBlock = some j ∨ w3.heap.size ≤ j) := s10
    have ha := act_of [(5, .pointer (some ⟨gc, 0, none⟩)), (6, .pointer (some ⟨gc, 0, none⟩)), (7, .pointer (some ⟨gc, 0, none⟩)), (8, .pointer (some ⟨gc, 0, none⟩)), (9, .slice A' code.length c'), (10, .agg #[.int .i64 ins.op, .int .i64 ins.x, .int .i64 ins.y, .int .i64 ins.n, .int .u64 (wd ins.set 0 : Nat), .int .u64 (wd ins.set 1 : Nat), .int .u64 (wd ins.set 2 : Nat), .int .u64 (wd ins.set 3 : Nat)]), (11, v6), (12, v7), (13, .pointer (some ⟨gc, 0, none⟩)), (14, .pointer (some ⟨gc, 0, none⟩))] rfl hsz hdf (by intro p hp; simp only [List.mem_cons, List.not_mem_nil, or_false] at hp; rcases hp with rfl | rfl | rfl | rfl | rfl | rfl | rfl | rfl | rfl | rfl <;> first | exact e0 | exact e1 | exact e2 | exact e3 | exact e4 | exact e5 | exact e6 | exact e7 | exact e8 | exact e9) hrest
    clear h hrest hsz hdf e0 e1 e2 e3 e4 e5 e6 e7 e8 e9 g0 g1 g2 g3 g4 g5 g6 g7 g8 g9
    subst ha
    simp only [List.foldl_cons, List.foldl_nil, Act.put, List.setIfInBounds_toArray, List.set_cons_succ, List.set_cons_zero]
    obtain ⟨u, hb, ho, hr⟩ := s10
    obtain ⟨A8, c8, rfl, _, _, _⟩ := own_rd ho
    have hy : w9.cell? ⟨gc, 0, none⟩ = some (.slice A8 (code.length + 1) c8) := hb.cell 0
    have hw : IntKind.i64.wrap ((code.length : Int) + 1 - 1) = (code.length : Int) := by rw [wrap_id (by omega) (by omega)]; omega
    have HF := Lib.hid (show CM w9 gc (.slice A8 (code.length + 1) c8) (code ++ [ins]) ∧ CN gc w (.slice A' code.length c') w9 (.slice A8 (code.length + 1) c8) from
      ⟨⟨hb, by rw [codeV_app, codeV_one, List.length_append]; exact ho⟩, ⟨(Chg.of_ext hx0.out).trans (hE.mono (fun x hx => by rcases List.mem_append.1 hx with hx | hx; exact List.mem_cons_of_mem _ hx; simp at hx; subst hx; exact List.mem_cons_self)), fun j hj => by rcases hr j hj with e | e; exact .inl e; exact .inr (Nat.le_trans hx0.out.size e)⟩⟩)
    clear s6 s7 hb ho hr hE
    go_wp2
    go_ret
    exact ⟨by simp, _, HF.out⟩
end Go.Proofs.YtdhmfgaiomfodaaDoor
namespace Go.Proofs.YtdhmfgaiomfodaaDoor
open Go Go.RowKit
attribute [local irreducible] wd

theorem own_set8 {w : World} {base g n c i size : Nat} {e : TypeId} {xs : List Value} (h : w.ownsRow base e size (.slice (some ⟨g, 0, none⟩) n c) n xs) (u : Value) : (w.setCell ⟨g, i, none⟩ u).ownsRow base e size (.slice (some ⟨g, 0, none⟩) n c) n (xs.set i u) := by
  refine ⟨by simpa using h.1, ?_⟩
  rcases h.2 with ⟨h1, _⟩ | ⟨g', cap, cur, he, hb, hg, h1, h2, h3, h4⟩
  · cases h1
  · cases he
    have hB : Blk w g e cur.toList := by simpa [Blk] using hg
    have hB2 := hB.set_ i u
    refine .inr ⟨g, c, (cur.toList.set i u).toArray, rfl, hb, hB2, h1, h2, by simp; omega, ?_⟩
    rw [← h4]
    simp [List.take_set]
theorem own_blk8 {w : World} {base n : Nat} {e : TypeId} {v : Value} {xs : List Value} (h : w.ownsRow base e 8 v n xs) (hn : 0 < n) : ∃ g c, v = .slice (some ⟨g, 0, none⟩) n c ∧ n ≤ c ∧ c ≤ maxLen ∧ base ≤ g ∧ (∀ j, w.frozen? ⟨g, j, none⟩ = false) ∧ ∀ j u, xs[j]? = some u → w.cell? ⟨g, j, none⟩ = some u := by
  have h0 := h
  rcases h.2 with ⟨h1, h2⟩ | ⟨g, cap, cur, he, hb, hg, h1, h2, h3, h4⟩
  · omega
  · subst he
    refine ⟨g, cap, rfl, h1, h2, hb, fun j => Lib.frozen_of_heap hg j, fun j u hu => ?_⟩
    have := h0.cells (g := g) rfl j u hu
    simpa [Addr.add_lit] using this
theorem codeV_set1 (p q : List Ins) (i : Ins) (x y : Int) : ((codeV (p ++ i :: q)).set (p.length * 8 + 1) (.int .i64 x)).set (p.length * 8 + 2) (.int .i64 y) = codeV (p ++ { i with x := x, y := y } :: q) := by
  have e : ∀ i : Ins, codeV (p ++ i :: q) = codeV p ++ (insV i ++ codeV q) := fun i => by rw [codeV_app]; show _ = _; congr 1
  rw [e, e]
  rw [List.set_append_right _ _ (by rw [codeV_len]; omega), List.set_append_right _ _ (by rw [codeV_len]; omega), codeV_len, show p.length * 8 + 1 - p.length * 8 = 1 by omega, show p.length * 8 + 2 - p.length * 8 = 2 by omega]
  rfl
theorem CM.forked {w : World} {gc g c n : Nat} {p q : List Ins} {i : Ins} (h : CM w gc (.slice (some ⟨g, 0, none⟩) n c) (p ++ i :: q)) (hn : n = (p ++ i :: q).length) (hg : gc + 1 ≤ g) (x y : Int) :
    CM ((w.setCell ⟨g, p.length * 8 + 1, none⟩ (.int .i64 x)).setCell ⟨g, p.length * 8 + 2, none⟩ (.int .i64 y)).drew gc (.slice (some ⟨g, 0, none⟩) n c) (p ++ { i with x := x, y := y } :: q) ∧
    CN gc w (.slice (some ⟨g, 0, none⟩) n c) ((w.setCell ⟨g, p.length * 8 + 1, none⟩ (.int .i64 x)).setCell ⟨g, p.length * 8 + 2, none⟩ (.int .i64 y)).drew (.slice (some ⟨g, 0, none⟩) n c) := by
  subst hn
  have ho := own_set8 (i := p.length * 8 + 2) (own_set8 (i := p.length * 8 + 1) h.own (.int .i64 x)) (.int .i64 y)
  rw [codeV_set1] at ho
  have hb : Blk ((w.setCell ⟨g, p.length * 8 + 1, none⟩ (.int .i64 x)).setCell ⟨g, p.length * 8 + 2, none⟩ (.int .i64 y)) gc 83 [.slice (some ⟨g, 0, none⟩) (p ++ i :: q).length c] :=
    Blk.far (Blk.far h.blk (p := ⟨g, p.length * 8 + 1, none⟩) (by show gc ≠ g; omega) _) (p := ⟨g, p.length * 8 + 2, none⟩) (by show gc ≠ g; omega) _
  have hm : g ∈ gc :: (Value.slice (some ⟨g, 0, none⟩) (p ++ i :: q).length c).ownBlock.toList := by simp [Value.ownBlock]
  refine ⟨⟨hb.keep ((Below.refl _ _).drew), ?_⟩, ⟨(((Chg.refl _ w).setCell (p := ⟨g, p.length * 8 + 1, none⟩) hm _).setCell (p := ⟨g, p.length * 8 + 2, none⟩) hm _).drew, fun k hk => .inl hk⟩⟩
  have e : (p ++ { i with x := x, y := y } :: q).length = (p ++ i :: q).length := by simp
  rw [e]
  exact own_ext ho ((Below.refl _ _).drew)

set_option maxHeartbeats 4000000 in
set_option maxRecDepth 20000 in
theorem nfFork {gc : Nat} {v : Value} {p q : List Ins} {i : Ins} (x y : Int) (z : Bool) (w : World) (h : CM w gc v (p ++ i :: q)) (hl : (p ++ i :: q).length ≤ 1000) :
    Calls Tryd.prog 67 #[.pointer (some ⟨gc, 0, none⟩), .int .i64 p.length, .int .i64 x, .int .i64 y, .bool z] w fun e w' => e = .returned (.tuple #[]) ∧ CM w' gc v (p ++ { i with x := if z then y else x, y := if z then x else y } :: q) ∧ CN gc w v w' v := by
  obtain ⟨g, c, rfl, hc1, hc2, hbg, hfz, hcl⟩ := own_blk8 h.own (by simp; omega)
  have hy : w.cell? ⟨gc, 0, none⟩ = some (.slice (some ⟨g, 0, none⟩) (p ++ i :: q).length c) := h.blk.cell 0
  have hne : ¬ gc = g := by omega
  have hne' : ¬ g = gc := by omega
  have f1 := hfz (p.length * 8 + 1)
  have f2 := hfz (p.length * 8 + 2)
  have hpl : (p.length : Int) < (p.length : Int) + (q.length : Int) + 1 := by omega
  have hpl2 : (p.length : Int) < (p.length : Int) + ((q.length : Int) + 1) := by omega
  have e0 : codeV (p ++ i :: q) = codeV p ++ (insV i ++ codeV q) := by rw [codeV_app]; rfl
  have o1 : w.cell? ⟨g, p.length * 8 + 1, none⟩ = some (.int .i64 i.x) := hcl _ _ (by rw [e0, List.getElem?_append_right (by rw [codeV_len]; omega), codeV_len, show p.length * 8 + 1 - p.length * 8 = 1 by omega]; rfl)
  have o2 : w.cell? ⟨g, p.length * 8 + 2, none⟩ = some (.int .i64 i.y) := hcl _ _ (by rw [e0, List.getElem?_append_right (by rw [codeV_len]; omega), codeV_len, show p.length * 8 + 2 - p.length * 8 = 2 by omega]; rfl)
  have HL := Lib.hid hl
  have HC := Lib.hid h
  clear h hfz hcl e0
  cases z
  · go_enter Tryd.func67, Tryd.ntmps67
    go_upto_region 2 with fail
    go_region
    go_end0
    exact ⟨rfl, HC.out.forked rfl hbg x y⟩
  · go_enter Tryd.func67, Tryd.ntmps67
    go_upto_region 2 with fail
    go_region
    go_end0
    exact ⟨rfl, HC.out.forked rfl hbg y x⟩
theorem nfForkAt {gc : Nat} {v : Value} {p q : List Ins} {i : Ins} (x y : Int) (z : Bool) (w : World) (h : CM w gc v (p ++ i :: q)) (hl : (p ++ i :: q).length ≤ 1000) {at_ : Int} (hat : at_ = p.length) :
    Calls Tryd.prog 67 #[.pointer (some ⟨gc, 0, none⟩), .int .i64 at_, .int .i64 x, .int .i64 y, .bool z] w fun e w' => e = .returned (.tuple #[]) ∧ CM w' gc v (p ++ { i with x := if z then y else x, y := if z then x else y } :: q) ∧ CN gc w v w' v := by
  subst hat
  exact nfFork x y z w h hl
end Go.Proofs.YtdhmfgaiomfodaaDoor
namespace Go.Proofs.YtdhmfgaiomfodaaDoor
open Go Go.RowKit
attribute [local irreducible] wd

theorem insV0 (op x y n : Int) : insV ⟨op, x, y, n, fun _ => false⟩ = [.int .i64 op, .int .i64 x, .int .i64 y, .int .i64 n, .int .u64 0, .int .u64 0, .int .u64 0, .int .u64 0] := by
  have e : ∀ j, wd (fun _ => false) j = 0 := fun j => wd_none j
  unfold insV
  simp only [e]
  rfl
theorem nfPut0 {gc : Nat} {v : Value} {code : List Ins} (op x y n : Int) (w : World) (hlen : code.length ≤ 1000) (h : CM w gc v code) :
    Calls Tryd.prog 42 #[.pointer (some ⟨gc, 0, none⟩), .agg #[.int .i64 op, .int .i64 x, .int .i64 y, .int .i64 n, .int .u64 0, .int .u64 0, .int .u64 0, .int .u64 0]] w fun e w' => e = .returned (.int .i64 code.length) ∧ ∃ v', CM w' gc v' (code ++ [⟨op, x, y, n, fun _ => false⟩]) ∧ CN gc w v w' v' := by
  have := nfPut ⟨op, x, y, n, fun _ => false⟩ w hlen h
  rw [insV0] at this
  exact this
mutual
/-- Only kinds that there are, kids where they must be, numbers that may be. -/
def T.full : T → Prop
  | .node k m _ _ ks => 1 ≤ k ∧ k ≤ 8 ∧ (4 ≤ k → ks ≠ []) ∧ (k = 8 → 0 ≤ m ∧ m ≤ 1000) ∧ fullL ks
def fullL : List T → Prop
  | [] => True
  | t :: ts => t.full ∧ fullL ts
end
theorem fullL_mem {ks : List T} (h : fullL ks) {t : T} (ht : t ∈ ks) : t.full := by
  induction ks with
  | nil => cases ht
  | cons u r ih =>
    unfold fullL at h
    rcases List.mem_cons.1 ht with rfl | ht
    · exact h.1
    · exact ih h.2 ht
/-- What the compiler does at a tree, at a list of branches. -/
def NodeOK (t : T) : Prop := ∀ (w : World) (gc : Nat) (v : Value) (code : List Ins) (S : Nat → Prop) (nv : List Value) (a : Nat), a = code.length → t.full → code.length + lenT t ≤ 390 → CM w gc v code → NodeV S w t nv → (∀ b, S b → b ∉ gc :: v.ownBlock.toList) →
  Calls Tryd.prog 41 #[.pointer (some ⟨gc, 0, none⟩), .agg nv.toArray] w fun e w' => e = .returned (.tuple #[]) ∧ ∃ v', CM w' gc v' (code ++ codeT t a) ∧ CN gc w v w' v'
def AltOK (ks : List T) : Prop := ∀ (w : World) (gc : Nat) (v : Value) (code : List Ins) (S : Nat → Prop) (A : Option Addr) (c : Nat) (cs : List Value) (a : Nat), a = code.length → ks ≠ [] → fullL ks → code.length + lenA ks ≤ 390 → CM w gc v code → ks.length ≤ c → c ≤ maxLen → Rd w 8 A ks.length cs → (∀ b o x, A = some ⟨b, o, x⟩ → 0 < ks.length → S b) → KidsV S w ks cs → (∀ b, S b → b ∉ gc :: v.ownBlock.toList) →
  Calls Tryd.prog 66 #[.pointer (some ⟨gc, 0, none⟩), .slice A ks.length c] w fun e w' => e = .returned (.tuple #[]) ∧ ∃ v', CM w' gc v' (code ++ codeAlt ks a) ∧ CN gc w v w' v'
/-- Blocks below that weren't the compiler's are not its after. -/
theorem CN.far {gc : Nat} {w w' : World} {v v' : Value} (h : CN gc w v w' v') {b : Nat} (hb : b < w.heap.size) (hn : b ∉ gc :: v.ownBlock.toList) : b ∉ gc :: v'.ownBlock.toList := by
  intro hm
  rcases List.mem_cons.1 hm with rfl | hm
  · exact hn (by simp)
  · rcases h.at_ b (by simpa using hm) with e | e
    · exact hn (by simp [e])
    · omega
theorem codeCat_snoc : ∀ (ts : List T) (t : T) (a : Nat), codeCat (ts ++ [t]) a = codeCat ts a ++ codeT t (a + (codeCat ts a).length)
  | [], t, a => by simp [codeCat]
  | u :: ts, t, a => by
    rw [List.cons_append, codeCat, codeCat_snoc ts t, codeCat]
    simp [Nat.add_assoc]
theorem lenC_take {ks : List T} {i : Nat} (h : i < ks.length) : lenC (ks.take i) + lenT ks[i] ≤ lenC ks := by
  induction ks generalizing i with
  | nil => simp at h
  | cons t ts ih =>
    cases i with
    | zero => simp [lenC]
    | succ i => have := ih (i := i) (by simpa using h); simp [lenC]; omega
/-- The kids' cells, where they stand. -/
structure Kids (S : Nat → Prop) (w : World) (A : Option Addr) (ks : List T) (cs : List Value) : Prop where
  rd : Rd w 8 A ks.length cs
  at_ : ∀ b o x, A = some ⟨b, o, x⟩ → 0 < ks.length → S b
  kv : KidsV S w ks cs
theorem Kids.chg {S : Nat → Prop} {w w' : World} {A : Option Addr} {ks : List T} {cs : List Value} {X : List Nat} (h : Kids S w A ks cs) (hx : Chg X w w') (hs : ∀ x ∈ X, ¬ S x) : Kids S w' A ks cs :=
  ⟨h.rd.chg hx (fun hp b o x e hm => hs b hm (h.at_ b o x e (by have := h.rd.1; omega))), h.at_, kidsV_map (fun _ _ hv => NodeV.chg hv hx hs) h.kv⟩
theorem Kids.map {S S' : Nat → Prop} {w : World} {A : Option Addr} {ks : List T} {cs : List Value} (h : Kids S w A ks cs) (hs : ∀ b, b < w.heap.size → S b → S' b) : Kids S' w A ks cs :=
  ⟨h.rd, fun b o x e hp => hs b (by obtain ⟨b', o', e', hl, _⟩ := h.rd.2 (by rw [h.rd.1]; omega); rw [e] at e'; cases e'; exact hl) (h.at_ b o x e hp), kidsV_map (fun _ _ hv => NodeV.mono hv hs) h.kv⟩

set_option maxHeartbeats 8000000 in
set_option maxRecDepth 20000 in
theorem nfNode (t : T) (hN : ∀ u, u.size < t.size → NodeOK u) (hA : ∀ ks, sizeL ks < t.size → AltOK ks) : NodeOK t := by
  intro w gc v code S nv a ha hg hlen hC hv hS
  subst ha
  cases t with
  | node k m z p ks =>
  unfold T.full at hg
  obtain ⟨hk1, hk8, hk5, hm8, hgl⟩ := hg
  rw [size_node] at hN hA
  unfold NodeV at hv
  obtain ⟨A, c, cs, rfl, hc1, hc2, hR, hSA, hK⟩ := hv
  obtain ⟨gn, hgn⟩ : ∃ gn, w.heap.size = gn := ⟨_, rfl⟩
  have hx0 := Lib.hid (Ext.new1 w (.cells (nodeC k m z p A ks.length c).toArray 27))
  have HB := Lib.hid (show NodeB (w.alloc (.cells (nodeC k m z p A ks.length c).toArray 27)) gn k m z p A ks.length c from hgn ▸ NodeB.new w k m z p A ks.length c)
  have HC := Lib.hid (hC.keep hx0.out)
  have HX := Lib.hid (show ∀ x ∈ gc :: v.ownBlock.toList, x < gn from fun x hx => hgn ▸ hC.lt x hx)
  have HK := Lib.hid (show Kids (fun b => b < gn ∧ b ∉ gc :: v.ownBlock.toList) (w.alloc (.cells (nodeC k m z p A ks.length c).toArray 27)) A ks cs from by
    have h0 : Kids (fun b => b < gn ∧ b ∉ gc :: v.ownBlock.toList) w A ks cs := (Kids.mk hR hSA hK).map (fun b hb hs => ⟨hgn ▸ hb, hS b hs⟩)
    exact h0.chg (.of_ext (X := []) hx0.out) (by simp))
  have HN0 := Lib.hid (show CN gc w v (w.alloc (.cells (nodeC k m z p A ks.length c).toArray 27)) v from CN.ext hx0.out)
  have HGS := Lib.hid (show gn < (w.alloc (.cells (nodeC k m z p A ks.length c).toArray 27)).heap.size from Blk.lt HB.out)
  have HLEN := Lib.hid hlen
  have HCP := Lib.hid (And.intro hc1 hc2)
  have HL := Lib.hid (show (code.length : Int) ≤ 400 by omega)
  have HNN := Lib.hid hN
  have HAA := Lib.hid hA
  have HGL := Lib.hid hgl
  clear hC hR hSA hK hS hN hA hlen hc1 hc2 hgl
  have hl4 : ¬ (400 : Int) < (code.length : Int) := by have := HL.out; omega
  have hl4' : decide ((code.length : Int) > 400) = false := decide_eq_false (by omega)
  unfold nodeC at hx0 HB HC HK HN0 HGS ⊢
  by_cases k2 : k = 2
  focus
    subst k2
    go_enter Tryd.func41, Tryd.ntmps41
    go_upto_region 1 with fail
    try rw [hgn]
    generalize w.alloc (.cells #[.int .i64 2, .int .i64 m, .bool z, .int .u64 (wd p 0 : Nat), .int .u64 (wd p 1 : Nat), .int .u64 (wd p 2 : Nat), .int .u64 (wd p 3 : Nat), .slice A ks.length c] 27) = wa at *
    obtain ⟨b0, b1, b2, b3, b4, b5, b6, b7⟩ := HB.out.cells
    go_wp2_with (first
      | (go_at_call 65; refine (nfHere _ HC.out).mono ?_; rintro e wh ⟨rfl, hwh⟩; obtain rfl : wa = wh := hwh.symm)
      | (go_at_call 42; refine (nfPut (iByte p) _ (by have := HLEN.out; omega) HC.out).mono ?_; rintro e w2 ⟨rfl, v2, hC2, hN2⟩))
    go_end0
    exact ⟨rfl, v2, hC2, HN0.out.trans hN2⟩
  have n2 : (k == 2) = false := by rw [beq_eq_false_iff_ne]; exact k2
  by_cases k3 : k = 3
  focus
    subst k3
    have HCT := Lib.hid (show ∀ b, codeT (.node 3 m z p ks) b = codeCat ks b from fun _ => rfl)
    go_enter Tryd.func41, Tryd.ntmps41
    go_upto_region 1 with fail
    try rw [hgn]
    generalize w.alloc (.cells #[.int .i64 3, .int .i64 m, .bool z, .int .u64 (wd p 0 : Nat), .int .u64 (wd p 1 : Nat), .int .u64 (wd p 2 : Nat), .int .u64 (wd p 3 : Nat), .slice A ks.length c] 27) = wa at *
    obtain ⟨b0, b1, b2, b3, b4, b5, b6, b7⟩ := HB.out.cells
    go_upto_region 7 with (go_at_call 65; refine (nfHere _ HC.out).mono ?_; rintro e wh ⟨rfl, hwh⟩; obtain rfl : wa = wh := hwh.symm)
    go_loopg [26] ks.length (fun gg iv wr => ∃ (iq : Nat) (v' : Value), iq ≤ ks.length ∧ gg = ks.length - iq ∧ iv = .int .i64 (iq : Nat) ∧ CM wr gc v' (code ++ codeCat (ks.take iq) code.length) ∧ CN gc wa v wr v')
    case atStart => exact ⟨0, v, Nat.zero_le _, by simp, rfl, by simpa [codeCat] using HC.out, CN.refl⟩
    case round =>
      obtain ⟨iq, v', hi, rfl, rfl, hC', hN'⟩ := hrel
      have HC' := Lib.hid hC'
      have HN' := Lib.hid hN'
      clear hC' hN'
      by_cases hlt : iq < ks.length
      · have hKr : Kids (fun b => b < gn ∧ b ∉ gc :: v.ownBlock.toList) wr A ks cs := HK.out.chg HN'.out.ch (fun x hx h => h.2 hx)
        have hwi : IntKind.i64.wrap ((iq : Int) + 1) = (iq : Int) + 1 := wrap_id (by omega) (by have := HCP.out; unfold maxLen at this; omega)
        have hbn := HB.out.chg HN'.out.ch (fun hm => by have := HX.out gn hm; omega)
        obtain ⟨b, o, k', m', z', p', B', n', c', rfl, hkv, hkc⟩ := kid_at hKr.rd hKr.kv hlt
        obtain ⟨d0, d1, d2, d3, d4, d5, d6, d7⟩ := hkc.out _ (Ext.refl _)
        have hx6 := Ext.new1 wr (.cells (nodeC k' m' z' p' B' n' c').toArray 27)
        have HX6 := Lib.hid hx6
        have HKV := Lib.hid (hkv.keep hx6)
        have HB6 := Lib.hid (NodeB.new wr k' m' z' p' B' n' c')
        have HTK := Lib.hid (List.take_succ_eq_append_getElem hlt)
        have HLT := Lib.hid (lenC_take hlt)
        have HMEM := Lib.hid (List.getElem_mem hlt)
        clear hkv hkc hx6 hKr hbn
        generalize ks[iq]'hlt = u at *
        unfold nodeC at HX6 HKV HB6
        go_upto_region 9 with fail
        generalize wr.alloc (.cells #[.int .i64 k', .int .i64 m', .bool z', .int .u64 (wd p' 0 : Nat), .int .u64 (wd p' 1 : Nat), .int .u64 (wd p' 2 : Nat), .int .u64 (wd p' 3 : Nat), .slice B' n' c'] 27) = w6 at *
        generalize wr.heap.size = g6 at *
        obtain ⟨y0, y1, y2, y3, y4, y5, y6, y7⟩ := HB6.out.cells
        go_wp2_with (go_at_call 41; refine (HNN.out u (by have := sizeL_mem HMEM.out; omega) w6 gc v' (code ++ codeCat (ks.take iq) code.length) (fun b => b < gn ∧ b ∉ gc :: v.ownBlock.toList) _ (code.length + (codeCat (ks.take iq) code.length).length) (by rw [List.length_append]) (fullL_mem HGL.out HMEM.out) (by have h1 := HLEN.out; have h2 := HLT.out; have h3 : lenT (.node 3 m z p ks) = lenC ks := rfl; rw [List.length_append, codeCat_len]; omega) (HC'.out.keep HX6.out) HKV.out (fun b hb => CN.far HN'.out (Nat.lt_trans hb.1 HGS.out) hb.2)).mono ?_; rintro e w7 ⟨rfl, v7, hC7, hN7⟩)
        go_roundg (ks.length - (iq + 1))
        case measure => omega
        case rel =>
          refine ⟨iq + 1, v7, by omega, rfl, rfl, ?_, HN'.out.trans ((CN.ext HX6.out).trans hN7)⟩
          rw [HTK.out, codeCat_snoc, ← List.append_assoc]
          exact hC7
      · obtain rfl : iq = ks.length := by omega
        go_wp2
        go_end0
        refine ⟨rfl, v', ?_, HN0.out.trans HN'.out⟩
        have := HC'.out
        rw [List.take_length] at this
        rw [HCT.out]
        exact this
  have n3 : (k == 3) = false := by rw [beq_eq_false_iff_ne]; exact k3
  by_cases k4 : k = 4
  focus
    subst k4
    have HCT := Lib.hid (show ∀ b, codeT (.node 4 m z p ks) b = codeAlt ks b from fun _ => rfl)
    have HL4 := Lib.hid (show lenT (.node 4 m z p ks) = lenA ks from rfl)
    have HNE := Lib.hid (hk5 (by omega))
    go_enter Tryd.func41, Tryd.ntmps41
    go_upto_region 1 with fail
    try rw [hgn]
    generalize w.alloc (.cells #[.int .i64 4, .int .i64 m, .bool z, .int .u64 (wd p 0 : Nat), .int .u64 (wd p 1 : Nat), .int .u64 (wd p 2 : Nat), .int .u64 (wd p 3 : Nat), .slice A ks.length c] 27) = wa at *
    obtain ⟨b0, b1, b2, b3, b4, b5, b6, b7⟩ := HB.out.cells
    go_wp2_with (first
      | (go_at_call 65; refine (nfHere _ HC.out).mono ?_; rintro e wh ⟨rfl, hwh⟩; obtain rfl : wa = wh := hwh.symm)
      | (go_at_call 66; refine (HAA.out ks (by omega) wa gc v code _ A c cs code.length rfl HNE.out HGL.out (by have := HLEN.out; have := HL4.out; omega) HC.out HCP.out.1 HCP.out.2 HK.out.rd HK.out.at_ HK.out.kv (fun b hb => hb.2)).mono ?_; rintro e w2 ⟨rfl, v2, hC2, hN2⟩))
    go_end0
    exact ⟨rfl, v2, by rw [HCT.out]; exact hC2, HN0.out.trans hN2⟩
  have n4 : (k == 4) = false := by rw [beq_eq_false_iff_ne]; exact k4
  by_cases k8 : k = 8
  focus
    subst k8
    obtain ⟨u, us, hks⟩ : ∃ u us, ks = u :: us := by
      cases ks with
      | nil => exact absurd rfl (hk5 (by omega))
      | cons u us => exact ⟨u, us, rfl⟩
    have HFU := Lib.hid (fullL_mem (t := u) HGL.out (by rw [hks]; exact List.mem_cons_self))
    have HSU := Lib.hid (show u.size < 1 + sizeL ks by rw [hks]; unfold sizeL; omega)
    have hpn : 0 < ks.length := by rw [hks]; simp
    have hpos : (0 : Int) < (ks.length : Int) := by omega
    have HU0 := Lib.hid (show ks[0]'hpn = u by simp only [hks]; rfl)
    have HHD := Lib.hid (show ∀ b, codeHead ks b = codeT u b from fun b => by rw [hks]; rfl)
    have HLH := Lib.hid (show lenH ks = lenT u by rw [hks]; rfl)
    clear hks us
    have HCT := Lib.hid (show ∀ b, codeT (.node 8 m z p ks) b = ⟨4, 0, 0, 2 * m, fun _ => false⟩ :: (codeT u (b + 1) ++ [⟨4, 0, 0, 2 * m + 1, fun _ => false⟩]) from fun b => by rw [← HHD.out]; rfl)
    have HL8 := Lib.hid (show lenT (.node 8 m z p ks) = lenT u + 2 by rw [← HLH.out]; rfl)
    obtain ⟨hm0, hm1⟩ := hm8 rfl
    have hw2 : IntKind.i64.wrap (2 * m) = 2 * m := wrap_id (by omega) (by omega)
    have hw3 : IntKind.i64.wrap (2 * m + 1) = 2 * m + 1 := wrap_id (by omega) (by omega)
    go_enter Tryd.func41, Tryd.ntmps41
    go_upto_region 1 with fail
    try rw [hgn]
    generalize w.alloc (.cells #[.int .i64 8, .int .i64 m, .bool z, .int .u64 (wd p 0 : Nat), .int .u64 (wd p 1 : Nat), .int .u64 (wd p 2 : Nat), .int .u64 (wd p 3 : Nat), .slice A ks.length c] 27) = wa at *
    obtain ⟨b0, b1, b2, b3, b4, b5, b6, b7⟩ := HB.out.cells
    go_upto_region 27 with (first
      | (go_at_call 65; refine (nfHere _ HC.out).mono ?_; rintro e wh ⟨rfl, hwh⟩; obtain rfl : wa = wh := hwh.symm)
      | (go_at_call 42; refine (nfPut0 4 0 0 (2 * m) _ (by have := HLEN.out; omega) HC.out).mono ?_; rintro e w2 ⟨rfl, v2, hC2, hN2⟩))
    clear b0 b1 b2 b3 b4 b5 b6 b7
    have hKr : Kids (fun b => b < gn ∧ b ∉ gc :: v.ownBlock.toList) w2 A ks cs := HK.out.chg hN2.ch (fun x hx h => h.2 hx)
    have hbn := HB.out.chg hN2.ch (fun hm => by have := HX.out gn hm; omega)
    obtain ⟨b, o, k', m', z', p', B', n', c', rfl, hkv, hkc⟩ := kid_at hKr.rd hKr.kv (i := 0) hpn
    obtain ⟨d0, d1, d2, d3, d4, d5, d6, d7⟩ := hkc.out _ (Ext.refl _)
    simp only [Nat.zero_mul, Nat.add_zero] at d0 d1 d2 d3 d4 d5 d6 d7
    rw [HU0.out] at hkv
    have HKV := Lib.hid hkv
    obtain ⟨b0, b1, b2, b3, b4, b5, b6, b7⟩ := NodeB.cells hbn
    clear hkv hkc hKr hbn
    have HC2 := Lib.hid hC2
    have HN2 := Lib.hid hN2
    clear hC2 hN2
    go_upto_region 28 with (go_at_call 41; refine (HNN.out u HSU.out w2 gc v2 (code ++ [⟨4, 0, 0, 2 * m, fun _ => false⟩]) (fun b => b < gn ∧ b ∉ gc :: v.ownBlock.toList) _ (code.length + 1) (by simp) HFU.out (by have := HLEN.out; have := HL8.out; simp; omega) HC2.out HKV.out (fun b hb => CN.far HN2.out (Nat.lt_trans hb.1 HGS.out) hb.2)).mono ?_; rintro e w3 ⟨rfl, v3, hC3, hN3⟩)
    clear d0 d1 d2 d3 d4 d5 d6 d7 b0 b1 b2 b3 b4 b5 b6 b7
    have HN3 := Lib.hid (HN2.out.trans hN3)
    have HC3 := Lib.hid hC3
    have hbn := HB.out.chg HN3.out.ch (fun hm => by have := HX.out gn hm; omega)
    obtain ⟨b0, b1, b2, b3, b4, b5, b6, b7⟩ := NodeB.cells hbn
    clear hbn hC3 hN3
    go_wp2_with (go_at_call 42; refine (nfPut0 4 0 0 (2 * m + 1) _ (by have := HLEN.out; have := HL8.out; simp [codeT_len]; omega) HC3.out).mono ?_; rintro e w4 ⟨rfl, v4, hC4, hN4⟩)
    go_end0
    refine ⟨rfl, v4, ?_, HN0.out.trans (HN3.out.trans hN4)⟩
    rw [HCT.out]
    simpa using hC4
  have n8 : (k == 8) = false := by rw [beq_eq_false_iff_ne]; exact k8
  by_cases k5 : k = 5
  focus
    subst k5
    obtain ⟨u, us, hks⟩ : ∃ u us, ks = u :: us := by
      cases ks with
      | nil => exact absurd rfl (hk5 (by omega))
      | cons u us => exact ⟨u, us, rfl⟩
    have HFU := Lib.hid (fullL_mem (t := u) HGL.out (by rw [hks]; exact List.mem_cons_self))
    have HSU := Lib.hid (show u.size < 1 + sizeL ks by rw [hks]; unfold sizeL; omega)
    have hpn : 0 < ks.length := by rw [hks]; simp
    have hpos : (0 : Int) < (ks.length : Int) := by omega
    have HU0 := Lib.hid (show ks[0]'hpn = u by simp only [hks]; rfl)
    have HHD := Lib.hid (show ∀ b, codeHead ks b = codeT u b from fun b => by rw [hks]; rfl)
    have HLH := Lib.hid (show lenH ks = lenT u by rw [hks]; rfl)
    clear hks us
    have HCT := Lib.hid (show ∀ b, codeT (.node 5 m z p ks) b = iSplit (b + 1) (b + (codeT u (b + 1)).length + 2) z :: (codeT u (b + 1) ++ [iJump b]) from fun b => by rw [← HHD.out]; rfl)
    have HL8 := Lib.hid (show lenT (.node 5 m z p ks) = lenT u + 2 by rw [← HLH.out]; rfl)
    go_enter Tryd.func41, Tryd.ntmps41
    go_upto_region 1 with fail
    try rw [hgn]
    generalize w.alloc (.cells #[.int .i64 5, .int .i64 m, .bool z, .int .u64 (wd p 0 : Nat), .int .u64 (wd p 1 : Nat), .int .u64 (wd p 2 : Nat), .int .u64 (wd p 3 : Nat), .slice A ks.length c] 27) = wa at *
    obtain ⟨b0, b1, b2, b3, b4, b5, b6, b7⟩ := HB.out.cells
    go_upto_region 16 with (first
      | (go_at_call 65; refine (nfHere _ HC.out).mono ?_; rintro e wh ⟨rfl, hwh⟩; obtain rfl : wa = wh := hwh.symm)
      | (go_at_call 42; refine (nfPut0 3 0 0 0 _ (by have := HLEN.out; omega) HC.out).mono ?_; rintro e w2 ⟨rfl, v2, hC2, hN2⟩))
    clear b0 b1 b2 b3 b4 b5 b6 b7
    have hKr : Kids (fun b => b < gn ∧ b ∉ gc :: v.ownBlock.toList) w2 A ks cs := HK.out.chg hN2.ch (fun x hx h => h.2 hx)
    have hbn := HB.out.chg hN2.ch (fun hm => by have := HX.out gn hm; omega)
    obtain ⟨b, o, k', m', z', p', B', n', c', rfl, hkv, hkc⟩ := kid_at hKr.rd hKr.kv (i := 0) hpn
    obtain ⟨d0, d1, d2, d3, d4, d5, d6, d7⟩ := hkc.out _ (Ext.refl _)
    simp only [Nat.zero_mul, Nat.add_zero] at d0 d1 d2 d3 d4 d5 d6 d7
    rw [HU0.out] at hkv
    have HKV := Lib.hid hkv
    obtain ⟨b0, b1, b2, b3, b4, b5, b6, b7⟩ := NodeB.cells hbn
    clear hkv hkc hKr hbn
    have HC2 := Lib.hid hC2
    have HN2 := Lib.hid hN2
    clear hC2 hN2
    go_upto_region 17 with (go_at_call 41; refine (HNN.out u HSU.out w2 gc v2 (code ++ [⟨3, 0, 0, 0, fun _ => false⟩]) (fun b => b < gn ∧ b ∉ gc :: v.ownBlock.toList) _ (code.length + 1) (by simp) HFU.out (by have := HLEN.out; have := HL8.out; simp; omega) HC2.out HKV.out (fun b hb => CN.far HN2.out (Nat.lt_trans hb.1 HGS.out) hb.2)).mono ?_; rintro e w3 ⟨rfl, v3, hC3, hN3⟩)
    clear d0 d1 d2 d3 d4 d5 d6 d7 b0 b1 b2 b3 b4 b5 b6 b7
    have HN3 := Lib.hid (HN2.out.trans hN3)
    have HC3 := Lib.hid hC3
    clear hC3 hN3
    have hbn := HB.out.chg HN3.out.ch (fun hm => by have := HX.out gn hm; omega)
    obtain ⟨b0, b1, b2, b3, b4, b5, b6, b7⟩ := NodeB.cells hbn
    clear hbn
    go_upto_region 19 with (go_at_call 42; refine (nfPut0 2 code.length 0 0 _ (by have := HLEN.out; have := HL8.out; simp [codeT_len]; omega) HC3.out).mono ?_; rintro e w4 ⟨rfl, v4, hC4, hN4⟩)
    clear b0 b1 b2 b3 b4 b5 b6 b7
    have HN4 := Lib.hid (HN3.out.trans hN4)
    have HC4 := Lib.hid hC4
    clear hC4 hN4
    have hbn := HB.out.chg HN4.out.ch (fun hm => by have := HX.out gn hm; omega)
    obtain ⟨b0, b1, b2, b3, b4, b5, b6, b7⟩ := NodeB.cells hbn
    clear hbn
    obtain ⟨L, hL⟩ : ∃ L : Nat, ((code) ++ (⟨3, 0, 0, 0, fun _ => false⟩ : Ins) :: (codeT u (code.length + 1) ++ [(⟨2, code.length, 0, 0, fun _ => false⟩ : Ins)])).length = L := ⟨_, rfl⟩
    have HLL := Lib.hid hL
    have HCF := Lib.hid (show CM w4.drew gc v4 ((code) ++ (⟨3, 0, 0, 0, fun _ => false⟩ : Ins) :: (codeT u (code.length + 1) ++ [(⟨2, code.length, 0, 0, fun _ => false⟩ : Ins)])) by have := (HC4.out).keep ((Below.refl _ _).drew); simpa using this)
    have HHE := Lib.hid (show Calls Tryd.prog 65 #[.pointer (some ⟨gc, 0, none⟩)] w4.drew fun e w' => e = .returned (.int .i64 (L : Nat)) ∧ w' = w4.drew by have := nfHere w4.drew HCF.out; rw [hL] at this; exact this)
    have hwx : IntKind.i64.wrap (((code).length : Int) + 1) = ((code).length : Int) + 1 := wrap_id (by omega) (by have := HLEN.out; simp; omega)
    clear hL
    go_region_with (first
      | (go_at_call 65; refine HHE.out.mono ?_; rintro e wh ⟨rfl, hwh⟩; subst hwh)
      | (go_at_call 67; refine (nfFork (p := code) (q := codeT u (code.length + 1) ++ [(⟨2, code.length, 0, 0, fun _ => false⟩ : Ins)]) (i := ⟨3, 0, 0, 0, fun _ => false⟩) _ _ z _ HCF.out (by have := HLEN.out; have := HL8.out; simp [codeT_len]; omega)).mono ?_; rintro e w5 ⟨rfl, hC5, hN5⟩))
    all_goals
      go_end0
      refine ⟨rfl, v4, ?_, HN0.out.trans (HN4.out.trans ((CN.ext ((Below.refl _ _).drew)).trans hN5))⟩
      rw [HCT.out]
      have e : iSplit (code.length + 1) (code.length + (codeT u (code.length + 1)).length + 2) z = ⟨3, if z then (L : Int) else code.length + 1, if z then (code.length : Int) + 1 else L, 0, fun _ => false⟩ := by
        have h1 : L = code.length + (codeT u (code.length + 1)).length + 2 := by rw [← HLL.out]; simp; omega
        rw [h1]
        cases z <;> simp [iSplit]
      rw [e]
      exact hC5
  have n5 : (k == 5) = false := by rw [beq_eq_false_iff_ne]; exact k5
  by_cases k7 : k = 7
  focus
    subst k7
    obtain ⟨u, us, hks⟩ : ∃ u us, ks = u :: us := by
      cases ks with
      | nil => exact absurd rfl (hk5 (by omega))
      | cons u us => exact ⟨u, us, rfl⟩
    have HFU := Lib.hid (fullL_mem (t := u) HGL.out (by rw [hks]; exact List.mem_cons_self))
    have HSU := Lib.hid (show u.size < 1 + sizeL ks by rw [hks]; unfold sizeL; omega)
    have hpn : 0 < ks.length := by rw [hks]; simp
    have hpos : (0 : Int) < (ks.length : Int) := by omega
    have HU0 := Lib.hid (show ks[0]'hpn = u by simp only [hks]; rfl)
    have HHD := Lib.hid (show ∀ b, codeHead ks b = codeT u b from fun b => by rw [hks]; rfl)
    have HLH := Lib.hid (show lenH ks = lenT u by rw [hks]; rfl)
    clear hks us
    have HCT := Lib.hid (show ∀ b, codeT (.node 7 m z p ks) b = iSplit (b + 1) (b + (codeT u (b + 1)).length + 1) z :: (codeT u (b + 1)) from fun b => by rw [← HHD.out]; rfl)
    have HL8 := Lib.hid (show lenT (.node 7 m z p ks) = lenT u + 1 by rw [← HLH.out]; rfl)
    go_enter Tryd.func41, Tryd.ntmps41
    go_upto_region 1 with fail
    try rw [hgn]
    generalize w.alloc (.cells #[.int .i64 7, .int .i64 m, .bool z, .int .u64 (wd p 0 : Nat), .int .u64 (wd p 1 : Nat), .int .u64 (wd p 2 : Nat), .int .u64 (wd p 3 : Nat), .slice A ks.length c] 27) = wa at *
    obtain ⟨b0, b1, b2, b3, b4, b5, b6, b7⟩ := HB.out.cells
    go_upto_region 16 with (first
      | (go_at_call 65; refine (nfHere _ HC.out).mono ?_; rintro e wh ⟨rfl, hwh⟩; obtain rfl : wa = wh := hwh.symm)
      | (go_at_call 42; refine (nfPut0 3 0 0 0 _ (by have := HLEN.out; omega) HC.out).mono ?_; rintro e w2 ⟨rfl, v2, hC2, hN2⟩))
    clear b0 b1 b2 b3 b4 b5 b6 b7
    have hKr : Kids (fun b => b < gn ∧ b ∉ gc :: v.ownBlock.toList) w2 A ks cs := HK.out.chg hN2.ch (fun x hx h => h.2 hx)
    have hbn := HB.out.chg hN2.ch (fun hm => by have := HX.out gn hm; omega)
    obtain ⟨b, o, k', m', z', p', B', n', c', rfl, hkv, hkc⟩ := kid_at hKr.rd hKr.kv (i := 0) hpn
    obtain ⟨d0, d1, d2, d3, d4, d5, d6, d7⟩ := hkc.out _ (Ext.refl _)
    simp only [Nat.zero_mul, Nat.add_zero] at d0 d1 d2 d3 d4 d5 d6 d7
    rw [HU0.out] at hkv
    have HKV := Lib.hid hkv
    obtain ⟨b0, b1, b2, b3, b4, b5, b6, b7⟩ := NodeB.cells hbn
    clear hkv hkc hKr hbn
    have HC2 := Lib.hid hC2
    have HN2 := Lib.hid hN2
    clear hC2 hN2
    go_upto_region 17 with (go_at_call 41; refine (HNN.out u HSU.out w2 gc v2 (code ++ [⟨3, 0, 0, 0, fun _ => false⟩]) (fun b => b < gn ∧ b ∉ gc :: v.ownBlock.toList) _ (code.length + 1) (by simp) HFU.out (by have := HLEN.out; have := HL8.out; simp; omega) HC2.out HKV.out (fun b hb => CN.far HN2.out (Nat.lt_trans hb.1 HGS.out) hb.2)).mono ?_; rintro e w3 ⟨rfl, v3, hC3, hN3⟩)
    clear d0 d1 d2 d3 d4 d5 d6 d7 b0 b1 b2 b3 b4 b5 b6 b7
    have HN3 := Lib.hid (HN2.out.trans hN3)
    have HC3 := Lib.hid hC3
    clear hC3 hN3
    have hbn := HB.out.chg HN3.out.ch (fun hm => by have := HX.out gn hm; omega)
    obtain ⟨b0, b1, b2, b3, b4, b5, b6, b7⟩ := NodeB.cells hbn
    clear hbn
    go_upto_region 19 with fail
    obtain ⟨L, hL⟩ : ∃ L : Nat, ((code) ++ (⟨3, 0, 0, 0, fun _ => false⟩ : Ins) :: (codeT u (code.length + 1))).length = L := ⟨_, rfl⟩
    have HLL := Lib.hid hL
    have HCF := Lib.hid (show CM w3.drew gc v3 ((code) ++ (⟨3, 0, 0, 0, fun _ => false⟩ : Ins) :: (codeT u (code.length + 1))) by have := (HC3.out).keep ((Below.refl _ _).drew); simpa using this)
    have HHE := Lib.hid (show Calls Tryd.prog 65 #[.pointer (some ⟨gc, 0, none⟩)] w3.drew fun e w' => e = .returned (.int .i64 (L : Nat)) ∧ w' = w3.drew by have := nfHere w3.drew HCF.out; rw [hL] at this; exact this)
    have hwx : IntKind.i64.wrap (((code).length : Int) + 1) = ((code).length : Int) + 1 := wrap_id (by omega) (by have := HLEN.out; simp; omega)
    clear hL
    go_region_with (first
      | (go_at_call 65; refine HHE.out.mono ?_; rintro e wh ⟨rfl, hwh⟩; subst hwh)
      | (go_at_call 67; refine (nfFork (p := code) (q := codeT u (code.length + 1)) (i := ⟨3, 0, 0, 0, fun _ => false⟩) _ _ z _ HCF.out (by have := HLEN.out; have := HL8.out; simp [codeT_len]; omega)).mono ?_; rintro e w5 ⟨rfl, hC5, hN5⟩))
    all_goals
      go_end0
      refine ⟨rfl, v3, ?_, HN0.out.trans (HN3.out.trans ((CN.ext ((Below.refl _ _).drew)).trans hN5))⟩
      rw [HCT.out]
      have e : iSplit (code.length + 1) (code.length + (codeT u (code.length + 1)).length + 1) z = ⟨3, if z then (L : Int) else code.length + 1, if z then (code.length : Int) + 1 else L, 0, fun _ => false⟩ := by
        have h1 : L = code.length + (codeT u (code.length + 1)).length + 1 := by rw [← HLL.out]; simp; omega
        rw [h1]
        cases z <;> simp [iSplit]
      rw [e]
      exact hC5
  have n7 : (k == 7) = false := by rw [beq_eq_false_iff_ne]; exact k7
  by_cases k6 : k = 6
  focus
    subst k6
    obtain ⟨u, us, hks⟩ : ∃ u us, ks = u :: us := by
      cases ks with
      | nil => exact absurd rfl (hk5 (by omega))
      | cons u us => exact ⟨u, us, rfl⟩
    have HFU := Lib.hid (fullL_mem (t := u) HGL.out (by rw [hks]; exact List.mem_cons_self))
    have HSU := Lib.hid (show u.size < 1 + sizeL ks by rw [hks]; unfold sizeL; omega)
    have hpn : 0 < ks.length := by rw [hks]; simp
    have hpos : (0 : Int) < (ks.length : Int) := by omega
    have HU0 := Lib.hid (show ks[0]'hpn = u by simp only [hks]; rfl)
    have HHD := Lib.hid (show ∀ b, codeHead ks b = codeT u b from fun b => by rw [hks]; rfl)
    have HLH := Lib.hid (show lenH ks = lenT u by rw [hks]; rfl)
    clear hks us
    have HCT := Lib.hid (show ∀ b, codeT (.node 6 m z p ks) b = codeT u b ++ [iSplit b (b + (codeT u b).length + 1) z] from fun b => by rw [← HHD.out]; rfl)
    have HL8 := Lib.hid (show lenT (.node 6 m z p ks) = lenT u + 1 by rw [← HLH.out]; rfl)
    go_enter Tryd.func41, Tryd.ntmps41
    go_upto_region 1 with fail
    try rw [hgn]
    generalize w.alloc (.cells #[.int .i64 6, .int .i64 m, .bool z, .int .u64 (wd p 0 : Nat), .int .u64 (wd p 1 : Nat), .int .u64 (wd p 2 : Nat), .int .u64 (wd p 3 : Nat), .slice A ks.length c] 27) = wa at *
    obtain ⟨b0, b1, b2, b3, b4, b5, b6, b7⟩ := HB.out.cells
    go_upto_region 22 with (go_at_call 65; refine (nfHere _ HC.out).mono ?_; rintro e wh ⟨rfl, hwh⟩; obtain rfl : wa = wh := hwh.symm)
    clear b0 b1 b2 b3 b4 b5 b6 b7
    have hN2 : CN gc wa v wa v := CN.refl
    have hKr : Kids (fun b => b < gn ∧ b ∉ gc :: v.ownBlock.toList) wa A ks cs := HK.out.chg hN2.ch (fun x hx h => h.2 hx)
    have hbn := HB.out.chg hN2.ch (fun hm => by have := HX.out gn hm; omega)
    obtain ⟨b, o, k', m', z', p', B', n', c', rfl, hkv, hkc⟩ := kid_at hKr.rd hKr.kv (i := 0) hpn
    obtain ⟨d0, d1, d2, d3, d4, d5, d6, d7⟩ := hkc.out _ (Ext.refl _)
    simp only [Nat.zero_mul, Nat.add_zero] at d0 d1 d2 d3 d4 d5 d6 d7
    rw [HU0.out] at hkv
    have HKV := Lib.hid hkv
    obtain ⟨b0, b1, b2, b3, b4, b5, b6, b7⟩ := NodeB.cells hbn
    clear hkv hkc hKr hbn
    clear hN2
    go_upto_region 23 with (go_at_call 41; refine (HNN.out u HSU.out wa gc v code (fun b => b < gn ∧ b ∉ gc :: v.ownBlock.toList) _ code.length rfl HFU.out (by have := HLEN.out; have := HL8.out; omega) HC.out HKV.out (fun b hb => CN.far (CN.refl (w := wa)) (Nat.lt_trans hb.1 HGS.out) hb.2)).mono ?_; rintro e w3 ⟨rfl, v3, hC3, hN3⟩)
    clear d0 d1 d2 d3 d4 d5 d6 d7 b0 b1 b2 b3 b4 b5 b6 b7
    have HN3 := Lib.hid hN3
    have HC3 := Lib.hid hC3
    clear hC3 hN3
    have hbn := HB.out.chg HN3.out.ch (fun hm => by have := HX.out gn hm; omega)
    obtain ⟨b0, b1, b2, b3, b4, b5, b6, b7⟩ := NodeB.cells hbn
    clear hbn
    go_upto_region 24 with (go_at_call 42; refine (nfPut0 3 0 0 0 _ (by have := HLEN.out; have := HL8.out; simp [codeT_len]; omega) HC3.out).mono ?_; rintro e w4 ⟨rfl, v4, hC4, hN4⟩)
    clear b0 b1 b2 b3 b4 b5 b6 b7
    have HN4 := Lib.hid (HN3.out.trans hN4)
    have HC4 := Lib.hid hC4
    clear hC4 hN4
    have hbn := HB.out.chg HN4.out.ch (fun hm => by have := HX.out gn hm; omega)
    obtain ⟨b0, b1, b2, b3, b4, b5, b6, b7⟩ := NodeB.cells hbn
    clear hbn
    obtain ⟨L, hL⟩ : ∃ L : Nat, ((code ++ codeT u code.length) ++ (⟨3, 0, 0, 0, fun _ => false⟩ : Ins) :: ([])).length = L := ⟨_, rfl⟩
    have HLL := Lib.hid hL
    have HCF := Lib.hid (show CM w4.drew gc v4 ((code ++ codeT u code.length) ++ (⟨3, 0, 0, 0, fun _ => false⟩ : Ins) :: ([])) by have := (HC4.out).keep ((Below.refl _ _).drew); simpa using this)
    have HHE := Lib.hid (show Calls Tryd.prog 65 #[.pointer (some ⟨gc, 0, none⟩)] w4.drew fun e w' => e = .returned (.int .i64 (L : Nat)) ∧ w' = w4.drew by have := nfHere w4.drew HCF.out; rw [hL] at this; exact this)
    have _hwx : IntKind.i64.wrap (((code ++ codeT u code.length).length : Int) + 1) = ((code ++ codeT u code.length).length : Int) + 1 := wrap_id (by omega) (by have := HLEN.out; have := HL8.out; simp [codeT_len]; omega)
    clear hL
    go_region_with (first
      | (go_at_call 65; refine HHE.out.mono ?_; rintro e wh ⟨rfl, hwh⟩; subst hwh)
      | (go_at_call 67; refine (nfForkAt (p := code ++ codeT u code.length) (q := []) (i := ⟨3, 0, 0, 0, fun _ => false⟩) _ _ z _ HCF.out (by have := HLEN.out; have := HL8.out; simp [codeT_len]; omega) (by simp)).mono ?_; rintro e w5 ⟨rfl, hC5, hN5⟩))
    all_goals
      go_end0
      refine ⟨rfl, v4, ?_, HN0.out.trans (HN4.out.trans ((CN.ext ((Below.refl _ _).drew)).trans hN5))⟩
      rw [HCT.out]
      have e : iSplit code.length (code.length + (codeT u code.length).length + 1) z = ⟨3, if z then (L : Int) else code.length, if z then (code.length : Int) else L, 0, fun _ => false⟩ := by
        have h1 : L = code.length + (codeT u code.length).length + 1 := by rw [← HLL.out]; simp; omega
        rw [h1]
        cases z <;> simp [iSplit]
      rw [e, ← List.append_assoc]
      exact hC5
  have n6 : (k == 6) = false := by rw [beq_eq_false_iff_ne]; exact k6
  focus
    obtain rfl : k = 1 := by omega
    go_enter Tryd.func41, Tryd.ntmps41
    go_upto_region 1 with fail
    try rw [hgn]
    generalize w.alloc (.cells #[.int .i64 1, .int .i64 m, .bool z, .int .u64 (wd p 0 : Nat), .int .u64 (wd p 1 : Nat), .int .u64 (wd p 2 : Nat), .int .u64 (wd p 3 : Nat), .slice A ks.length c] 27) = wa at *
    obtain ⟨b0, b1, b2, b3, b4, b5, b6, b7⟩ := HB.out.cells
    go_wp2_with (go_at_call 65; refine (nfHere _ HC.out).mono ?_; rintro e wh ⟨rfl, hwh⟩; obtain rfl : wa = wh := hwh.symm)
    go_end0
    refine ⟨rfl, v, ?_, HN0.out⟩
    have e : codeT (.node 1 m z p ks) code.length = [] := rfl
    rw [e, List.append_nil]
    exact HC.out
end Go.Proofs.YtdhmfgaiomfodaaDoor
