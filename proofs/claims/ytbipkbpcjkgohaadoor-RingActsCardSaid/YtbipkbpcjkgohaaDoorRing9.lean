/- The law RingActs walked. -/
import Derived.Test.YtbipkbpcjkgohaaDoorRing8
import Derived.Test.YtbipkbpcjkgohaaDoorActOf
import Derived.Test.YtbipkbpcjkgohaaDoorDagP
namespace Go.Proofs.YtbipkbpcjkgohaaDoor
open Go Go.RowKit

theorem ringRoomQ {p g R went f : Nat} {q s : List UInt8} (w : World) (h : RingAt w p g R q went f s) :
    Calls Tryd.prog 18 #[.pointer (some ⟨p, 0, none⟩)] w fun e w' => e = .returned (.int .i64 ((R : Int) - q.length)) ∧ ∃ m, w' = w.drewN m :=
  (ringRoom w h).mono fun _ _ ⟨he, hw⟩ => ⟨he, 2, hw⟩

/-- What was handed out lies apart from a block that was there. -/
theorem Gave.far {w0 w : World} {v : Value} {l : List UInt8} (h : Gave w0 w v l) {b0 : Nat} (hb : b0 < w0.heap.size) : ∀ A, v = .slice A l.length l.length → 0 < (bytesV l).length → ∀ b o s, A = some ⟨b, o, s⟩ → b ≠ b0 := by
  intro A hv hp b o s e
  rcases h with ⟨rfl, _⟩ | ⟨_, g, hg, h2, _⟩
  · simp [bytesV] at hp
  · rw [h2] at hv
    cases hv
    cases e
    omega

/-- A row of bytes of one's own, whatever they are, if there are any. -/
def Flip (B : Nat) (X : List Nat) (w : World) (v : Value) (m : Nat) : Prop := 0 < m → ∃ gq cs, v = .slice (some ⟨gq, 0, none⟩) m m ∧ B ≤ gq ∧ gq ∉ X ∧ Blk w gq 5 cs ∧ cs.length = m ∧ ∀ (j : Nat) (u : Value), cs[j]? = some u → ∃ z, u = .int .u8 z
theorem Flip.keep {B : Nat} {X : List Nat} {w w' : World} {v : Value} {m : Nat} (h : Flip B X w v m) (hb : Ext w w') : Flip B X w' v m := fun hm => by
  obtain ⟨gq, cs, h1, h2, h3, h4, h5, h6⟩ := h hm
  exact ⟨gq, cs, h1, h2, h3, h4.keep hb, h5, h6⟩
theorem flip_of {B : Nat} {X : List Nat} {w0 w : World} {v : Value} {l : List UInt8} (h : Gave w0 w v l) (hB : B ≤ w0.heap.size) (hX : ∀ x ∈ X, x < w0.heap.size) : Flip B X w v l.length := fun hm => by
  rcases h with ⟨rfl, _⟩ | ⟨_, g, hg, rfl, hBl⟩
  · simp at hm
  · refine ⟨g, _, rfl, by omega, fun hx => by have := hX g hx; omega, hBl, by simp [bytesV], fun j u hu => ?_⟩
    obtain ⟨c, _, rfl⟩ := List.mem_map.1 (List.mem_of_getElem? hu)
    exact ⟨_, rfl⟩

set_option maxHeartbeats 8000000 in
set_option maxRecDepth 100000 in
theorem lawActs (E : Nat → Addr) (room : Int) (xs : List RAct) (A : Option Addr) (n c : Nat) (w : World) (hE : Errs w E) (h : Acts w A n xs) :
    Calls Tryd.prog 5 #[.int .i64 room, .slice A n c] w fun e w' => e = .returned (.bool true) ∧ Ext w w' := by
  go_enter Tryd.func5, Tryd.ntmps5
  by_cases hroom : room < 1 ∨ 4096 < room
  · have hroom' : room < 1 ∨ (¬ room < 1 ∧ 4096 < room) := by omega
    have HR := Lib.hid hroom
    clear hroom
    rcases hroom' with h1 | ⟨h1, h2⟩
    all_goals
      go_wp2_with (first
        | (go_at_call 23; refine (numErr E 0 _ (hE.keep (hb1.trans (hb2.trans hb3))) (by omega)).mono ?_; rintro e w4 ⟨rfl, hb4⟩)
        | (go_at_call 16; refine (ringNewErr E room _ (hE.keep (hb1.trans hb2)) HR.out).mono ?_; rintro e w3 ⟨rfl, nq, hw3⟩; have hb3 : Ext w2 w3 := (by rw [hw3]; exact Ext.drewN _ _); clear hw3)
        | (go_at_call 15; refine (ringLong xs _ _ _ _ (h.keep hb1)).mono ?_; rintro e w2 ⟨r, rfl, hb2, hlong⟩; cases r)
        | (go_at_call 14; refine (ringAlive _).mono ?_; rintro e w1 ⟨rfl, hb1⟩))
      all_goals go_ret
    all_goals exact ⟨by simp, by first | exact hb1.trans (hb2.trans (hb3.trans hb4)) | exact hb1.trans hb2⟩
  obtain ⟨R, rfl⟩ : ∃ R : Nat, room = R := ⟨room.toNat, by omega⟩
  have hR1 : (1 : Int) ≤ R := by omega
  have hR2 : (R : Int) ≤ 4096 := by omega
  clear hroom
  go_wp2_with (first
    | (go_at_call 16; refine (ringNew R _ (by omega) (by omega)).mono ?_; rintro e w3 ⟨p, g, rfl, hq, hb3, hp, hg⟩)
    | (go_at_call 15; refine (ringLong xs _ _ _ _ (h.keep hb1)).mono ?_; rintro e w2 ⟨r, rfl, hb2, hlong⟩; cases r)
    | (go_at_call 14; refine (ringAlive _).mono ?_; rintro e w1 ⟨rfl, hb1⟩))
  rotate_left
  · go_ret
    exact ⟨rfl, hb1.trans hb2⟩
  have hl := hlong (by simp)
  have hbw : Ext w w3 := hb1.trans (hb2.trans hb3)
  have hp' : w.heap.size ≤ p := by have := hb1.size; have := hb2.size; omega
  have hg' : w.heap.size ≤ g := by have := hb1.size; have := hb2.size; omega
  have HL := Lib.hid hl.2
  have hn := hl.1
  have hpl0 := hq.pt.lt
  have hgl0 := hq.sl.lt
  have hpg := hq.ne
  have hM0 : ModAt (w3.alloc (.cells #[.int .i64 (R : Int), .string ⟨#[]⟩, .int .i64 0] 44)) w3.heap.size R [] [] := ⟨Blk.newL _ _ _, by simp, by simp, by omega⟩
  have hq0 := hq.keep (Ext.alloc1 w3 (.cells #[.int .i64 (R : Int), .string ⟨#[]⟩, .int .i64 0] 44))
  have hbx := hbw.trans (Ext.alloc1 w3 (.cells #[.int .i64 (R : Int), .string ⟨#[]⟩, .int .i64 0] 44))
  have hmb : w.heap.size ≤ w3.heap.size := hbw.size
  have hHx := h.keep hbx
  generalize w3.alloc (.cells #[.int .i64 (R : Int), .string ⟨#[]⟩, .int .i64 0] 44) = w4 at *
  have hpm : p ≠ w3.heap.size := by omega
  have hgm : g ≠ w3.heap.size := by omega
  generalize w3.heap.size = mb at *
  clear hlong hl hb1 hb2 hb3 hp hg hq hbw hHx hpl0 hgl0
  go_loopw [50] (fun i wr => ∃ (k : Nat) (q W : List UInt8) (f : Nat) (s : List UInt8), k ≤ n ∧ i = .int .i64 k ∧ RingAt wr p g R q W.length f s ∧ ModAt wr mb R W q ∧ W.length + q.length ≤ 100 * k ∧ Below w.heap.size w wr) (fun i _ => n - (intOf i).toNat)
  case atStart => exact ⟨0, [], [], 0, _, Nat.zero_le _, rfl, hq0, hM0, by simp, hbx⟩
  case round =>
    clear hq0 hM0 hbx
    obtain ⟨k, q, W, f, s, hk, rfl, hq, hM, hcnt, hb⟩ := hrel
    have hlen := h.1
    by_cases hlt : k < n
    · obtain ⟨⟨kd, y, l⟩, hx⟩ : ∃ x, xs[k]? = some x := ⟨_, List.getElem?_eq_getElem (by omega)⟩
      have hl100 : l.length ≤ 100 := HL.out _ (List.mem_of_getElem? hx)
      obtain ⟨b, o, v, rfl, h2, h3, h4, h5, Av, nv, cv, rfl, hnc, hcm, hrd⟩ := h.2 k _ hx
      have hlx : l.length = nv := hrd.len_bytes
      have c3 := (hb.cell (p := ⟨b, _, none⟩) h2).trans h3
      have c4 := (hb.cell (p := ⟨b, _, none⟩) h2).trans h4
      have c5 := (hb.cell (p := ⟨b, _, none⟩) h2).trans h5
      simp only at c3 c4 c5 hrd
      have hpl := hq.pt.lt
      have hgl := hq.sl.lt
      have hml := hM.blk.lt
      have hql := hq.circ.fits
      have hs := hb.size
      have hnv : nv ≤ 100 := by omega
      have HLX := Lib.hid hlx
      have HLEN := Lib.hid hlen
      have hrdA := fun (wx : World) (hh : Below w.heap.size w wx) => hrd.keep hh
      have HRDA := Lib.hid hrdA
      have hxb := Blk.newL wr 33 [.int .i64 kd, .int .i64 y, .slice Av nv cv]
      have hba : Below w.heap.size w (wr.alloc (.cells #[.int .i64 kd, .int .i64 y, .slice Av nv cv] 33)) := hb.alloc hb.size _
      have hqa := hq.keep (Ext.alloc1 wr (.cells #[.int .i64 kd, .int .i64 y, .slice Av nv cv] 33))
      have hMa := hM.keep (Ext.alloc1 wr (.cells #[.int .i64 kd, .int .i64 y, .slice Av nv cv] 33))
      clear hlen h3 h4 h5 hlx hrdA hq hM hb
      by_cases hk0 : kd = 0
      · subst hk0
        obtain ⟨m, hm⟩ : ∃ m, m = min nv (R - q.length) := ⟨_, rfl⟩
        have hmn : m ≤ nv := by omega
        have HMM := Lib.hid hm
        clear hm
        go_wp2_with (go_at_call 24; refine (numBytes l Av nv cv _ (by omega) (HRDA.out _ hba)).mono ?_; rintro e w6 ⟨rfl, hB6, hb6'⟩)
        have hq6 := hqa.keep hb6'
        have hM6 := hMa.keep hb6'
        have hxb6 := hxb.keep hb6'
        have hb6 := Below.trans hba (Below.mono hb6' hba.size)
        simp only [World.size_alloc] at hB6 hb6'
        have hgbl := hB6.lt
        have hX : ∀ wx, Chg [p, g, mb] w6 wx → wx.cell? ⟨wr.heap.size, 2, none⟩ = some (.slice Av nv cv) := fun wx hh => (hxb6.chg hh (by simp; omega)).cell 2
        have hGB : ∀ wx, Chg [p, g, mb] w6 wx → Blk wx (wr.heap.size + 1) 5 (bytesV l ++ List.replicate 5 (U8 90)) := fun wx hh => hB6.chg hh (by simp; omega)
        have hIN : ∀ wx, Chg [p, g, mb] w6 wx → Rd wx 1 (some ⟨wr.heap.size + 1, 0, none⟩) nv (bytesV l) := fun wx hh => by
          have := (hGB wx hh).rd (n := nv) (size := 1) 0 (by have := HLX.out; simp [bytesV]; omega)
          rw [List.drop_zero, Nat.mul_one, List.take_left' (by have := HLX.out; simp [bytesV]; omega)] at this
          exact this
        have hRD : ∀ wx, Chg [p, g, mb] w6 wx → Rd wx 1 Av nv (bytesV l) := fun wx hh => HRDA.out wx (hh.below hb6 hb6.size (by simp; omega))
        have HX := Lib.hid hX
        have HGB := Lib.hid hGB
        have HIN := Lib.hid hIN
        have HRD := Lib.hid hRD
        have hxb2 : wr.heap.size + 1 ≠ p ∧ wr.heap.size + 1 ≠ g := by omega
        clear hX hGB hIN hRD hxb hqa hMa hba hxb6 hB6 hb6' hgbl
        generalize hgb : wr.heap.size + 1 = gb at *
        generalize wr.heap.size = xb at *
        clear hgb

        refine wp_region_dagP (X := fun j => if j = 2 then [p, g] else if j = 7 then [mb] else []) (XX := [p, g, mb]) (late := fun j => if j = 2 then [8, 9, 10, 11, 12, 13, 14, 15] else if j = 7 then [8, 9, 10, 11, 12, 13, 14, 15] else []) (Pre := fun i w => (i = 2 → RingAt w p g R q W.length f s) ∧ (i = 7 → ModAt w mb R W q) ∧ True) (w0 := w6) (Φ := fun i v w => match i with | 0 => (v = .pointer (some ⟨p, 0, none⟩)) | 1 => (v = .slice (some ⟨gb, 0, none⟩) nv (nv + 5)) | 2 => (v = .int .i64 m ∧ (∃ s', RingAt w p g R (q ++ l.take m) W.length f s')) | 3 => (v = .pointer (some ⟨mb, 0, none⟩)) | 4 => (v = .pointer (some ⟨xb, 2, none⟩)) | 5 => (v = .slice Av nv cv) | 6 => (v = .string ⟨l.toArray⟩) | 7 => (v = .int .i64 m ∧ ModAt w mb R W (q ++ l.take m)) | 8 => (v = .bool false) | 9 => (v = .bool false) | 10 => (v = .slice (some ⟨gb, 0, none⟩) nv (nv + 5)) | 11 => (v = .pointer (some ⟨xb, 2, none⟩)) | 12 => (v = .slice Av nv cv) | 13 => (v = .bool true) | 14 => (v = .bool false) | 15 => (v = .bool false) | _ => True) (show Tryd.prog.follows .mixedOrders = true from Checked.mixed Tryd.checked) 176 rfl (by decide +kernel) ?_ ?_ ?_ ?_ ?_ ⟨?_, ?_, ?_, ?_, ?_, ?_, ?_, ?_, ?_, ?_, ?_, ?_, ?_, ?_, ?_, ?_, trivial⟩ ?_
        · intro j x hx
          by_cases hj2 : j = 2
          · subst hj2; have hx' : x ∈ [p, g] := hx; simp at hx' ⊢; omega
          by_cases hj7 : j = 7
          · subst hj7; have hx' : x ∈ [mb] := hx; simp at hx' ⊢; omega
          simp [hj2, hj7] at hx
        · intro j
          by_cases hj2 : j = 2
          · subst hj2; decide +kernel
          by_cases hj7 : j = 7
          · subst hj7; decide +kernel
          simp [hj2, hj7, lateOk]
        · intro i
          exact ⟨fun _ => hq6.drew, fun _ => hM6.keep ((Below.refl _ _).drew), trivial⟩
        · intro i j w w' hij h hc
          refine ⟨?_, ?_, trivial⟩
          · intro hi
            subst hi
            have hp := h.1 rfl
            have hc' : Chg [mb] w w' := hc.mono (fun x hx => by
              by_cases hj2 : j = 2
              · exact absurd hj2 (by omega)
              by_cases hj7 : j = 7
              · subst hj7; have hx' : x ∈ [mb] := hx; simp at hx' ⊢; omega
              simp [hj2, hj7] at hx)
            exact hp.chg hc' (by simp; omega) (by simp; omega)
          · intro hi
            subst hi
            have hp := h.2.1 rfl
            have hc' : Chg [p, g] w w' := hc.mono (fun x hx => by
              by_cases hj2 : j = 2
              · subst hj2; have hx' : x ∈ [p, g] := hx; simp at hx' ⊢; omega
              by_cases hj7 : j = 7
              · exact absurd hj7 (by omega)
              simp [hj2, hj7] at hx)
            exact hp.chg hc' (by simp; omega)
        · intro i j v w w' hij hla h hc
          by_cases hj2 : j = 2
          · subst hj2
            have hc' : Chg [p, g] w w' := hc
            match i, hij, hla, h with
            | 0, _, _, h => exact h
            | 1, _, _, h => exact h
            | 2, hij, _, _ => exact absurd rfl hij
            | 3, _, _, h => exact h
            | 4, _, _, h => exact h
            | 5, _, _, h => exact h
            | 6, _, _, h => exact h
            | 7, _, _, h => exact ⟨h.1, h.2.chg hc' (by simp; omega)⟩
            | 8, _, _, h => exact h
            | 9, _, _, h => exact h
            | 10, _, _, h => exact h
            | 11, _, _, h => exact h
            | 12, _, _, h => exact h
            | 13, _, _, h => exact h
            | 14, _, _, h => exact h
            | 15, _, _, h => exact h
            | _ + 16, _, _, _ => trivial
          by_cases hj7 : j = 7
          · subst hj7
            have hc' : Chg [mb] w w' := hc
            match i, hij, hla, h with
            | 0, _, _, h => exact h
            | 1, _, _, h => exact h
            | 2, _, _, h => exact ⟨h.1, by obtain ⟨s', h⟩ := h.2; exact ⟨s', h.chg hc' (by simp; omega) (by simp; omega)⟩⟩
            | 3, _, _, h => exact h
            | 4, _, _, h => exact h
            | 5, _, _, h => exact h
            | 6, _, _, h => exact h
            | 7, hij, _, _ => exact absurd rfl hij
            | 8, _, _, h => exact h
            | 9, _, _, h => exact h
            | 10, _, _, h => exact h
            | 11, _, _, h => exact h
            | 12, _, _, h => exact h
            | 13, _, _, h => exact h
            | 14, _, _, h => exact h
            | 15, _, _, h => exact h
            | _ + 16, _, _, _ => trivial
          have hc0 : Chg [] w w' := by simpa [hj2, hj7] using hc
          have hE : Ext w w' := hc0.ext (by simp)
          match i, h with
          | 0, h => exact h
          | 1, h => exact h
          | 2, h => exact ⟨h.1, by obtain ⟨s', h⟩ := h.2; exact ⟨s', h.keep hE⟩⟩
          | 3, h => exact h
          | 4, h => exact h
          | 5, h => exact h
          | 6, h => exact h
          | 7, h => exact ⟨h.1, h.2.keep hE⟩
          | 8, h => exact h
          | 9, h => exact h
          | 10, h => exact h
          | 11, h => exact h
          | 12, h => exact h
          | 13, h => exact h
          | 14, h => exact h
          | 15, h => exact h
          | _ + 16, _ => trivial
        · -- 0: t61 := move t5 
          intro ac wx hE hP hsz hdf h
          have e5 : ac.tmps[5]? = some (.pointer (some ⟨p, 0, none⟩)) := by obtain ⟨v, h1, h2⟩ := h 5 (by decide +kernel); exact h1.trans (h2.symm.trans rfl)
          clear h hsz hdf
          go_wp2
          exact ⟨_, rfl, rfl, Chg.refl _ _⟩
        · -- 1: t62 := move t10 
          intro ac wx hE hP hsz hdf h
          have e10 : ac.tmps[10]? = some (.slice (some ⟨gb, 0, none⟩) nv (nv + 5)) := by obtain ⟨v, h1, h2⟩ := h 10 (by decide +kernel); exact h1.trans (h2.symm.trans rfl)
          clear h hsz hdf
          go_wp2
          exact ⟨_, rfl, rfl, Chg.refl _ _⟩
        · -- 2: t63 := call { value (Operand.func 17), args := #[t61, t62], argTypes := #[25, 31] } 
          intro ac wx hE hP hsz hdf h
          have e61 : ac.tmps[61]? = some (.pointer (some ⟨p, 0, none⟩)) := by obtain ⟨v, h1, h2⟩ := h 61 (by decide +kernel); rw [h1]; exact congrArg some h2
          have e62 : ac.tmps[62]? = some (.slice (some ⟨gb, 0, none⟩) nv (nv + 5)) := by obtain ⟨v, h1, h2⟩ := h 62 (by decide +kernel); rw [h1]; exact congrArg some h2
          clear h hsz hdf
          have hq2 := hP.1 rfl
          go_wp2_with ((go_at_call 17; refine (ringPut _ m hq2 (HIN.out wx hE) (by omega) (fun _ b o v e => by cases e; omega) (by omega) (by omega) HMM.out).mono ?_; rintro e w' ⟨rfl, hq3, hc3⟩))
          exact ⟨_, rfl, ⟨rfl, hq3⟩, hc3⟩
        · -- 3: t64 := move t7 
          intro ac wx hE hP hsz hdf h
          have e7 : ac.tmps[7]? = some (.pointer (some ⟨mb, 0, none⟩)) := by obtain ⟨v, h1, h2⟩ := h 7 (by decide +kernel); exact h1.trans (h2.symm.trans rfl)
          clear h hsz hdf
          go_wp2
          exact ⟨_, rfl, rfl, Chg.refl _ _⟩
        · -- 4: t65 := fieldAddr 33 t9 2 
          intro ac wx hE hP hsz hdf h
          have e9 : ac.tmps[9]? = some (.pointer (some ⟨xb, 0, none⟩)) := by obtain ⟨v, h1, h2⟩ := h 9 (by decide +kernel); exact h1.trans (h2.symm.trans rfl)
          clear h hsz hdf
          go_wp2
          exact ⟨_, rfl, rfl, Chg.refl _ _⟩
        · -- 5: t66 := load 31 t65 
          intro ac wx hE hP hsz hdf h
          have e65 : ac.tmps[65]? = some (.pointer (some ⟨xb, 2, none⟩)) := by obtain ⟨v, h1, h2⟩ := h 65 (by decide +kernel); rw [h1]; exact congrArg some h2
          clear h hsz hdf
          have x2 := HX.out wx hE
          go_wp2
          exact ⟨_, rfl, rfl, Chg.refl _ _⟩
        · -- 6: t67 := convert 31 9 t66 
          intro ac wx hE hP hsz hdf h
          have e66 : ac.tmps[66]? = some (.slice Av nv cv) := by obtain ⟨v, h1, h2⟩ := h 66 (by decide +kernel); rw [h1]; exact congrArg some h2
          clear h hsz hdf
          have hcv := conv_str (P := Tryd.prog) (c := cv) Tryd.underlying31 Tryd.underlying5 Tryd.underlying9 (HRD.out wx hE)
          go_wp2
          exact ⟨_, rfl, rfl, Chg.refl _ _⟩
        · -- 7: t68 := call { value (Operand.func 25), args := #[t64, t67], argTypes := #[42, 9] } 
          intro ac wx hE hP hsz hdf h
          have e64 : ac.tmps[64]? = some (.pointer (some ⟨mb, 0, none⟩)) := by obtain ⟨v, h1, h2⟩ := h 64 (by decide +kernel); rw [h1]; exact congrArg some h2
          have e67 : ac.tmps[67]? = some (.string ⟨l.toArray⟩) := by obtain ⟨v, h1, h2⟩ := h 67 (by decide +kernel); rw [h1]; exact congrArg some h2
          clear h hsz hdf
          have hm2 := hP.2.1 rfl
          go_wp2_with ((go_at_call 25; refine (modPut _ l m hm2 (by have := HLX.out; omega) (by have := HLX.out; omega) (by rw [HLX.out]; exact HMM.out)).mono ?_; rintro e w' ⟨rfl, hm3, hc3⟩))
          exact ⟨_, rfl, ⟨rfl, hm3⟩, hc3⟩
        · -- 8: t69 := binOp BinOp.neq 3 t63 t68 3 
          intro ac wx hE hP hsz hdf h
          obtain ⟨e63, s63⟩ : ac.tmps[63]? = some (.int .i64 m) ∧ ((∃ s', RingAt wx p g R (q ++ l.take m) W.length f s')) := by obtain ⟨v, h1, h2, h3⟩ := h 63 (by decide +kernel); exact ⟨h1.trans (congrArg some h2), h3⟩
          obtain ⟨e68, s68⟩ : ac.tmps[68]? = some (.int .i64 m) ∧ (ModAt wx mb R W (q ++ l.take m)) := by obtain ⟨v, h1, h2, h3⟩ := h 68 (by decide +kernel); exact ⟨h1.trans (congrArg some h2), h3⟩
          clear h hsz hdf
          go_wp2
          exact ⟨_, rfl, by simp, Chg.refl _ _⟩
        · -- 9: t70 := move t69 
          intro ac wx hE hP hsz hdf h
          have e69 : ac.tmps[69]? = some (.bool false) := by obtain ⟨v, h1, h2⟩ := h 69 (by decide +kernel); rw [h1]; exact congrArg some h2
          clear h hsz hdf
          go_wp2
          exact ⟨_, rfl, rfl, Chg.refl _ _⟩
        · -- 10: t71 := move t10 (9, False)
          intro ac wx hE hP hsz hdf h
          have e10 : ac.tmps[10]? = some (.slice (some ⟨gb, 0, none⟩) nv (nv + 5)) := by obtain ⟨v, h1, h2⟩ := h 10 (by decide +kernel); exact h1.trans (h2.symm.trans rfl)
          have e70 : ac.tmps[70]? = some (.bool false) := by obtain ⟨v, h1, h2⟩ := h 70 (by decide +kernel); rw [h1]; exact congrArg some h2
          clear h hsz hdf
          go_wp2
          exact ⟨_, rfl, rfl, Chg.refl _ _⟩
        · -- 11: t72 := fieldAddr 33 t9 2 (9, False)
          intro ac wx hE hP hsz hdf h
          have e9 : ac.tmps[9]? = some (.pointer (some ⟨xb, 0, none⟩)) := by obtain ⟨v, h1, h2⟩ := h 9 (by decide +kernel); exact h1.trans (h2.symm.trans rfl)
          have e70 : ac.tmps[70]? = some (.bool false) := by obtain ⟨v, h1, h2⟩ := h 70 (by decide +kernel); rw [h1]; exact congrArg some h2
          clear h hsz hdf
          go_wp2
          exact ⟨_, rfl, rfl, Chg.refl _ _⟩
        · -- 12: t73 := load 31 t72 (9, False)
          intro ac wx hE hP hsz hdf h
          have e72 : ac.tmps[72]? = some (.pointer (some ⟨xb, 2, none⟩)) := by obtain ⟨v, h1, h2⟩ := h 72 (by decide +kernel); rw [h1]; exact congrArg some h2
          have e70 : ac.tmps[70]? = some (.bool false) := by obtain ⟨v, h1, h2⟩ := h 70 (by decide +kernel); rw [h1]; exact congrArg some h2
          clear h hsz hdf
          have x2 := HX.out wx hE
          go_wp2
          exact ⟨_, rfl, rfl, Chg.refl _ _⟩
        · -- 13: t74 := call { value (Operand.func 26), args := #[t71, t73], argTypes := #[31, 31] } (9, False)
          intro ac wx hE hP hsz hdf h
          have e71 : ac.tmps[71]? = some (.slice (some ⟨gb, 0, none⟩) nv (nv + 5)) := by obtain ⟨v, h1, h2⟩ := h 71 (by decide +kernel); rw [h1]; exact congrArg some h2
          have e73 : ac.tmps[73]? = some (.slice Av nv cv) := by obtain ⟨v, h1, h2⟩ := h 73 (by decide +kernel); rw [h1]; exact congrArg some h2
          have e70 : ac.tmps[70]? = some (.bool false) := by obtain ⟨v, h1, h2⟩ := h 70 (by decide +kernel); rw [h1]; exact congrArg some h2
          clear h hsz hdf
          go_wp2_with ((go_at_call 26; refine (numKept l Av nv cv gb _ (by omega) (HRD.out wx hE) (HGB.out wx hE)).mono ?_; rintro e w' ⟨rfl, rfl⟩))
          exact ⟨_, rfl, rfl, Chg.refl _ _⟩
        · -- 14: t75 := unOp UnOp.not 4 t74 (9, False)
          intro ac wx hE hP hsz hdf h
          have e74 : ac.tmps[74]? = some (.bool true) := by obtain ⟨v, h1, h2⟩ := h 74 (by decide +kernel); rw [h1]; exact congrArg some h2
          have e70 : ac.tmps[70]? = some (.bool false) := by obtain ⟨v, h1, h2⟩ := h 70 (by decide +kernel); rw [h1]; exact congrArg some h2
          clear h hsz hdf
          go_wp2
          exact ⟨_, rfl, rfl, Chg.refl _ _⟩
        · -- 15: t76 := pick t70 (const (Value.bool true)) t75 
          intro ac wx hE hP hsz hdf h
          have e70 : ac.tmps[70]? = some (.bool false) := by obtain ⟨v, h1, h2⟩ := h 70 (by decide +kernel); rw [h1]; exact congrArg some h2
          have e75 : ac.tmps[75]? = some (.bool false) := by obtain ⟨v, h1, h2⟩ := h 75 (by decide +kernel); rw [h1]; exact congrArg some h2
          clear h hsz hdf
          go_wp2
          exact ⟨_, rfl, rfl, Chg.refl _ _⟩
        · intro a w9 hE hsz hdf h hrest
          obtain ⟨v0, s0, g0⟩ := h 0 _ rfl
          have e0 := g0 61 rfl
          obtain rfl : v0 = .pointer (some ⟨p, 0, none⟩) := s0
          obtain ⟨v1, s1, g1⟩ := h 1 _ rfl
          have e1 := g1 62 rfl
          obtain rfl : v1 = .slice (some ⟨gb, 0, none⟩) nv (nv + 5) := s1
          obtain ⟨v2, s2, g2⟩ := h 2 _ rfl
          have e2 := g2 63 rfl
          obtain ⟨rfl, r2⟩ : v2 = .int .i64 m ∧ ((∃ s', RingAt w9 p g R (q ++ l.take m) W.length f s')) := s2
          obtain ⟨v3, s3, g3⟩ := h 3 _ rfl
          have e3 := g3 64 rfl
          obtain rfl : v3 = .pointer (some ⟨mb, 0, none⟩) := s3
          obtain ⟨v4, s4, g4⟩ := h 4 _ rfl
          have e4 := g4 65 rfl
          obtain rfl : v4 = .pointer (some ⟨xb, 2, none⟩) := s4
          obtain ⟨v5, s5, g5⟩ := h 5 _ rfl
          have e5 := g5 66 rfl
          obtain rfl : v5 = .slice Av nv cv := s5
          obtain ⟨v6, s6, g6⟩ := h 6 _ rfl
          have e6 := g6 67 rfl
          obtain rfl : v6 = .string ⟨l.toArray⟩ := s6
          obtain ⟨v7, s7, g7⟩ := h 7 _ rfl
          have e7 := g7 68 rfl
          obtain ⟨rfl, r7⟩ : v7 = .int .i64 m ∧ (ModAt w9 mb R W (q ++ l.take m)) := s7
          obtain ⟨v8, s8, g8⟩ := h 8 _ rfl
          have e8 := g8 69 rfl
          obtain rfl : v8 = .bool false := s8
          obtain ⟨v9, s9, g9⟩ := h 9 _ rfl
          have e9 := g9 70 rfl
          obtain rfl : v9 = .bool false := s9
          obtain ⟨v10, s10, g10⟩ := h 10 _ rfl
          have e10 := g10 71 rfl
          obtain rfl : v10 = .slice (some ⟨gb, 0, none⟩) nv (nv + 5) := s10
          obtain ⟨v11, s11, g11⟩ := h 11 _ rfl
          have e11 := g11 72 rfl
          obtain rfl : v11 = .pointer (some ⟨xb, 2, none⟩) := s11
          obtain ⟨v12, s12, g12⟩ := h 12 _ rfl
          have e12 := g12 73 rfl
          obtain rfl : v12 = .slice Av nv cv := s12
          obtain ⟨v13, s13, g13⟩ := h 13 _ rfl
          have e13 := g13 74 rfl
          obtain rfl : v13 = .bool true := s13
          obtain ⟨v14, s14, g14⟩ := h 14 _ rfl
          have e14 := g14 75 rfl
          obtain rfl : v14 = .bool false := s14
          obtain ⟨v15, s15, g15⟩ := h 15 _ rfl
          have e15 := g15 76 rfl
          obtain rfl : v15 = .bool false := s15
          have ha := act_of [(61, .pointer (some ⟨p, 0, none⟩)), (62, .slice (some ⟨gb, 0, none⟩) nv (nv + 5)), (63, .int .i64 m), (64, .pointer (some ⟨mb, 0, none⟩)), (65, .pointer (some ⟨xb, 2, none⟩)), (66, .slice Av nv cv), (67, .string ⟨l.toArray⟩), (68, .int .i64 m), (69, .bool false), (70, .bool false), (71, .slice (some ⟨gb, 0, none⟩) nv (nv + 5)), (72, .pointer (some ⟨xb, 2, none⟩)), (73, .slice Av nv cv), (74, .bool true), (75, .bool false), (76, .bool false)] rfl hsz hdf (by intro p hp; simp only [List.mem_cons, List.not_mem_nil, or_false] at hp; rcases hp with rfl | rfl | rfl | rfl | rfl | rfl | rfl | rfl | rfl | rfl | rfl | rfl | rfl | rfl | rfl | rfl <;> first | exact e0 | exact e1 | exact e2 | exact e3 | exact e4 | exact e5 | exact e6 | exact e7 | exact e8 | exact e9 | exact e10 | exact e11 | exact e12 | exact e13 | exact e14 | exact e15) hrest
          clear h hrest hsz hdf e0 e1 e2 e3 e4 e5 e6 e7 e8 e9 e10 e11 e12 e13 e14 e15 g0 g1 g2 g3 g4 g5 g6 g7 g8 g9 g10 g11 g12 g13 g14 g15
          subst ha
          simp only [List.foldl_cons, List.foldl_nil, Act.put, List.setIfInBounds_toArray, List.set_cons_succ, List.set_cons_zero]
          obtain ⟨s9, hq9⟩ := r2
          have hM9 := r7
          have hb9 := hE.below hb6 hb6.size (by simp; omega)
          clear hE HX HIN HRD HGB
          obtain ⟨Q, V, F9, S9, hqQ, hMQ, hsz⟩ : ∃ Q V F9 S9, RingAt w9 p g R Q V.length F9 S9 ∧ ModAt w9 mb R V Q ∧ V.length + Q.length ≤ 100 * (k + 1) := ⟨_, _, _, _, hq9, hM9, by have := HLX.out; simp; omega⟩
          clear hq9 hM9
          go_wp2_with (go_at_call 29; refine (ringCounts _ hqQ).mono ?_; rintro e wC ⟨rfl, rfl⟩)
          have hqC := hqQ.drew
          have hMC := hMQ.keep ((Below.refl w9.heap.size w9).drew)
          have hbC : Below w.heap.size w w9.drew := hb9.drew
          clear hqQ hMQ hb9
          generalize w9.drew = wC at hqC hMC hbC ⊢
          have t1 : wC.cell? ⟨mb, 1, none⟩ = some (.string ⟨(V ++ Q).toArray⟩) := hMC.blk.cell 1
          have t2 : wC.cell? ⟨mb, 2, none⟩ = some (.int .i64 V.length) := hMC.blk.cell 2
          have hfitC := hMC.fits
          have hz : ((Q.length : Int) != (V.length : Int) + Q.length - V.length) = false := by simp; omega
          go_quiet (first
            | (go_at_call 22; refine Calls.quiet_of (ringLenQ (p := p) (g := g) (R := R) (q := Q) (went := V.length) (f := F9) (s := S9) _ ?_); exact hqC.keep (Ext.drewN _ _))
            | (go_at_call 18; refine Calls.quiet_of (ringRoomQ (p := p) (g := g) (R := R) (q := Q) (went := V.length) (f := F9) (s := S9) _ ?_); exact hqC.keep (Ext.drewN _ _)))
          go_wp2
          exact ⟨⟨k + 1, Q, V, F9, S9, by omega, by go_num, hqC.keep (Ext.drewN _ _), hMC.keep (Ext.drewN _ _), hsz, Below.trans hbC (Below.mono (Ext.drewN _ _) hbC.size)⟩, by simp [intOf]; omega⟩
      by_cases hk1 : kd = 1
      · subst hk1
        obtain ⟨m, hm⟩ : ∃ m, m = min y.toNat q.length := ⟨_, rfl⟩
        have hmq : m ≤ q.length := by omega
        have htk : (q.take m).length = m := by simp; omega
        have HMM := Lib.hid hm
        have HTK := Lib.hid htk
        clear hm htk
        have hxw : wr.heap.size ≠ p ∧ wr.heap.size ≠ g ∧ wr.heap.size ≠ mb := by omega
        go_wp2_with (first
          | (go_at_call 28; refine (modDrop _ y m hM8 HMM.out).mono ?_; rintro e w9 ⟨rfl, hM9, hc9⟩; have hq9 := hq8.chg hc9 (by simp; omega) (by simp; omega); have hb9 := hc9.below hb8 hb8.size (by simp; omega); have hcv := conv_str (P := Tryd.prog) (c := m) Tryd.underlying31 Tryd.underlying5 Tryd.underlying9 (hrd8.chg hc9 (by intro hp b o v e; have := HAP.out hp b o v e; simp; omega)))
          | (go_at_call 27; refine (modPeek _ y m hM7 HMM.out).mono ?_; rintro e w8 ⟨rfl, nq, hw8⟩; have hx8 : Ext w7 w8 := (by rw [hw8]; exact Ext.drewN _ _); have hM8 := hM7.keep hx8; have hq8 := hq7.keep hx8; have hb8 := Below.trans hb7 (Below.mono hx8 hb7.size); have hrd8 := hrd7.keep hx8; have d8 : w8.cell? ⟨wr.heap.size, 1, none⟩ = some (.int .i64 y) := (hxb7.keep hx8).cell 1; clear hw8)
          | (go_at_call 19; refine (ringTake _ y m hqa HMM.out).mono ?_; rintro e w7 ⟨v7, rfl, hg7, hq7, hc7⟩; have hM7 := hMa.chg hc7 (by simp; omega); have hb7 := hc7.below hba hba.size (by simp; omega); have hxb7 := hxb.chg hc7 (by simp; omega); have d7 : w7.cell? ⟨wr.heap.size, 1, none⟩ = some (.int .i64 y) := hxb7.cell 1; obtain ⟨A7, hv7, hrd7⟩ := hg7.rd; have hap := hg7.far (b0 := mb) (by simp; omega) A7 hv7; have HAP := Lib.hid hap; rw [HTK.out] at hv7 hrd7; subst hv7; clear hg7 hap))
        replace hq9 : RingAt w9 p g R (q.drop m) (W ++ q.take m).length ((f + m) % R) s := by rw [List.length_append, HTK.out]; exact hq9

        obtain ⟨Q, V, F9, S9, hqQ, hMQ, hsz⟩ : ∃ Q V F9 S9, RingAt w9 p g R Q V.length F9 S9 ∧ ModAt w9 mb R V Q ∧ V.length + Q.length ≤ 100 * (k + 1) := ⟨_, _, _, _, hq9, hM9, by simp; omega⟩
        clear hq9 hM9
        go_wp2_with (go_at_call 29; refine (ringCounts _ hqQ).mono ?_; rintro e wC ⟨rfl, rfl⟩)
        have hqC := hqQ.drew
        have hMC := hMQ.keep ((Below.refl w9.heap.size w9).drew)
        have hbC : Below w.heap.size w w9.drew := hb9.drew
        clear hqQ hMQ hb9
        generalize w9.drew = wC at hqC hMC hbC ⊢
        have t1 : wC.cell? ⟨mb, 1, none⟩ = some (.string ⟨(V ++ Q).toArray⟩) := hMC.blk.cell 1
        have t2 : wC.cell? ⟨mb, 2, none⟩ = some (.int .i64 V.length) := hMC.blk.cell 2
        have hfitC := hMC.fits
        have hz : ((Q.length : Int) != (V.length : Int) + Q.length - V.length) = false := by simp; omega
        go_quiet (first
          | (go_at_call 22; refine Calls.quiet_of (ringLenQ (p := p) (g := g) (R := R) (q := Q) (went := V.length) (f := F9) (s := S9) _ ?_); exact hqC.keep (Ext.drewN _ _))
          | (go_at_call 18; refine Calls.quiet_of (ringRoomQ (p := p) (g := g) (R := R) (q := Q) (went := V.length) (f := F9) (s := S9) _ ?_); exact hqC.keep (Ext.drewN _ _)))
        go_wp2
        exact ⟨⟨k + 1, Q, V, F9, S9, by omega, by go_num, hqC.keep (Ext.drewN _ _), hMC.keep (Ext.drewN _ _), hsz, Below.trans hbC (Below.mono (Ext.drewN _ _) hbC.size)⟩, by simp [intOf]; omega⟩
      by_cases hk2 : kd = 2
      · subst hk2
        obtain ⟨m, hm⟩ : ∃ m, m = min y.toNat q.length := ⟨_, rfl⟩
        have hmq : m ≤ q.length := by omega
        have htk : (q.take m).length = m := by simp; omega
        have HMM := Lib.hid hm
        have HTK := Lib.hid htk
        clear hm htk
        have hxw : wr.heap.size ≠ p ∧ wr.heap.size ≠ g ∧ wr.heap.size ≠ mb := by omega
        go_wp2_with (go_at_call 20; refine (ringPeek _ y m hqa HMM.out).mono ?_; rintro e w6 ⟨v6, rfl, hg6, hb6'⟩; have hfl := flip_of (B := w.heap.size) (X := [p, g, mb]) hg6 (by simp; omega) (by simp; omega); obtain ⟨A6, hv6, hrd6⟩ := hg6.rd; rw [HTK.out] at hv6 hrd6 hfl; subst hv6; have HFL := Lib.hid hfl; clear hg6 hfl)
        have hq6 := hqa.keep hb6'
        have hM6 := hMa.keep hb6'
        have hxb6 := hxb.keep hb6'
        have hb6 := Below.trans hba (Below.mono hb6' hba.size)
        have hX : ∀ wx, Ext w6 wx → wx.cell? ⟨wr.heap.size, 1, none⟩ = some (.int .i64 y) := fun wx hh => (hxb6.keep hh).cell 1
        have HX := Lib.hid hX
        have hRD6 : ∀ wx, Ext w6 wx → Rd wx 1 A6 m (bytesV (q.take m)) := fun wx hh => hrd6.keep hh
        have HRD6 := Lib.hid hRD6
        clear hX hRD6 hxb hqa hMa hba hb6' hrd6 hxb6
        generalize wr.heap.size = xb at *

        refine wp_region_dag (E := Ext) (w0 := w6) (Φ := fun i v w => match i with | 0 => (v = .slice A6 m m) | 1 => (v = .string ⟨(q.take m).toArray⟩) | 2 => (v = .pointer (some ⟨mb, 0, none⟩)) | 3 => (v = .pointer (some ⟨xb, 1, none⟩)) | 4 => (v = .int .i64 y) | 5 => (v = .string ⟨(q.take m).toArray⟩) | 6 => (v = .bool false) | _ => True) (show Tryd.prog.follows .mixedOrders = true from Checked.mixed Tryd.checked) 176 rfl (by decide +kernel) ?_ ((Below.refl _ _).drew) ?_ ⟨?_, ?_, ?_, ?_, ?_, ?_, ?_, trivial⟩ ?_
        · intro i v w w' h hE
          match i, h with
          | 0, h => exact h
          | 1, h => exact h
          | 2, h => exact h
          | 3, h => exact h
          | 4, h => exact h
          | 5, h => exact h
          | 6, h => exact h
          | _ + 7, _ => trivial
        · exact fun w w' h h' => h.trans h'
        · -- 0: t101 := move t13 
          intro ac wx hE hsz hdf h
          have e13 : ac.tmps[13]? = some (.slice A6 m m) := by obtain ⟨v, h1, h2⟩ := h 13 (by decide +kernel); exact h1.trans (h2.symm.trans rfl)
          clear h hsz hdf
          go_wp2
          exact ⟨_, rfl, rfl, Ext.refl _⟩
        · -- 1: t102 := convert 31 9 t101 
          intro ac wx hE hsz hdf h
          have e101 : ac.tmps[101]? = some (.slice A6 m m) := by obtain ⟨v, h1, h2⟩ := h 101 (by decide +kernel); rw [h1]; exact congrArg some h2
          clear h hsz hdf
          have hcv := conv_str (P := Tryd.prog) (c := m) Tryd.underlying31 Tryd.underlying5 Tryd.underlying9 (HRD6.out wx hE)
          go_wp2
          exact ⟨_, rfl, rfl, Ext.refl _⟩
        · -- 2: t103 := move t7 
          intro ac wx hE hsz hdf h
          have e7 : ac.tmps[7]? = some (.pointer (some ⟨mb, 0, none⟩)) := by obtain ⟨v, h1, h2⟩ := h 7 (by decide +kernel); exact h1.trans (h2.symm.trans rfl)
          clear h hsz hdf
          go_wp2
          exact ⟨_, rfl, rfl, Ext.refl _⟩
        · -- 3: t104 := fieldAddr 33 t9 1 
          intro ac wx hE hsz hdf h
          have e9 : ac.tmps[9]? = some (.pointer (some ⟨xb, 0, none⟩)) := by obtain ⟨v, h1, h2⟩ := h 9 (by decide +kernel); exact h1.trans (h2.symm.trans rfl)
          clear h hsz hdf
          go_wp2
          exact ⟨_, rfl, rfl, Ext.refl _⟩
        · -- 4: t105 := load 3 t104 
          intro ac wx hE hsz hdf h
          have e104 : ac.tmps[104]? = some (.pointer (some ⟨xb, 1, none⟩)) := by obtain ⟨v, h1, h2⟩ := h 104 (by decide +kernel); rw [h1]; exact congrArg some h2
          clear h hsz hdf
          have x1 := HX.out wx hE
          go_wp2
          exact ⟨_, rfl, rfl, Ext.refl _⟩
        · -- 5: t106 := call { value (Operand.func 27), args := #[t103, t105], argTypes := #[42, 3] } 
          intro ac wx hE hsz hdf h
          have e103 : ac.tmps[103]? = some (.pointer (some ⟨mb, 0, none⟩)) := by obtain ⟨v, h1, h2⟩ := h 103 (by decide +kernel); rw [h1]; exact congrArg some h2
          have e105 : ac.tmps[105]? = some (.int .i64 y) := by obtain ⟨v, h1, h2⟩ := h 105 (by decide +kernel); rw [h1]; exact congrArg some h2
          clear h hsz hdf
          go_wp2_with ((go_at_call 27; refine (modPeek _ y m (hM6.keep hE) HMM.out).mono ?_; rintro e w' ⟨rfl, nq, hw'⟩; have hb7 : Ext wx w' := (by rw [hw']; exact Ext.drewN _ _); clear hw'))
          exact ⟨_, rfl, rfl, hb7⟩
        · -- 6: t107 := binOp BinOp.neq 9 t102 t106 9 
          intro ac wx hE hsz hdf h
          have e102 : ac.tmps[102]? = some (.string ⟨(q.take m).toArray⟩) := by obtain ⟨v, h1, h2⟩ := h 102 (by decide +kernel); rw [h1]; exact congrArg some h2
          have e106 : ac.tmps[106]? = some (.string ⟨(q.take m).toArray⟩) := by obtain ⟨v, h1, h2⟩ := h 106 (by decide +kernel); rw [h1]; exact congrArg some h2
          clear h hsz hdf
          go_wp2
          exact ⟨_, rfl, by simp, Ext.refl _⟩
        · intro a w9 hE hsz hdf h hrest
          obtain ⟨v0, s0, g0⟩ := h 0 _ rfl
          have e0 := g0 101 rfl
          obtain rfl : v0 = .slice A6 m m := s0
          obtain ⟨v1, s1, g1⟩ := h 1 _ rfl
          have e1 := g1 102 rfl
          obtain rfl : v1 = .string ⟨(q.take m).toArray⟩ := s1
          obtain ⟨v2, s2, g2⟩ := h 2 _ rfl
          have e2 := g2 103 rfl
          obtain rfl : v2 = .pointer (some ⟨mb, 0, none⟩) := s2
          obtain ⟨v3, s3, g3⟩ := h 3 _ rfl
          have e3 := g3 104 rfl
          obtain rfl : v3 = .pointer (some ⟨xb, 1, none⟩) := s3
          obtain ⟨v4, s4, g4⟩ := h 4 _ rfl
          have e4 := g4 105 rfl
          obtain rfl : v4 = .int .i64 y := s4
          obtain ⟨v5, s5, g5⟩ := h 5 _ rfl
          have e5 := g5 106 rfl
          obtain rfl : v5 = .string ⟨(q.take m).toArray⟩ := s5
          obtain ⟨v6, s6, g6⟩ := h 6 _ rfl
          have e6 := g6 107 rfl
          obtain rfl : v6 = .bool false := s6
          have ha := act_of [(101, .slice A6 m m), (102, .string ⟨(q.take m).toArray⟩), (103, .pointer (some ⟨mb, 0, none⟩)), (104, .pointer (some ⟨xb, 1, none⟩)), (105, .int .i64 y), (106, .string ⟨(q.take m).toArray⟩), (107, .bool false)] rfl hsz hdf (by intro p hp; simp only [List.mem_cons, List.not_mem_nil, or_false] at hp; rcases hp with rfl | rfl | rfl | rfl | rfl | rfl | rfl <;> first | exact e0 | exact e1 | exact e2 | exact e3 | exact e4 | exact e5 | exact e6) hrest
          clear h hrest hsz hdf e0 e1 e2 e3 e4 e5 e6 g0 g1 g2 g3 g4 g5 g6
          subst ha
          simp only [List.foldl_cons, List.foldl_nil, Act.put, List.setIfInBounds_toArray, List.set_cons_succ, List.set_cons_zero]
          go_wp2
          have hq7 := hq6.keep hE
          have hM7 := hM6.keep hE
          have hb7 := Below.trans hb6 (Below.mono hE hb6.size)
          have hf7 := HFL.out.keep hE
          clear hq6 hM6 hb6 HFL hE HX HRD6
          go_loopw [110] (fun i wr => ∃ j : Nat, j ≤ m ∧ i = .int .i64 j ∧ Flip w.heap.size [p, g, mb] wr (.slice A6 m m) m ∧ RingAt wr p g R q W.length f s ∧ ModAt wr mb R W q ∧ Below w.heap.size w wr) (fun i _ => m - (intOf i).toNat)
          case atStart => exact ⟨0, Nat.zero_le _, rfl, hf7, hq7, hM7, hb7⟩
          case round =>
            clear hf7 hq7 hM7 hb7
            obtain ⟨j, hj, rfl, hf, hq, hM, hb⟩ := hrel
            by_cases hjm : j < m
            · obtain ⟨gq, cs, hv, hB0, hX0, hBq, hcl, hcz⟩ := hf (by omega)
              cases hv
              obtain ⟨z, hz⟩ := hcz j _ (List.getElem?_eq_getElem (by omega))
              have e0 : wr.cell? ⟨gq, j, none⟩ = some (.int .u8 z) := by rw [hBq.cell_get (by omega), hz]
              have f0 := hBq.frozen j
              have HBQ := Lib.hid hBq
              have HCL := Lib.hid hcl
              have HCZ := Lib.hid hcz
              have HF := Lib.hid hf
              have hjl : (j : Int) < m := by omega
              clear hBq hcl hcz hf hz
              go_wp2
              have hcg : Chg [gq] wr (wr.setCell ⟨gq, j, none⟩ (.int .u8 (bits .xor .u8 z 255))) := (Chg.refl _ _).setCell (by simp) _
              simp only [List.mem_cons, List.not_mem_nil, or_false, not_or] at hX0
              refine ⟨⟨j + 1, by omega, by go_num, fun hm => ⟨gq, _, rfl, hB0, by simp; omega, HBQ.out.set_ j _, by rw [List.length_set]; exact HCL.out, fun i u hu => ?_⟩, hq.chg hcg (by simp; omega) (by simp; omega), hM.chg hcg (by simp; omega), hb.setCell hB0 _⟩, by simp [intOf]; omega⟩
              rw [List.getElem?_set] at hu
              split at hu
              · split at hu
                · cases hu; exact ⟨_, rfl⟩
                · cases hu
              · exact HCZ.out i u hu
            · obtain rfl : j = m := by omega
              obtain ⟨w9, rfl⟩ : ∃ w9 : World, w9 = wr := ⟨_, rfl⟩
              have hq9 := hq
              have hM9 := hM
              have hb9 := hb
              clear hq hM hb hf
              obtain ⟨Q, V, F9, S9, hqQ, hMQ, hsz⟩ : ∃ Q V F9 S9, RingAt w9 p g R Q V.length F9 S9 ∧ ModAt w9 mb R V Q ∧ V.length + Q.length ≤ 100 * (k + 1) := ⟨_, _, _, _, hq9, hM9, by omega⟩
              clear hq9 hM9
              go_wp2_with (go_at_call 29; refine (ringCounts _ hqQ).mono ?_; rintro e wC ⟨rfl, rfl⟩)
              have hqC := hqQ.drew
              have hMC := hMQ.keep ((Below.refl w9.heap.size w9).drew)
              have hbC : Below w.heap.size w w9.drew := hb9.drew
              clear hqQ hMQ hb9
              generalize w9.drew = wC at hqC hMC hbC ⊢
              have t1 : wC.cell? ⟨mb, 1, none⟩ = some (.string ⟨(V ++ Q).toArray⟩) := hMC.blk.cell 1
              have t2 : wC.cell? ⟨mb, 2, none⟩ = some (.int .i64 V.length) := hMC.blk.cell 2
              have hfitC := hMC.fits
              have hz : ((Q.length : Int) != (V.length : Int) + Q.length - V.length) = false := by simp; omega
              go_quiet (first
                | (go_at_call 22; refine Calls.quiet_of (ringLenQ (p := p) (g := g) (R := R) (q := Q) (went := V.length) (f := F9) (s := S9) _ ?_); exact hqC.keep (Ext.drewN _ _))
                | (go_at_call 18; refine Calls.quiet_of (ringRoomQ (p := p) (g := g) (R := R) (q := Q) (went := V.length) (f := F9) (s := S9) _ ?_); exact hqC.keep (Ext.drewN _ _)))
              go_wp2
              exact ⟨⟨k + 1, Q, V, F9, S9, by omega, by go_num, hqC.keep (Ext.drewN _ _), hMC.keep (Ext.drewN _ _), hsz, Below.trans hbC (Below.mono (Ext.drewN _ _) hbC.size)⟩, by simp [intOf]; omega⟩

      by_cases hk3 : kd = 3
      · subst hk3
        obtain ⟨m, hm⟩ : ∃ m, m = min y.toNat q.length := ⟨_, rfl⟩
        have hmq : m ≤ q.length := by omega
        have htk : (q.take m).length = m := by simp; omega
        have HMM := Lib.hid hm
        have HTK := Lib.hid htk
        clear hm htk
        go_wp2
        generalize wr.alloc (.cells #[.int .i64 3, .int .i64 y, .slice Av nv cv] 33) = w5 at *
        have hq5 := hqa
        have hM5 := hMa
        have hb5 := hba
        have hX : ∀ wx, Chg [p, mb] w5 wx → wx.cell? ⟨wr.heap.size, 1, none⟩ = some (.int .i64 y) := fun wx hh => (hxb.chg hh (by simp; omega)).cell 1
        have HX := Lib.hid hX
        clear hX hxb hqa hMa hba
        generalize wr.heap.size = xb at *

        refine wp_region_dagP (X := fun j => if j = 3 then [p] else if j = 7 then [mb] else []) (XX := [p, mb]) (late := fun j => if j = 3 then [8] else if j = 7 then [8] else []) (Pre := fun i w => (i = 3 → RingAt w p g R q W.length f s) ∧ (i = 7 → ModAt w mb R W q) ∧ True) (w0 := w5) (Φ := fun i v w => match i with | 0 => (v = .pointer (some ⟨p, 0, none⟩)) | 1 => (v = .pointer (some ⟨xb, 1, none⟩)) | 2 => (v = .int .i64 y) | 3 => (v = .int .i64 m ∧ RingAt w p g R (q.drop m) (W.length + m) ((f + m) % R) s) | 4 => (v = .pointer (some ⟨mb, 0, none⟩)) | 5 => (v = .pointer (some ⟨xb, 1, none⟩)) | 6 => (v = .int .i64 y) | 7 => (v = .int .i64 m ∧ ModAt w mb R (W ++ q.take m) (q.drop m)) | 8 => (v = .bool false) | _ => True) (show Tryd.prog.follows .mixedOrders = true from Checked.mixed Tryd.checked) 176 rfl (by decide +kernel) ?_ ?_ ?_ ?_ ?_ ⟨?_, ?_, ?_, ?_, ?_, ?_, ?_, ?_, ?_, trivial⟩ ?_
        · intro j x hx
          by_cases hj3 : j = 3
          · subst hj3; have hx' : x ∈ [p] := hx; simp at hx' ⊢; omega
          by_cases hj7 : j = 7
          · subst hj7; have hx' : x ∈ [mb] := hx; simp at hx' ⊢; omega
          simp [hj3, hj7] at hx
        · intro j
          by_cases hj3 : j = 3
          · subst hj3; decide +kernel
          by_cases hj7 : j = 7
          · subst hj7; decide +kernel
          simp [hj3, hj7, lateOk]
        · intro i
          exact ⟨fun _ => hq5.drew, fun _ => hM5.keep ((Below.refl _ _).drew), trivial⟩
        · intro i j w w' hij h hc
          refine ⟨?_, ?_, trivial⟩
          · intro hi
            subst hi
            have hp := h.1 rfl
            have hc' : Chg [mb] w w' := hc.mono (fun x hx => by
              by_cases hj3 : j = 3
              · exact absurd hj3 (by omega)
              by_cases hj7 : j = 7
              · subst hj7; have hx' : x ∈ [mb] := hx; simp at hx' ⊢; omega
              simp [hj3, hj7] at hx)
            exact hp.chg hc' (by simp; omega) (by simp; omega)
          · intro hi
            subst hi
            have hp := h.2.1 rfl
            have hc' : Chg [p] w w' := hc.mono (fun x hx => by
              by_cases hj3 : j = 3
              · subst hj3; have hx' : x ∈ [p] := hx; simp at hx' ⊢; omega
              by_cases hj7 : j = 7
              · exact absurd hj7 (by omega)
              simp [hj3, hj7] at hx)
            exact hp.chg hc' (by simp; omega)
        · intro i j v w w' hij hla h hc
          by_cases hj3 : j = 3
          · subst hj3
            have hc' : Chg [p] w w' := hc
            match i, hij, hla, h with
            | 0, _, _, h => exact h
            | 1, _, _, h => exact h
            | 2, _, _, h => exact h
            | 3, hij, _, _ => exact absurd rfl hij
            | 4, _, _, h => exact h
            | 5, _, _, h => exact h
            | 6, _, _, h => exact h
            | 7, _, _, h => exact ⟨h.1, h.2.chg hc' (by simp; omega)⟩
            | 8, _, _, h => exact h
            | _ + 9, _, _, _ => trivial
          by_cases hj7 : j = 7
          · subst hj7
            have hc' : Chg [mb] w w' := hc
            match i, hij, hla, h with
            | 0, _, _, h => exact h
            | 1, _, _, h => exact h
            | 2, _, _, h => exact h
            | 3, _, _, h => exact ⟨h.1, h.2.chg hc' (by simp; omega) (by simp; omega)⟩
            | 4, _, _, h => exact h
            | 5, _, _, h => exact h
            | 6, _, _, h => exact h
            | 7, hij, _, _ => exact absurd rfl hij
            | 8, _, _, h => exact h
            | _ + 9, _, _, _ => trivial
          have hc0 : Chg [] w w' := by simpa [hj3, hj7] using hc
          have hE : Ext w w' := hc0.ext (by simp)
          match i, h with
          | 0, h => exact h
          | 1, h => exact h
          | 2, h => exact h
          | 3, h => exact ⟨h.1, h.2.keep hE⟩
          | 4, h => exact h
          | 5, h => exact h
          | 6, h => exact h
          | 7, h => exact ⟨h.1, h.2.keep hE⟩
          | 8, h => exact h
          | _ + 9, _ => trivial
        · -- 0: t122 := move t5 
          intro ac wx hE hP hsz hdf h
          have e5 : ac.tmps[5]? = some (.pointer (some ⟨p, 0, none⟩)) := by obtain ⟨v, h1, h2⟩ := h 5 (by decide +kernel); exact h1.trans (h2.symm.trans rfl)
          clear h hsz hdf
          go_wp2
          exact ⟨_, rfl, rfl, Chg.refl _ _⟩
        · -- 1: t123 := fieldAddr 33 t9 1 
          intro ac wx hE hP hsz hdf h
          have e9 : ac.tmps[9]? = some (.pointer (some ⟨xb, 0, none⟩)) := by obtain ⟨v, h1, h2⟩ := h 9 (by decide +kernel); exact h1.trans (h2.symm.trans rfl)
          clear h hsz hdf
          go_wp2
          exact ⟨_, rfl, rfl, Chg.refl _ _⟩
        · -- 2: t124 := load 3 t123 
          intro ac wx hE hP hsz hdf h
          have e123 : ac.tmps[123]? = some (.pointer (some ⟨xb, 1, none⟩)) := by obtain ⟨v, h1, h2⟩ := h 123 (by decide +kernel); rw [h1]; exact congrArg some h2
          clear h hsz hdf
          have x1 := HX.out wx hE
          go_wp2
          exact ⟨_, rfl, rfl, Chg.refl _ _⟩
        · -- 3: t125 := call { value (Operand.func 21), args := #[t122, t124], argTypes := #[25, 3] } 
          intro ac wx hE hP hsz hdf h
          have e122 : ac.tmps[122]? = some (.pointer (some ⟨p, 0, none⟩)) := by obtain ⟨v, h1, h2⟩ := h 122 (by decide +kernel); rw [h1]; exact congrArg some h2
          have e124 : ac.tmps[124]? = some (.int .i64 y) := by obtain ⟨v, h1, h2⟩ := h 124 (by decide +kernel); rw [h1]; exact congrArg some h2
          clear h hsz hdf
          have hq2 := hP.1 rfl
          go_wp2_with ((go_at_call 21; refine (ringDrop _ y m hq2 HMM.out).mono ?_; rintro e w' ⟨rfl, hq3, hc3⟩))
          exact ⟨_, rfl, ⟨rfl, hq3⟩, hc3⟩
        · -- 4: t126 := move t7 
          intro ac wx hE hP hsz hdf h
          have e7 : ac.tmps[7]? = some (.pointer (some ⟨mb, 0, none⟩)) := by obtain ⟨v, h1, h2⟩ := h 7 (by decide +kernel); exact h1.trans (h2.symm.trans rfl)
          clear h hsz hdf
          go_wp2
          exact ⟨_, rfl, rfl, Chg.refl _ _⟩
        · -- 5: t127 := fieldAddr 33 t9 1 
          intro ac wx hE hP hsz hdf h
          have e9 : ac.tmps[9]? = some (.pointer (some ⟨xb, 0, none⟩)) := by obtain ⟨v, h1, h2⟩ := h 9 (by decide +kernel); exact h1.trans (h2.symm.trans rfl)
          clear h hsz hdf
          go_wp2
          exact ⟨_, rfl, rfl, Chg.refl _ _⟩
        · -- 6: t128 := load 3 t127 
          intro ac wx hE hP hsz hdf h
          have e127 : ac.tmps[127]? = some (.pointer (some ⟨xb, 1, none⟩)) := by obtain ⟨v, h1, h2⟩ := h 127 (by decide +kernel); rw [h1]; exact congrArg some h2
          clear h hsz hdf
          have x1 := HX.out wx hE
          go_wp2
          exact ⟨_, rfl, rfl, Chg.refl _ _⟩
        · -- 7: t129 := call { value (Operand.func 28), args := #[t126, t128], argTypes := #[42, 3] } 
          intro ac wx hE hP hsz hdf h
          have e126 : ac.tmps[126]? = some (.pointer (some ⟨mb, 0, none⟩)) := by obtain ⟨v, h1, h2⟩ := h 126 (by decide +kernel); rw [h1]; exact congrArg some h2
          have e128 : ac.tmps[128]? = some (.int .i64 y) := by obtain ⟨v, h1, h2⟩ := h 128 (by decide +kernel); rw [h1]; exact congrArg some h2
          clear h hsz hdf
          have hm2 := hP.2.1 rfl
          go_wp2_with ((go_at_call 28; refine (modDrop _ y m hm2 HMM.out).mono ?_; rintro e w' ⟨rfl, hm3, hc3⟩))
          exact ⟨_, rfl, ⟨rfl, hm3⟩, hc3⟩
        · -- 8: t130 := binOp BinOp.neq 3 t125 t129 3 
          intro ac wx hE hP hsz hdf h
          obtain ⟨e125, s125⟩ : ac.tmps[125]? = some (.int .i64 m) ∧ (RingAt wx p g R (q.drop m) (W.length + m) ((f + m) % R) s) := by obtain ⟨v, h1, h2, h3⟩ := h 125 (by decide +kernel); exact ⟨h1.trans (congrArg some h2), h3⟩
          obtain ⟨e129, s129⟩ : ac.tmps[129]? = some (.int .i64 m) ∧ (ModAt wx mb R (W ++ q.take m) (q.drop m)) := by obtain ⟨v, h1, h2, h3⟩ := h 129 (by decide +kernel); exact ⟨h1.trans (congrArg some h2), h3⟩
          clear h hsz hdf
          go_wp2
          exact ⟨_, rfl, by simp, Chg.refl _ _⟩
        · intro a w9 hE hsz hdf h hrest
          obtain ⟨v0, s0, g0⟩ := h 0 _ rfl
          have e0 := g0 122 rfl
          obtain rfl : v0 = .pointer (some ⟨p, 0, none⟩) := s0
          obtain ⟨v1, s1, g1⟩ := h 1 _ rfl
          have e1 := g1 123 rfl
          obtain rfl : v1 = .pointer (some ⟨xb, 1, none⟩) := s1
          obtain ⟨v2, s2, g2⟩ := h 2 _ rfl
          have e2 := g2 124 rfl
          obtain rfl : v2 = .int .i64 y := s2
          obtain ⟨v3, s3, g3⟩ := h 3 _ rfl
          have e3 := g3 125 rfl
          obtain ⟨rfl, r3⟩ : v3 = .int .i64 m ∧ (RingAt w9 p g R (q.drop m) (W.length + m) ((f + m) % R) s) := s3
          obtain ⟨v4, s4, g4⟩ := h 4 _ rfl
          have e4 := g4 126 rfl
          obtain rfl : v4 = .pointer (some ⟨mb, 0, none⟩) := s4
          obtain ⟨v5, s5, g5⟩ := h 5 _ rfl
          have e5 := g5 127 rfl
          obtain rfl : v5 = .pointer (some ⟨xb, 1, none⟩) := s5
          obtain ⟨v6, s6, g6⟩ := h 6 _ rfl
          have e6 := g6 128 rfl
          obtain rfl : v6 = .int .i64 y := s6
          obtain ⟨v7, s7, g7⟩ := h 7 _ rfl
          have e7 := g7 129 rfl
          obtain ⟨rfl, r7⟩ : v7 = .int .i64 m ∧ (ModAt w9 mb R (W ++ q.take m) (q.drop m)) := s7
          obtain ⟨v8, s8, g8⟩ := h 8 _ rfl
          have e8 := g8 130 rfl
          obtain rfl : v8 = .bool false := s8
          have ha := act_of [(122, .pointer (some ⟨p, 0, none⟩)), (123, .pointer (some ⟨xb, 1, none⟩)), (124, .int .i64 y), (125, .int .i64 m), (126, .pointer (some ⟨mb, 0, none⟩)), (127, .pointer (some ⟨xb, 1, none⟩)), (128, .int .i64 y), (129, .int .i64 m), (130, .bool false)] rfl hsz hdf (by intro p hp; simp only [List.mem_cons, List.not_mem_nil, or_false] at hp; rcases hp with rfl | rfl | rfl | rfl | rfl | rfl | rfl | rfl | rfl <;> first | exact e0 | exact e1 | exact e2 | exact e3 | exact e4 | exact e5 | exact e6 | exact e7 | exact e8) hrest
          clear h hrest hsz hdf e0 e1 e2 e3 e4 e5 e6 e7 e8 g0 g1 g2 g3 g4 g5 g6 g7 g8
          subst ha
          simp only [List.foldl_cons, List.foldl_nil, Act.put, List.setIfInBounds_toArray, List.set_cons_succ, List.set_cons_zero]
          have hq9 : RingAt w9 p g R (q.drop m) (W ++ q.take m).length ((f + m) % R) s := by rw [List.length_append, HTK.out]; exact r3
          have hM9 := r7
          have hb9 := hE.below hb5 hb5.size (by simp; omega)
          clear hE HX r3
          obtain ⟨Q, V, F9, S9, hqQ, hMQ, hsz⟩ : ∃ Q V F9 S9, RingAt w9 p g R Q V.length F9 S9 ∧ ModAt w9 mb R V Q ∧ V.length + Q.length ≤ 100 * (k + 1) := ⟨_, _, _, _, hq9, hM9, by simp; omega⟩
          clear hq9 hM9
          go_wp2_with (go_at_call 29; refine (ringCounts _ hqQ).mono ?_; rintro e wC ⟨rfl, rfl⟩)
          have hqC := hqQ.drew
          have hMC := hMQ.keep ((Below.refl w9.heap.size w9).drew)
          have hbC : Below w.heap.size w w9.drew := hb9.drew
          clear hqQ hMQ hb9
          generalize w9.drew = wC at hqC hMC hbC ⊢
          have t1 : wC.cell? ⟨mb, 1, none⟩ = some (.string ⟨(V ++ Q).toArray⟩) := hMC.blk.cell 1
          have t2 : wC.cell? ⟨mb, 2, none⟩ = some (.int .i64 V.length) := hMC.blk.cell 2
          have hfitC := hMC.fits
          have hz : ((Q.length : Int) != (V.length : Int) + Q.length - V.length) = false := by simp; omega
          go_quiet (first
            | (go_at_call 22; refine Calls.quiet_of (ringLenQ (p := p) (g := g) (R := R) (q := Q) (went := V.length) (f := F9) (s := S9) _ ?_); exact hqC.keep (Ext.drewN _ _))
            | (go_at_call 18; refine Calls.quiet_of (ringRoomQ (p := p) (g := g) (R := R) (q := Q) (went := V.length) (f := F9) (s := S9) _ ?_); exact hqC.keep (Ext.drewN _ _)))
          go_wp2
          exact ⟨⟨k + 1, Q, V, F9, S9, by omega, by go_num, hqC.keep (Ext.drewN _ _), hMC.keep (Ext.drewN _ _), hsz, Below.trans hbC (Below.mono (Ext.drewN _ _) hbC.size)⟩, by simp [intOf]; omega⟩
      · have b0 : (kd == 0) = false := by simpa using hk0
        have b1 : (kd == 1) = false := by simpa using hk1
        have b2 : (kd == 2) = false := by simpa using hk2
        have b3 : (kd == 3) = false := by simpa using hk3
        clear hk0 hk1 hk2 hk3
        have hq9 := hqa
        have hM9 := hMa
        have hb9 := hba
        clear hqa hMa hba hxb
        go_wp2_with fail
        generalize wr.alloc (.cells #[.int .i64 kd, .int .i64 y, .slice Av nv cv] 33) = w9 at *
        obtain ⟨Q, V, F9, S9, hqQ, hMQ, hsz⟩ : ∃ Q V F9 S9, RingAt w9 p g R Q V.length F9 S9 ∧ ModAt w9 mb R V Q ∧ V.length + Q.length ≤ 100 * (k + 1) := ⟨_, _, _, _, hq9, hM9, by omega⟩
        clear hq9 hM9
        go_wp2_with (go_at_call 29; refine (ringCounts _ hqQ).mono ?_; rintro e wC ⟨rfl, rfl⟩)
        have hqC := hqQ.drew
        have hMC := hMQ.keep ((Below.refl w9.heap.size w9).drew)
        have hbC : Below w.heap.size w w9.drew := hb9.drew
        clear hqQ hMQ hb9
        generalize w9.drew = wC at hqC hMC hbC ⊢
        have t1 : wC.cell? ⟨mb, 1, none⟩ = some (.string ⟨(V ++ Q).toArray⟩) := hMC.blk.cell 1
        have t2 : wC.cell? ⟨mb, 2, none⟩ = some (.int .i64 V.length) := hMC.blk.cell 2
        have hfitC := hMC.fits
        have hz : ((Q.length : Int) != (V.length : Int) + Q.length - V.length) = false := by simp; omega
        go_quiet (first
          | (go_at_call 22; refine Calls.quiet_of (ringLenQ (p := p) (g := g) (R := R) (q := Q) (went := V.length) (f := F9) (s := S9) _ ?_); exact hqC.keep (Ext.drewN _ _))
          | (go_at_call 18; refine Calls.quiet_of (ringRoomQ (p := p) (g := g) (R := R) (q := Q) (went := V.length) (f := F9) (s := S9) _ ?_); exact hqC.keep (Ext.drewN _ _)))
        go_wp2
        exact ⟨⟨k + 1, Q, V, F9, S9, by omega, by go_num, hqC.keep (Ext.drewN _ _), hMC.keep (Ext.drewN _ _), hsz, Below.trans hbC (Below.mono (Ext.drewN _ _) hbC.size)⟩, by simp [intOf]; omega⟩
    · obtain rfl : k = n := by omega
      go_wp2
      go_ret
      exact ⟨rfl, hb⟩
end Go.Proofs.YtbipkbpcjkgohaaDoor
