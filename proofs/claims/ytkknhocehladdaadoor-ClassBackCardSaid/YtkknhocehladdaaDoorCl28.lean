/- The law ClassBack, walked. -/
import Derived.Test.YtkknhocehladdaaDoorCl27
import Derived.Test.YtkknhocehladdaaDoorCl24
import Derived.Test.YtkknhocehladdaaDoorCl26p
namespace Go.Proofs.YtkknhocehladdaaDoor
open Go Go.RowKit
attribute [local irreducible] wd

theorem SB.below' {w w' : World} {B g : Nat} {p : Nat → Bool} (h : SB w g p) (hx : Below B w w') (hg : g < B) : SB w' g p := Blk.below h hx hg

set_option maxHeartbeats 16000000 in
set_option maxRecDepth 20000 in
theorem lawBack (E : Nat → Addr) (p q : Nat → Bool) (hp : ∀ j, 256 ≤ j → p j = false) (behind : List UInt8) (w : World) (hE : ErrC [2, 4] w E) (hT : Tab w) :
    Calls Tryd.prog 4 #[sp p, sp q, .string ⟨behind.toArray⟩] w fun e w' => e = .returned (.bool true) ∧ Ext w w' := by
  obtain ⟨ga, hga⟩ : ∃ ga, w.heap.size = ga := ⟨_, rfl⟩
  obtain ⟨w0, hw0⟩ : ∃ w0, (w.alloc (.cells (mix (wd p) (wd p) 0).toArray 24)).alloc (.cells (mix (wd q) (wd q) 0).toArray 24) = w0 := ⟨_, rfl⟩
  have hA0 : SB w0 ga p := by rw [← hw0]; exact (SB.new hga p).alloc _
  have hB0 : SB w0 (ga + 1) q := by rw [← hw0]; exact SB.new (by simp [hga]) q
  have hx0 : Ext w w0 := by rw [← hw0]; (first | exact Ext.refl _ | (unfold Ext; repeat (first | exact Below.refl _ _ | assumption | refine Below.alloc ?_ (by first | (simp; done) | (simp; omega) | omega) _ | refine Below.setCell ?_ (by first | (simp; done) | (simp; omega) | omega) _ | refine Below.drew ?_)))
  have hE0 := hE.keep hx0
  have hT0 := hT.keep hx0
  have HA := Lib.hid hA0
  have HB := Lib.hid hB0
  have HE := Lib.hid hE0
  have HT := Lib.hid hT0
  have HW0 := Lib.hid hw0
  clear hA0 hB0 hE0 hT0 hE hT hw0
  by_cases hbl : 50 < behind.length
  · have hbl' : (50 : Int) < (behind.length : Int) := by omega
    unfold sp
    go_enter Tryd.func4, Tryd.ntmps4
    go_wp2_with fail
    rw [show (w.alloc (.cells #[.int .u64 (wd p 0 : Nat), .int .u64 (wd p 1 : Nat), .int .u64 (wd p 2 : Nat), .int .u64 (wd p 3 : Nat)] 24)).alloc (.cells #[.int .u64 (wd q 0 : Nat), .int .u64 (wd q 1 : Nat), .int .u64 (wd q 2 : Nat), .int .u64 (wd q 3 : Nat)] 24) = w0 from HW0.out]
    go_wp2_with (go_at_call 6; refine (alive22 E _ HE.out HT.out).mono ?_; rintro e w1 ⟨rfl, hx1⟩)
    go_ret
    exact ⟨by simp, hx0.trans hx1⟩
  · have hbl' : ¬ (50 : Int) < (behind.length : Int) := by omega
    have htl := text_len p
    obtain ⟨n, hn⟩ : ∃ n, cnt p 256 = n := ⟨_, rfl⟩
    have hn6 : n ≤ 256 := by rw [← hn]; exact cnt_le _ _
    have HN := Lib.hid hn
    clear hn
    have hcase : n = 256 ∨ (n = 1 ∧ ∃ m, Sole p m ∧ (isLet m || isFig m) = true) ∨ (n = 1 ∧ ∃ m, Sole p m ∧ (isLet m || isFig m) = false) ∨ (n ≠ 1 ∧ n ≠ 256) := by
      by_cases h1 : n = 256
      · exact .inl h1
      · by_cases h2 : n = 1
        · obtain ⟨m, hm⟩ := cnt_sole (p := p) (by rw [HN.out, h2])
          cases h3 : (isLet m || isFig m)
          · exact .inr (.inr (.inl ⟨h2, m, hm, h3⟩))
          · exact .inr (.inl ⟨h2, m, hm, h3⟩)
        · exact .inr (.inr (.inr ⟨h2, h1⟩))
    rcases hcase with h256 | ⟨h1, m, hm, hs⟩ | ⟨h1, m, hm, hs⟩ | ⟨h1, h256⟩
    focus
      have ht : textT p = [46] := by
        unfold textT
        rw [HN.out, if_neg (by omega), if_neg (by omega), if_pos h256]
      subst h256
      have HTX := Lib.hid ht
      clear ht htl
      unfold sp
      go_enter Tryd.func4, Tryd.ntmps4
      go_wp2_with fail
      rw [show (w.alloc (.cells #[.int .u64 (wd p 0 : Nat), .int .u64 (wd p 1 : Nat), .int .u64 (wd p 2 : Nat), .int .u64 (wd p 3 : Nat)] 24)).alloc (.cells #[.int .u64 (wd q 0 : Nat), .int .u64 (wd q 1 : Nat), .int .u64 (wd q 2 : Nat), .int .u64 (wd q 3 : Nat)] 24) = w0 from HW0.out]
      go_wp2_with (first
        | (have := hx2; go_at_call 15; refine (setLen p _).mono ?_; rintro e w3 ⟨rfl, hx3⟩; rw [HN.out])
        | (have := hx1; go_at_call 17; refine (clText p _ (HT.out.keep hx1)).mono ?_; rintro e w2 ⟨rfl, hx2⟩; rw [HTX.out]; obtain ⟨y0, y1, y2, y3⟩ := (HA.out.keep (hx1.trans hx2)).cells)
        | (go_at_call 6; refine (alive22 E _ HE.out HT.out).mono ?_; rintro e w1 ⟨rfl, hx1⟩; obtain ⟨y0, y1, y2, y3⟩ := (HA.out.keep hx1).cells))
      have hxw := hx0.trans ((hx1.trans hx2).trans hx3)
      have hA := HA.out.keep ((hx1.trans hx2).trans hx3)
      have hB := HB.out.keep ((hx1.trans hx2).trans hx3)
      have hla := hA.lt
      have hlb := hB.lt
      clear y0 y1 y2 y3 HA HB HE HT HW0 hga hx0
      generalize ga + 1 = gb at *
      generalize w3 = wz at *
    rotate_left
    focus
      subst h1
      have hm6 := hm.1
      have hpm : p m = true := by rw [hm.2 m hm6]; simp
      have hmt : (UInt8.ofNat m).toNat = m := ofNat_byte m hm6
      have ht : textT p = [UInt8.ofNat m] := by
        unfold textT
        rw [HN.out, if_neg (by omega), if_pos rfl, hm.lst]
        unfold signT
        rw [if_pos hs]
      have HTX := Lib.hid ht
      have HPM := Lib.hid hpm
      clear ht htl hpm hs hm
      unfold sp
      go_enter Tryd.func4, Tryd.ntmps4
      go_wp2_with fail
      rw [show (w.alloc (.cells #[.int .u64 (wd p 0 : Nat), .int .u64 (wd p 1 : Nat), .int .u64 (wd p 2 : Nat), .int .u64 (wd p 3 : Nat)] 24)).alloc (.cells #[.int .u64 (wd q 0 : Nat), .int .u64 (wd q 1 : Nat), .int .u64 (wd q 2 : Nat), .int .u64 (wd q 3 : Nat)] 24) = w0 from HW0.out]
      go_wp2_with (first
        | (have := hx2; go_at_call 15; refine (setLen p _).mono ?_; rintro e w3 ⟨rfl, hx3⟩; rw [HN.out])
        | (have := hx1; go_at_call 17; refine (clText p _ (HT.out.keep hx1)).mono ?_; rintro e w2 ⟨rfl, hx2⟩; rw [HTX.out]; obtain ⟨y0, y1, y2, y3⟩ := (HA.out.keep (hx1.trans hx2)).cells)
        | (go_at_call 6; refine (alive22 E _ HE.out HT.out).mono ?_; rintro e w1 ⟨rfl, hx1⟩; obtain ⟨y0, y1, y2, y3⟩ := (HA.out.keep hx1).cells))
      have hAk := HA.out.keep ((hx1.trans hx2).trans hx3)
      have hxk := ((hx1.trans hx2).trans hx3)
      clear hx1 hx2 hx3
      generalize w3 = wk at *
      -- DAG ClBack14
      refine wp_region_dag (E := Ext) (w0 := wk) (Φ := fun i v w => match i with | 0 => (v = sp p) | 1 => (v = .string ⟨#[UInt8.ofNat m]⟩) | 2 => (v = .int .u8 m) | 3 => (v = .bool true) | 4 => (v = .bool false) | _ => True) (show Tryd.prog.follows .mixedOrders = true from Checked.mixed Tryd.checked) 144 rfl (by decide +kernel) ?_ ((Below.refl _ _).drew) ?_ ⟨?_, ?_, ?_, ?_, ?_, trivial⟩ ?_
      · intro i v w w' h hE
        match i, h with
        | 0, h => exact h
        | 1, h => exact h
        | 2, h => exact h
        | 3, h => exact h
        | 4, h => exact h
        | _ + 5, _ => trivial
      · exact fun w w' h h' => h.trans h'
      · -- 0: t60 := load 24 t3 
        intro ac wx hE hsz hdf h
        have e3 : ac.tmps[3]? = some (.pointer (some ⟨ga, 0, none⟩)) := by obtain ⟨v, h1, h2⟩ := h 3 (by decide +kernel); exact h1.trans (h2.symm.trans rfl)
        clear h hsz hdf
        obtain ⟨y0, y1, y2, y3⟩ := (hAk.keep hE).cells
        go_wp2
        exact ⟨_, rfl, rfl, Ext.refl _⟩
      · -- 1: t61 := move t7 
        intro ac wx hE hsz hdf h
        have e7 : ac.tmps[7]? = some (.string ⟨#[UInt8.ofNat m]⟩) := by obtain ⟨v, h1, h2⟩ := h 7 (by decide +kernel); exact h1.trans (h2.symm.trans rfl)
        clear h hsz hdf
        go_wp2
        exact ⟨_, rfl, rfl, Ext.refl _⟩
      · -- 2: t62 := index 9 t61 (const (0:i64)) 
        intro ac wx hE hsz hdf h
        have e61 : ac.tmps[61]? = some (.string ⟨#[UInt8.ofNat m]⟩) := by obtain ⟨v, h1, h2⟩ := h 61 (by decide +kernel); rw [h1]; exact congrArg some h2
        clear h hsz hdf
        go_wp2
        exact ⟨_, rfl, (by first | rfl | (simp; done) | (simp; omega)), Ext.refl _⟩
      · -- 3: t63 := call { value (Operand.func 9), args := #[t60, t62], argTypes := #[24, 5] } 
        intro ac wx hE hsz hdf h
        have e60 : ac.tmps[60]? = some (sp p) := by obtain ⟨v, h1, h2⟩ := h 60 (by decide +kernel); rw [h1]; exact congrArg some h2
        have e62 : ac.tmps[62]? = some (.int .u8 m) := by obtain ⟨v, h1, h2⟩ := h 62 (by decide +kernel); rw [h1]; exact congrArg some h2
        clear h hsz hdf
        go_wp2_with ((go_at_call 9; refine (setHas p m hm6 _).mono ?_; rintro e w9 ⟨rfl, hb9⟩; rw [HPM.out]))
        exact ⟨_, rfl, rfl, hb9⟩
      · -- 4: t64 := unOp UnOp.not 4 t63 
        intro ac wx hE hsz hdf h
        have e63 : ac.tmps[63]? = some (.bool true) := by obtain ⟨v, h1, h2⟩ := h 63 (by decide +kernel); rw [h1]; exact congrArg some h2
        clear h hsz hdf
        go_wp2
        exact ⟨_, rfl, rfl, Ext.refl _⟩
      intro ac w9 hE hsz hdf h hrest
      obtain ⟨v0, s0, g0⟩ := h 0 _ rfl
      have e0 := g0 60 rfl
      obtain rfl : v0 = sp p := s0
      obtain ⟨v1, s1, g1⟩ := h 1 _ rfl
      have e1 := g1 61 rfl
      obtain rfl : v1 = .string ⟨#[UInt8.ofNat m]⟩ := s1
      obtain ⟨v2, s2, g2⟩ := h 2 _ rfl
      have e2 := g2 62 rfl
      obtain rfl : v2 = .int .u8 m := s2
      obtain ⟨v3, s3, g3⟩ := h 3 _ rfl
      have e3 := g3 63 rfl
      obtain rfl : v3 = .bool true := s3
      obtain ⟨v4, s4, g4⟩ := h 4 _ rfl
      have e4 := g4 64 rfl
      obtain rfl : v4 = .bool false := s4
      have ha := act_of [(60, sp p), (61, .string ⟨#[UInt8.ofNat m]⟩), (62, .int .u8 m), (63, .bool true), (64, .bool false)] rfl hsz hdf (by intro p hp; simp only [List.mem_cons, List.not_mem_nil, or_false] at hp; rcases hp with rfl | rfl | rfl | rfl | rfl <;> first | exact e0 | exact e1 | exact e2 | exact e3 | exact e4) hrest
      clear h hrest hsz hdf e0 e1 e2 e3 e4 g0 g1 g2 g3 g4
      subst ha
      simp only [List.foldl_cons, List.foldl_nil, Act.put, List.setIfInBounds_toArray, List.set_cons_succ, List.set_cons_zero]
      -- GAD ClBack14
      go_wp2_with fail
      have hxw := hx0.trans (hxk.trans hE)
      have hA := HA.out.keep (hxk.trans hE)
      have hB := HB.out.keep (hxk.trans hE)
      have hla := hA.lt
      have hlb := hB.lt
      clear hAk HA HB HE HT HW0 hga hx0
      generalize ga + 1 = gb at *
      generalize w9 = wz at *
    rotate_left
    focus
      subst h1
      have hm6 := hm.1
      have ht : textT p = signT m := by
        unfold textT
        rw [HN.out, if_neg (by omega), if_pos rfl, hm.lst]
      have hlen : (signT m).length = 4 := by unfold signT; rw [if_neg (by simp [hs])]; rfl
      have hsg : sgV E (escS (signT m ++ behind)) = .tuple #[sp (fun j => j == m), .bool true, .int .i64 (4 : Nat), .nilIface] := by
        rw [esc_told m hm6 hs, hlen]
        rfl
      have heq := eq_true (p := fun j => j == m) (q := p) (fun c hc => (hm.2 c hc).symm)
      have hl2 : (signT m ++ behind).length ≤ 10000 := by rw [List.length_append]; omega
      have HTX := Lib.hid ht
      have HSG := Lib.hid hsg
      have HL2 := Lib.hid hl2
      clear ht htl hs hm hsg hl2
      generalize signT m = tx at *
      unfold sp
      go_enter Tryd.func4, Tryd.ntmps4
      go_wp2_with fail
      rw [show (w.alloc (.cells #[.int .u64 (wd p 0 : Nat), .int .u64 (wd p 1 : Nat), .int .u64 (wd p 2 : Nat), .int .u64 (wd p 3 : Nat)] 24)).alloc (.cells #[.int .u64 (wd q 0 : Nat), .int .u64 (wd q 1 : Nat), .int .u64 (wd q 2 : Nat), .int .u64 (wd q 3 : Nat)] 24) = w0 from HW0.out]
      go_wp2_with (first
        | (have := hx3; go_at_call 22; refine (clEscape E (tx ++ behind) HL2.out _ (HE.out.keep ((hx1.trans hx2).trans hx3))).mono ?_; rintro e w4 ⟨rfl, hx4⟩; rw [HSG.out]; obtain ⟨y0, y1, y2, y3⟩ := ((HA.out.keep (((hx1.trans hx2).trans hx3).trans hx4)).alloc (.cells #[.int .u64 (wd (fun j => j == m) 0 : Nat), .int .u64 (wd (fun j => j == m) 1 : Nat), .int .u64 (wd (fun j => j == m) 2 : Nat), .int .u64 (wd (fun j => j == m) 3 : Nat)] 24)).cells; unfold sp)
        | (have := hx2; go_at_call 15; refine (setLen p _).mono ?_; rintro e w3 ⟨rfl, hx3⟩; rw [HN.out])
        | (have := hx1; go_at_call 17; refine (clText p _ (HT.out.keep hx1)).mono ?_; rintro e w2 ⟨rfl, hx2⟩; rw [HTX.out]; obtain ⟨y0, y1, y2, y3⟩ := (HA.out.keep (hx1.trans hx2)).cells)
        | (go_at_call 6; refine (alive22 E _ HE.out HT.out).mono ?_; rintro e w1 ⟨rfl, hx1⟩; obtain ⟨y0, y1, y2, y3⟩ := (HA.out.keep hx1).cells))
      have hx5 := Ext.new1 w4 (.cells #[.int .u64 (wd (fun j => j == m) 0 : Nat), .int .u64 (wd (fun j => j == m) 1 : Nat), .int .u64 (wd (fun j => j == m) 2 : Nat), .int .u64 (wd (fun j => j == m) 3 : Nat)] 24)
      have hxw := hx0.trans ((((hx1.trans hx2).trans hx3).trans hx4).trans hx5)
      have hA := HA.out.keep ((((hx1.trans hx2).trans hx3).trans hx4).trans hx5)
      have hB := HB.out.keep ((((hx1.trans hx2).trans hx3).trans hx4).trans hx5)
      have hla := hA.lt
      have hlb := hB.lt
      clear y0 y1 y2 y3 HA HB HE HT HW0 hga hx0
      generalize ga + 1 = gb at *
      generalize w4.alloc (.cells #[.int .u64 (wd (fun j => j == m) 0 : Nat), .int .u64 (wd (fun j => j == m) 1 : Nat), .int .u64 (wd (fun j => j == m) 2 : Nat), .int .u64 (wd (fun j => j == m) 3 : Nat)] 24) = wz at *
    rotate_left
    focus
      have hb2 := text_back p hp (by rw [HN.out]; exact h1) (by rw [HN.out]; exact h256) behind
      have hpv : parseV E (parseS (textT p ++ behind)) = .tuple #[sp p, .int .i64 ((textT p).length : Nat), .nilIface] := by
        unfold parseV
        rw [sp_congr (fun c hc => hb2.2 c hc), hb2.1]
        rfl
      have hl2 : (textT p ++ behind).length ≤ 10000 := by rw [List.length_append]; omega
      have g1 : ((n : Int) == 1) = false := by simp; omega
      have g2 : ((n : Int) == 256) = false := by simp; omega
      have HPV := Lib.hid hpv
      have HL2 := Lib.hid hl2
      have heq := eq_true (p := p) (q := p) (fun _ _ => rfl)
      clear hb2 hpv hl2 h1 h256
      obtain ⟨tx, htx⟩ : ∃ tx, textT p = tx := ⟨_, rfl⟩
      rw [htx] at HPV HL2 htl
      have HTX := Lib.hid htx
      clear htx
      unfold sp
      go_enter Tryd.func4, Tryd.ntmps4
      go_wp2_with fail
      rw [show (w.alloc (.cells #[.int .u64 (wd p 0 : Nat), .int .u64 (wd p 1 : Nat), .int .u64 (wd p 2 : Nat), .int .u64 (wd p 3 : Nat)] 24)).alloc (.cells #[.int .u64 (wd q 0 : Nat), .int .u64 (wd q 1 : Nat), .int .u64 (wd q 2 : Nat), .int .u64 (wd q 3 : Nat)] 24) = w0 from HW0.out]
      go_wp2_with (first
        | (have := hx3; go_at_call 23; refine (clParse E (tx ++ behind) HL2.out _ (HE.out.keep ((hx1.trans hx2).trans hx3)) (HT.out.keep ((hx1.trans hx2).trans hx3))).mono ?_; rintro e w4 ⟨rfl, hx4⟩; rw [HPV.out]; obtain ⟨y0, y1, y2, y3⟩ := ((HA.out.keep (((hx1.trans hx2).trans hx3).trans hx4)).alloc (.cells #[.int .u64 (wd p 0 : Nat), .int .u64 (wd p 1 : Nat), .int .u64 (wd p 2 : Nat), .int .u64 (wd p 3 : Nat)] 24)).cells; unfold sp)
        | (have := hx2; go_at_call 15; refine (setLen p _).mono ?_; rintro e w3 ⟨rfl, hx3⟩; rw [HN.out])
        | (have := hx1; go_at_call 17; refine (clText p _ (HT.out.keep hx1)).mono ?_; rintro e w2 ⟨rfl, hx2⟩; rw [HTX.out]; obtain ⟨y0, y1, y2, y3⟩ := (HA.out.keep (hx1.trans hx2)).cells)
        | (go_at_call 6; refine (alive22 E _ HE.out HT.out).mono ?_; rintro e w1 ⟨rfl, hx1⟩; obtain ⟨y0, y1, y2, y3⟩ := (HA.out.keep hx1).cells))
      have hx5 := Ext.new1 w4 (.cells #[.int .u64 (wd p 0 : Nat), .int .u64 (wd p 1 : Nat), .int .u64 (wd p 2 : Nat), .int .u64 (wd p 3 : Nat)] 24)
      have hxw := hx0.trans ((((hx1.trans hx2).trans hx3).trans hx4).trans hx5)
      have hA := HA.out.keep ((((hx1.trans hx2).trans hx3).trans hx4).trans hx5)
      have hB := HB.out.keep ((((hx1.trans hx2).trans hx3).trans hx4).trans hx5)
      have hla := hA.lt
      have hlb := hB.lt
      clear y0 y1 y2 y3 HA HB HE HT HW0 hga hx0
      generalize ga + 1 = gb at *
      generalize w4.alloc (.cells #[.int .u64 (wd p 0 : Nat), .int .u64 (wd p 1 : Nat), .int .u64 (wd p 2 : Nat), .int .u64 (wd p 3 : Nat)] 24) = wz at *
    rotate_left
    all_goals
      -- DAG ClBack20
      refine wp_region_dagF (E := EG wz.heap.size 24 (gBoth p q)) (w0 := wz) (Φ := fun i f v w => match i with | 0 => (v = sp p) | 1 => (v = sp (fun j => !p j)) | 2 => (v = sp q) | 3 => (v = sp (fun j => !q j)) | 4 => (v = sp (fun j => !p j || !q j)) | 5 => (v = sp (bothP p q)) | 6 => (∃ g, v = .pointer (some ⟨g, 0, none⟩) ∧ wz.heap.size ≤ g ∧ ∃ cs, cs.length = 4 ∧ Blk w g 24 cs) | 7 => (∃ g, f 16 = some (.pointer (some ⟨g, 0, none⟩)) ∧ wz.heap.size ≤ g ∧ ∃ cs, gBoth p q w cs ∧ Blk w g 24 cs) | _ => True) (show Tryd.prog.follows .mixedOrders = true from Checked.mixed Tryd.checked) 144 rfl (by decide +kernel) ?_ (.of_ext ((Below.refl _ _).drew)) ?_ ⟨?_, ?_, ?_, ?_, ?_, ?_, ?_, ?_, trivial⟩ ?_
      · intro i f v w w' h hE
        match i, h with
        | 0, h => exact h
        | 1, h => exact h
        | 2, h => exact h
        | 3, h => exact h
        | 4, h => exact h
        | 5, h => exact h
        | 6, h => exact (by obtain ⟨g, h1, h2, h3⟩ := h; exact ⟨g, h1, h2, hE.four (fun _ _ => gBoth_len) h3⟩)
        | 7, h => exact (by obtain ⟨g, h1, h2, h3⟩ := h; exact ⟨g, h1, h2, hE.good (gBoth_stable _ _ _) h3⟩)
        | _ + 8, _ => trivial
      · exact fun w w' h h' => h.trans (gBoth_stable _ _ _) h'
      · -- 0: t94 := load 24 t3 
        intro ac wx hE hsz hdf h
        have e3 : ac.tmps[3]? = some (.pointer (some ⟨ga, 0, none⟩)) := by obtain ⟨v, h1, h2⟩ := h 3 (by decide +kernel); exact h1.trans (h2.symm.trans rfl)
        clear h hsz hdf
        obtain ⟨y0, y1, y2, y3⟩ := (hA.below (hE.below (Below.refl _ _) (Nat.le_refl _)) hla).cells
        go_wp2
        exact ⟨_, rfl, rfl, EG.refl _⟩
      · -- 1: t95 := call { value (Operand.func 13), args := #[t94], argTypes := #[24] } 
        intro ac wx hE hsz hdf h
        have e94 : ac.tmps[94]? = some (sp p) := by obtain ⟨v, h1, f, h2⟩ := h 94 (by decide +kernel); rw [h1]; exact congrArg some h2
        clear h hsz hdf
        go_wp2_with ((go_at_call 13; refine (setNot _ _).mono ?_; rintro e w9 ⟨rfl, hb9⟩))
        exact ⟨_, rfl, rfl, .of_ext hb9⟩
      · -- 2: t96 := load 24 t4 
        intro ac wx hE hsz hdf h
        have e4 : ac.tmps[4]? = some (.pointer (some ⟨gb, 0, none⟩)) := by obtain ⟨v, h1, h2⟩ := h 4 (by decide +kernel); exact h1.trans (h2.symm.trans rfl)
        clear h hsz hdf
        obtain ⟨y0, y1, y2, y3⟩ := (hB.below (hE.below (Below.refl _ _) (Nat.le_refl _)) hlb).cells
        go_wp2
        exact ⟨_, rfl, rfl, EG.refl _⟩
      · -- 3: t97 := call { value (Operand.func 13), args := #[t96], argTypes := #[24] } 
        intro ac wx hE hsz hdf h
        have e96 : ac.tmps[96]? = some (sp q) := by obtain ⟨v, h1, f, h2⟩ := h 96 (by decide +kernel); rw [h1]; exact congrArg some h2
        clear h hsz hdf
        go_wp2_with ((go_at_call 13; refine (setNot _ _).mono ?_; rintro e w9 ⟨rfl, hb9⟩))
        exact ⟨_, rfl, rfl, .of_ext hb9⟩
      · -- 4: t98 := call { value (Operand.func 11), args := #[t95, t97], argTypes := #[24, 24] } 
        intro ac wx hE hsz hdf h
        have e95 : ac.tmps[95]? = some (sp (fun j => !p j)) := by obtain ⟨v, h1, f, h2⟩ := h 95 (by decide +kernel); rw [h1]; exact congrArg some h2
        have e97 : ac.tmps[97]? = some (sp (fun j => !q j)) := by obtain ⟨v, h1, f, h2⟩ := h 97 (by decide +kernel); rw [h1]; exact congrArg some h2
        clear h hsz hdf
        go_wp2_with ((go_at_call 11; refine (setOr _ _ _).mono ?_; rintro e w9 ⟨rfl, hb9⟩))
        exact ⟨_, rfl, rfl, .of_ext hb9⟩
      · -- 5: t99 := call { value (Operand.func 13), args := #[t98], argTypes := #[24] } 
        intro ac wx hE hsz hdf h
        have e98 : ac.tmps[98]? = some (sp (fun j => !p j || !q j)) := by obtain ⟨v, h1, f, h2⟩ := h 98 (by decide +kernel); rw [h1]; exact congrArg some h2
        clear h hsz hdf
        go_wp2_with ((go_at_call 13; refine (setNot _ _).mono ?_; rintro e w9 ⟨rfl, hb9⟩))
        exact ⟨_, rfl, rfl, .of_ext hb9⟩
      · -- 6: t16 := alloc 24 
        intro ac wx hE hsz hdf h
        clear h hsz hdf
        go_wp2
        exact ⟨_, rfl, ⟨_, rfl, hE.size, _, rfl, Blk.newL wx _ [.int .u64 0, .int .u64 0, .int .u64 0, .int .u64 0]⟩, .of_ext (Ext.new1 _ _)⟩
      · -- 7: tNone := store 24 t16 t99 
        intro ac wx hE hsz hdf h
        obtain ⟨v16, e16, s16⟩ : ∃ v, ac.tmps[16]? = some v ∧ (∃ g, v = .pointer (some ⟨g, 0, none⟩) ∧ wz.heap.size ≤ g ∧ ∃ cs, cs.length = 4 ∧ Blk wx g 24 cs) := by obtain ⟨v, h1, f, h2⟩ := h 16 (by decide +kernel); exact ⟨v, h1, h2⟩
        have e99 : ac.tmps[99]? = some (sp (bothP p q)) := by obtain ⟨v, h1, f, h2⟩ := h 99 (by decide +kernel); rw [h1]; exact congrArg some h2
        clear h hsz hdf
        obtain ⟨gy, rfl, hgy, cs8, hcs8, hby⟩ := s16; obtain ⟨y0, y1, y2, y3, rfl⟩ := four_of hcs8; have p0 := hby.cell 0; have p1 := hby.cell 1; have p2 := hby.cell 2; have p3 := hby.cell 3; have q0 := hby.frozen 0; have q1 := hby.frozen 1; have q2 := hby.frozen 2; have q3 := hby.frozen 3; simp only [List.getElem?_cons_zero, List.getElem?_cons_succ] at p0 p1 p2 p3; unfold sp at e99
        go_wp2
        obtain ⟨hf8, hc8⟩ := set4 hby (.int .u64 (wd (bothP p q) 0 : Nat)) (.int .u64 (wd (bothP p q) 1 : Nat)) (.int .u64 (wd (bothP p q) 2 : Nat)) (.int .u64 (wd (bothP p q) 3 : Nat)); exact ⟨undef, rfl, ⟨gy, e16, hgy, _, rfl, hf8⟩, EG.store hc8 hgy hby hf8 rfl⟩
      · intro ac w9 hE hsz hdf h hrest
        obtain ⟨v0, f0, s0, g0, -⟩ := h 0 _ rfl
        have e0 := g0 94 rfl
        obtain rfl : v0 = sp p := s0
        obtain ⟨v1, f1, s1, g1, -⟩ := h 1 _ rfl
        have e1 := g1 95 rfl
        obtain rfl : v1 = sp (fun j => !p j) := s1
        obtain ⟨v2, f2, s2, g2, -⟩ := h 2 _ rfl
        have e2 := g2 96 rfl
        obtain rfl : v2 = sp q := s2
        obtain ⟨v3, f3, s3, g3, -⟩ := h 3 _ rfl
        have e3 := g3 97 rfl
        obtain rfl : v3 = sp (fun j => !q j) := s3
        obtain ⟨v4, f4, s4, g4, -⟩ := h 4 _ rfl
        have e4 := g4 98 rfl
        obtain rfl : v4 = sp (fun j => !p j || !q j) := s4
        obtain ⟨v5, f5, s5, g5, -⟩ := h 5 _ rfl
        have e5 := g5 99 rfl
        obtain rfl : v5 = sp (bothP p q) := s5
        obtain ⟨v6, f6, s6, g6, -⟩ := h 6 _ rfl
        have e6 := g6 16 rfl
        replace s6 : ∃ g, v6 = .pointer (some ⟨g, 0, none⟩) ∧ wz.heap.size ≤ g ∧ ∃ cs, cs.length = 4 ∧ Blk w9 g 24 cs := s6
        obtain ⟨v7, f7, s7, -, fe7⟩ := h 7 _ rfl
        replace s7 : ∃ g, f7 16 = some (.pointer (some ⟨g, 0, none⟩)) ∧ wz.heap.size ≤ g ∧ ∃ cs, gBoth p q w9 cs ∧ Blk w9 g 24 cs := s7
        have l7_16 := fe7 16 (by decide +kernel)
        have l7_99 := fe7 99 (by decide +kernel)
        clear fe7
        obtain ⟨gy, hfy, hgy, cs9, rfl, hby⟩ := s7
        obtain rfl : v6 = .pointer (some ⟨gy, 0, none⟩) := Option.some.inj (e6.symm.trans (l7_16.trans hfy))
        clear l7_16 l7_99 hfy s6
        have ha := act_of [(94, sp p), (95, sp (fun j => !p j)), (96, sp q), (97, sp (fun j => !q j)), (98, sp (fun j => !p j || !q j)), (99, sp (bothP p q)), (16, .pointer (some ⟨gy, 0, none⟩))] rfl hsz hdf (by intro p hp; simp only [List.mem_cons, List.not_mem_nil, or_false] at hp; rcases hp with rfl | rfl | rfl | rfl | rfl | rfl | rfl <;> first | exact e0 | exact e1 | exact e2 | exact e3 | exact e4 | exact e5 | exact e6) hrest
        clear h hrest hsz hdf e0 e1 e2 e3 e4 e5 e6 g0 g1 g2 g3 g4 g5 g6
        clear f0 f1 f2 f3 f4 f5 f6 f7
        subst ha
        simp only [List.foldl_cons, List.foldl_nil, Act.put, List.setIfInBounds_toArray, List.set_cons_succ, List.set_cons_zero]
      -- GAD ClBack20
        have hA9 := hA.below' (hE.below (Below.refl _ _) (Nat.le_refl _)) hla
        have hB9 := hB.below' (hE.below (Below.refl _ _) (Nat.le_refl _)) hlb
        have hC9 : SB w9 gy (bothP p q) := hby
        have hx9 : Ext w w9 := Below.trans hxw ((hE.below (Below.refl _ _) (Nat.le_refl _)).mono hxw.size)
        clear hE hby hA hB hla hlb hxw hgy
        obtain ⟨nB, hnB⟩ : ∃ n, cnt (bothP p q) 256 = n := ⟨_, rfl⟩
        obtain ⟨nO, hnO⟩ : ∃ n, cnt (fun j => p j || q j) 256 = n := ⟨_, rfl⟩
        obtain ⟨nP, hnP⟩ : ∃ n, cnt p 256 = n := ⟨_, rfl⟩
        obtain ⟨nQ, hnQ⟩ : ∃ n, cnt q 256 = n := ⟨_, rfl⟩
        have hsum := cnt_both p q 256
        rw [hnB, hnO, hnP, hnQ] at hsum
        have l1 : nB ≤ 256 := by rw [← hnB]; exact cnt_le _ _
        have l2 : nO ≤ 256 := by rw [← hnO]; exact cnt_le _ _
        have l3 : nP ≤ 256 := by rw [← hnP]; exact cnt_le _ _
        have l4 : nQ ≤ 256 := by rw [← hnQ]; exact cnt_le _ _
        have w1' : IntKind.i64.wrap ((nB : Int) + (nO : Int)) = (nB : Int) + (nO : Int) := wrap_id (by omega) (by omega)
        have w2' : IntKind.i64.wrap ((nP : Int) + (nQ : Int)) = (nP : Int) + (nQ : Int) := wrap_id (by omega) (by omega)
        have hse : ((nB : Int) + (nO : Int) == (nP : Int) + (nQ : Int)) = true := by simp; omega
        have k1 := eq_true (p := p) (q := p) (fun _ _ => rfl)
        have k2 := eq_true (p := fun j => p j || q j) (q := fun j => q j || p j) (fun c _ => Bool.or_comm _ _)
        have k3 := eq_true (p := fun j => p j || bothP p q j) (q := p) (fun c _ => by unfold bothP; cases p c <;> simp)
        have k4 := eq_true (p := fun _ => true) (q := fun _ => true) (fun _ _ => rfl)
        have hA := hA9
        have hB := hB9
        have hC := hC9
        clear hA9 hB9 hC9
        generalize w9 = wy at *
        go_wp2_with fail
        -- DAG ClBack21
        refine wp_region_dag (E := Ext) (w0 := wy) (Φ := fun i v w => match i with | 0 => (v = sp p) | 1 => (v = sp (fun j => !p j)) | 2 => (v = sp p) | 3 => (v = sp p) | 4 => (v = .bool true) | 5 => (v = .bool true) | 6 => (v = sp p) | 7 => (v = sp q) | 8 => (v = sp (fun j => p j || q j)) | 9 => (v = sp q) | 10 => (v = sp p) | 11 => (v = sp (fun j => q j || p j)) | 12 => (v = .bool true) | 13 => (v = .bool true) | 14 => (v = .bool true) | 15 => (v = sp p) | 16 => (v = sp (bothP p q)) | 17 => (v = sp (fun j => p j || bothP p q j)) | 18 => (v = sp p) | 19 => (v = .bool true) | 20 => (v = .bool true) | 21 => (v = .bool true) | 22 => (v = sp p) | 23 => (v = sp p) | 24 => (v = sp (fun j => !p j)) | 25 => (v = sp (fun _ => true)) | 26 => (v = sp (fun _ => true)) | 27 => (v = .bool true) | 28 => (v = .bool true) | 29 => (v = .bool true) | 30 => (v = sp (bothP p q)) | 31 => (v = .int .i64 (nB : Nat)) | 32 => (v = sp p) | 33 => (v = sp q) | 34 => (v = sp (fun j => p j || q j)) | 35 => (v = .int .i64 (nO : Nat)) | 36 => (v = .int .i64 ((nB : Int) + (nO : Int))) | 37 => (v = sp p) | 38 => (v = .int .i64 (nP : Nat)) | 39 => (v = sp q) | 40 => (v = .int .i64 (nQ : Nat)) | 41 => (v = .int .i64 ((nP : Int) + (nQ : Int))) | 42 => (v = .bool true) | 43 => (v = .bool true) | 44 => (v = .bool true) | _ => True) (show Tryd.prog.follows .mixedOrders = true from Checked.mixed Tryd.checked) 144 rfl (by decide +kernel) ?_ ((Below.refl _ _).drew) ?_ ⟨?_, ?_, ?_, ?_, ?_, ?_, ?_, ?_, ?_, ?_, ?_, ?_, ?_, ?_, ?_, ?_, ?_, ?_, ?_, ?_, ?_, ?_, ?_, ?_, ?_, ?_, ?_, ?_, ?_, ?_, ?_, ?_, ?_, ?_, ?_, ?_, ?_, ?_, ?_, ?_, ?_, ?_, ?_, ?_, ?_, trivial⟩ ?_
        · intro i v w w' h hE
          match i, h with
          | 0, h => exact h
          | 1, h => exact h
          | 2, h => exact h
          | 3, h => exact h
          | 4, h => exact h
          | 5, h => exact h
          | 6, h => exact h
          | 7, h => exact h
          | 8, h => exact h
          | 9, h => exact h
          | 10, h => exact h
          | 11, h => exact h
          | 12, h => exact h
          | 13, h => exact h
          | 14, h => exact h
          | 15, h => exact h
          | 16, h => exact h
          | 17, h => exact h
          | 18, h => exact h
          | 19, h => exact h
          | 20, h => exact h
          | 21, h => exact h
          | 22, h => exact h
          | 23, h => exact h
          | 24, h => exact h
          | 25, h => exact h
          | 26, h => exact h
          | 27, h => exact h
          | 28, h => exact h
          | 29, h => exact h
          | 30, h => exact h
          | 31, h => exact h
          | 32, h => exact h
          | 33, h => exact h
          | 34, h => exact h
          | 35, h => exact h
          | 36, h => exact h
          | 37, h => exact h
          | 38, h => exact h
          | 39, h => exact h
          | 40, h => exact h
          | 41, h => exact h
          | 42, h => exact h
          | 43, h => exact h
          | 44, h => exact h
          | _ + 45, _ => trivial
        · exact fun w w' h h' => h.trans h'
        · -- 0: t100 := load 24 t3 
          intro ac wx hE hsz hdf h
          have e3 : ac.tmps[3]? = some (.pointer (some ⟨ga, 0, none⟩)) := by obtain ⟨v, h1, h2⟩ := h 3 (by decide +kernel); exact h1.trans (h2.symm.trans rfl)
          clear h hsz hdf
          obtain ⟨y0, y1, y2, y3⟩ := (hA.keep hE).cells
          go_wp2
          exact ⟨_, rfl, rfl, Ext.refl _⟩
        · -- 1: t101 := call { value (Operand.func 13), args := #[t100], argTypes := #[24] } 
          intro ac wx hE hsz hdf h
          have e100 : ac.tmps[100]? = some (sp p) := by obtain ⟨v, h1, h2⟩ := h 100 (by decide +kernel); rw [h1]; exact congrArg some h2
          clear h hsz hdf
          go_wp2_with ((go_at_call 13; refine (setNot _ _).mono ?_; rintro e w9 ⟨rfl, hb9⟩))
          exact ⟨_, rfl, (by first | rfl | simp), hb9⟩
        · -- 2: t102 := call { value (Operand.func 13), args := #[t101], argTypes := #[24] } 
          intro ac wx hE hsz hdf h
          have e101 : ac.tmps[101]? = some (sp (fun j => !p j)) := by obtain ⟨v, h1, h2⟩ := h 101 (by decide +kernel); rw [h1]; exact congrArg some h2
          clear h hsz hdf
          go_wp2_with ((go_at_call 13; refine (setNot _ _).mono ?_; rintro e w9 ⟨rfl, hb9⟩))
          exact ⟨_, rfl, (by first | rfl | simp), hb9⟩
        · -- 3: t103 := load 24 t3 
          intro ac wx hE hsz hdf h
          have e3 : ac.tmps[3]? = some (.pointer (some ⟨ga, 0, none⟩)) := by obtain ⟨v, h1, h2⟩ := h 3 (by decide +kernel); exact h1.trans (h2.symm.trans rfl)
          clear h hsz hdf
          obtain ⟨y0, y1, y2, y3⟩ := (hA.keep hE).cells
          go_wp2
          exact ⟨_, rfl, rfl, Ext.refl _⟩
        · -- 4: t104 := binOp BinOp.eql 24 t102 t103 24 
          intro ac wx hE hsz hdf h
          have e102 : ac.tmps[102]? = some (sp p) := by obtain ⟨v, h1, h2⟩ := h 102 (by decide +kernel); rw [h1]; exact congrArg some h2
          have e103 : ac.tmps[103]? = some (sp p) := by obtain ⟨v, h1, h2⟩ := h 103 (by decide +kernel); rw [h1]; exact congrArg some h2
          clear h hsz hdf
          unfold sp at e102 e103
          go_wp2
          exact ⟨_, rfl, rfl, Ext.refl _⟩
        · -- 5: t105 := move t104 
          intro ac wx hE hsz hdf h
          have e104 : ac.tmps[104]? = some (.bool true) := by obtain ⟨v, h1, h2⟩ := h 104 (by decide +kernel); rw [h1]; exact congrArg some h2
          clear h hsz hdf
          go_wp2
          exact ⟨_, rfl, rfl, Ext.refl _⟩
        · -- 6: t106 := load 24 t3 (5, True)
          intro ac wx hE hsz hdf h
          have e3 : ac.tmps[3]? = some (.pointer (some ⟨ga, 0, none⟩)) := by obtain ⟨v, h1, h2⟩ := h 3 (by decide +kernel); exact h1.trans (h2.symm.trans rfl)
          have e105 : ac.tmps[105]? = some (.bool true) := by obtain ⟨v, h1, h2⟩ := h 105 (by decide +kernel); rw [h1]; exact congrArg some h2
          clear h hsz hdf
          obtain ⟨y0, y1, y2, y3⟩ := (hA.keep hE).cells
          go_wp2
          exact ⟨_, rfl, rfl, Ext.refl _⟩
        · -- 7: t107 := load 24 t4 (5, True)
          intro ac wx hE hsz hdf h
          have e4 : ac.tmps[4]? = some (.pointer (some ⟨gb, 0, none⟩)) := by obtain ⟨v, h1, h2⟩ := h 4 (by decide +kernel); exact h1.trans (h2.symm.trans rfl)
          have e105 : ac.tmps[105]? = some (.bool true) := by obtain ⟨v, h1, h2⟩ := h 105 (by decide +kernel); rw [h1]; exact congrArg some h2
          clear h hsz hdf
          obtain ⟨y0, y1, y2, y3⟩ := (hB.keep hE).cells
          go_wp2
          exact ⟨_, rfl, rfl, Ext.refl _⟩
        · -- 8: t108 := call { value (Operand.func 11), args := #[t106, t107], argTypes := #[24, 24] } (5, True)
          intro ac wx hE hsz hdf h
          have e106 : ac.tmps[106]? = some (sp p) := by obtain ⟨v, h1, h2⟩ := h 106 (by decide +kernel); rw [h1]; exact congrArg some h2
          have e107 : ac.tmps[107]? = some (sp q) := by obtain ⟨v, h1, h2⟩ := h 107 (by decide +kernel); rw [h1]; exact congrArg some h2
          have e105 : ac.tmps[105]? = some (.bool true) := by obtain ⟨v, h1, h2⟩ := h 105 (by decide +kernel); rw [h1]; exact congrArg some h2
          clear h hsz hdf
          go_wp2_with ((go_at_call 11; refine (setOr _ _ _).mono ?_; rintro e w9 ⟨rfl, hb9⟩))
          exact ⟨_, rfl, (by first | rfl | simp), hb9⟩
        · -- 9: t109 := load 24 t4 (5, True)
          intro ac wx hE hsz hdf h
          have e4 : ac.tmps[4]? = some (.pointer (some ⟨gb, 0, none⟩)) := by obtain ⟨v, h1, h2⟩ := h 4 (by decide +kernel); exact h1.trans (h2.symm.trans rfl)
          have e105 : ac.tmps[105]? = some (.bool true) := by obtain ⟨v, h1, h2⟩ := h 105 (by decide +kernel); rw [h1]; exact congrArg some h2
          clear h hsz hdf
          obtain ⟨y0, y1, y2, y3⟩ := (hB.keep hE).cells
          go_wp2
          exact ⟨_, rfl, rfl, Ext.refl _⟩
        · -- 10: t110 := load 24 t3 (5, True)
          intro ac wx hE hsz hdf h
          have e3 : ac.tmps[3]? = some (.pointer (some ⟨ga, 0, none⟩)) := by obtain ⟨v, h1, h2⟩ := h 3 (by decide +kernel); exact h1.trans (h2.symm.trans rfl)
          have e105 : ac.tmps[105]? = some (.bool true) := by obtain ⟨v, h1, h2⟩ := h 105 (by decide +kernel); rw [h1]; exact congrArg some h2
          clear h hsz hdf
          obtain ⟨y0, y1, y2, y3⟩ := (hA.keep hE).cells
          go_wp2
          exact ⟨_, rfl, rfl, Ext.refl _⟩
        · -- 11: t111 := call { value (Operand.func 11), args := #[t109, t110], argTypes := #[24, 24] } (5, True)
          intro ac wx hE hsz hdf h
          have e109 : ac.tmps[109]? = some (sp q) := by obtain ⟨v, h1, h2⟩ := h 109 (by decide +kernel); rw [h1]; exact congrArg some h2
          have e110 : ac.tmps[110]? = some (sp p) := by obtain ⟨v, h1, h2⟩ := h 110 (by decide +kernel); rw [h1]; exact congrArg some h2
          have e105 : ac.tmps[105]? = some (.bool true) := by obtain ⟨v, h1, h2⟩ := h 105 (by decide +kernel); rw [h1]; exact congrArg some h2
          clear h hsz hdf
          go_wp2_with ((go_at_call 11; refine (setOr _ _ _).mono ?_; rintro e w9 ⟨rfl, hb9⟩))
          exact ⟨_, rfl, (by first | rfl | simp), hb9⟩
        · -- 12: t112 := binOp BinOp.eql 24 t108 t111 24 (5, True)
          intro ac wx hE hsz hdf h
          have e108 : ac.tmps[108]? = some (sp (fun j => p j || q j)) := by obtain ⟨v, h1, h2⟩ := h 108 (by decide +kernel); rw [h1]; exact congrArg some h2
          have e111 : ac.tmps[111]? = some (sp (fun j => q j || p j)) := by obtain ⟨v, h1, h2⟩ := h 111 (by decide +kernel); rw [h1]; exact congrArg some h2
          have e105 : ac.tmps[105]? = some (.bool true) := by obtain ⟨v, h1, h2⟩ := h 105 (by decide +kernel); rw [h1]; exact congrArg some h2
          clear h hsz hdf
          unfold sp at e108 e111
          go_wp2
          exact ⟨_, rfl, rfl, Ext.refl _⟩
        · -- 13: t113 := pick t105 t112 (const (Value.bool false)) 
          intro ac wx hE hsz hdf h
          have e105 : ac.tmps[105]? = some (.bool true) := by obtain ⟨v, h1, h2⟩ := h 105 (by decide +kernel); rw [h1]; exact congrArg some h2
          have e112 : ac.tmps[112]? = some (.bool true) := by obtain ⟨v, h1, h2⟩ := h 112 (by decide +kernel); rw [h1]; exact congrArg some h2
          clear h hsz hdf
          go_wp2
          exact ⟨_, rfl, rfl, Ext.refl _⟩
        · -- 14: t114 := move t113 
          intro ac wx hE hsz hdf h
          have e113 : ac.tmps[113]? = some (.bool true) := by obtain ⟨v, h1, h2⟩ := h 113 (by decide +kernel); rw [h1]; exact congrArg some h2
          clear h hsz hdf
          go_wp2
          exact ⟨_, rfl, rfl, Ext.refl _⟩
        · -- 15: t115 := load 24 t3 (14, True)
          intro ac wx hE hsz hdf h
          have e3 : ac.tmps[3]? = some (.pointer (some ⟨ga, 0, none⟩)) := by obtain ⟨v, h1, h2⟩ := h 3 (by decide +kernel); exact h1.trans (h2.symm.trans rfl)
          have e114 : ac.tmps[114]? = some (.bool true) := by obtain ⟨v, h1, h2⟩ := h 114 (by decide +kernel); rw [h1]; exact congrArg some h2
          clear h hsz hdf
          obtain ⟨y0, y1, y2, y3⟩ := (hA.keep hE).cells
          go_wp2
          exact ⟨_, rfl, rfl, Ext.refl _⟩
        · -- 16: t116 := load 24 t16 (14, True)
          intro ac wx hE hsz hdf h
          have e16 : ac.tmps[16]? = some (.pointer (some ⟨gy, 0, none⟩)) := by obtain ⟨v, h1, h2⟩ := h 16 (by decide +kernel); exact h1.trans (h2.symm.trans rfl)
          have e114 : ac.tmps[114]? = some (.bool true) := by obtain ⟨v, h1, h2⟩ := h 114 (by decide +kernel); rw [h1]; exact congrArg some h2
          clear h hsz hdf
          obtain ⟨y0, y1, y2, y3⟩ := (hC.keep hE).cells
          go_wp2
          exact ⟨_, rfl, rfl, Ext.refl _⟩
        · -- 17: t117 := call { value (Operand.func 11), args := #[t115, t116], argTypes := #[24, 24] } (14, True)
          intro ac wx hE hsz hdf h
          have e115 : ac.tmps[115]? = some (sp p) := by obtain ⟨v, h1, h2⟩ := h 115 (by decide +kernel); rw [h1]; exact congrArg some h2
          have e116 : ac.tmps[116]? = some (sp (bothP p q)) := by obtain ⟨v, h1, h2⟩ := h 116 (by decide +kernel); rw [h1]; exact congrArg some h2
          have e114 : ac.tmps[114]? = some (.bool true) := by obtain ⟨v, h1, h2⟩ := h 114 (by decide +kernel); rw [h1]; exact congrArg some h2
          clear h hsz hdf
          go_wp2_with ((go_at_call 11; refine (setOr _ _ _).mono ?_; rintro e w9 ⟨rfl, hb9⟩))
          exact ⟨_, rfl, (by first | rfl | simp), hb9⟩
        · -- 18: t118 := load 24 t3 (14, True)
          intro ac wx hE hsz hdf h
          have e3 : ac.tmps[3]? = some (.pointer (some ⟨ga, 0, none⟩)) := by obtain ⟨v, h1, h2⟩ := h 3 (by decide +kernel); exact h1.trans (h2.symm.trans rfl)
          have e114 : ac.tmps[114]? = some (.bool true) := by obtain ⟨v, h1, h2⟩ := h 114 (by decide +kernel); rw [h1]; exact congrArg some h2
          clear h hsz hdf
          obtain ⟨y0, y1, y2, y3⟩ := (hA.keep hE).cells
          go_wp2
          exact ⟨_, rfl, rfl, Ext.refl _⟩
        · -- 19: t119 := binOp BinOp.eql 24 t117 t118 24 (14, True)
          intro ac wx hE hsz hdf h
          have e117 : ac.tmps[117]? = some (sp (fun j => p j || bothP p q j)) := by obtain ⟨v, h1, h2⟩ := h 117 (by decide +kernel); rw [h1]; exact congrArg some h2
          have e118 : ac.tmps[118]? = some (sp p) := by obtain ⟨v, h1, h2⟩ := h 118 (by decide +kernel); rw [h1]; exact congrArg some h2
          have e114 : ac.tmps[114]? = some (.bool true) := by obtain ⟨v, h1, h2⟩ := h 114 (by decide +kernel); rw [h1]; exact congrArg some h2
          clear h hsz hdf
          unfold sp at e117 e118
          go_wp2
          exact ⟨_, rfl, rfl, Ext.refl _⟩
        · -- 20: t120 := pick t114 t119 (const (Value.bool false)) 
          intro ac wx hE hsz hdf h
          have e114 : ac.tmps[114]? = some (.bool true) := by obtain ⟨v, h1, h2⟩ := h 114 (by decide +kernel); rw [h1]; exact congrArg some h2
          have e119 : ac.tmps[119]? = some (.bool true) := by obtain ⟨v, h1, h2⟩ := h 119 (by decide +kernel); rw [h1]; exact congrArg some h2
          clear h hsz hdf
          go_wp2
          exact ⟨_, rfl, rfl, Ext.refl _⟩
        · -- 21: t121 := move t120 
          intro ac wx hE hsz hdf h
          have e120 : ac.tmps[120]? = some (.bool true) := by obtain ⟨v, h1, h2⟩ := h 120 (by decide +kernel); rw [h1]; exact congrArg some h2
          clear h hsz hdf
          go_wp2
          exact ⟨_, rfl, rfl, Ext.refl _⟩
        · -- 22: t122 := load 24 t3 (21, True)
          intro ac wx hE hsz hdf h
          have e3 : ac.tmps[3]? = some (.pointer (some ⟨ga, 0, none⟩)) := by obtain ⟨v, h1, h2⟩ := h 3 (by decide +kernel); exact h1.trans (h2.symm.trans rfl)
          have e121 : ac.tmps[121]? = some (.bool true) := by obtain ⟨v, h1, h2⟩ := h 121 (by decide +kernel); rw [h1]; exact congrArg some h2
          clear h hsz hdf
          obtain ⟨y0, y1, y2, y3⟩ := (hA.keep hE).cells
          go_wp2
          exact ⟨_, rfl, rfl, Ext.refl _⟩
        · -- 23: t123 := load 24 t3 (21, True)
          intro ac wx hE hsz hdf h
          have e3 : ac.tmps[3]? = some (.pointer (some ⟨ga, 0, none⟩)) := by obtain ⟨v, h1, h2⟩ := h 3 (by decide +kernel); exact h1.trans (h2.symm.trans rfl)
          have e121 : ac.tmps[121]? = some (.bool true) := by obtain ⟨v, h1, h2⟩ := h 121 (by decide +kernel); rw [h1]; exact congrArg some h2
          clear h hsz hdf
          obtain ⟨y0, y1, y2, y3⟩ := (hA.keep hE).cells
          go_wp2
          exact ⟨_, rfl, rfl, Ext.refl _⟩
        · -- 24: t124 := call { value (Operand.func 13), args := #[t123], argTypes := #[24] } (21, True)
          intro ac wx hE hsz hdf h
          have e123 : ac.tmps[123]? = some (sp p) := by obtain ⟨v, h1, h2⟩ := h 123 (by decide +kernel); rw [h1]; exact congrArg some h2
          have e121 : ac.tmps[121]? = some (.bool true) := by obtain ⟨v, h1, h2⟩ := h 121 (by decide +kernel); rw [h1]; exact congrArg some h2
          clear h hsz hdf
          go_wp2_with ((go_at_call 13; refine (setNot _ _).mono ?_; rintro e w9 ⟨rfl, hb9⟩))
          exact ⟨_, rfl, (by first | rfl | simp), hb9⟩
        · -- 25: t125 := call { value (Operand.func 11), args := #[t122, t124], argTypes := #[24, 24] } (21, True)
          intro ac wx hE hsz hdf h
          have e122 : ac.tmps[122]? = some (sp p) := by obtain ⟨v, h1, h2⟩ := h 122 (by decide +kernel); rw [h1]; exact congrArg some h2
          have e124 : ac.tmps[124]? = some (sp (fun j => !p j)) := by obtain ⟨v, h1, h2⟩ := h 124 (by decide +kernel); rw [h1]; exact congrArg some h2
          have e121 : ac.tmps[121]? = some (.bool true) := by obtain ⟨v, h1, h2⟩ := h 121 (by decide +kernel); rw [h1]; exact congrArg some h2
          clear h hsz hdf
          go_wp2_with ((go_at_call 11; refine (setOr _ _ _).mono ?_; rintro e w9 ⟨rfl, hb9⟩))
          exact ⟨_, rfl, (by first | rfl | simp), hb9⟩
        · -- 26: t126 := call { value (Operand.func 21), args := #[], argTypes := #[] } (21, True)
          intro ac wx hE hsz hdf h
          have e121 : ac.tmps[121]? = some (.bool true) := by obtain ⟨v, h1, h2⟩ := h 121 (by decide +kernel); rw [h1]; exact congrArg some h2
          clear h hsz hdf
          go_wp2_with ((go_at_call 21; refine (setAll _).mono ?_; rintro e w9 ⟨rfl, hb9⟩))
          exact ⟨_, rfl, (by first | rfl | simp), hb9⟩
        · -- 27: t127 := binOp BinOp.eql 24 t125 t126 24 (21, True)
          intro ac wx hE hsz hdf h
          have e125 : ac.tmps[125]? = some (sp (fun _ => true)) := by obtain ⟨v, h1, h2⟩ := h 125 (by decide +kernel); rw [h1]; exact congrArg some h2
          have e126 : ac.tmps[126]? = some (sp (fun _ => true)) := by obtain ⟨v, h1, h2⟩ := h 126 (by decide +kernel); rw [h1]; exact congrArg some h2
          have e121 : ac.tmps[121]? = some (.bool true) := by obtain ⟨v, h1, h2⟩ := h 121 (by decide +kernel); rw [h1]; exact congrArg some h2
          clear h hsz hdf
          unfold sp at e125 e126
          go_wp2
          exact ⟨_, rfl, rfl, Ext.refl _⟩
        · -- 28: t128 := pick t121 t127 (const (Value.bool false)) 
          intro ac wx hE hsz hdf h
          have e121 : ac.tmps[121]? = some (.bool true) := by obtain ⟨v, h1, h2⟩ := h 121 (by decide +kernel); rw [h1]; exact congrArg some h2
          have e127 : ac.tmps[127]? = some (.bool true) := by obtain ⟨v, h1, h2⟩ := h 127 (by decide +kernel); rw [h1]; exact congrArg some h2
          clear h hsz hdf
          go_wp2
          exact ⟨_, rfl, rfl, Ext.refl _⟩
        · -- 29: t129 := move t128 
          intro ac wx hE hsz hdf h
          have e128 : ac.tmps[128]? = some (.bool true) := by obtain ⟨v, h1, h2⟩ := h 128 (by decide +kernel); rw [h1]; exact congrArg some h2
          clear h hsz hdf
          go_wp2
          exact ⟨_, rfl, rfl, Ext.refl _⟩
        · -- 30: t130 := load 24 t16 (29, True)
          intro ac wx hE hsz hdf h
          have e16 : ac.tmps[16]? = some (.pointer (some ⟨gy, 0, none⟩)) := by obtain ⟨v, h1, h2⟩ := h 16 (by decide +kernel); exact h1.trans (h2.symm.trans rfl)
          have e129 : ac.tmps[129]? = some (.bool true) := by obtain ⟨v, h1, h2⟩ := h 129 (by decide +kernel); rw [h1]; exact congrArg some h2
          clear h hsz hdf
          obtain ⟨y0, y1, y2, y3⟩ := (hC.keep hE).cells
          go_wp2
          exact ⟨_, rfl, rfl, Ext.refl _⟩
        · -- 31: t131 := call { value (Operand.func 15), args := #[t130], argTypes := #[24] } (29, True)
          intro ac wx hE hsz hdf h
          have e130 : ac.tmps[130]? = some (sp (bothP p q)) := by obtain ⟨v, h1, h2⟩ := h 130 (by decide +kernel); rw [h1]; exact congrArg some h2
          have e129 : ac.tmps[129]? = some (.bool true) := by obtain ⟨v, h1, h2⟩ := h 129 (by decide +kernel); rw [h1]; exact congrArg some h2
          clear h hsz hdf
          go_wp2_with ((go_at_call 15; refine (setLen _ _).mono ?_; rintro e w9 ⟨rfl, hb9⟩; rw [hnB]))
          exact ⟨_, rfl, (by first | rfl | simp), hb9⟩
        · -- 32: t132 := load 24 t3 (29, True)
          intro ac wx hE hsz hdf h
          have e3 : ac.tmps[3]? = some (.pointer (some ⟨ga, 0, none⟩)) := by obtain ⟨v, h1, h2⟩ := h 3 (by decide +kernel); exact h1.trans (h2.symm.trans rfl)
          have e129 : ac.tmps[129]? = some (.bool true) := by obtain ⟨v, h1, h2⟩ := h 129 (by decide +kernel); rw [h1]; exact congrArg some h2
          clear h hsz hdf
          obtain ⟨y0, y1, y2, y3⟩ := (hA.keep hE).cells
          go_wp2
          exact ⟨_, rfl, rfl, Ext.refl _⟩
        · -- 33: t133 := load 24 t4 (29, True)
          intro ac wx hE hsz hdf h
          have e4 : ac.tmps[4]? = some (.pointer (some ⟨gb, 0, none⟩)) := by obtain ⟨v, h1, h2⟩ := h 4 (by decide +kernel); exact h1.trans (h2.symm.trans rfl)
          have e129 : ac.tmps[129]? = some (.bool true) := by obtain ⟨v, h1, h2⟩ := h 129 (by decide +kernel); rw [h1]; exact congrArg some h2
          clear h hsz hdf
          obtain ⟨y0, y1, y2, y3⟩ := (hB.keep hE).cells
          go_wp2
          exact ⟨_, rfl, rfl, Ext.refl _⟩
        · -- 34: t134 := call { value (Operand.func 11), args := #[t132, t133], argTypes := #[24, 24] } (29, True)
          intro ac wx hE hsz hdf h
          have e132 : ac.tmps[132]? = some (sp p) := by obtain ⟨v, h1, h2⟩ := h 132 (by decide +kernel); rw [h1]; exact congrArg some h2
          have e133 : ac.tmps[133]? = some (sp q) := by obtain ⟨v, h1, h2⟩ := h 133 (by decide +kernel); rw [h1]; exact congrArg some h2
          have e129 : ac.tmps[129]? = some (.bool true) := by obtain ⟨v, h1, h2⟩ := h 129 (by decide +kernel); rw [h1]; exact congrArg some h2
          clear h hsz hdf
          go_wp2_with ((go_at_call 11; refine (setOr _ _ _).mono ?_; rintro e w9 ⟨rfl, hb9⟩))
          exact ⟨_, rfl, (by first | rfl | simp), hb9⟩
        · -- 35: t135 := call { value (Operand.func 15), args := #[t134], argTypes := #[24] } (29, True)
          intro ac wx hE hsz hdf h
          have e134 : ac.tmps[134]? = some (sp (fun j => p j || q j)) := by obtain ⟨v, h1, h2⟩ := h 134 (by decide +kernel); rw [h1]; exact congrArg some h2
          have e129 : ac.tmps[129]? = some (.bool true) := by obtain ⟨v, h1, h2⟩ := h 129 (by decide +kernel); rw [h1]; exact congrArg some h2
          clear h hsz hdf
          go_wp2_with ((go_at_call 15; refine (setLen _ _).mono ?_; rintro e w9 ⟨rfl, hb9⟩; rw [hnO]))
          exact ⟨_, rfl, (by first | rfl | simp), hb9⟩
        · -- 36: t136 := binOp BinOp.add 3 t131 t135 3 (29, True)
          intro ac wx hE hsz hdf h
          have e131 : ac.tmps[131]? = some (.int .i64 (nB : Nat)) := by obtain ⟨v, h1, h2⟩ := h 131 (by decide +kernel); rw [h1]; exact congrArg some h2
          have e135 : ac.tmps[135]? = some (.int .i64 (nO : Nat)) := by obtain ⟨v, h1, h2⟩ := h 135 (by decide +kernel); rw [h1]; exact congrArg some h2
          have e129 : ac.tmps[129]? = some (.bool true) := by obtain ⟨v, h1, h2⟩ := h 129 (by decide +kernel); rw [h1]; exact congrArg some h2
          clear h hsz hdf
          go_wp2
          exact ⟨_, rfl, rfl, Ext.refl _⟩
        · -- 37: t137 := load 24 t3 (29, True)
          intro ac wx hE hsz hdf h
          have e3 : ac.tmps[3]? = some (.pointer (some ⟨ga, 0, none⟩)) := by obtain ⟨v, h1, h2⟩ := h 3 (by decide +kernel); exact h1.trans (h2.symm.trans rfl)
          have e129 : ac.tmps[129]? = some (.bool true) := by obtain ⟨v, h1, h2⟩ := h 129 (by decide +kernel); rw [h1]; exact congrArg some h2
          clear h hsz hdf
          obtain ⟨y0, y1, y2, y3⟩ := (hA.keep hE).cells
          go_wp2
          exact ⟨_, rfl, rfl, Ext.refl _⟩
        · -- 38: t138 := call { value (Operand.func 15), args := #[t137], argTypes := #[24] } (29, True)
          intro ac wx hE hsz hdf h
          have e137 : ac.tmps[137]? = some (sp p) := by obtain ⟨v, h1, h2⟩ := h 137 (by decide +kernel); rw [h1]; exact congrArg some h2
          have e129 : ac.tmps[129]? = some (.bool true) := by obtain ⟨v, h1, h2⟩ := h 129 (by decide +kernel); rw [h1]; exact congrArg some h2
          clear h hsz hdf
          go_wp2_with ((go_at_call 15; refine (setLen _ _).mono ?_; rintro e w9 ⟨rfl, hb9⟩; rw [hnP]))
          exact ⟨_, rfl, (by first | rfl | simp), hb9⟩
        · -- 39: t139 := load 24 t4 (29, True)
          intro ac wx hE hsz hdf h
          have e4 : ac.tmps[4]? = some (.pointer (some ⟨gb, 0, none⟩)) := by obtain ⟨v, h1, h2⟩ := h 4 (by decide +kernel); exact h1.trans (h2.symm.trans rfl)
          have e129 : ac.tmps[129]? = some (.bool true) := by obtain ⟨v, h1, h2⟩ := h 129 (by decide +kernel); rw [h1]; exact congrArg some h2
          clear h hsz hdf
          obtain ⟨y0, y1, y2, y3⟩ := (hB.keep hE).cells
          go_wp2
          exact ⟨_, rfl, rfl, Ext.refl _⟩
        · -- 40: t140 := call { value (Operand.func 15), args := #[t139], argTypes := #[24] } (29, True)
          intro ac wx hE hsz hdf h
          have e139 : ac.tmps[139]? = some (sp q) := by obtain ⟨v, h1, h2⟩ := h 139 (by decide +kernel); rw [h1]; exact congrArg some h2
          have e129 : ac.tmps[129]? = some (.bool true) := by obtain ⟨v, h1, h2⟩ := h 129 (by decide +kernel); rw [h1]; exact congrArg some h2
          clear h hsz hdf
          go_wp2_with ((go_at_call 15; refine (setLen _ _).mono ?_; rintro e w9 ⟨rfl, hb9⟩; rw [hnQ]))
          exact ⟨_, rfl, (by first | rfl | simp), hb9⟩
        · -- 41: t141 := binOp BinOp.add 3 t138 t140 3 (29, True)
          intro ac wx hE hsz hdf h
          have e138 : ac.tmps[138]? = some (.int .i64 (nP : Nat)) := by obtain ⟨v, h1, h2⟩ := h 138 (by decide +kernel); rw [h1]; exact congrArg some h2
          have e140 : ac.tmps[140]? = some (.int .i64 (nQ : Nat)) := by obtain ⟨v, h1, h2⟩ := h 140 (by decide +kernel); rw [h1]; exact congrArg some h2
          have e129 : ac.tmps[129]? = some (.bool true) := by obtain ⟨v, h1, h2⟩ := h 129 (by decide +kernel); rw [h1]; exact congrArg some h2
          clear h hsz hdf
          go_wp2
          exact ⟨_, rfl, rfl, Ext.refl _⟩
        · -- 42: t142 := binOp BinOp.eql 3 t136 t141 3 (29, True)
          intro ac wx hE hsz hdf h
          have e136 : ac.tmps[136]? = some (.int .i64 ((nB : Int) + (nO : Int))) := by obtain ⟨v, h1, h2⟩ := h 136 (by decide +kernel); rw [h1]; exact congrArg some h2
          have e141 : ac.tmps[141]? = some (.int .i64 ((nP : Int) + (nQ : Int))) := by obtain ⟨v, h1, h2⟩ := h 141 (by decide +kernel); rw [h1]; exact congrArg some h2
          have e129 : ac.tmps[129]? = some (.bool true) := by obtain ⟨v, h1, h2⟩ := h 129 (by decide +kernel); rw [h1]; exact congrArg some h2
          clear h hsz hdf
          go_wp2
          exact ⟨_, rfl, rfl, Ext.refl _⟩
        · -- 43: t143 := pick t129 t142 (const (Value.bool false)) 
          intro ac wx hE hsz hdf h
          have e129 : ac.tmps[129]? = some (.bool true) := by obtain ⟨v, h1, h2⟩ := h 129 (by decide +kernel); rw [h1]; exact congrArg some h2
          have e142 : ac.tmps[142]? = some (.bool true) := by obtain ⟨v, h1, h2⟩ := h 142 (by decide +kernel); rw [h1]; exact congrArg some h2
          clear h hsz hdf
          go_wp2
          exact ⟨_, rfl, rfl, Ext.refl _⟩
        · -- 44: t6 := assign t143 
          intro ac wx hE hsz hdf h
          have e143 : ac.tmps[143]? = some (.bool true) := by obtain ⟨v, h1, h2⟩ := h 143 (by decide +kernel); rw [h1]; exact congrArg some h2
          clear h hsz hdf
          go_wp2
          exact ⟨_, rfl, rfl, Ext.refl _⟩
        · intro ac w9 hE hsz hdf h hrest
          obtain ⟨v0, s0, g0⟩ := h 0 _ rfl
          have e0 := g0 100 rfl
          obtain rfl : v0 = sp p := s0
          obtain ⟨v1, s1, g1⟩ := h 1 _ rfl
          have e1 := g1 101 rfl
          obtain rfl : v1 = sp (fun j => !p j) := s1
          obtain ⟨v2, s2, g2⟩ := h 2 _ rfl
          have e2 := g2 102 rfl
          obtain rfl : v2 = sp p := s2
          obtain ⟨v3, s3, g3⟩ := h 3 _ rfl
          have e3 := g3 103 rfl
          obtain rfl : v3 = sp p := s3
          obtain ⟨v4, s4, g4⟩ := h 4 _ rfl
          have e4 := g4 104 rfl
          obtain rfl : v4 = .bool true := s4
          obtain ⟨v5, s5, g5⟩ := h 5 _ rfl
          have e5 := g5 105 rfl
          obtain rfl : v5 = .bool true := s5
          obtain ⟨v6, s6, g6⟩ := h 6 _ rfl
          have e6 := g6 106 rfl
          obtain rfl : v6 = sp p := s6
          obtain ⟨v7, s7, g7⟩ := h 7 _ rfl
          have e7 := g7 107 rfl
          obtain rfl : v7 = sp q := s7
          obtain ⟨v8, s8, g8⟩ := h 8 _ rfl
          have e8 := g8 108 rfl
          obtain rfl : v8 = sp (fun j => p j || q j) := s8
          obtain ⟨v9, s9, g9⟩ := h 9 _ rfl
          have e9 := g9 109 rfl
          obtain rfl : v9 = sp q := s9
          obtain ⟨v10, s10, g10⟩ := h 10 _ rfl
          have e10 := g10 110 rfl
          obtain rfl : v10 = sp p := s10
          obtain ⟨v11, s11, g11⟩ := h 11 _ rfl
          have e11 := g11 111 rfl
          obtain rfl : v11 = sp (fun j => q j || p j) := s11
          obtain ⟨v12, s12, g12⟩ := h 12 _ rfl
          have e12 := g12 112 rfl
          obtain rfl : v12 = .bool true := s12
          obtain ⟨v13, s13, g13⟩ := h 13 _ rfl
          have e13 := g13 113 rfl
          obtain rfl : v13 = .bool true := s13
          obtain ⟨v14, s14, g14⟩ := h 14 _ rfl
          have e14 := g14 114 rfl
          obtain rfl : v14 = .bool true := s14
          obtain ⟨v15, s15, g15⟩ := h 15 _ rfl
          have e15 := g15 115 rfl
          obtain rfl : v15 = sp p := s15
          obtain ⟨v16, s16, g16⟩ := h 16 _ rfl
          have e16 := g16 116 rfl
          obtain rfl : v16 = sp (bothP p q) := s16
          obtain ⟨v17, s17, g17⟩ := h 17 _ rfl
          have e17 := g17 117 rfl
          obtain rfl : v17 = sp (fun j => p j || bothP p q j) := s17
          obtain ⟨v18, s18, g18⟩ := h 18 _ rfl
          have e18 := g18 118 rfl
          obtain rfl : v18 = sp p := s18
          obtain ⟨v19, s19, g19⟩ := h 19 _ rfl
          have e19 := g19 119 rfl
          obtain rfl : v19 = .bool true := s19
          obtain ⟨v20, s20, g20⟩ := h 20 _ rfl
          have e20 := g20 120 rfl
          obtain rfl : v20 = .bool true := s20
          obtain ⟨v21, s21, g21⟩ := h 21 _ rfl
          have e21 := g21 121 rfl
          obtain rfl : v21 = .bool true := s21
          obtain ⟨v22, s22, g22⟩ := h 22 _ rfl
          have e22 := g22 122 rfl
          obtain rfl : v22 = sp p := s22
          obtain ⟨v23, s23, g23⟩ := h 23 _ rfl
          have e23 := g23 123 rfl
          obtain rfl : v23 = sp p := s23
          obtain ⟨v24, s24, g24⟩ := h 24 _ rfl
          have e24 := g24 124 rfl
          obtain rfl : v24 = sp (fun j => !p j) := s24
          obtain ⟨v25, s25, g25⟩ := h 25 _ rfl
          have e25 := g25 125 rfl
          obtain rfl : v25 = sp (fun _ => true) := s25
          obtain ⟨v26, s26, g26⟩ := h 26 _ rfl
          have e26 := g26 126 rfl
          obtain rfl : v26 = sp (fun _ => true) := s26
          obtain ⟨v27, s27, g27⟩ := h 27 _ rfl
          have e27 := g27 127 rfl
          obtain rfl : v27 = .bool true := s27
          obtain ⟨v28, s28, g28⟩ := h 28 _ rfl
          have e28 := g28 128 rfl
          obtain rfl : v28 = .bool true := s28
          obtain ⟨v29, s29, g29⟩ := h 29 _ rfl
          have e29 := g29 129 rfl
          obtain rfl : v29 = .bool true := s29
          obtain ⟨v30, s30, g30⟩ := h 30 _ rfl
          have e30 := g30 130 rfl
          obtain rfl : v30 = sp (bothP p q) := s30
          obtain ⟨v31, s31, g31⟩ := h 31 _ rfl
          have e31 := g31 131 rfl
          obtain rfl : v31 = .int .i64 (nB : Nat) := s31
          obtain ⟨v32, s32, g32⟩ := h 32 _ rfl
          have e32 := g32 132 rfl
          obtain rfl : v32 = sp p := s32
          obtain ⟨v33, s33, g33⟩ := h 33 _ rfl
          have e33 := g33 133 rfl
          obtain rfl : v33 = sp q := s33
          obtain ⟨v34, s34, g34⟩ := h 34 _ rfl
          have e34 := g34 134 rfl
          obtain rfl : v34 = sp (fun j => p j || q j) := s34
          obtain ⟨v35, s35, g35⟩ := h 35 _ rfl
          have e35 := g35 135 rfl
          obtain rfl : v35 = .int .i64 (nO : Nat) := s35
          obtain ⟨v36, s36, g36⟩ := h 36 _ rfl
          have e36 := g36 136 rfl
          obtain rfl : v36 = .int .i64 ((nB : Int) + (nO : Int)) := s36
          obtain ⟨v37, s37, g37⟩ := h 37 _ rfl
          have e37 := g37 137 rfl
          obtain rfl : v37 = sp p := s37
          obtain ⟨v38, s38, g38⟩ := h 38 _ rfl
          have e38 := g38 138 rfl
          obtain rfl : v38 = .int .i64 (nP : Nat) := s38
          obtain ⟨v39, s39, g39⟩ := h 39 _ rfl
          have e39 := g39 139 rfl
          obtain rfl : v39 = sp q := s39
          obtain ⟨v40, s40, g40⟩ := h 40 _ rfl
          have e40 := g40 140 rfl
          obtain rfl : v40 = .int .i64 (nQ : Nat) := s40
          obtain ⟨v41, s41, g41⟩ := h 41 _ rfl
          have e41 := g41 141 rfl
          obtain rfl : v41 = .int .i64 ((nP : Int) + (nQ : Int)) := s41
          obtain ⟨v42, s42, g42⟩ := h 42 _ rfl
          have e42 := g42 142 rfl
          obtain rfl : v42 = .bool true := s42
          obtain ⟨v43, s43, g43⟩ := h 43 _ rfl
          have e43 := g43 143 rfl
          obtain rfl : v43 = .bool true := s43
          obtain ⟨v44, s44, g44⟩ := h 44 _ rfl
          have e44 := g44 6 rfl
          obtain rfl : v44 = .bool true := s44
          have ha := act_of [(100, sp p), (101, sp (fun j => !p j)), (102, sp p), (103, sp p), (104, .bool true), (105, .bool true), (106, sp p), (107, sp q), (108, sp (fun j => p j || q j)), (109, sp q), (110, sp p), (111, sp (fun j => q j || p j)), (112, .bool true), (113, .bool true), (114, .bool true), (115, sp p), (116, sp (bothP p q)), (117, sp (fun j => p j || bothP p q j)), (118, sp p), (119, .bool true), (120, .bool true), (121, .bool true), (122, sp p), (123, sp p), (124, sp (fun j => !p j)), (125, sp (fun _ => true)), (126, sp (fun _ => true)), (127, .bool true), (128, .bool true), (129, .bool true), (130, sp (bothP p q)), (131, .int .i64 (nB : Nat)), (132, sp p), (133, sp q), (134, sp (fun j => p j || q j)), (135, .int .i64 (nO : Nat)), (136, .int .i64 ((nB : Int) + (nO : Int))), (137, sp p), (138, .int .i64 (nP : Nat)), (139, sp q), (140, .int .i64 (nQ : Nat)), (141, .int .i64 ((nP : Int) + (nQ : Int))), (142, .bool true), (143, .bool true), (6, .bool true)] rfl hsz hdf (by intro p hp; simp only [List.mem_cons, List.not_mem_nil, or_false] at hp; rcases hp with rfl | rfl | rfl | rfl | rfl | rfl | rfl | rfl | rfl | rfl | rfl | rfl | rfl | rfl | rfl | rfl | rfl | rfl | rfl | rfl | rfl | rfl | rfl | rfl | rfl | rfl | rfl | rfl | rfl | rfl | rfl | rfl | rfl | rfl | rfl | rfl | rfl | rfl | rfl | rfl | rfl | rfl | rfl | rfl | rfl <;> first | exact e0 | exact e1 | exact e2 | exact e3 | exact e4 | exact e5 | exact e6 | exact e7 | exact e8 | exact e9 | exact e10 | exact e11 | exact e12 | exact e13 | exact e14 | exact e15 | exact e16 | exact e17 | exact e18 | exact e19 | exact e20 | exact e21 | exact e22 | exact e23 | exact e24 | exact e25 | exact e26 | exact e27 | exact e28 | exact e29 | exact e30 | exact e31 | exact e32 | exact e33 | exact e34 | exact e35 | exact e36 | exact e37 | exact e38 | exact e39 | exact e40 | exact e41 | exact e42 | exact e43 | exact e44) hrest
          clear h hrest hsz hdf e0 e1 e2 e3 e4 e5 e6 e7 e8 e9 e10 e11 e12 e13 e14 e15 e16 e17 e18 e19 e20 e21 e22 e23 e24 e25 e26 e27 e28 e29 e30 e31 e32 e33 e34 e35 e36 e37 e38 e39 e40 e41 e42 e43 e44 g0 g1 g2 g3 g4 g5 g6 g7 g8 g9 g10 g11 g12 g13 g14 g15 g16 g17 g18 g19 g20 g21 g22 g23 g24 g25 g26 g27 g28 g29 g30 g31 g32 g33 g34 g35 g36 g37 g38 g39 g40 g41 g42 g43 g44
          subst ha
          simp only [List.foldl_cons, List.foldl_nil, Act.put, List.setIfInBounds_toArray, List.set_cons_succ, List.set_cons_zero]
        -- GAD ClBack21
          go_wp2
          go_ret
          exact ⟨by simp, hx9.trans hE⟩
end Go.Proofs.YtkknhocehladdaaDoor
