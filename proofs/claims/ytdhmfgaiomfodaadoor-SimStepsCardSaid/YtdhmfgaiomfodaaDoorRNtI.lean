/- Put together: Sm28, Sm29, Sm30. -/
import Derived.Test.YtdhmfgaiomfodaaDoorRNsF
import Derived.Test.YtdhmfgaiomfodaaDoorRNsG
import Derived.Test.YtdhmfgaiomfodaaDoorRNtG
import Derived.Test.YtdhmfgaiomfodaaDoorRNsH
import Derived.Test.YtdhmfgaiomfodaaDoorRNtH
namespace Go.Proofs.YtdhmfgaiomfodaaDoor
open Go Go.RowKit
attribute [local irreducible] wd

theorem rightI_yes {i : Ins} {N g : Nat} (h : rightI i N g = true) : 1 ≤ i.op ∧ i.op ≤ 5 ∧ 0 ≤ i.x ∧ i.x < N ∧ 0 ≤ i.y ∧ i.y < N ∧ (i.op = 4 → 2 ≤ i.n ∧ i.n ≤ 2 * (g : Int) + 1) := by
  unfold rightI at h
  rw [Bool.and_eq_true, Bool.not_eq_true'] at h
  obtain ⟨h1, h2⟩ := h
  simp only [Bool.or_eq_false_iff, decide_eq_false_iff_not] at h1
  obtain ⟨⟨⟨⟨⟨⟨a1, a2⟩, _⟩, a3⟩, a4⟩, a5⟩, a6⟩ := h1
  refine ⟨by omega, by omega, by omega, by omega, by omega, by omega, fun h4 => ?_⟩
  rw [h4] at h2
  simpa using h2
theorem rightB_yes {c : List Ins} {G : Int} (h : rightB c G = true) : ∃ g : Nat, G = (g : Int) ∧ 1 ≤ c.length ∧ c.length ≤ 400 ∧ g ≤ 9 ∧ lastB c = true ∧ ∀ i ∈ c, rightI i c.length g = true := by
  unfold rightB at h
  simp only [Bool.and_eq_true, decide_eq_true_eq, List.all_eq_true] at h
  obtain ⟨h1, h2, h3, h4, h5, h6⟩ := h
  exact ⟨G.toNat, by omega, h1, h2, by omega, h5, h6⟩
theorem rightC_of {c : List Ins} {g : Nat} (h : rightB c (g : Int) = true) : RightC c g := by
  obtain ⟨g', hg, h1, h2, h3, h5, h6⟩ := rightB_yes h
  obtain rfl : g = g' := by omega
  have hi : ∀ (pc : Nat) (i : Ins), c[pc]? = some i → rightI i c.length g = true := fun pc i e => h6 i (List.mem_of_getElem? e)
  refine ⟨h1, h2, h3, ⟨fun pc i e _ => ?_, fun pc i e _ => ?_, fun pc i e ho => ?_⟩, fun pc i e => ?_⟩
  · have := rightI_yes (hi pc i e); omega
  · have := rightI_yes (hi pc i e); omega
  · have hp := (List.getElem?_eq_some_iff.1 e).1
    by_cases hl : pc + 1 < c.length
    · exact hl
    · exfalso
      unfold lastB at h5
      rw [show c.length - 1 = pc by omega, e] at h5
      have h5' : (i.op == 5 || i.op == 2) = true := h5
      rcases ho with ho | ho <;> rw [ho] at h5' <;> cases h5'
  · have := rightI_yes (hi pc i e)
    exact ⟨this.1, this.2.1, this.2.2.1, this.2.2.2.2.1, this.2.2.2.1, this.2.2.2.2.2.1, this.2.2.2.2.2.2⟩
set_option maxHeartbeats 4000000 in
set_option maxRecDepth 20000 in
theorem smNewRight (c : List Ins) (G : Nat) (h : rightB c (G : Int) = true) (A : Option Addr) (cc : Nat) (pos : Int) (hp0 : 0 ≤ pos) (hp1 : pos ≤ 1099511627776) (w : World) (hR : Rd w 8 A c.length (codeV c)) :
    Calls Tryd.prog 31 #[.agg #[.slice A c.length cc, .int .i64 (G : Nat)], .int .i64 pos] w fun e w' => NewR c G A cc pos w e w' := by
  have hx0 := Ext.new1 w (.cells #[.slice A c.length cc, .int .i64 (G : Nat)] 32)
  have HX := Lib.hid hx0
  obtain ⟨gp, hgp⟩ : ∃ gp, w.heap.size = gp := ⟨_, rfl⟩
  have HB := Lib.hid (Blk.newA (w := w) hgp 32 [.slice A c.length cc, .int .i64 (G : Nat)])
  have HR := Lib.hid (hR.keep hx0)
  have HR0 := Lib.hid hR
  have HRB := Lib.hid h
  have HK := Lib.hid (rightC_of h)
  have HGP := Lib.hid hgp
  have b0 := HB.out.cell 0
  have b1 := HB.out.cell 1
  have q1 : ¬ pos < 0 := by omega
  have q2 : ¬ (1099511627776 : Int) < pos := by omega
  obtain ⟨M, hM⟩ : ∃ M, c.length = M := ⟨_, rfl⟩
  have HM := Lib.hid hM
  rw [hM] at HB HX b0 b1 ⊢
  clear hR h hx0 hgp hM
  go_enter Tryd.func31, Tryd.ntmps31
  go_upto_region 1 with fail
  rw [HGP.out]
  rw [HM.out] at HR
  generalize w.alloc (.cells _ 32) = wa at *
  go_upto_region 5 with (go_at_call 16; refine (nfRightAny c M HM.out (by have := HK.out.most; have := HM.out; omega) (G : Nat) A cc wa HR.out).mono ?_; rintro e w1 ⟨rfl, hx1⟩; rw [HRB.out])
  have HX1 := Lib.hid (Ext.trans HX.out hx1)
  have hb1 := HB.out.keep hx1
  have d0 : w1.cell? ⟨gp, 0, none⟩ = some (.slice A M cc) := hb1.cell 0
  have d1 : w1.cell? ⟨gp, 1, none⟩ = some (.int .i64 (G : Nat)) := hb1.cell 1
  have hml : ¬ (M : Int) < 0 := by omega
  have hmm : (M : Int) ≤ 9223372036854775807 := by have := HK.out.most; have := HM.out; omega
  have HM4 := Lib.hid (show M ≤ 400 by have := HK.out.most; have := HM.out; omega)
  clear b0 b1 hb1
  have HD := Lib.hid (And.intro d0 d1)
  clear d0 d1
  refine wp_region_dag (E := Ext) (w0 := w1) (Φ := fun i v w => match i with | 0 => (v = .agg #[.slice A M cc, .int .i64 (G : Nat)]) | 1 => (v = .int .i64 pos) | 2 => (v = .pointer (some ⟨gp, 0, none⟩)) | 3 => (v = .slice A M cc) | 4 => (v = .int .i64 (M : Nat)) | 5 => (NewSl M w1.heap.size v w) | 6 => (NewAg A M cc G pos w1.heap.size v w) | 7 => (NewBx A M cc G pos w1.heap.size v w) | 8 => (NewBx A M cc G pos w1.heap.size v w) | 9 => (v = .nilIface) | _ => True) (show Tryd.prog.follows .mixedOrders = true from Checked.mixed Tryd.checked) 27 rfl (by decide +kernel) ?_ ((Below.refl _ _).drew) ?_ ⟨?_, ?_, ?_, ?_, ?_, ?_, ?_, ?_, ?_, ?_, trivial⟩ ?_
  · intro i v w w' h hE
    match i, h with
    | 0, h => exact h
    | 1, h => exact h
    | 2, h => exact h
    | 3, h => exact h
    | 4, h => exact h
    | 5, h => exact (by obtain ⟨gs, g1, g2, g3⟩ := h; exact ⟨gs, g1, g2.keep hE, g3⟩)
    | 6, h => exact (by obtain ⟨gs, g1, g2, g3⟩ := h; exact ⟨gs, g1, g2.keep hE, g3⟩)
    | 7, h => exact (by obtain ⟨gr, gs, g1, g0, g2, g3, g4⟩ := h; exact ⟨gr, gs, g1, g0.keep hE, g2.keep hE, g3, g4⟩)
    | 8, h => exact (by obtain ⟨gr, gs, g1, g0, g2, g3, g4⟩ := h; exact ⟨gr, gs, g1, g0.keep hE, g2.keep hE, g3, g4⟩)
    | 9, h => exact h
    | _ + 10, _ => trivial
  · exact fun w w' h h' => h.trans h'
  ·
    intro ac wx hE hsz hdf h
    have e2 : ac.tmps[2]? = some (.pointer (some ⟨gp, 0, none⟩)) := by obtain ⟨v, h1, h2⟩ := h 2 (by decide +kernel); exact h1.trans h2.symm
    clear h hsz hdf
    have y0 := HD.out.1; have y1 := HD.out.2; have hc : Chg [] w1 wx := .of_ext hE; have z0 := hc.cell y0 (by simp); have z1 := hc.cell y1 (by simp)
    go_wp2
    exact ⟨_, rfl, rfl, Ext.refl _⟩
  ·
    intro ac wx hE hsz hdf h
    have e1 : ac.tmps[1]? = some (.int .i64 pos) := by obtain ⟨v, h1, h2⟩ := h 1 (by decide +kernel); exact h1.trans h2.symm
    clear h hsz hdf
    go_wp2
    exact ⟨_, rfl, rfl, Ext.refl _⟩
  ·
    intro ac wx hE hsz hdf h
    have e2 : ac.tmps[2]? = some (.pointer (some ⟨gp, 0, none⟩)) := by obtain ⟨v, h1, h2⟩ := h 2 (by decide +kernel); exact h1.trans h2.symm
    clear h hsz hdf
    go_wp2
    exact ⟨_, rfl, rfl, Ext.refl _⟩
  ·
    intro ac wx hE hsz hdf h
    have e21 : ac.tmps[21]? = some (.pointer (some ⟨gp, 0, none⟩)) := by obtain ⟨v, h1, h2⟩ := h 21 (by decide +kernel); rw [h1]; exact congrArg some h2
    clear h hsz hdf
    have y0 := HD.out.1; have hc : Chg [] w1 wx := .of_ext hE; have z0 := hc.cell y0 (by simp)
    go_wp2
    exact ⟨_, rfl, rfl, Ext.refl _⟩
  ·
    intro ac wx hE hsz hdf h
    have e22 : ac.tmps[22]? = some (.slice A M cc) := by obtain ⟨v, h1, h2⟩ := h 22 (by decide +kernel); rw [h1]; exact congrArg some h2
    clear h hsz hdf
    go_wp2
    exact ⟨_, rfl, rfl, Ext.refl _⟩
  ·
    intro ac wx hE hsz hdf h
    have e23 : ac.tmps[23]? = some (.int .i64 (M : Nat)) := by obtain ⟨v, h1, h2⟩ := h 23 (by decide +kernel); rw [h1]; exact congrArg some h2
    clear h hsz hdf
    have hsz8 := hE.size
    go_wp2_with ((refine wpList_mk1 (kl := .i64) (kc := .i64) Tryd.elemI rfl rfl (.tmp 23) (.tmp 23) rfl (L := ((M : Nat) : Int)) (C := ((M : Nat) : Int)) (n := M) (cap := M) (by simp only [Act.eval, Array.getD_eq_getD_getElem?, e23]; rfl) (by simp only [Act.eval, Array.getD_eq_getD_getElem?, e23]; rfl) rfl rfl (Nat.le_refl _) (by have := HM4.out; omega) (by have := HM4.out; unfold maxLen; omega) ?_; intro w9 hB9 hb9))
    exact ⟨_, rfl, ⟨_, rfl, hB9, hE.size⟩, hb9⟩
  ·
    intro ac wx hE hsz hdf h
    have e19 : ac.tmps[19]? = some (.agg #[.slice A M cc, .int .i64 (G : Nat)]) := by obtain ⟨v, h1, h2⟩ := h 19 (by decide +kernel); rw [h1]; exact congrArg some h2
    have e20 : ac.tmps[20]? = some (.int .i64 pos) := by obtain ⟨v, h1, h2⟩ := h 20 (by decide +kernel); rw [h1]; exact congrArg some h2
    obtain ⟨v24, e24, s24⟩ : ∃ v, ac.tmps[24]? = some v ∧ (NewSl M w1.heap.size v wx) := h 24 (by decide +kernel)
    clear h hsz hdf
    obtain ⟨gs, rfl, hs1, hs2⟩ := s24
    go_wp2
    exact ⟨_, rfl, ⟨gs, rfl, hs1, hs2⟩, Ext.refl _⟩
  ·
    intro ac wx hE hsz hdf h
    obtain ⟨v25, e25, s25⟩ : ∃ v, ac.tmps[25]? = some v ∧ (NewAg A M cc G pos w1.heap.size v wx) := h 25 (by decide +kernel)
    clear h hsz hdf
    obtain ⟨gs, rfl, hs1, hs2⟩ := s25; unfold runCells at *; have hlt9 := Blk.lt hs1
    go_wp2
    exact ⟨_, rfl, ⟨_, gs, rfl, Blk.newL wx 103 (runCells A M cc G pos gs), hs1.keep (Ext.new1 _ _), hs2, hlt9⟩, Ext.new1 _ _⟩
  ·
    intro ac wx hE hsz hdf h
    obtain ⟨v26, e26, s26⟩ : ∃ v, ac.tmps[26]? = some v ∧ (NewBx A M cc G pos w1.heap.size v wx) := h 26 (by decide +kernel)
    clear h hsz hdf
    obtain ⟨gr, gs, rfl, hs0, hs1, hs2, hs3⟩ := s26
    go_wp2
    exact ⟨_, rfl, ⟨gr, gs, rfl, hs0, hs1, hs2, hs3⟩, Ext.refl _⟩
  ·
    intro ac wx hE hsz hdf h
    clear h hsz hdf
    go_wp2
    exact ⟨_, rfl, rfl, Ext.refl _⟩
  · intro ac w9 hE hsz hdf h hrest
    obtain ⟨v0, s0, g0⟩ := h 0 _ rfl
    have e0 := g0 19 rfl
    obtain rfl : v0 = .agg #[.slice A M cc, .int .i64 (G : Nat)] := s0
    obtain ⟨v1, s1, g1⟩ := h 1 _ rfl
    have e1 := g1 20 rfl
    obtain rfl : v1 = .int .i64 pos := s1
    obtain ⟨v2, s2, g2⟩ := h 2 _ rfl
    have e2 := g2 21 rfl
    obtain rfl : v2 = .pointer (some ⟨gp, 0, none⟩) := s2
    obtain ⟨v3, s3, g3⟩ := h 3 _ rfl
    have e3 := g3 22 rfl
    obtain rfl : v3 = .slice A M cc := s3
    obtain ⟨v4, s4, g4⟩ := h 4 _ rfl
    have e4 := g4 23 rfl
    obtain rfl : v4 = .int .i64 (M : Nat) := s4
    obtain ⟨v5, s5, g5⟩ := h 5 _ rfl
    have e5 := g5 24 rfl
    replace s5 : NewSl M w1.heap.size v5 w9 := s5
    obtain ⟨v6, s6, g6⟩ := h 6 _ rfl
    have e6 := g6 25 rfl
    replace s6 : NewAg A M cc G pos w1.heap.size v6 w9 := s6
    obtain ⟨v7, s7, g7⟩ := h 7 _ rfl
    have e7 := g7 26 rfl
    replace s7 : NewBx A M cc G pos w1.heap.size v7 w9 := s7
    obtain ⟨v8, s8, g8⟩ := h 8 _ rfl
    have e8 := g8 4 rfl
    replace s8 : NewBx A M cc G pos w1.heap.size v8 w9 := s8
    obtain ⟨v9, s9, g9⟩ := h 9 _ rfl
    have e9 := g9 5 rfl
    obtain rfl : v9 = .nilIface := s9
    have ha := act_of [(19, .agg #[.slice A M cc, .int .i64 (G : Nat)]), (20, .int .i64 pos), (21, .pointer (some ⟨gp, 0, none⟩)), (22, .slice A M cc), (23, .int .i64 (M : Nat)), (24, v5), (25, v6), (26, v7), (4, v8), (5, .nilIface)] rfl hsz hdf (by intro p hp; simp only [List.mem_cons, List.not_mem_nil, or_false] at hp; rcases hp with rfl | rfl | rfl | rfl | rfl | rfl | rfl | rfl | rfl | rfl <;> first | exact e0 | exact e1 | exact e2 | exact e3 | exact e4 | exact e5 | exact e6 | exact e7 | exact e8 | exact e9) hrest
    clear h hrest hsz hdf e0 e1 e2 e3 e4 e5 e6 e7 e8 e9 g0 g1 g2 g3 g4 g5 g6 g7 g8 g9
    subst ha
    simp only [List.foldl_cons, List.foldl_nil, Act.put, List.setIfInBounds_toArray, List.set_cons_succ, List.set_cons_zero]
    obtain ⟨gr, gs, rfl, hs0, hs1, hs2, hs3⟩ := s8
    have hX := Ext.trans HX1.out hE
    have HF := Lib.hid (show RunM ⟨A, cc, c, G, gr, gs⟩ w9 pos (.slice none 0 0) [] [] (List.replicate c.length 0) 1 ∧ Ext w w9 ∧ w.heap.size ≤ gs from by
      refine ⟨⟨by rw [HM.out]; exact hs0, HR0.out.keep hX, fun b o x e => ?_, hs3, ?_, by simp, World.ownsRow_nil _ _ _ _, rfl⟩, hX, Nat.le_trans HX1.out.size hs2⟩
      · obtain ⟨b', o', e', hlt, _⟩ := HR0.out.2 (by rw [codeV_len]; have := HK.out.pos; omega)
        dsimp only at e ⊢
        rw [e'] at e
        cases e
        have := HX1.out.size
        omega
      · rw [HM.out]
        unfold intsV
        rw [List.map_replicate]
        exact hs1)
    clear hs0 hs1 hs2 hs3 hX s5 s6 s7
    go_wp2
    go_ret2
    exact ⟨gr, gs, rfl, HF.out⟩

set_option maxRecDepth 20000 in
theorem smNewWrong (c : List Ins) (N : Nat) (hN : c.length = N) (hl : N ≤ 100000) (G : Int) (h : rightB c G = false) (A : Option Addr) (cc : Nat) (pos : Int) (E : Nat → Addr) (w : World) (hR : Rd w 8 A N (codeV c)) (hE : Errs w E) :
    Calls Tryd.prog 31 #[.agg #[.slice A N cc, .int .i64 G], .int .i64 pos] w fun e w' => e = .returned (.tuple #[.pointer none, errV E 4]) ∧ Ext w w' := by
  have hx0 := Ext.new1 w (.cells #[.slice A N cc, .int .i64 G] 32)
  have HX := Lib.hid hx0
  have HE := Lib.hid (hE.keep hx0)
  obtain ⟨gp, hgp⟩ : ∃ gp, w.heap.size = gp := ⟨_, rfl⟩
  have HB := Lib.hid (Blk.newA (w := w) hgp 32 [.slice A N cc, .int .i64 G])
  have HR := Lib.hid (hR.keep hx0)
  have HGP := Lib.hid hgp
  have HN := Lib.hid hN
  have HV := Lib.hid h
  have HL := Lib.hid hl
  have b0 := HB.out.cell 0
  have b1 := HB.out.cell 1
  clear hR hE hx0 hgp hN h hl
  go_enter Tryd.func31, Tryd.ntmps31
  go_upto_region 1 with fail
  rw [HGP.out]
  generalize w.alloc (.cells _ 32) = wa at *
  go_upto_region 2 with (go_at_call 16; refine (nfRightAny c N HN.out HL.out G A cc wa HR.out).mono ?_; rintro e w1 ⟨rfl, hx1⟩; rw [HV.out])
  have y4 := (HE.out.keep hx1).cell (i := 4) rfl
  unfold errV at y4
  go_quiet (fail)
  go_wp2
  go_ret2
  exact ⟨rfl, Ext.trans HX.out (Ext.trans hx1 (Ext.drawn _ _))⟩

set_option maxRecDepth 20000 in
theorem smNewRange (c : List Ins) (N : Nat) (hN : c.length = N) (hl : N ≤ 100000) (G : Int) (h : rightB c G = true) (A : Option Addr) (cc : Nat) (pos : Int) (hp : pos < 0 ∨ 1099511627776 < pos) (E : Nat → Addr) (w : World) (hR : Rd w 8 A N (codeV c)) (hE : Errs w E) :
    Calls Tryd.prog 31 #[.agg #[.slice A N cc, .int .i64 G], .int .i64 pos] w fun e w' => e = .returned (.tuple #[.pointer none, errV E 0]) ∧ Ext w w' := by
  have hx0 := Ext.new1 w (.cells #[.slice A N cc, .int .i64 G] 32)
  have HX := Lib.hid hx0
  have HE := Lib.hid (hE.keep hx0)
  obtain ⟨gp, hgp⟩ : ∃ gp, w.heap.size = gp := ⟨_, rfl⟩
  have HB := Lib.hid (Blk.newA (w := w) hgp 32 [.slice A N cc, .int .i64 G])
  have HR := Lib.hid (hR.keep hx0)
  have HGP := Lib.hid hgp
  have HN := Lib.hid hN
  have HV := Lib.hid h
  have HL := Lib.hid hl
  have b0 := HB.out.cell 0
  have b1 := HB.out.cell 1
  clear hR hE hx0 hgp hN h hl
  rcases hp with hp | hp
  · go_enter Tryd.func31, Tryd.ntmps31
    go_upto_region 1 with fail
    rw [HGP.out]
    generalize w.alloc (.cells _ 32) = wa at *
    go_upto_region 4 with (go_at_call 16; refine (nfRightAny c N HN.out HL.out G A cc wa HR.out).mono ?_; rintro e w1 ⟨rfl, hx1⟩; rw [HV.out])
    have y0 := (HE.out.keep hx1).cell (i := 0) rfl
    unfold errV at y0
    go_quiet (fail)
    go_wp2
    go_ret2
    exact ⟨rfl, Ext.trans HX.out (Ext.trans hx1 (Ext.drawn _ _))⟩
  · have hp2 : ¬ pos < 0 := by omega
    go_enter Tryd.func31, Tryd.ntmps31
    go_upto_region 1 with fail
    rw [HGP.out]
    generalize w.alloc (.cells _ 32) = wa at *
    go_upto_region 4 with (go_at_call 16; refine (nfRightAny c N HN.out HL.out G A cc wa HR.out).mono ?_; rintro e w1 ⟨rfl, hx1⟩; rw [HV.out])
    have y0 := (HE.out.keep hx1).cell (i := 0) rfl
    unfold errV at y0
    go_quiet (fail)
    go_wp2
    go_ret2
    exact ⟨rfl, Ext.trans HX.out (Ext.trans hx1 (Ext.drawn _ _))⟩
end Go.Proofs.YtdhmfgaiomfodaaDoor
namespace Go.Proofs.YtdhmfgaiomfodaaDoor
open Go Go.RowKit
attribute [local irreducible] wd

set_option maxRecDepth 20000 in
theorem smAt (R : RS) (pos turn : Int) (v : Value) (cs : List Value) (W : List Way) (sv : List Int) (w : World) (hM : RunM R w pos v cs W sv turn) :
    Calls Tryd.prog 34 #[.pointer (some ⟨R.gr, 0, none⟩)] w fun e w' => e = .returned (.int .i64 pos) ∧ w' = w := by
  have b2 : w.cell? ⟨R.gr, 2, none⟩ = some (.int .i64 pos) := hM.blk.cell 2
  clear hM
  generalize R.gr = gr at *
  go_enter Tryd.func34, Tryd.ntmps34
  go_wp2
  go_ret
  exact ⟨rfl, rfl⟩
set_option maxRecDepth 20000 in
theorem smLen (R : RS) (pos turn : Int) (v : Value) (cs : List Value) (W : List Way) (sv : List Int) (w : World) (hM : RunM R w pos v cs W sv turn) (n1 : Nat) (hn1 : W.length = n1) :
    Calls Tryd.prog 35 #[.pointer (some ⟨R.gr, 0, none⟩)] w fun e w' => e = .returned (.int .i64 (n1 : Nat)) ∧ w' = w := by
  rw [← hn1]
  clear hn1
  obtain ⟨A', c', rfl, _, _, _⟩ := hM.sh
  have b3 : w.cell? ⟨R.gr, 3, none⟩ = some (.slice A' W.length c') := hM.blk.cell 3
  clear hM
  generalize R.gr = gr at *
  generalize W.length = n at *
  go_enter Tryd.func35, Tryd.ntmps35
  go_wp2
  go_ret
  exact ⟨rfl, rfl⟩
theorem numS (E : Nat → Addr) (k : Nat) (x : Int) (hk : k < 16) (hx : (k : Int) + 1 = x) (w : World) (h : Errs w E) :
    Calls Tryd.prog 14 #[errV E k] w fun e w' => e = .returned (.int .i64 x) ∧ Ext w w' := by
  subst hx
  exact numErr E k w h hk

theorem rd_take1 {w : World} {A : Option Addr} {n m : Nat} {cs : List Value} (h : Rd w 1 A n cs) (hm : m ≤ n) : Rd w 1 A m (cs.take m) :=
  ⟨by have := h.1; rw [List.length_take]; omega, fun hp => by
    obtain ⟨b, o, rfl, hb, hc⟩ := h.2 (by rw [List.length_take] at hp; omega)
    refine ⟨b, o, rfl, hb, fun j u hu => hc j u ?_⟩
    rw [List.getElem?_take] at hu
    split at hu
    · exact hu
    · cases hu⟩
def isH : Option (Int × List Int) → Bool
  | none => false
  | some _ => true
def fromH : Option (Int × List Int) → Int
  | none => 0
  | some x => x.1
def capsH : Option (Int × List Int) → List Int
  | none => []
  | some x => x.2
theorem hitU {c : List Ins} {pos : Int} {W : List Way} {w w' : World} {e : Ending} {o : Option (Int × List Int)} (h : HitAns c pos W w e w') (ho : W.findSome? (F3 c [] pos) = o) :
    ∃ AH cH, e = .returned (.tuple #[.agg #[.int .i64 (fromH o), .slice AH (capsH o).length cH], .bool (isH o)]) ∧ w'.ownsRow w.heap.size 3 1 (.slice AH (capsH o).length cH) (capsH o).length (intsV (capsH o)) ∧ Ext w w' := by
  unfold HitAns at h
  rw [ho] at h
  cases o with
  | none => exact ⟨none, 0, h.1, World.ownsRow_nil _ _ _ _, h.2⟩
  | some x => exact h
theorem firstU {c : List Ins} {G : Nat} {base : Int} {bg : Nat → Bool} {l : List UInt8} {w w' : World} {e : Ending} {o : Option (Int × List Int)} (h : FirstR c G base bg l w e w') (hn : hitAt c (noneK G) base bg l l.length = o) :
    ∃ A cc, e = .returned (.tuple #[.int .i64 (fromH o), .slice A (capsH o).length cc, .bool (isH o)]) ∧ Rd w' 1 A (capsH o).length (intsV (capsH o)) ∧ Ext w w' := by
  unfold FirstR at h
  rw [hn] at h
  cases o with
  | none => exact ⟨none, 0, h.1, Rd.nil, h.2⟩
  | some x => exact h
theorem hit_len {c : List Ins} {G : Nat} (hR : RightC c G) {base : Int} {bg : Nat → Bool} {l : List UInt8} {j : Nat} (hj : j ≤ l.length) : (capsH (hitAt c (noneK G) base bg l j)).length ≤ 18 := by
  cases h : hitAt c (noneK G) base bg l j with
  | none => simp [capsH]
  | some x =>
    obtain ⟨f, q⟩ := x
    have h9 := (hit_caps hR.closed hR.pos hj h).1
    have := hR.few
    unfold noneK at h9
    rw [List.length_replicate] at h9
    show q.length ≤ 18
    omega
theorem hit_takeB {c : List Ins} {k : List Int} {base : Int} {bg : Nat → Bool} {l : List UInt8} {i : Nat} (h : i ≤ l.length) : hitAt c k base bg (l.take i) (l.take i).length = hitAt c k base bg l i := by
  rw [List.length_take, Nat.min_eq_left h]
  unfold hitAt
  rw [List.take_take, Nat.min_self]

def StepsJ (R : RS) (l : List UInt8) (bg : Nat → Bool) (w2 : World) (j : Nat) (wr : World) : Prop :=
  ∃ v cs W sv s, RunM R wr (100 + (j : Nat)) v cs W sv ((j + 1 : Nat) : Int) ∧ seenB sv ((j + 1 : Nat) : Int) = s ∧ (∀ x ∈ sv, x ≤ ((j + 1 : Nat) : Int)) ∧ Stand R.c (noneK R.G) 100 l bg j s W ∧ WaysOK R.c R.G W ∧ W.length + un R.c s ≤ R.c.length ∧ (∀ k, v.ownBlock = some k → w2.heap.size ≤ k)
structure StepB (R : RS) (l : List UInt8) (bg : Nat → Bool) (w2 : World) (j : Nat) (wB : World) (vB : Value) (csB : List Value) (W1 : List Way) (svB : List Int) : Prop where
  run : RunM R wB (100 + (j : Nat)) vB csB W1 svB ((j + 1 : Nat) : Int)
  le : ∀ x ∈ svB, x ≤ ((j + 1 : Nat) : Int)
  hit : W1.findSome? (F3 R.c [] (100 + (j : Nat))) = hitAt R.c (noneK R.G) 100 bg l j
  ok : WaysOK R.c R.G W1
  cnt : W1.length ≤ R.c.length
  low : ∀ k, vB.ownBlock = some k → w2.heap.size ≤ k
  next : ∀ (b : UInt8) (s2 : Nat → Bool) (W2 : List Way), l[j]? = some b → Seq R.c (100 + (j : Nat) + 1) none0 (moves R.c b W1) s2 W2 → Stand R.c (noneK R.G) 100 l bg (j + 1) s2 W2
theorem stepB_no {R : RS} (hR : RightC R.c R.G) {l : List UInt8} {bg : Nat → Bool} {w2 : World} {j : Nat} {wr : World} {v : Value} {cs : List Value} {W : List Way} {sv : List Int} {s : Nat → Bool} (hb : bg j = false)
    (hM : RunM R wr (100 + (j : Nat)) v cs W sv ((j + 1 : Nat) : Int)) (hle : ∀ x ∈ sv, x ≤ ((j + 1 : Nat) : Int)) (hS : Stand R.c (noneK R.G) 100 l bg j s W) (hO : WaysOK R.c R.G W) (hc : W.length + un R.c s ≤ R.c.length) (hlo : ∀ k, v.ownBlock = some k → w2.heap.size ≤ k) :
    StepB R l bg w2 j wr v cs W sv := by
  have hseq : Seq R.c (100 + (j : Nat)) s (begs (bg j) (100 + (j : Nat)) (noneK R.G)) s [] := by rw [hb]; exact .nil
  refine ⟨hM, hle, ?_, hO, by omega, hlo, fun b s2 W2 hl h2 => ?_⟩
  · have := stand_hit hR.closed hR.pos hS hseq
    rwa [List.append_nil] at this
  · refine .next hS hseq hl ?_
    rw [List.append_nil, show (100 : Int) + ((j + 1 : Nat) : Int) = 100 + (j : Nat) + 1 by omega]
    exact h2
theorem stepB_yes {R : RS} (hR : RightC R.c R.G) {l : List UInt8} {bg : Nat → Bool} {w2 : World} {j : Nat} {wr wB : World} {v : Value} {W : List Way} {s s' : Nat → Bool} {L : List Th} (hb : bg j = true)
    (hx : w2.heap.size ≤ wr.heap.size) (hS : Stand R.c (noneK R.G) 100 l bg j s W) (hO : WaysOK R.c R.G W) (hc : W.length + un R.c s ≤ R.c.length) (hlo : ∀ k, v.ownBlock = some k → w2.heap.size ≤ k)
    (hF : Fol R.c (100 + (j : Nat)) s 0 (noneK R.G) s' L) {vB : Value} {csB : List Value} {svB : List Int}
    (hM : RunM R wB (100 + (j : Nat)) vB csB (W ++ L.map fun e => (e.1, (100 : Int) + (j : Nat), e.2)) svB ((j + 1 : Nat) : Int)) (hle : ∀ x ∈ svB, x ≤ ((j + 1 : Nat) : Int)) (hN : RN R wr v wB vB) :
    StepB R l bg w2 j wB vB csB (W ++ L.map fun e => (e.1, (100 : Int) + (j : Nat), e.2)) svB := by
  have hseq : Seq R.c (100 + (j : Nat)) s (begs (bg j) (100 + (j : Nat)) (noneK R.G)) s' ((L.map fun e => (e.1, (100 : Int) + (j : Nat), e.2)) ++ []) := by
    rw [hb]
    exact .cons (w := (0, 100 + (j : Nat), noneK R.G)) hF .nil
  rw [List.append_nil] at hseq
  have hcnt := fol_count hF
  refine ⟨hM, hle, stand_hit hR.closed hR.pos hS hseq, WaysOK.app hO hF (by simp [noneK]) _, by rw [List.length_append, List.length_map]; omega, fun k hk => ?_, fun b s2 W2 hl h2 => ?_⟩
  · rcases hN.at_ k hk with h | h
    · exact hlo k h
    · omega
  · refine .next hS hseq hl ?_
    rw [show (100 : Int) + ((j + 1 : Nat) : Int) = 100 + (j : Nat) + 1 by omega]
    exact h2
theorem RN.since {R : RS} {w2 w w' : World} {v v' : Value} (h : Chg [R.gr, R.gs] w2 w) (hlo : ∀ k, v.ownBlock = some k → w2.heap.size ≤ k) (hN : RN R w v w' v') : Chg [R.gr, R.gs] w2 w' := by
  refine h.more hN.ch fun y hy => ?_
  rcases List.mem_cons.1 hy with rfl | hy
  · exact .inl (by simp)
  · rcases List.mem_cons.1 hy with rfl | hy
    · exact .inl (by simp)
    · exact .inr (hlo y (by simpa using hy))
end Go.Proofs.YtdhmfgaiomfodaaDoor
namespace Go.Proofs.YtdhmfgaiomfodaaDoor
open Go Go.RowKit
attribute [local irreducible] wd

def TupS (f : Int) (q : List Int) (b : Bool) (v : Value) (w : World) : Prop := ∃ A cc, v = .tuple #[.int .i64 f, .slice A q.length cc, .bool b] ∧ Rd w 1 A q.length (intsV q)
def SlS (q : List Int) (v : Value) (w : World) : Prop := ∃ A cc, v = .slice A q.length cc ∧ Rd w 1 A q.length (intsV q)

set_option maxHeartbeats 16000000 in
set_option maxRecDepth 20000 in
theorem lawSteps (E : Nat → Addr) (c : List Ins) (G : Int) (A : Option Addr) (cap : Nat) (l : List UInt8) (B : Option Addr) (bl : List Bool) (nb cb : Nat) (hnb : bl.length = nb) (hnc : nb ≤ cb) (hcb : cb ≤ maxLen) (w : World)
    (hR : Rd w 8 A c.length (codeV c)) (hBR : Rd w 1 B nb (bl.map Value.bool)) (hE : Env E w) (hES : Errs w E) :
    Calls Tryd.prog 8 #[.agg #[.slice A c.length cap, .int .i64 G], .string ⟨l.toArray⟩, .slice B nb cb] w fun e w' => e = .returned (.bool true) ∧ Ext w w' := by
  have hx0 := Ext.new1 w (.cells #[.slice A c.length cap, .int .i64 G] 32)
  have HX := Lib.hid hx0
  obtain ⟨gp, hgp⟩ : ∃ gp, w.heap.size = gp := ⟨_, rfl⟩
  have HB := Lib.hid (Blk.newA (w := w) hgp 32 [.slice A c.length cap, .int .i64 G])
  have HR := Lib.hid (hR.keep hx0)
  have HR0 := Lib.hid hR
  have HBR := Lib.hid (hBR.keep hx0)
  have HBR0 := Lib.hid hBR
  have HE := Lib.hid (hE.keep hx0)
  have HES := Lib.hid (hES.keep hx0)
  have HGP := Lib.hid hgp
  have HNB := Lib.hid (show bl.length = nb ∧ nb ≤ cb ∧ cb ≤ maxLen from ⟨hnb, hnc, hcb⟩)
  clear hR hBR hE hES hx0 hgp hnb hnc hcb
  by_cases l1 : (60 : Int) < (c.length : Int)
  · go_enter Tryd.func8, Tryd.ntmps8
    go_upto_region 1 with fail
    rw [HGP.out]
    generalize w.alloc (.cells _ 32) = wa at *
    go_wp2_with (go_at_call 24; refine (alive26 E _ HE.out).mono ?_; rintro e w1 ⟨rfl, hx1⟩; have q0 := (HB.out.keep hx1).cell 0; have q1 := (HB.out.keep hx1).cell 1)
    go_ret
    exact ⟨rfl, Ext.trans HX.out hx1⟩
  by_cases l2 : (24 : Int) < (l.length : Int)
  · go_enter Tryd.func8, Tryd.ntmps8
    go_upto_region 1 with fail
    rw [HGP.out]
    generalize w.alloc (.cells _ 32) = wa at *
    go_wp2_with (go_at_call 24; refine (alive26 E _ HE.out).mono ?_; rintro e w1 ⟨rfl, hx1⟩; have q0 := (HB.out.keep hx1).cell 0; have q1 := (HB.out.keep hx1).cell 1)
    go_ret
    exact ⟨rfl, Ext.trans HX.out hx1⟩
  have hwl : IntKind.i64.wrap ((l.length : Int) + 1) = (l.length : Int) + 1 := wrap_id (by omega) (by omega)
  by_cases l3 : (nb : Int) < (l.length : Int) + 1
  · go_enter Tryd.func8, Tryd.ntmps8
    go_upto_region 1 with fail
    rw [HGP.out]
    generalize w.alloc (.cells _ 32) = wa at *
    go_wp2_with (go_at_call 24; refine (alive26 E _ HE.out).mono ?_; rintro e w1 ⟨rfl, hx1⟩; have q0 := (HB.out.keep hx1).cell 0; have q1 := (HB.out.keep hx1).cell 1)
    go_ret
    exact ⟨rfl, Ext.trans HX.out hx1⟩
  have HLN := Lib.hid (show c.length ≤ 60 ∧ l.length ≤ 24 ∧ l.length + 1 ≤ nb by omega)
  cases hrb : rightB c G
  · have HRB := Lib.hid hrb
    clear hrb
    go_enter Tryd.func8, Tryd.ntmps8
    go_upto_region 1 with fail
    rw [HGP.out]
    generalize w.alloc (.cells _ 32) = wa at *
    go_wp2_with (first
      | (have := hx4; go_at_call 14; refine (numS E 4 5 (by omega) (by omega) _ (HES.out.keep (Ext.trans hx1 (Ext.trans hx2 (Ext.trans hx3 hx4))))).mono ?_; rintro e w5 ⟨rfl, hx5⟩)
      | (have := hx3; go_at_call 21; refine (refRight25 c c.length rfl (by have := HLN.out; omega) G BD cD w3 hrdD).mono ?_; rintro e w4 ⟨rfl, hx4⟩; rw [HRB.out])
      | (have := hx2; go_at_call 19; refine (law25Of c A cap c.length rfl (by have := HLN.out; omega) w2 (HR.out.keep (Ext.trans hx1 hx2))).mono ?_; rintro e w3 ⟨BD, cD, rfl, hrdD, hx3⟩; have k0 := (HB.out.keep (Ext.trans hx1 (Ext.trans hx2 hx3))).cell 0; have k1 := (HB.out.keep (Ext.trans hx1 (Ext.trans hx2 hx3))).cell 1)
      | (have := hx1; go_at_call 31; refine (smNewWrong c c.length rfl (by have := HLN.out; omega) G HRB.out A cap 100 E w1 (HR.out.keep hx1) (HES.out.keep hx1)).mono ?_; rintro e w2 ⟨rfl, hx2⟩; have j0 := (HB.out.keep (Ext.trans hx1 hx2)).cell 0; have j1 := (HB.out.keep (Ext.trans hx1 hx2)).cell 1)
      | (go_at_call 24; refine (alive26 E _ HE.out).mono ?_; rintro e w1 ⟨rfl, hx1⟩; have q0 := (HB.out.keep hx1).cell 0; have q1 := (HB.out.keep hx1).cell 1))
    go_ret
    exact ⟨rfl, Ext.trans HX.out (Ext.trans hx1 (Ext.trans hx2 (Ext.trans hx3 (Ext.trans hx4 hx5))))⟩
  obtain ⟨g, rfl, _, _, _, _⟩ := rightB_yes hrb
  have HRB := Lib.hid hrb
  have HK := Lib.hid (rightC_of hrb)
  clear hrb
  go_enter Tryd.func8, Tryd.ntmps8
  go_upto_region 1 with fail
  rw [HGP.out]
  generalize w.alloc (.cells _ 32) = wa at *
  go_upto_region 12 with (first
    | (have := hx3; go_at_call 21; refine (refRight25 c c.length rfl (by have := HLN.out; omega) (g : Nat) BD cD w3 hrdD).mono ?_; rintro e w4 ⟨rfl, hx4⟩; rw [HRB.out])
    | (have := hx2; go_at_call 19; refine (law25OfAt c A cap c.length rfl (by have := HLN.out; omega) w2 (HR.out.keep (Ext.trans hx1 hx2))).mono ?_; rintro e w3 ⟨BD, cD, rfl, hrdD, hx3, hlowD⟩; have k0 := (HB.out.keep (Ext.trans hx1 (Ext.trans hx2 hx3))).cell 0; have k1 := (HB.out.keep (Ext.trans hx1 (Ext.trans hx2 hx3))).cell 1)
    | (have := hx1; go_at_call 31; refine (smNewRight c g HRB.out A cap 100 (by omega) (by omega) w1 (HR.out.keep hx1)).mono ?_; rintro e w2 ⟨gr, gs, rfl, hrun, hx2, hgs⟩; have j0 := (HB.out.keep (Ext.trans hx1 hx2)).cell 0; have j1 := (HB.out.keep (Ext.trans hx1 hx2)).cell 1)
    | (go_at_call 24; refine (alive26 E _ HE.out).mono ?_; rintro e w1 ⟨rfl, hx1⟩; have q0 := (HB.out.keep hx1).cell 0; have q1 := (HB.out.keep hx1).cell 1))
  have hx23 := Ext.trans hx2 (Ext.trans hx3 hx4)
  have HRUN := Lib.hid (hrun.keep (Ext.trans hx3 hx4))
  have HXA := Lib.hid (Ext.trans hx1 hx23)
  have HORD := Lib.hid (show gp < gs ∧ gs < gr ∧ gr < w2.heap.size ∧ w.heap.size ≤ gs ∧ wa.heap.size ≤ gs from by
    have h1 := HB.out.lt
    have h2 := hrun.ord
    have h3 := hrun.blk.lt
    have h4 := hx1.size
    have h5 := HGP.out
    dsimp only at h2 h3
    exact ⟨by omega, h2, h3, by omega, by omega⟩)
  have HDD := Lib.hid (hrdD.keep hx4)
  have HLD := Lib.hid hlowD
  have HBRR := Lib.hid (HBR.out.keep (Ext.trans hx1 hx23))
  clear hrun hlowD hrdD hx1 hx2 hx3 hx4 hx23 hgs q0 q1 j0 j1 k0 k1 this
  obtain ⟨bB, oB, rfl, hbB, _⟩ := HBR0.out.2 (by rw [List.length_map]; have := HNB.out.1; have := HLN.out; omega)
  have HBB := Lib.hid hbB
  have HPK := Lib.hid (show ∀ wX, Chg [gr, gs] w4 wX → Blk wX gp 32 [.slice A c.length cap, .int .i64 (g : Nat)] ∧ Rd wX 260 BD c.length (codeD c) ∧ Rd wX 1 (some ⟨bB, oB, none⟩) nb (bl.map Value.bool) ∧ Ext wa wX from by
    intro wX hC
    have ho := HORD.out
    refine ⟨(HB.out.keep HXA.out).chg hC (by simp; omega), HDD.out.chg hC (fun _ b o x e => ?_), HBRR.out.chg hC (fun _ b o x e => ?_), ?_⟩
    · have := HLD.out b o x e; simp; omega
    · cases e; have := HBB.out; simp; omega
    · exact Chg.below hC HXA.out HXA.out.size (fun x hx => by simp at hx; omega))
  obtain ⟨bg, hbg⟩ : ∃ bg : Nat → Bool, bg = fun j => bl.getD j false := ⟨_, rfl⟩
  have HBG := Lib.hid (show ∀ j, j ≤ l.length → (bl.map Value.bool)[j]? = some (.bool (bg j)) from fun j hj => by
    have h1 := HNB.out.1
    have h2 := HLN.out
    subst hbg
    rw [List.getElem?_map, List.getElem?_eq_getElem (by omega)]
    simp [List.getD_eq_getElem?_getD, List.getElem?_eq_getElem (show j < bl.length by omega)])
  clear hbg hbB
  have hst : StepsJ ⟨A, cap, c, g, gr, gs⟩ l bg w4 0 w4 := by
    refine ⟨.slice none 0 0, [], [], List.replicate c.length 0, none0, ?_, seenB_new (fun x hx => ?_), fun x hx => ?_, .zero, (fun a ha => by cases ha), (by have := un_le c none0; simpa using this), fun k hk => (by cases hk)⟩
    · rw [show (100 : Int) + ((0 : Nat) : Int) = 100 by omega]; exact HRUN.out
    · have := (List.mem_replicate.1 hx).2; subst this; omega
    · have := (List.mem_replicate.1 hx).2; subst this; omega
  have HST := Lib.hid hst
  clear hst HRUN
  go_wp2
  go_loopg [11] (l.length + 1) (fun gg iv wr => ∃ j : Nat, j ≤ l.length + 1 ∧ gg = l.length + 1 - j ∧ iv = .int .i64 (j : Nat) ∧ Chg [gr, gs] w4 wr ∧ (j ≤ l.length → StepsJ ⟨A, cap, c, g, gr, gs⟩ l bg w4 j wr))
  case atStart => exact ⟨0, by omega, rfl, rfl, Chg.refl _ _, fun _ => HST.out⟩
  case round =>
    obtain ⟨j, hj, rfl, rfl, hC, hJ⟩ := hrel
    clear HST
    by_cases hle : j ≤ l.length
    rotate_left
    · have hle' : ¬ (j : Int) ≤ (l.length : Int) := by omega
      obtain ⟨hP, _, _, hxr⟩ := HPK.out wr hC
      have p0 := hP.cell 0
      have p1 := hP.cell 1
      have HPX := Lib.hid hP
      have HXR := Lib.hid hxr
      clear hJ hC hj hle hP hxr
      go_wp2_with (first
        | (have := hx7; go_at_call 14; refine (numS E 0 1 (by omega) (by omega) _ (HES.out.keep (Ext.trans HXR.out (Ext.trans hx5 (Ext.trans hx6 hx7))))).mono ?_; rintro e w8 ⟨rfl, hx8⟩)
        | (have := hx6; go_at_call 14; refine (numS E 0 1 (by omega) (by omega) _ (HES.out.keep (Ext.trans HXR.out (Ext.trans hx5 hx6)))).mono ?_; rintro e w7 ⟨rfl, hx7⟩)
        | (have := hx5; go_at_call 31; refine (smNewRange c c.length rfl (by have := HLN.out; omega) (g : Nat) HRB.out A cap 1099511627777 (.inr (by omega)) E w5 (HR.out.keep (Ext.trans HXR.out hx5)) (HES.out.keep (Ext.trans HXR.out hx5))).mono ?_; rintro e w6 ⟨rfl, hx6⟩)
        | (go_at_call 31; refine (smNewRange c c.length rfl (by have := HLN.out; omega) (g : Nat) HRB.out A cap (-1) (.inl (by omega)) E wr (HR.out.keep HXR.out) (HES.out.keep HXR.out)).mono ?_; rintro e w5 ⟨rfl, hx5⟩; have r0 := (HPX.out.keep hx5).cell 0; have r1 := (HPX.out.keep hx5).cell 1))
      go_ret
      exact ⟨rfl, Ext.trans HX.out (Ext.trans HXR.out (Ext.trans hx5 (Ext.trans hx6 (Ext.trans hx7 hx8))))⟩
    obtain ⟨v, cs, W, sv, s, hRj, hSj, hLj, hQj, hOj, hUj, hlo⟩ := hJ hle
    have hle' : (j : Int) ≤ (l.length : Int) := by omega
    obtain ⟨_, _, hBj, _⟩ := HPK.out wr hC
    have hbc : wr.cell? ⟨bB, oB + j, none⟩ = some (.bool (bg j)) := by
      obtain ⟨b', o', e', _, hcell⟩ := hBj.2 (by rw [List.length_map]; have := HNB.out.1; have := HLN.out; omega)
      cases e'
      exact hcell j _ (HBG.out j hle)
    have hjn : (j : Int) < (nb : Int) := by have := HLN.out; omega
    have HJL := Lib.hid hle
    have HCJ := Lib.hid hC
    have HT := Lib.hid (show (0 : Int) ≤ ((j + 1 : Nat) : Int) ∧ ((j + 1 : Nat) : Int) ≤ 100000 from by have := HLN.out; exact ⟨by omega, by omega⟩)
    cases hb : bg j
    focus
      have HSB := Lib.hid (stepB_no HK.out (w2 := w4) hb hRj hLj hQj hOj hUj hlo)
      rw [hb] at hbc
      clear hJ hC hj hle hRj hSj hLj hQj hOj hUj hlo hBj hb
      go_upto_region 17 with fail
      clear hbc
      have HCB := HCJ
      clear HCJ
      generalize wr = wB at *
      generalize v = vB at *
      generalize cs = csB at *
      generalize sv = svB at *
      generalize W = W1 at *
    rotate_left
    focus
      have HRJ := Lib.hid hRj
      have HSJ := Lib.hid hSj
      have HLJ := Lib.hid hLj
      have HQJ := Lib.hid hQj
      have HOJ := Lib.hid hOj
      have HUJ := Lib.hid hUj
      have HLO := Lib.hid hlo
      have HBJ := Lib.hid hb
      obtain ⟨s', L, hF⟩ := fol_ex HK.out.closed (100 + (j : Nat)) s (noneK g) HK.out.pos
      have HF := Lib.hid hF
      rw [hb] at hbc
      clear hJ hC hj hle hRj hSj hLj hQj hOj hUj hlo hBj hb hF
      go_upto_region 17 with (go_at_call 32; refine (smBegin ⟨A, cap, c, g, gr, gs⟩ HK.out (100 + (j : Nat)) ((j + 1 : Nat) : Int) HT.out.1 (by have := HT.out.2; omega) HF.out v cs W sv wr HSJ.out HLJ.out (by have := HUJ.out; have := HK.out.most; dsimp only at *; omega) HRJ.out).mono ?_; rintro e wB ⟨rfl, hres⟩)
      obtain ⟨vB, csB, svB, hMB, hsB, hlB, hNB⟩ := hres
      have HSB := Lib.hid (stepB_yes HK.out (w2 := w4) HBJ.out HCJ.out.size HQJ.out HOJ.out HUJ.out HLO.out HF.out hMB hlB hNB)
      have HCB := Lib.hid (RN.since HCJ.out HLO.out hNB)
      clear hbc hMB hsB hlB hNB HRJ HSJ HLJ HQJ HOJ HUJ HLO HF HBJ HCJ
      generalize (W ++ L.map fun e => (e.1, (100 : Int) + (j : Nat), e.2)) = W1 at *
    all_goals
      obtain ⟨ho, hho⟩ : ∃ ho, hitAt c (noneK g) 100 bg l j = ho := ⟨_, rfl⟩
      have HHO := Lib.hid hho
      have HQL := Lib.hid (show (capsH ho).length ≤ 18 from hho ▸ hit_len HK.out HJL.out)
      obtain ⟨is, his⟩ : ∃ is, isH ho = is := ⟨_, rfl⟩
      obtain ⟨f, hf⟩ : ∃ f, fromH ho = f := ⟨_, rfl⟩
      obtain ⟨q, hq⟩ : ∃ q, capsH ho = q := ⟨_, rfl⟩
      have HIS := Lib.hid his
      have HFF := Lib.hid hf
      have HQQ := Lib.hid hq
      rw [hq] at HQL
      have HCN := Lib.hid (show W1.length ≤ c.length from HSB.out.cnt)
      obtain ⟨n1, hn1⟩ : ∃ n1, W1.length = n1 := ⟨_, rfl⟩
      have HN1 := Lib.hid hn1
      have HN2 := Lib.hid (show n1 ≤ c.length from hn1 ▸ HCN.out)
      clear hn1
      clear hho his hf hq
      go_upto_region 18 with (first
        | (have := hans; refine store_hit rfl (.tmp 12) (.tmp 83) rfl (g := wC.heap.size) (old := [.int .i64 0, .slice none 0 0]) [.int .i64 f, .slice AC q.length cC] rfl rfl (Blk.newL wC 54 [.int .i64 0, .slice none 0 0]) rfl rfl rfl ?_)
        | (go_at_call 33; refine (smHit ⟨A, cap, c, g, gr, gs⟩ HK.out (100 + (j : Nat)) ((j + 1 : Nat) : Int) vB csB _ svB wB (by have := HCN.out; have := HLN.out; (try dsimp only at *); omega) (fun a ha => ⟨(HSB.out.ok a ha).1, by have := (HSB.out.ok a ha).2; have := HK.out.few; (try dsimp only at *); omega⟩) HSB.out.run).mono ?_; intro e wC hans; obtain ⟨AC, cC, rfl, hown, hxC⟩ := hitU hans (HSB.out.hit.trans HHO.out); rw [HIS.out, HFF.out, HQQ.out]; rw [HQQ.out] at hown; have hans := hxC))
      have hxD : Ext wC ((wC.alloc (.cells #[.int .i64 0, .slice none 0 0] 54)).setRow wC.heap.size #[.int .i64 f, .slice AC q.length cC]) := (Ext.new1 _ _).rowX _ _ (Nat.le_refl _)
      have HHB := Lib.hid (show Blk ((wC.alloc (.cells #[.int .i64 0, .slice none 0 0] 54)).setRow wC.heap.size #[.int .i64 f, .slice AC q.length cC]) wC.heap.size 54 [.int .i64 f, .slice AC q.length cC] from Blk.row (Blk.newL wC 54 [.int .i64 0, .slice none 0 0]) _)
      have HOD := Lib.hid (own_ext hown hxD)
      have HGK := Lib.hid (show wB.heap.size ≤ wC.heap.size ∧ ∀ k, (Value.slice AC q.length cC).ownBlock = some k → k < wC.heap.size from ⟨hxC.size, fun k hk => (hown.lt k hk).2⟩)
      have HXD := Lib.hid (Ext.trans hxC hxD)
      clear hown hxC hxD hans this
      generalize (wC.alloc (.cells #[.int .i64 0, .slice none 0 0] 54)).setRow wC.heap.size #[.int .i64 f, .slice AC q.length cC] = wD at *
      generalize wC.heap.size = gh at *
      obtain ⟨i1, hi1⟩ : ∃ i1, j + 1 = i1 := ⟨_, rfl⟩
      have HI1 := Lib.hid hi1
      have HWI := Lib.hid (show IntKind.i64.wrap ((j : Int) + 1) = (i1 : Int) from by rw [wrap_id (by omega) (by have := HLN.out; have := HJL.out; omega)]; omega)
      have HLT := Lib.hid (show (l.take j).length ≤ 1000 by rw [List.length_take]; have := HLN.out; omega)
      have HFB := Lib.hid (show ∀ j', j' ≤ (l.take j).length → ((bl.map Value.bool).take i1)[j']? = some (.bool (bg j')) from fun j' hj' => by
        rw [List.length_take] at hj'
        rw [List.getElem?_take, if_pos (by omega)]
        exact HBG.out j' (by omega))
      have HFH := Lib.hid (show hitAt c (noneK g) 100 bg (l.take j) (l.take j).length = ho from (hit_takeB HJL.out).trans HHO.out)
      obtain ⟨hPB, hDB, hBB2, hxB⟩ := HPK.out wB HCB.out
      have HPD := Lib.hid (hPB.keep HXD.out)
      have HDDD := Lib.hid (hDB.keep HXD.out)
      have HBD := Lib.hid (rd_take1 (hBB2.keep HXD.out) (m := i1) (by have := HLN.out; have := HJL.out; omega))
      have HII := Lib.hid (show (j : Int) ≤ (l.length : Int) ∧ (i1 : Int) ≤ (cb : Int) from ⟨by have := HJL.out; omega, by have := HNB.out; have := HLN.out; have := HJL.out; omega⟩)
      have HRD := Lib.hid (HSB.out.run.keep HXD.out)
      clear hi1 hPB hDB hBB2 hxB
      refine wp_region_dag (E := Ext) (w0 := wD) (Φ := fun i v w => match i with | 0 => (v = .slice BD c.length cD) | 1 => (v = .pointer (some ⟨gp, 1, none⟩)) | 2 => (v = .int .i64 (g : Nat)) | 3 => (v = .string ⟨l.toArray⟩) | 4 => (v = .int .i64 (j : Nat)) | 5 => (v = .string ⟨(l.take j).toArray⟩) | 6 => (v = .int .i64 100) | 7 => (v = .slice (some ⟨bB, oB, none⟩) nb cb) | 8 => (v = .int .i64 (j : Nat)) | 9 => (v = .int .i64 (i1 : Nat)) | 10 => (v = .slice (some ⟨bB, oB, none⟩) i1 cb) | 11 => (TupS f q is v w) | 12 => (TupS f q is v w) | 13 => (v = .int .i64 f) | 14 => (SlS q v w) | 15 => (v = .bool is) | 16 => (v = .int .i64 f) | 17 => (SlS q v w) | 18 => (v = .bool is) | _ => True) (show Tryd.prog.follows .mixedOrders = true from Checked.mixed Tryd.checked) 171 rfl (by decide +kernel) ?_ ((Below.refl _ _).drew) ?_ ⟨?_, ?_, ?_, ?_, ?_, ?_, ?_, ?_, ?_, ?_, ?_, ?_, ?_, ?_, ?_, ?_, ?_, ?_, ?_, trivial⟩ ?_
      · intro i v w w' h hE
        match i, h with
        | 0, h => exact h
        | 1, h => exact h
        | 2, h => exact h
        | 3, h => exact h
        | 4, h => exact h
        | 5, h => exact h
        | 6, h => exact h
        | 7, h => exact h
        | 8, h => exact h
        | 9, h => exact h
        | 10, h => exact h
        | 11, h => exact (by obtain ⟨A9, c9, g1, g2⟩ := h; exact ⟨A9, c9, g1, g2.keep hE⟩)
        | 12, h => exact (by obtain ⟨A9, c9, g1, g2⟩ := h; exact ⟨A9, c9, g1, g2.keep hE⟩)
        | 13, h => exact h
        | 14, h => exact (by obtain ⟨A9, c9, g1, g2⟩ := h; exact ⟨A9, c9, g1, g2.keep hE⟩)
        | 15, h => exact h
        | 16, h => exact h
        | 17, h => exact (by obtain ⟨A9, c9, g1, g2⟩ := h; exact ⟨A9, c9, g1, g2.keep hE⟩)
        | 18, h => exact h
        | _ + 19, _ => trivial
      · exact fun w w' h h' => h.trans h'
      ·
        intro ac wx hE hsz hdf h
        have e10 : ac.tmps[10]? = some (.slice BD c.length cD) := by obtain ⟨v, h1, h2⟩ := h 10 (by decide +kernel); exact h1.trans h2.symm
        clear h hsz hdf
        go_wp2
        exact ⟨_, rfl, rfl, Ext.refl _⟩
      ·
        intro ac wx hE hsz hdf h
        have e3 : ac.tmps[3]? = some (.pointer (some ⟨gp, 0, none⟩)) := by obtain ⟨v, h1, h2⟩ := h 3 (by decide +kernel); exact h1.trans h2.symm
        clear h hsz hdf
        go_wp2
        exact ⟨_, rfl, rfl, Ext.refl _⟩
      ·
        intro ac wx hE hsz hdf h
        have e87 : ac.tmps[87]? = some (.pointer (some ⟨gp, 1, none⟩)) := by obtain ⟨v, h1, h2⟩ := h 87 (by decide +kernel); rw [h1]; exact congrArg some h2
        clear h hsz hdf
        have hb := HPD.out.keep hE; have k1 := hb.cell 1
        go_wp2
        exact ⟨_, rfl, rfl, Ext.refl _⟩
      ·
        intro ac wx hE hsz hdf h
        have e1 : ac.tmps[1]? = some (.string ⟨l.toArray⟩) := by obtain ⟨v, h1, h2⟩ := h 1 (by decide +kernel); exact h1.trans h2.symm
        clear h hsz hdf
        go_wp2
        exact ⟨_, rfl, rfl, Ext.refl _⟩
      ·
        intro ac wx hE hsz hdf h
        have e11 : ac.tmps[11]? = some (.int .i64 (j : Nat)) := by obtain ⟨v, h1, h2⟩ := h 11 (by decide +kernel); exact h1.trans h2.symm
        clear h hsz hdf
        go_wp2
        exact ⟨_, rfl, rfl, Ext.refl _⟩
      ·
        intro ac wx hE hsz hdf h
        have e89 : ac.tmps[89]? = some (.string ⟨l.toArray⟩) := by obtain ⟨v, h1, h2⟩ := h 89 (by decide +kernel); rw [h1]; exact congrArg some h2
        have e90 : ac.tmps[90]? = some (.int .i64 (j : Nat)) := by obtain ⟨v, h1, h2⟩ := h 90 (by decide +kernel); rw [h1]; exact congrArg some h2
        clear h hsz hdf
        have hil := HII.out.1
        go_wp2
        exact ⟨_, rfl, rfl, Ext.refl _⟩
      ·
        intro ac wx hE hsz hdf h
        have e7 : ac.tmps[7]? = some (.int .i64 100) := by obtain ⟨v, h1, h2⟩ := h 7 (by decide +kernel); exact h1.trans h2.symm
        clear h hsz hdf
        go_wp2
        exact ⟨_, rfl, rfl, Ext.refl _⟩
      ·
        intro ac wx hE hsz hdf h
        have e2 : ac.tmps[2]? = some (.slice (some ⟨bB, oB, none⟩) nb cb) := by obtain ⟨v, h1, h2⟩ := h 2 (by decide +kernel); exact h1.trans h2.symm
        clear h hsz hdf
        go_wp2
        exact ⟨_, rfl, rfl, Ext.refl _⟩
      ·
        intro ac wx hE hsz hdf h
        have e11 : ac.tmps[11]? = some (.int .i64 (j : Nat)) := by obtain ⟨v, h1, h2⟩ := h 11 (by decide +kernel); exact h1.trans h2.symm
        clear h hsz hdf
        go_wp2
        exact ⟨_, rfl, rfl, Ext.refl _⟩
      ·
        intro ac wx hE hsz hdf h
        have e94 : ac.tmps[94]? = some (.int .i64 (j : Nat)) := by obtain ⟨v, h1, h2⟩ := h 94 (by decide +kernel); rw [h1]; exact congrArg some h2
        clear h hsz hdf
        have hwi := HWI.out
        go_wp2
        exact ⟨_, rfl, rfl, Ext.refl _⟩
      ·
        intro ac wx hE hsz hdf h
        have e93 : ac.tmps[93]? = some (.slice (some ⟨bB, oB, none⟩) nb cb) := by obtain ⟨v, h1, h2⟩ := h 93 (by decide +kernel); rw [h1]; exact congrArg some h2
        have e95 : ac.tmps[95]? = some (.int .i64 (i1 : Nat)) := by obtain ⟨v, h1, h2⟩ := h 95 (by decide +kernel); rw [h1]; exact congrArg some h2
        clear h hsz hdf
        have hil := HII.out.2
        go_wp2
        exact ⟨_, rfl, rfl, Ext.refl _⟩
      ·
        intro ac wx hE hsz hdf h
        have e86 : ac.tmps[86]? = some (.slice BD c.length cD) := by obtain ⟨v, h1, h2⟩ := h 86 (by decide +kernel); rw [h1]; exact congrArg some h2
        have e88 : ac.tmps[88]? = some (.int .i64 (g : Nat)) := by obtain ⟨v, h1, h2⟩ := h 88 (by decide +kernel); rw [h1]; exact congrArg some h2
        have e91 : ac.tmps[91]? = some (.string ⟨(l.take j).toArray⟩) := by obtain ⟨v, h1, h2⟩ := h 91 (by decide +kernel); rw [h1]; exact congrArg some h2
        have e92 : ac.tmps[92]? = some (.int .i64 100) := by obtain ⟨v, h1, h2⟩ := h 92 (by decide +kernel); rw [h1]; exact congrArg some h2
        have e96 : ac.tmps[96]? = some (.slice (some ⟨bB, oB, none⟩) i1 cb) := by obtain ⟨v, h1, h2⟩ := h 96 (by decide +kernel); rw [h1]; exact congrArg some h2
        clear h hsz hdf
        go_wp2_with ((go_at_call 26; refine (refFirst c g HK.out (l.take j) HLT.out 100 ⟨by omega, by omega⟩ bg ((bl.map Value.bool).take i1) HFB.out BD (some ⟨bB, oB, none⟩) cD i1 cb c.length rfl wx (HDDD.out.keep hE) (HBD.out.keep hE)).mono ?_; intro e w9 hres; obtain ⟨A9, c9, rfl, hr9, hx9⟩ := firstU hres HFH.out; rw [HIS.out, HFF.out, HQQ.out]; rw [HQQ.out] at hr9))
        exact ⟨_, rfl, ⟨A9, c9, rfl, hr9⟩, hx9⟩
      ·
        intro ac wx hE hsz hdf h
        obtain ⟨v97, e97, s97⟩ : ∃ v, ac.tmps[97]? = some v ∧ (TupS f q is v wx) := h 97 (by decide +kernel)
        clear h hsz hdf
        obtain ⟨A9, c9, rfl, hr9⟩ := s97
        go_wp2
        exact ⟨_, rfl, ⟨A9, c9, rfl, hr9⟩, Ext.refl _⟩
      ·
        intro ac wx hE hsz hdf h
        obtain ⟨v85, e85, s85⟩ : ∃ v, ac.tmps[85]? = some v ∧ (TupS f q is v wx) := h 85 (by decide +kernel)
        clear h hsz hdf
        obtain ⟨A9, c9, rfl, hr9⟩ := s85
        go_wp2
        exact ⟨_, rfl, rfl, Ext.refl _⟩
      ·
        intro ac wx hE hsz hdf h
        obtain ⟨v85, e85, s85⟩ : ∃ v, ac.tmps[85]? = some v ∧ (TupS f q is v wx) := h 85 (by decide +kernel)
        clear h hsz hdf
        obtain ⟨A9, c9, rfl, hr9⟩ := s85
        go_wp2
        exact ⟨_, rfl, ⟨A9, c9, rfl, hr9⟩, Ext.refl _⟩
      ·
        intro ac wx hE hsz hdf h
        obtain ⟨v85, e85, s85⟩ : ∃ v, ac.tmps[85]? = some v ∧ (TupS f q is v wx) := h 85 (by decide +kernel)
        clear h hsz hdf
        obtain ⟨A9, c9, rfl, hr9⟩ := s85
        go_wp2
        exact ⟨_, rfl, rfl, Ext.refl _⟩
      ·
        intro ac wx hE hsz hdf h
        have e98 : ac.tmps[98]? = some (.int .i64 f) := by obtain ⟨v, h1, h2⟩ := h 98 (by decide +kernel); rw [h1]; exact congrArg some h2
        clear h hsz hdf
        go_wp2
        exact ⟨_, rfl, rfl, Ext.refl _⟩
      ·
        intro ac wx hE hsz hdf h
        obtain ⟨v99, e99, s99⟩ : ∃ v, ac.tmps[99]? = some v ∧ (SlS q v wx) := h 99 (by decide +kernel)
        clear h hsz hdf
        obtain ⟨A9, c9, rfl, hr9⟩ := s99
        go_wp2
        exact ⟨_, rfl, ⟨A9, c9, rfl, hr9⟩, Ext.refl _⟩
      ·
        intro ac wx hE hsz hdf h
        have e100 : ac.tmps[100]? = some (.bool is) := by obtain ⟨v, h1, h2⟩ := h 100 (by decide +kernel); rw [h1]; exact congrArg some h2
        clear h hsz hdf
        go_wp2
        exact ⟨_, rfl, rfl, Ext.refl _⟩
      · intro ac w9 hE hsz hdf h hrest
        obtain ⟨v0, s0, g0⟩ := h 0 _ rfl
        have e0 := g0 86 rfl
        obtain rfl : v0 = .slice BD c.length cD := s0
        obtain ⟨v1, s1, g1⟩ := h 1 _ rfl
        have e1 := g1 87 rfl
        obtain rfl : v1 = .pointer (some ⟨gp, 1, none⟩) := s1
        obtain ⟨v2, s2, g2⟩ := h 2 _ rfl
        have e2 := g2 88 rfl
        obtain rfl : v2 = .int .i64 (g : Nat) := s2
        obtain ⟨v3, s3, g3⟩ := h 3 _ rfl
        have e3 := g3 89 rfl
        obtain rfl : v3 = .string ⟨l.toArray⟩ := s3
        obtain ⟨v4, s4, g4⟩ := h 4 _ rfl
        have e4 := g4 90 rfl
        obtain rfl : v4 = .int .i64 (j : Nat) := s4
        obtain ⟨v5, s5, g5⟩ := h 5 _ rfl
        have e5 := g5 91 rfl
        obtain rfl : v5 = .string ⟨(l.take j).toArray⟩ := s5
        obtain ⟨v6, s6, g6⟩ := h 6 _ rfl
        have e6 := g6 92 rfl
        obtain rfl : v6 = .int .i64 100 := s6
        obtain ⟨v7, s7, g7⟩ := h 7 _ rfl
        have e7 := g7 93 rfl
        obtain rfl : v7 = .slice (some ⟨bB, oB, none⟩) nb cb := s7
        obtain ⟨v8, s8, g8⟩ := h 8 _ rfl
        have e8 := g8 94 rfl
        obtain rfl : v8 = .int .i64 (j : Nat) := s8
        obtain ⟨v9, s9, g9⟩ := h 9 _ rfl
        have e9 := g9 95 rfl
        obtain rfl : v9 = .int .i64 (i1 : Nat) := s9
        obtain ⟨v10, s10, g10⟩ := h 10 _ rfl
        have e10 := g10 96 rfl
        obtain rfl : v10 = .slice (some ⟨bB, oB, none⟩) i1 cb := s10
        obtain ⟨v11, s11, g11⟩ := h 11 _ rfl
        have e11 := g11 97 rfl
        replace s11 : TupS f q is v11 w9 := s11
        obtain ⟨v12, s12, g12⟩ := h 12 _ rfl
        have e12 := g12 85 rfl
        replace s12 : TupS f q is v12 w9 := s12
        obtain ⟨v13, s13, g13⟩ := h 13 _ rfl
        have e13 := g13 98 rfl
        obtain rfl : v13 = .int .i64 f := s13
        obtain ⟨v14, s14, g14⟩ := h 14 _ rfl
        have e14 := g14 99 rfl
        replace s14 : SlS q v14 w9 := s14
        obtain ⟨v15, s15, g15⟩ := h 15 _ rfl
        have e15 := g15 100 rfl
        obtain rfl : v15 = .bool is := s15
        obtain ⟨v16, s16, g16⟩ := h 16 _ rfl
        have e16 := g16 14 rfl
        obtain rfl : v16 = .int .i64 f := s16
        obtain ⟨v17, s17, g17⟩ := h 17 _ rfl
        have e17 := g17 15 rfl
        replace s17 : SlS q v17 w9 := s17
        obtain ⟨v18, s18, g18⟩ := h 18 _ rfl
        have e18 := g18 16 rfl
        obtain rfl : v18 = .bool is := s18
        have ha := act_of [(86, .slice BD c.length cD), (87, .pointer (some ⟨gp, 1, none⟩)), (88, .int .i64 (g : Nat)), (89, .string ⟨l.toArray⟩), (90, .int .i64 (j : Nat)), (91, .string ⟨(l.take j).toArray⟩), (92, .int .i64 100), (93, .slice (some ⟨bB, oB, none⟩) nb cb), (94, .int .i64 (j : Nat)), (95, .int .i64 (i1 : Nat)), (96, .slice (some ⟨bB, oB, none⟩) i1 cb), (97, v11), (85, v12), (98, .int .i64 f), (99, v14), (100, .bool is), (14, .int .i64 f), (15, v17), (16, .bool is)] rfl hsz hdf (by intro p hp; simp only [List.mem_cons, List.not_mem_nil, or_false] at hp; rcases hp with rfl | rfl | rfl | rfl | rfl | rfl | rfl | rfl | rfl | rfl | rfl | rfl | rfl | rfl | rfl | rfl | rfl | rfl | rfl <;> first | exact e0 | exact e1 | exact e2 | exact e3 | exact e4 | exact e5 | exact e6 | exact e7 | exact e8 | exact e9 | exact e10 | exact e11 | exact e12 | exact e13 | exact e14 | exact e15 | exact e16 | exact e17 | exact e18) hrest
        clear h hrest hsz hdf e0 e1 e2 e3 e4 e5 e6 e7 e8 e9 e10 e11 e12 e13 e14 e15 e16 e17 e18 g0 g1 g2 g3 g4 g5 g6 g7 g8 g9 g10 g11 g12 g13 g14 g15 g16 g17 g18
        subst ha
        simp only [List.foldl_cons, List.foldl_nil, Act.put, List.setIfInBounds_toArray, List.set_cons_succ, List.set_cons_zero]
        obtain ⟨A9, c9, rfl, hr9⟩ := s17
        have HR9 := Lib.hid hr9
        have hxE := hE
        have HPE := Lib.hid (HPD.out.keep hxE)
        have HHE := Lib.hid (HHB.out.keep hxE)
        have HRE := Lib.hid (HRD.out.keep hxE)
        have HOE := Lib.hid (own_ext HOD.out hxE)
        have HXE := Lib.hid (Ext.trans HXD.out hxE)
        clear hxE hE hr9 s11 s12 s14
        generalize w9 = wE at *
        go_upto_region 19 with fail
        refine wp_region_dag (E := Ext) (w0 := wE) (Φ := fun i v w => match i with | 0 => (v = .bool is) | 1 => (v = .bool is) | 2 => (v = .bool false) | 3 => (v = .bool false) | 4 => (v = .pointer (some ⟨gh, 0, none⟩)) | 5 => (v = .int .i64 f) | 6 => (v = .int .i64 f) | 7 => (v = .bool false) | 8 => (v = .bool false) | 9 => (v = .bool false) | 10 => (v = .pointer (some ⟨gh, 1, none⟩)) | 11 => (v = .slice AC q.length cC) | 12 => (v = .slice A9 q.length c9) | 13 => (v = .bool true) | 14 => (v = .bool false) | 15 => (v = .bool false) | 16 => (v = .bool false) | 17 => (v = .pointer (some ⟨gr, 0, none⟩)) | 18 => (v = .int .i64 (100 + (j : Nat))) | 19 => (v = .int .i64 100) | 20 => (v = .int .i64 (j : Nat)) | 21 => (v = .int .i64 (100 + (j : Nat))) | 22 => (v = .bool false) | 23 => (v = .bool false) | 24 => (v = .bool false) | 25 => (v = .pointer (some ⟨gr, 0, none⟩)) | 26 => (v = .int .i64 (n1 : Nat)) | 27 => (v = .pointer (some ⟨gp, 0, none⟩)) | 28 => (v = .slice A c.length cap) | 29 => (v = .int .i64 (c.length : Nat)) | 30 => (v = .bool false) | 31 => (v = .bool false) | _ => True) (show Tryd.prog.follows .mixedOrders = true from Checked.mixed Tryd.checked) 171 rfl (by decide +kernel) ?_ ((Below.refl _ _).drew) ?_ ⟨?_, ?_, ?_, ?_, ?_, ?_, ?_, ?_, ?_, ?_, ?_, ?_, ?_, ?_, ?_, ?_, ?_, ?_, ?_, ?_, ?_, ?_, ?_, ?_, ?_, ?_, ?_, ?_, ?_, ?_, ?_, ?_, trivial⟩ ?_
        · intro i v w w' h hE
          match i, h with
          | 0, h => exact h
          | 1, h => exact h
          | 2, h => exact h
          | 3, h => exact h
          | 4, h => exact h
          | 5, h => exact h
          | 6, h => exact h
          | 7, h => exact h
          | 8, h => exact h
          | 9, h => exact h
          | 10, h => exact h
          | 11, h => exact h
          | 12, h => exact h
          | 13, h => exact h
          | 14, h => exact h
          | 15, h => exact h
          | 16, h => exact h
          | 17, h => exact h
          | 18, h => exact h
          | 19, h => exact h
          | 20, h => exact h
          | 21, h => exact h
          | 22, h => exact h
          | 23, h => exact h
          | 24, h => exact h
          | 25, h => exact h
          | 26, h => exact h
          | 27, h => exact h
          | 28, h => exact h
          | 29, h => exact h
          | 30, h => exact h
          | 31, h => exact h
          | _ + 32, _ => trivial
        · exact fun w w' h h' => h.trans h'
        ·
          intro ac2 wx hE hsz hdf h
          have e13 : ac2.tmps[13]? = some (.bool is) := by obtain ⟨v, h1, h2⟩ := h 13 (by decide +kernel); exact h1.trans h2.symm
          clear h hsz hdf
          go_wp2
          exact ⟨_, rfl, rfl, Ext.refl _⟩
        ·
          intro ac2 wx hE hsz hdf h
          have e16 : ac2.tmps[16]? = some (.bool is) := by obtain ⟨v, h1, h2⟩ := h 16 (by decide +kernel); exact h1.trans h2.symm
          clear h hsz hdf
          go_wp2
          exact ⟨_, rfl, rfl, Ext.refl _⟩
        ·
          intro ac2 wx hE hsz hdf h
          have e101 : ac2.tmps[101]? = some (.bool is) := by obtain ⟨v, h1, h2⟩ := h 101 (by decide +kernel); rw [h1]; exact congrArg some h2
          have e102 : ac2.tmps[102]? = some (.bool is) := by obtain ⟨v, h1, h2⟩ := h 102 (by decide +kernel); rw [h1]; exact congrArg some h2
          clear h hsz hdf
          go_wp2
          exact ⟨_, rfl, rfl, Ext.refl _⟩
        ·
          intro ac2 wx hE hsz hdf h
          have e103 : ac2.tmps[103]? = some (.bool false) := by obtain ⟨v, h1, h2⟩ := h 103 (by decide +kernel); rw [h1]; exact congrArg some h2
          clear h hsz hdf
          go_wp2
          exact ⟨_, rfl, rfl, Ext.refl _⟩
        ·
          intro ac2 wx hE hsz hdf h
          have e12 : ac2.tmps[12]? = some (.pointer (some ⟨gh, 0, none⟩)) := by obtain ⟨v, h1, h2⟩ := h 12 (by decide +kernel); exact h1.trans h2.symm
          have e104 : ac2.tmps[104]? = some (.bool false) := by obtain ⟨v, h1, h2⟩ := h 104 (by decide +kernel); rw [h1]; exact congrArg some h2
          clear h hsz hdf
          go_wp2
          exact ⟨_, rfl, rfl, Ext.refl _⟩
        ·
          intro ac2 wx hE hsz hdf h
          have e105 : ac2.tmps[105]? = some (.pointer (some ⟨gh, 0, none⟩)) := by obtain ⟨v, h1, h2⟩ := h 105 (by decide +kernel); rw [h1]; exact congrArg some h2
          have e104 : ac2.tmps[104]? = some (.bool false) := by obtain ⟨v, h1, h2⟩ := h 104 (by decide +kernel); rw [h1]; exact congrArg some h2
          clear h hsz hdf
          have hb := HHE.out.keep hE; have k0 := hb.cell 0
          go_wp2
          exact ⟨_, rfl, rfl, Ext.refl _⟩
        ·
          intro ac2 wx hE hsz hdf h
          have e14 : ac2.tmps[14]? = some (.int .i64 f) := by obtain ⟨v, h1, h2⟩ := h 14 (by decide +kernel); exact h1.trans h2.symm
          have e104 : ac2.tmps[104]? = some (.bool false) := by obtain ⟨v, h1, h2⟩ := h 104 (by decide +kernel); rw [h1]; exact congrArg some h2
          clear h hsz hdf
          go_wp2
          exact ⟨_, rfl, rfl, Ext.refl _⟩
        ·
          intro ac2 wx hE hsz hdf h
          have e106 : ac2.tmps[106]? = some (.int .i64 f) := by obtain ⟨v, h1, h2⟩ := h 106 (by decide +kernel); rw [h1]; exact congrArg some h2
          have e107 : ac2.tmps[107]? = some (.int .i64 f) := by obtain ⟨v, h1, h2⟩ := h 107 (by decide +kernel); rw [h1]; exact congrArg some h2
          have e104 : ac2.tmps[104]? = some (.bool false) := by obtain ⟨v, h1, h2⟩ := h 104 (by decide +kernel); rw [h1]; exact congrArg some h2
          clear h hsz hdf
          go_wp2
          exact ⟨_, rfl, rfl, Ext.refl _⟩
        ·
          intro ac2 wx hE hsz hdf h
          have e104 : ac2.tmps[104]? = some (.bool false) := by obtain ⟨v, h1, h2⟩ := h 104 (by decide +kernel); rw [h1]; exact congrArg some h2
          have e108 : ac2.tmps[108]? = some (.bool false) := by obtain ⟨v, h1, h2⟩ := h 108 (by decide +kernel); rw [h1]; exact congrArg some h2
          clear h hsz hdf
          go_wp2
          exact ⟨_, rfl, rfl, Ext.refl _⟩
        ·
          intro ac2 wx hE hsz hdf h
          have e109 : ac2.tmps[109]? = some (.bool false) := by obtain ⟨v, h1, h2⟩ := h 109 (by decide +kernel); rw [h1]; exact congrArg some h2
          clear h hsz hdf
          go_wp2
          exact ⟨_, rfl, rfl, Ext.refl _⟩
        ·
          intro ac2 wx hE hsz hdf h
          have e12 : ac2.tmps[12]? = some (.pointer (some ⟨gh, 0, none⟩)) := by obtain ⟨v, h1, h2⟩ := h 12 (by decide +kernel); exact h1.trans h2.symm
          have e110 : ac2.tmps[110]? = some (.bool false) := by obtain ⟨v, h1, h2⟩ := h 110 (by decide +kernel); rw [h1]; exact congrArg some h2
          clear h hsz hdf
          go_wp2
          exact ⟨_, rfl, rfl, Ext.refl _⟩
        ·
          intro ac2 wx hE hsz hdf h
          have e111 : ac2.tmps[111]? = some (.pointer (some ⟨gh, 1, none⟩)) := by obtain ⟨v, h1, h2⟩ := h 111 (by decide +kernel); rw [h1]; exact congrArg some h2
          have e110 : ac2.tmps[110]? = some (.bool false) := by obtain ⟨v, h1, h2⟩ := h 110 (by decide +kernel); rw [h1]; exact congrArg some h2
          clear h hsz hdf
          have hb := HHE.out.keep hE; have k1 := hb.cell 1
          go_wp2
          exact ⟨_, rfl, rfl, Ext.refl _⟩
        ·
          intro ac2 wx hE hsz hdf h
          have e15 : ac2.tmps[15]? = some (.slice A9 q.length c9) := by obtain ⟨v, h1, h2⟩ := h 15 (by decide +kernel); exact h1.trans h2.symm
          have e110 : ac2.tmps[110]? = some (.bool false) := by obtain ⟨v, h1, h2⟩ := h 110 (by decide +kernel); rw [h1]; exact congrArg some h2
          clear h hsz hdf
          go_wp2
          exact ⟨_, rfl, rfl, Ext.refl _⟩
        ·
          intro ac2 wx hE hsz hdf h
          have e112 : ac2.tmps[112]? = some (.slice AC q.length cC) := by obtain ⟨v, h1, h2⟩ := h 112 (by decide +kernel); rw [h1]; exact congrArg some h2
          have e113 : ac2.tmps[113]? = some (.slice A9 q.length c9) := by obtain ⟨v, h1, h2⟩ := h 113 (by decide +kernel); rw [h1]; exact congrArg some h2
          have e110 : ac2.tmps[110]? = some (.bool false) := by obtain ⟨v, h1, h2⟩ := h 110 (by decide +kernel); rw [h1]; exact congrArg some h2
          clear h hsz hdf
          go_wp2_with ((go_at_call 28; refine (sameInts q q AC A9 q.length cC q.length c9 wx (by obtain ⟨A8, c8, e8, _, _, hr8⟩ := own_rd (own_ext HOE.out hE); cases e8; exact hr8) (HR9.out.keep hE) (by have := HQL.out; omega) (by have := HQL.out; omega) true (by simp)).mono ?_; rintro e wz ⟨rfl, hxz⟩))
          exact ⟨_, rfl, rfl, hxz⟩
        ·
          intro ac2 wx hE hsz hdf h
          have e114 : ac2.tmps[114]? = some (.bool true) := by obtain ⟨v, h1, h2⟩ := h 114 (by decide +kernel); rw [h1]; exact congrArg some h2
          have e110 : ac2.tmps[110]? = some (.bool false) := by obtain ⟨v, h1, h2⟩ := h 110 (by decide +kernel); rw [h1]; exact congrArg some h2
          clear h hsz hdf
          go_wp2
          exact ⟨_, rfl, rfl, Ext.refl _⟩
        ·
          intro ac2 wx hE hsz hdf h
          have e110 : ac2.tmps[110]? = some (.bool false) := by obtain ⟨v, h1, h2⟩ := h 110 (by decide +kernel); rw [h1]; exact congrArg some h2
          have e115 : ac2.tmps[115]? = some (.bool false) := by obtain ⟨v, h1, h2⟩ := h 115 (by decide +kernel); rw [h1]; exact congrArg some h2
          clear h hsz hdf
          go_wp2
          exact ⟨_, rfl, rfl, Ext.refl _⟩
        ·
          intro ac2 wx hE hsz hdf h
          have e116 : ac2.tmps[116]? = some (.bool false) := by obtain ⟨v, h1, h2⟩ := h 116 (by decide +kernel); rw [h1]; exact congrArg some h2
          clear h hsz hdf
          go_wp2
          exact ⟨_, rfl, rfl, Ext.refl _⟩
        ·
          intro ac2 wx hE hsz hdf h
          have e8 : ac2.tmps[8]? = some (.pointer (some ⟨gr, 0, none⟩)) := by obtain ⟨v, h1, h2⟩ := h 8 (by decide +kernel); exact h1.trans h2.symm
          have e117 : ac2.tmps[117]? = some (.bool false) := by obtain ⟨v, h1, h2⟩ := h 117 (by decide +kernel); rw [h1]; exact congrArg some h2
          clear h hsz hdf
          go_wp2
          exact ⟨_, rfl, rfl, Ext.refl _⟩
        ·
          intro ac2 wx hE hsz hdf h
          have e118 : ac2.tmps[118]? = some (.pointer (some ⟨gr, 0, none⟩)) := by obtain ⟨v, h1, h2⟩ := h 118 (by decide +kernel); rw [h1]; exact congrArg some h2
          have e117 : ac2.tmps[117]? = some (.bool false) := by obtain ⟨v, h1, h2⟩ := h 117 (by decide +kernel); rw [h1]; exact congrArg some h2
          clear h hsz hdf
          go_wp2_with ((go_at_call 34; refine (smAt ⟨A, cap, c, g, gr, gs⟩ (100 + (j : Nat)) _ vB _ _ _ wx (HRE.out.keep hE)).mono ?_; rintro e wz ⟨rfl, hwz⟩; obtain rfl : wx = wz := hwz.symm))
          exact ⟨_, rfl, rfl, Ext.refl _⟩
        ·
          intro ac2 wx hE hsz hdf h
          have e7 : ac2.tmps[7]? = some (.int .i64 100) := by obtain ⟨v, h1, h2⟩ := h 7 (by decide +kernel); exact h1.trans h2.symm
          have e117 : ac2.tmps[117]? = some (.bool false) := by obtain ⟨v, h1, h2⟩ := h 117 (by decide +kernel); rw [h1]; exact congrArg some h2
          clear h hsz hdf
          go_wp2
          exact ⟨_, rfl, rfl, Ext.refl _⟩
        ·
          intro ac2 wx hE hsz hdf h
          have e11 : ac2.tmps[11]? = some (.int .i64 (j : Nat)) := by obtain ⟨v, h1, h2⟩ := h 11 (by decide +kernel); exact h1.trans h2.symm
          have e117 : ac2.tmps[117]? = some (.bool false) := by obtain ⟨v, h1, h2⟩ := h 117 (by decide +kernel); rw [h1]; exact congrArg some h2
          clear h hsz hdf
          go_wp2
          exact ⟨_, rfl, rfl, Ext.refl _⟩
        ·
          intro ac2 wx hE hsz hdf h
          have e120 : ac2.tmps[120]? = some (.int .i64 100) := by obtain ⟨v, h1, h2⟩ := h 120 (by decide +kernel); rw [h1]; exact congrArg some h2
          have e121 : ac2.tmps[121]? = some (.int .i64 (j : Nat)) := by obtain ⟨v, h1, h2⟩ := h 121 (by decide +kernel); rw [h1]; exact congrArg some h2
          have e117 : ac2.tmps[117]? = some (.bool false) := by obtain ⟨v, h1, h2⟩ := h 117 (by decide +kernel); rw [h1]; exact congrArg some h2
          clear h hsz hdf
          have hw9 : IntKind.i64.wrap ((100 : Int) + (j : Int)) = 100 + (j : Int) := wrap_id (by omega) (by have := HLN.out; have := HJL.out; omega)
          go_wp2
          exact ⟨_, rfl, rfl, Ext.refl _⟩
        ·
          intro ac2 wx hE hsz hdf h
          have e119 : ac2.tmps[119]? = some (.int .i64 (100 + (j : Nat))) := by obtain ⟨v, h1, h2⟩ := h 119 (by decide +kernel); rw [h1]; exact congrArg some h2
          have e122 : ac2.tmps[122]? = some (.int .i64 (100 + (j : Nat))) := by obtain ⟨v, h1, h2⟩ := h 122 (by decide +kernel); rw [h1]; exact congrArg some h2
          have e117 : ac2.tmps[117]? = some (.bool false) := by obtain ⟨v, h1, h2⟩ := h 117 (by decide +kernel); rw [h1]; exact congrArg some h2
          clear h hsz hdf
          go_wp2
          exact ⟨_, rfl, rfl, Ext.refl _⟩
        ·
          intro ac2 wx hE hsz hdf h
          have e117 : ac2.tmps[117]? = some (.bool false) := by obtain ⟨v, h1, h2⟩ := h 117 (by decide +kernel); rw [h1]; exact congrArg some h2
          have e123 : ac2.tmps[123]? = some (.bool false) := by obtain ⟨v, h1, h2⟩ := h 123 (by decide +kernel); rw [h1]; exact congrArg some h2
          clear h hsz hdf
          go_wp2
          exact ⟨_, rfl, rfl, Ext.refl _⟩
        ·
          intro ac2 wx hE hsz hdf h
          have e124 : ac2.tmps[124]? = some (.bool false) := by obtain ⟨v, h1, h2⟩ := h 124 (by decide +kernel); rw [h1]; exact congrArg some h2
          clear h hsz hdf
          go_wp2
          exact ⟨_, rfl, rfl, Ext.refl _⟩
        ·
          intro ac2 wx hE hsz hdf h
          have e8 : ac2.tmps[8]? = some (.pointer (some ⟨gr, 0, none⟩)) := by obtain ⟨v, h1, h2⟩ := h 8 (by decide +kernel); exact h1.trans h2.symm
          have e125 : ac2.tmps[125]? = some (.bool false) := by obtain ⟨v, h1, h2⟩ := h 125 (by decide +kernel); rw [h1]; exact congrArg some h2
          clear h hsz hdf
          go_wp2
          exact ⟨_, rfl, rfl, Ext.refl _⟩
        ·
          intro ac2 wx hE hsz hdf h
          have e126 : ac2.tmps[126]? = some (.pointer (some ⟨gr, 0, none⟩)) := by obtain ⟨v, h1, h2⟩ := h 126 (by decide +kernel); rw [h1]; exact congrArg some h2
          have e125 : ac2.tmps[125]? = some (.bool false) := by obtain ⟨v, h1, h2⟩ := h 125 (by decide +kernel); rw [h1]; exact congrArg some h2
          clear h hsz hdf
          go_wp2_with ((go_at_call 35; refine (smLen ⟨A, cap, c, g, gr, gs⟩ (100 + (j : Nat)) _ vB _ _ _ wx (HRE.out.keep hE) n1 HN1.out).mono ?_; rintro e wz ⟨rfl, hwz⟩; obtain rfl : wx = wz := hwz.symm))
          exact ⟨_, rfl, rfl, Ext.refl _⟩
        ·
          intro ac2 wx hE hsz hdf h
          have e3 : ac2.tmps[3]? = some (.pointer (some ⟨gp, 0, none⟩)) := by obtain ⟨v, h1, h2⟩ := h 3 (by decide +kernel); exact h1.trans h2.symm
          have e125 : ac2.tmps[125]? = some (.bool false) := by obtain ⟨v, h1, h2⟩ := h 125 (by decide +kernel); rw [h1]; exact congrArg some h2
          clear h hsz hdf
          go_wp2
          exact ⟨_, rfl, rfl, Ext.refl _⟩
        ·
          intro ac2 wx hE hsz hdf h
          have e128 : ac2.tmps[128]? = some (.pointer (some ⟨gp, 0, none⟩)) := by obtain ⟨v, h1, h2⟩ := h 128 (by decide +kernel); rw [h1]; exact congrArg some h2
          have e125 : ac2.tmps[125]? = some (.bool false) := by obtain ⟨v, h1, h2⟩ := h 125 (by decide +kernel); rw [h1]; exact congrArg some h2
          clear h hsz hdf
          have hb := HPE.out.keep hE; have k0 := hb.cell 0
          go_wp2
          exact ⟨_, rfl, rfl, Ext.refl _⟩
        ·
          intro ac2 wx hE hsz hdf h
          have e129 : ac2.tmps[129]? = some (.slice A c.length cap) := by obtain ⟨v, h1, h2⟩ := h 129 (by decide +kernel); rw [h1]; exact congrArg some h2
          have e125 : ac2.tmps[125]? = some (.bool false) := by obtain ⟨v, h1, h2⟩ := h 125 (by decide +kernel); rw [h1]; exact congrArg some h2
          clear h hsz hdf
          go_wp2
          exact ⟨_, rfl, rfl, Ext.refl _⟩
        ·
          intro ac2 wx hE hsz hdf h
          have e127 : ac2.tmps[127]? = some (.int .i64 (n1 : Nat)) := by obtain ⟨v, h1, h2⟩ := h 127 (by decide +kernel); rw [h1]; exact congrArg some h2
          have e130 : ac2.tmps[130]? = some (.int .i64 (c.length : Nat)) := by obtain ⟨v, h1, h2⟩ := h 130 (by decide +kernel); rw [h1]; exact congrArg some h2
          have e125 : ac2.tmps[125]? = some (.bool false) := by obtain ⟨v, h1, h2⟩ := h 125 (by decide +kernel); rw [h1]; exact congrArg some h2
          clear h hsz hdf
          have hcn : ¬ (c.length : Int) < (n1 : Int) := by have := HN2.out; omega
          go_wp2
          exact ⟨_, rfl, rfl, Ext.refl _⟩
        ·
          intro ac2 wx hE hsz hdf h
          have e125 : ac2.tmps[125]? = some (.bool false) := by obtain ⟨v, h1, h2⟩ := h 125 (by decide +kernel); rw [h1]; exact congrArg some h2
          have e131 : ac2.tmps[131]? = some (.bool false) := by obtain ⟨v, h1, h2⟩ := h 131 (by decide +kernel); rw [h1]; exact congrArg some h2
          clear h hsz hdf
          go_wp2
          exact ⟨_, rfl, rfl, Ext.refl _⟩
        · intro ac2 w9 hE hsz hdf h hrest
          obtain ⟨v0, s0, g0⟩ := h 0 _ rfl
          have e0 := g0 101 rfl
          obtain rfl : v0 = .bool is := s0
          obtain ⟨v1, s1, g1⟩ := h 1 _ rfl
          have e1 := g1 102 rfl
          obtain rfl : v1 = .bool is := s1
          obtain ⟨v2, s2, g2⟩ := h 2 _ rfl
          have e2 := g2 103 rfl
          obtain rfl : v2 = .bool false := s2
          obtain ⟨v3, s3, g3⟩ := h 3 _ rfl
          have e3 := g3 104 rfl
          obtain rfl : v3 = .bool false := s3
          obtain ⟨v4, s4, g4⟩ := h 4 _ rfl
          have e4 := g4 105 rfl
          obtain rfl : v4 = .pointer (some ⟨gh, 0, none⟩) := s4
          obtain ⟨v5, s5, g5⟩ := h 5 _ rfl
          have e5 := g5 106 rfl
          obtain rfl : v5 = .int .i64 f := s5
          obtain ⟨v6, s6, g6⟩ := h 6 _ rfl
          have e6 := g6 107 rfl
          obtain rfl : v6 = .int .i64 f := s6
          obtain ⟨v7, s7, g7⟩ := h 7 _ rfl
          have e7 := g7 108 rfl
          obtain rfl : v7 = .bool false := s7
          obtain ⟨v8, s8, g8⟩ := h 8 _ rfl
          have e8 := g8 109 rfl
          obtain rfl : v8 = .bool false := s8
          obtain ⟨v9, s9, g9⟩ := h 9 _ rfl
          have e9 := g9 110 rfl
          obtain rfl : v9 = .bool false := s9
          obtain ⟨v10, s10, g10⟩ := h 10 _ rfl
          have e10 := g10 111 rfl
          obtain rfl : v10 = .pointer (some ⟨gh, 1, none⟩) := s10
          obtain ⟨v11, s11, g11⟩ := h 11 _ rfl
          have e11 := g11 112 rfl
          obtain rfl : v11 = .slice AC q.length cC := s11
          obtain ⟨v12, s12, g12⟩ := h 12 _ rfl
          have e12 := g12 113 rfl
          obtain rfl : v12 = .slice A9 q.length c9 := s12
          obtain ⟨v13, s13, g13⟩ := h 13 _ rfl
          have e13 := g13 114 rfl
          obtain rfl : v13 = .bool true := s13
          obtain ⟨v14, s14, g14⟩ := h 14 _ rfl
          have e14 := g14 115 rfl
          obtain rfl : v14 = .bool false := s14
          obtain ⟨v15, s15, g15⟩ := h 15 _ rfl
          have e15 := g15 116 rfl
          obtain rfl : v15 = .bool false := s15
          obtain ⟨v16, s16, g16⟩ := h 16 _ rfl
          have e16 := g16 117 rfl
          obtain rfl : v16 = .bool false := s16
          obtain ⟨v17, s17, g17⟩ := h 17 _ rfl
          have e17 := g17 118 rfl
          obtain rfl : v17 = .pointer (some ⟨gr, 0, none⟩) := s17
          obtain ⟨v18, s18, g18⟩ := h 18 _ rfl
          have e18 := g18 119 rfl
          obtain rfl : v18 = .int .i64 (100 + (j : Nat)) := s18
          obtain ⟨v19, s19, g19⟩ := h 19 _ rfl
          have e19 := g19 120 rfl
          obtain rfl : v19 = .int .i64 100 := s19
          obtain ⟨v20, s20, g20⟩ := h 20 _ rfl
          have e20 := g20 121 rfl
          obtain rfl : v20 = .int .i64 (j : Nat) := s20
          obtain ⟨v21, s21, g21⟩ := h 21 _ rfl
          have e21 := g21 122 rfl
          obtain rfl : v21 = .int .i64 (100 + (j : Nat)) := s21
          obtain ⟨v22, s22, g22⟩ := h 22 _ rfl
          have e22 := g22 123 rfl
          obtain rfl : v22 = .bool false := s22
          obtain ⟨v23, s23, g23⟩ := h 23 _ rfl
          have e23 := g23 124 rfl
          obtain rfl : v23 = .bool false := s23
          obtain ⟨v24, s24, g24⟩ := h 24 _ rfl
          have e24 := g24 125 rfl
          obtain rfl : v24 = .bool false := s24
          obtain ⟨v25, s25, g25⟩ := h 25 _ rfl
          have e25 := g25 126 rfl
          obtain rfl : v25 = .pointer (some ⟨gr, 0, none⟩) := s25
          obtain ⟨v26, s26, g26⟩ := h 26 _ rfl
          have e26 := g26 127 rfl
          obtain rfl : v26 = .int .i64 (n1 : Nat) := s26
          obtain ⟨v27, s27, g27⟩ := h 27 _ rfl
          have e27 := g27 128 rfl
          obtain rfl : v27 = .pointer (some ⟨gp, 0, none⟩) := s27
          obtain ⟨v28, s28, g28⟩ := h 28 _ rfl
          have e28 := g28 129 rfl
          obtain rfl : v28 = .slice A c.length cap := s28
          obtain ⟨v29, s29, g29⟩ := h 29 _ rfl
          have e29 := g29 130 rfl
          obtain rfl : v29 = .int .i64 (c.length : Nat) := s29
          obtain ⟨v30, s30, g30⟩ := h 30 _ rfl
          have e30 := g30 131 rfl
          obtain rfl : v30 = .bool false := s30
          obtain ⟨v31, s31, g31⟩ := h 31 _ rfl
          have e31 := g31 132 rfl
          obtain rfl : v31 = .bool false := s31
          have ha := act_of [(101, .bool is), (102, .bool is), (103, .bool false), (104, .bool false), (105, .pointer (some ⟨gh, 0, none⟩)), (106, .int .i64 f), (107, .int .i64 f), (108, .bool false), (109, .bool false), (110, .bool false), (111, .pointer (some ⟨gh, 1, none⟩)), (112, .slice AC q.length cC), (113, .slice A9 q.length c9), (114, .bool true), (115, .bool false), (116, .bool false), (117, .bool false), (118, .pointer (some ⟨gr, 0, none⟩)), (119, .int .i64 (100 + (j : Nat))), (120, .int .i64 100), (121, .int .i64 (j : Nat)), (122, .int .i64 (100 + (j : Nat))), (123, .bool false), (124, .bool false), (125, .bool false), (126, .pointer (some ⟨gr, 0, none⟩)), (127, .int .i64 (n1 : Nat)), (128, .pointer (some ⟨gp, 0, none⟩)), (129, .slice A c.length cap), (130, .int .i64 (c.length : Nat)), (131, .bool false), (132, .bool false)] rfl hsz hdf (by intro p hp; simp only [List.mem_cons, List.not_mem_nil, or_false] at hp; rcases hp with rfl | rfl | rfl | rfl | rfl | rfl | rfl | rfl | rfl | rfl | rfl | rfl | rfl | rfl | rfl | rfl | rfl | rfl | rfl | rfl | rfl | rfl | rfl | rfl | rfl | rfl | rfl | rfl | rfl | rfl | rfl | rfl <;> first | exact e0 | exact e1 | exact e2 | exact e3 | exact e4 | exact e5 | exact e6 | exact e7 | exact e8 | exact e9 | exact e10 | exact e11 | exact e12 | exact e13 | exact e14 | exact e15 | exact e16 | exact e17 | exact e18 | exact e19 | exact e20 | exact e21 | exact e22 | exact e23 | exact e24 | exact e25 | exact e26 | exact e27 | exact e28 | exact e29 | exact e30 | exact e31) hrest
          clear h hrest hsz hdf e0 e1 e2 e3 e4 e5 e6 e7 e8 e9 e10 e11 e12 e13 e14 e15 e16 e17 e18 e19 e20 e21 e22 e23 e24 e25 e26 e27 e28 e29 e30 e31 g0 g1 g2 g3 g4 g5 g6 g7 g8 g9 g10 g11 g12 g13 g14 g15 g16 g17 g18 g19 g20 g21 g22 g23 g24 g25 g26 g27 g28 g29 g30 g31
          subst ha
          simp only [List.foldl_cons, List.foldl_nil, Act.put, List.setIfInBounds_toArray, List.set_cons_succ, List.set_cons_zero]
          have HXF := Lib.hid (Ext.trans HXE.out hE)
          have HHF := Lib.hid (HHE.out.keep hE)
          have HOF := Lib.hid (own_ext HOE.out hE)
          clear hE
          generalize w9 = wF at *
          have u1 := HHF.out.cell 1
          go_wp2
          clear u1
          generalize wF = wG at *
          go_loopg [136] q.length (fun gg kv wr => ∃ k : Nat, k ≤ q.length ∧ gg = q.length - k ∧ kv = .int .i64 (k : Nat) ∧ Ext wB wr ∧ Blk wr gh 54 [.int .i64 f, .slice AC q.length cC] ∧ ∃ xs, wr.ownsRow wB.heap.size 3 1 (.slice AC q.length cC) q.length xs)
          case atStart => exact ⟨0, by omega, rfl, rfl, HXF.out, HHF.out, _, HOF.out⟩
          case round =>
            obtain ⟨k, hk, rfl, rfl, hx2, hB2, xs, ho2⟩ := hrel
            by_cases hkl : k < q.length
            · obtain ⟨ga, c1, hA, _, _, hga, _, hfr, hcell⟩ := own_blk1 ho2 (by omega)
              cases hA
              have hxl := ho2.1
              obtain ⟨u, hu⟩ : ∃ u, xs[k]? = some u := ⟨_, List.getElem?_eq_getElem (by omega)⟩
              have y0 := hcell k u hu
              have y1 := hfr k
              have y2 := hB2.cell 1
              have hkl' : (k : Int) < (q.length : Int) := by omega
              have hwk : IntKind.i64.wrap ((k : Int) + 1) = (k : Int) + 1 := wrap_id (by omega) (by have := HQL.out; omega)
              have HX2 := Lib.hid ((hx2.setCell (p := ⟨ga, k, none⟩) hga (.int .i64 7) : Ext wB (wr.setCell ⟨ga, k, none⟩ (.int .i64 7))))
              have HB2 := Lib.hid (hB2.chg ((Chg.refl [ga] wr).setCell (p := ⟨ga, k, none⟩) (by simp) (.int .i64 7)) (by have := HGK.out.2 ga rfl; simp; omega))
              have HO2 := Lib.hid (own_set8 ho2 (i := k) (.int .i64 7))
              clear hx2 hB2 ho2 hcell hfr hu hxl hga
              go_wp2
              go_roundg (q.length - (k + 1))
              case measure => omega
              case rel => exact ⟨k + 1, by omega, rfl, by go_num, HX2.out, HB2.out, _, HO2.out⟩
            · obtain rfl : k = q.length := by omega
              have hkl' : ¬ (q.length : Int) < (q.length : Int) := by omega
              have HX2 := Lib.hid hx2
              have HRX := Lib.hid (HSB.out.run.keep hx2)
              clear hx2 hB2 ho2 hk
              have hwj : IntKind.i64.wrap ((j : Int) + 1) = (j : Int) + 1 := wrap_id (by omega) (by have := HLN.out; have := HJL.out; omega)
              generalize wr = wH at *
              by_cases hlt : j < l.length
              · have hlt' : (j : Int) < (l.length : Int) := by omega
                go_wp2_with (go_at_call 36; go_loud (refine (smStep ⟨A, cap, c, g, gr, gs⟩ HK.out (100 + (j : Nat)) ((j + 1 : Nat) : Int) (by omega) (by have := HLN.out; omega) HT.out.1 HT.out.2 vB csB _ svB wH (l[j]'hlt) HSB.out.le (by have := HCN.out; have := HLN.out; omega) HSB.out.ok HRX.out).mono ?_); rintro e wS ⟨rfl, hstep⟩)
                go_roundg (l.length + 1 - (j + 1))
                case measure => omega
                case rel =>
                  obtain ⟨v2, cs2, W2, sv2, s2, hM2, hs2, hl2, hQ2, hO2, hU2, hN2⟩ := hstep
                  have ej : (100 : Int) + (j : Nat) + 1 = 100 + ((j + 1 : Nat) : Int) := by omega
                  have et : ((j + 1 : Nat) : Int) + 1 = ((j + 1 + 1 : Nat) : Int) := by omega
                  have hst := HSB.out.next _ s2 W2 (List.getElem?_eq_getElem hlt) hQ2
                  rw [ej, et] at hM2
                  rw [et] at hs2 hl2
                  have hCH := HCB.out.trans (.of_ext HX2.out)
                  refine ⟨j + 1, by omega, rfl, by go_num, RN.since hCH HSB.out.low hN2, fun _ => ⟨v2, cs2, W2, sv2, s2, hM2, hs2, hl2, hst, hO2, hU2, fun k hk => ?_⟩⟩
                  rcases hN2.at_ k hk with h | h
                  · exact HSB.out.low k h
                  · have := hCH.size; omega
              · have hlt' : ¬ (j : Int) < (l.length : Int) := by omega
                go_wp2
                go_roundg (l.length + 1 - (j + 1))
                case measure => have := HJL.out; omega
                case rel => exact ⟨j + 1, by have := HJL.out; omega, rfl, by go_num, HCB.out.trans (.of_ext HX2.out), fun h => by omega⟩
end Go.Proofs.YtdhmfgaiomfodaaDoor
